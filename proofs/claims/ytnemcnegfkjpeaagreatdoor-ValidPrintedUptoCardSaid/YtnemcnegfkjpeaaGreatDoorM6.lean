import Derived.Lib.ItoaMem
import Derived.Lib.ParseIntBTie
import Derived.Lib.ValidLaws
import Derived.Test.YtnemcnegfkjpeaaGreatDoorM5
set_option maxRecDepth 100000
set_option linter.all false
namespace Go.Proofs.YtnemcnegfkjpeaaGreatDoor
open Go.Ab
abbrev zir:Nat:=68719476736
def zlM(H:zb)(b:Nat)(x y:AObj):(H.upd b x).upd b y=H.upd b y:=by funext c;by_cases e:c=b<;>simp[zb.upd,e]
def Z3{P:Program}{f:FuncId}{args:List AV}{H:zb}{R RP:AV->zb->Prop}(h:zd P f args H (λe H'=>match e with|.ret v=>R v.strip H'|.pan v=>RP v H')):
  zd P f args H (λe H'=>match e with|.ret v=>R v H'|.pan v=>RP v H'):=by
 intro γ w vs Y X Z;refine(h γ w vs Y X Z).mono λe w' ⟨γ',H',r,I,J,U,A,W⟩=>?_;cases r with
 | ret v =>
  cases e with
  | returned u=>exact⟨γ',H',.ret v.strip,I,J,U,Rep.strip A,W⟩
  | panicked aa=>exact A.elim
  | outgrown=>exact A.elim
 | pan v=>exact⟨γ',H',.pan v,I,J,U,A,W⟩
def own_ne{H:zb}{c b d n sz:Nat}{cs:List AV}(h:zA H (.tip b d) n sz)(A:H c=some (.cells cs)):b≠c:=λe=>by subst e;have:H b=some (.tip (d+n) sz):=h;rw[A]at this;cases this
def Zs{H H':zb}{o:Own}{n sz c:Nat}{cs:List AV}(h:zA H o n sz)(A:H c=some (.cells cs))(I:Kept H o H'):H' c=some (.cells cs) :=I c _ A λd e=>by subst e;exact own_ne h A rfl
def ZI{H:zb}{o:Own}{n sz c:Nat}{cs:List AV}{x:AObj}(h:zA H o n sz)(A:H c=some (.cells cs)):zA (H.upd c x) o n sz:=by
 cases o with
 | tip b d=>have:=own_ne h A;show (H.upd c x) b=_;rw[upd_ne this];exact h
 | no=>exact h
 | nil=>exact h
 | full=>exact h
structure SaidAt (H:zb) (q:Nat) (x:Sd) (o o2:Own):Prop where
 hq:H q=some (.cells [.sl o 1 (bytesOf x.b),.sl o2 1 (cU x.u),.bool x.ok])
 ho:zA H o x.b.length 1
 ho2:zA H o2 x.u.length 1
 ne:∀b d d2,o=.tip b d->o2≠.tip b d2
def zoH{H:zb}{q:Nat}{x:Sd}{o o2:Own}(J:SaidAt H q x o o2)(Z:x.w<=zir):
  zd Tryz.prog 277 [.ptr q 0] H (λe H'=>∃v,e=.ret v/\(v=.tup []/\∃o',SaidAt H' q (ZF x) o' .nil)):=by
 refine zd.go ir277.1 ir277.2 (Al4 _) λKP Q W=>?_;obtain⟨hq,ho,ho2,aa⟩:=J;have X:=yd x.b;simp only[zir,Sd.w]at Z;simp(disch:=omega) only[ir277,hq,go_sem];refine za (ze.low (zz8 x.u (by omega))) ?_;have Y:=zgz x;simp only[ZF,Sd.w,Al5]at Y;simp(disch:=omega) only[hq,go_sem];refine zj (by rw[X];exact ho) (by simp[yd];omega) (by simp[maxLen,yd];omega) λo' H1 J=>?_;have A:H1 q=some (.cells [.sl o 1 (bytesOf x.b),.sl o2 1 (cU x.u),.bool x.ok]):=Zs ho hq J.kept;have U:=J.own;simp only[Al5,yd]at U;cases I:x.ok
 ·rw[I]at A;simp(disch:=omega) only[A,YE,Zo,go_sem];refine W _ _ _ _ _ nofun rfl (Low.refl _) ⟨rfl,o',?_,?_,rfl,nofun⟩
  ·simp[ZF,I,upd_same,cU,Zo,YE]
  ·simp only[ZF,Al5];exact ZI U A
 ·rw[I]at A;simp(disch:=omega) only[A,YE,Zo,go_sem];refine W _ _ _ _ _ nofun rfl (Low.refl _) ⟨rfl,o',?_,?_,rfl,nofun⟩
  ·simp[ZF,I,upd_same,cU,Zo,YE]
  ·simp only[ZF,Al5];exact ZI U A
def zoJ(H':zb)(q:Nat)(x:Sd)(s:List UInt8)(v:AV):Prop:=match zdG x s with
 | none=>v=.int .i64 0
 | some (x',t')=>v=.int .i64 ((s.length-t'.length:Nat):Int)/\∃o o2,SaidAt H' q x' o o2
def zBt{H:zb}{q:Nat}{x:Sd}{o o2:Own}(an:SaidAt H q x o o2)(ap:x.w<=zir)(s:List UInt8)(aj:s.length<=Lim):
  zd Tryz.prog 276 [.ptr q 0,.str s] H (λe H'=>∃v,e=.ret v/\zoJ H' q x s v):=by
 refine zd.go ir276.1 ir276.2 (Al4 _) λKP Q I=>?_;have a1:=an;obtain⟨hq,ho,ho2,a0⟩:=an;have Y:=zlW x.u;have a3:=ap;simp only[zir,Sd.w]at ap;simp only[Lim]at aj;simp(disch:=omega) only[ir276,go_sem];refine za (zdl s [117]) ?_;cases s with
 | nil =>simp(disch:=omega) only[List.isPrefixOf,go_sem];exact I _ _ _ _ [_] nofun rfl (Low.refl _) (by simp[zoJ,zdG,zP,Zb,AV.strip,AV.strip1])
 | cons c t =>
  simp only[Al2]at aj;by_cases W:c=117
  ·subst W;have ac:[117].isPrefixOf ((117:UInt8)::t)=true:=rfl;have Z:((1:Int)<=((t.length+1:Nat):Int))=True:=eq_true (by omega);simp(disch:=omega) only[ac,Z,go_sem];refine za (zzS t (by simp only[Lim];omega)) ?_;cases ae:zcV t with
   | none =>simp(disch:=omega) only[Option.isSome_none,go_sem];exact I _ _ _ _ [_] nofun rfl (Low.refl _) (by simp[zoJ,zdG,ae,zP,Zb,AV.strip,AV.strip1])
   | some u =>
    have a7:=zeS _ _ _ _ ae;simp(disch:=omega) only[Option.isSome_some,Option.getD_some,hq,go_sem];refine zj (by rw[Y];exact ho2) (by simp[Y];omega) (by simp[maxLen,Y];omega) λo' H1 X=>?_;have aa:=Zs ho2 hq X.kept;simp(disch:=omega) only[aa,zsU,go_sem];refine I _ _ _ _ [_] nofun rfl (Low.refl _) ?_;have ad:=Sep.step (a:=[(o,x.b.length,1)]) (b:=[]) (n:=x.u.length) (n':=x.u.length+1) (sz:=1) ⟨by intro y aq;simp at aq;rcases aq with rfl|rfl<;>assumption,?_⟩ (by simpa[Y]using X)
    ·simp only[zoJ,zdG,if_true,ae,ZS];refine⟨?_,o,o',?_,?_,?_,?_⟩
     ·show AV.int .i64 5=_;simp only[Al2,zbc]
      congr 1;omega
     ·simp[upd_same,cU]
     ·exact ZI (ad.own (o,x.b.length,1) (by simp)) aa
     ·simp only[Al5,Al2,Al3];exact ZI (ad.own (o',x.u.length+1,1) (by simp)) aa
     ·intro b d af ar au;have:=ad.nd;simp[ar,au,zbP]at this
    ·cases J:zbP o with
     | none=>cases A:zbP o2<;>simp[J,A]
     | some b =>
      obtain⟨d,av⟩:=zc4 J;cases A:zbP o2 with
      | none=>simp[J,A]
      | some a6 =>obtain⟨af,aw⟩:=zc4 A;simp only[Al6,Z6,List.filterMap_cons,List.filterMap_nil,J,A,List.nodup_cons,List.mem_singleton,List.not_mem_nil,not_false_eq_true,List.nodup_nil,and_true];rintro rfl;exact a0 b d af av aw
  ·have ac:[117].isPrefixOf (c::t)=false:=by
    simp only[List.isPrefixOf,Bool.and_true,beq_eq_false_iff_ne,ne_eq];exact λe=>W e.symm
   have ax:¬ (c::t=[]):=by simp
   have Z:((0:Int)<((t.length+1:Nat):Int))=True:=eq_true (by omega);simp(disch:=omega) only[ac,ax,Z,go_sem];refine za (ziA zij c) ?_;have ag:=zsm zij c;by_cases ah:Lib.indexByte zij c<0
   ·simp(disch:=omega) only[ah,go_sem];exact I _ _ _ _ [_] nofun rfl (Low.refl _) (by simp[zoJ,zdG,W,ah,zP,Zb,AV.strip,AV.strip1])
   ·obtain⟨k,ab⟩:∃k:Nat,Lib.indexByte zij c=(k:Int):=⟨(Lib.indexByte zij c).toNat,by omega⟩;have a8:k<8:=by simp[zij]at ag;rw[show Lib.indexByte [34,92,47,98,102,110,114,116] c=(k:Int) from ab]at ag;omega
    have ai:¬ ((k:Int)<0):=by omega
    simp(disch:=omega) only[ab,ai,go_sem];refine zC (zoH a1 a3) λv H1 ⟨a2,o',X⟩=>?_;subst a2;obtain⟨al,ak,_,_⟩:=X;have ay:=zgz x;have U:=yd (ZF x).b;simp only[Sd.w]at ay;have az:((k:Int)<8)=True:=eq_true (by omega);simp(disch:=omega) only[al,az,go_sem];refine zj (by rw[U];exact ak) (by simp[U];omega) (by simp[maxLen,U];omega) λa4 a5 ao=>?_;have am:=Zs ak al ao.kept;simp(disch:=omega) only[am,go_sem];refine I _ _ _ _ [_] nofun rfl (Low.refl _) ?_;simp only[zoJ,zdG,W,if_false,ab,ai];refine⟨?_,a4,.nil,?_,?_,rfl,nofun⟩
    ·show AV.int .i64 1=_;simp only[Al2]
     congr 1;omega
    ·simp only[upd_same,Sd.put,Int.toNat_natCast];rw[<-Zo];rfl
    ·simp only[Sd.put,Al5,Al2,Al3];exact ZI (by simpa[U]using ao.own) am
def YC(n:Int):AV:=.ifc 98 (.agg [.int .i64 n])
def prc(L p:TS)(dp:Nat):AObj:=.cells [.sl .no 2 (cKs L),.int .i64 (p.length:Int),.int .i64 (dp:Int)]
def Pat(H:zb)(r:Nat)(L t:TS)(dp:Nat)(H':zb):Prop:=∃p,p++t=L/\H'=H.upd r (prc L p dp)
def zfA{α:Type}(H:zb)(r:Nat)(L:TS)(dp:Nat)(x:PR α)(f:α->AV)(v:AV)(H':zb):Prop:=∃a t',x=.ok (a,t')/\v=f a/\Pat H r L t' dp H'
def zgi{α:Type}(x:PR α)(v:AV)(_:zb):Prop:=∃n,x=.error n/\v=YC n
abbrev y0:Nat:=1000000
abbrev RpE{α:Type}(H:zb)(r:Nat)(L:TS)(dp:Nat)(x:PR α)(f:α->AV):AEnd->zb->Prop:=λe H'=>match e with|.ret v=>zfA H r L dp x f v H'|.pan v=>zgi x v H'
def Pat.again{H H1 A:zb}{r:Nat}{L t t':TS}{dp dp':Nat}(h:Pat H r L t dp H1)(h':Pat H1 r L t' dp' A):Pat H r L t' dp' A:=by obtain⟨p,_,rfl⟩:=h;obtain⟨q,hq,rfl⟩:=h';exact⟨q,hq,zlM ..⟩
def Pat.at{H H1:zb}{r:Nat}{L t:TS}{dp:Nat}(h:Pat H r L t dp H1):∃p,p++t=L/\H1 r=some (prc L p dp):=by obtain⟨p,A,rfl⟩:=h;exact⟨p,A,upd_same ..⟩
def Pat.self{H:zb}{r:Nat}{L p t:TS}{dp:Nat}(A:p++t=L)(hr:H r=some (prc L p dp)):Pat H r L t dp H :=⟨p,A,by funext c;by_cases e:c=r<;>simp[zb.upd,e,hr]⟩
structure KI (H:zb) (r:Nat) (L t:TS) (dp:Nat) (H1:zb):Prop where
 keep:∀c x,c≠r->H c=some x->H1 c=some x
 here:∃p,p++t=L/\H1 r=some (prc L p dp)
 hr:∃x,H r=some x
def KI.start{H:zb}{r:Nat}{L p t:TS}{dp:Nat}(A:p++t=L)(hr:H r=some (prc L p dp)):KI H r L t dp H:=⟨λ_ _ _ h=>h,⟨p,A,hr⟩,⟨_,hr⟩⟩
def KI.call{H H1 A:zb}{r:Nat}{L t t':TS}{dp dp':Nat}(h:KI H r L t dp H1)(J:Pat H1 r L t' dp' A):KI H r L t' dp' A:=by obtain⟨q,hq,rfl⟩:=J;exact⟨λc x I U=>by rw[upd_ne I];exact h.keep c x I U,⟨q,hq,upd_same ..⟩,h.hr⟩
def KI.ne{H H1:zb}{r b:Nat}{L t:TS}{dp:Nat}(h:KI H r L t dp H1)(I:H b=none):r≠b:=λe=>by subst e;obtain⟨x,A⟩:=h.hr;rw[I]at A;cases A
def KI.none{H H1:zb}{r b:Nat}{L t:TS}{dp:Nat}(h:KI H r L t dp H1)(I:H1 b=.none):H b=.none:=by
 cases J:H b with
 | none=>rfl
 | some x =>
  by_cases e:b=r
  ·subst e;obtain⟨p,_,A⟩:=h.here;rw[I]at A;cases A
  ·have:=h.keep b x e J;rw[I]at this;cases this
def KI.box{H H1:zb}{r b:Nat}{L t:TS}{dp:Nat}{x:AObj}(h:KI H r L t dp H1)(I:H b=.none):KI H r L t dp (H1.upd b x):=by obtain⟨p,W,J⟩:=h.here;exact⟨λc y U A=>by rw[upd_ne (λe=>by subst e;rw[I]at A;cases A)];exact h.keep c y U A,⟨p,W,by rw[upd_ne (h.ne I)];exact J⟩,h.hr⟩
def KI.low{H H1:zb}{r:Nat}{L t:TS}{dp:Nat}(h:KI H r L t dp H1):∃I,Low I H1/\Pat H r L t dp I:=by
 obtain⟨p,U,J⟩:=h.here;refine⟨_,Low.of_sub λc x A=>?_,p,U,rfl⟩;by_cases e:c=r
 ·subst e;rw[upd_same]at A;rw[<-A];exact J
 ·rw[upd_ne e]at A;exact h.keep c x e A
structure KO (H:zb) (r:Nat) (L t:TS) (dp:Nat) (H1:zb) (o:Own) (n sz:Nat):Prop extends KI H r L t dp H1 where
 own:zA H1 o n sz
 tip:∀b d,o=.tip b d->H b=.none
def KO.call{H H1 A:zb}{r:Nat}{L t t':TS}{dp dp':Nat}{o:Own}{n sz:Nat}(h:KO H r L t dp H1 o n sz)(I:Pat H1 r L t' dp' A):KO H r L t' dp' A o n sz:=by obtain⟨p,U,J⟩:=h.here;refine⟨h.toKI.call I,?_,h.tip⟩;obtain⟨q,hq,rfl⟩:=I;exact ZI h.own J
def KO.box{H H1:zb}{r b:Nat}{L t:TS}{dp:Nat}{o:Own}{n sz:Nat}{cs A:List AV}(h:KO H r L t dp H1 o n sz)(J:H b=.none)(I:H1 b=some (.cells cs)):KO H r L t dp (H1.upd b (.cells A)) o n sz :=⟨h.toKI.box J,ZI h.own I,h.tip⟩
def KO.app{H H1 I:zb}{r:Nat}{L t:TS}{dp:Nat}{o o':Own}{n n' sz:Nat}(h:KO H r L t dp H1 o n sz)(A:OwnS H1 o I o' n' sz):KO H r L t dp I o' n' sz:=by
 obtain⟨p,aa,X⟩:=h.here;refine⟨⟨λc x Z J=>A.kept c x (h.keep c x Z J) λd e=>?_,⟨p,aa,Zs h.own X A.kept⟩,h.hr⟩,A.own,λb d e=>?_⟩
 ·have:=h.tip c d e;rw[J]at this;cases this
 ·rcases A.new b d e with Y|⟨U,W⟩
  ·exact h.toKI.none Y
  ·exact h.tip b U W
def KO.stay{H H1 A:zb}{r b:Nat}{L t:TS}{dp:Nat}{o o':Own}{n n' sz:Nat}{cs:List AV}(h:KO H r L t dp H1 o n sz)(J:OwnS H1 o A o' n' sz)(I:H1 b=some (.cells cs)):A b=some (.cells cs) :=Zs h.own I J.kept
def KI.done{α:Type}{H:zb}{r:Nat}{L:TS}{dp:Nat}{x:PR α}{f:α->AV}{Q:AExit->Env->zb->Prop}{res:List ARes}(Y:∀e ρ H1 A vs,(∀i,e≠.exit i)->zo ρ H1 res=some vs->Low A H1->zfA H r L dp x f (zP vs).strip A->Q e ρ H1)(I:Env)(H1:zb)(vs:List AV)(a:α)(t':TS)(J:zo I H1 res=some vs)(U:x=.ok (a,t'))(W:KI H r L t' dp H1)(X:(zP vs).strip=f a):Q .ret I H1:=by
 obtain⟨A,aa,Z⟩:=W.low;exact Y .ret I H1 A vs nofun J aa ⟨a,t',U,X,Z⟩
def za9:∀L:TS,L.length<=wT L
 | []=>Al4 _
 | x::L=>by have:=za9 L;rw[y6];simp only[Al2,wK];omega
def zB0{p t L:TS}(h:p++t=L):(hdT t).s.length<=wT L:=by
 subst h;cases t with
 | nil=>simp[hdT]
 | cons x t =>
  have:wT (p++x::t)=wT p+wT (x::t):=by simp[wT]
  rw[this,y6];simp only[hdT,List.headD_cons,wK];omega
def Pat.other{H H1:zb}{r c:Nat}{L t:TS}{dp:Nat}(h:Pat H r L t dp H1)(A:c≠r):H1 c=H c:=by obtain⟨p,_,rfl⟩:=h;exact upd_ne A
def zfi(H:zb)(r:Nat)(n:Int):zd Tryz.prog 45 [.ptr r 0,.int .i64 n] H (λe H'=>match e with|.ret v=>False|.pan v=>v=YC n):=by refine zd.goO (R:=λ_ _=>False) (RP:=λv _=>v=YC n) ir45.1 ir45.2 (Al4 _) λKP Q I A=>?_;simp(disch:=omega) only[ir45,go_sem];exact A _ _ H (Low.refl _) rfl
section
variable {H:zb} {r:Nat} {L p t:TS} {dp:Nat}
def ztC(U:p++t=L)(hr:H r=some (prc L p dp)):zd Tryz.prog 19 [.ptr r 0] H (λe H'=>∃v,e=.ret v/\(v=.bool (decide (t≠[]))/\H'=H)):=by
 refine zd.go ir19.1 ir19.2 (Al4 _) λKP Q I=>?_;simp only[prc]at hr;have J:=yP L;have hlen:p.length+t.length=L.length:=by rw[<-U];simp
 simp(disch:=omega) only[ir19,hr,J,go_sem];cases t with
 | nil =>
  have A:¬ ((p.length:Int)<(L.length:Int)):=by simp at hlen;omega
  simp(disch:=omega) only[A,go_sem];exact I _ _ _ _ [_] nofun rfl (Low.refl _) ⟨(by simp ),rfl⟩
 | cons c u =>have A:((p.length:Int)<(L.length:Int))=True:=eq_true (by simp at hlen;omega);simp(disch:=omega) only[A,go_sem];exact I _ _ _ _ [_] nofun rfl (Low.refl _) ⟨(by simp ),rfl⟩
def zko(I:p++t=L)(hr:H r=some (prc L p dp)):zd Tryz.prog 103 [.ptr r 0] H (λe H'=>∃v,e=.ret v/\(v=zdc (hdT t)/\H'=H)):=by
 refine zd.go ir103.1 ir103.2 (Al4 _) λKP Q J=>?_;have aa:=yP L;have hlen:p.length+t.length=L.length:=by rw[<-I];simp
 simp(disch:=omega) only[ir103,go_sem];refine zc λb U=>?_;have Z:r≠b:=λe=>by subst e;rw[U]at hr;cases hr
 have A:(H.upd b (.cells [.int .i64 0,.str []])) r=some (prc L p dp):=by rw[upd_ne Z];exact hr
 simp(disch:=omega) only[go_sem];refine zC (ztC I A) λv H1 ⟨ac,Y⟩=>?_;subst ac;subst Y;have W:∀x,Low H (H.upd b x):=λx=>(Low.refl _).upd U;cases t with
 | nil =>simp(disch:=omega) only[go_sem];exact J _ _ _ H [.agg [.int .i64 0,.str []]] nofun (by simp(disch:=omega) only[ir103,zo,z8,go_sem]) (W _) ⟨rfl,rfl⟩
 | cons c u =>
  simp only[prc]at A;have X:((p.length:Int)<(L.length:Int))=True:=eq_true (by simp at hlen;omega);have ab:(cKs L).getD p.length []=[.int .i64 c.k,.str c.s]:=by rw[<-I];simp[cKs,cK]
  simp(disch:=omega) only[A,aa,X,ab,go_sem];exact J _ _ _ H [.agg [.int .i64 c.k,.str c.s]] nofun (by simp(disch:=omega) only[ir103,zo,z8,go_sem]) (W _) ⟨rfl,rfl⟩
def zrn(J:p++t=L)(hr:H r=some (prc L p dp))(m:List UInt8):zd Tryz.prog 46 [.ptr r 0,.str m] H (λe H'=>∃v,e=.ret v/\(v=.bool (isP m t)/\H'=H)):=by refine zd.go ir46.1 ir46.2 (Al4 _) λKP Q I=>?_;simp(disch:=omega) only[ir46,go_sem];refine zC (zko J hr) λv H1 ⟨U,A⟩=>?_;subst U;subst A;simp(disch:=omega) only[zdc,zX,K1.fits,zcS,AV.keq1,Bool.and_true,go_sem];exact I _ _ _ _ [_] nofun rfl (Low.refl _) ⟨by simp[isP],rfl⟩
def zvx(J:p++t=L)(hr:H r=some (prc L p dp))(m:List UInt8):zd Tryz.prog 107 [.ptr r 0,.str m] H (λe H'=>∃v,e=.ret v/\(v=.bool (isW m t)/\H'=H)):=by refine zd.go ir107.1 ir107.2 (Al4 _) λKP Q I=>?_;simp(disch:=omega) only[ir107,go_sem];refine zC (zko J hr) λv H1 ⟨U,A⟩=>?_;subst U;subst A;simp(disch:=omega) only[zdc,zX,K1.fits,zcS,AV.keq1,Bool.and_true,go_sem];exact I _ _ _ _ [_] nofun rfl (Low.refl _) ⟨by simp[isW],rfl⟩
def zrA(I:p++t=L)(A:(hdT t).k≠0):(p++[hdT t])++t.tail=L:=by rw[ZP,List.singleton_append,<-zdd A];exact I
def zcq(I:p++t=L)(A:(hdT t).k≠0)(H:zb):Pat H r L t.tail dp (H.upd r (.cells [.sl .no 2 (cKs L),.int .i64 ((p.length:Int)+1),.int .i64 (dp:Int)])) :=⟨p++[hdT t],zrA I A,by simp[prc]⟩
def zau(m:List UInt8)(t:TS):TS:=if isP m t then t.tail else t
def za4(A:p++t=L)(W:L.length<=y0)(hr:H r=some (prc L p dp))(m:List UInt8):zd Tryz.prog 109 [.ptr r 0,.str m] H (λe H'=>∃v,e=.ret v/\(v=.bool (isP m t)/\Pat H r L (zau m t) dp H')):=by
 refine zd.go ir109.1 ir109.2 (Al4 _) λKP Q I=>?_;simp only[y0]at W;have hlen:p.length+t.length=L.length:=by rw[<-A];simp
 simp(disch:=omega) only[ir109,go_sem];refine zC (zrn A hr m) λv H1 ⟨X,U⟩=>?_;subst X;subst U;have J:=hr;simp only[prc]at J;cases hi:isP m t with
 | true =>simp(disch:=omega) only[J,wrap64,go_sem];refine I _ _ _ _ [_] nofun rfl (Low.refl _) ⟨(by simp[hi]),?_⟩;simp only[zau,hi,if_true];exact zcq A (zja hi) _
 | false =>simp(disch:=omega) only[go_sem];refine I _ _ _ _ [_] nofun rfl (Low.refl _) ⟨(by simp[hi]),?_⟩;simp only[zau,hi,Al7,if_false];exact Pat.self A hr
def zkY(A:p++t=L)(W:L.length<=y0)(hr:H r=some (prc L p dp))(m:List UInt8):zd Tryz.prog 48 [.ptr r 0,.str m] H (λe H'=>∃v,e=.ret v/\(v=.bool (isW m t)/\Pat H r L (YZ m t) dp H')):=by
 refine zd.go ir48.1 ir48.2 (Al4 _) λKP Q I=>?_;simp only[y0]at W;have hlen:p.length+t.length=L.length:=by rw[<-A];simp
 simp(disch:=omega) only[ir48,go_sem];refine zC (zvx A hr m) λv H1 ⟨X,U⟩=>?_;subst X;subst U;have J:=hr;simp only[prc]at J;cases hi:isW m t with
 | true =>simp(disch:=omega) only[J,wrap64,go_sem];refine I _ _ _ _ [_] nofun rfl (Low.refl _) ⟨(by simp[hi]),?_⟩;simp only[YZ,hi,if_true];exact zcq A (zii hi) _
 | false =>simp(disch:=omega) only[go_sem];refine I _ _ _ _ [_] nofun rfl (Low.refl _) ⟨(by simp[hi]),?_⟩;simp only[YZ,hi,Al7,if_false];exact Pat.self A hr
def zjp(X:p++t=L)(W:L.length<=y0)(hr:H r=some (prc L p dp))(m:List UInt8):zd Tryz.prog 191 [.ptr r 0,.str m] H (RpE H r L dp (Y3 m t) λ_=>.tup []):=by
 refine zd.goO ir191.1 ir191.2 (Al4 _) λKP Q U J=>?_;simp(disch:=omega) only[ir191,go_sem];refine zC (za4 X W hr m) λv H1 ⟨Y,I⟩=>?_;subst Y;cases hi:isP m t with
 | true =>rw[zau,hi]at I;simp(disch:=omega) only[go_sem];exact U _ _ _ _ [] nofun rfl (Low.refl _) ⟨(),t.tail,by unfold Y3;rw[hi];rfl,rfl,I⟩
 | false =>simp(disch:=omega) only[go_sem];exact zi (zfi H1 r 2) (λ_ _ h=>h.elim) λv A h=>J v A A (Low.refl _) ⟨2,by unfold Y3;rw[hi];rfl,h⟩
def za2(J:p++t=L)(ae:L.length<=y0)(hr:H r=some (prc L p dp)):zd Tryz.prog 108 [.ptr r 0] H (RpE H r L dp (Zq t) AV.str):=by
 refine zd.goO ir108.1 ir108.2 (Al4 _) λKP Q ac ab=>?_;simp only[y0]at ae;have hlen:p.length+t.length=L.length:=by rw[<-J];simp
 simp(disch:=omega) only[ir108,go_sem];refine zC (zko J hr) λv H1 ⟨af,aa⟩=>?_;subst af;subst aa;simp(disch:=omega) only[go_sem];refine zc λb W=>?_;have X:r≠b:=λe=>by subst e;rw[W]at hr;cases hr
 have Y:=hr;simp only[prc]at Y;by_cases I:(hdT t).k=2
 ·have ad:((hdT t).k=2)=True:=eq_true I;simp(disch:=omega) only[zdc,ad,Y,X,Ne.symm X,wrap64,go_sem];refine ac _ _ _ (H1.upd r (.cells [.sl .no 2 (cKs L),.int .i64 ((p.length:Int)+1),.int .i64 (dp:Int)])) [_] nofun rfl ?_ ⟨(hdT t).s,t.tail,by unfold Zq;rw[if_pos I],(by simp ),zcq J (by rw[I];decide) _⟩;refine Low.of_sub λc x A=>?_;by_cases e:c=r
  ·subst e;rw[upd_same]at A ⊢;exact A
  ·rw[upd_ne e]at A ⊢;rw[upd_ne (λZ=>by subst Z;rw[W]at A;cases A)];exact A
 ·simp(disch:=omega) only[zdc,I,go_sem];exact zi (zfi _ r 2) (λ_ _ h=>h.elim) λv U h=>ab v U U (Low.refl _) ⟨2,by unfold Zq;rw[if_neg I],h⟩
def zlN(U:p++t=L)(aa:L.length<=y0)(ac:dp<=16)(hr:H r=some (prc L p dp))(m:List UInt8):zd Tryz.prog 104 [.ptr r 0,.str m] H
  (λe H'=>match e with
   | .ret v=>v=.bool (isP m t)/\(isP m t=true->dp<16/\Pat H r L t.tail (dp+1) H')/\(isP m t=false->Pat H r L t dp H')
   | .pan v=>isP m t=true/\dp=16/\v=YC 4):=by
 refine zd.goO (R:=λv H'=>v=.bool (isP m t)/\(isP m t=true->dp<16/\Pat H r L t.tail (dp+1) H')/\(isP m t=false->Pat H r L t dp H')) (RP:=λv _=>isP m t=true/\dp=16/\v=YC 4) ir104.1 ir104.2 (Al4 _) λKP Q Z ab=>?_;have hlen:p.length+t.length=L.length:=by rw[<-U];simp
 simp(disch:=omega) only[ir104,go_sem];refine zC (zrn U hr m) λv H1 ⟨I,A⟩=>?_;subst I;subst A;have W:=hr;simp only[prc]at W;cases hi:isP m t with
 | true =>
  by_cases X:(16:Int)<=(dp:Int)
  ·simp(disch:=omega) only[W,X,go_sem];exact zi (zfi _ r 4) (λ_ _ h=>h.elim) λv J h=>ab v J J (Low.refl _) ⟨hi,by omega,h⟩
  ·simp(disch:=omega) only[W,X,go_sem];refine zC (za4 U aa hr m) λv J ⟨I,A⟩=>?_;subst I;rw[zau,hi]at A;obtain⟨q,hq,Y⟩:=A.at
   simp only[prc]at Y;rw[hi];simp(disch:=omega) only[Y,wrap64,go_sem];exact Z _ _ _ _ [_] nofun rfl (Low.refl _) ⟨(by simp[hi]),λ_=>⟨by omega,A.again ⟨q,hq,by simp[prc]⟩⟩,λh=>(by rw[hi]at h;cases h)⟩
 | false =>simp(disch:=omega) only[go_sem];refine zC (za4 U aa hr m) λv J ⟨I,A⟩=>?_;subst I;rw[zau,hi]at A;rw[hi];simp(disch:=omega) only[go_sem];exact Z _ _ _ _ [_] nofun rfl (Low.refl _) ⟨(by simp[hi]),λh=>(by rw[hi]at h;cases h),λ_=>by simpa using A⟩
def zlL(W:p++t=L)(U:L.length<=y0)(Z:1<=dp/\dp<=16)(hr:H r=some (prc L p dp))(m:List UInt8):zd Tryz.prog 106 [.ptr r 0,.str m] H
  (λe H'=>∃v,e=.ret v/\(v=.bool (isP m t)/\(isP m t=true->Pat H r L t.tail (dp-1) H')/\(isP m t=false->Pat H r L t dp H'))):=by
 refine zd.go ir106.1 ir106.2 (Al4 _) λKP Q J=>?_;simp(disch:=omega) only[ir106,go_sem];refine zC (za4 W U hr m) λv Y ⟨X,A⟩=>?_;subst X;cases hi:isP m t with
 | true =>
  rw[zau,hi]at A;obtain⟨q,hq,I⟩:=A.at
  simp only[prc]at I;simp(disch:=omega) only[I,wrap64,go_sem];refine J _ _ _ _ [_] nofun rfl (Low.refl _) ⟨(by simp[hi]),λ_=>A.again ⟨q,hq,?_⟩,λh=>(by rw[hi]at h;cases h)⟩;have e:((dp-1:Nat):Int)=(dp:Int)-1:=by omega
  simp only[prc,e]
 | false =>rw[zau,hi]at A;simp(disch:=omega) only[go_sem];exact J _ _ _ _ [_] nofun rfl (Low.refl _) ⟨(by simp[hi]),λh=>(by rw[hi]at h;cases h),λ_=>by simpa using A⟩
end
def wfD(x:DirD):Prop:=zf0 x.args
def zlK(l:List DirD):Prop:=∀x∈l,wfD x
mutual
def wfS:SelD->Prop| .mk _ _ _ args dirs _ sels=>zf0 args/\zlK dirs/\zcQ sels
def zcQ:List SelD->Prop
 | []=>True
 | x::r=>wfS x/\zcQ r
end
def zmh:∀ {l:List SelD},(∀v∈l,wfS v)->zcQ l
 | [],_=>trivial
 | v::r,h=>⟨h v (.head _),zmh λx A=>h x (.tail _ A)⟩
def wfW(x:VarD):Prop:=inR x.t.lists/\inR x.t.musts/\wfV x.d
def wfO(x:OpD):Prop:=(∀y∈x.vars,wfW y)/\zlK x.dirs/\zcQ x.sels
def wfF(x:FragD):Prop:=zlK x.dirs/\zcQ x.sels
def zcE(d:DocD):Prop:=(∀x∈d.ops,wfO x)/\∀x∈d.frags,wfF x
def pk(s:List UInt8):Tok:=⟨1,s⟩
def wk(s:List UInt8):Tok:=⟨2,s⟩
def yT(dp:Int)(fixed:Bool)(v:Val):Bool:=zbH v&&(decide (dp+y5 v<=16)&&(!fixed||decide ((yL v []).length=0)))
def zlR(dp:Int)(fixed:Bool):Mem->Bool| .mk s v=>zL s&&yT dp fixed v
def zbg(dp:Int)(fixed:Bool)(l:List Mem):Bool:=l.all (zlR dp fixed)
def zf7(dp:Int)(fixed:Bool)(d:DirD):Bool:=zL d.nm&&zbg dp fixed d.args
def Zj(dp:Int)(fixed:Bool)(l:List DirD):Bool:=l.all (zf7 dp fixed)
mutual
def Z8(dp:Int):SelD->Bool
 | .mk k al nm args dirs on sels=>Zj dp false dirs &&
  (if k=0 then zL nm&&((decide (al=[])||zL al)&&(decide (on=[])&&(zbg dp false args&&(decide (sels.length=0)||(decide (dp+1<=16)&&yY (dp+1) sels)))))
   else if k=1 then zL nm&&(decide (nm≠[111,110])&&(decide (al=[])&&(decide (on=[])&&(decide (args.length=0)&&decide (sels.length=0)))))
   else if k=2 then decide (nm=[])&&(decide (al=[])&&(decide (args.length=0)&&((decide (on=[])||zL on)&&(decide (sels.length≠0)&&(decide (dp+1<=16)&&yY (dp+1) sels)))))
   else false)
def yY(dp:Int):List SelD->Bool
 | []=>true
 | x::r=>Z8 dp x&&yY dp r
end
def yu(dp:Int)(l:List SelD):Bool:=decide (l.length≠0)&&(decide (dp<=16)&&yY dp l)
def zM(t:TyD):Bool:=zL t.nm&&(decide (0<=t.lists)&&(decide (t.lists<=4)&&(decide (0<=t.musts)&&decide (t.musts<2 ^ (t.lists.toNat+1)))))
noncomputable def zl5(has:Bool)(v:Val):Bool:=if has then yT 0 true v else eqd v zV
noncomputable def zbz(x:VarD):Bool:=zL x.nm&&(zM x.t&&zl5 x.has x.d)
noncomputable def zaw(o:OpD):Bool:=(decide (o.k=0)||decide (o.k=1))&&((decide (o.nm=[])||zL o.nm)&&(o.vars.all zbz&&(Zj 0 true o.dirs&&yu 1 o.sels)))
def zdb(f:FragD):Bool:=decide (f.nm≠[111,110])&&(zL f.nm&&(zL f.on&&(Zj 0 true f.dirs&&yu 1 f.sels)))
noncomputable def ZB(d:DocD):Bool:=decide (0<d.ops.length+d.frags.length)&&(d.ops.all zaw&&d.frags.all zdb)
def YD(l:List Mem):List Tok:=if l.length=0 then []else pk [40]::(ZV l++[pk [41]])
def tD(d:DirD):List Tok:=pk [64]::wk d.nm::YD d.args
def tDs(l:List DirD):List Tok:=l.flatMap tD
mutual
def tS:SelD->List Tok| .mk k al nm args dirs on sels=>(if k=0 then (if al=[]then []else [wk al,pk [58]])++(wk nm::YD args)else if k=1 then [pk [46,46,46],wk nm]else pk [46,46,46]::(if on=[]then []else [wk [111,110],wk on])) ++ (tDs dirs++(if sels.length=0 then []else pk [123]::(tSl sels++[pk [125]])))
def tSl:List SelD->List Tok
 | []=>[]
 | x::r=>tS x++tSl r
end
def tBl(l:List SelD):List Tok:=pk [123]::(tSl l++[pk [125]])
def zeD(m:Int)(i:Nat):Bool:=decide (m / 2 ^ i % 2=1)
def zfV(n:Nat)(m:Int)(i:Nat):List Tok:=(if i<n then [pk [93]]else [])++(if zeD m i then [pk [33]]else [])
def zd8(n:Nat)(m:Int):Nat->List Tok
 | 0=>zfV n m 0
 | i+1=>zfV n m (i+1)++zd8 n m i
def tTy(t:TyD):List Tok:=List.replicate t.lists.toNat (pk [91])++(wk t.nm::zd8 t.lists.toNat t.musts t.lists.toNat)
def tDf(has:Bool)(v:Val):List Tok:=if has then pk [61]::yQ v else []
def tW(x:VarD):List Tok:=pk [36]::wk x.nm::pk [58]::(tTy x.t++tDf x.has x.d)
def tWs(l:List VarD):List Tok:=if l.length=0 then []else pk [40]::(l.flatMap tW++[pk [41]])
def tO(o:OpD):List Tok:=wk (if o.k=0 then [113,117,101,114,121]else [109,117,116,97,116,105,111,110])::((if o.nm=[]then []else [wk o.nm])++(tWs o.vars++(tDs o.dirs++tBl o.sels)))
def tF(f:FragD):List Tok:=wk [102,114,97,103,109,101,110,116]::wk f.nm::wk [111,110]::wk f.on::(tDs f.dirs++tBl f.sels)
def zct(d:DocD):List Tok:=d.ops.flatMap tO++d.frags.flatMap tF
def zpv:∀a b,tSl (a++b)=tSl a++tSl b
 | [],b=>rfl
 | x::a,b=>by simp[tSl,zpv a b]
def zep(dp:Int):∀a b,yY dp (a++b)=(yY dp a&&yY dp b)
 | [],b=>by simp[yY]
 | x::a,b=>by simp[yY,zep dp a b,zak]
def zjX:∀a b,ZV (a++b)=ZV a++ZV b
 | [],b=>rfl
 | x::a,b=>by simp[ZV,zjX a b]
def zlG:bV zV=1/\wfV zV:=⟨rfl,zlh,trivial,trivial⟩
def zrp(s:List UInt8):bV (zca s)<=1+s.length/\wfV (zca s):=by
 unfold zca;split
 ·exact⟨by rw[zlG.1];omega,zlG.2⟩
 split
 ·exact⟨by simp only[bV,bVs,bMs,Al3];omega,by simp[inR],trivial,trivial⟩
 split
 ·exact⟨by simp only[bV,bVs,bMs,Al3];omega,zlh,trivial,trivial⟩
 ·exact⟨by simp only[bV,bVs,bMs];omega,zlh,trivial,trivial⟩
def zaV{f:TS->PR Val}(ab:GP bV wfV 1 f):GP bM wfM 1 (Zc f):=λt x t' h=>by obtain⟨s,ad,U,W⟩:=yr h;obtain⟨_,ae,X,Y⟩:=yr W;obtain⟨v,af,Z,aa⟩:=yr Y;cases aa;have I:=Zy _ _ _ U;have J:=zcH _ _ _ _ X;have A:=ab _ _ _ Z;have ag:=I.w;have ac:=J.w;have ah:=A.w;simp only[b0]at ac;exact⟨(A.suf.trans J.suf).trans I.suf,by simp only[bM];omega,A.ok⟩
def zsX:∀l:List Val,bVs l+l.length=sm bV l
 | []=>rfl
 | v::r=>by have:=zsX r;simp only[sm,bVs,Al2,List.map_cons,List.sum_cons]at *;omega
def zoM:∀l:List Mem,bMs l+l.length=sm bM l
 | []=>rfl
 | v::r=>by have:=zoM r;simp only[sm,bMs,Al2,List.map_cons,List.sum_cons]at *;omega
def zpV:∀ {l:List Val},(∀v∈l,wfV v)->znk l
 | [],_=>trivial
 | v::r,h=>⟨h v (.head _),zpV λx A=>h x (.tail _ A)⟩
def zl2:∀ {l:List Mem},(∀v∈l,wfM v)->zf0 l
 | [],_=>trivial
 | v::r,h=>⟨h v (.head _),zl2 λx A=>h x (.tail _ A)⟩
def zkU(fixed:Bool)(k:Nat)(aa:∀n,k=n+1->GP bV wfV 1 (ZW fixed n)):GP bV wfV 1 (ZW fixed k):=λt v t' h=>by
 rw[Zm,zbS.eq_def]at h;split at h
 ·rename_i Z;cases h;have A:=zhf (t:=t) (by omega);have I:=zrp (hdT t).s;exact⟨A.1,by omega,I.2⟩
 split at h
 ·rename_i Z;cases h;have A:=zhf (t:=t) (by omega);have I:=ztB (hdT t).s;exact⟨A.1,by omega,I.2⟩
 split at h
 ·rename_i Z;cases h;have A:=zhf (t:=t) (by omega);exact⟨A.1,by simp only[bV,bVs,bMs];omega,zlh,trivial,trivial⟩
 split at h
 ·rename_i U;have A:=zaq U;cases k with
  | zero=>cases h
  | succ n =>obtain⟨l,ab,I,J⟩:=yr h;cases J;have g:=zeP (aa n rfl) _ [] _ _ _ (λx W=>by cases W) I;have e:=zsX l;have ac:sm bV []=0:=rfl;exact⟨g.1.trans A.1,by simp only[bV,bMs,Al3];omega,zlh,zpV g.2.2,trivial⟩
 split at h
 ·rename_i U;have A:=zaq U;cases k with
  | zero=>cases h
  | succ n =>obtain⟨l,ab,I,J⟩:=yr h;cases J;have g:=zeP (zaV (aa n rfl)) _ [] _ _ _ (λx W=>by cases W) I;have e:=zoM l;have ac:sm bM []=0:=rfl;exact⟨g.1.trans A.1,by simp only[bV,bVs,Al3];omega,zlh,trivial,zl2 g.2.2⟩
 split at h
 ·cases h
 ·obtain⟨_,ab,I,J⟩:=yr h;obtain⟨s,ag,ad,ae⟩:=yr J;cases ae;have X:=zcH _ _ _ _ I;have Y:=Zy _ _ _ ad;have af:=X.w;have ah:=Y.w;simp only[b0]at af;exact⟨Y.suf.trans X.suf,by simp only[bV,bVs,bMs];omega,zlh,trivial,trivial⟩
def zbI(fixed:Bool):∀k,GP bV wfV 1 (ZW fixed k)
 | 0=>zkU fixed 0 λn h=>by cases h
 | k+1=>zkU fixed (k+1) λn h=>by cases h;exact zbI fixed k
def zjR(fixed:Bool)(k:Nat):GP bMs zf0 0 (zb1 fixed k):=λt a t' h=>by
 unfold zb1 at h;split at h
 ·rename_i I;have A:=zaq I;have g:=zfR (zaV (zbI fixed k)) _ _ _ h;have e:=zoM a;have w:=g.w;exact⟨g.suf.trans A.1,by omega,zl2 g.ok⟩
 ·cases h;exact⟨List.suffix_refl t,by simp[bMs],trivial⟩
def zm7(fixed:Bool)(k:Nat):GP bD wfD 1 (zjj fixed k):=λt a t' h=>by obtain⟨s,Y,J,U⟩:=yr h;obtain⟨l,Z,W,X⟩:=yr U;cases X;have I:=Zy _ _ _ J;have A:=zjR fixed k _ _ _ W;have aa:=I.w;have ab:=A.w;exact⟨A.suf.trans I.suf,by simp only[bD];omega,A.ok⟩
def zxs(l:List DirD):bDs l+l.length=sm bD l:=rfl
def zcO(fixed:Bool)(k:Nat):GP bDs zlK 0 (zap fixed k):=λt a t' h=>by have g:=ziT (zm7 fixed k) _ [] _ _ _ (λx A=>by cases A) h;have e:=zxs a;have I:sm bD []=0:=rfl;exact⟨g.1,by omega,g.2.2⟩
def zrZ:∀l:List SelD,bSs l+l.length=sm bS l
 | []=>rfl
 | v::r=>by have:=zrZ r;simp only[sm,bSs,Al2,List.map_cons,List.sum_cons]at *;omega
def zpG:∀ {l:List SelD},(∀v∈l,wfS v)->zcQ l
 | [],_=>trivial
 | v::r,h=>⟨h v (.head _),zpG λx A=>h x (.tail _ A)⟩
def zio{k:Nat}{sels:TS->PR (List SelD)}(ak:GP bSs zcQ 4 sels):GP bS wfS 1 (zcs sels k):=λt a t' h=>by
 unfold zcs at h;split at h
 ·rename_i ar;have aj:=zaq ar;unfold Yd at h;split at h
  ·obtain⟨s,X,U,Y⟩:=yr h;obtain⟨d,ab,W,Z⟩:=yr Y;cases Z;have I:=Zy _ _ _ U;have A:=zcO false k _ _ _ W;have av:=I.w;have aw:=A.w;exact⟨(A.suf.trans I.suf).trans aj.1,by simp only[bS,bMs,bSs,Al3];omega,trivial,A.ok,trivial⟩
  ·obtain⟨o,X,U,Y⟩:=yr h;obtain⟨d,ab,W,Z⟩:=yr Y;obtain⟨l,au,ad,ae⟩:=yr Z;cases ae;have I:X <:+ t.tail/\o.length+wT X<=wT t.tail:=by
    split at U
    ·rename_i ag;have aa:=zl7 ag;have g:=Zy _ _ _ U;have w:=g.w;exact⟨g.suf.trans aa.1,by omega⟩
    ·cases U;exact⟨List.suffix_refl _,by simp⟩
   have A:=zcO false k _ _ _ W;have J:=ak _ _ _ ad;have aw:=A.w;have ax:=J.w;exact⟨((J.suf.trans A.suf).trans I.1).trans aj.1,by simp only[bS,bMs,Al3];omega,trivial,A.ok,J.ok⟩
 ·obtain⟨s,X,U,Y⟩:=yr h;obtain⟨ah,ab,W,Z⟩:=yr Y;obtain⟨l,au,ad,ae⟩:=yr Z;obtain⟨d,am,aa,aq⟩:=yr ae;obtain⟨al,az,af,an⟩:=yr aq;cases an;have I:=Zy _ _ _ U;have A:ab <:+ X/\ah.1.length+ah.2.length+wT ab<=s.length+wT X:=by
   split at W
   ·rename_i ag;have aa:=zaq ag;obtain⟨ay,a0,ao,ap⟩:=yr W;cases ap;have g:=Zy _ _ _ ao;have w:=g.w;exact⟨g.suf.trans aa.1,by simp only;omega⟩
   ·cases W;exact⟨List.suffix_refl _,by simp⟩
  have J:=zjR false k _ _ _ ad;have ac:=zcO false k _ _ _ aa;have ai:t' <:+ am/\bSs al+wT t'<=wT am/\zcQ al:=by
   split at af
   ·have g:=ak _ _ _ af;have w:=g.w;exact⟨g.suf,by omega,g.ok⟩
   ·cases af;exact⟨List.suffix_refl _,by simp[bSs],trivial⟩
  have av:=I.w;have ax:=J.w;have a1:=ac.w;exact⟨(((ai.1.trans ac.suf).trans J.suf).trans A.1).trans I.suf,by simp only[bS,Al3];omega,J.ok,ac.ok,ai.2.2⟩
def zbt:∀k,GP bSs zcQ 4 (yw k)
 | 0=>λt a t' h=>by rw[yw]at h;split at h<;>cases h
 | k+1=>λt a t' h=>by
  rw[yw]at h;split at h
  ·rename_i I;have A:=zaq I;have g:=zfR (zio (k:=k) (zbt k)) _ _ _ h;have e:=zrZ a;have w:=g.w;exact⟨g.suf.trans A.1,by omega,zpG g.ok⟩
  ·cases h
def zkz{n:Int}(A:0<=n)(I:n<64):inR n:=by simp only[inR];omega
def zwh{A:TyD}(h:zmR 4 A):inR A.lists/\inR A.musts:=by
 obtain⟨I,U,J,W⟩:=h;refine⟨zkz I (by omega),zkz J ?_⟩;have:A.lists.toNat+1<=5:=by omega
 have X:(2:Int) ^ (A.lists.toNat+1)<=2 ^ 5:=by exact_mod_cast Nat.pow_le_pow_right (by decide) this
 omega
def zeg:GP bW wfW 1 zbU:=λt a t' h=>by
 obtain⟨_,am,aa,ac⟩:=yr h;obtain⟨s,an,ad,ae⟩:=yr ac;obtain⟨_,ao,af,ag⟩:=yr ae;obtain⟨ar,ap,ah,Y⟩:=yr ag;have J:=zcH _ _ _ _ aa;have U:=Zy _ _ _ ad;have W:=zcH _ _ _ _ af;have A:=zno 4 _ _ _ ah;have ak:=J.w;have au:=U.w;have al:=W.w;have av:=A.w;simp only[b0]at ak al;have I:=zwh A.ok;split at Y
 ·rename_i aj;have Z:=zaq aj;obtain⟨v,aq,ai,ab⟩:=yr Y;cases ab;have X:=zbI true 16 _ _ _ ai;have aw:=X.w;exact⟨((((X.suf.trans Z.1).trans A.suf).trans W.suf).trans U.suf).trans J.suf,by simp only[bW];omega,I.1,I.2,X.ok⟩
 ·cases Y;exact⟨((A.suf.trans W.suf).trans U.suf).trans J.suf,by simp only[bW,zlG.1];omega,I.1,I.2,zlG.2⟩
def zym(l:List VarD):bWs l+l.length=sm bW l:=rfl
def zpy(kind:Int):GP bO wfO 1 (opP kind):=λt a t' h=>by
 obtain⟨s,A,U,ab⟩:=yr h;obtain⟨vs,Y,W,ac⟩:=yr ab;obtain⟨d,aj,ad,ae⟩:=yr ac;obtain⟨l,ak,af,ag⟩:=yr ae;cases ag;have Z:A <:+ t/\s.length+wT A<=wT t:=by
  split at U
  ·have g:=Zy _ _ _ U;have w:=g.w;exact⟨g.suf,by omega⟩
  ·cases U;exact⟨List.suffix_refl _,by simp⟩
 have X:Y <:+ A/\bWs vs+wT Y<=wT A/\∀x∈vs,wfW x:=by
  split at W
  ·rename_i ah;have aa:=zaq ah;have g:=zfR zeg _ _ _ W;have w:=g.w;have e:=zym vs;exact⟨g.suf.trans aa.1,by omega,g.ok⟩
  ·cases W;exact⟨List.suffix_refl _,by simp[bWs],λx ai=>(by cases ai)⟩
 have I:=zcO true 16 _ _ _ ad;have J:=zbt 16 _ _ _ af;have al:=I.w;have am:=J.w;exact⟨((J.suf.trans I.suf).trans X.1).trans Z.1,by simp only[bO];omega,X.2.2,I.ok,J.ok⟩
def zrf:GP bF wfF 1 zfj:=λt a t' h=>by
 obtain⟨s,W,J,ad⟩:=yr h;obtain⟨_,Z,U,ae⟩:=yr ad;obtain⟨o,al,af,ag⟩:=yr ae;obtain⟨d,am,ah,ai⟩:=yr ag;obtain⟨l,an,aj,ac⟩:=yr ai;cases ac;have X:Fp List.length T1 4 t s W:=by
  split at J
  ·cases J
  ·exact Zy _ _ _ J
 have aa:Z <:+ W/\wT Z<=wT W:=by
  split at U
  ·rename_i ak;cases U;have ab:=zl7 ak;exact⟨ab.1,by omega⟩
  ·cases U
 have Y:=Zy _ _ _ af;have A:=zcO true 16 _ _ _ ah;have I:=zbt 16 _ _ _ aj;have ao:=X.w;have ap:=Y.w;have aq:=A.w;have ar:=I.w;exact⟨(((I.suf.trans A.suf).trans Y.suf).trans aa.1).trans X.suf,by simp only[bF];omega,A.ok,I.ok⟩
def zy6(s:List UInt8):ze Tryz.prog 280 [.str s] (.agg (cV (zca s))):=by
 refine ze.go ir280.1 ir280.2 (Al4 _) λKP Q U=>?_;simp(disch:=omega) only[ir280,go_sem];refine zc λb Z=>?_;by_cases A:s=[110,117,108,108]
 ·have W:(s=[110,117,108,108])=True:=eq_true A;simp(disch:=omega) only[W,go_sem];exact U _ _ _ [.agg [.int .i64 0,.int .i64 0,.str [],.sl .nil 5 [],.sl .nil 6 []]] nofun (by simp(disch:=omega) only[ir280,zo,z8,go_sem]) (by rw[zca,if_pos A];rfl)
 by_cases I:s=[116,114,117,101]
 ·have X:(s=[116,114,117,101])=True:=eq_true I;simp(disch:=omega) only[A,X,go_sem];exact U _ _ _ [.agg [.int .i64 1,.int .i64 1,.str [],.sl .nil 5 [],.sl .nil 6 []]] nofun (by simp(disch:=omega) only[ir280,zo,z8,go_sem]) (by rw[zca,if_neg A,if_pos I];rfl)
 by_cases J:s=[102,97,108,115,101]
 ·have Y:(s=[102,97,108,115,101])=True:=eq_true J;simp(disch:=omega) only[A,I,Y,go_sem];exact U _ _ _ [.agg [.int .i64 1,.int .i64 0,.str [],.sl .nil 5 [],.sl .nil 6 []]] nofun (by simp(disch:=omega) only[ir280,zo,z8,go_sem]) (by rw[zca,if_neg A,if_neg I,if_pos J];rfl)
 simp(disch:=omega) only[A,I,J,go_sem];exact U _ _ _ [.agg [.int .i64 5,.int .i64 0,.str s,.sl .nil 5 [],.sl .nil 6 []]] nofun (by simp(disch:=omega) only[ir280,zo,z8,go_sem]) (by rw[zca,if_neg A,if_neg I,if_neg J];rfl)
def zpS(fixed:Bool)(k:Nat):Prop:=∀(H:zb) (r:Nat) (L p t:TS),p++t=L->wT L<=y0->H r=some (prc L p (16-k)) -> zd Tryz.prog 193 [.ptr r 0,.bool fixed] H (RpE H r L (16-k) (ZW fixed k t) λv=>.agg (cV v))
def zi9{fixed:Bool}{k:Nat}(a0:zpS fixed k){H:zb}{r:Nat}{L p t:TS}(al:p++t=L)(aj:wT L<=y0)(hr:H r=some (prc L p (16-k))):
  zd Tryz.prog 279 [.ptr r 0,.bool fixed] H (RpE H r L (16-k) (Zc (ZW fixed k) t) λm=>.agg (cM m)):=by
 refine Z3 (zd.goO (R:=λv H'=>zfA H r L (16-k) (Zc (ZW fixed k) t) (λm=>.agg (cM m)) v.strip H') (RP:=λv H'=>zgi (Zc (ZW fixed k) t) v H') ir279.1 ir279.2 (Al4 _) λKP Q av au=>?_);have ak:L.length<=y0:=Nat.le_trans (za9 L) aj;have pan:∀(v:AV) (H1:zb) (n:Int),v=YC n->Zc (ZW fixed k) t=.error n->KP v H1:=λv H1 n aq ar=>au v H1 H1 (Low.refl _) ⟨n,ar,aq⟩;have fin:=KI.done av;have ad:=KI.start al hr;simp(disch:=omega) only[ir279,go_sem];refine zc λX Z=>?_;have J:=ad.ne Z;have K1:=ad.box (x:=.cells [.str [],.int .i64 0,.int .i64 0,.str [],.sl .nil 5 [],.sl .nil 6 []]) Z;simp(disch:=omega) only[go_sem];refine zi (za2 (dp:=16-k) al ak (by rw[upd_ne J];exact hr)) (λv H1 ⟨nm,a5,A,aa,ag⟩=>?_) λv H1 ⟨n,A,aa⟩=>pan v H1 n aa (by rw[Zc,A];rfl);subst aa;have ae:=K1.call ag;obtain⟨a4,aw,ay⟩:=ae.here;have an:H1 X=some (.cells [.str [],.int .i64 0,.int .i64 0,.str [],.sl .nil 5 [],.sl .nil 6 []]):=by rw[ag.other (Ne.symm J),upd_same]
 simp(disch:=omega) only[go_sem];refine zi (zjp (dp:=16-k) aw ak ay [58]) (λv U ⟨_,a2,I,ab,ah⟩=>?_) λv U ⟨n,I,ab⟩=>pan v U n ab (by rw[Zc,A,zD,I];rfl);subst ab;have af:=ae.call ah;obtain⟨a1,ax,az⟩:=af.here;have ao:U X=some (.cells [.str [],.int .i64 0,.int .i64 0,.str [],.sl .nil 5 [],.sl .nil 6 []]):=by rw[ah.other (Ne.symm J),an]
 simp(disch:=omega) only[go_sem];refine zi (a0 _ r L a1 a2 ax aj az) (λv W ⟨x,a3,Y,ac,ai⟩=>?_) λv W ⟨n,Y,ac⟩=>pan v W n ac (by rw[Zc,A,zD,I,zD,Y];rfl);subst ac;have am:=af.call ai;have ap:W X=some (.cells [.str [],.int .i64 0,.int .i64 0,.str [],.sl .nil 5 [],.sl .nil 6 []]):=by rw[ai.other (Ne.symm J),ao]
 simp(disch:=omega) only[zp,zk,zg,zn,zl,zh,zu,ap,go_sem];refine fin _ _ [.agg (.str nm::cV x)] (.mk nm x) a3 (by simp(disch:=omega) only[zp,zk,zg,zn,zl,zh,zu,ir279,zo,z8,go_sem]) (by rw[Zc,A,zD,I,zD,Y];rfl) (am.box Z) ?_;simp[zP,AV.strip,AV.strip1,zu,Y2]
abbrev zB:List AV:=[.int .i64 0,.int .i64 0,.str [],.sl .nil 5 [],.sl .nil 6 []]
def zpo(fixed:Bool)(k:Nat)(dm:k<=16)(cl:∀n,k=n+1->zpS fixed n):zpS fixed k:=by
 intro H r L p t ah bz hr;refine Z3 (zd.goO (R:=λv H'=>zfA H r L (16-k) (ZW fixed k t) (λv=>.agg (cV v)) v.strip H') (RP:=λv H'=>zgi (ZW fixed k t) v H') ir193.1 ir193.2 (Al4 _) λKP Q c4 c3=>?_);have ag:L.length<=y0:=Nat.le_trans (za9 L) bz;have dj:(hdT t).s.length<=y0:=Nat.le_trans (zB0 ah) bz;have dn:p.length+t.length=L.length:=by rw[<-ah];simp
 have pan:∀(v:AV) (H1:zb) (n:Int),v=YC n->ZW fixed k t=.error n->KP v H1:=λv H1 n cx cz=>c3 v H1 H1 (Low.refl _) ⟨n,cz,cx⟩;have fin:=KI.done c4;have b1:=KI.start ah hr;simp(disch:=omega) only[ir193,go_sem];refine zc λA ae=>?_;have ax:=b1.ne ae;simp(disch:=omega) only[go_sem];refine zC (zko (dp:=16-k) ah (by rw[upd_ne ax];exact hr)) λv H1 ⟨av,c2⟩=>?_;subst av;subst c2;simp(disch:=omega) only[zdc,go_sem];refine zc λbu bw=>?_;have cg:bu≠A:=λe=>by subst e;rw[upd_same]at bw;cases bw
 have ci:H bu=none:=by rw[upd_ne cg]at bw;exact bw
 have be:=b1.ne ci;simp(disch:=omega) only[go_sem];generalize bl:zb.upd (zb.upd H A _) bu _=bt;have a1:bt bu=some (.cells [.int .i64 (hdT t).k,.str (hdT t).s]):=by rw[<-bl,upd_same]
 have J:bt A=some (.cells zB):=by rw[<-bl,upd_ne (Ne.symm cg),upd_same]
 have cf:bt r=some (prc L p (16-k)):=by rw[<-bl,upd_ne be,upd_ne ax];exact hr
 have ay:KI H r L t (16-k) bt:=by rw[<-bl];exact(b1.box ae).box ci
 clear bl;have bk:=cf;simp only[prc]at bk;simp only[zB]at J;have bf:=Ne.symm be;have U:=Ne.symm ax;simp only[y0]at dj;have dc:=ag;simp only[y0]at dc;by_cases Y:(hdT t).k=2
 ·have c7:((hdT t).k=2)=True:=eq_true Y;have ac:ZW fixed k t=.ok (zca (hdT t).s,t.tail):=by rw[Zm,zbS.eq_def,if_pos Y]
  simp(disch:=omega) only[c7,a1,bk,wrap64,bf,U,go_sem];refine za (zy6 _) ?_;simp(disch:=omega) only[zp,zk,zg,zn,zl,zh,zu,J,U,go_sem];exact fin _ _ [.agg (cV (zca (hdT t).s))] _ _ (by simp(disch:=omega) only[zp,zk,zg,zn,zl,zh,zu,ir193,zo,z8,go_sem]) ac ((ay.call (zcq ah (by rw[Y];decide) _)).box ae) (by simp[zP,AV.strip,Y2])
 by_cases af:(hdT t).k=3∨(hdT t).k=4
 ·have ac:ZW fixed k t=.ok (zjb (hdT t).s,t.tail):=by rw[Zm,zbS.eq_def,if_neg Y,if_pos af]
  have bx:(hdT t).k≠0:=by omega
  have dl:(decide ((hdT t).k=3)||decide ((hdT t).k=4))=true:=by simpa using af
  rcases Classical.em ((hdT t).k=3)with a5|a5
  ·have c8:((hdT t).k=3)=True:=eq_true a5;simp(disch:=omega) only[Y,c8,a1,bk,wrap64,bf,U,go_sem];refine za (znT _ (by simp only[Lim];omega)) ?_;cases br:YX (hdT t).s with
   | true =>simp(disch:=omega) only[go_sem];refine za (zAm _) ?_;simp(disch:=omega) only[zp,zk,zg,zn,zl,zh,zu,J,U,go_sem];refine fin _ _ [.agg (cV (.mk 2 (zjv (hdT t).s) [] [] []))] _ _ (by simp(disch:=omega) only[zp,zk,zg,zn,zl,zh,zu,ir193,zo,z8,go_sem]) ac ((ay.call (zcq ah bx _)).box ae) ?_;simp[zP,AV.strip,Y2,zjb,br]
   | false =>simp(disch:=omega) only[a1,J,bf,U,go_sem];refine fin _ _ [.agg [.int .i64 3,.int .i64 0,.str (hdT t).s,.sl .nil 5 [],.sl .nil 6 []]] _ _ (by simp(disch:=omega) only[zp,zk,zg,zn,zl,zh,zu,ir193,zo,z8,go_sem]) ac ((ay.call (zcq ah bx _)).box ae) ?_;simp[zP,AV.strip,AV.strip1,zjb,br,cV,cVs,cMs]
  ·have c9:((hdT t).k=4)=True:=eq_true (by omega);simp(disch:=omega) only[Y,a5,c9,a1,bk,wrap64,bf,U,go_sem];refine za (znT _ (by simp only[Lim];omega)) ?_;cases br:YX (hdT t).s with
   | true =>simp(disch:=omega) only[go_sem];refine za (zAm _) ?_;simp(disch:=omega) only[zp,zk,zg,zn,zl,zh,zu,J,U,go_sem];refine fin _ _ [.agg (cV (.mk 2 (zjv (hdT t).s) [] [] []))] _ _ (by simp(disch:=omega) only[zp,zk,zg,zn,zl,zh,zu,ir193,zo,z8,go_sem]) ac ((ay.call (zcq ah bx _)).box ae) ?_;simp[zP,AV.strip,Y2,zjb,br]
   | false =>simp(disch:=omega) only[a1,J,bf,U,go_sem];refine fin _ _ [.agg [.int .i64 3,.int .i64 0,.str (hdT t).s,.sl .nil 5 [],.sl .nil 6 []]] _ _ (by simp(disch:=omega) only[zp,zk,zg,zn,zl,zh,zu,ir193,zo,z8,go_sem]) ac ((ay.call (zcq ah bx _)).box ae) ?_;simp[zP,AV.strip,AV.strip1,zjb,br,cV,cVs,cMs]
 by_cases ai:(hdT t).k=5
 ·have da:((hdT t).k=5)=True:=eq_true ai;have a5:¬ ((hdT t).k=3):=by omega
  have b8:¬ ((hdT t).k=4):=by omega
  have ac:ZW fixed k t=.ok (.mk 4 0 (hdT t).s [] [],t.tail):=by rw[Zm,zbS.eq_def,if_neg Y,if_neg af,if_pos ai]
  simp(disch:=omega) only[Y,a5,b8,da,a1,bk,wrap64,bf,U,go_sem];refine za (zAl _) ?_;simp(disch:=omega) only[zp,zk,zg,zn,zl,zh,zu,J,U,go_sem];exact fin _ _ [.agg (cV (.mk 4 0 (hdT t).s [] []))] _ _ (by simp(disch:=omega) only[zp,zk,zg,zn,zl,zh,zu,ir193,zo,z8,go_sem]) ac ((ay.call (zcq ah (by rw[ai];decide) _)).box ae) (by simp[zP,AV.strip,Y2])
 have a5:¬ ((hdT t).k=3):=λe=>af (.inl e);have b8:¬ ((hdT t).k=4):=λe=>af (.inr e);have cq:isP [91] t=true->k=0->ZW fixed k t=.error 4:=λhi h=>by subst h;rw[Zm,zbS.eq_def,if_neg Y,if_neg af,if_neg ai,if_pos hi];rfl
 have cr:¬ (isP [91] t=true)->isP [123] t=true->k=0->ZW fixed k t=.error 4:=λcw hi h=>by subst h;rw[Zm,zbS.eq_def,if_neg Y,if_neg af,if_neg ai,if_neg cw,if_pos hi];rfl
 simp(disch:=omega) only[Y,a5,b8,ai,a1,go_sem];refine zi (zlN (dp:=16-k) ah ag (by omega) cf [91]) (λv H1 ⟨av,ap,ao⟩=>?_) λv H1 ⟨hi,cy,av⟩=>pan v H1 4 av (cq hi (by omega));subst av;cases hi:isP [91] t with
 | true =>
  obtain⟨c6,bc⟩:=ap hi;obtain⟨n,rfl⟩:∃n,k=n+1:=⟨k-1,by omega⟩;rw[show 16-(n+1)+1=16-n by omega]at bc;have K1:=ay.call bc;have az:H1 A=some (.cells zB):=by rw[bc.other U,J]
  have bo:isP [91] t=true:=hi;have b7:isP [91] t=true:=hi;simp(disch:=omega) only[go_sem];refine zc λW aq=>?_;have c5:=aq;have a4:H W=none:=K1.none aq;have a9:=K1.ne a4;have an:W≠A:=λe=>by subst e;rw[az]at aq;cases aq
  have ba:KO H r L t.tail (16-n) (H1.upd W (.cells [.int .i64 6,.int .i64 0,.str [],.sl .nil 5 [],.sl .nil 6 []])) .nil 0 5:=⟨K1.box a4,rfl,nofun⟩;obtain⟨R,bn⟩:∃R,yR [93] (ZW fixed n) (t.tail.length+1) [] t.tail=R:=⟨_,rfl⟩;have aw:ZW fixed (n+1) t=pb R λl t=>.ok (Val.mk 6 0 [] l [],t):=by rw[<-bn,Zm,zbS.eq_def,if_neg Y,if_neg af,if_neg ai,if_pos b7];rfl
  simp(disch:=omega) only[List.map_nil,go_sem];refine Ze (λx:Own×List Val×TS=>[]) (λx H'=>KO H r L x.2.2 (16-n) H' x.1 x.2.1.length 5/\H' W=some (.cells [.int .i64 6,.int .i64 0,.str [],.sl x.1 5 (cVs x.2.1),.sl .nil 6 []])/\H' A=some (.cells zB)/\(∃m,x.2.2.length<m/\yR [93] (ZW fixed n) m x.2.1 x.2.2=R)/\x.2.1.length+x.2.2.length<=L.length) (λx=>x.2.2.length) (.nil,[],t.tail) (by simp(disch:=omega) only[go_sem]) ⟨ba,upd_same ..,by rw[upd_ne (Ne.symm an)];exact az,⟨_,Nat.lt_succ_self _,bn⟩,by have:=K1.here;obtain⟨q,hq,_⟩:=this;rw[<-hq];simp⟩ ?_;rintro⟨o,l,u⟩ a0 cp ⟨ab,a2,J,⟨m,b9,X⟩,hlen⟩ b6;simp only at ab a2 J b9 X hlen;obtain⟨m,rfl⟩:∃j,m=j+1:=⟨m-1,by omega⟩;obtain⟨cm,bp,bq⟩:=ab.here;have ar:=Y6 l;simp(disch:=omega) only[go_sem];refine zC (zlL bp ag (by omega) bq [93]) λv Z ⟨a7,ap,ao⟩=>?_;subst a7;cases au:isP [93] u with
  | true =>
   have I:=ap au;have aa:=ab.call I;rw[show 16-n-1=16-(n+1) by omega]at aa;have am:Z W=some (.cells [.int .i64 6,.int .i64 0,.str [],.sl o 5 (cVs l),.sl .nil 6 []]):=by rw[I.other (Ne.symm a9),a2]
   have ad:Z A=some (.cells zB):=by rw[I.other (Ne.symm ax),J]
   simp only[zB]at ad;have ac:R=.ok (l,u.tail):=by rw[<-X,yR,au];rfl
   simp(disch:=omega) only[am,ad,Ne.symm an,an,go_sem];refine fin _ _ [.agg [.int .i64 6,.int .i64 0,.str [],.sl o 5 (cVs l),.sl .nil 6 []]] (Val.mk 6 0 [] l []) u.tail (by simp(disch:=omega) only[ir193,zo,z8,go_sem]) (by rw[aw,ac];rfl) (aa.toKI.box ae) ?_;simp[zP,AV.strip,AV.strip1,cV,cVs,cMs,zq4]
  | false =>
   have I:=ao au;have aa:=ab.call I;obtain⟨cn,ca,cb⟩:=aa.here;have am:Z W=some (.cells [.int .i64 6,.int .i64 0,.str [],.sl o 5 (cVs l),.sl .nil 6 []]):=by rw[I.other (Ne.symm a9),a2]
   have ad:Z A=some (.cells zB):=by rw[I.other (Ne.symm ax),J]
   rw[yR,au]at X;simp only[Al7,if_false]at X;simp(disch:=omega) only[am,go_sem];refine zi (cl n rfl _ r L cn u ca bz cb) (λv aj ⟨x,ce,al,a8,a3⟩=>?_) λv aj ⟨be,al,a8⟩=>pan v aj be a8 (by rw[aw,<-X,al];rfl);subst a8;rw[al,zD]at X;have dd:=(zbI fixed n).lt (by decide) _ _ _ al;have ak:=aa.call a3;have bh:aj W=some (.cells [.int .i64 6,.int .i64 0,.str [],.sl o 5 (cVs l),.sl .nil 6 []]):=by rw[a3.other (Ne.symm a9),am]
   have b4:aj A=some (.cells zB):=by rw[a3.other (Ne.symm ax),ad]
   simp(disch:=omega) only[zp,zk,zg,zn,zl,zh,zu,bh,go_sem];refine zj (by rw[ar];exact ak.own) (by simp only[ar,Al2,Al3];simp only[y0]at ag;omega) (by simp only[ar,Al2,Al3,maxLen];simp only[y0]at ag;omega) λcd co a6=>?_;have b2:=ak.app (by simpa[ar]using a6);have bj:=ak.stay a6 bh;have b5:=ak.stay a6 b4;simp(disch:=omega) only[zp,zk,zg,zn,zl,zh,zu,bj,go_sem];refine goJ (b6 (cd,l++[x],ce) _ (by simp only;omega) ⟨by simpa using b2.box a4 bj,by rw[upd_same];simp[zeY,Y2],by rw[upd_ne (Ne.symm an)];exact b5,⟨m,by simp only;omega,X⟩,by simp only[Al5,Al2,Al3];omega⟩) (by simp(disch:=omega) only[go_sem])
 | false =>
  have bc:=ao hi;have K1:=ay.call bc;have az:H1 A=some (.cells zB):=by rw[bc.other U,J]
  obtain⟨dq,de,dh⟩:=K1.here;have bo:¬ (isP [91] t=true):=by rw[hi];decide
  clear ap ao;simp(disch:=omega) only[go_sem];refine zi (zlN (dp:=16-k) de ag (by omega) dh [123]) (λv bg ⟨av,ap,ao⟩=>?_) λv bg ⟨hi,cy,av⟩=>pan v bg 4 av (cr bo hi (by omega));subst av;cases hi:isP [123] t with
  | true =>
   obtain⟨c6,bd⟩:=ap hi;obtain⟨n,rfl⟩:∃n,k=n+1:=⟨k-1,by omega⟩;rw[show 16-(n+1)+1=16-n by omega]at bd;have K1:=K1.call bd;have az:bg A=some (.cells zB):=by rw[bd.other U,az]
   clear ap ao;have b7:isP [123] t=true:=hi;simp(disch:=omega) only[go_sem];refine zc λW aq=>?_;have c5:=aq;have a4:H W=none:=K1.none aq;have a9:=K1.ne a4;have an:W≠A:=λe=>by subst e;rw[az]at aq;cases aq
   have ba:KO H r L t.tail (16-n) (bg.upd W (.cells [.int .i64 7,.int .i64 0,.str [],.sl .nil 5 [],.sl .nil 6 []])) .nil 0 6:=⟨K1.box a4,rfl,nofun⟩;obtain⟨R,bn⟩:∃R,yR [125] (Zc (ZW fixed n)) (t.tail.length+1) [] t.tail=R:=⟨_,rfl⟩;have aw:ZW fixed (n+1) t=pb R λl t=>.ok (Val.mk 7 0 [] [] l,t):=by rw[<-bn,Zm,zbS.eq_def,if_neg Y,if_neg af,if_neg ai,if_neg bo,if_pos b7];rfl
   simp(disch:=omega) only[List.map_nil,go_sem];refine Ze (λx:Own×List Mem×TS=>[]) (λx H'=>KO H r L x.2.2 (16-n) H' x.1 x.2.1.length 6/\H' W=some (.cells [.int .i64 7,.int .i64 0,.str [],.sl .nil 5 [],.sl x.1 6 (cMs x.2.1)])/\H' A=some (.cells zB)/\(∃m,x.2.2.length<m/\yR [125] (Zc (ZW fixed n)) m x.2.1 x.2.2=R)/\x.2.1.length+x.2.2.length<=L.length) (λx=>x.2.2.length) (.nil,[],t.tail) (by simp(disch:=omega) only[go_sem]) ⟨ba,upd_same ..,by rw[upd_ne (Ne.symm an)];exact az,⟨_,Nat.lt_succ_self _,bn⟩,by have:=K1.here;obtain⟨q,hq,_⟩:=this;rw[<-hq];simp⟩ ?_;rintro⟨o,l,u⟩ a0 cp ⟨ab,a2,J,⟨m,b9,X⟩,hlen⟩ b6;simp only at ab a2 J b9 X hlen;obtain⟨m,rfl⟩:∃j,m=j+1:=⟨m-1,by omega⟩;obtain⟨cm,bp,bq⟩:=ab.here;have ar:=yU l;simp(disch:=omega) only[go_sem];refine zC (zlL bp ag (by omega) bq [125]) λv Z ⟨a7,ap,ao⟩=>?_;subst a7;cases au:isP [125] u with
   | true =>
    have I:=ap au;have aa:=ab.call I;rw[show 16-n-1=16-(n+1) by omega]at aa;have am:Z W=some (.cells [.int .i64 7,.int .i64 0,.str [],.sl .nil 5 [],.sl o 6 (cMs l)]):=by rw[I.other (Ne.symm a9),a2]
    have ad:Z A=some (.cells zB):=by rw[I.other (Ne.symm ax),J]
    simp only[zB]at ad;have ac:R=.ok (l,u.tail):=by rw[<-X,yR,au];rfl
    simp(disch:=omega) only[am,ad,Ne.symm an,an,go_sem];refine fin _ _ [.agg [.int .i64 7,.int .i64 0,.str [],.sl .nil 5 [],.sl o 6 (cMs l)]] (Val.mk 7 0 [] [] l) u.tail (by simp(disch:=omega) only[ir193,zo,z8,go_sem]) (by rw[aw,ac];rfl) (aa.toKI.box ae) ?_;simp[zP,AV.strip,AV.strip1,cV,cVs,cMs,zkR]
   | false =>
    have I:=ao au;have aa:=ab.call I;obtain⟨cn,ca,cb⟩:=aa.here;have am:Z W=some (.cells [.int .i64 7,.int .i64 0,.str [],.sl .nil 5 [],.sl o 6 (cMs l)]):=by rw[I.other (Ne.symm a9),a2]
    have ad:Z A=some (.cells zB):=by rw[I.other (Ne.symm ax),J]
    rw[yR,au]at X;simp only[Al7,if_false]at X;simp(disch:=omega) only[am,go_sem];refine zi (zi9 (cl n rfl) ca bz cb) (λv aj ⟨x,ce,al,a8,a3⟩=>?_) λv aj ⟨be,al,a8⟩=>pan v aj be a8 (by rw[aw,<-X,al];rfl);subst a8;rw[al,zD]at X;have dd:=(zaV (zbI fixed n)).lt (by decide) _ _ _ al;have ak:=aa.call a3;have bh:aj W=some (.cells [.int .i64 7,.int .i64 0,.str [],.sl .nil 5 [],.sl o 6 (cMs l)]):=by rw[a3.other (Ne.symm a9),am]
    have b4:aj A=some (.cells zB):=by rw[a3.other (Ne.symm ax),ad]
    simp(disch:=omega) only[zp,zk,zg,zn,zl,zh,zu,bh,go_sem];refine zj (by rw[ar];exact ak.own) (by simp only[ar,Al2,Al3];simp only[y0]at ag;omega) (by simp only[ar,Al2,Al3,maxLen];simp only[y0]at ag;omega) λcd co a6=>?_;have b2:=ak.app (by simpa[ar]using a6);have bj:=ak.stay a6 bh;have b5:=ak.stay a6 b4;simp(disch:=omega) only[zp,zk,zg,zn,zl,zh,zu,bj,go_sem];refine goJ (b6 (cd,l++[x],ce) _ (by simp only;omega) ⟨by simpa using b2.box a4 bj,by rw[upd_same];simp[zaE,zgo],by rw[upd_ne (Ne.symm an)];exact b5,⟨m,by simp only;omega,X⟩,by simp only[Al5,Al2,Al3];omega⟩) (by simp(disch:=omega) only[go_sem])
  | false =>
   have bd:=ao hi;have ba:=K1.call bd;have ct:bg A=some (.cells zB):=by rw[bd.other U,az]
   obtain⟨dr,dg,di⟩:=ba.here;have ck:¬ (isP [123] t=true):=by rw[hi];decide
   cases cj:fixed with
   | true =>subst cj;simp(disch:=omega) only[go_sem];exact zi (zfi _ r 2) (λ_ _ h=>h.elim) λv a0 h=>pan v a0 2 h (by rw[Zm,zbS.eq_def,if_neg Y,if_neg af,if_neg ai,if_neg bo,if_neg ck];rfl)
   | false =>
    subst cj;have aw:ZW false k t=pb (Y3 [36] t) λ_ t=>pb (Zq t) λs t=>.ok (.mk 8 0 s [] [],t):=by rw[Zm,zbS.eq_def,if_neg Y,if_neg af,if_neg ai,if_neg bo,if_neg ck];rfl
    simp(disch:=omega) only[go_sem];refine zi (zjp (dp:=16-k) dg ag di [36]) (λv a0 ⟨_,dt,bv,cc,ch⟩=>?_) λv a0 ⟨n,bv,cc⟩=>pan v a0 n cc (by rw[aw,bv];rfl);subst cc;have ab:=ba.call ch;obtain⟨cm,bp,bq⟩:=ab.here;have cu:a0 A=some (.cells zB):=by rw[ch.other U,ct]
    simp(disch:=omega) only[go_sem];refine zi (za2 (dp:=16-k) bp ag bq) (λv Z ⟨s,dk,b3,a7,I⟩=>?_) λv Z ⟨n,b3,a7⟩=>pan v Z n a7 (by rw[aw,bv,zD,b3];rfl);subst a7;have aa:=ab.call I;have ad:Z A=some (.cells zB):=by rw[I.other U,cu]
    simp only[zB]at ad;simp(disch:=omega) only[ad,go_sem];exact fin _ _ [.agg [.int .i64 8,.int .i64 0,.str s,.sl .nil 5 [],.sl .nil 6 []]] (.mk 8 0 s [] []) dk (by simp(disch:=omega) only[ir193,zo,z8,go_sem]) (by rw[aw,bv,zD,b3];rfl) (aa.box ae) rfl
def zhp(fixed:Bool):∀k,k<=16->zpS fixed k
 | 0,h=>zpo fixed 0 h λn e=>by cases e
 | k+1,h=>zpo fixed (k+1) h λn e=>by cases e;exact zhp fixed k (by omega)
def zgB{p t L:TS}(h:p++t=L):t.length<=L.length:=by rw[<-h];simp
def znY(l:List DirD):cDs l=l.map cD:=rfl
def zoC{fixed:Bool}{k:Nat}(a2:k<=16){H:zb}{r:Nat}{L p t:TS}(an:p++t=L)(ab:wT L<=y0)(hr:H r=some (prc L p (16-k))):
  zd Tryz.prog 190 [.ptr r 0,.bool fixed] H (RpE H r L (16-k) (zb1 fixed k t) (λl=>.sl .no 6 (cMs l))):=by
 refine Z3 (zd.goO (R:=λv H'=>zfA H r L (16-k) (zb1 fixed k t) (λl=>.sl .no 6 (cMs l)) v.strip H') (RP:=λv H'=>zgi (zb1 fixed k t) v H') ir190.1 ir190.2 (Al4 _) λKP Q az ay=>?_);have ac:L.length<=y0:=Nat.le_trans (za9 L) ab;have a3:=ac;simp only[y0]at a3;have pan:∀(v:AV) (H1:zb) (n:Int),v=YC n->(zb1 fixed k t)=.error n->KP v H1:=λv H1 n av aw=>ay v H1 H1 (Low.refl _) ⟨n,aw,av⟩;have fin:=KI.done az;have ai:=KI.start an hr;have ao:=zhp fixed k a2;simp(disch:=omega) only[ir190,go_sem];refine zC (za4 (dp:=16-k) an ac hr [40]) λv H1 ⟨bc,X⟩=>?_;subst bc;cases hi:isP [40] t with
 | false =>rw[zau,hi]at X;simp(disch:=omega) only[go_sem];exact fin _ _ [.sl .nil 6 []] [] t (by simp(disch:=omega) only[ir190,zo,z8,go_sem]) (by unfold zb1;rw[hi];rfl) (ai.call (by simpa using X)) (by simp[zP,AV.strip,AV.strip1,cMs])
 | true =>
  rw[zau,hi,if_pos rfl]at X;have K1:=ai.call X;obtain⟨bq,am,a7⟩:=K1.here;have I:zb1 fixed k t=pb (Zc (ZW fixed k) t.tail) λx t=>yR [41] (Zc (ZW fixed k)) (t.length+1) [x] t:=by unfold zb1;rw[hi];rfl
  simp(disch:=omega) only[go_sem];refine zi (zi9 ao am ab a7) (λv ag ⟨ap,af,U,ad,a0⟩=>?_) λv ag ⟨n,U,ad⟩=>pan v ag n ad (by rw[I,U];rfl);subst ad;have aq:=K1.call a0;have bo:=(zaV (zbI fixed k)).lt (by decide) _ _ _ U;have bp:=zgB am;rw[U,zD]at I;obtain⟨R,al⟩:∃R,yR [41] (Zc (ZW fixed k)) (af.length+1) [ap] af=R:=⟨_,rfl⟩;rw[al]at I;simp(disch:=omega) only[zp,zk,zg,zn,zl,zh,zu,go_sem];refine Ze (λx:Own×List Mem×TS=>[(5,.sl x.1 6 (cMs x.2.1))]) (λx H'=>KO H r L x.2.2 (16-k) H' x.1 x.2.1.length 6/\(∃m,x.2.2.length<m/\yR [41] (Zc (ZW fixed k)) m x.2.1 x.2.2=R)/\x.2.1.length+x.2.2.length<=L.length) (λx=>x.2.2.length) (.full,[ap],af) (by simp(disch:=omega) only[zp,zk,zg,zn,zl,zh,zu,cMs,zgo,go_sem]) ⟨⟨aq,zA.full _ _ _,nofun⟩,⟨_,Nat.lt_succ_self _,al⟩,by simp only[List.length_singleton];omega⟩ ?_;rintro⟨o,l,u⟩ bh bl ⟨J,⟨m,a4,A⟩,hlen⟩ ax;simp only at J a4 A hlen;obtain⟨m,rfl⟩:∃j,m=j+1:=⟨m-1,by omega⟩;obtain⟨br,a5,a8⟩:=J.here;have Z:=yU l;simp(disch:=omega) only[go_sem];refine zC (za4 (dp:=16-k) a5 ac a8 [41]) λv bj ⟨bd,Y⟩=>?_;subst bd;cases aa:isP [41] u with
  | true =>
   rw[zau,aa,if_pos rfl]at Y;have au:R=.ok (l,u.tail):=by rw[<-A,yR,aa];rfl
   simp(disch:=omega) only[go_sem];refine fin _ _ [.sl o 6 (cMs l)] l u.tail (by simp(disch:=omega) only[ir190,zo,z8,go_sem]) (by rw[I,au]) (J.toKI.call Y) ?_;simp[zP,AV.strip,AV.strip1,zkR]
  | false =>rw[zau,aa]at Y;have aj:=J.call (by simpa using Y);obtain⟨bt,a6,a9⟩:=aj.here;rw[yR,aa]at A;simp only[Al7,if_false]at A;simp(disch:=omega) only[go_sem];refine zi (zi9 ao a6 ab a9) (λv ah ⟨x,bg,W,ae,a1⟩=>?_) λv ah ⟨be,W,ae⟩=>pan v ah be ae (by rw[I,<-A,W];rfl);subst ae;rw[W,zD]at A;have bn:=(zaV (zbI fixed k)).lt (by decide) _ _ _ W;have ak:=aj.call a1;simp(disch:=omega) only[zp,zk,zg,zn,zl,zh,zu,go_sem];refine zj (by rw[Z];exact ak.own) (by simp only[Z,Al2,Al3];omega) (by simp only[Z,Al2,Al3,maxLen];omega) λbf bk ba=>?_;have ar:=ak.app (by simpa[Z]using ba);simp(disch:=omega) only[zp,zk,zg,zn,zl,zh,zu,go_sem];refine goJ (ax (bf,l++[x],bg) _ (by simp only;omega) ⟨by simpa using ar,⟨m,by simp only;omega,A⟩,by simp only[Al5,Al2,Al3];omega⟩) (by simp(disch:=omega) only[zaE,List.map_append,List.map_cons,List.map_nil,zgo,go_sem])
def zcm{fixed:Bool}{k:Nat}(az:k<=16){H:zb}{r:Nat}{L p t:TS}(al:p++t=L)(ak:wT L<=y0)(hr:H r=some (prc L p (16-k))):
  zd Tryz.prog 111 [.ptr r 0,.bool fixed] H (RpE H r L (16-k) (zap fixed k t) (λl=>.sl .no 2 (cDs l))):=by
 refine Z3 (zd.goO (R:=λv H'=>zfA H r L (16-k) (zap fixed k t) (λl=>.sl .no 2 (cDs l)) v.strip H') (RP:=λv H'=>zgi (zap fixed k t) v H') ir111.1 ir111.2 (Al4 _) λKP Q aw av=>?_);have Z:L.length<=y0:=Nat.le_trans (za9 L) ak;have a0:=Z;simp only[y0]at a0;have pan:∀(v:AV) (H1:zb) (n:Int),v=YC n->(zap fixed k t)=.error n->KP v H1:=λv H1 n aq ar=>av v H1 H1 (Low.refl _) ⟨n,ar,aq⟩;have fin:=KI.done aw;have an:=KI.start al hr;obtain⟨R,aj⟩:∃R,zbv [64] (zjj fixed k) (t.length+1) [] t=R:=⟨_,rfl⟩;have ac:zap fixed k t=R:=aj;have bl:=zgB al;simp(disch:=omega) only[ir111,go_sem];refine Ze (λx:Own×List DirD×TS=>[(5,.sl x.1 2 (cDs x.2.1))]) (λx H'=>KO H r L x.2.2 (16-k) H' x.1 x.2.1.length 2/\(∃m,x.2.2.length<m/\zbv [64] (zjj fixed k) m x.2.1 x.2.2=R)/\x.2.1.length+x.2.2.length<=L.length) (λx=>x.2.2.length) (.nil,[],t) (by simp(disch:=omega) only[znY,List.map_nil,go_sem]) ⟨⟨an,rfl,nofun⟩,⟨_,Nat.lt_succ_self _,aj⟩,by simp only[Al3];omega⟩ ?_;rintro⟨o,l,u⟩ be bh ⟨J,⟨m,a1,A⟩,hlen⟩ au;simp only at J a1 A hlen;obtain⟨m,rfl⟩:∃j,m=j+1:=⟨m-1,by omega⟩;obtain⟨bn,a2,a5⟩:=J.here;have X:=Y4 l;simp(disch:=omega) only[go_sem];refine zC (za4 (dp:=16-k) a2 Z a5 [64]) λv bf ⟨a9,W⟩=>?_;subst a9;cases I:isP [64] u with
 | false =>
  rw[zau,I]at W;have ap:R=.ok (l,u):=by rw[<-A,zbv,I];rfl
  simp(disch:=omega) only[go_sem];refine fin _ _ [.sl o 2 (cDs l)] l u (by simp(disch:=omega) only[ir111,zo,z8,go_sem]) (by rw[ac,ap]) (J.toKI.call (by simpa using W)) ?_;simp[zP,AV.strip,AV.strip1,znY,zr8]
 | true =>
  rw[zau,I,if_pos rfl]at W;have bk:=zps I;have af:=J.call W;obtain⟨bo,a3,a6⟩:=af.here;rw[zbv,I,if_pos rfl]at A;simp(disch:=omega) only[go_sem];refine zi (za2 (dp:=16-k) a3 Z a6) (λv ad ⟨nm,bq,U,aa,ax⟩=>?_) λv ad ⟨ba,U,aa⟩=>pan v ad ba aa (by rw[ac,<-A,zjj,U];rfl);subst aa;have ag:=af.call ax;obtain⟨bp,a4,a7⟩:=ag.here;simp(disch:=omega) only[go_sem];refine zi (zoC az a4 ak a7) (λv ae ⟨a,am,Y,ab,ay⟩=>?_) λv ae ⟨bc,Y,ab⟩=>pan v ae bc ab (by rw[ac,<-A,zjj,U,zD,Y];rfl);subst ab;have ah:=ag.call ay;have ai:zjj fixed k u.tail=.ok (⟨nm,a⟩,am):=by rw[zjj,U,zD,Y];rfl
  rw[ai,zD]at A;have bj:=(zm7 fixed k).lt (by decide) _ _ _ ai;simp(disch:=omega) only[zp,zk,zg,zn,zl,zh,zu,go_sem];refine zj (by rw[X];exact ah.own) (by simp only[X,Al2,Al3];omega) (by simp only[X,Al2,Al3,maxLen];omega) λbd bg a8=>?_;have ao:=ah.app (by simpa[X]using a8);simp(disch:=omega) only[zp,zk,zg,zn,zl,zh,zu,go_sem];refine goJ (au (bd,l++[⟨nm,a⟩],am) _ (by simp only;omega) ⟨by simpa using ao,⟨m,by simp only;omega,A⟩,by simp only[Al5,Al2,Al3];omega⟩) (by simp(disch:=omega) only[znY,cD,List.map_append,List.map_cons,List.map_nil,go_sem])
def zhi(k:Nat):Prop:=∀(H:zb) (r:Nat) (L p t:TS),p++t=L->wT L<=y0->H r=some (prc L p (16-k)) -> zd Tryz.prog 47 [.ptr r 0] H (RpE H r L (16-k) (yw k t) λl=>.sl .no 7 (cSs l))
abbrev zS:List AV:=[.int .i64 0,.str [],.str [],.sl .nil 6 [],.sl .nil 2 [],.str [],.sl .nil 7 []]
def zBX{m:List UInt8}{t:TS}(h:isW m t=true):(hdT t).k=2:=by simp only[isW,Al0,z6]at h;exact h.1
def zt4{k:Nat}(bd:k<=16)(b4:zhi k){H:zb}{r:Nat}{L p t:TS}(b3:p++t=L)(ar:wT L<=y0)(hr:H r=some (prc L p (16-k))):
  zd Tryz.prog 189 [.ptr r 0] H (RpE H r L (16-k) (Yd (yw k) k t) (λx=>.agg (cS x))):=by
 refine Z3 (zd.goO (R:=λv H'=>zfA H r L (16-k) (Yd (yw k) k t) (λx=>.agg (cS x)) v.strip H') (RP:=λv H'=>zgi (Yd (yw k) k t) v H') ir189.1 ir189.2 (Al4 _) λKP Q cg cf=>?_);have az:L.length<=y0:=Nat.le_trans (za9 L) ar;have ch:=az;simp only[y0]at ch;have pan:∀(v:AV) (H1:zb) (n:Int),v=YC n->(Yd (yw k) k t)=.error n->KP v H1:=λv H1 n cc cd=>cf v H1 H1 (Low.refl _) ⟨n,cd,cc⟩;have fin:=KI.done cg;have a0:=KI.start b3 hr;simp(disch:=omega) only[ir189,go_sem];refine zc λX ay=>?_;have b5:=a0.ne ay;have ad:=Ne.symm b5;have K1:=a0.box (x:=.cells zS) ay;simp(disch:=omega) only[go_sem];refine zC (zko (dp:=16-k) b3 (by rw[upd_ne b5];exact hr)) λv H1 ⟨ck,ax⟩=>?_;subst ck;subst ax;obtain⟨cq,bf,a1⟩:=K1.here;simp only[zS]at K1 a1;by_cases bo:(hdT t).k=2/\isW [111,110] t=false
 ·obtain⟨aq,W⟩:=bo;have be:((hdT t).k=2)=True:=eq_true aq;have A:Yd (yw k) k t=pb (Zq t) λs t=>pb (zap false k t) λd t=>.ok (.mk 1 [] s [] d [] [],t):=by unfold Yd;rw[if_pos ⟨aq,W⟩]
  simp(disch:=omega) only[zdc,be,go_sem];refine zC (zvx (dp:=16-k) bf a1 [111,110]) λv b6 ⟨bp,ax⟩=>?_;subst bp;subst ax;rw[W];simp(disch:=omega) only[go_sem];refine zi (za2 (dp:=16-k) bf az a1) (λv Z ⟨s,co,ah,am,ap⟩=>?_) λv Z ⟨n,ah,am⟩=>pan v Z n am (by rw[A,ah];rfl);subst am;rw[ah,zD]at A;have bw:=K1.call ap;obtain⟨cr,ci,cj⟩:=bw.here;have b9:Z X=some (.cells zS):=by rw[ap.other ad,upd_same]
  simp(disch:=omega) only[go_sem];refine zi (zcm bd ci ar cj) (λv a2 ⟨d,ct,a6,bq,bz⟩=>?_) λv a2 ⟨n,a6,bq⟩=>pan v a2 n bq (by rw[A,a6];rfl);subst bq;rw[a6,zD]at A;have b7:=bw.call bz;have bx:a2 X=some (.cells zS):=by rw[bz.other ad,b9]
  simp only[zS]at bx;simp(disch:=omega) only[bx,go_sem];exact fin _ _ [.agg [.int .i64 1,.str [],.str s,.sl .nil 6 [],.sl .no 2 (cDs d),.str [],.sl .nil 7 []]] _ _ (by simp(disch:=omega) only[ir189,zo,z8,go_sem]) A (b7.box ay) (by simp[zP,AV.strip,AV.strip1,cS,cMs,cSs])
 have A:Yd (yw k) k t=pb (if isW [111,110] t then Zq t.tail else .ok ([],t)) λo t=>pb (zap false k t) λd t=>pb (yw k t) λl t=>.ok (.mk 2 [] [] [] d o l,t):=by unfold Yd;rw[if_neg bo]
 cases W:isW [111,110] t with
 | true =>
  have aq:=zBX W;have be:((hdT t).k=2)=True:=eq_true aq;rw[W,if_pos rfl]at A;simp(disch:=omega) only[zdc,be,go_sem];refine zC (zvx (dp:=16-k) bf a1 [111,110]) λv b6 ⟨bp,ax⟩=>?_;subst bp;subst ax;rw[W];simp(disch:=omega) only[go_sem];refine zc λI ac=>?_;have U:I≠X:=λe=>by subst e;rw[upd_same]at ac;cases ac
  have Y:H I=none:=by rw[upd_ne U]at ac;exact ac
  have bt:=a0.ne Y;have ae:=Ne.symm bt;have au:=K1.box (x:=.cells [.int .i64 2,.str [],.str [],.sl .nil 6 [],.sl .nil 2 [],.str [],.sl .nil 7 []]) Y;obtain⟨cl,bg,bk⟩:=au.here;simp(disch:=omega) only[go_sem];refine zC (zkY (dp:=16-k) bg az bk [111,110]) λv af ⟨br,J⟩=>?_;subst br;have a8:af I=some (.cells [.int .i64 2,.str [],.str [],.sl .nil 6 [],.sl .nil 2 [],.str [],.sl .nil 7 []]):=by rw[J.other ae,upd_same]
  have a7:af X=some (.cells zS):=by rw[J.other ad,upd_ne (Ne.symm U),upd_same]
  unfold YZ at J;rw[W]at J;simp only[if_true,Al7,if_false]at J;rw[W];have ag:=au.call J;obtain⟨cm,b1,b2⟩:=ag.here;simp(disch:=omega) only[go_sem];refine zi (za2 (dp:=16-k) b1 az b2) (λv Z ⟨o,co,ah,am,ap⟩=>?_) λv Z ⟨n,ah,am⟩=>pan v Z n am (by rw[A,ah];rfl);subst am;rw[ah,zD]at A;have b8:=ag.call ap;have cb:Z I=some (.cells [.int .i64 2,.str [],.str [],.sl .nil 6 [],.sl .nil 2 [],.str [],.sl .nil 7 []]):=by rw[ap.other ae,a8]
  have ca:Z X=some (.cells zS):=by rw[ap.other ad,a7]
  simp(disch:=omega) only[cb,go_sem];have a3:=b8.box (x:=.cells [.int .i64 2,.str [],.str [],.sl .nil 6 [],.sl .nil 2 [],.str o,.sl .nil 7 []]) Y;have ce:Z.upd I (.cells [.int .i64 2,.str [],.str [],.sl .nil 6 [],.sl .nil 2 [],.str o,.sl .nil 7 []])=Z.upd I (.cells [.int .i64 2,.str [],.str [],.sl .nil 6 [],.sl .nil 2 [],.str o,.sl .nil 7 []]):=rfl;obtain⟨cn,bh,bl⟩:=a3.here;refine zi (zcm bd bh ar bl) (λv aa ⟨d,bv,ai,an,ak⟩=>?_) λv aa ⟨n,ai,an⟩=>pan v aa n an (by rw[A,ai];rfl);subst an;rw[ai,zD]at A;have a4:=a3.call ak;have ba:aa I=some (.cells [.int .i64 2,.str [],.str [],.sl .nil 6 [],.sl .nil 2 [],.str o,.sl .nil 7 []]):=by rw[ak.other ae];(exact upd_same ..)
  have a9:aa X=some (.cells zS):=by rw[ak.other ad];(rw[upd_ne (Ne.symm U)];exact ca)
  simp(disch:=omega) only[ba,go_sem];have av:=a4.box (x:=.cells [.int .i64 2,.str [],.str [],.sl .nil 6 [],.sl .no 2 (cDs d),.str o,.sl .nil 7 []]) Y;obtain⟨bu,bj,bn⟩:=av.here;refine zi (b4 _ r L bu bv bj ar bn) (λv ab ⟨l,cp,aj,ao,al⟩=>?_) λv ab ⟨n,aj,ao⟩=>pan v ab n ao (by rw[A,aj];rfl);subst ao;rw[aj,zD]at A;have a5:=av.call al;have bc:ab I=some (.cells [.int .i64 2,.str [],.str [],.sl .nil 6 [],.sl .no 2 (cDs d),.str o,.sl .nil 7 []]):=by rw[al.other ae,upd_same]
  have aw:ab X=some (.cells zS):=by rw[al.other ad,upd_ne (Ne.symm U),a9]
  simp only[zS]at aw;simp(disch:=omega) only[bc,aw,U,Ne.symm U,go_sem];exact fin _ _ [.agg [.int .i64 2,.str [],.str [],.sl .nil 6 [],.sl .no 2 (cDs d),.str o,.sl .no 7 (cSs l)]] _ _ (by simp(disch:=omega) only[ir189,zo,z8,go_sem]) A ((a5.box Y).box ay) (by simp[zP,AV.strip,AV.strip1,cS,cMs,cSs])
 | false =>
  have aq:¬ ((hdT t).k=2):=λh=>bo ⟨h,W⟩;rw[W]at A;simp only[Al7,if_false,zD]at A;simp(disch:=omega) only[zdc,aq,go_sem];refine zc λI ac=>?_;have U:I≠X:=λe=>by subst e;rw[upd_same]at ac;cases ac
  have Y:H I=none:=by rw[upd_ne U]at ac;exact ac
  have bt:=a0.ne Y;have ae:=Ne.symm bt;have au:=K1.box (x:=.cells [.int .i64 2,.str [],.str [],.sl .nil 6 [],.sl .nil 2 [],.str [],.sl .nil 7 []]) Y;obtain⟨cl,bg,bk⟩:=au.here;simp(disch:=omega) only[go_sem];refine zC (zkY (dp:=16-k) bg az bk [111,110]) λv af ⟨br,J⟩=>?_;subst br;have a8:af I=some (.cells [.int .i64 2,.str [],.str [],.sl .nil 6 [],.sl .nil 2 [],.str [],.sl .nil 7 []]):=by rw[J.other ae,upd_same]
  have a7:af X=some (.cells zS):=by rw[J.other ad,upd_ne (Ne.symm U),upd_same]
  unfold YZ at J;rw[W]at J;simp only[if_true,Al7,if_false]at J;rw[W];have ag:=au.call J;obtain⟨cm,b1,b2⟩:=ag.here;simp(disch:=omega) only[go_sem];have a3:=ag.box (x:=.cells [.int .i64 2,.str [],.str [],.sl .nil 6 [],.sl .nil 2 [],.str [],.sl .nil 7 []]) Y;have ce:af.upd I (.cells [.int .i64 2,.str [],.str [],.sl .nil 6 [],.sl .nil 2 [],.str [],.sl .nil 7 []])=af.upd I (.cells [.int .i64 2,.str [],.str [],.sl .nil 6 [],.sl .nil 2 [],.str [],.sl .nil 7 []]):=rfl;obtain⟨cn,bh,bl⟩:=ag.here;refine zi (zcm bd bh ar bl) (λv aa ⟨d,bv,ai,an,ak⟩=>?_) λv aa ⟨n,ai,an⟩=>pan v aa n an (by rw[A,ai];rfl);subst an;rw[ai,zD]at A;have a4:=ag.call ak;have ba:aa I=some (.cells [.int .i64 2,.str [],.str [],.sl .nil 6 [],.sl .nil 2 [],.str [],.sl .nil 7 []]):=by rw[ak.other ae];(exact a8)
  have a9:aa X=some (.cells zS):=by rw[ak.other ad];(exact a7)
  simp(disch:=omega) only[ba,go_sem];have av:=a4.box (x:=.cells [.int .i64 2,.str [],.str [],.sl .nil 6 [],.sl .no 2 (cDs d),.str [],.sl .nil 7 []]) Y;obtain⟨bu,bj,bn⟩:=av.here;refine zi (b4 _ r L bu bv bj ar bn) (λv ab ⟨l,cp,aj,ao,al⟩=>?_) λv ab ⟨n,aj,ao⟩=>pan v ab n ao (by rw[A,aj];rfl);subst ao;rw[aj,zD]at A;have a5:=av.call al;have bc:ab I=some (.cells [.int .i64 2,.str [],.str [],.sl .nil 6 [],.sl .no 2 (cDs d),.str [],.sl .nil 7 []]):=by rw[al.other ae,upd_same]
  have aw:ab X=some (.cells zS):=by rw[al.other ad,upd_ne (Ne.symm U),a9]
  simp only[zS]at aw;simp(disch:=omega) only[bc,aw,U,Ne.symm U,go_sem];exact fin _ _ [.agg [.int .i64 2,.str [],.str [],.sl .nil 6 [],.sl .no 2 (cDs d),.str [],.sl .no 7 (cSs l)]] _ _ (by simp(disch:=omega) only[ir189,zo,z8,go_sem]) A ((a5.box Y).box ay) (by simp[zP,AV.strip,AV.strip1,cS,cMs,cSs])
def zxe{k:Nat}(a3:k<=16)(bv:zhi k){H:zb}{r:Nat}{L p t:TS}(cw:p++t=L)(ae:wT L<=y0)(hr:H r=some (prc L p (16-k))):
  zd Tryz.prog 105 [.ptr r 0] H (RpE H r L (16-k) (zcs (yw k) k t) (λx=>.agg (cS x))):=by
 refine Z3 (zd.goO (R:=λv H'=>zfA H r L (16-k) (zcs (yw k) k t) (λx=>.agg (cS x)) v.strip H') (RP:=λv H'=>zgi (zcs (yw k) k t) v H') ir105.1 ir105.2 (Al4 _) λKP Q cn cm=>?_);have a4:L.length<=y0:=Nat.le_trans (za9 L) ae;have co:=a4;simp only[y0]at co;have pan:∀(v:AV) (H1:zb) (n:Int),v=YC n->(zcs (yw k) k t)=.error n->KP v H1:=λv H1 n ck cl=>cm v H1 H1 (Low.refl _) ⟨n,cl,ck⟩;have fin:=KI.done cn;have ba:=KI.start cw hr;simp(disch:=omega) only[ir105,go_sem];refine zc λI aq=>?_;have cz:=ba.ne aq;have X:=Ne.symm cz;have K1:=ba.box (x:=.cells zS) aq;obtain⟨c5,cp,cb⟩:=K1.here;simp only[zS]at K1 cb;simp(disch:=omega) only[go_sem];refine zC (za4 (dp:=16-k) cp a4 cb [46,46,46]) λv cf ⟨cx,b9⟩=>?_;subst cx;have b5:cf I=some (.cells zS):=by rw[b9.other X,upd_same]
 have ac:=K1.call b9;unfold zau at ac;obtain⟨c6,ax,cc⟩:=ac.here;cases hi:isP [46,46,46] t with
 | true =>
  rw[hi]at ac ax;simp only[if_true]at ac ax;have A:zcs (yw k) k t=Yd (yw k) k t.tail:=by unfold zcs;rw[hi];rfl
  simp(disch:=omega) only[go_sem];refine zi (zt4 a3 bv ax ae cc) (λv ag ⟨x,ce,ai,ar,a1⟩=>?_) λv ag ⟨n,ai,ar⟩=>pan v ag n ar (by rw[A,ai]);subst ar;have a9:=ac.call a1;have b6:ag I=some (.cells zS):=by rw[a1.other X,b5]
  simp only[zS]at b6;simp(disch:=omega) only[b6,zg6,zgW,zcy,go_sem];exact fin _ _ [.agg (cS x)] _ _ (by simp(disch:=omega) only[ir105,zo,z8,zg6,zgW,zcy,go_sem]) (by rw[A,ai]) (a9.box aq) (by simp[zP,AV.strip,zgh])
 | false =>
  rw[hi]at ac ax;simp only[Al7,if_false]at ac ax;have A:zcs (yw k) k t=pb (Zq t) λs t=>pb (if isP [58] t then pb (Zq t.tail) λY t=>.ok ((s,Y),t)else .ok (([],s),t)) λb4 t =>pb (zb1 false k t) λa t=>pb (zap false k t) λd t=>pb (if isP [123] t then yw k t else .ok ([],t)) λl t=>.ok (.mk 0 b4.1 b4.2 a d [] l,t):=by unfold zcs;rw[hi];rfl
  simp(disch:=omega) only[go_sem];refine zi (za2 (dp:=16-k) ax a4 cc) (λv ag ⟨s,ce,ai,ar,a1⟩=>?_) λv ag ⟨n,ai,ar⟩=>pan v ag n ar (by rw[A,ai];rfl);subst ar;rw[ai,zD]at A;have a9:=ac.call a1;have b7:ag I=some (.cells zS):=by rw[a1.other X,b5]
  simp(disch:=omega) only[go_sem];refine zc λU br=>?_;have J:U≠I:=λe=>by subst e;rw[b7]at br;cases br
  have ab:H U=none:=a9.none br;have c2:=ba.ne ab;have af:=Ne.symm c2;have b2:=a9.box (x:=.cells [.int .i64 0,.str [],.str s,.sl .nil 6 [],.sl .nil 2 [],.str [],.sl .nil 7 []]) ab;obtain⟨c7,cq,ct⟩:=b2.here;simp(disch:=omega) only[go_sem];refine zC (za4 (dp:=16-k) cq a4 ct [58]) λv b1 ⟨cy,bp⟩=>?_;subst cy;have bg:b1 U=some (.cells [.int .i64 0,.str [],.str s,.sl .nil 6 [],.sl .nil 2 [],.str [],.sl .nil 7 []]):=by rw[bp.other af,upd_same]
  have b8:b1 I=some (.cells zS):=by rw[bp.other X,upd_ne (Ne.symm J),b7]
  have ad:=b2.call bp;unfold zau at ad;obtain⟨c8,ay,cd⟩:=ad.here;cases ca:isP [58] ce with
  | true =>
   rw[ca]at A ad ay;simp only[if_true]at A ad ay;simp(disch:=omega) only[bg,go_sem];refine zi (za2 (dp:=16-k) ay a4 cd) (λv a8 ⟨Y,da,bf,bw,bq⟩=>?_) λv a8 ⟨n,bf,bw⟩=>pan v a8 n bw (by rw[A,bf];rfl);subst bw;rw[bf,zD,zD]at A;have ch:=ad.call bq;have cj:a8 U=some (.cells [.int .i64 0,.str [],.str s,.sl .nil 6 [],.sl .nil 2 [],.str [],.sl .nil 7 []]):=by rw[bq.other af,bg]
   have ci:a8 I=some (.cells zS):=by rw[bq.other X,b8]
   simp(disch:=omega) only[cj,go_sem];have b3:=ch.box (x:=.cells [.int .i64 0,.str s,.str Y,.sl .nil 6 [],.sl .nil 2 [],.str [],.sl .nil 7 []]) ab;obtain⟨c9,cr,cu⟩:=b3.here;refine zi (zoC a3 cr ae cu) (λv Z ⟨a,c4,aj,au,an⟩=>?_) λv Z ⟨n,aj,au⟩=>pan v Z n au (by rw[A,aj];rfl);subst au;rw[aj,zD]at A;have bc:=b3.call an;have bj:Z U=some (.cells [.int .i64 0,.str s,.str Y,.sl .nil 6 [],.sl .nil 2 [],.str [],.sl .nil 7 []]):=by rw[an.other af];(exact upd_same ..)
   have bh:Z I=some (.cells zS):=by rw[an.other X];(rw[upd_ne (Ne.symm J)];exact ci)
   simp(disch:=omega) only[bj,go_sem];have az:=bc.box (x:=.cells [.int .i64 0,.str s,.str Y,.sl .no 6 (cMs a),.sl .nil 2 [],.str [],.sl .nil 7 []]) ab;obtain⟨c3,bt,bu⟩:=az.here;refine zi (zcm a3 bt ae bu) (λv W ⟨d,a7,ak,av,ao⟩=>?_) λv W ⟨n,ak,av⟩=>pan v W n av (by rw[A,ak];rfl);subst av;rw[ak,zD]at A;have bd:=az.call ao;have bk:W U=some (.cells [.int .i64 0,.str s,.str Y,.sl .no 6 (cMs a),.sl .nil 2 [],.str [],.sl .nil 7 []]):=by rw[ao.other af,upd_same]
   have am:W I=some (.cells zS):=by rw[ao.other X,upd_ne (Ne.symm J),bh]
   simp(disch:=omega) only[bk,go_sem];have ah:=bd.box (x:=.cells [.int .i64 0,.str s,.str Y,.sl .no 6 (cMs a),.sl .no 2 (cDs d),.str [],.sl .nil 7 []]) ab;obtain⟨bz,a5,a6⟩:=ah.here;refine zC (zrn (dp:=16-k) a5 a6 [123]) λv cg ⟨bx,bo⟩=>?_;subst bx;subst bo;have bl:(W.upd U (.cells [.int .i64 0,.str s,.str Y,.sl .no 6 (cMs a),.sl .no 2 (cDs d),.str [],.sl .nil 7 []])) I=some (.cells zS):=by rw[upd_ne (Ne.symm J),am]
   cases a2:isP [123] a7 with
   | true =>
    rw[a2]at A;simp only[if_true]at A;simp(disch:=omega) only[go_sem];refine zi (bv _ r L bz a7 a5 ae a6) (λv aa ⟨l,tD,al,aw,ap⟩=>?_) λv aa ⟨n,al,aw⟩=>pan v aa n aw (by rw[A,al];rfl);subst aw;rw[al,zD]at A;have be:=ah.call ap;have bn:aa U=some (.cells [.int .i64 0,.str s,.str Y,.sl .no 6 (cMs a),.sl .no 2 (cDs d),.str [],.sl .nil 7 []]):=by rw[ap.other af,upd_same]
    have a0:aa I=some (.cells zS):=by rw[ap.other X,bl]
    simp only[zS]at a0;simp(disch:=omega) only[bn,a0,J,Ne.symm J,go_sem];exact fin _ _ [.agg [.int .i64 0,.str s,.str Y,.sl .no 6 (cMs a),.sl .no 2 (cDs d),.str [],.sl .no 7 (cSs l)]] _ _ (by simp(disch:=omega) only[ir105,zo,z8,go_sem]) A ((be.box ab).box aq) (by simp[zP,AV.strip,AV.strip1,cS,cMs,cSs])
   | false =>rw[a2]at A;simp only[Al7,if_false,zD]at A;simp only[zS]at am;simp(disch:=omega) only[am,J,Ne.symm J,go_sem];exact fin _ _ [.agg [.int .i64 0,.str s,.str Y,.sl .no 6 (cMs a),.sl .no 2 (cDs d),.str [],.sl .nil 7 []]] _ _ (by simp(disch:=omega) only[ir105,zo,z8,go_sem]) A (ah.box aq) (by simp[zP,AV.strip,AV.strip1,cS,cMs,cSs])
  | false =>
   rw[ca]at A ad ay;simp only[Al7,if_false,zD]at A ad ay;simp(disch:=omega) only[go_sem];refine zi (zoC a3 ay ae cd) (λv Z ⟨a,c4,aj,au,an⟩=>?_) λv Z ⟨n,aj,au⟩=>pan v Z n au (by rw[A,aj];rfl);subst au;rw[aj,zD]at A;have bc:=ad.call an;have bj:Z U=some (.cells [.int .i64 0,.str [],.str s,.sl .nil 6 [],.sl .nil 2 [],.str [],.sl .nil 7 []]):=by rw[an.other af];(exact bg)
   have bh:Z I=some (.cells zS):=by rw[an.other X];(exact b8)
   simp(disch:=omega) only[bj,go_sem];have az:=bc.box (x:=.cells [.int .i64 0,.str [],.str s,.sl .no 6 (cMs a),.sl .nil 2 [],.str [],.sl .nil 7 []]) ab;obtain⟨c3,bt,bu⟩:=az.here;refine zi (zcm a3 bt ae bu) (λv W ⟨d,a7,ak,av,ao⟩=>?_) λv W ⟨n,ak,av⟩=>pan v W n av (by rw[A,ak];rfl);subst av;rw[ak,zD]at A;have bd:=az.call ao;have bk:W U=some (.cells [.int .i64 0,.str [],.str s,.sl .no 6 (cMs a),.sl .nil 2 [],.str [],.sl .nil 7 []]):=by rw[ao.other af,upd_same]
   have am:W I=some (.cells zS):=by rw[ao.other X,upd_ne (Ne.symm J),bh]
   simp(disch:=omega) only[bk,go_sem];have ah:=bd.box (x:=.cells [.int .i64 0,.str [],.str s,.sl .no 6 (cMs a),.sl .no 2 (cDs d),.str [],.sl .nil 7 []]) ab;obtain⟨bz,a5,a6⟩:=ah.here;refine zC (zrn (dp:=16-k) a5 a6 [123]) λv cg ⟨bx,bo⟩=>?_;subst bx;subst bo;have bl:(W.upd U (.cells [.int .i64 0,.str [],.str s,.sl .no 6 (cMs a),.sl .no 2 (cDs d),.str [],.sl .nil 7 []])) I=some (.cells zS):=by rw[upd_ne (Ne.symm J),am]
   cases a2:isP [123] a7 with
   | true =>
    rw[a2]at A;simp only[if_true]at A;simp(disch:=omega) only[go_sem];refine zi (bv _ r L bz a7 a5 ae a6) (λv aa ⟨l,tD,al,aw,ap⟩=>?_) λv aa ⟨n,al,aw⟩=>pan v aa n aw (by rw[A,al];rfl);subst aw;rw[al,zD]at A;have be:=ah.call ap;have bn:aa U=some (.cells [.int .i64 0,.str [],.str s,.sl .no 6 (cMs a),.sl .no 2 (cDs d),.str [],.sl .nil 7 []]):=by rw[ap.other af,upd_same]
    have a0:aa I=some (.cells zS):=by rw[ap.other X,bl]
    simp only[zS]at a0;simp(disch:=omega) only[bn,a0,J,Ne.symm J,go_sem];exact fin _ _ [.agg [.int .i64 0,.str [],.str s,.sl .no 6 (cMs a),.sl .no 2 (cDs d),.str [],.sl .no 7 (cSs l)]] _ _ (by simp(disch:=omega) only[ir105,zo,z8,go_sem]) A ((be.box ab).box aq) (by simp[zP,AV.strip,AV.strip1,cS,cMs,cSs])
   | false =>rw[a2]at A;simp only[Al7,if_false,zD]at A;simp only[zS]at am;simp(disch:=omega) only[am,J,Ne.symm J,go_sem];exact fin _ _ [.agg [.int .i64 0,.str [],.str s,.sl .no 6 (cMs a),.sl .no 2 (cDs d),.str [],.sl .nil 7 []]] _ _ (by simp(disch:=omega) only[ir105,zo,z8,go_sem]) A (ah.box aq) (by simp[zP,AV.strip,AV.strip1,cS,cMs,cSs])
def zv6:zhi 0:=by
 intro H r L p t aa Y hr;refine zd.goO (R:=λv H'=>zfA H r L (16-0) (yw 0 t) (λl=>.sl .no 7 (cSs l)) v H') (RP:=λv H'=>zgi (yw 0 t) v H') ir47.1 ir47.2 (Al4 _) λKP Q ac W=>?_;have Z:L.length<=y0:=Nat.le_trans (za9 L) Y;have pan:∀(v:AV) (H1:zb) (n:Int),v=YC n->yw 0 t=.error n->KP v H1:=λv H1 n J U=>W v H1 H1 (Low.refl _) ⟨n,U,J⟩;simp(disch:=omega) only[ir47,go_sem];refine zi (zlN (dp:=16-0) aa Z (by omega) hr [123]) (λv H1 ⟨A,X,ad⟩=>?_) λv H1 ⟨hi,ab,A⟩=>pan v H1 4 A (by rw[yw,if_pos hi]);subst A;cases hi:isP [123] t with
 | true=>exact absurd (X hi).1 (by decide)
 | false =>simp(disch:=omega) only[go_sem];exact zi (zfi _ r 2) (λ_ _ h=>h.elim) λv I h=>pan v I 2 h (by rw[yw,hi];rfl)
def zwg{k:Nat}(bp:k<16)(aq:zhi k):zhi (k+1):=by
 intro H r L p t ap ab hr;refine Z3 (zd.goO (R:=λv H'=>zfA H r L (16-(k+1)) (yw (k+1) t) (λl=>.sl .no 7 (cSs l)) v.strip H') (RP:=λv H'=>zgi (yw (k+1) t) v H') ir47.1 ir47.2 (Al4 _) λKP Q a3 a2=>?_);have ac:L.length<=y0:=Nat.le_trans (za9 L) ab;have a6:=ac;simp only[y0]at a6;have pan:∀(v:AV) (H1:zb) (n:Int),v=YC n->(yw (k+1) t)=.error n->KP v H1:=λv H1 n az a0=>a2 v H1 H1 (Low.refl _) ⟨n,a0,az⟩;have fin:=KI.done a3;have av:=KI.start ap hr;simp(disch:=omega) only[ir47,go_sem];refine zi (zlN (dp:=16-(k+1)) ap ac (by omega) hr [123]) (λv H1 ⟨ar,X,aa⟩=>?_) λv H1 ⟨hi,bo,ar⟩=>by exfalso;omega
 subst ar;cases hi:isP [123] t with
 | false =>simp(disch:=omega) only[go_sem];exact zi (zfi _ r 2) (λ_ _ h=>h.elim) λv ah h=>pan v ah 2 h (by rw[yw,hi];rfl)
 | true =>
  have am:=(X hi).2;rw[show 16-(k+1)+1=16-k by omega]at am;have K1:=av.call am;obtain⟨bu,ao,ba⟩:=K1.here;have I:yw (k+1) t=pb (zcs (yw k) k t.tail) λx t=>yR [125] (zcs (yw k) k) (t.length+1) [x] t:=by rw[yw,hi];rfl
  clear X aa;simp(disch:=omega) only[go_sem];refine zi (zxe (by omega) aq ao ab ba) (λv ag ⟨au,af,U,ad,a4⟩=>?_) λv ag ⟨n,U,ad⟩=>pan v ag n ad (by rw[I,U];rfl);subst ad;have aw:=K1.call a4;have br:=(zio (zbt k)).lt (by decide) _ _ _ U;have bt:=zgB ao;rw[U,zD]at I;obtain⟨R,al⟩:∃R,yR [125] (zcs (yw k) k) (af.length+1) [au] af=R:=⟨_,rfl⟩;rw[al]at I;simp(disch:=omega) only[zg6,zgW,zcy,go_sem];refine Ze (λx:Own×List SelD×TS=>[(3,.sl x.1 7 (cSs x.2.1))]) (λx H'=>KO H r L x.2.2 (16-k) H' x.1 x.2.1.length 7/\(∃m,x.2.2.length<m/\yR [125] (zcs (yw k) k) m x.2.1 x.2.2=R)/\x.2.1.length+x.2.2.length<=L.length) (λx=>x.2.2.length) (.full,[au],af) (by simp(disch:=omega) only[cSs,zgh,go_sem]) ⟨⟨aw,zA.full _ _ _,nofun⟩,⟨_,Nat.lt_succ_self _,al⟩,by simp only[List.length_singleton];omega⟩ ?_;rintro⟨o,l,u⟩ ah bn ⟨J,⟨m,a7,A⟩,hlen⟩ a1;simp only at J a7 A hlen;obtain⟨m,rfl⟩:∃j,m=j+1:=⟨m-1,by omega⟩;obtain⟨bv,a8,bc⟩:=J.here;have Y:=YK l;simp(disch:=omega) only[go_sem];refine zC (zlL (dp:=16-k) a8 ac (by omega) bc [125]) λv bk ⟨bf,X,aa⟩=>?_;subst bf;cases Z:isP [125] u with
  | true =>
   have an:=X Z;rw[show 16-k-1=16-(k+1) by omega]at an;have ay:R=.ok (l,u.tail):=by rw[<-A,yR,Z];rfl
   simp(disch:=omega) only[go_sem];refine fin _ _ [.sl o 7 (cSs l)] l u.tail (by simp(disch:=omega) only[ir47,zo,z8,go_sem]) (by rw[I,ay]) (J.toKI.call an) ?_;simp[zP,AV.strip,AV.strip1,zdq,zgh]
  | false =>have aj:=J.call (aa Z);obtain⟨bw,a9,bd⟩:=aj.here;rw[yR,Z]at A;simp only[Al7,if_false]at A;simp(disch:=omega) only[go_sem];refine zi (zxe (by omega) aq a9 ab bd) (λv ai ⟨x,bj,W,ae,a5⟩=>?_) λv ai ⟨bg,W,ae⟩=>pan v ai bg ae (by rw[I,<-A,W];rfl);subst ae;rw[W,zD]at A;have bq:=(zio (zbt k)).lt (by decide) _ _ _ W;have ak:=aj.call a5;simp(disch:=omega) only[zg6,zgW,zcy,go_sem];refine zj (by rw[Y];exact ak.own) (by simp only[Y,Al2,Al3];omega) (by simp only[Y,Al2,Al3,maxLen];omega) λbh bl be=>?_;have ax:=ak.app (by simpa[Y]using be);simp(disch:=omega) only[zg6,zgW,zcy,go_sem];refine goJ (a1 (bh,l++[x],bj) _ (by simp only;omega) ⟨by simpa using ax,⟨m,by simp only;omega,A⟩,by simp only[Al5,Al2,Al3];omega⟩) (by simp(disch:=omega) only[zdq,List.map_append,List.map_cons,List.map_nil,zgh,go_sem])
def zbD:∀k,k<=16->zhi k
 | 0,_=>zv6
 | k+1,h=>zwg (by omega) (zbD k (by omega))
end Go.Proofs.YtnemcnegfkjpeaaGreatDoor
namespace Go.Proofs.YtnemcnegfkjpeaaGreatDoor
open Go.Lib
def znJ{d:Nat}(h:d<10):(UInt8.ofNat (48+d)).toNat=48+d:=by rw[UInt8.toNat_ofNat'];omega
def zqK(u:Nat)(J:u<18446744073709551616)(r:List UInt8):parseUint10 0 (decDigits u++r)=parseUint10 u r:=by
 induction u using Nat.strongRecOn generalizing r with
 | _ u I =>
  rw[decDigits];split
  ·rename_i h;simp only[Al6,Z6,parseUint10,znJ h];rw[if_pos (by omega),if_neg (by omega),if_neg (by omega)]
   congr 1
   omega
  ·rename_i h;have A:u % 10<10:=Nat.mod_lt _ (by omega);rw[ZP,I (u / 10) (by omega) (by omega)];simp only[Al6,Z6,parseUint10,znJ A];rw[if_pos (by omega),if_neg (by omega),if_neg (by omega)]
   congr 1
   omega
def zbm(u:Nat):decDigits u≠[]:=by rw[decDigits];split<;>simp
def zcn(u:Nat):∀c∈decDigits u,48<=c.toNat/\c.toNat<=57:=by
 induction u using Nat.strongRecOn with
 | _ u I =>
  intro c A;rw[decDigits]at A;split at A
  ·rename_i h;rw[List.mem_singleton]at A;subst A;rw[znJ h];omega
  ·rename_i h;rcases List.mem_append.1 A with e|e
   ·exact I (u / 10) (by omega) c e
   ·rw[List.mem_singleton]at e;subst e;rw[znJ (Nat.mod_lt _ (by omega))];omega
def zkH(u:Nat)(A:u<18446744073709551616):parseMag (decDigits u)=.ok u:=by unfold parseMag;rw[if_neg (zbm u)];have:=zqK u A [];rw[List.append_nil]at this;rw[this];rfl
def zi6(n:Int)(I:-9223372036854775808<=n)(J:n<=9223372036854775807):parseIntB 64 (itoa n)=.ok n:=by
 rw[parseIntB_64];unfold itoa;split
 ·rename_i h;rw[atoiAll_minus,zkH _ (by omega)];simp only[signed];rw[if_neg (by omega)]
  congr 1
  omega
 ·rename_i h;cases A:decDigits n.toNat with
  | nil=>exact absurd A (zbm _)
  | cons c r =>
   have U:=zcn n.toNat c (by rw[A];simp);rw[atoiAll_plain c r (by omega) (by omega),<-A,zkH _ (by omega)];simp only[signless];rw[if_neg (by omega)]
   congr 1
   omega
end Go.Proofs.YtnemcnegfkjpeaaGreatDoor
namespace Go.Proofs.YtnemcnegfkjpeaaGreatDoor
open Go.Ab
abbrev pl(v:Val):Prop:=zdW zL v=true
inductive Shape:Val->Prop
 | null:Shape (.mk 0 0 [] [] [])
 | bool (n:Int) (h:n=0∨n=1):Shape (.mk 1 n [] [] [])
 | int (n:Int):Shape (.mk 2 n [] [] [])
 | num (s:List UInt8) (h:zlH s=true):Shape (.mk 3 0 s [] [])
 | text (s:List UInt8):Shape (.mk 4 0 s [] [])
 | word (s:List UInt8) (h:zn9 s=false):Shape (.mk 5 0 s [] [])
 | var (s:List UInt8):Shape (.mk 8 0 s [] [])
 | list (l:List Val) (h:zgf zL l=true):Shape (.mk 6 0 [] l [])
 | obj (m:List Mem) (h:zgO zL m=true):Shape (.mk 7 0 [] [] m)
def zg7{n:Int}{s:List UInt8}{l:List Val}{m:List Mem}:zdJ n s l m=true↔n=0/\s=[]/\l=[]/\m=[]:=by simp[zdJ]
def shape:∀v,pl v->Shape v
 | .mk k n s l m,h=>by
  simp only[pl,zdW]at h;split at h
  ·rename_i J;subst J;simp only[Al0,zg7]at h;obtain⟨I,rfl,rfl,_,rfl⟩:=h;exact .list l I
  ·split at h
   ·rename_i U;subst U;simp only[Al0,zg7]at h;obtain⟨I,rfl,rfl,rfl,_⟩:=h;exact .obj m I
   ·simp only[Zi,Al0,zg7]at h;obtain⟨⟨_,_,rfl,rfl⟩,h⟩:=h;split at h
    ·rename_i A;subst A;simp only[Al0,z6]at h;obtain⟨rfl,rfl⟩:=h;exact .null
    split at h
    ·rename_i A;subst A;simp only[Al0,zcp,z6]at h;obtain⟨h,rfl⟩:=h;exact .bool n h
    split at h
    ·rename_i A;subst A;simp only[z6]at h;subst h;exact .int n
    split at h
    ·rename_i A;subst A;simp only[Al0,z6]at h;obtain⟨rfl,h⟩:=h;exact .num s h
    split at h
    ·rename_i A;subst A;simp only[Al0,z6]at h;obtain⟨rfl,h⟩:=h;exact .text s
    split at h
    ·rename_i A;subst A;simp only[Al0,z6,Bool.not_eq_true']at h;obtain⟨rfl,_,h⟩:=h;exact .word s h
    split at h
    ·rename_i A;subst A;simp only[Al0,z6]at h;obtain⟨rfl,_⟩:=h;exact .var s
    ·cases h
def zuq(n s l m):yQ (.mk 0 n s l m)=[⟨2,[110,117,108,108]⟩]:=by simp[yQ]
def zst(n s l m):yQ (.mk 1 n s l m)=[⟨2,boolT (decide (n=1))⟩]:=by simp[yQ]
def zw5(n s l m):yQ (.mk 2 n s l m)=[⟨3,Lib.itoa n⟩]:=by simp[yQ]
def zwX(n s l m):yQ (.mk 3 n s l m)=[⟨zaO s,s⟩]:=by simp[yQ]
def t_text(n s l m):yQ (.mk 4 n s l m)=[⟨5,s⟩]:=by simp[yQ]
def zss(n s l m):yQ (.mk 5 n s l m)=[⟨2,s⟩]:=by simp[yQ]
def zwW(n s l m):yQ (.mk 8 n s l m)=[⟨1,[36]⟩,⟨2,s⟩]:=by simp[yQ]
def zsR(n s l m):yQ (.mk 6 n s l m)=⟨1,[91]⟩::(zal l++[⟨1,[93]⟩]):=by simp[yQ]
def zwY(n s l m):yQ (.mk 7 n s l m)=⟨1,[123]⟩::(ZV m++[⟨1,[125]⟩]):=by simp[yQ]
def zkd{s:List UInt8}(h:zlH s=true):(zaO s=4∨zaO s=3)/\∀n,inR n->zaO s=3->Lib.itoa n≠s:=by
 simp only[zlH,zcp,z6,Al0,Bool.not_eq_true']at h;refine⟨h.imp id (·.1),λn A I e=>?_⟩;rcases h with h|⟨_,h⟩
 ·omega
 ·rw[YX,<-e,zi6 n A.1 A.2,e,I]at h;simp[okI]at h
def ztw(v:Val)(h:pl v):∃t r,yQ v=t::r/\t≠⟨1,[93]⟩/\t≠⟨1,[125]⟩:=by
 cases shape v h with
 | null=>exact⟨_,_,zuq ..,by simp,by simp⟩
 | bool n h=>exact⟨_,_,zst ..,by simp,by simp⟩
 | int n=>exact⟨_,_,zw5 ..,by simp,by simp⟩
 | num s h =>have:=(zkd h).1;refine⟨_,_,zwX ..,λe=>?_,λe=>?_⟩<;>(injection e with e _;omega)
 | text s=>exact⟨_,_,t_text ..,by simp,by simp⟩
 | word s h=>exact⟨_,_,zss ..,by simp,by simp⟩
 | var s=>exact⟨_,_,zwW ..,by simp,by simp⟩
 | list l h=>exact⟨_,_,zsR ..,by simp,by simp⟩
 | obj m h=>exact⟨_,_,zwY ..,by simp,by simp⟩
open Go.Lib
def zmd{P:UInt8->Prop}(h:∀x:Fin 256,P (UInt8.ofNat x.val))(c:UInt8):P c:=by have:=h ⟨c.toNat,c.toNat_lt⟩;simpa using this
end Go.Proofs.YtnemcnegfkjpeaaGreatDoor
namespace Go.Proofs.YtnemcnegfkjpeaaGreatDoor
open Go.Ab
def zc3(t:List UInt8):zZ (45::t)=if yA t=0 then 0 else 1+zaU t:=by unfold zZ;exact if_pos rfl
def zar{s:List UInt8}(h:¬ s.head?=some 45):zZ s=zaU s:=by unfold zZ;exact if_neg h
open Go.Lib
def zp6(c:UInt8):isD c=true->nch c=true:=zmd (P:=λc=>isD c=true->nch c=true) (by decide +kernel) c
def zAo(c:UInt8):isE c=true->nch c=true:=zmd (P:=λc=>isE c=true->nch c=true) (by decide +kernel) c
def zAw(c:UInt8):isD c=true->nst c=true:=zmd (P:=λc=>isD c=true->nst c=true) (by decide +kernel) c
def zeZ:∀(l:List UInt8) (c:UInt8),c∈l.take (yA l)->isD c=true
 | [],c,h=>by simp at h
 | x::l,c,h=>by
  rw[yA]at h;split at h
  ·rename_i A;rw[zfF]at h;rcases List.mem_cons.1 h with e|e
   ·rw[e];exact A
   ·exact zeZ l c e
  ·simp at h
def zrE{l:List UInt8}{a b:Nat}(h:a<=b){c:UInt8}(A:c∈l.take a):c∈l.take b :=(List.take_prefix_take_left h).subset A
def zsn(s:List UInt8):zaU s<=yA s:=by unfold zaU;split<;>(try split)<;>omega
def zjZ{l:List UInt8}{c:UInt8}(h:c∈l.take (zaU l)):isD c=true:=zeZ l c (zrE (zsn l) h)
def zmZ{s:List UInt8}{c:UInt8}(h:c∈s.take (zZ s)):nch c=true:=by
 by_cases I:s.head?=some 45
 ·cases s with
  | nil=>simp at h
  | cons x t =>
   have J:x=45:=by simpa using I
   subst J;rw[zc3]at h;by_cases A:yA t=0
   ·rw[if_pos A]at h;simp at h
   ·rw[if_neg A,Nat.add_comm,zfF]at h;rcases List.mem_cons.1 h with e|e
    ·rw[e];decide
    ·exact zp6 c (zjZ e)
 ·rw[zar I]at h;exact zp6 c (zjZ h)
def zo5{s:List UInt8}{c:UInt8}(h:c∈s.take (Yc s)):nch c=true:=by
 unfold Yc at h;split at h
 ·rename_i A;cases s with
  | nil=>simp at h
  | cons x t =>
   have I:x=46:=by simpa using A.1
   subst I;simp only[List.tail_cons]at h;rw[Nat.add_comm,zfF]at h;rcases List.mem_cons.1 h with e|e
   ·rw[e];decide
   ·exact zp6 c (zeZ _ c e)
 ·simp at h
def zou{s:List UInt8}(h:zZ s≠0):∃c t,s=c::t/\nst c=true:=by
 cases s with
 | nil=>exact absurd (by decide) h
 | cons c t =>
  refine⟨c,t,rfl,?_⟩;by_cases A:c=45
  ·rw[A];decide
  ·rw[zar (by simpa using A)]at h;apply zAw;cases I:isD c with
   | true=>rfl
   | false=>exact absurd (by simp[zaU,yA,I]) h
def zsc{r:List UInt8}{c:UInt8}(h:c∈r.take (sgN r)):nch c=true:=by
 unfold sgN at h;split at h
 ·rename_i A;cases r with
  | nil=>simp at h
  | cons x t =>simp only[List.head?_cons,Al1]at A;simp at h;subst h;rcases A with rfl|rfl<;>decide
 ·simp at h
def zqU:∀(s:List UInt8) (c:UInt8),c∈s.take (zbT s)->nch c=true
 | [],c,h=>by simp at h
 | x::r,c,h=>by
  rw[zbT]at h;split at h
  ·rename_i A;split at h
   ·simp at h
   ·rw[Nat.add_assoc,Nat.add_comm,zfF]at h;rcases List.mem_cons.1 h with e|e
    ·rw[e];exact zAo x A
    ·rw[List.take_add]at e;rcases List.mem_append.1 e with e|e
     ·exact zsc e
     ·exact zp6 c (zeZ _ c e)
  ·simp at h
def zr9{s:List UInt8}(h:zaO s≠0):(∀c∈s,nch c=true)/\∃c t,s=c::t/\nst c=true:=by
 unfold zaO at h;split at h
 ·rename_i I;unfold ZJ at h I;split at h
  ·exact absurd rfl h
  ·rename_i J;rw[if_neg J]at I;simp only at I;refine⟨λc A=>?_,zou J⟩;have e:s=s.take (zZ s+Yc (s.drop (zZ s))+zbT (s.drop (zZ s+Yc (s.drop (zZ s))))):=by rw[I,List.take_length]
   rw[e,List.take_add,List.take_add]at A;rcases List.mem_append.1 A with A|A
   ·rcases List.mem_append.1 A with A|A
    ·exact zmZ A
    ·exact zo5 A
   ·exact zqU _ _ A
 ·exact absurd rfl h
def zv0{u:Nat}{c:UInt8}(h:c∈decDigits u):isD c=true:=by have:=zcn u c h;simp[isD,this]
def znM:∀l:List UInt8,(∀c∈l,isD c=true)->yA l=l.length
 | [],_=>rfl
 | c::l,h=>by rw[yA,if_pos (h c (.head _)),znM l λx A=>h x (.tail _ A)];rfl
def zmq(u:Nat):∃c t,decDigits u=c::t/\(c=48->t=[]):=by
 induction u using Nat.strongRecOn with
 | _ u Z =>
  rw[decDigits];split
  ·exact⟨_,[],rfl,λ_=>rfl⟩
  ·rename_i h;obtain⟨c,t,A,J⟩:=Z (u / 10) (by omega);refine⟨c,t++[UInt8.ofNat (48+u % 10)],by rw[A];rfl,λe=>?_⟩;have Y:=J e;subst e;subst Y;rw[decDigits]at A;split at A
   ·rename_i U;have W:=congrArg UInt8.toNat (List.cons.inj A).1;rw[znJ U]at W;have:(48:UInt8).toNat=48:=rfl;omega
   ·have:=congrArg List.length A;have X:=zbm (u / 10 / 10);cases I:decDigits (u / 10 / 10)with
    | nil=>exact absurd I X
    | cons a b=>rw[I]at this;simp at this
def ziX(u:Nat):zaU (decDigits u)=(decDigits u).length/\yA (decDigits u)≠0:=by
 have A:=znM (decDigits u) λc X=>zv0 X;obtain⟨c,t,I,W⟩:=zmq u;have J:yA (decDigits u)≠0:=by rw[A,I];simp
 refine⟨?_,J⟩;unfold zaU;rw[if_neg J];split
 ·rename_i U;rw[I]at U ⊢;rw[W (by simpa using U)];rfl
 ·exact A
def zqx(n:Int):zaO (itoa n)=3:=by
 have key:∀s:List UInt8,zZ s=s.length->s≠[]->zaO s=3:=λs h J=>by
  have Y:s.length≠0:=λe=>J (zcN.1 e);have I:Yc ([]:List UInt8)=0:=by decide
  have W:ZJ s=(s.length,3):=by unfold ZJ;rw[if_neg (by omega)];simp[h,I,zbT]
  unfold zaO;rw[W];simp
 unfold itoa;split
 ·refine key _ ?_ (by simp);rw[zc3,if_neg (ziX _).2,(ziX _).1];simp;omega
 ·refine key _ ?_ (zbm _);obtain⟨c,t,A,X⟩:=zmq n.toNat;have U:¬ (decDigits n.toNat).head?=some 45:=by
   rw[A];simp;intro e;subst e;have:=zcn n.toNat 45 (by rw[A];simp);have e:(45:UInt8).toNat=45:=rfl;omega
  rw[zar U,(ziX _).1]
def zoQ{n:Int}(h:inR n):YX (itoa n)=true/\zjv (itoa n)=n:=by have A:=zi6 n h.1 h.2;exact⟨by simp[YX,A,okI,zqx],by simp[zjv,A]⟩
end Go.Proofs.YtnemcnegfkjpeaaGreatDoor
namespace Go.Proofs.YtnemcnegfkjpeaaGreatDoor
open Go.Ab
def YH(x:Tok)(t:TS):hdT (x::t)=x:=rfl
def zaL(m:List UInt8)(x:Tok)(t:TS):isP m (x::t)=(decide (x.k=1)&&decide (x.s=m)):=rfl
def zsa(m:List UInt8)(x:Tok)(t:TS):isW m (x::t)=(decide (x.k=2)&&decide (x.s=m)):=rfl
def yG(m n:List UInt8)(t:TS):isP m (pk n::t)=decide (n=m):=by simp[zaL,pk]
def zdk(m n:List UInt8)(t:TS):isP m (wk n::t)=false:=by simp[zaL,wk]
def zg0(m n:List UInt8)(t:TS):isW m (wk n::t)=decide (n=m):=by simp[zsa,wk]
def zdO(m:List UInt8)(t:TS):Y3 m (pk m::t)=.ok ((),t):=by simp[Y3,yG]
def ZC(s:List UInt8)(t:TS):Zq (wk s::t)=.ok (s,t):=by simp[Zq,YH,wk]
def zdh{α:Type}{tk:α->List Tok}{m:List UInt8}{f:TS->PR α}{F:TS->Prop}(I:∀t,F (pk m::t)):∀(l:List α),(∀x∈l,∀t,F (tk x++t))->(∀x∈l,∀t,isP m (tk x++t)=false)->(∀x∈l,∀t,F t->f (tk x++t)=.ok (x,t)) ->
  ∀(n:Nat) (acc:List α) (t:TS),l.length<n->yR m f n acc (l.flatMap tk++pk m::t)=.ok (acc++l,t)
 | [],_,_,_,n+1,acc,t,_=>by simp[yR,yG]
 | x::l,h1,h2,h3,n+1,acc,t,hn=>by
  have e:(x::l).flatMap tk++pk m::t=tk x++(l.flatMap tk++pk m::t):=by simp
  have J:F (l.flatMap tk++pk m::t):=by
   cases l with
   | nil=>exact I t
   | cons y l=>simp only[List.flatMap_cons,ZP];exact h1 y (by simp) _
  rw[e,yR,h2 x (by simp),h3 x (by simp) _ J];simp only[Al7,if_false,pb];rw[zdh I l (λy A=>h1 y (by simp[A])) (λy A=>h2 y (by simp[A])) (λy A=>h3 y (by simp[A])) n _ t (by simpa using hn)];simp
def zaA{α:Type}{tk:α->List Tok}:∀(l:List α),(∀x∈l,tk x≠[])->l.length<=(l.flatMap tk).length
 | [],_=>by simp
 | x::l,h=>by have I:=List.length_pos_iff.2 (h x (by simp));have J:=zaA l λy A=>h y (by simp[A]);simp only[List.flatMap_cons,Al5,Al2];omega
def zeq{α:Type}{tk:α->List Tok}{m:List UInt8}{f:TS->PR α}{F:TS->Prop}(W:∀t,F (pk m::t))(l:List α)(Y:l≠[])(I:∀x∈l,∀t,F (tk x++t))(J:∀x∈l,∀t,isP m (tk x++t)=false)(U:∀x∈l,∀t,F t->f (tk x++t)=.ok (x,t))(t:TS):zcu m f (l.flatMap tk++pk m::t)=.ok (l,t):=by
 cases l with
 | nil=>exact absurd rfl Y
 | cons x l =>
  have e:(x::l).flatMap tk++pk m::t=tk x++(l.flatMap tk++pk m::t):=by simp
  have X:F (l.flatMap tk++pk m::t):=by
   cases l with
   | nil=>exact W t
   | cons y l=>simp only[List.flatMap_cons,ZP];exact I y (by simp) _
  have Z:∀y∈l,tk y≠[]:=λy A h=>by have:=J y (by simp[A]) (pk m::t);rw[h]at this;simp[yG]at this
  have:=zaA l Z;rw[e,zcu,U x (by simp) _ X];simp only[pb];rw[zdh W l (λy A=>I y (by simp[A])) (λy A=>J y (by simp[A])) (λy A=>U y (by simp[A])) _ _ t (by simp only[Al5];omega)];simp
def zhA{α:Type}{tk:α->List Tok}{m:List UInt8}{f:TS->PR α}{F:TS->Prop}(A:∀t,F (pk m::t)):∀(l:List α),(∀x∈l,∀t,F t->f (tk x++t)=.ok (x,t)) ->
  ∀(n:Nat) (acc:List α) (t:TS),F t->isP m t=false->l.length<n->zbv m f n acc (l.flatMap (λx=>pk m::tk x)++t)=.ok (acc++l,t)
 | [],_,n+1,acc,t,_,ht,_=>by simp[zbv,ht]
 | x::l,h3,n+1,acc,t,hFt,ht,hn=>by
  have e:(x::l).flatMap (λx=>pk m::tk x)++t=pk m::(tk x++(l.flatMap (λx=>pk m::tk x)++t)):=by simp
  have I:F (l.flatMap (λx=>pk m::tk x)++t):=by
   cases l with
   | nil=>exact hFt
   | cons y l=>simp only[List.flatMap_cons,Al6];exact A _
  rw[e,zbv,yG];simp only[decide_true,if_true,List.tail_cons];rw[h3 x (by simp) _ I];simp only[pb];rw[zhA A l (λy J=>h3 y (by simp[J])) n _ t hFt ht (by simpa using hn)];simp
def zkf(n:Nat)(m:Int)(i:Nat):zfV (n+1) m (i+1)=zfV n (m / 2) i:=by
 have e:zeD m (i+1)=zeD (m / 2) i:=by unfold zeD;rw[Int.pow_succ,Int.mul_comm,<-Int.ediv_ediv_of_nonneg (by decide)]
 unfold zfV;rw[e];simp
def zkK(n:Nat)(m:Int):∀i,zd8 (n+1) m (i+1)=zd8 n (m / 2) i++zfV (n+1) m 0
 | 0=>by rw[zd8,zd8,zd8,zkf]
 | i+1=>by rw[zd8,zkK n m i,zkf];simp[zd8]
def zmv(s:List UInt8):∀(n k:Nat) (m:Int) (t:TS),n<=k->0<=m->m<2 ^ (n+1)->isP [33] t=false->zei k (List.replicate n (pk [91])++(wk s::zd8 n m n)++t)=.ok (⟨s,n,m⟩,t)
 | 0,k,m,t,_,h0,h1,ht=>by
  have U:m=0∨m=1:=by omega
  rw[zc5,zjE.eq_def];rcases U with rfl|rfl
  ·simp[zdk,ZC,pb,zd8,zfV,zeD,zgg,ht]
  ·simp[zdk,ZC,pb,zd8,zfV,zeD,zgg,yG]
 | n+1,0,_,_,h,_,_,_=>by omega
 | n+1,k+1,m,t,hk,h0,h1,ht=>by
  have e:List.replicate (n+1) (pk [91])++(wk s::zd8 (n+1) m (n+1))++t=pk [91]::(List.replicate n (pk [91])++(wk s::zd8 n (m / 2) n)++(zfV (n+1) m 0++t)):=by rw[zkK];simp[List.replicate_succ]
  have A:zfV (n+1) m 0++t=pk [93]::((if zeD m 0 then [pk [33]]else [])++t):=by simp[zfV]
  rw[e,zc5,zjE.eq_def,yG,zlZ];simp only[decide_true,if_true,List.tail_cons];rw[zmv s n k (m / 2) _ (by omega) (by omega) (by rw[Int.pow_succ]at h1;omega) (by rw[A,yG];decide),A];simp only[pb,zdO];unfold zgg;have J:zeD m 0=decide (m % 2=1):=by simp[zeD]
  rw[J];by_cases I:m % 2=1
  ·simp[I,yG];omega
  ·simp[I,ht];omega
def ziD:∀l,zal l=l.flatMap yQ
 | []=>rfl
 | v::r=>by rw[zal,ziD r];rfl
def zfY:∀l,ZV l=l.flatMap zc7
 | []=>rfl
 | v::r=>by rw[ZV,zfY r];rfl
def ze0{A:List UInt8->Bool}:∀ {l:List Val},zgf A l=true->∀v∈l,zdW A v=true| _::_,h,v,hv=>by simp only[zgf,Al0]at h;exact(List.mem_cons.1 hv).elim (λe=>e▸h.1) (ze0 h.2 v)
def zkj{A:List UInt8->Bool}:∀ {l:List Mem},zgO A l=true->∀v∈l,zwM A v=true| _::_,h,v,hv=>by simp only[zgO,Al0]at h;exact(List.mem_cons.1 hv).elim (λe=>e▸h.1) (zkj h.2 v)
def zex:∀ {l:List Val} {n:Int},n<=Z1 l n/\∀v∈l,y5 v<=Z1 l n
 | [],n=>⟨Int.le_refl _,λv A=>by cases A⟩
 | x::l,n=>by
  have I:=zex (l:=l) (n:=mm2 true n (y5 x));have J:=zk4 n (y5 x);have U:y5 x<=mm2 true n (y5 x):=by simp only[mm2,if_true];split<;>omega
  simp only[Z1];refine⟨by omega,λv A=>?_⟩;rcases List.mem_cons.1 A with rfl|h
  ·omega
  ·exact I.2 v h
def zd2:∀ {l:List Mem} {n:Int},n<=ZZ l n/\∀v∈l,Yz v<=ZZ l n
 | [],n=>⟨Int.le_refl _,λv A=>by cases A⟩
 | x::l,n=>by
  have I:=zd2 (l:=l) (n:=mm2 true n (Yz x));have J:=zk4 n (Yz x);have U:Yz x<=mm2 true n (Yz x):=by simp only[mm2,if_true];split<;>omega
  simp only[ZZ];refine⟨by omega,λv A=>?_⟩;rcases List.mem_cons.1 A with rfl|h
  ·omega
  ·exact I.2 v h
mutual
def zfE:∀v acc,acc.length<=(yL v acc).length/\(yL v acc=acc∨acc.length<(yL v acc).length)
 | .mk k n s l m,acc=>by
  have A:=zej l acc;have I:=zeh m acc;simp only[yL];split
  ·split
   ·exact⟨Al4 _,.inl rfl⟩
   ·simp
  ·split
   ·exact A
   ·split
    ·exact I
    ·exact⟨Al4 _,.inl rfl⟩
def zej:∀l acc,acc.length<=(Yw l acc).length/\(Yw l acc=acc∨acc.length<(Yw l acc).length)
 | [],acc=>⟨Al4 _,.inl rfl⟩
 | v::r,acc=>by
  have I:=zfE v acc;have A:=zej r (yL v acc);simp only[Yw];refine⟨by omega,?_⟩;rcases I.2 with e|h
  ·rw[e]at A ⊢;exact A.2
  ·exact .inr (by omega)
def zjs:∀x acc,acc.length<=(zcf x acc).length/\(zcf x acc=acc∨acc.length<(zcf x acc).length)| .mk s v,acc=>by simpa only[zcf]using zfE v acc
def zeh:∀l acc,acc.length<=(Yx l acc).length/\(Yx l acc=acc∨acc.length<(Yx l acc).length)
 | [],acc=>⟨Al4 _,.inl rfl⟩
 | v::r,acc=>by
  have I:=zjs v acc;have A:=zeh r (zcf v acc);simp only[Yx];refine⟨by omega,?_⟩;rcases I.2 with e|h
  ·rw[e]at A ⊢;exact A.2
  ·exact .inr (by omega)
end
def zic:∀ {l:List Val},Yw l []=[]->∀v∈l,yL v []=[]
 | x::l,h,v,hv=>by
  simp only[Yw]at h;have I:=zfE x [];have A:=zej l (yL x []);rw[h]at A;have e:yL x []=[]:=by
   rcases I.2 with e|e
   ·exact e
   ·simp at A e;omega
  rcases List.mem_cons.1 hv with rfl|J
  ·exact e
  ·rw[e]at h;exact zic h v J
def zju:∀ {l:List Mem},Yx l []=[]->∀v∈l,zcf v []=[]
 | x::l,h,v,hv=>by
  simp only[Yx]at h;have I:=zjs x [];have A:=zeh l (zcf x []);rw[h]at A;have e:zcf x []=[]:=by
   rcases I.2 with e|e
   ·exact e
   ·simp at A e;omega
  rcases List.mem_cons.1 hv with rfl|J
  ·exact e
  ·rw[e]at h;exact zju h v J
def zmB(v:Val)(h:pl v)(t:TS):isP [93] (yQ v++t)=false:=by
 obtain⟨x,r,e,A,_⟩:=ztw v h;rw[e,Al6,zaL];cases I:decide (x.k=1)&&decide (x.s=[93])with
 | false=>rfl
 | true =>simp only[Al0,z6]at I;exact absurd (by cases x;simp_all) A
def zhC{f:TS->PR Val}{s:List UInt8}{v:Val}(A:∀t,f (yQ v++t)=.ok (v,t))(t:TS):Zc f (zc7 (.mk s v)++t)=.ok (.mk s v,t):=by
 have e:zc7 (.mk s v)++t=wk s::pk [58]::(yQ v++t):=by simp[zc7,wk,pk]
 rw[e,Zc,ZC];simp only[pb,zdO,A]
def ztG(fixed:Bool):∀v,pl v->wfV v->∀(k:Nat) (t:TS),y5 v<=k->(fixed=true->yL v []=[])->ZW fixed k (yQ v++t)=.ok (v,t):=by
 refine Val.ind λk n s l m aj ak ai Z d t aa X=>?_;cases shape _ ai with
 | null=>rw[zuq,Zm,zbS.eq_def];simp[YH,zca,zV]
 | bool n h =>rw[zst,Zm,zbS.eq_def];rcases h with rfl|rfl<;>simp[YH,zca,boolT]
 | int n =>have h:=zoQ Z.1;rw[zw5,Zm,zbS.eq_def];simp[YH,zjb,h.1,h.2]
 | num s h =>
  have I:=(zkd h).1;have ae:YX s=false:=by
   simp only[zlH,zcp,z6,Al0,Bool.not_eq_true']at h;rcases h with h|h
   ·simp[YX,h]
   ·exact h.2
  have af:¬ (zaO s=2):=by omega
  have ag:zaO s=3∨zaO s=4:=by omega
  rw[zwX,Zm,zbS.eq_def];simp[YH,zjb,ae,af,ag]
 | text s=>rw[t_text,Zm,zbS.eq_def];simp[YH]
 | word s h =>
  rw[zss,Zm,zbS.eq_def];have I:s≠[110,117,108,108]/\s≠[116,114,117,101]/\s≠[102,97,108,115,101]:=by simp only[zn9,Bool.or_eq_false_iff,decide_eq_false_iff_not]at h;exact⟨h.2.2,h.1,h.2.1⟩
  simp[YH,zca,I.1,I.2.1,I.2.2]
 | var s =>
  cases fixed with
  | true=>have:=X rfl;simp[yL,yo]at this
  | false =>rw[zwW,Zm,zbS.eq_def];have e:=zdO [36] (⟨2,s⟩::t);have J:=ZC s t;simp only[pk,wk]at e J;simp[YH,zaL,e,J,pb]
 | list l h =>
  have ah:Z1 l 0+1<=d:=by simpa[y5]using aa
  have ad:=(zex (l:=l) (n:=0)).1;obtain⟨d,rfl⟩:∃e,d=e+1:=⟨d-1,by omega⟩;have Y:fixed=true->Yw l []=[]:=λe=>by simpa[yL]using X e
  rw[zsR,Zm,zbS.eq_def];have W:=zdh (tk:=yQ) (m:=[93]) (f:=ZW fixed d) (F:=λ_=>True) (λ_=>trivial) l (λ_ _ _=>trivial) (λx A t=>zmB x (ze0 h x A) t) (λx A t _=>aj x A (ze0 h x A) (zit Z.2.1 x A) d t (by have:=(zex (l:=l) (n:=0)).2 x A;omega) λe=>zic (Y e) x A);have J:yR [93] (ZW fixed d) ((zal l).length+(t.length+1)+1) [] (zal l++⟨1,[93]⟩::t)=.ok (l,t):=by
   have ac:=zaA (tk:=yQ) l λx A e=>by have:=zmB x (ze0 h x A) (pk [93]::[]);rw[e]at this;simp[yG]at this
   rw[ziD];have U:=W ((l.flatMap yQ).length+(t.length+1)+1) [] t (by omega);rw[Z6]at U;exact U
  simp[YH,zaL,J,pb,zm9]
 | obj m h =>
  have ah:ZZ m 0+1<=d:=by simpa[y5]using aa
  have ad:=(zd2 (l:=m) (n:=0)).1;obtain⟨d,rfl⟩:∃e,d=e+1:=⟨d-1,by omega⟩;have Y:fixed=true->Yx m []=[]:=λe=>by simpa[yL]using X e
  have ab:∀(x:Mem) (t:TS),isP [125] (zc7 x++t)=false:=λx t=>by cases x;simp[zc7,zaL]
  rw[zwY,Zm,zbS.eq_def];have W:=zdh (tk:=zc7) (m:=[125]) (f:=Zc (ZW fixed d)) (F:=λ_=>True) (λ_=>trivial) m (λ_ _ _=>trivial) (λx A t=>ab x t) (λx A t _=>by obtain⟨s,v⟩:=x;have I:=zkj h _ A;simp only[zwM,Al0]at I;exact zhC (λt=>ak s v A I.2 (zey Z.2.2 s v A) d t (by have:=(zd2 (l:=m) (n:=0)).2 _ A;simp only[Yz]at this;omega) λe=>by simpa[zcf]using zju (Y e) _ A) t);have J:yR [125] (Zc (ZW fixed d)) ((ZV m).length+(t.length+1)+1) [] (ZV m++⟨1,[125]⟩::t)=.ok (m,t):=by
   have ac:=zaA (tk:=zc7) m λx A e=>by have:=ab x (pk [125]::[]);rw[e]at this;simp[yG]at this
   rw[zfY];have U:=W ((m.flatMap zc7).length+(t.length+1)+1) [] t (by omega);rw[Z6]at U;exact U
  simp[YH,zaL,J,pb,zm9]
def zbn(i:Nat)(m:Int)(t:TS):Int×TS:=if isP [33] t then (m+2 ^ i,t.tail)else (m,t)
def zfz(n i:Nat)(t:TS):PR Unit:=if i<n then Y3 [93] t else .ok ((),t)
def tyL(n:Nat):Nat->Int->TS->PR Int
 | 0,m,t=>pb (zfz n 0 t) λ_ t=>.ok (zbn 0 m t)
 | i+1,m,t=>pb (zfz n (i+1) t) λ_ t=>tyL n i (zbn (i+1) m t).1 (zbn (i+1) m t).2
def zrV(n i:Nat)(t:TS):zfz (n+1) (i+1) t=zfz n i t:=by
 unfold zfz;by_cases h:i<n
 ·rw[if_pos h,if_pos (by omega)]
 ·rw[if_neg h,if_neg (by omega)]
def zuv(i:Nat)(m:Int)(t:TS):zbn (i+1) (m*2) t=((zbn i m t).1*2,(zbn i m t).2):=by
 unfold zbn;split
 ·simp only[Al8,and_true];rw[Int.pow_succ];omega
 ·rfl
def zw7(n:Nat):∀(i:Nat) (m:Int) (t:TS),tyL (n+1) (i+1) (m*2) t=pb (tyL n i m t) λm t=>pb (Y3 [93] t) λ_ t=>.ok (zbn 0 (m*2) t)
 | 0,m,t=>by
  have e:∀(m:Int) (t:TS),tyL (n+1) 0 m t=pb (Y3 [93] t) λ_ t=>.ok (zbn 0 m t):=λm t=>by rw[tyL,zfz,if_pos (Nat.succ_pos n)]
  have A:tyL (n+1) (0+1) (m*2) t=pb (zfz n 0 t) λ_ t=>tyL (n+1) 0 (zbn (0+1) (m*2) t).1 (zbn (0+1) (m*2) t).2:=by conv=>lhs;rw[tyL,zrV]
  have I:tyL n 0 m t=pb (zfz n 0 t) λ_ t=>.ok (zbn 0 m t):=by rw[tyL]
  rw[A,I];rcases zfz n 0 t with x|⟨_,J⟩
  ·rfl
  ·simp only[zD];rw[zuv,e];rfl
 | i+1,m,t=>by
  have A:tyL (n+1) (i+1+1) (m*2) t=pb (zfz n (i+1) t) λ_ t=>tyL (n+1) (i+1) (zbn (i+1+1) (m*2) t).1 (zbn (i+1+1) (m*2) t).2:=by conv=>lhs;rw[tyL,zrV]
  have I:tyL n (i+1) m t=pb (zfz n (i+1) t) λ_ t=>tyL n i (zbn (i+1) m t).1 (zbn (i+1) m t).2:=by rw[tyL]
  rw[A,I];rcases zfz n (i+1) t with x|⟨_,J⟩
  ·rfl
  ·simp only[zD];rw[zuv,zw7 n i]
def zk1:∀(n k:Nat) (u:TS),n<=k->isP [91] u=false->zei k (List.replicate n (pk [91])++u)=pb (Zq u) λs t=>pb (tyL n n 0 t) λm t=>.ok (⟨s,n,m⟩,t)
 | 0,k,u,_,hu=>by
  rw[List.replicate_zero,Z6,zc5,zjE.eq_def,hu];simp only[Al7,if_false];rcases Zq u with x|⟨s,t⟩
  ·rfl
  ·simp only[zD,tyL,zfz,Nat.lt_irrefl,if_false];unfold zgg zbn;cases isP [33] t<;>simp[pb]
 | n+1,0,u,h,_=>by omega
 | n+1,k+1,u,h,hu=>by
  rw[List.replicate_succ,Al6,zc5,zjE.eq_def,yG,zlZ];simp only[decide_true,if_true,List.tail_cons];rw[zk1 n k u (by omega) hu];rcases Zq u with x|⟨s,t⟩
  ·rfl
  ·simp only[zD];have e:=zw7 n n 0 t;rw[Int.zero_mul]at e;rw[e];rcases tyL n n 0 t with x|⟨m,A⟩
   ·rfl
   ·simp only[zD];rcases Y3 [93] A with x|⟨_,I⟩
    ·rfl
    ·simp only[zD];unfold zgg zbn;cases isP [33] I<;>simp[pb]
def tyN(n:Nat):Nat->Int->TS->PR Int
 | 0,m,t=>.ok (m,t)
 | i+1,m,t=>tyL n i m t
def zyq(n i:Nat)(m:Int)(t:TS):tyL n i m t=pb (zfz n i t) λ_ t=>tyN n i (zbn i m t).1 (zbn i m t).2:=by cases i<;>rfl
def zkp:∀(k:Nat) (u:TS),isP [91] u=true->zei k (List.replicate k (pk [91])++u)=.error 4
 | 0,u,hu=>by rw[List.replicate_zero,Z6,zc5,zjE.eq_def,hu];rfl
 | k+1,u,hu=>by rw[List.replicate_succ,Al6,zc5,zjE.eq_def,yG,zlZ];simp only[decide_true,if_true,List.tail_cons];rw[zkp k u hu];rfl
def zya{m:List UInt8}{t:TS}(h:isP m t=true):t=pk m::t.tail:=by
 have A:=zdd (zja h);simp only[isP,Al0,z6]at h;rw[A]
 congr 1
 cases I:hdT t with|mk k s=>rw[I]at h;simp only at h;rw[h.1,h.2];rfl
def zuC(n:Nat)(x:Tok)(u:TS):List.replicate n x++x::u=List.replicate (n+1) x++u:=by rw[List.replicate_succ',ZP];rfl
def zzD:∀i:Fin 5,∀m:Fin 32,m.val % 2 ^ (i.val+1)=0->IntKind.wrap .i64 ((BitVec.ofInt IntKind.i64.bits ((m.val:Nat):Int) ||| BitVec.ofInt IntKind.i64.bits (((2 ^ i.val:Nat)):Int)).toNat:Int)=((m.val+2 ^ i.val:Nat):Int):=by decide +kernel
def zzt:∀i:Fin 5,IntKind.wrap .i64 (1*2 ^ min i.val IntKind.i64.bits)=((2 ^ i.val:Nat):Int):=by decide +kernel
def zxi:∀i:Fin 5,∀m:Fin 32,m.val % 2 ^ (i.val+1)=0->m.val+2 ^ i.val<32/\(m.val+2 ^ i.val) % 2 ^ i.val=0:=by decide +kernel
abbrev zT:List AV:=[.str [],.int .i64 0,.int .i64 0]
def zyc{H:zb}{r:Nat}{L p t:TS}{dp:Nat}(cg:p++t=L)(ca:wT L<=y0)(hr:H r=some (prc L p dp)):
  zd Tryz.prog 192 [.ptr r 0] H (RpE H r L dp (zei 4 t) (λx=>.agg (cTy x))):=by
 refine Z3 (zd.goO (R:=λv H'=>zfA H r L dp (zei 4 t) (λx=>.agg (cTy x)) v.strip H') (RP:=λv H'=>zgi (zei 4 t) v H') ir192.1 ir192.2 (Al4 _) λKP Q b7 b6=>?_);have aj:L.length<=y0:=Nat.le_trans (za9 L) ca;have cb:=aj;simp only[y0]at cb;have pan:∀(v:AV) (H1:zb) (n:Int),v=YC n->zei 4 t=.error n->KP v H1:=λv H1 n b1 b2=>b6 v H1 H1 (Low.refl _) ⟨n,b2,b1⟩;have fin:=KI.done b7;have aw:=KI.start cg hr;simp(disch:=omega) only[ir192,steps,st2,pev,rev,oev,zdI,zfD,zuD,ztu,bound,zdx,mm2,mk,ZO,AV.cells,AV.boxable,AV.one,AV.strip1,AV.strip2,zdB,zb8,go_sem_proc,AV.i,AV.e,AV.n,Opd.i,Opd.e,Opd.n,Opd.y,Opd.f,IC.op,ics,IC.m,IC.M,IC.z,IC.f,IC.F,IC.v,IC.V,IC.l,IC.L,IC.b,IC.B,IC.N,IC.G,IC.x,IC.E,IC.d,IC.D,IC.q,IC.Q,IC.S,IC.T,IC.p,IC.w,IC.i,IC.a,IC.o,IC.s,IC.c,IC.C,IC.k,IC.O,IC.j,IC.h,AC.K,AC.R,AC.r,AC.g,AC.Q,AC.u,AC.w,AC.c,AC.B,AC.L,AC.E,List.map_cons,List.map_nil,Nat.reduceSub];refine zc λU a3=>?_;have cj:=aw.ne a3;have am:=Ne.symm cj;have K1:=aw.box (x:=.cells zT) a3;simp(disch:=omega) only[steps,st2,pev,rev,oev,zdI,zfD,zuD,ztu,bound,zdx,mm2,mk,ZO,AV.cells,AV.boxable,AV.one,AV.strip1,AV.strip2,zdB,zb8,go_sem_proc];refine Ze (λx:Nat×TS=>[(3,.int .i64 (x.1:Int))]) (λx H'=>KI H r L x.2 dp H'/\H' U=some (.cells zT)/\x.1<=4/\t=List.replicate x.1 (pk [91])++x.2) (λx=>x.2.length) (0,t) (by simp(disch:=omega) only[steps,st2,pev,rev,oev,zdI,zfD,zuD,ztu,bound,zdx,mm2,mk,ZO,AV.cells,AV.boxable,AV.one,AV.strip1,AV.strip2,zdB,zb8,go_sem_proc]) ⟨K1,upd_same ..,Nat.zero_le _,rfl⟩ ?_;rintro⟨n,u⟩ H1 cq ⟨ao,az,bq,av⟩ b5;simp only at ao az bq av;obtain⟨cn,au,a9⟩:=ao.here;have ct:cn.length+u.length=L.length:=by rw[<-au];simp
 have bt:=a9;simp only[prc]at bt;simp(disch:=omega) only[steps,st2,pev,rev,oev,zdI,zfD,zuD,ztu,bound,zdx,mm2,mk,ZO,AV.cells,AV.boxable,AV.one,AV.strip1,AV.strip2,zdB,zb8,go_sem_proc];refine zC (zrn au a9 [91]) λv co ⟨ch,b4⟩=>?_;subst ch;subst b4;cases hi:isP [91] u with
 | true =>
  by_cases b3:n=4
  ·have a1:((n:Int)=4)=True:=eq_true (by omega);simp(disch:=omega) only[a1,steps,st2,pev,rev,oev,zdI,zfD,zuD,ztu,bound,zdx,mm2,mk,ZO,AV.cells,AV.boxable,AV.one,AV.strip1,AV.strip2,zdB,zb8,go_sem_proc];exact zi (zfi _ r 4) (λ_ _ h=>h.elim) λv ac h=>pan v ac 4 h (by rw[av,b3];exact zkp 4 u hi)
  ·have a1:¬ ((n:Int)=4):=by omega
   have cc:=zps hi;simp(disch:=omega) only[a1,bt,wrap64,steps,st2,pev,rev,oev,zdI,zfD,zuD,ztu,bound,zdx,mm2,mk,ZO,AV.cells,AV.boxable,AV.one,AV.strip1,AV.strip2,zdB,zb8,go_sem_proc];refine goJ (b5 (n+1,u.tail) _ cc ⟨ao.call (zcq au (zja hi) _),by rw[upd_ne am];exact az,by simp only;omega,?_⟩) (by simp(disch:=omega) only[Int.natCast_add,steps,st2,pev,rev,oev,zdI,zfD,zuD,ztu,bound,zdx,mm2,mk,ZO,AV.cells,AV.boxable,AV.one,AV.strip1,AV.strip2,zdB,zb8,go_sem_proc]);simp only
   rw[<-zuC,<-zya hi];exact av
 | false =>
  have al:zei 4 t=pb (Zq u) λs t=>pb (tyL n n 0 t) λm t=>.ok (⟨s,n,m⟩,t):=by rw[av];exact zk1 n 4 u bq hi
  simp(disch:=omega) only[steps,st2,pev,rev,oev,zdI,zfD,zuD,ztu,bound,zdx,mm2,mk,ZO,AV.cells,AV.boxable,AV.one,AV.strip1,AV.strip2,zdB,zb8,go_sem_proc];refine zi (za2 au aj a9) (λv ac ⟨s,bv,ax,ba,bl⟩=>?_) λv ac ⟨ck,ax,ba⟩=>pan v ac ck ba (by rw[al,ax];rfl);subst ba;rw[ax,zD]at al;have bg:=ao.call bl;have bj:ac U=some (.cells zT):=by rw[bl.other am,az]
  simp(disch:=omega) only[steps,st2,pev,rev,oev,zdI,zfD,zuD,ztu,bound,zdx,mm2,mk,ZO,AV.cells,AV.boxable,AV.one,AV.strip1,AV.strip2,zdB,zb8,go_sem_proc];refine zc λaa a4=>?_;have ai:aa≠U:=λe=>by subst e;rw[bj]at a4;cases a4
  have ar:H aa=none:=bg.none a4;have cl:=aw.ne ar;have be:=Ne.symm cl;have bw:=bg.box (x:=.cells [.str s,.int .i64 (n:Int),.int .i64 0]) ar;obtain⟨R,bk⟩:∃R,tyL n n 0 bv=R:=⟨_,rfl⟩;rw[bk]at al;simp(disch:=omega) only[steps,st2,pev,rev,oev,zdI,zfD,zuD,ztu,bound,zdx,mm2,mk,ZO,AV.cells,AV.boxable,AV.one,AV.strip1,AV.strip2,zdB,zb8,go_sem_proc];have b9:((n:Int):Int)=(((n+1:Nat):Int)-1):=by omega
  refine Ze (λx:Nat×Nat×TS=>[(5,.int .i64 ((x.1:Int)-1))]) (λx H'=>KI H r L x.2.2 dp H'/\H' U=some (.cells zT)/\H' aa=some (.cells [.str s,.int .i64 (n:Int),.int .i64 (x.2.1:Int)])/\x.1<=n+1/\x.2.1<32/\x.2.1 % 2 ^ x.1=0/\tyN n x.1 (x.2.1:Int) x.2.2=R) (λx=>x.1) (n+1,0,bv) (by rw[<-b9];simp(disch:=omega) only[steps,st2,pev,rev,oev,zdI,zfD,zuD,ztu,bound,zdx,mm2,mk,ZO,AV.cells,AV.boxable,AV.one,AV.strip1,AV.strip2,zdB,zb8,go_sem_proc]) ⟨bw,by rw[upd_ne (Ne.symm ai)];exact bj,upd_same ..,Al4 _,by show 0<32;decide,Nat.zero_mod _,bk⟩ ?_;rintro⟨j,m,ab⟩ cp cr ⟨ae,af,ap,b8,X,Y,a5⟩ aq;simp only at ae af ap b8 X Y a5;obtain⟨cu,br,bu⟩:=ae.here;cases j with
  | zero =>
   have cd:¬ ((0:Int)<=-1):=by decide
   have ci:(0:Int)-1=-1:=rfl;have A:R=.ok ((m:Int),ab):=a5.symm;simp only[zT]at af;simp(disch:=omega) only[ci,cd,af,ap,ai,Ne.symm ai,steps,st2,pev,rev,oev,zdI,zfD,zuD,ztu,bound,zdx,mm2,mk,ZO,AV.cells,AV.boxable,AV.one,AV.strip1,AV.strip2,zdB,zb8,go_sem_proc];exact fin _ _ [.agg [.str s,.int .i64 (n:Int),.int .i64 (m:Int)]] ⟨s,n,m⟩ ab (by simp(disch:=omega) only[ir192,zo,z8,steps,st2,pev,rev,oev,zdI,zfD,zuD,ztu,bound,zdx,mm2,mk,ZO,AV.cells,AV.boxable,AV.one,AV.strip1,AV.strip2,zdB,zb8,go_sem_proc,AV.i,AV.e,AV.n,Opd.i,Opd.e,Opd.n,Opd.y,Opd.f,IC.op,ics,IC.m,IC.M,IC.z,IC.f,IC.F,IC.v,IC.V,IC.l,IC.L,IC.b,IC.B,IC.N,IC.G,IC.x,IC.E,IC.d,IC.D,IC.q,IC.Q,IC.S,IC.T,IC.p,IC.w,IC.i,IC.a,IC.o,IC.s,IC.c,IC.C,IC.k,IC.O,IC.j,IC.h,AC.K,AC.R,AC.r,AC.g,AC.Q,AC.u,AC.w,AC.c,AC.B,AC.L,AC.E,List.map_cons,List.map_nil,Nat.reduceSub]) (by rw[al,A];rfl) (ae.box a3) (by simp[zP,AV.strip,AV.strip1,cTy])
  | succ i =>
   have bn:((0:Int)<=(((i+1:Nat):Int)-1))=True:=eq_true (by omega);have bo:(((i+1:Nat):Int)-1)=(i:Int):=by omega
   have A:tyL n i (m:Int) ab=R:=a5;rw[zyq,zfz]at A;by_cases bp:i<n
   ·have a7:((i:Int)<(n:Int))=True:=eq_true (by omega);rw[if_pos bp]at A;simp(disch:=omega) only[bn,bo,a7,steps,st2,pev,rev,oev,zdI,zfD,zuD,ztu,bound,zdx,mm2,mk,ZO,AV.cells,AV.boxable,AV.one,AV.strip1,AV.strip2,zdB,zb8,go_sem_proc];refine zi (zjp br aj bu [93]) (λv an ⟨_,bf,ay,bc,a2⟩=>?_) λv an ⟨cm,ay,bc⟩=>pan v an cm bc (by rw[al,<-A,ay];rfl);subst bc;rw[ay,zD]at A;have bh:=ae.call a2;have bx:an U=some (.cells zT):=by rw[a2.other am,af]
    have bz:an aa=some (.cells [.str s,.int .i64 (n:Int),.int .i64 (m:Int)]):=by rw[a2.other be,ap]
    obtain⟨cw,ce,cf⟩:=bh.here;simp(disch:=omega) only[steps,st2,pev,rev,oev,zdI,zfD,zuD,ztu,bound,zdx,mm2,mk,ZO,AV.cells,AV.boxable,AV.one,AV.strip1,AV.strip2,zdB,zb8,go_sem_proc];refine zC (za4 ce aj cf [33]) λv ad ⟨bd,W⟩=>?_;subst bd;have ag:ad U=some (.cells zT):=by rw[W.other am,bx]
    have ah:ad aa=some (.cells [.str s,.int .i64 (n:Int),.int .i64 (m:Int)]):=by rw[W.other be,bz]
    have I:=bh.call W;cases J:isP [33] bf with
    | true =>
     simp only[zbn,J,if_true]at A;rw[zau,J,if_pos rfl]at I;have ho:=zzD ⟨i,by omega⟩ ⟨m,X⟩ Y;have Z:=zxi ⟨i,by omega⟩ ⟨m,X⟩ Y;have ak:=zzt ⟨i,by omega⟩;simp only at ho Z ak;have a6:¬ ((i:Int)<0):=by omega
     simp(disch:=omega) only[ah,a6,ak,ho,steps,st2,pev,rev,oev,zdI,zfD,zuD,ztu,bound,zdx,mm2,mk,ZO,AV.cells,AV.boxable,AV.one,AV.strip1,AV.strip2,zdB,zb8,go_sem_proc];refine goJ (aq (i,m+2 ^ i,bf.tail) _ (Nat.lt_succ_self _) ⟨I.box ar,by rw[upd_ne (Ne.symm ai)];exact ag,upd_same ..,by simp only;omega,Z.1,Z.2,by simp only;rw[<-A];simp⟩) (by simp(disch:=omega) only[wrap64,steps,st2,pev,rev,oev,zdI,zfD,zuD,ztu,bound,zdx,mm2,mk,ZO,AV.cells,AV.boxable,AV.one,AV.strip1,AV.strip2,zdB,zb8,go_sem_proc])
    | false =>
     simp only[zbn,J,Al7,if_false]at A;rw[zau,J]at I;simp only[Al7,if_false]at I;have a8:m % 2 ^ i=0:=by have a0:2 ^ i∣2 ^ (i+1):=⟨2,by rw[Nat.pow_succ]⟩;exact Nat.mod_eq_zero_of_dvd (Nat.dvd_trans a0 (Nat.dvd_of_mod_eq_zero Y))
     simp(disch:=omega) only[steps,st2,pev,rev,oev,zdI,zfD,zuD,ztu,bound,zdx,mm2,mk,ZO,AV.cells,AV.boxable,AV.one,AV.strip1,AV.strip2,zdB,zb8,go_sem_proc];refine goJ (aq (i,m,bf) _ (Nat.lt_succ_self _) ⟨I,ag,ah,by simp only;omega,X,a8,A⟩) (by simp(disch:=omega) only[wrap64,steps,st2,pev,rev,oev,zdI,zfD,zuD,ztu,bound,zdx,mm2,mk,ZO,AV.cells,AV.boxable,AV.one,AV.strip1,AV.strip2,zdB,zb8,go_sem_proc])
   ·have a7:¬ ((i:Int)<(n:Int)):=by omega
    rw[if_neg bp,zD]at A;simp(disch:=omega) only[bn,bo,a7,steps,st2,pev,rev,oev,zdI,zfD,zuD,ztu,bound,zdx,mm2,mk,ZO,AV.cells,AV.boxable,AV.one,AV.strip1,AV.strip2,zdB,zb8,go_sem_proc];refine zC (za4 br aj bu [33]) λv ad ⟨bd,W⟩=>?_;subst bd;have ag:ad U=some (.cells zT):=by rw[W.other am,af]
    have ah:ad aa=some (.cells [.str s,.int .i64 (n:Int),.int .i64 (m:Int)]):=by rw[W.other be,ap]
    have I:=ae.call W;cases J:isP [33] ab with
    | true =>
     simp only[zbn,J,if_true]at A;rw[zau,J,if_pos rfl]at I;have ho:=zzD ⟨i,by omega⟩ ⟨m,X⟩ Y;have Z:=zxi ⟨i,by omega⟩ ⟨m,X⟩ Y;have ak:=zzt ⟨i,by omega⟩;simp only at ho Z ak;have a6:¬ ((i:Int)<0):=by omega
     simp(disch:=omega) only[ah,a6,ak,ho,steps,st2,pev,rev,oev,zdI,zfD,zuD,ztu,bound,zdx,mm2,mk,ZO,AV.cells,AV.boxable,AV.one,AV.strip1,AV.strip2,zdB,zb8,go_sem_proc];refine goJ (aq (i,m+2 ^ i,ab.tail) _ (Nat.lt_succ_self _) ⟨I.box ar,by rw[upd_ne (Ne.symm ai)];exact ag,upd_same ..,by simp only;omega,Z.1,Z.2,by simp only;rw[<-A];simp⟩) (by simp(disch:=omega) only[wrap64,steps,st2,pev,rev,oev,zdI,zfD,zuD,ztu,bound,zdx,mm2,mk,ZO,AV.cells,AV.boxable,AV.one,AV.strip1,AV.strip2,zdB,zb8,go_sem_proc])
    | false =>
     simp only[zbn,J,Al7,if_false]at A;rw[zau,J]at I;simp only[Al7,if_false]at I;have a8:m % 2 ^ i=0:=by have a0:2 ^ i∣2 ^ (i+1):=⟨2,by rw[Nat.pow_succ]⟩;exact Nat.mod_eq_zero_of_dvd (Nat.dvd_trans a0 (Nat.dvd_of_mod_eq_zero Y))
     simp(disch:=omega) only[steps,st2,pev,rev,oev,zdI,zfD,zuD,ztu,bound,zdx,mm2,mk,ZO,AV.cells,AV.boxable,AV.one,AV.strip1,AV.strip2,zdB,zb8,go_sem_proc];refine goJ (aq (i,m,ab) _ (Nat.lt_succ_self _) ⟨I,ag,ah,by simp only;omega,X,a8,A⟩) (by simp(disch:=omega) only[wrap64,steps,st2,pev,rev,oev,zdI,zfD,zuD,ztu,bound,zdx,mm2,mk,ZO,AV.cells,AV.boxable,AV.one,AV.strip1,AV.strip2,zdB,zb8,go_sem_proc])
def zez(t:TS):PR (List UInt8):=if isW [111,110] t then .error 2 else Zq t
def zwz{H:zb}{r:Nat}{L p t:TS}(J:p++t=L)(af:wT L<=y0)(hr:H r=some (prc L p (16-16))):
  zd Tryz.prog 112 [.ptr r 0] H (RpE H r L (16-16) (zez t) AV.str):=by
 refine Z3 (zd.goO (R:=λv H'=>zfA H r L (16-16) (zez t) AV.str v.strip H') (RP:=λv H'=>zgi (zez t) v H') ir112.1 ir112.2 (Al4 _) λKP Q ad ac=>?_);have X:L.length<=y0:=Nat.le_trans (za9 L) af;have ag:=X;simp only[y0]at ag;have pan:∀(v:AV) (H1:zb) (n:Int),v=YC n->(zez t)=.error n->KP v H1:=λv H1 n Z aa=>ac v H1 H1 (Low.refl _) ⟨n,aa,Z⟩;have fin:=KI.done ad;have Y:=KI.start J hr;simp(disch:=omega) only[ir112,go_sem];refine zC (zvx (dp:=16-16) J hr [111,110]) λv aj ⟨ah,ab⟩=>?_;subst ah;subst ab;cases W:isW [111,110] t with
 | true =>simp(disch:=omega) only[go_sem];exact zi (zfi _ r 2) (λ_ _ h=>h.elim) λv A h=>pan v A 2 h (by rw[zez,W];rfl)
 | false =>simp(disch:=omega) only[go_sem];refine zi (za2 (dp:=16-16) J X hr) (λv A ⟨s,ai,I,U,ae⟩=>?_) λv A ⟨n,I,U⟩=>pan v A n U (by rw[zez,W];exact I);subst U;simp(disch:=omega) only[go_sem];exact fin _ _ [.str s] s ai (by simp(disch:=omega) only[ir112,zo,z8,go_sem]) (by rw[zez,W];exact I) (Y.call ae) (by simp[zP,AV.strip,AV.strip1])
abbrev zWp:List AV:=[.str [],.str [],.int .i64 0,.int .i64 0,.bool false,.int .i64 0,.int .i64 0,.str [],.sl .nil 5 [],.sl .nil 6 []]
def zgL{H:zb}{r:Nat}{L p t:TS}(b9:p++t=L)(ax:wT L<=y0)(hr:H r=some (prc L p (16-16))):
  zd Tryz.prog 110 [.ptr r 0] H (RpE H r L (16-16) (zbU t) (λx=>.agg (cW x))):=by
 refine Z3 (zd.goO (R:=λv H'=>zfA H r L (16-16) (zbU t) (λx=>.agg (cW x)) v.strip H') (RP:=λv H'=>zgi (zbU t) v H') ir110.1 ir110.2 (Al4 _) λKP Q bv bu=>?_);have Z:L.length<=y0:=Nat.le_trans (za9 L) ax;have bw:=Z;simp only[y0]at bw;have pan:∀(v:AV) (H1:zb) (n:Int),v=YC n->(zbU t)=.error n->KP v H1:=λv H1 n br bt=>bu v H1 H1 (Low.refl _) ⟨n,bt,br⟩;have fin:=KI.done bv;have aj:=KI.start b9 hr;have A:zbU t=pb (Y3 [36] t) λ_ t=>pb (Zq t) λs t=>pb (Y3 [58] t) λ_ t=>pb (zei 4 t) λI t =>if isP [61] t then pb (ZW true 16 t.tail) λv t=>.ok (⟨s,I,true,v⟩,t)else .ok (⟨s,I,false,zV⟩,t):=rfl
 simp(disch:=omega) only[ir110,go_sem];refine zc λU ae=>?_;have cb:=aj.ne ae;have Y:=Ne.symm cb;have K1:=aj.box (x:=.cells zWp) ae;obtain⟨ce,bx,bf⟩:=K1.here;simp only[zWp]at K1 bf;simp(disch:=omega) only[go_sem];refine zi (zjp (dp:=16-16) bx Z bf [36]) (λv ah ⟨_,cj,ak,ay,bd⟩=>?_) λv ah ⟨n,ak,ay⟩=>pan v ah n ay (by rw[A,ak];rfl);subst ay;rw[ak,zD]at A;have a4:=K1.call bd;have bk:ah U=some (.cells zWp):=by rw[bd.other Y,upd_same]
 obtain⟨cf,bz,b4⟩:=a4.here;simp(disch:=omega) only[go_sem];refine zi (za2 (dp:=16-16) bz Z b4) (λv ai ⟨s,ck,al,az,be⟩=>?_) λv ai ⟨n,al,az⟩=>pan v ai n az (by rw[A,al];rfl);subst az;rw[al,zD]at A;have a5:=a4.call be;have a9:ai U=some (.cells zWp):=by rw[be.other Y,bk]
 simp(disch:=omega) only[go_sem];refine zc λW aw=>?_;have X:W≠U:=λe=>by subst e;rw[a9]at aw;cases aw
 have af:H W=none:=a5.none aw;have cc:=aj.ne af;have ag:=Ne.symm cc;have a6:=a5.box (x:=.cells [.str s,.str [],.int .i64 0,.int .i64 0,.bool false,.int .i64 0,.int .i64 0,.str [],.sl .nil 5 [],.sl .nil 6 []]) af;obtain⟨cg,b1,b5⟩:=a6.here;simp(disch:=omega) only[go_sem];refine zi (zjp (dp:=16-16) b1 Z b5 [58]) (λv ab ⟨_,cl,am,a0,aq⟩=>?_) λv ab ⟨n,am,a0⟩=>pan v ab n a0 (by rw[A,am];rfl);subst a0;rw[am,zD]at A;have a7:=a6.call aq;have bn:ab W=some (.cells [.str s,.str [],.int .i64 0,.int .i64 0,.bool false,.int .i64 0,.int .i64 0,.str [],.sl .nil 5 [],.sl .nil 6 []]):=by rw[aq.other ag,upd_same]
 have bl:ab U=some (.cells zWp):=by rw[aq.other Y,upd_ne (Ne.symm X),a9]
 obtain⟨ch,b2,b6⟩:=a7.here;simp(disch:=omega) only[go_sem];refine zi (zyc b2 ax b6) (λv ac ⟨I,bg,an,a1,ar⟩=>?_) λv ac ⟨n,an,a1⟩=>pan v ac n a1 (by rw[A,an];rfl);subst a1;rw[an,zD]at A;have bh:=a7.call ar;have bp:ac W=some (.cells [.str s,.str [],.int .i64 0,.int .i64 0,.bool false,.int .i64 0,.int .i64 0,.str [],.sl .nil 5 [],.sl .nil 6 []]):=by rw[ar.other ag,bn]
 have bo:ac U=some (.cells zWp):=by rw[ar.other Y,bl]
 simp(disch:=omega) only[cTy,bp,go_sem];have a8:=bh.box (x:=.cells [.str s,.str I.nm,.int .i64 I.lists,.int .i64 I.musts,.bool false,.int .i64 0,.int .i64 0,.str [],.sl .nil 5 [],.sl .nil 6 []]) af;obtain⟨ci,b3,b7⟩:=a8.here;refine zC (za4 (dp:=16-16) b3 Z b7 [61]) λv a3 ⟨ca,au⟩=>?_;subst ca;have J:=a8.call au;have ba:a3 W=some (.cells [.str s,.str I.nm,.int .i64 I.lists,.int .i64 I.musts,.bool false,.int .i64 0,.int .i64 0,.str [],.sl .nil 5 [],.sl .nil 6 []]):=by rw[au.other ag,upd_same]
 have ap:a3 U=some (.cells zWp):=by rw[au.other Y,upd_ne (Ne.symm X),bo]
 unfold zau at J;obtain⟨cd,aa,b8⟩:=J.here;cases hi:isP [61] bg with
 | true =>
  rw[hi]at A J aa;simp only[if_true]at A J aa;simp(disch:=omega) only[go_sem];refine zi (zhp true 16 (Al4 _) _ r L cd bg.tail aa ax b8) (λv ad ⟨x,cm,ao,a2,av⟩=>?_) λv ad ⟨n,ao,a2⟩=>pan v ad n a2 (by rw[A,ao];rfl);subst a2;rw[ao,zD]at A;have bj:=J.call av;have bq:ad W=some (.cells [.str s,.str I.nm,.int .i64 I.lists,.int .i64 I.musts,.bool false,.int .i64 0,.int .i64 0,.str [],.sl .nil 5 [],.sl .nil 6 []]):=by rw[av.other ag,ba]
  have bc:ad U=some (.cells zWp):=by rw[av.other Y,ap]
  simp only[zWp]at bc;simp(disch:=omega) only[zp,zk,zg,zn,zl,zh,zu,bq,bc,X,Ne.symm X,go_sem];refine fin _ _ [.agg (cW ⟨s,I,true,x⟩)] _ _ (by simp(disch:=omega) only[zp,zk,zg,zn,zl,zh,zu,ir110,zo,z8,zhz,go_sem]) A ((bj.box af).box ae) (by simp[zP,AV.strip,zdY])
 | false =>rw[hi]at A J aa;simp only[Al7,if_false]at A J aa;simp only[zWp]at ap;simp(disch:=omega) only[ba,ap,X,Ne.symm X,go_sem];exact fin _ _ [.agg [.str s,.str I.nm,.int .i64 I.lists,.int .i64 I.musts,.bool false,.int .i64 0,.int .i64 0,.str [],.sl .nil 5 [],.sl .nil 6 []]] _ _ (by simp(disch:=omega) only[ir110,zo,z8,go_sem]) A (J.box ae) (by simp[zP,AV.strip,AV.strip1,zhz,cV,cVs,cMs,zV])
abbrev zO:List AV:=[.int .i64 0,.str [],.sl .nil 10 [],.sl .nil 2 [],.sl .nil 7 []]
def zA4(kind:Int){H:zb}{r:Nat}{L p t:TS}(dm:p++t=L)(ao:wT L<=y0)(hr:H r=some (prc L p (16-16))):
  zd Tryz.prog 49 [.ptr r 0,.int .i64 kind] H (RpE H r L (16-16) (opP kind t) (λx=>.agg (cO x))):=by
 refine Z3 (zd.goO (R:=λv H'=>zfA H r L (16-16) (opP kind t) (λx=>.agg (cO x)) v.strip H') (RP:=λv H'=>zgi (opP kind t) v H') ir49.1 ir49.2 (Al4 _) λKP Q de dd=>?_);have bn:L.length<=y0:=Nat.le_trans (za9 L) ao;have dh:=bn;simp only[y0]at dh;have pan:∀(v:AV) (H1:zb) (n:Int),v=YC n->(opP kind t)=.error n->KP v H1:=λv H1 n c9 da=>dd v H1 H1 (Low.refl _) ⟨n,da,c9⟩;have fin:=KI.done de;have b6:=KI.start dm hr;have A:opP kind t=pb (if (hdT t).k=2 then Zq t else .ok ([],t)) λs t=>pb (if isP [40] t then zcu [41] zbU t.tail else .ok ([],t)) λvs t =>pb (zap true 16 t) λd t=>pb (yw 16 t) λl t=>.ok (⟨kind,s,vs,d,l⟩,t):=rfl;simp(disch:=omega) only[ir49,go_sem];refine zc λU bl=>?_;have dq:=b6.ne bl;have ab:=Ne.symm dq;have K1:=b6.box (x:=.cells zO) bl;simp(disch:=omega) only[go_sem];refine zc λJ b4=>?_;have Y:J≠U:=λe=>by subst e;rw[upd_same]at b4;cases b4
 have ak:H J=none:=by rw[upd_ne Y]at b4;exact b4
 have dr:=b6.ne ak;have ac:=Ne.symm dr;have b3:=K1.box (x:=.cells [.int .i64 kind,.str [],.sl .nil 10 [],.sl .nil 2 [],.sl .nil 7 []]) ak;simp only[zO]at b3;obtain⟨dy,cn,cp⟩:=b3.here;have cd:((H.upd U (.cells zO)).upd J (.cells [.int .i64 kind,.str [],.sl .nil 10 [],.sl .nil 2 [],.sl .nil 7 []])) J=some (.cells [.int .i64 kind,.str [],.sl .nil 10 [],.sl .nil 2 [],.sl .nil 7 []]):=upd_same ..;have cc:((H.upd U (.cells zO)).upd J (.cells [.int .i64 kind,.str [],.sl .nil 10 [],.sl .nil 2 [],.sl .nil 7 []])) U=some (.cells zO):=by rw[upd_ne (Ne.symm Y),upd_same]
 simp only[zO]at cd cc;simp(disch:=omega) only[go_sem];generalize dx:zb.upd (zb.upd H U _) J _=dv at *
 refine zC (zko (dp:=16-16) cn cp) λv bo ⟨b1,dc⟩=>?_;subst b1;subst dc;by_cases b5:(hdT t).k=2
 ·have dg:((hdT t).k=2)=True:=eq_true b5;rw[if_pos b5]at A;simp(disch:=omega) only[zdc,dg,go_sem];refine zi (za2 (dp:=16-16) cn bn cp) (λv bo ⟨s,cy,cb,b1,ck⟩=>?_) λv bo ⟨n,cb,b1⟩=>pan v bo n b1 (by rw[A,cb];rfl);subst b1;rw[cb,zD]at A;have c8:bo J=some (.cells [.int .i64 kind,.str [],.sl .nil 10 [],.sl .nil 2 [],.sl .nil 7 []]):=by rw[ck.other ac,cd]
  have c7:bo U=some (.cells zO):=by rw[ck.other ab,cc]
  have c3:=(b3.call ck).box (x:=.cells [.int .i64 kind,.str s,.sl .nil 10 [],.sl .nil 2 [],.sl .nil 7 []]) ak;obtain⟨dz,dk,dl⟩:=c3.here;simp(disch:=omega) only[c8,go_sem];refine zC (za4 (dp:=16-16) dk bn dl [40]) λv bp ⟨cr,a5⟩=>?_;subst cr;have aa:=c3.call a5;have a4:bp J=some (.cells [.int .i64 kind,.str s,.sl .nil 10 [],.sl .nil 2 [],.sl .nil 7 []]):=by rw[a5.other ac];(exact upd_same ..)
  have bq:bp U=some (.cells zO):=by rw[a5.other ab];(rw[upd_ne (Ne.symm Y)];exact c7)
  unfold zau at aa;obtain⟨dt,al,bz⟩:=aa.here;cases hi:isP [40] cy with
  | false =>
   rw[hi]at A aa al;simp only[Al7,if_false,zD]at A aa al;simp(disch:=omega) only[go_sem];refine zi (zcm (Al4 _) al ao bz) (λv ad ⟨d,bk,af,Z,I⟩=>?_) λv ad ⟨n,af,Z⟩=>pan v ad n Z (by rw[A,af];rfl);subst Z;rw[af,zD]at A;have ae:=aa.call I;have ar:ad J=some (.cells [.int .i64 kind,.str s,(.sl .nil 10 []),.sl .nil 2 [],.sl .nil 7 []]):=by rw[I.other ac,a4]
   have az:ad U=some (.cells zO):=by rw[I.other ab,bq]
   simp(disch:=omega) only[ar,go_sem];have X:=ae.box (x:=.cells [.int .i64 kind,.str s,(.sl .nil 10 []),.sl .no 2 (cDs d),.sl .nil 7 []]) ak;obtain⟨bh,a9,bc⟩:=X.here;refine zi (zbD 16 (Al4 _) _ r L bh bk a9 ao bc) (λv W ⟨bj,c2,ag,am,aj⟩=>?_) λv W ⟨n,ag,am⟩=>pan v W n am (by rw[A,ag];rfl);subst am;rw[ag,zD]at A;have aq:=X.call aj;have an:W J=some (.cells [.int .i64 kind,.str s,(.sl .nil 10 []),.sl .no 2 (cDs d),.sl .nil 7 []]):=by rw[aj.other ac,upd_same]
   have ah:W U=some (.cells zO):=by rw[aj.other ab,upd_ne (Ne.symm Y),az]
   simp only[zO]at ah;simp(disch:=omega) only[an,ah,Y,Ne.symm Y,go_sem];exact fin _ _ [.agg [.int .i64 kind,.str s,(.sl .nil 10 []),.sl .no 2 (cDs d),.sl .no 7 (cSs bj)]] _ _ (by simp(disch:=omega) only[ir49,zo,z8,go_sem]) A ((aq.box ak).box bl) (by simp[zP,AV.strip,AV.strip1,cO,cWs])
  | true =>
   rw[hi]at A aa al;simp only[if_true]at A aa al;have cm:zcu [41] zbU cy.tail=pb (zbU cy.tail) λx t=>yR [41] zbU (t.length+1) [x] t:=rfl;rw[cm]at A;have dn:=zgB al;simp(disch:=omega) only[a4,go_sem];refine zi (zgL al ao bz) (λv ap ⟨b2,a2,ax,bf,a6⟩=>?_) λv ap ⟨n,ax,bf⟩=>pan v ap n bf (by rw[A,ax];rfl);subst bf;rw[ax,zD]at A;have dj:=zeg.lt (by decide) _ _ _ ax;have b7:=aa.call a6;have br:ap J=some (.cells [.int .i64 kind,.str s,.sl .nil 10 [],.sl .nil 2 [],.sl .nil 7 []]):=by rw[a6.other ac,a4]
   have ce:ap U=some (.cells zO):=by rw[a6.other ab,bq]
   obtain⟨R,bx⟩:∃R,yR [41] zbU (a2.length+1) [b2] a2=R:=⟨_,rfl⟩;rw[bx]at A;have a3:KO H r L a2 (16-16) ap .nil 0 10:=⟨b7,rfl,nofun⟩;simp(disch:=omega) only[br,zeE,zb9,go_sem];refine zj (zA.nil _ _) (by simp) (by simp[maxLen]) λcu c4 bd=>?_;have b8:=a3.app (by simpa using bd);have bt:=a3.stay bd br;have cf:=a3.stay bd ce;simp(disch:=omega) only[bt,zeE,zb9,go_sem];refine Ze (λx:Own×List VarD×TS=>[]) (λx H'=>KO H r L x.2.2 (16-16) H' x.1 x.2.1.length 10/\H' J=some (.cells [.int .i64 kind,.str s,.sl x.1 10 (cWs x.2.1),.sl .nil 2 [],.sl .nil 7 []])/\H' U=some (.cells zO)/\(∃m,x.2.2.length<m/\yR [41] zbU m x.2.1 x.2.2=R)/\x.2.1.length+x.2.2.length<=L.length) (λx=>x.2.2.length) (cu,[b2],a2) (by simp(disch:=omega) only[go_sem]) ⟨by simpa using b8.box ak bt,by rw[upd_same];simp[cWs,zdY],by rw[upd_ne (Ne.symm Y)];exact cf,⟨_,Nat.lt_succ_self _,bx⟩,by simp only[List.length_singleton];omega⟩ ?_;rintro⟨o,l,u⟩ c5 c6 ⟨aw,bv,bu,⟨m,cl,ai⟩,hlen⟩ cj;simp only at aw bv bu cl ai hlen;obtain⟨m,rfl⟩:∃j,m=j+1:=⟨m-1,by omega⟩;obtain⟨du,co,cq⟩:=aw.here;have a0:=Zk l;simp(disch:=omega) only[go_sem];refine zC (za4 (dp:=16-16) co bn cq [41]) λv ad ⟨Z,I⟩=>?_;subst Z;have ar:ad J=some (.cells [.int .i64 kind,.str s,.sl o 10 (cWs l),.sl .nil 2 [],.sl .nil 7 []]):=by rw[I.other ac,bv]
   have az:ad U=some (.cells zO):=by rw[I.other ab,bu]
   cases a1:isP [41] u with
   | true =>
    rw[zau,a1,if_pos rfl]at I;have ae:=aw.toKI.call I;obtain⟨cx,a8,ba⟩:=ae.here;have ca:R=.ok (l,u.tail):=by rw[<-ai,yR,a1];rfl
    rw[ca,zD]at A;simp(disch:=omega) only[go_sem];refine zi (zcm (Al4 _) a8 ao ba) (λv av ⟨d,bk,af,Z,I⟩=>?_) λv av ⟨n,af,Z⟩=>pan v av n Z (by rw[A,af];rfl);subst Z;rw[af,zD]at A;have b9:=ae.call I;have ci:av J=some (.cells [.int .i64 kind,.str s,(.sl o 10 (cWs l)),.sl .nil 2 [],.sl .nil 7 []]):=by rw[I.other ac,ar]
    have ch:av U=some (.cells zO):=by rw[I.other ab,az]
    simp(disch:=omega) only[ci,go_sem];have X:=b9.box (x:=.cells [.int .i64 kind,.str s,(.sl o 10 (cWs l)),.sl .no 2 (cDs d),.sl .nil 7 []]) ak;obtain⟨bh,a9,bc⟩:=X.here;refine zi (zbD 16 (Al4 _) _ r L bh bk a9 ao bc) (λv W ⟨bj,c2,ag,am,aj⟩=>?_) λv W ⟨n,ag,am⟩=>pan v W n am (by rw[A,ag];rfl);subst am;rw[ag,zD]at A;have aq:=X.call aj;have an:W J=some (.cells [.int .i64 kind,.str s,(.sl o 10 (cWs l)),.sl .no 2 (cDs d),.sl .nil 7 []]):=by rw[aj.other ac,upd_same]
    have ah:W U=some (.cells zO):=by rw[aj.other ab,upd_ne (Ne.symm Y),ch]
    simp only[zO]at ah;simp(disch:=omega) only[an,ah,Y,Ne.symm Y,go_sem];exact fin _ _ [.agg [.int .i64 kind,.str s,(.sl o 10 (cWs l)),.sl .no 2 (cDs d),.sl .no 7 (cSs bj)]] _ _ (by simp(disch:=omega) only[ir49,zo,z8,go_sem]) A ((aq.box ak).box bl) (by simp[zP,AV.strip,AV.strip1,cO,cWs])
   | false =>
    rw[zau,a1]at I;have ae:=aw.call (by simpa using I);obtain⟨cx,a8,ba⟩:=ae.here;rw[yR,a1]at ai;simp only[Al7,if_false]at ai;simp(disch:=omega) only[ar,go_sem];refine zi (zgL a8 ao ba) (λv au ⟨x,cz,ay,bg,a7⟩=>?_) λv au ⟨ct,ay,bg⟩=>pan v au ct bg (by rw[A,<-ai,ay];rfl);subst bg;rw[ay,zD]at ai;have di:=zeg.lt (by decide) _ _ _ ay;have X:=ae.call a7;have bw:au J=some (.cells [.int .i64 kind,.str s,.sl o 10 (cWs l),.sl .nil 2 [],.sl .nil 7 []]):=by rw[a7.other ac,ar]
    have cg:au U=some (.cells zO):=by rw[a7.other ab,az]
    simp(disch:=omega) only[bw,zeE,zb9,go_sem];refine zj (by rw[a0];exact X.own) (by simp only[a0,Al2,Al3];omega) (by simp only[a0,Al2,Al3,maxLen];omega) λcw W be=>?_;have aq:=X.app (by simpa[a0]using be);have an:=X.stay be bw;have ah:=X.stay be cg;simp(disch:=omega) only[an,zeE,zb9,go_sem];refine goJ (cj (cw,l++[x],cz) _ (by simp only;omega) ⟨by simpa using aq.box ak an,by rw[upd_same];simp[cWs,zdY],by rw[upd_ne (Ne.symm Y)];exact ah,⟨m,by simp only;omega,ai⟩,by simp only[Al5,Al2,Al3];omega⟩) (by simp(disch:=omega) only[go_sem])
 ·rw[if_neg b5,zD]at A;simp(disch:=omega) only[zdc,b5,go_sem];refine zC (za4 (dp:=16-16) cn bn cp [40]) λv bp ⟨cr,a5⟩=>?_;subst cr;have aa:=b3.call a5;have a4:bp J=some (.cells [.int .i64 kind,.str [],.sl .nil 10 [],.sl .nil 2 [],.sl .nil 7 []]):=by rw[a5.other ac];(exact cd)
  have bq:bp U=some (.cells zO):=by rw[a5.other ab];(exact cc)
  unfold zau at aa;obtain⟨dt,al,bz⟩:=aa.here;cases hi:isP [40] t with
  | false =>
   rw[hi]at A aa al;simp only[Al7,if_false,zD]at A aa al;simp(disch:=omega) only[go_sem];refine zi (zcm (Al4 _) al ao bz) (λv ad ⟨d,bk,af,Z,I⟩=>?_) λv ad ⟨n,af,Z⟩=>pan v ad n Z (by rw[A,af];rfl);subst Z;rw[af,zD]at A;have ae:=aa.call I;have ar:ad J=some (.cells [.int .i64 kind,.str [],(.sl .nil 10 []),.sl .nil 2 [],.sl .nil 7 []]):=by rw[I.other ac,a4]
   have az:ad U=some (.cells zO):=by rw[I.other ab,bq]
   simp(disch:=omega) only[ar,go_sem];have X:=ae.box (x:=.cells [.int .i64 kind,.str [],(.sl .nil 10 []),.sl .no 2 (cDs d),.sl .nil 7 []]) ak;obtain⟨bh,a9,bc⟩:=X.here;refine zi (zbD 16 (Al4 _) _ r L bh bk a9 ao bc) (λv W ⟨bj,c2,ag,am,aj⟩=>?_) λv W ⟨n,ag,am⟩=>pan v W n am (by rw[A,ag];rfl);subst am;rw[ag,zD]at A;have aq:=X.call aj;have an:W J=some (.cells [.int .i64 kind,.str [],(.sl .nil 10 []),.sl .no 2 (cDs d),.sl .nil 7 []]):=by rw[aj.other ac,upd_same]
   have ah:W U=some (.cells zO):=by rw[aj.other ab,upd_ne (Ne.symm Y),az]
   simp only[zO]at ah;simp(disch:=omega) only[an,ah,Y,Ne.symm Y,go_sem];exact fin _ _ [.agg [.int .i64 kind,.str [],(.sl .nil 10 []),.sl .no 2 (cDs d),.sl .no 7 (cSs bj)]] _ _ (by simp(disch:=omega) only[ir49,zo,z8,go_sem]) A ((aq.box ak).box bl) (by simp[zP,AV.strip,AV.strip1,cO,cWs])
  | true =>
   rw[hi]at A aa al;simp only[if_true]at A aa al;have cm:zcu [41] zbU t.tail=pb (zbU t.tail) λx t=>yR [41] zbU (t.length+1) [x] t:=rfl;rw[cm]at A;have dn:=zgB al;simp(disch:=omega) only[a4,go_sem];refine zi (zgL al ao bz) (λv ap ⟨b2,a2,ax,bf,a6⟩=>?_) λv ap ⟨n,ax,bf⟩=>pan v ap n bf (by rw[A,ax];rfl);subst bf;rw[ax,zD]at A;have dj:=zeg.lt (by decide) _ _ _ ax;have b7:=aa.call a6;have br:ap J=some (.cells [.int .i64 kind,.str [],.sl .nil 10 [],.sl .nil 2 [],.sl .nil 7 []]):=by rw[a6.other ac,a4]
   have ce:ap U=some (.cells zO):=by rw[a6.other ab,bq]
   obtain⟨R,bx⟩:∃R,yR [41] zbU (a2.length+1) [b2] a2=R:=⟨_,rfl⟩;rw[bx]at A;have a3:KO H r L a2 (16-16) ap .nil 0 10:=⟨b7,rfl,nofun⟩;simp(disch:=omega) only[br,zeE,zb9,go_sem];refine zj (zA.nil _ _) (by simp) (by simp[maxLen]) λcu c4 bd=>?_;have b8:=a3.app (by simpa using bd);have bt:=a3.stay bd br;have cf:=a3.stay bd ce;simp(disch:=omega) only[bt,zeE,zb9,go_sem];refine Ze (λx:Own×List VarD×TS=>[]) (λx H'=>KO H r L x.2.2 (16-16) H' x.1 x.2.1.length 10/\H' J=some (.cells [.int .i64 kind,.str [],.sl x.1 10 (cWs x.2.1),.sl .nil 2 [],.sl .nil 7 []])/\H' U=some (.cells zO)/\(∃m,x.2.2.length<m/\yR [41] zbU m x.2.1 x.2.2=R)/\x.2.1.length+x.2.2.length<=L.length) (λx=>x.2.2.length) (cu,[b2],a2) (by simp(disch:=omega) only[go_sem]) ⟨by simpa using b8.box ak bt,by rw[upd_same];simp[cWs,zdY],by rw[upd_ne (Ne.symm Y)];exact cf,⟨_,Nat.lt_succ_self _,bx⟩,by simp only[List.length_singleton];omega⟩ ?_;rintro⟨o,l,u⟩ c5 c6 ⟨aw,bv,bu,⟨m,cl,ai⟩,hlen⟩ cj;simp only at aw bv bu cl ai hlen;obtain⟨m,rfl⟩:∃j,m=j+1:=⟨m-1,by omega⟩;obtain⟨du,co,cq⟩:=aw.here;have a0:=Zk l;simp(disch:=omega) only[go_sem];refine zC (za4 (dp:=16-16) co bn cq [41]) λv ad ⟨Z,I⟩=>?_;subst Z;have ar:ad J=some (.cells [.int .i64 kind,.str [],.sl o 10 (cWs l),.sl .nil 2 [],.sl .nil 7 []]):=by rw[I.other ac,bv]
   have az:ad U=some (.cells zO):=by rw[I.other ab,bu]
   cases a1:isP [41] u with
   | true =>
    rw[zau,a1,if_pos rfl]at I;have ae:=aw.toKI.call I;obtain⟨cx,a8,ba⟩:=ae.here;have ca:R=.ok (l,u.tail):=by rw[<-ai,yR,a1];rfl
    rw[ca,zD]at A;simp(disch:=omega) only[go_sem];refine zi (zcm (Al4 _) a8 ao ba) (λv av ⟨d,bk,af,Z,I⟩=>?_) λv av ⟨n,af,Z⟩=>pan v av n Z (by rw[A,af];rfl);subst Z;rw[af,zD]at A;have b9:=ae.call I;have ci:av J=some (.cells [.int .i64 kind,.str [],(.sl o 10 (cWs l)),.sl .nil 2 [],.sl .nil 7 []]):=by rw[I.other ac,ar]
    have ch:av U=some (.cells zO):=by rw[I.other ab,az]
    simp(disch:=omega) only[ci,go_sem];have X:=b9.box (x:=.cells [.int .i64 kind,.str [],(.sl o 10 (cWs l)),.sl .no 2 (cDs d),.sl .nil 7 []]) ak;obtain⟨bh,a9,bc⟩:=X.here;refine zi (zbD 16 (Al4 _) _ r L bh bk a9 ao bc) (λv W ⟨bj,c2,ag,am,aj⟩=>?_) λv W ⟨n,ag,am⟩=>pan v W n am (by rw[A,ag];rfl);subst am;rw[ag,zD]at A;have aq:=X.call aj;have an:W J=some (.cells [.int .i64 kind,.str [],(.sl o 10 (cWs l)),.sl .no 2 (cDs d),.sl .nil 7 []]):=by rw[aj.other ac,upd_same]
    have ah:W U=some (.cells zO):=by rw[aj.other ab,upd_ne (Ne.symm Y),ch]
    simp only[zO]at ah;simp(disch:=omega) only[an,ah,Y,Ne.symm Y,go_sem];exact fin _ _ [.agg [.int .i64 kind,.str [],(.sl o 10 (cWs l)),.sl .no 2 (cDs d),.sl .no 7 (cSs bj)]] _ _ (by simp(disch:=omega) only[ir49,zo,z8,go_sem]) A ((aq.box ak).box bl) (by simp[zP,AV.strip,AV.strip1,cO,cWs])
   | false =>
    rw[zau,a1]at I;have ae:=aw.call (by simpa using I);obtain⟨cx,a8,ba⟩:=ae.here;rw[yR,a1]at ai;simp only[Al7,if_false]at ai;simp(disch:=omega) only[ar,go_sem];refine zi (zgL a8 ao ba) (λv au ⟨x,cz,ay,bg,a7⟩=>?_) λv au ⟨ct,ay,bg⟩=>pan v au ct bg (by rw[A,<-ai,ay];rfl);subst bg;rw[ay,zD]at ai;have di:=zeg.lt (by decide) _ _ _ ay;have X:=ae.call a7;have bw:au J=some (.cells [.int .i64 kind,.str [],.sl o 10 (cWs l),.sl .nil 2 [],.sl .nil 7 []]):=by rw[a7.other ac,ar]
    have cg:au U=some (.cells zO):=by rw[a7.other ab,az]
    simp(disch:=omega) only[bw,zeE,zb9,go_sem];refine zj (by rw[a0];exact X.own) (by simp only[a0,Al2,Al3];omega) (by simp only[a0,Al2,Al3,maxLen];omega) λcw W be=>?_;have aq:=X.app (by simpa[a0]using be);have an:=X.stay be bw;have ah:=X.stay be cg;simp(disch:=omega) only[an,zeE,zb9,go_sem];refine goJ (cj (cw,l++[x],cz) _ (by simp only;omega) ⟨by simpa using aq.box ak an,by rw[upd_same];simp[cWs,zdY],by rw[upd_ne (Ne.symm Y)];exact ah,⟨m,by simp only;omega,ai⟩,by simp only[Al5,Al2,Al3];omega⟩) (by simp(disch:=omega) only[go_sem])
def zxR{H:zb}{r:Nat}{L p t:TS}(bx:p++t=L)(ac:wT L<=y0)(hr:H r=some (prc L p (16-16))):
  zd Tryz.prog 50 [.ptr r 0] H (RpE H r L (16-16) (zfj t) (λx=>.agg (cF x))):=by
 refine Z3 (zd.goO (R:=λv H'=>zfA H r L (16-16) (zfj t) (λx=>.agg (cF x)) v.strip H') (RP:=λv H'=>zgi (zfj t) v H') ir50.1 ir50.2 (Al4 _) λKP Q bj bh=>?_);have aq:L.length<=y0:=Nat.le_trans (za9 L) ac;have bk:=aq;simp only[y0]at bk;have pan:∀(v:AV) (H1:zb) (n:Int),v=YC n->(zfj t)=.error n->KP v H1:=λv H1 n bf bg=>bh v H1 H1 (Low.refl _) ⟨n,bg,bf⟩;have fin:=KI.done bj;have af:=KI.start bx hr;have A:zfj t=pb (zez t) λs t=>pb (if isW [111,110] t then .ok ((),t.tail)else .error 2) λ_ t=>pb (Zq t) λo t =>pb (zap true 16 t) λd t=>pb (yw 16 t) λl t=>.ok (⟨s,o,d,l⟩,t):=rfl;simp(disch:=omega) only[ir50,go_sem];refine zc λJ ao=>?_;have b1:=af.ne ao;have Z:=Ne.symm b1;have K1:=af.box (x:=.cells [.str [],.str [],.sl .nil 2 [],.sl .nil 7 []]) ao;obtain⟨b7,bl,br⟩:=K1.here;simp(disch:=omega) only[go_sem];refine zi (zwz bl ac br) (λv ae ⟨s,b5,ag,ar,a3⟩=>?_) λv ae ⟨n,ag,ar⟩=>pan v ae n ar (by rw[A,ag];rfl);subst ar;rw[ag,zD]at A;have ay:=K1.call a3;have a2:ae J=some (.cells [.str [],.str [],.sl .nil 2 [],.sl .nil 7 []]):=by rw[a3.other Z,upd_same]
 simp(disch:=omega) only[go_sem];refine zc λU ap=>?_;have X:U≠J:=λe=>by subst e;rw[a2]at ap;cases ap
 have Y:H U=none:=ay.none ap;have b2:=af.ne Y;have ad:=Ne.symm b2;have az:=ay.box (x:=.cells [.str s,.str [],.sl .nil 2 [],.sl .nil 7 []]) Y;obtain⟨b8,bn,bt⟩:=az.here;simp(disch:=omega) only[go_sem];refine zC (zkY (dp:=16-16) bn aq bt [111,110]) λv ax ⟨bz,ak⟩=>?_;subst bz;have W:=az.call ak;have a7:ax U=some (.cells [.str s,.str [],.sl .nil 2 [],.sl .nil 7 []]):=by rw[ak.other ad,upd_same]
 have a6:ax J=some (.cells [.str [],.str [],.sl .nil 2 [],.sl .nil 7 []]):=by rw[ak.other Z,upd_ne (Ne.symm X),a2]
 unfold YZ at W;cases a4:isW [111,110] b5 with
 | false =>rw[a4]at A;simp(disch:=omega) only[go_sem];exact zi (zfi _ r 2) (λ_ _ h=>h.elim) λv I h=>pan v I 2 h (by rw[A];rfl)
 | true =>
  rw[a4]at A W;simp only[if_true,zD]at A W;obtain⟨b9,bo,bu⟩:=W.here;simp(disch:=omega) only[go_sem];refine zi (za2 (dp:=16-16) bo aq bu) (λv I ⟨o,cb,ah,au,al⟩=>?_) λv I ⟨n,ah,au⟩=>pan v I n au (by rw[A,ah];rfl);subst au;rw[ah,zD]at A;have a9:I U=some (.cells [.str s,.str [],.sl .nil 2 [],.sl .nil 7 []]):=by rw[al.other ad,a7]
  have a8:I J=some (.cells [.str [],.str [],.sl .nil 2 [],.sl .nil 7 []]):=by rw[al.other Z,a6]
  have a0:=(W.call al).box (x:=.cells [.str s,.str o,.sl .nil 2 [],.sl .nil 7 []]) Y;obtain⟨ca,bp,bv⟩:=a0.here;simp(disch:=omega) only[a9,go_sem];refine zi (zcm (Al4 _) bp ac bv) (λv aa ⟨d,b6,ai,av,am⟩=>?_) λv aa ⟨n,ai,av⟩=>pan v aa n av (by rw[A,ai];rfl);subst av;rw[ai,zD]at A;have bc:aa U=some (.cells [.str s,.str o,.sl .nil 2 [],.sl .nil 7 []]):=by rw[am.other ad,upd_same]
  have ba:aa J=some (.cells [.str [],.str [],.sl .nil 2 [],.sl .nil 7 []]):=by rw[am.other Z,upd_ne (Ne.symm X),a8]
  have a1:=(a0.call am).box (x:=.cells [.str s,.str o,.sl .no 2 (cDs d),.sl .nil 7 []]) Y;obtain⟨b3,bq,bw⟩:=a1.here;simp(disch:=omega) only[bc,go_sem];refine zi (zbD 16 (Al4 _) _ r L b3 b6 bq ac bw) (λv ab ⟨b4,cc,aj,aw,an⟩=>?_) λv ab ⟨n,aj,aw⟩=>pan v ab n aw (by rw[A,aj];rfl);subst aw;rw[aj,zD]at A;have a5:=a1.call an;have be:ab U=some (.cells [.str s,.str o,.sl .no 2 (cDs d),.sl .nil 7 []]):=by rw[an.other ad,upd_same]
  have bd:ab J=some (.cells [.str [],.str [],.sl .nil 2 [],.sl .nil 7 []]):=by rw[an.other Z,upd_ne (Ne.symm X),ba]
  simp(disch:=omega) only[be,bd,X,Ne.symm X,go_sem];exact fin _ _ [.agg [.str s,.str o,.sl .no 2 (cDs d),.sl .no 7 (cSs b4)]] _ _ (by simp(disch:=omega) only[ir50,zo,z8,go_sem]) A ((a5.box Y).box ao) (by simp[zP,AV.strip,AV.strip1,cF])
end Go.Proofs.YtnemcnegfkjpeaaGreatDoor
