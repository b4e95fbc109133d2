import Derived.Lib.ValidLaws
import Derived.Test.YtcbfcliickppiaaGreatDoorM5
set_option maxRecDepth 100000
set_option linter.all false
namespace Go.Proofs.YtcbfcliickppiaaGreatDoor
open Go.Ab
def Lf(n:B8)(p:z6):Bool:=decide (p.nm=n)
def zW:z6:=⟨[],⟨[],0,0⟩,false,zV⟩
def zB(l:List z6)(n:B8):Option z6:=l.find? (Lf n)
def V2(x:z6):(cW x).length=10:=by obtain⟨g,t,f,d⟩:=x;cases d;rfl
def zX(f:B8)(j:B8)(tl g:Int)(h:Bool)(k n:Int)(s:B8)(l:List Val)(m:List yU):cW ⟨f,⟨j,tl,g⟩,h,.mk k n s l m⟩=[.str f,.str j,.i tl,.i g,.bool h,.i k,.i n,.str s,.o 5 (PE l),.o 6 (Ya m)]:=rfl
def zmf(p:z6)(n:B8):zf 290 [.agg (cW p),.view [.str n]] (.bool (Lf n p)):=by obtain⟨h,⟨a,b,c⟩,g,⟨k,q,s,l,m⟩⟩:=p;refine zo ir290 λKP Q f=>?_;refine wH ?_;exact f rfl (by simp[Lf])
def Q2(l:List z6)(n:B8)(p:l.length<=ze):zf 185 [.o 10 (Yg l),.str n] (.tup [.agg (cW ((zB l n).getD zW)),.bool (zB l n).isSome]):=by
 refine zo ir185 λKP Q I=>?_;have J:=p;simp only[ze]at J;have K:=zpn cW V2 l 290 [.view [.str n]] (Lf n) p yw λx _=>zmf x n;have fin:∀o,zB l n=o->∀ρ H h,zx ρ H ir185.1.res=some h->(Yz h).strip=.tup [.agg (cW (o.getD zW)),.bool o.isSome]->Q .ret ρ H:=λo e ρ H h f g=>I f (by rw[g,e]);refine xa (zb λX Y=>?_);refine xh K ?_;rcases VB (Lf n) l 0 with ⟨a,x,r,f,g,y,z⟩|⟨f,g⟩
 ·rw[z,Int.zero_add];have j:=y6 f;have C:=yJ l;have A:(a.length:Int)<l.length:=by rw[f,ZX,yg];omega
  have G:¬ ((a.length:Int)<0):=xg
  have e:zB l n=some x:=y;obtain⟨M,⟨O,U,W⟩,v,⟨k,q,s,L,m⟩⟩:=x;rw[zX]at j;refine xk j C A G ?_;exact fin _ e _ _ [.agg (cW ⟨M,⟨O,U,W⟩,v,.mk k q s L m⟩),.bool true] wS rfl
 ·rw[g];have e:zB l n=none:=f;refine xa ?_;exact fin _ e _ _ [.agg [.str [],.str [],.i 0,.i 0,.bool false,.i 0,.i 0,.str [],.sl .nil 5 [],.sl .nil 6 []],.bool false] xb rfl
def QZ(p:z6):Bool:=SK p.t&&!p.has
def zoz(p:z6)(h:p.t.nm.length<=ze):zf 188 [.agg (cW p)] (.bool (QZ p)):=by
 have hi:=isC p.t h;obtain⟨v,⟨a,b,c⟩,j,⟨k,q,s,l,m⟩⟩:=p;simp only[YQ]at hi;refine zo ir188 λKP Q g=>?_;refine wW hi ?_;cases f:SK ⟨a,b,c⟩with
 | false =>refine xa ?_;exact g rfl (by simp[QZ,f])
 | true =>refine xa ?_;exact g rfl (by simp[QZ,f])
abbrev zb3:=X4->Val->Bool->Bool
def Qw(n:B8):yU->Bool| .mk x _=>decide (x=n)
def TC(g:zb3)(f:List z6):List yU->List yU->Bool
 | _,[]=>true
 | seen,.mk n v::r=>(match zB f n with|none=>false|some h=>g h.t v false)&&(!seen.any (Qw n)&&TC g f (seen++[.mk n v]) r)
def Wy(g:List z6)(m:List yU):Bool:=g.all λf=>(Y2 f.nm m).2||!QZ f
def TN(g:zb3)(f:List z6):Val->Bool| .mk k _ _ _ m=>decide (k=7)&&(TC g f [] m&&Wy f m)
def T6(g:zb3)(s:zg)(f:B8)(v:Val):Bool:=match zL s f,v with
 | none,_=>false
 | some d,.mk k n st l m=>if d.k=4 then decide (k=5)&&zH st d.parts else if d.k=5 then TN g d.ps (.mk k n st l m)else if d.k≠0 then false else if f=[73,110,116]then decide (k=2)&&(decide (-2147483648<=n)&&decide (n<=2147483647))else if f=[83,116,114,105,110,103]then decide (k=4)else if f=[66,111,111,108,101,97,110]then decide (k=1)else if f=[73,68]then decide (k=4)||decide (k=2)else false
def M4(g:zb3)(s:zg)(t:X4)(v:Val)(w:Bool):Bool:=match v with
 | .mk k n st l m=>if k=8 then zD t else if k=0 then zD t&&!SK t else if zD t=false then false else match ZH t with
  | none=>T6 g s t.nm (.mk k n st l m)
  | some it=>if k≠6 then !w&&g it (.mk k n st l m) false else l.all λx=>g it x true
def zfc(s:zg):Nat->zb3
 | 0=>λ_ _ _=>false
 | n+1=>M4 (zfc s n) s
def OX(t:X4)(v:Val):Nat:=6*bV v+min t.lists.toNat 5
def yV(s:zg)(t:X4)(v:Val)(w:Bool):Bool:=zfc s (OX t v+1) t v w
def MU{g h:zb3}{f:List z6}:∀(r seen:List yU),(∀n x,yU.mk n x∈r->∀t,g t x false=h t x false)->TC g f seen r=TC h f seen r
 | [],_,_=>rfl
 | .mk n v::r,seen,e=>by
  simp only[TC];rw[MU r _ λn x j=>e n x (YN _ j)];cases zB f n with
  | none=>rfl
  | some p=>simp only[e n v (YS ..)]
def Nc{g h:zb3}{s:zg}{t:X4}{k n:Int}{f:B8}{l:List Val}{m:List yU}{w:Bool}(A:∀it,ZH t=some it->g it (.mk k n f l m) false=h it (.mk k n f l m) false)(v:∀it,ZH t=some it->∀x∈l,g it x true=h it x true)(C:∀n x,yU.mk n x∈m->∀t,g t x false=h t x false):M4 g s t (.mk k n f l m) w=M4 h s t (.mk k n f l m) w:=by
 have y:∀p,TN g p (.mk k n f l m)=TN h p (.mk k n f l m):=λp=>by simp only[TN,MU m [] C]
 have z:T6 g s t.nm (.mk k n f l m)=T6 h s t.nm (.mk k n f l m):=by
  unfold T6;cases zL s t.nm with
  | none=>rfl
  | some d=>simp only[y]
 simp only[M4,z];cases hi:ZH t with
 | none=>rfl
 | some it =>
  have e:(l.all λx=>g it x true)=l.all λx=>h it x true:=by rw[Bool.eq_iff_iff,Yh,Yh];exact⟨λq x j=>by rw[<-v it hi x j];exact q x j,λq x j=>by rw[v it hi x j];exact q x j⟩
  simp only[A it hi,e]
def Xk{t it:X4}(h:ZH t=some it):it.nm=t.nm/\0<=it.lists/\it.lists.toNat+1=t.lists.toNat:=by
 unfold ZH at h;split at h
 ·rename_i f;have:=Wk f.1;have g:=f.2;cases h;refine⟨rfl,?_,?_⟩
  ·show 0<=t.lists-1;omega
  ·show (t.lists-1).toNat+1=t.lists.toNat;omega
 ·cases h
def Tl{t it:X4}(h:ZH t=some it):t.lists.toNat<=4:=by
 unfold ZH at h;split at h
 ·rename_i f;have:=Wk f.1;omega
 ·cases h
def UC{v:Val}:∀ {l:List Val},v∈l->bV v<=Wg l
 | x::l,f=>by
  rcases List.mem_cons.1 f with rfl|f
  ·simp only[Wg];omega
  ·have:=UC f;simp only[Wg];omega
def QS(s:zg):∀h:Val,∀(j:Nat) (t:X4),t.lists.toNat<=j->∀(n f:Nat) (w:Bool),OX t h<n->OX t h<f->zfc s n t h w=zfc s f t h w:=by
 refine Val.ind λk q p l m C G j=>?_;have U:bV (.mk k q p l m)=1+p.length+Wg l+ZC m:=rfl;induction j using Nat.strongRecOn with
 | _ j A =>
 intro t W n f w v y;obtain⟨n,rfl⟩:∃i,n=i+1:=⟨n-1,by omega⟩;obtain⟨f,rfl⟩:∃i,f=i+1:=⟨f-1,by omega⟩;simp only[OX]at v y;refine Nc (λit hi=>?_) (λit hi x g=>?_) λI x g J=>?_
 ·obtain⟨K,L,M⟩:=Xk hi;have O:=Tl hi;exact A it.lists.toNat xg it (ZG _) n f false wu wu
 ·have z:=UC g;exact C x g _ it (ZG _) n f true wu wu
 ·have z:=X9 g;exact G I x g _ J (ZG _) n f false wu wu
def PI(s:zg)(t:X4)(v:Val)(w:Bool):yV s t v w=M4 (yV s) s t v w:=by
 obtain⟨k,q,g,l,m⟩:=v;have C:bV (.mk k q g l m)=1+g.length+Wg l+ZC m:=rfl;refine Nc (λit hi=>?_) (λit hi x f=>?_) λG x f j=>?_
 ·obtain⟨p,y,z⟩:=Xk hi;have A:=Tl hi;exact QS s _ _ it (ZG _) _ _ false wu xg
 ·have h:=UC f;exact QS s _ _ it (ZG _) _ _ true wu xg
 ·have h:=X9 f;exact QS s _ _ j (ZG _) _ _ false wu xg
def zlt(x:yU)(n:B8)(b:Nat)(h:List AV)(H:zd)(g:H b=some (.cells (.str n::h))):zZ 393 [.agg (cM x),.ptr b 0] H (At (.bool (Qw n x)) H):=by obtain⟨j,⟨k,q,s,l,m⟩⟩:=x;refine Xe ir393 λKP Q f=>?_;simp(disch:=omega) only[ir393,zy,zC,g,go_sem];exact f _ _ _ _ _ nofun rfl (yT.refl _) ⟨by simp[Qw],rfl⟩
def zpb(s:zg)(f:List z6)(v:Val)(a2:bV v<=ze)(am:f.length<=ze)(an:∀I∈f,I.t.nm.length<=ze)(M:∀k q y l m,v=.mk k q y l m->∀n x,yU.mk n x∈m->∀t:X4,t.nm.length<=ze->zf 298 [.agg (zk s),.agg (YQ t),.agg (cV x),.bool false] (.bool (yV s t x false))):
  zf 377 [.agg (zk s),.o 10 (Yg f),.agg (cV v)] (.bool (TN (yV s) f v)):=by
 obtain⟨k,q,y,l,m⟩:=v;replace M:=M k q y l m rfl;have bn:1+y.length+Wg l+ZC m<=1099511627776:=a2;have br:=y5 m;have G:=yI m;have Y:=yJ f;have a8:=am;simp only[ze]at a8;obtain⟨ar,au,sm⟩:=s;generalize a1:(⟨ar,au,sm⟩:zg)=s at *
 have a4:zk s=[.o 6 (Vd ar),.str au,.str sm]:=xM a1
 simp only[a4]at M ⊢;refine zo ir377 λKP Q a0=>?_;have fin:∀r,TN (yV s) f (.mk k q y l m)=r->∀ρ H,zx ρ H ir377.1.res=some [.bool r]->Q .ret ρ H:=λr e ρ H G=>a0 G (wa e);by_cases ac:k=7
 case neg =>
  have e:TN (yV s) f (.mk k q y l m)=false:=by simp[TN,ac]
  refine wj ac ?_;exact fin _ e _ _ rfl
 subst ac;refine wj G ?_;refine zc m 21 ZY (λh z _ H=>TC (yV s) f h z=TC (yV s) f [] m) () xb rfl ?_ ?_
 ·rintro _ H X g C;simp only[TC]at g;refine xe G C Y ?_;refine zc f 55 ZY (λh z _ H=>Wy z m=Wy f m) () xb rfl ?_ ?_
  ·rintro _ H X j C;have ay:Wy f m=true:=xM j
   have e:TN (yV s) f (.mk 7 q y l m)=true:=by simp[TN,<-g,ay]
   refine xd Y C ?_;exact fin _ e _ _ rfl
  ·rintro h x z _ H X A C _ j K;have J:=y6 A;have ap:=zoz x (an x (xv A));have aj:=zmo x.nm m xi;have ab:Wy (x::z) m=(((Y2 x.nm m).2||!QZ x)&&Wy z m):=by simp[Wy]
   rw[ab]at j;obtain⟨aq,⟨O,U,W⟩,a6,⟨ad,ag,ah,ae,af⟩⟩:=x;rw[zX]at J ap;simp only at aj j;refine xe Y C J ?_;refine zb λbd bp=>?_;refine xh aj ?_;generalize Y2 aq m=aw at *
   obtain⟨⟨bf,bj,bl,bg,bh⟩,ax⟩:=aw;refine x7 ?_;refine zb λbe a3=>?_;have p:=ZB a3;cases ax with
   | true =>simp only[Bool.true_or,Bool.true_and]at j;refine xd p (Ne.symm p) ?_;exact zJ (K () _ j) xf
   | false =>
    simp only[Bool.false_or]at j;refine xn p (Ne.symm p) ap ?_;cases ao:QZ ⟨aq,⟨O,U,W⟩,a6,.mk ad ag ah ae af⟩with
    | true =>
     rw[ao]at j;have e:TN (yV s) f (.mk 7 q y l m)=false:=by simp[TN,<-j]
     refine xa ?_;exact fin _ e _ _ rfl
    | false =>rw[ao]at j;simp only[Bool.not_false,Bool.true_and]at j;refine xa ?_;exact zJ (K () _ j) xf
 ·rintro h x z _ H X A C _ g K;have J:=yZ A;obtain⟨n,x⟩:=x;have al:=M n x (xv A);have az:=Q2 f n am;have a5:h.length<=ze:=by
   have:m.length=h.length+(z.length+1):=xv A
   refine xl ?_;omega
  have ba:(Ya m).take h.length=h.map cM:=by rw[Tj,A];simp
  have ab:TC (yV s) f h (.mk n x::z)=((match zB f n with|none=>false|some I=>yV s I.t x false)&&(!h.any (Qw n)&&TC (yV s) f (h++[.mk n x]) z)):=rfl;rw[ab]at g;obtain⟨ad,ag,ah,ae,af⟩:=x;rw[zy,zC]at J;rw[zC]at al;refine xe G C J ?_;refine zb λai bq=>?_;refine xh az ?_;cases aa:zB f n with
  | none =>
   rw[aa]at g;have e:TN (yV s) f (.mk 7 q y l m)=false:=by simp[TN,<-g]
   refine x2 ?_;refine zb λav Z=>?_;have p:=ZB Z;refine xd p (Ne.symm p) ?_;exact fin _ e _ _ rfl
  | some I =>
   rw[aa]at g;have a9:=an I (List.mem_of_find?_eq_some aa);obtain⟨bw,⟨O,U,W⟩,bu,⟨pk,bx,bz,pl,bv⟩⟩:=I;have hf:=al ⟨O,U,W⟩ a9;simp only at g;simp only[YQ]at hf;refine x6 ?_;refine zb λav Z=>?_;have p:=ZB Z;refine xn p (Ne.symm p) hf ?_;cases ak:yV s ⟨O,U,W⟩ (.mk ad ag ah ae af) false with
   | false =>
    rw[ak]at g;have e:TN (yV s) f (.mk 7 q y l m)=false:=by simp[TN,<-g]
    refine xa ?_;exact fin _ e _ _ rfl
   | true =>
    rw[ak]at g;simp only[Bool.true_and]at g;have a7:(h.length:Int)<=m.length:=xg
    refine xe G a7 ba ?_;refine yM (zlo cM zq h 393 [.ptr ai 0] (Qw n) _ a5 yw λbc _=>zlt bc n ai _ _ (by rw[upd_ne (Ne.symm p),upd_same])) ?_;rintro _ _ ⟨_,rfl,rfl,rfl⟩;cases L:h.any (Qw n)with
    | true =>
     rw[L]at g;have e:TN (yV s) f (.mk 7 q y l m)=false:=by simp[TN,<-g]
     refine wO L ?_;exact fin _ e _ _ rfl
    | false =>rw[L]at g;refine wO L ?_;exact zJ (K () _ (xy g)) xf
def YW{p:z6}:∀ {l:List z6},p∈l->bW p<=Wx l
 | x::l,f=>by
  rcases List.mem_cons.1 f with rfl|f
  ·simp only[Wx,List.map_cons,List.sum_cons];omega
  ·have:=YW f;simp only[Wx,List.map_cons,List.sum_cons]at this ⊢;omega
def zog(s:zg)(g:B8)(v:Val)(Z:zA s<=ze)(ah:bV v<=ze)(am:∀k q y l m,v=.mk k q y l m->∀n x,yU.mk n x∈m->∀t:X4,t.nm.length<=ze->zf 298 [.agg (zk s),.agg (YQ t),.agg (cV x),.bool false] (.bool (yV s t x false))):
  zf 345 [.agg (zk s),.str g,.agg (cV v)] (.bool (T6 (yV s) s g v)):=by
 have Y:=λI M ae=>zpb s I v ah M ae am;obtain⟨k,q,y,l,m⟩:=v;have hf:=PS s g (zR Z);have aj:=@Xh s g;have ax:zA s<=1099511627776:=Z;obtain⟨ac,ad,sm⟩:=s;generalize ag:(⟨ac,ad,sm⟩:zg)=s at *
 have ai:zk s=[.o 6 (Vd ac),.str ad,.str sm]:=xM ag
 simp only[ai,zC]at hf Y ⊢;refine zo ir345 λKP Q af=>?_;have fin:∀r,T6 (yV s) s g (.mk k q y l m)=r->∀ρ H,zx ρ H ir345.1.res=some [.bool r]->Q .ret ρ H:=λr e ρ H M=>af M (wa e);have f:T6 (yV s) s g (.mk k q y l m)=match zL s g with
  | none=>false
  | some d=>if d.k=4 then decide (k=5)&&zH y d.parts else if d.k=5 then TN (yV s) d.ps (.mk k q y l m)else if d.k≠0 then false else if g=[73,110,116]then decide (k=2)&&(decide (-2147483648<=q)&&decide (q<=2147483647))else if g=[83,116,114,105,110,103]then decide (k=4)else if g=[66,111,111,108,101,97,110]then decide (k=1)else if g=[73,68]then decide (k=4)||decide (k=2)else false:=by
  unfold T6;cases zL s g<;>rfl
 refine xh hf ?_;cases O:zL s g with
 | none =>rw[O]at f;refine we (zb λA C=>?_);refine xa ?_;exact fin _ f _ _ rfl
 | some d =>
  rw[O]at f;obtain⟨_,_,ak,al⟩:=aj O;obtain⟨L,aq,au,ar,I,ab⟩:=d;simp only at f ak al;have aw:=ZN I;have av:=yr ab;by_cases U:L=4
  ·subst U;rw[if_pos rfl]at f;refine xD (zb λA C=>?_);by_cases j:k=5
   ·subst j;refine xh (Z4 I y xi) ?_;refine xa ?_;exact fin _ (xv f) _ _ rfl
   ·refine xc j ?_;exact fin false (x1 f j) _ _ rfl
  rw[if_neg U]at f;by_cases j:L=5
  ·subst j;rw[if_pos rfl]at f;refine xD (zb λA C=>?_);refine xa ?_;refine za (Y ab xi λay an=>by have:=YW an;simp only[bW]at this;refine xl ?_;omega) ?_;refine xa ?_;exact fin _ f _ _ rfl
  rw[if_neg j]at f;by_cases k0:L=0
  case neg =>rw[if_pos k0]at f;refine xD (zb λA C=>?_);refine xe U j k0 ?_;exact fin _ f _ _ rfl
  subst k0;rw[if_neg xw]at f;refine xD (zb λA C=>?_);by_cases h:g=[73,110,116]
  ·rw[if_pos h]at f;have W:=eq_true h;by_cases X:k=2
   case neg =>refine xd W X ?_;exact fin false (x1 f X) _ _ rfl
   subst X;by_cases J:-2147483648<=q
   case neg =>refine xd W J ?_;exact fin false (x1 f J) _ _ rfl
   refine xd W J ?_;exact fin (decide (q<=2147483647)) (x1 f J) _ _ rfl
  rw[if_neg h]at f;by_cases p:g=[83,116,114,105,110,103]
  ·rw[if_pos p]at f;have ao:=eq_true p;refine xd h ao ?_;exact fin _ f _ _ rfl
  rw[if_neg p]at f;by_cases z:g=[66,111,111,108,101,97,110]
  ·rw[if_pos z]at f;have ap:=eq_true z;refine xe h p ap ?_;exact fin _ f _ _ rfl
  rw[if_neg z]at f;by_cases G:g=[73,68]
  ·rw[if_pos G]at f;have aa:=eq_true G;by_cases K:k=4
   ·refine xp h p z aa K ?_;exact fin true (x1 f K) _ _ rfl
   ·refine xp h p z aa K ?_;exact fin (decide (k=2)) (x1 f K) _ _ rfl
  rw[if_neg G]at f;refine xk h p z G ?_;exact fin _ f _ _ rfl
def zq0(s:zg)(a0:zA s<=ze):∀ae:Val,∀(n:Nat) (t:X4) (w:Bool),t.lists.toNat<=n->bV ae<=ze->t.nm.length<=ze->zf 298 [.agg (zk s),.agg (YQ t),.agg (cV ae),.bool w] (.bool (yV s t ae w)):=by
 refine Val.ind λk q g l m a3 a4=>?_;have be:=Xi l;have p:=YI l;intro n;induction n using Nat.strongRecOn with
 | _ n a2 =>
 intro t w bf aa A;have bd:1+g.length+Wg l+ZC m<=1099511627776:=aa;have J:=V5 t A;have hi:=isC t A;have hit:=znZ t A;have af:=zog s t.nm (.mk k q g l m) a0 aa λbg bl bn bh bj e a5 x h am a1=>by
  cases e;have ac:bV x<=ze:=by have:=X9 h;refine xl ?_;omega
  exact a4 a5 x h am.lists.toNat am false (ZG _) ac a1
 have z:∀it,ZH t=some it->zf 298 [.agg (zk s),.agg (YQ it),.agg (cV (.mk k q g l m)),.bool false] (.bool (yV s it (.mk k q g l m) false)):=λit Z=>by obtain⟨Y,aq,ar⟩:=Xk Z;exact a2 it.lists.toNat xg it false (ZG _) aa (wz Y A)
 have v:∀it,ZH t=some it->∀x∈l,zf 298 [.agg (zk s),.agg (YQ it),.agg (cV x),.bool true] (.bool (yV s it x true)):=λit Z x h=>by
  obtain⟨Y,aq,ar⟩:=Xk Z;have ac:bV x<=ze:=by have:=UC h;refine xl ?_;omega
  exact a3 x h it.lists.toNat it true (ZG _) ac (wz Y A)
 have f:yV s t (.mk k q g l m) w=if k=8 then zD t else if k=0 then zD t&&!SK t else if zD t=false then false else match ZH t with
  | none=>T6 (yV s) s t.nm (.mk k q g l m)
  | some it=>if k≠6 then !w&&yV s it (.mk k q g l m) false else l.all λx=>yV s it x true:=PI s t (.mk k q g l m) w
 generalize bc:yV s t (.mk k q g l m) w=F at *
 obtain⟨ak,al,sm⟩:=s;generalize aw:(⟨ak,al,sm⟩:zg)=s at *
 have az:zk s=[.o 6 (Vd ak),.str al,.str sm]:=xM aw
 obtain⟨W,tl,U⟩:=t;simp only[az,zC]at af z v ⊢;simp only[YQ]at J hi hit ⊢;refine zo ir298 λKP Q av=>?_;have fin:∀r,F=r->∀ρ H,zx ρ H ir298.1.res=some [.bool r]->Q .ret ρ H:=λr e ρ H p=>av p (wa e);by_cases ad:k=8
 ·subst ad;rw[if_pos rfl]at f;refine xh J ?_;refine xa ?_;exact fin _ f _ _ rfl
 rw[if_neg ad]at f;by_cases k0:k=0
 ·subst k0;rw[if_pos rfl]at f;refine xh J ?_;cases y:zD ⟨W,tl,U⟩with
  | false =>refine xa ?_;exact fin false (by rw[f,y];rfl) _ _ rfl
  | true =>refine xh hi ?_;refine xa ?_;exact fin (!SK ⟨W,tl,U⟩) (by rw[f,y];rfl) _ _ rfl
 rw[if_neg k0]at f;refine xn ad k0 J ?_;cases y:zD ⟨W,tl,U⟩with
 | false =>rw[if_pos y]at f;refine xa ?_;exact fin false f _ _ rfl
 | true =>
  rw[if_neg (xv y)]at f;refine xh hit ?_;cases G:ZH ⟨W,tl,U⟩with
  | none =>rw[G]at f;refine w3 (zb λX ay=>?_);refine xh af ?_;refine xa ?_;exact fin _ f _ _ rfl
  | some it =>
   rw[G]at f;replace z:=z it G;replace v:=v it G;obtain⟨M,K,L⟩:=it;simp only at z v f;simp(disch:=omega) only[Option.getD,Option.isSome,go_sem];refine zb λX ay=>?_;by_cases O:k=6
   case neg =>
    rw[if_pos O]at f;cases w with
    | true =>refine xc O ?_;exact fin false f _ _ rfl
    | false =>refine xt O z ?_;refine xa ?_;exact fin _ (wa f) _ _ rfl
   subst O;rw[if_neg xw]at f;refine xc p ?_;refine zc l 59 ZY (λap aj _ H=>H X=some (.cells [.str M,.i K,.i L])/\(aj.all λx=>yV s ⟨M,K,L⟩ x true)=l.all λx=>yV s ⟨M,K,L⟩ x true) () xb ⟨upd_same ..,rfl⟩ ?_ ?_
   ·rintro _ H an ⟨C,j⟩ ab;refine xd p ab ?_;exact fin true (wK f j) _ _ rfl
   ·rintro ap x aj _ H an ag ab _ ⟨C,j⟩ au;have ai:=Xa ag;have h:=v x (xv ag);rw[List.all_cons]at j;obtain⟨a6,a9,ba,a7,a8⟩:=x;rw[zC]at ai h;refine xe p ab ai (zb λao ax=>?_);have I:X≠ao:=nen2 C ax;refine xm C I (Ne.symm I) h ?_;cases ah:yV s ⟨M,K,L⟩ (.mk a6 a9 ba a7 a8) true with
    | false =>rw[ah]at j;refine xa ?_;exact fin false (wK f j) _ _ rfl
    | true =>rw[ah]at j;refine xa ?_;exact zJ (au () _ ⟨wx C I (Ne.symm I),by simpa using j⟩) xf
def zrF(s:zg)(t:X4)(v:Val)(w:Bool)(g:zA s<=ze)(f:bV v<=ze)(h:t.nm.length<=ze):zf 298 [.agg (zk s),.agg (YQ t),.agg (cV v),.bool w] (.bool (yV s t v w)) :=zq0 s g v _ t w (ZG _) f h
def Zs(s:zg)(t:X4)(v:Val):Bool:=yL v&&yV s t v false
def OE(s:zg)(t:X4)(v:Val)(p:zA s<=ze)(h:bV v<=ze)(y:t.nm.length<=ze):zf 197 [.agg (zk s),.agg (YQ t),.agg (cV v)] (.bool (Zs s t v)):=by
 have hf:=zrF s t v false p h y;have j:=zp0 v h;obtain⟨A,C,sm⟩:=s;obtain⟨I,tl,G⟩:=t;obtain⟨k,q,z,l,m⟩:=v;simp only[zk,YQ,zC]at hf j ⊢;refine zo ir197 λKP Q g=>?_;refine xh j ?_;cases f:yL (.mk k q z l m)with
 | false =>refine xa ?_;exact g rfl (by simp[Zs,f])
 | true =>refine xh hf ?_;refine xa ?_;exact g rfl (by simp[Zs,f])
def Lh:∀ab,bV ab<=ze->zf 271 [.agg (cV ab)] (.bool (yL ab)):=by
 refine Val.ind λk n s l m az a0 aw=>?_;have ax:1+s.length+Wg l+ZC m<=ze:=aw;have a2:=Xi l;have a3:=y5 m;have p:=YI l;have j:=yI m;have af:s.length<=ze:=xg
 simp only[ze]at ax;refine zo ir271 λKP Q h=>?_;by_cases k0:k=0
 ·subst k0;by_cases y:n=0
  case neg =>refine xL p j y ?_;exact h rfl (w8 y)
  subst y;by_cases v:(0:Int)<l.length
  ·have f:¬ l.length=0:=xg
   have G:l≠[]:=λe=>by subst e;simp at f
   refine xL p j v ?_;exact h rfl (wq f G)
  have f:l=[]:=List.eq_nil_of_length_eq_zero xg;by_cases z:(0:Int)<m.length
  ·have g:¬ m.length=0:=xg
   have I:m≠[]:=λe=>by subst e;simp at g
   refine xW p j v z ?_;exact h rfl (wJ f g I)
  have g:m=[]:=List.eq_nil_of_length_eq_zero xg;by_cases C:s=[]
  case neg =>simp(disch:=omega) only[ir271,zC,p,j,v,z,C,go_sem];exact h rfl (wJ f g C)
  subst C;refine xW p j v z ?_;exact h rfl (wq f g)
 by_cases L:k=1
 ·subst L;by_cases v:(0:Int)<l.length
  ·have f:¬ l.length=0:=xg
   have G:l≠[]:=λe=>by subst e;simp at f
   refine xL p j v ?_;exact h rfl (wq f G)
  have f:l=[]:=List.eq_nil_of_length_eq_zero xg;by_cases z:(0:Int)<m.length
  ·have g:¬ m.length=0:=xg
   have I:m≠[]:=λe=>by subst e;simp at g
   refine xW p j v z ?_;exact h rfl (wJ f g I)
  have g:m=[]:=List.eq_nil_of_length_eq_zero xg;by_cases C:s=[]
  case neg =>simp(disch:=omega) only[ir271,zC,p,j,v,z,C,go_sem];exact h rfl (wJ f g C)
  subst C;by_cases y:n=0
  ·subst y;refine xW p j v z ?_;exact h rfl (wq f g)
  by_cases ar:n=1
  ·subst ar;refine xW p j v z ?_;exact h rfl (wq f g)
  simp(disch:=omega) only[ir271,zC,p,j,v,z,y,ar,go_sem];exact h rfl (by simp[yL,ZA,zK,yK,f,g,y,ar])
 by_cases M:k=2
 ·subst M;by_cases v:(0:Int)<l.length
  ·have f:¬ l.length=0:=xg
   have G:l≠[]:=λe=>by subst e;simp at f
   refine xL p j v ?_;exact h rfl (wq f G)
  have f:l=[]:=List.eq_nil_of_length_eq_zero xg;by_cases z:(0:Int)<m.length
  ·have g:¬ m.length=0:=xg
   have I:m≠[]:=λe=>by subst e;simp at g
   refine xW p j v z ?_;exact h rfl (wJ f g I)
  have g:m=[]:=List.eq_nil_of_length_eq_zero xg;by_cases C:s=[]
  case neg =>simp(disch:=omega) only[ir271,zC,p,j,v,z,C,go_sem];exact h rfl (wJ f g C)
  subst C;refine xW p j v z ?_;exact h rfl (wq f g)
 by_cases O:k=3
 ·subst O;by_cases y:n=0
  case neg =>refine xL p j y ?_;exact h rfl (w8 y)
  subst y;by_cases v:(0:Int)<l.length
  ·have f:¬ l.length=0:=xg
   have G:l≠[]:=λe=>by subst e;simp at f
   refine xL p j v ?_;exact h rfl (wq f G)
  have f:l=[]:=List.eq_nil_of_length_eq_zero xg;by_cases z:(0:Int)<m.length
  ·have g:¬ m.length=0:=xg
   have I:m≠[]:=λe=>by subst e;simp at g
   refine xW p j v z ?_;exact h rfl (wJ f g I)
  have g:m=[]:=List.eq_nil_of_length_eq_zero xg;refine xW p j v z ?_;have J:=zea s;refine za (zmy s af) ?_;by_cases C:s=[]
  ·refine xc C ?_;simp only[C,ne_eq,not_true_eq_false,decide_false,Bool.false_and]at J;exact h rfl (by simp[yL,ZA,zK,yK,f,g,C,<-J])
  by_cases an:V8 s=0
  ·refine xd C an ?_;simp only[an,ne_eq,not_true_eq_false,decide_false,Bool.false_and,Bool.and_false]at J;exact h rfl (by simp[yL,ZA,zK,yK,f,g,<-J])
  refine xn C an (zo5 s af) ?_;have au:decide (s≠[])=true:=xy C
  have av:decide (V8 s≠0)=true:=xy an
  rw[au,av,Bool.true_and,Bool.true_and]at J;by_cases ah:V8 s=4
  ·refine xc ah ?_;rw[decide_eq_true ah,Bool.true_or]at J;exact h rfl (by simp[yL,ZA,zK,yK,f,g,<-J])
  ·refine xc ah ?_;rw[decide_eq_false ah,Bool.false_or]at J;exact h rfl (by simp[yL,ZA,zK,yK,f,g,<-J])
 by_cases U:k=4
 ·subst U;by_cases y:n=0
  case neg =>refine xL p j y ?_;exact h rfl (w8 y)
  subst y;by_cases v:(0:Int)<l.length
  ·have f:¬ l.length=0:=xg
   have G:l≠[]:=λe=>by subst e;simp at f
   refine xL p j v ?_;exact h rfl (wq f G)
  have f:l=[]:=List.eq_nil_of_length_eq_zero xg;by_cases z:(0:Int)<m.length
  ·have g:¬ m.length=0:=xg
   have I:m≠[]:=λe=>by subst e;simp at g
   refine xW p j v z ?_;exact h rfl (wJ f g I)
  have g:m=[]:=List.eq_nil_of_length_eq_zero xg;refine xW p j v z ?_;refine za (znx s af) ?_;refine xa ?_;exact h rfl (wq f g)
 by_cases W:k=5
 ·subst W;by_cases y:n=0
  case neg =>refine xL p j y ?_;exact h rfl (w8 y)
  subst y;by_cases v:(0:Int)<l.length
  ·have f:¬ l.length=0:=xg
   have G:l≠[]:=λe=>by subst e;simp at f
   refine xL p j v ?_;exact h rfl (wq f G)
  have f:l=[]:=List.eq_nil_of_length_eq_zero xg;by_cases z:(0:Int)<m.length
  ·have g:¬ m.length=0:=xg
   have I:m≠[]:=λe=>by subst e;simp at g
   refine xW p j v z ?_;exact h rfl (wJ f g I)
  have g:m=[]:=List.eq_nil_of_length_eq_zero xg;refine xW p j v z ?_;refine za (XO s af) ?_;cases A:zI s with
  | false =>refine xc A ?_;exact h rfl (wJ f g A)
  | true =>
   by_cases ak:s=[116,114,117,101]
   ·refine xd A ak ?_;exact h rfl (by simp[yL,ZA,zK,yK,f,g,A,LH,ak])
   by_cases al:s=[102,97,108,115,101]
   ·have q:¬ ([102,97,108,115,101]:B8)=[116,114,117,101]:=by decide
    refine xe A al q ?_;exact h rfl (by simp[yL,ZA,zK,yK,f,g,A,LH,al])
   by_cases am:s=[110,117,108,108]
   ·have q:¬ ([110,117,108,108]:B8)=[116,114,117,101]:=by decide
    have a1:¬ ([110,117,108,108]:B8)=[102,97,108,115,101]:=by decide
    refine xk A am q a1 ?_;exact h rfl (by simp[yL,ZA,zK,yK,f,g,A,LH,am])
   refine xk A ak al am ?_;exact h rfl (by simp[yL,ZA,zK,yK,f,g,A,LH,ak,al,am])
 by_cases Z:k=8
 ·subst Z;by_cases y:n=0
  case neg =>refine xL p j y ?_;exact h rfl (w8 y)
  subst y;by_cases v:(0:Int)<l.length
  ·have f:¬ l.length=0:=xg
   have G:l≠[]:=λe=>by subst e;simp at f
   refine xL p j v ?_;exact h rfl (wq f G)
  have f:l=[]:=List.eq_nil_of_length_eq_zero xg;by_cases z:(0:Int)<m.length
  ·have g:¬ m.length=0:=xg
   have I:m≠[]:=λe=>by subst e;simp at g
   refine xW p j v z ?_;exact h rfl (wJ f g I)
  have g:m=[]:=List.eq_nil_of_length_eq_zero xg;refine xW p j v z ?_;refine za (XO s af) ?_;refine xa ?_;exact h rfl (wq f g)
 by_cases X:k=6
 ·subst X;by_cases y:n=0
  case neg =>refine xL p j y ?_;exact h rfl (w8 y)
  subst y;by_cases z:(0:Int)<m.length
  ·have g:¬ m.length=0:=xg
   have I:m≠[]:=λe=>by subst e;simp at g
   refine xL p j z ?_;exact h rfl (wq g I)
  have g:m=[]:=List.eq_nil_of_length_eq_zero xg;by_cases C:s=[]
  case neg =>refine xW p j z C ?_;exact h rfl (wq g C)
  subst C;refine xL p j z ?_;refine zc l 6 ZY (λae ad _ H=>Td Lib.validD ad=Td Lib.validD l) () xb rfl ?_ ?_
  ·rintro _ H ao A aa;simp only[Td]at A;refine xd p aa ?_;exact h rfl (by simp[yL,ZA,zK,yK,g,<-A])
  ·rintro ae x ad _ H ao ac aa _ A aq;have aj:=Xa ac;have ai:=UA ae x ad;rw[<-ac]at ai;simp only[Td]at A;refine xx p aa aj ?_;refine za (az x (xv ac) xi) ?_;have ap:yL x=ZA Lib.validD x:=rfl;rw[ap];cases K:ZA Lib.validD x with
   | true =>simp only[K,Bool.true_and]at A;refine xc K ?_;exact zJ (aq () _ A) xf
   | false =>simp only[K,Bool.false_and]at A;refine xc K ?_;exact h rfl (by simp[yL,ZA,zK,yK,g,<-A])
 by_cases Y:k=7
 ·subst Y;by_cases y:n=0
  case neg =>refine xL p j y ?_;exact h rfl (w8 y)
  subst y;by_cases v:(0:Int)<l.length
  ·have f:¬ l.length=0:=xg
   have G:l≠[]:=λe=>by subst e;simp at f
   refine xL p j v ?_;exact h rfl (wq f G)
  have f:l=[]:=List.eq_nil_of_length_eq_zero xg;by_cases C:s=[]
  case neg =>refine xW p j v C ?_;exact h rfl (wq f C)
  subst C;refine xL p j v ?_;refine zc m 7 ZY (λae ad _ H=>UX Lib.validD ad=UX Lib.validD m) () xb rfl ?_ ?_
  ·rintro _ H ao A aa;simp only[UX]at A;refine xd j aa ?_;exact h rfl (by simp[yL,ZA,zK,yK,f,<-A])
  ·rintro ae x ad _ H ao ac aa _ A aq;have aj:=yZ ac;have ai:=Wb ae x ad;rw[<-ac]at ai;have ay:x∈m:=xv ac
   obtain⟨t,ab⟩:=x;simp only[UX,zlf,bM]at A ai;refine xx j aa aj ?_;refine za (znx t xi) ?_;cases ag:Lib.validD t with
   | false =>simp only[ag,Bool.false_and]at A;refine xI ag ?_;exact h rfl (by simp[yL,ZA,zK,yK,f,<-A])
   | true =>
    refine xC ag j aa aj ?_;refine za (a0 t ab ay xi) ?_;have ap:yL ab=ZA Lib.validD ab:=rfl;rw[ap];cases K:ZA Lib.validD ab with
    | true =>simp only[ag,K,Bool.true_and]at A;refine xc K ?_;exact zJ (aq () _ A) xf
    | false =>simp only[ag,K,Bool.true_and,Bool.false_and]at A;refine xc K ?_;exact h rfl (by simp[yL,ZA,zK,yK,f,<-A])
 ·skip
  by_cases y:n=0
  case neg =>simp(disch:=omega) only[ir271,zC,p,j,k0,L,M,O,U,W,Z,X,Y,y,go_sem];exact h rfl (by simp[yL,ZA,zK,yK,k0,L,M,O,U,W,Z,X,Y,y])
  subst y;by_cases v:(0:Int)<l.length
  ·have f:¬ l.length=0:=xg
   have G:l≠[]:=λe=>by subst e;simp at f
   simp(disch:=omega) only[ir271,zC,p,j,k0,L,M,O,U,W,Z,X,Y,v,go_sem];exact h rfl (by simp[yL,ZA,zK,yK,k0,L,M,O,U,W,Z,X,Y,f,G])
  have f:l=[]:=List.eq_nil_of_length_eq_zero xg;by_cases z:(0:Int)<m.length
  ·have g:¬ m.length=0:=xg
   have I:m≠[]:=λe=>by subst e;simp at g
   simp(disch:=omega) only[ir271,zC,p,j,k0,L,M,O,U,W,Z,X,Y,v,z,go_sem];exact h rfl (by simp[yL,ZA,zK,yK,k0,L,M,O,U,W,Z,X,Y,f,g,I])
  have g:m=[]:=List.eq_nil_of_length_eq_zero xg;simp(disch:=omega) only[ir271,zC,p,j,k0,L,M,O,U,W,Z,X,Y,v,z,go_sem];exact h rfl (by simp[yL,ZA,zK,yK,k0,L,M,O,U,W,Z,X,Y,f,g])
def O5:∀(s:B8) (i:Nat),Ur s i=true->∀c∈s,c.toNat<128
 | [],_,_,c,hc=>by cases hc
 | x::r,i,h,c,hc=>by
  simp only[Ur]at h;split at h
  ·rename_i f;rcases List.mem_cons.1 hc with e|e
   ·subst e;simp only[isL,NG,Uz,yu,Zh]at f;omega
   ·exact O5 r _ h c e
  ·cases h
def zdS{s:B8}(h:zI s=true):Lib.validD s=true:=by simp only[zI,yu]at h;rw[Lib.validD_ascii s.length s (λb f=>O5 s 0 h.1 b (xy f))];simp[Lib.validD,Lib.validGoD]
mutual
def Vy:Val->Bool| .mk _ _ _ l m=>VN l&&VL m
def VN:List Val->Bool
 | []=>true
 | v::r=>Vy v&&VN r
def zej:yU->Bool| .mk s v=>zI s&&Vy v
def VL:List yU->Bool
 | []=>true
 | x::r=>zej x&&VL r
end
def zpq:∀v,bV v<=ze->zf 327 [.agg (cV v)] (.bool (Vy v)):=by
 refine Val.ind λk n s l m Y Z U=>?_;have W:1+s.length+Wg l+ZC m<=ze:=U;have aa:=Xi l;have ab:=y5 m;have O:=YI l;have K:=yI m;simp only[ze]at W;refine zo ir327 λKP Q A=>?_;refine x7 ?_;refine zc l 3 ZY (λy p _ H=>VN p=VN l/\H=zd.emp) () xb ⟨rfl,rfl⟩ ?_ ?_
 ·rintro _ H J ⟨g,rfl⟩ M;simp only[VN]at g;refine xd O M ?_;refine zc m 4 ZY (λy p _ H=>VL p=VL m) () xb rfl ?_ ?_
  ·rintro _ H J f I;simp only[VL]at f;refine xd K I ?_;exact A rfl (by simp[Vy,<-g,<-f])
  ·rintro y x p _ H J j I _ f L;have G:=yZ j;have C:=Wb y x p;rw[<-j]at C;have X:x∈m:=xv j
   obtain⟨t,v⟩:=x;simp only[VL,zej,bM]at f C;refine xx K I G ?_;refine za (XO t xi) ?_;cases z:zI t with
   | false =>simp only[z,Bool.false_and]at f;refine xI z ?_;exact A rfl (by simp[Vy,<-g,<-f])
   | true =>
    refine xC z K I G ?_;refine za (Z t v X xi) ?_;cases h:Vy v with
    | true =>simp only[z,h,Bool.true_and]at f;refine xc h ?_;exact zJ (L () _ f) xf
    | false =>simp only[z,h,Bool.true_and,Bool.false_and]at f;refine xc h ?_;exact A rfl (by simp[Vy,<-g,<-f])
 ·rintro y x p _ H J j M _ ⟨g,rfl⟩ L;have G:=Xa j;have C:=UA y x p;rw[<-j]at C;simp only[VN]at g;refine xx O M G ?_;refine za (Y x (xv j) xi) ?_;cases h:Vy x with
  | true =>simp only[h,Bool.true_and]at g;refine xc h ?_;exact zJ (L () _ ⟨g,rfl⟩) xf
  | false =>simp only[h,Bool.false_and]at g;refine xc h ?_;exact A rfl (by simp[Vy,<-g])
mutual
def QN:∀g,(yL g&&Vy g)=ZA zI g
 | .mk k n s l m=>by
  have j:=Ni l;have p:=O7 m;unfold yL at *
  simp only[ZA,Vy];split
  ·cases f:yK n s [] m with
   | false=>simp
   | true =>obtain⟨_,_,_,rfl⟩:=UG.1 f;rw[<-j];simp[VL]
  ·split
   ·cases f:yK n s l []with
    | false=>simp
    | true =>obtain⟨_,_,rfl,_⟩:=UG.1 f;rw[<-p];simp[VN]
   ·cases h:zK k n s l m with
    | false=>rfl
    | true =>
     have:yK 0 [] l m=true:=by simp only[zK,yu]at h;exact h.1
     obtain⟨_,_,rfl,rfl⟩:=UG.1 this;simp[VN,VL]
def Ni:∀l,(Td Lib.validD l&&VN l)=Td zI l
 | []=>rfl
 | v::r=>by have f:=QN v;have g:=Ni r;unfold yL at f;simp only[Td,VN,<-f,<-g];cases ZA Lib.validD v<;>cases Td Lib.validD r<;>cases Vy v<;>rfl
def O7:∀l,(UX Lib.validD l&&VL l)=UX zI l
 | []=>rfl
 | .mk s v::r=>by
  have f:=QN v;have g:=O7 r;unfold yL at f;simp only[UX,VL,zlf,zej,<-f,<-g];cases h:zI s with
  | false=>simp
  | true =>rw[zdS h];cases ZA Lib.validD v<;>cases UX Lib.validD r<;>cases Vy v<;>rfl
end
def zkQ(v:Val)(p:bV v<=ze):zf 259 [.agg (cV v)] (.bool (WU v)):=by
 refine zo ir259 λKP Q j=>?_;have h:=QN v;refine xS (Lh v p) ?_;cases g:yL v with
 | false =>rw[g,Bool.false_and]at h;refine xI g ?_;exact j rfl (by simp[WU,<-h])
 | true =>
  rw[g,Bool.true_and]at h;refine wL g (zjM v p) ?_;by_cases f:Yx v<=16
  ·refine wL f (zpq v p) ?_;refine xa ?_;exact j rfl (by simp[WU,<-h,f])
  ·refine xI f ?_;exact j rfl (by simp[WU,f])
def zci(v:Val)(j:bV v<=ze)(dp:Int)(G:0<=dp)(I:dp<=64)(fixed:Bool):zf 132 [.agg (cV v),.i dp,.bool fixed] (.bool (ZP dp fixed v)):=by
 refine zo ir132 λKP Q g=>?_;have J:=RN v;have C:=j;simp only[ze]at C;have p:IntKind.wrap .i64 (dp+Yx v)=dp+Yx v:=wrap64 xg xg;have z:=zn (yN v []);refine xS (zkQ v j) ?_;cases h:WU v with
 | false =>refine xa ?_;exact g rfl (by simp[ZP,h])
 | true =>
  refine xS (zjM v j) ?_;by_cases f:dp+Yx v<=16
  case neg =>refine wc p f ?_;exact g rfl (by simp[ZP,h,f])
  cases fixed with
  | false =>refine wc p f ?_;exact g rfl (by simp[ZP,h,f])
  | true =>
   refine wI p f (zhy v j) ?_;by_cases A:(yN v []).length=0
   ·have y:(((yN v []).length:Int)=0)=True:=eq_true xg;refine xd z y ?_;exact g rfl (by simp[ZP,h,f,A])
   ·have y:¬ (((yN v []).length:Int)=0):=xg
    refine xd z y ?_;exact g rfl (by simp[ZP,h,f,A])
def Mo(m:List yU)(U:ZC m<=ze)(dp:Int)(L:0<=dp)(M:dp<=64)(fixed:Bool):zf 130 [.o 6 (Ya m),.i dp,.bool fixed] (.bool (YV dp fixed m)):=by
 refine zo ir130 λKP Q h=>?_;have j:=yI m;have Y:=y5 m;have W:=U;simp only[ze]at W;refine xa ?_;refine zc m 7 ZY (λA g _ H=>YV dp fixed m=YV dp fixed g) () xb rfl ?_ ?_
 ·rintro _ H K y f;have e:YV dp fixed m=true:=y;refine xd j f ?_;exact xj h e
 ·rintro A x g _ H K G f X y O;have I:=yZ G;have C:=Wb A x g;rw[<-G]at C;obtain⟨s,z⟩:=x;simp only[bM]at C;have v:YV dp fixed m=(zI s&&ZP dp fixed z&&YV dp fixed g):=by rw[y];simp[YV,K6]
  refine xx j f I ?_;refine za (XO s xi) ?_;cases p:zI s with
  | false =>refine xa ?_;exact xz h v p
  | true =>
   refine xx j f I ?_;refine za (zci z xi dp L M fixed) ?_;cases J:ZP dp fixed z with
   | false =>refine xa ?_;exact h rfl (by simp[v,p,J])
   | true =>refine xq ?_;exact zJ (O () _ (by rw[v,p,J];rfl)) xb
def U8(m:List yv)(W:We m<=ze)(dp:Int)(M:0<=dp)(O:dp<=64)(fixed:Bool):zf 47 [.o 2 (ZE m),.i dp,.bool fixed] (.bool (Zg dp fixed m)):=by
 refine zo ir47 λKP Q j=>?_;have p:=YB m;have Z:=Y3 m;have X:=W;simp only[ze]at X;refine xa ?_;refine zc m 7 ZY (λC h _ H=>Zg dp fixed m=Zg dp fixed h) () xb rfl ?_ ?_
 ·rintro _ H K A g;have e:Zg dp fixed m=true:=A;refine xd p g ?_;exact xj j e
 ·rintro C x h _ H K I g Y A U;have v:=Y0 I;have G:=VJ C x h;rw[<-I]at G;obtain⟨s,f⟩:=x;simp only[bD]at G;have L:cD ⟨s,f⟩=[.str s,.o 6 (Ya f)]:=rfl;rw[L]at v;have z:Zg dp fixed m=(zI s&&YV dp fixed f&&Zg dp fixed h):=by rw[A];simp[Zg,Nz]
  refine xm p g v (XO s xi) ?_;cases y:zI s with
  | false =>refine xa ?_;exact xz j z y
  | true =>
   refine xm p g v (Mo f xi dp M O fixed) ?_;cases J:YV dp fixed f with
   | false =>refine xa ?_;exact j rfl (by simp[z,y,J])
   | true =>refine xq ?_;exact zJ (U () _ (by rw[z,y,J];rfl)) xb
def znv(c:Nat):Prop:=∀l:List zj,yR l<=c->yR l<=ze->∀dp:Int,0<=dp->dp<=17->zf 48 [.o 7 (Zp l),.i dp] (.bool (yF dp l))
def zln{c:Nat}(ae:znv c)(k:Int)(z G:B8)(args:List yU)(O:List yv)(I:B8)(y:List zj)(ah:yR y<=c)(af:bS (.mk k z G args O I y)<=ze)(dp:Int)(aa:0<=dp)(ai:dp<=16):
  zf 131 [.agg (cS (.mk k z G args O I y)),.i dp] (.bool (Zd dp (.mk k z G args O I y))):=by
 refine zo ir131 λKP Q h=>?_;have ag:=af;simp only[bS,ze]at ag;have L:=yI args;have M:=Z7 y;have Z:IntKind.wrap .i64 (dp+1)=dp+1:=wrap64 xg xg;have Y:=ae y ah xi (dp+1) xg xg;simp(disch:=omega) only[ir131,Zt,go_sem];refine za (U8 O xi dp aa xg false) ?_;cases j:Zg dp false O with
 | false =>refine xa ?_;exact h rfl (by simp[Zd,j])
 | true =>
  by_cases k0:k=0
  ·subst k0;refine xh (XO G xi) ?_;cases v:zI G with
   | false =>refine xa ?_;exact h rfl (by simp[Zd,j,v])
   | true =>
    by_cases f:z=[]
    case pos =>
     have U:(decide (z=[])||zI z)=true:=xr f
     subst f;have f:True:=trivial;by_cases g:I=[]
     case neg =>refine xd f g ?_;exact h rfl (by simp[Zd,j,v,g])
     refine xn f g (Mo args xi dp aa xg false) ?_;cases K:YV dp false args with
     | false =>refine xa ?_;exact h rfl (by simp[Zd,j,v,K])
     | true =>
      by_cases J:y.length=0
      ·have A:((y.length:Int)=0)=True:=eq_true xg;refine xd M A ?_;exact h rfl (by simp[Zd,j,v,K,g,J,U])
      ·have A:¬ ((y.length:Int)=0):=xg
       refine xm M A Z Y ?_;refine xa ?_;exact h rfl (by simp[Zd,j,v,K,g,J,U,yF])
    case neg =>
     refine xt f (XO z xi) ?_;cases ad:zI z with
     | false =>refine xa ?_;exact h rfl (by simp[Zd,j,v,f,ad])
     | true =>
      have U:(decide (z=[])||zI z)=true:=xr ad
      by_cases g:I=[]
      case neg =>refine xd f g ?_;exact h rfl (by simp[Zd,j,v,g])
      refine xn f g (Mo args xi dp aa xg false) ?_;cases K:YV dp false args with
      | false =>refine xa ?_;exact h rfl (by simp[Zd,j,v,K])
      | true =>
       by_cases J:y.length=0
       ·have A:((y.length:Int)=0)=True:=eq_true xg;refine xd M A ?_;exact h rfl (by simp[Zd,j,v,K,g,J,U])
       ·have A:¬ ((y.length:Int)=0):=xg
        refine xm M A Z Y ?_;refine xa ?_;exact h rfl (by simp[Zd,j,v,K,g,J,U,yF])
  by_cases ab:k=1
  ·subst ab;refine xh (XO G xi) ?_;cases v:zI G with
   | false =>refine xa ?_;exact h rfl (by simp[Zd,j,v])
   | true =>
    by_cases p:G=[111,110]
    ·subst p;refine xa ?_;exact h rfl (by simp[Zd,j])
    by_cases f:z=[]
    case neg =>refine xd p f ?_;exact h rfl (by simp[Zd,j,v,p,f])
    by_cases g:I=[]
    case neg =>refine xe p f g ?_;exact h rfl (by simp[Zd,j,v,p,f,g])
    by_cases C:args.length=0
    case neg =>
     have X:¬ ((args.length:Int)=0):=xg
     refine xp p f g L X ?_;exact h rfl (by simp[Zd,j,v,p,f,g,C])
    have X:((args.length:Int)=0)=True:=eq_true xg;by_cases J:y.length=0
    ·have A:((y.length:Int)=0)=True:=eq_true xg;refine xG p f g L X M A ?_;exact h rfl (by simp[Zd,j,v,p,f,g,C,J])
    ·have A:¬ ((y.length:Int)=0):=xg
     refine xG p f g L X M A ?_;exact h rfl (by simp[Zd,j,v,p,f,g,C,J])
  by_cases ac:k=2
  ·subst ac;by_cases p:G=[]
   case neg =>refine xc p ?_;exact h rfl (by simp[Zd,j,p])
   by_cases f:z=[]
   case neg =>refine xd p f ?_;exact h rfl (by simp[Zd,j,p,f])
   by_cases g:args.length=0
   case neg =>
    have W:¬ ((args.length:Int)=0):=xg
    refine xk p f L W ?_;exact h rfl (by simp[Zd,j,p,f,g])
   have W:((args.length:Int)=0)=True:=eq_true xg;by_cases C:I=[]
   ·refine xH p f L W C Z Y ?_;refine xa ?_;exact h rfl (by simp[Zd,j,p,f,g,C,yF])
   ·refine xU p f L W C (XO I xi) ?_;cases v:zI I with
    | false =>refine xa ?_;exact h rfl (by simp[Zd,j,p,f,g,C,v])
    | true =>refine xt Z Y ?_;refine xa ?_;exact h rfl (by simp[Zd,j,p,f,g,C,v,yF])
  ·refine xe k0 ab ac ?_;exact h rfl (by simp[Zd,j,k0,ab,ac])
def S7:∀c,znv c:=by
 intro c;induction c using Nat.strongRecOn with
 | _ c ag =>
 intro m aj ae dp ab ah;refine zo ir48 λKP Q v=>?_;have f:=Z7 m;have al:=YL m;have af:=ae;simp only[ze]at af;by_cases L:m.length=0
 ·have y:((m.length:Int)=0)=True:=eq_true xg;refine xd f y ?_;exact v rfl (by simp[yF,L])
 have y:¬ ((m.length:Int)=0):=xg
 by_cases G:dp<=16
 case neg =>have I:((16:Int)<dp)=True:=eq_true xg;refine xe f y I ?_;exact v rfl (by simp[yF,L,G])
 have I:¬ ((16:Int)<dp):=xg
 have O:yF dp m=Z8 dp m:=by simp[yF,L,G]
 refine xe f y I ?_;refine zc m 5 ZY (λM C _ H=>Z8 dp m=Z8 dp C) () xb rfl ?_ ?_
 ·rintro _ H aa K J;have e:yF dp m=true:=wz O K
  refine xd f J ?_;exact xj v e
 ·rintro M x C _ H aa W J ak K ac;have X:=YY W;have ad:=WM M x C;rw[<-W]at ad;have Z:Z8 dp m=(Zd dp x&&Z8 dp C):=by rw[K];simp[Z8]
  obtain⟨k,h,z,j,p,A,g⟩:=x;have ai:bS (.mk k h z j p A g)=1+h.length+z.length+A.length+ZC j+We p+yR g:=rfl;have U:=zln (ag (yR g) xg) k h z j p A g (ZG _) xi dp ab G;rw[Zt]at X U;refine xm f J X U ?_;cases Y:Zd dp (.mk k h z j p A g)with
  | false =>
   have e:yF dp m=false:=by rw[O,Z,Y];rfl
   exact vn v e
  | true =>refine xq ?_;exact zJ (ac () _ (by rw[Z,Y];rfl)) xb
def RD(has:Bool)(v:Val)(g:bV v<=ze):zf 50 [.bool has,.agg (cV v)] (.bool (Vb has v)):=by
 refine zo ir50 λKP Q f=>?_;cases has with
 | true =>refine xA ?_;refine za (zci v g 0 (by decide) (by decide) true) ?_;refine xa ?_;exact f rfl (by simp[Vb])
 | false =>refine xA ?_;refine za (Zk.low (r:=.bool (Th v zV)) (by have:=zce v g zV;simpa[AV.strip,TP,zeS,AV.strip1]using this)) ?_;refine xa ?_;exact f rfl (by simp[Vb])
def zq2{n:Nat}(h:n<18446744073709551616):IntKind.wrap .u64 (n:Int)=n:=by have e:IntKind.wrap .u64 (n:Int)=(n:Int) % 18446744073709551616:=rfl;rw[e];omega
def Xm(t:X4)(v:t.nm.length<=ze):zf 49 [.agg (YQ t)] (.bool (zD t)):=by
 refine zo ir49 λKP Q j=>?_;obtain⟨y,ls,ms⟩:=t;simp only at v;simp(disch:=omega) only[ir49,YQ,push_cast,go_sem_proc];refine za (XO y v) ?_;cases h:zI y with
 | false =>refine xX ?_;exact j rfl (by simp[zD,h])
 | true =>
  by_cases f:0<=ls
  case neg =>refine wv f ?_;exact j rfl (by simp[zD,h,f])
  by_cases g:ls<=4
  case neg =>refine xN f g ?_;exact j rfl (by simp[zD,h,f,g])
  by_cases p:0<=ms
  case neg =>refine wd f g p ?_;exact j rfl (by simp[zD,h,f,g,p])
  obtain⟨n,rfl⟩:∃n:Nat,ls=(n:Int):=⟨ls.toNat,by omega⟩;have G:=zq2 (n:=n) xg;have z:min n IntKind.i64.bits=n:=by show min n 64=n;omega
  have I:(2:Int) ^ n<=2 ^ 4:=by exact_mod_cast Nat.pow_le_pow_right (by decide) (by omega:n<=4)
  have J:(0:Int)<=2 ^ n:=by exact_mod_cast Nat.zero_le _
  have A:IntKind.wrap .i64 (2*2 ^ min n IntKind.i64.bits)=2 ^ (n+1):=by rw[z,wrap64 xg xg,Int.pow_succ,Int.mul_comm]
  have C:¬ ((n:Int)<0):=xg
  simp(disch:=omega) only[f,g,p,G,A,C,push_cast,go_sem_proc];exact j rfl (by simp[zD,h,f,g,p])
def isR(t:X4)(z:t.nm.length<=ze):zf 275 [.agg (YQ t)] (.bool (SK t)):=by
 refine zo ir275 λKP Q h=>?_;have v:=Xm t z;have hf:=@Wk t;obtain⟨A,ls,ms⟩:=t;simp only[YQ]at v;simp(disch:=first|omega|assumption) only[ir275,YQ,push_cast,go_sem_proc];refine za v ?_;cases f:zD ⟨A,ls,ms⟩with
 | false =>refine xX ?_;exact h rfl (by simp[SK,f])
 | true =>
  obtain⟨C,G,j,y⟩:=hf f;simp only at j y;have p:=and1 j (show ms<64 by omega);by_cases g:ms % 2=1
  ·refine xN p g ?_;exact h rfl (by simp[SK,f,MV,g])
  ·refine xN p g ?_;exact h rfl (by simp[SK,f,MV,g])
def znY(t:X4)(J:t.nm.length<=ze):zf 334 [.agg (YQ t)] (.tup [.agg (YQ ((ZH t).getD zTy)),.bool (ZH t).isSome]):=by
 refine zo ir334 λKP Q I=>?_;have y:=Xm t J;have hf:=@Wk t;obtain⟨g,ls,ms⟩:=t;simp only[YQ]at y;have fin:∀o,ZH ⟨g,ls,ms⟩=o->∀ρ H v,zx ρ H ir334.1.res=some v->(Yz v).strip=.tup [.agg (YQ (o.getD zTy)),.bool o.isSome]->Q .ret ρ H:=λo e ρ H v j p=>I j (by rw[p,e]);simp(disch:=first|omega|assumption) only[ir334,YQ,push_cast,go_sem_proc];refine zb λK L=>?_;refine xX ?_;refine za y ?_;cases h:zD ⟨g,ls,ms⟩with
 | false =>refine xX ?_;exact fin none (by simp[ZH,h]) _ _ [.agg [.str [],.int .i64 0,.int .i64 0],.bool false] wR rfl
 | true =>
  obtain⟨j,p,C,G⟩:=hf h;simp only at j p C G;by_cases f:ls=0
  ·refine wv f ?_;exact fin none (by simp[ZH,f]) _ _ [.agg [.str [],.i 0,.i 0],.bool false] wR rfl
  ·have z:IntKind.wrap .i64 (ls-1)=ls-1:=wrap64 xg xg;have A:ms.fdiv (2 ^ min 1 IntKind.i64.bits)=ms / 2:=by have:=zb0 ms 1 xg;simpa using this
   refine wd f z A ?_;exact fin (some ⟨g,ls-1,ms / 2⟩) (by simp[ZH,f,h]) _ _ [.agg [.str g,.i (ls-1),.i (ms / 2)],.bool true] wR rfl
def zeu(a b:X4)(J:a.nm.length<=ze)(K:b.nm.length<=ze):zf 277 [.agg (YQ a),.agg (YQ b)] (.bool (Xl a b)):=by
 have G:=Xm a J;have I:=Xm b K;obtain⟨v,j,p⟩:=a;obtain⟨C,A,bm⟩:=b;simp only[YQ]at G I ⊢;refine zo ir277 λKP Q f=>?_;refine xh G ?_;cases g:zD ⟨v,j,p⟩with
 | false =>refine xa ?_;exact f rfl (by simp[Xl,g])
 | true =>
  refine xh I ?_;cases y:zD ⟨C,A,bm⟩with
  | false =>refine xa ?_;exact f rfl (by simp[Xl,g,y])
  | true =>
   by_cases h:v=C
   case neg =>refine xc h ?_;exact f rfl (by simp[Xl,g,y,h])
   by_cases z:j=A
   case neg =>refine xd h z ?_;exact f rfl (by simp[Xl,g,y,h,z])
   subst h;subst z;have e:Xl ⟨v,j,p⟩ ⟨v,j,bm⟩=Mt bm p:=by simp[Xl,g,y]
   rw[e]at f;refine xa ?_;exact @f _ _ [.bool (Mt bm p)] rfl rfl
def zlY(t:X4)(y:t.nm.length<=ze):zf 276 [.agg (YQ t)] (.agg (YQ (Xp t))):=by
 have p:=Xm t y;obtain⟨g,ls,ms⟩:=t;simp only[YQ]at p ⊢;refine zo ir276 λKP Q j=>?_;simp(disch:=first|omega|assumption) only[ir276,push_cast,go_sem_proc];refine zb λz C=>?_;refine xX (zb λA v=>?_);have f:=ZB v;refine xN f (Ne.symm f) ?_;refine za p ?_;cases h:zD ⟨g,ls,ms⟩with
 | false =>refine xN f (Ne.symm f) ?_;exact @j _ _ [.agg [.str g,.int .i64 ls,.int .i64 ms]] (w6 f (Ne.symm f)) (by simp[Xp,h]<;>rfl)
 | true =>refine xN f (Ne.symm f) ?_;exact @j _ _ [.agg [.str g,.int .i64 ls,.int .i64 (IntKind.i64.wrap ((BitVec.ofInt IntKind.i64.bits ms &&& ~~~BitVec.ofInt IntKind.i64.bits 1).toNat:Int))]] (w6 f (Ne.symm f)) (by simp[Xp,h]<;>rfl)
def zeX(n:B8):zf 246 [.str n] (.bool (Zv n)):=by
 refine zo ir246 λKP Q j=>?_;by_cases f:n=[73,110,116]
 ·have p:=eq_true f;refine xc p ?_;exact j rfl (by simp[Zv,f])
 by_cases g:n=[83,116,114,105,110,103]
 ·have v:=eq_true g;refine xd f v ?_;exact j rfl (by simp[Zv,g])
 by_cases h:n=[66,111,111,108,101,97,110]
 ·have y:=eq_true h;refine xe f g y ?_;exact j rfl (by simp[Zv,h])
 refine xe f g h ?_;exact j rfl (by simp[Zv,f,g,h])
def QE(s:zg)(n:B8)(Y:s.defs.length<=ze):zf 254 [.agg (zk s),.str n] (.tup [.agg (cE ((zL s n).getD zE)),.bool (zL s n).isSome]):=by
 refine zo ir254 λKP Q g=>?_;obtain⟨f,q,m⟩:=s;have p:=YX f;simp only[ze]at Y;refine x8 (zb λU aa=>?_);refine wb (zeX n) ?_;cases K:Zv n
 case true =>
  have e:zL ⟨f,q,m⟩ n=some (scE n):=by simp[zL,K]
  rw[e]at g;refine x8 ?_;exact @g _ _ [.agg [.i 0,.str n,.sl .nil 1 [],.sl .nil 6 [],.sl .nil 1 [],.sl .nil 10 []],.bool true] xb rfl
 have e:zL ⟨f,q,m⟩ n=f.find? (Mg n):=by simp[zL,K]
 rw[e]at g;simp(disch:=first|omega|assumption) only[zk,p,go_sem];refine zc f 6 ZY (λW G ab H=>H U=some (.cells [.i 0,.str [],.sl .nil 1 [],.sl .nil 6 [],.sl .nil 1 [],.sl .nil 10 []])/\G.find? (Mg n)=f.find? (Mg n)) () xb ⟨upd_same ..,rfl⟩ ?_ ?_
 ·rintro _ H O ⟨h,y⟩ v;rw[<-y]at g;refine xe p v h ?_;exact @g _ _ [.agg [.i 0,.str [],.sl .nil 1 [],.sl .nil 6 [],.sl .nil 1 [],.sl .nil 10 []],.bool false] xb rfl
 ·rintro W x G _ H O Z v _ ⟨h,y⟩ X;have A:=Xc Z;obtain⟨k,C,J,I,M,L⟩:=x;rw[zS]at A;by_cases j:C=n
  ·have z:f.find? (Mg n)=some ⟨k,C,J,I,M,L⟩:=by rw[<-y];simp[Mg,j]
   rw[z]at g;have h':=eq_true j;refine xp p v A h h' ?_;exact @g _ _ [.agg (cE ⟨k,C,J,I,M,L⟩),.bool true] (by simp(disch:=first|omega|assumption) only[ir254,zx,yB,zS,go_sem]) rfl
  ·have z:G.find? (Mg n)=f.find? (Mg n):=by rw[<-y];simp[Mg,j]
   refine xp p v A h j ?_;exact zJ (X () _ ⟨h,z⟩) xf
def zjs(s:zg)(n:B8)(a b c:Int)(G:s.defs.length<=ze):zf 249 [.agg (zk s),.str n,.i a,.i b,.i c] (.bool (yA s n [a,b,c])):=by
 have hf:=QE s n G;have f:yA s n [a,b,c]=(zL s n).any λd=>decide (d.k=a)||(decide (d.k=b)||decide (d.k=c)):=by simp[yA,OO]
 generalize yA s n [a,b,c]=F at *
 obtain⟨y,q,m⟩:=s;simp only[zk]at hf ⊢;refine zo ir249 λKP Q C=>?_;have fin:∀r,F=r->∀ρ H,zx ρ H ir249.1.res=some [.bool r]->Q .ret ρ H:=λr e ρ H g=>C g (wa e);refine xh hf ?_;cases v:zL ⟨y,q,m⟩ n with
 | none =>rw[v]at f;refine we (zb λj p=>?_);refine x0 ?_;exact fin _ f _ _ rfl
 | some d =>
  rw[v]at f;obtain⟨k,K,J,I,M,L⟩:=d;simp only[Option.any_some]at f;by_cases g:k=a
  ·have z:=eq_true g;refine xD (zb λj p=>?_);refine wn z ?_;exact fin _ (x1 f g) _ _ rfl
  by_cases h:k=b
  ·have A:=eq_true h;refine xD (zb λj p=>?_);refine wB g A ?_;exact fin _ (x1 f h) _ _ rfl
  refine xD (zb λj p=>?_);refine wB g h ?_;exact fin (decide (k=c)) (by rw[f];simp[g,h]) _ _ rfl
def zgd(s:zg)(n:B8)(a b:Int):yA s n [a,b,b]=yA s n [a,b]:=by simp[yA,OO]
def Ka(s:zg)(n:B8)(a:Int):yA s n [a,a,a]=yA s n [a]:=by simp[yA,OO]
def zb9(s:zg)(n:B8)(g:s.defs.length<=ze):zf 139 [.agg (zk s),.str n] (.bool (Z0 s n)):=by have hf:=zjs s n 0 4 4 g;rw[zgd]at hf;obtain⟨h,q,m⟩:=s;simp only[zk]at hf;refine zo ir139 λKP Q f=>?_;refine wb hf ?_;refine xa ?_;exact f rfl (by simp[Z0])
def LZ(s:zg)(n:B8)(g:s.defs.length<=ze):zf 133 [.agg (zk s),.str n] (.bool (y9 s n)):=by have hf:=zjs s n 1 2 3 g;obtain⟨h,q,m⟩:=s;simp only[zk]at hf;refine zo ir133 λKP Q f=>?_;refine wb hf ?_;refine xa ?_;exact f rfl (by simp[y9])
def zi6(s:zg)(n:B8)(g:s.defs.length<=ze):zf 150 [.agg (zk s),.str n] (.bool (XW s n)):=by have hf:=zjs s n 0 4 5 g;obtain⟨h,q,m⟩:=s;simp only[zk]at hf;refine zo ir150 λKP Q f=>?_;refine wb hf ?_;refine xa ?_;exact f rfl (by simp[XW])
def zi8(s:zg)(n:B8)(g:s.defs.length<=ze):zf 120 [.agg (zk s),.str n] (.bool (yA s n [1])):=by have hf:=zjs s n 1 1 1 g;rw[Ka]at hf;obtain⟨h,q,m⟩:=s;simp only[zk]at hf;refine zo ir120 λKP Q f=>?_;refine wb hf ?_;exact vm f
def OI(s:zg)(typ g:B8)(ab:zA s<=ze):zf 138 [.agg (zk s),.str typ,.str g] (.tup [.agg (cL ((zG s typ g).getD zF)),.bool (zG s typ g).isSome]):=by
 have ad:=zR ab;have G:=LZ s typ ad;have hf:=QE s typ ad;have a1:=@Xh s typ;have a6:zA s<=1099511627776:=ab;obtain⟨af,ag,sm⟩:=s;generalize aw:(⟨af,ag,sm⟩:zg)=s at *
 have ax:zk s=[.o 6 (Vd af),.str ag,.str sm]:=xM aw
 rw[ax]at G hf ⊢;refine zo ir138 λKP Q av=>?_;have fin:∀o,zG s typ g=o->∀ρ H Z,zx ρ H ir138.1.res=some Z->(Yz Z).strip=.tup [.agg (cL (o.getD zF)),.bool o.isSome]->Q .ret ρ H:=λo e ρ H Z ar J=>av ar (by rw[J,e]);have ap:¬ (g=tnB/\y9 s typ=true)->zG s typ g=match zL s typ with|none=>none|some d=>if d.k=1∨d.k=2 then d.flds.find? (nmF g)else none:=λh=>by simp only[zG,h,if_false]<;>rfl
 have three:(g=tnB/\y9 s typ=true)∨(g=tnB/\y9 s typ=false)∨g≠tnB:=by cases y9 s typ<;>by_cases h:g=tnB<;>simp[h]
 rcases three with ⟨v,K⟩|J
 ·have I:(g=[95,95,116,121,112,101,110,97,109,101])=True:=eq_true v;rw[K]at G;refine xa (zb λO ac=>?_);refine xt I G ?_;refine xa ?_;exact fin (some tnF) (by simp[zG,v,K]) _ _ [.agg [.str g,.sl .nil 10 [],.str [83,116,114,105,110,103],.i 0,.i 1,.sl .nil 2 []],.bool true] xb (wa v)
 have j:=ap (by rcases J with ⟨_,h⟩|h<;>simp[h]);rcases J with ⟨v,K⟩|v
 case' inl =>have I:(g=[95,95,116,121,112,101,110,97,109,101])=True:=eq_true v;rw[K]at G;refine xa (zb λO ac=>?_);refine xt I G ?_;simp(disch:=first|omega|assumption) only[go_sem]
 case' inr =>have I:¬ g=[95,95,116,121,112,101,110,97,109,101]:=v;refine xa (zb λO ac=>?_);simp(disch:=first|omega|assumption) only[I,go_sem]
 all_goals
  refine za hf ?_;cases X:zL s typ with
  | none =>rw[X]at j;refine we (zb λU C=>?_);have f:=ZB C;refine wB f (Ne.symm f) ?_;exact fin none j _ _ [.agg [.str [],.sl .nil 10 [],.str [],.int .i64 0,.int .i64 0,.sl .nil 2 []],.bool false] (wi f (Ne.symm f)) rfl
  | some d =>
   rw[X]at j;have a2:=(a1 X).1;obtain⟨k,an,aq,y,a4,a3⟩:=d;simp only at j a2;have a5:=YH y;have W:=YM y;by_cases p:k=1∨k=2
   case neg =>rw[if_neg p]at j;have az:¬ k=1:=λh=>p (.inl h);have a0:¬ k=2:=λh=>p (.inr h);refine xD (zb λU C=>?_);have f:=ZB C;simp(disch:=first|omega|assumption) only[zS,f,Ne.symm f,az,a0,go_sem];exact fin none j _ _ [.agg [.str [],.sl .nil 10 [],.str [],.i 0,.i 0,.sl .nil 2 []],.bool false] (wi f (Ne.symm f)) rfl
   rw[if_pos p]at j;rcases p with p|p
   all_goals
    subst p;refine xD (zb λU C=>?_);have f:=ZB C;refine wB f (Ne.symm f) ?_;refine zc y 10 ZY (λao ae a7 H=>(∃r,H O=some (.cells [.str [],.sl .nil 10 [],.str [],.i 0,.i 0,.sl .nil 2 []])/\H U=some (.cells [r,.str an,.o 1 (cT aq),.o 6 (TK y),.o 1 (cT a4),.o 10 (Yg a3)]))/\ae.find? (nmF g)=y.find? (nmF g)) () xb ⟨⟨_,wi f (Ne.symm f),upd_same ..⟩,rfl⟩ ?_ ?_
    ·rintro _ H am ⟨⟨r,z,A⟩,M⟩ L;rw[<-M]at j;refine xk W L z A ?_;exact fin none j _ _ [.agg [.str [],.sl .nil 10 [],.str [],.i 0,.i 0,.sl .nil 2 []],.bool false] (wi f (Ne.symm f)) rfl
    ·rintro ao x ae _ H am ay L _ ⟨⟨r,z,A⟩,M⟩ au;have Y:=XS ay;obtain⟨aa,al,⟨ah,ai,aj⟩,ak⟩:=x;rw[YG]at Y;by_cases h:aa=g
     ·have h':=eq_true h;refine x4 W L Y z A h' f (Ne.symm f) ?_;exact fin (some ⟨aa,al,⟨ah,ai,aj⟩,ak⟩) (by rw[j,<-M];simp[nmF,h]) _ _ [.agg (cL ⟨aa,al,⟨ah,ai,aj⟩,ak⟩),.bool true] (by simp(disch:=first|omega|assumption) only[ir138,zx,yB,f,Ne.symm f,YG,go_sem]) rfl
     ·refine x4 W L Y z A h f (Ne.symm f) ?_;exact zJ (au () _ ⟨⟨r,z,A⟩,by rw[<-M];simp[nmF,h]⟩) xf
def zmQ(d:yX)(f:FuncId)(g:List AV)(r:Bool)(H:zd)(hf:Program.callable Tryz.prog f=true)(h:zZ f (.agg (cE d)::g) H (At (.bool r) H)):
  zZ 310 [.agg (cE d),.view [.clo f [] g]] H (At (.bool (!r)) H):=by
 obtain⟨k,y,v,p,A,z⟩:=d;rw[zS]at h ⊢;refine Xe ir310 λKP Q j=>?_;refine xa ?_;refine⟨hf,yM h ?_⟩;rintro _ _ ⟨_,rfl,rfl,rfl⟩;refine xV ?_;exact j _ _ _ _ _ nofun rfl (yT.refl _) ⟨rfl,rfl⟩
def QR(s:zg)(f:FuncId)(g:List AV)(p:yX->Bool)(H:zd)(z:s.defs.length<=ze)(hf:Program.callable Tryz.prog f=true)(v:∀d∈s.defs,zZ f (.agg (cE d)::g) H (At (.bool (p d)) H)):
  zZ 212 [.agg (zk s),.clo f [] g] H (At (.bool (s.defs.all p)) H):=by
 have h:=zlR cE (λ_=>rfl) s.defs 310 [.view [.clo f [] g]] (λd=>!p d) H z yw λd y=>zmQ d f g (p d) H hf (v d y);have e:(!s.defs.any λd=>!p d)=s.defs.all p:=by simp[List.all_eq_not_any_not]
 obtain⟨A,C,sm⟩:=s;simp only at h e;refine Xe ir212 λKP Q j=>?_;refine x8 (yM h ?_);rintro _ _ ⟨_,rfl,rfl,rfl⟩;refine xV ?_;exact j _ _ _ _ _ nofun rfl (yT.refl _) ⟨by rw[<-e];rfl,rfl⟩
def W8:B9->B9->Bool
 | _,[]=>true
 | a,x::r=>!zH x a&&W8 (a++[x]) r
def Z1(l:B9):Bool:=W8 [] l
def zft(l:B9)(J:l.length<=ze):zf 207 [.o 1 (cT l)] (.bool (Z1 l)):=by
 refine zo ir207 λKP Q p=>?_;have h:=zn l;simp only[ze]at J;refine xc h ?_;refine zc l 7 ZY (λf z _ H=>W8 f z=Z1 l) () xb rfl ?_ ?_
 ·rintro _ H A g j;refine xd h j ?_;exact p rfl (by simp[<-g,W8])
 ·rintro f x z _ H A v j _ g C;have I:=ZM v;have L:(cT l).take f.length=cT f:=by rw[v];simp[cT]
  have K:(f.length:Int)<=l.length:=xg
  have G:f.length<=ze:=xi
  simp only[W8]at g;refine xU h j I L K (Z4 f x G) ?_;cases y:zH x f with
  | true =>rw[y]at g;refine xa ?_;exact p rfl (wD g)
  | false =>rw[y]at g;refine xa ?_;exact zJ (C () _ (xy g)) xf
def zgf(s:B8):zf 306 [.str s] (.bool (List.isPrefixOf [95,95] s)):=by refine zo ir306 λKP Q f=>?_;refine xh (zaf s [95,95]) ?_;exact vm f
def WH(l:B9):Bool:=l.all λs=>!List.isPrefixOf [95,95] s
def zcy(l:B9)(g:l.length<=ze):zf 208 [.o 1 (cT l)] (.bool (WH l)):=by
 have h:=zdM (λs:B8=>AV.str s) l 306 [] (λs=>List.isPrefixOf [95,95] s) g yw λs _=>zgf s;have e:(!l.any λs=>List.isPrefixOf [95,95] s)=WH l:=by simp[WH,List.all_eq_not_any_not]
 refine zo ir208 λKP Q f=>?_;refine xh h ?_;refine xa ?_;exact f rfl (xM e)
def zkY{P:Program}{f:FuncId}{args:List AV}{r:AV}(h:Zk P f args r)(H:zd):zY P f args H (At r H) :=
 (h.use (K:=λg H'=>g=r/\H'=H) (KP:=λ_ _=>False) ⟨rfl,rfl⟩).mono λe H' j=>by
  cases e with
  | ret g=>exact⟨g,rfl,j.1,j.2⟩
  | pan g=>exact j.elim
def zmt(x:yX):zf 205 [.agg (cE x)] (.str x.nm):=by obtain⟨k,j,h,g,v,p⟩:=x;refine zo ir205 λKP Q f=>?_;refine x0 ?_;exact xo f
def zdk(l:List yX)(U:l.length<=ze):zf 204 [.o 6 (Vd l),.clo 205 [] []] (.o 1 (cT (l.map (·.nm)))):=by
 have p:=YX l;simp only[ze]at U;refine zo ir204 λKP Q L=>?_;refine xc p ?_;refine zc l 10 (λx:Own×B9=>[(5,.sl x.1 1 (cT x.2))]) (λf X x H'=>x.2=f.map (·.nm)/\zM H' x.1 f.length 1) (.nil,[]) xJ ⟨rfl,rfl⟩ ?_ ?_
 ·rintro⟨o1,a⟩ H' I ⟨h,j⟩ v;simp only at h;subst h;refine xd p v ?_;exact xo L
 ·rintro f x X ⟨o1,a⟩ H' I O v _ ⟨h,j⟩ K;have A:=Xc O;have y:=zmt x;simp only at h;subst h;have g:=zn (f.map (·.nm));rw[List.length_map]at g;replace j:zM H' o1 f.length 1:=j;obtain⟨k,z,aa,Z,ac,ab⟩:=x;rw[zS]at A y
  try simp only at y
  refine xe p v A ?_;refine zb λY M=>?_;refine xa ?_;refine⟨by kernel_rfl,za y ?_⟩;refine xa ?_;refine zp (by rw[g];exact j.upd M) ?_ ?_ λo' G W=>?_
  ·simp only[g,yg,yy];omega
  ·refine xR g ?_;omega
  have J:cT (f.map (·.nm))++[[AV.str z]]=cT (f.map (·.nm)++[z]):=vc
  have C:=W.own;simp only[g,yg,yy]at C;refine xB J ?_;exact zJ (K (o',f.map (·.nm)++[z]) G ⟨by simp,by simpa using C⟩) xb
def zlP(x:Yv):zf 215 [.agg (cL x)] (.str x.nm):=by obtain⟨g,h,⟨j,p,v⟩,ds⟩:=x;refine zo ir215 λKP Q f=>?_;simp(disch:=omega) only[ir215,YG,go_sem];exact xo f
def zeg(l:List Yv)(U:l.length<=ze):zf 214 [.o 6 (TK l),.clo 215 [] []] (.o 1 (cT (l.map (·.nm)))):=by
 have p:=YM l;simp only[ze]at U;refine zo ir214 λKP Q L=>?_;refine xc p ?_;refine zc l 10 (λx:Own×B9=>[(5,.sl x.1 1 (cT x.2))]) (λf X x H'=>x.2=f.map (·.nm)/\zM H' x.1 f.length 1) (.nil,[]) xJ ⟨rfl,rfl⟩ ?_ ?_
 ·rintro⟨o1,a⟩ H' I ⟨h,j⟩ v;simp only at h;subst h;refine xd p v ?_;exact xo L
 ·rintro f x X ⟨o1,a⟩ H' I O v _ ⟨h,j⟩ K;have A:=XS O;have y:=zlP x;simp only at h;subst h;have g:=zn (f.map (·.nm));rw[List.length_map]at g;replace j:zM H' o1 f.length 1:=j;obtain⟨z,Z,⟨aa,ab,ac⟩,ds⟩:=x;rw[YG]at A y
  try simp only at y
  refine xe p v A ?_;refine zb λY M=>?_;refine xa ?_;refine⟨by kernel_rfl,za y ?_⟩;refine xa ?_;refine zp (by rw[g];exact j.upd M) ?_ ?_ λo' G W=>?_
  ·simp only[g,yg,yy];omega
  ·refine xR g ?_;omega
  have J:cT (f.map (·.nm))++[[AV.str z]]=cT (f.map (·.nm)++[z]):=vc
  have C:=W.own;simp only[g,yg,yy]at C;refine xB J ?_;exact zJ (K (o',f.map (·.nm)++[z]) G ⟨by simp,by simpa using C⟩) xb
def zmR(x:z6):zf 217 [.agg (cW x)] (.str x.nm):=by obtain⟨j,⟨v,y,z⟩,g,⟨k,q,p,h,m⟩⟩:=x;refine zo ir217 λKP Q f=>?_;refine wH ?_;exact xo f
def Ml(l:List z6)(U:l.length<=ze):zf 216 [.o 10 (Yg l),.clo 217 [] []] (.o 1 (cT (l.map (·.nm)))):=by
 have p:=yJ l;simp only[ze]at U;refine zo ir216 λKP Q L=>?_;refine xc p ?_;refine zc l 10 (λx:Own×B9=>[(5,.sl x.1 1 (cT x.2))]) (λf X x H'=>x.2=f.map (·.nm)/\zM H' x.1 f.length 1) (.nil,[]) xJ ⟨rfl,rfl⟩ ?_ ?_
 ·rintro⟨o1,a⟩ H' I ⟨h,j⟩ v;simp only at h;subst h;refine xd p v ?_;exact xo L
 ·rintro f x X ⟨o1,a⟩ H' I O v _ ⟨h,j⟩ K;have A:=y6 O;have y:=zmR x;simp only at h;subst h;have g:=zn (f.map (·.nm));rw[List.length_map]at g;replace j:zM H' o1 f.length 1:=j;obtain⟨z,⟨ac,ad,ae⟩,Z,⟨k,q,ab,aa,m⟩⟩:=x;rw[zX]at A y
  try simp only at y
  refine xe p v A ?_;refine zb λY M=>?_;refine xa ?_;refine⟨by kernel_rfl,za y ?_⟩;refine xa ?_;refine zp (by rw[g];exact j.upd M) ?_ ?_ λo' G W=>?_
  ·simp only[g,yg,yy];omega
  ·refine xR g ?_;omega
  have J:cT (f.map (·.nm))++[[AV.str z]]=cT (f.map (·.nm)++[z]):=vc
  have C:=W.own;simp only[g,yg,yy]at C;refine xB J ?_;exact zJ (K (o',f.map (·.nm)++[z]) G ⟨by simp,by simpa using C⟩) xb
def zhd(s:zg)(p:z6)(h:s.defs.length<=ze):zf 311 [.agg (cW p),.view (zk s)] (.bool (!XW s p.t.nm)):=by have f:=zjH s p.t.nm h;obtain⟨v,⟨C,G,I⟩,j,⟨k,q,A,l,m⟩⟩:=p;obtain⟨y,z,sm⟩:=s;simp only[zk]at f ⊢;refine zo ir311 λKP Q g=>?_;refine wW f ?_;exact vm g
def X0(s:zg)(l:List z6):Bool:=l.all λf=>XW s f.t.nm
def not_any{α:Type}(p:α->Bool)(l:List α):(!l.any λx=>!p x)=l.all p:=by simp[List.all_eq_not_any_not]
def zdd(s:zg)(f:List z6)(p:s.defs.length<=ze)(v:f.length<=ze):zf 221 [.agg (zk s),.o 10 (Yg f)] (.bool (X0 s f)):=by have h:=zj4 cW V2 f 311 [.view (zk s)] (λg=>!XW s g.t.nm) v yw λg _=>zhd s g p;obtain⟨y,z,sm⟩:=s;simp only[zk]at h ⊢;refine zo ir221 λKP Q j=>?_;refine xh h ?_;refine xa ?_;exact j rfl (by rw[X0,<-not_any];rfl)
def zaM(s:zg)(f:Yv):Bool:=(!Z0 s f.t.nm&&!y9 s f.t.nm)||!X0 s f.ps
def zhY(s:zg)(f:Yv)(b:Nat)(H:zd)(g:H b=some (.cells (zk s)))(y:s.defs.length<=ze)(A:f.ps.length<=ze):zZ 222 [.agg (cL f),.ptr b 0] H (At (.bool (zaM s f)) H):=by
 have j:=zcv s f.t.nm y;have p:=MN s f.t.nm y;have h:=zdd s f.ps y A;obtain⟨J,C,⟨z,M,O⟩,ds⟩:=f;simp only at j p h;unfold zaM;simp only
 generalize Z0 s z=G,y9 s z=I,X0 s C=U at *
 obtain⟨K,L,sm⟩:=s;simp only[zk]at j p h g;refine Xe ir222 λKP Q v=>?_;simp(disch:=omega) only[ir222,YG,g,go_sem];refine za j ?_;cases G with
 | true =>refine xt g h ?_;refine xa ?_;exact v _ _ _ _ _ nofun rfl (yT.refl _) ⟨by simp ,rfl⟩
 | false =>
  refine xt g p ?_;cases I with
  | true =>refine xt g h ?_;refine xa ?_;exact v _ _ _ _ _ nofun rfl (yT.refl _) ⟨by simp ,rfl⟩
  | false =>refine xc g ?_;exact v _ _ _ _ _ nofun rfl (yT.refl _) ⟨by simp ,rfl⟩
def zar(s:zg)(d:yX):Bool:=X0 s d.ps&&!d.flds.any (zaM s)
def WK{f:Yv}:∀ {l:List Yv},f∈l->bL f<=NC l
 | x::l,g=>by
  rcases List.mem_cons.1 g with rfl|g
  ·simp only[NC,List.map_cons,List.sum_cons];omega
  ·have:=WK g;simp only[NC,List.map_cons,List.sum_cons]at this ⊢;omega
def zeJ{f:Yv}:f.ps.length<=bL f:=by have:=yr f.ps;simp only[bL];omega
def zlO(s:zg)(d:yX)(b:Nat)(H:zd)(f:H b=some (.cells (zk s)))(v:s.defs.length<=ze)(z:bE d<=ze):zZ 220 [.agg (cE d),.ptr b 0] H (At (.bool (zar s d)) H):=by
 have A:=z;simp only[bE,ze]at A;have J:=YH d.flds;have K:=yr d.ps;have g:=zdd s d.ps v xi;have h:=K5 cL (λ_=>rfl) d.flds 222 [.ptr b 0] (zaM s) H xi yw λj hf=>zhY s j b H f v (by have:=WK hf;have:=@zeJ j;refine xl ?_;omega);obtain⟨k,L,I,y,M,C⟩:=d;simp only at g h;unfold zar;simp only
 generalize X0 s C=G,y.any (zaM s)=W at *
 obtain⟨O,U,sm⟩:=s;simp only[zk]at g h f;refine Xe ir220 λKP Q p=>?_;refine wn f ?_;refine za g ?_;cases G with
 | false =>refine xc f ?_;exact p _ _ _ _ _ nofun rfl (yT.refl _) ⟨by simp ,rfl⟩
 | true =>refine xc f (yM h ?_);rintro _ _ ⟨_,rfl,rfl,rfl⟩;refine xV ?_;exact p _ _ _ _ _ nofun rfl (yT.refl _) ⟨by simp ,rfl⟩
def WT(s:zg):Bool:=s.defs.all (zar s)
def SQ{s:zg}{d:yX}(h:d∈s.defs)(f:zA s<=ze):bE d<=ze:=by have:=NV h;simp only[zA]at f;omega
def zoN(s:zg)(f:zA s<=ze):zf 109 [.agg (zk s)] (.bool (WT s)):=by
 have g:=zR f;have h:=λb H v=>QR s 220 [.ptr b 0] (zar s) H g yw λd y=>zlO s d b H v g (SQ y f);rw[WT];generalize s.defs.all (zar s)=G at *
 obtain⟨A,C,sm⟩:=s;simp only[zk]at h ⊢;refine zo ir109 λKP Q p=>?_;refine xa (zb λj z=>?_);refine xa (yM (h j _ (upd_same ..)) ?_);rintro _ _ ⟨_,rfl,rfl,rfl⟩;refine xV ?_;exact p rfl rfl
def ziG(s:zg)(n:B8)(b:Nat)(H:zd)(g:H b=some (.cells (zk s)))(j:s.defs.length<=ze):zZ 231 [.str n,.ptr b 0] H (At (.bool (!yA s n [1])) H):=by
 have f:=SO s n [1] j (by decide);generalize yA s n [1]=y at *
 obtain⟨p,v,sm⟩:=s;simp only[zk,List.map,cI]at f g;refine Xe ir231 λKP Q h=>?_;refine xt g (Zk.low f) ?_;refine xa ?_;exact h _ _ _ _ _ nofun rfl (yT.refl _) ⟨by simp ,rfl⟩
def O2(s:zg)(d:yX):Bool:=!decide (d.k=3)||!(d.parts.any λn=>!yA s n [1])
def zml(s:zg)(d:yX)(b:Nat)(H:zd)(f:H b=some (.cells (zk s)))(y:s.defs.length<=ze)(p:bE d<=ze):zZ 230 [.agg (cE d),.ptr b 0] H (At (.bool (O2 s d)) H):=by
 have v:=p;simp only[bE,ze]at v;have G:=ZN d.parts;have g:=PT (λn:B8=>AV.str n) d.parts 231 [.ptr b 0] (λn=>!yA s n [1]) H xi yw λn _=>ziG s n b H f y;obtain⟨k,I,C,A,z,J⟩:=d;simp only at g;unfold O2;simp only
 generalize (z.any λn=>!yA s n [1])=M at *
 obtain⟨K,L,sm⟩:=s;simp only[zk]at g f;refine Xe ir230 λKP Q j=>?_;by_cases h:k=3
 ·subst h;refine wn f (yM g ?_);rintro _ _ ⟨_,rfl,rfl,rfl⟩;refine xV ?_;exact j _ _ _ _ _ nofun rfl (yT.refl _) ⟨by simp ,rfl⟩
 ·refine wB f h ?_;exact j _ _ _ _ _ nofun rfl (yT.refl _) ⟨by simp[h],rfl⟩
def TF(s:zg):Bool:=s.defs.all (O2 s)
def zqp(s:zg)(f:zA s<=ze):zf 112 [.agg (zk s)] (.bool (TF s)):=by
 have g:=zR f;have h:=λb H v=>QR s 230 [.ptr b 0] (O2 s) H g yw λd y=>zml s d b H v g (SQ y f);rw[TF];generalize s.defs.all (O2 s)=G at *
 obtain⟨A,C,sm⟩:=s;simp only[zk]at h ⊢;refine zo ir112 λKP Q p=>?_;refine xa (zb λj z=>?_);refine xa (yM (h j _ (upd_same ..)) ?_);rintro _ _ ⟨_,rfl,rfl,rfl⟩;refine xV ?_;exact p rfl rfl
def RC(s:zg):Bool:=yA s s.q [1]&&(decide (s.m=[])||(!decide (s.m=s.q)&&yA s s.m [1]))
def zpc(s:zg)(z:zA s<=ze):zf 107 [.agg (zk s)] (.bool (RC s)):=by
 have v:=zR z;have j:=SO s s.q [1] v (by decide);have p:=SO s s.m [1] v (by decide);unfold RC;generalize yA s s.q [1]=G,yA s s.m [1]=J at *
 obtain⟨I,C,sm⟩:=s;simp only[zk,List.map,cI]at j p ⊢;refine zo ir107 λKP Q g=>?_;refine xh (Zk.low j) ?_;cases G with
 | false =>exact vm g
 | true =>
  by_cases f:sm=[]
  ·have A:=eq_true f;exact vo A g f
  ·by_cases h:sm=C
   ·have y:=eq_true h;exact vp f y g f y
   ·refine xn f h (Zk.low p) ?_;refine xa ?_;exact xz g f h
def XB(l:B9):Bool:=Z1 l&&WH l
def zdi(l:B9)(g:l.length<=ze):zf 211 [.o 1 (cT l)] (.bool (XB l)):=by
 have h:=zft l g;have j:=zcy l g;unfold XB;generalize Z1 l=p,WH l=v at *
 refine zo ir211 λKP Q f=>?_;refine xh h ?_;cases p with
 | false =>exact vm f
 | true =>refine xh j ?_;exact vm f
def zfW(f:Yv)(b:Nat)(H:zd)(j:H b=some (.cells [.clo 211 [] []]))(p:f.ps.length<=ze):zZ 219 [.agg (cL f),.ptr b 0] H (At (.bool (!XB (f.ps.map (·.nm)))) H):=by
 have g:=Ml f.ps p;have h:=zdi (f.ps.map (·.nm)) (xy p);obtain⟨z,y,⟨A,C,G⟩,ds⟩:=f;simp only at g h ⊢;generalize XB (y.map (·.nm))=I at *
 refine Xe ir219 λKP Q v=>?_;simp(disch:=omega) only[ir219,YG,j,go_sem];refine za g ?_;refine xc j ?_;refine⟨by kernel_rfl,za h ?_⟩;refine xa ?_;exact v _ _ _ _ _ nofun rfl (yT.refl _) ⟨by simp ,rfl⟩
def Qs(d:yX):Bool:=XB (d.flds.map (·.nm))&&(XB (d.ps.map (·.nm))&&(Z1 d.parts&&(Z1 d.faces&&!d.flds.any λf=>!XB (f.ps.map (·.nm)))))
def zjI(d:yX)(b:Nat)(H:zd)(f:H b=some (.cells [.clo 211 [] []]))(J:bE d<=ze):zZ 213 [.agg (cE d),.ptr b 0] H (At (.bool (Qs d)) H):=by
 have K:=J;simp only[bE,ze]at K;have Y:=YH d.flds;have Z:=yr d.ps;have aa:=ZN d.parts;have ab:=ZN d.faces;have p:=zeg d.flds xi;have v:=zdi (d.flds.map (·.nm)) (by simp only[List.length_map,ze];omega);have y:=Ml d.ps xi;have z:=zdi (d.ps.map (·.nm)) (by simp only[List.length_map,ze];omega);have A:=zft d.parts xi;have C:=zft d.faces xi;have G:=K5 cL (λ_=>rfl) d.flds 219 [.ptr b 0] (λg=>!XB (g.ps.map (·.nm))) H xi yw λg hf=>zfW g b H f (by have:=WK hf;have:=@zeJ g;refine xl ?_;omega);obtain⟨k,ac,I,j,M,L⟩:=d;simp only at p v y z A C G;unfold Qs;simp only
 generalize (j.any λg=>!XB (g.ps.map (·.nm)))=ad,XB (j.map (·.nm))=O,XB (L.map (·.nm))=U,Z1 M=W,Z1 I=X at *
 refine Xe ir213 λKP Q h=>?_;refine wn f ?_;refine za p ?_;refine xc f ?_;refine⟨by kernel_rfl,za v ?_⟩;cases O with
 | false =>refine xc f ?_;exact h _ _ _ _ _ nofun rfl (yT.refl _) ⟨by simp ,rfl⟩
 | true =>
 refine xt f y ?_;refine xc f ?_;refine⟨by kernel_rfl,za z ?_⟩;cases U with
 | false =>refine xc f ?_;exact h _ _ _ _ _ nofun rfl (yT.refl _) ⟨by simp ,rfl⟩
 | true =>
 refine xt f A ?_;cases W with
 | false =>refine xc f ?_;exact h _ _ _ _ _ nofun rfl (yT.refl _) ⟨by simp ,rfl⟩
 | true =>
 refine xt f C ?_;cases X with
 | false =>refine xc f ?_;exact h _ _ _ _ _ nofun rfl (yT.refl _) ⟨by simp ,rfl⟩
 | true =>
 refine xc f (yM G ?_);rintro _ _ ⟨_,rfl,rfl,rfl⟩;refine xV ?_;exact h _ _ _ _ _ nofun rfl (yT.refl _) ⟨by simp ,rfl⟩
def XN(s:zg):Bool:=s.defs.all Qs
def zkl(s:zg)(f:zA s<=ze):zf 108 [.agg (zk s)] (.bool (XN s)):=by
 have y:=zR f;have g:=λb H p=>QR s 213 [.ptr b 0] Qs H y yw λd v=>zjI d b H p (SQ v f);rw[XN];generalize s.defs.all Qs=G at *
 obtain⟨A,C,sm⟩:=s;simp only[zk]at g ⊢;refine zo ir108 λKP Q j=>?_;refine xa (zb λh z=>?_);refine xa (yM (g h _ (upd_same ..)) ?_);rintro _ _ ⟨_,rfl,rfl,rfl⟩;refine xV ?_;exact j rfl rfl
noncomputable def zbL(s:zg)(p:z6):Bool:=p.has&&!Zs s p.t p.d
def zmM(s:zg)(p:z6)(v:zA s<=ze)(h:bW p<=ze):zf 317 [.agg (cW p),.view (zk s)] (.bool (zbL s p)):=by
 have f:=OE s p.t p.d v (by simp only[bW]at h;omega) (by simp only[bW]at h;omega);obtain⟨G,⟨z,A,C⟩,j,⟨k,q,y,l,m⟩⟩:=p;unfold zbL;simp only at f ⊢;generalize Zs s ⟨z,A,C⟩ (.mk k q y l m)=K at *
 obtain⟨I,J,sm⟩:=s;simp only[zk,YQ,zC]at f ⊢;refine zo ir317 λKP Q g=>?_;cases j with
 | false =>refine wH ?_;exact xo g
 | true =>refine wW f ?_;exact vm g
noncomputable def US(s:zg)(l:List z6):Bool:=!l.any (zbL s)
def zcj(s:zg)(f:List z6)(p:zA s<=ze)(z:Wx f<=ze):zf 235 [.agg (zk s),.o 10 (Yg f)] (.bool (US s f)):=by
 have y:=yr f;have g:=zj4 cW V2 f 317 [.view (zk s)] (zbL s) xg yw λv h=>zmM s v p (by have:=YW h;omega);unfold US;generalize f.any (zbL s)=G at *
 obtain⟨A,C,sm⟩:=s;simp only[zk]at g ⊢;refine zo ir235 λKP Q j=>?_;refine xh g ?_;exact vm j
def zoj(s:zg)(p:z6)(b:Nat)(H:zd)(g:H b=some (.cells (zk s)))(v:s.defs.length<=ze):zZ 237 [.agg (cW p),.ptr b 0] H (At (.bool (p.has&&!Z0 s p.t.nm)) H):=by
 have f:=zcv s p.t.nm v;obtain⟨z,⟨y,I,J⟩,j,⟨k,q,G,l,m⟩⟩:=p;simp only at f ⊢;generalize Z0 s y=K at *
 obtain⟨A,C,sm⟩:=s;simp only[zk]at f g;refine Xe ir237 λKP Q h=>?_;cases j with
 | false =>simp(disch:=omega) only[ir237,zX,g,go_sem];exact h _ _ _ _ _ nofun rfl (yT.refl _) ⟨by simp ,rfl⟩
 | true =>simp(disch:=omega) only[ir237,zX,g,go_sem];refine za f ?_;refine xa ?_;exact h _ _ _ _ _ nofun rfl (yT.refl _) ⟨by simp ,rfl⟩
def zpm(s:zg)(f:Yv)(b:Nat)(H:zd)(h:H b=some (.cells (zk s)))(v:zA s<=ze)(p:Wx f.ps<=ze):zZ 238 [.agg (cL f),.ptr b 0] H (At (.bool (!US s f.ps)) H):=by
 have g:=zcj s f.ps v p;obtain⟨z,y,⟨G,I,J⟩,ds⟩:=f;simp only at g ⊢;generalize US s y=K at *
 obtain⟨A,C,sm⟩:=s;simp only[zk]at g h;refine Xe ir238 λKP Q j=>?_;simp(disch:=omega) only[ir238,YG,h,go_sem];refine za g ?_;refine xa ?_;exact j _ _ _ _ _ nofun rfl (yT.refl _) ⟨by simp ,rfl⟩
noncomputable def zbM(s:zg)(d:yX):Bool:=US s d.ps&&(!(d.ps.any λf=>f.has&&!Z0 s f.t.nm)&&!(d.flds.any λg=>!US s g.ps))
def N7{f:Yv}:Wx f.ps<=bL f:=by simp only[bL];omega
def zra(s:zg)(d:yX)(b:Nat)(H:zd)(h:H b=some (.cells (zk s)))(v:zA s<=ze)(G:bE d<=ze):zZ 234 [.agg (cE d),.ptr b 0] H (At (.bool (zbM s d)) H):=by
 have J:=zR v;have I:=G;simp only[bE,ze]at I;have O:=YH d.flds;have U:=yr d.ps;have j:=zcj s d.ps v xi;have y:=zmm cW V2 d.ps 237 [.ptr b 0] (λf=>f.has&&!Z0 s f.t.nm) H xi yw λf _=>zoj s f b H h J;have z:=K5 cL (λ_=>rfl) d.flds 238 [.ptr b 0] (λg=>!US s g.ps) H xi yw λg hf=>zpm s g b H h v (by have:=WK hf;have:=@N7 g;refine xl ?_;omega);obtain⟨k,W,M,C,X,A⟩:=d;simp only at j y z;unfold zbM;simp only
 generalize (C.any λg=>!US s g.ps)=aa,US s A=K,(A.any λf=>f.has&&!Z0 s f.t.nm)=L at *
 obtain⟨Y,Z,sm⟩:=s;simp only[zk]at j h;refine Xe ir234 λKP Q p=>?_;refine wn h ?_;refine za j ?_;cases K with
 | false =>refine xc h ?_;exact p _ _ _ _ _ nofun rfl (yT.refl _) ⟨by simp ,rfl⟩
 | true =>
 refine xc h (yM y ?_);rintro _ _ ⟨_,rfl,rfl,rfl⟩;cases L with
 | true =>refine xV ?_;exact p _ _ _ _ _ nofun rfl (yT.refl _) ⟨by simp ,rfl⟩
 | false =>
 refine xV (yM z ?_);rintro _ _ ⟨_,rfl,rfl,rfl⟩;refine xV ?_;exact p _ _ _ _ _ nofun rfl (yT.refl _) ⟨by simp ,rfl⟩
noncomputable def LF(s:zg):Bool:=s.defs.all (zbM s)
def zgR(s:zg)(f:zA s<=ze):zf 114 [.agg (zk s)] (.bool (LF s)):=by
 have y:=zR f;have g:=λb H p=>QR s 234 [.ptr b 0] (zbM s) H y yw λd v=>zra s d b H p f (SQ v f);rw[LF];generalize s.defs.all (zbM s)=G at *
 obtain⟨A,C,sm⟩:=s;simp only[zk]at g ⊢;refine zo ir114 λKP Q j=>?_;refine xa (zb λh z=>?_);refine xa (yM (g h _ (upd_same ..)) ?_);rintro _ _ ⟨_,rfl,rfl,rfl⟩;refine xV ?_;exact j rfl rfl
def zge(n:B8)(d:yX)(b:Nat)(H:zd)(g:H b=some (.cells (cE d)))(p:d.faces.length<=ze):zZ 226 [.str n,.ptr b 0] H (At (.bool (!zH n d.faces)) H):=by
 have f:=Z4 d.faces n p;obtain⟨k,y,h,v,A,z⟩:=d;simp only at f ⊢;rw[zS]at g;generalize zH n h=C at *
 refine Xe ir226 λKP Q j=>?_;refine xt g f ?_;refine xa ?_;exact j _ _ _ _ _ nofun rfl (yT.refl _) ⟨by simp ,rfl⟩
def Qn(s:zg)(d:yX)(n:B8):Bool:=match zL s n with
 | none=>true
 | some f=>!decide (f.k=2)||(decide (n=d.nm)||f.faces.any λm=>!zH m d.faces)
def zh0(s:zg)(d:yX)(n:B8)(b c:Nat)(H:zd)(U:H b=some (.cells (zk s)))(C:H c=some (.cells (cE d)))(W:zA s<=ze)(ae:bE d<=ze):zZ 224 [.str n,.ptr b 0,.ptr c 0] H (At (.bool (Qn s d n)) H):=by
 have K:=zR W;have j:=PS s n K;have ag:=@Xh s n;have am:zA s<=1099511627776:=W;have af:d.faces.length<=ze:=by have:=ZN d.faces;simp only[bE]at ae;omega
 have aa:=λ(l:B9) (z:zd) (K:l.length<=ze) (Z:z c=some (.cells (cE d)))=>PT (λn:B8=>AV.str n) l 226 [.ptr c 0] (λm=>!zH m d.faces) z K yw λm _=>zge m d c z Z af;have ac:cE d=[.i d.k,.str d.nm,.o 1 (cT d.faces),.o 6 (TK d.flds),.o 1 (cT d.parts),.o 10 (Yg d.ps)]:=rfl;have g:Qn s d n=match zL s n with|none=>true|some v=>!decide (v.k=2)||(decide (n=d.nm)||v.faces.any λm=>!zH m d.faces):=rfl
 have G:=C;rw[ac]at G;generalize Qn s d n=F at *
 obtain⟨X,Y,sm⟩:=s;generalize ab:(⟨X,Y,sm⟩:zg)=s at *
 have ad:zk s=[.o 6 (Vd X),.str Y,.str sm]:=xM ab
 rw[ad]at j U;refine Xe ir224 λKP Q O=>?_;have fin:∀r,F=r->∀ρ f,zx ρ f ir224.1.res=some [.bool r]->yT H f->Q .ret ρ f/\Q .normal ρ f:=λr e ρ f j M=>⟨O _ ρ f H _ nofun j M ⟨by rw[e];rfl,rfl⟩,O _ ρ f H _ nofun j M ⟨by rw[e];rfl,rfl⟩⟩;refine xt U j ?_;cases I:zL s n with
 | none =>rw[I]at g;refine we ?_;refine zb λL h=>?_;refine xa ?_;exact(fin true g _ _ rfl ((yT.refl _).upd h)).1
 | some v =>
  rw[I]at g;obtain⟨ah,ai,_,_⟩:=ag I;obtain⟨k,an,A,ak,ap,ao⟩:=v;simp only at g ah ai;have al:=ZN A;refine xD ?_;refine zb λL h=>?_;have p:c≠L:=nen2 C h;by_cases J:k=2
  case neg =>refine xc J ?_;exact(fin true (x1 g J) _ _ rfl ((yT.refl _).upd h)).1
  subst J;by_cases y:n=d.nm
  ·have aj:=eq_true y;refine xk G p (Ne.symm p) aj ?_;exact(fin true (x1 g y) _ _ rfl ((yT.refl _).upd h)).1
  refine xk G p (Ne.symm p) y ?_;refine yM (aa A _ xi (by rw[upd_ne p,C])) ?_;rintro _ _ ⟨_,rfl,rfl,rfl⟩;refine xV ?_;exact(fin (A.any λm=>!zH m d.faces) (x1 g y) _ _ rfl ((yT.refl _).upd h)).1
def Nb(s:zg)(d:yX):Bool:=!d.faces.any (Qn s d)
def zlE(s:zg)(d:yX)(b:Nat)(H:zd)(p:H b=some (.cells (zk s)))(I:zA s<=ze)(y:bE d<=ze):zZ 223 [.agg (cE d),.ptr b 0] H (At (.bool (Nb s d)) H):=by
 have G:d.faces.length<=ze:=by have:=ZN d.faces;simp only[bE]at y;omega
 have j:=λ(c:Nat) (f:zd) (A:f b=some (.cells (zk s))) (z:f c=some (.cells (cE d)))=>PT (λn:B8=>AV.str n) d.faces 224 [.ptr b 0,.ptr c 0] (Qn s d) f G yw λm _=>zh0 s d m b c f A z I y;unfold Nb;generalize d.faces.any (Qn s d)=U at *
 obtain⟨k,L,K,J,O,M⟩:=d;simp only[zS]at j ⊢;refine Xe ir223 λKP Q C=>?_;refine xa ?_;refine zb λh v=>?_;have g:b≠h:=nen2 p v;refine xd g (Ne.symm g) ?_;refine yM (j h _ (by rw[upd_ne g,p]) (upd_same ..)) ?_;rintro _ _ ⟨_,rfl,rfl,rfl⟩;refine xV ?_;exact C _ _ _ H _ nofun rfl ((yT.refl _).upd v) ⟨by simp ,rfl⟩
def Ty(s:zg):Bool:=s.defs.all (Nb s)
def zo7(s:zg)(f:zA s<=ze):zf 110 [.agg (zk s)] (.bool (Ty s)):=by
 have y:=zR f;have g:=λb H p=>QR s 223 [.ptr b 0] (Nb s) H y yw λd v=>zlE s d b H p f (SQ v f);rw[Ty];generalize s.defs.all (Nb s)=G at *
 obtain⟨A,C,sm⟩:=s;simp only[zk]at g ⊢;refine zo ir110 λKP Q j=>?_;refine xa (zb λh z=>?_);refine xa (yM (g h _ (upd_same ..)) ?_);rintro _ _ ⟨_,rfl,rfl,rfl⟩;refine xV ?_;exact j rfl rfl
def zcI(n:B8):∀(l:List yX) (a:B9),(l.foldl (Wv n) a).length<=a.length+l.length
 | [],a=>by simp
 | x::l,a=>by have:=zcI n l (Wv n a x);have:=NO n a x;simp only[List.foldl,yg];omega
def zbm(s:zg):∀(l:B9) (a:B9),(l.foldl (Vr s) a).length<=a.length+l.length
 | [],a=>by simp
 | x::l,a=>by have:=zbm s l (Vr s a x);have:=Lm s a x;simp only[List.foldl,yg];omega
def TS(s:zg)(n:B8):(Wn s n).length<=zA s+1:=by
 rw[MM];cases f:zL s n with
 | none=>simp
 | some d =>
  obtain⟨_,_,j,_⟩:=Xh f;have p:=ZN d.parts;have v:=VP s.defs;have y:bEs s.defs<=zA s:=by simp only[zA];omega
  have g:=zcI n s.defs [];have h:=zbm s d.parts [];simp only[yy]at g h;show (if d.k=1 then [n]else if d.k=2 then s.defs.foldl (Wv n) []else if d.k=3 then d.parts.foldl (Vr s) []else []).length<=_;split
  ·simp
  ·split
   ·omega
   ·split
    ·omega
    ·simp
def Q9(s:zg)(a b:X4):Bool:=if zD a=true/\Xl ⟨b.nm,a.lists,a.musts⟩ b=true then (if a.nm=b.nm then true else match zL s a.nm with
 | none=>false
 | some d=>(decide (d.k=1)&&zH a.nm (Wn s b.nm))||(decide (d.k=2)&&(yA s b.nm [2]&&zH b.nm d.faces)))else false
def zqC(s:zg)(a b:X4)(aj:zA s+1<=ze)(ai:a.nm.length<=ze)(X:b.nm.length<=ze):zf 314 [.agg (zk s),.agg (YQ a),.agg (YQ b)] (.bool (Q9 s a b)):=by
 have Z:=@zR s xg;have j:=V5 a ai;have A:=zed ⟨b.nm,a.lists,a.musts⟩ b X X;have C:=PS s a.nm Z;have aa:=@Xh s a.nm;have G:=zkb s b.nm xg;have W:=Z4 (Wn s b.nm) a.nm (by have:=TS s b.nm;omega);have I:=SO s b.nm [2] Z (by decide);have v:=λ(l:B9) (af:l.length<=ze)=>Z4 l b.nm af;have ax:zA s<=1099511627776:=by simp only[ze]at aj;omega
 have g:Q9 s a b=if zD a=true/\Xl ⟨b.nm,a.lists,a.musts⟩ b=true then (if a.nm=b.nm then true else match zL s a.nm with
  | none=>false
  | some d=>(decide (d.k=1)&&zH a.nm (Wn s b.nm))||(decide (d.k=2)&&(yA s b.nm [2]&&zH b.nm d.faces)))else false:=rfl
 generalize Q9 s a b=F at *
 obtain⟨p,O,U⟩:=a;obtain⟨h,ae,bm⟩:=b;simp only at j A C G W I v g aa;generalize zD ⟨p,O,U⟩=an,Xl ⟨h,O,U⟩ ⟨h,ae,bm⟩=ao,Wn s h=ap,yA s h [2]=aq at *
 obtain⟨ab,ac,sm⟩:=s;generalize ah:(⟨ab,ac,sm⟩:zg)=s at *
 have ak:zk s=[.o 6 (Vd ab),.str ac,.str sm]:=xM ah
 simp only[ak,YQ,List.map,cI]at j A C G I ⊢;refine zo ir314 λKP Q ag=>?_;have fin:∀r,F=r->∀ρ H,zx ρ H ir314.1.res=some [.bool r]->Q .ret ρ H:=λr e ρ H j=>ag j (wa e);refine xa (zb λar aw=>?_);refine xh j ?_;cases an with
 | false =>refine xa ?_;exact fin false (xv g) _ _ rfl
 | true =>
 refine xh A ?_;cases ao with
 | false =>refine xa ?_;exact fin false (xv g) _ _ rfl
 | true =>
 rw[if_pos ⟨rfl,rfl⟩]at g;by_cases y:p=h
 ·rw[if_pos y]at g;have am:=eq_true y;refine xc am ?_;exact fin true g _ _ rfl
 rw[if_neg y]at g;refine xt y C ?_;cases K:zL s p with
 | none =>rw[K]at g;refine we (zb λad J=>?_);have f:=ZB J;refine xd f (Ne.symm f) ?_;exact fin false g _ _ rfl
 | some d =>
  rw[K]at g;obtain⟨_,al,_,_⟩:=aa K;obtain⟨k,au,z,av,a0,az⟩:=d;simp only at g al;have ay:=ZN z;replace v:=v z xi;refine xD (zb λad J=>?_);have f:=ZB J;by_cases L:k=1
  ·subst L;refine xn f (Ne.symm f) G ?_;refine xn f (Ne.symm f) W ?_;cases Y:zH p ap with
   | true =>refine xd f (Ne.symm f) ?_;exact fin true (x1 g Y) _ _ rfl
   | false =>refine xd f (Ne.symm f) ?_;exact fin false (x1 g Y) _ _ rfl
  ·by_cases M:k=2
   ·subst M;refine xn f (Ne.symm f) (Zk.low I) ?_;cases aq with
    | false =>refine xd f (Ne.symm f) ?_;exact fin false (xv g) _ _ rfl
    | true =>refine xn f (Ne.symm f) v ?_;refine xa ?_;exact fin (zH h z) (xv g) _ _ rfl
   ·refine xk f (Ne.symm f) L M ?_;exact fin false (by rw[g];simp[L,M]) _ _ rfl
def zdG(a b:X4):Bool:=VV (YQ a) (YQ b)
def zaY(f:List z6)(p:z6):Bool:=match zB f p.nm with|none=>false|some q=>zdG q.t p.t
def zak(f:List z6)(q:z6):Bool:=(zB f q.nm).isSome||!QZ q
def Uc(f g:Yv):Bool:=g.ps.all (zaY f.ps)&&f.ps.all (zak g.ps)
def zob(f g:Yv)(hf:Wx f.ps<=ze)(am:Wx g.ps<=ze):zf 315 [.agg (cL f),.agg (cL g)] (.bool (Uc f g)):=by
 have C:Uc f g=(g.ps.all (zaY f.ps)&&f.ps.all (zak g.ps)):=rfl;generalize Uc f g=F at *
 obtain⟨bd,p,⟨a8,a9,ba⟩,bc⟩:=f;obtain⟨bj,y,⟨be,bf,bg⟩,bh⟩:=g;simp only at C hf am;have bp:=yr p;have bq:=yr y;have af:=yJ p;have ag:=yJ y;simp only[ze]at hf am;rw[YG,YG];refine zo ir315 λKP Q ar=>?_;have fin:∀r,F=r->∀ρ H,zx ρ H ir315.1.res=some [.bool r]->Q .ret ρ H:=λr e ρ H aq=>ar aq (wa e);refine xc ag ?_;refine zc y 16 ZY (λac O _ H=>O.all (zaY p)=y.all (zaY p)) () xb rfl ?_ ?_
 ·rintro _ H ab v A;refine xe af ag A ?_;refine zc p 41 ZY (λac O _ H=>O.all (zak y)=p.all (zak y)) () xb rfl ?_ ?_
  ·rintro _ H ab z A;refine xd af A ?_;exact fin true (by rw[C,<-v,<-z];rfl) _ _ rfl
  ·rintro ac x O _ H ab Z A _ z Y;have I:=y6 Z;have G:=Q2 y x.nm xi;have aj:=zoz x (by have:=@YW x p (xv Z);simp only[bW]at this;refine xl ?_;omega);rw[List.all_cons]at z;have j:zak y x=((zB y x.nm).isSome||!QZ x):=rfl;generalize QZ x=a0 at *
   obtain⟨ah,⟨U,W,X⟩,au,⟨a1,a4,a5,a2,a3⟩⟩:=x;rw[zX]at I aj;simp only at G j;refine xe af A I (zb λa6 bl=>?_);refine xh G ?_;cases J:zB y ah with
   | some ai =>rw[J]at j;rw[j]at z;obtain⟨ax,⟨K,L,M⟩,av,⟨pk,ay,az,pl,aw⟩⟩:=ai;refine x6 (zb λao ad=>?_);have h:=ZB ad;refine xd h (Ne.symm h) ?_;exact zJ (Y () _ (xy z)) xf
   | none =>
    rw[J]at j;rw[j]at z;refine x2 (zb λao ad=>?_);have h:=ZB ad;refine xn h (Ne.symm h) aj ?_;cases a0 with
    | true =>refine xa ?_;exact fin false (wY C z) _ _ rfl
    | false =>refine xa ?_;exact zJ (Y () _ (xy z)) xf
 ·rintro ac x O _ H ab Z A _ v Y;have I:=y6 Z;have G:=Q2 p x.nm xi;rw[List.all_cons]at v;have j:zaY p x=match zB p x.nm with|none=>false|some q=>zdG q.t x.t:=rfl
  obtain⟨ah,⟨U,W,X⟩,au,⟨a1,a4,a5,a2,a3⟩⟩:=x;rw[zX]at I;simp only at G j;refine xe ag A I (zb λa7 bn=>?_);refine xh G ?_;cases J:zB p ah with
  | none =>rw[J]at j;rw[j]at v;refine x2 (zb λap ae=>?_);have h:=ZB ae;refine xd h (Ne.symm h) ?_;exact fin false (wY C v) _ _ rfl
  | some ai =>
   rw[J]at j;simp only at j;rw[j]at v;obtain⟨ax,⟨K,L,M⟩,av,⟨pk,ay,az,pl,aw⟩⟩:=ai;simp only at v;refine x6 (zb λap ae=>?_);have h:=ZB ae;have ak:yj [K1.s,K1.i .i64,K1.i .i64] [.str K,.i L,.i M]=true:=by simp[yj,K1.fits]
   have al:yj [K1.s,K1.i .i64,K1.i .i64] [.str U,.i W,.i X]=true:=by simp[yj,K1.fits]
   have aa:VV [.str K,.i L,.i M] [.str U,.i W,.i X]=zdG ⟨K,L,M⟩ ⟨U,W,X⟩:=rfl;cases an:zdG ⟨K,L,M⟩ ⟨U,W,X⟩with
   | true =>rw[an]at v aa;refine xp h (Ne.symm h) ak al aa ?_;exact zJ (Y () _ (xy v)) xf
   | false =>rw[an]at v aa;refine xp h (Ne.symm h) ak al aa ?_;exact fin false (wY C v) _ _ rfl
def zqx(g f:Yv)(b:Nat)(H:zd)(h:H b=some (.cells (cL g))):zZ 313 [.agg (cL f),.ptr b 0] H (At (.bool (nmF g.nm f)) H):=by obtain⟨L,M,⟨G,I,J⟩,K⟩:=g;obtain⟨A,C,⟨p,v,y⟩,z⟩:=f;rw[YG]at h;refine Xe ir313 λKP Q j=>?_;simp(disch:=omega) only[ir313,YG,h,go_sem];exact j _ _ _ _ _ nofun rfl (yT.refl _) ⟨by simp[nmF],rfl⟩
def zjk(s:zg)(d:yX)(g:Yv):Bool:=match d.flds.find? (nmF g.nm)with
 | none=>false
 | some f=>Q9 s f.t g.t&&Uc f g
def LA(s:zg)(d:yX)(f:B8):Bool:=((zL s f).getD zE).flds.all (zjk s d)
def znr{f:Yv}:f.t.nm.length<=bL f:=by simp only[bL];omega
def zst(s:zg)(d:yX)(j:B8)(ah:zA s+1<=ze)(a6:bE d<=ze):zf 229 [.agg (zk s),.agg (cE d),.str j] (.bool (LA s d j)):=by
 have L:=@zR s xg;have v:=PS s j L;have a8:=@Xh s j;have ai:=λa b v az=>zqC s a b ah v az;have be:zA s+1<=1099511627776:=by simpa only[ze]using ah
 have J:∀x,(zL s j).getD zE=x->NC x.flds<=zA s:=by
  intro x G;cases I:zL s j with
  | none=>rw[I]at G;subst G;simp[zE,NC]
  | some bz=>rw[I]at G;subst G;exact(a8 I).1
 have y:LA s d j=((zL s j).getD zE).flds.all (zjk s d):=rfl;have Z:∀f,zjk s d f=match d.flds.find? (nmF f.nm)with|none=>false|some g=>Q9 s g.t f.t&&Uc g f:=λ_=>rfl
 have ag:=λ(f:Yv) (b:Nat) (H:zd) (a3:H b=some (.cells (cL f))) (L:d.flds.length<=ze)=>zmS cL (λ_=>rfl) d.flds 313 [.ptr b 0] (nmF f.nm) H L yw λg _=>zqx f g b H a3;generalize LA s d j=F,(zL s j).isSome=ba,(zL s j).getD zE=x at *
 replace J:=J x rfl;obtain⟨bu,bv,br,A,bx,bw⟩:=x;obtain⟨aq,ar,ap,p,aw,av⟩:=d;simp only[bE,ze]at a6;simp only at J y Z ag;have bq:=YH A;have bf:=YH p;have O:=YM A;have aj:=YM p;generalize zjk s ⟨aq,ar,ap,p,aw,av⟩=U at *
 obtain⟨al,am,sm⟩:=s;generalize a2:(⟨al,am,sm⟩:zg)=s at *
 have a5:zk s=[.o 6 (Vd al),.str am,.str sm]:=xM a2
 simp only[a5,zS]at v ai ⊢;refine zo ir229 λKP Q a1=>?_;have fin:∀r,F=r->∀ρ H,zx ρ H ir229.1.res=some [.bool r]->Q .ret ρ H:=λr e ρ H v=>a1 v (wa e);refine xh v ?_;refine xa ?_;refine zb λa9 bd=>?_;refine xc O ?_;refine zc A 21 ZY (λau ak _ H=>ak.all U=A.all U) () xb rfl ?_ ?_
 ·rintro _ H an h M;refine xd O M ?_;exact fin true (wK y h) _ _ rfl
 ·rintro au f ak _ H an ae M _ h a0;have af:=XS ae;have bp:=@WK f A (xv ae);have bl:=@N7 f;have bn:=@znr f;have a7:=Z f;have hid:=ag f;rw[List.all_cons,a7]at h;have C:∀f:Yv,cL f=[.str f.nm,.o 10 (Yg f.ps),.str f.t.nm,.i f.t.lists,.i f.t.musts,.o 2 (ZE f.dirs)]:=λ_=>rfl;have a4:=C f;rw[a4]at af;refine xe O M af ?_;refine zb λao bc=>?_;refine xa ?_;refine yM (hid ao _ (by rw[upd_same];rfl) xi) ?_;rintro _ _ ⟨_,rfl,rfl,rfl⟩;rcases VB (nmF f.nm) p 0 with ⟨a,g,r,z,W,ax,ay⟩|⟨z,W⟩
  ·rw[ay,Int.zero_add];rw[ax]at h;simp only at h;have K:=XS z;have bj:=@WK g p (xv z);have bg:=@N7 g;have bh:=@znr g;have X:(a.length:Int)<p.length:=by rw[z,ZX,yg];omega
   have Y:¬ ((a.length:Int)<0):=xg
   have aa:=ai g.t f.t xi xi;have ab:=zob g f xi xi;rw[C g]at K;simp only[YQ]at aa;rw[C g,C f]at ab;simp(disch:=omega) only[Xd,K,aj,X,Y,go_sem];refine za aa ?_;cases ac:Q9 s g.t f.t with
   | false =>rw[ac]at h;refine xa ?_;exact fin false (wY y h) _ _ rfl
   | true =>
    rw[ac]at h;refine xE K aj X Y ab ?_;cases ad:Uc g f with
    | false =>rw[ad]at h;refine xa ?_;exact fin false (wY y h) _ _ rfl
    | true =>rw[ad]at h;refine xa ?_;exact zJ (a0 () _ (xy h)) xf
  ·rw[W];rw[z]at h;refine xV ?_;exact fin false (wY y h) _ _ rfl
def zlB(s:zg)(d:yX)(n:B8)(b:Nat)(H:zd)(g:H b=some (.cells (zk s)))(p:zA s+1<=ze)(j:bE d<=ze):zZ 228 [.str n,.ptr b 0,.view (cE d)] H (At (.bool (!LA s d n)) H):=by
 have f:=zst s d n p j;generalize LA s d n=K at *
 obtain⟨z,A,y,v,G,C⟩:=d;obtain⟨I,J,sm⟩:=s;simp only[zk,zS]at f g ⊢;refine Xe ir228 λKP Q h=>?_;refine xt g f ?_;refine xa ?_;exact h _ _ _ _ _ nofun rfl (yT.refl _) ⟨by simp ,rfl⟩
def KH(s:zg)(d:yX):Bool:=!d.faces.any λn=>!LA s d n
def zoJ(s:zg)(d:yX)(b:Nat)(H:zd)(j:H b=some (.cells (zk s)))(v:zA s+1<=ze)(g:bE d<=ze):zZ 227 [.agg (cE d),.ptr b 0] H (At (.bool (KH s d)) H):=by
 have p:d.faces.length<=ze:=by have:=ZN d.faces;simp only[bE]at g;omega
 have f:=PT (λn:B8=>AV.str n) d.faces 228 [.ptr b 0,.view (cE d)] (λn=>!LA s d n) H p yw λm _=>zlB s d m b H j v g;unfold KH;generalize (d.faces.any λn=>!LA s d n)=I at *
 obtain⟨k,A,z,y,G,C⟩:=d;simp only[zS]at f ⊢;refine Xe ir227 λKP Q h=>?_;refine xa (yM f ?_);rintro _ _ ⟨_,rfl,rfl,rfl⟩;refine xV ?_;exact h _ _ _ _ _ nofun rfl (yT.refl _) ⟨by simp ,rfl⟩
def Pc(s:zg):Bool:=s.defs.all (KH s)
def zpe(s:zg)(j:zA s+1<=ze):zf 111 [.agg (zk s)] (.bool (Pc s)):=by
 have y:=@zR s xg;have f:=λb H p=>QR s 227 [.ptr b 0] (KH s) H y yw λd v=>zoJ s d b H p j (SQ v xg);rw[Pc];generalize s.defs.all (KH s)=G at *
 obtain⟨A,C,sm⟩:=s;simp only[zk]at f ⊢;refine zo ir111 λKP Q h=>?_;refine xa (zb λg z=>?_);refine xa (yM (f g _ (upd_same ..)) ?_);rintro _ _ ⟨_,rfl,rfl,rfl⟩;refine xV ?_;exact h rfl rfl
def ME{H H':zd}{o:Own}{n sz:Nat}(h:zM H o n sz)(f:Kept H .nil H'):zM H' o n sz:=by
 cases o with
 | no=>exact h
 | nil=>exact h
 | full=>exact h
 | tip b d=>exact f b _ h λg e=>by cases e
def XM(s:zg)(l:B9)(p:z6):B9:=if p.t.lists=0/\SK p.t=true/\yA s p.t.nm [5]=true/\zH p.t.nm l=false then l++[p.t.nm]else l
def Yo(s:zg)(n:B8):B9:=((zL s n).getD zE).ps.foldl (XM s) []
def zbQ(s:zg)(l:B9)(p:z6):(XM s l p).length<=l.length+1:=by unfold XM;split<;>simp
def zpS(s:zg)(n:B8)(H:zd)(ag:zA s<=ze):YR Tryz.prog 316 [.agg (zk s),.str n] H .nil 1 (cT (Yo s n)):=by
 have af:=zR ag;have Y:=PS s n af;have ay:=@Xh s n;have ae:=λg=>SO s g [5] af (by decide);have be:zA s<=1099511627776:=by simpa only[ze]using ag
 have O:∀x,(zL s n).getD zE=x->Wx x.ps<=zA s:=by
  intro x I;cases y:zL s n with
  | none=>rw[y]at I;subst I;simp[zE,Wx]
  | some bn=>rw[y]at I;subst I;exact(ay y).2.2.2
 have J:Yo s n=((zL s n).getD zE).ps.foldl (XM s) []:=rfl;generalize Yo s n=F,(zL s n).isSome=bc,(zL s n).getD zE=x at *
 replace O:=O x rfl;obtain⟨al,bj,bh,bg,bl,v⟩:=x;simp only at O J;have bf:=yr v;have U:=yJ v;obtain⟨ai,aj,sm⟩:=s;generalize ar:(⟨ai,aj,sm⟩:zg)=s at *
 have aw:zk s=[.o 6 (Vd ai),.str aj,.str sm]:=xM ar
 simp only[aw,zS,List.map,cI]at Y ae ⊢;refine Xt ir316 λKP Q aq bd=>?_;refine xh Y ?_;refine xa (zb λa9 au=>?_);refine xc U ?_;refine zc v 19 (λx:Own×B9=>[(7,.sl x.1 1 (cT x.2))]) (λao W x H'=>W.foldl (XM s) x.2=v.foldl (XM s) []/\x.2.length+W.length<=v.length/\zQ H .nil H' x.1 x.2.length 1) (.nil,[]) xJ ⟨rfl,by simp,(zQ.refl (o:=.nil) (n:=0) rfl).upd au⟩ ?_ ?_
 ·rintro⟨o1,a⟩ H' an ⟨f,_,A⟩ M;simp only[List.foldl]at f;refine xd U M ?_;refine aq _ _ H' H' [.sl o1 1 (cT a)] nofun xb (yT.refl _) ⟨o1,by rw[J,<-f];rfl,by rw[J,<-f,zn];exact A⟩
 ·rintro ao g W ⟨o1,a⟩ H' an ab M _ ⟨f,az,A⟩ z;have ac:=y6 ab;have a0:=@YW g v (xv ab);simp only[bW]at a0;replace A:zQ H .nil H' o1 a.length 1:=A;simp only[List.foldl,yg]at f az;have L:=isC g.t xi;have aa:=ae g.t.nm;have Z:=Z4 a g.t.nm xi;have C:=zbQ s a g;have h:XM s a g=if g.t.lists=0/\SK g.t=true/\yA s g.t.nm [5]=true/\zH g.t.nm a=false then a++[g.t.nm]else a:=rfl
  obtain⟨a2,⟨p,X,ak⟩,ax,⟨al,a5,a6,a3,a4⟩⟩:=g;rw[zX]at ac;simp only at L aa Z h;simp only[YQ]at L;generalize SK ⟨p,X,ak⟩=a7,yA s p [5]=a8 at *
  have G:=zn a;refine xe U M ac (zb λba av=>?_);have j:=A.upd (x:=.cells (cW ⟨a2,⟨p,X,ak⟩,ax,.mk al a5 a6 a3 a4⟩)) av;rw[zX]at j;by_cases K:X=0
  case neg =>rw[if_neg (λy=>K y.1)]at h;rw[h]at f C;refine xc K ?_;exact zJ (z (o1,a) _ ⟨f,by simp only;omega,j⟩) xf
  subst K;refine xh L ?_;cases a7 with
  | false =>rw[if_neg xw]at h;rw[h]at f C;refine xa ?_;exact zJ (z (o1,a) _ ⟨f,by simp only;omega,j⟩) xf
  | true =>
  refine xh (Zk.low aa) ?_;cases a8 with
  | false =>rw[if_neg xw]at h;rw[h]at f C;refine xa ?_;exact zJ (z (o1,a) _ ⟨f,by simp only;omega,j⟩) xf
  | true =>
  refine xh (Zk.low Z) ?_;cases ad:zH p a with
  | true =>rw[if_neg (xr ad)]at h;rw[h]at f C;refine xa ?_;exact zJ (z (o1,a) _ ⟨f,by simp only;omega,j⟩) xf
  | false =>
   rw[if_pos ⟨rfl,rfl,rfl,ad⟩]at h;rw[h]at f C;refine xa (zp (by rw[G];exact j.own) ?_ ?_ λo' am a1=>?_)
   ·simp only[G,yg,yy];omega
   ·refine xR G ?_;omega
   have ap:cT a++[[AV.str p]]=cT (a++[p]):=vc
   have ah:=j.trans a1;simp only[G,yg,yy]at ah;refine xB ap ?_;exact zJ (z (o',a++[p]) am ⟨f,by refine wm ?_;omega,by simpa using ah⟩) xb
def OkL(s:zg)(l:B9):Prop:=l.Nodup/\∀x∈l,x∈s.defs.map (·.nm)
def LU{s:zg}{n:B8}(h:yA s n [5]=true):n∈s.defs.map (·.nm):=by
 unfold yA at h;cases hf:zL s n with
 | none=>rw[hf]at h;cases h
 | some d =>
  rw[hf]at h;have j:d.k=5:=by simpa[OO]using h
  unfold zL at hf;split at hf
  ·cases hf;simp[scE]at j
  ·have g:=List.mem_of_find?_eq_some hf;have f:=List.find?_some hf;simp only[Mg,Zh]at f;exact List.mem_map.2 ⟨d,g,f⟩
def zeU{s:zg}{l:B9}{x:B8}(h:OkL s l)(j:zH x l=false)(v:x∈s.defs.map (·.nm)):OkL s (l++[x]):=by
 have y:x ∉ l:=λh=>by rw[(Zm x l).2 h]at j;cases j
 refine⟨List.nodup_append.2 ⟨h.1,by simp,λa p b g e=>?_⟩,λA z=>?_⟩
 ·simp only[List.mem_singleton]at g;subst g;subst e;exact y p
 ·rcases List.mem_append.1 z with f|f
  ·exact h.2 A f
  ·simp only[List.mem_singleton]at f;subst f;exact v
def zcw{s:zg}{l:B9}(p:z6)(h:OkL s l):OkL s (XM s l p):=by
 unfold XM;split
 ·rename_i f;exact zeU h f.2.2.2 (LU f.2.2.1)
 ·exact h
def Nh{s:zg}:∀(f:List z6) {l:B9},OkL s l->OkL s (f.foldl (XM s) l)
 | [],_,h=>h
 | p::f,_,h=>Nh f (zcw p h)
def R2(s:zg)(n:B8):OkL s (Yo s n):=Nh _ ⟨List.nodup_nil,by simp⟩
def zkW{s:zg}{l:B9}{x:B8}(h:OkL s l)(g:x∈s.defs.map (·.nm)):OkL s (Yp l x):=by
 unfold Yp;split
 ·exact h
 ·rename_i f;exact zeU h (xy f) g
def zam{s:zg}{l:B9}(h:OkL s l):l.length<=s.defs.length:=by have:=List.Nodup.length_le_of_subset h.1 (λx f=>h.2 x f);simpa using this
def P2(s:zg)(n:B8):Nat->B9->Nat->Bool
 | 0,_,_=>false
 | k+1,l,i=>match l[i]? with
  | none=>false
  | some x=>if x=n then true else P2 s n k ((Yo s x).foldl Yp l) (i+1)
def NX(s:zg)(n:B8):Bool:=P2 s n (s.defs.length+1) (Yo s n) 0
def zoD(s:zg)(n:B8)(W:zA s<=ze):zf 233 [.agg (zk s),.str n] (.bool (NX s n)):=by
 have a2:=zR W;have ba:zA s<=1099511627776:=by simpa only[ze]using W
 have bc:s.defs.length<=1099511627776:=by simpa only[ze]using a2
 have L:=λx H=>zpS s x H W;have U:=R2 s;have ao:NX s n=P2 s n (s.defs.length+1) (Yo s n) 0:=rfl;generalize NX s n=F at *
 obtain⟨ah,ai,sm⟩:=s;generalize aw:(⟨ah,ai,sm⟩:zg)=s at *
 have ay:zk s=[.o 6 (Vd ah),.str ai,.str sm]:=xM aw
 simp only[ay]at L ⊢;refine zo ir233 λKP Q av=>?_;have fin:∀r,F=r->∀ρ H,zx ρ H ir233.1.res=some [.bool r]->Q .ret ρ H:=λr e ρ H ar=>av ar (wa e);refine xa (zu (L n _) λo0 H0 ad=>?_);rw[zn]at ad;refine xa ?_;refine ZZ (λx:Own×B9×Nat=>[(5,.sl x.1 1 (cT x.2.1)),(6,.i x.2.2)]) (λx H'=>zM H' x.1 x.2.1.length 1/\OkL s x.2.1/\x.2.2<=s.defs.length/\P2 s n (s.defs.length+1-x.2.2) x.2.1 x.2.2=F) (λx=>s.defs.length+1-x.2.2) (o0,Yo s n,0) xb ⟨ad.own,U n,Nat.zero_le _,ao.symm⟩ ?_;rintro⟨o,l,i⟩ ak a9 ⟨ho,M,hi,h⟩ au;replace ho:zM ak o l.length 1:=ho;simp only at M hi h;have hlen:=zam M;have X:=zn l;have aq:s.defs.length+1-i=(s.defs.length-i)+1:=xg
 rw[aq]at h;by_cases bd:i<l.length
 case neg =>
  have az:l[i]?=none:=List.getElem?_eq_none xg;have C:¬ ((i:Int)<l.length):=xg
  simp only[P2,az]at h;refine xd X C ?_;exact fin false h.symm _ _ rfl
 obtain⟨a,x,r,ac,ax⟩:∃a x r,l=a++x::r/\a.length=i:=⟨l.take i,l[i],l.drop (i+1),by rw[List.getElem_cons_drop,List.take_append_drop],by rw[List.length_take];omega⟩;subst ax;have a0:l[a.length]?=some x:=xv ac
 have aa:(cT l).getD a.length []=[.str x]:=ZM ac;have C:(a.length:Int)<l.length:=xg
 simp only[P2,a0]at h;by_cases G:x=n
 ·rw[if_pos G]at h;have a5:=eq_true G;refine xk X C aa a5 ?_;exact fin true h.symm _ _ rfl
 rw[if_neg G]at h;refine xk X C aa G (zu (L x _) λo2 a8 ae=>?_);have I:=zn (Yo s x);rw[I]at ae;have a3:=ME ho ae.kept;have a6:=(U x).2;have bf:=zam (U x);generalize Yo s x=aj at *
 refine xc I ?_;refine zc aj 31 (λf:Own×B9=>[(5,.sl f.1 1 (cT f.2))]) (λan ag f H'=>zM H' f.1 f.2.length 1/\OkL s f.2/\ag.foldl Yp f.2=aj.foldl Yp l) (o,l) xb ⟨a3,M,rfl⟩ ?_ ?_
 ·rintro⟨K,g⟩ y am ⟨p,v,j⟩ O;simp only[List.foldl]at j;rw[<-j]at h;simp only at v;refine xd I O ?_;exact zJ (au (K,g,a.length+1) y wP ⟨p,v,by simp only;omega,by simp only;rw[<-h];congr 1;omega⟩) (by refine xq ?_;simp)
 ·rintro an f ag ⟨K,g⟩ y am Z O _ ⟨p,v,j⟩ Y;have a1:=ZM Z;have a7:=a6 f (xv Z);replace p:zM y K g.length 1:=p;simp only[List.foldl]at v j;have be:=zam v;have J:=zn g;have z:=zkW v a7;have A:Yp g f=if zH f g=true then g else g++[f]:=rfl
  refine xm I O a1 (Zk.low (Z4 g f xi)) ?_;cases ab:zH f g with
  | true =>rw[if_pos ab]at A;rw[A]at j z;refine xa ?_;exact zJ (Y (K,g) y ⟨p,z,j⟩) xf
  | false =>
   rw[if_neg (xr ab)]at A;rw[A]at j z;refine xa (zp (wz J p) ?_ ?_ λo' al a4=>?_)
   ·simp only[J,yg,yy];omega
   ·refine xR J ?_;omega
   have ap:cT g++[[AV.str f]]=cT (g++[f]):=vc
   have af:=a4.own;simp only[J,yg,yy]at af;refine xB ap ?_;exact zJ (Y (o',g++[f]) al ⟨by simpa using af,z,j⟩) xb
def LM(s:zg)(d:yX):Bool:=!decide (d.k=5)||!NX s d.nm
def zp8(s:zg)(d:yX)(j:zA s<=ze):zf 232 [.agg (cE d),.view (zk s)] (.bool (LM s d)):=by
 have g:=zoD s d.nm j;unfold LM;generalize NX s d.nm=I at *
 obtain⟨k,y,v,p,A,z⟩:=d;obtain⟨C,G,sm⟩:=s;simp only[zk,zS]at g ⊢;refine zo ir232 λKP Q h=>?_;by_cases f:k=5
 ·subst f;refine xh g ?_;exact vm h
 ·exact vo f h f
def MR(s:zg):Bool:=s.defs.all (LM s)
def zqN(s:zg)(f:zA s<=ze):zf 113 [.agg (zk s)] (.bool (MR s)):=by
 have j:=zR f;have g:=λH=>QR s 232 [.view (zk s)] (LM s) H j yw λd _=>zkY (zp8 s d f) H;rw[MR];generalize s.defs.all (LM s)=y at *
 obtain⟨p,v,sm⟩:=s;simp only[zk]at g ⊢;refine zo ir113 λKP Q h=>?_;refine xa (yM (g _) ?_);rintro _ _ ⟨_,rfl,rfl,rfl⟩;refine xV ?_;exact h rfl rfl
mutual
def Qj:zj->B9->B9| .mk k al nm args dirs on sels,l=>Zo sels (if k=1/\zH nm l=false then l++[nm]else l)
def Zo:List zj->B9->B9
 | [],l=>l
 | x::r,l=>Zo r (Qj x l)
end
mutual
def zal:∀(x:zj) (l:B9),(Qj x l).length<=l.length+bS x
 | .mk k al nm args dirs on sels,l=>by
  have:=Ru sels (if k=1/\zH nm l=false then l++[nm]else l);have f:(if k=1/\zH nm l=false then l++[nm]else l).length<=l.length+1:=by split<;>simp
  simp only[Qj,bS];omega
def Ru:∀(x:List zj) (l:B9),(Zo x l).length<=l.length+yR x
 | [],l=>by simp[Zo]
 | x::r,l=>by have:=zal x l;have:=Ru r (Qj x l);simp only[Zo,yR];omega
end
def zmD(f:List zj):Prop:=∀(l:B9) (o:Own) (H:zd),l.length+yR f<=ze->zM H o l.length 1->YR Tryz.prog 169 [.sl o 1 (cT l),.o 7 (Zp f)] H o 1 (cT (Zo f l))
def zfr(p:List zj)(av:∀k A g C G I f,zj.mk k A g C G I f∈p->zmD f):zmD p:=by
 intro l o H ap ho;have ax:l.length+yR p<=1099511627776:=by simpa only[ze]using ap
 have U:=Z7 p;have az:=YL p;refine Xt ir169 λKP Q ao aw=>?_;refine xc U ?_;refine zc p 9 (λx:Own×B9=>[(0,.sl x.1 1 (cT x.2))]) (λal ab x H'=>Zo ab x.2=Zo p l/\x.2.length+yR ab<=l.length+yR p/\zQ H o H' x.1 x.2.length 1) (o,l) xb ⟨rfl,ZG _,zQ.refl ho⟩ ?_ ?_
 ·rintro⟨o1,a⟩ H' ak ⟨v,_,J⟩ Y;simp only[Zo]at v;refine xd U Y ?_;refine ao _ _ H' H' [.sl o1 1 (cT a)] nofun xb (yT.refl _) ⟨o1,by rw[<-v];rfl,by rw[<-v,zn];exact J⟩
 ·rintro al x ab ⟨o1,a⟩ H' ak af Y _ ⟨v,aq,J⟩ W;have ag:=YY af;have ar:x∈p:=xv af
  have aa:=zal x a;simp only[Zo,yR]at v aq;replace J:zQ H o H' o1 a.length 1:=J;obtain⟨k,A,g,C,G,I,f⟩:=x;have au:=av _ _ _ _ _ _ _ ar;have h:Qj (.mk k A g C G I f) a=Zo f (if k=1/\zH g a=false then a++[g]else a):=by simp only[Qj]
  have ay:yR f+1<=bS (.mk k A g C G I f):=vg
  rw[Zt]at ag;have M:=zn a;have ac:∀(o2:Own) (z:B9) (j:zd),Qj (.mk k A g C G I f) a=Zo f z->z.length<=a.length+1->zQ H o j o2 z.length 1->YR Tryz.prog 169 [.sl o2 1 (cT z),.o 7 (Zp f)] j o2 1 (cT (Zo f z)):=λo2 z j e L h'=>au z o2 j xi h'.own;refine xe U Y ag (zb λO ae=>?_);have K:=J.upd (x:=.cells [.i k,.str A,.str g,.o 6 (Ya C),.o 2 (ZE G),.str I,.o 7 (Zp f)]) ae;by_cases X:k=1
  case neg =>rw[if_neg (λL=>X L.1)]at h;refine xc X (zu (ac o1 a _ h xg K) λo2 j y=>?_);rw[zn]at y;refine xq ?_;exact zJ (W (o2,Zo f a) j ⟨by rw[<-v,h],by simp only;rw[h]at aa;omega,K.trans y⟩) xf
  subst X;refine xh (Zk.low (Z4 a g xi)) ?_;cases ah:zH g a with
  | true =>rw[if_neg (λL=>by rw[ah]at L;cases L.2)]at h;refine xa (zu (ac o1 a _ h xg K) λo2 j y=>?_);rw[zn]at y;refine xq ?_;exact zJ (W (o2,Zo f a) j ⟨by rw[<-v,h],by simp only;rw[h]at aa;omega,K.trans y⟩) xf
  | false =>
   rw[if_pos ⟨rfl,ah⟩]at h;refine xa (zp (by rw[M];exact K.own) ?_ ?_ λo' aj ai=>?_)
   ·simp only[M,yg,yy];omega
   ·refine xR M ?_;omega
   have am:cT a++[[AV.str g]]=cT (a++[g]):=vc
   have Z:=K.trans ai;simp only[M,yg,yy]at Z;have an:aj O=some (.cells [.i 1,.str A,.str g,.o 6 (Ya C),.o 2 (ZE G),.str I,.o 7 (Zp f)]):=ai.kept O _ (upd_same ..) λd e=>by have:=J.own;rw[e]at this;have ad:H' O=some (.tip (d+a.length) 1):=this;rw[ae]at ad;cases ad
   refine xd am an (zu (ac o' (a++[g]) _ h xw (xy Z)) λo2 j y=>?_);rw[zn]at y;refine xq ?_;exact zJ (W (o2,Zo f (a++[g])) j ⟨by rw[<-v,h],by simp only;rw[h]at aa;omega,(zQ.trans (n:=a.length+1) (xy Z) y)⟩) xf
def zp4(y:List zj):zmD y:=by
 have z:∀x:zj,∀k g p h j v f,x=.mk k g p h j v f->zmD f:=zj.ind λk g p h j v y C=>by intro K G L I J M f e;cases e;exact zfr y λk g p h j v f A=>C _ A _ _ _ _ _ _ _ rfl
 exact zfr y λk g p h j v f _=>z _ k g p h j v f rfl
def V7(n:B8)(f:yE):Bool:=decide (f.nm=n)
def Vt:yE:=⟨[],[],[],[]⟩
def yb(d:zv)(n:B8):Option yE:=d.frags.find? (V7 n)
def Ys(g h:B8)(f:List yv)(j:List zj):cF ⟨g,h,f,j⟩=[.str g,.str h,.o 2 (ZE f),.o 7 (Zp j)]:=rfl
def zoI(f:yE)(n:B8):zf 285 [.agg (cF f),.view [.str n]] (.bool (V7 n f)):=by obtain⟨h,j,ds,p⟩:=f;refine zo ir285 λKP Q g=>?_;simp(disch:=omega) only[ir285,Ys,go_sem];exact g rfl (by simp[V7])
def zcS(d:zv)(n:B8)(y:d.frags.length<=ze):zf 171 [.agg (z8 d),.str n] (.tup [.agg (cF ((yb d n).getD Vt)),.bool (yb d n).isSome]):=by
 have L:=y;simp only[ze]at L;have z:=zlb cF (λ_=>rfl) d.frags 285 [.view [.str n]] (V7 n) y yw λx _=>zoI x n;have g:yb d n=d.frags.find? (V7 n):=rfl;generalize yb d n=F at *
 obtain⟨Y,j⟩:=d;simp only[z8]at z g ⊢;have I:=Z5 j;refine zo ir171 λKP Q K=>?_;have fin:∀o,F=o->∀ρ H p,zx ρ H ir171.1.res=some p->(Yz p).strip=.tup [.agg (cF (o.getD Vt)),.bool o.isSome]->Q .ret ρ H:=λo e ρ H p f h=>K f (by rw[h,e]);refine xa (zb λW X=>?_);refine xh z ?_;rcases VB (V7 n) j 0 with ⟨a,x,r,f,h,A,C⟩|⟨f,h⟩
 ·rw[C,Int.zero_add];rw[A]at g;have v:=Ym f;have G:(a.length:Int)<j.length:=by rw[f,ZX,yg];omega
  have J:¬ ((a.length:Int)<0):=xg
  obtain⟨M,O,ds,U⟩:=x;rw[Ys]at v;refine xk v I G J ?_;exact fin _ g _ _ [.agg (cF ⟨M,O,ds,U⟩),.bool true] (by simp(disch:=omega) only[ir171,zx,yB,Ys,go_sem]) rfl
 ·rw[h];rw[f]at g;refine xa ?_;exact fin _ g _ _ [.agg [.str [],.str [],.sl .nil 2 [],.sl .nil 7 []],.bool false] xb rfl
mutual
def zf8:zj->B9| .mk _ _ nm _ _ _ sels=>nm::Tp sels
def Tp:List zj->B9
 | []=>[]
 | x::r=>zf8 x++Tp r
end
mutual
def zmj:∀x:zj,(zf8 x).length<=bS x| .mk _ _ nm _ _ _ sels=>by have:=Px sels;simp only[zf8,bS,yg];omega
def Px:∀l:List zj,(Tp l).length<=yR l
 | []=>by simp[Tp]
 | x::r=>by have:=zmj x;have:=Px r;simp only[Tp,yR,ZX];omega
end
def OkN(U l:B9):Prop:=l.Nodup/\∀x∈l,x∈U
def zlI{U l:B9}{x:B8}(h:OkN U l)(j:zH x l=false)(v:x∈U):OkN U (l++[x]):=by
 have y:x ∉ l:=λh=>by rw[(Zm x l).2 h]at j;cases j
 refine⟨List.nodup_append.2 ⟨h.1,by simp,λa p b g e=>?_⟩,λA z=>?_⟩
 ·simp only[List.mem_singleton]at g;subst g;subst e;exact y p
 ·rcases List.mem_append.1 z with f|f
  ·exact h.2 A f
  ·simp only[List.mem_singleton]at f;subst f;exact v
def zau{U l:B9}(h:OkN U l):l.length<=U.length:=List.Nodup.length_le_of_subset h.1 (λx f=>h.2 x f)
mutual
def zmv{U:B9}:∀(x:zj) (l:B9),(∀f∈zf8 x,f∈U)->OkN U l->OkN U (Qj x l)
 | .mk k al nm args dirs on sels,l,hU,h=>by
  simp only[Qj];refine V4 sels _ (λf j=>hU f (by simp[zf8,j])) ?_;split
  ·rename_i g;exact zlI h g.2 (hU nm (by simp[zf8]))
  ·exact h
def V4{U:B9}:∀(x:List zj) (l:B9),(∀f∈Tp x,f∈U)->OkN U l->OkN U (Zo x l)
 | [],l,_,h=>by simpa[Zo]using h
 | x::r,l,hU,h=>by simp only[Zo];exact V4 r _ (λf g=>hU f (by simp[Tp,g])) (zmv x l (λf g=>hU f (by simp[Tp,g])) h)
end
mutual
def zla:∀(x:zj) (l:B9),l.length<=(Qj x l).length
 | .mk k al nm args dirs on sels,l=>by
  have:=Pg sels (if k=1/\zH nm l=false then l++[nm]else l);have f:l.length<=(if k=1/\zH nm l=false then l++[nm]else l).length:=by split<;>simp
  simp only[Qj];omega
def Pg:∀(x:List zj) (l:B9),l.length<=(Zo x l).length
 | [],l=>by simp[Zo]
 | x::r,l=>by have:=zla x l;have:=Pg r (Qj x l);simp only[Zo];omega
end
def Q3(d:zv)(g:List zj):B9:=Tp g++d.frags.flatMap λf=>Tp f.sels
def Xb(f:yE):yR f.sels<=bF f:=by simp only[bF];omega
def zc4:∀l:List yE,(l.flatMap λf=>Tp f.sels).length<=XZ l
 | []=>by simp
 | f::l=>by
  have g:=zc4 l;have h:=Px f.sels;have j:=Xb f;have e:XZ (f::l)=bF f+XZ l:=by simp[XZ]
  rw[List.flatMap_cons,ZX,e];omega
def zaI(d:zv)(f:List zj):(Q3 d f).length<=yR f+XZ d.frags:=by have g:=Px f;have h:=zc4 d.frags;simp only[Q3,ZX];omega
def VE(d:zv):Nat->B9->Nat->B9
 | 0,l,_=>l
 | k+1,l,i=>match l[i]? with
  | none=>l
  | some x=>VE d k (match yb d x with|none=>l|some f=>Zo f.sels l) (i+1)
def Zx(d:zv)(f:List zj):B9:=VE d (yR f+XZ d.frags+1) (Zo f []) 0
def WB{f:yE}:∀ {l:List yE},f∈l->bF f<=XZ l
 | x::l,g=>by
  rcases List.mem_cons.1 g with rfl|g
  ·simp only[XZ,List.map_cons,List.sum_cons];omega
  ·have:=WB g;simp only[XZ,List.map_cons,List.sum_cons]at this ⊢;omega
def Kj{d:zv}{U:B9}(g:∀f∈d.frags,∀j∈Tp f.sels,j∈U):∀(k:Nat) (l:B9) (i:Nat),OkN U l->OkN U (VE d k l i)
 | 0,l,i,h=>by simpa[VE]using h
 | k+1,l,i,h=>by
  simp only[VE];cases l[i]? with
  | none=>exact h
  | some x =>
   simp only
   refine Kj g k _ _ ?_;cases hf:yb d x with
   | none=>exact h
   | some f=>exact V4 f.sels l (g f (List.mem_of_find?_eq_some hf)) h
def Mi(d:zv)(g:List zj)(H:zd)(aj:2*(yR g+XZ d.frags)<=ze):YR Tryz.prog 173 [.agg (z8 d),.o 7 (Zp g)] H .nil 1 (cT (Zx d g)):=by
 have a4:2*(yR g+XZ d.frags)<=1099511627776:=by simpa only[ze]using aj
 have a5:=yP d.frags;have J:=λn=>zcS d n xi;have ah:∀f∈d.frags,∀I∈Tp f.sels,I∈Q3 d g:=λf hf I G=>by simp only[Q3,List.mem_append,List.mem_flatMap];exact .inr ⟨f,hf,G⟩
 have a0:=zaI d g;have ok0:OkN (Q3 d g) (Zo g []):=V4 g [] (λI G=>by simp[Q3,G]) ⟨List.nodup_nil,by simp⟩;generalize a3:Q3 d g=aa at *
 have ac:Zx d g=VE d (yR g+XZ d.frags+1) (Zo g []) 0:=rfl;generalize a1:yR g+XZ d.frags=B,Zx d g=F at *
 have au:=λn f (j:yb d n=some f)=>(show f∈d.frags from List.mem_of_find?_eq_some j);have al:=λf (j:f∈d.frags)=>Nat.le_trans (Xb f) (WB j);have L:=zp4 g [] .nil H (by simp only[yy,ze];omega) rfl;have ak:=Yl d;simp only[ak]at J ⊢;refine Xt ir173 λKP Q ag a2=>?_;refine xa ?_;have av:cT []=[]:=rfl;rw[av]at L;refine zu L λo0 H0 X=>?_;rw[zn]at X;refine xa ?_;refine ZZ (λx:Own×B9×Nat=>[(5,.sl x.1 1 (cT x.2.1)),(6,.i x.2.2)]) (λx H'=>zQ H .nil H' x.1 x.2.1.length 1/\OkN aa x.2.1/\x.2.2<=x.2.1.length/\VE d (B+1-x.2.2) x.2.1 x.2.2=F) (λx=>B+1-x.2.2) (o0,Zo g [],0) xb ⟨X,ok0,Nat.zero_le _,ac.symm⟩ ?_;rintro⟨o,l,i⟩ z aw ⟨ho,y,hi,h⟩ K;replace ho:zQ H .nil z o l.length 1:=ho;simp only at y hi h;have hlen:=zau y;have Z:=zn l;have ad:B+1-i=(B-i)+1:=xg
 rw[ad]at h;by_cases a7:i<l.length
 case neg =>
  have am:l[i]?=none:=List.getElem?_eq_none xg;have C:(l.length:Int)<=i:=xg
  simp only[VE,am]at h;refine xd Z C ?_;refine ag _ _ z z [.sl o 1 (cT l)] nofun xb (yT.refl _) ⟨o,by rw[<-h];rfl,by rw[<-h,zn];exact ho⟩
 obtain⟨a,x,r,U,ai⟩:∃a x r,l=a++x::r/\a.length=i:=⟨l.take i,l[i],l.drop (i+1),by rw[List.getElem_cons_drop,List.take_append_drop],by rw[List.length_take];omega⟩;subst ai;have aq:l[a.length]?=some x:=xv U
 have ap:(cT l).getD a.length []=[.str x]:=ZM U;have C:(a.length:Int)<l.length:=xg
 have an:¬ ((l.length:Int)<=a.length):=xg
 have af:=J x;simp only[VE,aq]at h;refine xE Z C an ap af ?_;cases A:yb d x with
 | none =>rw[A]at h;refine w1 (zb λab v=>?_);refine xa ?_;exact zJ (K (o,l,a.length+1) _ wP ⟨ho.upd v,y,by simp only;omega,by simp only;rw[<-h];congr 1;omega⟩) (by refine xq ?_;simp)
 | some f =>rw[A]at h;have O:=au x f A;have a6:=al f O;have W:=V4 f.sels l (ah f O) y;have ar:=Ru f.sels l;have M:=λp (j:zM p o l.length 1)=>zp4 f.sels l o p xi j;have ao:l.length<=(Zo f.sels l).length:=Pg f.sels l;obtain⟨ay,az,ax,ae⟩:=f;simp only at M W ar h ao;refine w5 (zb λab v=>?_);refine xa (zu (M _ (ho.own.upd v)) λo2 p Y=>?_);rw[zn]at Y;refine xa ?_;exact zJ (K (o2,Zo ae l,a.length+1) p wP ⟨(ho.upd v).trans Y,W,by simp only;omega,by simp only;rw[<-h];congr 1;omega⟩) (by refine xq ?_;simp)
def Xn(k:Int)(g:B8)(j:List z6)(f:List yv)(h:List zj):cO ⟨k,g,j,f,h⟩=[.i k,.str g,.o 10 (Yg j),.o 2 (ZE f),.o 7 (Zp h)]:=rfl
def cLL(l:List (List zj)):List (List AV):=l.map λx=>[.o 7 (Zp x)]
def zaC(l:List (List zj)):(cLL l).length=l.length:=by simp[cLL]
def lenD(d:zv):Nat:=d.ops.length+d.frags.length
def yQ(d:zv):List (List zj):=d.ops.map (·.sels)++d.frags.map (·.sels)
def zjL(d:zv)(H:zd)(ac:zt d<=ze):YR Tryz.prog 164 [.agg (z8 d)] H .nil 1 (cLL (yQ d)):=by
 obtain⟨g,y⟩:=d;have ak:Ub g+XZ y<=1099511627776:=by simpa only[ze,zt]using ac
 have X:=ZI g;have Y:=Z5 y;have al:=ZJ g;have am:=yP y;rw[show z8 ⟨g,y⟩=[.o 5 (PR g),.o 4 (Pf y)] from rfl];refine Xt ir164 λKP Q ab aj=>?_;refine xc X ?_;refine zc g 11 (λx:Own×List (List zj)=>[(3,.sl x.1 1 (cLL x.2))]) (λf aa x H'=>x.2=f.map (·.sels)/\zQ H .nil H' x.1 f.length 1) (.nil,[]) (by simp(disch:=omega) only[cLL,List.map,go_sem]) ⟨rfl,zQ.refl (o:=.nil) (n:=0) rfl⟩ ?_ ?_
 ·rintro⟨o1,a⟩ J L ⟨p,h⟩ z;simp only at p;subst p;replace h:zQ H .nil J o1 g.length 1:=h;refine xe X z Y ?_;refine zc y 24 (λx:Own×List (List zj)=>[(3,.sl x.1 1 (cLL x.2))]) (λf aa x H'=>x.2=g.map (·.sels)++f.map (·.sels)/\zQ H .nil H' x.1 (g.length+f.length) 1) (o1,g.map (·.sels)) xb ⟨by simp,h⟩ ?_ ?_
  ·rintro⟨o2,a⟩ I L ⟨p,h⟩ z;simp only at p;subst p;refine xd Y z ?_;refine ab _ _ I I [.sl o2 1 (cLL (yQ ⟨g,y⟩))] nofun (by simp(disch:=omega) only[ir164,zx,yB,yQ,go_sem]) (yT.refl _) ⟨o2,rfl,by rw[zaC];simpa[yQ]using h⟩
  ·rintro f x aa ⟨o2,a⟩ I L U z _ ⟨p,h⟩ O;have A:=Ym U;simp only at p;subst p;have j:=zaC (g.map (·.sels)++f.map (·.sels));simp only[ZX,List.length_map]at j;replace h:zQ H .nil I o2 (g.length+f.length) 1:=h;obtain⟨Z,af,ds,v⟩:=x;rw[Ys]at A;refine xe Y z A (zb λai ae=>?_);have G:=h.upd (x:=.cells [.str Z,.str af,.o 2 (ZE ds),.o 7 (Zp v)]) ae;refine xa (zp (by rw[j];exact G.own) ?_ ?_ λo' K W=>?_)
   ·simp only[j,yg,yy];omega
   ·refine xR j ?_;omega
   have M:cLL (g.map (·.sels)++f.map (·.sels))++[[AV.o 7 (Zp v)]]=cLL (g.map (·.sels)++(f.map (·.sels)++[v])):=by simp[cLL]
   have C:=G.trans W;simp only[j,yg,yy]at C;refine xB M ?_;exact zJ (O (o',g.map (·.sels)++(f.map (·.sels)++[v])) K ⟨by simp,by simpa[Nat.add_assoc]using C⟩) xf
 ·rintro f x aa ⟨o1,a⟩ J L U z _ ⟨p,h⟩ O;have A:=Z6 U;simp only at p;subst p;have j:=zaC (f.map (·.sels));simp only[List.length_map]at j;replace h:zQ H .nil J o1 f.length 1:=h;obtain⟨k,Z,ag,ds,v⟩:=x;rw[Xn]at A;refine xe X z A (zb λah ad=>?_);have G:=h.upd (x:=.cells [.i k,.str Z,.o 10 (Yg ag),.o 2 (ZE ds),.o 7 (Zp v)]) ad;refine xa (zp (by rw[j];exact G.own) ?_ ?_ λo' K W=>?_)
  ·simp only[j,yg,yy];omega
  ·refine xR j ?_;omega
  have M:cLL (f.map (·.sels))++[[AV.o 7 (Zp v)]]=cLL (f.map (·.sels)++[v]):=by simp[cLL]
  have C:=G.trans W;simp only[j,yg,yy]at C;refine xB M ?_;exact zJ (O (o',f.map (·.sels)++[v]) K ⟨by simp,by simpa using C⟩) xf
def zks(l:B9)(J:l.length<=ze):zf 73 [.o 1 (cT l)] (.bool (!Z1 l)):=by
 refine zo ir73 λKP Q p=>?_;have h:=zn l;simp only[ze]at J;refine xc h ?_;refine zc l 7 ZY (λf z _ H=>W8 f z=Z1 l) () xb rfl ?_ ?_
 ·rintro _ H A g j;refine xd h j ?_;exact p rfl (by simp[<-g,W8])
 ·rintro f x z _ H A v j _ g C;have I:=ZM v;have L:(cT l).take f.length=cT f:=by rw[v];simp[cT]
  have K:(f.length:Int)<=l.length:=xg
  have G:f.length<=ze:=xi
  simp only[W8]at g;refine xU h j I L K (Z4 f x G) ?_;cases y:zH x f with
  | true =>rw[y]at g;refine xa ?_;exact p rfl (wD g)
  | false =>rw[y]at g;refine xa ?_;exact zJ (C () _ (xy g)) xf
def zsK(d:zv)(H:zd)(X:zt d<=ze):YR Tryz.prog 76 [.agg (z8 d)] H .nil 1 (cT (d.ops.map (·.nm))):=by
 obtain⟨f,p⟩:=d;have ag:Ub f+XZ p<=1099511627776:=by simpa only[ze,zt]using X
 have C:=ZI f;have ah:=ZJ f;have ai:=yP p;rw[show z8 ⟨f,p⟩=[.o 5 (PR f),.o 4 (Pf p)] from rfl];simp only
 refine Xt ir76 λKP Q W af=>?_;refine xc C ?_;refine zc f 9 (λx:Own×B9=>[(3,.sl x.1 1 (cT x.2))]) (λz ab x H'=>x.2=(z.map (·.nm))/\x.2.length<=z.length/\zQ H .nil H' x.1 x.2.length 1) (.nil,[]) xJ ⟨rfl,ZG _,zQ.refl (o:=.nil) (n:=0) rfl⟩ ?_ ?_
 ·rintro⟨o1,a⟩ j M ⟨g,I,h⟩ A;simp only at g;subst g;refine xd C A ?_;refine W _ _ j j [.sl o1 1 (cT (f.map (·.nm)))] nofun xb (yT.refl _) ⟨o1,rfl,by rw[zn];exact h⟩
 ·rintro z x ab ⟨o1,a⟩ j M Z A _ ⟨g,I,h⟩ U;have G:=Z6 Z;simp only at g I;replace h:zQ H .nil j o1 a.length 1:=h;have v:=zn a;obtain⟨k,y,ad,ds,ac⟩:=x;rw[Xn]at G;refine xe C A G (zb λae Y=>?_);have K:=h.upd (x:=.cells [.i k,.str y,.o 10 (Yg ad),.o 2 (ZE ds),.o 7 (Zp ac)]) Y;refine xa (zp (by rw[v];exact K.own) ?_ ?_ λo' L aa=>?_)
  ·simp only[v,yg,yy];omega
  ·refine xR v ?_;omega
  have O:cT a++[[AV.str y]]=cT (a++[y]):=vc
  have J:=K.trans aa;simp only[v,yg,yy]at J;refine xB O ?_;exact zJ (U (o',a++[y]) L ⟨by rw[g];simp,by refine wm ?_;omega,by simpa using J⟩) xf
def zpA(d:zv)(H:zd)(X:zt d<=ze):YR Tryz.prog 79 [.agg (z8 d)] H .nil 1 (cT (d.frags.map (·.nm))):=by
 obtain⟨y,f⟩:=d;have ag:Ub y+XZ f<=1099511627776:=by simpa only[ze,zt]using X
 have C:=Z5 f;have ah:=ZJ y;have ai:=yP f;rw[show z8 ⟨y,f⟩=[.o 5 (PR y),.o 4 (Pf f)] from rfl];simp only
 refine Xt ir79 λKP Q W af=>?_;refine xc C ?_;refine zc f 9 (λx:Own×B9=>[(3,.sl x.1 1 (cT x.2))]) (λz ac x H'=>x.2=(z.map (·.nm))/\x.2.length<=z.length/\zQ H .nil H' x.1 x.2.length 1) (.nil,[]) xJ ⟨rfl,ZG _,zQ.refl (o:=.nil) (n:=0) rfl⟩ ?_ ?_
 ·rintro⟨o1,a⟩ j M ⟨g,I,h⟩ A;simp only at g;subst g;refine xd C A ?_;refine W _ _ j j [.sl o1 1 (cT (f.map (·.nm)))] nofun xb (yT.refl _) ⟨o1,rfl,by rw[zn];exact h⟩
 ·rintro z x ac ⟨o1,a⟩ j M Z A _ ⟨g,I,h⟩ U;have G:=Ym Z;simp only at g I;replace h:zQ H .nil j o1 a.length 1:=h;have p:=zn a;obtain⟨v,ab,ds,ad⟩:=x;rw[Ys]at G;refine xe C A G (zb λae Y=>?_);have K:=h.upd (x:=.cells [.str v,.str ab,.o 2 (ZE ds),.o 7 (Zp ad)]) Y;refine xa (zp (by rw[p];exact K.own) ?_ ?_ λo' L aa=>?_)
  ·simp only[p,yg,yy];omega
  ·refine xR p ?_;omega
  have O:cT a++[[AV.str v]]=cT (a++[v]):=vc
  have J:=K.trans aa;simp only[p,yg,yy]at J;refine xB O ?_;exact zJ (U (o',a++[v]) L ⟨by rw[g];simp,by refine wm ?_;omega,by simpa using J⟩) xf
def zp3(d:zv)(H:zd)(Y:zt d<=ze):YR Tryz.prog 74 [.agg (z8 d)] H .nil 1 (cT ((d.ops.map (·.nm)).filter (λn=>!decide (n=[])))):=by
 obtain⟨f,v⟩:=d;have ah:Ub f+XZ v<=1099511627776:=by simpa only[ze,zt]using Y
 have I:=ZI f;have ai:=ZJ f;have aj:=yP v;rw[show z8 ⟨f,v⟩=[.o 5 (PR f),.o 4 (Pf v)] from rfl];simp only
 refine Xt ir74 λKP Q X ag=>?_;refine xc I ?_;refine zc f 9 (λx:Own×B9=>[(3,.sl x.1 1 (cT x.2))]) (λz ac x H'=>x.2=((z.map (·.nm)).filter (λn=>!decide (n=[])))/\x.2.length<=z.length/\zQ H .nil H' x.1 x.2.length 1) (.nil,[]) xJ ⟨rfl,ZG _,zQ.refl (o:=.nil) (n:=0) rfl⟩ ?_ ?_
 ·rintro⟨o1,a⟩ p U ⟨g,L,h⟩ A;simp only at g;subst g;refine xd I A ?_;refine X _ _ p p [.sl o1 1 (cT ((f.map (·.nm)).filter (λn=>!decide (n=[]))))] nofun xb (yT.refl _) ⟨o1,rfl,by rw[zn];exact h⟩
 ·rintro z x ac ⟨o1,a⟩ p U aa A _ ⟨g,L,h⟩ J;have K:=Z6 aa;simp only at g L;replace h:zQ H .nil p o1 a.length 1:=h;have y:=zn a;obtain⟨k,j,ae,ds,ad⟩:=x;rw[Xn]at K;refine xe I A K (zb λaf Z=>?_);have C:=h.upd (x:=.cells [.i k,.str j,.o 10 (Yg ae),.o 2 (ZE ds),.o 7 (Zp ad)]) Z;by_cases G:j=[]
  ·subst G;refine xa ?_;exact zJ (J (o1,a) _ ⟨by rw[g];simp,by refine wm ?_;omega,C⟩) xf
  refine xc G (zp (by rw[y];exact C.own) ?_ ?_ λo' O ab=>?_)
  ·simp only[y,yg,yy];omega
  ·refine xR y ?_;omega
  have W:cT a++[[AV.str j]]=cT (a++[j]):=vc
  have M:=C.trans ab;simp only[y,yg,yy]at M;refine xB W ?_;exact zJ (J (o',a++[j]) O ⟨by rw[g];simp[G],by refine wm ?_;omega,by simpa using M⟩) xf
mutual
def KO(s:zg):zj->Bool| .mk k _ _ _ _ on sels=>(decide (k=2)&&(!decide (on=[])&&!y9 s on))||!Tr s sels
def Tr(s:zg):List zj->Bool
 | []=>true
 | x::r=>!KO s x&&Tr s r
end
def Kc(s:zg):∀l,(!l.any (KO s))=Tr s l
 | []=>rfl
 | x::r=>by rw[List.any_cons,Tr,<-Kc s r];cases KO s x<;>simp
def zjp(s:zg)(f:List zj):Prop:=yR f<=ze->zf 166 [.agg (zk s),.o 7 (Zp f)] (.bool (Tr s f))
def zqL(s:zg)(x:zj)(I:s.defs.length<=ze)(G:bS x<=ze)(K:∀k p A v y f g,x=.mk k p A v y f g->zjp s g):zf 283 [.agg (cS x),.view (zk s)] (.bool (KO s x)):=by
 obtain⟨k,p,A,v,y,f,g⟩:=x;have C:=MN s f I;have h:=K k p A v y f g rfl (by simp only[bS]at G;omega);simp only[KO];generalize y9 s f=L,Tr s g=U at *
 obtain⟨M,O,sm⟩:=s;simp only[zk]at C h ⊢;refine zo ir283 λKP Q j=>?_;by_cases z:k=2
 case neg =>simp(disch:=omega) only[ir283,Zt,z,go_sem];refine za h ?_;exact vn j z
 subst z;by_cases ho:f=[]
 ·have J:=eq_true ho;simp(disch:=omega) only[ir283,Zt,J,go_sem];refine za h ?_;exact vn j ho
 simp(disch:=omega) only[ir283,Zt,ho,go_sem];refine za C ?_;cases L with
 | false =>exact vn j ho
 | true =>refine xh h ?_;exact vn j ho
def NJ{x:zj}{l:List zj}(h:x∈l):bS x<=yR l:=by obtain⟨a,b,f⟩:=List.append_of_mem h;have:=WM a x b;rw[<-f]at this;omega
def zfe(s:zg)(C:s.defs.length<=ze)(g:List zj)(G:∀k j y p v z h,zj.mk k j y p v z h∈g->zjp s h):zjp s g:=by
 intro I;have J:=YL g;have f:=zqq cS zoB g 283 [.view (zk s)] (KO s) xg yw λx f=>zqL s x C (by have:=NJ f;omega) λk j y p v z h e=>G k j y p v z h (e▸f);rw[<-R7]at f;rw[<-Kc];generalize g.any (KO s)=M at *
 obtain⟨K,L,sm⟩:=s;simp only[zk]at f ⊢;refine zo ir166 λKP Q A=>?_;refine xh f ?_;exact vm A
def zsO(s:zg)(z:s.defs.length<=ze)(y:List zj):zjp s y:=by
 have A:∀x:zj,∀k g p h j v f,x=.mk k g p h j v f->zjp s f:=zj.ind λk g p h j v y G=>by intro L I M J K O f e;cases e;exact zfe s z y λk g p h j v f C=>G _ C _ _ _ _ _ _ _ rfl
 exact zfe s z y λk g p h j v f _=>A _ k g p h j v f rfl
def zsU(s:zg)(f:yE)(j:s.defs.length<=ze):zf 161 [.agg (cF f),.view (zk s)] (.bool (!y9 s f.on)):=by
 have g:=MN s f.on j;obtain⟨v,p,ds,A⟩:=f;simp only at g ⊢;generalize y9 s p=C at *
 obtain⟨y,z,sm⟩:=s;simp only[zk]at g ⊢;refine zo ir161 λKP Q h=>?_;simp(disch:=omega) only[ir161,Ys,go_sem];refine za g ?_;exact vm h
def zsG(s:zg)(l:List zj)(j:s.defs.length<=ze)(h:yR l<=ze):zf 165 [.o 7 (Zp l),.view (zk s)] (.bool (!Tr s l)):=by
 have f:=zsO s j l h;generalize Tr s l=y at *
 obtain⟨p,v,sm⟩:=s;simp only[zk]at f ⊢;refine zo ir165 λKP Q g=>?_;refine xh f ?_;exact vm g
def onM(s:zg)(d:zv):Bool:=!(d.frags.any λf=>!y9 s f.on)&&!((yQ d).any λl=>!Tr s l)
def QI{d:zv}{l:List zj}(h:l∈yQ d):yR l<=zt d:=by
 simp only[yQ,List.mem_append,List.mem_map]at h;rcases h with ⟨o,ho,rfl⟩|⟨f,hf,rfl⟩
 ·obtain⟨a,b,g⟩:=List.append_of_mem ho;have:=Wc a o b;rw[<-g]at this;simp only[bO,zt]at this ⊢;omega
 ·have:=WB hf;have:=Xb f;simp only[zt];omega
def MH(d:zv):(yQ d).length<=zt d:=by have:=ZJ d.ops;have:=yP d.frags;simp only[yQ,ZX,List.length_map,zt];omega
def onC(s:zg)(d:zv)(y:s.defs.length<=ze)(v:zt d<=ze):zf 80 [.agg (zk s),.agg (z8 d)] (.bool (onM s d)):=by
 have J:=yP d.frags;have I:Ub d.ops+XZ d.frags<=ze:=v;have g:=zeQ cF (λ_=>rfl) d.frags 161 [.view (zk s)] (λf=>!y9 s f.on) xg yw λf _=>zsU s f y;have h:=zlK (λl:List zj=>AV.o 7 (Zp l)) (yQ d) 165 [.view (zk s)] (λl=>!Tr s l) (by have:=MH d;omega) yw λl z=>zsG s l y (by have:=QI z;omega);have j:=λH=>zjL d H v;unfold onM;generalize (d.frags.any λf=>!y9 s f.on)=A,((yQ d).any λl=>!Tr s l)=U at *
 obtain⟨M,O,sm⟩:=s;obtain⟨L,G⟩:=d;simp only[zk,z8]at g h j ⊢;refine zo ir80 λKP Q p=>?_;refine xh g ?_;cases A with
 | true =>exact vm p
 | false =>refine xa (zu (j _) λo2 C K=>?_);refine xh (Zk.low h) ?_;exact vm p
def Zi(d:zv):Nat:=2*(zt d+zt d)
def Sc(d:zv)(f:List zj):(Zx d f).length<=yR f+XZ d.frags:=by have j:=Kj (d:=d) (U:=Q3 d f) (λh hf p g=>by simp only[Q3,List.mem_append,List.mem_flatMap];exact .inr ⟨h,hf,g⟩) (yR f+XZ d.frags+1) (Zo f []) 0 (V4 f [] (λp g=>by simp[Q3,g]) ⟨List.nodup_nil,by simp⟩);exact Nat.le_trans (zau j) (zaI d f)
def zcn(d:zv)(f:yE):Bool:=zH f.nm (Zx d f.sels)
def zmg(d:zv)(f:yE)(hf:f∈d.frags)(p:Zi d<=ze):zf 172 [.agg (cF f),.view (z8 d)] (.bool (zcn d f)):=by
 have C:=WB hf;have G:=Xb f;have A:XZ d.frags<=zt d:=wA
 have v:=p;simp only[Zi]at v;have h:=λH=>Mi d f.sels H xg;have hlen:=Sc d f.sels;have g:=Z4 (Zx d f.sels) f.nm xg;unfold zcn;generalize Zx d f.sels=R at *
 generalize zH f.nm R=O at *
 obtain⟨J,K,ds,M⟩:=f;obtain⟨L,z⟩:=d;simp only[z8]at h g ⊢;refine zo ir172 λKP Q j=>?_;simp(disch:=omega) only[ir172,Ys,go_sem];refine zu (h _) λo2 y I=>?_;refine xh (Zk.low g) ?_;exact vm j
def Vv(d:zv):Bool:=d.frags.any (zcn d)
def zkt(d:zv)(g:Zi d<=ze):zf 82 [.agg (z8 d)] (.bool (Vv d)):=by
 have z:=yP d.frags;have y:XZ d.frags<=zt d:=wA
 have p:=g;simp only[Zi]at p;have f:=zeQ cF (λ_=>rfl) d.frags 172 [.view (z8 d)] (zcn d) xg yw λh hf=>zmg d h hf g;unfold Vv;generalize d.frags.any (zcn d)=C at *
 obtain⟨A,v⟩:=d;simp only[z8]at f ⊢;refine zo ir82 λKP Q j=>?_;refine xh f ?_;exact vm j
def zmc{H H':zd}{o':Own}{n sz:Nat}(h:zQ H .nil H' o' n sz):yT H H':=yT.of_sub λb o f=>h.kept b o f λd e=>by cases e
def zjv(d:zv)(n:B8)(b:Nat)(H:zd)(g:H b=some (.cells (z8 d)))(z:d.frags.length<=ze):zZ 170 [.str n,.ptr b 0] H (At (.bool (!(yb d n).isSome)) H):=by
 have f:=zcS d n z;cases hf:yb d n with
 | none =>rw[hf]at f;obtain⟨A,y⟩:=d;simp only[z8]at f g;refine Xe ir170 λKP Q h=>?_;refine xt g f ?_;refine w1 (zb λp j=>?_);refine xa ?_;exact h _ _ _ H _ nofun rfl ((yT.refl _).upd j) ⟨rfl,rfl⟩
 | some v =>rw[hf]at f;obtain⟨C,G,ds,I⟩:=v;obtain⟨A,y⟩:=d;simp only[z8]at f g;refine Xe ir170 λKP Q h=>?_;refine xt g f ?_;refine w5 (zb λp j=>?_);refine xa ?_;exact h _ _ _ H _ nofun rfl ((yT.refl _).upd j) ⟨rfl,rfl⟩
def QC(d:zv)(l:List zj):Bool:=(Zo l []).any λn=>!(yb d n).isSome
def zk0(d:zv)(l:List zj)(b:Nat)(H:zd)(A:H b=some (.cells (z8 d)))(C:d.frags.length<=ze)(J:yR l<=ze):zZ 167 [.o 7 (Zp l),.ptr b 0] H (At (.bool (QC d l)) H):=by
 have g:=zp4 l [] .nil H (xy J) rfl;have G:=Ru l [];simp only[yy]at G;have I:cT []=[]:=rfl;rw[I]at g;have p:=λf (j:f b=some (.cells (z8 d)))=>PT (λn:B8=>AV.str n) (Zo l []) 170 [.ptr b 0] (λn=>!(yb d n).isSome) f xg yw λn _=>zjv d n b f j C;unfold QC;generalize ((Zo l []).any λn=>!(yb d n).isSome)=K at *
 refine Xe ir167 λKP Q z=>?_;refine xa (zu g λo2 f h=>?_);have v:f b=some (.cells (z8 d)):=h.kept b _ A λd e=>by cases e
 refine xa ?_;have y:=zY.low (args:=[.sl o2 1 (cT (Zo l [])),.clo 170 [] [.ptr b 0]]) (p f v);refine yM y ?_;rintro _ _ ⟨_,rfl,rfl,rfl⟩;refine xV ?_;exact z _ _ _ H _ nofun rfl (zmc h) ⟨rfl,rfl⟩
def za0(d:zv):Bool:=!(yQ d).any (QC d)
def zpt(d:zv)(p:zt d<=ze):zf 81 [.agg (z8 d)] (.bool (za0 d)):=by
 have L:=yP d.frags;have K:Ub d.ops+XZ d.frags<=ze:=p;have h:=λH=>zjL d H p;have j:=λb f (v:f b=some (.cells (z8 d)))=>zh2 (λl:List zj=>AV.o 7 (Zp l)) (yQ d) 167 [.ptr b 0] (QC d) f (by have:=MH d;omega) yw λl G=>zk0 d l b f v xg (by have:=QI G;omega);unfold za0;generalize (yQ d).any (QC d)=M at *
 have C:=Yl d;rw[C]at h j ⊢;refine zo ir81 λKP Q A=>?_;refine xa (zb λg J=>?_);refine xa (zu (h _) λo2 f I=>?_);have y:=I.kept g _ (upd_same ..) λd e=>by cases e
 refine xa ?_;have z:=zY.low (args:=[.sl o2 1 (cLL (yQ d)),.clo 167 [] [.ptr g 0]]) (j g f y);refine yM z ?_;rintro _ _ ⟨_,rfl,rfl,rfl⟩;refine xV ?_;exact xo A
def ZO(R:B9)(l:B9)(f:yE):B9:=if zH f.nm R=true/\zH f.nm l=false then l++[f.nm]else l
def Zl(d:zv)(f:List zj):B9:=d.frags.foldl (ZO (Zx d f)) []
def zjU{P:Program}{KP:AV->zd->Prop}{Q:ZV->Env->zd->Prop}{J:List Fr}{ρ:Env}{H:zd}{all l:List yo}{d:Option Nat}{R:List VQ}{sz bytes:Nat}{o o2:Own}{xs g:List (List AV)}(hf:o≠.full)(how:zM H o xs.length sz)(K:(xs.length+g.length)*bytes<=140737488355328)(L:xs.length+g.length<=maxLen)(j:∀o' H',o'≠.full->zQ H o H' o' (xs.length+g.length) sz->Qe P KP Q all l J R (ρ.set d (.sl o' sz (xs++g.map (·.map AV.strip1)))) H'):
  goP P KP Q all l J d R ρ sz bytes (.sl o sz xs) (.sl o2 sz g) H:=by
 refine⟨rfl,rfl,K,L,?_⟩;cases o with
 | no=>exact how.elim
 | full=>exact absurd rfl hf
 | nil =>
  refine⟨λI=>?_,λI b h=>j _ _ nofun ⟨by simp[zM,zd.upd],λc x f G=>?_,λc v e=>?_⟩⟩
  ·subst I;have U:xs=[]:=List.eq_nil_of_length_eq_zero how;subst U;exact j .nil H nofun ⟨rfl,λb x h _=>h,λb v e=>by cases e⟩
  ·have O:c≠b:=nen2 h f;simp[zd.upd,O,f]
  ·cases e;exact .inl h
 | tip b y =>
  refine⟨how,λp W z=>j _ _ nofun ⟨by simp[zM,zd.upd],λc x f G=>?_,λc v e=>?_⟩⟩
  ·have C:c≠b:=λe=>by subst e;exact G y rfl
   have M:c≠p:=λe=>by subst e;simp[zd.del,C,f]at z
   simp[zd.upd,zd.del,C,M,f]
  ·cases e;by_cases A:p=b
   ·subst A;exact .inr ⟨y,rfl⟩
   ·left;simpa[zd.del,A]using z
abbrev zie(H:zd)(xs:B9):Tf->zd->Prop:=λe H'=>match e with|.ret v=>∃o,o≠.full/\v=.sl o 1 (cT xs)/\zQ H .nil H' o xs.length 1|.pan _=>False
def zoW(d:zv)(h:List zj)(H:zd)(aj:Zi d<=ze)(ax:yR h<=zt d):zZ 295 [.agg (z8 d),.o 7 (Zp h)] H (zie H (Zl d h)):=by
 unfold zie;have af:XZ d.frags<=zt d:=wA
 have O:=aj;simp only[Zi]at O;have M:=λH=>Mi d h H xg;have av:=Sc d h;have aw:2*(zt d+zt d)<=1099511627776:=by simpa only[ze]using O
 have C:Zl d h=d.frags.foldl (ZO (Zx d h)) []:=rfl;have ag:=λn=>Z4 (Zx d h) n xg;generalize Zl d h=F,Zx d h=R at *
 have am:=yP d.frags;obtain⟨ay,G⟩:=d;simp only[z8]at M C am af ⊢;have K:=Z5 G;refine Xt ir295 λKP Q ah au=>?_;refine xa (zu (M _) λo0 H0 ap=>?_);refine xc K ?_;refine zc G 15 (λx:Own×B9=>[(6,.sl x.1 1 (cT x.2))]) (λL aa x H'=>aa.foldl (ZO R) x.2=G.foldl (ZO R) []/\x.2.length<=L.length/\x.1≠.full/\zQ H .nil H' x.1 x.2.length 1) (.nil,[]) xJ ⟨rfl,ZG _,nofun,⟨rfl,ap.kept,λb d e=>by cases e⟩⟩ ?_ ?_
 ·rintro⟨o1,a⟩ y ad ⟨g,_,j,v⟩ J;simp only[List.foldl]at g;refine xd K J ?_;refine ah _ _ y y [.sl o1 1 (cT a)] nofun xb (yT.refl _) ⟨o1,j,by rw[C,<-g];rfl,by rw[C,<-g];exact v⟩
 ·rintro L x aa ⟨o1,a⟩ y ad al J _ ⟨g,an,j,v⟩ I;have U:=Ym al;simp only[List.foldl]at g;simp only at an j;replace v:zQ H .nil y o1 a.length 1:=v;have z:=zn a;obtain⟨f,Z,ds,ab⟩:=x;have ai:=Z4 a f xi;have p:ZO R a ⟨f,Z,ds,ab⟩=if zH f R=true/\zH f a=false then a++[f]else a:=rfl
  rw[Ys]at U;refine xe K J U (zb λar ak=>?_);have A:=v.upd (x:=.cells [.str f,.str Z,.o 2 (ZE ds),.o 7 (Zp ab)]) ak;refine xh (Zk.low (ag f)) ?_;cases W:zH f R with
  | false =>rw[if_neg (xr W)]at p;rw[p]at g;refine xa ?_;exact zJ (I (o1,a) _ ⟨g,by refine wm ?_;omega,j,A⟩) xf
  | true =>
  refine xh (Zk.low ai) ?_;cases X:zH f a with
  | true =>rw[if_neg (xr X)]at p;rw[p]at g;refine xa ?_;exact zJ (I (o1,a) _ ⟨g,by refine wm ?_;omega,j,A⟩) xf
  | false =>
   rw[if_pos ⟨W,X⟩]at p;rw[p]at g;refine xa (zjU j (by rw[z];exact A.own) ?_ ?_ λo' ac ao aq=>?_)
   ·simp only[z,yg,yy];omega
   ·refine xR z ?_;omega
   have ae:cT a++[[AV.str f]]=cT (a++[f]):=vc
   have Y:=A.trans aq;simp only[z,yg,yy]at Y;refine xB ae ?_;exact zJ (I (o',a++[f]) ac ⟨g,by refine wm ?_;omega,ao,by simpa using Y⟩) xf
def ziY(d:zv)(f:List zj)(H:zd)(p:Zi d<=ze)(v:yR f<=zt d):YR Tryz.prog 295 [.agg (z8 d),.o 7 (Zp f)] H .nil 1 (cT (Zl d f)) :=
 (zoW d f H p v).mono λe H' g=>by
  cases e with
  | ret y=>obtain⟨o,_,h,j⟩:=g;exact⟨o,h,by rw[zn];exact j⟩
  | pan y=>exact g
def OL(s:zg)(a b:B8):Bool:=(Wn s a).any λx=>zH x (Wn s b)
def zsv(s:zg)(a b:B8)(ad:zA s+1<=ze):zf 179 [.agg (zk s),.str a,.str b] (.bool (OL s a b)):=by
 have M:=zkb s a xg;have O:=zkb s b xg;have ai:=TS s a;have aj:=TS s b;have ah:zA s+1<=1099511627776:=by simpa only[ze]using ad
 have L:OL s a b=(Wn s a).any λx=>zH x (Wn s b):=rfl;generalize OL s a b=F,Wn s a=I,Wn s b=p at *
 have j:=zn I;have z:=zn p;obtain⟨al,am,sm⟩:=s;simp only[zk]at M O ⊢;refine zo ir179 λKP Q U=>?_;refine xh O ?_;refine xh M ?_;refine xc j ?_;refine zc I 20 ZY (λK A _ H=>(A.any λx=>zH x p)=I.any λx=>zH x p) () xb rfl ?_ ?_
 ·rintro _ H Y f h;refine xd j h ?_;exact @U _ _ [.bool false] rfl (wK L f)
 ·rintro K x A _ H Y ae h _ f ab;have C:=ZM ae;rw[List.any_cons]at f;refine xk j h z C ?_;refine zc p 26 ZY (λK A _ H=>zH x A=zH x p) () xb rfl ?_ ?_
  ·rintro _ X Z g v;rw[<-g]at f;refine xd z v ?_;exact zJ (ab () _ (by simpa[zH]using f)) xf
  ·rintro ag J ak _ X Z af v _ g ac;have W:=ZM af;simp only[zH]at g;by_cases y:J=x
   ·rw[if_pos y]at g;rw[<-g]at f;have G:(x=J)=True:=eq_true y.symm;refine xG j h z v C W G ?_;exact @U _ _ [.bool true] rfl (wK L f)
   ·rw[if_neg y]at g;have G:¬ x=J:=λaa=>y aa.symm;refine xG j h z v C W G ?_;exact zJ (ac () _ g) xf
def ZS(s:zg)(o:Y6):B8:=if o.k=1 then s.m else s.q
def zh9(s:zg)(o:Y6):zf 103 [.agg (zk s),.agg (cO o)] (.str (ZS s o)):=by
 obtain⟨k,h,y,ds,v⟩:=o;obtain⟨j,p,sm⟩:=s;simp only[zk,Xn];refine zo ir103 λKP Q g=>?_;by_cases f:k=1
 ·subst f;refine xa ?_;exact g rfl (by simp[ZS])
 ·refine xc f ?_;exact g rfl (by simp[ZS,f])
def zz(s:zg)(typ:B8):zj->B8| .mk k _ nm _ _ on _=>if k=0 then ((zG s typ nm).getD zF).t.nm else if k=2 then (if on=[]then typ else on)else []
def NK(s:zg)(typ:B8)(x:zj)(y:zA s<=ze):zf 177 [.agg (zk s),.str typ,.agg (cS x)] (.str (zz s typ x)):=by
 obtain⟨k,C,j,G,J,A,ab⟩:=x;have p:=OH s typ j y;simp only[zz];generalize (zG s typ j).isSome=X,(zG s typ j).getD zF=v at *
 obtain⟨U,W,⟨K,L,M⟩,O⟩:=v;obtain⟨Z,aa,sm⟩:=s;simp only[zk,YG,Zt]at p ⊢;refine zo ir177 λKP Q f=>?_;by_cases g:k=0
 ·subst g;refine xh p ?_;refine xa (zb λI Y=>?_);exact vm f
 by_cases h:k=2
 ·subst h;by_cases ho:A=[]
  ·have z:=eq_true ho;exact vo z f ho
  ·exact vo ho f ho
 ·exact vp g h f g h
def Rr(s:zg)(typ:B8):zj->Bool| .mk k _ nm _ _ _ _=>!decide (k=0)||(zG s typ nm).isSome
def zqb(s:zg)(typ:B8)(x:zj)(y:zA s<=ze):zf 86 [.agg (zk s),.str typ,.agg (cS x)] (.bool (Rr s typ x)):=by
 obtain⟨k,A,h,C,G,W,Z⟩:=x;have g:=OH s typ h y;simp only[Rr];generalize (zG s typ h).isSome=U,(zG s typ h).getD zF=v at *
 obtain⟨M,O,⟨I,J,K⟩,L⟩:=v;obtain⟨X,Y,sm⟩:=s;simp only[zk,YG,Zt]at g ⊢;refine zo ir86 λKP Q j=>?_;by_cases f:k=0
 ·subst f;refine xh g ?_;refine xa (zb λp z=>?_);exact vm j
 ·refine xt f g ?_;refine xa (zb λp z=>?_);exact vo f j f
mutual
def zac(s:zg)(p:B8->zj->Bool)(typ:B8):zj->Bool| .mk k al nm args dirs on sels=>p typ (.mk k al nm args dirs on sels)&&XC s p (zz s typ (.mk k al nm args dirs on [])) sels
def XC(s:zg)(p:B8->zj->Bool)(typ:B8):List zj->Bool
 | []=>true
 | x::r=>zac s p typ x&&XC s p typ r
end
def zax(s:zg)(typ:B8)(k:Int)(f h:B8)(args:List yU)(g:List yv)(j:B8)(xs p:List zj):zz s typ (.mk k f h args g j xs)=zz s typ (.mk k f h args g j p):=rfl
def ziq(f:FuncId)(h:List AV)(p:B8->zj->Bool)(B:Nat):Prop:=Program.callable Tryz.prog f=true/\∀g x,bS x<=B->zf f (.str g::.agg (cS x)::h) (.bool (p g x))
def zkh(s:zg)(f:FuncId)(j:List AV)(p:B8->zj->Bool)(B:Nat)(g:List zj):Prop:=∀h,yR g<=B->zf 175 [.agg (zk s),.str h,.o 7 (Zp g),.clo f [] j] (.bool (XC s p h g))
def zfw(s:zg)(f:FuncId)(I:List AV)(p:B8->zj->Bool)(B:Nat)(am:zA s<=ze)(ah:B<=ze)(hf:ziq f I p B)(A:List zj)(ao:∀k h y j v z g,zj.mk k h y j v z g∈A->zkh s f I p B g):zkh s f I p B A:=by
 intro C U;have ax:=YL A;have av:B<=1099511627776:=by simpa only[ze]using ah
 have J:=Z7 A;have M:=λx=>NK s C x am;have Z:=λk h y j v z g (ag:zj.mk k h y j v z g∈A) (U:yR g<=B)=>ao k h y j v z g ag (zz s C (.mk k h y j v z g)) U;obtain⟨ac,ad,sm⟩:=s;generalize aj:(⟨ac,ad,sm⟩:zg)=s at *
 have al:zk s=[.o 6 (Vd ac),.str ad,.str sm]:=xM aj
 simp only[al]at M Z ⊢;refine zo ir175 λKP Q K=>?_;refine xc J ?_;refine zc A 14 (λ_:Unit=>[(9,.bool true)]) (λaf ab _ H=>XC s p C ab=XC s p C A) () xb rfl ?_ ?_
 ·rintro _ H ae G L;refine xd J L ?_;exact @K _ _ [.bool true] rfl (xM G)
 ·rintro af x ab _ H ae W L _ G ai;have Y:=YY W;have aa:x∈A:=xv W
  have ak:=NJ aa;have X:=hf.2 C x xg;have O:=M x;rw[XC]at G;obtain⟨k,h,y,j,v,z,g⟩:=x;have an:=Z _ _ _ _ _ _ _ aa (by simp only[bS]at ak;omega);rw[zac,zax s C k h y j v z [] g]at G;generalize zz s C (.mk k h y j v z g)=ap,p C (.mk k h y j v z g)=aq at *
  generalize XC s p ap g=ar at *
  rw[Zt]at Y X O;refine xe J L Y (zb λau aw=>?_);refine xa ?_;refine⟨hf.1,za X ?_⟩;cases aq with
  | false =>refine xa ?_;exact @K _ _ [.bool false] rfl (xM G)
  | true =>
   refine xh O ?_;refine xh an ?_;cases ar with
   | false =>refine xa ?_;exact @K _ _ [.bool false] rfl (xM G)
   | true =>refine xa ?_;exact zJ (ai () _ (xy G)) xf
def zqE(s:zg)(f:FuncId)(v:List AV)(p:B8->zj->Bool)(B:Nat)(I:zA s<=ze)(G:B<=ze)(hf:ziq f v p B)(C:List zj):zkh s f v p B C:=by
 have J:∀x:zj,∀k h z j y A g,x=.mk k h z j y A g->zkh s f v p B g:=zj.ind λk h z j y A C L=>by intro W M X O U Y g e;cases e;exact zfw s f v p B I G hf C λk h z j y A g K=>L _ K _ _ _ _ _ _ _ rfl
 exact zfw s f v p B I G hf C λk h z j y A g _=>J _ k h z j y A g rfl
def Yw(s:zg)(d:zv)(p:B8->zj->Bool):Bool:=(d.ops.all λo=>XC s p (ZS s o) o.sels)&&d.frags.all λf=>XC s p f.on f.sels
def ziz(s:zg)(d:zv)(f:FuncId)(M:List AV)(p:B8->zj->Bool)(an:zA s<=ze)(Z:zt d<=ze)(hf:ziq f M p (zt d)):
  zf 84 [.agg (zk s),.agg (z8 d),.clo f [] M] (.bool (Yw s d p)):=by
 have I:=λar=>zqE s f M p (zt d) an Z hf ar;have Y:=λo=>zh9 s o;have aj:Ub d.ops+XZ d.frags<=1099511627776:=by simpa only[ze,zt]using Z
 have am:=ZJ d.ops;have al:=yP d.frags;have J:=ZI d.ops;have K:=Z5 d.frags;have aa:=λ(o:Y6) (ho:o∈d.ops)=>(by obtain⟨a,b,j⟩:=List.append_of_mem ho;have:=Wc a o b;rw[<-j]at this;simp only[bO]at this;simp only[zt];omega:yR o.sels<=zt d);have hfr:=λ(f:yE) (af:f∈d.frags)=>(by have:=WB af;have:=Xb f;simp only[zt];omega:yR f.sels<=zt d);have G:Yw s d p=((d.ops.all λo=>XC s p (ZS s o) o.sels)&&d.frags.all λf=>XC s p f.on f.sels):=rfl;generalize Yw s d p=F at *
 obtain⟨ac,X⟩:=d;simp only at J K am al aj aa hfr G;obtain⟨ad,ae,sm⟩:=s;generalize ai:(⟨ad,ae,sm⟩:zg)=s at *
 have ak:zk s=[.o 6 (Vd ad),.str ae,.str sm]:=xM ai
 unfold zkh at I;simp only[ak,z8]at I Y ⊢;refine zo ir84 λKP Q ah=>?_;have fin:∀r,F=r->∀ρ H,zx ρ H ir84.1.res=some [.bool r]->Q .ret ρ H:=λr e ρ H ag=>ah ag (wa e);refine xc J ?_;refine zc ac 14 ZY (λO C _ H=>(C.all λo=>XC s p (ZS s o) o.sels)=ac.all λo=>XC s p (ZS s o) o.sels) () xb rfl ?_ ?_
 ·rintro _ H L g v;refine xe J v K ?_;refine zc X 31 ZY (λO C _ H=>(C.all λf=>XC s p f.on f.sels)=X.all λf=>XC s p f.on f.sels) () xb rfl ?_ ?_
  ·rintro _ H L h v;refine xd K v ?_;exact fin true (by rw[G,<-g,<-h];rfl) _ _ rfl
  ·rintro O x C _ H L j v _ h U;have y:=Ym j;have A:=I x.sels x.on (hfr x (xv j));rw[List.all_cons]at h;obtain⟨ao,ap,ds,W⟩:=x;simp only at A h;rw[Ys]at y;refine xe K v y (zb λau aw=>?_);refine xh A ?_;cases z:XC s p ap W with
   | false =>rw[z]at h;refine xa ?_;exact fin false (wY G h) _ _ rfl
   | true =>rw[z]at h;refine xa ?_;exact zJ (U () _ (xy h)) xf
 ·rintro O x C _ H L j v _ g U;have y:=Z6 j;have A:=I x.sels (ZS s x) (aa x (xv j));have ab:=Y x;rw[List.all_cons]at g;generalize ZS s x=aq at *
  obtain⟨k,ao,ay,ds,W⟩:=x;simp only at A g;rw[Xn]at y ab;refine xe J v y (zb λav ax=>?_);refine xh ab ?_;refine xh A ?_;cases z:XC s p aq W with
  | false =>rw[z]at g;refine xa ?_;exact fin false (wY G g) _ _ rfl
  | true =>rw[z]at g;refine xa ?_;exact zJ (U () _ (xy g)) xf
def NY(s:zg)(typ:B8):zj->Bool| .mk k al nm args dirs on sels=>!decide (k=0)||((!Z0 s (zz s typ (.mk k al nm args dirs on sels))&&!y9 s (zz s typ (.mk k al nm args dirs on sels))) || (y9 s (zz s typ (.mk k al nm args dirs on sels))==decide (0<sels.length)))
def zqj(s:zg)(typ:B8)(x:zj)(y:zA s<=ze):zf 87 [.agg (zk s),.str typ,.agg (cS x)] (.bool (NY s typ x)):=by
 have A:=NK s typ x y;have z:=zR y;have v:=zcv s (zz s typ x) z;have g:=MN s (zz s typ x) z;obtain⟨k,G,L,I,J,M,j⟩:=x;simp only[NY];generalize zz s typ (.mk k G L I J M j)=t at *
 generalize Z0 s t=O,y9 s t=C at *
 have f:=Z7 j;obtain⟨U,W,sm⟩:=s;simp only[zk,Zt]at A v g ⊢;refine zo ir87 λKP Q h=>?_;by_cases p:k=0
 case neg =>exact vo p h p
 subst p;refine xh A ?_;refine xh v ?_;cases O with
 | true =>refine xt f g ?_;refine xc f ?_;exact h rfl (by cases C<;>by_cases K:(0:Int)<j.length<;>simp_all )
 | false =>
  refine xt f g ?_;cases C with
  | false =>refine xc f ?_;exact xo h
  | true =>refine xt f g ?_;refine xc f ?_;exact h rfl (by by_cases K:(0:Int)<j.length<;>simp_all )
def zfv(s:zg)(d:zv)(typ:B8):zj->Bool| .mk k _ nm _ _ on _=>if k=2 then decide (on=[])||OL s typ on else if k=1 then OL s typ ((yb d nm).getD Vt).on else true
def zo8(s:zg)(d:zv)(typ:B8)(x:zj)(A:zA s+1<=ze)(C:d.frags.length<=ze):zf 88 [.agg (zk s),.agg (z8 d),.str typ,.agg (cS x)] (.bool (zfv s d typ x)):=by
 have j:=λn=>zsv s typ n A;obtain⟨k,I,p,J,L,v,ac⟩:=x;have hf:=zcS d p C;simp only[zfv];generalize (yb d p).isSome=W,(yb d p).getD Vt=y at *
 obtain⟨O,z,M,X⟩:=y;obtain⟨Z,U⟩:=d;obtain⟨aa,ab,sm⟩:=s;simp only[zk,z8,Zt,Ys]at j hf ⊢;refine zo ir88 λKP Q f=>?_;by_cases h:k=2
 ·subst h;by_cases ho:v=[]
  ·have G:=eq_true ho;exact vo G f ho
  ·refine xt ho (j v) ?_;exact vn f ho
 by_cases g:k=1
 ·subst g;refine xh hf ?_;refine xa (zb λK Y=>?_);refine xh (j z) ?_;exact vm f
 ·exact vp g h f g h
def LK(s:zg)(d:zv)(n:Int)(typ:B8)(x:zj):Bool:=if n=9 then Rr s typ x else if n=10 then NY s typ x else if n=11 then zfv s d typ x else false
def zhs(s:zg)(d:zv)(n:Int)(z:zA s+1<=ze)(A:d.frags.length<=ze)(typ:B8)(x:zj):zf 85 [.str typ,.agg (cS x),.view [.i n],.view (zk s),.view (z8 d)] (.bool (LK s d n typ x)):=by
 have p:=zqb s typ x xg;have v:=zqj s typ x xg;have y:=zo8 s d typ x z A;unfold LK;generalize Rr s typ x=W,NY s typ x=X,zfv s d typ x=Y at *
 obtain⟨k,C,K,G,I,L,Z⟩:=x;obtain⟨M,J⟩:=d;obtain⟨O,U,sm⟩:=s;simp only[zk,z8,Zt]at p v y ⊢;refine zo ir85 λKP Q f=>?_;by_cases g:n=9
 ·subst g;refine xh p ?_;exact vm f
 by_cases h:n=10
 ·subst h;refine xh v ?_;exact vm f
 by_cases j:n=11
 ·subst j;refine xh y ?_;exact vm f
 ·refine xe g h j ?_;exact f rfl (by simp[g,h,j])
def RI(s:zg)(d:zv)(n:Int):Bool:=Yw s d (LK s d n)&&(decide (9<=n)&&decide (n<=11))
def ziD(s:zg)(d:zv)(n:Int)(p:zA s+1<=ze)(j:zt d<=ze):zf 36 [.agg (zk s),.agg (z8 d),.i n] (.bool (RI s d n)):=by
 have C:=yP d.frags;have A:Ub d.ops+XZ d.frags<=ze:=j;have h:=ziz s d 85 [.view [.i n],.view (zk s),.view (z8 d)] (LK s d n) xg j ⟨by kernel_rfl,λv x _=>zhs s d n p xg v x⟩;unfold RI;generalize Yw s d (LK s d n)=y at *
 obtain⟨G,z⟩:=d;obtain⟨I,J,sm⟩:=s;simp only[zk,z8]at h ⊢;refine zo ir36 λKP Q g=>?_;refine xh h ?_;cases y with
 | false =>exact vm g
 | true =>
  by_cases f:9<=n
  ·exact vo f g f
  ·exact vo f g f
def T2(f:B8)(args:List yU):cD ⟨f,args⟩=[.str f,.o 6 (Ya args)]:=rfl
def XI(n:B8):Option z6:=if n=[115,107,105,112]∨n=[105,110,99,108,117,100,101]then some ⟨[105,102],⟨[66,111,111,108,101,97,110],0,1⟩,false,zV⟩else none
def KE(n:B8):zf 181 [.str n] (.tup [.agg (cW ((XI n).getD zW)),.bool (XI n).isSome]):=by
 refine zo ir181 λKP Q A=>?_;have fin:∀o,XI n=o->∀ρ H h,zx ρ H ir181.1.res=some h->(Yz h).strip=.tup [.agg (cW (o.getD zW)),.bool o.isSome]->Q .ret ρ H:=λo e ρ H h f g=>A f (by rw[g,e]);by_cases f:n=[115,107,105,112]
 ·have e:XI n=some ⟨[105,102],⟨[66,111,111,108,101,97,110],0,1⟩,false,zV⟩:=if_pos (.inl f);have y:=eq_true f;refine xa (zb λj p=>?_);refine xc y ?_;exact fin _ e _ _ [.agg [.str [105,102],.str [66,111,111,108,101,97,110],.i 0,.i 1,.bool false,.i 0,.i 0,.str [],.sl .nil 5 [],.sl .nil 6 []],.bool true] xb rfl
 by_cases g:n=[105,110,99,108,117,100,101]
 ·have e:XI n=some ⟨[105,102],⟨[66,111,111,108,101,97,110],0,1⟩,false,zV⟩:=if_pos (.inr g);have z:=eq_true g;refine xa (zb λj p=>?_);refine xd f z ?_;exact fin _ e _ _ [.agg [.str [105,102],.str [66,111,111,108,101,97,110],.i 0,.i 1,.bool false,.i 0,.i 0,.str [],.sl .nil 5 [],.sl .nil 6 []],.bool true] xb rfl
 have e:XI n=none:=if_neg (λv=>v.elim f g);refine xa (zb λj p=>?_);refine xd f g ?_;exact fin _ e _ _ [.agg [.str [],.str [],.i 0,.i 0,.bool false,.i 0,.i 0,.str [],.sl .nil 5 [],.sl .nil 6 []],.bool false] xb rfl
def YE(l:List yv):Bool:=l.all λd=>(XI d.nm).isSome
def zhm(l:List yv)(M:l.length<=ze):zf 90 [.o 2 (ZE l)] (.bool (YE l)):=by
 refine zo ir90 λKP Q z=>?_;have j:=YB l;simp only[ze]at M;refine xc j ?_;refine zc l 9 ZY (λI h _ H=>YE h=YE l) () xb rfl ?_ ?_
 ·rintro _ H G f p;refine xd j p ?_;exact @z _ _ [.bool true] rfl (xM f)
 ·rintro I x h _ H G L p _ f J;have A:=Y0 L;have O:YE (x::h)=((XI x.nm).isSome&&YE h):=by simp[YE]
  rw[O]at f;obtain⟨v,U⟩:=x;have y:=KE v;simp only at f;rw[T2]at A;generalize (XI v).getD zW=w at *
  obtain⟨af,⟨Z,aa,ab⟩,ac,⟨wk,ag,ah,ad,ae⟩⟩:=w;rw[zX]at y;refine xe j p A (zb λW Y=>?_);refine xh y ?_;refine xa (zb λX K=>?_);have g:=ZB K;cases C:(XI v).isSome with
  | false =>rw[C]at f;refine xd g (Ne.symm g) ?_;exact @z _ _ [.bool false] rfl (xM f)
  | true =>rw[C]at f;refine xd g (Ne.symm g) ?_;exact zJ (J () _ (xy f)) xf
def zf2(l:List yv):zf 92 [.o 2 (ZE l)] (.bool (decide (l.length=0))):=by have f:=YB l;refine zo ir92 λKP Q g=>?_;refine xc f ?_;exact xo g
def Mq(l:List (List yv)):List (List AV):=l.map λx=>[.o 2 (ZE x)]
def Xq(l:List (List yv)):(Mq l).length=l.length:=by simp[Mq]
def zfA{l a:List (List yv)}{x:List yv}{b:List (List yv)}(h:l=a++x::b):(Mq l).getD a.length []=[.o 2 (ZE x)]:=Z2 h
def Ui(d:zv):List (List yv):=d.ops.map (·.dirs)++d.frags.map (·.dirs)
def zsN(d:zv)(H:zd)(ac:zt d<=ze):YR Tryz.prog 180 [.agg (z8 d)] H .nil 1 (Mq (Ui d)):=by
 obtain⟨g,v⟩:=d;have ak:Ub g+XZ v<=1099511627776:=by simpa only[ze,zt]using ac
 have W:=ZI g;have X:=Z5 v;have al:=ZJ g;have am:=yP v;rw[show z8 ⟨g,v⟩=[.o 5 (PR g),.o 4 (Pf v)] from rfl];refine Xt ir180 λKP Q ab aj=>?_;refine xc W ?_;refine zc g 11 (λx:Own×List (List yv)=>[(3,.sl x.1 1 (Mq x.2))]) (λf Z x H'=>x.2=f.map (·.dirs)/\zQ H .nil H' x.1 f.length 1) (.nil,[]) (by simp(disch:=omega) only[Mq,List.map,go_sem]) ⟨rfl,zQ.refl (o:=.nil) (n:=0) rfl⟩ ?_ ?_
 ·rintro⟨o1,a⟩ I K ⟨p,h⟩ y;simp only at p;subst p;replace h:zQ H .nil I o1 g.length 1:=h;refine xe W y X ?_;refine zc v 24 (λx:Own×List (List yv)=>[(3,.sl x.1 1 (Mq x.2))]) (λf Z x H'=>x.2=g.map (·.dirs)++f.map (·.dirs)/\zQ H .nil H' x.1 (g.length+f.length) 1) (o1,g.map (·.dirs)) xb ⟨by simp,h⟩ ?_ ?_
  ·rintro⟨o2,a⟩ G K ⟨p,h⟩ y;simp only at p;subst p;refine xd X y ?_;refine ab _ _ G G [.sl o2 1 (Mq (Ui ⟨g,v⟩))] nofun (by simp(disch:=omega) only[ir180,zx,yB,Ui,go_sem]) (yT.refl _) ⟨o2,rfl,by rw[Xq];simpa[Ui]using h⟩
  ·rintro f x Z ⟨o2,a⟩ G K O y _ ⟨p,h⟩ M;have z:=Ym O;simp only at p;subst p;have j:=Xq (g.map (·.dirs)++f.map (·.dirs));simp only[ZX,List.length_map]at j;replace h:zQ H .nil G o2 (g.length+f.length) 1:=h;obtain⟨Y,af,ds,aa⟩:=x;rw[Ys]at z;refine xe X y z (zb λai ae=>?_);have C:=h.upd (x:=.cells [.str Y,.str af,.o 2 (ZE ds),.o 7 (Zp aa)]) ae;refine xa (zp (by rw[j];exact C.own) ?_ ?_ λo' J U=>?_)
   ·simp only[j,yg,yy];omega
   ·refine xR j ?_;omega
   have L:Mq (g.map (·.dirs)++f.map (·.dirs))++[[AV.o 2 (ZE ds)]]=Mq (g.map (·.dirs)++(f.map (·.dirs)++[ds])):=by simp[Mq]
   have A:=C.trans U;simp only[j,yg,yy]at A;refine xB L ?_;exact zJ (M (o',g.map (·.dirs)++(f.map (·.dirs)++[ds])) J ⟨by simp,by simpa[Nat.add_assoc]using A⟩) xf
 ·rintro f x Z ⟨o1,a⟩ I K O y _ ⟨p,h⟩ M;have z:=Z6 O;simp only at p;subst p;have j:=Xq (f.map (·.dirs));simp only[List.length_map]at j;replace h:zQ H .nil I o1 f.length 1:=h;obtain⟨k,Y,ag,ds,aa⟩:=x;rw[Xn]at z;refine xe W y z (zb λah ad=>?_);have C:=h.upd (x:=.cells [.i k,.str Y,.o 10 (Yg ag),.o 2 (ZE ds),.o 7 (Zp aa)]) ad;refine xa (zp (by rw[j];exact C.own) ?_ ?_ λo' J U=>?_)
  ·simp only[j,yg,yy];omega
  ·refine xR j ?_;omega
  have L:Mq (f.map (·.dirs))++[[AV.o 2 (ZE ds)]]=Mq (f.map (·.dirs)++[ds]):=by simp[Mq]
  have A:=C.trans U;simp only[j,yg,yy]at A;refine xB L ?_;exact zJ (M (o',f.map (·.dirs)++[ds]) J ⟨by simp,by simpa using A⟩) xf
def zjA(f:FuncId)(p:List yv->Bool):Prop:=Program.callable Tryz.prog f=true/\∀l:List yv,l.length<=ze->zf f [.o 2 (ZE l)] (.bool (p l))
def zjo{d:zv}{l:List yv}(h:l∈Ui d):l.length<=zt d:=by
 simp only[Ui,List.mem_append,List.mem_map]at h;rcases h with ⟨o,ho,rfl⟩|⟨f,hf,rfl⟩
 ·obtain⟨a,b,j⟩:=List.append_of_mem ho;have:=Wc a o b;have g:=Y3 o.dirs;rw[<-j]at this;simp only[bO]at this;simp only[zt];omega
 ·have:=WB hf;have g:=Y3 f.dirs;simp only[bF]at this;simp only[zt];omega
def zds(d:zv)(f:FuncId)(p:List yv->Bool)(A:zt d<=ze)(hf:zjA f p):zf 89 [.agg (z8 d),.clo f [] []] (.bool ((Ui d).all p)):=by
 have y:=λH=>zsN d H A;have U:=λl (L:l∈Ui d)=>hf.2 l (by have:=zjo L;omega);have ab:=ZJ d.ops;have aa:=yP d.frags;have Z:Ub d.ops+XZ d.frags<=1099511627776:=by simpa only[ze,zt]using A
 have hlen:(Ui d).length<=1099511627776:=by simp only[Ui,ZX,List.length_map];omega
 generalize Ui d=h at *
 have v:=Xq h;obtain⟨ad,Y⟩:=d;simp only[z8]at y ⊢;refine zo ir89 λKP Q z=>?_;refine xa (zu (y _) λo2 X ac=>?_);refine xc v ?_;refine zc h 10 ZY (λK I _ H=>I.all p=h.all p) () xb rfl ?_ ?_
 ·rintro _ H J g j;refine xd v j ?_;exact @z _ _ [.bool true] rfl (xM g)
 ·rintro K x I _ H J C j _ g M;have O:=zfA C;have W:=U x (xv C);rw[List.all_cons]at g;refine xe v j O ?_;refine⟨hf.1,za W ?_⟩;cases G:p x with
  | false =>rw[G]at g;refine xa ?_;exact @z _ _ [.bool false] rfl (xM g)
  | true =>rw[G]at g;refine xa ?_;exact zJ (M () _ (xy g)) xf
def XE:zj->List yv| .mk _ _ _ _ dirs _ _=>dirs
def Ke(s:zg)(d:zv)(f:FuncId)(p:List yv->Bool)(z:zA s<=ze)(y:zt d<=ze)(hf:zjA f p):zf 91 [.agg (zk s),.agg (z8 d),.clo f [] []] (.bool (Yw s d λ_ x=>p (XE x))):=by
 have j:=ziz s d 182 [.view [.clo f [] []]] (λ_ x=>p (XE x)) z y ⟨by kernel_rfl,λW x A=>by obtain⟨k,C,K,G,h,L,Y⟩:=x;have J:=Y3 h;have v:=hf.2 h (by simp only[bS]at A;omega);simp only[XE];rw[Zt];refine zo ir182 λKP Q g=>?_;refine xa ?_;refine⟨hf.1,za v ?_⟩;refine xa ?_;exact xo g⟩;generalize (Yw s d λ_ x=>p (XE x))=X at *
 obtain⟨M,I⟩:=d;obtain⟨O,U,sm⟩:=s;simp only[zk,z8]at j ⊢;refine zo ir91 λKP Q g=>?_;refine xh j ?_;exact vm g
def UJ:List yv->List yv->Bool
 | _,[]=>true
 | a,x::r=>!(a.any λf=>decide (f.nm=x.nm))&&UJ (a++[x]) r
def WL(l:List yv):Bool:=UJ [] l
def ziK(l:List yv)(ai:l.length<=ze):zf 93 [.o 2 (ZE l)] (.bool (WL l)):=by
 refine zo ir93 λKP Q L=>?_;have y:=YB l;have ad:WL l=UJ [] l:=rfl;generalize WL l=F at *
 simp only[ze]at ai;refine xc y ?_;refine zc l 10 (λ_:Unit=>[(3,.bool true)]) (λf W _ H=>UJ f W=F) () xb ad.symm ?_ ?_
 ·rintro _ H Y g I;refine xd y I ?_;exact @L _ _ [.bool true] rfl (xM g)
 ·rintro f x W _ H Y M I _ g ae;have O:=Y0 M;have ak:(ZE l).take f.length=ZE f:=by rw[M];simp[ZE]
  have aj:(f.length:Int)<=l.length:=xg
  have G:=YB f;simp only[UJ]at g;obtain⟨A,aa⟩:=x;simp only at g;rw[T2]at O;refine xe y I O (zb λK an=>?_);refine xk ak aj y G ?_;refine zc f 19 ZY (λac X _ C=>C K=some (.cells [.str A,.o 6 (Ya aa)])/\(X.any λv=>decide (v.nm=A))=f.any λv=>decide (v.nm=A)) () xb ⟨upd_same ..,rfl⟩ ?_ ?_
  ·rintro _ C Z ⟨p,h⟩ J;rw[<-h]at g;refine xd G J ?_;exact zJ (ae () _ (xy g)) xf
  ·rintro ac v X _ C Z ah J _ ⟨p,h⟩ af;have U:=Y0 ah;rw[List.any_cons]at h;obtain⟨am,ao⟩:=v;simp only at h;rw[T2]at U;refine xe G J U (zb λab ag=>?_);have j:K≠ab:=nen2 p ag;by_cases z:am=A
   ·rw[<-h]at g;have al:=eq_true z;refine xk p j (Ne.symm j) al ?_;exact @L _ _ [.bool false] rfl (by rw[<-g];simp[z,Yz,AV.strip,AV.strip1])
   ·refine xk p j (Ne.symm j) z ?_;exact zJ (af () _ ⟨wx p j (Ne.symm j),by rw[<-h];simp[z]⟩) xf
def Rt(s:zg)(d:zv)(n:Int):Bool :=
 if n=12 then (Ui d).all YE&&Yw s d (λ_ x=>YE (XE x))else if n=13 then (Ui d).all (λl=>decide (l.length=0))
 else if n=14 then (Ui d).all WL&&Yw s d (λ_ x=>WL (XE x))else false
def zhL(s:zg)(d:zv)(n:Int)(J:zA s<=ze)(g:zt d<=ze):zf 37 [.agg (zk s),.agg (z8 d),.i n] (.bool (Rt s d n)):=by
 have v:zjA 90 YE:=⟨by kernel_rfl,zhm⟩;have K:zjA 92 (λl=>decide (l.length=0)):=⟨by kernel_rfl,λl _=>zf2 l⟩;have y:zjA 93 WL:=⟨by kernel_rfl,ziK⟩;have z:=zds d _ _ g v;have A:=zds d _ _ g K;have C:=zds d _ _ g y;have G:=Ke s d _ _ J g v;have I:=Ke s d _ _ J g y;unfold Rt;generalize (Ui d).all YE=L,(Ui d).all WL=M,((Ui d).all λl=>decide (l.length=0))=Y,(Yw s d λ_ x=>YE (XE x))=Z,(Yw s d λ_ x=>WL (XE x))=aa at *
 obtain⟨U,O⟩:=d;obtain⟨W,X,sm⟩:=s;simp only[zk,z8]at z A C G I ⊢;refine zo ir37 λKP Q f=>?_;by_cases h:n=12
 ·subst h;refine xh z ?_;cases L with
  | false =>exact vm f
  | true =>refine xh G ?_;exact vm f
 by_cases j:n=13
 ·subst j;refine xh A ?_;exact vm f
 by_cases p:n=14
 ·subst p;refine xh C ?_;cases M with
  | false =>exact vm f
  | true =>refine xh I ?_;exact vm f
 ·refine xe h j p ?_;exact f rfl (by simp[h,j,p])
end Go.Proofs.YtcbfcliickppiaaGreatDoor
