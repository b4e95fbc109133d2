import Derived.Test.YtcbfcliickppiaaGreatDoorM8
set_option maxRecDepth 100000
set_option linter.all false
namespace Go.Proofs.YtcbfcliickppiaaGreatDoor
open Go.Ab
def zb8{s:zg}{n:B8}{d:yX}(h:zL s n=some d):d.nm=n:=by
 unfold zL at h;split at h
 ·cases h;rfl
 ·simpa[Mg]using List.find?_some h
def zg8(s:zg)(d:yX)(n:B8):Qn s d n=(!(zL s n).isSome||(!decide (((zL s n).getD zE).k=2)||(decide (((zL s n).getD zE).nm=d.nm)||((zL s n).getD zE).faces.any λm=>!zH m d.faces))):=by
 unfold Qn;cases f:zL s n with
 | none=>rfl
 | some g=>simp[zb8 f]
def zmN(s:zg)(W:zA s<=ze):zf 123 [.agg (zk s)] (.bool (Ty s)):=by
 have ap:=λ(d:yX) (K:d∈s.defs)=>SQ K W;have ae:=zR W;have hf:=λn=>QE s n ae;have bn:=λn=>(VI s n W).1;have b8:zA s<=1099511627776:=by simpa only[ze]using W
 have ab:Ty s=s.defs.all (Nb s):=rfl;have ba:∀d,Nb s d=!d.faces.any (Qn s d):=λ_=>rfl;have a9:=zg8 s;generalize Ty s=F,Nb s=an,Qn s=bc at *
 obtain⟨I,az,sm⟩:=s;generalize ao:(⟨I,az,sm⟩:zg)=s at *
 have bh:zk s=[.o 6 (Vd I),.str az,.str sm]:=xM ao
 have bv:s.defs=I:=by rw[<-ao]
 have ac:=YX I;rw[bv]at ae ab ap;simp only[ze]at ae;simp only[bh]at hf ⊢;refine zo ir123 λKP Q L=>?_;refine xc ac ?_;refine zc I 3 ZY (λaa G _ H=>G.all an=I.all an) () xb rfl ?_ ?_
 ·rintro _ H a5 v af;refine xd ac af ?_;exact L rfl (x9 ab v)
 ·rintro aa x G _ H a5 aq af _ v bd;have au:=Xc aq;have bw:=ap x (xv aq);have J:=ba x;have al:=a9 x;rw[List.all_cons]at v;generalize bc x=A at *
  obtain⟨k,aj,f,am,ay,ax⟩:=x;simp only[bE,ze]at bw;have b3:=ZN f;have ad:=zn f;rw[zS]at au;simp only at J al;refine xe ac af au (zb λZ b7=>?_);refine xc ad ?_;refine zc f 5 ZY (λaa G _ H=>H Z=some (.cells [.i k,.str aj,.o 1 (cT f),.o 6 (TK am),.o 1 (cT ay),.o 10 (Yg ax)])/\G.any A=f.any A) () xb ⟨upd_same ..,rfl⟩ ?_ ?_
  ·rintro _ a3 a6 ⟨p,C⟩ ag;rw[<-C]at J;rw[J]at v;refine xe ad ag p ?_;exact zJ (bd () _ (xy v)) xf
  ·rintro b5 z bx _ a3 a6 bj ag _ ⟨p,C⟩ be;have bq:=ZM bj;have g:=al z;have ar:=hf z;have bp:=bn z;rw[List.any_cons]at C;have bad:A z=true->F=false:=λK=>by
    rw[K,Bool.true_or]at C;rw[<-C]at J;rw[J]at v;rw[ab,<-v];rfl
   have good:A z=false->bx.any A=f.any A:=λK=>by rwa [K,Bool.false_or]at C
   generalize (zL s z).isSome=ok,(zL s z).getD zE=a8 at *
   obtain⟨a0,a1,M,bz,b2,b1⟩:=a8;have b4:=ZN M;have ai:=zn M;rw[zS]at ar;simp only at g bp;refine xE ad ag p bq ar ?_;refine xa (zb λak bg=>?_);have h:Z≠ak:=nen2 p bg;cases ok with
   | false =>have j:=bad (wa g);exact vn L j
   | true =>
   by_cases Y:a0=2
   case neg =>have j:=bad (by rw[g,decide_eq_false Y];simp);refine xe h (Ne.symm h) Y ?_;exact xj L j
   have aw:=eq_true Y;by_cases X:a1=aj
   ·have j:=bad (by rw[g,decide_eq_true X];simp);have bu:=eq_true X;refine xp h (Ne.symm h) aw p bu ?_;exact xj L j
   rw[decide_eq_true Y,decide_eq_false X]at g;simp only[Bool.not_true,Bool.false_or]at g;refine xu h (Ne.symm h) aw p X ai ?_;refine zc M 8 ZY (λaa G _ H=>H Z=some (.cells [.i k,.str aj,.o 1 (cT f),.o 6 (TK am),.o 1 (cT ay),.o 10 (Yg ax)])/\H ak=some (.cells [.i a0,.str a1,.o 1 (cT M),.o 6 (TK bz),.o 1 (cT b2),.o 10 (Yg b1)])/\(G.any λm=>!zH m f)=M.any λm=>!zH m f) () xb ⟨wx p h (Ne.symm h),upd_same ..,rfl⟩ ?_ ?_
   ·rintro _ a4 a7 ⟨O,U,y⟩ ah;rw[<-y]at g;refine xe ai ah U ?_;exact zJ (be () _ ⟨O,good g⟩) xf
   ·rintro b6 a2 b9 _ a4 a7 bl ah _ ⟨O,U,y⟩ bf;have br:=ZM bl;rw[List.any_cons]at y;refine xU ai ah U O br (TG f a2 xi) ?_;cases av:zH a2 f with
    | false =>rw[av,Bool.not_false,Bool.true_or]at y;have j:=bad (by rw[g,<-y]);exact vn L j
    | true =>rw[av,Bool.not_true,Bool.false_or]at y;refine xa ?_;exact zJ (bf () _ ⟨O,U,y⟩) xf
def zpQ(s:zg)(f g:Yv)(av:zA s+1<=ze)(hf:bL f<=ze)(aj:bL g<=ze):zf 255 [.agg (zk s),.agg (cL f),.agg (cL g)] (.bool (Q9 s f.t g.t&&Uc f g)):=by
 have an:=zru s f.t g.t av (by simp only[bL]at hf;omega) (by simp only[bL]at aj;omega);have I:Uc f g=(g.ps.all (zaY f.ps)&&f.ps.all (zak g.ps)):=rfl;generalize Q9 s f.t g.t=ao,Uc f g=a2 at *
 obtain⟨be,j,⟨a9,ba,bc⟩,bd⟩:=f;obtain⟨bl,p,⟨bf,bg,bh⟩,bj⟩:=g;simp only[bL,ze]at hf aj;simp only at I;have bp:=yr j;have bq:=yr p;have G:=yJ j;have K:=yJ p;obtain⟨br,bu,sm⟩:=s;simp only[zk,YQ]at an;rw[YG,YG];simp only[zk];generalize ae:(ao&&a2)=F;refine zo ir255 λKP Q ar=>?_;have fin:∀r,F=r->∀ρ H,zx ρ H ir255.1.res=some [.bool r]->Q .ret ρ H:=λr e ρ H aq=>ar aq (wa e);refine xh an ?_;cases ao with
 | false =>refine xa ?_;exact fin false (xM ae) _ _ rfl
 | true =>
 rw[Bool.true_and]at ae;subst ae;refine xc K ?_;refine zc p 7 ZY (λad U _ H=>U.all (zaY j)=p.all (zaY j)) () xb rfl ?_ ?_
 ·rintro _ H ac v h;refine xe G K h ?_;refine zc j 10 ZY (λad U _ H=>U.all (zak p)=j.all (zak p)) () xb rfl ?_ ?_
  ·rintro _ H ac A h;refine xd G h ?_;exact fin true (by rw[I,<-v,<-A];rfl) _ _ rfl
  ·rintro ad x U _ H ac Z h _ A J;have y:=y6 Z;have C:=QY p x.nm xi;have ag:=isR x.t (by have:=@YW x j (xv Z);simp only[bW]at this;refine xl ?_;omega);rw[List.all_cons]at A;have z:zak p x=((zB p x.nm).isSome||!(SK x.t&&!x.has)):=rfl;generalize SK x.t=a1 at *
   obtain⟨ab,⟨W,X,Y⟩,ak,⟨a3,a6,a7,a4,a5⟩⟩:=x;rw[zX]at y;simp only[YQ]at C z ag;generalize (zB p ab).isSome=ok,(zB p ab).getD zW=af at *
   obtain⟨ay,⟨L,M,O⟩,aw,⟨pk,az,a0,pl,ax⟩⟩:=af;rw[zX]at C;rw[z]at A;refine xm G h y C ?_;refine xa (zb λa8 bn=>?_);cases ok with
   | true =>refine xa ?_;exact zJ (J () _ (xy A)) xf
   | false =>
    refine xm G h y ag ?_;cases a1 with
    | false =>refine xa ?_;exact zJ (J () _ (xy A)) xf
    | true =>
     cases ak with
     | true =>refine xe G h y ?_;exact zJ (J () _ (xy A)) xf
     | false =>refine xe G h y ?_;exact fin false (wY I A) _ _ rfl
 ·rintro ad x U _ H ac Z h _ v J;have y:=y6 Z;have C:=QY j x.nm xi;rw[List.all_cons]at v;have z:zaY j x=match zB j x.nm with|none=>false|some q=>zdG q.t x.t:=rfl
  obtain⟨ab,⟨W,X,Y⟩,ak,⟨a3,a6,a7,a4,a5⟩⟩:=x;rw[zX]at y;simp only at C z;refine xm K h y C ?_;cases al:zB j ab with
  | none =>rw[al]at z;rw[z]at v;refine x2 (zb λap au=>?_);refine xa ?_;exact fin false (wY I v) _ _ rfl
  | some af =>
   rw[al]at z;simp only at z;rw[z]at v;obtain⟨ay,⟨L,M,O⟩,aw,⟨pk,az,a0,pl,ax⟩⟩:=af;simp only at v;refine x6 (zb λap au=>?_);have ah:yj [K1.s,K1.i .i64,K1.i .i64] [.str L,.i M,.i O]=true:=by simp[yj,K1.fits]
   have ai:yj [K1.s,K1.i .i64,K1.i .i64] [.str W,.i X,.i Y]=true:=by simp[yj,K1.fits]
   have aa:VV [.str L,.i M,.i O] [.str W,.i X,.i Y]=zdG ⟨L,M,O⟩ ⟨W,X,Y⟩:=rfl;cases am:zdG ⟨L,M,O⟩ ⟨W,X,Y⟩with
   | true =>rw[am]at v aa;refine xu K h y ah ai aa ?_;exact zJ (J () _ (xy v)) xf
   | false =>rw[am]at v aa;refine xu K h y ah ai aa ?_;exact fin false (wY I v) _ _ rfl
def zbJ(s:zg)(d:yX)(g:Yv):Bool:=match zG s d.nm g.nm with|none=>false|some f=>Q9 s f.t g.t&&Uc f g
def zbn(s:zg)(d:yX)(n:B8):Bool:=((zL s n).getD zE).flds.all (zbJ s d)
def Ss(s:zg):Bool:=s.defs.all λd=>d.faces.all (zbn s d)
def zgS{s:zg}{t n:B8}{f:Yv}(h:zG s t n=some f)(y:zA s<=ze):bL f<=zA s+64:=by
 unfold zG at h;split at h
 ·rename_i v;cases h;simp only[bL,tnF,Wx,We,List.map_nil,List.sum_nil,yg,yy];have p:tnB.length=10:=rfl;have g:([83,116,114,105,110,103]:B8).length=6:=rfl;omega
 ·split at h
  ·cases h
  ·rename_i d j;have g:=(Xh j).1;split at h
   ·have:=WK (List.mem_of_find?_eq_some h);omega
   ·cases h
def zlr(s:zg)(b7:zA s+64<=ze):zf 124 [.agg (zk s)] (.bool (Ss s)):=by
 have X:zA s<=ze:=xg
 have a6:=λ(d:yX) (f:d∈s.defs)=>SQ f X;have av:=zR X;have hf:=λn=>QE s n av;have cc:=λn=>(VI s n X).2.2.2;have bd:=λt n=>OI s t n X;have ce:=λt n h (f:zG s t n=some h)=>zgS f X;have a8:=λh C U b3=>zpQ s h C xg U b3;have c5:zA s+64<=1099511627776:=by simpa only[ze]using b7
 have ak:Ss s=s.defs.all λd=>d.faces.all (zbn s d):=rfl;have bv:∀d n,zbn s d n=((zL s n).getD zE).flds.all (zbJ s d):=λ_ _=>rfl;have bu:∀d C,zbJ s d C=match zG s d.nm C.nm with|none=>false|some h=>Q9 s h.t C.t&&Uc h C:=λ_ _=>rfl
 generalize Ss s=F,zbn s=al,zbJ s=b1,Q9 s=cq at *
 obtain⟨O,bj,sm⟩:=s;generalize a5:(⟨O,bj,sm⟩:zg)=s at *
 have ca:zk s=[.o 6 (Vd O),.str bj,.str sm]:=xM a5
 have cm:s.defs=O:=by rw[<-a5]
 have U:=YX O;rw[cm]at av ak a6;simp only[ze]at av;simp only[ca]at hf bd a8 ⊢;refine zo ir124 λKP Q an=>?_;refine xc U ?_;refine zc O 3 ZY (λaj M _ H=>(M.all λd=>d.faces.all (al d))=O.all λd=>d.faces.all (al d)) () xb rfl ?_ ?_
 ·rintro _ H bn p aw;refine xd U aw ?_;exact an rfl (x9 ak p)
 ·rintro aj x M _ H bn ba aw _ p b4;have bf:=Xc ba;have cn:=a6 x (xv ba);have a0:=bv x;have az:=bu x;rw[List.all_cons]at p;generalize al x=G,b1 x=A at *
  obtain⟨k,Y,v,a4,bh,bg⟩:=x;simp only[bE,ze]at cn;have cy:=ZN v;have ar:=zn v;rw[zS]at bf;simp only at a0 az p;refine xe U aw bf (zb λZ c4=>?_);refine xc ar ?_;refine zc v 5 ZY (λaj M _ H=>H Z=some (.cells [.i k,.str Y,.o 1 (cT v),.o 6 (TK a4),.o 1 (cT bh),.o 10 (Yg bg)])/\M.all G=v.all G) () xb ⟨upd_same ..,rfl⟩ ?_ ?_
  ·rintro _ bl bp ⟨W,K⟩ ax;rw[<-K]at p;refine xe ar ax W ?_;exact zJ (b4 () _ (xy p)) xf
  ·rintro c2 z co _ bl bp cb ax _ ⟨W,K⟩ b5;have ch:=ZM cb;have aa:=a0 z;have be:=hf z;have cd:=cc z;rw[List.all_cons]at K;have bad:G z=false->F=false:=λf=>by
    rw[f,Bool.false_and]at K;rw[<-K]at p;rw[ak,<-p];rfl
   have good:G z=true->co.all G=v.all G:=λf=>by rwa [f,Bool.true_and]at K
   generalize (zL s z).isSome=ok,(zL s z).getD zE=br at *
   obtain⟨ct,cu,cr,y,cx,cw⟩:=br;have cz:=YH y;have ad:=YM y;rw[zS]at be;simp only at aa cd;refine xE ar ax W ch be ?_;refine xa (zb λah b8=>?_);have ac:Z≠ah:=nen2 W b8;refine xe ac (Ne.symm ac) ad ?_;refine zc y 8 ZY (λaj M _ H=>H Z=some (.cells [.i k,.str Y,.o 1 (cT v),.o 6 (TK a4),.o 1 (cT bh),.o 10 (Yg bg)])/\H ah=some (.cells [.i ct,.str cu,.o 1 (cT cr),.o 6 (TK y),.o 1 (cT cx),.o 10 (Yg cw)])/\M.all A=y.all A) () xb ⟨wx W ac (Ne.symm ac),upd_same ..,rfl⟩ ?_ ?_
   ·rintro _ ag bq ⟨I,J,L⟩ ab;rw[<-L]at aa;refine xe ad ab J ?_;exact zJ (b5 () _ ⟨I,good aa⟩) xf
   ·rintro c3 g cp _ ag bq bc ab _ ⟨I,J,L⟩ b6;have au:=XS bc;have c7:=@WK g y (xv bc);have j:=az g;have cg:=bd Y g.nm;have b9:=λh f=>a8 h g f xi;have a9:∀g:Yv,cL g=[.str g.nm,.o 10 (Yg g.ps),.str g.t.nm,.i g.t.lists,.i g.t.musts,.o 2 (ZE g.dirs)]:=λ_=>rfl;rw[a9]at au;rw[List.all_cons]at L;have ay:A g=false->F=false:=λf=>by rw[f,Bool.false_and]at L;exact bad (by rw[aa,<-L])
    have b2:A g=true->cp.all A=y.all A:=λf=>by rwa [f,Bool.true_and]at L
    refine xU ad ab J I au cg ?_;cases aq:zG s Y g.nm with
    | none =>rw[aq]at j;have am:=ay j;simp(disch:=first|omega|assumption) only[Option.getD,Option.isSome,zF,YG,Yg,ZE,List.map,go_sem];refine zb λai ap=>?_;exact vn an am
    | some h =>
     have c6:=ce Y g.nm h aq;have ao:=b9 h xi;rw[aq]at j;simp only at j;obtain⟨bx,bz,⟨a1,a2,a3⟩,bw⟩:=h;rw[YG,a9 g]at ao;simp only at ao;have cj:∀b,(ag b=none)->ah≠b:=λb f e=>by subst e;rw[J]at f;cases f
     have ci:∀b,(ag b=none)->Z≠b:=λb f e=>by subst e;rw[I]at f;cases f
     simp(disch:=first|omega|assumption) only[Option.getD,Option.isSome,YG,go_sem];refine zb λai ap=>?_;have af:=cj ai ap;have ae:=ci ai ap;simp(disch:=first|omega|assumption) only[ad,ab,J,I,au,af,Ne.symm af,ae,Ne.symm ae,go_sem];refine za ao ?_;cases a7:(cq ⟨a1,a2,a3⟩ g.t&&Uc ⟨bx,bz,⟨a1,a2,a3⟩,bw⟩ g)with
     | false =>rw[a7]at j;have am:=ay j;exact vn an am
     | true =>rw[a7]at j;refine xa ?_;exact zJ (b6 () _ ⟨wx I ae (Ne.symm ae),wx J af (Ne.symm af),b2 j⟩) xf
def zhr(s:zg)(f:List z6)(aa:zA s<=ze)(Y:Wx f<=ze):zf 257 [.agg (zk s),.o 10 (Yg f)] (.bool (US s f)):=by
 have K:=λ(h:z6) (p:bW h<=ze)=>zaE s h.t h.d aa (by simp only[bW]at p;omega) (by simp only[bW]at p;omega);have ah:=yr f;have v:=yJ f;have Z:=Y;simp only[ze]at Z;have A:US s f=!f.any (zbL s):=rfl;have W:∀h,zbL s h=(h.has&&!Zs s h.t h.d):=λ_=>rfl;generalize US s f=F,zbL s=C,Zs s=X at *
 obtain⟨ak,al,sm⟩:=s;simp only[zk]at K ⊢;refine zo ir257 λKP Q I=>?_;refine xc v ?_;refine zc f 5 ZY (λU M _ H=>M.any C=f.any C) () xb rfl ?_ ?_
 ·rintro _ H O g y;refine xd v y ?_;exact I rfl (x9 A g)
 ·rintro U x M _ H O J y _ g G;have z:=y6 J;have ai:=@YW x f (xv J);have L:=K x xi;have j:=W x;rw[List.any_cons]at g;obtain⟨aj,⟨ad,ae,af⟩,p,⟨k,q,ac,ab,m⟩⟩:=x;rw[zX]at z;simp only[YQ,zC]at L j;cases p with
  | false =>rw[Bool.false_and]at j;rw[j,Bool.false_or]at g;refine xe v y z ?_;exact zJ (G () _ g) xf
  | true =>
  refine xm v y z L ?_;generalize X ⟨ad,ae,af⟩ (.mk k q ac ab m)=ag at *
  rw[j]at g;cases ag with
  | false =>refine xa ?_;exact I rfl (x9 A g)
  | true =>refine xa ?_;exact zJ (G () _ g) xf
def zj1(s:zg)(h:List z6)(O:s.defs.length<=ze)(U:h.length<=ze):zf 258 [.agg (zk s),.o 10 (Yg h)] (.bool (!h.any λg=>g.has&&!Z0 s g.t.nm)):=by
 have C:=λn=>zb9 s n O;have j:=yJ h;simp only[ze]at U;generalize Z0 s=v at *
 obtain⟨aa,ab,sm⟩:=s;simp only[zk]at C ⊢;refine zo ir258 λKP Q A=>?_;refine xc j ?_;refine zc h 5 ZY (λK G _ H=>(G.any λg=>g.has&&!v g.t.nm)=h.any λg=>g.has&&!v g.t.nm) () xb rfl ?_ ?_
 ·rintro _ H J f p;refine xd j p ?_;exact A rfl (wD f)
 ·rintro K x G _ H J M p _ f z;have y:=y6 M;rw[List.any_cons]at f;obtain⟨Y,⟨I,ac,ad⟩,L,⟨k,q,Z,X,m⟩⟩:=x;rw[zX]at y;simp only at f;cases L with
  | false =>rw[Bool.false_and,Bool.false_or]at f;refine xe j p y ?_;exact zJ (z () _ f) xf
  | true =>
  refine xm j p y (C I) ?_;generalize v I=W at *
  cases W with
  | false =>refine xa ?_;exact A rfl (wD f)
  | true =>refine xa ?_;exact zJ (z () _ f) xf
def znh(s:zg)(O:zA s<=ze):zf 127 [.agg (zk s)] (.bool (LF s)):=by
 have ag:=λ(d:yX) (G:d∈s.defs)=>SQ G O;have ak:=zR O;have U:=λv G=>zhr s v O G;have W:=λv G=>zj1 s v ak G;have z:LF s=s.defs.all (zbM s):=rfl;have ae:∀d,zbM s d=(US s d.ps&&(!(d.ps.any λI=>I.has&&!Z0 s I.t.nm)&&!(d.flds.any λA=>!US s A.ps))):=λ_=>rfl;obtain⟨aq,av⟩:∃ap:List z6->Bool,∀v,(!v.any λI=>I.has&&!Z0 s I.t.nm)=ap v:=⟨_,λ_=>rfl⟩;simp only[av]at W ae;generalize LF s=F,zbM s=af,US s=K at *
 obtain⟨Z,a5,sm⟩:=s;have j:=YX Z;simp only[ze]at ak;simp only[zk]at ag U W ⊢;simp only at z;refine zo ir127 λKP Q L=>?_;refine xc j ?_;refine zc Z 3 ZY (λad M _ H=>M.all af=Z.all af) () xb rfl ?_ ?_
 ·rintro _ H an g p;refine xd j p ?_;exact L rfl (x9 z g)
 ·rintro ad x M _ H an ah p _ g ar;have y:=Xc ah;have aw:=ag x (xv ah);have f:=ae x;rw[List.all_cons]at g;obtain⟨k,a3,a1,C,v,J⟩:=x;simp only[bE,ze]at aw;have ay:=YH C;have az:=yr J;have X:=YM C;rw[zS]at y;simp only at f;refine xm j p y (U J xi) ?_;cases c1:K J with
  | false =>rw[c1,Bool.false_and]at f;rw[f]at g;refine xa ?_;exact L rfl (x9 z g)
  | true =>
  rw[c1,Bool.true_and]at f;refine xm j p y (W J xi) ?_;cases ab:aq J with
  | false =>rw[ab,Bool.false_and]at f;rw[f]at g;refine xa ?_;exact L rfl (x9 z g)
  | true =>
  rw[ab,Bool.true_and]at f;refine xk j p y X ?_;refine zc C 4 ZY (λad M _ H=>(M.any λA=>!K A.ps)=C.any λA=>!K A.ps) () xb rfl ?_ ?_
  ·rintro _ am ao h Y;rw[<-h]at f;rw[f]at g;refine xp j p y X Y ?_;exact zJ (ar () _ (xy g)) xf
  ·rintro a0 aa a4 _ am ao ai Y _ h au;have aj:=XS ai;have a2:=@WK aa C (xv ai);have ax:=@N7 aa;rw[List.any_cons]at h;obtain⟨ba,al,⟨a6,a7,a8⟩,a9⟩:=aa;rw[YG]at aj;simp only at ax h;refine xH j p y X Y aj (U al xi) ?_;cases ac:K al with
   | false =>rw[ac,Bool.not_false,Bool.true_or]at h;rw[<-h]at f;rw[f]at g;refine xa ?_;exact L rfl (x9 z g)
   | true =>rw[ac,Bool.not_true,Bool.false_or]at h;refine xa ?_;exact zJ (au () _ h) xf
def Nw(f:B8->B9):Nat->B9->Nat->B9
 | 0,l,_=>l
 | k+1,l,i=>match l[i]? with
  | none=>l
  | some x=>Nw f k ((f x).foldl Yp l) (i+1)
def Ot(U l:B9):Nat:=(U.filter λx=>!zH x l).length
def Lt(U l:B9):Nat:=l.length+Ot U l
def zfz(U l:B9):Ot U l<=U.length:=List.length_filter_le ..
def Ox(x y:B8)(l:B9):zH x (l++[y])=(zH x l||decide (y=x)):=by rw[Bool.eq_iff_iff,Zm,Uz,Zm,List.mem_append,List.mem_singleton,Zh];exact⟨λf=>f.imp id Eq.symm,λf=>f.imp id Eq.symm⟩
def LL(y:B8)(l:B9):∀f,Ot f (l++[y])<=Ot f l
 | []=>by simp[Ot]
 | z::f=>by
  have g:=LL y l f;simp only[Ot,List.filter_cons,Ox]at g ⊢;cases h:zH z l with
  | true=>simpa using g
  | false =>
   by_cases e:y=z
   ·simp only[e,decide_true,Bool.or_true,Bool.not_true,Bool.not_false,if_true,yg]at g ⊢;simp only[Ql,if_false];omega
   ·simp only[e,decide_false,Bool.or_false,Bool.not_false,if_true,yg];omega
def zcm{y:B8}{l:B9}(g:zH y l=false):∀ {U},y∈U->Ot U (l++[y])+1<=Ot U l
 | z::U,f=>by
  have p:=LL y l U;by_cases e:z=y
  ·subst e;simp only[Ot,List.filter_cons,Ox,g,decide_true,Bool.or_true,Bool.not_true,Bool.not_false,if_true,yg]at p ⊢;simp only[Ql,if_false];omega
  ·have h:=zcm g ((List.mem_cons.1 f).resolve_left (λf=>e f.symm));have j:¬ y=z:=λf=>e f.symm;simp only[Ot,List.filter_cons,Ox,j,decide_false,Bool.or_false]at h ⊢;split
   ·simp only[yg];omega
   ·exact h
def zfk{U l:B9}{y:B8}(g:y∈U):Lt U (Yp l y)<=Lt U l:=by
 unfold Yp;cases f:zH y l with
 | true=>simp
 | false =>have:=zcm f g;simp only[Lt,Ql,if_false,ZX,yg,yy];omega
def Lb{U:B9}:∀(xs:B9) {l:B9},(∀x∈xs,x∈U)->Lt U (xs.foldl Yp l)<=Lt U l
 | [],_,_=>ZG _
 | x::xs,l,h=>Nat.le_trans (Lb xs λg f=>h g (YN _ f)) (zfk (h x (YS ..)))
def ziN(l:B9)(y x:B8):x∈Yp l y↔x∈l∨x=y:=by
 unfold Yp;split
 ·rename_i f;have:=(Zm y l).1 f;exact⟨.inl,λf=>f.elim id λe=>e▸this⟩
 ·simp
def VS:∀(xs l:B9) (x:B8),x∈xs.foldl Yp l↔x∈l∨x∈xs
 | [],l,x=>by simp
 | y::xs,l,x=>by rw[List.foldl_cons,VS xs,ziN,List.mem_cons];exact or_assoc
def Tq:∀(xs l:B9),∃e,xs.foldl Yp l=l++e
 | [],l=>⟨[],by simp⟩
 | y::xs,l=>by
  obtain⟨e,f⟩:=Tq xs (Yp l y);rw[List.foldl_cons,f];unfold Yp;split
  ·exact⟨e,rfl⟩
  ·exact⟨y::e,by simp⟩
inductive zc7 (f:B8->B9) (l:B9):B8->Prop
 | base {x:B8} (h:x∈l):zc7 f l x
 | step {x y:B8} (h:zc7 f l x) (hy:y∈f x):zc7 f l y
def zeF{f:B8->B9}{l0:B9}:∀(k:Nat) (l:B9) (i:Nat),(∀x∈l,zc7 f l0 x)->∀x∈Nw f k l i,zc7 f l0 x
 | 0,l,i,h=>h
 | k+1,l,i,h=>by
  simp only[Nw];cases j:l[i]? with
  | none=>exact h
  | some x =>
   refine zeF k _ (i+1) λv p=>?_;rcases(VS ..).1 p with g|g
   ·exact h v g
   ·exact .step (h x (List.mem_of_getElem? j)) g
def zcb{f:B8->B9}{U:B9}(I:∀x,∀g∈f x,g∈U):∀(k:Nat) (l:B9) (i:Nat),Lt U l<=k+i->(∀(j:Nat) x,j<i->l[j]?=some x->∀g∈f x,g∈l) ->
  (∀x∈l,x∈Nw f k l i)/\∀x∈Nw f k l i,∀g∈f x,g∈Nw f k l i
 | 0,l,i,h,hc=>by
  simp only[Nw];refine⟨λx h=>h,λx A g p=>?_⟩;obtain⟨j,z,e⟩:=List.getElem_of_mem A;have:l.length<=Lt U l:=by simp only[Lt];omega
  exact hc j x xg (by rw[Qh z,e]) g p
 | k+1,l,i,h,hc=>by
  simp only[Nw];cases y:l[i]? with
  | none =>
   simp only
   refine⟨λx h=>h,λx A g p=>?_⟩;obtain⟨j,z,e⟩:=List.getElem_of_mem A;have:l.length<=i:=List.getElem?_eq_none_iff.1 y;exact hc j x xg (by rw[Qh z,e]) g p
  | some x =>
   obtain⟨e,K⟩:=Tq (f x) l;have G:=zcb I k ((f x).foldl Yp l) (i+1) (by have:=Lb (U:=U) (f x) (l:=l) (I x);omega) λj C z v g p=>by
    rw[VS];have L:i<l.length:=by
     rcases Nat.lt_or_ge i l.length with h|h
     ·exact h
     ·rw[List.getElem?_eq_none h]at y;cases y
    rw[K,SA xg]at v;rcases Nat.lt_or_ge j i with J|J
    ·exact .inl (hc j C J v g p)
    ·obtain rfl:j=i:=xg
     rw[y]at v;cases v;exact .inr p
   exact⟨λC v=>G.1 C ((VS ..).2 (.inl v)),G.2⟩
def ze2{f:B8->B9}{U:B9}(p:∀x,∀A∈f x,A∈U){k:Nat}{l:B9}(v:Lt U l<=k)(x:B8):x∈Nw f k l 0↔zc7 f l x:=by
 refine⟨zeF k l 0 (λx g=>.base g) x,λg=>?_⟩;obtain⟨h,j⟩:=zcb p k l 0 v λG x C=>by omega
 induction g with
 | base g=>exact h _ g
 | step _ y z=>exact j _ z _ y
def QK(s:zg)(p:z6):Bool:=decide (p.t.lists=0)&&(decide (p.t.musts=1)&&yA s p.t.nm [5])
def YU(s:zg)(n:B8):B9:=if ((zL s n).getD zE).k=5 then (((zL s n).getD zE).ps.filter (QK s)).map (·.t.nm)else []
def zlG(s:zg)(n:B8)(H:zd)(X:zA s<=ze):YR Tryz.prog 256 [.agg (zk s),.str n] H .nil 1 (cT (YU s n)):=by
 have az:=zR X;have Y:=QE s n az;have ab:=λf=>zjs s f 5 5 5 az;simp only[Ka]at ab;have bq:zA s<=1099511627776:=by simpa only[ze]using X
 have ba:=(VI s n X).2.2.1;have M:YU s n=if ((zL s n).getD zE).k=5 then (((zL s n).getD zE).ps.filter (QK s)).map (·.t.nm)else []:=rfl
 have au:∀f,QK s f=(decide (f.t.lists=0)&&(decide (f.t.musts=1)&&yA s f.t.nm [5])):=λ_=>rfl;obtain⟨bj,be⟩:∃a2:B8->Bool,∀n,yA s n [5]=a2 n:=⟨_,λ_=>rfl⟩;simp only[be]at ab au;generalize YU s n=F,QK s=v,(zL s n).isSome=bn,(zL s n).getD zE=x at *
 obtain⟨J,ak,aj,ai,al,K⟩:=x;simp only at ba M;have br:=yr K;have ad:=yJ K;obtain⟨bu,bv,sm⟩:=s;simp only[zk,zS]at Y ab ⊢;refine Xt ir256 λKP Q a6 bp=>?_;refine xh Y ?_;refine xa (zb λL a7=>?_);have bc:zQ H .nil (H.upd L (.cells [.i J,.str ak,.o 1 (cT aj),.o 6 (TK ai),.o 1 (cT al),.o 10 (Yg K)])) .nil 0 1:=(zQ.refl (o:=.nil) (n:=0) rfl).upd a7;refine xc ad ?_;have fin:∀a o H',F=a->zQ H .nil H' o a.length 1->∀ρ,zx ρ H' ir256.1.res=some [.sl o 1 (cT a)]->Q .ret ρ H':=λa o H' e X ρ Y=>a6 _ ρ H' H' _ nofun Y (yT.refl _) ⟨o,by rw[e];rfl,by rw[e,zn];exact X⟩;refine zc K 8 (λx:Own×B9=>[(5,.sl x.1 1 (cT x.2))]) (λp bh x H'=>x.2=(if J=5 then (p.filter v).map (·.t.nm)else [])/\x.2.length<=p.length/\zQ H .nil H' x.1 x.2.length 1/\H' L=some (.cells [.i J,.str ak,.o 1 (cT aj),.o 6 (TK ai),.o 1 (cT al),.o 10 (Yg K)])) (.nil,[]) xJ ⟨by simp,by simp,bc,upd_same ..⟩ ?_ ?_
 ·rintro⟨o1,a⟩ H' a1 ⟨h,_,z,y⟩ ac;simp only at h;refine xe ad ac y ?_;exact fin a o1 _ (by rw[M,h]) z _ rfl
 ·rintro p f bh ⟨o1,a⟩ H' a1 a8 ac _ ⟨h,a9,z,y⟩ Z;have ay:=y6 a8;replace z:zQ H .nil H' o1 a.length 1:=z;simp only at h a9;by_cases C:J=5
  case neg =>rw[if_neg C]at M h;refine xk ad ac y C ?_;exact fin a o1 _ (by rw[M,h]) z _ rfl
  rw[if_pos C]at M h;have bf:=eq_true C;have aw:=ab f.t.nm;have g:=au f;have aa:((p++[f]).filter v).map (·.t.nm)=a++if v f=true then [f.t.nm]else []:=by
   rw[List.filter_append,List.map_append,<-h]
   congr 1
   cases ae:v f<;>simp[ae]
  obtain⟨ah,⟨j,G,I⟩,af,⟨am,ap,aq,an,ao⟩⟩:=f;rw[zX]at ay;simp only at aw g aa;generalize bj j=bl,v ⟨ah,⟨j,G,I⟩,af,.mk am ap aq an ao⟩=a3 at *
  have skip:a3=false->a=(if J=5 then ((p++[(⟨ah,⟨j,G,I⟩,af,.mk am ap aq an ao⟩:z6)]).filter v).map (·.t.nm)else [])/\a.length<=(p++[(⟨ah,⟨j,G,I⟩,af,.mk am ap aq an ao⟩:z6)]).length:=λae =>⟨by rw[if_pos C,aa,ae];simp,by refine wm ?_;omega⟩;refine xp ad ac ay y bf (zb λar ax=>?_);have bg:L≠ar:=nen2 y ax;have A:=z.upd (x:=.cells [.str j,.i G,.i I]) ax;have W:(H'.upd ar (.cells [.str j,.i G,.i I])) L=some (.cells [.i J,.str ak,.o 1 (cT aj),.o 6 (TK ai),.o 1 (cT al),.o 10 (Yg K)]):=by rw[upd_ne bg,y]
  by_cases O:G=0
  case neg =>refine xc O ?_;exact zJ (Z (o1,a) _ ⟨(skip (by rw[g,decide_eq_false O];rfl)).1,(skip (by rw[g,decide_eq_false O];rfl)).2,A,W⟩) xf
  have av:=eq_true O;by_cases U:I=1
  case neg =>refine xd av U ?_;exact zJ (Z (o1,a) _ ⟨(skip (by rw[g,decide_eq_false U];simp)).1,(skip (by rw[g,decide_eq_false U];simp)).2,A,W⟩) xf
  have a4:=eq_true U;rw[decide_eq_true O,decide_eq_true U]at g;refine xn av a4 aw ?_;cases bl with
  | false =>refine xa ?_;exact zJ (Z (o1,a) _ ⟨(skip g).1,(skip g).2,A,W⟩) xf
  | true =>
   rw[g,Bool.true_and,Bool.true_and,if_pos rfl]at aa;refine xa (zp (by rw[zn];exact A.own) ?_ ?_ λo' a0 ag=>?_)
   ·simp only[zn,yg,yy];omega
   ·refine wE ?_;omega
   simp only[zn,yg,yy]at ag;have a5:=ag.kept L _ W (Tz A.own W);have bd:=A.trans ag;refine x3 ?_;exact zJ (Z (o',a++[j]) a0 ⟨by rw[if_pos C,aa],by refine wm ?_;omega,by simpa using bd,a5⟩) xb
def N2{s:zg}{x y:B8}(h:y∈YU s x):y∈s.defs.map (·.nm):=by
 unfold YU at h;split at h
 ·obtain⟨g,f,rfl⟩:=List.mem_map.1 h;have:=(List.mem_filter.1 f).2;simp only[QK,yu]at this;exact LU this.2.2
 ·cases h
def zdn(s:zg)(n:B8)(f:zA s<=ze):(YU s n).length<=zA s:=by
 have g:=(VI s n f).2.2.1;have h:=yr ((zL s n).getD zE).ps;unfold YU;split
 ·rw[List.length_map];have:=List.length_filter_le (QK s) ((zL s n).getD zE).ps;omega
 ·simp
def O0(s:zg)(n:B8):Bool:=zH n (Nw (YU s) ((YU s n).length+s.defs.length+1) (YU s n) 0)
def So(s:zg):Bool:=s.defs.all λd=>!O0 s d.nm
def zk5(s:zg)(Z:2*zA s+64<=ze):zf 126 [.agg (zk s)] (.bool (So s)):=by
 have au:zA s<=ze:=xg
 have bf:s.defs.length<=zA s:=by have:=VP s.defs;simp only[zA];omega
 have bz:2*zA s+64<=1099511627776:=by simpa only[ze]using Z
 have ad:=λx H=>zlG s x H au;have ak:=λx=>zdn s x au;have al:=λx f (a5:f∈YU s x)=>N2 a5;have ac:So s=s.defs.all λd=>!O0 s d.nm:=rfl;have ai:∀n,O0 s n=zH n (Nw (YU s) ((YU s n).length+s.defs.length+1) (YU s n) 0):=λ_=>rfl;generalize So s=F,O0 s=L,YU s=y at *
 obtain⟨G,b9,sm⟩:=s;have M:=YX G;simp only[zk]at ad ⊢;simp only at ac ai al bf;generalize a8:G.map (·.nm)=I at *
 have bx:I.length=G.length:=by rw[<-a8];simp
 refine zo ir126 λKP Q am=>?_;refine xc M ?_;refine zc G 3 ZY (λah ab _ H=>(ab.all λd=>!L d.nm)=G.all λd=>!L d.nm) () xb rfl ?_ ?_
 ·rintro _ H a1 v X;refine xd M X ?_;exact am rfl (x9 ac v)
 ·rintro ah x ab _ H a1 ba X _ v a6;have ae:=Xc ba;rw[List.all_cons]at v;obtain⟨k,h,bv,bu,b7,b6⟩:=x;rw[zS]at ae;simp only at v;have a3:=ai h;have b4:=ak h;refine xe M X ae (zu (ad h _) λo0 H0 av=>?_);rw[zn]at av;generalize bw:(y h).length+G.length=j at *
  have bh:Lt I (y h)<=j:=by have:=zfz I (y h);simp only[Lt];omega
  refine xa ?_;refine ZZ (λx:Own×B9×Nat=>[(4,.sl x.1 1 (cT x.2.1)),(5,.i x.2.2)]) (λx H'=>zM H' x.1 x.2.1.length 1/\Lt I x.2.1<=j/\x.2.2<=x.2.1.length/\L h=zH h (Nw y (j+1-x.2.2) x.2.1 x.2.2)) (λx=>j+1-x.2.2) (o0,y h,0) xb ⟨av.own,bh,by simp,a3⟩ ?_;rintro⟨o,l,i⟩ az bq ⟨ho,ag,hi,z⟩ a7;replace ho:zM az o l.length 1:=ho;simp only at ag hi z;have b3:l.length<=j:=by simp only[Lt]at ag;omega
  have ax:=zn l;have a4:j+1-i=(j-i)+1:=xg
  rw[a4]at z;by_cases b1:i<l.length
  case neg =>
   have bc:l[i]?=none:=List.getElem?_eq_none xg;have af:¬ ((i:Int)<l.length):=xg
   simp only[Nw,bc]at z;refine xU ax af M X ae (Zk.low (TG l h xi)) ?_;rw[<-z];cases ao:L h with
   | true =>rw[ao]at v;refine xa ?_;exact am rfl (x9 ac v)
   | false =>rw[ao]at v;refine xa ?_;exact zJ (a6 () _ (xy v)) xf
  obtain⟨a,x,r,ar,a9⟩:∃a x r,l=a++x::r/\a.length=i:=⟨l.take i,l[i],l.drop (i+1),by rw[List.getElem_cons_drop,List.take_append_drop],by rw[List.length_take];omega⟩;subst a9;have be:l[a.length]?=some x:=xv ar
  have bd:(cT l).getD a.length []=[.str x]:=ZM ar;have af:(a.length:Int)<l.length:=xg
  simp only[Nw,be]at z;refine xe ax af bd (zu (ad x _) λo2 bp Z=>?_);have J:=zn (y x);rw[J]at Z;have bg:=ME ho Z.kept;have bl:=al x;have b5:=ak x;generalize y x=ay at *
  refine xc J ?_;refine zc ay 7 (λf:Own×B9=>[(4,.sl f.1 1 (cT f.2))]) (λah ab f H'=>zM H' f.1 f.2.length 1/\Lt I f.2<=j/\l.length<=f.2.length/\ab.foldl Yp f.2=ay.foldl Yp l) (o,l) xb ⟨bg,ag,ZG _,rfl⟩ ?_ ?_
  ·rintro⟨aa,g⟩ K a2 ⟨A,C,O,p⟩ Y;simp only[List.foldl]at p;rw[<-p]at z;simp only at C O;refine xd J Y ?_;exact zJ (a7 (aa,g,a.length+1) K wP ⟨A,C,by simp only;omega,by simp only;rw[z];congr 2;omega⟩) (by refine xq ?_;simp)
  ·rintro br f b8 ⟨aa,g⟩ K a2 an Y _ ⟨A,C,O,p⟩ aj;have ap:=ZM an;have bn:=bl f (xv an);replace A:zM K aa g.length 1:=A;simp only[List.foldl]at C p O;have b2:g.length<=j:=by simp only[Lt]at C;omega
   have U:=Nat.le_trans (zfk (l:=g) bn) C;have W:Yp g f=if zH f g=true then g else g++[f]:=rfl
   refine xm J Y ap (Zk.low (TG g f xi)) ?_;cases aq:zH f g with
   | true =>rw[if_pos aq]at W;rw[W]at p U;refine xa ?_;exact zJ (aj (aa,g) K ⟨A,U,O,p⟩) xf
   | false =>
    rw[if_neg (xr aq)]at W;rw[W]at p U;refine xe J Y ap (zp (wZ A) ?_ ?_ λo' a0 bj=>?_)
    ·simp only[zn,yg,yy];omega
    ·refine wE ?_;omega
    have aw:=bj.own;simp only[zn,yg,yy]at aw;refine x3 ?_;exact zJ (aj (o',g++[f]) a0 ⟨by simpa using aw,U,by refine wm ?_;omega,p⟩) xb
noncomputable def Sj(s:zg)(n:Int):Bool :=
 if n=1 then Ug s else if n=2 then RC s else if n=3 then XN s else if n=4 then WT s else if n=5 then Ty s
 else if n=6 then Ss s else if n=7 then TF s else if n=8 then So s else if n=9 then LF s else false
def zqe(s:zg)(n:Int)(ag:2*zA s+64<=ze):zf 45 [.agg (zk s),.i n] (.bool (Sj s n)):=by
 have j:zA s<=ze:=xg
 have X:=zmb s j;have Y:=znj s j;have Z:=znm s j;have aa:=zmN s j;have ab:=zlr s xg;have ac:=zmG s j;have ad:=zk5 s ag;have ae:=znh s j;have v:=λn=>zi8 s n (zR j);have h:RC s=(yA s s.q [1]&&(decide (s.m=[])||(!decide (s.m=s.q)&&yA s s.m [1]))):=rfl;have f:Sj s n=if n=1 then Ug s else if n=2 then RC s else if n=3 then XN s else if n=4 then WT s else if n=5 then Ty s else if n=6 then Ss s else if n=7 then TF s else if n=8 then So s else if n=9 then LF s else false:=rfl
 obtain⟨aj,ah⟩:∃af:B8->Bool,∀n,yA s n [1]=af n:=⟨_,λ_=>rfl⟩;simp only[ah]at v h;generalize Sj s n=F,Ug s=al,RC s=am,XN s=an,WT s=ao,Ty s=ap,Ss s=aq,TF s=ar,So s=au,LF s=av at *
 obtain⟨ak,O,sm⟩:=s;simp only[zk]at X Y Z aa ab ac ad ae v h ⊢;refine zo ir45 λKP Q g=>?_;by_cases y:n=1
 ·subst y;rw[if_pos rfl]at f;subst f;refine xh X ?_;exact vm g
 rw[if_neg y]at f;by_cases z:n=2
 ·subst z;rw[if_pos rfl]at f;subst f;refine xh (v O) ?_;cases W:aj O with
  | false =>refine xa ?_;exact xz g h W
  | true =>
  rw[W,Bool.true_and]at h;by_cases p:sm=[]
  ·have ai:=eq_true p;refine xc ai ?_;exact xz g h p
  by_cases M:sm=O
  ·have U:=eq_true M;refine xd p U ?_;exact g rfl (by simp[h,p,U])
  refine xn p M (v sm) ?_;refine xa ?_;exact g rfl (by simp[h,p,M])
 rw[if_neg z]at f;by_cases A:n=3
 ·subst A;rw[if_pos rfl]at f;subst f;refine xh Y ?_;exact vm g
 rw[if_neg A]at f;by_cases C:n=4
 ·subst C;rw[if_pos rfl]at f;subst f;refine xh Z ?_;exact vm g
 rw[if_neg C]at f;by_cases G:n=5
 ·subst G;rw[if_pos rfl]at f;subst f;refine xh aa ?_;exact vm g
 rw[if_neg G]at f;by_cases I:n=6
 ·subst I;rw[if_pos rfl]at f;subst f;refine xh ab ?_;exact vm g
 rw[if_neg I]at f;by_cases J:n=7
 ·subst J;rw[if_pos rfl]at f;subst f;refine xh ac ?_;exact vm g
 rw[if_neg J]at f;by_cases K:n=8
 ·subst K;rw[if_pos rfl]at f;subst f;refine xh ad ?_;exact vm g
 rw[if_neg K]at f;by_cases L:n=9
 ·subst L;rw[if_pos rfl]at f;subst f;refine xh ae ?_;exact vm g
 rw[if_neg L]at f;subst f;simp(disch:=first|omega|assumption) only[ir45,y,z,A,C,G,I,J,K,L,go_sem];exact xo g
noncomputable def Un(s:zg):Nat->Int->Int
 | 0,_=>0
 | k+1,n=>if Sj s n=true then Un s k (n+1)else n
def zlQ(s:zg)(A:2*zA s+64<=ze):zf 22 [.agg (zk s)] (.i (Un s 9 1)):=by
 have j:=λn=>zqe s n A;generalize y:Un s 9 1=F;obtain⟨p,v,sm⟩:=s;simp only[zk]at j ⊢;refine zo ir22 λKP Q h=>?_;refine xa ?_;refine ZZ (λx:Nat×Int=>[(3,.i x.2)]) (λx _=>(x.1:Int)+x.2=10/\x.1<=9/\Un ⟨p,v,sm⟩ x.1 x.2=F) (λx=>x.1) (9,1) xb ⟨by omega,by omega,y⟩ ?_;rintro⟨k,n⟩ H J ⟨C,G,f⟩ z;simp only at C G f;cases k with
 | zero =>
  simp only[Un]at f;subst f;have g:¬ (n<=9):=xg
  refine xc g ?_;exact xo h
 | succ k =>
  simp only[Un]at f;have I:=j n;have g:(n<=9)=True:=eq_true xg;generalize K:Sj ⟨p,v,sm⟩ n=x at *
  refine xt g I ?_;cases x with
  | true =>rw[if_pos rfl]at f;refine xq ?_;exact zJ (z (k,n+1) _ wP ⟨by simp only;omega,by simp only;omega,f⟩) xf
  | false =>rw[if_neg xw]at f;subst f;exact vm h
def Ts{d:yX}(h:Yd d=true):((d.k=1∨d.k=2)/\d.ps=[])∨((d.k=3∨d.k=4)/\d.faces=[]/\d.flds=[]/\d.ps=[])∨(d.k=5/\d.faces=[]/\d.flds=[]):=by
 simp only[Yd,yu]at h;obtain⟨_,h⟩:=h;split at h
 ·rename_i f;simp only[yu,Zh]at h;exact .inl ⟨f,Pa.1 h.2.2.2.2⟩
 split at h
 ·rename_i f;simp only[yu,Zh]at h;exact .inr (.inl ⟨.inl f,Pa.1 h.2.2.1,Pa.1 h.2.2.2.1,Pa.1 h.2.2.2.2⟩)
 split at h
 ·rename_i f;simp only[yu,Zh]at h;exact .inr (.inl ⟨.inr f,Pa.1 h.2.2.1,Pa.1 h.2.2.2.1,Pa.1 h.2.2.2.2⟩)
 split at h
 ·rename_i f;simp only[yu,Zh]at h;exact .inr (.inr ⟨f,Pa.1 h.2.2.1,Pa.1 h.2.2.2.1⟩)
 ·cases h
def Ll{s:zg}{n:B8}{d:yX}(h:zL s n=some d):d=scE n∨(d∈s.defs/\d.nm=n):=by
 have f:=zb8 h;unfold zL at h;split at h
 ·cases h;exact .inl rfl
 ·exact .inr ⟨List.mem_of_find?_eq_some h,f⟩
def zdV{l:List yX}{d:yX}(h:(l.map (·.nm)).Nodup)(f:d∈l):l.find? (Mg d.nm)=some d:=by
 induction l with
 | nil=>cases f
 | cons x r j =>
  simp only[List.map_cons,List.nodup_cons,List.mem_map]at h;rcases List.mem_cons.1 f with rfl|f
  ·simp[Mg]
  ·have g:¬ x.nm=d.nm:=λe=>h.1 ⟨d,f,e.symm⟩;rw[List.find?_cons];simp only[Mg,g,decide_false];exact j h.2 f
structure Nm1 (s:zg):Prop where
 rs:∀d∈s.defs,Yd d=true
 nd:(s.defs.map (·.nm)).Nodup
 sc:∀d∈s.defs,Zv d.nm=false
def Nm1.find{s:zg}(h:Nm1 s){d:yX}(f:d∈s.defs):zL s d.nm=some d:=by rw[zL,if_neg (by rw[h.sc d f];simp),zdV h.nd f]
def zbD(s:zg):Si s=Ug s:=by
 have p:Xr s=true->(s.defs.map (·.nm)).any (λn=>yA s n [0])=(s.defs.map (·.nm)).any Zv:=λg=>by
  have h:∀d∈s.defs,Yd d=true:=by simp only[Xr,yu,Yh]at g;exact g.1
  rw[Bool.eq_iff_iff,List.any_eq_true,List.any_eq_true];refine exists_congr λn=>and_congr_right λy=>?_;constructor
  ·intro f;cases j:Zv n with
   | true=>rfl
   | false =>
    unfold yA at f;cases hf:zL s n with
    | none=>rw[hf]at f;cases f
    | some d =>
     rw[hf]at f;have v:d.k=0:=by simpa[OO]using f.symm
     rcases Ll hf with e|⟨e,_⟩
     ·rw[zL,if_neg (xv j)]at hf;have:=List.mem_of_find?_eq_some hf;rcases Ts (h d this)with f|f|f<;>omega
     ·rcases Ts (h d e)with f|f|f<;>omega
  ·intro f;simp[yA,zL,f,scE,OO]
 unfold Si Ug XB;cases g:Xr s with
 | false=>simp
 | true =>rw[p g];generalize (s.defs.map (·.nm)).any Zv=a;generalize Z1 (s.defs.map (·.nm))=b;generalize WH (s.defs.map (·.nm))=c;cases a<;>cases b<;>cases c<;>rfl
def zjh{s:zg}(h:Ug s=true):Nm1 s:=by
 simp only[Ug,Xr,XB,yu,Yh,Bool.not_eq_true']at h;refine⟨h.2.1.1,(Kp _).1 h.2.2.1,λd f=>?_⟩;cases g:Zv d.nm with
 | false=>rfl
 | true =>have:(s.defs.map (·.nm)).any Zv=true:=List.any_eq_true.2 ⟨d.nm,List.mem_map.2 ⟨d,f,rfl⟩,g⟩;rw[h.1]at this;cases this
def zeP{s:zg}(y:Nm1 s)(C:XN s=true):Pc s=Ss s:=by
 have v:∀d∈s.defs,∀f∈d.flds,f.nm≠tnB:=λd j f v e=>by have:=Yh.1 C d j;simp only[Qs,XB,yu]at this;have:=Yh.1 this.1.2 f.nm (List.mem_map.2 ⟨f,v,rfl⟩);rw[e]at this;revert this;decide
 rw[Bool.eq_iff_iff,Pc,Ss,Yh,Yh];refine forall_congr' λd=>forall_congr' λj=>?_;have z:KH s d=d.faces.all (LA s d):=not_any _ _;rw[z,Yh,Yh];refine forall_congr' λn=>forall_congr' λp=>?_;rw[LA,zbn,Yh,Yh];refine forall_congr' λf=>forall_congr' λh=>?_;have I:d.k=1∨d.k=2:=by
  rcases Ts (y.rs d j)with g|g|g
  ·exact g.1
  ·rw[g.2.1]at p;cases p
  ·rw[g.2.1]at p;cases p
 have G:f.nm≠tnB:=by
  cases hf:zL s n with
  | none=>rw[hf]at h;simp[zE]at h
  | some x =>
   rw[hf]at h;rcases Ll hf with rfl|⟨J,_⟩
   ·simp[scE]at h
   ·exact v x J f h
 have A:zG s d.nm f.nm=d.flds.find? (nmF f.nm):=by rw[zG,if_neg (λg=>G g.1),y.find j];simp[I]
 rw[zjk,zbJ,A];cases d.flds.find? (nmF f.nm)<;>exact Iff.rfl
def ze9{f:B8->B9}:∀(k:Nat) (l:B9) (i:Nat),∃e,Nw f k l i=l++e
 | 0,l,_=>⟨[],by simp[Nw]⟩
 | k+1,l,i=>by
  simp only[Nw];cases l[i]? with
  | none=>exact⟨[],by simp⟩
  | some x =>obtain⟨e,j⟩:=Tq (f x) l;obtain⟨g,h⟩:=ze9 (f:=f) k ((f x).foldl Yp l) (i+1);exact⟨e++g,by show Nw f k _ (i+1)=_;rw[h,j,Uh]⟩
def L0{s:zg}{n:B8}:∀(k:Nat) (l:B9) (i:Nat),Lt (s.defs.map (·.nm)) l<=k+i->(P2 s n k l i=true↔n∈(Nw (Yo s) k l i).drop i)
 | 0,l,i,g=>by
  have:l.length<=Lt (s.defs.map (·.nm)) l:=by simp only[Lt];omega
  simp only[P2,Nw,List.drop_eq_nil_of_le (show l.length<=i by omega)];simp
 | k+1,l,i,g=>by
  simp only[P2,Nw];cases h:l[i]? with
  | none =>have:l.length<=i:=List.getElem?_eq_none_iff.1 h;simp[List.drop_eq_nil_of_le this]
  | some x =>
   have A:i<l.length:=by
    rcases Nat.lt_or_ge i l.length with g|g
    ·exact g
    ·rw[List.getElem?_eq_none g]at h;cases h
   have L:=Lb (U:=s.defs.map (·.nm)) (Yo s x) (l:=l) λJ G=>(R2 s x).2 J G;have I:=L0 (s:=s) (n:=n) k ((Yo s x).foldl Yp l) (i+1) xg;obtain⟨e,z⟩:=Tq (Yo s x) l;obtain⟨K,v⟩:=ze9 (f:=Yo s) k ((Yo s x).foldl Yp l) (i+1);have y:(Nw (Yo s) k ((Yo s x).foldl Yp l) (i+1)).drop i=x::(Nw (Yo s) k ((Yo s x).foldl Yp l) (i+1)).drop (i+1):=by
    have p:(Nw (Yo s) k ((Yo s x).foldl Yp l) (i+1))[i]?=some x:=by rw[v,z,Uh,SA A,h]
    have C:=(Vj.1 p).1;rw[List.drop_eq_getElem_cons C,(Vj.1 p).2]
   simp only[y,List.mem_cons];by_cases j:x=n
   ·simp[j]
   ·rw[if_neg j,I];have:¬ n=x:=λe=>j e.symm;simp[this]
def RT{s:zg}(L:Nm1 s)(x y:B8):y∈Yo s x↔y∈YU s x:=by
 have O:∀(v:List z6) (l:B9),y∈v.foldl (XM s) l↔y∈l∨∃f∈v,f.t.lists=0/\SK f.t=true/\yA s f.t.nm [5]=true/\f.t.nm=y:=by
  intro v;induction v with
  | nil=>intro l;simp
  | cons f v Z =>
   intro l;rw[List.foldl_cons,Z];have Y:y∈XM s l f↔y∈l∨(f.t.lists=0/\SK f.t=true/\yA s f.t.nm [5]=true/\f.t.nm=y):=by
    unfold XM;split
    ·rename_i p;rw[List.mem_append,List.mem_singleton];exact⟨λg=>g.imp id λe=>⟨p.1,p.2.1,p.2.2.1,e.symm⟩,λg=>g.imp id λe=>e.2.2.2.symm⟩
    ·rename_i p;refine⟨.inl,λg=>g.elim id λe=>?_⟩;have:zH f.t.nm l=true:=by
      cases U:zH f.t.nm l with
      | true=>rfl
      | false=>exact absurd ⟨e.1,e.2.1,e.2.2.1,U⟩ p
     rw[<-e.2.2.2];exact(Zm ..).1 this
   rw[Y];simp only[List.mem_cons,exists_eq_or_imp,or_assoc]
 rw[Yo,O];simp only[List.not_mem_nil,false_or];cases hf:zL s x with
 | none=>simp[YU,hf,zE]
 | some d =>
  simp only[YU,hf,Option.getD_some];rcases Ll hf with rfl|⟨M,_⟩
  ·simp[scE]
  have I:=L.rs d M;have X:=(KJ I).1;have W:d.ps≠[]->d.k=5:=λg=>by
   rcases Ts I with e|e|e
   ·exact absurd e.2 g
   ·exact absurd e.2.2.2 g
   ·exact e.1
  have G:∀f∈d.ps,f.t.lists=0->(SK f.t=true↔f.t.musts=1):=λf h j=>by
   have K:=Yh.1 X f h;have J:zD f.t=true:=by simp only[yx,yu]at K;exact K.2.1
   have aa:0<=f.t.musts/\f.t.musts<2:=by
    have:=J;simp only[zD,yu,Zh,j]at this;have e:(2:Int) ^ ((0:Int).toNat+1)=2:=by decide
    rw[e]at this;exact⟨this.2.2.2.1,this.2.2.2.2⟩
   simp only[SK,J,Bool.true_and,MV,Zh];omega
  by_cases C:d.k=5
  ·rw[if_pos C,List.mem_map];refine exists_congr λf=>?_;rw[List.mem_filter,QK,yu,yu,Zh,Zh];constructor
   ·rintro⟨h,j,z,A,e⟩;exact⟨⟨h,j,(G f h j).1 z,A⟩,e⟩
   ·rintro⟨⟨h,j,z,A⟩,e⟩;exact⟨h,j,(G f h j).2 z,A,e⟩
  ·rw[if_neg C];refine⟨λ⟨f,h,_⟩=>?_,λg=>by cases g⟩;exact absurd (W λe=>by rw[e]at h;cases h) C
def MG{f g:B8->B9}(h:∀x j,j∈f x↔j∈g x){l m:B9}(p:∀x,x∈l↔x∈m){x:B8}(v:zc7 f l x):zc7 g m x:=by
 induction v with
 | base h=>exact .base ((p _).1 h)
 | step _ y z=>exact .step z ((h _ _).1 y)
def zl6{s:zg}(h:Nm1 s)(n:B8):NX s n=O0 s n:=by
 have C:∀x,∀g∈Yo s x,g∈s.defs.map (·.nm):=λx g j=>(R2 s x).2 g j;have G:∀x,∀g∈YU s x,g∈s.defs.map (·.nm):=λx g j=>N2 j;have v:Lt (s.defs.map (·.nm)) (Yo s n)<=s.defs.length+1:=by
  have p:=R2 s n;have:(Yo s n).length+Ot (s.defs.map (·.nm)) (Yo s n)<=(s.defs.map (·.nm)).length:=by
   have K:∀(l f:B9),l.Nodup->(∀x∈l,x∈f)->l.length+Ot f l<=f.length:=by
    intro l f I y;have A:l.length<=(f.filter λx=>zH x l).length:=List.Nodup.length_le_of_subset I λx z=>List.mem_filter.2 ⟨y x z,(Zm ..).2 z⟩;have M:(f.filter λx=>zH x l).length+(f.filter λx=>!zH x l).length=f.length:=by
     clear A y;induction f with
     | nil=>rfl
     | cons L f O =>simp only[List.filter_cons,yg];cases zH L l<;>simp<;>omega
    unfold Ot;omega
   exact K _ _ p.1 p.2
  simp only[Lt,List.length_map]at this ⊢;omega
 have J:Lt (s.defs.map (·.nm)) (YU s n)<=(YU s n).length+s.defs.length+1:=by have:=zfz (s.defs.map (·.nm)) (YU s n);simp only[Lt,List.length_map]at this ⊢;omega
 rw[Bool.eq_iff_iff,NX,L0 (s:=s) (n:=n) (s.defs.length+1) (Yo s n) 0 v,List.drop_zero,O0,Zm,ze2 C v,ze2 G J];exact⟨MG (RT h) (RT h n),MG (λx g=>(RT h x g).symm) λx=>(RT h n x).symm⟩
def zeY{s:zg}(g:Nm1 s):MR s=So s:=by
 rw[Bool.eq_iff_iff,MR,So,Yh,Yh];refine forall_congr' λd=>forall_congr' λh=>?_;rw[LM,zl6 g];by_cases f:d.k=5
 ·simp[f]
 ·have j:YU s d.nm=[]:=by simp[YU,g.find h,f]
  have:O0 s d.nm=false:=by simp only[O0,j];simp[Nw,zH]
  simp[f,this]
def zeO{s:zg}:∀(k:Nat) (n:Int),Un s k n=0->1<=n->∀i,n<=i->i<n+k->Sj s i=true
 | 0,n,_,_,i,h1,h2=>by omega
 | k+1,n,h,hn,i,h1,h2=>by
  simp only[Un]at h;split at h
  ·rename_i g;rcases Int.lt_or_le n i with f|f
   ·exact zeO k (n+1) h xg i xg xg
   ·obtain rfl:n=i:=xg
    exact g
  ·omega
def znD{s:zg}:∀(k:Nat) (n:Int),(∀i,n<=i->i<n+k->Sj s i=true)->Un s k n=0
 | 0,n,_=>rfl
 | k+1,n,h=>by simp only[Un,h n xg xg,if_true];exact znD k (n+1) λi f g=>h i xg xg
def zqU{s:zg}:∀(k:Nat) (n:Int),(∀i,n<=i->i<n+k->SE s i=true)->UK s k n=0
 | 0,n,_=>rfl
 | k+1,n,h=>by simp only[UK,h n xg xg,if_true];exact zqU k (n+1) λi f g=>h i xg xg
def zoy(s:zg):UK s 9 1=0↔Un s 9 1=0:=by
 have v:∀ {P:Int->Prop},P 1->P 2->P 3->P 4->P 5->P 6->P 7->P 8->P 9->∀i:Int,1<=i->i<1+(9:Nat)->P i:=by
  intro P y z A C G I J K L i hi M;have:i=1∨i=2∨i=3∨i=4∨i=5∨i=6∨i=7∨i=8∨i=9:=xg
  rcases this with rfl|rfl|rfl|rfl|rfl|rfl|rfl|rfl|rfl<;>assumption
 constructor
 ·intro p;have f:=λi=>On 9 1 i xg p;have g:Ug s=true:=by rw[<-zbD];exact f 1 xg xg
  have h:XN s=true:=f 3 xg xg;have j:=zjh g;refine znD 9 1 (v g (f 2 xg xg) h (f 4 xg xg) (f 5 xg xg) ?_ (f 7 xg xg) ?_ (f 9 xg xg))
  ·show Ss s=true;rw[<-zeP j h];exact f 6 xg xg
  ·show So s=true;rw[<-zeY j];exact f 8 xg xg
 ·intro p;have f:=zeO 9 1 p xg;have g:Ug s=true:=f 1 xg xg;have h:XN s=true:=f 3 xg xg;have j:=zjh g;refine zqU 9 1 (v ?_ (f 2 xg xg) h (f 4 xg xg) (f 5 xg xg) ?_ (f 7 xg xg) ?_ (f 9 xg xg))
  ·show Si s=true;rw[zbD];exact g
  ·show Pc s=true;rw[zeP j h];exact f 6 xg xg
  ·show MR s=true;rw[zeY j];exact f 8 xg xg
def zfB(f:List zj):Prop:=∀(l:B9) (o:Own) (H:zd),l.length+yR f<=ze->zM H o l.length 1->YR Tryz.prog 263 [.o 7 (Zp f),.sl o 1 (cT l)] H o 1 (cT (Zo f l))
def zcY(v:List zj)(an:∀k K j L M W f,zj.mk k K j L M W f∈v->zfB f):zfB v:=by
 intro l o H ah ho;have aq:l.length+yR v<=1099511627776:=by simpa only[ze]using ah
 have A:=Z7 v;have au:=YL v;refine Xt ir263 λKP Q ag ap=>?_;refine xc A ?_;refine zc v 5 (λx:Own×B9=>[(1,.sl x.1 1 (cT x.2))]) (λaf aa x H'=>Zo aa x.2=Zo v l/\x.2.length+yR aa<=l.length+yR v/\zQ H o H' x.1 x.2.length 1) (o,l) xb ⟨rfl,ZG _,zQ.refl ho⟩ ?_ ?_
 ·rintro⟨o1,a⟩ H' ae ⟨y,_,h⟩ C;simp only[Zo]at y;refine xd A C ?_;refine ag _ _ H' H' [.sl o1 1 (cT a)] nofun xb (yT.refl _) ⟨o1,by rw[<-y];rfl,by rw[<-y,zn];exact h⟩
 ·rintro af x aa ⟨o1,a⟩ H' ae ac C _ ⟨y,aj,h⟩ X;have I:=YY ac;have ak:x∈v:=xv ac
  have Z:=zal x a;simp only[Zo,yR]at y aj;replace h:zQ H o H' o1 a.length 1:=h;obtain⟨k,K,j,L,M,W,f⟩:=x;have am:=an _ _ _ _ _ _ _ ak;have p:Qj (.mk k K j L M W f) a=Zo f (if k=1/\zH j a=false then a++[j]else a):=by simp only[Qj]
  have ar:yR f+1<=bS (.mk k K j L M W f):=vg
  rw[Zt]at I;have U:=zn a;have ab:∀(o2:Own) (G:B9) (g:zd),G.length<=a.length+1->zQ H o g o2 G.length 1->YR Tryz.prog 263 [.o 7 (Zp f),.sl o2 1 (cT G)] g o2 1 (cT (Zo f G)):=λo2 G g J h'=>am G o2 g xi h'.own;by_cases O:k=1
  case neg =>rw[if_neg (λJ=>O J.1)]at p;refine xk A C I O (zu (ab o1 a _ xg h) λo2 g z=>?_);rw[zn]at z;refine xq ?_;exact zJ (X (o2,Zo f a) g ⟨by rw[<-y,p],by simp only;rw[p]at Z;omega,h.trans z⟩) xf
  have ai:=eq_true O;refine xE A C I ai (Zk.low (TG a j xi)) ?_;cases ad:zH j a with
  | true =>rw[if_neg (λJ=>by rw[ad]at J;cases J.2)]at p;refine xe A C I (zu (ab o1 a _ xg h) λo2 g z=>?_);rw[zn]at z;refine xq ?_;exact zJ (X (o2,Zo f a) g ⟨by rw[<-y,p],by simp only;rw[p]at Z;omega,h.trans z⟩) xf
  | false =>
   rw[if_pos ⟨O,ad⟩]at p;refine xe A C I (zp (by rw[U];exact h.own) ?_ ?_ λo' ao al=>?_)
   ·simp only[U,yg,yy];omega
   ·refine xR U ?_;omega
   have Y:=h.trans al;simp only[U,yg,yy]at Y;simp(disch:=first|omega|assumption) only[Wa,A,C,I,go_sem];refine zu (ab o' (a++[j]) _ xw (xy Y)) λo2 g z=>?_;rw[zn]at z;refine xq ?_;exact zJ (X (o2,Zo f (a++[j])) g ⟨by rw[<-y,p],by simp only;rw[p]at Z;omega,(zQ.trans (n:=a.length+1) (xy Y) z)⟩) xf
def zrg(y:List zj):zfB y:=by
 have z:∀x:zj,∀k g p h j v f,x=.mk k g p h j v f->zfB f:=zj.ind λk g p h j v y C=>by intro K G L I J M f e;cases e;exact zcY y λk g p h j v f A=>C _ A _ _ _ _ _ _ _ rfl
 exact zcY y λk g p h j v f _=>z _ k g p h j v f rfl
def zhB(f:List zj)(H:zd)(p:yR f<=ze):YR Tryz.prog 262 [.o 7 (Zp f)] H .nil 1 (cT (Zo f [])):=by have h:=zrg f [] .nil H (xy p) rfl;have v:cT []=[]:=rfl;rw[v]at h;refine Xt ir262 λKP Q j z=>?_;refine xa (zu h λo2 g y=>?_);refine xa ?_;refine j _ _ g g [.sl o2 1 (cT (Zo f []))] nofun xb (yT.refl _) ⟨o2,rfl,y⟩
def zaA(d:zv)(f:List zj)(a2:Zi d<=ze)(bv:yR f<=zt d):zf 135 [.agg (z8 d),.o 7 (Zp f)] (.o 1 (cT (Zl d f))):=by
 have bp:XZ d.frags<=zt d:=wA
 have a3:2*(yR f+XZ d.frags)<=ze:=by simp only[Zi]at a2;omega
 have bn:2*(yR f+XZ d.frags)<=1099511627776:=by simpa only[ze]using a3
 have bq:=yP d.frags;have Z:=λn=>SD d n xi;have a0:∀g∈d.frags,∀W∈Tp g.sels,W∈Q3 d f:=λg hf W U=>by simp only[Q3,List.mem_append,List.mem_flatMap];exact .inr ⟨g,hf,U⟩
 have bh:=zaI d f;have ok0:OkN (Q3 d f) (Zo f []):=V4 f [] (λW U=>by simp[Q3,U]) ⟨List.nodup_nil,by simp⟩;generalize bl:Q3 d f=ao at *
 have ar:Zl d f=d.frags.foldl (ZO (Zx d f)) []:=rfl;have aq:Zx d f=VE d (yR f+XZ d.frags+1) (Zo f []) 0:=rfl;generalize bj:yR f+XZ d.frags=B,Zl d f=be,Zx d f=F at *
 have bd:=λn g (C:yb d n=some g)=>(show g∈d.frags from List.mem_of_find?_eq_some C);have a6:=λg (C:g∈d.frags)=>Nat.le_trans (Xb g) (WB C);have az:=λH=>zhB f H xg;have a4:=Yl d;simp only[a4]at Z ⊢;refine zo ir135 λKP Q ay=>?_;refine xa (zu (az _) λo0 H0 ah=>?_);rw[zn]at ah;refine xa ?_;refine ZZ (λx:Own×B9×Nat=>[(5,.sl x.1 1 (cT x.2.1)),(6,.i x.2.2)]) (λx H'=>zM H' x.1 x.2.1.length 1/\OkN ao x.2.1/\x.2.2<=x.2.1.length/\VE d (B+1-x.2.2) x.2.1 x.2.2=F) (λx=>B+1-x.2.2) (o0,Zo f [],0) xb ⟨ah.own,ok0,by simp,aq.symm⟩ ?_;rintro⟨o,l,i⟩ am bg ⟨ho,J,hi,j⟩ aa;replace ho:zM am o l.length 1:=ho;simp only at J hi j;have hlen:=zau J;have ak:=zn l;have au:B+1-i=(B-i)+1:=xg
 rw[au]at j;by_cases bu:i<l.length
 case neg =>
  have a7:l[i]?=none:=List.getElem?_eq_none xg;have O:¬ ((i:Int)<l.length):=xg
  simp only[VE,a7]at j;subst j;have I:=Z5 d.frags;refine xe ak O I ?_;refine zc d.frags 10 (λx:Own×B9=>[(9,.sl x.1 1 (cT x.2))]) (λX al x H'=>al.foldl (ZO l) x.2=d.frags.foldl (ZO l) []/\x.2.length<=X.length/\zM H' x.1 x.2.length 1) (.nil,[]) xJ ⟨rfl,by simp,rfl⟩ ?_ ?_
  ·rintro⟨o1,a⟩ p an ⟨h,_,A⟩ G;simp only[List.foldl]at h;refine xd I G ?_;exact @ay _ _ [.sl o1 1 (cT a)] xb (wK ar h)
  ·rintro X x al ⟨o1,a⟩ p an a5 G _ ⟨h,bc,A⟩ K;have z:=Ym a5;simp only[List.foldl]at h;simp only at bc;replace A:zM p o1 a.length 1:=A;have v:ZO l a x=if zH x.nm l=true/\zH x.nm a=false then a++[x.nm]else a:=rfl
   obtain⟨y,aw,av,Y⟩:=x;rw[Ys]at z;simp only at v;refine xm I G z (Zk.low (TG l y xi)) ?_;cases ae:zH y l with
   | false =>rw[if_neg (xr ae)]at v;rw[v]at h;refine xa ?_;exact zJ (K (o1,a) _ ⟨h,by refine wm ?_;omega,A⟩) xf
   | true =>
   refine xm I G z (Zk.low (TG a y xi)) ?_;cases ac:zH y a with
   | true =>rw[if_neg (xr ac)]at v;rw[v]at h;refine xa ?_;exact zJ (K (o1,a) _ ⟨h,by refine wm ?_;omega,A⟩) xf
   | false =>
    rw[if_pos ⟨ae,ac⟩]at v;rw[v]at h;refine xe I G z (zp (wZ A) ?_ ?_ λo' bf aj=>?_)
    ·simp only[zn,yg,yy];omega
    ·refine wE ?_;omega
    simp only[zn,yg,yy]at aj;refine x3 ?_;exact zJ (K (o',a++[y]) _ ⟨h,by refine wm ?_;omega,by simpa using aj.own⟩) xb
 obtain⟨a,x,r,af,a1⟩:∃a x r,l=a++x::r/\a.length=i:=⟨l.take i,l[i],l.drop (i+1),by rw[List.getElem_cons_drop,List.take_append_drop],by rw[List.length_take];omega⟩;subst a1;have z:l[a.length]?=some x:=xv af
 have a9:(cT l).getD a.length []=[.str x]:=ZM af;have O:(a.length:Int)<l.length:=xg
 have ax:=Z x;simp only[VE,z]at j;refine xm ak O a9 ax ?_;cases M:yb d x with
 | none =>rw[M]at j;refine w1 (zb λap L=>?_);refine xa ?_;exact zJ (aa (o,l,a.length+1) _ wP ⟨ho.upd L,J,by simp only;omega,by simp only;rw[<-j];congr 1;omega⟩) (by refine xq ?_;simp)
 | some g =>rw[M]at j;have ad:=bd x g M;have br:=a6 g ad;have ag:=V4 g.sels l (a0 g ad) J;have ba:=Ru g.sels l;have ab:=λp (C:zM p o l.length 1)=>zrg g.sels l o p xi C;have a8:l.length<=(Zo g.sels l).length:=Pg g.sels l;obtain⟨y,aw,av,Y⟩:=g;simp only at ab ag ba j a8;refine w5 (zb λap L=>?_);refine xa (zu (ab _ (ho.upd L)) λo2 p ai=>?_);rw[zn]at ai;refine xa ?_;exact zJ (aa (o2,Zo Y l,a.length+1) p wP ⟨ai.own,ag,by simp only;omega,by simp only;rw[<-j];congr 1;omega⟩) (by refine xq ?_;simp)
def Sh(d:zv):Bool:=d.frags.any λf=>zH f.nm (Zl d f.sels)
def zmz(d:zv)(G:Zi d<=ze):zf 57 [.agg (z8 d)] (.bool (Sh d)):=by
 have ae:XZ d.frags<=zt d:=wA
 have Z:zt d<=ze:=by simp only[Zi]at G;omega
 have af:zt d<=1099511627776:=by simpa only[ze]using Z
 have ag:=yP d.frags;have A:=λf (U:f∈d.frags)=>zaA d f.sels G (by have:=WB U;have:=Xb f;omega);have X:=λab=>WW d ab;have j:=Z5 d.frags;have p:Sh d=d.frags.any λf=>zH f.nm (Zl d f.sels):=rfl;have aa:=Yl d;generalize Sh d=F,Zl d=R at *
 simp only[aa]at A ⊢;refine zo ir57 λKP Q z=>?_;refine xc j ?_;refine zc d.frags 3 ZY (λO L _ H=>(L.any λf=>zH f.nm (R f.sels))=d.frags.any λf=>zH f.nm (R f.sels)) () xb rfl ?_ ?_
 ·rintro _ H M g h;refine xd j h ?_;exact z rfl (x9 p g)
 ·rintro O x L _ H M I h _ g W;have J:=Ym I;have C:=A x (xv I);have Y:=X x.sels;rw[List.any_cons]at g;obtain⟨v,ad,ac,y⟩:=x;rw[Ys]at J;simp only at C Y g;refine xm j h J C ?_;refine xh (TG (R y) v xi) ?_;cases K:zH v (R y)with
  | true =>rw[K,Bool.true_or]at g;refine xa ?_;exact z rfl (x9 p g)
  | false =>rw[K,Bool.false_or]at g;refine xa ?_;exact zJ (W () _ g) xf
def U1{o:Y6}:∀ {l:List Y6},o∈l->bO o<=Ub l
 | x::l,f=>by
  rcases List.mem_cons.1 f with rfl|f
  ·simp only[Ub,List.map_cons,List.sum_cons];omega
  ·have:=U1 f;simp only[Ub,List.map_cons,List.sum_cons]at this ⊢;omega
def Uw(o:Y6):yR o.sels<=bO o:=by simp only[bO];omega
def Tt(d:zv):Bool:=d.frags.all λf=>d.ops.any λo=>zH f.nm (Zl d o.sels)
def zmx(d:zv)(W:Zi d<=ze):zf 58 [.agg (z8 d)] (.bool (Tt d)):=by
 have an:Ub d.ops+XZ d.frags=zt d:=rfl;have af:zt d<=ze:=by simp only[Zi]at W;omega
 have ao:zt d<=1099511627776:=by simpa only[ze]using af
 have ap:=yP d.frags;have aq:=ZJ d.ops;have O:=λo (ab:o∈d.ops)=>zaA d o.sels W (by have:=U1 ab;have:=Uw o;omega);have ad:=λai=>WW d ai;have p:=ZI d.ops;have z:=Z5 d.frags;have K:Tt d=d.frags.all λh=>d.ops.any λo=>zH h.nm (Zl d o.sels):=rfl;have ag:=Yl d;generalize Tt d=F,Zl d=R at *
 simp only[ag]at O ⊢;refine zo ir58 λKP Q M=>?_;refine xc z ?_;refine zc d.frags 3 ZY (λJ A _ H=>(A.all λh=>d.ops.any λo=>zH h.nm (R o.sels))=d.frags.all λh=>d.ops.any λo=>zH h.nm (R o.sels)) () xb rfl ?_ ?_
 ·rintro _ H Z f y;refine xd z y ?_;exact M rfl (x9 K f)
 ·rintro J x A _ H Z ah y _ f ac;have C:=Ym ah;rw[List.all_cons]at f;obtain⟨v,al,ak,am⟩:=x;rw[Ys]at C;simp only at f;refine xk z y C p ?_;refine zc d.ops 5 (λb:Bool=>[(4,.bool b)]) (λJ A b H=>(b||A.any λo=>zH v (R o.sels))=d.ops.any λo=>zH v (R o.sels)) false xb xw ?_ ?_
  ·rintro b Y aa g j;simp only[List.any_nil,Bool.or_false]at g;rw[<-g]at f;cases b with
   | false =>refine xd p j ?_;exact M rfl (x9 K f)
   | true =>refine xd p j ?_;exact zJ (ac () _ (xy f)) xf
  ·rintro aj I aw b Y aa X j _ g L;have G:=Z6 X;have U:=O I (xv X);have ae:=ad I.sels;rw[List.any_cons]at g;obtain⟨ok,au,av,ar,os⟩:=I;rw[Xn]at G;simp only at U ae g;cases b with
   | true =>refine xe p j G ?_;exact zJ (L true _ (xy g)) xf
   | false =>refine xH p j G z y C U ?_;refine xh (TG (R os) v xi) ?_;refine xa ?_;exact zJ (L (zH v (R os)) _ (xy g)) xf
mutual
def S0(s:zg)(typ:B8):zj->List Zr| .mk k al nm args dirs on sels=>(typ,.mk k al nm args dirs on sels)::Yq s (zz s typ (.mk k al nm args dirs on sels)) sels
def Yq(s:zg)(typ:B8):List zj->List Zr
 | []=>[]
 | x::r=>S0 s typ x++Yq s typ r
end
mutual
def zmA(s:zg):∀(x:zj) (typ:B8),(S0 s typ x).length<=bS x| .mk k al nm args dirs on sels,typ=>by have:=U4 s sels (zz s typ (.mk k al nm args dirs on sels));simp only[S0,bS,yg];omega
def U4(s:zg):∀(l:List zj) (typ:B8),(Yq s typ l).length<=yR l
 | [],typ=>by simp[Yq]
 | x::r,typ=>by have f:=zmA s x typ;have g:=U4 s r typ;simp only[Yq,yR,ZX];omega
end
mutual
def zmI(s:zg):∀(x:zj) (typ:B8),∀t∈S0 s typ x,bS t.2<=bS x
 | .mk k al nm args dirs on sels,typ,t,f=>by
  simp only[S0,List.mem_cons]at f;rcases f with rfl|f
  ·exact ZG _
  ·have:=P9 s sels _ t f;simp only[bS]at this ⊢;omega
def P9(s:zg):∀(l:List zj) (typ:B8),∀t∈Yq s typ l,bS t.2<=yR l
 | [],typ,t,f=>by simp[Yq]at f
 | x::r,typ,t,f=>by
  simp only[Yq,List.mem_append]at f;simp only[yR];rcases f with f|f
  ·have:=zmI s x typ t f;omega
  ·have:=P9 s r typ t f;omega
end
mutual
def ziH(s:zg)(p:B8->zj->Bool):∀(x:zj) (typ:B8),zac s p typ x=(S0 s typ x).all λt=>p t.1 t.2| .mk k al nm args dirs on sels,typ=>by have:=Oi s p sels (zz s typ (.mk k al nm args dirs on sels));have e:zz s typ (.mk k al nm args dirs on [])=zz s typ (.mk k al nm args dirs on sels):=rfl;simp only[S0,zac,List.all_cons,e,this]
def Oi(s:zg)(p:B8->zj->Bool):∀(l:List zj) (typ:B8),XC s p typ l=(Yq s typ l).all λt=>p t.1 t.2
 | [],typ=>by simp[Yq,XC]
 | x::r,typ=>by have f:=ziH s p x typ;have g:=Oi s p r typ;simp only[Yq,XC,List.all_append,f,g]
end
def Zf(s:zg)(d:zv):List Zr:=(d.ops.flatMap λo=>Yq s (ZS s o) o.sels)++d.frags.flatMap λf=>Yq s f.on f.sels
def T4{α β:Type}(p:β->Bool)(f:α->List β):∀l:List α,(l.flatMap f).all p=l.all λx=>(f x).all p
 | []=>rfl
 | x::r=>by rw[List.flatMap_cons,List.all_append,T4 p f r,List.all_cons]
def XR(s:zg)(d:zv)(p:B8->zj->Bool):Yw s d p=(Zf s d).all λt=>p t.1 t.2:=by simp only[Yw,Zf,List.all_append,T4,Oi]
def NL(x:Zr):List AV:=.str x.1::cS x.2
def WI(l:List Zr):List (List AV):=l.map NL
def yS(l:List Zr):(WI l).length=l.length:=by simp[WI]
def WE{l a:List Zr}{x:Zr}{b:List Zr}(h:l=a++x::b):(WI l).getD a.length []=NL x:=Z2 h
def Xv(typ:B8)(k:Int)(f h:B8)(args:List yU)(g:List yv)(j:B8)(p:List zj):NL (typ,.mk k f h args g j p)=[.str typ,.i k,.str f,.str h,.o 6 (Ya args),.o 2 (ZE g),.str j,.o 7 (Zp p)]:=by rw[NL,Zt]
def zfZ(x:Zr):(NL x).map AV.strip1=NL x:=by obtain⟨y,⟨k,f,j,g,h,p,v⟩⟩:=x;rw[Xv];rfl
def NW(a b:List Zr):WI a++(WI b).map (·.map AV.strip1)=WI (a++b):=by
 have:(WI b).map (·.map AV.strip1)=WI b:=by rw[WI,List.map_map];exact List.map_congr_left λf _=>zfZ f
 rw[this];simp[WI]
def zhx(s:zg)(o:Y6):zf 137 [.agg (zk s),.agg (cO o)] (.str (ZS s o)):=by
 obtain⟨k,j,z,ds,y⟩:=o;obtain⟨p,v,sm⟩:=s;rw[Xn];simp only[zk];refine zo ir137 λKP Q g=>?_;by_cases f:k=1
 ·have h:=eq_true f;refine xc h ?_;exact g rfl (by simp[ZS,f])
 ·refine xc f ?_;exact g rfl (by simp[ZS,f])
def Qc(s:zg)(typ:B8)(x:zj)(A:zA s<=ze):zf 264 [.agg (zk s),.str typ,.agg (cS x)] (.str (zz s typ x)):=by
 obtain⟨k,I,j,J,L,G,ad⟩:=x;have p:=OI s typ j A;simp only[zz];generalize (zG s typ j).isSome=Z,(zG s typ j).getD zF=y at *
 obtain⟨X,Y,⟨M,O,U⟩,W⟩:=y;obtain⟨ab,ac,sm⟩:=s;simp only[zk,YG,Zt]at p ⊢;refine zo ir264 λKP Q h=>?_;by_cases f:k=0
 ·have z:=eq_true f;refine xt z p ?_;refine xa (zb λK aa=>?_);exact vn h f
 by_cases g:k=2
 ·have v:=eq_true g;by_cases ho:G=[]
  ·have C:=eq_true ho;refine xe f v C ?_;exact xz h g ho
  ·refine xe f v ho ?_;exact xz h g ho
 ·exact vp f g h f g
def zhZ(s:zg)(f:List zj):Prop:=∀(g:B8) (l:List Zr) (o:Own) (H:zd),l.length+yR f<=274877906944->zM H o l.length 8->YR Tryz.prog 136 [.agg (zk s),.str g,.o 7 (Zp f),.sl o 8 (WI l)] H o 8 (WI (l++Yq s g f))
def zfs(s:zg)(ap:zA s<=ze)(A:List zj)(M:∀k h v j p y g,zj.mk k h v j p y g∈A->zhZ s g):zhZ s A:=by
 intro f l o H ay ho;have G:=Z7 A;have a0:=YL A;have Y:=λx=>Qc s f x ap;simp only[zhZ]at M;have ah:∀x,S0 s f x=(f,x)::Yq s (zz s f x) x.sels:=λx=>by obtain⟨k,h,v,j,p,y,g⟩:=x;simp only[S0,zj.sels]
 have af:∀x r,Yq s f (x::r)=S0 s f x++Yq s f r:=λx r=>by simp only[Yq]
 have ag:Yq s f []=[]:=by simp only[Yq]
 have al:=λ(x:zj) (t:B8)=>U4 s x.sels t;generalize zz s f=U,Yq s=S,S0 s=aw at *
 have ak:=UN s;simp only[ak]at Y M ⊢;refine Xt ir136 λKP Q aj ax=>?_;refine xc G ?_;refine zc A 9 (λx:Own×List Zr=>[(3,.sl x.1 8 (WI x.2))]) (λad O x H'=>x.2++S f O=l++S f A/\x.2.length+yR O<=l.length+yR A/\zQ H o H' x.1 x.2.length 8) (o,l) xb ⟨rfl,ZG _,zQ.refl ho⟩ ?_ ?_
 ·rintro⟨o1,a⟩ H' ac ⟨z,_,C⟩ I;simp only[ag,List.append_nil]at z;refine xd G I ?_;refine aj _ _ H' H' [.sl o1 8 (WI a)] nofun xb (yT.refl _) ⟨o1,by rw[<-z];rfl,by rw[<-z,yS];exact C⟩
 ·rintro ad x O ⟨o1,a⟩ H' ac W I _ ⟨z,am,C⟩ ai;have J:=YY W;have ao:x∈A:=xv W
  have Z:=Y x;have an:=al x (U x);simp only[yR]at z am;rw[af,ah]at z;replace C:zQ H o H' o1 a.length 8:=C;obtain⟨k,h,v,j,p,y,g⟩:=x;have ar:=M _ _ _ _ _ _ _ ao;have az:yR g+1<=bS (.mk k h v j p y g):=vg
  generalize U (.mk k h v j p y g)=aa at *
  have au:=Xv f k h v j p y g;rw[Zt]at J Z;simp only[zj.sels]at z an;have K:=yS a;refine xe G I J (zp (by rw[K];exact C.own) ?_ ?_ λo' av aq=>?_)
  ·simp only[K,yg,yy];omega
  ·refine xR K ?_;omega
  have L:=C.trans aq;simp only[K,yg,yy]at L;have ae:WI a++[[AV.str f,.i k,.str h,.str v,.o 6 (Ya j),.o 2 (ZE p),.str y,.o 7 (Zp g)]]=WI (a++[(f,.mk k h v j p y g)]):=by rw[<-au];simp[WI]
  refine xE ae G I J Z ?_;refine xe G I J (zu (ar aa (a++[(f,.mk k h v j p y g)]) o' _ (by simp only[ZX,yg,yy];omega) (by simpa using L.own)) λo2 ab X=>?_);rw[yS]at X;refine xq ?_;exact zJ (ai (o2,a++[(f,.mk k h v j p y g)]++S aa g) ab ⟨by rw[<-z];simp,by refine wm ?_;omega,zQ.trans (n:=a.length+1) (xy L) X⟩) xf
def zsA(s:zg)(z:zA s<=ze)(y:List zj):zhZ s y:=by
 have A:∀x:zj,∀k g p h j v f,x=.mk k g p h j v f->zhZ s f:=zj.ind λk g p h j v y G=>by intro L I M J K O f e;cases e;exact zfs s z y λk g p h j v f C=>G _ C _ _ _ _ _ _ _ rfl
 exact zfs s z y λk g p h j v f _=>A _ k g p h j v f rfl
def VG(s:zg)(d:zv):(Zf s d).length<=zt d:=by have h:=XL (f:=λo=>Yq s (ZS s o) o.sels) (g:=bO) d.ops λo _=>Nat.le_trans (U4 s _ _) (Uw o);have j:=XL (f:=λf:yE=>Yq s f.on f.sels) (g:=bF) d.frags λf _=>Nat.le_trans (U4 s _ _) (Xb f);simp only[Zf,ZX,zt,Ub,XZ];omega
def R1(s:zg)(d:zv):∀t∈Zf s d,bS t.2<=zt d:=λt f=>by
 simp only[Zf,List.mem_append,List.mem_flatMap]at f;rcases f with ⟨o,ho,f⟩|⟨g,hf,f⟩
 ·have:=P9 s _ _ t f;have:=U1 ho;have:=Uw o;simp only[zt];omega
 ·have:=P9 s _ _ t f;have:=WB hf;have:=Xb g;simp only[zt];omega
def Oe(s:zg)(d:zv)(au:zA s<=ze)(a2:zt d<=274877906944):zf 59 [.agg (zk s),.agg (z8 d)] (.o 8 (WI (Zf s d))):=by
 have a3:Ub d.ops+XZ d.frags=zt d:=rfl;have a4:=yP d.frags;have a5:=ZJ d.ops;have K:=ZI d.ops;have W:=Z5 d.frags;have ac:=λo=>zhx s o;have U:=λax ay l o H ak al=>zsA s au ax ay l o H ak al;have L:Zf s d=(d.ops.flatMap λo=>Yq s (ZS s o) o.sels)++d.frags.flatMap λf=>Yq s f.on f.sels:=rfl;have ae:=λl:List Y6=>XL (f:=λo=>Yq s (ZS s o) o.sels) (g:=bO) l λo _=>Nat.le_trans (U4 s _ _) (Uw o);have af:=λl:List yE=>XL (f:=λf:yE=>Yq s f.on f.sels) (g:=bF) l λf _=>Nat.le_trans (U4 s _ _) (Xb f);have ar:=Yl d;generalize Zf s d=F,ZS s=R,Yq s=S at *
 obtain⟨ba,bc,sm⟩:=s;simp only[zk,ar]at ac U ⊢;refine zo ir59 λKP Q aq=>?_;refine xc K ?_;refine zc d.ops 6 (λx:Own×List Zr=>[(5,.sl x.1 8 (WI x.2))]) (λh G x H'=>x.2=(h.flatMap λo=>S (R o) o.sels)/\zM H' x.1 x.2.length 8) (.nil,[]) vf ⟨rfl,rfl⟩ ?_ ?_
 ·rintro⟨o1,a⟩ H ai ⟨j,p⟩ I;simp only at j;rw[<-j]at L;have av:=ae d.ops;rw[<-j]at av;replace p:zM H o1 a.length 8:=p;refine xe K I W ?_;refine zc d.frags 7 (λx:Own×List Zr=>[(5,.sl x.1 8 (WI x.2))]) (λh G x H'=>x.2=a++(h.flatMap λf=>S f.on f.sels)/\zM H' x.1 x.2.length 8) (o1,a) xb ⟨by simp,p⟩ ?_ ?_
  ·rintro⟨o2,b⟩ Y aj ⟨y,J⟩ O;simp only at y;rw[<-y]at L;refine xd W O ?_;exact @aq _ _ [.sl o2 8 (WI b)] xb (wa L)
  ·rintro h x G ⟨o2,b⟩ Y aj z O _ ⟨y,J⟩ ap;have v:=Ym z;simp only at y;replace J:zM Y o2 b.length 8:=J;have a9:=af (h++[x]);have aw:XZ d.frags=((h++[x]).map bF).sum+(G.map bF).sum:=by rw[z];simp[XZ];omega
   have A:b++S x.on x.sels=a++((h++[x]).flatMap λf=>S f.on f.sels):=xv y
   have M:b.length+yR x.sels<=zt d:=by
    have ab:=af h;have am:=Xb x;have an:((h++[x]).map bF).sum=(h.map bF).sum+bF x:=xw
    have a1:(d.ops.map bO).sum=Ub d.ops:=rfl;rw[y,ZX];omega
   obtain⟨a0,Z,az,aa⟩:=x;rw[Ys]at v;simp only at A M;refine xe W O v (zu (U aa Z b o2 _ xg J) λX ah C=>?_);rw[yS]at C;refine xq ?_;exact zJ (ap (X,b++S Z aa) _ ⟨A,C.own⟩) xb
 ·rintro h x G ⟨o1,a⟩ H ai z I _ ⟨j,p⟩ ao;have v:=Z6 z;simp only at j;replace p:zM H o1 a.length 8:=p;have ad:=ac x;have aw:Ub d.ops=((h++[x]).map bO).sum+(G.map bO).sum:=by rw[z];simp[Ub];omega
  have A:a++S (R x) x.sels=((h++[x]).flatMap λo=>S (R o) o.sels):=xv j
  have M:a.length+yR x.sels<=zt d:=by
   have ab:=ae h;have am:=Uw x;have an:((h++[x]).map bO).sum=(h.map bO).sum+bO x:=xw
   rw[<-j]at ab;omega
  generalize R x=ag at *
  obtain⟨ok,a7,a8,a6,os⟩:=x;rw[Xn]at v ad;simp only at A M;refine xm K I v ad ?_;refine xe K I v (zu (U os ag a o1 _ xg p) λX ah C=>?_);rw[yS]at C;refine xq ?_;exact zJ (ao (X,a++S ag os) _ ⟨A,C.own⟩) xb
def zj.on:zj->B8|.mk _ _ _ _ _ o _=>o
def ziQ(d:zv)(M:d.ops.length<=ze):zf 52 [.agg (z8 d)] (.o 1 (cT ((d.ops.map (·.nm)).filter λn=>!decide (n=[])))):=by
 have W:=M;obtain⟨os,A⟩:=d;have O:z8 ⟨os,A⟩=[.o 5 (PR os),.o 4 (Pf A)]:=rfl;rw[O];simp only[ze]at W;simp only
 have v:=ZI os;refine zo ir52 λKP Q L=>?_;refine xc v ?_;refine zc os 4 (λx:Own×B9=>[(3,.sl x.1 1 (cT x.2))]) (λp Y x H'=>x.2=(p.map (·.nm)).filter (λn=>!decide (n=[]))/\x.2.length<=p.length/\zM H' x.1 x.2.length 1) (.nil,[]) xJ ⟨rfl,by simp,rfl⟩ ?_ ?_
 ·rintro⟨o1,a⟩ H K ⟨g,_,j⟩ y;simp only at g;subst g;refine xd v y ?_;exact @L _ _ [.sl o1 1 (cT ((os.map (·.nm)).filter λn=>!decide (n=[])))] xb rfl
 ·rintro p x Y ⟨o1,a⟩ H K U y Z ⟨g,X,j⟩ C;have z:=Z6 U;replace j:zM H o1 a.length 1:=j;simp only at g X;have h:((p++[x]).map (·.nm)).filter (λn=>!decide (n=[]))=a++if x.nm=[]then []else [x.nm]:=by
   rw[List.map_append,List.filter_append,<-g]
   congr 1
   by_cases f:x.nm=[]<;>simp[f]
  obtain⟨ok,I,ac,aa,ab⟩:=x;rw[Xn]at z;simp only at h;by_cases f:I=[]
  ·have h':=eq_true f;rw[if_pos f,List.append_nil]at h;refine xk v y z h' ?_;exact zJ (C (o1,a) H ⟨h.symm,by refine wm ?_;omega,j⟩) xf
  rw[if_neg f]at h;refine xk v y z f (zp (wZ j) ?_ ?_ λo' J G=>?_)
  ·simp only[zn,yg,yy];omega
  ·refine wE ?_;omega
  simp only[zn,yg,yy]at G;refine x3 ?_;exact zJ (C (o',a++[I]) J ⟨h.symm,by refine wm ?_;omega,by simpa using G.own⟩) xb
def p3R(s:zg)(o:Y6):Bool:=decide (o.k=1)&&decide (s.m=[])
def Qf(s:zg)(d:zv):Bool:=!d.ops.any (p3R s)
def zkM(s:zg)(d:zv)(M:d.ops.length<=ze):zf 53 [.agg (zk s),.agg (z8 d)] (.bool (Qf s d)):=by
 have y:Qf s d=!d.ops.any (p3R s):=rfl;have z:∀o,p3R s o=(decide (o.k=1)&&decide (s.m=[])):=λ_=>rfl;generalize Qf s d=F,p3R s=P at *
 obtain⟨os,A⟩:=d;have O:z8 ⟨os,A⟩=[.o 5 (PR os),.o 4 (Pf A)]:=rfl;obtain⟨ab,ac,sm⟩:=s;simp only[O,zk,ze]at M y z ⊢;have g:=ZI os;refine zo ir53 λKP Q G=>?_;refine xc g ?_;refine zc os 5 ZY (λL J _ H=>J.any P=os.any P) () xb rfl ?_ ?_
 ·rintro _ H K f h;refine xd g h ?_;exact G rfl (x9 y f)
 ·rintro L x J _ H K U h _ f C;have j:=Z6 U;rw[List.any_cons,z]at f;obtain⟨ok,Y,aa,X,Z⟩:=x;rw[Xn]at j;simp only at f;by_cases p:ok=1
  case neg =>rw[decide_eq_false p,Bool.false_and,Bool.false_or]at f;refine xk g h j p ?_;exact zJ (C () _ f) xf
  have I:=eq_true p;by_cases v:sm=[]
  ·have W:=eq_true v;rw[decide_eq_true p,decide_eq_true v,Bool.true_and,Bool.true_or]at f;refine xp g h j I W ?_;exact G rfl (x9 y f)
  ·rw[decide_eq_false v,Bool.and_false,Bool.false_or]at f;refine xp g h j I v ?_;exact zJ (C () _ f) xf
def p5R(s:zg)(t:Zr):Bool:=!(decide (t.2.k=2)&&!decide (t.2.on=[]))||y9 s t.2.on
def RL(s:zg)(d:zv):Bool:=(d.frags.all λf=>y9 s f.on)&&(Zf s d).all (p5R s)
def zk2(s:zg)(d:zv)(ab:zA s<=ze)(ad:zt d<=274877906944):zf 55 [.agg (zk s),.agg (z8 d)] (.bool (RL s d)):=by
 have L:=λn=>LZ s n (zR ab);have Z:=Oe s d ab ad;have al:=VG s d;have an:=yP d.frags;have am:Ub d.ops+XZ d.frags=zt d:=rfl;have W:=Z5 d.frags;have j:RL s d=((d.frags.all λp=>y9 s p.on)&&(Zf s d).all (p5R s)):=rfl;have ac:∀t,p5R s t=(!(decide (t.2.k=2)&&!decide (t.2.on=[]))||y9 s t.2.on):=λ_=>rfl;have ae:=Yl d;generalize RL s d=F,p5R s=P,y9 s=C,Zf s d=I at *
 have z:=yS I;obtain⟨ap,aq,sm⟩:=s;simp only[zk,ae]at L Z ⊢;refine zo ir55 λKP Q K=>?_;refine xc W ?_;refine zc d.frags 5 ZY (λJ A _ H=>(A.all λp=>C p.on)=d.frags.all λp=>C p.on) () xb rfl ?_ ?_
 ·rintro _ H G f g;rw[<-f]at j;simp only[List.all_nil,Bool.true_and]at j;refine xn W g Z ?_;refine xc z ?_;refine zc I 7 ZY (λJ A _ H=>A.all P=I.all P) () xb rfl ?_ ?_
  ·rintro _ H G f g;refine xd z g ?_;exact K rfl (x9 j f)
  ·rintro J x A _ H G M g _ f v;have h:=WE M;rw[List.all_cons,ac]at f;obtain⟨ar,⟨k,af,ao,ag,ah,X,au⟩⟩:=x;rw[Xv]at h;simp only[zj.k,zj.on]at f;by_cases O:k=2
   case neg =>simp only[O,decide_false,Bool.false_and,Bool.not_false,Bool.true_or,Bool.true_and]at f;refine xk z g h O ?_;exact zJ (v () _ f) xf
   have U:=eq_true O;by_cases ho:X=[]
   ·have aa:=eq_true ho;simp only[aa,decide_true,Bool.not_true,Bool.and_false,Bool.not_false,Bool.true_or,Bool.true_and]at f;refine xp z g h U aa ?_;exact zJ (v () _ f) xf
   simp only[U,ho,decide_true,decide_false,Bool.not_false,Bool.and_true,Bool.not_true,Bool.false_or]at f;refine xU z g h U ho (L X) ?_;cases y:C X with
   | false =>rw[y,Bool.false_and]at f;refine xa ?_;exact K rfl (x9 j f)
   | true =>rw[y,Bool.true_and]at f;refine xa ?_;exact zJ (v () _ f) xf
 ·rintro J x A _ H G M g _ f v;have h:=Ym M;rw[List.all_cons]at f;obtain⟨aj,Y,ai,ak⟩:=x;rw[Ys]at h;simp only at f;refine xm W g h (L Y) ?_;cases y:C Y with
  | false =>rw[y,Bool.false_and]at f;refine xa ?_;exact K rfl (x9 j f)
  | true =>rw[y,Bool.true_and]at f;refine xa ?_;exact zJ (v () _ f) xf
def p6R(d:zv)(t:Zr):Bool:=!decide (t.2.k=1)||(yb d t.2.nm).isSome
def RU(s:zg)(d:zv):Bool:=(Zf s d).all (p6R d)
def zmB(s:zg)(d:zv)(ab:zA s<=ze)(Y:zt d<=274877906944):zf 56 [.agg (zk s),.agg (z8 d)] (.bool (RU s d)):=by
 have K:=Oe s d ab Y;have ak:=VG s d;have an:=yP d.frags;have al:Ub d.ops+XZ d.frags=zt d:=rfl;have G:=λn=>SD d n xi;have C:RU s d=(Zf s d).all (p6R d):=rfl;have W:∀t,p6R d t=(!decide (t.2.k=1)||(yb d t.2.nm).isSome):=λ_=>rfl;have Z:=Yl d;generalize RU s d=F,p6R d=P,yb d=A,Zf s d=p at *
 have h:=yS p;obtain⟨ap,aq,sm⟩:=s;simp only[zk,Z]at G K ⊢;refine zo ir56 λKP Q J=>?_;refine xh K ?_;refine xc h ?_;refine zc p 6 ZY (λU M _ H=>M.all P=p.all P) () xb rfl ?_ ?_
 ·rintro _ H O f g;refine xd h g ?_;exact J rfl (x9 C f)
 ·rintro U x M _ H O aa g _ f I;have j:=WE aa;have v:=G x.2.nm;rw[List.all_cons,W]at f;obtain⟨ar,⟨k,ac,L,ad,af,ao,au⟩⟩:=x;rw[Xv]at j;simp only[zj.k,zj.nm]at f v;generalize (A L).isSome=ok,(A L).getD Vt=X at *
  obtain⟨ah,ai,ag,aj⟩:=X;rw[Ys]at v;refine xm h g j v ?_;refine xa (zb λae am=>?_);by_cases y:k=1
  case neg =>simp only[y,decide_false]at f;refine xk h g j y ?_;exact zJ (I () _ (xy f)) xf
  have z:=eq_true y;simp only[z,decide_true]at f;cases ok with
  | false =>refine xk h g j z ?_;exact J rfl (x9 C f)
  | true =>refine xk h g j z ?_;exact zJ (I () _ (xy f)) xf
def LC(s:zg)(d:zv)(n:Int)(t:Zr):Bool :=
 if n=9 then !decide (t.2.k=0)||(zG s t.1 t.2.nm).isSome
 else if n=10 then !decide (t.2.k=0)||(!(Z0 s ((zG s t.1 t.2.nm).getD zF).t.nm&&decide (0<t.2.sels.length))&&(!y9 s ((zG s t.1 t.2.nm).getD zF).t.nm||decide (0<t.2.sels.length)))
 else if t.2.k=2 then decide (t.2.on=[])||OL s t.1 t.2.on
 else if t.2.k=1 then OL s t.1 ((yb d t.2.nm).getD Vt).on else true
def zr3(s:zg)(d:zv)(n:Int)(t:Zr)(ap:zA s+1<=ze)(am:d.frags.length<=ze)(aq:t.2.sels.length<=ze):zf 60 [.agg (zk s),.agg (z8 d),.agg (NL t),.i n] (.bool (LC s d n t)):=by
 have O:=OI s t.1 t.2.nm xg;have aa:=λx=>zb9 s x (zR xg);have I:=λx=>LZ s x (zR xg);have U:=λa b=>zsY s a b ap;have W:=SD d t.2.nm am;have f:LC s d n t=if n=9 then !decide (t.2.k=0)||(zG s t.1 t.2.nm).isSome
  else if n=10 then !decide (t.2.k=0)||(!(Z0 s ((zG s t.1 t.2.nm).getD zF).t.nm&&decide (0<t.2.sels.length))&&(!y9 s ((zG s t.1 t.2.nm).getD zF).t.nm||decide (0<t.2.sels.length)))
  else if t.2.k=2 then decide (t.2.on=[])||OL s t.1 t.2.on
  else if t.2.k=1 then OL s t.1 ((yb d t.2.nm).getD Vt).on else true:=rfl
 have an:=Yl d;obtain⟨G,⟨k,ag,C,ah,ai,Z,A⟩⟩:=t;simp only[zj.k,zj.nm,zj.on,zj.sels]at f O W aq;generalize LC s d n (G,.mk k ag C ah ai Z A)=F,(zG s G C).isSome=ok,(zG s G C).getD zF=aj,Z0 s=ad,y9 s=M,OL s=a6,(yb d C).isSome=a1,(yb d C).getD Vt=ak at *
 obtain⟨ay,az,⟨p,av,aw⟩,ax⟩:=aj;obtain⟨a2,go,a0,a3⟩:=ak;have j:=Z7 A;obtain⟨a7,a8,sm⟩:=s;simp only[zk,an,YG,Ys,Xv]at O aa I U W f ⊢;have ab:((0:Int)<A.length)=(0<A.length):=propext ⟨λal=>by omega,λal=>by omega⟩;refine zo ir60 λKP Q g=>?_;refine xh O ?_;refine xa (zb λau a5=>?_);by_cases v:n=9
 ·have af:=eq_true v;rw[if_pos v]at f;by_cases z:k=0
  ·have J:=eq_true z;exact vp af J g f z
  ·exact vp af z g f z
 rw[if_neg v]at f;by_cases n10:n=10
 ·have ae:=eq_true n10;rw[if_pos n10]at f;by_cases z:k=0
  case neg =>refine xe v ae z ?_;exact xz g f z
  have J:=eq_true z;simp only[J,decide_true,Bool.not_true,Bool.false_or]at f;refine xm v ae J (aa p) ?_;by_cases K:0<A.length
  ·have h:((0:Int)<A.length)=True:=by rw[ab];exact eq_true K
   simp only[eq_true K,decide_true]at f;cases c1:ad p with
   | true =>rw[c1]at f;refine xd j h ?_;exact xj g f
   | false =>
    rw[c1]at f;refine xn j h (I p) ?_;cases y:M p with
    | true =>exact vp j h g f y
    | false =>exact vp j h g f y
  ·have h:((0:Int)<A.length)=False:=by rw[ab];exact eq_false K
   simp only[eq_false K,decide_false]at f;cases c1:ad p with
   | true =>
    rw[c1]at f;refine xn j h (I p) ?_;cases y:M p with
    | true =>exact vp j h g f y
    | false =>exact vp j h g f y
   | false =>
    rw[c1]at f;refine xn j h (I p) ?_;cases y:M p with
    | true =>exact vp j h g f y
    | false =>exact vp j h g f y
 rw[if_neg n10]at f;by_cases L:k=2
 ·have Y:=eq_true L;simp only[Y,if_true]at f;by_cases ho:Z=[]
  ·have ao:=eq_true ho;refine xk v n10 Y ao ?_;exact xz g f ho
  ·refine xE v n10 Y ho (U G Z) ?_;refine xa ?_;exact xz g f ho
 simp only[L,if_false]at f;by_cases X:k=1
 ·have ac:=eq_true X;simp only[ac,if_true]at f;refine xE v n10 L ac W ?_;refine xa (zb λar a4=>?_);refine xh (U G go) ?_;exact vn g f
 simp only[X,if_false]at f;refine xk v n10 L X ?_;exact xj g f
def O8(n:B8):zf 142 [.str n] (.tup [.agg (cW ((XI n).getD zW)),.bool (XI n).isSome]):=by
 refine zo ir142 λKP Q A=>?_;have fin:∀o,XI n=o->∀ρ H h,zx ρ H ir142.1.res=some h->(Yz h).strip=.tup [.agg (cW (o.getD zW)),.bool o.isSome]->Q .ret ρ H:=λo e ρ H h f g=>A f (by rw[g,e]);by_cases f:n=[115,107,105,112]
 ·have e:XI n=some ⟨[105,102],⟨[66,111,111,108,101,97,110],0,1⟩,false,zV⟩:=if_pos (.inl f);have y:=eq_true f;refine xa (zb λj p=>?_);refine xc y ?_;exact fin _ e _ _ [.agg [.str [105,102],.str [66,111,111,108,101,97,110],.i 0,.i 1,.bool false,.i 0,.i 0,.str [],.sl .nil 5 [],.sl .nil 6 []],.bool true] xb rfl
 by_cases g:n=[105,110,99,108,117,100,101]
 ·have e:XI n=some ⟨[105,102],⟨[66,111,111,108,101,97,110],0,1⟩,false,zV⟩:=if_pos (.inr g);have z:=eq_true g;refine xa (zb λj p=>?_);refine xd f z ?_;exact fin _ e _ _ [.agg [.str [105,102],.str [66,111,111,108,101,97,110],.i 0,.i 1,.bool false,.i 0,.i 0,.str [],.sl .nil 5 [],.sl .nil 6 []],.bool true] xb rfl
 have e:XI n=none:=if_neg (λv=>v.elim f g);refine xa (zb λj p=>?_);refine xd f g ?_;exact fin _ e _ _ [.agg [.str [],.str [],.i 0,.i 0,.bool false,.i 0,.i 0,.str [],.sl .nil 5 [],.sl .nil 6 []],.bool false] xb rfl
def Y7(s:zg)(d:zv):List (List yv):=Ui d++(Zf s d).map λt=>XE t.2
def Ld(l:List (List yv))(x:List yv):Mq l++[[.o 2 (ZE x)]]=Mq (l++[x]):=by simp[Mq]
def zf6(s:zg)(d:zv)(au:zA s<=ze)(ao:zt d<=274877906944):zf 141 [.agg (zk s),.agg (z8 d)] (.o 1 (Mq (Y7 s d))):=by
 have ae:=Oe s d au ao;have a2:=VG s d;have a5:Ub d.ops+XZ d.frags=zt d:=rfl;have a7:=yP d.frags;have a8:=ZJ d.ops;have W:=ZI d.ops;have X:=Z5 d.frags;have J:Y7 s d=(d.ops.map (·.dirs)++d.frags.map (·.dirs))++(Zf s d).map λt=>XE t.2:=rfl;have aq:=Yl d;generalize Y7 s d=F,Zf s d=ad at *
 have Y:=yS ad;obtain⟨bc,bd,sm⟩:=s;simp only[zk,aq]at ae ⊢;have snoc:∀(α:Type) (A:α->List yv) (a:List α) (aa:List (List yv)) (x:α),(aa++a.map A)++[A x]=aa++(a++[x]).map A:=λα A a aa x=>by simp
 refine zo ir141 λKP Q an=>?_;refine xc W ?_;refine zc d.ops 6 (λx:Own×List (List yv)=>[(5,.sl x.1 1 (Mq x.2))]) (λf I x H'=>x.2=f.map (·.dirs)/\zM H' x.1 x.2.length 1) (.nil,[]) (by simp(disch:=first|omega|assumption) only[Mq,List.map,go_sem]) ⟨rfl,rfl⟩ ?_ ?_
 ·rintro⟨o1,a⟩ H af ⟨p,y⟩ O;simp only at p;have a3:a.length=d.ops.length:=xv p
  rw[<-p]at J;replace y:zM H o1 a.length 1:=y;refine xe W O X ?_;refine zc d.frags 7 (λx:Own×List (List yv)=>[(5,.sl x.1 1 (Mq x.2))]) (λf I x H'=>x.2=a++f.map (·.dirs)/\zM H' x.1 x.2.length 1) (o1,a) xb ⟨by simp,y⟩ ?_ ?_
  ·rintro⟨o2,b⟩ M ag ⟨v,z⟩ K;simp only at v;have ap:b.length=a.length+d.frags.length:=xv v
   rw[<-v]at J;replace z:zM M o2 b.length 1:=z;refine xn X K ae ?_;refine xc Y ?_;refine zc ad 9 (λx:Own×List (List yv)=>[(5,.sl x.1 1 (Mq x.2))]) (λf I x H'=>x.2=b++f.map (λt=>XE t.2)/\zM H' x.1 x.2.length 1) (o2,b) xb ⟨by simp,z⟩ ?_ ?_
   ·rintro⟨Z,c⟩ ab ah ⟨C,L⟩ U;simp only at C;rw[<-C]at J;refine xd Y U ?_;exact @an _ _ [.sl Z 1 (Mq c)] xb (wa J)
   ·rintro f x I ⟨Z,c⟩ ab ah G U ar ⟨C,L⟩ am;have h:=WE G;simp only at C;have a6:c.length=b.length+f.length:=xv C
    replace L:zM ab Z c.length 1:=L;have g:=snoc _ (λt:Zr=>XE t.2) f b x;rw[<-C]at g;obtain⟨be,⟨k,ax,a9,ay,ai,aw,bf⟩⟩:=x;rw[Xv]at h;simp only[XE]at g;refine xe Y U h (zp (by rw[Xq];exact L) ?_ ?_ λo' ac j=>?_)
    ·simp only[Xq,yg,yy];omega
    ·simp only[Xq,yg,yy,maxLen];omega
    simp only[Xq,yg,yy]at j;simp(disch:=first|omega|assumption) only[wrap64,Ld,go_sem];exact zJ (am (o',c++[ai]) _ ⟨g,by simpa using j.own⟩) xb
  ·rintro f x I ⟨o2,b⟩ M ag G K ar ⟨v,z⟩ al;have h:=Ym G;simp only at v;have ap:b.length=a.length+f.length:=xv v
   replace z:zM M o2 b.length 1:=z;have g:=snoc _ (λA:yE=>A.dirs) f a x;rw[<-v]at g;obtain⟨az,a0,aj,a1⟩:=x;rw[Ys]at h;simp only at g;refine xe X K h (zp (by rw[Xq];exact z) ?_ ?_ λo' ac j=>?_)
   ·simp only[Xq,yg,yy];omega
   ·simp only[Xq,yg,yy,maxLen];omega
   simp only[Xq,yg,yy]at j;simp(disch:=first|omega|assumption) only[wrap64,Ld,go_sem];exact zJ (al (o',b++[aj]) _ ⟨g,by simpa using j.own⟩) xb
 ·rintro f x I ⟨o1,a⟩ H af G O K ⟨p,y⟩ ak;have h:=Z6 G;simp only at p;have a4:a.length=f.length:=xv p
  replace y:zM H o1 a.length 1:=y;have g:=snoc _ (λo:Y6=>o.dirs) f [] x;rw[TB,TB,<-p]at g;obtain⟨ok,aw,ba,av,os⟩:=x;rw[Xn]at h;simp only at g;refine xe W O h (zp (by rw[Xq];exact y) ?_ ?_ λo' ac j=>?_)
  ·simp only[Xq,yg,yy];omega
  ·simp only[Xq,yg,yy,maxLen];omega
  simp only[Xq,yg,yy]at j;simp(disch:=first|omega|assumption) only[wrap64,Ld,go_sem];exact zJ (ak (o',a++[av]) _ ⟨g,by simpa using j.own⟩) xb
def VH(m n:Int)(i:Nat)(l:List yv):Bool :=if n=12 then !YE l else if n=13 then decide ((i:Int)<m)&&decide (0<l.length)else if n=14 then !Z1 (l.map (·.nm))else false
def YA(m n:Int):Nat->List (List yv)->Bool
 | _,[]=>false
 | i,l::r=>VH m n i l||YA m n (i+1) r
def X1(s:zg)(d:zv)(n:Int):Bool:=!YA ((d.ops.length:Int)+d.frags.length) n 0 (Y7 s d)
def zgH(s:zg)(d:zv)(n:Int)(a2:zA s<=ze)(az:zt d<=274877906944):zf 61 [.agg (zk s),.agg (z8 d),.i n] (.bool (X1 s d n)):=by
 have af:=zf6 s d a2 az;have bf:Ub d.ops+XZ d.frags=zt d:=rfl;have bh:=yP d.frags;have bj:=ZJ d.ops;have W:=ZI d.ops;have X:=Z5 d.frags;have be:(Y7 s d).length<=2*zt d:=by have:=VG s d;simp only[Y7,Ui,ZX,List.length_map];omega
 have aw:∀l∈Y7 s d,l.length<=zt d:=λl aj=>by
  simp only[Y7,Ui,List.mem_append,List.mem_map]at aj;rcases aj with (⟨o,ho,rfl⟩|⟨au,hf,rfl⟩)|⟨t,a3,rfl⟩
  ·have f:=U1 ho;have v:=Y3 o.dirs;simp only[bO]at f;omega
  ·have f:=WB hf;have v:=Y3 au.dirs;simp only[bF]at f;omega
  ·have f:=R1 s d t a3;obtain⟨b4,⟨k,a9,bn,ba,aq,bp,b5⟩⟩:=t;have v:=Y3 aq;simp only[bS,XE]at f ⊢;omega
 have ae:X1 s d n=!YA ((d.ops.length:Int)+d.frags.length) n 0 (Y7 s d):=rfl;have a0:=Yl d;generalize X1 s d n=F,Y7 s d=L at *
 have h:=Xq L;obtain⟨b2,b3,sm⟩:=s;simp only[zk,a0]at af ⊢;have O:IntKind.i64.wrap ((d.ops.length:Int)+d.frags.length)=(d.ops.length:Int)+d.frags.length:=wrap64 xg xg;generalize U:(d.ops.length:Int)+d.frags.length=m at *
 refine zo ir61 λKP Q M=>?_;refine xh af ?_;refine xc h ?_;refine zc L 8 ZY (λp ac _ H=>YA m n p.length ac=YA m n 0 L) () xb rfl ?_ ?_
 ·rintro _ H ao K g;refine xd h g ?_;exact M rfl (by simp[ae,<-K,YA])
 ·rintro p x ac _ H ao ah g _ K C;have j:=zfA ah;have bl:=aw x (xv ah);have y:=YB x;simp only[YA]at K;have bad:VH m n p.length x=true->F=false:=λZ=>by rw[ae,<-K,Z];rfl
  have good:VH m n p.length x=false->YA m n (p++[x]).length ac=YA m n 0 L:=λZ=>by rw[<-K,Z];simp
  by_cases n12:n=12
  ·have ak:=eq_true n12;have n13:¬ n=13:=xg
   have n14:¬ n=14:=xg
   have z:VH m n p.length x=!YE x:=by simp[VH,n12]
   refine xe h g j ?_;refine zc x 9 ZY (λar am _ H=>(am.all λd=>(XI d.nm).isSome)=YE x) () xb rfl ?_ ?_
   ·rintro _ an ap G ab;simp only[List.all_nil]at G;have:=good (wK z G);refine x4 h g j y ab ak n13 n14 ?_;exact zJ (C () _ this) xf
   ·rintro ar a6 am _ an ap a1 ab _ G av;have ai:=Y0 a1;rw[List.all_cons]at G;obtain⟨ad,b6⟩:=a6;rw[T2]at ai;have ag:=O8 ad;simp only at G;generalize (XI ad).isSome=ok,(XI ad).getD zW=a5 at *
    obtain⟨bx,⟨bq,br,bu⟩,bv,⟨pk,bz,b1,pl,bw⟩⟩:=a5;rw[zX]at ag;refine xG h g j y ab ak ai ?_;refine za ag ?_;refine xa (zb λbc bg=>?_);cases ok with
    | false =>have J:=bad (wK z G);exact vn M J
    | true =>refine xa ?_;exact zJ (av () _ (xy G)) xf
  refine xe h g j ?_;refine ZZ (λ_:Unit=>[(9,.i 0)]) (λ_ H'=>True) (λ_=>0) () xb trivial ?_;rintro⟨⟩ a7 a8 _ bd;by_cases n13:n=13
  ·have Y:=eq_true n13;have n14:¬ n=14:=xg
   have z:VH m n p.length x=(decide ((p.length:Int)<m)&&decide (0<x.length)):=by simp[VH,n13]
   by_cases f:(0:Int)<x.length
   ·have I:=eq_true f;by_cases v:(p.length:Int)<m
    ·have J:=bad (by rw[z,decide_eq_true v,decide_eq_true xg];rfl);have aa:=eq_true v;simp(disch:=first|omega|assumption) only[h,g,j,y,I,n12,Y,n14,W,X,U,O,aa,go_sem];exact xj M J
    ·have A:=good (by rw[z,decide_eq_false v];rfl);simp(disch:=first|omega|assumption) only[h,g,j,y,I,n12,Y,n14,W,X,U,O,v,go_sem];exact zJ (C () _ A) xf
   ·have A:=good (by rw[z,decide_eq_false (show ¬ 0<x.length by omega),Bool.and_false]);by_cases v:(p.length:Int)<m
    ·have aa:=eq_true v;simp(disch:=first|omega|assumption) only[h,g,j,y,f,n12,Y,n14,W,X,U,O,aa,go_sem];exact zJ (C () _ A) xf
    ·simp(disch:=first|omega|assumption) only[h,g,j,y,f,n12,Y,n14,W,X,U,O,v,go_sem];exact zJ (C () _ A) xf
  by_cases n14:n=14
  case neg =>
   have A:=good (by simp[VH,n12,n13,n14]);by_cases f:(0:Int)<x.length
   ·have I:=eq_true f;refine x4 h g j y I n12 n13 n14 ?_;exact zJ (C () _ A) xf
   ·refine x4 h g j y f n12 n13 n14 ?_;exact zJ (C () _ A) xf
  have al:=eq_true n14;have z:VH m n p.length x=!Z1 (x.map (·.nm)):=by simp[VH,n14]
  have ax:=zgA x xi;have ay:=PD (x.map (·.nm)) w4;generalize Z1 (x.map (·.nm))=a4 at *
  by_cases f:(0:Int)<x.length
  case' pos =>have I:=eq_true f;simp(disch:=first|omega|assumption) only[h,g,j,y,I,n12,n13,al,go_sem]
  case' neg =>simp(disch:=first|omega|assumption) only[h,g,j,y,f,n12,n13,al,go_sem]
  all_goals
   refine za ax ?_;refine xh ay ?_;cases a4 with
   | false =>have J:=bad z;exact vn M J
   | true =>have A:=good z;refine xa ?_;exact zJ (C () _ A) xf
def zms(f:List z6)(l:List yU)(M:f.length<=ze)(L:l.length<=ze):zf 266 [.o 10 (Yg f),.o 6 (Ya l)] (.bool (Zu f l)):=by
 refine zo ir266 λKP Q z=>?_;have j:=yI l;have J:=λn=>QY f n M;simp only[ze]at L;refine xc j ?_;refine zc l 5 ZY (λG h _ H=>Zu f h=Zu f l) () xb rfl ?_ ?_
 ·rintro _ H C g p;refine xd j p ?_;exact @z _ _ [.bool true] rfl (xM g)
 ·rintro G x h _ H C K p _ g I;have A:=yZ K;have O:Zu f (x::h)=((zB f (mN x)).isSome&&Zu f h):=by simp[Zu]
  rw[O]at g;obtain⟨v,⟨ag,aj,ak,ah,ai⟩⟩:=x;simp only[mN]at g;have y:=J v;rw[zy,zC]at A;generalize (zB f v).isSome=ok,(zB f v).getD zW=U at *
  obtain⟨ad,⟨Y,Z,aa⟩,ab,⟨pk,ae,af,pl,ac⟩⟩:=U;rw[zX]at y;refine xm j p A y ?_;refine xa (zb λW X=>?_);cases ok with
  | false =>refine xa ?_;exact @z _ _ [.bool false] rfl (xM g)
  | true =>refine xa ?_;exact zJ (I () _ (xy g)) xf
def zoE(l:List yU)(af:l.length<=ze):zf 267 [.o 6 (Ya l)] (.bool (Ye [] l)):=by
 have j:=yI l;simp only[ze]at af;refine zo ir267 λKP Q M=>?_;refine xc j ?_;refine zc l 3 ZY (λv J _ H=>Ye v J=Ye [] l) () xb rfl ?_ ?_
 ·rintro _ H Z f p;refine xd j p ?_;exact @M _ _ [.bool true] rfl (xM f)
 ·rintro v x J _ H Z O p _ f ac;have C:=yZ O;simp only[Ye]at f;obtain⟨h,⟨ag,aj,ak,ah,ai⟩⟩:=x;rw[zy,zC]at C;simp only[mN]at f;refine xd j p ?_;refine zc v 4 ZY (λA K _ H=>(Y2 h K).2=(Y2 h v).2) () xb rfl ?_ ?_
  ·rintro _ Y aa g y;simp only[Y2]at g;rw[<-g]at f;refine xc y ?_;exact zJ (ac () _ (xy f)) xf
  ·rintro A X K _ Y aa ae y _ g ad;have U:l=A++X::(K++.mk h (.mk ag aj ak ah ai)::J):=by rw[O,ae];simp
   have G:=yZ U;have W:(A.length:Int)<l.length:=by rw[U];simp;omega
   obtain⟨L,⟨al,ao,ap,am,an⟩⟩:=X;rw[zy,zC]at G;simp only[Y2]at g;by_cases z:L=h
   ·simp only[z,if_true]at g;rw[<-g]at f;have I:(h=L)=True:=eq_true z.symm;refine xG y j p W C G I ?_;exact @M _ _ [.bool false] rfl (xM f)
   ·simp only[z,if_false]at g;have I:¬ h=L:=λab=>z ab.symm;refine xG y j p W C G I ?_;exact zJ (ad () _ g) xf
def zo4(g:List z6)(m:List yU)(U:g.length<=ze)(W:∀ab∈g,ab.t.nm.length<=ze)(O:m.length<=ze):zf 268 [.o 10 (Yg g),.o 6 (Ya m)] (.bool (Wy g m)):=by
 have h:=yJ g;simp only[ze]at U;refine zo ir268 λKP Q A=>?_;refine xc h ?_;refine zc g 5 ZY (λJ v _ H=>Wy v m=Wy g m) () xb rfl ?_ ?_
 ·rintro _ H I f j;refine xd h j ?_;exact @A _ _ [.bool true] rfl (xM f)
 ·rintro J x v _ H I C j _ f y;have p:=y6 C;have G:=isR x.t (W x (xv C));have z:=zqh x.nm m O;have Y:Wy (x::v) m=(((Y2 x.nm m).2||!QZ x)&&Wy v m):=by simp[Wy]
  rw[Y]at f;have X:QZ x=(SK x.t&&!x.has):=rfl;rw[X]at f;obtain⟨aa,⟨ac,ad,ae⟩,M,⟨am,ap,aq,an,ao⟩⟩:=x;rw[zX]at p;simp only[YQ]at z f G;refine xm h j p z ?_;generalize Y2 aa m=K at *
  obtain⟨⟨ag,aj,ak,ah,ai⟩,L⟩:=K;refine x7 (zb λaf al=>?_);cases L with
  | true =>simp only[Bool.true_or,Bool.true_and]at f;refine xa ?_;exact zJ (y () _ f) xf
  | false =>
   simp only[Bool.false_or]at f;refine xm h j p G ?_;generalize SK ⟨ac,ad,ae⟩=Z at *
   cases Z with
   | false =>refine xa ?_;exact zJ (y () _ (xy f)) xf
   | true =>
    cases M with
    | false =>refine xe h j p ?_;exact @A _ _ [.bool false] rfl (xM f)
    | true =>refine xe h j p ?_;exact zJ (y () _ (xy f)) xf
def Qv(n:Int)(f:List z6)(m:List yU):Bool:=if n=15 then Zu f m else if n=16 then Ye [] m else Wy f m
def zoG(n:Int)(g:List z6)(m:List yU)(p:Wx g<=ze)(J:ZC m<=ze):zf 144 [.o 10 (Yg g),.o 6 (Ya m),.i n] (.bool (Qv n g m)):=by
 have G:=yr g;have I:=y5 m;have z:=zms g m xg xg;have A:=zoE m xg;have C:=zo4 g m xg (λK p=>by have:=YW p;simp only[bW]at this;omega) xg;unfold Qv;refine zo ir144 λKP Q f=>?_;by_cases h:n=15
 ·have v:=eq_true h;simp only[v,if_true]at f;refine xt v z ?_;exact vm f
 by_cases j:n=16
 ·have y:=eq_true j;simp only[h,y,if_true,if_false]at f;refine xn h y A ?_;exact vm f
 simp only[h,j,if_false]at f;refine xn h j C ?_;exact vm f
def zaO(s:zg)(t:Zr)(y:zA s<=ze):zf 145 [.agg (zk s),.agg (NL t)] (.o 10 (Yg ((zG s t.1 t.2.nm).getD zF).ps)):=by
 have f:=OI s t.1 t.2.nm y;obtain⟨h,⟨k,z,g,A,G,U,Y⟩⟩:=t;simp only[zj.nm]at f ⊢;generalize (zG s h g).isSome=ok,(zG s h g).getD zF=j at *
 obtain⟨M,p,⟨I,J,K⟩,L⟩:=j;obtain⟨W,X,sm⟩:=s;simp only[zk,YG,Xv]at f ⊢;refine zo ir145 λKP Q v=>?_;refine xh f ?_;refine xa (zb λC O=>?_);refine xa ?_;exact @v _ _ [.o 10 (Yg p)] rfl rfl
def QT(d:yv):zf 146 [.agg (cD d)] (.o 10 (Yg (yc d))):=by
 obtain⟨f,p⟩:=d;have h:=O8 f;have g:yc ⟨f,p⟩=match XI f with|none=>[]|some j=>[j]:=rfl
 generalize yc ⟨f,p⟩=F at *
 rw[T2];refine zo ir146 λKP Q v=>?_;refine xa ?_;cases y:XI f with
 | none =>rw[y]at h g;refine za h ?_;refine x2 (zb λz A=>?_);refine xa ?_;exact @v _ _ [.sl .nil 10 []] rfl (wa g)
 | some j =>rw[y]at h g;obtain⟨M,⟨C,G,I⟩,J,⟨wk,O,U,K,L⟩⟩:=j;refine za h ?_;refine x6 (zb λz A=>?_);refine xa ?_;exact @v _ _ [.sl .full 10 [cW ⟨M,⟨C,G,I⟩,J,.mk wk O U K L⟩]] rfl (wa g)
def Tv(d:yv):Wx (yc d)<=64:=by
 unfold yc;cases f:XI d.nm with
 | none=>simp[Wx]
 | some g =>
  unfold XI at f;split at f
  ·cases f;simp only[Wx,bW,List.map_cons,List.map_nil,List.sum_cons,List.sum_nil];decide
  ·cases f
def U6(s:zg)(p:List z6->List yU->Bool)(t:Zr):Xj s p t.1 t.2=((!decide (t.2.k=0)||p ((zG s t.1 t.2.nm).getD zF).ps (Zj t.2))&&(XE t.2).all λd=>p (yc d) d.args):=by obtain⟨y,⟨k,f,j,g,h,v,z⟩⟩:=t;simp only[Xj,Zj,XE,zj.k,zj.nm]<;>rfl
def zgK(s:zg)(d:zv)(n:Int)(af:zA s<=ze)(a9:zt d<=274877906944):zf 62 [.agg (zk s),.agg (z8 d),.i n] (.bool ((Zf s d).all λt=>Xj s (Qv n) t.1 t.2)):=by
 have ao:=Oe s d af a9;have bl:=VG s d;have a8:=R1 s d;have an:=λt=>zaO s t af;have a7:=λJ I=>VC s J I;have a0:=U6 s (Qv n);have aj:=λbf m G L=>zoG n bf m G L;generalize am:((Zf s d).all λt=>Xj s (Qv n) t.1 t.2)=F;generalize Xj s (Qv n)=z at *
 generalize Qv n=y,zG s=a1,Zf s d=U at *
 have ba:=Yl d;have bq:zA s<=1099511627776:=by simpa only[ze]using af
 have g:=yS U;obtain⟨bv,bw,sm⟩:=s;simp only[zk,ba]at ao an ⊢;refine zo ir62 λKP Q ad=>?_;refine xh ao ?_;refine xc g ?_;refine zc U 8 ZY (λah O _ H=>(O.all λt=>z t.1 t.2)=U.all λt=>z t.1 t.2) () xb rfl ?_ ?_
 ·rintro _ H ay M f;refine xd g f ?_;exact ad rfl (by simp[<-am,<-M])
 ·rintro ah x O _ H ay aq f _ M a5;have j:=WE aq;have bd:=a8 x (xv aq);have Y:=an x;have aa:=a0 x;rw[List.all_cons]at M;have bad:z x.1 x.2=false->F=false:=λh=>by rw[<-am,<-M,h];rfl
  have good:z x.1 x.2=true->(O.all λt=>z t.1 t.2)=U.all λt=>z t.1 t.2:=λh=>by rw[<-M,h,Bool.true_and]
  obtain⟨J,⟨k,ag,I,A,p,au,av⟩⟩:=x;have bj:=a7 J I;have be:=Xv J k ag I A p au av;rw[be]at j Y;simp only[bS]at bd;simp only[zj.k,zj.nm,Zj,XE]at aa Y bad good;have ld:=YB p;have bn:=Y3 p;generalize bp:z J (.mk k ag I A p au av)=a2,((a1 J I).getD zF).ps=W at *
  have X:=aj W A xi xi;have bc:(k=0/\y W A=false)∨(k=0/\y W A=true)∨¬ k=0:=by
   by_cases h:k=0
   ·cases L:y W A
    ·exact .inl ⟨h,rfl⟩
    ·exact .inr (.inl ⟨h,rfl⟩)
   ·exact .inr (.inr h)
  rcases bc with ⟨C,G⟩|L
  ·have ab:=eq_true C;have ac:=bad (by rw[aa,G,C];rfl);rw[G]at X;refine xE g f j ab Y ?_;refine xm g f j X ?_;exact vn ad ac
  have ai:a2=p.all λd=>y (yc d) d.args:=by
   rw[aa];rcases L with ⟨h,a3⟩|h
   ·rw[a3];simp
   ·simp[h]
  rcases L with ⟨C,G⟩|C
  case' inl =>have ab:=eq_true C;rw[G]at X;refine xE g f j ab Y ?_;refine xm g f j X ?_;simp(disch:=first|omega|assumption) only[g,f,j,ld,go_sem]
  case' inr =>simp(disch:=first|omega|assumption) only[g,f,j,C,ld,go_sem]
  all_goals
   refine zc p 9 ZY (λah O _ H=>(O.all λd=>y (yc d) d.args)=p.all λd=>y (yc d) d.args) () xb rfl ?_ ?_
   ·rintro _ ax az v Z;have a4:=good (wK ai v);refine xp g f j ld Z ?_;exact zJ (a5 () _ a4) xf
   ·rintro bh K bu _ ax az ar Z _ v a6;have ae:=Y0 ar;have al:=QT K;have br:=@za6 K p (xv ar);have ak:=aj (yc K) K.args (by have:=Tv K;refine xl ?_;omega) xi;rw[List.all_cons]at v;obtain⟨bg,aw⟩:=K;rw[T2]at ae al;simp only at ak v;refine xH g f j ld Z ae al ?_;refine xH g f j ld Z ae ak ?_;cases ap:y (yc ⟨bg,aw⟩) aw with
    | false =>rw[ap,Bool.false_and]at v;have ac:=bad (by rw[ai,<-v]);exact vn ad ac
    | true =>rw[ap,Bool.true_and]at v;refine xa ?_;exact zJ (a6 () _ v) xf
def uM(l:B9)(m:yU):B9:=(yN (vM m) []).foldl Yp l
def uD(l:B9)(d:yv):B9:=d.args.foldl uM l
mutual
def uS:zj->B9->B9| .mk k al nm args dirs on sels,l=>uSs sels (dirs.foldl uD (args.foldl uM l))
def uSs:List zj->B9->B9
 | [],l=>l
 | x::r,l=>uSs r (uS x l)
end
def zcc:∀(f l:B9),(f.foldl Yp l).length<=l.length+f.length
 | [],l=>by simp
 | n::f,l=>by have:=zcc f (Yp l n);have:=KV l n;simp only[List.foldl_cons,yg];omega
def zis(l:B9)(m:yU):(uM l m).length<=l.length+bM m:=by obtain⟨n,f⟩:=m;have h:=zcc (yN f []) l;have g:=VY f [];simp only[yy]at g;simp only[uM,vM,bM];omega
def My:∀(ms:List yU) (l:B9),(ms.foldl uM l).length<=l.length+ZC ms
 | [],l=>by simp[ZC]
 | m::ms,l=>by have:=My ms (uM l m);have:=zis l m;simp only[List.foldl_cons,ZC];omega
def zjt(ds:List yv):∀l:B9,(ds.foldl uD l).length<=l.length+We ds:=by
 induction ds with
 | nil=>intro l;simp[We]
 | cons d r h =>
  intro l;have f:=h (uD l d);have g:=My d.args l;have e:We (d::r)=bD d+We r:=vh
  have j:bD d=1+d.nm.length+ZC d.args:=rfl;rw[List.foldl_cons,e];simp only[uD]at f g ⊢;omega
mutual
def zja:∀(x:zj) (l:B9),(uS x l).length<=l.length+bS x| .mk k al nm args dirs on sels,l=>by have f:=P3 sels (dirs.foldl uD (args.foldl uM l));have g:=zjt dirs (args.foldl uM l);have h:=My args l;simp only[uS,bS];omega
def P3:∀(r:List zj) (l:B9),(uSs r l).length<=l.length+yR r
 | [],l=>by simp[uSs]
 | x::r,l=>by have f:=zja x l;have g:=P3 r (uS x l);simp only[uSs,yR];omega
end
def Mb:∀(xs l:B9) (x:B8),x∈xs.foldl QJ l↔x∈l∨x∈xs
 | [],l,x=>by simp
 | y::xs,l,x=>by rw[List.foldl_cons,Mb xs,MP,List.mem_cons];exact or_assoc
abbrev UZ(l m:B9):Prop:=∀x,x∈l↔x∈m
def zad:∀(ms:List yU) {l m:B9},UZ l m->UZ (ms.foldl uM l) (ms.foldl Mc m)
 | [],_,_,h=>h
 | y::ms,_,_,h=>zad ms λx=>by rw[uM,Mc,VS,Mb,h x]
def zfD:∀(ds:List yv) {l m:B9},UZ l m->UZ (ds.foldl uD l) (ds.foldl ofD m)
 | [],_,_,h=>h
 | d::ds,_,_,h=>zfD ds (zad d.args h)
mutual
def zlX:∀(x:zj) {l m:B9},UZ l m->UZ (uS x l) (wrS x m)| .mk k al nm args dirs on sels,_,_,h=>by simp only[uS,wrS];exact PW sels (zfD dirs (zad args h))
def PW:∀(r:List zj) {l m:B9},UZ l m->UZ (uSs r l) (Wm r m)
 | [],_,_,h=>by simpa[uSs,Wm]using h
 | x::r,_,_,h=>by simp only[uSs,Wm];exact PW r (zlX x h)
end
def znV(m:List yU)(l:B9)(o:Own)(H:zd)(am:l.length+ZC m<=ze)(ho:zM H o l.length 1):YR Tryz.prog 330 [.o 6 (Ya m),.sl o 1 (cT l)] H o 1 (cT (m.foldl uM l)):=by
 have O:=yI m;have aw:=y5 m;have av:l.length+ZC m<=1099511627776:=by simpa only[ze]using am
 refine Xt ir330 λKP Q al au=>?_;refine xc O ?_;refine zc m 5 (λx:Own×B9=>[(1,.sl x.1 1 (cT x.2))]) (λY p x H'=>p.foldl uM x.2=m.foldl uM l/\x.2.length+ZC p<=l.length+ZC m/\zQ H o H' x.1 x.2.length 1) (o,l) xb ⟨rfl,ZG _,zQ.refl ho⟩ ?_ ?_
 ·rintro⟨o1,a⟩ H' ah ⟨h,_,v⟩ X;simp only[List.foldl]at h;refine xd O X ?_;refine al _ _ H' H' [.sl o1 1 (cT a)] nofun xb (yT.refl _) ⟨o1,by rw[<-h];rfl,by rw[<-h,zn];exact v⟩
 ·rintro Y x p ⟨o1,a⟩ H' ah an X _ ⟨h,W,v⟩ ak;have ab:=yZ an;replace v:zQ H o H' o1 a.length 1:=v;simp only[List.foldl_cons]at h;simp only[ZC]at W;have af:=zis a x;obtain⟨n,⟨y,C,G,z,A⟩⟩:=x;have aj:uM a (.mk n (.mk y C G z A))=(yN (.mk y C G z A) []).foldl Yp a:=rfl;have aa:=zhy (.mk y C G z A) (by simp only[bM]at W;refine xl ?_;omega);have aq:=VY (.mk y C G z A) [];simp only[yy,Nat.zero_add]at aq;rw[zy,zC]at ab;rw[zC]at aa;rw[aj]at h af;simp only[bM]at W af;generalize yN (.mk y C G z A) []=M at *
  have lv:=zn M;refine xm O X ab aa ?_;refine xc lv ?_;refine zc M 7 (λf:Own×B9=>[(1,.sl f.1 1 (cT f.2))]) (λY p f H'=>p.foldl Yp f.2=M.foldl Yp a/\f.2.length+p.length<=a.length+M.length/\zQ H o H' f.1 f.2.length 1) (o1,a) xb ⟨rfl,ZG _,v⟩ ?_ ?_
  ·rintro⟨L,c⟩ I ai ⟨g,U,j⟩ K;simp only[List.foldl]at g;rw[<-g]at h;simp only[yy]at U;refine xd lv K ?_;exact zJ (ak (L,c) I ⟨h,by simp only;omega,j⟩) xf
  ·rintro ar f ax ⟨L,c⟩ I ai ao K _ ⟨g,U,j⟩ Z;have ac:=ZM ao;replace j:zQ H o I L c.length 1:=j;simp only[List.foldl]at g;simp only[yg]at U;have J:Yp c f=if zH f c=true then c else c++[f]:=rfl
   refine xm lv K ac (Zk.low (TG c f xi)) ?_;cases ad:zH f c with
   | true =>rw[if_pos ad]at J;rw[J]at g;refine xa ?_;exact zJ (Z (L,c) I ⟨g,by simp only;omega,j⟩) xf
   | false =>
    rw[if_neg (xr ad)]at J;rw[J]at g;refine xe lv K ac (zp (by rw[zn];exact j.own) ?_ ?_ λo' ag ap=>?_)
    ·simp only[zn,yg,yy];omega
    ·refine wE ?_;omega
    have ae:=j.trans ap;simp only[zn,yg,yy]at ae;refine x3 ?_;exact zJ (Z (o',c++[f]) ag ⟨g,by refine wm ?_;omega,by simpa using ae⟩) xb
def zlZ(f:List zj):Prop:=∀(l:B9) (o:Own) (H:zd),l.length+yR f<=ze->zM H o l.length 1->YR Tryz.prog 269 [.o 7 (Zp f),.sl o 1 (cT l)] H o 1 (cT (uSs f l))
def zeN(j:List zj)(a0:∀k W Z p g ab y,zj.mk k W Z p g ab y∈j->zlZ y):zlZ j:=by
 intro l o H au ho;have a5:l.length+yR j<=1099511627776:=by simpa only[ze]using au
 have A:=Z7 j;have a7:=YL j;refine Xt ir269 λKP Q ar a4=>?_;refine xc A ?_;refine zc j 5 (λx:Own×B9=>[(1,.sl x.1 1 (cT x.2))]) (λad J x H'=>uSs J x.2=uSs j l/\x.2.length+yR J<=l.length+yR j/\zQ H o H' x.1 x.2.length 1) (o,l) xb ⟨rfl,ZG _,zQ.refl ho⟩ ?_ ?_
 ·rintro⟨o1,a⟩ H' ak ⟨v,_,I⟩ G;simp only[uSs]at v;refine xd A G ?_;refine ar _ _ H' H' [.sl o1 1 (cT a)] nofun xb (yT.refl _) ⟨o1,by rw[<-v];rfl,by rw[<-v,zn];exact I⟩
 ·rintro ad x J ⟨o1,a⟩ H' ak ae G _ ⟨v,ag,I⟩ ap;have L:=YY ae;have aw:x∈j:=xv ae
  simp only[uSs]at v;simp only[yR]at ag;have ai:=zja x a;replace I:zQ H o H' o1 a.length 1:=I;obtain⟨k,W,Z,p,g,ab,y⟩:=x;have az:=a0 _ _ _ _ _ _ _ aw;have an:uS (.mk k W Z p g ab y) a=uSs y (g.foldl uD (p.foldl uM a)):=by simp only[uS]
  have a8:=My p a;have ay:=zjt g (p.foldl uM a);rw[an]at v ai;simp only[bS]at ag;rw[Zt]at L;have ld:=YB g;have a6:=Y3 g;refine xe A G L (zu (znV p a o1 H' xi I.own) λo2 a1 ah=>?_);rw[zn]at ah;have ax:=I.trans ah;generalize p.foldl uM a=b at *
  refine xk A G L ld ?_;refine zc g 6 (λf:Own×B9=>[(1,.sl f.1 1 (cT f.2))]) (λad J f H'=>J.foldl uD f.2=g.foldl uD b/\f.2.length+We J<=b.length+We g/\zQ H o H' f.1 f.2.length 1) (o2,b) xb ⟨rfl,ZG _,ax⟩ ?_ ?_
  ·rintro⟨O,c⟩ K al ⟨C,X,h⟩ Y;simp only[List.foldl]at C;rw[<-C]at v ai ay;replace h:zQ H o K O c.length 1:=h;refine xp A G L ld Y (zu (az c O K xi h.own) λaa U M=>?_);rw[zn]at M;refine xq ?_;exact zJ (ap (aa,uSs y c) U ⟨v,by have:=P3 y c;simp only;omega,h.trans M⟩) xf
  ·rintro a2 f aj ⟨O,c⟩ K al av Y _ ⟨C,X,h⟩ aq;have af:=Y0 av;replace h:zQ H o K O c.length 1:=h;simp only[List.foldl]at C;have ao:We (f::aj)=bD f+We aj:=vh
   rw[ao]at X;obtain⟨ac,z⟩:=f;have a3:bD ⟨ac,z⟩=1+ac.length+ZC z:=rfl;have a9:=My z c;have am:uD c ⟨ac,z⟩=z.foldl uM c:=rfl;rw[am]at C;rw[T2]at af;simp only at X;refine xu A G L ld Y af (zu (znV z c O K xi h.own) λaa U M=>?_);rw[zn]at M;refine xq ?_;exact zJ (aq (aa,z.foldl uM c) U ⟨C,by simp only;omega,h.trans M⟩) xf
def zrE(y:List zj):zlZ y:=by
 have z:∀x:zj,∀k g p h j v f,x=.mk k g p h j v f->zlZ f:=zj.ind λk g p h j v y C=>by intro K G L I J M f e;cases e;exact zeN y λk g p h j v f A=>C _ A _ _ _ _ _ _ _ rfl
 exact zeN y λk g p h j v f _=>z _ k g p h j v f rfl
open Go.Ab.W in
def ir270000:=cf 270 48 1 [2] (Z (r 2 [z (n 1)]) [r 6 [m 0,o (.appm 1 16 [.e] (n 1) (t 6)),k 3 7],A (r 4 [z (J 1)]) [P 0 (U [3,4] (A (ru 8 [m 4,m 3,N,S 8 10] 11 0) [P 1 (A (r 14 [m 4,k 5 14]) [P 2 (U [3,4,5] (A (A (Y 14 15 [m 5,o (.bi .gtr .i64 (t 15) (J 0)),M,j 17 (m 3),j 17 (m 5),j 17 (i 1 18 19),j 17 (L 1),j 17 (m 3),j 17 (m 5),j 17 (o (.bi .sub .i64 (t 23) (J 1))),j 17 (i 1 22 24),j 17 (L 1),j 17 (o (.bs .lss (t 21) (t 26))),p 17]) [u 28 2]) [P 3 (Y 18 31 [m 3,m 5,m 3,m 5,o (.bi .sub .i64 (t 34) (J 1)),m 3,m 5,o (.bi .sub .i64 (t 37) (J 1)),i 1 36 38,L 1,m 3,m 5,i 1 41 42,L 1,i 1 31 32,s 1 45 40,i 1 33 35,s 1 46 44]),r 29 [m 5,o (.bi .sub .i64 (t 29) (J 1)),k 5 30]]))]),r 12 [m 4,D 1,k 4 13]]))],r 47 [m 3,k 2 47]])
def LY{xs:B9}{sp:List AV}{k:Nat}(h:k<xs.length):((xs.map AV.str++sp).drop k).take 1=[AV.str (xs.getD k [])]:=by rw[zq4 (by simpa using Nat.le_of_lt h),List.drop_eq_getElem_cons (l:=xs.map AV.str) (xy h)];simp[List.getD_eq_getElem?_getD,h]
def zn2:∀n:Nat,(Ta [AV.str []] n).length=n
 | 0=>rfl
 | n+1=>by simp only[Ta,ZX,yg,yy,zn2 n];omega
def OV{xs:B9}{sp:List AV}{k:Nat}{y:B8}(h:k<xs.length):splice (xs.map AV.str++sp) k [.str y]=(xs.set k y).map AV.str++sp:=by
 have f:k<=(xs.map AV.str).length:=by simpa using Nat.le_of_lt h
 unfold splice;rw[List.take_append_of_le_length f,zq4 (by rw[List.length_map];exact h),yg,yy,<-List.map_take,<-List.map_drop,List.set_eq_take_append_cons_drop];rw[if_pos h];simp
def swapT(l:B9)(k:Nat):B9:=(l.set (k+1) (l.getD k [])).set k (l.getD (k+1) [])
def Ov(l:B9)(k:Nat):(swapT l k).length=l.length:=by simp[swapT]
def zht{l:B9}{k:Nat}(h:k+1<l.length)(x:B8):x∈swapT l k↔x∈l:=by
 have I:k<l.length:=xg
 have z:l.getD k []=l[k]:=by simp[List.getD_eq_getElem?_getD,I]
 have A:l.getD (k+1) []=l[k+1]:=by simp[List.getD_eq_getElem?_getD,h]
 have v:∀f (p:f<(swapT l k).length),(swapT l k)[f]=if f=k then l[k+1]else if f=k+1 then l[k]else l[f]'(by rw[Ov]at p;exact p):=by
  intro f p;simp only[swapT,z,A,List.getElem_set];by_cases g:f=k
  ·simp[g]
  ·have C:¬ k=f:=λe=>g e.symm;by_cases j:f=k+1
   ·simp[j]
   ·have G:¬ k+1=f:=λe=>j e.symm;simp[g,j,C,G]
 constructor
 ·intro y;obtain⟨f,p,rfl⟩:=List.getElem_of_mem y;rw[v];split
  ·exact List.getElem_mem _
  split
  ·exact List.getElem_mem _
  ·exact List.getElem_mem _
 ·intro y;obtain⟨f,p,rfl⟩:=List.getElem_of_mem y;have J:=Ov l k;by_cases g:f=k
  ·subst g;have:=v (f+1) xg;rw[if_neg xg,if_pos rfl]at this;rw[<-this];exact List.getElem_mem _
  by_cases j:f=k+1
  ·subst j;have:=v k xg;rw[if_pos rfl]at this;rw[<-this];exact List.getElem_mem _
  ·have:=v f xg;rw[if_neg g,if_neg j]at this;rw[<-this];exact List.getElem_mem _
abbrev znW(H:zd)(l:B9):Tf->zd->Prop:=λe H'=>match e with|.ret v=>∃xs,(xs.length=l.length/\UZ xs l)/\Wt H (.sl .nil 1 []) H' v xs|.pan _=>False
def zl9(l:List (List UInt8))(H:zd)(am:l.length<=ze):zZ 270 [.sl .no 1 (cT l)] H (znW H l):=by
 unfold znW;have ar:=am;simp only[ze]at ar;have G:=zn l;refine Xt ir270000 λKP Q aa a8=>?_;cases l with
 | nil =>have av:cT []=[]:=rfl;rw[av];simp(disch:=first|omega|assumption) only[ir270000,go_sem];refine zb1 rfl (by simp) (by simp[maxLen]) (λ_=>?_) (λJ=>absurd rfl J);simp(disch:=first|omega|assumption) only[go_sem];refine ZZ (λ_:Unit=>[(4,.int .i64 1)]) (λ_ H'=>H'=H) (λ_=>0) () (by simp(disch:=first|omega|assumption) only[go_sem]) rfl ?_;rintro⟨⟩ A ai rfl K;simp(disch:=first|omega|assumption) only[go_sem];exact aa _ _ A A [.sl .nil 1 []] nofun (by simp(disch:=first|omega|assumption) only[ir270000,zx,yB,go_sem]) (yT.refl _) ⟨[],⟨rfl,λx=>Iff.rfl⟩,Wt.refl (.inl ⟨rfl,rfl⟩)⟩
 | cons a0 l0 =>
 generalize Z:(a0::l0:List (List UInt8))=l at *
 have au:cT l≠[]:=by rw[<-Z];simp[cT]
 have bd:l.length≠0:=by rw[<-Z];simp
 simp(disch:=first|omega|assumption) only[ir270000,go_sem];refine zb1 rfl (by rw[G];omega) (by rw[G];simp only[maxLen];omega) (λJ=>absurd J au) λ_ b cap L an a9=>?_;rw[G]at an;have ap:(cT l).flatten.map AV.strip1=l.map AV.str:=by rw[K8,List.map_map];rfl
 obtain⟨sp,ad⟩:∃sp,sp=Ta [AV.str []] (cap-l.length):=⟨_,rfl⟩;have be:sp.length=cap-l.length:=by rw[ad,zn2]
 rw[ap,G,<-ad];simp(disch:=first|omega|assumption) only[go_sem];refine ZZ (λi:Nat=>[(4,.int .i64 i)]) (λi H'=>∃f,f.length=l.length/\UZ f l/\H' b=some (.cells (f.map AV.str++sp))/\(1<=i/\i<=l.length)/\∀c x,H c=some x->H' c=some x) (λi=>l.length-i) 1 (by simp(disch:=first|omega|assumption) only[go_sem]) ⟨l,rfl,λx=>Iff.rfl,upd_same ..,⟨by omega,by omega⟩,λc x g=>by rw[upd_ne (nen2 L g)];exact g⟩ ?_;rintro i A ai ⟨f,h,v,j,⟨hi,ba⟩,z⟩ K;by_cases aq:i<l.length
 case neg =>
  have O:¬ ((i:Int)<l.length):=by omega
  simp(disch:=first|omega|assumption) only[O,go_sem];refine aa _ _ A A [.ms b 0 l.length cap] nofun (by simp(disch:=first|omega|assumption) only[ir270000,zx,yB,go_sem]) (yT.refl _) ⟨f,⟨h,v⟩,.inr ⟨b,cap,sp,?_,j,by omega⟩,λc x g _=>z c x g,λa5 n k e=>?_⟩
  ·show AV.ms b 0 l.length cap=_;rw[h]
  ·cases e;exact .inl L
 have O:(i:Int)<l.length:=by omega
 simp(disch:=first|omega|assumption) only[O,go_sem];refine ZZ (λp:Nat=>[(5,.int .i64 p)]) (λp H'=>∃f,f.length=l.length/\UZ f l/\H' b=some (.cells (f.map AV.str++sp))/\p<l.length/\∀c x,H c=some x->H' c=some x) (λp=>p) i (by simp(disch:=first|omega|assumption) only[go_sem]) ⟨f,h,v,j,aq,z⟩ ?_;clear h v j z f;rintro p C a3 ⟨f,h,v,j,bc,z⟩ ak;have Y:∃f,f.length=l.length/\UZ f l/\C b=some (.cells (f.map AV.str++sp))/\(1<=i+1/\i+1<=l.length)/\∀c x,H c=some x->C c=some x:=⟨f,h,v,j,⟨by omega,by omega⟩,z⟩;have U:IntKind.i64.wrap ((i:Int)+1)=((i+1:Nat):Int):=by rw[wrap64 (by omega) (by omega)];simp
 cases p with
 | zero =>simp(disch:=first|omega|assumption) only[U,go_sem];exact zJ (K (i+1) C (by omega) Y) (by simp(disch:=first|omega|assumption) only[U,go_sem])
 | succ k =>
  have M:k+1<f.length:=by omega
  have ac:k<f.length:=by omega
  have X:=LY (sp:=sp) M;have W:=LY (sp:=sp) ac;have az:=OV (sp:=sp) (y:=f.getD k []) M;have ah:=OV (xs:=f.set (k+1) (f.getD k [])) (sp:=sp) (k:=k) (y:=f.getD (k+1) []) (by simpa using ac);have c1:k+1+1<=(f.map AV.str++sp).length:=by simp;omega
  have c0:k+1<=(f.map AV.str++sp).length:=by simp;omega
  have aj:k+1<=((f.set (k+1) (f.getD k [])).map AV.str++sp).length:=by simp;omega
  have ay:swapT f k=(f.set (k+1) (f.getD k [])).set k (f.getD (k+1) []):=rfl;have ax:=zht M;have aw:=Ov f k;rw[<-ay]at ah;have ab:(0:Int)<((k+1:Nat):Int):=by omega
  have ag:IntKind.i64.wrap (((k+1:Nat):Int)-1)=(k:Int):=by rw[wrap64 (by omega) (by omega)];simp
  have I:(0:Int)<=((k+1:Nat):Int)/\((k+1:Nat):Int)<l.length:=by omega
  have hr0:(0:Int)<=(k:Int)/\(k:Int)<l.length:=by omega
  have af:((k+1:Nat):Int).toNat=k+1:=by omega
  have ae:(k:Int).toNat=k:=by omega
  generalize ((k+1:Nat):Int)=K1 at *
  generalize al:(k:Int)=a4 at *
  generalize f.map AV.str++sp=a6 at *
  generalize (f.set (k+1) (f.getD k [])).map AV.str++sp=a7 at *
  generalize f.getD (k+1) []=a2 at *
  generalize f.getD k []=a1 at *
  cases g:Op.bytesLess a2 a1 with
  | false =>simp(disch:=first|omega|assumption) only[ab,I.1,I.2,hr0.1,hr0.2,ag,af,ae,j,c1,c0,X,W,g,Nat.mul_one,Nat.zero_add,go_sem];exact zJ (K (i+1) C (by omega) Y) (by simp(disch:=first|omega|assumption) only[U,go_sem])
  | true =>simp(disch:=first|omega|assumption) only[ab,I.1,I.2,hr0.1,hr0.2,ag,af,ae,j,c1,c0,X,W,g,Nat.mul_one,Nat.zero_add,az,aj,ah,go_sem];exact zJ (ak k _ (by omega) ⟨swapT f k,by rw[aw,h],λx=>by rw[ax,v],upd_same ..,by omega,λc x g=>by have ao:c≠b:=nen2 L g;rw[upd_ne ao];exact z c x g⟩) (by simp(disch:=first|omega|assumption) only[al,go_sem])
def zY.own1{P:Program}{f:FuncId}{o:Own}{sz:Nat}{xs:List (List AV)}{H:zd}{Q:Tf->zd->Prop}(h:zY P f [.o sz xs] H Q):zY P f [.sl o sz xs] H Q :=
 λγ w j v p g=>h γ w j v p (by
  cases j with
  | nil=>exact absurd g.1 xw
  | cons y r =>
   cases r with
   | nil=>exact Ze.cons (g.2 0 _ y rfl rfl).strip1 Ze.nil
   | cons _ _=>exact absurd g.1 xw)
abbrev znt(H:zd)(l:B9)(n:Nat):Tf->zd->Prop:=λe H'=>match e with|.ret v=>∃xs,(xs.length<=n/\UZ xs l)/\v=.o 1 (cT xs)/\H'=H|.pan _=>False
def zqF(d:zv)(f:List zj)(H:zd)(Z:Zi d<=ze)(a5:yR f<=zt d)(au:lenD d*zt d+zt d<=1099511627776):zZ 148 [.agg (z8 d),.o 7 (Zp f)] H (znt H (YT d f) (lenD d*zt d+zt d)):=by
 unfold znt;have X:=zaA d f Z a5;have bc:=WW d f;have U:=λn=>SD d n (by have:=yP d.frags;simp only[Zi,zt]at Z;omega);have Y:=λH=>zrE f [] .nil H (by simp only[yy,ze];omega) rfl;have ar:=λj l o H M O=>zrE j l o H M O;have be:=yP d.frags;have hfr:d.frags.length<=lenD d:=w2
 have bd:d.frags.length<=1099511627776:=by simp only[zt]at au;omega
 have az:∀n,yR ((yb d n).getD Vt).sels<=zt d:=λn=>by
  cases an:yb d n with
  | none=>simp[Vt,yR]
  | some A =>have M:=WB (show A∈d.frags from List.mem_of_find?_eq_some an);have O:=Xb A;simp only[Option.getD_some,zt];omega
 have hmul:∀k,k<=lenD d->k*zt d<=lenD d*zt d:=λk a2=>Nat.mul_le_mul_right _ a2;have ah:YT d f=(Zl d f).foldl (λl n=>Wm ((yb d n).getD Vt).sels l) (Wm f []):=rfl;have af:=P3 f [];have a6:=PW f (l:=[]) (m:=[]) λx=>Iff.rfl;generalize YT d f=F,Zl d f=R,yb d=C at *
 have ax:=Yl d;simp only[ax]at X U ⊢;have a4:cT []=[]:=rfl;simp only[a4,yy,Nat.zero_add]at Y af;have J:=zn R;refine Xt ir148 λKP Q ap ba=>?_;refine xa (zu (Y _) λo0 H0 ac=>?_);rw[zn]at ac;refine xh X ?_;refine xc J ?_;refine zc R 7 (λx:Own×B9=>[(5,.sl x.1 1 (cT x.2))]) (λg K x H'=>(∃m,UZ x.2 m/\F=K.foldl (λl n=>Wm ((C n).getD Vt).sels l) m)/\x.2.length<=yR f+g.length*zt d/\zQ H .nil H' x.1 x.2.length 1) (o0,uSs f []) xb ⟨⟨_,a6,ah⟩,by simpa using af,ac⟩ ?_ ?_
 ·rintro⟨o1,a⟩ z ag ⟨⟨m,y,p⟩,G,h⟩ I;simp only[List.foldl]at p;simp only at y G;subst p;replace h:zQ H .nil z o1 a.length 1:=h;have a3:=hmul R.length xg;refine xd J I ?_;have aq:=zY.frozenE (R:=λj=>j.length=a.length/\UZ j a) (zl9 a z xi);refine yM (zY.own1 aq) ?_;rintro r L ab;cases r with
  | pan a7=>exact ab.elim
  | ret a7 =>
  obtain⟨j,⟨a9,al⟩,rfl,am⟩:=ab;refine xV ?_;exact ap _ _ _ H [.o 1 (cT j)] nofun xb (yT.of_sub λc x aw=>am c x (h.kept c x aw nofun)) ⟨j,⟨by omega,λx=>by rw[al,y]⟩,rfl,rfl⟩
 ·rintro g x K ⟨o1,a⟩ z ag aa I _ ⟨⟨m,y,p⟩,G,h⟩ ao;have a1:=ZM aa;have W:=U x;have a0:=az x;simp only[List.foldl_cons]at p;simp only at y G;replace h:zQ H .nil z o1 a.length 1:=h;generalize (C x).isSome=ok,(C x).getD Vt=A at *
  obtain⟨aj,ak,ai,v⟩:=A;rw[Ys]at W;simp only at p a0;have ay:g.length+1<=lenD d:=by
   have:R.length=g.length+(K.length+1):=xv aa
   omega
  have a3:=hmul (g.length+1) ay;have bf:(g.length+1)*zt d=g.length*zt d+zt d:=by rw[Nat.add_mul,Nat.one_mul]
  have bg:=P3 v a;refine xm J I a1 W ?_;refine xa (zb λa8 av=>?_);have ae:=h.upd (x:=.cells [.str aj,.str ak,.o 2 (ZE ai),.o 7 (Zp v)]) av;refine xa (zu (ar v a o1 _ xi ae.own) λo2 L ad=>?_);rw[zn]at ad;refine xq ?_;exact zJ (ao (o2,uSs v a) L ⟨⟨_,PW v y,p⟩,by rw[show (g++[x]).length=g.length+1 by simp];simp only;omega,ae.trans ad⟩) xf
def znB(a b:B9)(C:a.length<=ze)(G:b.length<=ze):zf 149 [.o 1 (cT a),.o 1 (cT b)] (.bool (a.all λx=>zH x b)):=by
 have g:=zn a;simp only[ze]at C;refine zo ir149 λKP Q j=>?_;refine xc g ?_;refine zc a 5 ZY (λz v _ H=>(v.all λx=>zH x b)=a.all λx=>zH x b) () xb rfl ?_ ?_
 ·rintro _ H y f h;refine xd g h ?_;exact j rfl (wD f)
 ·rintro z x v _ H y I h _ f A;have J:=ZM I;rw[List.all_cons]at f;refine xm g h J (TG b x G) ?_;cases p:zH x b with
  | false =>rw[p,Bool.false_and]at f;refine xa ?_;exact j rfl (wD f)
  | true =>rw[p,Bool.true_and]at f;refine xa ?_;exact zJ (A () _ f) xf
def TE(s:zg)(d:zv)(n:Int)(o:Y6):Bool :=
 if n=18 then !Z1 (o.vars.map (·.nm))else if n=20 then !(YT d o.sels).all λx=>zH x (o.vars.map (·.nm))
 else if n=21 then !(o.vars.map (·.nm)).all λx=>zH x (YT d o.sels)else if n=19 then !o.vars.all λf=>XW s f.t.nm else false
def zgv(s:zg)(d:zv)(n:Int)(a4:zA s<=ze)(a0:Zi d<=ze)(a1:lenD d*zt d+zt d<=1099511627776):zf 63 [.agg (zk s),.agg (z8 d),.i n] (.bool (!d.ops.any (TE s d n))):=by
 have al:=λx=>zi6 s x (zR a4);have ai:=λ(o:Y6) (j:o∈d.ops) (H:zd)=>zqF d o.sels H a0 (by have:=U1 j;have:=Uw o;simp only[zt];omega) a1;have br:zt d<=1099511627776:=xg
 have bw:=ZJ d.ops;have bv:Ub d.ops<=zt d:=wA
 have a5:=λ(o:Y6) (j:o∈d.ops)=>(show o.vars.length<=zt d by have:=U1 j;have bn:=yr o.vars;have bp:bO o=1+o.nm.length+Wx o.vars+We o.dirs+yR o.sels:=rfl;omega);have af:=ZI d.ops;have ax:∀o,TE s d n o=if n=18 then !Z1 (o.vars.map (·.nm))else if n=20 then !(YT d o.sels).all λx=>zH x (o.vars.map (·.nm))else if n=21 then !(o.vars.map (·.nm)).all λx=>zH x (YT d o.sels)else if n=19 then !o.vars.all λI=>XW s I.t.nm else false:=λ_=>rfl
 generalize ah:(!d.ops.any (TE s d n))=F;generalize TE s d n=B,YT d=au,XW s=E,bq:lenD d*zt d+zt d=bg at *
 have a2:=Yl d;obtain⟨b1,b2,sm⟩:=s;simp only[zk,a2]at al ai ⊢;refine zo ir63 λKP Q O=>?_;refine xc af ?_;refine zc d.ops 7 ZY (λag U _ H=>U.any B=d.ops.any B) () xb rfl ?_ ?_
 ·rintro _ H ar v ac;refine xd af ac ?_;exact O rfl (by simp[<-ah,<-v])
 ·rintro ag x U _ H ar ab ac _ v G;have am:=Z6 ab;have aj:=ai x (xv ab);have a6:=a5 x (xv ab);have g:=ax x;rw[List.any_cons]at v;have bad:B x=true->F=false:=λj=>by rw[<-ah,<-v,j];rfl
  have good:B x=false->U.any B=d.ops.any B:=λj=>by rw[<-v,j,Bool.false_or]
  generalize B x=bh at *
  obtain⟨ok,L,f,K,os⟩:=x;rw[Xn]at am;simp only at aj a6 g;have lv:=yJ f;generalize au os=us at *
  refine xe af ac am (zb λJ bu=>?_);refine xh (zgL f xi) ?_;refine xa (yM (aj _) ?_);rintro r bf ao;cases r with
  | pan I=>exact ao.elim
  | ret I =>
  obtain⟨A,⟨bl,aa⟩,rfl,rfl⟩:=ao;have ae:(f.map (·.nm)).length<=ze:=w4
  have ap:A.length<=ze:=xi
  have bc:(us.all λx=>zH x (f.map (·.nm)))=A.all λx=>zH x (f.map (·.nm)):=by rw[Bool.eq_iff_iff,Yh,Yh];exact⟨λj x v=>j x ((aa x).1 v),λj x v=>j x ((aa x).2 v)⟩
  have bd:((f.map (·.nm)).all λx=>zH x us)=(f.map (·.nm)).all λx=>zH x A:=by
   have:∀x,zH x us=zH x A:=λx=>by rw[Bool.eq_iff_iff,Zm,Zm];exact(aa x).symm
   simp only[this]
  rw[bc,bd]at g;have az:=PD (f.map (·.nm)) ae;have hA1:=znB A (f.map (·.nm)) ap ae;have ay:=znB (f.map (·.nm)) A ae ap;generalize Z1 (f.map (·.nm))=c1,(A.all λx=>zH x (f.map (·.nm)))=av at *
  generalize ((f.map (·.nm)).all λx=>zH x A)=aw at *
  generalize f.map (·.nm)=bx at *
  have Y:(H.upd J (.cells [.i ok,.str L,.o 10 (Yg f),.o 2 (ZE K),.o 7 (Zp os)])) J=some (.cells [.i ok,.str L,.o 10 (Yg f),.o 2 (ZE K),.o 7 (Zp os)]):=upd_same ..;by_cases n19:n=19
  ·have n18:¬ n=18:=xg
   have n20:¬ n=20:=xg
   have n21:¬ n=21:=xg
   have a8:=eq_true n19;rw[if_neg n18,if_neg n20,if_neg n21,if_pos n19]at g;simp(disch:=first|omega|assumption) only[Xd,n18,n20,n21,go_sem];refine zc f 11 ZY (λag U _ H'=>H' J=some (.cells [.i ok,.str L,.o 10 (Yg f),.o 2 (ZE K),.o 7 (Zp os)])/\(U.all λI=>E I.t.nm)=f.all λI=>E I.t.nm) () xb ⟨Y,rfl⟩ ?_ ?_
   ·rintro _ W X ⟨h,z⟩ ad;rw[<-z]at g;refine xe lv ad h ?_;exact zJ (G () _ (good g)) xf
   ·rintro bj be bz _ W X a3 ad _ ⟨h,z⟩ Z;have an:=y6 a3;rw[List.all_cons]at z;obtain⟨b9,⟨aq,b3,b4⟩,b5,⟨b6,ca,cb,b7,b8⟩⟩:=be;rw[zX]at an;simp only at z;refine xU lv ad h an a8 (al aq) ?_;cases ak:E aq with
    | false =>rw[ak,Bool.false_and]at z;have C:=bad (wK g z);exact vn O C
    | true =>rw[ak,Bool.true_and]at z;refine xa ?_;exact zJ (Z () _ ⟨h,z⟩) xf
  by_cases n18:n=18
  ·have a7:=eq_true n18;have n20:¬ n=20:=xg
   have n21:¬ n=21:=xg
   rw[if_pos n18]at g;refine wO a7 ?_;refine za az ?_;cases c1 with
   | false =>have C:=bad g;exact vn O C
   | true =>
    have p:=good g;refine xd n20 n21 ?_;refine ZZ (λ_:Unit=>[(11,.i 0)]) (λ_ H'=>H' J=some (.cells [.i ok,.str L,.o 10 (Yg f),.o 2 (ZE K),.o 7 (Zp os)])) (λ_=>0) () xb Y ?_;rintro⟨⟩ W X h Z;by_cases y:(0:Int)<f.length
    ·have M:=eq_true y;refine xk lv M h n19 ?_;exact zJ (G () _ p) xf
    ·refine xk lv y h n19 ?_;exact zJ (G () _ p) xf
  rw[if_neg n18]at g;by_cases n20:n=20
  ·have a9:=eq_true n20;have n21:¬ n=21:=xg
   rw[if_pos n20]at g;simp(disch:=first|omega|assumption) only[Xd,n18,a9,go_sem];refine za hA1 ?_;cases av with
   | false =>have C:=bad g;exact vn O C
   | true =>
    have p:=good g;refine xc n21 ?_;refine ZZ (λ_:Unit=>[(11,.i 0)]) (λ_ H'=>H' J=some (.cells [.i ok,.str L,.o 10 (Yg f),.o 2 (ZE K),.o 7 (Zp os)])) (λ_=>0) () xb Y ?_;rintro⟨⟩ W X h Z;by_cases y:(0:Int)<f.length
    ·have M:=eq_true y;refine xk lv M h n19 ?_;exact zJ (G () _ p) xf
    ·refine xk lv y h n19 ?_;exact zJ (G () _ p) xf
  rw[if_neg n20]at g;by_cases n21:n=21
  case' pos =>
   have ba:=eq_true n21;rw[if_pos n21]at g;simp(disch:=first|omega|assumption) only[Xd,n18,n20,ba,go_sem];refine za ay ?_;cases aw
   case' false =>have C:=bad g;simp(disch:=first|omega|assumption) only[go_sem]
   case false =>exact xj O C
   have p:=good g;simp(disch:=first|omega|assumption) only[go_sem]
  case' neg =>rw[if_neg n21,if_neg n19]at g;have p:=good g;simp(disch:=first|omega|assumption) only[Xd,n18,n20,n21,go_sem]
  all_goals
   refine ZZ (λ_:Unit=>[(11,.i 0)]) (λ_ H'=>H' J=some (.cells [.i ok,.str L,.o 10 (Yg f),.o 2 (ZE K),.o 7 (Zp os)])) (λ_=>0) () xb Y ?_;rintro⟨⟩ W X h Z;by_cases y:(0:Int)<f.length
   ·have M:=eq_true y;refine xk lv M h n19 ?_;exact zJ (G () _ p) xf
   ·refine xk lv y h n19 ?_;exact zJ (G () _ p) xf
def Sb(f:List z6)(n:B8)(j:Wx f<=ze):((zB f n).getD zW).t.nm.length<=ze:=by
 cases g:zB f n with
 | none=>simp[zW]
 | some h =>have:=YW (show h∈f from List.mem_of_find?_eq_some g);simp only[bW]at this;simp only[Option.getD_some];omega
def zf0(s:zg)(f:List z6)(m:yU)(j:zA s<=ze)(h:Wx f<=ze)(g:bM m<=ze):(Xx s f m).length<=bM m/\∀v∈Xx s f m,v.t.nm.length<=ze:=by obtain⟨n,p⟩:=m;simp only[bM]at g;have:=zrj s ((zB f n).getD zW).t ((zB f n).getD zW).has p j xg (Sb f n h);exact⟨Nat.le_trans this.1 vj,this.2.1⟩
def Ns(s:zg)(f:List z6)(l:List yU):List ZK:=l.flatMap (Xx s f)
def za7(s:zg)(j:List z6)(l:List yU)(A:zA s<=ze)(z:Wx j<=ze)(C:ZC l<=ze):(Ns s j l).length<=ZC l/\∀v∈Ns s j l,v.t.nm.length<=ze:=by
 have y:∀x∈l,_:=λx h=>zf0 s j x A z (by have:=zdD h;omega);refine⟨?_,λv p=>?_⟩
 ·have:=XL (f:=Xx s j) (g:=bM) l λx h=>(y x h).1;rw[<-Vg]at this;exact this
 ·obtain⟨x,h,p⟩:=List.mem_flatMap.1 p;exact(y x h).2 v p
def zqZ(s:zg)(f:List z6)(l:List yU)(H:zd)(h:zA s<=ze)(M:Wx f<=ze)(aj:ZC l<=ze):YR Tryz.prog 336 [.agg (zk s),.o 10 (Yg f),.o 6 (Ya l)] H .nil 5 (Ul (Ns s f l)):=by
 have bh:=y5 l;have y:=yI l;have be:=yr f;have ak:=aj;simp only[ze]at ak;have an:=λn=>QY f n xg;have K:∀n x,yU.mk n x∈l->∀H,YR Tryz.prog 368 [.agg (zk s),.agg (YQ ((zB f n).getD zW).t),.bool ((zB f n).getD zW).has,.agg (cV x)] H .nil 5 (Ul (Xx s f (.mk n x))):=λn x aq=>by
  have ar:bV x<=ze:=by have:=X9 aq;omega
  exact(zrj s ((zB f n).getD zW).t ((zB f n).getD zW).has x h ar (Sb f n M)).2.2
 have ac:Ns s f l=l.flatMap (Xx s f):=rfl;have J:=λa (ad:ZC a<=ze)=>(za7 s f a h M ad).1;simp only[Ns]at J;generalize Ns s f l=F,Xx s f=S at *
 obtain⟨X,Y,sm⟩:=s;generalize ai:(⟨X,Y,sm⟩:zg)=s at *
 have am:zk s=[.o 6 (Vd X),.str Y,.str sm]:=xM ai
 simp only[am]at K ⊢;refine Xt ir336 λKP Q ah bf=>?_;have fin:∀r o,F=r->∀ρ g,zx ρ g ir336.1.res=some [.sl o 5 (Ul r)]->zQ H .nil g o r.length 5->Q .ret ρ g:=λr o e ρ g ae af=>ah _ ρ g g _ nofun ae (yT.refl _) ⟨o,by rw[e];rfl,by rw[e,zO];exact af⟩;refine xc y ?_;refine zc l 8 (λx:Own×List ZK=>[(7,.sl x.1 5 (Ul x.2))]) (λj W x H'=>x.2=j.flatMap S/\zQ H .nil H' x.1 x.2.length 5) (.nil,[]) wo ⟨rfl,zQ.refl (o:=.nil) (n:=0) rfl⟩ ?_ ?_
 ·rintro⟨o1,a⟩ g aa ⟨p,h⟩ z;simp only at p;subst p;refine xd y z ?_;exact fin _ o1 ac _ _ rfl h
 ·rintro j x W ⟨o1,a⟩ g aa A z _ ⟨p,h⟩ ag;have C:=yZ A;have au:x∈l:=xv A
  simp only at p;replace h:zQ H .nil g o1 a.length 5:=h;have I:(j++[x]).flatMap S=a++S x:=wQ p
  have bg:a.length+(S x).length<=ZC l:=by have e:=zap j W x;rw[<-A]at e;have:=J (j++[x]) xg;rw[I,ZX]at this;omega
  obtain⟨v,⟨a1,a4,a5,a2,a3⟩⟩:=x;have L:=an v;have G:=K v _ au;rw[zy,zC]at C;rw[zC]at G;generalize S (.mk v (.mk a1 a4 a5 a2 a3))=ab,(zB f v).isSome=ok,(zB f v).getD zW=av at *
  obtain⟨a0,⟨aw,ax,ay⟩,az,⟨a6,a9,ba,a7,a8⟩⟩:=av;rw[zX]at L;simp only[YQ]at G;refine xm y z C L ?_;refine xa (zb λbd al=>?_);have ap:=h.upd (x:=.cells [.str a0,.str aw,.i ax,.i ay,.bool az,.i a6,.i a9,.str ba,.o 5 (PE a7),.o 6 (Ya a8)]) al;refine xe y z C (zu (G _) λo2 bc ao=>?_);have U:=Z3 ap ao;refine xa (zp (by rw[zO];exact U.own) ?_ ?_ λo' Z O=>?_)
  ·simp only[zO];omega
  ·simp only[zO,maxLen];omega
  simp only[zO]at O;refine wh ?_;exact zJ (ag (o',a++ab) Z ⟨I.symm,by rw[ZX];exact U.trans O⟩) xf
def Uq(s:zg)(d:yv):List ZK:=Ns s (yc d) d.args
def PP(s:zg)(typ:B8)(k:Int)(f:B8)(args:List yU):List ZK:=if k=0 then Ns s ((zG s typ f).getD zF).ps args else []
mutual
def vsS(s:zg):zj->B8->List ZK| .mk k al nm args dirs on sels,typ=>PP s typ k nm args++dirs.flatMap (Uq s)++WP s sels (zz s typ (.mk k al nm args dirs on sels))
def WP(s:zg):List zj->B8->List ZK
 | [],_=>[]
 | x::r,typ=>vsS s x typ++WP s r typ
end
def zcR(s:zg)(typ:B8):∀a b:List zj,WP s (a++b) typ=WP s a typ++WP s b typ
 | [],b=>by simp[WP]
 | x::a,b=>by rw[L7,WP,WP,zcR s typ a b,Uh]
def zbs(s:zg)(typ:B8)(k:Int)(f:B8)(args:List yU)(h:zA s<=ze)(g:ZC args<=ze):(PP s typ k f args).length<=ZC args/\∀j∈PP s typ k f args,j.t.nm.length<=ze:=by
 unfold PP;split
 ·exact za7 s _ args h (by have:=VC s typ f;omega) g
 ·simp
def Lo(s:zg)(h:zA s<=ze):∀l:List yv,We l<=ze->(l.flatMap (Uq s)).length<=We l/\∀g∈l.flatMap (Uq s),g.t.nm.length<=ze
 | [],_=>by simp
 | x::r,f=>by
  have e:We (x::r)=bD x+We r:=vh
  have y:bD x=1+x.nm.length+ZC x.args:=rfl;have j:=za7 s (yc x) x.args h (by have:=Tv x;refine xl ?_;omega) xg;have p:=Lo s h r xg;rw[List.flatMap_cons];refine⟨by rw[ZX];simp only[Uq];omega,λg v=>?_⟩;rcases List.mem_append.1 v with f|f
  ·exact j.2 g f
  ·exact p.2 g f
mutual
def zol(s:zg)(h:zA s<=ze):∀(x:zj) (typ:B8),bS x<=ze->(vsS s x typ).length<=bS x/\∀g∈vsS s x typ,g.t.nm.length<=ze
 | .mk k al nm args dirs on sels,typ,hb=>by
  simp only[bS]at hb ⊢;have j:=zbs s typ k nm args h xg;have p:=Lo s h dirs xg;have v:=RZ s h sels (zz s typ (.mk k al nm args dirs on sels)) xg;simp only[vsS];refine⟨by simp only[ZX];omega,λg y=>?_⟩;rcases List.mem_append.1 y with f|f
  ·rcases List.mem_append.1 f with f|f
   ·exact j.2 g f
   ·exact p.2 g f
  ·exact v.2 g f
def RZ(s:zg)(h:zA s<=ze):∀(l:List zj) (typ:B8),yR l<=ze->(WP s l typ).length<=yR l/\∀f∈WP s l typ,f.t.nm.length<=ze
 | [],typ,_=>by simp[WP]
 | x::r,typ,hb=>by
  simp only[yR]at hb ⊢;have j:=zol s h x typ xg;have p:=RZ s h r typ xg;simp only[WP];refine⟨by rw[ZX];omega,λf v=>?_⟩;rcases List.mem_append.1 v with g|g
  ·exact j.2 f g
  ·exact p.2 f g
end
def vsG(s:zg)(h:zA s<=ze):∀c:Nat,∀(l:List zj) (typ:B8) (H:zd),yR l<=c->c<=ze->YR Tryz.prog 274 [.agg (zk s),.str typ,.o 7 (Zp l)] H .nil 5 (Ul (WP s l typ)):=by
 intro c;induction c using Nat.strongRecOn with
 | _ c be =>
 intro l typ H co b9;have C:=Z7 l;have cq:=YL l;have ca:=b9;simp only[ze]at ca;have a6:=λx:zj=>zaO s (typ,x) h;have cd:=λf=>VC s typ f;have bc:=λx=>Qc s typ x h;have am:=λbf l H ai aj=>zqZ s bf l H h ai aj;have bq:WP s l typ=WP s l typ:=rfl;have b8:=zcR s typ;have a4:=RZ s h;have cc:=λk f g=>zbs s typ k f g h;have a1:=Lo s h;have b2:∀x,WP s [x] typ=vsS s x typ:=λx=>by simp[WP]
 have b3:∀k J f g p U y,vsS s (.mk k J f g p U y) typ=PP s typ k f g++p.flatMap (Uq s)++WP s y (zz s typ (.mk k J f g p U y)):=λk J f g p U y=>by simp only[vsS]
 have ct:zA s<=1099511627776:=h;generalize bv:WP s l typ=F at bq ⊢;obtain⟨bg,bh,sm⟩:=s;generalize b1:(⟨bg,bh,sm⟩:zg)=s at *
 have cb:zk s=[.o 6 (Vd bg),.str bh,.str sm]:=xM b1
 simp only[cb]at a6 bc am be ⊢;refine Xt ir274 λKP Q bz cn=>?_;have fin:∀r o,F=r->∀ρ v,zx ρ v ir274.1.res=some [.sl o 5 (Ul r)]->zQ H .nil v o r.length 5->Q .ret ρ v:=λr o e ρ v ai aj=>bz _ ρ v v _ nofun ai (yT.refl _) ⟨o,by rw[e];rfl,by rw[e,zO];exact aj⟩;refine xc C ?_;refine zc l 8 (λx:Own×List ZK=>[(7,.sl x.1 5 (Ul x.2))]) (λK ap x H'=>x.2=WP s K typ/\zQ H .nil H' x.1 x.2.length 5) (.nil,[]) wo ⟨by simp[WP],zQ.refl (o:=.nil) (n:=0) rfl⟩ ?_ ?_
 ·rintro⟨o1,a⟩ v bl ⟨L,h⟩ A;simp only at L;rw[bv]at L;subst L;refine xd C A ?_;exact fin _ o1 rfl _ _ rfl h
 ·rintro K x ap ⟨o1,a⟩ v bl az A _ ⟨L,h⟩ bw;have G:=YY az;have ay:=WM K x ap;rw[<-az]at ay;simp only at L;replace h:zQ H .nil v o1 a.length 5:=h;have b6:=(a4 K typ xg).1;rw[<-L]at b6;have an:WP s (K++[x]) typ=a++vsS s x typ:=by rw[b8,b2,<-L]
  obtain⟨k,J,f,g,p,U,y⟩:=x;rw[b3]at an;simp only[bS]at ay;have hx1:=a6 (.mk k J f g p U y);have bd:=bc (.mk k J f g p U y);have cu:=cd f;have b7:=(cc k f g xg).1;have cp:=Y3 p;have aa:=YB p;have ce:=λar H'=>be (yR y) xg y ar H' (ZG _) xg;have a3:=λar=>(a4 y ar xg).1;rw[Xv]at hx1;rw[Zt]at G bd;obtain⟨z,aw⟩:∃z,z=PP s typ k f g:=⟨_,rfl⟩;rw[<-aw]at an b7;have X:z=if k=0 then Ns s ((zG s typ f).getD zF).ps g else []:=aw
  simp only[zj.nm]at hx1;generalize zz s typ (.mk k J f g p U y)=aq at *
  replace a3:=a3 aq;generalize b4:WP s y aq=bp,((zG s typ f).getD zF).ps=bu at *
  by_cases ad:k=0
  case' pos =>
   rw[if_pos ad]at X;have cg:=eq_true ad;refine xE C A G cg hx1 ?_;refine xe C A G (zu (am bu g _ xg xg) λo2 cm a7=>?_);rw[<-X]at a7 ⊢;have ba:=Z3 h a7;refine xa (zp (by rw[zO];exact ba.own) ?_ ?_ λo1 v a8=>?_)
   ·simp only[zO];omega
   ·simp only[zO,maxLen];omega
   simp only[zO]at a8;have a9:zQ H .nil v o1 (a++z).length 5:=by rw[ZX];exact ba.trans a8
   simp(disch:=first|omega|assumption) only[C,A,G,Wd,aa,go_sem]
  case' neg =>
   rw[if_neg ad]at X;have a9:zQ H .nil v o1 (a++z).length 5:=by rw[X,List.append_nil];exact h
   refine xp C A G ad aa ?_;rw[show Ul a=Ul (a++z) by rw[X,List.append_nil]]
  all_goals
   refine zc p 9 (λx:Own×List ZK=>[(7,.sl x.1 5 (Ul x.2))]) (λK ap x H'=>x.2=a++z++K.flatMap (Uq s)/\zQ H .nil H' x.1 x.2.length 5) (o1,a++z) xb ⟨by simp,a9⟩ ?_ ?_
   ·rintro⟨o2,I⟩ ab bn ⟨M,O⟩ ae;simp only at M;have ak:=(a1 p xg).1;replace O:zQ H .nil ab o2 I.length 5:=O;have b5:I.length=a.length+z.length+(p.flatMap (Uq s)).length:=by rw[M,ZX,ZX]
    refine xU C A G aa ae bd ?_;refine xe C A G (zu (ce aq ab) λci bj af=>?_);rw[b4]at af ⊢;have Z:=Z3 O af;refine xa (zp (by rw[zO];exact Z.own) ?_ ?_ λao ag Y=>?_)
    ·simp only[zO];omega
    ·simp only[zO,maxLen];omega
    simp only[zO]at Y;refine wh ?_;exact zJ (bw (ao,I++bp) ag ⟨by simp only;rw[an,M];simp[Uh],by rw[ZX];exact Z.trans Y⟩) xf
   ·rintro W j cj ⟨o2,I⟩ ab bn a0 ae _ ⟨M,O⟩ bx;have al:=Y0 a0;have ax:=VJ W j cj;rw[<-a0]at ax;simp only at M;replace O:zQ H .nil ab o2 I.length 5:=O;have br:We (W++[j])=We W+bD j:=vh
    have ak:=(a1 (W++[j]) xg).1;rw[List.flatMap_append,ZX]at ak;have au:[j].flatMap (Uq s)=Uq s j:=xw
    rw[au]at ak;have b5:I.length=a.length+z.length+(W.flatMap (Uq s)).length:=by rw[M,ZX,ZX]
    have ch:a++z++(W++[j]).flatMap (Uq s)=I++Uq s j:=by rw[List.flatMap_append,au,M];simp[Uh]
    have a5:=QT j;have cr:=Tv j;have av:Uq s j=Ns s (yc j) j.args:=rfl;obtain⟨ah,ac⟩:=j;simp only[bD]at ax br;simp only at av;have a2:=λH=>am (yc ⟨ah,ac⟩) ac H xi xg;rw[<-av]at a2;generalize yc ⟨ah,ac⟩=bf,Uq s ⟨ah,ac⟩=D at *
    rw[T2]at al a5;refine xH C A G aa ae al a5 ?_;refine xu C A G aa ae al (zu (a2 _) λci bj af=>?_);have Z:=Z3 O af;refine xa (zp (by rw[zO];exact Z.own) ?_ ?_ λao ag Y=>?_)
    ·simp only[zO];omega
    ·simp only[zO,maxLen];omega
    simp only[zO]at Y;refine wh ?_;exact zJ (bx (ao,I++D) ag ⟨ch.symm,by rw[ZX];exact Z.trans Y⟩) xf
def ziy(v:z6)(t:X4)(has:Bool)(A:v.t.nm.length<=ze)(j:t.nm.length<=ze):zf 154 [.agg (cW v),.agg (YQ t),.bool has] (.bool (UP v t has)):=by
 have C:=isR t j;have G:=isR v.t A;have p:=zlY t j;have y:=zeu v.t t A j;have z:=zeu v.t (Xp t) A (by rw[Mz];exact j);have f:UP v t has=if !SK t||SK v.t then Xl v.t t else (has||(v.has&&!decide (zpX v.d=0)))&&Xl v.t (Xp t):=rfl
 generalize UP v t has=F,SK t=O,SK v.t=U,Xl v.t t=ai at *
 generalize Xl v.t (Xp t)=aj at *
 generalize Xp t=bt at *
 obtain⟨ab,⟨ac,ad,ae⟩,I,⟨k,q,M,L,m⟩⟩:=v;obtain⟨af,ag,ah⟩:=t;obtain⟨W,X,Y⟩:=bt;have K:zpX (.mk k q M L m)=k:=rfl;simp only[YQ,K]at C G p y z f ⊢;rw[zX];refine zo ir154 λKP Q g=>?_;refine xa (zb λZ aa=>?_);refine xh C ?_;cases O with
 | false =>refine xh y ?_;exact vn g f
 | true =>
 refine xh G ?_;cases U with
 | true =>refine xh y ?_;exact vn g f
 | false =>
 simp only[Bool.not_true,Bool.or_false,Ql,if_false]at f;cases has with
 | true =>rw[Bool.true_or,Bool.true_and]at f;refine xh p ?_;refine xh z ?_;exact vn g f
 | false =>
 rw[Bool.false_or]at f;cases I with
 | false =>exact vn g f
 | true =>
 rw[Bool.true_and]at f;by_cases h:k=0
 ·have J:=eq_true h;refine xc J ?_;exact xz g f h
 ·refine xt h p ?_;refine xh z ?_;refine xa ?_;exact xz g f h
def Nl(s:zg)(d:zv)(n:B8):List ZK:=WP s ((yb d n).getD Vt).sels ((yb d n).getD Vt).on
def QM(s:zg)(d:zv)(o:Y6):List ZK:=WP s o.sels (ZS s o)++(Zl d o.sels).flatMap (Nl s d)
def za4(s:zg)(d:zv)(j:zA s<=ze)(v:zt d<=ze):∀l:B9,(l.flatMap (Nl s d)).length<=l.length*zt d/\∀f∈l.flatMap (Nl s d),f.t.nm.length<=ze
 | []=>by simp
 | n::r=>by
  have A:=K4 d n;have z:XZ d.frags<=zt d:=wA
  have p:=RZ s j ((yb d n).getD Vt).sels ((yb d n).getD Vt).on xg;have h:=za4 s d j v r;rw[List.flatMap_cons,yg,Nat.add_mul,Nat.one_mul];refine⟨by rw[ZX];simp only[Nl]at h ⊢;omega,λf y=>?_⟩;rcases List.mem_append.1 y with g|g
  ·exact p.2 f g
  ·exact h.2 f g
def zlD(s:zg)(d:zv)(o:Y6)(h:zA s<=ze)(v:zt d<=ze)(ho:yR o.sels<=zt d):(QM s d o).length<=zt d+lenD d*zt d/\∀f∈QM s d o,f.t.nm.length<=ze:=by
 have j:=RZ s h o.sels (ZS s o) xg;have p:=za4 s d h v (Zl d o.sels);have z:=WW d o.sels;have A:(Zl d o.sels).length*zt d<=lenD d*zt d:=Nat.mul_le_mul_right _ w2;refine⟨by rw[QM,ZX];omega,λf y=>?_⟩;rcases List.mem_append.1 y with g|g
 ·exact j.2 f g
 ·exact p.2 f g
def zrx(s:zg)(d:zv)(o:Y6)(H:zd)(I:zA s<=ze)(W:Zi d<=ze)(bq:lenD d*zt d+zt d<=1099511627776)(ho:yR o.sels<=zt d):YR Tryz.prog 153 [.agg (zk s),.agg (z8 d),.agg (cO o)] H .nil 5 (Ul (QM s d o)):=by
 have az:=W;simp only[Zi,ze]at az;have X:zt d<=ze:=xi
 have bh:XZ d.frags<=zt d:=wA
 have bu:=yP d.frags;have aa:=zhx s o;have K:=λl bd H (ap:yR l<=zt d)=>vsG s I (zt d) l bd H ap X;have G:=zaA d o.sels W ho;have bw:=WW d o.sels;have hfr:=λn=>SD d n xi;have a3:=λn=>K4 d n;have Z:=za4 s d I X;have a6:=(RZ s I o.sels (ZS s o) xg).1;have U:QM s d o=WP s o.sels (ZS s o)++(Zl d o.sels).flatMap (Nl s d):=rfl;have ak:∀n,Nl s d n=WP s ((yb d n).getD Vt).sels ((yb d n).getD Vt).on:=λ_=>rfl;have bv:(Zl d o.sels).length*zt d<=lenD d*zt d:=Nat.mul_le_mul_right _ w2;generalize QM s d o=F,ZS s o=ad,Zl d o.sels=R at *
 obtain⟨k,bx,b1,ds,af⟩:=o;simp only at a6 U ho G;generalize ax:WP s af ad=p,bj:zt d=B at *
 have a0:=Yl d;obtain⟨ae,ag,sm⟩:=s;generalize aw:(⟨ae,ag,sm⟩:zg)=s at *
 have a1:zk s=[.o 6 (Vd ae),.str ag,.str sm]:=xM aw
 simp only[a1,a0,Xn]at aa K G hfr ⊢;have L:=zn R;refine Xt ir153 λKP Q av bl=>?_;have fin:∀r o,F=r->∀ρ f,zx ρ f ir153.1.res=some [.sl o 5 (Ul r)]->zQ H .nil f o r.length 5->Q .ret ρ f:=λr o e ρ f aq ar=>av _ ρ f f _ nofun aq (yT.refl _) ⟨o,by rw[e];rfl,by rw[e,zO];exact ar⟩;refine xh aa ?_;refine xa (zu (K af ad _ ho) λo1 f J=>?_);rw[ax]at J ⊢;rw[zO]at J;refine xh G ?_;refine xc L ?_;refine zc R 9 (λx:Own×List ZK=>[(7,.sl x.1 5 (Ul x.2))]) (λg bc x H'=>x.2=p++g.flatMap (Nl s d)/\zQ H .nil H' x.1 x.2.length 5) (o1,p) xb ⟨by simp,J⟩ ?_ ?_
 ·rintro⟨M,a⟩ O ai ⟨h,j⟩ A;simp only at h;subst h;refine xd L A ?_;exact fin _ M U _ _ rfl j
 ·rintro g x bc ⟨M,a⟩ O ai a2 A _ ⟨h,j⟩ au;have a5:=ZM a2;have Y:=hfr x;have a4:=a3 x;have al:=ak x;simp only at h;replace j:zQ H .nil O M a.length 5:=j;have bn:=(Z g).1;have br:g.length*B<=R.length*B:=Nat.mul_le_mul_right _ xg;have z:=(Z [x]).1;simp only[List.flatMap_cons,List.flatMap_nil,List.append_nil,yg,yy,Nat.zero_add,Nat.one_mul]at z;have C:p++(g++[x]).flatMap (Nl s d)=a++Nl s d x:=by rw[List.flatMap_append,h];simp[Uh]
  have bp:a.length=p.length+(g.flatMap (Nl s d)).length:=by rw[h,ZX]
  rw[al]at z C;generalize (yb d x).isSome=bg,(yb d x).getD Vt=am at *
  obtain⟨ao,v,an,y⟩:=am;rw[Ys]at Y;simp only at a4 z C;have a8:=λH=>K y v H xg;generalize WP s y v=aj at *
  refine xm L A a5 Y ?_;refine xa (zb λbf ay=>?_);have a9:=j.upd (x:=.cells [.str ao,.str v,.o 2 (ZE an),.o 7 (Zp y)]) ay;refine xa (zu (a8 _) λbz be a7=>?_);have ac:=Z3 a9 a7;refine xa (zp (by rw[zO];exact ac.own) ?_ ?_ λba ah ab=>?_)
  ·simp only[zO];omega
  ·simp only[zO,maxLen];omega
  simp only[zO]at ab;refine wh ?_;exact zJ (au (ba,a++aj) ah ⟨C.symm,by rw[ZX];exact ac.trans ab⟩) xf
def zgZ(l:List z6)(n:B8)(ad:l.length<=ze):zf 155 [.o 10 (Yg l),.str n] (.agg (cW ((zB l n).getD zW))):=by
 have ae:=ad;simp only[ze]at ae;have v:=yJ l;have J:∀g j,l=g++j->(∀h∈g,h.nm≠n)->zB l n=j.find? (Lf n):=λg j e f=>by rw[zB,e,List.find?_append,List.find?_eq_none.2 (λh hf=>by simp[Lf,f h hf])];rfl
 generalize zB l n=F at *
 refine zo ir155 λKP Q ac=>?_;have fin:∀o,F=o->∀ρ H I,zx ρ H ir155.1.res=some I->(Yz I).strip=.agg (cW (o.getD zW))->Q .ret ρ H:=λo e ρ H I Z aa=>ac Z (by rw[aa,e]);refine xa (zb λX ag=>?_);refine xc v ?_;refine zc l 5 ZY (λg j _ H=>(∀h∈g,h.nm≠n)/\H X=some (.cells [.str [],.str [],.i 0,.i 0,.bool false,.i 0,.i 0,.str [],.sl .nil 5 [],.sl .nil 6 []])) () xb ⟨by simp,upd_same ..⟩ ?_ ?_
 ·rintro _ H W ⟨z,p⟩ y;refine xe v y p ?_;exact fin none (J l [] xw z) _ _ [.agg [.str [],.str [],.i 0,.i 0,.bool false,.i 0,.i 0,.str [],.sl .nil 5 [],.sl .nil 6 []]] xb rfl
 ·rintro g x j _ H W K y _ ⟨z,p⟩ ab;have C:=y6 K;have Y:=J g (x::j) K z;obtain⟨G,⟨M,O,U⟩,f,⟨k,q,s,L,m⟩⟩:=x;rw[zX]at C;by_cases A:G=n
  ·have af:=eq_true A;refine xp v y C p af ?_;exact fin (some ⟨G,⟨M,O,U⟩,f,.mk k q s L m⟩) (by rw[Y];simp[Lf,A]) _ _ [.agg (cW ⟨G,⟨M,O,U⟩,f,.mk k q s L m⟩)] wS rfl
  ·refine xp v y C p A ?_;exact zJ (ab () _ ⟨λh hf=>by
    rcases List.mem_append.1 hf with f|f
    ·exact z h f
    ·simp only[List.mem_singleton]at f;subst f;exact A,p⟩) xf
def TX(vs:List z6)(x:ZK):Bool:=UP ((zB vs x.nm).getD zW) x.t x.has
def zkd(s:zg)(d:zv)(aa:zA s<=ze)(ai:Zi d<=ze)(aj:lenD d*zt d+zt d<=1099511627776):zf 65 [.agg (zk s),.agg (z8 d)] (.bool (d.ops.all λo=>(QM s d o).all (TX o.vars))):=by
 have ak:zt d<=ze:=xi
 have W:=λ(o:Y6) (p:o∈d.ops) H=>zrx s d o H aa ai aj (by have:=U1 p;have:=Uw o;simp only[zt];omega);have an:=λ(o:Y6) (p:o∈d.ops)=>zlD s d o aa ak (by have:=U1 p;have:=Uw o;simp only[zt];omega);have a0:=ZJ d.ops;have az:Ub d.ops<=zt d:=wA
 have ap:=λ(o:Y6) (p:o∈d.ops)=>(show Wx o.vars<=zt d by have aw:=U1 p;have ax:bO o=1+o.nm.length+Wx o.vars+We o.dirs+yR o.sels:=rfl;omega);have y:=ZI d.ops;generalize U:(d.ops.all λo=>(QM s d o).all (TX o.vars))=F;generalize QM s d=V at *
 have al:=Yl d;obtain⟨a7,a8,sm⟩:=s;simp only[zk,al]at W ⊢;refine zo ir65 λKP Q Y=>?_;refine xc y ?_;refine zc d.ops 5 ZY (λO J _ H=>(J.all λo=>(V o).all (TX o.vars))=d.ops.all λo=>(V o).all (TX o.vars)) () xb rfl ?_ ?_
 ·rintro _ H ac h v;refine xd y v ?_;exact Y rfl (by simp[<-U,<-h])
 ·rintro O x J _ H ac A v _ h ag;have C:=Z6 A;have X:=W x (xv A);obtain⟨ay,am⟩:=an x (xv A);have aq:=ap x (xv A);rw[List.all_cons]at h;generalize V x=K at *
  obtain⟨ok,a5,g,a4,os⟩:=x;rw[Xn]at C X;simp only at h aq;have a2:=yr g;have I:=zO K;refine xe y v C (zu (X _) λa3 au a1=>?_);refine xc I ?_;refine zc K 7 ZY (λO J _ H=>J.all (TX g)=K.all (TX g)) () xb rfl ?_ ?_
  ·rintro _ ab ad j G;rw[<-j]at h;refine xd I G ?_;exact zJ (ag () _ (xy h)) xf
  ·rintro av f a6 _ ab ad Z G _ j ah;have M:=zfH Z;have ar:=am f (xv Z);rw[List.all_cons]at j;have L:=zgZ g f.nm xi;have ao:=Sb g f.nm xi;have af:TX g f=UP ((zB g f.nm).getD zW) f.t f.has:=rfl;have z:=ziy ((zB g f.nm).getD zW) f.t f.has ao ar;rw[<-af]at z;generalize TX g f=ae,(zB g f.nm).getD zW=w at *
   obtain⟨br,⟨bl,bn,bp⟩,bq⟩:=f;obtain⟨bg,⟨a9,ba,bc⟩,bd,⟨wk,bh,bj,be,bf⟩⟩:=w;simp only[cP]at M;rw[zX]at L z;simp only[YQ]at z L;refine xH y v C I G M L ?_;refine xH y v C I G M z ?_;cases ae with
   | false =>rw[Bool.false_and]at j;rw[<-j]at h;refine xa ?_;exact Y rfl (by simp[<-U,<-h])
   | true =>rw[Bool.true_and]at j;refine xa ?_;exact zJ (ah () _ j) xf
def NF(g:Zr->Zr->Bool):List Zr->List Zr->Bool
 | _,[]=>true
 | a,x::r=>(a.all λu=>g u x)&&NF g (a++[x]) r
def Sp(g:Zr->Zr->Bool):∀(L a:List Zr),NF g a L=true↔(∀x∈L,∀u∈a,g u x=true)/\L.Pairwise λu A=>g u A=true
 | [],a=>by simp[NF]
 | x::r,a=>by
  simp only[NF,yu,List.pairwise_cons,Yh];rw[Sp g r (a++[x])];constructor
  ·rintro⟨p,v,z⟩;refine⟨λj h y f=>?_,λj h=>v j h x xw,z⟩;rcases List.mem_cons.1 h with rfl|h
   ·exact p y f
   ·exact v j h y (Wf _ f)
  ·rintro⟨p,v,z⟩;refine⟨p x (YS ..),λj h y f=>?_,z⟩;rcases List.mem_append.1 f with f|f
   ·exact p j (YN _ h) y f
   ·simp only[List.mem_singleton]at f;subst f;exact v j h
def W6(s:zg)(d:zv)(x:Zr):List Zr:=VR s d 64 (zz s x.1 x.2) x.2.sels
def zc3(s:zg)(d:zv)(g:Zr->Zr->Bool)(x y:Zr):Bool :=if yW x.2=yW y.2 then Wu s ((zG s x.1 x.2.nm).getD zF).t ((zG s y.1 y.2.nm).getD zF).t&&NF g [] (W6 s d x++W6 s d y)else true
def shR(s:zg)(d:zv):Nat->Zr->Zr->Bool
 | 0=>zc3 s d λ_ _=>true
 | n+1=>zc3 s d (shR s d n)
noncomputable def zbw(s:zg)(d:zv)(g:Zr->Zr->Bool)(x y:Zr):Bool :=if yW x.2=yW y.2 then shR s d 64 x y&&(Rk s x y||((decide (x.2.nm=y.2.nm)&&Y8 (Zj x.2) (Zj y.2))&&NF g [] (W6 s d x++W6 s d y)))else true
noncomputable def tgR(s:zg)(d:zv):Nat->Zr->Zr->Bool
 | 0=>zbw s d λ_ _=>true
 | n+1=>zbw s d (tgR s d n)
noncomputable def Lr(s:zg)(d:zv)(h:B8->List zj->Bool)(typ:B8)(l:List zj):Bool:=NF (tgR s d 64) [] (VR s d 64 typ l)&&l.all λx=>h (zz s typ x) x.sels
noncomputable def KN(s:zg)(d:zv):Nat->B8->List zj->Bool
 | 0=>Lr s d λ_ _=>true
 | n+1=>Lr s d (KN s d n)
noncomputable def Uu(s:zg)(d:zv):Bool:=(d.ops.all λo=>KN s d 64 (ZS s o) o.sels)&&d.frags.all λf=>KN s d 64 f.on f.sels
section
variable {s:zg} {d:zv}
def zaw(n:Nat){x y:Zr}(h:yW x.2≠yW y.2):shR s d n x y=true:=by cases n<;>simp[shR,zc3,h]
def M8(n:Nat){x y:Zr}(h:yW x.2≠yW y.2):tgR s d n x y=true:=by cases n<;>simp[tgR,zbw,h]
def KR{n:Nat}{x y:Zr}(f:yW x.2=yW y.2):shR s d (n+1) x y=true↔Wu s ((zG s x.1 x.2.nm).getD zF).t ((zG s y.1 y.2.nm).getD zF).t=true/\(W6 s d x++W6 s d y).Pairwise λu g=>shR s d n u g=true:=by rw[shR,zc3,if_pos f,yu,Sp];simp
def znO{x y:Zr}(f:yW x.2=yW y.2):shR s d 0 x y=true↔Wu s ((zG s x.1 x.2.nm).getD zF).t ((zG s y.1 y.2.nm).getD zF).t=true:=by rw[shR,zc3,if_pos f,yu,Sp];simp;exact λ_=>VU λ_ _ _ _=>trivial
def NA{n:Nat}{x y:Zr}(f:yW x.2=yW y.2):tgR s d (n+1) x y=true↔shR s d 64 x y=true/\(Rk s x y=true∨((decide (x.2.nm=y.2.nm)=true/\Y8 (Zj x.2) (Zj y.2)=true)/\(W6 s d x++W6 s d y).Pairwise λu g=>tgR s d n u g=true)):=by rw[tgR,zbw,if_pos f,yu,Uz,yu,yu,Sp];simp
def zn0{x y:Zr}(f:yW x.2=yW y.2):tgR s d 0 x y=true↔shR s d 64 x y=true/\(Rk s x y=true∨(decide (x.2.nm=y.2.nm)=true/\Y8 (Zj x.2) (Zj y.2)=true)):=by have g:(W6 s d x++W6 s d y).Pairwise λ_ _=>True:=VU λ_ _ _ _=>trivial;rw[tgR,zbw,if_pos f,yu,Uz,yu,yu,Sp];simp[g]
def NN{m:Nat}{l:List zj}(h:Sz d m l):∀x∈l,∃g,g<m/\Sz d g x.sels:=by
 induction h with
 | nil=>intro x f;cases f
 | @cons m i g e k al nm args dirs on sels r hle h1 h2 h3 i1 i2 i3 =>
  intro x f;rcases List.mem_cons.1 f with rfl|f
  ·exact⟨i,by omega,h1⟩
  ·obtain⟨a,p,j⟩:=i3 x f;exact⟨a,by omega,j⟩
def OA{p:B8->zj->Bool}{typ:B8}:∀ {l:List zj} {x:zj},XC s p typ l=true->x∈l->zac s p typ x=true
 | y::r,x,h,f=>by
  simp only[XC,yu]at h;rcases List.mem_cons.1 f with rfl|f
  ·exact h.1
  ·exact OA h.2 f
def WO{m:Nat}(f:m<=64){x:Zr}(h:Sz d m x.2.sels)(v:Zr):v∈W6 s d x↔v∈Lu s d x:=(UD h f _ v).symm
section
variable (hf:∀f∈d.frags,OkQ s f.on f.sels) (hfr:∀f∈d.frags,Nn s d 64 f.on f.sels=true) (hty:∀typ nm f,zG s typ nm=some f->Z0 s f.t.nm=true∨y9 s f.t.nm=true)
include hf hfr hty
def zfo{m:Nat}(g:m<=64){x:Zr}(h:Told s d m x):∀u∈Lu s d x,∀f∈Lu s d x,yW u.2=yW f.2->Te s d 64 u f=true:=by obtain⟨C,A,p⟩:=h.ls;exact QL hf hfr g (XG hf hfr g h) (λf v=>by obtain⟨y,z,j⟩:=XG hf hfr g h f v;exact(ze1 hf hfr hty y f xg j 64 (ZG _)).2) (Ou p)
def znQ:∀(n N m A:Nat) (x y:Zr),n<=N->N<=64->m<=64->A<=64->Told s d m x->Told s d A y->ST s d N x y=true->shR s d n x y=true:=by
 intro n;induction n with
 | zero =>
  intro N m A x y _ _ _ _ _ _ v;by_cases g:yW x.2=yW y.2
  case neg=>exact zaw _ g
  rw[znO g];cases N<;>(rw[ST,Qi,yu]at v;exact v.1)
 | succ n O =>
  intro N m A x y Y X h J K L v;obtain⟨N,rfl⟩:∃i,N=i+1:=⟨N-1,by omega⟩;rw[ST,Qi,yu,ZW]at v;by_cases g:yW x.2=yW y.2
  case neg=>exact zaw _ g
  have M:∀ {m C},m<=64->Told s d m C->∀u∈W6 s d C,∀f∈W6 s d C,shR s d n u f=true:=fun {m C} h z u j f p=>by
   by_cases g:yW u.2=yW f.2
   case neg=>exact zaw _ g
   have j:=(WO h z.sz u).1 j;have p:=(WO h z.sz f).1 p;obtain⟨a,U,G⟩:=XG hf hfr h z u j;obtain⟨b,W,I⟩:=XG hf hfr h z f p;exact O 64 a b u f xg (ZG _) xg xg G I (zaz (zfo hf hfr hty h z u j f p g))
  refine(KR g).2 ⟨v.1,List.pairwise_append.2 ⟨VU (M h K),VU (M J L),λu j f p=>?_⟩⟩;by_cases g:yW u.2=yW f.2
  case neg=>exact zaw _ g
  have j:=(WO h K.sz u).1 j;have p:=(WO J L.sz f).1 p;obtain⟨a,U,G⟩:=XG hf hfr h K u j;obtain⟨b,W,I⟩:=XG hf hfr J L f p;exact O N a b u f xg xg xg xg G I (v.2 u j f p g)
def zrC:∀(n N m I:Nat) (x y:Zr),n<=N->N<=64->m<=64->I<=64->Told s d m x->Told s d I y->Te s d N x y=true->tgR s d n x y=true:=by
 intro n;induction n with
 | zero =>
  intro N m I x y _ _ g A C G j;by_cases h:yW x.2=yW y.2
  case neg=>exact M8 _ h
  have z:=znQ hf hfr hty 64 64 m I x y (ZG _) (ZG _) g A C G (zaz j);rw[zn0 h];cases N<;>(rw[Te,Ra,yu,Uz,yu,yu]at j;exact⟨z,j.2.imp id (·.1)⟩)
 | succ n O =>
  intro N m I x y Y X g A C G j;obtain⟨N,rfl⟩:∃i,N=i+1:=⟨N-1,by omega⟩;by_cases h:yW x.2=yW y.2
  case neg=>exact M8 _ h
  have z:=znQ hf hfr hty 64 64 m I x y (ZG _) (ZG _) g A C G (zaz j);rw[Te,Ra,yu,Uz,yu,yu,ZW]at j;have M:∀ {m K},m<=64->Told s d m K->∀u∈W6 s d K,∀f∈W6 s d K,tgR s d n u f=true:=fun {m K} g J u p f v=>by
   by_cases h:yW u.2=yW f.2
   case neg=>exact M8 _ h
   have p:=(WO g J.sz u).1 p;have v:=(WO g J.sz f).1 v;obtain⟨a,U,L⟩:=XG hf hfr g J u p;obtain⟨b,W,z⟩:=XG hf hfr g J f v;exact O 64 a b u f xg (ZG _) xg xg L z (zfo hf hfr hty g J u p f v h)
  refine(NA h).2 ⟨z,j.2.imp id λj=>⟨j.1,List.pairwise_append.2 ⟨VU (M g C),VU (M A G),λu p f v=>?_⟩⟩⟩;by_cases h:yW u.2=yW f.2
  case neg=>exact M8 _ h
  have p:=(WO g C.sz u).1 p;have v:=(WO A G.sz f).1 v;obtain⟨a,U,L⟩:=XG hf hfr g C u p;obtain⟨b,W,z⟩:=XG hf hfr A G f v;exact O N a b u f xg xg xg xg L z (j.2 u p f v h)
def zn1:∀(n k m:Nat) (typ:B8) (l:List zj),OkQ s typ l->Sz d m l->m<=64->m<=k->Nn s d k typ l=true->KN s d n typ l=true:=by
 have M:∀(k m:Nat) (typ:B8) (l:List zj),OkQ s typ l->Sz d m l->m<=64->m<=k->Nn s d k typ l=true->NF (tgR s d 64) [] (VR s d 64 typ l)=true:=by
  intro k m typ l v g h y p;have G:∀f∈VR s d 64 typ l,∃z,z<m/\Told s d z f:=λf j=>by obtain⟨z,C,A,O⟩:=zeK hfr g h typ (Ro g y p) f j;exact⟨z,C,zab hf 64 typ l v f j,A,O⟩
  have W:=QL hf hfr h (L:=(SS s d 64 typ l []).1) (λf j=>G f ((UD g h typ f).1 j)) (λf j=>by obtain⟨z,C,A⟩:=G f ((UD g h typ f).1 j);exact(ze1 hf hfr hty z f xg A 64 (ZG _)).2) (Ou p);refine(Sp ..).2 ⟨by simp,VU λu K f j=>?_⟩;by_cases J:yW u.2=yW f.2
  case neg=>exact M8 _ J
  obtain⟨a,ab,C⟩:=G u K;obtain⟨b,ac,A⟩:=G f j;exact zrC hf hfr hty 64 64 a b u f (ZG _) (ZG _) xg xg C A (W u ((UD g h typ u).2 K) f ((UD g h typ f).2 j) J)
 intro n;induction n with
 | zero =>intro k m typ l v g h y p;rw[KN,Lr,yu];exact⟨M k m typ l v g h y p,by simp⟩
 | succ n Y =>intro k m typ l v g h y p;rw[KN,Lr,yu,Yh];refine⟨M k m typ l v g h y p,λx I=>?_⟩;obtain⟨aa,ae,U⟩:=Ro g y p x I;obtain⟨Z,ad,X⟩:=NN g x I;exact Y aa Z _ _ ⟨(VZ (OA v.on I)).2,(VZ (OA v.th I)).2⟩ X xg xg U
end
def Uk{N:Nat}{m:Nat}{l:List zj}(C:Sz d m l):m<=N->∀v,∀h∈VR s d N v l,∃g,g<m/\Sz d g h.2.sels:=by
 induction C with
 | nil=>intro _ v h f;rw[WN]at f;cases f
 | @cons m i j e k al nm args dirs on sels r hle h1 h2 h3 i1 i2 i3 =>
  intro A v h f;rw[T5 (.cons hle h1 h2 h3) A,List.mem_append]at f;rcases f with f|f
  ·simp only[TA]at f;split at f
   ·simp only[List.mem_singleton]at f;subst f;exact⟨i,by omega,h1⟩
   split at f
   ·obtain⟨g,y,p⟩:=i1 xg _ h f;exact⟨g,by omega,p⟩
   split at f
   ·rename_i z;obtain⟨g,y,p⟩:=i2 z xg _ h f;exact⟨g,by omega,p⟩
   ·cases f
  ·obtain⟨g,y,p⟩:=i3 xg v h f;exact⟨g,by omega,p⟩
def zaS:∀(n:Nat) (typ:B8) (l:List zj) (seen:B9),(SS s d n typ l seen).1.Sublist (VR s d n typ l)
 | 0,_,_,_=>by simp[SS]
 | n+1,typ,l,seen=>by
  have z:∀(l:List zj) (f:List Zr×B9),∃t,(l.foldl (YK s d (SS s d n) typ) f).1=f.1++t/\t.Sublist (l.flatMap (TA s d (VR s d n) typ)):=by
   intro l;induction l with
   | nil=>intro f;exact⟨[],by simp,by simp⟩
   | cons x r y =>
    intro f;have v:∃t,(YK s d (SS s d n) typ f x).1=f.1++t/\t.Sublist (TA s d (VR s d n) typ x):=by
     obtain⟨k,C,K,G,I,L,M⟩:=x;simp only[YK,TA];split
     ·exact⟨_,rfl,List.Sublist.refl _⟩
     split
     ·exact⟨_,rfl,zaS n _ _ _⟩
     rename_i J h;split
     ·rename_i g;rw[if_pos g.1];exact⟨_,rfl,zaS n _ _ _⟩
     ·exact⟨[],by simp,by simp⟩
    obtain⟨t,g,h⟩:=v;obtain⟨A,j,p⟩:=y (YK s d (SS s d n) typ f x);refine⟨t++A,?_,?_⟩
    ·rw[List.foldl_cons,j,g,Uh]
    ·rw[List.flatMap_cons];exact h.append p
  obtain⟨t,g,h⟩:=z l ([],seen);simp only[SS,g,TB,VR];exact h
def znz:∀(n N m p:Nat) (x y:Zr),n<=N->m<=64->p<=64->Sz d m x.2.sels->Sz d p y.2.sels->yW x.2=yW y.2->shR s d N x y=true->ST s d n x y=true:=by
 intro n;induction n with
 | zero =>
  intro N m p x y _ _ _ _ _ g f;rw[ST,Qi,yu];refine⟨?_,(ZW ..).2 λ_ _ _ _ _=>rfl⟩;cases N with
  | zero=>exact(znO g).1 f
  | succ N=>exact((KR g).1 f).1
 | succ n O =>intro N m p x y X z A C G g f;obtain⟨N,rfl⟩:∃i,N=i+1:=⟨N-1,by omega⟩;obtain⟨K,L⟩:=(KR g).1 f;rw[ST,Qi,yu];refine⟨K,(ZW ..).2 λu h v j M=>?_⟩;have h:=(WO z C u).2 h;have j:=(WO A G v).2 j;obtain⟨a,U,I⟩:=Uk C z _ u h;obtain⟨b,W,J⟩:=Uk G A _ v j;exact O N a b u v xg xg xg I J M ((List.pairwise_append.1 L).2.2 u h v j)
def zrf:∀(n N m j:Nat) (x y:Zr),n<=N->m<=64->j<=64->Sz d m x.2.sels->Sz d j y.2.sels->yW x.2=yW y.2->tgR s d N x y=true->Te s d n x y=true:=by
 intro n;induction n with
 | zero =>
  intro N m j x y _ p v z A h f;rw[Te,Ra,yu,Uz,yu,yu];have g:shR s d 64 x y=true/\(Rk s x y=true∨(decide (x.2.nm=y.2.nm)=true/\Y8 (Zj x.2) (Zj y.2)=true)):=by
   cases N with
   | zero=>exact(zn0 h).1 f
   | succ N=>exact⟨((NA h).1 f).1,((NA h).1 f).2.imp id (·.1)⟩
  exact⟨znz 64 64 m j x y (ZG _) p v z A h g.1,g.2.imp id λf=>⟨f,(ZW ..).2 λ_ _ _ _ _=>rfl⟩⟩
 | succ n O =>intro N m j x y X p v z A h f;obtain⟨N,rfl⟩:∃i,N=i+1:=⟨N-1,by omega⟩;obtain⟨L,g⟩:=(NA h).1 f;rw[Te,Ra,yu,Uz,yu,yu];refine⟨znz 64 64 m j x y (ZG _) p v z A h L,g.imp id λg=>⟨g.1,(ZW ..).2 λu C I G M=>?_⟩⟩;have C:=(WO p z u).2 C;have G:=(WO v A I).2 G;obtain⟨a,U,J⟩:=Uk z p _ u C;obtain⟨b,W,K⟩:=Uk A v _ I G;exact O N a b u I xg xg xg J K M ((List.pairwise_append.1 g.2).2.2 u C I G)
def znR:∀(n m:Nat) (typ:B8) (l:List zj),Sz d m l->m<=64->KN s d n typ l=true->Nn s d n typ l=true:=by
 have z:∀(m:Nat) (typ:B8) (l:List zj),Sz d m l->m<=64->NF (tgR s d 64) [] (VR s d 64 typ l)=true->VA (Te s d 64) [] (SS s d 64 typ l []).1=true:=by intro m typ l g h f;refine(QG ..).2 ⟨by simp,?_⟩;refine List.Pairwise.imp_of_mem (fun {u v} j p f G=>?_) (((Sp ..).1 f).2.sublist (zaS 64 typ l []));have j:=(UD g h typ u).1 j;have p:=(UD g h typ v).1 p;obtain⟨a,L,A⟩:=Uk g h _ u j;obtain⟨b,M,C⟩:=Uk g h _ v p;exact zrf 64 64 a b u v (ZG _) xg xg A C G.symm f
 intro n;induction n with
 | zero =>intro m typ l g h f;rw[KN,Lr,yu]at f;rw[zcX,Rw];exact⟨z m typ l g h f.1,λ_ _=>rfl⟩
 | succ n J =>intro m typ l g h f;rw[KN,Lr,yu,Yh]at f;rw[MB,Rw];refine⟨z m typ l g h f.1,λx y=>?_⟩;obtain⟨K,O,I⟩:=NN g x y;exact J K _ _ I xg (f.2 x y)
def zhe(h:∀x∈yQ d,Sz d 40 x)(y:zt d<=ze)(A:(d.frags.map (·.nm)).Nodup)(z:Vv d=false)(hf:∀f∈d.frags,OkQ s f.on f.sels)(ho:∀o∈d.ops,OkQ s (ZS s o) o.sels)(hty:∀G C f,zG s G C=some f->Z0 s f.t.nm=true∨y9 s f.t.nm=true):mgM s d=Uu s d:=by
 have p:∀f∈d.frags,Sz d 40 f.sels:=λf hf=>h _ (by refine wF ?_;exact .inr ⟨f,hf,rfl⟩);have v:∀o∈d.ops,Sz d 40 o.sels:=λo ho=>h _ (by refine wF ?_;exact .inl ⟨o,ho,rfl⟩);rw[Bool.eq_iff_iff,zmk h y A,Uu,yu,Yh,Yh];constructor
 ·rintro⟨_,hfr,j⟩;exact⟨λo g=>zn1 hf hfr hty 64 64 40 _ _ (ho o g) (v o g) xg xg (j o g),λf g=>zn1 hf hfr hty 64 64 40 _ _ (hf f g) (p f g) xg xg (hfr f g)⟩
 ·rintro⟨j,hfr⟩;exact⟨z,λf g=>znR 64 40 _ _ (p f g) xg (hfr f g),λo g=>znR 64 40 _ _ (v o g) xg (j o g)⟩
end
def Km(s:zg)(f:List z6):yU->Bool| .mk n v=>Zs s ((zB f n).getD zW).t v
def VT(s:zg)(f:List z6)(l:List yU):Bool:=l.all (Km s f)
def zpy(s:zg)(f:List z6)(l:List yU)(af:zA s<=ze)(y:Wx f<=ze)(ac:ZC l<=ze):zf 152 [.agg (zk s),.o 10 (Yg f),.o 6 (Ya l)] (.bool (VT s f l)):=by
 have am:=y5 l;have j:=yI l;have ak:=yr f;have ad:=ac;simp only[ze]at ad;have ae:=λn=>QY f n xg;have I:=λn x (g:yU.mk n x∈l)=>zaE s ((zB f n).getD zW).t x af (by have:=X9 g;omega) (Sb f n y);have A:VT s f l=l.all (Km s f):=rfl;have Z:∀n K,Km s f (.mk n K)=Zs s ((zB f n).getD zW).t K:=λ_ _=>rfl;generalize VT s f l=F,Km s f=P,Zs s=au at *
 obtain⟨av,aw,sm⟩:=s;simp only[zk]at I ⊢;refine zo ir152 λKP Q C=>?_;refine xc j ?_;refine zc l 7 ZY (λY J _ H=>J.all P=l.all P) () xb rfl ?_ ?_
 ·rintro _ H X g p;refine xd j p ?_;exact C rfl (x9 A g)
 ·rintro Y x J _ H X G p _ g ab;have z:=yZ G;have ag:x∈l:=xv G
  rw[List.all_cons]at g;obtain⟨h,⟨L,U,W,M,O⟩⟩:=x;have y:=ae h;have v:=I h _ ag;have aa:=Z h (.mk L U W M O);rw[zy,zC]at z;rw[zC]at v;generalize P (.mk h (.mk L U W M O))=ai,(zB f h).isSome=ok,(zB f h).getD zW=ah at *
  obtain⟨ar,⟨an,ao,ap⟩,aq,⟨ax,a0,a1,ay,az⟩⟩:=ah;rw[zX]at y;rw[<-aa]at v;simp only[YQ]at v;refine xm j p z y ?_;refine xa (zb λaj al=>?_);refine xm j p z v ?_;cases ai with
  | false =>rw[Bool.false_and]at g;refine xa ?_;exact C rfl (x9 A g)
  | true =>rw[Bool.true_and]at g;refine xa ?_;exact zJ (ab () _ g) xf
def Oy(s:zg)(v:z6):Bool:=!v.has||Zs s v.t v.d
def RV(s:zg)(d:zv):Bool:=(d.ops.all λo=>o.vars.all (Oy s))&&(Zf s d).all λt=>Xj s (VT s) t.1 t.2
def ziS(s:zg)(d:zv)(ad:zA s<=ze)(bl:zt d<=274877906944):zf 64 [.agg (zk s),.agg (z8 d)] (.bool (RV s d)):=by
 have a5:=Oe s d ad bl;have cg:=VG s d;have bj:=R1 s d;have a2:=λt=>zaO s t ad;have bh:=λY X=>VC s Y X;have bc:=U6 s (VT s);have ar:=λbz m K aa=>zpy s bz m ad K aa;have cn:=ZJ d.ops;have cm:Ub d.ops<=zt d:=wA
 have bq:=λ(o:Y6) (h:o∈d.ops)=>(show Wx o.vars<=zt d by have K:=U1 h;have az:bO o=1+o.nm.length+Wx o.vars+We o.dirs+yR o.sels:=rfl;omega);have a3:=λ(G:z6) (h:bW G<=ze)=>zaE s G.t G.d ad (by simp only[bW]at h;omega) (by simp only[bW]at h;omega);have ae:=ZI d.ops;have bd:∀G,Oy s G=(!G.has||Zs s G.t G.d):=λ_=>rfl;have M:RV s d=((d.ops.all λo=>o.vars.all (Oy s))&&(Zf s d).all λt=>Xj s (VT s) t.1 t.2):=rfl;generalize RV s d=F at *
 generalize Xj s (VT s)=J at *
 generalize VT s=I at *
 generalize zG s=be at *
 generalize Zf s d=ag at *
 generalize Oy s=am at *
 generalize Zs s=b3 at *
 have bn:=Yl d;have co:zA s<=1099511627776:=by simpa only[ze]using ad
 have v:=yS ag;obtain⟨cr,ct,sm⟩:=s;simp only[zk,bn]at a5 a2 ar a3 ⊢;refine zo ir64 λKP Q al=>?_;refine xc ae ?_;refine zc d.ops 5 ZY (λZ z _ H=>(z.all λo=>o.vars.all am)=d.ops.all λo=>o.vars.all am) () xb rfl ?_ ?_
 ·rintro _ H ao bu f;rw[<-bu]at M;simp only[List.all_nil,Bool.true_and]at M;refine xn ae f a5 ?_;refine xc v ?_;refine zc ag 9 ZY (λZ z _ H=>(z.all λt=>J t.1 t.2)=ag.all λt=>J t.1 t.2) () xb rfl ?_ ?_
  ·rintro _ H ao p f;refine xd v f ?_;exact al rfl (x9 M p)
  ·rintro Z x z _ H ao ab f _ p av;have j:=WE ab;have bv:=bj x (xv ab);have ak:=a2 x;have O:=bc x;rw[List.all_cons]at p;have bad:J x.1 x.2=false->F=false:=λh=>by rw[M,<-p,h];rfl
   have good:J x.1 x.2=true->(z.all λt=>J t.1 t.2)=ag.all λt=>J t.1 t.2:=λh=>by rw[<-p,h,Bool.true_and]
   obtain⟨Y,⟨k,ax,X,L,A,aw,a7⟩⟩:=x;have ce:=bh Y X;have bx:=Xv Y k ax X L A aw a7;rw[bx]at j ak;simp only[bS]at bv;simp only[zj.k,zj.nm,Zj,XE]at O ak bad good;have ld:=YB A;have ci:=Y3 A;generalize cj:J Y (.mk k ax X L A aw a7)=bf at *
   generalize ((be Y X).getD zF).ps=ah at *
   have ai:=ar ah L xi xi;have bp:(k=0/\I ah L=false)∨(k=0/\I ah L=true)∨¬ k=0:=by
    by_cases h:k=0
    ·cases aa:I ah L
     ·exact .inl ⟨h,rfl⟩
     ·exact .inr (.inl ⟨h,rfl⟩)
    ·exact .inr (.inr h)
   rcases bp with ⟨U,K⟩|aa
   ·have aq:=eq_true U;have au:=bad (by rw[O,K,U];rfl);rw[K]at ai;refine xE v f j aq ak ?_;refine xm v f j ai ?_;exact vn al au
   have ay:bf=A.all λd=>I (yc d) d.args:=by
    rw[O];rcases aa with ⟨h,az⟩|h
    ·rw[az];simp
    ·simp[h]
   rcases aa with ⟨U,K⟩|U
   case' inl =>have aq:=eq_true U;rw[K]at ai;refine xE v f j aq ak ?_;refine xm v f j ai ?_;simp(disch:=first|omega|assumption) only[v,f,j,ld,go_sem]
   case' inr =>simp(disch:=first|omega|assumption) only[v,f,j,U,ld,go_sem]
   all_goals
    refine zc A 10 ZY (λZ z _ H=>(z.all λd=>I (yc d) d.args)=A.all λd=>I (yc d) d.args) () xb rfl ?_ ?_
    ·rintro _ an ap g C;have bg:=good (wK ay g);refine xp v f j ld C ?_;exact zJ (av () _ bg) xf
    ·rintro ba y b2 _ an ap ac C _ g aj;have W:=Y0 ac;have a1:=QT y;have bw:=@za6 y A (xv ac);have a0:=ar (yc y) y.args (by have:=Tv y;refine xl ?_;omega) xi;rw[List.all_cons]at g;obtain⟨a9,a8⟩:=y;rw[T2]at W a1;simp only at a0 g;refine xH v f j ld C W a1 ?_;refine xH v f j ld C W a0 ?_;cases a6:I (yc ⟨a9,a8⟩) a8 with
     | false =>rw[a6,Bool.false_and]at g;have au:=bad (by rw[ay,<-g]);exact vn al au
     | true =>rw[a6,Bool.true_and]at g;refine xa ?_;exact zJ (aj () _ g) xf
 ·rintro Z x z _ H ao ab f _ p av;have j:=Z6 ab;have br:=bq x (xv ab);rw[List.all_cons]at p;obtain⟨ok,aw,af,cq,os⟩:=x;rw[Xn]at j;simp only at p br;have cp:=yr af;have lv:=yJ af;refine xe ae f j ?_;refine zc af 6 ZY (λZ z _ H=>z.all am=af.all am) () xb rfl ?_ ?_
  ·rintro _ an ap g C;rw[<-g]at p;refine xp ae f j lv C ?_;exact zJ (av () _ (xy p)) xf
  ·rintro ba y b2 _ an ap ac C _ g aj;have W:=y6 ac;have bw:=@YW y af (xv ac);have a4:=a3 y xi;have O:=bd y;rw[List.all_cons]at g;obtain⟨a9,⟨b4,b5,b6⟩,b7,⟨b8,cb,cc,b9,ca⟩⟩:=y;rw[zX]at W;simp only[YQ,zC]at a4 O;generalize b3 ⟨b4,b5,b6⟩ (.mk b8 cb cc b9 ca)=b1 at *
   rw[O]at g;refine xu ae f j lv C W ?_;refine zb λcd ch=>?_;cases b7 with
   | false =>refine xa ?_;exact zJ (aj () _ (xy g)) xf
   | true =>
   refine xh a4 ?_;cases b1 with
   | false =>simp only[Bool.not_true,Bool.or_self,Bool.false_and]at g;rw[<-g]at p;rw[<-p]at M;exact vn al M
   | true =>refine xa ?_;exact zJ (aj () _ (xy g)) xf
def zmn(x:zj):zf 369 [.agg (cS x)] (.str (yW x)):=by
 obtain⟨k,p,A,y,z,C,G⟩:=x;rw[Zt];refine zo ir369 λKP Q h=>?_;by_cases f:k=0
 ·have j:=eq_true f;by_cases g:p=[]
  ·have v:=eq_true g;refine xd j v ?_;exact h rfl (by simp[yW,f,g])
  ·refine xd j g ?_;exact h rfl (by simp[yW,f,g])
 ·refine xc f ?_;exact h rfl (by simp[yW,f])
def ze6(n:B8):∀l:List yU,bV (Y2 n l).1<=ZC l+1
 | []=>by simp[Y2,zV,bV,Wg,ZC]
 | .mk x v::r=>by
  have:=ze6 n r;simp only[Y2,ZC,bM];split
  ·simp only;omega
  ·omega
def zre(a b:List yU)(ac:ZC a<=ze)(ae:ZC b+1<=ze):zf 371 [.o 6 (Ya a),.o 6 (Ya b)] (.bool (Y8 a b)):=by
 have j:=yI a;have L:=yI b;have ap:=y5 a;have aq:=y5 b;have ad:=ac;have af:=ae;simp only[ze]at ad af;have h:Y8 a b=(a.all (Lv b)&&decide (a.length=b.length)):=rfl;have Y:∀m,Lv b m=((Y2 (mN m) b).2&&Th (vM m) (Y2 (mN m) b).1):=λ_=>rfl;generalize Y8 a b=F at *
 generalize Lv b=P at *
 refine zo ir371 λKP Q p=>?_;by_cases O:a.length=b.length
 case neg =>
  have C:¬ ((a.length:Int)=b.length):=xg
  refine xe j L C ?_;exact xz p h O
 have C:((a.length:Int)=b.length)=True:=eq_true xg;rw[decide_eq_true O,Bool.and_true]at h;refine xe j L C ?_;refine zc a 5 ZY (λX U _ H=>U.all P=a.all P) () xb rfl ?_ ?_
 ·rintro _ H W f v;refine xd j v ?_;exact p rfl (x9 h f)
 ·rintro X x U _ H W ag v _ f ab;have A:=yZ ag;rw[List.all_cons]at f;have g:=Y x;obtain⟨n,⟨y,J,K,G,I⟩⟩:=x;rw[zy,zC]at A;simp only[mN,vM]at g;have M:=zqh n b xi;have ao:=ze6 n b;have z:=zce (Y2 n b).1 xg (.mk y J K G I);rw[zhC,zC y]at z;generalize Th (.mk y J K G I) (Y2 n b).1=Z at *
  generalize P (.mk n (.mk y J K G I))=ar at *
  generalize (Y2 n b).2=ok at *
  generalize (Y2 n b).1=aa at *
  obtain⟨ai,al,am,aj,ak⟩:=aa;rw[zC]at M z;refine xm j v A M ?_;refine xa ?_;refine zb λah an=>?_;cases ok with
  | false =>rw[Bool.false_and]at g;rw[g,Bool.false_and]at f;refine xa ?_;exact p rfl (x9 h f)
  | true =>
  rw[Bool.true_and]at g;refine xm j v A z ?_;cases Z with
  | false =>rw[g,Bool.false_and]at f;refine xa ?_;exact p rfl (x9 h f)
  | true =>rw[g,Bool.true_and]at f;refine xa ?_;exact zJ (ab () _ f) xf
def zrY(s:zg)(a b:X4)(j:s.defs.length<=ze):zf 387 [.agg (zk s),.agg (YQ a),.agg (YQ b)] (.bool (Wu s a b)):=by
 have y:=zb9 s a.nm j;have z:=zb9 s b.nm j;have A:=LZ s a.nm j;have C:=LZ s b.nm j;have f:Wu s a b=(decide (a.lists=b.lists)&&decide (a.musts=b.musts)&&(if Z0 s a.nm||Z0 s b.nm then decide (a.nm=b.nm)else y9 s a.nm&&y9 s b.nm)):=rfl;generalize Wu s a b=F,Z0 s a.nm=L,Z0 s b.nm=M,y9 s a.nm=O,y9 s b.nm=aa at *
 obtain⟨W,G,I⟩:=a;obtain⟨X,J,K⟩:=b;obtain⟨Y,Z,sm⟩:=s;simp only[zk,YQ]at y z A C f ⊢;refine zo ir387 λKP Q g=>?_;by_cases h:G=J
 case neg =>refine xc h ?_;exact xz g f h
 by_cases p:I=K
 case neg =>have v:=eq_true h;exact vp v p g f p
 have v:=eq_true h;have U:=eq_true p;simp only[h,p,decide_true,Bool.true_and]at f;refine xn v U y ?_;cases L with
 | true =>exact vn g f
 | false =>
 refine xh z ?_;cases M with
 | true =>exact vn g f
 | false =>
 refine xh A ?_;cases O with
 | false =>exact vn g f
 | true =>
 refine xh C ?_;exact vn g f
section
variable {s:zg} {d:zv}
def zfY{m:Nat}{l:List zj}(h:Sz d m l):∀x∈l,x.k=1->∃g,g<m/\Sz d g (Uo d x.nm):=by
 induction h with
 | nil=>intro x f;cases f
 | @cons m i g e k al nm args dirs on sels r hle h1 h2 h3 i1 i2 i3 =>
  intro x f j;rcases List.mem_cons.1 f with rfl|f
  ·exact⟨g,by omega,h2 j⟩
  ·obtain⟨a,v,p⟩:=i3 x f j;exact⟨a,by omega,p⟩
def zcV{m N:Nat}:∀ {l:List zj},Sz d m l->m<=N->∀f,VR s d N f l=l.flatMap (TA s d (VR s d N) f)
 | [],_,_,f=>by rw[WN];rfl
 | x::r,h,hm,f=>by
  have j:Sz d m r:=by
   cases h with
   | cons y p v g=>exact g.mono xg
  rw[T5 h hm,List.flatMap_cons,zcV j hm]
def Wq{N m:Nat}{l:List zj}(h:Sz d m l):m<=N->∀f,(VR s d N f l).length<=m:=by
 induction h with
 | nil=>intro _ f;rw[WN];simp
 | @cons m i j e k al nm args dirs on sels r hle h1 h2 h3 i1 i2 i3 =>
  intro p f;rw[T5 (.cons hle h1 h2 h3) p,ZX];have v:=i3 xg f;have y:(TA s d (VR s d N) f (.mk k al nm args dirs on sels)).length<=i+j+1:=by
   simp only[TA];split
   ·simp
   split
   ·have:=i1 xg (zz s f (.mk k al nm args dirs on sels));omega
   split
   ·rename_i g;have:=i2 g xg (Rc d nm);omega
   ·simp
  omega
def KW(bu:zA s<=ze)(bj:d.frags.length<=ze):∀(m:Nat) (l:List zj) (typ:B8) (H:zd),Sz d m l->m<=64->YR Tryz.prog 279 [.agg (zk s),.agg (z8 d),.str typ,.o 7 (Zp l)] H .nil 8 (WI (VR s d 64 typ l)):=by
 intro m;induction m using Nat.strongRecOn with
 | _ m ah =>
 intro l typ H J au;have b7:=zpr J;have v:=Z7 l;have aw:=λx=>Qc s typ x bu;have ap:=λn=>SD d n bj;have hlen:=Wq (s:=s) J au typ;have bq:=NN J;have bw:=zfY J;have Z:=zcV (s:=s) J au typ;have a8:∀x,TA s d (VR s d 64) typ x=if x.k=0 then [(typ,x)]else if x.k=2 then VR s d 64 (zz s typ x) x.sels else if x.k=1 then VR s d 64 (Rc d x.nm) (Uo d x.nm)else []:=λx=>by obtain⟨k,al,ai,am,an,a0,b9⟩:=x;rfl
 have aq:=λ(A:Nat) (ad:A<m) (l:List zj) (aa:Sz d A l) typ=>Wq (s:=s) aa (show A<=64 by omega) typ;have br:=λ(a b:List zj) (aa:l=a++b)=>(show (a.flatMap (TA s d (VR s d 64) typ)).length<=(VR s d 64 typ l).length by rw[Z,aa,List.flatMap_append,ZX];omega);generalize VR s d 64=ak at *
 generalize b5:ak typ l=a3,TA s d ak typ=O,zz s typ=a6 at *
 have bn:=Yl d;have bp:=UN s;simp only[bp,bn]at aw ap ah ⊢;refine Xt ir279 λKP Q bf b6=>?_;have fin:∀r o,a3=r->∀ρ g,zx ρ g ir279.1.res=some [.sl o 8 (WI r)]->zQ H .nil g o r.length 8->Q .ret ρ g:=λr o e ρ g bd be=>bf _ ρ g g _ nofun bd (yT.refl _) ⟨o,by rw[e];rfl,by rw[e,yS];exact be⟩;refine xc v ?_;refine zc l 10 (λx:Own×List Zr=>[(9,.sl x.1 8 (WI x.2))]) (λU a1 x H'=>x.2=U.flatMap O/\zQ H .nil H' x.1 x.2.length 8) (.nil,[]) vf ⟨rfl,zQ.refl (o:=.nil) (n:=0) rfl⟩ ?_ ?_
 ·rintro⟨o1,a⟩ g a5 ⟨z,h⟩ p;simp only at z;rw[<-z]at Z;refine xd v p ?_;exact fin a o1 Z _ _ rfl h
 ·rintro U x a1 ⟨o1,a⟩ g a5 ac p _ ⟨z,h⟩ W;have y:=YY ac;have ay:x∈l:=xv ac
  simp only at z;replace h:zQ H .nil g o1 a.length 8:=h;have bh:=br U (x::a1) ac;rw[<-z]at bh;have Y:(U++[x]).flatMap O=a++O x:=wQ z
  have f:=a8 x;have ax:=aw x;obtain⟨A,ad,ag⟩:=bq x ay;have av:=bw x ay;have ab:=ap x.nm;have X:((yb d x.nm).getD Vt).on=Rc d x.nm/\((yb d x.nm).getD Vt).sels=Uo d x.nm:=⟨rfl,rfl⟩;generalize b8:a6 x=a2,O x=M,(yb d x.nm).isSome=b4,(yb d x.nm).getD Vt=a9 at *
  obtain⟨k,al,ai,am,an,a0,aj⟩:=x;obtain⟨bc,go,ba,ao⟩:=a9;rw[Zt]at y ax;rw[Ys]at ab;simp only[zj.k,zj.nm,zj.sels]at f ag av ab X;by_cases k0:k=0
  ·have bz:=eq_true k0;simp only[k0,if_true]at f;have a7:WI a++[[AV.str typ,.i k,.str al,.str ai,.o 6 (Ya am),.o 2 (ZE an),.str a0,.o 7 (Zp aj)]]=WI (a++M):=by rw[f,<-k0,<-Xv];simp[WI]
   have bg:M.length=1:=wa f
   refine xk v p y bz (zp (by rw[yS];exact h.own) ?_ ?_ λo' C j=>?_)
   ·simp only[yS,yg,yy];omega
   ·simp only[yS,yg,yy,maxLen];omega
   simp only[yS,yg,yy]at j;have bv:=h.trans j;refine xB a7 ?_;exact zJ (W (o',a++M) C ⟨Y.symm,by rw[ZX,bg];simpa using bv⟩) xf
  simp only[k0,if_false]at f;by_cases L:k=2
  ·have b2:=eq_true L;simp only[L,if_true]at f;have ae:=aq A ad aj ag a2;rw[<-f]at ae;refine xU v p y k0 b2 ax ?_;refine xe v p y (zu (ah A ad aj a2 _ ag xg) λo2 a4 G=>?_);rw[<-f]at G ⊢;have I:=Z3 h G;refine xa (zp (by rw[yS];exact I.own) ?_ ?_ λo' C j=>?_)
   ·simp only[yS];omega
   ·simp only[yS,maxLen];omega
   simp only[yS]at j;simp(disch:=first|omega|assumption) only[wrap64,NW,go_sem];exact zJ (W (o',a++M) C ⟨Y.symm,by rw[ZX];exact I.trans j⟩) xf
  simp only[L,if_false]at f;by_cases K:k=1
  ·have b1:=eq_true K;simp only[K,if_true]at f;obtain⟨az,ar,af⟩:=av K;have ae:=aq az ar _ af (Rc d ai);rw[<-f]at ae;rw[<-X.1,<-X.2]at f;rw[<-X.2]at af;refine xH v p y k0 L b1 ab ?_;refine xa (zb λb3 bl=>?_);have bx:=h.upd (x:=.cells [.str bc,.str go,.o 2 (ZE ba),.o 7 (Zp ao)]) bl;refine xa (zu (ah az ar ao go _ af xg) λo2 a4 G=>?_);rw[<-f]at G ⊢;have I:=Z3 bx G;refine xa (zp (by rw[yS];exact I.own) ?_ ?_ λo' C j=>?_)
   ·simp only[yS];omega
   ·simp only[yS,maxLen];omega
   simp only[yS]at j;simp(disch:=first|omega|assumption) only[wrap64,NW,go_sem];exact zJ (W (o',a++M) C ⟨Y.symm,by rw[ZX];exact I.trans j⟩) xf
  simp only[K,if_false]at f;refine xu v p y k0 L K ?_;exact zJ (W (o1,a) g ⟨by rw[Y,f,List.append_nil],h⟩) xf
end
section
variable {s:zg} {d:zv}
def zik(h:zA s<=ze)(I:d.frags.length<=ze){m z:Nat}(x y:Zr)(p:Sz d m x.2.sels)(v:Sz d z y.2.sels)(J:m<=64)(K:z<=64)(H:zd):
  YR Tryz.prog 372 [.agg (zk s),.agg (z8 d),.agg (NL x),.agg (NL y)] H .nil 8 (WI (W6 s d x++W6 s d y)):=by
 have O:=Qc s x.1 x.2 h;have U:=Qc s y.1 y.2 h;have f:=λH=>KW (s:=s) h I m x.2.sels (zz s x.1 x.2) H p J;have g:=λH=>KW (s:=s) h I z y.2.sels (zz s y.1 y.2) H v K;have ad:=Wq (s:=s) p J (zz s x.1 x.2);have ae:=Wq (s:=s) v K (zz s y.1 y.2);have C:W6 s d x=VR s d 64 (zz s x.1 x.2) x.2.sels:=rfl;have G:W6 s d y=VR s d 64 (zz s y.1 y.2) y.2.sels:=rfl;rw[<-C]at f ad;rw[<-G]at g ae;generalize W6 s d x=W,W6 s d y=B,zz s x.1 x.2=ai,zz s y.1 y.2=aj at *
 clear C G p v;obtain⟨ar,⟨an,ak,ao,al,am,ap,aq⟩⟩:=x;obtain⟨a1,⟨ax,au,ay,av,aw,az,a0⟩⟩:=y;have Y:=Yl d;have Z:=UN s;simp only[zj.sels]at f g;simp only[Z,Y,Zt,Xv]at O U f g ⊢;refine Xt ir372 λKP Q X ah=>?_;refine xh O ?_;refine xa (zu (f _) λo1 af aa=>?_);refine xh U ?_;refine xa (zu (g _) λo2 ag ab=>?_);have j:=Z3 aa ab;rw[yS]at j;refine xa (zp (by rw[yS];exact j.own) ?_ ?_ λM A L=>?_)
 ·simp only[yS];omega
 ·simp only[yS,maxLen];omega
 simp only[yS]at L;have ac:=j.trans L;simp(disch:=first|omega|assumption) only[NW,go_sem];exact X _ _ A A [.sl M 8 (WI (W++B))] nofun xb (yT.refl _) ⟨M,rfl,by rw[yS,ZX];exact ac⟩
def ze5(L:List Zr)(g:Zr->Zr->Bool)(ar:L.length<=ze)(ac:∀u∈L,∀ag∈L,zf 337 [.agg (zk s),.agg (z8 d),.agg (NL u),.agg (NL ag)] (.bool (g u ag))):
  zf 278 [.agg (zk s),.agg (z8 d),.o 8 (WI L)] (.bool (NF g [] L)):=by
 have K:=yS L;simp only[ze]at ar;generalize al:NF g [] L=F;have ao:=Yl d;have ap:=UN s;simp only[ap,ao]at ac ⊢;refine zo ir278 λKP Q ab=>?_;refine xc K ?_;refine zc L 7 ZY (λI Y _ H=>NF g I Y=F) () xb al ?_ ?_
 ·rintro _ H ai f J;refine xd K J ?_;exact ab rfl (by simp[<-f,NF])
 ·rintro I x Y _ H ai U J _ f am;have ae:=WE U;have av:x∈L:=xv U
  simp only[NF]at f;obtain⟨G,⟨y,j,z,p,v,A,C⟩⟩:=x;have af:=Xv G y j z p v A C;rw[af]at ae;refine xd K J ?_;refine zc I 8 ZY (λO Z _ H=>(Z.all λu=>g u (G,.mk y j z p v A C))=I.all λu=>g u (G,.mk y j z p v A C)) () xb rfl ?_ ?_
  ·rintro _ ah aj h X;rw[<-h]at f;refine xc X ?_;exact zJ (am () _ (xy f)) xf
  ·rintro O M Z _ ah aj aq X _ h an;have W:L=O++M::(Z++(G,.mk y j z p v A C)::Y):=by rw[U,aq];simp
   have ad:=WE W;have au:(O.length:Int)<L.length:=by rw[W];simp;omega
   have aa:=ac M (xv W) _ av;rw[List.all_cons]at h;generalize g M (G,.mk y j z p v A C)=ak at *
   obtain⟨a3,⟨az,aw,a0,ax,ay,a1,a2⟩⟩:=M;rw[Xv]at ad;rw[af,Xv]at aa;refine xH X K J au ae ad aa ?_;cases ak with
   | false =>rw[Bool.false_and]at h;rw[<-h]at f;refine xa ?_;exact ab rfl (wD f)
   | true =>rw[Bool.true_and]at h;refine xa ?_;exact zJ (an () _ h) xf
def M6(W:zA s<=ze)(a9:d.frags.length<=ze){m au:Nat}(g:Zr->Zr->Bool)(x y:Zr)(f:Sz d m x.2.sels)(h:Sz d au y.2.sels)(af:m<=64)(ag:au<=64)(v:∀u∈W6 s d x++W6 s d y,∀aw∈W6 s d x++W6 s d y,zf 370 [.agg (zk s),.agg (z8 d),.agg (NL u),.agg (NL aw)] (.bool (g u aw))):zf 370 [.agg (zk s),.agg (z8 d),.agg (NL x),.agg (NL y)] (.bool (zc3 s d g x y)):=by
 have ab:=λH=>zik (s:=s) W a9 x y f h af ag H;have a2:(W6 s d x).length<=64:=Nat.le_trans (Wq f af _) af;have a4:(W6 s d y).length<=64:=Nat.le_trans (Wq h ag _) ag;have aq:=zmn x.2;have ar:=zmn y.2;have Y:=OI s x.1 x.2.nm W;have Z:=OI s y.1 y.2.nm W;have aa:=zrY s ((zG s x.1 x.2.nm).getD zF).t ((zG s y.1 y.2.nm).getD zF).t (zR W);have bL:(W6 s d x++W6 s d y).length<=128:=by rw[ZX];omega
 have j:zc3 s d g x y=if yW x.2=yW y.2 then Wu s ((zG s x.1 x.2.nm).getD zF).t ((zG s y.1 y.2.nm).getD zF).t&&NF g [] (W6 s d x++W6 s d y)else true:=rfl
 clear f h a2 a4;generalize W6 s d x++W6 s d y=p,zc3 s d g x y=F at *
 have bc:=Yl d;have bd:=UN s;have ah:=yS p;obtain⟨ax,⟨bq,bl,ak,bn,bp,br,bu⟩⟩:=x;obtain⟨ay,⟨bz,bv,al,bw,bx,b1,b2⟩⟩:=y;simp only[zj.nm]at Y Z aa j;generalize yW (.mk bq bl ak bn bp br bu)=bh,yW (.mk bz bv al bw bx b1 b2)=bj,(zG s ax ak).isSome=ok1,(zG s ax ak).getD zF=fx at *
 generalize (zG s ay al).isSome=ok2,(zG s ay al).getD zF=am at *
 generalize Wu s fx.t am.t=sh at *
 obtain⟨b8,b9,⟨b4,b5,b6⟩,b7⟩:=fx;obtain⟨cd,ce,⟨c1,ca,cb⟩,cc⟩:=am;simp only[Zt]at aq ar;simp only[Xv]at ab ⊢;simp only[bd,bc,cL,YQ]at ab Y Z aa v ⊢;refine zo ir370 λKP Q M=>?_;refine xh aq ?_;refine xh ar ?_;by_cases O:bh=bj
 ·rw[if_pos O]at j;subst O;refine xh Y ?_;refine xa (zb λa5 cg=>?_);refine xh Z ?_;refine xa (zb λa3 ba=>?_);have av:a5≠a3:=λe=>by subst e;simp[zd.upd]at ba
  refine xn av (Ne.symm av) aa ?_;cases sh with
  | false =>exact vn M j
  | true =>
   rw[Bool.true_and]at j;refine xa (zu (ab _) λo1 b3 ch=>?_);refine xa ?_;refine zc p 14 ZY (λL ai _ H=>NF g L ai=F) () xb j.symm ?_ ?_
   ·rintro _ H a0 f U;refine xd ah U ?_;exact M rfl (by simp[<-f,NF])
   ·rintro L x ai _ H a0 ac U _ f a7;have ao:=WE ac;have bg:x∈p:=xv ac
    simp only[NF]at f;obtain⟨K,⟨G,z,I,A,C,J,xs'⟩⟩:=x;have ap:=Xv K G z I A C J xs';rw[ap]at ao;refine xd ah U ?_;refine zc L 15 ZY (λX aj _ H=>(aj.all λu=>g u (K,.mk G z I A C J xs'))=L.all λu=>g u (K,.mk G z I A C J xs')) () xb rfl ?_ ?_
    ·rintro _ az a1 h ae;rw[<-h]at f;refine xc ae ?_;exact zJ (a7 () _ (xy f)) xf
    ·rintro X y aj _ az a1 be ae _ h a8;have ad:p=X++y::(aj++(K,.mk G z I A C J xs')::ai):=by rw[ac,be];simp
     have an:=WE ad;have bf:(X.length:Int)<p.length:=by rw[ad];simp;omega
     have v:=v y (xv ad) _ bg;rw[List.all_cons]at h;generalize g y (K,.mk G z I A C J xs')=a6 at *
     obtain⟨cr,⟨cn,ci,co,cj,cm,cp,cq⟩⟩:=y;rw[Xv]at an;rw[ap,Xv]at v;refine xH ae ah U bf ao an v ?_;cases a6 with
     | false =>rw[Bool.false_and]at h;rw[<-h]at f;refine xa ?_;exact M rfl (wD f)
     | true =>rw[Bool.true_and]at h;refine xa ?_;exact zJ (a8 () _ h) xf
 ·rw[if_neg O]at j;exact vo O M j
def zfL(j:zA s<=ze)(h:d.frags.length<=ze):∀(n:Nat) (x y:Zr),n<=64->Sz d n x.2.sels->Sz d n y.2.sels->zf 370 [.agg (zk s),.agg (z8 d),.agg (NL x),.agg (NL y)] (.bool (shR s d n x y))
 | 0,x,y,hn,hx,hy=>by refine M6 j h (λ_ _=>true) x y hx hy hn hn λu f=>?_;have I:=Wq (s:=s) hx hn (zz s x.1 x.2);have J:=Wq (s:=s) hy hn (zz s y.1 y.2);have A:W6 s d x++W6 s d y=[]:=List.eq_nil_of_length_eq_zero (by rw[ZX];simp only[W6];omega);rw[A]at f;cases f
 | n+1,x,y,hn,hx,hy=>by
  have hsz:∀u∈W6 s d x++W6 s d y,Sz d n u.2.sels:=λu f=>by
   rcases List.mem_append.1 f with g|g
   ·obtain⟨G,z,p⟩:=Uk hx hn _ u g;exact p.mono xg
   ·obtain⟨G,z,p⟩:=Uk hy hn _ u g;exact p.mono xg
  exact M6 j h (shR s d n) x y hx hy hn hn λu f v C=>zfL j h n u v xg (hsz u f) (hsz v C)
attribute [go_sem] ir270000
end
section
variable {s:zg} {d:zv}
def ziL{N:Nat}{m:Nat}{l:List zj}(A:Sz d m l):m<=N->yR l<=zt d->∀h,∀g∈VR s d N h l,bS g.2<=zt d:=by
 induction A with
 | nil=>intro _ _ h g f;rw[WN]at f;cases f
 | @cons m i j e k al nm args dirs on sels r hle h1 h2 h3 i1 i2 i3 =>
  intro z p h g f;rw[T5 (.cons hle h1 h2 h3) z,List.mem_append]at f;simp only[yR]at p;have v:yR sels<=zt d:=by simp only[bS]at p;omega
  rcases f with f|f
  ·simp only[TA]at f;split at f
   ·simp only[List.mem_singleton]at f;subst f;simp only;omega
   split at f
   ·exact i1 xg v _ g f
   split at f
   ·rename_i y;exact i2 y xg (zit d nm) _ g f
   ·cases f
  ·exact i3 xg xg h g f
def znF{m:Nat}{x:Zr}(h:Sz d m x.2.sels)(g:m<=64)(f:bS x.2<=zt d):∀j∈W6 s d x,bS j.2<=zt d:=by refine ziL h g ?_ _;obtain⟨I,⟨z,p,A,v,y,C,G⟩⟩:=x;simp only[bS]at f;simp only[zj.sels];omega
def PQ(K:zA s<=ze)(a6:zt d+1<=ze)(Z:d.frags.length<=ze){m af:Nat}(g:Zr->Zr->Bool)(x y:Zr)(M:Sz d m x.2.sels)(O:Sz d af y.2.sels)(I:m<=64)(J:af<=64)(aa:bS x.2<=zt d)(ab:bS y.2<=zt d)(Y:∀u∈W6 s d x++W6 s d y,∀ag∈W6 s d x++W6 s d y,zf 337 [.agg (zk s),.agg (z8 d),.agg (NL u),.agg (NL ag)] (.bool (g u ag))):zf 337 [.agg (zk s),.agg (z8 d),.agg (NL x),.agg (NL y)] (.bool (zbw s d g x y)):=by
 have p:=λH=>zik (s:=s) K Z x y M O I J H;have ax:(W6 s d x).length<=64:=Nat.le_trans (Wq M I _) I;have ay:(W6 s d y).length<=64:=Nat.le_trans (Wq O J _) J;have ad:=zmn x.2;have ae:=zmn y.2;have o1:=zi8 s x.1 (zR K);have o2:=zi8 s y.1 (zR K);have W:=zfL K Z 64 x y (ZG _) (M.mono I) (O.mono J);have bL:(W6 s d x++W6 s d y).length<=128:=by rw[ZX];omega
 have A:=ze5 (s:=s) (d:=d) (W6 s d x++W6 s d y) g xi Y;have f:zbw s d g x y=if yW x.2=yW y.2 then shR s d 64 x y&&((!decide (x.1=y.1)&&yA s x.1 [1]&&yA s y.1 [1])||((decide (x.2.nm=y.2.nm)&&Y8 (Zj x.2) (Zj y.2))&&NF g [] (W6 s d x++W6 s d y)))else true:=rfl
 have C:zf 371 [.o 6 (Ya (Zj x.2)),.o 6 (Ya (Zj y.2))] (.bool (Y8 (Zj x.2) (Zj y.2))):=by obtain⟨an,⟨ak,ah,v,ai,aj,al,am⟩⟩:=x;obtain⟨aw,⟨ar,ao,z,ap,aq,au,av⟩⟩:=y;simp only[bS]at aa ab;exact zre _ _ (by simp only[Zj];omega) (by simp only[Zj];omega)
 clear M O ax ay Y aa ab;generalize NF g [] (W6 s d x++W6 s d y)=pr at *
 generalize W6 s d x++W6 s d y=a5,zbw s d g x y=F,shR s d 64 x y=sh,yA s x.1 [1]=a3,yA s y.1 [1]=a4,Y8 (Zj x.2) (Zj y.2)=U at *
 have az:=Yl d;have a0:=UN s;obtain⟨an,⟨ak,ah,v,ai,aj,al,am⟩⟩:=x;obtain⟨aw,⟨ar,ao,z,ap,aq,au,av⟩⟩:=y;simp only[zj.nm,Zj]at o1 o2 f C;generalize yW (.mk ak ah v ai aj al am)=a1,yW (.mk ar ao z ap aq au av)=a2 at *
 simp only[Zt]at ad ae;simp only[Xv]at p W ⊢;simp only[a0,az]at p o1 o2 W A ⊢;refine zo ir337 λKP Q j=>?_;refine xh ad ?_;refine xh ae ?_;by_cases G:a1=a2
 case neg =>rw[if_neg G]at f;exact vo G j f
 rw[if_pos G]at f;subst G;refine xh W ?_;cases sh with
 | false =>exact vn j f
 | true =>
 rw[Bool.true_and]at f;by_cases L:an=aw
 ·simp only[eq_true L,decide_true,Bool.not_true,Bool.false_and,Bool.false_or]at f;subst L;refine xa ?_;by_cases h:v=z
  case neg =>simp only[eq_false h,decide_false,Bool.false_and]at f;exact vo h j f
  simp only[eq_true h,decide_true,Bool.true_and]at f;subst h;refine xh C ?_;cases U with
  | false =>exact vn j f
  | true =>rw[Bool.true_and]at f;refine xa (zu (p _) λo1 X ac=>?_);refine xh (Zk.low A) ?_;exact vn j f
 simp only[eq_false L,decide_false,Bool.not_false,Bool.true_and]at f;refine xt L o1 ?_;cases a3 with
 | false =>
  simp only[Bool.false_and,Bool.false_or]at f;refine xa ?_;by_cases h:v=z
  case neg =>simp only[eq_false h,decide_false,Bool.false_and]at f;exact vo h j f
  simp only[eq_true h,decide_true,Bool.true_and]at f;subst h;refine xh C ?_;cases U with
  | false =>exact vn j f
  | true =>rw[Bool.true_and]at f;refine xa (zu (p _) λo1 X ac=>?_);refine xh (Zk.low A) ?_;exact vn j f
 | true =>
 rw[Bool.true_and]at f;refine xh o2 ?_;cases a4 with
 | true =>rw[Bool.true_or]at f;exact vn j f
 | false =>
  rw[Bool.false_or]at f;refine xa ?_;by_cases h:v=z
  case neg =>simp only[eq_false h,decide_false,Bool.false_and]at f;exact vo h j f
  simp only[eq_true h,decide_true,Bool.true_and]at f;subst h;refine xh C ?_;cases U with
  | false =>exact vn j f
  | true =>rw[Bool.true_and]at f;refine xa (zu (p _) λo1 X ac=>?_);refine xh (Zk.low A) ?_;exact vn j f
def L4(p:zA s<=ze)(h:zt d+1<=ze)(j:d.frags.length<=ze):∀(n:Nat) (x y:Zr),n<=64->Sz d n x.2.sels->Sz d n y.2.sels->bS x.2<=zt d->bS y.2<=zt d->zf 337 [.agg (zk s),.agg (z8 d),.agg (NL x),.agg (NL y)] (.bool (tgR s d n x y))
 | 0,x,y,hn,hx,hy,bx,bY=>by refine PQ p h j (λ_ _=>true) x y hx hy hn hn bx bY λu f=>?_;have J:=Wq (s:=s) hx hn (zz s x.1 x.2);have K:=Wq (s:=s) hy hn (zz s y.1 y.2);have G:W6 s d x++W6 s d y=[]:=List.eq_nil_of_length_eq_zero (by rw[ZX];simp only[W6];omega);rw[G]at f;cases f
 | n+1,x,y,hn,hx,hy,bx,bY=>by
  have hsz:∀u∈W6 s d x++W6 s d y,Sz d n u.2.sels/\bS u.2<=zt d:=λu f=>by
   rcases List.mem_append.1 f with g|g
   ·obtain⟨I,C,v⟩:=Uk hx hn _ u g;exact⟨v.mono xg,znF hx hn bx u g⟩
   ·obtain⟨I,C,v⟩:=Uk hy hn _ u g;exact⟨v.mono xg,znF hy hn bY u g⟩
  exact PQ p h j (tgR s d n) x y hx hy hn hn bx bY λu f z A=>L4 p h j n u z xg (hsz u f).1 (hsz z A).1 (hsz u f).2 (hsz z A).2
end
section
variable {s:zg} {d:zv}
def znb:∀(n:Nat) (t:B8),KN s d n t []=true
 | 0,t=>by rw[KN,Lr,WN];simp[NF]
 | n+1,t=>by rw[KN,Lr,WN];simp[NF]
def Kt(J:zA s<=ze)(M:zt d+1<=ze)(ab:d.frags.length<=ze){m:Nat}(h:B8->List zj->Bool)(typ:B8)(l:List zj)(g:Sz d m l)(j:m<=64)(G:yR l<=zt d)(ay:∀t,h t []=true)(X:∀x∈l,zf 156 [.agg (zk s),.agg (z8 d),.str (zz s typ x),.o 7 (Zp x.sels)] (.bool (h (zz s typ x) x.sels))):zf 156 [.agg (zk s),.agg (z8 d),.str typ,.o 7 (Zp l)] (.bool (Lr s d h typ l)):=by
 have O:=λH=>KW (s:=s) J ab m l typ H g j;have a3:(VR s d 64 typ l).length<=64:=Nat.le_trans (Wq g j _) j;have W:=ze5 (s:=s) (d:=d) (VR s d 64 typ l) (tgR s d 64) xi λu ad L ae=>by obtain⟨i,hi,z⟩:=Uk g j _ u ad;obtain⟨a6,a4,A⟩:=Uk g j _ L ae;exact L4 J M ab 64 u L (ZG _) (z.mono xg) (A.mono xg) (ziL g j G _ u ad) (ziL g j G _ L ae)
 have Z:=λx=>Qc s typ x J;have K:=Z7 l;have a7:=YL l;have ax:l.length<=ze:=xg
 simp only[ze]at ax;have y:Lr s d h typ l=(NF (tgR s d 64) [] (VR s d 64 typ l)&&l.all λx=>h (zz s typ x) x.sels):=rfl;have a0:∀x∈l,x.sels.length<=1099511627776:=λx f=>by have z:=NJ f;have A:=YL x.sels;obtain⟨an,ak,ao,al,am,ap,p⟩:=x;simp only[bS,zj.sels]at z A ⊢;simp only[ze]at M;omega
 clear g G;generalize Lr s d h typ l=F at *
 generalize NF (tgR s d 64) [] (VR s d 64 typ l)=pr at *
 generalize VR s d 64 typ l=a2 at *
 generalize zz s typ=ai at *
 have av:=Yl d;have aw:=UN s;simp only[aw,av]at O W Z X ⊢;refine zo ir156 λKP Q C=>?_;refine xa ?_;refine zu (O _) λo1 a1 a5=>?_;refine xh (Zk.low W) ?_;cases pr with
 | false =>exact vn C y
 | true =>
 rw[Bool.true_and]at y;refine xa ?_;refine zc l 9 ZY (λau ah _ H=>(ah.all λx=>h (ai x) x.sels)=F) () xb y.symm ?_ ?_
 ·rintro _ H ar f v;refine xd K v ?_;exact C rfl (wD f)
 ·rintro au x ah _ H ar ac v _ f U;have I:=YY ac;have af:x∈l:=xv ac
  have aa:=Z x;have Y:=X x af;have hx1:=a0 x af;rw[List.all_cons]at f;obtain⟨an,ak,ao,al,am,ap,p⟩:=x;rw[Zt]at I aa;simp only[zj.sels]at Y hx1 f;have ag:=Z7 p;generalize ai (.mk an ak ao al am ap p)=w at *
  cases p with
  | nil =>rw[ay,Bool.true_and]at f;refine xk K v I ag ?_;exact zJ (U () _ f) xf
  | cons aj aq =>
   have az:((0:Int)<((aj::aq).length:Int))=True:=eq_true (by simp only[yg];omega);generalize aj::aq=p at *
   refine xU K v I ag az aa ?_;refine xh Y ?_;generalize h w p=b at *
   cases b with
   | false =>rw[Bool.false_and]at f;refine xa ?_;exact C rfl (wD f)
   | true =>rw[Bool.true_and]at f;refine xa ?_;exact zJ (U () _ f) xf
def zdj(j:zA s<=ze)(g:zt d+1<=ze)(h:d.frags.length<=ze):∀(n:Nat) (typ:B8) (l:List zj),n<=64->Sz d n l->yR l<=zt d->zf 156 [.agg (zk s),.agg (z8 d),.str typ,.o 7 (Zp l)] (.bool (KN s d n typ l))
 | 0,typ,l,hn,hl,hbl=>by refine Kt j g h (λ_ _=>true) typ l hl hn hbl (λ_=>rfl) λx f=>?_;obtain⟨z,v,_⟩:=NN hl x f;omega
 | n+1,typ,l,hn,hl,hbl=>by refine Kt j g h (KN s d n) typ l hl hn hbl (znb n) λx f=>?_;obtain⟨z,v,y⟩:=NN hl x f;refine zdj j g h n _ _ xg (y.mono xg) ?_;have p:=NJ f;obtain⟨I,A,J,C,G,K,L⟩:=x;simp only[bS,zj.sels]at p ⊢;omega
def ziF(s:zg)(d:zv)(ab:zA s<=ze)(p:zt d+1<=ze)(W:∀x∈yQ d,Sz d 40 x):zf 66 [.agg (zk s),.agg (z8 d)] (.bool (Uu s d)):=by
 have lo:=ZI d.ops;have X:=Z5 d.frags;have bo:=ZJ d.ops;have ag:=yP d.frags;have am:zt d=Ub d.ops+XZ d.frags:=rfl;have O:d.frags.length<=ze:=xg
 have ao:d.ops.length<=1099511627776:=by simp only[ze]at p;omega
 have an:d.frags.length<=1099511627776:=by simp only[ze]at p;omega
 have L:∀o∈d.ops,zf 156 [.agg (zk s),.agg (z8 d),.str (ZS s o),.o 7 (Zp o.sels)] (.bool (KN s d 64 (ZS s o) o.sels)):=λo ho =>zdj ab p O 64 _ _ (ZG _) ((W _ (by refine wF ?_;exact .inl ⟨o,ho,rfl⟩)).mono xg) (by have:=U1 ho;have:=Uw o;omega);have J:∀f∈d.frags,zf 156 [.agg (zk s),.agg (z8 d),.str f.on,.o 7 (Zp f.sels)] (.bool (KN s d 64 f.on f.sels)):=λf hf =>zdj ab p O 64 _ _ (ZG _) ((W _ (by refine wF ?_;exact .inr ⟨f,hf,rfl⟩)).mono xg) (by have:=WB hf;have:=Xb f;omega);have Z:=λo=>zhx s o;have Y:Uu s d=((d.ops.all λo=>KN s d 64 (ZS s o) o.sels)&&d.frags.all λf=>KN s d 64 f.on f.sels):=rfl;generalize Uu s d=R,KN s d 64=ls,ZS s=af at *
 obtain⟨C,j⟩:=d;clear W am p O;simp only at lo X bo ag ao an L J Y;have aj:z8 ⟨C,j⟩=[.o 5 (PR C),.o 4 (Pf j)]:=rfl;have al:=UN s;simp only[al,aj]at Z L J ⊢;refine zo ir66 λKP Q M=>?_;refine xa ?_;refine zc C 5 ZY (λI A _ H=>((A.all λo=>ls (af o) o.sels)&&j.all λf=>ls f.on f.sels)=R) () xb Y.symm ?_ ?_
 ·rintro _ H G g h;rw[List.all_nil,Bool.true_and]at g;refine xd lo h ?_;refine zc j 6 ZY (λI A _ H=>(A.all λf=>ls f.on f.sels)=R) () xb g ?_ ?_
  ·rintro _ H G g h;refine xd X h ?_;exact M rfl (wD g)
  ·rintro I f A _ H G y h _ g K;have z:=Ym y;have U:f∈j:=xv y
   have v:=J f U;rw[List.all_cons]at g;obtain⟨aq,ah,ap,ai⟩:=f;rw[Ys]at z;simp only at v g;refine xm X h z v ?_;generalize ls ah ai=b at *
   cases b with
   | false =>rw[Bool.false_and]at g;refine xa ?_;exact M rfl (wD g)
   | true =>rw[Bool.true_and]at g;refine xa ?_;exact zJ (K () _ g) xf
 ·rintro I o A _ H G y h _ g K;have z:=Z6 y;have U:o∈C:=xv y
  have v:=L o U;have aa:=Z o;rw[List.all_cons]at g;generalize af o=r at *
  obtain⟨ok,ad,ae,ac,os⟩:=o;have ak:cO ⟨ok,ad,ae,ac,os⟩=[.i ok,.str ad,.o 10 (Yg ae),.o 2 (ZE ac),.o 7 (Zp os)]:=rfl;rw[ak]at z aa;simp only at v g;refine xm lo h z aa ?_;refine xh v ?_;generalize ls r os=b at *
  cases b with
  | false =>rw[Bool.false_and,Bool.false_and]at g;refine xa ?_;exact M rfl (wD g)
  | true =>rw[Bool.true_and]at g;refine xa ?_;exact zJ (K () _ g) xf
end
def Uy(x:z6):yx x=(zI x.nm&&zD x.t&&Vb x.has x.d):=by simp[yx,WX]
set_option maxHeartbeats 2000000 in
def zn5(d:zv)(a7:zt d<=ze):zf 23 [.agg (z8 d)] (.bool (ZF d)):=by
 refine zo ir23 λKP Q p=>?_;obtain⟨K,J⟩:=d;have bx:=ZJ K;have bw:=yP J;have a9:=ZI K;have be:=Z5 J;have bp:=a7;simp only[zt,ze]at bp;have bl:z8 ⟨K,J⟩=[.o 5 (PR K),.o 4 (Pf J)]:=rfl;refine xc bl ?_;refine zc K 3 ZY (λai Z _ H=>K.all Yb=Z.all Yb) () xb rfl ?_ ?_
 ·rintro _ H a5 ak aq;have bh:K.all Yb=true:=ak;refine xd a9 aq ?_;refine zc J 6 ZY (λai Z _ H=>J.all X7=Z.all X7) () xb rfl ?_ ?_
  ·rintro _ H a5 ak aq;have aj:J.all X7=true:=ak;have br:IntKind.wrap .i64 ((K.length:Int)+(J.length:Int))=((K.length+J.length:Nat):Int):=by rw[wrap64 xg xg];omega
   have bj:decide ((0:Int)<((K.length+J.length:Nat):Int))=decide (0<K.length+J.length):=by rw[decide_eq_decide];constructor<;>intro bu<;>omega
   have bn:ZF ⟨K,J⟩=decide (0<K.length+J.length):=by simp[ZF,bh,aj]
   rw[bn]at p;refine xp a9 be aq br bj ?_;exact xo p
  ·rintro ai x Z _ H a5 az aq bq ak au;have a0:=Ym az;have ay:=RQ ai x Z;rw[<-az]at ay;have L:X7 x=false->ZF ⟨K,J⟩=false:=λe=>by
    have:J.all X7=false:=x1 ak e
    simp[ZF,this]
   have ax:X7 x=true->J.all X7=Z.all X7:=λe=>by rw[ak];simp[e]
   obtain⟨M,a4,I,z⟩:=x;simp only[bF]at ay;have a6:cF ⟨M,a4,I,z⟩=[.str M,.str a4,.o 2 (ZE I),.o 7 (Zp z)]:=rfl;rw[a6]at a0;refine xe be aq a0 (zb λb a7=>?_);refine xh (XO M xi) ?_;cases bc:zI M with
   | false =>refine xa ?_;have f:=L (by simp[X7,bc]);exact xj p f
   | true =>
    by_cases a2:M=[111,110]
    ·refine xc a2 ?_;have f:=L (by simp[X7,a2]);exact xj p f
    ·refine xt a2 (XO a4 xi) ?_;cases bd:zI a4 with
     | false =>refine xa ?_;have f:=L (by simp[X7,bd]);exact xj p f
     | true =>
      refine xa ?_;refine za (U8 I xi 0 (by decide) (by decide) true) ?_;cases ad:Zg 0 true I with
      | false =>refine xa ?_;have f:=L (by simp[X7,ad]);exact xj p f
      | true =>
       refine xa ?_;refine za (S7 (yR z) z (ZG _) xi 1 (by decide) (by decide)) ?_;cases ae:yF 1 z with
       | false =>refine xa ?_;have f:=L (by simp[X7,ae]);exact xj p f
       | true =>refine xq ?_;exact zJ (au () _ (ax (by simp[X7,bc,a2,bd,ad,ae]))) xb
 ·rintro ai x Z _ H a5 az aq bq ak au;have a0:=Z6 az;have ay:=Wc ai x Z;rw[<-az]at ay;have L:Yb x=false->ZF ⟨K,J⟩=false:=λe=>by
   have:K.all Yb=false:=x1 ak e
   simp[ZF,this]
  have ax:Yb x=true->K.all Yb=Z.all Yb:=λe=>by rw[ak];simp[e]
  obtain⟨k,M,v,I,z⟩:=x;simp only[bO]at ay;have a6:cO ⟨k,M,v,I,z⟩=[.i k,.str M,.o 10 (Yg v),.o 2 (ZE I),.o 7 (Zp z)]:=rfl;rw[a6]at a0;have A:=yJ v;have bz:=yr v;refine xe a9 aq a0 (zb λb a7=>?_);have a3:(H.upd b (.cells [.i k,.str M,.o 10 (Yg v),.o 2 (ZE I),.o 7 (Zp z)])) b=some (.cells [.i k,.str M,.o 10 (Yg v),.o 2 (ZE I),.o 7 (Zp z)]):=upd_same ..;by_cases Y:k=0∨k=1
  case neg =>have bf:¬ (k=0):=λe=>Y (.inl e);have bg:¬ (k=1):=λe=>Y (.inr e);refine xd bf bg ?_;have f:=L (by simp[Yb,bf,bg]);exact xj p f
  have bv:(decide (k=0)||decide (k=1))=true:=xy Y
  by_cases av:M=[]
  case pos =>
   subst av;have a1:(decide (([]:B8)=[])||zI [])=true:=rfl;rcases Y with Y|Y
   ·subst Y;refine xa ?_;refine za (U8 I xi 0 (by decide) (by decide) true) ?_;cases ad:Zg 0 true I with
    | false =>refine xa ?_;have f:=L (by simp[Yb,ad]);exact xj p f
    | true =>
     refine xa ?_;refine za (S7 (yR z) z (ZG _) xi 1 (by decide) (by decide)) ?_;cases ae:yF 1 z with
     | false =>refine xa ?_;have f:=L (by simp[Yb,ae]);exact xj p f
     | true =>
      refine xa ?_;refine zc v 5 ZY (λai Z _ H'=>v.all yx=Z.all yx/\H' b=some (.cells [.i 0,.str ([]:B8),.o 10 (Yg v),.o 2 (ZE I),.o 7 (Zp z)])) () xb ⟨rfl,a3⟩ ?_ ?_
      case refine_1 =>rintro _ al am ⟨U,g⟩ j;have aj:v.all yx=true:=U;refine xP A j g ?_;exact zJ (au () _ (ax (by simp[Yb,a1,aj,ad,ae]))) xb
      case refine_2 =>
       rintro an x ah _ al am ag j ba ⟨U,g⟩ ao;have h:=y6 ag;have ap:=Vc an x ah;rw[<-ag]at ap;have ab:yx x=false->ZF ⟨K,J⟩=false:=λe=>L (by
        have:v.all yx=false:=x1 U e
        simp[Yb,this])
       have ar:yx x=true->v.all yx=ah.all yx:=λe=>by rw[U];simp[e]
       have C:=Uy x;obtain⟨X,⟨y,tl,G⟩,ac,W⟩:=x;have a8:bW ⟨X,⟨y,tl,G⟩,ac,W⟩=X.length+y.length+bV W:=rfl;rw[T7]at h;simp only at h C;refine xC A j g h ?_;refine za (XO X xi) ?_;cases O:zI X with
       | false =>refine xa ?_;have f:=ab (by rw[C,O];rfl);exact xj p f
       | true =>
        refine xC A j g h ?_;refine za (show zf 49 [.agg [.str y,.i tl,.i G]] (.bool (zD ⟨y,tl,G⟩)) from Xm ⟨y,tl,G⟩ xi) ?_;cases aa:zD ⟨y,tl,G⟩with
        | false =>refine xa ?_;have f:=ab (by rw[C,O,aa];rfl);exact xj p f
        | true =>
         refine xC A j g h ?_;refine za (RD ac W xi) ?_;cases af:Vb ac W with
         | false =>refine xC A j g h ?_;have f:=ab (by rw[C,O,aa,af];rfl);exact xj p f
         | true =>refine wG A j g h ?_;exact zJ (ao () _ ⟨ar (by rw[C,O,aa,af];rfl),g⟩) xb
   ·subst Y;refine xa ?_;refine za (U8 I xi 0 (by decide) (by decide) true) ?_;cases ad:Zg 0 true I with
    | false =>refine xa ?_;have f:=L (by simp[Yb,ad]);exact xj p f
    | true =>
     refine xa ?_;refine za (S7 (yR z) z (ZG _) xi 1 (by decide) (by decide)) ?_;cases ae:yF 1 z with
     | false =>refine xa ?_;have f:=L (by simp[Yb,ae]);exact xj p f
     | true =>
      refine xa ?_;refine zc v 5 ZY (λai Z _ H'=>v.all yx=Z.all yx/\H' b=some (.cells [.i 1,.str ([]:B8),.o 10 (Yg v),.o 2 (ZE I),.o 7 (Zp z)])) () xb ⟨rfl,a3⟩ ?_ ?_
      case refine_1 =>rintro _ al am ⟨U,g⟩ j;have aj:v.all yx=true:=U;refine xP A j g ?_;exact zJ (au () _ (ax (by simp[Yb,a1,aj,ad,ae]))) xb
      case refine_2 =>
       rintro an x ah _ al am ag j ba ⟨U,g⟩ ao;have h:=y6 ag;have ap:=Vc an x ah;rw[<-ag]at ap;have ab:yx x=false->ZF ⟨K,J⟩=false:=λe=>L (by
        have:v.all yx=false:=x1 U e
        simp[Yb,this])
       have ar:yx x=true->v.all yx=ah.all yx:=λe=>by rw[U];simp[e]
       have C:=Uy x;obtain⟨X,⟨y,tl,G⟩,ac,W⟩:=x;have a8:bW ⟨X,⟨y,tl,G⟩,ac,W⟩=X.length+y.length+bV W:=rfl;rw[T7]at h;simp only at h C;refine xC A j g h ?_;refine za (XO X xi) ?_;cases O:zI X with
       | false =>refine xa ?_;have f:=ab (by rw[C,O];rfl);exact xj p f
       | true =>
        refine xC A j g h ?_;refine za (show zf 49 [.agg [.str y,.i tl,.i G]] (.bool (zD ⟨y,tl,G⟩)) from Xm ⟨y,tl,G⟩ xi) ?_;cases aa:zD ⟨y,tl,G⟩with
        | false =>refine xa ?_;have f:=ab (by rw[C,O,aa];rfl);exact xj p f
        | true =>
         refine xC A j g h ?_;refine za (RD ac W xi) ?_;cases af:Vb ac W with
         | false =>refine xC A j g h ?_;have f:=ab (by rw[C,O,aa,af];rfl);exact xj p f
         | true =>refine wG A j g h ?_;exact zJ (ao () _ ⟨ar (by rw[C,O,aa,af];rfl),g⟩) xb
  case neg =>
   cases aw:zI M with
   | false =>
    have f:=L (by simp[Yb,av,aw]);rcases Y with Y|Y
    ·subst Y;refine xt av (XO M xi) ?_;exact vo aw p f
    ·subst Y;refine xt av (XO M xi) ?_;exact vo aw p f
   | true =>
    have a1:(decide (M=[])||zI M)=true:=xr aw
    rcases Y with Y|Y
    ·subst Y;refine xt av (XO M xi) ?_;refine xc aw ?_;refine za (U8 I xi 0 (by decide) (by decide) true) ?_;cases ad:Zg 0 true I with
     | false =>refine xa ?_;have f:=L (by simp[Yb,ad]);exact xj p f
     | true =>
      refine xa ?_;refine za (S7 (yR z) z (ZG _) xi 1 (by decide) (by decide)) ?_;cases ae:yF 1 z with
      | false =>refine xa ?_;have f:=L (by simp[Yb,ae]);exact xj p f
      | true =>
       refine xa ?_;refine zc v 5 ZY (λai Z _ H'=>v.all yx=Z.all yx/\H' b=some (.cells [.i 0,.str M,.o 10 (Yg v),.o 2 (ZE I),.o 7 (Zp z)])) () xb ⟨rfl,a3⟩ ?_ ?_
       case refine_1 =>rintro _ al am ⟨U,g⟩ j;have aj:v.all yx=true:=U;refine xP A j g ?_;exact zJ (au () _ (ax (by simp[Yb,a1,aj,ad,ae]))) xb
       case refine_2 =>
        rintro an x ah _ al am ag j ba ⟨U,g⟩ ao;have h:=y6 ag;have ap:=Vc an x ah;rw[<-ag]at ap;have ab:yx x=false->ZF ⟨K,J⟩=false:=λe=>L (by
         have:v.all yx=false:=x1 U e
         simp[Yb,this])
        have ar:yx x=true->v.all yx=ah.all yx:=λe=>by rw[U];simp[e]
        have C:=Uy x;obtain⟨X,⟨y,tl,G⟩,ac,W⟩:=x;have a8:bW ⟨X,⟨y,tl,G⟩,ac,W⟩=X.length+y.length+bV W:=rfl;rw[T7]at h;simp only at h C;refine xC A j g h ?_;refine za (XO X xi) ?_;cases O:zI X with
        | false =>refine xa ?_;have f:=ab (by rw[C,O];rfl);exact xj p f
        | true =>
         refine xC A j g h ?_;refine za (show zf 49 [.agg [.str y,.i tl,.i G]] (.bool (zD ⟨y,tl,G⟩)) from Xm ⟨y,tl,G⟩ xi) ?_;cases aa:zD ⟨y,tl,G⟩with
         | false =>refine xa ?_;have f:=ab (by rw[C,O,aa];rfl);exact xj p f
         | true =>
          refine xC A j g h ?_;refine za (RD ac W xi) ?_;cases af:Vb ac W with
          | false =>refine xC A j g h ?_;have f:=ab (by rw[C,O,aa,af];rfl);exact xj p f
          | true =>refine wG A j g h ?_;exact zJ (ao () _ ⟨ar (by rw[C,O,aa,af];rfl),g⟩) xb
    ·subst Y;refine xt av (XO M xi) ?_;refine xc aw ?_;refine za (U8 I xi 0 (by decide) (by decide) true) ?_;cases ad:Zg 0 true I with
     | false =>refine xa ?_;have f:=L (by simp[Yb,ad]);exact xj p f
     | true =>
      refine xa ?_;refine za (S7 (yR z) z (ZG _) xi 1 (by decide) (by decide)) ?_;cases ae:yF 1 z with
      | false =>refine xa ?_;have f:=L (by simp[Yb,ae]);exact xj p f
      | true =>
       refine xa ?_;refine zc v 5 ZY (λai Z _ H'=>v.all yx=Z.all yx/\H' b=some (.cells [.i 1,.str M,.o 10 (Yg v),.o 2 (ZE I),.o 7 (Zp z)])) () xb ⟨rfl,a3⟩ ?_ ?_
       case refine_1 =>rintro _ al am ⟨U,g⟩ j;have aj:v.all yx=true:=U;refine xP A j g ?_;exact zJ (au () _ (ax (by simp[Yb,a1,aj,ad,ae]))) xb
       case refine_2 =>
        rintro an x ah _ al am ag j ba ⟨U,g⟩ ao;have h:=y6 ag;have ap:=Vc an x ah;rw[<-ag]at ap;have ab:yx x=false->ZF ⟨K,J⟩=false:=λe=>L (by
         have:v.all yx=false:=x1 U e
         simp[Yb,this])
        have ar:yx x=true->v.all yx=ah.all yx:=λe=>by rw[U];simp[e]
        have C:=Uy x;obtain⟨X,⟨y,tl,G⟩,ac,W⟩:=x;have a8:bW ⟨X,⟨y,tl,G⟩,ac,W⟩=X.length+y.length+bV W:=rfl;rw[T7]at h;simp only at h C;refine xC A j g h ?_;refine za (XO X xi) ?_;cases O:zI X with
        | false =>refine xa ?_;have f:=ab (by rw[C,O];rfl);exact xj p f
        | true =>
         refine xC A j g h ?_;refine za (show zf 49 [.agg [.str y,.i tl,.i G]] (.bool (zD ⟨y,tl,G⟩)) from Xm ⟨y,tl,G⟩ xi) ?_;cases aa:zD ⟨y,tl,G⟩with
         | false =>refine xa ?_;have f:=ab (by rw[C,O,aa];rfl);exact xj p f
         | true =>
          refine xC A j g h ?_;refine za (RD ac W xi) ?_;cases af:Vb ac W with
          | false =>refine xC A j g h ?_;have f:=ab (by rw[C,O,aa,af];rfl);exact xj p f
          | true =>refine wG A j g h ?_;exact zJ (ao () _ ⟨ar (by rw[C,O,aa,af];rfl),g⟩) xb
def Ln(d:zv):B9:=(d.ops.map (·.nm)).filter λn=>!decide (n=[])
def Qd(d:zv):Bool:=decide (0<d.ops.length)&&(decide (d.ops.length=1)||decide ((Ln d).length=d.ops.length))
noncomputable def Yu(s:zg)(d:zv)(n:Int):Bool :=
 if n=1 then Z1 (Ln d)
 else if n=2 then Qd d
 else if n=3 then Qf s d
 else if n=4 then Z1 (d.frags.map (·.nm))
 else if n=5 then RL s d
 else if n=6 then RU s d
 else if n=7 then !Sh d
 else if n=8 then Tt d
 else if n=9∨n=10∨n=11 then (Zf s d).all (LC s d n)
 else if n=12∨n=13∨n=14 then X1 s d n
 else if n=15∨n=16∨n=17 then (Zf s d).all λt=>Xj s (Qv n) t.1 t.2
 else if n=18∨n=19∨n=20∨n=21 then !d.ops.any (TE s d n)
 else if n=22 then RV s d
 else if n=23 then d.ops.all λo=>(QM s d o).all (TX o.vars)
 else if n=24 then Uu s d
 else false
noncomputable def V9(s:zg)(d:zv):Nat->Int->Int
 | 0,_=>0
 | k+1,n=>if Yu s d n=true then V9 s d k (n+1)else n
def zkN(d:zv):(Ln d).length<=d.ops.length:=by have:=List.length_filter_le (λn:B8=>!decide (n=[])) (d.ops.map (·.nm));rw[List.length_map]at this;exact this
section
variable {s:zg} {d:zv}
def znk(n:Int)(co:2*zA s+64<=ze)(b1:zt d<=67108864)(K:Zi d<=ze)(ah:lenD d*zt d+zt d<=1099511627776)(aw:∀x∈yQ d,Sz d 40 x):zf 24 [.agg (zk s),.agg (z8 d),.i n] (.bool (Yu s d n)):=by
 have p:zA s<=ze:=xg
 have ap:zt d+1<=ze:=xi
 have C:zt d<=274877906944:=xg
 have bo:=ZJ d.ops;have bg:=yP d.frags;have ar:zt d=Ub d.ops+XZ d.frags:=rfl;have ab:d.frags.length<=ze:=xg
 have aj:d.ops.length<=ze:=xg
 have b7:=zkN d;have ad:=ziQ d aj;have b9:=PD (Ln d) xg;have bc:=zdy d ab;have b8:=PD (d.frags.map (·.nm)) (by rw[List.length_map];exact ab);have a4:=zkM s d aj;have a5:=zk2 s d p C;have a6:=zmB s d p C;have a7:=zmz d K;have a8:=zmx d K;have bd:=Oe s d p C;have cp:=VG s d;have a9:=λt (b5:t∈Zf s d)=>zr3 s d n t xg ab (by have I:=R1 s d t b5;have J:=YL t.2.sels;obtain⟨ci,⟨cd,ca,ce,cb,cc,cg,ch⟩⟩:=t;simp only[bS,zj.sels]at I J ⊢;refine xl ?_;omega);have az:=zgH s d n p C;have a0:=zgK s d n p C;have a1:=zgv s d n p K ah;have r22:=ziS s d p C;have a2:=zkd s d p K ah;have a3:=ziF s d p ap aw;have j:Qd d=(decide (0<d.ops.length)&&(decide (d.ops.length=1)||decide ((Ln d).length=d.ops.length))):=rfl;have f:Yu s d n=if n=1 then Z1 (Ln d)
  else if n=2 then Qd d
  else if n=3 then Qf s d
  else if n=4 then Z1 (d.frags.map (·.nm))
  else if n=5 then RL s d
  else if n=6 then RU s d
  else if n=7 then !Sh d
  else if n=8 then Tt d
  else if n=9∨n=10∨n=11 then (Zf s d).all (LC s d n)
  else if n=12∨n=13∨n=14 then X1 s d n
  else if n=15∨n=16∨n=17 then (Zf s d).all λt=>Xj s (Qv n) t.1 t.2
  else if n=18∨n=19∨n=20∨n=21 then !d.ops.any (TE s d n)
  else if n=22 then RV s d
  else if n=23 then d.ops.all λo=>(QM s d o).all (TX o.vars)
  else if n=24 then Uu s d
  else false:=rfl
 have lo:=ZI d.ops;have ax:=zn (Ln d);have ay:=yS (Zf s d);have b4:(d.ops.map (·.nm)).filter (λn=>!decide (n=[]))=Ln d:=rfl;rw[b4]at ad;generalize Yu s d n=F,Z1 (Ln d)=cq,Qd d=cr,Qf s d=cx,Z1 (d.frags.map (·.nm))=cy,RL s d=cz,RU s d=c2,Sh d=c3,Tt d=c4,LC s d n=be,X1 s d n=x12,((Zf s d).all λt=>Xj s (Qv n) t.1 t.2)=x15,d.ops.any (TE s d n)=x18,RV s d=ct,(d.ops.all λo=>(QM s d o).all (TX o.vars))=cu,Uu s d=cw,Zf s d=ae,Ln d=ak,d.frags.map (·.nm)=cj at *
 clear aw K ah bg;have cm:ae.length<=67108864:=xg
 obtain⟨h,al⟩:=d;simp only at b7 j lo aj bo ar;have b2:z8 ⟨h,al⟩=[.o 5 (PR h),.o 4 (Pf al)]:=rfl;have b3:=UN s;simp only[b3,b2]at ad bc a4 a5 a6 a7 a8 bd a9 az a0 a1 r22 a2 a3 ⊢;have cn:h.length<=67108864:=xg
 clear ar bo ab b1 C ap;refine zo ir24 λKP Q g=>?_;by_cases I:n=1
 ·rw[if_pos I]at f;subst I;subst f;refine xh ad ?_;refine xh (Zk.low b9) ?_;exact vm g
 rw[if_neg I]at f;by_cases J:n=2
 ·rw[if_pos J]at f;subst J;subst f;by_cases av:0<h.length
  case neg =>have ac:((0:Int)<h.length)=False:=eq_false xg;simp only[eq_false av,decide_false,Bool.false_and]at j;refine xd lo ac ?_;exact xj g j
  have ac:((0:Int)<h.length)=True:=eq_true xg;simp only[eq_true av,decide_true,Bool.true_and]at j;by_cases am:h.length=1
  ·have af:((h.length:Int)=1)=True:=eq_true xg;simp only[eq_true am,decide_true,Bool.true_or]at j;refine xe lo ac af ?_;exact xj g j
  have af:((h.length:Int)=1)=False:=eq_false xg;simp only[eq_false am,decide_false,Bool.false_or]at j;refine xm lo ac af ad ?_;by_cases an:ak.length=h.length
  ·have ag:((ak.length:Int)=h.length)=True:=eq_true xg;simp only[eq_true an,decide_true]at j;refine xe lo ax ag ?_;exact xj g j
  ·have ag:((ak.length:Int)=h.length)=False:=eq_false xg;simp only[eq_false an,decide_false]at j;refine xe lo ax ag ?_;exact xj g j
 rw[if_neg J]at f;by_cases U:n=3
 ·rw[if_pos U]at f;subst U;subst f;refine xh a4 ?_;exact vm g
 rw[if_neg U]at f;by_cases W:n=4
 ·rw[if_pos W]at f;subst W;subst f;refine xh bc ?_;refine xh (Zk.low b8) ?_;exact vm g
 rw[if_neg W]at f;by_cases X:n=5
 ·rw[if_pos X]at f;subst X;subst f;refine xh a5 ?_;exact vm g
 rw[if_neg X]at f;by_cases Y:n=6
 ·rw[if_pos Y]at f;subst Y;subst f;refine xh a6 ?_;exact vm g
 rw[if_neg Y]at f;by_cases Z:n=7
 ·rw[if_pos Z]at f;subst Z;subst f;refine xh a7 ?_;exact vm g
 rw[if_neg Z]at f;by_cases aa:n=8
 ·rw[if_pos aa]at f;subst aa;subst f;refine xh a8 ?_;exact vm g
 rw[if_neg aa]at f;by_cases A:n=9∨n=10∨n=11
 ·rw[if_pos A]at f;rcases A with rfl|rfl|rfl
  all_goals
   refine xh bd ?_;refine xa ?_;refine zc ae 8 ZY (λbj ba _ H=>ba.all be=F) () xb f.symm ?_ ?_
   ·rintro _ H bf G ai;refine xd ay ai ?_;exact g rfl (wD G)
   ·rintro bj x ba _ H bf aq ai _ G bz;have au:=WE aq;have b6:x∈ae:=xv aq
    have ao:=a9 x b6;rw[List.all_cons]at G;generalize be x=bh at *
    obtain⟨ci,⟨cd,ca,ce,cb,cc,cg,ch⟩⟩:=x;rw[Xv]at au ao;refine xm ay ai au ao ?_;cases bh with
    | false =>rw[Bool.false_and]at G;refine xa ?_;exact g rfl (wD G)
    | true =>rw[Bool.true_and]at G;refine xa ?_;exact zJ (bz () _ G) xf
 rw[if_neg A]at f;simp only[not_or]at A;obtain⟨A,bl,bn⟩:=A;by_cases v:n=12∨n=13∨n=14
 ·rw[if_pos v]at f;subst f;rcases v with rfl|rfl|rfl
  all_goals refine xh az ?_;exact vm g
 rw[if_neg v]at f;simp only[not_or]at v;obtain⟨v,bp,bq⟩:=v;by_cases y:n=15∨n=16∨n=17
 ·rw[if_pos y]at f;subst f;rcases y with rfl|rfl|rfl
  all_goals refine xh a0 ?_;exact vm g
 rw[if_neg y]at f;simp only[not_or]at y;obtain⟨y,br,bu⟩:=y;by_cases z:n=18∨n=19∨n=20∨n=21
 ·rw[if_pos z]at f;subst f;rcases z with rfl|rfl|rfl|rfl
  all_goals refine xh a1 ?_;exact vm g
 rw[if_neg z]at f;simp only[not_or]at z;obtain⟨z,bv,bw,bx⟩:=z;by_cases L:n=22
 ·rw[if_pos L]at f;subst L;subst f;refine xh r22 ?_;exact vm g
 rw[if_neg L]at f;by_cases M:n=23
 ·rw[if_pos M]at f;subst M;subst f;refine xh a2 ?_;exact vm g
 rw[if_neg M]at f;by_cases O:n=24
 ·rw[if_pos O]at f;subst O;subst f;refine xh a3 ?_;exact vm g
 rw[if_neg O]at f;simp(disch:=first|omega|assumption) only[ir24,I,J,U,W,X,Y,Z,aa,A,bl,bn,v,bp,bq,y,br,bu,z,bv,bw,bx,L,M,O,go_sem];exact xj g f
def zkv(y:2*zA s+64<=ze)(I:zt d<=67108864)(p:Zi d<=ze)(J:lenD d*zt d+zt d<=1099511627776)(K:∀x∈yQ d,Sz d 40 x):zf 9 [.agg (zk s),.agg (z8 d)] (.i (if Un s 9 1≠0∨ZF d=false then 25 else V9 s d 24 1)):=by
 have G:=λn=>znk (s:=s) (d:=d) n y I p J K;have C:=zlQ s y;have A:=zn5 d xi;generalize M:V9 s d 24 1=z;generalize g:(if Un s 9 1≠0∨ZF d=false then 25 else z:Int)=E;generalize Un s 9 1=L,ZF d=rd at *
 clear y I p J K;have W:=Yl d;have X:=UN s;simp only[X,W]at G C A ⊢;refine zo ir9 λKP Q h=>?_;refine xh C ?_;by_cases j:L=0
 case neg =>rw[if_pos (.inl j)]at g;refine xc j ?_;exact h rfl (wD g)
 have U:=eq_true j;refine xt U A ?_;cases rd with
 | false =>rw[if_pos (.inr rfl)]at g;refine xa ?_;exact h rfl (wD g)
 | true =>
 rw[if_neg (xr j)]at g;subst g;refine xa ?_;refine ZZ (λx:Nat×Int=>[(5,.i x.2)]) (λx _=>(x.1:Int)+x.2=25/\x.1<=24/\V9 s d x.1 x.2=z) (λx=>x.1) (24,1) xb ⟨by omega,by omega,M⟩ ?_;rintro⟨k,n⟩ H aa ⟨Y,Z,f⟩ O;simp only at Y Z f;cases k with
 | zero =>
  simp only[V9]at f;subst f;have v:¬ (n<=24):=xg
  refine xc v ?_;exact xo h
 | succ k =>
  simp only[V9]at f;have p:=G n;have v:(n<=24)=True:=eq_true xg;generalize ab:Yu s d n=x at *
  refine xt v p ?_;cases x with
  | true =>rw[if_pos rfl]at f;refine xq ?_;exact zJ (O (k,n+1) _ wP ⟨by simp only;omega,by simp only;omega,f⟩) xf
  | false =>rw[if_neg xw]at f;subst f;exact vm h
end
section
variable {s:zg} {d:zv}
def zgc(h:∀n:Int,1<=n->n<=24->(∀m:Int,1<=m->m<n->ZQ s d m=true)->ZQ s d n=Yu s d n):Nu s d 24 1=V9 s d 24 1:=by
 have A:∀(k:Nat) (n:Int),(k:Int)+n=25->1<=n->(∀m:Int,1<=m->m<n->ZQ s d m=true)->Nu s d k n=V9 s d k n:=by
  intro k;induction k with
  | zero=>intro n _ _ _;rfl
  | succ k z =>
   intro n G g p;have y:=h n g xg p;simp only[Nu,V9,<-y];by_cases f:ZQ s d n=true
   ·rw[if_pos f,if_pos f];refine z (n+1) xg xg λm j C=>?_;by_cases v:m=n
    ·rw[v];exact f
    ·exact p m j xg
   ·rw[if_neg f,if_neg f]
 exact A 24 1 xg xg λm g j=>by omega
def zh7(l:List (List UInt8)):decide ((l.filter λn=>!decide (n=[])).length=l.length)=!zH [] l:=by
 induction l with
 | nil=>rfl
 | cons x r g =>
  have h:=List.length_filter_le (λn:List UInt8=>!decide (n=[])) r;by_cases f:x=[]
  ·subst f;have:zH [] ([]::r)=true:=by simp[zH]
   rw[this];simp only[List.filter_cons,decide_true,Bool.not_true,Ql,if_false,yg];simp only[decide_eq_false_iff_not];omega
  ·have:zH [] (x::r)=zH [] r:=by simp[zH,f,Ne.symm f]
   rw[this,<-g];simp[List.filter_cons,f]
def zj8:(decide (0<d.ops.length)&&(decide (d.ops.length=1)||!zH [] (d.ops.map (·.nm))))=Qd d:=by have f:=zh7 (d.ops.map (·.nm));rw[List.length_map]at f;rw[Qd,Ln,<-f]
def zf3(n:Int)(h:n=1∨n=2∨n=3∨n=4):ZQ s d n=Yu s d n:=by
 rcases h with rfl|rfl|rfl|rfl
 ·rfl
 ·exact zj8
 ·show (!decide (s.m=[])||!d.ops.any λo=>decide (o.k=1))=!d.ops.any λo=>decide (o.k=1)&&decide (s.m=[]);by_cases f:s.m=[]
  ·simp[f]
  ·simp[f]
 ·rfl
def zew(n:Int)(h:n=15∨n=16∨n=17):ZQ s d n=Yu s d n:=by
 rcases h with rfl|rfl|rfl
 ·exact XR s d (Xj s Zu)
 ·exact XR s d (Xj s λ_ l=>Ye [] l)
 ·exact XR s d (Xj s Wy)
end
section
variable {s:zg} {d:zv}
def zem(l:List yv):WL l=Z1 (l.map (·.nm)):=by
 have h:∀(l a:List yv),UJ a l=W8 (a.map (·.nm)) (l.map (·.nm)):=by
  intro l;induction l with
  | nil=>intro a;rfl
  | cons x r g =>
   intro a;have f:(a.any λj=>decide (j.nm=x.nm))=zH x.nm (a.map (·.nm)):=by rw[Bool.eq_iff_iff,Zm,List.any_eq_true,List.mem_map];simp
   simp only[UJ,List.map_cons,W8,g,f,List.map_append,List.map_nil]
 exact h l []
def zdF(l:List z6):X2 [] l=Z1 (l.map (·.nm)):=by
 have h:∀(l a:List z6),X2 a l=W8 (a.map (·.nm)) (l.map (·.nm)):=by
  intro l;induction l with
  | nil=>intro a;rfl
  | cons x r g =>
   intro a;have f:a.any (Lf x.nm)=zH x.nm (a.map (·.nm)):=by rw[Bool.eq_iff_iff,Zm,List.any_eq_true,List.mem_map];simp[Lf]
   simp only[X2,List.map_cons,W8,g,f,List.map_append,List.map_nil]
 exact h l []
def Rm{m n:Int}{p:List yv->Bool}(h:∀i l,VH m n i l=!p l):∀(l:List (List yv)) (i:Nat),YA m n i l=!l.all p
 | [],_=>rfl
 | x::r,i=>by rw[YA,h,Rm h r,List.all_cons,Bool.not_and]
def Nj{m n:Int}:∀(a b:List (List yv)) (i:Nat),YA m n i (a++b)=(YA m n i a||YA m n (i+a.length) b)
 | [],b,i=>by simp[YA]
 | x::r,b,i=>by
  rw[L7,YA,YA,Nj r b,Bool.or_assoc,yg]
  congr 2
  rw[Nat.add_right_comm,Nat.add_assoc]
def Ma{m:Int}:∀(a:List (List yv)) (i:Nat),(i:Int)+a.length<=m->YA m 13 i a=!a.all λl=>decide (l.length=0)
 | [],_,_=>rfl
 | x::r,i,h=>by
  rw[yg]at h;have f:VH m 13 i x=!decide (x.length=0):=by
   have:(i:Int)<m:=xg
   show (decide ((i:Int)<m)&&decide (0<x.length))=_;rw[decide_eq_true this,Bool.true_and,Bool.eq_iff_iff];simp;cases x<;>simp
  rw[YA,f,Ma r (i+1) (by push_cast;omega),List.all_cons,Bool.not_and]
def M3{m:Int}:∀(a:List (List yv)) (i:Nat),m<=i->YA m 13 i a=false
 | [],_,_=>rfl
 | x::r,i,h=>by
  have f:VH m 13 i x=false:=by
   have:¬ (i:Int)<m:=xg
   show (decide ((i:Int)<m)&&decide (0<x.length))=_;rw[decide_eq_false this,Bool.false_and]
  rw[YA,f,M3 r (i+1) (by push_cast;omega)];rfl
def zd3(n:Int)(h:n=12∨n=13∨n=14):ZQ s d n=Yu s d n:=by
 rcases h with rfl|rfl|rfl
 ·show ((Ui d).all YE&&Yw s d (λ_ x=>YE (XE x)))=X1 s d 12;rw[X1,Rm (p:=YE) (λ_ _=>rfl),Bool.not_not,Y7,List.all_append,XR,List.all_map];rfl
 ·show (Ui d).all (λl=>decide (l.length=0))=X1 s d 13;have f:(Ui d).length=d.ops.length+d.frags.length:=by simp[Ui]
  rw[X1,Y7,Nj,Ma _ _ (by rw[f];push_cast;omega),M3 _ _ (by rw[f];push_cast;omega),Bool.or_false,Bool.not_not]
 ·show ((Ui d).all WL&&Yw s d (λ_ x=>WL (XE x)))=X1 s d 14;rw[X1,Rm (p:=WL) (λ_ l=>by rw[zem];rfl),Bool.not_not,Y7,List.all_append,XR,List.all_map];rfl
def zd2(n:Int)(h:n=18∨n=19∨n=20∨n=21):ZQ s d n=Yu s d n:=by
 have g:(∀o,(!Ue s d n o)=TE s d n o)->(!d.ops.any λo=>!Ue s d n o)=!d.ops.any (TE s d n):=λh=>by rw[show (λo=>!Ue s d n o)=TE s d n from funext h]
 have j:∀o:Y6,∀x,(zB o.vars x).isSome=zH x (o.vars.map (·.nm)):=λo x=>by rw[Bool.eq_iff_iff,Zm,zB,List.find?_isSome,List.mem_map];simp[Lf]
 rcases h with rfl|rfl|rfl|rfl
 ·refine g λo=>?_;show (!X2 [] o.vars)=!Z1 (o.vars.map (·.nm));rw[zdF]
 ·refine g λo=>?_;show (!!o.vars.any λf=>!XW s f.t.nm)=!o.vars.all λf=>XW s f.t.nm;rw[List.all_eq_not_any_not]
 ·refine g λo=>?_;show (!!(YT d o.sels).any λn=>!(zB o.vars n).isSome)=!(YT d o.sels).all λx=>zH x (o.vars.map (·.nm));rw[List.all_eq_not_any_not];simp only[j]
 ·refine g λo=>?_;show (!!o.vars.any λf=>!zH f.nm (YT d o.sels))=!(o.vars.map (·.nm)).all λx=>zH x (YT d o.sels);rw[List.all_eq_not_any_not,List.any_map];rfl
end
section
variable {s:zg} {d:zv}
def zcx{n:B8}(h:y9 s n=true):Z0 s n=false:=by
 simp only[y9,Z0,yA]at h ⊢;cases hf:zL s n with
 | none=>rfl
 | some e =>rw[hf]at h;simp only[Option.any_some,OO,Uz,Zh,Bool.or_false]at h ⊢;rw[Bool.eq_false_iff];intro f;simp at h f;omega
def zl8(t:Zr):NY s t.1 t.2=LC s d 10 t:=by
 obtain⟨g,⟨k,j,f,p,v,z,h⟩⟩:=t;show NY s g (.mk k j f p v z h)=(!decide (k=0)||(!(Z0 s ((zG s g f).getD zF).t.nm&&decide (0<h.length))&&(!y9 s ((zG s g f).getD zF).t.nm||decide (0<h.length))));rw[NY];by_cases y:k=0
 case neg=>simp[y]
 have C:zz s g (.mk k j f p v z h)=((zG s g f).getD zF).t.nm:=by rw[zz,if_pos y]
 rw[C];have G:=@zcx s ((zG s g f).getD zF).t.nm;cases A:y9 s ((zG s g f).getD zF).t.nm with
 | true=>rw[G A];cases decide (0<h.length)<;>simp
 | false=>cases Z0 s ((zG s g f).getD zF).t.nm<;>cases decide (0<h.length)<;>simp
def zei(n:Int)(h:n=9∨n=10∨n=11):ZQ s d n=Yu s d n:=by
 have g:∀f:B8->zj->Bool,(∀t:Zr,f t.1 t.2=LC s d n t)->Yw s d f=(Zf s d).all (LC s d n):=λf h=>by rw[XR,show (λt:Zr=>f t.1 t.2)=LC s d n from funext h]
 rcases h with rfl|rfl|rfl
 ·show (Yw s d (LK s d 9)&&true)=_;rw[Bool.and_true];refine g _ λt=>?_;obtain⟨A,⟨k,j,y,p,v,z,C⟩⟩:=t;rfl
 ·show (Yw s d (LK s d 10)&&true)=_;rw[Bool.and_true];exact g _ λt=>zl8 t
 ·show (Yw s d (LK s d 11)&&true)=_;rw[Bool.and_true];refine g _ λt=>?_;obtain⟨A,⟨k,j,y,p,v,z,C⟩⟩:=t;rfl
mutual
def zmH:∀(x:zj) (typ:B8),(!KO s x)=(S0 s typ x).all (p5R s)| .mk k al nm args dirs on sels,typ=>by rw[KO,S0,List.all_cons,<-P0 sels];show _=((!(decide (k=2)&&!decide (on=[]))||y9 s on)&&_);cases decide (k=2)<;>cases decide (on=[])<;>cases y9 s on<;>simp
def P0:∀(l:List zj) (typ:B8),Tr s l=(Yq s typ l).all (p5R s)
 | [],_=>rfl
 | x::r,typ=>by rw[Tr,Yq,List.all_append,zmH x typ,P0 r typ]
end
def zjm:ZQ s d 5=Yu s d 5:=by
 show (!(d.frags.any λf=>!y9 s f.on)&&!((yQ d).any λl=>!Tr s l))=((d.frags.all λf=>y9 s f.on)&&(Zf s d).all (p5R s));rw[<-List.all_eq_not_any_not,<-List.all_eq_not_any_not,yQ,Zf,List.all_append,List.all_append,T4,T4,List.all_map,List.all_map]
 congr 1
 congr 1
 ·congr 1;funext o;exact P0 _ _
 ·congr 1;funext o;exact P0 _ _
end
section
variable {s:zg} {d:zv}
mutual
def zoa:∀(x:zj) (typ:B8),(S0 s typ x).all (p6R d)=true↔∀n,zje n x->(yb d n).isSome=true
 | .mk k al nm args dirs on sels,typ=>by
  rw[S0,List.all_cons,yu,KM sels];show ((!decide (k=1)||(yb d nm).isSome)=true/\_)↔_;simp only[zje];constructor
  ·rintro⟨j,p⟩ n (⟨f,v⟩|f)
   ·subst v;simpa[f]using j
   ·exact p n f
  ·intro g;refine⟨?_,λn y=>g n (.inr y)⟩;by_cases h:k=1
   ·simp[g nm (.inl ⟨h,rfl⟩)]
   ·simp[h]
def KM:∀(l:List zj) (typ:B8),(Yq s typ l).all (p6R d)=true↔∀n,Qk n l->(yb d n).isSome=true
 | [],_=>by simp[Yq,Qk]
 | x::r,typ=>by rw[Yq,List.all_append,yu,zoa x typ,KM r typ];simp only[Qk];exact⟨λ⟨h,j⟩ n f=>f.elim (h n) (j n),λg=>⟨λn f=>g n (.inl f),λn f=>g n (.inr f)⟩⟩
end
def LX(l:List zj)(typ:B8):(!QC d l)=(Yq s typ l).all (p6R d):=by
 rw[Bool.eq_iff_iff,KM,QC,Bool.not_eq_true',List.any_eq_false];constructor
 ·intro f n h;have:=f n ((R9 n l []).2 (.inr h));revert this;cases (yb d n).isSome<;>simp
 ·intro f n h;rcases(R9 n l []).1 h with g|g
  ·cases g
  ·simp[f n g]
def zi4:ZQ s d 6=Yu s d 6:=by
 show (!(yQ d).any (QC d))=(Zf s d).all (p6R d);have e:(!(yQ d).any (QC d))=(yQ d).all λl=>!QC d l:=by rw[List.all_eq_not_any_not];simp
 rw[e,yQ,Zf,List.all_append,List.all_append,T4,T4,List.all_map,List.all_map]
 congr 1
 ·congr 1;funext o;exact LX _ _
 ·congr 1;funext o;exact LX _ _
def RR{f:yE}(hf:f∈d.frags)(h:List zj):zH f.nm (Zl d h)=zH f.nm (Zx d h):=by rw[Bool.eq_iff_iff,Zm,Zm,zdQ];exact⟨λg=>g.1,λg=>⟨g,List.mem_map_of_mem hf⟩⟩
def zki:Vv d=Sh d:=by
 rw[Bool.eq_iff_iff,Vv,Sh,List.any_eq_true,List.any_eq_true];constructor
 ·rintro⟨g,hf,f⟩;exact⟨g,hf,by rw[RR hf];exact f⟩
 ·rintro⟨g,hf,f⟩;exact⟨g,hf,by rw[RR hf]at f;exact f⟩
def LW(x:B8):x∈ziT d↔∃o∈d.ops,x∈Zx d o.sels:=by
 have h:∀(f:List Y6) (l:B9),x∈f.foldl (λl o=>l++Zx d o.sels) l↔x∈l∨∃o∈f,x∈Zx d o.sels:=by
  intro f;induction f with
  | nil=>intro l;simp
  | cons o r g=>intro l;rw[List.foldl_cons,g,List.mem_append];simp[or_assoc]
 have:=h d.ops [];simpa[ziT]using this
def zm4:Mj d=Tt d:=by
 rw[Bool.eq_iff_iff,Mj,Bool.not_eq_true',List.any_eq_false,Tt,Yh];refine⟨λh f hf=>?_,λh f hf=>?_⟩
 ·have j:=h f hf;simp only[Bool.not_eq_true,Bool.not_eq_false',Bool.not_eq_false]at j;obtain⟨o,ho,g⟩:=(LW _).1 ((Zm ..).1 (xy j));exact List.any_eq_true.2 ⟨o,ho,by rw[RR hf];exact(Zm ..).2 g⟩
 ·obtain⟨o,ho,g⟩:=List.any_eq_true.1 (h f hf);rw[RR hf]at g;have:=(Zm ..).2 ((LW f.nm).2 ⟨o,ho,(Zm ..).1 g⟩);simp[this]
def zez(n:Int)(h:n=6∨n=7∨n=8):ZQ s d n=Yu s d n:=by
 rcases h with rfl|rfl|rfl
 ·exact zi4
 ·show (!Vv d)=!Sh d;rw[zki]
 ·exact zm4
end
section
variable {s:zg} {d:zv}
def OJ{f:List z6}{l:List yU}(h:Zu f l=true):Pq s f l=VT s f l:=by
 rw[Pq,VT];have:∀m∈l,(zB f (mN m)).isSome=true:=λm j=>Yh.1 h m j;clear h;induction l with
 | nil=>rfl
 | cons m r y =>
  rw[List.all_cons,List.all_cons,y λx v=>this x (YN _ v)]
  congr 1
  have g:=this m (YS ..);obtain⟨n,A⟩:=m;simp only[mN]at g;simp only[Km];cases p:zB f n with
  | none=>rw[p]at g;cases g
  | some z=>rfl
def NP{t:Zr}(h:Xj s Zu t.1 t.2=true):Xj s (Pq s) t.1 t.2=Xj s (VT s) t.1 t.2:=by
 rw[U6]at h ⊢;rw[U6];rw[yu,Yh]at h
 congr 1
 ·by_cases p:t.2.k=0
  ·have j:=h.1;simp only[p,decide_true,Bool.not_true,Bool.false_or]at j ⊢;exact OJ j
  ·simp[p]
 ·rw[Bool.eq_iff_iff,Yh,Yh];exact⟨λg x f=>by rw[<-OJ (h.2 x f)];exact g x f,λg x f=>by rw[OJ (h.2 x f)];exact g x f⟩
def Kx(h:ZQ s d 15=true):ZQ s d 22=Yu s d 22:=by
 have j:∀t∈Zf s d,Xj s Zu t.1 t.2=true:=by have:Yw s d (Xj s Zu)=true:=h;rw[XR,Yh]at this;exact this
 show ((d.ops.all λo=>zb5 s o.vars)&&Yw s d (Xj s (Pq s)))=((d.ops.all λo=>o.vars.all (Oy s))&&(Zf s d).all λt=>Xj s (VT s) t.1 t.2);rw[XR]
 congr 1
 rw[Bool.eq_iff_iff,Yh,Yh];exact⟨λg x f=>by rw[<-NP (j x f)];exact g x f,λg x f=>by rw[NP (j x f)];exact g x f⟩
end
section
variable {s:zg} {d:zv}
def Mp{p:B8->zj->Bool}(h:Yw s d p=true):(∀o∈d.ops,XC s p (ZS s o) o.sels=true)/\∀f∈d.frags,XC s p f.on f.sels=true:=by rw[Yw,yu,Yh,Yh]at h;exact h
def zbB(A:∀x∈yQ d,Sz d 40 x)(z:zt d<=ze)(C:WT s=true)(f:∀m:Int,1<=m->m<24->ZQ s d m=true):ZQ s d 24=Yu s d 24:=by have g:(Yw s d (LK s d 9)&&true)=true:=f 9 xg xg;rw[Bool.and_true]at g;have p:Yw s d (zfK s)=true:=f 16 xg xg;have v:Z1 (d.frags.map (·.nm))=true:=f 4 xg xg;have y:(!Vv d)=true:=f 7 xg xg;have j:LK s d 9=Rr s:=rfl;rw[j]at g;have a:=Mp g;have b:=Mp p;show (true&&mgM s d)=Uu s d;rw[Bool.true_and];exact zhe A z ((Kp _).1 v) (xy y) (λh hf=>⟨b.2 h hf,a.2 h hf⟩) (λo ho=>⟨b.1 o ho,a.1 o ho⟩) (zhH C)
end
section
variable {s:zg} {d:zv}
def zkq{f:List z6}{l:List yU}(h:Zu f l=true)(g:VT s f l=true):Ns s f l=Od s f l:=by
 rw[Ns,Od];induction l with
 | nil=>rfl
 | cons m r z =>
  rw[Zu,List.all_cons,yu]at h;rw[VT,List.all_cons,yu]at g;rw[List.flatMap_cons,List.flatMap_cons,z h.2 g.2]
  congr 1
  obtain⟨n,A⟩:=m;have j:=g.1;have p:=h.1;simp only[mN]at p;simp only[Km,Zs,yu]at j;simp only[Xx,XF];cases v:zB f n with
  | none=>rw[v]at p;cases p
  | some y =>rw[v]at j;exact zom s A _ y.t y.has false (ZG _) j.2
def Kn(s:zg)(t:Zr):Prop:=Xj s Zu t.1 t.2=true/\Xj s (VT s) t.1 t.2=true
def zpf{typ:B8}{k:Int}{y g:B8}{args:List yU}{f:List yv}{C:B8}{G:List zj}(h:Kn s (typ,.mk k y g args f C G)):PP s typ k g args++f.flatMap (Uq s)=Qq s typ k g args++f.flatMap (Um s):=by
 obtain⟨j,p⟩:=h;rw[U6]at j p;rw[yu,Yh]at j p;have I:PP s typ k g args=Qq s typ k g args:=by
  rw[PP,Qq];by_cases v:k=0
  ·rw[if_pos v,if_pos v];have a:=j.1;have b:=p.1;have J:(zj.mk k y g args f C G).k=0:=v;simp only[J,decide_true,Bool.not_true,Bool.false_or]at a b;exact zkq a b
  ·rw[if_neg v,if_neg v]
 have z:∀x∈f,Uq s x=Um s x:=λx A=>zkq (j.2 x A) (p.2 x A);rw[I]
 congr 1
 clear j p;induction f with
 | nil=>rfl
 | cons x r L=>rw[List.flatMap_cons,List.flatMap_cons,z x (YS ..),L λM K=>z M (YN _ K)]
mutual
def zqB:∀(x:zj) (typ:B8),(∀t∈S0 s typ x,Kn s t)->vsS s x typ=usS s x typ| .mk k al nm args dirs on sels,typ,h=>by rw[S0]at h;rw[vsS,usS,zpf (h _ (YS ..)),zaJ sels _ λt f=>h t (YN _ f)]
def zaJ:∀(l:List zj) (typ:B8),(∀t∈Yq s typ l,Kn s t)->WP s l typ=Wp s l typ
 | [],_,_=>rfl
 | x::r,typ,h=>by rw[Yq]at h;rw[WP,Wp,zqB x typ λt f=>h t (Wf _ f),zaJ r typ λt f=>h t (List.mem_append_right _ f)]
end
def zpV(h:∀t∈Zf s d,Kn s t){o:Y6}(ho:o∈d.ops):QM s d o=Q0 s d o:=by
 have j:∀t∈Yq s (ZS s o) o.sels,Kn s t:=λt g=>h t (Wf _ (List.mem_flatMap.2 ⟨o,ho,g⟩));have p:∀f∈d.frags,∀t∈Yq s f.on f.sels,Kn s t:=λf hf t g=>h t (List.mem_append_right _ (List.mem_flatMap.2 ⟨f,hf,g⟩));have e:Nl s d=Nr s d:=by
  funext n;rw[Nl,Nr];cases v:yb d n with
  | none=>rfl
  | some f=>exact zaJ f.sels f.on (p f (List.mem_of_find?_eq_some v))
 rw[QM,Q0,zaJ _ _ j,e]
end
section
variable {s:zg} {d:zv}
def zh4(v:∀x∈yQ d,Sz d 40 x)(j:zt d<=ze)(y:WT s=true)(h:(∀m:Int,1<=m->m<23->ZQ s d m=true)->ZQ s d 23=Yu s d 23):Nu s d 24 1=V9 s d 24 1:=by
 refine zgc λn z A g=>?_;have p:n=5∨(n=1∨n=2∨n=3∨n=4)∨(n=6∨n=7∨n=8)∨(n=9∨n=10∨n=11)∨(n=12∨n=13∨n=14)∨(n=15∨n=16∨n=17)∨(n=18∨n=19∨n=20∨n=21)∨n=22∨n=23∨n=24:=xg
 rcases p with rfl|f|f|f|f|f|f|rfl|rfl|rfl
 ·exact zjm
 ·exact zf3 n f
 ·exact zez n f
 ·exact zei n f
 ·exact zd3 n f
 ·exact zew n f
 ·exact zd2 n f
 ·exact Kx (g 15 xg xg)
 ·exact h g
 ·exact zbB v j y g
end
mutual
def Mw:∀(v:Val) (a:B9) (x:B8),x∈a->x∈yN v a
 | .mk k q st l m,a,x,h=>by
  rw[yN];split
  ·split
   ·exact h
   ·exact Wf _ h
  ·split
   ·exact Rz l a x h
   ·split
    ·exact S2 m a x h
    ·exact h
def Rz:∀(l:List Val) (a:B9) (x:B8),x∈a->x∈Xz l a
 | [],_,_,h=>by rw[Xz];exact h
 | v::r,a,x,h=>by rw[Xz];exact Rz r _ x (Mw v a x h)
def zdY:∀(m:yU) (a:B9) (x:B8),x∈a->x∈Pu m a| .mk n v,a,x,h=>by rw[Pu];exact Mw v a x h
def S2:∀(l:List yU) (a:B9) (x:B8),x∈a->x∈XH l a
 | [],_,_,h=>by rw[XH];exact h
 | v::r,a,x,h=>by rw[XH];exact S2 r _ x (zdY v a x h)
end
def Kl{x:B8}{v:Val}(h:∀a,x∈yN v a):∀(l:List Val) (a:B9),v∈l->x∈Xz l a
 | w::r,a,f=>by
  rw[Xz];rcases List.mem_cons.1 f with e|f
  ·rw[<-e];exact Rz r _ x (h a)
  ·exact Kl h r _ f
def KA{x n:B8}{v:Val}(h:∀a,x∈yN v a):∀(l:List yU) (a:B9),yU.mk n v∈l->x∈XH l a
 | w::r,a,f=>by
  rw[XH];rcases List.mem_cons.1 f with e|f
  ·rw[<-e,Pu];exact S2 r _ x (h a)
  ·exact KA h r _ f
def zgb(s:zg):∀h:Val,∀(n:Nat) (t:X4) (b:Bool) (y:ZK),y∈spF false s n t b h->∀a,y.nm∈yN h a:=by
 refine Val.ind λk q L l m I J n=>?_;induction n with
 | zero=>intro t b y f;rw[spF]at f;cases f
 | succ n G =>
  intro t b y f a;rw[spF,spB]at f;rw[yN];by_cases z:k=8
  ·rw[if_pos z]at f ⊢;rw[List.mem_singleton]at f;rw[f];split
   ·rename_i C;exact(Zm _ _).1 C
   ·simp
  rw[if_neg z]at f ⊢;cases hi:ZH t with
  | some it =>
   rw[hi]at f;simp only at f;by_cases p:k=6
   ·rw[if_pos p]at f ⊢;obtain⟨h,j,g⟩:=List.mem_flatMap.1 f;exact Kl (I h j n it false y g) l a j
   ·rw[if_neg p]at f;have A:=G it false y f a;rw[yN,if_neg z]at A;exact A
  | none =>
   rw[hi]at f;simp only at f;by_cases v:k=7
   ·rw[if_pos v]at f;have p:¬ k=6:=xg
    rw[if_neg p,if_pos v];obtain⟨⟨K,h⟩,j,g⟩:=List.mem_flatMap.1 f;simp only[Sv]at g;split at g
    ·simp at g
    ·exact KA (J K h j n _ _ y g) m a j
   ·rw[if_neg v]at f;cases f
def Kg(s:zg)(j:List z6){l:List yU}{y:ZK}(h:y∈Od s j l)(a:B9):y.nm∈l.foldl Mc a:=by
 rw[RX MD];obtain⟨⟨n,p⟩,g,f⟩:=List.mem_flatMap.1 h;refine .inr ⟨_,g,?_⟩;rw[Mc,Mb];rw[XF]at f;split at f
 ·cases f
 ·exact .inr (zgb s p _ _ _ y f [])
mutual
def zhV(s:zg):∀(x:zj) (typ:B8) (y:ZK),y∈usS s x typ->∀a,y.nm∈wrS x a
 | .mk k al nm args dirs on sels,typ,y,f,a=>by
  rw[usS,Uh,List.mem_append,List.mem_append]at f;rw[wrS];rcases f with f|f|f
  ·rw[UH,Grow.foldl M1];refine .inl (.inl ?_);rw[Qq]at f;split at f
   ·exact Kg s _ f a
   ·cases f
  ·rw[UH,RX M1];obtain⟨x,g,h⟩:=List.mem_flatMap.1 f;exact .inl (.inr ⟨x,g,Kg s _ h []⟩)
  ·exact RK s sels _ y f _
def RK(s:zg):∀(l:List zj) (typ:B8) (y:ZK),y∈Wp s l typ->∀a,y.nm∈Wm l a
 | [],typ,y,f,a=>by rw[Wp]at f;cases f
 | x::r,typ,y,f,a=>by
  rw[Wp,List.mem_append]at f;rw[Wm];rcases f with f|f
  ·rw[UH];exact .inl (zhV s x typ y f a)
  ·exact RK s r typ y f _
end
section
variable {s:zg} {d:zv}
def zhM{o:Y6}{y:ZK}(h:y∈Q0 s d o):y.nm∈YT d o.sels:=by
 rw[zgi];rw[Q0,List.mem_append]at h;rcases h with h|h
 ·exact .inl (RK s _ _ y h [])
 ·obtain⟨n,f,g⟩:=List.mem_flatMap.1 h;exact .inr ⟨n,f,RK s _ _ y g []⟩
def Lc{α:Type}{p q:α->Bool}{l:List α}(h:∀x∈l,p x=q x):l.all p=l.all q:=by rw[Bool.eq_iff_iff,Yh,Yh];exact⟨λg x f=>by rw[<-h x f];exact g x f,λg x f=>by rw[h x f];exact g x f⟩
def zhq(h:∀m:Int,1<=m->m<23->ZQ s d m=true):ZQ s d 23=Yu s d 23:=by
 have v:∀t∈Zf s d,Xj s Zu t.1 t.2=true:=by have:Yw s d (Xj s Zu)=true:=h 15 xg xg;rw[XR,Yh]at this;exact this
 have z:∀t∈Zf s d,Xj s (VT s) t.1 t.2=true:=by have f:=h 22 xg xg;rw[Kx (h 15 xg xg)]at f;have g:((d.ops.all λo=>o.vars.all (Oy s))&&(Zf s d).all λt=>Xj s (VT s) t.1 t.2)=true:=f;rw[yu,Yh]at g;rw[Yh]at g;exact g.2
 have y:∀o∈d.ops,∀n∈YT d o.sels,(zB o.vars n).isSome=true:=by have f:(!d.ops.any λo=>!Ue s d 20 o)=true:=h 20 xg xg;rw[<-List.all_eq_not_any_not,Yh]at f;intro o ho n A;have g:(!(YT d o.sels).any λn=>!(zB o.vars n).isSome)=true:=f o ho;rw[<-List.all_eq_not_any_not,Yh]at g;exact g n A
 show (d.ops.all λo=>(Q0 s d o).all (zbC o.vars))=d.ops.all λo=>(QM s d o).all (TX o.vars);refine Lc λo ho=>?_;rw[zpV (λt j=>⟨v t j,z t j⟩) ho];refine Lc λp G=>?_;have f:=y o ho p.nm (zhM G);rw[zbC,TX];cases C:zB o.vars p.nm with
 | none=>rw[C]at f;cases f
 | some I=>rfl
def zoP(g:∀x∈yQ d,Sz d 40 x)(f:zt d<=ze)(h:WT s=true):Nu s d 24 1=V9 s d 24 1:=zh4 g f h zhq
end
def zjc(l:B9)(A:l.length<=ze):zf 67 [.o 1 (cT l),.o 1 (cT l)] (.bool true):=by
 refine zo ir67 λKP Q v=>?_;have f:=zn l;simp only[ze]at A;refine xc f ?_;refine zc l 5 (λx:Unit=>[]) (λh C x H=>True) () xb trivial ?_ ?_
 ·rintro _ H j _ g;refine xd f g ?_;exact xo v
 ·rintro h x C _ H j y g G _ p;have z:(cT l).getD h.length []=[.str x]:=by rw[y];simp[cT]
  refine xP f g z ?_;exact zJ (p () H trivial) xb
def zeI(l:List z6)(J:Wx l<=ze):zf 68 [.o 10 (Yg l),.o 10 (Yg l)] (.bool true):=by
 refine zo ir68 λKP Q I=>?_;have f:=yJ l;have O:=yr l;have K:=J;simp only[ze]at K;refine xc f ?_;refine zc l 5 (λx:Unit=>[]) (λj z x H=>True) () xb trivial ?_ ?_
 ·rintro _ H C _ g;refine xd f g ?_;exact xo I
 ·rintro j x z _ H C v g M _ G;have h:=y6 v;have p:=Vc j x z;rw[<-v]at p;obtain⟨U,⟨X,tl,W⟩,L,A⟩:=x;simp only[bW]at p;rw[T7]at h;have y:=zce A xi A;rw[yz rfl]at y;simp(disch:=omega) only[zr,zm,zi,zq,zl,zh,zy,f,g,h,yj,K1.fits,VV,AV.keq1,Bool.and_true,go_sem];refine za y ?_;simp(disch:=omega) only[zr,zm,zi,zq,zl,zh,zy,f,g,h,wrap64,go_sem];exact zJ (G () H trivial) xb
def zox(x:Yv)(j:bL x<=ze):zf 69 [.agg (cL x),.agg (cL x)] (.bool true):=by refine zo ir69 λKP Q h=>?_;obtain⟨v,p,⟨z,tl,y⟩,f⟩:=x;simp only[bL]at j;have g:=RW f f xg;rw[yz rfl]at g;simp(disch:=omega) only[ir69,YG,yj,K1.fits,VV,AV.keq1,Bool.and_true,go_sem];refine za (zeI p xg) ?_;refine xh g ?_;exact vm h
def zsh(x:yX)(v:bE x<=ze):zf 25 [.agg (cE x),.agg (cE x)] (.bool true):=by
 refine zo ir25 λKP Q I=>?_;obtain⟨k,Z,j,flds,y,M⟩:=x;simp only[bE]at v;have f:=YM flds;have U:=YH flds;have X:=ZN j;have Y:=ZN y;have L:=v;simp only[ze]at L;refine x0 ?_;refine za (zjc j xg) ?_;refine xh (zjc y xg) ?_;refine xh (zeI M xg) ?_;refine xc f ?_;refine zc flds 5 (λx:Unit=>[]) (λh z x H=>True) () xb trivial ?_ ?_
 ·rintro _ H A _ g;refine xd f g ?_;exact xo I
 ·rintro h x z _ H A p g W _ G;have K:=XS p;have J:=PM h x z;rw[<-p]at J;have hf:=zox x xg;have C:(cL x).length=6:=rfl;have O:(cL x).take 6=cL x:=rfl;refine xU f g K C O hf ?_;refine xq ?_;exact zJ (G () H trivial) xb
def zsy(s:zg)(v:zA s<=ze):zf 10 [.agg (zk s),.agg (zk s)] (.bool true):=by
 refine zo ir10 λKP Q I=>?_;obtain⟨f,q,m⟩:=s;simp only[zA]at v;have A:zk ⟨f,q,m⟩=[.o 6 (Vd f),.str q,.str m]:=rfl;have g:=YX f;have O:=VP f;have L:=v;simp only[ze]at L;rw[A];refine xc g ?_;refine zc f 5 (λx:Unit=>[]) (λj y x H=>True) () xb trivial ?_ ?_
 ·rintro _ H z _ h;refine xd g h ?_;exact xo I
 ·rintro j x y _ H z p h U _ G;have K:=Xc p;have J:=P1 j x y;rw[<-p]at J;have hf:=zsh x xg;have C:(cE x).length=6:=rfl;have M:(cE x).take 6=cE x:=rfl;refine xU g h K C M hf ?_;refine xq ?_;exact zJ (G () H trivial) xb
def zg3(a b:yE)(L:bF a<=ze):zf 27 [.agg (cF a),.agg (cF b)] (.bool (Th a b)):=by
 refine zo ir27 λKP Q G=>?_;obtain⟨v,z,f,j⟩:=a;obtain⟨y,A,g,p⟩:=b;simp only[bF]at L;have M:=L;simp only[ze]at M;simp(disch:=omega) only[ir27,cF,go_sem];by_cases C:v=y
 case neg =>
  have h:yE.mk v z f j≠yE.mk y A g p:=xr C
  exact vo C G (zw h)
 by_cases I:z=A
 case neg =>
  have h:yE.mk v z f j≠yE.mk y A g p:=xr I
  refine xd C I ?_;exact xj G (zw h)
 refine xn C I (RW f g xg) ?_;by_cases J:f=g
 case neg =>
  have h:yE.mk v z f j≠yE.mk y A g p:=xr J
  exact vo (zw J) G (zw h)
 refine xt (yz J) (Kf j p xg) ?_;by_cases K:j=p
 case neg =>
  have h:yE.mk v z f j≠yE.mk y A g p:=xr K
  exact vo (zw K) G (zw h)
 have O:yE.mk v z f j=yE.mk y A g p:=by rw[C,I,J,K]
 exact vo (yz K) G (yz O)
def ziC(a b:zv)(az:zt a<=ze):zf 11 [.agg (z8 a),.agg (z8 b)] (.bool (Th a b)):=by
 refine zo ir11 λKP Q aa=>?_;obtain⟨h,f⟩:=a;obtain⟨j,g⟩:=b;simp only[zt]at az;have Z:=ZI h;have ac:=ZI j;have ad:=Z5 f;have aj:=Z5 g;have a6:=ZJ h;have a7:=yP f;have a4:=az;simp only[ze]at a4;have a2:z8 ⟨h,f⟩=[.o 5 (PR h),.o 4 (Pf f)]:=rfl;have a3:z8 ⟨j,g⟩=[.o 5 (PR j),.o 4 (Pf g)]:=rfl;rw[a2,a3];by_cases ao:h.length=j.length
 case neg =>
  have ae:¬ ((h.length:Int)=j.length):=xg
  have K:zv.mk h f≠zv.mk j g:=λe=>ao (by rw[(zv.mk.inj e).1]);refine xe Z ac ae ?_;exact xj aa (zw K)
 have ae:((h.length:Int)=j.length)=True:=eq_true xg;by_cases am:f.length=g.length
 case neg =>
  have an:¬ ((f.length:Int)=g.length):=xg
  have K:zv.mk h f≠zv.mk j g:=λe=>am (by rw[(zv.mk.inj e).2]);refine xu Z ac ae ad aj an ?_;exact xj aa (zw K)
 have an:((f.length:Int)=g.length)=True:=eq_true xg;refine xu Z ac ae ad aj an ?_;refine zc h 5 ZY (λp ab n H=>j.take p.length=p) () xb rfl ?_ ?_
 ·rintro n H af L J;have a0:=UB ao L;refine xd Z J ?_;refine zc f 6 ZY (λp ab n H=>g.take p.length=p) () xb rfl ?_ ?_
  ·rintro n H af L J;have a1:=UB am L;have a5:zv.mk h f=zv.mk j g:=by rw[a0,a1]
   refine xd ad J ?_;exact xj aa (yz a5)
  ·rintro p x ab _ H af v J _ L ak;obtain⟨z,r,I⟩:=Ux v am L;have X:=Ym v;have Y:=Ym I;have ap:(p.length:Int)<g.length:=xg
   have al:=RQ p x ab;rw[<-v]at al;have ar:=Ve I;have aq:x≠z->f≠g:=Sl v I;have K:x≠z->zv.mk h f≠zv.mk j g:=λe ag=>aq e (zv.mk.inj ag).2;have G:=zg3 x z xi;obtain⟨M,av,A,U⟩:=x;obtain⟨O,aw,C,W⟩:=z;have ah:cF ⟨M,av,A,U⟩=[.str M,.str av,.o 2 (ZE A),.o 7 (Zp U)]:=rfl;have ai:cF ⟨O,aw,C,W⟩=[.str O,.str aw,.o 2 (ZE C),.o 7 (Zp W)]:=rfl;rw[ah]at X G;rw[ai]at Y G;refine xH ad aj J ap X Y G ?_;by_cases y:yE.mk M av A U=yE.mk O aw C W
   ·refine xc (yz y) ?_;exact zJ (ak () _ (wz y ar)) xf
   ·have:=K y;exact vo (zw y) aa (zw this)
 ·rintro p x ab _ H af v J _ L ak;obtain⟨z,r,I⟩:=Ux v ao L;have X:=Z6 v;have Y:=Z6 I;have ap:(p.length:Int)<j.length:=xg
  have al:=Wc p x ab;rw[<-v]at al;have ar:=Ve I;have aq:x≠z->h≠j:=Sl v I;have K:x≠z->zv.mk h f≠zv.mk j g:=λe ag=>aq e (zv.mk.inj ag).1;have G:=zkX x z xi;obtain⟨k,M,ax,A,U⟩:=x;obtain⟨au,O,ay,C,W⟩:=z;have ah:cO ⟨k,M,ax,A,U⟩=[.i k,.str M,.o 10 (Yg ax),.o 2 (ZE A),.o 7 (Zp U)]:=rfl;have ai:cO ⟨au,O,ay,C,W⟩=[.i au,.str O,.o 10 (Yg ay),.o 2 (ZE C),.o 7 (Zp W)]:=rfl;rw[ah]at X G;rw[ai]at Y G;refine xH Z ac J ap X Y G ?_;by_cases y:Y6.mk k M ax A U=Y6.mk au O ay C W
  ·refine xc (yz y) ?_;exact zJ (ak () _ (wz y ar)) xf
  ·have:=K y;exact vo (zw y) aa (zw this)
def zeM(m:List yU)(h:ZC m<=ze):zf 42 [.o 6 (Ya m)] (.o 6 (Ya m)) :=zj6 m h λs f j=>copyV f (by obtain⟨a,b,g⟩:=List.append_of_mem j;have:=Wb a (.mk s f) b;rw[<-g]at this;simp only[bM]at this;omega)
def za3(l:List yv)(M:We l<=ze):zf 18 [.o 2 (ZE l)] (.o 2 (ZE l)):=by
 refine zo ir18 λKP Q L=>?_;have p:=YB l;have W:=Y3 l;have O:=M;simp only[ze]at O;refine xa ?_;refine zc l 4 (λx:Own×List yv=>[(3,.sl x.1 2 (ZE x.2))]) (λf I x H=>x.2=f/\VD zd.emp H x.1 f.length 2) (.nil,[]) (by simp(disch:=omega) only[ZE,go_sem]) ⟨rfl,VD.nil _ _⟩ ?_ ?_
 ·rintro⟨o,f⟩ H J ⟨rfl,ho⟩ h;refine xd p h ?_;exact xo L
 ·rintro f x I ⟨o,ds⟩ H J A h U ⟨C,ho⟩ y;simp only at C ho y ⊢;obtain rfl:f=ds:=C.symm;have v:=Y0 A;have z:=VJ f x I;rw[<-A]at z;have g:=YB f;obtain⟨s,j⟩:=x;simp only[bD]at z;have K:cD ⟨s,j⟩=[.str s,.o 6 (Ya j)]:=rfl;rw[K]at v;refine xx p h v ?_;refine za (zeM j xi) ?_;refine xx p h v (zp (by rw[g];exact ho.own) ?_ ?_ λo' H' G=>?_)
  ·simp only[g,yg,yy];omega
  ·refine xR g ?_;omega
  rw[g]at G;refine xq ?_;refine zJ (y (o',f++[⟨s,j⟩]) H' ⟨rfl,(ho.stepS G).cast xw⟩) (by simp(disch:=omega) only[ZE,List.map_append,List.map_cons,cD,AV.strip1,go_sem])
def zoK:∀c:Nat,∀l:List zj,yR l<=c->c<=ze->zf 19 [.o 7 (Zp l)] (.o 7 (Zp l)):=by
 intro c;induction c using Nat.strongRecOn with
 | _ c ab =>
 intro l G Z;refine zo ir19 λKP Q Y=>?_;have y:=Z7 l;have ad:=YL l;have aa:=Z;simp only[ze]at aa;refine xa ?_;refine zc l 4 (λx:Own×List zj=>[(3,.sl x.1 7 (Zp x.2))]) (λf W x H=>x.2=f/\VD zd.emp H x.1 f.length 7) (.nil,[]) (by simp(disch:=omega) only[Zp,go_sem]) ⟨rfl,VD.nil _ _⟩ ?_ ?_
 ·rintro⟨o,f⟩ H X ⟨rfl,ho⟩ h;refine xd y h ?_;exact xo Y
 ·rintro f x W ⟨o,ds⟩ H X J h ac ⟨K,ho⟩ C;simp only at K ho C ⊢;obtain rfl:f=ds:=K.symm;have z:=YY J;have I:=WM f x W;rw[<-J]at I;have g:=Z7 f;obtain⟨k,A,O,p,v,U,j⟩:=x;simp only[bS]at I;rw[Zt]at z;refine xe y h z (zb λb G=>?_);have L:=ho.upd (x:=.cells [.i k,.str A,.str O,.o 6 (Ya p),.o 2 (ZE v),.str U,.o 7 (Zp j)]) G;refine xm y h z (zeM p xi) ?_;refine xh (za3 v xi) ?_;refine xh (ab (yR j) xg j (ZG _) xi) ?_;refine xa (zp (by rw[g];exact L.own) ?_ ?_ λo' H' M=>?_)
  ·simp only[g,yg,yy];omega
  ·refine xR g ?_;omega
  rw[g]at M;refine xq ?_;refine zJ (C (o',f++[.mk k A O p v U j]) H' ⟨rfl,(L.stepS M).cast xw⟩) (by simp(disch:=omega) only[R7,List.map_append,List.map_cons,Zt,AV.strip1,go_sem])
def zeC(l:List zj)(f:yR l<=ze):zf 19 [.o 7 (Zp l)] (.o 7 (Zp l)):=zoK (yR l) l (ZG _) f
def zjD(k:Int)(g:B8)(j:List z6)(f:List yv)(h:List zj):cO ⟨k,g,j,f,h⟩=[.i k,.str g,.o 10 (Yg j),.o 2 (ZE f),.o 7 (Zp h)]:=rfl
def zhU(g h:B8)(f:List yv)(j:List zj):cF ⟨g,h,f,j⟩=[.str g,.str h,.o 2 (ZE f),.o 7 (Zp j)]:=rfl
def zfi{H:zd}{c b d n sz:Nat}{f:List AV}(h:zM H (.tip b d) n sz)(g:H c=some (.cells f)):b≠c:=λe=>by subst e;have:H b=some (.tip (d+n) sz):=h;rw[g]at this;cases this
def UF{H H':zd}{o:Own}{n sz c:Nat}{f:List AV}(h:zM H o n sz)(g:H c=some (.cells f))(j:Kept H o H'):H' c=some (.cells f) :=j c _ g λd e=>by subst e;exact zfi h g rfl
def TU{H:zd}{o:Own}{n sz c:Nat}{f:List AV}{x:Yr}(h:zM H o n sz)(g:H c=some (.cells f)):zM (H.upd c x) o n sz:=by
 cases o with
 | tip b d=>have:=zfi h g;show (H.upd c x) b=_;rw[upd_ne this];exact h
 | no=>exact h
 | nil=>exact h
 | full=>exact h
structure DB (bo:Nat) (H:zd) (a:List Y6) (c:List yE) (o1 o2:Own):Prop where
 box:H bo=some (.cells [.sl o1 5 (PR a),.sl o2 4 (Pf c)])
 own1:zM H o1 a.length 5
 own2:zM H o2 c.length 4
 sep:∀b x c y,o1=.tip b x->o2=.tip c y->b≠c
section
variable {bo:Nat} {H H':zd} {a:List Y6} {c:List yE} {o1 o2 o':Own}
def DB.new{b:Nat}{x:Yr}(h:DB bo H a c o1 o2)(f:H b=none):DB bo (H.upd b x) a c o1 o2 :=⟨by rw[upd_ne (λe=>by have:=h.box;rw[e,f]at this;cases this)];exact h.box,h.own1.upd f,h.own2.upd f,h.sep⟩
def MK{o:Own}{n sz:Nat}(h:zM H o n sz)(g:∀b x,H b=some x->H' b=some x):zM H' o n sz:=by
 cases o with
 | tip c d=>have f:H c=some _:=h;exact g c _ f
 | no=>exact h
 | nil=>exact h
 | full=>exact h
def DB.kept(h:DB bo H a c o1 o2)(f:∀b x,H b=some x->H' b=some x):DB bo H' a c o1 o2 :=⟨f _ _ h.box,MK h.own1 f,MK h.own2 f,h.sep⟩
def zfP{f o:Own}{n sz:Nat}(h:zM H f n sz)(p:Kept H o H')(v:∀b x c g,o=.tip b x->f=.tip c g->b≠c):zM H' f n sz:=by
 cases f with
 | tip c g =>have j:H c=some _:=h;exact p c _ j λd e=>v c d c g e rfl rfl
 | no=>exact h
 | nil=>exact h
 | full=>exact h
def DB.cell{b:Nat}{g:List AV}(h:DB bo H a c o1 o2)(f:H b=some (.cells g))(j:bo≠b)(x:Yr):DB bo (H.upd b x) a c o1 o2 :=⟨by rw[upd_ne j];exact h.box,TU h.own1 f,TU h.own2 f,h.sep⟩
def DB.op{n:Nat}{xs:List (List AV)}(h:DB bo H a c o1 o2)(x:Y6)(f:zQ H o1 H' o' n 5)(A:n=(a++[x]).length)(C:xs=PR (a++[x])):
  DB bo (H'.upd bo (.cells [.sl o' 5 xs,.sl o2 4 (Pf c)])) (a++[x]) c o' o2:=by
 have v:=UF h.own1 h.box f.kept;subst A;subst C;refine⟨upd_same ..,TU f.own v,TU (zfP h.own2 f.kept h.sep) v,λb x c G z j=>?_⟩;rcases f.new b x z with g|⟨y,g⟩
 ·subst j;intro e;have p:H c=some _:=h.own2;rw[<-e,g]at p;cases p
 ·exact h.sep b y c G g j
def DB.frag{n:Nat}{xs:List (List AV)}(h:DB bo H a c o1 o2)(x:yE)(g:zQ H o2 H' o' n 4)(C:n=(c++[x]).length)(G:xs=Pf (c++[x])):
  DB bo (H'.upd bo (.cells [.sl o1 5 (PR a),.sl o' 4 xs])) a (c++[x]) o1 o':=by
 have z:=UF h.own2 h.box g.kept;subst C;subst G;refine⟨upd_same ..,TU (zfP h.own1 g.kept λb x c v f j=>Ne.symm (h.sep c v b x j f)) z,TU g.own z,λb x c v f j=>?_⟩;rcases g.new c v j with p|⟨A,p⟩
 ·subst f;intro e;have y:H b=some _:=h.own1;rw[e,p]at y;cases y
 ·exact h.sep b x c A f p
end
def zne(d:zv)(bc:zt d<=1048576):zf 7 [.agg (z8 d)] (.agg (z8 d)):=by
 refine zo ir7 λKP Q av=>?_;obtain⟨M,O⟩:=d;have a4:z8 ⟨M,O⟩=[.o 5 (PR M),.o 4 (Pf O)]:=rfl;rw[a4]at av ⊢;simp only[zt]at bc;have bj:=ZJ M;have bh:=yP O;have ax:=ZI M;have aw:=Z5 O;refine xa ?_;refine zb λC bg=>?_;refine xa ?_;refine zb λG bd=>?_;have Z:G≠C:=nen2 upd_same bd;refine xa ?_;obtain⟨H0,af⟩:∃H0,H0=((zd.emp).upd C (.cells [.sl .nil 5 [],.sl .nil 4 []])).upd G (.cells [.sl .nil 5 [],.sl .nil 4 []]):=⟨_,rfl⟩;have az:DB G H0 [] [] .nil .nil:=⟨by rw[af,upd_same];rfl,rfl,rfl,nofun⟩;have a5:H0 C=some (.cells [.sl .nil 5 [],.sl .nil 4 []]):=by rw[af,upd_ne (Ne.symm Z),upd_same]
 try simp only[Ut]
 rw[<-af];clear af;refine zc M 4 (λx:Own=>[]) (λh ab x H=>DB G H h [] x .nil/\H C=some (.cells [.sl .nil 5 [],.sl .nil 4 []])) .nil xb ⟨az,a5⟩ ?_ ?_
 ·rintro o1 au a2 ⟨ac,ad⟩ ao;refine xd ax ao ?_;refine zc O 6 (λx:Own=>[]) (λh ab x H=>DB G H M h o1 x/\H C=some (.cells [.sl .nil 5 [],.sl .nil 4 []])) .nil xb ⟨ac,ad⟩ ?_ ?_
  ·rintro o2 j a3 ⟨I,U⟩ ap;have a8:=I.box;refine xu aw ap a8 U Z (Ne.symm Z) ?_;exact @av _ _ [.agg [.sl o1 5 (PR M),.sl o2 4 (Pf O)]] xb xw
  ·rintro h x ab o2 j a3 J ap bn ⟨I,U⟩ am;have K:=Ym J;have aa:=RQ h x ab;rw[<-J]at aa;obtain⟨z,ah,f,g⟩:=x;simp only[bF]at aa;rw[zhU]at K;have an:=congrArg List.length J;simp only[ZX,yg]at an;have y:=Z5 h;refine xe aw ap K ?_;refine zb λp v=>?_;have W:p≠G:=λe=>by subst e;rw[I.box]at v;cases v
   have ae:p≠C:=nen2 U v;refine xc K ?_;have A:=I.new (x:=.cells [.str z,.str ah,.o 2 (ZE f),.o 7 (Zp g)]) v;have ai:(j.upd p (.cells [.str z,.str ah,.o 2 (ZE f),.o 7 (Zp g)])) p=some (.cells [.str z,.str ah,.o 2 (ZE f),.o 7 (Zp g)]):=upd_same ..;refine za (za3 f xi) ?_;refine xh (zeC g xi) ?_;have ak:=I.box;refine xe ak W (Ne.symm W) ?_;refine zp (by rw[y];exact A.own2) (wT y) (wN y) λar a1 L=>?_;have al:=UF A.own2 A.box L.kept;have aj:=UF A.own2 (show _=some (.cells _) from (upd_ne (Ne.symm ae)).trans U) L.kept;refine xB al ?_;refine zJ (am ar _ ⟨A.frag ⟨z,ah,f,g⟩ (by simpa[y]using L) xw (by simp[Pf,zhU,AV.strip1]),by rw[upd_ne (Ne.symm Z)];exact aj⟩) xb
 ·rintro h x ab o1 au a2 J ao bl ⟨ac,ad⟩ am;have K:=Z6 J;have aa:=Wc h x ab;rw[<-J]at aa;have y:=ZI h;obtain⟨k,z,X,f,g⟩:=x;simp only[bO]at aa;have bp:=yr X;have ay:=yJ X;have an:=congrArg List.length J;simp only[ZX,yg]at an;rw[zjD]at K;refine xe ax ao K ?_;refine zb λp v=>?_;have W:p≠G:=λe=>by subst e;rw[ac.box]at v;cases v
  have ae:p≠C:=nen2 ad v;refine xc K ?_;obtain⟨j,ag⟩:∃j,j=au.upd p (.cells [.i k,.str z,.o 10 (Yg X),.o 2 (ZE f),.o 7 (Zp g)]):=⟨_,rfl⟩;have I:DB G j h [] o1 .nil:=by rw[ag];exact ac.new v
  have U:j C=some (.cells [.sl .nil 5 [],.sl .nil 4 []]):=by rw[ag,upd_ne (Ne.symm ae)];exact ad
  have a6:j p=some (.cells [.i k,.str z,.o 10 (Yg X),.o 2 (ZE f),.o 7 (Zp g)]):=by rw[ag,upd_same]
  try simp only[Ut]
  rw[<-ag];refine zp (o:=.nil) rfl (by simp only[ay,yy];omega) (ve ay) λbf a0 be=>?_;have aq:∀b x,j b=some x->a0 b=some x:=λb x ba=>be.kept b x ba nofun;have A:=I.kept aq;have a7:=aq _ _ U;have ai:=aq _ _ a6;simp(disch:=first|omega|assumption) only[ai,TB,Kd,go_sem];refine za (za3 f xi) ?_;refine xh (zeC g xi) ?_;have ak:=A.box;refine xe ak W (Ne.symm W) ?_;have Y:=A.cell ai (Ne.symm W) (.cells [.i k,.str z,.sl bf 10 (Yg X),.o 2 (ZE f),.o 7 (Zp g)]);have a9:=Y.box;refine zp (by rw[y];exact Y.own1) (wT y) (wN y) λar a1 L=>?_;have al:=UF Y.own1 a9 L.kept;have aj:=UF Y.own1 (show _=some (.cells _) from (upd_ne (Ne.symm ae)).trans a7) L.kept;refine xB al ?_;refine zJ (am ar _ ⟨Y.op ⟨k,z,X,f,g⟩ (by simpa[y]using L) xw (by simp[PR,zjD,AV.strip1]),by rw[upd_ne (Ne.symm Z)];exact aj⟩) xb
section
variable {KP:AV->zd->Prop} {Q:ZV->Env->zd->Prop} {st:List Fr} {ρ:Env} {H:zd} {all items:List yo} {d:Option Nat} {R:List VQ}
end
def zf1{H0 H:zd}{o:Own}{n sz b:Nat}{x:Yr}(h:VD H0 H o n sz)(f:H b=none):VD H0 (H.upd b x) o n sz :=⟨λc j g=>by rw[upd_ne (λe=>by subst e;have:=h.sub _ _ g;rw[f]at this;cases this)];exact h.sub c j g,h.own.upd f,h.new⟩
structure SB (q m:B8) (bo:Nat) (H:zd) (a:List yX) (o:Own):Prop where
 box:H bo=some (.cells [.sl o 6 (Vd a),.str q,.str m])
 own:zM H o a.length 6
section
variable {q m:B8} {bo:Nat} {H H':zd} {a:List yX} {o o':Own}
def SB.new{b:Nat}{x:Yr}(h:SB q m bo H a o)(f:H b=none):SB q m bo (H.upd b x) a o :=⟨by rw[upd_ne (λe=>by have:=h.box;rw[e,f]at this;cases this)];exact h.box,h.own.upd f⟩
def SB.kept(h:SB q m bo H a o)(f:∀b x,H b=some x->H' b=some x):SB q m bo H' a o:=⟨f _ _ h.box,MK h.own f⟩
def SB.cell{b:Nat}{f:List AV}(h:SB q m bo H a o)(g:H b=some (.cells f))(j:bo≠b)(x:Yr):SB q m bo (H.upd b x) a o :=⟨by rw[upd_ne j];exact h.box,Nx h.own g⟩
def SB.def{n:Nat}{xs:List (List AV)}(h:SB q m bo H a o)(x:yX)(f:zQ H o H' o' n 6)(j:n=(a++[x]).length)(p:xs=Vd (a++[x])):
  SB q m bo (H'.upd bo (.cells [.sl o' 6 xs,.str q,.str m])) (a++[x]) o':=by
 have g:=Pw h.own h.box f.kept;subst j;subst p;exact⟨upd_same ..,Nx f.own g⟩
end
def zi2(l:List z6)(j:Wx l<=1048576):zf 17 [.o 10 (Yg l)] (.o 10 (Yg l)):=by refine zo ir17 λKP Q g=>?_;have f:=yJ l;have p:=yr l;refine xa ?_;refine zp (o:=.nil) rfl (by simp only[f,yy];omega) (ve f) λy h v=>?_;simp(disch:=omega) only[TB,Kd,go_sem];exact xo g
def zkU(s:zg)(ci:zA s<=1048576):zf 6 [.agg (zk s)] (.agg (zk s)):=by
 refine zo ir6 λKP Q a9=>?_;obtain⟨K,q,m⟩:=s;have b4:zk ⟨K,q,m⟩=[.o 6 (Vd K),.str q,.str m]:=rfl;rw[b4]at a9 ⊢;simp only[zA]at ci;have cy:=VP K;have be:=YX K;refine xa ?_;refine zb λz ct=>?_;refine xa ?_;refine zb λJ cj=>?_;have ad:J≠z:=nen2 upd_same cj;refine xa ?_;obtain⟨H0,af⟩:∃H0,H0=((zd.emp).upd z (.cells [.sl .nil 6 [],.str [],.str []])).upd J (.cells [.sl .nil 6 [],.str q,.str m]):=⟨_,rfl⟩;have bu:SB q m J H0 [] .nil:=⟨by rw[af,upd_same];rfl,rfl⟩;have b5:H0 z=some (.cells [.sl .nil 6 [],.str [],.str []]):=by rw[af,upd_ne (Ne.symm ad),upd_same]
 try simp only[Ut]
 rw[<-af];clear af;refine zc K 4 (λx:Own=>[]) (λO bq x H=>SB q m J H O x/\H z=some (.cells [.sl .nil 6 [],.str [],.str []])) .nil xb ⟨bu,b5⟩ ?_ ?_
 ·rintro o1 a1 b1 ⟨Y,ac⟩ ar;have cc:=Y.box;refine xu be ar cc ac ad (Ne.symm ad) ?_;exact @a9 _ _ [.agg [.sl o1 6 (Vd K),.str q,.str m]] xb xw
 ·rintro O x bq o1 a1 b1 ao ar cz ⟨Y,ac⟩ ch;have ap:=Xc ao;have bc:=P1 O x bq;rw[<-ao]at bc;have ai:=YX O;have cm:=congrArg List.length ao;simp only[ZX,yg]at cm;obtain⟨k,I,g,flds,h,v⟩:=x;simp only[bE]at bc;have bh:=YM flds;have cx:=YH flds;have bn:=zn g;have cu:=ZN g;have bp:=zn h;have cw:=ZN h;rw[zS]at ap;refine xe be ar ap ?_;refine zb λA ag=>?_;have ae:A≠J:=λe=>by subst e;rw[Y.box]at ag;cases ag
  have an:A≠z:=nen2 ac ag;refine xc ap ?_;obtain⟨y,X⟩:∃y,y=a1.upd A (.cells [.i k,.str I,.o 1 (cT g),.o 6 (TK flds),.o 1 (cT h),.o 10 (Yg v)]):=⟨_,rfl⟩;have bv:SB q m J y O o1:=by rw[X];exact Y.new ag
  have b6:y z=some (.cells [.sl .nil 6 [],.str [],.str []]):=by rw[X,upd_ne (Ne.symm an)];exact ac
  have a2:y A=some (.cells [.i k,.str I,.o 1 (cT g),.o 6 (TK flds),.o 1 (cT h),.o 10 (Yg v)]):=by rw[X,upd_same]
  try simp only[Ut]
  rw[<-X];clear X;refine zc flds 7 (λx:Own×List Yv=>[(6,.sl x.1 6 (TK x.2))]) (λj rs x H=>x.2=j/\VD y H x.1 j.length 6) (.nil,[]) (by simp(disch:=omega) only[TK,go_sem]) ⟨rfl,VD.nil _ _⟩ ?_ ?_
  ·rintro⟨L,ds⟩ al b2 ⟨rfl,G⟩ au;have bw:=bv.kept G.sub;have b7:=G.sub _ _ b6;have C:=G.sub _ _ a2;refine xm bh au C (zi2 v xg) ?_;refine xc C ?_;have az:=bw.cell C (Ne.symm ae) (.cells [.i k,.str I,.o 1 (cT g),.sl L 6 (TK ds),.o 1 (cT h),.o 10 (Yg v)]);obtain⟨f,p⟩:∃f,f=al.upd A (.cells [.i k,.str I,.o 1 (cT g),.sl L 6 (TK ds),.o 1 (cT h),.o 10 (Yg v)]):=⟨_,rfl⟩;have b8:f z=some (.cells [.sl .nil 6 [],.str [],.str []]):=by rw[p,upd_ne (Ne.symm an)];exact b7
   have a3:f A=some (.cells [.i k,.str I,.o 1 (cT g),.sl L 6 (TK ds),.o 1 (cT h),.o 10 (Yg v)]):=by rw[p,upd_same]
   try simp only[Ut]
   rw[<-p]at az ⊢;refine zp (o:=.nil) rfl (by simp only[bn,yy];omega) (ve bn) λay Z cn=>?_;have aw:∀b x,f b=some x->Z b=some x:=λb x am=>cn.kept b x am nofun;have bx:=az.kept aw;have b9:=aw _ _ b8;have a5:=aw _ _ a3;refine xd a5 a3 ?_;refine zp (o:=.nil) rfl (by simp only[bp,yy];omega) (ve bp) λcp bz co=>?_;have ax:∀b x,Z b=some x->bz b=some x:=λb x am=>co.kept b x am nofun;have a0:=bx.kept ax;have ca:=ax _ _ b9;have a6:=ax _ _ a5;have cd:=a0.box;simp(disch:=omega) only[a6,TB,ziW,ae,Ne.symm ae,cd,go_sem];have M:=a0.cell a6 (Ne.symm ae) (.cells [.i k,.str I,.sl ay 1 (cT g),.sl L 6 (TK ds),.sl cp 1 (cT h),.o 10 (Yg v)]);have ce:=M.box;refine zp (by rw[ai];exact M.own) (wT ai) (wN ai) λcq cr av=>?_;have cg:=Pw M.own ce av.kept;have cb:=Pw M.own (show _=some (.cells _) from (upd_ne (Ne.symm an)).trans ca) av.kept;refine xB cg ?_;refine zJ (ch cq _ ⟨M.def ⟨k,I,g,ds,h,v⟩ (by simpa[ai]using av) xw (by simp[Vd,zS,AV.strip1]),by rw[upd_ne (Ne.symm ad)];exact cb⟩) xb
  ·rintro j br rs ⟨L,ds⟩ al b2 bf au c2 ⟨bg,G⟩ a8;simp only at bg G a8 ⊢;obtain rfl:j=ds:=bg.symm;have C:=G.sub _ _ a2;have aq:=XS bf;have bd:=PM j br rs;rw[<-bf]at bd;have ah:=YM j;obtain⟨ab,W,⟨ak,tl,aj⟩,U⟩:=br;simp only[bL]at bd;rw[YG]at aq;refine xk bh au C aq ?_;refine zb λaa ba=>?_;have a7:aa≠A:=nen2 C ba;refine xk aq C a7 (Ne.symm a7) ?_;obtain⟨f,p⟩:∃f,f=al.upd aa (.cells [.str ab,.o 10 (Yg W),.str ak,.i tl,.i aj,.o 2 (ZE U)]):=⟨_,rfl⟩;have bj:VD y f L j.length 6:=by rw[p];exact zf1 G ba
   have a4:f aa=some (.cells [.str ab,.o 10 (Yg W),.str ak,.i tl,.i aj,.o 2 (ZE U)]):=by rw[p,upd_same]
   try simp only[Ut]
   rw[<-p];refine za (zi2 W xg) ?_;refine xt a4 (za3 U xi) ?_;have b3:f.upd aa (.cells [.str ab,.o 10 (Yg W),.str ak,.i tl,.i aj,.o 2 (ZE U)])=f:=by rw[p,Ut]
   refine xd a4 b3 ?_;refine zp (by rw[ah];exact bj.own) ?_ ?_ λay Z bl=>?_
   ·simp only[ah,yg,yy];omega
   ·refine xR ah ?_;omega
   rw[ah]at bl;refine xq ?_;refine zJ (a8 (ay,j++[⟨ab,W,⟨ak,tl,aj⟩,U⟩]) Z ⟨rfl,(bj.stepS bl).cast xw⟩) (by simp(disch:=omega) only[TK,List.map_append,List.map_cons,YG,AV.strip1,go_sem])
def Vl:zg:=⟨[⟨1,[81],[],[⟨[97],[],⟨[73,110,116],0,0⟩,[]⟩],[],[]⟩],[81],[]⟩
def Ps:zg:=⟨[],[],[]⟩
def MS(n:B8):zv:=⟨[⟨0,[],[],[],[.mk 0 [] n [] [] [] []]⟩],[]⟩
def K9:zv:=MS [110,111,116,104,101,114,101]
def Nt:zv:=MS [97]
def zoV:W9 Vl K9=9:=by decide +kernel
def zn7:W9 Vl Nt=0:=by decide +kernel
def zqk:W9 Ps Nt=25:=by decide +kernel
def zpD:ZQ Vl Nt 24=true:=by decide +kernel
def zow:ZQ Vl Nt 25=false:=by decide +kernel
def znq:SM Vl:=by intro x h;simp only[Vl,List.mem_singleton]at h;subst h;refine⟨λg f=>?_,λg f=>(nomatch f)⟩;simp only[List.mem_singleton]at f;subst f;exact⟨λg f=>(nomatch f),by simp[inR],by simp[inR],λg f=>(nomatch f)⟩
def zqf:SM Ps:=λx f=>nomatch f
def zkg(n:B8):O6 (MS n):=by refine⟨λx g=>?_,λx g=>(nomatch g)⟩;simp only[MS,List.mem_singleton]at g;subst g;exact⟨λh f=>(nomatch f),λh f=>(nomatch f),⟨trivial,λh f=>(nomatch f),trivial⟩,trivial⟩
def zpU:zbl Vl K9:=zke znq (zkg _) (by decide) (by decide) (by decide +kernel)
def zd0:zbl Vl Nt:=zke znq (zkg _) (by decide) (by decide) (by decide +kernel)
def zoU:zbl Ps Nt:=zke zqf (zkg _) (by decide) (by decide) (by decide +kernel)
def zlL:zk Vl=[.o 6 [[.i 1,.str [81],.o 1 [],.o 6 [[.str [97],.o 10 [],.str [73,110,116],.i 0,.i 0,.o 2 []]],.o 1 [],.o 10 []]],.str [81],.str []]:=by rfl
def zqJ:zk Ps=[.o 6 [],.str [],.str []]:=by rfl
def zoQ(n:B8):z8 (MS n)=[.o 5 [[.i 0,.str [],.o 10 [],.o 2 [],.o 7 [[.i 0,.str [],.str n,.o 6 [],.o 2 [],.str [],.o 7 []]]]],.o 4 []]:=by rfl
def zlS:zf 15 [] (.agg (zk Vl)):=by rw[zlL];refine zo ir15 λKP Q f=>?_;refine xa (zb λb0 g=>?_);refine xa ?_;exact @f _ _ [.agg [.sl .full 6 [[.i 1,.str [81],.o 1 [],.o 6 [[.str [97],.o 10 [],.str [73,110,116],.i 0,.i 0,.o 2 []]],.o 1 [],.o 10 []]],.str [81],.str []]] xb rfl
def zko:zf 5 [] (.bool true):=by
 have g:=zlS;have h:=zah Vl K9 zpU;have j:=zah Vl Nt zd0;have p:=zah Ps Nt zoU;have v:=zod Vl Nt 24 zd0;have y:=zod Vl Nt 25 zd0;rw[zoV]at h;rw[zn7]at j;rw[zqk]at p;rw[zpD]at v;rw[zow]at y;rw[K9,zlL,zoQ]at h;rw[Nt,zlL,zoQ]at j v y;rw[Nt,zqJ,zoQ]at p;rw[zlL]at g;refine zo ir5 λKP Q C=>?_;refine xa (zb λz I=>?_);refine xa (zb λA G=>?_);have f:z≠A:=λe=>by subst e;simp[zd.upd]at G
 refine xn f (Ne.symm f) g ?_;refine xn f (Ne.symm f) (Zk.low h) ?_;refine xn f (Ne.symm f) g ?_;refine xn f (Ne.symm f) (Zk.low j) ?_;refine xn f (Ne.symm f) (Zk.low p) ?_;refine xn f (Ne.symm f) g ?_;refine xn f (Ne.symm f) (Zk.low v) ?_;refine xn f (Ne.symm f) g ?_;refine xn f (Ne.symm f) (Zk.low y) ?_;exact vm C
def zkA{s:zg}{d:zv}(h:zbl s d):(if Un s 9 1≠0∨ZF d=false then 25 else V9 s d 24 1:Int)=W9 s d:=by
 have v:=h.db;have g:=zoy s;rw[W9];by_cases f:UK s 9 1=0
 ·have p:WT s=true:=On 9 1 4 xg f xg xg;rw[zoP h.sz xi p];simp only[f,g.1 f]
 ·have j:¬ Un s 9 1=0:=λe=>f (g.2 e);rw[if_pos (.inl j),if_pos (.inl f)]
def zj3(s:zg)(d:zv)(h:zbl s d):zf 9 [.agg (zk s),.agg (z8 d)] (.i (W9 s d)):=by have g:=h.sb;have f:=h.db;rw[<-zkA h];refine zkv xi f (by simp only[Zi,ze];omega) ?_ h.sz;have:lenD d*zt d<=3200*67108864:=Nat.mul_le_mul h.ln f;omega
def za2(s:zg)(d:zv)(L:SM s)(J:O6 d)(p:zA s<=1048576)(j:zt d<=1048576):zf 3 [.agg (zk s),.agg (z8 d)] (.bool true):=by
 have A:=zkf s d p j;have z:=zko;have g:=λv=>zah s d (zke L J p j v);have h:=λv=>zj3 s d (zke L J p j v);have I:=zkU s p;have G:=zne d j;have K:=zsy s xi;have y:=ziC d d xi;rw[yz rfl]at y;generalize Tw s d=lt,W9 s d=Y at *
 have U:=Yl d;have W:=UN s;simp only[W,U]at A g h I G K y ⊢;refine zo ir3 λKP Q C=>?_;refine xh A ?_;cases lt with
 | false =>refine xh z ?_;exact vm C
 | true =>
 replace g:=g rfl;replace h:=h rfl;refine xh I ?_;refine xh G ?_;refine xa (zb λM Z=>?_);refine xa (zb λO X=>?_);have f:M≠O:=λe=>by subst e;simp[zd.upd]at X
 refine xn f (Ne.symm f) g ?_;refine xn f (Ne.symm f) h ?_;refine xn f (Ne.symm f) K ?_;refine xn f (Ne.symm f) y ?_;refine xh z ?_;exact vm C
end Go.Proofs.YtcbfcliickppiaaGreatDoor
