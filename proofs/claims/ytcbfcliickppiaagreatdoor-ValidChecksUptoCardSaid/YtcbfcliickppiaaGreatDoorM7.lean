import Derived.Test.YtcbfcliickppiaaGreatDoorM6
import Derived.Ground.Names2Prog
import Derived.Shelf.Lays2
import Derived.Test.YtcbfcliickppiaaGreatDoorProg
import Derived.Shelf.Spec.SlicesInsert
import Derived.Shelf.Spec.SlicesInsertGrow
set_option maxRecDepth 100000
set_option linter.all false
namespace Go.Proofs.YtcbfcliickppiaaGreatDoor
open Go.Ab
def mN:yU->B8| .mk n _=>n
def Zu(f:List z6)(l:List yU):Bool:=l.all λm=>(zB f (mN m)).isSome
def zf4(f:List z6)(l:List yU)(W:f.length<=ze)(U:l.length<=ze):zf 95 [.o 10 (Yg f),.o 6 (Ya l)] (.bool (Zu f l)):=by
 refine zo ir95 λKP Q A=>?_;have p:=yI l;have L:=λn=>Q2 f n W;simp only[ze]at U;refine xc p ?_;refine zc l 11 ZY (λJ j _ H=>Zu f j=Zu f l) () xb rfl ?_ ?_
 ·rintro _ H I g v;refine xd p v ?_;exact @A _ _ [.bool true] rfl (xM g)
 ·rintro J x j _ H I O v _ g K;have C:=yZ O;have X:Zu f (x::j)=((zB f (mN x)).isSome&&Zu f j):=by simp[Zu]
  rw[X]at g;obtain⟨y,⟨ak,an,ao,al,am⟩⟩:=x;simp only[mN]at g;have z:=L y;rw[zy,zC]at C;generalize (zB f y).getD zW=w at *
  obtain⟨ah,⟨ab,ac,ad⟩,ae,⟨wk,ai,aj,af,ag⟩⟩:=w;rw[zX]at z;refine xe p v C (zb λY aa=>?_);refine xh z ?_;refine xa (zb λZ M=>?_);have h:=ZB M;cases G:(zB f y).isSome with
  | false =>rw[G]at g;refine xd h (Ne.symm h) ?_;exact @A _ _ [.bool false] rfl (xM g)
  | true =>rw[G]at g;refine xd h (Ne.symm h) ?_;exact zJ (K () _ (xy g)) xf
def zdh(f:List z6)(l:List yU)(W:Wx f<=ze)(U:l.length<=ze):zf 97 [.o 10 (Yg f),.o 6 (Ya l)] (.bool (Wy f l)):=by
 refine zo ir97 λKP Q A=>?_;have p:=yJ f;have ak:=yr f;have X:=W;simp only[ze]at X;refine xc p ?_;refine zc f 11 ZY (λK j _ H=>Wy j l=Wy f l) () xb rfl ?_ ?_
 ·rintro _ H J g y;refine xd p y ?_;exact @A _ _ [.bool true] rfl (xM g)
 ·rintro K x j _ H J G y _ g z;have I:=y6 G;have C:=zoz x (by have:=@YW x f (xv G);simp only[bW]at this;refine xl ?_;omega);have v:=zmo x.nm l U;have Y:Wy (x::j) l=(((Y2 x.nm l).2||!QZ x)&&Wy j l):=by simp[Wy]
  rw[Y]at g;generalize QZ x=aa at *
  obtain⟨Z,⟨al,am,an⟩,aj,⟨ao,ar,au,ap,aq⟩⟩:=x;rw[zX]at I C;simp only at v g;generalize Y2 Z l=L at *
  obtain⟨⟨ad,ag,ah,ae,af⟩,M⟩:=L;simp only[zC]at v;refine xe p y I (zb λab ai=>?_);refine xh v ?_;refine xa (zb λac O=>?_);have h:=ZB O;cases M with
  | true =>refine xd h (Ne.symm h) ?_;exact zJ (z () _ (xy g)) xf
  | false =>
   refine xn h (Ne.symm h) C ?_;cases aa with
   | true =>refine xa ?_;exact @A _ _ [.bool false] rfl (xM g)
   | false =>refine xa ?_;exact zJ (z () _ (xy g)) xf
def Ye:List yU->List yU->Bool
 | _,[]=>true
 | a,x::r=>!(Y2 (mN x) a).2&&Ye (a++[x]) r
def zku(l:List yU)(O:l.length<=ze):zf 186 [.o 6 (Ya l)] (.bool (Ye [] l)):=by
 refine zo ir186 λKP Q y=>?_;have h:=yI l;simp only[ze]at O;refine xc h ?_;refine zc l 9 ZY (λf G _ H=>Ye f G=Ye [] l) () xb rfl ?_ ?_
 ·rintro _ H I g p;refine xd h p ?_;exact @y _ _ [.bool true] rfl (xM g)
 ·rintro f x G _ H I z p _ g L;have A:=yZ z;have W:(Ya l).take f.length=Ya f:=by rw[Tj,Tj,z];simp
  have U:(f.length:Int)<=l.length:=xg
  obtain⟨C,⟨af,ai,aj,ag,ah⟩⟩:=x;simp only[Ye,mN]at g;have v:=zmo C f xi;rw[zy,zC]at A;generalize Y2 C f=J at *
  obtain⟨⟨Z,ac,ad,aa,ab⟩,K⟩:=J;simp only[zC]at v g;refine xe h p A (zb λX ae=>?_);refine xm h U W v ?_;refine xa (zb λY M=>?_);have j:=ZB M;cases K with
  | true =>refine xd j (Ne.symm j) ?_;exact @y _ _ [.bool false] rfl (xM g)
  | false =>refine xd j (Ne.symm j) ?_;exact zJ (L () _ (xy g)) xf
def zgF(v:AV)(l:List yU)(g:l.length<=ze):zf 96 [v,.o 6 (Ya l)] (.bool (Ye [] l)):=by refine zo ir96 λKP Q f=>?_;refine xh (zku l g) ?_;exact vm f
def yc(d:yv):List z6:=match XI d.nm with
 | none=>[]
 | some f=>[f]
def M5(d:yv):zf 184 [.agg (cD d)] (.o 10 (Yg (yc d))):=by
 obtain⟨f,p⟩:=d;have h:=KE f;have g:yc ⟨f,p⟩=match XI f with|none=>[]|some j=>[j]:=rfl
 generalize yc ⟨f,p⟩=F at *
 rw[T2];refine zo ir184 λKP Q v=>?_;refine xa ?_;cases y:XI f with
 | none =>rw[y]at h g;refine za h ?_;refine x2 (zb λz A=>?_);refine xa ?_;exact @v _ _ [.sl .nil 10 []] rfl (wa g)
 | some j =>rw[y]at h g;obtain⟨M,⟨C,G,I⟩,J,⟨wk,O,U,K,L⟩⟩:=j;refine za h ?_;refine x6 (zb λz A=>?_);refine xa ?_;exact @v _ _ [.sl .full 10 [cW ⟨M,⟨C,G,I⟩,J,.mk wk O U K L⟩]] rfl (wa g)
def zrI(f:FuncId)(h:List AV)(p:List z6->List yU->Bool):Prop:=Program.callable Tryz.prog f=true/\∀g l,Wx g<=ze->ZC l<=ze->zf f (.o 10 (Yg g)::.o 6 (Ya l)::h) (.bool (p g l))
def Xj(s:zg)(p:List z6->List yU->Bool)(typ:B8):zj->Bool| .mk k _ nm args dirs _ _=>(!decide (k=0)||p ((zG s typ nm).getD zF).ps args)&&dirs.all λd=>p (yc d) d.args
def VC(s:zg)(typ h:B8):Wx ((zG s typ h).getD zF).ps<=zA s:=by
 cases f:zG s typ h with
 | none=>simp[zF,Wx]
 | some g =>
  unfold zG at f;split at f
  ·cases f;simp[tnF,Wx]
  ·split at f
   ·cases f
   ·rename_i d j;split at f
    ·have p:=WK (List.mem_of_find?_eq_some f);have v:=(Xh j).1;have y:=@N7 g;show Wx g.ps<=_;omega
    ·cases f
def SF(d:yv):Wx (yc d)<=100:=by
 unfold yc XI;split
 ·simp[Wx]
 ·rename_i g f;split at f
  ·cases f;decide
  ·cases f
def za6{d:yv}{l:List yv}(h:d∈l):ZC d.args<=We l:=by obtain⟨a,b,f⟩:=List.append_of_mem h;have:=VJ a d b;rw[<-f]at this;simp only[bD]at this;omega
def zg0(s:zg)(f:FuncId)(U:List AV)(p:List z6->List yU->Bool)(al:zA s<=ze)(hf:zrI f U p)(typ:B8)(x:zj)(aa:bS x<=ze):
  zf 183 [.str typ,.agg (cS x),.view (zk s),.view [.clo f [] U]] (.bool (Xj s p typ x)):=by
 obtain⟨k,O,g,j,h,ab,ad⟩:=x;have I:=OH s typ g al;have a2:=VC s typ g;simp only[bS]at aa;have J:=hf.2 ((zG s typ g).getD zF).ps j xg xg;have ai:=λ(d:yv) (C:d∈h)=>hf.2 (yc d) d.args (by have:=SF d;refine xl ?_;omega) (by have:=za6 C;omega);have y:Xj s p typ (.mk k O g j h ab ad)=((!decide (k=0)||p ((zG s typ g).getD zF).ps j)&&h.all λd=>p (yc d) d.args):=rfl;generalize Xj s p typ (.mk k O g j h ab ad)=F at *
 generalize (zG s typ g).isSome=az at *
 generalize (zG s typ g).getD zF=w at *
 obtain⟨ay,ah,⟨au,av,aw⟩,ax⟩:=w;simp only at J y;generalize p ah j=A at *
 have a1:=Y3 h;have z:=YB h;have am:=aa;simp only[ze]at am;obtain⟨a4,a5,sm⟩:=s;simp only[zk,YG,Zt]at I ⊢;refine zo ir183 λKP Q K=>?_;have three:(k=0/\A=false)∨((!decide (k=0)||A)=true/\(k=0->A=true)):=by cases A<;>by_cases C:k=0<;>simp[C]
 rcases three with ⟨G,hx1⟩|⟨G,hx1⟩
 ·subst G;subst hx1;refine xh I ?_;refine xa ?_;refine zb λaf ak=>?_;refine xa ?_;refine⟨hf.1,za J ?_⟩;refine xa ?_;exact @K _ _ [.bool false] rfl (wa y)
 rw[G,Bool.true_and]at y;by_cases L:k=0
 case' pos =>have an:=hx1 L;subst L;subst an;refine xh I ?_;refine xa ?_;refine zb λaf ak=>?_;refine xa ?_;refine⟨hf.1,za J ?_⟩;simp(disch:=omega) only[z,go_sem]
 case' neg=>simp(disch:=omega) only[ir183,L,z,go_sem]
 all_goals
  refine zc h 32 ZY (λag ac _ H=>(ac.all λd=>p (yc d) d.args)=F) () xb y.symm ?_ ?_
  ·rintro _ H ae v M;refine xd z M ?_;exact @K _ _ [.bool true] rfl (xM v)
  ·rintro ag d ac _ H ae Y M _ v aj;have Z:=Y0 Y;have W:=M5 d;have X:=ai d (xv Y);rw[List.all_cons]at v;generalize p (yc d) d.args=ao at *
   generalize yc d=a3 at *
   obtain⟨ar,aq⟩:=d;simp only at X;rw[T2]at Z W;refine xe z M Z ?_;refine zb λap a0=>?_;refine xh W ?_;refine xa ?_;refine⟨hf.1,za X ?_⟩;cases ao with
   | false =>refine xa ?_;exact @K _ _ [.bool false] rfl (xM v)
   | true =>refine xa ?_;exact zJ (aj () _ (xy v)) xf
def PL(s:zg)(d:zv)(f:FuncId)(g:List AV)(p:List z6->List yU->Bool)(j:zA s<=ze)(y:zt d<=ze)(hf:zrI f g p):zf 94 [.agg (zk s),.agg (z8 d),.clo f [] g] (.bool (Yw s d (Xj s p))):=by
 have h:=ziz s d 183 [.view (zk s),.view [.clo f [] g]] (Xj s p) j y ⟨by kernel_rfl,λz x C=>zg0 s f g p j hf z x xg⟩;generalize Yw s d (Xj s p)=K at *
 obtain⟨G,A⟩:=d;obtain⟨I,J,sm⟩:=s;simp only[zk,z8]at h ⊢;refine zo ir94 λKP Q v=>?_;refine xh h ?_;exact vm v
def RF(s:zg)(d:zv)(n:Int):Bool:=if n=15 then Yw s d (Xj s Zu)else if n=16 then Yw s d (Xj s λ_ l=>Ye [] l)else if n=17 then Yw s d (Xj s Wy)else false
def zjl(s:zg)(d:zv)(n:Int)(p:zA s<=ze)(h:zt d<=ze):zf 38 [.agg (zk s),.agg (z8 d),.i n] (.bool (RF s d n)):=by
 have A:=PL s d 95 [] Zu p h ⟨by kernel_rfl,λf l j I=>zf4 f l (by have:=yr f;omega) (by have:=y5 l;omega)⟩;have C:=PL s d 96 [] (λ_ l=>Ye [] l) p h ⟨by kernel_rfl,λf l j I=>zgF _ l (by have:=y5 l;omega)⟩;have G:=PL s d 97 [] Wy p h ⟨by kernel_rfl,λf l j I=>zdh f l j (by have:=y5 l;omega)⟩;unfold RF;generalize Yw s d (Xj s Zu)=O,Yw s d (Xj s λ_ l=>Ye [] l)=U,Yw s d (Xj s Wy)=W at *
 obtain⟨K,J⟩:=d;obtain⟨L,M,sm⟩:=s;simp only[zk,z8]at A C G ⊢;refine zo ir38 λKP Q g=>?_;by_cases v:n=15
 ·subst v;refine xh A ?_;exact vm g
 by_cases y:n=16
 ·subst y;refine xh C ?_;exact vm g
 by_cases z:n=17
 ·subst z;refine xh G ?_;exact vm g
 ·refine xe v y z ?_;exact g rfl (by simp[v,y,z])
def zgp(y:z6)(n:B8)(b:Nat)(h:List AV)(H:zd)(g:H b=some (.cells (.str n::h))):zZ 292 [.agg (cW y),.ptr b 0] H (At (.bool (Lf n y)) H):=by obtain⟨p,⟨z,A,C⟩,j,⟨k,q,v,l,m⟩⟩:=y;refine Xe ir292 λKP Q f=>?_;simp(disch:=omega) only[ir292,zX,g,go_sem];exact f _ _ _ _ _ nofun rfl (yT.refl _) ⟨by simp[Lf],rfl⟩
def X2:List z6->List z6->Bool
 | _,[]=>true
 | a,x::r=>!a.any (Lf x.nm)&&X2 (a++[x]) r
def zim(o:Y6)(G:o.vars.length<=ze):zf 189 [.agg (cO o)] (.bool (X2 [] o.vars)):=by
 obtain⟨k,Y,l,ds,Z⟩:=o;simp only at G ⊢;have h:=yJ l;simp only[ze]at G;rw[Xn];refine zo ir189 λKP Q z=>?_;refine xc h ?_;refine zc l 8 ZY (λf I _ H=>X2 f I=X2 [] l) () xb rfl ?_ ?_
 ·rintro _ H J g p;refine xd h p ?_;exact @z _ _ [.bool true] rfl (xM g)
 ·rintro f x I _ H J A p _ g K;have C:=y6 A;have O:(Yg l).take f.length=f.map cW:=by rw[A];simp[Yg]
  have M:(f.length:Int)<=l.length:=xg
  have L:f.length<=ze:=xi
  obtain⟨v,⟨aa,ab,ac⟩,X,⟨ad,ag,ah,ae,af⟩⟩:=x;simp only[X2]at g;rw[zX]at C;refine xe h p C (zb λy W=>?_);refine xe h M O (yM (N5 cW V2 f 292 [.ptr y 0] (Lf v) _ L yw λU _=>zgp U v y _ _ (upd_same ..)) ?_);rintro _ _ ⟨_,rfl,rfl,rfl⟩;cases j:f.any (Lf v)with
  | true =>rw[j]at g;refine wO j ?_;exact @z _ _ [.bool false] rfl (xM g)
  | false =>rw[j]at g;refine wO j ?_;exact zJ (K () _ (xy g)) xf
def zjx(p:z6)(n:B8):zf 296 [.agg (cW p),.view [.str n]] (.bool (Lf n p)):=by obtain⟨h,⟨a,b,c⟩,g,⟨k,q,s,l,m⟩⟩:=p;refine zo ir296 λKP Q f=>?_;refine wH ?_;exact f rfl (by simp[Lf])
def zfy(o:Y6)(n:B8)(h:o.vars.length<=ze):zf 195 [.agg (cO o),.str n] (.tup [.agg (cW ((zB o.vars n).getD zW)),.bool (zB o.vars n).isSome]):=by
 have v:=zhf cW V2 o.vars 296 [.view [.str n]] (Lf n) h yw λx _=>zjx x n;obtain⟨k,y,l,ds,Z⟩:=o;simp only at h v ⊢;have L:=h;simp only[ze]at L;rw[Xn];refine zo ir195 λKP Q K=>?_;have fin:∀o,zB l n=o->∀ρ H j,zx ρ H ir195.1.res=some j->(Yz j).strip=.tup [.agg (cW (o.getD zW)),.bool o.isSome]->Q .ret ρ H:=λo e ρ H j f g=>K f (by rw[g,e]);refine xa (zb λX Y=>?_);refine xh v ?_;rcases VB (Lf n) l 0 with ⟨a,x,r,f,g,A,C⟩|⟨f,g⟩
 ·rw[C,Int.zero_add];have p:=y6 f;have I:=yJ l;have G:(a.length:Int)<l.length:=by rw[f,ZX,yg];omega
  have J:¬ ((a.length:Int)<0):=xg
  have e:zB l n=some x:=A;obtain⟨y,⟨O,U,W⟩,z,⟨k,q,s,M,m⟩⟩:=x;rw[zX]at p;refine xk p I G J ?_;exact fin _ e _ _ [.agg (cW ⟨y,⟨O,U,W⟩,z,.mk k q s M m⟩),.bool true] wS rfl
 ·rw[g];have e:zB l n=none:=f;refine xa ?_;exact fin _ e _ _ [.agg [.str [],.str [],.i 0,.i 0,.bool false,.i 0,.i 0,.str [],.sl .nil 5 [],.sl .nil 6 []],.bool false] xb rfl
structure ZK where
 nm:B8
 t:X4
 has:Bool
def cP(x:ZK):List AV:=[.str x.nm,.str x.t.nm,.i x.t.lists,.i x.t.musts,.bool x.has]
def Ul(l:List ZK):List (List AV):=l.map cP
def zO(l:List ZK):(Ul l).length=l.length:=by simp[Ul]
def zfH{l a:List ZK}{x:ZK}{b:List ZK}(h:l=a++x::b):(Ul l).getD a.length []=cP x:=Z2 h
def Wd(a b:List ZK):Ul a++(Ul b).map (·.map AV.strip1)=Ul (a++b):=by
 have:(Ul b).map (·.map AV.strip1)=Ul b:=by rw[Ul,List.map_map];exact List.map_congr_left λf _=>rfl
 rw[this];simp[Ul]
def Z3{H f g:zd}{o o1 o2:Own}{n v sz y:Nat}(h:zQ H o f o1 n sz)(h':zQ f .nil g o2 v y):zQ H o g o1 n sz :=⟨zM.ofKept h.own h'.kept (λ_ _ _ _ e=>by cases e),λb x j p=>h'.kept b x (h.kept b x j p) (λd e=>by cases e),h.new⟩
def Tz{H:zd}{o:Own}{n sz b:Nat}{f:List AV}(ho:zM H o n sz)(h:H b=some (.cells f)):∀d,o≠.tip b d:=λd e=>by subst e;have:H b=some (.tip (d+n) sz):=ho;rw[h]at this;cases this
def zcp(s:zg)(t:X4)(has:Bool)(v:Val)(L:List ZK):Prop :=L.length<=bV v/\(∀x∈L,x.t.nm.length<=ze)/\∀H,YR Tryz.prog 378 [.agg (zk s),.agg (YQ t),.bool has,.agg (cV v)] H .nil 5 (Ul L)
abbrev SpG:=X4->Bool->Val->List ZK
def Sv(g:SpG)(r:Bool)(h:List z6):yU->List ZK| .mk n x=>match zB h n with|none=>if r=true then g ⟨[],0,0⟩ false x else []|some f=>g f.t f.has x
def spB(g:SpG)(r:Bool)(s:zg)(t:X4)(has:Bool):Val->List ZK
 | .mk k q st l m=>if k=8 then [⟨st,t,has⟩]else match ZH t with
  | some it=>if k=6 then l.flatMap (g it false)else g it false (.mk k q st l m)
  | none=>if k=7 then m.flatMap (Sv g r ((zL s t.nm).getD zE).ps)else []
def spF(r:Bool)(s:zg):Nat->SpG
 | 0=>λ_ _ _=>[]
 | n+1=>spB (spF r s n) r s
def MA(r:Bool)(s:zg)(t:X4)(has:Bool)(v:Val):List ZK:=spF r s (OX t v+1) t has v
def Sy{α β:Type}{f g:α->List β}{l:List α}(h:∀x∈l,f x=g x):l.flatMap f=l.flatMap g:=by simp only[List.flatMap_def];rw[List.map_congr_left h]
def KL{g h:SpG}{r:Bool}{s:zg}{t:X4}{has:Bool}{k n:Int}{f:B8}{l:List Val}{m:List yU}(p:∀it,ZH t=some it->g it false (.mk k n f l m)=h it false (.mk k n f l m))(v:∀it,ZH t=some it->∀x∈l,g it false x=h it false x)(y:∀n x,yU.mk n x∈m->∀t b,g t b x=h t b x):spB g r s t has (.mk k n f l m)=spB h r s t has (.mk k n f l m):=by
 have e:∀j,m.flatMap (Sv g r j)=m.flatMap (Sv h r j):=λj=>Sy λx z=>by obtain⟨A,C⟩:=x;simp only[Sv,y A C z]
 simp only[spB,e];cases hi:ZH t with
 | none=>rfl
 | some it=>simp only[p it hi,Sy (v it hi)]
def N1(r:Bool)(s:zg):∀h:Val,∀(j:Nat) (t:X4),t.lists.toNat<=j->∀(n f:Nat) (w:Bool),OX t h<n->OX t h<f->spF r s n t w h=spF r s f t w h:=by
 refine Val.ind λk q p l m C G j=>?_;have U:bV (.mk k q p l m)=1+p.length+Wg l+ZC m:=rfl;induction j using Nat.strongRecOn with
 | _ j A =>
 intro t W n f w v y;obtain⟨n,rfl⟩:∃i,n=i+1:=⟨n-1,by omega⟩;obtain⟨f,rfl⟩:∃i,f=i+1:=⟨f-1,by omega⟩;simp only[OX]at v y;refine KL (λit hi=>?_) (λit hi x g=>?_) λI x g J b=>?_
 ·obtain⟨K,L,M⟩:=Xk hi;have O:=Tl hi;exact A it.lists.toNat xg it (ZG _) n f false wu wu
 ·have z:=UC g;exact C x g _ it (ZG _) n f false wu wu
 ·have z:=X9 g;exact G I x g _ J (ZG _) n f b wu wu
def zd6(r:Bool)(s:zg)(t:X4)(has:Bool)(v:Val):MA r s t has v=spB (MA r s) r s t has v:=by
 obtain⟨k,q,g,l,m⟩:=v;have C:bV (.mk k q g l m)=1+g.length+Wg l+ZC m:=rfl;refine KL (λit hi=>?_) (λit hi x f=>?_) λG x f j b=>?_
 ·obtain⟨p,y,z⟩:=Xk hi;have A:=Tl hi;exact N1 r s _ _ it (ZG _) _ _ false wu xg
 ·have h:=UC f;exact N1 r s _ _ it (ZG _) _ _ false wu xg
 ·have h:=X9 f;exact N1 r s _ _ j (ZG _) _ _ b wu xg
def Oc(s:zg):SpG:=MA false s
def XF(s:zg)(g:List z6):yU->List ZK| .mk n x=>match zB g n with|none=>[]|some f=>Oc s f.t f.has x
def spS(s:zg)(t:X4)(has:Bool):Val->List ZK
 | .mk k q st l m=>if k=8 then [⟨st,t,has⟩]else match ZH t with
  | some it=>if k=6 then l.flatMap (Oc s it false)else Oc s it false (.mk k q st l m)
  | none=>if k=7 then m.flatMap (XF s ((zL s t.nm).getD zE).ps)else []
def zd4(s:zg)(t:X4)(has:Bool)(v:Val):Oc s t has v=spS s t has v:=by
 have e:∀f,Sv (Oc s) false f=XF s f:=λf=>by funext x;cases x;simp only[Sv,XF];rfl
 rw[Oc,zd6];change spB (Oc s) false s t has v=_;cases v;simp only[spB,spS,e]
def XL{α β:Type}{f:α->List β}{g:α->Nat}:∀l:List α,(∀x∈l,(f x).length<=g x)->(l.flatMap f).length<=(l.map g).sum
 | [],_=>by simp
 | x::r,h=>by have v:=h x (YS ..);have y:=XL r λp j=>h p (YN _ j);rw[List.flatMap_cons,ZX,List.map_cons,List.sum_cons];omega
def NB{α:Type}{l f p:List α}{x y:α}(j:l=f++x::p)(h:y∈f++[x]):y∈l:=by rw[j];simp at h ⊢;rcases h with g|g<;>simp[g]
def SU:∀l:List Val,Wg l=(l.map bV).sum
 | []=>by simp[Wg]
 | x::r=>by simp only[Wg,List.map_cons,List.sum_cons];rw[SU r]
def Vg:∀l:List yU,ZC l=(l.map bM).sum
 | []=>by simp[ZC]
 | x::r=>by simp only[ZC,List.map_cons,List.sum_cons];rw[Vg r]
def spE(s:zg)(y:zA s<=ze):∀ar:Val,∀(n:Nat) (t:X4) (has:Bool),t.lists.toNat<=n->bV ar<=ze->t.nm.length<=ze->zcp s t has ar (Oc s t has ar):=by
 refine Val.ind λk q M l m cx cy=>?_;have dd:=Xi l;have de:=y5 m;have ak:=YI l;have ba:=yI m;intro n;induction n using Nat.strongRecOn with
 | _ n cw =>
 intro t has v a0 a3;have dc:1+M.length+Wg l+ZC m<=1099511627776:=a0;have hit:=znZ t a3;have di:zA s<=1099511627776:=y;have hf:=PS s t.nm (zR y);have dh:Wx ((zL s t.nm).getD zE).ps<=zA s:=by
  cases cq:zL s t.nm with
  | none=>simp[zE,Wx]
  | some d=>exact(Xh cq).2.2.2
 generalize cm:(zL s t.nm).getD zE=E at *
 have c9:=yr E.ps;have b4:=λn=>Q2 E.ps n xi;have X:∀it,ZH t=some it->zcp s it false (.mk k q M l m) (Oc s it false (.mk k q M l m)):=λit a9=>by obtain⟨a8,ch,ci⟩:=Xk a9;exact cw it.lists.toNat xg it false (ZG _) a0 (wz a8 a3)
 have L:∀it,ZH t=some it->∀x∈l,zcp s it false x (Oc s it false x):=λit a9 x h=>by
  obtain⟨a8,ch,ci⟩:=Xk a9;have bg:bV x<=ze:=by have:=UC h;refine xl ?_;omega
  exact cx x h it.lists.toNat it false (ZG _) bg (wz a8 a3)
 have an:∀n x,yU.mk n x∈m->∀p,zB E.ps n=some p->zcp s p.t p.has x (Oc s p.t p.has x):=λn x h p ao=>by
  have bg:bV x<=ze:=by have:=X9 h;refine xl ?_;omega
  have ap:p∈E.ps:=List.mem_of_find?_eq_some ao;have cr:p.t.nm.length<=ze:=by have:=YW ap;simp only[bW]at this;refine xl ?_;omega
  exact cy n x h p.t.lists.toNat p.t p.has (ZG _) bg cr
 have a2:∀x∈m,(XF s E.ps x).length<=bM x/\∀O∈XF s E.ps x,O.t.nm.length<=ze:=λx h=>by
  obtain⟨n,ar⟩:=x;simp only[XF];cases ao:zB E.ps n with
  | none=>simp
  | some p =>have:=an n ar h p ao;exact⟨Nat.le_trans this.1 vj,this.2.1⟩
 have be:=λa:List yU=>XL (f:=XF s E.ps) (g:=bM) a;have j:Oc s t has (.mk k q M l m)=if k=8 then [⟨M,t,has⟩]else match ZH t with
  | some it=>if k=6 then l.flatMap (Oc s it false)else Oc s it false (.mk k q M l m)
  | none=>if k=7 then m.flatMap (XF s E.ps)else []:=by rw[<-cm];exact zd4 s t has _
 have b5:bV (.mk k q M l m)=1+M.length+Wg l+ZC m:=rfl;refine⟨?_,?_,λH=>?_⟩
 ·rw[j,b5];split
  ·simp;omega
  ·cases G:ZH t with
   | some it =>
    simp only
    split
    ·have:=XL (f:=Oc s it false) (g:=bV) l λx h=>(L it G x h).1;rw[<-SU]at this;omega
    ·rw[<-b5];exact(X it G).1
   | none =>
    simp only
    split
    ·have:=be m λx h=>(a2 x h).1;rw[<-Vg]at this;omega
    ·simp
 ·rw[j];split
  ·intro x h;simp only[List.mem_singleton]at h;subst h;exact a3
  ·cases G:ZH t with
   | some it =>
    simp only
    split
    ·intro x h;obtain⟨O,af,h⟩:=List.mem_flatMap.1 h;exact(L it G O af).2.1 x h
    ·exact(X it G).2.1
   | none =>
    simp only
    split
    ·intro x h;obtain⟨O,af,h⟩:=List.mem_flatMap.1 h;exact(a2 O af).2 x h
    ·simp
 generalize Oc s t has (.mk k q M l m)=F at *
 obtain⟨cb,cc,sm⟩:=s;generalize co:(⟨cb,cc,sm⟩:zg)=s at *
 have cp:zk s=[.o 6 (Vd cb),.str cc,.str sm]:=xM co
 obtain⟨c3,tl,c2⟩:=t;simp only[zcp]at X L an;simp only[cp,zC]at X L an hf ⊢;simp only[YQ]at hit ⊢;refine Xt ir378 λKP Q cn da=>?_;have fin:∀r o,F=r->∀ρ C,zx ρ C ir378.1.res=some [.sl o 5 (Ul r)]->zQ H .nil C o r.length 5->Q .ret ρ C:=λr o e ρ C ak cj=>cn _ ρ C C _ nofun ak (yT.refl _) ⟨o,by rw[e];rfl,by rw[e,zO];exact cj⟩;by_cases bl:k=8
 ·subst bl;rw[if_pos rfl]at j;refine xa ?_;exact fin _ .full j _ _ rfl ⟨trivial,λb x a0 _=>a0,λb d e=>by cases e⟩
 rw[if_neg bl]at j;refine xt bl hit ?_;cases G:ZH ⟨c3,tl,c2⟩with
 | some it =>
  rw[G]at j;replace X:=X it G;replace L:=L it G;obtain⟨aa,Y,Z⟩:=it;simp only at X L j;simp(disch:=omega) only[Option.getD,Option.isSome,go_sem];refine zb λU bd=>?_;have aq:zQ H .nil (H.upd U (.cells [.str aa,.i Y,.i Z])) .nil 0 5:=(zQ.refl (o:=.nil) (n:=0) rfl).upd bd;by_cases bh:k=6
  case neg =>rw[if_neg bh]at j;refine xc bh (zu (X.2.2 _) λo2 bp W=>?_);refine xa ?_;exact fin _ o2 j _ _ rfl (by rw[zO]at W;exact aq.trans W)
  subst bh;rw[if_pos rfl]at j;refine xc ak ?_;refine zc l 44 (λx:Own×List ZK=>[(9,.sl x.1 5 (Ul x.2))]) (λI bn x H'=>H' U=some (.cells [.str aa,.i Y,.i Z])/\x.2=I.flatMap (Oc s ⟨aa,Y,Z⟩ false)/\zQ H .nil H' x.1 x.2.length 5) (.nil,[]) wo ⟨upd_same ..,rfl,aq⟩ ?_ ?_
  ·rintro⟨o1,a⟩ C a7 ⟨z,v,y⟩ ac;simp only at v;subst v;refine xd ak ac ?_;exact fin _ o1 j _ _ rfl y
  ·rintro I x bn ⟨o1,a⟩ C a7 J ac _ ⟨z,v,y⟩ az;have am:=Xa J;have h:=L x (xv J);simp only at v;replace y:zQ H .nil C o1 a.length 5:=y;have ah:a.length+(Oc s ⟨aa,Y,Z⟩ false x).length<=Wg l:=by
    have:=XL (f:=Oc s ⟨aa,Y,Z⟩ false) (g:=bV) (I++[x]) λO af=>(L O (NB J af)).1;rw[List.flatMap_append,ZX,<-v]at this;simp only[List.flatMap_cons,List.flatMap_nil,List.append_nil]at this;have e:Wg l=(l.map bV).sum:=SU l;rw[e,J];simp only[List.map_append,List.sum_append,List.map_cons,List.map_nil,List.sum_cons,List.sum_nil]at this ⊢;omega
   have K:(I++[x]).flatMap (Oc s ⟨aa,Y,Z⟩ false)=a++Oc s ⟨aa,Y,Z⟩ false x:=wQ v
   obtain⟨au,aw,ax,av,cd⟩:=x;rw[zC]at am h;refine xe ak ac am (zb λcg bx=>?_);have A:U≠cg:=nen2 z bx;have a4:=y.upd (x:=.cells [.i au,.i aw,.str ax,.o 5 (PE av),.o 6 (Ya cd)]) bx;refine xe z A (Ne.symm A) (zu (h.2.2 _) λo2 bp W=>?_);have al:=W.kept U _ (wl A z) (λd e=>by cases e);have ae:=Z3 a4 W;refine xa (zp (by rw[zO];exact ae.own) ?_ ?_ λo' a6 ad=>?_)
   ·simp only[zO];omega
   ·simp only[zO,maxLen];omega
   have bc:=ad.kept U _ al (Tz ae.own al);simp only[zO]at ad;refine wh ?_;exact zJ (az (o',a++Oc s ⟨aa,Y,Z⟩ false (.mk au aw ax av cd)) a6 ⟨bc,K.symm,by rw[ZX];exact ae.trans ad⟩) xf
 | none =>
  rw[G]at j;simp only at j;refine w3 (zb λU bd=>?_);have aq:zQ H .nil (H.upd U (.cells [.str [],.i 0,.i 0])) .nil 0 5:=(zQ.refl (o:=.nil) (n:=0) rfl).upd bd;by_cases bj:k=7
  case neg =>rw[if_neg bj]at j;refine xc bj ?_;exact fin [] .nil j _ _ rfl aq
  subst bj;rw[if_pos rfl]at j;refine xh hf ?_;obtain⟨br,bu,bw,bv,ca,ag⟩:=E;simp only at b4 an a2 be j;refine x0 (zb λab bz=>?_);have b2:ab≠U:=λe=>by subst e;simp[zd.upd]at bz
  have ct:=aq.upd (x:=.cells [.i br,.str bu,.o 1 (cT bw),.o 6 (TK bv),.o 1 (cT ca),.o 10 (Yg ag)]) bz;refine xe b2 (Ne.symm b2) ba ?_;refine zc m 75 (λx:Own×List ZK=>[(9,.sl x.1 5 (Ul x.2))]) (λI bn x H'=>H' ab=some (.cells [.i br,.str bu,.o 1 (cT bw),.o 6 (TK bv),.o 1 (cT ca),.o 10 (Yg ag)])/\x.2=I.flatMap (XF s ag)/\zQ H .nil H' x.1 x.2.length 5) (.nil,[]) wo ⟨upd_same ..,rfl,ct⟩ ?_ ?_
  ·rintro⟨o1,a⟩ C a7 ⟨z,v,y⟩ ac;simp only at v;subst v;refine xd ba ac ?_;exact fin _ o1 j _ _ rfl y
  ·rintro I x bn ⟨o1,a⟩ C a7 J ac _ ⟨z,v,y⟩ az;have am:=yZ J;have cu:x∈m:=xv J
   simp only at v;replace y:zQ H .nil C o1 a.length 5:=y;have ah:a.length+(XF s ag x).length<=ZC m:=by have:=be (I++[x]) λO af=>(a2 O (NB J af)).1;rw[List.flatMap_append,ZX,<-v]at this;simp only[List.flatMap_cons,List.flatMap_nil,List.append_nil]at this;have e:ZC m=(m.map bM).sum:=Vg m;rw[e,J];simp only[List.map_append,List.sum_append,List.map_cons,List.map_nil,List.sum_cons,List.sum_nil]at this ⊢;omega
   have K:(I++[x]).flatMap (XF s ag)=a++XF s ag x:=wQ v
   obtain⟨a5,⟨au,aw,ax,av,ce⟩⟩:=x;have ao:=b4 a5;have a1:=an a5 _ cu;rw[zy,zC]at am;simp only[XF]at ah K;refine xe ba ac am (zb λbq b1=>?_);have A:ab≠bq:=nen2 z b1;have a4:=y.upd (x:=.cells [.str a5,.i au,.i aw,.str ax,.o 5 (PE av),.o 6 (Ya ce)]) b1;refine xm z A (Ne.symm A) ao ?_;cases ap:zB ag a5 with
   | none =>
    rw[ap]at ah K;refine x2 (zb λay ai=>?_);have ae:=a4.upd (x:=.cells [.str [],.str [],.i 0,.i 0,.bool false,.i 0,.i 0,.str [],.o 5 (PE []),.o 6 (Ya [])]) ai;have aj:ab≠ay:=λe=>by subst e;simp[zd.upd,A,z]at ai
    refine xa ?_;exact zJ (az (o1,a) _ ⟨by simp(disch:=omega) only[z,A,Ne.symm A,aj,Ne.symm aj,go_sem],by rw[K];simp,ae⟩) xf
   | some p =>
    rw[ap]at ah K;simp only at ah K;replace a1:=a1 p ap;obtain⟨cz,⟨b6,b7,b8⟩,b9,⟨c4,c7,c8,c5,c6⟩⟩:=p;simp only at a1 ah K;refine x6 (zb λay ai=>?_);have ae:=a4.upd (x:=.cells [.str cz,.str b6,.i b7,.i b8,.bool b9,.i c4,.i c7,.str c8,.o 5 (PE c5),.o 6 (Ya c6)]) ai;have aj:ab≠ay:=λe=>by subst e;simp[zd.upd,A,z]at ai
    have b3:bq≠ay:=λe=>by subst e;simp[zd.upd]at ai
    refine xG z A (Ne.symm A) aj (Ne.symm aj) b3 (Ne.symm b3) (zu (a1.2.2 _) λo2 bp W=>?_);have al:=W.kept ab _ (by simp only[zd.upd,A,aj,if_false];exact z) (λd e=>by cases e);have bf:=Z3 ae W;refine xa (zp (by rw[zO];exact bf.own) ?_ ?_ λo' a6 ad=>?_)
    ·simp only[zO];omega
    ·simp only[zO,maxLen];omega
    have bc:=ad.kept ab _ al (Tz bf.own al);simp only[zO]at ad;refine wh ?_;exact zJ (az (o',a++Oc s ⟨b6,b7,b8⟩ b9 (.mk au aw ax av ce)) a6 ⟨bc,K.symm,by rw[ZX];exact bf.trans ad⟩) xf
def spC(s:zg)(t:X4)(has:Bool)(v:Val)(g:zA s<=ze)(f:bV v<=ze)(h:t.nm.length<=ze):zcp s t has v (Oc s t has v):=spE s g v _ t has (ZG _) f h
def Wa(l:B9)(n:B8):cT l++[[.str n]]=cT (l++[n]):=vc
def ziw(s:zg)(n:B8)(ar:zA s<=ze):zf 265 [.agg (zk s),.str n] (.o 1 (cT (Wn s n))):=by
 refine zo ir265 λKP Q a3=>?_;have av:=zR ar;have hf:=QE s n av;have a6:=@Xh s n;have bh:zA s<=1099511627776:=ar;have au:=λba=>zi8 s ba av;have h:=MM s n;have a4:=VP s.defs;have aw:=λ(d:yX) (a1:d∈s.defs)=>NV a1;obtain⟨A,ax,sm⟩:=s;generalize ah:(⟨A,ax,sm⟩:zg)=s at *
 have a5:zk s=[.o 6 (Vd A),.str ax,.str sm]:=xM ah
 have a8:s.defs=A:=by rw[<-ah]
 have bf:bEs A<=zA s:=by rw[<-ah];simp only[zA];omega
 rw[a8]at h a4 aw;simp only[a5]at hf au ⊢;have O:=YX A;have fin:∀l,Wn s n=l->∀ρ H ap,zx ρ H ir265.1.res=some ap->(Yz ap).strip=.o 1 (cT l)->Q .ret ρ H:=λo e ρ H ap O G=>a3 O (by rw[G,e]);refine xh hf ?_;cases ai:zL s n with
 | none =>rw[ai]at h;refine we ?_;refine zb λK Y=>?_;refine x0 ?_;exact fin [] h _ _ [.sl .nil 1 []] xb rfl
 | some d =>
  rw[ai]at h;obtain⟨_,_,a7,_⟩:=a6 ai;obtain⟨k,ay,a0,az,M,bc⟩:=d;simp only at h a7;have bj:=ZN M;by_cases am:k=1
  ·subst am;refine xD ?_;refine zb λK Y=>?_;refine x0 ?_;refine zp (o:=.nil) (xs:=[]) rfl xw (by simp[maxLen]) λo1 bd bl=>?_;refine xa ?_;exact fin [n] (wa h) _ _ [.sl o1 1 [[.str n]]] xb rfl
  by_cases an:k=2
  ·subst an;simp only[Int.reduceEq,if_false,if_true]at h;refine xD ?_;refine zb λK Y=>?_;refine wn O ?_;refine zc A 8 (λx:Own×B9=>[(7,.sl x.1 1 (cT x.2))]) (λag I x H'=>I.foldl (Wv n) x.2=A.foldl (Wv n) []/\x.2.length+I.length<=A.length/\zM H' x.1 x.2.length 1) (.nil,[]) xJ ⟨rfl,by simp,rfl⟩ ?_ ?_
   ·rintro⟨o1,a⟩ H' af ⟨f,_,g⟩ y;simp only[List.foldl]at f;refine xd O y ?_;exact fin a (by rw[h,<-f]) _ _ [.sl o1 1 (cT a)] xb rfl
   ·rintro ag x I ⟨o1,a⟩ H' af aa y _ ⟨f,ak,g⟩ z;replace g:zM H' o1 a.length 1:=g;have W:=Xc aa;have a9:=aw x (xv aa);obtain⟨aq,j,J,ab,ad,ac⟩:=x;have bg:=ZN J;simp only[bE]at a9;simp only[List.foldl,yg]at f ak;have al:=NO n a ⟨aq,j,J,ab,ad,ac⟩;simp(disch:=first|omega|assumption) only[O,y,W,zS,go_sem];refine zb λbe Z=>?_;by_cases aj:aq=1
    case neg =>
     have v:Wv n a ⟨aq,j,J,ab,ad,ac⟩=a:=by simp[Wv,aj]
     rw[v]at f;refine wn aj ?_;exact zJ (z (o1,a) _ ⟨f,by simp only;omega,g.upd Z⟩) xf
    subst aj;refine x0 ?_;refine za (TG J n xi) ?_;cases X:zH n J with
    | false =>
     have v:Wv n a ⟨1,j,J,ab,ad,ac⟩=a:=by simp[Wv,X]
     rw[v]at f;refine x0 ?_;exact zJ (z (o1,a) _ ⟨f,by simp only;omega,g.upd Z⟩) xf
    | true =>
     have v:Wv n a ⟨1,j,J,ab,ad,ac⟩=Yp a j:=by simp[Wv,X]
     rw[v]at f al;refine x0 ?_;refine za (Zk.low (TG a j xi)) ?_;cases U:zH j a with
     | true =>
      have C:Yp a j=a:=by simp[Yp,U]
      rw[C]at f;refine x0 ?_;exact zJ (z (o1,a) _ ⟨f,by simp only;omega,g.upd Z⟩) xf
     | false =>
      have C:Yp a j=a++[j]:=by simp[Yp,U]
      rw[C]at f;refine x0 ?_;refine zp (by rw[zn];exact g.upd Z) ?_ ?_ λo' ae L=>?_
      ·simp only[zn,yg,yy];omega
      ·refine wE ?_;omega
      simp only[zn,yg,yy]at L;refine x3 ?_;exact zJ (z (o',a++[j]) ae ⟨f,by refine wm ?_;omega,by simpa using L.own⟩) xb
  by_cases ao:k=3
  ·subst ao;simp only[Int.reduceEq,if_false,if_true]at h;have G:=zn M;refine xD ?_;refine zb λK Y=>?_;refine wn G ?_;refine zc M 10 (λx:Own×B9=>[(7,.sl x.1 1 (cT x.2))]) (λag I x H'=>I.foldl (Vr s) x.2=M.foldl (Vr s) []/\x.2.length+I.length<=M.length/\zM H' x.1 x.2.length 1/\H' K=some (.cells [.i 3,.str ay,.o 1 (cT a0),.o 6 (TK az),.o 1 (cT M),.o 10 (Yg bc)])) (.nil,[]) xJ ⟨rfl,by simp,rfl,upd_same ..⟩ ?_ ?_
   ·rintro⟨o1,a⟩ H' af ⟨f,_,g,p⟩ y;simp only[List.foldl]at f;refine xe G y p ?_;exact fin a (by rw[h,<-f]) _ _ [.sl o1 1 (cT a)] xb rfl
   ·rintro ag x I ⟨o1,a⟩ H' af aa y _ ⟨f,ak,g,p⟩ z;replace g:zM H' o1 a.length 1:=g;have W:=ZM aa;simp only[List.foldl,yg]at f ak;have al:=Lm s a x;refine xE G y W p (au x) ?_;cases X:yA s x [1]with
    | false =>
     have v:Vr s a x=a:=by simp[Vr,X]
     rw[v]at f;refine xc p ?_;exact zJ (z (o1,a) _ ⟨f,by simp only;omega,g,p⟩) xf
    | true =>
     have v:Vr s a x=Yp a x:=by simp[Vr,X]
     rw[v]at f al;refine xE p G y W (Zk.low (TG a x xi)) ?_;cases U:zH x a with
     | true =>
      have C:Yp a x=a:=by simp[Yp,U]
      rw[C]at f;refine xa ?_;exact zJ (z (o1,a) _ ⟨f,by simp only;omega,g,p⟩) xf
     | false =>
      have C:Yp a x=a++[x]:=by simp[Yp,U]
      rw[C]at f;refine xk p G y W ?_;refine zp (wZ g) ?_ ?_ λo' ae L=>?_
      ·simp only[zn,yg,yy];omega
      ·refine wE ?_;omega
      have a2:=L.kept K _ p (Tz g p);simp only[zn,yg,yy]at L;refine x3 ?_;exact zJ (z (o',a++[x]) ae ⟨f,by refine wm ?_;omega,by simpa using L.own,a2⟩) xb
  ·simp only[am,an,ao,if_false]at h;refine xD ?_;refine zb λK Y=>?_;simp(disch:=first|omega|assumption) only[zS,am,an,ao,go_sem];exact fin [] h _ _ [.sl .nil 1 []] xb rfl
def zsY(s:zg)(a b:B8)(L:zA s+1<=ze):zf 140 [.agg (zk s),.str a,.str b] (.bool (OL s a b)):=by
 have y:=ziw s a xg;have z:=ziw s b xg;have X:=TS s a;have Y:=TS s b;have W:zA s+1<=1099511627776:=by simpa only[ze]using L
 have v:OL s a b=(Wn s a).any λx=>zH x (Wn s b):=rfl;generalize OL s a b=F,Wn s a=p,Wn s b=g at *
 have j:=zn p;have U:=zn g;obtain⟨Z,aa,sm⟩:=s;simp only[zk]at y z ⊢;refine zo ir140 λKP Q A=>?_;refine xh y ?_;refine xh z ?_;refine xc j ?_;refine zc p 9 ZY (λJ G _ H=>(G.any λx=>zH x g)=p.any λx=>zH x g) () xb rfl ?_ ?_
 ·rintro _ H I f h;refine xd j h ?_;exact @A _ _ [.bool false] rfl (wK v f)
 ·rintro J x G _ H I M h _ f K;have O:=ZM M;rw[List.any_cons]at f;refine xE j h U O (TG g x xi) ?_;cases C:zH x g with
  | true =>rw[C]at f;refine xa ?_;exact @A _ _ [.bool true] rfl (wK v f)
  | false =>rw[C]at f;refine xa ?_;exact zJ (K () _ (xy f)) xf
def VI(s:zg)(n:B8)(g:zA s<=ze):bT ((zL s n).getD zE).faces<=zA s/\bT ((zL s n).getD zE).parts<=zA s/\Wx ((zL s n).getD zE).ps<=zA s/\NC ((zL s n).getD zE).flds<=zA s:=by
 cases f:zL s n with
 | none=>simp[zE,bT,Wx,NC]
 | some d=>obtain⟨a,b,c,e⟩:=Xh f;exact⟨b,c,e,a⟩
def zjf(s:zg)(a b:X4):Q9 s a b=if zD a=true/\Xl ⟨b.nm,a.lists,a.musts⟩ b=true then (if a.nm=b.nm then true else
  (decide (((zL s a.nm).getD zE).k=1)&&zH a.nm (Wn s b.nm))||(decide (((zL s a.nm).getD zE).k=2)&&(decide (((zL s b.nm).getD zE).k=2)&&zH b.nm ((zL s a.nm).getD zE).faces)))else false:=by
 have e:yA s b.nm [2]=decide (((zL s b.nm).getD zE).k=2):=by cases f:zL s b.nm<;>simp[yA,OO,f,zE]
 unfold Q9;rw[e];cases f:zL s a.nm<;>simp[zE,zH]
def zru(s:zg)(a b:X4)(ai:zA s+1<=ze)(ah:a.nm.length<=ze)(Y:b.nm.length<=ze):zf 326 [.agg (zk s),.agg (YQ a),.agg (YQ b)] (.bool (Q9 s a b)):=by
 have aa:=@zR s xg;have y:=Xm a ah;have C:=zeu ⟨b.nm,a.lists,a.musts⟩ b Y Y;have G:=QE s a.nm aa;have I:=QE s b.nm aa;have K:=(VI s a.nm xg).1;have J:=ziw s b.nm xg;have W:=TG (Wn s b.nm) a.nm (by have:=TS s b.nm;omega);have X:=λ(l:B9) (af:l.length<=ze)=>TG l b.nm af;have ak:zA s<=1099511627776:=by simp only[ze]at ai;omega
 have f:=zjf s a b;generalize Q9 s a b=F at *
 obtain⟨v,O,U⟩:=a;obtain⟨h,ae,bm⟩:=b;simp only at y C G I J W X f K;generalize zD ⟨v,O,U⟩=ao,Xl ⟨h,O,U⟩ ⟨h,ae,bm⟩=ap,Wn s h=aq,(zL s v).isSome=ax,(zL s h).isSome=ay,(zL s v).getD zE=ac,(zL s h).getD zE=ad at *
 obtain⟨M,a5,L,a4,a7,a6⟩:=ac;obtain⟨ar,ba,a9,a8,bd,bc⟩:=ad;have a1:=ZN L;simp only at f K;obtain⟨a2,a3,sm⟩:=s;simp only[zk,YQ,zS]at y C G I J ak K ⊢;refine zo ir326 λKP Q ag=>?_;have fin:∀r,F=r->∀ρ H,zx ρ H ir326.1.res=some [.bool r]->Q .ret ρ H:=λr e ρ H y=>ag y (wa e);refine xa (zb λav az=>?_);refine xh y ?_;cases ao with
 | false =>refine xa ?_;exact fin false (xv f) _ _ rfl
 | true =>
 refine xh C ?_;cases ap with
 | false =>refine xa ?_;exact fin false (xv f) _ _ rfl
 | true =>
 simp only[and_self,if_true]at f;by_cases z:v=h
 ·rw[if_pos z]at f;have al:=eq_true z;refine xc al ?_;exact fin true f _ _ rfl
 rw[if_neg z]at f;refine xt z G ?_;refine xa (zb λaw a0=>?_);refine xh I ?_;refine xa (zb λau aj=>?_);have g:=ZB aj;by_cases j:M=1
 ·have am:=eq_true j;have p:¬ M=2:=xg
  refine xm g (Ne.symm g) am J ?_;refine xh W ?_;cases Z:zH v aq with
  | true =>refine xa ?_;exact fin true (by rw[f];simp[j,Z]) _ _ rfl
  | false =>refine xe g (Ne.symm g) p ?_;exact fin false (by rw[f];simp[Z,p]) _ _ rfl
 by_cases p:M=2
 case neg =>refine xk g (Ne.symm g) j p ?_;exact fin false (by rw[f];simp[j,p]) _ _ rfl
 have ab:=eq_true p;by_cases A:ar=2
 case neg =>refine xp g (Ne.symm g) j ab A ?_;exact fin false (by rw[f];simp[j,A]) _ _ rfl
 have an:=eq_true A;refine xU g (Ne.symm g) j ab an (X L xi) ?_;refine xa ?_;exact fin (zH h L) (by rw[f];simp[p,A]) _ _ rfl
def QY(l:List z6)(n:B8)(ad:l.length<=ze):zf 273 [.o 10 (Yg l),.str n] (.tup [.agg (cW ((zB l n).getD zW)),.bool (zB l n).isSome]):=by
 have ae:=ad;simp only[ze]at ae;have v:=yJ l;have J:∀g j,l=g++j->(∀h∈g,h.nm≠n)->zB l n=j.find? (Lf n):=λg j e f=>by rw[zB,e,List.find?_append,List.find?_eq_none.2 (λh hf=>by simp[Lf,f h hf])];rfl
 generalize zB l n=F at *
 refine zo ir273 λKP Q ac=>?_;have fin:∀o,F=o->∀ρ H I,zx ρ H ir273.1.res=some I->(Yz I).strip=.tup [.agg (cW (o.getD zW)),.bool o.isSome]->Q .ret ρ H:=λo e ρ H I Z aa=>ac Z (by rw[aa,e]);refine xa (zb λX ag=>?_);refine xc v ?_;refine zc l 6 ZY (λg j _ H=>(∀h∈g,h.nm≠n)/\H X=some (.cells [.str [],.str [],.i 0,.i 0,.bool false,.i 0,.i 0,.str [],.sl .nil 5 [],.sl .nil 6 []])) () xb ⟨by simp,upd_same ..⟩ ?_ ?_
 ·rintro _ H W ⟨z,p⟩ y;refine xe v y p ?_;exact fin none (J l [] xw z) _ _ [.agg [.str [],.str [],.i 0,.i 0,.bool false,.i 0,.i 0,.str [],.sl .nil 5 [],.sl .nil 6 []],.bool false] xb rfl
 ·rintro g x j _ H W K y _ ⟨z,p⟩ ab;have C:=y6 K;have Y:=J g (x::j) K z;obtain⟨G,⟨M,O,U⟩,f,⟨k,q,s,L,m⟩⟩:=x;rw[zX]at C;by_cases A:G=n
  ·have af:=eq_true A;refine xp v y C p af ?_;exact fin (some ⟨G,⟨M,O,U⟩,f,.mk k q s L m⟩) (by rw[Y];simp[Lf,A]) _ _ [.agg (cW ⟨G,⟨M,O,U⟩,f,.mk k q s L m⟩),.bool true] wS rfl
  ·refine xp v y C p A ?_;exact zJ (ab () _ ⟨λh hf=>by
    rcases List.mem_append.1 hf with f|f
    ·exact z h f
    ·simp only[List.mem_singleton]at f;subst f;exact A,p⟩) xf
def zok(s:zg)(g:List z6)(m:List yU)(a4:ZC m<=ze)(an:g.length<=ze)(ao:∀G∈g,G.t.nm.length<=ze)(al:∀n x,yU.mk n x∈m->∀t:X4,t.nm.length<=ze->zf 272 [.agg (zk s),.agg (YQ t),.agg (cV x),.bool true] (.bool (yV s t x false))):
  zf 335 [.agg (zk s),.o 10 (Yg g),.o 6 (Ya m)] (.bool (TC (yV s) g [] m&&Wy g m)):=by
 have bv:=y5 m;have z:=yI m;have A:=yJ g;have ba:=an;have a5:=a4;simp only[ze]at ba a5;generalize I:(TC (yV s) g [] m&&Wy g m)=F;obtain⟨aq,ar,sm⟩:=s;generalize a3:(⟨aq,ar,sm⟩:zg)=s at *
 have a7:zk s=[.o 6 (Vd aq),.str ar,.str sm]:=xM a3
 simp only[a7]at al ⊢;refine zo ir335 λKP Q a2=>?_;have fin:∀r,F=r->∀ρ H,zx ρ H ir335.1.res=some [.bool r]->Q .ret ρ H:=λr e ρ H z=>a2 z (wa e);refine xc z ?_;refine zc m 7 ZY (λy v _ H=>TC (yV s) g y v=TC (yV s) g [] m) () xb rfl ?_ ?_
 ·rintro _ H W h j;simp only[TC]at h;refine xe z j A ?_;refine zc g 11 ZY (λy v _ H=>Wy v m=Wy g m) () xb rfl ?_ ?_
  ·rintro _ H W f j;refine xd A j ?_;exact fin true (by rw[<-I,<-h,<-f];rfl) _ _ rfl
  ·rintro y x v _ H W C j _ f J;have p:=y6 C;have ap:=isR x.t (ao x (xv C));have ah:=zqh x.nm m xi;have aa:Wy (x::v) m=(((Y2 x.nm m).2||!QZ x)&&Wy v m):=by simp[Wy]
   rw[aa]at f;have bd:QZ x=(SK x.t&&!x.has):=rfl;rw[bd]at f;obtain⟨bg,⟨M,O,U⟩,a9,⟨ac,af,ag,ad,ae⟩⟩:=x;rw[zX]at p;simp only[YQ]at ah f ap;refine xm A j p ah ?_;generalize Y2 bg m=ay at *
   obtain⟨⟨bl,bq,br,bn,bp⟩,az⟩:=ay;refine x7 (zb λbj bu=>?_);cases az with
   | true =>simp only[Bool.true_or,Bool.true_and]at f;refine xa ?_;exact zJ (J () _ f) xf
   | false =>
    simp only[Bool.false_or]at f;refine xm A j p ap ?_;generalize SK ⟨M,O,U⟩=bf at *
    cases bf with
    | false =>refine xa ?_;exact zJ (J () _ (xy f)) xf
    | true =>
     cases a9 with
     | false =>refine xe A j p ?_;exact fin false (by rw[<-I,<-f];simp) _ _ rfl
     | true =>refine xe A j p ?_;exact zJ (J () _ (xy f)) xf
 ·rintro y x v _ H W C j _ h J;have p:=yZ C;obtain⟨n,x⟩:=x;have am:=al n x (xv C);have a1:=QY g n an;have aa:TC (yV s) g y (.mk n x::v)=((match zB g n with|none=>false|some G=>yV s G.t x false)&&(!y.any (Qw n)&&TC (yV s) g (y++[.mk n x]) v)):=rfl;rw[aa]at h;obtain⟨ac,af,ag,ad,ae⟩:=x;rw[zy,zC]at p;rw[zC]at am;refine xm z j p a1 ?_;cases Z:zB g n with
  | none =>rw[Z]at h;refine x2 (zb λax a6=>?_);refine xa ?_;exact fin false (by rw[<-I,<-h];simp) _ _ rfl
  | some G =>
   rw[Z]at h;have bc:=ao G (List.mem_of_find?_eq_some Z);obtain⟨bz,⟨M,O,U⟩,bw,⟨pk,b1,b2,pl,bx⟩⟩:=G;have hf:=am ⟨M,O,U⟩ bc;simp only at h;simp only[YQ]at hf;refine x6 (zb λax a6=>?_);refine xm z j p hf ?_;cases aj:yV s ⟨M,O,U⟩ (.mk ac af ag ad ae) false with
   | false =>rw[aj]at h;refine xa ?_;exact fin false (by rw[<-I,<-h];simp) _ _ rfl
   | true =>
    rw[aj]at h;simp only[Bool.true_and]at h;refine xa ?_;refine zc y 10 ZY (λX ab _ H=>ab.any (Qw n)=y.any (Qw n)) () xb rfl ?_ ?_
    ·rintro _ av aw f K;simp only[List.any_nil]at f;rw[<-f]at h;refine xc K ?_;exact zJ (J () _ (xy h)) xf
    ·rintro X au ab _ av aw a8 K _ f a0;have ai:m=X++au::(ab++.mk n (.mk ac af ag ad ae)::v):=by rw[C,a8];simp
     have Y:=yZ ai;have ak:(X.length:Int)<m.length:=by rw[ai];simp;omega
     obtain⟨bh,⟨b3,b6,b7,b4,b5⟩⟩:=au;rw[zy,zC]at Y;simp only[List.any_cons,Qw]at f;by_cases L:bh=n
     ·have be:=eq_true L;simp only[L,decide_true,Bool.true_or]at f;rw[<-f]at h;refine xG K z j ak p Y be ?_;exact fin false (by rw[<-I,<-h];simp) _ _ rfl
     ·simp only[L,decide_false,Bool.false_or]at f;refine xG K z j ak p Y L ?_;exact zJ (a0 () _ f) xf
def zpO(s:zg)(aq:zA s<=ze):∀ax:Val,∀(n:Nat) (t:X4) (w:Bool),t.lists.toNat<=n->bV ax<=ze->t.nm.length<=ze->zf 272 [.agg (zk s),.agg (YQ t),.agg (cV ax),.bool (!w)] (.bool (yV s t ax w)):=by
 refine Val.ind λk q h l m b6 b7=>?_;have cy:=Xi l;have p:=YI l;intro n;induction n using Nat.strongRecOn with
 | _ n b5 =>
 intro t w cz a0 ac;have cu:1+h.length+Wg l+ZC m<=1099511627776:=a0;have a7:=Xm t ac;have hit:=znY t ac;have hf:=QE s t.nm (zR aq);obtain⟨_,b2,b3,_⟩:=VI s t.nm aq;have c4:zA s<=1099511627776:=aq;have a5:=λaw (p:aw.length<=ze) (an:∀bc∈aw,bc.t.nm.length<=ze)=>zok s aw m xi p an λb9 x A bg b4=>by
  have ar:bV x<=ze:=by have:=X9 A;refine xl ?_;omega
  exact b7 b9 x A bg.lists.toNat bg false (ZG _) ar b4
 have U:∀it,ZH t=some it->zf 272 [.agg (zk s),.agg (YQ it),.agg (cV (.mk k q h l m)),.bool true] (.bool (yV s it (.mk k q h l m) false)):=λit j=>by obtain⟨g,bp,bq⟩:=Xk j;exact b5 it.lists.toNat xg it false (ZG _) a0 (wz g ac)
 have O:∀it,ZH t=some it->∀x∈l,zf 272 [.agg (zk s),.agg (YQ it),.agg (cV x),.bool false] (.bool (yV s it x true)):=λit j x A=>by
  obtain⟨g,bp,bq⟩:=Xk j;have ar:bV x<=ze:=by have:=UC A;refine xl ?_;omega
  exact b6 x A it.lists.toNat it true (ZG _) ar (wz g ac)
 have a6:zD t=true->SK t=MV t.musts:=λj=>by simp[SK,j]
 have a8:=@Wk t;have f:yV s t (.mk k q h l m) w=if k=8 then zD t else if k=0 then zD t&&!SK t else if zD t=false then false else match ZH t with
  | none=>T6 (yV s) s t.nm (.mk k q h l m)
  | some it=>if k≠6 then !w&&yV s it (.mk k q h l m) false else l.all λx=>yV s it x true:=PI s t (.mk k q h l m) w
 have az:T6 (yV s) s t.nm (.mk k q h l m)=match zL s t.nm with
  | none=>false
  | some d=>if d.k=4 then decide (k=5)&&zH h d.parts else if d.k=5 then decide (k=7)&&(TC (yV s) d.ps [] m&&Wy d.ps m)else if d.k≠0 then false else if t.nm=[73,110,116]then decide (k=2)&&(decide (-2147483648<=q)&&decide (q<=2147483647))else if t.nm=[83,116,114,105,110,103]then decide (k=4)else if t.nm=[66,111,111,108,101,97,110]then decide (k=1)else if t.nm=[73,68]then decide (k=4)||decide (k=2)else false:=by
  unfold T6;cases zL s t.nm<;>rfl
 have ab:∀c:Bool,c=true->Zv t.nm=c->zL s t.nm=some (scE t.nm):=λc p an=>by simp[zL,an,p]
 have M:Zv t.nm=(decide (t.nm=[73,110,116])||decide (t.nm=[83,116,114,105,110,103])||decide (t.nm=[66,111,111,108,101,97,110])||decide (t.nm=[73,68])):=rfl;have cp:Zv t.nm=false->zL s t.nm=s.defs.find? (Mg t.nm):=λj=>by simp[zL,j]
 generalize ct:yV s t (.mk k q h l m) w=F at *
 generalize cx:(zL s t.nm).isSome=cq at *
 generalize J:(zL s t.nm).getD zE=bl at *
 obtain⟨be,bf,sm⟩:=s;generalize bw:(⟨be,bf,sm⟩:zg)=s at *
 have b1:zk s=[.o 6 (Vd be),.str bf,.str sm]:=xM bw
 obtain⟨I,tl,L⟩:=t;obtain⟨X,co,cn,cm,am,Y⟩:=bl;have c3:=ZN am;have c2:=yr Y;simp only[b1,zC,zS]at U O hf a5 ⊢;simp only[YQ]at a7 hit ⊢;simp only at b2 b3 a6 a8 az M;refine zo ir272 λKP Q bv=>?_;have fin:∀r,F=r->∀ρ H,zx ρ H ir272.1.res=some [.bool r]->Q .ret ρ H:=λr e ρ H p=>bv p (wa e);simp(disch:=first|omega|assumption) only[ir272,push_cast,go_sem_proc];refine za a7 ?_;cases aa:zD ⟨I,tl,L⟩with
 | false =>refine xX ?_;exact fin false (by rw[f,aa];simp) _ _ rfl
 | true =>
 rw[aa]at f;simp only[Bool.true_and,Bool.true_eq_false,if_false]at f;by_cases au:k=8
 ·subst au;rw[if_pos rfl]at f;refine xX ?_;exact fin _ f _ _ rfl
 rw[if_neg au]at f;by_cases k0:k=0
 ·subst k0;rw[if_pos rfl,a6 aa]at f;obtain⟨_,_,br,cr⟩:=a8 aa;have bx:=and1 br (show L<64 by omega);refine wv bx ?_;exact fin (decide (L % 2=0)) (by
   rw[f,MV];by_cases j:L % 2=1
   ·simp[j]
   ·have:L % 2=0:=xg
    simp[this]) _ _ rfl
 rw[if_neg k0]at f;refine xN au k0 ?_;refine za hit ?_;cases Z:ZH ⟨I,tl,L⟩with
 | some it =>
  rw[Z]at f;replace U:=U it Z;replace O:=O it Z;obtain⟨af,ad,ae⟩:=it;simp only at U O f;simp(disch:=first|omega|assumption) only[Option.getD,Option.isSome,push_cast,go_sem_proc];refine zb λay bz=>?_;by_cases ah:k=6
  case neg =>
   rw[if_pos ah]at f;cases w with
   | true =>refine wv ah ?_;exact fin false f _ _ rfl
   | false =>refine wv ah ?_;refine za U ?_;refine xX ?_;exact fin _ (wa f) _ _ rfl
  subst ah;rw[if_neg xw]at f;refine wv p ?_;refine zc l 11 (λ_:Unit=>[]) (λbn bd _ H=>H ay=some (.cells [.str af,.i ad,.i ae])/\(bd.all λx=>yV s ⟨af,ad,ae⟩ x true)=l.all λx=>yV s ⟨af,ad,ae⟩ x true) () wV ⟨upd_same ..,rfl⟩ ?_ ?_
  ·rintro _ H bj ⟨ao,v⟩ ap;refine xN p ap ?_;exact fin true (wK f v) _ _ rfl
  ·rintro bn x bd _ H bj a1 ap _ ⟨ao,v⟩ bu;have a4:=Xa a1;have A:=O x (xv a1);rw[List.all_cons]at v;obtain⟨cd,ch,ci,ce,cg⟩:=x;rw[zC]at a4 A;simp(disch:=first|omega|assumption) only[p,ap,a4,ao,push_cast,go_sem_proc];refine za A ?_;cases a3:yV s ⟨af,ad,ae⟩ (.mk cd ch ci ce cg) true with
   | false =>rw[a3]at v;refine xX ?_;exact fin false (wK f v) _ _ rfl
   | true =>rw[a3]at v;refine xX ?_;exact zJ (bu () _ ⟨ao,by simpa using v⟩) (by simp(disch:=first|omega|assumption) only[wrap64,push_cast,go_sem_proc])
 | none =>
  rw[Z]at f;simp only at f;rw[az]at f;simp(disch:=first|omega|assumption) only[Option.getD,Option.isSome,zTy,push_cast,go_sem_proc];refine zb λay bz=>?_;by_cases z:I=[73,110,116]
  ·have av:=eq_true z;rw[ab _ rfl (x1 M z)]at f;simp only[scE,z]at f;by_cases aj:k=2
   case neg =>refine xN av aj ?_;exact fin false (x1 f aj) _ _ rfl
   have bh:=eq_true aj;by_cases ak:-2147483648<=q
   case neg =>refine wd av bh ak ?_;exact fin false (x1 f ak) _ _ rfl
   refine wd av bh ak ?_;exact fin (decide (q<=2147483647)) (by rw[f];simp[aj,ak]) _ _ rfl
  by_cases C:I=[83,116,114,105,110,103]
  ·have ca:=eq_true C;rw[ab _ rfl (x1 M C)]at f;simp only[scE,C]at f;refine xN z ca ?_;exact fin (decide (k=4)) (xv f) _ _ rfl
  by_cases G:I=[66,111,111,108,101,97,110]
  ·have cb:=eq_true G;rw[ab _ rfl (x1 M G)]at f;simp only[scE,G]at f;refine wd z C cb ?_;exact fin (decide (k=1)) (xv f) _ _ rfl
  by_cases W:I=[73,68]
  ·have ba:=eq_true W;rw[ab _ rfl (x1 M W)]at f;simp only[scE,W]at f;by_cases al:k=4
   ·have cc:=eq_true al;simp(disch:=first|omega|assumption) only[z,C,G,ba,cc,push_cast,go_sem_proc];exact fin true (x1 f al) _ _ rfl
   ·simp(disch:=first|omega|assumption) only[z,C,G,ba,al,push_cast,go_sem_proc];exact fin (decide (k=2)) (x1 f al) _ _ rfl
  have g:F=if X=4 then decide (k=5)&&zH h am else if X=5 then decide (k=7)&&(TC (yV s) Y [] m&&Wy Y m)else false:=by
   rw[f];cases a2:zL s I with
   | none =>rw[a2]at J;simp only[Option.getD_none,zE]at J;cases J;simp
   | some d =>rw[a2]at J;simp only[Option.getD_some]at J;subst J;simp[z,C,G,W]
  clear f;simp(disch:=first|omega|assumption) only[z,C,G,W,push_cast,go_sem_proc];refine za hf ?_;refine xX ?_;refine zb λcj cw=>?_;by_cases K:X=4
  ·have a9:=eq_true K;rw[if_pos K]at g;by_cases y:k=5
   ·have ag:=eq_true y;refine xN a9 ag ?_;refine za (TG am h xi) ?_;refine xX ?_;exact fin _ (x1 g y) _ _ rfl
   ·refine xN a9 y ?_;exact fin false (x1 g y) _ _ rfl
  rw[if_neg K]at g;by_cases y:X=5
  case neg =>rw[if_neg y]at g;refine xN K y ?_;exact fin false g _ _ rfl
  have ag:=eq_true y;rw[if_pos y]at g;by_cases ai:k=7
  case neg =>refine wd K ag ai ?_;exact fin false (x1 g ai) _ _ rfl
  have b8:=eq_true ai;refine wd K ag b8 ?_;refine za (a5 Y xi λbc v=>by have:=YW v;simp only[bW]at this;refine xl ?_;omega) ?_;refine xX ?_;exact fin _ (x1 g ai) _ _ rfl
def zaE(s:zg)(t:X4)(v:Val)(G:zA s<=ze)(j:bV v<=ze)(z:t.nm.length<=ze):zf 151 [.agg (zk s),.agg (YQ t),.agg (cV v)] (.bool (Zs s t v)):=by
 have y:=Xm t z;have p:=Lh v j;have hf:=zpO s G v _ t false (ZG _) j z;have f:Zs s t v=(zD t&&(yL v&&yV s t v false)):=by
  have:yV s t v false=true->zD t=true:=λg=>by
   rw[PI]at g;obtain⟨k,q,I,l,m⟩:=v;simp only[M4]at g;cases C:zD t with
   | true=>rfl
   | false=>simp[C]at g
  unfold Zs;cases A:yV s t v false with
  | true=>rw[this A];simp
  | false=>simp
 generalize Zs s t v=F,yV s t v false=W,yL v=K,zD t=J at *
 obtain⟨L,M,sm⟩:=s;obtain⟨U,tl,O⟩:=t;obtain⟨k,q,I,l,m⟩:=v;simp only[zk,YQ,zC,Bool.not_false]at hf p y ⊢;refine zo ir151 λKP Q h=>?_;refine xh y ?_;cases J with
 | false =>exact vn h f
 | true =>
  refine xh p ?_;cases K with
  | false =>exact vn h f
  | true =>refine xh hf ?_;exact vn h f
def Me(r:Bool)(s:zg)(q:Int)(g:B8)(l:List Val)(m:List yU):∀(n:Nat) (t:X4) (has:Bool),t.lists.toNat<=n->MA r s t has (.mk 0 q g l m)=[]:=by
 intro n;induction n using Nat.strongRecOn with
 | _ n f =>
 intro t has v;rw[zd6];simp only[spB];cases hi:ZH t with
 | none=>simp
 | some it =>obtain⟨h,j,p⟩:=Xk hi;simpa using f it.lists.toNat xg it false (ZG _)
def zgq(s:zg)(t:X4)(has:Bool)(v:Val)(L:List ZK):Prop :=L.length<=bV v/\(∀x∈L,x.t.nm.length<=ze)/\∀H,YR Tryz.prog 368 [.agg (zk s),.agg (YQ t),.bool has,.agg (cV v)] H .nil 5 (Ul L)
def Xx(s:zg)(f:List z6):yU->List ZK| .mk n x=>MA true s ((zB f n).getD zW).t ((zB f n).getD zW).has x
def zdt(s:zg)(t:X4)(has:Bool)(k q:Int)(g:B8)(l:List Val)(m:List yU):MA true s t has (.mk k q g l m)=if k=8 then [⟨g,t,has⟩]else match ZH t with
  | some it=>if k=6 then l.flatMap (MA true s it false)else MA true s it false (.mk k q g l m)
  | none=>if k=7 then m.flatMap (Xx s ((zL s t.nm).getD zE).ps)else []:=by
 have e:∀f,Sv (MA true s) true f=Xx s f:=λf=>by funext x;obtain⟨n,h⟩:=x;simp only[Sv,Xx,if_true];cases zB f n<;>rfl
 rw[zd6];simp only[spB,e]<;>(cases ZH t<;>rfl)
def zsx(s:zg)(p:zA s<=ze):∀aj:Val,∀(n:Nat) (t:X4) (has:Bool),t.lists.toNat<=n->bV aj<=ze->t.nm.length<=ze->zgq s t has aj (MA true s t has aj):=by
 refine Val.ind λk q K l m ch ci=>?_;have c9:=Xi l;have da:=y5 m;have af:=YI l;have al:=yI m;intro n;induction n using Nat.strongRecOn with
 | _ n cg =>
 intro t has v am ap;have c8:1+K.length+Wg l+ZC m<=1099511627776:=am;have hit:=znY t ap;have dd:zA s<=1099511627776:=p;have hf:=QE s t.nm (zR p);have dc:=(VI s t.nm p).2.2.1;have ca:=Me true s q K l m;have j:=zdt s t has k q K l m;generalize c5:(zL s t.nm).getD zE=E,(zL s t.nm).isSome=c4 at *
 have c6:=yr E.ps;have br:=λn=>QY E.ps n xi;have U:∀it,ZH t=some it->zgq s it false (.mk k q K l m) (MA true s it false (.mk k q K l m)):=λit ae=>by obtain⟨av,b2,b3⟩:=Xk ae;exact cg it.lists.toNat xg it false (ZG _) am (wz av ap)
 have I:∀it,ZH t=some it->∀x∈l,zgq s it false x (MA true s it false x):=λit ae x h=>by
  obtain⟨av,b2,b3⟩:=Xk ae;have a4:bV x<=ze:=by have:=UC h;refine xl ?_;omega
  exact ch x h it.lists.toNat it false (ZG _) a4 (wz av ap)
 have ah:∀n x,yU.mk n x∈m->zgq s ((zB E.ps n).getD zW).t ((zB E.ps n).getD zW).has x (Xx s E.ps (.mk n x)):=λn x h=>by
  have a4:bV x<=ze:=by have:=X9 h;refine xl ?_;omega
  refine ci n x h _ _ _ (ZG _) a4 ?_;cases ao:zB E.ps n with
  | none=>simp[zW]
  | some a7 =>have cb:a7∈E.ps:=List.mem_of_find?_eq_some ao;have:=YW cb;simp only[bW]at this;simp only[Option.getD_some,ze];omega
 have an:∀x∈m,(Xx s E.ps x).length<=bM x/\∀L∈Xx s E.ps x,L.t.nm.length<=ze:=λx h=>by obtain⟨n,aj⟩:=x;have:=ah n aj h;exact⟨Nat.le_trans this.1 vj,this.2.1⟩
 have a0:=λa:List yU=>XL (f:=Xx s E.ps) (g:=bM) a;have bu:bV (.mk k q K l m)=1+K.length+Wg l+ZC m:=rfl;refine⟨?_,?_,λH=>?_⟩
 ·rw[j,bu];split
  ·simp;omega
  ·cases z:ZH t with
   | some it =>
    simp only
    split
    ·have:=XL (f:=MA true s it false) (g:=bV) l λx h=>(I it z x h).1;rw[<-SU]at this;omega
    ·rw[<-bu];exact(U it z).1
   | none =>
    simp only
    split
    ·have:=a0 m λx h=>(an x h).1;rw[<-Vg]at this;omega
    ·simp
 ·rw[j];split
  ·intro x h;simp only[List.mem_singleton]at h;subst h;exact ap
  ·cases z:ZH t with
   | some it =>
    simp only
    split
    ·intro x h;obtain⟨L,ab,h⟩:=List.mem_flatMap.1 h;exact(I it z L ab).2.1 x h
    ·exact(U it z).2.1
   | none =>
    simp only
    split
    ·intro x h;obtain⟨L,ab,h⟩:=List.mem_flatMap.1 h;exact(an L ab).2 x h
    ·simp
 have b9:k=0->MA true s t has (.mk k q K l m)=[]:=λae=>by subst ae;exact ca _ t has (ZG _)
 generalize MA true s t has (.mk k q K l m)=F at *
 obtain⟨bw,bx,sm⟩:=s;generalize b6:(⟨bw,bx,sm⟩:zg)=s at *
 have b8:zk s=[.o 6 (Vd bw),.str bx,.str sm]:=xM b6
 obtain⟨ct,tl,cr⟩:=t;simp only[zgq]at U I ah;simp only[b8,zC]at U I ah hf ⊢;simp only[YQ]at hit ⊢;refine Xt ir368 λKP Q b5 c7=>?_;have fin:∀r o,F=r->∀ρ y,zx ρ y ir368.1.res=some [.sl o 5 (Ul r)]->zQ H .nil y o r.length 5->Q .ret ρ y:=λr o e ρ y af b4=>b5 _ ρ y y _ nofun af (yT.refl _) ⟨o,by rw[e];rfl,by rw[e,zO];exact b4⟩;by_cases aq:k=8
 ·subst aq;rw[if_pos rfl]at j;refine xa ?_;exact fin _ .full j _ _ rfl ⟨trivial,λb x am _=>am,λb d e=>by cases e⟩
 rw[if_neg aq]at j;by_cases k0:k=0
 ·have cj:=eq_true k0;refine xd aq cj ?_;exact fin [] .nil (b9 k0) _ _ rfl (zQ.refl (o:=.nil) (n:=0) rfl)
 refine xn aq k0 hit ?_;cases z:ZH ⟨ct,tl,cr⟩with
 | some it =>
  rw[z]at j;replace U:=U it z;replace I:=I it z;obtain⟨Y,W,X⟩:=it;simp only at U I j;simp(disch:=first|omega|assumption) only[Option.getD,Option.isSome,go_sem];refine zb λZ ay=>?_;have ai:zQ H .nil (H.upd Z (.cells [.str Y,.i W,.i X])) .nil 0 5:=(zQ.refl (o:=.nil) (n:=0) rfl).upd ay;by_cases a5:k=6
  case neg =>rw[if_neg a5]at j;refine xc a5 (zu (U.2.2 _) λo2 be O=>?_);refine xa ?_;exact fin _ o2 j _ _ rfl (by rw[zO]at O;exact ai.trans O)
  subst a5;rw[if_pos rfl]at j;refine xc af ?_;refine zc l 12 (λx:Own×List ZK=>[(11,.sl x.1 5 (Ul x.2))]) (λA a8 x H'=>H' Z=some (.cells [.str Y,.i W,.i X])/\x.2=A.flatMap (MA true s ⟨Y,W,X⟩ false)/\zQ H .nil H' x.1 x.2.length 5) (.nil,[]) wo ⟨upd_same ..,rfl,ai⟩ ?_ ?_
  ·rintro⟨o1,a⟩ y au ⟨C,v,p⟩ M;simp only at v;subst v;refine xd af M ?_;exact fin _ o1 j _ _ rfl p
  ·rintro A x a8 ⟨o1,a⟩ y au G M _ ⟨C,v,p⟩ ax;have ac:=Xa G;have h:=I x (xv G);simp only at v;replace p:zQ H .nil y o1 a.length 5:=p;have b7:a.length+(MA true s ⟨Y,W,X⟩ false x).length<=Wg l:=by
    have:=XL (f:=MA true s ⟨Y,W,X⟩ false) (g:=bV) (A++[x]) λL ab=>(I L (NB G ab)).1;rw[List.flatMap_append,ZX,<-v]at this;simp only[List.flatMap_cons,List.flatMap_nil,List.append_nil]at this;have e:Wg l=(l.map bV).sum:=SU l;rw[e,G];simp only[List.map_append,List.sum_append,List.map_cons,List.map_nil,List.sum_cons,List.sum_nil]at this ⊢;omega
   have az:(A++[x]).flatMap (MA true s ⟨Y,W,X⟩ false)=a++MA true s ⟨Y,W,X⟩ false x:=wQ v
   obtain⟨a9,bc,bd,ba,cu⟩:=x;rw[zC]at ac h;refine xk af M ac C (zu (h.2.2 _) λo2 be O=>?_);have ag:=O.kept Z _ C (λd e=>by cases e);have a2:=Z3 p O;refine xa (zp (by rw[zO];exact a2.own) ?_ ?_ λo' ar aa=>?_)
   ·simp only[zO];omega
   ·simp only[zO,maxLen];omega
   have aw:=aa.kept Z _ ag (Tz a2.own ag);simp only[zO]at aa;refine wh ?_;exact zJ (ax (o',a++MA true s ⟨Y,W,X⟩ false (.mk a9 bc bd ba cu)) ar ⟨aw,az.symm,by rw[ZX];exact a2.trans aa⟩) xf
 | none =>
  rw[z]at j;simp only at j;refine w3 (zb λZ ay=>?_);have ai:zQ H .nil (H.upd Z (.cells [.str [],.i 0,.i 0])) .nil 0 5:=(zQ.refl (o:=.nil) (n:=0) rfl).upd ay;by_cases a6:k=7
  case neg =>rw[if_neg a6]at j;refine xc a6 ?_;exact fin [] .nil j _ _ rfl ai
  subst a6;rw[if_pos rfl]at j;obtain⟨bf,bg,bj,bh,bv,J⟩:=E;simp only at br ah an a0 j;rw[zS]at hf;refine xh hf ?_;refine x0 (zb λad bl=>?_);have bq:ad≠Z:=λe=>by subst e;simp[zd.upd]at bl
  have cc:=ai.upd (x:=.cells [.i bf,.str bg,.o 1 (cT bj),.o 6 (TK bh),.o 1 (cT bv),.o 10 (Yg J)]) bl;refine xe bq (Ne.symm bq) al ?_;refine zc m 15 (λx:Own×List ZK=>[(11,.sl x.1 5 (Ul x.2))]) (λA a8 x H'=>H' ad=some (.cells [.i bf,.str bg,.o 1 (cT bj),.o 6 (TK bh),.o 1 (cT bv),.o 10 (Yg J)])/\x.2=A.flatMap (Xx s J)/\zQ H .nil H' x.1 x.2.length 5) (.nil,[]) wo ⟨upd_same ..,rfl,cc⟩ ?_ ?_
  ·rintro⟨o1,a⟩ y au ⟨C,v,p⟩ M;simp only at v;subst v;refine xd al M ?_;exact fin _ o1 j _ _ rfl p
  ·rintro A x a8 ⟨o1,a⟩ y au G M _ ⟨C,v,p⟩ ax;have ac:=yZ G;have ce:x∈m:=xv G
   simp only at v;replace p:zQ H .nil y o1 a.length 5:=p;have b7:a.length+(Xx s J x).length<=ZC m:=by have:=a0 (A++[x]) λL ab=>(an L (NB G ab)).1;rw[List.flatMap_append,ZX,<-v]at this;simp only[List.flatMap_cons,List.flatMap_nil,List.append_nil]at this;have e:ZC m=(m.map bM).sum:=Vg m;rw[e,G];simp only[List.map_append,List.sum_append,List.map_cons,List.map_nil,List.sum_cons,List.sum_nil]at this ⊢;omega
   have az:(A++[x]).flatMap (Xx s J)=a++Xx s J x:=wQ v
   obtain⟨ak,⟨a9,bc,bd,ba,cw⟩⟩:=x;have ao:=br ak;have bp:=ah ak _ ce;rw[zy,zC]at ac;generalize Xx s J (.mk ak (.mk a9 bc bd ba cw))=bz,(zB J ak).isSome=ok,(zB J ak).getD zW=a7 at *
   obtain⟨cq,⟨cm,cn,co⟩,cp,⟨cx,c2,c3,cy,cz⟩⟩:=a7;rw[zX]at ao;simp only at bp;refine xE al M ac C ao ?_;refine xa (zb λb1 bn=>?_);have a1:ad≠b1:=nen2 C bn;have cd:=p.upd (x:=.cells [.str cq,.str cm,.i cn,.i co,.bool cp,.i cx,.i c2,.str c3,.o 5 (PE cy),.o 6 (Ya cz)]) bn;refine xu al M ac C a1 (Ne.symm a1) (zu (bp.2.2 _) λo2 be O=>?_);have ag:=O.kept ad _ (wl a1 C) (λd e=>by cases e);have a3:=Z3 cd O;refine xa (zp (by rw[zO];exact a3.own) ?_ ?_ λo' ar aa=>?_)
   ·simp only[zO];omega
   ·simp only[zO,maxLen];omega
   have aw:=aa.kept ad _ ag (Tz a3.own ag);simp only[zO]at aa;refine wh ?_;exact zJ (ax (o',a++bz) ar ⟨aw,az.symm,by rw[ZX];exact a3.trans aa⟩) xf
def zrj(s:zg)(t:X4)(has:Bool)(v:Val)(g:zA s<=ze)(f:bV v<=ze)(h:t.nm.length<=ze):zgq s t has v (MA true s t has v):=zsx s g v _ t has (ZG _) f h
def zcr{g:zb3}{p:List z6}:∀ {r seen:List yU},TC g p seen r=true->∀n x,yU.mk n x∈r->∃f,zB p n=some f/\g f.t x false=true
 | .mk n v::r,seen,h,n',x,j=>by
  simp only[TC,yu]at h;rcases List.mem_cons.1 j with e|j
  ·cases e;cases y:zB p n with
   | none=>rw[y]at h;cases h.1
   | some f=>rw[y]at h;exact⟨f,rfl,h.1⟩
  ·exact zcr h.2.2 n' x j
def zom(s:zg):∀A:Val,∀(n:Nat) (t:X4) (has w:Bool),t.lists.toNat<=n->yV s t A w=true->MA true s t has A=Oc s t has A:=by
 refine Val.ind λk q z l m M O=>?_;intro n;induction n using Nat.strongRecOn with
 | _ n L =>
 intro t has w Y hf;rw[zdt,zd4,spS];rw[PI]at hf;simp only[M4]at hf;by_cases f:k=8
 ·rw[if_pos f,if_pos f]
 rw[if_neg f,if_neg f];rw[if_neg f]at hf;by_cases k0:k=0
 ·subst k0;have v:=Me true s q z l m t.lists.toNat t has (ZG _);have y:=Me false s q z l m t.lists.toNat t has (ZG _);rw[zdt,if_neg f]at v;have I:=zd4 s t has (.mk 0 q z l m);rw[Oc,y,spS,if_neg f]at I;rw[v,<-I]
 rw[if_neg k0]at hf;split at hf
 ·cases hf
 rename_i Z;cases hi:ZH t with
 | some it =>
  rw[hi]at hf;obtain⟨U,W,X⟩:=Xk hi;simp only at hf ⊢;by_cases g:k=6
  ·rw[if_pos g,if_pos g];rw[if_neg (xr g),Yh]at hf;exact Sy λx h=>M x h _ it false true (ZG _) (hf x h)
  ·rw[if_neg g,if_neg g];rw[if_pos g,yu]at hf;exact L it.lists.toNat xg it false false (ZG _) hf.2
 | none =>
  rw[hi]at hf;simp only at hf ⊢;by_cases j:k=7
  case neg=>rw[if_neg j,if_neg j]
  rw[if_pos j,if_pos j];subst j;refine Sy λx h=>?_;obtain⟨C,G⟩:=x;have K:∃p,zB ((zL s t.nm).getD zE).ps C=some p/\yV s p.t G false=true:=by
   unfold T6 at hf;cases J:zL s t.nm with
   | none=>rw[J]at hf;cases hf
   | some d =>
    rw[J]at hf;simp only at hf;split at hf
    ·simp at hf
    split at hf
    ·simp only[TN,yu]at hf;exact zcr hf.2.1 C G h
    split at hf
    ·cases hf
    ·split at hf
     ·simp at hf
     split at hf
     ·simp at hf
     split at hf
     ·simp at hf
     split at hf<;>simp at hf
  obtain⟨p,v,y⟩:=K;simp only[Xx,XF,v,Option.getD_some];exact O C G h _ p.t p.has false (ZG _) y
def zao(dp:Int)(fixed:Bool)(l:List yv)(x:yv):Zg dp fixed (l++[x])=(Zg dp fixed l&&Nz dp fixed x):=by simp[Zg]
def zj2(l:List yv)(x:yv):tDs (l++[x])=tDs l++tD x:=by simp[tDs]
def zjT(l:List yv)(x:yv):We (l++[x])=We l+bD x:=vh
def RJ(fixed:Bool)(m:List yv)(ae:zhn m)(ab:8*We m<=ze):WC 243 [.bool fixed,.o 2 (ZE m)] (8*We m) 0 32 (λdp=>Zg dp fixed m) (tDs m):=by
 intro H w o l ok dp W aq ar p;have aw:=Y3 m;have v:=YB m;have ac:=ab;simp only[ze]at ac;refine Xe ir243 λKP Q Y=>?_;have w0:=WR.refl W;refine xc v ?_;refine zc m 10 (λx:Own×List Tok=>[]) (λh J x H'=>WR H o w l ok dp (8*We h) (Zg dp fixed h) (tDs h) H' x.1 x.2) (o,l) xb (w0.cast xg rfl rfl) ?_ ?_
 ·rintro⟨ai,ag⟩ j O g z;simp only at g;refine xd v z ?_;exact Y _ _ j j [] nofun rfl (yT.refl _) ⟨rfl,g.fin rfl (λ_=>rfl) xg⟩
 ·rintro h x J ⟨ai,ag⟩ j O y z av g X;simp only at g;have I:=Y0 y;have C:=VJ h x J;rw[<-y]at C;have ad:x∈m:=xv y
  have af:=ae x ad;obtain⟨s,f⟩:=x;have au:=y5 f;simp only[bD]at C;have U:cD ⟨s,f⟩=[.str s,.o 6 (Ya f)]:=rfl;rw[U]at I;refine xe v z I (zb λb p=>?_);have G:b≠w:=λe=>by subst e;rw[g.here.cell]at p;cases p
  have K:=g.alloc (x:=.cells [.str s,.o 6 (Ya f)]) p;have aa:(j.upd b (.cells [.str s,.o 6 (Ya f)])) b=some (.cells [.str s,.o 6 (Ya f)]):=upd_same ..;refine xa (zT (YD [64] _) K xg xg xg λaz ax ao L ak=>?_);have A:=ak.box K.here.own aa G;refine xc A (zT (ZR s xi) L xg xg xg λa0 ay ap am al=>?_);have Z:=al.box L.here.own A G;refine xc Z (zT (zi1 fixed f af xi) am xg xg xg λaj ah M an a1=>?_);refine xq ?_;exact zJ (X (aj,ah) M (an.cast (by rw[zjT];simp only[bD];omega) (by rw[zao];simp[Nz,WX]) (by rw[zj2];simp[tD]))) xb
def zjw(c:Nat):Prop:=∀l:List zj,yR l<=c->Mm l->16*yR l+2<=ze->WC 323 [.o 7 (Zp l)] (16*yR l) 0 17 (λdp=>yF dp l) (tSl l)
def NE{c:Nat}(M:zjw c)(l:List zj)(U:yR l<=c)(X:Mm l)(W:16*yR l+2<=ze):WC 244 [.o 7 (Zp l)] (16*yR l+2) 0 16 (λdp=>yF (dp+1) l) (tBl l):=by
 intro H w o k ok dp G ae af aj;refine Xe ir244 λKP Q O=>?_;refine xa (Tc (YD [123] _) G xg xg xg λo2 ak ac h K ah j=>?_);have y:=h.cell;have aa:IntKind.wrap .i64 (dp+1)=dp+1:=wrap64 xg xg;have ab:IntKind.wrap .i64 (dp+1-1)=dp:=by rw[wrap64 xg xg];omega
 refine xd y aa ?_;have A:=h.put (ok':=ok&&true) (dp':=dp+1);refine Tc (M l U X W) A xg xg xg λam al ad p L ai v=>?_;have z:=p.cell;refine xd z ab ?_;have C:=p.put (ok':=(ok&&true)&&yF (dp+1) l) (dp':=dp);refine Tc (YD [125] _) C xg xg xg λZ Y f I J ag g=>?_;refine xa ?_;refine O _ _ f f [] nofun rfl (yT.refl _) ⟨rfl,Z,Y,by simpa using I,?_,by omega,λe=>?_⟩
 ·exact((K.upd.trans (upd_same ..) L).upd).trans (upd_same ..) J
 ·simp only[Bool.and_true]at j v g;rw[g e,v e,j (by simp only[yu]at e;exact e.1)];simp[tBl]
def zjS(k:Int)(j f:B8)(args:List yU)(h:List yv)(p:B8)(g:List zj)(ab:k=1)(ae:wfS (.mk k j f args h p g))(ac:16*bS (.mk k j f args h p g)<=ze):
  WC 361 [.agg (cS (.mk k j f args h p g))] (16*bS (.mk k j f args h p g)) 0 16 (λdp=>Zd dp (.mk k j f args h p g)) (tS (.mk k j f args h p g)):=by
 intro H w o l ok dp X an v aa;have ad:=ac;simp only[ze,bS]at ad;simp only[bS]at aa;have G:=yI args;have K:=Z7 g;obtain⟨_,af,_⟩:=ae;subst ab;refine Xe ir361 λKP Q Z=>?_;have w0:=WR.refl X;obtain⟨b,y⟩:∃b,b=(decide (f≠[111,110])&&(decide (j=[])&&(decide (p=[])&&(decide (args.length=0)&&decide (g.length=0))))):=⟨_,rfl⟩;have M:Zd dp (.mk 1 j f args h p g)=(b&&zI f&&Zg dp false h):=by rw[y];simp only[Zd,show ¬ ((1:Int)=0) by decide,if_false,if_true];cases zI f<;>cases Zg dp false h<;>simp
 have W:b=true->tS (.mk 1 j f args h p g)=pk [46,46,46]::wk f::tDs h:=λe=>by rw[y]at e;simp only[yu,Zh]at e;simp[tS,e.2.2.2.2]
 by_cases v:j=[]
 case' neg =>
  have C:b=false:=x1 y v
  simp(disch:=omega) only[ir361,Zt,v,go_sem]
 case' pos =>
  by_cases O:args.length=0
  case' neg =>
   have C:b=false:=x1 y O
   have z:¬ ((args.length:Int)=0):=xg
   simp(disch:=omega) only[ir361,Zt,v,G,z,go_sem]
  case' pos =>
   have z:((args.length:Int)=0)=True:=eq_true xg;by_cases A:p=[]
   case' neg =>
    have C:b=false:=x1 y A
    simp(disch:=omega) only[ir361,Zt,v,G,z,A,go_sem]
   case' pos =>
    by_cases U:g.length=0
    case' neg =>
     have C:b=false:=x1 y U
     have I:¬ ((g.length:Int)=0):=xg
     simp(disch:=omega) only[ir361,Zt,v,G,z,A,K,I,go_sem]
    case' pos =>
     have I:((g.length:Int)=0)=True:=eq_true xg;by_cases J:f=[111,110]
     case' pos =>
      have C:b=false:=x1 y J
      have Y:=eq_true J;simp(disch:=omega) only[ir361,Zt,v,G,z,A,K,I,Y,go_sem]
     case' neg =>
      have C:b=true:=by rw[y];simp[v,O,A,U,J]
      simp(disch:=omega) only[ir361,Zt,v,G,z,A,K,I,J,go_sem]
 all_goals refine zT (Ww _) w0 xg xg xg λo2 ao ak ag _=>?_;refine xa (zT (YD [46,46,46] _) ag xg xg xg λau ap al ah _=>?_);refine xa (zT (ZR f xi) ah xg xg xg λav aq am ai _=>?_);refine xa (zT (RJ false h af xi) ai xg xg xg λaw ar L aj _=>?_);refine xa ?_;exact Z _ _ L L [] nofun rfl (yT.refl _) ⟨rfl,aj.fin (by show _=Zd dp _;rw[M,C];simp) (λe=>by have e:Zd dp (.mk 1 j f args h p g)=true:=e;rw[W (by rw[M]at e;simp only[yu]at e;exact e.1.1)];simp) vg⟩
def znE:zI [111,110]=true:=by decide
def zhF{c:Nat}(X:zjw c)(k:Int)(j p:B8)(args:List yU)(h:List yv)(f:B8)(g:List zj)(ab:k=2)(aa:yR g<=c)(ae:wfS (.mk k j p args h f g))(ac:16*bS (.mk k j p args h f g)<=ze):
  WC 362 [.agg (cS (.mk k j p args h f g))] (16*bS (.mk k j p args h f g)) 0 16 (λdp=>Zd dp (.mk k j p args h f g)) (tS (.mk k j p args h f g)):=by
 intro H w o l ok dp W aq v Z;have ad:=ac;simp only[ze,bS]at ad;simp only[bS]at Z;have L:=yI args;obtain⟨_,af,ag⟩:=ae;subst ab;refine Xe ir362 λKP Q Y=>?_;have w0:=WR.refl W;obtain⟨b,z⟩:∃b,b=(decide (p=[])&&(decide (j=[])&&decide (args.length=0))):=⟨_,rfl⟩;have J:Zd dp (.mk 2 j p args h f g)=(b&&(decide (f=[])||zI f)&&Zg dp false h&&yF (dp+1) g):=by rw[z];simp only[Zd,yF,show ¬ ((2:Int)=0) by decide,show ¬ ((2:Int)=1) by decide,if_false,if_true];cases Zg dp false h<;>simp[WX]
 have U:b=true/\yF (dp+1) g=true->tS (.mk 2 j p args h f g)=pk [46,46,46]::((if f=[]then []else [wk [111,110],wk f])++(tDs h++tBl g)):=λ⟨e,I⟩=>by simp only[yF,yu,Zh]at I;simp[tS,I.1,tBl]
 by_cases v:j=[]
 case' neg =>
  have A:b=false:=x1 z v
  simp(disch:=omega) only[ir362,Zt,v,go_sem]
 case' pos =>
  by_cases y:p=[]
  case' neg =>
   have A:b=false:=x1 z y
   simp(disch:=omega) only[ir362,Zt,v,y,go_sem]
  case' pos =>
   by_cases K:args.length=0
   case' neg =>
    have A:b=false:=x1 z K
    have C:¬ ((args.length:Int)=0):=xg
    simp(disch:=omega) only[ir362,Zt,v,y,L,C,go_sem]
   case' pos =>
    have C:((args.length:Int)=0)=True:=eq_true xg;have A:b=true:=by rw[z];simp[v,y,K]
    simp(disch:=omega) only[ir362,Zt,v,y,L,C,go_sem]
 all_goals
  refine zT (Ww _) w0 xg xg xg λo2 ar al ah _=>?_;refine xa (zT (YD [46,46,46] _) ah xg xg xg λaz au am M _=>?_);by_cases ho:f=[]
  case' pos =>have O:=M;simp(disch:=omega) only[ho,go_sem]
  case' neg =>refine xc ho (zT (ZR [111,110] wX) M xg xg xg λa0 av an ai _=>?_);refine xa (zT (ZR f xi) ai xg xg xg λa1 aw ao O _=>?_);simp(disch:=omega) only[go_sem]
  all_goals refine zT (RJ false h af xi) O xg xg xg λa2 ax ap aj _=>?_;refine xa (zT (NE X g aa ag xi) aj xg xg xg λa3 ay G ak _=>?_);refine xa ?_;exact Y _ _ G G [] nofun rfl (yT.refl _) ⟨rfl,ak.fin (by show _=Zd dp _;rw[J,A];simp[ho,znE,WX]) (λe=>by have e:Zd dp (.mk 2 j p args h f g)=true:=e;rw[U (by rw[J]at e;simp only[yu]at e;exact⟨e.1.1.1,e.2⟩)];simp[ho]) vg⟩
def Va(dp:Int)(l:List zj)(x:zj):Z8 dp (l++[x])=(Z8 dp l&&Zd dp x):=by rw[Rv];simp[Z8]
def Mh(l:List zj)(x:zj):tSl (l++[x])=tSl l++tS x:=by rw[zfb];simp[tSl]
def Md(l:List zj)(x:zj):yR (l++[x])=yR l+bS x:=by rw[WM];simp[yR]
def zcq{dp:Int}{l a b:List zj}{x:zj}(h:l=a++x::b)(f:Z8 dp a=false):Z8 dp l=false:=by rw[h,Rv,f];rfl
def WR.castC{H0 H:zd}{o0 o:Own}{w B B':Nat}{l0 l tk tk':List Tok}{ok0 r r':Bool}{dp:Int}(h:WR H0 o0 w l0 ok0 dp B r tk H o l)(j:B<=B')(f:r=r')(g:r'=true->tk=tk'):WR H0 o0 w l0 ok0 dp B' r' tk' H o l:=by subst f;refine⟨h.here,h.st,by have:=h.len;omega,λe=>?_⟩;rw[h.eq e,g (by simp only[yu]at e;exact e.2)]
set_option maxHeartbeats 4000000 in
def zhA:∀c,zjw c:=by
 intro c;induction c using Nat.strongRecOn with
 | _ c bg =>
 intro g cu b4 bz H w o l ok dp W cp cq Y;have b1:=bz;simp only[ze]at b1;have I:=Z7 g;have cr:=YL g;refine Xe ir323 λKP Q ap=>?_;have w0:=WR.refl W;have bd:=W.cell;by_cases ay:g.length≠0/\dp<=16
 case neg =>
  have aj:false=yF dp g:=by
   simp only[yF];by_cases ac:g.length=0
   ·simp[ac]
   ·simp[show ¬ dp<=16 from λW=>ay ⟨ac,W⟩]
  by_cases ac:g.length=0
  case' pos =>
   have ah:¬ ((0:Int)<(g.length:Int)):=xg
   simp(disch:=omega) only[ir323,I,ah,go_sem]
  case' neg =>have ah:((0:Int)<(g.length:Int))=True:=eq_true xg;have au:¬ dp<=16:=λW=>ay ⟨ac,W⟩;simp(disch:=omega) only[ir323,I,ah,bd,au,go_sem]
  all_goals
   refine zT (Ww _) w0 xg xg xg λo2 bj a5 aw _=>?_;have hf:(ok&&yF dp g)=false:=by rw[<-aj];simp
   refine xc I ?_;refine zc g 20 (λx:Unit=>[]) (λz av x H'=>H'=a5) () xb rfl ?_ ?_
   ·rintro _ K am rfl O;refine xd I O ?_;exact ap _ _ K K [] nofun rfl (yT.refl _) ⟨rfl,aw.fin (by show _=yF dp g;rw[<-aj];simp) (λe=>by have e:yF dp g=true:=e;rw[<-aj]at e;cases e) xg⟩
   ·rintro z x av _ K am ab O bx rfl ao;have ag:=YY ab;obtain⟨k,h,v,j,p,y,f⟩:=x;rw[Zt]at ag;refine xe I O ag (zb λb Y=>?_);have C:=aw.alloc (x:=.cells [.i k,.str h,.str v,.o 6 (Ya j),.o 2 (ZE p),.str y,.o 7 (Zp f)]) Y;have A:=C.here.cell;simp only[Bool.true_and,Bool.and_false]at A;refine xc A ?_;exact ap _ _ _ _ [] nofun rfl (yT.refl _) ⟨rfl,C.fin (by show _=yF dp g;rw[<-aj];simp) (λe=>by have e:yF dp g=true:=e;rw[<-aj]at e;cases e) xg⟩
 obtain⟨ac,au⟩:=ay;have ah:((0:Int)<(g.length:Int))=True:=eq_true xg;have a6:yF dp g=Z8 dp g:=by simp[yF,au,ac]
 refine xk I ah bd au (zT (Ww _) w0 xg xg xg λo2 bj a5 aw _=>?_);refine xc I ?_;refine zc g 20 (λx:Own×List Tok=>[]) (λz av x H'=>WR H o w l ok dp (16*yR z) (Z8 dp z) (tSl z) H' x.1 x.2) (o2,bj) xb (aw.cast (by simp[yR]) (by simp[Z8]) (by simp[tSl])) ?_ ?_
 ·rintro⟨a2,a1⟩ K am af O;simp only at af;refine xd I O ?_;exact ap _ _ K K [] nofun rfl (yT.refl _) ⟨rfl,af.fin a6.symm (λ_=>rfl) xg⟩
 ·rintro z x av ⟨a2,a1⟩ K am ab O bx af ao;simp only at af;have ag:=YY ab;have bw:=WM z x av;rw[<-ab]at bw;have b2:x∈g:=xv ab
  have az:=zdb b4 x b2;obtain⟨k,h,v,j,p,y,f⟩:=x;have ct:bS (.mk k h v j p y f)=1+h.length+v.length+y.length+ZC j+We p+yR f:=rfl;have be:=Z7 f;rw[Zt]at ag;refine xe I O ag (zb λb Y=>?_);have aa:b≠w:=λe=>by subst e;rw[af.here.cell]at Y;cases Y
  have C:=af.alloc (x:=.cells [.i k,.str h,.str v,.o 6 (Ya j),.o 2 (ZE p),.str y,.o 7 (Zp f)]) Y;have Z:(K.upd b (.cells [.i k,.str h,.str v,.o 6 (Ya j),.o 2 (ZE p),.str y,.o 7 (Zp f)])) b=some (.cells [.i k,.str h,.str v,.o 6 (Ya j),.o 2 (ZE p),.str y,.o 7 (Zp f)]):=upd_same ..;have A:=C.here.cell;cases ak:ok&&Z8 dp z with
  | false =>
   rw[ak]at A;have hf:(ok&&yF dp g)=false:=by
    cases ok
    ·rfl
    ·rw[Bool.true_and]at ak ⊢;rw[a6];exact zcq ab ak
   refine xc A ?_;refine ap _ _ _ _ [] nofun rfl (yT.refl _) ⟨rfl,a2,a1,?_,C.st,by have:=C.len;omega,λe=>?_⟩
   ·show Mk _ w a2 a1 (ok&&yF dp g) dp;rw[hf,<-ak];exact C.here
   ·have e:(ok&&yF dp g)=true:=e;rw[hf]at e;cases e
  | true =>
   rw[ak]at A;have bf:∀(M:Own) (L:List Tok) (G:zd),WR H o w l ok dp (16*yR z+16*bS (.mk k h v j p y f)) (Z8 dp z&&Zd dp (.mk k h v j p y f)) (tSl z++tS (.mk k h v j p y f)) G M L->am ((Wl _ [(20,.i ((z.length:Int)+1))]).keep [0,18,19,20]) G:=λM L G J =>ao (M,L) G (J.cast (by rw[Md];omega) (Va ..).symm (Mh ..).symm);by_cases ad:k=1
   ·have al:=zjS k h v j p y f ad az xi;rw[Zt]at al;subst ad;refine xd A Z (zT al C xg xg xg λM L G J a3=>?_);refine xq ?_;exact zJ (bf M L G J) xb
   by_cases ae:k=2
   ·have al:=zhF (c:=yR f) (bg (yR f) xg) k h v j p y f ae (ZG _) az xi;rw[Zt]at al;subst ae;refine xd A Z (zT al C xg xg xg λM L G J a3=>?_);refine xq ?_;exact zJ (bf M L G J) xb
   have bv:=bg (yR f) xg;obtain⟨b5,b6,b7⟩:=az;obtain⟨n,ai⟩:∃n,n=(decide (k=0)&&decide (y=[])):=⟨_,rfl⟩;have an:Zd dp (.mk k h v j p y f)=(n&&(decide (h=[])||zI h)&&zI v&&YV dp false j&&Zg dp false p&&(decide (f.length=0)||yF (dp+1) f)):=by
    rw[ai];simp only[Zd,ad,ae,if_false];by_cases k0:k=0
    ·simp only[k0,if_true,yF];by_cases U:f.length=0
     ·simp only[U,decide_true,Bool.true_or];cases Zg dp false p<;>cases zI v<;>cases YV dp false j<;>simp[Bool.and_comm]
     ·simp only[U,decide_false,Bool.false_or,ne_eq,not_false_eq_true,decide_true,Bool.true_and];cases Zg dp false p<;>cases zI v<;>cases YV dp false j<;>simp[Bool.and_comm,WX,Bool.and_left_comm]
    ·simp[k0]
   have a7:n=true->tS (.mk k h v j p y f)=(if h=[]then []else [wk h,pk [58]])++(wk v::zc5 j)++(tDs p++(if f.length=0 then []else tBl f)):=λe=>by rw[ai]at e;simp only[yu,Zh]at e;simp only[tS,e.1,if_true,tBl]
   by_cases k0:k=0
   case' neg =>
    have ar:n=false:=x1 ai k0
    simp(disch:=omega) only[A,Z,ad,ae,k0,go_sem]
   case' pos =>
    have bh:=eq_true k0;by_cases ho:y=[]
    case' neg =>
     have ar:n=false:=x1 ai ho
     simp(disch:=omega) only[A,Z,ad,ae,bh,ho,go_sem]
    case' pos =>
     have ar:n=true:=by rw[ai];simp[k0,ho]
     have b3:=eq_true ho;simp(disch:=omega) only[A,Z,ad,ae,bh,b3,go_sem]
   all_goals
    refine zT (Ww _) C xg xg xg λM L G J a3=>?_;have aq:=a3.box C.here.own Z aa;by_cases X:h=[]
    case' pos =>have a4:=J;have ax:=aq;simp(disch:=omega) only[aq,X,go_sem]
    case' neg =>refine xd aq X (zT (ZR h xi) J xg xg xg λc2 cw cj bl cc=>?_);have a8:=cc.box J.here.own aq aa;refine xc a8 (zT (YD [58] _) bl xg xg xg λc3 cx cm a4 cd=>?_);have ax:=cd.box bl.here.own a8 aa;simp(disch:=omega) only[ax,go_sem]
    all_goals
     refine zT (ZR v xi) a4 xg xg xg λc4 cy cn bn ce=>?_;have a9:=ce.box a4.here.own ax aa;refine xc a9 (zT (zi1 false j b5 xi) bn xg xg xg λc5 cz co bp cg=>?_);have ba:=cg.box bn.here.own a9 aa;refine xc ba (zT (RJ false p b6 xi) bp xg xg xg λcb b9 bu bq ch=>?_);have bc:=ch.box bp.here.own ba aa;refine xc bc ?_;by_cases U:f.length=0
     ·have a0:¬ ((0:Int)<(f.length:Int)):=xg
      simp(disch:=omega) only[be,a0,wrap64,go_sem];exact zJ (ao (cb,b9) bu (bq.castC (by rw[Md];simp only[bS];omega) (by rw[Va,an,ar];simp[U,X,WX]) (λe=>by rw[Mh,a7 (by rw[Va,an]at e;simp only[yu]at e;exact e.2.1.1.1.1.1)];simp[U,X]))) xb
     ·have a0:((0:Int)<(f.length:Int))=True:=eq_true xg;refine xe be a0 bc (zT (NE bv f (ZG _) b7 xi) bq xg xg xg λca b8 br ci _=>?_);refine xq ?_;exact zJ (ao (ca,b8) br (ci.castC (by rw[Md];simp only[bS];omega) (by rw[Va,an,ar];simp[U,X,WX]) (λe=>by rw[Mh,a7 (by rw[Va,an]at e;simp only[yu]at e;exact e.2.1.1.1.1.1)];simp[U,X,tBl]))) xb
def zbH(l:List z6)(x:z6):Wx (l++[x])=Wx l+bW x:=by simp[Wx]
def zn9(f:yE)(O:wfF f)(L:32*bF f<=ze):WC 118 [.agg (cF f)] (32*bF f) 0 16 (λdp=>decide (f.nm≠[111,110])&&(zI f.nm&&(zI f.on&&(Zg dp true f.dirs&&yF (dp+1) f.sels)))) (tF f):=by
 intro H w o l ok dp I ak al K;obtain⟨g,v,j,h⟩:=f;have M:=L;simp only[ze,bF]at M;simp only[bF]at K;obtain⟨U,W⟩:=O;have z:cF ⟨g,v,j,h⟩=[.str g,.str v,.o 2 (ZE j),.o 7 (Zp h)]:=rfl;refine Xe ir118 λKP Q J=>?_;have w0:=WR.refl I;obtain⟨n,p⟩:∃n,n=decide (g≠[111,110]):=⟨_,rfl⟩;have Y:zI [102,114,97,103,109,101,110,116]=true:=by decide
 by_cases ho:g=[111,110]
 case' pos =>
  have A:n=false:=x1 p ho
  subst ho;refine xc z ?_;refine zT (Ww _) w0 xg xg xg λo1 X G C _=>?_
 case' neg =>
  have A:n=true:=x1 p ho
  refine xd z ho ?_;refine zT (Ww _) w0 xg xg xg λo1 X G C _=>?_
 all_goals refine xa ?_;refine zT (ZR [102,114,97,103,109,101,110,116] wX) C xg xg xg λo2 am af Z _=>?_;refine xa ?_;refine zT (ZR _ (by refine xl ?_;first|omega|simp)) Z xg xg xg λau an ag aa _=>?_;refine xa ?_;refine zT (ZR [111,110] wX) aa xg xg xg λav ao ah ab _=>?_;refine xa ?_;refine zT (ZR v xi) ab xg xg xg λaw ap ai ac _=>?_;refine xa ?_;refine zT (RJ true j U xi) ac xg xg xg λax aq aj ad _=>?_;refine xa ?_;refine zT (NE (zhA (yR h)) h (ZG _) W xi) ad xg xg xg λay ar y ae _=>?_;refine xa ?_;exact J _ _ y y [] nofun rfl (yT.refl _) ⟨rfl,ae.fin (by simp only[<-p,A,Y,znE];simp[WX]) (λ_=>by simp[tF]) (by simp only[bF];omega)⟩
noncomputable def Qg(dp:Int)(x:z6):Bool:=zI x.nm&&(zD x.t&&(if x.has then ZP dp true x.d else Th x.d zV))
noncomputable def R5(dp:Int)(x:Y6):Bool:=(decide (x.k=0)||decide (x.k=1))&&((decide (x.nm=[])||zI x.nm)&&(x.vars.all (Qg dp)&&(Zg dp true x.dirs&&yF (dp+1) x.sels)))
def zsB(x:Y6)(be:wfO x)(bc:64*bO x<=ze):WC 117 [.agg (cO x)] (64*bO x) 0 16 (λdp=>R5 dp x) (tO x):=by
 intro H w o l ok dp a3 cg ch K;obtain⟨k,g,f,p,v⟩:=x;have bd:=bc;simp only[ze,bO]at bd;simp only[bO]at K;obtain⟨bg,ap,bf⟩:=be;have Y:cO ⟨k,g,f,p,v⟩=[.i k,.str g,.o 10 (Yg f),.o 2 (ZE p),.o 7 (Zp v)]:=rfl;have L:=yJ f;have cm:=yr f;have br:zI [113,117,101,114,121]=true:=by decide
 have bq:zI [109,117,116,97,116,105,111,110]=true:=by decide
 refine Xe ir117 λKP Q a5=>?_;have w0:=WR.refl a3;obtain⟨z,Z⟩:∃z,z=((decide (k=0)||decide (k=1))&&(decide (g=[])||zI g)):=⟨_,rfl⟩;obtain⟨J,ak⟩:∃J,J=(wk (if k=0 then [113,117,101,114,121]else [109,117,116,97,116,105,111,110])::(if g=[]then []else [wk g])):=⟨_,rfl⟩;have aj:R5 dp ⟨k,g,f,p,v⟩=(z&&(f.all (Qg dp)&&(Zg dp true p&&yF (dp+1) v))):=by rw[Z];simp only[R5,WX]
 have a2:z=true->tO ⟨k,g,f,p,v⟩=J++(tWs f++(tDs p++tBl v)):=λ_=>by rw[ak];simp[tO]
 by_cases A:k=0
 case' pos =>have C:True:=trivial;have a9:=eq_true A;refine xd Y a9 (zT (ZR [113,117,101,114,121] wX) w0 xg xg xg λo2 aq ag W _=>?_)
 case' neg =>
  by_cases C:k=1
  case' pos =>have ba:=eq_true C;refine xe Y A ba (zT (ZR [109,117,116,97,116,105,111,110] wX) w0 xg xg xg λo2 aq ag W _=>?_)
  case' neg =>refine xe Y A C (zT (Ww false) w0 xg xg xg λo2 aq ag W _=>?_)
 all_goals
  by_cases M:g=[]
  case' pos =>have af:=W
  case' neg =>refine xc M (zT (ZR g xi) W xg xg xg λcx co b8 af _=>?_)
  all_goals
   have au:=(af.castC (B':=2) (r':=z) (tk':=J) xg (by rw[Z];simp[A,C,M,br,bq]) (λe=>by first|(rw[ak];simp[A,C,M];done)|(exfalso;revert e;rw[Z];simp[A,C])));clear af;by_cases ad:f.length=0
   case' pos =>
    have ae:¬ ((0:Int)<(f.length:Int)):=xg
    have ao:=Pa.1 ad;refine xe M L ae (zT (RJ true p ap xi) au xg xg xg λbw bp az ay _=>?_)
   case' neg =>
    have ao:=ad;have ae:((0:Int)<(f.length:Int))=True:=eq_true xg;refine xe M L ae (zT (YD [40] _) au xg xg xg λbu bl b9 b4 _=>?_);refine xc L ?_;refine zc f 35 (λx:Own×List Tok=>[]) (λdone ar x H'=>WR H o w l ok dp (3+32*Wx done) (z&&done.all (Qg dp)) (J++(pk [40]::done.flatMap tW)) H' x.1 x.2) (bu,bl) xb (b4.cast xg xw xw) ?_ ?_
    case' refine_1 =>rintro⟨bv,bn⟩ ah a1 I ac;simp only at I;refine xd L ac (zT (YD [41] _) I xg xg xg λcy cp ca X _=>?_);refine xa (zT (RJ true p ap xi) X xg xg xg λbw bp az ay _=>?_)
    case refine_2 =>
     rintro done x ar ⟨bv,bn⟩ ah a1 aa ac cj I a4;simp only at I;have ab:=y6 aa;have a8:=Vc done x ar;rw[<-aa]at a8;have bj:=bg x (xv aa);obtain⟨G,⟨h,tl,j⟩,O,y⟩:=x;have bh:wfV y:=bj.2.2;have cn:=RE y;have ci:bW ⟨G,⟨h,tl,j⟩,O,y⟩=G.length+h.length+bV y:=rfl;rw[T7]at ab;simp only at ab;refine xx L ac ab (zb λb K=>?_);have U:b≠w:=λe=>by subst e;rw[I.here.cell]at K;cases K
     have X:=I.alloc (x:=.cells (.str G::.str h::.i tl::.i j::.bool O::cV y)) K;have a7:(ah.upd b (.cells (.str G::.str h::.i tl::.i j::.bool O::cV y))) b=some (.cells (.str G::.str h::.i tl::.i j::.bool O::cV y)):=upd_same ..;refine xA (zT (YD [36] _) X xg xg xg λcz cq cb av bz=>?_);have al:=bz.box X.here.own a7 U;refine xI al (zT (ZR G xi) av xg xg xg λc2 cr cc aw b1=>?_);have am:=b1.box av.here.own al U;refine xI am (zT (YD [58] _) aw xg xg xg λc3 ct cd ax b2=>?_);have an:=b2.box aw.here.own am U;refine xI an (zT (args:=[.agg [.str h,.i tl,.i j]]) (show WC _ [.agg [.str h,.i tl,.i j]] 20 (-1000) 1000 (λ_=>zD ⟨h,tl,j⟩) (tTy ⟨h,tl,j⟩) from zaR ⟨h,tl,j⟩ xi) ax xg xg xg λc5 cw ce b6 b3=>?_);have a6:=b3.box ax.here.own an U;refine xI a6 (zT (Kq O y bh xi) b6 xg xg xg λbx lD a0 b7 c6=>?_);refine xq ?_;exact zJ (a4 (bx,lD) a0 (b7.cast (by rw[zbH];omega) (by simp[Qg,WX]) (by simp[tW]))) xb
   all_goals refine xa (zT (NE (zhA (yR v)) v (ZG _) bf xi) ay xg xg xg λc4 cu ai b5 _=>?_);refine xa ?_;exact a5 _ _ ai ai [] nofun rfl (yT.refl _) ⟨rfl,b5.fin (by show _=R5 dp _;rw[aj];simp[ao,WX]) (λe=>by rw[a2 (by have e:R5 dp _=true:=e;rw[aj]at e;simp only[yu]at e;exact e.1)];simp[tWs,ad]) (by simp only[bO];omega)⟩
def WS(f:FuncId)(args:List AV)(B:Nat)(r:Bool)(tk:List Tok):Prop :=∀(H:zd) (w:Nat) (o:Own) (l:List Tok) (ok:Bool),Mk H w o l ok 0->l.length+B<=ze -> zZ f (.agg [.ptr w 0]::args) H (zlj λh H'=>h=.tup []/\∃o' g,Mk H' w o' g (ok&&r) 0/\XA H o w H' o'/\g.length<=l.length+B/\((ok&&r)=true->g=l++tk))
section
variable {KP:AV->zd->Prop} {Q:ZV->Env->zd->Prop} {st:List Fr} {ρ:Env} {H:zd} {all items:List yo} {d:Option Nat} {R:List VQ}
def Qt{f:FuncId}{args:List AV}{B':Nat}{r':Bool}{tk':List Tok}(y:WS f args B' r' tk'){H0:zd}{o0 o:Own}{w B:Nat}{l0 l tk:List Tok}{ok0 r:Bool}(h:WR H0 o0 w l0 ok0 0 B r tk H o l)(C:l0.length+(B+B')<=ze)(k:∀o' g H',WR H0 o0 w l0 ok0 0 (B+B') (r&&r') (tk++tk') H' o' g->XA H o w H' o'->Qe Tryz.prog KP Q all items st R (ρ.set d (.tup [])) H'):
  goK Tryz.prog KP Q all items st d R ρ f (.agg [.ptr w 0]::args) H:=by
 have hlen:=h.len;refine Pv (y H w o l _ h.here xg) λG H' ⟨z,o',g,p,j,A,v⟩=>?_;subst z;refine k o' g H' ⟨by rw[<-WX];exact p,h.st.trans h.here.cell j,by omega,λe=>?_⟩ j;rw[<-WX]at e;rw[v e,h.eq (by simp only[yu]at e ⊢;exact e.1),Uh]
end
def za5(l:B9)(x:B8):bT (l++[x])=bT l+(1+x.length):=by simp[bT]
def zc1(l:List Yv)(x:Yv):NC (l++[x])=NC l+bL x:=by simp[NC]
def zbv(m:List z6)(ak:∀av∈m,wfW av)(ai:32*Wx m<=ze):WS 381 [.o 10 (Yg m)] (32*Wx m) (m.all yx) (m.flatMap tPa):=by
 intro H w o l ok ac y;have a3:=yr m;have A:=yJ m;have aj:=ai;simp only[ze]at aj;refine Xe ir381 λKP Q ae=>?_;have w0:=WR.refl ac;refine xc A ?_;refine zc m 8 (λx:Own×List Tok=>[]) (λv O x H'=>WR H o w l ok 0 (32*Wx v) (v.all yx) (v.flatMap tPa) H' x.1 x.2) (o,l) xb (w0.cast xg rfl rfl) ?_ ?_
 ·rintro⟨ba,a5⟩ K az U I;simp only at U;refine xd A I ?_;exact ae _ _ K K [] nofun rfl (yT.refl _) ⟨rfl,U.fin rfl (λ_=>rfl) xg⟩
 ·rintro v x O ⟨bc,a6⟩ Z a0 C I a2 J ad;simp only at J;have G:=y6 C;have ah:=Vc v x O;rw[<-C]at ah;have am:=ak x (xv C);obtain⟨j,⟨f,tl,g⟩,p,h⟩:=x;have al:wfV h:=am.2.2;have a4:=RE h;have a1:bW ⟨j,⟨f,tl,g⟩,p,h⟩=j.length+f.length+bV h:=rfl;rw[T7]at G;simp only at G;refine xx A I G (zb λb y=>?_);have z:b≠w:=λe=>by subst e;rw[J.here.cell]at y;cases y
  have W:=J.alloc (x:=.cells (.str j::.str f::.i tl::.i g::.bool p::cV h)) y;have ag:(Z.upd b (.cells (.str j::.str f::.i tl::.i g::.bool p::cV h))) b=some (.cells (.str j::.str f::.i tl::.i g::.bool p::cV h)):=upd_same ..;refine xA (zT (ZR j xi) W xg xg xg λbd a7 aw X ao=>?_);have L:=ao.box W.here.own ag z;refine xI L (zT (YD [58] _) X xg xg xg λbe a8 ax Y ap=>?_);have M:=ap.box X.here.own L z;refine xI M (zT (args:=[.agg [.str f,.i tl,.i g]]) (show WC _ [.agg [.str f,.i tl,.i g]] 20 (-1000) 1000 (λ_=>zD ⟨f,tl,g⟩) (tTy ⟨f,tl,g⟩) from zaR ⟨f,tl,g⟩ xi) Y xg xg xg λbf a9 ay ar aq=>?_);have af:=aq.box Y.here.own M z;refine xI af (zT (Kq p h al xi) ar xg xg xg λan lD aa au bg=>?_);have ab:yx ⟨j,⟨f,tl,g⟩,p,h⟩=Qg 0 ⟨j,⟨f,tl,g⟩,p,h⟩:=rfl;refine xq ?_;exact zJ (ad (an,lD) aa (au.cast (by rw[zbH];omega) (by simp[ab,Qg,WX]) (by simp[tPa]))) xb
def zjO(m:B8)(l:B9)(x:B8):tNs m (l++[x])=tNs m l++if l.length=0 then [wk x]else [pk m,wk x]:=by
 cases l with
 | nil=>rfl
 | cons a r=>simp[tNs]
def zfG(m:B8)(a:B9)(Y:2*bT a<=ze):WS 394 [.str m,.o 1 (cT a)] (2*bT a) (a.all zI) (tNs m a):=by
 intro H w o l ok U ag;have ai:=ZN a;have g:=zn a;have Z:=Y;simp only[ze]at Z;refine Xe ir394 λKP Q W=>?_;have w0:=WR.refl U;refine xc g ?_;refine zc a 10 (λx:Own×List Tok=>[]) (λf M x H'=>WR H o w l ok 0 (2*bT f) (f.all zI) (tNs m f) H' x.1 x.2) (o,l) xb (w0.cast xg rfl rfl) ?_ ?_
 ·rintro⟨am,aj⟩ I ae O h;simp only at O;refine xd g h ?_;exact W _ _ I I [] nofun rfl (yT.refl _) ⟨rfl,O.fin rfl (λ_=>rfl) xg⟩
 ·rintro f x M ⟨an,ak⟩ ac af L h ah C K;simp only at C;have y:=ZM L;have X:=K7 f x M;rw[<-L]at X;have j:=zjO m f x;by_cases J:f.length=0
  ·have v:¬ ((0:Int)<(f.length:Int)):=xg
   rw[if_pos J]at j;refine xk g h y v (zT (ZR x xi) C xg xg xg λA z p G aa=>?_);refine xq ?_;exact zJ (K (A,z) p (G.cast (by rw[za5];omega) xw (by rw[j]))) xb
  ·have v:((0:Int)<(f.length:Int))=True:=eq_true xg;rw[if_neg J]at j;refine xk g h y v (zT (YD m _) C xg xg xg λao al ad ab ap=>?_);refine xe g h y (zT (ZR x xi) ab xg xg xg λA z p G aa=>?_);refine xq ?_;exact zJ (K (A,z) p (G.cast (by rw[za5];omega) xw (xv j))) xb
def zhS(m:List Yv)(a5:∀bg∈m,wfL bg)(a3:32*NC m<=ze):WS 395 [.o 6 (TK m)] (32*NC m) (m.all X6) (m.flatMap tL):=by
 intro H w o l ok ay I;have bv:=YH m;have U:=YM m;have a4:=a3;simp only[ze]at a4;refine Xe ir395 λKP Q az=>?_;have w0:=WR.refl ay;refine xc U ?_;refine zc m 8 (λx:Own×List Tok=>[]) (λy an x H'=>WR H o w l ok 0 (32*NC y) (y.all X6) (y.flatMap tL) H' x.1 x.2) (o,l) xb (w0.cast xg rfl rfl) ?_ ?_
 ·rintro⟨b4,bx⟩ af bp ao X;simp only at ao;refine xd U X ?_;exact az _ _ af af [] nofun rfl (yT.refl _) ⟨rfl,ao.fin rfl (λ_=>rfl) xg⟩
 ·rintro y x an ⟨b5,bz⟩ av bq W X bu ac ag;simp only at ac;have ak:=XS W;have a1:=PM y x an;rw[<-W]at a1;have K:=a5 x (xv W);obtain⟨G,h,⟨f,tl,g⟩,v⟩:=x;simp only[wfL]at K;have br:bL ⟨G,h,⟨f,tl,g⟩,v⟩=1+G.length+Wx h+f.length+We v:=rfl;have am:=yJ h;have bw:=yr h;rw[YG]at ak;refine xe U X ak (zb λb I=>?_);have j:b≠w:=λe=>by subst e;rw[ac.here.cell]at I;cases I
  obtain⟨p,a2⟩:∃p,p=[AV.str G,.o 10 (Yg h),.str f,.i tl,.i g,.o 2 (ZE v)]:=⟨_,rfl⟩;have ap:=ac.alloc (x:=.cells p) I;have a0:(av.upd b (.cells p)) b=some (.cells p):=upd_same ..;subst a2;refine xa (zT (ZR G xi) ap xg xg xg λb6 b1 bh L ba=>?_);have J:=ba.box ap.here.own a0 j;by_cases al:h.length=0
  ·have Y:¬ ((0:Int)<(h.length:Int)):=xg
   have A:=Pa.1 al;refine xe J am Y (zT (YD [58] _) L xg xg xg λa8 a6 aw C aa=>?_);have z:=aa.box L.here.own J j;refine xc z (zT (args:=[.agg [.str f,.i tl,.i g]]) (show WC _ [.agg [.str f,.i tl,.i g]] 20 (-1000) 1000 (λ_=>zD ⟨f,tl,g⟩) (tTy ⟨f,tl,g⟩) from zaR ⟨f,tl,g⟩ xi) C xg xg xg λa9 a7 ax ad ab=>?_);have O:=ab.box C.here.own z j;refine xc O (zT (RJ true v K.2.2.2 xi) ad xg xg xg λZ lD M ae bd=>?_);refine xq ?_;exact zJ (ag (Z,lD) M (ae.cast (by rw[zc1];omega) (by simp[X6,A,WX]) (by simp[tL,tPb,A]))) xb
  ·have Y:((0:Int)<(h.length:Int))=True:=eq_true xg;have A:=al;refine xe J am Y (zT (YD [40] _) L xg xg xg λb7 b2 bj aq bc=>?_);have ah:=bc.box L.here.own J j;refine xc ah (Qt (zbv h K.1 xi) aq xg λb8 b3 bl ar be=>?_);have ai:=be.box aq.here.own ah j;refine xc ai (zT (YD [41] _) ar xg xg xg λb9 lF bn au bf=>?_);have aj:=bf.box ar.here.own ai j;refine xc aj (zT (YD [58] _) au xg xg xg λa8 a6 aw C aa=>?_);have z:=aa.box au.here.own aj j;refine xc z (zT (args:=[.agg [.str f,.i tl,.i g]]) (show WC _ [.agg [.str f,.i tl,.i g]] 20 (-1000) 1000 (λ_=>zD ⟨f,tl,g⟩) (tTy ⟨f,tl,g⟩) from zaR ⟨f,tl,g⟩ xi) C xg xg xg λa9 a7 ax ad ab=>?_);have O:=ab.box C.here.own z j;refine xc O (zT (RJ true v K.2.2.2 xi) ad xg xg xg λZ lD M ae bd=>?_);refine xq ?_;exact zJ (ag (Z,lD) M (ae.cast (by rw[zc1];omega) (by simp[X6,A,WX]) (by simp[tL,tPb,A]))) xb
def zgh(x:Y6):R5 0 x=Yb x:=rfl
def zgj(l:List Y6)(o:Y6):Ub (l++[o])=Ub l+bO o:=by simp[Ub]
def zgV(l:List yE)(o:yE):XZ (l++[o])=XZ l+bF o:=by simp[XZ]
noncomputable def zaN(d:zv):List Tok:=if ZF d then zry d else []
def zkB(d:zv)(a5:O6 d)(G:64*zt d+64<=ze):zf 44 [.agg (z8 d)] (.tup [.o 2 (UL (zaN d)),.bool (ZF d)]):=by
 refine zo ir44 λKP Q U=>?_;obtain⟨f,g⟩:=d;obtain⟨a7,a6⟩:=a5;have bh:=ZJ f;have bg:=yP g;have J:=ZI f;have A:=Z5 g;have a0:=G;simp only[zt,ze]at a0;have ax:z8 ⟨f,g⟩=[.o 5 (PR f),.o 4 (Pf g)]:=rfl;obtain⟨n,ab⟩:∃n,n=decide (0<f.length+g.length):=⟨_,rfl⟩;refine xc ax (Pv zqS λbj ak ⟨w,a4,az⟩=>?_);subst a4;have w0:=WR.refl az;have aw:IntKind.wrap .i64 ((f.length:Int)+(g.length:Int))=((f.length+g.length:Nat):Int):=by rw[wrap64 xg xg];omega
 by_cases ap:0<f.length+g.length
 case' pos =>
  have ac:((0:Int)<((f.length+g.length:Nat):Int))=True:=eq_true xg;have aq:n=true:=by rw[ab];exact decide_eq_true ap
  simp(disch:=first|omega|assumption) only[J,A,aw,ac,go_sem]
 case' neg =>
  have ac:¬ ((0:Int)<((f.length+g.length:Nat):Int)):=xg
  have aq:n=false:=by rw[ab];exact decide_eq_false ap
  simp(disch:=first|omega|assumption) only[J,A,aw,ac,go_sem]
 all_goals
  refine zT (Ww _) w0 xg xg wC λo2 a8 bd bc _=>?_;refine xc J ?_;refine zc f 23 (λx:Own×List Tok=>[]) (λh O x H'=>WR ak .nil w [] true 0 (64*Ub h) (n&&h.all Yb) (h.flatMap tO) H' x.1 x.2) (o2,a8) xb (bc.cast xw (xr aq) xw) ?_ ?_
  ·rintro⟨ba,a9⟩ be bf av a1;simp only at av;refine xe J a1 A ?_;refine zc g 34 (λx:Own×List Tok=>[]) (λh O x H'=>WR ak .nil w [] true 0 (64*Ub f+32*XZ h) (n&&(f.all Yb&&h.all X7)) (f.flatMap tO++h.flatMap tF) H' x.1 x.2) (ba,a9) xb (av.cast (by simp[XZ]) xw xw) ?_ ?_
   ·rintro⟨au,ar⟩ al am j C;simp only at j;have ay:ZF ⟨f,g⟩=(n&&(f.all Yb&&g.all X7)):=wa ab
    have I:=j.here.cell;have an:=j.eq;rw[<-ay,Bool.true_and]at I an;cases M:ZF ⟨f,g⟩with
    | false =>rw[M]at I U;refine xe A C I ?_;exact U rfl (by simp[zaN,M,UL])
    | true =>rw[M]at I U;have ao:=an M;rw[TB]at ao;subst ao;refine xe A C I ?_;exact U rfl (by simp[zaN,M,zry])
   ·rintro h x O ⟨au,ar⟩ al am v C a2 j Y;simp only at j;have L:=Ym v;have Z:=RQ h x O;rw[<-v]at Z;have ad:=a6 x (xv v);have aa:32*bF x<=ze:=xi
    have K:=zn9 x ad aa;obtain⟨y,ag,p,z⟩:=x;have X:cF ⟨y,ag,p,z⟩=[.str y,.str ag,.o 2 (ZE p),.o 7 (Zp z)]:=rfl;rw[X]at L K;refine xe A C L (zb λb G=>?_);have ai:=j.alloc (x:=.cells [.str y,.str ag,.o 2 (ZE p),.o 7 (Zp z)]) G;refine xa (zT K ai xg xg wC λaf ae W aj _=>?_);refine xq ?_;exact zJ (Y (af,ae) W (aj.cast (by rw[zgV];omega) (by simp[X7,WX]) xw)) xb
  ·rintro h x O ⟨au,ar⟩ al am v C a2 j Y;simp only at j;have L:=Z6 v;have Z:=Wc h x O;rw[<-v]at Z;have ad:=a7 x (xv v);have aa:64*bO x<=ze:=xi
   have K:=zsB x ad aa;have a3:=zgh x;obtain⟨k,y,ah,p,z⟩:=x;have X:cO ⟨k,y,ah,p,z⟩=[.i k,.str y,.o 10 (Yg ah),.o 2 (ZE p),.o 7 (Zp z)]:=rfl;rw[X]at L K;refine xe J C L (zb λb G=>?_);have ai:=j.alloc (x:=.cells [.i k,.str y,.o 10 (Yg ah),.o 2 (ZE p),.o 7 (Zp z)]) G;refine xa (zT K ai xg xg wC λaf ae W aj _=>?_);refine xq ?_;exact zJ (Y (af,ae) W (aj.cast (by rw[zgj];omega) (by rw[a3];simp[WX]) xw)) xb
def zl7(d:zv)(p:O6 d)(j:64*zt d+64<=ze):zf 21 [.agg (z8 d)] (.bool (ZF d)):=by refine zo ir21 λKP Q h=>?_;have g:=Yl d;have f:=zkB d p j;rw[g]at f ⊢;refine xh f ?_;exact vm h
def zls:zI [116,121,112,101]=true:=by decide
def zmw:zI [105,110,116,101,114,102,97,99,101]=true:=by decide
def zhI:zI [117,110,105,111,110]=true:=by decide
def zmJ:zI [101,110,117,109]=true:=by decide
def zjJ:zI [105,110,112,117,116]=true:=by decide
def zk7:zI [105,109,112,108,101,109,101,110,116,115]=true:=by decide
def zgX:zI [115,99,104,101,109,97]=true:=by decide
def zir:zI [113,117,101,114,121]=true:=by decide
def zn6:zI [109,117,116,97,116,105,111,110]=true:=by decide
noncomputable def P4(x:yX):Bool:=zI x.nm&&(x.faces.all zI&&(x.flds.all X6&&(decide (x.flds.length≠0)&&(decide (x.parts.length=0)&&decide (x.ps.length=0)))))
def zlm(w:B8)(x:yX):List Tok:=wk w::wk x.nm::((if x.faces.length=0 then []else wk [105,109,112,108,101,109,101,110,116,115]::tNs [38] x.faces)++(pk [123]::(x.flds.flatMap tL++[pk [125]])))
def zb2(j:B8)(x:yX)(ac:zI j=true)(ad:j.length<=ze)(ae:wfE x)(aa:64*bE x<=ze):WS 379 [.str j,.agg (cE x)] (64*bE x) (P4 x) (zlm j x):=by
 intro H w o l ok X Z;obtain⟨k,af,h,flds,f,g⟩:=x;have ab:=aa;simp only[ze,bE]at ab;simp only[bE]at Z;have aw:=ZN h;have ax:=YH flds;have ay:=ZN f;have az:=yr g;have K:=zn h;have C:=YM flds;have L:=zn f;have M:=yJ g;rw[zS];refine Xe ir379 λKP Q Y=>?_;have w0:=WR.refl X;obtain⟨n,v⟩:∃n,n=(decide (flds.length≠0)&&(decide (f.length=0)&&decide (g.length=0))):=⟨_,rfl⟩;by_cases W:flds.length=0
 case' pos =>
  have p:¬ ((0:Int)<(flds.length:Int)):=xg
  have z:n=false:=x1 v W
  simp(disch:=omega) only[ir379,C,p,go_sem]
 case' neg =>
  have p:((0:Int)<(flds.length:Int))=True:=eq_true xg;have I:IntKind.wrap .i64 ((f.length:Int)+(g.length:Int))=((f.length+g.length:Nat):Int):=by rw[wrap64 xg xg];omega
  by_cases av:f.length+g.length=0
  case' pos =>
   have y:(((f.length+g.length:Nat):Int)=0)=True:=eq_true xg;have z:n=true:=by rw[v];simp only[ne_eq,yu,Zh];omega
   simp(disch:=omega) only[ir379,C,p,L,M,I,y,go_sem]
  case' neg =>
   have y:¬ (((f.length+g.length:Nat):Int)=0):=xg
   have z:n=false:=by rw[v,Bool.eq_false_iff];simp only[ne_eq,yu,Zh];omega
   simp(disch:=omega) only[ir379,C,p,L,M,I,y,go_sem]
 all_goals
  refine zT (Ww _) w0 xg xg xg λo1 a0 am ag _=>?_;refine xa (zT (ZR j ad) ag xg xg xg λo2 a1 an ah _=>?_);refine xa (zT (ZR af xi) ah xg xg xg λa7 a2 ao O _=>?_);by_cases J:h.length=0
  case' pos =>
   have A:¬ ((0:Int)<(h.length:Int)):=xg
   have hf:=Pa.1 J;have U:=O;simp(disch:=omega) only[K,A,go_sem]
  case' neg =>have A:((0:Int)<(h.length:Int))=True:=eq_true xg;have hf:=J;refine xd K A (zT (ZR [105,109,112,108,101,109,101,110,116,115] wX) O xg xg xg λa8 a3 ap ai _=>?_);refine xa (Qt (zfG [38] h xi) ai xg λa9 a4 aq U _=>?_);simp(disch:=omega) only[go_sem]
  all_goals refine zT (YD [123] _) U xg xg xg λba a5 ar aj be=>?_;refine xa (Qt (zhS flds ae.1 xi) aj xg λbc a6 au ak bf=>?_);refine xa (zT (YD [125] _) ak xg xg xg λbd lD G al bg=>?_);refine xa ?_;exact Y _ _ G G [] nofun rfl (yT.refl _) ⟨rfl,al.fin (by simp only[P4,<-v,z,ac,zk7,hf];simp[WX,Bool.and_comm,Bool.and_left_comm]) (λ_=>by simp[zlm,hf]) vk⟩
noncomputable def RS(x:yX):Bool:=decide (x.parts.length≠0)&&(decide (x.faces.length=0)&&(decide (x.flds.length=0)&&decide (x.ps.length=0)))
noncomputable def SZ(x:yX):Bool:=zI x.nm&&(if x.k=3 then x.parts.all zI&&RS x else (x.parts.all zI&&x.parts.all SJ)&&RS x)
def zi3(x:yX):List Tok:=if x.k=3 then wk [117,110,105,111,110]::wk x.nm::pk [61]::tNs [124] x.parts else wk [101,110,117,109]::wk x.nm::pk [123]::(x.parts.map wk++[pk [125]])
def zm0{α:Type}(p q:α->Bool)(l:List α):(l.all λx=>q x&&p x)=(l.all p&&l.all q):=by
 induction l with
 | nil=>rfl
 | cons a r f=>simp only[List.all_cons,f];cases p a<;>cases q a<;>simp
def zlV(x:yX)(a2:64*bE x<=ze):WS 380 [.agg (cE x)] (64*bE x) (SZ x) (zi3 x):=by
 intro H w o l ok aw ay;obtain⟨k,L,f,flds,g,h⟩:=x;have a3:=a2;simp only[ze,bE]at a3;simp only[bE]at ay;have bj:=ZN f;have bl:=YH flds;have bn:=ZN g;have bp:=yr h;have af:=zn f;have ag:=YM flds;have p:=zn g;have ah:=yJ h;rw[zS];refine Xe ir380 λKP Q ad=>?_;have w0:=WR.refl aw;obtain⟨n,A⟩:∃n,n=(decide (g.length≠0)&&(decide (f.length=0)&&(decide (flds.length=0)&&decide (h.length=0)))):=⟨_,rfl⟩;by_cases av:g.length=0
 case' pos =>
  have I:¬ ((0:Int)<(g.length:Int)):=xg
  have J:n=false:=x1 A av
  simp(disch:=omega) only[ir380,p,I,go_sem]
 case' neg =>
  have I:((0:Int)<(g.length:Int))=True:=eq_true xg;have ab:IntKind.wrap .i64 ((f.length:Int)+(flds.length:Int))=((f.length+flds.length:Nat):Int):=by rw[wrap64 xg xg];omega
  have ac:IntKind.wrap .i64 (((f.length+flds.length:Nat):Int)+(h.length:Int))=((f.length+flds.length+h.length:Nat):Int):=by rw[wrap64 xg xg];omega
  by_cases bh:f.length+flds.length+h.length=0
  case' pos =>
   have U:(((f.length+flds.length+h.length:Nat):Int)=0)=True:=eq_true xg;have J:n=true:=by rw[A];simp only[ne_eq,yu,Zh];omega
   simp(disch:=omega) only[ir380,p,I,af,ag,ah,ab,ac,U,go_sem]
  case' neg =>
   have U:¬ (((f.length+flds.length+h.length:Nat):Int)=0):=xg
   have J:n=false:=by rw[A,Bool.eq_false_iff];simp only[ne_eq,yu,Zh];omega
   simp(disch:=omega) only[ir380,p,I,af,ag,ah,ab,ac,U,go_sem]
 all_goals
  refine zT (Ww _) w0 xg xg xg λo1 br bg an _=>?_;by_cases v:k=3
  ·have a1:=eq_true v;refine xc a1 (zT (ZR [117,110,105,111,110] wX) an xg xg xg λo2 a4 ao X _=>?_);refine xa (zT (ZR L xi) X xg xg xg λa8 a5 ap Y _=>?_);refine xa (zT (YD [61] _) Y xg xg xg λak ai aq Z _=>?_);refine xa (Qt (zfG [124] g xi) Z xg λal aj G j _=>?_);refine xa ?_;exact ad _ _ G G [] nofun rfl (yT.refl _) ⟨rfl,j.fin (by simp only[SZ,if_pos v,RS,<-A,J,zhI];simp[WX,Bool.and_comm,Bool.and_left_comm]) (λ_=>by simp[zi3,v]) vk⟩
  ·refine xc v (zT (ZR [101,110,117,109] wX) an xg xg xg λo2 a4 ao X _=>?_);refine xa (zT (ZR L xi) X xg xg xg λa8 a5 ap Y _=>?_);refine xa (zT (YD [123] _) Y xg xg xg λak ai aq Z _=>?_);refine xc p ?_;refine zc g 61 (λx:Own×List Tok=>[]) (λz am x H'=>WR H o w l ok 0 (4+bT z) (n&&(zI L&&z.all λs=>SJ s&&zI s)) (wk [101,110,117,109]::wk L::pk [123]::z.map wk) H' x.1 x.2) (ak,ai) xb (Z.cast xg (by simp[J,zmJ]) xw) ?_ ?_
   ·rintro⟨al,aj⟩ G au j W;simp only at j;refine xd p W (zT (YD [125] _) j xg xg xg λa9 a6 O aa _=>?_);refine xa ?_;exact ad _ _ O O [] nofun rfl (yT.refl _) ⟨rfl,aa.fin (by rw[zm0];simp only[SZ,if_neg v,RS,<-A];simp[WX,Bool.and_comm,Bool.and_left_comm]) (λ_=>by simp[zi3,v]) vk⟩
   ·rintro z x am ⟨al,aj⟩ G au ae W bq j ax;simp only at j;have a0:=ZM ae;have az:=K7 z x am;rw[<-ae]at az;refine xe p W a0 ?_;by_cases y:x=[116,114,117,101]
    case' pos =>
     have bc:=eq_true y;have K:SJ x=false:=by rw[y];decide
     simp(disch:=omega) only[bc,go_sem]
    case' neg =>
     by_cases C:x=[102,97,108,115,101]
     case' pos =>
      have bd:=eq_true C;have K:SJ x=false:=by rw[C];decide
      simp(disch:=omega) only[y,bd,go_sem]
     case' neg =>
      by_cases M:x=[110,117,108,108]
      case' pos =>
       have be:=eq_true M;have K:SJ x=false:=by rw[M];decide
       simp(disch:=omega) only[y,C,be,go_sem]
      case' neg =>
       have K:SJ x=true:=by simp[SJ,y,C,M]
       simp(disch:=omega) only[y,C,M,go_sem]
    all_goals refine zT (Ww _) j xg xg xg λa9 a6 O aa _=>?_;refine xa (zT (ZR x xi) aa xg xg xg λba a7 ar bf _=>?_);refine xq ?_;exact zJ (ax (ba,a7) ar (bf.cast (by rw[za5];omega) (by simp[K,WX]) xw)) xb
def zgD(l:List yX)(x:yX):bEs (l++[x])=bEs l+bE x:=by simp[bEs]
def zqQ(x:yX)(X:wfE x)(K:64*bE x<=ze):WS 349 [.agg (cE x)] (64*bE x) (Yd x) (tE x):=by
 have ac:=zb2 [116,121,112,101] x zls wX X K;have ad:=zb2 [105,110,116,101,114,102,97,99,101] x zmw wX X K;have O:=zlV x K;intro H w o l ok aj ae;obtain⟨k,ap,p,flds,z,A⟩:=x;rw[zS]at ac ad O ⊢;have ak:=K;simp only[ze,bE]at ak;have a6:=ae;simp only[bE]at ae;have a2:=ZN p;have a3:=YH flds;have a4:=ZN z;have a5:=yr A;have af:=zn p;have ag:=YM flds;have ah:=zn z;have W:=yJ A;refine Xe ir349 λKP Q C=>?_;have w0:=WR.refl aj;by_cases g:k=1
 ·have al:=eq_true g;refine xc al (Qt ac w0 xg λo2 I f j _=>?_);refine xa ?_;exact C _ _ f f [] nofun rfl (yT.refl _) ⟨rfl,j.fin (by subst g;simp[Yd,P4]) (λ_=>by subst g;simp[tE,zlm]) xg⟩
 by_cases h:k=2
 ·have am:=eq_true h;refine xd g am (Qt ad w0 xg λo2 I f j _=>?_);refine xa ?_;exact C _ _ f f [] nofun rfl (yT.refl _) ⟨rfl,j.fin (by subst h;simp[Yd,P4]) (λ_=>by subst h;simp[tE,zlm]) xg⟩
 by_cases v:k=3
 ·have an:=eq_true v;refine xe g h an (Qt O w0 xg λo2 I f j _=>?_);refine xa ?_;exact C _ _ f f [] nofun rfl (yT.refl _) ⟨rfl,j.fin (by subst v;simp[Yd,SZ,RS]) (λ_=>by subst v;simp[tE,zi3]) xg⟩
 by_cases y:k=4
 ·have ao:=eq_true y;refine xk g h v ao (Qt O w0 xg λo2 I f j _=>?_);refine xa ?_;exact C _ _ f f [] nofun rfl (yT.refl _) ⟨rfl,j.fin (by subst y;simp[Yd,SZ,RS]) (λ_=>by subst y;simp[tE,zi3]) xg⟩
 by_cases G:k=5
 ·have Y:=eq_true G;obtain⟨n,L⟩:∃n,n=(decide (A.length≠0)&&(decide (p.length=0)&&(decide (flds.length=0)&&decide (z.length=0)))):=⟨_,rfl⟩;subst G;by_cases ai:A.length=0
  case' pos =>
   have J:¬ ((0:Int)<(A.length:Int)):=xg
   have U:n=false:=x1 L ai
   simp(disch:=omega) only[ir349,g,h,v,y,Y,W,J,go_sem]
  case' neg =>
   have J:((0:Int)<(A.length:Int))=True:=eq_true xg;have aa:IntKind.wrap .i64 ((p.length:Int)+(flds.length:Int))=((p.length+flds.length:Nat):Int):=by rw[wrap64 xg xg];omega
   have ab:IntKind.wrap .i64 (((p.length+flds.length:Nat):Int)+(z.length:Int))=((p.length+flds.length+z.length:Nat):Int):=by rw[wrap64 xg xg];omega
   by_cases a1:p.length+flds.length+z.length=0
   case' pos =>
    have M:(((p.length+flds.length+z.length:Nat):Int)=0)=True:=eq_true xg;have U:n=true:=by rw[L];simp only[ne_eq,yu,Zh];omega
    simp(disch:=omega) only[ir349,g,h,v,y,Y,W,J,af,ag,ah,aa,ab,M,go_sem]
   case' neg =>
    have M:¬ (((p.length+flds.length+z.length:Nat):Int)=0):=xg
    have U:n=false:=by rw[L,Bool.eq_false_iff];simp only[ne_eq,yu,Zh];omega
    simp(disch:=omega) only[ir349,g,h,v,y,Y,W,J,af,ag,ah,aa,ab,M,go_sem]
  all_goals refine zT (Ww _) w0 xg xg xg λo1 a7 ax aq _=>?_;refine xa (zT (ZR [105,110,112,117,116] wX) aq xg xg xg λo2 I f j _=>?_);refine xa (zT (ZR ap xi) j xg xg xg λbd a8 ay ar _=>?_);refine xa (zT (YD [123] _) ar xg xg xg λbe a9 az au _=>?_);refine xa (Qt (zbv A X.2 xi) au xg λbf ba a0 av _=>?_);refine xa (zT (YD [125] _) av xg xg xg λbg bc Z aw _=>?_);refine xa ?_;exact C _ _ Z Z [] nofun rfl (yT.refl _) ⟨rfl,aw.fin (by simp only[Yd];rw[if_neg xg,if_neg xg,if_neg xg,if_pos trivial];simp only[<-L,U,zjJ];simp[WX,Bool.and_comm,Bool.and_left_comm]) (λ_=>by simp only[tE];rw[if_neg xg,if_neg xg,if_neg xg];simp) vk⟩
 ·refine xp g h v y G (zT (Ww false) w0 xg xg xg λo2 I f j _=>?_);refine xa ?_;exact C _ _ f f [] nofun rfl (yT.refl _) ⟨rfl,j.fin (by simp[Yd,g,h,v,y,G]) (λe=>by simp[Yd,g,h,v,y,G]at e) xg⟩
def zl3(s:zg)(be:SM s)(z:64*zA s+64<=ze):zZ 305 [.agg (zk s)] zd.emp (zlj λaw H'=>H'=zd.emp/\∃a2,aw=.tup [.o 2 (UL a2),.bool (Xr s)]):=by
 refine Xe ir305 λKP Q a8=>?_;obtain⟨j,q,m⟩:=s;have b6:=VP j;have L:=YX j;have a9:=z;simp only[zA,ze]at a9;have a3:zk ⟨j,q,m⟩=[.o 6 (Vd j),.str q,.str m]:=rfl;obtain⟨A,ah⟩:∃A,A=(zI q&&(decide (m=[])||zI m)):=⟨_,rfl⟩;refine xc a3 (Pv zqS λaw Y ⟨w,bd,ai⟩=>?_);subst bd;refine xa (zb λb z=>?_);have f:b≠w:=λe=>by subst e;rw[ai.cell]at z;cases z
 have w0:=(WR.refl ai).alloc (x:=.cells [.ptr w 0]) z;have a5:(Y.upd b (.cells [.ptr w 0])) b=some (.cells [.ptr w 0]):=upd_same ..;refine xa (zT (ZR [115,99,104,101,109,97] wX) w0 xg xg wC λo1 b8 bx ax bj=>?_);have ac:=bj.box w0.here.own a5 f;refine xc ac (zT (YD [123] _) ax xg xg wC λo2 b9 bz ay bl=>?_);have ad:=bl.box ax.here.own ac f;refine xc ad (zT (ZR [113,117,101,114,121] wX) ay xg xg wC λce ca J az bn=>?_);have ae:=bn.box ay.here.own ad f;refine xc ae (zT (YD [58] _) az xg xg wC λap U b1 h bp=>?_);have g:=bp.box az.here.own ae f;refine xc g (zT (ZR q xi) h xg xg wC λcg cb Z v bq=>?_);have p:=bq.box h.here.own g f;by_cases G:m=[]
 case' pos =>have bc:=eq_true G;have X:=v;have K:=p;simp(disch:=first|omega|assumption) only[bc,p,go_sem]
 case' neg =>refine xd G p (zT (ZR [109,117,116,97,116,105,111,110] wX) v xg xg wC λaq an b2 I W=>?_);have C:=W.box v.here.own p f;refine xc C (zT (YD [58] _) I xg xg wC λch cc b3 a0 br=>?_);have af:=br.box I.here.own C f;refine xc af (zT (ZR m xi) a0 xg xg wC λci cd b4 X bu=>?_);have K:=bu.box a0.here.own af f;simp(disch:=first|omega|assumption) only[K,go_sem]
 all_goals
  refine zT (YD [125] _) X xg xg wC λbh bg b5 bw bv=>?_;have ag:=bv.box X.here.own K f;refine xd ag L ?_;refine zc j 50 (λx:Own×List Tok=>[]) (λy av x H'=>WR Y .nil w [] true 0 (10+64*bEs y) (A&&y.all Yd) (tRt q m++y.flatMap tE) H' x.1 x.2/\H' b=some (.cells [.ptr w 0])) (bh,bg) xb ⟨bw.castC xg (by rw[ah];simp[zgX,zir,zn6,G,WX]) (λ_=>by simp[tRt,G]),ag⟩ ?_ ?_
  ·rintro⟨ap,U⟩ J a1 ⟨h,g⟩ O;simp only at h g;have a4:Xr ⟨j,q,m⟩=(A&&j.all Yd):=by rw[ah,Bool.and_comm];rfl
   have ak:=h.here.cell;rw[<-a4,Bool.true_and]at ak;refine xk L O g ak ?_;exact a8 _ _ _ zd.emp [_,_] nofun rfl (yT.of_sub nofun) ⟨rfl,U,rfl⟩
  ·rintro y x av ⟨ap,U⟩ J a1 M O b7 ⟨h,g⟩ a7;simp only at h g;have am:=Xc M;have ba:=P1 y x av;rw[<-M]at ba;have bf:=be x (xv M);have al:=zqQ x bf xi;obtain⟨k,ao,ab,flds,ar,au⟩:=x;rw[zS]at am al;refine xe L O am (zb λaa aj=>?_);have a6:aa≠b:=nen2 g aj;have v:=h.alloc (x:=.cells [.i k,.str ao,.o 1 (cT ab),.o 6 (TK flds),.o 1 (cT ar),.o 10 (Yg au)]) aj;have p:(J.upd aa (.cells [.i k,.str ao,.o 1 (cT ab),.o 6 (TK flds),.o 1 (cT ar),.o 10 (Yg au)])) b=some (.cells [.ptr w 0]):=by rw[upd_ne (Ne.symm a6)];exact g
   refine xc p (Qt al v wC λaq an Z I W=>?_);have C:=W.box v.here.own p f;refine xq ?_;exact zJ (a7 (aq,an) Z ⟨I.cast (by rw[zgD];omega) (by simp[WX]) xw,C⟩) xb
def znc(s:zg)(y:SM s)(p:64*zA s+64<=ze):zf 206 [.agg (zk s)] (.bool (Xr s)):=by refine zo ir206 λKP Q j=>?_;have g:=UN s;have f:=zl3 s y p;rw[g]at f ⊢;refine xa (Pv f λC z ⟨h,A,v⟩=>?_);subst v;subst h;exact vm j
def zm3(s:zg)(n:B8)(h:s.defs.length<=ze):zf 209 [.str n,.view (zk s)] (.bool (yA s n [0])):=by
 have f:=SO s n [0] h wX;generalize yA s n [0]=v at *
 obtain⟨j,p,sm⟩:=s;simp only[zk]at f ⊢;refine zo ir209 λKP Q g=>?_;refine xh (Zk.low f) ?_;exact vm g
noncomputable def Si(s:zg):Bool:=Xr s&&Z1 (s.defs.map (·.nm))&&WH (s.defs.map (·.nm))&&!(s.defs.map (·.nm)).any λn=>yA s n [0]
def zk1(s:zg)(G:SM s)(y:64*zA s+64<=ze):zf 106 [.agg (zk s)] (.bool (Si s)):=by
 have C:zA s<=ze:=by simp only[ze]at y ⊢;omega
 have g:=zR C;have h:(s.defs.map (·.nm)).length<=ze:=by rw[List.length_map];exact g
 have j:=zdk s.defs g;have p:=znc s G y;have z:=zft (s.defs.map (·.nm)) h;have A:=zcy (s.defs.map (·.nm)) h;have v:=zdM (λn:B8=>AV.str n) (s.defs.map (·.nm)) 209 [.view (zk s)] (λn=>yA s n [0]) h yw λn _=>zm3 s n g;unfold Si;generalize Xr s=I,Z1 (s.defs.map (·.nm))=J,WH (s.defs.map (·.nm))=K,(s.defs.map (·.nm)).any (λn=>yA s n [0])=O at *
 generalize s.defs.map (·.nm)=l at *
 obtain⟨L,M,sm⟩:=s;simp only[zk]at j p v ⊢;refine zo ir106 λKP Q f=>?_;refine xh j ?_;refine xh p ?_;cases I with
 | false =>exact vm f
 | true =>
 refine xh z ?_;cases J with
 | false =>exact vm f
 | true =>
 refine xh A ?_;cases K with
 | false =>exact vm f
 | true =>
 refine xh v ?_;exact vm f
noncomputable def SE(s:zg)(n:Int):Bool :=
 if n=1 then Si s else if n=2 then RC s else if n=3 then XN s else if n=4 then WT s else if n=5 then Ty s
 else if n=6 then Pc s else if n=7 then TF s else if n=8 then MR s else if n=9 then LF s else false
def zpY(s:zg)(n:Int)(aa:SM s)(J:64*zA s+64<=ze):zf 43 [.agg (zk s),.i n] (.bool (SE s n)):=by
 have h:zA s<=ze:=by simp only[ze]at J ⊢;omega
 have K:=zk1 s aa J;have L:=zpc s h;have M:=zkl s h;have O:=zoN s h;have U:=zo7 s h;have W:=zpe s (by simp only[ze]at J ⊢;omega);have X:=zqp s h;have Y:=zqN s h;have Z:=zgR s h;have f:SE s n=SE s n:=rfl
 conv at f=>rhs;unfold SE
 generalize SE s n=F,Si s=ad,RC s=ae,XN s=af,WT s=ag,Ty s=ah,Pc s=ai,TF s=aj,MR s=ak,LF s=al at *
 obtain⟨ab,ac,sm⟩:=s;simp only[zk]at K L M O U W X Y Z ⊢;refine zo ir43 λKP Q g=>?_;by_cases j:n=1
 ·subst j;rw[if_pos rfl]at f;subst f;refine xh K ?_;exact vm g
 rw[if_neg j]at f;by_cases p:n=2
 ·subst p;rw[if_pos rfl]at f;subst f;refine xh L ?_;exact vm g
 rw[if_neg p]at f;by_cases v:n=3
 ·subst v;rw[if_pos rfl]at f;subst f;refine xh M ?_;exact vm g
 rw[if_neg v]at f;by_cases y:n=4
 ·subst y;rw[if_pos rfl]at f;subst f;refine xh O ?_;exact vm g
 rw[if_neg y]at f;by_cases z:n=5
 ·subst z;rw[if_pos rfl]at f;subst f;refine xh U ?_;exact vm g
 rw[if_neg z]at f;by_cases A:n=6
 ·subst A;rw[if_pos rfl]at f;subst f;refine xh W ?_;exact vm g
 rw[if_neg A]at f;by_cases C:n=7
 ·subst C;rw[if_pos rfl]at f;subst f;refine xh X ?_;exact vm g
 rw[if_neg C]at f;by_cases G:n=8
 ·subst G;rw[if_pos rfl]at f;subst f;refine xh Y ?_;exact vm g
 rw[if_neg G]at f;by_cases I:n=9
 ·subst I;rw[if_pos rfl]at f;subst f;refine xh Z ?_;exact vm g
 rw[if_neg I]at f;subst f;simp(disch:=omega) only[ir43,j,p,v,y,z,A,C,G,I,go_sem];exact xo g
noncomputable def UK(s:zg):Nat->Int->Int
 | 0,_=>0
 | k+1,n=>if SE s n=true then UK s k (n+1)else n
def zk4(s:zg)(J:SM s)(A:64*zA s+64<=ze):zf 20 [.agg (zk s)] (.i (UK s 9 1)):=by
 have j:=λn=>zpY s n J A;generalize y:UK s 9 1=F;obtain⟨p,v,sm⟩:=s;simp only[zk]at j ⊢;refine zo ir20 λKP Q h=>?_;refine xa ?_;refine ZZ (λx:Nat×Int=>[(3,.i x.2)]) (λx _=>(x.1:Int)+x.2=10/\x.1<=9/\UK ⟨p,v,sm⟩ x.1 x.2=F) (λx=>x.1) (9,1) xb ⟨by omega,by omega,y⟩ ?_;rintro⟨k,n⟩ H K ⟨C,G,f⟩ z;simp only at C G f;cases k with
 | zero =>
  simp only[UK]at f;subst f;have g:¬ (n<=9):=xg
  refine xc g ?_;exact xo h
 | succ k =>
  simp only[UK]at f;have I:=j n;have g:(n<=9)=True:=eq_true xg;generalize L:SE ⟨p,v,sm⟩ n=x at *
  refine xt g I ?_;cases x with
  | true =>rw[if_pos rfl]at f;refine xq ?_;exact zJ (z (k,n+1) _ wP ⟨by simp only;omega,by simp only;omega,f⟩) xf
  | false =>rw[if_neg xw]at f;subst f;exact vm h
def zch(m:B9)(K:bT m<=ze):zf 363 [.o 1 (cT m)] (.bool (m.all zI)):=by
 refine zo ir363 λKP Q p=>?_;have v:=zn m;have O:=ZN m;have L:=K;simp only[ze]at L;refine xa ?_;refine zc m 3 ZY (λj f _ H=>m.all zI=f.all zI) () xb rfl ?_ ?_
 ·rintro _ H C h g;have e:m.all zI=true:=h;refine xd v g ?_;exact xj p e
 ·rintro j x f _ H C y g M h G;have J:=ZM y;have I:=K7 j x f;rw[<-y]at I;have A:m.all zI=(zI x&&f.all zI):=wa h
  refine xm v g J (XO x xi) ?_;cases z:zI x with
  | false =>refine xa ?_;exact xz p A z
  | true =>refine xq ?_;exact zJ (G () _ (by rw[A,z,Bool.true_and])) xb
def zcW(m:List z6)(Z:Wx m<=ze):zf 365 [.o 10 (Yg m)] (.bool (m.all yx)):=by
 refine zo ir365 λKP Q z=>?_;have A:=yJ m;have ad:=yr m;have aa:=Z;simp only[ze]at aa;refine xa ?_;refine zc m 3 ZY (λM J _ H=>m.all yx=J.all yx) () xb rfl ?_ ?_
 ·rintro _ H W L v;have e:m.all yx=true:=L;refine xd A v ?_;exact xj z e
 ·rintro M x J _ H W O v ac L X;have p:=y6 O;have Y:=Vc M x J;rw[<-O]at Y;have I:m.all yx=(yx x&&J.all yx):=wa L
  obtain⟨j,⟨f,tl,g⟩,y,h⟩:=x;have ab:bW ⟨j,⟨f,tl,g⟩,y,h⟩=j.length+f.length+bV h:=rfl;have G:yx ⟨j,⟨f,tl,g⟩,y,h⟩=(zI j&&(zD ⟨f,tl,g⟩&&Vb y h)):=rfl;rw[T7]at p;simp only at p;refine xx A v p ?_;refine za (XO j xi) ?_;cases C:zI j with
  | false =>refine xa ?_;exact z rfl (by simp[I,G,C])
  | true =>
   refine xx A v p ?_;refine za (show zf 49 [.agg [.str f,.i tl,.i g]] (.bool (zD ⟨f,tl,g⟩)) from Xm ⟨f,tl,g⟩ xi) ?_;cases K:zD ⟨f,tl,g⟩with
   | false =>refine xa ?_;exact z rfl (by simp[I,G,C,K])
   | true =>
    refine xx A v p ?_;refine za (RD y h xi) ?_;cases U:Vb y h with
    | false =>refine xa ?_;exact z rfl (by simp[I,G,C,K,U])
    | true =>refine xq ?_;exact zJ (X () _ (by rw[I,G,C,K,U];rfl)) xb
def zic(m:List Yv)(aa:NC m<=ze):zf 364 [.o 6 (TK m)] (.bool (m.all X6)):=by
 refine zo ir364 λKP Q j=>?_;have p:=YM m;have ad:=YH m;have ab:=aa;simp only[ze]at ab;refine xa ?_;refine zc m 3 ZY (λO K _ H=>m.all X6=K.all X6) () xb rfl ?_ ?_
 ·rintro _ H Y M f;have e:m.all X6=true:=M;refine xd p f ?_;exact xj j e
 ·rintro O x K _ H Y W f ac M Z;have v:=XS W;have U:=PM O x K;rw[<-W]at U;have A:m.all X6=(X6 x&&K.all X6):=wa M
  obtain⟨G,J,⟨h,tl,g⟩,C⟩:=x;simp only[bL]at U;have z:X6 ⟨G,J,⟨h,tl,g⟩,C⟩=(zI G&&(J.all yx&&(zD ⟨h,tl,g⟩&&Zg 0 true C))):=rfl;rw[YG]at v;refine xm p f v (XO G xi) ?_;cases y:zI G with
  | false =>refine xa ?_;exact j rfl (by simp[A,z,y])
  | true =>
   refine xm p f v (zcW J xi) ?_;cases I:J.all yx with
   | false =>refine xa ?_;exact j rfl (by simp[A,z,y,I])
   | true =>
    refine xm p f v (show zf 49 [.agg [.str h,.i tl,.i g]] (.bool (zD ⟨h,tl,g⟩)) from Xm ⟨h,tl,g⟩ xi) ?_;cases L:zD ⟨h,tl,g⟩with
    | false =>refine xa ?_;exact j rfl (by simp[A,z,y,I,L])
    | true =>
     refine xm p f v (U8 C xi 0 xg xg true) ?_;cases X:Zg 0 true C with
     | false =>refine xa ?_;exact j rfl (by simp[A,z,y,I,L,X])
     | true =>refine xq ?_;exact zJ (Z () _ (by rw[A,z,y,I,L,X];rfl)) xb
end Go.Proofs.YtcbfcliickppiaaGreatDoor
set_option maxHeartbeats 1600000
namespace Go.Proofs.YtcbfcliickppiaaGreatDoor
open Go.Ab
def KJ{x:yX}(h:Yd x=true):x.ps.all yx=true/\x.flds.all X6=true:=by
 simp only[Yd,yu]at h;obtain⟨_,h⟩:=h;have nil:∀ {α:Type} {f:α->Bool} {l:List α},l.length=0->l.all f=true:=λe=>by rw[Pa.1 e];rfl
 split at h
 ·simp only[yu,Zh]at h;exact⟨nil h.2.2.2.2,h.2.1⟩
 split at h
 ·simp only[yu,Zh]at h;exact⟨nil h.2.2.2.2,nil h.2.2.2.1⟩
 split at h
 ·simp only[yu,Zh]at h;exact⟨nil h.2.2.2.2,nil h.2.2.2.1⟩
 split at h
 ·simp only[yu,Zh]at h;exact⟨h.1,nil h.2.2.2.1⟩
 ·cases h
noncomputable def RY(x:yX):Bool:=zI x.nm&&(x.faces.all zI&&(x.flds.all X6&&(x.parts.all zI&&x.ps.all yx)))
def zdO{x:yX}(h:Yd x=true):RY x=true:=by
 have f:=KJ h;have nil:∀ {α:Type} {j:α->Bool} {l:List α},l.length=0->l.all j=true:=λe=>by rw[Pa.1 e];rfl
 simp only[RY,yu];simp only[Yd,yu]at h;obtain⟨g,h⟩:=h;refine⟨g,?_,f.2,?_,f.1⟩
 ·split at h
  ·simp only[yu]at h;exact h.1
  split at h
  ·simp only[yu,Zh]at h;exact nil h.2.2.1
  split at h
  ·simp only[yu,Zh]at h;exact nil h.2.2.1
  split at h
  ·simp only[yu,Zh]at h;exact nil h.2.2.1
  ·cases h
 ·split at h
  ·simp only[yu,Zh]at h;exact nil h.2.2.2.1
  split at h
  ·simp only[yu,Zh]at h;exact h.1
  split at h
  ·simp only[yu,Zh]at h;exact h.1.1
  split at h
  ·simp only[yu,Zh]at h;exact nil h.2.2.2.2
  ·cases h
end Go.Proofs.YtcbfcliickppiaaGreatDoor
set_option maxHeartbeats 1600000
namespace Go.Proofs.YtcbfcliickppiaaGreatDoor
open Go.Ab
noncomputable def XX(x:yX):Bool :=
 if x.k=1∨x.k=2 then decide (x.flds.length≠0)&&(decide (x.parts.length=0)&&decide (x.ps.length=0))
 else if x.k=3 then decide (x.parts.length≠0)&&(decide (x.faces.length=0)&&(decide (x.flds.length=0)&&decide (x.ps.length=0)))
 else if x.k=4 then decide (x.parts.length≠0)&&(decide (x.faces.length=0)&&(decide (x.flds.length=0)&&(decide (x.ps.length=0)&&x.parts.all SJ)))
 else if x.k=5 then decide (x.ps.length≠0)&&(decide (x.faces.length=0)&&(decide (x.flds.length=0)&&decide (x.parts.length=0)))
 else false
def zgt(x:yX):Yd x=(RY x&&XX x):=by
 cases f:RY x with
 | false =>
  cases g:Yd x with
  | false=>rfl
  | true=>rw[zdO g]at f;cases f
 | true =>
  simp only[RY,yu]at f;obtain⟨h,j,p,v,y⟩:=f;simp only[Yd,XX,h,j,p,v,y,Bool.true_and];split
  ·rfl
  split
  ·rfl
  split
  ·cases x.parts.all SJ<;>simp
  ·rfl
def zjd:∀l:B9,l.all SJ=(!zH [116,114,117,101] l&&(!zH [102,97,108,115,101] l&&!zH [110,117,108,108] l))
 | []=>rfl
 | x::r=>by
  have j:=zjd r;simp only[List.all_cons,j,SJ,zH];by_cases f:x=[116,114,117,101]
  ·simp[f]
  by_cases g:x=[102,97,108,115,101]
  ·simp[g]
  by_cases h:x=[110,117,108,108]
  ·simp[h]
  ·simp[f,g,h]
def SR(n:Nat):((((n:Int)=0)=True)/\(((0:Int)<(n:Int))=False)/\n=0)∨((((n:Int)=0)=False)/\(((0:Int)<(n:Int))=True)/\n≠0):=by
 by_cases f:n=0
 ·left;exact⟨eq_true xg,eq_false xg,f⟩
 ·right;exact⟨eq_false xg,eq_true xg,f⟩
def zma(x:yX)(ah:bE x<=ze):zf 324 [.agg (cE x)] (.bool (Yd x)):=by
 refine zo ir324 λKP Q f=>?_;rw[zgt]at f;obtain⟨k,ad,U,flds,p,J⟩:=x;simp only[bE]at ah;have aw:=YH flds;have ax:=ZN p;have al:=zn U;have am:=YM flds;have an:=zn p;have ao:=yJ J;have ap:=ah;simp only[ze]at ap;rw[zS];have ak:RY ⟨k,ad,U,flds,p,J⟩=(zI ad&&(U.all zI&&(flds.all X6&&(p.all zI&&J.all yx)))):=rfl;rw[ak]at f;refine xE al am an ao (XO ad xi) ?_;cases W:zI ad with
 | false =>exact vn f W
 | true =>
 refine xh (zch U xi) ?_;cases Z:U.all zI with
 | false =>refine xa ?_;exact xz f W Z
 | true =>
 refine xh (zic flds xi) ?_;cases ac:flds.all X6 with
 | false =>refine xa ?_;exact f rfl (by simp[W,Z,ac])
 | true =>
 refine xh (zch p xi) ?_;cases af:p.all zI with
 | false =>refine xa ?_;exact f rfl (by simp[W,Z,ac,af])
 | true =>
 refine xh (zcW J xi) ?_;cases ai:J.all yx with
 | false =>refine xa ?_;exact f rfl (by simp[W,Z,ac,af,ai])
 | true =>
 rw[W,Z,ac,af,ai,Bool.true_and,Bool.true_and,Bool.true_and,Bool.true_and,Bool.true_and]at f;by_cases C:k=1
 ·have aq:=eq_true C;rcases SR flds.length with ⟨K,j,c1⟩|⟨K,j,c1⟩<;>rcases SR p.length with ⟨v,M,g⟩|⟨v,M,g⟩<;>rcases SR J.length with ⟨y,O,h⟩|⟨y,O,h⟩ <;>
  ·refine xk aq j v y ?_;exact f rfl (by simp[XX,C,c1,g,h])
 by_cases G:k=2
 ·have ar:=eq_true G;rcases SR flds.length with ⟨K,j,c1⟩|⟨K,j,c1⟩<;>rcases SR p.length with ⟨v,M,g⟩|⟨v,M,g⟩<;>rcases SR J.length with ⟨y,O,h⟩|⟨y,O,h⟩ <;>
  ·refine xp C ar j v y ?_;exact f rfl (by simp[XX,G,c1,g,h])
 by_cases I:k=3
 ·have au:=eq_true I;rcases SR p.length with ⟨K,j,c1⟩|⟨K,j,c1⟩<;>rcases SR U.length with ⟨v,M,g⟩|⟨v,M,g⟩<;>rcases SR flds.length with ⟨y,O,h⟩|⟨y,O,h⟩<;>rcases SR J.length with ⟨L,X,A⟩|⟨L,X,A⟩ <;>
  ·refine xG C G au j v y L ?_;exact f rfl (by simp[XX,I,c1,g,h,A])
 by_cases ab:k=5
 ·have av:=eq_true ab;have z:¬ k=4:=xg
  rcases SR J.length with ⟨K,j,c1⟩|⟨K,j,c1⟩<;>rcases SR U.length with ⟨v,M,g⟩|⟨v,M,g⟩<;>rcases SR flds.length with ⟨y,O,h⟩|⟨y,O,h⟩<;>rcases SR p.length with ⟨L,X,A⟩|⟨L,X,A⟩ <;>
  ·simp(disch:=omega) only[C,G,I,z,av,j,v,y,L,go_sem];exact f rfl (by simp[XX,ab,c1,g,h,A])
 by_cases z:k=4
 ·have Y:=eq_true z;rcases SR p.length with ⟨K,j,c1⟩|⟨K,j,c1⟩
  ·refine xp C G I Y j ?_;exact f rfl (by simp[XX,z,c1])
  rcases SR U.length with ⟨v,M,g⟩|⟨v,M,g⟩
  case inr =>refine xu C G I Y j v ?_;exact f rfl (by simp[XX,z,c1,g])
  rcases SR flds.length with ⟨y,O,h⟩|⟨y,O,h⟩
  case inr =>refine xG C G I Y j v y ?_;exact f rfl (by simp[XX,z,c1,g,h])
  rcases SR J.length with ⟨L,X,A⟩|⟨L,X,A⟩
  case inr =>refine x4 C G I Y j v y L ?_;exact f rfl (by simp[XX,z,c1,g,h,A])
  have aa:=zjd p;refine x4 C G I Y j v y L ?_;refine za (TG p [116,114,117,101] xi) ?_;cases ae:zH [116,114,117,101] p with
  | true =>refine xa ?_;exact f rfl (by simp[XX,z,c1,g,h,A,aa,ae])
  | false =>
  refine xh (TG p [102,97,108,115,101] xi) ?_;cases ag:zH [102,97,108,115,101] p with
  | true =>refine xa ?_;exact f rfl (by simp[XX,z,c1,g,h,A,aa,ae,ag])
  | false =>
  refine xh (TG p [110,117,108,108] xi) ?_;cases aj:zH [110,117,108,108] p with
  | true =>refine xa ?_;exact f rfl (by simp[XX,z,c1,g,h,A,aa,ae,ag,aj])
  | false =>refine xa ?_;exact f rfl (by simp[XX,z,c1,g,h,A,aa,ae,ag,aj])
 ·refine xp C G I z ab ?_;exact f rfl (by simp[XX,C,G,I,z,ab])
def zgY(s:zg)(G:zA s<=ze):zf 247 [.agg (zk s)] (.bool (Xr s)):=by
 refine zo ir247 λKP Q g=>?_;obtain⟨f,q,m⟩:=s;simp only[zA]at G;have M:zk ⟨f,q,m⟩=[.o 6 (Vd f),.str q,.str m]:=rfl;have O:Xr ⟨f,q,m⟩=(f.all Yd&&(zI q&&(decide (m=[])||zI m))):=rfl;have v:=YX f;have ac:=VP f;have Z:=G;simp only[ze]at Z;rw[M];rw[O]at g;refine xc v ?_;refine zc f 3 (λx:Unit=>[]) (λA p x H=>f.all Yd=p.all Yd) () xb rfl ?_ ?_
 ·rintro _ H L z y;have e:f.all Yd=true:=z;rw[e,Bool.true_and]at g;refine xn v y (XO q xi) ?_;cases j:zI q with
  | false =>exact vn g j
  | true =>
  by_cases h:m=[]
  ·have aa:=eq_true h;refine xc aa ?_;exact xz g j h
  ·refine xt h (XO m xi) ?_;cases K:zI m with
   | false =>refine xa ?_;exact g rfl (by simp[j,h,K])
   | true =>refine xa ?_;exact g rfl (by simp[j,h,K])
 ·rintro A x p _ H L C y ad z W;have Y:=Xc C;have X:=P1 A x p;rw[<-C]at X;have J:f.all Yd=(Yd x&&p.all Yd):=wa z
  have hf:=zma x xi;have U:(cE x).length=6:=rfl;have ab:(cE x).take 6=cE x:=rfl;refine xU v y Y U ab hf ?_;cases I:Yd x with
  | false =>refine xa ?_;exact xz g J I
  | true =>refine xq ?_;exact zJ (W () _ (by rw[J,I,Bool.true_and])) xb
inductive ye where
 | mk (no:Nat) (x:zj) (typ:B8) (sub:List ye)
mutual
def cIt:ye->List AV| .mk no (.mk k al nm args dirs on sels) typ sub=>[.i no,.i k,.str al,.str nm,.o 6 (Ya args),.o 2 (ZE dirs),.str on,.o 7 (Zp sels),.str typ,.o 10 (ZU sub)]
def ZU:List ye->List (List AV)
 | []=>[]
 | x::r=>cIt x::ZU r
end
def Xw(no:Nat)(k:Int)(f h:B8)(args:List yU)(g:List yv)(j:B8)(p:List zj)(typ:B8)(sub:List ye): cIt (.mk no (.mk k f h args g j p) typ sub)=[.i no,.i k,.str f,.str h,.o 6 (Ya args),.o 2 (ZE g),.str j,.o 7 (Zp p),.str typ,.o 10 (ZU sub)]:=by rw[cIt]
def UT:∀l,ZU l=l.map cIt
 | []=>by simp[ZU]
 | v::r=>by rw[ZU,UT r];rfl
def WG(l:List ye):(ZU l).length=l.length:=by rw[UT];simp
def TW{l a:List ye}{x:ye}{b:List ye}(h:l=a++x::b):(ZU l).getD a.length []=cIt x:=by rw[UT,Z2 h]
def zgG(x:ye):(cIt x).map AV.strip1=cIt x:=by obtain⟨no,⟨k,f,j,g,h,p,v⟩,y,sub⟩:=x;rw[Xw];rfl
def QH(l:List ye):(ZU l).map (·.map AV.strip1)=ZU l:=by rw[UT,List.map_map];exact List.map_congr_left λf _=>zgG f
def Ry(a b:List ye):ZU a++ZU b=ZU (a++b):=by simp only[UT,List.map_append]
def zc9(x:ye):ZU [x]=[cIt x]:=by rw[UT];rfl
def ye.sub:ye->List ye|.mk _ _ _ s=>s
def ye.x:ye->zj|.mk _ x _ _=>x
def ye.args:ye->List yU|.mk _ (.mk _ _ _ a _ _ _) _ _=>a
def ye.no:ye->Nat|.mk n _ _ _=>n
def ye.typ:ye->B8|.mk _ _ t _=>t
def zj.k:zj->Int|.mk k _ _ _ _ _ _=>k
def zj.nm:zj->B8|.mk _ _ n _ _ _ _=>n
def zj.sels:zj->List zj|.mk _ _ _ _ _ _ s=>s
mutual
def Mr(s:zg):zj->B8->Nat->ye×Nat
 | .mk k al nm args dirs on sels,typ,no =>
  let r:=yC s sels (zz s typ (.mk k al nm args dirs on sels)) (no+1)
  (.mk (no+1) (.mk k al nm args dirs on sels) typ r.1,r.2)
def yC(s:zg):List zj->B8->Nat->List ye×Nat
 | [],_,no=>([],no)
 | x::r,typ,no=>((Mr s x typ no).1::(yC s r typ (Mr s x typ no).2).1,(yC s r typ (Mr s x typ no).2).2)
end
mutual
def zqi(s:zg):∀(x:zj) (typ:B8) (no:Nat),(Mr s x typ no).2<=no+bS x| .mk k al nm args dirs on sels,typ,no=>by have:=RM s sels (zz s typ (.mk k al nm args dirs on sels)) (no+1);simp only[Mr,bS];omega
def RM(s:zg):∀(l:List zj) (typ:B8) (no:Nat),(yC s l typ no).2<=no+yR l
 | [],typ,no=>by simp[yC]
 | x::r,typ,no=>by have f:=zqi s x typ no;have g:=RM s r typ (Mr s x typ no).2;simp only[yC,yR];omega
end
def zcz(s:zg):∀(l:List zj) (typ:B8) (no:Nat),(yC s l typ no).1.length=l.length
 | [],_,_=>rfl
 | x::r,typ,no=>by simp only[yC,yg];rw[zcz s r]
def Ob(fr:List (B8×List ye))(n:B8):List ye:=((fr.find? λe=>decide (n=e.1)).map (·.2)).getD []
def Xy(g:List ye->B9->List ye×B9)(fr:List (B8×List ye))(f:List ye×B9):ye->List ye×B9
 | .mk no (.mk k al nm args dirs on sels) typ sub =>
  if k=0 then (f.1++[.mk no (.mk k al nm args dirs on sels) typ sub],f.2)
  else if k=2 then (f.1++(g sub f.2).1,(g sub f.2).2)
  else if k=1/\zH nm f.2=false then (f.1++(g (Ob fr nm) (f.2++[nm])).1,(g (Ob fr nm) (f.2++[nm])).2)
  else f
def Us(fr:List (B8×List ye)):Nat->List ye->B9->List ye×B9
 | 0,_,seen=>([],seen)
 | n+1,l,seen=>l.foldl (Xy (Us fr n) fr) ([],seen)
inductive Ex (fr:List (B8×List ye)):Nat->List ye->Prop
 | nil (n:Nat):Ex fr n []
 | cons {n i j m no:Nat} {k:Int} {al nm:B8} {args:List yU} {dirs:List yv} {on:B8} {sels:List zj} {typ:B8} {sub r:List ye} (hle:i+j+m+1<=n)
  (h1:Ex fr i sub) (h2:k=1->Ex fr j (Ob fr nm)) (h3:Ex fr m r) (ha:ZC args<=ze):Ex fr n (.mk no (.mk k al nm args dirs on sels) typ sub::r)
def Ex.mono{fr:List (B8×List ye)}{n m:Nat}{l:List ye}(h:Ex fr n l)(y:n<=m):Ex fr m l:=by
 cases h with
 | nil=>exact .nil _
 | cons v f g j p=>exact .cons xg f g j p
def Ex.zero{fr:List (B8×List ye)}{l:List ye}(h:Ex fr 0 l):l=[]:=by
 cases h with
 | nil=>rfl
 | cons v f g j p=>omega
def Ex.pre{fr:List (B8×List ye)}{b:List ye}:∀ {a:List ye} {n:Nat},Ex fr n (a++b)->Ex fr n a
 | [],_,_=>.nil _
 | x::a,n,h=>by
  cases h with
  | cons v f g j p=>exact .cons v f g (Ex.pre j) p
def Ex.mid{fr:List (B8×List ye)}{no:Nat}{k:Int}{y v:B8}{args:List yU}{z:List yv}{J:B8}{K:List zj}{typ:B8}{sub b:List ye}:∀ {a:List ye} {n:Nat},
  Ex fr n (a++.mk no (.mk k y v args z J K) typ sub::b)->∃i f,i+f+1<=n/\Ex fr i sub/\(k=1->Ex fr f (Ob fr v))
 | [],n,h=>by
  cases h with
  | cons I g j p G=>exact⟨_,_,by omega,g,j⟩
 | x::a,n,h=>by
  cases h with
  | cons I g j p G =>obtain⟨i,f,L,A,C⟩:=Ex.mid p;exact⟨i,f,by omega,A,C⟩
def Ex.sub{fr:List (B8×List ye)}{n:Nat}{l:List ye}(h:Ex fr (n+1) l){y:ye}(g:y∈l):Ex fr n y.sub:=by obtain⟨a,b,e⟩:=List.append_of_mem g;obtain⟨no,⟨k,j,C,p,v,G,I⟩,J,sub⟩:=y;rw[e]at h;obtain⟨i,A,z,f,_⟩:=Ex.mid h;exact f.mono xg
def OC{fr:List (B8×List ye)}{n f:Nat}{l:List ye}{seen:B9}(h:Ex fr n l)(hf:n<=f):Us fr f l seen=l.foldl (Xy (Us fr (f-1)) fr) ([],seen):=by
 cases f with
 | zero =>
  obtain rfl:n=0:=xg
  rw[h.zero];rfl
 | succ f=>rfl
def ziU{fr:List (B8×List ye)}:∀n:Nat,∀(l:List ye),Ex fr n l->∀(f:Nat),n<=f->∀p:List ye×B9,
  (l.foldl (Xy (Us fr (f-1)) fr) p).1.length<=p.1.length+n/\∀g∈(l.foldl (Xy (Us fr (f-1)) fr) p).1,g∈p.1∨∃m,m<n/\Ex fr m g.sub/\ZC g.args<=ze:=by
 intro n;induction n using Nat.strongRecOn with
 | _ n A =>
 intro l h f hf p;cases h with
 | nil=>exact⟨by simp,λg v=>.inl v⟩
 | @cons _ i j m no k al nm args dirs on sels typ sub r hle h1 h2 h3 ha =>
  rw[List.foldl_cons];have K:(Xy (Us fr (f-1)) fr p (.mk no (.mk k al nm args dirs on sels) typ sub)).1.length<=p.1.length+(i+j+1) /\
    ∀g∈(Xy (Us fr (f-1)) fr p (.mk no (.mk k al nm args dirs on sels) typ sub)).1,g∈p.1∨∃m,m<n/\Ex fr m g.sub/\ZC g.args<=ze:=by
   simp only[Xy];split
   ·refine⟨by refine wm ?_;omega,λg v=>?_⟩;rcases List.mem_append.1 v with h|h
    ·exact .inl h
    ·simp only[List.mem_singleton]at h;subst h;exact .inr ⟨i,by omega,h1,ha⟩
   ·split
    ·rw[OC h1 xg];have:=A i xg sub h1 (f-1) xg ([],p.2);simp only[yy,List.not_mem_nil,false_or]at this;refine⟨by rw[ZX];omega,λg v=>?_⟩;rcases List.mem_append.1 v with h|h
     ·exact .inl h
     ·obtain⟨z,C,y⟩:=this.2 g h;exact .inr ⟨z,by omega,y⟩
    ·split
     ·rename_i I;have G:=h2 I.1;rw[OC G xg];have:=A j xg _ G (f-1) xg ([],p.2++[nm]);simp only[yy,List.not_mem_nil,false_or]at this;refine⟨by rw[ZX];omega,λg v=>?_⟩;rcases List.mem_append.1 v with h|h
      ·exact .inl h
      ·obtain⟨z,C,y⟩:=this.2 g h;exact .inr ⟨z,by omega,y⟩
     ·exact⟨by omega,λg v=>.inl v⟩
  have J:=A m xg r h3 f xg (Xy (Us fr (f-1)) fr p (.mk no (.mk k al nm args dirs on sels) typ sub));refine⟨by omega,λg v=>?_⟩;rcases J.2 g v with h|⟨z,C,y⟩
  ·exact K.2 g h
  ·exact .inr ⟨z,by omega,y⟩
def ND{fr:List (B8×List ye)}{n f:Nat}{l:List ye}{seen:B9}(h:Ex fr n l)(hf:n<=f):(Us fr f l seen).1.length<=n:=by rw[OC h hf];simpa using (ziU n l h f hf ([],seen)).1
def Y9{fr:List (B8×List ye)}{n f:Nat}{l:List ye}{seen:B9}(h:Ex fr n l)(hf:n<=f){y:ye}(g:y∈(Us fr f l seen).1):∃m,m<n/\Ex fr m y.sub/\ZC y.args<=ze:=by rw[OC h hf]at g;simpa using (ziU n l h f hf ([],seen)).2 y g
def yW:zj->B8| .mk k al nm _ _ _ _=>if k=0 then (if al=[]then nm else al)else []
abbrev PrS:=List ((Nat×Nat)×Bool)
abbrev Za:=PrS×PrS
def WF(l:PrS)(k:Nat×Nat):Option Bool:=(l.find? λe=>decide (k=e.1)).map (·.2)
def Xo:PrS->Nat×Nat->Bool->PrS
 | [],k,v=>[(k,v)]
 | (a,u)::r,k,v=>if k=a then (k,v)::r else (a,u)::Xo r k v
def NM(g:ye->ye->Za->Bool×Za)(x:ye):List ye->Za->Bool×Za
 | [],S=>(true,S)
 | y::r,S=>if yW x.x=yW y.x then (match g x y S with|(true,S')=>NM g x r S'|(false,S')=>(false,S'))else NM g x r S
def Vn(g:ye->ye->Za->Bool×Za):List ye->List ye->Za->Bool×Za
 | [],_,S=>(true,S)
 | x::r,lb,S=>match NM g x lb S with|(true,S')=>Vn g r lb S'|(false,S')=>(false,S')
def Yc(fr:List (B8×List ye))(a:ye):List ye:=(Us fr 64 a.sub []).1
def Wu(s:zg)(a b:X4):Bool :=decide (a.lists=b.lists)&&decide (a.musts=b.musts)&&(if Z0 s a.nm||Z0 s b.nm then decide (a.nm=b.nm)else y9 s a.nm&&y9 s b.nm)
def shB(s:zg)(fr:List (B8×List ye))(g:ye->ye->Za->Bool×Za)(a b:ye)(S:Za):Bool×Za :=
 match WF S.1 (a.no,b.no)with
 | some r=>(r,S)
 | none =>
  if Wu s ((zG s a.typ a.x.nm).getD zF).t ((zG s b.typ b.x.nm).getD zF).t=true then ((Vn g (Yc fr a) (Yc fr b) S).1,(Xo (Vn g (Yc fr a) (Yc fr b) S).2.1 (a.no,b.no) (Vn g (Yc fr a) (Yc fr b) S).1,(Vn g (Yc fr a) (Yc fr b) S).2.2))
  else (false,(Xo S.1 (a.no,b.no) false,S.2))
def Oa(s:zg)(fr:List (B8×List ye)):Nat->ye->ye->Za->Bool×Za
 | 0=>shB s fr λ_ _ S=>(true,S)
 | n+1=>shB s fr (Oa s fr n)
def Oz(s:zg)(a b:ye):Bool:=!decide (a.typ=b.typ)&&yA s a.typ [1]&&yA s b.typ [1]
end Go.Proofs.YtcbfcliickppiaaGreatDoor

namespace Go.Proofs.YtcbfcliickppiaaGreatDoor
open Go.Ab
def RW(a b:List yv)(aa:We a<=ze):zf 70 [.o 2 (ZE a),.o 2 (ZE b)] (.bool (Th a b)):=by
 refine zo ir70 λKP Q j=>?_;have g:=YB a;have h:=YB b;have ad:=Y3 a;simp only[ze]at aa;by_cases G:a.length=b.length
 case neg =>
  have I:¬ ((a.length:Int)=b.length):=xg
  have y:a≠b:=λe=>G (by rw[e]);refine xe g h I ?_;exact xj j (zw y)
 have I:((a.length:Int)=b.length)=True:=eq_true xg;refine xe g h I ?_;refine zc a 5 ZY (λf U n H=>b.take f.length=f) () xb rfl ?_ ?_
 ·rintro n H Y J v;refine xd g v ?_;exact xj j (yz (UB G J))
 ·rintro f x U n H Y p v _ J Z;obtain⟨X,r,C⟩:=Ux p G J;have K:=Y0 p;have L:=Y0 C;have O:(f.length:Int)<b.length:=xg
  have M:=VJ f x U;rw[<-p]at M;have ac:=Ve C;have y:x≠X->a≠b:=Sl p C;obtain⟨s,W⟩:=x;obtain⟨t,u⟩:=X;simp only[bD]at M;by_cases z:s=t
  case neg =>have ab:=y (xr z);simp(disch:=omega) only[g,h,v,O,K,L,z,cD,go_sem];exact xj j (zw ab)
  simp(disch:=omega) only[g,h,v,O,K,L,z,cD,go_sem];refine za (zbo W u xi) ?_;by_cases A:W=u
  ·refine xc (yz A) ?_;exact zJ (Z () _ (by rw[z,A];exact ac)) xf
  ·have:=y (xr A);exact vo (zw A) j (zw this)
def zhc:∀n:Nat,∀a b:List zj,yR a<=n->n<=ze->zf 71 [.o 7 (Zp a),.o 7 (Zp b)] (.bool (Th a b)):=by
 intro n;induction n using Nat.strongRecOn with
 | _ n av =>
 intro a b a3 ap;refine zo ir71 λKP Q g=>?_;have v:=Z7 a;have A:=Z7 b;have a2:=YL a;have aq:=ap;simp only[ze]at aq;by_cases W:a.length=b.length
 case neg =>
  have X:¬ ((a.length:Int)=b.length):=xg
  have h:a≠b:=λe=>W (by rw[e]);refine xe v A X ?_;exact xj g (zw h)
 have X:((a.length:Int)=b.length)=True:=eq_true xg;refine xe v A X ?_;refine zc a 5 ZY (λy ag n H=>b.take y.length=y) () xb rfl ?_ ?_
 ·rintro n H aj Z C;refine xd v C ?_;exact xj g (yz (UB W Z))
 ·rintro y x ag _ H aj O C _ Z ao;obtain⟨ai,r,U⟩:=Ux O W Z;have L:=YY O;have M:=YY U;have Y:(y.length:Int)<b.length:=xg
  have af:=WM y x ag;rw[<-O]at af;have au:=Ve U;have h:x≠ai->a≠b:=Sl O U;obtain⟨k,ak,ax,ab,ad,az,aa⟩:=x;obtain⟨aw,al,ay,ac,ae,a0,ah⟩:=ai;simp only[bS]at af;rw[Zt]at L M;refine xu v A C Y L M (zb λam a1=>?_);refine xu v A C Y L M (zb λan ar=>?_);have n76:an≠am:=nen2 upd_same ar;have n67:=Ne.symm n76;refine x4 v A C Y L M n67 n76 ?_;by_cases j:k=aw
  case neg =>have f:=h (xr j);refine xe j n67 n76 ?_;exact xj g (zw f)
  by_cases p:ak=al
  case neg =>have f:=h (xr p);refine xk j p n67 n76 ?_;exact xj g (zw f)
  by_cases z:ax=ay
  case neg =>have f:=h (xr z);refine xp j p z n67 n76 ?_;exact xj g (zw f)
  by_cases G:az=a0
  case neg =>have f:=h (xr G);refine xu j p z G n67 n76 ?_;exact xj g (zw f)
  refine xH j p z G n67 n76 (zbo ab ac xg) ?_;by_cases I:ab=ac
  case neg =>have f:=h (xr I);refine xe (zw I) n67 n76 ?_;exact xj g (zw f)
  refine xm (yz I) n67 n76 (RW ad ae xg) ?_;by_cases J:ad=ae
  case neg =>have f:=h (xr J);refine xe (zw J) n67 n76 ?_;exact xj g (zw f)
  refine xm (yz J) n67 n76 (av (yR aa) xg aa ah (ZG _) xg) ?_;by_cases K:aa=ah
  case neg =>have f:=h (xr K);refine xe (zw K) n67 n76 ?_;exact xj g (zw f)
  refine xe (yz K) n67 n76 ?_;exact zJ (ao () _ (by rw[j,p,z,G,I,J,K];exact au)) xf
def Kf(a b:List zj)(f:yR a<=ze):zf 71 [.o 7 (Zp a),.o 7 (Zp b)] (.bool (Th a b)):=zhc (yR a) a b (ZG _) f
def zkX(a b:Y6)(az:bO a<=ze):zf 26 [.agg (cO a),.agg (cO b)] (.bool (Th a b)):=by
 refine zo ir26 λKP Q j=>?_;obtain⟨k,I,g,v,z⟩:=a;obtain⟨G,J,h,y,A⟩:=b;simp only[bO]at az;have O:=yJ g;have aa:=yJ h;have b1:=yr g;have be:=az;simp only[ze]at be;simp(disch:=omega) only[ir26,cO,go_sem];by_cases L:k=G
 case neg =>
  have f:Y6.mk k I g v z≠Y6.mk G J h y A:=xr L
  exact vo L j (zw f)
 by_cases W:I=J
 case neg =>
  have f:Y6.mk k I g v z≠Y6.mk G J h y A:=xr W
  refine xd L W ?_;exact xj j (zw f)
 by_cases ai:g.length=h.length
 case neg =>
  have aj:¬ ((g.length:Int)=h.length):=xg
  have f:Y6.mk k I g v z≠Y6.mk G J h y A:=λe=>ai (by rw[(Y6.mk.inj e).2.2.1]);refine xp L W O aa aj ?_;exact xj j (zw f)
 have aj:((g.length:Int)=h.length)=True:=eq_true xg;refine xU L W O aa aj (RW v y xg) ?_;by_cases ac:v=y
 case neg =>
  have f:Y6.mk k I g v z≠Y6.mk G J h y A:=xr ac
  exact vo (zw ac) j (zw f)
 refine xt (yz ac) (Kf z A xg) ?_;by_cases ad:z=A
 case neg =>
  have f:Y6.mk k I g v z≠Y6.mk G J h y A:=xr ad
  exact vo (zw ad) j (zw f)
 refine xc (yz ad) ?_;refine zc g 5 ZY (λU a5 n H=>h.take U.length=U) () xb rfl ?_ ?_
 ·rintro n H a7 al ab;have ba:=UB ai al;refine xd O ab ?_;have bg:Y6.mk k I g v z=Y6.mk G J h y A:=by rw[L,W,ac,ad,ba]
  exact xj j (yz bg)
 ·rintro U x a5 _ H a7 af ab _ al bd;obtain⟨an,r,ah⟩:=Ux af ai al;have Y:=y6 af;have Z:=y6 ah;have ak:(U.length:Int)<h.length:=xg
  have a0:=Vc U x a5;rw[<-af]at a0;have bj:=Ve ah;have bh:x≠an->g≠h:=Sl af ah;have f:x≠an->Y6.mk k I g v z≠Y6.mk G J h y A:=λbc e=>bh bc (Y6.mk.inj e).2.2.1;obtain⟨bw,⟨bq,tl,bn⟩,am,bu⟩:=x;obtain⟨bx,⟨br,bl,bp⟩,a6,bv⟩:=an;simp only[bW]at a0;obtain⟨ao,aw,ds,aq,au⟩:=bu;obtain⟨ap,ax,ay,ar,av⟩:=bv;rw[T7,zC]at Y Z;simp only at Y Z;refine xu O aa ab ak Y Z (zb λa8 bz=>?_);refine xu O aa ab ak Y Z (zb λa9 bf=>?_);have n76:a9≠a8:=nen2 upd_same bf;have n67:=Ne.symm n76;refine x4 O aa ab ak Y Z n67 n76 ?_;by_cases C:bw=bx
  case neg =>have p:=f (xr C);refine xe C n67 n76 ?_;exact xj j (zw p)
  by_cases K:bq=br
  case neg =>have p:=f (xr K);simp(disch:=omega) only[C,K,n67,n76,yj,K1.fits,VV,AV.keq1,Bool.and_true,Bool.true_and,Bool.and_false,Bool.false_and,decide_true,decide_false,go_sem];exact xj j (zw p)
  by_cases M:tl=bl
  case neg =>have p:=f (xr M);simp(disch:=omega) only[C,K,M,n67,n76,yj,K1.fits,VV,AV.keq1,Bool.and_true,Bool.true_and,Bool.and_false,Bool.false_and,decide_true,decide_false,go_sem];exact xj j (zw p)
  by_cases X:bn=bp
  case neg =>have p:=f (xr X);simp(disch:=omega) only[C,K,M,X,n67,n76,yj,K1.fits,VV,AV.keq1,Bool.and_true,Bool.true_and,Bool.and_false,Bool.false_and,decide_true,decide_false,go_sem];exact xj j (zw p)
  have a1:(false==true)=false:=rfl;have a2:(true==false)=false:=rfl;have a3:(true==true)=true:=rfl;have a4:(false==false)=true:=rfl;by_cases ag:am=a6
  case neg =>
   have p:=f (xr ag);cases am<;>cases a6<;>first|exact absurd rfl ag|skip
   all_goals simp(disch:=omega) only[C,K,M,X,n67,n76,a1,a2,a3,a4,Bool.not_true,Bool.not_false,yj,K1.fits,VV,AV.keq1,Bool.and_true,Bool.true_and,Bool.and_false,Bool.false_and,decide_true,decide_false,go_sem];exact xj j (zw p)
  subst ag;cases am
  all_goals
   simp(disch:=omega) only[C,K,M,X,n67,n76,a1,a2,a3,a4,Bool.not_true,Bool.not_false,yj,K1.fits,VV,AV.keq1,Bool.and_true,Bool.true_and,Bool.and_false,Bool.false_and,decide_true,decide_false,go_sem];refine za (zce (.mk ao aw ds aq au) xg (.mk ap ax ay ar av)) ?_;by_cases ae:Val.mk ao aw ds aq au=.mk ap ax ay ar av
   case neg =>have p:=f (λe=>ae (z6.mk.inj e).2.2.2);exact vo (zw ae) j (zw p)
   refine xc (yz ae) ?_;exact zJ (bd () _ (by rw[C,K,M,X,ae];exact bj)) xf
def lD(x:yv):Nat:=2+x.nm.length+ZC x.args
def Su(l:List yv):Nat:=(l.map lD).sum
mutual
def lS:zj->Nat| .mk _ al nm args dirs on sels=>2+nm.length+al.length+on.length+ZC args+Su dirs+Lw sels
def Lw:List zj->Nat
 | []=>0
 | x::r=>lS x+Lw r
end
def lW(x:z6):Nat:=1+bV x.d+x.nm.length
def Ls(l:List z6):Nat:=(l.map lW).sum
def lO(x:Y6):Nat:=1+Su x.dirs+Lw x.sels+x.nm.length+Ls x.vars
def lF(x:yE):Nat:=1+Su x.dirs+Lw x.sels+x.nm.length
def lOs(l:List Y6):Nat:=(l.map lO).sum
def lFs(l:List yE):Nat:=(l.map lF).sum
def Q8(d:zv):Bool:=decide (lOs d.ops+lFs d.frags<=3200)
def QQ{α:Type}{f g:α->Nat}{c:Nat}(h:∀x,f x<=c*g x):∀l:List α,(l.map f).sum<=c*(l.map g).sum
 | []=>Nat.zero_le _
 | x::r=>by have:=QQ h r;have:=h x;simp only[List.map_cons,List.sum_cons,Nat.mul_add];omega
def UY(l:List yv):Su l<=2*We l:=QQ (λx=>by simp only[lD,bD];omega) l
mutual
def zrU:∀x,lS x<=2*bS x| .mk k al nm args dirs on sels=>by have f:=UY dirs;have g:=QU sels;simp only[lS,bS];omega
def QU:∀l,Lw l<=2*yR l
 | []=>by simp[Lw]
 | x::r=>by have f:=zrU x;have g:=QU r;simp only[Lw,yR];omega
end
def Q6(l:List z6):Ls l<=2*Wx l:=QQ (λx=>by have:=RE x.d;simp only[lW,bW];omega) l
def zqR(x:Y6):lO x<=2*bO x:=by have f:=UY x.dirs;have g:=QU x.sels;have h:=Q6 x.vars;simp only[lO,bO];omega
def zqX(x:yE):lF x<=2*bF x:=by have f:=UY x.dirs;have g:=QU x.sels;simp only[lF,bF];omega
def zpu(l:List Y6):lOs l<=2*Ub l:=QQ zqR l
def zpx(l:List yE):lFs l<=2*XZ l:=QQ zqX l
def Q7(l:List yv)(K:We l<=ze):zf 31 [.o 2 (ZE l)] (.i (Su l)):=by
 refine zo ir31 λKP Q J=>?_;have h:=YB l;have M:=Y3 l;have O:=UY l;have L:=K;simp only[ze]at L;refine xc h ?_;refine zc l 4 (λn:Int=>[(3,.i n)]) (λp g n H=>n+Su g=Su l) 0 xb xw ?_ ?_
 ·rintro n H G y j;simp only[Su,List.map_nil,List.sum_nil]at y;refine xd h j ?_;have:n=((Su l:Nat):Int):=by simp only[Su];omega
  exact xj J this
 ·rintro p x g n H G v j _ y I;have C:=Y0 v;have A:=VJ p x g;rw[<-v]at A;obtain⟨z,f⟩:=x;simp only[bD]at A;have U:n+(2+z.length+ZC f+Su g:Nat)=Su l:=by rw[<-y];simp[Su,lD]
  have hsz:bV (.mk 0 0 [] [] f)=1+ZC f:=by simp[bV,Wg]
  have W:(0:Int)<=n:=by
   have:=UY g;have e:Su l=Su p+Su (⟨z,f⟩::g):=by rw[v];simp[Su]
   omega
  simp(disch:=first|omega|assumption) only[h,j,C,cD,wrap64,go_sem];refine za (Zk.low (zbT (.mk 0 0 [] [] f) (by rw[hsz];refine xl ?_;omega))) ?_;rw[hsz];simp(disch:=first|omega|assumption) only[h,j,C,cD,wrap64,go_sem];exact zJ (I (n+1+z.length+((1+ZC f:Nat):Int)) _ xg) xf
def zdL:∀c:Nat,∀l:List zj,yR l<=c->c<=ze->zf 32 [.o 7 (Zp l)] (.i (Lw l)):=by
 intro c;induction c using Nat.strongRecOn with
 | _ c U =>
 intro l Y O;refine zo ir32 λKP Q L=>?_;have f:=Z7 l;have Z:=YL l;have aa:=QU l;have M:=O;simp only[ze]at M;refine xc f ?_;refine zc l 4 (λn:Int=>[(3,.i n)]) (λA v n H=>n+Lw v=Lw l/\0<=n) 0 xb xw ?_ ?_
 ·rintro n H I ⟨p,_⟩ g;simp only[Lw]at p;refine xd f g ?_;have:n=((Lw l:Nat):Int):=xg
  exact xj L this
 ·rintro A x v n H I G g _ ⟨p,ab⟩ K;have h:=YY G;have C:=WM A x v;rw[<-G]at C;obtain⟨k,J,W,j,z,X,y⟩:=x;simp only[bS]at C;rw[Zt]at h;simp only[Lw,lS]at p;have hsz:bV (.mk 0 0 [] [] j)=1+ZC j:=by simp[bV,Wg]
  refine xP f g h ?_;refine za (Zk.low (zbT (.mk 0 0 [] [] j) (by rw[hsz];refine xl ?_;omega))) ?_;rw[hsz];refine xP f g h ?_;refine za (Q7 z xi) ?_;refine xP f g h ?_;refine za (U (yR y) xg y (ZG _) xg) ?_;refine xP f g h ?_;exact zJ (K (n+1+W.length+J.length+X.length+((1+ZC j:Nat):Int)+Su z+Lw y) _ ⟨by omega,by omega⟩) xf
def MF(l:List zj)(f:yR l<=ze):zf 32 [.o 7 (Zp l)] (.i (Lw l)):=zdL (yR l) l (ZG _) f
def zpJ(d:zv)(ae:zt d<=ze):zf 13 [.agg (z8 d)] (.bool (Q8 d)):=by
 refine zo ir13 λKP Q aq=>?_;obtain⟨h,z⟩:=d;simp only[zt]at ae;have A:=ZI h;have L:=Z5 z;have a0:=ZJ h;have a1:=yP z;have a2:=zpu h;have a3:=zpx z;have ar:=ae;simp only[ze]at ar;simp(disch:=first|omega|assumption) only[ir13,z8,go_sem];refine zc h 4 (λn:Int=>[(3,.i n)]) (λI y n H=>n+lOs y=lOs h/\0<=n) 0 xb xw ?_ ?_
 ·rintro n H U ⟨v,ai⟩ f;simp only[lOs,List.map_nil,List.sum_nil]at v;have v:n=((lOs h:Nat):Int):=by simp only[lOs];omega
  subst v;refine xd A f ?_;refine zc z 6 (λn:Int=>[(3,.i n)]) (λI y n H=>n+lFs y=(lOs h+lFs z:Nat)/\0<=n) (lOs h:Nat) xb ⟨by omega,by omega⟩ ?_ ?_
  ·rintro n H U ⟨v,_⟩ f;simp only[lFs,List.map_nil,List.sum_nil]at v;have e:decide (n<=3200)=Q8 ⟨h,z⟩:=by simp only[Q8,lFs];exact decide_eq_decide.2 xg
   refine xd L f ?_;exact xj aq e
  ·rintro I x y n H U K f _ ⟨v,ai⟩ ab;have p:=Ym K;have J:=RQ I x y;rw[<-K]at J;obtain⟨C,a6,g,j⟩:=x;simp only[bF]at J;have au:=UY g;have aw:=QU j;have ah:n+(1+Su g+Lw j+C.length+lFs y:Nat)=(lOs h+lFs z:Nat):=by rw[<-v];simp[lFs,lF]
   simp(disch:=first|omega|assumption) only[L,f,p,cF,wrap64,go_sem];refine za (Q7 g xi) ?_;simp(disch:=first|omega|assumption) only[L,f,p,cF,wrap64,go_sem];refine za (MF j xi) ?_;simp(disch:=first|omega|assumption) only[L,f,p,cF,wrap64,go_sem];exact zJ (ab (n+1+Su g+Lw j+C.length) _ ⟨by omega,by omega⟩) xf
 ·rintro I x y n H U K f _ ⟨v,ai⟩ ab;have p:=Z6 K;have J:=Wc I x y;rw[<-K]at J;obtain⟨k,C,G,g,j⟩:=x;simp only[bO]at J;have au:=UY g;have aw:=QU j;have a5:=Q6 G;have aa:=yJ G;have az:=yr G;have ah:n+(1+Su g+Lw j+C.length+Ls G+lOs y:Nat)=lOs h:=by rw[<-v];simp[lOs,lO]
  simp(disch:=first|omega|assumption) only[A,f,p,cO,wrap64,go_sem];refine za (Q7 g xi) ?_;simp(disch:=first|omega|assumption) only[A,f,p,cO,wrap64,go_sem];refine za (MF j xi) ?_;simp(disch:=first|omega|assumption) only[A,f,p,cO,wrap64,go_sem];refine zc G 5 (λn:Int=>[(3,.i n)]) (λay ax aj H=>aj+Ls ax=n+1+Su g+Lw j+C.length+Ls G/\0<=aj) (n+1+Su g+Lw j+C.length) xb ⟨by omega,by omega⟩ ?_ ?_
  ·rintro O H an ⟨ad,av⟩ M;simp only[Ls,List.map_nil,List.sum_nil]at ad;simp(disch:=first|omega|assumption) only[A,aa,f,p,M,cO,wrap64,go_sem];exact zJ (ab O _ ⟨by simp only[Ls]at ah;omega,by omega⟩) xf
  ·rintro ao am ak O H an ag M _ ⟨ad,av⟩ ap;have ac:=y6 ag;have af:=Vc ao am ak;rw[<-ag]at af;obtain⟨al,⟨a8,tl,a7⟩,a9,⟨W,Z,ds,X,Y⟩⟩:=am;rw[T7,zC]at ac;simp only[bW]at af;have a4:O+(1+bV (.mk W Z ds X Y)+al.length+Ls ak:Nat)=n+1+Su g+Lw j+C.length+Ls G:=by rw[<-ad];simp[Ls,lW]
   simp(disch:=first|omega|assumption) only[A,aa,f,p,ac,M,cO,wrap64,go_sem];refine za (zbT (.mk W Z ds X Y) xi) ?_;simp(disch:=first|omega|assumption) only[A,aa,f,p,ac,M,cO,wrap64,go_sem];exact zJ (ap (O+1+bV (.mk W Z ds X Y)+al.length) _ ⟨by omega,by omega⟩) xf
def l8L(x:Yv):Nat:=1+x.nm.length+Ls x.ps+Su x.dirs
def zdN(l:List Yv):Nat:=(l.map l8L).sum
def l8E(x:yX):Nat:=1+x.nm.length+bT x.faces+bT x.parts+Ls x.ps+zdN x.flds
def Np(l:List yX):Nat:=(l.map l8E).sum
def OB(s:zg):Bool:=decide (Np s.defs<=4000)
def zo1(x:Yv):l8L x<=2*bL x:=by have f:=UY x.dirs;have g:=Q6 x.ps;simp only[l8L,bL];omega
def ze0(l:List Yv):zdN l<=2*NC l:=QQ zo1 l
def ziE(x:yX):l8E x<=2*bE x:=by have f:=ze0 x.flds;have g:=Q6 x.ps;simp only[l8E,bE];omega
def zlz(l:List yX):Np l<=2*bEs l:=QQ ziE l
def zdp(l:List yv)(K:We l<=ze):zf 30 [.o 2 (ZE l)] (.i (Su l)):=by
 refine zo ir30 λKP Q J=>?_;have h:=YB l;have M:=Y3 l;have O:=UY l;have L:=K;simp only[ze]at L;refine xc h ?_;refine zc l 4 (λn:Int=>[(3,.i n)]) (λp g n H=>n+Su g=Su l) 0 xb xw ?_ ?_
 ·rintro n H G y j;simp only[Su,List.map_nil,List.sum_nil]at y;refine xd h j ?_;have:n=((Su l:Nat):Int):=by simp only[Su];omega
  exact xj J this
 ·rintro p x g n H G v j _ y I;have C:=Y0 v;have A:=VJ p x g;rw[<-v]at A;obtain⟨z,f⟩:=x;simp only[bD]at A;have U:n+(2+z.length+ZC f+Su g:Nat)=Su l:=by rw[<-y];simp[Su,lD]
  have hsz:bV (.mk 0 0 [] [] f)=1+ZC f:=by simp[bV,Wg]
  have W:(0:Int)<=n:=by
   have:=UY g;have e:Su l=Su p+Su (⟨z,f⟩::g):=by rw[v];simp[Su]
   omega
  simp(disch:=omega) only[h,j,C,cD,wrap64,go_sem];refine za (Zk.low (zbT (.mk 0 0 [] [] f) (by rw[hsz];refine xl ?_;omega))) ?_;rw[hsz];simp(disch:=omega) only[h,j,C,cD,wrap64,go_sem];exact zJ (I (n+1+z.length+((1+ZC f:Nat):Int)) _ xg) xf
def O9(l:B9)(C:bT l<=ze):zf 28 [.o 1 (cT l)] (.i (bT l)):=by
 refine zo ir28 λKP Q A=>?_;have g:=zn l;have K:=ZN l;have G:=C;simp only[ze]at G;refine xc g ?_;refine zc l 4 (λn:Int=>[(3,.i n)]) (λf v n H=>n=bT f) 0 xb (by simp[bT]) ?_ ?_
 ·rintro n H y j h;subst j;refine xd g h ?_;exact xo A
 ·rintro f x v n H y p h _ j z;subst j;have J:=ZM p;have I:=K7 f x v;rw[<-p]at I;refine xP g h J ?_;exact zJ (z ((bT f:Int)+1+x.length) _ (by simp[bT];omega)) xf
def Pl(l:List z6)(K:Wx l<=ze):zf 29 [.o 10 (Yg l)] (.i (Ls l)):=by
 refine zo ir29 λKP Q J=>?_;have g:=yJ l;have X:=yr l;have L:=K;simp only[ze]at L;refine xc g ?_;refine zc l 4 (λn:Int=>[(3,.i n)]) (λf A n H=>n=Ls f) 0 xb (by simp[Ls]) ?_ ?_
 ·rintro n H G v j;subst v;refine xd g j ?_;exact xo J
 ·rintro f x A n H G z j _ v I;subst v;have h:=y6 z;have M:=Vc f x A;rw[<-z]at M;have Y:=Q6 f;obtain⟨y,⟨C,tl,O⟩,U,p⟩:=x;have W:bW ⟨y,⟨C,tl,O⟩,U,p⟩=y.length+C.length+bV p:=rfl;rw[T7]at h;simp only at h;simp(disch:=omega) only[zr,zm,zi,zq,zl,zh,zy,g,j,h,wrap64,go_sem];refine za (zbT p xi) ?_;simp(disch:=omega) only[zr,zm,zi,zq,zl,zh,zy,g,j,h,wrap64,go_sem];exact zJ (I ((Ls f:Int)+1+y.length+((bV p:Nat):Int)) _ (by simp[Ls,lW];omega)) xf
def zlM(s:zg)(Y:zA s<=ze):zf 12 [.agg (zk s)] (.bool (OB s)):=by
 refine zo ir12 λKP Q X=>?_;obtain⟨f,q,m⟩:=s;simp only[zA]at Y;have I:=YX f;have ax:=VP f;have ao:=Y;simp only[ze]at ao;have ak:zk ⟨f,q,m⟩=[.o 6 (Vd f),.str q,.str m]:=rfl;refine xd ak I ?_;refine zc f 4 (λn:Int=>[(3,.i n)]) (λg ae n H=>n=Np g) 0 xb (by simp[Np]) ?_ ?_
 ·rintro n H ah p K;subst p;by_cases W:Np f<=4000
  ·have O:((Np f:Int)<=4000)=True:=eq_true xg;refine xe I K O ?_;exact X rfl (by simp[OB,W])
  ·have O:¬ ((Np f:Int)<=4000):=xg
   refine xe I K O ?_;exact X rfl (by simp[OB,W])
 ·rintro g x ae n H ah ab K _ p am;subst p;have ad:=Xc ab;have Z:=P1 g x ae;rw[<-ab]at Z;have ay:=zlz g;have ap:=ziE x;obtain⟨k,z,j,flds,v,h⟩:=x;simp only[bE]at Z;simp only[l8E,bE]at ap;have C:=YM flds;have aw:=YH flds;have a0:=Q6 h;rw[zS]at ad;refine xe I K ad (zb λaj aq=>?_);obtain⟨U,ar⟩:∃U,U=[AV.i k,.str z,.o 1 (cT j),.o 6 (TK flds),.o 1 (cT v),.o 10 (Yg h)]:=⟨_,rfl⟩;refine xq ?_;refine za (O9 j xi) ?_;refine xq ?_;refine za (O9 v xi) ?_;refine xq ?_;refine za (Pl h xi) ?_;refine xB C ?_;refine zc flds 6 (λn:Int=>[(3,.i n)]) (λA rs n H'=>n=(Np g:Int)+1+z.length+bT j+bT v+Ls h+zdN A/\H' aj=some (.cells [AV.i k,.str z,.o 1 (cT j),.o 6 (TK flds),.o 1 (cT v),.o 10 (Yg h)])) ((Np g:Int)+1+z.length+bT j+bT v+Ls h) xf ⟨by simp[zdN],upd_same ..⟩ ?_ ?_
  ·rintro n ag ai ⟨p,y⟩ G;subst p;refine xP C G y ?_;exact zJ (am ((Np g:Int)+1+z.length+bT j+bT v+Ls h+zdN flds) _ (by simp[Np,l8E];omega)) xf
  ·rintro A af rs n ag ai ac G _ ⟨p,y⟩ an;subst p;have J:=XS ac;have aa:=PM A af rs;rw[<-ac]at aa;have az:=ze0 A;obtain⟨al,M,⟨a2,tl,a1⟩,L⟩:=af;simp only[bL]at aa;have au:=UY L;have av:=Q6 M;rw[YG]at J;refine ww C G y J ?_;refine za (Pl M xi) ?_;refine ww C G y J ?_;refine za (zdp L xi) ?_;refine ww C G y J ?_;exact zJ (an ((Np g:Int)+1+z.length+bT j+bT v+Ls h+zdN A+1+al.length+Ls M+Su L) _ ⟨by simp[zdN,l8L];omega,y⟩) xf
def Uo(d:zv)(n:B8):List zj:=((yb d n).getD Vt).sels
mutual
def Mn(d:zv)(g:Nat->List zj->Nat):zj->Nat->Nat| .mk k _ nm _ _ _ sels,r=>if k=1/\1+Y5 d g sels r 0<=r then 1+Y5 d g sels r 0+g (r-(1+Y5 d g sels r 0)) (Uo d nm)else 1+Y5 d g sels r 0
def Y5(d:zv)(g:Nat->List zj->Nat):List zj->Nat->Nat->Nat
 | [],_,n=>n
 | x::xs,most,n=>if n<=most then Y5 d g xs most (n+Mn d g x (most-n))else n
end
def SN(d:zv):Nat->Nat->List zj->Nat
 | 0=>λf _=>f+1
 | k+1=>λf l=>Y5 d (SN d k) l f 0
def NR(d:zv)(g:Nat->List zj->Nat):∀(l:List zj) (f n:Nat),n<=Y5 d g l f n
 | [],_,_=>by simp[Y5]
 | x::xs,f,n=>by
  simp only[Y5];split
  ·exact Nat.le_trans (Nat.le_add_right _ _) (NR d g xs f _)
  ·exact ZG _
inductive Sz (d:zv):Nat->List zj->Prop
 | nil (n:Nat):Sz d n []
 | cons {n i j m:Nat} {k:Int} {al nm:B8} {args:List yU} {dirs:List yv} {on:B8} {sels r:List zj} (hle:i+j+m+1<=n) (h1:Sz d i sels) (h2:k=1->Sz d j (Uo d nm)) (h3:Sz d m r):Sz d n (.mk k al nm args dirs on sels::r)
def Sz.mono{d:zv}{n m:Nat}{l:List zj}(h:Sz d n l)(v:n<=m):Sz d m l:=by
 cases h with
 | nil=>exact .nil _
 | cons p f g j=>exact .cons xg f g j
section
variable {d:zv} {s:zg} {fr:List (B8×List ye)}
mutual
def szS{g:Nat->List zj->Nat}(j:∀m n,g m (Uo d n)<=m->Sz d (g m (Uo d n)) (Uo d n)):∀(x:zj) (r:Nat),Mn d g x r<=r->∃i v,i+v+1<=Mn d g x r/\Sz d i x.sels/\(x.k=1->Sz d v (Uo d x.nm))
 | .mk k al nm args dirs on sels,r,h=>by
  simp only[Mn]at h ⊢;split at h
  ·rename_i f;rw[if_pos f];obtain⟨e,y,p⟩:=zk9 j sels r 0 xg;exact⟨e,_,by omega,p,λ_=>j (r-(1+Y5 d g sels r 0)) nm xg⟩
  ·rename_i f;rw[if_neg f];obtain⟨e,y,p⟩:=zk9 j sels r 0 xg;exact⟨e,0,by omega,p,λz=>absurd ⟨z,h⟩ f⟩
def zk9{g:Nat->List zj->Nat}(j:∀m n,g m (Uo d n)<=m->Sz d (g m (Uo d n)) (Uo d n)):∀(l:List zj) (f n:Nat),Y5 d g l f n<=f->∃e,n+e<=Y5 d g l f n/\Sz d e l
 | [],f,n,_=>⟨0,by simp[Y5],.nil _⟩
 | x::xs,f,n,h=>by
  simp only[Y5]at h ⊢;split at h
  ·rename_i p;rw[if_pos p];have I:=NR d g xs f (n+Mn d g x (f-n));obtain⟨e,J,v⟩:=zk9 j xs f _ h;obtain⟨i,z,K,hx1,y⟩:=szS j x (f-n) xg;obtain⟨k,A,L,C,G,M,O⟩:=x;exact⟨i+z+e+1,by omega,.cons (ZG _) hx1 y v⟩
  ·omega
end
def znM:∀(k f:Nat) (l:List zj),SN d k f l<=f->Sz d (SN d k f l) l
 | 0,f,l,h=>by simp only[SN]at h;omega
 | k+1,f,l,h=>by simp only[SN]at h ⊢;obtain⟨e,v,p⟩:=zk9 (g:=SN d k) (λm n j=>znM k m (Uo d n) j) l f 0 h;exact p.mono xg
def zsz(hfr:∀n,∃f no,Ob fr n=(yC s (Uo d n) f no).1)(v:∀n,yR (Uo d n)<=ze){n:Nat}{l:List zj}(h:Sz d n l):yR l<=ze->∀f no,Ex fr n (yC s l f no).1:=by
 induction h with
 | nil=>exact λ_ _ _=>.nil _
 | @cons n i j m k al nm args dirs on sels r hle h1 h2 h3 i1 i2 i3 =>intro p f no;simp only[yR,bS]at p;simp only[yC,Mr];refine .cons hle (i1 xg _ _) (λy=>?_) (i3 xg _ _) xg;obtain⟨z,no',g⟩:=hfr nm;rw[g];exact i2 y (v nm) _ _
end
def XV(d:zv):List (List zj)->Nat->Nat
 | [],n=>n
 | x::r,n=>if n<=40 then XV d r (n+SN d 41 40 x)else n
def ON(d:zv):∀(l:List (List zj)) (n:Nat),n<=XV d l n
 | [],_=>ZG _
 | x::r,n=>by
  simp only[XV];split
  ·exact Nat.le_trans (Nat.le_add_right _ _) (ON d r _)
  ·exact ZG _
def Q4{d:zv}:∀(l:List (List zj)) (n:Nat),XV d l n<=40->∀x∈l,SN d 41 40 x<=40
 | y::r,n,h,x,f=>by
  simp only[XV]at h;split at h
  ·have:=ON d r (n+SN d 41 40 y);rcases List.mem_cons.1 f with rfl|f
   ·omega
   ·exact Q4 r _ h x f
  ·omega
def Tw(s:zg)(d:zv):Bool:=OB s&&Q8 d&&decide (XV d (d.frags.map (·.sels)) (XV d (d.ops.map (·.sels)) 0)<=40)
def zet{s:zg}{d:zv}(h:Tw s d=true):∀x∈yQ d,Sz d 40 x:=by
 simp only[Tw,yu,Zh]at h;intro x j;have p:=ON d (d.frags.map (·.sels)) (XV d (d.ops.map (·.sels)) 0);have g:SN d 41 40 x<=40:=by
  rcases List.mem_append.1 j with f|f
  ·exact Q4 (d.ops.map (·.sels)) 0 xg x f
  ·exact Q4 _ _ h.2 x f
 exact(znM 41 40 x g).mono g
end Go.Proofs.YtcbfcliickppiaaGreatDoor
namespace Go.Proofs
open Go.Shelf
def Tryz.laysNm222_ren:Go.Shelf.Ren:=⟨λ|22=>388|29=>401|30=>402|36=>408|17=>417|n=>n,λ|24=>51|9=>9|3=>3|4=>4|0=>0|n=>n,λ|n=>n⟩
def Tryz.laysNm222:Go.Proofs.Lays2.n22 Tryz.prog Tryz.laysNm222_ren:={
 mixed:=by kernel_rfl
 f17:=Tryz.func417.trans (congrArg some yw)
 f22:=Tryz.func388.trans (congrArg some yw)
 f29:=Tryz.func401.trans (congrArg some yw)
 f30:=Tryz.func402.trans (congrArg some yw)
 f36:=Tryz.func408.trans (congrArg some yw)
 t0:=Tryz.underlying0
 a0:=Tryz.isAgg0
 z0:=Tryz.sizeOf0
 v0:=Tryz.zeroValue0
 t3:=Tryz.underlying3
 a3:=Tryz.isAgg3
 z3:=Tryz.sizeOf3
 v3:=Tryz.zeroValue3
 t4:=Tryz.underlying4
 a4:=Tryz.isAgg4
 z4:=Tryz.sizeOf4
 v4:=Tryz.zeroValue4
 t9:=Tryz.underlying9
 a9:=Tryz.isAgg9
 z9:=Tryz.sizeOf9
 v9:=Tryz.zeroValue9
 t24:=Tryz.underlying51
 a24:=Tryz.isAgg51
 z24:=Tryz.sizeOf51
 v24:=Tryz.zeroValue51
 i9:=by kernel_rfl }
end Go.Proofs
namespace Go.Proofs.YtcbfcliickppiaaGreatDoor
open Go.Ab Go.Lib
def Wr(b:Nat)(E:TypeId):∀(vs:List Value) (o:Nat) (f:List Value) (w:World),w.heap[b]?=some (.cells f.toArray E (0,0))->o+vs.length<=f.length ->
  w.setCells b o vs=w.setRow b (f.take o++vs++f.drop (o+vs.length)).toArray
 | [],o,f,w,h,hl=>by rw[World.setCells,List.append_nil];simp only[yy,Nat.add_zero,List.take_append_drop];exact(setRow_self w b _ E _ h).symm
 | v::r,o,f,w,h,hl=>by
  simp only[yg]at hl;have e:(f.toArray.setIfInBounds o v)=(f.set o v).toArray:=xw
  rw[World.setCells,setCell_eq_setRow w b o f.toArray E (0,0) v h,e,Wr b E r (o+1) (f.set o v) _ (setRow_heap w b _ _ E _ h) (by rw[List.length_set];omega),setRow_setRow]
  congr 2
  have g:(f.set o v).take (o+1)=f.take o++[v]:=by rw[List.take_add_one,List.take_set_of_le (ZG _)];simp[show o<f.length by omega]
  have j:(f.set o v).drop (o+1+r.length)=f.drop (o+(r.length+1)):=by
   rw[List.drop_set_of_lt xg]
   congr 1;omega
  rw[g,j];simp[Uh]
def y8(s:B8):Value:=.string ⟨s.toArray⟩
def PB(γ:Gh)(w:World)(xs:B9):zN γ w (xs.map AV.str) (xs.map y8) :=
 ⟨by simp,λi j f=>by
  rw[W5]at f;cases g:xs[i]? with
  | none=>simp[g]at f
  | some x=>simp only[g,VF,Y1]at f;subst f;rfl,λi c j h f=>by
  rw[W5]at f h;cases g:xs[i]? with
  | none=>simp[g]at f
  | some x =>simp only[g,VF,Y1]at f h;subst f;subst h;exact .str x⟩
def PN{γ:Gh}{w:World}:∀ {xs:B9} {sp:List AV} {vs:List Value},zN γ w (xs.map AV.str++sp) vs->∃spv,vs=xs.map y8++spv/\zN γ w sp spv
 | [],sp,vs,h=>⟨vs,by simp,by simpa using h⟩
 | x::xs,sp,[],h=>by simp[zN]at h
 | x::xs,sp,v::vs,h=>by obtain⟨j,p,g⟩:=h;have z:=g 0 _ _ rfl rfl;obtain⟨spv,e,hf⟩:=PN (xs:=xs) (sp:=sp) (vs:=vs) (γ:=γ) (w:=w) ⟨by simpa using j,λi u f=>p (i+1) u (xy f),λi c u y f=>g (i+1) c u (xy y) (xy f)⟩;refine⟨spv,?_,hf⟩;cases z;rw[e];rfl
def Ph(k:Nat):Builtin.zeroCells (Value.string ⟨#[]⟩).cells k=(List.replicate k (y8 [])).toArray:=by
 apply Array.ext
 ·simp[Builtin.zeroCells,Value.cells]
 ·intro i f g;simp[Builtin.zeroCells,Value.cells,Nat.mod_one,y8]
def OR(H:zd)(lv:AV)(xs:B9):Prop :=(lv=.sl .nil 1 []/\xs=[])∨∃b cap f,lv=.ms b 0 xs.length cap/\H b=some (.cells (xs.map AV.str++f))/\xs.length+f.length=cap
structure Wt (H:zd) (lv:AV) (H':zd) (lv':AV) (xs':B9):Prop where
 own:OR H' lv' xs'
 kept:∀c x,H c=some x->(∀n k,lv≠.ms c 0 n k)->H' c=some x
 new:∀b n k,lv'=.ms b 0 n k->H b=none∨∃n0 k0,lv=.ms b 0 n0 k0
def Wt.refl{H:zd}{lv:AV}{xs:B9}(h:OR H lv xs):Wt H lv H lv xs:=⟨h,λc x f _=>f,λb n k e=>.inr ⟨n,k,e⟩⟩
def Wt.trans{H j p:zd}{lv A C:AV}{xs G:B9}(h:Wt H lv j A xs)(h':Wt j A p C G):Wt H lv p C G:=by
 refine⟨h'.own,λc x v y=>h'.kept c x (h.kept c x v y) λn k e=>?_,λb n k e=>?_⟩
 ·rcases h.new c n k e with f|⟨g,k0,f⟩
  ·rw[v]at f;cases f
  ·exact y g k0 f
 ·rcases h'.new b n k e with f|⟨g,k0,f⟩
  ·cases I:H b with
   | none=>exact .inl rfl
   | some x =>
    by_cases z:∃n k,lv=.ms b 0 n k
    ·exact .inr z
    ·have:=h.kept b x I (λn k e=>z ⟨n,k,e⟩);rw[f]at this;cases this
  ·exact h.new b g k0 f
def Wt.upd{H f:zd}{lv v:AV}{xs:B9}{b:Nat}{x:Yr}(h:Wt H lv f v xs)(j:f b=none):Wt H lv (f.upd b x) v xs:=by
 refine⟨?_,λc I z C=>?_,h.new⟩
 ·rcases h.own with y|⟨b0,cap,G,e,p,A⟩
  ·exact .inl y
  ·refine .inr ⟨b0,cap,G,e,?_,A⟩;have g:b0≠b:=nen2 j p;refine xK g ?_;exact p
 ·have:=h.kept c I z C;have g:c≠b:=nen2 j this;refine xK g ?_;exact this
def zpl{γ:Gh}{w f:World}{H:zd}{b:Nat}{z newA:List AV}{vs new:List Value}{E:TypeId}(I:zU γ w H)(y:H b=some (.cells z))(g:w.heap[b]?=some (.cells vs.toArray E (0,0)))(j:γ b=.own)(hf:zN γ w newA new)(hlen:new.length=vs.length)(v:f=w.setRow b new.toArray∨f=w.drew.setRow b new.toArray):
  U9 (λb=>(H b).isSome=true) γ w γ f/\zU γ f (H.upd b (.cells newA))/\∀c,((H.upd b (.cells newA)) c).isSome=true->(H c).isSome=true∨w.heap.size<=c:=by
 have h:U9 (λc=>c=b) γ w γ f:=by
  rcases v with rfl|rfl
  ·exact WY g (xy hlen) rfl (λq p=>by simp[V0,j]at p) (λ_ _=>rfl)
  ·exact(Wh (λc=>c=b) γ w).trans (WY (F:=λc=>c=b) (w:=w.drew) g (xy hlen) rfl (λq p=>by simp[V0,j]at p) (λ_ _=>rfl)) (λ_ _ A=>A)
 have C:f.heap[b]?=some (.cells new.toArray E (0,0)):=by
  rcases v with rfl|rfl
  ·exact Vz w b _ _ E _ g
  ·exact Vz w.drew b _ _ E _ g
 exact⟨h.weaken λc e=>by subst e;simp[y],Vw I h (.cells _ _ E j C hf.1 hf.2.1 λi c K G J=>(hf.2.2 i c K G J).mono h.mono),Vi (xr y)⟩
def zli{γ:Gh}{w g:World}{H:zd}{newA:List AV}{new:List Value}{E:TypeId}(v:zU γ w H)(hf:∀γ w,zN γ w newA new)(f:U9 (λc=>c=w.heap.size) γ w (λc=>if c=w.heap.size then .own else γ c) g)(p:g.heap[w.heap.size]?=some (.cells new.toArray E (0,0))):
  U9 (λb=>(H b).isSome=true) γ w (λc=>if c=w.heap.size then .own else γ c) g/\zU (λc=>if c=w.heap.size then .own else γ c) g (H.upd w.heap.size (.cells newA))/\∀c,((H.upd w.heap.size (.cells newA)) c).isSome=true->(H c).isSome=true∨w.heap.size<=c:=by
 have hfr:∀b,b<w.heap.size->¬ (b=w.heap.size):=λb y e=>by omega
 have h:=hf (λc=>if c=w.heap.size then .own else γ c) g;refine⟨⟨f.mono,f.os,f.output,f.frozen,λb j _=>f.frame b j (hfr b j)⟩,Vw v f (.cells _ _ E xw p h.1 h.2.1 h.2.2),Y4⟩
def Sr(xs:B9):∀f∈xs.map y8,f.oneCell'=true:=λf g=>by obtain⟨x,_,rfl⟩:=List.mem_map.1 g;rfl
def NH{w:World}{b o:Nat}{arr:Array Value}{E:TypeId}{fr:Nat×Nat}(h:w.heap[b]?=some (.cells arr E fr)):w.cell? ⟨b,o,none⟩=arr[o]?:=cell_of_row w b o arr E fr h
def R6{w:World}{b o:Nat}{arr:Array Value}{E:TypeId}(h:w.heap[b]?=some (.cells arr E (0,0))):w.frozen? ⟨b,o,none⟩=false:=by simp[World.frozen?,h]
def Sx(H:zd)(γ:Gh)(w:World)(lv:AV)(xs':B9)(e:Ending)(f:World):Prop :=∃γ' H' r,U9 (λb=>(H b).isSome=true) γ w γ' f/\zU γ' f H'/\(∀b,(H' b).isSome=true->(H b).isSome=true∨w.heap.size<=b)/\zdW γ' f e r/\(match r with|.ret v=>Wt H lv H' v xs'|.pan _=>False)
def zaZ(xs:B9)(f:B8){i:Nat}(hi:i<=xs.length):(xs.take i++f::xs.drop i).length=xs.length+1:=by simp only[ZX,yg,List.length_take,T1];omega
def zbq{H:zd}{γ:Gh}{w g:World}{b cap i:Nat}{xs:List (List UInt8)}{f:List UInt8}{a0:AV}{h:List AV}{Z:Value}{j:List Value}{E:TypeId}{e:Ending}(W:zU γ w H)(G:H b=some (.cells (xs.map AV.str++a0::h)))(I:w.heap[b]?=some (.cells (xs.map y8++Z::j).toArray E (0,0)))(L:γ b=.own)(Y:zN γ w h j)(hi:i<=xs.length)(U:xs.length+1<=cap)(M:cap<=maxLen)(X:xs.length+1+h.length=cap)(aa:b<w.heap.size)(K:e=Ending.returned (.slice (some ⟨b,0,none⟩) (xs.length+1) cap))(y:g=w.setRow b ((xs.take i++f::xs.drop i).map y8++j).toArray∨g=w.drew.setRow b ((xs.take i++f::xs.drop i).map y8++j).toArray):
  Sx H γ w (.ms b 0 xs.length cap) (xs.take i++f::xs.drop i) e g:=by
 have v:=zaZ xs f hi;obtain⟨z,A,C⟩:=zpl W G I L ((PB γ w (xs.take i++f::xs.drop i)).append Y) (by rw[ZX,List.length_map,v];simp only[ZX,List.length_map,yg];omega) y;have hsz:g.heap.size=w.heap.size:=by
  rcases y with p|p
  ·rw[p,setRow_size]
  ·rw[p,setRow_size];rfl
 refine⟨γ,_,.ret (.ms b 0 (xs.length+1) cap),z,A,C,by rw[K];exact .ms _ _ _ _ xg U M,.inr ⟨b,cap,h,by rw[v],upd_same ..,by rw[v];exact X⟩,λc x J O=>?_,λc n k e=>?_⟩
 ·have:c≠b:=λe=>by subst e;exact O _ _ rfl
  refine xK this ?_;exact J
 ·cases e;exact .inr ⟨_,_,rfl⟩
def M0{H:zd}{γ:Gh}{w f:World}{G i:Nat}{xs:List (List UInt8)}{g:List UInt8}{lv:AV}{E:TypeId}{e:Ending}(h:zU γ w H)(hi:i<=xs.length)(C:xs.length+1<=G)(I:G<=maxLen)(J:e=Ending.returned (.slice (some ⟨w.heap.size,0,none⟩) (xs.length+1) G))(K:U9 (λc=>c=w.heap.size) γ w (λc=>if c=w.heap.size then .own else γ c) f)(j:f.heap[w.heap.size]?=some (.cells ((xs.take i++g::xs.drop i).map y8++(List.replicate (G-(xs.length+1)) []).map y8).toArray E (0,0))):Sx H γ w lv (xs.take i++g::xs.drop i) e f:=by
 obtain⟨y,z,A⟩:=zli (newA:=(xs.take i++g::xs.drop i).map AV.str++(List.replicate (G-(xs.length+1)) []).map AV.str) h (λγ w=>(PB γ w _).append (PB γ w _)) K j;have hsz:w.heap.size<f.heap.size:=(TQ.1 j).1;have v:=zaZ xs g hi;refine⟨_,_,.ret (.ms w.heap.size 0 (xs.length+1) G),y,z,A,by rw[J];exact .ms _ _ _ _ hsz C I,.inr ⟨w.heap.size,G,_,by rw[v],upd_same ..,by rw[v,List.length_map,List.length_replicate];omega⟩,λc x p _=>?_,λb n k e=>?_⟩
 ·have:c≠w.heap.size:=λe=>by have:=(h c x p).lt;omega
  refine xK this ?_;exact p
 ·cases e;cases L:H w.heap.size with
  | none=>exact .inl rfl
  | some x=>have:=(h _ x L).lt;omega
section
variable {H:zd} {γ:Gh} {w:World} {vb:Nat} {Ev:TypeId} {nm:B8}
def PV(j:w.heap[vb]?=some (.cells [y8 nm].toArray Ev (0,0))):∀f g,[y8 nm][f]?=some g->w.cell? ⟨vb,0+f,none⟩=some g:=λf g h=>by rw[Nat.zero_add,NH j];simpa using h
def zmV(C:zU γ w H)(G:w.heap[vb]?=some (.cells [y8 nm].toArray Ev (0,0))):
  Calls Tryz.prog 388 #[.slice none 0 0,.int .i64 0,.slice (some ⟨vb,0,none⟩) 1 1] w λe p=>Sx H γ w (.sl .nil 1 []) [nm] e p:=by
 have f:=Any2.slices_Insert_string_end_grow Tryz.laysNm222 none 0 0 vb 0 1 1 [] [y8 nm] w xg xg xg xg rfl rfl (λ_=>rfl) (λa f=>by cases f) (PV G) (Sr [nm]);refine Calls.mono f λe w' ⟨A,g⟩=>?_;have y:=grownCap_ge w (0+1) 0 (Tryz.laysNm222_ren.t 9);have z:=grownCap_le_maxLen w (0+1) 0 (Tryz.laysNm222_ren.t 9) (by simp only[maxLen];omega);generalize grownCap w (0+1) 0 (Tryz.laysNm222_ren.t 9)=j at *
 rw[Ph]at g;have h:w'=w.drew.alloc (.cells (([]:List (List UInt8)).take 0++nm::([]:List (List UInt8)).drop 0 |>.map y8 |>.append ((List.replicate (j-(0+1)) []).map y8)).toArray (Tryz.laysNm222_ren.t 9)):=by rw[g,List.append_toArray,List.map_replicate];rfl
 refine M0 (xs:=[]) (i:=0) (E:=Tryz.laysNm222_ren.t 9) C (ZG _) y z A ?_ (by rw[h];exact heap_alloc_new w.drew _);rw[h];exact(Wh (λc=>c=w.heap.size) γ w).trans (X5 (λc=>c=w.heap.size) γ w.drew .own _ _) (λ_ _ v=>v)
variable {b cap i:Nat} {xs:B9} {E:TypeId} {spv:List Value}
def zdl(j:w.heap[b]?=some (.cells (xs.map y8++spv).toArray E (0,0))):∀f g,(xs.map y8)[f]?=some g->w.cell? ⟨b,0+f,none⟩=some g:=λf g h=>by rw[Nat.zero_add,NH j,List.getElem?_toArray,SA (Vj.1 h).1];exact h
def zbj(g:w.heap[b]?=some (.cells (xs.map y8++spv).toArray E (0,0)))(h:(xs.map y8++spv).length=cap):∀f,f<cap->(w.cell? ⟨b,0+f,none⟩).isSome=true:=λf j=>by rw[Nat.zero_add,NH g,List.getElem?_toArray,Qh xg];rfl
def zgU{a0:AV}{A:List AV}{j:Value}{f:List Value}(af:zU γ w H)(p:w.heap[vb]?=some (.cells [y8 nm].toArray Ev (0,0)))(X:H b=some (.cells (xs.map AV.str++a0::A)))(g:w.heap[b]?=some (.cells (xs.map y8++j::f).toArray E (0,0)))(ad:γ b=.own)(I:zN γ w A f)(ab:i<xs.length)(G:cap<=maxLen)(ag:xs.length+1+A.length=cap)(Z:b≠vb):
  Calls Tryz.prog 388 #[.slice (some ⟨b,0,none⟩) xs.length cap,.int .i64 i,.slice (some ⟨vb,0,none⟩) 1 1] w λe K=>Sx H γ w (.ms b 0 xs.length cap) (xs.take i++nm::xs.drop i) e K:=by
 have ai:=I.1;have y:(xs.map y8++j::f).length=cap:=by simp only[ZX,List.length_map,yg];omega
 have ae:b<w.heap.size:=(TQ.1 g).1;have h:(xs.map y8).length=xs.length:=List.length_map ..;have ac:=zbj g y;have W:=Any2.slices_Insert_string_shift Tryz.laysNm222 b 0 xs.length cap i vb 0 1 1 (xs.map y8) [y8 nm] w ab xg xg G (Ne.symm Z) h rfl (zdl g) (λJ ah=>ac J xg) (λJ _=>R6 g) (PV p) (Sr xs) (Sr [nm]) Ev E 1 cap (by simp only[World.shape?,p];rfl) (by simp only[World.shape?,g,List.size_toArray,y]) xg (R6 p) (R6 p);refine Calls.mono W λe w' ⟨aa,z⟩=>zbq af X g ad I xg xg G ag ae aa (.inr ?_);have C:w.drew.heap[b]?=some (.cells (xs.map y8++j::f).toArray E (0,0)):=g;have v:((xs.map y8).drop i).length=xs.length-i:=by rw[T1,h]
 have M:(xs.map y8++j::f).drop (i+1+((xs.map y8).drop i).length)=f:=by rw[v,show i+1+(xs.length-i)=(xs.map y8).length+1 by omega,<-List.drop_drop,List.drop_left];rfl
 have L:(xs.map y8++j::f).take (i+1)=(xs.map y8).take (i+1):=List.take_append_of_le_length xg;rw[Nat.zero_add,Nat.zero_add,Wr b E _ _ _ _ C (by rw[v,y];omega),L,M]at z;have Y:=setRow_heap w.drew b _ ((xs.map y8).take (i+1)++(xs.map y8).drop i++f).toArray E _ C;have O:((xs.map y8).take (i+1)++(xs.map y8).drop i++f).take i=(xs.map y8).take i:=by rw[Uh,List.take_append_of_le_length (by rw[List.length_take,h];omega),List.take_take,Nat.min_eq_left xg]
 have U:((xs.map y8).take (i+1)++(xs.map y8).drop i++f).drop (i+[y8 nm].length)=(xs.map y8).drop i++f:=by rw[Uh,List.drop_left' (by rw[List.length_take,h,List.length_singleton];omega)]
 rw[Wr b E _ _ _ _ Y (by simp only[ZX,List.length_take,v,h,List.length_singleton];omega),setRow_setRow,O,U]at z;rw[z]
 congr 2
 rw[List.map_append,List.map_cons,List.map_take,List.map_drop];simp only[Uh,List.singleton_append,L7,TB]
def zaU{a0:AV}{p:List AV}{j:Value}{f:List Value}(W:zU γ w H)(Y:w.heap[vb]?=some (.cells [y8 nm].toArray Ev (0,0)))(K:H b=some (.cells (xs.map AV.str++a0::p)))(g:w.heap[b]?=some (.cells (xs.map y8++j::f).toArray E (0,0)))(O:γ b=.own)(z:zN γ w p f)(y:cap<=maxLen)(X:xs.length+1+p.length=cap):
  Calls Tryz.prog 388 #[.slice (some ⟨b,0,none⟩) xs.length cap,.int .i64 xs.length,.slice (some ⟨vb,0,none⟩) 1 1] w λe C=>Sx H γ w (.ms b 0 xs.length cap) (xs.take xs.length++nm::xs.drop xs.length) e C:=by
 have ab:=z.1;have v:(xs.map y8++j::f).length=cap:=by simp only[ZX,List.length_map,yg];omega
 have U:b<w.heap.size:=(TQ.1 g).1;have Z:(xs.map y8).length=xs.length:=List.length_map ..;have M:=zbj g v;have J:=Any2.slices_Insert_string_end_room Tryz.laysNm222 b 0 xs.length cap vb 0 1 1 [y8 nm] w xg xg y rfl (λh aa=>by have:=M (xs.length+h) xg;rwa [show 0+(xs.length+h)=0+xs.length+h by omega]at this) (λh _=>R6 g) (PV Y) (Sr [nm]);refine Calls.mono J λe w' ⟨L,A⟩=>zbq W K g O z (ZG _) xg y X U L (.inl ?_);have G:(xs.map y8++j::f).take xs.length=xs.map y8:=List.take_left' Z;have I:(xs.map y8++j::f).drop (xs.length+[y8 nm].length)=f:=by rw[List.length_singleton,show xs.length+1=(xs.map y8).length+1 by omega,<-List.drop_drop,List.drop_left];rfl
 rw[Nat.zero_add,Wr b E _ _ _ _ g (by rw[v,List.length_singleton];omega),G,I]at A;rw[A,List.take_length,List.drop_length]
 congr 2
 simp only[List.map_append,List.map_cons,List.map_nil]
def zaB(K:zU γ w H)(L:w.heap[vb]?=some (.cells [y8 nm].toArray Ev (0,0)))(C:w.heap[b]?=some (.cells (xs.map y8++spv).toArray E (0,0)))(G:xs.length<=cap)(W:cap=xs.length)(hlen:xs.length<=1099511627776):
  Calls Tryz.prog 388 #[.slice (some ⟨b,0,none⟩) xs.length cap,.int .i64 xs.length,.slice (some ⟨vb,0,none⟩) 1 1] w λe p=>Sx H γ w (.ms b 0 xs.length cap) (xs.take xs.length++nm::xs.drop xs.length) e p:=by
 have M:(xs.map y8).length=xs.length:=List.length_map ..;have y:=grownCap_ge w (xs.length+1) cap (Tryz.laysNm222_ren.t 9);have z:=grownCap_le_maxLen w (xs.length+1) cap (Tryz.laysNm222_ren.t 9) (by simp only[maxLen];omega);have f:=Any2.slices_Insert_string_end_grow Tryz.laysNm222 (some ⟨b,0,none⟩) xs.length cap vb 0 1 1 (xs.map y8) [y8 nm] w xg G xg xg M rfl (λf=>by cases f) (λa A O U J=>by cases A;rw[Lib.addr_add];exact zdl C O U J) (PV L) (Sr [nm]);generalize grownCap w (xs.length+1) cap (Tryz.laysNm222_ren.t 9)=j at *
 refine Calls.mono f λe w' ⟨I,g⟩=>?_;rw[Ph,List.append_toArray]at g;have h:w'=w.drew.alloc (.cells ((xs.take xs.length++nm::xs.drop xs.length).map y8++(List.replicate (j-(xs.length+1)) []).map y8).toArray (Tryz.laysNm222_ren.t 9)):=by rw[g,List.take_length,List.drop_length,List.map_replicate,List.map_append,List.map_cons,List.map_nil]
 refine M0 (E:=Tryz.laysNm222_ren.t 9) K (ZG _) y z I ?_ (by rw[h];exact heap_alloc_new w.drew _);rw[h];exact(Wh (λc=>c=w.heap.size) γ w).trans (X5 (λc=>c=w.heap.size) γ w.drew .own _ _) (λ_ _ v=>v)
def zen{w v:World}{N:Nat}{E:TypeId}{γ:Gh}{f vs us C:List Value}{i j:Nat}(W:N=w.heap.size)(G:v=(((w.alloc (.cells f.toArray E)).drew.setCells N i vs).drew).setCells N j us)(L:i+vs.length<=f.length)(aa:j+us.length<=f.length)(I:(f.take i++vs++f.drop (i+vs.length)).take j++us++(f.take i++vs++f.drop (i+vs.length)).drop (j+us.length)=C):
  U9 (λc=>c=w.heap.size) γ w (λc=>if c=w.heap.size then .own else γ c) v/\v.heap[w.heap.size]?=some (.cells C.toArray E (0,0)):=by
 subst W;have y:(w.alloc (.cells f.toArray E)).drew.heap[w.heap.size]?=some (.cells f.toArray E (0,0)):=heap_alloc_new w _;have Y:U9 (λc=>c=w.heap.size) γ w (λc=>if c=w.heap.size then .own else γ c) (w.alloc (.cells f.toArray E)).drew:=(X5 (λc=>c=w.heap.size) γ w .own f.toArray E).trans (Wh (λc=>c=w.heap.size) _ _) (λ_ _ g=>g);rw[Wr w.heap.size E _ _ f _ y L]at G;generalize M:f.take i++vs++f.drop (i+vs.length)=B at *
 have O:B.length=f.length:=by rw[<-M];simp only[ZX,List.length_take,T1];omega
 generalize ab:(w.alloc (.cells f.toArray E)).drew=p at *
 have X:=setRow_heap p w.heap.size f.toArray B.toArray E (0,0) y;have Z:U9 (λc=>c=w.heap.size) (λc=>if c=w.heap.size then .own else γ c) p (λc=>if c=w.heap.size then .own else γ c) (p.setRow w.heap.size B.toArray) :=WY (F:=λc=>c=w.heap.size) y (xy O) rfl (λq A=>by simp[V0]at A) (λ_ _=>rfl);generalize p.setRow w.heap.size B.toArray=h at *
 have z:h.drew.heap[w.heap.size]?=some (.cells B.toArray E (0,0)):=X;rw[Wr w.heap.size E _ _ B _ z xg,I]at G;have J:=setRow_heap h.drew w.heap.size B.toArray C.toArray E (0,0) z;have U:C.length=B.length:=by rw[<-I];simp only[ZX,List.length_take,T1];omega
 have K:U9 (λc=>c=w.heap.size) (λc=>if c=w.heap.size then .own else γ c) h.drew (λc=>if c=w.heap.size then .own else γ c) (h.drew.setRow w.heap.size C.toArray) :=WY (F:=λc=>c=w.heap.size) z (xy U) rfl (λq A=>by simp[V0]at A) (λ_ _=>rfl);rw[<-G]at J K;exact⟨((Y.trans Z (λ_ _ g=>g)).trans (Wh (λc=>c=w.heap.size) _ h) (λ_ _ g=>g)).trans K (λ_ _ g=>g),J⟩
def zky(O:zU γ w H)(U:w.heap[vb]?=some (.cells [y8 nm].toArray Ev (0,0)))(J:w.heap[b]?=some (.cells (xs.map y8++spv).toArray E (0,0)))(K:xs.length<=cap)(Z:cap=xs.length)(M:i<xs.length)(hlen:xs.length<=1099511627776):
  Calls Tryz.prog 388 #[.slice (some ⟨b,0,none⟩) xs.length cap,.int .i64 i,.slice (some ⟨vb,0,none⟩) 1 1] w λe v=>Sx H γ w (.ms b 0 xs.length cap) (xs.take i++nm::xs.drop i) e v:=by
 have h:(xs.map y8).length=xs.length:=List.length_map ..;have G:=grownCap_ge w (xs.length+1) cap (Tryz.laysNm222_ren.t 9);have I:=grownCap_le_maxLen w (xs.length+1) cap (Tryz.laysNm222_ren.t 9) (by simp only[maxLen];omega);have A:=Any2.slices_Insert_string_grow Tryz.laysNm222 b 0 xs.length cap i vb 0 1 1 (xs.map y8) [y8 nm] w M xg K xg xg h rfl (zdl J) (PV U) (Sr xs) (Sr [nm]);generalize grownCap w (xs.length+1) cap (Tryz.laysNm222_ren.t 9)=g at *
 refine Calls.mono A λe w' ⟨L,p⟩=>?_;rw[Ph,Ph,List.append_toArray,List.append_toArray]at p;have f:((xs.map y8).take i).length=i:=by rw[List.length_take,h];omega
 have j:((xs.map y8).drop i).length=xs.length-i:=by rw[T1,h]
 obtain⟨y,z⟩:=zen (γ:=γ) (C:=(xs.take i++nm::xs.drop i).map y8++(List.replicate (g-(xs.length+1)) []).map y8) rfl p (by simp only[ZX,f,List.length_replicate,List.length_singleton];omega) (by simp only[ZX,f,j,List.length_replicate];omega) (by
  have W:((xs.map y8).take i++List.replicate (xs.length+1-i) (y8 [])++List.replicate (g-(xs.length+1)) (y8 [])).take i=(xs.map y8).take i:=by rw[Uh,List.take_left' f]
  rw[W];have X:((xs.map y8).take i++[y8 nm]++((xs.map y8).take i++List.replicate (xs.length+1-i) (y8 [])++List.replicate (g-(xs.length+1)) (y8 [])).drop (i+[y8 nm].length)).take (i+1)=(xs.map y8).take i++[y8 nm]:=List.take_left' (by rw[ZX,f];rfl);rw[X];have Y:((xs.map y8).take i++[y8 nm]++((xs.map y8).take i++List.replicate (xs.length+1-i) (y8 [])++List.replicate (g-(xs.length+1)) (y8 [])).drop (i+[y8 nm].length)).drop (i+1+((xs.map y8).drop i).length)=List.replicate (g-(xs.length+1)) (y8 []):=by rw[<-List.drop_drop,List.drop_left' (by rw[ZX,f];rfl),List.drop_drop,List.drop_left' (by simp only[ZX,f,j,List.length_replicate,List.length_singleton];omega)]
  rw[Y,List.map_append,List.map_cons,List.map_take,List.map_drop,List.map_replicate];simp only[Uh,List.singleton_append,L7,TB])
 exact M0 (E:=Tryz.laysNm222_ren.t 9) O xg G I L y z
end
def zsT(H:zd)(lv:AV)(xs:List (List UInt8))(i:Nat)(z:List UInt8)(vb:Nat)(ad:OR H lv xs)(hi:i<=xs.length)(ai:H vb=some (.cells [.str z]))(af:∀b n c,lv=.ms b 0 n c->b≠vb)(hlen:xs.length<=1099511627776):
  zZ 388 [lv,.int .i64 i,.ms vb 0 1 1] H (λe H'=>match e with|.ret h=>Wt H lv H' h (xs.take i++z::xs.drop i)|.pan _=>False):=by
 intro γ w vs ay g J;obtain⟨ae,I⟩:=J
 match vs,ae with
 | [v0,v1,v2],_ =>
  have O:=I 0 _ _ rfl rfl;cases I 1 _ _ rfl rfl;cases I 2 _ _ rfl rfl;have ak:=g vb _ ai;cases ak with
  | cells _ U Ev av p aj ah al =>
  obtain⟨ap,X,am⟩:=PN (xs:=[z]) (sp:=[]) (γ:=γ) (w:=w) (vs:=U) ⟨by simpa using aj,ah,λi c h f J=>al i c h (xy f) J⟩;obtain rfl:ap=[]:=List.eq_nil_of_length_eq_zero (by simpa using am.1.symm);obtain rfl:U=[y8 z]:=xy X
  rcases ad with ⟨rfl,rfl⟩|⟨b,cap,sp,rfl,A,ag⟩
  ·obtain rfl:i=0:=xy hi
   have W:v0=.slice none 0 0:=by
    cases O with
    | slnil _ _ ho=>rfl
    | sl0 _ _ a ho=>rcases ho with j|j<;>cases j
    | sl _ _ _ b a0 cap cv f G az au ax ho=>exact False.elim ho
   subst W;exact zmV g p
  ·have aa:=g b _ A;cases aa with
   | cells _ ar E K v Z Y ab =>
   have ac:b≠vb:=af _ _ _ rfl;obtain⟨spv,rfl,y⟩:=PN (xs:=xs) (sp:=sp) (γ:=γ) (w:=w) ⟨Z,Y,ab⟩;have M:=y.1;cases O with
   | ms _ _ _ _ aw f G =>
   cases spv with
   | nil =>
    rw[yy]at M;by_cases C:i<xs.length
    ·exact zky g p v f xg C hlen
    ·obtain rfl:i=xs.length:=xg
     exact zaB g p v f xg hlen
   | cons a1 ao =>
    cases sp with
    | nil=>rw[yy,yg]at M;omega
    | cons aq an =>
     have L:zN γ w an ao:=⟨by simpa using y.1,λi h j=>y.2.1 (i+1) h (xy j),λi c h f j=>y.2.2 (i+1) c h (xy f) (xy j)⟩;rw[yg]at ag;by_cases C:i<xs.length
     ·exact zgU g p A v K L C G xg ac
     ·obtain rfl:i=xs.length:=xg
      exact zaU g p A v K L G xg
end Go.Proofs.YtcbfcliickppiaaGreatDoor
namespace Go.Proofs.YtcbfcliickppiaaGreatDoor
open Go.Ab
def K8:∀f:B9,(cT f).flatten=f.map AV.str
 | []=>rfl
 | x::r=>by have:=K8 r;simp only[cT,List.map_cons,List.flatten_cons]at this ⊢;rw[this];rfl
def OR.freeze{γ:Gh}{w:World}{H:zd}{lv:AV}{xs:List (List UInt8)}{v:Value}(j:zU γ w H)(h:OR H lv xs)(C:Rep γ w lv v):
  ∃γ' H',(∀c,γ' c=γ c∨(γ' c=.imm/\γ c=.own/\∃n k,lv=.ms c 0 n k))/\zU γ' w H'/\(∀c x,H c=some x->(∀n k,lv≠.ms c 0 n k)->H' c=some x)/\(∀c x,H' c=some x->H c=some x)/\Rep γ' w (.sl .no 1 (cT xs)) v:=by
 rcases h with ⟨rfl,rfl⟩|⟨b,cap,sp,rfl,J,aa⟩
 ·exact⟨γ,H,λc=>.inl rfl,j,λc x f _=>f,λc x f=>f,C.strip1⟩
 ·cases j b _ J with
  | cells _ ac E L K M W X =>
  cases C with
  | ms _ _ _ _ Z f O =>
  have m:Rf γ w (λc=>if c=b then .imm else γ c) w:=⟨ZG _,λc q u Y A=>⟨by by_cases e:c=b<;>simp[V0,e]at A ⊢;exact A,Y⟩,λc arr E fr f=>⟨arr,f,rfl⟩⟩;obtain⟨spv,rfl,ab⟩:=PN (xs:=xs) (sp:=sp) (γ:=γ) (w:=w) ⟨M,W,X⟩;refine⟨λc=>if c=b then .imm else γ c,H.del b,λc=>?_,λc x f=>?_,λc x f U=>?_,λc x f=>?_,?_⟩
  ·by_cases e:c=b
   ·subst e;exact .inr ⟨by simp,L,_,_,rfl⟩
   ·exact .inl (xr e)
  ·unfold zd.del at f;split at f
   ·cases f
   ·rename_i e;exact(j c x f).kept m (xr e) rfl
  ·have:c≠b:=λe=>by subst e;exact U _ _ rfl
   simp only[zd.del,this,if_false];exact f
  ·unfold zd.del at f;split at f
   ·cases f
   ·exact f
  ·have y:=K8 xs;have z:=PB (λc=>if c=b then .imm else γ c) w xs;have I:Rep (λc=>if c=b then .imm else γ c) w (.sl .no 1 (cT xs)) (.slice (some ⟨b,0,none⟩) (cT xs).length cap):=by
    refine Rep.sl_flat (us:=xs.map y8) (λx G=>?_) (xv y) (λp u g=>?_) (λp c u f g=>?_) (wZ f) O trivial
    ·rw[cT]at G;obtain⟨ad,_,rfl⟩:=List.mem_map.1 G;rfl
    ·refine⟨?_,by simp[V0],z.2.1 p u g⟩;rw[Nat.zero_add,NH K,List.getElem?_toArray,SA (Vj.1 g).1];exact g
    ·rw[y]at f;exact z.2.2 p c u f g
   rw[zn]at I;exact I
def zY.frozenE{P:Program}{f:FuncId}{args:List AV}{H:zd}{R:B9->Prop}(h:zY P f args H (λe H'=>match e with|.ret v=>∃y,R y/\Wt H (.sl .nil 1 []) H' v y|.pan _=>False)):
  zY P f args H (λe H'=>match e with|.ret v=>∃y,R y/\v=.o 1 (cT y)/\∀c x,H c=some x->H' c=some x|.pan _=>False):=by
 intro γ w aj ah O ai;refine(h γ w aj ah O ai).mono λe w' ⟨γ',H',r,z,ag,L,G,A⟩=>?_;cases r with
 | pan v=>exact A.elim
 | ret lv =>
  obtain⟨y,aa,A⟩:=A;cases e with
  | panicked ak=>exact G.elim
  | outgrown=>exact G.elim
  | returned v =>
   have ae:Rep γ' w' lv v:=G;obtain⟨I,J,K,W,X,Y,Z⟩:=A.own.freeze ag ae;have M:∀c n k,lv=.ms c 0 n k->w.heap.size<=c:=λc n k e=>by
    rcases A.new c n k e with g|⟨al,k0,g⟩
    ·rcases A.own with ⟨p,_⟩|⟨b,cap,am,p,ab,_⟩
     ·rw[p]at e;cases e
     ·rw[p]at e;cases e;rcases L _ (wa ab) with h3|h3
      ·rw[g]at h3;cases h3
      ·exact h3
    ·cases g
   have af:∀c,c<w.heap.size->I c=γ' c:=λc j=>by
    rcases K c with g|⟨_,_,n,k,g⟩
    ·exact g
    ·have:=M c n k g;omega
   have ad:∀c o,V0 γ' c o->V0 I c o:=λc o C=>by
    rcases K c with g|⟨g,p,_⟩
    ·simpa[V0,g]using C
    ·simp[V0,p]at C
   refine⟨I,J,.ret (.o 1 (cT y)),⟨⟨z.mono.size,λc o v j C=>?_,z.mono.shape⟩,z.os,z.output,z.frozen,λc j ac=>?_⟩,W,λc j=>?_,Z,y,aa,rfl,λc x j=>?_⟩
   ·obtain⟨g,p⟩:=z.mono.cell c o v j C;exact⟨ad c o g,p⟩
   ·obtain⟨g,p⟩:=z.frame c j ac;exact⟨(af c j).trans g,p⟩
   ·cases U:J c with
    | none=>rw[U]at j;cases j
    | some x=>exact L c (by rw[Y c x U];rfl)
   ·exact X c x (A.kept c x j λn k e=>by cases e) λn k e=>by have:=M c n k e;have:=(O c x j).lt;omega
def zY.frozen{P:Program}{f:FuncId}{args:List AV}{H:zd}{xs:B9}(h:zY P f args H (λe H'=>match e with|.ret g=>Wt H (.sl .nil 1 []) H' g xs|.pan _=>False)):
  zY P f args H (λe H'=>match e with|.ret g=>g=.o 1 (cT xs)/\∀c x,H c=some x->H' c=some x|.pan _=>False) :=
 (zY.frozenE (R:=λp=>p=xs) (h.mono λr H' j=>by cases r with|ret g=>exact⟨xs,rfl,j⟩|pan g=>exact j)).mono λr H' j=>by
  cases r with
  | ret g=>obtain⟨p,rfl,v⟩:=j;exact v
  | pan g=>exact j
def OR.ne{H:zd}{lv:AV}{xs:B9}{b:Nat}(h:OR H lv xs)(g:H b=none):∀n k,lv≠.ms b 0 n k:=λn k e=>by
 rcases h with ⟨h,_⟩|⟨b0,cap,j,h,f,_⟩
 ·rw[h]at e;cases e
 ·rw[h]at e;cases e;rw[g]at f;cases f
def OR.upd{H:zd}{lv:AV}{xs:B9}{b:Nat}{x:Yr}(h:OR H lv xs)(f:H b=none):OR (H.upd b x) lv xs:=((Wt.refl h).upd f).own
def Tm(f:B8):B9->Nat->Option Nat
 | [],k=>some k
 | s::r,k=>if Op.bytesLess s f=true then Tm f r (k+1)else if s=f then none else some k
def La(f:B8):∀(l:B9) (k j:Nat),Tm f l k=some j->j<=k+l.length
 | [],k,j,h=>by simp only[Tm,Y1]at h;simp;omega
 | s::r,k,j,h=>by
  simp only[Tm]at h;split at h
  ·have:=La f r _ _ h;simp only[yg];omega
  ·split at h
   ·cases h
   ·simp only[Y1]at h;omega
def QJ(l:B9)(f:B8):B9:=match Tm f l 0 with|none=>l|some k=>l.take k++f::l.drop k
def zcC(l:B9)(f:B8):(QJ l f).length<=l.length+1:=by
 unfold QJ;split
 ·omega
 ·rename_i k g;have:=La f l 0 k g;rw[zaZ l f xg];omega
abbrev zdJ(H:zd)(lv:AV)(xs':B9):Tf->zd->Prop:=λe H'=>match e with|.ret v=>Wt H lv H' v xs'|.pan _=>False
def UE{P:Program}{KP:AV->zd->Prop}{Q:ZV->Env->zd->Prop}{g:List Fr}{ρ:Env}{H:zd}{all l:List yo}{d:Option Nat}{R:List VQ}{f:FuncId}{args:List AV}{lv:AV}{xs:B9}(h:zY P f args H (zdJ H lv xs))(p:∀j H',Wt H lv H' j xs->Qe P KP Q all l g R (ρ.set d j) H'):goK P KP Q all l g d R ρ f args H :=
 ZT (XP:=λ_ _=>False) h p (λ_ _ h=>h.elim)
def zlu(H:zd)(lv:AV)(l:B9)(f:B8)(L:OR H lv l)(hlen:l.length<=1099511627776):zZ 373 [lv,.str f] H (zdJ H lv (QJ l f)):=by
 have ac:QJ l f=match Tm f l 0 with|none=>l|some k=>l.take k++f::l.drop k:=rfl
 have ak:=La f l 0;have W:=λ(k:Nat) (b:Nat) (A:k<=l.length) (p:H b=none)=>zsT (H.upd b (.cells [.str f])) lv l k f b (L.upd p) A (upd_same ..) (λaj n c e ad=>L.ne p n c (by rw[<-ad];exact e)) hlen;have U:∀b k h g,H b=none->Tm f l 0=some k->Wt (H.upd b (.cells [.str f])) lv g h (l.take k++f::l.drop k)->Wt H lv g h (QJ l f):=λb k h g p A ae=>by rw[ac,A];exact((Wt.refl L).upd p).trans ae
 unfold zdJ;rcases L with ⟨rfl,rfl⟩|⟨b,cap,ab,rfl,p,ah⟩
 ·refine Xt ir373 λKP Q J ag=>?_;refine xa ?_;refine zc ([]:List Nat) 10 (λ_:Unit=>[(5,.i 0)]) (λ_ _ _ H'=>H'=H) () xb rfl ?_ ?_
  ·rintro _ C O rfl z;refine xc z (zb λv y=>?_);refine xa (UE (W 0 v (ZG _) y) λh g I=>?_);refine xa ?_;exact J _ _ g g [h] nofun rfl (yT.refl _) (U v 0 h g y rfl I)
  ·rintro G x aa _ C O Y z _ _ _;simp at Y
 ·refine Xt ir373 λKP Q J ag=>?_;refine xa ?_;refine zc l 10 (λk:Nat=>[(5,.i k)]) (λG aa k H'=>H'=H/\k=G.length/\Tm f aa k=Tm f l 0) 0 xb ⟨rfl,rfl,rfl⟩ ?_ ?_
  ·rintro k C O ⟨rfl,A,j⟩ z;simp only[Tm]at j;refine xc z (zb λv y=>?_);refine xa (UE (W k v xg y) λh g I=>?_);refine xa ?_;exact J _ _ g g [h] nofun rfl (yT.refl _) (U v k h g y j.symm I)
  ·rintro G x aa k C O Y z al ⟨rfl,A,j⟩ af;have Z:((l.map AV.str++ab).drop (0+G.length*1)).take 1=[.str x]:=xv Y
   have X:0+G.length*1+1<=(l.map AV.str++ab).length:=vl
   simp only[Tm]at j;cases K:Op.bytesLess x f with
   | true =>rw[K,if_pos rfl]at j;refine xp z p Z X K ?_;exact zJ (af (k+1) _ ⟨rfl,by simp[A],j⟩) (by refine xB A ?_;simp)
   | false =>
    rw[K,if_neg xw]at j;by_cases M:x=f
    ·have ai:=eq_true M;rw[if_pos M]at j;refine xu z p Z X K ai ?_;refine J _ _ C C [.ms b 0 l.length cap] nofun rfl (yT.refl _) ?_;rw[ac,<-j];exact Wt.refl (.inr ⟨b,cap,ab,rfl,p,ah⟩)
    ·rw[if_neg M]at j;refine xu z p Z X K M (zb λv y=>?_);refine xa (UE (W k v xg y) λh g I=>?_);refine xa ?_;exact J _ _ g g [h] nofun rfl (yT.refl _) (U v k h g y j.symm I)
end Go.Proofs.YtcbfcliickppiaaGreatDoor
