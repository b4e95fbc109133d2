import Derived.Test.YtcbfcliickppiaaGreatDoorM7
set_option maxRecDepth 100000
set_option linter.all false
namespace Go.Proofs.YtcbfcliickppiaaGreatDoor
open Go.Ab
def zdD{x:yU}:∀ {l:List yU},x∈l->bM x<=ZC l
 | y::l,f=>by
  rcases List.mem_cons.1 f with rfl|f
  ·simp only[ZC];omega
  ·have:=zdD f;simp only[ZC];omega
def zkk(s:zg)(f:List z6)(m:yU)(v:zA s<=ze)(A:Wx f<=ze)(h:bM m<=ze):(XF s f m).length<=bM m/\∀z∈XF s f m,z.t.nm.length<=ze:=by
 obtain⟨n,y⟩:=m;simp only[bM]at h;simp only[XF];cases j:zB f n with
 | none=>simp
 | some g =>have p:g∈f:=List.mem_of_find?_eq_some j;have:=spC s g.t g.has y v xg (by have:=YW p;simp only[bW]at this;omega);exact⟨Nat.le_trans this.1 vj,this.2.1⟩
def Od(s:zg)(f:List z6)(l:List yU):List ZK:=l.flatMap (XF s f)
def zag(s:zg)(j:List z6)(l:List yU)(A:zA s<=ze)(z:Wx j<=ze)(C:ZC l<=ze):(Od s j l).length<=ZC l/\∀v∈Od s j l,v.t.nm.length<=ze:=by
 have y:∀x∈l,_:=λx h=>zkk s j x A z (by have:=zdD h;omega);refine⟨?_,λv p=>?_⟩
 ·have:=XL (f:=XF s j) (g:=bM) l λx h=>(y x h).1;rw[<-Vg]at this;exact this
 ·obtain⟨x,h,p⟩:=List.mem_flatMap.1 p;exact(y x h).2 v p
def zap(a b:List yU)(x:yU):ZC (a++x::b)=ZC (a++[x])+ZC b:=by simp only[Vg,List.map_append,List.map_cons,List.map_nil,List.sum_append,List.sum_cons,List.sum_nil];omega
def zoF(s:zg)(f:List z6)(l:List yU)(H:zd)(p:zA s<=ze)(a6:Wx f<=ze)(a1:ZC l<=ze):YR Tryz.prog 346 [.agg (zk s),.o 10 (Yg f),.o 6 (Ya l)] H .nil 5 (Ul (Od s f l)):=by
 have bq:=y5 l;have J:=yI l;have bn:=yr f;have a2:=a1;simp only[ze]at a2;have a5:=λn=>Q2 f n xg;have M:∀n x,yU.mk n x∈l->∀g,zB f n=some g->zcp s g.t g.has x (Oc s g.t g.has x):=λn x a9 g O=>by
  have ba:bV x<=ze:=by have:=X9 a9;omega
  have A:g∈f:=List.mem_of_find?_eq_some O;have a7:g.t.nm.length<=ze:=by have:=YW A;simp only[bW]at this;omega
  exact spC s g.t g.has x p ba a7
 have av:Od s f l=l.flatMap (XF s f):=rfl;have Z:=λa (aw:ZC a<=ze)=>(zag s f a p a6 aw).1;simp only[Od]at Z;generalize Od s f l=F at *
 simp only[zcp]at M;obtain⟨aj,ak,sm⟩:=s;generalize a0:(⟨aj,ak,sm⟩:zg)=s at *
 have a4:zk s=[.o 6 (Vd aj),.str ak,.str sm]:=xM a0
 simp only[a4]at M ⊢;refine Xt ir346 λKP Q az bp=>?_;have fin:∀r o,F=r->∀ρ h,zx ρ h ir346.1.res=some [.sl o 5 (Ul r)]->zQ H .nil h o r.length 5->Q .ret ρ h:=λr o e ρ h ax ay=>az _ ρ h h _ nofun ax (yT.refl _) ⟨o,by rw[e];rfl,by rw[e,zO];exact ay⟩;refine xc J ?_;refine zc l 14 (λx:Own×List ZK=>[(7,.sl x.1 5 (Ul x.2))]) (λv ai x H'=>x.2=v.flatMap (XF s f)/\zQ H .nil H' x.1 x.2.length 5) (.nil,[]) wo ⟨rfl,zQ.refl (o:=.nil) (n:=0) rfl⟩ ?_ ?_
 ·rintro⟨o1,a⟩ h ar ⟨z,p⟩ L;simp only at z;subst z;refine xd J L ?_;exact fin _ o1 av _ _ rfl p
 ·rintro v x ai ⟨o1,a⟩ h ar K L _ ⟨z,p⟩ X;have Y:=yZ K;have bc:x∈l:=xv K
  simp only at z;replace p:zQ H .nil h o1 a.length 5:=p;have j:(v++[x]).flatMap (XF s f)=a++XF s f x:=wQ z
  have y:a.length+(XF s f x).length<=ZC l:=by have e:=zap v ai x;rw[<-K]at e;have:=Z (v++[x]) xg;rw[j,ZX]at this;omega
  obtain⟨I,⟨al,ao,ap,am,an⟩⟩:=x;have O:=a5 I;have G:=M I _ bc;rw[zy,zC]at Y;simp only[XF]at y j;refine xe J L Y (zb λau a3=>?_);have ac:=p.upd (x:=.cells [.str I,.i al,.i ao,.str ap,.o 5 (PE am),.o 6 (Ya an)]) a3;refine xh O ?_;cases A:zB f I with
  | none =>rw[A]at y j;refine x2 (zb λW C=>?_);have U:=ac.upd (x:=.cells [.str [],.str [],.int .i64 0,.int .i64 0,.bool false,.int .i64 0,.int .i64 0,.str [],.sl .no 5 (PE []),.sl .no 6 (Ya [])]) C;refine xa ?_;exact zJ (X (o1,a) _ ⟨by rw[j];simp,U⟩) xf
  | some g =>
   rw[A]at y j;simp only at y j;replace G:=G g A;obtain⟨bd,⟨ae,af,ag⟩,ah,⟨be,bh,bj,bf,bg⟩⟩:=g;simp only at G y j;refine x6 (zb λW C=>?_);have U:=ac.upd (x:=.cells [.str bd,.str ae,.i af,.i ag,.bool ah,.i be,.i bh,.str bj,.o 5 (PE bf),.o 6 (Ya bg)]) C;have aa:au≠W:=λe=>by subst e;simp[zd.upd]at C
   refine xd aa (Ne.symm aa) (zu (G.2.2 _) λo2 bl a8=>?_);have ad:=Z3 U a8;refine xa (zp (by rw[zO];exact ad.own) ?_ ?_ λo' aq ab=>?_)
   ·simp only[zO];omega
   ·simp only[zO,maxLen];omega
   simp only[zO]at ab;refine wh ?_;exact zJ (X (o',a++Oc s ⟨ae,af,ag⟩ ah (.mk al ao ap am an)) aq ⟨j.symm,by rw[ZX];exact ad.trans ab⟩) xf
def Um(s:zg)(d:yv):List ZK:=Od s (yc d) d.args
def Qq(s:zg)(typ:B8)(k:Int)(f:B8)(args:List yU):List ZK:=if k=0 then Od s ((zG s typ f).getD zF).ps args else []
mutual
def usS(s:zg):zj->B8->List ZK| .mk k al nm args dirs on sels,typ=>Qq s typ k nm args++dirs.flatMap (Um s)++Wp s sels (zz s typ (.mk k al nm args dirs on sels))
def Wp(s:zg):List zj->B8->List ZK
 | [],_=>[]
 | x::r,typ=>usS s x typ++Wp s r typ
end
def zcQ(s:zg)(typ:B8):∀a b:List zj,Wp s (a++b) typ=Wp s a typ++Wp s b typ
 | [],b=>by simp[Wp]
 | x::a,b=>by rw[L7,Wp,Wp,zcQ s typ a b,Uh]
def zca(s:zg)(typ:B8)(k:Int)(f:B8)(args:List yU)(h:zA s<=ze)(g:ZC args<=ze):(Qq s typ k f args).length<=ZC args/\∀j∈Qq s typ k f args,j.t.nm.length<=ze:=by
 unfold Qq;split
 ·exact zag s _ args h (by have:=VC s typ f;omega) g
 ·simp
def Lq(s:zg)(h:zA s<=ze):∀l:List yv,We l<=ze->(l.flatMap (Um s)).length<=We l/\∀g∈l.flatMap (Um s),g.t.nm.length<=ze
 | [],_=>by simp
 | x::r,f=>by
  have e:We (x::r)=bD x+We r:=vh
  have y:bD x=1+x.nm.length+ZC x.args:=rfl;have j:=zag s (yc x) x.args h (by have:=SF x;refine xl ?_;omega) xg;have p:=Lq s h r xg;rw[List.flatMap_cons];refine⟨by rw[ZX];simp only[Um];omega,λg v=>?_⟩;rcases List.mem_append.1 v with f|f
  ·exact j.2 g f
  ·exact p.2 g f
mutual
def zpi(s:zg)(h:zA s<=ze):∀(x:zj) (typ:B8),bS x<=ze->(usS s x typ).length<=bS x/\∀g∈usS s x typ,g.t.nm.length<=ze
 | .mk k al nm args dirs on sels,typ,hb=>by
  simp only[bS]at hb ⊢;have j:=zca s typ k nm args h xg;have p:=Lq s h dirs xg;have v:=R8 s h sels (zz s typ (.mk k al nm args dirs on sels)) xg;simp only[usS];refine⟨by simp only[ZX];omega,λg y=>?_⟩;rcases List.mem_append.1 y with f|f
  ·rcases List.mem_append.1 f with f|f
   ·exact j.2 g f
   ·exact p.2 g f
  ·exact v.2 g f
def R8(s:zg)(h:zA s<=ze):∀(l:List zj) (typ:B8),yR l<=ze->(Wp s l typ).length<=yR l/\∀f∈Wp s l typ,f.t.nm.length<=ze
 | [],typ,_=>by simp[Wp]
 | x::r,typ,hb=>by
  simp only[yR]at hb ⊢;have j:=zpi s h x typ xg;have p:=R8 s h r typ xg;simp only[Wp];refine⟨by rw[ZX];omega,λf v=>?_⟩;rcases List.mem_append.1 v with g|g
  ·exact j.2 f g
  ·exact p.2 f g
end
def zpC(s:zg)(y:zA s<=ze):∀c:Nat,∀(l:List zj) (typ:B8) (H:zd),yR l<=c->c<=ze->YR Tryz.prog 299 [.agg (zk s),.str typ,.o 7 (Zp l)] H .nil 5 (Ul (Wp s l typ)):=by
 intro c;induction c using Nat.strongRecOn with
 | _ c br =>
 intro l typ H dd cx;have aw:=Z7 l;have dh:=YL l;have cy:=cx;simp only[ze]at cy;have be:=λf=>OH s typ f y;have c3:=λf=>VC s typ f;have bp:=λx=>NK s typ x y;have am:=λbu l H aj ak=>zoF s bu l H y aj ak;have b8:Wp s l typ=Wp s l typ:=rfl;have cu:=zcQ s typ;have bl:=R8 s y;have c2:=λk f g=>zca s typ k f g y;have bd:=Lq s y;have cn:∀x,Wp s [x] typ=usS s x typ:=λx=>by simp[Wp]
 have co:∀k A f g h I j,usS s (.mk k A f g h I j) typ=Qq s typ k f g++h.flatMap (Um s)++Wp s j (zz s typ (.mk k A f g h I j)):=λk A f g h I j=>by simp only[usS]
 have dj:zA s<=1099511627776:=y;generalize cg:Wp s l typ=F at b8 ⊢;obtain⟨bv,bw,sm⟩:=s;generalize cm:(⟨bv,bw,sm⟩:zg)=s at *
 have cz:zk s=[.o 6 (Vd bv),.str bw,.str sm]:=xM cm
 simp only[cz]at be bp am br ⊢;refine Xt ir299 λKP Q cj dc=>?_;have fin:∀r o,F=r->∀ρ J,zx ρ J ir299.1.res=some [.sl o 5 (Ul r)]->zQ H .nil J o r.length 5->Q .ret ρ J:=λr o e ρ J aj ak=>cj _ ρ J J _ nofun aj (yT.refl _) ⟨o,by rw[e];rfl,by rw[e,zO];exact ak⟩;refine xc aw ?_;refine zc l 16 (λx:Own×List ZK=>[(7,.sl x.1 5 (Ul x.2))]) (λM ay x H'=>x.2=Wp s M typ/\zQ H .nil H' x.1 x.2.length 5) (.nil,[]) wo ⟨by simp[Wp],zQ.refl (o:=.nil) (n:=0) rfl⟩ ?_ ?_
 ·rintro⟨o1,a⟩ J b2 ⟨O,y⟩ an;simp only at O;rw[cg]at O;subst O;refine xd aw an ?_;exact fin _ o1 rfl _ _ rfl y
 ·rintro M x ay ⟨o1,a⟩ J b2 ba an _ ⟨O,y⟩ ch;have bf:=YY ba;have a9:=WM M x ay;rw[<-ba]at a9;simp only at O;replace y:zQ H .nil J o1 a.length 5:=y;have cr:=(bl M typ xg).1;rw[<-O]at cr;have ap:Wp s (M++[x]) typ=a++usS s x typ:=by rw[cu,cn,<-O]
  obtain⟨k,A,f,g,h,I,j⟩:=x;rw[co]at ap;simp only[bS]at a9;have hx1:=be f;have bq:=bp (.mk k A f g h I j);have c7:=c3 f;have ct:=(c2 k f g xg).1;have de:=Y3 h;have ah:=YB h;have c4:=λa0 H'=>br (yR j) xg j a0 H' (ZG _) xg;have bj:=λa0=>(bl j a0 xg).1;rw[Zt]at bf bq;obtain⟨z,a5⟩:∃z,z=Qq s typ k f g:=⟨_,rfl⟩;rw[<-a5]at ap ct;have Y:z=if k=0 then Od s ((zG s typ f).getD zF).ps g else []:=a5
  generalize zz s typ (.mk k A f g h I j)=az at *
  replace bj:=bj az;generalize cp:Wp s j az=b4,(zG s typ f).isSome=da,(zG s typ f).getD zF=w at *
  obtain⟨ce,a4,⟨ca,cb,cc⟩,cd⟩:=w;rw[YG]at hx1;simp only at c7 Y;refine xe aw an bf (zb λC cw=>?_);have v:(J.upd C (.cells [.i k,.str A,.str f,.o 6 (Ya g),.o 2 (ZE h),.str I,.o 7 (Zp j)])) C=some (.cells [.i k,.str A,.str f,.o 6 (Ya g),.o 2 (ZE h),.str I,.o 7 (Zp j)]):=upd_same ..;have ag:=y.upd (x:=.cells [.i k,.str A,.str f,.o 6 (Ya g),.o 2 (ZE h),.str I,.o 7 (Zp j)]) cw;by_cases af:k=0
  case' pos =>
   rw[if_pos af]at Y;have c5:=eq_true af;refine xt c5 hx1 ?_;refine xa (zb λb5 a6=>?_);have G:C≠b5:=λe=>by subst e;simp[zd.upd]at a6
   have au:=ag.upd (x:=.cells [.str ce,.o 10 (Yg a4),.str ca,.i cb,.i cc,.o 2 (ZE cd)]) a6;refine xd G (Ne.symm G) (zu (am a4 g _ xg xg) λo2 bx aq=>?_);rw[<-Y]at aq ⊢;have v:bx C=some (.cells [.i k,.str A,.str f,.o 6 (Ya g),.o 2 (ZE h),.str I,.o 7 (Zp j)]):=aq.kept C _ (by simp[zd.upd,G]) (λd e=>by cases e);have av:=Z3 au aq;refine xa (zp (by rw[zO];exact av.own) ?_ ?_ λo1 bz ar=>?_)
   ·simp only[zO];omega
   ·simp only[zO,maxLen];omega
   simp only[zO]at ar;have v:=ar.kept C _ v (Tz av.own v);have ag:zQ H .nil bz o1 (a++z).length 5:=by rw[ZX];exact av.trans ar
   simp(disch:=omega) only[v,Wd,ah,go_sem]
  case' neg =>rw[if_neg af]at Y;rw[show a.length=(a++z).length from by rw[Y,List.append_nil]]at ag;refine xd af ah ?_;rw[show Ul a=Ul (a++z) by rw[Y,List.append_nil]]
  all_goals
   refine zc h 42 (λx:Own×List ZK=>[(7,.sl x.1 5 (Ul x.2))]) (λM ay x H'=>H' C=some (.cells [.i k,.str A,.str f,.o 6 (Ya g),.o 2 (ZE h),.str I,.o 7 (Zp j)])/\x.2=a++z++M.flatMap (Um s)/\zQ H .nil H' x.1 x.2.length 5) (o1,a++z) xb ⟨v,by simp,ag⟩ ?_ ?_
   ·rintro⟨o2,K⟩ ad b3 ⟨v,U,W⟩ ao;simp only at U;have al:=(bd h xg).1;replace W:zQ H .nil ad o2 K.length 5:=W;have cq:K.length=a.length+z.length+(h.flatMap (Um s)).length:=by rw[U,ZX,ZX]
    refine xm ah ao v bq ?_;refine xc v (zu (c4 az ad) λc8 b1 X=>?_);rw[cp]at X ⊢;have aa:=Z3 W X;have ab:=X.kept C _ v (λd e=>by cases e);refine xd v ab (zp (by rw[zO];exact aa.own) ?_ ?_ λax ai Z=>?_)
    ·simp only[zO];omega
    ·simp only[zO,maxLen];omega
    simp only[zO]at Z;refine wh ?_;exact zJ (ch (ax,K++b4) ai ⟨by simp only;rw[ap,U];simp[Uh],by rw[ZX];exact aa.trans Z⟩) xf
   ·rintro L p c9 ⟨o2,K⟩ ad b3 bc ao _ ⟨v,U,W⟩ ci;have bg:=Y0 bc;have a8:=VJ L p c9;rw[<-bc]at a8;simp only at U;replace W:zQ H .nil ad o2 K.length 5:=W;have al:=(bd (L++[p]) (by
     have:We (L++[p])=We L+bD p:=vh
     omega)).1
    have b9:We (L++[p])=We L+bD p:=vh
    rw[List.flatMap_append,ZX]at al;have a2:[p].flatMap (Um s)=Um s p:=xw
    rw[a2]at al;have cq:K.length=a.length+z.length+(L.flatMap (Um s)).length:=by rw[U,ZX,ZX]
    have c6:a++z++(L++[p]).flatMap (Um s)=K++Um s p:=by rw[List.flatMap_append,a2,U];simp[Uh]
    have bn:=M5 p;have di:=SF p;have a3:Um s p=Od s (yc p) p.args:=rfl;obtain⟨ae,ac⟩:=p;simp only[bD]at a8 b9;simp only at a3;have bh:=λH=>am (yc ⟨ae,ac⟩) ac H xi xg;rw[<-a3]at bh;generalize yc ⟨ae,ac⟩=bu,Um s ⟨ae,ac⟩=D at *
    rw[T2]at bg bn;refine xe ah ao bg (zb λa1 a7=>?_);have G:C≠a1:=nen2 v a7;have au:=W.upd (x:=.cells [.str ae,.o 6 (Ya ac)]) a7;refine xn G (Ne.symm G) bn ?_;refine xd G (Ne.symm G) (zu (bh _) λc8 b1 X=>?_);have aa:=Z3 au X;have ab:=X.kept C _ (wl G v) (λd e=>by cases e);have b6:=X.kept a1 _ (upd_same ..) (λd e=>by cases e);refine xp v ab b6 G (Ne.symm G) (zp (by rw[zO];exact aa.own) ?_ ?_ λax ai Z=>?_)
    ·simp only[zO];omega
    ·simp only[zO,maxLen];omega
    simp only[zO]at Z;have b7:=Z.kept C _ ab (Tz aa.own ab);refine wh ?_;exact zJ (ci (ax,K++D) ai ⟨b7,c6.symm,by rw[ZX];exact aa.trans Z⟩) xf
def vM:yU->Val| .mk _ v=>v
def Mc(l:B9)(m:yU):B9:=(yN (vM m) []).foldl QJ l
def zbz:∀(f l:B9),(f.foldl QJ l).length<=l.length+f.length
 | [],l=>by simp
 | n::f,l=>by have:=zbz f (QJ l n);have:=zcC l n;simp only[List.foldl_cons,yg];omega
def ze7(l:B9)(m:yU):(Mc l m).length<=l.length+bM m:=by obtain⟨n,f⟩:=m;have h:=zbz (yN f []) l;have g:=VY f [];simp only[yy]at g;simp only[Mc,vM,bM];omega
def Py:∀(ms:List yU) (l:B9),(ms.foldl Mc l).length<=l.length+ZC ms
 | [],l=>by simp[ZC]
 | m::ms,l=>by have:=Py ms (Mc l m);have:=ze7 l m;simp only[List.foldl_cons,ZC];omega
def ze3(a b:List yU):ZC (a++b)=ZC a+ZC b:=by simp[Vg]
def ofC(H:zd)(lv:AV)(l:B9)(ms:List yU)(au:OR H lv l)(hlen:l.length+ZC ms<=1099511627776):zZ 341 [lv,.o 6 (Ya ms)] H (zdJ H lv (ms.foldl Mc l)):=by
 have I:=yI ms;have a5:=y5 ms;generalize ak:ms.foldl Mc l=F;unfold zdJ;refine Xt ir341 λKP Q an a3=>?_;refine xc I ?_;refine zc ms 11 (λx:AV×B9=>[(0,x.1)]) (λf v x H'=>v.foldl Mc x.2=F/\x.2.length<=l.length+ZC f/\Wt H lv H' x.1 x.2) (lv,l) xb ⟨ak,by simp,Wt.refl au⟩ ?_ ?_
 ·rintro⟨C,a⟩ z ai ⟨g,_,p⟩ K;simp only[List.foldl]at g;refine xd I K ?_;exact an _ _ z z [C] nofun rfl (yT.refl _) (by rw[<-g];exact p)
 ·rintro f x v ⟨C,a⟩ z ai X K _ ⟨g,av,p⟩ al;have Y:=yZ X;have ap:=zap f v x;rw[<-X,ze3 f [x]]at ap;have W:ZC [x]=bM x:=by simp[ZC]
  rw[List.foldl_cons]at g;have a6:=ze7 a x;simp only at av g;replace p:Wt H lv z C a:=p;have U:Mc a x=(yN (vM x) []).foldl QJ a:=rfl;have a0:=VY (vM x) [];obtain⟨ae,y⟩:=x;simp only[vM,bM,yy]at U W a0;have Z:=ziI y xi;generalize yN y []=aa at *
  have L:=zn aa;obtain⟨ab,af,ag,ac,ad⟩:=y;rw[zy,zC]at Y;rw[zC]at Z;refine xe I K Y (zb λa1 ao=>?_);have az:=p.upd (x:=.cells [.str ae,.i ab,.i af,.str ag,.o 5 (PE ac),.o 6 (Ya ad)]) ao;refine xh Z ?_;refine xc L ?_;refine zc aa 19 (λx:AV×B9=>[(0,x.1)]) (λf v x H'=>v.foldl QJ x.2=Mc a (.mk ae (.mk ab af ag ac ad))/\x.2.length<=a.length+f.length/\Wt H lv H' x.1 x.2) (C,a) xb ⟨U.symm,by simp,az⟩ ?_ ?_
  ·rintro⟨M,j⟩ G aj ⟨h,J,A⟩ aw;simp only[List.foldl]at h;simp only at J;refine xd L aw ?_;exact zJ (al (M,j) G ⟨by rw[h];exact g,by simp only[ze3,W];omega,A⟩) xf
  ·rintro a2 O a7 ⟨M,j⟩ G aj aq ax _ ⟨h,J,A⟩ am;have ar:=ZM aq;rw[List.foldl_cons]at h;simp only at J h;have a4:=zcC j O;have hi:=zlu G M j O A.own xg;refine xe L ax ar (UE hi λy ah ay=>?_);refine xa ?_;exact zJ (am (y,QJ j O) ah ⟨h,by refine wm ?_;omega,A.trans ay⟩) xf
def ofD(l:B9)(d:yv):B9:=d.args.foldl Mc l
def zfh(ds:List yv):∀l:B9,(ds.foldl ofD l).length<=l.length+We ds:=by
 induction ds with
 | nil=>intro l;simp[We]
 | cons d r h =>
  intro l;have f:=h (ofD l d);have g:=Py d.args l;have e:We (d::r)=bD d+We r:=vh
  have j:bD d=1+d.nm.length+ZC d.args:=rfl;rw[List.foldl_cons,e];simp only[ofD]at f g ⊢;omega
mutual
def wrS:zj->B9->B9| .mk k al nm args dirs on sels,l=>Wm sels (dirs.foldl ofD (args.foldl Mc l))
def Wm:List zj->B9->B9
 | [],l=>l
 | x::r,l=>Wm r (wrS x l)
end
mutual
def zeW:∀(x:zj) (l:B9),(wrS x l).length<=l.length+bS x| .mk k al nm args dirs on sels,l=>by have f:=TT sels (dirs.foldl ofD (args.foldl Mc l));have g:=zfh dirs (args.foldl Mc l);have h:=Py args l;simp only[wrS,bS];omega
def TT:∀(r:List zj) (l:B9),(Wm r l).length<=l.length+yR r
 | [],l=>by simp[Wm]
 | x::r,l=>by have f:=zeW x l;have g:=TT r (wrS x l);simp only[Wm,yR];omega
end
def zl4(a b:List yv):We (a++b)=We a+We b:=vh
def zeL(a b:List zj):yR (a++b)=yR a+yR b:=by
 induction a with
 | nil=>simp[yR]
 | cons x a f=>simp only[L7,yR,f];omega
def zc2:∀c:Nat,∀(p:List zj) (H:zd) (lv:AV) (l:B9),yR p<=c->OR H lv l->l.length+yR p<=1099511627776->zZ 294 [lv,.o 7 (Zp p)] H (zdJ H lv (Wm p l)):=by
 intro c;induction c using Nat.strongRecOn with
 | _ c b1 =>
 intro p H lv l cc bp hlen;have ah:=Z7 p;have ce:=YL p;generalize bg:Wm p l=F;unfold zdJ;refine Xt ir294 λKP Q bl ca=>?_;refine xc ah ?_;refine zc p 11 (λx:AV×B9=>[(0,x.1)]) (λA U x H'=>Wm U x.2=F/\x.2.length<=l.length+yR A/\Wt H lv H' x.1 x.2) (lv,l) xb ⟨bg,by simp,Wt.refl bp⟩ ?_ ?_
 ·rintro⟨b2,a⟩ K a8 ⟨L,_,M⟩ ag;simp only[Wm]at L;refine xd ah ag ?_;exact bl _ _ K K [b2] nofun rfl (yT.refl _) (by rw[<-L];exact M)
 ·rintro A x U ⟨ab,a⟩ K a8 ay ag _ ⟨L,br,M⟩ bh;have a0:=YY ay;have aw:=WM A x U;rw[<-ay]at aw;have bn:yR (A++[x])=yR A+bS x:=by rw[zeL];simp[yR]
  simp only[Wm]at L;have bz:=zeW x a;simp only at br L;replace M:Wt H lv K ab a:=M;obtain⟨k,z,G,g,f,I,h⟩:=x;have bd:wrS (.mk k z G g f I h) a=Wm h (f.foldl ofD (g.foldl Mc a)):=by simp only[wrS]
  simp only[bS]at aw bn bz;have b7:=Py g a;have b8:=zfh f (g.foldl Mc a);have cd:=Y3 f;have ai:=YB f;generalize cb:wrS (.mk k z G g f I h) a=ba,be:g.foldl Mc a=ac at *
  rw[Zt]at a0;refine xe ah ag a0 (zb λj av=>?_);have a6:=M.upd (x:=.cells [.i k,.str z,.str G,.o 6 (Ya g),.o 2 (ZE f),.str I,.o 7 (Zp h)]) av;have a4:=M.own.ne av;have al:(K.upd j (.cells [.i k,.str z,.str G,.o 6 (Ya g),.o 2 (ZE f),.str I,.o 7 (Zp h)])) j=some (.cells [.i k,.str z,.str G,.o 6 (Ya g),.o 2 (ZE f),.str I,.o 7 (Zp h)]):=upd_same ..;refine xa ?_;generalize b9:(K.upd j (.cells [.i k,.str z,.str G,.o 6 (Ya g),.o 2 (ZE f),.str I,.o 7 (Zp h)]))=ad at *
  have ap:=ofC ad ab a g a6.own xg;rw[be]at ap;refine UE ap λb5 b6 a5=>?_;have am:=a5.kept j _ al a4;refine xd am ai ?_;refine zc f 22 (λx:AV×B9=>[(0,x.1)]) (λA U x H'=>H' j=some (.cells [.i k,.str z,.str G,.o 6 (Ya g),.o 2 (ZE f),.str I,.o 7 (Zp h)])/\U.foldl ofD x.2=f.foldl ofD ac/\x.2.length<=ac.length+We A/\Wt ad ab H' x.1 x.2) (b5,ac) xb ⟨am,rfl,by simp,a5⟩ ?_ ?_
  ·rintro⟨O,v⟩ W a9 ⟨X,y,a3,C⟩ bu;simp only[List.foldl]at y;have a2:=b1 (yR h) xg h W O v (ZG _) C.own (by rw[y];omega);rw[y,<-bd]at a2;refine xe ai bu X (UE a2 λaj ae aa=>?_);refine xa ?_;exact zJ (bh (aj,ba) ae ⟨L,by simp only;omega,a6.trans (C.trans aa)⟩) xf
  ·rintro af J b4 ⟨O,v⟩ W a9 az bv _ ⟨X,y,a3,C⟩ bj;have a1:=Y0 az;have ax:=VJ af J b4;rw[<-az]at ax;have ar:We (af++[J])=We af+bD J:=by rw[zl4];simp[We]
   rw[List.foldl_cons]at y;have ao:ofD v J=J.args.foldl Mc v:=rfl;have bq:=Py J.args v;simp only at a3 y;replace C:Wt ad ab W O v:=C;obtain⟨an,Y⟩:=J;simp only[bD]at ax ar;simp only at ao bq;rw[ao]at y;generalize bf:Y.foldl Mc v=E at *
   rw[T2]at a1;refine xe ai bv a1 (zb λak au=>?_);have a7:=C.upd (x:=.cells [.str an,.o 6 (Ya Y)]) au;have bx:j≠ak:=nen2 X au;have aq:=ofC (W.upd ak (.cells [.str an,.o 6 (Ya Y)])) O v Y a7.own xg;rw[bf]at aq;have bw:∀n k,O≠.ms j 0 n k:=λn k e=>by
    rcases C.new j n k e with Z|⟨b3,k0,Z⟩
    ·rw[al]at Z;cases Z
    ·exact a4 b3 k0 Z
   refine xa (UE aq λaj ae aa=>?_);have bc:=aa.kept j _ (wl bx X) bw;refine xa ?_;exact zJ (bj (aj,E) ae ⟨bc,y,by simp only[ar];omega,a7.trans aa⟩) xf
def YT(d:zv)(f:List zj):B9:=(Zl d f).foldl (λl n=>Wm ((yb d n).getD Vt).sels l) (Wm f [])
def zfl(d:zv)(n:B8):yR ((yb d n).getD Vt).sels<=XZ d.frags:=by
 cases g:yb d n with
 | none=>simp[Vt,yR]
 | some f=>exact Nat.le_trans (Xb f) (WB (List.mem_of_find?_eq_some g))
def WW(d:zv)(h:List zj):(Zl d h).length<=d.frags.length:=by
 have j:∀(R:B9) (f:List yE) (a:B9),(f.foldl (ZO R) a).length<=a.length+f.length:=by
  intro R f;induction f with
  | nil=>simp
  | cons g f p =>
   intro a;have:=p (ZO R a g);have v:(ZO R a g).length<=a.length+1:=by unfold ZO;split<;>simp
   simp only[List.foldl_cons,yg];omega
 have:=j (Zx d h) d.frags [];simpa[Zl]using this
def zqz(d:zv)(f:List zj)(H:zd)(y:Zi d<=ze)(bc:lenD d*zt d+zt d<=1099511627776)(az:yR f<=zt d):zZ 193 [.agg (z8 d),.o 7 (Zp f)] H (λe H'=>match e with|.ret v=>v=.o 1 (cT (YT d f))/\∀c x,H c=some x->H' c=some x|.pan _=>False):=by
 refine zY.frozen ?_;have ak:=y;simp only[Zi,ze]at ak;have a7:XZ d.frags<=zt d:=wA
 have bd:=yP d.frags;have hfr:=λn=>zcS d n xi;have aq:=λn=>zfl d n;have K:=λH=>ziY d f H y az;have bf:=WW d f;have aa:YT d f=(Zl d f).foldl (λl n=>Wm ((yb d n).getD Vt).sels l) (Wm f []):=rfl;have a0:=TT f [];have hmul:(Zl d f).length*zt d<=lenD d*zt d:=Nat.mul_le_mul_right _ w2;have ag:=zc2 (yR f) f H (.sl .nil 1 []) [] (ZG _) (.inl ⟨rfl,rfl⟩) vl;simp only[yy]at a0;generalize YT d f=F,Zl d f=R,ba:Wm f []=I,a8:zt d=B at *
 have an:=Yl d;simp only[an]at hfr K ⊢;have G:=zn R;refine Xt ir193 λKP Q ai a9=>?_;refine xa (UE ag λW a4 C=>?_);refine xa (zu (K _) λbh X L=>?_);have ax:Wt H (.sl .nil 1 []) X W I:=by
  refine⟨?_,λc x am _=>L.kept c x (C.kept c x am λn k e=>by cases e) (λd e=>by cases e),C.new⟩;rcases C.own with af|⟨b,cap,a2,e,y,av⟩
  ·exact .inl af
  ·exact .inr ⟨b,cap,a2,e,L.kept b _ y (λd e=>by cases e),av⟩
 refine xc G ?_;refine zc R 16 (λx:AV×B9=>[(5,x.1)]) (λz U x H'=>U.foldl (λl n=>Wm ((yb d n).getD Vt).sels l) x.2=F/\x.2.length<=B+z.length*B/\Wt H (.sl .nil 1 []) H' x.1 x.2) (W,I) xb ⟨aa.symm,by simp only;omega,ax⟩ ?_ ?_
 ·rintro⟨a1,a⟩ p Z ⟨g,_,j⟩ A;simp only[List.foldl]at g;refine xd G A ?_;exact ai _ _ p p [a1] nofun rfl (yT.refl _) (by rw[<-g];exact j)
 ·rintro z x U ⟨O,a⟩ p Z ao A be ⟨g,aw,j⟩ ah;have au:=ZM ao;have J:=hfr x;have ar:=aq x;have ap:(z.length+1)*B<=R.length*B:=Nat.mul_le_mul_right _ xg;rw[Nat.add_mul,Nat.one_mul]at ap;rw[List.foldl_cons]at g;simp only at g aw;replace j:Wt H (.sl .nil 1 []) p O a:=j;generalize (yb d x).isSome=a6,(yb d x).getD Vt=ab at *
  obtain⟨ad,ae,ac,h⟩:=ab;rw[Ys]at J;simp only at ar g;have bg:=TT h a;refine xm G A au J ?_;refine xa (zb λa5 al=>?_);have M:=j.upd (x:=.cells [.str ad,.str ae,.o 2 (ZE ac),.o 7 (Zp h)]) al;have aj:=zc2 (yR h) h _ O a (ZG _) M.own xg;refine xa (UE aj λa3 Y ay=>?_);refine xa ?_;exact zJ (ah (a3,Wm h a) Y ⟨g,by simp only[ZX,yg,yy,Nat.add_mul,Nat.one_mul];omega,M.trans ay⟩) xf
def zme(v:z6)(s:zg)(h:s.defs.length<=ze):zf 191 [.agg (cW v),.view (zk s)] (.bool (!XW s v.t.nm)):=by have f:=zjH s v.t.nm h;obtain⟨p,⟨C,G,I⟩,j,⟨k,q,A,l,m⟩⟩:=v;obtain⟨y,z,sm⟩:=s;simp only[zk]at f ⊢;refine zo ir191 λKP Q g=>?_;refine wW f ?_;exact vm g
def zm9(n:B8)(o:Y6)(h:o.vars.length<=ze):zf 194 [.str n,.view (cO o)] (.bool (!(zB o.vars n).isSome)):=by
 have f:=zfy o n h;generalize (zB o.vars n).isSome=L,(zB o.vars n).getD zW=w at *
 obtain⟨y,⟨G,I,J⟩,p,⟨k,q,C,l,m⟩⟩:=w;obtain⟨ok,z,K,ds,A⟩:=o;rw[Xn]at f ⊢;rw[zX]at f;refine zo ir194 λKP Q g=>?_;refine xh f ?_;refine xa (zb λj v=>?_);exact vm g
def zmh(v:z6)(us:B9)(b:Nat)(H:zd)(h:H b=some (.cells [.o 1 (cT us)]))(j:us.length<=ze):zZ 196 [.agg (cW v),.ptr b 0] H (At (.bool (!zH v.nm us)) H):=by
 have f:=Z4 us v.nm j;obtain⟨p,⟨A,C,G⟩,y,⟨k,q,z,l,m⟩⟩:=v;simp only at f ⊢;generalize zH p us=I at *
 refine Xe ir196 λKP Q g=>?_;simp(disch:=omega) only[ir196,zX,h,go_sem];refine za f ?_;refine xa ?_;exact g _ _ _ _ _ nofun rfl (yT.refl _) ⟨by simp ,rfl⟩
def Ue(s:zg)(d:zv)(n:Int)(o:Y6):Bool :=
 if n=18 then X2 [] o.vars else if n=19 then !o.vars.any λf=>!XW s f.t.nm
 else if n=20 then !(YT d o.sels).any λn=>!(zB o.vars n).isSome
 else !o.vars.any λf=>!zH f.nm (YT d o.sels)
def zgk(d:zv)(f:List zj):(YT d f).length<=yR f+d.frags.length*zt d:=by
 have y:XZ d.frags<=zt d:=wA
 have g:=WW d f;have j:∀(R l:B9),(R.foldl (λl n=>Wm ((yb d n).getD Vt).sels l) l).length<=l.length+R.length*zt d:=by
  intro R;induction R with
  | nil=>simp
  | cons n R v =>intro l;have g:=v (Wm ((yb d n).getD Vt).sels l);have p:=TT ((yb d n).getD Vt).sels l;have h:=zfl d n;rw[List.foldl_cons,yg,Nat.add_mul,Nat.one_mul];omega
 have p:=j (Zl d f) (Wm f []);have h:=TT f [];have z:(Zl d f).length*zt d<=d.frags.length*zt d:=Nat.mul_le_mul_right _ g;simp only[yy]at h;simp only[YT];omega
def zpk(s:zg)(d:zv)(o:Y6)(n:Int)(Y:zA s<=ze)(A:Zi d<=ze)(M:lenD d*zt d+zt d<=1099511627776)(ho:bO o<=zt d):zf 99 [.agg (zk s),.agg (z8 d),.agg (cO o),.i n] (.bool (Ue s d n o)):=by
 have O:=A;simp only[Zi,ze]at O;have X:=ho;simp only[bO]at X;have ac:=yr o.vars;have hmul:d.frags.length*zt d<=lenD d*zt d:=Nat.mul_le_mul_right _ w2;have ab:=zgk d o.sels;have C:=zim o xi;have G:=zgC cW V2 o.vars 191 [.view (zk s)] (λf=>!XW s f.t.nm) xi yw λf _=>zme f s (zR Y);have z:=λH=>zqz d o.sels H A M xg;have I:=zdM (λn:B8=>AV.str n) (YT d o.sels) 194 [.view (cO o)] (λn=>!(zB o.vars n).isSome) xi yw λn _=>zm9 n o xi;have J:=λb H (h:H b=some (.cells [.o 1 (cT (YT d o.sels))]))=>N5 cW V2 o.vars 196 [.ptr b 0] (λf=>!zH f.nm (YT d o.sels)) H xi yw λf _=>zmh f (YT d o.sels) b H h xi;have g:Ue s d n o=if n=18 then X2 [] o.vars else if n=19 then !o.vars.any λf=>!XW s f.t.nm else if n=20 then !(YT d o.sels).any λn=>!(zB o.vars n).isSome else !o.vars.any λf=>!zH f.nm (YT d o.sels):=rfl
 generalize Ue s d n o=F,X2 [] o.vars=ai,(o.vars.any λf=>!XW s f.t.nm)=aj,((YT d o.sels).any λn=>!(zB o.vars n).isSome)=ak at *
 generalize (o.vars.any λf=>!zH f.nm (YT d o.sels))=al at *
 generalize YT d o.sels=Z at *
 obtain⟨ok,ad,ah,ds,ag⟩:=o;obtain⟨ae,af,sm⟩:=s;have U:=Yl d;simp only[zk,U,Xn]at C G z I J ⊢;refine zo ir99 λKP Q j=>?_;by_cases p:n=18
 ·subst p;rw[if_pos rfl]at g;subst g;refine xh C ?_;exact vm j
 rw[if_neg p]at g;by_cases v:n=19
 ·subst v;rw[if_pos rfl]at g;subst g;refine xh G ?_;exact vm j
 rw[if_neg v]at g;by_cases y:n=20
 ·subst y;rw[if_pos rfl]at g;subst g;refine xa ?_;refine ZT (XP:=λ_ _=>False) (z _) (λf K ⟨e,W⟩=>?_) (λ_ _ h=>h.elim);subst e;refine xh I ?_;exact vm j
 rw[if_neg y]at g;subst g;refine xe p v y ?_;refine ZT (XP:=λ_ _=>False) (z _) (λf K ⟨e,W⟩=>?_) (λ_ _ h=>h.elim);subst e;refine xa (zb λL aa=>?_);refine xa (yM (J L _ (upd_same ..)) ?_);rintro _ _ ⟨_,rfl,rfl,rfl⟩;refine xV ?_;exact xo j
def zld(o:Y6)(s:zg)(d:zv)(n:Int)(v:zA s<=ze)(h:Zi d<=ze)(j:lenD d*zt d+zt d<=1099511627776)(ho:bO o<=zt d):zf 98 [.agg (cO o),.view (zk s),.view (z8 d),.view [.i n]] (.bool (!Ue s d n o)):=by
 have f:=zpk s d o n v h j ho;generalize Ue s d n o=I at *
 obtain⟨ok,y,G,ds,C⟩:=o;obtain⟨z,A,sm⟩:=s;have p:=Yl d;simp only[zk,p,Xn]at f ⊢;refine zo ir98 λKP Q g=>?_;refine xh f ?_;exact vm g
def Ms(s:zg)(d:zv)(n:Int):Bool:=decide (18<=n)&&decide (n<=21)&&!d.ops.any λo=>!Ue s d n o
def zoM(s:zg)(d:zv)(n:Int)(C:zA s<=ze)(j:Zi d<=ze)(v:lenD d*zt d+zt d<=1099511627776):zf 39 [.agg (zk s),.agg (z8 d),.i n] (.bool (Ms s d n)):=by
 have y:=j;simp only[Zi,ze]at y;have G:Ub d.ops<=zt d:=wA
 have I:=ZJ d.ops;have p:=anyOp cO (λ_=>rfl) d.ops 98 [.view (zk s),.view (z8 d),.view [.i n]] (λo=>!Ue s d n o) xi yw λo ho=>zld o s d n C j v (by obtain⟨a,b,A⟩:=List.append_of_mem ho;have:=Wc a o b;rw[<-A]at this;omega);unfold Ms;generalize (d.ops.any λo=>!Ue s d n o)=L at *
 obtain⟨J,K,sm⟩:=s;have z:=Yl d;simp only[zk,z]at p ⊢;refine zo ir39 λKP Q h=>?_;by_cases f:18<=n
 case neg =>exact vo f h f
 by_cases g:n<=21
 case neg =>exact vp f g h f g
 refine xn f g p ?_;refine xa ?_;exact xz h f g
def zlW(x:zj):zf 202 [.agg (cS x)] (.str (yW x)):=by
 obtain⟨k,j,z,v,y,A,C⟩:=x;rw[Zt];refine zo ir202 λKP Q h=>?_;by_cases g:k=0
 case neg =>refine xc g ?_;exact h rfl (by simp[yW,g])
 subst g;by_cases f:j=[]
 ·have p:=eq_true f;refine xc p ?_;exact h rfl (by simp[yW,f])
 ·refine xc f ?_;exact h rfl (by simp[yW,f])
def zqV(s:zg)(a b:X4)(j:s.defs.length<=ze):zf 347 [.agg (zk s),.agg (YQ a),.agg (YQ b)] (.bool (Wu s a b)):=by
 have v:=zcv s a.nm j;have y:=zcv s b.nm j;have z:=MN s a.nm j;have A:=MN s b.nm j;have f:Wu s a b=(decide (a.lists=b.lists)&&decide (a.musts=b.musts)&&(if Z0 s a.nm||Z0 s b.nm then decide (a.nm=b.nm)else y9 s a.nm&&y9 s b.nm)):=rfl;generalize Wu s a b=F,Z0 s a.nm=K,Z0 s b.nm=L,y9 s a.nm=M,y9 s b.nm=aa at *
 obtain⟨W,C,G⟩:=a;obtain⟨X,I,J⟩:=b;obtain⟨Y,Z,sm⟩:=s;simp only[zk,YQ]at v y z A f ⊢;refine zo ir347 λKP Q g=>?_;by_cases h:C=I
 case neg =>refine xc h ?_;exact xz g f h
 by_cases p:G=J
 case neg =>exact vp h p g f p
 have O:=eq_true h;have U:=eq_true p;simp only[h,p,decide_true,Bool.true_and]at f;refine xn O U v ?_;cases K with
 | true =>exact vn g f
 | false =>
 refine xh y ?_;cases L with
 | true =>exact vn g f
 | false =>
 refine xh z ?_;cases M with
 | false =>exact vn g f
 | true =>
 refine xh A ?_;exact vn g f
noncomputable def Lv(b:List yU)(m:yU):Bool:=(Y2 (mN m) b).2&&Th (vM m) (Y2 (mN m) b).1
noncomputable def Y8(a b:List yU):Bool:=a.all (Lv b)&&decide (a.length=b.length)
def zqH(a b:List yU)(aa:ZC a<=ze)(ac:ZC b<=ze):zf 303 [.o 6 (Ya a),.o 6 (Ya b)] (.bool (Y8 a b)):=by
 have z:=yI a;have ae:=yI b;have ai:=y5 a;have ak:=y5 b;have ab:=aa;have ad:=ac;simp only[ze]at ab ad;have X:=λn=>zmo n b xg;have Z:∀x∈a,∀u,zf 320 [.agg (cV (vM x)),.agg (cV u)] (.bool (Th (vM x) u)):=λx g u=>by obtain⟨n,af⟩:=x;have:=X9 g;exact znH af xg u
 refine zo ir303 λKP Q v=>?_;refine xc z ?_;refine zc a 11 ZY (λW L _ H=>L.all (Lv b)=a.all (Lv b)) () xb rfl ?_ ?_
 ·rintro _ H O f y;have h:Y8 a b=decide ((a.length:Int)=b.length):=by
   rw[Y8,<-f];simp only[List.all_nil,Bool.true_and];exact decide_eq_decide.2 xg
  refine xe z y ae ?_;exact xj v h
 ·rintro W x L _ H O G y _ f Y;have I:=yZ G;have g:=Z x (xv G);rw[List.all_cons]at f;have j:Lv b x=((Y2 (mN x) b).2&&Th (vM x) (Y2 (mN x) b).1):=rfl;generalize Lv b x=aw at *
  obtain⟨p,M⟩:=x;simp only[mN,vM]at j g;have J:=X p;replace g:=g (Y2 p b).1;generalize (Y2 p b).2=ag,(Y2 p b).1=u at *
  generalize Th M u=ah at *
  obtain⟨ap,au,av,aq,ar⟩:=M;obtain⟨al,ao,us,am,an⟩:=u;rw[zy,zC]at I;rw[zC,zC]at g;rw[zC]at J;refine xe z y I (zb λU aj=>?_);refine xh J ?_;cases ag with
  | false =>
   have h:Y8 a b=false:=by rw[Y8,<-f,j];rfl
   refine xa (zb λA C=>?_);exact vn v h
  | true =>
   refine xa (zb λA C=>?_);have K:U≠A:=λe=>by subst e;simp[zd.upd]at C
   refine xn K (Ne.symm K) g ?_;cases ah with
   | false =>
    have h:Y8 a b=false:=by rw[Y8,<-f,j];rfl
    exact vn v h
   | true =>rw[j]at f;refine xa ?_;exact zJ (Y () _ (xy f)) xf
def cSn(l:B9):List (AV×AV):=l.map λn=>(.str n,.bool true)
def cFr(fr:List (B8×List ye)):List (AV×AV):=fr.map λe=>(.str e.1,.o 10 (ZU e.2))
def cPr(l:PrS):List (AV×AV):=l.map λe=>(.agg [.i e.1.1,.i e.1.2],.bool e.2)
def RO{H H':zd}{o:Own}{n sz:Nat}(h:zM H o n sz)(g:∀c k f,H c=some (.tip k f)->H' c=some (.tip k f)):zM H' o n sz:=by
 cases o with
 | tip c d=>exact g c _ _ h
 | no=>exact h
 | nil=>exact h
 | full=>exact h
structure ItK (H:zd) (b:Nat) (c0:List AV) (no':Nat) (tl:List AV) (H':zd) (o:Own) (n:Nat):Prop where
 own:zM H' o n 10
 look:H' b=some (.cells (c0++.i no'::tl))
 kept:∀c x,H c=some x->c≠b->H' c=some x
 new:∀c d,o=.tip c d->H c=none
def zpL(s:zg)(br:zA s<=ze)(b:Nat)(ab ac ad:AV):∀c:Nat,∀(l:List zj) (typ:B8) (no:Nat) (H:zd),yR l<=c->no+c<=1073741824->H b=some (.cells (zk s++.i no::[ab,ac,ad])) ->
  zZ 102 [.ptr b 0,.str typ,.o 7 (Zp l)] H (λe H'=>match e with|.ret a3=>∃o,a3=.sl o 10 (ZU (yC s l typ no).1)/\ItK H b (zk s) (yC s l typ no).2 [ab,ac,ad] H' o (yC s l typ no).1.length|.pan _=>False):=by
 intro c;induction c using Nat.strongRecOn with
 | _ c a0 =>
 intro l typ no H J b4 ar;have am:=Z7 l;have b1:=YL l;have az:=λx=>NK s typ x br;have b5:=λl no=>RM s l typ no;have bq:=RM s;have ba:yC s [] typ=λno=>([],no):=by funext no;simp[yC]
 have a9:∀x r no,yC s (x::r) typ no=((Mr s x typ no).1::(yC s r typ (Mr s x typ no).2).1,(yC s r typ (Mr s x typ no).2).2):=λx r no=>by simp only[yC]
 have bc:∀k g v h j y f no,Mr s (.mk k g v h j y f) typ no=(.mk (no+1) (.mk k g v h j y f) typ (yC s f (zz s typ (.mk k g v h j y f)) (no+1)).1,(yC s f (zz s typ (.mk k g v h j y f)) (no+1)).2):=λk g v h j y f no=>by simp only[Mr]
 have hlen:=zcz s l typ no;generalize bd:yC s l typ no=F at *
 obtain⟨af,ag,sm⟩:=s;generalize bg:(⟨af,ag,sm⟩:zg)=s at *
 have bj:zk s=[.o 6 (Vd af),.str ag,.str sm]:=xM bg
 simp only[bj,L7,TB]at az a0 ar ⊢;refine Xt ir102 λKP Q bf bz=>?_;refine xc am ?_;refine zc l 13 (λx:Own×List ye×Nat=>[(7,.sl x.1 10 (ZU x.2.1))]) (λI ae x H'=>(x.2.1++(yC s ae typ x.2.2).1,(yC s ae typ x.2.2).2)=F/\x.2.1.length=I.length/\x.2.2<=no+yR I/\ItK H b [.o 6 (Vd af),.str ag,.str sm] x.2.2 [ab,ac,ad] H' x.1 x.2.1.length) (.nil,[],no) (by simp(disch:=omega) only[ZU,go_sem]) ⟨by simpa using bd,rfl,by simp[yR],rfl,ar,λc x J _=>J,λc d e=>by cases e⟩ ?_ ?_
 ·rintro⟨o1,a,A⟩ X a4 ⟨K,ah,ax,ai⟩ aj;simp only[ba,List.append_nil]at K;subst K;refine xd am aj ?_;exact bf _ _ X X [.sl o1 10 (ZU a)] nofun rfl (yT.refl _) ⟨o1,rfl,ai⟩
 ·rintro I x ae ⟨o1,a,A⟩ X a4 av aj b2 ⟨K,ah,ax,ai⟩ be;have aw:=YY av;have au:=WM I x ae;rw[<-av]at au;have bh:yR (I++[x])=yR I+bS x:=by rw[zeL];simp[yR]
  simp only[a9]at K;simp only at ah ax;obtain⟨a2,L,ak,al⟩:=ai;simp only at a2 L ak al;obtain⟨k,g,v,h,j,y,f⟩:=x;simp only[bc]at K;have ay:=az (.mk k g v h j y f);simp only[bS]at au bh;rw[Zt]at aw ay;generalize hty:zz s typ (.mk k g v h j y f)=an at *
  have bl:=λH' p=>a0 (yR f) xg f an (A+1) H' (ZG _) xg p;have b3:=bq f an (A+1);generalize bx:yC s f an (A+1)=M at *
  have hx1:(bS (.mk k g v h j y f))=1+g.length+v.length+y.length+ZC h+We j+yR f:=rfl;refine xe am aj aw (zb λG Z=>?_);have z:b≠G:=nen2 L Z;simp only[L7,TB]at L;refine xP L z (Ne.symm z) ?_;refine za ay ?_;refine xe L z (Ne.symm z) ?_;refine ZT (XP:=λ_ _=>False) (bl _ (by simp[zd.upd,z,splice])) (λa3 ap ⟨o2,a8,bn⟩=>?_) (λ_ _ p=>p.elim);subst a8;obtain⟨b7,U,aa,b6⟩:=bn;simp only[L7,TB]at U;have bv:ap G=some (.cells [.i k,.str g,.str v,.o 6 (Ya h),.o 2 (ZE j),.str y,.o 7 (Zp f)]):=aa G _ (by simp[zd.upd,z,Ne.symm z]) (Ne.symm z);have bw:∀c k ao,X c=some (.tip k ao)->ap c=some (.tip k ao):=λc k ao p=>by have A:c≠b:=nen2 L p;have W:c≠G:=nen2 Z p;exact aa c _ (by simp only[zd.upd,A,W,if_false];exact p) A
  have a1:=RO a2 bw;have Y:=WG a;refine xk U bv z (Ne.symm z) (zp (wz Y a1) ?_ ?_ λo' aq O=>?_)
  ·simp only[Y,yg,yy];omega
  ·refine xR Y ?_;omega
  simp only[Y,yg,yy,Nat.zero_add]at O;have a7:ZU a++[[.i ((A:Int)+1),.i k,.str g,.str v,.o 6 (Ya h),.o 2 (ZE j),.str y,.o 7 (Zp f),.str typ,.o 10 (ZU M.1)]]=ZU (a++[.mk (A+1) (.mk k g v h j y f) typ M.1]):=by rw[<-Ry,zc9,Xw];rfl
  have bp:ItK H b [.o 6 (Vd af),.str ag,.str sm] M.2 [ab,ac,ad] aq o' (a.length+1):=by
   refine⟨O.own,O.kept b _ U (Tz a1 U),λc x J C=>?_,λc d e=>?_⟩
   ·have c1:=ak c x J C;have W:c≠G:=nen2 Z c1;have a5:=aa c x (by simp only[zd.upd,C,W,if_false];exact c1) C;exact O.kept c x a5 λd e=>by rw[al c d e]at J;cases J
   ·rcases O.new c d e with p|⟨a6,p⟩
    ·cases bu:H c with
     | none=>rfl
     | some x =>
      by_cases C:c=b
      ·subst C;rw[U]at p;cases p
      ·have c1:=ak c x bu C;have W:c≠G:=nen2 Z c1;rw[aa c x (by simp only[zd.upd,C,W,if_false];exact c1) C]at p;cases p
    ·exact al c a6 p
  refine xB a7 ?_;exact zJ (be (o',a++[.mk (A+1) (.mk k g v h j y f) typ M.1],M.2) aq ⟨by simpa[Uh]using K,by simp[ah],by simp only;omega,by simpa using bp⟩) xf
def zd9(a b:B8):(AV.str a).keq (.str b)=decide (a=b):=by show (a==b)=_;by_cases f:a=b<;>simp[f]
def zfq(n:B8):∀l,Ud (cSn l) (.str n)=if zH n l=true then some (.bool true)else none
 | []=>rfl
 | x::r=>by
  have:=zfq n r;simp only[cSn]at this;simp only[cSn,List.map_cons,Ud,zd9,zH,this];by_cases f:n=x
  ·subst f;simp
  ·have h':¬ x=n:=λe=>f e.symm;simp[f,h']
def ze4(n:B8):∀l,zH n l=false->Ti (cSn l) (.str n) (.bool true)=cSn (l++[n])
 | [],_=>rfl
 | x::r,h=>by
  simp only[zH]at h;split at h
  ·cases h
  ·rename_i f;have g:¬ n=x:=λe=>f e.symm;have:=ze4 n r h;simp only[cSn]at this;simp only[cSn,List.map_cons,Ti,zd9,g,decide_false,Ql,if_false,this,L7]
def ze8(n:B8):∀fr:List (B8×List ye),(Ud (cFr fr) (.str n)=none/\Ob fr n=[])∨Ud (cFr fr) (.str n)=some (.o 10 (ZU (Ob fr n)))
 | []=>.inl ⟨rfl,rfl⟩
 | (a,u)::r=>by
  have:=ze8 n r;simp only[cFr,Ob]at this;simp only[cFr,Ob,List.map_cons,Ud,zd9,List.find?_cons];by_cases f:n=a
  ·simp[f]
  ·simpa[f]using this
structure FlK (H:zd) (bm:Nat) (seen':B9) (H':zd) (o:Own) (n:Nat):Prop where
 own:zM H' o n 10
 seen:H' bm=some (.map (.one .s) (cSn seen'))
 kept:∀c x,H c=some x->c≠bm->H' c=some x
 new:∀c d,o=.tip c d->H c=none
def FlK.beside{H g j:zd}{bm n y:Nat}{z v:B9}{o o2:Own}(h:FlK H bm z g o n)(h':FlK g bm v j o2 y):FlK H bm v j o n:=by refine⟨RO h.own λc k A f=>h'.kept c _ f λe=>?_,h'.seen,λc x f p=>h'.kept c x (h.kept c x f p) p,h.new⟩;subst e;rw[h.seen]at f;cases f
def FlK.upd{H f:zd}{bm n b:Nat}{v:B9}{o:Own}{x:Yr}(h:FlK H bm v f o n)(j:f b=none):FlK H bm v (f.upd b x) o n:=by
 have p:∀c g,f c=some g->c≠b:=λc g h e=>by subst e;rw[j]at h;cases h
 refine⟨h.own.upd j,?_,λc g y z=>?_,h.new⟩
 ·refine xK (p _ _ h.seen) ?_;exact h.seen
 ·have:=h.kept c g y z;refine xK (p _ _ this) ?_;exact this
def FlK.app{H g p:zd}{bm n z:Nat}{A:B9}{o o2:Own}(h:FlK H bm A g o n)(h':zQ g o p o2 z 10):FlK H bm A p o2 z:=by
 have G:∀d,o≠.tip bm d:=λd e=>by have:=h.own;subst e;have v:g bm=some (.tip (d+n) 10):=this;rw[h.seen]at v;cases v
 refine⟨h'.own,h'.kept bm _ h.seen G,λc x j I=>h'.kept c x (h.kept c x j I) (λd e=>by rw[h.new c d e]at j;cases j),λc d e=>?_⟩;rcases h'.new c d e with f|⟨C,f⟩
 ·cases J:H c with
  | none=>rfl
  | some x =>
   by_cases y:c=bm
   ·subst y;rw[h.seen]at f;cases f
   ·rw[h.kept c x J y]at f;cases f
 ·exact h.new c C f
def znX(fr:List (B8×List ye))(b aa:Nat)(bp bq br bu bv bw:AV):∀n:Nat,∀(l:List ye) (seen:B9) (H:zd) (bm f:Nat),Ex fr n l->n<=f->n<=1000->H b=some (.cells [bp,bq,br,bu,.mp aa,bv,bw])->H aa=some (.map (.one .s) (cFr fr))->H bm=some (.map (.one .s) (cSn seen))->aa≠bm ->
  zZ 201 [.ptr b 0,.o 10 (ZU l),.mp bm] H (λe H'=>match e with|.ret M=>∃o,M=.sl o 10 (ZU (Us fr f l seen).1)/\FlK H bm (Us fr f l seen).2 H' o (Us fr f l seen).1.length|.pan _=>False):=by
 intro n;induction n using Nat.strongRecOn with
 | _ n a3 =>
 intro l seen H bm f ar hf bj b1 cc b2 af;have bn:=WG l;have c2:l.length<=n:=by
  have J:∀(l:List ye) n,Ex fr n l->l.length<=n:=by
   intro l;induction l with
   | nil=>intro n _;simp
   | cons x r a3 =>
    intro n J;cases J with
    | cons cz a9 cr y cw=>have:=a3 _ y;simp only[yg];omega
  exact J l n ar
 have cd:=OC (seen:=seen) ar hf;have hpre:∀K X,l=K++X->(K.foldl (Xy (Us fr (f-1)) fr) ([],seen)).1.length<=n:=λK X e=>by have a9:Ex fr n K:=Ex.pre (b:=X) (by rw[<-e];exact ar);rw[<-OC a9 hf];exact ND a9 hf
 have cg:∀K no k j g p v z A C sub X,l=K++.mk no (.mk k j g p v z A) C sub::X->∃i a4,i+a4+1<=n/\Ex fr i sub/\(k=1->Ex fr a4 (Ob fr g)):=λK no k j g p v z A C sub X e=>by rw[e]at ar;exact ar.mid
 have ch:∀O no k j g p v z A C sub,Xy (Us fr (f-1)) fr O (.mk no (.mk k j g p v z A) C sub)=if k=0 then (O.1++[.mk no (.mk k j g p v z A) C sub],O.2)
   else if k=2 then (O.1++(Us fr (f-1) sub O.2).1,(Us fr (f-1) sub O.2).2)
   else if k=1/\zH g O.2=false then (O.1++(Us fr (f-1) (Ob fr g) (O.2++[g])).1,(Us fr (f-1) (Ob fr g) (O.2++[g])).2)else O:=λ_ _ _ _ _ _ _ _ _ _ _=>rfl
 generalize ct:Us fr f l seen=F,cx:Xy (Us fr (f-1)) fr=a5 at *
 have be:∀s,KT.fits (.one .s) (.str s)=true:=λ_=>rfl;refine Xt ir201 λKP Q cb cu=>?_;refine xc bn ?_;refine zc l 12 (λx:Own×(List ye×B9)=>[(7,.sl x.1 10 (ZU x.2.1))]) (λK X x H'=>x.2=K.foldl a5 ([],seen)/\X.foldl a5 x.2=F/\FlK H bm x.2.2 H' x.1 x.2.1.length) (.nil,([],seen)) (by simp(disch:=omega) only[ZU,go_sem]) ⟨rfl,cd.symm,rfl,b2,λc x an _=>an,λc d e=>by cases e⟩ ?_ ?_
 ·rintro⟨o1,a,h⟩ ad b5 ⟨_,I,ae⟩ bg;simp only[List.foldl]at I;subst I;refine xd bn bg ?_;exact cb _ _ ad ad [.sl o1 10 (ZU a)] nofun rfl (yT.refl _) ⟨o1,rfl,ae⟩
 ·rintro K x X ⟨o1,a,h⟩ ad b5 bc bg c3 ⟨bd,I,ae⟩ am;have b3:=TW bc;rw[List.foldl_cons]at I;simp only at bd I;replace ae:FlK H bm h ad o1 a.length:=ae;have ab:=hpre (K++[x]) X (xv bc);rw[List.foldl_append,<-bd,List.foldl_cons,List.foldl_nil]at ab;have U:a5 (a,h) x=(K++[x]).foldl a5 ([],seen):=by rw[List.foldl_append,<-bd];rfl
  obtain⟨no,⟨k,j,g,p,v,z,A⟩,C,sub⟩:=x;obtain⟨i,a4,cy,hx1,cm⟩:=cg K no k j g p v z A C sub X bc;have L:=ch (a,h) no k j g p v z A C sub;have a2:=ae.seen;have az:=ae.kept b _ b1 (nen2 b2 b1);have a1:=ae.kept aa _ cc af;have y:=WG a;rw[Xw]at b3;refine xe bn bg b3 (zb λY a0=>?_);have ac:=ae.upd (x:=.cells [.i no,.i k,.str j,.str g,.o 6 (Ya p),.o 2 (ZE v),.str z,.o 7 (Zp A),.str C,.o 10 (ZU sub)]) a0;have av:b≠Y:=nen2 az a0;have aw:aa≠Y:=nen2 a1 a0;have al:bm≠Y:=nen2 a2 a0;have b6:(ad.upd Y (.cells [.i no,.i k,.str j,.str g,.o 6 (Ya p),.o 2 (ZE v),.str z,.o 7 (Zp A),.str C,.o 10 (ZU sub)])) Y=some (.cells [.i no,.i k,.str j,.str g,.o 6 (Ya p),.o 2 (ZE v),.str z,.o 7 (Zp A),.str C,.o 10 (ZU sub)]):=upd_same ..;have a7:(ad.upd Y (.cells [.i no,.i k,.str j,.str g,.o 6 (Ya p),.o 2 (ZE v),.str z,.o 7 (Zp A),.str C,.o 10 (ZU sub)])) b=some (.cells [bp,bq,br,bu,.mp aa,bv,bw]):=wl av az
  have cf:(ad.upd Y (.cells [.i no,.i k,.str j,.str g,.o 6 (Ya p),.o 2 (ZE v),.str z,.o 7 (Zp A),.str C,.o 10 (ZU sub)])) aa=some (.map (.one .s) (cFr fr)):=wl aw a1
  have ay:=ac.seen;by_cases k0:k=0
  ·have co:=eq_true k0;rw[if_pos k0]at L;rw[L]at I ab U;simp only[ZX,yg,yy]at ab;refine xc co (zp (by rw[y];exact ac.own) ?_ ?_ λo' ai W=>?_)
   ·simp only[y,yg,yy];omega
   ·refine xR y ?_;omega
   simp only[y,yg,yy,Nat.zero_add]at W;have b9:ZU a++[[.i no,.i k,.str j,.str g,.o 6 (Ya p),.o 2 (ZE v),.str z,.o 7 (Zp A),.str C,.o 10 (ZU sub)]]=ZU (a++[.mk no (.mk k j g p v z A) C sub]):=by rw[<-Ry,zc9,Xw]
   refine xB b9 ?_;exact zJ (am (o',(a++[.mk no (.mk k j g p v z A) C sub],h)) ai ⟨U,I,by simpa using ac.app W⟩) xf
  rw[if_neg k0]at L;by_cases ak:k=2
  ·have cp:=eq_true ak;rw[if_pos ak]at L;rw[L]at I ab U;have ap:=a3 i xg sub h _ bm (f-1) hx1 xg xg a7 cf ay af;simp only[ZX]at ab;generalize ca:Us fr (f-1) sub h=G at *
   have Z:=WG G.1;refine xd k0 cp ?_;refine ZT (XP:=λ_ _=>False) ap (λM ah ⟨o2,a8,bf⟩=>?_) (λ_ _ J=>J.elim);subst a8;have ag:=ac.beside bf;refine xa (zp (by rw[y];exact ag.own) ?_ ?_ λo' ai W=>?_)
   ·simp only[y,Z];omega
   ·simp only[y,Z,maxLen];omega
   simp only[y,Z]at W;simp(disch:=omega) only[wrap64,QH,Ry,go_sem];exact zJ (am (o',(a++G.1,G.2)) ai ⟨U,I,by simpa using ag.app W⟩) xf
  rw[if_neg ak]at L;by_cases au:k=1
  case neg =>rw[if_neg (λJ=>au J.1)]at L;rw[L]at I ab U;refine xe k0 ak au ?_;exact zJ (am (o1,(a,h)) _ ⟨U,I,ac⟩) xf
  have bl:=eq_true au;have aq:=zfq g h;cases ao:zH g h with
  | true =>rw[if_neg (λJ=>by rw[ao]at J;cases J.2)]at L;rw[L]at I ab U;rw[if_pos ao]at aq;simp(disch:=omega) only[k0,ak,bl,ay,al,Ne.symm al,a2,aq,be,W1,Option.getD_some,go_sem];exact zJ (am (o1,(a,h)) _ ⟨U,I,ac⟩) xf
  | false =>
   rw[if_pos ⟨au,ao⟩]at L;rw[L]at I ab U;rw[if_neg (xv ao)]at aq;have b4:=ze4 g h ao;have cn:=cm au;simp only[ZX]at ab;generalize bx:ad.upd Y (.cells [.i no,.i k,.str j,.str g,.o 6 (Ya p),.o 2 (ZE v),.str z,.o 7 (Zp A),.str C,.o 10 (ZU sub)])=ah at *
   have ax:b≠bm:=nen2 a7 ay;have nm9:Y≠bm:=Ne.symm al;have b7:(ah.upd bm (.map (.one .s) (cSn (h++[g])))) b=some (.cells [bp,bq,br,bu,.mp aa,bv,bw]):=wl ax a7
   have b8:(ah.upd bm (.map (.one .s) (cSn (h++[g])))) aa=some (.map (.one .s) (cFr fr)):=by refine xK af ?_;exact cf
   have cq:(ah.upd bm (.map (.one .s) (cSn (h++[g])))) Y=some (.cells [.i no,.i k,.str j,.str g,.o 6 (Ya p),.o 2 (ZE v),.str z,.o 7 (Zp A),.str C,.o 10 (ZU sub)]):=wl nm9 b6
   have ci:FlK H bm (h++[g]) (ah.upd bm (.map (.one .s) (cSn (h++[g])))) o1 a.length:=by
    refine⟨RO ac.own λc k c4 an=>?_,upd_same ..,λc x an bj=>?_,ac.new⟩
    ·have:c≠bm:=nen2 ay an;refine xK this ?_;exact an
    ·refine xK bj ?_;exact ac.kept c x an bj
   have ap:=a3 a4 xg (Ob fr g) (h++[g]) (ah.upd bm (.map (.one .s) (cSn (h++[g])))) bm (f-1) cn xg xg b7 b8 (upd_same ..) af;generalize ca:Us fr (f-1) (Ob fr g) (h++[g])=G at *
   have Z:=WG G.1;generalize bz:ah.upd bm (.map (.one .s) (cSn (h++[g])))=a6 at *
   have call:∀w,w=AV.o 10 (ZU (Ob fr g))∨(w=.sl .nil 10 []/\Ob fr g=[])->zZ 201 [.ptr b 0,w,.mp bm] a6 (λe H'=>match e with|.ret M=>∃o,M=.sl o 10 (ZU G.1)/\FlK a6 bm G.2 H' o G.1.length|.pan _=>False):=λw cj=>by
    rcases cj with rfl|⟨rfl,e⟩
    ·exact ap
    ·rw[e]at ap;exact zY.low ap
   have fin:∀M aj,(∃o,M=AV.sl o 10 (ZU G.1)/\FlK a6 bm G.2 aj o G.1.length)->∃o2,M=AV.sl o2 10 (ZU G.1)/\FlK H bm G.2 aj o1 a.length:=λM aj ⟨o2,a8,bf⟩=>⟨o2,a8,ci.beside bf⟩;rcases ze8 g fr with ⟨bh,ce⟩|bh
   ·simp(disch:=omega) only[k0,ak,bl,az,a1,av,aw,Ne.symm av,Ne.symm aw,al,Ne.symm al,ax,Ne.symm ax,af,Ne.symm af,a2,aq,be,W1,Option.getD_none,Option.getD_some,b4,bh,go_sem];rw[bx,bz];refine ZT (XP:=λ_ _=>False) (call _ (.inr ⟨rfl,ce⟩)) (λM aj ba=>?_) (λ_ _ J=>J.elim);obtain⟨o2,rfl,ag⟩:=fin M aj ba;refine xa (zp (by rw[y];exact ag.own) ?_ ?_ λo' ai W=>?_)
    ·simp only[y,Z];omega
    ·simp only[y,Z,maxLen];omega
    simp only[y,Z]at W;simp(disch:=omega) only[wrap64,QH,Ry,go_sem];exact zJ (am (o',(a++G.1,G.2)) ai ⟨U,I,by simpa using ag.app W⟩) xf
   ·simp(disch:=omega) only[k0,ak,bl,az,a1,av,aw,Ne.symm av,Ne.symm aw,al,Ne.symm al,ax,Ne.symm ax,af,Ne.symm af,a2,aq,be,W1,Option.getD_none,Option.getD_some,b4,bh,go_sem];rw[bx,bz];refine ZT (XP:=λ_ _=>False) (call _ (.inl rfl)) (λM aj ba=>?_) (λ_ _ J=>J.elim);obtain⟨o2,rfl,ag⟩:=fin M aj ba;refine xa (zp (by rw[y];exact ag.own) ?_ ?_ λo' ai W=>?_)
    ·simp only[y,Z];omega
    ·simp only[y,Z,maxLen];omega
    simp only[y,Z]at W;simp(disch:=omega) only[wrap64,QH,Ry,go_sem];exact zJ (am (o',(a++G.1,G.2)) ai ⟨U,I,by simpa using ag.app W⟩) xf
def zjj(fr:List (B8×List ye))(b g:Nat)(I J K L M O:AV)(y:ye)(H:zd)(n:Nat)(ac:Ex fr n y.sub)(p:n<=64)(h:H b=some (.cells [I,J,K,L,.mp g,M,O]))(j:H g=some (.map (.one .s) (cFr fr))):
  zZ 348 [.ptr b 0,.agg (cIt y)] H (λe H'=>match e with|.ret G=>∃o,G=.sl o 10 (ZU (Yc fr y))/\∀c x,H c=some x->H' c=some x|.pan _=>False):=by
 have A:=λH bm h j f ab=>znX fr b g I J K L M O n y.sub [] H bm 64 ac p xg h j f ab;have W:Yc fr y=(Us fr 64 y.sub []).1:=rfl;generalize Us fr 64 y.sub []=U at *
 rw[W];obtain⟨no,⟨k,ae,ai,af,ag,aj,ak⟩,al,sub⟩:=y;simp only[ye.sub]at A;rw[Xw];refine Xt ir348 λKP Q Z ah=>?_;refine xa (zb λbm f=>?_);have ad:b≠bm:=nen2 h f;have C:g≠bm:=nen2 j f;refine xa ?_;refine ZT (XP:=λ_ _=>False) (A _ bm (wl ad h) (wl C j) (upd_same ..) C) (λG v ⟨o2,X,aa⟩=>?_) (λ_ _ Y=>Y.elim);subst X;refine xa ?_;exact Z _ _ v v [.sl o2 10 (ZU U.1)] nofun rfl (yT.refl _) ⟨o2,rfl,λc x z=>by have p:c≠bm:=nen2 f z;exact aa.kept c x (wl p z) p⟩
def zrt(i j k l:Nat):(AV.agg [.i i,.i j]).keq (.agg [.i k,.i l])=decide ((i,j)=(k,l)):=by
 show (((i:Int)==k)&&(((j:Int)==l)&&true))=_;by_cases f:i=k<;>by_cases g:j=l<;>simp[f,g]
 all_goals omega
def zaX(i j:Nat):∀l:PrS,Ud (cPr l) (.agg [.i i,.i j])=(WF l (i,j)).map AV.bool
 | []=>rfl
 | ((a,c),u)::r=>by
  have:=zaX i j r;simp only[cPr,WF]at this;simp only[cPr,WF,List.map_cons,Ud,zrt,this,List.find?_cons];by_cases f:(i,j)=(a,c)
  ·simp[f]
  ·simp[f]
def zaa(i j:Nat)(v:Bool):∀l:PrS,Ti (cPr l) (.agg [.i i,.i j]) (.bool v)=cPr (Xo l (i,j) v)
 | []=>rfl
 | ((a,c),u)::r=>by
  have:=zaa i j v r;simp only[cPr]at this;simp only[cPr,Xo,List.map_cons,Ti,zrt,this];by_cases f:(i,j)=(a,c)
  ·obtain⟨rfl,rfl⟩:=Prod.mk.inj f;simp
  ·simp[f]
abbrev kPr:KT:=.agg [.i .i64,.i .i64]
structure Qr (s:zg) (fr:List (B8×List ye)) (b bf bs bp no:Nat) (S:Za) (H:zd):Prop where
 look:H b=some (.cells (zk s++[.i no,.mp bf,.mp bs,.mp bp]))
 frs:H bf=some (.map (.one .s) (cFr fr))
 sh:H bs=some (.map kPr (cPr S.1))
 pr:H bp=some (.map kPr (cPr S.2))
 ne:bs≠bp
def SY(bs f:Nat)(H H':zd):Prop:=∀c x,H c=some x->c≠bs->c≠f->H' c=some x
def Qr.keep{s:zg}{fr:List (B8×List ye)}{b g bs j no:Nat}{S:Za}{H H':zd}(h:Qr s fr b g bs j no S H)(f:∀c x,H c=some x->H' c=some x):Qr s fr b g bs j no S H' :=⟨f _ _ h.look,f _ _ h.frs,f _ _ h.sh,f _ _ h.pr,h.ne⟩
def SY.trans{bs f:Nat}{H g j:zd}(h:SY bs f H g)(h':SY bs f g j):SY bs f H j:=λc x y p v=>h' c x (h c x y p v) p v
def SY.upd{bs g:Nat}{H f:zd}(h:SY bs g H f){c:Nat}{x:Yr}(j:f c=none):SY bs g H (f.upd c x):=λd A p y z=>by have:=h d A p y z;have v:d≠c:=nen2 j this;refine xK v ?_;exact this
def Xs{H:zd}{c:Nat}{x:Yr}(h:H c=none):∀d f,H d=some f->(H.upd c x) d=some f:=λd f g=>by have j:d≠c:=nen2 h g;refine xK j ?_;exact g
def OW(s:zg)(fr:List (B8×List ye))(b h bs f no:Nat)(j:FuncId)(g:ye->ye->Za->Bool×Za)(x y:ye):Prop :=∀S H,Qr s fr b h bs f no S H->zZ j [.ptr b 0,.agg (cIt x),.agg (cIt y)] H (λe H'=>match e with|.ret v=>v=.bool (g x y S).1/\Qr s fr b h bs f no (g x y S).2 H'/\SY bs f H H'|.pan _=>False)
def RB(x:ye):∃no k f j g h p v y sub,x=.mk no (.mk k f j g h p v) y sub:=by obtain⟨no,⟨k,f,j,g,h,p,v⟩,y,sub⟩:=x;exact⟨_,_,_,_,_,_,_,_,_,_,rfl⟩
def zfp(s:zg)(fr:List (B8×List ye))(b v bs f no:Nat)(az:FuncId)(g:ye->ye->Za->Bool×Za)(x y:ye)(n m:Nat)(cx:Program.callable Tryz.prog az=true)(b6:Ex fr n x.sub)(b5:n<=64)(b7:Ex fr m y.sub)(b4:m<=64)(cy:∀u∈Yc fr x,∀Y∈Yc fr y,OW s fr b v bs f no az g u Y)(S:Za)(H:zd)(a0:Qr s fr b v bs f no S H):
  zZ 304 [.ptr b 0,.agg (cIt x),.agg (cIt y),.clo az [.ptr b 0] []] H (λe H'=>match e with|.ret Y=>Y=.bool (Vn g (Yc fr x) (Yc fr y) S).1/\Qr s fr b v bs f no (Vn g (Yc fr x) (Yc fr y) S).2 H'/\SY bs f H H'|.pan _=>False):=by
 obtain⟨W,X,sm⟩:=s;have br:=λH a7 a8=>zjj fr b v (.o 6 (Vd W)) (.str X) (.str sm) (.i no) (.mp bs) (.mp f) x H n b6 b5 a7 a8;have bu:=λH a7 a8=>zjj fr b v (.o 6 (Vd W)) (.str X) (.str sm) (.i no) (.mp bs) (.mp f) y H m b7 b4 a7 a8;have c6:=ND (seen:=[]) b6 b5;have c7:=ND (seen:=[]) b7 b4;rw[show (Us fr 64 x.sub []).1=Yc fr x from rfl]at c6;rw[show (Us fr 64 y.sub []).1=Yc fr y from rfl]at c7;generalize Yc fr x=ap,Yc fr y=U at *
 have be:=WG ap;have bf:=WG U;generalize cn:Vn g ap U S=F at *
 obtain⟨Z,I,A,J,C,G,K,L,ab,aa,rfl⟩:=RB x;obtain⟨ar,aj,ag,ak,ah,ai,al,am,av,au,rfl⟩:=RB y;rw[Xw]at br bu;rw[Xw,Xw];have fin:∀r p H',F=(r,p)->Qr ⟨W,X,sm⟩ fr b v bs f no p H'->SY bs f H H'->(AV.bool r=.bool F.1/\Qr ⟨W,X,sm⟩ fr b v bs f no F.2 H'/\SY bs f H H'):=λr p H' e cj cm=>by rw[e];exact⟨rfl,cj,cm⟩
 refine Xt ir304 λKP Q bq dd=>?_;refine xa ?_;refine ZT (XP:=λ_ _=>False) (bu _ a0.look a0.frs) (λY c9 ⟨o1,cd,b2⟩=>?_) (λ_ _ ae=>ae.elim);subst cd;have a1:=a0.keep b2;refine xa ?_;refine ZT (XP:=λ_ _=>False) (br _ a1.look a1.frs) (λY da ⟨o2,ce,b3⟩=>?_) (λ_ _ ae=>ae.elim);subst ce;have cp:=a1.keep b3;refine xc be ?_;refine zc ap 21 (λ_:Za=>[]) (λbj aq p H'=>Vn g aq U p=F/\Qr ⟨W,X,sm⟩ fr b v bs f no p H'/\SY bs f H H') S xb ⟨cn,cp,λc x cw _ _=>b3 c x (b2 c x cw)⟩ ?_ ?_
 ·rintro ay aw b9 ⟨j,af,a3⟩ bc;simp only[Vn]at j;refine xd be bc ?_;exact bq _ _ aw aw [.bool true] nofun rfl (yT.refl _) (fin _ _ _ j.symm af a3)
 ·rintro bj x aq ay aw b9 bw bc _ ⟨j,af,a3⟩ cr;have bz:=TW bw;have c4:x∈ap:=xv bw
  simp only[Vn]at j;have a9:=zlW x.x;have cz:=cy x c4;generalize cu:NM g x U ay=R at *
  obtain⟨Z,I,A,J,C,G,K,L,ab,aa,rfl⟩:=RB x;simp only[ye.x]at a9;rw[Xw]at bz;rw[Zt]at a9;refine xe be bc bz (zb λad O=>?_);have cq:=af.keep (Xs (x:=.cells [.i Z,.i I,.str A,.str J,.o 6 (Ya C),.o 2 (ZE G),.str K,.o 7 (Zp L),.str ab,.o 10 (ZU aa)]) O);have ct:=a3.upd (x:=.cells [.i Z,.i I,.str A,.str J,.o 6 (Ya C),.o 2 (ZE G),.str K,.o 7 (Zp L),.str ab,.o 10 (ZU aa)]) O;have c8:ad≠bs:=λe=>by subst e;rw[af.sh]at O;cases O
  have np:ad≠f:=λe=>by subst e;rw[af.pr]at O;cases O
  refine xc bf ?_;refine zc U 27 (λ_:Za=>[]) (λbj aq p H'=>NM g (.mk Z (.mk I A J C G K L) ab aa) aq p=R/\Qr ⟨W,X,sm⟩ fr b v bs f no p H'/\SY bs f H H'/\H' ad=some (.cells [.i Z,.i I,.str A,.str J,.o 6 (Ya C),.o 2 (ZE G),.str K,.o 7 (Zp L),.str ab,.o 10 (ZU aa)])) ay xb ⟨cu,cq,ct,upd_same ..⟩ ?_ ?_
  ·rintro ac bg ca ⟨h,a2,a4,_⟩ bd;simp only[NM]at h;rw[<-h]at j;simp only at j;refine xd bf bd ?_;exact zJ (cr ac bg ⟨j,a2,a4⟩) xf
  ·rintro dc y de ac bg ca bx bd _ ⟨h,a2,a4,M⟩ bp;have b1:=TW bx;have c5:y∈U:=xv bx
   have c2:=cz y c5;have ba:=zlW y.x;simp only[NM]at h;generalize co:g (.mk Z (.mk I A J C G K L) ab aa) y ac=b8 at *
   obtain⟨ar,aj,ag,ak,ah,ai,al,am,av,au,rfl⟩:=RB y;simp only[ye.x]at ba h;rw[Xw]at b1;rw[Zt]at ba;refine xe bf bd b1 (zb λcb an=>?_);have z:ad≠cb:=nen2 M an;have bl:=a2.keep (Xs (x:=.cells [.i ar,.i aj,.str ag,.str ak,.o 6 (Ya ah),.o 2 (ZE ai),.str al,.o 7 (Zp am),.str av,.o 10 (ZU au)]) an);have a5:=a4.upd (x:=.cells [.i ar,.i aj,.str ag,.str ak,.o 6 (Ya ah),.o 2 (ZE ai),.str al,.o 7 (Zp am),.str av,.o 10 (ZU au)]) an;have bh:=Xs (x:=.cells [.i ar,.i aj,.str ag,.str ak,.o 6 (Ya ah),.o 2 (ZE ai),.str al,.o 7 (Zp am),.str av,.o 10 (ZU au)]) an _ _ M;refine xm M z (Ne.symm z) a9 ?_;refine xm M z (Ne.symm z) ba ?_;by_cases ao:yW (.mk I A J C G K L)=yW (.mk aj ag ak ah ai al am)
   case neg =>simp only[ao,if_false]at h;refine xk M z (Ne.symm z) ao ?_;exact zJ (bp ac _ ⟨h,bl,a5,bh⟩) xf
   simp only[ao,if_true]at h;have c3:=eq_true ao;have bv:=c2 ac _ bl;rw[Xw,Xw,co]at bv;obtain⟨ci,ch⟩:=b8;refine xk M z (Ne.symm z) c3 ?_;refine⟨cx,ZT (XP:=λ_ _=>False) bv (λY ax ⟨cg,bn,a6⟩=>?_) (λ_ _ ae=>ae.elim)⟩;subst cg;have cc:=a6 ad _ bh c8 np;cases ci with
   | true =>simp only at h;refine xa ?_;exact zJ (bp ch ax ⟨h,bn,a5.trans a6,cc⟩) xf
   | false =>simp only at h;rw[<-h]at j;simp only at j;refine xa ?_;exact bq _ _ ax ax [.bool false] nofun rfl (yT.refl _) (fin _ _ _ j.symm bn (a5.trans a6))
def shG(s:zg)(fr:List (B8×List ye))(b L bs j no:Nat)(a7:zA s<=ze)(n m:Nat)(g:ye->ye->Za->Bool×Za)(x y:ye)(cc:Ex fr n x.sub)(cb:n<=64)(cd:Ex fr m y.sub)(ca:m<=64)(b8:∀u∈Yc fr x,∀K∈Yc fr y,OW s fr b L bs j no 302 g u K):OW s fr b L bs j no 302 (shB s fr g) x y:=by
 intro S H a2;have bp:=zfp s fr b L bs j no 302 g x y n m yw cc cb cd ca b8 S;have al:=OH s x.typ x.x.nm a7;have am:=OH s y.typ y.x.nm a7;have af:=λa c=>zqV s a c (zR a7);have O:=zaX x.no y.no S.1;have a8:=λK l=>zaa x.no y.no K l;have X:shB s fr g x y S=match WF S.1 (x.no,y.no)with
  | some r=>(r,S)
  | none =>
   if Wu s ((zG s x.typ x.x.nm).getD zF).t ((zG s y.typ y.x.nm).getD zF).t=true then ((Vn g (Yc fr x) (Yc fr y) S).1,(Xo (Vn g (Yc fr x) (Yc fr y) S).2.1 (x.no,y.no) (Vn g (Yc fr x) (Yc fr y) S).1,(Vn g (Yc fr x) (Yc fr y) S).2.2))
   else (false,(Xo S.1 (x.no,y.no) false,S.2)):=rfl
 generalize co:shB s fr g x y S=F,Vn g (Yc fr x) (Yc fr y) S=W at *
 have z:=a2.look;have M:=a2.sh;have ak:∀i ce:Nat,KT.fits kPr (.agg [.i i,.i ce])=true:=λ_ _=>rfl;have fin:∀r A H',F=(r,A)->Qr s fr b L bs j no A H'->SY bs j H H'->(AV.bool r=.bool F.1/\Qr s fr b L bs j no F.2 H'/\SY bs j H H'):=λr A H' e ai a1=>by rw[e];exact⟨rfl,ai,a1⟩
 have bd:∀A H' K,Qr s fr b L bs j no A H'->SY bs j H H'->Qr s fr b L bs j no (Xo A.1 (x.no,y.no) K,A.2) (H'.upd bs (.map kPr (cPr (Xo A.1 (x.no,y.no) K))))/\SY bs j H (H'.upd bs (.map kPr (cPr (Xo A.1 (x.no,y.no) K)))):=λA H' K v b9=>by
  have cg:b≠bs:=λe=>by have:=v.look;rw[e,v.sh]at this;cases this
  have ch:L≠bs:=λe=>by have:=v.frs;rw[e,v.sh]at this;cases this
  refine⟨⟨by refine xK cg ?_;exact v.look,by refine xK ch ?_;exact v.frs,upd_same ..,by refine xK (Ne.symm v.ne) ?_;exact v.pr,v.ne⟩,λc bx a6 ai a1=>?_⟩;refine xK ai ?_;exact b9 c bx a6 ai a1
 generalize (zG s x.typ x.x.nm).isSome=cm,(zG s x.typ x.x.nm).getD zF=be,(zG s y.typ y.x.nm).isSome=cn,(zG s y.typ y.x.nm).getD zF=bf at *
 replace af:=af be.t bf.t;generalize Wu s be.t bf.t=cj at *
 obtain⟨ar,au,⟨an,ao,ap⟩,aq⟩:=be;obtain⟨az,a0,⟨av,aw,ax⟩,ay⟩:=bf;obtain⟨ag,cu,cq,cw,cr,ct,cx,cy,c2,cz,rfl⟩:=RB x;obtain⟨ah,c6,c3,c7,c4,c5,c8,c9,dc,da,rfl⟩:=RB y;simp only[ye.no,ye.x,ye.typ,zj.nm]at al am O a8 X bd;obtain⟨bv,bw,sm⟩:=s;have br:zk ⟨bv,bw,sm⟩=[.o 6 (Vd bv),.str bw,.str sm]:=rfl;simp only[br,L7,TB]at al am af z;simp only[YQ]at af;rw[YG]at al am;rw[Xw,Xw]at bp ⊢;have p:b≠bs:=nen2 z M;refine Xt ir302 λKP Q a5 cp=>?_;refine xa (zb λG aj=>?_);have h:b≠G:=nen2 z aj;have f:bs≠G:=nen2 M aj;have bh:=a2.keep (Xs (x:=.cells [.i ag,.i ah]) aj);have bn:SY bs j H (H.upd G (.cells [.i ag,.i ah])):=SY.upd (λc bx a6 _ _=>a6) aj;cases bu:WF S.1 (ag,ah)with
 | some r =>rw[bu]at O X;simp only[VF]at O;simp(disch:=omega) only[h,Ne.symm h,f,Ne.symm f,p,Ne.symm p,z,M,O,ak,W1,Option.getD_some,Option.isSome_some,go_sem];exact a5 _ _ _ _ [.bool r] nofun rfl (yT.refl _) (fin r S _ X bh bn)
 | none =>
  rw[bu]at O X;simp only[Option.map_none]at O;simp(disch:=omega) only[h,Ne.symm h,f,Ne.symm f,p,Ne.symm p,z,M,O,ak,W1,Option.getD_none,Option.isSome_none,go_sem];refine za al ?_;refine xa (zb λac ae=>?_);have C:G≠ac:=λe=>by subst e;simp[zd.upd]at ae
  have I:b≠ac:=λe=>by subst e;simp[zd.upd,h,z]at ae
  have J:bs≠ac:=λe=>by subst e;simp[zd.upd,f,M]at ae
  have b3:=bh.keep (Xs (x:=.cells [.str ar,.o 10 (Yg au),.str an,.i ao,.i ap,.o 2 (ZE aq)]) ae);have b4:=bn.upd (x:=.cells [.str ar,.o 10 (Yg au),.str an,.i ao,.i ap,.o 2 (ZE aq)]) ae;simp(disch:=omega) only[h,Ne.symm h,f,Ne.symm f,p,Ne.symm p,C,I,J,Ne.symm C,Ne.symm I,Ne.symm J,z,go_sem];refine za am ?_;refine xa (zb λad Y=>?_);have U:G≠ad:=λe=>by subst e;simp[zd.upd,C]at Y
  have Z:b≠ad:=λe=>by subst e;simp[zd.upd,h,I,z]at Y
  have aa:bs≠ad:=λe=>by subst e;simp[zd.upd,f,J,M]at Y
  have ab:ac≠ad:=λe=>by subst e;simp[zd.upd]at Y
  have a3:=b3.keep (Xs (x:=.cells [.str az,.o 10 (Yg a0),.str av,.i aw,.i ax,.o 2 (ZE ay)]) Y);have bj:=b4.upd (x:=.cells [.str az,.o 10 (Yg a0),.str av,.i aw,.i ax,.o 2 (ZE ay)]) Y;simp(disch:=omega) only[h,Ne.symm h,f,Ne.symm f,p,Ne.symm p,C,I,J,Ne.symm C,Ne.symm I,Ne.symm J,U,Z,aa,ab,Ne.symm U,Ne.symm Z,Ne.symm aa,Ne.symm ab,z,go_sem];refine za af ?_;cases cj with
  | false =>have a9:=a8 false S.1;obtain⟨ba,bc⟩:=bd S _ false a3 bj;simp(disch:=omega) only[h,Ne.symm h,f,Ne.symm f,p,Ne.symm p,C,I,J,Ne.symm C,Ne.symm I,Ne.symm J,U,Z,aa,ab,Ne.symm U,Ne.symm Z,Ne.symm aa,Ne.symm ab,z,M,ak,a9,go_sem];exact a5 _ _ _ _ [.bool false] nofun rfl (yT.refl _) (fin false _ _ X ba bc)
  | true =>
   have b6:=bp _ a3;have bg:(((H.upd G (.cells [.i ag,.i ah])).upd ac (.cells [.str ar,.o 10 (Yg au),.str an,.i ao,.i ap,.o 2 (ZE aq)])).upd ad (.cells [.str az,.o 10 (Yg a0),.str av,.i aw,.i ax,.o 2 (ZE ay)])) G=some (.cells [.i ag,.i ah]):=by simp[zd.upd,C,U]
   have ci:G≠j:=λe=>by have:=a3.pr;rw[<-e,bg]at this;cases this
   simp(disch:=omega) only[h,Ne.symm h,f,Ne.symm f,p,Ne.symm p,C,I,J,Ne.symm C,Ne.symm I,Ne.symm J,U,Z,aa,ab,Ne.symm U,Ne.symm Z,Ne.symm aa,Ne.symm ab,z,go_sem];refine ZT (XP:=λ_ _=>False) b6 (λK bz ⟨b2,a4,bl⟩=>?_) (λ_ _ v=>v.elim);subst b2;have b5:=bj.trans bl;have b1:=bl G _ bg (Ne.symm f) ci;have bq:=a4.look;simp only[br,L7,TB]at bq;have b7:=a4.sh;have a9:=a8 W.1 W.2.1;obtain⟨ba,bc⟩:=bd W.2 bz W.1 a4 b5;refine xp bq b7 b1 ak a9 ?_;exact a5 _ _ _ _ [.bool W.1] nofun rfl (yT.refl _) (fin W.1 _ _ X ba bc)
def shC(s:zg)(fr:List (B8×List ye))(b g bs h no:Nat)(j:zA s<=ze):∀(f m:Nat) (x y:ye),f<=64->m<=64->Ex fr f x.sub->Ex fr m y.sub->OW s fr b g bs h no 302 (Oa s fr f) x y
 | 0,m,x,y,hf,hm,hx,hy=>shG s fr b g bs h no j 0 m _ x y hx hf hy hm λu p z v=>by obtain⟨i,hi,_⟩:=Y9 (seen:=[]) (f:=64) hx hf p;omega
 | f+1,m,x,y,hf,hm,hx,hy=>shG s fr b g bs h no j (f+1) m (Oa s fr f) x y hx hf hy hm λu p z v=>by obtain⟨i,hi,A,_⟩:=Y9 (seen:=[]) (f:=64) hx hf p;obtain⟨G,I,C,_⟩:=Y9 (seen:=[]) (f:=64) hy hm v;exact shC s fr b g bs h no j f G u z xg xg (A.mono xg) C
noncomputable def tgB(s:zg)(fr:List (B8×List ye))(g:ye->ye->Za->Bool×Za)(x y:ye)(S:Za):Bool×Za :=
 match WF S.2 (x.no,y.no)with
 | some r=>(r,S)
 | none =>
  if (Oa s fr 64 x y S).1=true then
   if Oz s x y=true then (true,((Oa s fr 64 x y S).2.1,Xo (Oa s fr 64 x y S).2.2 (x.no,y.no) true))
   else if (decide (x.x.nm=y.x.nm)&&Y8 x.args y.args)=true then ((Vn g (Yc fr x) (Yc fr y) (Oa s fr 64 x y S).2).1,((Vn g (Yc fr x) (Yc fr y) (Oa s fr 64 x y S).2).2.1,Xo (Vn g (Yc fr x) (Yc fr y) (Oa s fr 64 x y S).2).2.2 (x.no,y.no) (Vn g (Yc fr x) (Yc fr y) (Oa s fr 64 x y S).2).1))
   else (false,((Oa s fr 64 x y S).2.1,Xo (Oa s fr 64 x y S).2.2 (x.no,y.no) false))
  else (false,((Oa s fr 64 x y S).2.1,Xo (Oa s fr 64 x y S).2.2 (x.no,y.no) false))
noncomputable def tgF(s:zg)(fr:List (B8×List ye)):Nat->ye->ye->Za->Bool×Za
 | 0=>tgB s fr λ_ _ S=>(true,S)
 | n+1=>tgB s fr (tgF s fr n)
def tgG(s:zg)(fr:List (B8×List ye))(b A bs f no:Nat)(a2:zA s<=ze)(n m:Nat)(g:ye->ye->Za->Bool×Za)(x y:ye)(bj:Ex fr n x.sub)(bg:n<=64)(bl:Ex fr m y.sub)(bf:m<=64)(b7:ZC x.args<=ze)(b8:ZC y.args<=ze)(b2:∀u∈Yc fr x,∀h∈Yc fr y,OW s fr b A bs f no 203 g u h):OW s fr b A bs f no 203 (tgB s fr g) x y:=by
 intro S H ar;have am:=zfp s fr b A bs f no 203 g x y n m yw bj bg bl bf b2;have ah:=SO s x.typ [1] (zR a2) wX;have av:=SO s y.typ [1] (zR a2) wX;have ai:=shC s fr b A bs f no a2 64 m x y (ZG _) bf (bj.mono bg) bl S;have be:=zqH x.args y.args b7 b8;have O:=zaX x.no y.no S.2;have a3:=λh l=>zaa x.no y.no h l;have aq:Oz s x y=(!decide (x.typ=y.typ)&&yA s x.typ [1]&&yA s y.typ [1]):=rfl;have v:tgB s fr g x y S=match WF S.2 (x.no,y.no)with
  | some r=>(r,S)
  | none =>
   if (Oa s fr 64 x y S).1=true then
    if Oz s x y=true then (true,((Oa s fr 64 x y S).2.1,Xo (Oa s fr 64 x y S).2.2 (x.no,y.no) true))
    else if (decide (x.x.nm=y.x.nm)&&Y8 x.args y.args)=true then ((Vn g (Yc fr x) (Yc fr y) (Oa s fr 64 x y S).2).1,((Vn g (Yc fr x) (Yc fr y) (Oa s fr 64 x y S).2).2.1,Xo (Vn g (Yc fr x) (Yc fr y) (Oa s fr 64 x y S).2).2.2 (x.no,y.no) (Vn g (Yc fr x) (Yc fr y) (Oa s fr 64 x y S).2).1))
    else (false,((Oa s fr 64 x y S).2.1,Xo (Oa s fr 64 x y S).2.2 (x.no,y.no) false))
   else (false,((Oa s fr 64 x y S).2.1,Xo (Oa s fr 64 x y S).2.2 (x.no,y.no) false)):=rfl
 generalize ci:tgB s fr g x y S=F,Oa s fr 64 x y S=C at *
 replace am:=am C.2;generalize Vn g (Yc fr x) (Yc fr y) C.2=B at *
 have M:=ar.look;have af:=ar.pr;have J:∀i b9:Nat,KT.fits kPr (.agg [.i i,.i b9])=true:=λ_ _=>rfl;have fin:∀r K H',F=(r,K)->Qr s fr b A bs f no K H'->SY bs f H H'->(AV.bool r=.bool F.1/\Qr s fr b A bs f no F.2 H'/\SY bs f H H'):=λr K H' e ab L=>by rw[e];exact⟨rfl,ab,L⟩
 have a7:∀K H' h,Qr s fr b A bs f no K H'->SY bs f H H'->Qr s fr b A bs f no (K.1,Xo K.2 (x.no,y.no) h) (H'.upd f (.map kPr (cPr (Xo K.2 (x.no,y.no) h))))/\SY bs f H (H'.upd f (.map kPr (cPr (Xo K.2 (x.no,y.no) h)))):=λK H' h j b3=>by
  have cc:b≠f:=λe=>by have:=j.look;rw[e,j.pr]at this;cases this
  have cd:A≠f:=λe=>by have:=j.frs;rw[e,j.pr]at this;cases this
  refine⟨⟨by refine xK cc ?_;exact j.look,by refine xK cd ?_;exact j.frs,by simp only[zd.upd,j.ne,if_false];exact j.sh,upd_same ..,j.ne⟩,λc bp a0 ab L=>?_⟩;refine xK L ?_;exact b3 c bp a0 ab L
 generalize Oz s x y=ap,yA s x.typ [1]=a4,yA s y.typ [1]=ca,Y8 x.args y.args=cb at *
 obtain⟨Y,cp,cm,ce,cn,co,cq,cr,ax,ct,rfl⟩:=RB x;obtain⟨Z,cy,cu,cg,cw,cx,cz,c2,ay,c3,rfl⟩:=RB y;simp only[ye.no,ye.x,ye.typ,zj.nm,ye.args]at ah av O a3 v a7 be aq;obtain⟨W,X,sm⟩:=s;have b1:zk ⟨W,X,sm⟩=[.o 6 (Vd W),.str X,.str sm]:=rfl;simp only[b1,L7,TB]at ah av M;rw[Xw,Xw]at am ai ⊢;have I:b≠f:=nen2 M af;refine Xt ir203 λKP Q ac cj=>?_;refine xa (zb λU ae=>?_);have G:b≠U:=nen2 M ae;have z:f≠U:=nen2 af ae;have bn:U≠bs:=λe=>by subst e;rw[ar.sh]at ae;cases ae
 have ba:=ar.keep (Xs (x:=.cells [.i Y,.i Z]) ae);have bd:SY bs f H (H.upd U (.cells [.i Y,.i Z])):=SY.upd (λc bp a0 _ _=>a0) ae;cases bh:WF S.2 (Y,Z)with
 | some r =>rw[bh]at O v;simp only[VF]at O;simp(disch:=omega) only[G,Ne.symm G,z,Ne.symm z,I,Ne.symm I,M,af,O,J,W1,Option.getD_some,Option.isSome_some,go_sem];exact ac _ _ _ _ [.bool r] nofun rfl (yT.refl _) (fin r S _ v ba bd)
 | none =>
  rw[bh]at O v;simp only[Option.map_none]at O;replace ai:=ai _ ba;have ao:∀(h:Bool) p,Qr ⟨W,X,sm⟩ fr b A bs f no C.2 p->SY bs f H p->F=(h,(C.2.1,Xo C.2.2 (Y,Z) h))->(AV.bool h=.bool F.1/\Qr ⟨W,X,sm⟩ fr b A bs f no F.2 (p.upd f (.map kPr (cPr (Xo C.2.2 (Y,Z) h))))/\SY bs f H (p.upd f (.map kPr (cPr (Xo C.2.2 (Y,Z) h))))):=λh p ab L e=>by obtain⟨a5,a6⟩:=a7 C.2 p h ab L;exact fin h _ _ e a5 a6
  have after:∀(h:AV) p,(h=.bool C.1/\Qr ⟨W,X,sm⟩ fr b A bs f no C.2 p/\SY bs f (H.upd U (.cells [.i Y,.i Z])) p)->h=.bool C.1/\Qr ⟨W,X,sm⟩ fr b A bs f no C.2 p/\SY bs f H p/\p U=some (.cells [.i Y,.i Z])/\p b=some (.cells [.o 6 (Vd W),.str X,.str sm,.i no,.mp A,.mp bs,.mp f])/\p f=some (.map kPr (cPr C.2.2)):=λh p ⟨ab,L,a9⟩ =>⟨ab,L,bd.trans a9,a9 U _ (upd_same ..) bn (Ne.symm z),L.look,L.pr⟩;obtain⟨br,ch,bq⟩:=C;simp only at after ao v am;have aj:=λh=>a3 h bq;have pre:(ax=ay/\ap=false)∨(ax≠ay/\a4=false/\ap=false)∨(ax≠ay/\a4=true/\ca=ap):=by
   by_cases j:ax=ay
   ·exact .inl ⟨j,by rw[aq];simp[j]⟩
   ·cases a4 with
    | false=>exact .inr (.inl ⟨j,rfl,by rw[aq];simp⟩)
    | true=>exact .inr (.inr ⟨j,rfl,by rw[aq];simp[j]⟩)
  rcases pre with ⟨an,au⟩|⟨an,a1,au⟩|⟨an,a1,au⟩
  case' inl =>have b6:=eq_true an;simp(disch:=omega) only[G,Ne.symm G,z,Ne.symm z,I,Ne.symm I,M,af,O,J,W1,Option.getD_none,Option.isSome_none,b6,go_sem];refine ZT (XP:=λ_ _=>False) ai (λh p j=>?_) (λ_ _ j=>j.elim)
  case' inr.inl =>rw[a1]at ah;simp(disch:=omega) only[G,Ne.symm G,z,Ne.symm z,I,Ne.symm I,M,af,O,J,W1,Option.getD_none,Option.isSome_none,an,go_sem];refine za (Zk.low ah) ?_;refine xG G (Ne.symm G) z (Ne.symm z) I (Ne.symm I) M ?_;refine ZT (XP:=λ_ _=>False) ai (λh p j=>?_) (λ_ _ j=>j.elim)
  case' inr.inr =>rw[a1]at ah;rw[au]at av;simp(disch:=omega) only[G,Ne.symm G,z,Ne.symm z,I,Ne.symm I,M,af,O,J,W1,Option.getD_none,Option.isSome_none,an,go_sem];refine za (Zk.low ah) ?_;refine xG G (Ne.symm G) z (Ne.symm z) I (Ne.symm I) M ?_;refine za (Zk.low av) ?_;refine xG G (Ne.symm G) z (Ne.symm z) I (Ne.symm I) M ?_;refine ZT (XP:=λ_ _=>False) ai (λh p j=>?_) (λ_ _ j=>j.elim)
  all_goals
   obtain⟨rfl,ak,al,aa,ad,ag⟩:=after h p j;have bw:=am p ak;cases br with
   | false =>simp only[Ql,if_false]at v;refine xp ad aa ag J aj ?_;exact ac _ _ _ _ [.bool false] nofun rfl (yT.refl _) (ao false p ak al v)
   | true =>
    simp only[if_true]at v;cases ap with
    | true =>
     first
     | (cases au;done)
     | (simp only[if_true]at v;refine xp ad aa ag J aj ?_;exact ac _ _ _ _ [.bool true] nofun rfl (yT.refl _) (ao true p ak al v))
    | false =>
     simp only[Ql,if_false]at v;by_cases aw:ce=cg
     case neg =>simp only[aw,decide_false,Bool.false_and,Ql,if_false]at v;refine xu ad aa ag J aj aw ?_;exact ac _ _ _ _ [.bool false] nofun rfl (yT.refl _) (ao false p ak al v)
     have b4:=eq_true aw;simp only[aw,decide_true,Bool.true_and]at v;refine xH ad aa ag J aj b4 be ?_;cases cb with
     | false =>simp only[Ql,if_false]at v;refine xp ad aa ag J aj ?_;exact ac _ _ _ _ [.bool false] nofun rfl (yT.refl _) (ao false p ak al v)
     | true =>simp only[if_true]at v;refine xp ad aa ag J aj ?_;refine ZT (XP:=λ_ _=>False) bw (λh a8 ⟨bv,az,bc⟩=>?_) (λ_ _ j=>j.elim);subst bv;have bu:=bc U _ aa bn (Ne.symm z);have bx:a8 b=some (.cells [.sl .no 6 (Vd W),.str X,.str sm,.int .i64 no,.mp A,.mp bs,.mp f]):=az.look;have bz:=az.pr;have b5:=a3 B.1 B.2.2;obtain⟨a5,a6⟩:=a7 B.2 a8 B.1 az (al.trans bc);refine xp bx bu bz J b5 ?_;exact ac _ _ _ _ [.bool B.1] nofun rfl (yT.refl _) (fin B.1 _ _ v a5 a6)
def tgC(s:zg)(fr:List (B8×List ye))(b g bs h no:Nat)(j:zA s<=ze):∀(f m:Nat) (x y:ye),f<=64->m<=64->Ex fr f x.sub->Ex fr m y.sub->ZC x.args<=ze->ZC y.args<=ze->OW s fr b g bs h no 203 (tgF s fr f) x y
 | 0,m,x,y,hf,hm,hx,hy,hxa,hya=>tgG s fr b g bs h no j 0 m _ x y hx hf hy hm hxa hya λu p z v=>by obtain⟨i,hi,_⟩:=Y9 (seen:=[]) (f:=64) hx hf p;omega
 | f+1,m,x,y,hf,hm,hx,hy,hxa,hya=>tgG s fr b g bs h no j (f+1) m (tgF s fr f) x y hx hf hy hm hxa hya λu p z v=>by obtain⟨i,hi,A,G⟩:=Y9 (seen:=[]) (f:=64) hx hf p;obtain⟨J,K,C,I⟩:=Y9 (seen:=[]) (f:=64) hy hm v;exact tgC s fr b g bs h no j f J u z xg xg (A.mono xg) C G I
def rowB(g:ye->ye->Za->Bool×Za)(x:ye):List ye->Za->Bool×Za
 | [],S=>(true,S)
 | y::r,S=>if yW x.x=yW y.x then (match g y x S with|(true,S')=>rowB g x r S'|(false,S')=>(false,S'))else rowB g x r S
def V1(g:ye->ye->Za->Bool×Za):List ye->List ye->Za->Bool×Za
 | _,[],S=>(true,S)
 | a,x::r,S=>match rowB g x a S with|(true,S')=>V1 g (a++[x]) r S'|(false,S')=>(false,S')
def Pi(h:List ye->Za->Bool×Za):List ye->Za->Bool×Za
 | [],S=>(true,S)
 | x::r,S=>match h x.sub S with|(true,S')=>Pi h r S'|(false,S')=>(false,S')
noncomputable def lsB(s:zg)(fr:List (B8×List ye))(h:List ye->Za->Bool×Za)(l:List ye)(S:Za):Bool×Za :=match V1 (tgF s fr 64) [] (Us fr 64 l []).1 S with|(true,S')=>Pi h l S'|(false,S')=>(false,S')
noncomputable def lsF(s:zg)(fr:List (B8×List ye)):Nat->List ye->Za->Bool×Za
 | 0=>lsB s fr λ_ S=>(true,S)
 | n+1=>lsB s fr (lsF s fr n)
def zhW(s:zg)(fr:List (B8×List ye))(b g bs f no:Nat)(h:List ye->Za->Bool×Za)(l:List ye):Prop :=∀S H,Qr s fr b g bs f no S H->zZ 104 [.ptr b 0,.o 10 (ZU l)] H (λe H'=>match e with|.ret v=>v=.bool (h l S).1/\Qr s fr b g bs f no (h l S).2 H'/\SY bs f H H'|.pan _=>False)
def lsG(s:zg)(fr:List (B8×List ye))(b p bs g no:Nat)(dc:zA s<=ze)(n:Nat)(h:List ye->Za->Bool×Za)(l:List ye)(aw:Ex fr n l)(a6:n<=64)(dd:∀x∈l,zhW s fr b p bs g no h x.sub):zhW s fr b p bs g no (lsB s fr h) l:=by
 intro S H a1;have ci:∀x∈(Us fr 64 l []).1,∀y∈(Us fr 64 l []).1,OW s fr b p bs g no 203 (tgF s fr 64) x y:=λx hx1 y dj=>by obtain⟨i,hi,ay,br⟩:=Y9 aw a6 hx1;obtain⟨dm,dy,az,cx⟩:=Y9 aw a6 dj;exact tgC s fr b p bs g no dc 64 dm x y (ZG _) xg (ay.mono xg) az br cx
 have c4:=ND (seen:=[]) aw a6;have dz:l.length<=n:=by
  have h:∀(l:List ye) n,Ex fr n l->l.length<=n:=by
   intro l;induction l with
   | nil=>intro n _;simp
   | cons x r dl =>
    intro n h;cases h with
    | cons ch ay az br dx=>have:=dl _ br;simp only[yg];omega
  exact h l n aw
 have ab:lsB s fr h l S=match V1 (tgF s fr 64) [] (Us fr 64 l []).1 S with|(true,f)=>Pi h l f|(false,f)=>(false,f):=rfl
 obtain⟨U,W,sm⟩:=s;have cd:=λH bm c5 c6 aj A=>znX fr b p (.o 6 (Vd U)) (.str W) (.str sm) (.i no) (.mp bs) (.mp g) n l [] H bm 64 aw a6 xg c5 c6 aj A;generalize du:lsB ⟨U,W,sm⟩ fr h l S=F,Us fr 64 l []=cw at *
 obtain⟨all,d2⟩:=cw;simp only at ci c4 ab cd;generalize tgF ⟨U,W,sm⟩ fr 64=am at *
 have a7:=WG all;have b3:=WG l;generalize c2:V1 am [] all S=cq at *
 have fin:∀r f H',F=(r,f)->Qr ⟨U,W,sm⟩ fr b p bs g no f H'->SY bs g H H'->(AV.bool r=.bool F.1/\Qr ⟨U,W,sm⟩ fr b p bs g no F.2 H'/\SY bs g H H'):=λr f H' e ay az=>by rw[e];exact⟨rfl,ay,az⟩
 refine Xt ir104 λKP Q bw dv=>?_;refine xa (zb λbm aj=>?_);have bx:=Xs (x:=.map (.one .s) (cSn [])) aj;have dn:p≠bm:=λe=>by subst e;rw[a1.frs]at aj;cases aj
 refine xa ?_;refine ZT (XP:=λ_ _=>False) (cd _ bm (bx _ _ a1.look) (bx _ _ a1.frs) (upd_same ..) dn) (λcm cn ⟨o1,cu,c9⟩=>?_) (λ_ _ h=>h.elim);subst cu;have cg:∀c x,H c=some x->cn c=some x:=λc x a4=>c9.kept c x (bx c x a4) (nen2 aj a4);have cy:=a1.keep cg;refine xc a7 ?_;refine zc all 18 (λ_:Za=>[]) (λv ae f H'=>V1 am v ae f=cq/\Qr ⟨U,W,sm⟩ fr b p bs g no f H'/\SY bs g H H') S xb ⟨c2,cy,λc x a4 _ _=>cg c x a4⟩ ?_ ?_
 ·rintro ax co cp ⟨z,an,bu⟩ b2;simp only[V1]at z;rw[<-z]at ab;simp only at ab;refine xe a7 b2 b3 ?_;refine zc l 47 (λ_:Za=>[]) (λv ae f H'=>Pi h ae f=F/\Qr ⟨U,W,sm⟩ fr b p bs g no f H'/\SY bs g H H') ax xb ⟨ab.symm,an,bu⟩ ?_ ?_
  ·rintro bl bh bj ⟨O,ao,ar⟩ ad;simp only[Pi]at O;refine xd b3 ad ?_;exact bw _ _ bh bh [.bool true] nofun rfl (yT.refl _) (fin _ _ _ O.symm ao ar)
  ·rintro v x ae bl bh bj ac ad _ ⟨O,ao,ar⟩ a2;have av:=TW ac;have cj:=dd x (xv ac);simp only[Pi]at O;generalize a0:h x.sub bl=bg at *
   obtain⟨X,J,C,K,G,I,L,M,Z,Y,rfl⟩:=RB x;simp only[ye.sub]at cj a0;rw[Xw]at av;refine xe b3 ad av (zb λdr cb=>?_);have ap:=ao.keep (Xs (x:=.cells [.i X,.i J,.str C,.str K,.o 6 (Ya G),.o 2 (ZE I),.str L,.o 7 (Zp M),.str Z,.o 10 (ZU Y)]) cb);have ag:=ar.upd (x:=.cells [.i X,.i J,.str C,.str K,.o 6 (Ya G),.o 2 (ZE I),.str L,.o 7 (Zp M),.str Z,.o 10 (ZU Y)]) cb;have au:=cj bl _ ap;rw[a0]at au;obtain⟨bq,bp⟩:=bg;refine xa ?_;refine ZT (XP:=λ_ _=>False) au (λcm aa ⟨bn,aq,ah⟩=>?_) (λ_ _ h=>h.elim);subst bn;cases bq with
   | true =>simp only at O;refine xa ?_;exact zJ (a2 bp aa ⟨O,aq,ag.trans ah⟩) xf
   | false =>simp only at O;refine xa ?_;exact bw _ _ aa aa [.bool false] nofun rfl (yT.refl _) (fin _ _ _ O.symm aq (ag.trans ah))
 ·rintro v x ae ax co cp ac b2 d0 ⟨z,an,bu⟩ cz;have ce:=TW ac;have dh:x∈all:=xv ac
  have de:(ZU all).take v.length=ZU v:=by rw[ac];simp[UT]
  have ch:(v.length:Int)<=all.length:=xg
  have b4:=WG v;simp only[V1]at z;have bz:=zlW x.x;have c7:=λy di=>ci y di x dh;generalize c3:rowB am x v ax=R at *
  obtain⟨X,J,C,K,G,I,L,M,Z,Y,rfl⟩:=RB x;simp only[ye.x]at bz;rw[Xw]at ce;rw[Zt]at bz;refine xe a7 b2 ce (zb λal ai=>?_);have ao:=an.keep (Xs (x:=.cells [.i X,.i J,.str C,.str K,.o 6 (Ya G),.o 2 (ZE I),.str L,.o 7 (Zp M),.str Z,.o 10 (ZU Y)]) ai);have ar:=bu.upd (x:=.cells [.i X,.i J,.str C,.str K,.o 6 (Ya G),.o 2 (ZE I),.str L,.o 7 (Zp M),.str Z,.o 10 (ZU Y)]) ai;have dq:al≠bs:=λe=>by subst e;rw[an.sh]at ai;cases ai
  have np:al≠g:=λe=>by subst e;rw[an.pr]at ai;cases ai
  refine xk a7 ch de b4 ?_;refine zc v 27 (λ_:Za=>[]) (λv ae f H'=>rowB am (.mk X (.mk J C K G I L M) Z Y) ae f=R/\Qr ⟨U,W,sm⟩ fr b p bs g no f H'/\SY bs g H H'/\H' al=some (.cells [.i X,.i J,.str C,.str K,.o 6 (Ya G),.o 2 (ZE I),.str L,.o 7 (Zp M),.str Z,.o 10 (ZU Y)])) ax xb ⟨c3,ao,ar,upd_same ..⟩ ?_ ?_
  ·rintro ak b8 bj ⟨j,ap,ag,_⟩ ad;simp only[rowB]at j;rw[<-j]at z;simp only at z;refine xd b4 ad ?_;exact zJ (cz ak b8 ⟨z,ap,ag⟩) xf
  ·rintro dt y d1 ak b8 bj cc ad _ ⟨j,ap,ag,af⟩ a2;have av:=TW cc;have dk:y∈all:=by rw[ac,cc];simp
   have c8:=c7 y dk;have b1:=zlW y.x;simp only[rowB]at j;generalize a0:am y (.mk X (.mk J C K G I L M) Z Y) ak=bg at *
   obtain⟨b5,bc,a8,bd,a9,ba,be,bf,b7,b6,rfl⟩:=RB y;simp only[ye.x]at b1 j;rw[Xw]at av;rw[Zt]at b1;refine xe b4 ad av (zb λcr a3=>?_);have A:al≠cr:=nen2 af a3;have ca:=ap.keep (Xs (x:=.cells [.i b5,.i bc,.str a8,.str bd,.o 6 (Ya a9),.o 2 (ZE ba),.str be,.o 7 (Zp bf),.str b7,.o 10 (ZU b6)]) a3);have bv:=ag.upd (x:=.cells [.i b5,.i bc,.str a8,.str bd,.o 6 (Ya a9),.o 2 (ZE ba),.str be,.o 7 (Zp bf),.str b7,.o 10 (ZU b6)]) a3;have b9:=Xs (x:=.cells [.i b5,.i bc,.str a8,.str bd,.o 6 (Ya a9),.o 2 (ZE ba),.str be,.o 7 (Zp bf),.str b7,.o 10 (ZU b6)]) a3 _ _ af;refine xm af A (Ne.symm A) bz ?_;refine xm af A (Ne.symm A) b1 ?_;by_cases a5:yW (.mk J C K G I L M)=yW (.mk bc a8 bd a9 ba be bf)
   case neg =>simp only[a5,if_false]at j;refine xk af A (Ne.symm A) a5 ?_;exact zJ (a2 ak _ ⟨j,ca,bv,b9⟩) xf
   simp only[a5,if_true]at j;have da:=eq_true a5;have au:=c8 ak _ ca;rw[Xw,Xw,a0]at au;obtain⟨bq,bp⟩:=bg;refine xk af A (Ne.symm A) da ?_;refine ZT (XP:=λ_ _=>False) au (λcm aa ⟨bn,aq,ah⟩=>?_) (λ_ _ h=>h.elim);subst bn;have ct:=ah al _ b9 dq np;cases bq with
   | true =>simp only at j;refine xa ?_;exact zJ (a2 bp aa ⟨j,aq,bv.trans ah,ct⟩) xf
   | false =>simp only at j;rw[<-j]at z;simp only at z;rw[<-z]at ab;simp only at ab;refine xa ?_;exact bw _ _ aa aa [.bool false] nofun rfl (yT.refl _) (fin _ _ _ ab aq (bv.trans ah))
def lsC(s:zg)(fr:List (B8×List ye))(b g bs h no:Nat)(p:zA s<=ze):∀(f:Nat) (l:List ye),f<=64->Ex fr f l->zhW s fr b g bs h no (lsF s fr f) l
 | 0,l,hf,hx=>lsG s fr b g bs h no p 0 _ l hx hf λx j=>by rw[hx.zero]at j;cases j
 | f+1,l,hf,hx=>lsG s fr b g bs h no p (f+1) (lsF s fr f) l hx hf λx j=>lsC s fr b g bs h no p f x.sub xg (hx.sub j)
def zY.lowH{P:Program}{f:FuncId}{args:List AV}{p B:zd}{Q:Tf->zd->Prop}(g:yT B p)(h:zY P f args B Q):zY P f args p Q:=λγ w A y v z =>(h γ w A y (g.st γ w v) z).mono λ_ _ ⟨γ',H',r,a,b,c,d,e⟩=>⟨γ',H',r,a.weaken λx j=>g.keys x j,b,λx j=>(c x j).imp (g.keys x) id,d,e⟩
def Vu(es:List (AV×AV)):List (AV×AV):=es.map λx=>(x.1,x.2.strip1)
def yT.map{j:zd}{b:Nat}{p:KT}{es:List (AV×AV)}(y:j b=some (.map p es)):yT (j.upd b (.map p (Vu es))) j:=by
 refine⟨λc g=>?_,λγ w z c o g=>?_⟩
 ·by_cases e:c=b
  ·subst e;rw[y];rfl
  ·simpa[zd.upd,e]using g
 ·by_cases e:c=b
  ·subst e;simp only[zd.upd,if_true,Y1]at g;subst g;cases z c _ y with
   | map _ _ A clock hf I C J K =>
    refine .map p (Vu es) A clock (λx f=>?_) I C (by simpa[Vu]using J) (λi x e f G=>?_)
    ·obtain⟨v,h,rfl⟩:=List.mem_map.1 f;exact hf v h
    ·simp only[Vu,W5]at f;cases h:es[i]? with
     | none=>simp[h]at f
     | some v =>simp only[h,VF,Y1]at f;subst f;have:=K i v e h G;exact⟨this.key,this.val.strip1⟩
  ·exact z c o (by simpa[zd.upd,e]using g)
def N6(k:AV):∀f:List (AV×AV),Ud (Vu f) k=(Ud f k).map AV.strip1
 | []=>rfl
 | (a,u)::r=>by have:=N6 k r;simp only[Vu]at this;simp only[Vu,List.map_cons,Ud,this];split<;>rfl
def MC(k v:AV):∀f:List (AV×AV),Vu (Ti f k v)=Ti (Vu f) k v.strip1
 | []=>rfl
 | (a,u)::r=>by
  have:=MC k v r;simp only[Vu]at this;simp only[Vu,List.map_cons,Ti];split
  ·rfl
  ·simp only[List.map_cons,this]
def zcJ(n:B8)(v:AV):∀f:List (AV×AV),Ud (Ti f (.str n) v) (.str n)=some v
 | []=>by simp[Ti,Ud,zd9]
 | (a,u)::r=>by
  have:=zcJ n v r;simp only[Ti];split
  ·simp[Ud,zd9]
  ·rename_i g;simp only[Ud,g,this];simp
def Yj(fr:List (B8×List ye))(n:B8):Option (B8×List ye):=fr.find? λe=>decide (n=e.1)
def zcO(n:B8):∀fr:List (B8×List ye),Ud (cFr fr) (.str n)=(Yj fr n).map λe=>.o 10 (ZU e.2)
 | []=>rfl
 | (a,u)::r=>by
  have:=zcO n r;simp only[cFr,Yj]at this;simp only[cFr,Yj,List.map_cons,Ud,zd9,List.find?_cons];by_cases f:n=a
  ·simp[f]
  ·simpa[f]using this
def zfC(n:B8)(it:List ye):∀fr:List (B8×List ye),Yj fr n=none->Ti (cFr fr) (.str n) (.o 10 (ZU it))=cFr (fr++[(n,it)])
 | [],_=>rfl
 | (a,u)::r,h=>by
  simp only[Yj,List.find?_cons]at h;by_cases e:n=a
  ·simp[e]at h
  ·have:=zfC n it r (by simpa[e,Yj]using h);simp only[cFr]at this;simp only[cFr,List.map_cons,Ti,zd9,e,decide_false,Ql,if_false,this,L7]
def cIL(l:List (List ye)):List (List AV):=l.map λx=>[.o 10 (ZU x)]
def K3(l:List (List ye)):(cIL l).length=l.length:=by simp[cIL]
def zmE{l a:List (List ye)}{x:List ye}{b:List (List ye)}(h:l=a++x::b):(cIL l).getD a.length []=[.o 10 (ZU x)]:=Z2 h
abbrev Q5:=List (B8×List ye)×List (List ye)×Nat
def rFr(s:zg)(g:Q5)(f:yE):Q5:=match Yj g.1 f.nm with
 | some _=>g
 | none=>(g.1++[(f.nm,(yC s f.sels f.on g.2.2).1)],g.2.1++[(yC s f.sels f.on g.2.2).1],(yC s f.sels f.on g.2.2).2)
def rOp(s:zg)(f:Q5)(o:Y6):Q5:=(f.1,f.2.1++[(yC s o.sels (ZS s o) f.2.2).1],(yC s o.sels (ZS s o) f.2.2).2)
def Zy(s:zg)(d:zv):Q5:=d.ops.foldl (rOp s) (d.frags.foldl (rFr s) ([],[],0))
def QA(h:List ye->Za->Bool×Za):List (List ye)->Za->Bool×Za
 | [],S=>(true,S)
 | x::r,S=>match h x S with|(true,S')=>QA h r S'|(false,S')=>(false,S')
noncomputable def mgM(s:zg)(d:zv):Bool:=!Vv d&&(QA (lsF s (Zy s d).1 64) (Zy s d).2.1 ([],[])).1
noncomputable def R0(s:zg)(d:zv)(n:Int):Bool:=decide (n=24)&&mgM s d
def Pn(fr:List (B8×List ye))(n:B8):Ob fr n=((Yj fr n).map (·.2)).getD []:=rfl
def SG(fr:List (B8×List ye))(a:B8)(it:List ye)(n:B8):Yj (fr++[(a,it)]) n=(Yj fr n).or (if n=a then some (a,it)else none):=by
 simp only[Yj,List.find?_append]
 congr 1
 by_cases f:n=a<;>simp[f]
def zi9(s:zg):∀(z p:List yE) (g:Q5),(∀n,∃j no,(Yj g.1 n).map (·.2)=((p.find? (V7 n)).map λf=>(yC s f.sels j no).1))->∀n,∃j no,(Yj (z.foldl (rFr s) g).1 n).map (·.2)=(((p++z).find? (V7 n)).map λf=>(yC s f.sels j no).1)
 | [],p,g,h=>by simpa using h
 | f::z,p,g,h=>by
  have G:=zi9 s z (p++[f]) (rFr s g f) (λn=>by
   obtain⟨j,no,e⟩:=h n;cases hf:Yj g.1 f.nm with
   | some x =>
    have C:rFr s g f=g:=by unfold rFr;rw[hf]
    rw[C,List.find?_append];refine⟨j,no,?_⟩;rw[e];cases A:p.find? (V7 n)with
    | some I=>simp
    | none =>
     by_cases v:f.nm=n
     ·rw[v]at hf;rw[hf,A]at e;simp at e
     ·simp[V7,v]
   | none =>
    have C:(rFr s g f).1=g.1++[(f.nm,(yC s f.sels f.on g.2.2).1)]:=by unfold rFr;rw[hf]
    rw[C,SG,List.find?_append];cases A:p.find? (V7 n)with
    | some I =>
     refine⟨j,no,?_⟩;rw[A]at e;cases y:Yj g.1 n with
     | none=>rw[y]at e;simp at e
     | some J=>rw[y]at e;simpa using e
    | none =>
     rw[A]at e;have y:Yj g.1 n=none:=by
      cases y:Yj g.1 n with
      | none=>rfl
      | some J=>rw[y]at e;simp at e
     refine⟨f.on,g.2.2,?_⟩;rw[y];by_cases v:f.nm=n
     ·subst v;simp[V7]
     ·have:¬ n=f.nm:=λe=>v e.symm;simp[V7,v,this])
  intro n;obtain⟨j,no,e⟩:=G n;exact⟨j,no,by rw[List.foldl_cons,e];simp⟩
def zef(s:zg):∀(os:List Y6) (f:Q5),(os.foldl (rOp s) f).1=f.1
 | [],f=>rfl
 | o::os,f=>by rw[List.foldl_cons,zef s os];rfl
def zm1(s:zg)(d:zv)(n:B8):∃f no,Ob (Zy s d).1 n=(yC s (Uo d n) f no).1:=by
 obtain⟨f,no,e⟩:=zi9 s d.frags [] ([],[],0) (λn=>⟨[],0,rfl⟩) n;refine⟨f,no,?_⟩;rw[Pn,Zy,zef,e,TB,Uo,yb];cases d.frags.find? (V7 n)with
 | none=>simp[Vt,yC]
 | some g=>simp
def zhN(s:zg):∀(j:List yE) (f:Q5),∀l∈(j.foldl (rFr s) f).2.1,l∈f.2.1∨∃g∈j,∃y no,l=(yC s g.sels y no).1
 | [],f,l,h=>.inl h
 | g::j,f,l,h=>by
  rcases zhN s j (rFr s f g) l h with p|⟨z,A,y,no,e⟩
  ·unfold rFr at p;split at p
   ·exact .inl p
   ·rcases List.mem_append.1 p with v|v
    ·exact .inl v
    ·simp only[List.mem_singleton]at v;exact .inr ⟨g,YS ..,_,_,v⟩
  ·exact .inr ⟨z,YN _ A,y,no,e⟩
def zh3(s:zg):∀(os:List Y6) (f:Q5),∀l∈(os.foldl (rOp s) f).2.1,l∈f.2.1∨∃o∈os,∃j no,l=(yC s o.sels j no).1
 | [],f,l,h=>.inl h
 | o::os,f,l,h=>by
  rcases zh3 s os (rOp s f o) l h with v|⟨p,y,j,no,e⟩
  ·rcases List.mem_append.1 v with g|g
   ·exact .inl g
   ·simp only[List.mem_singleton]at g;exact .inr ⟨o,YS ..,_,_,g⟩
  ·exact .inr ⟨p,YN _ y,j,no,e⟩
def L3{d:zv}{x:List zj}(h:x∈yQ d):yR x<=zt d:=by have:=QI h;omega
def zfJ{s:zg}{d:zv}(z:∀x∈yQ d,Sz d 40 x)(y:zt d<=ze):∀l∈(Zy s d).2.1,Ex (Zy s d).1 64 l:=λl v=>by
 have hex:∀x∈yQ d,∀f no,Ex (Zy s d).1 64 (yC s x f no).1:=λx p f no =>
  (zsz (s:=s) (zm1 s d) (λn=>by
   cases hf:yb d n with
   | none=>simp[Uo,hf,Vt,yR]
   | some g =>have A:g∈d.frags:=List.mem_of_find?_eq_some hf;have h:=Xb g;have j:=WB A;simp only[Uo,hf,Option.getD_some,zt]at y ⊢;omega) (z x p) (by have:=L3 p;omega) f no).mono xg
 rcases zh3 s d.ops _ l v with h|⟨o,ho,f,no,rfl⟩
 ·rcases zhN s d.frags _ l h with j|⟨g,hf,f,no,rfl⟩
  ·cases j
  ·exact hex _ (by refine wF ?_;exact .inr ⟨g,hf,rfl⟩) f no
 ·exact hex _ (by refine wF ?_;exact .inl ⟨o,ho,rfl⟩) f no
def zpR(s:zg)(g:Q5)(f:yE):(rFr s g f).2.2<=g.2.2+bF f/\(rFr s g f).2.1.length<=g.2.1.length+1:=by
 unfold rFr;split
 ·exact⟨by omega,by omega⟩
 ·have:=RM s f.sels f.on g.2.2;have:=Xb f;exact⟨by simp only;omega,by simp⟩
def zoq(s:zg)(f:Q5)(o:Y6):(rOp s f o).2.2<=f.2.2+bO o/\(rOp s f o).2.1.length<=f.2.1.length+1:=by have:=RM s o.sels (ZS s o) f.2.2;exact⟨by simp only[rOp,bO];omega,by simp[rOp]⟩
structure MkH (s:zg) (b bf bs bp:Nat) (st:Q5) (o:Own) (H:zd):Prop where
 look:H b=some (.cells (zk s++[.i st.2.2,.mp bf,.mp bs,.mp bp]))
 frs:∃es,H bf=some (.map (.one .s) es)/\Vu es=cFr st.1
 sh:H bs=some (.map kPr [])
 pr:H bp=some (.map kPr [])
 ne:bs≠bp
 own:zM H o st.2.1.length 1
def MkH.keep{s:zg}{b g bs j:Nat}{p:Q5}{o:Own}{H H':zd}(h:MkH s b g bs j p o H)(f:∀c x,H c=some x->H' c=some x):MkH s b g bs j p o H':=by obtain⟨v,y,z⟩:=h.frs;exact⟨f _ _ h.look,⟨v,f _ _ y,z⟩,f _ _ h.sh,f _ _ h.pr,h.ne,RO h.own λc k C A=>f _ _ A⟩
def MkH.items{s:zg}{b g bs j no' n:Nat}{p:Q5}{o o2:Own}{H H':zd}(h:MkH s b g bs j p o H)(f:ItK H b (zk s) no' [.mp g,.mp bs,.mp j] H' o2 n):MkH s b g bs j (p.1,p.2.1,no') o H':=by
 obtain⟨z,v,A⟩:=h.frs;have C:g≠b:=λe=>by have:=h.look;rw[<-e,v]at this;cases this
 have G:bs≠b:=λe=>by have:=h.look;rw[<-e,h.sh]at this;cases this
 have I:j≠b:=λe=>by have:=h.look;rw[<-e,h.pr]at this;cases this
 refine⟨f.look,⟨z,f.kept _ _ v C,A⟩,f.kept _ _ h.sh G,f.kept _ _ h.pr I,h.ne,RO h.own λc k J y=>f.kept _ _ y λe=>?_⟩;have:=h.look;rw[<-e,y]at this;cases this
def MkH.app{s:zg}{b v bs y C:Nat}{j:Q5}{o o2:Own}{ls:List (List ye)}{H H':zd}(h:MkH s b v bs y j o H)(h':zQ H o H' o2 C 1)(I:C=ls.length):MkH s b v bs y (j.1,ls,j.2.2) o2 H':=by
 subst I;obtain⟨f,z,g⟩:=h.frs;have p:∀c A f,H c=some (.map A f)->∀d,o≠.tip c d:=λc A f G d e=>by have:=h.own;subst e;have g:H c=some (.tip (d+j.2.1.length) 1):=this;rw[G]at g;cases g
 exact⟨h'.kept _ _ h.look (Tz h.own h.look),⟨f,h'.kept _ _ z (p _ _ _ z),g⟩,h'.kept _ _ h.sh (p _ _ _ h.sh),h'.kept _ _ h.pr (p _ _ _ h.pr),h.ne,h'.own⟩
def MkH.put{s:zg}{b f bs p:Nat}{g:Q5}{o:Own}{H:zd}{es:List (AV×AV)}{n:B8}{it:List ye}{o2:Own}(h:MkH s b f bs p g o H)(j:H f=some (.map (.one .s) es))(y:Vu es=cFr g.1)(hf:Yj g.1 n=none):
  MkH s b f bs p (g.1++[(n,it)],g.2.1,g.2.2) o (H.upd f (.map (.one .s) (Ti es (.str n) (.sl o2 10 (ZU it))))):=by
 have z:b≠f:=λe=>by have:=h.look;rw[e,j]at this;cases this
 have A:bs≠f:=λe=>by have:=h.sh;rw[e,j]at this;cases this
 have C:p≠f:=λe=>by have:=h.pr;rw[e,j]at this;cases this
 refine⟨by refine xK z ?_;exact h.look,⟨_,upd_same ..,?_⟩,by refine xK A ?_;exact h.sh,by refine xK C ?_;exact h.pr,h.ne,RO h.own λc k G v=>?_⟩
 ·rw[MC,y];exact zfC n it g.1 hf
 ·have:c≠f:=nen2 j v;refine xK this ?_;exact v
def MkH.low{s:zg}{b f bs j:Nat}{p:Q5}{o:Own}{H:zd}(h:MkH s b f bs j p o H):∃B,yT B H/\Qr s p.1 b f bs j p.2.2 ([],[]) B:=by
 obtain⟨C,g,v⟩:=h.frs;have y:b≠f:=λe=>by have:=h.look;rw[e,g]at this;cases this
 have z:bs≠f:=λe=>by have:=h.sh;rw[e,g]at this;cases this
 have A:j≠f:=λe=>by have:=h.pr;rw[e,g]at this;cases this
 refine⟨_,yT.map g,⟨by refine xK y ?_;exact h.look,by rw[upd_same,v],by refine xK z ?_;exact h.sh,by refine xK A ?_;exact h.pr,h.ne⟩⟩
def mgC(s:zg)(d:zv)(n:Int)(ce:zA s<=ze)(ai:Zi d<=ze)(ei:zt d<=1073741824)(d3:∀x∈yQ d,Sz d 40 x):zf 41 [.agg (zk s),.agg (z8 d),.i n] (.bool (R0 s d n)):=by
 have ca:=zkt d ai;have hex:=zfJ (s:=s) d3 xi;have cb:=λb f bs g no l I=>lsC s (Zy s d).1 b f bs g no ce 64 l (ZG _) (hex l I);have hit:=λb f bs g l ec no H (di:no+yR l<=1073741824) dj=>zpL s ce b (.mp f) (.mp bs) (.mp g) (yR l) l ec no H (ZG _) di dj;have cc:=λo=>zh9 s o;have ej:Ub d.ops+XZ d.frags=zt d:=rfl;have bl:=Z5 d.frags;have bn:=ZI d.ops;have el:=yP d.frags;have em:=ZJ d.ops;have C:R0 s d n=(decide (n=24)&&(!Vv d&&(QA (lsF s (Zy s d).1 64) (Zy s d).2.1 ([],[])).1)):=rfl;generalize R0 s d n=F,Vv d=ea at *
 have c8:Zy s d=d.ops.foldl (rOp s) (d.frags.foldl (rFr s) ([],[],0)):=rfl;have d7:=zpR s;have d8:=zoq s;have d0:=Yl d;have ad:∃ed p a1,zk s=[ed,p,a1]:=⟨_,_,_,rfl⟩;have bc:∀s,KT.fits (.one .s) (.str s)=true:=λ_=>rfl;obtain⟨ay,az,sm⟩:=s;generalize dx:(⟨ay,az,sm⟩:zg)=s at *
 have ad:zk s=[.o 6 (Vd ay),.str az,.str sm]:=xM dx
 simp only[d0]at ca ⊢;simp only[ad,L7,TB]at hit cc ⊢;have look:∀ {b f bs g st o H},MkH s b f bs g st o H->H b=some (.cells [.o 6 (Vd ay),.str az,.str sm,.i st.2.2,.mp f,.mp bs,.mp g]):=λI=>by have:=I.look;rwa [ad]at this
 refine zo ir41 λKP Q aq=>?_;by_cases av:n=24
 case neg =>refine xc av ?_;exact xz aq C av
 have d6:=eq_true av;simp only[av,decide_true,Bool.true_and]at C;refine xt d6 ca ?_;cases ea with
 | true =>exact vn aq C
 | false =>
 simp only[Bool.not_false,Bool.true_and]at C;refine xa (zb λf ek=>?_);refine xa (zb λbs dy=>?_);refine xa (zb λg b3=>?_);refine xa (zb λb ai=>?_);have al:f≠bs:=λe=>by subst e;simp[zd.upd]at dy
 have ax:f≠g:=λe=>by subst e;simp[zd.upd,al]at b3
 have am:bs≠g:=λe=>by subst e;simp[zd.upd]at b3
 have bq:f≠b:=λe=>by subst e;simp[zd.upd,al,ax]at ai
 have br:bs≠b:=λe=>by subst e;simp[zd.upd,am]at ai
 have bu:g≠b:=λe=>by subst e;simp[zd.upd]at ai
 have dt:∀H0:zd,H0 b=some (.cells [.o 6 (Vd ay),.str az,.str sm,.i 0,.mp f,.mp bs,.mp g])->H0 f=some (.map (.one .s) [])->H0 bs=some (.map kPr [])->H0 g=some (.map kPr [])->MkH s b f bs g ([],[],0) .nil H0:=λH0 c9 da dc dd=>⟨by rw[ad];exact c9,⟨[],da,rfl⟩,dc,dd,am,rfl⟩;generalize dk:d.frags.foldl (rFr s) ([],[],0)=cq,eh:Zy s d=c4 at *
 simp(disch:=omega) only[bl,al,ax,am,bq,br,bu,Ne.symm al,Ne.symm ax,Ne.symm am,Ne.symm bq,Ne.symm br,Ne.symm bu,go_sem];refine zc d.frags 32 (λx:Own×Q5=>[(8,.sl x.1 1 (cIL x.2.2.1))]) (λz Z x H'=>Z.foldl (rFr s) x.2=cq/\x.2.2.1.length<=z.length/\x.2.2.2<=XZ z/\MkH s b f bs g x.2 x.1 H') (.nil,([],[],0)) (by simp(disch:=omega) only[cIL,List.map,go_sem]) ⟨dk,by simp,by simp,dt _ (by simp[zd.upd]) (by simp[zd.upd,al,ax,bq]) (by simp[zd.upd,am,br]) (by simp[zd.upd,bu])⟩ ?_ ?_
 ·rintro⟨o1,fr,ls,no⟩ ct cz ⟨O,ar,bd,ah⟩ bg;simp only[List.foldl]at O;simp only at ar bd;subst O;refine xe bl bg bn ?_;refine zc d.ops 74 (λx:Own×Q5=>[(8,.sl x.1 1 (cIL x.2.2.1))]) (λz Z x H'=>Z.foldl (rOp s) x.2=c4/\x.2.2.1.length<=d.frags.length+z.length/\x.2.2.2<=XZ d.frags+Ub z/\MkH s b f bs g x.2 x.1 H') (o1,(fr,ls,no)) xb ⟨c8.symm,by simpa using ar,by simp only;omega,ah⟩ ?_ ?_
  ·rintro⟨o2,G,v,K⟩ cu c2 ⟨af,be,bf,ap⟩ bh;simp only[List.foldl]at af;simp only at be bf;subst af;obtain⟨B,d4,bz⟩:=ap.low;simp only at bz C cb;have j:=K3 v;generalize dv:QA (lsF s G 64) v ([],[])=R at *
   refine xe bn bh j ?_;refine zc v 91 (λ_:Za=>[]) (λz Z bw H'=>QA (lsF s G 64) Z bw=R/\∃B,yT B H'/\Qr s G b f bs g K bw B) ([],[]) xb ⟨dv,B,d4,bz⟩ ?_ ?_
   ·rintro a3 cw c3 ⟨U,_⟩ bj;simp only[QA]at U;rw[<-U]at C;refine xd j bj ?_;exact xj aq C
   ·rintro ee a1 en a3 cw c3 b6 bj _ ⟨U,cp,d5,dr⟩ dq;have d1:=zmE b6;have dz:=zY.lowH d5 (cb b f bs g K a1 (xv b6) a3 cp dr);simp only[QA]at U;generalize ef:lsF s G 64 a1 a3=cr at *
    obtain⟨dh,de⟩:=cr;refine xe j bj d1 ?_;refine ZT (XP:=λ_ _=>False) dz (λa0 bv ⟨c7,dl,eg⟩=>?_) (λ_ _ I=>I.elim);subst c7;cases dh with
    | true =>simp only at U;refine xa ?_;exact zJ (dq de bv ⟨U,bv,yT.refl _,dl⟩) xf
    | false =>simp only at U;rw[<-U]at C;exact vn aq C
  ·rintro a4 p eb ⟨o2,G,v,K⟩ cu c2 b5 bh _ ⟨af,be,bf,ap⟩ dn;have b8:=Z6 b5;have aj:=Wc a4 p eb;rw[<-b5]at aj;have a9:Ub (a4++[p])=Ub a4+bO p:=by simp[Ub]
   rw[List.foldl_cons]at af;simp only at be bf;have cd:=cc p;have J:=d8 (G,v,K) p;have W:rOp s (G,v,K) p=(G,v++[(yC s p.sels (ZS s p) K).1],(yC s p.sels (ZS s p) K).2):=rfl;rw[W]at af J;simp only at J;obtain⟨k,A,co,ds,L⟩:=p;simp only[bO]at aj a9 J;generalize ZS s ⟨k,A,co,ds,L⟩=cn at *
   rw[Xn]at b8 cd;have ci:=look ap;have j:=K3 v;simp only at ci;refine xe bn bh b8 (zb λc5 b1=>?_);have y:b≠c5:=nen2 ci b1;have ab:=ap.keep (Xs (x:=.cells [.i k,.str A,.o 10 (Yg co),.o 2 (ZE ds),.o 7 (Zp L)]) b1);have a7:=hit b f bs g L cn K _ xg (look ab);generalize dm:yC s L cn K=h at *
   refine xn y (Ne.symm y) cd ?_;refine xd y (Ne.symm y) ?_;refine ZT (XP:=λ_ _=>False) a7 (λa0 a2 ⟨bp,a6,ak⟩=>?_) (λ_ _ I=>I.elim);subst a6;have X:=ab.items (wz ad ak);simp only at X;refine xa (zp (by rw[j];exact X.own) ?_ ?_ λo' cx cg=>?_)
   ·simp only[j,yg,yy];omega
   ·refine xR j ?_;omega
   simp only[j,yg,yy,Nat.zero_add]at cg;have a5:cIL v++[[AV.o 10 (ZU h.1)]]=cIL (v++[h.1]):=by simp[cIL]
   have ac:=X.app (ls:=v++[h.1]) cg xw;refine xB a5 ?_;exact zJ (dn (o',(G,v++[h.1],h.2)) cx ⟨af,by simp;omega,by simp only;omega,ac⟩) xf
 ·rintro z x Z ⟨o1,fr,ls,no⟩ ct cz b4 bg _ ⟨O,ar,bd,ah⟩ bx;have b7:=Ym b4;have aj:=RQ z x Z;rw[<-b4]at aj;have a9:XZ (z++[x])=XZ z+bF x:=by simp[XZ]
  rw[List.foldl_cons]at O;simp only at ar bd;have J:=d7 (fr,ls,no) x;obtain⟨ao,M,ba⟩:=ah.frs;simp only at ba;have Y:(Ud ao (.str x.nm)).map AV.strip1=(Yj fr x.nm).map λe=>.o 10 (ZU e.2):=by rw[<-N6,ba,zcO]
  have b9:=λa0=>zcJ x.nm a0 ao;have W:rFr s (fr,ls,no) x=match Yj fr x.nm with
   | some _=>(fr,ls,no)
   | none=>(fr++[(x.nm,(yC s x.sels x.on no).1)],ls++[(yC s x.sels x.on no).1],(yC s x.sels x.on no).2):=rfl
  obtain⟨A,aw,ds,L⟩:=x;simp only at Y W b9;simp only[bF]at aj a9 J;rw[Ys]at b7;have ag:=look ah;have j:=K3 ls;simp only at ag;refine xe bl bg b7 (zb λan a8=>?_);have y:b≠an:=nen2 ag a8;have aa:f≠an:=nen2 M a8;have ab:=ah.keep (Xs (x:=.cells [.str A,.str aw,.o 2 (ZE ds),.o 7 (Zp L)]) a8);cases au:Ud ao (.str A)with
  | some w =>
   rw[au]at Y;cases ae:Yj fr A with
   | none=>rw[ae]at Y;simp at Y
   | some e =>rw[ae]at W;rw[W]at O J;simp only at J;simp(disch:=omega) only[y,Ne.symm y,aa,Ne.symm aa,ag,M,au,bc,W1,Option.getD_some,Option.isSome_some,go_sem];exact zJ (bx (o1,(fr,ls,no)) _ ⟨O,by simp;omega,by simp only;omega,ab⟩) xf
  | none =>
   rw[au]at Y;cases ae:Yj fr A with
   | some e=>rw[ae]at Y;simp at Y
   | none =>
    rw[ae]at W;rw[W]at O J;simp only at J;have a7:=hit b f bs g L aw no _ xg (look ab);generalize dm:yC s L aw no=h at *
    simp(disch:=omega) only[y,Ne.symm y,aa,Ne.symm aa,ag,M,au,bc,W1,Option.getD_none,Option.isSome_none,go_sem];refine ZT (XP:=λ_ _=>False) a7 (λa0 a2 ⟨bp,a6,ak⟩=>?_) (λ_ _ I=>I.elim);subst a6;have X:=ab.items (wz ad ak);simp only at X;have c6:a2 an=some (.cells [.str A,.str aw,.o 2 (ZE ds),.o 7 (Zp L)]):=ak.kept an _ (upd_same ..) (Ne.symm y);have b2:a2 f=some (.map (.one .s) ao):=ak.kept f _ (wl aa M) (λe=>by rw[e,ag]at M;cases M);have cj:=look X;simp only at cj;have cm:f≠b:=λe=>by rw[e,ag]at M;cases M
    have ac:=X.put (n:=A) (it:=h.1) (o2:=bp) b2 ba ae;have d9:=look ac;simp only at ac d9;have d2:=b9 (.sl bp 10 (ZU h.1));simp(disch:=omega) only[c6,b2,cj,cm,Ne.symm cm,y,Ne.symm y,aa,Ne.symm aa,bc,d2,W1,Option.getD_some,go_sem];refine zp (by rw[j];exact ac.own) ?_ ?_ λo' cy ch=>?_
    ·simp only[j,yg,yy];omega
    ·refine xR j ?_;omega
    simp only[j,yg,yy,Nat.zero_add]at ch;have a5:cIL ls++[[AV.o 10 (ZU h.1)]]=cIL (ls++[h.1]):=by simp[cIL]
    have du:=ac.app (ls:=ls++[h.1]) ch xw;refine xB a5 ?_;exact zJ (bx (o',(fr++[(A,h.1)],ls++[h.1],h.2)) cy ⟨O,by simp;omega,by simp only;omega,du⟩) xf
abbrev Zr:=B8×zj
def Rc(d:zv)(n:B8):B8:=((yb d n).getD Vt).on
def YK(s:zg)(d:zv)(g:B8->List zj->B9->List Zr×B9)(typ:B8)(f:List Zr×B9):zj->List Zr×B9
 | .mk k al nm args dirs on sels =>
  if k=0 then (f.1++[(typ,.mk k al nm args dirs on sels)],f.2)
  else if k=2 then (f.1++(g (zz s typ (.mk k al nm args dirs on sels)) sels f.2).1,(g (zz s typ (.mk k al nm args dirs on sels)) sels f.2).2)
  else if k=1/\zH nm f.2=false then (f.1++(g (Rc d nm) (Uo d nm) (f.2++[nm])).1,(g (Rc d nm) (Uo d nm) (f.2++[nm])).2)
  else f
def SS(s:zg)(d:zv):Nat->B8->List zj->B9->List Zr×B9
 | 0,_,_,seen=>([],seen)
 | n+1,typ,l,seen=>l.foldl (YK s d (SS s d n) typ) ([],seen)
def WD(x:ye):Zr:=(x.typ,x.x)
def OZ(s:zg)(x:ye):Prop:=∃k,x.sub=(yC s x.x.sels (zz s x.typ x.x) k).1
def Nq(s:zg)(d:zv)(fr:List (B8×List ye)):Prop:=∀n,∃no,Ob fr n=(yC s (Uo d n) (Rc d n) no).1
def za9{s:zg}{d:zv}{fr:List (B8×List ye)}(hfr:Nq s d fr):∀(n:Nat) (l:List zj) (typ:B8) (no:Nat) (seen:B9),
  ((Us fr n (yC s l typ no).1 seen).1.map WD,(Us fr n (yC s l typ no).1 seen).2)=SS s d n typ l seen/\∀x∈(Us fr n (yC s l typ no).1 seen).1,OZ s x
 | 0,l,typ,no,seen=>⟨rfl,λx j=>by cases j⟩
 | n+1,l,typ,no,seen=>by
  have O:∀(l:List zj) (no:Nat) (f:List ye×B9),(∀x∈f.1,OZ s x) ->
    (((yC s l typ no).1.foldl (Xy (Us fr n) fr) f).1.map WD,((yC s l typ no).1.foldl (Xy (Us fr n) fr) f).2)=l.foldl (YK s d (SS s d n) typ) (f.1.map WD,f.2)/\∀x∈((yC s l typ no).1.foldl (Xy (Us fr n) fr) f).1,OZ s x:=by
   intro l;induction l with
   | nil=>intro no f C;exact⟨rfl,C⟩
   | cons x r M =>
    intro no f C;obtain⟨k,v,h,y,z,A,p⟩:=x;simp only[yC,Mr,List.foldl_cons];generalize J:yC s p (zz s typ (.mk k v h y z A p)) (no+1)=T;have K:YK s d (SS s d n) typ (f.1.map WD,f.2) (.mk k v h y z A p)=(((Xy (Us fr n) fr f (.mk (no+1) (.mk k v h y z A p) typ T.1)).1).map WD,(Xy (Us fr n) fr f (.mk (no+1) (.mk k v h y z A p) typ T.1)).2)/\∀x∈(Xy (Us fr n) fr f (.mk (no+1) (.mk k v h y z A p) typ T.1)).1,OZ s x:=by
     have G:=za9 hfr n p (zz s typ (.mk k v h y z A p)) (no+1) f.2;rw[J]at G;obtain⟨U,L⟩:=hfr h;have I:=za9 hfr n (Uo d h) (Rc d h) U (f.2++[h]);rw[<-L]at I;simp only[YK,Xy];split
     ·refine⟨by simp[WD,ye.typ,ye.x],λx j=>?_⟩;rcases List.mem_append.1 j with g|g
      ·exact C x g
      ·simp only[List.mem_singleton]at g;subst g;exact⟨no+1,by simp only[ye.sub,ye.x,ye.typ,zj.sels];rw[J]⟩
     ·split
      ·refine⟨by rw[<-G.1];simp,λx j=>?_⟩;rcases List.mem_append.1 j with g|g
       ·exact C x g
       ·exact G.2 x g
      ·split
       ·refine⟨by rw[<-I.1];simp,λx j=>?_⟩;rcases List.mem_append.1 j with g|g
        ·exact C x g
        ·exact I.2 x g
       ·exact⟨rfl,C⟩
    have:=M T.2 (Xy (Us fr n) fr f (.mk (no+1) (.mk k v h y z A p) typ T.1)) K.2;rw[K.1];exact this
  exact O l no ([],seen) (λx j=>by cases j)
mutual
def NZ:ye->List ye| .mk no x typ sub=>.mk no x typ sub::WV sub
def WV:List ye->List ye
 | []=>[]
 | x::r=>NZ x++WV r
end
def zkp(x:ye):x∈NZ x:=by cases x;simp[NZ]
def MJ{x:ye}:∀ {l:List ye},x∈l->x∈WV l
 | y::l,f=>by
  simp only[WV,List.mem_append];rcases List.mem_cons.1 f with rfl|f
  ·exact .inl (zkp x)
  ·exact .inr (MJ f)
mutual
def zkn:∀(x y g:ye),y∈NZ x->g∈WV y.sub->g∈NZ x
 | .mk no x typ sub,y,g,f,hz=>by
  simp only[NZ,List.mem_cons]at f ⊢;rcases f with rfl|f
  ·exact .inr hz
  ·exact .inr (PZ sub y g f hz)
def PZ:∀(l:List ye) (y g:ye),y∈WV l->g∈WV y.sub->g∈WV l
 | [],y,g,f,_=>by simp[WV]at f
 | x::r,y,g,f,hz=>by
  simp only[WV,List.mem_append]at f ⊢;rcases f with f|f
  ·exact .inl (zkn x y g f hz)
  ·exact .inr (PZ r y g f hz)
end
mutual
def zlg(s:zg):∀(x:zj) (typ:B8) (no:Nat),no<(Mr s x typ no).2/\(∀f∈NZ (Mr s x typ no).1,(no<f.no/\f.no<=(Mr s x typ no).2)/\OZ s f)/\((NZ (Mr s x typ no).1).map ye.no).Nodup
 | .mk k al nm args dirs on sels,typ,no=>by
  obtain⟨y,h,j⟩:=Mv s sels (zz s typ (.mk k al nm args dirs on sels)) (no+1);simp only[Mr];generalize p:yC s sels (zz s typ (.mk k al nm args dirs on sels)) (no+1)=T at *
  refine⟨by omega,λf g=>?_,?_⟩
  ·simp only[NZ,List.mem_cons]at g;rcases g with rfl|g
   ·exact⟨⟨by simp only[ye.no];omega,by simp only[ye.no];omega⟩,no+1,by simp only[ye.sub,ye.x,ye.typ,zj.sels];rw[p]⟩
   ·have:=h f g;exact⟨by omega,this.2⟩
  ·simp only[NZ,List.map_cons,List.nodup_cons,ye.no];refine⟨λv=>?_,j⟩;obtain⟨f,g,e⟩:=List.mem_map.1 v;have:=(h f g).1;omega
def Mv(s:zg):∀(l:List zj) (typ:B8) (no:Nat),no<=(yC s l typ no).2/\(∀f∈WV (yC s l typ no).1,(no<f.no/\f.no<=(yC s l typ no).2)/\OZ s f)/\((WV (yC s l typ no).1).map ye.no).Nodup
 | [],typ,no=>by simp[yC,WV]
 | x::r,typ,no=>by
  obtain⟨J,p,y⟩:=zlg s x typ no;obtain⟨I,j,v⟩:=Mv s r typ (Mr s x typ no).2;simp only[yC,WV];refine⟨by omega,λf h=>?_,?_⟩
  ·rcases List.mem_append.1 h with g|g
   ·have:=p f g;exact⟨by omega,this.2⟩
   ·have:=j f g;exact⟨by omega,this.2⟩
  ·rw[List.map_append];refine List.nodup_append.2 ⟨y,v,λa z b A e=>?_⟩;obtain⟨f,h,rfl⟩:=List.mem_map.1 z;obtain⟨G,C,rfl⟩:=List.mem_map.1 A;have:=(p f h).1;have:=(j G C).1;omega
end
def UI(s:zg)(d:zv):List ye:=(Zy s d).2.1.flatMap WV
structure RInv (s:zg) (st:Q5):Prop where
 ok:∀y∈st.2.1.flatMap WV,(0<y.no/\y.no<=st.2.2)/\OZ s y
 nd:((st.2.1.flatMap WV).map ye.no).Nodup
 fr:∀n,Ob st.1 n=[]∨Ob st.1 n∈st.2.1
def RInv.add{s:zg}{g:Q5}(h:RInv s g)(l:List zj)(typ:B8)(fr:List (B8×List ye))(hfr:∀n,Ob fr n=Ob g.1 n∨Ob fr n=(yC s l typ g.2.2).1):RInv s (fr,g.2.1++[(yC s l typ g.2.2).1],(yC s l typ g.2.2).2):=by
 obtain⟨I,v,y⟩:=Mv s l typ g.2.2;refine⟨λp j=>?_,?_,λn=>?_⟩
 ·simp only[List.flatMap_append,List.flatMap_cons,List.flatMap_nil,List.append_nil,List.mem_append]at j;rcases j with f|f
  ·have:=h.ok p f;exact⟨by simp only;omega,this.2⟩
  ·have:=v p f;exact⟨by simp only;omega,this.2⟩
 ·simp only[List.flatMap_append,List.flatMap_cons,List.flatMap_nil,List.append_nil,List.map_append];refine List.nodup_append.2 ⟨h.nd,y,λa z b A e=>?_⟩;obtain⟨p,j,rfl⟩:=List.mem_map.1 z;obtain⟨G,C,rfl⟩:=List.mem_map.1 A;have:=(h.ok p j).1;have:=(v G C).1;omega
 ·rcases hfr n with e|e
  ·rw[e];rcases h.fr n with f|f
   ·exact .inl f
   ·exact .inr (Wf _ f)
  ·rw[e];exact .inr (List.mem_append_right _ xw)
def RInv.rFr{s:zg}{g:Q5}(h:RInv s g)(f:yE):RInv s (rFr s g f):=by
 unfold Go.Proofs.YtcbfcliickppiaaGreatDoor.rFr;split
 ·exact h
 ·rename_i hf;refine h.add f.sels f.on _ λn=>?_;rw[Pn,SG,Pn];cases j:Yj g.1 n with
  | some e=>left;rfl
  | none =>
   by_cases e:n=f.nm
   ·right;simp[e]
   ·left;simp[e]
def RInv.rOp{s:zg}{f:Q5}(h:RInv s f)(o:Y6):RInv s (rOp s f o):=h.add o.sels (ZS s o) f.1 λn=>.inl rfl
def N3(s:zg)(d:zv):RInv s (Zy s d):=by
 have v:∀(g:List yE) (f:Q5),RInv s f->RInv s (g.foldl (Go.Proofs.YtcbfcliickppiaaGreatDoor.rFr s) f):=by
  intro g;induction g with
  | nil=>intro f h;exact h
  | cons j g p=>intro f h;exact p _ (h.rFr j)
 have y:∀(os:List Y6) (f:Q5),RInv s f->RInv s (os.foldl (Go.Proofs.YtcbfcliickppiaaGreatDoor.rOp s) f):=by
  intro g;induction g with
  | nil=>intro f h;exact h
  | cons j g p=>intro f h;exact p _ (h.rOp j)
 exact y d.ops _ (v d.frags _ ⟨λA z=>by simp at z,by simp,λn=>.inl rfl⟩)
def zmU{s:zg}{d:zv}{x:ye}(h:x∈UI s d):OZ s x:=((N3 s d).ok x h).2
def KF{α:Type}{f:α->Nat}:∀ {l:List α},(l.map f).Nodup->∀x∈l,∀g∈l,f x=f g->x=g
 | a::l,h,x,hx,g,hy,e=>by
  simp only[List.map_cons,List.nodup_cons]at h;rcases List.mem_cons.1 hx with v|y
  ·rcases List.mem_cons.1 hy with j|p
   ·rw[v,j]
   ·exact absurd (List.mem_map.2 ⟨g,p,by rw[<-e,v]⟩) h.1
  ·rcases List.mem_cons.1 hy with j|p
   ·exact absurd (List.mem_map.2 ⟨x,y,by rw[e,j]⟩) h.1
   ·exact KF h.2 x y g p e
def zai{s:zg}{d:zv}{x y:ye}(f:x∈UI s d)(g:y∈UI s d)(e:x.no=y.no):x=y:=KF (N3 s d).nd x f y g e
def NI{fr:List (B8×List ye)}:∀(n:Nat) (l:List ye) (seen:B9),∀g∈(Us fr n l seen).1,g∈WV l∨∃p,g∈WV (Ob fr p)
 | 0,l,seen,g,j=>by cases j
 | n+1,l,seen,g,j=>by
  have L:∀(l:List ye) (y:List ye×B9),∀g∈(l.foldl (Xy (Us fr n) fr) y).1,g∈y.1∨g∈WV l∨∃p,g∈WV (Ob fr p):=by
   intro l;induction l with
   | nil=>intro y g j;exact .inl j
   | cons x r K =>
    intro y g j;rw[List.foldl_cons]at j;rcases K _ g j with f|f|f
    ·obtain⟨no,⟨k,A,p,C,G,M,O⟩,U,sub⟩:=x;simp only[Xy]at f;have I:∀z,z∈WV sub->z∈WV (.mk no (.mk k A p C G M O) U sub::r):=λz J=>by simp only[WV,NZ,List.mem_append,List.mem_cons];exact .inl (.inr J)
     split at f
     ·rcases List.mem_append.1 f with h|h
      ·exact .inl h
      ·simp only[List.mem_singleton]at h;subst h;exact .inr (.inl (MJ (YS ..)))
     ·split at f
      ·rcases List.mem_append.1 f with h|h
       ·exact .inl h
       ·rcases NI n sub y.2 g h with v|v
        ·exact .inr (.inl (I g v))
        ·exact .inr (.inr v)
      ·split at f
       ·rcases List.mem_append.1 f with h|h
        ·exact .inl h
        ·rcases NI n (Ob fr p) (y.2++[p]) g h with v|v
         ·exact .inr (.inr ⟨p,v⟩)
         ·exact .inr (.inr v)
       ·exact .inl f
    ·exact .inr (.inl (by simp only[WV,List.mem_append];exact .inr f))
    ·exact .inr (.inr f)
  rcases L l ([],seen) g j with f|f
  ·cases f
  ·exact f
def zns{s:zg}{d:zv}{g:B8}{y:ye}(h:y∈WV (Ob (Zy s d).1 g)):y∈UI s d:=by
 rcases(N3 s d).fr g with f|f
 ·rw[f]at h;simp[WV]at h
 ·exact List.mem_flatMap.2 ⟨_,f,h⟩
def zoR{s:zg}{d:zv}{x y:ye}(j:x∈UI s d)(h:y∈WV x.sub):y∈UI s d:=by obtain⟨l,g,f⟩:=List.mem_flatMap.1 j;exact List.mem_flatMap.2 ⟨l,g,PZ l x y f h⟩
def NQ{s:zg}{d:zv}{x y:ye}(g:x∈UI s d)(h:y∈Yc (Zy s d).1 x):y∈UI s d:=by
 rcases NI 64 x.sub [] y h with f|⟨j,f⟩
 ·exact zoR g f
 ·exact zns f
def Zj:zj->List yU|.mk _ _ _ a _ _ _=>a
def zio(x:ye):x.args=Zj x.x:=by obtain⟨no,⟨k,f,j,g,h,p,v⟩,y,sub⟩:=x;rfl
def Lu(s:zg)(d:zv)(x:Zr):List Zr:=(SS s d 64 (zz s x.1 x.2) x.2.sels []).1
def V3(g:Zr->Zr->Bool)(h j:List Zr):Bool:=h.all λu=>j.all λf=>!decide (yW u.2=yW f.2)||g u f
def Qi(s:zg)(d:zv)(g:Zr->Zr->Bool)(x y:Zr):Bool:=Wu s ((zG s x.1 x.2.nm).getD zF).t ((zG s y.1 y.2.nm).getD zF).t&&V3 g (Lu s d x) (Lu s d y)
def ST(s:zg)(d:zv):Nat->Zr->Zr->Bool
 | 0=>Qi s d λ_ _=>true
 | n+1=>Qi s d (ST s d n)
def Rk(s:zg)(x y:Zr):Bool:=!decide (x.1=y.1)&&yA s x.1 [1]&&yA s y.1 [1]
noncomputable def Ra(s:zg)(d:zv)(g:Zr->Zr->Bool)(x y:Zr):Bool:=ST s d 64 x y&&(Rk s x y||((decide (x.2.nm=y.2.nm)&&Y8 (Zj x.2) (Zj y.2))&&V3 g (Lu s d x) (Lu s d y)))
noncomputable def Te(s:zg)(d:zv):Nat->Zr->Zr->Bool
 | 0=>Ra s d λ_ _=>true
 | n+1=>Ra s d (Te s d n)
def zbx{g h:Zr->Zr->Bool}{p j:List Zr}(e:∀u∈p,∀f∈j,g u f=h u f):V3 g p j=V3 h p j:=by
 induction p with
 | nil=>rfl
 | cons u p v =>
  have y:=v λu C=>e u (YN _ C);simp only[V3]at y;have A:(j.all λf=>!decide (yW u.2=yW f.2)||g u f)=j.all λf=>!decide (yW u.2=yW f.2)||h u f:=by
   have z:=e u (YS ..);clear y v e;induction j with
   | nil=>rfl
   | cons f j v=>rw[List.all_cons,List.all_cons,z f (YS ..),v λf G=>z f (YN _ G)]
  simp only[V3,List.all_cons,y,A]
section
variable {s:zg} {d:zv}
def Oo(hfr:Nq s d (Zy s d).1){x:ye}(g:x∈UI s d):Lu s d (WD x)=(Yc (Zy s d).1 x).map WD:=by obtain⟨k,f⟩:=zmU g;have:=(za9 hfr 64 x.x.sels (zz s x.typ x.x) k []).1;rw[<-f]at this;simp only[Lu,WD,<-this];rfl
def zdX(hfr:Nq s d (Zy s d).1){F:Nat->Zr->Zr->Bool}{B:(Zr->Zr->Bool)->Zr->Zr->Bool}(v:F 0=B λ_ _=>true)(j:∀n,F (n+1)=B (F n))(p:∀g h x y,V3 g (Lu s d x) (Lu s d y)=V3 h (Lu s d x) (Lu s d y)->B g x y=B h x y):∀(n m:Nat) (x:ye) (y:Zr),n<=m->n<=64->Ex (Zy s d).1 n x.sub->x∈UI s d->F m (WD x) y=F n (WD x) y
 | 0,m,x,y,hnm,hn,hx,hU=>by
  have J:Yc (Zy s d).1 x=[]:=by
   cases K:Yc (Zy s d).1 x with
   | nil=>rfl
   | cons u r =>obtain⟨i,hi,_⟩:=Y9 (seen:=[]) (f:=64) hx hn (show u∈Yc (Zy s d).1 x by rw[K];simp);omega
  have I:Lu s d (WD x)=[]:=by rw[Oo hfr hU,J];rfl
  have G:∀g h,B g (WD x) y=B h (WD x) y:=λg h=>p g h _ _ (wa I);cases m with
  | zero=>rfl
  | succ m=>rw[j,v];exact G _ _
 | n+1,m,x,y,hnm,hn,hx,hU=>by obtain⟨m,rfl⟩:∃k,m=k+1:=⟨m-1,by omega⟩;rw[j,j];refine p _ _ _ _ (zbx λu z L M=>?_);rw[Oo hfr hU]at z;obtain⟨w,A,rfl⟩:=List.mem_map.1 z;obtain⟨i,hi,C,_⟩:=Y9 (seen:=[]) (f:=64) hx hn A;exact zdX hfr v j p n m w L xg xg (C.mono xg) (NQ hU A)
def zbR(hfr:Nq s d (Zy s d).1){n m:Nat}{x:ye}(y:Zr)(h:n<=m)(g:n<=64)(j:Ex (Zy s d).1 n x.sub)(f:x∈UI s d):ST s d m (WD x) y=ST s d n (WD x) y :=zdX hfr (F:=ST s d) (B:=Qi s d) rfl (λ_=>rfl) (λp v x y e=>by simp only[Qi,e]) n m x y h g j f
def zbh(hfr:Nq s d (Zy s d).1){n m:Nat}{x:ye}(y:Zr)(h:n<=m)(g:n<=64)(j:Ex (Zy s d).1 n x.sub)(f:x∈UI s d):Te s d m (WD x) y=Te s d n (WD x) y :=zdX hfr (F:=Te s d) (B:=Ra s d) rfl (λ_=>rfl) (λp v x y e=>by simp only[Ra,e]) n m x y h g j f
def zno(hfr:Nq s d (Zy s d).1){n:Nat}{x:ye}(y:Zr)(f:n<=64)(h:Ex (Zy s d).1 n x.sub)(g:x∈UI s d):ST s d 64 (WD x) y=Qi s d (ST s d 64) (WD x) y:=by rw[<-zbR hfr y (show n<=65 by omega) f h g |>.trans (zbR hfr y f f h g).symm];rfl
def zk6(hfr:Nq s d (Zy s d).1){n:Nat}{x:ye}(y:Zr)(f:n<=64)(h:Ex (Zy s d).1 n x.sub)(g:x∈UI s d):Te s d 64 (WD x) y=Ra s d (Te s d 64) (WD x) y:=by rw[<-zbh hfr y (show n<=65 by omega) f h g |>.trans (zbh hfr y f f h g).symm];rfl
structure MInv (s:zg) (d:zv) (S:Za):Prop where
 sh:∀x∈UI s d,∀y∈UI s d,∀r,WF S.1 (x.no,y.no)=some r->r=ST s d 64 (WD x) (WD y)
 pr:∀x∈UI s d,∀y∈UI s d,∀r,WF S.2 (x.no,y.no)=some r->r=Te s d 64 (WD x) (WD y)
def OM(k f:Nat×Nat)(v:Bool):∀l:PrS,WF (Xo l k v) f=if f=k then some v else WF l f
 | []=>by simp only[Xo,WF,List.find?_cons,List.find?_nil];by_cases g:f=k<;>simp[g]
 | (a,u)::r=>by
  have j:=OM k f v r;simp only[WF]at j;simp only[Xo];by_cases g:k=a
  ·subst g;simp only[if_true,WF,List.find?_cons];by_cases h:f=k<;>simp[h]
  ·simp only[g,if_false,WF,List.find?_cons];by_cases h:f=a
   ·subst h;have:¬ f=k:=λe=>g e.symm;simp[this]
   ·simp only[h,decide_false,Ql,if_false];exact j
def MInv.set1{S:Za}(h:MInv s d S){x y:ye}(C:x∈UI s d)(G:y∈UI s d){v:Bool}(A:v=ST s d 64 (WD x) (WD y)):MInv s d (Xo S.1 (x.no,y.no) v,S.2) :=
 ⟨λa g b j r e=>by
  rw[OM]at e;by_cases f:(a.no,b.no)=(x.no,y.no)
  ·rw[if_pos f]at e;obtain⟨p,z⟩:=Prod.mk.inj f;rw[zai g C p,zai j G z,<-A];exact(Option.some.inj e).symm
  ·rw[if_neg f]at e;exact h.sh a g b j r e,h.pr⟩
def MInv.set2{S:Za}(h:MInv s d S){x y:ye}(C:x∈UI s d)(G:y∈UI s d){v:Bool}(A:v=Te s d 64 (WD x) (WD y)):MInv s d (S.1,Xo S.2 (x.no,y.no) v) :=
 ⟨h.sh,λa g b j r e=>by
  rw[OM]at e;by_cases f:(a.no,b.no)=(x.no,y.no)
  ·rw[if_pos f]at e;obtain⟨p,z⟩:=Prod.mk.inj f;rw[zai g C p,zai j G z,<-A];exact(Option.some.inj e).symm
  ·rw[if_neg f]at e;exact h.pr a g b j r e⟩
def TH(s:zg)(d:zv)(g:ye->ye->Za->Bool×Za)(G:Zr->Zr->Bool)(u v:ye):Prop:=∀S,MInv s d S->(g u v S).1=G (WD u) (WD v)/\MInv s d (g u v S).2
def zhQ{g:ye->ye->Za->Bool×Za}{G:Zr->Zr->Bool}{u:ye}:∀(j:List ye),(∀f∈j,TH s d g G u f)->∀S,MInv s d S->(NM g u j S).1=((j.map WD).all λf=>!decide (yW (WD u).2=yW f.2)||G (WD u) f)/\MInv s d (NM g u j S).2
 | [],_,S,hS=>⟨rfl,hS⟩
 | f::j,h,S,hS=>by
  have A:=zhQ j λf I=>h f (YN _ I);simp only[NM,List.map_cons,List.all_cons];have p:∀x:ye,(WD x).2=x.x:=λ_=>rfl;by_cases y:yW u.x=yW f.x
  ·obtain⟨z,v⟩:=h f (YS ..) S hS;simp only[y,if_true,p,decide_true,Bool.not_true,Bool.false_or];generalize g u f S=R at *
   obtain⟨r,C⟩:=R;simp only at z v;subst z;cases J:G (WD u) (WD f)with
   | true =>have:=A C v;simp only[p,y]at this;simpa using this
   | false=>exact⟨by simp,v⟩
  ·have:=A S hS;simp only[y,if_false,p,decide_false,Bool.not_false,Bool.true_or,Bool.true_and]at this ⊢;exact this
def zeh{g:ye->ye->Za->Bool×Za}{G:Zr->Zr->Bool}{f:List ye}:∀(j:List ye),(∀u∈j,∀p∈f,TH s d g G u p)->∀S,MInv s d S->(Vn g j f S).1=V3 G (j.map WD) (f.map WD)/\MInv s d (Vn g j f S).2
 | [],_,S,hS=>⟨rfl,hS⟩
 | u::j,h,S,hS=>by
  have z:=zeh j λu C=>h u (YN _ C);obtain⟨y,v⟩:=zhQ f (h u (YS ..)) S hS;simp only[Vn,V3,List.map_cons,List.all_cons];simp only[V3]at z;generalize NM g u f S=R at *
  obtain⟨r,A⟩:=R;simp only at y v;subst y;cases I:((f.map WD).all λp=>!decide (yW (WD u).2=yW p.2)||G (WD u) p)with
  | true =>have:=z A v;simpa using this
  | false=>exact⟨by simp,v⟩
def zjV(hfr:Nq s d (Zy s d).1){n m:Nat}{x y:ye}{g:ye->ye->Za->Bool×Za}(h:x∈UI s d)(v:y∈UI s d)(G:n<=64)(L:Ex (Zy s d).1 n x.sub)(C:∀u∈Yc (Zy s d).1 x,∀M∈Yc (Zy s d).1 y,TH s d g (ST s d 64) u M):TH s d (shB s (Zy s d).1 g) (ST s d 64) x y:=by
 intro S p;have f:=zno hfr (WD y) G L h;obtain⟨j,A⟩:=zeh (Yc (Zy s d).1 x) C S p;rw[<-Oo hfr h,<-Oo hfr v]at j;have K:Qi s d (ST s d 64) (WD x) (WD y)=(Wu s ((zG s x.typ x.x.nm).getD zF).t ((zG s y.typ y.x.nm).getD zF).t&&V3 (ST s d 64) (Lu s d (WD x)) (Lu s d (WD y))):=rfl;rw[K]at f;simp only[shB];cases I:WF S.1 (x.no,y.no)with
 | some r=>exact⟨p.sh x h y v r I,p⟩
 | none =>
  simp only
  split
  ·rename_i z;rw[z,Bool.true_and]at f;rw[<-f]at j;exact⟨j,A.set1 h v j⟩
  ·rename_i z;have J:Wu s ((zG s x.typ x.x.nm).getD zF).t ((zG s y.typ y.x.nm).getD zF).t=false:=xy z
   rw[J,Bool.false_and]at f;exact⟨f.symm,p.set1 h v f.symm⟩
def znL(hfr:Nq s d (Zy s d).1):∀(n m:Nat) (x y:ye),x∈UI s d->y∈UI s d->n<=64->m<=64->Ex (Zy s d).1 n x.sub->Ex (Zy s d).1 m y.sub->TH s d (Oa s (Zy s d).1 n) (ST s d 64) x y
 | 0,m,x,y,hx,hy,hn,hm,hxe,hye=>zjV (m:=m) hfr hx hy hn hxe λu g j h=>by obtain⟨i,hi,_⟩:=Y9 (seen:=[]) (f:=64) hxe hn g;omega
 | n+1,m,x,y,hx,hy,hn,hm,hxe,hye=>zjV (m:=m) hfr hx hy hn hxe λu g j h=>by obtain⟨i,hi,p,_⟩:=Y9 (seen:=[]) (f:=64) hxe hn g;obtain⟨z,A,v,_⟩:=Y9 (seen:=[]) (f:=64) hye hm h;exact znL hfr n z u j (NQ hx g) (NQ hy h) xg xg (p.mono xg) v
def ziM(hfr:Nq s d (Zy s d).1){n m:Nat}{x y:ye}{g:ye->ye->Za->Bool×Za}(h:x∈UI s d)(j:y∈UI s d)(I:n<=64)(X:m<=64)(J:Ex (Zy s d).1 n x.sub)(ab:Ex (Zy s d).1 m y.sub)(U:∀u∈Yc (Zy s d).1 x,∀ac∈Yc (Zy s d).1 y,TH s d g (Te s d 64) u ac):TH s d (tgB s (Zy s d).1 g) (Te s d 64) x y:=by
 intro S z;have f:=zk6 hfr (WD y) I J h;obtain⟨L,p⟩:=znL hfr 64 m x y h j (ZG _) X (J.mono I) ab S z;obtain⟨v,M⟩:=zeh (Yc (Zy s d).1 x) U _ p;rw[<-Oo hfr h,<-Oo hfr j]at v;have aa:Ra s d (Te s d 64) (WD x) (WD y)=(ST s d 64 (WD x) (WD y)&&(Oz s x y||((decide (x.x.nm=y.x.nm)&&Y8 x.args y.args)&&V3 (Te s d 64) (Lu s d (WD x)) (Lu s d (WD y))))):=by rw[zio,zio];rfl
 rw[aa]at f;simp only[tgB];cases Y:WF S.2 (x.no,y.no)with
 | some r=>exact⟨z.pr x h y j r Y,z⟩
 | none =>
  simp only
  generalize Oa s (Zy s d).1 64 x y S=K at *
  rw[<-L]at f;split
  ·rename_i G;rw[G,Bool.true_and]at f;split
   ·rename_i A;rw[A,Bool.true_or]at f;exact⟨f.symm,p.set2 h j f.symm⟩
   ·rename_i A;have O:Oz s x y=false:=xy A
    rw[O,Bool.false_or]at f;split
    ·rename_i C;rw[C,Bool.true_and]at f;rw[<-f]at v;exact⟨v,M.set2 h j v⟩
    ·rename_i C;have W:(decide (x.x.nm=y.x.nm)&&Y8 x.args y.args)=false:=xy C
     rw[W,Bool.false_and]at f;exact⟨f.symm,p.set2 h j f.symm⟩
  ·rename_i G;have Z:K.1=false:=xy G
   rw[Z,Bool.false_and]at f;exact⟨f.symm,p.set2 h j f.symm⟩
def zny(hfr:Nq s d (Zy s d).1):∀(n m:Nat) (x y:ye),x∈UI s d->y∈UI s d->n<=64->m<=64->Ex (Zy s d).1 n x.sub->Ex (Zy s d).1 m y.sub->TH s d (tgF s (Zy s d).1 n) (Te s d 64) x y
 | 0,m,x,y,hx,hy,hn,hm,hxe,hye=>ziM hfr hx hy hn hm hxe hye λu g j h=>by obtain⟨i,hi,_⟩:=Y9 (seen:=[]) (f:=64) hxe hn g;omega
 | n+1,m,x,y,hx,hy,hn,hm,hxe,hye=>ziM hfr hx hy hn hm hxe hye λu g j h=>by obtain⟨i,hi,p,_⟩:=Y9 (seen:=[]) (f:=64) hxe hn g;obtain⟨z,A,v,_⟩:=Y9 (seen:=[]) (f:=64) hye hm h;exact zny hfr n z u j (NQ hx g) (NQ hy h) xg xg (p.mono xg) v
end
def zkw(s:zg):∀(y j:List yE) (g:Q5),(∀n,∃no,(Yj g.1 n).map (·.2)=((j.find? (V7 n)).map λf=>(yC s f.sels f.on no).1))->∀n,∃no,(Yj (y.foldl (rFr s) g).1 n).map (·.2)=(((j++y).find? (V7 n)).map λf=>(yC s f.sels f.on no).1)
 | [],j,g,h=>by simpa using h
 | f::y,j,g,h=>by
  have C:=zkw s y (j++[f]) (rFr s g f) (λn=>by
   obtain⟨no,e⟩:=h n;cases hf:Yj g.1 f.nm with
   | some x =>
    have A:rFr s g f=g:=by unfold rFr;rw[hf]
    rw[A,List.find?_append];refine⟨no,?_⟩;rw[e];cases z:j.find? (V7 n)with
    | some G=>simp
    | none =>
     by_cases p:f.nm=n
     ·rw[p]at hf;rw[hf,z]at e;simp at e
     ·simp[V7,p]
   | none =>
    have A:(rFr s g f).1=g.1++[(f.nm,(yC s f.sels f.on g.2.2).1)]:=by unfold rFr;rw[hf]
    rw[A,SG,List.find?_append];cases z:j.find? (V7 n)with
    | some G =>
     refine⟨no,?_⟩;rw[z]at e;cases v:Yj g.1 n with
     | none=>rw[v]at e;simp at e
     | some I=>rw[v]at e;simpa using e
    | none =>
     rw[z]at e;have v:Yj g.1 n=none:=by
      cases v:Yj g.1 n with
      | none=>rfl
      | some I=>rw[v]at e;simp at e
     refine⟨g.2.2,?_⟩;rw[v];by_cases p:f.nm=n
     ·subst p;simp[V7]
     ·have:¬ n=f.nm:=λe=>p e.symm;simp[V7,p,this])
  intro n;obtain⟨no,e⟩:=C n;exact⟨no,by rw[List.foldl_cons,e];simp⟩
def zmL(s:zg)(d:zv):Nq s d (Zy s d).1:=λn=>by
 obtain⟨no,e⟩:=zkw s d.frags [] ([],[],0) (λn=>⟨0,rfl⟩) n;refine⟨no,?_⟩;rw[Pn,Zy,zef,e,TB,Uo,Rc,yb];cases d.frags.find? (V7 n)with
 | none=>simp[Vt,yC]
 | some f=>simp
def zf7(g:Zr->Zr->Bool)(x:Zr)(l:List Zr):Bool:=l.all λf=>!decide (yW x.2=yW f.2)||g f x
def VA(g:Zr->Zr->Bool):List Zr->List Zr->Bool
 | _,[]=>true
 | a,x::r=>zf7 g x a&&VA g (a++[x]) r
noncomputable def zbp(s:zg)(d:zv)(h:B8->List zj->Bool)(typ:B8)(l:List zj):Bool:=VA (Te s d 64) [] (SS s d 64 typ l []).1&&l.all λx=>h (zz s typ x) x.sels
noncomputable def Nn(s:zg)(d:zv):Nat->B8->List zj->Bool
 | 0=>zbp s d λ_ _=>true
 | n+1=>zbp s d (Nn s d n)
section
variable {s:zg} {d:zv}
def zfU{g:ye->ye->Za->Bool×Za}{G:Zr->Zr->Bool}{u:ye}:∀(j:List ye),(∀f∈j,TH s d g G f u)->∀S,MInv s d S->(rowB g u j S).1=zf7 G (WD u) (j.map WD)/\MInv s d (rowB g u j S).2
 | [],_,S,hS=>⟨rfl,hS⟩
 | f::j,h,S,hS=>by
  have z:=zfU j λf I=>h f (YN _ I);simp only[rowB,zf7,List.map_cons,List.all_cons]at z ⊢;have p:∀x:ye,(WD x).2=x.x:=λ_=>rfl;by_cases y:yW u.x=yW f.x
  ·obtain⟨A,v⟩:=h f (YS ..) S hS;simp only[y,if_true,p,decide_true,Bool.not_true,Bool.false_or];generalize g f u S=R at *
   obtain⟨r,C⟩:=R;simp only at A v;subst A;cases J:G (WD f) (WD u)with
   | true =>have:=z C v;simp only[p,y]at this;simpa using this
   | false=>exact⟨by simp,v⟩
  ·have:=z S hS;simp only[y,if_false,p,decide_false,Bool.not_false,Bool.true_or,Bool.true_and]at this ⊢;exact this
def zbI{g:ye->ye->Za->Bool×Za}{G:Zr->Zr->Bool}:∀(r a:List ye),(∀u∈a++r,∀f∈a++r,TH s d g G u f)->∀S,MInv s d S->(V1 g a r S).1=VA G (a.map WD) (r.map WD)/\MInv s d (V1 g a r S).2
 | [],a,_,S,hS=>⟨rfl,hS⟩
 | x::r,a,h,S,hS=>by
  obtain⟨v,j⟩:=zfU (u:=x) a (λf p=>h f (Wf _ p) x xw) S hS;have A:=zbI r (a++[x]) (λu z f p=>h u (by simpa[Uh]using z) f (by simpa[Uh]using p));simp only[V1,List.map_cons,VA];generalize rowB g x a S=R at *
  obtain⟨I,y⟩:=R;simp only at v j;subst v;cases C:zf7 G (WD x) (a.map WD)with
  | true =>have:=A y j;simpa using this
  | false=>exact⟨by simp,j⟩
def L6(s:zg)(d:zv)(h:List ye->Za->Bool×Za)(l:List ye)(b:Bool):Prop:=∀S,MInv s d S->(h l S).1=b/\MInv s d (h l S).2
def zh1{h:List ye->Za->Bool×Za}{H:B8->List zj->Bool}{typ:B8}:∀(l:List zj) (no:Nat),(∀x∈l,∀k,(∃g∈(yC s l typ no).1,g.sub=(yC s x.sels (zz s typ x) k).1)->L6 s d h (yC s x.sels (zz s typ x) k).1 (H (zz s typ x) x.sels)) ->
  ∀S,MInv s d S->(Pi h (yC s l typ no).1 S).1=(l.all λx=>H (zz s typ x) x.sels)/\MInv s d (Pi h (yC s l typ no).1 S).2
 | [],no,_,S,hS=>⟨rfl,hS⟩
 | x::r,no,hh,S,hS=>by
  have A:=zh1 r (Mr s x typ no).2 (λC z k ⟨g,y,e⟩=>hh C (YN _ z) k ⟨g,by simp only[yC];exact YN _ y,e⟩);have j:(Mr s x typ no).1.sub=(yC s x.sels (zz s typ x) (no+1)).1:=by obtain⟨k,G,L,I,J,M,U⟩:=x;simp only[Mr,ye.sub,zj.sels]
  obtain⟨p,f⟩:=hh x (YS ..) (no+1) ⟨(Mr s x typ no).1,by simp only[yC];exact YS ..,j⟩ S hS;simp only[yC,Pi,List.all_cons,j];generalize h (yC s x.sels (zz s typ x) (no+1)).1 S=R at *
  obtain⟨O,v⟩:=R;simp only at p f;subst p;cases K:H (zz s typ x) x.sels with
  | true =>have:=A v f;simpa using this
  | false=>exact⟨by simp,f⟩
def zjR{n:Nat}{typ:B8}{l:List zj}{no:Nat}{h:List ye->Za->Bool×Za}{H:B8->List zj->Bool}(A:n<=64)(C:Ex (Zy s d).1 n (yC s l typ no).1)(U:∀f∈WV (yC s l typ no).1,f∈UI s d)(X:∀x∈l,∀k,(∃f∈(yC s l typ no).1,f.sub=(yC s x.sels (zz s typ x) k).1)->L6 s d h (yC s x.sels (zz s typ x) k).1 (H (zz s typ x) x.sels)):L6 s d (lsB s (Zy s d).1 h) (yC s l typ no).1 (zbp s d H typ l):=by
 intro S O;have hfr:=zmL s d;have W:=(za9 hfr 64 l typ no []).1;have z:∀f∈(Us (Zy s d).1 64 (yC s l typ no).1 []).1,f∈UI s d:=λf Y=>by
  rcases NI 64 _ [] f Y with j|⟨ac,j⟩
  ·exact U f j
  ·exact zns j
 obtain⟨j,p⟩:=zbI (g:=tgF s (Zy s d).1 64) (G:=Te s d 64) (Us (Zy s d).1 64 (yC s l typ no).1 []).1 [] (λu v I y=>by rw[TB]at v y;obtain⟨i,hi,L,_⟩:=Y9 C A v;obtain⟨Z,ab,M,_⟩:=Y9 C A y;exact zny hfr 64 Z u I (z u v) (z I y) (ZG _) xg (L.mono xg) M) S O;have K:(SS s d 64 typ l []).1=(Us (Zy s d).1 64 (yC s l typ no).1 []).1.map WD:=by rw[<-W]
 simp only[lsB,zbp,K];rw[List.map_nil]at j;generalize V1 (tgF s (Zy s d).1 64) [] (Us (Zy s d).1 64 (yC s l typ no).1 []).1 S=R at *
 obtain⟨ad,J⟩:=R;simp only at j p;subst j;cases aa:VA (Te s d 64) [] ((Us (Zy s d).1 64 (yC s l typ no).1 []).1.map WD)with
 | true =>have:=zh1 l no X J p;simpa using this
 | false=>exact⟨by simp,p⟩
def zeT:∀(n:Nat) (typ:B8) (l:List zj) (no:Nat),n<=64->Ex (Zy s d).1 n (yC s l typ no).1->(∀g∈WV (yC s l typ no).1,g∈UI s d)->L6 s d (lsF s (Zy s d).1 n) (yC s l typ no).1 (Nn s d n typ l)
 | 0,typ,l,no,hn,hx,hU=>zjR hn hx hU λx p k ⟨g,f,e⟩=>by rw[hx.zero]at f;cases f
 | n+1,typ,l,no,hn,hx,hU=>zjR hn hx hU λx p k ⟨g,f,e⟩=>by refine zeT n _ _ _ xg (by rw[<-e];exact hx.sub f) λj h=>?_;rw[<-e]at h;exact hU j (PZ _ g j (MJ f) h)
def zbF{h:List ye->Za->Bool×Za}{P:List ye->Bool}:∀(L:List (List ye)),(∀l∈L,L6 s d h l (P l))->∀S,MInv s d S->(QA h L S).1=L.all P/\MInv s d (QA h L S).2
 | [],_,S,hS=>⟨rfl,hS⟩
 | l::L,hh,S,hS=>by
  obtain⟨g,f⟩:=hh l (YS ..) S hS;have v:=zbF L λx p=>hh x (YN _ p);simp only[QA,List.all_cons];generalize h l S=R at *
  obtain⟨z,j⟩:=R;simp only at g f;subst g;cases y:P l with
  | true =>have:=v j f;simpa using this
  | false=>exact⟨by simp,f⟩
end
def zcK(s:zg)(d:zv):∀l∈(Zy s d).2.1,(∃g∈d.frags,∃no,l=(yC s g.sels g.on no).1)∨∃o∈d.ops,∃no,l=(yC s o.sels (ZS s o) no).1:=by
 have v:∀(h:List yE) (p:Q5),∀l∈(h.foldl (rFr s) p).2.1,l∈p.2.1∨∃g∈h,∃no,l=(yC s g.sels g.on no).1:=by
  intro h;induction h with
  | nil=>intro p l f;exact .inl f
  | cons g h A =>
   intro p l f;rcases A (rFr s p g) l f with v|⟨y,z,no,e⟩
   ·unfold rFr at v;split at v
    ·exact .inl v
    ·rcases List.mem_append.1 v with j|j
     ·exact .inl j
     ·simp only[List.mem_singleton]at j;exact .inr ⟨g,YS ..,_,j⟩
   ·exact .inr ⟨y,YN _ z,no,e⟩
 have j:∀(h:List Y6) (p:Q5),∀l∈(h.foldl (rOp s) p).2.1,l∈p.2.1∨∃g∈h,∃no,l=(yC s g.sels (ZS s g) no).1:=by
  intro h;induction h with
  | nil=>intro p l f;exact .inl f
  | cons g h A =>
   intro p l f;rcases A (rOp s p g) l f with v|⟨y,z,no,e⟩
   ·rcases List.mem_append.1 v with j|j
    ·exact .inl j
    ·simp only[List.mem_singleton]at j;exact .inr ⟨g,YS ..,_,j⟩
   ·exact .inr ⟨y,YN _ z,no,e⟩
 intro l f;rcases j d.ops _ l f with f|f
 ·rcases v d.frags _ l f with f|f
  ·cases f
  ·exact .inl f
 ·exact .inr f
def zgy(s:zg)(d:zv):∀o∈d.ops,∃no,(yC s o.sels (ZS s o) no).1∈(Zy s d).2.1:=by
 have f:∀(h:List Y6) (g:Q5),(∀l∈g.2.1,l∈(h.foldl (rOp s) g).2.1)/\∀o∈h,∃no,(yC s o.sels (ZS s o) no).1∈(h.foldl (rOp s) g).2.1:=by
  intro h;induction h with
  | nil=>intro g;exact⟨λl f=>f,λo f=>by cases f⟩
  | cons p h y =>
   intro g;obtain⟨j,v⟩:=y (rOp s g p);refine⟨λl f=>j l (Wf _ f),λo ho=>?_⟩;rcases List.mem_cons.1 ho with rfl|ho
   ·exact⟨g.2.2,j _ (List.mem_append_right _ xw)⟩
   ·exact v o ho
 exact(f d.ops _).2
def zb7(s:zg)(d:zv)(K:(d.frags.map (·.nm)).Nodup):∀f∈d.frags,∃no,(yC s f.sels f.on no).1∈(Zy s d).2.1:=by
 have G:∀(h:List Y6) (g:Q5),(∀l∈g.2.1,l∈(h.foldl (rOp s) g).2.1):=by
  intro h;induction h with
  | nil=>intro g l j;exact j
  | cons f h z=>intro g l j;exact z (rOp s g f) l (Wf _ j)
 have j:∀(h:List yE) (g:Q5),(h.map (·.nm)).Nodup->(∀f∈h,Yj g.1 f.nm=none)->(∀l∈g.2.1,l∈(h.foldl (rFr s) g).2.1)/\∀f∈h,∃no,(yC s f.sels f.on no).1∈(h.foldl (rFr s) g).2.1:=by
  intro h;induction h with
  | nil=>intro g _ _;exact⟨λl j=>j,λo j=>by cases j⟩
  | cons f h z =>
   intro g y hf;have J:=hf f (YS ..);have p:rFr s g f=(g.1++[(f.nm,(yC s f.sels f.on g.2.2).1)],g.2.1++[(yC s f.sels f.on g.2.2).1],(yC s f.sels f.on g.2.2).2):=by unfold rFr;rw[J]
   simp only[List.map_cons,List.nodup_cons]at y;obtain⟨C,L⟩:=z (rFr s g f) y.2 (λv A=>by rw[p,SG,hf v (YN _ A)];have:¬ v.nm=f.nm:=λe=>y.1 (List.mem_map.2 ⟨v,A,e⟩);simp[this]);rw[List.foldl_cons];refine⟨λl j=>C l (by rw[p];exact Wf _ j),λo ho=>?_⟩;rcases List.mem_cons.1 ho with rfl|ho
   ·exact⟨g.2.2,C _ (by rw[p];exact List.mem_append_right _ xw)⟩
   ·exact L o ho
 intro f hf;obtain⟨no,I⟩:=(j d.frags ([],[],0) K λ_ _=>rfl).2 f hf;exact⟨no,G d.ops _ _ I⟩
def zmk{s:zg}{d:zv}(L:∀x∈yQ d,Sz d 40 x)(p:zt d<=ze)(M:(d.frags.map (·.nm)).Nodup):mgM s d=true↔Vv d=false/\(∀f∈d.frags,Nn s d 64 f.on f.sels=true)/\∀o∈d.ops,Nn s d 64 (ZS s o) o.sels=true:=by
 have hex:=zfJ (s:=s) L p;have C:∀l∈(Zy s d).2.1,∀y∈WV l,y∈UI s d:=λl h y O=>List.mem_flatMap.2 ⟨l,h,O⟩;have A:MInv s d ([],[]):=⟨λx _ y _ r h=>(by simp[WF]at h),λx _ y _ r h=>(by simp[WF]at h)⟩;have I:∀l∈(Zy s d).2.1,∃b,L6 s d (lsF s (Zy s d).1 64) l b:=λl h=>by
  rcases zcK s d l h with ⟨f,hf,no,rfl⟩|⟨o,ho,no,rfl⟩
  ·exact⟨_,zeT 64 _ _ _ (ZG _) (hex _ h) (C _ h)⟩
  ·exact⟨_,zeT 64 _ _ _ (ZG _) (hex _ h) (C _ h)⟩
 have K:=(zbF (h:=lsF s (Zy s d).1 64) (P:=λl=>(lsF s (Zy s d).1 64 l ([],[])).1) (Zy s d).2.1 (λl h=>by obtain⟨b,p⟩:=I l h;intro S J;rw[(p ([],[]) A).1];exact p S J) ([],[]) A).1;have v:∀g l no,(yC s l g no).1∈(Zy s d).2.1->(lsF s (Zy s d).1 64 (yC s l g no).1 ([],[])).1=Nn s d 64 g l:=λg l no h=>(zeT 64 g l no (ZG _) (hex _ h) (C _ h) ([],[]) A).1;unfold mgM;rw[K,yu,Bool.not_eq_true',Yh];constructor
 ·rintro⟨z,j⟩;refine⟨z,λf hf=>?_,λo ho=>?_⟩
  ·obtain⟨no,h⟩:=zb7 s d M f hf;rw[<-v _ _ no h];exact j _ h
  ·obtain⟨no,h⟩:=zgy s d o ho;rw[<-v _ _ no h];exact j _ h
 ·rintro⟨z,j,G⟩;refine⟨z,λl h=>?_⟩;rcases zcK s d l h with ⟨f,hf,no,rfl⟩|⟨o,ho,no,rfl⟩
  ·rw[v _ _ no h];exact j f hf
  ·rw[v _ _ no h];exact G o ho
def zoi(f:yE)(l:B9)(b:Nat)(o:Own)(H:zd)(j:H b=some (.cells [.sl o 1 (cT l)]))(p:l.length<=ze):zZ 174 [.agg (cF f),.ptr b 0] H (At (.bool (!zH f.nm l)) H):=by
 have g:=Z4 l f.nm p;obtain⟨v,y,ds,z⟩:=f;simp only at g ⊢;generalize zH v l=A at *
 refine Xe ir174 λKP Q h=>?_;simp(disch:=omega) only[ir174,Ys,j,go_sem];refine za (Zk.low g) ?_;refine xa ?_;exact h _ _ _ _ _ nofun rfl (yT.refl _) ⟨by simp ,rfl⟩
def zmT{H:zd}{o:Own}{n sz b:Nat}{g j:List AV}(h:zM H o n sz)(p:H b=some (.cells g)):zM (H.upd b (.cells j)) o n sz:=by
 cases o with
 | tip c d =>have f:H c=some (.tip (d+n) sz):=h;have v:c≠b:=nen2 p f;show (H.upd b _) c=_;simp[zd.upd,v,f]
 | no=>exact h
 | nil=>exact h
 | full=>exact h
def ziT(d:zv):B9:=d.ops.foldl (λl o=>l++Zx d o.sels) []
def Mj(d:zv):Bool:=!d.frags.any λf=>!zH f.nm (ziT d)
def zqW(d:zv)(I:Zi d<=ze)(a7:lenD d*zt d+zt d<=1099511627776):zf 83 [.agg (z8 d)] (.bool (Mj d)):=by
 have ab:=I;simp only[Zi]at ab;have a3:Ub d.ops+XZ d.frags=zt d:=rfl;have a8:=yP d.frags;have ba:=ZJ d.ops;have Z:=λ(o:Y6) (H:zd) (ho:yR o.sels+XZ d.frags<=zt d)=>Mi d o.sels H xg;have an:=λo:Y6=>Sc d o.sels;have ay:=λ(o:Y6) (ho:o∈d.ops)=>(by obtain⟨a,b,z⟩:=List.append_of_mem ho;have:=Wc a o b;rw[<-z]at this;simp only[bO]at this;omega:yR o.sels+XZ d.frags<=zt d);have ap:=λ(l:B9) (b:Nat) (o:Own) (H:zd) (I:H b=some (.cells [.sl o 1 (cT l)])) (au:l.length<=ze)=>zin cF (λ_=>rfl) d.frags 174 [.ptr b 0] (λp=>!zH p.nm l) H xg yw λp _=>zoi p l b o H I au;have Y:Mj d=!d.frags.any λp=>!zH p.nm (d.ops.foldl (λl o=>l++Zx d o.sels) []):=rfl;generalize Mj d=F,a5:Zx d=R,a4:zt d=B at *
 have O:=ZI d.ops;have hmul:d.ops.length*B<=lenD d*B:=Nat.mul_le_mul_right _ w2;have ar:=Yl d;rw[ar]at Z ⊢;refine zo ir83 λKP Q am=>?_;refine xa (zb λf ab=>?_);refine xc O ?_;refine zc d.ops 9 ZY (λC ag _ H'=>∃o l,ag.foldl (λl o=>l++R o.sels) l=d.ops.foldl (λl o=>l++R o.sels) []/\H' f=some (.cells [.sl o 1 (cT l)])/\zM H' o l.length 1/\l.length<=C.length*B) () xb ⟨.nil,[],rfl,by simp[zd.upd,cT],rfl,by simp⟩ ?_ ?_
 ·rintro _ U ai ⟨o,l,j,g,ho,av⟩ J;simp only[List.foldl]at j;rw[<-j]at Y;have ak:=zY.low (args:=[.o 4 (Pf d.frags),.clo 174 [] [.ptr f 0]]) (ap l f o U g xi);refine xe O J g (yM ak ?_);rintro _ _ ⟨_,rfl,rfl,rfl⟩;refine xV ?_;exact xj am Y
 ·rintro C x ag _ U ai z J a9 ⟨o,l,j,g,ho,av⟩ al;have ad:=Z6 z;have a0:x∈d.ops:=xv z
  have ae:=ay x a0;have aa:=λH=>Z x H ae;have ao:=an x;have aw:(C.length+1)*B<=d.ops.length*B:=Nat.mul_le_mul_right _ xg;rw[Nat.add_mul,Nat.one_mul]at aw;simp only[List.foldl]at j;obtain⟨k,bc,bd,ds,h⟩:=x;simp only at aa ao j ae;have y:=zn l;have G:=zn (R h);have a6:(R h).length<=B:=xg
  rw[Xn]at ad;refine xe O J ad (zb λX ac=>?_);have v:X≠f:=nen2 g ac;refine xe g v (Ne.symm v) (zu (aa _) λo2 W K=>?_);have M:=K.kept f _ (by refine xK (Ne.symm v) ?_;exact g) (λd e=>by cases e);have a1:=K.kept X _ (upd_same ..) (λd e=>by cases e);have A:zM W o l.length 1:=zM.ofKept (ho.upd ac) K.kept λ_ _ _ _ e=>by cases e
  refine xp g M a1 v (Ne.symm v) (zp (wz y A) ?_ ?_ λo' ah az=>?_)
  ·simp only[y,G];omega
  ·simp only[y,G,maxLen];omega
  have aj:cT l++(cT (R h)).map (·.map AV.strip1)=cT (l++R h):=by simp[cT]<;>(intro a _;rfl)
  have L:=az;simp only[y,G]at L;have a2:∀b c,W b=some (.cells c)->∀d,o≠.tip b d:=λb c aq d e=>by subst e;simp only[zM]at A;rw[aq]at A;cases A
  have af:=L.kept f _ M (a2 f _ M);simp(disch:=omega) only[wrap64,af,aj,go_sem];have ax:zM (ah.upd f (.cells [.sl o' 1 (cT (l++R h))])) o' (l++R h).length 1:=zmT (by simpa using L.own) af;exact zJ (al () _ ⟨o',l++R h,j,upd_same ..,ax,by simp only[ZX,yg,yy,Nat.add_mul,Nat.one_mul];omega⟩) xf
noncomputable def S8(s:zg)(d:zv)(n:Int):Bool :=
 if n=1 then Z1 ((d.ops.map (·.nm)).filter (λn=>!decide (n=[])))
 else if n=2 then decide (0<d.ops.length)&&(decide (d.ops.length=1)||!zH [] (d.ops.map (·.nm)))
 else if n=3 then !decide (s.m=[])||!d.ops.any λo=>decide (o.k=1)
 else if n=4 then Z1 (d.frags.map (·.nm))
 else if n=5 then onM s d
 else if n=6 then za0 d
 else if n=7 then !Vv d
 else if n=8 then Mj d
 else false
def zsp(o:Y6):zf 78 [.agg (cO o)] (.bool (decide (o.k=1))):=by obtain⟨k,g,j,ds,h⟩:=o;rw[Xn];refine zo ir78 λKP Q f=>?_;exact vm f
def zpw(s:zg)(d:zv)(n:Int)(am:zA s<=ze)(L:Zi d<=ze)(ai:lenD d*zt d+zt d<=1099511627776):zf 35 [.agg (zk s),.agg (z8 d),.i n] (.bool (S8 s d n)):=by
 have aj:=L;simp only[Zi,ze]at aj;have j:zt d<=ze:=xi
 have au:=ZJ d.ops;have av:=yP d.frags;have ar:Ub d.ops+XZ d.frags=zt d:=rfl;have Y:=λH=>zp3 d H j;have an:=λo:Own=>Zk.low (args:=[.sl o 1 (cT ((d.ops.map (·.nm)).filter (λn=>!decide (n=[]))))]) (zks ((d.ops.map (·.nm)).filter (λn=>!decide (n=[]))) (by have:=List.length_filter_le (λn:B8=>!decide (n=[])) (d.ops.map (·.nm));rw[List.length_map]at this;refine xl ?_;omega));have Z:=λH=>zsK d H j;have ao:=λo:Own=>Zk.low (args:=[.sl o 1 (cT (d.ops.map (·.nm))),.str []]) (Z4 (d.ops.map (·.nm)) [] (by rw[List.length_map];refine xl ?_;omega));have aa:=anyOp cO (λ_=>rfl) d.ops 78 [] (λo=>decide (o.k=1)) xi yw λo _=>zsp o;have ab:=λH=>zpA d H j;have ap:=λo:Own=>Zk.low (args:=[.sl o 1 (cT (d.frags.map (·.nm)))]) (zks (d.frags.map (·.nm)) (by rw[List.length_map];refine xl ?_;omega));have ac:=onC s d (zR am) j;have ad:=zpt d j;have ae:=zkt d L;have af:=zqW d L ai;have p:=ZI d.ops;have al:d.ops.length<=1099511627776:=xg
 have f:S8 s d n=S8 s d n:=rfl
 conv at f=>rhs;unfold S8
 generalize S8 s d n=F,Z1 ((d.ops.map (·.nm)).filter (λn=>!decide (n=[])))=ay,zH [] (d.ops.map (·.nm))=az,d.ops.any (λo=>decide (o.k=1))=a0,Z1 (d.frags.map (·.nm))=a1,onM s d=a2,za0 d=a3,Vv d=a4,Mj d=a5 at *
 obtain⟨h,X⟩:=d;obtain⟨aw,ax,sm⟩:=s;have ak:z8 ⟨h,X⟩=[.o 5 (PR h),.o 4 (Pf X)]:=rfl;simp only[zk,ak]at Y Z aa ab ac ad ae af f p al ⊢;refine zo ir35 λKP Q g=>?_;by_cases y:n=1
 ·subst y;rw[if_pos rfl]at f;subst f;refine xa (zu (Y _) λo1 W _=>?_);refine xh (an o1) ?_;exact vm g
 rw[if_neg y]at f;by_cases z:n=2
 ·subst z;rw[if_pos rfl]at f;subst f;by_cases O:0<h.length
  case neg =>
   have U:¬ ((0:Int)<h.length):=xg
   refine xd p U ?_;exact xj g O
  have U:(0:Int)<h.length:=xg
  have ah:((0:Int)<h.length)=True:=eq_true U;by_cases ag:h.length=1
  ·have M:((h.length:Int)=1)=True:=eq_true xg;refine xe p ah M ?_;exact xz g O ag
  ·have M:¬ ((h.length:Int)=1):=xg
   refine xe p ah M (zu (Z _) λo1 W _=>?_);refine xh (ao o1) ?_;refine xa ?_;exact xz g O ag
 rw[if_neg z]at f;by_cases A:n=3
 ·subst A;rw[if_pos rfl]at f;subst f;by_cases v:sm=[]
  ·have aq:=eq_true v;refine xt aq aa ?_;exact vn g v
  ·exact vo v g v
 rw[if_neg A]at f;by_cases C:n=4
 ·subst C;rw[if_pos rfl]at f;subst f;refine xa (zu (ab _) λo1 W _=>?_);refine xh (ap o1) ?_;exact vm g
 rw[if_neg C]at f;by_cases G:n=5
 ·subst G;rw[if_pos rfl]at f;subst f;refine xh ac ?_;exact vm g
 rw[if_neg G]at f;by_cases I:n=6
 ·subst I;rw[if_pos rfl]at f;subst f;refine xh ad ?_;exact vm g
 rw[if_neg I]at f;by_cases J:n=7
 ·subst J;rw[if_pos rfl]at f;subst f;refine xh ae ?_;exact vm g
 rw[if_neg J]at f;by_cases K:n=8
 ·subst K;rw[if_pos rfl]at f;subst f;refine xh af ?_;exact vm g
 rw[if_neg K]at f;subst f;refine x4 y z A C G I J K ?_;exact xo g
def Mz(t:X4):(Xp t).nm=t.nm:=by unfold Xp;split<;>rfl
def zpX:Val->Int| .mk k _ _ _ _=>k
def UP(v:z6)(t:X4)(has:Bool):Bool:=if !SK t||SK v.t then Xl v.t t else (has||(v.has&&!decide (zpX v.d=0)))&&Xl v.t (Xp t)
def zqg(v:z6)(t:X4)(has:Bool)(K:v.t.nm.length<=ze)(C:t.nm.length<=ze):zf 200 [.agg (cW v),.agg (YQ t),.bool has] (.bool (UP v t has)):=by
 have L:=isC t C;have I:=isC v.t K;have y:=zed v.t t K C;have J:=zng t C;have z:=zed v.t (Xp t) K (by rw[Mz];exact C);obtain⟨M,⟨f,g,h⟩,G,⟨k,q,O,l,m⟩⟩:=v;have j:UP ⟨M,⟨f,g,h⟩,G,.mk k q O l m⟩ t has=if !SK t||SK ⟨f,g,h⟩then Xl ⟨f,g,h⟩ t else (has||(G&&!decide (k=0)))&&Xl ⟨f,g,h⟩ (Xp t):=rfl
 generalize UP ⟨M,⟨f,g,h⟩,G,.mk k q O l m⟩ t has=F at *
 simp only at I y z;generalize SK t=X,SK ⟨f,g,h⟩=Y,Xl ⟨f,g,h⟩ t=af,Xl ⟨f,g,h⟩ (Xp t)=ag at *
 generalize Xp t=W at *
 obtain⟨Z,aa,ab⟩:=t;obtain⟨ac,ad,ae⟩:=W;simp only[YQ]at L I y J z ⊢;rw[zX];refine zo ir200 λKP Q p=>?_;refine xh L ?_;cases X with
 | false =>refine xh y ?_;exact vn p j
 | true =>
 refine xh I ?_;cases Y with
 | true =>refine xh y ?_;exact vn p j
 | false =>
 simp only[Bool.not_true,Bool.or_self,Ql,if_false]at j;cases has with
 | true =>refine xh J ?_;refine xh z ?_;exact vn p j
 | false =>
 cases G with
 | false =>exact vn p j
 | true =>
 by_cases A:k=0
 ·have U:=eq_true A;refine xc U ?_;exact xz p j A
 ·refine xt A J ?_;refine xh z ?_;refine xa ?_;exact xz p j A
def Kz(d:zv)(h:List zj):(Zl d h).length<=d.frags.length:=by
 have j:∀(R:B9) (f:List yE) (a:B9),(f.foldl (ZO R) a).length<=a.length+f.length:=by
  intro R f;induction f with
  | nil=>simp
  | cons g f p =>
   intro a;have:=p (ZO R a g);have v:(ZO R a g).length<=a.length+1:=by unfold ZO;split<;>simp
   simp only[List.foldl_cons,yg];omega
 have:=j (Zx d h) d.frags [];simpa[Zl]using this
noncomputable def Nr(s:zg)(d:zv)(n:B8):List ZK:=Wp s ((yb d n).getD Vt).sels ((yb d n).getD Vt).on
noncomputable def Q0(s:zg)(d:zv)(o:Y6):List ZK:=Wp s o.sels (ZS s o)++(Zl d o.sels).flatMap (Nr s d)
def K4(d:zv)(n:B8):yR ((yb d n).getD Vt).sels<=XZ d.frags:=by
 cases g:yb d n with
 | none=>simp[Vt,yR]
 | some f=>exact Nat.le_trans (Xb f) (WB (List.mem_of_find?_eq_some g))
def zan(s:zg)(d:zv)(j:zA s<=ze)(v:zt d<=ze):∀l:B9,(l.flatMap (Nr s d)).length<=l.length*zt d/\∀f∈l.flatMap (Nr s d),f.t.nm.length<=ze
 | []=>by simp
 | n::r=>by
  have A:=K4 d n;have z:XZ d.frags<=zt d:=wA
  have p:=R8 s j ((yb d n).getD Vt).sels ((yb d n).getD Vt).on xg;have h:=zan s d j v r;rw[List.flatMap_cons,yg,Nat.add_mul,Nat.one_mul];refine⟨by rw[ZX];simp only[Nr]at h ⊢;omega,λf y=>?_⟩;rcases List.mem_append.1 y with g|g
  ·exact p.2 f g
  ·exact h.2 f g
def zmZ(s:zg)(d:zv)(o:Y6)(h:zA s<=ze)(v:zt d<=ze)(ho:yR o.sels<=zt d):(Q0 s d o).length<=zt d+lenD d*zt d/\∀f∈Q0 s d o,f.t.nm.length<=ze:=by
 have j:=R8 s h o.sels (ZS s o) xg;have p:=zan s d h v (Zl d o.sels);have z:=Kz d o.sels;have A:(Zl d o.sels).length*zt d<=lenD d*zt d:=Nat.mul_le_mul_right _ w2;refine⟨by rw[Q0,ZX];omega,λf y=>?_⟩;rcases List.mem_append.1 y with g|g
 ·exact j.2 f g
 ·exact p.2 f g
def zrH(s:zg)(d:zv)(o:Y6)(H:zd)(I:zA s<=ze)(W:Zi d<=ze)(bv:lenD d*zt d+zt d<=1099511627776)(ho:yR o.sels<=zt d):YR Tryz.prog 199 [.agg (zk s),.agg (z8 d),.agg (cO o)] H .nil 5 (Ul (Q0 s d o)):=by
 have az:=W;simp only[Zi,ze]at az;have X:zt d<=ze:=xi
 have bn:XZ d.frags<=zt d:=wA
 have bx:=yP d.frags;have aa:=zh9 s o;have K:=λl bf H (ap:yR l<=zt d)=>zpC s I (zt d) l bf H ap X;have G:=λH=>ziY d o.sels H W ho;have b1:=Kz d o.sels;have hfr:=λn=>zcS d n xi;have a3:=λn=>K4 d n;have Z:=zan s d I X;have a6:=(R8 s I o.sels (ZS s o) xg).1;have U:Q0 s d o=Wp s o.sels (ZS s o)++(Zl d o.sels).flatMap (Nr s d):=rfl;have ak:∀n,Nr s d n=Wp s ((yb d n).getD Vt).sels ((yb d n).getD Vt).on:=λ_=>rfl;have bz:(Zl d o.sels).length*zt d<=lenD d*zt d:=Nat.mul_le_mul_right _ w2;generalize Q0 s d o=F,ZS s o=ad,Zl d o.sels=R at *
 obtain⟨k,b2,b5,ds,af⟩:=o;simp only at a6 U ho G;generalize ax:Wp s af ad=p,bp:zt d=B at *
 have a0:=Yl d;obtain⟨ae,ag,sm⟩:=s;generalize aw:(⟨ae,ag,sm⟩:zg)=s at *
 have a1:zk s=[.o 6 (Vd ae),.str ag,.str sm]:=xM aw
 simp only[a1,a0,Xn]at aa K G hfr ⊢;have L:=zn R;refine Xt ir199 λKP Q av bq=>?_;have fin:∀r o,F=r->∀ρ f,zx ρ f ir199.1.res=some [.sl o 5 (Ul r)]->zQ H .nil f o r.length 5->Q .ret ρ f:=λr o e ρ f aq ar=>av _ ρ f f _ nofun aq (yT.refl _) ⟨o,by rw[e];rfl,by rw[e,zO];exact ar⟩;refine xh aa ?_;refine xa (zu (K af ad _ ho) λo1 f J=>?_);rw[ax]at J ⊢;rw[zO]at J;refine xa (zu (G _) λb4 bg a7=>?_);have ba:=Z3 J a7;refine xc L ?_;refine zc R 24 (λx:Own×List ZK=>[(7,.sl x.1 5 (Ul x.2))]) (λg be x H'=>x.2=p++g.flatMap (Nr s d)/\zQ H .nil H' x.1 x.2.length 5) (o1,p) xb ⟨by simp,ba⟩ ?_ ?_
 ·rintro⟨M,a⟩ O ai ⟨h,j⟩ A;simp only at h;subst h;refine xd L A ?_;exact fin _ M U _ _ rfl j
 ·rintro g x be ⟨M,a⟩ O ai a2 A _ ⟨h,j⟩ au;have a5:=ZM a2;have Y:=hfr x;have a4:=a3 x;have al:=ak x;simp only at h;replace j:zQ H .nil O M a.length 5:=j;have br:=(Z g).1;have bw:g.length*B<=R.length*B:=Nat.mul_le_mul_right _ xg;have z:=(Z [x]).1;simp only[List.flatMap_cons,List.flatMap_nil,List.append_nil,yg,yy,Nat.zero_add,Nat.one_mul]at z;have C:p++(g++[x]).flatMap (Nr s d)=a++Nr s d x:=by rw[List.flatMap_append,h];simp[Uh]
  have bu:a.length=p.length+(g.flatMap (Nr s d)).length:=by rw[h,ZX]
  rw[al]at z C;generalize (yb d x).isSome=bl,(yb d x).getD Vt=am at *
  obtain⟨ao,v,an,y⟩:=am;rw[Ys]at Y;simp only at a4 z C;have a9:=λH=>K y v H xg;generalize Wp s y v=aj at *
  refine xm L A a5 Y ?_;refine xa (zb λbj ay=>?_);have bc:=j.upd (x:=.cells [.str ao,.str v,.o 2 (ZE an),.o 7 (Zp y)]) ay;refine xa (zu (a9 _) λb3 bh a8=>?_);have ac:=Z3 bc a8;refine xa (zp (by rw[zO];exact ac.own) ?_ ?_ λbd ah ab=>?_)
  ·simp only[zO];omega
  ·simp only[zO,maxLen];omega
  simp only[zO]at ab;refine wh ?_;exact zJ (au (bd,a++aj) ah ⟨C.symm,by rw[ZX];exact ac.trans ab⟩) xf
noncomputable def Pq(s:zg)(g:List z6)(l:List yU):Bool:=l.all λm=>match m with|.mk n v=>match zB g n with|none=>true|some f=>Zs s f.t v
def zqG(s:zg)(f:List z6)(l:List yU)(aj:zA s<=ze)(v:Wx f<=ze)(ae:ZC l<=ze):zf 198 [.o 10 (Yg f),.o 6 (Ya l),.view (zk s)] (.bool (Pq s f l)):=by
 have a2:=y5 l;have y:=yI l;have az:=yr f;have af:=ae;simp only[ze]at af;have ah:=λn=>Q2 f n xg;have O:∀n x,yU.mk n x∈l->∀g,zB f n=some g->zf 197 [.agg (zk s),.agg (YQ g.t),.agg (cV x)] (.bool (Zs s g.t x)):=λn x al g v=>by
  have am:bV x<=ze:=by have:=X9 al;omega
  have j:g∈f:=List.mem_of_find?_eq_some v;have ai:g.t.nm.length<=ze:=by have:=YW j;simp only[bW]at this;omega
  exact OE s g.t x aj am ai
 have ak:∀n A r,Pq s f (.mk n A::r)=((match zB f n with|none=>true|some g=>Zs s g.t A)&&Pq s f r):=λn A r=>by simp only[Pq,List.all_cons]
 have ac:Pq s f []=true:=rfl;generalize a0:Pq s f=R at *
 obtain⟨X,Y,sm⟩:=s;generalize ad:(⟨X,Y,sm⟩:zg)=s at *
 have ag:zk s=[.o 6 (Vd X),.str Y,.str sm]:=xM ad
 simp only[ag]at O ⊢;refine zo ir198 λKP Q J=>?_;refine xc y ?_;refine zc l 12 ZY (λab W _ H=>R W=R l) () xb rfl ?_ ?_
 ·rintro _ H Z h z;rw[ac]at h;refine xd y z ?_;exact J rfl (wD h)
 ·rintro ab x W _ H Z L z _ h I;have M:=yZ L;have an:x∈l:=xv L
  obtain⟨C,⟨au,ax,ay,av,aw⟩⟩:=x;have v:=ah C;have p:=O C _ an;rw[ak]at h;rw[zy,zC]at M;refine xe y z M (zb λaa a1=>?_);refine xh v ?_;cases j:zB f C with
  | none =>rw[j]at h;refine x2 (zb λG K=>?_);refine xa ?_;exact zJ (I () _ (xy h)) xf
  | some g =>
   rw[j]at h;replace p:=p g j;obtain⟨a4,⟨ao,ap,aq⟩,a3,⟨a5,a8,a9,a6,a7⟩⟩:=g;simp only[YQ,zC]at p h;generalize Zs s ⟨ao,ap,aq⟩ (.mk au ax ay av aw)=ar at *
   refine x6 (zb λG K=>?_);have U:aa≠G:=λe=>by subst e;simp[zd.upd]at K
   refine xn U (Ne.symm U) p ?_;cases ar with
   | false =>refine xa ?_;exact J rfl (wD h)
   | true =>refine xa ?_;exact zJ (I () _ (xy h)) xf
noncomputable def zb5(s:zg)(l:List z6):Bool:=l.all λf=>!f.has||Zs s f.t f.d
noncomputable def P5(s:zg)(d:zv):Bool:=(d.ops.all λo=>zb5 s o.vars)&&Yw s d (Xj s (Pq s))
def zi0(s:zg)(d:zv)(I:zA s<=ze)(W:zt d<=ze):zf 100 [.agg (zk s),.agg (z8 d)] (.bool (P5 s d)):=by
 have ae:=PL s d 198 [.view (zk s)] (Pq s) I W ⟨by kernel_rfl,λa0 l ax av=>zqG s a0 l I ax av⟩;have X:=W;simp only[ze,zt]at X;have aw:=ZJ d.ops;have y:=ZI d.ops;have ab:∀o∈d.ops,∀f∈o.vars,zf 197 [.agg (zk s),.agg (YQ f.t),.agg (cV f.d)] (.bool (Zs s f.t f.d)):=λo ho f ay=>by obtain⟨a,b,j⟩:=List.append_of_mem ho;have:=Wc a o b;rw[<-j]at this;have M:=YW ay;simp only[bO]at this;simp only[bW]at M;exact OE s f.t f.d I xi xi
 have ad:∀o∈d.ops,o.vars.length<=1099511627776:=λo ho=>by obtain⟨a,b,j⟩:=List.append_of_mem ho;have:=Wc a o b;rw[<-j]at this;have M:=yr o.vars;simp only[bO]at this;omega
 have p:P5 s d=((d.ops.all λo=>zb5 s o.vars)&&Yw s d (Xj s (Pq s))):=rfl;have ap:∀f r,zb5 s (f::r)=((!f.has||Zs s f.t f.d)&&zb5 s r):=λf r=>by simp only[zb5,List.all_cons]
 have aq:zb5 s []=true:=rfl;generalize P5 s d=F,Yw s d (Xj s (Pq s))=bp,zb5 s=R at *
 obtain⟨v,L⟩:=d;obtain⟨ah,ai,sm⟩:=s;generalize ao:(⟨ah,ai,sm⟩:zg)=s at *
 have au:zk s=[.o 6 (Vd ah),.str ai,.str sm]:=xM ao
 have ar:z8 ⟨v,L⟩=[.o 5 (PR v),.o 4 (Pf L)]:=rfl;simp only[au,ar]at ae ab y ad p aw X ⊢;refine zo ir100 λKP Q U=>?_;refine xc y ?_;refine zc v 12 ZY (λK z _ H=>(z.all λo=>R o.vars)=v.all λo=>R o.vars) () xb rfl ?_ ?_
 ·rintro _ H al g C;rw[<-g]at p;refine xn y C ae ?_;exact vn U p
 ·rintro K x z _ H al j C _ g an;have Z:=Z6 j;have ag:x∈v:=xv j
  have ac:=ab x ag;have az:=ad x ag;rw[List.all_cons]at g;obtain⟨k,bh,A,ds,bl⟩:=x;simp only at ac g az;have J:=yJ A;rw[Xn]at Z;refine xe y C Z (zb λbc bf=>?_);refine xc J ?_;refine zc A 19 ZY (λK z _ H=>R z=R A) () xb rfl ?_ ?_
  ·rintro _ ak am h G;rw[aq]at h;rw[<-h,Bool.true_and]at g;refine xd J G ?_;exact zJ (an () _ g) xf
  ·rintro be aj bj _ ak am Y G _ h O;have aa:=y6 Y;have af:=ac aj (xv Y);rw[ap]at h;obtain⟨bn,⟨a1,a2,a3⟩,a4,⟨a6,a9,ba,a7,a8⟩⟩:=aj;simp only[YQ,zC]at af h;generalize Zs s ⟨a1,a2,a3⟩ (.mk a6 a9 ba a7 a8)=a5 at *
   rw[zX]at aa;refine xe J G aa (zb λbd bg=>?_);cases a4 with
   | false =>refine xa ?_;exact zJ (O () _ (xy h)) xf
   | true =>
    refine xh af ?_;cases a5 with
    | true =>refine xa ?_;exact zJ (O () _ (xy h)) xf
    | false =>
     have hf:R A=false:=xM h
     rw[hf,Bool.false_and]at g;rw[<-g]at p;exact vn U p
def zbC(vs:List z6)(x:ZK):Bool:=match zB vs x.nm with|none=>false|some f=>UP f x.t x.has
noncomputable def zkV(s:zg)(d:zv)(o:Y6):Bool:=(Q0 s d o).all (zbC o.vars)
noncomputable def ziJ(s:zg)(d:zv):Bool:=d.ops.all (zkV s d)
def zsJ(s:zg)(d:zv)(ar:zA s<=ze)(al:Zi d<=ze)(bd:lenD d*zt d+zt d<=1099511627776):zf 101 [.agg (zk s),.agg (z8 d)] (.bool (ziJ s d)):=by
 have be:=al;simp only[Zi,ze]at be;have bg:zt d<=ze:=xi
 have bz:Ub d.ops<=zt d:=wA
 have b3:=ZJ d.ops;have ae:=ZI d.ops;have L:∀o∈d.ops,bO o<=zt d:=λo ho=>by obtain⟨a,b,J⟩:=List.append_of_mem ho;have:=Wc a o b;rw[<-J]at this;omega
 have au:=λ(o:Y6) (ho:o∈d.ops) (H:zd)=>zrH s d o H ar al bd (by have:=L o ho;simp only[bO]at this;omega);have aq:=λ(o:Y6) (ho:o∈d.ops)=>zmZ s d o ar bg (by have:=L o ho;simp only[bO]at this;omega);have bl:=λ(o:Y6) (ho:o∈d.ops) n=>zfy o n (by have:=L o ho;have:=yr o.vars;simp only[bO]at *;omega);have bc:∀o∈d.ops,∀x∈Q0 s d o,∀f,zB o.vars x.nm=some f->zf 200 [.agg (cW f),.agg (YQ x.t),.bool x.has] (.bool (UP f x.t x.has)):=λo ho x bu f bq=>by have br:f∈o.vars:=List.mem_of_find?_eq_some bq;have a5:=YW br;have a6:=L o ho;simp only[bO]at a6;simp only[bW]at a5;exact zqg f x.t x.has xg ((aq o ho).2 x bu)
 have A:ziJ s d=d.ops.all (zkV s d):=rfl;have a4:∀o,zkV s d o=(Q0 s d o).all (zbC o.vars):=λ_=>rfl;generalize ziJ s d=F,zkV s d=U,Q0 s d=a3,bx:zt d=B at *
 have bh:=Yl d;obtain⟨ax,ay,sm⟩:=s;generalize a9:(⟨ax,ay,sm⟩:zg)=s at *
 have bj:zk s=[.o 6 (Vd ax),.str ay,.str sm]:=xM a9
 simp only[bj,bh]at au ⊢;refine zo ir101 λKP Q Y=>?_;refine xc ae ?_;refine zc d.ops 15 (λ_:Unit=>[(5,.bool true)]) (λaj O _ H=>O.all U=d.ops.all U) () xb rfl ?_ ?_
 ·rintro _ H a1 g ab;rw[<-g]at A;refine xd ae ab ?_;exact xj Y A
 ·rintro aj x O _ H a1 J ab _ g a7;have an:=Z6 J;have M:x∈d.ops:=xv J
  have av:=au x M;have b2:=(aq x M).1;have aa:=bl x M;have ak:=bc x M;have C:=a4 x;rw[List.all_cons]at g;generalize a3 x=W at *
  have af:=zO W;obtain⟨k,ag,h,ds,ah⟩:=x;simp only at ak C aa;generalize U ⟨k,ag,h,ds,ah⟩=a at *
  rw[Xn]at an aa av;refine xe ae ab an (zb λI b1=>?_);refine xa (zu (av _) λo2 az bp=>?_);have j:az I=some (.cells [.i k,.str ag,.o 10 (Yg h),.o 2 (ZE ds),.o 7 (Zp ah)]):=bp.kept I _ (upd_same ..) (λd e=>by cases e);refine xc af ?_;refine zc W 24 (λ_:Unit=>[(5,.bool true)]) (λaj O _ H=>O.all (zbC h)=W.all (zbC h)/\H I=some (.cells [.i k,.str ag,.o 10 (Yg h),.o 2 (ZE ds),.o 7 (Zp ah)])) () xb ⟨rfl,j⟩ ?_ ?_
  ·rintro _ a0 a2 ⟨p,j⟩ ac;have ba:a=true:=wK C p
   rw[ba,Bool.true_and]at g;refine xd af ac ?_;exact zJ (a7 () _ g) xf
  ·rintro bw z b8 _ a0 a2 am ac _ ⟨p,j⟩ a8;have ao:=zfH am;have G:=ak z (xv am);rw[List.all_cons]at p;have v:zbC h z=match zB h z.nm with|none=>false|some f=>UP f z.t z.has:=rfl
   generalize zbC h z=bv at *
   obtain⟨aw,⟨b4,b5,b6⟩,b7⟩:=z;simp only[cP]at ao;simp only[YQ]at G v;have bn:=aa aw;refine xe af ac ao (zb λai bf=>?_);have y:I≠ai:=nen2 j bf;refine xm j y (Ne.symm y) bn ?_;cases ad:zB h aw with
   | none =>rw[ad]at v;simp only at v;rw[v,Bool.false_and]at p;rw[<-p]at C;rw[C,Bool.false_and]at g;rw[<-g]at A;refine x2 (zb λX Z=>?_);exact vn Y A
   | some f =>
    rw[ad]at v;replace G:=G f ad;simp only at v;rw[<-v]at G;obtain⟨cd,⟨b9,ca,cb⟩,cc,⟨ce,ci,cj,cg,ch⟩⟩:=f;rw[zX]at G;refine x6 (zb λX Z=>?_);have K:I≠X:=λe=>by subst e;simp[zd.upd,y,j]at Z
    have ap:ai≠X:=λe=>by subst e;simp[zd.upd]at Z
    refine xG j y (Ne.symm y) K (Ne.symm K) ap (Ne.symm ap) ?_;refine za G ?_;cases bv with
    | true =>refine xa ?_;exact zJ (a8 () _ ⟨by simpa using p,by simp(disch:=omega) only[j,y,Ne.symm y,K,Ne.symm K,go_sem]⟩) xf
    | false =>rw[Bool.false_and]at p;rw[<-p]at C;rw[C,Bool.false_and]at g;rw[<-g]at A;exact vn Y A
noncomputable def P8(s:zg)(d:zv)(n:Int):Bool:=if n=22 then P5 s d else if n=23 then ziJ s d else false
def zkT(s:zg)(d:zv)(n:Int)(p:zA s<=ze)(j:Zi d<=ze)(z:lenD d*zt d+zt d<=1099511627776):zf 40 [.agg (zk s),.agg (z8 d),.i n] (.bool (P8 s d n)):=by
 have A:=j;simp only[Zi,ze]at A;have v:=zi0 s d p xi;have y:=zsJ s d p j z;unfold P8;generalize P5 s d=J,ziJ s d=K at *
 have C:=Yl d;obtain⟨G,I,sm⟩:=s;simp only[zk,C]at v y ⊢;refine zo ir40 λKP Q h=>?_;by_cases f:n=22
 ·subst f;refine xh v ?_;exact vm h
 by_cases g:n=23
 ·subst g;refine xh y ?_;exact vm h
 exact vp f g h f g
noncomputable def ZQ(s:zg)(d:zv)(n:Int):Bool :=
 if n<9 then S8 s d n else if n<12 then RI s d n else if n<15 then Rt s d n else if n<18 then RF s d n
 else if n<22 then Ms s d n else if n<24 then P8 s d n else R0 s d n
structure zbl (s:zg) (d:zv):Prop where
 sw:SM s
 dw:O6 d
 sb:zA s<=1048576
 db:zt d<=67108864
 ln:lenD d<=3200
 sz:∀x∈yQ d,Sz d 40 x
def zke{s:zg}{d:zv}(g:SM s)(j:O6 d)(p:zA s<=1048576)(v:zt d<=1048576)(h:Tw s d=true):zbl s d:=by
 refine⟨g,j,p,by omega,?_,zet h⟩;simp only[Tw,Q8,yu,Zh]at h;have o1:=VO (f:=lO) (λx=>by simp only[lO];omega) d.ops;have o2:=VO (f:=lF) (λx=>by simp only[lF];omega) d.frags;simp only[lOs,lFs,lenD]at *
 omega
def zod(s:zg)(d:zv)(n:Int)(h:zbl s d):zf 16 [.agg (zk s),.agg (z8 d),.i n] (.bool (ZQ s d n)):=by
 have ai:=h.sb;have ag:=h.db;have z:zA s<=ze:=xi
 have ah:zA s+1<=ze:=xi
 have J:zt d<=ze:=xi
 have G:Zi d<=ze:=by simp only[Zi,ze];omega
 have I:lenD d*zt d+zt d<=1099511627776:=by have:lenD d*zt d<=3200*67108864:=Nat.mul_le_mul h.ln ag;omega
 have K:=zpw s d n z G I;have L:=ziD s d n ah J;have M:=zhL s d n z J;have O:=zjl s d n z J;have U:=zoM s d n z G I;have W:=zkT s d n z G I;have X:=mgC s d n z G xg h.sz;have f:ZQ s d n=if n<9 then S8 s d n else if n<12 then RI s d n else if n<15 then Rt s d n else if n<18 then RF s d n else if n<22 then Ms s d n else if n<24 then P8 s d n else R0 s d n:=rfl
 generalize ZQ s d n=F,S8 s d n=aj,RI s d n=ak,Rt s d n=al,RF s d n=am,Ms s d n=an,P8 s d n=ao,R0 s d n=ap at *
 have ae:=Yl d;have af:=UN s;simp only[af,ae]at K L M O U W X ⊢;refine zo ir16 λKP Q v=>?_;by_cases g:n<9
 ·rw[if_pos g]at f;have Y:=eq_true g;refine xt Y K ?_;exact vn v f
 rw[if_neg g]at f;by_cases j:n<12
 ·rw[if_pos j]at f;have Z:=eq_true j;refine xn g Z L ?_;exact vn v f
 rw[if_neg j]at f;by_cases p:n<15
 ·rw[if_pos p]at f;have aa:=eq_true p;refine xm g j aa M ?_;exact vn v f
 rw[if_neg p]at f;by_cases y:n<18
 ·rw[if_pos y]at f;have ab:=eq_true y;refine xE g j p ab O ?_;exact vn v f
 rw[if_neg y]at f;by_cases A:n<22
 ·rw[if_pos A]at f;have ac:=eq_true A;refine xU g j p y ac U ?_;exact vn v f
 rw[if_neg A]at f;by_cases C:n<24
 ·rw[if_pos C]at f;have ad:=eq_true C;refine xH g j p y A ad W ?_;exact vn v f
 rw[if_neg C]at f;refine xH g j p y A C X ?_;exact vn v f
noncomputable def Nu(s:zg)(d:zv):Nat->Int->Int
 | 0,_=>0
 | k+1,n=>if ZQ s d n=true then Nu s d k (n+1)else n
noncomputable def W9(s:zg)(d:zv):Int:=if UK s 9 1≠0∨ZF d=false then 25 else Nu s d 24 1
def zah(s:zg)(d:zv)(h:zbl s d):zf 8 [.agg (zk s),.agg (z8 d)] (.i (W9 s d)):=by
 have ab:=h.sb;have aa:=h.db;have y:=λn=>zod s d n h;have A:=zk4 s h.sw xi;have z:=zl7 d h.dw xi;have g:W9 s d=if UK s 9 1≠0∨ZF d=false then 25 else Nu s d 24 1:=rfl
 have G:∀k n,Nu s d (k+1) n=if ZQ s d n=true then Nu s d k (n+1)else n:=λ_ _=>rfl
 have I:∀n,Nu s d 0 n=0:=λ_=>rfl;generalize W9 s d=F,Nu s d=C,ZQ s d=V,UK s 9 1=X,ZF d=Y at *
 have K:=Yl d;have L:=UN s;simp only[L,K]at y A z ⊢;refine zo ir8 λKP Q p=>?_;refine xh A ?_;by_cases j:X=0
 case neg =>rw[if_pos (.inl j)]at g;exact vo j p g
 have W:=eq_true j;refine xt W z ?_;cases Y with
 | false =>rw[if_pos (.inr rfl)]at g;exact vn p g
 | true =>
 rw[if_neg (xr j)]at g;refine xa ?_;refine ZZ (λx:Nat×Int=>[(5,.i 0),(6,.i x.2)]) (λx _=>(x.1:Int)+x.2=25/\x.1<=24/\C x.1 x.2=F) (λx=>x.1) (24,1) xb ⟨by omega,by omega,g.symm⟩ ?_;rintro⟨k,n⟩ H Z ⟨M,O,f⟩ J;simp only at M O f;cases k with
 | zero =>
  rw[I]at f;subst f;have v:¬ (n<=24):=xg
  refine xc v ?_;exact xo p
 | succ k =>
  rw[G]at f;have U:=y n;have v:(n<=24)=True:=eq_true xg;generalize j:V n=x at *
  refine xt v U ?_;cases x with
  | true =>rw[if_pos rfl]at f;refine xq ?_;exact zJ (J (k,n+1) _ wP ⟨by simp only;omega,by simp only;omega,f⟩) xf
  | false =>rw[if_neg xw]at f;subst f;exact vm p
mutual
def zje(n:B8):zj->Prop| .mk k _ nm _ _ _ sels=>(k=1/\nm=n)∨Qk n sels
def Qk(n:B8):List zj->Prop
 | []=>False
 | x::r=>zje n x∨Qk n r
end
def zdH{x:B8}{l:B9}:zH x l=false↔x ∉ l:=by rw[<-Zm];cases zH x l<;>simp
mutual
def zii(x:B8):∀(y:zj) (l:B9),x∈Qj y l↔x∈l∨zje x y
 | .mk k al nm args dirs on sels,l=>by
  simp only[Qj,zje];rw[R9 x sels];by_cases g:k=1
  ·cases h:zH nm l with
   | true =>
    have j:=(Zm nm l).1 h;simp only[g,true_and,Bool.true_eq_false,if_false];constructor
    ·rintro(f|f)
     ·exact .inl f
     ·exact .inr (.inr f)
    ·rintro(f|rfl|f)
     ·exact .inl f
     ·exact .inl j
     ·exact .inr f
   | false =>
    simp only[g,true_and,if_true,List.mem_append,List.mem_singleton];constructor
    ·rintro((f|f)|f)
     ·exact .inl f
     ·exact .inr (.inl f.symm)
     ·exact .inr (.inr f)
    ·rintro(f|f|f)
     ·exact .inl (.inl f)
     ·exact .inl (.inr f.symm)
     ·exact .inr f
  ·simp[g]
def R9(x:B8):∀(r:List zj) (l:B9),x∈Zo r l↔x∈l∨Qk x r
 | [],l=>by simp[Zo,Qk]
 | y::r,l=>by simp only[Zo,Qk];rw[R9 x r,zii x y,or_assoc]
end
structure zqP (a d:zv):Prop where
 ops:∀o∈a.ops,o∈d.ops
 frs:∀f∈a.frags,f∈d.frags
 nd:(d.frags.map (·.nm)).Nodup
 nda:(a.frags.map (·.nm)).Nodup
 cl:∀l∈yQ a,∀n,Qk n l->yb a n=yb d n
section
variable {a d:zv} (P:zqP a d)
include P
omit P in
omit P in
omit P in
omit P in
end
def SD(d:zv)(n:B8)(ab:d.frags.length<=ze):zf 34 [.agg (z8 d),.str n] (.tup [.agg (cF ((yb d n).getD Vt)),.bool (yb d n).isSome]):=by
 have A:=Z5 d.frags;simp only[ze]at ab;have L:∀f j,d.frags=f++j->(∀g∈f,g.nm≠n)->yb d n=j.find? (V7 n):=λf j e h=>by rw[yb,e,List.find?_append,List.find?_eq_none.2 (λg hf=>by simp[V7,h g hf])];rfl
 have aa:=Yl d;rw[aa];generalize yb d n=F at *
 refine zo ir34 λKP Q M=>?_;refine xa (zb λX ad=>?_);refine xc A ?_;refine zc d.frags 6 ZY (λf j _ H'=>(∀g∈f,g.nm≠n)/\H' X=some (.cells [.str [],.str [],.sl .nil 2 [],.sl .nil 7 []])) () xb ⟨by simp,upd_same ..⟩ ?_ ?_
 ·rintro _ U W ⟨y,p⟩ v;have e:=L d.frags [] xw y;simp only[List.find?_nil]at e;refine xe A v p ?_;refine @M _ _ [.agg [.str [],.str [],.sl .nil 2 [],.sl .nil 7 []],.bool false] xb (wa e)
 ·rintro f x j _ U W O v _ ⟨y,p⟩ Z;have G:=Ym O;have e:=L f (x::j) O y;obtain⟨C,J,I,K⟩:=x;rw[Ys]at G;by_cases z:C=n
  ·have ac:=eq_true z;have Y:F=some ⟨C,J,I,K⟩:=by rw[e];simp[V7,z]
   refine xp A v G ac p ?_;refine @M _ _ [.agg [.str C,.str J,.o 2 (ZE I),.o 7 (Zp K)],.bool true] xb (wa Y)
  ·refine xp A v G z p ?_;exact zJ (Z () _ ⟨λg hf=>by
    rcases List.mem_append.1 hf with h|h
    ·exact y g h
    ·simp only[List.mem_singleton]at h;subst h;exact z,p⟩) xf
mutual
def zkS{d:zv}{g:Nat->List zj->Nat}{Z:Nat}(f:∀m n,g m (Uo d n)<=m+Z):∀(x:zj) (r:Nat),Mn d g x r<=r+bS x+Z
 | .mk k al nm args dirs on sels,r=>by
  have h:=Li f sels r 0;simp only[Mn,bS];split
  ·rename_i p;have j:=f (r-(1+Y5 d g sels r 0)) nm;omega
  ·omega
def Li{d:zv}{g:Nat->List zj->Nat}{Z:Nat}(h:∀m n,g m (Uo d n)<=m+Z):∀(l:List zj) (f n:Nat),Y5 d g l f n<=n∨Y5 d g l f n<=f+yR l+Z
 | [],f,n=>.inl (by simp[Y5])
 | x::xs,f,n=>by
  simp only[Y5,yR];split
  ·have p:=zkS h x (f-n);rcases Li h xs f (n+Mn d g x (f-n))with j|j
   ·right;omega
   ·right;omega
  ·left;omega
end
def zeo{d:zv}{D:Nat}(f:∀n,yR (Uo d n)<=D):∀(k m:Nat) (l:List zj),SN d k m l<=m+yR l+1+k*D
 | 0,m,l=>by simp only[SN];omega
 | k+1,m,l=>by have h:=Li (d:=d) (g:=SN d k) (Z:=1+D+k*D) (λm n=>by have j:=zeo f k m (Uo d n);have p:=f n;omega) l m 0;simp only[SN,Nat.add_mul,Nat.one_mul];omega
def zit(d:zv)(n:B8):yR (Uo d n)<=zt d:=by
 cases hf:yb d n with
 | none=>simp[Uo,hf,Vt,yR]
 | some f =>have g:f∈d.frags:=List.mem_of_find?_eq_some hf;have h:=Xb f;have j:=WB g;simp only[Uo,hf,Option.getD_some,zt];omega
def zsS(d:zv)(al:zt d<=1048576):∀(k c:Nat) (l:List zj) (f:Nat),yR l<=c->c<=1048576->f<k->k<=41->zf 14 [.agg (z8 d),.o 7 (Zp l),.i f] (.i (SN d k f l)):=by
 have bu:=yP d.frags;have be:XZ d.frags<=zt d:=wA
 have hfr:=λn=>SD d n xi;have ah:=zit d;have a3:=Yl d;intro k;induction k with
 | zero=>intro c l f bf bg bh;omega
 | succ k a6 =>
 intro c;induction c using Nat.strongRecOn with
 | _ c a5 =>
 intro l f bp br U ap;have an:∀h m,m<k->zf 14 [.agg (z8 d),.o 7 (Zp (Uo d h)),.i m] (.i (SN d k m (Uo d h))):=λh m U=>a6 (zt d) (Uo d h) m (ah h) al U xg;have ar:∀j,yR j<c->∀m,m<k+1->zf 14 [.agg (z8 d),.o 7 (Zp j),.i m] (.i (Y5 d (SN d k) j m 0)):=λj ag m U=>a5 (yR j) ag j m (ZG _) xg U ap;have bx:=zeo ah (k+1) f l;have ao:=NR d (SN d k);have av:SN d (k+1) f l=Y5 d (SN d k) l f 0:=rfl;have aw:∀x ae n,Y5 d (SN d k) (x::ae) f n=if n<=f then Y5 d (SN d k) ae f (n+Mn d (SN d k) x (f-n))else n:=λx ae n=>by simp only[Y5]
 have ax:∀n,Y5 d (SN d k) [] f n=n:=λn=>by simp only[Y5]
 have ay:∀C X h Y Z ad j r,Mn d (SN d k) (.mk C X h Y Z ad j) r=if C=1/\1+Y5 d (SN d k) j r 0<=r then 1+Y5 d (SN d k) j r 0+SN d k (r-(1+Y5 d (SN d k) j r 0)) (Uo d h)else 1+Y5 d (SN d k) j r 0:=λC X h Y Z ad j r=>by simp only[Mn]
 have hmul:(k+1)*zt d<=41*1048576:=Nat.mul_le_mul ap al;have z:=Z7 l;have bw:=YL l;generalize bl:SN d (k+1) f l=F,bv:SN d k=K at *
 simp only[a3]at hfr ar an ⊢;refine zo ir14 λKP Q ai=>?_;refine xa ?_;refine zc l 8 (λn:Nat=>[(7,.i n)]) (λaf J n _=>Y5 d K J f n=F) 0 xb av.symm ?_ ?_
 ·rintro n H au p v;rw[ax]at p;subst p;refine xd z v ?_;exact xo ai
 ·rintro af x J n H au ak v _ p aa;have A:=YY ak;have aj:=WM af x J;rw[<-ak]at aj;rw[aw]at p;obtain⟨C,X,h,Y,Z,ad,j⟩:=x;rw[ay]at p;simp only[bS]at aj;rw[Zt]at A;by_cases aq:n<=f
  case neg =>
   rw[if_neg aq]at p;subst p;have y:¬ ((n:Int)<=f):=xg
   refine xe z v y ?_;exact xo ai
  rw[if_pos aq]at p;have y:((n:Int)<=f)=True:=eq_true xg;have O:=ar j xg (f-n) xg;have az:((f-n:Nat):Int)=f-n:=xg
  rw[az]at O;generalize bj:Y5 d K j (f-n) 0=g at *
  by_cases L:C=1/\1+g<=f-n
  ·rw[if_pos L]at p;have ab:=ao J f (n+(1+g+K (f-n-(1+g)) (Uo d h)));rw[p]at ab;have I:=eq_true L.1;have ac:((n:Int)+1+g<=f)=True:=eq_true xg;have am:=hfr h;have M:=an h (f-n-(1+g)) xg;have a0:((f-n-(1+g):Nat):Int)=f-(n+1+g):=xg
   rw[a0]at M;generalize bn:K (f-n-(1+g)) (Uo d h)=W at *
   have a1:Uo d h=((yb d h).getD Vt).sels:=rfl;rw[a1]at M;generalize (yb d h).isSome=bc,(yb d h).getD Vt=a2 at *
   obtain⟨a9,ba,a8,bd⟩:=a2;rw[Ys]at am;simp only at M;refine ww z v y A ?_;refine za O ?_;simp(disch:=omega) only[z,v,y,A,wrap64,I,ac,go_sem];refine za am ?_;refine xa (zb λa7 bq=>?_);refine xq ?_;refine za M ?_;refine xq ?_;have G:((n+(1+g+W):Nat):Int)=n+1+g+W:=xg
   exact zJ (aa (n+(1+g+W)) _ p) (wU G)
  ·rw[if_neg L]at p;have ab:=ao J f (n+(1+g));rw[p]at ab;by_cases I:C=1
   ·have a4:=eq_true I;have ac:¬ ((n:Int)+1+g<=f):=λag=>L ⟨I,by omega⟩;refine ww z v y A ?_;refine za O ?_;simp(disch:=omega) only[z,v,y,A,wrap64,a4,ac,go_sem];have G:((n+(1+g):Nat):Int)=n+1+g:=xg
    exact zJ (aa (n+(1+g)) _ p) (wU G)
   ·refine ww z v y A ?_;refine za O ?_;simp(disch:=omega) only[z,v,y,A,wrap64,I,go_sem];have G:((n+(1+g):Nat):Int)=n+1+g:=xg
    exact zJ (aa (n+(1+g)) _ p) (wU G)
def OP(d:zv){Z:Nat}:∀(l:List (List zj)) (n:Nat),(∀x∈l,SN d 41 40 x<=Z)->XV d l n<=n∨XV d l n<=40+Z
 | [],n,_=>.inl (ZG _)
 | x::r,n,h=>by
  simp only[XV];split
  ·have p:=h x (YS ..);rcases OP d r (n+SN d 41 40 x) (λj g=>h j (YN _ g))with f|f
   ·right;omega
   ·exact .inr f
  ·exact .inl (ZG _)
def zkf(s:zg)(d:zv)(bd:zA s<=1048576)(am:zt d<=1048576):zf 4 [.agg (zk s),.agg (z8 d)] (.bool (Tw s d)):=by
 have ap:=zlM s xi;have aq:=zpJ d xi;have al:=@L3 d;have ao:∀o∈d.ops,o.sels∈yQ d:=λo ho=>by refine wF ?_;exact .inl ⟨o,ho,rfl⟩
 have an:∀ad∈d.frags,ad.sels∈yQ d:=λad hf=>by refine wF ?_;exact .inr ⟨ad,hf,rfl⟩
 have ae:=λx (G:x∈yQ d)=>zsS d am 41 (zt d) x 40 (al G) am xg (ZG _);have W:=λx (G:x∈yQ d)=>(by have:=zeo (zit d) 41 40 x;have:=al G;omega:SN d 41 40 x<=50000000);have bc:=ZJ d.ops;have ba:=yP d.frags;have a7:Ub d.ops+XZ d.frags=zt d:=rfl;have ah:=ZI d.ops;have A:=Z5 d.frags;have a1:=OP d (d.ops.map (·.sels)) 0 (Z:=50000000) (λx ag=>W x (by obtain⟨o,ho,rfl⟩:=List.mem_map.1 ag;exact ao o ho));have bg:=OP d (d.frags.map (·.sels)) (XV d (d.ops.map (·.sels)) 0) (Z:=50000000) (λx ag=>W x (by obtain⟨o,ho,rfl⟩:=List.mem_map.1 ag;exact an o ho));have y:Tw s d=(OB s&&Q8 d&&decide (XV d (d.frags.map (·.sels)) (XV d (d.ops.map (·.sels)) 0)<=40)):=rfl;have ab:∀x r n,XV d (x::r) n=if n<=40 then XV d r (n+SN d 41 40 x)else n:=λ_ _ _=>rfl
 have ai:∀n,XV d [] n=n:=λ_=>rfl;have av:∀(l:List (List zj)) n,¬ n<=40->XV d l n=n:=λl n G=>by cases l with|nil=>rfl|cons x r=>rw[ab,if_neg G]
 generalize Tw s d=F,OB s=a2,Q8 d=ar at *
 have ay:=Yl d;have az:=UN s;simp only[az,ay]at ap aq ae ⊢;generalize a8:XV d=C at *
 refine zo ir4 λKP Q z=>?_;refine xh ap ?_;cases a2 with
 | false =>exact vn z y
 | true =>
 refine xh aq ?_;cases ar with
 | false =>exact vn z y
 | true =>
 simp only[Bool.true_and]at y;generalize O:C (d.frags.map (·.sels)) (C (d.ops.map (·.sels)) 0)=T at *
 refine xa ?_;refine zc d.ops 6 (λn:Nat=>[(5,.i n)]) (λaa M n _=>C (M.map (·.sels)) n=C (d.ops.map (·.sels)) 0) 0 xb rfl ?_ ?_
 ·rintro n H au g U;simp only[List.map_nil]at g;rw[ai]at g;rw[<-g]at O a1;refine xd ah U ?_;refine zc d.frags 7 (λn:Nat=>[(5,.i n)]) (λaa M n _=>C (M.map (·.sels)) n=T) n xb O ?_ ?_
  ·rintro f X Y h v;simp only[List.map_nil]at h;rw[ai]at h;subst h;have aj:decide ((f:Int)<=40)=decide (f<=40):=decide_eq_decide.2 xg;exact vp A v z y aj
  ·rintro aa x M f X Y I v _ h ak;have K:=Ym I;have L:=an x (xv I);have J:=ae x.sels L;have af:=W x.sels L;rw[List.map_cons,ab]at h;obtain⟨a5,a6,a4,aw⟩:=x;rw[Ys]at K;simp only at J af h;by_cases j:f<=40
   case neg =>
    rw[if_neg j]at h;subst h;have aj:decide ((f:Int)<=40)=decide (f<=40):=decide_eq_decide.2 xg;have p:¬ ((f:Int)<=40):=xg
    refine xe A v p ?_;exact xz z y j
   rw[if_pos j]at h;have p:((f:Int)<=40)=True:=eq_true xg;generalize SN d 41 40 aw=w at *
   have ac:((f+w:Nat):Int)=f+w:=xg
   refine xE A v p K J ?_;refine xq ?_;exact zJ (ak (f+w) _ h) (wU ac)
 ·rintro aa x M n H au I U _ g ax;have K:=Z6 I;have L:=ao x (xv I);have J:=ae x.sels L;have af:=W x.sels L;rw[List.map_cons,ab]at g;obtain⟨ok,be,bh,ds,a0⟩:=x;rw[Xn]at K;simp only at J af g;by_cases j:n<=40
  case neg =>
   rw[if_neg j]at g;rw[<-g,av _ n j]at O;subst O;have p:¬ ((n:Int)<=40):=xg
   refine xk ah U p A ?_;refine zc d.frags 7 (λ_:Unit=>[(5,.i n)]) (λ_ _ _ _=>True) () xb trivial ?_ ?_
   ·rintro _ X Y _ v;refine xe A v p ?_;exact xz z y j
   ·rintro a3 ar bf _ X Y a9 v _ _ ak;refine xe A v p ?_;exact xz z y j
  rw[if_pos j]at g;have p:((n:Int)<=40)=True:=eq_true xg;generalize SN d 41 40 a0=w at *
  have ac:((n+w:Nat):Int)=n+w:=xg
  refine xE ah U p K J ?_;refine xq ?_;exact zJ (ax (n+w) _ g) (wU ac)
def Kv:∀(l a:B9),W8 a l=true↔l.Nodup/\∀x∈l,x ∉ a
 | [],a=>by simp[W8]
 | x::r,a=>by
  simp only[W8,yu,Bool.not_eq_true',zdH];rw[Kv r (a++[x]),List.nodup_cons];constructor
  ·rintro⟨j,p,h⟩;refine⟨⟨λf=>h x f xw,p⟩,λv g=>?_⟩;rcases List.mem_cons.1 g with rfl|g
   ·exact j
   ·exact λf=>h v g (Wf _ f)
  ·rintro⟨⟨j,p⟩,h⟩;refine⟨h x (YS ..),p,λv g f=>?_⟩;rcases List.mem_append.1 f with f|f
   ·exact h v (YN _ g) f
   ·simp only[List.mem_singleton]at f;subst f;exact j g
def Kp(l:B9):Z1 l=true↔l.Nodup:=by unfold Z1;rw[Kv];simp
def Nm{α:Type}(l m:List α):Prop:=∃t,l.Perm t/\t.Sublist m
section
variable {α β:Type} {l m:List α}
def Nm.mem(h:Nm l m){x:α}(j:x∈l):x∈m:=by obtain⟨t,f,g⟩:=h;exact g.subset (f.mem_iff.1 j)
def Nm.map(f:α->β)(h:Nm l m):Nm (l.map f) (m.map f):=by obtain⟨t,g,j⟩:=h;exact⟨t.map f,g.map f,j.map f⟩
def Nm.filter(p:α->Bool)(h:Nm l m):Nm (l.filter p) (m.filter p):=by obtain⟨t,f,g⟩:=h;exact⟨t.filter p,f.filter p,g.filter p⟩
def Nm.len(h:Nm l m):l.length<=m.length:=by obtain⟨t,f,g⟩:=h;rw[f.length_eq];exact g.length_le
def Nm.all{p:α->Bool}(h:Nm l m)(f:m.all p=true):l.all p=true:=by rw[Yh]at f ⊢;exact λx g=>f x (h.mem g)
def zk3{l m:List Nat}(h:l.Sublist m):l.sum<=m.sum:=by
 induction h with
 | slnil=>exact ZG _
 | cons a _ f=>simp only[List.sum_cons];omega
 | cons_cons a _ f=>simp only[List.sum_cons];omega
def ziZ{l m:List Nat}(h:l.Perm m):l.sum=m.sum:=by
 induction h with
 | nil=>rfl
 | cons a _ j=>simp only[List.sum_cons,j]
 | swap a b l=>simp only[List.sum_cons];omega
 | trans _ _ f g=>exact f.trans g
def Nm.sum(g:α->Nat)(h:Nm l m):(l.map g).sum<=(m.map g).sum:=by obtain⟨t,f,j⟩:=h.map g;rw[ziZ f];exact zk3 j
end
structure znP (a d:zv):Prop where
 so:Nm a.ops d.ops
 sf:Nm a.frags d.frags
 nd:(d.frags.map (·.nm)).Nodup
 ne:0<a.ops.length
 cl:∀l∈yQ a,∀n,Qk n l->yb a n=yb d n
 us:∀f∈a.frags,∃o∈a.ops,f.nm∈Zx d o.sels
section
variable {a d:zv} (V:znP a d)
include V
omit V in
end
def Qx(R:B9)(x:B8):∀(j:List yE) (l:B9),x∈j.foldl (ZO R) l↔x∈l∨(x∈R/\x∈j.map (·.nm))
 | [],l=>by simp
 | f::j,l=>by
  rw[List.foldl_cons,Qx R x j];have y:x∈ZO R l f↔x∈l∨(x=f.nm/\x∈R):=by
   unfold ZO;by_cases p:zH f.nm R=true/\zH f.nm l=false
   ·rw[if_pos p,List.mem_append,List.mem_singleton];have:=(Zm _ _).1 p.1;constructor
    ·rintro(g|rfl)
     ·exact .inl g
     ·exact .inr ⟨rfl,this⟩
    ·rintro(g|⟨g,_⟩)
     ·exact .inl g
     ·exact .inr g
   ·rw[if_neg p];constructor
    ·exact .inl
    ·rintro(g|⟨rfl,g⟩)
     ·exact g
     ·have h:=(Zm _ _).2 g;cases v:zH f.nm l with
      | true=>exact(Zm _ _).1 v
      | false=>exact absurd ⟨h,v⟩ p
  rw[y,List.map_cons,List.mem_cons];constructor
  ·rintro((g|⟨g,h⟩)|⟨g,h⟩)
   ·exact .inl g
   ·exact .inr ⟨h,.inl g⟩
   ·exact .inr ⟨g,.inr h⟩
  ·rintro(g|⟨g,h|h⟩)
   ·exact .inl (.inl g)
   ·exact .inl (.inr ⟨h,g⟩)
   ·exact .inr ⟨g,h⟩
def zdQ(d:zv)(f:List zj)(x:B8):x∈Zl d f↔x∈Zx d f/\x∈d.frags.map (·.nm):=by unfold Zl;rw[Qx];simp
abbrev NmF:=B9->B9
def Grow(f:NmF):Prop:=∀l x,x∈f l↔x∈l∨x∈f []
def Grow.comp{f g:NmF}(hf:Grow f)(h:Grow g):Grow λl=>f (g l):=λl x=>by rw[hf (g l),hf (g []),h l,or_assoc]
def Grow.foldl{α:Type}{f:B9->α->B9}(h:∀g,Grow λl=>f l g):∀r:List α,Grow λl=>r.foldl f l
 | []=>λl x=>by simp
 | g::r=>(Grow.foldl h r).comp (h g)
def RX{α:Type}{f:B9->α->B9}(h:∀g,Grow λl=>f l g)(x:B8):∀(r:List α) (l:B9),x∈r.foldl f l↔x∈l∨∃g∈r,x∈f [] g
 | [],l=>by simp
 | g::r,l=>by rw[List.foldl_cons,RX h x r,h g l x,or_assoc];simp
def MI(n:B8):∀(l:B9) (k:Nat),Tm n l k=none->n∈l
 | [],k,h=>by simp[Tm]at h
 | y::r,k,h=>by
  simp only[Tm]at h;split at h
  ·exact YN _ (MI n r _ h)
  ·split at h
   ·rename_i e;rw[e];exact YS ..
   ·cases h
def MP(l:B9)(n x:B8):x∈QJ l n↔x∈l∨x=n:=by
 unfold QJ;split
 ·rename_i f;have:=MI n l 0 f;constructor
  ·exact .inl
  ·rintro(f|rfl)
   ·exact f
   ·exact this
 ·rename_i k f;have e:x∈l↔x∈l.take k∨x∈l.drop k:=by rw[<-List.mem_append,List.take_append_drop]
  rw[List.mem_append,List.mem_cons,e];constructor
  ·rintro(f|f|f)
   ·exact .inl (.inl f)
   ·exact .inr f
   ·exact .inl (.inr f)
  ·rintro((f|f)|f)
   ·exact .inl f
   ·exact .inr (.inr f)
   ·exact .inr (.inl f)
def zhh(n:B8):Grow λl=>QJ l n:=λl x=>by rw[MP,MP];simp
def MD(m:yU):Grow λl=>Mc l m:=Grow.foldl zhh _
def M1(d:yv):Grow λl=>ofD l d:=Grow.foldl MD _
mutual
def zj7:∀x:zj,Grow (wrS x)| .mk k al nm args dirs on sels=>by have:=(UH sels).comp ((Grow.foldl M1 dirs).comp (Grow.foldl MD args));intro l x;simpa only[wrS]using this l x
def UH:∀r:List zj,Grow (Wm r)
 | []=>λl x=>by simp[Wm]
 | y::r=>by have:=(UH r).comp (zj7 y);intro l x;simpa only[Wm]using this l x
end
def zgi(d:zv)(g:List zj)(x:B8):x∈YT d g↔x∈Wm g []∨∃n∈Zl d g,x∈Wm (Uo d n) []:=by unfold YT;rw[RX (f:=λl n=>Wm ((yb d n).getD Vt).sels l) λn=>UH _];rfl
section
variable {a d:zv} (s:zg)
end
section
variable {a d:zv} (V:znP a d) (s:zg)
include V
end
def inl(d:zv):zj->zj
 | .mk k al nm args dirs on sels=>match yb d nm with
  | some f=>if k=1 then .mk 2 [] [] [] dirs f.on f.sels else .mk k al nm args dirs on sels
  | none=>.mk k al nm args dirs on sels
structure zor (s:zg) (d:zv):Prop where
 ck:W9 s d=0
 rd:ZF d=true
section
variable {s:zg} {d:zv} (F:zor s d)
include F
end
section
variable {s:zg} {d:zv} (F:zor s d)
include F
omit F in
omit F in
omit F in
omit F in
end
def TA(s:zg)(d:zv)(g:B8->List zj->List Zr)(typ:B8):zj->List Zr| .mk k al nm args dirs on sels=>if k=0 then [(typ,.mk k al nm args dirs on sels)]else if k=2 then g (zz s typ (.mk k al nm args dirs on sels)) sels else if k=1 then g (Rc d nm) (Uo d nm)else []
def VR(s:zg)(d:zv):Nat->B8->List zj->List Zr
 | 0,_,_=>[]
 | n+1,typ,l=>l.flatMap (TA s d (VR s d n) typ)
section
variable {s:zg} {d:zv}
def zbr{m:Nat}{l:List zj}(h:Sz d m l):∀(n f:Nat) (typ:B8),m<=n->m<=f->VR s d n typ l=VR s d f typ l:=by
 induction h with
 | nil=>intro n f typ _ _;cases n<;>cases f<;>simp[VR]
 | @cons m i j e k al nm args dirs on sels r hle h1 h2 h3 i1 i2 i3 =>
  intro n f typ v y;cases n with
  | zero=>omega
  | succ n =>
   cases f with
   | zero=>omega
   | succ f =>
    have g:=i3 (n+1) (f+1) typ xg xg;simp only[VR,List.flatMap_cons]at g ⊢;rw[g]
    congr 1
    simp only[TA];split
    ·rfl
    split
    ·exact i1 n f _ xg xg
    split
    ·rename_i p;exact i2 p n f _ xg xg
    ·rfl
def zcU(n:Nat)(typ:B8)(x:zj)(r:List zj):VR s d (n+1) typ (x::r)=TA s d (VR s d n) typ x++VR s d (n+1) typ r:=by simp only[VR,List.flatMap_cons]
def WN(n:Nat)(typ:B8):VR s d n typ []=[]:=by cases n<;>simp[VR]
def T5{m N:Nat}{x:zj}{r:List zj}(h:Sz d m (x::r))(y:m<=N)(typ:B8):VR s d N typ (x::r)=TA s d (VR s d N) typ x++VR s d N typ r:=by
 obtain⟨k,g,z,p,v,A,C⟩:=x;cases h with
 | @cons _ i j e _ _ _ _ _ _ _ _ hle h1 h2 h3 =>
  cases N with
  | zero=>omega
  | succ n =>
  rw[zcU]
  congr 1
  simp only[TA];split
  ·rfl
  split
  ·exact zbr h1 n (n+1) _ xg xg
  split
  ·rename_i f;exact zbr (h2 f) n (n+1) _ xg xg
  ·rfl
def zoO{m:Nat}{l:List zj}(h:Sz d m l):∃f,f<=m/\Sz d f l/\∀i,i<f->¬ Sz d i l:=by
 induction m with
 | zero=>exact⟨0,ZG _,h,λi hi=>by omega⟩
 | succ m v =>
  by_cases j:Sz d m l
  ·obtain⟨f,y,g,p⟩:=v j;exact⟨f,by omega,g,p⟩
  ·exact⟨m+1,ZG _,h,λi hi g=>j (g.mono xg)⟩
def zj0(s:zg)(d:zv)(N:Nat)(f:Zr->Prop)(G:B9)(g:B8):Prop:=g∈G∨∀h∈VR s d N (Rc d g) (Uo d g),f h
def zaH{N:Nat}:∀(n:Nat) (typ:B8) (l:List zj) (seen:B9) (A:Zr->Prop) (G:B9) (m:Nat),Sz d m l->m<=n->n<=N->(∀p∈seen,zj0 s d N A G p)->(∀p∈G,∀i,i<m->¬ Sz d i (Uo d p)) ->
  (∀g∈VR s d N typ l,A g∨g∈(SS s d n typ l seen).1)/\(∀g∈(SS s d n typ l seen).1,g∈VR s d N typ l)/\∀p∈(SS s d n typ l seen).2,zj0 s d N (λg=>A g∨g∈(SS s d n typ l seen).1) G p
 | 0,typ,l,seen,A,G,m,hz,hm,_,hs,hG=>by
  have:l=[]:=by
   cases hz with
   | nil=>rfl
   | cons ai _ _ _=>omega
  subst this;refine⟨λg y=>by simp[WN]at y,λg y=>by simp[SS]at y,λp z=>?_⟩;rcases hs p z with f|f
  ·exact .inl f
  ·exact .inr λg y=>.inl (f g y)
 | n+1,typ,l,seen,A,G,m,hz,hm,hn,hs,hG=>by
  have ao:∀(r:List zj) (h:List Zr×B9),Sz d m r->(∀p∈h.2,zj0 s d N (λg=>A g∨g∈h.1) G p) ->
    (∀g∈h.1,g∈(r.foldl (YK s d (SS s d n) typ) h).1)/\(∀g∈VR s d N typ r,A g∨g∈(r.foldl (YK s d (SS s d n) typ) h).1)/\(∀g∈(r.foldl (YK s d (SS s d n) typ) h).1,g∈h.1∨g∈VR s d N typ r) /\ ∀p∈(r.foldl (YK s d (SS s d n) typ) h).2,zj0 s d N (λg=>A g∨g∈(r.foldl (YK s d (SS s d n) typ) h).1) G p:=by
   intro r;induction r with
   | nil=>exact λh _ f=>⟨λg f=>f,λg y=>by simp[WN]at y,λg f=>.inl f,f⟩
   | cons x r am =>
    intro h ac M;have ag:=λt=>T5 (s:=s) (N:=N) ac xg t;obtain⟨k,I,v,J,K,L,C⟩:=x;cases ac with
    | @cons _ i j e _ _ _ _ _ _ _ _ ai h1 h2 h3 =>
    have ak:(∀g∈h.1,g∈(YK s d (SS s d n) typ h (.mk k I v J K L C)).1)/\(∀g∈TA s d (VR s d N) typ (.mk k I v J K L C),A g∨g∈(YK s d (SS s d n) typ h (.mk k I v J K L C)).1) /\
      (∀g∈(YK s d (SS s d n) typ h (.mk k I v J K L C)).1,g∈h.1∨g∈TA s d (VR s d N) typ (.mk k I v J K L C)) /\
      ∀p∈(YK s d (SS s d n) typ h (.mk k I v J K L C)).2,zj0 s d N (λg=>A g∨g∈(YK s d (SS s d n) typ h (.mk k I v J K L C)).1) G p:=by
     simp only[YK,TA];by_cases k0:k=0
     ·simp only[k0,if_true];refine⟨λg f=>Wf _ f,λg f=>.inr (List.mem_append_right _ f),λg f=>List.mem_append.1 f,λp z=>?_⟩;rcases M p z with f|f
      ·exact .inl f
      ·exact .inr λg y=>(f g y).imp id λf=>Wf _ f
     simp only[k0,if_false];by_cases ad:k=2
     ·simp only[ad,if_true];obtain⟨U,X,Y⟩:=zaH (N:=N) n (zz s typ (.mk 2 I v J K L C)) C h.2 (λg=>A g∨g∈h.1) G i h1 xg xg M λp z W ab=>hG p z W xg;refine⟨λg f=>Wf _ f,λg f=>?_,λg f=>(List.mem_append.1 f).imp id (X g),λp z=>?_⟩
      ·rcases U g f with (f|f)|f
       ·exact .inl f
       ·exact .inr (Wf _ f)
       ·exact .inr (List.mem_append_right _ f)
      ·rcases Y p z with f|f
       ·exact .inl f
       ·refine .inr λg y=>?_;rcases f g y with (f|f)|f
        ·exact .inl f
        ·exact .inr (Wf _ f)
        ·exact .inr (List.mem_append_right _ f)
     simp only[ad,if_false];by_cases O:k=1
     ·cases ah:zH v h.2 with
      | true =>
       simp only[O,true_and,Bool.true_eq_false,if_false,if_true];refine⟨λg f=>f,λg f=>?_,λg f=>.inl f,M⟩;rcases M v ((Zm _ _).1 ah)with Z|Z
       ·exact absurd (h2 O) (hG v Z j xg)
       ·exact Z g f
      | false =>
       simp only[O,true_and,if_true];obtain⟨an,ay,al,aj⟩:=zoO (h2 O);obtain⟨U,X,Y⟩:=zaH (N:=N) n (Rc d v) (Uo d v) (h.2++[v]) (λg=>A g∨g∈h.1) (v::G) an al xg xg (λp z=>by
        rcases List.mem_append.1 z with f|f
        ·exact(M p f).imp (YN _) id
        ·simp only[List.mem_singleton]at f;subst f;exact .inl (YS ..)) λp z W ab=>by
        rcases List.mem_cons.1 z with rfl|z
        ·exact aj W ab
        ·exact hG p z W xg
       refine⟨λg f=>Wf _ f,λg f=>?_,λg f=>(List.mem_append.1 f).imp id (X g),λp z=>?_⟩
       ·rcases U g f with (f|f)|f
        ·exact .inl f
        ·exact .inr (Wf _ f)
        ·exact .inr (List.mem_append_right _ f)
       ·have aa:∀ {g:Zr},(A g∨g∈h.1)∨g∈(SS s d n (Rc d v) (Uo d v) (h.2++[v])).1->A g∨g∈h.1++(SS s d n (Rc d v) (Uo d v) (h.2++[v])).1:=λf=>by
         rcases f with (f|f)|f
         ·exact .inl f
         ·exact .inr (Wf _ f)
         ·exact .inr (List.mem_append_right _ f)
        rcases Y p z with f|f
        ·rcases List.mem_cons.1 f with rfl|f
         ·exact .inr λg y=>aa (U g y)
         ·exact .inl f
        ·exact .inr λg y=>aa (f g y)
     ·simp only[O,false_and,if_false];exact⟨λg f=>f,(λg f=>by cases f),λg f=>.inl f,M⟩
    obtain⟨ap,aq,ar,au⟩:=ak;rw[List.foldl_cons,ag];generalize YK s d (SS s d n) typ h (.mk k I v J K L C)=af at *
    obtain⟨ae,av,aw,ax⟩:=am af (h3.mono xg) au;refine⟨λg f=>ae g (ap g f),λg f=>?_,λg f=>?_,ax⟩
    ·rcases List.mem_append.1 f with f|f
     ·exact(aq g f).imp id (ae g)
     ·exact av g f
    ·rcases aw g f with f|f
     ·exact(ar g f).imp id (Wf _)
     ·exact .inr (List.mem_append_right _ f)
  have:=ao l ([],seen) hz λp z=>by
   rcases hs p z with f|f
   ·exact .inl f
   ·exact .inr λg y=>.inl (f g y)
  refine⟨this.2.1,λg y=>?_,this.2.2.2⟩;rcases this.2.2.1 g y with f|f
  ·cases f
  ·exact f
def UD{m:Nat}{l:List zj}(h:Sz d m l)(v:m<=64)(typ:B8)(y:Zr):y∈(SS s d 64 typ l []).1↔y∈VR s d 64 typ l:=by
 obtain⟨j,p,_⟩:=zaH (s:=s) (N:=64) 64 typ l [] (λ_=>False) [] m h v (ZG _) (λg f=>by cases f) λg f=>by cases f
 exact⟨p y,λz=>(j y z).resolve_left id⟩
end
def Mu(t:B8):∀l:List yU,(Y2 t l).2=true↔t∈l.map mN
 | []=>by simp[Y2]
 | .mk s v::r=>by
  simp only[Y2,List.map_cons,List.mem_cons,mN];by_cases f:s=t
  ·simp[f]
  ·rw[if_neg f,Mu t r];simp[Ne.symm f]
def N8:∀ {l:List yU} {m:yU},(l.map mN).Nodup->m∈l->Y2 (mN m) l=(vM m,true)
 | .mk s v::r,m,hn,f=>by
  simp only[List.map_cons,List.nodup_cons]at hn;rcases List.mem_cons.1 f with rfl|f
  ·simp[Y2,mN,vM]
  ·have:¬ s=mN m:=λe=>hn.1 (List.mem_map.2 ⟨m,f,e.symm⟩);simp only[Y2,this,if_false];exact N8 hn.2 f
def PK:∀(l a:List yU),Ye a l=true↔(l.map mN).Nodup/\∀x∈l,mN x ∉ a.map mN
 | [],a=>by simp[Ye]
 | x::r,a=>by
  simp only[Ye,yu,Bool.not_eq_true',List.map_cons,List.nodup_cons];rw[PK r (a++[x])];have y:(Y2 (mN x) a).2=false↔mN x ∉ a.map mN:=by rw[<-Mu];simp
  rw[y];simp only[List.map_append,List.map_cons,List.map_nil,List.mem_append,List.mem_singleton,not_or];constructor
  ·rintro⟨j,p,g⟩;refine⟨⟨λv=>?_,p⟩,λh f=>?_⟩
   ·obtain⟨A,z,e⟩:=List.mem_map.1 v;exact(g A z).2 e
   ·rcases List.mem_cons.1 f with rfl|f
    ·exact j
    ·exact(g h f).1
  ·rintro⟨⟨j,p⟩,g⟩;refine⟨g x (YS ..),p,λh f=>⟨g h (YN _ f),λe=>j ?_⟩⟩;rw[<-e];exact List.mem_map.2 ⟨h,f,rfl⟩
def zco(l:List yU):Ye [] l=true↔(l.map mN).Nodup:=by rw[PK];simp
def zni{m f:yU}(g:mN m=mN f)(h:vM m=vM f):m=f:=by obtain⟨n,p⟩:=m;obtain⟨j,v⟩:=f;simp only[mN,vM]at g h;rw[g,h]
def M7{b:List yU}(h:(b.map mN).Nodup)(m:yU):Lv b m=true↔m∈b:=by
 unfold Lv;rw[yu];constructor
 ·rintro⟨v,g⟩;obtain⟨p,j,e⟩:=List.mem_map.1 ((Mu _ _).1 v);rw[<-e,N8 h j]at g;have y:vM m=vM p:=by
   by_cases f:vM m=vM p
   ·exact f
   ·rw[zw f]at g;cases g
  rw[zni e.symm y];exact j
 ·intro f;rw[N8 h f];exact⟨rfl,yz rfl⟩
def zgw{a:List yU}(h:(a.map mN).Nodup):Y8 a a=true:=by unfold Y8;rw[yu,Yh];exact⟨λm f=>(M7 h m).2 f,by simp⟩
def zhz{a b:List yU}(g:(a.map mN).Nodup)(y:(b.map mN).Nodup)(h:Y8 a b=true):Y8 b a=true:=by
 unfold Y8 at h ⊢;rw[yu,Yh,Zh]at h ⊢;refine⟨λm z=>(M7 g m).2 ?_,h.2.symm⟩;have C:a ⊆ b:=λx f=>(M7 y x).1 (h.1 x f);have A:a.Nodup:=List.Pairwise.of_map mN (λx G h e=>h (by rw[e])) g;by_cases j:m∈a
 ·exact j
 ·exfalso;have p:(m::a).Nodup:=List.nodup_cons.2 ⟨j,A⟩;have v:=List.Nodup.length_le_of_subset p (l₂:=b) λx f=>by
   rcases List.mem_cons.1 f with rfl|f
   ·exact z
   ·exact C f
  simp only[yg]at v;omega
def QG(g:Zr->Zr->Bool):∀(L p:List Zr),VA g p L=true↔(∀x∈L,∀f∈p,yW x.2=yW f.2->g f x=true)/\L.Pairwise λu C=>yW C.2=yW u.2->g u C=true
 | [],p=>by simp[VA]
 | x::r,p=>by
  simp only[VA,yu,List.pairwise_cons];rw[QG g r (p++[x])];have G:zf7 g x p=true↔∀f∈p,yW x.2=yW f.2->g f x=true:=by unfold zf7;rw[Yh];refine forall_congr' λf=>forall_congr' λh=>?_;by_cases I:yW x.2=yW f.2<;>simp[I]
  rw[G];constructor
  ·rintro⟨v,y,A⟩;refine⟨λf h z j=>?_,λf h=>y f h x xw,A⟩;rcases List.mem_cons.1 h with rfl|h
   ·exact v z j
   ·exact y f h z (Wf _ j)
  ·rintro⟨v,y,A⟩;refine⟨v x (YS ..),λf h z j=>?_,A⟩;rcases List.mem_append.1 j with j|j
   ·exact v f (YN _ h) z j
   ·simp only[List.mem_singleton]at j;subst j;exact y f h
def zhG{α:Type}{R:α->α->Prop}{L:List α}(h:L.Pairwise R)(v:∀u∈L,R u u)(y:∀u∈L,∀g∈L,R u g->R g u):∀u∈L,∀g∈L,R u g:=by
 induction L with
 | nil=>intro u f;cases f
 | cons x r A =>
  rw[List.pairwise_cons]at h;intro u f g j;rcases List.mem_cons.1 f with rfl|z
  ·rcases List.mem_cons.1 j with rfl|p
   ·exact v _ f
   ·exact h.1 g p
  ·rcases List.mem_cons.1 j with rfl|p
   ·exact y _ j _ f (h.1 u z)
   ·exact A h.2 (λu f=>v u (YN _ f)) (λu f g j=>y u (YN _ f) g (YN _ j)) u z g p
def VU{α:Type}{R:α->α->Prop}:∀ {L:List α},(∀u∈L,∀f∈L,R u f)->L.Pairwise R
 | [],_=>.nil
 | x::r,h=>List.pairwise_cons.2 ⟨λv p=>h x (YS ..) v (YN _ p),VU λu g f j=>h u (YN _ g) f (YN _ j)⟩
def ZW(g:Zr->Zr->Bool)(h j:List Zr):V3 g h j=true↔∀u∈h,∀f∈j,yW u.2=yW f.2->g u f=true:=by unfold V3;rw[Yh];refine forall_congr' λu=>forall_congr' λv=>?_;rw[Yh];refine forall_congr' λf=>forall_congr' λy=>?_;by_cases p:yW u.2=yW f.2<;>simp[p]
section
variable {s:zg} {d:zv}
def zc0:∀(n:Nat) (x y:Zr),ST s d (n+1) x y=true->ST s d n x y=true
 | 0,x,y,h=>by simp only[ST,Qi,yu]at h ⊢;exact⟨h.1,(ZW ..).2 λ_ _ _ _ _=>rfl⟩
 | n+1,x,y,h=>by rw[ST,Qi,yu]at h ⊢;exact⟨h.1,(ZW ..).2 λu j f p g=>zc0 n u f ((ZW ..).1 h.2 u j f p g)⟩
def zc8:∀(n:Nat) (x y:Zr),Te s d (n+1) x y=true->Te s d n x y=true
 | 0,x,y,f=>by simp only[Te,Ra,yu,Uz]at f ⊢;exact⟨f.1,f.2.imp id λf=>⟨f.1,(ZW ..).2 λ_ _ _ _ _=>rfl⟩⟩
 | n+1,x,y,f=>by rw[Te,Ra,yu,Uz,yu]at f ⊢;exact⟨f.1,f.2.imp id λf=>⟨f.1,(ZW ..).2 λu j g p h=>zc8 n u g ((ZW ..).1 f.2 u j g p h)⟩⟩
def Rw{h:B8->List zj->Bool}{typ:B8}{l:List zj}:zbp s d h typ l=true↔VA (Te s d 64) [] (SS s d 64 typ l []).1=true/\∀x∈l,h (zz s typ x) x.sels=true:=by unfold zbp;generalize VA (Te s d 64) [] (SS s d 64 typ l []).1=b;rw[yu,Yh]
def zcX(typ:B8)(l:List zj):Nn s d 0 typ l=zbp s d (λ_ _=>true) typ l:=by rw[Nn]
def MB(n:Nat)(typ:B8)(l:List zj):Nn s d (n+1) typ l=zbp s d (Nn s d n) typ l:=by rw[Nn]
def Ou{n:Nat}{typ:B8}{l:List zj}(h:Nn s d n typ l=true):VA (Te s d 64) [] (SS s d 64 typ l []).1=true:=by
 cases n with
 | zero=>rw[zcX]at h;exact(Rw.1 h).1
 | succ n=>rw[MB]at h;exact(Rw.1 h).1
def zoA{n N : Nat}(g : n <= N){x y : Zr}(h : ST s d N x y = true): ST s d n x y = true := by
  induction N with
  | zero => have : n = 0 := by omega
            subst this; exact h
  | succ N f =>
    by_cases e : n = N + 1
    · subst e; exact h
    · exact f xg (zc0 N x y h)
def zqa{n N : Nat}(g : n <= N){x y : Zr}(h : Te s d N x y = true): Te s d n x y = true := by
  induction N with
  | zero => have : n = 0 := by omega
            subst this; exact h
  | succ N f =>
    by_cases e : n = N + 1
    · subst e; exact h
    · exact f xg (zc8 N x y h)
def zaz{n:Nat}{x y:Zr}(h:Te s d n x y=true):ST s d 64 x y=true:=by cases n<;>(simp only[Te,Ra,yu]at h;exact h.1)
def RH{α:Type}[DecidableEq α](x y:α):decide (x=y)=decide (y=x):=by
 by_cases f:x=y
 ·subst f;rfl
 ·rw[decide_eq_false f,decide_eq_false (Ne.symm f)]
def LQ(a b:X4):Wu s a b=Wu s b a:=by unfold Wu;rw[RH a.lists,RH a.musts,RH a.nm,Bool.or_comm (Z0 s a.nm),Bool.and_comm (y9 s a.nm)]
def OQ{g:Zr->Zr->Bool}{j p:List Zr}(z:∀u∈j,∀f∈p,g u f=true->g f u=true)(h:V3 g j p=true):V3 g p j=true :=(ZW ..).2 λf y u v A=>z u v f y ((ZW ..).1 h u v f y A.symm)
def KU:∀(n:Nat) (x y:Zr),ST s d n x y=true->ST s d n y x=true
 | 0,x,y,f=>by simp only[ST,Qi,yu]at f ⊢;exact⟨by rw[LQ];exact f.1,OQ (λ_ _ _ _ _=>rfl) f.2⟩
 | n+1,x,y,f=>by rw[ST,Qi,yu]at f ⊢;exact⟨by rw[LQ];exact f.1,OQ (λu _ g _ f=>KU n u g f) f.2⟩
def MQ(x y:Zr):Rk s x y=Rk s y x:=by unfold Rk;rw[RH x.1,WX,WX,Bool.and_comm (yA s x.1 [1])]
def zfK(s:zg):B8->zj->Bool:=Xj s λ_ l=>Ye [] l
structure OkT (s:zg) (u:Zr):Prop where
 k0:u.2.k=0
 on:zac s (zfK s) u.1 u.2=true
 th:zac s (Rr s) u.1 u.2=true
structure OkQ (s:zg) (typ:B8) (l:List zj):Prop where
 on:XC s (zfK s) typ l=true
 th:XC s (Rr s) typ l=true
def VZ{p:B8->zj->Bool}{typ:B8}{x:zj}(h:zac s p typ x=true):p typ x=true/\XC s p (zz s typ x) x.sels=true:=by obtain⟨k,f,v,g,j,y,z⟩:=x;simp only[zac,yu]at h;exact h
def OkT.sub{u:Zr}(h:OkT s u):OkQ s (zz s u.1 u.2) u.2.sels:=⟨(VZ h.on).2,(VZ h.th).2⟩
def OkT.once{u:Zr}(h:OkT s u):((Zj u.2).map mN).Nodup:=by have g:=(VZ h.on).1;have f:=h.k0;obtain⟨C,k,j,y,p,v,z,A⟩:=u;simp only[zj.k]at f;subst f;simp only[zfK,Xj,yu,decide_true,Bool.not_true,Bool.false_or]at g;exact(zco _).1 g.1
def zab(hf:∀g∈d.frags,OkQ s g.on g.sels):∀(n:Nat) (typ:B8) (l:List zj),OkQ s typ l->∀u∈VR s d n typ l,OkT s u
 | 0,typ,l,h=>λu f=>by simp[VR]at f
 | n+1,typ,l,h=>by
  induction l with
  | nil=>intro u f;simp[WN]at f
  | cons x r z =>
   intro u f;have j:=h.on;have p:=h.th;simp only[XC,yu]at j p;rw[zcU,List.mem_append]at f;rcases f with f|f
   ·have v:=(VZ j.1).2;have y:=(VZ p.1).2;obtain⟨k,C,A,G,I,J,K⟩:=x;simp only[TA]at f;split at f
    ·rename_i k0;simp only[List.mem_singleton]at f;subst f;exact⟨k0,j.1,p.1⟩
    split at f
    ·exact zab hf n _ _ ⟨v,y⟩ u f
    split at f
    ·cases hfr:yb d A with
     | none =>simp only[Uo,hfr,Option.getD_none,Vt,WN]at f;cases f
     | some g =>simp only[Uo,Rc,hfr,Option.getD_some]at f;exact zab hf n _ _ (hf g (List.mem_of_find?_eq_some hfr)) u f
    ·cases f
   ·exact z ⟨j.2,p.2⟩ u f
end
section
variable {s:zg} {d:zv}
def Ro{m k:Nat}{typ:B8}{l:List zj}(j:Sz d m l)(p:m<=k)(h:Nn s d k typ l=true):∀x∈l,∃g,m<=g+1/\Nn s d g (zz s typ x) x.sels=true:=by
 intro x f;cases k with
 | zero =>
  have:m=0:=xg
  subst this;cases j with
  | nil=>cases f
  | cons v _ _ _=>omega
 | succ k =>rw[MB,Rw]at h;exact⟨k,by omega,h.2 x f⟩
def zeK{N:Nat}(hfr:∀v∈d.frags,Nn s d N v.on v.sels=true){m:Nat}{l:List zj}(O:Sz d m l):m<=N->∀typ,(∀x∈l,∃g,m<=g+1/\Nn s d g (zz s typ x) x.sels=true) ->
  ∀p∈VR s d N typ l,∃h,h<m/\Sz d h p.2.sels/\∃g,h<=g/\Nn s d g (zz s p.1 p.2) p.2.sels=true:=by
 induction O with
 | nil=>intro _ typ _ p f;rw[WN]at f;cases f
 | @cons m i j e k al nm args dirs on sels r hle h1 h2 h3 i1 i2 i3 =>
  intro L typ G p f;rw[T5 (.cons hle h1 h2 h3) L,List.mem_append]at f;rcases f with f|f
  ·obtain⟨g,K,z⟩:=G _ (YS ..);simp only[zj.sels]at z;simp only[TA]at f;split at f
   ·simp only[List.mem_singleton]at f;subst f;exact⟨i,by omega,h1,g,by omega,z⟩
   split at f
   ·obtain⟨h,A,y⟩:=i1 xg _ (Ro h1 xg z) p f;exact⟨h,by omega,y⟩
   split at f
   ·rename_i C;cases hf:yb d nm with
    | none =>simp only[Uo,hf,Option.getD_none,Vt,WN]at f;cases f
    | some v =>have I:=hfr v (List.mem_of_find?_eq_some hf);have J:=Ro (typ:=v.on) (l:=v.sels) (k:=N) (m:=j) (by have:=h2 C;simpa only[Uo,hf,Option.getD_some]using this) xg I;obtain⟨h,A,y⟩:=i2 C xg (Rc d nm) (by simpa only[Uo,Rc,hf,Option.getD_some]using J) p f;exact⟨h,by omega,y⟩
   ·cases f
  ·obtain⟨h,A,y⟩:=i3 xg typ (λx M=>by
    obtain⟨g,K,z⟩:=G x (YN _ M);exact⟨g,by omega,z⟩) p f
   exact⟨h,by omega,y⟩
def zqm(hf:∀g∈d.frags,OkQ s g.on g.sels){u:Zr}(j:OkT s u){m:Nat}(v:Sz d m u.2.sels)(h:m<=64):∀f∈Lu s d u,OkT s f:=λf p =>zab hf 64 _ _ j.sub f ((UD v h _ f).1 p)
structure Told (s:zg) (d:zv) (m:Nat) (u:Zr):Prop where
 ok:OkT s u
 sz:Sz d m u.2.sels
 ls:∃k',m<=k'/\Nn s d k' (zz s u.1 u.2) u.2.sels=true
def XG(hf:∀f∈d.frags,OkQ s f.on f.sels)(hfr:∀f∈d.frags,Nn s d 64 f.on f.sels=true){m:Nat}(p:m<=64){u:Zr}(h:Told s d m u):∀g∈Lu s d u,∃j,j<m/\Told s d j g:=λg v=>by obtain⟨I,C,G⟩:=h.ls;obtain⟨j,y,z,A⟩:=zeK hfr h.sz p _ (Ro h.sz C G) g ((UD h.sz p _ g).1 v);exact⟨j,y,zqm hf h.ok h.sz p g v,z,A⟩
def zmq(hf:∀p∈d.frags,OkQ s p.on p.sels)(hfr:∀p∈d.frags,Nn s d 64 p.on p.sels=true)(n:Nat):∀(m j:Nat) (x y:Zr),m<=64->j<=64->Told s d m x->Told s d j y->Te s d n x y=true->Te s d n y x=true:=by
 have v:∀ {m j:Nat} {x y:Zr},Told s d m x->Told s d j y->decide (x.2.nm=y.2.nm)=true/\Y8 (Zj x.2) (Zj y.2)=true->decide (y.2.nm=x.2.nm)=true/\Y8 (Zj y.2) (Zj x.2)=true:=λg h f =>⟨by rw[RH];exact f.1,zhz g.ok.once h.ok.once f.2⟩;induction n with
 | zero =>intro m j x y z A g h f;rw[Te,Ra,yu,Uz,yu,yu]at f ⊢;exact⟨KU 64 x y f.1,f.2.imp (λf=>by rw[MQ];exact f) λf=>⟨v g h f.1,(ZW ..).2 λ_ _ _ _ _=>rfl⟩⟩
 | succ n L =>intro m j x y z A g h f;rw[Te,Ra,yu,Uz,yu,yu]at f ⊢;refine⟨KU 64 x y f.1,f.2.imp (λf=>by rw[MQ];exact f) λf=>⟨v g h f.1,OQ (λu J C K f=>?_) f.2⟩⟩;obtain⟨a,M,G⟩:=XG hf hfr z g u J;obtain⟨b,O,I⟩:=XG hf hfr A h C K;exact L a b u C xg xg G I f
def QL(hf:∀g∈d.frags,OkQ s g.on g.sels)(hfr:∀g∈d.frags,Nn s d 64 g.on g.sels=true){m:Nat}(U:m<=64){L:List Zr}(y:∀f∈L,∃z,z<m/\Told s d z f)(K:∀f∈L,Te s d 64 f f=true)(h:VA (Te s d 64) [] L=true):
  ∀u∈L,∀f∈L,yW u.2=yW f.2->Te s d 64 u f=true:=by
 have A:=((QG ..).1 h).2;have C:=zhG A (λu j _=>K u j) (λu j f v J p=>by obtain⟨a,M,G⟩:=y u j;obtain⟨b,O,I⟩:=y f v;exact zmq hf hfr 64 a b u f xg xg G I (J p.symm));exact λu j f v p=>C u j f v p.symm
def ze1(hf:∀f∈d.frags,OkQ s f.on f.sels)(hfr:∀f∈d.frags,Nn s d 64 f.on f.sels=true)(hty:∀z y f,zG s z y=some f->Z0 s f.t.nm=true∨y9 s f.t.nm=true):
  ∀(m:Nat) (u:Zr),m<=64->Told s d m u->∀n,n<=64->ST s d n u u=true/\Te s d n u u=true:=by
 intro m;induction m using Nat.strongRecOn with
 | _ m aa =>
 intro u M j;have W:=XG hf hfr M j;have L:∀g∈Lu s d u,∀w∈Lu s d u,yW g.2=yW w.2->Te s d 64 g w=true:=by obtain⟨af,v,Y⟩:=j.ls;refine QL hf hfr M W (λg p=>?_) (Ou Y);obtain⟨ab,h,X⟩:=W g p;exact(aa ab h g xg X 64 (ZG _)).2
 have U:Wu s ((zG s u.1 u.2.nm).getD zF).t ((zG s u.1 u.2.nm).getD zF).t=true:=by
  have h:=(VZ j.ok.th).1;have C:=j.ok.k0;obtain⟨z,k,ac,y,ad,ae,ag,ah⟩:=u;simp only[zj.k]at C;subst C;simp only[Rr,decide_true,Bool.not_true,Bool.false_or]at h;simp only[zj.nm];cases I:zG s z y with
  | none=>rw[I]at h;cases h
  | some f =>
   simp only[Option.getD_some,Wu];cases Z:Z0 s f.t.nm with
   | true=>simp
   | false =>have:=(hty z y f I).resolve_left (xv Z);simp[this]
 have J:∀n,n<=64->ST s d n u u=true:=λn O=>by
  cases n with
  | zero =>rw[ST,Qi,yu];exact⟨U,(ZW ..).2 λ_ _ _ _ _=>rfl⟩
  | succ n =>rw[ST,Qi,yu];exact⟨U,(ZW ..).2 λg p w A v=>zoA xg (zaz (L g p w A v))⟩
 have G:decide (u.2.nm=u.2.nm)=true/\Y8 (Zj u.2) (Zj u.2)=true:=⟨decide_eq_true rfl,zgw j.ok.once⟩;intro n O;refine⟨J n O,?_⟩;have K:=J 64 (ZG _);cases n with
 | zero =>rw[Te,Ra,yu,Uz,yu,yu];exact⟨K,.inr ⟨G,(ZW ..).2 λ_ _ _ _ _=>rfl⟩⟩
 | succ n =>rw[Te,Ra,yu,Uz,yu,yu];exact⟨K,.inr ⟨G,(ZW ..).2 λg p w A v=>zqa xg (L g p w A v)⟩⟩
def zhH(h:WT s=true)(typ C:B8)(f:Yv)(hf:zG s typ C=some f):Z0 s f.t.nm=true∨y9 s f.t.nm=true:=by
 unfold zG at hf;split at hf
 ·simp only[Y1]at hf;subst hf;left;have:zL s [83,116,114,105,110,103]=some (scE [83,116,114,105,110,103]):=by unfold zL;rw[if_pos (by decide)]
  simp only[tnF,Z0,yA,this,scE];decide
 ·cases g:zL s typ with
  | none=>rw[g]at hf;cases hf
  | some e =>
   rw[g]at hf;simp only at hf;split at hf
   ·have v:=List.mem_of_find?_eq_some hf;unfold zL at g;split at g
    ·simp only[Y1]at g;subst g;simp[scE]at v
    ·have A:=List.mem_of_find?_eq_some g;have j:=Yh.1 h e A;simp only[zar,yu,Bool.not_eq_true',List.any_eq_false]at j;have p:=j.2 f v;simp only[zaM,Uz,not_or,yu,Bool.not_eq_true']at p;cases z:Z0 s f.t.nm with
     | true=>exact .inl rfl
     | false =>
      right;cases y:y9 s f.t.nm with
      | true=>rfl
      | false=>exact absurd ⟨z,y⟩ p.1
   ·cases hf
end
def zpr{d:zv}{n:Nat}{l:List zj}(h:Sz d n l):l.length<=n:=by
 induction h with
 | nil=>exact Nat.zero_le _
 | cons f _ _ _ _ _ g=>simp only[yg];omega
def On{s:zg}:∀(k:Nat) (n i:Int),1<=n->UK s k n=0->n<=i->i<n+k->SE s i=true
 | 0,n,i,_,_,_,_=>by omega
 | k+1,n,i,hn,h,h1,h2=>by
  simp only[UK]at h;split at h
  ·rename_i f;by_cases e:i=n
   ·rw[e];exact f
   ·exact On k (n+1) i xg h xg xg
  ·omega
section
variable {s:zg} {d:zv} (F:zor s d)
include F
end
def zaj(l:B9)(ad:l.length<=ze):zf 252 [.o 1 (cT l)] (.bool (!Z1 l)):=by
 have h:=zn l;simp only[ze]at ad;refine zo ir252 λKP Q J=>?_;refine xc h ?_;refine zc l 3 ZY (λp G _ H=>W8 p G=Z1 l) () xb rfl ?_ ?_
 ·rintro _ H X g j;refine xd h j ?_;exact @J _ _ [.bool false] rfl (xM g)
 ·rintro p x G _ H X K j _ g aa;have M:=ZM K;simp only[W8]at g;refine xd h j ?_;refine zc p 4 ZY (λA I _ H=>zH x I=zH x p) () xb rfl ?_ ?_
  ·rintro _ W Y f v;simp only[zH]at f;rw[<-f]at g;refine xc v ?_;exact zJ (aa () _ (xy g)) xf
  ·rintro A z I _ W Y ac v _ f ab;have L:l=A++z::(I++x::G):=by rw[K,ac];simp
   have O:=ZM L;have U:(A.length:Int)<l.length:=by rw[L];simp;omega
   simp only[zH]at f;by_cases y:z=x
   ·rw[if_pos y]at f;rw[<-f]at g;have C:(x=z)=True:=eq_true y.symm;refine xG v h j U M O C ?_;exact @J _ _ [.bool true] rfl (xM g)
   ·rw[if_neg y]at f;have C:¬ x=z:=λZ=>y Z.symm;refine xG v h j U M O C ?_;exact zJ (ab () _ f) xf
def PD(l:B9)(ad:l.length<=ze):zf 51 [.o 1 (cT l)] (.bool (!Z1 l)):=by
 have h:=zn l;simp only[ze]at ad;refine zo ir51 λKP Q J=>?_;refine xc h ?_;refine zc l 3 ZY (λp G _ H=>W8 p G=Z1 l) () xb rfl ?_ ?_
 ·rintro _ H X g j;refine xd h j ?_;exact @J _ _ [.bool false] rfl (xM g)
 ·rintro p x G _ H X K j _ g aa;have M:=ZM K;simp only[W8]at g;refine xd h j ?_;refine zc p 4 ZY (λA I _ H=>zH x I=zH x p) () xb rfl ?_ ?_
  ·rintro _ W Y f v;simp only[zH]at f;rw[<-f]at g;refine xc v ?_;exact zJ (aa () _ (xy g)) xf
  ·rintro A z I _ W Y ac v _ f ab;have L:l=A++z::(I++x::G):=by rw[K,ac];simp
   have O:=ZM L;have U:(A.length:Int)<l.length:=by rw[L];simp;omega
   simp only[zH]at f;by_cases y:z=x
   ·rw[if_pos y]at f;rw[<-f]at g;have C:(x=z)=True:=eq_true y.symm;refine xG v h j U M O C ?_;exact @J _ _ [.bool true] rfl (xM g)
   ·rw[if_neg y]at f;have C:¬ x=z:=λZ=>y Z.symm;refine xG v h j U M O C ?_;exact zJ (ab () _ f) xf
def zoY(n:B8):zf 325 [.str n] (.bool (List.isPrefixOf [95,95] n)):=by
 refine zo ir325 λKP Q j=>?_;by_cases p:2<=n.length
 case neg =>
  have g:¬ (2:Int)<=n.length:=xg
  have h:List.isPrefixOf [95,95] n=false:=by
   match n,p with
   | [],_=>rfl
   | [a],_=>simp[List.isPrefixOf]
   | a::b::r,f=>simp at f
  refine xc g ?_;exact @j _ _ [.bool false] rfl (wa h)
 have g:(2:Int)<=n.length:=xg
 have h:List.isPrefixOf [95,95] n=decide (n.take 2=[95,95]):=by
  match n,p with
  | [],f=>simp at f
  | [a],f=>simp at f
  | a::b::r,f =>simp only[List.isPrefixOf,Bool.and_true,List.take,List.cons.injEq,and_true];rw[Bool.eq_iff_iff,yu,Zh,beq_iff_eq,beq_iff_eq];exact⟨λf=>⟨f.1.symm,f.2.symm⟩,λf=>⟨f.1.symm,f.2.symm⟩⟩
 simp(disch:=first|omega|assumption) only[ir325,g,List.drop_zero,go_sem];exact @j _ _ [.bool (decide (n.take 2=[95,95]))] rfl (wa h)
def zlC(l:B9)(v:l.length<=ze):zf 248 [.o 1 (cT l)] (.bool (XB l)):=by
 have g:=zn l;have L:=zaj l v;have I:=v;simp only[ze]at I;refine zo ir248 λKP Q p=>?_;have j:XB l=(WH l&&Z1 l):=by simp[XB,Bool.and_comm]
 refine xc g ?_;refine zc l 3 ZY (λC z _ H=>(z.all λn=>!List.isPrefixOf [95,95] n)=WH l) () xb rfl ?_ ?_
 ·rintro _ H A f h;simp only[List.all_nil]at f;refine xn g h L ?_;refine xa ?_;exact p rfl (x9 j f)
 ·rintro C x z _ H A J h _ f G;have K:=ZM J;rw[List.all_cons]at f;refine xm g h K (zoY x) ?_;cases y:List.isPrefixOf [95,95] x with
  | true =>rw[y]at f;refine xa ?_;exact @p _ _ [.bool false] rfl (wK j f)
  | false =>rw[y]at f;refine xa ?_;exact zJ (G () _ (xy f)) xf
def zhi(s:zg)(y:zA s<=ze):zf 245 [.agg (zk s)] (.o 1 (cT (s.defs.map (·.nm)))):=by
 have A:=zR y;obtain⟨v,ac,sm⟩:=s;simp only[zk]at y ⊢;simp only at A;have j:=YX v;simp only[ze]at A;refine zo ir245 λKP Q L=>?_;refine xc j ?_;refine zc v 4 (λx:Own×B9=>[(3,.sl x.1 1 (cT x.2))]) (λg U x H'=>x.2=g.map (·.nm)/\zM H' x.1 x.2.length 1) (.nil,[]) xJ ⟨rfl,rfl⟩ ?_ ?_
 ·rintro⟨o1,a⟩ H J ⟨f,h⟩ p;simp only at f;subst f;refine xd j p ?_;exact @L _ _ [.sl o1 1 (cT (v.map (·.nm)))] xb rfl
 ·rintro g x U ⟨o1,a⟩ H J M p Z ⟨f,h⟩ K;have z:=Xc M;replace h:zM H o1 a.length 1:=h;simp only at f;have Y:a.length=g.length:=xv f
  have C:a++[x.nm]=(g++[x]).map (·.nm):=xv f
  obtain⟨k,O,X,W,ab,aa⟩:=x;rw[zS]at z;simp only at C;refine xe j p z (zp (wZ h) ?_ ?_ λo' I G=>?_)
  ·simp only[zn,yg,yy];omega
  ·refine wE ?_;omega
  simp only[zn,yg,yy]at G;refine x3 ?_;exact zJ (K (o',a++[O]) I ⟨C,by simpa using G.own⟩) xb
def Nk(l:List z6)(J:l.length<=ze):zf 251 [.o 10 (Yg l)] (.o 1 (cT (l.map (·.nm)))):=by
 have L:=J
 skip
 have j:=yJ l;simp only[ze]at L;refine zo ir251 λKP Q I=>?_;refine xc j ?_;refine zc l 4 (λx:Own×B9=>[(3,.sl x.1 1 (cT x.2))]) (λg O x H'=>x.2=g.map (·.nm)/\zM H' x.1 x.2.length 1) (.nil,[]) xJ ⟨rfl,rfl⟩ ?_ ?_
 ·rintro⟨o1,a⟩ H C ⟨f,h⟩ p;simp only at f;subst f;refine xd j p ?_;exact @I _ _ [.sl o1 1 (cT (l.map (·.nm)))] xb rfl
 ·rintro g x O ⟨o1,a⟩ H C K p X ⟨f,h⟩ G;have v:=y6 K;replace h:zM H o1 a.length 1:=h;simp only at f;have W:a.length=g.length:=xv f
  have y:a++[x.nm]=(g++[x]).map (·.nm):=xv f
  obtain⟨M,⟨Z,aa,ab⟩,U,⟨k,q,s,Y,m⟩⟩:=x;rw[zX]at v;simp only at y;refine xe j p v (zp (wZ h) ?_ ?_ λo' A z=>?_)
  ·simp only[zn,yg,yy];omega
  ·refine wE ?_;omega
  simp only[zn,yg,yy]at z;refine x3 ?_;exact zJ (G (o',a++[M]) A ⟨y,by simpa using z.own⟩) xb
def zbE(l:List Yv)(J:l.length<=ze):zf 250 [.o 6 (TK l)] (.o 1 (cT (l.map (·.nm)))):=by
 have L:=J
 skip
 have j:=YM l;simp only[ze]at L;refine zo ir250 λKP Q I=>?_;refine xc j ?_;refine zc l 4 (λx:Own×B9=>[(3,.sl x.1 1 (cT x.2))]) (λg O x H'=>x.2=g.map (·.nm)/\zM H' x.1 x.2.length 1) (.nil,[]) xJ ⟨rfl,rfl⟩ ?_ ?_
 ·rintro⟨o1,a⟩ H C ⟨f,h⟩ p;simp only at f;subst f;refine xd j p ?_;exact @I _ _ [.sl o1 1 (cT (l.map (·.nm)))] xb rfl
 ·rintro g x O ⟨o1,a⟩ H C K p W ⟨f,h⟩ G;have v:=XS K;replace h:zM H o1 a.length 1:=h;simp only at f;have U:a.length=g.length:=xv f
  have y:a++[x.nm]=(g++[x]).map (·.nm):=xv f
  obtain⟨M,X,⟨Y,Z,aa⟩,ds⟩:=x;rw[YG]at v;simp only at y;refine xe j p v (zp (wZ h) ?_ ?_ λo' A z=>?_)
  ·simp only[zn,yg,yy];omega
  ·refine wE ?_;omega
  simp only[zn,yg,yy]at z;refine x3 ?_;exact zJ (G (o',a++[M]) A ⟨y,by simpa using z.own⟩) xb
def zgA(l:List yv)(L:l.length<=ze):zf 143 [.o 2 (ZE l)] (.o 1 (cT (l.map (·.nm)))):=by
 have O:=L
 skip
 have j:=YB l;simp only[ze]at O;refine zo ir143 λKP Q K=>?_;refine xc j ?_;refine zc l 4 (λx:Own×B9=>[(3,.sl x.1 1 (cT x.2))]) (λg U x H'=>x.2=g.map (·.nm)/\zM H' x.1 x.2.length 1) (.nil,[]) xJ ⟨rfl,rfl⟩ ?_ ?_
 ·rintro⟨o1,a⟩ H I ⟨f,h⟩ p;simp only at f;subst f;refine xd j p ?_;exact @K _ _ [.sl o1 1 (cT (l.map (·.nm)))] xb rfl
 ·rintro g x U ⟨o1,a⟩ H I M p X ⟨f,h⟩ J;have z:=Y0 M;replace h:zM H o1 a.length 1:=h;simp only at f;have W:a.length=g.length:=xv f
  have A:a++[x.nm]=(g++[x]).map (·.nm):=xv f
  obtain⟨v,y⟩:=x;rw[show cD ⟨v,y⟩=[.str v,.o 6 (Ya y)] from rfl]at z;simp only at A;refine xe j p z (zp (wZ h) ?_ ?_ λo' G C=>?_)
  ·simp only[zn,yg,yy];omega
  ·refine wE ?_;omega
  simp only[zn,yg,yy]at C;refine x3 ?_;exact zJ (J (o',a++[v]) G ⟨A,by simpa using C.own⟩) xb
def zgL(l:List z6)(J:l.length<=ze):zf 147 [.o 10 (Yg l)] (.o 1 (cT (l.map (·.nm)))):=by
 have L:=J
 skip
 have j:=yJ l;simp only[ze]at L;refine zo ir147 λKP Q I=>?_;refine xc j ?_;refine zc l 4 (λx:Own×B9=>[(3,.sl x.1 1 (cT x.2))]) (λg O x H'=>x.2=g.map (·.nm)/\zM H' x.1 x.2.length 1) (.nil,[]) xJ ⟨rfl,rfl⟩ ?_ ?_
 ·rintro⟨o1,a⟩ H C ⟨f,h⟩ p;simp only at f;subst f;refine xd j p ?_;exact @I _ _ [.sl o1 1 (cT (l.map (·.nm)))] xb rfl
 ·rintro g x O ⟨o1,a⟩ H C K p X ⟨f,h⟩ G;have v:=y6 K;replace h:zM H o1 a.length 1:=h;simp only at f;have W:a.length=g.length:=xv f
  have y:a++[x.nm]=(g++[x]).map (·.nm):=xv f
  obtain⟨M,⟨Z,aa,ab⟩,U,⟨k,q,s,Y,m⟩⟩:=x;rw[zX]at v;simp only at y;refine xe j p v (zp (wZ h) ?_ ?_ λo' A z=>?_)
  ·simp only[zn,yg,yy];omega
  ·refine wE ?_;omega
  simp only[zn,yg,yy]at z;refine x3 ?_;exact zJ (G (o',a++[M]) A ⟨y,by simpa using z.own⟩) xb
def zdy(d:zv)(L:d.frags.length<=ze):zf 54 [.agg (z8 d)] (.o 1 (cT (d.frags.map (·.nm)))):=by
 have z:=L;obtain⟨os,g⟩:=d;have M:z8 ⟨os,g⟩=[.o 5 (PR os),.o 4 (Pf g)]:=rfl;rw[M];simp only at z ⊢;have p:=Z5 g;simp only[ze]at z;refine zo ir54 λKP Q K=>?_;refine xc p ?_;refine zc g 4 (λx:Own×B9=>[(3,.sl x.1 1 (cT x.2))]) (λh W x H'=>x.2=h.map (·.nm)/\zM H' x.1 x.2.length 1) (.nil,[]) xJ ⟨rfl,rfl⟩ ?_ ?_
 ·rintro⟨o1,a⟩ H I ⟨f,j⟩ v;simp only at f;subst f;refine xd p v ?_;exact @K _ _ [.sl o1 1 (cT (g.map (·.nm)))] xb rfl
 ·rintro h x W ⟨o1,a⟩ H I O v ab ⟨f,j⟩ J;have y:=Ym O;replace j:zM H o1 a.length 1:=j;simp only at f;have aa:a.length=h.length:=xv f
  have A:a++[x.nm]=(h++[x]).map (·.nm):=xv f
  obtain⟨U,Y,X,Z⟩:=x;rw[Ys]at y;simp only at A;refine xe p v y (zp (wZ j) ?_ ?_ λo' G C=>?_)
  ·simp only[zn,yg,yy];omega
  ·refine wE ?_;omega
  simp only[zn,yg,yy]at C;refine x3 ?_;exact zJ (J (o',a++[U]) G ⟨A,by simpa using C.own⟩) xb
noncomputable def Ug(s:zg):Bool:=!(s.defs.map (·.nm)).any Zv&&(Xr s&&XB (s.defs.map (·.nm)))
def zmb(s:zg)(p:zA s<=ze):zf 119 [.agg (zk s)] (.bool (Ug s)):=by
 have z:=zhi s p;have A:=zgY s p;have y:(s.defs.map (·.nm)).length<=ze:=by rw[List.length_map];exact zR p
 have ho:=zlC (s.defs.map (·.nm)) y;simp only[ze]at y;have g:Ug s=(!(s.defs.map (·.nm)).any Zv&&(Xr s&&XB (s.defs.map (·.nm)))):=rfl;generalize Ug s=F,s.defs.map (·.nm)=l at *
 generalize Xr s=O,XB l=X at *
 have h:=zn l;obtain⟨U,W,sm⟩:=s;simp only[zk]at z A ⊢;refine zo ir119 λKP Q j=>?_;refine xh z ?_;refine xc h ?_;refine zc l 4 ZY (λJ G _ H=>G.any Zv=l.any Zv) () xb rfl ?_ ?_
 ·rintro _ H I f v;simp only[List.any_nil]at f;rw[<-f]at g;refine xn h v A ?_;cases O with
  | false =>exact vn j g
  | true =>refine xh ho ?_;exact vn j g
 ·rintro J x G _ H I L v _ f K;have M:=ZM L;rw[List.any_cons]at f;refine xm h v M (zeX x) ?_;cases C:Zv x with
  | true =>rw[C,Bool.true_or]at f;refine xa ?_;exact j rfl (x9 g f)
  | false =>rw[C,Bool.false_or]at f;refine xa ?_;exact zJ (K () _ f) xf
def znj(s:zg)(ad:zA s<=ze):zf 121 [.agg (zk s)] (.bool (XN s)):=by
 have ae:=λ(d:yX) (ao:d∈s.defs)=>SQ ao ad;have ar:=zR ad;have p:XN s=s.defs.all Qs:=rfl;have an:∀d,Qs d=(XB (d.flds.map (·.nm))&&(XB (d.ps.map (·.nm))&&(Z1 d.parts&&(Z1 d.faces&&!d.flds.any λy=>!XB (y.ps.map (·.nm)))))):=λ_=>rfl;generalize XN s=F at *
 obtain⟨X,a4,sm⟩:=s;have M:=YX X;simp only[ze]at ar;simp only[zk]at ae ⊢;simp only at p;refine zo ir121 λKP Q v=>?_;simp(disch:=first|omega|assumption) only[ir121,M,go_sem];refine zc X 3 ZY (λaa K _ H=>K.all Qs=X.all Qs) () (by simp(disch:=first|omega|assumption) only[go_sem]) rfl ?_ ?_
 ·rintro _ H al g U;simp(disch:=first|omega|assumption) only[M,U,go_sem];exact v rfl (by simp[p,<-g])
 ·rintro aa x K _ H al af U _ g ap;have ah:=Xc af;have au:=ae x (by rw[af];simp);have f:=an x;obtain⟨k,aw,A,j,J,I⟩:=x;simp only[bE,ze]at au;have ax:=YH j;have ay:=yr I;have az:=ZN A;have Z:=ZN J;have O:=YM j;rw[zS]at ah;rw[List.all_cons]at g;simp only at f;simp(disch:=first|omega|assumption) only[M,U,ah,go_sem];refine zb λZ a1=>?_;simp(disch:=first|omega|assumption) only[go_sem];refine za (zbE j (by simp only[ze];omega)) ?_;simp(disch:=first|omega|assumption) only[go_sem];refine za (zlC _ (by simp only[ze,List.length_map];omega)) ?_;cases z:XB (j.map (·.nm))with
  | false =>rw[z]at f;rw[f]at g;simp(disch:=first|omega|assumption) only[go_sem];exact v rfl (by simp[p,<-g])
  | true =>
  simp(disch:=first|omega|assumption) only[go_sem];refine za (Nk I (by simp only[ze];omega)) ?_;simp(disch:=first|omega|assumption) only[go_sem];refine za (zlC _ (by simp only[ze,List.length_map];omega)) ?_;cases C:XB (I.map (·.nm))with
  | false =>rw[z,C]at f;rw[f]at g;simp(disch:=first|omega|assumption) only[go_sem];exact v rfl (by simp[p,<-g])
  | true =>
  simp(disch:=first|omega|assumption) only[go_sem];refine za (zaj J (by simp only[ze];omega)) ?_;cases L:Z1 J with
  | false =>rw[z,C,L]at f;rw[f]at g;simp(disch:=first|omega|assumption) only[go_sem];exact v rfl (by simp[p,<-g])
  | true =>
  simp(disch:=first|omega|assumption) only[go_sem];refine za (zaj A (by simp only[ze];omega)) ?_;cases ab:Z1 A with
  | false =>rw[z,C,L,ab]at f;rw[f]at g;simp(disch:=first|omega|assumption) only[go_sem];exact v rfl (by simp[p,<-g])
  | true =>
  rw[z,C,L,ab]at f;simp only[Bool.true_and]at f;simp(disch:=first|omega|assumption) only[O,go_sem];refine zc j 5 ZY (λaa K _ H=>H Z=some (.cells [.int .i64 k,.str aw,.sl .no 1 (cT A),.sl .no 6 (TK j),.sl .no 1 (cT J),.sl .no 10 (Yg I)])/\(K.any λy=>!XB (y.ps.map (·.nm)))=j.any λy=>!XB (y.ps.map (·.nm))) () (by simp(disch:=first|omega|assumption) only[go_sem]) ⟨upd_same ..,rfl⟩ ?_ ?_
  ·rintro _ ak am ⟨G,h⟩ W;rw[<-h]at f;rw[f]at g;simp(disch:=first|omega|assumption) only[O,W,G,go_sem];exact zJ (ap () _ (by simpa using g)) (by simp(disch:=first|omega|assumption) only[wrap64,go_sem])
  ·rintro a0 Y a3 _ ak am ag W _ ⟨G,h⟩ aq;have ai:=XS ag;have a2:=@WK Y j (by rw[ag];simp);have av:=@zeJ Y;obtain⟨a9,aj,⟨a5,a6,a7⟩,a8⟩:=Y;rw[YG]at ai;simp only at av;rw[List.any_cons]at h;simp only at h;simp(disch:=first|omega|assumption) only[O,W,G,ai,go_sem];refine za (Nk aj (by simp only[ze];omega)) ?_;simp(disch:=first|omega|assumption) only[go_sem];refine za (zlC _ (by simp only[ze,List.length_map];omega)) ?_;cases ac:XB (aj.map (·.nm))with
   | false =>rw[ac]at h;simp only[Bool.not_false,Bool.true_or]at h;rw[<-h]at f;rw[f]at g;simp(disch:=first|omega|assumption) only[go_sem];exact v rfl (by simp[p,<-g])
   | true =>rw[ac]at h;simp only[Bool.not_true,Bool.false_or]at h;simp(disch:=first|omega|assumption) only[go_sem];exact zJ (aq () _ ⟨G,h⟩) (by simp(disch:=first|omega|assumption) only[wrap64,go_sem])
def zjG(s:zg)(f:List z6)(U:s.defs.length<=ze)(W:f.length<=ze):zf 253 [.agg (zk s),.o 10 (Yg f)] (.bool (X0 s f)):=by
 have C:=λn=>zi6 s n U;have p:=yJ f;simp only[ze]at W;have y:X0 s f=f.all λh=>XW s h.t.nm:=rfl;generalize X0 s f=F,XW s=j at *
 obtain⟨ab,ac,sm⟩:=s;simp only[zk]at C ⊢;refine zo ir253 λKP Q A=>?_;refine xc p ?_;refine zc f 5 ZY (λL I _ H=>(I.all λh=>j h.t.nm)=f.all λh=>j h.t.nm) () xb rfl ?_ ?_
 ·rintro _ H K g v;refine xd p v ?_;exact A rfl (x9 y g)
 ·rintro L x I _ H K O v _ g M;have G:=y6 O;obtain⟨Z,⟨J,ad,ae⟩,X,⟨k,q,aa,Y,m⟩⟩:=x;rw[zX]at G;rw[List.all_cons]at g;simp only at g;refine xm p v G (C J) ?_;cases z:j J with
  | false =>rw[z,Bool.false_and]at g;refine xa ?_;exact A rfl (x9 y g)
  | true =>rw[z,Bool.true_and]at g;refine xa ?_;exact zJ (M () _ g) xf
def znm(s:zg)(am:zA s<=ze):zf 122 [.agg (zk s)] (.bool (WT s)):=by
 have an:=λ(d:yX) (p:d∈s.defs)=>SQ p am;have Y:=zR am;have X:=λaf p=>zjG s af Y p;have au:=λn=>zb9 s n Y;have ao:=λn=>LZ s n Y;have U:WT s=s.defs.all (zar s):=rfl;have a4:∀d,zar s d=(X0 s d.ps&&!d.flds.any (zaM s)):=λ_=>rfl;have a3:∀W,zaM s W=((!Z0 s W.t.nm&&!y9 s W.t.nm)||!X0 s W.ps):=λ_=>rfl;generalize WT s=F,zar s=ak,zaM s=y,X0 s=ah,Z0 s=bc,y9 s=bd at *
 obtain⟨ag,bl,sm⟩:=s;have ad:=YX ag;simp only[ze]at Y;simp only[zk]at an X au ao ⊢;simp only at U;refine zo ir122 λKP Q M=>?_;refine xc ad ?_;refine zc ag 3 ZY (λai aa _ H=>aa.all ak=ag.all ak) () xb rfl ?_ ?_
 ·rintro _ H a0 f ae;refine xd ad ae ?_;exact M rfl (x9 U f)
 ·rintro ai x aa _ H a0 ap ae _ f a6;have ar:=Xc ap;have a7:=an x (xv ap);have g:=a4 x;rw[List.all_cons]at f;obtain⟨k,a9,a5,j,af,Z⟩:=x;simp only[bE,ze]at a7;have be:=YH j;have bf:=yr Z;have z:=YM j;rw[zS]at ar;simp only at g;refine xe ad ae ar (zb λa2 bh=>?_);refine xh (X Z xi) ?_;cases aj:ah Z with
  | false =>rw[aj]at g;rw[g]at f;refine xa ?_;exact M rfl (x9 U f)
  | true =>
  rw[aj,Bool.true_and]at g;refine xc z ?_;refine zc j 5 ZY (λai aa _ H=>H a2=some (.cells [.i k,.str a9,.o 1 (cT a5),.o 6 (TK j),.o 1 (cT af),.o 10 (Yg Z)])/\aa.any y=j.any y) () xb ⟨upd_same ..,rfl⟩ ?_ ?_
  ·rintro _ az a1 ⟨h,C⟩ A;rw[<-C]at g;rw[g]at f;refine xe z A h ?_;exact zJ (a6 () _ (xy f)) xf
  ·rintro bg ab ba _ az a1 aq A _ ⟨h,C⟩ al;have O:=XS aq;have bj:=@WK ab j (xv aq);have a8:=@zeJ ab;have v:=a3 ab;rw[List.any_cons]at C;obtain⟨ay,I,⟨G,av,aw⟩,ax⟩:=ab;rw[YG]at O;simp only at a8 v;have bad:y ⟨ay,I,⟨G,av,aw⟩,ax⟩=true->F=false:=λp=>by rw[p,Bool.true_or]at C;rw[<-C]at g;rw[g]at f;rw[U,<-f];rfl
   have good:y ⟨ay,I,⟨G,av,aw⟩,ax⟩=false->ba.any y=j.any y:=λp=>by rwa [p,Bool.false_or]at C
   refine xE z A h O (au G) ?_;cases J:bc G with
   | true =>
    refine xE z A h O (X I xi) ?_;cases K:ah I with
    | false =>have L:=bad (by rw[v,J,K];rfl);exact vn M L
    | true =>refine xa ?_;exact zJ (al () _ ⟨h,good (by rw[v,J,K];rfl)⟩) xf
   | false =>
    refine xE z A h O (ao G) ?_;cases ac:bd G with
    | false =>have L:=bad (by rw[v,J,ac];rfl);exact vn M L
    | true =>
     refine xE z A h O (X I xi) ?_;cases K:ah I with
     | false =>have L:=bad (by rw[v,J,K,ac];rfl);exact vn M L
     | true =>refine xa ?_;exact zJ (al () _ ⟨h,good (by rw[v,J,K,ac];rfl)⟩) xf
def zmG(s:zg)(ab:zA s<=ze):zf 125 [.agg (zk s)] (.bool (TF s)):=by
 have ac:=λ(d:yX) (I:d∈s.defs)=>SQ I ab;have ae:=zR ab;have J:=λn=>zi8 s n ae;have G:TF s=s.defs.all (O2 s):=rfl;have W:∀d,O2 s d=(!decide (d.k=3)||!(d.parts.any λn=>!yA s n [1])):=λ_=>rfl;generalize TF s=F,O2 s=Y at *
 obtain⟨O,hx1⟩:∃aj:B8->Bool,∀n,yA s n [1]=aj n:=⟨_,λ_=>rfl⟩;simp only[hx1]at J W;obtain⟨M,ax,sm⟩:=s;have j:=YX M;simp only[ze]at ae;simp only[zk]at ac J ⊢;simp only at G;refine zo ir125 λKP Q aa=>?_;refine xc j ?_;refine zc M 3 ZY (λU A _ H=>A.all Y=M.all Y) () xb rfl ?_ ?_
 ·rintro _ H ah g p;refine xd j p ?_;exact aa rfl (x9 G g)
 ·rintro U x A _ H ah ad p _ g Z;have v:=Xc ad;have an:=ac x (xv ad);have f:=W x;rw[List.all_cons]at g;obtain⟨k,au,ar,aq,z,av⟩:=x;simp only[bE,ze]at an;have ao:=ZN z;have K:=zn z;rw[zS]at v;simp only at f;refine xe j p v ?_;refine zc z 4 ZY (λU A _ H=>(A≠z->k=3)/\(A.any λn=>!O n)=z.any λn=>!O n) () xb ⟨λI=>absurd rfl I,rfl⟩ ?_ ?_
  ·rintro _ ag ai ⟨_,h⟩ C;rw[<-h]at f;simp only[List.any_nil,Bool.not_false,Bool.or_true]at f;rw[f,Bool.true_and]at g;refine xp j p v K C ?_;exact zJ (Z () _ g) xf
  ·rintro ap af aw _ ag ai al C _ ⟨_,h⟩ ak;have am:=ZM al;rw[List.any_cons]at h;by_cases y:k=3
   case neg =>have L:decide (k=3)=false:=decide_eq_false y;rw[L]at f;simp only[Bool.not_false,Bool.true_or]at f;rw[f,Bool.true_and]at g;refine xu j p v K C y ?_;exact zJ (Z () _ g) xf
   have L:=eq_true y;refine xG j p v K C L am ?_;refine za (J af) ?_;cases X:O af with
   | false =>rw[X,Bool.not_false,Bool.true_or]at h;rw[<-h,decide_eq_true y]at f;rw[f]at g;refine xa ?_;exact aa rfl (x9 G g)
   | true =>rw[X,Bool.not_true,Bool.false_or]at h;refine xa ?_;exact zJ (ak () _ ⟨λ_=>y,h⟩) xf
end Go.Proofs.YtcbfcliickppiaaGreatDoor
