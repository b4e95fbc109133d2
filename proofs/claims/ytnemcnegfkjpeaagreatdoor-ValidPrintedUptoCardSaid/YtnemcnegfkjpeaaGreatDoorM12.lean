import Derived.Test.YtnemcnegfkjpeaaGreatDoorM11
set_option maxRecDepth 100000
set_option linter.all false
namespace Go.Proofs.YtnemcnegfkjpeaaGreatDoor
open Go.Ab
noncomputable def tgB(s:SchD)(fr:List (List UInt8×List ItD))(g:ItD->ItD->yK->Bool×yK)(x y:ItD)(S:yK):Bool×yK :=
 match zgF S.2 (x.no,y.no)with
 | some r=>(r,S)
 | none =>
  if (shF s fr 64 x y S).1=true then
   if zlX s x y=true then (true,((shF s fr 64 x y S).2.1,Yb (shF s fr 64 x y S).2.2 (x.no,y.no) true))
   else if (decide (x.x.nm=y.x.nm)&&zfl x.args y.args)=true then ((zaY g (Zf fr x) (Zf fr y) (shF s fr 64 x y S).2).1,((zaY g (Zf fr x) (Zf fr y) (shF s fr 64 x y S).2).2.1,Yb (zaY g (Zf fr x) (Zf fr y) (shF s fr 64 x y S).2).2.2 (x.no,y.no) (zaY g (Zf fr x) (Zf fr y) (shF s fr 64 x y S).2).1))
   else (false,((shF s fr 64 x y S).2.1,Yb (shF s fr 64 x y S).2.2 (x.no,y.no) false))
  else (false,((shF s fr 64 x y S).2.1,Yb (shF s fr 64 x y S).2.2 (x.no,y.no) false))
noncomputable def tgF(s:SchD)(fr:List (List UInt8×List ItD)):Nat->ItD->ItD->yK->Bool×yK
 | 0=>tgB s fr λ_ _ S=>(true,S)
 | n+1=>tgB s fr (tgF s fr n)
def tgG(s:SchD)(fr:List (List UInt8×List ItD))(b W bs A no:Nat)(bc:zJ s<=Lim)(n m:Nat)(g:ItD->ItD->yK->Bool×yK)(x y:ItD)(bu:Ex fr n x.sub)(br:n<=64)(bv:Ex fr m y.sub)(bq:m<=64)(cc:bMs x.args<=Lim)(cd:bMs y.args<=Lim)(b7:∀u∈Zf fr x,∀v∈Zf fr y,zhG s fr b W bs A no 167 g u v):zhG s fr b W bs A no 167 (tgB s fr g) x y:=by
 intro S H a2;have ay:=zpx s fr b W bs A no 167 g x y n m (by kernel_rfl) bu br bv bq b7;have ar:=zdA s x.typ [1] (yc bc) (by simp[Lim]);have a4:=zdA s y.typ [1] (yc bc) (by simp[Lim]);have au:=shC s fr b W bs A no bc 64 m x y (Al4 _) bq (bu.mono br) bv S;have bp:=zzX x.args y.args cc cd;have ae:=zlb x.no y.no S.2;have bd:=λv l=>zma x.no y.no v l;have a1:zlX s x y=(!decide (x.typ=y.typ)&&Za s x.typ [1]&&Za s y.typ [1]):=rfl;have J:tgB s fr g x y S=match zgF S.2 (x.no,y.no)with
  | some r=>(r,S)
  | none =>
   if (shF s fr 64 x y S).1=true then
    if zlX s x y=true then (true,((shF s fr 64 x y S).2.1,Yb (shF s fr 64 x y S).2.2 (x.no,y.no) true))
    else if (decide (x.x.nm=y.x.nm)&&zfl x.args y.args)=true then ((zaY g (Zf fr x) (Zf fr y) (shF s fr 64 x y S).2).1,((zaY g (Zf fr x) (Zf fr y) (shF s fr 64 x y S).2).2.1,Yb (zaY g (Zf fr x) (Zf fr y) (shF s fr 64 x y S).2).2.2 (x.no,y.no) (zaY g (Zf fr x) (Zf fr y) (shF s fr 64 x y S).2).1))
    else (false,((shF s fr 64 x y S).2.1,Yb (shF s fr 64 x y S).2.2 (x.no,y.no) false))
   else (false,((shF s fr 64 x y S).2.1,Yb (shF s fr 64 x y S).2.2 (x.no,y.no) false)):=rfl
 generalize cl:tgB s fr g x y S=F at *
 generalize shF s fr 64 x y S=X at *
 replace ay:=ay X.2;generalize zaY g (Zf fr x) (Zf fr y) X.2=B at *
 have ad:=a2.look;have an:=a2.pr;have aa:∀i j:Nat,KT.fits kPr (.agg [.int .i64 i,.int .i64 j])=true:=λ_ _=>rfl;have fin:∀r ab H',F=(r,ab)->LkH s fr b W bs A no ab H'->LkK bs A H H'->(AV.bool r=.bool F.1/\LkH s fr b W bs A no F.2 H'/\LkK bs A H H'):=λr ab H' e am ac=>by rw[e];exact⟨rfl,am,ac⟩
 have bh:∀ab H' v,LkH s fr b W bs A no ab H'->LkK bs A H H'->LkH s fr b W bs A no (ab.1,Yb ab.2 (x.no,y.no) v) (H'.upd A (.map kPr (cPr (Yb ab.2 (x.no,y.no) v))))/\LkK bs A H (H'.upd A (.map kPr (cPr (Yb ab.2 (x.no,y.no) v)))):=λab H' v h b8=>by
  have cg:b≠A:=λe=>by have:=h.look;rw[e,h.pr]at this;cases this
  have ch:W≠A:=λe=>by have:=h.frs;rw[e,h.pr]at this;cases this
  refine⟨⟨by simp only[zb.upd,cg,if_false];exact h.look,by simp only[zb.upd,ch,if_false];exact h.frs,by simp only[zb.upd,h.ne,if_false];exact h.sh,upd_same ..,h.ne⟩,λc z a9 am ac=>?_⟩;simp only[zb.upd,ac,if_false];exact b8 c z a9 am ac
 generalize zlX s x y=a0 at *
 generalize Za s x.typ [1]=be at *
 generalize Za s y.typ [1]=ce at *
 generalize zfl x.args y.args=cf at *
 obtain⟨aj,cq,cn,ci,co,cp,cr,ct,a6,cu,rfl⟩:=zer x;obtain⟨ak,cz,cw,cj,cx,cy,c2,c3,a7,c4,rfl⟩:=zer y;simp only[ItD.no,ItD.x,ItD.typ,SelD.nm,ItD.args]at ar a4 ae bd J bh bp a1;obtain⟨ah,ai,sm⟩:=s;have b6:zm ⟨ah,ai,sm⟩=[.sl .no 6 (cEs ah),.str ai,.str sm]:=rfl;simp only[b6,Al6,Z6]at ar a4 ad;rw[ZG,ZG]at ay au ⊢;have Z:b≠A:=λe=>by subst e;rw[ad]at an;cases an
 refine zd.goO ir167.1 ir167.2 (Al4 _) λKP Q ao cm=>?_;simp(disch:=omega) only[ir167,go_sem];refine zc λaf ag=>?_;have Y:b≠af:=λe=>by subst e;rw[ad]at ag;cases ag
 have U:A≠af:=λe=>by subst e;rw[an]at ag;cases ag
 have bw:af≠bs:=λe=>by subst e;rw[a2.sh]at ag;cases ag
 have bl:=a2.keep (ZA (x:=.cells [.int .i64 aj,.int .i64 ak]) ag);have bo:LkK bs A H (H.upd af (.cells [.int .i64 aj,.int .i64 ak])):=LkK.upd (λc z a9 _ _=>a9) ag;cases bt:zgF S.2 (aj,ak)with
 | some r =>rw[bt]at ae J;simp only[ZS]at ae;simp(disch:=omega) only[Y,Ne.symm Y,U,Ne.symm U,Z,Ne.symm Z,ad,an,ae,aa,YV,Option.getD_some,Option.isSome_some,go_sem];exact ao _ _ _ _ [.bool r] nofun rfl (Low.refl _) (fin r S _ J bl bo)
 | none =>
  rw[bt]at ae J;simp only[Option.map_none]at ae;replace au:=au _ bl;have tail:∀(v:Bool) I,LkH ⟨ah,ai,sm⟩ fr b W bs A no X.2 I->LkK bs A H I->F=(v,(X.2.1,Yb X.2.2 (aj,ak) v))->(AV.bool v=.bool F.1/\LkH ⟨ah,ai,sm⟩ fr b W bs A no F.2 (I.upd A (.map kPr (cPr (Yb X.2.2 (aj,ak) v))))/\LkK bs A H (I.upd A (.map kPr (cPr (Yb X.2.2 (aj,ak) v))))):=λv I am ac e=>by obtain⟨bf,bg⟩:=bh X.2 I v am ac;exact fin v _ _ e bf bg
  have after:∀(v:AV) I,(v=.bool X.1/\LkH ⟨ah,ai,sm⟩ fr b W bs A no X.2 I/\LkK bs A (H.upd af (.cells [.int .i64 aj,.int .i64 ak])) I)->v=.bool X.1/\LkH ⟨ah,ai,sm⟩ fr b W bs A no X.2 I/\LkK bs A H I/\I af=some (.cells [.int .i64 aj,.int .i64 ak])/\I b=some (.cells [.sl .no 6 (cEs ah),.str ai,.str sm,.int .i64 no,.mp W,.mp bs,.mp A])/\I A=some (.map kPr (cPr X.2.2)):=λv I ⟨am,ac,bk⟩ =>⟨am,ac,bo.trans bk,bk af _ (upd_same ..) bw (Ne.symm U),ac.look,ac.pr⟩;obtain⟨bz,ck,bx⟩:=X;simp only at after tail J ay;have av:=λv=>bd v bx;have pre:(a6=a7/\a0=false)∨(a6≠a7/\be=false/\a0=false)∨(a6≠a7/\be=true/\ce=a0):=by
   by_cases h:a6=a7
   ·exact .inl ⟨h,by rw[a1];simp[h]⟩
   ·cases be with
    | false=>exact .inr (.inl ⟨h,rfl,by rw[a1];simp⟩)
    | true=>exact .inr (.inr ⟨h,rfl,by rw[a1];simp[h]⟩)
  rcases pre with ⟨az,a3⟩|⟨az,ba,a3⟩|⟨az,ba,a3⟩
  case' inl =>have cb:=eq_true az;simp(disch:=omega) only[Y,Ne.symm Y,U,Ne.symm U,Z,Ne.symm Z,ad,an,ae,aa,YV,Option.getD_none,Option.isSome_none,cb,go_sem];refine zi (XP:=λ_ _=>False) au (λv I h=>?_) (λ_ _ h=>h.elim)
  case' inr.inl =>rw[ba]at ar;simp(disch:=omega) only[Y,Ne.symm Y,U,Ne.symm U,Z,Ne.symm Z,ad,an,ae,aa,YV,Option.getD_none,Option.isSome_none,az,go_sem];refine za (ze.low ar) ?_;simp(disch:=omega) only[Y,Ne.symm Y,U,Ne.symm U,Z,Ne.symm Z,ad,go_sem];refine zi (XP:=λ_ _=>False) au (λv I h=>?_) (λ_ _ h=>h.elim)
  case' inr.inr =>rw[ba]at ar;rw[a3]at a4;simp(disch:=omega) only[Y,Ne.symm Y,U,Ne.symm U,Z,Ne.symm Z,ad,an,ae,aa,YV,Option.getD_none,Option.isSome_none,az,go_sem];refine za (ze.low ar) ?_;simp(disch:=omega) only[Y,Ne.symm Y,U,Ne.symm U,Z,Ne.symm Z,ad,go_sem];refine za (ze.low a4) ?_;simp(disch:=omega) only[Y,Ne.symm Y,U,Ne.symm U,Z,Ne.symm Z,ad,go_sem];refine zi (XP:=λ_ _=>False) au (λv I h=>?_) (λ_ _ h=>h.elim)
  all_goals
   obtain⟨rfl,aw,ax,al,ap,aq⟩:=after v I h;have b3:=ay I aw;cases bz with
   | false =>simp only[Al7,if_false]at J;simp(disch:=omega) only[ap,al,aq,aa,av,go_sem];exact ao _ _ _ _ [.bool false] nofun rfl (Low.refl _) (tail false I aw ax J)
   | true =>
    simp only[if_true]at J;cases a0 with
    | true =>
     first
     | (cases a3;done)
     | (simp only[if_true]at J;simp(disch:=omega) only[ap,al,aq,aa,av,go_sem];exact ao _ _ _ _ [.bool true] nofun rfl (Low.refl _) (tail true I aw ax J))
    | false =>
     simp only[Al7,if_false]at J;by_cases a5:ci=cj
     case neg =>simp only[a5,decide_false,Bool.false_and,Al7,if_false]at J;simp(disch:=omega) only[ap,al,aq,aa,av,a5,go_sem];exact ao _ _ _ _ [.bool false] nofun rfl (Low.refl _) (tail false I aw ax J)
     have b9:=eq_true a5;simp only[a5,decide_true,Bool.true_and]at J;simp(disch:=omega) only[ap,al,aq,aa,av,b9,go_sem];refine za bp ?_;cases cf with
     | false =>simp only[Al7,if_false]at J;simp(disch:=omega) only[ap,al,aq,aa,av,go_sem];exact ao _ _ _ _ [.bool false] nofun rfl (Low.refl _) (tail false I aw ax J)
     | true =>simp only[if_true]at J;simp(disch:=omega) only[ap,al,aq,aa,av,go_sem];refine zi (XP:=λ_ _=>False) b3 (λv bj ⟨b2,a8,bn⟩=>?_) (λ_ _ h=>h.elim);subst b2;have b1:=bn af _ al bw (Ne.symm U);have b4:bj b=some (.cells [.sl .no 6 (cEs ah),.str ai,.str sm,.int .i64 no,.mp W,.mp bs,.mp A]):=a8.look;have b5:=a8.pr;have ca:=bd B.1 B.2.2;obtain⟨bf,bg⟩:=bh B.2 bj B.1 a8 (ax.trans bn);simp(disch:=omega) only[b4,b1,b5,aa,ca,go_sem];exact ao _ _ _ _ [.bool B.1] nofun rfl (Low.refl _) (fin B.1 _ _ J bf bg)
def tgC(s:SchD)(fr:List (List UInt8×List ItD))(b A bs I no:Nat)(J:zJ s<=Lim):∀(f m:Nat) (x y:ItD),f<=64->m<=64->Ex fr f x.sub->Ex fr m y.sub->bMs x.args<=Lim->bMs y.args<=Lim->zhG s fr b A bs I no 167 (tgF s fr f) x y
 | 0,m,x,y,hf,hm,hx,hy,hxa,hya=>tgG s fr b A bs I no J 0 m _ x y hx hf hy hm hxa hya λu U v W=>by obtain⟨i,hi,_⟩:=zbY (seen:=[]) (f:=64) hx hf U;omega
 | f+1,m,x,y,hf,hm,hx,hy,hxa,hya=>tgG s fr b A bs I no J (f+1) m (tgF s fr f) x y hx hf hy hm hxa hya λu U v W=>by obtain⟨i,hi,X,Z⟩:=zbY (seen:=[]) (f:=64) hx hf U;obtain⟨j,ab,Y,aa⟩:=zbY (seen:=[]) (f:=64) hy hm W;exact tgC s fr b A bs I no J f j u v (by omega) (by omega) (X.mono (by omega)) Y Z aa
def rowB(g:ItD->ItD->yK->Bool×yK)(x:ItD):List ItD->yK->Bool×yK
 | [],S=>(true,S)
 | y::r,S=>if zhS x.x=zhS y.x then (match g y x S with|(true,S')=>rowB g x r S'|(false,S')=>(false,S'))else rowB g x r S
def zcI(g:ItD->ItD->yK->Bool×yK):List ItD->List ItD->yK->Bool×yK
 | _,[],S=>(true,S)
 | a,x::r,S=>match rowB g x a S with|(true,S')=>zcI g (a++[x]) r S'|(false,S')=>(false,S')
def zkx(h:List ItD->yK->Bool×yK):List ItD->yK->Bool×yK
 | [],S=>(true,S)
 | x::r,S=>match h x.sub S with|(true,S')=>zkx h r S'|(false,S')=>(false,S')
noncomputable def lsB(s:SchD)(fr:List (List UInt8×List ItD))(h:List ItD->yK->Bool×yK)(l:List ItD)(S:yK):Bool×yK :=match zcI (tgF s fr 64) [] (flF fr 64 l []).1 S with|(true,S')=>zkx h l S'|(false,S')=>(false,S')
noncomputable def lsF(s:SchD)(fr:List (List UInt8×List ItD)):Nat->List ItD->yK->Bool×yK
 | 0=>lsB s fr λ_ S=>(true,S)
 | n+1=>lsB s fr (lsF s fr n)
def zsK(s:SchD)(fr:List (List UInt8×List ItD))(b bf bs bp no:Nat)(h:List ItD->yK->Bool×yK)(l:List ItD):Prop :=∀S H,LkH s fr b bf bs bp no S H->zd Tryz.prog 83 [.ptr b 0,.sl .no 10 (yx l)] H (λe H'=>match e with|.ret v=>v=.bool (h l S).1/\LkH s fr b bf bs bp no (h l S).2 H'/\LkK bs bp H H'|.pan _=>False)
def lsG(s:SchD)(fr:List (List UInt8×List ItD))(b U bs I no:Nat)(dc:zJ s<=Lim)(n:Nat)(h:List ItD->yK->Bool×yK)(l:List ItD)(a7:Ex fr n l)(bg:n<=64)(dd:∀x∈l,zsK s fr b U bs I no h x.sub):zsK s fr b U bs I no (lsB s fr h) l:=by
 intro S H bd;have cm:∀x∈(flF fr 64 l []).1,∀y∈(flF fr 64 l []).1,zhG s fr b U bs I no 167 (tgF s fr 64) x y:=λx hx1 y di=>by obtain⟨i,hi,a9,bz⟩:=zbY a7 bg hx1;obtain⟨j,dv,ba,cx⟩:=zbY a7 bg di;exact tgC s fr b U bs I no dc 64 j x y (Al4 _) (by omega) (a9.mono (by omega)) ba bz cx
 have c4:=zhY (seen:=[]) a7 bg;have dx:l.length<=n:=by
  have h:∀(l:List ItD) n,Ex fr n l->l.length<=n:=by
   intro l;induction l with
   | nil=>intro n _;simp
   | cons x r dk =>
    intro n h;cases h with
    | cons cl a9 ba bz du=>have:=dk _ bz;simp only[Al2];omega
  exact h l n a7
 have am:lsB s fr h l S=match zcI (tgF s fr 64) [] (flF fr 64 l []).1 S with|(true,A)=>zkx h l A|(false,A)=>(false,A):=rfl
 obtain⟨ag,ah,sm⟩:=s;have ci:=λH bm c5 c6 av X=>zwU fr b U (.sl .no 6 (cEs ag)) (.str ah) (.str sm) (.int .i64 no) (.mp bs) (.mp I) n l [] H bm 64 a7 bg (by omega) c5 c6 av X;generalize dr:lsB ⟨ag,ah,sm⟩ fr h l S=F at *
 generalize flF fr 64 l []=cw at *
 obtain⟨all,d1⟩:=cw;simp only at cm c4 am ci;generalize tgF ⟨ag,ah,sm⟩ fr 64=g at *
 have bh:=YI all;have b8:=YI l;generalize c2:zcI g [] all S=cq at *
 have fin:∀r A H',F=(r,A)->LkH ⟨ag,ah,sm⟩ fr b U bs I no A H'->LkK bs I H H'->(AV.bool r=.bool F.1/\LkH ⟨ag,ah,sm⟩ fr b U bs I no F.2 H'/\LkK bs I H H'):=λr A H' e a9 ba=>by rw[e];exact⟨rfl,a9,ba⟩
 refine zd.goO ir83.1 ir83.2 (Al4 _) λKP Q b3 dt=>?_;simp(disch:=omega) only[ir83,go_sem];refine zc λbm av=>?_;have b4:=ZA (x:=.map (.one .s) (cSn [])) av;have dl:U≠bm:=λe=>by subst e;rw[bd.frs]at av;cases av
 simp(disch:=omega) only[go_sem];refine zi (XP:=λ_ _=>False) (ci _ bm (b4 _ _ bd.look) (b4 _ _ bd.frs) (upd_same ..) dl) (λv H1 ⟨dz,cu,c9⟩=>?_) (λ_ _ h=>h.elim);subst cu;have ck:∀c x,H c=some x->H1 c=some x:=λc x a4=>c9.kept c x (b4 c x a4) λe=>by subst e;rw[av]at a4;cases a4
 have cy:=bd.keep ck;simp(disch:=omega) only[bh,go_sem];refine zf all 18 (λ_:yK=>[]) (λdone rest A H'=>zcI g done rest A=cq/\LkH ⟨ag,ah,sm⟩ fr b U bs I no A H'/\LkK bs I H H') S (by simp(disch:=omega) only[go_sem]) ⟨c2,cy,λc x a4 _ _=>ck c x a4⟩ ?_ ?_
 ·rintro a8 co cp ⟨W,ay,b1⟩ b7;simp only[zcI]at W;rw[<-W]at am;simp only at am;simp(disch:=omega) only[bh,b7,b8,go_sem];refine zf l 47 (λ_:yK=>[]) (λdone rest A H'=>zkx h rest A=F/\LkH ⟨ag,ah,sm⟩ fr b U bs I no A H'/\LkK bs I H H') a8 (by simp(disch:=omega) only[go_sem]) ⟨am.symm,ay,b1⟩ ?_ ?_
  ·rintro bu br bt ⟨af,az,a2⟩ ao;simp only[zkx]at af;simp(disch:=omega) only[b8,ao,go_sem];exact b3 _ _ br br [.bool true] nofun rfl (Low.refl _) (fin _ _ _ af.symm az a2)
  ·rintro done x rest bu br bt an ao _ ⟨af,az,a2⟩ be;have a6:=zcG an;have cn:=dd x (by rw[an];simp);simp only[zkx]at af;generalize bc:h x.sub bu=G at *
   obtain⟨ai,ab,Y,ac,Z,aa,ad,ae,ak,aj,rfl⟩:=zer x;simp only[ItD.sub]at cn bc;rw[ZG]at a6;simp(disch:=omega) only[b8,ao,a6,go_sem];refine zc λdn cg=>?_;have a0:=az.keep (ZA (x:=.cells [.int .i64 ai,.int .i64 ab,.str Y,.str ac,.sl .no 6 (cMs Z),.sl .no 2 (cDs aa),.str ad,.sl .no 7 (cSs ae),.str ak,.sl .no 10 (yx aj)]) cg);have aq:=a2.upd (x:=.cells [.int .i64 ai,.int .i64 ab,.str Y,.str ac,.sl .no 6 (cMs Z),.sl .no 2 (cDs aa),.str ad,.sl .no 7 (cSs ae),.str ak,.sl .no 10 (yx aj)]) cg;have a5:=cn bu _ a0;rw[bc]at a5;obtain⟨bx,bw⟩:=G;simp(disch:=omega) only[go_sem];refine zi (XP:=λ_ _=>False) a5 (λv al ⟨bv,a1,ar⟩=>?_) (λ_ _ h=>h.elim);subst bv;cases bx with
   | true =>simp only at af;simp(disch:=omega) only[go_sem];exact goJ (be bw al ⟨af,a1,aq.trans ar⟩) (by simp(disch:=omega) only[wrap64,go_sem])
   | false =>simp only at af;simp(disch:=omega) only[go_sem];exact b3 _ _ al al [.bool false] nofun rfl (Low.refl _) (fin _ _ _ af.symm a1 (aq.trans ar))
 ·rintro done x rest a8 co cp an b7 dy ⟨W,ay,b1⟩ cz;have cj:=zcG an;have dg:x∈all:=by rw[an];simp
  have de:(yx all).take done.length=yx done:=by rw[an];simp[zbE]
  have cl:(done.length:Int)<=all.length:=by omega
  have b9:=YI done;simp only[zcI]at W;have b5:=zvm x.x;have c7:=λy dh=>cm y dh x dg;generalize c3:rowB g x done a8=R at *
  obtain⟨ai,ab,Y,ac,Z,aa,ad,ae,ak,aj,rfl⟩:=zer x;simp only[ItD.x]at b5;rw[ZG]at cj;rw[y9]at b5;simp(disch:=omega) only[bh,b7,cj,go_sem];refine zc λax au=>?_;have az:=ay.keep (ZA (x:=.cells [.int .i64 ai,.int .i64 ab,.str Y,.str ac,.sl .no 6 (cMs Z),.sl .no 2 (cDs aa),.str ad,.sl .no 7 (cSs ae),.str ak,.sl .no 10 (yx aj)]) au);have a2:=b1.upd (x:=.cells [.int .i64 ai,.int .i64 ab,.str Y,.str ac,.sl .no 6 (cMs Z),.sl .no 2 (cDs aa),.str ad,.sl .no 7 (cSs ae),.str ak,.sl .no 10 (yx aj)]) au;have dm:ax≠bs:=λe=>by subst e;rw[ay.sh]at au;cases au
  have np:ax≠I:=λe=>by subst e;rw[ay.pr]at au;cases au
  simp(disch:=omega) only[bh,cl,de,b9,go_sem];refine zf done 27 (λ_:yK=>[]) (λdone rest A H'=>rowB g (.mk ai (.mk ab Y ac Z aa ad ae) ak aj) rest A=R/\LkH ⟨ag,ah,sm⟩ fr b U bs I no A H'/\LkK bs I H H'/\H' ax=some (.cells [.int .i64 ai,.int .i64 ab,.str Y,.str ac,.sl .no 6 (cMs Z),.sl .no 2 (cDs aa),.str ad,.sl .no 7 (cSs ae),.str ak,.sl .no 10 (yx aj)])) a8 (by simp(disch:=omega) only[go_sem]) ⟨c3,az,a2,upd_same ..⟩ ?_ ?_
  ·rintro aw cd bt ⟨J,a0,aq,_⟩ ao;simp only[rowB]at J;rw[<-J]at W;simp only at W;simp(disch:=omega) only[b9,ao,go_sem];exact goJ (cz aw cd ⟨W,a0,aq⟩) (by simp(disch:=omega) only[wrap64,go_sem])
  ·rintro dq y d0 aw cd bt ch ao _ ⟨J,a0,aq,ap⟩ be;have a6:=zcG ch;have dj:y∈all:=by rw[an,ch];simp
   have c8:=c7 y dj;have b6:=zvm y.x;simp only[rowB]at J;generalize bc:g y (.mk ai (.mk ab Y ac Z aa ad ae) ak aj) aw=G at *
   obtain⟨ca,bn,bj,bo,bk,bl,bp,bq,cc,cb,rfl⟩:=zer y;simp only[ItD.x]at b6 J;rw[ZG]at a6;rw[y9]at b6;simp(disch:=omega) only[b9,ao,a6,go_sem];refine zc λcr a3=>?_;have X:ax≠cr:=λe=>by subst e;rw[ap]at a3;cases a3
   have cf:=a0.keep (ZA (x:=.cells [.int .i64 ca,.int .i64 bn,.str bj,.str bo,.sl .no 6 (cMs bk),.sl .no 2 (cDs bl),.str bp,.sl .no 7 (cSs bq),.str cc,.sl .no 10 (yx cb)]) a3);have b2:=aq.upd (x:=.cells [.int .i64 ca,.int .i64 bn,.str bj,.str bo,.sl .no 6 (cMs bk),.sl .no 2 (cDs bl),.str bp,.sl .no 7 (cSs bq),.str cc,.sl .no 10 (yx cb)]) a3;have ce:=ZA (x:=.cells [.int .i64 ca,.int .i64 bn,.str bj,.str bo,.sl .no 6 (cMs bk),.sl .no 2 (cDs bl),.str bp,.sl .no 7 (cSs bq),.str cc,.sl .no 10 (yx cb)]) a3 _ _ ap;simp(disch:=omega) only[ap,X,Ne.symm X,go_sem];refine za b5 ?_;simp(disch:=omega) only[ap,X,Ne.symm X,go_sem];refine za b6 ?_;by_cases bf:zhS (.mk ab Y ac Z aa ad ae)=zhS (.mk bn bj bo bk bl bp bq)
   case neg =>simp only[bf,if_false]at J;simp(disch:=omega) only[ap,X,Ne.symm X,bf,go_sem];exact goJ (be aw _ ⟨J,cf,b2,ce⟩) (by simp(disch:=omega) only[wrap64,go_sem])
   simp only[bf,if_true]at J;have da:=eq_true bf;have a5:=c8 aw _ cf;rw[ZG,ZG,bc]at a5;obtain⟨bx,bw⟩:=G;simp(disch:=omega) only[ap,X,Ne.symm X,da,go_sem];refine zi (XP:=λ_ _=>False) a5 (λv al ⟨bv,a1,ar⟩=>?_) (λ_ _ h=>h.elim);subst bv;have ct:=ar ax _ ce dm np;cases bx with
   | true =>simp only at J;simp(disch:=omega) only[go_sem];exact goJ (be bw al ⟨J,a1,b2.trans ar,ct⟩) (by simp(disch:=omega) only[wrap64,go_sem])
   | false =>simp only at J;rw[<-J]at W;simp only at W;rw[<-W]at am;simp only at am;simp(disch:=omega) only[go_sem];exact b3 _ _ al al [.bool false] nofun rfl (Low.refl _) (fin _ _ _ am a1 (b2.trans ar))
def lsC(s:SchD)(fr:List (List UInt8×List ItD))(b A bs I no:Nat)(U:zJ s<=Lim):∀(f:Nat) (l:List ItD),f<=64->Ex fr f l->zsK s fr b A bs I no (lsF s fr f) l
 | 0,l,hf,hx=>lsG s fr b A bs I no U 0 _ l hx hf λx J=>by rw[hx.zero]at J;cases J
 | f+1,l,hf,hx=>lsG s fr b A bs I no U (f+1) (lsF s fr f) l hx hf λx J=>lsC s fr b A bs I no U f x.sub (by omega) (hx.sub J)
def zd.lowH{P:Program}{f:FuncId}{args:List AV}{J B:zb}{Q:AEnd->zb->Prop}(A:Low B J)(h:zd P f args B Q):zd P f args J Q:=λγ w vs W U X =>(h γ w vs W (A.st γ w U) X).mono λ_ _ ⟨γ',H',r,a,b,c,d,e⟩=>⟨γ',H',r,a.weaken λx I=>A.keys x I,b,λx I=>(c x I).imp (A.keys x) id,d,e⟩
def zas(es:List (AV×AV)):List (AV×AV):=es.map λx=>(x.1,x.2.strip1)
def Low.map{U:zb}{b:Nat}{W:KT}{es:List (AV×AV)}(X:U b=some (.map W es)):Low (U.upd b (.map W (zas es))) U:=by
 refine⟨λc I=>?_,λγ w Y c o I=>?_⟩
 ·by_cases e:c=b
  ·subst e;rw[X];rfl
  ·simpa[zb.upd,e]using I
 ·by_cases e:c=b
  ·subst e;simp only[zb.upd,if_true,Al1]at I;subst I;cases Y c _ X with
   | map _ _ cs clock ab ac Z ad hr =>
    refine .map W (zas es) cs clock (λx A=>?_) ac Z (by simpa[zas]using ad) (λi x e A aa=>?_)
    ·obtain⟨y,J,rfl⟩:=List.mem_map.1 A;exact ab y J
    ·simp only[zas,Yg]at A;cases J:es[i]? with
     | none=>simp[J]at A
     | some y =>simp only[J,ZS,Al1]at A;subst A;have:=hr i y e J aa;exact⟨this.key,this.val.strip1⟩
  ·exact Y c o (by simpa[zb.upd,e]using I)
def zi3(k:AV):∀A:List (AV×AV),zaZ (zas A) k=(zaZ A k).map AV.strip1
 | []=>rfl
 | (a,u)::r=>by have:=zi3 k r;simp only[zas]at this;simp only[zas,List.map_cons,zaZ,this];split<;>rfl
def ziV(k v:AV):∀A:List (AV×AV),zas (zbW A k v)=zbW (zas A) k v.strip1
 | []=>rfl
 | (a,u)::r=>by
  have:=ziV k v r;simp only[zas]at this;simp only[zas,List.map_cons,zbW];split
  ·rfl
  ·simp only[List.map_cons,this]
def zms(n:List UInt8)(v:AV):∀A:List (AV×AV),zaZ (zbW A (.str n) v) (.str n)=some v
 | []=>by simp[zbW,zaZ,zo3]
 | (a,u)::r=>by
  have:=zms n v r;simp only[zbW];split
  ·simp[zaZ,zo3]
  ·rename_i h;simp only[zaZ,h,this];simp
def Zx(fr:List (List UInt8×List ItD))(n:List UInt8):Option (List UInt8×List ItD):=fr.find? λe=>decide (n=e.1)
def zmo(n:List UInt8):∀fr:List (List UInt8×List ItD),zaZ (cFr fr) (.str n)=(Zx fr n).map λe=>.sl .no 10 (yx e.2)
 | []=>rfl
 | (a,u)::r=>by
  have:=zmo n r;simp only[cFr,Zx]at this;simp only[cFr,Zx,List.map_cons,zaZ,zo3,List.find?_cons];by_cases h:n=a
  ·simp[h]
  ·simpa[h]using this
def zqv(n:List UInt8)(it:List ItD):∀fr:List (List UInt8×List ItD),Zx fr n=none->zbW (cFr fr) (.str n) (.sl .no 10 (yx it))=cFr (fr++[(n,it)])
 | [],_=>rfl
 | (a,u)::r,h=>by
  simp only[Zx,List.find?_cons]at h;by_cases e:n=a
  ·simp[e]at h
  ·have:=zqv n it r (by simpa[e,Zx]using h);simp only[cFr]at this;simp only[cFr,List.map_cons,zbW,zo3,e,decide_false,Al7,if_false,this,Al6]
def cIL(l:List (List ItD)):List (List AV):=l.map λx=>[.sl .no 10 (yx x)]
def zlz(l:List (List ItD)):(cIL l).length=l.length:=by simp[cIL]
def zuZ{l a:List (List ItD)}{x:List ItD}{b:List (List ItD)}(h:l=a++x::b):(cIL l).getD a.length []=[.sl .no 10 (yx x)]:=yz h
abbrev RSt:=List (List UInt8×List ItD)×List (List ItD)×Nat
def rFr(s:SchD)(st:RSt)(f:FragD):RSt:=match Zx st.1 f.nm with
 | some _=>st
 | none=>(st.1++[(f.nm,(Zv s f.sels f.on st.2.2).1)],st.2.1++[(Zv s f.sels f.on st.2.2).1],(Zv s f.sels f.on st.2.2).2)
def rOp(s:SchD)(st:RSt)(o:OpD):RSt:=(st.1,st.2.1++[(Zv s o.sels (YT s o) st.2.2).1],(Zv s o.sels (YT s o) st.2.2).2)
def zhW(s:SchD)(d:DocD):RSt:=d.ops.foldl (rOp s) (d.frags.foldl (rFr s) ([],[],0))
def ziG(h:List ItD->yK->Bool×yK):List (List ItD)->yK->Bool×yK
 | [],S=>(true,S)
 | x::r,S=>match h x S with|(true,S')=>ziG h r S'|(false,S')=>(false,S')
noncomputable def mgM(s:SchD)(d:DocD):Bool:=!zfB d&&(ziG (lsF s (zhW s d).1 64) (zhW s d).2.1 ([],[])).1
noncomputable def ze5(s:SchD)(d:DocD)(n:Int):Bool:=decide (n=24)&&mgM s d
def zuj(fr:List (List UInt8×List ItD))(n:List UInt8):frL fr n=((Zx fr n).map (·.2)).getD []:=rfl
def zod(fr:List (List UInt8×List ItD))(a:List UInt8)(it:List ItD)(n:List UInt8):Zx (fr++[(a,it)]) n=(Zx fr n).or (if n=a then some (a,it)else none):=by
 simp only[Zx,List.find?_append]
 congr 1
 by_cases h:n=a<;>simp[h]
def zun(s:SchD):∀(J done:List FragD) (st:RSt),(∀n,∃typ no,(Zx st.1 n).map (·.2)=((done.find? (zeH n)).map λf=>(Zv s f.sels typ no).1))->∀n,∃typ no,(Zx (J.foldl (rFr s) st).1 n).map (·.2)=(((done++J).find? (zeH n)).map λf=>(Zv s f.sels typ no).1)
 | [],done,st,h=>by simpa using h
 | f::J,done,st,h=>by
  have Y:=zun s J (done++[f]) (rFr s st f) (λn=>by
   obtain⟨typ,no,e⟩:=h n;cases W:Zx st.1 f.nm with
   | some x =>
    have X:rFr s st f=st:=by unfold rFr;rw[W]
    rw[X,List.find?_append];refine⟨typ,no,?_⟩;rw[e];cases U:done.find? (zeH n)with
    | some y=>simp
    | none =>
     by_cases A:f.nm=n
     ·rw[A]at W;rw[W,U]at e;simp at e
     ·simp[zeH,A]
   | none =>
    have X:(rFr s st f).1=st.1++[(f.nm,(Zv s f.sels f.on st.2.2).1)]:=by unfold rFr;rw[W]
    rw[X,zod,List.find?_append];cases U:done.find? (zeH n)with
    | some y =>
     refine⟨typ,no,?_⟩;rw[U]at e;cases I:Zx st.1 n with
     | none=>rw[I]at e;simp at e
     | some z=>rw[I]at e;simpa using e
    | none =>
     rw[U]at e;have I:Zx st.1 n=none:=by
      cases I:Zx st.1 n with
      | none=>rfl
      | some z=>rw[I]at e;simp at e
     refine⟨f.on,st.2.2,?_⟩;rw[I];by_cases A:f.nm=n
     ·subst A;simp[zeH]
     ·have:¬ n=f.nm:=λe=>A e.symm;simp[zeH,A,this])
  intro n;obtain⟨typ,no,e⟩:=Y n;exact⟨typ,no,by rw[List.foldl_cons,e];simp⟩
def zsL(s:SchD):∀(os:List OpD) (st:RSt),(os.foldl (rOp s) st).1=st.1
 | [],st=>rfl
 | o::os,st=>by rw[List.foldl_cons,zsL s os];rfl
def zvR(s:SchD)(d:DocD)(n:List UInt8):∃typ no,frL (zhW s d).1 n=(Zv s (frS d n) typ no).1:=by
 obtain⟨typ,no,e⟩:=zun s d.frags [] ([],[],0) (λn=>⟨[],0,rfl⟩) n;refine⟨typ,no,?_⟩;rw[zuj,zhW,zsL,e,Z6,frS,yt];cases d.frags.find? (zeH n)with
 | none=>simp[zFr,Zv]
 | some f=>simp
def zsE(s:SchD):∀(A:List FragD) (st:RSt),∀l∈(A.foldl (rFr s) st).2.1,l∈st.2.1∨∃f∈A,∃typ no,l=(Zv s f.sels typ no).1
 | [],st,l,h=>.inl h
 | f::A,st,l,h=>by
  rcases zsE s A (rFr s st f) l h with I|⟨g,U,typ,no,e⟩
  ·unfold rFr at I;split at I
   ·exact .inl I
   ·rcases List.mem_append.1 I with J|J
    ·exact .inl J
    ·simp only[List.mem_singleton]at J;exact .inr ⟨f,zaW ..,_,_,J⟩
  ·exact .inr ⟨g,zbR _ U,typ,no,e⟩
def zsg(s:SchD):∀(os:List OpD) (st:RSt),∀l∈(os.foldl (rOp s) st).2.1,l∈st.2.1∨∃o∈os,∃typ no,l=(Zv s o.sels typ no).1
 | [],st,l,h=>.inl h
 | o::os,st,l,h=>by
  rcases zsg s os (rOp s st o) l h with I|⟨g,J,typ,no,e⟩
  ·rcases List.mem_append.1 I with A|A
   ·exact .inl A
   ·simp only[List.mem_singleton]at A;exact .inr ⟨o,zaW ..,_,_,A⟩
  ·exact .inr ⟨g,zbR _ J,typ,no,e⟩
def zkJ{d:DocD}{x:List SelD}(h:x∈yX d):bSs x<=zw d:=by have:=zfp h;omega
def zuJ{s:SchD}{d:DocD}(X:∀x∈yX d,Sz d 40 x)(W:zw d<=Lim):∀l∈(zhW s d).2.1,Ex (zhW s d).1 64 l:=λl h=>by
 have hex:∀x∈yX d,∀typ no,Ex (zhW s d).1 64 (Zv s x typ no).1:=λx U typ no =>
  (zBM (s:=s) (zvR s d) (λn=>by
   cases A:yt d n with
   | none=>simp[frS,A,zFr,bSs]
   | some f =>have Y:f∈d.frags:=List.mem_of_find?_eq_some A;have I:=zaI f;have J:=zcj Y;simp only[frS,A,Option.getD_some,zw]at W ⊢;omega) (X x U) (by have:=zkJ U;omega) typ no).mono (by omega)
 rcases zsg s d.ops _ l h with I|⟨o,ho,typ,no,rfl⟩
 ·rcases zsE s d.frags _ l I with J|⟨f,A,typ,no,rfl⟩
  ·cases J
  ·exact hex _ (by simp only[yX,List.mem_append,List.mem_map];exact .inr ⟨f,A,rfl⟩) typ no
 ·exact hex _ (by simp only[yX,List.mem_append,List.mem_map];exact .inl ⟨o,ho,rfl⟩) typ no
def zxP(s:SchD)(st:RSt)(f:FragD):(rFr s st f).2.2<=st.2.2+bF f/\(rFr s st f).2.1.length<=st.2.1.length+1:=by
 unfold rFr;split
 ·exact⟨by omega,by omega⟩
 ·have:=ze9 s f.sels f.on st.2.2;have:=zaI f;exact⟨by simp only;omega,by simp⟩
def zzj(s:SchD)(st:RSt)(o:OpD):(rOp s st o).2.2<=st.2.2+bO o/\(rOp s st o).2.1.length<=st.2.1.length+1:=by have:=ze9 s o.sels (YT s o) st.2.2;exact⟨by simp only[rOp,bO];omega,by simp[rOp]⟩
structure MkH (s:SchD) (b bf bs bp:Nat) (st:RSt) (o:Own) (H:zb):Prop where
 look:H b=some (.cells (zm s++[.int .i64 st.2.2,.mp bf,.mp bs,.mp bp]))
 frs:∃es,H bf=some (.map (.one .s) es)/\zas es=cFr st.1
 sh:H bs=some (.map kPr [])
 pr:H bp=some (.map kPr [])
 ne:bs≠bp
 own:zA H o st.2.1.length 1
def MkH.keep{s:SchD}{b I bs J:Nat}{st:RSt}{o:Own}{H H':zb}(h:MkH s b I bs J st o H)(A:∀c x,H c=some x->H' c=some x):MkH s b I bs J st o H':=by obtain⟨U,W,X⟩:=h.frs;exact⟨A _ _ h.look,⟨U,A _ _ W,X⟩,A _ _ h.sh,A _ _ h.pr,h.ne,zeM h.own λc k z Y=>A _ _ Y⟩
def MkH.items{s:SchD}{b I bs J no' n:Nat}{st:RSt}{o o2:Own}{H H':zb}(h:MkH s b I bs J st o H)(A:ItK H b (zm s) no' [.mp I,.mp bs,.mp J] H' o2 n):MkH s b I bs J (st.1,st.2.1,no') o H':=by
 obtain⟨X,U,Y⟩:=h.frs;have Z:I≠b:=λe=>by have:=h.look;rw[<-e,U]at this;cases this
 have aa:bs≠b:=λe=>by have:=h.look;rw[<-e,h.sh]at this;cases this
 have ab:J≠b:=λe=>by have:=h.look;rw[<-e,h.pr]at this;cases this
 refine⟨A.look,⟨X,A.kept _ _ U Z,Y⟩,A.kept _ _ h.sh aa,A.kept _ _ h.pr ab,h.ne,zeM h.own λc k z W=>A.kept _ _ W λe=>?_⟩;have:=h.look;rw[<-e,W]at this;cases this
def MkH.app{s:SchD}{b U bs W Z:Nat}{st:RSt}{o o2:Own}{ls:List (List ItD)}{H H':zb}(h:MkH s b U bs W st o H)(h':OwnS H o H' o2 Z 1)(ab:Z=ls.length):MkH s b U bs W (st.1,ls,st.2.2) o2 H':=by
 subst ab;obtain⟨A,X,I⟩:=h.frs;have J:∀c Y A,H c=some (.map Y A)->∀d,o≠.tip c d:=λc Y A aa d e=>by have:=h.own;subst e;have I:H c=some (.tip (d+st.2.1.length) 1):=this;rw[aa]at I;cases I
 exact⟨h'.kept _ _ h.look (zhh h.own h.look),⟨A,h'.kept _ _ X (J _ _ _ X),I⟩,h'.kept _ _ h.sh (J _ _ _ h.sh),h'.kept _ _ h.pr (J _ _ _ h.pr),h.ne,h'.own⟩
def MkH.put{s:SchD}{b A bs J:Nat}{st:RSt}{o:Own}{H:zb}{es:List (AV×AV)}{n:List UInt8}{it:List ItD}{o2:Own}(h:MkH s b A bs J st o H)(I:H A=some (.map (.one .s) es))(W:zas es=cFr st.1)(X:Zx st.1 n=none):
  MkH s b A bs J (st.1++[(n,it)],st.2.1,st.2.2) o (H.upd A (.map (.one .s) (zbW es (.str n) (.sl o2 10 (yx it))))):=by
 have Y:b≠A:=λe=>by have:=h.look;rw[e,I]at this;cases this
 have Z:bs≠A:=λe=>by have:=h.sh;rw[e,I]at this;cases this
 have aa:J≠A:=λe=>by have:=h.pr;rw[e,I]at this;cases this
 refine⟨by simp only[zb.upd,Y,if_false];exact h.look,⟨_,upd_same ..,?_⟩,by simp only[zb.upd,Z,if_false];exact h.sh,by simp only[zb.upd,aa,if_false];exact h.pr,h.ne,zeM h.own λc k z U=>?_⟩
 ·rw[ziV,W];exact zqv n it st.1 X
 ·have:c≠A:=λe=>by subst e;rw[I]at U;cases U
  simp only[zb.upd,this,if_false];exact U
def MkH.low{s:SchD}{b A bs J:Nat}{st:RSt}{o:Own}{H:zb}(h:MkH s b A bs J st o H):∃B,Low B H/\LkH s st.1 b A bs J st.2.2 ([],[]) B:=by
 obtain⟨Z,I,U⟩:=h.frs;have W:b≠A:=λe=>by have:=h.look;rw[e,I]at this;cases this
 have X:bs≠A:=λe=>by have:=h.sh;rw[e,I]at this;cases this
 have Y:J≠A:=λe=>by have:=h.pr;rw[e,I]at this;cases this
 refine⟨_,Low.map I,⟨by simp only[zb.upd,W,if_false];exact h.look,by rw[upd_same,U],by simp only[zb.upd,X,if_false];exact h.sh,by simp only[zb.upd,Y,if_false];exact h.pr,h.ne⟩⟩
def mgC(s:SchD)(d:DocD)(n:Int)(ck:zJ s<=Lim)(au:y8 d<=Lim)(eh:zw d<=1073741824)(d2:∀x∈yX d,Sz d 40 x):ze Tryz.prog 35 [.agg (zm s),.agg (zU d),.int .i64 n] (.bool (ze5 s d n)):=by
 have cg:=zsx d au;have hex:=zuJ (s:=s) d2 (by simp only[Lim];omega);have ch:=λb A bs I no l h=>lsC s (zhW s d).1 b A bs I no ck 64 l (Al4 _) (hex l h);have hit:=λb A bs I l typ no H (dh:no+bSs l<=1073741824) di=>zyJ s ck b (.mp A) (.mp bs) (.mp I) (bSs l) l typ no H (Al4 _) dh di;have ci:=λo=>zuw s o;have ei:bOs d.ops+bFs d.frags=zw d:=rfl;have bv:=YO d.frags;have bw:=Z9 d.ops;have ek:=yC d.frags;have el:=Zu d.ops;have Z:ze5 s d n=(decide (n=24)&&(!zfB d&&(ziG (lsF s (zhW s d).1 64) (zhW s d).2.1 ([],[])).1)):=rfl;generalize ze5 s d n=F at *
 generalize zfB d=ea at *
 have c8:zhW s d=d.ops.foldl (rOp s) (d.frags.foldl (rFr s) ([],[],0)):=rfl;have d6:=zxP s;have d7:=zzj s;have dz:zU d=[.sl .no 5 (cOs d.ops),.sl .no 4 (cFs d.frags)]:=rfl;have an:∃ec W bc,zm s=[ec,W,bc]:=⟨_,_,_,rfl⟩;have bn:∀s,KT.fits (.one .s) (.str s)=true:=λ_=>rfl;obtain⟨a9,ba,sm⟩:=s;generalize dv:(⟨a9,ba,sm⟩:SchD)=s at *
 have an:zm s=[.sl .no 6 (cEs a9),.str ba,.str sm]:=by rw[<-dv];rfl
 simp only[dz]at cg ⊢;simp only[an,Al6,Z6]at hit ci ⊢;have look:∀ {b A bs I st o H},MkH s b A bs I st o H->H b=some (.cells [.sl .no 6 (cEs a9),.str ba,.str sm,.int .i64 st.2.2,.mp A,.mp bs,.mp I]):=λh=>by have:=h.look;rwa [an]at this
 refine ze.go ir35.1 ir35.2 (Al4 _) λKP Q a4=>?_;by_cases a7:n=24
 case neg =>simp(disch:=omega) only[ir35,a7,go_sem];exact a4 _ _ _ _ nofun rfl (by simp[Z,a7])
 have d5:=eq_true a7;simp only[a7,decide_true,Bool.true_and]at Z;simp(disch:=omega) only[ir35,d5,go_sem];refine za cg ?_;cases ea with
 | true =>simp(disch:=omega) only[go_sem];exact a4 _ _ _ _ nofun rfl (by simp[Z])
 | false =>
 simp only[Bool.not_false,Bool.true_and]at Z;simp(disch:=omega) only[go_sem];refine zc λA ej=>?_;simp(disch:=omega) only[go_sem];refine zc λbs dx=>?_;simp(disch:=omega) only[go_sem];refine zc λI b9=>?_;simp(disch:=omega) only[go_sem];refine zc λb au=>?_;have ay:A≠bs:=λe=>by subst e;simp[zb.upd]at dx
 have a8:A≠I:=λe=>by subst e;simp[zb.upd,ay]at b9
 have az:bs≠I:=λe=>by subst e;simp[zb.upd]at b9
 have b1:A≠b:=λe=>by subst e;simp[zb.upd,ay,a8]at au
 have b2:bs≠b:=λe=>by subst e;simp[zb.upd,az]at au
 have b3:I≠b:=λe=>by subst e;simp[zb.upd]at au
 have dr:∀H0:zb,H0 b=some (.cells [.sl .no 6 (cEs a9),.str ba,.str sm,.int .i64 0,.mp A,.mp bs,.mp I])->H0 A=some (.map (.one .s) [])->H0 bs=some (.map kPr [])->H0 I=some (.map kPr [])->MkH s b A bs I ([],[],0) .nil H0:=λH0 c9 da dc dd=>⟨by rw[an];exact c9,⟨[],da,rfl⟩,dc,dd,az,rfl⟩;generalize dj:d.frags.foldl (rFr s) ([],[],0)=ct at *
 generalize eg:zhW s d=c4 at *
 simp(disch:=omega) only[bv,ay,a8,az,b1,b2,b3,Ne.symm ay,Ne.symm a8,Ne.symm az,Ne.symm b1,Ne.symm b2,Ne.symm b3,go_sem];refine zf d.frags 32 (λx:Own×RSt=>[(8,.sl x.1 1 (cIL x.2.2.1))]) (λdone rest x H'=>rest.foldl (rFr s) x.2=ct/\x.2.2.1.length<=done.length/\x.2.2.2<=bFs done/\MkH s b A bs I x.2 x.1 H') (.nil,([],[],0)) (by simp(disch:=omega) only[cIL,List.map,go_sem]) ⟨dj,by simp,by simp,dr _ (by simp[zb.upd]) (by simp[zb.upd,ay,a8,b1]) (by simp[zb.upd,az,b2]) (by simp[zb.upd,b3])⟩ ?_ ?_
 ·rintro⟨bx,fr,ls,no⟩ H1 cz ⟨af,a5,bo,ar⟩ br;simp only[List.foldl]at af;simp only at a5 bo;subst af;simp(disch:=omega) only[bv,br,bw,go_sem];refine zf d.ops 74 (λx:Own×RSt=>[(8,.sl x.1 1 (cIL x.2.2.1))]) (λdone rest x H'=>rest.foldl (rOp s) x.2=c4/\x.2.2.1.length<=d.frags.length+done.length/\x.2.2.2<=bFs d.frags+bOs done/\MkH s b A bs I x.2 x.1 H') (bx,(fr,ls,no)) (by simp(disch:=omega) only[go_sem]) ⟨c8.symm,by simpa using a5,by simp only;omega,ar⟩ ?_ ?_
  ·rintro⟨o2,aa,X,ac⟩ cu c2 ⟨ap,bp,bq,a3⟩ bt;simp only[List.foldl]at ap;simp only at bp bq;subst ap;obtain⟨B,d3,b7⟩:=a3.low;simp only at b7 Z ch;have U:=zlz X;generalize du:ziG (lsF s aa 64) X ([],[])=R at *
   simp(disch:=omega) only[bw,bt,U,go_sem];refine zf X 91 (λ_:yK=>[]) (λdone rest b5 H'=>ziG (lsF s aa 64) rest b5=R/\∃B,Low B H'/\LkH s aa b A bs I ac b5 B) ([],[]) (by simp(disch:=omega) only[go_sem]) ⟨du,B,d3,b7⟩ ?_ ?_
   ·rintro be cw c3 ⟨ag,_⟩ bu;simp only[ziG]at ag;rw[<-ag]at Z;simp(disch:=omega) only[U,bu,go_sem];exact a4 _ _ _ _ nofun rfl (by simp[Z])
   ·rintro ed bc em be cw c3 cc bu _ ⟨ag,cr,d4,dq⟩ dn;have d0:=zuZ cc;have dy:=zd.lowH d4 (ch b A bs I ac bc (by rw[cc];simp) be cr dq);simp only[ziG]at ag;generalize ee:lsF s aa 64 bc be=G at *
    obtain⟨dg,de⟩:=G;simp(disch:=omega) only[U,bu,d0,go_sem];refine zi (XP:=λ_ _=>False) dy (λv b4 ⟨c7,dk,ef⟩=>?_) (λ_ _ h=>h.elim);subst c7;cases dg with
    | true =>simp only at ag;simp(disch:=omega) only[go_sem];exact goJ (dn de b4 ⟨ag,b4,Low.refl _,dk⟩) (by simp(disch:=omega) only[wrap64,go_sem])
    | false =>simp only at ag;rw[<-ag]at Z;simp(disch:=omega) only[go_sem];exact a4 _ _ _ _ nofun rfl (by simp[Z])
  ·rintro a1 W eb ⟨o2,aa,X,ac⟩ cu c2 cb bt _ ⟨ap,bp,bq,a3⟩ dm;have ce:=YJ cb;have aw:=YW a1 W eb;rw[<-cb]at aw;have bk:bOs (a1++[W])=bOs a1+bO W:=by simp[bOs]
   rw[List.foldl_cons]at ap;simp only at bp bq;have cj:=ci W;have ab:=d7 (aa,X,ac) W;have ah:rOp s (aa,X,ac) W=(aa,X++[(Zv s W.sels (YT s W) ac).1],(Zv s W.sels (YT s W) ac).2):=rfl;rw[ah]at ap ab;simp only at ab;obtain⟨k,nm,vs,ds,ad⟩:=W;simp only[bO]at aw bk ab;generalize YT s ⟨k,nm,vs,ds,ad⟩=cq at *
   rw[zam]at ce cj;have cn:=look a3;have U:=zlz X;simp only at cn;have d8:=Zu a1;simp(disch:=omega) only[bw,bt,ce,go_sem];refine zc λc5 bj=>?_;have Y:b≠c5:=λe=>by subst e;rw[cn]at bj;cases bj
   have al:=a3.keep (ZA (x:=.cells [.int .i64 k,.str nm,.sl .no 10 (cWs vs),.sl .no 2 (cDs ds),.sl .no 7 (cSs ad)]) bj);have bh:=hit b A bs I ad cq ac _ (by omega) (look al);generalize dl:Zv s ad cq ac=J at *
   simp(disch:=omega) only[Y,Ne.symm Y,go_sem];refine za cj ?_;simp(disch:=omega) only[Y,Ne.symm Y,go_sem];refine zi (XP:=λ_ _=>False) bh (λv bd ⟨bz,bg,ax⟩=>?_) (λ_ _ h=>h.elim);subst bg;have ai:=al.items (by rw[an];exact ax);simp only at ai;simp(disch:=omega) only[go_sem];refine zj (by rw[U];exact ai.own) ?_ ?_ λo' cx cl=>?_
   ·simp only[U,Al2,Al3];omega
   ·simp only[U,Al2,Al3,maxLen];omega
   simp only[U,Al2,Al3,Nat.zero_add]at cl;have bf:cIL X++[[AV.sl .no 10 (yx J.1)]]=cIL (X++[J.1]):=by simp[cIL]
   have am:=ai.app (ls:=X++[J.1]) cl (by simp);simp(disch:=omega) only[wrap64,bf,go_sem];exact goJ (dm (o',(aa,X++[J.1],J.2)) cx ⟨ap,by simp;omega,by simp only;omega,am⟩) (by simp(disch:=omega) only[wrap64,go_sem])
 ·rintro done x rest ⟨bx,fr,ls,no⟩ H1 cz ca br _ ⟨af,a5,bo,ar⟩ b6;have cd:=zad ca;have aw:=zlI done x rest;rw[<-ca]at aw;have bk:bFs (done++[x])=bFs done+bF x:=by simp[bFs]
  rw[List.foldl_cons]at af;simp only at a5 bo;have ab:=d6 (fr,ls,no) x;obtain⟨a2,ae,bl⟩:=ar.frs;simp only at bl;have aj:(zaZ a2 (.str x.nm)).map AV.strip1=(Zx fr x.nm).map λe=>.sl .no 10 (yx e.2):=by rw[<-zi3,bl,zmo]
  have cf:=λv=>zms x.nm v a2;have ah:rFr s (fr,ls,no) x=match Zx fr x.nm with
   | some _=>(fr,ls,no)
   | none=>(fr++[(x.nm,(Zv s x.sels x.on no).1)],ls++[(Zv s x.sels x.on no).1],(Zv s x.sels x.on no).2):=rfl
  obtain⟨nm,on,ds,ad⟩:=x;simp only at aj ah cf;simp only[bF]at aw bk ab;rw[Yp]at cd;have aq:=look ar;have U:=zlz ls;simp only at aq;have d8:=yC done;simp(disch:=omega) only[bv,br,cd,go_sem];refine zc λa0 av=>?_;have Y:b≠a0:=λe=>by subst e;rw[aq]at av;cases av
  have ak:A≠a0:=λe=>by subst e;rw[ae]at av;cases av
  have al:=ar.keep (ZA (x:=.cells [.str nm,.str on,.sl .no 2 (cDs ds),.sl .no 7 (cSs ad)]) av);cases a6:zaZ a2 (.str nm)with
  | some w =>
   rw[a6]at aj;cases ao:Zx fr nm with
   | none=>rw[ao]at aj;simp at aj
   | some e =>rw[ao]at ah;rw[ah]at af ab;simp only at ab;simp(disch:=omega) only[Y,Ne.symm Y,ak,Ne.symm ak,aq,ae,a6,bn,YV,Option.getD_some,Option.isSome_some,go_sem];exact goJ (b6 (bx,(fr,ls,no)) _ ⟨af,by simp;omega,by simp only;omega,al⟩) (by simp(disch:=omega) only[wrap64,go_sem])
  | none =>
   rw[a6]at aj;cases ao:Zx fr nm with
   | some e=>rw[ao]at aj;simp at aj
   | none =>
    rw[ao]at ah;rw[ah]at af ab;simp only at ab;have bh:=hit b A bs I ad on no _ (by omega) (look al);generalize dl:Zv s ad on no=J at *
    simp(disch:=omega) only[Y,Ne.symm Y,ak,Ne.symm ak,aq,ae,a6,bn,YV,Option.getD_none,Option.isSome_none,go_sem];refine zi (XP:=λ_ _=>False) bh (λv bd ⟨bz,bg,ax⟩=>?_) (λ_ _ h=>h.elim);subst bg;have ai:=al.items (by rw[an];exact ax);simp only at ai;have c6:bd a0=some (.cells [.str nm,.str on,.sl .no 2 (cDs ds),.sl .no 7 (cSs ad)]):=ax.kept a0 _ (upd_same ..) (Ne.symm Y);have b8:bd A=some (.map (.one .s) a2):=ax.kept A _ (by simp only[zb.upd,ak,if_false];exact ae) (λe=>by rw[e,aq]at ae;cases ae);have co:=look ai;simp only at co;have cp:A≠b:=λe=>by rw[e,aq]at ae;cases ae
    have am:=ai.put (n:=nm) (it:=J.1) (o2:=bz) b8 bl ao;have d9:=look am;simp only at am d9;have d1:=cf (.sl bz 10 (yx J.1));simp(disch:=omega) only[c6,b8,co,cp,Ne.symm cp,Y,Ne.symm Y,ak,Ne.symm ak,bn,d1,YV,Option.getD_some,go_sem];refine zj (by rw[U];exact am.own) ?_ ?_ λo' cy cm=>?_
    ·simp only[U,Al2,Al3];omega
    ·simp only[U,Al2,Al3,maxLen];omega
    simp only[U,Al2,Al3,Nat.zero_add]at cm;have bf:cIL ls++[[AV.sl .no 10 (yx J.1)]]=cIL (ls++[J.1]):=by simp[cIL]
    have dt:=am.app (ls:=ls++[J.1]) cm (by simp);simp(disch:=omega) only[wrap64,bf,go_sem];exact goJ (b6 (o',(fr++[(nm,J.1)],ls++[J.1],J.2)) cy ⟨af,by simp;omega,by simp only;omega,dt⟩) (by simp(disch:=omega) only[wrap64,go_sem])
noncomputable def zcd(s:SchD)(d:DocD)(n:Int):Bool :=
 if n<9 then zdT s d n else if n<12 then zd4 s d n else if n<15 then zeb s d n else if n<18 then zeo s d n
 else if n<22 then zjf s d n else if n<24 then zgD s d n else ze5 s d n
structure ValH (s:SchD) (d:DocD):Prop where
 sw:zdu s
 dw:zcE d
 sb:zJ s<=1048576
 db:zw d<=67108864
 ln:lenD d<=3200
 sz:∀x∈yX d,Sz d 40 x
def zuP{s:SchD}{d:DocD}(A:zdu s)(I:zcE d)(J:zJ s<=1048576)(U:zw d<=1048576)(h:zcb s d=true):ValH s d:=by
 refine⟨A,I,J,by omega,?_,zo7 h⟩;simp only[zcb,zfS,Al0,z6]at h;have W:=zaF (f:=lO) (λx=>by simp only[lO];omega) d.ops;have X:=zaF (f:=lF) (λx=>by simp only[lF];omega) d.frags;simp only[lOs,lFs,lenD]at *
 omega
def zy2(s:SchD)(d:DocD)(n:Int)(h:ValH s d):ze Tryz.prog 13 [.agg (zm s),.agg (zU d),.int .i64 n] (.bool (zcd s d n)):=by
 have aw:=h.sb;have au:=h.db;have Y:zJ s<=Lim:=by simp only[Lim];omega
 have av:zJ s+1<=Lim:=by simp only[Lim];omega
 have ac:zw d<=Lim:=by simp only[Lim];omega
 have hr:y8 d<=Lim:=by simp only[y8,Lim];omega
 have ab:lenD d*zw d+zw d<=1099511627776:=by have:lenD d*zw d<=3200*67108864:=Nat.mul_le_mul h.ln au;omega
 have ad:=zys s d n Y hr ab;have ae:=zrS s d n av ac;have af:=zsV s d n Y ac;have ag:=zsw s d n Y ac;have ah:=zxk s d n Y hr ab;have ai:=zwe s d n Y hr ab;have aj:=mgC s d n Y hr (by omega) h.sz;have A:zcd s d n=if n<9 then zdT s d n else if n<12 then zd4 s d n else if n<15 then zeb s d n else if n<18 then zeo s d n else if n<22 then zjf s d n else if n<24 then zgD s d n else ze5 s d n:=rfl
 generalize zcd s d n=F at *
 generalize zdT s d n=ax at *
 generalize zd4 s d n=ay at *
 generalize zeb s d n=az at *
 generalize zeo s d n=a0 at *
 generalize zjf s d n=a1 at *
 generalize zgD s d n=a2 at *
 generalize ze5 s d n=a3 at *
 have aq:zU d=[.sl .no 5 (cOs d.ops),.sl .no 4 (cFs d.frags)]:=rfl;have ar:zm s=[.sl .no 6 (cEs s.defs),.str s.q,.str s.m]:=rfl;simp only[ar,aq]at ad ae af ag ah ai aj ⊢;refine ze.go ir13.1 ir13.2 (Al4 _) λKP Q W=>?_;by_cases I:n<9
 ·rw[if_pos I]at A;have ak:=eq_true I;simp(disch:=omega) only[ir13,ak,go_sem];refine za ad ?_;simp(disch:=omega) only[go_sem];exact W _ _ _ _ nofun rfl (by simp[A])
 rw[if_neg I]at A;by_cases J:n<12
 ·rw[if_pos J]at A;have al:=eq_true J;simp(disch:=omega) only[ir13,I,al,go_sem];refine za ae ?_;simp(disch:=omega) only[go_sem];exact W _ _ _ _ nofun rfl (by simp[A])
 rw[if_neg J]at A;by_cases U:n<15
 ·rw[if_pos U]at A;have am:=eq_true U;simp(disch:=omega) only[ir13,I,J,am,go_sem];refine za af ?_;simp(disch:=omega) only[go_sem];exact W _ _ _ _ nofun rfl (by simp[A])
 rw[if_neg U]at A;by_cases X:n<18
 ·rw[if_pos X]at A;have an:=eq_true X;simp(disch:=omega) only[ir13,I,J,U,an,go_sem];refine za ag ?_;simp(disch:=omega) only[go_sem];exact W _ _ _ _ nofun rfl (by simp[A])
 rw[if_neg X]at A;by_cases Z:n<22
 ·rw[if_pos Z]at A;have ao:=eq_true Z;simp(disch:=omega) only[ir13,I,J,U,X,ao,go_sem];refine za ah ?_;simp(disch:=omega) only[go_sem];exact W _ _ _ _ nofun rfl (by simp[A])
 rw[if_neg Z]at A;by_cases aa:n<24
 ·rw[if_pos aa]at A;have ap:=eq_true aa;simp(disch:=omega) only[ir13,I,J,U,X,Z,ap,go_sem];refine za ai ?_;simp(disch:=omega) only[go_sem];exact W _ _ _ _ nofun rfl (by simp[A])
 rw[if_neg aa]at A;simp(disch:=omega) only[ir13,I,J,U,X,Z,aa,go_sem];refine za aj ?_;simp(disch:=omega) only[go_sem];exact W _ _ _ _ nofun rfl (by simp[A])
noncomputable def zoZ(s:SchD)(d:DocD):Nat->Int->Int
 | 0,_=>0
 | k+1,n=>if zcd s d n=true then zoZ s d k (n+1)else n
noncomputable def zc6(s:SchD)(d:DocD):Int:=if zf8 s 9 1≠0∨ZB d=false then 25 else zoZ s d 24 1
def zlQ(s:SchD)(d:DocD)(h:ValH s d):ze Tryz.prog 8 [.agg (zm s),.agg (zU d)] (.int .i64 (zc6 s d)):=by
 have am:=h.sb;have al:=h.db;have X:=λn=>zy2 s d n h;have Z:=zvL s h.sw (by simp only[Lim];omega);have Y:=zvA d h.dw (by simp only[Lim];omega);have I:zc6 s d=if zf8 s 9 1≠0∨ZB d=false then 25 else zoZ s d 24 1:=rfl
 have aa:∀k n,zoZ s d (k+1) n=if zcd s d n=true then zoZ s d k (n+1)else n:=λ_ _=>rfl
 have ab:∀n,zoZ s d 0 n=0:=λ_=>rfl;generalize zc6 s d=F at *
 generalize zoZ s d=C at *
 generalize zcd s d=V at *
 generalize zf8 s 9 1=ai at *
 generalize ZB d=aj at *
 have ad:zU d=[.sl .no 5 (cOs d.ops),.sl .no 4 (cFs d.frags)]:=rfl;have ae:zm s=[.sl .no 6 (cEs s.defs),.str s.q,.str s.m]:=rfl;simp only[ae,ad]at X Z Y ⊢;refine ze.go ir8.1 ir8.2 (Al4 _) λKP Q U=>?_;simp(disch:=omega) only[ir8,go_sem];refine za Z ?_;by_cases J:ai=0
 case neg =>rw[if_pos (.inl J)]at I;simp(disch:=omega) only[J,go_sem];exact U _ _ _ _ nofun rfl (by simp[I])
 have ah:=eq_true J;simp(disch:=omega) only[ah,go_sem];refine za Y ?_;cases aj with
 | false =>rw[if_pos (.inr rfl)]at I;simp(disch:=omega) only[go_sem];exact U _ _ _ _ nofun rfl (by simp[I])
 | true =>
 rw[if_neg (by simp[J])]at I;simp(disch:=omega) only[go_sem];refine Ze (λx:Nat×Int=>[(5,.int .i64 0),(6,.int .i64 x.2)]) (λx _=>(x.1:Int)+x.2=25/\x.1<=24/\C x.1 x.2=F) (λx=>x.1) (24,1) (by simp(disch:=omega) only[go_sem]) ⟨by omega,by omega,I.symm⟩ ?_;rintro⟨k,n⟩ H ak ⟨af,ag,A⟩ ac;simp only at af ag A;cases k with
 | zero =>
  rw[ab]at A;subst A;have W:¬ (n<=24):=by omega
  simp(disch:=omega) only[W,go_sem];exact U _ _ _ _ nofun rfl (by simp )
 | succ k =>
  rw[aa]at A;have hr:=X n;have W:(n<=24)=True:=eq_true (by omega);generalize J:V n=x at *
  simp(disch:=omega) only[W,go_sem];refine za hr ?_;cases x with
  | true =>rw[if_pos rfl]at A;simp(disch:=omega) only[wrap64,go_sem];exact goJ (ac (k,n+1) _ (by simp only;omega) ⟨by simp only;omega,by simp only;omega,A⟩) (by simp(disch:=omega) only[wrap64,go_sem])
  | false =>rw[if_neg (by simp)]at A;subst A;simp(disch:=omega) only[go_sem];exact U _ _ _ _ nofun rfl (by simp )
def zwP(d:DocD)(n:List UInt8)(al:d.frags.length<=Lim):ze Tryz.prog 28 [.agg (zU d),.str n] (.tup [.agg (cF ((yt d n).getD zFr)),.bool (yt d n).isSome]):=by
 have W:=YO d.frags;simp only[Lim]at al;have ad:∀done rest,d.frags=done++rest->(∀f∈done,f.nm≠n)->yt d n=rest.find? (zeH n):=λdone rest e h=>by rw[yt,e,List.find?_append,List.find?_eq_none.2 (λf Y=>by simp[zeH,h f Y])];rfl
 have ak:zU d=[.sl .no 5 (cOs d.ops),.sl .no 4 (cFs d.frags)]:=rfl;rw[ak];generalize yt d n=F at *
 refine ze.go ir28.1 ir28.2 (Al4 _) λKP Q ae=>?_;simp(disch:=omega) only[ir28,go_sem];refine zc λah an=>?_;simp(disch:=omega) only[W,go_sem];refine zf d.frags 6 (λ_:Unit=>[]) (λdone rest _ H'=>(∀f∈done,f.nm≠n)/\H' ah=some (.cells [.str [],.str [],.sl .nil 2 [],.sl .nil 7 []])) () (by simp(disch:=omega) only[go_sem]) ⟨by simp,upd_same ..⟩ ?_ ?_
 ·rintro _ H1 ag ⟨J,A⟩ I;have e:=ad d.frags [] (by simp) J;simp only[List.find?_nil]at e;simp(disch:=omega) only[W,I,A,go_sem];refine ae _ _ _ [.agg [.str [],.str [],.sl .nil 2 [],.sl .nil 7 []],.bool false] nofun (by simp(disch:=omega) only[ir28,zo,z8,go_sem]) (by rw[e];rfl)
 ·rintro done x rest _ H1 ag af I _ ⟨J,A⟩ aj;have Z:=zad af;have e:=ad done (x::rest) af J;obtain⟨X,ab,aa,ac⟩:=x;rw[Yp]at Z;by_cases U:X=n
  ·have am:=eq_true U;have ai:F=some ⟨X,ab,aa,ac⟩:=by rw[e];simp[zeH,U]
   simp(disch:=omega) only[W,I,Z,am,A,go_sem];refine ae _ _ _ [.agg [.str X,.str ab,.sl .no 2 (cDs aa),.sl .no 7 (cSs ac)],.bool true] nofun (by simp(disch:=omega) only[ir28,zo,z8,go_sem]) (by rw[ai];rfl)
  ·simp(disch:=omega) only[W,I,Z,U,A,go_sem];exact goJ (aj () _ ⟨λf Y=>by
    rcases List.mem_append.1 Y with h|h
    ·exact J f h
    ·simp only[List.mem_singleton]at h;subst h;exact U,A⟩) (by simp(disch:=omega) only[wrap64,go_sem])
mutual
def zvK{d:DocD}{g:Nat->List SelD->Nat}{Z:Nat}(A:∀m n,g m (frS d n)<=m+Z):∀(x:SelD) (r:Nat),zis d g x r<=r+bS x+Z
 | .mk k al nm args dirs on sels,r=>by
  have I:=ziO A sels r 0;simp only[zis,bS];split
  ·rename_i U;have J:=A (r-(1+Zp d g sels r 0)) nm;omega
  ·omega
def ziO{d:DocD}{g:Nat->List SelD->Nat}{Z:Nat}(I:∀m n,g m (frS d n)<=m+Z):∀(l:List SelD) (A n:Nat),Zp d g l A n<=n∨Zp d g l A n<=A+bSs l+Z
 | [],A,n=>.inl (by simp[Zp])
 | x::xs,A,n=>by
  simp only[Zp,bSs];split
  ·have J:=zvK I x (A-n);rcases ziO I xs A (n+zis d g x (A-n))with h|h
   ·right;omega
   ·right;omega
  ·left;omega
end
def zoE{d:DocD}{D:Nat}(A:∀n,bSs (frS d n)<=D):∀(k m:Nat) (l:List SelD),few d k m l<=m+bSs l+1+k*D
 | 0,m,l=>by simp only[few];omega
 | k+1,m,l=>by have h:=ziO (d:=d) (g:=few d k) (Z:=1+D+k*D) (λm n=>by have I:=zoE A k m (frS d n);have J:=A n;omega) l m 0;simp only[few,Nat.add_mul,Nat.one_mul];omega
def zw8(d:DocD)(n:List UInt8):bSs (frS d n)<=zw d:=by
 cases A:yt d n with
 | none=>simp[frS,A,zFr,bSs]
 | some f =>have I:f∈d.frags:=List.mem_of_find?_eq_some A;have J:=zaI f;have U:=zcj I;simp only[frS,A,Option.getD_some,zw];omega
def zBg(d:DocD)(ap:zw d<=1048576):∀(k c:Nat) (l:List SelD) (A:Nat),bSs l<=c->c<=1048576->A<k->k<=41->ze Tryz.prog 11 [.agg (zU d),.sl .no 7 (cSs l),.int .i64 A] (.int .i64 (few d k A l)):=by
 have bv:=yC d.frags;have bj:bFs d.frags<=zw d:=by simp only[zw];omega
 have aq:=λn=>zwP d n (by simp only[Lim];omega);have al:=zw8 d;have a7:zU d=[.sl .no 5 (cOs d.ops),.sl .no 4 (cFs d.frags)]:=rfl;intro k;induction k with
 | zero=>intro c l A bk bl bn;omega
 | succ k ba =>
 intro c;induction c using Nat.strongRecOn with
 | _ c a9 =>
 intro l A br bu ag aw;have au:∀nm m,m<k->ze Tryz.prog 11 [.agg (zU d),.sl .no 7 (cSs (frS d nm)),.int .i64 m] (.int .i64 (few d k m (frS d nm))):=λnm m ag=>ba (zw d) (frS d nm) m (al nm) ap ag (by omega);have ay:∀sels,bSs sels<c->∀m,m<k+1->ze Tryz.prog 11 [.agg (zU d),.sl .no 7 (cSs sels),.int .i64 m] (.int .i64 (Zp d (few d k) sels m 0)):=λsels h m ag=>a9 (bSs sels) h sels m (Al4 _) (by omega) ag aw;have bz:=zoE al (k+1) A l;have av:=ziR d (few d k);have a0:few d (k+1) A l=Zp d (few d k) l A 0:=rfl;have a1:∀x xs n,Zp d (few d k) (x::xs) A n=if n<=A then Zp d (few d k) xs A (n+zis d (few d k) x (A-n))else n:=λx xs n=>by simp only[Zp]
 have a2:∀n,Zp d (few d k) [] A n=n:=λn=>by simp only[Zp]
 have a3:∀Z ah nm args dirs on sels r,zis d (few d k) (.mk Z ah nm args dirs on sels) r=if Z=1/\1+Zp d (few d k) sels r 0<=r then 1+Zp d (few d k) sels r 0+few d k (r-(1+Zp d (few d k) sels r 0)) (frS d nm)else 1+Zp d (few d k) sels r 0:=λZ ah nm args dirs on sels r=>by simp only[zis]
 have hmul:(k+1)*zw d<=41*1048576:=Nat.mul_le_mul aw ap;have X:=YK l;have bx:=Y9 l;generalize bp:few d (k+1) A l=F at *
 generalize bw:few d k=ac at *
 simp only[a7]at aq ay au ⊢;refine ze.go ir11.1 ir11.2 (Al4 _) λKP Q am=>?_;simp(disch:=omega) only[ir11,go_sem];refine zf l 8 (λn:Nat=>[(7,.int .i64 n)]) (λdone rest n _=>Zp d ac rest A n=F) 0 (by simp(disch:=omega) only[go_sem]) a0.symm ?_ ?_
 ·rintro n H az J U;rw[a2]at J;subst J;simp(disch:=omega) only[X,U,go_sem];exact am _ _ _ _ nofun rfl (by simp )
 ·rintro done x rest n H az ao U _ J ai;have Y:=zbo ao;have an:=zbk done x rest;rw[<-ao]at an;rw[a1]at J;obtain⟨Z,ah,nm,args,dirs,on,sels⟩:=x;rw[a3]at J;simp only[bS]at an;rw[y9]at Y;by_cases ax:n<=A
  case neg =>
   rw[if_neg ax]at J;subst J;have W:¬ ((n:Int)<=A):=by omega
   simp(disch:=omega) only[X,U,W,go_sem];exact am _ _ _ _ nofun rfl (by simp )
  rw[if_pos ax]at J;have W:((n:Int)<=A)=True:=eq_true (by omega);have af:=ay sels (by omega) (A-n) (by omega);have a4:((A-n:Nat):Int)=A-n:=by omega
  rw[a4]at af;generalize bo:Zp d ac sels (A-n) 0=I at *
  by_cases ad:Z=1/\1+I<=A-n
  ·rw[if_pos ad]at J;have aj:=av rest A (n+(1+I+ac (A-n-(1+I)) (frS d nm)));rw[J]at aj;have ab:=eq_true ad.1;have ak:((n:Int)+1+I<=A)=True:=eq_true (by omega);have ar:=aq nm;have ae:=au nm (A-n-(1+I)) (by omega);have a5:((A-n-(1+I):Nat):Int)=A-(n+1+I):=by omega
   rw[a5]at ae;generalize bq:ac (A-n-(1+I)) (frS d nm)=G at *
   have a6:frS d nm=((yt d nm).getD zFr).sels:=rfl;rw[a6]at ae;generalize (yt d nm).isSome=bg at *
   generalize (yt d nm).getD zFr=f at *
   obtain⟨be,bf,bd,bh⟩:=f;rw[Yp]at ar;simp only at ae;simp(disch:=omega) only[X,U,W,Y,wrap64,go_sem];refine za af ?_;simp(disch:=omega) only[X,U,W,Y,wrap64,ab,ak,go_sem];refine za ar ?_;simp(disch:=omega) only[go_sem];refine zc λbc bt=>?_;simp(disch:=omega) only[wrap64,go_sem];refine za ae ?_;simp(disch:=omega) only[wrap64,go_sem];have aa:((n+(1+I+G):Nat):Int)=n+1+I+G:=by omega
   exact goJ (ai (n+(1+I+G)) _ J) (by simp(disch:=omega) only[wrap64,aa,go_sem])
  ·rw[if_neg ad]at J;have aj:=av rest A (n+(1+I));rw[J]at aj;by_cases ab:Z=1
   ·have a8:=eq_true ab;have ak:¬ ((n:Int)+1+I<=A):=λh=>ad ⟨ab,by omega⟩;simp(disch:=omega) only[X,U,W,Y,wrap64,go_sem];refine za af ?_;simp(disch:=omega) only[X,U,W,Y,wrap64,a8,ak,go_sem];have aa:((n+(1+I):Nat):Int)=n+1+I:=by omega
    exact goJ (ai (n+(1+I)) _ J) (by simp(disch:=omega) only[wrap64,aa,go_sem])
   ·simp(disch:=omega) only[X,U,W,Y,wrap64,go_sem];refine za af ?_;simp(disch:=omega) only[X,U,W,Y,wrap64,ab,go_sem];have aa:((n+(1+I):Nat):Int)=n+1+I:=by omega
    exact goJ (ai (n+(1+I)) _ J) (by simp(disch:=omega) only[wrap64,aa,go_sem])
def zhv(d:DocD){Z:Nat}:∀(l:List (List SelD)) (n:Nat),(∀x∈l,few d 41 40 x<=Z)->Z0 d l n<=n∨Z0 d l n<=40+Z
 | [],n,_=>.inl (Al4 _)
 | x::r,n,h=>by
  simp only[Z0];split
  ·have J:=h x (zaW ..);rcases zhv d r (n+few d 41 40 x) (λy I=>h y (zbR _ I))with A|A
   ·right;omega
   ·exact .inr A
  ·exact .inl (Al4 _)
def zsW(s:SchD)(d:DocD)(br:zJ s<=1048576)(ay:zw d<=1048576):ze Tryz.prog 4 [.agg (zm s),.agg (zU d)] (.bool (zcb s d)):=by
 have a1:=zu6 s (by simp only[Lim];omega);have a2:=zy7 d (by simp only[Lim];omega);have ax:=@zkJ d;have a0:∀o∈d.ops,o.sels∈yX d:=λo ho=>by simp only[yX,List.mem_append,List.mem_map];exact .inl ⟨o,ho,rfl⟩
 have az:∀f∈d.frags,f.sels∈yX d:=λf ba=>by simp only[yX,List.mem_append,List.mem_map];exact .inr ⟨f,ba,rfl⟩
 have ao:=λx (h:x∈yX d)=>zBg d ay 41 (zw d) x 40 (ax h) ay (by omega) (Al4 _);have aj:=λx (h:x∈yX d)=>(by have:=zoE (zw8 d) 41 40 x;have:=ax h;omega:few d 41 40 x<=50000000);have bq:=Zu d.ops;have bo:=yC d.frags;have bk:bOs d.ops+bFs d.frags=zw d:=rfl;have ar:=Z9 d.ops;have ab:=YO d.frags;have bd:=zhv d (d.ops.map (·.sels)) 0 (Z:=50000000) (λx aq=>aj x (by obtain⟨o,ho,rfl⟩:=List.mem_map.1 aq;exact a0 o ho));have bw:=zhv d (d.frags.map (·.sels)) (Z0 d (d.ops.map (·.sels)) 0) (Z:=50000000) (λx aq=>aj x (by obtain⟨o,ho,rfl⟩:=List.mem_map.1 aq;exact az o ho));have bp:=zeR d;have Y:zcb s d=(zg4 s&&zfS d&&decide (Z0 d (d.frags.map (·.sels)) (Z0 d (d.ops.map (·.sels)) 0)<=40)):=rfl;have am:∀x r n,Z0 d (x::r) n=if n<=40 then Z0 d r (n+few d 41 40 x)else n:=λ_ _ _=>rfl
 have au:∀n,Z0 d [] n=n:=λ_=>rfl;have a5:∀(l:List (List SelD)) n,¬ n<=40->Z0 d l n=n:=λl n h=>by cases l with|nil=>rfl|cons x r=>rw[am,if_neg h]
 generalize zcb s d=F at *
 generalize zg4 s=be at *
 generalize zfS d=a3 at *
 have a8:zU d=[.sl .no 5 (cOs d.ops),.sl .no 4 (cFs d.frags)]:=rfl;have a9:zm s=[.sl .no 6 (cEs s.defs),.str s.q,.str s.m]:=rfl;simp only[a9,a8]at a1 a2 ao ⊢;generalize bl:Z0 d=ac at *
 refine ze.go ir4.1 ir4.2 (Al4 _) λKP Q aa=>?_;simp(disch:=omega) only[ir4,go_sem];refine za a1 ?_;cases be with
 | false =>simp(disch:=omega) only[go_sem];exact aa _ _ _ _ nofun rfl (by simp[Y])
 | true =>
 simp(disch:=omega) only[go_sem];refine za a2 ?_;cases a3 with
 | false =>simp(disch:=omega) only[go_sem];exact aa _ _ _ _ nofun rfl (by simp[Y])
 | true =>
 simp only[Bool.true_and]at Y;generalize ah:ac (d.frags.map (·.sels)) (ac (d.ops.map (·.sels)) 0)=T at *
 have bv:True:=trivial;simp(disch:=omega) only[go_sem];refine zf d.ops 6 (λn:Nat=>[(5,.int .i64 n)]) (λdone rest n _=>ac (rest.map (·.sels)) n=ac (d.ops.map (·.sels)) 0) 0 (by simp(disch:=omega) only[go_sem]) rfl ?_ ?_
 ·rintro n H a4 I ai;simp only[List.map_nil]at I;rw[au]at I;rw[<-I]at ah bd;simp(disch:=omega) only[ar,ai,go_sem];refine zf d.frags 7 (λn:Nat=>[(5,.int .i64 n)]) (λdone rest n _=>ac (rest.map (·.sels)) n=T) n (by simp(disch:=omega) only[go_sem]) ah ?_ ?_
  ·rintro A ak al J X;simp only[List.map_nil]at J;rw[au]at J;subst J;have av:decide ((A:Int)<=40)=decide (A<=40):=decide_eq_decide.2 (by omega);simp(disch:=omega) only[ab,X,go_sem];exact aa _ _ _ _ nofun rfl (by simp[Y,av])
  ·rintro done x rest A ak al ad X _ J aw;have af:=zad ad;have ag:=az x (by rw[ad];simp);have ae:=ao x.sels ag;have ap:=aj x.sels ag;rw[List.map_cons,am]at J;obtain⟨bh,bj,bg,a6⟩:=x;rw[Yp]at af;simp only at ae ap J;by_cases U:A<=40
   case neg =>
    rw[if_neg U]at J;subst J;have av:decide ((A:Int)<=40)=decide (A<=40):=decide_eq_decide.2 (by omega);have W:¬ ((A:Int)<=40):=by omega
    simp(disch:=omega) only[ab,X,W,go_sem];exact aa _ _ _ _ nofun rfl (by simp[Y,U])
   rw[if_pos U]at J;have W:((A:Int)<=40)=True:=eq_true (by omega);generalize few d 41 40 a6=w at *
   have an:((A+w:Nat):Int)=A+w:=by omega
   simp(disch:=omega) only[ab,X,W,af,go_sem];refine za ae ?_;simp(disch:=omega) only[wrap64,go_sem];exact goJ (aw (A+w) _ J) (by simp(disch:=omega) only[wrap64,an,go_sem])
 ·rintro done x rest n H a4 ad ai _ I a7;have af:=YJ ad;have ag:=a0 x (by rw[ad];simp);have ae:=ao x.sels ag;have ap:=aj x.sels ag;rw[List.map_cons,am]at I;obtain⟨ok,bt,vs,ds,bc⟩:=x;rw[zam]at af;simp only at ae ap I;by_cases U:n<=40
  case neg =>
   rw[if_neg U]at I;rw[<-I,a5 _ n U]at ah;subst ah;have W:¬ ((n:Int)<=40):=by omega
   simp(disch:=omega) only[ar,ai,W,ab,go_sem];refine zf d.frags 7 (λ_:Unit=>[(5,.int .i64 n)]) (λ_ _ _ _=>True) () (by simp(disch:=omega) only[go_sem]) trivial ?_ ?_
   ·rintro _ ak al _ X;simp(disch:=omega) only[ab,X,W,go_sem];exact aa _ _ _ _ nofun rfl (by simp[Y,U])
   ·rintro bf a3 bu _ ak al bn X _ _ aw;simp(disch:=omega) only[ab,X,W,go_sem];exact aa _ _ _ _ nofun rfl (by simp[Y,U])
  rw[if_pos U]at I;have W:((n:Int)<=40)=True:=eq_true (by omega);generalize few d 41 40 bc=w at *
  have an:((n+w:Nat):Int)=n+w:=by omega
  simp(disch:=omega) only[ar,ai,W,af,go_sem];refine za ae ?_;simp(disch:=omega) only[wrap64,go_sem];exact goJ (a7 (n+w) _ I) (by simp(disch:=omega) only[wrap64,an,go_sem])
def zab:SchD:=⟨[⟨1,[81],[],[⟨[97],[],⟨[73,110,116],0,0⟩,[]⟩],[],[]⟩],[81],[]⟩
def zgA:SchD:=⟨[],[],[]⟩
def zji(n:List UInt8):DocD:=⟨[⟨0,[],[],[],[.mk 0 [] n [] [] [] []]⟩],[]⟩
def zl8:DocD:=zji [110,111,116,104,101,114,101]
def zhU:DocD:=zji [97]
def zxo:zc6 zab zl8=9:=by decide +kernel
def zyz:zc6 zab zhU=0:=by decide +kernel
def zyY:zc6 zgA zhU=25:=by decide +kernel
def zxI:zcd zab zhU 24=true:=by decide +kernel
def zyT:zcd zab zhU 25=false:=by decide +kernel
def zw3:zdu zab:=by intro x I;simp only[zab,List.mem_singleton]at I;subst I;refine⟨λy A=>?_,λy A=>(nomatch A)⟩;simp only[List.mem_singleton]at A;subst A;exact⟨λy A=>(nomatch A),by simp[inR],by simp[inR],λy A=>(nomatch A)⟩
def zyI:zdu zgA:=λx A=>nomatch A
def zsp(n:List UInt8):zcE (zji n):=by refine⟨λx I=>?_,λx I=>(nomatch I)⟩;simp only[zji,List.mem_singleton]at I;subst I;exact⟨λy A=>(nomatch A),λy A=>(nomatch A),⟨trivial,λy A=>(nomatch A),trivial⟩,trivial⟩
def zy3:ValH zab zl8:=zuP zw3 (zsp _) (by decide) (by decide) (by decide +kernel)
def zpd:ValH zab zhU:=zuP zw3 (zsp _) (by decide) (by decide) (by decide +kernel)
def zyy:ValH zgA zhU:=zuP zyI (zsp _) (by decide) (by decide) (by decide +kernel)
def zwF:zm zab=[.sl .no 6 [[.int .i64 1,.str [81],.sl .no 1 [],.sl .no 6 [[.str [97],.sl .no 10 [],.str [73,110,116],.int .i64 0,.int .i64 0,.sl .no 2 []]],.sl .no 1 [],.sl .no 10 []]],.str [81],.str []]:=by rfl
def zAO:zm zgA=[.sl .no 6 [],.str [],.str []]:=by rfl
def zyB(n:List UInt8):zU (zji n)=[.sl .no 5 [[.int .i64 0,.str [],.sl .no 10 [],.sl .no 2 [],.sl .no 7 [[.int .i64 0,.str [],.str n,.sl .no 6 [],.sl .no 2 [],.str [],.sl .no 7 []]]]],.sl .no 4 []]:=by rfl
def zuM:ze Tryz.prog 12 [] (.agg (zm zab)):=by rw[zwF];refine ze.go ir12.1 ir12.2 (Al4 _) λKP Q A=>?_;simp(disch:=omega) only[ir12,go_sem];refine zc λb0 I=>?_;simp(disch:=omega) only[go_sem];exact A _ _ _ [.agg [.sl .full 6 [[.int .i64 1,.str [81],.sl .no 1 [],.sl .no 6 [[.str [97],.sl .no 10 [],.str [73,110,116],.int .i64 0,.int .i64 0,.sl .no 2 []]],.sl .no 1 [],.sl .no 10 []]],.str [81],.str []]] nofun (by simp(disch:=omega) only[ir12,zo,z8,go_sem]) rfl
def zt8:ze Tryz.prog 5 [] (.bool true):=by
 have I:=zuM;have J:=zlQ zab zl8 zy3;have U:=zlQ zab zhU zpd;have W:=zlQ zgA zhU zyy;have X:=zy2 zab zhU 24 zpd;have Y:=zy2 zab zhU 25 zpd;rw[zxo]at J;rw[zyz]at U;rw[zyY]at W;rw[zxI]at X;rw[zyT]at Y;rw[zl8,zwF,zyB]at J;rw[zhU,zwF,zyB]at U X Y;rw[zhU,zAO,zyB]at W;rw[zwF]at I;refine ze.go ir5.1 ir5.2 (Al4 _) λKP Q ab=>?_;simp(disch:=omega) only[ir5,go_sem];refine zc λZ ad=>?_;simp(disch:=omega) only[go_sem];refine zc λaa ac=>?_;have A:Z≠aa:=λe=>by subst e;simp[zb.upd]at ac
 simp(disch:=omega) only[A,Ne.symm A,go_sem];refine za I ?_;simp(disch:=omega) only[A,Ne.symm A,go_sem];refine za (ze.low J) ?_;simp(disch:=omega) only[A,Ne.symm A,go_sem];refine za I ?_;simp(disch:=omega) only[A,Ne.symm A,go_sem];refine za (ze.low U) ?_;simp(disch:=omega) only[A,Ne.symm A,go_sem];refine za (ze.low W) ?_;simp(disch:=omega) only[A,Ne.symm A,go_sem];refine za I ?_;simp(disch:=omega) only[A,Ne.symm A,go_sem];refine za (ze.low X) ?_;simp(disch:=omega) only[A,Ne.symm A,go_sem];refine za I ?_;simp(disch:=omega) only[A,Ne.symm A,go_sem];refine za (ze.low Y) ?_;simp(disch:=omega) only[go_sem];exact ab _ _ _ _ nofun rfl (by simp )
def zlT(d:DocD)(Y:zcE d)(h:(zaJ d).2=true):zaJ d=(Zt (zct d),true)/\ze Tryz.prog 7 [.str (Zt (zct d))] (.tup [.agg (zU d),.int .i64 0]):=by
 unfold zaJ at h ⊢;split at h
 case isFalse=>cases h
 rename_i I;rw[if_pos I];simp only[Al0,z6]at I;obtain⟨W,A,J⟩:=I;have U:(zct d).all yy=true:=by
  unfold zaa at A;split at A
  ·assumption
  ·cases A
 have X:zaa (zct d)=(Zt (zct d),true):=by unfold zaa;rw[if_pos U]
 rw[X]at J ⊢;exact⟨rfl,zn4 (zct d) d U J (zrW d W Y)⟩
def zjF(s:SchD)(d:DocD)(af:zdu s)(U:zcE d)(aa:zJ s<=1048576)(Z:zw d<=1048576):ze Tryz.prog 3 [.agg (zm s),.agg (zU d)] (.bool true):=by
 have X:=zsW s d aa Z;have I:=zt8;have A:=λh=>zlQ s d (zuP af U aa Z h);have Y:=zzb d U (by simp only[Lim];omega);have W:=zlT d U;generalize zcb s d=lt at *
 generalize zc6 s d=C at *
 generalize zaJ d=T at *
 generalize Zt (zct d)=ag at *
 obtain⟨t,ok⟩:=T;have ad:zU d=[.sl .no 5 (cOs d.ops),.sl .no 4 (cFs d.frags)]:=rfl;have ae:zm s=[.sl .no 6 (cEs s.defs),.str s.q,.str s.m]:=rfl;simp only[ae,ad]at X A Y W ⊢;refine ze.go ir3.1 ir3.2 (Al4 _) λKP Q J=>?_;simp(disch:=first|omega|assumption) only[ir3,go_sem];refine za X ?_;cases lt with
 | false =>simp(disch:=first|omega|assumption) only[go_sem];refine za I ?_;simp(disch:=first|omega|assumption) only[go_sem];exact J _ _ _ _ nofun rfl (by simp )
 | true =>
 replace A:=A rfl;simp(disch:=first|omega|assumption) only[go_sem];refine za Y ?_;cases ok with
 | false =>simp(disch:=first|omega|assumption) only[go_sem];refine za I ?_;simp(disch:=first|omega|assumption) only[go_sem];exact J _ _ _ _ nofun rfl (by simp )
 | true =>
 obtain⟨ab,ac⟩:=W rfl;cases ab;simp(disch:=first|omega|assumption) only[go_sem];refine za ac ?_;simp(disch:=first|omega|assumption) only[go_sem];refine zc λb ah=>?_;simp(disch:=first|omega|assumption) only[go_sem];refine za A ?_;simp(disch:=first|omega|assumption) only[go_sem];refine za A ?_;simp(disch:=first|omega|assumption) only[go_sem];refine za I ?_;simp(disch:=first|omega|assumption) only[go_sem];exact J _ _ _ _ nofun rfl (by simp )
end Go.Proofs.YtnemcnegfkjpeaaGreatDoor
