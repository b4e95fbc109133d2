import Derived.Test.YtnemcnegfkjpeaaGreatDoorM9
set_option maxRecDepth 100000
set_option linter.all false
namespace Go.Proofs.YtnemcnegfkjpeaaGreatDoor
open Go.Ab
mutual
def zo1(s:SchD):SelD->Bool| .mk k _ _ _ _ on sels=>(decide (k=2)&&(!decide (on=[])&&!Z4 s on))||!zdQ s sels
def zdQ(s:SchD):List SelD->Bool
 | []=>true
 | x::r=>!zo1 s x&&zdQ s r
end
def zkl(s:SchD):∀l,(!l.any (zo1 s))=zdQ s l
 | []=>rfl
 | x::r=>by rw[List.any_cons,zdQ,<-zkl s r];cases zo1 s x<;>simp
def zrX(s:SchD)(sels:List SelD):Prop:=bSs sels<=Lim->ze Tryz.prog 130 [.agg (zm s),.sl .no 7 (cSs sels)] (.bool (zdQ s sels))
def zAQ(s:SchD)(x:SelD)(Y:s.defs.length<=Lim)(X:bS x<=Lim)(aa:∀k J nm args dirs on xs,x=.mk k J nm args dirs on xs->zrX s xs):ze Tryz.prog 232 [.agg (cS x),.view (zm s)] (.bool (zo1 s x)):=by
 obtain⟨k,J,nm,args,dirs,on,xs⟩:=x;have W:=zie s on Y;have A:=aa k J nm args dirs on xs rfl (by simp only[bS]at X;omega);simp only[zo1];generalize Z4 s on=ab at *
 generalize zdQ s xs=ae at *
 obtain⟨ac,ad,sm⟩:=s;simp only[zm]at W A ⊢;refine ze.go ir232.1 ir232.2 (Al4 _) λKP Q I=>?_;by_cases U:k=2
 case neg =>simp(disch:=omega) only[ir232,y9,U,go_sem];refine za A ?_;simp(disch:=omega) only[go_sem];exact I _ _ _ _ nofun rfl (by simp[U])
 subst U;by_cases ho:on=[]
 ·have Z:=eq_true ho;simp(disch:=omega) only[ir232,y9,Z,go_sem];refine za A ?_;simp(disch:=omega) only[go_sem];exact I _ _ _ _ nofun rfl (by simp[ho])
 simp(disch:=omega) only[ir232,y9,ho,go_sem];refine za W ?_;cases ab with
 | false =>simp(disch:=omega) only[go_sem];exact I _ _ _ _ nofun rfl (by simp[ho])
 | true =>simp(disch:=omega) only[go_sem];refine za A ?_;simp(disch:=omega) only[go_sem];exact I _ _ _ _ nofun rfl (by simp[ho])
def zpg{x:SelD}{l:List SelD}(h:x∈l):bS x<=bSs l:=by obtain⟨a,b,A⟩:=List.append_of_mem h;have:=zbk a x b;rw[<-A]at this;omega
def zqm(s:SchD)(U:s.defs.length<=Lim)(sels:List SelD)(W:∀k I nm args dirs on xs,SelD.mk k I nm args dirs on xs∈sels->zrX s xs):zrX s sels:=by
 intro X;have Y:=Y9 sels;have A:=zxK cS zg6 sels 232 [.view (zm s)] (zo1 s) (by omega) (by kernel_rfl) λx A=>zAQ s x U (by have:=zpg A;omega) λk I nm args dirs on xs e=>W k I nm args dirs on xs (e▸A);rw[<-zdq]at A;rw[<-zkl];generalize sels.any (zo1 s)=ab at *
 obtain⟨Z,aa,sm⟩:=s;simp only[zm]at A ⊢;refine ze.go ir130.1 ir130.2 (Al4 _) λKP Q J=>?_;simp(disch:=omega) only[ir130,go_sem];refine za A ?_;simp(disch:=omega) only[go_sem];exact J _ _ _ _ nofun rfl (by simp )
def zBs(s:SchD)(I:s.defs.length<=Lim)(sels:List SelD):zrX s sels:=by
 have h:∀x:SelD,∀k A nm args dirs on xs,x=.mk k A nm args dirs on xs->zrX s xs:=SelD.ind λk A nm args dirs on sels U=>by intro Z W aa X Y ab xs e;cases e;exact zqm s I sels λk A nm args dirs on xs J=>U _ J _ _ _ _ _ _ _ rfl
 exact zqm s I sels λk A nm args dirs on xs _=>h _ k A nm args dirs on xs rfl
def zBD(s:SchD)(f:FragD)(J:s.defs.length<=Lim):ze Tryz.prog 125 [.agg (cF f),.view (zm s)] (.bool (!Z4 s f.on)):=by
 have A:=zie s f.on J;obtain⟨nm,on,ds,X⟩:=f;simp only at A ⊢;generalize Z4 s on=Y at *
 obtain⟨U,W,sm⟩:=s;simp only[zm]at A ⊢;refine ze.go ir125.1 ir125.2 (Al4 _) λKP Q I=>?_;simp(disch:=omega) only[ir125,Yp,go_sem];refine za A ?_;simp(disch:=omega) only[go_sem];exact I _ _ _ _ nofun rfl (by simp )
def zBU(s:SchD)(l:List SelD)(U:s.defs.length<=Lim)(J:bSs l<=Lim):ze Tryz.prog 129 [.sl .no 7 (cSs l),.view (zm s)] (.bool (!zdQ s l)):=by
 have A:=zBs s U l J;generalize zdQ s l=Y at *
 obtain⟨W,X,sm⟩:=s;simp only[zm]at A ⊢;refine ze.go ir129.1 ir129.2 (Al4 _) λKP Q I=>?_;simp(disch:=omega) only[ir129,go_sem];refine za A ?_;simp(disch:=omega) only[go_sem];exact I _ _ _ _ nofun rfl (by simp )
def onM(s:SchD)(d:DocD):Bool:=!(d.frags.any λf=>!Z4 s f.on)&&!((yX d).any λl=>!zdQ s l)
def zfp{d:DocD}{l:List SelD}(h:l∈yX d):bSs l<=zw d:=by
 simp only[yX,List.mem_append,List.mem_map]at h;rcases h with ⟨o,ho,rfl⟩|⟨f,I,rfl⟩
 ·obtain⟨a,b,A⟩:=List.append_of_mem ho;have:=YW a o b;rw[<-A]at this;simp only[bO,zw]at this ⊢;omega
 ·have:=zcj I;have:=zaI f;simp only[zw];omega
def ziS(d:DocD):(yX d).length<=zw d:=by have:=Zu d.ops;have:=yC d.frags;simp only[yX,Al5,List.length_map,zw];omega
def onC(s:SchD)(d:DocD)(X:s.defs.length<=Lim)(W:zw d<=Lim):ze Tryz.prog 59 [.agg (zm s),.agg (zU d)] (.bool (onM s d)):=by
 have ab:=yC d.frags;have aa:bOs d.ops+bFs d.frags<=Lim:=W;have A:=zpO cF (λ_=>rfl) d.frags 125 [.view (zm s)] (λf=>!Z4 s f.on) (by omega) (by kernel_rfl) λf _=>zBD s f X;have I:=zwQ (λl:List SelD=>AV.sl .no 7 (cSs l)) (yX d) 129 [.view (zm s)] (λl=>!zdQ s l) (by have:=ziS d;omega) (by kernel_rfl) λl h=>zBU s l X (by have:=zfp h;omega);have J:=λH=>ztP d H W;unfold onM;generalize (d.frags.any λf=>!Z4 s f.on)=Y at *
 generalize ((yX d).any λl=>!zdQ s l)=ag at *
 obtain⟨ae,af,sm⟩:=s;obtain⟨ops,frags⟩:=d;simp only[zm,zU]at A I J ⊢;refine ze.go ir59.1 ir59.2 (Al4 _) λKP Q U=>?_;simp(disch:=omega) only[ir59,go_sem];refine za A ?_;cases Y with
 | true =>simp(disch:=omega) only[go_sem];exact U _ _ _ _ nofun rfl (by simp )
 | false =>simp(disch:=omega) only[go_sem];refine zx (J _) λad Z ac=>?_;simp(disch:=omega) only[go_sem];refine za (ze.low I) ?_;simp(disch:=omega) only[go_sem];exact U _ _ _ _ nofun rfl (by simp )
def y8(d:DocD):Nat:=2*(zw d+zw d)
def zc0(d:DocD)(sels:List SelD):(Zl d sels).length<=bSs sels+bFs d.frags:=by have h:=zkQ (d:=d) (U:=zjA d sels) (λf I y A=>by simp only[zjA,List.mem_append,List.mem_flatMap];exact .inr ⟨f,I,A⟩) (bSs sels+bFs d.frags+1) (Zh sels []) 0 (zcP sels [] (λy A=>by simp[zjA,A]) ⟨List.nodup_nil,by simp⟩);exact Nat.le_trans (zqh h) (zqq d sels)
def znv(d:DocD)(f:FragD):Bool:=yo f.nm (Zl d f.sels)
def zuQ(d:DocD)(f:FragD)(X:f∈d.frags)(U:y8 d<=Lim):ze Tryz.prog 136 [.agg (cF f),.view (zU d)] (.bool (znv d f)):=by
 have aa:=zcj X;have ab:=zaI f;have Z:bFs d.frags<=zw d:=by simp only[zw];omega
 have W:=U;simp only[y8]at W;have I:=λH=>zi5 d f.sels H (by omega);have hlen:=zc0 d f.sels;have A:=yD (Zl d f.sels) f.nm (by omega);unfold znv;generalize Zl d f.sels=R at *
 generalize yo f.nm R=af at *
 obtain⟨nm,on,ds,ae⟩:=f;obtain⟨ops,frags⟩:=d;simp only[zU]at I A ⊢;refine ze.go ir136.1 ir136.2 (Al4 _) λKP Q J=>?_;simp(disch:=omega) only[ir136,Yp,go_sem];refine zx (I _) λad Y ac=>?_;simp(disch:=omega) only[go_sem];refine za (ze.low A) ?_;simp(disch:=omega) only[go_sem];exact J _ _ _ _ nofun rfl (by simp )
def zfB(d:DocD):Bool:=d.frags.any (znv d)
def zsx(d:DocD)(I:y8 d<=Lim):ze Tryz.prog 61 [.agg (zU d)] (.bool (zfB d)):=by
 have Y:=yC d.frags;have X:bFs d.frags<=zw d:=by simp only[zw];omega
 have U:=I;simp only[y8]at U;have A:=zpO cF (λ_=>rfl) d.frags 136 [.view (zU d)] (znv d) (by omega) (by kernel_rfl) λf W=>zuQ d f W I;unfold zfB;generalize d.frags.any (znv d)=Z at *
 obtain⟨ops,frags⟩:=d;simp only[zU]at A ⊢;refine ze.go ir61.1 ir61.2 (Al4 _) λKP Q J=>?_;simp(disch:=omega) only[ir61,go_sem];refine za A ?_;simp(disch:=omega) only[go_sem];exact J _ _ _ _ nofun rfl (by simp )
def zvw{H H':zb}{o':Own}{n sz:Nat}(h:OwnS H .nil H' o' n sz):Low H H':=Low.of_sub λb o A=>h.kept b o A λd e=>by cases e
def ztd(d:DocD)(n:List UInt8)(b:Nat)(H:zb)(I:H b=some (.cells (zU d)))(Y:d.frags.length<=Lim):zd Tryz.prog 134 [.str n,.ptr b 0] H (At (.bool (!(yt d n).isSome)) H):=by
 have A:=znl d n Y;cases W:yt d n with
 | none =>rw[W]at A;obtain⟨ops,frags⟩:=d;simp only[zU]at A I;refine zd.go ir134.1 ir134.2 (Al4 _) λKP Q J=>?_;simp(disch:=omega) only[ir134,I,go_sem];refine za A ?_;simp(disch:=omega) only[Option.getD,Option.isSome,zFr,Yp,go_sem];refine zc λX U=>?_;simp(disch:=omega) only[go_sem];exact J _ _ _ H _ nofun rfl ((Low.refl _).upd U) ⟨rfl,rfl⟩
 | some f =>rw[W]at A;obtain⟨nm,on,ds,Z⟩:=f;obtain⟨ops,frags⟩:=d;simp only[zU]at A I;refine zd.go ir134.1 ir134.2 (Al4 _) λKP Q J=>?_;simp(disch:=omega) only[ir134,I,go_sem];refine za A ?_;simp(disch:=omega) only[Option.getD,Option.isSome,Yp,go_sem];refine zc λX U=>?_;simp(disch:=omega) only[go_sem];exact J _ _ _ H _ nofun rfl ((Low.refl _).upd U) ⟨rfl,rfl⟩
def znH(d:DocD)(l:List SelD):Bool:=(Zh l []).any λn=>!(yt d n).isSome
def zwE(d:DocD)(l:List SelD)(b:Nat)(H:zb)(Z:H b=some (.cells (zU d)))(aa:d.frags.length<=Lim)(ad:bSs l<=Lim):zd Tryz.prog 131 [.sl .no 7 (cSs l),.ptr b 0] H (At (.bool (znH d l)) H):=by
 have I:=zxB l [] .nil H (by simpa using ad) rfl;have ab:=zgb l [];simp only[Al3]at ab;have ac:cT []=[]:=rfl;rw[ac]at I;have U:=λA (h:A b=some (.cells (zU d)))=>zf9 (λn:List UInt8=>AV.str n) (Zh l []) 134 [.ptr b 0] (λn=>!(yt d n).isSome) A (by omega) (by kernel_rfl) λn _=>ztd d n b A h aa;unfold znH;generalize ((Zh l []).any λn=>!(yt d n).isSome)=af at *
 refine zd.go ir131.1 ir131.2 (Al4 _) λKP Q Y=>?_;simp(disch:=omega) only[ir131,go_sem];refine zx I λae A J=>?_;have W:A b=some (.cells (zU d)):=J.kept b _ Z λd e=>by cases e
 simp(disch:=omega) only[go_sem];have X:=zd.low (args:=[.sl ae 1 (cT (Zh l [])),.clo 134 [] [.ptr b 0]]) (U A W);refine zQ X ?_;rintro _ _ ⟨_,rfl,rfl,rfl⟩;simp(disch:=omega) only[ZT,go_sem];exact Y _ _ _ H _ nofun rfl (zvw J) ⟨rfl,rfl⟩
def zlr(d:DocD):Bool:=!(yX d).any (znH d)
def zyR(d:DocD)(W:zw d<=Lim):ze Tryz.prog 60 [.agg (zU d)] (.bool (zlr d)):=by
 have ag:=yC d.frags;have af:bOs d.ops+bFs d.frags<=Lim:=W;have J:=λH=>ztP d H W;have U:=λb A (h:A b=some (.cells (zU d)))=>zty (λl:List SelD=>AV.sl .no 7 (cSs l)) (yX d) 131 [.ptr b 0] (znH d) A (by have:=ziS d;omega) (by kernel_rfl) λl ab=>zwE d l b A h (by omega) (by have:=zfp ab;omega);unfold zlr;generalize (yX d).any (znH d)=ah at *
 have aa:zU d=[.sl .no 5 (cOs d.ops),.sl .no 4 (cFs d.frags)]:=rfl;rw[aa]at J U ⊢;refine ze.go ir60.1 ir60.2 (Al4 _) λKP Q Z=>?_;simp(disch:=omega) only[ir60,go_sem];refine zc λI ae=>?_;simp(disch:=omega) only[go_sem];refine zx (J _) λad A ac=>?_;have X:=ac.kept I _ (upd_same ..) λd e=>by cases e
 simp(disch:=omega) only[go_sem];have Y:=zd.low (args:=[.sl ad 1 (cLL (yX d)),.clo 131 [] [.ptr I 0]]) (U I A X);refine zQ Y ?_;rintro _ _ ⟨_,rfl,rfl,rfl⟩;simp(disch:=omega) only[ZT,go_sem];exact Z _ _ _ _ nofun rfl (by simp )
def Zr(R:List (List UInt8))(l:List (List UInt8))(f:FragD):List (List UInt8):=if yo f.nm R=true/\yo f.nm l=false then l++[f.nm]else l
def ZL(d:DocD)(sels:List SelD):List (List UInt8):=d.frags.foldl (Zr (Zl d sels)) []
def zso{P:Program}{KP:AV->zb->Prop}{Q:AExit->Env->zb->Prop}{st:List Fr}{ρ:Env}{H:zb}{all l:List AItem}{d:Option Nat}{R:List Chk}{sz bytes:Nat}{o o2:Own}{xs I:List (List AV)}(ah:o≠.full)(how:zA H o xs.length sz)(ae:(xs.length+I.length)*bytes<=140737488355328)(af:xs.length+I.length<=maxLen)(U:∀o' H',o'≠.full->OwnS H o H' o' (xs.length+I.length) sz->goR P KP Q all l st R (ρ.set d (.sl o' sz (xs++I.map (·.map AV.strip1)))) H'):
  goP P KP Q all l st d R ρ sz bytes (.sl o sz xs) (.sl o2 sz I) H:=by
 refine⟨rfl,rfl,ae,af,?_⟩;cases o with
 | no=>exact how.elim
 | full=>exact absurd rfl ah
 | nil =>
  refine⟨λad=>?_,λad b J=>U _ _ nofun ⟨by simp[zA,zb.upd],λc x A ac=>?_,λc X e=>?_⟩⟩
  ·subst ad;have aj:xs=[]:=List.eq_nil_of_length_eq_zero how;subst aj;exact U .nil H nofun ⟨rfl,λb x J _=>J,λb X e=>by cases e⟩
  ·have ai:c≠b:=λe=>by subst e;rw[J]at A;cases A
   simp[zb.upd,ai,A]
  ·cases e;exact .inl J
 | tip b Y =>
  refine⟨how,λW ak Z=>U _ _ nofun ⟨by simp[zA,zb.upd],λc x A ac=>?_,λc X e=>?_⟩⟩
  ·have ab:c≠b:=λe=>by subst e;exact ac Y rfl
   have ag:c≠W:=λe=>by subst e;simp[zb.del,ab,A]at Z
   simp[zb.upd,zb.del,ab,ag,A]
  ·cases e;by_cases aa:W=b
   ·subst aa;exact .inr ⟨Y,rfl⟩
   ·left;simpa[zb.del,aa]using Z
abbrev zs3(H:zb)(xs:List (List UInt8)):AEnd->zb->Prop:=λe H'=>match e with|.ret v=>∃o,o≠.full/\v=.sl o 1 (cT xs)/\OwnS H .nil H' o xs.length 1|.pan _=>False
def zzl(d:DocD)(sels:List SelD)(H:zb)(ar:y8 d<=Lim)(a5:bSs sels<=zw d):zd Tryz.prog 244 [.agg (zU d),.sl .no 7 (cSs sels)] H (zs3 H (ZL d sels)):=by
 unfold zs3;have an:bFs d.frags<=zw d:=by simp only[zw];omega
 have ae:=ar;simp only[y8]at ae;have ad:=λH=>zi5 d sels H (by omega);have a3:=zc0 d sels;have a4:2*(zw d+zw d)<=1099511627776:=by simpa only[Lim]using ae
 have Z:ZL d sels=d.frags.foldl (Zr (Zl d sels)) []:=rfl;have ao:=λn=>yD (Zl d sels) n (by omega);generalize ZL d sels=F at *
 generalize Zl d sels=R at *
 have aw:=yC d.frags;obtain⟨ops,frags⟩:=d;simp only[zU]at ad Z aw an ⊢;have ac:=YO frags;refine zd.goO ir244.1 ir244.2 (Al4 _) λKP Q ap a2=>?_;simp(disch:=omega) only[ir244,go_sem];refine zx (ad _) λo0 H0 az=>?_;simp(disch:=omega) only[ac,go_sem];refine zf frags 15 (λx:Own×List (List UInt8)=>[(6,.sl x.1 1 (cT x.2))]) (λdone rest x H'=>rest.foldl (Zr R) x.2=frags.foldl (Zr R) []/\x.2.length<=done.length/\x.1≠.full/\OwnS H .nil H' x.1 x.2.length 1) (.nil,[]) (by simp(disch:=omega) only[cT,List.map,go_sem]) ⟨rfl,Al4 _,nofun,⟨rfl,az.kept,λb d e=>by cases e⟩⟩ ?_ ?_
 ·rintro⟨U,a⟩ H1 al ⟨A,_,I,W⟩ ab;simp only[List.foldl]at A;simp(disch:=omega) only[ac,ab,go_sem];refine ap _ _ H1 H1 [.sl U 1 (cT a)] nofun (by simp(disch:=omega) only[ir244,zo,z8,go_sem]) (Low.refl _) ⟨U,I,by rw[Z,<-A];rfl,by rw[Z,<-A];exact W⟩
 ·rintro done x rest ⟨U,a⟩ H1 al av ab _ ⟨A,ax,I,W⟩ aa;have af:=zad av;simp only[List.foldl]at A;simp only at ax I;replace W:OwnS H .nil H1 U a.length 1:=W;have X:=zG a;obtain⟨nm,on,ds,aj⟩:=x;have aq:=yD a nm (by simp only[Lim];omega);have J:Zr R a ⟨nm,on,ds,aj⟩=if yo nm R=true/\yo nm a=false then a++[nm]else a:=rfl
  rw[Yp]at af;simp(disch:=omega) only[ac,ab,af,go_sem];refine zc λa1 au=>?_;have Y:=W.upd (x:=.cells [.str nm,.str on,.sl .no 2 (cDs ds),.sl .no 7 (cSs aj)]) au;simp(disch:=omega) only[go_sem];refine za (ze.low (ao nm)) ?_;cases ag:yo nm R with
  | false =>rw[if_neg (by simp[ag])]at J;rw[J]at A;simp(disch:=omega) only[go_sem];exact goJ (aa (U,a) _ ⟨A,by simp only[Al5,Al2,Al3];omega,I,Y⟩) (by simp(disch:=omega) only[wrap64,go_sem])
  | true =>
  simp(disch:=omega) only[go_sem];refine za (ze.low aq) ?_;cases ah:yo nm a with
  | true =>rw[if_neg (by simp[ah])]at J;rw[J]at A;simp(disch:=omega) only[go_sem];exact goJ (aa (U,a) _ ⟨A,by simp only[Al5,Al2,Al3];omega,I,Y⟩) (by simp(disch:=omega) only[wrap64,go_sem])
  | false =>
   rw[if_pos ⟨ag,ah⟩]at J;rw[J]at A;simp(disch:=omega) only[go_sem];refine zso I (by rw[X];exact Y.own) ?_ ?_ λo' ak ay a0=>?_
   ·simp only[X,Al2,Al3];omega
   ·simp only[X,Al2,Al3,maxLen];omega
   have am:cT a++[[AV.str nm]]=cT (a++[nm]):=by simp[cT]
   have ai:=Y.trans a0;simp only[X,Al2,Al3]at ai;simp(disch:=omega) only[wrap64,am,go_sem];exact goJ (aa (o',a++[nm]) ak ⟨A,by simp only[Al5,Al2,Al3];omega,ay,by simpa using ai⟩) (by simp(disch:=omega) only[wrap64,go_sem])
def ztS(d:DocD)(sels:List SelD)(H:zb)(J:y8 d<=Lim)(U:bSs sels<=zw d):YG Tryz.prog 244 [.agg (zU d),.sl .no 7 (cSs sels)] H .nil 1 (cT (ZL d sels)) :=
 (zzl d sels H J U).mono λe H' h=>by
  cases e with
  | ret v=>obtain⟨o,_,A,I⟩:=h;exact⟨o,A,by rw[zG];exact I⟩
  | pan v=>exact h
def zx0(f:FragD)(l:List (List UInt8))(b:Nat)(o:Own)(H:zb)(J:H b=some (.cells [.sl o 1 (cT l)]))(U:l.length<=Lim):zd Tryz.prog 138 [.agg (cF f),.ptr b 0] H (At (.bool (!yo f.nm l)) H):=by
 have A:=yD l f.nm U;obtain⟨nm,on,ds,W⟩:=f;simp only at A ⊢;generalize yo nm l=X at *
 refine zd.go ir138.1 ir138.2 (Al4 _) λKP Q I=>?_;simp(disch:=omega) only[ir138,Yp,J,go_sem];refine za (ze.low A) ?_;simp(disch:=omega) only[go_sem];exact I _ _ _ _ _ nofun rfl (Low.refl _) ⟨by simp ,rfl⟩
def zwG{H:zb}{o:Own}{n sz b:Nat}{cs I:List AV}(h:zA H o n sz)(J:H b=some (.cells cs)):zA (H.upd b (.cells I)) o n sz:=by
 cases o with
 | tip c d =>
  have A:H c=some (.tip (d+n) sz):=h;have U:c≠b:=λe=>by subst e;rw[J]at A;cases A
  show (H.upd b _) c=_;simp[zb.upd,U,A]
 | no=>exact h
 | nil=>exact h
 | full=>exact h
def zzG(d:DocD):List (List UInt8):=d.ops.foldl (λl o=>l++Zl d o.sels) []
def znm(d:DocD):Bool:=!d.frags.any λf=>!yo f.nm (zzG d)
def zzz(d:DocD)(ab:y8 d<=Lim)(bj:lenD d*zw d+zw d<=1099511627776):ze Tryz.prog 62 [.agg (zU d)] (.bool (znm d)):=by
 have ac:=ab;simp only[y8]at ac;have bk:2*(zw d+zw d)<=1099511627776:=by simpa only[Lim]using ac
 have be:bOs d.ops+bFs d.frags=zw d:=rfl;have bl:=yC d.frags;have bo:=Zu d.ops;have am:=λ(o:OpD) (H:zb) (ho:bSs o.sels+bFs d.frags<=zw d)=>zi5 d o.sels H (by omega);have az:=λo:OpD=>zc0 d o.sels;have a8:=λ(o:OpD) (ho:o∈d.ops)=>(by obtain⟨a,b,Y⟩:=List.append_of_mem ho;have:=YW a o b;rw[<-Y]at this;simp only[bO]at this;omega:bSs o.sels+bFs d.frags<=zw d);have a1:=λ(l:List (List UInt8)) (b:Nat) (o:Own) (H:zb) (ab:H b=some (.cells [.sl o 1 (cT l)])) (a4:l.length<=Lim)=>zsz cF (λ_=>rfl) d.frags 138 [.ptr b 0] (λf=>!yo f.nm l) H (by omega) (by kernel_rfl) λf _=>zx0 f l b o H ab a4;have al:znm d=!d.frags.any λf=>!yo f.nm (d.ops.foldl (λl o=>l++Zl d o.sels) []):=rfl;generalize znm d=F at *
 generalize bg:Zl d=R at *
 generalize bf:zw d=B at *
 have ai:=Z9 d.ops;have hmul:d.ops.length*B<=lenD d*B:=Nat.mul_le_mul_right _ (by simp only[lenD];omega);have a3:zU d=[.sl .no 5 (cOs d.ops),.sl .no 4 (cFs d.frags)]:=rfl;rw[a3]at am ⊢;refine ze.go ir62.1 ir62.2 (Al4 _) λKP Q ay=>?_;simp(disch:=omega) only[ir62,go_sem];refine zc λA ac=>?_;simp(disch:=omega) only[ai,go_sem];refine zf d.ops 9 (λ_:Unit=>[]) (λdone rest _ H'=>∃o l,rest.foldl (λl o=>l++R o.sels) l=d.ops.foldl (λl o=>l++R o.sels) []/\H' A=some (.cells [.sl o 1 (cT l)])/\zA H' o l.length 1/\l.length<=done.length*B) () (by simp(disch:=omega) only[go_sem]) ⟨.nil,[],rfl,by simp[zb.upd,cT],rfl,by simp⟩ ?_ ?_
 ·rintro _ H1 au ⟨o,l,U,I,ho,a5⟩ ae;simp only[List.foldl]at U;rw[<-U]at al;have aw:=zd.low (args:=[.sl .no 4 (cFs d.frags),.clo 138 [] [.ptr A 0]]) (a1 l A o H1 I (by simp only[Lim];omega));simp(disch:=omega) only[ai,ae,I,go_sem];refine zQ aw ?_;rintro _ _ ⟨_,rfl,rfl,rfl⟩;simp(disch:=omega) only[ZT,go_sem];exact ay _ _ _ _ nofun rfl (by simp[al])
 ·rintro done x rest _ H1 au Y ae bn ⟨o,l,U,I,ho,a5⟩ ax;have ao:=YJ Y;have ba:x∈d.ops:=by rw[Y];simp
  have ap:=a8 x ba;have an:=λH=>am x H ap;have a0:=az x;have a6:(done.length+1)*B<=d.ops.length*B:=Nat.mul_le_mul_right _ (by omega);rw[Nat.add_mul,Nat.one_mul]at a6;simp only[List.foldl]at U;obtain⟨k,nm,vs,ds,J⟩:=x;simp only at an a0 U ap;have X:=zG l;have aa:=zG (R J);have bh:(R J).length<=B:=by omega
  rw[zam]at ao;simp(disch:=omega) only[ai,ae,ao,go_sem];refine zc λak ad=>?_;have W:ak≠A:=λe=>by subst e;rw[I]at ad;cases ad
  simp(disch:=omega) only[I,W,Ne.symm W,go_sem];refine zx (an _) λbp aj af=>?_;have ah:=af.kept A _ (by simp only[zb.upd,Ne.symm W,if_false];exact I) (λd e=>by cases e);have bc:=af.kept ak _ (upd_same ..) (λd e=>by cases e);have Z:zA aj o l.length 1:=zA.ofKept (ho.upd ad) af.kept λ_ _ _ _ e=>by cases e
  simp(disch:=omega) only[I,ah,bc,W,Ne.symm W,go_sem];refine zj (by rw[X];exact Z) ?_ ?_ λo' ar a9=>?_
  ·simp only[X,aa];omega
  ·simp only[X,aa,maxLen];omega
  have av:cT l++(cT (R J)).map (·.map AV.strip1)=cT (l++R J):=by simp[cT]<;>(intro a _;rfl)
  have ag:=a9;simp only[X,aa]at ag;have bd:∀b c,aj b=some (.cells c)->∀d,o≠.tip b d:=λb c a2 d e=>by subst e;simp only[zA]at Z;rw[a2]at Z;cases Z
  have aq:=ag.kept A _ ah (bd A _ ah);simp(disch:=omega) only[wrap64,aq,av,go_sem];have a7:zA (ar.upd A (.cells [.sl o' 1 (cT (l++R J))])) o' (l++R J).length 1:=zwG (by simpa using ag.own) aq;exact goJ (ax () _ ⟨o',l++R J,U,upd_same ..,a7,by simp only[Al5,Al2,Al3,Nat.add_mul,Nat.one_mul];omega⟩) (by simp(disch:=omega) only[wrap64,go_sem])
noncomputable def zdT(s:SchD)(d:DocD)(n:Int):Bool :=
 if n=1 then za5 ((d.ops.map (·.nm)).filter (λn=>!decide (n=[])))
 else if n=2 then decide (0<d.ops.length)&&(decide (d.ops.length=1)||!yo [] (d.ops.map (·.nm)))
 else if n=3 then !decide (s.m=[])||!d.ops.any λo=>decide (o.k=1)
 else if n=4 then za5 (d.frags.map (·.nm))
 else if n=5 then onM s d
 else if n=6 then zlr d
 else if n=7 then !zfB d
 else if n=8 then znm d
 else false
def zBA(o:OpD):ze Tryz.prog 57 [.agg (cO o)] (.bool (decide (o.k=1))):=by obtain⟨k,nm,vs,ds,I⟩:=o;rw[zam];refine ze.go ir57.1 ir57.2 (Al4 _) λKP Q A=>?_;simp(disch:=omega) only[ir57,go_sem];exact A _ _ _ _ nofun rfl (by simp )
def zys(s:SchD)(d:DocD)(n:Int)(ay:zJ s<=Lim)(af:y8 d<=Lim)(au:lenD d*zw d+zw d<=1099511627776):ze Tryz.prog 29 [.agg (zm s),.agg (zU d),.int .i64 n] (.bool (zdT s d n)):=by
 have av:=af;simp only[y8,Lim]at av;have J:zw d<=Lim:=by simp only[Lim];omega
 have a4:=Zu d.ops;have a5:=yC d.frags;have a3:bOs d.ops+bFs d.frags=zw d:=rfl;have aj:=λH=>zyr d H J;have az:=λo:Own=>ze.low (args:=[.sl o 1 (cT ((d.ops.map (·.nm)).filter (λn=>!decide (n=[]))))]) (zs2 ((d.ops.map (·.nm)).filter (λn=>!decide (n=[]))) (by have:=List.length_filter_le (λn:List UInt8=>!decide (n=[])) (d.ops.map (·.nm));rw[List.length_map]at this;simp only[Lim];omega));have ak:=λH=>zBW d H J;have a0:=λo:Own=>ze.low (args:=[.sl o 1 (cT (d.ops.map (·.nm))),.str []]) (yD (d.ops.map (·.nm)) [] (by rw[List.length_map];simp only[Lim];omega));have al:=anyOp cO (λ_=>rfl) d.ops 57 [] (λo=>decide (o.k=1)) (by simp only[Lim];omega) (by kernel_rfl) λo _=>zBA o;have am:=λH=>zyx d H J;have a1:=λo:Own=>ze.low (args:=[.sl o 1 (cT (d.frags.map (·.nm)))]) (zs2 (d.frags.map (·.nm)) (by rw[List.length_map];simp only[Lim];omega));have an:=onC s d (yc ay) J;have ao:=zyR d J;have ap:=zsx d af;have aq:=zzz d af au;have W:=Z9 d.ops;have ax:d.ops.length<=1099511627776:=by omega
 have A:zdT s d n=zdT s d n:=rfl
 conv at A=>rhs;unfold zdT
 generalize zdT s d n=F at *
 generalize za5 ((d.ops.map (·.nm)).filter (λn=>!decide (n=[])))=a8 at *
 generalize yo [] (d.ops.map (·.nm))=a9 at *
 generalize d.ops.any (λo=>decide (o.k=1))=ba at *
 generalize za5 (d.frags.map (·.nm))=bc at *
 generalize onM s d=bd at *
 generalize zlr d=be at *
 generalize zfB d=bf at *
 generalize znm d=bg at *
 obtain⟨ops,frags⟩:=d;obtain⟨a6,a7,sm⟩:=s;have aw:zU ⟨ops,frags⟩=[.sl .no 5 (cOs ops),.sl .no 4 (cFs frags)]:=rfl;simp only[zm,aw]at aj ak al am an ao ap aq A W ax ⊢;refine ze.go ir29.1 ir29.2 (Al4 _) λKP Q I=>?_;by_cases X:n=1
 ·subst X;rw[if_pos rfl]at A;subst A;simp(disch:=omega) only[ir29,go_sem];refine zx (aj _) λU H1 _=>?_;simp(disch:=omega) only[go_sem];refine za (az U) ?_;simp(disch:=omega) only[go_sem];exact I _ _ _ _ nofun rfl (by simp )
 rw[if_neg X]at A;by_cases Y:n=2
 ·subst Y;rw[if_pos rfl]at A;subst A;by_cases ah:0<ops.length
  case neg =>
   have ai:¬ ((0:Int)<ops.length):=by omega
   simp(disch:=omega) only[ir29,W,ai,go_sem];exact I _ _ _ _ nofun rfl (by simp[ah])
  have ai:(0:Int)<ops.length:=by omega
  have ar:((0:Int)<ops.length)=True:=eq_true ai;by_cases y:ops.length=1
  ·have ag:((ops.length:Int)=1)=True:=eq_true (by omega);simp(disch:=omega) only[ir29,W,ar,ag,go_sem];exact I _ _ _ _ nofun rfl (by simp[ah,y])
  ·have ag:¬ ((ops.length:Int)=1):=by omega
   simp(disch:=omega) only[ir29,W,ar,ag,go_sem];refine zx (ak _) λU H1 _=>?_;simp(disch:=omega) only[go_sem];refine za (a0 U) ?_;simp(disch:=omega) only[go_sem];exact I _ _ _ _ nofun rfl (by simp[ah,y])
 rw[if_neg Y]at A;by_cases Z:n=3
 ·subst Z;rw[if_pos rfl]at A;subst A;by_cases z:sm=[]
  ·have a2:=eq_true z;simp(disch:=omega) only[ir29,a2,go_sem];refine za al ?_;simp(disch:=omega) only[go_sem];exact I _ _ _ _ nofun rfl (by simp[z])
  ·simp(disch:=omega) only[ir29,z,go_sem];exact I _ _ _ _ nofun rfl (by simp[z])
 rw[if_neg Z]at A;by_cases aa:n=4
 ·subst aa;rw[if_pos rfl]at A;subst A;simp(disch:=omega) only[ir29,go_sem];refine zx (am _) λU H1 _=>?_;simp(disch:=omega) only[go_sem];refine za (a1 U) ?_;simp(disch:=omega) only[go_sem];exact I _ _ _ _ nofun rfl (by simp )
 rw[if_neg aa]at A;by_cases ab:n=5
 ·subst ab;rw[if_pos rfl]at A;subst A;simp(disch:=omega) only[ir29,go_sem];refine za an ?_;simp(disch:=omega) only[go_sem];exact I _ _ _ _ nofun rfl (by simp )
 rw[if_neg ab]at A;by_cases ac:n=6
 ·subst ac;rw[if_pos rfl]at A;subst A;simp(disch:=omega) only[ir29,go_sem];refine za ao ?_;simp(disch:=omega) only[go_sem];exact I _ _ _ _ nofun rfl (by simp )
 rw[if_neg ac]at A;by_cases ad:n=7
 ·subst ad;rw[if_pos rfl]at A;subst A;simp(disch:=omega) only[ir29,go_sem];refine za ap ?_;simp(disch:=omega) only[go_sem];exact I _ _ _ _ nofun rfl (by simp )
 rw[if_neg ad]at A;by_cases ae:n=8
 ·subst ae;rw[if_pos rfl]at A;subst A;simp(disch:=omega) only[ir29,go_sem];refine za aq ?_;simp(disch:=omega) only[go_sem];exact I _ _ _ _ nofun rfl (by simp )
 rw[if_neg ae]at A;subst A;simp(disch:=omega) only[ir29,X,Y,Z,aa,ab,ac,ad,ae,go_sem];exact I _ _ _ _ nofun rfl (by simp )
def zts(s:SchD)(a b:List UInt8):Bool:=(zb3 s a).any λx=>yo x (zb3 s b)
def zBJ(s:SchD)(a b:List UInt8)(an:zJ s+1<=Lim):ze Tryz.prog 143 [.agg (zm s),.str a,.str b] (.bool (zts s a b)):=by
 have ae:=zrY s a (by omega);have af:=zrY s b (by omega);have au:=ziI s a;have av:=ziI s b;have ar:zJ s+1<=1099511627776:=by simpa only[Lim]using an
 have ad:zts s a b=(zb3 s a).any λx=>yo x (zb3 s b):=rfl;generalize zts s a b=F at *
 generalize zb3 s a=ac at *
 generalize zb3 s b=W at *
 have U:=zG ac;have Z:=zG W;obtain⟨ax,ay,sm⟩:=s;simp only[zm]at ae af ⊢;refine ze.go ir143.1 ir143.2 (Al4 _) λKP Q ag=>?_;simp(disch:=omega) only[ir143,go_sem];refine za af ?_;simp(disch:=omega) only[go_sem];refine za ae ?_;simp(disch:=omega) only[U,go_sem];refine zf ac 20 (λ_:Unit=>[]) (λdone rest _ H=>(rest.any λx=>yo x W)=ac.any λx=>yo x W) () (by simp(disch:=omega) only[go_sem]) rfl ?_ ?_
 ·rintro _ H aj A J;simp(disch:=omega) only[U,J,go_sem];exact ag _ _ _ [.bool false] nofun rfl (by rw[ad,<-A];rfl)
 ·rintro done x rest _ H aj ao J _ A al;have aa:=YP ao;rw[List.any_cons]at A;simp(disch:=omega) only[U,J,Z,aa,go_sem];refine zf W 26 (λ_:Unit=>[]) (λdone rest _ H=>yo x rest=yo x W) () (by simp(disch:=omega) only[go_sem]) rfl ?_ ?_
  ·rintro _ ai ak I X;rw[<-I]at A;simp(disch:=omega) only[Z,X,go_sem];exact goJ (al () _ (by simpa[yo]using A)) (by simp(disch:=omega) only[wrap64,go_sem])
  ·rintro aq y aw _ ai ak ap X _ I am;have ah:=YP ap;simp only[yo]at I;by_cases Y:y=x
   ·rw[if_pos Y]at I;rw[<-I]at A;have ab:(x=y)=True:=eq_true Y.symm;simp(disch:=omega) only[U,J,Z,X,aa,ah,ab,go_sem];exact ag _ _ _ [.bool true] nofun rfl (by rw[ad,<-A];rfl)
   ·rw[if_neg Y]at I;have ab:¬ x=y:=λh=>Y h.symm;simp(disch:=omega) only[U,J,Z,X,aa,ah,ab,go_sem];exact goJ (am () _ I) (by simp(disch:=omega) only[wrap64,go_sem])
def YT(s:SchD)(o:OpD):List UInt8:=if o.k=1 then s.m else s.q
def zuw(s:SchD)(o:OpD):ze Tryz.prog 82 [.agg (zm s),.agg (cO o)] (.str (YT s o)):=by
 obtain⟨k,nm,vs,ds,W⟩:=o;obtain⟨J,U,sm⟩:=s;simp only[zm,zam];refine ze.go ir82.1 ir82.2 (Al4 _) λKP Q I=>?_;by_cases A:k=1
 ·subst A;simp(disch:=omega) only[ir82,go_sem];exact I _ _ _ _ nofun rfl (by simp[YT])
 ·simp(disch:=omega) only[ir82,A,go_sem];exact I _ _ _ _ nofun rfl (by simp[YT,A])
def y7(s:SchD)(typ:List UInt8):SelD->List UInt8| .mk k _ nm _ _ on _=>if k=0 then ((yH s typ nm).getD zF).t.nm else if k=2 then (if on=[]then typ else on)else []
def zh7(s:SchD)(typ:List UInt8)(x:SelD)(W:zJ s<=Lim):ze Tryz.prog 141 [.agg (zm s),.str typ,.agg (cS x)] (.str (y7 s typ x)):=by
 obtain⟨k,Y,nm,args,dirs,on,xs⟩:=x;have U:=zhk s typ nm W;simp only[y7];generalize (yH s typ nm).isSome=ag at *
 generalize (yH s typ nm).getD zF=f at *
 obtain⟨ae,af,⟨aa,ab,ac⟩,ad⟩:=f;obtain⟨ai,aj,sm⟩:=s;simp only[zm,zaM,y9]at U ⊢;refine ze.go ir141.1 ir141.2 (Al4 _) λKP Q A=>?_;by_cases I:k=0
 ·subst I;simp(disch:=omega) only[ir141,go_sem];refine za U ?_;simp(disch:=omega) only[go_sem];refine zc λZ ah=>?_;simp(disch:=omega) only[go_sem];exact A _ _ _ _ nofun rfl (by simp )
 by_cases J:k=2
 ·subst J;by_cases ho:on=[]
  ·have X:=eq_true ho;simp(disch:=omega) only[ir141,X,go_sem];exact A _ _ _ _ nofun rfl (by simp[ho])
  ·simp(disch:=omega) only[ir141,ho,go_sem];exact A _ _ _ _ nofun rfl (by simp[ho])
 ·simp(disch:=omega) only[ir141,I,J,go_sem];exact A _ _ _ _ nofun rfl (by simp[I,J])
def zlk(s:SchD)(typ:List UInt8):SelD->Bool| .mk k _ nm _ _ _ _=>!decide (k=0)||(yH s typ nm).isSome
def zy5(s:SchD)(typ:List UInt8)(x:SelD)(W:zJ s<=Lim):ze Tryz.prog 65 [.agg (zm s),.str typ,.agg (cS x)] (.bool (zlk s typ x)):=by
 obtain⟨k,Y,nm,args,dirs,on,xs⟩:=x;have I:=zhk s typ nm W;simp only[zlk];generalize (yH s typ nm).isSome=af at *
 generalize (yH s typ nm).getD zF=f at *
 obtain⟨ad,ae,⟨Z,aa,ab⟩,ac⟩:=f;obtain⟨ag,ah,sm⟩:=s;simp only[zm,zaM,y9]at I ⊢;refine ze.go ir65.1 ir65.2 (Al4 _) λKP Q J=>?_;by_cases A:k=0
 ·subst A;simp(disch:=omega) only[ir65,go_sem];refine za I ?_;simp(disch:=omega) only[go_sem];refine zc λU X=>?_;simp(disch:=omega) only[go_sem];exact J _ _ _ _ nofun rfl (by simp )
 ·simp(disch:=omega) only[ir65,A,go_sem];refine za I ?_;simp(disch:=omega) only[go_sem];refine zc λU X=>?_;simp(disch:=omega) only[A,go_sem];exact J _ _ _ _ nofun rfl (by simp[A])
mutual
def zzK(s:SchD)(p:List UInt8->SelD->Bool)(typ:List UInt8):SelD->Bool| .mk k al nm args dirs on sels=>p typ (.mk k al nm args dirs on sels)&&zaR s p (y7 s typ (.mk k al nm args dirs on [])) sels
def zaR(s:SchD)(p:List UInt8->SelD->Bool)(typ:List UInt8):List SelD->Bool
 | []=>true
 | x::r=>zzK s p typ x&&zaR s p typ r
end
def zlc(s:SchD)(typ:List UInt8)(k:Int)(A nm:List UInt8)(args:List Mem)(dirs:List DirD)(on:List UInt8)(xs I:List SelD):y7 s typ (.mk k A nm args dirs on xs)=y7 s typ (.mk k A nm args dirs on I):=rfl
def zsl(f:FuncId)(caps:List AV)(p:List UInt8->SelD->Bool)(B:Nat):Prop:=Program.callable Tryz.prog f=true/\∀typ x,bS x<=B->ze Tryz.prog f (.str typ::.agg (cS x)::caps) (.bool (p typ x))
def zuB(s:SchD)(f:FuncId)(caps:List AV)(p:List UInt8->SelD->Bool)(B:Nat)(sels:List SelD):Prop:=∀typ,bSs sels<=B->ze Tryz.prog 139 [.agg (zm s),.str typ,.sl .no 7 (cSs sels),.clo f [] caps] (.bool (zaR s p typ sels))
def zp1(s:SchD)(f:FuncId)(caps:List AV)(p:List UInt8->SelD->Bool)(B:Nat)(ao:zJ s<=Lim)(aj:B<=Lim)(ab:zsl f caps p B)(sels:List SelD)(aq:∀k A nm args dirs on xs,SelD.mk k A nm args dirs on xs∈sels->zuB s f caps p B xs):zuB s f caps p B sels:=by
 intro typ Z;have az:=Y9 sels;have ax:B<=1099511627776:=by simpa only[Lim]using aj
 have J:=YK sels;have X:=λx=>zh7 s typ x ao;have ae:=λk A nm args dirs on xs (h:SelD.mk k A nm args dirs on xs∈sels) (Z:bSs xs<=B)=>aq k A nm args dirs on xs h (y7 s typ (.mk k A nm args dirs on xs)) Z;obtain⟨ag,ah,sm⟩:=s;generalize al:(⟨ag,ah,sm⟩:SchD)=s at *
 have an:zm s=[.sl .no 6 (cEs ag),.str ah,.str sm]:=by rw[<-al];rfl
 simp only[an]at X ae ⊢;refine ze.go ir139.1 ir139.2 (Al4 _) λKP Q U=>?_;simp(disch:=omega) only[ir139,J,go_sem];refine zf sels 14 (λ_:Unit=>[(9,.bool true)]) (λdone rest _ H=>zaR s p typ rest=zaR s p typ sels) () (by simp(disch:=omega) only[go_sem]) rfl ?_ ?_
 ·rintro _ H ai I W;simp(disch:=omega) only[J,W,go_sem];exact U _ _ _ [.bool true] nofun rfl (by rw[<-I];rfl)
 ·rintro done x rest _ H ai aa W _ I ak;have ad:=zbo aa;have af:x∈sels:=by rw[aa];simp
  have am:=zpg af;have ac:=ab.2 typ x (by omega);have Y:=X x;rw[zaR]at I;obtain⟨k,A,nm,args,dirs,on,xs⟩:=x;have ap:=ae _ _ _ _ _ _ _ af (by simp only[bS]at am;omega);rw[zzK,zlc s typ k A nm args dirs on [] xs]at I;generalize y7 s typ (.mk k A nm args dirs on xs)=ar at *
  generalize p typ (.mk k A nm args dirs on xs)=au at *
  generalize zaR s p ar xs=av at *
  rw[y9]at ad ac Y;simp(disch:=omega) only[J,W,ad,go_sem];refine zc λaw ay=>?_;simp(disch:=omega) only[go_sem];refine⟨ab.1,za ac ?_⟩;cases au with
  | false =>simp(disch:=omega) only[go_sem];exact U _ _ _ [.bool false] nofun rfl (by rw[<-I];rfl)
  | true =>
   simp(disch:=omega) only[go_sem];refine za Y ?_;simp(disch:=omega) only[go_sem];refine za ap ?_;cases av with
   | false =>simp(disch:=omega) only[go_sem];exact U _ _ _ [.bool false] nofun rfl (by rw[<-I];rfl)
   | true =>simp(disch:=omega) only[go_sem];exact goJ (ak () _ (by simpa using I)) (by simp(disch:=omega) only[wrap64,go_sem])
def zAg(s:SchD)(f:FuncId)(caps:List AV)(p:List UInt8->SelD->Bool)(B:Nat)(U:zJ s<=Lim)(I:B<=Lim)(J:zsl f caps p B)(sels:List SelD):zuB s f caps p B sels:=by
 have h:∀x:SelD,∀k A nm args dirs on xs,x=.mk k A nm args dirs on xs->zuB s f caps p B xs:=SelD.ind λk A nm args dirs on sels X=>by intro ab Y ac Z aa ad xs e;cases e;exact zp1 s f caps p B U I J sels λk A nm args dirs on xs W=>X _ W _ _ _ _ _ _ _ rfl
 exact zp1 s f caps p B U I J sels λk A nm args dirs on xs _=>h _ k A nm args dirs on xs rfl
def Yr(s:SchD)(d:DocD)(p:List UInt8->SelD->Bool):Bool:=(d.ops.all λo=>zaR s p (YT s o) o.sels)&&d.frags.all λf=>zaR s p f.on f.sels
def zui(s:SchD)(d:DocD)(f:FuncId)(caps:List AV)(p:List UInt8->SelD->Bool)(aw:zJ s<=Lim)(ah:zw d<=Lim)(ar:zsl f caps p (zw d)):
  ze Tryz.prog 63 [.agg (zm s),.agg (zU d),.clo f [] caps] (.bool (Yr s d p)):=by
 have aa:=λsels=>zAg s f caps p (zw d) aw ah ar sels;have ag:=λo=>zuw s o;have ap:bOs d.ops+bFs d.frags<=1099511627776:=by simpa only[Lim,zw]using ah
 have av:=Zu d.ops;have au:=yC d.frags;have ab:=Z9 d.ops;have ac:=YO d.frags;have aj:=λ(o:OpD) (ho:o∈d.ops)=>(by obtain⟨a,b,J⟩:=List.append_of_mem ho;have:=YW a o b;rw[<-J]at this;simp only[bO]at this;simp only[zw];omega:bSs o.sels<=zw d);have ai:=λ(f:FragD) (h:f∈d.frags)=>(by have:=zcj h;have:=zaI f;simp only[zw];omega:bSs f.sels<=zw d);have Z:Yr s d p=((d.ops.all λo=>zaR s p (YT s o) o.sels)&&d.frags.all λf=>zaR s p f.on f.sels):=rfl;generalize Yr s d p=F at *
 obtain⟨ops,frags⟩:=d;simp only at ab ac av au ap aj ai Z;obtain⟨ak,al,sm⟩:=s;generalize ao:(⟨ak,al,sm⟩:SchD)=s at *
 have aq:zm s=[.sl .no 6 (cEs ak),.str al,.str sm]:=by rw[<-ao];rfl
 unfold zuB at aa;simp only[aq,zU]at aa ag ⊢;refine ze.go ir63.1 ir63.2 (Al4 _) λKP Q an=>?_;have fin:∀r,F=r->∀ρ H,zo ρ H ir63.1.res=some [.bool r]->Q .ret ρ H:=λr e ρ H am=>an _ ρ H _ nofun am (by rw[e];rfl);simp(disch:=omega) only[ir63,ab,go_sem];refine zf ops 14 (λ_:Unit=>[]) (λdone rest _ H=>(rest.all λo=>zaR s p (YT s o) o.sels)=ops.all λo=>zaR s p (YT s o) o.sels) () (by simp(disch:=omega) only[go_sem]) rfl ?_ ?_
 ·rintro _ H ad A U;simp(disch:=omega) only[ab,U,ac,go_sem];refine zf frags 31 (λ_:Unit=>[]) (λdone rest _ H=>(rest.all λf=>zaR s p f.on f.sels)=frags.all λf=>zaR s p f.on f.sels) () (by simp(disch:=omega) only[go_sem]) rfl ?_ ?_
  ·rintro _ H ad I U;simp(disch:=omega) only[ac,U,go_sem];exact fin true (by rw[Z,<-A,<-I];rfl) _ _ rfl
  ·rintro done x rest _ H ad J U _ I ae;have W:=zad J;have Y:=aa x.sels x.on (ai x (by rw[J];simp));rw[List.all_cons]at I;obtain⟨nm,on,ds,af⟩:=x;simp only at Y I;rw[Yp]at W;simp(disch:=omega) only[ac,U,W,go_sem];refine zc λay a0=>?_;simp(disch:=omega) only[go_sem];refine za Y ?_;cases X:zaR s p on af with
   | false =>rw[X]at I;simp(disch:=omega) only[go_sem];exact fin false (by rw[Z,<-I];simp) _ _ rfl
   | true =>rw[X]at I;simp(disch:=omega) only[go_sem];exact goJ (ae () _ (by simpa using I)) (by simp(disch:=omega) only[wrap64,go_sem])
 ·rintro done x rest _ H ad J U _ A ae;have W:=YJ J;have Y:=aa x.sels (YT s x) (aj x (by rw[J];simp));have hr:=ag x;rw[List.all_cons]at A;generalize YT s x=ax at *
  obtain⟨k,nm,vs,ds,af⟩:=x;simp only at Y A;rw[zam]at W hr;simp(disch:=omega) only[ab,U,W,go_sem];refine zc λaz a1=>?_;simp(disch:=omega) only[go_sem];refine za hr ?_;simp(disch:=omega) only[go_sem];refine za Y ?_;cases X:zaR s p ax af with
  | false =>rw[X]at A;simp(disch:=omega) only[go_sem];exact fin false (by rw[Z,<-A];simp) _ _ rfl
  | true =>rw[X]at A;simp(disch:=omega) only[go_sem];exact goJ (ae () _ (by simpa using A)) (by simp(disch:=omega) only[wrap64,go_sem])
def zpt(s:SchD)(typ:List UInt8):SelD->Bool| .mk k al nm args dirs on sels=>!decide (k=0)||((!zaT s (y7 s typ (.mk k al nm args dirs on sels))&&!Z4 s (y7 s typ (.mk k al nm args dirs on sels))) || (Z4 s (y7 s typ (.mk k al nm args dirs on sels))==decide (0<sels.length)))
def zy1(s:SchD)(typ:List UInt8)(x:SelD)(X:zJ s<=Lim):ze Tryz.prog 66 [.agg (zm s),.str typ,.agg (cS x)] (.bool (zpt s typ x)):=by
 have Z:=zh7 s typ x X;have Y:=yc X;have W:=zm1 s (y7 s typ x) Y;have I:=zie s (y7 s typ x) Y;obtain⟨k,ab,nm,args,dirs,on,xs⟩:=x;simp only[zpt];generalize y7 s typ (.mk k ab nm args dirs on xs)=t at *
 generalize zaT s t=ac at *
 generalize Z4 s t=aa at *
 have A:=YK xs;obtain⟨ad,ae,sm⟩:=s;simp only[zm,y9]at Z W I ⊢;refine ze.go ir66.1 ir66.2 (Al4 _) λKP Q J=>?_;by_cases U:k=0
 case neg =>simp(disch:=omega) only[ir66,U,go_sem];exact J _ _ _ _ nofun rfl (by simp[U])
 subst U;simp(disch:=omega) only[ir66,go_sem];refine za Z ?_;simp(disch:=omega) only[go_sem];refine za W ?_;cases ac with
 | true =>simp(disch:=omega) only[A,go_sem];refine za I ?_;simp(disch:=omega) only[A,go_sem];exact J _ _ _ _ nofun rfl (by cases aa<;>by_cases h:(0:Int)<xs.length<;>simp_all )
 | false =>
  simp(disch:=omega) only[A,go_sem];refine za I ?_;cases aa with
  | false =>simp(disch:=omega) only[A,go_sem];exact J _ _ _ _ nofun rfl (by simp )
  | true =>simp(disch:=omega) only[A,go_sem];refine za I ?_;simp(disch:=omega) only[A,go_sem];exact J _ _ _ _ nofun rfl (by by_cases h:(0:Int)<xs.length<;>simp_all )
def zpB(s:SchD)(d:DocD)(typ:List UInt8):SelD->Bool| .mk k _ nm _ _ on _=>if k=2 then decide (on=[])||zts s typ on else if k=1 then zts s typ ((yt d nm).getD zFr).on else true
def zxU(s:SchD)(d:DocD)(typ:List UInt8)(x:SelD)(Y:zJ s+1<=Lim)(Z:d.frags.length<=Lim):ze Tryz.prog 67 [.agg (zm s),.agg (zU d),.str typ,.agg (cS x)] (.bool (zpB s d typ x)):=by
 have U:=λn=>zBJ s typ n Y;obtain⟨k,ab,nm,args,dirs,on,xs⟩:=x;have W:=znl d nm Z;simp only[zpB];generalize (yt d nm).isSome=af at *
 generalize (yt d nm).getD zFr=f at *
 obtain⟨ae,X,ad,ag⟩:=f;obtain⟨ops,frags⟩:=d;obtain⟨ai,aj,sm⟩:=s;simp only[zm,zU,y9,Yp]at U W ⊢;refine ze.go ir67.1 ir67.2 (Al4 _) λKP Q A=>?_;by_cases J:k=2
 ·subst J;by_cases ho:on=[]
  ·have aa:=eq_true ho;simp(disch:=omega) only[ir67,aa,go_sem];exact A _ _ _ _ nofun rfl (by simp[ho])
  ·simp(disch:=omega) only[ir67,ho,go_sem];refine za (U on) ?_;simp(disch:=omega) only[go_sem];exact A _ _ _ _ nofun rfl (by simp[ho])
 by_cases I:k=1
 ·subst I;simp(disch:=omega) only[ir67,go_sem];refine za W ?_;simp(disch:=omega) only[go_sem];refine zc λac ah=>?_;simp(disch:=omega) only[go_sem];refine za (U X) ?_;simp(disch:=omega) only[go_sem];exact A _ _ _ _ nofun rfl (by simp )
 ·simp(disch:=omega) only[ir67,I,J,go_sem];exact A _ _ _ _ nofun rfl (by simp[I,J])
def zul(s:SchD)(d:DocD)(n:Int)(typ:List UInt8)(x:SelD):Bool:=if n=9 then zlk s typ x else if n=10 then zpt s typ x else if n=11 then zpB s d typ x else false
def zrr(s:SchD)(d:DocD)(n:Int)(Z:zJ s+1<=Lim)(aa:d.frags.length<=Lim)(typ:List UInt8)(x:SelD):ze Tryz.prog 64 [.str typ,.agg (cS x),.view [.int .i64 n],.view (zm s),.view (zU d)] (.bool (zul s d n typ x)):=by
 have W:=zy5 s typ x (by omega);have X:=zy1 s typ x (by omega);have Y:=zxU s d typ x Z aa;unfold zul;generalize zlk s typ x=ae at *
 generalize zpt s typ x=af at *
 generalize zpB s d typ x=ag at *
 obtain⟨k,ab,nm,args,dirs,on,xs⟩:=x;obtain⟨ops,frags⟩:=d;obtain⟨ac,ad,sm⟩:=s;simp only[zm,zU,y9]at W X Y ⊢;refine ze.go ir64.1 ir64.2 (Al4 _) λKP Q A=>?_;by_cases I:n=9
 ·subst I;simp(disch:=omega) only[ir64,go_sem];refine za W ?_;simp(disch:=omega) only[go_sem];exact A _ _ _ _ nofun rfl (by simp )
 by_cases J:n=10
 ·subst J;simp(disch:=omega) only[ir64,go_sem];refine za X ?_;simp(disch:=omega) only[go_sem];exact A _ _ _ _ nofun rfl (by simp )
 by_cases U:n=11
 ·subst U;simp(disch:=omega) only[ir64,go_sem];refine za Y ?_;simp(disch:=omega) only[go_sem];exact A _ _ _ _ nofun rfl (by simp )
 ·simp(disch:=omega) only[ir64,I,J,U,go_sem];exact A _ _ _ _ nofun rfl (by simp[I,J,U])
def zd4(s:SchD)(d:DocD)(n:Int):Bool:=Yr s d (zul s d n)&&(decide (9<=n)&&decide (n<=11))
def zrS(s:SchD)(d:DocD)(n:Int)(W:zJ s+1<=Lim)(U:zw d<=Lim):ze Tryz.prog 30 [.agg (zm s),.agg (zU d),.int .i64 n] (.bool (zd4 s d n)):=by
 have Z:=yC d.frags;have Y:bOs d.ops+bFs d.frags<=Lim:=U;have J:=zui s d 64 [.view [.int .i64 n],.view (zm s),.view (zU d)] (zul s d n) (by omega) U ⟨by kernel_rfl,λtyp x _=>zrr s d n W (by omega) typ x⟩;unfold zd4;generalize Yr s d (zul s d n)=X at *
 obtain⟨ops,frags⟩:=d;obtain⟨aa,ab,sm⟩:=s;simp only[zm,zU]at J ⊢;refine ze.go ir30.1 ir30.2 (Al4 _) λKP Q I=>?_;simp(disch:=omega) only[ir30,go_sem];refine za J ?_;cases X with
 | false =>simp(disch:=omega) only[go_sem];exact I _ _ _ _ nofun rfl (by simp )
 | true =>
  by_cases A:9<=n
  ·simp(disch:=omega) only[A,go_sem];exact I _ _ _ _ nofun rfl (by simp[A])
  ·simp(disch:=omega) only[A,go_sem];exact I _ _ _ _ nofun rfl (by simp[A])
def zid(nm:List UInt8)(args:List Mem):cD ⟨nm,args⟩=[.str nm,.sl .no 6 (cMs args)]:=rfl
def zb0(n:List UInt8):Option VarD:=if n=[115,107,105,112]∨n=[105,110,99,108,117,100,101]then some ⟨[105,102],⟨[66,111,111,108,101,97,110],0,1⟩,false,zV⟩else none
def zku(n:List UInt8):ze Tryz.prog 145 [.str n] (.tup [.agg (cW ((zb0 n).getD zW)),.bool (zb0 n).isSome]):=by
 refine ze.go ir145.1 ir145.2 (Al4 _) λKP Q Y=>?_;have fin:∀o,zb0 n=o->∀ρ H vs,zo ρ H ir145.1.res=some vs->(zP vs).strip=.tup [.agg (cW (o.getD zW)),.bool o.isSome]->Q .ret ρ H:=λo e ρ H vs A I=>Y _ ρ H vs nofun A (by rw[I,e]);by_cases A:n=[115,107,105,112]
 ·have e:zb0 n=some ⟨[105,102],⟨[66,111,111,108,101,97,110],0,1⟩,false,zV⟩:=if_pos (.inl A);have W:=eq_true A;simp(disch:=omega) only[ir145,go_sem];refine zc λJ U=>?_;simp(disch:=omega) only[W,go_sem];exact fin _ e _ _ [.agg [.str [105,102],.str [66,111,111,108,101,97,110],.int .i64 0,.int .i64 1,.bool false,.int .i64 0,.int .i64 0,.str [],.sl .nil 5 [],.sl .nil 6 []],.bool true] (by simp(disch:=omega) only[ir145,zo,z8,go_sem]) rfl
 by_cases I:n=[105,110,99,108,117,100,101]
 ·have e:zb0 n=some ⟨[105,102],⟨[66,111,111,108,101,97,110],0,1⟩,false,zV⟩:=if_pos (.inr I);have X:=eq_true I;simp(disch:=omega) only[ir145,go_sem];refine zc λJ U=>?_;simp(disch:=omega) only[A,X,go_sem];exact fin _ e _ _ [.agg [.str [105,102],.str [66,111,111,108,101,97,110],.int .i64 0,.int .i64 1,.bool false,.int .i64 0,.int .i64 0,.str [],.sl .nil 5 [],.sl .nil 6 []],.bool true] (by simp(disch:=omega) only[ir145,zo,z8,go_sem]) rfl
 have e:zb0 n=none:=if_neg (λh=>h.elim A I);simp(disch:=omega) only[ir145,go_sem];refine zc λJ U=>?_;simp(disch:=omega) only[A,I,go_sem];exact fin _ e _ _ [.agg [.str [],.str [],.int .i64 0,.int .i64 0,.bool false,.int .i64 0,.int .i64 0,.str [],.sl .nil 5 [],.sl .nil 6 []],.bool false] (by simp(disch:=omega) only[ir145,zo,z8,go_sem]) rfl
def Yf(l:List DirD):Bool:=l.all λd=>(zb0 d.nm).isSome
def zqD(l:List DirD)(ae:l.length<=Lim):ze Tryz.prog 69 [.sl .no 2 (cDs l)] (.bool (Yf l)):=by
 refine ze.go ir69.1 ir69.2 (Al4 _) λKP Q X=>?_;have J:=Y4 l;simp only[Lim]at ae;simp(disch:=omega) only[ir69,J,go_sem];refine zf l 9 (λ_:Unit=>[]) (λdone rest _ H=>Yf rest=Yf l) () (by simp(disch:=omega) only[go_sem]) rfl ?_ ?_
 ·rintro _ H aa A U;simp(disch:=omega) only[J,U,go_sem];exact X _ _ _ [.bool true] nofun rfl (by rw[<-A];rfl)
 ·rintro done x rest _ H aa ad U _ A ab;have Y:=zbb ad;have af:Yf (x::rest)=((zb0 x.nm).isSome&&Yf rest):=by simp[Yf]
  rw[af]at A;obtain⟨nm,args⟩:=x;have W:=zku nm;simp only at A;rw[zid]at Y;generalize (zb0 nm).getD zW=w at *
  obtain⟨ap,⟨aj,ak,al⟩,am,⟨wk,aq,ar,an,ao⟩⟩:=w;rw[z7]at W;simp(disch:=omega) only[J,U,Y,go_sem];refine zc λag ai=>?_;simp(disch:=omega) only[go_sem];refine za W ?_;simp(disch:=omega) only[go_sem];refine zc λah ac=>?_;have I:=yS ac;cases Z:(zb0 nm).isSome with
  | false =>rw[Z]at A;simp(disch:=omega) only[I,Ne.symm I,go_sem];exact X _ _ _ [.bool false] nofun rfl (by rw[<-A];rfl)
  | true =>rw[Z]at A;simp(disch:=omega) only[I,Ne.symm I,go_sem];exact goJ (ab () _ (by simpa using A)) (by simp(disch:=omega) only[wrap64,go_sem])
def zqT(l:List DirD):ze Tryz.prog 71 [.sl .no 2 (cDs l)] (.bool (decide (l.length=0))):=by have A:=Y4 l;refine ze.go ir71.1 ir71.2 (Al4 _) λKP Q I=>?_;simp(disch:=omega) only[ir71,A,go_sem];exact I _ _ _ _ nofun rfl (by simp )
def cLD(l:List (List DirD)):List (List AV):=l.map λx=>[.sl .no 2 (cDs x)]
def zh3(l:List (List DirD)):(cLD l).length=l.length:=by simp[cLD]
def zwD{l a:List (List DirD)}{x:List DirD}{b:List (List DirD)}(h:l=a++x::b):(cLD l).getD a.length []=[.sl .no 2 (cDs x)]:=yz h
def zet(d:DocD):List (List DirD):=d.ops.map (·.dirs)++d.frags.map (·.dirs)
def zBG(d:DocD)(H:zb)(am:zw d<=Lim):YG Tryz.prog 144 [.agg (zU d)] H .nil 1 (cLD (zet d)):=by
 obtain⟨ops,frags⟩:=d;have au:bOs ops+bFs frags<=1099511627776:=by simpa only[Lim,zw]using am
 have ai:=Z9 ops;have aj:=YO frags;have av:=Zu ops;have aw:=yC frags;rw[show zU ⟨ops,frags⟩=[.sl .no 5 (cOs ops),.sl .no 4 (cFs frags)] from rfl];refine zd.goO ir144.1 ir144.2 (Al4 _) λKP Q al ar=>?_;simp(disch:=omega) only[ir144,ai,go_sem];refine zf ops 11 (λx:Own×List (List DirD)=>[(3,.sl x.1 1 (cLD x.2))]) (λdone rest x H'=>x.2=done.map (·.dirs)/\OwnS H .nil H' x.1 done.length 1) (.nil,[]) (by simp(disch:=omega) only[cLD,List.map,go_sem]) ⟨rfl,OwnS.refl (o:=.nil) (n:=0) rfl⟩ ?_ ?_
 ·rintro⟨aa,a⟩ H1 ad ⟨J,A⟩ U;simp only at J;subst J;replace A:OwnS H .nil H1 aa ops.length 1:=A;simp(disch:=omega) only[ai,U,aj,go_sem];refine zf frags 24 (λx:Own×List (List DirD)=>[(3,.sl x.1 1 (cLD x.2))]) (λdone rest x H'=>x.2=ops.map (·.dirs)++done.map (·.dirs)/\OwnS H .nil H' x.1 (ops.length+done.length) 1) (aa,ops.map (·.dirs)) (by simp(disch:=omega) only[go_sem]) ⟨by simp,A⟩ ?_ ?_
  ·rintro⟨ab,a⟩ Z ad ⟨J,A⟩ U;simp only at J;subst J;simp(disch:=omega) only[aj,U,go_sem];refine al _ _ Z Z [.sl ab 1 (cLD (zet ⟨ops,frags⟩))] nofun (by simp(disch:=omega) only[ir144,zo,z8,zet,go_sem]) (Low.refl _) ⟨ab,rfl,by rw[zh3];simpa[zet]using A⟩
  ·rintro done x rest ⟨ab,a⟩ Z ad ag U _ ⟨J,A⟩ af;have W:=zad ag;simp only at J;subst J;have I:=zh3 (ops.map (·.dirs)++done.map (·.dirs));simp only[Al5,List.length_map]at I;replace A:OwnS H .nil Z ab (ops.length+done.length) 1:=A;obtain⟨nm,on,ds,ak⟩:=x;rw[Yp]at W;simp(disch:=omega) only[aj,U,W,go_sem];refine zc λaq ao=>?_;have Y:=A.upd (x:=.cells [.str nm,.str on,.sl .no 2 (cDs ds),.sl .no 7 (cSs ak)]) ao;simp(disch:=omega) only[go_sem];refine zj (by rw[I];exact Y.own) ?_ ?_ λo' ac ah=>?_
   ·simp only[I,Al2,Al3];omega
   ·simp only[I,Al2,Al3,maxLen];omega
   have ae:cLD (ops.map (·.dirs)++done.map (·.dirs))++[[AV.sl .no 2 (cDs ds)]]=cLD (ops.map (·.dirs)++(done.map (·.dirs)++[ds])):=by simp[cLD]
   have X:=Y.trans ah;simp only[I,Al2,Al3]at X;simp(disch:=omega) only[wrap64,ae,go_sem];exact goJ (af (o',ops.map (·.dirs)++(done.map (·.dirs)++[ds])) ac ⟨by simp,by simpa[Nat.add_assoc]using X⟩) (by simp(disch:=omega) only[wrap64,go_sem])
 ·rintro done x rest ⟨aa,a⟩ H1 ad ag U _ ⟨J,A⟩ af;have W:=YJ ag;simp only at J;subst J;have I:=zh3 (done.map (·.dirs));simp only[List.length_map]at I;replace A:OwnS H .nil H1 aa done.length 1:=A;obtain⟨k,nm,vs,ds,ak⟩:=x;rw[zam]at W;simp(disch:=omega) only[ai,U,W,go_sem];refine zc λap an=>?_;have Y:=A.upd (x:=.cells [.int .i64 k,.str nm,.sl .no 10 (cWs vs),.sl .no 2 (cDs ds),.sl .no 7 (cSs ak)]) an;simp(disch:=omega) only[go_sem];refine zj (by rw[I];exact Y.own) ?_ ?_ λo' ac ah=>?_
  ·simp only[I,Al2,Al3];omega
  ·simp only[I,Al2,Al3,maxLen];omega
  have ae:cLD (done.map (·.dirs))++[[AV.sl .no 2 (cDs ds)]]=cLD (done.map (·.dirs)++[ds]):=by simp[cLD]
  have X:=Y.trans ah;simp only[I,Al2,Al3]at X;simp(disch:=omega) only[wrap64,ae,go_sem];exact goJ (af (o',done.map (·.dirs)++[ds]) ac ⟨by simp,by simpa using X⟩) (by simp(disch:=omega) only[wrap64,go_sem])
def zsq(f:FuncId)(p:List DirD->Bool):Prop:=Program.callable Tryz.prog f=true/\∀l:List DirD,l.length<=Lim->ze Tryz.prog f [.sl .no 2 (cDs l)] (.bool (p l))
def zuu{d:DocD}{l:List DirD}(h:l∈zet d):l.length<=zw d:=by
 simp only[zet,List.mem_append,List.mem_map]at h;rcases h with ⟨o,ho,rfl⟩|⟨f,J,rfl⟩
 ·obtain⟨a,b,I⟩:=List.append_of_mem ho;have:=YW a o b;have A:=zbh o.dirs;rw[<-I]at this;simp only[bO]at this;simp only[zw];omega
 ·have:=zcj J;have A:=zbh f.dirs;simp only[bF]at this;simp only[zw];omega
def zoW(d:DocD)(f:FuncId)(p:List DirD->Bool)(X:zw d<=Lim)(Z:zsq f p):ze Tryz.prog 68 [.agg (zU d),.clo f [] []] (.bool ((zet d).all p)):=by
 have U:=λH=>zBG d H X;have ae:=λl (h:l∈zet d)=>Z.2 l (by have:=zuu h;omega);have aj:=Zu d.ops;have ai:=yC d.frags;have ah:bOs d.ops+bFs d.frags<=1099511627776:=by simpa only[Lim,zw]using X
 have hlen:(zet d).length<=1099511627776:=by simp only[zet,Al5,List.length_map];omega
 generalize zet d=L at *
 have J:=zh3 L;obtain⟨ops,frags⟩:=d;simp only[zU]at U ⊢;refine ze.go ir68.1 ir68.2 (Al4 _) λKP Q W=>?_;simp(disch:=omega) only[ir68,go_sem];refine zx (U _) λal ag ak=>?_;simp(disch:=omega) only[J,go_sem];refine zf L 10 (λ_:Unit=>[]) (λdone rest _ H=>rest.all p=L.all p) () (by simp(disch:=omega) only[go_sem]) rfl ?_ ?_
 ·rintro _ H ab A I;simp(disch:=omega) only[J,I,go_sem];exact W _ _ _ [.bool true] nofun rfl (by rw[<-A];rfl)
 ·rintro done x rest _ H ab Y I _ A ac;have ad:=zwD Y;have af:=ae x (by rw[Y];simp);rw[List.all_cons]at A;simp(disch:=omega) only[J,I,ad,go_sem];refine⟨Z.1,za af ?_⟩;cases aa:p x with
  | false =>rw[aa]at A;simp(disch:=omega) only[go_sem];exact W _ _ _ [.bool false] nofun rfl (by rw[<-A];rfl)
  | true =>rw[aa]at A;simp(disch:=omega) only[go_sem];exact goJ (ac () _ (by simpa using A)) (by simp(disch:=omega) only[wrap64,go_sem])
def zem:SelD->List DirD| .mk _ _ _ _ dirs _ _=>dirs
def zkP(s:SchD)(d:DocD)(f:FuncId)(p:List DirD->Bool)(X:zJ s<=Lim)(W:zw d<=Lim)(J:zsq f p):ze Tryz.prog 70 [.agg (zm s),.agg (zU d),.clo f [] []] (.bool (Yr s d λ_ x=>p (zem x))):=by
 have I:=zui s d 146 [.view [.clo f [] []]] (λ_ x=>p (zem x)) X W ⟨by kernel_rfl,λtyp x Y=>by obtain⟨k,Z,nm,args,dirs,on,xs⟩:=x;have aa:=zbh dirs;have U:=J.2 dirs (by simp only[bS]at Y;omega);simp only[zem];rw[y9];refine ze.go ir146.1 ir146.2 (Al4 _) λKP Q A=>?_;simp(disch:=omega) only[ir146,go_sem];refine⟨J.1,za U ?_⟩;simp(disch:=omega) only[go_sem];exact A _ _ _ _ nofun rfl (by simp )⟩;generalize (Yr s d λ_ x=>p (zem x))=ad at *
 obtain⟨ops,frags⟩:=d;obtain⟨ab,ac,sm⟩:=s;simp only[zm,zU]at I ⊢;refine ze.go ir70.1 ir70.2 (Al4 _) λKP Q A=>?_;simp(disch:=omega) only[ir70,go_sem];refine za I ?_;simp(disch:=omega) only[go_sem];exact A _ _ _ _ nofun rfl (by simp )
def zdZ:List DirD->List DirD->Bool
 | _,[]=>true
 | a,x::r=>!(a.any λy=>decide (y.nm=x.nm))&&zdZ (a++[x]) r
def zb7(l:List DirD):Bool:=zdZ [] l
def ztX(l:List DirD)(ar:l.length<=Lim):ze Tryz.prog 72 [.sl .no 2 (cDs l)] (.bool (zb7 l)):=by
 refine ze.go ir72.1 ir72.2 (Al4 _) λKP Q ad=>?_;have W:=Y4 l;have an:zb7 l=zdZ [] l:=rfl;generalize zb7 l=F at *
 simp only[Lim]at ar;simp(disch:=omega) only[ir72,W,go_sem];refine zf l 10 (λ_:Unit=>[(3,.bool true)]) (λdone rest _ H=>zdZ done rest=F) () (by simp(disch:=omega) only[go_sem]) an.symm ?_ ?_
 ·rintro _ H aj A aa;simp(disch:=omega) only[W,aa,go_sem];exact ad _ _ _ [.bool true] nofun rfl (by rw[<-A];rfl)
 ·rintro done x rest _ H aj af aa _ A ao;have ag:=zbb af;have av:(cDs l).take done.length=cDs done:=by rw[af];simp[cDs]
  have au:(done.length:Int)<=l.length:=by omega
  have Z:=Y4 done;simp only[zdZ]at A;obtain⟨nm,args⟩:=x;simp only at A;rw[zid]at ag;simp(disch:=omega) only[W,aa,ag,go_sem];refine zc λac ay=>?_;simp(disch:=omega) only[av,au,W,Z,go_sem];refine zf done 19 (λ_:Unit=>[]) (λam ai _ Y=>Y ac=some (.cells [.str nm,.sl .no 6 (cMs args)])/\(ai.any λy=>decide (y.nm=nm))=done.any λy=>decide (y.nm=nm)) () (by simp(disch:=omega) only[go_sem]) ⟨upd_same ..,rfl⟩ ?_ ?_
  ·rintro _ Y ak ⟨U,I⟩ ab;rw[<-I]at A;simp(disch:=omega) only[Z,ab,go_sem];exact goJ (ao () _ (by simpa using A)) (by simp(disch:=omega) only[wrap64,go_sem])
  ·rintro am y ai _ Y ak aq ab _ ⟨U,I⟩ ap;have ah:=zbb aq;rw[List.any_cons]at I;obtain⟨ax,az⟩:=y;simp only at I;rw[zid]at ah;simp(disch:=omega) only[Z,ab,ah,go_sem];refine zc λal ae=>?_;have J:ac≠al:=λe=>by subst e;rw[U]at ae;cases ae
   by_cases X:ax=nm
   ·rw[<-I]at A;have aw:=eq_true X;simp(disch:=omega) only[U,J,Ne.symm J,aw,go_sem];exact ad _ _ _ [.bool false] nofun rfl (by rw[<-A];simp[X,zP,AV.strip,AV.strip1])
   ·simp(disch:=omega) only[U,J,Ne.symm J,X,go_sem];exact goJ (ap () _ ⟨by simp(disch:=omega) only[U,J,Ne.symm J,go_sem],by rw[<-I];simp[X]⟩) (by simp(disch:=omega) only[wrap64,go_sem])
def zeb(s:SchD)(d:DocD)(n:Int):Bool :=
 if n=12 then (zet d).all Yf&&Yr s d (λ_ x=>Yf (zem x))else if n=13 then (zet d).all (λl=>decide (l.length=0))
 else if n=14 then (zet d).all zb7&&Yr s d (λ_ x=>zb7 (zem x))else false
def zsV(s:SchD)(d:DocD)(n:Int)(ae:zJ s<=Lim)(I:zw d<=Lim):ze Tryz.prog 31 [.agg (zm s),.agg (zU d),.int .i64 n] (.bool (zeb s d n)):=by
 have X:zsq 69 Yf:=⟨by kernel_rfl,zqD⟩;have af:zsq 71 (λl=>decide (l.length=0)):=⟨by kernel_rfl,λl _=>zqT l⟩;have Y:zsq 72 zb7:=⟨by kernel_rfl,ztX⟩;have Z:=zoW d _ _ I X;have aa:=zoW d _ _ I af;have ab:=zoW d _ _ I Y;have ac:=zkP s d _ _ ae I X;have ad:=zkP s d _ _ ae I Y;unfold zeb;generalize (zet d).all Yf=ag at *
 generalize (zet d).all zb7=ah at *
 generalize ((zet d).all λl=>decide (l.length=0))=ak at *
 generalize (Yr s d λ_ x=>Yf (zem x))=al at *
 generalize (Yr s d λ_ x=>zb7 (zem x))=am at *
 obtain⟨ops,frags⟩:=d;obtain⟨ai,aj,sm⟩:=s;simp only[zm,zU]at Z aa ab ac ad ⊢;refine ze.go ir31.1 ir31.2 (Al4 _) λKP Q A=>?_;by_cases J:n=12
 ·subst J;simp(disch:=omega) only[ir31,go_sem];refine za Z ?_;cases ag with
  | false =>simp(disch:=omega) only[go_sem];exact A _ _ _ _ nofun rfl (by simp )
  | true =>simp(disch:=omega) only[go_sem];refine za ac ?_;simp(disch:=omega) only[go_sem];exact A _ _ _ _ nofun rfl (by simp )
 by_cases U:n=13
 ·subst U;simp(disch:=omega) only[ir31,go_sem];refine za aa ?_;simp(disch:=omega) only[go_sem];exact A _ _ _ _ nofun rfl (by simp )
 by_cases W:n=14
 ·subst W;simp(disch:=omega) only[ir31,go_sem];refine za ab ?_;cases ah with
  | false =>simp(disch:=omega) only[go_sem];exact A _ _ _ _ nofun rfl (by simp )
  | true =>simp(disch:=omega) only[go_sem];refine za ad ?_;simp(disch:=omega) only[go_sem];exact A _ _ _ _ nofun rfl (by simp )
 ·simp(disch:=omega) only[ir31,J,U,W,go_sem];exact A _ _ _ _ nofun rfl (by simp[J,U,W])
def mN:Mem->List UInt8| .mk n _=>n
def zae(ps:List VarD)(l:List Mem):Bool:=l.all λm=>(ya ps (mN m)).isSome
def zrC(ps:List VarD)(l:List Mem)(ag:ps.length<=Lim)(af:l.length<=Lim):ze Tryz.prog 74 [.sl .no 10 (cWs ps),.sl .no 6 (cMs l)] (.bool (zae ps l)):=by
 refine ze.go ir74.1 ir74.2 (Al4 _) λKP Q X=>?_;have J:=yU l;have ac:=λn=>zf4 ps n ag;simp only[Lim]at af;simp(disch:=omega) only[ir74,J,go_sem];refine zf l 11 (λ_:Unit=>[]) (λdone rest _ H=>zae ps rest=zae ps l) () (by simp(disch:=omega) only[go_sem]) rfl ?_ ?_
 ·rintro _ H aa A U;simp(disch:=omega) only[J,U,go_sem];exact X _ _ _ [.bool true] nofun rfl (by rw[<-A];rfl)
 ·rintro done x rest _ H aa ae U _ A ab;have Y:=Zz ae;have ah:zae ps (x::rest)=((ya ps (mN x)).isSome&&zae ps rest):=by simp[zae]
  rw[ah]at A;obtain⟨nm,⟨aw,az,xs,ax,ay⟩⟩:=x;simp only[mN]at A;have W:=ac nm;rw[zu,yj]at Y;generalize (ya ps nm).getD zW=w at *
  obtain⟨ar,⟨al,am,an⟩,ao,⟨wk,au,av,ap,aq⟩⟩:=w;rw[z7]at W;simp(disch:=omega) only[J,U,Y,go_sem];refine zc λai ak=>?_;simp(disch:=omega) only[go_sem];refine za W ?_;simp(disch:=omega) only[go_sem];refine zc λaj ad=>?_;have I:=yS ad;cases Z:(ya ps nm).isSome with
  | false =>rw[Z]at A;simp(disch:=omega) only[I,Ne.symm I,go_sem];exact X _ _ _ [.bool false] nofun rfl (by rw[<-A];rfl)
  | true =>rw[Z]at A;simp(disch:=omega) only[I,Ne.symm I,go_sem];exact goJ (ab () _ (by simpa using A)) (by simp(disch:=omega) only[wrap64,go_sem])
def znV(ps:List VarD)(l:List Mem)(ag:bWs ps<=Lim)(af:l.length<=Lim):ze Tryz.prog 76 [.sl .no 10 (cWs ps),.sl .no 6 (cMs l)] (.bool (zfd ps l)):=by
 refine ze.go ir76.1 ir76.2 (Al4 _) λKP Q Y=>?_;have J:=Zk ps;have av:=yJ ps;have ah:=ag;simp only[Lim]at ah;simp(disch:=omega) only[ir76,J,go_sem];refine zf ps 11 (λ_:Unit=>[]) (λdone rest _ H=>zfd rest l=zfd ps l) () (by simp(disch:=omega) only[go_sem]) rfl ?_ ?_
 ·rintro _ H ac A W;simp(disch:=omega) only[J,W,go_sem];exact Y _ _ _ [.bool true] nofun rfl (by rw[<-A];rfl)
 ·rintro done x rest _ H ac aa W _ A X;have ab:=Ya aa;have Z:=zxM x (by have:=@YL x ps (by rw[aa];simp);simp only[bW]at this;simp only[Lim];omega);have U:=zuX x.nm l af;have ai:zfd (x::rest) l=(((zcA x.nm l).2||!zi0 x)&&zfd rest l):=by simp[zfd]
  rw[ai]at A;generalize zi0 x=aj at *
  obtain⟨nm,⟨aw,ax,ay⟩,au,⟨az,a2,xs,a0,a1⟩⟩:=x;rw[z7]at ab Z;simp only at U A;generalize zcA nm l=g at *
  obtain⟨⟨am,ap,aq,an,ao⟩,ad⟩:=g;simp only[yj]at U;simp(disch:=omega) only[J,W,ab,go_sem];refine zc λak ar=>?_;simp(disch:=omega) only[go_sem];refine za U ?_;simp(disch:=omega) only[go_sem];refine zc λal ae=>?_;have I:=yS ae;cases ad with
  | true =>simp(disch:=omega) only[I,Ne.symm I,go_sem];exact goJ (X () _ (by simpa using A)) (by simp(disch:=omega) only[wrap64,go_sem])
  | false =>
   simp(disch:=omega) only[I,Ne.symm I,go_sem];refine za Z ?_;cases aj with
   | true =>simp(disch:=omega) only[go_sem];exact Y _ _ _ [.bool false] nofun rfl (by rw[<-A];rfl)
   | false =>simp(disch:=omega) only[go_sem];exact goJ (X () _ (by simpa using A)) (by simp(disch:=omega) only[wrap64,go_sem])
def zag:List Mem->List Mem->Bool
 | _,[]=>true
 | a,x::r=>!(zcA (mN x) a).2&&zag (a++[x]) r
def ztg(l:List Mem)(ae:l.length<=Lim):ze Tryz.prog 150 [.sl .no 6 (cMs l)] (.bool (zag [] l)):=by
 refine ze.go ir150.1 ir150.2 (Al4 _) λKP Q X=>?_;have I:=yU l;simp only[Lim]at ae;simp(disch:=omega) only[ir150,I,go_sem];refine zf l 9 (λ_:Unit=>[]) (λdone rest _ H=>zag done rest=zag [] l) () (by simp(disch:=omega) only[go_sem]) rfl ?_ ?_
 ·rintro _ H aa A U;simp(disch:=omega) only[I,U,go_sem];exact X _ _ _ [.bool true] nofun rfl (by rw[<-A];rfl)
 ·rintro done x rest _ H aa Y U _ A ac;have Z:=Zz Y;have ag:(cMs l).take done.length=cMs done:=by rw[zaE,zaE,Y];simp
  have af:(done.length:Int)<=l.length:=by omega
  obtain⟨nm,⟨ap,au,xs,aq,ar⟩⟩:=x;simp only[zag,mN]at A;have W:=zuX nm done (by simp only[Lim];omega);rw[zu,yj]at Z;generalize zcA nm done=g at *
  obtain⟨⟨aj,am,an,ak,al⟩,ab⟩:=g;simp only[yj]at W A;simp(disch:=omega) only[I,U,Z,go_sem];refine zc λah ao=>?_;simp(disch:=omega) only[I,af,ag,go_sem];refine za W ?_;simp(disch:=omega) only[go_sem];refine zc λai ad=>?_;have J:=yS ad;cases ab with
  | true =>simp(disch:=omega) only[J,Ne.symm J,go_sem];exact X _ _ _ [.bool false] nofun rfl (by rw[<-A];rfl)
  | false =>simp(disch:=omega) only[J,Ne.symm J,go_sem];exact goJ (ac () _ (by simpa using A)) (by simp(disch:=omega) only[wrap64,go_sem])
def zrt(v:AV)(l:List Mem)(I:l.length<=Lim):ze Tryz.prog 75 [v,.sl .no 6 (cMs l)] (.bool (zag [] l)):=by refine ze.go ir75.1 ir75.2 (Al4 _) λKP Q A=>?_;simp(disch:=omega) only[ir75,go_sem];refine za (ztg l I) ?_;simp(disch:=omega) only[go_sem];exact A _ _ _ _ nofun rfl (by simp )
def yZ(d:DirD):List VarD:=match zb0 d.nm with
 | none=>[]
 | some p=>[p]
def ziq(d:DirD):ze Tryz.prog 148 [.agg (cD d)] (.sl .no 10 (cWs (yZ d))):=by
 obtain⟨nm,args⟩:=d;have I:=zku nm;have A:yZ ⟨nm,args⟩=match zb0 nm with|none=>[]|some p=>[p]:=rfl
 generalize yZ ⟨nm,args⟩=F at *
 rw[zid];refine ze.go ir148.1 ir148.2 (Al4 _) λKP Q J=>?_;simp(disch:=omega) only[ir148,go_sem];cases U:zb0 nm with
 | none =>rw[U]at I A;refine za I ?_;simp(disch:=omega) only[Option.getD,Option.isSome,zW,zV,z7,go_sem];refine zc λW X=>?_;simp(disch:=omega) only[go_sem];exact J _ _ _ [.sl .nil 10 []] nofun rfl (by rw[A];rfl)
 | some p =>rw[U]at I A;obtain⟨ae,⟨Y,Z,aa⟩,ab,⟨wk,af,ag,ac,ad⟩⟩:=p;refine za I ?_;simp(disch:=omega) only[Option.getD,Option.isSome,z7,go_sem];refine zc λW X=>?_;simp(disch:=omega) only[go_sem];exact J _ _ _ [.sl .full 10 [cW ⟨ae,⟨Y,Z,aa⟩,ab,.mk wk af ag ac ad⟩]] nofun rfl (by rw[A];rfl)
def zzB(f:FuncId)(caps:List AV)(p:List VarD->List Mem->Bool):Prop:=Program.callable Tryz.prog f=true/\∀ps l,bWs ps<=Lim->bMs l<=Lim->ze Tryz.prog f (.sl .no 10 (cWs ps)::.sl .no 6 (cMs l)::caps) (.bool (p ps l))
def zfs(s:SchD)(p:List VarD->List Mem->Bool)(typ:List UInt8):SelD->Bool| .mk k _ nm args dirs _ _=>(!decide (k=0)||p ((yH s typ nm).getD zF).ps args)&&dirs.all λd=>p (yZ d) d.args
def zhs(s:SchD)(typ nm:List UInt8):bWs ((yH s typ nm).getD zF).ps<=zJ s:=by
 cases h:yH s typ nm with
 | none=>simp[zF,bWs]
 | some f =>
  unfold yH at h;split at h
  ·cases h;simp[tnF,bWs]
  ·split at h
   ·cases h
   ·rename_i d A;split at h
    ·have I:=zc1 (List.mem_of_find?_eq_some h);have J:=(YF A).1;have U:=@zlP f;show bWs f.ps<=_;omega
    ·cases h
def zdg(d:DirD):bWs (yZ d)<=100:=by
 unfold yZ zb0;split
 ·simp[bWs]
 ·rename_i p A;split at A
  ·cases A;decide
  ·cases A
def zuL{d:DirD}{l:List DirD}(h:d∈l):bMs d.args<=bDs l:=by obtain⟨a,b,A⟩:=List.append_of_mem h;have:=zeT a d b;rw[<-A]at this;simp only[bD]at this;omega
def zq2(s:SchD)(f:FuncId)(caps:List AV)(p:List VarD->List Mem->Bool)(ap:zJ s<=Lim)(A:zzB f caps p)(typ:List UInt8)(x:SelD)(ai:bS x<=Lim):
  ze Tryz.prog 147 [.str typ,.agg (cS x),.view (zm s),.view [.clo f [] caps]] (.bool (zfs s p typ x)):=by
 obtain⟨k,ad,nm,args,dirs,on,xs⟩:=x;have Y:=zhk s typ nm ap;have a6:=zhs s typ nm;simp only[bS]at ai;have Z:=A.2 ((yH s typ nm).getD zF).ps args (by omega) (by omega);have am:=λ(d:DirD) (h:d∈dirs)=>A.2 (yZ d) d.args (by have:=zdg d;simp only[Lim];omega) (by have:=zuL h;omega);have J:zfs s p typ (.mk k ad nm args dirs on xs)=((!decide (k=0)||p ((yH s typ nm).getD zF).ps args)&&dirs.all λd=>p (yZ d) d.args):=rfl;generalize zfs s p typ (.mk k ad nm args dirs on xs)=F at *
 generalize (yH s typ nm).isSome=a3 at *
 generalize (yH s typ nm).getD zF=w at *
 obtain⟨a2,al,⟨ay,az,a0⟩,a1⟩:=w;simp only at Z J;generalize p al args=W at *
 have a5:=zbh dirs;have U:=Y4 dirs;have aq:=ai;simp only[Lim]at aq;obtain⟨a7,a8,sm⟩:=s;simp only[zm,zaM,y9]at Y ⊢;refine ze.go ir147.1 ir147.2 (Al4 _) λKP Q aa=>?_;have three:(k=0/\W=false)∨((!decide (k=0)||W)=true/\(k=0->W=true)):=by cases W<;>by_cases h:k=0<;>simp[h]
 rcases three with ⟨X,hx1⟩|⟨X,hx1⟩
 ·subst X;subst hx1;simp(disch:=omega) only[ir147,go_sem];refine za Y ?_;simp(disch:=omega) only[go_sem];refine zc λak ao=>?_;simp(disch:=omega) only[go_sem];refine⟨A.1,za Z ?_⟩;simp(disch:=omega) only[go_sem];exact aa _ _ _ [.bool false] nofun rfl (by rw[J];rfl)
 rw[X,Bool.true_and]at J;by_cases ab:k=0
 case' pos =>have ar:=hx1 ab;subst ab;subst ar;simp(disch:=omega) only[ir147,go_sem];refine za Y ?_;simp(disch:=omega) only[go_sem];refine zc λak ao=>?_;simp(disch:=omega) only[go_sem];refine⟨A.1,za Z ?_⟩;simp(disch:=omega) only[U,go_sem]
 case' neg=>simp(disch:=omega) only[ir147,ab,U,go_sem]
 all_goals
  refine zf dirs 32 (λ_:Unit=>[]) (λdone rest _ H=>(rest.all λd=>p (yZ d) d.args)=F) () (by simp(disch:=omega) only[go_sem]) J.symm ?_ ?_
  ·rintro _ H aj I ac;simp(disch:=omega) only[U,ac,go_sem];exact aa _ _ _ [.bool true] nofun rfl (by rw[<-I];rfl)
  ·rintro done d rest _ H aj ag ac _ I an;have ah:=zbb ag;have ae:=ziq d;have af:=am d (by rw[ag];simp);rw[List.all_cons]at I;generalize p (yZ d) d.args=au at *
   generalize yZ d=ps at *
   obtain⟨ax,aw⟩:=d;simp only at af;rw[zid]at ah ae;simp(disch:=omega) only[U,ac,ah,go_sem];refine zc λav a4=>?_;simp(disch:=omega) only[go_sem];refine za ae ?_;simp(disch:=omega) only[go_sem];refine⟨A.1,za af ?_⟩;cases au with
   | false =>simp(disch:=omega) only[go_sem];exact aa _ _ _ [.bool false] nofun rfl (by rw[<-I];rfl)
   | true =>simp(disch:=omega) only[go_sem];exact goJ (an () _ (by simpa using I)) (by simp(disch:=omega) only[wrap64,go_sem])
def zgm(s:SchD)(d:DocD)(f:FuncId)(caps:List AV)(p:List VarD->List Mem->Bool)(I:zJ s<=Lim)(U:zw d<=Lim)(W:zzB f caps p):ze Tryz.prog 73 [.agg (zm s),.agg (zU d),.clo f [] caps] (.bool (Yr s d (zfs s p))):=by
 have A:=zui s d 147 [.view (zm s),.view [.clo f [] caps]] (zfs s p) I U ⟨by kernel_rfl,λtyp x X=>zq2 s f caps p I W typ x (by omega)⟩;generalize Yr s d (zfs s p)=aa at *
 obtain⟨ops,frags⟩:=d;obtain⟨Y,Z,sm⟩:=s;simp only[zm,zU]at A ⊢;refine ze.go ir73.1 ir73.2 (Al4 _) λKP Q J=>?_;simp(disch:=omega) only[ir73,go_sem];refine za A ?_;simp(disch:=omega) only[go_sem];exact J _ _ _ _ nofun rfl (by simp )
def zeo(s:SchD)(d:DocD)(n:Int):Bool:=if n=15 then Yr s d (zfs s zae)else if n=16 then Yr s d (zfs s λ_ l=>zag [] l)else if n=17 then Yr s d (zfs s zfd)else false
def zsw(s:SchD)(d:DocD)(n:Int)(U:zJ s<=Lim)(I:zw d<=Lim):ze Tryz.prog 32 [.agg (zm s),.agg (zU d),.int .i64 n] (.bool (zeo s d n)):=by
 have Z:=zgm s d 74 [] zae U I ⟨by kernel_rfl,λps l J ac=>zrC ps l (by have:=yJ ps;omega) (by have:=Zg l;omega)⟩;have aa:=zgm s d 75 [] (λ_ l=>zag [] l) U I ⟨by kernel_rfl,λps l J ac=>zrt _ l (by have:=Zg l;omega)⟩;have ab:=zgm s d 76 [] zfd U I ⟨by kernel_rfl,λps l J ac=>znV ps l J (by have:=Zg l;omega)⟩;unfold zeo;generalize Yr s d (zfs s zae)=af at *
 generalize Yr s d (zfs s λ_ l=>zag [] l)=ag at *
 generalize Yr s d (zfs s zfd)=ah at *
 obtain⟨ops,frags⟩:=d;obtain⟨ad,ae,sm⟩:=s;simp only[zm,zU]at Z aa ab ⊢;refine ze.go ir32.1 ir32.2 (Al4 _) λKP Q A=>?_;by_cases W:n=15
 ·subst W;simp(disch:=omega) only[ir32,go_sem];refine za Z ?_;simp(disch:=omega) only[go_sem];exact A _ _ _ _ nofun rfl (by simp )
 by_cases X:n=16
 ·subst X;simp(disch:=omega) only[ir32,go_sem];refine za aa ?_;simp(disch:=omega) only[go_sem];exact A _ _ _ _ nofun rfl (by simp )
 by_cases Y:n=17
 ·subst Y;simp(disch:=omega) only[ir32,go_sem];refine za ab ?_;simp(disch:=omega) only[go_sem];exact A _ _ _ _ nofun rfl (by simp )
 ·simp(disch:=omega) only[ir32,W,X,Y,go_sem];exact A _ _ _ _ nofun rfl (by simp[W,X,Y])
def zrK(y:VarD)(n:List UInt8)(b:Nat)(rest:List AV)(H:zb)(I:H b=some (.cells (.str n::rest))):zd Tryz.prog 241 [.agg (cW y),.ptr b 0] H (At (.bool (nmW n y)) H):=by obtain⟨nm,⟨J,U,W⟩,h,⟨k,q,st,l,m⟩⟩:=y;refine zd.go ir241.1 ir241.2 (Al4 _) λKP Q A=>?_;simp(disch:=omega) only[ir241,z7,I,go_sem];exact A _ _ _ _ _ nofun rfl (Low.refl _) ⟨by simp[nmW],rfl⟩
def zaN:List VarD->List VarD->Bool
 | _,[]=>true
 | a,x::r=>!a.any (nmW x.nm)&&zaN (a++[x]) r
def zsM(o:OpD)(U:o.vars.length<=Lim):ze Tryz.prog 153 [.agg (cO o)] (.bool (zaN [] o.vars)):=by
 obtain⟨k,nm,l,ds,ak⟩:=o;simp only at U ⊢;have aj:=U;have I:=Zk l;simp only[Lim]at U;rw[zam];refine ze.go ir153.1 ir153.2 (Al4 _) λKP Q Z=>?_;simp(disch:=omega) only[ir153,I,go_sem];refine zf l 8 (λ_:Unit=>[]) (λdone rest _ H=>zaN done rest=zaN [] l) () (by simp(disch:=omega) only[go_sem]) rfl ?_ ?_
 ·rintro _ H ac A W;simp(disch:=omega) only[I,W,go_sem];exact Z _ _ _ [.bool true] nofun rfl (by rw[<-A];rfl)
 ·rintro done x rest _ H ac aa W _ A ad;have ab:=Ya aa;have ag:(cWs l).take done.length=done.map cW:=by rw[aa];simp[cWs]
  have af:(done.length:Int)<=l.length:=by omega
  have ae:done.length<=Lim:=by simp only[Lim];omega
  obtain⟨X,⟨al,am,an⟩,ai,⟨ao,ar,xs,ap,aq⟩⟩:=x;simp only[zaN]at A;rw[z7]at ab;simp(disch:=omega) only[I,W,ab,go_sem];refine zc λY ah=>?_;simp(disch:=omega) only[I,af,ag,go_sem];refine zQ (zi7 cW zaP done 241 [.ptr Y 0] (nmW X) _ ae (by kernel_rfl) λy _=>zrK y X Y _ _ (upd_same ..)) ?_;rintro _ _ ⟨_,rfl,rfl,rfl⟩;cases J:done.any (nmW X)with
  | true =>rw[J]at A;simp(disch:=omega) only[ZT,J,go_sem];exact Z _ _ _ [.bool false] nofun rfl (by rw[<-A];rfl)
  | false =>rw[J]at A;simp(disch:=omega) only[ZT,J,go_sem];exact goJ (ad () _ (by simpa using A)) (by simp(disch:=omega) only[wrap64,go_sem])
def zsh(p:VarD)(n:List UInt8):ze Tryz.prog 245 [.agg (cW p),.view [.str n]] (.bool (nmW n p)):=by obtain⟨nm,⟨a,b,c⟩,h,⟨k,q,s,l,m⟩⟩:=p;refine ze.go ir245.1 ir245.2 (Al4 _) λKP Q A=>?_;simp(disch:=omega) only[ir245,z7,go_sem];exact A _ _ _ _ nofun rfl (by simp[nmW])
def zpX(o:OpD)(n:List UInt8)(J:o.vars.length<=Lim):ze Tryz.prog 159 [.agg (cO o),.str n] (.tup [.agg (cW ((ya o.vars n).getD zW)),.bool (ya o.vars n).isSome]):=by
 have W:=zrO cW zaP o.vars 245 [.view [.str n]] (nmW n) J (by kernel_rfl) λx _=>zsh x n;obtain⟨k,nm,l,ds,ak⟩:=o;simp only at J W ⊢;have ad:=J;simp only[Lim]at ad;rw[zam];refine ze.go ir159.1 ir159.2 (Al4 _) λKP Q ac=>?_;have fin:∀o,ya l n=o->∀ρ H vs,zo ρ H ir159.1.res=some vs->(zP vs).strip=.tup [.agg (cW (o.getD zW)),.bool o.isSome]->Q .ret ρ H:=λo e ρ H vs A I=>ac _ ρ H vs nofun A (by rw[I,e]);simp(disch:=omega) only[ir159,go_sem];refine zc λai aj=>?_;simp(disch:=omega) only[go_sem];refine za W ?_;rcases zax (nmW n) l 0 with ⟨a,x,r,A,I,X,Y⟩|⟨A,I⟩
 ·rw[Y,Int.zero_add];have U:=Ya A;have aa:=Zk l;have Z:(a.length:Int)<l.length:=by rw[A,Al5,Al2];omega
  have ab:¬ ((a.length:Int)<0):=by omega
  have e:ya l n=some x:=X;obtain⟨nm,⟨af,ag,ah⟩,h,⟨k,q,s,ae,m⟩⟩:=x;rw[z7]at U;simp(disch:=omega) only[U,aa,Z,ab,go_sem];exact fin _ e _ _ [.agg (cW ⟨nm,⟨af,ag,ah⟩,h,.mk k q s ae m⟩),.bool true] (by simp(disch:=omega) only[ir159,zo,z8,z7,go_sem]) rfl
 ·rw[I];have e:ya l n=none:=A;simp(disch:=omega) only[go_sem];exact fin _ e _ _ [.agg [.str [],.str [],.int .i64 0,.int .i64 0,.bool false,.int .i64 0,.int .i64 0,.str [],.sl .nil 5 [],.sl .nil 6 []],.bool false] (by simp(disch:=omega) only[ir159,zo,z8,go_sem]) rfl
structure SpotD where
 nm:List UInt8
 t:TyD
 has:Bool
def cP(x:SpotD):List AV:=[.str x.nm,.str x.t.nm,.int .i64 x.t.lists,.int .i64 x.t.musts,.bool x.has]
def cPs(l:List SpotD):List (List AV):=l.map cP
def ye(l:List SpotD):(cPs l).length=l.length:=by simp[cPs]
def zvZ{l a:List SpotD}{x:SpotD}{b:List SpotD}(h:l=a++x::b):(cPs l).getD a.length []=cP x:=yz h
def zde(a b:List SpotD):cPs a++(cPs b).map (·.map AV.strip1)=cPs (a++b):=by
 have:(cPs b).map (·.map AV.strip1)=cPs b:=by rw[cPs,List.map_map];exact List.map_congr_left λv _=>rfl
 rw[this];simp[cPs]
def YS{H H1 A:zb}{o I o2:Own}{n W sz X:Nat}(h:OwnS H o H1 I n sz)(h':OwnS H1 .nil A o2 W X):OwnS H o A I n sz :=⟨zA.ofKept h.own h'.kept (λ_ _ _ _ e=>by cases e),λb x J U=>h'.kept b x (h.kept b x J U) (λd e=>by cases e),h.new⟩
def zhh{H:zb}{o:Own}{n sz b:Nat}{cs:List AV}(ho:zA H o n sz)(h:H b=some (.cells cs)):∀d,o≠.tip b d:=λd e=>by subst e;have:H b=some (.tip (d+n) sz):=ho;rw[h]at this;cases this
def zjl(s:SchD)(t:TyD)(has:Bool)(v:Val)(L:List SpotD):Prop :=L.length<=bV v/\(∀x∈L,x.t.nm.length<=Lim)/\∀H,YG Tryz.prog 327 [.agg (zm s),.agg (cTy t),.bool has,.agg (cV v)] H .nil 5 (cPs L)
open Classical in
noncomputable def spM(s:SchD)(t:TyD)(has:Bool)(v:Val):List SpotD:=if h:∃L,zjl s t has v L then Classical.choose h else []
def zmc{s:SchD}{t:TyD}{has:Bool}{v:Val}(h:∃L,zjl s t has v L):zjl s t has v (spM s t has v):=by unfold spM;rw[dif_pos h];exact Classical.choose_spec h
noncomputable def Ys(s:SchD)(ps:List VarD):Mem->List SpotD| .mk n x=>match ya ps n with|none=>[]|some p=>spM s p.t p.has x
noncomputable def spS(s:SchD)(t:TyD)(has:Bool):Val->List SpotD
 | .mk k q st l m=>if k=8 then [⟨st,t,has⟩]else match YQ t with
  | some it=>if k=6 then l.flatMap (spM s it false)else spM s it false (.mk k q st l m)
  | none=>if k=7 then m.flatMap (Ys s ((yB s t.nm).getD zE).ps)else []
def zdP{α I:Type}{f:α->List I}{g:α->Nat}:∀l:List α,(∀x∈l,(f x).length<=g x)->(l.flatMap f).length<=(l.map g).sum
 | [],_=>by simp
 | x::r,h=>by have J:=h x (zaW ..);have U:=zdP r λy A=>h y (zbR _ A);rw[List.flatMap_cons,Al5,List.map_cons,List.sum_cons];omega
def zqk{α:Type}{l done rest:List α}{x y:α}(I:l=done++x::rest)(A:y∈done++[x]):y∈l:=by rw[I];simp at A ⊢;rcases A with h|h<;>simp[h]
def ziC:∀l:List Val,bVs l=(l.map bV).sum
 | []=>by simp[bVs]
 | x::r=>by simp only[bVs,List.map_cons,List.sum_cons];rw[ziC r]
def zcF:∀l:List Mem,bMs l=(l.map bM).sum
 | []=>by simp[bMs]
 | x::r=>by simp only[bMs,List.map_cons,List.sum_cons];rw[zcF r]
def spE(s:SchD)(U:zJ s<=Lim):∀v:Val,∀(n:Nat) (t:TyD) (has:Bool),t.lists.toNat<=n->bV v<=Lim->t.nm.length<=Lim->zjl s t has v (spS s t has v):=by
 refine Val.ind λk q st l m cw cx=>?_;have dc:=zbl l;have dd:=Zg m;have au:=Y6 l;have bg:=yU m;intro n;induction n using Nat.strongRecOn with
 | _ n cu =>
 intro t has J a6 a9;have da:1+st.length+bVs l+bMs m<=1099511627776:=a6;have hit:=zwZ t a9;have dg:zJ s<=1099511627776:=U;have b4:=zgy s t.nm (yc U);have de:bWs ((yB s t.nm).getD zE).ps<=zJ s:=by
  cases cp:yB s t.nm with
  | none=>simp[zE,bWs]
  | some d=>exact(YF cp).2.2.2
 generalize cl:(yB s t.nm).getD zE=E at *
 have c8:=yJ E.ps;have b7:=λn=>zf4 E.ps n (by simp only[Lim];omega);have ae:∀it,YQ t=some it->zjl s it false (.mk k q st l m) (spM s it false (.mk k q st l m)):=λit h=>by obtain⟨bf,ci,cj⟩:=zgG h;exact zmc ⟨_,cu it.lists.toNat (by omega) it false (Al4 _) a6 (by rw[bf];exact a9)⟩
 have ab:∀it,YQ t=some it->∀x∈l,zjl s it false x (spM s it false x):=λit h x A=>by
  obtain⟨bf,ci,cj⟩:=zgG h;have bp:bV x<=Lim:=by have:=zlo A;simp only[Lim];omega
  exact zmc ⟨_,cw x A it.lists.toNat it false (Al4 _) bp (by rw[bf];exact a9)⟩
 have ax:∀n x,Mem.mk n x∈m->∀p,ya E.ps n=some p->zjl s p.t p.has x (spM s p.t p.has x):=λn x A p ay=>by
  have bp:bV x<=Lim:=by have:=zgp A;simp only[Lim];omega
  have az:p∈E.ps:=List.mem_of_find?_eq_some ay;have cq:p.t.nm.length<=Lim:=by have:=YL az;simp only[bW]at this;simp only[Lim];omega
  exact zmc ⟨_,cx n x A p.t.lists.toNat p.t p.has (Al4 _) bp cq⟩
 have a8:∀x∈m,(Ys s E.ps x).length<=bM x/\∀y∈Ys s E.ps x,y.t.nm.length<=Lim:=λx A=>by
  obtain⟨n,v⟩:=x;simp only[Ys];cases ay:ya E.ps n with
  | none=>simp
  | some p =>have:=ax n v A p ay;exact⟨Nat.le_trans this.1 (by simp only[bM];omega),this.2.1⟩
 have bn:=λa:List Mem=>zdP (f:=Ys s E.ps) (g:=bM) a;have I:spS s t has (.mk k q st l m)=if k=8 then [⟨st,t,has⟩]else match YQ t with
  | some it=>if k=6 then l.flatMap (spM s it false)else spM s it false (.mk k q st l m)
  | none=>if k=7 then m.flatMap (Ys s E.ps)else []:=by rw[<-cl];rfl
 have b8:bV (.mk k q st l m)=1+st.length+bVs l+bMs m:=rfl;refine⟨?_,?_,λH=>?_⟩
 ·rw[I,b8];split
  ·simp;omega
  ·cases Y:YQ t with
   | some it =>
    simp only
    split
    ·have:=zdP (f:=spM s it false) (g:=bV) l λx A=>(ab it Y x A).1;rw[<-ziC]at this;omega
    ·rw[<-b8];exact(ae it Y).1
   | none =>
    simp only
    split
    ·have:=bn m λx A=>(a8 x A).1;rw[<-zcF]at this;omega
    ·simp
 ·rw[I];split
  ·intro x A;simp only[List.mem_singleton]at A;subst A;exact a9
  ·cases Y:YQ t with
   | some it =>
    simp only
    split
    ·intro x A;obtain⟨y,an,A⟩:=List.mem_flatMap.1 A;exact(ab it Y y an).2.1 x A
    ·exact(ae it Y).2.1
   | none =>
    simp only
    split
    ·intro x A;obtain⟨y,an,A⟩:=List.mem_flatMap.1 A;exact(a8 y an).2 x A
    ·simp
 generalize spS s t has (.mk k q st l m)=F at *
 obtain⟨cd,ce,sm⟩:=s;generalize cn:(⟨cd,ce,sm⟩:SchD)=s at *
 have co:zm s=[.sl .no 6 (cEs cd),.str ce,.str sm]:=by rw[<-cn];rfl
 obtain⟨c2,tl,cz⟩:=t;simp only[zjl]at ae ab ax;simp only[co,yj]at ae ab ax b4 ⊢;simp only[cTy]at hit ⊢;refine zd.goO ir327.1 ir327.2 (Al4 _) λKP Q cm c9=>?_;have fin:∀r o,F=r->∀ρ H1,zo ρ H1 ir327.1.res=some [.sl o 5 (cPs r)]->OwnS H .nil H1 o r.length 5->Q .ret ρ H1:=λr o e ρ H1 au ck=>cm _ ρ H1 H1 _ nofun au (Low.refl _) ⟨o,by rw[e];rfl,by rw[e,ye];exact ck⟩;by_cases bt:k=8
 ·subst bt;rw[if_pos rfl]at I;simp(disch:=omega) only[ir327,go_sem];exact fin _ .full I _ _ rfl ⟨trivial,λb x a6 _=>a6,λb d e=>by cases e⟩
 rw[if_neg bt]at I;simp(disch:=omega) only[ir327,bt,go_sem];refine za hit ?_;cases Y:YQ ⟨c2,tl,cz⟩with
 | some it =>
  rw[Y]at I;replace ae:=ae it Y;replace ab:=ab it Y;obtain⟨ah,af,ag⟩:=it;simp only at ae ab I;simp(disch:=omega) only[Option.getD,Option.isSome,go_sem];refine zc λac bj=>?_;have a0:OwnS H .nil (H.upd ac (.cells [.str ah,.int .i64 af,.int .i64 ag])) .nil 0 5:=(OwnS.refl (o:=.nil) (n:=0) rfl).upd bj;by_cases bq:k=6
  case neg =>rw[if_neg bq]at I;simp(disch:=omega) only[bq,go_sem];refine zx (ae.2.2 _) λbu bv ad=>?_;simp(disch:=omega) only[go_sem];exact fin _ bu I _ _ rfl (by rw[ye]at ad;exact a0.trans ad)
  subst bq;rw[if_pos rfl]at I;simp(disch:=omega) only[au,go_sem];refine zf l 44 (λx:Own×List SpotD=>[(9,.sl x.1 5 (cPs x.2))]) (λdone rest x H'=>H' ac=some (.cells [.str ah,.int .i64 af,.int .i64 ag])/\x.2=done.flatMap (spM s ⟨ah,af,ag⟩ false)/\OwnS H .nil H' x.1 x.2.length 5) (.nil,[]) (by simp(disch:=omega) only[cPs,List.map,go_sem]) ⟨upd_same ..,rfl,a0⟩ ?_ ?_
  ·rintro⟨ai,a⟩ H1 be ⟨W,J,U⟩ ak;simp only at J;subst J;simp(disch:=omega) only[au,ak,go_sem];exact fin _ ai I _ _ rfl U
  ·rintro done x rest ⟨ai,a⟩ H1 be Z ak _ ⟨W,J,U⟩ a5;have aw:=zbf Z;have A:=ab x (by rw[Z];simp);simp only at J;replace U:OwnS H .nil H1 ai a.length 5:=U;have ap:a.length+(spM s ⟨ah,af,ag⟩ false x).length<=bVs l:=by
    have:=zdP (f:=spM s ⟨ah,af,ag⟩ false) (g:=bV) (done++[x]) λy an=>(ab y (zqk Z an)).1;rw[List.flatMap_append,Al5,<-J]at this;simp only[List.flatMap_cons,List.flatMap_nil,List.append_nil]at this;have e:bVs l=(l.map bV).sum:=ziC l;rw[e,Z];simp only[List.map_append,List.sum_append,List.map_cons,List.map_nil,List.sum_cons,List.sum_nil]at this ⊢;omega
   have aa:(done++[x]).flatMap (spM s ⟨ah,af,ag⟩ false)=a++spM s ⟨ah,af,ag⟩ false x:=by rw[List.flatMap_append,<-J];simp
   obtain⟨a1,a3,xs,a2,cf⟩:=x;rw[yj]at aw A;simp(disch:=omega) only[au,ak,aw,go_sem];refine zc λch bk=>?_;have X:ac≠ch:=λe=>by subst e;rw[W]at bk;cases bk
   have ba:=U.upd (x:=.cells [.int .i64 a1,.int .i64 a3,.str xs,.sl .no 5 (cVs a2),.sl .no 6 (cMs cf)]) bk;simp(disch:=omega) only[W,X,Ne.symm X,go_sem];refine zx (A.2.2 _) λbu bv ad=>?_;have av:=ad.kept ac _ (by simp only[zb.upd,X,if_false];exact W) (λd e=>by cases e);have am:=YS ba ad;simp(disch:=omega) only[go_sem];refine zj (by rw[ye];exact am.own) ?_ ?_ λo' bd al=>?_
   ·simp only[ye];omega
   ·simp only[ye,maxLen];omega
   have bh:=al.kept ac _ av (zhh am.own av);simp only[ye]at al;simp(disch:=omega) only[wrap64,zde,go_sem];exact goJ (a5 (o',a++spM s ⟨ah,af,ag⟩ false (.mk a1 a3 xs a2 cf)) bd ⟨bh,aa.symm,by rw[Al5];exact am.trans al⟩) (by simp(disch:=omega) only[wrap64,go_sem])
 | none =>
  rw[Y]at I;simp only at I;simp(disch:=omega) only[Option.getD,Option.isSome,zTy,go_sem];refine zc λac bj=>?_;have a0:OwnS H .nil (H.upd ac (.cells [.str [],.int .i64 0,.int .i64 0])) .nil 0 5:=(OwnS.refl (o:=.nil) (n:=0) rfl).upd bj;by_cases br:k=7
  case neg =>rw[if_neg br]at I;simp(disch:=omega) only[br,go_sem];exact fin [] .nil I _ _ rfl a0
  subst br;rw[if_pos rfl]at I;simp(disch:=omega) only[go_sem];refine za b4 ?_;obtain⟨bx,bz,b2,b1,ps,ao⟩:=E;simp only at b7 ax a8 bn I;simp(disch:=omega) only[yf,go_sem];refine zc λaj b3=>?_;have b5:aj≠ac:=λe=>by subst e;simp[zb.upd]at b3
  have cr:=a0.upd (x:=.cells [.int .i64 bx,.str bz,.sl .no 1 (cT b2),.sl .no 6 (cLs b1),.sl .no 1 (cT ps),.sl .no 10 (cWs ao)]) b3;simp(disch:=omega) only[b5,Ne.symm b5,bg,go_sem];refine zf m 75 (λx:Own×List SpotD=>[(9,.sl x.1 5 (cPs x.2))]) (λdone rest x H'=>H' aj=some (.cells [.int .i64 bx,.str bz,.sl .no 1 (cT b2),.sl .no 6 (cLs b1),.sl .no 1 (cT ps),.sl .no 10 (cWs ao)])/\x.2=done.flatMap (Ys s ao)/\OwnS H .nil H' x.1 x.2.length 5) (.nil,[]) (by simp(disch:=omega) only[cPs,List.map,go_sem]) ⟨upd_same ..,rfl,cr⟩ ?_ ?_
  ·rintro⟨ai,a⟩ H1 be ⟨W,J,U⟩ ak;simp only at J;subst J;simp(disch:=omega) only[bg,ak,go_sem];exact fin _ ai I _ _ rfl U
  ·rintro done x rest ⟨ai,a⟩ H1 be Z ak _ ⟨W,J,U⟩ a5;have aw:=Zz Z;have ct:x∈m:=by rw[Z];simp
   simp only at J;replace U:OwnS H .nil H1 ai a.length 5:=U;have ap:a.length+(Ys s ao x).length<=bMs m:=by have:=bn (done++[x]) λy an=>(a8 y (zqk Z an)).1;rw[List.flatMap_append,Al5,<-J]at this;simp only[List.flatMap_cons,List.flatMap_nil,List.append_nil]at this;have e:bMs m=(m.map bM).sum:=zcF m;rw[e,Z];simp only[List.map_append,List.sum_append,List.map_cons,List.map_nil,List.sum_cons,List.sum_nil]at this ⊢;omega
   have aa:(done++[x]).flatMap (Ys s ao)=a++Ys s ao x:=by rw[List.flatMap_append,<-J];simp
   obtain⟨bc,⟨a1,a3,xs,a2,cg⟩⟩:=x;have ay:=b7 bc;have a7:=ax bc _ ct;rw[zu,yj]at aw;simp only[Ys]at ap aa;simp(disch:=omega) only[bg,ak,aw,go_sem];refine zc λbw bl=>?_;have X:aj≠bw:=λe=>by subst e;rw[W]at bl;cases bl
   have ba:=U.upd (x:=.cells [.str bc,.int .i64 a1,.int .i64 a3,.str xs,.sl .no 5 (cVs a2),.sl .no 6 (cMs cg)]) bl;simp(disch:=omega) only[W,X,Ne.symm X,go_sem];refine za ay ?_;cases az:ya ao bc with
   | none =>
    rw[az]at ap aa;simp(disch:=omega) only[Option.getD,Option.isSome,zW,zV,z7,go_sem];refine zc λa4 aq=>?_;have am:=ba.upd (x:=.cells [.str [],.str [],.int .i64 0,.int .i64 0,.bool false,.int .i64 0,.int .i64 0,.str [],.sl .no 5 (cVs []),.sl .no 6 (cMs [])]) aq;have ar:aj≠a4:=λe=>by subst e;simp[zb.upd,X,W]at aq
    simp(disch:=omega) only[go_sem];exact goJ (a5 (ai,a) _ ⟨by simp(disch:=omega) only[W,X,Ne.symm X,ar,Ne.symm ar,go_sem],by rw[aa];simp,am⟩) (by simp(disch:=omega) only[wrap64,go_sem])
   | some p =>
    rw[az]at ap aa;simp only at ap aa;replace a7:=a7 p az;obtain⟨cy,⟨b9,ca,cb⟩,cc,⟨c3,c6,c7,c4,c5⟩⟩:=p;simp only at a7 ap aa;simp(disch:=omega) only[Option.getD,Option.isSome,z7,go_sem];refine zc λa4 aq=>?_;have am:=ba.upd (x:=.cells [.str cy,.str b9,.int .i64 ca,.int .i64 cb,.bool cc,.int .i64 c3,.int .i64 c6,.str c7,.sl .no 5 (cVs c4),.sl .no 6 (cMs c5)]) aq;have ar:aj≠a4:=λe=>by subst e;simp[zb.upd,X,W]at aq
    have b6:bw≠a4:=λe=>by subst e;simp[zb.upd]at aq
    simp(disch:=omega) only[W,X,Ne.symm X,ar,Ne.symm ar,b6,Ne.symm b6,go_sem];refine zx (a7.2.2 _) λbu bv ad=>?_;have av:=ad.kept aj _ (by simp only[zb.upd,X,ar,if_false];exact W) (λd e=>by cases e);have bo:=YS am ad;simp(disch:=omega) only[go_sem];refine zj (by rw[ye];exact bo.own) ?_ ?_ λo' bd al=>?_
    ·simp only[ye];omega
    ·simp only[ye,maxLen];omega
    have bh:=al.kept aj _ av (zhh bo.own av);simp only[ye]at al;simp(disch:=omega) only[wrap64,zde,go_sem];exact goJ (a5 (o',a++spM s ⟨b9,ca,cb⟩ cc (.mk a1 a3 xs a2 cg)) bd ⟨bh,aa.symm,by rw[Al5];exact bo.trans al⟩) (by simp(disch:=omega) only[wrap64,go_sem])
def spC(s:SchD)(t:TyD)(has:Bool)(v:Val)(I:zJ s<=Lim)(A:bV v<=Lim)(J:t.nm.length<=Lim):zjl s t has v (spM s t has v):=zmc ⟨_,spE s I v _ t has (Al4 _) A J⟩
def zrT{x:Mem}:∀ {l:List Mem},x∈l->bM x<=bMs l
 | y::l,h=>by
  rcases List.mem_cons.1 h with rfl|h
  ·simp only[bMs];omega
  ·have:=zrT h;simp only[bMs];omega
def zs4(s:SchD)(ps:List VarD)(m:Mem)(U:zJ s<=Lim)(W:bWs ps<=Lim)(A:bM m<=Lim):(Ys s ps m).length<=bM m/\∀y∈Ys s ps m,y.t.nm.length<=Lim:=by
 obtain⟨n,v⟩:=m;simp only[bM]at A;simp only[Ys];cases I:ya ps n with
 | none=>simp
 | some p =>have J:p∈ps:=List.mem_of_find?_eq_some I;have:=spC s p.t p.has v U (by omega) (by have:=YL J;simp only[bW]at this;omega);exact⟨Nat.le_trans this.1 (by simp only[bM];omega),this.2.1⟩
noncomputable def zjJ(s:SchD)(ps:List VarD)(l:List Mem):List SpotD:=l.flatMap (Ys s ps)
def zlv(s:SchD)(ps:List VarD)(l:List Mem)(U:zJ s<=Lim)(J:bWs ps<=Lim)(W:bMs l<=Lim):(zjJ s ps l).length<=bMs l/\∀y∈zjJ s ps l,y.t.nm.length<=Lim:=by
 have h:∀x∈l,_:=λx A=>zs4 s ps x U J (by have:=zrT A;omega);refine⟨?_,λy I=>?_⟩
 ·have:=zdP (f:=Ys s ps) (g:=bM) l λx A=>(h x A).1;rw[<-zcF]at this;exact this
 ·obtain⟨x,A,I⟩:=List.mem_flatMap.1 I;exact(h x A).2 y I
def zqr(a b:List Mem)(x:Mem):bMs (a++x::b)=bMs (a++[x])+bMs b:=by simp only[zcF,List.map_append,List.map_cons,List.map_nil,List.sum_append,List.sum_cons,List.sum_nil];omega
def zx6(s:SchD)(ps:List VarD)(l:List Mem)(H:zb)(I:zJ s<=Lim)(bf:bWs ps<=Lim)(a9:bMs l<=Lim):YG Tryz.prog 303 [.agg (zm s),.sl .no 10 (cWs ps),.sl .no 6 (cMs l)] H .nil 5 (cPs (zjJ s ps l)):=by
 have bx:=Zg l;have ab:=yU l;have bv:=yJ ps;have ba:=a9;simp only[Lim]at ba;have be:=λn=>zf4 ps n (by omega);have ae:∀n x,Mem.mk n x∈l->∀p,ya ps n=some p->zjl s p.t p.has x (spM s p.t p.has x):=λn x bj p af=>by
  have bk:bV x<=Lim:=by have:=zgp bj;omega
  have W:p∈ps:=List.mem_of_find?_eq_some af;have bg:p.t.nm.length<=Lim:=by have:=YL W;simp only[bW]at this;omega
  exact spC s p.t p.has x I bk bg
 have a4:zjJ s ps l=l.flatMap (Ys s ps):=rfl;have ak:=λa (h:bMs a<=Lim)=>(zlv s ps a I bf h).1;simp only[zjJ]at ak;generalize zjJ s ps l=F at *
 simp only[zjl]at ae;obtain⟨av,aw,sm⟩:=s;generalize a8:(⟨av,aw,sm⟩:SchD)=s at *
 have bd:zm s=[.sl .no 6 (cEs av),.str aw,.str sm]:=by rw[<-a8];rfl
 simp only[bd]at ae ⊢;refine zd.goO ir303.1 ir303.2 (Al4 _) λKP Q a7 bw=>?_;have fin:∀r o,F=r->∀ρ H1,zo ρ H1 ir303.1.res=some [.sl o 5 (cPs r)]->OwnS H .nil H1 o r.length 5->Q .ret ρ H1:=λr o e ρ H1 a5 a6=>a7 _ ρ H1 H1 _ nofun a5 (Low.refl _) ⟨o,by rw[e];rfl,by rw[e,ye];exact a6⟩;simp(disch:=omega) only[ir303,ab,go_sem];refine zf l 14 (λx:Own×List SpotD=>[(7,.sl x.1 5 (cPs x.2))]) (λdone rest x H'=>x.2=done.flatMap (Ys s ps)/\OwnS H .nil H' x.1 x.2.length 5) (.nil,[]) (by simp(disch:=omega) only[cPs,List.map,go_sem]) ⟨rfl,OwnS.refl (o:=.nil) (n:=0) rfl⟩ ?_ ?_
 ·rintro⟨Z,a⟩ H1 a2 ⟨U,I⟩ ad;simp only at U;subst U;simp(disch:=omega) only[ab,ad,go_sem];exact fin _ Z a4 _ _ rfl I
 ·rintro done x rest ⟨Z,a⟩ H1 a2 ac ad _ ⟨U,I⟩ ai;have aj:=Zz ac;have bl:x∈l:=by rw[ac];simp
  simp only at U;replace I:OwnS H .nil H1 Z a.length 5:=I;have A:(done++[x]).flatMap (Ys s ps)=a++Ys s ps x:=by rw[List.flatMap_append,<-U];simp
  have J:a.length+(Ys s ps x).length<=bMs l:=by have e:=zqr done rest x;rw[<-ac]at e;have:=ak (done++[x]) (by omega);rw[A,Al5]at this;omega
  obtain⟨aa,⟨ax,a0,xs,ay,az⟩⟩:=x;have af:=be aa;have Y:=ae aa _ bl;rw[zu,yj]at aj;simp only[Ys]at J A;simp(disch:=omega) only[ab,ad,aj,go_sem];refine zc λa3 bc=>?_;have an:=I.upd (x:=.cells [.str aa,.int .i64 ax,.int .i64 a0,.str xs,.sl .no 5 (cVs ay),.sl .no 6 (cMs az)]) bc;simp(disch:=omega) only[go_sem];refine za af ?_;cases W:ya ps aa with
  | none =>rw[W]at J A;simp(disch:=omega) only[Option.getD,Option.isSome,zW,zV,z7,go_sem];refine zc λah X=>?_;have ag:=an.upd (x:=.cells [.str [],.str [],.int .i64 0,.int .i64 0,.bool false,.int .i64 0,.int .i64 0,.str [],.sl .no 5 (cVs []),.sl .no 6 (cMs [])]) X;simp(disch:=omega) only[go_sem];exact goJ (ai (Z,a) _ ⟨by rw[A];simp,ag⟩) (by simp(disch:=omega) only[wrap64,go_sem])
  | some p =>
   rw[W]at J A;simp only at J A;replace Y:=Y p W;obtain⟨bn,⟨ap,aq,ar⟩,au,⟨bo,br,bt,bp,bq⟩⟩:=p;simp only at Y J A;simp(disch:=omega) only[Option.getD,Option.isSome,z7,go_sem];refine zc λah X=>?_;have ag:=an.upd (x:=.cells [.str bn,.str ap,.int .i64 aq,.int .i64 ar,.bool au,.int .i64 bo,.int .i64 br,.str bt,.sl .no 5 (cVs bp),.sl .no 6 (cMs bq)]) X;have al:a3≠ah:=λe=>by subst e;simp[zb.upd]at X
   simp(disch:=omega) only[al,Ne.symm al,go_sem];refine zx (Y.2.2 _) λbz bu bh=>?_;have ao:=YS ag bh;simp(disch:=omega) only[go_sem];refine zj (by rw[ye];exact ao.own) ?_ ?_ λo' a1 am=>?_
   ·simp only[ye];omega
   ·simp only[ye,maxLen];omega
   simp only[ye]at am;simp(disch:=omega) only[wrap64,zde,go_sem];exact goJ (ai (o',a++spM s ⟨ap,aq,ar⟩ au (.mk ax a0 xs ay az)) a1 ⟨A.symm,by rw[Al5];exact ao.trans am⟩) (by simp(disch:=omega) only[wrap64,go_sem])
noncomputable def zb4(s:SchD)(d:DirD):List SpotD:=zjJ s (yZ d) d.args
noncomputable def zkh(s:SchD)(typ:List UInt8)(k:Int)(nm:List UInt8)(args:List Mem):List SpotD:=if k=0 then zjJ s ((yH s typ nm).getD zF).ps args else []
mutual
noncomputable def usS(s:SchD):SelD->List UInt8->List SpotD| .mk k al nm args dirs on sels,typ=>zkh s typ k nm args++dirs.flatMap (zb4 s)++Y5 s sels (y7 s typ (.mk k al nm args dirs on sels))
noncomputable def Y5(s:SchD):List SelD->List UInt8->List SpotD
 | [],_=>[]
 | x::r,typ=>usS s x typ++Y5 s r typ
end
def zmN(s:SchD)(typ:List UInt8):∀a b:List SelD,Y5 s (a++b) typ=Y5 s a typ++Y5 s b typ
 | [],b=>by simp[Y5]
 | x::a,b=>by rw[Al6,Y5,Y5,zmN s typ a b,ZP]
def zmn(s:SchD)(typ:List UInt8)(k:Int)(nm:List UInt8)(args:List Mem)(I:zJ s<=Lim)(A:bMs args<=Lim):(zkh s typ k nm args).length<=bMs args/\∀y∈zkh s typ k nm args,y.t.nm.length<=Lim:=by
 unfold zkh;split
 ·exact zlv s _ args I (by have:=zhs s typ nm;omega) A
 ·simp
def ziZ(s:SchD)(A:zJ s<=Lim):∀l:List DirD,bDs l<=Lim->(l.flatMap (zb4 s)).length<=bDs l/\∀y∈l.flatMap (zb4 s),y.t.nm.length<=Lim
 | [],_=>by simp
 | x::r,h=>by
  have e:bDs (x::r)=bD x+bDs r:=by simp[bDs]
  have W:bD x=1+x.nm.length+bMs x.args:=rfl;have I:=zlv s (yZ x) x.args A (by have:=zdg x;simp only[Lim];omega) (by omega);have J:=ziZ s A r (by omega);rw[List.flatMap_cons];refine⟨by rw[Al5];simp only[zb4];omega,λy U=>?_⟩;rcases List.mem_append.1 U with h|h
  ·exact I.2 y h
  ·exact J.2 y h
mutual
def zyQ(s:SchD)(A:zJ s<=Lim):∀(x:SelD) (typ:List UInt8),bS x<=Lim->(usS s x typ).length<=bS x/\∀y∈usS s x typ,y.t.nm.length<=Lim
 | .mk k al nm args dirs on sels,typ,hb=>by
  simp only[bS]at hb ⊢;have I:=zmn s typ k nm args A (by omega);have J:=ziZ s A dirs (by omega);have U:=zeN s A sels (y7 s typ (.mk k al nm args dirs on sels)) (by omega);simp only[usS];refine⟨by simp only[Al5];omega,λy W=>?_⟩;rcases List.mem_append.1 W with h|h
  ·rcases List.mem_append.1 h with h|h
   ·exact I.2 y h
   ·exact J.2 y h
  ·exact U.2 y h
def zeN(s:SchD)(A:zJ s<=Lim):∀(l:List SelD) (typ:List UInt8),bSs l<=Lim->(Y5 s l typ).length<=bSs l/\∀y∈Y5 s l typ,y.t.nm.length<=Lim
 | [],typ,_=>by simp[Y5]
 | x::r,typ,hb=>by
  simp only[bSs]at hb ⊢;have I:=zyQ s A x typ (by omega);have J:=zeN s A r typ (by omega);simp only[Y5];refine⟨by rw[Al5];omega,λy U=>?_⟩;rcases List.mem_append.1 U with h|h
  ·exact I.2 y h
  ·exact J.2 y h
end
def zzo(s:SchD)(J:zJ s<=Lim):∀c:Nat,∀(l:List SelD) (typ:List UInt8) (H:zb),bSs l<=c->c<=Lim->YG Tryz.prog 248 [.agg (zm s),.str typ,.sl .no 7 (cSs l)] H .nil 5 (cPs (Y5 s l typ)):=by
 intro c;induction c using Nat.strongRecOn with
 | _ c bx =>
 intro l typ H dd cx;have a5:=YK l;have dg:=Y9 l;have cy:=cx;simp only[Lim]at cy;have bn:=λnm=>zhk s typ nm J;have c3:=λnm=>zhs s typ nm;have bv:=λx=>zh7 s typ x J;have ax:=λps l H ar au=>zx6 s ps l H J ar au;have cb:Y5 s l typ=Y5 s l typ:=rfl;have cu:=zmN s typ;have bt:=zeN s J;have c2:=λk nm args=>zmn s typ k nm args J;have bl:=ziZ s J;have cn:∀x,Y5 s [x] typ=usS s x typ:=λx=>by simp[Y5]
 have co:∀k U nm args dirs on sels,usS s (.mk k U nm args dirs on sels) typ=zkh s typ k nm args++dirs.flatMap (zb4 s)++Y5 s sels (y7 s typ (.mk k U nm args dirs on sels)):=λk U nm args dirs on sels=>by simp only[usS]
 have di:zJ s<=1099511627776:=J;generalize ci:Y5 s l typ=F at cb ⊢;obtain⟨bz,b1,sm⟩:=s;generalize cm:(⟨bz,b1,sm⟩:SchD)=s at *
 have cz:zm s=[.sl .no 6 (cEs bz),.str b1,.str sm]:=by rw[<-cm];rfl
 simp only[cz]at bn bv ax bx ⊢;refine zd.goO ir248.1 ir248.2 (Al4 _) λKP Q cl dc=>?_;have fin:∀r o,F=r->∀ρ H1,zo ρ H1 ir248.1.res=some [.sl o 5 (cPs r)]->OwnS H .nil H1 o r.length 5->Q .ret ρ H1:=λr o e ρ H1 ar au=>cl _ ρ H1 H1 _ nofun ar (Low.refl _) ⟨o,by rw[e];rfl,by rw[e,ye];exact au⟩;simp(disch:=omega) only[ir248,a5,go_sem];refine zf l 16 (λx:Own×List SpotD=>[(7,.sl x.1 5 (cPs x.2))]) (λdone rest x H'=>x.2=Y5 s done typ/\OwnS H .nil H' x.1 x.2.length 5) (.nil,[]) (by simp(disch:=omega) only[cPs,List.map,go_sem]) ⟨by simp[Y5],OwnS.refl (o:=.nil) (n:=0) rfl⟩ ?_ ?_
 ·rintro⟨ah,a⟩ H1 b5 ⟨aa,J⟩ ay;simp only at aa;rw[ci]at aa;subst aa;simp(disch:=omega) only[a5,ay,go_sem];exact fin _ ah rfl _ _ rfl J
 ·rintro done x rest ⟨ah,a⟩ H1 b5 bj ay _ ⟨aa,J⟩ cj;have bo:=zbo bj;have bh:=zbk done x rest;rw[<-bj]at bh;simp only at aa;replace J:OwnS H .nil H1 ah a.length 5:=J;have cr:=(bt done typ (by omega)).1;rw[<-aa]at cr;have a0:Y5 s (done++[x]) typ=a++usS s x typ:=by rw[cu,cn,<-aa]
  obtain⟨k,U,nm,args,dirs,on,sels⟩:=x;rw[co]at a0;simp only[bS]at bh;have hx1:=bn nm;have bw:=bv (.mk k U nm args dirs on sels);have c7:=c3 nm;have ct:=(c2 k nm args (by omega)).1;have de:=zbh dirs;have ao:=Y4 dirs;have c4:=λa8 H'=>bx (bSs sels) (by omega) sels a8 H' (Al4 _) (by omega);have br:=λa8=>(bt sels a8 (by omega)).1;rw[y9]at bo bw;obtain⟨G,be⟩:∃G,G=zkh s typ k nm args:=⟨_,rfl⟩;rw[<-be]at a0 ct;have ae:G=if k=0 then zjJ s ((yH s typ nm).getD zF).ps args else []:=be
  generalize y7 s typ (.mk k U nm args dirs on sels)=a7 at *
  replace br:=br a7;generalize cp:Y5 s sels a7=b7 at *
  generalize (yH s typ nm).isSome=da at *
  generalize (yH s typ nm).getD zF=w at *
  obtain⟨ch,bd,⟨cd,ce,cf⟩,cg⟩:=w;rw[zaM]at hx1;simp only at c7 ae;simp(disch:=omega) only[a5,ay,bo,go_sem];refine zc λW cw=>?_;have I:(H1.upd W (.cells [.int .i64 k,.str U,.str nm,.sl .no 6 (cMs args),.sl .no 2 (cDs dirs),.str on,.sl .no 7 (cSs sels)])) W=some (.cells [.int .i64 k,.str U,.str nm,.sl .no 6 (cMs args),.sl .no 2 (cDs dirs),.str on,.sl .no 7 (cSs sels)]):=upd_same ..;have an:=J.upd (x:=.cells [.int .i64 k,.str U,.str nm,.sl .no 6 (cMs args),.sl .no 2 (cDs dirs),.str on,.sl .no 7 (cSs sels)]) cw;by_cases am:k=0
  case' pos =>
   rw[if_pos am]at ae;have c5:=eq_true am;simp(disch:=omega) only[c5,go_sem];refine za hx1 ?_;simp(disch:=omega) only[go_sem];refine zc λb8 bf=>?_;have X:W≠b8:=λe=>by subst e;simp[zb.upd]at bf
   have a3:=an.upd (x:=.cells [.str ch,.sl .no 10 (cWs bd),.str cd,.int .i64 ce,.int .i64 cf,.sl .no 2 (cDs cg)]) bf;simp(disch:=omega) only[X,Ne.symm X,go_sem];refine zx (ax bd args _ (by omega) (by omega)) λap b2 a1=>?_;rw[<-ae]at a1 ⊢;have I:b2 W=some (.cells [.int .i64 k,.str U,.str nm,.sl .no 6 (cMs args),.sl .no 2 (cDs dirs),.str on,.sl .no 7 (cSs sels)]):=a1.kept W _ (by simp[zb.upd,X]) (λd e=>by cases e);have a4:=YS a3 a1;simp(disch:=omega) only[go_sem];refine zj (by rw[ye];exact a4.own) ?_ ?_ λah b3 a2=>?_
   ·simp only[ye];omega
   ·simp only[ye,maxLen];omega
   simp only[ye]at a2;have I:=a2.kept W _ I (zhh a4.own I);have an:OwnS H .nil b3 ah (a++G).length 5:=by rw[Al5];exact a4.trans a2
   simp(disch:=omega) only[I,zde,ao,go_sem]
  case' neg =>rw[if_neg am]at ae;rw[show a.length=(a++G).length from by rw[ae,List.append_nil]]at an;simp(disch:=omega) only[am,ao,go_sem];rw[show cPs a=cPs (a++G) by rw[ae,List.append_nil]]
  all_goals
   refine zf dirs 42 (λx:Own×List SpotD=>[(7,.sl x.1 5 (cPs x.2))]) (λdone rest x H'=>H' W=some (.cells [.int .i64 k,.str U,.str nm,.sl .no 6 (cMs args),.sl .no 2 (cDs dirs),.str on,.sl .no 7 (cSs sels)])/\x.2=a++G++done.flatMap (zb4 s)/\OwnS H .nil H' x.1 x.2.length 5) (ah,a++G) (by simp(disch:=omega) only[go_sem]) ⟨I,by simp,an⟩ ?_ ?_
   ·rintro⟨ap,Y⟩ ak b6 ⟨I,ab,ac⟩ az;simp only at ab;have av:=(bl dirs (by omega)).1;replace ac:OwnS H .nil ak ap Y.length 5:=ac;have cq:Y.length=a.length+G.length+(dirs.flatMap (zb4 s)).length:=by rw[ab,Al5,Al5]
    simp(disch:=omega) only[ao,az,I,go_sem];refine za bw ?_;simp(disch:=omega) only[I,go_sem];refine zx (c4 a7 ak) λc8 b4 ad=>?_;rw[cp]at ad ⊢;have ag:=YS ac ad;have ai:=ad.kept W _ I (λd e=>by cases e);simp(disch:=omega) only[I,ai,go_sem];refine zj (by rw[ye];exact ag.own) ?_ ?_ λa6 aq af=>?_
    ·simp only[ye];omega
    ·simp only[ye,maxLen];omega
    simp only[ye]at af;simp(disch:=omega) only[wrap64,zde,go_sem];exact goJ (cj (a6,Y++b7) aq ⟨by simp only;rw[a0,ab];simp[ZP],by rw[Al5];exact ag.trans af⟩) (by simp(disch:=omega) only[wrap64,go_sem])
   ·rintro Z A c9 ⟨ap,Y⟩ ak b6 bk az _ ⟨I,ab,ac⟩ ck;have bp:=zbb bk;have bg:=zeT Z A c9;rw[<-bk]at bg;simp only at ab;replace ac:OwnS H .nil ak ap Y.length 5:=ac;have av:=(bl (Z++[A]) (by
     have:bDs (Z++[A])=bDs Z+bD A:=by simp[bDs]
     omega)).1
    have cc:bDs (Z++[A])=bDs Z+bD A:=by simp[bDs]
    rw[List.flatMap_append,Al5]at av;have ba:[A].flatMap (zb4 s)=zb4 s A:=by simp
    rw[ba]at av;have cq:Y.length=a.length+G.length+(Z.flatMap (zb4 s)).length:=by rw[ab,Al5,Al5]
    have c6:a++G++(Z++[A]).flatMap (zb4 s)=Y++zb4 s A:=by rw[List.flatMap_append,ba,ab];simp[ZP]
    have bu:=ziq A;have dh:=zdg A;have bc:zb4 s A=zjJ s (yZ A) A.args:=rfl;obtain⟨al,aj⟩:=A;simp only[bD]at bg cc;simp only at bc;have bq:=λH=>ax (yZ ⟨al,aj⟩) aj H (by simp only[Lim];omega) (by omega);rw[<-bc]at bq;generalize yZ ⟨al,aj⟩=ps at *
    generalize zb4 s ⟨al,aj⟩=D at *
    rw[zid]at bp bu;simp(disch:=omega) only[ao,az,bp,go_sem];refine zc λa9 aw=>?_;have X:W≠a9:=λe=>by subst e;rw[I]at aw;cases aw
    have a3:=ac.upd (x:=.cells [.str al,.sl .no 6 (cMs aj)]) aw;simp(disch:=omega) only[X,Ne.symm X,go_sem];refine za bu ?_;simp(disch:=omega) only[X,Ne.symm X,go_sem];refine zx (bq _) λc8 b4 ad=>?_;have ag:=YS a3 ad;have ai:=ad.kept W _ (by simp only[zb.upd,X,if_false];exact I) (λd e=>by cases e);have b9:=ad.kept a9 _ (upd_same ..) (λd e=>by cases e);simp(disch:=omega) only[I,ai,b9,X,Ne.symm X,go_sem];refine zj (by rw[ye];exact ag.own) ?_ ?_ λa6 aq af=>?_
    ·simp only[ye];omega
    ·simp only[ye,maxLen];omega
    simp only[ye]at af;have ca:=af.kept W _ ai (zhh ag.own ai);simp(disch:=omega) only[wrap64,zde,go_sem];exact goJ (ck (a6,Y++D) aq ⟨ca,c6.symm,by rw[Al5];exact ag.trans af⟩) (by simp(disch:=omega) only[wrap64,go_sem])
end Go.Proofs.YtnemcnegfkjpeaaGreatDoor
