import Derived.Test.YtnemcnegfkjpeaaGreatDoorM8
set_option maxRecDepth 100000
set_option linter.all false
namespace Go.Proofs.YtnemcnegfkjpeaaGreatDoor
open Go.Ab
def zAJ(g f:FldD)(b:Nat)(H:zb)(A:H b=some (.cells (cL g))):zd Tryz.prog 291 [.agg (cL f),.ptr b 0] H (At (.bool (nmF g.nm f)) H):=by obtain⟨ae,af,⟨aa,ab,ac⟩,ad⟩:=g;obtain⟨Y,Z,⟨J,U,W⟩,X⟩:=f;rw[zaM]at A;refine zd.go ir291.1 ir291.2 (Al4 _) λKP Q I=>?_;simp(disch:=omega) only[ir291,zaM,A,go_sem];exact I _ _ _ _ _ nofun rfl (Low.refl _) ⟨by simp[nmF],rfl⟩
def zvE(s:SchD)(d:DefD)(g:FldD):Bool:=match d.flds.find? (nmF g.nm)with
 | none=>false
 | some f=>zqN s f.t g.t&&zhm f g
def zmx(s:SchD)(d:DefD)(face:List UInt8):Bool:=((yB s face).getD zE).flds.all (zvE s d)
def zxf{f:FldD}:f.t.nm.length<=bL f:=by simp only[bL];omega
def zBq(s:SchD)(d:DefD)(I:List UInt8)(ar:zJ s+1<=Lim)(bf:bE d<=Lim):ze Tryz.prog 219 [.agg (zm s),.agg (cE d),.str I] (.bool (zmx s d I)):=by
 have ad:=@yc s (by omega);have U:=zgy s I ad;have bh:=@YF s I;have au:=λa b U a7=>zAs s a b ar U a7;have bo:zJ s+1<=1099511627776:=by simpa only[Lim]using ar
 have ab:∀x,(yB s I).getD zE=x->bLs x.flds<=zJ s:=by
  intro x aa;cases h:yB s I with
  | none=>rw[h]at aa;subst aa;simp[zE,bLs]
  | some y=>rw[h]at aa;subst aa;exact(bh h).1
 have W:zmx s d I=((yB s I).getD zE).flds.all (zvE s d):=rfl;have aj:∀g,zvE s d g=match d.flds.find? (nmF g.nm)with|none=>false|some f=>zqN s f.t g.t&&zhm f g:=λ_=>rfl
 have aq:=λ(g:FldD) (b:Nat) (H:zb) (bc:H b=some (.cells (cL g))) (ad:d.flds.length<=Lim)=>zvr cL (λ_=>rfl) d.flds 291 [.ptr b 0] (nmF g.nm) H ad (by kernel_rfl) λf _=>zAJ g f b H bc;generalize zmx s d I=F at *
 generalize (yB s I).isSome=bk at *
 generalize (yB s I).getD zE=x at *
 replace ab:=ab x rfl;obtain⟨b2,b3,b1,Y,b5,b4⟩:=x;obtain⟨a1,a2,a0,J,a4,a3⟩:=d;simp only[bE,Lim]at bf;simp only at ab W aj aq;have bz:=zaf Y;have bp:=zaf J;have af:=zbd Y;have av:=zbd J;generalize zvE s ⟨a1,a2,a0,J,a4,a3⟩=G at *
 obtain⟨aw,ax,sm⟩:=s;generalize ba:(⟨aw,ax,sm⟩:SchD)=s at *
 have be:zm s=[.sl .no 6 (cEs aw),.str ax,.str sm]:=by rw[<-ba];rfl
 simp only[be,yf]at U au ⊢;refine ze.go ir219.1 ir219.2 (Al4 _) λKP Q a9=>?_;have fin:∀r,F=r->∀ρ H,zo ρ H ir219.1.res=some [.bool r]->Q .ret ρ H:=λr e ρ H U=>a9 _ ρ H _ nofun U (by rw[e];rfl);simp(disch:=omega) only[ir219,go_sem];refine za U ?_;simp(disch:=omega) only[go_sem];refine zc λbj bn=>?_;simp(disch:=omega) only[af,go_sem];refine zf Y 21 (λ_:Unit=>[]) (λdone rest _ H=>rest.all G=Y.all G) () (by simp(disch:=omega) only[go_sem]) rfl ?_ ?_
 ·rintro _ H ay A ae;simp(disch:=omega) only[af,ae,go_sem];exact fin true (by rw[W,<-A];rfl) _ _ rfl
 ·rintro done g rest _ H ay ao ae _ A a8;have ap:=ze6 ao;have bx:=@zc1 g Y (by rw[ao];simp);have bu:=@zsD g;have bv:=@zlP g;have bw:=@zxf g;have bg:=aj g;have hid:=aq g;rw[List.all_cons,bg]at A;have Z:∀g:FldD,cL g=[.str g.nm,.sl .no 10 (cWs g.ps),.str g.t.nm,.int .i64 g.t.lists,.int .i64 g.t.musts,.sl .no 2 (cDs g.dirs)]:=λ_=>rfl;have bd:=Z g;rw[bd]at ap;simp(disch:=omega) only[af,ae,ap,go_sem];refine zc λaz bl=>?_;simp(disch:=omega) only[go_sem];refine zQ (hid az _ (by rw[upd_same];rfl) (by simp only[Lim];omega)) ?_;rintro _ _ ⟨_,rfl,rfl,rfl⟩;rcases zax (nmF g.nm) J 0 with ⟨a,f,r,X,ag,a5,a6⟩|⟨X,ag⟩
  ·rw[a6,Int.zero_add];rw[a5]at A;simp only at A;have ac:=ze6 X;have bt:=@zc1 f J (by rw[X];simp);have bq:=@zlP f;have br:=@zxf f;have ah:(a.length:Int)<J.length:=by rw[X,Al5,Al2];omega
   have ai:¬ ((a.length:Int)<0):=by omega
   have ak:=au f.t g.t (by simp only[Lim];omega) (by simp only[Lim];omega);have al:=zy4 f g (by simp only[Lim];omega) (by simp only[Lim];omega);rw[Z f]at ac;simp only[cTy]at ak;rw[Z f,Z g]at al;simp(disch:=omega) only[ZT,ac,av,ah,ai,go_sem];refine za ak ?_;cases am:zqN s f.t g.t with
   | false =>rw[am]at A;simp(disch:=omega) only[go_sem];exact fin false (by rw[W,<-A];simp) _ _ rfl
   | true =>
    rw[am]at A;simp(disch:=omega) only[ac,av,ah,ai,go_sem];refine za al ?_;cases an:zhm f g with
    | false =>rw[an]at A;simp(disch:=omega) only[go_sem];exact fin false (by rw[W,<-A];simp) _ _ rfl
    | true =>rw[an]at A;simp(disch:=omega) only[go_sem];exact goJ (a8 () _ (by simpa using A)) (by simp(disch:=omega) only[wrap64,go_sem])
  ·rw[ag];rw[X]at A;simp(disch:=omega) only[ZT,go_sem];exact fin false (by rw[W,<-A];simp) _ _ rfl
def zvU(s:SchD)(d:DefD)(n:List UInt8)(b:Nat)(H:zb)(I:H b=some (.cells (zm s)))(W:zJ s+1<=Lim)(U:bE d<=Lim):zd Tryz.prog 218 [.str n,.ptr b 0,.view (cE d)] H (At (.bool (!zmx s d n)) H):=by
 have A:=zBq s d n W U;generalize zmx s d n=af at *
 obtain⟨Z,aa,Y,X,ac,ab⟩:=d;obtain⟨ad,ae,sm⟩:=s;simp only[zm,yf]at A I ⊢;refine zd.go ir218.1 ir218.2 (Al4 _) λKP Q J=>?_;simp(disch:=omega) only[ir218,I,go_sem];refine za A ?_;simp(disch:=omega) only[go_sem];exact J _ _ _ _ _ nofun rfl (Low.refl _) ⟨by simp ,rfl⟩
def zmz(s:SchD)(d:DefD):Bool:=!d.faces.any λn=>!zmx s d n
def zyO(s:SchD)(d:DefD)(b:Nat)(H:zb)(U:H b=some (.cells (zm s)))(X:zJ s+1<=Lim)(I:bE d<=Lim):zd Tryz.prog 217 [.agg (cE d),.ptr b 0] H (At (.bool (zmz s d)) H):=by
 have W:d.faces.length<=Lim:=by have:=ZK d.faces;simp only[bE]at I;omega
 have A:=zf9 (λn:List UInt8=>AV.str n) d.faces 218 [.ptr b 0,.view (cE d)] (λn=>!zmx s d n) H W (by kernel_rfl) λm _=>zvU s d m b H U X I;unfold zmz;generalize (d.faces.any λn=>!zmx s d n)=ab at *
 obtain⟨k,nm,Z,Y,ps,aa⟩:=d;simp only[yf]at A ⊢;refine zd.go ir217.1 ir217.2 (Al4 _) λKP Q J=>?_;simp(disch:=omega) only[ir217,go_sem];refine zQ A ?_;rintro _ _ ⟨_,rfl,rfl,rfl⟩;simp(disch:=omega) only[ZT,go_sem];exact J _ _ _ _ _ nofun rfl (Low.refl _) ⟨by simp ,rfl⟩
def zlD(s:SchD):Bool:=s.defs.all (zmz s)
def zxD(s:SchD)(U:zJ s+1<=Lim):ze Tryz.prog 118 [.agg (zm s)] (.bool (zlD s)):=by
 have Y:=@yc s (by omega);have A:=λb H W=>zfC s 217 [.ptr b 0] (zmz s) H Y (by kernel_rfl) λd X=>zyO s d b H W U (zkL X (by omega));rw[zlD];generalize s.defs.all (zmz s)=ac at *
 obtain⟨aa,ab,sm⟩:=s;simp only[zm]at A ⊢;refine ze.go ir118.1 ir118.2 (Al4 _) λKP Q J=>?_;simp(disch:=omega) only[ir118,go_sem];refine zc λI Z=>?_;simp(disch:=omega) only[go_sem];refine zQ (A I _ (upd_same ..)) ?_;rintro _ _ ⟨_,rfl,rfl,rfl⟩;simp(disch:=omega) only[ZT,go_sem];exact J _ _ _ _ nofun rfl rfl
def zot{H H':zb}{o:Own}{n sz:Nat}(h:zA H o n sz)(A:Kept H .nil H'):zA H' o n sz:=by
 cases o with
 | no=>exact h
 | nil=>exact h
 | full=>exact h
 | tip b d=>exact A b _ h λI e=>by cases e
def YB(s:SchD)(l:List (List UInt8))(p:VarD):List (List UInt8):=if p.t.lists=0/\isM p.t=true/\Za s p.t.nm [5]=true/\yo p.t.nm l=false then l++[p.t.nm]else l
def zcx(s:SchD)(n:List UInt8):List (List UInt8):=((yB s n).getD zE).ps.foldl (YB s) []
def zm3(s:SchD)(l:List (List UInt8))(p:VarD):(YB s l p).length<=l.length+1:=by unfold YB;split<;>simp
def zxv(s:SchD)(n:List UInt8)(H:zb)(au:zJ s<=Lim):YG Tryz.prog 294 [.agg (zm s),.str n] H .nil 1 (cT (zcx s n)):=by
 have ar:=yc au;have ak:=zgy s n ar;have a9:=@YF s n;have aq:=λp=>zdA s p [5] ar (by decide);have bp:zJ s<=1099511627776:=by simpa only[Lim]using au
 have ah:∀x,(yB s n).getD zE=x->bWs x.ps<=zJ s:=by
  intro x ac;cases h:yB s n with
  | none=>rw[h]at ac;subst ac;simp[zE,bWs]
  | some y=>rw[h]at ac;subst ac;exact(a9 h).2.2.2
 have ad:zcx s n=((yB s n).getD zE).ps.foldl (YB s) []:=rfl;generalize zcx s n=F at *
 generalize (yB s n).isSome=bn at *
 generalize (yB s n).getD zE=x at *
 replace ah:=ah x rfl;obtain⟨az,bu,bt,br,bv,X⟩:=x;simp only at ah ad;have bq:=yJ X;have ai:=Zk X;obtain⟨aw,ax,sm⟩:=s;generalize a4:(⟨aw,ax,sm⟩:SchD)=s at *
 have a7:zm s=[.sl .no 6 (cEs aw),.str ax,.str sm]:=by rw[<-a4];rfl
 simp only[a7,yf,List.map,cI]at ak aq ⊢;refine zd.goO ir294.1 ir294.2 (Al4 _) λKP Q a3 bo=>?_;simp(disch:=omega) only[ir294,go_sem];refine za ak ?_;simp(disch:=omega) only[go_sem];refine zc λbk a5=>?_;simp(disch:=omega) only[ai,go_sem];refine zf X 19 (λx:Own×List (List UInt8)=>[(7,.sl x.1 1 (cT x.2))]) (λdone rest x H'=>rest.foldl (YB s) x.2=X.foldl (YB s) []/\x.2.length+rest.length<=X.length/\OwnS H .nil H' x.1 x.2.length 1) (.nil,[]) (by simp(disch:=omega) only[cT,List.map,go_sem]) ⟨rfl,by simp,(OwnS.refl (o:=.nil) (n:=0) rfl).upd a5⟩ ?_ ?_
 ·rintro⟨J,a⟩ H' a1 ⟨A,_,Z⟩ ag;simp only[List.foldl]at A;simp(disch:=omega) only[ai,ag,go_sem];refine a3 _ _ H' H' [.sl J 1 (cT a)] nofun (by simp(disch:=omega) only[ir294,zo,z8,go_sem]) (Low.refl _) ⟨J,by rw[ad,<-A];rfl,by rw[ad,<-A,zG];exact Z⟩
 ·rintro done p rest ⟨J,a⟩ H' a1 an ag _ ⟨A,ba,Z⟩ Y;have ao:=Ya an;have bc:=@YL p X (by rw[an];simp);simp only[bW]at bc;replace Z:OwnS H .nil H' J a.length 1:=Z;simp only[List.foldl,Al2]at A ba;have af:=isC p.t (by simp only[Lim];omega);have am:=aq p.t.nm;have al:=yD a p.t.nm (by simp only[Lim];omega);have aa:=zm3 s a p;have I:YB s a p=if p.t.lists=0/\isM p.t=true/\Za s p.t.nm [5]=true/\yo p.t.nm a=false then a++[p.t.nm]else a:=rfl
  obtain⟨nm,⟨W,aj,ay⟩,a8,⟨az,bg,xs,be,bf⟩⟩:=p;rw[z7]at ao;simp only at af am al I;simp only[cTy]at af;generalize isM ⟨W,aj,ay⟩=bh at *
  generalize Za s W [5]=bj at *
  have ab:=zG a;simp(disch:=omega) only[ai,ag,ao,go_sem];refine zc λbl a6=>?_;have U:=Z.upd (x:=.cells (cW ⟨nm,⟨W,aj,ay⟩,a8,.mk az bg xs be bf⟩)) a6;rw[z7]at U;by_cases ae:aj=0
  case neg =>rw[if_neg (λh=>ae h.1)]at I;rw[I]at A aa;simp(disch:=omega) only[ae,go_sem];exact goJ (Y (J,a) _ ⟨A,by simp only;omega,U⟩) (by simp(disch:=omega) only[wrap64,go_sem])
  subst ae;simp(disch:=omega) only[go_sem];refine za af ?_;cases bh with
  | false =>rw[if_neg (by simp)]at I;rw[I]at A aa;simp(disch:=omega) only[go_sem];exact goJ (Y (J,a) _ ⟨A,by simp only;omega,U⟩) (by simp(disch:=omega) only[wrap64,go_sem])
  | true =>
  simp(disch:=omega) only[go_sem];refine za (ze.low am) ?_;cases bj with
  | false =>rw[if_neg (by simp)]at I;rw[I]at A aa;simp(disch:=omega) only[go_sem];exact goJ (Y (J,a) _ ⟨A,by simp only;omega,U⟩) (by simp(disch:=omega) only[wrap64,go_sem])
  | true =>
  simp(disch:=omega) only[go_sem];refine za (ze.low al) ?_;cases ap:yo W a with
  | true =>rw[if_neg (by simp[ap])]at I;rw[I]at A aa;simp(disch:=omega) only[go_sem];exact goJ (Y (J,a) _ ⟨A,by simp only;omega,U⟩) (by simp(disch:=omega) only[wrap64,go_sem])
  | false =>
   rw[if_pos ⟨rfl,rfl,rfl,ap⟩]at I;rw[I]at A aa;simp(disch:=omega) only[go_sem];refine zj (by rw[ab];exact U.own) ?_ ?_ λo' a0 bd=>?_
   ·simp only[ab,Al2,Al3];omega
   ·simp only[ab,Al2,Al3,maxLen];omega
   have a2:cT a++[[AV.str W]]=cT (a++[W]):=by simp[cT]
   have av:=U.trans bd;simp only[ab,Al2,Al3]at av;simp(disch:=omega) only[wrap64,a2,go_sem];exact goJ (Y (o',a++[W]) a0 ⟨A,by simp only[Al5,Al2,Al3];omega,by simpa using av⟩) (by simp(disch:=omega) only[go_sem])
def OkL(s:SchD)(l:List (List UInt8)):Prop:=l.Nodup/\∀x∈l,x∈s.defs.map (·.nm)
def zq5{s:SchD}{n:List UInt8}(h:Za s n [5]=true):n∈s.defs.map (·.nm):=by
 unfold Za at h;cases A:yB s n with
 | none=>rw[A]at h;cases h
 | some d =>
  rw[A]at h;have U:d.k=5:=by simpa[zq6]using h
  unfold yB at A;split at A
  ·cases A;simp[scE]at U
  ·have J:=List.mem_of_find?_eq_some A;have I:=List.find?_some A;simp only[nmE,z6]at I;exact List.mem_map.2 ⟨d,J,I⟩
def zpF{s:SchD}{l:List (List UInt8)}{x:List UInt8}(h:OkL s l)(J:yo x l=false)(W:x∈s.defs.map (·.nm)):OkL s (l++[x]):=by
 have X:x ∉ l:=λh=>by rw[(zin x l).2 h]at J;cases J
 refine⟨List.nodup_append.2 ⟨h.1,by simp,λa U b I e=>?_⟩,λy Y=>?_⟩
 ·simp only[List.mem_singleton]at I;subst I;subst e;exact X U
 ·rcases List.mem_append.1 Y with A|A
  ·exact h.2 y A
  ·simp only[List.mem_singleton]at A;subst A;exact W
def zm4{s:SchD}{l:List (List UInt8)}(p:VarD)(h:OkL s l):OkL s (YB s l p):=by
 unfold YB;split
 ·rename_i A;exact zpF h A.2.2.2 (zq5 A.2.2.1)
 ·exact h
def zhB{s:SchD}:∀(ps:List VarD) {l:List (List UInt8)},OkL s l->OkL s (ps.foldl (YB s) l)
 | [],_,h=>h
 | p::ps,_,h=>zhB ps (zm4 p h)
def zrl(s:SchD)(n:List UInt8):OkL s (zcx s n):=zhB _ ⟨List.nodup_nil,by simp⟩
def zwS{s:SchD}{l:List (List UInt8)}{x:List UInt8}(h:OkL s l)(I:x∈s.defs.map (·.nm)):OkL s (zcv l x):=by
 unfold zcv;split
 ·exact h
 ·rename_i A;exact zpF h (by simpa using A) I
def zlO{s:SchD}{l:List (List UInt8)}(h:OkL s l):l.length<=s.defs.length:=by have:=List.Nodup.length_le_of_subset h.1 (λx A=>h.2 x A);simpa using this
def zj9(s:SchD)(n:List UInt8):Nat->List (List UInt8)->Nat->Bool
 | 0,_,_=>false
 | k+1,l,i=>match l[i]? with
  | none=>false
  | some x=>if x=n then true else zj9 s n k ((zcx s x).foldl zcv l) (i+1)
def zmD(s:SchD)(n:List UInt8):Bool:=zj9 s n (s.defs.length+1) (zcx s n) 0
def zxC(s:SchD)(n:List UInt8)(ai:zJ s<=Lim):ze Tryz.prog 223 [.agg (zm s),.str n] (.bool (zmD s n)):=by
 have ba:=yc ai;have bj:zJ s<=1099511627776:=by simpa only[Lim]using ai
 have bk:s.defs.length<=1099511627776:=by simpa only[Lim]using ba
 have ae:=λx H=>zxv s x H ai;have ah:=zrl s;have ay:zmD s n=zj9 s n (s.defs.length+1) (zcx s n) 0:=rfl;generalize zmD s n=F at *
 obtain⟨au,av,sm⟩:=s;generalize a4:(⟨au,av,sm⟩:SchD)=s at *
 have a6:zm s=[.sl .no 6 (cEs au),.str av,.str sm]:=by rw[<-a4];rfl
 simp only[a6]at ae ⊢;refine ze.go ir223.1 ir223.2 (Al4 _) λKP Q a3=>?_;have fin:∀r,F=r->∀ρ H,zo ρ H ir223.1.res=some [.bool r]->Q .ret ρ H:=λr e ρ H a1=>a3 _ ρ H _ nofun a1 (by rw[e];rfl);simp(disch:=omega) only[ir223,go_sem];refine zx (ae n _) λo0 H0 ap=>?_;rw[zG]at ap;simp(disch:=omega) only[go_sem];refine Ze (λx:Own×List (List UInt8)×Nat=>[(5,.sl x.1 1 (cT x.2.1)),(6,.int .i64 x.2.2)]) (λx H'=>zA H' x.1 x.2.1.length 1/\OkL s x.2.1/\x.2.2<=s.defs.length/\zj9 s n (s.defs.length+1-x.2.2) x.2.1 x.2.2=F) (λx=>s.defs.length+1-x.2.2) (o0,zcx s n,0) (by simp(disch:=omega) only[go_sem]) ⟨ap.own,ah n,Nat.zero_le _,ay.symm⟩ ?_;rintro⟨o,l,i⟩ H1 bh ⟨ho,af,hi,hr⟩ a2;replace ho:zA H1 o l.length 1:=ho;simp only at af hi hr;have hlen:=zlO af;have aj:=zG l;have a0:s.defs.length+1-i=(s.defs.length-i)+1:=by omega
 rw[a0]at hr;by_cases bl:i<l.length
 case neg =>
  have a7:l[i]?=none:=List.getElem?_eq_none (by omega);have Z:¬ ((i:Int)<l.length):=by omega
  simp only[zj9,a7]at hr;simp(disch:=omega) only[aj,Z,go_sem];exact fin false hr.symm _ _ rfl
 obtain⟨a,x,r,ao,a5⟩:∃a x r,l=a++x::r/\a.length=i:=⟨l.take i,l[i],l.drop (i+1),by rw[List.getElem_cons_drop,List.take_append_drop],by rw[List.length_take];omega⟩;subst a5;have a8:l[a.length]?=some x:=by rw[ao];simp
 have am:(cT l).getD a.length []=[.str x]:=YP ao;have Z:(a.length:Int)<l.length:=by omega
 simp only[zj9,a8]at hr;by_cases aa:x=n
 ·rw[if_pos aa]at hr;have bd:=eq_true aa;simp(disch:=omega) only[aj,Z,am,bd,go_sem];exact fin true hr.symm _ _ rfl
 rw[if_neg aa]at hr;simp(disch:=omega) only[aj,Z,am,aa,go_sem];refine zx (ae x _) λbp bg aq=>?_;have ab:=zG (zcx s x);rw[ab]at aq;have ho2:=zot ho aq.kept;have be:=(ah x).2;have bo:=zlO (ah x);generalize zcx s x=xs at *
 simp(disch:=omega) only[ab,go_sem];refine zf xs 31 (λy:Own×List (List UInt8)=>[(5,.sl y.1 1 (cT y.2))]) (λdone rest y H'=>zA H' y.1 y.2.length 1/\OkL s y.2/\rest.foldl zcv y.2=xs.foldl zcv l) (o,l) (by simp(disch:=omega) only[go_sem]) ⟨ho2,af,rfl⟩ ?_ ?_
 ·rintro⟨ad,A⟩ W ax ⟨J,U,I⟩ ag;simp only[List.foldl]at I;rw[<-I]at hr;simp only at U;simp(disch:=omega) only[ab,ag,go_sem];exact goJ (a2 (ad,A,a.length+1) W (by simp only;omega) ⟨J,U,by simp only;omega,by simp only;rw[<-hr];congr 1;omega⟩) (by simp(disch:=omega) only[wrap64,go_sem];simp)
 ·rintro done y rest ⟨ad,A⟩ W ax al ag _ ⟨J,U,I⟩ ak;have a9:=YP al;have bf:=be y (by rw[al];simp);replace J:zA W ad A.length 1:=J;simp only[List.foldl]at U I;have bn:=zlO U;have ac:=zG A;have X:=zwS U bf;have Y:zcv A y=if yo y A=true then A else A++[y]:=rfl
  simp(disch:=omega) only[ab,ag,a9,go_sem];refine za (ze.low (yD A y (by simp only[Lim];omega))) ?_;cases an:yo y A with
  | true =>rw[if_pos an]at Y;rw[Y]at I X;simp(disch:=omega) only[go_sem];exact goJ (ak (ad,A) W ⟨J,X,I⟩) (by simp(disch:=omega) only[wrap64,go_sem])
  | false =>
   rw[if_neg (by simp[an])]at Y;rw[Y]at I X;simp(disch:=omega) only[go_sem];refine zj (by rw[ac];exact J) ?_ ?_ λo' aw bc=>?_
   ·simp only[ac,Al2,Al3];omega
   ·simp only[ac,Al2,Al3,maxLen];omega
   have az:cT A++[[AV.str y]]=cT (A++[y]):=by simp[cT]
   have ar:=bc.own;simp only[ac,Al2,Al3]at ar;simp(disch:=omega) only[wrap64,az,go_sem];exact goJ (ak (o',A++[y]) aw ⟨by simpa using ar,X,I⟩) (by simp(disch:=omega) only[go_sem])
def znQ(s:SchD)(d:DefD):Bool:=!decide (d.k=5)||!zmD s d.nm
def zzd(s:SchD)(d:DefD)(U:zJ s<=Lim):ze Tryz.prog 222 [.agg (cE d),.view (zm s)] (.bool (znQ s d)):=by
 have I:=zxC s d.nm U;unfold znQ;generalize zmD s d.nm=ab at *
 obtain⟨k,nm,X,W,ps,Y⟩:=d;obtain⟨Z,aa,sm⟩:=s;simp only[zm,yf]at I ⊢;refine ze.go ir222.1 ir222.2 (Al4 _) λKP Q J=>?_;by_cases A:k=5
 ·subst A;simp(disch:=omega) only[ir222,go_sem];refine za I ?_;simp(disch:=omega) only[go_sem];exact J _ _ _ _ nofun rfl (by simp )
 ·simp(disch:=omega) only[ir222,A,go_sem];exact J _ _ _ _ nofun rfl (by simp[A])
def zpC(s:SchD):Bool:=s.defs.all (znQ s)
def zzM(s:SchD)(A:zJ s<=Lim):ze Tryz.prog 120 [.agg (zm s)] (.bool (zpC s)):=by
 have U:=yc A;have I:=λH=>zfC s 222 [.view (zm s)] (znQ s) H U (by kernel_rfl) λd _=>zvi (zzd s d A) H;rw[zpC];generalize s.defs.all (znQ s)=Y at *
 obtain⟨W,X,sm⟩:=s;simp only[zm]at I ⊢;refine ze.go ir120.1 ir120.2 (Al4 _) λKP Q J=>?_;simp(disch:=omega) only[ir120,go_sem];refine zQ (I _) ?_;rintro _ _ ⟨_,rfl,rfl,rfl⟩;simp(disch:=omega) only[ZT,go_sem];exact J _ _ _ _ nofun rfl rfl
def zk2(dp:Int)(fixed:Bool)(l:List DirD)(x:DirD):Zj dp fixed (l++[x])=(Zj dp fixed l&&zf7 dp fixed x):=by simp[Zj]
def ztQ(l:List DirD)(x:DirD):tDs (l++[x])=tDs l++tD x:=by simp[tDs]
def zt1(l:List DirD)(x:DirD):bDs (l++[x])=bDs l+bD x:=by simp[bDs]
def zeG(fixed:Bool)(m:List DirD)(ao:zlK m)(al:8*bDs m<=Lim):WC 88 [.bool fixed,.sl .no 2 (cDs m)] (8*bDs m) 0 32 (λdp=>Zj dp fixed m) (tDs m):=by
 intro H w o l ok dp h a2 a3 J;have a6:=zbh m;have U:=Y4 m;have am:=al;simp only[Lim]at am;refine zd.go ir88.1 ir88.2 (Al4 _) λKP Q ai=>?_;have w0:=WR.refl h;simp(disch:=omega) only[ir88,U,go_sem];refine zf m 10 (λx:Own×List Tok=>[]) (λdone rest x H'=>WR H o w l ok dp (8*bDs done) (Zj dp fixed done) (tDs done) H' x.1 x.2) (o,l) (by simp(disch:=omega) only[go_sem]) (w0.cast (by omega) rfl rfl) ?_ ?_
 ·rintro⟨au,aq⟩ I af A X;simp only at A;simp(disch:=omega) only[U,X,go_sem];exact ai _ _ I I [] nofun rfl (Low.refl _) ⟨rfl,A.fin rfl (λ_=>rfl) (by omega)⟩
 ·rintro done x rest ⟨au,aq⟩ I af W X a5 A ah;simp only at A;have ab:=zbb W;have Z:=zeT done x rest;rw[<-W]at Z;have an:x∈m:=by rw[W];simp
  have ap:=ao x an;obtain⟨s,args⟩:=x;have a4:=Zg args;simp only[bD]at Z;have ag:cD ⟨s,args⟩=[.str s,.sl .no 6 (cMs args)]:=rfl;rw[ag]at ab;simp(disch:=omega) only[U,X,ab,go_sem];refine zc λb J=>?_;have aa:b≠w:=λe=>by subst e;rw[A.here.cell]at J;cases J
  have ac:=A.alloc (x:=.cells [.str s,.sl .no 6 (cMs args)]) J;have ak:(I.upd b (.cells [.str s,.sl .no 6 (cMs args)])) b=some (.cells [.str s,.sl .no 6 (cMs args)]):=upd_same ..;simp(disch:=omega) only[go_sem];refine zt (Zd [64] _) ac (by omega) (by omega) (by omega) λa9 a7 a0 ad aw=>?_;have Y:=aw.box ac.here.own ak aa;simp(disch:=omega) only[Y,go_sem];refine zt (yv s (by simp only[Lim];omega)) ad (by omega) (by omega) (by omega) λba a8 a1 ay ax=>?_;have aj:=ax.box ad.here.own Y aa;simp(disch:=omega) only[aj,go_sem];refine zt (zs7 fixed args ap (by simp only[Lim];omega)) ay (by omega) (by omega) (by omega) λav ar ae az bc=>?_;simp(disch:=omega) only[wrap64,go_sem];exact goJ (ah (av,ar) ae (az.cast (by rw[zt1];simp only[bD];omega) (by rw[zk2];simp[zf7,zak]) (by rw[ztQ];simp[tD]))) (by simp(disch:=omega) only[go_sem])
def zsP(c:Nat):Prop:=∀l:List SelD,bSs l<=c->zcQ l->16*bSs l+2<=Lim->WC 172 [.sl .no 7 (cSs l)] (16*bSs l) 0 17 (λdp=>yu dp l) (tSl l)
def zh4{c:Nat}(ag:zsP c)(l:List SelD)(ai:bSs l<=c)(ak:zcQ l)(aj:16*bSs l+2<=Lim):WC 89 [.sl .no 7 (cSs l)] (16*bSs l+2) 0 16 (λdp=>yu (dp+1) l) (tBl l):=by
 intro H w o k ok dp h ar au ay;refine zd.go ir89.1 ir89.2 (Al4 _) λKP Q ah=>?_;simp(disch:=omega) only[ir89,go_sem];refine zbG (Zd [123] _) h (by omega) (by omega) (by omega) λa1 az ap J ae aw U=>?_;have Y:=J.cell;have an:IntKind.wrap .i64 (dp+1)=dp+1:=wrap64 (by omega) (by omega);have ao:IntKind.wrap .i64 (dp+1-1)=dp:=by rw[wrap64 (by omega) (by omega)];omega
 simp(disch:=omega) only[Y,an,go_sem];have aa:=J.put (ok':=ok&&true) (dp':=dp+1);refine zbG (ag l ai ak aj) aa (by omega) (by omega) (by omega) λa2 a0 aq W af ax X=>?_;have Z:=W.cell;simp(disch:=omega) only[Z,ao,go_sem];have ab:=W.put (ok':=(ok&&true)&&yu (dp+1) l) (dp':=dp);refine zbG (Zd [125] _) ab (by omega) (by omega) (by omega) λam al A ac ad av I=>?_;simp(disch:=omega) only[go_sem];refine ah _ _ A A [] nofun rfl (Low.refl _) ⟨rfl,am,al,by simpa using ac,?_,by omega,λe=>?_⟩
 ·exact((ae.upd.trans (upd_same ..) af).upd).trans (upd_same ..) ad
 ·simp only[Bool.and_true]at U X I;rw[I e,X e,U (by simp only[Al0]at e;exact e.1)];simp[tBl]
def ztE(k:Int)(A nm:List UInt8)(args:List Mem)(dirs:List DirD)(on:List UInt8)(sels:List SelD)(ak:k=1)(an:wfS (.mk k A nm args dirs on sels))(al:16*bS (.mk k A nm args dirs on sels)<=Lim):
  WC 260 [.agg (cS (.mk k A nm args dirs on sels))] (16*bS (.mk k A nm args dirs on sels)) 0 16 (λdp=>Z8 dp (.mk k A nm args dirs on sels)) (tS (.mk k A nm args dirs on sels)):=by
 intro H w o l ok dp h ay I aj;have am:=al;simp only[Lim,bS]at am;simp only[bS]at aj;have Y:=yU args;have ab:=YK sels;obtain⟨_,ao,_⟩:=an;subst ak;refine zd.go ir260.1 ir260.2 (Al4 _) λKP Q ai=>?_;have w0:=WR.refl h;obtain⟨b,J⟩:∃b,b=(decide (nm≠[111,110])&&(decide (A=[])&&(decide (on=[])&&(decide (args.length=0)&&decide (sels.length=0))))):=⟨_,rfl⟩;have ad:Z8 dp (.mk 1 A nm args dirs on sels)=(b&&zL nm&&Zj dp false dirs):=by rw[J];simp only[Z8,show ¬ ((1:Int)=0) by decide,if_false,if_true];cases zL nm<;>cases Zj dp false dirs<;>simp
 have ag:b=true->tS (.mk 1 A nm args dirs on sels)=pk [46,46,46]::wk nm::tDs dirs:=λe=>by rw[J]at e;simp only[Al0,z6]at e;simp[tS,e.2.2.2.2]
 by_cases I:A=[]
 case' neg =>
  have X:b=false:=by rw[J];simp[I]
  simp(disch:=omega) only[ir260,y9,I,go_sem]
 case' pos =>
  by_cases ae:args.length=0
  case' neg =>
   have X:b=false:=by rw[J];simp[ae]
   have U:¬ ((args.length:Int)=0):=by omega
   simp(disch:=omega) only[ir260,y9,I,Y,U,go_sem]
  case' pos =>
   have U:((args.length:Int)=0)=True:=eq_true (by omega);by_cases W:on=[]
   case' neg =>
    have X:b=false:=by rw[J];simp[W]
    simp(disch:=omega) only[ir260,y9,I,Y,U,W,go_sem]
   case' pos =>
    by_cases af:sels.length=0
    case' neg =>
     have X:b=false:=by rw[J];simp[af]
     have Z:¬ ((sels.length:Int)=0):=by omega
     simp(disch:=omega) only[ir260,y9,I,Y,U,W,ab,Z,go_sem]
    case' pos =>
     have Z:((sels.length:Int)=0)=True:=eq_true (by omega);by_cases aa:nm=[111,110]
     case' pos =>
      have X:b=false:=by rw[J];simp[aa]
      have ah:=eq_true aa;simp(disch:=omega) only[ir260,y9,I,Y,U,W,ab,Z,ah,go_sem]
     case' neg =>
      have X:b=true:=by rw[J];simp[I,ae,W,af,aa]
      simp(disch:=omega) only[ir260,y9,I,Y,U,W,ab,Z,aa,go_sem]
 all_goals refine zt (Yq _) w0 (by omega) (by omega) (by omega) λa3 az av ap _=>?_;simp(disch:=omega) only[go_sem];refine zt (Zd [46,46,46] _) ap (by omega) (by omega) (by omega) λa4 a0 aw aq _=>?_;simp(disch:=omega) only[go_sem];refine zt (yv nm (by simp only[Lim];omega)) aq (by omega) (by omega) (by omega) λa5 a1 ax ar _=>?_;simp(disch:=omega) only[go_sem];refine zt (zeG false dirs ao (by simp only[Lim];omega)) ar (by omega) (by omega) (by omega) λa6 a2 ac au _=>?_;simp(disch:=omega) only[go_sem];exact ai _ _ ac ac [] nofun rfl (Low.refl _) ⟨rfl,au.fin (by show _=Z8 dp _;rw[ad,X];simp) (λe=>by have e:Z8 dp (.mk 1 A nm args dirs on sels)=true:=e;rw[ag (by rw[ad]at e;simp only[Al0]at e;exact e.1.1)];simp) (by simp only[bS];omega)⟩
def zw1:zL [111,110]=true:=by decide
def zue{c:Nat}(ag:zsP c)(k:Int)(A nm:List UInt8)(args:List Mem)(dirs:List DirD)(on:List UInt8)(sels:List SelD)(ak:k=2)(aj:bSs sels<=c)(an:wfS (.mk k A nm args dirs on sels))(al:16*bS (.mk k A nm args dirs on sels)<=Lim):
  WC 261 [.agg (cS (.mk k A nm args dirs on sels))] (16*bS (.mk k A nm args dirs on sels)) 0 16 (λdp=>Z8 dp (.mk k A nm args dirs on sels)) (tS (.mk k A nm args dirs on sels)):=by
 intro H w o l ok dp h a1 I ai;have am:=al;simp only[Lim,bS]at am;simp only[bS]at ai;have ac:=yU args;obtain⟨_,ao,ap⟩:=an;subst ak;refine zd.go ir261.1 ir261.2 (Al4 _) λKP Q ah=>?_;have w0:=WR.refl h;obtain⟨b,U⟩:∃b,b=(decide (nm=[])&&(decide (A=[])&&decide (args.length=0))):=⟨_,rfl⟩;have aa:Z8 dp (.mk 2 A nm args dirs on sels)=(b&&(decide (on=[])||zL on)&&Zj dp false dirs&&yu (dp+1) sels):=by rw[U];simp only[Z8,yu,show ¬ ((2:Int)=0) by decide,show ¬ ((2:Int)=1) by decide,if_false,if_true];cases Zj dp false dirs<;>simp[zak]
 have af:b=true/\yu (dp+1) sels=true->tS (.mk 2 A nm args dirs on sels)=pk [46,46,46]::((if on=[]then []else [wk [111,110],wk on])++(tDs dirs++tBl sels)):=λ⟨e,Z⟩=>by simp only[yu,Al0,z6]at Z;simp[tS,Z.1,tBl]
 by_cases I:A=[]
 case' neg =>
  have W:b=false:=by rw[U];simp[I]
  simp(disch:=omega) only[ir261,y9,I,go_sem]
 case' pos =>
  by_cases J:nm=[]
  case' neg =>
   have W:b=false:=by rw[U];simp[J]
   simp(disch:=omega) only[ir261,y9,I,J,go_sem]
  case' pos =>
   by_cases ab:args.length=0
   case' neg =>
    have W:b=false:=by rw[U];simp[ab]
    have X:¬ ((args.length:Int)=0):=by omega
    simp(disch:=omega) only[ir261,y9,I,J,ac,X,go_sem]
   case' pos =>
    have X:((args.length:Int)=0)=True:=eq_true (by omega);have W:b=true:=by rw[U];simp[I,J,ab]
    simp(disch:=omega) only[ir261,y9,I,J,ac,X,go_sem]
 all_goals
  refine zt (Yq _) w0 (by omega) (by omega) (by omega) λa8 a2 aw aq _=>?_;simp(disch:=omega) only[go_sem];refine zt (Zd [46,46,46] _) aq (by omega) (by omega) (by omega) λa9 a3 ax ad _=>?_;by_cases ho:on=[]
  case' pos =>have ae:=ad;simp(disch:=omega) only[ho,go_sem]
  case' neg =>simp(disch:=omega) only[ho,go_sem];refine zt (yv [111,110] (by simp[Lim])) ad (by omega) (by omega) (by omega) λba a4 ay ar _=>?_;simp(disch:=omega) only[go_sem];refine zt (yv on (by simp only[Lim];omega)) ar (by omega) (by omega) (by omega) λbc a5 az ae _=>?_;simp(disch:=omega) only[go_sem]
  all_goals refine zt (zeG false dirs ao (by simp only[Lim];omega)) ae (by omega) (by omega) (by omega) λbd a6 a0 au _=>?_;simp(disch:=omega) only[go_sem];refine zt (zh4 ag sels aj ap (by simp only[Lim];omega)) au (by omega) (by omega) (by omega) λbe a7 Y av _=>?_;simp(disch:=omega) only[go_sem];exact ah _ _ Y Y [] nofun rfl (Low.refl _) ⟨rfl,av.fin (by show _=Z8 dp _;rw[aa,W];simp[ho,zw1,zak]) (λe=>by have e:Z8 dp (.mk 2 A nm args dirs on sels)=true:=e;rw[af (by rw[aa]at e;simp only[Al0]at e;exact⟨e.1.1.1,e.2⟩)];simp[ho]) (by simp only[bS];omega)⟩
def Y1(dp:Int)(l:List SelD)(x:SelD):yY dp (l++[x])=(yY dp l&&Z8 dp x):=by rw[zep];simp[yY]
def zjk(l:List SelD)(x:SelD):tSl (l++[x])=tSl l++tS x:=by rw[zpv];simp[tSl]
def zjc(l:List SelD)(x:SelD):bSs (l++[x])=bSs l+bS x:=by rw[zbk];simp[bSs]
def zmP{dp:Int}{l a b:List SelD}{x:SelD}(h:l=a++x::b)(hr:yY dp a=false):yY dp l=false:=by rw[h,zep,hr];rfl
def WR.castC{H0 H:zb}{o0 o:Own}{w B B':Nat}{l0 l tk tk':List Tok}{ok0 r r':Bool}{dp:Int}(h:WR H0 o0 w l0 ok0 dp B r tk H o l)(I:B<=B')(hr:r=r')(A:r'=true->tk=tk'):WR H0 o0 w l0 ok0 dp B' r' tk' H o l:=by subst hr;refine⟨h.here,h.st,by have:=h.len;omega,λe=>?_⟩;rw[h.eq e,A (by simp only[Al0]at e;exact e.2)]
set_option maxHeartbeats 4000000 in
def ztH:∀c,zsP c:=by
 intro c;induction c using Nat.strongRecOn with
 | _ c bp =>
 intro L cx b9 b5 H w o l ok dp h cr ct af;have b6:=b5;simp only[Lim]at b6;have W:=YK L;have cu:=Y9 L;refine zd.go ir172.1 ir172.2 (Al4 _) λKP Q ay=>?_;have w0:=WR.refl h;have bl:=h.cell;by_cases a5:L.length≠0/\dp<=16
 case neg =>
  have aq:false=yu dp L:=by
   simp only[yu];by_cases aj:L.length=0
   ·simp[aj]
   ·simp[show ¬ dp<=16 from λh=>a5 ⟨aj,h⟩]
  by_cases aj:L.length=0
  case' pos =>
   have ao:¬ ((0:Int)<(L.length:Int)):=by omega
   simp(disch:=omega) only[ir172,W,ao,go_sem]
  case' neg =>have ao:((0:Int)<(L.length:Int))=True:=eq_true (by omega);have a1:¬ dp<=16:=λh=>a5 ⟨aj,h⟩;simp(disch:=omega) only[ir172,W,ao,bl,a1,go_sem]
  all_goals
   refine zt (Yq _) w0 (by omega) (by omega) (by omega) λbt br bd a2 _=>?_;have a4:(ok&&yu dp L)=false:=by rw[<-aq];simp
   simp(disch:=omega) only[W,go_sem];refine zf L 20 (λx:Unit=>[]) (λdone rest x H'=>H'=bd) () (by simp(disch:=omega) only[go_sem]) rfl ?_ ?_
   ·rintro _ Y av rfl ab;simp(disch:=omega) only[W,ab,go_sem];exact ay _ _ Y Y [] nofun rfl (Low.refl _) ⟨rfl,a2.fin (by show _=yu dp L;rw[<-aq];simp) (λe=>by have e:yu dp L=true:=e;rw[<-aq]at e;cases e) (by omega)⟩
   ·rintro done x rest _ Y av ai ab b4 rfl ax;have an:=zbo ai;obtain⟨k,A,nm,args,dirs,on,sels⟩:=x;rw[y9]at an;simp(disch:=omega) only[W,ab,an,go_sem];refine zc λb af=>?_;have J:=a2.alloc (x:=.cells [.int .i64 k,.str A,.str nm,.sl .no 6 (cMs args),.sl .no 2 (cDs dirs),.str on,.sl .no 7 (cSs sels)]) af;have I:=J.here.cell;simp only[Bool.true_and,Bool.and_false]at I;simp(disch:=omega) only[I,go_sem];exact ay _ _ _ _ [] nofun rfl (Low.refl _) ⟨rfl,J.fin (by show _=yu dp L;rw[<-aq];simp) (λe=>by have e:yu dp L=true:=e;rw[<-aq]at e;cases e) (by omega)⟩
 obtain⟨aj,a1⟩:=a5;have ao:((0:Int)<(L.length:Int))=True:=eq_true (by omega);have be:yu dp L=yY dp L:=by simp[yu,a1,aj]
 simp(disch:=omega) only[ir172,W,ao,bl,a1,go_sem];refine zt (Yq _) w0 (by omega) (by omega) (by omega) λbt br bd a2 _=>?_;simp(disch:=omega) only[W,go_sem];refine zf L 20 (λx:Own×List Tok=>[]) (λdone rest x H'=>WR H o w l ok dp (16*bSs done) (yY dp done) (tSl done) H' x.1 x.2) (bt,br) (by simp(disch:=omega) only[go_sem]) (a2.cast (by simp[bSs]) (by simp[yY]) (by simp[tSl])) ?_ ?_
 ·rintro⟨a9,a8⟩ Y av am ab;simp only at am;simp(disch:=omega) only[W,ab,go_sem];exact ay _ _ Y Y [] nofun rfl (Low.refl _) ⟨rfl,am.fin be.symm (λ_=>rfl) (by omega)⟩
 ·rintro done x rest ⟨a9,a8⟩ Y av ai ab b4 am ax;simp only at am;have an:=zbo ai;have b3:=zbk done x rest;rw[<-ai]at b3;have b7:x∈L:=by rw[ai];simp
  have a6:=zi2 b9 x b7;obtain⟨k,A,nm,args,dirs,on,sels⟩:=x;have cw:bS (.mk k A nm args dirs on sels)=1+A.length+nm.length+on.length+bMs args+bDs dirs+bSs sels:=rfl;have bn:=YK sels;rw[y9]at an;simp(disch:=omega) only[W,ab,an,go_sem];refine zc λb af=>?_;have ah:b≠w:=λe=>by subst e;rw[am.here.cell]at af;cases af
  have J:=am.alloc (x:=.cells [.int .i64 k,.str A,.str nm,.sl .no 6 (cMs args),.sl .no 2 (cDs dirs),.str on,.sl .no 7 (cSs sels)]) af;have ag:(Y.upd b (.cells [.int .i64 k,.str A,.str nm,.sl .no 6 (cMs args),.sl .no 2 (cDs dirs),.str on,.sl .no 7 (cSs sels)])) b=some (.cells [.int .i64 k,.str A,.str nm,.sl .no 6 (cMs args),.sl .no 2 (cDs dirs),.str on,.sl .no 7 (cSs sels)]):=upd_same ..;have I:=J.here.cell;cases ar:ok&&yY dp done with
  | false =>
   rw[ar]at I;have a4:(ok&&yu dp L)=false:=by
    cases ok
    ·rfl
    ·rw[Bool.true_and]at ar ⊢;rw[be];exact zmP ai ar
   simp(disch:=omega) only[I,go_sem];refine ay _ _ _ _ [] nofun rfl (Low.refl _) ⟨rfl,a9,a8,?_,J.st,by have:=J.len;omega,λe=>?_⟩
   ·show WAt _ w a9 a8 (ok&&yu dp L) dp;rw[a4,<-ar];exact J.here
   ·have e:(ok&&yu dp L)=true:=e;rw[a4]at e;cases e
  | true =>
   rw[ar]at I;have bo:∀(aa:Own) (Z:List Tok) (U:zb),WR H o w l ok dp (16*bSs done+16*bS (.mk k A nm args dirs on sels)) (yY dp done&&Z8 dp (.mk k A nm args dirs on sels)) (tSl done++tS (.mk k A nm args dirs on sels)) U aa Z->av ((zah _ [(20,.int .i64 ((done.length:Int)+1))]).keep [0,18,19,20]) U:=λaa Z U X =>ax (aa,Z) U (X.cast (by rw[zjc];omega) (Y1 ..).symm (zjk ..).symm);by_cases ak:k=1
   ·have au:=ztE k A nm args dirs on sels ak a6 (by simp only[Lim];omega);rw[y9]at au;subst ak;simp(disch:=omega) only[I,ag,go_sem];refine zt au J (by omega) (by omega) (by omega) λaa Z U X ba=>?_;simp(disch:=omega) only[wrap64,go_sem];exact goJ (bo aa Z U X) (by simp(disch:=omega) only[go_sem])
   by_cases al:k=2
   ·have au:=zue (c:=bSs sels) (bp (bSs sels) (by omega)) k A nm args dirs on sels al (Al4 _) a6 (by simp only[Lim];omega);rw[y9]at au;subst al;simp(disch:=omega) only[I,ag,go_sem];refine zt au J (by omega) (by omega) (by omega) λaa Z U X ba=>?_;simp(disch:=omega) only[wrap64,go_sem];exact goJ (bo aa Z U X) (by simp(disch:=omega) only[go_sem])
   have b2:=bp (bSs sels) (by omega);obtain⟨ca,cb,cc⟩:=a6;obtain⟨n,ap⟩:∃n,n=(decide (k=0)&&decide (on=[])):=⟨_,rfl⟩;have aw:Z8 dp (.mk k A nm args dirs on sels)=(n&&(decide (A=[])||zL A)&&zL nm&&zbg dp false args&&Zj dp false dirs&&(decide (sels.length=0)||yu (dp+1) sels)):=by
    rw[ap];simp only[Z8,ak,al,if_false];by_cases ad:k=0
    ·simp only[ad,if_true,yu];by_cases ac:sels.length=0
     ·simp only[ac,decide_true,Bool.true_or];cases Zj dp false dirs<;>cases zL nm<;>cases zbg dp false args<;>simp[Bool.and_comm]
     ·simp only[ac,decide_false,Bool.false_or,ne_eq,not_false_eq_true,decide_true,Bool.true_and];cases Zj dp false dirs<;>cases zL nm<;>cases zbg dp false args<;>simp[Bool.and_comm,zak,Bool.and_left_comm]
    ·simp[ad]
   have bf:n=true->tS (.mk k A nm args dirs on sels)=(if A=[]then []else [wk A,pk [58]])++(wk nm::YD args)++(tDs dirs++(if sels.length=0 then []else tBl sels)):=λe=>by rw[ap]at e;simp only[Al0,z6]at e;simp only[tS,e.1,if_true,tBl]
   by_cases ad:k=0
   case' neg =>
    have a0:n=false:=by rw[ap];simp[ad]
    simp(disch:=omega) only[I,ag,ak,al,ad,go_sem]
   case' pos =>
    have bq:=eq_true ad;by_cases ho:on=[]
    case' neg =>
     have a0:n=false:=by rw[ap];simp[ho]
     simp(disch:=omega) only[I,ag,ak,al,bq,ho,go_sem]
    case' pos =>
     have a0:n=true:=by rw[ap];simp[ad,ho]
     have b8:=eq_true ho;simp(disch:=omega) only[I,ag,ak,al,bq,b8,go_sem]
   all_goals
    refine zt (Yq _) J (by omega) (by omega) (by omega) λaa Z U X ba=>?_;have az:=ba.box J.here.own ag ah;by_cases ae:A=[]
    case' pos =>have bc:=X;have a3:=az;simp(disch:=omega) only[az,ae,go_sem]
    case' neg =>simp(disch:=omega) only[az,ae,go_sem];refine zt (yv A (by simp only[Lim];omega)) X (by omega) (by omega) (by omega) λc4 cy cn bu ch=>?_;have bg:=ch.box X.here.own az ah;simp(disch:=omega) only[bg,go_sem];refine zt (Zd [58] _) bu (by omega) (by omega) (by omega) λc5 cz co bc ci=>?_;have a3:=ci.box bu.here.own bg ah;simp(disch:=omega) only[a3,go_sem]
    all_goals
     refine zt (yv nm (by simp only[Lim];omega)) bc (by omega) (by omega) (by omega) λc6 c2 cp bv cj=>?_;have bh:=cj.box bc.here.own a3 ah;simp(disch:=omega) only[bh,go_sem];refine zt (zs7 false args ca (by simp only[Lim];omega)) bv (by omega) (by omega) (by omega) λc7 c3 cq bw ck=>?_;have bj:=ck.box bv.here.own bh ah;simp(disch:=omega) only[bj,go_sem];refine zt (zeG false dirs cb (by simp only[Lim];omega)) bw (by omega) (by omega) (by omega) λcg ce b1 bx cl=>?_;have bk:=cl.box bw.here.own bj ah;simp(disch:=omega) only[bk,go_sem];by_cases ac:sels.length=0
     ·have a7:¬ ((0:Int)<(sels.length:Int)):=by omega
      simp(disch:=omega) only[bn,a7,wrap64,go_sem];exact goJ (ax (cg,ce) b1 (bx.castC (by rw[zjc];simp only[bS];omega) (by rw[Y1,aw,a0];simp[ac,ae,zak]) (λe=>by rw[zjk,bf (by rw[Y1,aw]at e;simp only[Al0]at e;exact e.2.1.1.1.1.1)];simp[ac,ae]))) (by simp(disch:=omega) only[go_sem])
     ·have a7:((0:Int)<(sels.length:Int))=True:=eq_true (by omega);simp(disch:=omega) only[bn,a7,bk,go_sem];refine zt (zh4 b2 sels (Al4 _) cc (by simp only[Lim];omega)) bx (by omega) (by omega) (by omega) λcf cd bz cm _=>?_;simp(disch:=omega) only[wrap64,go_sem];exact goJ (ax (cf,cd) bz (cm.castC (by rw[zjc];simp only[bS];omega) (by rw[Y1,aw,a0];simp[ac,ae,zak]) (λe=>by rw[zjk,bf (by rw[Y1,aw]at e;simp only[Al0]at e;exact e.2.1.1.1.1.1)];simp[ac,ae,tBl]))) (by simp(disch:=omega) only[go_sem])
def zml(l:List VarD)(x:VarD):bWs (l++[x])=bWs l+bW x:=by simp[bWs]
def zxW(f:FragD)(ab:wfF f)(Z:32*bF f<=Lim):WC 39 [.agg (cF f)] (32*bF f) 0 16 (λdp=>decide (f.nm≠[111,110])&&(zL f.nm&&(zL f.on&&(Zj dp true f.dirs&&yu (dp+1) f.sels)))) (tF f):=by
 intro H w o l ok dp h au av Y;obtain⟨nm,on,dirs,sels⟩:=f;have aa:=Z;simp only[Lim,bF]at aa;simp only[bF]at Y;obtain⟨ac,ad⟩:=ab;have J:cF ⟨nm,on,dirs,sels⟩=[.str nm,.str on,.sl .no 2 (cDs dirs),.sl .no 7 (cSs sels)]:=rfl;refine zd.go ir39.1 ir39.2 (Al4 _) λKP Q X=>?_;have w0:=WR.refl h;obtain⟨n,A⟩:∃n,n=decide (nm≠[111,110]):=⟨_,rfl⟩;have af:zL [102,114,97,103,109,101,110,116]=true:=by decide
 by_cases ho:nm=[111,110]
 case' pos =>
  have U:n=false:=by rw[A];simp[ho]
  subst ho;simp(disch:=first|omega|assumption) only[ir39,J,go_sem];refine zt (Yq _) w0 (by omega) (by omega) (by omega) λag ae H1 W _=>?_
 case' neg =>
  have U:n=true:=by rw[A];simp[ho]
  simp(disch:=first|omega|assumption) only[ir39,J,ho,go_sem];refine zt (Yq _) w0 (by omega) (by omega) (by omega) λag ae H1 W _=>?_
 all_goals simp(disch:=first|omega|assumption) only[go_sem];refine zt (yv [102,114,97,103,109,101,110,116] (by simp[Lim])) W (by omega) (by omega) (by omega) λa2 aw an ah _=>?_;simp(disch:=first|omega|assumption) only[go_sem];refine zt (yv _ (by simp only[Lim];first|omega|simp)) ah (by omega) (by omega) (by omega) λa3 ax ao ai _=>?_;simp(disch:=first|omega|assumption) only[go_sem];refine zt (yv [111,110] (by simp[Lim])) ai (by omega) (by omega) (by omega) λa4 ay ap aj _=>?_;simp(disch:=first|omega|assumption) only[go_sem];refine zt (yv on (by simp only[Lim];omega)) aj (by omega) (by omega) (by omega) λa5 az aq ak _=>?_;simp(disch:=first|omega|assumption) only[go_sem];refine zt (zeG true dirs ac (by simp only[Lim];omega)) ak (by omega) (by omega) (by omega) λa6 a0 ar al _=>?_;simp(disch:=first|omega|assumption) only[go_sem];refine zt (zh4 (ztH (bSs sels)) sels (Al4 _) ad (by simp only[Lim];omega)) al (by omega) (by omega) (by omega) λa7 a1 I am _=>?_;simp(disch:=first|omega|assumption) only[go_sem];exact X _ _ I I [] nofun rfl (Low.refl _) ⟨rfl,am.fin (by simp only[<-A,U,af,zw1];simp[zak]) (λ_=>by simp[tF]) (by simp only[bF];omega)⟩
noncomputable def zeL(dp:Int)(x:VarD):Bool:=zL x.nm&&(zM x.t&&(if x.has then yT dp true x.d else eqd x.d zV))
noncomputable def zeO(dp:Int)(x:OpD):Bool:=(decide (x.k=0)||decide (x.k=1))&&((decide (x.nm=[])||zL x.nm)&&(x.vars.all (zeL dp)&&(Zj dp true x.dirs&&yu (dp+1) x.sels)))
def zBe(x:OpD)(bp:wfO x)(bn:64*bO x<=Lim):WC 38 [.agg (cO x)] (64*bO x) 0 16 (λdp=>zeO dp x) (tO x):=by
 intro H w o l ok dp h cl cm ab;obtain⟨k,nm,vars,dirs,sels⟩:=x;have bo:=bn;simp only[Lim,bO]at bo;simp only[bO]at ab;obtain⟨br,a1,bq⟩:=bp;have ai:cO ⟨k,nm,vars,dirs,sels⟩=[.int .i64 k,.str nm,.sl .no 10 (cWs vars),.sl .no 2 (cDs dirs),.sl .no 7 (cSs sels)]:=rfl;have ac:=Zk vars;have cp:=yJ vars;have b1:zL [113,117,101,114,121]=true:=by decide
 have bz:zL [109,117,116,97,116,105,111,110]=true:=by decide
 refine zd.go ir38.1 ir38.2 (Al4 _) λKP Q bf=>?_;have w0:=WR.refl h;obtain⟨U,aj⟩:∃U,U=((decide (k=0)||decide (k=1))&&(decide (nm=[])||zL nm)):=⟨_,rfl⟩;obtain⟨aa,aw⟩:∃aa,aa=(wk (if k=0 then [113,117,101,114,121]else [109,117,116,97,116,105,111,110])::(if nm=[]then []else [wk nm])):=⟨_,rfl⟩;have av:zeO dp ⟨k,nm,vars,dirs,sels⟩=(U&&(vars.all (zeL dp)&&(Zj dp true dirs&&yu (dp+1) sels))):=by rw[aj];simp only[zeO,zak]
 have bd:U=true->tO ⟨k,nm,vars,dirs,sels⟩=aa++(tWs vars++(tDs dirs++tBl sels)):=λ_=>by rw[aw];simp[tO]
 by_cases W:k=0
 case' pos =>have X:True:=trivial;have bk:=eq_true W;simp(disch:=first|omega|assumption) only[ir38,ai,bk,go_sem];refine zt (yv [113,117,101,114,121] (by simp[Lim])) w0 (by omega) (by omega) (by omega) λa3 a2 aq ag _=>?_
 case' neg =>
  by_cases X:k=1
  case' pos =>have bl:=eq_true X;simp(disch:=first|omega|assumption) only[ir38,ai,W,bl,go_sem];refine zt (yv [109,117,116,97,116,105,111,110] (by simp[Lim])) w0 (by omega) (by omega) (by omega) λa3 a2 aq ag _=>?_
  case' neg =>simp(disch:=first|omega|assumption) only[ir38,ai,W,X,go_sem];refine zt (Yq false) w0 (by omega) (by omega) (by omega) λa3 a2 aq ag _=>?_
 all_goals
  by_cases ad:nm=[]
  case' pos =>have ap:=ag
  case' neg =>simp(disch:=first|omega|assumption) only[ad,go_sem];refine zt (yv nm (by simp only[Lim];omega)) ag (by omega) (by omega) (by omega) λc2 cr ce ap _=>?_
  all_goals
   have a4:=(ap.castC (B':=2) (r':=U) (tk':=aa) (by omega) (by rw[aj];simp[W,X,ad,b1,bz]) (λe=>by first|(rw[aw];simp[W,X,ad];done)|(exfalso;revert e;rw[aj];simp[W,X])));clear ap;by_cases an:vars.length=0
   case' pos =>
    have ao:¬ ((0:Int)<(vars.length:Int)):=by omega
    have a0:=zcN.1 an;simp(disch:=first|omega|assumption) only[ad,ac,ao,go_sem];refine zt (zeG true dirs a1 (by simp only[Lim];omega)) a4 (by omega) (by omega) (by omega) λb4 bx a9 a8 _=>?_
   case' neg =>
    have a0:=an;have ao:((0:Int)<(vars.length:Int))=True:=eq_true (by omega);simp(disch:=first|omega|assumption) only[ad,ac,ao,go_sem];refine zt (Zd [40] _) a4 (by omega) (by omega) (by omega) λb2 bv cf ca _=>?_;simp(disch:=first|omega|assumption) only[ac,go_sem];refine zf vars 35 (λx:Own×List Tok=>[]) (λdone rest x H'=>WR H o w l ok dp (3+32*bWs done) (U&&done.all (zeL dp)) (aa++(pk [40]::done.flatMap tW)) H' x.1 x.2) (b2,bv) (by simp(disch:=first|omega|assumption) only[go_sem]) (ca.cast (by omega) (by simp) (by simp)) ?_ ?_
    case' refine_1 =>rintro⟨b3,bw⟩ ar bc Z am;simp only at Z;simp(disch:=first|omega|assumption) only[ac,am,go_sem];refine zt (Zd [41] _) Z (by omega) (by omega) (by omega) λc3 ct cg ah _=>?_;simp(disch:=first|omega|assumption) only[go_sem];refine zt (zeG true dirs a1 (by simp only[Lim];omega)) ah (by omega) (by omega) (by omega) λb4 bx a9 a8 _=>?_
    case refine_2 =>
     rintro done x rest ⟨b3,bw⟩ ar bc ak am co Z be;simp only at Z;have al:=Ya ak;have bj:=zh6 done x rest;rw[<-ak]at bj;have bu:=br x (by rw[ak];simp);obtain⟨Y,⟨A,tl,I⟩,ae,J⟩:=x;have bt:wfV J:=bu.2.2;have cq:=zc8 J;have cn:bW ⟨Y,⟨A,tl,I⟩,ae,J⟩=Y.length+A.length+bV J:=rfl;rw[zhz]at al;simp only at al;simp(disch:=first|omega|assumption) only[zp,zk,zg,zn,zl,zh,zu,ac,am,al,go_sem];refine zc λb ab=>?_;have af:b≠w:=λe=>by subst e;rw[Z.here.cell]at ab;cases ab
     have ah:=Z.alloc (x:=.cells (.str Y::.str A::.int .i64 tl::.int .i64 I::.bool ae::cV J)) ab;have bh:(ar.upd b (.cells (.str Y::.str A::.int .i64 tl::.int .i64 I::.bool ae::cV J))) b=some (.cells (.str Y::.str A::.int .i64 tl::.int .i64 I::.bool ae::cV J)):=upd_same ..;simp(disch:=first|omega|assumption) only[zp,zk,zg,zn,zl,zh,zu,go_sem];refine zt (Zd [36] _) ah (by omega) (by omega) (by omega) λc4 cu ch a5 b6=>?_;have ax:=b6.box ah.here.own bh af;simp(disch:=first|omega|assumption) only[zp,zk,zg,zn,zl,zh,zu,ax,go_sem];refine zt (yv Y (by simp only[Lim];omega)) a5 (by omega) (by omega) (by omega) λc5 cw ci a6 b7=>?_;have ay:=b7.box a5.here.own ax af;simp(disch:=first|omega|assumption) only[zp,zk,zg,zn,zl,zh,zu,ay,go_sem];refine zt (Zd [58] _) a6 (by omega) (by omega) (by omega) λc6 cx cj a7 b8=>?_;have az:=b8.box a6.here.own ay af;simp(disch:=first|omega|assumption) only[zp,zk,zg,zn,zl,zh,zu,az,go_sem];refine zt (args:=[.agg [.str A,.int .i64 tl,.int .i64 I]]) (show WC _ [.agg [.str A,.int .i64 tl,.int .i64 I]] 20 (-1000) 1000 (λ_=>zM ⟨A,tl,I⟩) (tTy ⟨A,tl,I⟩) from zlm ⟨A,tl,I⟩ (by simp only[Lim];omega)) a7 (by omega) (by omega) (by omega) λc8 cz ck cc b9=>?_;have bg:=b9.box a7.here.own az af;simp(disch:=first|omega|assumption) only[zp,zk,zg,zn,zl,zh,zu,bg,go_sem];refine zt (zjN ae J bt (by simp only[Lim];omega)) cc (by omega) (by omega) (by omega) λb5 lD ba cd c9=>?_;simp(disch:=first|omega|assumption) only[wrap64,go_sem];exact goJ (be (b5,lD) ba (cd.cast (by rw[zml];omega) (by simp[zeL,zak]) (by simp[tW]))) (by simp(disch:=first|omega|assumption) only[go_sem])
   all_goals simp(disch:=first|omega|assumption) only[go_sem];refine zt (zh4 (ztH (bSs sels)) sels (Al4 _) bq (by simp only[Lim];omega)) a8 (by omega) (by omega) (by omega) λc7 cy au cb _=>?_;simp(disch:=first|omega|assumption) only[go_sem];exact bf _ _ au au [] nofun rfl (Low.refl _) ⟨rfl,cb.fin (by show _=zeO dp _;rw[av];simp[a0,zak]) (λe=>by rw[bd (by have e:zeO dp _=true:=e;rw[av]at e;simp only[Al0]at e;exact e.1)];simp[tWs,an]) (by simp only[bO];omega)⟩
def WS(f:FuncId)(args:List AV)(B:Nat)(r:Bool)(tk:List Tok):Prop :=∀(H:zb) (w:Nat) (o:Own) (l:List Tok) (ok:Bool),WAt H w o l ok 0->l.length+B<=Lim -> zd Tryz.prog f (.agg [.ptr w 0]::args) H (zu1 λv H'=>v=.tup []/\∃o' l',WAt H' w o' l' (ok&&r) 0/\WStep H o w H' o'/\l'.length<=l.length+B/\((ok&&r)=true->l'=l++tk))
section
variable {KP:AV->zb->Prop} {Q:AExit->Env->zb->Prop} {st:List Fr} {ρ:Env} {H:zb} {all items:List AItem} {d:Option Nat} {R:List Chk}
def zfg{f:FuncId}{args:List AV}{B':Nat}{r':Bool}{tk':List Tok}(W:WS f args B' r' tk'){H0:zb}{o0 o:Own}{w B:Nat}{l0 l tk:List Tok}{ok0 r:Bool}(h:WR H0 o0 w l0 ok0 0 B r tk H o l)(Z:l0.length+(B+B')<=Lim)(k:∀o' A H',WR H0 o0 w l0 ok0 0 (B+B') (r&&r') (tk++tk') H' o' A->WStep H o w H' o'->goR Tryz.prog KP Q all items st R (ρ.set d (.tup [])) H'):
  goK Tryz.prog KP Q all items st d R ρ f (.agg [.ptr w 0]::args) H:=by
 have hlen:=h.len;refine zC (W H w o l _ h.here (by omega)) λv H' ⟨X,o',A,J,I,Y,U⟩=>?_;subst X;refine k o' A H' ⟨by rw[<-zak];exact J,h.st.trans h.here.cell I,by omega,λe=>?_⟩ I;rw[<-zak]at e;rw[U e,h.eq (by simp only[Al0]at e ⊢;exact e.1),ZP]
end
def zlt(l:List (List UInt8))(x:List UInt8):bT (l++[x])=bT l+(1+x.length):=by simp[bT]
def znc(l:List FldD)(x:FldD):bLs (l++[x])=bLs l+bL x:=by simp[bLs]
def znF(m:List VarD)(ax:∀y∈m,wfW y)(av:32*bWs m<=Lim):WS 339 [.sl .no 10 (cWs m)] (32*bWs m) (m.all zbz) (m.flatMap tPa):=by
 intro H w o l ok h X;have be:=yJ m;have Z:=Zk m;have aw:=av;simp only[Lim]at aw;refine zd.go ir339.1 ir339.2 (Al4 _) λKP Q ap=>?_;have w0:=WR.refl h;simp(disch:=omega) only[ir339,Z,go_sem];refine zf m 8 (λx:Own×List Tok=>[]) (λdone rest x H'=>WR H o w l ok 0 (32*bWs done) (done.all zbz) (done.flatMap tPa) H' x.1 x.2) (o,l) (by simp(disch:=omega) only[go_sem]) (w0.cast (by omega) rfl rfl) ?_ ?_
 ·rintro⟨bn,bg⟩ ae a9 ah ac;simp only at ah;simp(disch:=omega) only[Z,ac,go_sem];exact ap _ _ ae ae [] nofun rfl (Low.refl _) ⟨rfl,ah.fin rfl (λ_=>rfl) (by omega)⟩
 ·rintro done x rest ⟨bo,bh⟩ al ba aa ac bd ad ao;simp only at ad;have ab:=Ya aa;have au:=zh6 done x rest;rw[<-aa]at au;have az:=ax x (by rw[aa];simp);obtain⟨U,⟨A,tl,I⟩,W,J⟩:=x;have ay:wfV J:=az.2.2;have bf:=zc8 J;have bc:bW ⟨U,⟨A,tl,I⟩,W,J⟩=U.length+A.length+bV J:=rfl;rw[zhz]at ab;simp only at ab;simp(disch:=omega) only[zp,zk,zg,zn,zl,zh,zu,Z,ac,ab,go_sem];refine zc λb X=>?_;have Y:b≠w:=λe=>by subst e;rw[ad.here.cell]at X;cases X
  have ai:=ad.alloc (x:=.cells (.str U::.str A::.int .i64 tl::.int .i64 I::.bool W::cV J)) X;have ar:(al.upd b (.cells (.str U::.str A::.int .i64 tl::.int .i64 I::.bool W::cV J))) b=some (.cells (.str U::.str A::.int .i64 tl::.int .i64 I::.bool W::cV J)):=upd_same ..;simp(disch:=omega) only[zp,zk,zg,zn,zl,zh,zu,go_sem];refine zt (yv U (by simp only[Lim];omega)) ai (by omega) (by omega) (by omega) λbp bj a6 aj a1=>?_;have af:=a1.box ai.here.own ar Y;simp(disch:=omega) only[zp,zk,zg,zn,zl,zh,zu,af,go_sem];refine zt (Zd [58] _) aj (by omega) (by omega) (by omega) λbq bk a7 ak a2=>?_;have ag:=a2.box aj.here.own af Y;simp(disch:=omega) only[zp,zk,zg,zn,zl,zh,zu,ag,go_sem];refine zt (args:=[.agg [.str A,.int .i64 tl,.int .i64 I]]) (show WC _ [.agg [.str A,.int .i64 tl,.int .i64 I]] 20 (-1000) 1000 (λ_=>zM ⟨A,tl,I⟩) (tTy ⟨A,tl,I⟩) from zlm ⟨A,tl,I⟩ (by simp only[Lim];omega)) ak (by omega) (by omega) (by omega) λbr bl a8 a4 a3=>?_;have aq:=a3.box ak.here.own ag Y;simp(disch:=omega) only[zp,zk,zg,zn,zl,zh,zu,aq,go_sem];refine zt (zjN W J ay (by simp only[Lim];omega)) a4 (by omega) (by omega) (by omega) λa0 lD am a5 bt=>?_;have an:zbz ⟨U,⟨A,tl,I⟩,W,J⟩=zeL 0 ⟨U,⟨A,tl,I⟩,W,J⟩:=rfl;simp(disch:=omega) only[wrap64,go_sem];exact goJ (ao (a0,lD) am (a5.cast (by rw[zml];omega) (by simp[an,zeL,zak]) (by simp[tPa]))) (by simp(disch:=omega) only[go_sem])
def zs8(m:List UInt8)(l:List (List UInt8))(x:List UInt8):tNs m (l++[x])=tNs m l++if l.length=0 then [wk x]else [pk m,wk x]:=by
 cases l with
 | nil=>rfl
 | cons a r=>simp[tNs]
def zqa(m:List UInt8)(a:List (List UInt8))(aj:2*bT a<=Lim):WS 353 [.str m,.sl .no 1 (cT a)] (2*bT a) (a.all zL) (tNs m a):=by
 intro H w o l ok h ar;have av:=ZK a;have A:=zG a;have ak:=aj;simp only[Lim]at ak;refine zd.go ir353.1 ir353.2 (Al4 _) λKP Q ah=>?_;have w0:=WR.refl h;simp(disch:=omega) only[ir353,A,go_sem];refine zf a 10 (λx:Own×List Tok=>[]) (λdone rest x H'=>WR H o w l ok 0 (2*bT done) (done.all zL) (tNs m done) H' x.1 x.2) (o,l) (by simp(disch:=omega) only[go_sem]) (w0.cast (by omega) rfl rfl) ?_ ?_
 ·rintro⟨az,aw⟩ ac ap ag I;simp only at ag;simp(disch:=omega) only[A,I,go_sem];exact ah _ _ ac ac [] nofun rfl (Low.refl _) ⟨rfl,ag.fin rfl (λ_=>rfl) (by omega)⟩
 ·rintro done x rest ⟨a0,ax⟩ an aq af I au aa ae;simp only at aa;have X:=YP af;have ai:=zn7 done x rest;rw[<-af]at ai;have J:=zs8 m done x;by_cases ad:done.length=0
  ·have W:¬ ((0:Int)<(done.length:Int)):=by omega
   rw[if_pos ad]at J;simp(disch:=omega) only[A,I,X,W,go_sem];refine zt (yv x (by simp only[Lim];omega)) aa (by omega) (by omega) (by omega) λZ Y U ab al=>?_;simp(disch:=omega) only[wrap64,go_sem];exact goJ (ae (Z,Y) U (ab.cast (by rw[zlt];omega) (by simp) (by rw[J]))) (by simp(disch:=omega) only[go_sem])
  ·have W:((0:Int)<(done.length:Int))=True:=eq_true (by omega);rw[if_neg ad]at J;simp(disch:=omega) only[A,I,X,W,go_sem];refine zt (Zd m _) aa (by omega) (by omega) (by omega) λa1 ay ao am a2=>?_;simp(disch:=omega) only[A,I,X,go_sem];refine zt (yv x (by simp only[Lim];omega)) am (by omega) (by omega) (by omega) λZ Y U ab al=>?_;simp(disch:=omega) only[wrap64,go_sem];exact goJ (ae (Z,Y) U (ab.cast (by rw[zlt];omega) (by simp) (by rw[J];simp))) (by simp(disch:=omega) only[go_sem])
def zrQ(m:List FldD)(be:∀y∈m,wfL y)(bc:32*bLs m<=Lim):WS 354 [.sl .no 6 (cLs m)] (32*bLs m) (m.all zhe) (m.flatMap tL):=by
 intro H w o l ok h Z;have b1:=zaf m;have af:=zbd m;have bd:=bc;simp only[Lim]at bd;refine zd.go ir354.1 ir354.2 (Al4 _) λKP Q a7=>?_;have w0:=WR.refl h;simp(disch:=omega) only[ir354,af,go_sem];refine zf m 8 (λx:Own×List Tok=>[]) (λdone rest x H'=>WR H o w l ok 0 (32*bLs done) (done.all zhe) (done.flatMap tL) H' x.1 x.2) (o,l) (by simp(disch:=omega) only[go_sem]) (w0.cast (by omega) rfl rfl) ?_ ?_
 ·rintro⟨b8,b3⟩ ap bv az ah;simp only at az;simp(disch:=omega) only[af,ah,go_sem];exact a7 _ _ ap ap [] nofun rfl (Low.refl _) ⟨rfl,az.fin rfl (λ_=>rfl) (by omega)⟩
 ·rintro done x rest ⟨b9,b4⟩ a4 bw ag ah bz am aq;simp only at am;have aw:=ze6 ag;have a9:=zp0 done x rest;rw[<-ag]at a9;have ab:=be x (by rw[ag];simp);obtain⟨Y,ps,⟨A,tl,I⟩,dirs⟩:=x;simp only[wfL]at ab;have bx:bL ⟨Y,ps,⟨A,tl,I⟩,dirs⟩=1+Y.length+bWs ps+A.length+bDs dirs:=rfl;have ay:=Zk ps;have b2:=yJ ps;rw[zaM]at aw;simp(disch:=omega) only[af,ah,aw,go_sem];refine zc λb Z=>?_;have J:b≠w:=λe=>by subst e;rw[am.here.cell]at Z;cases Z
  obtain⟨cs,ba⟩:∃cs,cs=[AV.str Y,.sl .no 10 (cWs ps),.str A,.int .i64 tl,.int .i64 I,.sl .no 2 (cDs dirs)]:=⟨_,rfl⟩;have a0:=am.alloc (x:=.cells cs) Z;have a8:(a4.upd b (.cells cs)) b=some (.cells cs):=upd_same ..;subst ba;simp(disch:=omega) only[go_sem];refine zt (yv Y (by simp only[Lim];omega)) a0 (by omega) (by omega) (by omega) λca b5 bq ac bk=>?_;have aa:=bk.box a0.here.own a8 J;by_cases ax:ps.length=0
  ·have ai:¬ ((0:Int)<(ps.length:Int)):=by omega
   have W:=zcN.1 ax;simp(disch:=omega) only[aa,ay,ai,go_sem];refine zt (Zd [58] _) ac (by omega) (by omega) (by omega) λbh bf a5 X ak=>?_;have U:=ak.box ac.here.own aa J;simp(disch:=omega) only[U,go_sem];refine zt (args:=[.agg [.str A,.int .i64 tl,.int .i64 I]]) (show WC _ [.agg [.str A,.int .i64 tl,.int .i64 I]] 20 (-1000) 1000 (λ_=>zM ⟨A,tl,I⟩) (tTy ⟨A,tl,I⟩) from zlm ⟨A,tl,I⟩ (by simp only[Lim];omega)) X (by omega) (by omega) (by omega) λbj bg a6 an al=>?_;have ae:=al.box X.here.own U J;simp(disch:=omega) only[ae,go_sem];refine zt (zeG true dirs ab.2.2.2 (by simp only[Lim];omega)) an (by omega) (by omega) (by omega) λaj lD ad ao bn=>?_;simp(disch:=omega) only[wrap64,go_sem];exact goJ (aq (aj,lD) ad (ao.cast (by rw[znc];omega) (by simp[zhe,W,zak]) (by simp[tL,tPb,W]))) (by simp(disch:=omega) only[go_sem])
  ·have ai:((0:Int)<(ps.length:Int))=True:=eq_true (by omega);have W:=ax;simp(disch:=omega) only[aa,ay,ai,go_sem];refine zt (Zd [40] _) ac (by omega) (by omega) (by omega) λcb b6 br a1 bl=>?_;have ar:=bl.box ac.here.own aa J;simp(disch:=omega) only[ar,go_sem];refine zfg (znF ps ab.1 (by simp only[Lim];omega)) a1 (by omega) λcc b7 bt a2 bo=>?_;have au:=bo.box a1.here.own ar J;simp(disch:=omega) only[au,go_sem];refine zt (Zd [41] _) a2 (by omega) (by omega) (by omega) λcd lF bu a3 bp=>?_;have av:=bp.box a2.here.own au J;simp(disch:=omega) only[av,go_sem];refine zt (Zd [58] _) a3 (by omega) (by omega) (by omega) λbh bf a5 X ak=>?_;have U:=ak.box a3.here.own av J;simp(disch:=omega) only[U,go_sem];refine zt (args:=[.agg [.str A,.int .i64 tl,.int .i64 I]]) (show WC _ [.agg [.str A,.int .i64 tl,.int .i64 I]] 20 (-1000) 1000 (λ_=>zM ⟨A,tl,I⟩) (tTy ⟨A,tl,I⟩) from zlm ⟨A,tl,I⟩ (by simp only[Lim];omega)) X (by omega) (by omega) (by omega) λbj bg a6 an al=>?_;have ae:=al.box X.here.own U J;simp(disch:=omega) only[ae,go_sem];refine zt (zeG true dirs ab.2.2.2 (by simp only[Lim];omega)) an (by omega) (by omega) (by omega) λaj lD ad ao bn=>?_;simp(disch:=omega) only[wrap64,go_sem];exact goJ (aq (aj,lD) ad (ao.cast (by rw[znc];omega) (by simp[zhe,W,zak]) (by simp[tL,tPb,W]))) (by simp(disch:=omega) only[go_sem])
def zq8(x:OpD):zeO 0 x=zaw x:=rfl
def zrI(l:List OpD)(o:OpD):bOs (l++[o])=bOs l+bO o:=by simp[bOs]
def zq9(l:List FragD)(o:FragD):bFs (l++[o])=bFs l+bF o:=by simp[bFs]
noncomputable def zb2(d:DocD):List Tok:=if ZB d then zct d else []
def znA(d:DocD)(a8:zcE d)(W:64*zw d+64<=Lim):ze Tryz.prog 14 [.agg (zU d)] (.tup [.sl .no 2 (cKs (zb2 d)),.bool (ZB d)]):=by
 refine ze.go ir14.1 ir14.2 (Al4 _) λKP Q ab=>?_;obtain⟨ops,frags⟩:=d;obtain⟨ba,a9⟩:=a8;have bn:=Zu ops;have bl:=yC frags;have Y:=Z9 ops;have J:=YO frags;have a3:=W;simp only[zw,Lim]at a3;have a0:zU ⟨ops,frags⟩=[.sl .no 5 (cOs ops),.sl .no 4 (cFs frags)]:=rfl;obtain⟨n,ah⟩:∃n,n=decide (0<ops.length+frags.length):=⟨_,rfl⟩;simp(disch:=first|omega|assumption) only[ir14,a0,go_sem];refine zC zAh λv H1 ⟨w,a7,a2⟩=>?_;subst a7;have w0:=WR.refl a2;have az:IntKind.wrap .i64 ((ops.length:Int)+(frags.length:Int))=((ops.length+frags.length:Nat):Int):=by rw[wrap64 (by omega) (by omega)];omega
 by_cases au:0<ops.length+frags.length
 case' pos =>
  have ai:((0:Int)<((ops.length+frags.length:Nat):Int))=True:=eq_true (by omega);have av:n=true:=by rw[ah];exact decide_eq_true au
  simp(disch:=first|omega|assumption) only[Y,J,az,ai,go_sem]
 case' neg =>
  have ai:¬ ((0:Int)<((ops.length+frags.length:Nat):Int)):=by omega
  have av:n=false:=by rw[ah];exact decide_eq_false au
  simp(disch:=first|omega|assumption) only[Y,J,az,ai,go_sem]
 all_goals
  refine zt (Yq _) w0 (by omega) (by omega) (by simp only[Lim,Al3];omega) λbe bc bh bg _=>?_;simp(disch:=first|omega|assumption) only[Y,go_sem];refine zf ops 23 (λx:Own×List Tok=>[]) (λdone rest x H'=>WR H1 .nil w [] true 0 (64*bOs done) (n&&done.all zaw) (done.flatMap tO) H' x.1 x.2) (be,bc) (by simp(disch:=first|omega|assumption) only[go_sem]) (bg.cast (by simp) (by simp[av]) (by simp)) ?_ ?_
  ·rintro⟨bf,bd⟩ bj bk ay a4;simp only at ay;simp(disch:=first|omega|assumption) only[Y,a4,J,go_sem];refine zf frags 34 (λx:Own×List Tok=>[]) (λdone rest x H'=>WR H1 .nil w [] true 0 (64*bOs ops+32*bFs done) (n&&(ops.all zaw&&done.all zdb)) (ops.flatMap tO++done.flatMap tF) H' x.1 x.2) (bf,bd) (by simp(disch:=first|omega|assumption) only[go_sem]) (ay.cast (by simp[bFs]) (by simp) (by simp)) ?_ ?_
   ·rintro⟨ax,aw⟩ ao ap A U;simp only at A;have a1:ZB ⟨ops,frags⟩=(n&&(ops.all zaw&&frags.all zdb)):=by rw[ah];rfl
    have X:=A.here.cell;have aq:=A.eq;rw[<-a1,Bool.true_and]at X aq;cases hr:ZB ⟨ops,frags⟩with
    | false =>rw[hr]at X ab;simp(disch:=first|omega|assumption) only[J,U,X,go_sem];exact ab _ _ _ _ nofun rfl (by simp[zb2,hr,cKs])
    | true =>rw[hr]at X ab;have ar:=aq hr;rw[Z6]at ar;subst ar;simp(disch:=first|omega|assumption) only[J,U,X,go_sem];exact ab _ _ _ _ nofun rfl (by simp[zb2,hr,zct])
   ·rintro done x rest ⟨ax,aw⟩ ao ap I U a5 A ae;simp only at A;have aa:=zad I;have af:=zlI done x rest;rw[<-I]at af;have aj:=a9 x (by rw[I];simp);have ag:32*bF x<=Lim:=by simp only[Lim];omega
    have Z:=zxW x aj ag;obtain⟨nm,on,dirs,sels⟩:=x;have ad:cF ⟨nm,on,dirs,sels⟩=[.str nm,.str on,.sl .no 2 (cDs dirs),.sl .no 7 (cSs sels)]:=rfl;rw[ad]at aa Z;simp(disch:=first|omega|assumption) only[J,U,aa,go_sem];refine zc λb W=>?_;have am:=A.alloc (x:=.cells [.str nm,.str on,.sl .no 2 (cDs dirs),.sl .no 7 (cSs sels)]) W;simp(disch:=first|omega|assumption) only[go_sem];refine zt Z am (by omega) (by omega) (by simp only[Lim,Al3];omega) λal ak ac an _=>?_;simp(disch:=first|omega|assumption) only[wrap64,go_sem];exact goJ (ae (al,ak) ac (an.cast (by rw[zq9];omega) (by simp[zdb,zak]) (by simp))) (by simp(disch:=first|omega|assumption) only[go_sem])
  ·rintro done x rest ⟨ax,aw⟩ ao ap I U a5 A ae;simp only at A;have aa:=YJ I;have af:=YW done x rest;rw[<-I]at af;have aj:=ba x (by rw[I];simp);have ag:64*bO x<=Lim:=by simp only[Lim];omega
   have Z:=zBe x aj ag;have a6:=zq8 x;obtain⟨k,nm,vars,dirs,sels⟩:=x;have ad:cO ⟨k,nm,vars,dirs,sels⟩=[.int .i64 k,.str nm,.sl .no 10 (cWs vars),.sl .no 2 (cDs dirs),.sl .no 7 (cSs sels)]:=rfl;rw[ad]at aa Z;simp(disch:=first|omega|assumption) only[Y,U,aa,go_sem];refine zc λb W=>?_;have am:=A.alloc (x:=.cells [.int .i64 k,.str nm,.sl .no 10 (cWs vars),.sl .no 2 (cDs dirs),.sl .no 7 (cSs sels)]) W;simp(disch:=first|omega|assumption) only[go_sem];refine zt Z am (by omega) (by omega) (by simp only[Lim,Al3];omega) λal ak ac an _=>?_;simp(disch:=first|omega|assumption) only[wrap64,go_sem];exact goJ (ae (al,ak) ac (an.cast (by rw[zrI];omega) (by rw[a6];simp[zak]) (by simp))) (by simp(disch:=first|omega|assumption) only[go_sem])
def zvA(d:DocD)(W:zcE d)(U:64*zw d+64<=Lim):ze Tryz.prog 21 [.agg (zU d)] (.bool (ZB d)):=by refine ze.go ir21.1 ir21.2 (Al4 _) λKP Q J=>?_;have I:zU d=[.sl .no 5 (cOs d.ops),.sl .no 4 (cFs d.frags)]:=rfl;have A:=znA d W U;rw[I]at A ⊢;simp(disch:=first|omega|assumption) only[ir21,go_sem];refine za A ?_;simp(disch:=first|omega|assumption) only[go_sem];exact J _ _ _ _ nofun rfl (by simp )
noncomputable def zaJ(d:DocD):List UInt8×Bool:=if ZB d&&((zaa (zct d)).2&&decide ((zaa (zct d)).1.length<=8192))then ((zaa (zct d)).1,true)else ([],false)
def Yj(a b:List Tok):wT (a++b)=wT a+wT b:=by simp[wT]
def zfm(s:List UInt8):wK (pk s)=s.length+4:=rfl
def zi1(s:List UInt8):wK (wk s)=s.length+4:=rfl
def zfn:wT []=0:=rfl
mutual
def zth:∀v,wfV v->wT (yQ v)+16<=64*bV v
 | .mk k n s l m,⟨hn,hl,hm⟩=>by
  have I:=ztr l hl;have J:=zoz m hm;have U:(Lib.itoa n).length<=21:=by
   have e:∀u:Nat,u<18446744073709551616->(Lib.decDigits u).length<=20:=λu A=>by rw[Lib.decDigits_length];exact Lib.nDigits_le20 u A
   unfold Lib.itoa;split
   ·have:=e n.natAbs (by have:=hn.1;omega);simp;omega
   ·have:=e n.toNat (by have:=hn.2;omega);omega
  have W:(boolT (decide (n=1))).length<=5:=by unfold boolT;split<;>simp
  simp only[yQ,bV]
  repeat' split
  all_goals simp only[y6,Yj,zfn,wK,Al2,Al3]
  all_goals omega
def ztr:∀l,znk l->wT (zal l)<=64*bVs l
 | [],_=>by simp[zal,wT]
 | v::r,⟨h,hr⟩=>by have A:=zth v h;have I:=ztr r hr;simp only[zal,bVs,Yj];omega
def zzE:∀x,wfM x->wT (zc7 x)<=64*bM x| .mk s v,h=>by have A:=zth v h;simp only[zc7,bM,y6,wK,Al2,Al3];omega
def zoz:∀l,zf0 l->wT (ZV l)<=64*bMs l
 | [],_=>by simp[ZV,wT]
 | v::r,⟨h,hr⟩=>by have A:=zzE v h;have I:=zoz r hr;simp only[ZV,bMs,Yj];omega
end
def zm2(l:List Mem)(h:zf0 l):wT (YD l)<=74*bMs l:=by
 have A:=zoz l h;have I:=Zg l;unfold YD;split
 ·simp[wT]
 ·simp only[y6,Yj,zfn,zfm,Al2,Al3];omega
def zeu{α:Type}{f:α->List Tok}{g:α->Nat}{c:Nat}:∀l:List α,(∀x∈l,wT (f x)<=c*g x)->wT (l.flatMap f)<=c*(l.map g).sum
 | [],_=>by simp[wT]
 | x::r,h=>by have I:=h x (by simp);have J:=zeu r λy A=>h y (by simp[A]);simp only[List.flatMap_cons,Yj,List.map_cons,List.sum_cons,Nat.mul_add];omega
def zAT(d:DirD)(h:wfD d):wT (tD d)<=80*bD d:=by have A:=zm2 d.args h;simp only[tD,bD,y6,zfm,zi1,Al2,Al3];omega
def zof(l:List DirD)(h:zlK l):wT (tDs l)<=80*bDs l:=zeu l λx A=>zAT x (h x A)
mutual
def zz4:∀x,wfS x->wT (tS x)<=80*bS x
 | .mk k al nm args dirs on sels,⟨h1,h2,h3⟩=>by
  have A:=zm2 args h1;have I:=zof dirs h2;have J:=zop sels h3;simp only[tS,bS,Yj];have U:wT (if sels.length=0 then []else pk [123]::(tSl sels++[pk [125]]))<=10+wT (tSl sels):=by
   split
   ·simp[wT]
   ·simp only[y6,Yj,zfn,zfm,Al2,Al3];omega
  have W:wT (if k=0 then (if al=[]then []else [wk al,pk [58]])++(wk nm::YD args)else if k=1 then [pk [46,46,46],wk nm]else pk [46,46,46]::(if on=[]then []else [wk [111,110],wk on]))<=24+al.length+nm.length+on.length+wT (YD args):=by
   repeat' split
   all_goals simp only[y6,Yj,zfn,zfm,zi1,Al2,Al3]
   all_goals omega
  omega
def zop:∀l,zcQ l->wT (tSl l)<=80*bSs l
 | [],_=>by simp[tSl,wT]
 | x::r,⟨h,hr⟩=>by have A:=zz4 x h;have I:=zop r hr;simp only[tSl,bSs,Yj];omega
end
def zpK(n:Nat)(m:Int):∀j,wT (zdj n m j)<=10*j
 | 0=>by simp[zdj,wT]
 | j+1=>by
  have h:=zpK n m j;have A:wT (zfV n m j)<=10:=by
   unfold zfV
   repeat' split
   all_goals simp[wT,zfm]
  simp only[zdj,Yj];omega
def zxl(t:TyD)(h:zM t=true):wT (tTy t)<=80+t.nm.length:=by
 simp only[zM,Al0,z6]at h;obtain⟨_,J,U,_,_⟩:=h;have W:=zpK t.lists.toNat t.musts (t.lists.toNat+1);have A:∀n,wT (List.replicate n (pk [91]))=5*n:=λn=>by
  induction n with
  | zero=>rfl
  | succ n I=>rw[List.replicate_succ,y6,I,zfm];simp;omega
 simp only[tTy,Yj,y6,zi1,A,zgZ];omega
def zA0(x:VarD)(hr:zbz x=true)(A:wfW x):wT (tW x)<=240*bW x:=by
 simp only[zbz,Al0]at hr;have I:=zxl x.t hr.2.1;have J:=zth x.d A.2.2;have U:=zc8 x.d;have W:wT (tDf x.has x.d)<=5+wT (yQ x.d):=by
  unfold tDf;split
  ·simp only[y6,zfm,Al2,Al3];omega
  ·simp[wT]
 simp only[tW,bW,y6,Yj,zfm,zi1,Al2,Al3];omega
def ztY(l:List SelD)(h:zcQ l):wT (tBl l)<=80*bSs l+10:=by have:=zop l h;simp only[tBl,y6,Yj,zfn,zfm,Al2,Al3];omega
def zAY(x:OpD)(hr:zaw x=true)(W:wfO x):wT (tO x)<=256*bO x:=by
 obtain⟨I,J,U⟩:=W;simp only[zaw,Al0]at hr;have X:wT (x.vars.flatMap tW)<=240*bWs x.vars:=zeu _ λy A=>zA0 y (zdi.1 hr.2.2.1 y A) (I y A);have Y:=zof x.dirs J;have Z:=ztY x.sels U;have aa:wT (tWs x.vars)<=240*bWs x.vars+10:=by
  unfold tWs;split
  ·simp[wT]
  ·simp only[y6,Yj,zfn,zfm,Al2,Al3];omega
 have ab:wT (if x.nm=[]then []else [wk x.nm])<=x.nm.length+4:=by
  split
  ·simp[wT]
  ·simp only[y6,zfn,zi1];omega
 have ac:wK (wk (if x.k=0 then [113,117,101,114,121]else [109,117,116,97,116,105,111,110]))<=12:=by rw[zi1];split<;>simp
 simp only[tO,bO,y6,Yj];omega
def zAM(x:FragD)(A:wfF x):wT (tF x)<=256*bF x:=by have I:=zof x.dirs A.1;have J:=ztY x.sels A.2;simp only[tF,bF,y6,Yj,zi1,Al2,Al3];omega
def zwk(d:DocD)(hr:ZB d=true)(I:zcE d):wT (zct d)<=256*zw d:=by simp only[ZB,Al0]at hr;have J:wT (d.ops.flatMap tO)<=256*bOs d.ops:=zeu _ λy A=>zAY y (zdi.1 hr.2.1 y A) (I.1 y A);have U:wT (d.frags.flatMap tF)<=256*bFs d.frags:=zeu _ λy A=>zAM y (I.2 y A);simp only[zct,zw,Yj];omega
def ztz(d:DocD)(A:zcE d):wT (zb2 d)<=256*zw d:=by
 unfold zb2;split
 ·rename_i h;exact zwk d h A
 ·simp[wT]
def zzb(d:DocD)(Y:zcE d)(W:16384*zw d+64<=Lim):ze Tryz.prog 6 [.agg (zU d)] (.tup [.str (zaJ d).1,.bool (zaJ d).2]):=by
 refine ze.go ir6.1 ir6.2 (Al4 _) λKP Q A=>?_;have Z:zU d=[.sl .no 5 (cOs d.ops),.sl .no 4 (cFs d.frags)]:=rfl;have U:=znA d Y (by simp only[Lim]at W ⊢;omega);have ab:=ztz d Y;have aa:=zv8 (zb2 d) (by simp only[Lim]at W ⊢;omega);rw[Z]at U ⊢;simp(disch:=first|omega|assumption) only[ir6,go_sem];refine za U ?_;simp(disch:=first|omega|assumption) only[go_sem];refine za aa ?_;cases hr:ZB d with
 | false =>simp(disch:=first|omega|assumption) only[go_sem];exact A _ _ _ _ nofun rfl (by simp[zaJ,hr])
 | true =>
  have e:zb2 d=zct d:=by unfold zb2;rw[if_pos hr]
  rw[e];cases I:(zaa (zct d)).2 with
  | false =>simp(disch:=first|omega|assumption) only[go_sem];exact A _ _ _ _ nofun rfl (by simp[zaJ,hr,I])
  | true =>
   by_cases X:(zaa (zct d)).1.length<=8192
   ·have J:¬ ((8192:Int)<((zaa (zct d)).1.length:Int)):=by omega
    simp(disch:=first|omega|assumption) only[J,go_sem];exact A _ _ _ _ nofun rfl (by simp[zaJ,hr,I,X])
   ·have J:((8192:Int)<((zaa (zct d)).1.length:Int))=True:=eq_true (by omega);simp(disch:=first|omega|assumption) only[J,go_sem];exact A _ _ _ _ nofun rfl (by simp[zaJ,hr,I,X])
def zvy:zL [116,121,112,101]=true:=by decide
def zwu:zL [105,110,116,101,114,102,97,99,101]=true:=by decide
def ztx:zL [117,110,105,111,110]=true:=by decide
def zwp:zL [101,110,117,109]=true:=by decide
def zub:zL [105,110,112,117,116]=true:=by decide
def zwK:zL [105,109,112,108,101,109,101,110,116,115]=true:=by decide
def zrz:zL [115,99,104,101,109,97]=true:=by decide
def zsS:zL [113,117,101,114,121]=true:=by decide
def zze:zL [109,117,116,97,116,105,111,110]=true:=by decide
noncomputable def zgJ(x:DefD):Bool:=zL x.nm&&(x.faces.all zL&&(x.flds.all zhe&&(decide (x.flds.length≠0)&&(decide (x.parts.length=0)&&decide (x.ps.length=0)))))
def zu8(w:List UInt8)(x:DefD):List Tok:=wk w::wk x.nm::((if x.faces.length=0 then []else wk [105,109,112,108,101,109,101,110,116,115]::tNs [38] x.faces)++(pk [123]::(x.flds.flatMap tL++[pk [125]])))
def znb(A:List UInt8)(x:DefD)(an:zL A=true)(ao:A.length<=Lim)(ap:wfE x)(al:64*bE x<=Lim):WS 337 [.str A,.agg (cE x)] (64*bE x) (zgJ x) (zu8 A x):=by
 intro H w o l ok h ak;obtain⟨k,nm,faces,flds,parts,ps⟩:=x;have am:=al;simp only[Lim,bE]at am;simp only[bE]at ak;have a5:=ZK faces;have a6:=zaf flds;have a7:=ZK parts;have a8:=yJ ps;have ad:=zG faces;have Z:=zbd flds;have ae:=zG parts;have af:=Zk ps;rw[yf];refine zd.go ir337.1 ir337.2 (Al4 _) λKP Q aj=>?_;have w0:=WR.refl h;obtain⟨n,J⟩:∃n,n=(decide (flds.length≠0)&&(decide (parts.length=0)&&decide (ps.length=0))):=⟨_,rfl⟩;by_cases ai:flds.length=0
 case' pos =>
  have I:¬ ((0:Int)<(flds.length:Int)):=by omega
  have W:n=false:=by rw[J];simp[ai]
  simp(disch:=omega) only[ir337,Z,I,go_sem]
 case' neg =>
  have I:((0:Int)<(flds.length:Int))=True:=eq_true (by omega);have ab:IntKind.wrap .i64 ((parts.length:Int)+(ps.length:Int))=((parts.length+ps.length:Nat):Int):=by rw[wrap64 (by omega) (by omega)];omega
  by_cases a4:parts.length+ps.length=0
  case' pos =>
   have U:(((parts.length+ps.length:Nat):Int)=0)=True:=eq_true (by omega);have W:n=true:=by rw[J];simp only[ne_eq,Al0,z6];omega
   simp(disch:=omega) only[ir337,Z,I,ae,af,ab,U,go_sem]
  case' neg =>
   have U:¬ (((parts.length+ps.length:Nat):Int)=0):=by omega
   have W:n=false:=by rw[J,Bool.eq_false_iff];simp only[ne_eq,Al0,z6];omega
   simp(disch:=omega) only[ir337,Z,I,ae,af,ab,U,go_sem]
 all_goals
  refine zt (Yq _) w0 (by omega) (by omega) (by omega) λbh a9 H1 aq _=>?_;simp(disch:=omega) only[go_sem];refine zt (yv A ao) aq (by omega) (by omega) (by omega) λbj ba ay ar _=>?_;simp(disch:=omega) only[go_sem];refine zt (yv nm (by simp only[Lim];omega)) ar (by omega) (by omega) (by omega) λbk bc az ag _=>?_;by_cases ac:faces.length=0
  case' pos =>
   have Y:¬ ((0:Int)<(faces.length:Int)):=by omega
   have X:=zcN.1 ac;have ah:=ag;simp(disch:=omega) only[ad,Y,go_sem]
  case' neg =>have Y:((0:Int)<(faces.length:Int))=True:=eq_true (by omega);have X:=ac;simp(disch:=omega) only[ad,Y,go_sem];refine zt (yv [105,109,112,108,101,109,101,110,116,115] (by simp[Lim])) ag (by omega) (by omega) (by omega) λbl bd a0 au _=>?_;simp(disch:=omega) only[go_sem];refine zfg (zqa [38] faces (by simp only[Lim];omega)) au (by omega) λbn be a1 ah _=>?_;simp(disch:=omega) only[go_sem]
  all_goals refine zt (Zd [123] _) ah (by omega) (by omega) (by omega) λbo bf a2 av br=>?_;simp(disch:=omega) only[go_sem];refine zfg (zrQ flds ap.1 (by simp only[Lim];omega)) av (by omega) λbp bg a3 aw bt=>?_;simp(disch:=omega) only[go_sem];refine zt (Zd [125] _) aw (by omega) (by omega) (by omega) λbq lD aa ax bu=>?_;simp(disch:=omega) only[go_sem];exact aj _ _ aa aa [] nofun rfl (Low.refl _) ⟨rfl,ax.fin (by simp only[zgJ,<-J,W,an,zwK,X];simp[zak,Bool.and_comm,Bool.and_left_comm]) (λ_=>by simp[zu8,X]) (by simp only[bE];omega)⟩
noncomputable def zeW(x:DefD):Bool:=decide (x.parts.length≠0)&&(decide (x.faces.length=0)&&(decide (x.flds.length=0)&&decide (x.ps.length=0)))
noncomputable def zeB(x:DefD):Bool:=zL x.nm&&(if x.k=3 then x.parts.all zL&&zeW x else (x.parts.all zL&&x.parts.all zhI)&&zeW x)
def zuy(x:DefD):List Tok:=if x.k=3 then wk [117,110,105,111,110]::wk x.nm::pk [61]::tNs [124] x.parts else wk [101,110,117,109]::wk x.nm::pk [123]::(x.parts.map wk++[pk [125]])
def zvO{α:Type}(p q:α->Bool)(l:List α):(l.all λx=>q x&&p x)=(l.all p&&l.all q):=by
 induction l with
 | nil=>rfl
 | cons a r A=>simp only[List.all_cons,A];cases p a<;>cases q a<;>simp
def zuY(x:DefD)(a9:64*bE x<=Lim):WS 338 [.agg (cE x)] (64*bE x) (zeB x) (zuy x):=by
 intro H w o l ok h a5;obtain⟨k,nm,faces,flds,parts,ps⟩:=x;have ba:=a9;simp only[Lim,bE]at ba;simp only[bE]at a5;have br:=ZK faces;have bt:=zaf flds;have bu:=ZK parts;have bv:=yJ ps;have ao:=zG faces;have ap:=zbd flds;have I:=zG parts;have aq:=Zk ps;rw[yf];refine zd.go ir338.1 ir338.2 (Al4 _) λKP Q am=>?_;have w0:=WR.refl h;obtain⟨n,W⟩:∃n,n=(decide (parts.length≠0)&&(decide (faces.length=0)&&(decide (flds.length=0)&&decide (ps.length=0)))):=⟨_,rfl⟩;by_cases a3:parts.length=0
 case' pos =>
  have Z:¬ ((0:Int)<(parts.length:Int)):=by omega
  have aa:n=false:=by rw[W];simp[a3]
  simp(disch:=omega) only[ir338,I,Z,go_sem]
 case' neg =>
  have Z:((0:Int)<(parts.length:Int))=True:=eq_true (by omega);have ak:IntKind.wrap .i64 ((faces.length:Int)+(flds.length:Int))=((faces.length+flds.length:Nat):Int):=by rw[wrap64 (by omega) (by omega)];omega
  have al:IntKind.wrap .i64 (((faces.length+flds.length:Nat):Int)+(ps.length:Int))=((faces.length+flds.length+ps.length:Nat):Int):=by rw[wrap64 (by omega) (by omega)];omega
  by_cases bq:faces.length+flds.length+ps.length=0
  case' pos =>
   have ae:(((faces.length+flds.length+ps.length:Nat):Int)=0)=True:=eq_true (by omega);have aa:n=true:=by rw[W];simp only[ne_eq,Al0,z6];omega
   simp(disch:=omega) only[ir338,I,Z,ao,ap,aq,ak,al,ae,go_sem]
  case' neg =>
   have ae:¬ (((faces.length+flds.length+ps.length:Nat):Int)=0):=by omega
   have aa:n=false:=by rw[W,Bool.eq_false_iff];simp only[ne_eq,Al0,z6];omega
   simp(disch:=omega) only[ir338,I,Z,ao,ap,aq,ak,al,ae,go_sem]
 all_goals
  refine zt (Yq _) w0 (by omega) (by omega) (by omega) λbz bx H1 ax _=>?_;by_cases J:k=3
  ·have a8:=eq_true J;simp(disch:=omega) only[a8,go_sem];refine zt (yv [117,110,105,111,110] (by simp[Lim])) ax (by omega) (by omega) (by omega) λbg bc ay ag _=>?_;simp(disch:=omega) only[go_sem];refine zt (yv nm (by simp only[Lim];omega)) ag (by omega) (by omega) (by omega) λbh bd az ah _=>?_;simp(disch:=omega) only[go_sem];refine zt (Zd [61] _) ah (by omega) (by omega) (by omega) λav ar a0 ai _=>?_;simp(disch:=omega) only[go_sem];refine zfg (zqa [124] parts (by simp only[Lim];omega)) ai (by omega) λaw au Y A _=>?_;simp(disch:=omega) only[go_sem];exact am _ _ Y Y [] nofun rfl (Low.refl _) ⟨rfl,A.fin (by simp only[zeB,if_pos J,zeW,<-W,aa,ztx];simp[zak,Bool.and_comm,Bool.and_left_comm]) (λ_=>by simp[zuy,J]) (by simp only[bE];omega)⟩
  ·simp(disch:=omega) only[J,go_sem];refine zt (yv [101,110,117,109] (by simp[Lim])) ax (by omega) (by omega) (by omega) λbg bc ay ag _=>?_;simp(disch:=omega) only[go_sem];refine zt (yv nm (by simp only[Lim];omega)) ag (by omega) (by omega) (by omega) λbh bd az ah _=>?_;simp(disch:=omega) only[go_sem];refine zt (Zd [123] _) ah (by omega) (by omega) (by omega) λav ar a0 ai _=>?_;simp(disch:=omega) only[I,go_sem];refine zf parts 61 (λx:Own×List Tok=>[]) (λdone rest x H'=>WR H o w l ok 0 (4+bT done) (n&&(zL nm&&done.all λs=>zhI s&&zL s)) (wk [101,110,117,109]::wk nm::pk [123]::done.map wk) H' x.1 x.2) (av,ar) (by simp(disch:=omega) only[go_sem]) (ai.cast (by omega) (by simp[aa,zwp]) (by simp)) ?_ ?_
   ·rintro⟨aw,au⟩ Y a2 A af;simp only at A;simp(disch:=omega) only[I,af,go_sem];refine zt (Zd [125] _) A (by omega) (by omega) (by omega) λbj be ad aj _=>?_;simp(disch:=omega) only[go_sem];exact am _ _ ad ad [] nofun rfl (Low.refl _) ⟨rfl,aj.fin (by rw[zvO];simp only[zeB,if_neg J,zeW,<-W];simp[zak,Bool.and_comm,Bool.and_left_comm]) (λ_=>by simp[zuy,J]) (by simp only[bE];omega)⟩
   ·rintro done x rest ⟨aw,au⟩ Y a2 an af bw A a4;simp only at A;have a7:=YP an;have a6:=zn7 done x rest;rw[<-an]at a6;simp(disch:=omega) only[I,af,a7,go_sem];by_cases U:x=[116,114,117,101]
    case' pos =>
     have bl:=eq_true U;have ab:zhI x=false:=by rw[U];decide
     simp(disch:=omega) only[bl,go_sem]
    case' neg =>
     by_cases X:x=[102,97,108,115,101]
     case' pos =>
      have bn:=eq_true X;have ab:zhI x=false:=by rw[X];decide
      simp(disch:=omega) only[U,bn,go_sem]
     case' neg =>
      by_cases ac:x=[110,117,108,108]
      case' pos =>
       have bo:=eq_true ac;have ab:zhI x=false:=by rw[ac];decide
       simp(disch:=omega) only[U,X,bo,go_sem]
      case' neg =>
       have ab:zhI x=true:=by simp[zhI,U,X,ac]
       simp(disch:=omega) only[U,X,ac,go_sem]
    all_goals refine zt (Yq _) A (by omega) (by omega) (by omega) λbj be ad aj _=>?_;simp(disch:=omega) only[go_sem];refine zt (yv x (by simp only[Lim];omega)) aj (by omega) (by omega) (by omega) λbk bf a1 bp _=>?_;simp(disch:=omega) only[wrap64,go_sem];exact goJ (a4 (bk,bf) a1 (bp.cast (by rw[zlt];omega) (by simp[ab,zak]) (by simp))) (by simp(disch:=omega) only[go_sem])
def zrw(l:List DefD)(x:DefD):bEs (l++[x])=bEs l+bE x:=by simp[bEs]
def zAL(x:DefD)(aj:wfE x)(ad:64*bE x<=Lim):WS 320 [.agg (cE x)] (64*bE x) (zbO x) (tE x):=by
 have ao:=znb [116,121,112,101] x zvy (by simp[Lim]) aj ad;have ap:=znb [105,110,116,101,114,102,97,99,101] x zwu (by simp[Lim]) aj ad;have ag:=zuY x ad;intro H w o l ok h aq;obtain⟨k,nm,faces,flds,parts,ps⟩:=x;rw[yf]at ao ap ag ⊢;have ax:=ad;simp only[Lim,bE]at ax;have bg:=aq;simp only[bE]at aq;have bc:=ZK faces;have bd:=zaf flds;have be:=ZK parts;have bf:=yJ ps;have ar:=zG faces;have au:=zbd flds;have av:=zG parts;have ai:=Zk ps;refine zd.go ir320.1 ir320.2 (Al4 _) λKP Q Y=>?_;have w0:=WR.refl h;by_cases I:k=1
 ·have ay:=eq_true I;simp(disch:=omega) only[ir320,ay,go_sem];refine zfg ao w0 (by omega) λab aa A U _=>?_;simp(disch:=omega) only[go_sem];exact Y _ _ A A [] nofun rfl (Low.refl _) ⟨rfl,U.fin (by subst I;simp[zbO,zgJ]) (λ_=>by subst I;simp[tE,zu8]) (by omega)⟩
 by_cases J:k=2
 ·have az:=eq_true J;simp(disch:=omega) only[ir320,I,az,go_sem];refine zfg ap w0 (by omega) λab aa A U _=>?_;simp(disch:=omega) only[go_sem];exact Y _ _ A A [] nofun rfl (Low.refl _) ⟨rfl,U.fin (by subst J;simp[zbO,zgJ]) (λ_=>by subst J;simp[tE,zu8]) (by omega)⟩
 by_cases W:k=3
 ·have a0:=eq_true W;simp(disch:=omega) only[ir320,I,J,a0,go_sem];refine zfg ag w0 (by omega) λab aa A U _=>?_;simp(disch:=omega) only[go_sem];exact Y _ _ A A [] nofun rfl (Low.refl _) ⟨rfl,U.fin (by subst W;simp[zbO,zeB,zeW]) (λ_=>by subst W;simp[tE,zuy]) (by omega)⟩
 by_cases X:k=4
 ·have a1:=eq_true X;simp(disch:=omega) only[ir320,I,J,W,a1,go_sem];refine zfg ag w0 (by omega) λab aa A U _=>?_;simp(disch:=omega) only[go_sem];exact Y _ _ A A [] nofun rfl (Low.refl _) ⟨rfl,U.fin (by subst X;simp[zbO,zeB,zeW]) (λ_=>by subst X;simp[tE,zuy]) (by omega)⟩
 by_cases Z:k=5
 ·have ak:=eq_true Z;obtain⟨n,ae⟩:∃n,n=(decide (ps.length≠0)&&(decide (faces.length=0)&&(decide (flds.length=0)&&decide (parts.length=0)))):=⟨_,rfl⟩;subst Z;by_cases aw:ps.length=0
  case' pos =>
   have ac:¬ ((0:Int)<(ps.length:Int)):=by omega
   have ah:n=false:=by rw[ae];simp[aw]
   simp(disch:=omega) only[ir320,I,J,W,X,ak,ai,ac,go_sem]
  case' neg =>
   have ac:((0:Int)<(ps.length:Int))=True:=eq_true (by omega);have am:IntKind.wrap .i64 ((faces.length:Int)+(flds.length:Int))=((faces.length+flds.length:Nat):Int):=by rw[wrap64 (by omega) (by omega)];omega
   have an:IntKind.wrap .i64 (((faces.length+flds.length:Nat):Int)+(parts.length:Int))=((faces.length+flds.length+parts.length:Nat):Int):=by rw[wrap64 (by omega) (by omega)];omega
   by_cases ba:faces.length+flds.length+parts.length=0
   case' pos =>
    have af:(((faces.length+flds.length+parts.length:Nat):Int)=0)=True:=eq_true (by omega);have ah:n=true:=by rw[ae];simp only[ne_eq,Al0,z6];omega
    simp(disch:=omega) only[ir320,I,J,W,X,ak,ai,ac,ar,au,av,am,an,af,go_sem]
   case' neg =>
    have af:¬ (((faces.length+flds.length+parts.length:Nat):Int)=0):=by omega
    have ah:n=false:=by rw[ae,Bool.eq_false_iff];simp only[ne_eq,Al0,z6];omega
    simp(disch:=omega) only[ir320,I,J,W,X,ak,ai,ac,ar,au,av,am,an,af,go_sem]
  all_goals refine zt (Yq _) w0 (by omega) (by omega) (by omega) λbo bh H1 a2 _=>?_;simp(disch:=omega) only[go_sem];refine zt (yv [105,110,112,117,116] (by simp[Lim])) a2 (by omega) (by omega) (by omega) λab aa A U _=>?_;simp(disch:=omega) only[go_sem];refine zt (yv nm (by simp only[Lim];omega)) U (by omega) (by omega) (by omega) λbp bj a7 a3 _=>?_;simp(disch:=omega) only[go_sem];refine zt (Zd [123] _) a3 (by omega) (by omega) (by omega) λbq bk a8 a4 _=>?_;simp(disch:=omega) only[go_sem];refine zfg (znF ps aj.2 (by simp only[Lim];omega)) a4 (by omega) λbr bl a9 a5 _=>?_;simp(disch:=omega) only[go_sem];refine zt (Zd [125] _) a5 (by omega) (by omega) (by omega) λbt bn al a6 _=>?_;simp(disch:=omega) only[go_sem];exact Y _ _ al al [] nofun rfl (Low.refl _) ⟨rfl,a6.fin (by simp only[zbO];rw[if_neg (by omega),if_neg (by omega),if_neg (by omega),if_pos trivial];simp only[<-ae,ah,zub];simp[zak,Bool.and_comm,Bool.and_left_comm]) (λ_=>by simp only[tE];rw[if_neg (by omega),if_neg (by omega),if_neg (by omega)];simp) (by simp only[bE];omega)⟩
 ·simp(disch:=omega) only[ir320,I,J,W,X,Z,go_sem];refine zt (Yq false) w0 (by omega) (by omega) (by omega) λab aa A U _=>?_;simp(disch:=omega) only[go_sem];exact Y _ _ A A [] nofun rfl (Low.refl _) ⟨rfl,U.fin (by simp[zbO,I,J,W,X,Z]) (λe=>by simp[zbO,I,J,W,X,Z]at e) (by omega)⟩
def zuV(s:SchD)(bj:zdu s)(X:64*zJ s+64<=Lim):zd Tryz.prog 284 [.agg (zm s)] zb.emp (zu1 λv H'=>H'=zb.emp/\∃L,v=.tup [.sl .no 2 (cKs L),.bool (zd7 s)]):=by
 refine zd.go ir284.1 ir284.2 (Al4 _) λKP Q bd=>?_;obtain⟨defs,q,m⟩:=s;have b7:=zf6 defs;have af:=zgn defs;have be:=X;simp only[zJ,Lim]at be;have a7:zm ⟨defs,q,m⟩=[.sl .no 6 (cEs defs),.str q,.str m]:=rfl;obtain⟨Y,au⟩:∃Y,Y=(zL q&&(decide (m=[])||zL m)):=⟨_,rfl⟩;simp(disch:=first|omega|assumption) only[ir284,a7,go_sem];refine zC zAh λv H1 ⟨w,bh,av⟩=>?_;subst bh;simp(disch:=first|omega|assumption) only[go_sem];refine zc λb X=>?_;have A:b≠w:=λe=>by subst e;rw[av.cell]at X;cases X
 have w0:=(WR.refl av).alloc (x:=.cells [.ptr w 0]) X;have a9:(H1.upd b (.cells [.ptr w 0])) b=some (.cells [.ptr w 0]):=upd_same ..;simp(disch:=first|omega|assumption) only[go_sem];refine zt (yv [115,99,104,101,109,97] (by simp[Lim])) w0 (by omega) (by omega) (by simp only[Lim,Al3];omega) λcf b9 bz a2 bo=>?_;have an:=bo.box w0.here.own a9 A;simp(disch:=first|omega|assumption) only[an,go_sem];refine zt (Zd [123] _) a2 (by omega) (by omega) (by simp only[Lim,Al3];omega) λcg ca b1 a3 bp=>?_;have ao:=bp.box a2.here.own an A;simp(disch:=first|omega|assumption) only[ao,go_sem];refine zt (yv [113,117,101,114,121] (by simp[Lim])) a3 (by omega) (by omega) (by simp only[Lim,Al3];omega) λch cb ac a4 bq=>?_;have ap:=bq.box a3.here.own ao A;simp(disch:=first|omega|assumption) only[ap,go_sem];refine zt (Zd [58] _) a4 (by omega) (by omega) (by simp only[Lim,Al3];omega) λa0 ai b2 J br=>?_;have I:=br.box a4.here.own ap A;simp(disch:=first|omega|assumption) only[I,go_sem];refine zt (yv q (by simp only[Lim];omega)) J (by omega) (by omega) (by simp only[Lim,Al3];omega) λci cc al W bt=>?_;have U:=bt.box J.here.own I A;by_cases aa:m=[]
 case' pos =>have bg:=eq_true aa;have ak:=W;have ad:=U;simp(disch:=first|omega|assumption) only[bg,U,go_sem]
 case' neg =>simp(disch:=first|omega|assumption) only[aa,U,go_sem];refine zt (yv [109,117,116,97,116,105,111,110] (by simp[Lim])) W (by omega) (by omega) (by simp only[Lim,Al3];omega) λa1 az b3 ab aj=>?_;have Z:=aj.box W.here.own U A;simp(disch:=first|omega|assumption) only[Z,go_sem];refine zt (Zd [58] _) ab (by omega) (by omega) (by simp only[Lim,Al3];omega) λcj cd b4 a5 bu=>?_;have aq:=bu.box ab.here.own Z A;simp(disch:=first|omega|assumption) only[aq,go_sem];refine zt (yv m (by simp only[Lim];omega)) a5 (by omega) (by omega) (by simp only[Lim,Al3];omega) λck ce b5 ak bv=>?_;have ad:=bv.box a5.here.own aq A;simp(disch:=first|omega|assumption) only[ad,go_sem]
 all_goals
  refine zt (Zd [125] _) ak (by omega) (by omega) (by simp only[Lim,Al3];omega) λbn bl b6 bx bw=>?_;have ar:=bw.box ak.here.own ad A;simp(disch:=first|omega|assumption) only[ar,af,go_sem];refine zf defs 50 (λx:Own×List Tok=>[]) (λdone rest x H'=>WR H1 .nil w [] true 0 (10+64*bEs done) (Y&&done.all zbO) (tRt q m++done.flatMap tE) H' x.1 x.2/\H' b=some (.cells [.ptr w 0])) (bn,bl) (by simp(disch:=first|omega|assumption) only[go_sem]) ⟨bx.castC (by omega) (by rw[au];simp[zrz,zsS,zze,aa,zak]) (λ_=>by simp[tRt,aa]),ar⟩ ?_ ?_
  ·rintro⟨a0,ai⟩ ac a6 ⟨J,I⟩ ah;simp only at J I;have a8:zd7 ⟨defs,q,m⟩=(Y&&defs.all zbO):=by rw[au,Bool.and_comm];rfl
   have aw:=J.here.cell;rw[<-a8,Bool.true_and]at aw;simp(disch:=first|omega|assumption) only[af,ah,I,aw,go_sem];exact bd _ _ _ zb.emp [_,_] nofun rfl (Low.of_sub nofun) ⟨rfl,ai,rfl⟩
  ·rintro done x rest ⟨a0,ai⟩ ac a6 ag ah b8 ⟨J,I⟩ bc;simp only at J I;have ay:=zgS ag;have bf:=zph done x rest;rw[<-ag]at bf;have bk:=bj x (by rw[ag];simp);have ax:=zAL x bk (by simp only[Lim];omega);obtain⟨k,nm,faces,flds,parts,ps⟩:=x;rw[yf]at ay ax;simp(disch:=first|omega|assumption) only[af,ah,ay,go_sem];refine zc λam ae=>?_;have ba:am≠b:=λe=>by subst e;rw[I]at ae;cases ae
   have W:=J.alloc (x:=.cells [.int .i64 k,.str nm,.sl .no 1 (cT faces),.sl .no 6 (cLs flds),.sl .no 1 (cT parts),.sl .no 10 (cWs ps)]) ae;have U:(ac.upd am (.cells [.int .i64 k,.str nm,.sl .no 1 (cT faces),.sl .no 6 (cLs flds),.sl .no 1 (cT parts),.sl .no 10 (cWs ps)])) b=some (.cells [.ptr w 0]):=by rw[upd_ne (Ne.symm ba)];exact I
   simp(disch:=first|omega|assumption) only[U,go_sem];refine zfg ax W (by simp only[Lim,Al3];omega) λa1 az al ab aj=>?_;have Z:=aj.box W.here.own U A;simp(disch:=first|omega|assumption) only[wrap64,go_sem];exact goJ (bc (a1,az) al ⟨ab.cast (by rw[zrw];omega) (by simp[zak]) (by simp),Z⟩) (by simp(disch:=first|omega|assumption) only[go_sem])
def zuO(s:SchD)(Y:zdu s)(W:64*zJ s+64<=Lim):ze Tryz.prog 196 [.agg (zm s)] (.bool (zd7 s)):=by refine ze.go ir196.1 ir196.2 (Al4 _) λKP Q U=>?_;have I:zm s=[.sl .no 6 (cEs s.defs),.str s.q,.str s.m]:=rfl;have A:=zuV s Y W;rw[I]at A ⊢;simp(disch:=first|omega|assumption) only[ir196,go_sem];refine zC A λv H1 ⟨J,L,X⟩=>?_;subst X;subst J;simp(disch:=first|omega|assumption) only[go_sem];exact U _ _ _ _ nofun rfl (by simp )
def zv3(s:SchD)(n:List UInt8)(J:s.defs.length<=Lim):ze Tryz.prog 199 [.str n,.view (zm s)] (.bool (Za s n [0])):=by
 have A:=zdA s n [0] J (by simp[Lim]);generalize Za s n [0]=X at *
 obtain⟨U,W,sm⟩:=s;simp only[zm]at A ⊢;refine ze.go ir199.1 ir199.2 (Al4 _) λKP Q I=>?_;simp(disch:=omega) only[ir199,go_sem];refine za (ze.low A) ?_;simp(disch:=omega) only[go_sem];exact I _ _ _ _ nofun rfl (by simp )
noncomputable def zh0(s:SchD):Bool:=zd7 s&&za5 (s.defs.map (·.nm))&&zbB (s.defs.map (·.nm))&&!(s.defs.map (·.nm)).any λn=>Za s n [0]
def zuU(s:SchD)(ac:zdu s)(Y:64*zJ s+64<=Lim):ze Tryz.prog 113 [.agg (zm s)] (.bool (zh0 s)):=by
 have ab:zJ s<=Lim:=by simp only[Lim]at Y ⊢;omega
 have I:=yc ab;have J:(s.defs.map (·.nm)).length<=Lim:=by rw[List.length_map];exact I
 have U:=zn6 s.defs I;have W:=zuO s ac Y;have Z:=zql (s.defs.map (·.nm)) J;have aa:=znP (s.defs.map (·.nm)) J;have X:=zoy (λn:List UInt8=>AV.str n) (s.defs.map (·.nm)) 199 [.view (zm s)] (λn=>Za s n [0]) J (by kernel_rfl) λn _=>zv3 s n I;unfold zh0;generalize zd7 s=ad at *
 generalize za5 (s.defs.map (·.nm))=ae at *
 generalize zbB (s.defs.map (·.nm))=af at *
 generalize (s.defs.map (·.nm)).any (λn=>Za s n [0])=ai at *
 generalize s.defs.map (·.nm)=l at *
 obtain⟨ag,ah,sm⟩:=s;simp only[zm]at U W X ⊢;refine ze.go ir113.1 ir113.2 (Al4 _) λKP Q A=>?_;simp(disch:=omega) only[ir113,go_sem];refine za U ?_;simp(disch:=omega) only[go_sem];refine za W ?_;cases ad with
 | false =>simp(disch:=omega) only[go_sem];exact A _ _ _ _ nofun rfl (by simp )
 | true =>
 simp(disch:=omega) only[go_sem];refine za Z ?_;cases ae with
 | false =>simp(disch:=omega) only[go_sem];exact A _ _ _ _ nofun rfl (by simp )
 | true =>
 simp(disch:=omega) only[go_sem];refine za aa ?_;cases af with
 | false =>simp(disch:=omega) only[go_sem];exact A _ _ _ _ nofun rfl (by simp )
 | true =>
 simp(disch:=omega) only[go_sem];refine za X ?_;simp(disch:=omega) only[go_sem];exact A _ _ _ _ nofun rfl (by simp )
noncomputable def zfQ(s:SchD)(n:Int):Bool :=
 if n=1 then zh0 s else if n=2 then zl9 s else if n=3 then zgq s else if n=4 then zlY s else if n=5 then zlS s
 else if n=6 then zlD s else if n=7 then zk8 s else if n=8 then zpC s else if n=9 then zwr s else false
def zyG(s:SchD)(n:Int)(ao:zdu s)(ae:64*zJ s+64<=Lim):ze Tryz.prog 51 [.agg (zm s),.int .i64 n] (.bool (zfQ s n)):=by
 have J:zJ s<=Lim:=by simp only[Lim]at ae ⊢;omega
 have af:=zuU s ao ae;have ag:=zxF s J;have ah:=ztA s J;have ai:=zyL s J;have aj:=zyC s J;have ak:=zxD s (by simp only[Lim]at ae ⊢;omega);have al:=zxJ s J;have am:=zzM s J;have an:=zrg s J;have A:zfQ s n=zfQ s n:=rfl
 conv at A=>rhs;unfold zfQ
 generalize zfQ s n=F at *
 generalize zh0 s=ar at *
 generalize zl9 s=au at *
 generalize zgq s=av at *
 generalize zlY s=aw at *
 generalize zlS s=ax at *
 generalize zlD s=ay at *
 generalize zk8 s=az at *
 generalize zpC s=a0 at *
 generalize zwr s=a1 at *
 obtain⟨ap,aq,sm⟩:=s;simp only[zm]at af ag ah ai aj ak al am an ⊢;refine ze.go ir51.1 ir51.2 (Al4 _) λKP Q I=>?_;by_cases U:n=1
 ·subst U;rw[if_pos rfl]at A;subst A;simp(disch:=omega) only[ir51,go_sem];refine za af ?_;simp(disch:=omega) only[go_sem];exact I _ _ _ _ nofun rfl (by simp )
 rw[if_neg U]at A;by_cases W:n=2
 ·subst W;rw[if_pos rfl]at A;subst A;simp(disch:=omega) only[ir51,go_sem];refine za ag ?_;simp(disch:=omega) only[go_sem];exact I _ _ _ _ nofun rfl (by simp )
 rw[if_neg W]at A;by_cases X:n=3
 ·subst X;rw[if_pos rfl]at A;subst A;simp(disch:=omega) only[ir51,go_sem];refine za ah ?_;simp(disch:=omega) only[go_sem];exact I _ _ _ _ nofun rfl (by simp )
 rw[if_neg X]at A;by_cases Y:n=4
 ·subst Y;rw[if_pos rfl]at A;subst A;simp(disch:=omega) only[ir51,go_sem];refine za ai ?_;simp(disch:=omega) only[go_sem];exact I _ _ _ _ nofun rfl (by simp )
 rw[if_neg Y]at A;by_cases Z:n=5
 ·subst Z;rw[if_pos rfl]at A;subst A;simp(disch:=omega) only[ir51,go_sem];refine za aj ?_;simp(disch:=omega) only[go_sem];exact I _ _ _ _ nofun rfl (by simp )
 rw[if_neg Z]at A;by_cases aa:n=6
 ·subst aa;rw[if_pos rfl]at A;subst A;simp(disch:=omega) only[ir51,go_sem];refine za ak ?_;simp(disch:=omega) only[go_sem];exact I _ _ _ _ nofun rfl (by simp )
 rw[if_neg aa]at A;by_cases ab:n=7
 ·subst ab;rw[if_pos rfl]at A;subst A;simp(disch:=omega) only[ir51,go_sem];refine za al ?_;simp(disch:=omega) only[go_sem];exact I _ _ _ _ nofun rfl (by simp )
 rw[if_neg ab]at A;by_cases ac:n=8
 ·subst ac;rw[if_pos rfl]at A;subst A;simp(disch:=omega) only[ir51,go_sem];refine za am ?_;simp(disch:=omega) only[go_sem];exact I _ _ _ _ nofun rfl (by simp )
 rw[if_neg ac]at A;by_cases ad:n=9
 ·subst ad;rw[if_pos rfl]at A;subst A;simp(disch:=omega) only[ir51,go_sem];refine za an ?_;simp(disch:=omega) only[go_sem];exact I _ _ _ _ nofun rfl (by simp )
 rw[if_neg ad]at A;subst A;simp(disch:=omega) only[ir51,U,W,X,Y,Z,aa,ab,ac,ad,go_sem];exact I _ _ _ _ nofun rfl (by simp )
noncomputable def zf8(s:SchD):Nat->Int->Int
 | 0,_=>0
 | k+1,n=>if zfQ s n=true then zf8 s k (n+1)else n
def zvL(s:SchD)(ad:zdu s)(aa:64*zJ s+64<=Lim):ze Tryz.prog 20 [.agg (zm s)] (.int .i64 (zf8 s 9 1)):=by
 have U:=λn=>zyG s n ad aa;generalize Y:zf8 s 9 1=F;obtain⟨W,X,sm⟩:=s;simp only[zm]at U ⊢;refine ze.go ir20.1 ir20.2 (Al4 _) λKP Q J=>?_;simp(disch:=omega) only[ir20,go_sem];refine Ze (λx:Nat×Int=>[(3,.int .i64 x.2)]) (λx _=>(x.1:Int)+x.2=10/\x.1<=9/\zf8 ⟨W,X,sm⟩ x.1 x.2=F) (λx=>x.1) (9,1) (by simp(disch:=omega) only[go_sem]) ⟨by omega,by omega,Y⟩ ?_;rintro⟨k,n⟩ H ae ⟨ab,ac,A⟩ Z;simp only at ab ac A;cases k with
 | zero =>
  simp only[zf8]at A;subst A;have I:¬ (n<=9):=by omega
  simp(disch:=omega) only[I,go_sem];exact J _ _ _ _ nofun rfl (by simp )
 | succ k =>
  simp only[zf8]at A;have hr:=U n;have I:(n<=9)=True:=eq_true (by omega);generalize af:zfQ ⟨W,X,sm⟩ n=x at *
  simp(disch:=omega) only[I,go_sem];refine za hr ?_;cases x with
  | true =>rw[if_pos rfl]at A;simp(disch:=omega) only[wrap64,go_sem];exact goJ (Z (k,n+1) _ (by simp only;omega) ⟨by simp only;omega,by simp only;omega,A⟩) (by simp(disch:=omega) only[wrap64,go_sem])
  | false =>rw[if_neg (by simp)]at A;subst A;simp(disch:=omega) only[go_sem];exact J _ _ _ _ nofun rfl (by simp )
mutual
def zhX:SelD->List (List UInt8)->List (List UInt8)| .mk k al nm args dirs on sels,l=>Zh sels (if k=1/\yo nm l=false then l++[nm]else l)
def Zh:List SelD->List (List UInt8)->List (List UInt8)
 | [],l=>l
 | x::r,l=>Zh r (zhX x l)
end
mutual
def zpI:∀(x:SelD) (l:List (List UInt8)),(zhX x l).length<=l.length+bS x
 | .mk k al nm args dirs on sels,l=>by
  have:=zgb sels (if k=1/\yo nm l=false then l++[nm]else l);have A:(if k=1/\yo nm l=false then l++[nm]else l).length<=l.length+1:=by split<;>simp
  simp only[zhX,bS];omega
def zgb:∀(x:List SelD) (l:List (List UInt8)),(Zh x l).length<=l.length+bSs x
 | [],l=>by simp[Zh]
 | x::r,l=>by have:=zpI x l;have:=zgb r (zhX x l);simp only[Zh,bSs];omega
end
def zwI(sels:List SelD):Prop:=∀(l:List (List UInt8)) (o:Own) (H:zb),l.length+bSs sels<=Lim->zA H o l.length 1->YG Tryz.prog 133 [.sl o 1 (cT l),.sl .no 7 (cSs sels)] H o 1 (cT (Zh sels l))
def zp2(sels:List SelD)(a1:∀k Y nm args dirs on xs,SelD.mk k Y nm args dirs on xs∈sels->zwI xs):zwI sels:=by
 intro l o H ax ho;have a3:l.length+bSs sels<=1099511627776:=by simpa only[Lim]using ax
 have ae:=YK sels;have a5:=Y9 sels;refine zd.goO ir133.1 ir133.2 (Al4 _) λKP Q aw a2=>?_;simp(disch:=omega) only[ir133,ae,go_sem];refine zf sels 9 (λx:Own×List (List UInt8)=>[(0,.sl x.1 1 (cT x.2))]) (λdone rest x H'=>Zh rest x.2=Zh sels l/\x.2.length+bSs rest<=l.length+bSs sels/\OwnS H o H' x.1 x.2.length 1) (o,l) (by simp(disch:=omega) only[go_sem]) ⟨rfl,Al4 _,OwnS.refl ho⟩ ?_ ?_
 ·rintro⟨ab,a⟩ H' ar ⟨U,_,Z⟩ ah;simp only[Zh]at U;simp(disch:=omega) only[ae,ah,go_sem];refine aw _ _ H' H' [.sl ab 1 (cT a)] nofun (by simp(disch:=omega) only[ir133,zo,z8,go_sem]) (Low.refl _) ⟨ab,by rw[<-U];rfl,by rw[<-U,zG];exact Z⟩
 ·rintro done x rest ⟨ab,a⟩ H' ar am ah _ ⟨U,ay,Z⟩ af;have an:=zbo am;have az:x∈sels:=by rw[am];simp
  have aj:=zpI x a;simp only[Zh,bSs]at U ay;replace Z:OwnS H o H' ab a.length 1:=Z;obtain⟨k,Y,nm,args,dirs,on,xs⟩:=x;have a0:=a1 _ _ _ _ _ _ _ az;have A:zhX (.mk k Y nm args dirs on xs) a=Zh xs (if k=1/\yo nm a=false then a++[nm]else a):=by simp only[zhX]
  have a4:bSs xs+1<=bS (.mk k Y nm args dirs on xs):=by simp only[bS];omega
  rw[y9]at an;have ac:=zG a;have tail:∀(I:Own) (X:List (List UInt8)) (J:zb),zhX (.mk k Y nm args dirs on xs) a=Zh xs X->X.length<=a.length+1->OwnS H o J I X.length 1->YG Tryz.prog 133 [.sl I 1 (cT X),.sl .no 7 (cSs xs)] J I 1 (cT (Zh xs X)):=λI X J e h h'=>a0 X I J (by simp only[Lim];omega) h'.own;simp(disch:=omega) only[ae,ah,an,go_sem];refine zc λad al=>?_;have aa:=Z.upd (x:=.cells [.int .i64 k,.str Y,.str nm,.sl .no 6 (cMs args),.sl .no 2 (cDs dirs),.str on,.sl .no 7 (cSs xs)]) al;by_cases ag:k=1
  case neg =>rw[if_neg (λh=>ag h.1)]at A;simp(disch:=omega) only[ag,go_sem];refine zx (tail ab a _ A (by omega) aa) λI J W=>?_;rw[zG]at W;simp(disch:=omega) only[wrap64,go_sem];exact goJ (af (I,Zh xs a) J ⟨by rw[<-U,A],by simp only;rw[A]at aj;omega,aa.trans W⟩) (by simp(disch:=omega) only[wrap64,go_sem])
  subst ag;simp(disch:=omega) only[go_sem];refine za (ze.low (yD a nm (by simp only[Lim];omega))) ?_;cases ao:yo nm a with
  | true =>rw[if_neg (λh=>by rw[ao]at h;cases h.2)]at A;simp(disch:=omega) only[go_sem];refine zx (tail ab a _ A (by omega) aa) λI J W=>?_;rw[zG]at W;simp(disch:=omega) only[wrap64,go_sem];exact goJ (af (I,Zh xs a) J ⟨by rw[<-U,A],by simp only;rw[A]at aj;omega,aa.trans W⟩) (by simp(disch:=omega) only[wrap64,go_sem])
  | false =>
   rw[if_pos ⟨rfl,ao⟩]at A;simp(disch:=omega) only[go_sem];refine zj (by rw[ac];exact aa.own) ?_ ?_ λo' aq ap=>?_
   ·simp only[ac,Al2,Al3];omega
   ·simp only[ac,Al2,Al3,maxLen];omega
   have au:cT a++[[AV.str nm]]=cT (a++[nm]):=by simp[cT]
   have ai:=aa.trans ap;simp only[ac,Al2,Al3]at ai;have av:aq ad=some (.cells [.int .i64 1,.str Y,.str nm,.sl .no 6 (cMs args),.sl .no 2 (cDs dirs),.str on,.sl .no 7 (cSs xs)]):=ap.kept ad _ (upd_same ..) λd e=>by have:=Z.own;rw[e]at this;have ak:H' ad=some (.tip (d+a.length) 1):=this;rw[al]at ak;cases ak
   simp(disch:=omega) only[au,av,go_sem];refine zx (tail o' (a++[nm]) _ A (by simp) (by simpa using ai)) λI J W=>?_;rw[zG]at W;simp(disch:=omega) only[wrap64,go_sem];exact goJ (af (I,Zh xs (a++[nm])) J ⟨by rw[<-U,A],by simp only;rw[A]at aj;omega,(OwnS.trans (n:=a.length+1) (by simpa using ai) W)⟩) (by simp(disch:=omega) only[wrap64,go_sem])
def zxB(sels:List SelD):zwI sels:=by
 have h:∀x:SelD,∀k A nm args dirs on xs,x=.mk k A nm args dirs on xs->zwI xs:=SelD.ind λk A nm args dirs on sels J=>by intro Y U Z W X aa xs e;cases e;exact zp2 sels λk A nm args dirs on xs I=>J _ I _ _ _ _ _ _ _ rfl
 exact zp2 sels λk A nm args dirs on xs _=>h _ k A nm args dirs on xs rfl
def zeH(n:List UInt8)(f:FragD):Bool:=decide (f.nm=n)
def zFr:FragD:=⟨[],[],[],[]⟩
def yt(d:DocD)(n:List UInt8):Option FragD:=d.frags.find? (zeH n)
def Yp(nm on:List UInt8)(dirs:List DirD)(sels:List SelD):cF ⟨nm,on,dirs,sels⟩=[.str nm,.str on,.sl .no 2 (cDs dirs),.sl .no 7 (cSs sels)]:=rfl
def zyS(f:FragD)(n:List UInt8):ze Tryz.prog 234 [.agg (cF f),.view [.str n]] (.bool (zeH n f)):=by obtain⟨nm,on,ds,I⟩:=f;refine ze.go ir234.1 ir234.2 (Al4 _) λKP Q A=>?_;simp(disch:=omega) only[ir234,Yp,go_sem];exact A _ _ _ _ nofun rfl (by simp[zeH])
def znl(d:DocD)(n:List UInt8)(W:d.frags.length<=Lim):ze Tryz.prog 135 [.agg (zU d),.str n] (.tup [.agg (cF ((yt d n).getD zFr)),.bool (yt d n).isSome]):=by
 have ae:=W;simp only[Lim]at ae;have X:=zwC cF (λ_=>rfl) d.frags 234 [.view [.str n]] (zeH n) W (by kernel_rfl) λx _=>zyS x n;have I:yt d n=d.frags.find? (zeH n):=rfl;generalize yt d n=F at *
 obtain⟨ops,frags⟩:=d;simp only[zU]at X I ⊢;have ab:=YO frags;refine ze.go ir135.1 ir135.2 (Al4 _) λKP Q ad=>?_;have fin:∀o,F=o->∀ρ H vs,zo ρ H ir135.1.res=some vs->(zP vs).strip=.tup [.agg (cF (o.getD zFr)),.bool o.isSome]->Q .ret ρ H:=λo e ρ H vs A J=>ad _ ρ H vs nofun A (by rw[J,e]);simp(disch:=omega) only[ir135,go_sem];refine zc λag ah=>?_;simp(disch:=omega) only[go_sem];refine za X ?_;rcases zax (zeH n) frags 0 with ⟨a,x,r,A,J,Y,Z⟩|⟨A,J⟩
 ·rw[Z,Int.zero_add];rw[Y]at I;have U:=zad A;have aa:(a.length:Int)<frags.length:=by rw[A,Al5,Al2];omega
  have ac:¬ ((a.length:Int)<0):=by omega
  obtain⟨nm,on,ds,af⟩:=x;rw[Yp]at U;simp(disch:=omega) only[U,ab,aa,ac,go_sem];exact fin _ I _ _ [.agg (cF ⟨nm,on,ds,af⟩),.bool true] (by simp(disch:=omega) only[ir135,zo,z8,Yp,go_sem]) rfl
 ·rw[J];rw[A]at I;simp(disch:=omega) only[go_sem];exact fin _ I _ _ [.agg [.str [],.str [],.sl .nil 2 [],.sl .nil 7 []],.bool false] (by simp(disch:=omega) only[ir135,zo,z8,go_sem]) rfl
mutual
def zri:SelD->List (List UInt8)| .mk _ _ nm _ _ _ sels=>nm::zcU sels
def zcU:List SelD->List (List UInt8)
 | []=>[]
 | x::r=>zri x++zcU r
end
mutual
def zv7:∀x:SelD,(zri x).length<=bS x| .mk _ _ nm _ _ _ sels=>by have:=zgl sels;simp only[zri,bS,Al2];omega
def zgl:∀l:List SelD,(zcU l).length<=bSs l
 | []=>by simp[zcU]
 | x::r=>by have:=zv7 x;have:=zgl r;simp only[zcU,bSs,Al5];omega
end
def OkN(U l:List (List UInt8)):Prop:=l.Nodup/\∀x∈l,x∈U
def zwd{U l:List (List UInt8)}{x:List UInt8}(h:OkN U l)(J:yo x l=false)(X:x∈U):OkN U (l++[x]):=by
 have Y:x ∉ l:=λh=>by rw[(zin x l).2 h]at J;cases J
 refine⟨List.nodup_append.2 ⟨h.1,by simp,λa W b I e=>?_⟩,λy Z=>?_⟩
 ·simp only[List.mem_singleton]at I;subst I;subst e;exact Y W
 ·rcases List.mem_append.1 Z with A|A
  ·exact h.2 y A
  ·simp only[List.mem_singleton]at A;subst A;exact X
def zqh{U l:List (List UInt8)}(h:OkN U l):l.length<=U.length:=List.Nodup.length_le_of_subset h.1 (λx A=>h.2 x A)
mutual
def zvc{U:List (List UInt8)}:∀(x:SelD) (l:List (List UInt8)),(∀y∈zri x,y∈U)->OkN U l->OkN U (zhX x l)
 | .mk k al nm args dirs on sels,l,hU,h=>by
  simp only[zhX];refine zcP sels _ (λy I=>hU y (by simp[zri,I])) ?_;split
  ·rename_i A;exact zwd h A.2 (hU nm (by simp[zri]))
  ·exact h
def zcP{U:List (List UInt8)}:∀(x:List SelD) (l:List (List UInt8)),(∀y∈zcU x,y∈U)->OkN U l->OkN U (Zh x l)
 | [],l,_,h=>by simpa[Zh]using h
 | x::r,l,hU,h=>by simp only[Zh];exact zcP r _ (λy A=>hU y (by simp[zcU,A])) (zvc x l (λy A=>hU y (by simp[zcU,A])) h)
end
mutual
def zvM:∀(x:SelD) (l:List (List UInt8)),l.length<=(zhX x l).length
 | .mk k al nm args dirs on sels,l=>by
  have:=ziH sels (if k=1/\yo nm l=false then l++[nm]else l);have A:l.length<=(if k=1/\yo nm l=false then l++[nm]else l).length:=by split<;>simp
  simp only[zhX];omega
def ziH:∀(x:List SelD) (l:List (List UInt8)),l.length<=(Zh x l).length
 | [],l=>by simp[Zh]
 | x::r,l=>by have:=zvM x l;have:=ziH r (zhX x l);simp only[Zh];omega
end
def zjA(d:DocD)(sels:List SelD):List (List UInt8):=zcU sels++d.frags.flatMap λf=>zcU f.sels
def zaI(f:FragD):bSs f.sels<=bF f:=by simp only[bF];omega
def znw:∀l:List FragD,(l.flatMap λf=>zcU f.sels).length<=bFs l
 | []=>by simp
 | f::l=>by
  have A:=znw l;have I:=zgl f.sels;have J:=zaI f;have e:bFs (f::l)=bF f+bFs l:=by simp[bFs]
  rw[List.flatMap_cons,Al5,e];omega
def zqq(d:DocD)(sels:List SelD):(zjA d sels).length<=bSs sels+bFs d.frags:=by have A:=zgl sels;have I:=znw d.frags;simp only[zjA,Al5];omega
def zdn(d:DocD):Nat->List (List UInt8)->Nat->List (List UInt8)
 | 0,l,_=>l
 | k+1,l,i=>match l[i]? with
  | none=>l
  | some x=>zdn d k (match yt d x with|none=>l|some f=>Zh f.sels l) (i+1)
def Zl(d:DocD)(sels:List SelD):List (List UInt8):=zdn d (bSs sels+bFs d.frags+1) (Zh sels []) 0
def zcj{f:FragD}:∀ {l:List FragD},f∈l->bF f<=bFs l
 | x::l,h=>by
  rcases List.mem_cons.1 h with rfl|h
  ·simp only[bFs,List.map_cons,List.sum_cons];omega
  ·have:=zcj h;simp only[bFs,List.map_cons,List.sum_cons]at this ⊢;omega
def zkQ{d:DocD}{U:List (List UInt8)}(A:∀f∈d.frags,∀y∈zcU f.sels,y∈U):∀(k:Nat) (l:List (List UInt8)) (i:Nat),OkN U l->OkN U (zdn d k l i)
 | 0,l,i,h=>by simpa[zdn]using h
 | k+1,l,i,h=>by
  simp only[zdn];cases l[i]? with
  | none=>exact h
  | some x =>
   simp only
   refine zkQ A k _ _ ?_;cases I:yt d x with
   | none=>exact h
   | some f=>exact zcP f.sels l (A f (List.mem_of_find?_eq_some I)) h
def zi5(d:DocD)(sels:List SelD)(H:zb)(ar:2*(bSs sels+bFs d.frags)<=Lim):YG Tryz.prog 137 [.agg (zU d),.sl .no 7 (cSs sels)] H .nil 1 (cT (Zl d sels)):=by
 have bf:2*(bSs sels+bFs d.frags)<=1099511627776:=by simpa only[Lim]using ar
 have bg:=yC d.frags;have Y:=λn=>znl d n (by simp only[Lim];omega);have ap:∀f∈d.frags,∀y∈zcU f.sels,y∈zjA d sels:=λf av y X=>by simp only[zjA,List.mem_append,List.mem_flatMap];exact .inr ⟨f,av,X⟩
 have ba:=zqq d sels;have ok0:OkN (zjA d sels) (Zh sels []):=zcP sels [] (λy X=>by simp[zjA,X]) ⟨List.nodup_nil,by simp⟩;generalize be:zjA d sels=ai at *
 have ak:Zl d sels=zdn d (bSs sels+bFs d.frags+1) (Zh sels []) 0:=rfl;generalize bc:bSs sels+bFs d.frags=B at *
 generalize Zl d sels=F at *
 have a3:=λn f (h:yt d n=some f)=>(show f∈d.frags from List.mem_of_find?_eq_some h);have aw:=λf (h:f∈d.frags)=>Nat.le_trans (zaI f) (zcj h);have aa:=zxB sels [] .nil H (by simp only[Al3,Lim];omega) rfl;have au:zU d=[.sl .no 5 (cOs d.ops),.sl .no 4 (cFs d.frags)]:=rfl;simp only[au]at Y ⊢;refine zd.goO ir137.1 ir137.2 (Al4 _) λKP Q ao bd=>?_;simp(disch:=omega) only[ir137,go_sem];have a4:cT []=[]:=rfl;rw[a4]at aa;refine zx aa λo0 H0 af=>?_;rw[zG]at af;simp(disch:=omega) only[go_sem];refine Ze (λx:Own×List (List UInt8)×Nat=>[(5,.sl x.1 1 (cT x.2.1)),(6,.int .i64 x.2.2)]) (λx H'=>OwnS H .nil H' x.1 x.2.1.length 1/\OkN ai x.2.1/\x.2.2<=x.2.1.length/\zdn d (B+1-x.2.2) x.2.1 x.2.2=F) (λx=>B+1-x.2.2) (o0,Zh sels [],0) (by simp(disch:=omega) only[go_sem]) ⟨af,ok0,Nat.zero_le _,ak.symm⟩ ?_;rintro⟨o,l,i⟩ H1 a6 ⟨ho,J,hi,hr⟩ Z;replace ho:OwnS H .nil H1 o l.length 1:=ho;simp only at J hi hr;have hlen:=zqh J;have ah:=zG l;have al:B+1-i=(B-i)+1:=by omega
 rw[al]at hr;by_cases bj:i<l.length
 case neg =>
  have ax:l[i]?=none:=List.getElem?_eq_none (by omega);have W:(l.length:Int)<=i:=by omega
  simp only[zdn,ax]at hr;simp(disch:=omega) only[ah,W,go_sem];refine ao _ _ H1 H1 [.sl o 1 (cT l)] nofun (by simp(disch:=omega) only[ir137,zo,z8,go_sem]) (Low.refl _) ⟨o,by rw[<-hr];rfl,by rw[<-hr,zG];exact ho⟩
 obtain⟨a,x,r,ad,aq⟩:∃a x r,l=a++x::r/\a.length=i:=⟨l.take i,l[i],l.drop (i+1),by rw[List.getElem_cons_drop,List.take_append_drop],by rw[List.length_take];omega⟩;subst aq;have a1:l[a.length]?=some x:=by rw[ad];simp
 have a0:(cT l).getD a.length []=[.str x]:=YP ad;have W:(a.length:Int)<l.length:=by omega
 have ay:¬ ((l.length:Int)<=a.length):=by omega
 have an:=Y x;simp only[zdn,a1]at hr;simp(disch:=omega) only[ah,W,ay,a0,go_sem];refine za an ?_;cases U:yt d x with
 | none =>rw[U]at hr;simp(disch:=omega) only[Option.getD,Option.isSome,zFr,Yp,go_sem];refine zc λaj I=>?_;simp(disch:=omega) only[go_sem];exact goJ (Z (o,l,a.length+1) _ (by simp only;omega) ⟨ho.upd I,J,by simp only;omega,by simp only;rw[<-hr];congr 1;omega⟩) (by simp(disch:=omega) only[wrap64,go_sem];simp)
 | some f =>rw[U]at hr;have ac:=a3 x f U;have bh:=aw f ac;have ae:=zcP f.sels l (ap f ac) J;have a2:=zgb f.sels l;have ab:=λA (h:zA A o l.length 1)=>zxB f.sels l o A (by simp only[Lim];omega) h;have az:l.length<=(Zh f.sels l).length:=ziH f.sels l;obtain⟨a8,a9,a7,am⟩:=f;simp only at ab ae a2 hr az;simp(disch:=omega) only[Option.getD,Option.isSome,Yp,go_sem];refine zc λaj I=>?_;simp(disch:=omega) only[go_sem];refine zx (ab _ (ho.own.upd I)) λa5 A ag=>?_;rw[zG]at ag;simp(disch:=omega) only[go_sem];exact goJ (Z (a5,Zh am l,a.length+1) A (by simp only;omega) ⟨(ho.upd I).trans ag,ae,by simp only;omega,by simp only;rw[<-hr];congr 1;omega⟩) (by simp(disch:=omega) only[wrap64,go_sem];simp)
def zam(k:Int)(nm:List UInt8)(vars:List VarD)(dirs:List DirD)(sels:List SelD):cO ⟨k,nm,vars,dirs,sels⟩=[.int .i64 k,.str nm,.sl .no 10 (cWs vars),.sl .no 2 (cDs dirs),.sl .no 7 (cSs sels)]:=rfl
def cLL(l:List (List SelD)):List (List AV):=l.map λx=>[.sl .no 7 (cSs x)]
def zl3(l:List (List SelD)):(cLL l).length=l.length:=by simp[cLL]
def lenD(d:DocD):Nat:=d.ops.length+d.frags.length
def yX(d:DocD):List (List SelD):=d.ops.map (·.sels)++d.frags.map (·.sels)
def ztP(d:DocD)(H:zb)(am:zw d<=Lim):YG Tryz.prog 128 [.agg (zU d)] H .nil 1 (cLL (yX d)):=by
 obtain⟨ops,frags⟩:=d;have au:bOs ops+bFs frags<=1099511627776:=by simpa only[Lim,zw]using am
 have aj:=Z9 ops;have ak:=YO frags;have av:=Zu ops;have aw:=yC frags;rw[show zU ⟨ops,frags⟩=[.sl .no 5 (cOs ops),.sl .no 4 (cFs frags)] from rfl];refine zd.goO ir128.1 ir128.2 (Al4 _) λKP Q al ar=>?_;simp(disch:=omega) only[ir128,aj,go_sem];refine zf ops 11 (λx:Own×List (List SelD)=>[(3,.sl x.1 1 (cLL x.2))]) (λdone rest x H'=>x.2=done.map (·.sels)/\OwnS H .nil H' x.1 done.length 1) (.nil,[]) (by simp(disch:=omega) only[cLL,List.map,go_sem]) ⟨rfl,OwnS.refl (o:=.nil) (n:=0) rfl⟩ ?_ ?_
 ·rintro⟨ab,a⟩ H1 ae ⟨J,A⟩ W;simp only at J;subst J;replace A:OwnS H .nil H1 ab ops.length 1:=A;simp(disch:=omega) only[aj,W,ak,go_sem];refine zf frags 24 (λx:Own×List (List SelD)=>[(3,.sl x.1 1 (cLL x.2))]) (λdone rest x H'=>x.2=ops.map (·.sels)++done.map (·.sels)/\OwnS H .nil H' x.1 (ops.length+done.length) 1) (ab,ops.map (·.sels)) (by simp(disch:=omega) only[go_sem]) ⟨by simp,A⟩ ?_ ?_
  ·rintro⟨ac,a⟩ aa ae ⟨J,A⟩ W;simp only at J;subst J;simp(disch:=omega) only[ak,W,go_sem];refine al _ _ aa aa [.sl ac 1 (cLL (yX ⟨ops,frags⟩))] nofun (by simp(disch:=omega) only[ir128,zo,z8,yX,go_sem]) (Low.refl _) ⟨ac,rfl,by rw[zl3];simpa[yX]using A⟩
  ·rintro done x rest ⟨ac,a⟩ aa ae ah W _ ⟨J,A⟩ ag;have X:=zad ah;simp only at J;subst J;have I:=zl3 (ops.map (·.sels)++done.map (·.sels));simp only[Al5,List.length_map]at I;replace A:OwnS H .nil aa ac (ops.length+done.length) 1:=A;obtain⟨nm,on,ds,U⟩:=x;rw[Yp]at X;simp(disch:=omega) only[ak,W,X,go_sem];refine zc λaq ao=>?_;have Z:=A.upd (x:=.cells [.str nm,.str on,.sl .no 2 (cDs ds),.sl .no 7 (cSs U)]) ao;simp(disch:=omega) only[go_sem];refine zj (by rw[I];exact Z.own) ?_ ?_ λo' ad ai=>?_
   ·simp only[I,Al2,Al3];omega
   ·simp only[I,Al2,Al3,maxLen];omega
   have af:cLL (ops.map (·.sels)++done.map (·.sels))++[[AV.sl .no 7 (cSs U)]]=cLL (ops.map (·.sels)++(done.map (·.sels)++[U])):=by simp[cLL]
   have Y:=Z.trans ai;simp only[I,Al2,Al3]at Y;simp(disch:=omega) only[wrap64,af,go_sem];exact goJ (ag (o',ops.map (·.sels)++(done.map (·.sels)++[U])) ad ⟨by simp,by simpa[Nat.add_assoc]using Y⟩) (by simp(disch:=omega) only[wrap64,go_sem])
 ·rintro done x rest ⟨ab,a⟩ H1 ae ah W _ ⟨J,A⟩ ag;have X:=YJ ah;simp only at J;subst J;have I:=zl3 (done.map (·.sels));simp only[List.length_map]at I;replace A:OwnS H .nil H1 ab done.length 1:=A;obtain⟨k,nm,vs,ds,U⟩:=x;rw[zam]at X;simp(disch:=omega) only[aj,W,X,go_sem];refine zc λap an=>?_;have Z:=A.upd (x:=.cells [.int .i64 k,.str nm,.sl .no 10 (cWs vs),.sl .no 2 (cDs ds),.sl .no 7 (cSs U)]) an;simp(disch:=omega) only[go_sem];refine zj (by rw[I];exact Z.own) ?_ ?_ λo' ad ai=>?_
  ·simp only[I,Al2,Al3];omega
  ·simp only[I,Al2,Al3,maxLen];omega
  have af:cLL (done.map (·.sels))++[[AV.sl .no 7 (cSs U)]]=cLL (done.map (·.sels)++[U]):=by simp[cLL]
  have Y:=Z.trans ai;simp only[I,Al2,Al3]at Y;simp(disch:=omega) only[wrap64,af,go_sem];exact goJ (ag (o',done.map (·.sels)++[U]) ad ⟨by simp,by simpa using Y⟩) (by simp(disch:=omega) only[wrap64,go_sem])
def zs2(l:List (List UInt8))(ac:l.length<=Lim):ze Tryz.prog 52 [.sl .no 1 (cT l)] (.bool (!za5 l)):=by
 refine ze.go ir52.1 ir52.2 (Al4 _) λKP Q U=>?_;have I:=zG l;simp only[Lim]at ac;simp(disch:=omega) only[ir52,I,go_sem];refine zf l 7 (λ_:Unit=>[]) (λdone rest _ H=>zhE done rest=za5 l) () (by simp(disch:=omega) only[go_sem]) rfl ?_ ?_
 ·rintro _ H Y A J;simp(disch:=omega) only[I,J,go_sem];exact U _ _ _ _ nofun rfl (by simp[<-A,zhE])
 ·rintro done x rest _ H Y W J _ A Z;have ab:=YP W;have ae:(cT l).take done.length=cT done:=by rw[W];simp[cT]
  have ad:(done.length:Int)<=l.length:=by omega
  have aa:done.length<=Lim:=by simp only[Lim];omega
  simp only[zhE]at A;simp(disch:=omega) only[I,J,ab,ae,ad,go_sem];refine za (yD done x aa) ?_;cases X:yo x done with
  | true =>rw[X]at A;simp(disch:=omega) only[go_sem];exact U _ _ _ _ nofun rfl (by simp[<-A])
  | false =>rw[X]at A;simp(disch:=omega) only[go_sem];exact goJ (Z () _ (by simpa using A)) (by simp(disch:=omega) only[wrap64,go_sem])
def zBW(d:DocD)(H:zb)(ah:zw d<=Lim):YG Tryz.prog 55 [.agg (zU d)] H .nil 1 (cT (d.ops.map (·.nm))):=by
 obtain⟨ops,frags⟩:=d;have ao:bOs ops+bFs frags<=1099511627776:=by simpa only[Lim,zw]using ah
 have X:=Z9 ops;have ap:=Zu ops;have aq:=yC frags;rw[show zU ⟨ops,frags⟩=[.sl .no 5 (cOs ops),.sl .no 4 (cFs frags)] from rfl];simp only
 refine zd.goO ir55.1 ir55.2 (Al4 _) λKP Q ag an=>?_;simp(disch:=omega) only[ir55,X,go_sem];refine zf ops 9 (λx:Own×List (List UInt8)=>[(3,.sl x.1 1 (cT x.2))]) (λdone rest x H'=>x.2=(done.map (·.nm))/\x.2.length<=done.length/\OwnS H .nil H' x.1 x.2.length 1) (.nil,[]) (by simp(disch:=omega) only[cT,List.map,go_sem]) ⟨rfl,Al4 _,OwnS.refl (o:=.nil) (n:=0) rfl⟩ ?_ ?_
 ·rintro⟨U,a⟩ H1 ad ⟨A,Z,I⟩ W;simp only at A;subst A;simp(disch:=omega) only[X,W,go_sem];refine ag _ _ H1 H1 [.sl U 1 (cT (ops.map (·.nm)))] nofun (by simp(disch:=omega) only[ir55,zo,z8,go_sem]) (Low.refl _) ⟨U,rfl,by rw[zG];exact I⟩
 ·rintro done x rest ⟨U,a⟩ H1 ad aj W _ ⟨A,Z,I⟩ af;have Y:=YJ aj;simp only at A Z;replace I:OwnS H .nil H1 U a.length 1:=I;have J:=zG a;obtain⟨k,nm,vs,ds,al⟩:=x;rw[zam]at Y;simp(disch:=omega) only[X,W,Y,go_sem];refine zc λam ai=>?_;have ab:=I.upd (x:=.cells [.int .i64 k,.str nm,.sl .no 10 (cWs vs),.sl .no 2 (cDs ds),.sl .no 7 (cSs al)]) ai;simp(disch:=omega) only[go_sem];refine zj (by rw[J];exact ab.own) ?_ ?_ λo' ac ak=>?_
  ·simp only[J,Al2,Al3];omega
  ·simp only[J,Al2,Al3,maxLen];omega
  have ae:cT a++[[AV.str nm]]=cT (a++[nm]):=by simp[cT]
  have aa:=ab.trans ak;simp only[J,Al2,Al3]at aa;simp(disch:=omega) only[wrap64,ae,go_sem];exact goJ (af (o',a++[nm]) ac ⟨by rw[A];simp,by simp only[Al5,Al2,Al3];omega,by simpa using aa⟩) (by simp(disch:=omega) only[wrap64,go_sem])
def zyx(d:DocD)(H:zb)(ah:zw d<=Lim):YG Tryz.prog 58 [.agg (zU d)] H .nil 1 (cT (d.frags.map (·.nm))):=by
 obtain⟨ops,frags⟩:=d;have ao:bOs ops+bFs frags<=1099511627776:=by simpa only[Lim,zw]using ah
 have X:=YO frags;have ap:=Zu ops;have aq:=yC frags;rw[show zU ⟨ops,frags⟩=[.sl .no 5 (cOs ops),.sl .no 4 (cFs frags)] from rfl];simp only
 refine zd.goO ir58.1 ir58.2 (Al4 _) λKP Q ag an=>?_;simp(disch:=omega) only[ir58,X,go_sem];refine zf frags 9 (λx:Own×List (List UInt8)=>[(3,.sl x.1 1 (cT x.2))]) (λdone rest x H'=>x.2=(done.map (·.nm))/\x.2.length<=done.length/\OwnS H .nil H' x.1 x.2.length 1) (.nil,[]) (by simp(disch:=omega) only[cT,List.map,go_sem]) ⟨rfl,Al4 _,OwnS.refl (o:=.nil) (n:=0) rfl⟩ ?_ ?_
 ·rintro⟨U,a⟩ H1 ad ⟨A,Z,I⟩ W;simp only at A;subst A;simp(disch:=omega) only[X,W,go_sem];refine ag _ _ H1 H1 [.sl U 1 (cT (frags.map (·.nm)))] nofun (by simp(disch:=omega) only[ir58,zo,z8,go_sem]) (Low.refl _) ⟨U,rfl,by rw[zG];exact I⟩
 ·rintro done x rest ⟨U,a⟩ H1 ad aj W _ ⟨A,Z,I⟩ af;have Y:=zad aj;simp only at A Z;replace I:OwnS H .nil H1 U a.length 1:=I;have J:=zG a;obtain⟨nm,on,ds,al⟩:=x;rw[Yp]at Y;simp(disch:=omega) only[X,W,Y,go_sem];refine zc λam ai=>?_;have ab:=I.upd (x:=.cells [.str nm,.str on,.sl .no 2 (cDs ds),.sl .no 7 (cSs al)]) ai;simp(disch:=omega) only[go_sem];refine zj (by rw[J];exact ab.own) ?_ ?_ λo' ac ak=>?_
  ·simp only[J,Al2,Al3];omega
  ·simp only[J,Al2,Al3,maxLen];omega
  have ae:cT a++[[AV.str nm]]=cT (a++[nm]):=by simp[cT]
  have aa:=ab.trans ak;simp only[J,Al2,Al3]at aa;simp(disch:=omega) only[wrap64,ae,go_sem];exact goJ (af (o',a++[nm]) ac ⟨by rw[A];simp,by simp only[Al5,Al2,Al3];omega,by simpa using aa⟩) (by simp(disch:=omega) only[wrap64,go_sem])
def zyr(d:DocD)(H:zb)(ai:zw d<=Lim):YG Tryz.prog 53 [.agg (zU d)] H .nil 1 (cT ((d.ops.map (·.nm)).filter (λn=>!decide (n=[])))):=by
 obtain⟨ops,frags⟩:=d;have ap:bOs ops+bFs frags<=1099511627776:=by simpa only[Lim,zw]using ai
 have Z:=Z9 ops;have aq:=Zu ops;have ar:=yC frags;rw[show zU ⟨ops,frags⟩=[.sl .no 5 (cOs ops),.sl .no 4 (cFs frags)] from rfl];simp only
 refine zd.goO ir53.1 ir53.2 (Al4 _) λKP Q ah ao=>?_;simp(disch:=omega) only[ir53,Z,go_sem];refine zf ops 9 (λx:Own×List (List UInt8)=>[(3,.sl x.1 1 (cT x.2))]) (λdone rest x H'=>x.2=((done.map (·.nm)).filter (λn=>!decide (n=[])))/\x.2.length<=done.length/\OwnS H .nil H' x.1 x.2.length 1) (.nil,[]) (by simp(disch:=omega) only[cT,List.map,go_sem]) ⟨rfl,Al4 _,OwnS.refl (o:=.nil) (n:=0) rfl⟩ ?_ ?_
 ·rintro⟨J,a⟩ H1 af ⟨A,ac,I⟩ W;simp only at A;subst A;simp(disch:=omega) only[Z,W,go_sem];refine ah _ _ H1 H1 [.sl J 1 (cT ((ops.map (·.nm)).filter (λn=>!decide (n=[]))))] nofun (by simp(disch:=omega) only[ir53,zo,z8,go_sem]) (Low.refl _) ⟨J,rfl,by rw[zG];exact I⟩
 ·rintro done x rest ⟨J,a⟩ H1 af ak W _ ⟨A,ac,I⟩ aa;have ab:=YJ ak;simp only at A ac;replace I:OwnS H .nil H1 J a.length 1:=I;have U:=zG a;obtain⟨k,nm,vs,ds,am⟩:=x;rw[zam]at ab;simp(disch:=omega) only[Z,W,ab,go_sem];refine zc λan aj=>?_;have X:=I.upd (x:=.cells [.int .i64 k,.str nm,.sl .no 10 (cWs vs),.sl .no 2 (cDs ds),.sl .no 7 (cSs am)]) aj;by_cases Y:nm=[]
  ·subst Y;simp(disch:=omega) only[go_sem];exact goJ (aa (J,a) _ ⟨by rw[A];simp,by simp only[Al5,Al2,Al3];omega,X⟩) (by simp(disch:=omega) only[wrap64,go_sem])
  simp(disch:=omega) only[Y,go_sem];refine zj (by rw[U];exact X.own) ?_ ?_ λo' ae al=>?_
  ·simp only[U,Al2,Al3];omega
  ·simp only[U,Al2,Al3,maxLen];omega
  have ag:cT a++[[AV.str nm]]=cT (a++[nm]):=by simp[cT]
  have ad:=X.trans al;simp only[U,Al2,Al3]at ad;simp(disch:=omega) only[wrap64,ag,go_sem];exact goJ (aa (o',a++[nm]) ae ⟨by rw[A];simp[Y],by simp only[Al5,Al2,Al3];omega,by simpa using ad⟩) (by simp(disch:=omega) only[wrap64,go_sem])
end Go.Proofs.YtnemcnegfkjpeaaGreatDoor
