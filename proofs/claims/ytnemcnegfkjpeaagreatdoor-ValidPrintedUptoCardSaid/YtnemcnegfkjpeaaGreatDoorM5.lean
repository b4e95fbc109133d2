import Derived.JoinedOf
import Derived.Lib.ItoaMem
import Derived.Lib.ItoaLen
import Derived.Test.YtnemcnegfkjpeaaGreatDoorM4
set_option maxRecDepth 100000
set_option linter.all false
namespace Go.Proofs.YtnemcnegfkjpeaaGreatDoor
open Go.Ab
mutual
inductive Val where
 | mk (k n:Int) (s:List UInt8) (l:List Val) (m:List Mem)
inductive Mem where
 | mk (name:List UInt8) (v:Val)
end
mutual
def cV:Val->List AV| .mk k n s l m=>[.int .i64 k,.int .i64 n,.str s,.sl .no 5 (cVs l),.sl .no 6 (cMs m)]
def cVs:List Val->List (List AV)
 | []=>[]
 | v::r=>cV v::cVs r
def cM:Mem->List AV| .mk s v=>.str s::cV v
def cMs:List Mem->List (List AV)
 | []=>[]
 | x::r=>cM x::cMs r
end
def zeY:∀l,cVs l=l.map cV
 | []=>rfl
 | v::r=>by rw[cVs,zeY r];rfl
def zaE:∀l,cMs l=l.map cM
 | []=>rfl
 | v::r=>by rw[cMs,zaE r];rfl
def Y6(l:List Val):(cVs l).length=l.length:=by rw[zeY];simp
def yU(l:List Mem):(cMs l).length=l.length:=by rw[zaE];simp
def zbf{l a:List Val}{x:Val}{b:List Val}(h:l=a++x::b):(cVs l).getD a.length []=cV x:=by rw[zeY,yz h]
def Zz{l a:List Mem}{x:Mem}{b:List Mem}(h:l=a++x::b):(cMs l).getD a.length []=cM x:=by rw[zaE,yz h]
def yj(k n:Int)(s:List UInt8)(l:List Val)(m:List Mem):cV (.mk k n s l m)=[.int .i64 k,.int .i64 n,.str s,.sl .no 5 (cVs l),.sl .no 6 (cMs m)]:=rfl
def zu(s:List UInt8)(v:Val):cM (.mk s v)=.str s::cV v:=rfl
def Y2(v:Val):(cV v).map AV.strip1=cV v:=by cases v;rfl
def zgo(v:Mem):(cM v).map AV.strip1=cM v:=by cases v with|mk s v=>cases v;rfl
def zq4(l:List Val):(cVs l).map (·.map AV.strip1)=cVs l:=by rw[zeY,List.map_map];exact List.map_congr_left λv _=>Y2 v
def zkR(l:List Mem):(cMs l).map (·.map AV.strip1)=cMs l:=by rw[zaE,List.map_map];exact List.map_congr_left λv _=>zgo v
mutual
def Val.ind{P:Val->Prop}(h:∀k n s l m,(∀v∈l,P v)->(∀s v,Mem.mk s v∈m->P v)->P (.mk k n s l m)):∀v,P v| .mk k n s l m=>h k n s l m (Val.indL h l) (λs v A=>Val.indM h m s v A)
def Val.indL{P:Val->Prop}(h:∀k n s l m,(∀v∈l,P v)->(∀s v,Mem.mk s v∈m->P v)->P (.mk k n s l m)):∀l:List Val,∀v∈l,P v
 | [],_,hv=>by cases hv
 | x::r,v,hv=>(List.mem_cons.1 hv).elim (λe=>e▸Val.ind h x) (Val.indL h r v)
def Val.ind1{P:Val->Prop}(h:∀k n s l m,(∀v∈l,P v)->(∀s v,Mem.mk s v∈m->P v)->P (.mk k n s l m)):∀m:Mem,∀s v,m=.mk s v->P v| .mk s v,s',v',e=>by cases e;exact Val.ind h v
def Val.indM{P:Val->Prop}(h:∀k n s l m,(∀v∈l,P v)->(∀s v,Mem.mk s v∈m->P v)->P (.mk k n s l m)):∀l:List Mem,∀s v,Mem.mk s v∈l->P v
 | [],_,_,hv=>by cases hv
 | x::r,s,v,hv=>(List.mem_cons.1 hv).elim (λe=>Val.ind1 h x s v e.symm) (Val.indM h r s v)
end
def zp(v:Val):(cV v).length=5:=by cases v;rfl
def zn(x:Mem):(cM x).length=6:=by cases x with|mk s v=>cases v;rfl
def zk(v:Val):(cV v).take 5=cV v:=by cases v;rfl
def zl(x:Mem):(cM x).take 6=cM x:=by cases x with|mk s v=>cases v;rfl
def zg(a b c d e:AV)(v:Val):splice [a,b,c,d,e] 0 (cV v)=cV v:=by cases v;rfl
def zh(a b c d e f:AV)(x:Mem):splice [a,b,c,d,e,f] 0 (cM x)=cM x:=by cases x with|mk s v=>cases v;rfl
mutual
def bV:Val->Nat| .mk _ _ s l m=>1+s.length+bVs l+bMs m
def bVs:List Val->Nat
 | []=>0
 | v::r=>bV v+bVs r
def bM:Mem->Nat| .mk s v=>s.length+bV v
def bMs:List Mem->Nat
 | []=>0
 | x::r=>bM x+bMs r
end
def zc8(v:Val):1<=bV v:=by cases v;simp only[bV];omega
def zyW(v:Mem):1<=bM v:=by cases v with|mk s v=>have:=zc8 v;simp only[bM];omega
def zbl:∀l,l.length<=bVs l
 | []=>by simp
 | v::r=>by have:=zbl r;have:=zc8 v;simp only[bVs,Al2];omega
def Zg:∀l,l.length<=bMs l
 | []=>by simp
 | v::r=>by have:=Zg r;have:=zyW v;simp only[bMs,Al2];omega
def zh5(a:List Val)(x:Val)(b:List Val):bVs (a++x::b)=bVs a+bV x+bVs b:=by
 induction a with
 | nil=>simp[bVs]
 | cons y a A=>simp only[Al6,bVs,A];omega
def zdt(a:List Mem)(x:Mem)(b:List Mem):bMs (a++x::b)=bMs a+bM x+bMs b:=by
 induction a with
 | nil=>simp[bMs]
 | cons y a A=>simp only[Al6,bMs,A];omega
abbrev Lim:Nat:=1099511627776
def zmk:∀v,bV v<=Lim->ze Tryz.prog 27 [.agg (cV v)] (.int .i64 (bV v)):=by
 refine Val.ind λk n s l m ae af ac=>?_;refine ze.go ir27.1 ir27.2 (Al4 _) λKP Q ab=>?_;have Z:=Y6 l;have aa:=yU m;have ag:=zbl l;have ah:=Zg m;have ad:1+s.length+bVs l+bMs m<=Lim:=ac;simp only[Lim]at ad;simp(disch:=omega) only[ir27,yj,wrap64,go_sem];refine zf l 4 (λn:Int=>[(3,.int .i64 n)]) (λdone rest n H=>n+bVs rest=1+s.length+bVs l/\H=zb.emp) (1+s.length) (by simp(disch:=omega) only[go_sem]) ⟨by omega,rfl⟩ ?_ ?_
 ·rintro n H X ⟨J,rfl⟩ A;simp only[bVs]at J;simp(disch:=omega) only[Z,A,go_sem];refine zf m 5 (λn:Int=>[(3,.int .i64 n)]) (λdone rest n H=>n+bMs rest=1+s.length+bVs l+bMs m/\H=zb.emp) n (by simp(disch:=omega) only[go_sem]) ⟨by omega,rfl⟩ ?_ ?_
  ·rintro n H X ⟨J,rfl⟩ A;simp only[bMs]at J;simp(disch:=omega) only[aa,A,go_sem];have:n=((bV (.mk k n s l m):Nat):Int):=by simp only[bV];omega
   exact ab _ _ _ _ nofun rfl (by simp[bV,this])
  ·rintro done x rest n H X I A _ ⟨J,rfl⟩ Y;have W:=Zz I;have U:=zdt done x rest;rw[<-I]at U;cases x with
   | mk t v =>
   simp only[bMs,bM]at J U;simp(disch:=omega) only[zp,zk,zg,zn,zl,zh,zu,aa,A,W,wrap64,go_sem];refine za (af t v (by rw[I];simp) (by simp only[Lim];omega)) ?_;simp(disch:=omega) only[Z,aa,A,W,zu,wrap64,go_sem];refine goJ (Y (n+t.length+bV v) zb.emp ⟨by omega,rfl⟩) (by simp(disch:=omega) only[go_sem])
 ·rintro done x rest n H X I A _ ⟨J,rfl⟩ Y;have W:=zbf I;have U:=zh5 done x rest;rw[<-I]at U;simp only[bVs]at J;simp(disch:=omega) only[zp,zk,zg,zn,zl,zh,zu,Z,A,W,go_sem];refine za (ae x (by rw[I];simp) (by simp only[Lim];omega)) ?_;simp(disch:=omega) only[wrap64,go_sem];refine goJ (Y (n+bV x) zb.emp ⟨by omega,rfl⟩) (by simp(disch:=omega) only[go_sem])
noncomputable def eqd{α:Type}(a b:α):Bool:=@decide (a=b) (Classical.propDecidable _)
def Y0{α:Type}{a b:α}(h:a=b):eqd a b=true:=by simp[eqd,h]
def yO{α:Type}{a b:α}(h:a≠b):eqd a b=false:=by simp[eqd,h]
def cT(l:List (List UInt8)):List (List AV):=l.map λk=>[.str k]
def zG(l:List (List UInt8)):(cT l).length=l.length:=by simp[cT]
def YP{l a:List (List UInt8)}{x:List UInt8}{b:List (List UInt8)}(h:l=a++x::b):(cT l).getD a.length []=[.str x]:=yz h
def zpl{α:Type}{a b done rest:List α}{x:α}(h:a=done++x::rest)(I:a.length=b.length)(J:b.take done.length=done):∃y r,b=done++y::r:=by
 have A:done.length<b.length:=by rw[<-I,h];simp
 refine⟨b[done.length],b.drop (done.length+1),?_⟩
 conv=>lhs;rw[<-List.take_append_drop done.length b,J,List.drop_eq_getElem_cons A]
def zmy{α:Type}{b done r:List α}{y:α}(h:b=done++y::r):b.take (done++[y]).length=done++[y]:=by
 subst h;have e:done++y::r=(done++[y])++r:=by simp
 rw[e,List.take_left'];rfl
def zpq{α:Type}{a b:List α}(I:a.length=b.length)(A:b.take a.length=a):a=b:=by rw[I,List.take_length]at A;exact A.symm
def ztj{α:Type}{a b done rest r:List α}{x y:α}(h:a=done++x::rest)(h':b=done++y::r)(A:x≠y):a≠b:=λe=>by rw[h,h']at e;exact A (List.cons.inj (List.append_cancel_left e)).1
mutual
def y5:Val->Int| .mk k _ _ l m=>if k=6 then Z1 l 0+1 else if k=7 then ZZ m 0+1 else 0
def Z1:List Val->Int->Int
 | [],n=>n
 | v::r,n=>Z1 r (mm2 true n (y5 v))
def Yz:Mem->Int| .mk _ v=>y5 v
def ZZ:List Mem->Int->Int
 | [],n=>n
 | x::r,n=>ZZ r (mm2 true n (Yz x))
end
def zk4(a b:Int):a<=mm2 true a b:=by simp only[mm2,if_true];split<;>omega
mutual
def zg2:∀v,0<=y5 v/\y5 v<=bV v
 | .mk k n s l m=>by
  have A:=zfx l 0;have I:=zf3 m 0;simp only[y5,bV];split
  ·omega
  ·split<;>omega
def zfx:∀l (n:Int),n<=Z1 l n/\(Z1 l n<=n∨Z1 l n<=bVs l)
 | [],n=>by simp[Z1,bVs]
 | v::r,n=>by
  have A:=zg2 v;have I:=zfx r (mm2 true n (y5 v));have J:=zk4 n (y5 v);have U:mm2 true n (y5 v)=n∨mm2 true n (y5 v)=y5 v:=by simp only[mm2,if_true];split<;>simp
  simp only[Z1,bVs];omega
def zq0:∀x,0<=Yz x/\Yz x<=bM x| .mk s v=>by have:=zg2 v;simp only[Yz,bM];omega
def zf3:∀l (n:Int),n<=ZZ l n/\(ZZ l n<=n∨ZZ l n<=bMs l)
 | [],n=>by simp[ZZ,bMs]
 | v::r,n=>by
  have A:=zq0 v;have I:=zf3 r (mm2 true n (Yz v));have J:=zk4 n (Yz v);have U:mm2 true n (Yz v)=n∨mm2 true n (Yz v)=Yz v:=by simp only[mm2,if_true];split<;>simp
  simp only[ZZ,bMs];omega
end
def zlj:∀v,bV v<=Lim->ze Tryz.prog 258 [.agg (cV v)] (.int .i64 (y5 v)):=by
 refine Val.ind λk n s l m ag ah Z=>?_;refine ze.go ir258.1 ir258.2 (Al4 _) λKP Q Y=>?_;have ab:=Y6 l;have ac:=yU m;have ak:=zbl l;have al:=Zg m;have af:1+s.length+bVs l+bMs m<=Lim:=Z;simp only[Lim]at af;have ai:=zfx l 0;have aj:=zf3 m 0;by_cases ad:k=6
 ·subst ad;simp(disch:=omega) only[ir258,yj,ab,go_sem];refine zf l 15 (λn:Int=>[(3,.int .i64 n)]) (λdone rest n H=>Z1 rest n=Z1 l 0) 0 (by simp(disch:=omega) only[go_sem]) rfl ?_ ?_
  ·rintro n H W A J;simp only[Z1]at A;simp(disch:=omega) only[ab,J,wrap64,A,go_sem];exact Y _ _ _ _ nofun rfl (by simp[y5])
  ·rintro done x rest n H W I J _ A X;have aa:=zbf I;have U:=zh5 done x rest;rw[<-I]at U;simp only[Z1]at A;simp(disch:=omega) only[zp,zk,zg,zn,zl,zh,zu,ab,J,aa,go_sem];refine zc λb Z=>?_;simp(disch:=omega) only[zp,zk,zg,zn,zl,zh,zu,go_sem];refine za (ag x (by rw[I];simp) (by simp only[Lim];omega)) ?_;simp(disch:=omega) only[wrap64,go_sem];exact goJ (X _ _ A) (by simp(disch:=omega) only[go_sem])
 by_cases ae:k=7
 ·subst ae;simp(disch:=omega) only[ir258,yj,ac,go_sem];refine zf m 29 (λn:Int=>[(3,.int .i64 n)]) (λdone rest n H=>ZZ rest n=ZZ m 0) 0 (by simp(disch:=omega) only[go_sem]) rfl ?_ ?_
  ·rintro n H W A J;simp only[ZZ]at A;simp(disch:=omega) only[ac,J,wrap64,A,go_sem];exact Y _ _ _ _ nofun rfl (by simp[y5])
  ·rintro done x rest n H W I J _ A X;have aa:=Zz I;have U:=zdt done x rest;rw[<-I]at U;cases x with
   | mk t v =>
   simp only[ZZ,Yz,bM]at A U;simp(disch:=omega) only[zp,zk,zg,zn,zl,zh,zu,ac,J,aa,go_sem];refine zc λb Z=>?_;simp(disch:=omega) only[zp,zk,zg,zn,zl,zh,zu,go_sem];refine za (ah t v (by rw[I];simp) (by simp only[Lim];omega)) ?_;simp(disch:=omega) only[wrap64,go_sem];exact goJ (X _ _ A) (by simp(disch:=omega) only[go_sem])
 ·simp(disch:=omega) only[ir258,yj,ad,ae,go_sem];exact Y _ _ _ _ nofun rfl (by simp[y5,ad,ae])
def zV:Val:=.mk 0 0 [] [] []
def zwR:cV zV=[.int .i64 0,.int .i64 0,.str [],.sl .no 5 [],.sl .no 6 []]:=rfl
def zAm(n:Int):ze Tryz.prog 282 [.int .i64 n] (.agg (cV (.mk 2 n [] [] []))):=by refine ze.go ir282.1 ir282.2 (Al4 _) λKP Q A=>?_;simp(disch:=omega) only[ir282,go_sem];refine zc λb I=>?_;simp(disch:=omega) only[go_sem];exact A _ _ _ [.agg [.int .i64 2,.int .i64 n,.str [],.sl .nil 5 [],.sl .nil 6 []]] nofun (by simp(disch:=omega) only[ir282,zo,z8,go_sem]) rfl
def zAl(t:List UInt8):ze Tryz.prog 283 [.str t] (.agg (cV (.mk 4 0 t [] []))):=by refine ze.go ir283.1 ir283.2 (Al4 _) λKP Q A=>?_;simp(disch:=omega) only[ir283,go_sem];refine zc λb I=>?_;simp(disch:=omega) only[go_sem];exact A _ _ _ [.agg [.int .i64 4,.int .i64 0,.str t,.sl .nil 5 [],.sl .nil 6 []]] nofun (by simp(disch:=omega) only[ir283,zo,z8,go_sem]) rfl
def zcA(t:List UInt8):List Mem->Val×Bool
 | []=>(zV,false)
 | .mk s v::r=>if s=t then (v,true)else zcA t r
def zuX(t:List UInt8)(m:List Mem)(Z:m.length<=Lim):ze Tryz.prog 151 [.str t,.sl .no 6 (cMs m)] (.tup [.agg (cV (zcA t m).1),.bool (zcA t m).2]):=by
 refine ze.go ir151.1 ir151.2 (Al4 _) λKP Q Y=>?_;have W:=yU m;simp only[Lim]at Z;simp(disch:=omega) only[ir151,go_sem];refine zc λb Z=>?_;simp(disch:=omega) only[W,go_sem];refine zf m 10 (λ_:Unit=>[]) (λdone rest n H=>zcA t rest=zcA t m/\H b=some (.cells [.int .i64 0,.int .i64 0,.str [],.sl .nil 5 [],.sl .nil 6 []])) () (by simp(disch:=omega) only[go_sem]) ⟨rfl,by simp[zb.upd]⟩ ?_ ?_
 ·rintro n H aa ⟨A,I⟩ U;simp(disch:=omega) only[W,U,I,go_sem];refine Y _ _ _ [.agg [.int .i64 0,.int .i64 0,.str [],.sl .nil 5 [],.sl .nil 6 []],.bool false] nofun (by simp(disch:=omega) only[ir151,zo,z8,go_sem]) ?_;rw[<-A];rfl
 ·rintro done x rest n H aa ad U _ ⟨A,I⟩ ab;have ae:=Zz ad;cases x with
  | mk s v =>
  simp only[zcA]at A;simp(disch:=omega) only[zp,zk,zg,zn,zl,zh,zu,W,U,ae,go_sem];refine zc λaf ac=>?_;have X:=zfw ac I;by_cases J:s=t
  ·simp(disch:=omega) only[zp,zk,zg,zn,zl,zh,zu,J,I,Ne.symm X,X,go_sem];simp only[J,if_true]at A;refine Y _ _ _ [.agg (cV v),.bool true] nofun (by simp(disch:=omega) only[zp,zk,zg,zn,zl,zh,zu,ir151,zo,z8,go_sem]) ?_;rw[<-A];simp[zP,AV.strip,AV.strip1,Y2]
  ·simp(disch:=omega) only[zp,zk,zg,zn,zl,zh,zu,J,go_sem];simp only[J,if_false]at A;exact goJ (ab () _ ⟨A,by simp[zb.upd,Ne.symm X,I]⟩) (by simp(disch:=omega) only[wrap64,go_sem])
structure Tok where
 k:Int
 s:List UInt8
def cK(t:Tok):List AV:=[.int .i64 t.k,.str t.s]
def cKs(l:List Tok):List (List AV):=l.map cK
def zn2(a b:List Tok):cKs (a++b)=cKs a++cKs b:=by simp[cKs]
def yP(l:List Tok):(cKs l).length=l.length:=by simp[cKs]
def zbs(l:List Tok):(cKs l).map (·.map AV.strip1)=cKs l:=by simp[cKs,cK,AV.strip1]
def zvn{l a:List Tok}{x:Tok}{b:List Tok}(h:l=a++x::b):(cKs l).getD a.length []=[.int .i64 x.k,.str x.s]:=yz h
def zuN(f:FuncId)(al:Program.callable Tryz.prog f=true)(a b:List Val)(ai:a.length<=Lim)(ak:∀x∈a,∀y,ze Tryz.prog f [.agg (cV x),.agg (cV y)] (.bool (eqd x y))):
  ze Tryz.prog 254 [.sl .no 5 (cVs a),.sl .no 5 (cVs b),.clo f [] []] (.bool (eqd a b)):=by
 refine ze.go ir254.1 ir254.2 (Al4 _) λKP Q Y=>?_;have A:=Y6 a;have I:=Y6 b;simp only[Lim]at ai;by_cases aa:a.length=b.length
 case neg =>
  have ab:¬ ((a.length:Int)=b.length):=by omega
  have W:a≠b:=λe=>aa (by rw[e]);simp(disch:=omega) only[ir254,A,I,ab,go_sem];exact Y _ _ _ _ nofun rfl (by simp[yO W])
 have ab:((a.length:Int)=b.length)=True:=eq_true (by omega);simp(disch:=omega) only[ir254,A,I,ab,go_sem];refine zf a 17 (λ_:Unit=>[]) (λdone rest n H=>b.take done.length=done) () (by simp(disch:=omega) only[go_sem]) rfl ?_ ?_
 ·rintro n H ag ac U;simp(disch:=omega) only[A,U,go_sem];exact Y _ _ _ _ nofun rfl (by simp[Y0 (zpq aa ac)])
 ·rintro done x rest n H ag J U _ ac ah;obtain⟨y,r,Z⟩:=zpl J aa ac;have ad:=zbf J;have ae:=zbf Z;have af:(done.length:Int)<b.length:=by omega
  simp(disch:=omega) only[zp,zk,zg,zn,zl,zh,zu,A,I,U,af,ad,ae,go_sem];refine zc λam ao=>?_;simp(disch:=omega) only[zp,zk,zg,zn,zl,zh,zu,A,I,U,af,ad,ae,go_sem];refine zc λan aj=>?_;have W:=yS aj;simp(disch:=omega) only[zp,zk,zg,zn,zl,zh,zu,Ne.symm W,W,go_sem];refine⟨al,za (ak x (by rw[J];simp) y) ?_⟩;by_cases X:x=y
  ·simp(disch:=omega) only[Y0 X,go_sem];exact goJ (ah () _ (by rw[X];exact zmy Z)) (by simp(disch:=omega) only[wrap64,go_sem])
  ·simp(disch:=omega) only[yO X,go_sem];exact Y _ _ _ _ nofun rfl (by simp[yO (ztj J Z X)])
def zww(f:FuncId)(al:Program.callable Tryz.prog f=true)(a b:List Mem)(ai:a.length<=Lim)(ak:∀x∈a,∀y,ze Tryz.prog f [.agg (cM x),.agg (cM y)] (.bool (eqd x y))):
  ze Tryz.prog 255 [.sl .no 6 (cMs a),.sl .no 6 (cMs b),.clo f [] []] (.bool (eqd a b)):=by
 refine ze.go ir255.1 ir255.2 (Al4 _) λKP Q Y=>?_;have A:=yU a;have I:=yU b;simp only[Lim]at ai;by_cases aa:a.length=b.length
 case neg =>
  have ab:¬ ((a.length:Int)=b.length):=by omega
  have W:a≠b:=λe=>aa (by rw[e]);simp(disch:=omega) only[ir255,A,I,ab,go_sem];exact Y _ _ _ _ nofun rfl (by simp[yO W])
 have ab:((a.length:Int)=b.length)=True:=eq_true (by omega);simp(disch:=omega) only[ir255,A,I,ab,go_sem];refine zf a 17 (λ_:Unit=>[]) (λdone rest n H=>b.take done.length=done) () (by simp(disch:=omega) only[go_sem]) rfl ?_ ?_
 ·rintro n H ag ac U;simp(disch:=omega) only[A,U,go_sem];exact Y _ _ _ _ nofun rfl (by simp[Y0 (zpq aa ac)])
 ·rintro done x rest n H ag J U _ ac ah;obtain⟨y,r,Z⟩:=zpl J aa ac;have ad:=Zz J;have ae:=Zz Z;have af:(done.length:Int)<b.length:=by omega
  simp(disch:=omega) only[zp,zk,zg,zn,zl,zh,zu,A,I,U,af,ad,ae,go_sem];refine zc λam ao=>?_;simp(disch:=omega) only[zp,zk,zg,zn,zl,zh,zu,A,I,U,af,ad,ae,go_sem];refine zc λan aj=>?_;have W:=yS aj;simp(disch:=omega) only[zp,zk,zg,zn,zl,zh,zu,Ne.symm W,W,go_sem];refine⟨al,za (ak x (by rw[J];simp) y) ?_⟩;by_cases X:x=y
  ·simp(disch:=omega) only[Y0 X,go_sem];exact goJ (ah () _ (by rw[X];exact zmy Z)) (by simp(disch:=omega) only[wrap64,go_sem])
  ·simp(disch:=omega) only[yO X,go_sem];exact Y _ _ _ _ nofun rfl (by simp[yO (ztj J Z X)])
def zrU(s t:List UInt8)(v u:Val)(J:ze Tryz.prog 169 [.agg (cV v),.agg (cV u)] (.bool (eqd v u))):ze Tryz.prog 256 [.agg (cM (.mk s v)),.agg (cM (.mk t u))] (.bool (eqd (Mem.mk s v) (Mem.mk t u))):=by
 refine ze.go ir256.1 ir256.2 (Al4 _) λKP Q I=>?_;by_cases A:s=t
 ·simp(disch:=omega) only[zp,zk,zg,zn,zl,zh,zu,ir256,A,go_sem];refine za J ?_;simp(disch:=omega) only[go_sem];have:eqd (Mem.mk t v) (Mem.mk t u)=eqd v u:=by
   by_cases h:v=u
   ·rw[Y0 h,Y0 (by rw[h])]
   ·rw[yO h,yO (by simp[h])]
  exact I _ _ _ _ nofun rfl (by simp[this,A])
 ·simp(disch:=omega) only[zp,zk,zg,zn,zl,zh,zu,ir256,A,go_sem];have:eqd (Mem.mk s v) (Mem.mk t u)=false:=yO (by simp[A]);exact I _ _ _ _ nofun rfl (by simp[this])
def zw6:∀v,bV v<=Lim->∀u,ze Tryz.prog 169 [.agg (cV v),.agg (cV u)] (.bool (eqd v u)):=by
 refine Val.ind λk n s l m ah ai ag u=>?_;obtain⟨W,X,Y,J,A⟩:=u;have al:1+s.length+bVs l+bMs m<=Lim:=ag;have am:=zbl l;have an:=Zg m;have aj:∀x∈l,∀y,ze Tryz.prog 169 [.agg (cV x),.agg (cV y)] (.bool (eqd x y)):=λx ab y=>by obtain⟨a,b,ae⟩:=List.append_of_mem ab;have:=zh5 a x b;rw[<-ae]at this;exact ah x ab (by omega) y
 have ak:∀x∈m,∀y,ze Tryz.prog 256 [.agg (cM x),.agg (cM y)] (.bool (eqd x y)):=λx ab y=>by obtain⟨a,b,ae⟩:=List.append_of_mem ab;have:=zdt a x b;rw[<-ae]at this;obtain⟨t,v⟩:=x;obtain⟨t',af⟩:=y;simp only[bM]at this;exact zrU t t' v af (ai t v ab (by omega) af)
 refine ze.go ir169.1 ir169.2 (Al4 _) λKP Q aa=>?_;by_cases U:k=W
 case neg =>
  have I:¬ (Val.mk k n s l m=Val.mk W X Y J A):=by simp[U]
  simp(disch:=omega) only[ir169,yj,U,go_sem];exact aa _ _ _ _ nofun rfl (by simp[yO I])
 by_cases Z:n=X
 case neg =>
  have I:¬ (Val.mk k n s l m=Val.mk W X Y J A):=by simp[Z]
  simp(disch:=omega) only[ir169,yj,U,Z,go_sem];exact aa _ _ _ _ nofun rfl (by simp[yO I])
 by_cases ac:s=Y
 case neg =>
  have I:¬ (Val.mk k n s l m=Val.mk W X Y J A):=by simp[ac]
  simp(disch:=omega) only[ir169,yj,U,Z,ac,go_sem];exact aa _ _ _ _ nofun rfl (by simp[yO I])
 simp(disch:=omega) only[ir169,yj,U,Z,ac,go_sem];refine za (zuN _ (by kernel_rfl) l J (by omega) aj) ?_;by_cases ad:l=J
 case neg =>
  have I:¬ (Val.mk k n s l m=Val.mk W X Y J A):=by simp[ad]
  simp(disch:=omega) only[yO ad,go_sem];exact aa _ _ _ _ nofun rfl (by simp[yO I])
 simp(disch:=omega) only[Y0 ad,go_sem];refine za (zww _ (by kernel_rfl) m A (by omega) ak) ?_;simp(disch:=omega) only[go_sem];have:eqd (Val.mk k n s l m) (Val.mk W X Y J A)=eqd m A:=by
  by_cases h:m=A
  ·rw[Y0 h,Y0 (by rw[U,Z,ac,ad,h])]
  ·rw[yO h,yO (by simp[h])]
 exact aa _ _ _ _ nofun rfl (by simp[this])
abbrev zxr(H:zb)(o:Own)(sz:Nat)(xs:List (List AV)):AV->zb->Prop:=λv H'=>∃o',v=.sl o' sz xs/\OwnS H o H' o' xs.length sz
abbrev YG(P:Program)(f:FuncId)(args:List AV)(H:zb)(o:Own)(sz:Nat)(xs:List (List AV)):Prop :=zd P f args H (λe H'=>match e with|.ret v=>zxr H o sz xs v H'|.pan _=>False)
def zx{P:Program}{KP:AV->zb->Prop}{Q:AExit->Env->zb->Prop}{st:List Fr}{ρ:Env}{H:zb}{all l:List AItem}{d:Option Nat}{R:List Chk}{f:FuncId}{args:List AV}{o:Own}{sz:Nat}{xs:List (List AV)}(h:YG P f args H o sz xs)(A:∀o' H',OwnS H o H' o' xs.length sz->goR P KP Q all l st R (ρ.set d (.sl o' sz xs)) H'):goK P KP Q all l st d R ρ f args H :=
 zi (XP:=λ_ _=>False) h (λv H' ⟨o',e,I⟩=>by subst e;exact A o' H' I) (λ_ _ h=>h.elim)
def yo(s:List UInt8):List (List UInt8)->Bool
 | []=>false
 | x::r=>if x=s then true else yo s r
def zin(s:List UInt8):∀l,yo s l=true↔s∈l
 | []=>by simp[yo]
 | x::r=>by
  have:=zin s r;simp only[yo,List.mem_cons];split
  ·rename_i h;simp[h]
  ·rename_i h;rw[this];constructor
   ·exact .inr
   ·rintro(e|e)
    ·exact absurd e.symm h
    ·exact e
def zmb(s:List UInt8):List (List UInt8)->Int->Int
 | [],_=>-1
 | x::r,i=>if s=x then i else zmb s r (i+1)
def zng(s:List UInt8):∀l (i:Int),0<=i->decide (0<=zmb s l i)=yo s l
 | [],i,_=>by simp[zmb,yo]
 | x::r,i,hi=>by
  simp only[zmb,yo];by_cases h:s=x
  ·simp[h];omega
  ·simp only[h,Ne.symm h,if_false];exact zng s r (i+1) (by omega)
def zye(l:List (List UInt8))(s:List UInt8)(ab:l.length<=Lim):ze Tryz.prog 122 [.sl .no 1 (cT l),.str s] (.int .i64 (zmb s l 0)):=by
 refine ze.go ir122.1 ir122.2 (Al4 _) λKP Q W=>?_;have I:=zG l;simp only[Lim]at ab;simp(disch:=omega) only[ir122,I,go_sem];refine zf l 8 (λ_:Unit=>[]) (λdone rest n H=>zmb s rest done.length=zmb s l 0) () (by simp(disch:=omega) only[go_sem]) rfl ?_ ?_
 ·rintro n H Y A J;simp(disch:=omega) only[I,J,go_sem];simp only[zmb]at A;exact W _ _ _ _ nofun rfl (by simp[<-A])
 ·rintro done x rest n H Y aa J _ A Z;have X:=YP aa;simp only[zmb]at A;by_cases U:s=x
  ·subst U;simp only[if_true]at A;simp(disch:=omega) only[I,J,X,go_sem];exact W _ _ _ _ nofun rfl (by simp[<-A])
  ·simp only[U,if_false]at A;simp(disch:=omega) only[I,J,X,U,go_sem];exact goJ (Z () _ (by simpa using A)) (by simp(disch:=omega) only[wrap64,go_sem])
def yD(l:List (List UInt8))(s:List UInt8)(I:l.length<=Lim):ze Tryz.prog 54 [.sl .no 1 (cT l),.str s] (.bool (yo s l)):=by refine ze.go ir54.1 ir54.2 (Al4 _) λKP Q A=>?_;simp(disch:=omega) only[ir54,go_sem];refine za (zye l s I) ?_;simp(disch:=omega) only[go_sem];have:=zng s l 0 (by omega);exact A _ _ _ _ nofun rfl (by simp[this])
mutual
def yL:Val->List (List UInt8)->List (List UInt8)| .mk k _ s l m,acc=>if k=8 then (if yo s acc then acc else acc++[s])else if k=6 then Yw l acc else if k=7 then Yx m acc else acc
def Yw:List Val->List (List UInt8)->List (List UInt8)
 | [],acc=>acc
 | v::r,acc=>Yw r (yL v acc)
def zcf:Mem->List (List UInt8)->List (List UInt8)| .mk _ v,acc=>yL v acc
def Yx:List Mem->List (List UInt8)->List (List UInt8)
 | [],acc=>acc
 | x::r,acc=>Yx r (zcf x acc)
end
mutual
def zcL:∀v acc,(yL v acc).length<=acc.length+bV v
 | .mk k n s l m,acc=>by
  have A:=zjS l acc;have I:=zjM m acc;simp only[yL,bV];split
  ·split
   ·omega
   ·simp;omega
  ·split
   ·omega
   ·split<;>omega
def zjS:∀l acc,(Yw l acc).length<=acc.length+bVs l
 | [],acc=>by simp[Yw]
 | v::r,acc=>by have A:=zcL v acc;have I:=zjS r (yL v acc);simp only[Yw,bVs];omega
def zny:∀x acc,(zcf x acc).length<=acc.length+bM x| .mk s v,acc=>by have:=zcL v acc;simp only[zcf,bM];omega
def zjM:∀l acc,(Yx l acc).length<=acc.length+bMs l
 | [],acc=>by simp[Yx]
 | x::r,acc=>by have A:=zny x acc;have I:=zjM r (zcf x acc);simp only[Yx,bMs];omega
end
def zzI:∀v,∀acc H o,acc.length+bV v<=Lim->zA H o acc.length 1->YG Tryz.prog 308 [.sl o 1 (cT acc),.agg (cV v)] H o 1 (cT (yL v acc)):=by
 refine Val.ind λk n s l m aq ar acc H o J ho=>?_;have ao:acc.length+(1+s.length+bVs l+bMs m)<=Lim:=J;have av:=zbl l;have aw:=Zg m;have ai:=Y6 l;have aj:=yU m;have Y:=zG acc;simp only[Lim]at ao;refine zd.goO ir308.1 ir308.2 (Al4 _) λKP Q Z au=>?_;by_cases af:k=8
 ·subst af;simp(disch:=omega) only[ir308,yj,go_sem];refine za (ze.low (yD acc s (by simp only[Lim];omega))) ?_;cases X:yo s acc with
  | true =>
   simp(disch:=omega) only[X,go_sem];refine Z _ _ H H _ nofun rfl (Low.refl _) ⟨o,?_,?_⟩
   ·simp[zP,Zb,yL,X]
   ·simpa[yL,X,Y]using OwnS.refl ho
  | false =>
   simp(disch:=omega) only[X,go_sem];refine zj (by rw[Y];exact ho) ?_ ?_ λo' H' I=>?_
   ·simp only[Y,Al2,Al3];omega
   ·simp only[Y,Al2,Al3,maxLen];omega
   simp(disch:=omega) only[go_sem];refine Z _ _ H' H' _ nofun rfl (Low.refl _) ⟨o',?_,?_⟩
   ·simp[zP,Zb,yL,X,cT,AV.strip1]
   ·simpa[yL,X,Y,zG]using I
 by_cases ad:k=6
 ·subst ad;simp(disch:=omega) only[ir308,yj,ai,go_sem];refine zf l 28 (λx:Own×List (List UInt8)=>[(0,.sl x.1 1 (cT x.2))]) (λdone rest x H'=>Yw rest x.2=Yw l acc/\x.2.length+bVs rest<=acc.length+bVs l/\OwnS H o H' x.1 x.2.length 1) (o,acc) (by simp(disch:=omega) only[go_sem]) ⟨rfl,by simp,OwnS.refl ho⟩ ?_ ?_
  ·rintro⟨W,a⟩ H' ah ⟨A,_,I⟩ U;simp only[Yw]at A;subst A;simp(disch:=omega) only[ai,U,go_sem];refine Z _ _ H' H' _ nofun rfl (Low.refl _) ⟨W,?_,?_⟩
   ·simp[zP,Zb,yL]
   ·simpa[yL,zG]using I
  ·rintro done x rest ⟨W,a⟩ H' ah aa U _ ⟨A,ac,I⟩ ak;have al:=zbf aa;have an:=zcL x a;simp only[Yw,bVs]at A ac;simp(disch:=omega) only[zp,zk,zg,zn,zl,zh,zu,ai,U,al,go_sem];refine zc λb J=>?_;simp(disch:=omega) only[zp,zk,zg,zn,zl,zh,zu,go_sem];refine zx (aq x (by rw[aa];simp) a _ W (by simp only[Lim];omega) (I.own.upd J)) λam ag ab=>?_;rw[zG]at ab;simp(disch:=omega) only[wrap64,go_sem];exact goJ (ak (am,yL x a) ag ⟨A,by simp only;omega,(I.upd J).trans ab⟩) (by simp(disch:=omega) only[go_sem])
 by_cases ae:k=7
 ·subst ae;simp(disch:=omega) only[ir308,yj,aj,go_sem];refine zf m 41 (λx:Own×List (List UInt8)=>[(0,.sl x.1 1 (cT x.2))]) (λdone rest x H'=>Yx rest x.2=Yx m acc/\x.2.length+bMs rest<=acc.length+bMs m/\OwnS H o H' x.1 x.2.length 1) (o,acc) (by simp(disch:=omega) only[go_sem]) ⟨rfl,by simp,OwnS.refl ho⟩ ?_ ?_
  ·rintro⟨W,a⟩ H' ah ⟨A,_,I⟩ U;simp only[Yx]at A;subst A;simp(disch:=omega) only[aj,U,go_sem];refine Z _ _ H' H' _ nofun rfl (Low.refl _) ⟨W,?_,?_⟩
   ·simp[zP,Zb,yL]
   ·simpa[yL,zG]using I
  ·rintro done x rest ⟨W,a⟩ H' ah aa U _ ⟨A,ac,I⟩ ak;have al:=Zz aa;have an:=zny x a;simp only[Yx,bMs]at A ac;have ap:x∈m:=by rw[aa];simp
   obtain⟨t,v⟩:=x;simp only[zcf,bM]at an A ac;simp(disch:=omega) only[zp,zk,zg,zn,zl,zh,zu,aj,U,al,go_sem];refine zc λb J=>?_;simp(disch:=omega) only[zp,zk,zg,zn,zl,zh,zu,go_sem];refine zx (ar t v ap a _ W (by simp only[Lim];omega) (I.own.upd J)) λam ag ab=>?_;rw[zG]at ab;simp(disch:=omega) only[wrap64,go_sem];exact goJ (ak (am,yL v a) ag ⟨A,by simp only;omega,(I.upd J).trans ab⟩) (by simp(disch:=omega) only[go_sem])
 ·simp(disch:=omega) only[ir308,yj,af,ad,ae,go_sem];refine Z _ _ H H _ nofun rfl (Low.refl _) ⟨o,?_,?_⟩
  ·simp[zP,Zb,yL,af,ad,ae]
  ·simpa[yL,af,ad,ae,zG]using OwnS.refl ho
def ztn(v:Val)(h:bV v<=Lim):ze Tryz.prog 259 [.agg (cV v)] (.sl .no 1 (cT (yL v []))):=by refine ze.go ir259.1 ir259.2 (Al4 _) λKP Q A=>?_;simp(disch:=omega) only[zp,zk,zg,zn,zl,zh,zu,ir259,go_sem];refine zx (zzI v [] _ .nil (by simpa using h) rfl) λo' H' I=>?_;simp(disch:=omega) only[go_sem];exact A _ _ _ _ nofun rfl (by simp )
def isD(c:UInt8):Bool:=decide (48<=c.toNat)&&decide (c.toNat<=57)
def isL(c:UInt8):Bool:=(decide (97<=c.toNat)&&decide (c.toNat<=122))||((decide (65<=c.toNat)&&decide (c.toNat<=90))||decide (c.toNat=95))
def zlg(c:UInt8):ze Tryz.prog 175 [.int .u8 (c.toNat:Int)] (.bool (isD c)):=by
 refine ze.go ir175.1 ir175.2 (Al4 _) λKP Q A=>?_;by_cases h:(48:Int)<=c.toNat
 ·simp(disch:=omega) only[ir175,h,go_sem];have h':48<=c.toNat:=by omega
  have e:decide ((c.toNat:Int)<=57)=decide (c.toNat<=57):=by rw[decide_eq_decide];omega
  exact A _ _ _ _ nofun rfl (by simp[isD,h',e])
 ·simp(disch:=omega) only[ir175,h,go_sem];have h':¬ 48<=c.toNat:=by omega
  exact A _ _ _ _ nofun rfl (by simp[isD,h'])
def zh9(c:UInt8):ze Tryz.prog 174 [.int .u8 (c.toNat:Int)] (.bool (isL c)):=by
 refine ze.go ir174.1 ir174.2 (Al4 _) λKP Q J=>?_;have e:decide ((c.toNat:Int)=95)=decide (c.toNat=95):=by rw[decide_eq_decide];omega
 by_cases h:(97:Int)<=c.toNat
 ·have h':97<=c.toNat:=by omega
  by_cases Y:(c.toNat:Int)<=122
  ·have X:c.toNat<=122:=by omega
   simp(disch:=omega) only[ir174,h,Y,go_sem];exact J _ _ _ _ nofun rfl (by simp[isL,h',X])
  ·have X:¬ c.toNat<=122:=by omega
   have A:(65:Int)<=c.toNat:=by omega
   have W:¬ (c.toNat:Int)<=90:=by omega
   have I:¬ c.toNat<=90:=by omega
   simp(disch:=omega) only[ir174,h,Y,A,W,go_sem];exact J _ _ _ _ nofun rfl (by simp[isL,h',X,I,e])
 ·have h':¬ 97<=c.toNat:=by omega
  by_cases A:(65:Int)<=c.toNat
  ·have U:65<=c.toNat:=by omega
   by_cases W:(c.toNat:Int)<=90
   ·have I:c.toNat<=90:=by omega
    simp(disch:=omega) only[ir174,h,A,W,go_sem];exact J _ _ _ _ nofun rfl (by simp[isL,h',U,I])
   ·have I:¬ c.toNat<=90:=by omega
    simp(disch:=omega) only[ir174,h,A,W,go_sem];exact J _ _ _ _ nofun rfl (by simp[isL,h',U,I,e])
  ·have U:¬ 65<=c.toNat:=by omega
   simp(disch:=omega) only[ir174,h,A,go_sem];exact J _ _ _ _ nofun rfl (by simp[isL,h',U,e])
def zdX:List UInt8->Nat->Bool
 | [],_=>true
 | c::r,i=>if isL c||(decide (i≠0)&&isD c)then zdX r (i+1)else false
def zL(s:List UInt8):Bool:=zdX s 0&&decide (s≠[])
def zwl{s a:List UInt8}{x:UInt8}{b:List UInt8}(h:s=a++x::b):s.getD a.length 0=x:=by subst h;simp
def zkG(s:List UInt8)(ad:s.length<=Lim):ze Tryz.prog 91 [.str s] (.bool (zL s)):=by
 refine ze.go ir91.1 ir91.2 (Al4 _) λKP Q X=>?_;simp only[Lim]at ad;simp(disch:=omega) only[ir91,go_sem];refine zf s 6 (λ_:Unit=>[]) (λdone rest n H=>zdX rest done.length=zdX s 0) () (by simp(disch:=omega) only[go_sem]) rfl ?_ ?_
 ·rintro n H ab A U;simp only[zdX]at A;simp(disch:=omega) only[U,go_sem];have e:(!decide (s=[]))=decide (s≠[]):=by simp
  exact X _ _ _ _ nofun rfl (by simp[zL,<-A])
 ·rintro done x rest n H ab ac U _ A Z;have aa:=zwl ac;simp only[zdX]at A;simp(disch:=omega) only[U,aa,go_sem];refine za (zh9 x) ?_;cases I:isL x with
  | true =>simp only[I,Bool.true_or,if_true]at A;simp(disch:=omega) only[I,go_sem];exact goJ (Z () _ (by simpa using A)) (by simp(disch:=omega) only[wrap64,go_sem])
  | false =>
   by_cases Y:done.length=0
   ·have W:(done.length:Int)=0:=by omega
    simp only[I,Y,ne_eq,not_true_eq_false,decide_false,Bool.false_and,Bool.or_false,Al7,if_false]at A;simp(disch:=omega) only[I,W,go_sem];exact X _ _ _ _ nofun rfl (by simp[zL,<-A])
   ·have W:¬ (done.length:Int)=0:=by omega
    simp(disch:=omega) only[I,W,U,aa,go_sem];refine za (zlg x) ?_;cases J:isD x with
    | true =>simp only[I,J,Y,ne_eq,not_false_eq_true,decide_true,Bool.and_self,Bool.or_true,if_true]at A;simp(disch:=omega) only[J,go_sem];exact goJ (Z () _ (by simpa using A)) (by simp(disch:=omega) only[wrap64,go_sem])
    | false =>simp only[I,J,Bool.and_false,Bool.or_false,Al7,if_false]at A;simp(disch:=omega) only[J,go_sem];exact X _ _ _ _ nofun rfl (by simp[zL,<-A])
def yA:List UInt8->Nat
 | []=>0
 | c::r=>if isD c then yA r+1 else 0
def zbe:∀l,yA l<=l.length
 | []=>Al4 _
 | c::r=>by have:=zbe r;simp only[yA,Al2];split<;>omega
def zfN(s:List UInt8)(k:Nat):(s.drop k=[]/\s.length<=k)∨(k<s.length/\s.drop k=s.getD k 0::s.drop (k+1)):=by
 rcases Nat.lt_or_ge k s.length with h|h
 ·right;refine⟨h,?_⟩;rw[List.drop_eq_getElem_cons h];simp[h]
 ·left;exact⟨List.drop_of_length_le h,h⟩
def Y7(s:List UInt8)(Z:s.length<=Lim):ze Tryz.prog 264 [.str s] (.int .i64 (yA s)):=by
 refine ze.go ir264.1 ir264.2 (Al4 _) λKP Q X=>?_;simp only[Lim]at Z;have ac:=zbe s;simp(disch:=omega) only[ir264,go_sem];refine Ze (λn:Nat=>[(3,.int .i64 n)]) (λn H=>yA s=n+yA (s.drop n)/\n<=s.length) (λn=>s.length-n) 0 (by simp(disch:=omega) only[go_sem]) ⟨by simp,by omega⟩ ?_;rintro n H aa ⟨A,ab⟩ Y;rcases zfN s n with ⟨U,W⟩|⟨U,W⟩
 ·have J:¬ ((n:Int)<s.length):=by omega
  rw[U]at A;simp only[yA,Nat.add_zero]at A;simp(disch:=omega) only[J,go_sem];exact X _ _ _ _ nofun rfl (by simp[A])
 ·have J:((n:Int)<s.length):=by omega
  rw[W]at A;simp only[yA]at A;simp(disch:=omega) only[J,go_sem];refine za (zlg (s.getD n 0)) ?_;cases I:isD (s.getD n 0)with
  | true =>simp only[I,if_true]at A;simp(disch:=omega) only[I,go_sem];exact goJ (Y (n+1) _ (by omega) ⟨by omega,by omega⟩) (by simp(disch:=omega) only[wrap64,Int.natCast_add,Int.natCast_one,go_sem])
  | false =>simp only[I,Al7,if_false,Nat.add_zero]at A;simp(disch:=omega) only[I,go_sem];exact X _ _ _ _ nofun rfl (by simp[A])
def zqp(c:UInt8)(s:List UInt8):[c].isPrefixOf s=decide (s.head?=some c):=by
 cases s with
 | nil=>rfl
 | cons d r =>
  by_cases h:d=c
  ·subst h;simp[List.isPrefixOf]
  ·have h':¬ c=d:=λe=>h e.symm;simp[List.isPrefixOf,h,h']
def zaU(s:List UInt8):Nat:=if yA s=0 then 0 else if s.getD 0 0=48 then 1 else yA s
def zZ(s:List UInt8):Nat:=if s.head?=some 45 then (if yA s.tail=0 then 0 else 1+zaU s.tail)else zaU s
def zpE(s:List UInt8):zaU s<=s.length:=by have:=zbe s;unfold zaU;split<;>(try split)<;>omega
def zg1(s:List UInt8):zZ s<=s.length:=by
 have I:=zpE s;have J:=zpE s.tail;unfold zZ;split
 ·rename_i h;cases s with
  | nil=>simp at h
  | cons c r =>simp only[List.tail_cons,Al2]at J ⊢;by_cases A:yA r=0<;>simp only[A,if_true,if_false]<;>omega
 ·exact I
def zkS(a:UInt8)(n:Nat)(A:n<256):decide ((a.toNat:Int)=n)=decide (a=UInt8.ofNat n):=by
 rw[decide_eq_decide];have:(UInt8.ofNat n).toNat=n:=by simp[UInt8.toNat_ofNat'];omega
 constructor
 ·intro h;apply UInt8.toNat_inj.1;rw[this];omega
 ·intro h;subst h;rw[this]
def zyv(s:List UInt8)(Z:s.length<=Lim):ze Tryz.prog 263 [.str s] (.int .i64 (zZ s)):=by
 refine ze.go ir263.1 ir263.2 (Al4 _) λKP Q J=>?_;simp only[Lim]at Z;simp(disch:=omega) only[ir263,go_sem];refine za (zdl s [45]) ?_;rw[zqp];by_cases h:s.head?=some 45
 ·cases s with
  | nil=>simp at h
  | cons c r =>
   have ab:c=45:=by simpa using h
   subst ab;simp only[Al2]at Z;have aa:(1:Int)<=((r.length+1:Nat):Int):=by omega
   have ad:(1:Int)<((r.length+1:Nat):Int)∨r=[]:=by cases r<;>simp;omega
   simp(disch:=omega) only[h,aa,Int.toNat_one,go_sem];refine za (Y7 r (by simp only[Lim];omega)) ?_;by_cases A:yA r=0
   ·simp(disch:=omega) only[A,go_sem];exact J _ _ _ _ nofun rfl (by simp[zZ,A])
   ·have U:¬ ((yA r:Int)=0):=by omega
    have ac:=zbe r;have W:(1:Int)<((r.length+1:Nat):Int):=by omega
    have e:=zkS (r.getD 0 0) 48 (by omega);by_cases I:r.getD 0 0=48
    ·have hi:zaU r=1:=by simp only[zaU,A,I,if_false,if_true]
     simp(disch:=omega) only[U,W,Int.toNat_one,I,UInt8.reduceToNat,wrap64,go_sem];exact J _ _ _ _ nofun rfl (by simp[zZ,A,hi])
    ·have X:¬ ((r.getD 0 0).toNat:Int)=48:=by
      intro Y;rw[decide_eq_true (by exact Y)]at e;exact I (by simpa using e.symm)
     have hi:zaU r=yA r:=by simp only[zaU,A,I,if_false]
     simp(disch:=omega) only[U,W,Int.toNat_one,X,wrap64,go_sem];exact J _ _ _ _ nofun rfl (by simp[zZ,A,hi])
 ·simp(disch:=omega) only[h,go_sem];refine za (Y7 s (by simp only[Lim];omega)) ?_;by_cases A:yA s=0
  ·simp(disch:=omega) only[A,go_sem];exact J _ _ _ _ nofun rfl (by simp[zZ,h,zaU,A])
  ·have U:¬ ((yA s:Int)=0):=by omega
   have ac:=zbe s;have W:(0:Int)<(s.length:Int):=by omega
   have e:=zkS (s.getD 0 0) 48 (by omega);by_cases I:s.getD 0 0=48
   ·have hi:zaU s=1:=by simp only[zaU,A,I,if_false,if_true]
    simp(disch:=omega) only[U,W,I,UInt8.reduceToNat,wrap64,go_sem];exact J _ _ _ _ nofun rfl (by simp[zZ,h,hi])
   ·have X:¬ ((s.getD 0 0).toNat:Int)=48:=by
     intro Y;rw[decide_eq_true (by exact Y)]at e;exact I (by simpa using e.symm)
    have hi:zaU s=yA s:=by simp only[zaU,A,I,if_false]
    simp(disch:=omega) only[U,W,X,wrap64,go_sem];exact J _ _ _ _ nofun rfl (by simp[zZ,h,hi])
def isE(c:UInt8):Bool:=decide (c=101)||decide (c=69)
def sgN(r:List UInt8):Nat:=if r.head?=some 43∨r.head?=some 45 then 1 else 0
def zbT:List UInt8->Nat
 | []=>0
 | c::r=>if isE c then (if yA (r.drop (sgN r))=0 then 0 else 1+sgN r+yA (r.drop (sgN r)))else 0
def zoA(r:List UInt8):sgN r<=r.length:=by
 unfold sgN;split
 ·cases r<;>simp_all
 ·omega
def zlq:∀s,zbT s<=s.length
 | []=>by simp[zbT]
 | c::r=>by
  have h:=zbe (r.drop (sgN r));have A:=zoA r;rw[zbc]at h;simp only[zbT,Al2];split
  ·split<;>omega
  ·omega
def zn0(s:List UInt8)(ah:s.length<=Lim):ze Tryz.prog 265 [.str s] (.int .i64 (zbT s)):=by
 refine ze.go ir265.1 ir265.2 (Al4 _) λKP Q J=>?_;simp only[Lim]at ah;cases s with
 | nil =>simp(disch:=omega) only[ir265,go_sem];exact J _ _ _ _ nofun rfl (by simp[zbT])
 | cons c r =>
  simp only[Al2]at ah;have aw:¬ (c::r=[]):=by simp
  have ax:(0:Int)<((r.length+1:Nat):Int):=by omega
  have ai:=zkS c 101 (by omega);have aj:=zkS c 69 (by omega);have ay:∀(P:Prop),P->P:=λ_ h=>h;by_cases ab:isE c=true
  case neg =>
   have ap:¬ (c.toNat:Int)=101:=by intro Y;rw[decide_eq_true (by exact Y)]at ai;exact ab (by simp[isE,(by simpa using ai.symm:c=101)])
   have aq:¬ (c.toNat:Int)=69:=by intro Y;rw[decide_eq_true (by exact Y)]at aj;exact ab (by simp[isE,(by simpa using aj.symm:c=69)])
   simp(disch:=omega) only[ir265,aw,ax,ap,aq,go_sem];have ar:isE c=false:=by simpa using ab
   exact J _ _ _ _ nofun rfl (by simp[zbT,ar])
  have fin:∀k:Nat,yA (r.drop (sgN r))=k->zbT (c::r)=if k=0 then 0 else 1+sgN r+k:=λk av=>by subst av;simp only[zbT,ab,if_true]
  have ag:(c.toNat:Int)=101∨(¬ (c.toNat:Int)=101/\(c.toNat:Int)=69):=by
   simp only[isE,zcp,z6]at ab;rcases ab with rfl|rfl
   ·exact .inl rfl
   ·exact .inr ⟨by decide,rfl⟩
  have ad:=zbe (r.drop (sgN r));rw[zbc]at ad;have az:=zoA r;cases r with
  | nil =>
   have I:=fin 0 (by simp[sgN,yA]);rcases ag with U|⟨U,aa⟩
   ·simp(disch:=omega) only[ir265,U,go_sem];refine za (Y7 [] (by simp)) ?_;simp(disch:=omega) only[yA,go_sem];exact J _ _ _ _ nofun rfl (by simp[I])
   ·simp(disch:=omega) only[ir265,U,aa,go_sem];refine za (Y7 [] (by simp)) ?_;simp(disch:=omega) only[yA,go_sem];exact J _ _ _ _ nofun rfl (by simp[I])
  | cons d t =>
   simp only[Al2]at ah;have Z:(1:Int)<((t.length+1+1:Nat):Int):=by omega
   have ae:(2:Int)<=((t.length+1+1:Nat):Int):=by omega
   have am:(1:Int)<=((t.length+1+1:Nat):Int):=by omega
   have ak:=zkS d 43 (by omega);have al:=zkS d 45 (by omega);by_cases af:d=43∨d=45
   ·have ao:sgN (d::t)=1:=by simp only[sgN,List.head?_cons,Al1,af,if_true]
    have I:=fin (yA t) (by rw[ao];rfl);rw[ao]at I ad;have au:(d.toNat:Int)=43∨(¬ (d.toNat:Int)=43/\(d.toNat:Int)=45):=by
     rcases af with rfl|rfl
     ·exact .inl rfl
     ·exact .inr ⟨by decide,rfl⟩
    rcases ag with U|⟨U,aa⟩<;>rcases au with X|⟨X,ac⟩
    all_goals simp only[Z,ae,Al2,List.drop_succ_cons,List.drop_zero]at ad
    ·simp(disch:=omega) only[ir265,U,X,Z,ae,Int.toNat_one,go_sem];refine za (Y7 t (by simp only[Lim];omega)) ?_;by_cases A:yA t=0
     ·simp(disch:=omega) only[A,go_sem];exact J _ _ _ _ nofun rfl (by simp[I,A])
     ·have W:¬ (yA t:Int)=0:=by omega
      simp(disch:=omega) only[W,wrap64,go_sem];exact J _ _ _ _ nofun rfl (by simp[I,A])
    ·simp(disch:=omega) only[ir265,U,X,ac,Z,ae,Int.toNat_one,go_sem];refine za (Y7 t (by simp only[Lim];omega)) ?_;by_cases A:yA t=0
     ·simp(disch:=omega) only[A,go_sem];exact J _ _ _ _ nofun rfl (by simp[I,A])
     ·have W:¬ (yA t:Int)=0:=by omega
      simp(disch:=omega) only[W,wrap64,go_sem];exact J _ _ _ _ nofun rfl (by simp[I,A])
    ·simp(disch:=omega) only[ir265,U,aa,X,Z,ae,Int.toNat_one,go_sem];refine za (Y7 t (by simp only[Lim];omega)) ?_;by_cases A:yA t=0
     ·simp(disch:=omega) only[A,go_sem];exact J _ _ _ _ nofun rfl (by simp[I,A])
     ·have W:¬ (yA t:Int)=0:=by omega
      simp(disch:=omega) only[W,wrap64,go_sem];exact J _ _ _ _ nofun rfl (by simp[I,A])
    ·simp(disch:=omega) only[ir265,U,aa,X,ac,Z,ae,Int.toNat_one,go_sem];refine za (Y7 t (by simp only[Lim];omega)) ?_;by_cases A:yA t=0
     ·simp(disch:=omega) only[A,go_sem];exact J _ _ _ _ nofun rfl (by simp[I,A])
     ·have W:¬ (yA t:Int)=0:=by omega
      simp(disch:=omega) only[W,wrap64,go_sem];exact J _ _ _ _ nofun rfl (by simp[I,A])
   ·have an:sgN (d::t)=0:=by simp only[sgN,List.head?_cons,Al1,af,if_false]
    have I:=fin (yA (d::t)) (by rw[an];rfl);rw[an]at I ad;have X:¬ (d.toNat:Int)=43:=by intro Y;rw[decide_eq_true (by exact Y)]at ak;exact af (.inl (by simpa using ak.symm))
    have ac:¬ (d.toNat:Int)=45:=by intro Y;rw[decide_eq_true (by exact Y)]at al;exact af (.inr (by simpa using al.symm))
    simp only[List.drop_zero,Al2]at ad;rcases ag with U|⟨U,aa⟩
    ·simp(disch:=omega) only[ir265,U,X,ac,Z,am,Int.toNat_one,go_sem];refine za (Y7 (d::t) (by simp only[Lim,Al2];omega)) ?_;by_cases A:yA (d::t)=0
     ·simp(disch:=omega) only[A,go_sem];exact J _ _ _ _ nofun rfl (by simp[I,A])
     ·have W:¬ (yA (d::t):Int)=0:=by omega
      simp(disch:=omega) only[W,wrap64,go_sem];exact J _ _ _ _ nofun rfl (by simp[I,A])
    ·simp(disch:=omega) only[ir265,U,aa,X,ac,Z,am,Int.toNat_one,go_sem];refine za (Y7 (d::t) (by simp only[Lim,Al2];omega)) ?_;by_cases A:yA (d::t)=0
     ·simp(disch:=omega) only[A,go_sem];exact J _ _ _ _ nofun rfl (by simp[I,A])
     ·have W:¬ (yA (d::t):Int)=0:=by omega
      simp(disch:=omega) only[W,wrap64,go_sem];exact J _ _ _ _ nofun rfl (by simp[I,A])
def Yc(r:List UInt8):Nat:=if r.head?=some 46/\0<yA r.tail then 1+yA r.tail else 0
def ZJ(s:List UInt8):Nat×Int :=if zZ s=0 then (0,0)else (zZ s+Yc (s.drop (zZ s))+zbT (s.drop (zZ s+Yc (s.drop (zZ s)))),if Yc (s.drop (zZ s))=0/\zbT (s.drop (zZ s+Yc (s.drop (zZ s))))=0 then 3 else 4)
def zni(r:List UInt8):Yc r<=r.length:=by
 unfold Yc;split
 ·rename_i h;cases r with
  | nil=>simp at h
  | cons c t=>have:=zbe t;simp only[List.tail_cons,Al2];omega
 ·omega
def zpU(s:List UInt8)(af:s.length<=Lim):ze Tryz.prog 176 [.str s] (.tup [.int .i64 (ZJ s).1,.int .i64 (ZJ s).2]):=by
 refine ze.go ir176.1 ir176.2 (Al4 _) λKP Q I=>?_;have ap:=af;simp only[Lim]at af;simp(disch:=omega) only[ir176,go_sem];refine za (zyv s ap) ?_;have ax:=zg1 s;by_cases aa:zZ s=0
 ·simp(disch:=omega) only[aa,go_sem];exact I _ _ _ _ nofun rfl (by simp[ZJ,aa])
 have ag:¬ ((zZ s:Int)=0):=by omega
 have ad:(zZ s:Int)<=s.length:=by omega
 simp(disch:=omega) only[ag,ad,go_sem];refine za (zdl (s.drop (zZ s)) [46]) ?_;rw[zqp];generalize ai:zZ s=n at *
 have fin:∀f p:Nat,Yc (s.drop n)=f->zbT (s.drop (n+f))=p->ZJ s=(n+f+p,if f=0/\p=0 then 3 else 4):=λf p A Z=>by unfold ZJ;rw[ai,A,Z];simp only[aa,if_false]
 have an:=zlq (s.drop n);rw[zbc]at an;by_cases J:(s.drop n).head?=some 46
 ·obtain⟨c,t,U⟩:∃c t,s.drop n=c::t:=by
   cases au:s.drop n with
   | nil=>rw[au]at J;simp at J
   | cons c t=>exact⟨c,t,rfl⟩
  have hlen:s.length=n+1+t.length:=by have:=congrArg List.length U;simp at this;omega
  have hdr:s.drop (n+1)=t:=by rw[<-List.drop_drop,U];rfl
  have aq:((n:Int)+1).toNat=n+1:=by omega
  have aj:(0:Int)<=(n:Int)+1:=by omega
  have ak:(n:Int)+1<=s.length:=by omega
  have aw:=zbe t;simp(disch:=omega) only[J,wrap64,aq,aj,ak,hdr,go_sem];refine za (Y7 t (by simp only[Lim];omega)) ?_;by_cases ae:(0:Int)<yA t
  ·have ah:0<yA t:=by omega
   have W:Yc (s.drop n)=1+yA t:=by unfold Yc;rw[if_pos ⟨J,by rw[U];exact ah⟩,U];rfl
   have ar:((n:Int)+1+yA t).toNat=n+(1+yA t):=by omega
   have al:(0:Int)<=(n:Int)+1+yA t:=by omega
   have am:(n:Int)+1+yA t<=s.length:=by omega
   have ao:=zlq (s.drop (n+(1+yA t)));rw[zbc]at ao;simp(disch:=omega) only[ae,wrap64,ar,al,am,go_sem];refine za (zn0 (s.drop (n+(1+yA t))) (by rw[zbc];simp only[Lim];omega)) ?_;have A:=fin _ _ W rfl;generalize Z:zbT (s.drop (n+(1+yA t)))=p at *
   by_cases X:(0:Int)<p
   ·simp(disch:=omega) only[X,wrap64,go_sem];exact I _ _ _ _ nofun rfl (by simp[A,Int.add_assoc])
   ·have Y:p=0:=by omega
    subst Y;simp(disch:=omega) only[go_sem];exact I _ _ _ _ nofun rfl (by simp[A,Int.add_assoc])
  ·have av:yA t=0:=by omega
   have W:Yc (s.drop n)=0:=by unfold Yc;exact if_neg λab=>by have:=ab.2;rw[U]at this;simp only[List.tail_cons]at this;omega
   simp(disch:=omega) only[ae,ad,go_sem];refine za (zn0 (s.drop n) (by rw[zbc];simp only[Lim];omega)) ?_;have A:=fin _ _ W rfl;rw[Nat.add_zero]at A;generalize Z:zbT (s.drop n)=p at *
   by_cases X:(0:Int)<p
   ·have ac:¬ p=0:=by omega
    simp(disch:=omega) only[X,wrap64,go_sem];exact I _ _ _ _ nofun rfl (by simp[A,ac])
   ·have Y:p=0:=by omega
    subst Y;simp(disch:=omega) only[go_sem];exact I _ _ _ _ nofun rfl (by simp[A])
 ·have W:Yc (s.drop n)=0:=by unfold Yc;exact if_neg λab=>J ab.1
  simp(disch:=omega) only[J,ad,go_sem];refine za (zn0 (s.drop n) (by rw[zbc];simp only[Lim];omega)) ?_;have A:=fin _ _ W rfl;rw[Nat.add_zero]at A;generalize Z:zbT (s.drop n)=p at *
  by_cases X:(0:Int)<p
  ·have ac:¬ p=0:=by omega
   simp(disch:=omega) only[X,wrap64,go_sem];exact I _ _ _ _ nofun rfl (by simp[A,ac])
  ·have Y:p=0:=by omega
   subst Y;simp(disch:=omega) only[go_sem];exact I _ _ _ _ nofun rfl (by simp[A])
def zaO(s:List UInt8):Int:=if (ZJ s).1=s.length then (ZJ s).2 else 0
def zgd(s:List UInt8)(I:s.length<=Lim):ze Tryz.prog 92 [.str s] (.int .i64 (zaO s)):=by
 refine ze.go ir92.1 ir92.2 (Al4 _) λKP Q A=>?_;simp(disch:=omega) only[ir92,go_sem];refine za (zpU s I) ?_;by_cases h:(ZJ s).1=s.length
 ·have h':(((ZJ s).1:Int)=s.length)=True:=eq_true (by omega);simp(disch:=omega) only[h',go_sem];exact A _ _ _ _ nofun rfl (by simp[zaO,h])
 ·have h':¬ ((ZJ s).1:Int)=s.length:=by omega
  simp(disch:=omega) only[h',go_sem];exact A _ _ _ _ nofun rfl (by simp[zaO,h])
def okI:Lib.NumEnd Int->Bool
 | .ok _=>true
 | _=>false
def zjv(s:List UInt8):Int:=match Lib.parseIntB 64 s with
 | .ok v=>v
 | Lib.NumEnd.syntax=>0
 | .range=>Lib.intSat 64 s
def YX(s:List UInt8):Bool:=okI (Lib.parseIntB 64 s)&&decide (zaO s=3)
def znT(s:List UInt8)(I:s.length<=Lim):ze Tryz.prog 281 [.str s] (.tup [.int .i64 (zjv s),.bool (YX s)]):=by
 refine ze.go ir281.1 ir281.2 (Al4 _) λKP Q A=>?_;simp(disch:=omega) only[ir281,go_sem];refine za (zre s (by simp only[Lim]at I;omega)) ?_;rcases hp:Lib.parseIntB 64 s with v|_|_
 ·simp(disch:=omega) only[ziw,hp,go_sem];refine za (zgd s I) ?_;simp(disch:=omega) only[go_sem];exact A _ _ _ _ nofun rfl (by simp[zjv,YX,hp,okI])
 ·simp(disch:=omega) only[ziw,hp,go_sem];exact A _ _ _ _ nofun rfl (by simp[zjv,YX,hp,okI])
 ·simp(disch:=omega) only[ziw,hp,go_sem];exact A _ _ _ _ nofun rfl (by simp[zjv,YX,hp,okI])
def zlH(s:List UInt8):Bool:=decide (zaO s=4)||(decide (zaO s=3)&&!YX s)
def zBw(s:List UInt8)(U:s.length<=Lim):ze Tryz.prog 341 [.str s] (.bool (zlH s)):=by
 refine ze.go ir341.1 ir341.2 (Al4 _) λKP Q J=>?_;simp(disch:=omega) only[ir341,go_sem];refine za (zgd s U) ?_;simp(disch:=omega) only[go_sem];refine za (znT s U) ?_;by_cases A:zaO s=4
 ·simp(disch:=omega) only[A,go_sem];exact J _ _ _ _ nofun rfl (by simp[zlH,A])
 ·by_cases I:zaO s=3
  ·simp(disch:=omega) only[A,I,go_sem];exact J _ _ _ _ nofun rfl (by simp[zlH,A,I])
  ·simp(disch:=omega) only[A,I,go_sem];exact J _ _ _ _ nofun rfl (by simp[zlH,A,I])
def zn9(s:List UInt8):Bool:=decide (s=[116,114,117,101])||(decide (s=[102,97,108,115,101])||decide (s=[110,117,108,108]))
def zBc(s:List UInt8):ze Tryz.prog 342 [.str s] (.bool (zn9 s)):=by
 refine ze.go ir342.1 ir342.2 (Al4 _) λKP Q J=>?_;by_cases A:s=[116,114,117,101]
 ·simp(disch:=omega) only[ir342,A,go_sem];exact J _ _ _ _ nofun rfl (by simp[zn9,A])
 ·by_cases I:s=[102,97,108,115,101]
  ·subst I;have U:¬ ([102,97,108,115,101]:List UInt8)=[116,114,117,101]:=by decide
   simp(disch:=omega) only[ir342,U,go_sem];exact J _ _ _ _ nofun rfl (by simp[zn9,U])
  ·simp(disch:=omega) only[ir342,A,I,go_sem];exact J _ _ _ _ nofun rfl (by simp[zn9,A,I])
def zr3(s:List UInt8)(I:s.length<=Lim):ze Tryz.prog 93 [.str s] (.bool (Lib.validD s)):=by refine ze.go ir93.1 ir93.2 (Al4 _) λKP Q A=>?_;simp(disch:=omega) only[ir93,go_sem];refine za (zxt s (by simp only[Lim]at I;omega)) ?_;simp(disch:=omega) only[go_sem];exact A _ _ _ _ nofun rfl (by simp )
def zdJ(n:Int)(s:List UInt8)(l:List Val)(m:List Mem):Bool:=decide (n=0)&&(decide (s=[])&&(decide (l.length=0)&&decide (m.length=0)))
def zt9(k n:Int)(s:List UInt8)(l:List Val)(m:List Mem):ze Tryz.prog 325 [.agg (cV (.mk k n s l m))] (.bool (zdJ n s l m)):=by
 refine ze.go ir325.1 ir325.2 (Al4 _) λKP Q U=>?_;have W:=Y6 l;have X:=yU m;by_cases A:n=0
 case neg =>simp(disch:=omega) only[ir325,yj,A,go_sem];exact U _ _ _ _ nofun rfl (by simp[zdJ,A])
 by_cases I:s=[]
 case neg =>simp(disch:=omega) only[ir325,yj,A,I,go_sem];exact U _ _ _ _ nofun rfl (by simp[zdJ,I])
 by_cases J:l.length=0
 case neg =>simp(disch:=omega) only[ir325,yj,A,I,W,J,go_sem];exact U _ _ _ _ nofun rfl (by simp[zdJ,J])
 have e:decide ((m.length:Int)=0)=decide (m.length=0):=by rw[decide_eq_decide];omega
 simp(disch:=omega) only[ir325,yj,A,I,W,X,J,go_sem];exact U _ _ _ _ nofun rfl (by simp[zdJ,A,I,J,e])
def Zi(k n:Int)(s:List UInt8)(l:List Val)(m:List Mem):Bool :=zdJ 0 [] l m&&(if k=0 then decide (n=0)&&decide (s=[])else if k=1 then (decide (n=0)||decide (n=1))&&decide (s=[])else if k=2 then decide (s=[])else if k=3 then decide (n=0)&&zlH s else if k=4 then decide (n=0)&&Lib.validD s else if k=5 then decide (n=0)&&(zL s&&!zn9 s)else if k=8 then decide (n=0)&&zL s else false)
def zu3(k n:Int)(s:List UInt8)(l:List Val)(m:List Mem)(ad:s.length<=Lim):ze Tryz.prog 324 [.agg (cV (.mk k n s l m))] (.bool (Zi k n s l m)):=by
 refine ze.go ir324.1 ir324.2 (Al4 _) λKP Q U=>?_;simp(disch:=omega) only[ir324,yj,go_sem];refine zc λb A=>?_;simp(disch:=omega) only[go_sem];refine za (zt9 k 0 [] l m) ?_;cases A:zdJ 0 [] l m with
 | false =>simp(disch:=omega) only[A,go_sem];exact U _ _ _ _ nofun rfl (by simp[Zi,A])
 | true =>
  by_cases J:k=0
  ·by_cases I:n=0
   ·simp(disch:=omega) only[A,J,I,go_sem];exact U _ _ _ _ nofun rfl (by simp[Zi,A,J,I])
   ·simp(disch:=omega) only[A,J,I,go_sem];exact U _ _ _ _ nofun rfl (by simp[Zi,A,J,I])
  by_cases W:k=1
  ·by_cases I:n=0
   ·simp(disch:=omega) only[A,J,W,I,go_sem];exact U _ _ _ _ nofun rfl (by simp[Zi,A,W,I])
   ·by_cases ae:n=1
    ·simp(disch:=omega) only[A,J,W,I,ae,go_sem];exact U _ _ _ _ nofun rfl (by simp[Zi,A,W,ae])
    ·simp(disch:=omega) only[A,J,W,I,ae,go_sem];exact U _ _ _ _ nofun rfl (by simp[Zi,A,W,I,ae])
  by_cases X:k=2
  ·simp(disch:=omega) only[A,J,W,X,go_sem];exact U _ _ _ _ nofun rfl (by simp[Zi,A,X])
  by_cases Y:k=3
  ·by_cases I:n=0
   ·simp(disch:=omega) only[A,J,W,X,Y,I,go_sem];refine za (zBw s ad) ?_;simp(disch:=omega) only[go_sem];exact U _ _ _ _ nofun rfl (by simp[Zi,A,Y,I])
   ·simp(disch:=omega) only[A,J,W,X,Y,I,go_sem];exact U _ _ _ _ nofun rfl (by simp[Zi,A,Y,I])
  by_cases Z:k=4
  ·by_cases I:n=0
   ·simp(disch:=omega) only[A,J,W,X,Y,Z,I,go_sem];refine za (zr3 s ad) ?_;simp(disch:=omega) only[go_sem];exact U _ _ _ _ nofun rfl (by simp[Zi,A,Z,I])
   ·simp(disch:=omega) only[A,J,W,X,Y,Z,I,go_sem];exact U _ _ _ _ nofun rfl (by simp[Zi,A,Z,I])
  by_cases aa:k=5
  ·by_cases I:n=0
   ·simp(disch:=omega) only[A,J,W,X,Y,Z,aa,I,go_sem];refine za (zkG s ad) ?_;cases ac:zL s with
    | true =>simp(disch:=omega) only[ac,go_sem];refine za (zBc s) ?_;simp(disch:=omega) only[go_sem];exact U _ _ _ _ nofun rfl (by simp[Zi,A,aa,I,ac])
    | false =>simp(disch:=omega) only[ac,go_sem];exact U _ _ _ _ nofun rfl (by simp[Zi,A,aa,I,ac])
   ·simp(disch:=omega) only[A,J,W,X,Y,Z,aa,I,go_sem];exact U _ _ _ _ nofun rfl (by simp[Zi,A,aa,I])
  by_cases ab:k=8
  ·by_cases I:n=0
   ·simp(disch:=omega) only[A,J,W,X,Y,Z,aa,ab,I,go_sem];refine za (zkG s ad) ?_;simp(disch:=omega) only[go_sem];exact U _ _ _ _ nofun rfl (by simp[Zi,A,ab,I])
   ·simp(disch:=omega) only[A,J,W,X,Y,Z,aa,ab,I,go_sem];exact U _ _ _ _ nofun rfl (by simp[Zi,A,ab,I])
  ·simp(disch:=omega) only[A,J,W,X,Y,Z,aa,ab,go_sem];exact U _ _ _ _ nofun rfl (by simp[Zi,A,J,W,X,Y,Z,aa,ab])
mutual
def zdW(may:List UInt8->Bool):Val->Bool| .mk k n s l m=>if k=6 then zgf may l&&zdJ n s [] m else if k=7 then zgO may m&&zdJ n s l []else Zi k n s l m
def zgf(may:List UInt8->Bool):List Val->Bool
 | []=>true
 | v::r=>zdW may v&&zgf may r
def zwM(may:List UInt8->Bool):Mem->Bool| .mk s v=>may s&&zdW may v
def zgO(may:List UInt8->Bool):List Mem->Bool
 | []=>true
 | x::r=>zwM may x&&zgO may r
end
def zz5(f:FuncId)(an:Program.callable Tryz.prog f=true)(U:List UInt8->Bool)(ao:∀s:List UInt8,s.length<=Lim->ze Tryz.prog f [.str s] (.bool (U s))):
  ∀v,bV v<=Lim->ze Tryz.prog 300 [.agg (cV v),.clo f [] []] (.bool (zdW U v)):=by
 refine Val.ind λk n s l m aq ar ak=>?_;have am:1+s.length+bVs l+bMs m<=Lim:=ak;have au:=zbl l;have av:=Zg m;have ac:=Y6 l;have ad:=yU m;simp only[Lim]at am;refine ze.go ir300.1 ir300.2 (Al4 _) λKP Q Y=>?_;simp(disch:=omega) only[ir300,yj,go_sem];refine zc λb ak=>?_;by_cases ai:k=6
 ·subst ai;simp(disch:=omega) only[ac,go_sem];refine zf l 22 (λ_:Unit=>[(6,.bool true)]) (λdone rest _ H=>zgf U rest=zgf U l/\H b=some (.cells [.int .i64 6,.int .i64 n,.str s,.sl .nil 5 [],.sl .no 6 (cMs m)])) () (by simp(disch:=omega) only[go_sem]) ⟨rfl,by simp[zb.upd]⟩ ?_ ?_
  ·rintro _ H ab ⟨A,I⟩ X;simp only[zgf]at A;simp(disch:=omega) only[ac,X,I,go_sem];refine za (ze.low (zt9 6 n s [] m)) ?_;simp(disch:=omega) only[go_sem];exact Y _ _ _ _ nofun rfl (by simp[zdW,<-A])
  ·rintro done x rest _ H ab W X _ ⟨A,I⟩ ae;have ag:=zbf W;have aa:=zh5 done x rest;rw[<-W]at aa;simp only[zgf]at A;simp(disch:=omega) only[zp,zk,zg,zn,zl,zh,zu,ac,X,ag,go_sem];refine zc λal af=>?_;have ah:=zfw af I;simp(disch:=omega) only[zp,zk,zg,zn,zl,zh,zu,go_sem];refine za (aq x (by rw[W];simp) (by simp only[Lim];omega)) ?_;cases J:zdW U x with
   | true =>simp only[J,Bool.true_and]at A;simp(disch:=omega) only[J,go_sem];exact goJ (ae () _ ⟨A,by simp[zb.upd,Ne.symm ah,I]⟩) (by simp(disch:=omega) only[wrap64,go_sem])
   | false =>simp only[J,Bool.false_and]at A;simp(disch:=omega) only[J,go_sem];exact Y _ _ _ _ nofun rfl (by simp[zdW,<-A])
 by_cases aj:k=7
 ·subst aj;simp(disch:=omega) only[ad,go_sem];refine zf m 38 (λ_:Unit=>[(6,.bool true)]) (λdone rest _ H=>zgO U rest=zgO U m/\H b=some (.cells [.int .i64 7,.int .i64 n,.str s,.sl .no 5 (cVs l),.sl .nil 6 []])) () (by simp(disch:=omega) only[go_sem]) ⟨rfl,by simp[zb.upd]⟩ ?_ ?_
  ·rintro _ H ab ⟨A,I⟩ X;simp only[zgO]at A;simp(disch:=omega) only[ad,X,I,go_sem];refine za (ze.low (zt9 7 n s l [])) ?_;simp(disch:=omega) only[go_sem];exact Y _ _ _ _ nofun rfl (by simp[zdW,<-A])
  ·rintro done x rest _ H ab W X _ ⟨A,I⟩ ae;have ag:=Zz W;have aa:=zdt done x rest;rw[<-W]at aa;have ap:x∈m:=by rw[W];simp
   obtain⟨t,v⟩:=x;simp only[zgO,zwM,bM]at A aa;simp(disch:=omega) only[zp,zk,zg,zn,zl,zh,zu,ad,X,ag,go_sem];refine zc λal af=>?_;have ah:=zfw af I;simp(disch:=omega) only[zp,zk,zg,zn,zl,zh,zu,go_sem];refine⟨an,za (ao t (by simp only[Lim];omega)) ?_⟩;cases Z:U t with
   | true =>
    simp(disch:=omega) only[zp,zk,zg,zn,zl,zh,zu,Z,go_sem];refine za (ar t v ap (by simp only[Lim];omega)) ?_;cases J:zdW U v with
    | true =>simp only[Z,J,Bool.true_and]at A;simp(disch:=omega) only[J,go_sem];exact goJ (ae () _ ⟨A,by simp[zb.upd,Ne.symm ah,I]⟩) (by simp(disch:=omega) only[wrap64,go_sem])
    | false =>simp only[Z,J,Bool.true_and,Bool.false_and]at A;simp(disch:=omega) only[J,go_sem];exact Y _ _ _ _ nofun rfl (by simp[zdW,<-A])
   | false =>simp only[Z,Bool.false_and]at A;simp(disch:=omega) only[zp,zk,zg,zn,zl,zh,zu,Z,go_sem];exact Y _ _ _ _ nofun rfl (by simp[zdW,<-A])
 ·simp(disch:=omega) only[ai,aj,go_sem];refine za (zu3 k n s l m (by simp only[Lim];omega)) ?_;simp(disch:=omega) only[go_sem];exact Y _ _ _ _ nofun rfl (by simp[zdW,ai,aj])
def zp9(v:Val):Bool:=zdW Lib.validD v
def zxm(v:Val)(I:bV v<=Lim):ze Tryz.prog 246 [.agg (cV v)] (.bool (zp9 v)):=by refine ze.go ir246.1 ir246.2 (Al4 _) λKP Q A=>?_;simp(disch:=omega) only[zp,zk,zg,zn,zl,zh,zu,ir246,go_sem];refine za (zz5 _ (by kernel_rfl) Lib.validD zr3 v I) ?_;simp(disch:=omega) only[go_sem];exact A _ _ _ _ nofun rfl (by simp[zp9])
def zbH(v:Val):Bool:=zdW zL v&&decide (y5 v<=16)
def zwm(v:Val)(I:bV v<=Lim):ze Tryz.prog 306 [.agg (cV v)] (.bool (zbH v)):=by
 refine ze.go ir306.1 ir306.2 (Al4 _) λKP Q A=>?_;simp(disch:=omega) only[zp,zk,zg,zn,zl,zh,zu,ir306,go_sem];refine za (zz5 _ (by kernel_rfl) zL zkG v I) ?_;cases h:zdW zL v with
 | true =>simp(disch:=omega) only[zp,zk,zg,zn,zl,zh,zu,h,go_sem];refine za (zlj v I) ?_;simp(disch:=omega) only[go_sem];exact A _ _ _ _ nofun rfl (by simp[zbH,h])
 | false =>simp(disch:=omega) only[h,go_sem];exact A _ _ _ _ nofun rfl (by simp[zbH,h])
def znB(s:List UInt8):ze Tryz.prog 328 [.str s] (.agg (cK ⟨2,s⟩)):=by refine ze.go ir328.1 ir328.2 (Al4 _) λKP Q A=>?_;simp(disch:=omega) only[ir328,go_sem];refine zc λb I=>?_;simp(disch:=omega) only[go_sem];exact A _ _ _ [.agg [.int .i64 2,.str s]] nofun (by simp(disch:=omega) only[ir328,zo,z8,go_sem]) rfl
def zgY(s:List UInt8):ze Tryz.prog 331 [.str s] (.agg (cK ⟨1,s⟩)):=by refine ze.go ir331.1 ir331.2 (Al4 _) λKP Q A=>?_;simp(disch:=omega) only[ir331,go_sem];refine zc λb I=>?_;simp(disch:=omega) only[go_sem];exact A _ _ _ [.agg [.int .i64 1,.str s]] nofun (by simp(disch:=omega) only[ir331,zo,z8,go_sem]) rfl
def boolT(b:Bool):List UInt8:=if b then [116,114,117,101]else [102,97,108,115,101]
def zr6(b:Bool):ze Tryz.prog 345 [.bool b] (.str (boolT b)):=by
 refine ze.go ir345.1 ir345.2 (Al4 _) λKP Q A=>?_;cases b
 ·simp(disch:=omega) only[ir345,go_sem];exact A _ _ _ _ nofun rfl (by simp[boolT])
 ·simp(disch:=omega) only[ir345,go_sem];exact A _ _ _ _ nofun rfl (by simp[boolT])
def zva(b:Bool):ze Tryz.prog 329 [.bool b] (.str (boolT b)):=by refine ze.go ir329.1 ir329.2 (Al4 _) λKP Q A=>?_;simp(disch:=omega) only[ir329,go_sem];refine za (zr6 b) ?_;simp(disch:=omega) only[go_sem];exact A _ _ _ _ nofun rfl (by simp )
mutual
def yQ:Val->List Tok| .mk k n s l m=>if k=0 then [⟨2,[110,117,108,108]⟩]else if k=1 then [⟨2,boolT (decide (n=1))⟩]else if k=2 then [⟨3,Lib.itoa n⟩]else if k=3 then [⟨zaO s,s⟩]else if k=4 then [⟨5,s⟩]else if k=5 then [⟨2,s⟩]else if k=8 then [⟨1,[36]⟩,⟨2,s⟩]else if k=6 then ⟨1,[91]⟩::(zal l++[⟨1,[93]⟩])else ⟨1,[123]⟩::(ZV m++[⟨1,[125]⟩])
def zal:List Val->List Tok
 | []=>[]
 | v::r=>yQ v++zal r
def zc7:Mem->List Tok| .mk s v=>⟨2,s⟩::⟨1,[58]⟩::yQ v
def ZV:List Mem->List Tok
 | []=>[]
 | x::r=>zc7 x++ZV r
end
mutual
def zgc:∀v,(yQ v).length+2<=4*bV v
 | .mk k n s l m=>by
  have A:=ziU l;have I:=zjd m;simp only[yQ,bV]
  repeat' split
  all_goals simp only[Al2,Al5,Al3]
  all_goals omega
def ziU:∀l,(zal l).length<=4*bVs l
 | []=>by simp[zal]
 | v::r=>by have A:=zgc v;have I:=ziU r;simp only[zal,bVs,Al5];omega
def zve:∀x,(zc7 x).length<=4*bM x| .mk s v=>by have:=zgc v;simp only[zc7,bM,Al2];omega
def zjd:∀l,(ZV l).length<=4*bMs l
 | []=>by simp[ZV]
 | x::r=>by have A:=zve x;have I:=zjd r;simp only[ZV,bMs,Al5];omega
end
def inR(n:Int):Prop:=-9223372036854775808<=n/\n<=9223372036854775807
mutual
def wfV:Val->Prop| .mk _ n _ l m=>inR n/\znk l/\zf0 m
def znk:List Val->Prop
 | []=>True
 | v::r=>wfV v/\znk r
def wfM:Mem->Prop| .mk _ v=>wfV v
def zf0:List Mem->Prop
 | []=>True
 | x::r=>wfM x/\zf0 r
end
def zit:∀ {l:List Val},znk l->∀v∈l,wfV v| _::_,h,v,hv=>(List.mem_cons.1 hv).elim (λe=>e▸h.1) (zit h.2 v)
def zey:∀ {l:List Mem},zf0 l->∀s v,Mem.mk s v∈l->wfV v| _::_,h,s,v,hv=>(List.mem_cons.1 hv).elim (λe=>by have:=h.1;rw[<-e]at this;exact this) (zey h.2 s v)
def zce(a:List Tok)(t:Tok):cKs a++[[.int .i64 t.k,.str t.s]]=cKs (a++[t]):=by simp[cKs,cK]
def zmj(a:List Tok)(t u:Tok):cKs a++[[.int .i64 t.k,.str t.s],[.int .i64 u.k,.str u.s]]=cKs (a++[t,u]):=by simp[cKs,cK]
def zvz:∀v,wfV v->∀acc H o,acc.length+4*bV v<=Lim->zA H o acc.length 2->YG Tryz.prog 307 [.sl o 2 (cKs acc),.agg (cV v)] H o 2 (cKs (acc++yQ v)):=by
 refine Val.ind λk n s l m bj bk bf acc H o aa ho=>?_;obtain⟨U,bg,bh⟩:=bf;have ba:acc.length+4*(1+s.length+bVs l+bMs m)<=Lim:=aa;have bq:=zbl l;have br:=Zg m;have ap:=Y6 l;have aq:=yU m;have I:=yP acc;have bp:=ziU l;have bn:=zjd m;simp only[Lim]at ba;have be:s.length<=Lim:=by simp only[Lim];omega
 refine zd.goO ir307.1 ir307.2 (Al4 _) λKP Q X bo=>?_;have one:∀t:Tok,yQ (.mk k n s l m)=[t]->∀o' H',OwnS H o H' o' (acc.length+1) 2->zxr H o 2 (cKs (acc++yQ (.mk k n s l m))) (.sl o' 2 (cKs acc++[[.int .i64 t.k,.str t.s]])) H':=λt e o' H' A=>by rw[e];exact⟨o',by rw[zce],by rw[yP];simpa using A⟩
 have ab:((cKs acc).length+1)*24<=140737488355328:=by rw[I];omega
 have ac:(cKs acc).length+1<=maxLen:=by rw[I];simp only[maxLen];omega
 have bc:((cKs acc).length+2)*24<=140737488355328:=by rw[I];omega
 have bd:(cKs acc).length+2<=maxLen:=by rw[I];simp only[maxLen];omega
 have Y:zA H o (cKs acc).length 2:=by rw[I];exact ho
 by_cases ax:k=0
 ·subst ax;simp(disch:=omega) only[ir307,yj,go_sem];refine za (znB _) ?_;simp(disch:=omega) only[cK,go_sem];refine zj Y ab ac λo' H' A=>?_;simp(disch:=omega) only[go_sem];exact X _ _ H' H' [_] nofun rfl (Low.refl _) (one ⟨2,[110,117,108,108]⟩ (by simp[yQ]) o' H' (by simpa[I]using A))
 by_cases ay:k=1
 ·subst ay;simp(disch:=omega) only[ir307,yj,go_sem];refine za (zva _) ?_;simp(disch:=omega) only[go_sem];refine za (znB _) ?_;simp(disch:=omega) only[cK,go_sem];refine zj Y ab ac λo' H' A=>?_;simp(disch:=omega) only[go_sem];exact X _ _ H' H' [_] nofun rfl (Low.refl _) (one ⟨2,boolT (decide (n=1))⟩ (by simp[yQ]) o' H' (by simpa[I]using A))
 by_cases az:k=2
 ·subst az;simp(disch:=omega) only[ir307,yj,go_sem];refine za (zoF n U.1 U.2) ?_;simp(disch:=omega) only[go_sem];refine zj Y ab ac λo' H' A=>?_;simp(disch:=omega) only[go_sem];exact X _ _ H' H' [_] nofun rfl (Low.refl _) (one ⟨3,Lib.itoa n⟩ (by simp[yQ]) o' H' (by simpa[I]using A))
 by_cases a0:k=3
 ·subst a0;simp(disch:=omega) only[ir307,yj,go_sem];refine za (zgd s be) ?_;simp(disch:=omega) only[go_sem];refine zj Y ab ac λo' H' A=>?_;simp(disch:=omega) only[go_sem];exact X _ _ H' H' [_] nofun rfl (Low.refl _) (one ⟨zaO s,s⟩ (by simp[yQ]) o' H' (by simpa[I]using A))
 by_cases a1:k=4
 ·subst a1;simp(disch:=omega) only[ir307,yj,go_sem];refine zj Y ab ac λo' H' A=>?_;simp(disch:=omega) only[go_sem];exact X _ _ H' H' [_] nofun rfl (Low.refl _) (one ⟨5,s⟩ (by simp[yQ]) o' H' (by simpa[I]using A))
 by_cases a2:k=5
 ·subst a2;simp(disch:=omega) only[ir307,yj,go_sem];refine za (znB _) ?_;simp(disch:=omega) only[cK,go_sem];refine zj Y ab ac λo' H' A=>?_;simp(disch:=omega) only[go_sem];exact X _ _ H' H' [_] nofun rfl (Low.refl _) (one ⟨2,s⟩ (by simp[yQ]) o' H' (by simpa[I]using A))
 by_cases a4:k=8
 ·subst a4;simp(disch:=omega) only[ir307,yj,go_sem];refine za (zgY _) ?_;simp(disch:=omega) only[cK,go_sem];refine za (znB _) ?_;simp(disch:=omega) only[cK,go_sem];refine zj Y bc bd λo' H' A=>?_;simp(disch:=omega) only[go_sem];refine X _ _ H' H' [_] nofun rfl (Low.refl _) ?_;have e:yQ (.mk 8 n s l m)=[⟨1,[36]⟩,⟨2,s⟩]:=by simp[yQ]
  rw[e];exact⟨o',by rw[<-zmj];rfl,by rw[yP];simpa[I]using A⟩
 by_cases a3:k=6
 ·subst a3;have e:yQ (.mk 6 n s l m)=⟨1,[91]⟩::(zal l++[⟨1,[93]⟩]):=by simp[yQ]
  have ag:=zce acc ⟨1,[91]⟩;simp only at ag;simp(disch:=omega) only[ir307,yj,go_sem];refine za (zgY _) ?_;simp(disch:=omega) only[cK,go_sem];refine zj Y ab ac λaj H1 av=>?_;have aw:OwnS H o H1 aj (acc++[(⟨1,[91]⟩:Tok)]).length 2:=by simpa[I]using av
  simp(disch:=omega) only[ag,ap,go_sem];refine zf l 81 (λx:Own×List Tok=>[(0,.sl x.1 2 (cKs x.2))]) (λdone rest x H'=>x.2++zal rest=acc++⟨1,[91]⟩::zal l/\x.2.length+4*bVs rest<=acc.length+1+4*bVs l/\OwnS H o H' x.1 x.2.length 2) (aj,acc++[⟨1,[91]⟩]) (by simp(disch:=omega) only[go_sem]) ⟨by simp,by simp,aw⟩ ?_ ?_
  ·rintro⟨am,a⟩ ak an ⟨U,ae,A⟩ af;simp only[zal,List.append_nil,bVs]at U ae;have J:=yP a;simp(disch:=omega) only[ap,af,go_sem];refine za (zgY _) ?_;simp(disch:=omega) only[cK,go_sem];refine zj (by rw[J];exact A.own) (by simp only[J,Al2,Al3];omega) (by simp only[J,Al2,Al3,maxLen];omega) λad W Z=>?_;simp(disch:=omega) only[go_sem];refine X _ _ W W [_] nofun rfl (Low.refl _) ?_;have ao:acc++yQ (.mk 6 n s l m)=a++[⟨1,[93]⟩]:=by rw[e,U];simp
   rw[ao];exact⟨ad,by rw[<-zce];rfl,by rw[yP];exact A.trans (by simpa[J]using Z)⟩
  ·rintro done x rest ⟨am,a⟩ ak an ah af _ ⟨U,ae,A⟩ ar;have au:=zbf ah;have al:=zgc x;have ai:x∈l:=by rw[ah];simp
   simp only[zal,bVs]at U ae;simp(disch:=omega) only[zp,zk,zg,zn,zl,zh,zu,ap,af,au,go_sem];refine zc λb aa=>?_;simp(disch:=omega) only[zp,zk,zg,zn,zl,zh,zu,go_sem];refine zx (bj x ai (zit bg x ai) a _ am (by simp only[Lim];omega) (A.own.upd aa)) λad W Z=>?_;rw[yP]at Z;simp(disch:=omega) only[wrap64,go_sem];exact goJ (ar (ad,a++yQ x) W ⟨by rw[<-U];simp,by simp only[Al5];omega,(A.upd aa).trans Z⟩) (by simp(disch:=omega) only[go_sem])
 ·have e:yQ (.mk k n s l m)=⟨1,[123]⟩::(ZV m++[⟨1,[125]⟩]):=by simp[yQ,ax,ay,az,a0,a1,a2,a4,a3]
  have ag:=zce acc ⟨1,[123]⟩;simp only at ag;simp(disch:=omega) only[ir307,yj,ax,ay,az,a0,a1,a2,a4,a3,go_sem];refine za (zgY _) ?_;simp(disch:=omega) only[cK,go_sem];refine zj Y ab ac λaj H1 av=>?_;have aw:OwnS H o H1 aj (acc++[(⟨1,[123]⟩:Tok)]).length 2:=by simpa[I]using av
  simp(disch:=omega) only[ag,aq,go_sem];refine zf m 100 (λx:Own×List Tok=>[(0,.sl x.1 2 (cKs x.2))]) (λdone rest x H'=>x.2++ZV rest=acc++⟨1,[123]⟩::ZV m/\x.2.length+4*bMs rest<=acc.length+1+4*bMs m/\OwnS H o H' x.1 x.2.length 2) (aj,acc++[⟨1,[123]⟩]) (by simp(disch:=omega) only[go_sem]) ⟨by simp,by simp,aw⟩ ?_ ?_
  ·rintro⟨am,a⟩ ak an ⟨U,ae,A⟩ af;simp only[ZV,List.append_nil,bMs]at U ae;have J:=yP a;simp(disch:=omega) only[aq,af,go_sem];refine za (zgY _) ?_;simp(disch:=omega) only[cK,go_sem];refine zj (by rw[J];exact A.own) (by simp only[J,Al2,Al3];omega) (by simp only[J,Al2,Al3,maxLen];omega) λad W Z=>?_;simp(disch:=omega) only[go_sem];refine X _ _ W W [_] nofun rfl (Low.refl _) ?_;have ao:acc++yQ (.mk k n s l m)=a++[⟨1,[125]⟩]:=by rw[e,U];simp
   rw[ao];exact⟨ad,by rw[<-zce];rfl,by rw[yP];exact A.trans (by simpa[J]using Z)⟩
  ·rintro done x rest ⟨am,a⟩ ak an ah af _ ⟨U,ae,A⟩ ar;have au:=Zz ah;have ai:x∈m:=by rw[ah];simp
   obtain⟨t,v⟩:=x;have al:=zgc v;have J:=yP a;have bt:=zc8 v;simp only[ZV,zc7,bMs,bM]at U ae;have a5:=zmj a ⟨2,t⟩ ⟨1,[58]⟩;simp only at a5;simp(disch:=omega) only[zp,zk,zg,zn,zl,zh,zu,aq,af,au,go_sem];refine zc λb aa=>?_;simp(disch:=omega) only[zp,zk,zg,zn,zl,zh,zu,go_sem];refine za (znB _) ?_;simp(disch:=omega) only[zp,zk,zg,zn,zl,zh,zu,cK,go_sem];refine za (zgY _) ?_;simp(disch:=omega) only[zp,zk,zg,zn,zl,zh,zu,cK,go_sem];refine zj (by rw[J];exact A.own.upd aa) (by simp only[J,Al2,Al3];omega) (by simp only[J,Al2,Al3,maxLen];omega) λad W Z=>?_;have a6:OwnS H o W ad (a++[(⟨2,t⟩:Tok),⟨1,[58]⟩]).length 2:=(A.upd aa).trans (by simpa[J]using Z);have a9:W b=some (.cells (cM (.mk t v))):=Z.kept b _ (by simp[zb.upd,zu]) λd e=>by have:=A.own;subst e;have al:ak b=_:=this;rw[aa]at al;cases al
   simp(disch:=omega) only[zp,zk,zg,zn,zl,zh,zu,a5,a9,go_sem];refine zx (bk t v ai (zey bh t v ai) _ _ ad (by simp only[Lim,Al5,Al2,Al3];omega) a6.own) λbl a8 a7=>?_;rw[yP]at a7;simp(disch:=omega) only[wrap64,go_sem];exact goJ (ar (bl,a++[⟨2,t⟩,⟨1,[58]⟩]++yQ v) a8 ⟨by rw[<-U];simp,by simp only[Al5,Al2,Al3];omega,a6.trans a7⟩) (by simp(disch:=omega) only[go_sem])
def zdD(v:Val):List Tok:=if zbH v then yQ v else []
def zh1(v:Val)(U:wfV v)(I:4*bV v<=Lim):ze Tryz.prog 257 [.agg (cV v)] (.tup [.sl .no 2 (cKs (zdD v)),.bool (zbH v)]):=by
 have J:bV v<=Lim:=by omega
 refine ze.go ir257.1 ir257.2 (Al4 _) λKP Q A=>?_;simp(disch:=omega) only[zp,zk,zg,zn,zl,zh,zu,ir257,go_sem];refine za (zwm v J) ?_;cases h:zbH v with
 | false =>simp(disch:=omega) only[h,go_sem];exact A _ _ _ _ nofun rfl (by simp[zdD,h,cKs])
 | true =>simp(disch:=omega) only[zp,zk,zg,zn,zl,zh,zu,h,go_sem];refine zx (zvz v U [] _ .nil (by simpa using I) rfl) λo' H' W=>?_;simp(disch:=omega) only[go_sem];exact A _ _ _ _ nofun rfl (by simp[zdD,h])
end Go.Proofs.YtnemcnegfkjpeaaGreatDoor
namespace Go.Proofs.YtnemcnegfkjpeaaGreatDoor
def zpb(P:Program)(f:FuncId)(fn:Func)(s:ChangeSpec)(c:OpenClaim):Bool:=c.wf (OpenSpec.ofChange s)&&laidOutB P&&mapsRowed P&&fn.params.all (P.readableRec ·)&&namedTie P c.named s.vars
def zox(P:Program)(f:FuncId)(fn:Func)(s:ChangeSpec)(c:OpenClaim):Bool:=(c.stops==[])&&(P.stops==[])&&(c.knobs==[])&&(P.stopKnobs==[])&&(c.maps==(fn.params.toList++s.plain.varTypes P).any (P.mapsRec ·))&&(c.ifaces==(fn.params.toList++s.plain.varTypes P).any (P.ifacesRec ·))&&(c.mapsOut==P.mapsAmong fn.resultTypes.toList)&&(c.loops==(fn.params.toList++s.plain.varTypes P).any (P.loopsFrom ·))&&(c.wideKeys==(fn.params.toList++s.plain.varTypes P++fn.resultTypes.toList).any (P.wideKeysFrom ·))&&s.vars.all (P.varReadable ·)&&fn.resultTypes.all (λt=>P.readableRec t&&decide (t<P.types.size))&&(c.ifacesOut==fn.resultTypes.toList.any (P.ifacesRec ·))&&(c.loopsOut==fn.resultTypes.toList.any (P.loopsFrom ·))&&(c.veiled==(fn.params.toList++s.plain.varTypes P++fn.resultTypes.toList).any (P.veiledRec ·))&&c.veiledFits P fn.params.toList (fn.params.toList++s.plain.varTypes P++fn.resultTypes.toList)
def zn3(P:Program)(f:FuncId)(fn:Func)(s:ChangeSpec)(c:OpenClaim):Bool:=(c.inPlace==P.inPlace f)&&(c.unfollowed==P.unfollowed f)&&(c.recurses==P.recurses f)&&(c.named==P.varsNamed f)
def zoh(P:Program)(f:FuncId)(fn:Func)(s:ChangeSpec)(c:OpenClaim):Bool:=(c.plainKeys==P.plainKeys)&&c.shortTexts.isNone
def znR(P:Program)(f:FuncId)(fn:Func)(s:ChangeSpec)(c:OpenClaim):Bool:=P.stopsHeard
def zoj(P:Program)(f:FuncId)(fn:Func)(s:ChangeSpec)(c:OpenClaim):Bool:=P.mayEnter
def zoO(P:Program)(f:FuncId)(fn:Func)(s:ChangeSpec)(c:OpenClaim):Bool:=(c.lifted==P.liftsFinal)&&(P.make==some c.make)&&(c.kinds==(if c.domain.isEmpty then []else fn.params.toList.map λt=>match P.underlying t with|some (.int k)=>some k|_=>none))&&(c.pinned==c.pinnedBy)
def zrH{P:Program}{f:FuncId}{fn:Func}{s:ChangeSpec}{c:OpenClaim}(A:zpb P f fn s c=true)(I:zox P f fn s c=true)(J:zn3 P f fn s c=true)(U:zoh P f fn s c=true)(W:znR P f fn s c=true)(X:zoj P f fn s c=true)(Y:zoO P f fn s c=true):joinedFacts P f fn s c=true:=by simp only[zpb,Al0]at A;obtain⟨⟨⟨⟨Z,aa⟩,al⟩,ay⟩,a1⟩:=A;simp only[zox,Al0]at I;obtain⟨⟨⟨⟨⟨⟨⟨⟨⟨⟨⟨⟨⟨⟨a2,a3⟩,a4⟩,a5⟩,ae⟩,af⟩,ag⟩,ah⟩,ai⟩,aj⟩,ak⟩,am⟩,an⟩,az⟩,a0⟩:=I;simp only[zn3,Al0]at J;obtain⟨⟨⟨a6,ab⟩,ac⟩,ad⟩:=J;simp only[zoh,Al0]at U;obtain⟨ao,ap⟩:=U;simp only[znR,Al0]at W;have aq:=W;simp only[zoj,Al0]at X;have ar:=X;simp only[zoO,Al0]at Y;obtain⟨⟨⟨au,av⟩,aw⟩,ax⟩:=Y;simp only[joinedFacts,Al0];exact⟨⟨⟨⟨⟨⟨⟨⟨⟨⟨⟨⟨⟨⟨⟨⟨⟨⟨⟨⟨⟨⟨⟨⟨⟨⟨⟨⟨⟨⟨⟨Z,aa⟩,al⟩,ay⟩,a1⟩,a2⟩,a3⟩,a4⟩,a5⟩,a6⟩,ab⟩,ac⟩,ad⟩,ae⟩,af⟩,ag⟩,ah⟩,ai⟩,aj⟩,ak⟩,am⟩,an⟩,ao⟩,ap⟩,aq⟩,ar⟩,au⟩,av⟩,aw⟩,ax⟩,az⟩,a0⟩
open Go.Ab Go.ChangeAt Go.ChangeShapes Go.Lib Go.RowKit Go.WideElems Go.WideShapes
def own:ownKnob Tryz.prog.godebug=none:=by kernel_rfl
def laidOut:laidOutB Tryz.prog=true:=by kernel_rfl
def zpn:∀l,bVs l=(l.map bV).sum
 | []=>rfl
 | v::r=>by simp[bVs,zpn r]
def zqb:∀l,bMs l=(l.map bM).sum
 | []=>rfl
 | v::r=>by simp[bMs,zqb r]
def zmC:∀ {l:List Val},(∀v∈l,wfV v)->znk l
 | [],_=>trivial
 | v::r,h=>⟨h v (.head _),zmC λx A=>h x (.tail _ A)⟩
def znK:∀ {l:List Mem},(∀v∈l,wfM v)->zf0 l
 | [],_=>trivial
 | v::r,h=>⟨h v (.head _),znK λx A=>h x (.tail _ A)⟩
def zoV{n:Int}(h:(Lit.int .i64 n).wf=true):inR n:=by simp[Lit.wf,IntKind.has,IntKind.min,IntKind.max,IntKind.signed,IntKind.bits]at h;unfold inR;omega
abbrev DV(m:Nat):Prop:=zI Tryz.prog m 78 5 cV wfV bV
abbrev DM(m:Nat):Prop:=zI Tryz.prog m 112 6 cM wfM bM
def zAz{m:Nat}(h:DV m):zI Tryz.prog (m+1) 76 1 (λl:List Val=>[.sl .no 5 (cVs l)]) (λl=>znk l) (λl=>bVs l+1):=by intro H enc A cs d ps I J;obtain⟨a,U,W,X,Y⟩:=zI.slice (t:=76) Tryz.underlying76 (B:=80) (sz:=5) (by kernel_rfl) (by kernel_rfl) (by decide) h enc A cs d ps I J;exact⟨a,zmC U.2.2,by simp only[zpn];exact W,X,by simp only[zeY];exact Y⟩
def zw4{m:Nat}(h:DM m):zI Tryz.prog (m+1) 47 1 (λl:List Mem=>[.sl .no 6 (cMs l)]) (λl=>zf0 l) (λl=>bMs l+1):=by intro H enc A cs d ps I J;obtain⟨a,U,W,X,Y⟩:=zI.slice (t:=47) Tryz.underlying47 (B:=96) (sz:=6) (by kernel_rfl) (by kernel_rfl) (by decide) h enc A cs d ps I J;exact⟨a,znK U.2.2,by simp only[zqb];exact W,X,by simp only[zaE];exact Y⟩
def dec:∀m,DV m/\DM m:=by
 intro m;induction m using Nat.strongRecOn with
 | _ m A =>
  have U:∀ {k},k<=m->zI Tryz.prog k 76 1 (λl:List Val=>[.sl .no 5 (cVs l)]) (λl=>znk l) (λl=>bVs l+1):=fun {k} I=>by
   cases k with
   | zero=>exact zI.zero
   | succ k=>exact zAz (A k (by omega)).1
  have J:∀ {k},k<=m->zI Tryz.prog k 47 1 (λl:List Mem=>[.sl .no 6 (cMs l)]) (λl=>zf0 l) (λl=>bMs l+1):=fun {k} I=>by
   cases k with
   | zero=>exact zI.zero
   | succ k=>exact zw4 (A k (by omega)).2
  refine⟨?_,?_⟩
  ·cases m with
   | zero=>exact zI.zero
   | succ k =>exact zI.struct (zy.cons (by kernel_rfl) (zI.int (k:=.i64) Tryz.underlying3) (zy.cons (by kernel_rfl) (zI.int (k:=.i64) Tryz.underlying2) (zy.cons (by kernel_rfl) (zI.str Tryz.underlying9) (zy.cons (by kernel_rfl) (U (by omega)) (zy.cons (by kernel_rfl) (J (by omega)) zy.nil))))) (by kernel_rfl) (by kernel_rfl) cV wfV bV (λx=>.mk x.1 x.2.1 x.2.2.1 x.2.2.2.1 x.2.2.2.2.1) (λa=>rfl) (λa h=>⟨zoV h.2.1,h.2.2.2.1,h.2.2.2.2.1⟩) (λa=>by simp only[bV];omega)
  ·cases m with
   | zero=>exact zI.zero
   | succ k =>exact zI.struct (zy.cons (by kernel_rfl) (zI.str Tryz.underlying9) (zy.cons (by kernel_rfl) (A k (by omega)).1 zy.nil)) (by kernel_rfl) (by kernel_rfl) cM wfM bM (λx=>.mk x.1 x.2.1) (λa=>by simp[cM]) (λa h=>h.2.1) (λa=>by simp only[bM];omega)
def zw0(m:Nat):DV m:=(dec m).1
def ztp:∀m,zI Tryz.prog m 47 1 (λl:List Mem=>[.sl .no 6 (cMs l)]) (λl=>zf0 l) (λl=>bMs l+1)
 | 0=>zI.zero
 | m+1=>zw4 (dec m).2
def zs6{A:World}{r:Reach}{b:Nat}{t:TypeId}{I:Array Field}{v:Value}(J:Tryz.prog.underlying t=some (.struct I))(h:Value.okWide Tryz.prog A r b t v):∃cs,v=.agg cs:=by unfold Value.okWide at h;rw[J]at h;obtain⟨cs,h,_⟩:=h;exact⟨cs,h⟩
def zrh{H:Type}{s:ChangeSpec}{ds:List (DataW H)}(h:∀k,(Rows.OpenSpec.upto s).cond=some k->k H ds=true):Yy ds<=1048576:=by
 have A:Rows.uptoSmall H ds=true:=h _ rfl;have I:=of_decide_eq_true A
 rwa [zbC]at I
end Go.Proofs.YtnemcnegfkjpeaaGreatDoor
namespace Go.Proofs.YtnemcnegfkjpeaaGreatDoor
open Go.Ab
structure DirD where
 nm:List UInt8
 args:List Mem
inductive SelD where
 | mk (k:Int) (al nm:List UInt8) (args:List Mem) (dirs:List DirD) (on:List UInt8) (sels:List SelD)
structure TyD where
 nm:List UInt8
 lists:Int
 musts:Int
structure VarD where
 nm:List UInt8
 t:TyD
 has:Bool
 d:Val
structure OpD where
 k:Int
 nm:List UInt8
 vars:List VarD
 dirs:List DirD
 sels:List SelD
structure FragD where
 nm:List UInt8
 on:List UInt8
 dirs:List DirD
 sels:List SelD
structure DocD where
 ops:List OpD
 frags:List FragD
def cD(x:DirD):List AV:=[.str x.nm,.sl .no 6 (cMs x.args)]
def cDs(l:List DirD):List (List AV):=l.map cD
mutual
def cS:SelD->List AV| .mk k al nm args dirs on sels=>[.int .i64 k,.str al,.str nm,.sl .no 6 (cMs args),.sl .no 2 (cDs dirs),.str on,.sl .no 7 (cSs sels)]
def cSs:List SelD->List (List AV)
 | []=>[]
 | x::r=>cS x::cSs r
end
def cTy(t:TyD):List AV:=[.str t.nm,.int .i64 t.lists,.int .i64 t.musts]
def cW(x:VarD):List AV:=cTy ⟨x.nm,0,0⟩ |>.take 1 |>.append (cTy x.t++(.bool x.has::cV x.d))
def cWs(l:List VarD):List (List AV):=l.map cW
def cO(x:OpD):List AV:=[.int .i64 x.k,.str x.nm,.sl .no 10 (cWs x.vars),.sl .no 2 (cDs x.dirs),.sl .no 7 (cSs x.sels)]
def cOs(l:List OpD):List (List AV):=l.map cO
def cF(x:FragD):List AV:=[.str x.nm,.str x.on,.sl .no 2 (cDs x.dirs),.sl .no 7 (cSs x.sels)]
def cFs(l:List FragD):List (List AV):=l.map cF
def zU(d:DocD):List AV:=[.sl .no 5 (cOs d.ops),.sl .no 4 (cFs d.frags)]
def zhz(nm:List UInt8)(t:TyD)(h:Bool)(d:Val):cW ⟨nm,t,h,d⟩=.str nm::.str t.nm::.int .i64 t.lists::.int .i64 t.musts::.bool h::cV d:=rfl
def zdq:∀l,cSs l=l.map cS
 | []=>rfl
 | v::r=>by rw[cSs,zdq r];rfl
def Y4(l:List DirD):(cDs l).length=l.length:=by simp[cDs]
def YK(l:List SelD):(cSs l).length=l.length:=by rw[zdq];simp
def Zk(l:List VarD):(cWs l).length=l.length:=by simp[cWs]
def Z9(l:List OpD):(cOs l).length=l.length:=by simp[cOs]
def YO(l:List FragD):(cFs l).length=l.length:=by simp[cFs]
def zbb{l a:List DirD}{x:DirD}{b:List DirD}(h:l=a++x::b):(cDs l).getD a.length []=cD x:=yz h
def zbo{l a:List SelD}{x:SelD}{b:List SelD}(h:l=a++x::b):(cSs l).getD a.length []=cS x:=by rw[zdq,yz h]
def Ya{l a:List VarD}{x:VarD}{b:List VarD}(h:l=a++x::b):(cWs l).getD a.length []=cW x:=yz h
def YJ{l a:List OpD}{x:OpD}{b:List OpD}(h:l=a++x::b):(cOs l).getD a.length []=cO x:=yz h
def zad{l a:List FragD}{x:FragD}{b:List FragD}(h:l=a++x::b):(cFs l).getD a.length []=cF x:=yz h
def y9(k:Int)(A nm:List UInt8)(args:List Mem)(dirs:List DirD)(on:List UInt8)(sels:List SelD):cS (.mk k A nm args dirs on sels)=[.int .i64 k,.str A,.str nm,.sl .no 6 (cMs args),.sl .no 2 (cDs dirs),.str on,.sl .no 7 (cSs sels)]:=rfl
def zr8(x:DirD):(cD x).map AV.strip1=cD x:=rfl
def zgh(x:SelD):(cS x).map AV.strip1=cS x:=by cases x;rfl
def zdY(x:VarD):(cW x).map AV.strip1=cW x:=by rcases x with ⟨a,b,c,⟨⟩⟩;rfl
def zg6(x:SelD):(cS x).length=7:=by cases x;rfl
def zgW(x:SelD):(cS x).take 7=cS x:=by cases x;rfl
def zcy(a b c d e f g:AV)(x:SelD):splice [a,b,c,d,e,f,g] 0 (cS x)=cS x:=by cases x;rfl
def zeE(x:VarD):(cW x).length=10:=by rcases x with ⟨a,b,c,⟨⟩⟩;rfl
def zb9(x:VarD):(cW x).take 10=cW x:=by rcases x with ⟨a,b,c,⟨⟩⟩;rfl
def bD(x:DirD):Nat:=1+x.nm.length+bMs x.args
def bDs(l:List DirD):Nat:=(l.map bD).sum
mutual
def bS:SelD->Nat| .mk _ al nm args dirs on sels=>1+al.length+nm.length+on.length+bMs args+bDs dirs+bSs sels
def bSs:List SelD->Nat
 | []=>0
 | x::r=>bS x+bSs r
end
def bW(x:VarD):Nat:=x.nm.length+x.t.nm.length+bV x.d
def bWs(l:List VarD):Nat:=(l.map bW).sum
def bO(x:OpD):Nat:=1+x.nm.length+bWs x.vars+bDs x.dirs+bSs x.sels
def bOs(l:List OpD):Nat:=(l.map bO).sum
def bF(x:FragD):Nat:=1+x.nm.length+x.on.length+bDs x.dirs+bSs x.sels
def bFs(l:List FragD):Nat:=(l.map bF).sum
def zw(d:DocD):Nat:=bOs d.ops+bFs d.frags
def zaF{α:Type}{f:α->Nat}(A:∀x,1<=f x):∀l:List α,l.length<=(l.map f).sum
 | []=>Nat.zero_le _
 | x::r=>by have:=zaF A r;have:=A x;simp only[List.map_cons,List.sum_cons,Al2];omega
def zc9{α:Type}(f:α->Nat)(a:List α)(x:α)(b:List α):((a++x::b).map f).sum=(a.map f).sum+f x+(b.map f).sum:=by simp;omega
def zbh(l:List DirD):l.length<=bDs l:=zaF (λx=>by simp only[bD];omega) l
def yJ(l:List VarD):l.length<=bWs l:=zaF (λx=>by have:=zc8 x.d;simp only[bW];omega) l
def Zu(l:List OpD):l.length<=bOs l:=zaF (λx=>by simp only[bO];omega) l
def yC(l:List FragD):l.length<=bFs l:=zaF (λx=>by simp only[bF];omega) l
def zzi(x:SelD):1<=bS x:=by cases x;simp only[bS];omega
def Y9:∀l:List SelD,l.length<=bSs l
 | []=>by simp
 | v::r=>by have:=Y9 r;have:=zzi v;simp only[bSs,Al2];omega
def zeT(a:List DirD)(x:DirD)(b:List DirD):bDs (a++x::b)=bDs a+bD x+bDs b:=zc9 ..
def zh6(a:List VarD)(x:VarD)(b:List VarD):bWs (a++x::b)=bWs a+bW x+bWs b:=zc9 ..
def YW(a:List OpD)(x:OpD)(b:List OpD):bOs (a++x::b)=bOs a+bO x+bOs b:=zc9 ..
def zlI(a:List FragD)(x:FragD)(b:List FragD):bFs (a++x::b)=bFs a+bF x+bFs b:=zc9 ..
def zbk(a:List SelD)(x:SelD)(b:List SelD):bSs (a++x::b)=bSs a+bS x+bSs b:=by
 induction a with
 | nil=>simp[bSs]
 | cons y a A=>simp only[Al6,bSs,A];omega
mutual
def SelD.ind{P:SelD->Prop}(h:∀k A nm args dirs on sels,(∀v∈sels,P v)->P (.mk k A nm args dirs on sels)):∀v,P v| .mk k A nm args dirs on sels=>h k A nm args dirs on sels (SelD.indL h sels)
def SelD.indL{P:SelD->Prop}(h:∀k A nm args dirs on sels,(∀v∈sels,P v)->P (.mk k A nm args dirs on sels)):∀l:List SelD,∀v∈l,P v
 | [],_,hv=>by cases hv
 | x::r,v,hv=>(List.mem_cons.1 hv).elim (λe=>e▸SelD.ind h x) (SelD.indL h r v)
end
def zgp{t:List UInt8}{v:Val}{m:List Mem}(h:Mem.mk t v∈m):bV v<=bMs m:=by obtain⟨a,b,A⟩:=List.append_of_mem h;have:=zdt a (.mk t v) b;rw[<-A]at this;simp only[bM]at this;omega
def hexL:List UInt8:=[48,49,50,51,52,53,54,55,56,57,97,98,99,100,101,102]
def hexD(c:UInt8):Option Nat:=if Lib.indexByte hexL (c ||| 32)<0∨c.toNat<48∨(57<c.toNat/\c.toNat<65)then none else some (Lib.indexByte hexL (c ||| 32)).toNat
def zeF:Nat->List UInt8->Nat->Option Nat
 | 0,_,u=>some u
 | _+1,[],_=>none
 | n+1,c::t,u=>match hexD c with
  | none=>none
  | some k=>zeF n t (16*u+k)
def zcV(s:List UInt8):Option Nat:=zeF 4 s 0
def Z7(n:Nat):List UInt8 :=
 if n<=127 then [UInt8.ofNat n]
 else if n<=2047 then [UInt8.ofNat (192+n / 64),UInt8.ofNat (128+n % 64)]
 else if n<=65535 then [UInt8.ofNat (224+n / 4096),UInt8.ofNat (128+n / 64 % 64),UInt8.ofNat (128+n % 64)]
 else [UInt8.ofNat (240+n / 262144),UInt8.ofNat (128+n / 4096 % 64),UInt8.ofNat (128+n / 64 % 64),UInt8.ofNat (128+n % 64)]
def yh:List Nat->Option (List UInt8)
 | []=>some []
 | u::r=>if 65535<u∨(56320<=u/\u<=57343)then none
  else if 55296<=u/\u<56320 then match r with
   | []=>none
   | v::r=>if v<56320∨57343<v then none else (yh r).map (Z7 (65536+1024*(u-55296)+(v-56320))++·)
  else (yh r).map (Z7 u++·)
structure Sd where
 b:List UInt8
 u:List Nat
 ok:Bool
def ZF(q:Sd):Sd:=⟨q.b++(yh q.u).getD [],[],q.ok&&(yh q.u).isSome⟩
def Sd.put(q:Sd)(c:UInt8):Sd:=⟨(ZF q).b++[c],[],(ZF q).ok⟩
def zij:List UInt8:=[34,92,47,98,102,110,114,116]
def zx2:List UInt8:=[34,92,47,8,12,10,13,9]
def zdG(q:Sd):List UInt8->Option (Sd×List UInt8)
 | []=>none
 | c::t=>if c=117 then (zcV t).map λu=>(⟨q.b,q.u++[u],q.ok⟩,t.drop 4)else if Lib.indexByte zij c<0 then none else some (q.put (zx2.getD (Lib.indexByte zij c).toNat 0),t)
def zfq(may:UInt8->Bool):Nat->List UInt8->Sd->Option (Sd×List UInt8)
 | 0,_,_=>none
 | _+1,[],_=>none
 | n+1,c::t,q=>if c=34 then some (ZF q,t)
  else if c=92 then match zdG q t with
   | none=>none
   | some (q',t')=>zfq may n t' q'
  else if may c then zfq may n t (q.put c)else none
def zht(may:UInt8->Bool)(t:List UInt8):Option (List UInt8×List UInt8):=match zfq may (t.length+1) t ⟨[],[],true⟩with
 | some (q,t')=>if q.ok then some (q.b,t')else none
 | none=>none
def nch(c:UInt8):Bool:=decide (0<=Lib.indexByte [48,49,50,51,52,53,54,55,56,57,43,45,46,101,69] c)
def nst(c:UInt8):Bool:=decide (0<=Lib.indexByte [45,48,49,50,51,52,53,54,55,56,57] c)
def zjb(s:List UInt8):Val:=if YX s then .mk 2 (zjv s) [] [] []else .mk 3 0 s [] []
def zi4{q q':Sd}{t t':List UInt8}(h:zdG q t=some (q',t')):t' <:+ t/\t'.length<t.length:=by
 cases t with
 | nil=>cases h
 | cons c t =>
  simp only[zdG]at h;split at h
  ·cases A:zcV t with
   | none=>simp[A]at h
   | some u =>simp only[A,ZS,Al1,Al8]at h;obtain⟨_,rfl⟩:=h;exact⟨(List.drop_suffix _ _).trans (List.suffix_cons ..),by simp;omega⟩
  ·split at h
   ·cases h
   ·simp only[Al1,Al8]at h;obtain⟨_,rfl⟩:=h;exact⟨List.suffix_cons ..,by simp⟩
def zeS:∀(n:Nat) (t:List UInt8) (u v:Nat),zeF n t u=some v->n<=t.length
 | 0,_,_,_,_=>Nat.zero_le _
 | n+1,[],_,_,h=>by cases h
 | n+1,c::t,u,v,h=>by
  simp only[zeF]at h;split at h
  ·cases h
  ·have:=zeS n t _ v h;simp;omega
def zeJ(n:Nat):(Z7 n).length<=4/\(n<=65535->(Z7 n).length<=3):=by
 unfold Z7;split
 ·simp
 ·split
  ·simp
  ·split
   ·simp
   ·refine⟨by simp,λh=>by omega⟩
def zhn:∀(u:List Nat) (s:List UInt8),yh u=some s->s.length<=3*u.length
 | [],s,h=>by cases h;simp
 | u::[],s,h=>by
  simp only[yh]at h;split at h
  ·cases h
  ·rename_i I;split at h
   ·cases h
   ·simp only[ZS,Al1]at h;subst h;have:=(zeJ u).2 (by omega);simp;omega
 | u::v::r,s,h=>by
  rw[yh]at h;split at h
  ·cases h
  ·rename_i I;split at h
   ·split at h
    ·cases h
    ·cases hr:yh r with
     | none=>simp[hr]at h
     | some x =>simp only[hr,ZS,Al1]at h;subst h;have A:=zhn r x hr;have J:=(zeJ (65536+1024*(u-55296)+(v-56320))).1;simp only[Al5,Al2];omega
   ·cases hr:yh (v::r)with
    | none=>simp[hr]at h
    | some x =>simp only[hr,ZS,Al1]at h;subst h;have A:=zhn (v::r) x hr;have J:=(zeJ u).2 (by omega);simp only[Al5,Al2]at A ⊢;omega
def Sd.w(q:Sd):Nat:=q.b.length+3*q.u.length
def zgz(q:Sd):(ZF q).b.length<=q.w:=by
 unfold ZF Sd.w;cases h:yh q.u with
 | none=>simp
 | some s=>have:=zhn _ _ h;simp;omega
def ztZ(q:Sd)(c:UInt8):(q.put c).w<=q.w+1:=by have:=zgz q;simp only[Sd.put,Sd.w,Al5,Al2,Al3]at this ⊢;omega
def ztk{q q':Sd}{t t':List UInt8}(h:zdG q t=some (q',t')):q'.w+t'.length<=q.w+t.length:=by
 cases t with
 | nil=>cases h
 | cons c t =>
  simp only[zdG]at h;split at h
  ·cases A:zcV t with
   | none=>simp[A]at h
   | some u =>simp only[A,ZS,Al1,Al8]at h;obtain⟨rfl,rfl⟩:=h;have:=zeS _ _ _ _ A;simp only[Sd.w,Al5,Al2,Al3,zbc];omega
  ·split at h
   ·cases h
   ·simp only[Al1,Al8]at h;obtain⟨rfl,rfl⟩:=h;have:=ztZ q (zx2.getD (Lib.indexByte zij c).toNat 0);simp only[Al2];omega
def zok{J:UInt8->Bool}:∀(n:Nat) (t:List UInt8) (q q':Sd) (t':List UInt8),zfq J n t q=some (q',t')->q'.b.length+t'.length+1<=q.w+t.length
 | 0,_,_,_,_,h=>by cases h
 | _+1,[],_,_,_,h=>by cases h
 | n+1,c::t,q,q',t',h=>by
  simp only[zfq]at h;split at h
  ·simp only[Al1,Al8]at h;obtain⟨rfl,rfl⟩:=h;have:=zgz q;simp only[Al2];omega
  ·split at h
   ·cases A:zdG q t with
    | none=>simp[A]at h
    | some x =>obtain⟨U,W⟩:=x;simp only[A]at h;have X:=ztk A;have I:=zok n W U q' t' h;simp only[Al2];omega
   ·split at h
    ·have I:=zok n t _ q' t' h;have Y:=ztZ q c;simp only[Al2];omega
    ·cases h
def zy0{A:UInt8->Bool}{t t' b:List UInt8}(h:zht A t=some (b,t')):b.length+t'.length+1<=t.length:=by
 unfold zht at h;split at h
 ·rename_i q I hq;split at h
  ·cases h;have:=zok _ _ _ _ _ hq;simpa[Sd.w]using this
  ·cases h
 ·cases h
def zlh:inR 0:=by simp[inR]
def zrc{s:List UInt8}{n:Int}(h:Lib.parseIntB 64 s=.ok n):inR n:=by
 cases s with
 | nil=>cases h
 | cons c r =>
  simp only[Lib.parseIntB]at h;split at h
  ·cases h
  ·cases h
  ·split at h
   ·cases h
   ·split at h
    ·cases h
    ·rename_i A I;cases h;simp only[inR];split<;>simp_all<;>omega
def ztB(s:List UInt8):bV (zjb s)<=1+s.length/\wfV (zjb s):=by
 unfold zjb;split
 ·rename_i h;refine⟨by simp only[bV,bVs,bMs,Al3];omega,?_,trivial,trivial⟩;unfold YX at h;unfold zjv;rcases hp:Lib.parseIntB 64 s with v|_|_
  ·exact zrc hp
  ·exact zlh
  ·rw[hp]at h;simp[okI]at h
 ·exact⟨by simp only[bV,bVs,bMs];omega,zlh,trivial,trivial⟩
abbrev TS:=List Tok
def hdT(t:TS):Tok:=t.headD ⟨0,[]⟩
def isP(m:List UInt8)(t:TS):Bool:=decide ((hdT t).k=1)&&decide ((hdT t).s=m)
def isW(w:List UInt8)(t:TS):Bool:=decide ((hdT t).k=2)&&decide ((hdT t).s=w)
abbrev PR(α:Type):=Except Int (α×TS)
def pb{α β:Type}(x:PR α)(f:α->TS->PR β):PR β:=match x with
 | .ok (a,t)=>f a t
 | .error e=>.error e
def zD{α A:Type}(a:α)(t:TS)(f:α->TS->PR A):pb (.ok (a,t)) f=f a t:=rfl
def Y3(m:List UInt8)(t:TS):PR Unit:=if isP m t then .ok ((),t.tail)else .error 2
def Zq(t:TS):PR (List UInt8):=if (hdT t).k=2 then .ok ((hdT t).s,t.tail)else .error 2
def YZ(w:List UInt8)(t:TS):TS:=if isW w t then t.tail else t
def yR{α:Type}(m:List UInt8)(f:TS->PR α):Nat->List α->TS->PR (List α)
 | 0,_,_=>.error 0
 | n+1,l,t=>if isP m t then .ok (l,t.tail)else pb (f t) λx t=>yR m f n (l++[x]) t
def zcu{α:Type}(m:List UInt8)(f:TS->PR α)(t:TS):PR (List α):=pb (f t) λx t=>yR m f (t.length+1) [x] t
def zbv{α:Type}(m:List UInt8)(f:TS->PR α):Nat->List α->TS->PR (List α)
 | 0,_,_=>.error 0
 | n+1,l,t=>if isP m t then pb (f t.tail) λx t=>zbv m f n (l++[x]) t else .ok (l,t)
def zgg(ty:TyD)(t:TS):PR TyD:=if isP [33] t then .ok (⟨ty.nm,ty.lists,ty.musts+1⟩,t.tail)else .ok (ty,t)
def zm9{α:Type}(f:Nat->α):Nat->Option α
 | 0=>none
 | k+1=>some (f k)
def zlZ{α:Type}(f:Nat->α)(k:Nat):zm9 f (k+1)=some (f k):=rfl
def zjE(sub:Option (TS->PR TyD))(t:TS):PR TyD:=if isP [91] t then (match sub with
  | none=>.error 4
  | some f=>pb (f t.tail) λty t=>pb (Y3 [93] t) λ_ t=>zgg ⟨ty.nm,ty.lists+1,ty.musts*2⟩ t)
 else pb (Zq t) λs t=>zgg ⟨s,0,0⟩ t
def zei:Nat->TS->PR TyD
 | 0=>zjE none
 | k+1=>zjE (some (zei k))
def zc5(k:Nat)(t:TS):zei k t=zjE (zm9 zei k) t:=by cases k<;>rfl
def zca(s:List UInt8):Val:=if s=[110,117,108,108]then zV else if s=[116,114,117,101]then .mk 1 1 [] [] []else if s=[102,97,108,115,101]then .mk 1 0 [] [] []else .mk 5 0 s [] []
def Zc(v:TS->PR Val)(t:TS):PR Mem:=pb (Zq t) λs t=>pb (Y3 [58] t) λ_ t=>pb (v t) λx t=>.ok (.mk s x,t)
def zbS(fixed:Bool)(sub:Option (TS->PR Val))(t:TS):PR Val :=
 if (hdT t).k=2 then .ok (zca (hdT t).s,t.tail)
 else if (hdT t).k=3∨(hdT t).k=4 then .ok (zjb (hdT t).s,t.tail)
 else if (hdT t).k=5 then .ok (.mk 4 0 (hdT t).s [] [],t.tail)
 else if isP [91] t then (match sub with
  | none=>.error 4
  | some f=>pb (yR [93] f (t.tail.length+1) [] t.tail) λl t=>.ok (.mk 6 0 [] l [],t))
 else if isP [123] t then (match sub with
  | none=>.error 4
  | some f=>pb (yR [125] (Zc f) (t.tail.length+1) [] t.tail) λl t=>.ok (.mk 7 0 [] [] l,t))
 else if fixed then .error 2
 else pb (Y3 [36] t) λ_ t=>pb (Zq t) λs t=>.ok (.mk 8 0 s [] [],t)
def ZW(fixed:Bool):Nat->TS->PR Val
 | 0=>zbS fixed none
 | k+1=>zbS fixed (some (ZW fixed k))
def Zm(fixed:Bool)(k:Nat)(t:TS):ZW fixed k t=zbS fixed (zm9 (ZW fixed) k) t:=by cases k<;>rfl
def zb1(fixed:Bool)(k:Nat)(t:TS):PR (List Mem):=if isP [40] t then zcu [41] (Zc (ZW fixed k)) t.tail else .ok ([],t)
def zjj(fixed:Bool)(k:Nat)(t:TS):PR DirD:=pb (Zq t) λs t=>pb (zb1 fixed k t) λa t=>.ok (⟨s,a⟩,t)
def zap(fixed:Bool)(k:Nat)(t:TS):PR (List DirD):=zbv [64] (zjj fixed k) (t.length+1) [] t
def Yd(sels:TS->PR (List SelD))(k:Nat)(t:TS):PR SelD :=
 if (hdT t).k=2/\isW [111,110] t=false then pb (Zq t) λs t=>pb (zap false k t) λd t=>.ok (.mk 1 [] s [] d [] [],t)
 else pb (if isW [111,110] t then Zq t.tail else .ok ([],t)) λo t=>pb (zap false k t) λd t=>pb (sels t) λl t=>.ok (.mk 2 [] [] [] d o l,t)
def zcs(sels:TS->PR (List SelD))(k:Nat)(t:TS):PR SelD :=
 if isP [46,46,46] t then Yd sels k t.tail
 else pb (Zq t) λs t=>pb (if isP [58] t then pb (Zq t.tail) λs2 t=>.ok ((s,s2),t)else .ok (([],s),t)) λan t =>pb (zb1 false k t) λa t=>pb (zap false k t) λd t=>pb (if isP [123] t then sels t else .ok ([],t)) λl t=>.ok (.mk 0 an.1 an.2 a d [] l,t)
def yw:Nat->TS->PR (List SelD)
 | 0,t=>if isP [123] t then .error 4 else .error 2
 | k+1,t=>if isP [123] t then zcu [125] (zcs (yw k) k) t.tail else .error 2
def zbU(t:TS):PR VarD:=pb (Y3 [36] t) λ_ t=>pb (Zq t) λs t=>pb (Y3 [58] t) λ_ t=>pb (zei 4 t) λty t =>if isP [61] t then pb (ZW true 16 t.tail) λv t=>.ok (⟨s,ty,true,v⟩,t)else .ok (⟨s,ty,false,zV⟩,t)
def opP(kind:Int)(t:TS):PR OpD :=
 pb (if (hdT t).k=2 then Zq t else .ok ([],t)) λs t=>pb (if isP [40] t then zcu [41] zbU t.tail else .ok ([],t)) λvs t =>
 pb (zap true 16 t) λd t=>pb (yw 16 t) λl t=>.ok (⟨kind,s,vs,d,l⟩,t)
def zfj(t:TS):PR FragD :=
 pb (if isW [111,110] t then .error 2 else Zq t) λs t=>pb (if isW [111,110] t then .ok ((),t.tail)else .error 2) λ_ t=>pb (Zq t) λo t =>
 pb (zap true 16 t) λd t=>pb (yw 16 t) λl t=>.ok (⟨s,o,d,l⟩,t)
def zbp(d:DocD)(t:TS):PR DocD :=
 if isP [123] t then pb (yw 16 t) λl t=>.ok (⟨d.ops++[⟨0,[],[],[],l⟩],d.frags⟩,t)
 else if isW [113,117,101,114,121] t then pb (opP 0 t.tail) λo t=>.ok (⟨d.ops++[o],d.frags⟩,t)
 else if isW [109,117,116,97,116,105,111,110] t then pb (opP 1 t.tail) λo t=>.ok (⟨d.ops++[o],d.frags⟩,t)
 else if isW [102,114,97,103,109,101,110,116] t then pb (zfj t.tail) λf t=>.ok (⟨d.ops,d.frags++[f]⟩,t)
 else .error 2
def zcc:Nat->DocD->TS->PR DocD
 | 0,_,_=>.error 0
 | n+1,d,t=>if t=[]then .ok (d,t)else pb (zbp d t) λd t=>zcc n d t
def znN(t:TS):PR DocD:=pb (zbp ⟨[],[]⟩ t) λd t=>zcc (t.length+1) d t
def wK(t:Tok):Nat:=t.s.length+4
def wT(l:TS):Nat:=(l.map wK).sum
def y6(x:Tok)(l:TS):wT (x::l)=wK x+wT l:=by simp[wT]
structure Fp {α:Type} (b:α->Nat) (ok:α->Prop) (c:Nat) (t:TS) (a:α) (t':TS):Prop where
 suf:t' <:+ t
 w:b a+c+wT t'<=wT t
 ok:ok a
def GP{α:Type}(b:α->Nat)(ok:α->Prop)(c:Nat)(f:TS->PR α):Prop:=∀t a t',f t=.ok (a,t')->Fp b ok c t a t'
def Fp.lt{α:Type}{b:α->Nat}{ok:α->Prop}{c:Nat}{t t':TS}{a:α}(h:Fp b ok c t a t')(J:0<c):t'.length<t.length:=by
 obtain⟨p,A⟩:=h.suf;have I:=h.w;cases p with
 | nil=>simp at A;subst A;omega
 | cons x p=>rw[<-A];simp;omega
def zdd{t:TS}(h:(hdT t).k≠0):t=hdT t::t.tail:=by
 cases t with
 | nil=>exact absurd rfl h
 | cons x t=>rfl
def zja{m:List UInt8}{t:TS}(h:isP m t=true):(hdT t).k≠0:=by simp only[isP,Al0,z6]at h;rw[h.1];decide
def zii{m:List UInt8}{t:TS}(h:isW m t=true):(hdT t).k≠0:=by simp only[isW,Al0,z6]at h;rw[h.1];decide
def zhf{t:TS}(h:(hdT t).k≠0):t.tail <:+ t/\(hdT t).s.length+4+wT t.tail=wT t:=by
 refine⟨List.tail_suffix t,?_⟩
 conv=>rhs;rw[zdd h,y6]
 rfl
def zaq{m:List UInt8}{t:TS}(h:isP m t=true):t.tail <:+ t/\4+wT t.tail<=wT t:=by have:=zhf (zja h);exact⟨this.1,by omega⟩
def zl7{m:List UInt8}{t:TS}(h:isW m t=true):t.tail <:+ t/\4+wT t.tail<=wT t:=by have:=zhf (zii h);exact⟨this.1,by omega⟩
def T1{α:Type}(_:α):Prop:=True
def b0{α:Type}(_:α):Nat:=0
def zcH(m:List UInt8):GP b0 T1 4 (Y3 m):=λt a t' h=>by
 unfold Y3 at h;split at h
 ·rename_i A;simp only[zrj,Al8]at h;obtain⟨_,rfl⟩:=h;have:=zaq A;exact⟨this.1,by simp only[b0];omega,trivial⟩
 ·cases h
def Zy:GP List.length T1 4 Zq:=λt a t' h=>by
 unfold Zq at h;split at h
 ·rename_i A;simp only[zrj,Al8]at h;obtain⟨rfl,rfl⟩:=h;have:=zhf (t:=t) (by rw[A];decide);exact⟨this.1,by omega,trivial⟩
 ·cases h
def yr{α A:Type}{x:PR α}{f:α->TS->PR A}{b:A}{t':TS}(h:pb x f=.ok (b,t')):∃a t,x=.ok (a,t)/\f a t=.ok (b,t'):=by
 rcases x with e|⟨a,t⟩
 ·cases h
 ·exact⟨a,t,rfl,h⟩
def sm{α:Type}(b:α->Nat)(l:List α):Nat:=(l.map b).sum+l.length
def zpR{α:Type}(b:α->Nat)(l:List α)(x:α):sm b (l++[x])=sm b l+b x+1:=by simp[sm];omega
def zpM{α:Type}{ok:α->Prop}{l:List α}{x:α}(h:∀y∈l,ok y)(I:ok x):∀y∈l++[x],ok y:=λy J=>by
 rcases List.mem_append.1 J with A|A
 ·exact h y A
 ·simp at A;subst A;exact I
def zeP{α:Type}{b:α->Nat}{ok:α->Prop}{m:List UInt8}{f:TS->PR α}(U:GP b ok 1 f):∀(n:Nat) (l:List α) (t:TS) (A:List α) (t':TS),(∀x∈l,ok x)->yR m f n l t=.ok (A,t')->t' <:+ t/\sm b A+4+wT t'<=sm b l+wT t/\∀x∈A,ok x
 | 0,_,_,_,_,_,h=>by cases h
 | n+1,l,t,A,t',hl,h=>by
  simp only[yR]at h;split at h
  ·rename_i Y;simp only[zrj,Al8]at h;obtain⟨rfl,rfl⟩:=h;have:=zaq Y;exact⟨this.1,by omega,hl⟩
  ·obtain⟨x,Z,W,X⟩:=yr h;have I:=U _ _ _ W;have w:=I.w;have J:=zeP U n _ _ _ _ (zpM hl I.ok) X;rw[zpR]at J;exact⟨J.1.trans I.suf,by omega,J.2.2⟩
def ziT{α:Type}{b:α->Nat}{ok:α->Prop}{m:List UInt8}{f:TS->PR α}(U:GP b ok 1 f):∀(n:Nat) (l:List α) (t:TS) (A:List α) (t':TS),(∀x∈l,ok x)->zbv m f n l t=.ok (A,t')->t' <:+ t/\sm b A+wT t'<=sm b l+wT t/\∀x∈A,ok x
 | 0,_,_,_,_,_,h=>by cases h
 | n+1,l,t,A,t',hl,h=>by
  simp only[zbv]at h;split at h
  ·rename_i Z;have W:=zaq Z;obtain⟨x,aa,X,Y⟩:=yr h;have I:=U _ _ _ X;have w:=I.w;have J:=ziT U n _ _ _ _ (zpM hl I.ok) Y;rw[zpR]at J;exact⟨(J.1.trans I.suf).trans W.1,by omega,J.2.2⟩
  ·simp only[zrj,Al8]at h;obtain⟨rfl,rfl⟩:=h;exact⟨List.suffix_refl t,by omega,hl⟩
def zfR{α:Type}{b:α->Nat}{ok:α->Prop}{m:List UInt8}{f:TS->PR α}(J:GP b ok 1 f):GP (sm b) (λl=>∀x∈l,ok x) 4 (zcu m f):=λt l t' h=>by
 obtain⟨x,Y,W,X⟩:=yr h;have A:=J _ _ _ W;have w:=A.w;have I:=zeP J _ [x] _ _ _ (λy U=>by simp at U;subst U;exact A.ok) X;have e:sm b [x]=b x+1:=by simp[sm]
 exact⟨I.1.trans A.suf,by omega,I.2.2⟩
def zps{m:List UInt8}{t:TS}(h:isP m t=true):t.tail.length<t.length:=by
 conv=>rhs;rw[zdd (zja h)]
 simp
def GP.lt{α:Type}{b:α->Nat}{ok:α->Prop}{c:Nat}{f:TS->PR α}(h:GP b ok c f)(A:0<c):∀t a t',f t=.ok (a,t')->t'.length<t.length:=λt a t' e=>(h t a t' e).lt A
def zBr(ty:TyD)(n:Nat):Prop:=0<=ty.lists/\ty.lists<=n/\0<=ty.musts/\ty.musts<2 ^ (ty.lists.toNat+1)/\ty.musts % 2=0
def zmR(n:Nat)(ty:TyD):Prop:=0<=ty.lists/\ty.lists<=n/\0<=ty.musts/\ty.musts<2 ^ (ty.lists.toNat+1)
def zkO{A:TyD}{n:Nat}(h:zBr A n):∀t a t',zgg A t=.ok (a,t')->t' <:+ t/\a.nm=A.nm/\wT t'<=wT t/\zmR n a:=λt a t' e=>by
 obtain⟨I,J,U,W,Z⟩:=h;unfold zgg at e;split at e
 ·rename_i X;simp only[zrj,Al8]at e;obtain⟨rfl,rfl⟩:=e;have:=zaq X;refine⟨this.1,rfl,by omega,I,J,by simp only;omega,?_⟩;have Y:(2:Int) ^ (A.lists.toNat+1) % 2=0:=by rw[Int.pow_succ];omega
  simp only;omega
 ·simp only[zrj,Al8]at e;obtain⟨rfl,rfl⟩:=e;exact⟨List.suffix_refl t,rfl,Al4 _,I,J,U,W⟩
def zkE(n:Nat)(ae:∀m,n=m+1->GP (λJ=>J.nm.length) (zmR m) 4 (zei m)):GP (λJ=>J.nm.length) (zmR n) 4 (zei n):=λt a t' h=>by
 rw[zc5,zjE.eq_def]at h;split at h
 ·rename_i ad;have aa:=zaq ad;cases n with
  | zero=>cases h
  | succ n =>
   obtain⟨J,af,U,W⟩:=yr h;obtain⟨_,al,ab,ac⟩:=yr W;have I:=ae n rfl _ _ _ U;have X:=zcH _ _ _ _ ab;obtain⟨ah,ai,aj,ak⟩:=I.ok;have Z:(J.lists+1).toNat=J.lists.toNat+1:=by omega
   have A:=zkO (n:=n+1) ⟨by simp only;omega,by simp only;omega,by simp only;omega,by simp only;rw[Z,Int.pow_succ];omega,by simp only;omega⟩ _ _ _ ac;have Y:=I.w;have ag:=X.w;simp only[b0]at Y ag;exact⟨((A.1.trans X.suf).trans I.suf).trans aa.1,by rw[A.2.1];simp only;omega,A.2.2.2⟩
 ·obtain⟨s,af,U,W⟩:=yr h;have I:=Zy _ _ _ U;have A:=zkO (n:=n) ⟨by simp,by simp,by simp,by simp,by simp⟩ _ _ _ W;have Y:=I.w;exact⟨A.1.trans I.suf,by rw[A.2.1];simp only;omega,A.2.2.2⟩
def zno:∀n,GP (λA=>A.nm.length) (zmR n) 4 (zei n)
 | 0=>zkE 0 λm h=>by cases h
 | k+1=>zkE (k+1) λm h=>by cases h;exact zno k
def zdc(x:Tok):AV:=.agg [.int .i64 x.k,.str x.s]
def zbP:Own->Option Nat
 | .tip b _=>some b
 | _=>none
structure Sep (H:zb) (l:List (Own×Nat×Nat)):Prop where
 own:∀x∈l,zA H x.1 x.2.1 x.2.2
 nd:(l.filterMap λx=>zbP x.1).Nodup
def zc4{o:Own}{b:Nat}(h:zbP o=some b):∃d,o=.tip b d:=by cases o<;>simp[zbP]at h;rename_i c d;subst h;exact⟨d,rfl⟩
def zA.ofKept{H H':zb}{o o2:Own}{n sz:Nat}(h:zA H o n sz)(I:Kept H o2 H')(J:∀b d A,o=.tip b d->o2≠.tip b A):zA H' o n sz:=by
 cases o with
 | tip b d=>exact I b _ h λA e=>J b d A rfl e
 | no=>exact h
 | nil=>exact h
 | full=>exact h
def Sep.step{H H':zb}{a b:List (Own×Nat×Nat)}{o o':Own}{n n' sz:Nat}(h:Sep H (a++(o,n,sz)::b))(h':OwnS H o H' o' n' sz):Sep H' (a++(o',n',sz)::b):=by
 have I:=h.nd;simp only[List.filterMap_append,List.filterMap_cons]at I;have aa:∀x,x∈a∨x∈b->∀c d X,x.1=.tip c d->o≠.tip c X:=λx A c d X J e=>by
  subst e;simp only[zbP]at I;rw[List.nodup_append]at I;obtain⟨_,ag,af⟩:=I;rcases A with A|A
  ·exact af c (List.mem_filterMap.2 ⟨x,A,by rw[J]⟩) c (zaW ..) rfl
  ·exact(List.nodup_cons.1 ag).1 (List.mem_filterMap.2 ⟨x,A,by rw[J]⟩)
 refine⟨λx A=>?_,?_⟩
 ·rcases List.mem_append.1 A with A|A
  ·exact zA.ofKept (h.own x (by simp[A])) h'.kept λc d X=>aa x (.inl A) c d X
  ·rcases List.mem_cons.1 A with rfl|A
   ·exact h'.own
   ·exact zA.ofKept (h.own x (by simp[A])) h'.kept λc d X=>aa x (.inr A) c d X
 ·simp only[List.filterMap_append,List.filterMap_cons];have ai:∀c,c∈a.filterMap (λx=>zbP x.1)∨c∈b.filterMap (λx=>zbP x.1)->zbP o'≠some c:=λc W e=>by
   obtain⟨ae,e⟩:=zc4 e;have ad:H c≠none/\∀U,o≠.tip c U:=by
    rcases W with W|W<;>obtain⟨x,A,J⟩:=List.mem_filterMap.1 W<;>obtain⟨d,J⟩:=zc4 J
    ·have:=h.own x (by simp[A]);rw[J]at this;have ac:H c=some _:=this;exact⟨by simp[ac],λU=>aa x (.inl A) c d U J⟩
    ·have:=h.own x (by simp[A]);rw[J]at this;have ac:H c=some _:=this;exact⟨by simp[ac],λU=>aa x (.inr A) c d U J⟩
   rcases h'.new c ae e with ab|⟨U,ab⟩
   ·exact ad.1 ab
   ·exact ad.2 U ab
  have Y:(a.filterMap (λx=>zbP x.1)++b.filterMap (λx=>zbP x.1)).Nodup:=by
   cases ho:zbP o with
   | none=>rw[ho]at I;exact I
   | some c =>rw[ho]at I;rw[List.nodup_append]at I ⊢;exact⟨I.1,(List.nodup_cons.1 I.2.1).2,λx A y Z=>I.2.2 x A y (zbR _ Z)⟩
  cases ho:zbP o' with
  | none=>exact Y
  | some c =>
   have W:=ai c;rw[List.nodup_append]at Y ⊢;refine⟨Y.1,List.nodup_cons.2 ⟨λah=>W (.inr ah) ho,Y.2.1⟩,λx A y Z=>?_⟩;rcases List.mem_cons.1 Z with rfl|Z
   ·exact λe=>W (.inl (e▸A)) ho
   ·exact Y.2.2 x A y Z
def Sep.mono{H H':zb}{l:List (Own×Nat×Nat)}(h:Sep H l)(A:∀c n sz,H c=some (.tip n sz)->H' c=some (.tip n sz)):Sep H' l :=
 ⟨λx I=>by
  have:=h.own x I;obtain⟨o,n,sz⟩:=x;cases o with
  | tip c d=>exact A c _ _ this
  | no=>exact this
  | nil=>exact this
  | full=>exact this,h.nd⟩
open Go.Lib Go.RowKit Go.Sort
def ziA(s:List UInt8)(c:UInt8):ze Tryz.prog 187 [.str s,.int .u8 c.toNat] (.int .i64 (Lib.indexByte s c)):=by
 refine ze.of_calls λγ w vs X U=>?_;obtain⟨J,hr⟩:=U
 match vs,J with
 | [v,u],_ =>
  cases hr 0 _ _ rfl rfl;cases hr 1 _ _ rfl rfl;refine(Tryz.strings_IndexByte ⟨s.toArray⟩ c.toNat w).mono λe w' ⟨I,W⟩=>⟨W,_,I,?_⟩;have A:((c.toNat:Int)).toNat.toUInt8=c:=by simp
  rw[A];exact .int _ _
def znZ(s:List UInt8)(c:UInt8):ze Tryz.prog 90 [.str s,.str [c]] (.bool (decide (0<=Lib.indexByte s c))):=by
 refine ze.of_calls λγ w vs W J=>?_;obtain⟨I,hr⟩:=J
 match vs,I with
 | [v,u],_ =>cases hr 0 _ _ rfl rfl;cases hr 1 _ _ rfl rfl;exact(Tryz.strings_Contains_one ⟨s.toArray⟩ c w).mono λe w' ⟨A,U⟩=>⟨U,_,A,.bool _⟩
end Go.Proofs.YtnemcnegfkjpeaaGreatDoor
namespace Go.Proofs.YtnemcnegfkjpeaaGreatDoor
open Go.Ab
def yd(l:List UInt8):(bytesOf l).length=l.length:=by simp[bytesOf]
def Zo(a b:List UInt8):bytesOf a++bytesOf b=bytesOf (a++b):=by simp[bytesOf]
def YE(l:List UInt8):(bytesOf l).map (·.map AV.strip1)=bytesOf l:=by simp[bytesOf,AV.strip1]
def zl0(l:List UInt8):ziQ (bytesOf l)=some l:=by
 induction l with
 | nil=>rfl
 | cons c r A =>have h:=c.toNat_lt;simp only[bytesOf,List.map_cons]at A ⊢;simp only[ziQ,A,ZS];rw[if_pos ⟨by omega,by omega⟩];simp
def zd1(acc:List UInt8)(c:UInt8):bytesOf acc++[[.int .u8 c.toNat]]=bytesOf (acc++[c]):=Zo acc [c]
def zen(acc:List UInt8)(c d:UInt8):bytesOf acc++[[.int .u8 c.toNat],[.int .u8 d.toNat]]=bytesOf (acc++[c,d]):=Zo acc [c,d]
def zzP{n:Nat}(h:n<4294967296):IntKind.wrap .u32 (n:Int)=n:=by have e:IntKind.wrap .u32 (n:Int)=(n:Int) % 4294967296:=rfl;rw[e];omega
def zud{n:Nat}(h:n<2147483648):IntKind.wrap .i32 (n:Int)=n:=by
 have e:IntKind.wrap .i32 (n:Int)=if (n:Int) % 4294967296>=2147483648 then (n:Int) % 4294967296-4294967296 else (n:Int) % 4294967296:=by simp[IntKind.wrap,IntKind.bits,IntKind.signed]
 rw[e];split<;>omega
def wr8(n:Nat):IntKind.wrap .u8 (n:Int)=((n % 256:Nat):Int):=by have e:IntKind.wrap .u8 (n:Int)=(n:Int) % 256:=rfl;rw[e];omega
def fd6(n:Nat):(n:Int).fdiv (2 ^ min 6 IntKind.i32.bits)=((n / 64:Nat):Int):=by show (n:Int).fdiv 64=_;rw[Int.fdiv_eq_ediv_of_nonneg _ (by decide)];omega
def zxz(n:Nat):(n:Int).fdiv (2 ^ min 12 IntKind.i32.bits)=((n / 4096:Nat):Int):=by show (n:Int).fdiv 4096=_;rw[Int.fdiv_eq_ediv_of_nonneg _ (by decide)];omega
def zBd(n:Nat):(n:Int).fdiv (2 ^ min 18 IntKind.i32.bits)=((n / 262144:Nat):Int):=by show (n:Int).fdiv 262144=_;rw[Int.fdiv_eq_ediv_of_nonneg _ (by decide)];omega
def zz3:∀x:Fin 32,IntKind.wrap .u8 ((BitVec.ofInt IntKind.u8.bits 192 ||| BitVec.ofInt IntKind.u8.bits ((x.val:Nat):Int)).toNat:Int)=((UInt8.ofNat (192+x.val)).toNat:Int):=by decide +kernel
def zzU:∀x:Fin 16,IntKind.wrap .u8 ((BitVec.ofInt IntKind.u8.bits 224 ||| BitVec.ofInt IntKind.u8.bits ((x.val:Nat):Int)).toNat:Int)=((UInt8.ofNat (224+x.val)).toNat:Int):=by decide +kernel
def zzQ:∀x:Fin 8,IntKind.wrap .u8 ((BitVec.ofInt IntKind.u8.bits 240 ||| BitVec.ofInt IntKind.u8.bits ((x.val:Nat):Int)).toNat:Int)=((UInt8.ofNat (240+x.val)).toNat:Int):=by decide +kernel
def zz2:∀x:Fin 256,IntKind.wrap .u8 ((BitVec.ofInt IntKind.u8.bits 128 ||| BitVec.ofInt IntKind.u8.bits (IntKind.wrap .u8 ((BitVec.ofInt IntKind.u8.bits ((x.val:Nat):Int) &&& BitVec.ofInt IntKind.u8.bits 63).toNat:Int))).toNat:Int)=((UInt8.ofNat (128+x.val % 64)).toNat:Int):=by decide +kernel
def zAC{m:Nat}(h:m<32):IntKind.wrap .u8 ((BitVec.ofInt IntKind.u8.bits 192 ||| BitVec.ofInt IntKind.u8.bits (IntKind.wrap .u8 (m:Int))).toNat:Int)=((UInt8.ofNat (192+m)).toNat:Int):=by rw[wr8 m,Nat.mod_eq_of_lt (show m<256 by omega)];exact zz3 ⟨m,h⟩
def zxc{m:Nat}(h:m<16):IntKind.wrap .u8 ((BitVec.ofInt IntKind.u8.bits 224 ||| BitVec.ofInt IntKind.u8.bits (IntKind.wrap .u8 (m:Int))).toNat:Int)=((UInt8.ofNat (224+m)).toNat:Int):=by rw[wr8 m,Nat.mod_eq_of_lt (show m<256 by omega)];exact zzU ⟨m,h⟩
def zAI{m:Nat}(h:m<8):IntKind.wrap .u8 ((BitVec.ofInt IntKind.u8.bits 240 ||| BitVec.ofInt IntKind.u8.bits (IntKind.wrap .u8 (m:Int))).toNat:Int)=((UInt8.ofNat (240+m)).toNat:Int):=by rw[wr8 m,Nat.mod_eq_of_lt (show m<256 by omega)];exact zzQ ⟨m,h⟩
def zwH(m:Nat):IntKind.wrap .u8 ((BitVec.ofInt IntKind.u8.bits 128 ||| BitVec.ofInt IntKind.u8.bits (IntKind.wrap .u8 ((BitVec.ofInt IntKind.u8.bits (IntKind.wrap .u8 (m:Int)) &&& BitVec.ofInt IntKind.u8.bits 63).toNat:Int))).toNat:Int)=((UInt8.ofNat (128+m % 64)).toNat:Int):=by rw[wr8 m];have:=zz2 ⟨m % 256,Nat.mod_lt _ (by decide)⟩;simp only at this;rw[this,Nat.mod_mod_of_dvd m (by decide)]
def zyj(n:Nat)(ah:127<n)(ai:n<=1114111)(aj:¬ (55296<=n/\n<=57343))(acc:List UInt8)(H:zb)(o:Own)(ho:zA H o acc.length 1)(af:acc.length<=Lim):
  YG Tryz.prog 347 [.sl o 1 (bytesOf acc),.int .i32 n] H o 1 (bytesOf (acc++Z7 n)):=by
 refine zd.goO ir347.1 ir347.2 (Al4 _) λKP Q Y al=>?_;have W:=zzP (n:=n) (by omega);have A:=yd acc;simp only[Lim]at af;have Z:zA H o (bytesOf acc).length 1:=by rw[A];exact ho
 have fin:∀(e:List UInt8) o' H',Z7 n=e->OwnS H o H' o' ((bytesOf acc).length+e.length) 1->zxr H o 1 (bytesOf (acc++Z7 n)) (.sl o' 1 (bytesOf acc++bytesOf e)) H':=λe o' H' ag I=>by rw[ag];exact⟨o',by rw[Zo],by rw[yd,Al5];rw[A]at I;exact I⟩
 by_cases X:n<=2047
 ·have J:((n:Int)<=2047)=True:=eq_true (by omega);simp(disch:=omega) only[ir347,W,J,steps,st2,pev,rev,oev,zdI,zfD,zuD,ztu,bound,zdx,mm2,mk,ZO,AV.cells,AV.boxable,AV.one,AV.strip1,AV.strip2,zdB,zb8,go_sem_proc,AV.i,AV.e,AV.n,Opd.i,Opd.e,Opd.n,Opd.y,Opd.f,IC.op,ics,IC.m,IC.M,IC.z,IC.f,IC.F,IC.v,IC.V,IC.l,IC.L,IC.b,IC.B,IC.N,IC.G,IC.x,IC.E,IC.d,IC.D,IC.q,IC.Q,IC.S,IC.T,IC.p,IC.w,IC.i,IC.a,IC.o,IC.s,IC.c,IC.C,IC.k,IC.O,IC.j,IC.h,AC.K,AC.R,AC.r,AC.g,AC.Q,AC.u,AC.w,AC.c,AC.B,AC.L,AC.E,List.map_cons,List.map_nil,Nat.reduceSub];simp only[fd6,zAC (show n / 64<32 by omega),zwH];refine zj Z (by simp[A];omega) (by simp[A,maxLen];omega) λo' H' I=>?_;simp(disch:=omega) only[steps,st2,pev,rev,oev,zdI,zfD,zuD,ztu,bound,zdx,mm2,mk,ZO,AV.cells,AV.boxable,AV.one,AV.strip1,AV.strip2,zdB,zb8,go_sem_proc];exact Y _ _ H' H' [_] nofun rfl (Low.refl _) (fin [_,_] o' H' (by unfold Z7;rw[if_neg (by omega),if_pos X]) I)
 ·have J:¬ ((n:Int)<=2047):=by omega
  by_cases ac:n<=65535
  ·by_cases ak:n<55296
   ·have U:((n:Int)<55296)=True:=eq_true (by omega);simp(disch:=omega) only[ir347,W,J,U,steps,st2,pev,rev,oev,zdI,zfD,zuD,ztu,bound,zdx,mm2,mk,ZO,AV.cells,AV.boxable,AV.one,AV.strip1,AV.strip2,zdB,zb8,go_sem_proc,AV.i,AV.e,AV.n,Opd.i,Opd.e,Opd.n,Opd.y,Opd.f,IC.op,ics,IC.m,IC.M,IC.z,IC.f,IC.F,IC.v,IC.V,IC.l,IC.L,IC.b,IC.B,IC.N,IC.G,IC.x,IC.E,IC.d,IC.D,IC.q,IC.Q,IC.S,IC.T,IC.p,IC.w,IC.i,IC.a,IC.o,IC.s,IC.c,IC.C,IC.k,IC.O,IC.j,IC.h,AC.K,AC.R,AC.r,AC.g,AC.Q,AC.u,AC.w,AC.c,AC.B,AC.L,AC.E,List.map_cons,List.map_nil,Nat.reduceSub];simp only[fd6,zxz,zxc (show n / 4096<16 by omega),zwH];refine zj Z (by simp[A];omega) (by simp[A,maxLen];omega) λo' H' I=>?_;simp(disch:=omega) only[steps,st2,pev,rev,oev,zdI,zfD,zuD,ztu,bound,zdx,mm2,mk,ZO,AV.cells,AV.boxable,AV.one,AV.strip1,AV.strip2,zdB,zb8,go_sem_proc];exact Y _ _ H' H' [_] nofun rfl (Low.refl _) (fin [_,_,_] o' H' (by unfold Z7;rw[if_neg (by omega),if_neg X,if_pos ac]) I)
   ·have U:¬ ((n:Int)<55296):=by omega
    have aa:((57343:Int)<n)=True:=eq_true (by omega);have ab:((n:Int)<=65535)=True:=eq_true (by omega);simp(disch:=omega) only[ir347,W,J,U,aa,ab,steps,st2,pev,rev,oev,zdI,zfD,zuD,ztu,bound,zdx,mm2,mk,ZO,AV.cells,AV.boxable,AV.one,AV.strip1,AV.strip2,zdB,zb8,go_sem_proc,AV.i,AV.e,AV.n,Opd.i,Opd.e,Opd.n,Opd.y,Opd.f,IC.op,ics,IC.m,IC.M,IC.z,IC.f,IC.F,IC.v,IC.V,IC.l,IC.L,IC.b,IC.B,IC.N,IC.G,IC.x,IC.E,IC.d,IC.D,IC.q,IC.Q,IC.S,IC.T,IC.p,IC.w,IC.i,IC.a,IC.o,IC.s,IC.c,IC.C,IC.k,IC.O,IC.j,IC.h,AC.K,AC.R,AC.r,AC.g,AC.Q,AC.u,AC.w,AC.c,AC.B,AC.L,AC.E,List.map_cons,List.map_nil,Nat.reduceSub];simp only[fd6,zxz,zxc (show n / 4096<16 by omega),zwH];refine zj Z (by simp[A];omega) (by simp[A,maxLen];omega) λo' H' I=>?_;simp(disch:=omega) only[steps,st2,pev,rev,oev,zdI,zfD,zuD,ztu,bound,zdx,mm2,mk,ZO,AV.cells,AV.boxable,AV.one,AV.strip1,AV.strip2,zdB,zb8,go_sem_proc];exact Y _ _ H' H' [_] nofun rfl (Low.refl _) (fin [_,_,_] o' H' (by unfold Z7;rw[if_neg (by omega),if_neg X,if_pos ac]) I)
  ·have U:¬ ((n:Int)<55296):=by omega
   have aa:((57343:Int)<n)=True:=eq_true (by omega);have ab:¬ ((n:Int)<=65535):=by omega
   have ad:((65535:Int)<n)=True:=eq_true (by omega);have ae:((n:Int)<=1114111)=True:=eq_true (by omega);simp(disch:=omega) only[ir347,W,J,U,aa,ab,ad,ae,steps,st2,pev,rev,oev,zdI,zfD,zuD,ztu,bound,zdx,mm2,mk,ZO,AV.cells,AV.boxable,AV.one,AV.strip1,AV.strip2,zdB,zb8,go_sem_proc,AV.i,AV.e,AV.n,Opd.i,Opd.e,Opd.n,Opd.y,Opd.f,IC.op,ics,IC.m,IC.M,IC.z,IC.f,IC.F,IC.v,IC.V,IC.l,IC.L,IC.b,IC.B,IC.N,IC.G,IC.x,IC.E,IC.d,IC.D,IC.q,IC.Q,IC.S,IC.T,IC.p,IC.w,IC.i,IC.a,IC.o,IC.s,IC.c,IC.C,IC.k,IC.O,IC.j,IC.h,AC.K,AC.R,AC.r,AC.g,AC.Q,AC.u,AC.w,AC.c,AC.B,AC.L,AC.E,List.map_cons,List.map_nil,Nat.reduceSub];simp only[fd6,zxz,zBd,zAI (show n / 262144<8 by omega),zwH];refine zj Z (by simp[A];omega) (by simp[A,maxLen];omega) λo' H' I=>?_;simp(disch:=omega) only[steps,st2,pev,rev,oev,zdI,zfD,zuD,ztu,bound,zdx,mm2,mk,ZO,AV.cells,AV.boxable,AV.one,AV.strip1,AV.strip2,zdB,zb8,go_sem_proc];exact Y _ _ H' H' [_] nofun rfl (Low.refl _) (fin [_,_,_,_] o' H' (by unfold Z7;rw[if_neg (by omega),if_neg X,if_neg ac]) I)
def zla(n:Nat)(aa:n<=1114111)(ab:¬ (55296<=n/\n<=57343))(acc:List UInt8)(H:zb)(o:Own)(ho:zA H o acc.length 1)(Y:acc.length<=Lim):
  YG Tryz.prog 334 [.sl o 1 (bytesOf acc),.int .i32 n] H o 1 (bytesOf (acc++Z7 n)):=by
 refine zd.goO ir334.1 ir334.2 (Al4 _) λKP Q X ac=>?_;have U:=zzP (n:=n) (by omega);have A:=yd acc;by_cases W:n<=127
 ·have I:((n:Int)<=127)=True:=eq_true (by omega);have Z:IntKind.wrap .u8 (n:Int)=((UInt8.ofNat n).toNat:Int):=by rw[wr8];simp
  simp only[Lim]at Y;simp(disch:=omega) only[ir334,U,I,Z,go_sem];refine zj (by rw[A];exact ho) (by simp[A];omega) (by simp[A,maxLen];omega) λo' H' J=>?_;simp(disch:=omega) only[go_sem];refine X _ _ H' H' [_] nofun rfl (Low.refl _) ⟨o',?_,?_⟩
  ·have:Z7 n=[UInt8.ofNat n]:=by unfold Z7;rw[if_pos W]
   rw[this];exact congrArg _ (zd1 _ _)
  ·have:Z7 n=[UInt8.ofNat n]:=by unfold Z7;rw[if_pos W]
   rw[this,yd];simpa[A]using J
 ·have I:¬ ((n:Int)<=127):=by omega
  simp(disch:=omega) only[ir334,U,I,go_sem];refine zx (zyj n (by omega) aa ab acc H o ho Y) λo' H' J=>?_;simp(disch:=omega) only[go_sem];exact X _ _ H' H' [_] nofun rfl (Low.refl _) ⟨o',rfl,J⟩
def zAk:∀x:Fin 256,IntKind.wrap .u8 ((BitVec.ofInt IntKind.u8.bits ((x.val:Nat):Int) ||| BitVec.ofInt IntKind.u8.bits 32).toNat:Int)=((UInt8.ofNat x.val ||| 32).toNat:Int):=by decide +kernel
def zBf(c:UInt8):IntKind.wrap .u8 ((BitVec.ofInt IntKind.u8.bits (c.toNat:Int) ||| BitVec.ofInt IntKind.u8.bits 32).toNat:Int)=((c ||| 32).toNat:Int):=by have:=zAk ⟨c.toNat,c.toNat_lt⟩;simpa using this
def zsm(l:List UInt8)(c:UInt8):-1<=Lib.indexByte l c/\Lib.indexByte l c<l.length:=by
 induction l with
 | nil=>simp[Lib.indexByte]
 | cons x r A =>
  simp only[Lib.indexByte,Al2];split
  ·omega
  ·split
   ·omega
   ·omega
def zzS(s:List UInt8)(ao:s.length<=Lim):ze Tryz.prog 316 [.str s] (.tup [.int .i64 ((zcV s).getD 0:Nat),.bool (zcV s).isSome]):=by
 refine ze.go ir316.1 ir316.2 (Al4 _) λKP Q J=>?_
 simp only[Lim]at ao
 by_cases au:s.length<4
 ·have aa:((s.length:Int)<4)=True:=eq_true (by omega)
  have:zcV s=none:=by
   cases h:zcV s with
   | none=>rfl
   | some u=>have:=zeS _ _ _ _ h;omega
  simp(disch:=omega) only[ir316,aa,push_cast,go_sem_proc]
  exact J _ _ _ _ nofun rfl (by simp[this])
 ·have aa:¬ ((s.length:Int)<4):=by omega
  obtain⟨l,r,af,ab⟩:∃l r:List UInt8,l.length=4/\s=l++r:=⟨s.take 4,s.drop 4,by simp;omega,by simp⟩
  have al:(l.length:Int)=4:=by omega
  have key:∀(a b:List UInt8) (u:Nat),l=a++b->zeF b.length (b++r) u=zeF (4-a.length) (s.drop a.length) u:=λa b u h=>by
   have:a.length+b.length=4:=by rw[<-af,h];simp
   rw[ab,h,ZP,List.drop_left];congr 1;omega
  simp(disch:=omega) only[ir316,aa,push_cast,go_sem_proc]
  refine zf l 10 (λu:Nat=>[(4,.int .i64 u)]) (λdone rest u H=>zeF rest.length (rest++r) u=zcV s/\u<16 ^ done.length/\H=zb.emp) 0 (by simp(disch:=omega) only[push_cast,go_sem_proc]) ⟨by rw[af,<-ab];rfl,by simp,rfl⟩ ?_ ?_
  ·rintro u H aj ⟨A,_,rfl⟩ am
   simp only[Al3,zeF]at A
   simp(disch:=omega) only[al,push_cast,go_sem_proc]
   exact J _ _ _ _ nofun rfl (by simp[<-A])
  ·rintro done c rest u H aj ak am az ⟨A,av,rfl⟩ ad
   have ax:done.length<4:=by omega
   have an:(done.length:Int)<4:=by omega
   have W:(done.length:Int)<s.length:=by omega
   have U:s.getD done.length 0=c:=by rw[ab,ak];simp
   have a0:16 ^ done.length<=4096:=by
    have:done.length<=3:=by omega
    calc 16 ^ done.length<=16 ^ 3:=Nat.pow_le_pow_right (by decide) this
     _=4096:=rfl
   simp only[Al2,Al6,zeF]at A
   have ae:=zsm hexL (c ||| 32)
   have aw:=c.toNat_lt
   simp only[hexL,Al2,Al3]at ae
   simp(disch:=omega) only[an,W,U,zBf,push_cast,go_sem_proc]
   refine za (ziA hexL (c ||| 32)) ?_
   have no:hexD c=none->(zcV s)=none:=λe=>by rw[e]at A;exact A.symm
   by_cases ai:Lib.indexByte hexL (c ||| 32)<0
   ·have e:hexD c=none:=by unfold hexD;rw[if_pos (.inl ai)]
    simp(disch:=omega) only[ai,push_cast,go_sem_proc]
    exact J _ _ _ _ nofun rfl (by simp[no e])
   obtain⟨k,I⟩:∃k:Nat,Lib.indexByte hexL (c ||| 32)=(k:Int):=⟨(Lib.indexByte hexL (c ||| 32)).toNat,by omega⟩
   have ay:k<16:=by rw[show Lib.indexByte [48,49,50,51,52,53,54,55,56,57,97,98,99,100,101,102] (c ||| 32)=(k:Int) from I]at ae;omega
   have a1:u<4096:=by omega
   have Y:¬ ((k:Int)<0):=by omega
   have ag:hexD c=some k->zeF rest.length (rest++r) (16*u+k)=zcV s/\16*u+k<16 ^ (done++[c]).length/\zb.emp=zb.emp:=λe=>by
    rw[e]at A
    refine⟨A,?_,rfl⟩
    rw[Al5,Al2,Al3,Nat.pow_succ];omega
   have ah:((16*u+k:Nat):Int)=16*(u:Int)+k:=by omega
   by_cases ap:c.toNat<48
   ·have e:hexD c=none:=by unfold hexD;rw[if_pos (.inr (.inl ap))]
    have X:((c.toNat:Int)<48)=True:=eq_true (by omega)
    simp(disch:=omega) only[I,Y,X,W,U,push_cast,go_sem_proc]
    exact J _ _ _ _ nofun rfl (by simp[no e])
   have X:¬ ((c.toNat:Int)<48):=by omega
   by_cases aq:57<c.toNat
   ·have Z:((57:Int)<c.toNat)=True:=eq_true (by omega)
    by_cases ar:c.toNat<65
    ·have e:hexD c=none:=by unfold hexD;rw[if_pos (.inr (.inr ⟨aq,ar⟩))]
     have ac:((c.toNat:Int)<65)=True:=eq_true (by omega)
     simp(disch:=omega) only[I,Y,X,Z,ac,W,U,push_cast,go_sem_proc]
     exact J _ _ _ _ nofun rfl (by simp[no e])
    ·have e:hexD c=some k:=by unfold hexD;rw[if_neg (by omega),I];rfl
     have ac:¬ ((c.toNat:Int)<65):=by omega
     simp(disch:=omega) only[I,Y,X,Z,ac,W,U,wrap64,push_cast,go_sem_proc]
     refine goJ (ad (16*u+k) _ (ag e)) (by simp(disch:=omega) only[ah,push_cast,go_sem_proc])
   ·have e:hexD c=some k:=by unfold hexD;rw[if_neg (by omega),I];rfl
    have Z:¬ ((57:Int)<c.toNat):=by omega
    simp(disch:=omega) only[I,Y,X,Z,W,U,wrap64,push_cast,go_sem_proc]
    refine goJ (ad (16*u+k) _ (ag e)) (by simp(disch:=omega) only[ah,push_cast,go_sem_proc])
def cU(l:List Nat):List (List AV):=l.map λ(n:Nat)=>[AV.int .i64 (n:Int)]
def zlW(l:List Nat):(cU l).length=l.length:=by simp[cU]
def zsU(l:List Nat):(cU l).map (·.map AV.strip1)=cU l:=by simp[cU,AV.strip1]
def zz8(us:List Nat)(a4:us.length<=68719476736):ze Tryz.prog 317 [.sl .no 1 (cU us)] (.tup [.str ((yh us).getD []),.bool (yh us).isSome]):=by
 refine ze.go ir317.1 ir317.2 (Al4 _) λKP Q ae=>?_;have U:=zlW us;simp(disch:=omega) only[ir317,go_sem];refine Ze (λs:List Nat×List Nat×Own×List UInt8=>[(4,.sl s.2.2.1 1 (bytesOf s.2.2.2)),(5,.int .i64 s.1.length)]) (λs H=>us=s.1++s.2.1/\yh us=(yh s.2.1).map (s.2.2.2++·)/\s.2.2.2.length<=2*s.1.length*2/\zA H s.2.2.1 s.2.2.2.length 1) (λs=>s.2.1.length) ([],us,.nil,[]) (by simp(disch:=omega) only[go_sem];rfl) ⟨rfl,by cases yh us<;>rfl,by simp,rfl⟩ ?_;rintro⟨done,rest,o,out⟩ H a3 ⟨J,ac,az,ho⟩ ao;simp only at J ac az ho;have ar:done.length+rest.length=us.length:=by rw[J];simp
 cases rest with
 | nil =>
  simp only[List.append_nil]at J;have A:¬ ((done.length:Int)<us.length):=by rw[J];omega
  simp(disch:=omega) only[U,A,go_sem];simp only[yh,ZS,List.append_nil]at ac;simp(disch:=omega) only[zl0,go_sem];exact ae _ _ _ _ nofun rfl (by simp[ac])
 | cons u r =>
  have A:((done.length:Int)<us.length):=by simp at ar;omega
  have Y:(cU us).getD done.length []=[.int .i64 u]:=by rw[J];simp[cU]
  have aa:¬ ((u:Int)<0):=by omega
  have aq:r.length+1+done.length=us.length:=by simp at ar;omega
  have ai:yh (u::r)=none->yh us=none:=λe=>by rw[ac,e];rfl
  have a5:maxLen=9223372036854775807:=rfl;by_cases au:65535<u
  ·have e:=ai (by rw[yh.eq_def];simp only;rw[if_pos (.inl au)]);have I:((65535:Int)<u)=True:=eq_true (by omega);simp(disch:=omega) only[U,A,Y,aa,I,go_sem];exact ae _ _ _ _ nofun rfl (by simp[e])
  have I:¬ ((65535:Int)<u):=by omega
  by_cases av:56320<=u/\u<=57343
  ·have e:=ai (by rw[yh.eq_def];simp only;rw[if_pos (.inr av)]);have aw:((56320:Int)<=u)=True:=eq_true (by omega);have ax:((u:Int)<=57343)=True:=eq_true (by omega);simp(disch:=omega) only[U,A,Y,aa,I,aw,ax,go_sem];exact ae _ _ _ _ nofun rfl (by simp[e])
  by_cases af:55296<=u/\u<56320
  ·have W:¬ ((56320:Int)<=u):=by omega
   have X:((55296:Int)<=u)=True:=eq_true (by omega);have ad:((u:Int)<56320)=True:=eq_true (by omega);cases r with
   | nil =>have e:=ai (by rw[yh.eq_def];simp only;rw[if_neg (by omega),if_pos af]);have ab:((done.length:Int)+1=us.length)=True:=eq_true (by simp at aq;omega);simp(disch:=omega) only[U,A,Y,aa,I,W,X,ad,wrap64,ab,go_sem];exact ae _ _ _ _ nofun rfl (by simp[e])
   | cons v r =>
    have ab:¬ ((done.length:Int)+1=us.length):=by simp at aq;omega
    have al:((done.length:Int)+1<us.length):=by simp at aq;omega
    have am:((done.length:Int)+1).toNat=done.length+1:=by omega
    have ap:(cU us).getD (done.length+1) []=[.int .i64 v]:=by rw[J];simp[cU]
    by_cases c1:v<56320
    ·have e:=ai (by rw[yh.eq_def];simp only;rw[if_neg (by omega),if_pos af,if_pos (.inl c1)]);have aj:((v:Int)<56320)=True:=eq_true (by omega);simp(disch:=omega) only[U,A,Y,aa,I,W,X,ad,wrap64,ab,al,am,ap,aj,go_sem];exact ae _ _ _ _ nofun rfl (by simp[e])
    have aj:¬ ((v:Int)<56320):=by omega
    by_cases ay:57343<v
    ·have e:=ai (by rw[yh.eq_def];simp only;rw[if_neg (by omega),if_pos af,if_pos (.inr ay)]);have an:((57343:Int)<v)=True:=eq_true (by omega);simp(disch:=omega) only[U,A,Y,aa,I,W,X,ad,wrap64,ab,al,am,ap,aj,an,go_sem];exact ae _ _ _ _ nofun rfl (by simp[e])
    have an:¬ ((57343:Int)<v):=by omega
    have ag:yh (u::v::r)=(yh r).map (Z7 (65536+1024*(u-55296)+(v-56320))++·):=by rw[yh.eq_def];simp only;rw[if_neg (by omega),if_pos af,if_neg (by omega)]
    obtain⟨m,a0⟩:∃m,65536+1024*(u-55296)+(v-56320)=m:=⟨_,rfl⟩;rw[a0]at ag;have a1:(65536+1024*((u:Int)-55296)+v-56320)=(m:Int):=by omega
    have a2:=(zeJ m).1;simp(disch:=omega) only[U,A,Y,aa,I,W,X,ad,wrap64,ab,al,am,ap,aj,an,a1,zud (show m<2147483648 by omega),go_sem];refine zx (zla m (by omega) (by omega) out _ o ho (by simp only[Lim];omega)) λo' H' ah=>?_;simp(disch:=omega) only[wrap64,go_sem];have Z:=ah.own;rw[yd]at Z;have ak:(((done++[u,v]).length:Nat):Int)=(done.length:Int)+1+1:=by simp;omega
    refine goJ (ao (done++[u,v],r,o',out++Z7 m) _ (by simp;omega) ⟨by simp[J],?_,?_,Z⟩) (by simp(disch:=omega) only[ak,go_sem])
    ·simp only[ac,ag];cases yh r<;>simp
    ·simp;omega
  have ag:yh (u::r)=(yh r).map (Z7 u++·):=by rw[yh.eq_def];simp only;rw[if_neg (by omega),if_neg af]
  have a2:=(zeJ u).1;have ak:(((done++[u]).length:Nat):Int)=(done.length:Int)+1:=by simp
  by_cases h:u<55296
  ·have W:¬ ((56320:Int)<=u):=by omega
   have X:¬ ((55296:Int)<=u):=by omega
   simp(disch:=omega) only[U,A,Y,aa,I,W,X,zud (show u<2147483648 by omega),go_sem];refine zx (zla u (by omega) (by omega) out _ o ho (by simp only[Lim];omega)) λo' H' ah=>?_;simp(disch:=omega) only[wrap64,go_sem];have Z:=ah.own;rw[yd]at Z;refine goJ (ao (done++[u],r,o',out++Z7 u) _ (by simp) ⟨by simp[J],?_,?_,Z⟩) (by simp(disch:=omega) only[ak,go_sem])
   ·simp only[ac,ag];cases yh r<;>simp
   ·simp;omega
  ·have W:((56320:Int)<=u)=True:=eq_true (by omega);have X:¬ ((u:Int)<=57343):=by omega
   have ad:((55296:Int)<=u)=True:=eq_true (by omega);have ab:¬ ((u:Int)<56320):=by omega
   simp(disch:=omega) only[U,A,Y,aa,I,W,X,ad,ab,zud (show u<2147483648 by omega),go_sem];refine zx (zla u (by omega) (by omega) out _ o ho (by simp only[Lim];omega)) λo' H' ah=>?_;simp(disch:=omega) only[wrap64,go_sem];have Z:=ah.own;rw[yd]at Z;refine goJ (ao (done++[u],r,o',out++Z7 u) _ (by simp) ⟨by simp[J],?_,?_,Z⟩) (by simp(disch:=omega) only[ak,go_sem])
   ·simp only[ac,ag];cases yh r<;>simp
   ·simp;omega
end Go.Proofs.YtnemcnegfkjpeaaGreatDoor
