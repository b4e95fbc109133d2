import Derived.JoinedOf
import Derived.Lib.ItoaMem
import Derived.Lib.ParseIntBTie
import Derived.Lib.ValidLaws
import Derived.Test.YtbcocdloklbkjaaGreatDoorM1
import Derived.Test.YtbcocdloklbkjaaGreatDoorM2
import Derived.Test.YtbcocdloklbkjaaGreatDoorM3
import Derived.Test.YtbcocdloklbkjaaGreatDoorM4
set_option maxRecDepth 100000
set_option linter.all false
namespace Go.Proofs.YtbcocdloklbkjaaGreatDoor
open Go.Ab
mutual
inductive Val where
 | mk (k n:Int) (s:List UInt8) (l:List Val) (m:List Mem)
inductive Mem where
 | mk (name:List UInt8) (v:Val)
end
mutual
def cV:Val→List AV
 | .mk k n s l m=>[.int .i64 k,.int .i64 n,.str s,.sl .no 5 (cVs l),.sl .no 6 (cMs m)]
def cVs:List Val→List (List AV)
 | []=>[]
 | v::r=>cV v::cVs r
def cM:Mem→List AV
 | .mk s v=>.str s::cV v
def cMs:List Mem→List (List AV)
 | []=>[]
 | x::r=>cM x::cMs r
end
theorem zfI:∀ l,cVs l=l.map cV
 | []=>rfl
 | v::r=>by rw[cVs,zfI r];rfl
theorem zb4:∀ l,cMs l=l.map cM
 | []=>rfl
 | v::r=>by rw[cMs,zb4 r];rfl
theorem zaj (l:List Val):(cVs l).length=l.length:=by rw[zfI];simp
theorem y0 (l:List Mem):(cMs l).length=l.length:=by rw[zb4];simp
theorem zaO {l a:List Val} {x:Val} {b:List Val} (h:l=a++x::b):(cVs l).getD a.length []=cV x:=by rw[zfI,yQ h]
theorem Zu {l a:List Mem} {x:Mem} {b:List Mem} (h:l=a++x::b):(cMs l).getD a.length []=cM x:=by rw[zb4,yQ h]
theorem yj (k n:Int) (s:List UInt8) (l:List Val) (m:List Mem):cV (.mk k n s l m)=[.int .i64 k,.int .i64 n,.str s,.sl .no 5 (cVs l),.sl .no 6 (cMs m)]:=rfl
theorem zu (s:List UInt8) (v:Val):cM (.mk s v)=.str s::cV v:=rfl
theorem zgn (v:Val):(cV v).map AV.strip1=cV v:=by cases v;rfl
mutual
theorem Val.ind {P:Val→Prop} (h:∀ k n s l m,(∀ v∈l,P v)→(∀ s v,Mem.mk s v∈m→P v)→P (.mk k n s l m)):∀ v,P v
 | .mk k n s l m=>h k n s l m (Val.indL h l) (fun s v hm=>Val.indM h m s v hm)
theorem Val.indL {P:Val→Prop} (h:∀ k n s l m,(∀ v∈l,P v)→(∀ s v,Mem.mk s v∈m→P v)→P (.mk k n s l m)):∀ l:List Val,∀ v∈l,P v
 | [],_,hv=>by cases hv
 | x::r,v,hv=>(List.mem_cons.1 hv).elim (fun e=>e▸Val.ind h x) (Val.indL h r v)
theorem Val.ind1 {P:Val→Prop} (h:∀ k n s l m,(∀ v∈l,P v)→(∀ s v,Mem.mk s v∈m→P v)→P (.mk k n s l m)):∀ m:Mem,∀ s v,m=.mk s v→P v
 | .mk s v,s',v',e=>by cases e;exact Val.ind h v
theorem Val.indM {P:Val→Prop} (h:∀ k n s l m,(∀ v∈l,P v)→(∀ s v,Mem.mk s v∈m→P v)→P (.mk k n s l m)):∀ l:List Mem,∀ s v,Mem.mk s v∈l→P v
 | [],_,_,hv=>by cases hv
 | x::r,s,v,hv=>(List.mem_cons.1 hv).elim (fun e=>Val.ind1 h x s v e.symm) (Val.indM h r s v)
end
theorem zq (v:Val):(cV v).length=5:=by cases v;rfl
theorem zp (x:Mem):(cM x).length=6:=by cases x with|mk s v=>cases v;rfl
theorem zl (v:Val):(cV v).take 5=cV v:=by cases v;rfl
theorem zm (x:Mem):(cM x).take 6=cM x:=by cases x with|mk s v=>cases v;rfl
theorem zg (a b c d e:AV) (v:Val):splice [a,b,c,d,e] 0 (cV v)=cV v:=by cases v;rfl
theorem zh (a b c d e f:AV) (x:Mem):splice [a,b,c,d,e,f] 0 (cM x)=cM x:=by cases x with|mk s v=>cases v;rfl
mutual
def bV:Val→Nat
 | .mk _ _ s l m=>1+s.length+bVs l+bMs m
def bVs:List Val→Nat
 | []=>0
 | v::r=>bV v+bVs r
def bM:Mem→Nat
 | .mk s v=>s.length+bV v
def bMs:List Mem→Nat
 | []=>0
 | x::r=>bM x+bMs r
end
theorem YY (v:Val):1≤bV v:=by cases v;simp only[bV];omega
theorem zs4 (v:Mem):1≤bM v:=by cases v with|mk s v=>have:=YY v;simp only[bM];omega
theorem zaQ:∀ l,l.length≤bVs l
 | []=>by simp
 | v::r=>by have:=zaQ r;have:=YY v;simp only[bVs,Al2];omega
theorem y9:∀ l,l.length≤bMs l
 | []=>by simp
 | v::r=>by have:=y9 r;have:=zs4 v;simp only[bMs,Al2];omega
theorem zfJ (a:List Val) (x:Val) (b:List Val):bVs (a++x::b)=bVs a+bV x+bVs b:=by
 induction a with
 | nil=>simp[bVs]
 | cons y a ih=>simp only[Al6,bVs,ih];omega
theorem zad (a:List Mem) (x:Mem) (b:List Mem):bMs (a++x::b)=bMs a+bM x+bMs b:=by
 induction a with
 | nil=>simp[bMs]
 | cons y a ih=>simp only[Al6,bMs,ih];omega
abbrev Lim:Nat:=1099511627776
theorem zjn:∀ v,bV v≤Lim→zi Tryz.prog 35 [.agg (cV v)] (.int .i64 (bV v)):=by
 refine Val.ind fun k n s l m ihl ihm hb=>?_
 refine zi.go ir35 ck35 (Al4 _) fun KP Q hQ=>?_
 have hl:=zaj l
 have hm:=y0 m
 have hll:=zaQ l
 have hml:=y9 m
 have hb':1+s.length+bVs l+bMs m≤Lim:=hb
 simp only[Lim] at hb'
 simp(disch:=omega) only[ir35,yj,wrap64,go_sem]
 refine zf l 4 (fun n:Int=>[(3,.int .i64 n)]) (fun done rest n H=>n+bVs rest=1+s.length+bVs l∧H=zb.emp) (1+s.length) (by simp(disch:=omega) only[go_sem]) ⟨by omega,rfl⟩ ?_ ?_
 ·rintro n H J ⟨hn,rfl⟩ hlt
  simp only[bVs] at hn
  simp(disch:=omega) only[hl,hlt,go_sem]
  refine zf m 5 (fun n:Int=>[(3,.int .i64 n)]) (fun done rest n H=>n+bMs rest=1+s.length+bVs l+bMs m∧H=zb.emp) n (by simp(disch:=omega) only[go_sem]) ⟨by omega,rfl⟩ ?_ ?_
  ·rintro n H J ⟨hn,rfl⟩ hlt
   simp only[bMs] at hn
   simp(disch:=omega) only[hm,hlt,go_sem]
   have:n=((bV (.mk k n s l m):Nat):Int):=by simp only[bV];omega
   exact hQ _ _ _ _ nofun rfl (by simp[zd,ze,AV.strip,AV.strip1,bV,this])
  ·rintro done x rest n H J hd hlt _ ⟨hn,rfl⟩ hJ
   have hg:=Zu hd
   have hbm:=zad done x rest
   rw[← hd] at hbm
   cases x with
   | mk t v =>
   simp only[bMs,bM] at hn hbm
   simp(disch:=omega) only[zq,zl,zg,zp,zm,zh,zu,hm,hlt,hg,wrap64,go_sem]
   refine za (ihm t v (by rw[hd];simp) (by simp only[Lim];omega)) ?_
   simp(disch:=omega) only[hl,hm,hlt,hg,zu,wrap64,go_sem]
   refine goJ (hJ (n+t.length+bV v) zb.emp ⟨by omega,rfl⟩) (by simp(disch:=omega) only[go_sem])
 ·rintro done x rest n H J hd hlt _ ⟨hn,rfl⟩ hJ
  have hg:=zaO hd
  have hbm:=zfJ done x rest
  rw[← hd] at hbm
  simp only[bVs] at hn
  simp(disch:=omega) only[zq,zl,zg,zp,zm,zh,zu,hl,hlt,hg,go_sem]
  refine za (ihl x (by rw[hd];simp) (by simp only[Lim];omega)) ?_
  simp(disch:=omega) only[wrap64,go_sem]
  refine goJ (hJ (n+bV x) zb.emp ⟨by omega,rfl⟩) (by simp(disch:=omega) only[go_sem])
noncomputable def eqd {α:Type} (a b:α):Bool:=@decide (a=b) (Classical.propDecidable _)
theorem YD {α:Type} {a b:α} (h:a=b):eqd a b=true:=by simp[eqd,h]
theorem yX {α:Type} {a b:α} (h:a≠b):eqd a b=false:=by simp[eqd,h]
def cT (l:List (List UInt8)):List (List AV):=l.map fun k=>[.str k]
theorem zM (l:List (List UInt8)):(cT l).length=l.length:=by simp[cT]
theorem Z0 {l a:List (List UInt8)} {x:List UInt8} {b:List (List UInt8)} (h:l=a++x::b):(cT l).getD a.length []=[.str x]:=yQ h
theorem zmh {α:Type} {a b done rest:List α} {x:α} (h:a=done++x::rest) (hl:a.length=b.length) (hp:b.take done.length=done):∃ y r,b=done++y::r:=by
 have h1:done.length<b.length:=by rw[← hl,h];simp
 refine⟨b[done.length],b.drop (done.length+1),?_⟩
 conv=>lhs;rw[← List.take_append_drop done.length b,hp,List.drop_eq_getElem_cons h1]
theorem ziW {α:Type} {b done r:List α} {y:α} (h:b=done++y::r):b.take (done++[y]).length=done++[y]:=by
 subst h
 have e:done++y::r=(done++[y])++r:=by simp
 rw[e,List.take_left'];rfl
theorem zl5 {α:Type} {a b:List α} (hl:a.length=b.length) (hp:b.take a.length=a):a=b:=by
 rw[hl,List.take_length] at hp;exact hp.symm
theorem znY {α:Type} {a b done rest r:List α} {x y:α} (h:a=done++x::rest) (h':b=done++y::r) (hxy:x≠y):a≠b:=fun e=>by
 rw[h,h'] at e
 exact hxy (List.cons.inj (List.append_cancel_left e)).1
mutual
def Zx:Val→Int
 | .mk k _ _ l m=>if k=6 then YN l 0+1 else if k=7 then YG m 0+1 else 0
def YN:List Val→Int→Int
 | [],n=>n
 | v::r,n=>YN r (mm2 true n (Zx v))
def zbq:Mem→Int
 | .mk _ v=>Zx v
def YG:List Mem→Int→Int
 | [],n=>n
 | x::r,n=>YG r (mm2 true n (zbq x))
end
theorem zn9 (a b:Int):a≤mm2 true a b:=by simp only[mm2,if_true];split<;>omega
mutual
theorem zc7:∀ v,0≤Zx v∧Zx v≤bV v
 | .mk k n s l m=>by
  have h1:=zdB l 0
  have h2:=zdP m 0
  simp only[Zx,bV]
  split
  ·omega
  ·split<;>omega
theorem zdB:∀ l (n:Int),n≤YN l n∧(YN l n≤n∨YN l n≤bVs l)
 | [],n=>by simp[YN,bVs]
 | v::r,n=>by
  have h1:=zc7 v
  have h2:=zdB r (mm2 true n (Zx v))
  have h3:=zn9 n (Zx v)
  have h4:mm2 true n (Zx v)=n∨mm2 true n (Zx v)=Zx v:=by simp only[mm2,if_true];split<;>simp
  simp only[YN,bVs]
  omega
theorem zmz:∀ x,0≤zbq x∧zbq x≤bM x
 | .mk s v=>by have:=zc7 v;simp only[zbq,bM];omega
theorem zdP:∀ l (n:Int),n≤YG l n∧(YG l n≤n∨YG l n≤bMs l)
 | [],n=>by simp[YG,bMs]
 | v::r,n=>by
  have h1:=zmz v
  have h2:=zdP r (mm2 true n (zbq v))
  have h3:=zn9 n (zbq v)
  have h4:mm2 true n (zbq v)=n∨mm2 true n (zbq v)=zbq v:=by simp only[mm2,if_true];split<;>simp
  simp only[YG,bMs]
  omega
end
theorem zdS:∀ v,bV v≤Lim→zi Tryz.prog 242 [.agg (cV v)] (.int .i64 (Zx v)):=by
 refine Val.ind fun k n s l m ihl ihm hb=>?_
 refine zi.go ir242 ck242 (Al4 _) fun KP Q hQ=>?_
 have hl:=zaj l
 have hm:=y0 m
 have hll:=zaQ l
 have hml:=y9 m
 have hb':1+s.length+bVs l+bMs m≤Lim:=hb
 simp only[Lim] at hb'
 have d1:=zdB l 0
 have d2:=zdP m 0
 by_cases k6:k=6
 ·subst k6
  simp(disch:=omega) only[ir242,yj,hl,go_sem]
  refine zf l 15 (fun n:Int=>[(3,.int .i64 n)]) (fun done rest n H=>YN rest n=YN l 0) 0 (by simp(disch:=omega) only[go_sem]) rfl ?_ ?_
  ·rintro n H J hn hlt
   simp only[YN] at hn
   simp(disch:=omega) only[hl,hlt,wrap64,hn,go_sem]
   exact hQ _ _ _ _ nofun rfl (by simp[zd,ze,AV.strip,AV.strip1,Zx])
  ·rintro done x rest n H J hd hlt _ hn hJ
   have hg:=zaO hd
   have hbm:=zfJ done x rest
   rw[← hd] at hbm
   simp only[YN] at hn
   simp(disch:=omega) only[zq,zl,zg,zp,zm,zh,zu,hl,hlt,hg,go_sem]
   refine zc fun b hb=>?_
   simp(disch:=omega) only[zq,zl,zg,zp,zm,zh,zu,go_sem]
   refine za (ihl x (by rw[hd];simp) (by simp only[Lim];omega)) ?_
   simp(disch:=omega) only[wrap64,go_sem]
   exact goJ (hJ _ _ hn) (by simp(disch:=omega) only[go_sem])
 by_cases k7:k=7
 ·subst k7
  simp(disch:=omega) only[ir242,yj,hm,go_sem]
  refine zf m 29 (fun n:Int=>[(3,.int .i64 n)]) (fun done rest n H=>YG rest n=YG m 0) 0 (by simp(disch:=omega) only[go_sem]) rfl ?_ ?_
  ·rintro n H J hn hlt
   simp only[YG] at hn
   simp(disch:=omega) only[hm,hlt,wrap64,hn,go_sem]
   exact hQ _ _ _ _ nofun rfl (by simp[zd,ze,AV.strip,AV.strip1,Zx])
  ·rintro done x rest n H J hd hlt _ hn hJ
   have hg:=Zu hd
   have hbm:=zad done x rest
   rw[← hd] at hbm
   cases x with
   | mk t v =>
   simp only[YG,zbq,bM] at hn hbm
   simp(disch:=omega) only[zq,zl,zg,zp,zm,zh,zu,hm,hlt,hg,go_sem]
   refine zc fun b hb=>?_
   simp(disch:=omega) only[zq,zl,zg,zp,zm,zh,zu,go_sem]
   refine za (ihm t v (by rw[hd];simp) (by simp only[Lim];omega)) ?_
   simp(disch:=omega) only[wrap64,go_sem]
   exact goJ (hJ _ _ hn) (by simp(disch:=omega) only[go_sem])
 ·simp(disch:=omega) only[ir242,yj,k6,k7,go_sem]
  exact hQ _ _ _ _ nofun rfl (by simp[zd,ze,AV.strip,AV.strip1,Zx,k6,k7])
def zV:Val:=.mk 0 0 [] [] []
theorem zmq:cV zV=[.int .i64 0,.int .i64 0,.str [],.sl .no 5 [],.sl .no 6 []]:=rfl
def zbA (t:List UInt8):List Mem→Val×Bool
 | []=>(zV,false)
 | .mk s v::r=>if s=t then (v,true) else zbA t r
theorem zqR (t:List UInt8) (m:List Mem) (hb:m.length≤Lim):zi Tryz.prog 99 [.str t,.sl .no 6 (cMs m)] (.tup [.agg (cV (zbA t m).1),.bool (zbA t m).2]):=by
 refine zi.go ir99 ck99 (Al4 _) fun KP Q hQ=>?_
 have hm:=y0 m
 simp only[Lim] at hb
 simp(disch:=omega) only[ir99,go_sem]
 refine zc fun b hb=>?_
 simp(disch:=omega) only[hm,go_sem]
 refine zf m 10 (fun _:Unit=>[]) (fun done rest n H=>zbA t rest=zbA t m∧H b=some (.cells [.int .i64 0,.int .i64 0,.str [],.sl .nil 5 [],.sl .nil 6 []])) () (by simp(disch:=omega) only[go_sem]) ⟨rfl,by simp[zb.upd]⟩ ?_ ?_
 ·rintro n H J ⟨hn,hH⟩ hlt
  simp(disch:=omega) only[hm,hlt,hH,go_sem]
  refine hQ _ _ _ [.agg [.int .i64 0,.int .i64 0,.str [],.sl .nil 5 [],.sl .nil 6 []],.bool false] nofun (by simp(disch:=omega) only[ir99,zQ,Zv,go_sem]) ?_
  rw[← hn]
  rfl
 ·rintro done x rest n H J hd hlt _ ⟨hn,hH⟩ hJ
  have hg:=Zu hd
  cases x with
  | mk s v =>
  simp only[zbA] at hn
  simp(disch:=omega) only[zq,zl,zg,zp,zm,zh,zu,hm,hlt,hg,go_sem]
  refine zc fun b2 hb2=>?_
  have hne:=zdw hb2 hH
  by_cases hs:s=t
  ·simp(disch:=omega) only[zq,zl,zg,zp,zm,zh,zu,hs,hH,Ne.symm hne,hne,go_sem]
   simp only[hs,if_true] at hn
   refine hQ _ _ _ [.agg (cV v),.bool true] nofun (by simp(disch:=omega) only[zq,zl,zg,zp,zm,zh,zu,ir99,zQ,Zv,go_sem]) ?_
   rw[← hn]
   simp[zd,AV.strip,AV.strip1,zgn]
  ·simp(disch:=omega) only[zq,zl,zg,zp,zm,zh,zu,hs,go_sem]
   simp only[hs,if_false] at hn
   exact goJ (hJ () _ ⟨hn,by simp[zb.upd,Ne.symm hne,hH]⟩) (by simp(disch:=omega) only[wrap64,go_sem])
structure Tok where
 k:Int
 s:List UInt8
def cK (t:Tok):List AV:=[.int .i64 t.k,.str t.s]
def cKs (l:List Tok):List (List AV):=l.map cK
theorem zf8 (a b:List Tok):cKs (a++b)=cKs a++cKs b:=by simp[cKs]
theorem yz (l:List Tok):(cKs l).length=l.length:=by simp[cKs]
theorem ZV (l:List Tok):(cKs l).map (·.map AV.strip1)=cKs l:=by simp[cKs,cK,AV.strip1]
theorem zqK (f:FuncId) (hf:Program.callable Tryz.prog f=true) (a b:List Val) (ha:a.length≤Lim) (hc:∀ x∈a,∀ y,zi Tryz.prog f [.agg (cV x),.agg (cV y)] (.bool (eqd x y))) :
  zi Tryz.prog 233 [.sl .no 5 (cVs a),.sl .no 5 (cVs b),.clo f [] []] (.bool (eqd a b)):=by
 refine zi.go ir233 ck233 (Al4 _) fun KP Q hQ=>?_
 have h1:=zaj a
 have h2:=zaj b
 simp only[Lim] at ha
 by_cases hl:a.length=b.length
 case neg =>
  have hl':¬ ((a.length:Int)=b.length):=by omega
  have hne:a≠b:=fun e=>hl (by rw[e])
  simp(disch:=omega) only[ir233,h1,h2,hl',go_sem]
  exact hQ _ _ _ _ nofun rfl (by simp[zd,ze,AV.strip,AV.strip1,yX hne])
 have hl':((a.length:Int)=b.length)=True:=eq_true (by omega)
 simp(disch:=omega) only[ir233,h1,h2,hl',go_sem]
 refine zf a 17 (fun _:Unit=>[]) (fun done rest n H=>b.take done.length=done) () (by simp(disch:=omega) only[go_sem]) rfl ?_ ?_
 ·rintro n H J hp hlt
  simp(disch:=omega) only[h1,hlt,go_sem]
  exact hQ _ _ _ _ nofun rfl (by simp[zd,ze,AV.strip,AV.strip1,YD (zl5 hl hp)])
 ·rintro done x rest n H J hd hlt _ hp hJ
  obtain⟨y,r,hb⟩:=zmh hd hl hp
  have g1:=zaO hd
  have g2:=zaO hb
  have hlt2:(done.length:Int)<b.length:=by omega
  simp(disch:=omega) only[zq,zl,zg,zp,zm,zh,zu,h1,h2,hlt,hlt2,g1,g2,go_sem]
  refine zc fun b1 hb1=>?_
  simp(disch:=omega) only[zq,zl,zg,zp,zm,zh,zu,h1,h2,hlt,hlt2,g1,g2,go_sem]
  refine zc fun b2 hb2=>?_
  have hne:=yW hb2
  simp(disch:=omega) only[zq,zl,zg,zp,zm,zh,zu,Ne.symm hne,hne,go_sem]
  refine⟨hf,za (hc x (by rw[hd];simp) y) ?_⟩
  by_cases hxy:x=y
  ·simp(disch:=omega) only[YD hxy,go_sem]
   exact goJ (hJ () _ (by rw[hxy];exact ziW hb)) (by simp(disch:=omega) only[wrap64,go_sem])
  ·simp(disch:=omega) only[yX hxy,go_sem]
   exact hQ _ _ _ _ nofun rfl (by simp[zd,ze,AV.strip,AV.strip1,yX (znY hd hb hxy)])
theorem zqe (f:FuncId) (hf:Program.callable Tryz.prog f=true) (a b:List Mem) (ha:a.length≤Lim) (hc:∀ x∈a,∀ y,zi Tryz.prog f [.agg (cM x),.agg (cM y)] (.bool (eqd x y))) :
  zi Tryz.prog 234 [.sl .no 6 (cMs a),.sl .no 6 (cMs b),.clo f [] []] (.bool (eqd a b)):=by
 refine zi.go ir234 ck234 (Al4 _) fun KP Q hQ=>?_
 have h1:=y0 a
 have h2:=y0 b
 simp only[Lim] at ha
 by_cases hl:a.length=b.length
 case neg =>
  have hl':¬ ((a.length:Int)=b.length):=by omega
  have hne:a≠b:=fun e=>hl (by rw[e])
  simp(disch:=omega) only[ir234,h1,h2,hl',go_sem]
  exact hQ _ _ _ _ nofun rfl (by simp[zd,ze,AV.strip,AV.strip1,yX hne])
 have hl':((a.length:Int)=b.length)=True:=eq_true (by omega)
 simp(disch:=omega) only[ir234,h1,h2,hl',go_sem]
 refine zf a 17 (fun _:Unit=>[]) (fun done rest n H=>b.take done.length=done) () (by simp(disch:=omega) only[go_sem]) rfl ?_ ?_
 ·rintro n H J hp hlt
  simp(disch:=omega) only[h1,hlt,go_sem]
  exact hQ _ _ _ _ nofun rfl (by simp[zd,ze,AV.strip,AV.strip1,YD (zl5 hl hp)])
 ·rintro done x rest n H J hd hlt _ hp hJ
  obtain⟨y,r,hb⟩:=zmh hd hl hp
  have g1:=Zu hd
  have g2:=Zu hb
  have hlt2:(done.length:Int)<b.length:=by omega
  simp(disch:=omega) only[zq,zl,zg,zp,zm,zh,zu,h1,h2,hlt,hlt2,g1,g2,go_sem]
  refine zc fun b1 hb1=>?_
  simp(disch:=omega) only[zq,zl,zg,zp,zm,zh,zu,h1,h2,hlt,hlt2,g1,g2,go_sem]
  refine zc fun b2 hb2=>?_
  have hne:=yW hb2
  simp(disch:=omega) only[zq,zl,zg,zp,zm,zh,zu,Ne.symm hne,hne,go_sem]
  refine⟨hf,za (hc x (by rw[hd];simp) y) ?_⟩
  by_cases hxy:x=y
  ·simp(disch:=omega) only[YD hxy,go_sem]
   exact goJ (hJ () _ (by rw[hxy];exact ziW hb)) (by simp(disch:=omega) only[wrap64,go_sem])
  ·simp(disch:=omega) only[yX hxy,go_sem]
   exact hQ _ _ _ _ nofun rfl (by simp[zd,ze,AV.strip,AV.strip1,yX (znY hd hb hxy)])
theorem zoG (s t:List UInt8) (v u:Val) (hc:zi Tryz.prog 208 [.agg (cV v),.agg (cV u)] (.bool (eqd v u))):zi Tryz.prog 235 [.agg (cM (.mk s v)),.agg (cM (.mk t u))] (.bool (eqd (Mem.mk s v) (Mem.mk t u))):=by
 refine zi.go ir235 ck235 (Al4 _) fun KP Q hQ=>?_
 by_cases h1:s=t
 ·simp(disch:=omega) only[zq,zl,zg,zp,zm,zh,zu,ir235,h1,go_sem]
  refine za hc ?_
  simp(disch:=omega) only[go_sem]
  have:eqd (Mem.mk t v) (Mem.mk t u)=eqd v u:=by
   by_cases h:v=u
   ·rw[YD h,YD (by rw[h])]
   ·rw[yX h,yX (by simp[h])]
  exact hQ _ _ _ _ nofun rfl (by simp[zd,ze,AV.strip,AV.strip1,this,h1])
 ·simp(disch:=omega) only[zq,zl,zg,zp,zm,zh,zu,ir235,h1,go_sem]
  have:eqd (Mem.mk s v) (Mem.mk t u)=false:=yX (by simp[h1])
  exact hQ _ _ _ _ nofun rfl (by simp[zd,ze,AV.strip,AV.strip1,this])
theorem znC:∀ v,bV v≤Lim→∀ u,zi Tryz.prog 208 [.agg (cV v),.agg (cV u)] (.bool (eqd v u)):=by
 refine Val.ind fun k n s l m ihl ihm hb u=>?_
 obtain⟨k',n',s',l',m'⟩:=u
 have hb':1+s.length+bVs l+bMs m≤Lim:=hb
 have hll:=zaQ l
 have hml:=y9 m
 have il:∀ x∈l,∀ y,zi Tryz.prog 208 [.agg (cV x),.agg (cV y)] (.bool (eqd x y)):=fun x hx y=>by
  obtain⟨a,b,hd⟩:=List.append_of_mem hx
  have:=zfJ a x b
  rw[← hd] at this
  exact ihl x hx (by omega) y
 have im:∀ x∈m,∀ y,zi Tryz.prog 235 [.agg (cM x),.agg (cM y)] (.bool (eqd x y)):=fun x hx y=>by
  obtain⟨a,b,hd⟩:=List.append_of_mem hx
  have:=zad a x b
  rw[← hd] at this
  obtain⟨t,v⟩:=x
  obtain⟨t',v'⟩:=y
  simp only[bM] at this
  exact zoG t t' v v' (ihm t v hx (by omega) v')
 refine zi.go ir208 ck208 (Al4 _) fun KP Q hQ=>?_
 by_cases h1:k=k'
 case neg =>
  have hne:¬ (Val.mk k n s l m=Val.mk k' n' s' l' m'):=by simp[h1]
  simp(disch:=omega) only[ir208,yj,h1,go_sem]
  exact hQ _ _ _ _ nofun rfl (by simp[zd,ze,AV.strip,AV.strip1,yX hne])
 by_cases h2:n=n'
 case neg =>
  have hne:¬ (Val.mk k n s l m=Val.mk k' n' s' l' m'):=by simp[h2]
  simp(disch:=omega) only[ir208,yj,h1,h2,go_sem]
  exact hQ _ _ _ _ nofun rfl (by simp[zd,ze,AV.strip,AV.strip1,yX hne])
 by_cases h3:s=s'
 case neg =>
  have hne:¬ (Val.mk k n s l m=Val.mk k' n' s' l' m'):=by simp[h3]
  simp(disch:=omega) only[ir208,yj,h1,h2,h3,go_sem]
  exact hQ _ _ _ _ nofun rfl (by simp[zd,ze,AV.strip,AV.strip1,yX hne])
 simp(disch:=omega) only[ir208,yj,h1,h2,h3,go_sem]
 refine za (zqK _ (by kernel_rfl) l l' (by omega) il) ?_
 by_cases h4:l=l'
 case neg =>
  have hne:¬ (Val.mk k n s l m=Val.mk k' n' s' l' m'):=by simp[h4]
  simp(disch:=omega) only[yX h4,go_sem]
  exact hQ _ _ _ _ nofun rfl (by simp[zd,ze,AV.strip,AV.strip1,yX hne])
 simp(disch:=omega) only[YD h4,go_sem]
 refine za (zqe _ (by kernel_rfl) m m' (by omega) im) ?_
 simp(disch:=omega) only[go_sem]
 have:eqd (Val.mk k n s l m) (Val.mk k' n' s' l' m')=eqd m m':=by
  by_cases h:m=m'
  ·rw[YD h,YD (by rw[h1,h2,h3,h4,h])]
  ·rw[yX h,yX (by simp[h])]
 exact hQ _ _ _ _ nofun rfl (by simp[zd,ze,AV.strip,AV.strip1,this])
abbrev zue (H:zb) (o:Own) (sz:Nat) (xs:List (List AV)):AV→zb→Prop:=fun v H'=>∃ o',v=.sl o' sz xs∧OwnS H o H' o' xs.length sz
abbrev Y5 (P:Program) (f:FuncId) (args:List AV) (H:zb) (o:Own) (sz:Nat) (xs:List (List AV)):Prop :=
 zj P f args H (fun e H'=>match e with|.ret v=>zue H o sz xs v H'|.pan _=>False)
theorem zG {P:Program} {KP:AV→zb→Prop} {Q:AExit→Env→zb→Prop} {st:List Fr} {ρ:Env} {H:zb} {all l:List AItem} {d:Option Nat} {R:List Chk} {f:FuncId} {args:List AV} {o:Own} {sz:Nat} {xs:List (List AV)}
  (h:Y5 P f args H o sz xs) (hk:∀ o' H',OwnS H o H' o' xs.length sz→goR P KP Q all l st R (ρ.set d (.sl o' sz xs)) H'):goK P KP Q all l st d R ρ f args H :=
 yH (XP:=fun _ _=>False) h (fun v H' ⟨o',e,hs⟩=>by subst e;exact hk o' H' hs) (fun _ _ h=>h.elim)
def yu (s:List UInt8):List (List UInt8)→Bool
 | []=>false
 | x::r=>if x=s then true else yu s r
theorem zgl (s:List UInt8):∀ l,yu s l=true↔s∈l
 | []=>by simp[yu]
 | x::r=>by
  have:=zgl s r
  simp only[yu,List.mem_cons]
  split
  ·rename_i h;simp[h]
  ·rename_i h;rw[this];constructor
   ·exact .inr
   ·rintro(e|e)
    ·exact absurd e.symm h
    ·exact e
def zh1 (s:List UInt8):List (List UInt8)→Int→Int
 | [],_=>-1
 | x::r,i=>if s=x then i else zh1 s r (i+1)
theorem ziZ (s:List UInt8):∀ l (i:Int),0≤i→decide (0≤zh1 s l i)=yu s l
 | [],i,_=>by simp[zh1,yu]
 | x::r,i,hi=>by
  simp only[zh1,yu]
  by_cases h:s=x
  ·simp[h];omega
  ·simp only[h,Ne.symm h,if_false];exact ziZ s r (i+1) (by omega)
theorem zsN (l:List (List UInt8)) (s:List UInt8) (hl:l.length≤Lim):zi Tryz.prog 73 [.sl .no 1 (cT l),.str s] (.int .i64 (zh1 s l 0)):=by
 refine zi.go ir73 ck73 (Al4 _) fun KP Q hQ=>?_
 have h1:=zM l
 simp only[Lim] at hl
 simp(disch:=omega) only[ir73,h1,go_sem]
 refine zf l 8 (fun _:Unit=>[]) (fun done rest n H=>zh1 s rest done.length=zh1 s l 0) () (by simp(disch:=omega) only[go_sem]) rfl ?_ ?_
 ·rintro n H J hn hlt
  simp(disch:=omega) only[h1,hlt,go_sem]
  simp only[zh1] at hn
  exact hQ _ _ _ _ nofun rfl (by simp[zd,ze,AV.strip,AV.strip1,← hn])
 ·rintro done x rest n H J hd hlt _ hn hJ
  have hg:=Z0 hd
  simp only[zh1] at hn
  by_cases hx:s=x
  ·subst hx
   simp only[if_true] at hn
   simp(disch:=omega) only[h1,hlt,hg,go_sem]
   exact hQ _ _ _ _ nofun rfl (by simp[zd,ze,AV.strip,AV.strip1,← hn])
  ·simp only[hx,if_false] at hn
   simp(disch:=omega) only[h1,hlt,hg,hx,go_sem]
   exact goJ (hJ () _ (by simpa using hn)) (by simp(disch:=omega) only[wrap64,go_sem])
theorem yP (l:List (List UInt8)) (s:List UInt8) (hl:l.length≤Lim):zi Tryz.prog 29 [.sl .no 1 (cT l),.str s] (.bool (yu s l)):=by
 refine zi.go ir29 ck29 (Al4 _) fun KP Q hQ=>?_
 simp(disch:=omega) only[ir29,go_sem]
 refine za (zsN l s hl) ?_
 simp(disch:=omega) only[go_sem]
 have:=ziZ s l 0 (by omega)
 exact hQ _ _ _ _ nofun rfl (by simp[zd,ze,AV.strip,AV.strip1,this])
mutual
def Zn:Val→List (List UInt8)→List (List UInt8)
 | .mk k _ s l m,acc=>if k=8 then (if yu s acc then acc else acc++[s]) else if k=6 then zbS l acc else if k=7 then zbT m acc else acc
def zbS:List Val→List (List UInt8)→List (List UInt8)
 | [],acc=>acc
 | v::r,acc=>zbS r (Zn v acc)
def zjN:Mem→List (List UInt8)→List (List UInt8)
 | .mk _ v,acc=>Zn v acc
def zbT:List Mem→List (List UInt8)→List (List UInt8)
 | [],acc=>acc
 | x::r,acc=>zbT r (zjN x acc)
end
mutual
theorem za4:∀ v acc,(Zn v acc).length≤acc.length+bV v
 | .mk k n s l m,acc=>by
  have h1:=zhn l acc
  have h2:=zhO m acc
  simp only[Zn,bV]
  split
  ·split
   ·omega
   ·simp;omega
  ·split
   ·omega
   ·split<;>omega
theorem zhn:∀ l acc,(zbS l acc).length≤acc.length+bVs l
 | [],acc=>by simp[zbS]
 | v::r,acc=>by
  have h1:=za4 v acc
  have h2:=zhn r (Zn v acc)
  simp only[zbS,bVs];omega
theorem zj5:∀ x acc,(zjN x acc).length≤acc.length+bM x
 | .mk s v,acc=>by have:=za4 v acc;simp only[zjN,bM];omega
theorem zhO:∀ l acc,(zbT l acc).length≤acc.length+bMs l
 | [],acc=>by simp[zbT]
 | x::r,acc=>by
  have h1:=zj5 x acc
  have h2:=zhO r (zjN x acc)
  simp only[zbT,bMs];omega
end
theorem zt5:∀ v,∀ acc H o,acc.length+bV v≤Lim→ya H o acc.length 1→Y5 Tryz.prog 245 [.sl o 1 (cT acc),.agg (cV v)] H o 1 (cT (Zn v acc)):=by
 refine Val.ind fun k n s l m ihl ihm acc H o hb ho=>?_
 have hb':acc.length+(1+s.length+bVs l+bMs m)≤Lim:=hb
 have hll:=zaQ l
 have hml:=y9 m
 have h1:=zaj l
 have h2:=y0 m
 have h3:=zM acc
 simp only[Lim] at hb'
 refine zj.goO ir245 ck245 (Al4 _) fun KP Q hQ hP=>?_
 by_cases k8:k=8
 ·subst k8
  simp(disch:=omega) only[ir245,yj,go_sem]
  refine za (zi.low (yP acc s (by simp only[Lim];omega))) ?_
  cases hh:yu s acc with
  | true =>
   simp(disch:=omega) only[hh,go_sem]
   refine hQ _ _ H H _ nofun rfl (Low.refl _) ⟨o,?_,?_⟩
   ·simp[zd,ze,Zn,hh]
   ·simpa[Zn,hh,h3] using OwnS.refl ho
  | false =>
   simp(disch:=omega) only[hh,go_sem]
   refine zw (by rw[h3];exact ho) ?_ ?_ fun o' H' hs=>?_
   ·simp only[h3,Al2,Al3];omega
   ·simp only[h3,Al2,Al3,maxLen];omega
   simp(disch:=omega) only[go_sem]
   refine hQ _ _ H' H' _ nofun rfl (Low.refl _) ⟨o',?_,?_⟩
   ·simp[zd,ze,Zn,hh,cT,AV.strip1]
   ·simpa[Zn,hh,h3,zM] using hs
 by_cases k6:k=6
 ·subst k6
  simp(disch:=omega) only[ir245,yj,h1,go_sem]
  refine zf l 28 (fun x:Own×List (List UInt8)=>[(0,.sl x.1 1 (cT x.2))]) (fun done rest x H'=>zbS rest x.2=zbS l acc∧x.2.length+bVs rest≤acc.length+bVs l∧OwnS H o H' x.1 x.2.length 1) (o,acc) (by simp(disch:=omega) only[go_sem]) ⟨rfl,by simp,OwnS.refl ho⟩ ?_ ?_
  ·rintro⟨o1,a⟩ H' J ⟨hn,_,hs⟩ hlt
   simp only[zbS] at hn
   subst hn
   simp(disch:=omega) only[h1,hlt,go_sem]
   refine hQ _ _ H' H' _ nofun rfl (Low.refl _) ⟨o1,?_,?_⟩
   ·simp[zd,ze,Zn]
   ·simpa[Zn,zM] using hs
  ·rintro done x rest ⟨o1,a⟩ H' J hd hlt _ ⟨hn,hle,hs⟩ hJ
   have hg:=zaO hd
   have hx:=za4 x a
   simp only[zbS,bVs] at hn hle
   simp(disch:=omega) only[zq,zl,zg,zp,zm,zh,zu,h1,hlt,hg,go_sem]
   refine zc fun b hb=>?_
   simp(disch:=omega) only[zq,zl,zg,zp,zm,zh,zu,go_sem]
   refine zG (ihl x (by rw[hd];simp) a _ o1 (by simp only[Lim];omega) (hs.own.upd hb)) fun o2 H2 hs2=>?_
   rw[zM] at hs2
   simp(disch:=omega) only[wrap64,go_sem]
   exact goJ (hJ (o2,Zn x a) H2 ⟨hn,by simp only;omega,(hs.upd hb).trans hs2⟩) (by simp(disch:=omega) only[go_sem])
 by_cases k7:k=7
 ·subst k7
  simp(disch:=omega) only[ir245,yj,h2,go_sem]
  refine zf m 41 (fun x:Own×List (List UInt8)=>[(0,.sl x.1 1 (cT x.2))]) (fun done rest x H'=>zbT rest x.2=zbT m acc∧x.2.length+bMs rest≤acc.length+bMs m∧OwnS H o H' x.1 x.2.length 1) (o,acc) (by simp(disch:=omega) only[go_sem]) ⟨rfl,by simp,OwnS.refl ho⟩ ?_ ?_
  ·rintro⟨o1,a⟩ H' J ⟨hn,_,hs⟩ hlt
   simp only[zbT] at hn
   subst hn
   simp(disch:=omega) only[h2,hlt,go_sem]
   refine hQ _ _ H' H' _ nofun rfl (Low.refl _) ⟨o1,?_,?_⟩
   ·simp[zd,ze,Zn]
   ·simpa[Zn,zM] using hs
  ·rintro done x rest ⟨o1,a⟩ H' J hd hlt _ ⟨hn,hle,hs⟩ hJ
   have hg:=Zu hd
   have hx:=zj5 x a
   simp only[zbT,bMs] at hn hle
   have hmem:x∈m:=by rw[hd];simp
   obtain⟨t,v⟩:=x
   simp only[zjN,bM] at hx hn hle
   simp(disch:=omega) only[zq,zl,zg,zp,zm,zh,zu,h2,hlt,hg,go_sem]
   refine zc fun b hb=>?_
   simp(disch:=omega) only[zq,zl,zg,zp,zm,zh,zu,go_sem]
   refine zG (ihm t v hmem a _ o1 (by simp only[Lim];omega) (hs.own.upd hb)) fun o2 H2 hs2=>?_
   rw[zM] at hs2
   simp(disch:=omega) only[wrap64,go_sem]
   exact goJ (hJ (o2,Zn v a) H2 ⟨hn,by simp only;omega,(hs.upd hb).trans hs2⟩) (by simp(disch:=omega) only[go_sem])
 ·simp(disch:=omega) only[ir245,yj,k8,k6,k7,go_sem]
  refine hQ _ _ H H _ nofun rfl (Low.refl _) ⟨o,?_,?_⟩
  ·simp[zd,ze,Zn,k8,k6,k7]
  ·simpa[Zn,k8,k6,k7,zM] using OwnS.refl ho
theorem zkt (v:Val) (h:bV v≤Lim):zi Tryz.prog 226 [.agg (cV v)] (.sl .no 1 (cT (Zn v []))):=by
 refine zi.go ir226 ck226 (Al4 _) fun KP Q hQ=>?_
 simp(disch:=omega) only[zq,zl,zg,zp,zm,zh,zu,ir226,go_sem]
 refine zG (zt5 v [] _ .nil (by simpa using h) rfl) fun o' H' hs=>?_
 simp(disch:=omega) only[go_sem]
 exact hQ _ _ _ _ nofun rfl (by simp[zd,ze,AV.strip,AV.strip1])
def isD (c:UInt8):Bool:=decide (48≤c.toNat)&&decide (c.toNat≤57)
def isL (c:UInt8):Bool:=(decide (97≤c.toNat)&&decide (c.toNat≤122))||((decide (65≤c.toNat)&&decide (c.toNat≤90))||decide (c.toNat=95))
theorem zoD (c:UInt8):zi Tryz.prog 240 [.int .u8 (c.toNat:Int)] (.bool (isD c)):=by
 refine zi.go ir240 ck240 (Al4 _) fun KP Q hQ=>?_
 by_cases h:(48:Int)≤c.toNat
 ·simp(disch:=omega) only[ir240,h,go_sem]
  have h':48≤c.toNat:=by omega
  have e:decide ((c.toNat:Int)≤57)=decide (c.toNat≤57):=by rw[decide_eq_decide];omega
  exact hQ _ _ _ _ nofun rfl (by simp[zd,ze,AV.strip,AV.strip1,isD,h',e])
 ·simp(disch:=omega) only[ir240,h,go_sem]
  have h':¬ 48≤c.toNat:=by omega
  exact hQ _ _ _ _ nofun rfl (by simp[zd,ze,AV.strip,AV.strip1,isD,h'])
theorem zq9 (c:UInt8):zi Tryz.prog 239 [.int .u8 (c.toNat:Int)] (.bool (isL c)):=by
 refine zi.go ir239 ck239 (Al4 _) fun KP Q hQ=>?_
 have e:decide ((c.toNat:Int)=95)=decide (c.toNat=95):=by rw[decide_eq_decide];omega
 by_cases h:(97:Int)≤c.toNat
 ·have h':97≤c.toNat:=by omega
  by_cases h2:(c.toNat:Int)≤122
  ·have h2':c.toNat≤122:=by omega
   simp(disch:=omega) only[ir239,h,h2,go_sem]
   exact hQ _ _ _ _ nofun rfl (by simp[zd,ze,AV.strip,AV.strip1,isL,h',h2'])
  ·have h2':¬ c.toNat≤122:=by omega
   have h3:(65:Int)≤c.toNat:=by omega
   have h4:¬ (c.toNat:Int)≤90:=by omega
   have h4':¬ c.toNat≤90:=by omega
   simp(disch:=omega) only[ir239,h,h2,h3,h4,go_sem]
   exact hQ _ _ _ _ nofun rfl (by simp[zd,ze,AV.strip,AV.strip1,isL,h',h2',h4',e])
 ·have h':¬ 97≤c.toNat:=by omega
  by_cases h3:(65:Int)≤c.toNat
  ·have h3':65≤c.toNat:=by omega
   by_cases h4:(c.toNat:Int)≤90
   ·have h4':c.toNat≤90:=by omega
    simp(disch:=omega) only[ir239,h,h3,h4,go_sem]
    exact hQ _ _ _ _ nofun rfl (by simp[zd,ze,AV.strip,AV.strip1,isL,h',h3',h4'])
   ·have h4':¬ c.toNat≤90:=by omega
    simp(disch:=omega) only[ir239,h,h3,h4,go_sem]
    exact hQ _ _ _ _ nofun rfl (by simp[zd,ze,AV.strip,AV.strip1,isL,h',h3',h4',e])
  ·have h3':¬ 65≤c.toNat:=by omega
   simp(disch:=omega) only[ir239,h,h3,go_sem]
   exact hQ _ _ _ _ nofun rfl (by simp[zd,ze,AV.strip,AV.strip1,isL,h',h3',e])
def zhA:List UInt8→Nat→Bool
 | [],_=>true
 | c::r,i=>if isL c||(decide (i≠0)&&isD c) then zhA r (i+1) else false
def zR (s:List UInt8):Bool:=zhA s 0&&decide (s≠[])
theorem zqV {s a:List UInt8} {x:UInt8} {b:List UInt8} (h:s=a++x::b):s.getD a.length 0=x:=by subst h;simp
theorem zhB (s:List UInt8) (hs:s.length≤Lim):zi Tryz.prog 221 [.str s] (.bool (zR s)):=by
 refine zi.go ir221 ck221 (Al4 _) fun KP Q hQ=>?_
 simp only[Lim] at hs
 simp(disch:=omega) only[ir221,go_sem]
 refine zf s 6 (fun _:Unit=>[]) (fun done rest n H=>zhA rest done.length=zhA s 0) () (by simp(disch:=omega) only[go_sem]) rfl ?_ ?_
 ·rintro n H J hn hlt
  simp only[zhA] at hn
  simp(disch:=omega) only[hlt,go_sem]
  have e:(!decide (s=[]))=decide (s≠[]):=by simp
  exact hQ _ _ _ _ nofun rfl (by simp[zd,ze,AV.strip,AV.strip1,zR,← hn])
 ·rintro done x rest n H J hd hlt _ hn hJ
  have hg:=zqV hd
  simp only[zhA] at hn
  simp(disch:=omega) only[hlt,hg,go_sem]
  refine za (zq9 x) ?_
  cases hl:isL x with
  | true =>
   simp only[hl,Bool.true_or,if_true] at hn
   simp(disch:=omega) only[hl,go_sem]
   exact goJ (hJ () _ (by simpa using hn)) (by simp(disch:=omega) only[wrap64,go_sem])
  | false =>
   by_cases h0:done.length=0
   ·have h0':(done.length:Int)=0:=by omega
    simp only[hl,h0,ne_eq,not_true_eq_false,decide_false,Bool.false_and,Bool.or_false,Al7,if_false] at hn
    simp(disch:=omega) only[hl,h0',go_sem]
    exact hQ _ _ _ _ nofun rfl (by simp[zd,ze,AV.strip,AV.strip1,zR,← hn])
   ·have h0':¬ (done.length:Int)=0:=by omega
    simp(disch:=omega) only[hl,h0',hlt,hg,go_sem]
    refine za (zoD x) ?_
    cases hdg:isD x with
    | true =>
     simp only[hl,hdg,h0,ne_eq,not_false_eq_true,decide_true,Bool.and_self,Bool.or_true,if_true] at hn
     simp(disch:=omega) only[hdg,go_sem]
     exact goJ (hJ () _ (by simpa using hn)) (by simp(disch:=omega) only[wrap64,go_sem])
    | false =>
     simp only[hl,hdg,Bool.and_false,Bool.or_false,Al7,if_false] at hn
     simp(disch:=omega) only[hdg,go_sem]
     exact hQ _ _ _ _ nofun rfl (by simp[zd,ze,AV.strip,AV.strip1,zR,← hn])
def Zi:List UInt8→Nat
 | []=>0
 | c::r=>if isD c then Zi r+1 else 0
theorem zbm:∀ l,Zi l≤l.length
 | []=>Al4 _
 | c::r=>by have:=zbm r;simp only[Zi,Al2];split<;>omega
theorem zk7 (s:List UInt8) (k:Nat):(s.drop k=[]∧s.length≤k)∨(k<s.length∧s.drop k=s.getD k 0::s.drop (k+1)):=by
 rcases Nat.lt_or_ge k s.length with h|h
 ·right
  refine⟨h,?_⟩
  rw[List.drop_eq_getElem_cons h]
  simp[h]
 ·left;exact⟨List.drop_of_length_le h,h⟩
theorem YP (s:List UInt8) (hs:s.length≤Lim):zi Tryz.prog 275 [.str s] (.int .i64 (Zi s)):=by
 refine zi.go ir275 ck275 (Al4 _) fun KP Q hQ=>?_
 simp only[Lim] at hs
 have hr1:=zbm s
 simp(disch:=omega) only[ir275,go_sem]
 refine zbp (fun n:Nat=>[(3,.int .i64 n)]) (fun n H=>Zi s=n+Zi (s.drop n)∧n≤s.length) (fun n=>s.length-n) 0 (by simp(disch:=omega) only[go_sem]) ⟨by simp,by omega⟩ ?_
 rintro n H J ⟨hn,hle⟩ hJ
 rcases zk7 s n with ⟨h1,h2⟩|⟨h1,h2⟩
 ·have hlt:¬ ((n:Int)<s.length):=by omega
  rw[h1] at hn
  simp only[Zi,Nat.add_zero] at hn
  simp(disch:=omega) only[hlt,go_sem]
  exact hQ _ _ _ _ nofun rfl (by simp[zd,ze,AV.strip,AV.strip1,hn])
 ·have hlt:((n:Int)<s.length):=by omega
  rw[h2] at hn
  simp only[Zi] at hn
  simp(disch:=omega) only[hlt,go_sem]
  refine za (zoD (s.getD n 0)) ?_
  cases hd:isD (s.getD n 0) with
  | true =>
   simp only[hd,if_true] at hn
   simp(disch:=omega) only[hd,go_sem]
   exact goJ (hJ (n+1) _ (by omega) ⟨by omega,by omega⟩) (by simp(disch:=omega) only[wrap64,Int.natCast_add,Int.natCast_one,go_sem])
  | false =>
   simp only[hd,Al7,if_false,Nat.add_zero] at hn
   simp(disch:=omega) only[hd,go_sem]
   exact hQ _ _ _ _ nofun rfl (by simp[zd,ze,AV.strip,AV.strip1,hn])
theorem zlM (c:UInt8) (s:List UInt8):[c].isPrefixOf s=decide (s.head?=some c):=by
 cases s with
 | nil=>rfl
 | cons d r =>
  by_cases h:d=c
  ·subst h;simp[List.isPrefixOf]
  ·have h':¬ c=d:=fun e=>h e.symm
   simp[List.isPrefixOf,h,h']
def zeS (s:List UInt8):Nat:=if Zi s=0 then 0 else if s.getD 0 0=48 then 1 else Zi s
def Zy (s:List UInt8):Nat:=if s.head?=some 45 then (if Zi s.tail=0 then 0 else 1+zeS s.tail) else zeS s
theorem zlK (s:List UInt8):zeS s≤s.length:=by have:=zbm s;unfold zeS;split<;>(try split)<;>omega
theorem zmP (s:List UInt8):Zy s≤s.length:=by
 have h1:=zlK s
 have h2:=zlK s.tail
 unfold Zy
 split
 ·rename_i h
  cases s with
  | nil=>simp at h
  | cons c r =>
   simp only[List.tail_cons,Al2] at h2 ⊢
   by_cases h0:Zi r=0<;>simp only[h0,if_true,if_false]<;>omega
 ·exact h1
theorem zhq (a:UInt8) (n:Nat) (hn:n<256):decide ((a.toNat:Int)=n)=decide (a=UInt8.ofNat n):=by
 rw[decide_eq_decide]
 have:(UInt8.ofNat n).toNat=n:=by simp[UInt8.toNat_ofNat'];omega
 constructor
 ·intro h;apply UInt8.toNat_inj.1;rw[this];omega
 ·intro h;subst h;rw[this]
theorem zsd (s:List UInt8) (hs:s.length≤Lim):zi Tryz.prog 274 [.str s] (.int .i64 (Zy s)):=by
 refine zi.go ir274 ck274 (Al4 _) fun KP Q hQ=>?_
 simp only[Lim] at hs
 simp(disch:=omega) only[ir274,go_sem]
 refine za (zh6 s [45]) ?_
 rw[zlM]
 by_cases h:s.head?=some 45
 ·cases s with
  | nil=>simp at h
  | cons c r =>
   have hc:c=45:=by simpa using h
   subst hc
   simp only[Al2] at hs
   have h1:(1:Int)≤((r.length+1:Nat):Int):=by omega
   have h2:(1:Int)<((r.length+1:Nat):Int)∨r=[]:=by cases r<;>simp;omega
   simp(disch:=omega) only[h,h1,Int.toNat_one,go_sem]
   refine za (YP r (by simp only[Lim];omega)) ?_
   by_cases h0:Zi r=0
   ·simp(disch:=omega) only[h0,go_sem]
    exact hQ _ _ _ _ nofun rfl (by simp[zd,ze,AV.strip,AV.strip1,Zy,h0])
   ·have h0':¬ ((Zi r:Int)=0):=by omega
    have hrl:=zbm r
    have hlt:(1:Int)<((r.length+1:Nat):Int):=by omega
    have e:=zhq (r.getD 0 0) 48 (by omega)
    by_cases h48:r.getD 0 0=48
    ·have hi:zeS r=1:=by simp only[zeS,h0,h48,if_false,if_true]
     simp(disch:=omega) only[h0',hlt,Int.toNat_one,h48,UInt8.reduceToNat,wrap64,go_sem]
     exact hQ _ _ _ _ nofun rfl (by simp[zd,ze,AV.strip,AV.strip1,Zy,h0,hi])
    ·have h48':¬ ((r.getD 0 0).toNat:Int)=48:=by
      intro hh
      rw[decide_eq_true (by exact hh)] at e
      exact h48 (by simpa using e.symm)
     have hi:zeS r=Zi r:=by simp only[zeS,h0,h48,if_false]
     simp(disch:=omega) only[h0',hlt,Int.toNat_one,h48',wrap64,go_sem]
     exact hQ _ _ _ _ nofun rfl (by simp[zd,ze,AV.strip,AV.strip1,Zy,h0,hi])
 ·simp(disch:=omega) only[h,go_sem]
  refine za (YP s (by simp only[Lim];omega)) ?_
  by_cases h0:Zi s=0
  ·simp(disch:=omega) only[h0,go_sem]
   exact hQ _ _ _ _ nofun rfl (by simp[zd,ze,AV.strip,AV.strip1,Zy,h,zeS,h0])
  ·have h0':¬ ((Zi s:Int)=0):=by omega
   have hrl:=zbm s
   have hlt:(0:Int)<(s.length:Int):=by omega
   have e:=zhq (s.getD 0 0) 48 (by omega)
   by_cases h48:s.getD 0 0=48
   ·have hi:zeS s=1:=by simp only[zeS,h0,h48,if_false,if_true]
    simp(disch:=omega) only[h0',hlt,h48,UInt8.reduceToNat,wrap64,go_sem]
    exact hQ _ _ _ _ nofun rfl (by simp[zd,ze,AV.strip,AV.strip1,Zy,h,hi])
   ·have h48':¬ ((s.getD 0 0).toNat:Int)=48:=by
     intro hh
     rw[decide_eq_true (by exact hh)] at e
     exact h48 (by simpa using e.symm)
    have hi:zeS s=Zi s:=by simp only[zeS,h0,h48,if_false]
    simp(disch:=omega) only[h0',hlt,h48',wrap64,go_sem]
    exact hQ _ _ _ _ nofun rfl (by simp[zd,ze,AV.strip,AV.strip1,Zy,h,hi])
def isE (c:UInt8):Bool:=decide (c=101)||decide (c=69)
def sgN (r:List UInt8):Nat:=if r.head?=some 43∨r.head?=some 45 then 1 else 0
def zeo:List UInt8→Nat
 | []=>0
 | c::r=>if isE c then (if Zi (r.drop (sgN r))=0 then 0 else 1+sgN r+Zi (r.drop (sgN r))) else 0
theorem zns (r:List UInt8):sgN r≤r.length:=by
 unfold sgN
 split
 ·cases r<;>simp_all
 ·omega
theorem zlI:∀ s,zeo s≤s.length
 | []=>by simp[zeo]
 | c::r=>by
  have h:=zbm (r.drop (sgN r))
  have h2:=zns r
  rw[zfx] at h
  simp only[zeo,Al2]
  split
  ·split<;>omega
  ·omega
theorem zkk (s:List UInt8) (hs:s.length≤Lim):zi Tryz.prog 276 [.str s] (.int .i64 (zeo s)):=by
 refine zi.go ir276 ck276 (Al4 _) fun KP Q hQ=>?_
 simp only[Lim] at hs
 cases s with
 | nil =>
  simp(disch:=omega) only[ir276,go_sem]
  exact hQ _ _ _ _ nofun rfl (by simp[zd,ze,AV.strip,AV.strip1,zeo])
 | cons c r =>
  simp only[Al2] at hs
  have hne:¬ (c::r=[]):=by simp
  have hp:(0:Int)<((r.length+1:Nat):Int):=by omega
  have e1:=zhq c 101 (by omega)
  have e2:=zhq c 69 (by omega)
  have hE:∀(P:Prop),P→P:=fun _ h=>h
  by_cases hc:isE c=true
  case neg =>
   have hc1:¬ (c.toNat:Int)=101:=by
    intro hh;rw[decide_eq_true (by exact hh)] at e1
    exact hc (by simp[isE,(by simpa using e1.symm:c=101)])
   have hc2:¬ (c.toNat:Int)=69:=by
    intro hh;rw[decide_eq_true (by exact hh)] at e2
    exact hc (by simp[isE,(by simpa using e2.symm:c=69)])
   simp(disch:=omega) only[ir276,hne,hp,hc1,hc2,go_sem]
   have hcf:isE c=false:=by simpa using hc
   exact hQ _ _ _ _ nofun rfl (by simp[zd,ze,AV.strip,AV.strip1,zeo,hcf])
  have fin:∀ k:Nat,Zi (r.drop (sgN r))=k→zeo (c::r)=if k=0 then 0 else 1+sgN r+k:=fun k hk=>by subst hk;simp only[zeo,hc,if_true]
  have hcase:(c.toNat:Int)=101∨(¬ (c.toNat:Int)=101∧(c.toNat:Int)=69):=by
   simp only[isE,zii,yw] at hc
   rcases hc with rfl|rfl
   ·exact .inl rfl
   ·exact .inr ⟨by decide,rfl⟩
  have hdl:=zbm (r.drop (sgN r))
  rw[zfx] at hdl
  have hsl:=zns r
  cases r with
  | nil =>
   have k0:=fin 0 (by simp[sgN,Zi])
   rcases hcase with h1|⟨h1,h2⟩
   ·simp(disch:=omega) only[ir276,h1,go_sem]
    refine za (YP [] (by simp)) ?_
    simp(disch:=omega) only[Zi,go_sem]
    exact hQ _ _ _ _ nofun rfl (by simp[zd,ze,AV.strip,AV.strip1,k0])
   ·simp(disch:=omega) only[ir276,h1,h2,go_sem]
    refine za (YP [] (by simp)) ?_
    simp(disch:=omega) only[Zi,go_sem]
    exact hQ _ _ _ _ nofun rfl (by simp[zd,ze,AV.strip,AV.strip1,k0])
  | cons d t =>
   simp only[Al2] at hs
   have hl1:(1:Int)<((t.length+1+1:Nat):Int):=by omega
   have hl2:(2:Int)≤((t.length+1+1:Nat):Int):=by omega
   have hl3:(1:Int)≤((t.length+1+1:Nat):Int):=by omega
   have f1:=zhq d 43 (by omega)
   have f2:=zhq d 45 (by omega)
   by_cases hsg:d=43∨d=45
   ·have hsg1:sgN (d::t)=1:=by simp only[sgN,List.head?_cons,Al1,hsg,if_true]
    have k0:=fin (Zi t) (by rw[hsg1];rfl)
    rw[hsg1] at k0 hdl
    have hd:(d.toNat:Int)=43∨(¬ (d.toNat:Int)=43∧(d.toNat:Int)=45):=by
     rcases hsg with rfl|rfl
     ·exact .inl rfl
     ·exact .inr ⟨by decide,rfl⟩
    rcases hcase with h1|⟨h1,h2⟩<;>rcases hd with h3|⟨h3,h4⟩
    all_goals
     simp only[hl1,hl2,Al2,List.drop_succ_cons,List.drop_zero] at hdl
    ·simp(disch:=omega) only[ir276,h1,h3,hl1,hl2,Int.toNat_one,go_sem]
     refine za (YP t (by simp only[Lim];omega)) ?_
     by_cases hz:Zi t=0
     ·simp(disch:=omega) only[hz,go_sem]
      exact hQ _ _ _ _ nofun rfl (by simp[zd,ze,AV.strip,AV.strip1,k0,hz])
     ·have hz':¬ (Zi t:Int)=0:=by omega
      simp(disch:=omega) only[hz',wrap64,go_sem]
      exact hQ _ _ _ _ nofun rfl (by simp[zd,ze,AV.strip,AV.strip1,k0,hz])
    ·simp(disch:=omega) only[ir276,h1,h3,h4,hl1,hl2,Int.toNat_one,go_sem]
     refine za (YP t (by simp only[Lim];omega)) ?_
     by_cases hz:Zi t=0
     ·simp(disch:=omega) only[hz,go_sem]
      exact hQ _ _ _ _ nofun rfl (by simp[zd,ze,AV.strip,AV.strip1,k0,hz])
     ·have hz':¬ (Zi t:Int)=0:=by omega
      simp(disch:=omega) only[hz',wrap64,go_sem]
      exact hQ _ _ _ _ nofun rfl (by simp[zd,ze,AV.strip,AV.strip1,k0,hz])
    ·simp(disch:=omega) only[ir276,h1,h2,h3,hl1,hl2,Int.toNat_one,go_sem]
     refine za (YP t (by simp only[Lim];omega)) ?_
     by_cases hz:Zi t=0
     ·simp(disch:=omega) only[hz,go_sem]
      exact hQ _ _ _ _ nofun rfl (by simp[zd,ze,AV.strip,AV.strip1,k0,hz])
     ·have hz':¬ (Zi t:Int)=0:=by omega
      simp(disch:=omega) only[hz',wrap64,go_sem]
      exact hQ _ _ _ _ nofun rfl (by simp[zd,ze,AV.strip,AV.strip1,k0,hz])
    ·simp(disch:=omega) only[ir276,h1,h2,h3,h4,hl1,hl2,Int.toNat_one,go_sem]
     refine za (YP t (by simp only[Lim];omega)) ?_
     by_cases hz:Zi t=0
     ·simp(disch:=omega) only[hz,go_sem]
      exact hQ _ _ _ _ nofun rfl (by simp[zd,ze,AV.strip,AV.strip1,k0,hz])
     ·have hz':¬ (Zi t:Int)=0:=by omega
      simp(disch:=omega) only[hz',wrap64,go_sem]
      exact hQ _ _ _ _ nofun rfl (by simp[zd,ze,AV.strip,AV.strip1,k0,hz])
   ·have hsg0:sgN (d::t)=0:=by simp only[sgN,List.head?_cons,Al1,hsg,if_false]
    have k0:=fin (Zi (d::t)) (by rw[hsg0];rfl)
    rw[hsg0] at k0 hdl
    have h3:¬ (d.toNat:Int)=43:=by
     intro hh;rw[decide_eq_true (by exact hh)] at f1
     exact hsg (.inl (by simpa using f1.symm))
    have h4:¬ (d.toNat:Int)=45:=by
     intro hh;rw[decide_eq_true (by exact hh)] at f2
     exact hsg (.inr (by simpa using f2.symm))
    simp only[List.drop_zero,Al2] at hdl
    rcases hcase with h1|⟨h1,h2⟩
    ·simp(disch:=omega) only[ir276,h1,h3,h4,hl1,hl3,Int.toNat_one,go_sem]
     refine za (YP (d::t) (by simp only[Lim,Al2];omega)) ?_
     by_cases hz:Zi (d::t)=0
     ·simp(disch:=omega) only[hz,go_sem]
      exact hQ _ _ _ _ nofun rfl (by simp[zd,ze,AV.strip,AV.strip1,k0,hz])
     ·have hz':¬ (Zi (d::t):Int)=0:=by omega
      simp(disch:=omega) only[hz',wrap64,go_sem]
      exact hQ _ _ _ _ nofun rfl (by simp[zd,ze,AV.strip,AV.strip1,k0,hz])
    ·simp(disch:=omega) only[ir276,h1,h2,h3,h4,hl1,hl3,Int.toNat_one,go_sem]
     refine za (YP (d::t) (by simp only[Lim,Al2];omega)) ?_
     by_cases hz:Zi (d::t)=0
     ·simp(disch:=omega) only[hz,go_sem]
      exact hQ _ _ _ _ nofun rfl (by simp[zd,ze,AV.strip,AV.strip1,k0,hz])
     ·have hz':¬ (Zi (d::t):Int)=0:=by omega
      simp(disch:=omega) only[hz',wrap64,go_sem]
      exact hQ _ _ _ _ nofun rfl (by simp[zd,ze,AV.strip,AV.strip1,k0,hz])
def zcx (r:List UInt8):Nat:=if r.head?=some 46∧0<Zi r.tail then 1+Zi r.tail else 0
def zg6 (s:List UInt8):Nat×Int :=
 if Zy s=0 then (0,0) else
  (Zy s+zcx (s.drop (Zy s))+zeo (s.drop (Zy s+zcx (s.drop (Zy s)))),if zcx (s.drop (Zy s))=0∧zeo (s.drop (Zy s+zcx (s.drop (Zy s))))=0 then 3 else 4)
theorem zqM (s:List UInt8) (hs:s.length≤Lim):zi Tryz.prog 269 [.str s] (.tup [.int .i64 (zg6 s).1,.int .i64 (zg6 s).2]):=by
 refine zi.go ir269 ck269 (Al4 _) fun KP Q hQ=>?_
 have hs':=hs
 simp only[Lim] at hs
 simp(disch:=omega) only[ir269,go_sem]
 refine za (zsd s hs') ?_
 have hw:=zmP s
 by_cases h0:Zy s=0
 ·simp(disch:=omega) only[h0,go_sem]
  exact hQ _ _ _ _ nofun rfl (by simp[zd,ze,AV.strip,AV.strip1,zg6,h0])
 have h0':¬ ((Zy s:Int)=0):=by omega
 have hwl:(Zy s:Int)≤s.length:=by omega
 simp(disch:=omega) only[h0',hwl,go_sem]
 refine za (zh6 (s.drop (Zy s)) [46]) ?_
 rw[zlM]
 generalize hn:Zy s=n at *
 have fin:∀ f p:Nat,zcx (s.drop n)=f→zeo (s.drop (n+f))=p→zg6 s=(n+f+p,if f=0∧p=0 then 3 else 4):=fun f p hf hp=>by
  unfold zg6
  rw[hn,hf,hp]
  simp only[h0,if_false]
 have hpl:=zlI (s.drop n)
 rw[zfx] at hpl
 by_cases h46:(s.drop n).head?=some 46
 ·obtain⟨c,t,hct⟩:∃ c t,s.drop n=c::t:=by
   cases hx:s.drop n with
   | nil=>rw[hx] at h46;simp at h46
   | cons c t=>exact⟨c,t,rfl⟩
  have hlen:s.length=n+1+t.length:=by have:=congrArg List.length hct;simp at this;omega
  have hdr:s.drop (n+1)=t:=by rw[← List.drop_drop,hct];rfl
  have hto:((n:Int)+1).toNat=n+1:=by omega
  have hn1:(0:Int)≤(n:Int)+1:=by omega
  have hn2:(n:Int)+1≤s.length:=by omega
  have hrl:=zbm t
  simp(disch:=omega) only[h46,wrap64,hto,hn1,hn2,hdr,go_sem]
  refine za (YP t (by simp only[Lim];omega)) ?_
  by_cases hk:(0:Int)<Zi t
  ·have hk':0<Zi t:=by omega
   have hfr:zcx (s.drop n)=1+Zi t:=by unfold zcx;rw[if_pos ⟨h46,by rw[hct];exact hk'⟩,hct];rfl
   have hto2:((n:Int)+1+Zi t).toNat=n+(1+Zi t):=by omega
   have hn3:(0:Int)≤(n:Int)+1+Zi t:=by omega
   have hn4:(n:Int)+1+Zi t≤s.length:=by omega
   have hpl2:=zlI (s.drop (n+(1+Zi t)))
   rw[zfx] at hpl2
   simp(disch:=omega) only[hk,wrap64,hto2,hn3,hn4,go_sem]
   refine za (zkk (s.drop (n+(1+Zi t))) (by rw[zfx];simp only[Lim];omega)) ?_
   have hf:=fin _ _ hfr rfl
   generalize hp:zeo (s.drop (n+(1+Zi t)))=p at *
   by_cases hp0:(0:Int)<p
   ·simp(disch:=omega) only[hp0,wrap64,go_sem]
    exact hQ _ _ _ _ nofun rfl (by simp[zd,ze,AV.strip,AV.strip1,hf,Int.add_assoc])
   ·have hp00:p=0:=by omega
    subst hp00
    simp(disch:=omega) only[go_sem]
    exact hQ _ _ _ _ nofun rfl (by simp[zd,ze,AV.strip,AV.strip1,hf,Int.add_assoc])
  ·have hk0:Zi t=0:=by omega
   have hfr:zcx (s.drop n)=0:=by unfold zcx;exact if_neg fun hh=>by have:=hh.2;rw[hct] at this;simp only[List.tail_cons] at this;omega
   simp(disch:=omega) only[hk,hwl,go_sem]
   refine za (zkk (s.drop n) (by rw[zfx];simp only[Lim];omega)) ?_
   have hf:=fin _ _ hfr rfl
   rw[Nat.add_zero] at hf
   generalize hp:zeo (s.drop n)=p at *
   by_cases hp0:(0:Int)<p
   ·have hp1:¬ p=0:=by omega
    simp(disch:=omega) only[hp0,wrap64,go_sem]
    exact hQ _ _ _ _ nofun rfl (by simp[zd,ze,AV.strip,AV.strip1,hf,hp1])
   ·have hp00:p=0:=by omega
    subst hp00
    simp(disch:=omega) only[go_sem]
    exact hQ _ _ _ _ nofun rfl (by simp[zd,ze,AV.strip,AV.strip1,hf])
 ·have hfr:zcx (s.drop n)=0:=by unfold zcx;exact if_neg fun hh=>h46 hh.1
  simp(disch:=omega) only[h46,hwl,go_sem]
  refine za (zkk (s.drop n) (by rw[zfx];simp only[Lim];omega)) ?_
  have hf:=fin _ _ hfr rfl
  rw[Nat.add_zero] at hf
  generalize hp:zeo (s.drop n)=p at *
  by_cases hp0:(0:Int)<p
  ·have hp1:¬ p=0:=by omega
   simp(disch:=omega) only[hp0,wrap64,go_sem]
   exact hQ _ _ _ _ nofun rfl (by simp[zd,ze,AV.strip,AV.strip1,hf,hp1])
  ·have hp00:p=0:=by omega
   subst hp00
   simp(disch:=omega) only[go_sem]
   exact hQ _ _ _ _ nofun rfl (by simp[zd,ze,AV.strip,AV.strip1,hf])
def zg3 (s:List UInt8):Int:=if (zg6 s).1=s.length then (zg6 s).2 else 0
theorem zit (s:List UInt8) (hs:s.length≤Lim):zi Tryz.prog 259 [.str s] (.int .i64 (zg3 s)):=by
 refine zi.go ir259 ck259 (Al4 _) fun KP Q hQ=>?_
 simp(disch:=omega) only[ir259,go_sem]
 refine za (zqM s hs) ?_
 by_cases h:(zg6 s).1=s.length
 ·have h':(((zg6 s).1:Int)=s.length)=True:=eq_true (by omega)
  simp(disch:=omega) only[h',go_sem]
  exact hQ _ _ _ _ nofun rfl (by simp[zd,ze,AV.strip,AV.strip1,zg3,h])
 ·have h':¬ ((zg6 s).1:Int)=s.length:=by omega
  simp(disch:=omega) only[h',go_sem]
  exact hQ _ _ _ _ nofun rfl (by simp[zd,ze,AV.strip,AV.strip1,zg3,h])
def okI:Lib.NumEnd Int→Bool
 | .ok _=>true
 | _=>false
def zpW (s:List UInt8):Int:=match Lib.parseIntB 64 s with
 | .ok v=>v
 | Lib.NumEnd.syntax=>0
 | .range=>Lib.intSat 64 s
def zgp (s:List UInt8):Bool:=okI (Lib.parseIntB 64 s)&&decide (zg3 s=3)
theorem ztl (s:List UInt8) (hs:s.length≤Lim):zi Tryz.prog 260 [.str s] (.tup [.int .i64 (zpW s),.bool (zgp s)]):=by
 refine zi.go ir260 ck260 (Al4 _) fun KP Q hQ=>?_
 simp(disch:=omega) only[ir260,go_sem]
 refine za (zm0 s (by simp only[Lim] at hs;omega)) ?_
 rcases hp:Lib.parseIntB 64 s with v|_|_
 ·simp(disch:=omega) only[zgF,hp,go_sem]
  refine za (zit s hs) ?_
  simp(disch:=omega) only[go_sem]
  exact hQ _ _ _ _ nofun rfl (by simp[zd,ze,AV.strip,AV.strip1,zpW,zgp,hp,okI])
 ·simp(disch:=omega) only[zgF,hp,go_sem]
  exact hQ _ _ _ _ nofun rfl (by simp[zd,ze,AV.strip,AV.strip1,zpW,zgp,hp,okI])
 ·simp(disch:=omega) only[zgF,hp,go_sem]
  exact hQ _ _ _ _ nofun rfl (by simp[zd,ze,AV.strip,AV.strip1,zpW,zgp,hp,okI])
def zmO (s:List UInt8):Bool:=decide (zg3 s=4)||(decide (zg3 s=3)&&!zgp s)
theorem zuL (s:List UInt8) (hs:s.length≤Lim):zi Tryz.prog 247 [.str s] (.bool (zmO s)):=by
 refine zi.go ir247 ck247 (Al4 _) fun KP Q hQ=>?_
 simp(disch:=omega) only[ir247,go_sem]
 refine za (zit s hs) ?_
 simp(disch:=omega) only[go_sem]
 refine za (ztl s hs) ?_
 by_cases h4:zg3 s=4
 ·simp(disch:=omega) only[h4,go_sem]
  exact hQ _ _ _ _ nofun rfl (by simp[zd,ze,AV.strip,AV.strip1,zmO,h4])
 ·by_cases h3:zg3 s=3
  ·simp(disch:=omega) only[h4,h3,go_sem]
   exact hQ _ _ _ _ nofun rfl (by simp[zd,ze,AV.strip,AV.strip1,zmO,h4,h3])
  ·simp(disch:=omega) only[h4,h3,go_sem]
   exact hQ _ _ _ _ nofun rfl (by simp[zd,ze,AV.strip,AV.strip1,zmO,h4,h3])
def zmH (s:List UInt8):Bool:=decide (s=[116,114,117,101])||(decide (s=[102,97,108,115,101])||decide (s=[110,117,108,108]))
theorem zuC (s:List UInt8):zi Tryz.prog 248 [.str s] (.bool (zmH s)):=by
 refine zi.go ir248 ck248 (Al4 _) fun KP Q hQ=>?_
 by_cases h1:s=[116,114,117,101]
 ·simp(disch:=omega) only[ir248,h1,go_sem]
  exact hQ _ _ _ _ nofun rfl (by simp[zd,ze,AV.strip,AV.strip1,zmH,h1])
 ·by_cases h2:s=[102,97,108,115,101]
  ·subst h2
   have h3:¬ ([102,97,108,115,101]:List UInt8)=[116,114,117,101]:=by decide
   simp(disch:=omega) only[ir248,h3,go_sem]
   exact hQ _ _ _ _ nofun rfl (by simp[zd,ze,AV.strip,AV.strip1,zmH,h3])
  ·simp(disch:=omega) only[ir248,h1,h2,go_sem]
   exact hQ _ _ _ _ nofun rfl (by simp[zd,ze,AV.strip,AV.strip1,zmH,h1,h2])
theorem zrv (s:List UInt8) (hs:s.length≤Lim):zi Tryz.prog 203 [.str s] (.bool (Lib.validD s)):=by
 refine zi.go ir203 ck203 (Al4 _) fun KP Q hQ=>?_
 simp(disch:=omega) only[ir203,go_sem]
 refine za (zss s (by simp only[Lim] at hs;omega)) ?_
 simp(disch:=omega) only[go_sem]
 exact hQ _ _ _ _ nofun rfl (by simp[zd,ze,AV.strip,AV.strip1])
def zcZ (n:Int) (s:List UInt8) (l:List Val) (m:List Mem):Bool:=decide (n=0)&&(decide (s=[])&&(decide (l.length=0)&&decide (m.length=0)))
theorem zog (k n:Int) (s:List UInt8) (l:List Val) (m:List Mem):zi Tryz.prog 229 [.agg (cV (.mk k n s l m))] (.bool (zcZ n s l m)):=by
 refine zi.go ir229 ck229 (Al4 _) fun KP Q hQ=>?_
 have h1:=zaj l
 have h2:=y0 m
 by_cases g1:n=0
 case neg =>
  simp(disch:=omega) only[ir229,yj,g1,go_sem]
  exact hQ _ _ _ _ nofun rfl (by simp[zd,ze,AV.strip,AV.strip1,zcZ,g1])
 by_cases g2:s=[]
 case neg =>
  simp(disch:=omega) only[ir229,yj,g1,g2,go_sem]
  exact hQ _ _ _ _ nofun rfl (by simp[zd,ze,AV.strip,AV.strip1,zcZ,g2])
 by_cases g3:l.length=0
 case neg =>
  simp(disch:=omega) only[ir229,yj,g1,g2,h1,g3,go_sem]
  exact hQ _ _ _ _ nofun rfl (by simp[zd,ze,AV.strip,AV.strip1,zcZ,g3])
 have e:decide ((m.length:Int)=0)=decide (m.length=0):=by rw[decide_eq_decide];omega
 simp(disch:=omega) only[ir229,yj,g1,g2,h1,h2,g3,go_sem]
 exact hQ _ _ _ _ nofun rfl (by simp[zd,ze,AV.strip,AV.strip1,zcZ,g1,g2,g3,e])
def Zf (k n:Int) (s:List UInt8) (l:List Val) (m:List Mem):Bool :=
 zcZ 0 [] l m&&(if k=0 then decide (n=0)&&decide (s=[]) else if k=1 then (decide (n=0)||decide (n=1))&&decide (s=[]) else if k=2 then decide (s=[])
  else if k=3 then decide (n=0)&&zmO s else if k=4 then decide (n=0)&&Lib.validD s else if k=5 then decide (n=0)&&(zR s&&!zmH s) else if k=8 then decide (n=0)&&zR s else false)
theorem zqj (k n:Int) (s:List UInt8) (l:List Val) (m:List Mem) (hs:s.length≤Lim):zi Tryz.prog 228 [.agg (cV (.mk k n s l m))] (.bool (Zf k n s l m)):=by
 refine zi.go ir228 ck228 (Al4 _) fun KP Q hQ=>?_
 simp(disch:=omega) only[ir228,yj,go_sem]
 refine zc fun b hb=>?_
 simp(disch:=omega) only[go_sem]
 refine za (zog k 0 [] l m) ?_
 cases hb:zcZ 0 [] l m with
 | false =>
  simp(disch:=omega) only[hb,go_sem]
  exact hQ _ _ _ _ nofun rfl (by simp[zd,ze,AV.strip,AV.strip1,Zf,hb])
 | true =>
  by_cases k0:k=0
  ·by_cases n0:n=0
   ·simp(disch:=omega) only[hb,k0,n0,go_sem]
    exact hQ _ _ _ _ nofun rfl (by simp[zd,ze,AV.strip,AV.strip1,Zf,hb,k0,n0])
   ·simp(disch:=omega) only[hb,k0,n0,go_sem]
    exact hQ _ _ _ _ nofun rfl (by simp[zd,ze,AV.strip,AV.strip1,Zf,hb,k0,n0])
  by_cases k1:k=1
  ·by_cases n0:n=0
   ·simp(disch:=omega) only[hb,k0,k1,n0,go_sem]
    exact hQ _ _ _ _ nofun rfl (by simp[zd,ze,AV.strip,AV.strip1,Zf,hb,k1,n0])
   ·by_cases n1:n=1
    ·simp(disch:=omega) only[hb,k0,k1,n0,n1,go_sem]
     exact hQ _ _ _ _ nofun rfl (by simp[zd,ze,AV.strip,AV.strip1,Zf,hb,k1,n1])
    ·simp(disch:=omega) only[hb,k0,k1,n0,n1,go_sem]
     exact hQ _ _ _ _ nofun rfl (by simp[zd,ze,AV.strip,AV.strip1,Zf,hb,k1,n0,n1])
  by_cases k2:k=2
  ·simp(disch:=omega) only[hb,k0,k1,k2,go_sem]
   exact hQ _ _ _ _ nofun rfl (by simp[zd,ze,AV.strip,AV.strip1,Zf,hb,k2])
  by_cases k3:k=3
  ·by_cases n0:n=0
   ·simp(disch:=omega) only[hb,k0,k1,k2,k3,n0,go_sem]
    refine za (zuL s hs) ?_
    simp(disch:=omega) only[go_sem]
    exact hQ _ _ _ _ nofun rfl (by simp[zd,ze,AV.strip,AV.strip1,Zf,hb,k3,n0])
   ·simp(disch:=omega) only[hb,k0,k1,k2,k3,n0,go_sem]
    exact hQ _ _ _ _ nofun rfl (by simp[zd,ze,AV.strip,AV.strip1,Zf,hb,k3,n0])
  by_cases k4:k=4
  ·by_cases n0:n=0
   ·simp(disch:=omega) only[hb,k0,k1,k2,k3,k4,n0,go_sem]
    refine za (zrv s hs) ?_
    simp(disch:=omega) only[go_sem]
    exact hQ _ _ _ _ nofun rfl (by simp[zd,ze,AV.strip,AV.strip1,Zf,hb,k4,n0])
   ·simp(disch:=omega) only[hb,k0,k1,k2,k3,k4,n0,go_sem]
    exact hQ _ _ _ _ nofun rfl (by simp[zd,ze,AV.strip,AV.strip1,Zf,hb,k4,n0])
  by_cases k5:k=5
  ·by_cases n0:n=0
   ·simp(disch:=omega) only[hb,k0,k1,k2,k3,k4,k5,n0,go_sem]
    refine za (zhB s hs) ?_
    cases hn:zR s with
    | true =>
     simp(disch:=omega) only[hn,go_sem]
     refine za (zuC s) ?_
     simp(disch:=omega) only[go_sem]
     exact hQ _ _ _ _ nofun rfl (by simp[zd,ze,AV.strip,AV.strip1,Zf,hb,k5,n0,hn])
    | false =>
     simp(disch:=omega) only[hn,go_sem]
     exact hQ _ _ _ _ nofun rfl (by simp[zd,ze,AV.strip,AV.strip1,Zf,hb,k5,n0,hn])
   ·simp(disch:=omega) only[hb,k0,k1,k2,k3,k4,k5,n0,go_sem]
    exact hQ _ _ _ _ nofun rfl (by simp[zd,ze,AV.strip,AV.strip1,Zf,hb,k5,n0])
  by_cases k8:k=8
  ·by_cases n0:n=0
   ·simp(disch:=omega) only[hb,k0,k1,k2,k3,k4,k5,k8,n0,go_sem]
    refine za (zhB s hs) ?_
    simp(disch:=omega) only[go_sem]
    exact hQ _ _ _ _ nofun rfl (by simp[zd,ze,AV.strip,AV.strip1,Zf,hb,k8,n0])
   ·simp(disch:=omega) only[hb,k0,k1,k2,k3,k4,k5,k8,n0,go_sem]
    exact hQ _ _ _ _ nofun rfl (by simp[zd,ze,AV.strip,AV.strip1,Zf,hb,k8,n0])
  ·simp(disch:=omega) only[hb,k0,k1,k2,k3,k4,k5,k8,go_sem]
   exact hQ _ _ _ _ nofun rfl (by simp[zd,ze,AV.strip,AV.strip1,Zf,hb,k0,k1,k2,k3,k4,k5,k8])
mutual
def zdm (may:List UInt8→Bool):Val→Bool
 | .mk k n s l m=>if k=6 then zgU may l&&zcZ n s [] m else if k=7 then zf1 may m&&zcZ n s l [] else Zf k n s l m
def zgU (may:List UInt8→Bool):List Val→Bool
 | []=>true
 | v::r=>zdm may v&&zgU may r
def ztT (may:List UInt8→Bool):Mem→Bool
 | .mk s v=>may s&&zdm may v
def zf1 (may:List UInt8→Bool):List Mem→Bool
 | []=>true
 | x::r=>ztT may x&&zf1 may r
end
theorem zuh (f:FuncId) (hf:Program.callable Tryz.prog f=true) (may:List UInt8→Bool) (hmay:∀ s:List UInt8,s.length≤Lim→zi Tryz.prog f [.str s] (.bool (may s))) :
  ∀ v,bV v≤Lim→zi Tryz.prog 202 [.agg (cV v),.clo f [] []] (.bool (zdm may v)):=by
 refine Val.ind fun k n s l m ihl ihm hb=>?_
 have hb':1+s.length+bVs l+bMs m≤Lim:=hb
 have hll:=zaQ l
 have hml:=y9 m
 have h1:=zaj l
 have h2:=y0 m
 simp only[Lim] at hb'
 refine zi.go ir202 ck202 (Al4 _) fun KP Q hQ=>?_
 simp(disch:=omega) only[ir202,yj,go_sem]
 refine zc fun b hb=>?_
 by_cases k6:k=6
 ·subst k6
  simp(disch:=omega) only[h1,go_sem]
  refine zf l 22 (fun _:Unit=>[(6,.bool true)]) (fun done rest _ H=>zgU may rest=zgU may l∧H b=some (.cells [.int .i64 6,.int .i64 n,.str s,.sl .nil 5 [],.sl .no 6 (cMs m)])) () (by simp(disch:=omega) only[go_sem]) ⟨rfl,by simp[zb.upd]⟩ ?_ ?_
  ·rintro _ H J ⟨hn,hH⟩ hlt
   simp only[zgU] at hn
   simp(disch:=omega) only[h1,hlt,hH,go_sem]
   refine za (zi.low (zog 6 n s [] m)) ?_
   simp(disch:=omega) only[go_sem]
   exact hQ _ _ _ _ nofun rfl (by simp[zd,ze,AV.strip,AV.strip1,zdm,← hn])
  ·rintro done x rest _ H J hd hlt _ ⟨hn,hH⟩ hJ
   have hg:=zaO hd
   have hbm:=zfJ done x rest
   rw[← hd] at hbm
   simp only[zgU] at hn
   simp(disch:=omega) only[zq,zl,zg,zp,zm,zh,zu,h1,hlt,hg,go_sem]
   refine zc fun b2 hb2=>?_
   have hne:=zdw hb2 hH
   simp(disch:=omega) only[zq,zl,zg,zp,zm,zh,zu,go_sem]
   refine za (ihl x (by rw[hd];simp) (by simp only[Lim];omega)) ?_
   cases hx:zdm may x with
   | true =>
    simp only[hx,Bool.true_and] at hn
    simp(disch:=omega) only[hx,go_sem]
    exact goJ (hJ () _ ⟨hn,by simp[zb.upd,Ne.symm hne,hH]⟩) (by simp(disch:=omega) only[wrap64,go_sem])
   | false =>
    simp only[hx,Bool.false_and] at hn
    simp(disch:=omega) only[hx,go_sem]
    exact hQ _ _ _ _ nofun rfl (by simp[zd,ze,AV.strip,AV.strip1,zdm,← hn])
 by_cases k7:k=7
 ·subst k7
  simp(disch:=omega) only[h2,go_sem]
  refine zf m 38 (fun _:Unit=>[(6,.bool true)]) (fun done rest _ H=>zf1 may rest=zf1 may m∧H b=some (.cells [.int .i64 7,.int .i64 n,.str s,.sl .no 5 (cVs l),.sl .nil 6 []])) () (by simp(disch:=omega) only[go_sem]) ⟨rfl,by simp[zb.upd]⟩ ?_ ?_
  ·rintro _ H J ⟨hn,hH⟩ hlt
   simp only[zf1] at hn
   simp(disch:=omega) only[h2,hlt,hH,go_sem]
   refine za (zi.low (zog 7 n s l [])) ?_
   simp(disch:=omega) only[go_sem]
   exact hQ _ _ _ _ nofun rfl (by simp[zd,ze,AV.strip,AV.strip1,zdm,← hn])
  ·rintro done x rest _ H J hd hlt _ ⟨hn,hH⟩ hJ
   have hg:=Zu hd
   have hbm:=zad done x rest
   rw[← hd] at hbm
   have hmem:x∈m:=by rw[hd];simp
   obtain⟨t,v⟩:=x
   simp only[zf1,ztT,bM] at hn hbm
   simp(disch:=omega) only[zq,zl,zg,zp,zm,zh,zu,h2,hlt,hg,go_sem]
   refine zc fun b2 hb2=>?_
   have hne:=zdw hb2 hH
   simp(disch:=omega) only[zq,zl,zg,zp,zm,zh,zu,go_sem]
   refine⟨hf,za (hmay t (by simp only[Lim];omega)) ?_⟩
   cases ht:may t with
   | true =>
    simp(disch:=omega) only[zq,zl,zg,zp,zm,zh,zu,ht,go_sem]
    refine za (ihm t v hmem (by simp only[Lim];omega)) ?_
    cases hx:zdm may v with
    | true =>
     simp only[ht,hx,Bool.true_and] at hn
     simp(disch:=omega) only[hx,go_sem]
     exact goJ (hJ () _ ⟨hn,by simp[zb.upd,Ne.symm hne,hH]⟩) (by simp(disch:=omega) only[wrap64,go_sem])
    | false =>
     simp only[ht,hx,Bool.true_and,Bool.false_and] at hn
     simp(disch:=omega) only[hx,go_sem]
     exact hQ _ _ _ _ nofun rfl (by simp[zd,ze,AV.strip,AV.strip1,zdm,← hn])
   | false =>
    simp only[ht,Bool.false_and] at hn
    simp(disch:=omega) only[zq,zl,zg,zp,zm,zh,zu,ht,go_sem]
    exact hQ _ _ _ _ nofun rfl (by simp[zd,ze,AV.strip,AV.strip1,zdm,← hn])
 ·simp(disch:=omega) only[k6,k7,go_sem]
  refine za (zqj k n s l m (by simp only[Lim];omega)) ?_
  simp(disch:=omega) only[go_sem]
  exact hQ _ _ _ _ nofun rfl (by simp[zd,ze,AV.strip,AV.strip1,zdm,k6,k7])
def zlg (v:Val):Bool:=zdm Lib.validD v
theorem zsQ (v:Val) (hb:bV v≤Lim):zi Tryz.prog 148 [.agg (cV v)] (.bool (zlg v)):=by
 refine zi.go ir148 ck148 (Al4 _) fun KP Q hQ=>?_
 simp(disch:=omega) only[zq,zl,zg,zp,zm,zh,zu,ir148,go_sem]
 refine za (zuh _ (by kernel_rfl) Lib.validD zrv v hb) ?_
 simp(disch:=omega) only[go_sem]
 exact hQ _ _ _ _ nofun rfl (by simp[zd,ze,AV.strip,AV.strip1,zlg])
def zaA (v:Val):Bool:=zdm zR v&&decide (Zx v≤16)
theorem zpU (v:Val) (hb:bV v≤Lim):zi Tryz.prog 255 [.agg (cV v)] (.bool (zaA v)):=by
 refine zi.go ir255 ck255 (Al4 _) fun KP Q hQ=>?_
 simp(disch:=omega) only[zq,zl,zg,zp,zm,zh,zu,ir255,go_sem]
 refine za (zuh _ (by kernel_rfl) zR zhB v hb) ?_
 cases h:zdm zR v with
 | true =>
  simp(disch:=omega) only[zq,zl,zg,zp,zm,zh,zu,h,go_sem]
  refine za (zdS v hb) ?_
  simp(disch:=omega) only[go_sem]
  exact hQ _ _ _ _ nofun rfl (by simp[zd,ze,AV.strip,AV.strip1,zaA,h])
 | false =>
  simp(disch:=omega) only[h,go_sem]
  exact hQ _ _ _ _ nofun rfl (by simp[zd,ze,AV.strip,AV.strip1,zaA,h])
theorem zjh (s:List UInt8):zi Tryz.prog 264 [.str s] (.agg (cK ⟨2,s⟩)):=by
 refine zi.go ir264 ck264 (Al4 _) fun KP Q hQ=>?_
 simp(disch:=omega) only[ir264,go_sem]
 refine zc fun b hb=>?_
 simp(disch:=omega) only[go_sem]
 exact hQ _ _ _ [.agg [.int .i64 2,.str s]] nofun (by simp(disch:=omega) only[ir264,zQ,Zv,go_sem]) rfl
theorem zeG (s:List UInt8):zi Tryz.prog 267 [.str s] (.agg (cK ⟨1,s⟩)):=by
 refine zi.go ir267 ck267 (Al4 _) fun KP Q hQ=>?_
 simp(disch:=omega) only[ir267,go_sem]
 refine zc fun b hb=>?_
 simp(disch:=omega) only[go_sem]
 exact hQ _ _ _ [.agg [.int .i64 1,.str s]] nofun (by simp(disch:=omega) only[ir267,zQ,Zv,go_sem]) rfl
def boolT (b:Bool):List UInt8:=if b then [116,114,117,101] else [102,97,108,115,101]
theorem zps (b:Bool):zi Tryz.prog 271 [.bool b] (.str (boolT b)):=by
 refine zi.go ir271 ck271 (Al4 _) fun KP Q hQ=>?_
 cases b
 ·simp(disch:=omega) only[ir271,go_sem]
  exact hQ _ _ _ _ nofun rfl (by simp[zd,ze,AV.strip,AV.strip1,boolT])
 ·simp(disch:=omega) only[ir271,go_sem]
  exact hQ _ _ _ _ nofun rfl (by simp[zd,ze,AV.strip,AV.strip1,boolT])
theorem zpX (b:Bool):zi Tryz.prog 265 [.bool b] (.str (boolT b)):=by
 refine zi.go ir265 ck265 (Al4 _) fun KP Q hQ=>?_
 simp(disch:=omega) only[ir265,go_sem]
 refine za (zps b) ?_
 simp(disch:=omega) only[go_sem]
 exact hQ _ _ _ _ nofun rfl (by simp[zd,ze,AV.strip,AV.strip1])
mutual
def Yg:Val→List Tok
 | .mk k n s l m=>if k=0 then [⟨2,[110,117,108,108]⟩] else if k=1 then [⟨2,boolT (decide (n=1))⟩] else if k=2 then [⟨3,Lib.itoa n⟩] else if k=3 then [⟨zg3 s,s⟩] else if k=4 then [⟨5,s⟩]
  else if k=5 then [⟨2,s⟩] else if k=8 then [⟨1,[36]⟩,⟨2,s⟩] else if k=6 then ⟨1,[91]⟩::(zbH l++[⟨1,[93]⟩]) else ⟨1,[123]⟩::(Z9 m++[⟨1,[125]⟩])
def zbH:List Val→List Tok
 | []=>[]
 | v::r=>Yg v++zbH r
def zjA:Mem→List Tok
 | .mk s v=>⟨2,s⟩::⟨1,[58]⟩::Yg v
def Z9:List Mem→List Tok
 | []=>[]
 | x::r=>zjA x++Z9 r
end
mutual
theorem zc4:∀ v,(Yg v).length+2≤4*bV v
 | .mk k n s l m=>by
  have h1:=zgx l
  have h2:=zgd m
  simp only[Yg,bV]
  repeat' split
  all_goals simp only[Al2,Al5,Al3]
  all_goals omega
theorem zgx:∀ l,(zbH l).length≤4*bVs l
 | []=>by simp[zbH]
 | v::r=>by
  have h1:=zc4 v
  have h2:=zgx r
  simp only[zbH,bVs,Al5];omega
theorem zqr:∀ x,(zjA x).length≤4*bM x
 | .mk s v=>by have:=zc4 v;simp only[zjA,bM,Al2];omega
theorem zgd:∀ l,(Z9 l).length≤4*bMs l
 | []=>by simp[Z9]
 | x::r=>by
  have h1:=zqr x
  have h2:=zgd r
  simp only[Z9,bMs,Al5];omega
end
def inR (n:Int):Prop:=-9223372036854775808≤n∧n≤9223372036854775807
mutual
def wfV:Val→Prop
 | .mk _ n _ l m=>inR n∧zkQ l∧zfB m
def zkQ:List Val→Prop
 | []=>True
 | v::r=>wfV v∧zkQ r
def wfM:Mem→Prop
 | .mk _ v=>wfV v
def zfB:List Mem→Prop
 | []=>True
 | x::r=>wfM x∧zfB r
end
theorem zja:∀ {l:List Val},zkQ l→∀ v∈l,wfV v
 | _::_,h,v,hv=>(List.mem_cons.1 hv).elim (fun e=>e▸h.1) (zja h.2 v)
theorem zd3:∀ {l:List Mem},zfB l→∀ s v,Mem.mk s v∈l→wfV v
 | _::_,h,s,v,hv=>(List.mem_cons.1 hv).elim (fun e=>by have:=h.1;rw[← e] at this;exact this) (zd3 h.2 s v)
theorem zaM (a:List Tok) (t:Tok):cKs a++[[.int .i64 t.k,.str t.s]]=cKs (a++[t]):=by simp[cKs,cK]
theorem zi4 (a:List Tok) (t u:Tok):cKs a++[[.int .i64 t.k,.str t.s],[.int .i64 u.k,.str u.s]]=cKs (a++[t,u]):=by simp[cKs,cK]
theorem zpT:∀ v,wfV v→∀ acc H o,acc.length+4*bV v≤Lim→ya H o acc.length 2→Y5 Tryz.prog 256 [.sl o 2 (cKs acc),.agg (cV v)] H o 2 (cKs (acc++Yg v)):=by
 refine Val.ind fun k n s l m ihl ihm hwf acc H o hb ho=>?_
 obtain⟨hn,hwl,hwm⟩:=hwf
 have hb':acc.length+4*(1+s.length+bVs l+bMs m)≤Lim:=hb
 have hll:=zaQ l
 have hml:=y9 m
 have h1:=zaj l
 have h2:=y0 m
 have h3:=yz acc
 have hT:=zgx l
 have hM:=zgd m
 simp only[Lim] at hb'
 have hsl:s.length≤Lim:=by simp only[Lim];omega
 refine zj.goO ir256 ck256 (Al4 _) fun KP Q hQ hP=>?_
 have one:∀ t:Tok,Yg (.mk k n s l m)=[t]→∀ o' H',OwnS H o H' o' (acc.length+1) 2→zue H o 2 (cKs (acc++Yg (.mk k n s l m))) (.sl o' 2 (cKs acc++[[.int .i64 t.k,.str t.s]])) H':=fun t e o' H' hs=>by
  rw[e];exact⟨o',by rw[zaM],by rw[yz];simpa using hs⟩
 have hq1:((cKs acc).length+1)*24≤140737488355328:=by rw[h3];omega
 have hq2:(cKs acc).length+1≤maxLen:=by rw[h3];simp only[maxLen];omega
 have hq3:((cKs acc).length+2)*24≤140737488355328:=by rw[h3];omega
 have hq4:(cKs acc).length+2≤maxLen:=by rw[h3];simp only[maxLen];omega
 have ho':ya H o (cKs acc).length 2:=by rw[h3];exact ho
 by_cases k0:k=0
 ·subst k0
  simp(disch:=omega) only[ir256,yj,go_sem]
  refine za (zjh _) ?_
  simp(disch:=omega) only[cK,go_sem]
  refine zw ho' hq1 hq2 fun o' H' hs=>?_
  simp(disch:=omega) only[go_sem]
  exact hQ _ _ H' H' [_] nofun rfl (Low.refl _) (one ⟨2,[110,117,108,108]⟩ (by simp[Yg]) o' H' (by simpa[h3] using hs))
 by_cases k1:k=1
 ·subst k1
  simp(disch:=omega) only[ir256,yj,go_sem]
  refine za (zpX _) ?_
  simp(disch:=omega) only[go_sem]
  refine za (zjh _) ?_
  simp(disch:=omega) only[cK,go_sem]
  refine zw ho' hq1 hq2 fun o' H' hs=>?_
  simp(disch:=omega) only[go_sem]
  exact hQ _ _ H' H' [_] nofun rfl (Low.refl _) (one ⟨2,boolT (decide (n=1))⟩ (by simp[Yg]) o' H' (by simpa[h3] using hs))
 by_cases k2:k=2
 ·subst k2
  simp(disch:=omega) only[ir256,yj,go_sem]
  refine za (zko n hn.1 hn.2) ?_
  simp(disch:=omega) only[go_sem]
  refine zw ho' hq1 hq2 fun o' H' hs=>?_
  simp(disch:=omega) only[go_sem]
  exact hQ _ _ H' H' [_] nofun rfl (Low.refl _) (one ⟨3,Lib.itoa n⟩ (by simp[Yg]) o' H' (by simpa[h3] using hs))
 by_cases k3:k=3
 ·subst k3
  simp(disch:=omega) only[ir256,yj,go_sem]
  refine za (zit s hsl) ?_
  simp(disch:=omega) only[go_sem]
  refine zw ho' hq1 hq2 fun o' H' hs=>?_
  simp(disch:=omega) only[go_sem]
  exact hQ _ _ H' H' [_] nofun rfl (Low.refl _) (one ⟨zg3 s,s⟩ (by simp[Yg]) o' H' (by simpa[h3] using hs))
 by_cases k4:k=4
 ·subst k4
  simp(disch:=omega) only[ir256,yj,go_sem]
  refine zw ho' hq1 hq2 fun o' H' hs=>?_
  simp(disch:=omega) only[go_sem]
  exact hQ _ _ H' H' [_] nofun rfl (Low.refl _) (one ⟨5,s⟩ (by simp[Yg]) o' H' (by simpa[h3] using hs))
 by_cases k5:k=5
 ·subst k5
  simp(disch:=omega) only[ir256,yj,go_sem]
  refine za (zjh _) ?_
  simp(disch:=omega) only[cK,go_sem]
  refine zw ho' hq1 hq2 fun o' H' hs=>?_
  simp(disch:=omega) only[go_sem]
  exact hQ _ _ H' H' [_] nofun rfl (Low.refl _) (one ⟨2,s⟩ (by simp[Yg]) o' H' (by simpa[h3] using hs))
 by_cases k8:k=8
 ·subst k8
  simp(disch:=omega) only[ir256,yj,go_sem]
  refine za (zeG _) ?_
  simp(disch:=omega) only[cK,go_sem]
  refine za (zjh _) ?_
  simp(disch:=omega) only[cK,go_sem]
  refine zw ho' hq3 hq4 fun o' H' hs=>?_
  simp(disch:=omega) only[go_sem]
  refine hQ _ _ H' H' [_] nofun rfl (Low.refl _) ?_
  have e:Yg (.mk 8 n s l m)=[⟨1,[36]⟩,⟨2,s⟩]:=by simp[Yg]
  rw[e]
  exact⟨o',by rw[← zi4];rfl,by rw[yz];simpa[h3] using hs⟩
 by_cases k6:k=6
 ·subst k6
  have e:Yg (.mk 6 n s l m)=⟨1,[91]⟩::(zbH l++[⟨1,[93]⟩]):=by simp[Yg]
  have ea:=zaM acc ⟨1,[91]⟩
  simp only at ea
  simp(disch:=omega) only[ir256,yj,go_sem]
  refine za (zeG _) ?_
  simp(disch:=omega) only[cK,go_sem]
  refine zw ho' hq1 hq2 fun o1 H1 hs1=>?_
  have hs1':OwnS H o H1 o1 (acc++[(⟨1,[91]⟩:Tok)]).length 2:=by simpa[h3] using hs1
  simp(disch:=omega) only[ea,h1,go_sem]
  refine zf l 81 (fun x:Own×List Tok=>[(0,.sl x.1 2 (cKs x.2))]) (fun done rest x H'=>x.2++zbH rest=acc++⟨1,[91]⟩::zbH l∧x.2.length+4*bVs rest≤acc.length+1+4*bVs l∧OwnS H o H' x.1 x.2.length 2) (o1,acc++[⟨1,[91]⟩]) (by simp(disch:=omega) only[go_sem]) ⟨by simp,by simp,hs1'⟩ ?_ ?_
  ·rintro⟨o2,a⟩ H2 J ⟨hn,hle,hs⟩ hlt
   simp only[zbH,List.append_nil,bVs] at hn hle
   have h4:=yz a
   simp(disch:=omega) only[h1,hlt,go_sem]
   refine za (zeG _) ?_
   simp(disch:=omega) only[cK,go_sem]
   refine zw (by rw[h4];exact hs.own) (by simp only[h4,Al2,Al3];omega) (by simp only[h4,Al2,Al3,maxLen];omega) fun o3 H3 hs3=>?_
   simp(disch:=omega) only[go_sem]
   refine hQ _ _ H3 H3 [_] nofun rfl (Low.refl _) ?_
   have e2:acc++Yg (.mk 6 n s l m)=a++[⟨1,[93]⟩]:=by rw[e,hn];simp
   rw[e2]
   exact⟨o3,by rw[← zaM];rfl,by rw[yz];exact hs.trans (by simpa[h4] using hs3)⟩
  ·rintro done x rest ⟨o2,a⟩ H2 J hd hlt _ ⟨hn,hle,hs⟩ hJ
   have hg:=zaO hd
   have hx:=zc4 x
   have hmem:x∈l:=by rw[hd];simp
   simp only[zbH,bVs] at hn hle
   simp(disch:=omega) only[zq,zl,zg,zp,zm,zh,zu,h1,hlt,hg,go_sem]
   refine zc fun b hb=>?_
   simp(disch:=omega) only[zq,zl,zg,zp,zm,zh,zu,go_sem]
   refine zG (ihl x hmem (zja hwl x hmem) a _ o2 (by simp only[Lim];omega) (hs.own.upd hb)) fun o3 H3 hs3=>?_
   rw[yz] at hs3
   simp(disch:=omega) only[wrap64,go_sem]
   exact goJ (hJ (o3,a++Yg x) H3 ⟨by rw[← hn];simp,by simp only[Al5];omega,(hs.upd hb).trans hs3⟩) (by simp(disch:=omega) only[go_sem])
 ·have e:Yg (.mk k n s l m)=⟨1,[123]⟩::(Z9 m++[⟨1,[125]⟩]):=by simp[Yg,k0,k1,k2,k3,k4,k5,k8,k6]
  have ea:=zaM acc ⟨1,[123]⟩
  simp only at ea
  simp(disch:=omega) only[ir256,yj,k0,k1,k2,k3,k4,k5,k8,k6,go_sem]
  refine za (zeG _) ?_
  simp(disch:=omega) only[cK,go_sem]
  refine zw ho' hq1 hq2 fun o1 H1 hs1=>?_
  have hs1':OwnS H o H1 o1 (acc++[(⟨1,[123]⟩:Tok)]).length 2:=by simpa[h3] using hs1
  simp(disch:=omega) only[ea,h2,go_sem]
  refine zf m 100 (fun x:Own×List Tok=>[(0,.sl x.1 2 (cKs x.2))]) (fun done rest x H'=>x.2++Z9 rest=acc++⟨1,[123]⟩::Z9 m∧x.2.length+4*bMs rest≤acc.length+1+4*bMs m∧OwnS H o H' x.1 x.2.length 2) (o1,acc++[⟨1,[123]⟩]) (by simp(disch:=omega) only[go_sem]) ⟨by simp,by simp,hs1'⟩ ?_ ?_
  ·rintro⟨o2,a⟩ H2 J ⟨hn,hle,hs⟩ hlt
   simp only[Z9,List.append_nil,bMs] at hn hle
   have h4:=yz a
   simp(disch:=omega) only[h2,hlt,go_sem]
   refine za (zeG _) ?_
   simp(disch:=omega) only[cK,go_sem]
   refine zw (by rw[h4];exact hs.own) (by simp only[h4,Al2,Al3];omega) (by simp only[h4,Al2,Al3,maxLen];omega) fun o3 H3 hs3=>?_
   simp(disch:=omega) only[go_sem]
   refine hQ _ _ H3 H3 [_] nofun rfl (Low.refl _) ?_
   have e2:acc++Yg (.mk k n s l m)=a++[⟨1,[125]⟩]:=by rw[e,hn];simp
   rw[e2]
   exact⟨o3,by rw[← zaM];rfl,by rw[yz];exact hs.trans (by simpa[h4] using hs3)⟩
  ·rintro done x rest ⟨o2,a⟩ H2 J hd hlt _ ⟨hn,hle,hs⟩ hJ
   have hg:=Zu hd
   have hmem:x∈m:=by rw[hd];simp
   obtain⟨t,v⟩:=x
   have hx:=zc4 v
   have h4:=yz a
   have hp:=YY v
   simp only[Z9,zjA,bMs,bM] at hn hle
   have ea2:=zi4 a ⟨2,t⟩ ⟨1,[58]⟩
   simp only at ea2
   simp(disch:=omega) only[zq,zl,zg,zp,zm,zh,zu,h2,hlt,hg,go_sem]
   refine zc fun b hb=>?_
   simp(disch:=omega) only[zq,zl,zg,zp,zm,zh,zu,go_sem]
   refine za (zjh _) ?_
   simp(disch:=omega) only[zq,zl,zg,zp,zm,zh,zu,cK,go_sem]
   refine za (zeG _) ?_
   simp(disch:=omega) only[zq,zl,zg,zp,zm,zh,zu,cK,go_sem]
   refine zw (by rw[h4];exact hs.own.upd hb) (by simp only[h4,Al2,Al3];omega) (by simp only[h4,Al2,Al3,maxLen];omega) fun o3 H3 hs3=>?_
   have hs3':OwnS H o H3 o3 (a++[(⟨2,t⟩:Tok),⟨1,[58]⟩]).length 2:=(hs.upd hb).trans (by simpa[h4] using hs3)
   have hHb:H3 b=some (.cells (cM (.mk t v))):=hs3.kept b _ (by simp[zb.upd,zu]) fun d e=>by
    have:=hs.own;subst e
    have hx:H2 b=_:=this
    rw[hb] at hx;cases hx
   simp(disch:=omega) only[zq,zl,zg,zp,zm,zh,zu,ea2,hHb,go_sem]
   refine zG (ihm t v hmem (zd3 hwm t v hmem) _ _ o3 (by simp only[Lim,Al5,Al2,Al3];omega) hs3'.own) fun o4 H4 hs4=>?_
   rw[yz] at hs4
   simp(disch:=omega) only[wrap64,go_sem]
   exact goJ (hJ (o4,a++[⟨2,t⟩,⟨1,[58]⟩]++Yg v) H4 ⟨by rw[← hn];simp,by simp only[Al5,Al2,Al3];omega,hs3'.trans hs4⟩) (by simp(disch:=omega) only[go_sem])
def Yw (v:Val):List Tok:=if zaA v then Yg v else []
theorem zbn (v:Val) (hw:wfV v) (hb:4*bV v≤Lim):zi Tryz.prog 241 [.agg (cV v)] (.tup [.sl .no 2 (cKs (Yw v)),.bool (zaA v)]):=by
 have hb':bV v≤Lim:=by omega
 refine zi.go ir241 ck241 (Al4 _) fun KP Q hQ=>?_
 simp(disch:=omega) only[zq,zl,zg,zp,zm,zh,zu,ir241,go_sem]
 refine za (zpU v hb') ?_
 cases h:zaA v with
 | false =>
  simp(disch:=omega) only[h,go_sem]
  exact hQ _ _ _ _ nofun rfl (by simp[zd,ze,AV.strip,AV.strip1,Yw,h,cKs])
 | true =>
  simp(disch:=omega) only[zq,zl,zg,zp,zm,zh,zu,h,go_sem]
  refine zG (zpT v hw [] _ .nil (by simpa using hb) rfl) fun o' H' hs=>?_
  simp(disch:=omega) only[go_sem]
  exact hQ _ _ _ _ nofun rfl (by simp[zd,ze,AV.strip,AV.strip1,Yw,h])
end Go.Proofs.YtbcocdloklbkjaaGreatDoor
namespace Go.Proofs.YtbcocdloklbkjaaGreatDoor
def zkI (P:Program) (f:FuncId) (fn:Func) (s:ChangeSpec) (c:OpenClaim):Bool:=c.wf (OpenSpec.ofChange s)&&laidOutB P&&mapsRowed P&&fn.params.all (P.readableRec ·)&&namedTie P c.named s.vars
def zkR (P:Program) (f:FuncId) (fn:Func) (s:ChangeSpec) (c:OpenClaim):Bool:=(c.stops==[])&&(P.stops==[])&&(c.knobs==[])&&(P.stopKnobs==[])&&(c.maps==(fn.params.toList++s.plain.varTypes P).any (P.mapsRec ·))&&(c.ifaces==(fn.params.toList++s.plain.varTypes P).any (P.ifacesRec ·))&&(c.mapsOut==P.mapsAmong fn.resultTypes.toList)&&(c.loops==(fn.params.toList++s.plain.varTypes P).any (P.loopsFrom ·))&&(c.wideKeys==(fn.params.toList++s.plain.varTypes P++fn.resultTypes.toList).any (P.wideKeysFrom ·))&&s.vars.all (P.varReadable ·)&&fn.resultTypes.all (fun t=>P.readableRec t&&decide (t<P.types.size))&&(c.ifacesOut==fn.resultTypes.toList.any (P.ifacesRec ·))&&(c.loopsOut==fn.resultTypes.toList.any (P.loopsFrom ·))&&(c.veiled==(fn.params.toList++s.plain.varTypes P++fn.resultTypes.toList).any (P.veiledRec ·))&&c.veiledFits P fn.params.toList (fn.params.toList++s.plain.varTypes P++fn.resultTypes.toList)
def zkx (P:Program) (f:FuncId) (fn:Func) (s:ChangeSpec) (c:OpenClaim):Bool:=(c.inPlace==P.inPlace f)&&(c.unfollowed==P.unfollowed f)&&(c.recurses==P.recurses f)&&(c.named==P.varsNamed f)
def zkB (P:Program) (f:FuncId) (fn:Func) (s:ChangeSpec) (c:OpenClaim):Bool:=(c.plainKeys==P.plainKeys)&&c.shortTexts.isNone
def zkJ (P:Program) (f:FuncId) (fn:Func) (s:ChangeSpec) (c:OpenClaim):Bool:=P.stopsHeard
def zkq (P:Program) (f:FuncId) (fn:Func) (s:ChangeSpec) (c:OpenClaim):Bool:=P.mayEnter
def zkm (P:Program) (f:FuncId) (fn:Func) (s:ChangeSpec) (c:OpenClaim):Bool:=(c.lifted==P.liftsFinal)&&(P.make==some c.make)&&(c.kinds==(if c.domain.isEmpty then [] else fn.params.toList.map fun t=>match P.underlying t with|some (.int k)=>some k|_=>none))&&(c.pinned==c.pinnedBy)
theorem zmW {P:Program} {f:FuncId} {fn:Func} {s:ChangeSpec} {c:OpenClaim} (h0:zkI P f fn s c=true) (h1:zkR P f fn s c=true) (h2:zkx P f fn s c=true) (h3:zkB P f fn s c=true) (h4:zkJ P f fn s c=true) (h5:zkq P f fn s c=true) (h6:zkm P f fn s c=true):joinedFacts P f fn s c=true:=by
 simp only[zkI,Al0] at h0
 obtain⟨⟨⟨⟨a0,a1⟩,a2⟩,a3⟩,a4⟩:=h0
 simp only[zkR,Al0] at h1
 obtain⟨⟨⟨⟨⟨⟨⟨⟨⟨⟨⟨⟨⟨⟨a5,a6⟩,a7⟩,a8⟩,a13⟩,a14⟩,a15⟩,a16⟩,a17⟩,a18⟩,a19⟩,a20⟩,a21⟩,a30⟩,a31⟩:=h1
 simp only[zkx,Al0] at h2
 obtain⟨⟨⟨a9,a10⟩,a11⟩,a12⟩:=h2
 simp only[zkB,Al0] at h3
 obtain⟨a22,a23⟩:=h3
 simp only[zkJ,Al0] at h4
 have a24:=h4
 simp only[zkq,Al0] at h5
 have a25:=h5
 simp only[zkm,Al0] at h6
 obtain⟨⟨⟨a26,a27⟩,a28⟩,a29⟩:=h6
 simp only[joinedFacts,Al0]
 exact⟨⟨⟨⟨⟨⟨⟨⟨⟨⟨⟨⟨⟨⟨⟨⟨⟨⟨⟨⟨⟨⟨⟨⟨⟨⟨⟨⟨⟨⟨⟨a0,a1⟩,a2⟩,a3⟩,a4⟩,a5⟩,a6⟩,a7⟩,a8⟩,a9⟩,a10⟩,a11⟩,a12⟩,a13⟩,a14⟩,a15⟩,a16⟩,a17⟩,a18⟩,a19⟩,a20⟩,a21⟩,a22⟩,a23⟩,a24⟩,a25⟩,a26⟩,a27⟩,a28⟩,a29⟩,a30⟩,a31⟩
open Go.Ab Go.ChangeAt Go.ChangeShapes Go.Lib Go.RowKit Go.WideElems Go.WideShapes
theorem own:ownKnob Tryz.prog.godebug=none:=by kernel_rfl
theorem laidOut:laidOutB Tryz.prog=true:=by kernel_rfl
theorem zlQ:∀ l,bVs l=(l.map bV).sum
 | []=>rfl
 | v::r=>by simp[bVs,zlQ r]
theorem zlu:∀ l,bMs l=(l.map bM).sum
 | []=>rfl
 | v::r=>by simp[bMs,zlu r]
theorem ziU:∀ {l:List Val},(∀ v∈l,wfV v)→zkQ l
 | [],_=>trivial
 | v::r,h=>⟨h v (.head _),ziU fun x hx=>h x (.tail _ hx)⟩
theorem zjR:∀ {l:List Mem},(∀ v∈l,wfM v)→zfB l
 | [],_=>trivial
 | v::r,h=>⟨h v (.head _),zjR fun x hx=>h x (.tail _ hx)⟩
theorem zk6 {n:Int} (h:(Lit.int .i64 n).wf=true):inR n:=by
 simp[Lit.wf,IntKind.has,IntKind.min,IntKind.max,IntKind.signed,IntKind.bits] at h
 unfold inR
 omega
abbrev DV (m:Nat):Prop:=zJ Tryz.prog m 71 5 cV wfV bV
abbrev DM (m:Nat):Prop:=zJ Tryz.prog m 112 6 cM wfM bM
theorem zuk {m:Nat} (h:DV m):zJ Tryz.prog (m+1) 69 1 (fun l:List Val=>[.sl .no 5 (cVs l)]) (fun l=>zkQ l) (fun l=>bVs l+1):=by
 intro H enc W cs d ps h1 h2
 obtain⟨a,h3,h4,h5,h6⟩:=zJ.slice (t:=69) Tryz.underlying69 (B:=80) (sz:=5) (by kernel_rfl) (by kernel_rfl) (by decide) h enc W cs d ps h1 h2
 exact⟨a,ziU h3.2.2,by simp only[zlQ];exact h4,h5,by simp only[zfI];exact h6⟩
theorem zrl {m:Nat} (h:DM m):zJ Tryz.prog (m+1) 48 1 (fun l:List Mem=>[.sl .no 6 (cMs l)]) (fun l=>zfB l) (fun l=>bMs l+1):=by
 intro H enc W cs d ps h1 h2
 obtain⟨a,h3,h4,h5,h6⟩:=zJ.slice (t:=48) Tryz.underlying48 (B:=96) (sz:=6) (by kernel_rfl) (by kernel_rfl) (by decide) h enc W cs d ps h1 h2
 exact⟨a,zjR h3.2.2,by simp only[zlu];exact h4,h5,by simp only[zb4];exact h6⟩
theorem dec:∀ m,DV m∧DM m:=by
 intro m
 induction m using Nat.strongRecOn with
 | _ m ih =>
  have hs:∀ {k},k≤m→zJ Tryz.prog k 69 1 (fun l:List Val=>[.sl .no 5 (cVs l)]) (fun l=>zkQ l) (fun l=>bVs l+1):=fun {k} hk=>by
   cases k with
   | zero=>exact zJ.zero
   | succ k=>exact zuk (ih k (by omega)).1
  have hm:∀ {k},k≤m→zJ Tryz.prog k 48 1 (fun l:List Mem=>[.sl .no 6 (cMs l)]) (fun l=>zfB l) (fun l=>bMs l+1):=fun {k} hk=>by
   cases k with
   | zero=>exact zJ.zero
   | succ k=>exact zrl (ih k (by omega)).2
  refine⟨?_,?_⟩
  ·cases m with
   | zero=>exact zJ.zero
   | succ k =>
    exact zJ.struct (zD.cons (by kernel_rfl) (zJ.int (k:=.i64) Tryz.underlying3) (zD.cons (by kernel_rfl) (zJ.int (k:=.i64) Tryz.underlying2) (zD.cons (by kernel_rfl) (zJ.str Tryz.underlying9) (zD.cons (by kernel_rfl) (hs (by omega)) (zD.cons (by kernel_rfl) (hm (by omega)) zD.nil)))))
     (by kernel_rfl) (by kernel_rfl) cV wfV bV (fun x=>.mk x.1 x.2.1 x.2.2.1 x.2.2.2.1 x.2.2.2.2.1) (fun a=>rfl) (fun a h=>⟨zk6 h.2.1,h.2.2.2.1,h.2.2.2.2.1⟩) (fun a=>by simp only[bV];omega)
  ·cases m with
   | zero=>exact zJ.zero
   | succ k =>
    exact zJ.struct (zD.cons (by kernel_rfl) (zJ.str Tryz.underlying9) (zD.cons (by kernel_rfl) (ih k (by omega)).1 zD.nil))
     (by kernel_rfl) (by kernel_rfl) cM wfM bM (fun x=>.mk x.1 x.2.1) (fun a=>by simp[cM]) (fun a h=>h.2.1) (fun a=>by simp only[bM];omega)
theorem zry (m:Nat):DV m:=(dec m).1
theorem zov:∀ m,zJ Tryz.prog m 48 1 (fun l:List Mem=>[.sl .no 6 (cMs l)]) (fun l=>zfB l) (fun l=>bMs l+1)
 | 0=>zJ.zero
 | m+1=>zrl (dec m).2
theorem znL {W:World} {r:Reach} {b:Nat} {t:TypeId} {fs:Array Field} {v:Value} (ht:Tryz.prog.underlying t=some (.struct fs)) (h:Value.okWide Tryz.prog W r b t v):∃ cs,v=.agg cs:=by
 unfold Value.okWide at h
 rw[ht] at h
 obtain⟨cs,h,_⟩:=h
 exact⟨cs,h⟩
theorem zm7 {H:Type} {s:ChangeSpec} {ds:List (DataW H)} (h:∀ k,(Rows.OpenSpec.upto s).cond=some k→k H ds=true):Ye ds≤1048576:=by
 have h1:Rows.uptoSmall H ds=true:=h _ rfl
 have h2:=of_decide_eq_true h1
 rwa [za5] at h2
end Go.Proofs.YtbcocdloklbkjaaGreatDoor
namespace Go.Proofs.YtbcocdloklbkjaaGreatDoor
open Go.Ab
structure DirD where
 nm:List UInt8
 args:List Mem
inductive SelD where
 | mk (k:Int) (al nm:List UInt8) (args:List Mem) (dirs:List DirD) (on:List UInt8) (sels:List SelD)
structure TyD where
 nm:List UInt8
 lists:Int
 musts:Int
structure VarD where
 nm:List UInt8
 t:TyD
 has:Bool
 d:Val
structure OpD where
 k:Int
 nm:List UInt8
 vars:List VarD
 dirs:List DirD
 sels:List SelD
structure FragD where
 nm:List UInt8
 on:List UInt8
 dirs:List DirD
 sels:List SelD
structure DocD where
 ops:List OpD
 frags:List FragD
def cD (x:DirD):List AV:=[.str x.nm,.sl .no 6 (cMs x.args)]
def cDs (l:List DirD):List (List AV):=l.map cD
mutual
def cS:SelD→List AV
 | .mk k al nm args dirs on sels=>[.int .i64 k,.str al,.str nm,.sl .no 6 (cMs args),.sl .no 2 (cDs dirs),.str on,.sl .no 7 (cSs sels)]
def cSs:List SelD→List (List AV)
 | []=>[]
 | x::r=>cS x::cSs r
end
def cTy (t:TyD):List AV:=[.str t.nm,.int .i64 t.lists,.int .i64 t.musts]
def cW (x:VarD):List AV:=cTy ⟨x.nm,0,0⟩ |>.take 1 |>.append (cTy x.t++(.bool x.has::cV x.d))
def cWs (l:List VarD):List (List AV):=l.map cW
def cO (x:OpD):List AV:=[.int .i64 x.k,.str x.nm,.sl .no 10 (cWs x.vars),.sl .no 2 (cDs x.dirs),.sl .no 7 (cSs x.sels)]
def cOs (l:List OpD):List (List AV):=l.map cO
def cF (x:FragD):List AV:=[.str x.nm,.str x.on,.sl .no 2 (cDs x.dirs),.sl .no 7 (cSs x.sels)]
def cFs (l:List FragD):List (List AV):=l.map cF
def zX (d:DocD):List AV:=[.sl .no 5 (cOs d.ops),.sl .no 4 (cFs d.frags)]
theorem zco (nm:List UInt8) (t:TyD) (h:Bool) (d:Val):cW ⟨nm,t,h,d⟩=.str nm::.str t.nm::.int .i64 t.lists::.int .i64 t.musts::.bool h::cV d:=rfl
theorem zd7:∀ l,cSs l=l.map cS
 | []=>rfl
 | v::r=>by rw[cSs,zd7 r];rfl
theorem YQ (l:List DirD):(cDs l).length=l.length:=by simp[cDs]
theorem YJ (l:List SelD):(cSs l).length=l.length:=by rw[zd7];simp
theorem Zs (l:List VarD):(cWs l).length=l.length:=by simp[cWs]
theorem Z4 (l:List OpD):(cOs l).length=l.length:=by simp[cOs]
theorem Y2 (l:List FragD):(cFs l).length=l.length:=by simp[cFs]
theorem zal {l a:List DirD} {x:DirD} {b:List DirD} (h:l=a++x::b):(cDs l).getD a.length []=cD x:=yQ h
theorem zab {l a:List SelD} {x:SelD} {b:List SelD} (h:l=a++x::b):(cSs l).getD a.length []=cS x:=by rw[zd7,yQ h]
theorem Zm {l a:List VarD} {x:VarD} {b:List VarD} (h:l=a++x::b):(cWs l).getD a.length []=cW x:=yQ h
theorem Ym {l a:List OpD} {x:OpD} {b:List OpD} (h:l=a++x::b):(cOs l).getD a.length []=cO x:=yQ h
theorem YX {l a:List FragD} {x:FragD} {b:List FragD} (h:l=a++x::b):(cFs l).getD a.length []=cF x:=yQ h
theorem y6 (k:Int) (al nm:List UInt8) (args:List Mem) (dirs:List DirD) (on:List UInt8) (sels:List SelD):cS (.mk k al nm args dirs on sels)=[.int .i64 k,.str al,.str nm,.sl .no 6 (cMs args),.sl .no 2 (cDs dirs),.str on,.sl .no 7 (cSs sels)]:=rfl
theorem zsM (x:SelD):(cS x).length=7:=by cases x;rfl
def bD (x:DirD):Nat:=1+x.nm.length+bMs x.args
def bDs (l:List DirD):Nat:=(l.map bD).sum
mutual
def bS:SelD→Nat
 | .mk _ al nm args dirs on sels=>1+al.length+nm.length+on.length+bMs args+bDs dirs+bSs sels
def bSs:List SelD→Nat
 | []=>0
 | x::r=>bS x+bSs r
end
def bW (x:VarD):Nat:=x.nm.length+x.t.nm.length+bV x.d
def bWs (l:List VarD):Nat:=(l.map bW).sum
def bO (x:OpD):Nat:=1+x.nm.length+bWs x.vars+bDs x.dirs+bSs x.sels
def bOs (l:List OpD):Nat:=(l.map bO).sum
def bF (x:FragD):Nat:=1+x.nm.length+x.on.length+bDs x.dirs+bSs x.sels
def bFs (l:List FragD):Nat:=(l.map bF).sum
def zy (d:DocD):Nat:=bOs d.ops+bFs d.frags
theorem zbg {α:Type} {f:α→Nat} (hf:∀ x,1≤f x):∀ l:List α,l.length≤(l.map f).sum
 | []=>Nat.zero_le _
 | x::r=>by have:=zbg hf r;have:=hf x;simp only[List.map_cons,List.sum_cons,Al2];omega
theorem zbZ {α:Type} (f:α→Nat) (a:List α) (x:α) (b:List α):((a++x::b).map f).sum=(a.map f).sum+f x+(b.map f).sum:=by simp;omega
theorem zai (l:List DirD):l.length≤bDs l:=zbg (fun x=>by simp only[bD];omega) l
theorem yS (l:List VarD):l.length≤bWs l:=zbg (fun x=>by have:=YY x.d;simp only[bW];omega) l
theorem Zt (l:List OpD):l.length≤bOs l:=zbg (fun x=>by simp only[bO];omega) l
theorem yO (l:List FragD):l.length≤bFs l:=zbg (fun x=>by simp only[bF];omega) l
theorem zsx (x:SelD):1≤bS x:=by cases x;simp only[bS];omega
theorem YA:∀ l:List SelD,l.length≤bSs l
 | []=>by simp
 | v::r=>by have:=YA r;have:=zsx v;simp only[bSs,Al2];omega
theorem zbX (a:List DirD) (x:DirD) (b:List DirD):bDs (a++x::b)=bDs a+bD x+bDs b:=zbZ ..
theorem zaP (a:List VarD) (x:VarD) (b:List VarD):bWs (a++x::b)=bWs a+bW x+bWs b:=zbZ ..
theorem Y1 (a:List OpD) (x:OpD) (b:List OpD):bOs (a++x::b)=bOs a+bO x+bOs b:=zbZ ..
theorem zie (a:List FragD) (x:FragD) (b:List FragD):bFs (a++x::b)=bFs a+bF x+bFs b:=zbZ ..
theorem zbf (a:List SelD) (x:SelD) (b:List SelD):bSs (a++x::b)=bSs a+bS x+bSs b:=by
 induction a with
 | nil=>simp[bSs]
 | cons y a ih=>simp only[Al6,bSs,ih];omega
mutual
theorem SelD.ind {P:SelD→Prop} (h:∀ k al nm args dirs on sels,(∀ v∈sels,P v)→P (.mk k al nm args dirs on sels)):∀ v,P v
 | .mk k al nm args dirs on sels=>h k al nm args dirs on sels (SelD.indL h sels)
theorem SelD.indL {P:SelD→Prop} (h:∀ k al nm args dirs on sels,(∀ v∈sels,P v)→P (.mk k al nm args dirs on sels)):∀ l:List SelD,∀ v∈l,P v
 | [],_,hv=>by cases hv
 | x::r,v,hv=>(List.mem_cons.1 hv).elim (fun e=>e▸SelD.ind h x) (SelD.indL h r v)
end
theorem zdX {t:List UInt8} {v:Val} {m:List Mem} (h:Mem.mk t v∈m):bV v≤bMs m:=by
 obtain⟨a,b,hd⟩:=List.append_of_mem h
 have:=zad a (.mk t v) b
 rw[← hd] at this
 simp only[bM] at this
 omega
abbrev TS:=List Tok
def wK (t:Tok):Nat:=t.s.length+4
def wT (l:TS):Nat:=(l.map wK).sum
theorem zfM (x:Tok) (l:TS):wT (x::l)=wK x+wT l:=by simp[wT]
def b0 {α:Type} (_:α):Nat:=0
def sm {α:Type} (b:α→Nat) (l:List α):Nat:=(l.map b).sum+l.length
def wfD (x:DirD):Prop:=zfB x.args
def zk1 (l:List DirD):Prop:=∀ x∈l,wfD x
mutual
def wfS:SelD→Prop
 | .mk _ _ _ args dirs _ sels=>zfB args∧zk1 dirs∧zgt sels
def zgt:List SelD→Prop
 | []=>True
 | x::r=>wfS x∧zgt r
end
theorem zjT:∀ {l:List SelD},(∀ v∈l,wfS v)→zgt l
 | [],_=>trivial
 | v::r,h=>⟨h v (.head _),zjT fun x hx=>h x (.tail _ hx)⟩
def wfW (x:VarD):Prop:=inR x.t.lists∧inR x.t.musts∧wfV x.d
def wfO (x:OpD):Prop:=(∀ y∈x.vars,wfW y)∧zk1 x.dirs∧zgt x.sels
def wfF (x:FragD):Prop:=zk1 x.dirs∧zgt x.sels
def zf2 (d:DocD):Prop:=(∀ x∈d.ops,wfO x)∧∀ x∈d.frags,wfF x
def pk (s:List UInt8):Tok:=⟨1,s⟩
def wk (s:List UInt8):Tok:=⟨2,s⟩
def zZ (dp:Int) (fixed:Bool) (v:Val):Bool:=zaA v&&(decide (dp+Zx v≤16)&&(!fixed||decide ((Zn v []).length=0)))
def ziB (dp:Int) (fixed:Bool):Mem→Bool
 | .mk s v=>zR s&&zZ dp fixed v
def YI (dp:Int) (fixed:Bool) (l:List Mem):Bool:=l.all (ziB dp fixed)
def zfN (dp:Int) (fixed:Bool) (d:DirD):Bool:=zR d.nm&&YI dp fixed d.args
def Za (dp:Int) (fixed:Bool) (l:List DirD):Bool:=l.all (zfN dp fixed)
mutual
def yv (dp : Int) : SelD → Bool
  | .mk k al nm args dirs on sels => Za dp false dirs &&
    (if k = 0 then zR nm && ((decide (al = []) || zR al) && (decide (on = []) && (YI dp false args && (decide (sels.length = 0) || (decide (dp + 1 ≤ 16) && Zk (dp + 1) sels)))))
     else if k = 1 then zR nm && (decide (nm ≠ [111, 110]) && (decide (al = []) && (decide (on = []) && (decide (args.length = 0) && decide (sels.length = 0)))))
     else if k = 2 then decide (nm = []) && (decide (al = []) && (decide (args.length = 0) && ((decide (on = []) || zR on) && (decide (sels.length ≠ 0) && (decide (dp + 1 ≤ 16) && Zk (dp + 1) sels)))))
     else false)
def Zk (dp:Int):List SelD→Bool
 | []=>true
 | x::r=>yv dp x&&Zk dp r
end
def yn (dp:Int) (l:List SelD):Bool:=decide (l.length≠0)&&(decide (dp≤16)&&Zk dp l)
def zI (t:TyD):Bool:=zR t.nm&&(decide (0≤t.lists)&&(decide (t.lists≤4)&&(decide (0≤t.musts)&&decide (t.musts<2 ^ (t.lists.toNat+1)))))
noncomputable def zqv (has:Bool) (v:Val):Bool:=if has then zZ 0 true v else eqd v zV
noncomputable def zeB (x:VarD):Bool:=zR x.nm&&(zI x.t&&zqv x.has x.d)
noncomputable def zgC (o:OpD):Bool:=(decide (o.k=0)||decide (o.k=1))&&((decide (o.nm=[])||zR o.nm)&&(o.vars.all zeB&&(Za 0 true o.dirs&&yn 1 o.sels)))
def zih (f:FragD):Bool:=decide (f.nm≠[111,110])&&(zR f.nm&&(zR f.on&&(Za 0 true f.dirs&&yn 1 f.sels)))
noncomputable def zax (d:DocD):Bool:=decide (0<d.ops.length+d.frags.length)&&(d.ops.all zgC&&d.frags.all zih)
def zf4 (l:List Mem):List Tok:=if l.length=0 then [] else pk [40]::(Z9 l++[pk [41]])
def tD (d:DirD):List Tok:=pk [64]::wk d.nm::zf4 d.args
def tDs (l:List DirD):List Tok:=l.flatMap tD
mutual
def tS:SelD→List Tok
 | .mk k al nm args dirs on sels=>(if k=0 then (if al=[] then [] else [wk al,pk [58]])++(wk nm::zf4 args) else if k=1 then [pk [46,46,46],wk nm] else pk [46,46,46]::(if on=[] then [] else [wk [111,110],wk on])) ++
  (tDs dirs++(if sels.length=0 then [] else pk [123]::(tSl sels++[pk [125]])))
def tSl:List SelD→List Tok
 | []=>[]
 | x::r=>tS x++tSl r
end
def tBl (l:List SelD):List Tok:=pk [123]::(tSl l++[pk [125]])
def zcw (m:Int) (i:Nat):Bool:=decide (m / 2 ^ i % 2=1)
def znQ (n:Nat) (m:Int) (i:Nat):List Tok:=(if i<n then [pk [93]] else [])++(if zcw m i then [pk [33]] else [])
def znD (n:Nat) (m:Int):Nat→List Tok
 | 0=>znQ n m 0
 | i+1=>znQ n m (i+1)++znD n m i
def tTy (t:TyD):List Tok:=List.replicate t.lists.toNat (pk [91])++(wk t.nm::znD t.lists.toNat t.musts t.lists.toNat)
def tDf (has:Bool) (v:Val):List Tok:=if has then pk [61]::Yg v else []
def tW (x:VarD):List Tok:=pk [36]::wk x.nm::pk [58]::(tTy x.t++tDf x.has x.d)
def tWs (l:List VarD):List Tok:=if l.length=0 then [] else pk [40]::(l.flatMap tW++[pk [41]])
def tO (o:OpD):List Tok:=wk (if o.k=0 then [113,117,101,114,121] else [109,117,116,97,116,105,111,110])::((if o.nm=[] then [] else [wk o.nm])++(tWs o.vars++(tDs o.dirs++tBl o.sels)))
def tF (f:FragD):List Tok:=wk [102,114,97,103,109,101,110,116]::wk f.nm::wk [111,110]::wk f.on::(tDs f.dirs++tBl f.sels)
def zt7 (d:DocD):List Tok:=d.ops.flatMap tO++d.frags.flatMap tF
theorem zmc:∀ a b,tSl (a++b)=tSl a++tSl b
 | [],b=>rfl
 | x::a,b=>by simp[tSl,zmc a b]
theorem zcv (dp:Int):∀ a b,Zk dp (a++b)=(Zk dp a&&Zk dp b)
 | [],b=>by simp[Zk]
 | x::a,b=>by simp[Zk,zcv dp a b,ye]
theorem zeW:∀ a b,Z9 (a++b)=Z9 a++Z9 b
 | [],b=>rfl
 | x::a,b=>by simp[Z9,zeW a b]
end Go.Proofs.YtbcocdloklbkjaaGreatDoor
namespace Go.Proofs.YtbcocdloklbkjaaGreatDoor
open Go.Lib
end Go.Proofs.YtbcocdloklbkjaaGreatDoor
namespace Go.Proofs.YtbcocdloklbkjaaGreatDoor
open Go.Ab
abbrev pl (v:Val):Prop:=zdm zR v=true
inductive Shape:Val→Prop
 | null:Shape (.mk 0 0 [] [] [])
 | bool (n:Int) (h:n=0∨n=1):Shape (.mk 1 n [] [] [])
 | int (n:Int):Shape (.mk 2 n [] [] [])
 | num (s:List UInt8) (h:zmO s=true):Shape (.mk 3 0 s [] [])
 | text (s:List UInt8):Shape (.mk 4 0 s [] [])
 | word (s:List UInt8) (h:zmH s=false):Shape (.mk 5 0 s [] [])
 | var (s:List UInt8):Shape (.mk 8 0 s [] [])
 | list (l:List Val) (h:zgU zR l=true):Shape (.mk 6 0 [] l [])
 | obj (m:List Mem) (h:zf1 zR m=true):Shape (.mk 7 0 [] [] m)
theorem ze5 {n:Int} {s:List UInt8} {l:List Val} {m:List Mem}:zcZ n s l m=true↔n=0∧s=[]∧l=[]∧m=[]:=by
 simp[zcZ]
theorem shape:∀ v,pl v→Shape v
 | .mk k n s l m,h=>by
  simp only[pl,zdm] at h
  split at h
  ·rename_i k6
   subst k6
   simp only[Al0,ze5] at h
   obtain⟨h1,rfl,rfl,_,rfl⟩:=h
   exact .list l h1
  ·split at h
   ·rename_i k7
    subst k7
    simp only[Al0,ze5] at h
    obtain⟨h1,rfl,rfl,rfl,_⟩:=h
    exact .obj m h1
   ·simp only[Zf,Al0,ze5] at h
    obtain⟨⟨_,_,rfl,rfl⟩,h⟩:=h
    split at h
    ·rename_i k0
     subst k0
     simp only[Al0,yw] at h
     obtain⟨rfl,rfl⟩:=h
     exact .null
    split at h
    ·rename_i k0
     subst k0
     simp only[Al0,zii,yw] at h
     obtain⟨h,rfl⟩:=h
     exact .bool n h
    split at h
    ·rename_i k0
     subst k0
     simp only[yw] at h
     subst h
     exact .int n
    split at h
    ·rename_i k0
     subst k0
     simp only[Al0,yw] at h
     obtain⟨rfl,h⟩:=h
     exact .num s h
    split at h
    ·rename_i k0
     subst k0
     simp only[Al0,yw] at h
     obtain⟨rfl,h⟩:=h
     exact .text s
    split at h
    ·rename_i k0
     subst k0
     simp only[Al0,yw,Bool.not_eq_true'] at h
     obtain⟨rfl,_,h⟩:=h
     exact .word s h
    split at h
    ·rename_i k0
     subst k0
     simp only[Al0,yw] at h
     obtain⟨rfl,_⟩:=h
     exact .var s
    ·cases h
open Go.Lib
end Go.Proofs.YtbcocdloklbkjaaGreatDoor
namespace Go.Proofs.YtbcocdloklbkjaaGreatDoor
open Go.Ab
open Go.Lib
end Go.Proofs.YtbcocdloklbkjaaGreatDoor
namespace Go.Proofs.YtbcocdloklbkjaaGreatDoor
open Go.Ab
theorem zj6:∀ {l:List SelD},zgt l→∀ v∈l,wfS v
 | _::_,h,v,hv=>(List.mem_cons.1 hv).elim (fun e=>e▸h.1) (zj6 h.2 v)
structure FldD where
 nm:List UInt8
 ps:List VarD
 t:TyD
 dirs:List DirD
structure DefD where
 k:Int
 nm:List UInt8
 faces:List (List UInt8)
 flds:List FldD
 parts:List (List UInt8)
 ps:List VarD
structure SchD where
 defs:List DefD
 q:List UInt8
 m:List UInt8
def cL (x:FldD):List AV:=[.str x.nm,.sl .no 10 (cWs x.ps),.str x.t.nm,.int .i64 x.t.lists,.int .i64 x.t.musts,.sl .no 2 (cDs x.dirs)]
def cLs (l:List FldD):List (List AV):=l.map cL
def cE (x:DefD):List AV:=[.int .i64 x.k,.str x.nm,.sl .no 1 (cT x.faces),.sl .no 6 (cLs x.flds),.sl .no 1 (cT x.parts),.sl .no 10 (cWs x.ps)]
def cEs (l:List DefD):List (List AV):=l.map cE
def zr (s:SchD):List AV:=[.sl .no 6 (cEs s.defs),.str s.q,.str s.m]
theorem zaN (l:List FldD):(cLs l).length=l.length:=by simp[cLs]
theorem zev (l:List DefD):(cEs l).length=l.length:=by simp[cEs]
theorem zdb {l a:List FldD} {x:FldD} {b:List FldD} (h:l=a++x::b):(cLs l).getD a.length []=cL x:=yQ h
theorem zc5 {l a:List DefD} {x:DefD} {b:List DefD} (h:l=a++x::b):(cEs l).getD a.length []=cE x:=yQ h
theorem zaq (nm:List UInt8) (ps:List VarD) (tn:List UInt8) (tl tm:Int) (dirs:List DirD):cL ⟨nm,ps,⟨tn,tl,tm⟩,dirs⟩=[.str nm,.sl .no 10 (cWs ps),.str tn,.int .i64 tl,.int .i64 tm,.sl .no 2 (cDs dirs)]:=rfl
theorem yg (k:Int) (nm:List UInt8) (faces:List (List UInt8)) (flds:List FldD) (parts:List (List UInt8)) (ps:List VarD):cE ⟨k,nm,faces,flds,parts,ps⟩=[.int .i64 k,.str nm,.sl .no 1 (cT faces),.sl .no 6 (cLs flds),.sl .no 1 (cT parts),.sl .no 10 (cWs ps)]:=rfl
def bT (l:List (List UInt8)):Nat:=(l.map fun s=>1+s.length).sum
def bL (x:FldD):Nat:=1+x.nm.length+bWs x.ps+x.t.nm.length+bDs x.dirs
def bLs (l:List FldD):Nat:=(l.map bL).sum
def bE (x:DefD):Nat:=1+x.nm.length+bT x.faces+bLs x.flds+bT x.parts+bWs x.ps
def bEs (l:List DefD):Nat:=(l.map bE).sum
def zN (s:SchD):Nat:=bEs s.defs+s.q.length+s.m.length
theorem ZF (l:List (List UInt8)):l.length≤bT l:=zbg (fun x=>by omega) l
theorem YW (l:List FldD):l.length≤bLs l:=zbg (fun x=>by simp only[bL];omega) l
theorem zeq (l:List DefD):l.length≤bEs l:=zbg (fun x=>by simp only[bE];omega) l
theorem zgI (a:List (List UInt8)) (x:List UInt8) (b:List (List UInt8)):bT (a++x::b)=bT a+(1+x.length)+bT b:=zbZ ..
theorem zlN (a:List FldD) (x:FldD) (b:List FldD):bLs (a++x::b)=bLs a+bL x+bLs b:=zbZ ..
theorem ziO (a:List DefD) (x:DefD) (b:List DefD):bEs (a++x::b)=bEs a+bE x+bEs b:=zbZ ..
def wfL (x:FldD):Prop:=(∀ y∈x.ps,wfW y)∧inR x.t.lists∧inR x.t.musts∧zk1 x.dirs
def wfE (x:DefD):Prop:=(∀ y∈x.flds,wfL y)∧∀ y∈x.ps,wfW y
def zcr (s:SchD):Prop:=∀ x∈s.defs,wfE x
def tPa (x:VarD):List Tok:=wk x.nm::pk [58]::(tTy x.t++tDf x.has x.d)
def tPb (l:List VarD):List Tok:=if l.length=0 then [] else pk [40]::(l.flatMap tPa++[pk [41]])
def tL (x:FldD):List Tok:=wk x.nm::(tPb x.ps++pk [58]::(tTy x.t++tDs x.dirs))
def tNs (m:List UInt8):List (List UInt8)→List Tok
 | []=>[]
 | s::r=>wk s::r.flatMap fun s=>[pk m,wk s]
def tE (x:DefD):List Tok :=
 if x.k=1∨x.k=2 then wk (if x.k=1 then [116,121,112,101] else [105,110,116,101,114,102,97,99,101])::wk x.nm::((if x.faces.length=0 then [] else wk [105,109,112,108,101,109,101,110,116,115]::tNs [38] x.faces)++(pk [123]::(x.flds.flatMap tL++[pk [125]])))
 else if x.k=3 then wk [117,110,105,111,110]::wk x.nm::pk [61]::tNs [124] x.parts
 else if x.k=4 then wk [101,110,117,109]::wk x.nm::pk [123]::(x.parts.map wk++[pk [125]])
 else wk [105,110,112,117,116]::wk x.nm::pk [123]::(x.ps.flatMap tPa++[pk [125]])
def tRt (q m:List UInt8):List Tok:=wk [115,99,104,101,109,97]::pk [123]::wk [113,117,101,114,121]::pk [58]::wk q::((if m=[] then [] else [wk [109,117,116,97,116,105,111,110],pk [58],wk m])++[pk [125]])
def zuP (s:SchD):List Tok:=tRt s.q s.m++s.defs.flatMap tE
noncomputable def zeH (x:FldD):Bool:=zR x.nm&&(x.ps.all zeB&&(zI x.t&&Za 0 true x.dirs))
def Yv (s:List UInt8):Bool:=decide (s≠[116,114,117,101])&&(decide (s≠[102,97,108,115,101])&&decide (s≠[110,117,108,108]))
noncomputable def Yo (x:DefD):Bool :=
 zR x.nm&&(if x.k=1∨x.k=2 then x.faces.all zR&&(x.flds.all zeH&&(decide (x.flds.length≠0)&&(decide (x.parts.length=0)&&decide (x.ps.length=0))))
 else if x.k=3 then x.parts.all zR&&(decide (x.parts.length≠0)&&(decide (x.faces.length=0)&&(decide (x.flds.length=0)&&decide (x.ps.length=0))))
 else if x.k=4 then (x.parts.all zR&&x.parts.all Yv)&&(decide (x.parts.length≠0)&&(decide (x.faces.length=0)&&(decide (x.flds.length=0)&&decide (x.ps.length=0))))
 else if x.k=5 then x.ps.all zeB&&(decide (x.ps.length≠0)&&(decide (x.faces.length=0)&&(decide (x.flds.length=0)&&decide (x.parts.length=0))))
 else false)
noncomputable def za1 (s:SchD):Bool:=s.defs.all Yo&&(zR s.q&&(decide (s.m=[])||zR s.m))
def za9 {α:Type} (p:α→Bool):List α→Int→Int
 | [],_=>-1
 | x::r,i=>if p x=true then i else za9 p r (i+1)
abbrev At (r:AV) (H:zb):AEnd→zb→Prop:=fun e H'=>∃ v,e=.ret v∧v=r∧H'=H
theorem zke {α:Type} (p:α→Bool):∀(l:List α) (i:Int),0≤i→decide (0≤za9 p l i)=l.any p
 | [],i,_=>by simp[za9]
 | x::r,i,hi=>by
  by_cases h:p x=true
  ·simp[za9,h];omega
  ·simp only[za9,h,if_false,List.any_cons,Bool.false_or];exact zke p r (i+1) (by omega)
theorem Y6 {α:Type} (p:α→Bool):∀(l:List α) (i:Int),(∃ a x r,l=a++x::r∧p x=true∧l.find? p=some x∧za9 p l i=i+a.length)∨(l.find? p=none∧za9 p l i=-1)
 | [],i=>.inr ⟨rfl,rfl⟩
 | x::l,i=>by
  by_cases h:p x=true
  ·exact .inl ⟨[],x,l,rfl,h,by simp[h],by simp[za9,h]⟩
  ·rcases Y6 p l (i+1) with ⟨a,y,r,h1,h2,h3,h4⟩|⟨h1,h2⟩
   ·exact .inl ⟨x::a,y,r,by simp[h1],h2,by simp[h,h3],by simp[za9,h,h4];omega⟩
   ·exact .inr ⟨by simp[h,h1],by simp[za9,h,h2]⟩
def ixF (sz : Nat) (ag : Bool) : AFn := ⟨19, 2, [.t 4], .seq (.reg [] [⟨some 4, none, .mv (.k (.int .i64 0)), []⟩])
  (.seq (.seq (.reg [] [⟨some 6, none, .mv (.t 0), []⟩, ⟨some 7, none, .len (.t 6), []⟩, ⟨some 8, none, .mv (.k (.int .i64 0)), []⟩])
  (.block 0 (.loop [0, 1, 7, 8] (.seq (.reg [] [⟨some 9, none, .bi .lss .i64 (.t 8) (.t 7), []⟩])
    (.seq (.cond (.t 9) (.skip) (.exit 0))
    (.seq (.block 1 (.seq (.reg [] [⟨some 10, none, .mv (.t 8), []⟩, ⟨some 5, none, .mv (.t 10), []⟩])
     (.seq (.reg [] [⟨some 11, none, .mv (.t 1), []⟩, ⟨some 12, none, .mv (.t 0), []⟩, ⟨some 13, none, .mv (.t 5), []⟩, ⟨some 14, none, .ia sz (.t 12) (.t 13), []⟩, ⟨some 15, none, .ld sz ag (.t 14), []⟩, ⟨some 16, none, .callv (.t 11) [(.t 15)], []⟩])
     (.cond (.t 16) (.seq (.reg [] [⟨some 17, none, .mv (.t 5), []⟩, ⟨some 4, none, .mv (.t 17), []⟩])
      (.ret)) (.skip)))))
    (.reg [] [⟨some 18, none, .bi .add .i64 (.t 8) (.k (.int .i64 1)), []⟩, ⟨some 8, none, .mv (.t 18), []⟩])))))))
  (.seq (.reg [] [⟨some 4, none, .mv (.k (.int .i64 (-1))), []⟩])
  (.ret)))⟩
def ctF (g:FuncId):AFn:=⟨9,2,[.t 4],.seq (.reg [] [⟨some 4,none,.mv (.k (.bool false)),[]⟩])
 (.seq (.reg [] [⟨some 5,none,.mv (.t 0),[]⟩,⟨some 6,none,.mv (.t 1),[]⟩,⟨some 7,none,.call g [(.t 5),(.t 6)],[]⟩,⟨some 8,none,.bi .geq .i64 (.t 7) (.k (.int .i64 0)),[]⟩,⟨some 4,none,.mv (.t 8),[]⟩])
 (.ret))⟩
theorem YM {P:Program} {f:FuncId} {args:List AV} {r:AV} (h:zj P f args zb.emp (At r zb.emp)):zi P f args r:=h.mono fun e H' ⟨v,e1,e2,e3⟩=>by subst e2;exact⟨e1,e3⟩
theorem Z2 {P:Program} {f:FuncId} {args:List AV} {r:AV} (h:zi P f args r) (H:zb):zj P f args H (At r H) :=
 (h.use (K:=fun v H'=>v=r∧H'=H) (KP:=fun _ _=>False) ⟨rfl,rfl⟩).mono fun e H' he=>by
  cases e with
  | ret v=>exact⟨v,rfl,he.1,he.2⟩
  | pan v=>exact he.elim
abbrev ByH {α:Type} (l:List α) (v:α→AV) (f:FuncId) (caps:List AV) (p:α→Bool) (H:zb):Prop:=∀ x∈l,zj Tryz.prog f (v x::caps) H (At (.bool (p x)) H)
abbrev ByP {α:Type} (l:List α) (v:α→AV) (f:FuncId) (caps:List AV) (p:α→Bool):Prop:=∀ x∈l,zi Tryz.prog f (v x::caps) (.bool (p x))
theorem Yq {α:Type} {sz:Nat} {ag:Bool} {g:FuncId} (hck:zk Tryz.prog g (ixF sz ag)=true) (c:α→List AV) (v:α→AV) (hz:∀ x,(c x).length=sz) (hv:∀ x,mk ag (c x)=v x) (l:List α) (f:FuncId) (caps:List AV) (p:α→Bool) (H:zb) (hl:l.length≤Lim) (hf:Program.callable Tryz.prog f=true) (hc:ByH l v f caps p H) :
  zj Tryz.prog g [.sl .no sz (l.map c),.clo f [] caps] H (At (.int .i64 (za9 p l 0)) H):=by
 refine zj.go (ixF sz ag) hck (Al4 _) fun KP Q hQ=>?_
 have h1:(l.map c).length=l.length:=List.length_map ..
 simp only[Lim] at hl
 simp(disch:=omega) only[ixF,h1,go_sem]
 refine zf l 8 (fun _:Unit=>[]) (fun done rest n H1=>za9 p rest done.length=za9 p l 0∧H1=H) () (by simp(disch:=omega) only[go_sem]) ⟨by simp,rfl⟩ ?_ ?_
 ·rintro n _ J ⟨hp,rfl⟩ hlt
  simp only[za9] at hp
  simp(disch:=omega) only[h1,hlt,go_sem]
  exact hQ _ _ _ _ _ nofun rfl (Low.refl _) ⟨by simp[zd,ze,AV.strip,AV.strip1,← hp],rfl⟩
 ·rintro done x rest n _ J hd hlt _ ⟨hp,rfl⟩ hJ
  have hg:(l.map c).getD done.length []=c x:=yQ hd
  have ht:List.take sz (c x)=c x:=List.take_of_length_le (by rw[hz x];exact Al4 _)
  have hvx:=hv x
  simp(disch:=omega) only[h1,hlt,hg,hz x,ht,Al4,hvx,zx,steps,st2,pev,rev,oev,yh,yp,yC,yB,bound,zP,mm2,zx,AV.cells,AV.boxable,AV.one,AV.strip1,AV.strip2,zO,zK,Nat.reduceEqDiff,reduceCtorEq,↓reduceIte,Nat.reduceAdd,Int.reduceNeg,Nat.reduceLeDiff,Int.reduceToNat,Int.reduceEq,Int.reduceLT,Int.reduceLE,Int.reduceAdd]
  refine⟨hf,z6 (hc x (by rw[hd];simp)) ?_⟩
  rintro _ _ ⟨_,rfl,rfl,rfl⟩
  by_cases h:p x=true
  ·simp(disch:=omega) only[ZL,h,go_sem]
   rw[za9,if_pos h] at hp
   exact hQ _ _ _ _ _ nofun rfl (Low.refl _) ⟨by simp[zd,ze,AV.strip,AV.strip1,← hp],rfl⟩
  ·rw[za9,if_neg h] at hp
   have h':p x=false:=by simpa using h
   simp(disch:=omega) only[ZL,h',go_sem]
   exact goJ (hJ () _ ⟨by rw[← hp];simp,rfl⟩) (by simp(disch:=omega) only[wrap64,go_sem])
theorem zaX {α:Type} {g g2:FuncId} (hck:zk Tryz.prog g2 (ctF g)=true) {xs v:AV} {l:List α} {p:α→Bool} {H:zb} (hi:zj Tryz.prog g [xs,v] H (At (.int .i64 (za9 p l 0)) H)):zj Tryz.prog g2 [xs,v] H (At (.bool (l.any p)) H):=by
 refine zj.go (ctF g) hck (Al4 _) fun KP Q hQ=>?_
 simp(disch:=omega) only[ctF,go_sem]
 refine z6 hi ?_
 rintro _ _ ⟨_,rfl,rfl,rfl⟩
 simp(disch:=omega) only[ZL,go_sem]
 have:=zke p l 0 (by omega)
 exact hQ _ _ _ _ _ nofun rfl (Low.refl _) ⟨by simp[zd,ze,AV.strip,AV.strip1,this],rfl⟩
theorem zqm {α:Type} (c:α→List AV) (hz:∀ x,(c x).length=6) (l:List α) (f:FuncId) (caps:List AV) (p:α→Bool) (H:zb) (hl:l.length≤Lim) (hf:Program.callable Tryz.prog f=true) (hc:ByH l (fun x=>.agg (c x)) f caps p H):zj Tryz.prog 213 [.sl .no 6 (l.map c),.clo f [] caps] H (At (.bool (l.any p)) H):=zaX ck213 (Yq ck238 c (fun x=>.agg (c x)) hz (fun _=>rfl) l f caps p H hl hf hc)
theorem zqL {α:Type} (c:α→List AV) (hz:∀ x,(c x).length=6) (l:List α) (f:FuncId) (caps:List AV) (p:α→Bool) (H:zb) (hl:l.length≤Lim) (hf:Program.callable Tryz.prog f=true) (hc:ByH l (fun x=>.agg (c x)) f caps p H):zj Tryz.prog 138 [.sl .no 6 (l.map c),.clo f [] caps] H (At (.int .i64 (za9 p l 0)) H):=Yq ck138 c (fun x=>.agg (c x)) hz (fun _=>rfl) l f caps p H hl hf hc
theorem ziI {α:Type} (c:α→List AV) (hz:∀ x,(c x).length=6) (l:List α) (f:FuncId) (caps:List AV) (p:α→Bool) (H:zb) (hl:l.length≤Lim) (hf:Program.callable Tryz.prog f=true) (hc:ByH l (fun x=>.agg (c x)) f caps p H):zj Tryz.prog 169 [.sl .no 6 (l.map c),.clo f [] caps] H (At (.bool (l.any p)) H):=zaX ck169 (Yq ck138 c (fun x=>.agg (c x)) hz (fun _=>rfl) l f caps p H hl hf hc)
theorem zrW {α:Type} (c:α→List AV) (hz:∀ x,(c x).length=6) (l:List α) (f:FuncId) (caps:List AV) (p:α→Bool) (hl:l.length≤Lim) (hf:Program.callable Tryz.prog f=true) (hc:ByP l (fun x=>.agg (c x)) f caps p):zi Tryz.prog 138 [.sl .no 6 (l.map c),.clo f [] caps] (.int .i64 (za9 p l 0)):=YM (Yq ck138 c (fun x=>.agg (c x)) hz (fun _=>rfl) l f caps p _ hl hf fun x hx=>Z2 (hc x hx) _)
theorem anyOp {α:Type} (c:α→List AV) (hz:∀ x,(c x).length=5) (l:List α) (f:FuncId) (caps:List AV) (p:α→Bool) (hl:l.length≤Lim) (hf:Program.callable Tryz.prog f=true) (hc:ByP l (fun x=>.agg (c x)) f caps p):zi Tryz.prog 40 [.sl .no 5 (l.map c),.clo f [] caps] (.bool (l.any p)):=YM (zaX ck40 (Yq ck74 c (fun x=>.agg (c x)) hz (fun _=>rfl) l f caps p _ hl hf fun x hx=>Z2 (hc x hx) _))
theorem znq {α:Type} (c:α→List AV) (hz:∀ x,(c x).length=4) (l:List α) (f:FuncId) (caps:List AV) (p:α→Bool) (H:zb) (hl:l.length≤Lim) (hf:Program.callable Tryz.prog f=true) (hc:ByH l (fun x=>.agg (c x)) f caps p H):zj Tryz.prog 75 [.sl .no 4 (l.map c),.clo f [] caps] H (At (.bool (l.any p)) H):=zaX ck75 (Yq ck130 c (fun x=>.agg (c x)) hz (fun _=>rfl) l f caps p H hl hf hc)
theorem zp3 {α:Type} (c:α→List AV) (hz:∀ x,(c x).length=4) (l:List α) (f:FuncId) (caps:List AV) (p:α→Bool) (hl:l.length≤Lim) (hf:Program.callable Tryz.prog f=true) (hc:ByP l (fun x=>.agg (c x)) f caps p):zi Tryz.prog 130 [.sl .no 4 (l.map c),.clo f [] caps] (.int .i64 (za9 p l 0)):=YM (Yq ck130 c (fun x=>.agg (c x)) hz (fun _=>rfl) l f caps p _ hl hf fun x hx=>Z2 (hc x hx) _)
theorem zlt {α:Type} (c:α→List AV) (hz:∀ x,(c x).length=4) (l:List α) (f:FuncId) (caps:List AV) (p:α→Bool) (hl:l.length≤Lim) (hf:Program.callable Tryz.prog f=true) (hc:ByP l (fun x=>.agg (c x)) f caps p):zi Tryz.prog 75 [.sl .no 4 (l.map c),.clo f [] caps] (.bool (l.any p)):=YM (zaX ck75 (Yq ck130 c (fun x=>.agg (c x)) hz (fun _=>rfl) l f caps p _ hl hf fun x hx=>Z2 (hc x hx) _))
theorem zqc {α:Type} (c:α→List AV) (hz:∀ x,(c x).length=10) (l:List α) (f:FuncId) (caps:List AV) (p:α→Bool) (H:zb) (hl:l.length≤Lim) (hf:Program.callable Tryz.prog f=true) (hc:ByH l (fun x=>.agg (c x)) f caps p H):zj Tryz.prog 186 [.sl .no 10 (l.map c),.clo f [] caps] H (At (.bool (l.any p)) H):=zaX ck186 (Yq ck141 c (fun x=>.agg (c x)) hz (fun _=>rfl) l f caps p H hl hf hc)
theorem zsm {α:Type} (c:α→List AV) (hz:∀ x,(c x).length=10) (l:List α) (f:FuncId) (caps:List AV) (p:α→Bool) (hl:l.length≤Lim) (hf:Program.callable Tryz.prog f=true) (hc:ByP l (fun x=>.agg (c x)) f caps p):zi Tryz.prog 141 [.sl .no 10 (l.map c),.clo f [] caps] (.int .i64 (za9 p l 0)):=YM (Yq ck141 c (fun x=>.agg (c x)) hz (fun _=>rfl) l f caps p _ hl hf fun x hx=>Z2 (hc x hx) _)
theorem zo3 {α:Type} (c:α→List AV) (hz:∀ x,(c x).length=10) (l:List α) (f:FuncId) (caps:List AV) (p:α→Bool) (hl:l.length≤Lim) (hf:Program.callable Tryz.prog f=true) (hc:ByP l (fun x=>.agg (c x)) f caps p):zi Tryz.prog 186 [.sl .no 10 (l.map c),.clo f [] caps] (.bool (l.any p)):=YM (zaX ck186 (Yq ck141 c (fun x=>.agg (c x)) hz (fun _=>rfl) l f caps p _ hl hf fun x hx=>Z2 (hc x hx) _))
theorem zgP {α:Type} (c:α→List AV) (hz:∀ x,(c x).length=10) (l:List α) (f:FuncId) (caps:List AV) (p:α→Bool) (H:zb) (hl:l.length≤Lim) (hf:Program.callable Tryz.prog f=true) (hc:ByH l (fun x=>.agg (c x)) f caps p H):zj Tryz.prog 102 [.sl .no 10 (l.map c),.clo f [] caps] H (At (.bool (l.any p)) H):=zaX ck102 (Yq ck145 c (fun x=>.agg (c x)) hz (fun _=>rfl) l f caps p H hl hf hc)
theorem zmS {α:Type} (c:α→List AV) (hz:∀ x,(c x).length=10) (l:List α) (f:FuncId) (caps:List AV) (p:α→Bool) (hl:l.length≤Lim) (hf:Program.callable Tryz.prog f=true) (hc:ByP l (fun x=>.agg (c x)) f caps p):zi Tryz.prog 145 [.sl .no 10 (l.map c),.clo f [] caps] (.int .i64 (za9 p l 0)):=YM (Yq ck145 c (fun x=>.agg (c x)) hz (fun _=>rfl) l f caps p _ hl hf fun x hx=>Z2 (hc x hx) _)
theorem zmL {α:Type} (c:α→List AV) (hz:∀ x,(c x).length=10) (l:List α) (f:FuncId) (caps:List AV) (p:α→Bool) (hl:l.length≤Lim) (hf:Program.callable Tryz.prog f=true) (hc:ByP l (fun x=>.agg (c x)) f caps p):zi Tryz.prog 102 [.sl .no 10 (l.map c),.clo f [] caps] (.bool (l.any p)):=YM (zaX ck102 (Yq ck145 c (fun x=>.agg (c x)) hz (fun _=>rfl) l f caps p _ hl hf fun x hx=>Z2 (hc x hx) _))
theorem zs5 {α:Type} (c:α→List AV) (hz:∀ x,(c x).length=7) (l:List α) (f:FuncId) (caps:List AV) (p:α→Bool) (hl:l.length≤Lim) (hf:Program.callable Tryz.prog f=true) (hc:ByP l (fun x=>.agg (c x)) f caps p):zi Tryz.prog 134 [.sl .no 7 (l.map c),.clo f [] caps] (.bool (l.any p)):=YM (zaX ck134 (Yq ck196 c (fun x=>.agg (c x)) hz (fun _=>rfl) l f caps p _ hl hf fun x hx=>Z2 (hc x hx) _))
theorem zqb {α:Type} (c:α→List AV) (hz:∀ x,(c x).length=6) (l:List α) (f:FuncId) (caps:List AV) (p:α→Bool) (H:zb) (hl:l.length≤Lim) (hf:Program.callable Tryz.prog f=true) (hc:ByH l (fun x=>.agg (c x)) f caps p H):zj Tryz.prog 250 [.sl .no 6 (l.map c),.clo f [] caps] H (At (.bool (l.any p)) H):=zaX ck250 (Yq ck261 c (fun x=>.agg (c x)) hz (fun _=>rfl) l f caps p H hl hf hc)
theorem zd0 {α:Type} (c:α→AV) (l:List α) (f:FuncId) (caps:List AV) (p:α→Bool) (H:zb) (hl:l.length≤Lim) (hf:Program.callable Tryz.prog f=true) (hc:ByH l c f caps p H):zj Tryz.prog 83 [.sl .no 1 (l.map (fun x=>[c x])),.clo f [] caps] H (At (.bool (l.any p)) H):=zaX ck83 (Yq ck136 (fun x=>[c x]) c (fun _=>rfl) (fun _=>rfl) l f caps p H hl hf hc)
theorem zkX {α:Type} (c:α→AV) (l:List α) (f:FuncId) (caps:List AV) (p:α→Bool) (hl:l.length≤Lim) (hf:Program.callable Tryz.prog f=true) (hc:ByP l c f caps p):zi Tryz.prog 83 [.sl .no 1 (l.map (fun x=>[c x])),.clo f [] caps] (.bool (l.any p)):=YM (zaX ck83 (Yq ck136 (fun x=>[c x]) c (fun _=>rfl) (fun _=>rfl) l f caps p _ hl hf fun x hx=>Z2 (hc x hx) _))
theorem zom {α:Type} (c:α→AV) (l:List α) (f:FuncId) (caps:List AV) (p:α→Bool) (H:zb) (hl:l.length≤Lim) (hf:Program.callable Tryz.prog f=true) (hc:ByH l c f caps p H):zj Tryz.prog 78 [.sl .no 1 (l.map (fun x=>[c x])),.clo f [] caps] H (At (.bool (l.any p)) H):=zaX ck78 (Yq ck133 (fun x=>[c x]) c (fun _=>rfl) (fun _=>rfl) l f caps p H hl hf hc)
theorem zpI {α:Type} (c:α→AV) (l:List α) (f:FuncId) (caps:List AV) (p:α→Bool) (hl:l.length≤Lim) (hf:Program.callable Tryz.prog f=true) (hc:ByP l c f caps p):zi Tryz.prog 78 [.sl .no 1 (l.map (fun x=>[c x])),.clo f [] caps] (.bool (l.any p)):=YM (zaX ck78 (Yq ck133 (fun x=>[c x]) c (fun _=>rfl) (fun _=>rfl) l f caps p _ hl hf fun x hx=>Z2 (hc x hx) _))
def YF (n:List UInt8):Bool:=decide (n=[73,110,116])||decide (n=[83,116,114,105,110,103])||decide (n=[66,111,111,108,101,97,110])||decide (n=[73,68])
theorem zqz (n:List UInt8):zi Tryz.prog 197 [.str n] (.bool (YF n)):=by
 refine zi.go ir197 ck197 (Al4 _) fun KP Q hQ=>?_
 by_cases h1:n=[73,110,116]
 ·have e:YF n=true:=by simp[YF,h1]
  have h1':=eq_true h1
  rw[e] at hQ
  simp(disch:=omega) only[ir197,h1',go_sem]
  exact hQ _ _ _ _ nofun rfl (by simp[zd,ze,AV.strip,AV.strip1])
 by_cases h2:n=[83,116,114,105,110,103]
 ·have e:YF n=true:=by simp[YF,h2]
  have h2':=eq_true h2
  rw[e] at hQ
  simp(disch:=omega) only[ir197,h1,h2',go_sem]
  exact hQ _ _ _ _ nofun rfl (by simp[zd,ze,AV.strip,AV.strip1])
 by_cases h3:n=[66,111,111,108,101,97,110]
 ·have e:YF n=true:=by simp[YF,h3]
  have h3':=eq_true h3
  rw[e] at hQ
  simp(disch:=omega) only[ir197,h1,h2,h3',go_sem]
  exact hQ _ _ _ _ nofun rfl (by simp[zd,ze,AV.strip,AV.strip1])
 have e:YF n=decide (n=[73,68]):=by simp[YF,h1,h2,h3]
 rw[e] at hQ
 simp(disch:=omega) only[ir197,h1,h2,h3,go_sem]
 exact hQ _ _ _ _ nofun rfl (by simp[zd,ze,AV.strip,AV.strip1])
def zE:DefD:=⟨0,[],[],[],[],[]⟩
def scE (n:List UInt8):DefD:=⟨0,n,[],[],[],[]⟩
def nmE (n:List UInt8) (d:DefD):Bool:=decide (d.nm=n)
def yM (s:SchD) (n:List UInt8):Option DefD:=if YF n=true then some (scE n) else s.defs.find? (nmE n)
theorem yc {s:SchD} (h:zN s≤Lim):s.defs.length≤Lim:=by have:=zeq s.defs;simp only[zN] at h;omega
theorem zer (s:SchD) (n:List UInt8) (hb:s.defs.length≤Lim):zi Tryz.prog 137 [.agg (zr s),.str n] (.tup [.agg (cE ((yM s n).getD zE)),.bool (yM s n).isSome]):=by
 refine zi.go ir137 ck137 (Al4 _) fun KP Q hQ=>?_
 obtain⟨defs,q,m⟩:=s
 have h1:=zev defs
 simp only[Lim] at hb
 simp(disch:=omega) only[ir137,zr,go_sem]
 refine zc fun b4 hb4=>?_
 simp(disch:=omega) only[zr,go_sem]
 refine za (zqz n) ?_
 cases hs:YF n
 case true =>
  have e:yM ⟨defs,q,m⟩ n=some (scE n):=by simp[yM,hs]
  rw[e] at hQ
  simp(disch:=omega) only[zr,go_sem]
  exact hQ _ _ _ [.agg [.int .i64 0,.str n,.sl .nil 1 [],.sl .nil 6 [],.sl .nil 1 [],.sl .nil 10 []],.bool true] nofun (by simp(disch:=omega) only[ir137,zQ,Zv,go_sem]) rfl
 have e:yM ⟨defs,q,m⟩ n=defs.find? (nmE n):=by simp[yM,hs]
 rw[e] at hQ
 simp(disch:=omega) only[zr,h1,go_sem]
 refine zf defs 15 (fun _:Unit=>[]) (fun done rest n' H=>H b4=some (.cells [.int .i64 0,.str [],.sl .nil 1 [],.sl .nil 6 [],.sl .nil 1 [],.sl .nil 10 []])∧rest.find? (nmE n)=defs.find? (nmE n)) () (by simp(disch:=omega) only[go_sem]) ⟨upd_same ..,rfl⟩ ?_ ?_
 ·rintro _ H J ⟨hH,hp⟩ hlt
  rw[← hp] at hQ
  simp(disch:=omega) only[h1,hlt,hH,go_sem]
  exact hQ _ _ _ [.agg [.int .i64 0,.str [],.sl .nil 1 [],.sl .nil 6 [],.sl .nil 1 [],.sl .nil 10 []],.bool false] nofun (by simp(disch:=omega) only[ir137,zQ,Zv,go_sem]) rfl
 ·rintro done x rest _ H J hd hlt _ ⟨hH,hp⟩ hJ
  have hg:=zc5 hd
  simp(disch:=omega) only[h1,hlt,hg,go_sem]
  refine zc fun b7 hb7=>?_
  have hne:b4≠b7:=fun e=>by subst e;rw[hH] at hb7;cases hb7
  by_cases h:x.nm=n
  ·have e2:defs.find? (nmE n)=some x:=by rw[← hp];simp[nmE,h]
   rw[e2] at hQ
   obtain⟨k,nm,fs,fl,ps,pa⟩:=x
   simp only at h
   simp(disch:=omega) only[yg,hH,hne,Ne.symm hne,h,go_sem]
   exact hQ _ _ _ [.agg (cE ⟨k,nm,fs,fl,ps,pa⟩),.bool true] nofun (by simp(disch:=omega) only[ir137,zQ,Zv,yg,h,go_sem]) rfl
  ·have e2:rest.find? (nmE n)=defs.find? (nmE n):=by rw[← hp];simp[nmE,h]
   obtain⟨k,nm,fs,fl,ps,pa⟩:=x
   simp only at h
   simp(disch:=omega) only[yg,hH,hne,Ne.symm hne,h,go_sem]
   exact goJ (hJ () _ ⟨by simp(disch:=omega) only[hH,hne,Ne.symm hne,go_sem],e2⟩) (by simp(disch:=omega) only[wrap64,go_sem])
def cI (k:Int):List AV:=[.int .i64 k]
def zio (x:Int):List Int→Int→Int
 | [],_=>-1
 | y::r,i=>if x=y then i else zio x r (i+1)
def zmI (l:List Int) (x:Int):Bool:=l.any fun y=>decide (x=y)
theorem zj4 (x:Int):∀ l (i:Int),0≤i→decide (0≤zio x l i)=zmI l x
 | [],i,_=>by simp[zio,zmI]
 | y::r,i,hi=>by
  have:=zj4 x r (i+1) (by omega)
  simp only[zio,zmI,List.any_cons] at this ⊢
  by_cases h:x=y
  ·simp[h];omega
  ·simp only[h,if_false,decide_false,Bool.false_or];exact this
theorem zqD (l:List Int) (x:Int) (hl:l.length≤Lim):zi Tryz.prog 225 [.sl .no 1 (l.map cI),.int .i64 x] (.int .i64 (zio x l 0)):=by
 refine zi.go ir225 ck225 (Al4 _) fun KP Q hQ=>?_
 have h1:(l.map cI).length=l.length:=List.length_map ..
 simp only[Lim] at hl
 simp(disch:=omega) only[ir225,h1,go_sem]
 refine zf l 8 (fun _:Unit=>[]) (fun done rest n H=>zio x rest done.length=zio x l 0) () (by simp(disch:=omega) only[go_sem]) rfl ?_ ?_
 ·rintro n H J hn hlt
  simp(disch:=omega) only[h1,hlt,go_sem]
  simp only[zio] at hn
  exact hQ _ _ _ _ nofun rfl (by simp[zd,ze,AV.strip,AV.strip1,← hn])
 ·rintro done y rest n H J hd hlt _ hn hJ
  have hg:(l.map cI).getD done.length []=[.int .i64 y]:=yQ hd
  simp only[zio] at hn
  by_cases hx:x=y
  ·subst hx
   simp only[if_true] at hn
   simp(disch:=omega) only[h1,hlt,hg,go_sem]
   exact hQ _ _ _ _ nofun rfl (by simp[zd,ze,AV.strip,AV.strip1,← hn])
  ·simp only[hx,if_false] at hn
   simp(disch:=omega) only[h1,hlt,hg,hx,go_sem]
   exact goJ (hJ () _ (by simpa using hn)) (by simp(disch:=omega) only[wrap64,go_sem])
theorem zkP (l:List Int) (x:Int) (hl:l.length≤Lim):zi Tryz.prog 195 [.sl .no 1 (l.map cI),.int .i64 x] (.bool (zmI l x)):=by
 refine zi.go ir195 ck195 (Al4 _) fun KP Q hQ=>?_
 simp(disch:=omega) only[ir195,go_sem]
 refine za (zqD l x hl) ?_
 simp(disch:=omega) only[go_sem]
 have:=zj4 x l 0 (by omega)
 exact hQ _ _ _ _ nofun rfl (by simp[zd,ze,AV.strip,AV.strip1,this])
def y8 (s:SchD) (n:List UInt8) (ks:List Int):Bool:=(yM s n).any fun d=>zmI ks d.k
theorem zcj (s:SchD) (n:List UInt8) (ks:List Int) (hb:s.defs.length≤Lim) (hk:ks.length≤Lim):zi Tryz.prog 132 [.agg (zr s),.str n,.sl .no 1 (ks.map cI)] (.bool (y8 s n ks)):=by
 refine zi.go ir132 ck132 (Al4 _) fun KP Q hQ=>?_
 have hf:=zer s n hb
 obtain⟨defs,q,m⟩:=s
 simp only[y8] at hQ
 simp only[zr] at hf
 simp(disch:=omega) only[ir132,zr,go_sem]
 refine za hf ?_
 cases hfe:yM ⟨defs,q,m⟩ n with
 | none =>
  simp(disch:=omega) only[Option.getD,Option.isSome,zE,yg,go_sem]
  refine zc fun b7 hb7=>?_
  simp(disch:=omega) only[yg,go_sem]
  exact hQ _ _ _ _ nofun rfl (by simp[zd,ze,AV.strip,AV.strip1,hfe])
 | some d =>
  obtain⟨k,nm,fs,fl,ps,pa⟩:=d
  simp(disch:=omega) only[Option.getD,Option.isSome,yg,go_sem]
  refine zc fun b7 hb7=>?_
  simp(disch:=omega) only[yg,go_sem]
  refine za (zkP ks k hk) ?_
  simp(disch:=omega) only[go_sem]
  exact hQ _ _ _ _ nofun rfl (by simp[zd,ze,AV.strip,AV.strip1,hfe])
def zao (s:SchD) (n:List UInt8):Bool:=y8 s n [0,4]
def ZT (s:SchD) (n:List UInt8):Bool:=y8 s n [1,2,3]
def zbz (s:SchD) (n:List UInt8):Bool:=y8 s n [0,4,5]
theorem ziV (s:SchD) (n:List UInt8) (hb:s.defs.length≤Lim):zi Tryz.prog 90 [.agg (zr s),.str n] (.bool (zao s n)):=by
 refine zi.go ir90 ck90 (Al4 _) fun KP Q hQ=>?_
 have hf:=zcj s n [0,4] hb (by decide)
 obtain⟨defs,q,m⟩:=s
 simp only[zr,List.map,cI] at hf
 simp(disch:=omega) only[ir90,zr,go_sem]
 refine za (zi.low hf) ?_
 simp(disch:=omega) only[go_sem]
 exact hQ _ _ _ _ nofun rfl (by simp[zd,ze,AV.strip,AV.strip1,zao])
theorem zfU (s:SchD) (n:List UInt8) (hb:s.defs.length≤Lim):zi Tryz.prog 77 [.agg (zr s),.str n] (.bool (ZT s n)):=by
 refine zi.go ir77 ck77 (Al4 _) fun KP Q hQ=>?_
 have hf:=zcj s n [1,2,3] hb (by decide)
 obtain⟨defs,q,m⟩:=s
 simp only[zr,List.map,cI] at hf
 simp(disch:=omega) only[ir77,zr,go_sem]
 refine za (zi.low hf) ?_
 simp(disch:=omega) only[go_sem]
 exact hQ _ _ _ _ nofun rfl (by simp[zd,ze,AV.strip,AV.strip1,ZT])
theorem zox (s:SchD) (n:List UInt8) (hb:s.defs.length≤Lim):zi Tryz.prog 104 [.agg (zr s),.str n] (.bool (zbz s n)):=by
 refine zi.go ir104 ck104 (Al4 _) fun KP Q hQ=>?_
 have hf:=zcj s n [0,4,5] hb (by decide)
 obtain⟨defs,q,m⟩:=s
 simp only[zr,List.map,cI] at hf
 simp(disch:=omega) only[ir104,zr,go_sem]
 refine za (zi.low hf) ?_
 simp(disch:=omega) only[go_sem]
 exact hQ _ _ _ _ nofun rfl (by simp[zd,ze,AV.strip,AV.strip1,zbz])
def tnB:List UInt8:=[95,95,116,121,112,101,110,97,109,101]
def zF:FldD:=⟨[],[],⟨[],0,0⟩,[]⟩
def tnF:FldD:=⟨tnB,[],⟨[83,116,114,105,110,103],0,1⟩,[]⟩
def nmF (n:List UInt8) (f:FldD):Bool:=decide (f.nm=n)
def yR (s:SchD) (typ nm:List UInt8):Option FldD :=
 if nm=tnB∧ZT s typ=true then some tnF else match yM s typ with
  | none=>none
  | some d=>if d.k=1∨d.k=2 then d.flds.find? (nmF nm) else none
theorem ziw {d:DefD}:∀ {l:List DefD},d∈l→bE d≤bEs l
 | x::l,h=>by
  rcases List.mem_cons.1 h with rfl|h
  ·simp only[bEs,List.map_cons,List.sum_cons];omega
  ·have:=ziw h;simp only[bEs,List.map_cons,List.sum_cons] at this ⊢;omega
theorem Yi {s:SchD} {n:List UInt8} {d:DefD} (h:yM s n=some d):bLs d.flds≤zN s∧bT d.faces≤zN s∧bT d.parts≤zN s∧bWs d.ps≤zN s:=by
 unfold yM at h
 split at h
 ·cases h;simp[scE,bLs,bT,bWs]
 ·have:=ziw (List.mem_of_find?_eq_some h)
  simp only[bE,zN] at this ⊢
  omega
theorem zqw (f:FldD) (n:List UInt8):zi Tryz.prog 139 [.agg (cL f),.view [.str n]] (.bool (nmF n f)):=by
 obtain⟨nm,ps,⟨a,b,c⟩,ds⟩:=f
 refine zi.go ir139 ck139 (Al4 _) fun KP Q hQ=>?_
 simp(disch:=omega) only[ir139,zaq,go_sem]
 exact hQ _ _ _ _ nofun rfl (by simp[zd,ze,AV.strip,AV.strip1,nmF])
theorem zeQ (s:SchD) (typ nm:List UInt8) (hb:zN s≤Lim):zi Tryz.prog 88 [.agg (zr s),.str typ,.str nm] (.tup [.agg (cL ((yR s typ nm).getD zF)),.bool (yR s typ nm).isSome]):=by
 refine zi.go ir88 ck88 (Al4 _) fun KP Q hQ=>?_
 have hl:=yc hb
 have hc:=zfU s typ hl
 have hf:=zer s typ hl
 have hle:=@Yi s typ
 have hlb:zN s≤1099511627776:=hb
 have stripz:∀ b,(zd [AV.agg [.str [],.sl .nil 10 [],.str [],.int .i64 0,.int .i64 0,.sl .nil 2 []],.bool b]).strip=.tup [.agg (cL zF),.bool b]:=fun _=>rfl
 have strips:∀ x b,(zd [AV.agg (cL x),.bool b]).strip=.tup [.agg (cL x),.bool b]:=fun _ _=>rfl
 obtain⟨sd,sq,sm⟩:=s
 generalize hS:(⟨sd,sq,sm⟩:SchD)=s at *
 have hcs:zr s=[.sl .no 6 (cEs sd),.str sq,.str sm]:=by rw[← hS];rfl
 rw[hcs] at hc hf ⊢
 have fin:∀ o,yR s typ nm=o→∀ ρ H vs,zQ ρ H ir88.res=some vs→(zd vs).strip=.tup [.agg (cL (o.getD zF)),.bool o.isSome]→Q .ret ρ H:=fun o e ρ H vs h1 h2=>hQ _ ρ H vs nofun h1 (by rw[h2,e])
 have e0:¬ (nm=tnB∧ZT s typ=true)→yR s typ nm=match yM s typ with|none=>none|some d=>if d.k=1∨d.k=2 then d.flds.find? (nmF nm) else none:=fun h=>by simp only[yR,h,if_false]
 have three:(nm=tnB∧ZT s typ=true)∨(nm=tnB∧ZT s typ=false)∨nm≠tnB:=by
  cases ZT s typ<;>by_cases h:nm=tnB<;>simp[h]
 rcases three with ⟨ht,hcm⟩|h2
 ·have ht':(nm=[95,95,116,121,112,101,110,97,109,101])=True:=eq_true ht
  rw[hcm] at hc
  simp(disch:=omega) only[ir88,go_sem]
  refine zc fun b6 hb6=>?_
  simp(disch:=omega) only[ht',go_sem]
  refine za hc ?_
  simp(disch:=omega) only[go_sem]
  exact fin (some tnF) (by simp[yR,ht,hcm]) _ _ [.agg [.str tnB,.sl .nil 10 [],.str [83,116,114,105,110,103],.int .i64 0,.int .i64 1,.sl .nil 2 []],.bool true] (by simp(disch:=omega) only[ir88,zQ,Zv,tnB,go_sem]) rfl
 have e1:=e0 (by rcases h2 with ⟨_,h⟩|h<;>simp[h])
 rcases h2 with ⟨ht,hcm⟩|ht
 case' inl =>
  have ht':(nm=[95,95,116,121,112,101,110,97,109,101])=True:=eq_true ht
  rw[hcm] at hc
  simp(disch:=omega) only[ir88,go_sem]
  refine zc fun b6 hb6=>?_
  simp(disch:=omega) only[ht',go_sem]
  refine za hc ?_
  simp(disch:=omega) only[go_sem]
 case' inr =>
  have ht':¬ nm=[95,95,116,121,112,101,110,97,109,101]:=ht
  simp(disch:=omega) only[ir88,go_sem]
  refine zc fun b6 hb6=>?_
  simp(disch:=omega) only[ht',go_sem]
 all_goals
  refine za hf ?_
  cases hfe:yM s typ with
  | none =>
   rw[hfe] at e1
   simp(disch:=omega) only[Option.getD,Option.isSome,zE,yg,go_sem]
   refine zc fun b8 hb8=>?_
   have hne:=yW hb8
   simp(disch:=omega) only[yg,hne,Ne.symm hne,go_sem]
   exact fin none e1 _ _ [.agg [.str [],.sl .nil 10 [],.str [],.int .i64 0,.int .i64 0,.sl .nil 2 []],.bool false] (by simp(disch:=omega) only[ir88,zQ,Zv,hne,Ne.symm hne,go_sem]) rfl
  | some d =>
   rw[hfe] at e1
   have hle2:=(hle hfe).1
   obtain⟨k,dn,fs,fl,ps,pa⟩:=d
   simp only at e1 hle2
   have hfl:=YW fl
   by_cases hk:k=1∨k=2
   case neg =>
    rw[if_neg hk] at e1
    have hk1:¬ k=1:=fun h=>hk (.inl h)
    have hk2:¬ k=2:=fun h=>hk (.inr h)
    simp(disch:=omega) only[Option.getD,Option.isSome,yg,go_sem]
    refine zc fun b8 hb8=>?_
    have hne:=yW hb8
    simp(disch:=omega) only[yg,hne,Ne.symm hne,hk1,hk2,go_sem]
    exact fin none e1 _ _ [.agg [.str [],.sl .nil 10 [],.str [],.int .i64 0,.int .i64 0,.sl .nil 2 []],.bool false] (by simp(disch:=omega) only[ir88,zQ,Zv,hne,Ne.symm hne,go_sem]) rfl
   rw[if_pos hk] at e1
   have hx:=zrW cL (fun _=>rfl) fl 139 [.view [.str nm]] (nmF nm) (by simp only[Lim];omega) (by kernel_rfl) fun x _=>zqw x nm
   rcases hk with hk|hk
   all_goals
    subst hk
    simp(disch:=omega) only[Option.getD,Option.isSome,yg,go_sem]
    refine zc fun b8 hb8=>?_
    have hne:=yW hb8
    simp(disch:=omega) only[yg,hne,Ne.symm hne,go_sem]
    refine za hx ?_
    rcases Y6 (nmF nm) fl 0 with ⟨a,x,r,h1,h2,h3,h4⟩|⟨h1,h2⟩
    ·rw[h4,Int.zero_add]
     rw[h3] at e1
     have hg:=zdb h1
     have h6:=zaN fl
     have h5:(a.length:Int)<fl.length:=by rw[h1,Al5,Al2];omega
     have h7:¬ ((a.length:Int)<0):=by omega
     simp(disch:=omega) only[hne,Ne.symm hne,hg,h6,h5,h7,cL,go_sem]
     refine fin (some x) e1 _ _ [.agg (cL x),.bool true] ?_ rfl
     simp(disch:=omega) only[ir88,zQ,Zv,hne,Ne.symm hne,cL,go_sem]
    ·rw[h2]
     rw[h1] at e1
     simp(disch:=omega) only[hne,Ne.symm hne,go_sem]
     exact fin none e1 _ _ [.agg [.str [],.sl .nil 10 [],.str [],.int .i64 0,.int .i64 0,.sl .nil 2 []],.bool false] (by simp(disch:=omega) only[ir88,zQ,Zv,hne,Ne.symm hne,go_sem]) rfl
def zby (l:List (List UInt8)) (n:List UInt8):List (List UInt8):=if yu n l=true then l else l++[n]
theorem zld (l:List (List UInt8)) (n:List UInt8):(zby l n).length≤l.length+1:=by unfold zby;split<;>simp
theorem ztH (l:List (List UInt8)) (n:List UInt8) (o:Own) (H:zb) (hb:l.length+1≤Lim) (ho:ya H o l.length 1):Y5 Tryz.prog 198 [.sl o 1 (cT l),.str n] H o 1 (cT (zby l n)):=by
 have h3:=zM l
 have hb':=hb
 simp only[Lim] at hb'
 refine zj.goO ir198 ck198 (Al4 _) fun KP Q hQ hP=>?_
 simp(disch:=omega) only[ir198,go_sem]
 refine za (zi.low (yP l n (by simp only[Lim];omega))) ?_
 cases hh:yu n l with
 | true =>
  simp(disch:=omega) only[hh,go_sem]
  refine hQ _ _ H H _ nofun rfl (Low.refl _) ⟨o,?_,?_⟩
  ·simp[zd,ze,zby,hh]
  ·simpa[zby,hh,h3] using OwnS.refl ho
 | false =>
  simp(disch:=omega) only[hh,go_sem]
  refine zw (by rw[h3];exact ho) ?_ ?_ fun o' H' hs=>?_
  ·simp only[h3,Al2,Al3];omega
  ·simp only[h3,Al2,Al3,maxLen];omega
  simp(disch:=omega) only[go_sem]
  refine hQ _ _ H' H' _ nofun rfl (Low.refl _) ⟨o',?_,?_⟩
  ·simp[zd,ze,zby,hh,cT,AV.strip1]
  ·simpa[zby,hh,h3,zM] using hs
def zbi (s:SchD) (n:List UInt8):List (List UInt8):=match yM s n with
 | none=>[]
 | some d=>if d.k=1 then [n] else if d.k=2 then s.defs.foldl (fun l x=>if x.k=1∧yu n x.faces=true then zby l x.nm else l) []
  else if d.k=3 then d.parts.foldl (fun l p=>if y8 s p [1]=true then zby l p else l) [] else []
end Go.Proofs.YtbcocdloklbkjaaGreatDoor
