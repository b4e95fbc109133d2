import Derived.JoinedOf
import Derived.Test.YticbbfbpeimkbaaGreatDoorM1
import Derived.Test.YticbbfbpeimkbaaGreatDoorM2
import Derived.Test.YticbbfbpeimkbaaGreatDoorM3
import Derived.Test.YticbbfbpeimkbaaGreatDoorM4
set_option maxRecDepth 100000
set_option linter.all false
namespace Go.Proofs.YticbbfbpeimkbaaGreatDoor
open Go.Ab
mutual
inductive Val where
 | mk (k n:Int) (s:List UInt8) (l:List Val) (m:List Mem)
inductive Mem where
 | mk (name:List UInt8) (v:Val)
end
mutual
def cV:Val→List AV
 | .mk k n s l m=>[.int .i64 k,.int .i64 n,.str s,.sl .no 5 (cVs l),.sl .no 6 (cMs m)]
def cVs:List Val→List (List AV)
 | []=>[]
 | v::r=>cV v::cVs r
def cM:Mem→List AV
 | .mk s v=>.str s::cV v
def cMs:List Mem→List (List AV)
 | []=>[]
 | x::r=>cM x::cMs r
end
theorem zcj:∀ l,cVs l=l.map cV
 | []=>rfl
 | v::r=>by rw[cVs,zcj r];rfl
theorem zcf:∀ l,cMs l=l.map cM
 | []=>rfl
 | v::r=>by rw[cMs,zcf r];rfl
theorem yZ (l:List Val):(cVs l).length=l.length:=by rw[zcj];simp
theorem yC (l:List Mem):(cMs l).length=l.length:=by rw[zcf];simp
theorem Zb {l a:List Val} {x:Val} {b:List Val} (h:l=a++x::b):(cVs l).getD a.length []=cV x:=by rw[zcj,yW h]
theorem yT {l a:List Mem} {x:Mem} {b:List Mem} (h:l=a++x::b):(cMs l).getD a.length []=cM x:=by rw[zcf,yW h]
theorem zE (k n:Int) (s:List UInt8) (l:List Val) (m:List Mem):cV (.mk k n s l m)=[.int .i64 k,.int .i64 n,.str s,.sl .no 5 (cVs l),.sl .no 6 (cMs m)]:=rfl
theorem zk (s:List UInt8) (v:Val):cM (.mk s v)=.str s::cV v:=rfl
theorem zb4 (v:Val):(cV v).map AV.strip1=cV v:=by cases v;rfl
mutual
theorem Val.ind {P:Val→Prop} (h:∀ k n s l m,(∀ v∈l,P v)→(∀ s v,Mem.mk s v∈m→P v)→P (.mk k n s l m)):∀ v,P v
 | .mk k n s l m=>h k n s l m (Val.indL h l) (fun s v hm=>Val.indM h m s v hm)
theorem Val.indL {P:Val→Prop} (h:∀ k n s l m,(∀ v∈l,P v)→(∀ s v,Mem.mk s v∈m→P v)→P (.mk k n s l m)):∀ l:List Val,∀ v∈l,P v
 | [],_,hv=>by cases hv
 | x::r,v,hv=>(List.mem_cons.1 hv).elim (fun e=>e▸Val.ind h x) (Val.indL h r v)
theorem Val.ind1 {P:Val→Prop} (h:∀ k n s l m,(∀ v∈l,P v)→(∀ s v,Mem.mk s v∈m→P v)→P (.mk k n s l m)):∀ m:Mem,∀ s v,m=.mk s v→P v
 | .mk s v,s',v',e=>by cases e;exact Val.ind h v
theorem Val.indM {P:Val→Prop} (h:∀ k n s l m,(∀ v∈l,P v)→(∀ s v,Mem.mk s v∈m→P v)→P (.mk k n s l m)):∀ l:List Mem,∀ s v,Mem.mk s v∈l→P v
 | [],_,_,hv=>by cases hv
 | x::r,s,v,hv=>(List.mem_cons.1 hv).elim (fun e=>Val.ind1 h x s v e.symm) (Val.indM h r s v)
end
theorem zi (v:Val):(cV v).length=5:=by cases v;rfl
theorem zj (x:Mem):(cM x).length=6:=by cases x with|mk s v=>cases v;rfl
theorem zf (v:Val):(cV v).take 5=cV v:=by cases v;rfl
theorem zg (x:Mem):(cM x).take 6=cM x:=by cases x with|mk s v=>cases v;rfl
theorem zb (a b c d e:AV) (v:Val):splice [a,b,c,d,e] 0 (cV v)=cV v:=by cases v;rfl
theorem za (a b c d e f:AV) (x:Mem):splice [a,b,c,d,e,f] 0 (cM x)=cM x:=by cases x with|mk s v=>cases v;rfl
mutual
def bV:Val→Nat
 | .mk _ _ s l m=>1+s.length+bVs l+bMs m
def bVs:List Val→Nat
 | []=>0
 | v::r=>bV v+bVs r
def bM:Mem→Nat
 | .mk s v=>s.length+bV v
def bMs:List Mem→Nat
 | []=>0
 | x::r=>bM x+bMs r
end
theorem ZV (v:Val):1≤bV v:=by cases v;simp only[bV];omega
theorem zmC (v:Mem):1≤bM v:=by cases v with|mk s v=>have:=ZV v;simp only[bM];omega
theorem Zj:∀ l,l.length≤bVs l
 | []=>by simp
 | v::r=>by have:=Zj r;have:=ZV v;simp only[bVs,Al2];omega
theorem yI:∀ l,l.length≤bMs l
 | []=>by simp
 | v::r=>by have:=yI r;have:=zmC v;simp only[bMs,Al2];omega
theorem ZY (a:List Val) (x:Val) (b:List Val):bVs (a++x::b)=bVs a+bV x+bVs b:=by
 induction a with
 | nil=>simp[bVs]
 | cons y a ih=>simp only[Al6,bVs,ih];omega
theorem y6 (a:List Mem) (x:Mem) (b:List Mem):bMs (a++x::b)=bMs a+bM x+bMs b:=by
 induction a with
 | nil=>simp[bMs]
 | cons y a ih=>simp only[Al6,bMs,ih];omega
abbrev Lim:Nat:=1099511627776
theorem ziV:∀ v,bV v≤Lim→zo Tryz.prog 53 [.agg (cV v)] (.int .i64 (bV v)):=by
 refine Val.ind fun k n s l m ihl ihm hb=>?_
 refine zo.go ir53 ck53 (Al4 _) fun KP Q hQ=>?_
 have hl:=yZ l
 have hm:=yC m
 have hll:=Zj l
 have hml:=yI m
 have hb':1+s.length+bVs l+bMs m≤Lim:=hb
 simp only[Lim] at hb'
 simp(disch:=first|omega|assumption) only[ir53,zE,wrap64,go_sem]
 refine zm l 4 (fun n:Int=>[(3,.int .i64 n)]) (fun done rest n H=>n+bVs rest=1+s.length+bVs l∧H=zh.emp) (1+s.length) (by simp(disch:=first|omega|assumption) only[go_sem]) ⟨by omega,rfl⟩ ?_ ?_
 ·rintro n H J ⟨hn,rfl⟩ hlt
  simp only[bVs] at hn
  simp(disch:=first|omega|assumption) only[hl,hlt,go_sem]
  refine zm m 5 (fun n:Int=>[(3,.int .i64 n)]) (fun done rest n H=>n+bMs rest=1+s.length+bVs l+bMs m∧H=zh.emp) n (by simp(disch:=first|omega|assumption) only[go_sem]) ⟨by omega,rfl⟩ ?_ ?_
  ·rintro n H J ⟨hn,rfl⟩ hlt
   simp only[bMs] at hn
   simp(disch:=first|omega|assumption) only[hm,hlt,go_sem]
   have:n=((bV (.mk k n s l m):Nat):Int):=by simp only[bV];omega
   exact hQ _ _ _ _ nofun rfl (by simp[ze,zd,AV.strip,AV.strip1,bV,this])
  ·rintro done x rest n H J hd hlt _ ⟨hn,rfl⟩ hJ
   have hg:=yT hd
   have hbm:=y6 done x rest
   rw[← hd] at hbm
   cases x with
   | mk t v =>
   simp only[bMs,bM] at hn hbm
   simp(disch:=first|omega|assumption) only[zi,zf,zb,zj,zg,za,zk,hm,hlt,hg,wrap64,go_sem]
   refine zc (ihm t v (by rw[hd];simp) (by simp only[Lim];omega)) ?_
   simp(disch:=first|omega|assumption) only[hl,hm,hlt,hg,zk,wrap64,go_sem]
   refine goJ (hJ (n+t.length+bV v) zh.emp ⟨by omega,rfl⟩) (by simp(disch:=first|omega|assumption) only[go_sem])
 ·rintro done x rest n H J hd hlt _ ⟨hn,rfl⟩ hJ
  have hg:=Zb hd
  have hbm:=ZY done x rest
  rw[← hd] at hbm
  simp only[bVs] at hn
  simp(disch:=first|omega|assumption) only[zi,zf,zb,zj,zg,za,zk,hl,hlt,hg,go_sem]
  refine zc (ihl x (by rw[hd];simp) (by simp only[Lim];omega)) ?_
  simp(disch:=first|omega|assumption) only[wrap64,go_sem]
  refine goJ (hJ (n+bV x) zh.emp ⟨by omega,rfl⟩) (by simp(disch:=first|omega|assumption) only[go_sem])
noncomputable def eqd {α:Type} (a b:α):Bool:=@decide (a=b) (Classical.propDecidable _)
theorem zN {α:Type} {a b:α} (h:a=b):eqd a b=true:=by simp[eqd,h]
theorem zn {α:Type} {a b:α} (h:a≠b):eqd a b=false:=by simp[eqd,h]
def cT (l:List (List UInt8)):List (List AV):=l.map fun k=>[.str k]
theorem y0 (l:List (List UInt8)):(cT l).length=l.length:=by simp[cT]
theorem zjr {l a:List (List UInt8)} {x:List UInt8} {b:List (List UInt8)} (h:l=a++x::b):(cT l).getD a.length []=[.str x]:=yW h
theorem ZX {α:Type} {a b done rest:List α} {x:α} (h:a=done++x::rest) (hl:a.length=b.length) (hp:b.take done.length=done):∃ y r,b=done++y::r:=by
 have h1:done.length<b.length:=by rw[← hl,h];simp
 refine⟨b[done.length],b.drop (done.length+1),?_⟩
 conv=>lhs;rw[← List.take_append_drop done.length b,hp,List.drop_eq_getElem_cons h1]
theorem Zz {α:Type} {b done r:List α} {y:α} (h:b=done++y::r):b.take (done++[y]).length=done++[y]:=by
 subst h
 have e:done++y::r=(done++[y])++r:=by simp
 rw[e,List.take_left'];rfl
theorem Z3 {α:Type} {a b:List α} (hl:a.length=b.length) (hp:b.take a.length=a):a=b:=by
 rw[hl,List.take_length] at hp;exact hp.symm
theorem YX {α:Type} {a b done rest r:List α} {x y:α} (h:a=done++x::rest) (h':b=done++y::r) (hxy:x≠y):a≠b:=fun e=>by
 rw[h,h'] at e
 exact hxy (List.cons.inj (List.append_cancel_left e)).1
mutual
def yG:Val→Int
 | .mk k _ _ l m=>if k=6 then Zc l 0+1 else if k=7 then Zd m 0+1 else 0
def Zc:List Val→Int→Int
 | [],n=>n
 | v::r,n=>Zc r (mm2 true n (yG v))
def YH:Mem→Int
 | .mk _ v=>yG v
def Zd:List Mem→Int→Int
 | [],n=>n
 | x::r,n=>Zd r (mm2 true n (YH x))
end
theorem zjA (a b:Int):a≤mm2 true a b:=by simp only[mm2,if_true];split<;>omega
mutual
theorem zbl:∀ v,0≤yG v∧yG v≤bV v
 | .mk k n s l m=>by
  have h1:=zax l 0
  have h2:=zat m 0
  simp only[yG,bV]
  split
  ·omega
  ·split<;>omega
theorem zax:∀ l (n:Int),n≤Zc l n∧(Zc l n≤n∨Zc l n≤bVs l)
 | [],n=>by simp[Zc,bVs]
 | v::r,n=>by
  have h1:=zbl v
  have h2:=zax r (mm2 true n (yG v))
  have h3:=zjA n (yG v)
  have h4:mm2 true n (yG v)=n∨mm2 true n (yG v)=yG v:=by simp only[mm2,if_true];split<;>simp
  simp only[Zc,bVs]
  omega
theorem zin:∀ x,0≤YH x∧YH x≤bM x
 | .mk s v=>by have:=zbl v;simp only[YH,bM];omega
theorem zat:∀ l (n:Int),n≤Zd l n∧(Zd l n≤n∨Zd l n≤bMs l)
 | [],n=>by simp[Zd,bMs]
 | v::r,n=>by
  have h1:=zin v
  have h2:=zat r (mm2 true n (YH v))
  have h3:=zjA n (YH v)
  have h4:mm2 true n (YH v)=n∨mm2 true n (YH v)=YH v:=by simp only[mm2,if_true];split<;>simp
  simp only[Zd,bMs]
  omega
end
theorem zfi:∀ v,bV v≤Lim→zo Tryz.prog 116 [.agg (cV v)] (.int .i64 (yG v)):=by
 refine Val.ind fun k n s l m ihl ihm hb=>?_
 refine zo.go ir116 ck116 (Al4 _) fun KP Q hQ=>?_
 have hl:=yZ l
 have hm:=yC m
 have hll:=Zj l
 have hml:=yI m
 have hb':1+s.length+bVs l+bMs m≤Lim:=hb
 simp only[Lim] at hb'
 have d1:=zax l 0
 have d2:=zat m 0
 by_cases k6:k=6
 ·subst k6
  simp(disch:=first|omega|assumption) only[ir116,zE,hl,go_sem]
  refine zm l 15 (fun n:Int=>[(3,.int .i64 n)]) (fun done rest n H=>Zc rest n=Zc l 0) 0 (by simp(disch:=first|omega|assumption) only[go_sem]) rfl ?_ ?_
  ·rintro n H J hn hlt
   simp only[Zc] at hn
   simp(disch:=first|omega|assumption) only[hl,hlt,wrap64,hn,go_sem]
   exact hQ _ _ _ _ nofun rfl (by simp[ze,zd,AV.strip,AV.strip1,yG])
  ·rintro done x rest n H J hd hlt _ hn hJ
   have hg:=Zb hd
   have hbm:=ZY done x rest
   rw[← hd] at hbm
   simp only[Zc] at hn
   simp(disch:=first|omega|assumption) only[zi,zf,zb,zj,zg,za,zk,hl,hlt,hg,go_sem]
   refine zv fun b hb=>?_
   simp(disch:=first|omega|assumption) only[zi,zf,zb,zj,zg,za,zk,go_sem]
   refine zc (ihl x (by rw[hd];simp) (by simp only[Lim];omega)) ?_
   simp(disch:=first|omega|assumption) only[wrap64,go_sem]
   exact goJ (hJ _ _ hn) (by simp(disch:=first|omega|assumption) only[go_sem])
 by_cases k7:k=7
 ·subst k7
  simp(disch:=first|omega|assumption) only[ir116,zE,hm,go_sem]
  refine zm m 29 (fun n:Int=>[(3,.int .i64 n)]) (fun done rest n H=>Zd rest n=Zd m 0) 0 (by simp(disch:=first|omega|assumption) only[go_sem]) rfl ?_ ?_
  ·rintro n H J hn hlt
   simp only[Zd] at hn
   simp(disch:=first|omega|assumption) only[hm,hlt,wrap64,hn,go_sem]
   exact hQ _ _ _ _ nofun rfl (by simp[ze,zd,AV.strip,AV.strip1,yG])
  ·rintro done x rest n H J hd hlt _ hn hJ
   have hg:=yT hd
   have hbm:=y6 done x rest
   rw[← hd] at hbm
   cases x with
   | mk t v =>
   simp only[Zd,YH,bM] at hn hbm
   simp(disch:=first|omega|assumption) only[zi,zf,zb,zj,zg,za,zk,hm,hlt,hg,go_sem]
   refine zv fun b hb=>?_
   simp(disch:=first|omega|assumption) only[zi,zf,zb,zj,zg,za,zk,go_sem]
   refine zc (ihm t v (by rw[hd];simp) (by simp only[Lim];omega)) ?_
   simp(disch:=first|omega|assumption) only[wrap64,go_sem]
   exact goJ (hJ _ _ hn) (by simp(disch:=first|omega|assumption) only[go_sem])
 ·simp(disch:=first|omega|assumption) only[ir116,zE,k6,k7,go_sem]
  exact hQ _ _ _ _ nofun rfl (by simp[ze,zd,AV.strip,AV.strip1,yG,k6,k7])
theorem zjI:∀ v,bV v≤Lim→zo Tryz.prog 243 [.agg (cV v)] (.int .i64 (yG v)):=by
 refine Val.ind fun k n s l m ihl ihm hb=>?_
 refine zo.go ir243 ck243 (Al4 _) fun KP Q hQ=>?_
 have hl:=yZ l
 have hm:=yC m
 have hll:=Zj l
 have hml:=yI m
 have hb':1+s.length+bVs l+bMs m≤Lim:=hb
 simp only[Lim] at hb'
 have d1:=zax l 0
 have d2:=zat m 0
 by_cases k6:k=6
 ·subst k6
  simp(disch:=first|omega|assumption) only[ir243,zE,hl,go_sem]
  refine zm l 4 (fun n:Int=>[(3,.int .i64 n)]) (fun done rest n H=>Zc rest n=Zc l 0) 0 (by simp(disch:=first|omega|assumption) only[go_sem]) rfl ?_ ?_
  ·rintro n H J hn hlt
   simp only[Zc] at hn
   simp(disch:=first|omega|assumption) only[hl,hlt,wrap64,hn,go_sem]
   exact hQ _ _ _ _ nofun rfl (by simp[ze,zd,AV.strip,AV.strip1,yG])
  ·rintro done x rest n H J hd hlt _ hn hJ
   have hg:=Zb hd
   have hbm:=ZY done x rest
   rw[← hd] at hbm
   simp only[Zc] at hn
   simp(disch:=first|omega|assumption) only[zi,zf,zb,zj,zg,za,zk,hl,hlt,hg,go_sem]
   refine zc (ihl x (by rw[hd];simp) (by simp only[Lim];omega)) ?_
   simp(disch:=first|omega|assumption) only[wrap64,go_sem]
   exact goJ (hJ _ _ hn) (by simp(disch:=first|omega|assumption) only[go_sem])
 by_cases k7:k=7
 ·subst k7
  simp(disch:=first|omega|assumption) only[ir243,zE,hm,go_sem]
  refine zm m 5 (fun n:Int=>[(3,.int .i64 n)]) (fun done rest n H=>Zd rest n=Zd m 0) 0 (by simp(disch:=first|omega|assumption) only[go_sem]) rfl ?_ ?_
  ·rintro n H J hn hlt
   simp only[Zd] at hn
   simp(disch:=first|omega|assumption) only[hm,hlt,wrap64,hn,go_sem]
   exact hQ _ _ _ _ nofun rfl (by simp[ze,zd,AV.strip,AV.strip1,yG])
  ·rintro done x rest n H J hd hlt _ hn hJ
   have hg:=yT hd
   have hbm:=y6 done x rest
   rw[← hd] at hbm
   cases x with
   | mk t v =>
   simp only[Zd,YH,bM] at hn hbm
   simp(disch:=first|omega|assumption) only[zi,zf,zb,zj,zg,za,zk,hm,hlt,hg,go_sem]
   refine zc (ihm t v (by rw[hd];simp) (by simp only[Lim];omega)) ?_
   simp(disch:=first|omega|assumption) only[wrap64,go_sem]
   exact goJ (hJ _ _ hn) (by simp(disch:=first|omega|assumption) only[go_sem])
 ·simp(disch:=first|omega|assumption) only[ir243,zE,k6,k7,go_sem]
  exact hQ _ _ _ _ nofun rfl (by simp[ze,zd,AV.strip,AV.strip1,yG,k6,k7])
def zV:Val:=.mk 0 0 [] [] []
theorem zhK:cV zV=[.int .i64 0,.int .i64 0,.str [],.sl .no 5 [],.sl .no 6 []]:=rfl
structure Tok where
 k:Int
 s:List UInt8
def cK (t:Tok):List AV:=[.int .i64 t.k,.str t.s]
def cKs (l:List Tok):List (List AV):=l.map cK
theorem zbV (a b:List Tok):cKs (a++b)=cKs a++cKs b:=by simp[cKs]
theorem z8 (l:List Tok):(cKs l).length=l.length:=by simp[cKs]
theorem ZK (l:List Tok):(cKs l).map (·.map AV.strip1)=cKs l:=by simp[cKs,cK,AV.strip1]
theorem zdb {l a:List Tok} {x:Tok} {b:List Tok} (h:l=a++x::b):(cKs l).getD a.length []=[.int .i64 x.k,.str x.s]:=yW h
theorem zmt (x y:Tok):(decide (x.k=y.k)&&decide (x.s=y.s))=eqd x y:=by
 by_cases h:x=y
 ·subst h;simp[zN rfl]
 ·rw[zn h]
  obtain⟨k1,s1⟩:=x
  obtain⟨k2,s2⟩:=y
  simp only[Tok.mk.injEq,not_and] at h
  simp only[Bool.and_eq_false_iff,decide_eq_false_iff_not]
  by_cases hk:k1=k2
  ·exact .inr (h hk)
  ·exact .inl hk
theorem zfT (a b:List Tok) (ha:a.length≤Lim):zo Tryz.prog 29 [.sl .no 2 (cKs a),.sl .no 2 (cKs b)] (.bool (eqd a b)):=by
 refine zo.go ir29 ck29 (Al4 _) fun KP Q hQ=>?_
 have h1:=z8 a
 have h2:=z8 b
 simp only[Lim] at ha
 by_cases hl:a.length=b.length
 case neg =>
  have hl':¬ ((a.length:Int)=b.length):=by omega
  have hne:a≠b:=fun e=>hl (by rw[e])
  simp(disch:=first|omega|assumption) only[ir29,h1,h2,hl',go_sem]
  exact hQ _ _ _ _ nofun rfl (by simp[ze,zd,AV.strip,AV.strip1,zn hne])
 have hl':((a.length:Int)=b.length)=True:=eq_true (by omega)
 simp(disch:=first|omega|assumption) only[ir29,h1,h2,hl',go_sem]
 refine zm a 5 (fun _:Unit=>[]) (fun done rest n H=>b.take done.length=done) () (by simp(disch:=first|omega|assumption) only[go_sem]) rfl ?_ ?_
 ·rintro n H J hp hlt
  simp(disch:=first|omega|assumption) only[h1,hlt,go_sem]
  exact hQ _ _ _ _ nofun rfl (by simp[ze,zd,AV.strip,AV.strip1,zN (Z3 hl hp)])
 ·rintro done x rest n H J hd hlt _ hp hJ
  obtain⟨y,r,hb⟩:=ZX hd hl hp
  have g1:=zdb hd
  have g2:=zdb hb
  have hlt2:(done.length:Int)<b.length:=by omega
  have hk:=zmt x y
  by_cases hxy:x=y
  ·rw[zN hxy] at hk
   simp(disch:=first|omega|assumption) only[h1,h2,hlt,hlt2,g1,g2,yg,K1.fits,zaA,AV.keq1,Bool.and_true,Bool.true_and,hk,go_sem]
   exact goJ (hJ () _ (by rw[hxy];exact Zz hb)) (by simp(disch:=first|omega|assumption) only[wrap64,go_sem])
  ·rw[zn hxy] at hk
   simp(disch:=first|omega|assumption) only[h1,h2,hlt,hlt2,g1,g2,yg,K1.fits,zaA,AV.keq1,Bool.and_true,Bool.true_and,hk,go_sem]
   exact hQ _ _ _ _ nofun rfl (by simp[ze,zd,AV.strip,AV.strip1,zn (YX hd hb hxy)])
theorem zle (f:FuncId) (hf:Program.callable Tryz.prog f=true) (a b:List Val) (ha:a.length≤Lim) (hc:∀ x∈a,∀ y,zo Tryz.prog f [.agg (cV x),.agg (cV y)] (.bool (eqd x y))) :
  zo Tryz.prog 128 [.sl .no 5 (cVs a),.sl .no 5 (cVs b),.clo f [] []] (.bool (eqd a b)):=by
 refine zo.go ir128 ck128 (Al4 _) fun KP Q hQ=>?_
 have h1:=yZ a
 have h2:=yZ b
 simp only[Lim] at ha
 by_cases hl:a.length=b.length
 case neg =>
  have hl':¬ ((a.length:Int)=b.length):=by omega
  have hne:a≠b:=fun e=>hl (by rw[e])
  simp(disch:=first|omega|assumption) only[ir128,h1,h2,hl',go_sem]
  exact hQ _ _ _ _ nofun rfl (by simp[ze,zd,AV.strip,AV.strip1,zn hne])
 have hl':((a.length:Int)=b.length)=True:=eq_true (by omega)
 simp(disch:=first|omega|assumption) only[ir128,h1,h2,hl',go_sem]
 refine zm a 17 (fun _:Unit=>[]) (fun done rest n H=>b.take done.length=done) () (by simp(disch:=first|omega|assumption) only[go_sem]) rfl ?_ ?_
 ·rintro n H J hp hlt
  simp(disch:=first|omega|assumption) only[h1,hlt,go_sem]
  exact hQ _ _ _ _ nofun rfl (by simp[ze,zd,AV.strip,AV.strip1,zN (Z3 hl hp)])
 ·rintro done x rest n H J hd hlt _ hp hJ
  obtain⟨y,r,hb⟩:=ZX hd hl hp
  have g1:=Zb hd
  have g2:=Zb hb
  have hlt2:(done.length:Int)<b.length:=by omega
  simp(disch:=first|omega|assumption) only[zi,zf,zb,zj,zg,za,zk,h1,h2,hlt,hlt2,g1,g2,go_sem]
  refine zv fun b1 hb1=>?_
  simp(disch:=first|omega|assumption) only[zi,zf,zb,zj,zg,za,zk,h1,h2,hlt,hlt2,g1,g2,go_sem]
  refine zv fun b2 hb2=>?_
  have hne:=zcb hb2
  simp(disch:=first|omega|assumption) only[zi,zf,zb,zj,zg,za,zk,Ne.symm hne,hne,go_sem]
  refine⟨hf,zc (hc x (by rw[hd];simp) y) ?_⟩
  by_cases hxy:x=y
  ·simp(disch:=first|omega|assumption) only[zN hxy,go_sem]
   exact goJ (hJ () _ (by rw[hxy];exact Zz hb)) (by simp(disch:=first|omega|assumption) only[wrap64,go_sem])
  ·simp(disch:=first|omega|assumption) only[zn hxy,go_sem]
   exact hQ _ _ _ _ nofun rfl (by simp[ze,zd,AV.strip,AV.strip1,zn (YX hd hb hxy)])
theorem zlh (f:FuncId) (hf:Program.callable Tryz.prog f=true) (a b:List Mem) (ha:a.length≤Lim) (hc:∀ x∈a,∀ y,zo Tryz.prog f [.agg (cM x),.agg (cM y)] (.bool (eqd x y))) :
  zo Tryz.prog 129 [.sl .no 6 (cMs a),.sl .no 6 (cMs b),.clo f [] []] (.bool (eqd a b)):=by
 refine zo.go ir129 ck129 (Al4 _) fun KP Q hQ=>?_
 have h1:=yC a
 have h2:=yC b
 simp only[Lim] at ha
 by_cases hl:a.length=b.length
 case neg =>
  have hl':¬ ((a.length:Int)=b.length):=by omega
  have hne:a≠b:=fun e=>hl (by rw[e])
  simp(disch:=first|omega|assumption) only[ir129,h1,h2,hl',go_sem]
  exact hQ _ _ _ _ nofun rfl (by simp[ze,zd,AV.strip,AV.strip1,zn hne])
 have hl':((a.length:Int)=b.length)=True:=eq_true (by omega)
 simp(disch:=first|omega|assumption) only[ir129,h1,h2,hl',go_sem]
 refine zm a 17 (fun _:Unit=>[]) (fun done rest n H=>b.take done.length=done) () (by simp(disch:=first|omega|assumption) only[go_sem]) rfl ?_ ?_
 ·rintro n H J hp hlt
  simp(disch:=first|omega|assumption) only[h1,hlt,go_sem]
  exact hQ _ _ _ _ nofun rfl (by simp[ze,zd,AV.strip,AV.strip1,zN (Z3 hl hp)])
 ·rintro done x rest n H J hd hlt _ hp hJ
  obtain⟨y,r,hb⟩:=ZX hd hl hp
  have g1:=yT hd
  have g2:=yT hb
  have hlt2:(done.length:Int)<b.length:=by omega
  simp(disch:=first|omega|assumption) only[zi,zf,zb,zj,zg,za,zk,h1,h2,hlt,hlt2,g1,g2,go_sem]
  refine zv fun b1 hb1=>?_
  simp(disch:=first|omega|assumption) only[zi,zf,zb,zj,zg,za,zk,h1,h2,hlt,hlt2,g1,g2,go_sem]
  refine zv fun b2 hb2=>?_
  have hne:=zcb hb2
  simp(disch:=first|omega|assumption) only[zi,zf,zb,zj,zg,za,zk,Ne.symm hne,hne,go_sem]
  refine⟨hf,zc (hc x (by rw[hd];simp) y) ?_⟩
  by_cases hxy:x=y
  ·simp(disch:=first|omega|assumption) only[zN hxy,go_sem]
   exact goJ (hJ () _ (by rw[hxy];exact Zz hb)) (by simp(disch:=first|omega|assumption) only[wrap64,go_sem])
  ·simp(disch:=first|omega|assumption) only[zn hxy,go_sem]
   exact hQ _ _ _ _ nofun rfl (by simp[ze,zd,AV.strip,AV.strip1,zn (YX hd hb hxy)])
theorem zjZ (s t:List UInt8) (v u:Val) (hc:zo Tryz.prog 59 [.agg (cV v),.agg (cV u)] (.bool (eqd v u))):zo Tryz.prog 130 [.agg (cM (.mk s v)),.agg (cM (.mk t u))] (.bool (eqd (Mem.mk s v) (Mem.mk t u))):=by
 refine zo.go ir130 ck130 (Al4 _) fun KP Q hQ=>?_
 by_cases h1:s=t
 ·simp(disch:=first|omega|assumption) only[zi,zf,zb,zj,zg,za,zk,ir130,h1,go_sem]
  refine zc hc ?_
  simp(disch:=first|omega|assumption) only[go_sem]
  have:eqd (Mem.mk t v) (Mem.mk t u)=eqd v u:=by
   by_cases h:v=u
   ·rw[zN h,zN (by rw[h])]
   ·rw[zn h,zn (by simp[h])]
  exact hQ _ _ _ _ nofun rfl (by simp[ze,zd,AV.strip,AV.strip1,this,h1])
 ·simp(disch:=first|omega|assumption) only[zi,zf,zb,zj,zg,za,zk,ir130,h1,go_sem]
  have:eqd (Mem.mk s v) (Mem.mk t u)=false:=zn (by simp[h1])
  exact hQ _ _ _ _ nofun rfl (by simp[ze,zd,AV.strip,AV.strip1,this])
theorem zm3:∀ v,bV v≤Lim→∀ u,zo Tryz.prog 59 [.agg (cV v),.agg (cV u)] (.bool (eqd v u)):=by
 refine Val.ind fun k n s l m ihl ihm hb u=>?_
 obtain⟨k',n',s',l',m'⟩:=u
 have hb':1+s.length+bVs l+bMs m≤Lim:=hb
 have hll:=Zj l
 have hml:=yI m
 have il:∀ x∈l,∀ y,zo Tryz.prog 59 [.agg (cV x),.agg (cV y)] (.bool (eqd x y)):=fun x hx y=>by
  obtain⟨a,b,hd⟩:=List.append_of_mem hx
  have:=ZY a x b
  rw[← hd] at this
  exact ihl x hx (by omega) y
 have im:∀ x∈m,∀ y,zo Tryz.prog 130 [.agg (cM x),.agg (cM y)] (.bool (eqd x y)):=fun x hx y=>by
  obtain⟨a,b,hd⟩:=List.append_of_mem hx
  have:=y6 a x b
  rw[← hd] at this
  obtain⟨t,v⟩:=x
  obtain⟨t',v'⟩:=y
  simp only[bM] at this
  exact zjZ t t' v v' (ihm t v hx (by omega) v')
 refine zo.go ir59 ck59 (Al4 _) fun KP Q hQ=>?_
 by_cases h1:k=k'
 case neg =>
  have hne:¬ (Val.mk k n s l m=Val.mk k' n' s' l' m'):=by simp[h1]
  simp(disch:=first|omega|assumption) only[ir59,zE,h1,go_sem]
  exact hQ _ _ _ _ nofun rfl (by simp[ze,zd,AV.strip,AV.strip1,zn hne])
 by_cases h2:n=n'
 case neg =>
  have hne:¬ (Val.mk k n s l m=Val.mk k' n' s' l' m'):=by simp[h2]
  simp(disch:=first|omega|assumption) only[ir59,zE,h1,h2,go_sem]
  exact hQ _ _ _ _ nofun rfl (by simp[ze,zd,AV.strip,AV.strip1,zn hne])
 by_cases h3:s=s'
 case neg =>
  have hne:¬ (Val.mk k n s l m=Val.mk k' n' s' l' m'):=by simp[h3]
  simp(disch:=first|omega|assumption) only[ir59,zE,h1,h2,h3,go_sem]
  exact hQ _ _ _ _ nofun rfl (by simp[ze,zd,AV.strip,AV.strip1,zn hne])
 simp(disch:=first|omega|assumption) only[ir59,zE,h1,h2,h3,go_sem]
 refine zc (zle _ (by kernel_rfl) l l' (by omega) il) ?_
 by_cases h4:l=l'
 case neg =>
  have hne:¬ (Val.mk k n s l m=Val.mk k' n' s' l' m'):=by simp[h4]
  simp(disch:=first|omega|assumption) only[zn h4,go_sem]
  exact hQ _ _ _ _ nofun rfl (by simp[ze,zd,AV.strip,AV.strip1,zn hne])
 simp(disch:=first|omega|assumption) only[zN h4,go_sem]
 refine zc (zlh _ (by kernel_rfl) m m' (by omega) im) ?_
 simp(disch:=first|omega|assumption) only[go_sem]
 have:eqd (Val.mk k n s l m) (Val.mk k' n' s' l' m')=eqd m m':=by
  by_cases h:m=m'
  ·rw[zN h,zN (by rw[h1,h2,h3,h4,h])]
  ·rw[zn h,zn (by simp[h])]
 exact hQ _ _ _ _ nofun rfl (by simp[ze,zd,AV.strip,AV.strip1,this])
theorem zfQ (a b:List Mem) (ha:a.length≤Lim) (hc:∀ s v,Mem.mk s v∈a→∀ u,zo Tryz.prog 46 [.agg (cV v),.agg (cV u)] (.bool (eqd v u))) :
  zo Tryz.prog 102 [.sl .no 6 (cMs a),.sl .no 6 (cMs b)] (.bool (eqd a b)):=by
 refine zo.go ir102 ck102 (Al4 _) fun KP Q hQ=>?_
 have h1:=yC a
 have h2:=yC b
 simp only[Lim] at ha
 by_cases hl:a.length=b.length
 case neg =>
  have hl':¬ ((a.length:Int)=b.length):=by omega
  have hne:a≠b:=fun e=>hl (by rw[e])
  simp(disch:=first|omega|assumption) only[ir102,h1,h2,hl',go_sem]
  exact hQ _ _ _ _ nofun rfl (by simp[ze,zd,AV.strip,AV.strip1,zn hne])
 have hl':((a.length:Int)=b.length)=True:=eq_true (by omega)
 simp(disch:=first|omega|assumption) only[ir102,h1,h2,hl',go_sem]
 refine zm a 5 (fun _:Unit=>[]) (fun done rest n H=>b.take done.length=done) () (by simp(disch:=first|omega|assumption) only[go_sem]) rfl ?_ ?_
 ·rintro n H J hp hlt
  simp(disch:=first|omega|assumption) only[h1,hlt,go_sem]
  exact hQ _ _ _ _ nofun rfl (by simp[ze,zd,AV.strip,AV.strip1,zN (Z3 hl hp)])
 ·rintro done x rest n H J hd hlt _ hp hJ
  obtain⟨y,r,hb⟩:=ZX hd hl hp
  have g1:=yT hd
  have g2:=yT hb
  have hlt2:(done.length:Int)<b.length:=by omega
  have hmem:x∈a:=by rw[hd];simp
  have hst:=Zz hb
  have hne:x≠y→a≠b:=YX hd hb
  obtain⟨s,v⟩:=x
  obtain⟨t,u⟩:=y
  by_cases hs:s=t
  case neg =>
   have hne2:=hne (by simp[hs])
   simp(disch:=first|omega|assumption) only[zi,zf,zb,zj,zg,za,zk,h1,h2,hlt,hlt2,g1,g2,hs,go_sem]
   exact hQ _ _ _ _ nofun rfl (by simp[ze,zd,AV.strip,AV.strip1,zn hne2])
  simp(disch:=first|omega|assumption) only[zi,zf,zb,zj,zg,za,zk,h1,h2,hlt,hlt2,g1,g2,hs,go_sem]
  refine zc (hc s v hmem u) ?_
  by_cases hv:v=u
  ·simp(disch:=first|omega|assumption) only[zN hv,go_sem]
   exact goJ (hJ () _ (by rw[hs,hv];exact hst)) (by simp(disch:=first|omega|assumption) only[wrap64,go_sem])
  ·have:=hne (by simp[hv])
   simp(disch:=first|omega|assumption) only[zn hv,go_sem]
   exact hQ _ _ _ _ nofun rfl (by simp[ze,zd,AV.strip,AV.strip1,zn this])
theorem zka:∀ v,bV v≤Lim→∀ u,zo Tryz.prog 46 [.agg (cV v),.agg (cV u)] (.bool (eqd v u)):=by
 refine Val.ind fun k n s l m ihl ihm hb u=>?_
 obtain⟨k',n',s',l',m'⟩:=u
 have hb':1+s.length+bVs l+bMs m≤Lim:=hb
 have hll:=Zj l
 have hml:=yI m
 have il:∀ x∈l,∀ y,zo Tryz.prog 46 [.agg (cV x),.agg (cV y)] (.bool (eqd x y)):=fun x hx y=>by
  obtain⟨a,b,hd⟩:=List.append_of_mem hx
  have:=ZY a x b
  rw[← hd] at this
  exact ihl x hx (by omega) y
 have im:∀ s v,Mem.mk s v∈m→∀ u,zo Tryz.prog 46 [.agg (cV v),.agg (cV u)] (.bool (eqd v u)):=fun t v hx u=>by
  obtain⟨a,b,hd⟩:=List.append_of_mem hx
  have:=y6 a (.mk t v) b
  rw[← hd] at this
  simp only[bM] at this
  exact ihm t v hx (by omega) u
 refine zo.go ir46 ck46 (Al4 _) fun KP Q hQ=>?_
 have hlb:=yZ l
 have hlb':=yZ l'
 by_cases h1:k=k'
 case neg =>
  have hne:¬ (Val.mk k n s l m=Val.mk k' n' s' l' m'):=by simp[h1]
  simp(disch:=first|omega|assumption) only[ir46,zE,h1,go_sem]
  exact hQ _ _ _ _ nofun rfl (by simp[ze,zd,AV.strip,AV.strip1,zn hne])
 by_cases h2:n=n'
 case neg =>
  have hne:¬ (Val.mk k n s l m=Val.mk k' n' s' l' m'):=by simp[h2]
  simp(disch:=first|omega|assumption) only[ir46,zE,h1,h2,go_sem]
  exact hQ _ _ _ _ nofun rfl (by simp[ze,zd,AV.strip,AV.strip1,zn hne])
 by_cases h3:s=s'
 case neg =>
  have hne:¬ (Val.mk k n s l m=Val.mk k' n' s' l' m'):=by simp[h3]
  simp(disch:=first|omega|assumption) only[ir46,zE,h1,h2,h3,go_sem]
  exact hQ _ _ _ _ nofun rfl (by simp[ze,zd,AV.strip,AV.strip1,zn hne])
 by_cases hl:l.length=l'.length
 case neg =>
  have hl':¬ ((l.length:Int)=l'.length):=by omega
  have hne:¬ (Val.mk k n s l m=Val.mk k' n' s' l' m'):=by simp only[Val.mk.injEq];rintro⟨_,_,_,e,_⟩;exact hl (by rw[e])
  simp(disch:=first|omega|assumption) only[ir46,zE,h1,h2,h3,hlb,hlb',hl',go_sem]
  exact hQ _ _ _ _ nofun rfl (by simp[ze,zd,AV.strip,AV.strip1,zn hne])
 have hl':((l.length:Int)=l'.length)=True:=eq_true (by omega)
 simp(disch:=first|omega|assumption) only[ir46,zE,h1,h2,h3,hlb,hlb',hl',go_sem]
 simp only[Lim] at hb'
 refine zm l 5 (fun _:Unit=>[]) (fun done rest n H=>l'.take done.length=done) () (by simp(disch:=first|omega|assumption) only[go_sem]) rfl ?_ ?_
 ·rintro _ H J hp hlt
  have e4:=Z3 hl hp
  simp(disch:=first|omega|assumption) only[hlb,hlt,go_sem]
  refine zc (zfQ m m' (by simp only[Lim];omega) im) ?_
  simp(disch:=first|omega|assumption) only[go_sem]
  have:eqd (Val.mk k n s l m) (Val.mk k' n' s' l' m')=eqd m m':=by
   by_cases h:m=m'
   ·rw[zN h,zN (by rw[h1,h2,h3,e4,h])]
   ·rw[zn h,zn (by simp[h])]
  exact hQ _ _ _ _ nofun rfl (by simp[ze,zd,AV.strip,AV.strip1,this])
 ·rintro done x rest _ H J hd hlt _ hp hJ
  obtain⟨y,r,hb⟩:=ZX hd hl hp
  have g1:=Zb hd
  have g2:=Zb hb
  have hlt2:(done.length:Int)<l'.length:=by omega
  simp(disch:=first|omega|assumption) only[zi,zf,zb,zj,zg,za,zk,hlb,hlb',hlt,hlt2,g1,g2,go_sem]
  refine zc (il x (by rw[hd];simp) y) ?_
  by_cases hxy:x=y
  ·simp(disch:=first|omega|assumption) only[zN hxy,go_sem]
   exact goJ (hJ () _ (by rw[hxy];exact Zz hb)) (by simp(disch:=first|omega|assumption) only[wrap64,go_sem])
  ·have hne:¬ (Val.mk k n s l m=Val.mk k' n' s' l' m'):=by simp only[Val.mk.injEq];rintro⟨_,_,_,e,_⟩;exact YX hd hb hxy e
   simp(disch:=first|omega|assumption) only[zn hxy,go_sem]
   exact hQ _ _ _ _ nofun rfl (by simp[ze,zd,AV.strip,AV.strip1,zn hne])
theorem zj3 (m:List Mem) (hm:bMs m≤Lim) (hc:∀ s v,Mem.mk s v∈m→zo Tryz.prog 158 [.agg (cV v)] (.agg (cV v))):zo Tryz.prog 88 [.sl .no 6 (cMs m)] (.sl .no 6 (cMs m)):=by
 refine zo.go ir88 ck88 (Al4 _) fun KP Q hQ=>?_
 have h1:=yC m
 have hml:=yI m
 simp only[Lim] at hm
 simp(disch:=first|omega|assumption) only[ir88,go_sem]
 refine zm m 4 (fun x:Own×List Mem=>[(3,.sl x.1 6 (cMs x.2))]) (fun done rest x H=>x.2=done∧OwnF zh.emp H x.1 done.length 6) (.nil,[]) (by simp(disch:=first|omega|assumption) only[cMs,go_sem]) ⟨rfl,OwnF.nil _ _⟩ ?_ ?_
 ·rintro⟨o,done⟩ H J ⟨rfl,ho⟩ hlt
  simp(disch:=first|omega|assumption) only[h1,hlt,go_sem]
  exact hQ _ _ _ _ nofun rfl (by simp[ze,zd,AV.strip,AV.strip1])
 ·rintro done x rest ⟨o,ds⟩ H J hd hlt hlt' ⟨hds,ho⟩ hJ
  simp only at hds ho hJ ⊢
  obtain rfl:done=ds:=hds.symm
  have hg:=yT hd
  have hmem:x∈m:=by rw[hd];simp
  have h2:=yC done
  obtain⟨s,v⟩:=x
  simp(disch:=first|omega|assumption) only[zi,zf,zb,zj,zg,za,zk,h1,hlt,hg,go_sem]
  refine zc (hc s v hmem) ?_
  simp(disch:=first|omega|assumption) only[zi,zf,zb,zj,zg,za,zk,h1,hlt,hg,go_sem]
  refine zF (by rw[h2];exact ho.own) ?_ ?_ fun o' H' hs=>?_
  ·simp only[h2,Al2,Al3];omega
  ·simp only[h2,Al2,Al3,maxLen];omega
  rw[h2] at hs
  simp(disch:=first|omega|assumption) only[wrap64,go_sem]
  refine goJ (hJ (o',done++[.mk s v]) H' ⟨rfl,(ho.stepS hs).cast (by simp)⟩) (by simp(disch:=first|omega|assumption) only[zcf,List.map_append,List.map_cons,zk,zb4,AV.strip1,go_sem])
theorem copyV:∀ v,bV v≤Lim→zo Tryz.prog 158 [.agg (cV v)] (.agg (cV v)):=by
 refine Val.ind fun k n s l m ihl ihm hb=>?_
 have hb':1+s.length+bVs l+bMs m≤Lim:=hb
 have hll:=Zj l
 have hml:=yI m
 have il:∀ x∈l,zo Tryz.prog 158 [.agg (cV x)] (.agg (cV x)):=fun x hx=>by
  obtain⟨a,b,hd⟩:=List.append_of_mem hx
  have:=ZY a x b
  rw[← hd] at this
  exact ihl x hx (by omega)
 have im:∀ s v,Mem.mk s v∈m→zo Tryz.prog 158 [.agg (cV v)] (.agg (cV v)):=fun t v hx=>by
  obtain⟨a,b,hd⟩:=List.append_of_mem hx
  have:=y6 a (.mk t v) b
  rw[← hd] at this
  simp only[bM] at this
  exact ihm t v hx (by omega)
 refine zo.go ir158 ck158 (Al4 _) fun KP Q hQ=>?_
 have h1:=yZ l
 simp(disch:=first|omega|assumption) only[ir158,zE,go_sem]
 refine zv fun b hb=>?_
 simp(disch:=first|omega|assumption) only[go_sem]
 refine zv fun b2 hb2=>?_
 have hne:=zcb hb2
 have hb0:=ziT hb2
 simp(disch:=first|omega|assumption) only[go_sem]
 simp only[Lim] at hb'
 refine zm l 4 (fun x:Own×List Val=>[(3,.sl x.1 5 (cVs x.2))]) (fun done rest x H=>x.2=done∧OwnF ((zh.emp.upd b (.cells [.int .i64 k,.int .i64 n,.str s,.sl .no 5 (cVs l),.sl .no 6 (cMs m)])).upd b2 (.cells [.int .i64 0,.int .i64 0,.str [],.sl .nil 5 [],.sl .nil 6 []])) H x.1 done.length 5) (.nil,[]) (by simp(disch:=first|omega|assumption) only[cVs,go_sem]) ⟨rfl,OwnF.nil _ _⟩ ?_ ?_
 ·rintro⟨o,done⟩ H J ⟨rfl,ho⟩ hlt
  have e1:H b=some (.cells [.int .i64 k,.int .i64 n,.str s,.sl .no 5 (cVs done),.sl .no 6 (cMs m)]):=ho.sub b _ (by simp[zh.upd,Ne.symm hne])
  have e2:H b2=some (.cells [.int .i64 0,.int .i64 0,.str [],.sl .nil 5 [],.sl .nil 6 []]):=ho.sub b2 _ (by simp[zh.upd])
  simp(disch:=first|omega|assumption) only[h1,hlt,e1,go_sem]
  refine zc (zj3 m (by simp only[Lim];omega) im) ?_
  simp(disch:=first|omega|assumption) only[e1,e2,hne,Ne.symm hne,go_sem]
  refine hQ _ _ _ [.agg [.int .i64 k,.int .i64 n,.str s,.sl o 5 (cVs done),.sl .no 6 (cMs m)]] nofun (by simp(disch:=first|omega|assumption) only[ir158,yH,Yt,hne,Ne.symm hne,go_sem]) ?_
  simp[ze,AV.strip,AV.strip1,zE]
 ·rintro done x rest ⟨o,ds⟩ H J hd hlt hlt' ⟨hds,ho⟩ hJ
  simp only at hds ho hJ ⊢
  obtain rfl:done=ds:=hds.symm
  have hg:=Zb hd
  have hmem:x∈l:=by rw[hd];simp
  have h2:=yZ done
  have e1:H b=some (.cells [.int .i64 k,.int .i64 n,.str s,.sl .no 5 (cVs l),.sl .no 6 (cMs m)]):=ho.sub b _ (by simp[zh.upd,Ne.symm hne])
  simp(disch:=first|omega|assumption) only[zi,zf,zb,zj,zg,za,zk,h1,hlt,hg,e1,go_sem]
  refine zc (il x hmem) ?_
  simp(disch:=first|omega|assumption) only[zi,zf,zb,zj,zg,za,zk,h1,hlt,hg,go_sem]
  refine zF (by rw[h2];exact ho.own) ?_ ?_ fun o' H' hs=>?_
  ·simp only[h2,Al2,Al3];omega
  ·simp only[h2,Al2,Al3,maxLen];omega
  rw[h2] at hs
  simp(disch:=first|omega|assumption) only[wrap64,go_sem]
  refine goJ (hJ (o',done++[x]) H' ⟨rfl,(ho.stepS hs).cast (by simp)⟩) (by simp(disch:=first|omega|assumption) only[zcj,List.map_append,List.map_cons,zb4,AV.strip1,go_sem])
abbrev ziR (H:zh) (o:Own) (sz:Nat) (xs:List (List AV)):AV→zh→Prop:=fun v H'=>∃ o',v=.sl o' sz xs∧OwnS H o H' o' xs.length sz
abbrev zgq (P:Program) (f:FuncId) (args:List AV) (H:zh) (o:Own) (sz:Nat) (xs:List (List AV)):Prop :=
 zC P f args H (fun e H'=>match e with|.ret v=>ziR H o sz xs v H'|.pan _=>False)
theorem Zh {P:Program} {KP:AV→zh→Prop} {Q:AExit→Env→zh→Prop} {st:List Fr} {ρ:Env} {H:zh} {all l:List AItem} {d:Option Nat} {R:List Chk} {f:FuncId} {args:List AV} {o:Own} {sz:Nat} {xs:List (List AV)}
  (h:zgq P f args H o sz xs) (hk:∀ o' H',OwnS H o H' o' xs.length sz→goR P KP Q all l st R (ρ.set d (.sl o' sz xs)) H'):goK P KP Q all l st d R ρ f args H :=
 zjq (XP:=fun _ _=>False) h (fun v H' ⟨o',e,hs⟩=>by subst e;exact hk o' H' hs) (fun _ _ h=>h.elim)
def zcx (s:List UInt8):List (List UInt8)→Bool
 | []=>false
 | x::r=>if x=s then true else zcx s r
theorem zn4 (l:List (List UInt8)) (s:List UInt8) (hl:l.length≤Lim):zo Tryz.prog 236 [.sl .no 1 (cT l),.str s] (.bool (zcx s l)):=by
 refine zo.go ir236 ck236 (Al4 _) fun KP Q hQ=>?_
 have h1:=y0 l
 simp only[Lim] at hl
 simp(disch:=first|omega|assumption) only[ir236,go_sem]
 refine zm l 5 (fun _:Unit=>[]) (fun done rest n H=>zcx s rest=zcx s l) () (by simp(disch:=first|omega|assumption) only[go_sem]) rfl ?_ ?_
 ·rintro n H J hn hlt
  simp(disch:=first|omega|assumption) only[h1,hlt,go_sem]
  simp only[zcx] at hn
  exact hQ _ _ _ _ nofun rfl (by simp[ze,zd,AV.strip,AV.strip1,← hn])
 ·rintro done x rest n H J hd hlt _ hn hJ
  have hg:=zjr hd
  simp only[zcx] at hn
  by_cases hx:x=s
  ·simp only[hx,if_true] at hn
   simp(disch:=first|omega|assumption) only[h1,hlt,hg,hx,go_sem]
   exact hQ _ _ _ _ nofun rfl (by simp[ze,zd,AV.strip,AV.strip1,← hn])
  ·simp only[hx,if_false] at hn
   simp(disch:=first|omega|assumption) only[h1,hlt,hg,hx,go_sem]
   exact goJ (hJ () _ hn) (by simp(disch:=first|omega|assumption) only[wrap64,go_sem])
def ze6 (s:List UInt8):List (List UInt8)→Int→Int
 | [],_=>-1
 | x::r,i=>if s=x then i else ze6 s r (i+1)
theorem zfV (s:List UInt8):∀ l (i:Int),0≤i→decide (0≤ze6 s l i)=zcx s l
 | [],i,_=>by simp[ze6,zcx]
 | x::r,i,hi=>by
  simp only[ze6,zcx]
  by_cases h:s=x
  ·simp[h];omega
  ·simp only[h,Ne.symm h,if_false];exact zfV s r (i+1) (by omega)
theorem zmk (l:List (List UInt8)) (s:List UInt8) (hl:l.length≤Lim):zo Tryz.prog 289 [.sl .no 1 (cT l),.str s] (.int .i64 (ze6 s l 0)):=by
 refine zo.go ir289 ck289 (Al4 _) fun KP Q hQ=>?_
 have h1:=y0 l
 simp only[Lim] at hl
 simp(disch:=first|omega|assumption) only[ir289,h1,go_sem]
 refine zm l 8 (fun _:Unit=>[]) (fun done rest n H=>ze6 s rest done.length=ze6 s l 0) () (by simp(disch:=first|omega|assumption) only[go_sem]) rfl ?_ ?_
 ·rintro n H J hn hlt
  simp(disch:=first|omega|assumption) only[h1,hlt,go_sem]
  simp only[ze6] at hn
  exact hQ _ _ _ _ nofun rfl (by simp[ze,zd,AV.strip,AV.strip1,← hn])
 ·rintro done x rest n H J hd hlt _ hn hJ
  have hg:=zjr hd
  simp only[ze6] at hn
  by_cases hx:s=x
  ·subst hx
   simp only[if_true] at hn
   simp(disch:=first|omega|assumption) only[h1,hlt,hg,go_sem]
   exact hQ _ _ _ _ nofun rfl (by simp[ze,zd,AV.strip,AV.strip1,← hn])
  ·simp only[hx,if_false] at hn
   simp(disch:=first|omega|assumption) only[h1,hlt,hg,hx,go_sem]
   exact goJ (hJ () _ (by simpa using hn)) (by simp(disch:=first|omega|assumption) only[wrap64,go_sem])
theorem zit (l:List (List UInt8)) (s:List UInt8) (hl:l.length≤Lim):zo Tryz.prog 229 [.sl .no 1 (cT l),.str s] (.bool (zcx s l)):=by
 refine zo.go ir229 ck229 (Al4 _) fun KP Q hQ=>?_
 simp(disch:=first|omega|assumption) only[ir229,go_sem]
 refine zc (zmk l s hl) ?_
 simp(disch:=first|omega|assumption) only[go_sem]
 have:=zfV s l 0 (by omega)
 exact hQ _ _ _ _ nofun rfl (by simp[ze,zd,AV.strip,AV.strip1,this])
mutual
def ym:Val→List (List UInt8)→List (List UInt8)
 | .mk k _ s l m,acc=>if k=8 then (if zcx s acc then acc else acc++[s]) else if k=6 then Zx l acc else if k=7 then ZH m acc else acc
def Zx:List Val→List (List UInt8)→List (List UInt8)
 | [],acc=>acc
 | v::r,acc=>Zx r (ym v acc)
def zeM:Mem→List (List UInt8)→List (List UInt8)
 | .mk _ v,acc=>ym v acc
def ZH:List Mem→List (List UInt8)→List (List UInt8)
 | [],acc=>acc
 | x::r,acc=>ZH r (zeM x acc)
end
mutual
theorem zbe:∀ v acc,(ym v acc).length≤acc.length+bV v
 | .mk k n s l m,acc=>by
  have h1:=zeF l acc
  have h2:=zeo m acc
  simp only[ym,bV]
  split
  ·split
   ·omega
   ·simp;omega
  ·split
   ·omega
   ·split<;>omega
theorem zeF:∀ l acc,(Zx l acc).length≤acc.length+bVs l
 | [],acc=>by simp[Zx]
 | v::r,acc=>by
  have h1:=zbe v acc
  have h2:=zeF r (ym v acc)
  simp only[Zx,bVs];omega
theorem zdq:∀ x acc,(zeM x acc).length≤acc.length+bM x
 | .mk s v,acc=>by have:=zbe v acc;simp only[zeM,bM];omega
theorem zeo:∀ l acc,(ZH l acc).length≤acc.length+bMs l
 | [],acc=>by simp[ZH]
 | x::r,acc=>by
  have h1:=zdq x acc
  have h2:=zeo r (zeM x acc)
  simp only[ZH,bMs];omega
end
theorem zm5:∀ v,∀ acc H o,acc.length+bV v≤Lim→yB H o acc.length 1→zgq Tryz.prog 131 [.sl o 1 (cT acc),.agg (cV v)] H o 1 (cT (ym v acc)):=by
 refine Val.ind fun k n s l m ihl ihm acc H o hb ho=>?_
 have hb':acc.length+(1+s.length+bVs l+bMs m)≤Lim:=hb
 have hll:=Zj l
 have hml:=yI m
 have h1:=yZ l
 have h2:=yC m
 have h3:=y0 acc
 simp only[Lim] at hb'
 refine zC.goO ir131 ck131 (Al4 _) fun KP Q hQ hP=>?_
 by_cases k8:k=8
 ·subst k8
  simp(disch:=first|omega|assumption) only[ir131,zE,go_sem]
  refine zc (zo.low (zit acc s (by simp only[Lim];omega))) ?_
  cases hh:zcx s acc with
  | true =>
   simp(disch:=first|omega|assumption) only[hh,go_sem]
   refine hQ _ _ H H _ nofun rfl (Low.refl _) ⟨o,?_,?_⟩
   ·simp[ze,zd,ym,hh]
   ·simpa[ym,hh,h3] using OwnS.refl ho
  | false =>
   simp(disch:=first|omega|assumption) only[hh,go_sem]
   refine zF (by rw[h3];exact ho) ?_ ?_ fun o' H' hs=>?_
   ·simp only[h3,Al2,Al3];omega
   ·simp only[h3,Al2,Al3,maxLen];omega
   simp(disch:=first|omega|assumption) only[go_sem]
   refine hQ _ _ H' H' _ nofun rfl (Low.refl _) ⟨o',?_,?_⟩
   ·simp[ze,zd,ym,hh,cT,AV.strip1]
   ·simpa[ym,hh,h3,y0] using hs
 by_cases k6:k=6
 ·subst k6
  simp(disch:=first|omega|assumption) only[ir131,zE,h1,go_sem]
  refine zm l 28 (fun x:Own×List (List UInt8)=>[(0,.sl x.1 1 (cT x.2))]) (fun done rest x H'=>Zx rest x.2=Zx l acc∧x.2.length+bVs rest≤acc.length+bVs l∧OwnS H o H' x.1 x.2.length 1) (o,acc) (by simp(disch:=first|omega|assumption) only[go_sem]) ⟨rfl,by simp,OwnS.refl ho⟩ ?_ ?_
  ·rintro⟨o1,a⟩ H' J ⟨hn,_,hs⟩ hlt
   simp only[Zx] at hn
   subst hn
   simp(disch:=first|omega|assumption) only[h1,hlt,go_sem]
   refine hQ _ _ H' H' _ nofun rfl (Low.refl _) ⟨o1,?_,?_⟩
   ·simp[ze,zd,ym]
   ·simpa[ym,y0] using hs
  ·rintro done x rest ⟨o1,a⟩ H' J hd hlt _ ⟨hn,hle,hs⟩ hJ
   have hg:=Zb hd
   have hx:=zbe x a
   simp only[Zx,bVs] at hn hle
   simp(disch:=first|omega|assumption) only[zi,zf,zb,zj,zg,za,zk,h1,hlt,hg,go_sem]
   refine zv fun b hb=>?_
   simp(disch:=first|omega|assumption) only[zi,zf,zb,zj,zg,za,zk,go_sem]
   refine Zh (ihl x (by rw[hd];simp) a _ o1 (by simp only[Lim];omega) (hs.own.upd hb)) fun o2 H2 hs2=>?_
   rw[y0] at hs2
   simp(disch:=first|omega|assumption) only[wrap64,go_sem]
   exact goJ (hJ (o2,ym x a) H2 ⟨hn,by simp only;omega,(hs.upd hb).trans hs2⟩) (by simp(disch:=first|omega|assumption) only[go_sem])
 by_cases k7:k=7
 ·subst k7
  simp(disch:=first|omega|assumption) only[ir131,zE,h2,go_sem]
  refine zm m 41 (fun x:Own×List (List UInt8)=>[(0,.sl x.1 1 (cT x.2))]) (fun done rest x H'=>ZH rest x.2=ZH m acc∧x.2.length+bMs rest≤acc.length+bMs m∧OwnS H o H' x.1 x.2.length 1) (o,acc) (by simp(disch:=first|omega|assumption) only[go_sem]) ⟨rfl,by simp,OwnS.refl ho⟩ ?_ ?_
  ·rintro⟨o1,a⟩ H' J ⟨hn,_,hs⟩ hlt
   simp only[ZH] at hn
   subst hn
   simp(disch:=first|omega|assumption) only[h2,hlt,go_sem]
   refine hQ _ _ H' H' _ nofun rfl (Low.refl _) ⟨o1,?_,?_⟩
   ·simp[ze,zd,ym]
   ·simpa[ym,y0] using hs
  ·rintro done x rest ⟨o1,a⟩ H' J hd hlt _ ⟨hn,hle,hs⟩ hJ
   have hg:=yT hd
   have hx:=zdq x a
   simp only[ZH,bMs] at hn hle
   have hmem:x∈m:=by rw[hd];simp
   obtain⟨t,v⟩:=x
   simp only[zeM,bM] at hx hn hle
   simp(disch:=first|omega|assumption) only[zi,zf,zb,zj,zg,za,zk,h2,hlt,hg,go_sem]
   refine zv fun b hb=>?_
   simp(disch:=first|omega|assumption) only[zi,zf,zb,zj,zg,za,zk,go_sem]
   refine Zh (ihm t v hmem a _ o1 (by simp only[Lim];omega) (hs.own.upd hb)) fun o2 H2 hs2=>?_
   rw[y0] at hs2
   simp(disch:=first|omega|assumption) only[wrap64,go_sem]
   exact goJ (hJ (o2,ym v a) H2 ⟨hn,by simp only;omega,(hs.upd hb).trans hs2⟩) (by simp(disch:=first|omega|assumption) only[go_sem])
 ·simp(disch:=first|omega|assumption) only[ir131,zE,k8,k6,k7,go_sem]
  refine hQ _ _ H H _ nofun rfl (Low.refl _) ⟨o,?_,?_⟩
  ·simp[ze,zd,ym,k8,k6,k7]
  ·simpa[ym,k8,k6,k7,y0] using OwnS.refl ho
theorem znG:∀ v,∀ acc H o,acc.length+bV v≤Lim→yB H o acc.length 1→zgq Tryz.prog 295 [.agg (cV v),.sl o 1 (cT acc)] H o 1 (cT (ym v acc)):=by
 refine Val.ind fun k n s l m ihl ihm acc H o hb ho=>?_
 have hb':acc.length+(1+s.length+bVs l+bMs m)≤Lim:=hb
 have hll:=Zj l
 have hml:=yI m
 have h1:=yZ l
 have h2:=yC m
 have h3:=y0 acc
 simp only[Lim] at hb'
 refine zC.goO ir295 ck295 (Al4 _) fun KP Q hQ hP=>?_
 by_cases k8:k=8
 ·subst k8
  simp(disch:=first|omega|assumption) only[ir295,zE,go_sem]
  refine zc (zo.low (zn4 acc s (by simp only[Lim];omega))) ?_
  have fin:∀ o' H' (a:List (List UInt8)),ym (.mk 8 n s l m) acc=a→OwnS H o H' o' a.length 1→ziR H o 1 (cT (ym (.mk 8 n s l m) acc)) (.sl o' 1 (cT a)) H':=fun o' H' a e hs=>by
   rw[e];exact⟨o',rfl,by rw[y0];exact hs⟩
  have l1:∀(J:Env→zh→Prop),True:=fun _=>trivial
  cases hh:zcx s acc with
  | true =>
   simp(disch:=first|omega|assumption) only[hh,go_sem]
   refine yO (fun _:Unit=>[]) (fun _ H'=>H'=H) (fun _=>0) () (by simp(disch:=first|omega|assumption) only[go_sem]) rfl ?_
   rintro _ H' J rfl _
   by_cases hz:(0:Int)<l.length
   ·simp(disch:=first|omega|assumption) only[h1,hz,go_sem]
    refine yO (fun _:Unit=>[]) (fun _ H''=>H''=H') (fun _=>0) () (by simp(disch:=first|omega|assumption) only[go_sem]) rfl ?_
    rintro _ H'' J2 rfl _
    by_cases hy:(0:Int)<m.length
    ·simp(disch:=first|omega|assumption) only[h2,hy,go_sem]
     refine hQ _ _ H'' H'' [.sl o 1 (cT acc)] nofun (by simp(disch:=first|omega|assumption) only[ir295,yH,Yt,go_sem]) (Low.refl _) (fin o H'' acc (by simp[ym,hh]) (OwnS.refl ho))
    ·simp(disch:=first|omega|assumption) only[h2,hy,go_sem]
     refine hQ _ _ H'' H'' [.sl o 1 (cT acc)] nofun (by simp(disch:=first|omega|assumption) only[ir295,yH,Yt,go_sem]) (Low.refl _) (fin o H'' acc (by simp[ym,hh]) (OwnS.refl ho))
   ·simp(disch:=first|omega|assumption) only[h1,hz,go_sem]
    refine yO (fun _:Unit=>[]) (fun _ H''=>H''=H') (fun _=>0) () (by simp(disch:=first|omega|assumption) only[go_sem]) rfl ?_
    rintro _ H'' J2 rfl _
    by_cases hy:(0:Int)<m.length
    ·simp(disch:=first|omega|assumption) only[h2,hy,go_sem]
     refine hQ _ _ H'' H'' [.sl o 1 (cT acc)] nofun (by simp(disch:=first|omega|assumption) only[ir295,yH,Yt,go_sem]) (Low.refl _) (fin o H'' acc (by simp[ym,hh]) (OwnS.refl ho))
    ·simp(disch:=first|omega|assumption) only[h2,hy,go_sem]
     refine hQ _ _ H'' H'' [.sl o 1 (cT acc)] nofun (by simp(disch:=first|omega|assumption) only[ir295,yH,Yt,go_sem]) (Low.refl _) (fin o H'' acc (by simp[ym,hh]) (OwnS.refl ho))
  | false =>
   simp(disch:=first|omega|assumption) only[hh,go_sem]
   refine zF (by rw[h3];exact ho) ?_ ?_ fun o' H' hs=>?_
   ·simp only[h3,Al2,Al3];omega
   ·simp only[h3,Al2,Al3,maxLen];omega
   have e0:(cT acc++[[AV.str s]])=cT (acc++[s]):=by simp[cT]
   have hs':OwnS H o H' o' (acc++[s]).length 1:=by simpa[h3] using hs
   simp(disch:=first|omega|assumption) only[e0,go_sem]
   refine yO (fun _:Unit=>[]) (fun _ H2=>H2=H') (fun _=>0) () (by simp(disch:=first|omega|assumption) only[go_sem]) rfl ?_
   rintro _ H2 J rfl _
   by_cases hz:(0:Int)<l.length
   ·simp(disch:=first|omega|assumption) only[h1,hz,go_sem]
    refine yO (fun _:Unit=>[]) (fun _ H''=>H''=H2) (fun _=>0) () (by simp(disch:=first|omega|assumption) only[go_sem]) rfl ?_
    rintro _ H'' J2 rfl _
    by_cases hy:(0:Int)<m.length
    ·simp(disch:=first|omega|assumption) only[h2,hy,go_sem]
     refine hQ _ _ H'' H'' [.sl o' 1 (cT (acc++[s]))] nofun (by simp(disch:=first|omega|assumption) only[ir295,yH,Yt,go_sem]) (Low.refl _) (fin o' H'' _ (by simp[ym,hh]) hs')
    ·simp(disch:=first|omega|assumption) only[h2,hy,go_sem]
     refine hQ _ _ H'' H'' [.sl o' 1 (cT (acc++[s]))] nofun (by simp(disch:=first|omega|assumption) only[ir295,yH,Yt,go_sem]) (Low.refl _) (fin o' H'' _ (by simp[ym,hh]) hs')
   ·simp(disch:=first|omega|assumption) only[h1,hz,go_sem]
    refine yO (fun _:Unit=>[]) (fun _ H''=>H''=H2) (fun _=>0) () (by simp(disch:=first|omega|assumption) only[go_sem]) rfl ?_
    rintro _ H'' J2 rfl _
    by_cases hy:(0:Int)<m.length
    ·simp(disch:=first|omega|assumption) only[h2,hy,go_sem]
     refine hQ _ _ H'' H'' [.sl o' 1 (cT (acc++[s]))] nofun (by simp(disch:=first|omega|assumption) only[ir295,yH,Yt,go_sem]) (Low.refl _) (fin o' H'' _ (by simp[ym,hh]) hs')
    ·simp(disch:=first|omega|assumption) only[h2,hy,go_sem]
     refine hQ _ _ H'' H'' [.sl o' 1 (cT (acc++[s]))] nofun (by simp(disch:=first|omega|assumption) only[ir295,yH,Yt,go_sem]) (Low.refl _) (fin o' H'' _ (by simp[ym,hh]) hs')
 have k8':(k=8)=False:=eq_false k8
 simp(disch:=first|omega|assumption) only[ir295,zE,k8,go_sem]
 by_cases k6:k=6
 ·subst k6
  refine zm l 5 (fun x:Own×List (List UInt8)=>[(1,.sl x.1 1 (cT x.2))]) (fun done rest x H'=>Zx rest x.2=Zx l acc∧x.2.length+bVs rest≤acc.length+bVs l∧OwnS H o H' x.1 x.2.length 1) (o,acc) (by simp(disch:=first|omega|assumption) only[go_sem]) ⟨rfl,by simp,OwnS.refl ho⟩ ?_ ?_
  ·rintro⟨o1,a⟩ H' J ⟨hn,_,hs⟩ hlt
   simp only[Zx] at hn
   subst hn
   simp(disch:=first|omega|assumption) only[h1,hlt,go_sem]
   refine yO (fun _:Unit=>[]) (fun _ H2=>H2=H') (fun _=>0) () (by simp(disch:=first|omega|assumption) only[go_sem]) rfl ?_
   rintro _ H2 J2 rfl _
   have fin:ziR H o 1 (cT (ym (.mk 6 n s l m) acc)) (.sl o1 1 (cT (Zx l acc))) H2:=⟨o1,by simp[ym],by simpa[ym,y0] using hs⟩
   by_cases hy:(0:Int)<m.length
   ·simp(disch:=first|omega|assumption) only[h2,hy,go_sem]
    exact hQ _ _ H2 H2 [.sl o1 1 (cT (Zx l acc))] nofun (by simp(disch:=first|omega|assumption) only[ir295,yH,Yt,go_sem]) (Low.refl _) fin
   ·simp(disch:=first|omega|assumption) only[h2,hy,go_sem]
    exact hQ _ _ H2 H2 [.sl o1 1 (cT (Zx l acc))] nofun (by simp(disch:=first|omega|assumption) only[ir295,yH,Yt,go_sem]) (Low.refl _) fin
  ·rintro done x rest ⟨o1,a⟩ H' J hd hlt _ ⟨hn,hle,hs⟩ hJ
   have hg:=Zb hd
   have hx:=zbe x a
   simp only[Zx,bVs] at hn hle
   simp(disch:=first|omega|assumption) only[zi,zf,zb,zj,zg,za,zk,h1,hlt,hg,go_sem]
   refine Zh (ihl x (by rw[hd];simp) a _ o1 (by simp only[Lim];omega) hs.own) fun o2 H2 hs2=>?_
   rw[y0] at hs2
   simp(disch:=first|omega|assumption) only[wrap64,go_sem]
   exact goJ (hJ (o2,ym x a) H2 ⟨hn,by simp only;omega,hs.trans hs2⟩) (by simp(disch:=first|omega|assumption) only[go_sem])
 refine yO (fun _:Unit=>[]) (fun _ H2=>H2=H) (fun _=>0) () (by simp(disch:=first|omega|assumption) only[go_sem]) rfl ?_
 rintro _ H1 J rfl _
 have run2:∀(P:Prop),P→P:=fun _ h=>h
 by_cases k7:k=7
 ·subst k7
  by_cases hz:(0:Int)<l.length
  all_goals
   simp(disch:=first|omega|assumption) only[h1,hz,go_sem]
   refine zm m 6 (fun x:Own×List (List UInt8)=>[(1,.sl x.1 1 (cT x.2))]) (fun done rest x H'=>ZH rest x.2=ZH m acc∧x.2.length+bMs rest≤acc.length+bMs m∧OwnS H1 o H' x.1 x.2.length 1) (o,acc) (by simp(disch:=first|omega|assumption) only[go_sem]) ⟨rfl,by simp,OwnS.refl ho⟩ ?_ ?_
   ·rintro⟨o1,a⟩ H' J ⟨hn,_,hs⟩ hlt
    simp only[ZH] at hn
    subst hn
    simp(disch:=first|omega|assumption) only[h2,hlt,go_sem]
    have fin:ziR H1 o 1 (cT (ym (.mk 7 n s l m) acc)) (.sl o1 1 (cT (ZH m acc))) H':=⟨o1,by simp[ym],by simpa[ym,y0] using hs⟩
    exact hQ _ _ H' H' [.sl o1 1 (cT (ZH m acc))] nofun (by simp(disch:=first|omega|assumption) only[ir295,yH,Yt,go_sem]) (Low.refl _) fin
   ·rintro done x rest ⟨o1,a⟩ H' J hd hlt _ ⟨hn,hle,hs⟩ hJ
    have hg:=yT hd
    have hx:=zdq x a
    simp only[ZH,bMs] at hn hle
    have hmem:x∈m:=by rw[hd];simp
    obtain⟨t,v⟩:=x
    simp only[zeM,bM] at hx hn hle
    simp(disch:=first|omega|assumption) only[zi,zf,zb,zj,zg,za,zk,h2,hlt,hg,go_sem]
    refine Zh (ihm t v hmem a _ o1 (by simp only[Lim];omega) hs.own) fun o2 H2 hs2=>?_
    rw[y0] at hs2
    simp(disch:=first|omega|assumption) only[wrap64,go_sem]
    exact goJ (hJ (o2,ym v a) H2 ⟨hn,by simp only;omega,hs.trans hs2⟩) (by simp(disch:=first|omega|assumption) only[go_sem])
 have fin:ziR H1 o 1 (cT (ym (.mk k n s l m) acc)) (.sl o 1 (cT acc)) H1:=⟨o,by simp[ym,k8,k6,k7],by simpa[ym,k8,k6,k7,y0] using OwnS.refl ho⟩
 by_cases hz:(0:Int)<l.length
 all_goals
  simp(disch:=first|omega|assumption) only[h1,hz,k6,go_sem]
  refine yO (fun _:Unit=>[]) (fun _ H2=>H2=H1) (fun _=>0) () (by simp(disch:=first|omega|assumption) only[go_sem]) rfl ?_
  rintro _ H2 J2 rfl _
  by_cases hy:(0:Int)<m.length
  ·simp(disch:=first|omega|assumption) only[h2,hy,k7,go_sem]
   exact hQ _ _ H2 H2 [.sl o 1 (cT acc)] nofun (by simp(disch:=first|omega|assumption) only[ir295,yH,Yt,go_sem]) (Low.refl _) fin
  ·simp(disch:=first|omega|assumption) only[h2,hy,go_sem]
   exact hQ _ _ H2 H2 [.sl o 1 (cT acc)] nofun (by simp(disch:=first|omega|assumption) only[ir295,yH,Yt,go_sem]) (Low.refl _) fin
theorem zmQ (v:Val) (h:bV v≤Lim):zo Tryz.prog 60 [.agg (cV v)] (.sl .no 1 (cT (ym v []))):=by
 refine zo.go ir60 ck60 (Al4 _) fun KP Q hQ=>?_
 simp(disch:=first|omega|assumption) only[zi,zf,zb,zj,zg,za,zk,ir60,go_sem]
 refine Zh (zm5 v [] _ .nil (by simpa using h) rfl) fun o' H' hs=>?_
 simp(disch:=first|omega|assumption) only[go_sem]
 exact hQ _ _ _ _ nofun rfl (by simp[ze,zd,AV.strip,AV.strip1])
theorem zmX (v:Val) (h:bV v≤Lim):zo Tryz.prog 244 [.agg (cV v)] (.sl .no 1 (cT (ym v []))):=by
 refine zo.go ir244 ck244 (Al4 _) fun KP Q hQ=>?_
 simp(disch:=first|omega|assumption) only[zi,zf,zb,zj,zg,za,zk,ir244,go_sem]
 refine Zh (znG v [] _ .nil (by simpa using h) rfl) fun o' H' hs=>?_
 simp(disch:=first|omega|assumption) only[go_sem]
 exact hQ _ _ _ _ nofun rfl (by simp[ze,zd,AV.strip,AV.strip1])
def isD (c:UInt8):Bool:=decide (48≤c.toNat)&&decide (c.toNat≤57)
def isL (c:UInt8):Bool:=(decide (97≤c.toNat)&&decide (c.toNat≤122))||((decide (65≤c.toNat)&&decide (c.toNat≤90))||decide (c.toNat=95))
theorem zjD (c:UInt8):zo Tryz.prog 226 [.int .u8 (c.toNat:Int)] (.bool (isD c)):=by
 refine zo.go ir226 ck226 (Al4 _) fun KP Q hQ=>?_
 by_cases h:(48:Int)≤c.toNat
 ·simp(disch:=first|omega|assumption) only[ir226,h,go_sem]
  have h':48≤c.toNat:=by omega
  have e:decide ((c.toNat:Int)≤57)=decide (c.toNat≤57):=by rw[decide_eq_decide];omega
  exact hQ _ _ _ _ nofun rfl (by simp[ze,zd,AV.strip,AV.strip1,isD,h',e])
 ·simp(disch:=first|omega|assumption) only[ir226,h,go_sem]
  have h':¬ 48≤c.toNat:=by omega
  exact hQ _ _ _ _ nofun rfl (by simp[ze,zd,AV.strip,AV.strip1,isD,h'])
theorem zjd (c:UInt8):zo Tryz.prog 148 [.int .u8 (c.toNat:Int)] (.bool (isD c)):=by
 refine zo.go ir148 ck148 (Al4 _) fun KP Q hQ=>?_
 by_cases h:(48:Int)≤c.toNat
 ·simp(disch:=first|omega|assumption) only[ir148,h,go_sem]
  have h':48≤c.toNat:=by omega
  have e:decide ((c.toNat:Int)≤57)=decide (c.toNat≤57):=by rw[decide_eq_decide];omega
  exact hQ _ _ _ _ nofun rfl (by simp[ze,zd,AV.strip,AV.strip1,isD,h',e])
 ·simp(disch:=first|omega|assumption) only[ir148,h,go_sem]
  have h':¬ 48≤c.toNat:=by omega
  exact hQ _ _ _ _ nofun rfl (by simp[ze,zd,AV.strip,AV.strip1,isD,h'])
theorem zk8 (c:UInt8):zo Tryz.prog 223 [.int .u8 (c.toNat:Int)] (.bool (isL c)):=by
 refine zo.go ir223 ck223 (Al4 _) fun KP Q hQ=>?_
 have e:decide ((c.toNat:Int)=95)=decide (c.toNat=95):=by rw[decide_eq_decide];omega
 by_cases h:(97:Int)≤c.toNat
 ·have h':97≤c.toNat:=by omega
  by_cases h2:(c.toNat:Int)≤122
  ·have h2':c.toNat≤122:=by omega
   simp(disch:=first|omega|assumption) only[ir223,h,h2,go_sem]
   exact hQ _ _ _ _ nofun rfl (by simp[ze,zd,AV.strip,AV.strip1,isL,h',h2'])
  ·have h2':¬ c.toNat≤122:=by omega
   have h3:(65:Int)≤c.toNat:=by omega
   have h4:¬ (c.toNat:Int)≤90:=by omega
   have h4':¬ c.toNat≤90:=by omega
   simp(disch:=first|omega|assumption) only[ir223,h,h2,h3,h4,go_sem]
   exact hQ _ _ _ _ nofun rfl (by simp[ze,zd,AV.strip,AV.strip1,isL,h',h2',h4',e])
 ·have h':¬ 97≤c.toNat:=by omega
  by_cases h3:(65:Int)≤c.toNat
  ·have h3':65≤c.toNat:=by omega
   by_cases h4:(c.toNat:Int)≤90
   ·have h4':c.toNat≤90:=by omega
    simp(disch:=first|omega|assumption) only[ir223,h,h3,h4,go_sem]
    exact hQ _ _ _ _ nofun rfl (by simp[ze,zd,AV.strip,AV.strip1,isL,h',h3',h4'])
   ·have h4':¬ c.toNat≤90:=by omega
    simp(disch:=first|omega|assumption) only[ir223,h,h3,h4,go_sem]
    exact hQ _ _ _ _ nofun rfl (by simp[ze,zd,AV.strip,AV.strip1,isL,h',h3',h4',e])
  ·have h3':¬ 65≤c.toNat:=by omega
   simp(disch:=first|omega|assumption) only[ir223,h,h3,go_sem]
   exact hQ _ _ _ _ nofun rfl (by simp[ze,zd,AV.strip,AV.strip1,isL,h',h3',e])
theorem zhz (c:UInt8):zo Tryz.prog 147 [.int .u8 (c.toNat:Int)] (.bool (isL c)):=by
 refine zo.go ir147 ck147 (Al4 _) fun KP Q hQ=>?_
 have e:decide ((c.toNat:Int)=95)=decide (c.toNat=95):=by rw[decide_eq_decide];omega
 by_cases h:(97:Int)≤c.toNat
 ·have h':97≤c.toNat:=by omega
  by_cases h2:(c.toNat:Int)≤122
  ·have h2':c.toNat≤122:=by omega
   simp(disch:=first|omega|assumption) only[ir147,h,h2,go_sem]
   exact hQ _ _ _ _ nofun rfl (by simp[ze,zd,AV.strip,AV.strip1,isL,h',h2'])
  ·have h2':¬ c.toNat≤122:=by omega
   have h3:(65:Int)≤c.toNat:=by omega
   have h4:¬ (c.toNat:Int)≤90:=by omega
   have h4':¬ c.toNat≤90:=by omega
   simp(disch:=first|omega|assumption) only[ir147,h,h2,h3,h4,go_sem]
   exact hQ _ _ _ _ nofun rfl (by simp[ze,zd,AV.strip,AV.strip1,isL,h',h2',h4',e])
 ·have h':¬ 97≤c.toNat:=by omega
  by_cases h3:(65:Int)≤c.toNat
  ·have h3':65≤c.toNat:=by omega
   by_cases h4:(c.toNat:Int)≤90
   ·have h4':c.toNat≤90:=by omega
    simp(disch:=first|omega|assumption) only[ir147,h,h3,h4,go_sem]
    exact hQ _ _ _ _ nofun rfl (by simp[ze,zd,AV.strip,AV.strip1,isL,h',h3',h4'])
   ·have h4':¬ c.toNat≤90:=by omega
    simp(disch:=first|omega|assumption) only[ir147,h,h3,h4,go_sem]
    exact hQ _ _ _ _ nofun rfl (by simp[ze,zd,AV.strip,AV.strip1,isL,h',h3',h4',e])
  ·have h3':¬ 65≤c.toNat:=by omega
   simp(disch:=first|omega|assumption) only[ir147,h,h3,go_sem]
   exact hQ _ _ _ _ nofun rfl (by simp[ze,zd,AV.strip,AV.strip1,isL,h',h3',e])
def Yl:List UInt8→Nat→Bool
 | [],_=>true
 | c::r,i=>if isL c||(decide (i≠0)&&isD c) then Yl r (i+1) else false
def zJ (s:List UInt8):Bool:=Yl s 0&&decide (s≠[])
theorem zfc {s a:List UInt8} {x:UInt8} {b:List UInt8} (h:s=a++x::b):s.getD a.length 0=x:=by subst h;simp
theorem zeH (s:List UInt8) (hs:s.length≤Lim):zo Tryz.prog 203 [.str s] (.bool (zJ s)):=by
 refine zo.go ir203 ck203 (Al4 _) fun KP Q hQ=>?_
 simp only[Lim] at hs
 simp(disch:=first|omega|assumption) only[ir203,go_sem]
 refine zm s 6 (fun _:Unit=>[]) (fun done rest n H=>Yl rest done.length=Yl s 0) () (by simp(disch:=first|omega|assumption) only[go_sem]) rfl ?_ ?_
 ·rintro n H J hn hlt
  simp only[Yl] at hn
  simp(disch:=first|omega|assumption) only[hlt,go_sem]
  have e:(!decide (s=[]))=decide (s≠[]):=by simp
  exact hQ _ _ _ _ nofun rfl (by simp[ze,zd,AV.strip,AV.strip1,zJ,← hn])
 ·rintro done x rest n H J hd hlt _ hn hJ
  have hg:=zfc hd
  simp only[Yl] at hn
  simp(disch:=first|omega|assumption) only[hlt,hg,go_sem]
  refine zc (zk8 x) ?_
  cases hl:isL x with
  | true =>
   simp only[hl,Bool.true_or,if_true] at hn
   simp(disch:=first|omega|assumption) only[hl,go_sem]
   exact goJ (hJ () _ (by simpa using hn)) (by simp(disch:=first|omega|assumption) only[wrap64,go_sem])
  | false =>
   by_cases h0:done.length=0
   ·have h0':(done.length:Int)=0:=by omega
    simp only[hl,h0,ne_eq,not_true_eq_false,decide_false,Bool.false_and,Bool.or_false,Al7,if_false] at hn
    simp(disch:=first|omega|assumption) only[hl,h0',go_sem]
    exact hQ _ _ _ _ nofun rfl (by simp[ze,zd,AV.strip,AV.strip1,zJ,← hn])
   ·have h0':¬ (done.length:Int)=0:=by omega
    simp(disch:=first|omega|assumption) only[hl,h0',hlt,hg,go_sem]
    refine zc (zjD x) ?_
    cases hdg:isD x with
    | true =>
     simp only[hl,hdg,h0,ne_eq,not_false_eq_true,decide_true,Bool.and_self,Bool.or_true,if_true] at hn
     simp(disch:=first|omega|assumption) only[hdg,go_sem]
     exact goJ (hJ () _ (by simpa using hn)) (by simp(disch:=first|omega|assumption) only[wrap64,go_sem])
    | false =>
     simp only[hl,hdg,Bool.and_false,Bool.or_false,Al7,if_false] at hn
     simp(disch:=first|omega|assumption) only[hdg,go_sem]
     exact hQ _ _ _ _ nofun rfl (by simp[ze,zd,AV.strip,AV.strip1,zJ,← hn])
theorem ZC (s:List UInt8) (hs:s.length≤Lim):zo Tryz.prog 79 [.str s] (.bool (zJ s)):=by
 refine zo.go ir79 ck79 (Al4 _) fun KP Q hQ=>?_
 simp only[Lim] at hs
 cases s with
 | nil =>
  simp(disch:=first|omega|assumption) only[ir79,go_sem]
  exact hQ _ _ _ _ nofun rfl (by simp[ze,zd,AV.strip,AV.strip1,zJ,Yl])
 | cons c r =>
  have hne:¬ (c::r=[]):=by simp
  have hp:(0:Int)<((c::r).length:Nat):=by simp
  simp(disch:=first|omega|assumption) only[ir79,hne,hp,go_sem]
  refine zc (zhz c) ?_
  cases hl:isL c with
  | false =>
   simp(disch:=first|omega|assumption) only[hl,go_sem]
   exact hQ _ _ _ _ nofun rfl (by simp[ze,zd,AV.strip,AV.strip1,zJ,Yl,hl])
  | true =>
   simp(disch:=first|omega|assumption) only[hl,go_sem]
   have hm:zJ (c::r)=Yl r 1:=by simp[zJ,Yl,hl]
   refine yO (fun x:List UInt8×List UInt8=>[(3,.int .i64 ((x.1.length:Int)+1))]) (fun x H=>r=x.1++x.2∧Yl x.2 (x.1.length+1)=Yl r 1) (fun x=>x.2.length) ([],r) (by simp(disch:=first|omega|assumption) only[go_sem]) ⟨rfl,rfl⟩ ?_
   rintro⟨done,rest⟩ H J ⟨hd,hn⟩ hJ
   simp only at hd hn hJ ⊢
   have hlen:r.length=done.length+rest.length:=by rw[hd];simp
   simp only[Al2] at hs
   have hL:(((c::r).length:Nat):Int)=done.length+rest.length+1:=by simp[hlen]
   cases rest with
   | nil =>
    have hlt:¬ ((done.length:Int)+1<((r.length+1:Nat):Int)):=by simp at hlen;omega
    simp only[Yl] at hn
    simp(disch:=first|omega|assumption) only[hlt,go_sem]
    exact hQ _ _ _ _ nofun rfl (by simp[ze,zd,AV.strip,AV.strip1,hm,← hn])
   | cons x t =>
    simp only[Al2] at hlen
    have hlt:((done.length:Int)+1<((r.length+1:Nat):Int)):=by omega
    have hlt0:(0:Int)≤(done.length:Int)+1:=by omega
    have hto:((done.length:Int)+1).toNat=done.length+1:=by omega
    have hg:r.getD done.length 0=x:=zfc hd
    simp only[Yl] at hn
    simp(disch:=first|omega|assumption) only[hlt,hlt0,hto,hg,go_sem]
    refine zc (zhz x) ?_
    have hd':r=(done++[x])++t:=by rw[hd];simp
    cases hlx:isL x with
    | true =>
     simp only[hlx,Bool.true_or,if_true] at hn
     simp(disch:=first|omega|assumption) only[hlx,go_sem]
     refine goJ (hJ (done++[x],t) _ (by simp) ⟨hd',by simpa using hn⟩) (by simp(disch:=first|omega|assumption) only[wrap64,Al5,Int.natCast_add,Int.natCast_one,go_sem])
    | false =>
     simp(disch:=first|omega|assumption) only[hlx,hlt,hlt0,hto,hg,go_sem]
     refine zc (zjd x) ?_
     cases hdg:isD x with
     | true =>
      have h0:done.length+1≠0:=by omega
      simp only[hlx,hdg,h0,ne_eq,not_false_eq_true,decide_true,Bool.and_self,Bool.or_true,if_true] at hn
      simp(disch:=first|omega|assumption) only[hdg,go_sem]
      refine goJ (hJ (done++[x],t) _ (by simp) ⟨hd',by simpa using hn⟩) (by simp(disch:=first|omega|assumption) only[wrap64,Al5,Int.natCast_add,Int.natCast_one,go_sem])
     | false =>
      simp only[hlx,hdg,Bool.and_false,Bool.or_false,Al7,if_false] at hn
      simp(disch:=first|omega|assumption) only[hdg,go_sem]
      exact hQ _ _ _ _ nofun rfl (by simp[ze,zd,AV.strip,AV.strip1,hm,← hn])
def yj:List UInt8→Nat
 | []=>0
 | c::r=>if isD c then yj r+1 else 0
theorem Zk:∀ l,yj l≤l.length
 | []=>Al4 _
 | c::r=>by have:=Zk r;simp only[yj,Al2];split<;>omega
theorem ZG (s:List UInt8) (k:Nat):(s.drop k=[]∧s.length≤k)∨(k<s.length∧s.drop k=s.getD k 0::s.drop (k+1)):=by
 rcases Nat.lt_or_ge k s.length with h|h
 ·right
  refine⟨h,?_⟩
  rw[List.drop_eq_getElem_cons h]
  simp[h]
 ·left;exact⟨List.drop_of_length_le h,h⟩
theorem ZM (s:List UInt8) (hs:s.length≤Lim):zo Tryz.prog 285 [.str s] (.int .i64 (yj s)):=by
 refine zo.go ir285 ck285 (Al4 _) fun KP Q hQ=>?_
 simp only[Lim] at hs
 have hr1:=Zk s
 simp(disch:=first|omega|assumption) only[ir285,go_sem]
 refine yO (fun n:Nat=>[(3,.int .i64 n)]) (fun n H=>yj s=n+yj (s.drop n)∧n≤s.length) (fun n=>s.length-n) 0 (by simp(disch:=first|omega|assumption) only[go_sem]) ⟨by simp,by omega⟩ ?_
 rintro n H J ⟨hn,hle⟩ hJ
 rcases ZG s n with ⟨h1,h2⟩|⟨h1,h2⟩
 ·have hlt:¬ ((n:Int)<s.length):=by omega
  rw[h1] at hn
  simp only[yj,Nat.add_zero] at hn
  simp(disch:=first|omega|assumption) only[hlt,go_sem]
  exact hQ _ _ _ _ nofun rfl (by simp[ze,zd,AV.strip,AV.strip1,hn])
 ·have hlt:((n:Int)<s.length):=by omega
  rw[h2] at hn
  simp only[yj] at hn
  simp(disch:=first|omega|assumption) only[hlt,go_sem]
  refine zc (zjD (s.getD n 0)) ?_
  cases hd:isD (s.getD n 0) with
  | true =>
   simp only[hd,if_true] at hn
   simp(disch:=first|omega|assumption) only[hd,go_sem]
   exact goJ (hJ (n+1) _ (by omega) ⟨by omega,by omega⟩) (by simp(disch:=first|omega|assumption) only[wrap64,Int.natCast_add,Int.natCast_one,go_sem])
  | false =>
   simp only[hd,Al7,if_false,Nat.add_zero] at hn
   simp(disch:=first|omega|assumption) only[hd,go_sem]
   exact hQ _ _ _ _ nofun rfl (by simp[ze,zd,AV.strip,AV.strip1,hn])
theorem zke (s:List UInt8) (i:Int) (h0:0≤i) (h1:i≤s.length) (hs:s.length≤Lim):zo Tryz.prog 305 [.str s,.int .i64 i] (.int .i64 (yj (s.drop i.toNat))):=by
 obtain⟨k,rfl⟩:∃ k:Nat,i=k:=⟨i.toNat,by omega⟩
 refine zo.go ir305 ck305 (Al4 _) fun KP Q hQ=>?_
 simp only[Lim] at hs
 have hr1:=Zk (s.drop k)
 rw[zaL] at hr1
 simp(disch:=first|omega|assumption) only[ir305,go_sem]
 refine yO (fun n:Nat=>[(5,.int .i64 n)]) (fun n H=>yj (s.drop k)=n+yj (s.drop (k+n))∧k+n≤s.length) (fun n=>s.length-n) 0 (by simp(disch:=first|omega|assumption) only[go_sem]) ⟨by simp,by omega⟩ ?_
 rintro n H J ⟨hn,hle⟩ hJ
 have hto:((k:Int)+n).toNat=k+n:=by omega
 have hnn:(0:Int)≤(k:Int)+n:=by omega
 rcases ZG s (k+n) with ⟨h1,h2⟩|⟨h1,h2⟩
 ·have hlt:¬ ((k:Int)+n<s.length):=by omega
  rw[h1] at hn
  simp only[yj,Nat.add_zero] at hn
  simp(disch:=first|omega|assumption) only[hlt,wrap64,go_sem]
  exact hQ _ _ _ _ nofun rfl (by simp[ze,zd,AV.strip,AV.strip1,hn])
 ·have hlt:((k:Int)+n<s.length):=by omega
  rw[h2] at hn
  simp only[yj] at hn
  simp(disch:=first|omega|assumption) only[hlt,wrap64,hto,hnn,go_sem]
  refine zc (zjd (s.getD (k+n) 0)) ?_
  cases hd:isD (s.getD (k+n) 0) with
  | true =>
   simp only[hd,if_true] at hn
   simp(disch:=first|omega|assumption) only[hd,go_sem]
   exact goJ (hJ (n+1) _ (by omega) ⟨by rw[← Nat.add_assoc];omega,by omega⟩) (by simp(disch:=first|omega|assumption) only[wrap64,Int.natCast_add,Int.natCast_one,go_sem])
  | false =>
   simp only[hd,Al7,if_false,Nat.add_zero] at hn
   simp(disch:=first|omega|assumption) only[hd,go_sem]
   exact hQ _ _ _ _ nofun rfl (by simp[ze,zd,AV.strip,AV.strip1,hn])
theorem zh4 (c:UInt8) (s:List UInt8):[c].isPrefixOf s=decide (s.head?=some c):=by
 cases s with
 | nil=>rfl
 | cons d r =>
  by_cases h:d=c
  ·subst h;simp[List.isPrefixOf]
  ·have h':¬ c=d:=fun e=>h e.symm
   simp[List.isPrefixOf,h,h']
def Z7 (s:List UInt8):Nat:=if yj s=0 then 0 else if s.getD 0 0=48 then 1 else yj s
def yh (s:List UInt8):Nat:=if s.head?=some 45 then (if yj s.tail=0 then 0 else 1+Z7 s.tail) else Z7 s
theorem zia (s:List UInt8):Z7 s≤s.length:=by have:=Zk s;unfold Z7;split<;>(try split)<;>omega
theorem zjl {s:List UInt8} (h:yj s≠0):0<Z7 s:=by unfold Z7;simp only[h,if_false];split<;>omega
theorem zes (s:List UInt8):yh s≤s.length:=by
 have h1:=zia s
 have h2:=zia s.tail
 unfold yh
 split
 ·rename_i h
  cases s with
  | nil=>simp at h
  | cons c r =>
   simp only[List.tail_cons,Al2] at h2 ⊢
   by_cases h0:yj r=0<;>simp only[h0,if_true,if_false]<;>omega
 ·exact h1
theorem zm2 {a b:UInt8}:((a.toNat:Int)=(b.toNat:Int))=(a=b):=by
 apply propext
 rw[Int.natCast_inj]
 exact UInt8.toNat_inj
theorem zd3 (a:UInt8) (n:Nat) (hn:n<256):decide ((a.toNat:Int)=n)=decide (a=UInt8.ofNat n):=by
 rw[decide_eq_decide]
 have:(UInt8.ofNat n).toNat=n:=by simp[UInt8.toNat_ofNat'];omega
 constructor
 ·intro h;apply UInt8.toNat_inj.1;rw[this];omega
 ·intro h;subst h;rw[this]
theorem zmA (s:List UInt8) (hs:s.length≤Lim):zo Tryz.prog 284 [.str s] (.int .i64 (yh s)):=by
 refine zo.go ir284 ck284 (Al4 _) fun KP Q hQ=>?_
 simp only[Lim] at hs
 simp(disch:=first|omega|assumption) only[ir284,go_sem]
 refine zc (zh8 s [45]) ?_
 rw[zh4]
 by_cases h:s.head?=some 45
 ·cases s with
  | nil=>simp at h
  | cons c r =>
   have hc:c=45:=by simpa using h
   subst hc
   simp only[Al2] at hs
   have h1:(1:Int)≤((r.length+1:Nat):Int):=by omega
   have h2:(1:Int)<((r.length+1:Nat):Int)∨r=[]:=by cases r<;>simp;omega
   simp(disch:=first|omega|assumption) only[h,h1,Int.toNat_one,go_sem]
   refine zc (ZM r (by simp only[Lim];omega)) ?_
   by_cases h0:yj r=0
   ·simp(disch:=first|omega|assumption) only[h0,go_sem]
    exact hQ _ _ _ _ nofun rfl (by simp[ze,zd,AV.strip,AV.strip1,yh,h0])
   ·have h0':¬ ((yj r:Int)=0):=by omega
    have hrl:=Zk r
    have hlt:(1:Int)<((r.length+1:Nat):Int):=by omega
    have e:=zd3 (r.getD 0 0) 48 (by omega)
    by_cases h48:r.getD 0 0=48
    ·have hi:Z7 r=1:=by simp only[Z7,h0,h48,if_false,if_true]
     simp(disch:=first|omega|assumption) only[h0',hlt,Int.toNat_one,h48,UInt8.reduceToNat,wrap64,go_sem]
     exact hQ _ _ _ _ nofun rfl (by simp[ze,zd,AV.strip,AV.strip1,yh,h0,hi])
    ·have h48':¬ ((r.getD 0 0).toNat:Int)=48:=by
      intro hh
      rw[decide_eq_true (by exact hh)] at e
      exact h48 (by simpa using e.symm)
     have hi:Z7 r=yj r:=by simp only[Z7,h0,h48,if_false]
     simp(disch:=first|omega|assumption) only[h0',hlt,Int.toNat_one,h48',wrap64,go_sem]
     exact hQ _ _ _ _ nofun rfl (by simp[ze,zd,AV.strip,AV.strip1,yh,h0,hi])
 ·simp(disch:=first|omega|assumption) only[h,go_sem]
  refine zc (ZM s (by simp only[Lim];omega)) ?_
  by_cases h0:yj s=0
  ·simp(disch:=first|omega|assumption) only[h0,go_sem]
   exact hQ _ _ _ _ nofun rfl (by simp[ze,zd,AV.strip,AV.strip1,yh,h,Z7,h0])
  ·have h0':¬ ((yj s:Int)=0):=by omega
   have hrl:=Zk s
   have hlt:(0:Int)<(s.length:Int):=by omega
   have e:=zd3 (s.getD 0 0) 48 (by omega)
   by_cases h48:s.getD 0 0=48
   ·have hi:Z7 s=1:=by simp only[Z7,h0,h48,if_false,if_true]
    simp(disch:=first|omega|assumption) only[h0',hlt,h48,UInt8.reduceToNat,wrap64,go_sem]
    exact hQ _ _ _ _ nofun rfl (by simp[ze,zd,AV.strip,AV.strip1,yh,h,hi])
   ·have h48':¬ ((s.getD 0 0).toNat:Int)=48:=by
     intro hh
     rw[decide_eq_true (by exact hh)] at e
     exact h48 (by simpa using e.symm)
    have hi:Z7 s=yj s:=by simp only[Z7,h0,h48,if_false]
    simp(disch:=first|omega|assumption) only[h0',hlt,h48',wrap64,go_sem]
    exact hQ _ _ _ _ nofun rfl (by simp[ze,zd,AV.strip,AV.strip1,yh,h,hi])
def isE (c:UInt8):Bool:=decide (c=101)||decide (c=69)
def sgN (r:List UInt8):Nat:=if r.head?=some 43∨r.head?=some 45 then 1 else 0
def Yr:List UInt8→Nat
 | []=>0
 | c::r=>if isE c then (if yj (r.drop (sgN r))=0 then 0 else 1+sgN r+yj (r.drop (sgN r))) else 0
theorem zgN (r:List UInt8):sgN r≤r.length:=by
 unfold sgN
 split
 ·cases r<;>simp_all
 ·omega
theorem zh2:∀ s,Yr s≤s.length
 | []=>by simp[Yr]
 | c::r=>by
  have h:=Zk (r.drop (sgN r))
  have h2:=zgN r
  rw[zaL] at h
  simp only[Yr,Al2]
  split
  ·split<;>omega
  ·omega
theorem zhh (s:List UInt8) (hs:s.length≤Lim):zo Tryz.prog 286 [.str s] (.int .i64 (Yr s)):=by
 refine zo.go ir286 ck286 (Al4 _) fun KP Q hQ=>?_
 simp only[Lim] at hs
 cases s with
 | nil =>
  simp(disch:=first|omega|assumption) only[ir286,go_sem]
  exact hQ _ _ _ _ nofun rfl (by simp[ze,zd,AV.strip,AV.strip1,Yr])
 | cons c r =>
  simp only[Al2] at hs
  have hne:¬ (c::r=[]):=by simp
  have hp:(0:Int)<((r.length+1:Nat):Int):=by omega
  have e1:=zd3 c 101 (by omega)
  have e2:=zd3 c 69 (by omega)
  have hE:∀(P:Prop),P→P:=fun _ h=>h
  by_cases hc:isE c=true
  case neg =>
   have hc1:¬ (c.toNat:Int)=101:=by
    intro hh;rw[decide_eq_true (by exact hh)] at e1
    exact hc (by simp[isE,(by simpa using e1.symm:c=101)])
   have hc2:¬ (c.toNat:Int)=69:=by
    intro hh;rw[decide_eq_true (by exact hh)] at e2
    exact hc (by simp[isE,(by simpa using e2.symm:c=69)])
   simp(disch:=first|omega|assumption) only[ir286,hne,hp,hc1,hc2,go_sem]
   have hcf:isE c=false:=by simpa using hc
   exact hQ _ _ _ _ nofun rfl (by simp[ze,zd,AV.strip,AV.strip1,Yr,hcf])
  have fin:∀ k:Nat,yj (r.drop (sgN r))=k→Yr (c::r)=if k=0 then 0 else 1+sgN r+k:=fun k hk=>by subst hk;simp only[Yr,hc,if_true]
  have hcase:(c.toNat:Int)=101∨(¬ (c.toNat:Int)=101∧(c.toNat:Int)=69):=by
   simp only[isE,zdt,yv] at hc
   rcases hc with rfl|rfl
   ·exact .inl rfl
   ·exact .inr ⟨by decide,rfl⟩
  have hdl:=Zk (r.drop (sgN r))
  rw[zaL] at hdl
  have hsl:=zgN r
  cases r with
  | nil =>
   have k0:=fin 0 (by simp[sgN,yj])
   rcases hcase with h1|⟨h1,h2⟩
   ·simp(disch:=first|omega|assumption) only[ir286,h1,go_sem]
    refine zc (ZM [] (by simp)) ?_
    simp(disch:=first|omega|assumption) only[yj,go_sem]
    exact hQ _ _ _ _ nofun rfl (by simp[ze,zd,AV.strip,AV.strip1,k0])
   ·simp(disch:=first|omega|assumption) only[ir286,h1,h2,go_sem]
    refine zc (ZM [] (by simp)) ?_
    simp(disch:=first|omega|assumption) only[yj,go_sem]
    exact hQ _ _ _ _ nofun rfl (by simp[ze,zd,AV.strip,AV.strip1,k0])
  | cons d t =>
   simp only[Al2] at hs
   have hl1:(1:Int)<((t.length+1+1:Nat):Int):=by omega
   have hl2:(2:Int)≤((t.length+1+1:Nat):Int):=by omega
   have hl3:(1:Int)≤((t.length+1+1:Nat):Int):=by omega
   have f1:=zd3 d 43 (by omega)
   have f2:=zd3 d 45 (by omega)
   by_cases hsg:d=43∨d=45
   ·have hsg1:sgN (d::t)=1:=by simp only[sgN,List.head?_cons,Al1,hsg,if_true]
    have k0:=fin (yj t) (by rw[hsg1];rfl)
    rw[hsg1] at k0 hdl
    have hd:(d.toNat:Int)=43∨(¬ (d.toNat:Int)=43∧(d.toNat:Int)=45):=by
     rcases hsg with rfl|rfl
     ·exact .inl rfl
     ·exact .inr ⟨by decide,rfl⟩
    rcases hcase with h1|⟨h1,h2⟩<;>rcases hd with h3|⟨h3,h4⟩
    all_goals
     simp only[hl1,hl2,Al2,List.drop_succ_cons,List.drop_zero] at hdl
    ·simp(disch:=first|omega|assumption) only[ir286,h1,h3,hl1,hl2,Int.toNat_one,go_sem]
     refine zc (ZM t (by simp only[Lim];omega)) ?_
     by_cases hz:yj t=0
     ·simp(disch:=first|omega|assumption) only[hz,go_sem]
      exact hQ _ _ _ _ nofun rfl (by simp[ze,zd,AV.strip,AV.strip1,k0,hz])
     ·have hz':¬ (yj t:Int)=0:=by omega
      simp(disch:=first|omega|assumption) only[hz',wrap64,go_sem]
      exact hQ _ _ _ _ nofun rfl (by simp[ze,zd,AV.strip,AV.strip1,k0,hz])
    ·simp(disch:=first|omega|assumption) only[ir286,h1,h3,h4,hl1,hl2,Int.toNat_one,go_sem]
     refine zc (ZM t (by simp only[Lim];omega)) ?_
     by_cases hz:yj t=0
     ·simp(disch:=first|omega|assumption) only[hz,go_sem]
      exact hQ _ _ _ _ nofun rfl (by simp[ze,zd,AV.strip,AV.strip1,k0,hz])
     ·have hz':¬ (yj t:Int)=0:=by omega
      simp(disch:=first|omega|assumption) only[hz',wrap64,go_sem]
      exact hQ _ _ _ _ nofun rfl (by simp[ze,zd,AV.strip,AV.strip1,k0,hz])
    ·simp(disch:=first|omega|assumption) only[ir286,h1,h2,h3,hl1,hl2,Int.toNat_one,go_sem]
     refine zc (ZM t (by simp only[Lim];omega)) ?_
     by_cases hz:yj t=0
     ·simp(disch:=first|omega|assumption) only[hz,go_sem]
      exact hQ _ _ _ _ nofun rfl (by simp[ze,zd,AV.strip,AV.strip1,k0,hz])
     ·have hz':¬ (yj t:Int)=0:=by omega
      simp(disch:=first|omega|assumption) only[hz',wrap64,go_sem]
      exact hQ _ _ _ _ nofun rfl (by simp[ze,zd,AV.strip,AV.strip1,k0,hz])
    ·simp(disch:=first|omega|assumption) only[ir286,h1,h2,h3,h4,hl1,hl2,Int.toNat_one,go_sem]
     refine zc (ZM t (by simp only[Lim];omega)) ?_
     by_cases hz:yj t=0
     ·simp(disch:=first|omega|assumption) only[hz,go_sem]
      exact hQ _ _ _ _ nofun rfl (by simp[ze,zd,AV.strip,AV.strip1,k0,hz])
     ·have hz':¬ (yj t:Int)=0:=by omega
      simp(disch:=first|omega|assumption) only[hz',wrap64,go_sem]
      exact hQ _ _ _ _ nofun rfl (by simp[ze,zd,AV.strip,AV.strip1,k0,hz])
   ·have hsg0:sgN (d::t)=0:=by simp only[sgN,List.head?_cons,Al1,hsg,if_false]
    have k0:=fin (yj (d::t)) (by rw[hsg0];rfl)
    rw[hsg0] at k0 hdl
    have h3:¬ (d.toNat:Int)=43:=by
     intro hh;rw[decide_eq_true (by exact hh)] at f1
     exact hsg (.inl (by simpa using f1.symm))
    have h4:¬ (d.toNat:Int)=45:=by
     intro hh;rw[decide_eq_true (by exact hh)] at f2
     exact hsg (.inr (by simpa using f2.symm))
    simp only[List.drop_zero,Al2] at hdl
    rcases hcase with h1|⟨h1,h2⟩
    ·simp(disch:=first|omega|assumption) only[ir286,h1,h3,h4,hl1,hl3,Int.toNat_one,go_sem]
     refine zc (ZM (d::t) (by simp only[Lim,Al2];omega)) ?_
     by_cases hz:yj (d::t)=0
     ·simp(disch:=first|omega|assumption) only[hz,go_sem]
      exact hQ _ _ _ _ nofun rfl (by simp[ze,zd,AV.strip,AV.strip1,k0,hz])
     ·have hz':¬ (yj (d::t):Int)=0:=by omega
      simp(disch:=first|omega|assumption) only[hz',wrap64,go_sem]
      exact hQ _ _ _ _ nofun rfl (by simp[ze,zd,AV.strip,AV.strip1,k0,hz])
    ·simp(disch:=first|omega|assumption) only[ir286,h1,h2,h3,h4,hl1,hl3,Int.toNat_one,go_sem]
     refine zc (ZM (d::t) (by simp only[Lim,Al2];omega)) ?_
     by_cases hz:yj (d::t)=0
     ·simp(disch:=first|omega|assumption) only[hz,go_sem]
      exact hQ _ _ _ _ nofun rfl (by simp[ze,zd,AV.strip,AV.strip1,k0,hz])
     ·have hz':¬ (yj (d::t):Int)=0:=by omega
      simp(disch:=first|omega|assumption) only[hz',wrap64,go_sem]
      exact hQ _ _ _ _ nofun rfl (by simp[ze,zd,AV.strip,AV.strip1,k0,hz])
def y5 (r:List UInt8):Nat:=if r.head?=some 46∧0<yj r.tail then 1+yj r.tail else 0
def Y0 (s:List UInt8):Nat×Int :=
 if yh s=0 then (0,0) else
  (yh s+y5 (s.drop (yh s))+Yr (s.drop (yh s+y5 (s.drop (yh s)))),if y5 (s.drop (yh s))=0∧Yr (s.drop (yh s+y5 (s.drop (yh s))))=0 then 3 else 4)
theorem zkv (r:List UInt8):y5 r≤r.length:=by
 unfold y5
 split
 ·rename_i h
  cases r with
  | nil=>simp at h
  | cons c t=>have:=Zk t;simp only[List.tail_cons,Al2];omega
 ·omega
theorem zkS (s:List UInt8) (hs:s.length≤Lim):zo Tryz.prog 225 [.str s] (.tup [.int .i64 (Y0 s).1,.int .i64 (Y0 s).2]):=by
 refine zo.go ir225 ck225 (Al4 _) fun KP Q hQ=>?_
 have hs':=hs
 simp only[Lim] at hs
 simp(disch:=first|omega|assumption) only[ir225,go_sem]
 refine zc (zmA s hs') ?_
 have hw:=zes s
 by_cases h0:yh s=0
 ·simp(disch:=first|omega|assumption) only[h0,go_sem]
  exact hQ _ _ _ _ nofun rfl (by simp[ze,zd,AV.strip,AV.strip1,Y0,h0])
 have h0':¬ ((yh s:Int)=0):=by omega
 have hwl:(yh s:Int)≤s.length:=by omega
 simp(disch:=first|omega|assumption) only[h0',hwl,go_sem]
 refine zc (zh8 (s.drop (yh s)) [46]) ?_
 rw[zh4]
 generalize hn:yh s=n at *
 have fin:∀ f p:Nat,y5 (s.drop n)=f→Yr (s.drop (n+f))=p→Y0 s=(n+f+p,if f=0∧p=0 then 3 else 4):=fun f p hf hp=>by
  unfold Y0
  rw[hn,hf,hp]
  simp only[h0,if_false]
 have hpl:=zh2 (s.drop n)
 rw[zaL] at hpl
 by_cases h46:(s.drop n).head?=some 46
 ·obtain⟨c,t,hct⟩:∃ c t,s.drop n=c::t:=by
   cases hx:s.drop n with
   | nil=>rw[hx] at h46;simp at h46
   | cons c t=>exact⟨c,t,rfl⟩
  have hlen:s.length=n+1+t.length:=by have:=congrArg List.length hct;simp at this;omega
  have hdr:s.drop (n+1)=t:=by rw[← List.drop_drop,hct];rfl
  have hto:((n:Int)+1).toNat=n+1:=by omega
  have hn1:(0:Int)≤(n:Int)+1:=by omega
  have hn2:(n:Int)+1≤s.length:=by omega
  have hrl:=Zk t
  simp(disch:=first|omega|assumption) only[h46,wrap64,hto,hn1,hn2,hdr,go_sem]
  refine zc (ZM t (by simp only[Lim];omega)) ?_
  by_cases hk:(0:Int)<yj t
  ·have hk':0<yj t:=by omega
   have hfr:y5 (s.drop n)=1+yj t:=by unfold y5;rw[if_pos ⟨h46,by rw[hct];exact hk'⟩,hct];rfl
   have hto2:((n:Int)+1+yj t).toNat=n+(1+yj t):=by omega
   have hn3:(0:Int)≤(n:Int)+1+yj t:=by omega
   have hn4:(n:Int)+1+yj t≤s.length:=by omega
   have hpl2:=zh2 (s.drop (n+(1+yj t)))
   rw[zaL] at hpl2
   simp(disch:=first|omega|assumption) only[hk,wrap64,hto2,hn3,hn4,go_sem]
   refine zc (zhh (s.drop (n+(1+yj t))) (by rw[zaL];simp only[Lim];omega)) ?_
   have hf:=fin _ _ hfr rfl
   generalize hp:Yr (s.drop (n+(1+yj t)))=p at *
   by_cases hp0:(0:Int)<p
   ·simp(disch:=first|omega|assumption) only[hp0,wrap64,go_sem]
    exact hQ _ _ _ _ nofun rfl (by simp[ze,zd,AV.strip,AV.strip1,hf,Int.add_assoc])
   ·have hp00:p=0:=by omega
    subst hp00
    simp(disch:=first|omega|assumption) only[go_sem]
    exact hQ _ _ _ _ nofun rfl (by simp[ze,zd,AV.strip,AV.strip1,hf,Int.add_assoc])
  ·have hk0:yj t=0:=by omega
   have hfr:y5 (s.drop n)=0:=by unfold y5;exact if_neg fun hh=>by have:=hh.2;rw[hct] at this;simp only[List.tail_cons] at this;omega
   simp(disch:=first|omega|assumption) only[hk,hwl,go_sem]
   refine zc (zhh (s.drop n) (by rw[zaL];simp only[Lim];omega)) ?_
   have hf:=fin _ _ hfr rfl
   rw[Nat.add_zero] at hf
   generalize hp:Yr (s.drop n)=p at *
   by_cases hp0:(0:Int)<p
   ·have hp1:¬ p=0:=by omega
    simp(disch:=first|omega|assumption) only[hp0,wrap64,go_sem]
    exact hQ _ _ _ _ nofun rfl (by simp[ze,zd,AV.strip,AV.strip1,hf,hp1])
   ·have hp00:p=0:=by omega
    subst hp00
    simp(disch:=first|omega|assumption) only[go_sem]
    exact hQ _ _ _ _ nofun rfl (by simp[ze,zd,AV.strip,AV.strip1,hf])
 ·have hfr:y5 (s.drop n)=0:=by unfold y5;exact if_neg fun hh=>h46 hh.1
  simp(disch:=first|omega|assumption) only[h46,hwl,go_sem]
  refine zc (zhh (s.drop n) (by rw[zaL];simp only[Lim];omega)) ?_
  have hf:=fin _ _ hfr rfl
  rw[Nat.add_zero] at hf
  generalize hp:Yr (s.drop n)=p at *
  by_cases hp0:(0:Int)<p
  ·have hp1:¬ p=0:=by omega
   simp(disch:=first|omega|assumption) only[hp0,wrap64,go_sem]
   exact hQ _ _ _ _ nofun rfl (by simp[ze,zd,AV.strip,AV.strip1,hf,hp1])
  ·have hp00:p=0:=by omega
   subst hp00
   simp(disch:=first|omega|assumption) only[go_sem]
   exact hQ _ _ _ _ nofun rfl (by simp[ze,zd,AV.strip,AV.strip1,hf])
def ZR (s:List UInt8):Int:=if (Y0 s).1=s.length then (Y0 s).2 else 0
theorem zb2 (s:List UInt8) (hs:s.length≤Lim):zo Tryz.prog 207 [.str s] (.int .i64 (ZR s)):=by
 refine zo.go ir207 ck207 (Al4 _) fun KP Q hQ=>?_
 simp(disch:=first|omega|assumption) only[ir207,go_sem]
 refine zc (zkS s hs) ?_
 by_cases h:(Y0 s).1=s.length
 ·have h':(((Y0 s).1:Int)=s.length)=True:=eq_true (by omega)
  simp(disch:=first|omega|assumption) only[h',go_sem]
  exact hQ _ _ _ _ nofun rfl (by simp[ze,zd,AV.strip,AV.strip1,ZR,h])
 ·have h':¬ ((Y0 s).1:Int)=s.length:=by omega
  simp(disch:=first|omega|assumption) only[h',go_sem]
  exact hQ _ _ _ _ nofun rfl (by simp[ze,zd,AV.strip,AV.strip1,ZR,h])
def okI:Lib.NumEnd Int→Bool
 | .ok _=>true
 | _=>false
def zkE (s:List UInt8):Int:=match Lib.parseIntB 64 s with
 | .ok v=>v
 | Lib.NumEnd.syntax=>0
 | .range=>Lib.intSat 64 s
def zcs (s:List UInt8):Bool:=okI (Lib.parseIntB 64 s)&&decide (ZR s=3)
theorem zmy (s:List UInt8) (hs:s.length≤Lim):zo Tryz.prog 176 [.str s] (.tup [.int .i64 (zkE s),.bool (zcs s)]):=by
 refine zo.go ir176 ck176 (Al4 _) fun KP Q hQ=>?_
 simp(disch:=first|omega|assumption) only[ir176,go_sem]
 refine zc (ziq s (by simp only[Lim] at hs;omega)) ?_
 rcases hp:Lib.parseIntB 64 s with v|_|_
 ·simp(disch:=first|omega|assumption) only[zdp,hp,go_sem]
  refine zc (zb2 s hs) ?_
  simp(disch:=first|omega|assumption) only[go_sem]
  exact hQ _ _ _ _ nofun rfl (by simp[ze,zd,AV.strip,AV.strip1,zkE,zcs,hp,okI])
 ·simp(disch:=first|omega|assumption) only[zdp,hp,go_sem]
  exact hQ _ _ _ _ nofun rfl (by simp[ze,zd,AV.strip,AV.strip1,zkE,zcs,hp,okI])
 ·simp(disch:=first|omega|assumption) only[zdp,hp,go_sem]
  exact hQ _ _ _ _ nofun rfl (by simp[ze,zd,AV.strip,AV.strip1,zkE,zcs,hp,okI])
def zf8 (s:List UInt8):Bool:=decide (ZR s=4)||(decide (ZR s=3)&&!zcs s)
theorem zn6 (s:List UInt8) (hs:s.length≤Lim):zo Tryz.prog 309 [.str s] (.bool (zf8 s)):=by
 refine zo.go ir309 ck309 (Al4 _) fun KP Q hQ=>?_
 simp(disch:=first|omega|assumption) only[ir309,go_sem]
 refine zc (zb2 s hs) ?_
 simp(disch:=first|omega|assumption) only[go_sem]
 refine zc (zmy s hs) ?_
 by_cases h4:ZR s=4
 ·simp(disch:=first|omega|assumption) only[h4,go_sem]
  exact hQ _ _ _ _ nofun rfl (by simp[ze,zd,AV.strip,AV.strip1,zf8,h4])
 ·by_cases h3:ZR s=3
  ·simp(disch:=first|omega|assumption) only[h4,h3,go_sem]
   exact hQ _ _ _ _ nofun rfl (by simp[ze,zd,AV.strip,AV.strip1,zf8,h4,h3])
  ·simp(disch:=first|omega|assumption) only[h4,h3,go_sem]
   exact hQ _ _ _ _ nofun rfl (by simp[ze,zd,AV.strip,AV.strip1,zf8,h4,h3])
def zeb (s:List UInt8):Bool:=decide (s=[116,114,117,101])||(decide (s=[102,97,108,115,101])||decide (s=[110,117,108,108]))
theorem znY (s:List UInt8):zo Tryz.prog 310 [.str s] (.bool (zeb s)):=by
 refine zo.go ir310 ck310 (Al4 _) fun KP Q hQ=>?_
 by_cases h1:s=[116,114,117,101]
 ·simp(disch:=first|omega|assumption) only[ir310,h1,go_sem]
  exact hQ _ _ _ _ nofun rfl (by simp[ze,zd,AV.strip,AV.strip1,zeb,h1])
 ·by_cases h2:s=[102,97,108,115,101]
  ·subst h2
   have h3:¬ ([102,97,108,115,101]:List UInt8)=[116,114,117,101]:=by decide
   simp(disch:=first|omega|assumption) only[ir310,h3,go_sem]
   exact hQ _ _ _ _ nofun rfl (by simp[ze,zd,AV.strip,AV.strip1,zeb,h3])
  ·simp(disch:=first|omega|assumption) only[ir310,h1,h2,go_sem]
   exact hQ _ _ _ _ nofun rfl (by simp[ze,zd,AV.strip,AV.strip1,zeb,h1,h2])
theorem zlR (s:List UInt8) (hs:s.length≤Lim):zo Tryz.prog 202 [.str s] (.bool (Lib.validD s)):=by
 refine zo.go ir202 ck202 (Al4 _) fun KP Q hQ=>?_
 simp(disch:=first|omega|assumption) only[ir202,go_sem]
 refine zc (zmb s (by simp only[Lim] at hs;omega)) ?_
 simp(disch:=first|omega|assumption) only[go_sem]
 exact hQ _ _ _ _ nofun rfl (by simp[ze,zd,AV.strip,AV.strip1])
def zS (n:Int) (s:List UInt8) (l:List Val) (m:List Mem):Bool:=decide (n=0)&&(decide (s=[])&&(decide (l.length=0)&&decide (m.length=0)))
theorem zjj (k n:Int) (s:List UInt8) (l:List Val) (m:List Mem):zo Tryz.prog 267 [.agg (cV (.mk k n s l m))] (.bool (zS n s l m)):=by
 refine zo.go ir267 ck267 (Al4 _) fun KP Q hQ=>?_
 have h1:=yZ l
 have h2:=yC m
 by_cases g1:n=0
 case neg =>
  simp(disch:=first|omega|assumption) only[ir267,zE,g1,go_sem]
  exact hQ _ _ _ _ nofun rfl (by simp[ze,zd,AV.strip,AV.strip1,zS,g1])
 by_cases g2:s=[]
 case neg =>
  simp(disch:=first|omega|assumption) only[ir267,zE,g1,g2,go_sem]
  exact hQ _ _ _ _ nofun rfl (by simp[ze,zd,AV.strip,AV.strip1,zS,g2])
 by_cases g3:l.length=0
 case neg =>
  simp(disch:=first|omega|assumption) only[ir267,zE,g1,g2,h1,g3,go_sem]
  exact hQ _ _ _ _ nofun rfl (by simp[ze,zd,AV.strip,AV.strip1,zS,g3])
 have e:decide ((m.length:Int)=0)=decide (m.length=0):=by rw[decide_eq_decide];omega
 simp(disch:=first|omega|assumption) only[ir267,zE,g1,g2,h1,h2,g3,go_sem]
 exact hQ _ _ _ _ nofun rfl (by simp[ze,zd,AV.strip,AV.strip1,zS,g1,g2,g3,e])
def zu (k n:Int) (s:List UInt8) (l:List Val) (m:List Mem):Bool :=
 zS 0 [] l m&&(if k=0 then decide (n=0)&&decide (s=[]) else if k=1 then (decide (n=0)||decide (n=1))&&decide (s=[]) else if k=2 then decide (s=[])
  else if k=3 then decide (n=0)&&zf8 s else if k=4 then decide (n=0)&&Lib.validD s else if k=5 then decide (n=0)&&(zJ s&&!zeb s) else if k=8 then decide (n=0)&&zJ s else false)
theorem zk4 (k n:Int) (s:List UInt8) (l:List Val) (m:List Mem) (hs:s.length≤Lim):zo Tryz.prog 266 [.agg (cV (.mk k n s l m))] (.bool (zu k n s l m)):=by
 refine zo.go ir266 ck266 (Al4 _) fun KP Q hQ=>?_
 simp(disch:=first|omega|assumption) only[ir266,zE,go_sem]
 refine zv fun b hb=>?_
 simp(disch:=first|omega|assumption) only[go_sem]
 refine zc (zjj k 0 [] l m) ?_
 cases hb:zS 0 [] l m with
 | false =>
  simp(disch:=first|omega|assumption) only[hb,go_sem]
  exact hQ _ _ _ _ nofun rfl (by simp[ze,zd,AV.strip,AV.strip1,zu,hb])
 | true =>
  by_cases k0:k=0
  ·by_cases n0:n=0
   ·simp(disch:=first|omega|assumption) only[hb,k0,n0,go_sem]
    exact hQ _ _ _ _ nofun rfl (by simp[ze,zd,AV.strip,AV.strip1,zu,hb,k0,n0])
   ·simp(disch:=first|omega|assumption) only[hb,k0,n0,go_sem]
    exact hQ _ _ _ _ nofun rfl (by simp[ze,zd,AV.strip,AV.strip1,zu,hb,k0,n0])
  by_cases k1:k=1
  ·by_cases n0:n=0
   ·simp(disch:=first|omega|assumption) only[hb,k0,k1,n0,go_sem]
    exact hQ _ _ _ _ nofun rfl (by simp[ze,zd,AV.strip,AV.strip1,zu,hb,k1,n0])
   ·by_cases n1:n=1
    ·simp(disch:=first|omega|assumption) only[hb,k0,k1,n0,n1,go_sem]
     exact hQ _ _ _ _ nofun rfl (by simp[ze,zd,AV.strip,AV.strip1,zu,hb,k1,n1])
    ·simp(disch:=first|omega|assumption) only[hb,k0,k1,n0,n1,go_sem]
     exact hQ _ _ _ _ nofun rfl (by simp[ze,zd,AV.strip,AV.strip1,zu,hb,k1,n0,n1])
  by_cases k2:k=2
  ·simp(disch:=first|omega|assumption) only[hb,k0,k1,k2,go_sem]
   exact hQ _ _ _ _ nofun rfl (by simp[ze,zd,AV.strip,AV.strip1,zu,hb,k2])
  by_cases k3:k=3
  ·by_cases n0:n=0
   ·simp(disch:=first|omega|assumption) only[hb,k0,k1,k2,k3,n0,go_sem]
    refine zc (zn6 s hs) ?_
    simp(disch:=first|omega|assumption) only[go_sem]
    exact hQ _ _ _ _ nofun rfl (by simp[ze,zd,AV.strip,AV.strip1,zu,hb,k3,n0])
   ·simp(disch:=first|omega|assumption) only[hb,k0,k1,k2,k3,n0,go_sem]
    exact hQ _ _ _ _ nofun rfl (by simp[ze,zd,AV.strip,AV.strip1,zu,hb,k3,n0])
  by_cases k4:k=4
  ·by_cases n0:n=0
   ·simp(disch:=first|omega|assumption) only[hb,k0,k1,k2,k3,k4,n0,go_sem]
    refine zc (zlR s hs) ?_
    simp(disch:=first|omega|assumption) only[go_sem]
    exact hQ _ _ _ _ nofun rfl (by simp[ze,zd,AV.strip,AV.strip1,zu,hb,k4,n0])
   ·simp(disch:=first|omega|assumption) only[hb,k0,k1,k2,k3,k4,n0,go_sem]
    exact hQ _ _ _ _ nofun rfl (by simp[ze,zd,AV.strip,AV.strip1,zu,hb,k4,n0])
  by_cases k5:k=5
  ·by_cases n0:n=0
   ·simp(disch:=first|omega|assumption) only[hb,k0,k1,k2,k3,k4,k5,n0,go_sem]
    refine zc (zeH s hs) ?_
    cases hn:zJ s with
    | true =>
     simp(disch:=first|omega|assumption) only[hn,go_sem]
     refine zc (znY s) ?_
     simp(disch:=first|omega|assumption) only[go_sem]
     exact hQ _ _ _ _ nofun rfl (by simp[ze,zd,AV.strip,AV.strip1,zu,hb,k5,n0,hn])
    | false =>
     simp(disch:=first|omega|assumption) only[hn,go_sem]
     exact hQ _ _ _ _ nofun rfl (by simp[ze,zd,AV.strip,AV.strip1,zu,hb,k5,n0,hn])
   ·simp(disch:=first|omega|assumption) only[hb,k0,k1,k2,k3,k4,k5,n0,go_sem]
    exact hQ _ _ _ _ nofun rfl (by simp[ze,zd,AV.strip,AV.strip1,zu,hb,k5,n0])
  by_cases k8:k=8
  ·by_cases n0:n=0
   ·simp(disch:=first|omega|assumption) only[hb,k0,k1,k2,k3,k4,k5,k8,n0,go_sem]
    refine zc (zeH s hs) ?_
    simp(disch:=first|omega|assumption) only[go_sem]
    exact hQ _ _ _ _ nofun rfl (by simp[ze,zd,AV.strip,AV.strip1,zu,hb,k8,n0])
   ·simp(disch:=first|omega|assumption) only[hb,k0,k1,k2,k3,k4,k5,k8,n0,go_sem]
    exact hQ _ _ _ _ nofun rfl (by simp[ze,zd,AV.strip,AV.strip1,zu,hb,k8,n0])
  ·simp(disch:=first|omega|assumption) only[hb,k0,k1,k2,k3,k4,k5,k8,go_sem]
   exact hQ _ _ _ _ nofun rfl (by simp[ze,zd,AV.strip,AV.strip1,zu,hb,k0,k1,k2,k3,k4,k5,k8])
mutual
def yl (may:List UInt8→Bool):Val→Bool
 | .mk k n s l m=>if k=6 then YF may l&&zS n s [] m else if k=7 then YC may m&&zS n s l [] else zu k n s l m
def YF (may:List UInt8→Bool):List Val→Bool
 | []=>true
 | v::r=>yl may v&&YF may r
def zk1 (may:List UInt8→Bool):Mem→Bool
 | .mk s v=>may s&&yl may v
def YC (may:List UInt8→Bool):List Mem→Bool
 | []=>true
 | x::r=>zk1 may x&&YC may r
end
theorem zn7 (f:FuncId) (hf:Program.callable Tryz.prog f=true) (may:List UInt8→Bool) (hmay:∀ s:List UInt8,s.length≤Lim→zo Tryz.prog f [.str s] (.bool (may s))) :
  ∀ v,bV v≤Lim→zo Tryz.prog 201 [.agg (cV v),.clo f [] []] (.bool (yl may v)):=by
 refine Val.ind fun k n s l m ihl ihm hb=>?_
 have hb':1+s.length+bVs l+bMs m≤Lim:=hb
 have hll:=Zj l
 have hml:=yI m
 have h1:=yZ l
 have h2:=yC m
 simp only[Lim] at hb'
 refine zo.go ir201 ck201 (Al4 _) fun KP Q hQ=>?_
 simp(disch:=first|omega|assumption) only[ir201,zE,go_sem]
 refine zv fun b hb=>?_
 by_cases k6:k=6
 ·subst k6
  simp(disch:=first|omega|assumption) only[h1,go_sem]
  refine zm l 22 (fun _:Unit=>[(6,.bool true)]) (fun done rest _ H=>YF may rest=YF may l∧H b=some (.cells [.int .i64 6,.int .i64 n,.str s,.sl .nil 5 [],.sl .no 6 (cMs m)])) () (by simp(disch:=first|omega|assumption) only[go_sem]) ⟨rfl,by simp[zh.upd]⟩ ?_ ?_
  ·rintro _ H J ⟨hn,hH⟩ hlt
   simp only[YF] at hn
   simp(disch:=first|omega|assumption) only[h1,hlt,hH,go_sem]
   refine zc (zo.low (zjj 6 n s [] m)) ?_
   simp(disch:=first|omega|assumption) only[go_sem]
   exact hQ _ _ _ _ nofun rfl (by simp[ze,zd,AV.strip,AV.strip1,yl,← hn])
  ·rintro done x rest _ H J hd hlt _ ⟨hn,hH⟩ hJ
   have hg:=Zb hd
   have hbm:=ZY done x rest
   rw[← hd] at hbm
   simp only[YF] at hn
   simp(disch:=first|omega|assumption) only[zi,zf,zb,zj,zg,za,zk,h1,hlt,hg,go_sem]
   refine zv fun b2 hb2=>?_
   have hne:=zdu hb2 hH
   simp(disch:=first|omega|assumption) only[zi,zf,zb,zj,zg,za,zk,go_sem]
   refine zc (ihl x (by rw[hd];simp) (by simp only[Lim];omega)) ?_
   cases hx:yl may x with
   | true =>
    simp only[hx,Bool.true_and] at hn
    simp(disch:=first|omega|assumption) only[hx,go_sem]
    exact goJ (hJ () _ ⟨hn,by simp[zh.upd,Ne.symm hne,hH]⟩) (by simp(disch:=first|omega|assumption) only[wrap64,go_sem])
   | false =>
    simp only[hx,Bool.false_and] at hn
    simp(disch:=first|omega|assumption) only[hx,go_sem]
    exact hQ _ _ _ _ nofun rfl (by simp[ze,zd,AV.strip,AV.strip1,yl,← hn])
 by_cases k7:k=7
 ·subst k7
  simp(disch:=first|omega|assumption) only[h2,go_sem]
  refine zm m 38 (fun _:Unit=>[(6,.bool true)]) (fun done rest _ H=>YC may rest=YC may m∧H b=some (.cells [.int .i64 7,.int .i64 n,.str s,.sl .no 5 (cVs l),.sl .nil 6 []])) () (by simp(disch:=first|omega|assumption) only[go_sem]) ⟨rfl,by simp[zh.upd]⟩ ?_ ?_
  ·rintro _ H J ⟨hn,hH⟩ hlt
   simp only[YC] at hn
   simp(disch:=first|omega|assumption) only[h2,hlt,hH,go_sem]
   refine zc (zo.low (zjj 7 n s l [])) ?_
   simp(disch:=first|omega|assumption) only[go_sem]
   exact hQ _ _ _ _ nofun rfl (by simp[ze,zd,AV.strip,AV.strip1,yl,← hn])
  ·rintro done x rest _ H J hd hlt _ ⟨hn,hH⟩ hJ
   have hg:=yT hd
   have hbm:=y6 done x rest
   rw[← hd] at hbm
   have hmem:x∈m:=by rw[hd];simp
   obtain⟨t,v⟩:=x
   simp only[YC,zk1,bM] at hn hbm
   simp(disch:=first|omega|assumption) only[zi,zf,zb,zj,zg,za,zk,h2,hlt,hg,go_sem]
   refine zv fun b2 hb2=>?_
   have hne:=zdu hb2 hH
   simp(disch:=first|omega|assumption) only[zi,zf,zb,zj,zg,za,zk,go_sem]
   refine⟨hf,zc (hmay t (by simp only[Lim];omega)) ?_⟩
   cases ht:may t with
   | true =>
    simp(disch:=first|omega|assumption) only[zi,zf,zb,zj,zg,za,zk,ht,go_sem]
    refine zc (ihm t v hmem (by simp only[Lim];omega)) ?_
    cases hx:yl may v with
    | true =>
     simp only[ht,hx,Bool.true_and] at hn
     simp(disch:=first|omega|assumption) only[hx,go_sem]
     exact goJ (hJ () _ ⟨hn,by simp[zh.upd,Ne.symm hne,hH]⟩) (by simp(disch:=first|omega|assumption) only[wrap64,go_sem])
    | false =>
     simp only[ht,hx,Bool.true_and,Bool.false_and] at hn
     simp(disch:=first|omega|assumption) only[hx,go_sem]
     exact hQ _ _ _ _ nofun rfl (by simp[ze,zd,AV.strip,AV.strip1,yl,← hn])
   | false =>
    simp only[ht,Bool.false_and] at hn
    simp(disch:=first|omega|assumption) only[zi,zf,zb,zj,zg,za,zk,ht,go_sem]
    exact hQ _ _ _ _ nofun rfl (by simp[ze,zd,AV.strip,AV.strip1,yl,← hn])
 ·simp(disch:=first|omega|assumption) only[k6,k7,go_sem]
  refine zc (zk4 k n s l m (by simp only[Lim];omega)) ?_
  simp(disch:=first|omega|assumption) only[go_sem]
  exact hQ _ _ _ _ nofun rfl (by simp[ze,zd,AV.strip,AV.strip1,yl,k6,k7])
def z6 (v:Val):Bool:=yl Lib.validD v
def ZE (v:Val):Bool:=yl zJ v&&decide (yG v≤16)
theorem zkV (v:Val) (hb:bV v≤Lim):zo Tryz.prog 117 [.agg (cV v)] (.bool (ZE v)):=by
 refine zo.go ir117 ck117 (Al4 _) fun KP Q hQ=>?_
 simp(disch:=first|omega|assumption) only[zi,zf,zb,zj,zg,za,zk,ir117,go_sem]
 refine zc (zn7 _ (by kernel_rfl) zJ zeH v hb) ?_
 cases h:yl zJ v with
 | true =>
  simp(disch:=first|omega|assumption) only[zi,zf,zb,zj,zg,za,zk,h,go_sem]
  refine zc (zfi v hb) ?_
  simp(disch:=first|omega|assumption) only[go_sem]
  exact hQ _ _ _ _ nofun rfl (by simp[ze,zd,AV.strip,AV.strip1,ZE,h])
 | false =>
  simp(disch:=first|omega|assumption) only[h,go_sem]
  exact hQ _ _ _ _ nofun rfl (by simp[ze,zd,AV.strip,AV.strip1,ZE,h])
theorem zge (s:List UInt8):zo Tryz.prog 204 [.str s] (.agg (cK ⟨2,s⟩)):=by
 refine zo.go ir204 ck204 (Al4 _) fun KP Q hQ=>?_
 simp(disch:=first|omega|assumption) only[ir204,go_sem]
 refine zv fun b hb=>?_
 simp(disch:=first|omega|assumption) only[go_sem]
 exact hQ _ _ _ [.agg [.int .i64 2,.str s]] nofun (by simp(disch:=first|omega|assumption) only[ir204,yH,Yt,go_sem]) rfl
theorem zcy (s:List UInt8):zo Tryz.prog 208 [.str s] (.agg (cK ⟨1,s⟩)):=by
 refine zo.go ir208 ck208 (Al4 _) fun KP Q hQ=>?_
 simp(disch:=first|omega|assumption) only[ir208,go_sem]
 refine zv fun b hb=>?_
 simp(disch:=first|omega|assumption) only[go_sem]
 exact hQ _ _ _ [.agg [.int .i64 1,.str s]] nofun (by simp(disch:=first|omega|assumption) only[ir208,yH,Yt,go_sem]) rfl
def boolT (b:Bool):List UInt8:=if b then [116,114,117,101] else [102,97,108,115,101]
theorem zjm (b:Bool):zo Tryz.prog 269 [.bool b] (.str (boolT b)):=by
 refine zo.go ir269 ck269 (Al4 _) fun KP Q hQ=>?_
 cases b
 ·simp(disch:=first|omega|assumption) only[ir269,go_sem]
  exact hQ _ _ _ _ nofun rfl (by simp[ze,zd,AV.strip,AV.strip1,boolT])
 ·simp(disch:=first|omega|assumption) only[ir269,go_sem]
  exact hQ _ _ _ _ nofun rfl (by simp[ze,zd,AV.strip,AV.strip1,boolT])
theorem zk3 (b:Bool):zo Tryz.prog 205 [.bool b] (.str (boolT b)):=by
 refine zo.go ir205 ck205 (Al4 _) fun KP Q hQ=>?_
 simp(disch:=first|omega|assumption) only[ir205,go_sem]
 refine zc (zjm b) ?_
 simp(disch:=first|omega|assumption) only[go_sem]
 exact hQ _ _ _ _ nofun rfl (by simp[ze,zd,AV.strip,AV.strip1])
mutual
def yD:Val→List Tok
 | .mk k n s l m=>if k=0 then [⟨2,[110,117,108,108]⟩] else if k=1 then [⟨2,boolT (decide (n=1))⟩] else if k=2 then [⟨3,Lib.itoa n⟩] else if k=3 then [⟨ZR s,s⟩] else if k=4 then [⟨5,s⟩]
  else if k=5 then [⟨2,s⟩] else if k=8 then [⟨1,[36]⟩,⟨2,s⟩] else if k=6 then ⟨1,[91]⟩::(Yf l++[⟨1,[93]⟩]) else ⟨1,[123]⟩::(yQ m++[⟨1,[125]⟩])
def Yf:List Val→List Tok
 | []=>[]
 | v::r=>yD v++Yf r
def zcA:Mem→List Tok
 | .mk s v=>⟨2,s⟩::⟨1,[58]⟩::yD v
def yQ:List Mem→List Tok
 | []=>[]
 | x::r=>zcA x++yQ r
end
mutual
theorem zbm:∀ v,(yD v).length+2≤4*bV v
 | .mk k n s l m=>by
  have h1:=zb0 l
  have h2:=zbZ m
  simp only[yD,bV]
  repeat' split
  all_goals simp only[Al2,Al5,Al3]
  all_goals omega
theorem zb0:∀ l,(Yf l).length≤4*bVs l
 | []=>by simp[Yf]
 | v::r=>by
  have h1:=zbm v
  have h2:=zb0 r
  simp only[Yf,bVs,Al5];omega
theorem zh0:∀ x,(zcA x).length≤4*bM x
 | .mk s v=>by have:=zbm v;simp only[zcA,bM,Al2];omega
theorem zbZ:∀ l,(yQ l).length≤4*bMs l
 | []=>by simp[yQ]
 | x::r=>by
  have h1:=zh0 x
  have h2:=zbZ r
  simp only[yQ,bMs,Al5];omega
end
def inR (n:Int):Prop:=-9223372036854775808≤n∧n≤9223372036854775807
mutual
def wfV:Val→Prop
 | .mk _ n _ l m=>inR n∧zgG l∧zco m
def zgG:List Val→Prop
 | []=>True
 | v::r=>wfV v∧zgG r
def wfM:Mem→Prop
 | .mk _ v=>wfV v
def zco:List Mem→Prop
 | []=>True
 | x::r=>wfM x∧zco r
end
theorem zd2:∀ {l:List Val},zgG l→∀ v∈l,wfV v
 | _::_,h,v,hv=>(List.mem_cons.1 hv).elim (fun e=>e▸h.1) (zd2 h.2 v)
theorem zaP:∀ {l:List Mem},zco l→∀ s v,Mem.mk s v∈l→wfV v
 | _::_,h,s,v,hv=>(List.mem_cons.1 hv).elim (fun e=>by have:=h.1;rw[← e] at this;exact this) (zaP h.2 s v)
theorem Yn (a:List Tok) (t:Tok):cKs a++[[.int .i64 t.k,.str t.s]]=cKs (a++[t]):=by simp[cKs,cK]
theorem zfG (a:List Tok) (t u:Tok):cKs a++[[.int .i64 t.k,.str t.s],[.int .i64 u.k,.str u.s]]=cKs (a++[t,u]):=by simp[cKs,cK]
theorem zk6:∀ v,wfV v→∀ acc H o,acc.length+4*bV v≤Lim→yB H o acc.length 2→zgq Tryz.prog 118 [.sl o 2 (cKs acc),.agg (cV v)] H o 2 (cKs (acc++yD v)):=by
 refine Val.ind fun k n s l m ihl ihm hwf acc H o hb ho=>?_
 obtain⟨hn,hwl,hwm⟩:=hwf
 have hb':acc.length+4*(1+s.length+bVs l+bMs m)≤Lim:=hb
 have hll:=Zj l
 have hml:=yI m
 have h1:=yZ l
 have h2:=yC m
 have h3:=z8 acc
 have hT:=zb0 l
 have hM:=zbZ m
 simp only[Lim] at hb'
 have hsl:s.length≤Lim:=by simp only[Lim];omega
 refine zC.goO ir118 ck118 (Al4 _) fun KP Q hQ hP=>?_
 have one:∀ t:Tok,yD (.mk k n s l m)=[t]→∀ o' H',OwnS H o H' o' (acc.length+1) 2→ziR H o 2 (cKs (acc++yD (.mk k n s l m))) (.sl o' 2 (cKs acc++[[.int .i64 t.k,.str t.s]])) H':=fun t e o' H' hs=>by
  rw[e];exact⟨o',by rw[Yn],by rw[z8];simpa using hs⟩
 have hq1:((cKs acc).length+1)*24≤140737488355328:=by rw[h3];omega
 have hq2:(cKs acc).length+1≤maxLen:=by rw[h3];simp only[maxLen];omega
 have hq3:((cKs acc).length+2)*24≤140737488355328:=by rw[h3];omega
 have hq4:(cKs acc).length+2≤maxLen:=by rw[h3];simp only[maxLen];omega
 have ho':yB H o (cKs acc).length 2:=by rw[h3];exact ho
 by_cases k0:k=0
 ·subst k0
  simp(disch:=first|omega|assumption) only[ir118,zE,go_sem]
  refine zc (zge _) ?_
  simp(disch:=first|omega|assumption) only[cK,go_sem]
  refine zF ho' hq1 hq2 fun o' H' hs=>?_
  simp(disch:=first|omega|assumption) only[go_sem]
  exact hQ _ _ H' H' [_] nofun rfl (Low.refl _) (one ⟨2,[110,117,108,108]⟩ (by simp[yD]) o' H' (by simpa[h3] using hs))
 by_cases k1:k=1
 ·subst k1
  simp(disch:=first|omega|assumption) only[ir118,zE,go_sem]
  refine zc (zk3 _) ?_
  simp(disch:=first|omega|assumption) only[go_sem]
  refine zc (zge _) ?_
  simp(disch:=first|omega|assumption) only[cK,go_sem]
  refine zF ho' hq1 hq2 fun o' H' hs=>?_
  simp(disch:=first|omega|assumption) only[go_sem]
  exact hQ _ _ H' H' [_] nofun rfl (Low.refl _) (one ⟨2,boolT (decide (n=1))⟩ (by simp[yD]) o' H' (by simpa[h3] using hs))
 by_cases k2:k=2
 ·subst k2
  simp(disch:=first|omega|assumption) only[ir118,zE,go_sem]
  refine zc (zgY n hn.1 hn.2) ?_
  simp(disch:=first|omega|assumption) only[go_sem]
  refine zF ho' hq1 hq2 fun o' H' hs=>?_
  simp(disch:=first|omega|assumption) only[go_sem]
  exact hQ _ _ H' H' [_] nofun rfl (Low.refl _) (one ⟨3,Lib.itoa n⟩ (by simp[yD]) o' H' (by simpa[h3] using hs))
 by_cases k3:k=3
 ·subst k3
  simp(disch:=first|omega|assumption) only[ir118,zE,go_sem]
  refine zc (zb2 s hsl) ?_
  simp(disch:=first|omega|assumption) only[go_sem]
  refine zF ho' hq1 hq2 fun o' H' hs=>?_
  simp(disch:=first|omega|assumption) only[go_sem]
  exact hQ _ _ H' H' [_] nofun rfl (Low.refl _) (one ⟨ZR s,s⟩ (by simp[yD]) o' H' (by simpa[h3] using hs))
 by_cases k4:k=4
 ·subst k4
  simp(disch:=first|omega|assumption) only[ir118,zE,go_sem]
  refine zF ho' hq1 hq2 fun o' H' hs=>?_
  simp(disch:=first|omega|assumption) only[go_sem]
  exact hQ _ _ H' H' [_] nofun rfl (Low.refl _) (one ⟨5,s⟩ (by simp[yD]) o' H' (by simpa[h3] using hs))
 by_cases k5:k=5
 ·subst k5
  simp(disch:=first|omega|assumption) only[ir118,zE,go_sem]
  refine zc (zge _) ?_
  simp(disch:=first|omega|assumption) only[cK,go_sem]
  refine zF ho' hq1 hq2 fun o' H' hs=>?_
  simp(disch:=first|omega|assumption) only[go_sem]
  exact hQ _ _ H' H' [_] nofun rfl (Low.refl _) (one ⟨2,s⟩ (by simp[yD]) o' H' (by simpa[h3] using hs))
 by_cases k8:k=8
 ·subst k8
  simp(disch:=first|omega|assumption) only[ir118,zE,go_sem]
  refine zc (zcy _) ?_
  simp(disch:=first|omega|assumption) only[cK,go_sem]
  refine zc (zge _) ?_
  simp(disch:=first|omega|assumption) only[cK,go_sem]
  refine zF ho' hq3 hq4 fun o' H' hs=>?_
  simp(disch:=first|omega|assumption) only[go_sem]
  refine hQ _ _ H' H' [_] nofun rfl (Low.refl _) ?_
  have e:yD (.mk 8 n s l m)=[⟨1,[36]⟩,⟨2,s⟩]:=by simp[yD]
  rw[e]
  exact⟨o',by rw[← zfG];rfl,by rw[z8];simpa[h3] using hs⟩
 by_cases k6:k=6
 ·subst k6
  have e:yD (.mk 6 n s l m)=⟨1,[91]⟩::(Yf l++[⟨1,[93]⟩]):=by simp[yD]
  have ea:=Yn acc ⟨1,[91]⟩
  simp only at ea
  simp(disch:=first|omega|assumption) only[ir118,zE,go_sem]
  refine zc (zcy _) ?_
  simp(disch:=first|omega|assumption) only[cK,go_sem]
  refine zF ho' hq1 hq2 fun o1 H1 hs1=>?_
  have hs1':OwnS H o H1 o1 (acc++[(⟨1,[91]⟩:Tok)]).length 2:=by simpa[h3] using hs1
  simp(disch:=first|omega|assumption) only[ea,h1,go_sem]
  refine zm l 81 (fun x:Own×List Tok=>[(0,.sl x.1 2 (cKs x.2))]) (fun done rest x H'=>x.2++Yf rest=acc++⟨1,[91]⟩::Yf l∧x.2.length+4*bVs rest≤acc.length+1+4*bVs l∧OwnS H o H' x.1 x.2.length 2) (o1,acc++[⟨1,[91]⟩]) (by simp(disch:=first|omega|assumption) only[go_sem]) ⟨by simp,by simp,hs1'⟩ ?_ ?_
  ·rintro⟨o2,a⟩ H2 J ⟨hn,hle,hs⟩ hlt
   simp only[Yf,List.append_nil,bVs] at hn hle
   have h4:=z8 a
   simp(disch:=first|omega|assumption) only[h1,hlt,go_sem]
   refine zc (zcy _) ?_
   simp(disch:=first|omega|assumption) only[cK,go_sem]
   refine zF (by rw[h4];exact hs.own) (by simp only[h4,Al2,Al3];omega) (by simp only[h4,Al2,Al3,maxLen];omega) fun o3 H3 hs3=>?_
   simp(disch:=first|omega|assumption) only[go_sem]
   refine hQ _ _ H3 H3 [_] nofun rfl (Low.refl _) ?_
   have e2:acc++yD (.mk 6 n s l m)=a++[⟨1,[93]⟩]:=by rw[e,hn];simp
   rw[e2]
   exact⟨o3,by rw[← Yn];rfl,by rw[z8];exact hs.trans (by simpa[h4] using hs3)⟩
  ·rintro done x rest ⟨o2,a⟩ H2 J hd hlt _ ⟨hn,hle,hs⟩ hJ
   have hg:=Zb hd
   have hx:=zbm x
   have hmem:x∈l:=by rw[hd];simp
   simp only[Yf,bVs] at hn hle
   simp(disch:=first|omega|assumption) only[zi,zf,zb,zj,zg,za,zk,h1,hlt,hg,go_sem]
   refine zv fun b hb=>?_
   simp(disch:=first|omega|assumption) only[zi,zf,zb,zj,zg,za,zk,go_sem]
   refine Zh (ihl x hmem (zd2 hwl x hmem) a _ o2 (by simp only[Lim];omega) (hs.own.upd hb)) fun o3 H3 hs3=>?_
   rw[z8] at hs3
   simp(disch:=first|omega|assumption) only[wrap64,go_sem]
   exact goJ (hJ (o3,a++yD x) H3 ⟨by rw[← hn];simp,by simp only[Al5];omega,(hs.upd hb).trans hs3⟩) (by simp(disch:=first|omega|assumption) only[go_sem])
 ·have e:yD (.mk k n s l m)=⟨1,[123]⟩::(yQ m++[⟨1,[125]⟩]):=by simp[yD,k0,k1,k2,k3,k4,k5,k8,k6]
  have ea:=Yn acc ⟨1,[123]⟩
  simp only at ea
  simp(disch:=first|omega|assumption) only[ir118,zE,k0,k1,k2,k3,k4,k5,k8,k6,go_sem]
  refine zc (zcy _) ?_
  simp(disch:=first|omega|assumption) only[cK,go_sem]
  refine zF ho' hq1 hq2 fun o1 H1 hs1=>?_
  have hs1':OwnS H o H1 o1 (acc++[(⟨1,[123]⟩:Tok)]).length 2:=by simpa[h3] using hs1
  simp(disch:=first|omega|assumption) only[ea,h2,go_sem]
  refine zm m 100 (fun x:Own×List Tok=>[(0,.sl x.1 2 (cKs x.2))]) (fun done rest x H'=>x.2++yQ rest=acc++⟨1,[123]⟩::yQ m∧x.2.length+4*bMs rest≤acc.length+1+4*bMs m∧OwnS H o H' x.1 x.2.length 2) (o1,acc++[⟨1,[123]⟩]) (by simp(disch:=first|omega|assumption) only[go_sem]) ⟨by simp,by simp,hs1'⟩ ?_ ?_
  ·rintro⟨o2,a⟩ H2 J ⟨hn,hle,hs⟩ hlt
   simp only[yQ,List.append_nil,bMs] at hn hle
   have h4:=z8 a
   simp(disch:=first|omega|assumption) only[h2,hlt,go_sem]
   refine zc (zcy _) ?_
   simp(disch:=first|omega|assumption) only[cK,go_sem]
   refine zF (by rw[h4];exact hs.own) (by simp only[h4,Al2,Al3];omega) (by simp only[h4,Al2,Al3,maxLen];omega) fun o3 H3 hs3=>?_
   simp(disch:=first|omega|assumption) only[go_sem]
   refine hQ _ _ H3 H3 [_] nofun rfl (Low.refl _) ?_
   have e2:acc++yD (.mk k n s l m)=a++[⟨1,[125]⟩]:=by rw[e,hn];simp
   rw[e2]
   exact⟨o3,by rw[← Yn];rfl,by rw[z8];exact hs.trans (by simpa[h4] using hs3)⟩
  ·rintro done x rest ⟨o2,a⟩ H2 J hd hlt _ ⟨hn,hle,hs⟩ hJ
   have hg:=yT hd
   have hmem:x∈m:=by rw[hd];simp
   obtain⟨t,v⟩:=x
   have hx:=zbm v
   have h4:=z8 a
   have hp:=ZV v
   simp only[yQ,zcA,bMs,bM] at hn hle
   have ea2:=zfG a ⟨2,t⟩ ⟨1,[58]⟩
   simp only at ea2
   simp(disch:=first|omega|assumption) only[zi,zf,zb,zj,zg,za,zk,h2,hlt,hg,go_sem]
   refine zv fun b hb=>?_
   simp(disch:=first|omega|assumption) only[zi,zf,zb,zj,zg,za,zk,go_sem]
   refine zc (zge _) ?_
   simp(disch:=first|omega|assumption) only[zi,zf,zb,zj,zg,za,zk,cK,go_sem]
   refine zc (zcy _) ?_
   simp(disch:=first|omega|assumption) only[zi,zf,zb,zj,zg,za,zk,cK,go_sem]
   refine zF (by rw[h4];exact hs.own.upd hb) (by simp only[h4,Al2,Al3];omega) (by simp only[h4,Al2,Al3,maxLen];omega) fun o3 H3 hs3=>?_
   have hs3':OwnS H o H3 o3 (a++[(⟨2,t⟩:Tok),⟨1,[58]⟩]).length 2:=(hs.upd hb).trans (by simpa[h4] using hs3)
   have hHb:H3 b=some (.cells (cM (.mk t v))):=hs3.kept b _ (by simp[zh.upd,zk]) fun d e=>by
    have:=hs.own;subst e
    have hx:H2 b=_:=this
    rw[hb] at hx;cases hx
   simp(disch:=first|omega|assumption) only[zi,zf,zb,zj,zg,za,zk,ea2,hHb,go_sem]
   refine Zh (ihm t v hmem (zaP hwm t v hmem) _ _ o3 (by simp only[Lim,Al5,Al2,Al3];omega) hs3'.own) fun o4 H4 hs4=>?_
   rw[z8] at hs4
   simp(disch:=first|omega|assumption) only[wrap64,go_sem]
   exact goJ (hJ (o4,a++[⟨2,t⟩,⟨1,[58]⟩]++yD v) H4 ⟨by rw[← hn];simp,by simp only[Al5,Al2,Al3];omega,hs3'.trans hs4⟩) (by simp(disch:=first|omega|assumption) only[go_sem])
def zaH (v:Val):List Tok:=if ZE v then yD v else []
theorem zdd (v:Val) (hw:wfV v) (hb:4*bV v≤Lim):zo Tryz.prog 55 [.agg (cV v)] (.tup [.sl .no 2 (cKs (zaH v)),.bool (ZE v)]):=by
 have hb':bV v≤Lim:=by omega
 refine zo.go ir55 ck55 (Al4 _) fun KP Q hQ=>?_
 simp(disch:=first|omega|assumption) only[zi,zf,zb,zj,zg,za,zk,ir55,go_sem]
 refine zc (zkV v hb') ?_
 cases h:ZE v with
 | false =>
  simp(disch:=first|omega|assumption) only[h,go_sem]
  exact hQ _ _ _ _ nofun rfl (by simp[ze,zd,AV.strip,AV.strip1,zaH,h,cKs])
 | true =>
  simp(disch:=first|omega|assumption) only[zi,zf,zb,zj,zg,za,zk,h,go_sem]
  refine Zh (zk6 v hw [] _ .nil (by simpa using hb) rfl) fun o' H' hs=>?_
  simp(disch:=first|omega|assumption) only[go_sem]
  exact hQ _ _ _ _ nofun rfl (by simp[ze,zd,AV.strip,AV.strip1,zaH,h])
end Go.Proofs.YticbbfbpeimkbaaGreatDoor
namespace Go.Proofs.YticbbfbpeimkbaaGreatDoor
def zhe (P:Program) (f:FuncId) (fn:Func) (s:ChangeSpec) (c:OpenClaim):Bool:=c.wf (OpenSpec.ofChange s)&&laidOutB P&&mapsRowed P&&fn.params.all (P.readableRec ·)&&namedTie P c.named s.vars
def zgP (P:Program) (f:FuncId) (fn:Func) (s:ChangeSpec) (c:OpenClaim):Bool:=(c.stops==[])&&(P.stops==[])&&(c.knobs==[])&&(P.stopKnobs==[])&&(c.maps==(fn.params.toList++s.plain.varTypes P).any (P.mapsRec ·))&&(c.ifaces==(fn.params.toList++s.plain.varTypes P).any (P.ifacesRec ·))&&(c.mapsOut==P.mapsAmong fn.resultTypes.toList)&&(c.loops==(fn.params.toList++s.plain.varTypes P).any (P.loopsFrom ·))&&(c.wideKeys==(fn.params.toList++s.plain.varTypes P++fn.resultTypes.toList).any (P.wideKeysFrom ·))&&s.vars.all (P.varReadable ·)&&fn.resultTypes.all (fun t=>P.readableRec t&&decide (t<P.types.size))&&(c.ifacesOut==fn.resultTypes.toList.any (P.ifacesRec ·))&&(c.loopsOut==fn.resultTypes.toList.any (P.loopsFrom ·))&&(c.veiled==(fn.params.toList++s.plain.varTypes P++fn.resultTypes.toList).any (P.veiledRec ·))&&c.veiledFits P fn.params.toList (fn.params.toList++s.plain.varTypes P++fn.resultTypes.toList)
def zgA (P:Program) (f:FuncId) (fn:Func) (s:ChangeSpec) (c:OpenClaim):Bool:=(c.inPlace==P.inPlace f)&&(c.unfollowed==P.unfollowed f)&&(c.recurses==P.recurses f)&&(c.named==P.varsNamed f)
def zgX (P:Program) (f:FuncId) (fn:Func) (s:ChangeSpec) (c:OpenClaim):Bool:=(c.plainKeys==P.plainKeys)&&c.shortTexts.isNone
def zgK (P:Program) (f:FuncId) (fn:Func) (s:ChangeSpec) (c:OpenClaim):Bool:=P.stopsHeard
def zgV (P:Program) (f:FuncId) (fn:Func) (s:ChangeSpec) (c:OpenClaim):Bool:=P.mayEnter
def zhf (P:Program) (f:FuncId) (fn:Func) (s:ChangeSpec) (c:OpenClaim):Bool:=(c.lifted==P.liftsFinal)&&(P.make==some c.make)&&(c.kinds==(if c.domain.isEmpty then [] else fn.params.toList.map fun t=>match P.underlying t with|some (.int k)=>some k|_=>none))&&(c.pinned==c.pinnedBy)
theorem ziE {P:Program} {f:FuncId} {fn:Func} {s:ChangeSpec} {c:OpenClaim} (h0:zhe P f fn s c=true) (h1:zgP P f fn s c=true) (h2:zgA P f fn s c=true) (h3:zgX P f fn s c=true) (h4:zgK P f fn s c=true) (h5:zgV P f fn s c=true) (h6:zhf P f fn s c=true):joinedFacts P f fn s c=true:=by
 simp only[zhe,Al0] at h0
 obtain⟨⟨⟨⟨a0,a1⟩,a2⟩,a3⟩,a4⟩:=h0
 simp only[zgP,Al0] at h1
 obtain⟨⟨⟨⟨⟨⟨⟨⟨⟨⟨⟨⟨⟨⟨a5,a6⟩,a7⟩,a8⟩,a13⟩,a14⟩,a15⟩,a16⟩,a17⟩,a18⟩,a19⟩,a20⟩,a21⟩,a30⟩,a31⟩:=h1
 simp only[zgA,Al0] at h2
 obtain⟨⟨⟨a9,a10⟩,a11⟩,a12⟩:=h2
 simp only[zgX,Al0] at h3
 obtain⟨a22,a23⟩:=h3
 simp only[zgK,Al0] at h4
 have a24:=h4
 simp only[zgV,Al0] at h5
 have a25:=h5
 simp only[zhf,Al0] at h6
 obtain⟨⟨⟨a26,a27⟩,a28⟩,a29⟩:=h6
 simp only[joinedFacts,Al0]
 exact⟨⟨⟨⟨⟨⟨⟨⟨⟨⟨⟨⟨⟨⟨⟨⟨⟨⟨⟨⟨⟨⟨⟨⟨⟨⟨⟨⟨⟨⟨⟨a0,a1⟩,a2⟩,a3⟩,a4⟩,a5⟩,a6⟩,a7⟩,a8⟩,a9⟩,a10⟩,a11⟩,a12⟩,a13⟩,a14⟩,a15⟩,a16⟩,a17⟩,a18⟩,a19⟩,a20⟩,a21⟩,a22⟩,a23⟩,a24⟩,a25⟩,a26⟩,a27⟩,a28⟩,a29⟩,a30⟩,a31⟩
open Go.Ab Go.ChangeAt Go.ChangeShapes Go.Lib Go.RowKit Go.WideElems Go.WideShapes
theorem own:ownKnob Tryz.prog.godebug=none:=by kernel_rfl
theorem laidOut:laidOutB Tryz.prog=true:=by kernel_rfl
theorem zhU:∀ l,bVs l=(l.map bV).sum
 | []=>rfl
 | v::r=>by simp[bVs,zhU r]
theorem zib:∀ l,bMs l=(l.map bM).sum
 | []=>rfl
 | v::r=>by simp[bMs,zib r]
theorem zf5:∀ {l:List Val},(∀ v∈l,wfV v)→zgG l
 | [],_=>trivial
 | v::r,h=>⟨h v (.head _),zf5 fun x hx=>h x (.tail _ hx)⟩
theorem zgp:∀ {l:List Mem},(∀ v∈l,wfM v)→zco l
 | [],_=>trivial
 | v::r,h=>⟨h v (.head _),zgp fun x hx=>h x (.tail _ hx)⟩
theorem zg6 {n:Int} (h:(Lit.int .i64 n).wf=true):inR n:=by
 simp[Lit.wf,IntKind.has,IntKind.min,IntKind.max,IntKind.signed,IntKind.bits] at h
 unfold inR
 omega
abbrev DV (m:Nat):Prop:=z7 Tryz.prog m 56 5 cV wfV bV
abbrev DM (m:Nat):Prop:=z7 Tryz.prog m 148 6 cM wfM bM
theorem zno {m:Nat} (h:DV m):z7 Tryz.prog (m+1) 53 1 (fun l:List Val=>[.sl .no 5 (cVs l)]) (fun l=>zgG l) (fun l=>bVs l+1):=by
 intro H enc W cs d ps h1 h2
 obtain⟨a,h3,h4,h5,h6⟩:=z7.slice (t:=53) Tryz.underlying53 (B:=80) (sz:=5) (by kernel_rfl) (by kernel_rfl) (by decide) h enc W cs d ps h1 h2
 exact⟨a,zf5 h3.2.2,by simp only[zhU];exact h4,h5,by simp only[zcj];exact h6⟩
theorem zlr {m:Nat} (h:DM m):z7 Tryz.prog (m+1) 54 1 (fun l:List Mem=>[.sl .no 6 (cMs l)]) (fun l=>zco l) (fun l=>bMs l+1):=by
 intro H enc W cs d ps h1 h2
 obtain⟨a,h3,h4,h5,h6⟩:=z7.slice (t:=54) Tryz.underlying54 (B:=96) (sz:=6) (by kernel_rfl) (by kernel_rfl) (by decide) h enc W cs d ps h1 h2
 exact⟨a,zgp h3.2.2,by simp only[zib];exact h4,h5,by simp only[zcf];exact h6⟩
theorem dec:∀ m,DV m∧DM m:=by
 intro m
 induction m using Nat.strongRecOn with
 | _ m ih =>
  have hs:∀ {k},k≤m→z7 Tryz.prog k 53 1 (fun l:List Val=>[.sl .no 5 (cVs l)]) (fun l=>zgG l) (fun l=>bVs l+1):=fun {k} hk=>by
   cases k with
   | zero=>exact z7.zero
   | succ k=>exact zno (ih k (by omega)).1
  have hm:∀ {k},k≤m→z7 Tryz.prog k 54 1 (fun l:List Mem=>[.sl .no 6 (cMs l)]) (fun l=>zco l) (fun l=>bMs l+1):=fun {k} hk=>by
   cases k with
   | zero=>exact z7.zero
   | succ k=>exact zlr (ih k (by omega)).2
  refine⟨?_,?_⟩
  ·cases m with
   | zero=>exact z7.zero
   | succ k =>
    exact z7.struct (zU.cons (by kernel_rfl) (z7.int (k:=.i64) Tryz.underlying3) (zU.cons (by kernel_rfl) (z7.int (k:=.i64) Tryz.underlying2) (zU.cons (by kernel_rfl) (z7.str Tryz.underlying9) (zU.cons (by kernel_rfl) (hs (by omega)) (zU.cons (by kernel_rfl) (hm (by omega)) zU.nil)))))
     (by kernel_rfl) (by kernel_rfl) cV wfV bV (fun x=>.mk x.1 x.2.1 x.2.2.1 x.2.2.2.1 x.2.2.2.2.1) (fun a=>rfl) (fun a h=>⟨zg6 h.2.1,h.2.2.2.1,h.2.2.2.2.1⟩) (fun a=>by simp only[bV];omega)
  ·cases m with
   | zero=>exact z7.zero
   | succ k =>
    exact z7.struct (zU.cons (by kernel_rfl) (z7.str Tryz.underlying9) (zU.cons (by kernel_rfl) (ih k (by omega)).1 zU.nil))
     (by kernel_rfl) (by kernel_rfl) cM wfM bM (fun x=>.mk x.1 x.2.1) (fun a=>by simp[cM]) (fun a h=>h.2.1) (fun a=>by simp only[bM];omega)
theorem znN (m:Nat):DV m:=(dec m).1
theorem zjM:∀ m,z7 Tryz.prog m 54 1 (fun l:List Mem=>[.sl .no 6 (cMs l)]) (fun l=>zco l) (fun l=>bMs l+1)
 | 0=>z7.zero
 | m+1=>zlr (dec m).2
theorem zmV {W:World} {r:Reach} {b:Nat} {t:TypeId} {fs:Array Field} {v:Value} (ht:Tryz.prog.underlying t=some (.struct fs)) (h:Value.okWide Tryz.prog W r b t v):∃ cs,v=.agg cs:=by
 unfold Value.okWide at h
 rw[ht] at h
 obtain⟨cs,h,_⟩:=h
 exact⟨cs,h⟩
theorem ziQ {H:Type} {s:ChangeSpec} {ds:List (DataW H)} (h:∀ k,(Rows.OpenSpec.upto s).cond=some k→k H ds=true):Zv ds≤1048576:=by
 have h1:Rows.uptoSmall H ds=true:=h _ rfl
 have h2:=of_decide_eq_true h1
 rwa [YE] at h2
end Go.Proofs.YticbbfbpeimkbaaGreatDoor
namespace Go.Proofs.YticbbfbpeimkbaaGreatDoor
open Go.Ab
structure DirD where
 nm:List UInt8
 args:List Mem
inductive SelD where
 | mk (k:Int) (al nm:List UInt8) (args:List Mem) (dirs:List DirD) (on:List UInt8) (sels:List SelD)
structure TyD where
 nm:List UInt8
 lists:Int
 musts:Int
structure VarD where
 nm:List UInt8
 t:TyD
 has:Bool
 d:Val
structure OpD where
 k:Int
 nm:List UInt8
 vars:List VarD
 dirs:List DirD
 sels:List SelD
structure FragD where
 nm:List UInt8
 on:List UInt8
 dirs:List DirD
 sels:List SelD
structure DocD where
 ops:List OpD
 frags:List FragD
def cD (x:DirD):List AV:=[.str x.nm,.sl .no 6 (cMs x.args)]
def cDs (l:List DirD):List (List AV):=l.map cD
mutual
def cS:SelD→List AV
 | .mk k al nm args dirs on sels=>[.int .i64 k,.str al,.str nm,.sl .no 6 (cMs args),.sl .no 2 (cDs dirs),.str on,.sl .no 7 (cSs sels)]
def cSs:List SelD→List (List AV)
 | []=>[]
 | x::r=>cS x::cSs r
end
def cTy (t:TyD):List AV:=[.str t.nm,.int .i64 t.lists,.int .i64 t.musts]
def cW (x:VarD):List AV:=cTy ⟨x.nm,0,0⟩ |>.take 1 |>.append (cTy x.t++(.bool x.has::cV x.d))
def cWs (l:List VarD):List (List AV):=l.map cW
def cO (x:OpD):List AV:=[.int .i64 x.k,.str x.nm,.sl .no 10 (cWs x.vars),.sl .no 2 (cDs x.dirs),.sl .no 7 (cSs x.sels)]
def cOs (l:List OpD):List (List AV):=l.map cO
def cF (x:FragD):List AV:=[.str x.nm,.str x.on,.sl .no 2 (cDs x.dirs),.sl .no 7 (cSs x.sels)]
def cFs (l:List FragD):List (List AV):=l.map cF
def ZN (d:DocD):List AV:=[.sl .no 5 (cOs d.ops),.sl .no 4 (cFs d.frags)]
theorem Ye (nm:List UInt8) (t:TyD) (h:Bool) (d:Val):cW ⟨nm,t,h,d⟩=.str nm::.str t.nm::.int .i64 t.lists::.int .i64 t.musts::.bool h::cV d:=rfl
theorem zb9:∀ l,cSs l=l.map cS
 | []=>rfl
 | v::r=>by rw[cSs,zb9 r];rfl
theorem YW (l:List DirD):(cDs l).length=l.length:=by simp[cDs]
theorem ZD (l:List SelD):(cSs l).length=l.length:=by rw[zb9];simp
theorem zaz (l:List VarD):(cWs l).length=l.length:=by simp[cWs]
theorem YT (l:List OpD):(cOs l).length=l.length:=by simp[cOs]
theorem YP (l:List FragD):(cFs l).length=l.length:=by simp[cFs]
theorem zah {l a:List DirD} {x:DirD} {b:List DirD} (h:l=a++x::b):(cDs l).getD a.length []=cD x:=yW h
theorem Yu {l a:List SelD} {x:SelD} {b:List SelD} (h:l=a++x::b):(cSs l).getD a.length []=cS x:=by rw[zb9,yW h]
theorem yX {l a:List VarD} {x:VarD} {b:List VarD} (h:l=a++x::b):(cWs l).getD a.length []=cW x:=yW h
theorem zaF {l a:List OpD} {x:OpD} {b:List OpD} (h:l=a++x::b):(cOs l).getD a.length []=cO x:=yW h
theorem zar {l a:List FragD} {x:FragD} {b:List FragD} (h:l=a++x::b):(cFs l).getD a.length []=cF x:=yW h
theorem Zu (k:Int) (al nm:List UInt8) (args:List Mem) (dirs:List DirD) (on:List UInt8) (sels:List SelD):cS (.mk k al nm args dirs on sels)=[.int .i64 k,.str al,.str nm,.sl .no 6 (cMs args),.sl .no 2 (cDs dirs),.str on,.sl .no 7 (cSs sels)]:=rfl
theorem zj7 (x:VarD):(cW x).map AV.strip1=cW x:=by rcases x with ⟨a,b,c,⟨⟩⟩;rfl
theorem ziH (l:List VarD):(cWs l).map (·.map AV.strip1)=cWs l:=by rw[cWs,List.map_map];exact List.map_congr_left fun v _=>zj7 v
def bD (x:DirD):Nat:=1+x.nm.length+bMs x.args
def bDs (l:List DirD):Nat:=(l.map bD).sum
mutual
def bS:SelD→Nat
 | .mk _ al nm args dirs on sels=>1+al.length+nm.length+on.length+bMs args+bDs dirs+bSs sels
def bSs:List SelD→Nat
 | []=>0
 | x::r=>bS x+bSs r
end
def bW (x:VarD):Nat:=x.nm.length+x.t.nm.length+bV x.d
def bWs (l:List VarD):Nat:=(l.map bW).sum
def bO (x:OpD):Nat:=1+x.nm.length+bWs x.vars+bDs x.dirs+bSs x.sels
def bOs (l:List OpD):Nat:=(l.map bO).sum
def bF (x:FragD):Nat:=1+x.nm.length+x.on.length+bDs x.dirs+bSs x.sels
def bFs (l:List FragD):Nat:=(l.map bF).sum
def Yh (d:DocD):Nat:=bOs d.ops+bFs d.frags
theorem zcd {α:Type} {f:α→Nat} (hf:∀ x,1≤f x):∀ l:List α,l.length≤(l.map f).sum
 | []=>Nat.zero_le _
 | x::r=>by have:=zcd hf r;have:=hf x;simp only[List.map_cons,List.sum_cons,Al2];omega
theorem zdi {α:Type} (f:α→Nat) (a:List α) (x:α) (b:List α):((a++x::b).map f).sum=(a.map f).sum+f x+(b.map f).sum:=by simp;omega
theorem zbi (l:List DirD):l.length≤bDs l:=zcd (fun x=>by simp only[bD];omega) l
theorem zbt (l:List VarD):l.length≤bWs l:=zcd (fun x=>by have:=ZV x.d;simp only[bW];omega) l
theorem zbx (l:List OpD):l.length≤bOs l:=zcd (fun x=>by simp only[bO];omega) l
theorem zbs (l:List FragD):l.length≤bFs l:=zcd (fun x=>by simp only[bF];omega) l
theorem zme (x:SelD):1≤bS x:=by cases x;simp only[bS];omega
theorem zav:∀ l:List SelD,l.length≤bSs l
 | []=>by simp
 | v::r=>by have:=zav r;have:=zme v;simp only[bSs,Al2];omega
theorem zbr (a:List DirD) (x:DirD) (b:List DirD):bDs (a++x::b)=bDs a+bD x+bDs b:=zdi ..
theorem y7 (a:List VarD) (x:VarD) (b:List VarD):bWs (a++x::b)=bWs a+bW x+bWs b:=zdi ..
theorem zbn (a:List OpD) (x:OpD) (b:List OpD):bOs (a++x::b)=bOs a+bO x+bOs b:=zdi ..
theorem zbp (a:List FragD) (x:FragD) (b:List FragD):bFs (a++x::b)=bFs a+bF x+bFs b:=zdi ..
theorem zam (a:List SelD) (x:SelD) (b:List SelD):bSs (a++x::b)=bSs a+bS x+bSs b:=by
 induction a with
 | nil=>simp[bSs]
 | cons y a ih=>simp only[Al6,bSs,ih];omega
mutual
theorem SelD.ind {P:SelD→Prop} (h:∀ k al nm args dirs on sels,(∀ v∈sels,P v)→P (.mk k al nm args dirs on sels)):∀ v,P v
 | .mk k al nm args dirs on sels=>h k al nm args dirs on sels (SelD.indL h sels)
theorem SelD.indL {P:SelD→Prop} (h:∀ k al nm args dirs on sels,(∀ v∈sels,P v)→P (.mk k al nm args dirs on sels)):∀ l:List SelD,∀ v∈l,P v
 | [],_,hv=>by cases hv
 | x::r,v,hv=>(List.mem_cons.1 hv).elim (fun e=>e▸SelD.ind h x) (SelD.indL h r v)
end
theorem zkY {t:List UInt8} {v:Val} {m:List Mem} (h:Mem.mk t v∈m):bV v≤bMs m:=by
 obtain⟨a,b,hd⟩:=List.append_of_mem h
 have:=y6 a (.mk t v) b
 rw[← hd] at this
 simp only[bM] at this
 omega
theorem zgg (a b:List Mem) (ha:bMs a≤Lim):zo Tryz.prog 102 [.sl .no 6 (cMs a),.sl .no 6 (cMs b)] (.bool (eqd a b)) :=
 zfQ a b (by have:=yI a;omega) fun s v hm u=>zka v (by have:=zkY hm;omega) u
end Go.Proofs.YticbbfbpeimkbaaGreatDoor

