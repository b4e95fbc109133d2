import Derived.JoinedOf
import Derived.Lib.ItoaMem
import Derived.Lib.ItoaLen
import Derived.Lib.ValidLaws
import Derived.Lib.ParseIntBTie
import Derived.Test.YtaielcdfcgpbiaaGreatDoorM1
import Derived.Test.YtaielcdfcgpbiaaGreatDoorM2
import Derived.Test.YtaielcdfcgpbiaaGreatDoorM3
import Derived.Test.YtaielcdfcgpbiaaGreatDoorM4
import Derived.Test.YtaielcdfcgpbiaaGreatDoorM5
set_option maxRecDepth 100000
set_option linter.all false
namespace Go.Proofs.YtaielcdfcgpbiaaGreatDoor
open Go.Ab
mutual
inductive Val where
 | mk (k n:Int) (s:List UInt8) (l:List Val) (m:List Mem)
inductive Mem where
 | mk (name:List UInt8) (v:Val)
end
mutual
def cV:Val→List AV
 | .mk k n s l m=>[.int .i64 k,.int .i64 n,.str s,.sl .no 5 (cVs l),.sl .no 6 (cMs m)]
def cVs:List Val→List (List AV)
 | []=>[]
 | v::r=>cV v::cVs r
def cM:Mem→List AV
 | .mk s v=>.str s::cV v
def cMs:List Mem→List (List AV)
 | []=>[]
 | x::r=>cM x::cMs r
end
theorem Yp:∀ l,cVs l=l.map cV
 | []=>rfl
 | v::r=>by rw[cVs,Yp r];rfl
theorem Yi:∀ l,cMs l=l.map cM
 | []=>rfl
 | v::r=>by rw[cMs,Yi r];rfl
theorem zU (l:List Val):(cVs l).length=l.length:=by rw[Yp];simp
theorem zL (l:List Mem):(cMs l).length=l.length:=by rw[Yi];simp
theorem zZ {l a:List Val} {x:Val} {b:List Val} (h:l=a++x::b):(cVs l).getD a.length []=cV x:=by rw[Yp,getD_mid' h]
theorem zP {l a:List Mem} {x:Mem} {b:List Mem} (h:l=a++x::b):(cMs l).getD a.length []=cM x:=by rw[Yi,getD_mid' h]
theorem zk (k n:Int) (s:List UInt8) (l:List Val) (m:List Mem):cV (.mk k n s l m)=[.int .i64 k,.int .i64 n,.str s,.sl .no 5 (cVs l),.sl .no 6 (cMs m)]:=rfl
theorem zi (s:List UInt8) (v:Val):cM (.mk s v)=.str s::cV v:=rfl
theorem Yq (v:Val):(cV v).map AV.strip1=cV v:=by cases v;rfl
mutual
theorem Val.ind {P:Val→Prop} (h:∀ k n s l m,(∀ v∈l,P v)→(∀ s v,Mem.mk s v∈m→P v)→P (.mk k n s l m)):∀ v,P v
 | .mk k n s l m=>h k n s l m (Val.indL h l) (fun s v hm=>Val.indM h m s v hm)
theorem Val.indL {P:Val→Prop} (h:∀ k n s l m,(∀ v∈l,P v)→(∀ s v,Mem.mk s v∈m→P v)→P (.mk k n s l m)):∀ l:List Val,∀ v∈l,P v
 | [],_,hv=>by cases hv
 | x::r,v,hv=>(List.mem_cons.1 hv).elim (fun e=>e▸Val.ind h x) (Val.indL h r v)
theorem Val.ind1 {P:Val→Prop} (h:∀ k n s l m,(∀ v∈l,P v)→(∀ s v,Mem.mk s v∈m→P v)→P (.mk k n s l m)):∀ m:Mem,∀ s v,m=.mk s v→P v
 | .mk s v,s',v',e=>by cases e;exact Val.ind h v
theorem Val.indM {P:Val→Prop} (h:∀ k n s l m,(∀ v∈l,P v)→(∀ s v,Mem.mk s v∈m→P v)→P (.mk k n s l m)):∀ l:List Mem,∀ s v,Mem.mk s v∈l→P v
 | [],_,_,hv=>by cases hv
 | x::r,s,v,hv=>(List.mem_cons.1 hv).elim (fun e=>Val.ind1 h x s v e.symm) (Val.indM h r s v)
end
theorem zf (v:Val):(cV v).length=5:=by cases v;rfl
theorem ze (x:Mem):(cM x).length=6:=by cases x with|mk s v=>cases v;rfl
theorem zc (v:Val):(cV v).take 5=cV v:=by cases v;rfl
theorem zd (x:Mem):(cM x).take 6=cM x:=by cases x with|mk s v=>cases v;rfl
theorem za (a b c d e:AV) (v:Val):splice [a,b,c,d,e] 0 (cV v)=cV v:=by cases v;rfl
theorem zb (a b c d e f:AV) (x:Mem):splice [a,b,c,d,e,f] 0 (cM x)=cM x:=by cases x with|mk s v=>cases v;rfl
mutual
def bV:Val→Nat
 | .mk _ _ s l m=>1+s.length+bVs l+bMs m
def bVs:List Val→Nat
 | []=>0
 | v::r=>bV v+bVs r
def bM:Mem→Nat
 | .mk s v=>s.length+bV v
def bMs:List Mem→Nat
 | []=>0
 | x::r=>bM x+bMs r
end
theorem ZD (v:Val):1≤bV v:=by cases v;simp only[bV];omega
theorem ze7 (v:Mem):1≤bM v:=by cases v with|mk s v=>have:=ZD v;simp only[bM];omega
theorem yd:∀ l,l.length≤bVs l
 | []=>by simp
 | v::r=>by have:=yd r;have:=ZD v;simp only[bVs,Al2];omega
theorem zK:∀ l,l.length≤bMs l
 | []=>by simp
 | v::r=>by have:=zK r;have:=ze7 v;simp only[bMs,Al2];omega
theorem yL (a:List Val) (x:Val) (b:List Val):bVs (a++x::b)=bVs a+bV x+bVs b:=by
 induction a with
 | nil=>simp[bVs]
 | cons y a ih=>simp only[Al6,bVs,ih];omega
theorem zW (a:List Mem) (x:Mem) (b:List Mem):bMs (a++x::b)=bMs a+bM x+bMs b:=by
 induction a with
 | nil=>simp[bMs]
 | cons y a ih=>simp only[Al6,bMs,ih];omega
abbrev Lim:Nat:=1099511627776
theorem ze3:∀ v,bV v≤Lim→Pure Tryz.prog 110 [.agg (cV v)] (.int .i64 (bV v)):=by
 refine Val.ind fun k n s l m ihl ihm hb=>?_
 refine Pure.go ir110 ck110 (Al4 _) fun KP Q hQ=>?_
 have hl:=zU l
 have hm:=zL m
 have hll:=yd l
 have hml:=zK m
 have hb':1+s.length+bVs l+bMs m≤Lim:=hb
 simp only[Lim] at hb'
 simp(disch:=omega) only[ir110,zk,wrap64,go_sem]
 refine goL_range l 4 (fun n:Int=>[(3,.int .i64 n)]) (fun done rest n H=>n+bVs rest=1+s.length+bVs l∧H=Heap.emp) (1+s.length) (by simp(disch:=omega) only[go_sem]) ⟨by omega,rfl⟩ ?_ ?_
 ·rintro n H J ⟨hn,rfl⟩ hlt
  simp only[bVs] at hn
  simp(disch:=omega) only[hl,hlt,go_sem]
  refine goL_range m 5 (fun n:Int=>[(3,.int .i64 n)]) (fun done rest n H=>n+bMs rest=1+s.length+bVs l+bMs m∧H=Heap.emp) n (by simp(disch:=omega) only[go_sem]) ⟨by omega,rfl⟩ ?_ ?_
  ·rintro n H J ⟨hn,rfl⟩ hlt
   simp only[bMs] at hn
   simp(disch:=omega) only[hm,hlt,go_sem]
   have:n=((bV (.mk k n s l m):Nat):Int):=by simp only[bV];omega
   exact hQ _ _ _ _ nofun rfl (by simp[tupOf,envOf,AV.strip,AV.strip1,bV,this])
  ·rintro done x rest n H J hd hlt _ ⟨hn,rfl⟩ hJ
   have hg:=zP hd
   have hbm:=zW done x rest
   rw[← hd] at hbm
   cases x with
   | mk t v =>
   simp only[bMs,bM] at hn hbm
   simp(disch:=omega) only[zf,zc,za,ze,zd,zb,zi,hm,hlt,hg,wrap64,go_sem]
   refine goK_pure (ihm t v (by rw[hd];simp) (by simp only[Lim];omega)) ?_
   simp(disch:=omega) only[hl,hm,hlt,hg,zi,wrap64,go_sem]
   refine goJ (hJ (n+t.length+bV v) Heap.emp ⟨by omega,rfl⟩) (by simp(disch:=omega) only[go_sem])
 ·rintro done x rest n H J hd hlt _ ⟨hn,rfl⟩ hJ
  have hg:=zZ hd
  have hbm:=yL done x rest
  rw[← hd] at hbm
  simp only[bVs] at hn
  simp(disch:=omega) only[zf,zc,za,ze,zd,zb,zi,hl,hlt,hg,go_sem]
  refine goK_pure (ihl x (by rw[hd];simp) (by simp only[Lim];omega)) ?_
  simp(disch:=omega) only[wrap64,go_sem]
  refine goJ (hJ (n+bV x) Heap.emp ⟨by omega,rfl⟩) (by simp(disch:=omega) only[go_sem])
noncomputable def eqd {α:Type} (a b:α):Bool:=@decide (a=b) (Classical.propDecidable _)
theorem zI {α:Type} {a b:α} (h:a=b):eqd a b=true:=by simp[eqd,h]
theorem zl {α:Type} {a b:α} (h:a≠b):eqd a b=false:=by simp[eqd,h]
def cT (l:List (List UInt8)):List (List AV):=l.map fun k=>[.str k]
theorem zA (l:List (List UInt8)):(cT l).length=l.length:=by simp[cT]
theorem zdH (l:List (List UInt8)):(cT l).map (·.map AV.strip1)=cT l:=by simp[cT,AV.strip1]
theorem Zt {l a:List (List UInt8)} {x:List UInt8} {b:List (List UInt8)} (h:l=a++x::b):(cT l).getD a.length []=[.str x]:=getD_mid' h
theorem Yh {α:Type} {a b done rest:List α} {x:α} (h:a=done++x::rest) (hl:a.length=b.length) (hp:b.take done.length=done):∃ y r,b=done++y::r:=by
 have h1:done.length<b.length:=by rw[← hl,h];simp
 refine⟨b[done.length],b.drop (done.length+1),?_⟩
 conv=>lhs;rw[← List.take_append_drop done.length b,hp,List.drop_eq_getElem_cons h1]
theorem ZL {α:Type} {b done r:List α} {y:α} (h:b=done++y::r):b.take (done++[y]).length=done++[y]:=by
 subst h
 have e:done++y::r=(done++[y])++r:=by simp
 rw[e,List.take_left'];rfl
theorem Yt {α:Type} {a b:List α} (hl:a.length=b.length) (hp:b.take a.length=a):a=b:=by
 rw[hl,List.take_length] at hp;exact hp.symm
theorem zax {α:Type} {a b done rest r:List α} {x y:α} (h:a=done++x::rest) (h':b=done++y::r) (hxy:x≠y):a≠b:=fun e=>by
 rw[h,h'] at e
 exact hxy (List.cons.inj (List.append_cancel_left e)).1
mutual
def zJ:Val→Int
 | .mk k _ _ l m=>if k=6 then z7 l 0+1 else if k=7 then z8 m 0+1 else 0
def z7:List Val→Int→Int
 | [],n=>n
 | v::r,n=>z7 r (mm2 true n (zJ v))
def y7:Mem→Int
 | .mk _ v=>zJ v
def z8:List Mem→Int→Int
 | [],n=>n
 | x::r,n=>z8 r (mm2 true n (y7 x))
end
theorem zd2 (a b:Int):a≤mm2 true a b:=by simp only[mm2,if_true];split<;>omega
mutual
theorem Z2:∀ v,0≤zJ v∧zJ v≤bV v
 | .mk k n s l m=>by
  have h1:=Zy l 0
  have h2:=Zx m 0
  simp only[zJ,bV]
  split
  ·omega
  ·split<;>omega
theorem Zy:∀ l (n:Int),n≤z7 l n∧(z7 l n≤n∨z7 l n≤bVs l)
 | [],n=>by simp[z7,bVs]
 | v::r,n=>by
  have h1:=Z2 v
  have h2:=Zy r (mm2 true n (zJ v))
  have h3:=zd2 n (zJ v)
  have h4:mm2 true n (zJ v)=n∨mm2 true n (zJ v)=zJ v:=by simp only[mm2,if_true];split<;>simp
  simp only[z7,bVs]
  omega
theorem zc3:∀ x,0≤y7 x∧y7 x≤bM x
 | .mk s v=>by have:=Z2 v;simp only[y7,bM];omega
theorem Zx:∀ l (n:Int),n≤z8 l n∧(z8 l n≤n∨z8 l n≤bMs l)
 | [],n=>by simp[z8,bMs]
 | v::r,n=>by
  have h1:=zc3 v
  have h2:=Zx r (mm2 true n (y7 v))
  have h3:=zd2 n (y7 v)
  have h4:mm2 true n (y7 v)=n∨mm2 true n (y7 v)=y7 v:=by simp only[mm2,if_true];split<;>simp
  simp only[z8,bMs]
  omega
end
theorem za2:∀ v,bV v≤Lim→Pure Tryz.prog 266 [.agg (cV v)] (.int .i64 (zJ v)):=by
 refine Val.ind fun k n s l m ihl ihm hb=>?_
 refine Pure.go ir266 ck266 (Al4 _) fun KP Q hQ=>?_
 have hl:=zU l
 have hm:=zL m
 have hll:=yd l
 have hml:=zK m
 have hb':1+s.length+bVs l+bMs m≤Lim:=hb
 simp only[Lim] at hb'
 have d1:=Zy l 0
 have d2:=Zx m 0
 by_cases k6:k=6
 ·subst k6
  simp(disch:=omega) only[ir266,zk,hl,go_sem]
  refine goL_range l 15 (fun n:Int=>[(3,.int .i64 n)]) (fun done rest n H=>z7 rest n=z7 l 0) 0 (by simp(disch:=omega) only[go_sem]) rfl ?_ ?_
  ·rintro n H J hn hlt
   simp only[z7] at hn
   simp(disch:=omega) only[hl,hlt,wrap64,hn,go_sem]
   exact hQ _ _ _ _ nofun rfl (by simp[tupOf,envOf,AV.strip,AV.strip1,zJ])
  ·rintro done x rest n H J hd hlt _ hn hJ
   have hg:=zZ hd
   have hbm:=yL done x rest
   rw[← hd] at hbm
   simp only[z7] at hn
   simp(disch:=omega) only[zf,zc,za,ze,zd,zb,zi,hl,hlt,hg,go_sem]
   refine goA_intro fun b hb=>?_
   simp(disch:=omega) only[zf,zc,za,ze,zd,zb,zi,go_sem]
   refine goK_pure (ihl x (by rw[hd];simp) (by simp only[Lim];omega)) ?_
   simp(disch:=omega) only[wrap64,go_sem]
   exact goJ (hJ _ _ hn) (by simp(disch:=omega) only[go_sem])
 by_cases k7:k=7
 ·subst k7
  simp(disch:=omega) only[ir266,zk,hm,go_sem]
  refine goL_range m 29 (fun n:Int=>[(3,.int .i64 n)]) (fun done rest n H=>z8 rest n=z8 m 0) 0 (by simp(disch:=omega) only[go_sem]) rfl ?_ ?_
  ·rintro n H J hn hlt
   simp only[z8] at hn
   simp(disch:=omega) only[hm,hlt,wrap64,hn,go_sem]
   exact hQ _ _ _ _ nofun rfl (by simp[tupOf,envOf,AV.strip,AV.strip1,zJ])
  ·rintro done x rest n H J hd hlt _ hn hJ
   have hg:=zP hd
   have hbm:=zW done x rest
   rw[← hd] at hbm
   cases x with
   | mk t v =>
   simp only[z8,y7,bM] at hn hbm
   simp(disch:=omega) only[zf,zc,za,ze,zd,zb,zi,hm,hlt,hg,go_sem]
   refine goA_intro fun b hb=>?_
   simp(disch:=omega) only[zf,zc,za,ze,zd,zb,zi,go_sem]
   refine goK_pure (ihm t v (by rw[hd];simp) (by simp only[Lim];omega)) ?_
   simp(disch:=omega) only[wrap64,go_sem]
   exact goJ (hJ _ _ hn) (by simp(disch:=omega) only[go_sem])
 ·simp(disch:=omega) only[ir266,zk,k6,k7,go_sem]
  exact hQ _ _ _ _ nofun rfl (by simp[tupOf,envOf,AV.strip,AV.strip1,zJ,k6,k7])
theorem zeb:∀ v,bV v≤Lim→Pure Tryz.prog 253 [.agg (cV v)] (.int .i64 (zJ v)):=by
 refine Val.ind fun k n s l m ihl ihm hb=>?_
 refine Pure.go ir253 ck253 (Al4 _) fun KP Q hQ=>?_
 have hl:=zU l
 have hm:=zL m
 have hll:=yd l
 have hml:=zK m
 have hb':1+s.length+bVs l+bMs m≤Lim:=hb
 simp only[Lim] at hb'
 have d1:=Zy l 0
 have d2:=Zx m 0
 by_cases k6:k=6
 ·subst k6
  simp(disch:=omega) only[ir253,zk,hl,go_sem]
  refine goL_range l 4 (fun n:Int=>[(3,.int .i64 n)]) (fun done rest n H=>z7 rest n=z7 l 0) 0 (by simp(disch:=omega) only[go_sem]) rfl ?_ ?_
  ·rintro n H J hn hlt
   simp only[z7] at hn
   simp(disch:=omega) only[hl,hlt,wrap64,hn,go_sem]
   exact hQ _ _ _ _ nofun rfl (by simp[tupOf,envOf,AV.strip,AV.strip1,zJ])
  ·rintro done x rest n H J hd hlt _ hn hJ
   have hg:=zZ hd
   have hbm:=yL done x rest
   rw[← hd] at hbm
   simp only[z7] at hn
   simp(disch:=omega) only[zf,zc,za,ze,zd,zb,zi,hl,hlt,hg,go_sem]
   refine goK_pure (ihl x (by rw[hd];simp) (by simp only[Lim];omega)) ?_
   simp(disch:=omega) only[wrap64,go_sem]
   exact goJ (hJ _ _ hn) (by simp(disch:=omega) only[go_sem])
 by_cases k7:k=7
 ·subst k7
  simp(disch:=omega) only[ir253,zk,hm,go_sem]
  refine goL_range m 5 (fun n:Int=>[(3,.int .i64 n)]) (fun done rest n H=>z8 rest n=z8 m 0) 0 (by simp(disch:=omega) only[go_sem]) rfl ?_ ?_
  ·rintro n H J hn hlt
   simp only[z8] at hn
   simp(disch:=omega) only[hm,hlt,wrap64,hn,go_sem]
   exact hQ _ _ _ _ nofun rfl (by simp[tupOf,envOf,AV.strip,AV.strip1,zJ])
  ·rintro done x rest n H J hd hlt _ hn hJ
   have hg:=zP hd
   have hbm:=zW done x rest
   rw[← hd] at hbm
   cases x with
   | mk t v =>
   simp only[z8,y7,bM] at hn hbm
   simp(disch:=omega) only[zf,zc,za,ze,zd,zb,zi,hm,hlt,hg,go_sem]
   refine goK_pure (ihm t v (by rw[hd];simp) (by simp only[Lim];omega)) ?_
   simp(disch:=omega) only[wrap64,go_sem]
   exact goJ (hJ _ _ hn) (by simp(disch:=omega) only[go_sem])
 ·simp(disch:=omega) only[ir253,zk,k6,k7,go_sem]
  exact hQ _ _ _ _ nofun rfl (by simp[tupOf,envOf,AV.strip,AV.strip1,zJ,k6,k7])
def zV:Val:=.mk 0 0 [] [] []
theorem zcR:cV zV=[.int .i64 0,.int .i64 0,.str [],.sl .no 5 [],.sl .no 6 []]:=rfl
structure Tok where
 k:Int
 s:List UInt8
def cK (t:Tok):List AV:=[.int .i64 t.k,.str t.s]
def cKs (l:List Tok):List (List AV):=l.map cK
theorem Ye (a b:List Tok):cKs (a++b)=cKs a++cKs b:=by simp[cKs]
theorem zu (l:List Tok):(cKs l).length=l.length:=by simp[cKs]
theorem yv (l:List Tok):(cKs l).map (·.map AV.strip1)=cKs l:=by simp[cKs,cK,AV.strip1]
theorem zcJ {l a:List Tok} {x:Tok} {b:List Tok} (h:l=a++x::b):(cKs l).getD a.length []=[.int .i64 x.k,.str x.s]:=getD_mid' h
theorem zer (f:FuncId) (hf:Program.callable Tryz.prog f=true) (a b:List Val) (ha:a.length≤Lim) (hc:∀ x∈a,∀ y,Pure Tryz.prog f [.agg (cV x),.agg (cV y)] (.bool (eqd x y))) :
  Pure Tryz.prog 262 [.sl .no 5 (cVs a),.sl .no 5 (cVs b),.clo f [] []] (.bool (eqd a b)):=by
 refine Pure.go ir262 ck262 (Al4 _) fun KP Q hQ=>?_
 have h1:=zU a
 have h2:=zU b
 simp only[Lim] at ha
 by_cases hl:a.length=b.length
 case neg =>
  have hl':¬ ((a.length:Int)=b.length):=by omega
  have hne:a≠b:=fun e=>hl (by rw[e])
  simp(disch:=omega) only[ir262,h1,h2,hl',go_sem]
  exact hQ _ _ _ _ nofun rfl (by simp[tupOf,envOf,AV.strip,AV.strip1,zl hne])
 have hl':((a.length:Int)=b.length)=True:=eq_true (by omega)
 simp(disch:=omega) only[ir262,h1,h2,hl',go_sem]
 refine goL_range a 17 (fun _:Unit=>[]) (fun done rest n H=>b.take done.length=done) () (by simp(disch:=omega) only[go_sem]) rfl ?_ ?_
 ·rintro n H J hp hlt
  simp(disch:=omega) only[h1,hlt,go_sem]
  exact hQ _ _ _ _ nofun rfl (by simp[tupOf,envOf,AV.strip,AV.strip1,zI (Yt hl hp)])
 ·rintro done x rest n H J hd hlt _ hp hJ
  obtain⟨y,r,hb⟩:=Yh hd hl hp
  have g1:=zZ hd
  have g2:=zZ hb
  have hlt2:(done.length:Int)<b.length:=by omega
  simp(disch:=omega) only[zf,zc,za,ze,zd,zb,zi,h1,h2,hlt,hlt2,g1,g2,go_sem]
  refine goA_intro fun b1 hb1=>?_
  simp(disch:=omega) only[zf,zc,za,ze,zd,zb,zi,h1,h2,hlt,hlt2,g1,g2,go_sem]
  refine goA_intro fun b2 hb2=>?_
  have hne:=ne_fresh hb2
  simp(disch:=omega) only[zf,zc,za,ze,zd,zb,zi,Ne.symm hne,hne,go_sem]
  refine⟨hf,goK_pure (hc x (by rw[hd];simp) y) ?_⟩
  by_cases hxy:x=y
  ·simp(disch:=omega) only[zI hxy,go_sem]
   exact goJ (hJ () _ (by rw[hxy];exact ZL hb)) (by simp(disch:=omega) only[wrap64,go_sem])
  ·simp(disch:=omega) only[zl hxy,go_sem]
   exact hQ _ _ _ _ nofun rfl (by simp[tupOf,envOf,AV.strip,AV.strip1,zl (zax hd hb hxy)])
theorem zev (f:FuncId) (hf:Program.callable Tryz.prog f=true) (a b:List Mem) (ha:a.length≤Lim) (hc:∀ x∈a,∀ y,Pure Tryz.prog f [.agg (cM x),.agg (cM y)] (.bool (eqd x y))) :
  Pure Tryz.prog 263 [.sl .no 6 (cMs a),.sl .no 6 (cMs b),.clo f [] []] (.bool (eqd a b)):=by
 refine Pure.go ir263 ck263 (Al4 _) fun KP Q hQ=>?_
 have h1:=zL a
 have h2:=zL b
 simp only[Lim] at ha
 by_cases hl:a.length=b.length
 case neg =>
  have hl':¬ ((a.length:Int)=b.length):=by omega
  have hne:a≠b:=fun e=>hl (by rw[e])
  simp(disch:=omega) only[ir263,h1,h2,hl',go_sem]
  exact hQ _ _ _ _ nofun rfl (by simp[tupOf,envOf,AV.strip,AV.strip1,zl hne])
 have hl':((a.length:Int)=b.length)=True:=eq_true (by omega)
 simp(disch:=omega) only[ir263,h1,h2,hl',go_sem]
 refine goL_range a 17 (fun _:Unit=>[]) (fun done rest n H=>b.take done.length=done) () (by simp(disch:=omega) only[go_sem]) rfl ?_ ?_
 ·rintro n H J hp hlt
  simp(disch:=omega) only[h1,hlt,go_sem]
  exact hQ _ _ _ _ nofun rfl (by simp[tupOf,envOf,AV.strip,AV.strip1,zI (Yt hl hp)])
 ·rintro done x rest n H J hd hlt _ hp hJ
  obtain⟨y,r,hb⟩:=Yh hd hl hp
  have g1:=zP hd
  have g2:=zP hb
  have hlt2:(done.length:Int)<b.length:=by omega
  simp(disch:=omega) only[zf,zc,za,ze,zd,zb,zi,h1,h2,hlt,hlt2,g1,g2,go_sem]
  refine goA_intro fun b1 hb1=>?_
  simp(disch:=omega) only[zf,zc,za,ze,zd,zb,zi,h1,h2,hlt,hlt2,g1,g2,go_sem]
  refine goA_intro fun b2 hb2=>?_
  have hne:=ne_fresh hb2
  simp(disch:=omega) only[zf,zc,za,ze,zd,zb,zi,Ne.symm hne,hne,go_sem]
  refine⟨hf,goK_pure (hc x (by rw[hd];simp) y) ?_⟩
  by_cases hxy:x=y
  ·simp(disch:=omega) only[zI hxy,go_sem]
   exact goJ (hJ () _ (by rw[hxy];exact ZL hb)) (by simp(disch:=omega) only[wrap64,go_sem])
  ·simp(disch:=omega) only[zl hxy,go_sem]
   exact hQ _ _ _ _ nofun rfl (by simp[tupOf,envOf,AV.strip,AV.strip1,zl (zax hd hb hxy)])
theorem zef (s t:List UInt8) (v u:Val) (hc:Pure Tryz.prog 244 [.agg (cV v),.agg (cV u)] (.bool (eqd v u))):Pure Tryz.prog 264 [.agg (cM (.mk s v)),.agg (cM (.mk t u))] (.bool (eqd (Mem.mk s v) (Mem.mk t u))):=by
 refine Pure.go ir264 ck264 (Al4 _) fun KP Q hQ=>?_
 by_cases h1:s=t
 ·simp(disch:=omega) only[zf,zc,za,ze,zd,zb,zi,ir264,h1,go_sem]
  refine goK_pure hc ?_
  simp(disch:=omega) only[go_sem]
  have:eqd (Mem.mk t v) (Mem.mk t u)=eqd v u:=by
   by_cases h:v=u
   ·rw[zI h,zI (by rw[h])]
   ·rw[zl h,zl (by simp[h])]
  exact hQ _ _ _ _ nofun rfl (by simp[tupOf,envOf,AV.strip,AV.strip1,this,h1])
 ·simp(disch:=omega) only[zf,zc,za,ze,zd,zb,zi,ir264,h1,go_sem]
  have:eqd (Mem.mk s v) (Mem.mk t u)=false:=zl (by simp[h1])
  exact hQ _ _ _ _ nofun rfl (by simp[tupOf,envOf,AV.strip,AV.strip1,this])
theorem zfC:∀ v,bV v≤Lim→∀ u,Pure Tryz.prog 244 [.agg (cV v),.agg (cV u)] (.bool (eqd v u)):=by
 refine Val.ind fun k n s l m ihl ihm hb u=>?_
 obtain⟨k',n',s',l',m'⟩:=u
 have hb':1+s.length+bVs l+bMs m≤Lim:=hb
 have hll:=yd l
 have hml:=zK m
 have il:∀ x∈l,∀ y,Pure Tryz.prog 244 [.agg (cV x),.agg (cV y)] (.bool (eqd x y)):=fun x hx y=>by
  obtain⟨a,b,hd⟩:=List.append_of_mem hx
  have:=yL a x b
  rw[← hd] at this
  exact ihl x hx (by omega) y
 have im:∀ x∈m,∀ y,Pure Tryz.prog 264 [.agg (cM x),.agg (cM y)] (.bool (eqd x y)):=fun x hx y=>by
  obtain⟨a,b,hd⟩:=List.append_of_mem hx
  have:=zW a x b
  rw[← hd] at this
  obtain⟨t,v⟩:=x
  obtain⟨t',v'⟩:=y
  simp only[bM] at this
  exact zef t t' v v' (ihm t v hx (by omega) v')
 refine Pure.go ir244 ck244 (Al4 _) fun KP Q hQ=>?_
 by_cases h1:k=k'
 case neg =>
  have hne:¬ (Val.mk k n s l m=Val.mk k' n' s' l' m'):=by simp[h1]
  simp(disch:=omega) only[ir244,zk,h1,go_sem]
  exact hQ _ _ _ _ nofun rfl (by simp[tupOf,envOf,AV.strip,AV.strip1,zl hne])
 by_cases h2:n=n'
 case neg =>
  have hne:¬ (Val.mk k n s l m=Val.mk k' n' s' l' m'):=by simp[h2]
  simp(disch:=omega) only[ir244,zk,h1,h2,go_sem]
  exact hQ _ _ _ _ nofun rfl (by simp[tupOf,envOf,AV.strip,AV.strip1,zl hne])
 by_cases h3:s=s'
 case neg =>
  have hne:¬ (Val.mk k n s l m=Val.mk k' n' s' l' m'):=by simp[h3]
  simp(disch:=omega) only[ir244,zk,h1,h2,h3,go_sem]
  exact hQ _ _ _ _ nofun rfl (by simp[tupOf,envOf,AV.strip,AV.strip1,zl hne])
 simp(disch:=omega) only[ir244,zk,h1,h2,h3,go_sem]
 refine goK_pure (zer _ (by kernel_rfl) l l' (by omega) il) ?_
 by_cases h4:l=l'
 case neg =>
  have hne:¬ (Val.mk k n s l m=Val.mk k' n' s' l' m'):=by simp[h4]
  simp(disch:=omega) only[zl h4,go_sem]
  exact hQ _ _ _ _ nofun rfl (by simp[tupOf,envOf,AV.strip,AV.strip1,zl hne])
 simp(disch:=omega) only[zI h4,go_sem]
 refine goK_pure (zev _ (by kernel_rfl) m m' (by omega) im) ?_
 simp(disch:=omega) only[go_sem]
 have:eqd (Val.mk k n s l m) (Val.mk k' n' s' l' m')=eqd m m':=by
  by_cases h:m=m'
  ·rw[zI h,zI (by rw[h1,h2,h3,h4,h])]
  ·rw[zl h,zl (by simp[h])]
 exact hQ _ _ _ _ nofun rfl (by simp[tupOf,envOf,AV.strip,AV.strip1,this])
theorem zbQ (a b:List Mem) (ha:a.length≤Lim) (hc:∀ s v,Mem.mk s v∈a→∀ u,Pure Tryz.prog 15 [.agg (cV v),.agg (cV u)] (.bool (eqd v u))) :
  Pure Tryz.prog 40 [.sl .no 6 (cMs a),.sl .no 6 (cMs b)] (.bool (eqd a b)):=by
 refine Pure.go ir40 ck40 (Al4 _) fun KP Q hQ=>?_
 have h1:=zL a
 have h2:=zL b
 simp only[Lim] at ha
 by_cases hl:a.length=b.length
 case neg =>
  have hl':¬ ((a.length:Int)=b.length):=by omega
  have hne:a≠b:=fun e=>hl (by rw[e])
  simp(disch:=omega) only[ir40,h1,h2,hl',go_sem]
  exact hQ _ _ _ _ nofun rfl (by simp[tupOf,envOf,AV.strip,AV.strip1,zl hne])
 have hl':((a.length:Int)=b.length)=True:=eq_true (by omega)
 simp(disch:=omega) only[ir40,h1,h2,hl',go_sem]
 refine goL_range a 5 (fun _:Unit=>[]) (fun done rest n H=>b.take done.length=done) () (by simp(disch:=omega) only[go_sem]) rfl ?_ ?_
 ·rintro n H J hp hlt
  simp(disch:=omega) only[h1,hlt,go_sem]
  exact hQ _ _ _ _ nofun rfl (by simp[tupOf,envOf,AV.strip,AV.strip1,zI (Yt hl hp)])
 ·rintro done x rest n H J hd hlt _ hp hJ
  obtain⟨y,r,hb⟩:=Yh hd hl hp
  have g1:=zP hd
  have g2:=zP hb
  have hlt2:(done.length:Int)<b.length:=by omega
  have hmem:x∈a:=by rw[hd];simp
  have hst:=ZL hb
  have hne:x≠y→a≠b:=zax hd hb
  obtain⟨s,v⟩:=x
  obtain⟨t,u⟩:=y
  by_cases hs:s=t
  case neg =>
   have hne2:=hne (by simp[hs])
   simp(disch:=omega) only[zf,zc,za,ze,zd,zb,zi,h1,h2,hlt,hlt2,g1,g2,hs,go_sem]
   exact hQ _ _ _ _ nofun rfl (by simp[tupOf,envOf,AV.strip,AV.strip1,zl hne2])
  simp(disch:=omega) only[zf,zc,za,ze,zd,zb,zi,h1,h2,hlt,hlt2,g1,g2,hs,go_sem]
  refine goK_pure (hc s v hmem u) ?_
  by_cases hv:v=u
  ·simp(disch:=omega) only[zI hv,go_sem]
   exact goJ (hJ () _ (by rw[hs,hv];exact hst)) (by simp(disch:=omega) only[wrap64,go_sem])
  ·have:=hne (by simp[hv])
   simp(disch:=omega) only[zl hv,go_sem]
   exact hQ _ _ _ _ nofun rfl (by simp[tupOf,envOf,AV.strip,AV.strip1,zl this])
theorem zdw:∀ v,bV v≤Lim→∀ u,Pure Tryz.prog 15 [.agg (cV v),.agg (cV u)] (.bool (eqd v u)):=by
 refine Val.ind fun k n s l m ihl ihm hb u=>?_
 obtain⟨k',n',s',l',m'⟩:=u
 have hb':1+s.length+bVs l+bMs m≤Lim:=hb
 have hll:=yd l
 have hml:=zK m
 have il:∀ x∈l,∀ y,Pure Tryz.prog 15 [.agg (cV x),.agg (cV y)] (.bool (eqd x y)):=fun x hx y=>by
  obtain⟨a,b,hd⟩:=List.append_of_mem hx
  have:=yL a x b
  rw[← hd] at this
  exact ihl x hx (by omega) y
 have im:∀ s v,Mem.mk s v∈m→∀ u,Pure Tryz.prog 15 [.agg (cV v),.agg (cV u)] (.bool (eqd v u)):=fun t v hx u=>by
  obtain⟨a,b,hd⟩:=List.append_of_mem hx
  have:=zW a (.mk t v) b
  rw[← hd] at this
  simp only[bM] at this
  exact ihm t v hx (by omega) u
 refine Pure.go ir15 ck15 (Al4 _) fun KP Q hQ=>?_
 have hlb:=zU l
 have hlb':=zU l'
 by_cases h1:k=k'
 case neg =>
  have hne:¬ (Val.mk k n s l m=Val.mk k' n' s' l' m'):=by simp[h1]
  simp(disch:=omega) only[ir15,zk,h1,go_sem]
  exact hQ _ _ _ _ nofun rfl (by simp[tupOf,envOf,AV.strip,AV.strip1,zl hne])
 by_cases h2:n=n'
 case neg =>
  have hne:¬ (Val.mk k n s l m=Val.mk k' n' s' l' m'):=by simp[h2]
  simp(disch:=omega) only[ir15,zk,h1,h2,go_sem]
  exact hQ _ _ _ _ nofun rfl (by simp[tupOf,envOf,AV.strip,AV.strip1,zl hne])
 by_cases h3:s=s'
 case neg =>
  have hne:¬ (Val.mk k n s l m=Val.mk k' n' s' l' m'):=by simp[h3]
  simp(disch:=omega) only[ir15,zk,h1,h2,h3,go_sem]
  exact hQ _ _ _ _ nofun rfl (by simp[tupOf,envOf,AV.strip,AV.strip1,zl hne])
 by_cases hl:l.length=l'.length
 case neg =>
  have hl':¬ ((l.length:Int)=l'.length):=by omega
  have hne:¬ (Val.mk k n s l m=Val.mk k' n' s' l' m'):=by simp only[Val.mk.injEq];rintro⟨_,_,_,e,_⟩;exact hl (by rw[e])
  simp(disch:=omega) only[ir15,zk,h1,h2,h3,hlb,hlb',hl',go_sem]
  exact hQ _ _ _ _ nofun rfl (by simp[tupOf,envOf,AV.strip,AV.strip1,zl hne])
 have hl':((l.length:Int)=l'.length)=True:=eq_true (by omega)
 simp(disch:=omega) only[ir15,zk,h1,h2,h3,hlb,hlb',hl',go_sem]
 simp only[Lim] at hb'
 refine goL_range l 5 (fun _:Unit=>[]) (fun done rest n H=>l'.take done.length=done) () (by simp(disch:=omega) only[go_sem]) rfl ?_ ?_
 ·rintro _ H J hp hlt
  have e4:=Yt hl hp
  simp(disch:=omega) only[hlb,hlt,go_sem]
  refine goK_pure (zbQ m m' (by simp only[Lim];omega) im) ?_
  simp(disch:=omega) only[go_sem]
  have:eqd (Val.mk k n s l m) (Val.mk k' n' s' l' m')=eqd m m':=by
   by_cases h:m=m'
   ·rw[zI h,zI (by rw[h1,h2,h3,e4,h])]
   ·rw[zl h,zl (by simp[h])]
  exact hQ _ _ _ _ nofun rfl (by simp[tupOf,envOf,AV.strip,AV.strip1,this])
 ·rintro done x rest _ H J hd hlt _ hp hJ
  obtain⟨y,r,hb⟩:=Yh hd hl hp
  have g1:=zZ hd
  have g2:=zZ hb
  have hlt2:(done.length:Int)<l'.length:=by omega
  simp(disch:=omega) only[zf,zc,za,ze,zd,zb,zi,hlb,hlb',hlt,hlt2,g1,g2,go_sem]
  refine goK_pure (il x (by rw[hd];simp) y) ?_
  by_cases hxy:x=y
  ·simp(disch:=omega) only[zI hxy,go_sem]
   exact goJ (hJ () _ (by rw[hxy];exact ZL hb)) (by simp(disch:=omega) only[wrap64,go_sem])
  ·have hne:¬ (Val.mk k n s l m=Val.mk k' n' s' l' m'):=by simp only[Val.mk.injEq];rintro⟨_,_,_,e,_⟩;exact zax hd hb hxy e
   simp(disch:=omega) only[zl hxy,go_sem]
   exact hQ _ _ _ _ nofun rfl (by simp[tupOf,envOf,AV.strip,AV.strip1,zl hne])
theorem zdl (m:List Mem) (hm:bMs m≤Lim) (hc:∀ s v,Mem.mk s v∈m→Pure Tryz.prog 186 [.agg (cV v)] (.agg (cV v))):Pure Tryz.prog 136 [.sl .no 6 (cMs m)] (.sl .no 6 (cMs m)):=by
 refine Pure.go ir136 ck136 (Al4 _) fun KP Q hQ=>?_
 have h1:=zL m
 have hml:=zK m
 simp only[Lim] at hm
 simp(disch:=omega) only[ir136,go_sem]
 refine goL_range m 4 (fun x:Own×List Mem=>[(3,.sl x.1 6 (cMs x.2))]) (fun done rest x H=>x.2=done∧OwnF Heap.emp H x.1 done.length 6) (.nil,[]) (by simp(disch:=omega) only[cMs,go_sem]) ⟨rfl,OwnF.nil _ _⟩ ?_ ?_
 ·rintro⟨o,done⟩ H J ⟨rfl,ho⟩ hlt
  simp(disch:=omega) only[h1,hlt,go_sem]
  exact hQ _ _ _ _ nofun rfl (by simp[tupOf,envOf,AV.strip,AV.strip1])
 ·rintro done x rest ⟨o,ds⟩ H J hd hlt hlt' ⟨hds,ho⟩ hJ
  simp only at hds ho hJ ⊢
  obtain rfl:done=ds:=hds.symm
  have hg:=zP hd
  have hmem:x∈m:=by rw[hd];simp
  have h2:=zL done
  obtain⟨s,v⟩:=x
  simp(disch:=omega) only[zf,zc,za,ze,zd,zb,zi,h1,hlt,hg,go_sem]
  refine goK_pure (hc s v hmem) ?_
  simp(disch:=omega) only[zf,zc,za,ze,zd,zb,zi,h1,hlt,hg,go_sem]
  refine goP_ownS (by rw[h2];exact ho.own) ?_ ?_ fun o' H' hs=>?_
  ·simp only[h2,Al2,Al3];omega
  ·simp only[h2,Al2,Al3,maxLen];omega
  rw[h2] at hs
  simp(disch:=omega) only[wrap64,go_sem]
  refine goJ (hJ (o',done++[.mk s v]) H' ⟨rfl,(ho.stepS hs).cast (by simp)⟩) (by simp(disch:=omega) only[Yi,List.map_append,List.map_cons,zi,Yq,AV.strip1,go_sem])
theorem copyV:∀ v,bV v≤Lim→Pure Tryz.prog 186 [.agg (cV v)] (.agg (cV v)):=by
 refine Val.ind fun k n s l m ihl ihm hb=>?_
 have hb':1+s.length+bVs l+bMs m≤Lim:=hb
 have hll:=yd l
 have hml:=zK m
 have il:∀ x∈l,Pure Tryz.prog 186 [.agg (cV x)] (.agg (cV x)):=fun x hx=>by
  obtain⟨a,b,hd⟩:=List.append_of_mem hx
  have:=yL a x b
  rw[← hd] at this
  exact ihl x hx (by omega)
 have im:∀ s v,Mem.mk s v∈m→Pure Tryz.prog 186 [.agg (cV v)] (.agg (cV v)):=fun t v hx=>by
  obtain⟨a,b,hd⟩:=List.append_of_mem hx
  have:=zW a (.mk t v) b
  rw[← hd] at this
  simp only[bM] at this
  exact ihm t v hx (by omega)
 refine Pure.go ir186 ck186 (Al4 _) fun KP Q hQ=>?_
 have h1:=zU l
 simp(disch:=omega) only[ir186,zk,go_sem]
 refine goA_intro fun b hb=>?_
 simp(disch:=omega) only[go_sem]
 refine goA_intro fun b2 hb2=>?_
 have hne:=ne_fresh hb2
 have hb0:=fresh_of hb2
 simp(disch:=omega) only[go_sem]
 simp only[Lim] at hb'
 refine goL_range l 4 (fun x:Own×List Val=>[(3,.sl x.1 5 (cVs x.2))]) (fun done rest x H=>x.2=done∧OwnF ((Heap.emp.upd b (.cells [.int .i64 k,.int .i64 n,.str s,.sl .no 5 (cVs l),.sl .no 6 (cMs m)])).upd b2 (.cells [.int .i64 0,.int .i64 0,.str [],.sl .nil 5 [],.sl .nil 6 []])) H x.1 done.length 5) (.nil,[]) (by simp(disch:=omega) only[cVs,go_sem]) ⟨rfl,OwnF.nil _ _⟩ ?_ ?_
 ·rintro⟨o,done⟩ H J ⟨rfl,ho⟩ hlt
  have e1:H b=some (.cells [.int .i64 k,.int .i64 n,.str s,.sl .no 5 (cVs done),.sl .no 6 (cMs m)]):=ho.sub b _ (by simp[Heap.upd,Ne.symm hne])
  have e2:H b2=some (.cells [.int .i64 0,.int .i64 0,.str [],.sl .nil 5 [],.sl .nil 6 []]):=ho.sub b2 _ (by simp[Heap.upd])
  simp(disch:=omega) only[h1,hlt,e1,go_sem]
  refine goK_pure (zdl m (by simp only[Lim];omega) im) ?_
  simp(disch:=omega) only[e1,e2,hne,Ne.symm hne,go_sem]
  refine hQ _ _ _ [.agg [.int .i64 k,.int .i64 n,.str s,.sl o 5 (cVs done),.sl .no 6 (cMs m)]] nofun (by simp(disch:=omega) only[ir186,resvs,resv,hne,Ne.symm hne,go_sem]) ?_
  simp[tupOf,AV.strip,AV.strip1,zk]
 ·rintro done x rest ⟨o,ds⟩ H J hd hlt hlt' ⟨hds,ho⟩ hJ
  simp only at hds ho hJ ⊢
  obtain rfl:done=ds:=hds.symm
  have hg:=zZ hd
  have hmem:x∈l:=by rw[hd];simp
  have h2:=zU done
  have e1:H b=some (.cells [.int .i64 k,.int .i64 n,.str s,.sl .no 5 (cVs l),.sl .no 6 (cMs m)]):=ho.sub b _ (by simp[Heap.upd,Ne.symm hne])
  simp(disch:=omega) only[zf,zc,za,ze,zd,zb,zi,h1,hlt,hg,e1,go_sem]
  refine goK_pure (il x hmem) ?_
  simp(disch:=omega) only[zf,zc,za,ze,zd,zb,zi,h1,hlt,hg,go_sem]
  refine goP_ownS (by rw[h2];exact ho.own) ?_ ?_ fun o' H' hs=>?_
  ·simp only[h2,Al2,Al3];omega
  ·simp only[h2,Al2,Al3,maxLen];omega
  rw[h2] at hs
  simp(disch:=omega) only[wrap64,go_sem]
  refine goJ (hJ (o',done++[x]) H' ⟨rfl,(ho.stepS hs).cast (by simp)⟩) (by simp(disch:=omega) only[Yp,List.map_append,List.map_cons,Yq,AV.strip1,go_sem])
abbrev zc4 (H:Heap) (o:Own) (sz:Nat) (xs:List (List AV)):AV→Heap→Prop:=fun v H'=>∃ o',v=.sl o' sz xs∧OwnS H o H' o' xs.length sz
abbrev zbV (P:Program) (f:FuncId) (args:List AV) (H:Heap) (o:Own) (sz:Nat) (xs:List (List AV)):Prop :=
 ACalls P f args H (fun e H'=>match e with|.ret v=>zc4 H o sz xs v H'|.pan _=>False)
theorem yc {P:Program} {KP:AV→Heap→Prop} {Q:AExit→Env→Heap→Prop} {st:List Fr} {ρ:Env} {H:Heap} {all l:List AItem} {d:Option Nat} {R:List Chk} {f:FuncId} {args:List AV} {o:Own} {sz:Nat} {xs:List (List AV)}
  (h:zbV P f args H o sz xs) (hk:∀ o' H',OwnS H o H' o' xs.length sz→goR P KP Q all l st R (ρ.set d (.sl o' sz xs)) H'):goK P KP Q all l st d R ρ f args H :=
 goK_both (XP:=fun _ _=>False) h (fun v H' ⟨o',e,hs⟩=>by subst e;exact hk o' H' hs) (fun _ _ h=>h.elim)
def Zr (s:List UInt8):List (List UInt8)→Bool
 | []=>false
 | x::r=>if x=s then true else Zr s r
theorem zeu (l:List (List UInt8)) (s:List UInt8) (hl:l.length≤Lim):Pure Tryz.prog 145 [.sl .no 1 (cT l),.str s] (.bool (Zr s l)):=by
 refine Pure.go ir145 ck145 (Al4 _) fun KP Q hQ=>?_
 have h1:=zA l
 simp only[Lim] at hl
 simp(disch:=omega) only[ir145,go_sem]
 refine goL_range l 5 (fun _:Unit=>[]) (fun done rest n H=>Zr s rest=Zr s l) () (by simp(disch:=omega) only[go_sem]) rfl ?_ ?_
 ·rintro n H J hn hlt
  simp(disch:=omega) only[h1,hlt,go_sem]
  simp only[Zr] at hn
  exact hQ _ _ _ _ nofun rfl (by simp[tupOf,envOf,AV.strip,AV.strip1,← hn])
 ·rintro done x rest n H J hd hlt _ hn hJ
  have hg:=Zt hd
  simp only[Zr] at hn
  by_cases hx:x=s
  ·simp only[hx,if_true] at hn
   simp(disch:=omega) only[h1,hlt,hg,hx,go_sem]
   exact hQ _ _ _ _ nofun rfl (by simp[tupOf,envOf,AV.strip,AV.strip1,← hn])
  ·simp only[hx,if_false] at hn
   simp(disch:=omega) only[h1,hlt,hg,hx,go_sem]
   exact goJ (hJ () _ hn) (by simp(disch:=omega) only[wrap64,go_sem])
def za1 (s:List UInt8):List (List UInt8)→Int→Int
 | [],_=>-1
 | x::r,i=>if s=x then i else za1 s r (i+1)
theorem zbJ (s:List UInt8):∀ l (i:Int),0≤i→decide (0≤za1 s l i)=Zr s l
 | [],i,_=>by simp[za1,Zr]
 | x::r,i,hi=>by
  simp only[za1,Zr]
  by_cases h:s=x
  ·simp[h];omega
  ·simp only[h,Ne.symm h,if_false];exact zbJ s r (i+1) (by omega)
theorem zfd (l:List (List UInt8)) (s:List UInt8) (hl:l.length≤Lim):Pure Tryz.prog 291 [.sl .no 1 (cT l),.str s] (.int .i64 (za1 s l 0)):=by
 refine Pure.go ir291 ck291 (Al4 _) fun KP Q hQ=>?_
 have h1:=zA l
 simp only[Lim] at hl
 simp(disch:=omega) only[ir291,h1,go_sem]
 refine goL_range l 8 (fun _:Unit=>[]) (fun done rest n H=>za1 s rest done.length=za1 s l 0) () (by simp(disch:=omega) only[go_sem]) rfl ?_ ?_
 ·rintro n H J hn hlt
  simp(disch:=omega) only[h1,hlt,go_sem]
  simp only[za1] at hn
  exact hQ _ _ _ _ nofun rfl (by simp[tupOf,envOf,AV.strip,AV.strip1,← hn])
 ·rintro done x rest n H J hd hlt _ hn hJ
  have hg:=Zt hd
  simp only[za1] at hn
  by_cases hx:s=x
  ·subst hx
   simp only[if_true] at hn
   simp(disch:=omega) only[h1,hlt,hg,go_sem]
   exact hQ _ _ _ _ nofun rfl (by simp[tupOf,envOf,AV.strip,AV.strip1,← hn])
  ·simp only[hx,if_false] at hn
   simp(disch:=omega) only[h1,hlt,hg,hx,go_sem]
   exact goJ (hJ () _ (by simpa using hn)) (by simp(disch:=omega) only[wrap64,go_sem])
theorem zc8 (l:List (List UInt8)) (s:List UInt8) (hl:l.length≤Lim):Pure Tryz.prog 283 [.sl .no 1 (cT l),.str s] (.bool (Zr s l)):=by
 refine Pure.go ir283 ck283 (Al4 _) fun KP Q hQ=>?_
 simp(disch:=omega) only[ir283,go_sem]
 refine goK_pure (zfd l s hl) ?_
 simp(disch:=omega) only[go_sem]
 have:=zbJ s l 0 (by omega)
 exact hQ _ _ _ _ nofun rfl (by simp[tupOf,envOf,AV.strip,AV.strip1,this])
mutual
def zy:Val→List (List UInt8)→List (List UInt8)
 | .mk k _ s l m,acc=>if k=8 then (if Zr s acc then acc else acc++[s]) else if k=6 then yo l acc else if k=7 then yr m acc else acc
def yo:List Val→List (List UInt8)→List (List UInt8)
 | [],acc=>acc
 | v::r,acc=>yo r (zy v acc)
def zaL:Mem→List (List UInt8)→List (List UInt8)
 | .mk _ v,acc=>zy v acc
def yr:List Mem→List (List UInt8)→List (List UInt8)
 | [],acc=>acc
 | x::r,acc=>yr r (zaL x acc)
end
mutual
theorem ZQ:∀ v acc,(zy v acc).length≤acc.length+bV v
 | .mk k n s l m,acc=>by
  have h1:=zaT l acc
  have h2:=zaN m acc
  simp only[zy,bV]
  split
  ·split
   ·omega
   ·simp;omega
  ·split
   ·omega
   ·split<;>omega
theorem zaT:∀ l acc,(yo l acc).length≤acc.length+bVs l
 | [],acc=>by simp[yo]
 | v::r,acc=>by
  have h1:=ZQ v acc
  have h2:=zaT r (zy v acc)
  simp only[yo,bVs];omega
theorem zap:∀ x acc,(zaL x acc).length≤acc.length+bM x
 | .mk s v,acc=>by have:=ZQ v acc;simp only[zaL,bM];omega
theorem zaN:∀ l acc,(yr l acc).length≤acc.length+bMs l
 | [],acc=>by simp[yr]
 | x::r,acc=>by
  have h1:=zap x acc
  have h2:=zaN r (zaL x acc)
  simp only[yr,bMs];omega
end
theorem zfS:∀ v,∀ acc H o,acc.length+bV v≤Lim→Owned H o acc.length 1→zbV Tryz.prog 276 [.sl o 1 (cT acc),.agg (cV v)] H o 1 (cT (zy v acc)):=by
 refine Val.ind fun k n s l m ihl ihm acc H o hb ho=>?_
 have hb':acc.length+(1+s.length+bVs l+bMs m)≤Lim:=hb
 have hll:=yd l
 have hml:=zK m
 have h1:=zU l
 have h2:=zL m
 have h3:=zA acc
 simp only[Lim] at hb'
 refine ACalls.goO ir276 ck276 (Al4 _) fun KP Q hQ hP=>?_
 by_cases k8:k=8
 ·subst k8
  simp(disch:=omega) only[ir276,zk,go_sem]
  refine goK_pure (Pure.low (zc8 acc s (by simp only[Lim];omega))) ?_
  cases hh:Zr s acc with
  | true =>
   simp(disch:=omega) only[hh,go_sem]
   refine hQ _ _ H H _ nofun rfl (Low.refl _) ⟨o,?_,?_⟩
   ·simp[tupOf,envOf,zy,hh]
   ·simpa[zy,hh,h3] using OwnS.refl ho
  | false =>
   simp(disch:=omega) only[hh,go_sem]
   refine goP_ownS (by rw[h3];exact ho) ?_ ?_ fun o' H' hs=>?_
   ·simp only[h3,Al2,Al3];omega
   ·simp only[h3,Al2,Al3,maxLen];omega
   simp(disch:=omega) only[go_sem]
   refine hQ _ _ H' H' _ nofun rfl (Low.refl _) ⟨o',?_,?_⟩
   ·simp[tupOf,envOf,zy,hh,cT,AV.strip1]
   ·simpa[zy,hh,h3,zA] using hs
 by_cases k6:k=6
 ·subst k6
  simp(disch:=omega) only[ir276,zk,h1,go_sem]
  refine goL_range l 28 (fun x:Own×List (List UInt8)=>[(0,.sl x.1 1 (cT x.2))]) (fun done rest x H'=>yo rest x.2=yo l acc∧x.2.length+bVs rest≤acc.length+bVs l∧OwnS H o H' x.1 x.2.length 1) (o,acc) (by simp(disch:=omega) only[go_sem]) ⟨rfl,by simp,OwnS.refl ho⟩ ?_ ?_
  ·rintro⟨o1,a⟩ H' J ⟨hn,_,hs⟩ hlt
   simp only[yo] at hn
   subst hn
   simp(disch:=omega) only[h1,hlt,go_sem]
   refine hQ _ _ H' H' _ nofun rfl (Low.refl _) ⟨o1,?_,?_⟩
   ·simp[tupOf,envOf,zy]
   ·simpa[zy,zA] using hs
  ·rintro done x rest ⟨o1,a⟩ H' J hd hlt _ ⟨hn,hle,hs⟩ hJ
   have hg:=zZ hd
   have hx:=ZQ x a
   simp only[yo,bVs] at hn hle
   simp(disch:=omega) only[zf,zc,za,ze,zd,zb,zi,h1,hlt,hg,go_sem]
   refine goA_intro fun b hb=>?_
   simp(disch:=omega) only[zf,zc,za,ze,zd,zb,zi,go_sem]
   refine yc (ihl x (by rw[hd];simp) a _ o1 (by simp only[Lim];omega) (hs.own.upd hb)) fun o2 H2 hs2=>?_
   rw[zA] at hs2
   simp(disch:=omega) only[wrap64,go_sem]
   exact goJ (hJ (o2,zy x a) H2 ⟨hn,by simp only;omega,(hs.upd hb).trans hs2⟩) (by simp(disch:=omega) only[go_sem])
 by_cases k7:k=7
 ·subst k7
  simp(disch:=omega) only[ir276,zk,h2,go_sem]
  refine goL_range m 41 (fun x:Own×List (List UInt8)=>[(0,.sl x.1 1 (cT x.2))]) (fun done rest x H'=>yr rest x.2=yr m acc∧x.2.length+bMs rest≤acc.length+bMs m∧OwnS H o H' x.1 x.2.length 1) (o,acc) (by simp(disch:=omega) only[go_sem]) ⟨rfl,by simp,OwnS.refl ho⟩ ?_ ?_
  ·rintro⟨o1,a⟩ H' J ⟨hn,_,hs⟩ hlt
   simp only[yr] at hn
   subst hn
   simp(disch:=omega) only[h2,hlt,go_sem]
   refine hQ _ _ H' H' _ nofun rfl (Low.refl _) ⟨o1,?_,?_⟩
   ·simp[tupOf,envOf,zy]
   ·simpa[zy,zA] using hs
  ·rintro done x rest ⟨o1,a⟩ H' J hd hlt _ ⟨hn,hle,hs⟩ hJ
   have hg:=zP hd
   have hx:=zap x a
   simp only[yr,bMs] at hn hle
   have hmem:x∈m:=by rw[hd];simp
   obtain⟨t,v⟩:=x
   simp only[zaL,bM] at hx hn hle
   simp(disch:=omega) only[zf,zc,za,ze,zd,zb,zi,h2,hlt,hg,go_sem]
   refine goA_intro fun b hb=>?_
   simp(disch:=omega) only[zf,zc,za,ze,zd,zb,zi,go_sem]
   refine yc (ihm t v hmem a _ o1 (by simp only[Lim];omega) (hs.own.upd hb)) fun o2 H2 hs2=>?_
   rw[zA] at hs2
   simp(disch:=omega) only[wrap64,go_sem]
   exact goJ (hJ (o2,zy v a) H2 ⟨hn,by simp only;omega,(hs.upd hb).trans hs2⟩) (by simp(disch:=omega) only[go_sem])
 ·simp(disch:=omega) only[ir276,zk,k8,k6,k7,go_sem]
  refine hQ _ _ H H _ nofun rfl (Low.refl _) ⟨o,?_,?_⟩
  ·simp[tupOf,envOf,zy,k8,k6,k7]
  ·simpa[zy,k8,k6,k7,zA] using OwnS.refl ho
theorem zfV:∀ v,∀ acc H o,acc.length+bV v≤Lim→Owned H o acc.length 1→zbV Tryz.prog 272 [.agg (cV v),.sl o 1 (cT acc)] H o 1 (cT (zy v acc)):=by
 refine Val.ind fun k n s l m ihl ihm acc H o hb ho=>?_
 have hb':acc.length+(1+s.length+bVs l+bMs m)≤Lim:=hb
 have hll:=yd l
 have hml:=zK m
 have h1:=zU l
 have h2:=zL m
 have h3:=zA acc
 simp only[Lim] at hb'
 refine ACalls.goO ir272 ck272 (Al4 _) fun KP Q hQ hP=>?_
 by_cases k8:k=8
 ·subst k8
  simp(disch:=omega) only[ir272,zk,go_sem]
  refine goK_pure (Pure.low (zeu acc s (by simp only[Lim];omega))) ?_
  have fin:∀ o' H' (a:List (List UInt8)),zy (.mk 8 n s l m) acc=a→OwnS H o H' o' a.length 1→zc4 H o 1 (cT (zy (.mk 8 n s l m) acc)) (.sl o' 1 (cT a)) H':=fun o' H' a e hs=>by
   rw[e];exact⟨o',rfl,by rw[zA];exact hs⟩
  have l1:∀(J:Env→Heap→Prop),True:=fun _=>trivial
  cases hh:Zr s acc with
  | true =>
   simp(disch:=omega) only[hh,go_sem]
   refine goL_st (fun _:Unit=>[]) (fun _ H'=>H'=H) (fun _=>0) () (by simp(disch:=omega) only[go_sem]) rfl ?_
   rintro _ H' J rfl _
   by_cases hz:(0:Int)<l.length
   ·simp(disch:=omega) only[h1,hz,go_sem]
    refine goL_st (fun _:Unit=>[]) (fun _ H''=>H''=H') (fun _=>0) () (by simp(disch:=omega) only[go_sem]) rfl ?_
    rintro _ H'' J2 rfl _
    by_cases hy:(0:Int)<m.length
    ·simp(disch:=omega) only[h2,hy,go_sem]
     refine hQ _ _ H'' H'' [.sl o 1 (cT acc)] nofun (by simp(disch:=omega) only[ir272,resvs,resv,go_sem]) (Low.refl _) (fin o H'' acc (by simp[zy,hh]) (OwnS.refl ho))
    ·simp(disch:=omega) only[h2,hy,go_sem]
     refine hQ _ _ H'' H'' [.sl o 1 (cT acc)] nofun (by simp(disch:=omega) only[ir272,resvs,resv,go_sem]) (Low.refl _) (fin o H'' acc (by simp[zy,hh]) (OwnS.refl ho))
   ·simp(disch:=omega) only[h1,hz,go_sem]
    refine goL_st (fun _:Unit=>[]) (fun _ H''=>H''=H') (fun _=>0) () (by simp(disch:=omega) only[go_sem]) rfl ?_
    rintro _ H'' J2 rfl _
    by_cases hy:(0:Int)<m.length
    ·simp(disch:=omega) only[h2,hy,go_sem]
     refine hQ _ _ H'' H'' [.sl o 1 (cT acc)] nofun (by simp(disch:=omega) only[ir272,resvs,resv,go_sem]) (Low.refl _) (fin o H'' acc (by simp[zy,hh]) (OwnS.refl ho))
    ·simp(disch:=omega) only[h2,hy,go_sem]
     refine hQ _ _ H'' H'' [.sl o 1 (cT acc)] nofun (by simp(disch:=omega) only[ir272,resvs,resv,go_sem]) (Low.refl _) (fin o H'' acc (by simp[zy,hh]) (OwnS.refl ho))
  | false =>
   simp(disch:=omega) only[hh,go_sem]
   refine goP_ownS (by rw[h3];exact ho) ?_ ?_ fun o' H' hs=>?_
   ·simp only[h3,Al2,Al3];omega
   ·simp only[h3,Al2,Al3,maxLen];omega
   have e0:(cT acc++[[AV.str s]])=cT (acc++[s]):=by simp[cT]
   have hs':OwnS H o H' o' (acc++[s]).length 1:=by simpa[h3] using hs
   simp(disch:=omega) only[e0,go_sem]
   refine goL_st (fun _:Unit=>[]) (fun _ H2=>H2=H') (fun _=>0) () (by simp(disch:=omega) only[go_sem]) rfl ?_
   rintro _ H2 J rfl _
   by_cases hz:(0:Int)<l.length
   ·simp(disch:=omega) only[h1,hz,go_sem]
    refine goL_st (fun _:Unit=>[]) (fun _ H''=>H''=H2) (fun _=>0) () (by simp(disch:=omega) only[go_sem]) rfl ?_
    rintro _ H'' J2 rfl _
    by_cases hy:(0:Int)<m.length
    ·simp(disch:=omega) only[h2,hy,go_sem]
     refine hQ _ _ H'' H'' [.sl o' 1 (cT (acc++[s]))] nofun (by simp(disch:=omega) only[ir272,resvs,resv,go_sem]) (Low.refl _) (fin o' H'' _ (by simp[zy,hh]) hs')
    ·simp(disch:=omega) only[h2,hy,go_sem]
     refine hQ _ _ H'' H'' [.sl o' 1 (cT (acc++[s]))] nofun (by simp(disch:=omega) only[ir272,resvs,resv,go_sem]) (Low.refl _) (fin o' H'' _ (by simp[zy,hh]) hs')
   ·simp(disch:=omega) only[h1,hz,go_sem]
    refine goL_st (fun _:Unit=>[]) (fun _ H''=>H''=H2) (fun _=>0) () (by simp(disch:=omega) only[go_sem]) rfl ?_
    rintro _ H'' J2 rfl _
    by_cases hy:(0:Int)<m.length
    ·simp(disch:=omega) only[h2,hy,go_sem]
     refine hQ _ _ H'' H'' [.sl o' 1 (cT (acc++[s]))] nofun (by simp(disch:=omega) only[ir272,resvs,resv,go_sem]) (Low.refl _) (fin o' H'' _ (by simp[zy,hh]) hs')
    ·simp(disch:=omega) only[h2,hy,go_sem]
     refine hQ _ _ H'' H'' [.sl o' 1 (cT (acc++[s]))] nofun (by simp(disch:=omega) only[ir272,resvs,resv,go_sem]) (Low.refl _) (fin o' H'' _ (by simp[zy,hh]) hs')
 have k8':(k=8)=False:=eq_false k8
 simp(disch:=omega) only[ir272,zk,k8,go_sem]
 by_cases k6:k=6
 ·subst k6
  refine goL_range l 5 (fun x:Own×List (List UInt8)=>[(1,.sl x.1 1 (cT x.2))]) (fun done rest x H'=>yo rest x.2=yo l acc∧x.2.length+bVs rest≤acc.length+bVs l∧OwnS H o H' x.1 x.2.length 1) (o,acc) (by simp(disch:=omega) only[go_sem]) ⟨rfl,by simp,OwnS.refl ho⟩ ?_ ?_
  ·rintro⟨o1,a⟩ H' J ⟨hn,_,hs⟩ hlt
   simp only[yo] at hn
   subst hn
   simp(disch:=omega) only[h1,hlt,go_sem]
   refine goL_st (fun _:Unit=>[]) (fun _ H2=>H2=H') (fun _=>0) () (by simp(disch:=omega) only[go_sem]) rfl ?_
   rintro _ H2 J2 rfl _
   have fin:zc4 H o 1 (cT (zy (.mk 6 n s l m) acc)) (.sl o1 1 (cT (yo l acc))) H2:=⟨o1,by simp[zy],by simpa[zy,zA] using hs⟩
   by_cases hy:(0:Int)<m.length
   ·simp(disch:=omega) only[h2,hy,go_sem]
    exact hQ _ _ H2 H2 [.sl o1 1 (cT (yo l acc))] nofun (by simp(disch:=omega) only[ir272,resvs,resv,go_sem]) (Low.refl _) fin
   ·simp(disch:=omega) only[h2,hy,go_sem]
    exact hQ _ _ H2 H2 [.sl o1 1 (cT (yo l acc))] nofun (by simp(disch:=omega) only[ir272,resvs,resv,go_sem]) (Low.refl _) fin
  ·rintro done x rest ⟨o1,a⟩ H' J hd hlt _ ⟨hn,hle,hs⟩ hJ
   have hg:=zZ hd
   have hx:=ZQ x a
   simp only[yo,bVs] at hn hle
   simp(disch:=omega) only[zf,zc,za,ze,zd,zb,zi,h1,hlt,hg,go_sem]
   refine yc (ihl x (by rw[hd];simp) a _ o1 (by simp only[Lim];omega) hs.own) fun o2 H2 hs2=>?_
   rw[zA] at hs2
   simp(disch:=omega) only[wrap64,go_sem]
   exact goJ (hJ (o2,zy x a) H2 ⟨hn,by simp only;omega,hs.trans hs2⟩) (by simp(disch:=omega) only[go_sem])
 refine goL_st (fun _:Unit=>[]) (fun _ H2=>H2=H) (fun _=>0) () (by simp(disch:=omega) only[go_sem]) rfl ?_
 rintro _ H1 J rfl _
 have run2:∀(P:Prop),P→P:=fun _ h=>h
 by_cases k7:k=7
 ·subst k7
  by_cases hz:(0:Int)<l.length
  all_goals
   simp(disch:=omega) only[h1,hz,go_sem]
   refine goL_range m 6 (fun x:Own×List (List UInt8)=>[(1,.sl x.1 1 (cT x.2))]) (fun done rest x H'=>yr rest x.2=yr m acc∧x.2.length+bMs rest≤acc.length+bMs m∧OwnS H1 o H' x.1 x.2.length 1) (o,acc) (by simp(disch:=omega) only[go_sem]) ⟨rfl,by simp,OwnS.refl ho⟩ ?_ ?_
   ·rintro⟨o1,a⟩ H' J ⟨hn,_,hs⟩ hlt
    simp only[yr] at hn
    subst hn
    simp(disch:=omega) only[h2,hlt,go_sem]
    have fin:zc4 H1 o 1 (cT (zy (.mk 7 n s l m) acc)) (.sl o1 1 (cT (yr m acc))) H':=⟨o1,by simp[zy],by simpa[zy,zA] using hs⟩
    exact hQ _ _ H' H' [.sl o1 1 (cT (yr m acc))] nofun (by simp(disch:=omega) only[ir272,resvs,resv,go_sem]) (Low.refl _) fin
   ·rintro done x rest ⟨o1,a⟩ H' J hd hlt _ ⟨hn,hle,hs⟩ hJ
    have hg:=zP hd
    have hx:=zap x a
    simp only[yr,bMs] at hn hle
    have hmem:x∈m:=by rw[hd];simp
    obtain⟨t,v⟩:=x
    simp only[zaL,bM] at hx hn hle
    simp(disch:=omega) only[zf,zc,za,ze,zd,zb,zi,h2,hlt,hg,go_sem]
    refine yc (ihm t v hmem a _ o1 (by simp only[Lim];omega) hs.own) fun o2 H2 hs2=>?_
    rw[zA] at hs2
    simp(disch:=omega) only[wrap64,go_sem]
    exact goJ (hJ (o2,zy v a) H2 ⟨hn,by simp only;omega,hs.trans hs2⟩) (by simp(disch:=omega) only[go_sem])
 have fin:zc4 H1 o 1 (cT (zy (.mk k n s l m) acc)) (.sl o 1 (cT acc)) H1:=⟨o,by simp[zy,k8,k6,k7],by simpa[zy,k8,k6,k7,zA] using OwnS.refl ho⟩
 by_cases hz:(0:Int)<l.length
 all_goals
  simp(disch:=omega) only[h1,hz,k6,go_sem]
  refine goL_st (fun _:Unit=>[]) (fun _ H2=>H2=H1) (fun _=>0) () (by simp(disch:=omega) only[go_sem]) rfl ?_
  rintro _ H2 J2 rfl _
  by_cases hy:(0:Int)<m.length
  ·simp(disch:=omega) only[h2,hy,k7,go_sem]
   exact hQ _ _ H2 H2 [.sl o 1 (cT acc)] nofun (by simp(disch:=omega) only[ir272,resvs,resv,go_sem]) (Low.refl _) fin
  ·simp(disch:=omega) only[h2,hy,go_sem]
   exact hQ _ _ H2 H2 [.sl o 1 (cT acc)] nofun (by simp(disch:=omega) only[ir272,resvs,resv,go_sem]) (Low.refl _) fin
theorem zfi (v:Val) (h:bV v≤Lim):Pure Tryz.prog 267 [.agg (cV v)] (.sl .no 1 (cT (zy v []))):=by
 refine Pure.go ir267 ck267 (Al4 _) fun KP Q hQ=>?_
 simp(disch:=omega) only[zf,zc,za,ze,zd,zb,zi,ir267,go_sem]
 refine yc (zfS v [] _ .nil (by simpa using h) rfl) fun o' H' hs=>?_
 simp(disch:=omega) only[go_sem]
 exact hQ _ _ _ _ nofun rfl (by simp[tupOf,envOf,AV.strip,AV.strip1])
theorem zfs (v:Val) (h:bV v≤Lim):Pure Tryz.prog 254 [.agg (cV v)] (.sl .no 1 (cT (zy v []))):=by
 refine Pure.go ir254 ck254 (Al4 _) fun KP Q hQ=>?_
 simp(disch:=omega) only[zf,zc,za,ze,zd,zb,zi,ir254,go_sem]
 refine yc (zfV v [] _ .nil (by simpa using h) rfl) fun o' H' hs=>?_
 simp(disch:=omega) only[go_sem]
 exact hQ _ _ _ _ nofun rfl (by simp[tupOf,envOf,AV.strip,AV.strip1])
def isD (c:UInt8):Bool:=decide (48≤c.toNat)&&decide (c.toNat≤57)
def isL (c:UInt8):Bool:=(decide (97≤c.toNat)&&decide (c.toNat≤122))||((decide (65≤c.toNat)&&decide (c.toNat≤90))||decide (c.toNat=95))
theorem zdV (c:UInt8):Pure Tryz.prog 126 [.int .u8 (c.toNat:Int)] (.bool (isD c)):=by
 refine Pure.go ir126 ck126 (Al4 _) fun KP Q hQ=>?_
 by_cases h:(48:Int)≤c.toNat
 ·simp(disch:=omega) only[ir126,h,go_sem]
  have h':48≤c.toNat:=by omega
  have e:decide ((c.toNat:Int)≤57)=decide (c.toNat≤57):=by rw[decide_eq_decide];omega
  exact hQ _ _ _ _ nofun rfl (by simp[tupOf,envOf,AV.strip,AV.strip1,isD,h',e])
 ·simp(disch:=omega) only[ir126,h,go_sem]
  have h':¬ 48≤c.toNat:=by omega
  exact hQ _ _ _ _ nofun rfl (by simp[tupOf,envOf,AV.strip,AV.strip1,isD,h'])
theorem zds (c:UInt8):Pure Tryz.prog 147 [.int .u8 (c.toNat:Int)] (.bool (isD c)):=by
 refine Pure.go ir147 ck147 (Al4 _) fun KP Q hQ=>?_
 by_cases h:(48:Int)≤c.toNat
 ·simp(disch:=omega) only[ir147,h,go_sem]
  have h':48≤c.toNat:=by omega
  have e:decide ((c.toNat:Int)≤57)=decide (c.toNat≤57):=by rw[decide_eq_decide];omega
  exact hQ _ _ _ _ nofun rfl (by simp[tupOf,envOf,AV.strip,AV.strip1,isD,h',e])
 ·simp(disch:=omega) only[ir147,h,go_sem]
  have h':¬ 48≤c.toNat:=by omega
  exact hQ _ _ _ _ nofun rfl (by simp[tupOf,envOf,AV.strip,AV.strip1,isD,h'])
theorem zey (c:UInt8):Pure Tryz.prog 123 [.int .u8 (c.toNat:Int)] (.bool (isL c)):=by
 refine Pure.go ir123 ck123 (Al4 _) fun KP Q hQ=>?_
 have e:decide ((c.toNat:Int)=95)=decide (c.toNat=95):=by rw[decide_eq_decide];omega
 by_cases h:(97:Int)≤c.toNat
 ·have h':97≤c.toNat:=by omega
  by_cases h2:(c.toNat:Int)≤122
  ·have h2':c.toNat≤122:=by omega
   simp(disch:=omega) only[ir123,h,h2,go_sem]
   exact hQ _ _ _ _ nofun rfl (by simp[tupOf,envOf,AV.strip,AV.strip1,isL,h',h2'])
  ·have h2':¬ c.toNat≤122:=by omega
   have h3:(65:Int)≤c.toNat:=by omega
   have h4:¬ (c.toNat:Int)≤90:=by omega
   have h4':¬ c.toNat≤90:=by omega
   simp(disch:=omega) only[ir123,h,h2,h3,h4,go_sem]
   exact hQ _ _ _ _ nofun rfl (by simp[tupOf,envOf,AV.strip,AV.strip1,isL,h',h2',h4',e])
 ·have h':¬ 97≤c.toNat:=by omega
  by_cases h3:(65:Int)≤c.toNat
  ·have h3':65≤c.toNat:=by omega
   by_cases h4:(c.toNat:Int)≤90
   ·have h4':c.toNat≤90:=by omega
    simp(disch:=omega) only[ir123,h,h3,h4,go_sem]
    exact hQ _ _ _ _ nofun rfl (by simp[tupOf,envOf,AV.strip,AV.strip1,isL,h',h3',h4'])
   ·have h4':¬ c.toNat≤90:=by omega
    simp(disch:=omega) only[ir123,h,h3,h4,go_sem]
    exact hQ _ _ _ _ nofun rfl (by simp[tupOf,envOf,AV.strip,AV.strip1,isL,h',h3',h4',e])
  ·have h3':¬ 65≤c.toNat:=by omega
   simp(disch:=omega) only[ir123,h,h3,go_sem]
   exact hQ _ _ _ _ nofun rfl (by simp[tupOf,envOf,AV.strip,AV.strip1,isL,h',h3',e])
theorem zcw (c:UInt8):Pure Tryz.prog 146 [.int .u8 (c.toNat:Int)] (.bool (isL c)):=by
 refine Pure.go ir146 ck146 (Al4 _) fun KP Q hQ=>?_
 have e:decide ((c.toNat:Int)=95)=decide (c.toNat=95):=by rw[decide_eq_decide];omega
 by_cases h:(97:Int)≤c.toNat
 ·have h':97≤c.toNat:=by omega
  by_cases h2:(c.toNat:Int)≤122
  ·have h2':c.toNat≤122:=by omega
   simp(disch:=omega) only[ir146,h,h2,go_sem]
   exact hQ _ _ _ _ nofun rfl (by simp[tupOf,envOf,AV.strip,AV.strip1,isL,h',h2'])
  ·have h2':¬ c.toNat≤122:=by omega
   have h3:(65:Int)≤c.toNat:=by omega
   have h4:¬ (c.toNat:Int)≤90:=by omega
   have h4':¬ c.toNat≤90:=by omega
   simp(disch:=omega) only[ir146,h,h2,h3,h4,go_sem]
   exact hQ _ _ _ _ nofun rfl (by simp[tupOf,envOf,AV.strip,AV.strip1,isL,h',h2',h4',e])
 ·have h':¬ 97≤c.toNat:=by omega
  by_cases h3:(65:Int)≤c.toNat
  ·have h3':65≤c.toNat:=by omega
   by_cases h4:(c.toNat:Int)≤90
   ·have h4':c.toNat≤90:=by omega
    simp(disch:=omega) only[ir146,h,h3,h4,go_sem]
    exact hQ _ _ _ _ nofun rfl (by simp[tupOf,envOf,AV.strip,AV.strip1,isL,h',h3',h4'])
   ·have h4':¬ c.toNat≤90:=by omega
    simp(disch:=omega) only[ir146,h,h3,h4,go_sem]
    exact hQ _ _ _ _ nofun rfl (by simp[tupOf,envOf,AV.strip,AV.strip1,isL,h',h3',h4',e])
  ·have h3':¬ 65≤c.toNat:=by omega
   simp(disch:=omega) only[ir146,h,h3,go_sem]
   exact hQ _ _ _ _ nofun rfl (by simp[tupOf,envOf,AV.strip,AV.strip1,isL,h',h3',e])
def yT:List UInt8→Nat→Bool
 | [],_=>true
 | c::r,i=>if isL c||(decide (i≠0)&&isD c) then yT r (i+1) else false
def zj (s:List UInt8):Bool:=yT s 0&&decide (s≠[])
theorem zbi {s a:List UInt8} {x:UInt8} {b:List UInt8} (h:s=a++x::b):s.getD a.length 0=x:=by subst h;simp
theorem zaV (s:List UInt8) (hs:s.length≤Lim):Pure Tryz.prog 128 [.str s] (.bool (zj s)):=by
 refine Pure.go ir128 ck128 (Al4 _) fun KP Q hQ=>?_
 simp only[Lim] at hs
 simp(disch:=omega) only[ir128,go_sem]
 refine goL_range s 6 (fun _:Unit=>[]) (fun done rest n H=>yT rest done.length=yT s 0) () (by simp(disch:=omega) only[go_sem]) rfl ?_ ?_
 ·rintro n H J hn hlt
  simp only[yT] at hn
  simp(disch:=omega) only[hlt,go_sem]
  have e:(!decide (s=[]))=decide (s≠[]):=by simp
  exact hQ _ _ _ _ nofun rfl (by simp[tupOf,envOf,AV.strip,AV.strip1,zj,← hn])
 ·rintro done x rest n H J hd hlt _ hn hJ
  have hg:=zbi hd
  simp only[yT] at hn
  simp(disch:=omega) only[hlt,hg,go_sem]
  refine goK_pure (zey x) ?_
  cases hl:isL x with
  | true =>
   simp only[hl,Bool.true_or,if_true] at hn
   simp(disch:=omega) only[hl,go_sem]
   exact goJ (hJ () _ (by simpa using hn)) (by simp(disch:=omega) only[wrap64,go_sem])
  | false =>
   by_cases h0:done.length=0
   ·have h0':(done.length:Int)=0:=by omega
    simp only[hl,h0,ne_eq,not_true_eq_false,decide_false,Bool.false_and,Bool.or_false,Al7,if_false] at hn
    simp(disch:=omega) only[hl,h0',go_sem]
    exact hQ _ _ _ _ nofun rfl (by simp[tupOf,envOf,AV.strip,AV.strip1,zj,← hn])
   ·have h0':¬ (done.length:Int)=0:=by omega
    simp(disch:=omega) only[hl,h0',hlt,hg,go_sem]
    refine goK_pure (zdV x) ?_
    cases hdg:isD x with
    | true =>
     simp only[hl,hdg,h0,ne_eq,not_false_eq_true,decide_true,Bool.and_self,Bool.or_true,if_true] at hn
     simp(disch:=omega) only[hdg,go_sem]
     exact goJ (hJ () _ (by simpa using hn)) (by simp(disch:=omega) only[wrap64,go_sem])
    | false =>
     simp only[hl,hdg,Bool.and_false,Bool.or_false,Al7,if_false] at hn
     simp(disch:=omega) only[hdg,go_sem]
     exact hQ _ _ _ _ nofun rfl (by simp[tupOf,envOf,AV.strip,AV.strip1,zj,← hn])
theorem Zp (s:List UInt8) (hs:s.length≤Lim):Pure Tryz.prog 71 [.str s] (.bool (zj s)):=by
 refine Pure.go ir71 ck71 (Al4 _) fun KP Q hQ=>?_
 simp only[Lim] at hs
 cases s with
 | nil =>
  simp(disch:=omega) only[ir71,go_sem]
  exact hQ _ _ _ _ nofun rfl (by simp[tupOf,envOf,AV.strip,AV.strip1,zj,yT])
 | cons c r =>
  have hne:¬ (c::r=[]):=by simp
  have hp:(0:Int)<((c::r).length:Nat):=by simp
  simp(disch:=omega) only[ir71,hne,hp,go_sem]
  refine goK_pure (zcw c) ?_
  cases hl:isL c with
  | false =>
   simp(disch:=omega) only[hl,go_sem]
   exact hQ _ _ _ _ nofun rfl (by simp[tupOf,envOf,AV.strip,AV.strip1,zj,yT,hl])
  | true =>
   simp(disch:=omega) only[hl,go_sem]
   have hm:zj (c::r)=yT r 1:=by simp[zj,yT,hl]
   refine goL_st (fun x:List UInt8×List UInt8=>[(3,.int .i64 ((x.1.length:Int)+1))]) (fun x H=>r=x.1++x.2∧yT x.2 (x.1.length+1)=yT r 1) (fun x=>x.2.length) ([],r) (by simp(disch:=omega) only[go_sem]) ⟨rfl,rfl⟩ ?_
   rintro⟨done,rest⟩ H J ⟨hd,hn⟩ hJ
   simp only at hd hn hJ ⊢
   have hlen:r.length=done.length+rest.length:=by rw[hd];simp
   simp only[Al2] at hs
   have hL:(((c::r).length:Nat):Int)=done.length+rest.length+1:=by simp[hlen]
   cases rest with
   | nil =>
    have hlt:¬ ((done.length:Int)+1<((r.length+1:Nat):Int)):=by simp at hlen;omega
    simp only[yT] at hn
    simp(disch:=omega) only[hlt,go_sem]
    exact hQ _ _ _ _ nofun rfl (by simp[tupOf,envOf,AV.strip,AV.strip1,hm,← hn])
   | cons x t =>
    simp only[Al2] at hlen
    have hlt:((done.length:Int)+1<((r.length+1:Nat):Int)):=by omega
    have hlt0:(0:Int)≤(done.length:Int)+1:=by omega
    have hto:((done.length:Int)+1).toNat=done.length+1:=by omega
    have hg:r.getD done.length 0=x:=zbi hd
    simp only[yT] at hn
    simp(disch:=omega) only[hlt,hlt0,hto,hg,go_sem]
    refine goK_pure (zcw x) ?_
    have hd':r=(done++[x])++t:=by rw[hd];simp
    cases hlx:isL x with
    | true =>
     simp only[hlx,Bool.true_or,if_true] at hn
     simp(disch:=omega) only[hlx,go_sem]
     refine goJ (hJ (done++[x],t) _ (by simp) ⟨hd',by simpa using hn⟩) (by simp(disch:=omega) only[wrap64,Al5,Int.natCast_add,Int.natCast_one,go_sem])
    | false =>
     simp(disch:=omega) only[hlx,hlt,hlt0,hto,hg,go_sem]
     refine goK_pure (zds x) ?_
     cases hdg:isD x with
     | true =>
      have h0:done.length+1≠0:=by omega
      simp only[hlx,hdg,h0,ne_eq,not_false_eq_true,decide_true,Bool.and_self,Bool.or_true,if_true] at hn
      simp(disch:=omega) only[hdg,go_sem]
      refine goJ (hJ (done++[x],t) _ (by simp) ⟨hd',by simpa using hn⟩) (by simp(disch:=omega) only[wrap64,Al5,Int.natCast_add,Int.natCast_one,go_sem])
     | false =>
      simp only[hlx,hdg,Bool.and_false,Bool.or_false,Al7,if_false] at hn
      simp(disch:=omega) only[hdg,go_sem]
      exact hQ _ _ _ _ nofun rfl (by simp[tupOf,envOf,AV.strip,AV.strip1,hm,← hn])
def zw:List UInt8→Nat
 | []=>0
 | c::r=>if isD c then zw r+1 else 0
theorem ye:∀ l,zw l≤l.length
 | []=>Al4 _
 | c::r=>by have:=ye r;simp only[zw,Al2];split<;>omega
theorem yu (s:List UInt8) (k:Nat):(s.drop k=[]∧s.length≤k)∨(k<s.length∧s.drop k=s.getD k 0::s.drop (k+1)):=by
 rcases Nat.lt_or_ge k s.length with h|h
 ·right
  refine⟨h,?_⟩
  rw[List.drop_eq_getElem_cons h]
  simp[h]
 ·left;exact⟨List.drop_of_length_le h,h⟩
theorem yz (s:List UInt8) (hs:s.length≤Lim):Pure Tryz.prog 180 [.str s] (.int .i64 (zw s)):=by
 refine Pure.go ir180 ck180 (Al4 _) fun KP Q hQ=>?_
 simp only[Lim] at hs
 have hr1:=ye s
 simp(disch:=omega) only[ir180,go_sem]
 refine goL_st (fun n:Nat=>[(3,.int .i64 n)]) (fun n H=>zw s=n+zw (s.drop n)∧n≤s.length) (fun n=>s.length-n) 0 (by simp(disch:=omega) only[go_sem]) ⟨by simp,by omega⟩ ?_
 rintro n H J ⟨hn,hle⟩ hJ
 rcases yu s n with ⟨h1,h2⟩|⟨h1,h2⟩
 ·have hlt:¬ ((n:Int)<s.length):=by omega
  rw[h1] at hn
  simp only[zw,Nat.add_zero] at hn
  simp(disch:=omega) only[hlt,go_sem]
  exact hQ _ _ _ _ nofun rfl (by simp[tupOf,envOf,AV.strip,AV.strip1,hn])
 ·have hlt:((n:Int)<s.length):=by omega
  rw[h2] at hn
  simp only[zw] at hn
  simp(disch:=omega) only[hlt,go_sem]
  refine goK_pure (zdV (s.getD n 0)) ?_
  cases hd:isD (s.getD n 0) with
  | true =>
   simp only[hd,if_true] at hn
   simp(disch:=omega) only[hd,go_sem]
   exact goJ (hJ (n+1) _ (by omega) ⟨by omega,by omega⟩) (by simp(disch:=omega) only[wrap64,Int.natCast_add,Int.natCast_one,go_sem])
  | false =>
   simp only[hd,Al7,if_false,Nat.add_zero] at hn
   simp(disch:=omega) only[hd,go_sem]
   exact hQ _ _ _ _ nofun rfl (by simp[tupOf,envOf,AV.strip,AV.strip1,hn])
theorem zdh (s:List UInt8) (i:Int) (h0:0≤i) (h1:i≤s.length) (hs:s.length≤Lim):Pure Tryz.prog 205 [.str s,.int .i64 i] (.int .i64 (zw (s.drop i.toNat))):=by
 obtain⟨k,rfl⟩:∃ k:Nat,i=k:=⟨i.toNat,by omega⟩
 refine Pure.go ir205 ck205 (Al4 _) fun KP Q hQ=>?_
 simp only[Lim] at hs
 have hr1:=ye (s.drop k)
 rw[ZG] at hr1
 simp(disch:=omega) only[ir205,go_sem]
 refine goL_st (fun n:Nat=>[(5,.int .i64 n)]) (fun n H=>zw (s.drop k)=n+zw (s.drop (k+n))∧k+n≤s.length) (fun n=>s.length-n) 0 (by simp(disch:=omega) only[go_sem]) ⟨by simp,by omega⟩ ?_
 rintro n H J ⟨hn,hle⟩ hJ
 have hto:((k:Int)+n).toNat=k+n:=by omega
 have hnn:(0:Int)≤(k:Int)+n:=by omega
 rcases yu s (k+n) with ⟨h1,h2⟩|⟨h1,h2⟩
 ·have hlt:¬ ((k:Int)+n<s.length):=by omega
  rw[h1] at hn
  simp only[zw,Nat.add_zero] at hn
  simp(disch:=omega) only[hlt,wrap64,go_sem]
  exact hQ _ _ _ _ nofun rfl (by simp[tupOf,envOf,AV.strip,AV.strip1,hn])
 ·have hlt:((k:Int)+n<s.length):=by omega
  rw[h2] at hn
  simp only[zw] at hn
  simp(disch:=omega) only[hlt,wrap64,hto,hnn,go_sem]
  refine goK_pure (zds (s.getD (k+n) 0)) ?_
  cases hd:isD (s.getD (k+n) 0) with
  | true =>
   simp only[hd,if_true] at hn
   simp(disch:=omega) only[hd,go_sem]
   exact goJ (hJ (n+1) _ (by omega) ⟨by rw[← Nat.add_assoc];omega,by omega⟩) (by simp(disch:=omega) only[wrap64,Int.natCast_add,Int.natCast_one,go_sem])
  | false =>
   simp only[hd,Al7,if_false,Nat.add_zero] at hn
   simp(disch:=omega) only[hd,go_sem]
   exact hQ _ _ _ _ nofun rfl (by simp[tupOf,envOf,AV.strip,AV.strip1,hn])
theorem zcT (c:UInt8) (s:List UInt8):[c].isPrefixOf s=decide (s.head?=some c):=by
 cases s with
 | nil=>rfl
 | cons d r =>
  by_cases h:d=c
  ·subst h;simp[List.isPrefixOf]
  ·have h':¬ c=d:=fun e=>h e.symm
   simp[List.isPrefixOf,h,h']
def yP (s:List UInt8):Nat:=if zw s=0 then 0 else if s.getD 0 0=48 then 1 else zw s
def zv (s:List UInt8):Nat:=if s.head?=some 45 then (if zw s.tail=0 then 0 else 1+yP s.tail) else yP s
theorem zcH (s:List UInt8):yP s≤s.length:=by have:=ye s;unfold yP;split<;>(try split)<;>omega
theorem zdk {s:List UInt8} (h:zw s≠0):0<yP s:=by unfold yP;simp only[h,if_false];split<;>omega
theorem zaO (s:List UInt8):zv s≤s.length:=by
 have h1:=zcH s
 have h2:=zcH s.tail
 unfold zv
 split
 ·rename_i h
  cases s with
  | nil=>simp at h
  | cons c r =>
   simp only[List.tail_cons,Al2] at h2 ⊢
   by_cases h0:zw r=0<;>simp only[h0,if_true,if_false]<;>omega
 ·exact h1
theorem zfR {a b:UInt8}:((a.toNat:Int)=(b.toNat:Int))=(a=b):=by
 apply propext
 rw[Int.natCast_inj]
 exact UInt8.toNat_inj
theorem zam (a:UInt8) (n:Nat) (hn:n<256):decide ((a.toNat:Int)=n)=decide (a=UInt8.ofNat n):=by
 rw[decide_eq_decide]
 have:(UInt8.ofNat n).toNat=n:=by simp[UInt8.toNat_ofNat'];omega
 constructor
 ·intro h;apply UInt8.toNat_inj.1;rw[this];omega
 ·intro h;subst h;rw[this]
theorem zfc (s:List UInt8) (hs:s.length≤Lim):Pure Tryz.prog 179 [.str s] (.int .i64 (zv s)):=by
 refine Pure.go ir179 ck179 (Al4 _) fun KP Q hQ=>?_
 simp only[Lim] at hs
 simp(disch:=omega) only[ir179,go_sem]
 refine goK_pure (zbd s [45]) ?_
 rw[zcT]
 by_cases h:s.head?=some 45
 ·cases s with
  | nil=>simp at h
  | cons c r =>
   have hc:c=45:=by simpa using h
   subst hc
   simp only[Al2] at hs
   have h1:(1:Int)≤((r.length+1:Nat):Int):=by omega
   have h2:(1:Int)<((r.length+1:Nat):Int)∨r=[]:=by cases r<;>simp;omega
   simp(disch:=omega) only[h,h1,Int.toNat_one,go_sem]
   refine goK_pure (yz r (by simp only[Lim];omega)) ?_
   by_cases h0:zw r=0
   ·simp(disch:=omega) only[h0,go_sem]
    exact hQ _ _ _ _ nofun rfl (by simp[tupOf,envOf,AV.strip,AV.strip1,zv,h0])
   ·have h0':¬ ((zw r:Int)=0):=by omega
    have hrl:=ye r
    have hlt:(1:Int)<((r.length+1:Nat):Int):=by omega
    have e:=zam (r.getD 0 0) 48 (by omega)
    by_cases h48:r.getD 0 0=48
    ·have hi:yP r=1:=by simp only[yP,h0,h48,if_false,if_true]
     simp(disch:=omega) only[h0',hlt,Int.toNat_one,h48,UInt8.reduceToNat,wrap64,go_sem]
     exact hQ _ _ _ _ nofun rfl (by simp[tupOf,envOf,AV.strip,AV.strip1,zv,h0,hi])
    ·have h48':¬ ((r.getD 0 0).toNat:Int)=48:=by
      intro hh
      rw[decide_eq_true (by exact hh)] at e
      exact h48 (by simpa using e.symm)
     have hi:yP r=zw r:=by simp only[yP,h0,h48,if_false]
     simp(disch:=omega) only[h0',hlt,Int.toNat_one,h48',wrap64,go_sem]
     exact hQ _ _ _ _ nofun rfl (by simp[tupOf,envOf,AV.strip,AV.strip1,zv,h0,hi])
 ·simp(disch:=omega) only[h,go_sem]
  refine goK_pure (yz s (by simp only[Lim];omega)) ?_
  by_cases h0:zw s=0
  ·simp(disch:=omega) only[h0,go_sem]
   exact hQ _ _ _ _ nofun rfl (by simp[tupOf,envOf,AV.strip,AV.strip1,zv,h,yP,h0])
  ·have h0':¬ ((zw s:Int)=0):=by omega
   have hrl:=ye s
   have hlt:(0:Int)<(s.length:Int):=by omega
   have e:=zam (s.getD 0 0) 48 (by omega)
   by_cases h48:s.getD 0 0=48
   ·have hi:yP s=1:=by simp only[yP,h0,h48,if_false,if_true]
    simp(disch:=omega) only[h0',hlt,h48,UInt8.reduceToNat,wrap64,go_sem]
    exact hQ _ _ _ _ nofun rfl (by simp[tupOf,envOf,AV.strip,AV.strip1,zv,h,hi])
   ·have h48':¬ ((s.getD 0 0).toNat:Int)=48:=by
     intro hh
     rw[decide_eq_true (by exact hh)] at e
     exact h48 (by simpa using e.symm)
    have hi:yP s=zw s:=by simp only[yP,h0,h48,if_false]
    simp(disch:=omega) only[h0',hlt,h48',wrap64,go_sem]
    exact hQ _ _ _ _ nofun rfl (by simp[tupOf,envOf,AV.strip,AV.strip1,zv,h,hi])
def isE (c:UInt8):Bool:=decide (c=101)||decide (c=69)
def sgN (r:List UInt8):Nat:=if r.head?=some 43∨r.head?=some 45 then 1 else 0
def yW:List UInt8→Nat
 | []=>0
 | c::r=>if isE c then (if zw (r.drop (sgN r))=0 then 0 else 1+sgN r+zw (r.drop (sgN r))) else 0
theorem zcd (r:List UInt8):sgN r≤r.length:=by
 unfold sgN
 split
 ·cases r<;>simp_all
 ·omega
theorem zcu:∀ s,yW s≤s.length
 | []=>by simp[yW]
 | c::r=>by
  have h:=ye (r.drop (sgN r))
  have h2:=zcd r
  rw[ZG] at h
  simp only[yW,Al2]
  split
  ·split<;>omega
  ·omega
theorem zcm (s:List UInt8) (hs:s.length≤Lim):Pure Tryz.prog 181 [.str s] (.int .i64 (yW s)):=by
 refine Pure.go ir181 ck181 (Al4 _) fun KP Q hQ=>?_
 simp only[Lim] at hs
 cases s with
 | nil =>
  simp(disch:=omega) only[ir181,go_sem]
  exact hQ _ _ _ _ nofun rfl (by simp[tupOf,envOf,AV.strip,AV.strip1,yW])
 | cons c r =>
  simp only[Al2] at hs
  have hne:¬ (c::r=[]):=by simp
  have hp:(0:Int)<((r.length+1:Nat):Int):=by omega
  have e1:=zam c 101 (by omega)
  have e2:=zam c 69 (by omega)
  have hE:∀(P:Prop),P→P:=fun _ h=>h
  by_cases hc:isE c=true
  case neg =>
   have hc1:¬ (c.toNat:Int)=101:=by
    intro hh;rw[decide_eq_true (by exact hh)] at e1
    exact hc (by simp[isE,(by simpa using e1.symm:c=101)])
   have hc2:¬ (c.toNat:Int)=69:=by
    intro hh;rw[decide_eq_true (by exact hh)] at e2
    exact hc (by simp[isE,(by simpa using e2.symm:c=69)])
   simp(disch:=omega) only[ir181,hne,hp,hc1,hc2,go_sem]
   have hcf:isE c=false:=by simpa using hc
   exact hQ _ _ _ _ nofun rfl (by simp[tupOf,envOf,AV.strip,AV.strip1,yW,hcf])
  have fin:∀ k:Nat,zw (r.drop (sgN r))=k→yW (c::r)=if k=0 then 0 else 1+sgN r+k:=fun k hk=>by subst hk;simp only[yW,hc,if_true]
  have hcase:(c.toNat:Int)=101∨(¬ (c.toNat:Int)=101∧(c.toNat:Int)=69):=by
   simp only[isE,zat,zp] at hc
   rcases hc with rfl|rfl
   ·exact .inl rfl
   ·exact .inr ⟨by decide,rfl⟩
  have hdl:=ye (r.drop (sgN r))
  rw[ZG] at hdl
  have hsl:=zcd r
  cases r with
  | nil =>
   have k0:=fin 0 (by simp[sgN,zw])
   rcases hcase with h1|⟨h1,h2⟩
   ·simp(disch:=omega) only[ir181,h1,go_sem]
    refine goK_pure (yz [] (by simp)) ?_
    simp(disch:=omega) only[zw,go_sem]
    exact hQ _ _ _ _ nofun rfl (by simp[tupOf,envOf,AV.strip,AV.strip1,k0])
   ·simp(disch:=omega) only[ir181,h1,h2,go_sem]
    refine goK_pure (yz [] (by simp)) ?_
    simp(disch:=omega) only[zw,go_sem]
    exact hQ _ _ _ _ nofun rfl (by simp[tupOf,envOf,AV.strip,AV.strip1,k0])
  | cons d t =>
   simp only[Al2] at hs
   have hl1:(1:Int)<((t.length+1+1:Nat):Int):=by omega
   have hl2:(2:Int)≤((t.length+1+1:Nat):Int):=by omega
   have hl3:(1:Int)≤((t.length+1+1:Nat):Int):=by omega
   have f1:=zam d 43 (by omega)
   have f2:=zam d 45 (by omega)
   by_cases hsg:d=43∨d=45
   ·have hsg1:sgN (d::t)=1:=by simp only[sgN,List.head?_cons,Al1,hsg,if_true]
    have k0:=fin (zw t) (by rw[hsg1];rfl)
    rw[hsg1] at k0 hdl
    have hd:(d.toNat:Int)=43∨(¬ (d.toNat:Int)=43∧(d.toNat:Int)=45):=by
     rcases hsg with rfl|rfl
     ·exact .inl rfl
     ·exact .inr ⟨by decide,rfl⟩
    rcases hcase with h1|⟨h1,h2⟩<;>rcases hd with h3|⟨h3,h4⟩
    all_goals
     simp only[hl1,hl2,Al2,List.drop_succ_cons,List.drop_zero] at hdl
    ·simp(disch:=omega) only[ir181,h1,h3,hl1,hl2,Int.toNat_one,go_sem]
     refine goK_pure (yz t (by simp only[Lim];omega)) ?_
     by_cases hz:zw t=0
     ·simp(disch:=omega) only[hz,go_sem]
      exact hQ _ _ _ _ nofun rfl (by simp[tupOf,envOf,AV.strip,AV.strip1,k0,hz])
     ·have hz':¬ (zw t:Int)=0:=by omega
      simp(disch:=omega) only[hz',wrap64,go_sem]
      exact hQ _ _ _ _ nofun rfl (by simp[tupOf,envOf,AV.strip,AV.strip1,k0,hz])
    ·simp(disch:=omega) only[ir181,h1,h3,h4,hl1,hl2,Int.toNat_one,go_sem]
     refine goK_pure (yz t (by simp only[Lim];omega)) ?_
     by_cases hz:zw t=0
     ·simp(disch:=omega) only[hz,go_sem]
      exact hQ _ _ _ _ nofun rfl (by simp[tupOf,envOf,AV.strip,AV.strip1,k0,hz])
     ·have hz':¬ (zw t:Int)=0:=by omega
      simp(disch:=omega) only[hz',wrap64,go_sem]
      exact hQ _ _ _ _ nofun rfl (by simp[tupOf,envOf,AV.strip,AV.strip1,k0,hz])
    ·simp(disch:=omega) only[ir181,h1,h2,h3,hl1,hl2,Int.toNat_one,go_sem]
     refine goK_pure (yz t (by simp only[Lim];omega)) ?_
     by_cases hz:zw t=0
     ·simp(disch:=omega) only[hz,go_sem]
      exact hQ _ _ _ _ nofun rfl (by simp[tupOf,envOf,AV.strip,AV.strip1,k0,hz])
     ·have hz':¬ (zw t:Int)=0:=by omega
      simp(disch:=omega) only[hz',wrap64,go_sem]
      exact hQ _ _ _ _ nofun rfl (by simp[tupOf,envOf,AV.strip,AV.strip1,k0,hz])
    ·simp(disch:=omega) only[ir181,h1,h2,h3,h4,hl1,hl2,Int.toNat_one,go_sem]
     refine goK_pure (yz t (by simp only[Lim];omega)) ?_
     by_cases hz:zw t=0
     ·simp(disch:=omega) only[hz,go_sem]
      exact hQ _ _ _ _ nofun rfl (by simp[tupOf,envOf,AV.strip,AV.strip1,k0,hz])
     ·have hz':¬ (zw t:Int)=0:=by omega
      simp(disch:=omega) only[hz',wrap64,go_sem]
      exact hQ _ _ _ _ nofun rfl (by simp[tupOf,envOf,AV.strip,AV.strip1,k0,hz])
   ·have hsg0:sgN (d::t)=0:=by simp only[sgN,List.head?_cons,Al1,hsg,if_false]
    have k0:=fin (zw (d::t)) (by rw[hsg0];rfl)
    rw[hsg0] at k0 hdl
    have h3:¬ (d.toNat:Int)=43:=by
     intro hh;rw[decide_eq_true (by exact hh)] at f1
     exact hsg (.inl (by simpa using f1.symm))
    have h4:¬ (d.toNat:Int)=45:=by
     intro hh;rw[decide_eq_true (by exact hh)] at f2
     exact hsg (.inr (by simpa using f2.symm))
    simp only[List.drop_zero,Al2] at hdl
    rcases hcase with h1|⟨h1,h2⟩
    ·simp(disch:=omega) only[ir181,h1,h3,h4,hl1,hl3,Int.toNat_one,go_sem]
     refine goK_pure (yz (d::t) (by simp only[Lim,Al2];omega)) ?_
     by_cases hz:zw (d::t)=0
     ·simp(disch:=omega) only[hz,go_sem]
      exact hQ _ _ _ _ nofun rfl (by simp[tupOf,envOf,AV.strip,AV.strip1,k0,hz])
     ·have hz':¬ (zw (d::t):Int)=0:=by omega
      simp(disch:=omega) only[hz',wrap64,go_sem]
      exact hQ _ _ _ _ nofun rfl (by simp[tupOf,envOf,AV.strip,AV.strip1,k0,hz])
    ·simp(disch:=omega) only[ir181,h1,h2,h3,h4,hl1,hl3,Int.toNat_one,go_sem]
     refine goK_pure (yz (d::t) (by simp only[Lim,Al2];omega)) ?_
     by_cases hz:zw (d::t)=0
     ·simp(disch:=omega) only[hz,go_sem]
      exact hQ _ _ _ _ nofun rfl (by simp[tupOf,envOf,AV.strip,AV.strip1,k0,hz])
     ·have hz':¬ (zw (d::t):Int)=0:=by omega
      simp(disch:=omega) only[hz',wrap64,go_sem]
      exact hQ _ _ _ _ nofun rfl (by simp[tupOf,envOf,AV.strip,AV.strip1,k0,hz])
def zX (r:List UInt8):Nat:=if r.head?=some 46∧0<zw r.tail then 1+zw r.tail else 0
def Zl (s:List UInt8):Nat×Int :=
 if zv s=0 then (0,0) else
  (zv s+zX (s.drop (zv s))+yW (s.drop (zv s+zX (s.drop (zv s)))),if zX (s.drop (zv s))=0∧yW (s.drop (zv s+zX (s.drop (zv s))))=0 then 3 else 4)
theorem zdY (r:List UInt8):zX r≤r.length:=by
 unfold zX
 split
 ·rename_i h
  cases r with
  | nil=>simp at h
  | cons c t=>have:=ye t;simp only[List.tail_cons,Al2];omega
 ·omega
theorem zeH (s:List UInt8) (hs:s.length≤Lim):Pure Tryz.prog 125 [.str s] (.tup [.int .i64 (Zl s).1,.int .i64 (Zl s).2]):=by
 refine Pure.go ir125 ck125 (Al4 _) fun KP Q hQ=>?_
 have hs':=hs
 simp only[Lim] at hs
 simp(disch:=omega) only[ir125,go_sem]
 refine goK_pure (zfc s hs') ?_
 have hw:=zaO s
 by_cases h0:zv s=0
 ·simp(disch:=omega) only[h0,go_sem]
  exact hQ _ _ _ _ nofun rfl (by simp[tupOf,envOf,AV.strip,AV.strip1,Zl,h0])
 have h0':¬ ((zv s:Int)=0):=by omega
 have hwl:(zv s:Int)≤s.length:=by omega
 simp(disch:=omega) only[h0',hwl,go_sem]
 refine goK_pure (zbd (s.drop (zv s)) [46]) ?_
 rw[zcT]
 generalize hn:zv s=n at *
 have fin:∀ f p:Nat,zX (s.drop n)=f→yW (s.drop (n+f))=p→Zl s=(n+f+p,if f=0∧p=0 then 3 else 4):=fun f p hf hp=>by
  unfold Zl
  rw[hn,hf,hp]
  simp only[h0,if_false]
 have hpl:=zcu (s.drop n)
 rw[ZG] at hpl
 by_cases h46:(s.drop n).head?=some 46
 ·obtain⟨c,t,hct⟩:∃ c t,s.drop n=c::t:=by
   cases hx:s.drop n with
   | nil=>rw[hx] at h46;simp at h46
   | cons c t=>exact⟨c,t,rfl⟩
  have hlen:s.length=n+1+t.length:=by have:=congrArg List.length hct;simp at this;omega
  have hdr:s.drop (n+1)=t:=by rw[← List.drop_drop,hct];rfl
  have hto:((n:Int)+1).toNat=n+1:=by omega
  have hn1:(0:Int)≤(n:Int)+1:=by omega
  have hn2:(n:Int)+1≤s.length:=by omega
  have hrl:=ye t
  simp(disch:=omega) only[h46,wrap64,hto,hn1,hn2,hdr,go_sem]
  refine goK_pure (yz t (by simp only[Lim];omega)) ?_
  by_cases hk:(0:Int)<zw t
  ·have hk':0<zw t:=by omega
   have hfr:zX (s.drop n)=1+zw t:=by unfold zX;rw[if_pos ⟨h46,by rw[hct];exact hk'⟩,hct];rfl
   have hto2:((n:Int)+1+zw t).toNat=n+(1+zw t):=by omega
   have hn3:(0:Int)≤(n:Int)+1+zw t:=by omega
   have hn4:(n:Int)+1+zw t≤s.length:=by omega
   have hpl2:=zcu (s.drop (n+(1+zw t)))
   rw[ZG] at hpl2
   simp(disch:=omega) only[hk,wrap64,hto2,hn3,hn4,go_sem]
   refine goK_pure (zcm (s.drop (n+(1+zw t))) (by rw[ZG];simp only[Lim];omega)) ?_
   have hf:=fin _ _ hfr rfl
   generalize hp:yW (s.drop (n+(1+zw t)))=p at *
   by_cases hp0:(0:Int)<p
   ·simp(disch:=omega) only[hp0,wrap64,go_sem]
    exact hQ _ _ _ _ nofun rfl (by simp[tupOf,envOf,AV.strip,AV.strip1,hf,Int.add_assoc])
   ·have hp00:p=0:=by omega
    subst hp00
    simp(disch:=omega) only[go_sem]
    exact hQ _ _ _ _ nofun rfl (by simp[tupOf,envOf,AV.strip,AV.strip1,hf,Int.add_assoc])
  ·have hk0:zw t=0:=by omega
   have hfr:zX (s.drop n)=0:=by unfold zX;exact if_neg fun hh=>by have:=hh.2;rw[hct] at this;simp only[List.tail_cons] at this;omega
   simp(disch:=omega) only[hk,hwl,go_sem]
   refine goK_pure (zcm (s.drop n) (by rw[ZG];simp only[Lim];omega)) ?_
   have hf:=fin _ _ hfr rfl
   rw[Nat.add_zero] at hf
   generalize hp:yW (s.drop n)=p at *
   by_cases hp0:(0:Int)<p
   ·have hp1:¬ p=0:=by omega
    simp(disch:=omega) only[hp0,wrap64,go_sem]
    exact hQ _ _ _ _ nofun rfl (by simp[tupOf,envOf,AV.strip,AV.strip1,hf,hp1])
   ·have hp00:p=0:=by omega
    subst hp00
    simp(disch:=omega) only[go_sem]
    exact hQ _ _ _ _ nofun rfl (by simp[tupOf,envOf,AV.strip,AV.strip1,hf])
 ·have hfr:zX (s.drop n)=0:=by unfold zX;exact if_neg fun hh=>h46 hh.1
  simp(disch:=omega) only[h46,hwl,go_sem]
  refine goK_pure (zcm (s.drop n) (by rw[ZG];simp only[Lim];omega)) ?_
  have hf:=fin _ _ hfr rfl
  rw[Nat.add_zero] at hf
  generalize hp:yW (s.drop n)=p at *
  by_cases hp0:(0:Int)<p
  ·have hp1:¬ p=0:=by omega
   simp(disch:=omega) only[hp0,wrap64,go_sem]
   exact hQ _ _ _ _ nofun rfl (by simp[tupOf,envOf,AV.strip,AV.strip1,hf,hp1])
  ·have hp00:p=0:=by omega
   subst hp00
   simp(disch:=omega) only[go_sem]
   exact hQ _ _ _ _ nofun rfl (by simp[tupOf,envOf,AV.strip,AV.strip1,hf])
def yF (s:List UInt8):Int:=if (Zl s).1=s.length then (Zl s).2 else 0
theorem Yr (s:List UInt8) (hs:s.length≤Lim):Pure Tryz.prog 129 [.str s] (.int .i64 (yF s)):=by
 refine Pure.go ir129 ck129 (Al4 _) fun KP Q hQ=>?_
 simp(disch:=omega) only[ir129,go_sem]
 refine goK_pure (zeH s hs) ?_
 by_cases h:(Zl s).1=s.length
 ·have h':(((Zl s).1:Int)=s.length)=True:=eq_true (by omega)
  simp(disch:=omega) only[h',go_sem]
  exact hQ _ _ _ _ nofun rfl (by simp[tupOf,envOf,AV.strip,AV.strip1,yF,h])
 ·have h':¬ ((Zl s).1:Int)=s.length:=by omega
  simp(disch:=omega) only[h',go_sem]
  exact hQ _ _ _ _ nofun rfl (by simp[tupOf,envOf,AV.strip,AV.strip1,yF,h])
def okI:Lib.NumEnd Int→Bool
 | .ok _=>true
 | _=>false
def zeF (s:List UInt8):Int:=match Lib.parseIntB 64 s with
 | .ok v=>v
 | Lib.NumEnd.syntax=>0
 | .range=>Lib.intSat 64 s
def YH (s:List UInt8):Bool:=okI (Lib.parseIntB 64 s)&&decide (yF s=3)
theorem ze5 (s:List UInt8) (hs:s.length≤Lim):Pure Tryz.prog 78 [.str s] (.tup [.int .i64 (zeF s),.bool (YH s)]):=by
 refine Pure.go ir78 ck78 (Al4 _) fun KP Q hQ=>?_
 simp(disch:=omega) only[ir78,go_sem]
 refine goK_pure (zaZ s (by simp only[Lim] at hs;omega)) ?_
 rcases hp:Lib.parseIntB 64 s with v|_|_
 ·simp(disch:=omega) only[parseA,hp,go_sem]
  refine goK_pure (Yr s hs) ?_
  simp(disch:=omega) only[go_sem]
  exact hQ _ _ _ _ nofun rfl (by simp[tupOf,envOf,AV.strip,AV.strip1,zeF,YH,hp,okI])
 ·simp(disch:=omega) only[parseA,hp,go_sem]
  exact hQ _ _ _ _ nofun rfl (by simp[tupOf,envOf,AV.strip,AV.strip1,zeF,YH,hp,okI])
 ·simp(disch:=omega) only[parseA,hp,go_sem]
  exact hQ _ _ _ _ nofun rfl (by simp[tupOf,envOf,AV.strip,AV.strip1,zeF,YH,hp,okI])
def zbB (s:List UInt8):Bool:=decide (yF s=4)||(decide (yF s=3)&&!YH s)
theorem zge (s:List UInt8) (hs:s.length≤Lim):Pure Tryz.prog 297 [.str s] (.bool (zbB s)):=by
 refine Pure.go ir297 ck297 (Al4 _) fun KP Q hQ=>?_
 simp(disch:=omega) only[ir297,go_sem]
 refine goK_pure (Yr s hs) ?_
 simp(disch:=omega) only[go_sem]
 refine goK_pure (ze5 s hs) ?_
 by_cases h4:yF s=4
 ·simp(disch:=omega) only[h4,go_sem]
  exact hQ _ _ _ _ nofun rfl (by simp[tupOf,envOf,AV.strip,AV.strip1,zbB,h4])
 ·by_cases h3:yF s=3
  ·simp(disch:=omega) only[h4,h3,go_sem]
   exact hQ _ _ _ _ nofun rfl (by simp[tupOf,envOf,AV.strip,AV.strip1,zbB,h4,h3])
  ·simp(disch:=omega) only[h4,h3,go_sem]
   exact hQ _ _ _ _ nofun rfl (by simp[tupOf,envOf,AV.strip,AV.strip1,zbB,h4,h3])
def zaE (s:List UInt8):Bool:=decide (s=[116,114,117,101])||(decide (s=[102,97,108,115,101])||decide (s=[110,117,108,108]))
theorem zf3 (s:List UInt8):Pure Tryz.prog 298 [.str s] (.bool (zaE s)):=by
 refine Pure.go ir298 ck298 (Al4 _) fun KP Q hQ=>?_
 by_cases h1:s=[116,114,117,101]
 ·simp(disch:=omega) only[ir298,h1,go_sem]
  exact hQ _ _ _ _ nofun rfl (by simp[tupOf,envOf,AV.strip,AV.strip1,zaE,h1])
 ·by_cases h2:s=[102,97,108,115,101]
  ·subst h2
   have h3:¬ ([102,97,108,115,101]:List UInt8)=[116,114,117,101]:=by decide
   simp(disch:=omega) only[ir298,h3,go_sem]
   exact hQ _ _ _ _ nofun rfl (by simp[tupOf,envOf,AV.strip,AV.strip1,zaE,h3])
  ·simp(disch:=omega) only[ir298,h1,h2,go_sem]
   exact hQ _ _ _ _ nofun rfl (by simp[tupOf,envOf,AV.strip,AV.strip1,zaE,h1,h2])
theorem zeY (s:List UInt8) (hs:s.length≤Lim):Pure Tryz.prog 130 [.str s] (.bool (Lib.validD s)):=by
 refine Pure.go ir130 ck130 (Al4 _) fun KP Q hQ=>?_
 simp(disch:=omega) only[ir130,go_sem]
 refine goK_pure (zdJ s (by simp only[Lim] at hs;omega)) ?_
 simp(disch:=omega) only[go_sem]
 exact hQ _ _ _ _ nofun rfl (by simp[tupOf,envOf,AV.strip,AV.strip1])
def zo (n:Int) (s:List UInt8) (l:List Val) (m:List Mem):Bool:=decide (n=0)&&(decide (s=[])&&(decide (l.length=0)&&decide (m.length=0)))
theorem zdE (k n:Int) (s:List UInt8) (l:List Val) (m:List Mem):Pure Tryz.prog 289 [.agg (cV (.mk k n s l m))] (.bool (zo n s l m)):=by
 refine Pure.go ir289 ck289 (Al4 _) fun KP Q hQ=>?_
 have h1:=zU l
 have h2:=zL m
 by_cases g1:n=0
 case neg =>
  simp(disch:=omega) only[ir289,zk,g1,go_sem]
  exact hQ _ _ _ _ nofun rfl (by simp[tupOf,envOf,AV.strip,AV.strip1,zo,g1])
 by_cases g2:s=[]
 case neg =>
  simp(disch:=omega) only[ir289,zk,g1,g2,go_sem]
  exact hQ _ _ _ _ nofun rfl (by simp[tupOf,envOf,AV.strip,AV.strip1,zo,g2])
 by_cases g3:l.length=0
 case neg =>
  simp(disch:=omega) only[ir289,zk,g1,g2,h1,g3,go_sem]
  exact hQ _ _ _ _ nofun rfl (by simp[tupOf,envOf,AV.strip,AV.strip1,zo,g3])
 have e:decide ((m.length:Int)=0)=decide (m.length=0):=by rw[decide_eq_decide];omega
 simp(disch:=omega) only[ir289,zk,g1,g2,h1,h2,g3,go_sem]
 exact hQ _ _ _ _ nofun rfl (by simp[tupOf,envOf,AV.strip,AV.strip1,zo,g1,g2,g3,e])
def zh (k n:Int) (s:List UInt8) (l:List Val) (m:List Mem):Bool :=
 zo 0 [] l m&&(if k=0 then decide (n=0)&&decide (s=[]) else if k=1 then (decide (n=0)||decide (n=1))&&decide (s=[]) else if k=2 then decide (s=[])
  else if k=3 then decide (n=0)&&zbB s else if k=4 then decide (n=0)&&Lib.validD s else if k=5 then decide (n=0)&&(zj s&&!zaE s) else if k=8 then decide (n=0)&&zj s else false)
theorem zeo (k n:Int) (s:List UInt8) (l:List Val) (m:List Mem) (hs:s.length≤Lim):Pure Tryz.prog 288 [.agg (cV (.mk k n s l m))] (.bool (zh k n s l m)):=by
 refine Pure.go ir288 ck288 (Al4 _) fun KP Q hQ=>?_
 simp(disch:=omega) only[ir288,zk,go_sem]
 refine goA_intro fun b hb=>?_
 simp(disch:=omega) only[go_sem]
 refine goK_pure (zdE k 0 [] l m) ?_
 cases hb:zo 0 [] l m with
 | false =>
  simp(disch:=omega) only[hb,go_sem]
  exact hQ _ _ _ _ nofun rfl (by simp[tupOf,envOf,AV.strip,AV.strip1,zh,hb])
 | true =>
  by_cases k0:k=0
  ·by_cases n0:n=0
   ·simp(disch:=omega) only[hb,k0,n0,go_sem]
    exact hQ _ _ _ _ nofun rfl (by simp[tupOf,envOf,AV.strip,AV.strip1,zh,hb,k0,n0])
   ·simp(disch:=omega) only[hb,k0,n0,go_sem]
    exact hQ _ _ _ _ nofun rfl (by simp[tupOf,envOf,AV.strip,AV.strip1,zh,hb,k0,n0])
  by_cases k1:k=1
  ·by_cases n0:n=0
   ·simp(disch:=omega) only[hb,k0,k1,n0,go_sem]
    exact hQ _ _ _ _ nofun rfl (by simp[tupOf,envOf,AV.strip,AV.strip1,zh,hb,k1,n0])
   ·by_cases n1:n=1
    ·simp(disch:=omega) only[hb,k0,k1,n0,n1,go_sem]
     exact hQ _ _ _ _ nofun rfl (by simp[tupOf,envOf,AV.strip,AV.strip1,zh,hb,k1,n1])
    ·simp(disch:=omega) only[hb,k0,k1,n0,n1,go_sem]
     exact hQ _ _ _ _ nofun rfl (by simp[tupOf,envOf,AV.strip,AV.strip1,zh,hb,k1,n0,n1])
  by_cases k2:k=2
  ·simp(disch:=omega) only[hb,k0,k1,k2,go_sem]
   exact hQ _ _ _ _ nofun rfl (by simp[tupOf,envOf,AV.strip,AV.strip1,zh,hb,k2])
  by_cases k3:k=3
  ·by_cases n0:n=0
   ·simp(disch:=omega) only[hb,k0,k1,k2,k3,n0,go_sem]
    refine goK_pure (zge s hs) ?_
    simp(disch:=omega) only[go_sem]
    exact hQ _ _ _ _ nofun rfl (by simp[tupOf,envOf,AV.strip,AV.strip1,zh,hb,k3,n0])
   ·simp(disch:=omega) only[hb,k0,k1,k2,k3,n0,go_sem]
    exact hQ _ _ _ _ nofun rfl (by simp[tupOf,envOf,AV.strip,AV.strip1,zh,hb,k3,n0])
  by_cases k4:k=4
  ·by_cases n0:n=0
   ·simp(disch:=omega) only[hb,k0,k1,k2,k3,k4,n0,go_sem]
    refine goK_pure (zeY s hs) ?_
    simp(disch:=omega) only[go_sem]
    exact hQ _ _ _ _ nofun rfl (by simp[tupOf,envOf,AV.strip,AV.strip1,zh,hb,k4,n0])
   ·simp(disch:=omega) only[hb,k0,k1,k2,k3,k4,n0,go_sem]
    exact hQ _ _ _ _ nofun rfl (by simp[tupOf,envOf,AV.strip,AV.strip1,zh,hb,k4,n0])
  by_cases k5:k=5
  ·by_cases n0:n=0
   ·simp(disch:=omega) only[hb,k0,k1,k2,k3,k4,k5,n0,go_sem]
    refine goK_pure (zaV s hs) ?_
    cases hn:zj s with
    | true =>
     simp(disch:=omega) only[hn,go_sem]
     refine goK_pure (zf3 s) ?_
     simp(disch:=omega) only[go_sem]
     exact hQ _ _ _ _ nofun rfl (by simp[tupOf,envOf,AV.strip,AV.strip1,zh,hb,k5,n0,hn])
    | false =>
     simp(disch:=omega) only[hn,go_sem]
     exact hQ _ _ _ _ nofun rfl (by simp[tupOf,envOf,AV.strip,AV.strip1,zh,hb,k5,n0,hn])
   ·simp(disch:=omega) only[hb,k0,k1,k2,k3,k4,k5,n0,go_sem]
    exact hQ _ _ _ _ nofun rfl (by simp[tupOf,envOf,AV.strip,AV.strip1,zh,hb,k5,n0])
  by_cases k8:k=8
  ·by_cases n0:n=0
   ·simp(disch:=omega) only[hb,k0,k1,k2,k3,k4,k5,k8,n0,go_sem]
    refine goK_pure (zaV s hs) ?_
    simp(disch:=omega) only[go_sem]
    exact hQ _ _ _ _ nofun rfl (by simp[tupOf,envOf,AV.strip,AV.strip1,zh,hb,k8,n0])
   ·simp(disch:=omega) only[hb,k0,k1,k2,k3,k4,k5,k8,n0,go_sem]
    exact hQ _ _ _ _ nofun rfl (by simp[tupOf,envOf,AV.strip,AV.strip1,zh,hb,k8,n0])
  ·simp(disch:=omega) only[hb,k0,k1,k2,k3,k4,k5,k8,go_sem]
   exact hQ _ _ _ _ nofun rfl (by simp[tupOf,envOf,AV.strip,AV.strip1,zh,hb,k0,k1,k2,k3,k4,k5,k8])
mutual
def zx (may:List UInt8→Bool):Val→Bool
 | .mk k n s l m=>if k=6 then Ze may l&&zo n s [] m else if k=7 then Zb may m&&zo n s l [] else zh k n s l m
def Ze (may:List UInt8→Bool):List Val→Bool
 | []=>true
 | v::r=>zx may v&&Ze may r
def zeQ (may:List UInt8→Bool):Mem→Bool
 | .mk s v=>may s&&zx may v
def Zb (may:List UInt8→Bool):List Mem→Bool
 | []=>true
 | x::r=>zeQ may x&&Zb may r
end
theorem zf6 (f:FuncId) (hf:Program.callable Tryz.prog f=true) (may:List UInt8→Bool) (hmay:∀ s:List UInt8,s.length≤Lim→Pure Tryz.prog f [.str s] (.bool (may s))) :
  ∀ v,bV v≤Lim→Pure Tryz.prog 278 [.agg (cV v),.clo f [] []] (.bool (zx may v)):=by
 refine Val.ind fun k n s l m ihl ihm hb=>?_
 have hb':1+s.length+bVs l+bMs m≤Lim:=hb
 have hll:=yd l
 have hml:=zK m
 have h1:=zU l
 have h2:=zL m
 simp only[Lim] at hb'
 refine Pure.go ir278 ck278 (Al4 _) fun KP Q hQ=>?_
 simp(disch:=omega) only[ir278,zk,go_sem]
 refine goA_intro fun b hb=>?_
 by_cases k6:k=6
 ·subst k6
  simp(disch:=omega) only[h1,go_sem]
  refine goL_range l 22 (fun _:Unit=>[(6,.bool true)]) (fun done rest _ H=>Ze may rest=Ze may l∧H b=some (.cells [.int .i64 6,.int .i64 n,.str s,.sl .nil 5 [],.sl .no 6 (cMs m)])) () (by simp(disch:=omega) only[go_sem]) ⟨rfl,by simp[Heap.upd]⟩ ?_ ?_
  ·rintro _ H J ⟨hn,hH⟩ hlt
   simp only[Ze] at hn
   simp(disch:=omega) only[h1,hlt,hH,go_sem]
   refine goK_pure (Pure.low (zdE 6 n s [] m)) ?_
   simp(disch:=omega) only[go_sem]
   exact hQ _ _ _ _ nofun rfl (by simp[tupOf,envOf,AV.strip,AV.strip1,zx,← hn])
  ·rintro done x rest _ H J hd hlt _ ⟨hn,hH⟩ hJ
   have hg:=zZ hd
   have hbm:=yL done x rest
   rw[← hd] at hbm
   simp only[Ze] at hn
   simp(disch:=omega) only[zf,zc,za,ze,zd,zb,zi,h1,hlt,hg,go_sem]
   refine goA_intro fun b2 hb2=>?_
   have hne:=ne_of_none hb2 hH
   simp(disch:=omega) only[zf,zc,za,ze,zd,zb,zi,go_sem]
   refine goK_pure (ihl x (by rw[hd];simp) (by simp only[Lim];omega)) ?_
   cases hx:zx may x with
   | true =>
    simp only[hx,Bool.true_and] at hn
    simp(disch:=omega) only[hx,go_sem]
    exact goJ (hJ () _ ⟨hn,by simp[Heap.upd,Ne.symm hne,hH]⟩) (by simp(disch:=omega) only[wrap64,go_sem])
   | false =>
    simp only[hx,Bool.false_and] at hn
    simp(disch:=omega) only[hx,go_sem]
    exact hQ _ _ _ _ nofun rfl (by simp[tupOf,envOf,AV.strip,AV.strip1,zx,← hn])
 by_cases k7:k=7
 ·subst k7
  simp(disch:=omega) only[h2,go_sem]
  refine goL_range m 38 (fun _:Unit=>[(6,.bool true)]) (fun done rest _ H=>Zb may rest=Zb may m∧H b=some (.cells [.int .i64 7,.int .i64 n,.str s,.sl .no 5 (cVs l),.sl .nil 6 []])) () (by simp(disch:=omega) only[go_sem]) ⟨rfl,by simp[Heap.upd]⟩ ?_ ?_
  ·rintro _ H J ⟨hn,hH⟩ hlt
   simp only[Zb] at hn
   simp(disch:=omega) only[h2,hlt,hH,go_sem]
   refine goK_pure (Pure.low (zdE 7 n s l [])) ?_
   simp(disch:=omega) only[go_sem]
   exact hQ _ _ _ _ nofun rfl (by simp[tupOf,envOf,AV.strip,AV.strip1,zx,← hn])
  ·rintro done x rest _ H J hd hlt _ ⟨hn,hH⟩ hJ
   have hg:=zP hd
   have hbm:=zW done x rest
   rw[← hd] at hbm
   have hmem:x∈m:=by rw[hd];simp
   obtain⟨t,v⟩:=x
   simp only[Zb,zeQ,bM] at hn hbm
   simp(disch:=omega) only[zf,zc,za,ze,zd,zb,zi,h2,hlt,hg,go_sem]
   refine goA_intro fun b2 hb2=>?_
   have hne:=ne_of_none hb2 hH
   simp(disch:=omega) only[zf,zc,za,ze,zd,zb,zi,go_sem]
   refine⟨hf,goK_pure (hmay t (by simp only[Lim];omega)) ?_⟩
   cases ht:may t with
   | true =>
    simp(disch:=omega) only[zf,zc,za,ze,zd,zb,zi,ht,go_sem]
    refine goK_pure (ihm t v hmem (by simp only[Lim];omega)) ?_
    cases hx:zx may v with
    | true =>
     simp only[ht,hx,Bool.true_and] at hn
     simp(disch:=omega) only[hx,go_sem]
     exact goJ (hJ () _ ⟨hn,by simp[Heap.upd,Ne.symm hne,hH]⟩) (by simp(disch:=omega) only[wrap64,go_sem])
    | false =>
     simp only[ht,hx,Bool.true_and,Bool.false_and] at hn
     simp(disch:=omega) only[hx,go_sem]
     exact hQ _ _ _ _ nofun rfl (by simp[tupOf,envOf,AV.strip,AV.strip1,zx,← hn])
   | false =>
    simp only[ht,Bool.false_and] at hn
    simp(disch:=omega) only[zf,zc,za,ze,zd,zb,zi,ht,go_sem]
    exact hQ _ _ _ _ nofun rfl (by simp[tupOf,envOf,AV.strip,AV.strip1,zx,← hn])
 ·simp(disch:=omega) only[k6,k7,go_sem]
  refine goK_pure (zeo k n s l m (by simp only[Lim];omega)) ?_
  simp(disch:=omega) only[go_sem]
  exact hQ _ _ _ _ nofun rfl (by simp[tupOf,envOf,AV.strip,AV.strip1,zx,k6,k7])
def zq (v:Val):Bool:=zx Lib.validD v
def yt (v:Val):Bool:=zx zj v&&decide (zJ v≤16)
theorem zeD (v:Val) (hb:bV v≤Lim):Pure Tryz.prog 274 [.agg (cV v)] (.bool (yt v)):=by
 refine Pure.go ir274 ck274 (Al4 _) fun KP Q hQ=>?_
 simp(disch:=omega) only[zf,zc,za,ze,zd,zb,zi,ir274,go_sem]
 refine goK_pure (zf6 _ (by kernel_rfl) zj zaV v hb) ?_
 cases h:zx zj v with
 | true =>
  simp(disch:=omega) only[zf,zc,za,ze,zd,zb,zi,h,go_sem]
  refine goK_pure (za2 v hb) ?_
  simp(disch:=omega) only[go_sem]
  exact hQ _ _ _ _ nofun rfl (by simp[tupOf,envOf,AV.strip,AV.strip1,yt,h])
 | false =>
  simp(disch:=omega) only[h,go_sem]
  exact hQ _ _ _ _ nofun rfl (by simp[tupOf,envOf,AV.strip,AV.strip1,yt,h])
theorem zbC (s:List UInt8):Pure Tryz.prog 279 [.str s] (.agg (cK ⟨2,s⟩)):=by
 refine Pure.go ir279 ck279 (Al4 _) fun KP Q hQ=>?_
 simp(disch:=omega) only[ir279,go_sem]
 refine goA_intro fun b hb=>?_
 simp(disch:=omega) only[go_sem]
 exact hQ _ _ _ [.agg [.int .i64 2,.str s]] nofun (by simp(disch:=omega) only[ir279,resvs,resv,go_sem]) rfl
theorem YB (s:List UInt8):Pure Tryz.prog 282 [.str s] (.agg (cK ⟨1,s⟩)):=by
 refine Pure.go ir282 ck282 (Al4 _) fun KP Q hQ=>?_
 simp(disch:=omega) only[ir282,go_sem]
 refine goA_intro fun b hb=>?_
 simp(disch:=omega) only[go_sem]
 exact hQ _ _ _ [.agg [.int .i64 1,.str s]] nofun (by simp(disch:=omega) only[ir282,resvs,resv,go_sem]) rfl
def boolT (b:Bool):List UInt8:=if b then [116,114,117,101] else [102,97,108,115,101]
theorem zdp (b:Bool):Pure Tryz.prog 290 [.bool b] (.str (boolT b)):=by
 refine Pure.go ir290 ck290 (Al4 _) fun KP Q hQ=>?_
 cases b
 ·simp(disch:=omega) only[ir290,go_sem]
  exact hQ _ _ _ _ nofun rfl (by simp[tupOf,envOf,AV.strip,AV.strip1,boolT])
 ·simp(disch:=omega) only[ir290,go_sem]
  exact hQ _ _ _ _ nofun rfl (by simp[tupOf,envOf,AV.strip,AV.strip1,boolT])
theorem zeP (b:Bool):Pure Tryz.prog 280 [.bool b] (.str (boolT b)):=by
 refine Pure.go ir280 ck280 (Al4 _) fun KP Q hQ=>?_
 simp(disch:=omega) only[ir280,go_sem]
 refine goK_pure (zdp b) ?_
 simp(disch:=omega) only[go_sem]
 exact hQ _ _ _ _ nofun rfl (by simp[tupOf,envOf,AV.strip,AV.strip1])
mutual
def zH:Val→List Tok
 | .mk k n s l m=>if k=0 then [⟨2,[110,117,108,108]⟩] else if k=1 then [⟨2,boolT (decide (n=1))⟩] else if k=2 then [⟨3,Lib.itoa n⟩] else if k=3 then [⟨yF s,s⟩] else if k=4 then [⟨5,s⟩]
  else if k=5 then [⟨2,s⟩] else if k=8 then [⟨1,[36]⟩,⟨2,s⟩] else if k=6 then ⟨1,[91]⟩::(yQ l++[⟨1,[93]⟩]) else ⟨1,[123]⟩::(zN m++[⟨1,[125]⟩])
def yQ:List Val→List Tok
 | []=>[]
 | v::r=>zH v++yQ r
def YE:Mem→List Tok
 | .mk s v=>⟨2,s⟩::⟨1,[58]⟩::zH v
def zN:List Mem→List Tok
 | []=>[]
 | x::r=>YE x++zN r
end
mutual
theorem ZW:∀ v,(zH v).length+2≤4*bV v
 | .mk k n s l m=>by
  have h1:=Yn l
  have h2:=Yg m
  simp only[zH,bV]
  repeat' split
  all_goals simp only[Al2,Al5,Al3]
  all_goals omega
theorem Yn:∀ l,(yQ l).length≤4*bVs l
 | []=>by simp[yQ]
 | v::r=>by
  have h1:=ZW v
  have h2:=Yn r
  simp only[yQ,bVs,Al5];omega
theorem zcA:∀ x,(YE x).length≤4*bM x
 | .mk s v=>by have:=ZW v;simp only[YE,bM,Al2];omega
theorem Yg:∀ l,(zN l).length≤4*bMs l
 | []=>by simp[zN]
 | x::r=>by
  have h1:=zcA x
  have h2:=Yg r
  simp only[zN,bMs,Al5];omega
end
def inR (n:Int):Prop:=-9223372036854775808≤n∧n≤9223372036854775807
mutual
def wfV:Val→Prop
 | .mk _ n _ l m=>inR n∧zck l∧YY m
def zck:List Val→Prop
 | []=>True
 | v::r=>wfV v∧zck r
def wfM:Mem→Prop
 | .mk _ v=>wfV v
def YY:List Mem→Prop
 | []=>True
 | x::r=>wfM x∧YY r
end
theorem zai:∀ {l:List Val},zck l→∀ v∈l,wfV v
 | _::_,h,v,hv=>(List.mem_cons.1 hv).elim (fun e=>e▸h.1) (zai h.2 v)
theorem ZN:∀ {l:List Mem},YY l→∀ s v,Mem.mk s v∈l→wfV v
 | _::_,h,s,v,hv=>(List.mem_cons.1 hv).elim (fun e=>by have:=h.1;rw[← e] at this;exact this) (ZN h.2 s v)
theorem yU (a:List Tok) (t:Tok):cKs a++[[.int .i64 t.k,.str t.s]]=cKs (a++[t]):=by simp[cKs,cK]
theorem zbU (a:List Tok) (t u:Tok):cKs a++[[.int .i64 t.k,.str t.s],[.int .i64 u.k,.str u.s]]=cKs (a++[t,u]):=by simp[cKs,cK]
theorem zel:∀ v,wfV v→∀ acc H o,acc.length+4*bV v≤Lim→Owned H o acc.length 2→zbV Tryz.prog 275 [.sl o 2 (cKs acc),.agg (cV v)] H o 2 (cKs (acc++zH v)):=by
 refine Val.ind fun k n s l m ihl ihm hwf acc H o hb ho=>?_
 obtain⟨hn,hwl,hwm⟩:=hwf
 have hb':acc.length+4*(1+s.length+bVs l+bMs m)≤Lim:=hb
 have hll:=yd l
 have hml:=zK m
 have h1:=zU l
 have h2:=zL m
 have h3:=zu acc
 have hT:=Yn l
 have hM:=Yg m
 simp only[Lim] at hb'
 have hsl:s.length≤Lim:=by simp only[Lim];omega
 refine ACalls.goO ir275 ck275 (Al4 _) fun KP Q hQ hP=>?_
 have one:∀ t:Tok,zH (.mk k n s l m)=[t]→∀ o' H',OwnS H o H' o' (acc.length+1) 2→zc4 H o 2 (cKs (acc++zH (.mk k n s l m))) (.sl o' 2 (cKs acc++[[.int .i64 t.k,.str t.s]])) H':=fun t e o' H' hs=>by
  rw[e];exact⟨o',by rw[yU],by rw[zu];simpa using hs⟩
 have hq1:((cKs acc).length+1)*24≤140737488355328:=by rw[h3];omega
 have hq2:(cKs acc).length+1≤maxLen:=by rw[h3];simp only[maxLen];omega
 have hq3:((cKs acc).length+2)*24≤140737488355328:=by rw[h3];omega
 have hq4:(cKs acc).length+2≤maxLen:=by rw[h3];simp only[maxLen];omega
 have ho':Owned H o (cKs acc).length 2:=by rw[h3];exact ho
 by_cases k0:k=0
 ·subst k0
  simp(disch:=omega) only[ir275,zk,go_sem]
  refine goK_pure (zbC _) ?_
  simp(disch:=omega) only[cK,go_sem]
  refine goP_ownS ho' hq1 hq2 fun o' H' hs=>?_
  simp(disch:=omega) only[go_sem]
  exact hQ _ _ H' H' [_] nofun rfl (Low.refl _) (one ⟨2,[110,117,108,108]⟩ (by simp[zH]) o' H' (by simpa[h3] using hs))
 by_cases k1:k=1
 ·subst k1
  simp(disch:=omega) only[ir275,zk,go_sem]
  refine goK_pure (zeP _) ?_
  simp(disch:=omega) only[go_sem]
  refine goK_pure (zbC _) ?_
  simp(disch:=omega) only[cK,go_sem]
  refine goP_ownS ho' hq1 hq2 fun o' H' hs=>?_
  simp(disch:=omega) only[go_sem]
  exact hQ _ _ H' H' [_] nofun rfl (Low.refl _) (one ⟨2,boolT (decide (n=1))⟩ (by simp[zH]) o' H' (by simpa[h3] using hs))
 by_cases k2:k=2
 ·subst k2
  simp(disch:=omega) only[ir275,zk,go_sem]
  refine goK_pure (zaA n hn.1 hn.2) ?_
  simp(disch:=omega) only[go_sem]
  refine goP_ownS ho' hq1 hq2 fun o' H' hs=>?_
  simp(disch:=omega) only[go_sem]
  exact hQ _ _ H' H' [_] nofun rfl (Low.refl _) (one ⟨3,Lib.itoa n⟩ (by simp[zH]) o' H' (by simpa[h3] using hs))
 by_cases k3:k=3
 ·subst k3
  simp(disch:=omega) only[ir275,zk,go_sem]
  refine goK_pure (Yr s hsl) ?_
  simp(disch:=omega) only[go_sem]
  refine goP_ownS ho' hq1 hq2 fun o' H' hs=>?_
  simp(disch:=omega) only[go_sem]
  exact hQ _ _ H' H' [_] nofun rfl (Low.refl _) (one ⟨yF s,s⟩ (by simp[zH]) o' H' (by simpa[h3] using hs))
 by_cases k4:k=4
 ·subst k4
  simp(disch:=omega) only[ir275,zk,go_sem]
  refine goP_ownS ho' hq1 hq2 fun o' H' hs=>?_
  simp(disch:=omega) only[go_sem]
  exact hQ _ _ H' H' [_] nofun rfl (Low.refl _) (one ⟨5,s⟩ (by simp[zH]) o' H' (by simpa[h3] using hs))
 by_cases k5:k=5
 ·subst k5
  simp(disch:=omega) only[ir275,zk,go_sem]
  refine goK_pure (zbC _) ?_
  simp(disch:=omega) only[cK,go_sem]
  refine goP_ownS ho' hq1 hq2 fun o' H' hs=>?_
  simp(disch:=omega) only[go_sem]
  exact hQ _ _ H' H' [_] nofun rfl (Low.refl _) (one ⟨2,s⟩ (by simp[zH]) o' H' (by simpa[h3] using hs))
 by_cases k8:k=8
 ·subst k8
  simp(disch:=omega) only[ir275,zk,go_sem]
  refine goK_pure (YB _) ?_
  simp(disch:=omega) only[cK,go_sem]
  refine goK_pure (zbC _) ?_
  simp(disch:=omega) only[cK,go_sem]
  refine goP_ownS ho' hq3 hq4 fun o' H' hs=>?_
  simp(disch:=omega) only[go_sem]
  refine hQ _ _ H' H' [_] nofun rfl (Low.refl _) ?_
  have e:zH (.mk 8 n s l m)=[⟨1,[36]⟩,⟨2,s⟩]:=by simp[zH]
  rw[e]
  exact⟨o',by rw[← zbU];rfl,by rw[zu];simpa[h3] using hs⟩
 by_cases k6:k=6
 ·subst k6
  have e:zH (.mk 6 n s l m)=⟨1,[91]⟩::(yQ l++[⟨1,[93]⟩]):=by simp[zH]
  have ea:=yU acc ⟨1,[91]⟩
  simp only at ea
  simp(disch:=omega) only[ir275,zk,go_sem]
  refine goK_pure (YB _) ?_
  simp(disch:=omega) only[cK,go_sem]
  refine goP_ownS ho' hq1 hq2 fun o1 H1 hs1=>?_
  have hs1':OwnS H o H1 o1 (acc++[(⟨1,[91]⟩:Tok)]).length 2:=by simpa[h3] using hs1
  simp(disch:=omega) only[ea,h1,go_sem]
  refine goL_range l 81 (fun x:Own×List Tok=>[(0,.sl x.1 2 (cKs x.2))]) (fun done rest x H'=>x.2++yQ rest=acc++⟨1,[91]⟩::yQ l∧x.2.length+4*bVs rest≤acc.length+1+4*bVs l∧OwnS H o H' x.1 x.2.length 2) (o1,acc++[⟨1,[91]⟩]) (by simp(disch:=omega) only[go_sem]) ⟨by simp,by simp,hs1'⟩ ?_ ?_
  ·rintro⟨o2,a⟩ H2 J ⟨hn,hle,hs⟩ hlt
   simp only[yQ,List.append_nil,bVs] at hn hle
   have h4:=zu a
   simp(disch:=omega) only[h1,hlt,go_sem]
   refine goK_pure (YB _) ?_
   simp(disch:=omega) only[cK,go_sem]
   refine goP_ownS (by rw[h4];exact hs.own) (by simp only[h4,Al2,Al3];omega) (by simp only[h4,Al2,Al3,maxLen];omega) fun o3 H3 hs3=>?_
   simp(disch:=omega) only[go_sem]
   refine hQ _ _ H3 H3 [_] nofun rfl (Low.refl _) ?_
   have e2:acc++zH (.mk 6 n s l m)=a++[⟨1,[93]⟩]:=by rw[e,hn];simp
   rw[e2]
   exact⟨o3,by rw[← yU];rfl,by rw[zu];exact hs.trans (by simpa[h4] using hs3)⟩
  ·rintro done x rest ⟨o2,a⟩ H2 J hd hlt _ ⟨hn,hle,hs⟩ hJ
   have hg:=zZ hd
   have hx:=ZW x
   have hmem:x∈l:=by rw[hd];simp
   simp only[yQ,bVs] at hn hle
   simp(disch:=omega) only[zf,zc,za,ze,zd,zb,zi,h1,hlt,hg,go_sem]
   refine goA_intro fun b hb=>?_
   simp(disch:=omega) only[zf,zc,za,ze,zd,zb,zi,go_sem]
   refine yc (ihl x hmem (zai hwl x hmem) a _ o2 (by simp only[Lim];omega) (hs.own.upd hb)) fun o3 H3 hs3=>?_
   rw[zu] at hs3
   simp(disch:=omega) only[wrap64,go_sem]
   exact goJ (hJ (o3,a++zH x) H3 ⟨by rw[← hn];simp,by simp only[Al5];omega,(hs.upd hb).trans hs3⟩) (by simp(disch:=omega) only[go_sem])
 ·have e:zH (.mk k n s l m)=⟨1,[123]⟩::(zN m++[⟨1,[125]⟩]):=by simp[zH,k0,k1,k2,k3,k4,k5,k8,k6]
  have ea:=yU acc ⟨1,[123]⟩
  simp only at ea
  simp(disch:=omega) only[ir275,zk,k0,k1,k2,k3,k4,k5,k8,k6,go_sem]
  refine goK_pure (YB _) ?_
  simp(disch:=omega) only[cK,go_sem]
  refine goP_ownS ho' hq1 hq2 fun o1 H1 hs1=>?_
  have hs1':OwnS H o H1 o1 (acc++[(⟨1,[123]⟩:Tok)]).length 2:=by simpa[h3] using hs1
  simp(disch:=omega) only[ea,h2,go_sem]
  refine goL_range m 100 (fun x:Own×List Tok=>[(0,.sl x.1 2 (cKs x.2))]) (fun done rest x H'=>x.2++zN rest=acc++⟨1,[123]⟩::zN m∧x.2.length+4*bMs rest≤acc.length+1+4*bMs m∧OwnS H o H' x.1 x.2.length 2) (o1,acc++[⟨1,[123]⟩]) (by simp(disch:=omega) only[go_sem]) ⟨by simp,by simp,hs1'⟩ ?_ ?_
  ·rintro⟨o2,a⟩ H2 J ⟨hn,hle,hs⟩ hlt
   simp only[zN,List.append_nil,bMs] at hn hle
   have h4:=zu a
   simp(disch:=omega) only[h2,hlt,go_sem]
   refine goK_pure (YB _) ?_
   simp(disch:=omega) only[cK,go_sem]
   refine goP_ownS (by rw[h4];exact hs.own) (by simp only[h4,Al2,Al3];omega) (by simp only[h4,Al2,Al3,maxLen];omega) fun o3 H3 hs3=>?_
   simp(disch:=omega) only[go_sem]
   refine hQ _ _ H3 H3 [_] nofun rfl (Low.refl _) ?_
   have e2:acc++zH (.mk k n s l m)=a++[⟨1,[125]⟩]:=by rw[e,hn];simp
   rw[e2]
   exact⟨o3,by rw[← yU];rfl,by rw[zu];exact hs.trans (by simpa[h4] using hs3)⟩
  ·rintro done x rest ⟨o2,a⟩ H2 J hd hlt _ ⟨hn,hle,hs⟩ hJ
   have hg:=zP hd
   have hmem:x∈m:=by rw[hd];simp
   obtain⟨t,v⟩:=x
   have hx:=ZW v
   have h4:=zu a
   have hp:=ZD v
   simp only[zN,YE,bMs,bM] at hn hle
   have ea2:=zbU a ⟨2,t⟩ ⟨1,[58]⟩
   simp only at ea2
   simp(disch:=omega) only[zf,zc,za,ze,zd,zb,zi,h2,hlt,hg,go_sem]
   refine goA_intro fun b hb=>?_
   simp(disch:=omega) only[zf,zc,za,ze,zd,zb,zi,go_sem]
   refine goK_pure (zbC _) ?_
   simp(disch:=omega) only[zf,zc,za,ze,zd,zb,zi,cK,go_sem]
   refine goK_pure (YB _) ?_
   simp(disch:=omega) only[zf,zc,za,ze,zd,zb,zi,cK,go_sem]
   refine goP_ownS (by rw[h4];exact hs.own.upd hb) (by simp only[h4,Al2,Al3];omega) (by simp only[h4,Al2,Al3,maxLen];omega) fun o3 H3 hs3=>?_
   have hs3':OwnS H o H3 o3 (a++[(⟨2,t⟩:Tok),⟨1,[58]⟩]).length 2:=(hs.upd hb).trans (by simpa[h4] using hs3)
   have hHb:H3 b=some (.cells (cM (.mk t v))):=hs3.kept b _ (by simp[Heap.upd,zi]) fun d e=>by
    have:=hs.own;subst e
    have hx:H2 b=_:=this
    rw[hb] at hx;cases hx
   simp(disch:=omega) only[zf,zc,za,ze,zd,zb,zi,ea2,hHb,go_sem]
   refine yc (ihm t v hmem (ZN hwm t v hmem) _ _ o3 (by simp only[Lim,Al5,Al2,Al3];omega) hs3'.own) fun o4 H4 hs4=>?_
   rw[zu] at hs4
   simp(disch:=omega) only[wrap64,go_sem]
   exact goJ (hJ (o4,a++[⟨2,t⟩,⟨1,[58]⟩]++zH v) H4 ⟨by rw[← hn];simp,by simp only[Al5,Al2,Al3];omega,hs3'.trans hs4⟩) (by simp(disch:=omega) only[go_sem])
def Zo (v:Val):List Tok:=if yt v then zH v else []
theorem zaa (v:Val) (hw:wfV v) (hb:4*bV v≤Lim):Pure Tryz.prog 265 [.agg (cV v)] (.tup [.sl .no 2 (cKs (Zo v)),.bool (yt v)]):=by
 have hb':bV v≤Lim:=by omega
 refine Pure.go ir265 ck265 (Al4 _) fun KP Q hQ=>?_
 simp(disch:=omega) only[zf,zc,za,ze,zd,zb,zi,ir265,go_sem]
 refine goK_pure (zeD v hb') ?_
 cases h:yt v with
 | false =>
  simp(disch:=omega) only[h,go_sem]
  exact hQ _ _ _ _ nofun rfl (by simp[tupOf,envOf,AV.strip,AV.strip1,Zo,h,cKs])
 | true =>
  simp(disch:=omega) only[zf,zc,za,ze,zd,zb,zi,h,go_sem]
  refine yc (zel v hw [] _ .nil (by simpa using hb) rfl) fun o' H' hs=>?_
  simp(disch:=omega) only[go_sem]
  exact hQ _ _ _ _ nofun rfl (by simp[tupOf,envOf,AV.strip,AV.strip1,Zo,h])
end Go.Proofs.YtaielcdfcgpbiaaGreatDoor
namespace Go.Proofs.YtaielcdfcgpbiaaGreatDoor
def zb6 (P:Program) (f:FuncId) (fn:Func) (s:ChangeSpec) (c:OpenClaim):Bool:=c.wf (OpenSpec.ofChange s)&&laidOutB P&&mapsRowed P&&fn.params.all (P.readableRec ·)&&namedTie P c.named s.vars
def zb5 (P:Program) (f:FuncId) (fn:Func) (s:ChangeSpec) (c:OpenClaim):Bool:=(c.stops==[])&&(P.stops==[])&&(c.knobs==[])&&(P.stopKnobs==[])&&(c.maps==(fn.params.toList++s.plain.varTypes P).any (P.mapsRec ·))&&(c.ifaces==(fn.params.toList++s.plain.varTypes P).any (P.ifacesRec ·))&&(c.mapsOut==P.mapsAmong fn.resultTypes.toList)&&(c.loops==(fn.params.toList++s.plain.varTypes P).any (P.loopsFrom ·))&&(c.wideKeys==(fn.params.toList++s.plain.varTypes P++fn.resultTypes.toList).any (P.wideKeysFrom ·))&&s.vars.all (P.varReadable ·)&&fn.resultTypes.all (fun t=>P.readableRec t&&decide (t<P.types.size))&&(c.ifacesOut==fn.resultTypes.toList.any (P.ifacesRec ·))&&(c.loopsOut==fn.resultTypes.toList.any (P.loopsFrom ·))&&(c.veiled==(fn.params.toList++s.plain.varTypes P++fn.resultTypes.toList).any (P.veiledRec ·))&&c.veiledFits P fn.params.toList (fn.params.toList++s.plain.varTypes P++fn.resultTypes.toList)
def zct (P:Program) (f:FuncId) (fn:Func) (s:ChangeSpec) (c:OpenClaim):Bool:=(c.inPlace==P.inPlace f)&&(c.unfollowed==P.unfollowed f)&&(c.recurses==P.recurses f)&&(c.named==P.varsNamed f)
def zbZ (P:Program) (f:FuncId) (fn:Func) (s:ChangeSpec) (c:OpenClaim):Bool:=(c.plainKeys==P.plainKeys)&&c.shortTexts.isNone
def zco (P:Program) (f:FuncId) (fn:Func) (s:ChangeSpec) (c:OpenClaim):Bool:=P.stopsHeard
def zb0 (P:Program) (f:FuncId) (fn:Func) (s:ChangeSpec) (c:OpenClaim):Bool:=P.mayEnter
def zb4 (P:Program) (f:FuncId) (fn:Func) (s:ChangeSpec) (c:OpenClaim):Bool:=(c.lifted==P.liftsFinal)&&(P.make==some c.make)&&(c.kinds==(if c.domain.isEmpty then [] else fn.params.toList.map fun t=>match P.underlying t with|some (.int k)=>some k|_=>none))&&(c.pinned==c.pinnedBy)
theorem zdd {P:Program} {f:FuncId} {fn:Func} {s:ChangeSpec} {c:OpenClaim} (h0:zb6 P f fn s c=true) (h1:zb5 P f fn s c=true) (h2:zct P f fn s c=true) (h3:zbZ P f fn s c=true) (h4:zco P f fn s c=true) (h5:zb0 P f fn s c=true) (h6:zb4 P f fn s c=true):joinedFacts P f fn s c=true:=by
 simp only[zb6,Al0] at h0
 obtain⟨⟨⟨⟨a0,a1⟩,a2⟩,a3⟩,a4⟩:=h0
 simp only[zb5,Al0] at h1
 obtain⟨⟨⟨⟨⟨⟨⟨⟨⟨⟨⟨⟨⟨⟨a5,a6⟩,a7⟩,a8⟩,a13⟩,a14⟩,a15⟩,a16⟩,a17⟩,a18⟩,a19⟩,a20⟩,a21⟩,a30⟩,a31⟩:=h1
 simp only[zct,Al0] at h2
 obtain⟨⟨⟨a9,a10⟩,a11⟩,a12⟩:=h2
 simp only[zbZ,Al0] at h3
 obtain⟨a22,a23⟩:=h3
 simp only[zco,Al0] at h4
 have a24:=h4
 simp only[zb0,Al0] at h5
 have a25:=h5
 simp only[zb4,Al0] at h6
 obtain⟨⟨⟨a26,a27⟩,a28⟩,a29⟩:=h6
 simp only[joinedFacts,Al0]
 exact⟨⟨⟨⟨⟨⟨⟨⟨⟨⟨⟨⟨⟨⟨⟨⟨⟨⟨⟨⟨⟨⟨⟨⟨⟨⟨⟨⟨⟨⟨⟨a0,a1⟩,a2⟩,a3⟩,a4⟩,a5⟩,a6⟩,a7⟩,a8⟩,a9⟩,a10⟩,a11⟩,a12⟩,a13⟩,a14⟩,a15⟩,a16⟩,a17⟩,a18⟩,a19⟩,a20⟩,a21⟩,a22⟩,a23⟩,a24⟩,a25⟩,a26⟩,a27⟩,a28⟩,a29⟩,a30⟩,a31⟩
open Go.Ab Go.ChangeAt Go.ChangeShapes Go.Lib Go.RowKit Go.WideElems Go.WideShapes
theorem own:ownKnob Tryz.prog.godebug=none:=by kernel_rfl
theorem laidOut:laidOutB Tryz.prog=true:=by kernel_rfl
theorem zcM:∀ l,bVs l=(l.map bV).sum
 | []=>rfl
 | v::r=>by simp[bVs,zcM r]
theorem zcF:∀ l,bMs l=(l.map bM).sum
 | []=>rfl
 | v::r=>by simp[bMs,zcF r]
theorem zbR:∀ {l:List Val},(∀ v∈l,wfV v)→zck l
 | [],_=>trivial
 | v::r,h=>⟨h v (.head _),zbR fun x hx=>h x (.tail _ hx)⟩
theorem zbS:∀ {l:List Mem},(∀ v∈l,wfM v)→YY l
 | [],_=>trivial
 | v::r,h=>⟨h v (.head _),zbS fun x hx=>h x (.tail _ hx)⟩
theorem zcc {n:Int} (h:(Lit.int .i64 n).wf=true):inR n:=by
 simp[Lit.wf,IntKind.has,IntKind.min,IntKind.max,IntKind.signed,IntKind.bits] at h
 unfold inR
 omega
abbrev DV (m:Nat):Prop:=DecB Tryz.prog m 26 5 cV wfV bV
abbrev DM (m:Nat):Prop:=DecB Tryz.prog m 129 6 cM wfM bM
theorem zfZ {m:Nat} (h:DV m):DecB Tryz.prog (m+1) 23 1 (fun l:List Val=>[.sl .no 5 (cVs l)]) (fun l=>zck l) (fun l=>bVs l+1):=by
 intro H enc W cs d ps h1 h2
 obtain⟨a,h3,h4,h5,h6⟩:=DecB.slice (t:=23) Tryz.underlying23 (B:=80) (sz:=5) (by kernel_rfl) (by kernel_rfl) (by decide) h enc W cs d ps h1 h2
 exact⟨a,zbR h3.2.2,by simp only[zcM];exact h4,h5,by simp only[Yp];exact h6⟩
theorem ze0 {m:Nat} (h:DM m):DecB Tryz.prog (m+1) 24 1 (fun l:List Mem=>[.sl .no 6 (cMs l)]) (fun l=>YY l) (fun l=>bMs l+1):=by
 intro H enc W cs d ps h1 h2
 obtain⟨a,h3,h4,h5,h6⟩:=DecB.slice (t:=24) Tryz.underlying24 (B:=96) (sz:=6) (by kernel_rfl) (by kernel_rfl) (by decide) h enc W cs d ps h1 h2
 exact⟨a,zbS h3.2.2,by simp only[zcF];exact h4,h5,by simp only[Yi];exact h6⟩
theorem dec:∀ m,DV m∧DM m:=by
 intro m
 induction m using Nat.strongRecOn with
 | _ m ih =>
  have hs:∀ {k},k≤m→DecB Tryz.prog k 23 1 (fun l:List Val=>[.sl .no 5 (cVs l)]) (fun l=>zck l) (fun l=>bVs l+1):=fun {k} hk=>by
   cases k with
   | zero=>exact DecB.zero
   | succ k=>exact zfZ (ih k (by omega)).1
  have hm:∀ {k},k≤m→DecB Tryz.prog k 24 1 (fun l:List Mem=>[.sl .no 6 (cMs l)]) (fun l=>YY l) (fun l=>bMs l+1):=fun {k} hk=>by
   cases k with
   | zero=>exact DecB.zero
   | succ k=>exact ze0 (ih k (by omega)).2
  refine⟨?_,?_⟩
  ·cases m with
   | zero=>exact DecB.zero
   | succ k =>
    exact DecB.struct (DecFsB.cons (by kernel_rfl) (DecB.int (k:=.i64) Tryz.underlying3) (DecFsB.cons (by kernel_rfl) (DecB.int (k:=.i64) Tryz.underlying2) (DecFsB.cons (by kernel_rfl) (DecB.str Tryz.underlying9) (DecFsB.cons (by kernel_rfl) (hs (by omega)) (DecFsB.cons (by kernel_rfl) (hm (by omega)) DecFsB.nil)))))
     (by kernel_rfl) (by kernel_rfl) cV wfV bV (fun x=>.mk x.1 x.2.1 x.2.2.1 x.2.2.2.1 x.2.2.2.2.1) (fun a=>rfl) (fun a h=>⟨zcc h.2.1,h.2.2.2.1,h.2.2.2.2.1⟩) (fun a=>by simp only[bV];omega)
  ·cases m with
   | zero=>exact DecB.zero
   | succ k =>
    exact DecB.struct (DecFsB.cons (by kernel_rfl) (DecB.str Tryz.underlying9) (DecFsB.cons (by kernel_rfl) (ih k (by omega)).1 DecFsB.nil))
     (by kernel_rfl) (by kernel_rfl) cM wfM bM (fun x=>.mk x.1 x.2.1) (fun a=>by simp[cM]) (fun a h=>h.2.1) (fun a=>by simp only[bM];omega)
theorem zfX (m:Nat):DV m:=(dec m).1
theorem ze8:∀ m,DecB Tryz.prog m 24 1 (fun l:List Mem=>[.sl .no 6 (cMs l)]) (fun l=>YY l) (fun l=>bMs l+1)
 | 0=>DecB.zero
 | m+1=>ze0 (dec m).2
theorem zfb {W:World} {r:Reach} {b:Nat} {t:TypeId} {fs:Array Field} {v:Value} (ht:Tryz.prog.underlying t=some (.struct fs)) (h:Value.okWide Tryz.prog W r b t v):∃ cs,v=.agg cs:=by
 unfold Value.okWide at h
 rw[ht] at h
 obtain⟨cs,h,_⟩:=h
 exact⟨cs,h⟩
theorem zcX {H:Type} {s:ChangeSpec} {ds:List (DataW H)} (h:∀ k,(Rows.OpenSpec.upto s).cond=some k→k H ds=true):blkAll ds≤1048576:=by
 have h1:Rows.uptoSmall H ds=true:=h _ rfl
 have h2:=of_decide_eq_true h1
 rwa [y6] at h2
end Go.Proofs.YtaielcdfcgpbiaaGreatDoor
namespace Go.Proofs.YtaielcdfcgpbiaaGreatDoor
open Go.Ab
structure DirD where
 nm:List UInt8
 args:List Mem
inductive SelD where
 | mk (k:Int) (al nm:List UInt8) (args:List Mem) (dirs:List DirD) (on:List UInt8) (sels:List SelD)
structure TyD where
 nm:List UInt8
 lists:Int
 musts:Int
structure VarD where
 nm:List UInt8
 t:TyD
 has:Bool
 d:Val
structure OpD where
 k:Int
 nm:List UInt8
 vars:List VarD
 dirs:List DirD
 sels:List SelD
structure FragD where
 nm:List UInt8
 on:List UInt8
 dirs:List DirD
 sels:List SelD
def cD (x:DirD):List AV:=[.str x.nm,.sl .no 6 (cMs x.args)]
def cDs (l:List DirD):List (List AV):=l.map cD
def cTy (t:TyD):List AV:=[.str t.nm,.int .i64 t.lists,.int .i64 t.musts]
def cW (x:VarD):List AV:=cTy ⟨x.nm,0,0⟩ |>.take 1 |>.append (cTy x.t++(.bool x.has::cV x.d))
def cWs (l:List VarD):List (List AV):=l.map cW
theorem zaJ (nm:List UInt8) (t:TyD) (h:Bool) (d:Val):cW ⟨nm,t,h,d⟩=.str nm::.str t.nm::.int .i64 t.lists::.int .i64 t.musts::.bool h::cV d:=rfl
theorem Zf (l:List DirD):(cDs l).length=l.length:=by simp[cDs]
theorem yl (l:List VarD):(cWs l).length=l.length:=by simp[cWs]
theorem Zv {l a:List DirD} {x:DirD} {b:List DirD} (h:l=a++x::b):(cDs l).getD a.length []=cD x:=getD_mid' h
theorem Yk {l a:List VarD} {x:VarD} {b:List VarD} (h:l=a++x::b):(cWs l).getD a.length []=cW x:=getD_mid' h
theorem zd7 (x:VarD):(cW x).map AV.strip1=cW x:=by rcases x with ⟨a,b,c,⟨⟩⟩;rfl
theorem zc2 (l:List VarD):(cWs l).map (·.map AV.strip1)=cWs l:=by rw[cWs,List.map_map];exact List.map_congr_left fun v _=>zd7 v
def bD (x:DirD):Nat:=1+x.nm.length+bMs x.args
def bDs (l:List DirD):Nat:=(l.map bD).sum
def bW (x:VarD):Nat:=x.nm.length+x.t.nm.length+bV x.d
def bWs (l:List VarD):Nat:=(l.map bW).sum
theorem Z6 {α:Type} {f:α→Nat} (hf:∀ x,1≤f x):∀ l:List α,l.length≤(l.map f).sum
 | []=>Nat.zero_le _
 | x::r=>by have:=Z6 hf r;have:=hf x;simp only[List.map_cons,List.sum_cons,Al2];omega
theorem Yl {α:Type} (f:α→Nat) (a:List α) (x:α) (b:List α):((a++x::b).map f).sum=(a.map f).sum+f x+(b.map f).sum:=by simp;omega
theorem ZY (l:List DirD):l.length≤bDs l:=Z6 (fun x=>by simp only[bD];omega) l
theorem yD (l:List VarD):l.length≤bWs l:=Z6 (fun x=>by have:=ZD x.d;simp only[bW];omega) l
theorem Z7 (a:List DirD) (x:DirD) (b:List DirD):bDs (a++x::b)=bDs a+bD x+bDs b:=Yl ..
theorem Yv (a:List VarD) (x:VarD) (b:List VarD):bWs (a++x::b)=bWs a+bW x+bWs b:=Yl ..
mutual
theorem SelD.ind {P:SelD→Prop} (h:∀ k al nm args dirs on sels,(∀ v∈sels,P v)→P (.mk k al nm args dirs on sels)):∀ v,P v
 | .mk k al nm args dirs on sels=>h k al nm args dirs on sels (SelD.indL h sels)
theorem SelD.indL {P:SelD→Prop} (h:∀ k al nm args dirs on sels,(∀ v∈sels,P v)→P (.mk k al nm args dirs on sels)):∀ l:List SelD,∀ v∈l,P v
 | [],_,hv=>by cases hv
 | x::r,v,hv=>(List.mem_cons.1 hv).elim (fun e=>e▸SelD.ind h x) (SelD.indL h r v)
end
theorem zeC {t:List UInt8} {v:Val} {m:List Mem} (h:Mem.mk t v∈m):bV v≤bMs m:=by
 obtain⟨a,b,hd⟩:=List.append_of_mem h
 have:=zW a (.mk t v) b
 rw[← hd] at this
 simp only[bM] at this
 omega
theorem zdf (a b:List Mem) (ha:bMs a≤Lim):Pure Tryz.prog 40 [.sl .no 6 (cMs a),.sl .no 6 (cMs b)] (.bool (eqd a b)) :=
 zbQ a b (by have:=zK a;omega) fun s v hm u=>zdw v (by have:=zeC hm;omega) u
def wfD (x:DirD):Prop:=YY x.args
def zdr (l:List DirD):Prop:=∀ x∈l,wfD x
def wfW (x:VarD):Prop:=inR x.t.lists∧inR x.t.musts∧wfV x.d
def pk (s:List UInt8):Tok:=⟨1,s⟩
def wk (s:List UInt8):Tok:=⟨2,s⟩
def zB (dp:Int) (fixed:Bool) (v:Val):Bool:=yt v&&(decide (dp+zJ v≤16)&&(!fixed||decide ((zy v []).length=0)))
def zbj (dp:Int) (fixed:Bool):Mem→Bool
 | .mk s v=>zj s&&zB dp fixed v
def yk (dp:Int) (fixed:Bool) (l:List Mem):Bool:=l.all (zbj dp fixed)
def Y9 (dp:Int) (fixed:Bool) (d:DirD):Bool:=zj d.nm&&yk dp fixed d.args
def z1 (dp:Int) (fixed:Bool) (l:List DirD):Bool:=l.all (Y9 dp fixed)
def zt (t:TyD):Bool:=zj t.nm&&(decide (0≤t.lists)&&(decide (t.lists≤4)&&(decide (0≤t.musts)&&decide (t.musts<2 ^ (t.lists.toNat+1)))))
noncomputable def Z0 (has:Bool) (v:Val):Bool:=if has then zB 0 true v else eqd v zV
noncomputable def zM (x:VarD):Bool:=zj x.nm&&(zt x.t&&Z0 x.has x.d)
def Yw (l:List Mem):List Tok:=if l.length=0 then [] else pk [40]::(zN l++[pk [41]])
def tD (d:DirD):List Tok:=pk [64]::wk d.nm::Yw d.args
def tDs (l:List DirD):List Tok:=l.flatMap tD
def ZP (m:Int) (i:Nat):Bool:=decide (m / 2 ^ i % 2=1)
def zcr (n:Nat) (m:Int) (i:Nat):List Tok:=(if i<n then [pk [93]] else [])++(if ZP m i then [pk [33]] else [])
def zdq (n:Nat) (m:Int):Nat→List Tok
 | 0=>zcr n m 0
 | i+1=>zcr n m (i+1)++zdq n m i
def tTy (t:TyD):List Tok:=List.replicate t.lists.toNat (pk [91])++(wk t.nm::zdq t.lists.toNat t.musts t.lists.toNat)
def tDf (has:Bool) (v:Val):List Tok:=if has then pk [61]::zH v else []
theorem ZU:∀ a b,zN (a++b)=zN a++zN b
 | [],b=>rfl
 | x::a,b=>by simp[zN,ZU a b]
open Go.Lib Go.RowKit Go.Sort
theorem zdx (s:List UInt8) (c:UInt8):Pure Tryz.prog 122 [.str s,.int .u8 c.toNat] (.int .i64 (Lib.indexByte s c)):=by
 refine Pure.of_calls fun γ w vs ht hv=>?_
 obtain⟨hl,hr⟩:=hv
 match vs,hl with
 | [v,u],_ =>
  cases hr 0 _ _ rfl rfl
  cases hr 1 _ _ rfl rfl
  refine(Tryz.strings_IndexByte ⟨s.toArray⟩ c.toNat w).mono fun e w' ⟨he,hw⟩=>⟨hw,_,he,?_⟩
  have e1:((c.toNat:Int)).toNat.toUInt8=c:=by simp
  rw[e1]
  exact .int _ _
theorem zaw (s:List UInt8) (c:UInt8):Pure Tryz.prog 127 [.str s,.str [c]] (.bool (decide (0≤Lib.indexByte s c))):=by
 refine Pure.of_calls fun γ w vs ht hv=>?_
 obtain⟨hl,hr⟩:=hv
 match vs,hl with
 | [v,u],_ =>
  cases hr 0 _ _ rfl rfl
  cases hr 1 _ _ rfl rfl
  exact(Tryz.strings_Contains_one ⟨s.toArray⟩ c w).mono fun e w' ⟨he,hw⟩=>⟨hw,_,he,.bool _⟩
end Go.Proofs.YtaielcdfcgpbiaaGreatDoor
namespace Go.Proofs.YtaielcdfcgpbiaaGreatDoor
open Go.Ab
def hexL:List UInt8:=[48,49,50,51,52,53,54,55,56,57,97,98,99,100,101,102]
def Zd (n:Nat):List UInt8 :=
 if n≤127 then [UInt8.ofNat n]
 else if n≤2047 then [UInt8.ofNat (192+n / 64),UInt8.ofNat (128+n % 64)]
 else if n≤65535 then [UInt8.ofNat (224+n / 4096),UInt8.ofNat (128+n / 64 % 64),UInt8.ofNat (128+n % 64)]
 else [UInt8.ofNat (240+n / 262144),UInt8.ofNat (128+n / 4096 % 64),UInt8.ofNat (128+n / 64 % 64),UInt8.ofNat (128+n % 64)]
def bk (c:UInt8):Bool:=decide (0≤Lib.indexByte [9,10,13,32] c)
theorem zbK (n:Nat):(Zd n).length≤4∧(n≤65535→(Zd n).length≤3):=by
 unfold Zd
 split
 ·simp
 ·split
  ·simp
  ·split
   ·simp
   ·refine⟨by simp,fun h=>by omega⟩
theorem yw (l:List UInt8):(bytesOf l).length=l.length:=by simp[bytesOf]
theorem ZT (a b:List UInt8):bytesOf a++bytesOf b=bytesOf (a++b):=by simp[bytesOf]
theorem zaH (l:List UInt8):(bytesOf l).map (·.map AV.strip1)=bytesOf l:=by simp[bytesOf,AV.strip1]
theorem ZX (l:List UInt8):byts (bytesOf l)=some l:=by
 induction l with
 | nil=>rfl
 | cons c r ih =>
  have h:=c.toNat_lt
  simp only[bytesOf,List.map_cons] at ih ⊢
  simp only[byts,ih,yb]
  rw[if_pos ⟨by omega,by omega⟩]
  simp
theorem YP (acc:List UInt8) (c:UInt8):bytesOf acc++[[.int .u8 c.toNat]]=bytesOf (acc++[c]):=ZT acc [c]
theorem ZR (acc:List UInt8) (c d:UInt8):bytesOf acc++[[.int .u8 c.toNat],[.int .u8 d.toNat]]=bytesOf (acc++[c,d]):=ZT acc [c,d]
theorem wr8 (n:Nat):IntKind.wrap .u8 (n:Int)=((n % 256:Nat):Int):=by
 have e:IntKind.wrap .u8 (n:Int)=(n:Int) % 256:=rfl
 rw[e];omega
def cU (l:List Nat):List (List AV):=l.map fun(n:Nat)=>[AV.int .i64 (n:Int)]
theorem zcj (l:List Nat):(cU l).length=l.length:=by simp[cU]
theorem upd_upd (H:Heap) (b:Nat) (x y:AObj):(H.upd b x).upd b y=H.upd b y:=by
 funext c;by_cases e:c=b<;>simp[Heap.upd,e]
theorem own_ne {H:Heap} {c b d n sz:Nat} {cs:List AV} (h:Owned H (.tip b d) n sz) (hc:H c=some (.cells cs)):b≠c:=fun e=>by
 subst e
 have:H b=some (.tip (d+n) sz):=h
 rw[hc] at this;cases this
theorem ZM {H H':Heap} {o:Own} {n sz c:Nat} {cs:List AV} (h:Owned H o n sz) (hc:H c=some (.cells cs)) (hk:Kept H o H'):H' c=some (.cells cs) :=
 hk c _ hc fun d e=>by subst e;exact own_ne h hc rfl
theorem Yo {H:Heap} {o:Own} {n sz c:Nat} {cs:List AV} {x:AObj} (h:Owned H o n sz) (hc:H c=some (.cells cs)):Owned (H.upd c x) o n sz:=by
 cases o with
 | tip b d=>have:=own_ne h hc;show (H.upd c x) b=_;rw[upd_ne this];exact h
 | no=>exact h
 | nil=>exact h
 | full=>exact h
open Go.Lib
end Go.Proofs.YtaielcdfcgpbiaaGreatDoor
namespace Go.Proofs.YtaielcdfcgpbiaaGreatDoor
open Go.Ab
end Go.Proofs.YtaielcdfcgpbiaaGreatDoor
namespace Go.Proofs.YtaielcdfcgpbiaaGreatDoor
open Go.Lib
end Go.Proofs.YtaielcdfcgpbiaaGreatDoor
