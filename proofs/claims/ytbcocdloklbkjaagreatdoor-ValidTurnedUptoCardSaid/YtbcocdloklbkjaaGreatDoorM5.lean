import Derived.JoinedOf
import Derived.Lib.ItoaMem
import Derived.Lib.ParseIntBTie
import Derived.Lib.ValidLaws
import Derived.Test.YtbcocdloklbkjaaGreatDoorM1
import Derived.Test.YtbcocdloklbkjaaGreatDoorM2
import Derived.Test.YtbcocdloklbkjaaGreatDoorM3
import Derived.Test.YtbcocdloklbkjaaGreatDoorM4
set_option maxRecDepth 100000
set_option linter.all false
namespace Go.Proofs.YtbcocdloklbkjaaGreatDoor
open Go.Ab
mutual
inductive Val where
 | mk (k n:Int) (s:List UInt8) (l:List Val) (m:List Mem)
inductive Mem where
 | mk (name:List UInt8) (v:Val)
end
mutual
def cV:Val→List AV
 | .mk k n s l m=>[.int .i64 k,.int .i64 n,.str s,.sl .no 5 (cVs l),.sl .no 6 (cMs m)]
def cVs:List Val→List (List AV)
 | []=>[]
 | v::r=>cV v::cVs r
def cM:Mem→List AV
 | .mk s v=>.str s::cV v
def cMs:List Mem→List (List AV)
 | []=>[]
 | x::r=>cM x::cMs r
end
theorem zeL:∀ l,cVs l=l.map cV
 | []=>rfl
 | v::r=>by rw[cVs,zeL r];rfl
theorem zbD:∀ l,cMs l=l.map cM
 | []=>rfl
 | v::r=>by rw[cMs,zbD r];rfl
theorem Ys (l:List Val):(cVs l).length=l.length:=by rw[zeL];simp
theorem yY (l:List Mem):(cMs l).length=l.length:=by rw[zbD];simp
theorem zao {l a:List Val} {x:Val} {b:List Val} (h:l=a++x::b):(cVs l).getD a.length []=cV x:=by rw[zeL,yR h]
theorem Zr {l a:List Mem} {x:Mem} {b:List Mem} (h:l=a++x::b):(cMs l).getD a.length []=cM x:=by rw[zbD,yR h]
theorem yh (k n:Int) (s:List UInt8) (l:List Val) (m:List Mem):cV (.mk k n s l m)=[.int .i64 k,.int .i64 n,.str s,.sl .no 5 (cVs l),.sl .no 6 (cMs m)]:=rfl
theorem zr (s:List UInt8) (v:Val):cM (.mk s v)=.str s::cV v:=rfl
theorem zcI (v:Val):(cV v).map AV.strip1=cV v:=by cases v;rfl
mutual
theorem Val.ind {P:Val→Prop} (h:∀ k n s l m,(∀ v∈l,P v)→(∀ s v,Mem.mk s v∈m→P v)→P (.mk k n s l m)):∀ v,P v
 | .mk k n s l m=>h k n s l m (Val.indL h l) (fun s v hm=>Val.indM h m s v hm)
theorem Val.indL {P:Val→Prop} (h:∀ k n s l m,(∀ v∈l,P v)→(∀ s v,Mem.mk s v∈m→P v)→P (.mk k n s l m)):∀ l:List Val,∀ v∈l,P v
 | [],_,hv=>by cases hv
 | x::r,v,hv=>(List.mem_cons.1 hv).elim (fun e=>e▸Val.ind h x) (Val.indL h r v)
theorem Val.ind1 {P:Val→Prop} (h:∀ k n s l m,(∀ v∈l,P v)→(∀ s v,Mem.mk s v∈m→P v)→P (.mk k n s l m)):∀ m:Mem,∀ s v,m=.mk s v→P v
 | .mk s v,s',v',e=>by cases e;exact Val.ind h v
theorem Val.indM {P:Val→Prop} (h:∀ k n s l m,(∀ v∈l,P v)→(∀ s v,Mem.mk s v∈m→P v)→P (.mk k n s l m)):∀ l:List Mem,∀ s v,Mem.mk s v∈l→P v
 | [],_,_,hv=>by cases hv
 | x::r,s,v,hv=>(List.mem_cons.1 hv).elim (fun e=>Val.ind1 h x s v e.symm) (Val.indM h r s v)
end
theorem zp (v:Val):(cV v).length=5:=by cases v;rfl
theorem zo (x:Mem):(cM x).length=6:=by cases x with|mk s v=>cases v;rfl
theorem zl (v:Val):(cV v).take 5=cV v:=by cases v;rfl
theorem zm (x:Mem):(cM x).take 6=cM x:=by cases x with|mk s v=>cases v;rfl
theorem zh (a b c d e:AV) (v:Val):splice [a,b,c,d,e] 0 (cV v)=cV v:=by cases v;rfl
theorem zg (a b c d e f:AV) (x:Mem):splice [a,b,c,d,e,f] 0 (cM x)=cM x:=by cases x with|mk s v=>cases v;rfl
mutual
def bV:Val→Nat
 | .mk _ _ s l m=>1+s.length+bVs l+bMs m
def bVs:List Val→Nat
 | []=>0
 | v::r=>bV v+bVs r
def bM:Mem→Nat
 | .mk s v=>s.length+bV v
def bMs:List Mem→Nat
 | []=>0
 | x::r=>bM x+bMs r
end
theorem Y4 (v:Val):1≤bV v:=by cases v;simp only[bV];omega
theorem zui (v:Mem):1≤bM v:=by cases v with|mk s v=>have:=Y4 v;simp only[bM];omega
theorem zaq:∀ l,l.length≤bVs l
 | []=>by simp
 | v::r=>by have:=zaq r;have:=Y4 v;simp only[bVs,Al2];omega
theorem y5:∀ l,l.length≤bMs l
 | []=>by simp
 | v::r=>by have:=y5 r;have:=zui v;simp only[bMs,Al2];omega
theorem zeg (a:List Val) (x:Val) (b:List Val):bVs (a++x::b)=bVs a+bV x+bVs b:=by
 induction a with
 | nil=>simp[bVs]
 | cons y a ih=>simp only[Al6,bVs,ih];omega
theorem Yx (a:List Mem) (x:Mem) (b:List Mem):bMs (a++x::b)=bMs a+bM x+bMs b:=by
 induction a with
 | nil=>simp[bMs]
 | cons y a ih=>simp only[Al6,bMs,ih];omega
abbrev Lim:Nat:=1099511627776
theorem zjp:∀ v,bV v≤Lim→zi Tryz.prog 35 [.agg (cV v)] (.int .i64 (bV v)):=by
 refine Val.ind fun k n s l m ihl ihm hb=>?_
 refine zi.go ir35 ck35 (Al4 _) fun KP Q hQ=>?_
 have hl:=Ys l
 have hm:=yY m
 have hll:=zaq l
 have hml:=y5 m
 have hb':1+s.length+bVs l+bMs m≤Lim:=hb
 simp only[Lim] at hb'
 simp(disch:=omega) only[ir35,yh,wrap64,go_sem]
 refine zf l 4 (fun n:Int=>[(3,.int .i64 n)]) (fun done rest n H=>n+bVs rest=1+s.length+bVs l∧H=zc.emp) (1+s.length) (by simp(disch:=omega) only[go_sem]) ⟨by omega,rfl⟩ ?_ ?_
 ·rintro n H J ⟨hn,rfl⟩ hlt
  simp only[bVs] at hn
  simp(disch:=omega) only[hl,hlt,go_sem]
  refine zf m 5 (fun n:Int=>[(3,.int .i64 n)]) (fun done rest n H=>n+bMs rest=1+s.length+bVs l+bMs m∧H=zc.emp) n (by simp(disch:=omega) only[go_sem]) ⟨by omega,rfl⟩ ?_ ?_
  ·rintro n H J ⟨hn,rfl⟩ hlt
   simp only[bMs] at hn
   simp(disch:=omega) only[hm,hlt,go_sem]
   have:n=((bV (.mk k n s l m):Nat):Int):=by simp only[bV];omega
   exact hQ _ _ _ _ nofun rfl (by simp[zd,ze,AV.strip,AV.strip1,bV,this])
  ·rintro done x rest n H J hd hlt _ ⟨hn,rfl⟩ hJ
   have hg:=Zr hd
   have hbm:=Yx done x rest
   rw[← hd] at hbm
   cases x with
   | mk t v =>
   simp only[bMs,bM] at hn hbm
   simp(disch:=omega) only[zp,zl,zh,zo,zm,zg,zr,hm,hlt,hg,wrap64,go_sem]
   refine za (ihm t v (by rw[hd];simp) (by simp only[Lim];omega)) ?_
   simp(disch:=omega) only[hl,hm,hlt,hg,zr,wrap64,go_sem]
   refine goJ (hJ (n+t.length+bV v) zc.emp ⟨by omega,rfl⟩) (by simp(disch:=omega) only[go_sem])
 ·rintro done x rest n H J hd hlt _ ⟨hn,rfl⟩ hJ
  have hg:=zao hd
  have hbm:=zeg done x rest
  rw[← hd] at hbm
  simp only[bVs] at hn
  simp(disch:=omega) only[zp,zl,zh,zo,zm,zg,zr,hl,hlt,hg,go_sem]
  refine za (ihl x (by rw[hd];simp) (by simp only[Lim];omega)) ?_
  simp(disch:=omega) only[wrap64,go_sem]
  refine goJ (hJ (n+bV x) zc.emp ⟨by omega,rfl⟩) (by simp(disch:=omega) only[go_sem])
noncomputable def eqd {α:Type} (a b:α):Bool:=@decide (a=b) (Classical.propDecidable _)
theorem Y5 {α:Type} {a b:α} (h:a=b):eqd a b=true:=by simp[eqd,h]
theorem Za {α:Type} {a b:α} (h:a≠b):eqd a b=false:=by simp[eqd,h]
def cT (l:List (List UInt8)):List (List AV):=l.map fun k=>[.str k]
theorem zK (l:List (List UInt8)):(cT l).length=l.length:=by simp[cT]
theorem Z5 {l a:List (List UInt8)} {x:List UInt8} {b:List (List UInt8)} (h:l=a++x::b):(cT l).getD a.length []=[.str x]:=yR h
theorem zmK {α:Type} {a b done rest:List α} {x:α} (h:a=done++x::rest) (hl:a.length=b.length) (hp:b.take done.length=done):∃ y r,b=done++y::r:=by
 have h1:done.length<b.length:=by rw[← hl,h];simp
 refine⟨b[done.length],b.drop (done.length+1),?_⟩
 conv=>lhs;rw[← List.take_append_drop done.length b,hp,List.drop_eq_getElem_cons h1]
theorem zjA {α:Type} {b done r:List α} {y:α} (h:b=done++y::r):b.take (done++[y]).length=done++[y]:=by
 subst h
 have e:done++y::r=(done++[y])++r:=by simp
 rw[e,List.take_left'];rfl
theorem zma {α:Type} {a b:List α} (hl:a.length=b.length) (hp:b.take a.length=a):a=b:=by
 rw[hl,List.take_length] at hp;exact hp.symm
theorem zpS {α:Type} {a b done rest r:List α} {x y:α} (h:a=done++x::rest) (h':b=done++y::r) (hxy:x≠y):a≠b:=fun e=>by
 rw[h,h'] at e
 exact hxy (List.cons.inj (List.append_cancel_left e)).1
mutual
def ZA:Val→Int
 | .mk k _ _ l m=>if k=6 then Y2 l 0+1 else if k=7 then YU m 0+1 else 0
def Y2:List Val→Int→Int
 | [],n=>n
 | v::r,n=>Y2 r (mm2 true n (ZA v))
def zbJ:Mem→Int
 | .mk _ v=>ZA v
def YU:List Mem→Int→Int
 | [],n=>n
 | x::r,n=>YU r (mm2 true n (zbJ x))
end
theorem zpD (a b:Int):a≤mm2 true a b:=by simp only[mm2,if_true];split<;>omega
mutual
theorem zdn:∀ v,0≤ZA v∧ZA v≤bV v
 | .mk k n s l m=>by
  have h1:=zd3 l 0
  have h2:=zd5 m 0
  simp only[ZA,bV]
  split
  ·omega
  ·split<;>omega
theorem zd3:∀ l (n:Int),n≤Y2 l n∧(Y2 l n≤n∨Y2 l n≤bVs l)
 | [],n=>by simp[Y2,bVs]
 | v::r,n=>by
  have h1:=zdn v
  have h2:=zd3 r (mm2 true n (ZA v))
  have h3:=zpD n (ZA v)
  have h4:mm2 true n (ZA v)=n∨mm2 true n (ZA v)=ZA v:=by simp only[mm2,if_true];split<;>simp
  simp only[Y2,bVs]
  omega
theorem znP:∀ x,0≤zbJ x∧zbJ x≤bM x
 | .mk s v=>by have:=zdn v;simp only[zbJ,bM];omega
theorem zd5:∀ l (n:Int),n≤YU l n∧(YU l n≤n∨YU l n≤bMs l)
 | [],n=>by simp[YU,bMs]
 | v::r,n=>by
  have h1:=znP v
  have h2:=zd5 r (mm2 true n (zbJ v))
  have h3:=zpD n (zbJ v)
  have h4:mm2 true n (zbJ v)=n∨mm2 true n (zbJ v)=zbJ v:=by simp only[mm2,if_true];split<;>simp
  simp only[YU,bMs]
  omega
end
theorem zdV:∀ v,bV v≤Lim→zi Tryz.prog 242 [.agg (cV v)] (.int .i64 (ZA v)):=by
 refine Val.ind fun k n s l m ihl ihm hb=>?_
 refine zi.go ir242 ck242 (Al4 _) fun KP Q hQ=>?_
 have hl:=Ys l
 have hm:=yY m
 have hll:=zaq l
 have hml:=y5 m
 have hb':1+s.length+bVs l+bMs m≤Lim:=hb
 simp only[Lim] at hb'
 have d1:=zd3 l 0
 have d2:=zd5 m 0
 by_cases k6:k=6
 ·subst k6
  simp(disch:=omega) only[ir242,yh,hl,go_sem]
  refine zf l 15 (fun n:Int=>[(3,.int .i64 n)]) (fun done rest n H=>Y2 rest n=Y2 l 0) 0 (by simp(disch:=omega) only[go_sem]) rfl ?_ ?_
  ·rintro n H J hn hlt
   simp only[Y2] at hn
   simp(disch:=omega) only[hl,hlt,wrap64,hn,go_sem]
   exact hQ _ _ _ _ nofun rfl (by simp[zd,ze,AV.strip,AV.strip1,ZA])
  ·rintro done x rest n H J hd hlt _ hn hJ
   have hg:=zao hd
   have hbm:=zeg done x rest
   rw[← hd] at hbm
   simp only[Y2] at hn
   simp(disch:=omega) only[zp,zl,zh,zo,zm,zg,zr,hl,hlt,hg,go_sem]
   refine zb fun b hb=>?_
   simp(disch:=omega) only[zp,zl,zh,zo,zm,zg,zr,go_sem]
   refine za (ihl x (by rw[hd];simp) (by simp only[Lim];omega)) ?_
   simp(disch:=omega) only[wrap64,go_sem]
   exact goJ (hJ _ _ hn) (by simp(disch:=omega) only[go_sem])
 by_cases k7:k=7
 ·subst k7
  simp(disch:=omega) only[ir242,yh,hm,go_sem]
  refine zf m 29 (fun n:Int=>[(3,.int .i64 n)]) (fun done rest n H=>YU rest n=YU m 0) 0 (by simp(disch:=omega) only[go_sem]) rfl ?_ ?_
  ·rintro n H J hn hlt
   simp only[YU] at hn
   simp(disch:=omega) only[hm,hlt,wrap64,hn,go_sem]
   exact hQ _ _ _ _ nofun rfl (by simp[zd,ze,AV.strip,AV.strip1,ZA])
  ·rintro done x rest n H J hd hlt _ hn hJ
   have hg:=Zr hd
   have hbm:=Yx done x rest
   rw[← hd] at hbm
   cases x with
   | mk t v =>
   simp only[YU,zbJ,bM] at hn hbm
   simp(disch:=omega) only[zp,zl,zh,zo,zm,zg,zr,hm,hlt,hg,go_sem]
   refine zb fun b hb=>?_
   simp(disch:=omega) only[zp,zl,zh,zo,zm,zg,zr,go_sem]
   refine za (ihm t v (by rw[hd];simp) (by simp only[Lim];omega)) ?_
   simp(disch:=omega) only[wrap64,go_sem]
   exact goJ (hJ _ _ hn) (by simp(disch:=omega) only[go_sem])
 ·simp(disch:=omega) only[ir242,yh,k6,k7,go_sem]
  exact hQ _ _ _ _ nofun rfl (by simp[zd,ze,AV.strip,AV.strip1,ZA,k6,k7])
def zV:Val:=.mk 0 0 [] [] []
theorem zl3:cV zV=[.int .i64 0,.int .i64 0,.str [],.sl .no 5 [],.sl .no 6 []]:=rfl
def zb9 (t:List UInt8):List Mem→Val×Bool
 | []=>(zV,false)
 | .mk s v::r=>if s=t then (v,true) else zb9 t r
theorem zq0 (t:List UInt8) (m:List Mem) (hb:m.length≤Lim):zi Tryz.prog 99 [.str t,.sl .no 6 (cMs m)] (.tup [.agg (cV (zb9 t m).1),.bool (zb9 t m).2]):=by
 refine zi.go ir99 ck99 (Al4 _) fun KP Q hQ=>?_
 have hm:=yY m
 simp only[Lim] at hb
 simp(disch:=omega) only[ir99,go_sem]
 refine zb fun b hb=>?_
 simp(disch:=omega) only[hm,go_sem]
 refine zf m 10 (fun _:Unit=>[]) (fun done rest n H=>zb9 t rest=zb9 t m∧H b=some (.cells [.int .i64 0,.int .i64 0,.str [],.sl .nil 5 [],.sl .nil 6 []])) () (by simp(disch:=omega) only[go_sem]) ⟨rfl,by simp[zc.upd]⟩ ?_ ?_
 ·rintro n H J ⟨hn,hH⟩ hlt
  simp(disch:=omega) only[hm,hlt,hH,go_sem]
  refine hQ _ _ _ [.agg [.int .i64 0,.int .i64 0,.str [],.sl .nil 5 [],.sl .nil 6 []],.bool false] nofun (by simp(disch:=omega) only[ir99,zL,Zt,go_sem]) ?_
  rw[← hn]
  rfl
 ·rintro done x rest n H J hd hlt _ ⟨hn,hH⟩ hJ
  have hg:=Zr hd
  cases x with
  | mk s v =>
  simp only[zb9] at hn
  simp(disch:=omega) only[zp,zl,zh,zo,zm,zg,zr,hm,hlt,hg,go_sem]
  refine zb fun b2 hb2=>?_
  have hne:=zdR hb2 hH
  by_cases hs:s=t
  ·simp(disch:=omega) only[zp,zl,zh,zo,zm,zg,zr,hs,hH,Ne.symm hne,hne,go_sem]
   simp only[hs,if_true] at hn
   refine hQ _ _ _ [.agg (cV v),.bool true] nofun (by simp(disch:=omega) only[zp,zl,zh,zo,zm,zg,zr,ir99,zL,Zt,go_sem]) ?_
   rw[← hn]
   simp[zd,AV.strip,AV.strip1,zcI]
  ·simp(disch:=omega) only[zp,zl,zh,zo,zm,zg,zr,hs,go_sem]
   simp only[hs,if_false] at hn
   exact goJ (hJ () _ ⟨hn,by simp[zc.upd,Ne.symm hne,hH]⟩) (by simp(disch:=omega) only[wrap64,go_sem])
structure Tok where
 k:Int
 s:List UInt8
def cK (t:Tok):List AV:=[.int .i64 t.k,.str t.s]
def cKs (l:List Tok):List (List AV):=l.map cK
theorem zhe (a b:List Tok):cKs (a++b)=cKs a++cKs b:=by simp[cKs]
theorem yy (l:List Tok):(cKs l).length=l.length:=by simp[cKs]
theorem Z2 (l:List Tok):(cKs l).map (·.map AV.strip1)=cKs l:=by simp[cKs,cK,AV.strip1]
theorem zrc (f:FuncId) (hf:Program.callable Tryz.prog f=true) (a b:List Val) (ha:a.length≤Lim) (hc:∀ x∈a,∀ y,zi Tryz.prog f [.agg (cV x),.agg (cV y)] (.bool (eqd x y))) :
  zi Tryz.prog 233 [.sl .no 5 (cVs a),.sl .no 5 (cVs b),.clo f [] []] (.bool (eqd a b)):=by
 refine zi.go ir233 ck233 (Al4 _) fun KP Q hQ=>?_
 have h1:=Ys a
 have h2:=Ys b
 simp only[Lim] at ha
 by_cases hl:a.length=b.length
 case neg =>
  have hl':¬ ((a.length:Int)=b.length):=by omega
  have hne:a≠b:=fun e=>hl (by rw[e])
  simp(disch:=omega) only[ir233,h1,h2,hl',go_sem]
  exact hQ _ _ _ _ nofun rfl (by simp[zd,ze,AV.strip,AV.strip1,Za hne])
 have hl':((a.length:Int)=b.length)=True:=eq_true (by omega)
 simp(disch:=omega) only[ir233,h1,h2,hl',go_sem]
 refine zf a 17 (fun _:Unit=>[]) (fun done rest n H=>b.take done.length=done) () (by simp(disch:=omega) only[go_sem]) rfl ?_ ?_
 ·rintro n H J hp hlt
  simp(disch:=omega) only[h1,hlt,go_sem]
  exact hQ _ _ _ _ nofun rfl (by simp[zd,ze,AV.strip,AV.strip1,Y5 (zma hl hp)])
 ·rintro done x rest n H J hd hlt _ hp hJ
  obtain⟨y,r,hb⟩:=zmK hd hl hp
  have g1:=zao hd
  have g2:=zao hb
  have hlt2:(done.length:Int)<b.length:=by omega
  simp(disch:=omega) only[zp,zl,zh,zo,zm,zg,zr,h1,h2,hlt,hlt2,g1,g2,go_sem]
  refine zb fun b1 hb1=>?_
  simp(disch:=omega) only[zp,zl,zh,zo,zm,zg,zr,h1,h2,hlt,hlt2,g1,g2,go_sem]
  refine zb fun b2 hb2=>?_
  have hne:=yS hb2
  simp(disch:=omega) only[zp,zl,zh,zo,zm,zg,zr,Ne.symm hne,hne,go_sem]
  refine⟨hf,za (hc x (by rw[hd];simp) y) ?_⟩
  by_cases hxy:x=y
  ·simp(disch:=omega) only[Y5 hxy,go_sem]
   exact goJ (hJ () _ (by rw[hxy];exact zjA hb)) (by simp(disch:=omega) only[wrap64,go_sem])
  ·simp(disch:=omega) only[Za hxy,go_sem]
   exact hQ _ _ _ _ nofun rfl (by simp[zd,ze,AV.strip,AV.strip1,Za (zpS hd hb hxy)])
theorem zr3 (f:FuncId) (hf:Program.callable Tryz.prog f=true) (a b:List Mem) (ha:a.length≤Lim) (hc:∀ x∈a,∀ y,zi Tryz.prog f [.agg (cM x),.agg (cM y)] (.bool (eqd x y))) :
  zi Tryz.prog 234 [.sl .no 6 (cMs a),.sl .no 6 (cMs b),.clo f [] []] (.bool (eqd a b)):=by
 refine zi.go ir234 ck234 (Al4 _) fun KP Q hQ=>?_
 have h1:=yY a
 have h2:=yY b
 simp only[Lim] at ha
 by_cases hl:a.length=b.length
 case neg =>
  have hl':¬ ((a.length:Int)=b.length):=by omega
  have hne:a≠b:=fun e=>hl (by rw[e])
  simp(disch:=omega) only[ir234,h1,h2,hl',go_sem]
  exact hQ _ _ _ _ nofun rfl (by simp[zd,ze,AV.strip,AV.strip1,Za hne])
 have hl':((a.length:Int)=b.length)=True:=eq_true (by omega)
 simp(disch:=omega) only[ir234,h1,h2,hl',go_sem]
 refine zf a 17 (fun _:Unit=>[]) (fun done rest n H=>b.take done.length=done) () (by simp(disch:=omega) only[go_sem]) rfl ?_ ?_
 ·rintro n H J hp hlt
  simp(disch:=omega) only[h1,hlt,go_sem]
  exact hQ _ _ _ _ nofun rfl (by simp[zd,ze,AV.strip,AV.strip1,Y5 (zma hl hp)])
 ·rintro done x rest n H J hd hlt _ hp hJ
  obtain⟨y,r,hb⟩:=zmK hd hl hp
  have g1:=Zr hd
  have g2:=Zr hb
  have hlt2:(done.length:Int)<b.length:=by omega
  simp(disch:=omega) only[zp,zl,zh,zo,zm,zg,zr,h1,h2,hlt,hlt2,g1,g2,go_sem]
  refine zb fun b1 hb1=>?_
  simp(disch:=omega) only[zp,zl,zh,zo,zm,zg,zr,h1,h2,hlt,hlt2,g1,g2,go_sem]
  refine zb fun b2 hb2=>?_
  have hne:=yS hb2
  simp(disch:=omega) only[zp,zl,zh,zo,zm,zg,zr,Ne.symm hne,hne,go_sem]
  refine⟨hf,za (hc x (by rw[hd];simp) y) ?_⟩
  by_cases hxy:x=y
  ·simp(disch:=omega) only[Y5 hxy,go_sem]
   exact goJ (hJ () _ (by rw[hxy];exact zjA hb)) (by simp(disch:=omega) only[wrap64,go_sem])
  ·simp(disch:=omega) only[Za hxy,go_sem]
   exact hQ _ _ _ _ nofun rfl (by simp[zd,ze,AV.strip,AV.strip1,Za (zpS hd hb hxy)])
theorem zow (s t:List UInt8) (v u:Val) (hc:zi Tryz.prog 208 [.agg (cV v),.agg (cV u)] (.bool (eqd v u))):zi Tryz.prog 235 [.agg (cM (.mk s v)),.agg (cM (.mk t u))] (.bool (eqd (Mem.mk s v) (Mem.mk t u))):=by
 refine zi.go ir235 ck235 (Al4 _) fun KP Q hQ=>?_
 by_cases h1:s=t
 ·simp(disch:=omega) only[zp,zl,zh,zo,zm,zg,zr,ir235,h1,go_sem]
  refine za hc ?_
  simp(disch:=omega) only[go_sem]
  have:eqd (Mem.mk t v) (Mem.mk t u)=eqd v u:=by
   by_cases h:v=u
   ·rw[Y5 h,Y5 (by rw[h])]
   ·rw[Za h,Za (by simp[h])]
  exact hQ _ _ _ _ nofun rfl (by simp[zd,ze,AV.strip,AV.strip1,this,h1])
 ·simp(disch:=omega) only[zp,zl,zh,zo,zm,zg,zr,ir235,h1,go_sem]
  have:eqd (Mem.mk s v) (Mem.mk t u)=false:=Za (by simp[h1])
  exact hQ _ _ _ _ nofun rfl (by simp[zd,ze,AV.strip,AV.strip1,this])
theorem zoW:∀ v,bV v≤Lim→∀ u,zi Tryz.prog 208 [.agg (cV v),.agg (cV u)] (.bool (eqd v u)):=by
 refine Val.ind fun k n s l m ihl ihm hb u=>?_
 obtain⟨k',n',s',l',m'⟩:=u
 have hb':1+s.length+bVs l+bMs m≤Lim:=hb
 have hll:=zaq l
 have hml:=y5 m
 have il:∀ x∈l,∀ y,zi Tryz.prog 208 [.agg (cV x),.agg (cV y)] (.bool (eqd x y)):=fun x hx y=>by
  obtain⟨a,b,hd⟩:=List.append_of_mem hx
  have:=zeg a x b
  rw[← hd] at this
  exact ihl x hx (by omega) y
 have im:∀ x∈m,∀ y,zi Tryz.prog 235 [.agg (cM x),.agg (cM y)] (.bool (eqd x y)):=fun x hx y=>by
  obtain⟨a,b,hd⟩:=List.append_of_mem hx
  have:=Yx a x b
  rw[← hd] at this
  obtain⟨t,v⟩:=x
  obtain⟨t',v'⟩:=y
  simp only[bM] at this
  exact zow t t' v v' (ihm t v hx (by omega) v')
 refine zi.go ir208 ck208 (Al4 _) fun KP Q hQ=>?_
 by_cases h1:k=k'
 case neg =>
  have hne:¬ (Val.mk k n s l m=Val.mk k' n' s' l' m'):=by simp[h1]
  simp(disch:=omega) only[ir208,yh,h1,go_sem]
  exact hQ _ _ _ _ nofun rfl (by simp[zd,ze,AV.strip,AV.strip1,Za hne])
 by_cases h2:n=n'
 case neg =>
  have hne:¬ (Val.mk k n s l m=Val.mk k' n' s' l' m'):=by simp[h2]
  simp(disch:=omega) only[ir208,yh,h1,h2,go_sem]
  exact hQ _ _ _ _ nofun rfl (by simp[zd,ze,AV.strip,AV.strip1,Za hne])
 by_cases h3:s=s'
 case neg =>
  have hne:¬ (Val.mk k n s l m=Val.mk k' n' s' l' m'):=by simp[h3]
  simp(disch:=omega) only[ir208,yh,h1,h2,h3,go_sem]
  exact hQ _ _ _ _ nofun rfl (by simp[zd,ze,AV.strip,AV.strip1,Za hne])
 simp(disch:=omega) only[ir208,yh,h1,h2,h3,go_sem]
 refine za (zrc _ (by kernel_rfl) l l' (by omega) il) ?_
 by_cases h4:l=l'
 case neg =>
  have hne:¬ (Val.mk k n s l m=Val.mk k' n' s' l' m'):=by simp[h4]
  simp(disch:=omega) only[Za h4,go_sem]
  exact hQ _ _ _ _ nofun rfl (by simp[zd,ze,AV.strip,AV.strip1,Za hne])
 simp(disch:=omega) only[Y5 h4,go_sem]
 refine za (zr3 _ (by kernel_rfl) m m' (by omega) im) ?_
 simp(disch:=omega) only[go_sem]
 have:eqd (Val.mk k n s l m) (Val.mk k' n' s' l' m')=eqd m m':=by
  by_cases h:m=m'
  ·rw[Y5 h,Y5 (by rw[h1,h2,h3,h4,h])]
  ·rw[Za h,Za (by simp[h])]
 exact hQ _ _ _ _ nofun rfl (by simp[zd,ze,AV.strip,AV.strip1,this])
theorem zqc (m:List Mem) (hm:bMs m≤Lim) (hc:∀ s v,Mem.mk s v∈m→zi Tryz.prog 129 [.agg (cV v)] (.agg (cV v))):zi Tryz.prog 70 [.sl .no 6 (cMs m)] (.sl .no 6 (cMs m)):=by
 refine zi.go ir70 ck70 (Al4 _) fun KP Q hQ=>?_
 have h1:=yY m
 have hml:=y5 m
 simp only[Lim] at hm
 simp(disch:=omega) only[ir70,go_sem]
 refine zf m 4 (fun x:Own×List Mem=>[(3,.sl x.1 6 (cMs x.2))]) (fun done rest x H=>x.2=done∧OwnF zc.emp H x.1 done.length 6) (.nil,[]) (by simp(disch:=omega) only[cMs,go_sem]) ⟨rfl,OwnF.nil _ _⟩ ?_ ?_
 ·rintro⟨o,done⟩ H J ⟨rfl,ho⟩ hlt
  simp(disch:=omega) only[h1,hlt,go_sem]
  exact hQ _ _ _ _ nofun rfl (by simp[zd,ze,AV.strip,AV.strip1])
 ·rintro done x rest ⟨o,ds⟩ H J hd hlt hlt' ⟨hds,ho⟩ hJ
  simp only at hds ho hJ ⊢
  obtain rfl:done=ds:=hds.symm
  have hg:=Zr hd
  have hmem:x∈m:=by rw[hd];simp
  have h2:=yY done
  obtain⟨s,v⟩:=x
  simp(disch:=omega) only[zp,zl,zh,zo,zm,zg,zr,h1,hlt,hg,go_sem]
  refine za (hc s v hmem) ?_
  simp(disch:=omega) only[zp,zl,zh,zo,zm,zg,zr,h1,hlt,hg,go_sem]
  refine zt (by rw[h2];exact ho.own) ?_ ?_ fun o' H' hs=>?_
  ·simp only[h2,Al2,Al3];omega
  ·simp only[h2,Al2,Al3,maxLen];omega
  rw[h2] at hs
  simp(disch:=omega) only[wrap64,go_sem]
  refine goJ (hJ (o',done++[.mk s v]) H' ⟨rfl,(ho.stepS hs).cast (by simp)⟩) (by simp(disch:=omega) only[zbD,List.map_append,List.map_cons,zr,zcI,AV.strip1,go_sem])
theorem copyV:∀ v,bV v≤Lim→zi Tryz.prog 129 [.agg (cV v)] (.agg (cV v)):=by
 refine Val.ind fun k n s l m ihl ihm hb=>?_
 have hb':1+s.length+bVs l+bMs m≤Lim:=hb
 have hll:=zaq l
 have hml:=y5 m
 have il:∀ x∈l,zi Tryz.prog 129 [.agg (cV x)] (.agg (cV x)):=fun x hx=>by
  obtain⟨a,b,hd⟩:=List.append_of_mem hx
  have:=zeg a x b
  rw[← hd] at this
  exact ihl x hx (by omega)
 have im:∀ s v,Mem.mk s v∈m→zi Tryz.prog 129 [.agg (cV v)] (.agg (cV v)):=fun t v hx=>by
  obtain⟨a,b,hd⟩:=List.append_of_mem hx
  have:=Yx a (.mk t v) b
  rw[← hd] at this
  simp only[bM] at this
  exact ihm t v hx (by omega)
 refine zi.go ir129 ck129 (Al4 _) fun KP Q hQ=>?_
 have h1:=Ys l
 simp(disch:=omega) only[ir129,yh,go_sem]
 refine zb fun b hb=>?_
 simp(disch:=omega) only[go_sem]
 refine zb fun b2 hb2=>?_
 have hne:=yS hb2
 have hb0:=zo5 hb2
 simp(disch:=omega) only[go_sem]
 simp only[Lim] at hb'
 refine zf l 4 (fun x:Own×List Val=>[(3,.sl x.1 5 (cVs x.2))]) (fun done rest x H=>x.2=done∧OwnF ((zc.emp.upd b (.cells [.int .i64 k,.int .i64 n,.str s,.sl .no 5 (cVs l),.sl .no 6 (cMs m)])).upd b2 (.cells [.int .i64 0,.int .i64 0,.str [],.sl .nil 5 [],.sl .nil 6 []])) H x.1 done.length 5) (.nil,[]) (by simp(disch:=omega) only[cVs,go_sem]) ⟨rfl,OwnF.nil _ _⟩ ?_ ?_
 ·rintro⟨o,done⟩ H J ⟨rfl,ho⟩ hlt
  have e1:H b=some (.cells [.int .i64 k,.int .i64 n,.str s,.sl .no 5 (cVs done),.sl .no 6 (cMs m)]):=ho.sub b _ (by simp[zc.upd,Ne.symm hne])
  have e2:H b2=some (.cells [.int .i64 0,.int .i64 0,.str [],.sl .nil 5 [],.sl .nil 6 []]):=ho.sub b2 _ (by simp[zc.upd])
  simp(disch:=omega) only[h1,hlt,e1,go_sem]
  refine za (zqc m (by simp only[Lim];omega) im) ?_
  simp(disch:=omega) only[e1,e2,hne,Ne.symm hne,go_sem]
  refine hQ _ _ _ [.agg [.int .i64 k,.int .i64 n,.str s,.sl o 5 (cVs done),.sl .no 6 (cMs m)]] nofun (by simp(disch:=omega) only[ir129,zL,Zt,hne,Ne.symm hne,go_sem]) ?_
  simp[zd,AV.strip,AV.strip1,yh]
 ·rintro done x rest ⟨o,ds⟩ H J hd hlt hlt' ⟨hds,ho⟩ hJ
  simp only at hds ho hJ ⊢
  obtain rfl:done=ds:=hds.symm
  have hg:=zao hd
  have hmem:x∈l:=by rw[hd];simp
  have h2:=Ys done
  have e1:H b=some (.cells [.int .i64 k,.int .i64 n,.str s,.sl .no 5 (cVs l),.sl .no 6 (cMs m)]):=ho.sub b _ (by simp[zc.upd,Ne.symm hne])
  simp(disch:=omega) only[zp,zl,zh,zo,zm,zg,zr,h1,hlt,hg,e1,go_sem]
  refine za (il x hmem) ?_
  simp(disch:=omega) only[zp,zl,zh,zo,zm,zg,zr,h1,hlt,hg,go_sem]
  refine zt (by rw[h2];exact ho.own) ?_ ?_ fun o' H' hs=>?_
  ·simp only[h2,Al2,Al3];omega
  ·simp only[h2,Al2,Al3,maxLen];omega
  rw[h2] at hs
  simp(disch:=omega) only[wrap64,go_sem]
  refine goJ (hJ (o',done++[x]) H' ⟨rfl,(ho.stepS hs).cast (by simp)⟩) (by simp(disch:=omega) only[zeL,List.map_append,List.map_cons,zcI,AV.strip1,go_sem])
abbrev zvr (H:zc) (o:Own) (sz:Nat) (xs:List (List AV)):AV→zc→Prop:=fun v H'=>∃ o',v=.sl o' sz xs∧OwnS H o H' o' xs.length sz
abbrev zac (P:Program) (f:FuncId) (args:List AV) (H:zc) (o:Own) (sz:Nat) (xs:List (List AV)):Prop :=
 zk P f args H (fun e H'=>match e with|.ret v=>zvr H o sz xs v H'|.pan _=>False)
theorem zB {P:Program} {KP:AV→zc→Prop} {Q:AExit→Env→zc→Prop} {st:List Fr} {ρ:Env} {H:zc} {all l:List AItem} {d:Option Nat} {R:List Chk} {f:FuncId} {args:List AV} {o:Own} {sz:Nat} {xs:List (List AV)}
  (h:zac P f args H o sz xs) (hk:∀ o' H',OwnS H o H' o' xs.length sz→goR P KP Q all l st R (ρ.set d (.sl o' sz xs)) H'):goK P KP Q all l st d R ρ f args H :=
 yI (XP:=fun _ _=>False) h (fun v H' ⟨o',e,hs⟩=>by subst e;exact hk o' H' hs) (fun _ _ h=>h.elim)
def z8 (s:List UInt8):List (List UInt8)→Bool
 | []=>false
 | x::r=>if x=s then true else z8 s r
theorem Z1 (s:List UInt8):∀ l,z8 s l=true↔s∈l
 | []=>by simp[z8]
 | x::r=>by
  have:=Z1 s r
  simp only[z8,List.mem_cons]
  split
  ·rename_i h;simp[h]
  ·rename_i h;rw[this];constructor
   ·exact .inr
   ·rintro(e|e)
    ·exact absurd e.symm h
    ·exact e
def zi8 (s:List UInt8):List (List UInt8)→Int→Int
 | [],_=>-1
 | x::r,i=>if s=x then i else zi8 s r (i+1)
theorem zkJ (s:List UInt8):∀ l (i:Int),0≤i→decide (0≤zi8 s l i)=z8 s l
 | [],i,_=>by simp[zi8,z8]
 | x::r,i,hi=>by
  simp only[zi8,z8]
  by_cases h:s=x
  ·simp[h];omega
  ·simp only[h,Ne.symm h,if_false];exact zkJ s r (i+1) (by omega)
theorem ztn (l:List (List UInt8)) (s:List UInt8) (hl:l.length≤Lim):zi Tryz.prog 73 [.sl .no 1 (cT l),.str s] (.int .i64 (zi8 s l 0)):=by
 refine zi.go ir73 ck73 (Al4 _) fun KP Q hQ=>?_
 have h1:=zK l
 simp only[Lim] at hl
 simp(disch:=omega) only[ir73,h1,go_sem]
 refine zf l 8 (fun _:Unit=>[]) (fun done rest n H=>zi8 s rest done.length=zi8 s l 0) () (by simp(disch:=omega) only[go_sem]) rfl ?_ ?_
 ·rintro n H J hn hlt
  simp(disch:=omega) only[h1,hlt,go_sem]
  simp only[zi8] at hn
  exact hQ _ _ _ _ nofun rfl (by simp[zd,ze,AV.strip,AV.strip1,← hn])
 ·rintro done x rest n H J hd hlt _ hn hJ
  have hg:=Z5 hd
  simp only[zi8] at hn
  by_cases hx:s=x
  ·subst hx
   simp only[if_true] at hn
   simp(disch:=omega) only[h1,hlt,hg,go_sem]
   exact hQ _ _ _ _ nofun rfl (by simp[zd,ze,AV.strip,AV.strip1,← hn])
  ·simp only[hx,if_false] at hn
   simp(disch:=omega) only[h1,hlt,hg,hx,go_sem]
   exact goJ (hJ () _ (by simpa using hn)) (by simp(disch:=omega) only[wrap64,go_sem])
theorem yQ (l:List (List UInt8)) (s:List UInt8) (hl:l.length≤Lim):zi Tryz.prog 29 [.sl .no 1 (cT l),.str s] (.bool (z8 s l)):=by
 refine zi.go ir29 ck29 (Al4 _) fun KP Q hQ=>?_
 simp(disch:=omega) only[ir29,go_sem]
 refine za (ztn l s hl) ?_
 simp(disch:=omega) only[go_sem]
 have:=zkJ s l 0 (by omega)
 exact hQ _ _ _ _ nofun rfl (by simp[zd,ze,AV.strip,AV.strip1,this])
mutual
def Zs:Val→List (List UInt8)→List (List UInt8)
 | .mk k _ s l m,acc=>if k=8 then (if z8 s acc then acc else acc++[s]) else if k=6 then zcn l acc else if k=7 then zcq m acc else acc
def zcn:List Val→List (List UInt8)→List (List UInt8)
 | [],acc=>acc
 | v::r,acc=>zcn r (Zs v acc)
def zjE:Mem→List (List UInt8)→List (List UInt8)
 | .mk _ v,acc=>Zs v acc
def zcq:List Mem→List (List UInt8)→List (List UInt8)
 | [],acc=>acc
 | x::r,acc=>zcq r (zjE x acc)
end
mutual
theorem zbd:∀ v acc,(Zs v acc).length≤acc.length+bV v
 | .mk k n s l m,acc=>by
  have h1:=zh3 l acc
  have h2:=zhU m acc
  simp only[Zs,bV]
  split
  ·split
   ·omega
   ·simp;omega
  ·split
   ·omega
   ·split<;>omega
theorem zh3:∀ l acc,(zcn l acc).length≤acc.length+bVs l
 | [],acc=>by simp[zcn]
 | v::r,acc=>by
  have h1:=zbd v acc
  have h2:=zh3 r (Zs v acc)
  simp only[zcn,bVs];omega
theorem zj3:∀ x acc,(zjE x acc).length≤acc.length+bM x
 | .mk s v,acc=>by have:=zbd v acc;simp only[zjE,bM];omega
theorem zhU:∀ l acc,(zcq l acc).length≤acc.length+bMs l
 | [],acc=>by simp[zcq]
 | x::r,acc=>by
  have h1:=zj3 x acc
  have h2:=zhU r (zjE x acc)
  simp only[zcq,bMs];omega
end
theorem zvn:∀ v,∀ acc H o,acc.length+bV v≤Lim→zR H o acc.length 1→zac Tryz.prog 245 [.sl o 1 (cT acc),.agg (cV v)] H o 1 (cT (Zs v acc)):=by
 refine Val.ind fun k n s l m ihl ihm acc H o hb ho=>?_
 have hb':acc.length+(1+s.length+bVs l+bMs m)≤Lim:=hb
 have hll:=zaq l
 have hml:=y5 m
 have h1:=Ys l
 have h2:=yY m
 have h3:=zK acc
 simp only[Lim] at hb'
 refine zk.goO ir245 ck245 (Al4 _) fun KP Q hQ hP=>?_
 by_cases k8:k=8
 ·subst k8
  simp(disch:=omega) only[ir245,yh,go_sem]
  refine za (zi.low (yQ acc s (by simp only[Lim];omega))) ?_
  cases hh:z8 s acc with
  | true =>
   simp(disch:=omega) only[hh,go_sem]
   refine hQ _ _ H H _ nofun rfl (Low.refl _) ⟨o,?_,?_⟩
   ·simp[zd,ze,Zs,hh]
   ·simpa[Zs,hh,h3] using OwnS.refl ho
  | false =>
   simp(disch:=omega) only[hh,go_sem]
   refine zt (by rw[h3];exact ho) ?_ ?_ fun o' H' hs=>?_
   ·simp only[h3,Al2,Al3];omega
   ·simp only[h3,Al2,Al3,maxLen];omega
   simp(disch:=omega) only[go_sem]
   refine hQ _ _ H' H' _ nofun rfl (Low.refl _) ⟨o',?_,?_⟩
   ·simp[zd,ze,Zs,hh,cT,AV.strip1]
   ·simpa[Zs,hh,h3,zK] using hs
 by_cases k6:k=6
 ·subst k6
  simp(disch:=omega) only[ir245,yh,h1,go_sem]
  refine zf l 28 (fun x:Own×List (List UInt8)=>[(0,.sl x.1 1 (cT x.2))]) (fun done rest x H'=>zcn rest x.2=zcn l acc∧x.2.length+bVs rest≤acc.length+bVs l∧OwnS H o H' x.1 x.2.length 1) (o,acc) (by simp(disch:=omega) only[go_sem]) ⟨rfl,by simp,OwnS.refl ho⟩ ?_ ?_
  ·rintro⟨o1,a⟩ H' J ⟨hn,_,hs⟩ hlt
   simp only[zcn] at hn
   subst hn
   simp(disch:=omega) only[h1,hlt,go_sem]
   refine hQ _ _ H' H' _ nofun rfl (Low.refl _) ⟨o1,?_,?_⟩
   ·simp[zd,ze,Zs]
   ·simpa[Zs,zK] using hs
  ·rintro done x rest ⟨o1,a⟩ H' J hd hlt _ ⟨hn,hle,hs⟩ hJ
   have hg:=zao hd
   have hx:=zbd x a
   simp only[zcn,bVs] at hn hle
   simp(disch:=omega) only[zp,zl,zh,zo,zm,zg,zr,h1,hlt,hg,go_sem]
   refine zb fun b hb=>?_
   simp(disch:=omega) only[zp,zl,zh,zo,zm,zg,zr,go_sem]
   refine zB (ihl x (by rw[hd];simp) a _ o1 (by simp only[Lim];omega) (hs.own.upd hb)) fun o2 H2 hs2=>?_
   rw[zK] at hs2
   simp(disch:=omega) only[wrap64,go_sem]
   exact goJ (hJ (o2,Zs x a) H2 ⟨hn,by simp only;omega,(hs.upd hb).trans hs2⟩) (by simp(disch:=omega) only[go_sem])
 by_cases k7:k=7
 ·subst k7
  simp(disch:=omega) only[ir245,yh,h2,go_sem]
  refine zf m 41 (fun x:Own×List (List UInt8)=>[(0,.sl x.1 1 (cT x.2))]) (fun done rest x H'=>zcq rest x.2=zcq m acc∧x.2.length+bMs rest≤acc.length+bMs m∧OwnS H o H' x.1 x.2.length 1) (o,acc) (by simp(disch:=omega) only[go_sem]) ⟨rfl,by simp,OwnS.refl ho⟩ ?_ ?_
  ·rintro⟨o1,a⟩ H' J ⟨hn,_,hs⟩ hlt
   simp only[zcq] at hn
   subst hn
   simp(disch:=omega) only[h2,hlt,go_sem]
   refine hQ _ _ H' H' _ nofun rfl (Low.refl _) ⟨o1,?_,?_⟩
   ·simp[zd,ze,Zs]
   ·simpa[Zs,zK] using hs
  ·rintro done x rest ⟨o1,a⟩ H' J hd hlt _ ⟨hn,hle,hs⟩ hJ
   have hg:=Zr hd
   have hx:=zj3 x a
   simp only[zcq,bMs] at hn hle
   have hmem:x∈m:=by rw[hd];simp
   obtain⟨t,v⟩:=x
   simp only[zjE,bM] at hx hn hle
   simp(disch:=omega) only[zp,zl,zh,zo,zm,zg,zr,h2,hlt,hg,go_sem]
   refine zb fun b hb=>?_
   simp(disch:=omega) only[zp,zl,zh,zo,zm,zg,zr,go_sem]
   refine zB (ihm t v hmem a _ o1 (by simp only[Lim];omega) (hs.own.upd hb)) fun o2 H2 hs2=>?_
   rw[zK] at hs2
   simp(disch:=omega) only[wrap64,go_sem]
   exact goJ (hJ (o2,Zs v a) H2 ⟨hn,by simp only;omega,(hs.upd hb).trans hs2⟩) (by simp(disch:=omega) only[go_sem])
 ·simp(disch:=omega) only[ir245,yh,k8,k6,k7,go_sem]
  refine hQ _ _ H H _ nofun rfl (Low.refl _) ⟨o,?_,?_⟩
  ·simp[zd,ze,Zs,k8,k6,k7]
  ·simpa[Zs,k8,k6,k7,zK] using OwnS.refl ho
theorem zlD (v:Val) (h:bV v≤Lim):zi Tryz.prog 226 [.agg (cV v)] (.sl .no 1 (cT (Zs v []))):=by
 refine zi.go ir226 ck226 (Al4 _) fun KP Q hQ=>?_
 simp(disch:=omega) only[zp,zl,zh,zo,zm,zg,zr,ir226,go_sem]
 refine zB (zvn v [] _ .nil (by simpa using h) rfl) fun o' H' hs=>?_
 simp(disch:=omega) only[go_sem]
 exact hQ _ _ _ _ nofun rfl (by simp[zd,ze,AV.strip,AV.strip1])
def isD (c:UInt8):Bool:=decide (48≤c.toNat)&&decide (c.toNat≤57)
def isL (c:UInt8):Bool:=(decide (97≤c.toNat)&&decide (c.toNat≤122))||((decide (65≤c.toNat)&&decide (c.toNat≤90))||decide (c.toNat=95))
theorem zog (c:UInt8):zi Tryz.prog 240 [.int .u8 (c.toNat:Int)] (.bool (isD c)):=by
 refine zi.go ir240 ck240 (Al4 _) fun KP Q hQ=>?_
 by_cases h:(48:Int)≤c.toNat
 ·simp(disch:=omega) only[ir240,h,go_sem]
  have h':48≤c.toNat:=by omega
  have e:decide ((c.toNat:Int)≤57)=decide (c.toNat≤57):=by rw[decide_eq_decide];omega
  exact hQ _ _ _ _ nofun rfl (by simp[zd,ze,AV.strip,AV.strip1,isD,h',e])
 ·simp(disch:=omega) only[ir240,h,go_sem]
  have h':¬ 48≤c.toNat:=by omega
  exact hQ _ _ _ _ nofun rfl (by simp[zd,ze,AV.strip,AV.strip1,isD,h'])
theorem zqZ (c:UInt8):zi Tryz.prog 239 [.int .u8 (c.toNat:Int)] (.bool (isL c)):=by
 refine zi.go ir239 ck239 (Al4 _) fun KP Q hQ=>?_
 have e:decide ((c.toNat:Int)=95)=decide (c.toNat=95):=by rw[decide_eq_decide];omega
 by_cases h:(97:Int)≤c.toNat
 ·have h':97≤c.toNat:=by omega
  by_cases h2:(c.toNat:Int)≤122
  ·have h2':c.toNat≤122:=by omega
   simp(disch:=omega) only[ir239,h,h2,go_sem]
   exact hQ _ _ _ _ nofun rfl (by simp[zd,ze,AV.strip,AV.strip1,isL,h',h2'])
  ·have h2':¬ c.toNat≤122:=by omega
   have h3:(65:Int)≤c.toNat:=by omega
   have h4:¬ (c.toNat:Int)≤90:=by omega
   have h4':¬ c.toNat≤90:=by omega
   simp(disch:=omega) only[ir239,h,h2,h3,h4,go_sem]
   exact hQ _ _ _ _ nofun rfl (by simp[zd,ze,AV.strip,AV.strip1,isL,h',h2',h4',e])
 ·have h':¬ 97≤c.toNat:=by omega
  by_cases h3:(65:Int)≤c.toNat
  ·have h3':65≤c.toNat:=by omega
   by_cases h4:(c.toNat:Int)≤90
   ·have h4':c.toNat≤90:=by omega
    simp(disch:=omega) only[ir239,h,h3,h4,go_sem]
    exact hQ _ _ _ _ nofun rfl (by simp[zd,ze,AV.strip,AV.strip1,isL,h',h3',h4'])
   ·have h4':¬ c.toNat≤90:=by omega
    simp(disch:=omega) only[ir239,h,h3,h4,go_sem]
    exact hQ _ _ _ _ nofun rfl (by simp[zd,ze,AV.strip,AV.strip1,isL,h',h3',h4',e])
  ·have h3':¬ 65≤c.toNat:=by omega
   simp(disch:=omega) only[ir239,h,h3,go_sem]
   exact hQ _ _ _ _ nofun rfl (by simp[zd,ze,AV.strip,AV.strip1,isL,h',h3',e])
def zik:List UInt8→Nat→Bool
 | [],_=>true
 | c::r,i=>if isL c||(decide (i≠0)&&isD c) then zik r (i+1) else false
def zP (s:List UInt8):Bool:=zik s 0&&decide (s≠[])
theorem zqV {s a:List UInt8} {x:UInt8} {b:List UInt8} (h:s=a++x::b):s.getD a.length 0=x:=by subst h;simp
theorem zh5 (s:List UInt8) (hs:s.length≤Lim):zi Tryz.prog 221 [.str s] (.bool (zP s)):=by
 refine zi.go ir221 ck221 (Al4 _) fun KP Q hQ=>?_
 simp only[Lim] at hs
 simp(disch:=omega) only[ir221,go_sem]
 refine zf s 6 (fun _:Unit=>[]) (fun done rest n H=>zik rest done.length=zik s 0) () (by simp(disch:=omega) only[go_sem]) rfl ?_ ?_
 ·rintro n H J hn hlt
  simp only[zik] at hn
  simp(disch:=omega) only[hlt,go_sem]
  have e:(!decide (s=[]))=decide (s≠[]):=by simp
  exact hQ _ _ _ _ nofun rfl (by simp[zd,ze,AV.strip,AV.strip1,zP,← hn])
 ·rintro done x rest n H J hd hlt _ hn hJ
  have hg:=zqV hd
  simp only[zik] at hn
  simp(disch:=omega) only[hlt,hg,go_sem]
  refine za (zqZ x) ?_
  cases hl:isL x with
  | true =>
   simp only[hl,Bool.true_or,if_true] at hn
   simp(disch:=omega) only[hl,go_sem]
   exact goJ (hJ () _ (by simpa using hn)) (by simp(disch:=omega) only[wrap64,go_sem])
  | false =>
   by_cases h0:done.length=0
   ·have h0':(done.length:Int)=0:=by omega
    simp only[hl,h0,ne_eq,not_true_eq_false,decide_false,Bool.false_and,Bool.or_false,Al7,if_false] at hn
    simp(disch:=omega) only[hl,h0',go_sem]
    exact hQ _ _ _ _ nofun rfl (by simp[zd,ze,AV.strip,AV.strip1,zP,← hn])
   ·have h0':¬ (done.length:Int)=0:=by omega
    simp(disch:=omega) only[hl,h0',hlt,hg,go_sem]
    refine za (zog x) ?_
    cases hdg:isD x with
    | true =>
     simp only[hl,hdg,h0,ne_eq,not_false_eq_true,decide_true,Bool.and_self,Bool.or_true,if_true] at hn
     simp(disch:=omega) only[hdg,go_sem]
     exact goJ (hJ () _ (by simpa using hn)) (by simp(disch:=omega) only[wrap64,go_sem])
    | false =>
     simp only[hl,hdg,Bool.and_false,Bool.or_false,Al7,if_false] at hn
     simp(disch:=omega) only[hdg,go_sem]
     exact hQ _ _ _ _ nofun rfl (by simp[zd,ze,AV.strip,AV.strip1,zP,← hn])
def Zk:List UInt8→Nat
 | []=>0
 | c::r=>if isD c then Zk r+1 else 0
theorem zbo:∀ l,Zk l≤l.length
 | []=>Al4 _
 | c::r=>by have:=zbo r;simp only[Zk,Al2];split<;>omega
theorem zlO (s:List UInt8) (k:Nat):(s.drop k=[]∧s.length≤k)∨(k<s.length∧s.drop k=s.getD k 0::s.drop (k+1)):=by
 rcases Nat.lt_or_ge k s.length with h|h
 ·right
  refine⟨h,?_⟩
  rw[List.drop_eq_getElem_cons h]
  simp[h]
 ·left;exact⟨List.drop_of_length_le h,h⟩
theorem YL (s:List UInt8) (hs:s.length≤Lim):zi Tryz.prog 275 [.str s] (.int .i64 (Zk s)):=by
 refine zi.go ir275 ck275 (Al4 _) fun KP Q hQ=>?_
 simp only[Lim] at hs
 have hr1:=zbo s
 simp(disch:=omega) only[ir275,go_sem]
 refine zbL (fun n:Nat=>[(3,.int .i64 n)]) (fun n H=>Zk s=n+Zk (s.drop n)∧n≤s.length) (fun n=>s.length-n) 0 (by simp(disch:=omega) only[go_sem]) ⟨by simp,by omega⟩ ?_
 rintro n H J ⟨hn,hle⟩ hJ
 rcases zlO s n with ⟨h1,h2⟩|⟨h1,h2⟩
 ·have hlt:¬ ((n:Int)<s.length):=by omega
  rw[h1] at hn
  simp only[Zk,Nat.add_zero] at hn
  simp(disch:=omega) only[hlt,go_sem]
  exact hQ _ _ _ _ nofun rfl (by simp[zd,ze,AV.strip,AV.strip1,hn])
 ·have hlt:((n:Int)<s.length):=by omega
  rw[h2] at hn
  simp only[Zk] at hn
  simp(disch:=omega) only[hlt,go_sem]
  refine za (zog (s.getD n 0)) ?_
  cases hd:isD (s.getD n 0) with
  | true =>
   simp only[hd,if_true] at hn
   simp(disch:=omega) only[hd,go_sem]
   exact goJ (hJ (n+1) _ (by omega) ⟨by omega,by omega⟩) (by simp(disch:=omega) only[wrap64,Int.natCast_add,Int.natCast_one,go_sem])
  | false =>
   simp only[hd,Al7,if_false,Nat.add_zero] at hn
   simp(disch:=omega) only[hd,go_sem]
   exact hQ _ _ _ _ nofun rfl (by simp[zd,ze,AV.strip,AV.strip1,hn])
theorem zmp (c:UInt8) (s:List UInt8):[c].isPrefixOf s=decide (s.head?=some c):=by
 cases s with
 | nil=>rfl
 | cons d r =>
  by_cases h:d=c
  ·subst h;simp[List.isPrefixOf]
  ·have h':¬ c=d:=fun e=>h e.symm
   simp[List.isPrefixOf,h,h']
def zfd (s:List UInt8):Nat:=if Zk s=0 then 0 else if s.getD 0 0=48 then 1 else Zk s
def ZB (s:List UInt8):Nat:=if s.head?=some 45 then (if Zk s.tail=0 then 0 else 1+zfd s.tail) else zfd s
theorem zmb (s:List UInt8):zfd s≤s.length:=by have:=zbo s;unfold zfd;split<;>(try split)<;>omega
theorem znX (s:List UInt8):ZB s≤s.length:=by
 have h1:=zmb s
 have h2:=zmb s.tail
 unfold ZB
 split
 ·rename_i h
  cases s with
  | nil=>simp at h
  | cons c r =>
   simp only[List.tail_cons,Al2] at h2 ⊢
   by_cases h0:Zk r=0<;>simp only[h0,if_true,if_false]<;>omega
 ·exact h1
theorem zhO (a:UInt8) (n:Nat) (hn:n<256):decide ((a.toNat:Int)=n)=decide (a=UInt8.ofNat n):=by
 rw[decide_eq_decide]
 have:(UInt8.ofNat n).toNat=n:=by simp[UInt8.toNat_ofNat'];omega
 constructor
 ·intro h;apply UInt8.toNat_inj.1;rw[this];omega
 ·intro h;subst h;rw[this]
theorem zs4 (s:List UInt8) (hs:s.length≤Lim):zi Tryz.prog 274 [.str s] (.int .i64 (ZB s)):=by
 refine zi.go ir274 ck274 (Al4 _) fun KP Q hQ=>?_
 simp only[Lim] at hs
 simp(disch:=omega) only[ir274,go_sem]
 refine za (ziF s [45]) ?_
 rw[zmp]
 by_cases h:s.head?=some 45
 ·cases s with
  | nil=>simp at h
  | cons c r =>
   have hc:c=45:=by simpa using h
   subst hc
   simp only[Al2] at hs
   have h1:(1:Int)≤((r.length+1:Nat):Int):=by omega
   have h2:(1:Int)<((r.length+1:Nat):Int)∨r=[]:=by cases r<;>simp;omega
   simp(disch:=omega) only[h,h1,Int.toNat_one,go_sem]
   refine za (YL r (by simp only[Lim];omega)) ?_
   by_cases h0:Zk r=0
   ·simp(disch:=omega) only[h0,go_sem]
    exact hQ _ _ _ _ nofun rfl (by simp[zd,ze,AV.strip,AV.strip1,ZB,h0])
   ·have h0':¬ ((Zk r:Int)=0):=by omega
    have hrl:=zbo r
    have hlt:(1:Int)<((r.length+1:Nat):Int):=by omega
    have e:=zhO (r.getD 0 0) 48 (by omega)
    by_cases h48:r.getD 0 0=48
    ·have hi:zfd r=1:=by simp only[zfd,h0,h48,if_false,if_true]
     simp(disch:=omega) only[h0',hlt,Int.toNat_one,h48,UInt8.reduceToNat,wrap64,go_sem]
     exact hQ _ _ _ _ nofun rfl (by simp[zd,ze,AV.strip,AV.strip1,ZB,h0,hi])
    ·have h48':¬ ((r.getD 0 0).toNat:Int)=48:=by
      intro hh
      rw[decide_eq_true (by exact hh)] at e
      exact h48 (by simpa using e.symm)
     have hi:zfd r=Zk r:=by simp only[zfd,h0,h48,if_false]
     simp(disch:=omega) only[h0',hlt,Int.toNat_one,h48',wrap64,go_sem]
     exact hQ _ _ _ _ nofun rfl (by simp[zd,ze,AV.strip,AV.strip1,ZB,h0,hi])
 ·simp(disch:=omega) only[h,go_sem]
  refine za (YL s (by simp only[Lim];omega)) ?_
  by_cases h0:Zk s=0
  ·simp(disch:=omega) only[h0,go_sem]
   exact hQ _ _ _ _ nofun rfl (by simp[zd,ze,AV.strip,AV.strip1,ZB,h,zfd,h0])
  ·have h0':¬ ((Zk s:Int)=0):=by omega
   have hrl:=zbo s
   have hlt:(0:Int)<(s.length:Int):=by omega
   have e:=zhO (s.getD 0 0) 48 (by omega)
   by_cases h48:s.getD 0 0=48
   ·have hi:zfd s=1:=by simp only[zfd,h0,h48,if_false,if_true]
    simp(disch:=omega) only[h0',hlt,h48,UInt8.reduceToNat,wrap64,go_sem]
    exact hQ _ _ _ _ nofun rfl (by simp[zd,ze,AV.strip,AV.strip1,ZB,h,hi])
   ·have h48':¬ ((s.getD 0 0).toNat:Int)=48:=by
     intro hh
     rw[decide_eq_true (by exact hh)] at e
     exact h48 (by simpa using e.symm)
    have hi:zfd s=Zk s:=by simp only[zfd,h0,h48,if_false]
    simp(disch:=omega) only[h0',hlt,h48',wrap64,go_sem]
    exact hQ _ _ _ _ nofun rfl (by simp[zd,ze,AV.strip,AV.strip1,ZB,h,hi])
def isE (c:UInt8):Bool:=decide (c=101)||decide (c=69)
def sgN (r:List UInt8):Nat:=if r.head?=some 43∨r.head?=some 45 then 1 else 0
def zek:List UInt8→Nat
 | []=>0
 | c::r=>if isE c then (if Zk (r.drop (sgN r))=0 then 0 else 1+sgN r+Zk (r.drop (sgN r))) else 0
theorem zoo (r:List UInt8):sgN r≤r.length:=by
 unfold sgN
 split
 ·cases r<;>simp_all
 ·omega
theorem zl4:∀ s,zek s≤s.length
 | []=>by simp[zek]
 | c::r=>by
  have h:=zbo (r.drop (sgN r))
  have h2:=zoo r
  rw[zdX] at h
  simp only[zek,Al2]
  split
  ·split<;>omega
  ·omega
theorem zls (s:List UInt8) (hs:s.length≤Lim):zi Tryz.prog 276 [.str s] (.int .i64 (zek s)):=by
 refine zi.go ir276 ck276 (Al4 _) fun KP Q hQ=>?_
 simp only[Lim] at hs
 cases s with
 | nil =>
  simp(disch:=omega) only[ir276,go_sem]
  exact hQ _ _ _ _ nofun rfl (by simp[zd,ze,AV.strip,AV.strip1,zek])
 | cons c r =>
  simp only[Al2] at hs
  have hne:¬ (c::r=[]):=by simp
  have hp:(0:Int)<((r.length+1:Nat):Int):=by omega
  have e1:=zhO c 101 (by omega)
  have e2:=zhO c 69 (by omega)
  have hE:∀(P:Prop),P→P:=fun _ h=>h
  by_cases hc:isE c=true
  case neg =>
   have hc1:¬ (c.toNat:Int)=101:=by
    intro hh;rw[decide_eq_true (by exact hh)] at e1
    exact hc (by simp[isE,(by simpa using e1.symm:c=101)])
   have hc2:¬ (c.toNat:Int)=69:=by
    intro hh;rw[decide_eq_true (by exact hh)] at e2
    exact hc (by simp[isE,(by simpa using e2.symm:c=69)])
   simp(disch:=omega) only[ir276,hne,hp,hc1,hc2,go_sem]
   have hcf:isE c=false:=by simpa using hc
   exact hQ _ _ _ _ nofun rfl (by simp[zd,ze,AV.strip,AV.strip1,zek,hcf])
  have fin:∀ k:Nat,Zk (r.drop (sgN r))=k→zek (c::r)=if k=0 then 0 else 1+sgN r+k:=fun k hk=>by subst hk;simp only[zek,hc,if_true]
  have hcase:(c.toNat:Int)=101∨(¬ (c.toNat:Int)=101∧(c.toNat:Int)=69):=by
   simp only[isE,zhr,y0] at hc
   rcases hc with rfl|rfl
   ·exact .inl rfl
   ·exact .inr ⟨by decide,rfl⟩
  have hdl:=zbo (r.drop (sgN r))
  rw[zdX] at hdl
  have hsl:=zoo r
  cases r with
  | nil =>
   have k0:=fin 0 (by simp[sgN,Zk])
   rcases hcase with h1|⟨h1,h2⟩
   ·simp(disch:=omega) only[ir276,h1,go_sem]
    refine za (YL [] (by simp)) ?_
    simp(disch:=omega) only[Zk,go_sem]
    exact hQ _ _ _ _ nofun rfl (by simp[zd,ze,AV.strip,AV.strip1,k0])
   ·simp(disch:=omega) only[ir276,h1,h2,go_sem]
    refine za (YL [] (by simp)) ?_
    simp(disch:=omega) only[Zk,go_sem]
    exact hQ _ _ _ _ nofun rfl (by simp[zd,ze,AV.strip,AV.strip1,k0])
  | cons d t =>
   simp only[Al2] at hs
   have hl1:(1:Int)<((t.length+1+1:Nat):Int):=by omega
   have hl2:(2:Int)≤((t.length+1+1:Nat):Int):=by omega
   have hl3:(1:Int)≤((t.length+1+1:Nat):Int):=by omega
   have f1:=zhO d 43 (by omega)
   have f2:=zhO d 45 (by omega)
   by_cases hsg:d=43∨d=45
   ·have hsg1:sgN (d::t)=1:=by simp only[sgN,List.head?_cons,Al1,hsg,if_true]
    have k0:=fin (Zk t) (by rw[hsg1];rfl)
    rw[hsg1] at k0 hdl
    have hd:(d.toNat:Int)=43∨(¬ (d.toNat:Int)=43∧(d.toNat:Int)=45):=by
     rcases hsg with rfl|rfl
     ·exact .inl rfl
     ·exact .inr ⟨by decide,rfl⟩
    rcases hcase with h1|⟨h1,h2⟩<;>rcases hd with h3|⟨h3,h4⟩
    all_goals
     simp only[hl1,hl2,Al2,List.drop_succ_cons,List.drop_zero] at hdl
    ·simp(disch:=omega) only[ir276,h1,h3,hl1,hl2,Int.toNat_one,go_sem]
     refine za (YL t (by simp only[Lim];omega)) ?_
     by_cases hz:Zk t=0
     ·simp(disch:=omega) only[hz,go_sem]
      exact hQ _ _ _ _ nofun rfl (by simp[zd,ze,AV.strip,AV.strip1,k0,hz])
     ·have hz':¬ (Zk t:Int)=0:=by omega
      simp(disch:=omega) only[hz',wrap64,go_sem]
      exact hQ _ _ _ _ nofun rfl (by simp[zd,ze,AV.strip,AV.strip1,k0,hz])
    ·simp(disch:=omega) only[ir276,h1,h3,h4,hl1,hl2,Int.toNat_one,go_sem]
     refine za (YL t (by simp only[Lim];omega)) ?_
     by_cases hz:Zk t=0
     ·simp(disch:=omega) only[hz,go_sem]
      exact hQ _ _ _ _ nofun rfl (by simp[zd,ze,AV.strip,AV.strip1,k0,hz])
     ·have hz':¬ (Zk t:Int)=0:=by omega
      simp(disch:=omega) only[hz',wrap64,go_sem]
      exact hQ _ _ _ _ nofun rfl (by simp[zd,ze,AV.strip,AV.strip1,k0,hz])
    ·simp(disch:=omega) only[ir276,h1,h2,h3,hl1,hl2,Int.toNat_one,go_sem]
     refine za (YL t (by simp only[Lim];omega)) ?_
     by_cases hz:Zk t=0
     ·simp(disch:=omega) only[hz,go_sem]
      exact hQ _ _ _ _ nofun rfl (by simp[zd,ze,AV.strip,AV.strip1,k0,hz])
     ·have hz':¬ (Zk t:Int)=0:=by omega
      simp(disch:=omega) only[hz',wrap64,go_sem]
      exact hQ _ _ _ _ nofun rfl (by simp[zd,ze,AV.strip,AV.strip1,k0,hz])
    ·simp(disch:=omega) only[ir276,h1,h2,h3,h4,hl1,hl2,Int.toNat_one,go_sem]
     refine za (YL t (by simp only[Lim];omega)) ?_
     by_cases hz:Zk t=0
     ·simp(disch:=omega) only[hz,go_sem]
      exact hQ _ _ _ _ nofun rfl (by simp[zd,ze,AV.strip,AV.strip1,k0,hz])
     ·have hz':¬ (Zk t:Int)=0:=by omega
      simp(disch:=omega) only[hz',wrap64,go_sem]
      exact hQ _ _ _ _ nofun rfl (by simp[zd,ze,AV.strip,AV.strip1,k0,hz])
   ·have hsg0:sgN (d::t)=0:=by simp only[sgN,List.head?_cons,Al1,hsg,if_false]
    have k0:=fin (Zk (d::t)) (by rw[hsg0];rfl)
    rw[hsg0] at k0 hdl
    have h3:¬ (d.toNat:Int)=43:=by
     intro hh;rw[decide_eq_true (by exact hh)] at f1
     exact hsg (.inl (by simpa using f1.symm))
    have h4:¬ (d.toNat:Int)=45:=by
     intro hh;rw[decide_eq_true (by exact hh)] at f2
     exact hsg (.inr (by simpa using f2.symm))
    simp only[List.drop_zero,Al2] at hdl
    rcases hcase with h1|⟨h1,h2⟩
    ·simp(disch:=omega) only[ir276,h1,h3,h4,hl1,hl3,Int.toNat_one,go_sem]
     refine za (YL (d::t) (by simp only[Lim,Al2];omega)) ?_
     by_cases hz:Zk (d::t)=0
     ·simp(disch:=omega) only[hz,go_sem]
      exact hQ _ _ _ _ nofun rfl (by simp[zd,ze,AV.strip,AV.strip1,k0,hz])
     ·have hz':¬ (Zk (d::t):Int)=0:=by omega
      simp(disch:=omega) only[hz',wrap64,go_sem]
      exact hQ _ _ _ _ nofun rfl (by simp[zd,ze,AV.strip,AV.strip1,k0,hz])
    ·simp(disch:=omega) only[ir276,h1,h2,h3,h4,hl1,hl3,Int.toNat_one,go_sem]
     refine za (YL (d::t) (by simp only[Lim,Al2];omega)) ?_
     by_cases hz:Zk (d::t)=0
     ·simp(disch:=omega) only[hz,go_sem]
      exact hQ _ _ _ _ nofun rfl (by simp[zd,ze,AV.strip,AV.strip1,k0,hz])
     ·have hz':¬ (Zk (d::t):Int)=0:=by omega
      simp(disch:=omega) only[hz',wrap64,go_sem]
      exact hQ _ _ _ _ nofun rfl (by simp[zd,ze,AV.strip,AV.strip1,k0,hz])
def zc7 (r:List UInt8):Nat:=if r.head?=some 46∧0<Zk r.tail then 1+Zk r.tail else 0
def zhs (s:List UInt8):Nat×Int :=
 if ZB s=0 then (0,0) else
  (ZB s+zc7 (s.drop (ZB s))+zek (s.drop (ZB s+zc7 (s.drop (ZB s)))),if zc7 (s.drop (ZB s))=0∧zek (s.drop (ZB s+zc7 (s.drop (ZB s))))=0 then 3 else 4)
theorem zrZ (s:List UInt8) (hs:s.length≤Lim):zi Tryz.prog 269 [.str s] (.tup [.int .i64 (zhs s).1,.int .i64 (zhs s).2]):=by
 refine zi.go ir269 ck269 (Al4 _) fun KP Q hQ=>?_
 have hs':=hs
 simp only[Lim] at hs
 simp(disch:=omega) only[ir269,go_sem]
 refine za (zs4 s hs') ?_
 have hw:=znX s
 by_cases h0:ZB s=0
 ·simp(disch:=omega) only[h0,go_sem]
  exact hQ _ _ _ _ nofun rfl (by simp[zd,ze,AV.strip,AV.strip1,zhs,h0])
 have h0':¬ ((ZB s:Int)=0):=by omega
 have hwl:(ZB s:Int)≤s.length:=by omega
 simp(disch:=omega) only[h0',hwl,go_sem]
 refine za (ziF (s.drop (ZB s)) [46]) ?_
 rw[zmp]
 generalize hn:ZB s=n at *
 have fin:∀ f p:Nat,zc7 (s.drop n)=f→zek (s.drop (n+f))=p→zhs s=(n+f+p,if f=0∧p=0 then 3 else 4):=fun f p hf hp=>by
  unfold zhs
  rw[hn,hf,hp]
  simp only[h0,if_false]
 have hpl:=zl4 (s.drop n)
 rw[zdX] at hpl
 by_cases h46:(s.drop n).head?=some 46
 ·obtain⟨c,t,hct⟩:∃ c t,s.drop n=c::t:=by
   cases hx:s.drop n with
   | nil=>rw[hx] at h46;simp at h46
   | cons c t=>exact⟨c,t,rfl⟩
  have hlen:s.length=n+1+t.length:=by have:=congrArg List.length hct;simp at this;omega
  have hdr:s.drop (n+1)=t:=by rw[← List.drop_drop,hct];rfl
  have hto:((n:Int)+1).toNat=n+1:=by omega
  have hn1:(0:Int)≤(n:Int)+1:=by omega
  have hn2:(n:Int)+1≤s.length:=by omega
  have hrl:=zbo t
  simp(disch:=omega) only[h46,wrap64,hto,hn1,hn2,hdr,go_sem]
  refine za (YL t (by simp only[Lim];omega)) ?_
  by_cases hk:(0:Int)<Zk t
  ·have hk':0<Zk t:=by omega
   have hfr:zc7 (s.drop n)=1+Zk t:=by unfold zc7;rw[if_pos ⟨h46,by rw[hct];exact hk'⟩,hct];rfl
   have hto2:((n:Int)+1+Zk t).toNat=n+(1+Zk t):=by omega
   have hn3:(0:Int)≤(n:Int)+1+Zk t:=by omega
   have hn4:(n:Int)+1+Zk t≤s.length:=by omega
   have hpl2:=zl4 (s.drop (n+(1+Zk t)))
   rw[zdX] at hpl2
   simp(disch:=omega) only[hk,wrap64,hto2,hn3,hn4,go_sem]
   refine za (zls (s.drop (n+(1+Zk t))) (by rw[zdX];simp only[Lim];omega)) ?_
   have hf:=fin _ _ hfr rfl
   generalize hp:zek (s.drop (n+(1+Zk t)))=p at *
   by_cases hp0:(0:Int)<p
   ·simp(disch:=omega) only[hp0,wrap64,go_sem]
    exact hQ _ _ _ _ nofun rfl (by simp[zd,ze,AV.strip,AV.strip1,hf,Int.add_assoc])
   ·have hp00:p=0:=by omega
    subst hp00
    simp(disch:=omega) only[go_sem]
    exact hQ _ _ _ _ nofun rfl (by simp[zd,ze,AV.strip,AV.strip1,hf,Int.add_assoc])
  ·have hk0:Zk t=0:=by omega
   have hfr:zc7 (s.drop n)=0:=by unfold zc7;exact if_neg fun hh=>by have:=hh.2;rw[hct] at this;simp only[List.tail_cons] at this;omega
   simp(disch:=omega) only[hk,hwl,go_sem]
   refine za (zls (s.drop n) (by rw[zdX];simp only[Lim];omega)) ?_
   have hf:=fin _ _ hfr rfl
   rw[Nat.add_zero] at hf
   generalize hp:zek (s.drop n)=p at *
   by_cases hp0:(0:Int)<p
   ·have hp1:¬ p=0:=by omega
    simp(disch:=omega) only[hp0,wrap64,go_sem]
    exact hQ _ _ _ _ nofun rfl (by simp[zd,ze,AV.strip,AV.strip1,hf,hp1])
   ·have hp00:p=0:=by omega
    subst hp00
    simp(disch:=omega) only[go_sem]
    exact hQ _ _ _ _ nofun rfl (by simp[zd,ze,AV.strip,AV.strip1,hf])
 ·have hfr:zc7 (s.drop n)=0:=by unfold zc7;exact if_neg fun hh=>h46 hh.1
  simp(disch:=omega) only[h46,hwl,go_sem]
  refine za (zls (s.drop n) (by rw[zdX];simp only[Lim];omega)) ?_
  have hf:=fin _ _ hfr rfl
  rw[Nat.add_zero] at hf
  generalize hp:zek (s.drop n)=p at *
  by_cases hp0:(0:Int)<p
  ·have hp1:¬ p=0:=by omega
   simp(disch:=omega) only[hp0,wrap64,go_sem]
   exact hQ _ _ _ _ nofun rfl (by simp[zd,ze,AV.strip,AV.strip1,hf,hp1])
  ·have hp00:p=0:=by omega
   subst hp00
   simp(disch:=omega) only[go_sem]
   exact hQ _ _ _ _ nofun rfl (by simp[zd,ze,AV.strip,AV.strip1,hf])
def zhA (s:List UInt8):Int:=if (zhs s).1=s.length then (zhs s).2 else 0
theorem ziZ (s:List UInt8) (hs:s.length≤Lim):zi Tryz.prog 259 [.str s] (.int .i64 (zhA s)):=by
 refine zi.go ir259 ck259 (Al4 _) fun KP Q hQ=>?_
 simp(disch:=omega) only[ir259,go_sem]
 refine za (zrZ s hs) ?_
 by_cases h:(zhs s).1=s.length
 ·have h':(((zhs s).1:Int)=s.length)=True:=eq_true (by omega)
  simp(disch:=omega) only[h',go_sem]
  exact hQ _ _ _ _ nofun rfl (by simp[zd,ze,AV.strip,AV.strip1,zhA,h])
 ·have h':¬ ((zhs s).1:Int)=s.length:=by omega
  simp(disch:=omega) only[h',go_sem]
  exact hQ _ _ _ _ nofun rfl (by simp[zd,ze,AV.strip,AV.strip1,zhA,h])
def okI:Lib.NumEnd Int→Bool
 | .ok _=>true
 | _=>false
def zrw (s:List UInt8):Int:=match Lib.parseIntB 64 s with
 | .ok v=>v
 | Lib.NumEnd.syntax=>0
 | .range=>Lib.intSat 64 s
def zgB (s:List UInt8):Bool:=okI (Lib.parseIntB 64 s)&&decide (zhA s=3)
theorem zs5 (s:List UInt8) (hs:s.length≤Lim):zi Tryz.prog 260 [.str s] (.tup [.int .i64 (zrw s),.bool (zgB s)]):=by
 refine zi.go ir260 ck260 (Al4 _) fun KP Q hQ=>?_
 simp(disch:=omega) only[ir260,go_sem]
 refine za (zn3 s (by simp only[Lim] at hs;omega)) ?_
 rcases hp:Lib.parseIntB 64 s with v|_|_
 ·simp(disch:=omega) only[zgM,hp,go_sem]
  refine za (ziZ s hs) ?_
  simp(disch:=omega) only[go_sem]
  exact hQ _ _ _ _ nofun rfl (by simp[zd,ze,AV.strip,AV.strip1,zrw,zgB,hp,okI])
 ·simp(disch:=omega) only[zgM,hp,go_sem]
  exact hQ _ _ _ _ nofun rfl (by simp[zd,ze,AV.strip,AV.strip1,zrw,zgB,hp,okI])
 ·simp(disch:=omega) only[zgM,hp,go_sem]
  exact hQ _ _ _ _ nofun rfl (by simp[zd,ze,AV.strip,AV.strip1,zrw,zgB,hp,okI])
def znJ (s:List UInt8):Bool:=decide (zhA s=4)||(decide (zhA s=3)&&!zgB s)
theorem zvy (s:List UInt8) (hs:s.length≤Lim):zi Tryz.prog 247 [.str s] (.bool (znJ s)):=by
 refine zi.go ir247 ck247 (Al4 _) fun KP Q hQ=>?_
 simp(disch:=omega) only[ir247,go_sem]
 refine za (ziZ s hs) ?_
 simp(disch:=omega) only[go_sem]
 refine za (zs5 s hs) ?_
 by_cases h4:zhA s=4
 ·simp(disch:=omega) only[h4,go_sem]
  exact hQ _ _ _ _ nofun rfl (by simp[zd,ze,AV.strip,AV.strip1,znJ,h4])
 ·by_cases h3:zhA s=3
  ·simp(disch:=omega) only[h4,h3,go_sem]
   exact hQ _ _ _ _ nofun rfl (by simp[zd,ze,AV.strip,AV.strip1,znJ,h4,h3])
  ·simp(disch:=omega) only[h4,h3,go_sem]
   exact hQ _ _ _ _ nofun rfl (by simp[zd,ze,AV.strip,AV.strip1,znJ,h4,h3])
def zn5 (s:List UInt8):Bool:=decide (s=[116,114,117,101])||(decide (s=[102,97,108,115,101])||decide (s=[110,117,108,108]))
theorem zvO (s:List UInt8):zi Tryz.prog 248 [.str s] (.bool (zn5 s)):=by
 refine zi.go ir248 ck248 (Al4 _) fun KP Q hQ=>?_
 by_cases h1:s=[116,114,117,101]
 ·simp(disch:=omega) only[ir248,h1,go_sem]
  exact hQ _ _ _ _ nofun rfl (by simp[zd,ze,AV.strip,AV.strip1,zn5,h1])
 ·by_cases h2:s=[102,97,108,115,101]
  ·subst h2
   have h3:¬ ([102,97,108,115,101]:List UInt8)=[116,114,117,101]:=by decide
   simp(disch:=omega) only[ir248,h3,go_sem]
   exact hQ _ _ _ _ nofun rfl (by simp[zd,ze,AV.strip,AV.strip1,zn5,h3])
  ·simp(disch:=omega) only[ir248,h1,h2,go_sem]
   exact hQ _ _ _ _ nofun rfl (by simp[zd,ze,AV.strip,AV.strip1,zn5,h1,h2])
theorem zsS (s:List UInt8) (hs:s.length≤Lim):zi Tryz.prog 203 [.str s] (.bool (Lib.validD s)):=by
 refine zi.go ir203 ck203 (Al4 _) fun KP Q hQ=>?_
 simp(disch:=omega) only[ir203,go_sem]
 refine za (ztp s (by simp only[Lim] at hs;omega)) ?_
 simp(disch:=omega) only[go_sem]
 exact hQ _ _ _ _ nofun rfl (by simp[zd,ze,AV.strip,AV.strip1])
def zcG (n:Int) (s:List UInt8) (l:List Val) (m:List Mem):Bool:=decide (n=0)&&(decide (s=[])&&(decide (l.length=0)&&decide (m.length=0)))
theorem zo6 (k n:Int) (s:List UInt8) (l:List Val) (m:List Mem):zi Tryz.prog 229 [.agg (cV (.mk k n s l m))] (.bool (zcG n s l m)):=by
 refine zi.go ir229 ck229 (Al4 _) fun KP Q hQ=>?_
 have h1:=Ys l
 have h2:=yY m
 by_cases g1:n=0
 case neg =>
  simp(disch:=omega) only[ir229,yh,g1,go_sem]
  exact hQ _ _ _ _ nofun rfl (by simp[zd,ze,AV.strip,AV.strip1,zcG,g1])
 by_cases g2:s=[]
 case neg =>
  simp(disch:=omega) only[ir229,yh,g1,g2,go_sem]
  exact hQ _ _ _ _ nofun rfl (by simp[zd,ze,AV.strip,AV.strip1,zcG,g2])
 by_cases g3:l.length=0
 case neg =>
  simp(disch:=omega) only[ir229,yh,g1,g2,h1,g3,go_sem]
  exact hQ _ _ _ _ nofun rfl (by simp[zd,ze,AV.strip,AV.strip1,zcG,g3])
 have e:decide ((m.length:Int)=0)=decide (m.length=0):=by rw[decide_eq_decide];omega
 simp(disch:=omega) only[ir229,yh,g1,g2,h1,h2,g3,go_sem]
 exact hQ _ _ _ _ nofun rfl (by simp[zd,ze,AV.strip,AV.strip1,zcG,g1,g2,g3,e])
def Zj (k n:Int) (s:List UInt8) (l:List Val) (m:List Mem):Bool :=
 zcG 0 [] l m&&(if k=0 then decide (n=0)&&decide (s=[]) else if k=1 then (decide (n=0)||decide (n=1))&&decide (s=[]) else if k=2 then decide (s=[])
  else if k=3 then decide (n=0)&&znJ s else if k=4 then decide (n=0)&&Lib.validD s else if k=5 then decide (n=0)&&(zP s&&!zn5 s) else if k=8 then decide (n=0)&&zP s else false)
theorem zrt (k n:Int) (s:List UInt8) (l:List Val) (m:List Mem) (hs:s.length≤Lim):zi Tryz.prog 228 [.agg (cV (.mk k n s l m))] (.bool (Zj k n s l m)):=by
 refine zi.go ir228 ck228 (Al4 _) fun KP Q hQ=>?_
 simp(disch:=omega) only[ir228,yh,go_sem]
 refine zb fun b hb=>?_
 simp(disch:=omega) only[go_sem]
 refine za (zo6 k 0 [] l m) ?_
 cases hb:zcG 0 [] l m with
 | false =>
  simp(disch:=omega) only[hb,go_sem]
  exact hQ _ _ _ _ nofun rfl (by simp[zd,ze,AV.strip,AV.strip1,Zj,hb])
 | true =>
  by_cases k0:k=0
  ·by_cases n0:n=0
   ·simp(disch:=omega) only[hb,k0,n0,go_sem]
    exact hQ _ _ _ _ nofun rfl (by simp[zd,ze,AV.strip,AV.strip1,Zj,hb,k0,n0])
   ·simp(disch:=omega) only[hb,k0,n0,go_sem]
    exact hQ _ _ _ _ nofun rfl (by simp[zd,ze,AV.strip,AV.strip1,Zj,hb,k0,n0])
  by_cases k1:k=1
  ·by_cases n0:n=0
   ·simp(disch:=omega) only[hb,k0,k1,n0,go_sem]
    exact hQ _ _ _ _ nofun rfl (by simp[zd,ze,AV.strip,AV.strip1,Zj,hb,k1,n0])
   ·by_cases n1:n=1
    ·simp(disch:=omega) only[hb,k0,k1,n0,n1,go_sem]
     exact hQ _ _ _ _ nofun rfl (by simp[zd,ze,AV.strip,AV.strip1,Zj,hb,k1,n1])
    ·simp(disch:=omega) only[hb,k0,k1,n0,n1,go_sem]
     exact hQ _ _ _ _ nofun rfl (by simp[zd,ze,AV.strip,AV.strip1,Zj,hb,k1,n0,n1])
  by_cases k2:k=2
  ·simp(disch:=omega) only[hb,k0,k1,k2,go_sem]
   exact hQ _ _ _ _ nofun rfl (by simp[zd,ze,AV.strip,AV.strip1,Zj,hb,k2])
  by_cases k3:k=3
  ·by_cases n0:n=0
   ·simp(disch:=omega) only[hb,k0,k1,k2,k3,n0,go_sem]
    refine za (zvy s hs) ?_
    simp(disch:=omega) only[go_sem]
    exact hQ _ _ _ _ nofun rfl (by simp[zd,ze,AV.strip,AV.strip1,Zj,hb,k3,n0])
   ·simp(disch:=omega) only[hb,k0,k1,k2,k3,n0,go_sem]
    exact hQ _ _ _ _ nofun rfl (by simp[zd,ze,AV.strip,AV.strip1,Zj,hb,k3,n0])
  by_cases k4:k=4
  ·by_cases n0:n=0
   ·simp(disch:=omega) only[hb,k0,k1,k2,k3,k4,n0,go_sem]
    refine za (zsS s hs) ?_
    simp(disch:=omega) only[go_sem]
    exact hQ _ _ _ _ nofun rfl (by simp[zd,ze,AV.strip,AV.strip1,Zj,hb,k4,n0])
   ·simp(disch:=omega) only[hb,k0,k1,k2,k3,k4,n0,go_sem]
    exact hQ _ _ _ _ nofun rfl (by simp[zd,ze,AV.strip,AV.strip1,Zj,hb,k4,n0])
  by_cases k5:k=5
  ·by_cases n0:n=0
   ·simp(disch:=omega) only[hb,k0,k1,k2,k3,k4,k5,n0,go_sem]
    refine za (zh5 s hs) ?_
    cases hn:zP s with
    | true =>
     simp(disch:=omega) only[hn,go_sem]
     refine za (zvO s) ?_
     simp(disch:=omega) only[go_sem]
     exact hQ _ _ _ _ nofun rfl (by simp[zd,ze,AV.strip,AV.strip1,Zj,hb,k5,n0,hn])
    | false =>
     simp(disch:=omega) only[hn,go_sem]
     exact hQ _ _ _ _ nofun rfl (by simp[zd,ze,AV.strip,AV.strip1,Zj,hb,k5,n0,hn])
   ·simp(disch:=omega) only[hb,k0,k1,k2,k3,k4,k5,n0,go_sem]
    exact hQ _ _ _ _ nofun rfl (by simp[zd,ze,AV.strip,AV.strip1,Zj,hb,k5,n0])
  by_cases k8:k=8
  ·by_cases n0:n=0
   ·simp(disch:=omega) only[hb,k0,k1,k2,k3,k4,k5,k8,n0,go_sem]
    refine za (zh5 s hs) ?_
    simp(disch:=omega) only[go_sem]
    exact hQ _ _ _ _ nofun rfl (by simp[zd,ze,AV.strip,AV.strip1,Zj,hb,k8,n0])
   ·simp(disch:=omega) only[hb,k0,k1,k2,k3,k4,k5,k8,n0,go_sem]
    exact hQ _ _ _ _ nofun rfl (by simp[zd,ze,AV.strip,AV.strip1,Zj,hb,k8,n0])
  ·simp(disch:=omega) only[hb,k0,k1,k2,k3,k4,k5,k8,go_sem]
   exact hQ _ _ _ _ nofun rfl (by simp[zd,ze,AV.strip,AV.strip1,Zj,hb,k0,k1,k2,k3,k4,k5,k8])
mutual
def zdA (may:List UInt8→Bool):Val→Bool
 | .mk k n s l m=>if k=6 then zgp may l&&zcG n s [] m else if k=7 then zgE may m&&zcG n s l [] else Zj k n s l m
def zgp (may:List UInt8→Bool):List Val→Bool
 | []=>true
 | v::r=>zdA may v&&zgp may r
def zu2 (may:List UInt8→Bool):Mem→Bool
 | .mk s v=>may s&&zdA may v
def zgE (may:List UInt8→Bool):List Mem→Bool
 | []=>true
 | x::r=>zu2 may x&&zgE may r
end
theorem zuM (f:FuncId) (hf:Program.callable Tryz.prog f=true) (may:List UInt8→Bool) (hmay:∀ s:List UInt8,s.length≤Lim→zi Tryz.prog f [.str s] (.bool (may s))) :
  ∀ v,bV v≤Lim→zi Tryz.prog 202 [.agg (cV v),.clo f [] []] (.bool (zdA may v)):=by
 refine Val.ind fun k n s l m ihl ihm hb=>?_
 have hb':1+s.length+bVs l+bMs m≤Lim:=hb
 have hll:=zaq l
 have hml:=y5 m
 have h1:=Ys l
 have h2:=yY m
 simp only[Lim] at hb'
 refine zi.go ir202 ck202 (Al4 _) fun KP Q hQ=>?_
 simp(disch:=omega) only[ir202,yh,go_sem]
 refine zb fun b hb=>?_
 by_cases k6:k=6
 ·subst k6
  simp(disch:=omega) only[h1,go_sem]
  refine zf l 22 (fun _:Unit=>[(6,.bool true)]) (fun done rest _ H=>zgp may rest=zgp may l∧H b=some (.cells [.int .i64 6,.int .i64 n,.str s,.sl .nil 5 [],.sl .no 6 (cMs m)])) () (by simp(disch:=omega) only[go_sem]) ⟨rfl,by simp[zc.upd]⟩ ?_ ?_
  ·rintro _ H J ⟨hn,hH⟩ hlt
   simp only[zgp] at hn
   simp(disch:=omega) only[h1,hlt,hH,go_sem]
   refine za (zi.low (zo6 6 n s [] m)) ?_
   simp(disch:=omega) only[go_sem]
   exact hQ _ _ _ _ nofun rfl (by simp[zd,ze,AV.strip,AV.strip1,zdA,← hn])
  ·rintro done x rest _ H J hd hlt _ ⟨hn,hH⟩ hJ
   have hg:=zao hd
   have hbm:=zeg done x rest
   rw[← hd] at hbm
   simp only[zgp] at hn
   simp(disch:=omega) only[zp,zl,zh,zo,zm,zg,zr,h1,hlt,hg,go_sem]
   refine zb fun b2 hb2=>?_
   have hne:=zdR hb2 hH
   simp(disch:=omega) only[zp,zl,zh,zo,zm,zg,zr,go_sem]
   refine za (ihl x (by rw[hd];simp) (by simp only[Lim];omega)) ?_
   cases hx:zdA may x with
   | true =>
    simp only[hx,Bool.true_and] at hn
    simp(disch:=omega) only[hx,go_sem]
    exact goJ (hJ () _ ⟨hn,by simp[zc.upd,Ne.symm hne,hH]⟩) (by simp(disch:=omega) only[wrap64,go_sem])
   | false =>
    simp only[hx,Bool.false_and] at hn
    simp(disch:=omega) only[hx,go_sem]
    exact hQ _ _ _ _ nofun rfl (by simp[zd,ze,AV.strip,AV.strip1,zdA,← hn])
 by_cases k7:k=7
 ·subst k7
  simp(disch:=omega) only[h2,go_sem]
  refine zf m 38 (fun _:Unit=>[(6,.bool true)]) (fun done rest _ H=>zgE may rest=zgE may m∧H b=some (.cells [.int .i64 7,.int .i64 n,.str s,.sl .no 5 (cVs l),.sl .nil 6 []])) () (by simp(disch:=omega) only[go_sem]) ⟨rfl,by simp[zc.upd]⟩ ?_ ?_
  ·rintro _ H J ⟨hn,hH⟩ hlt
   simp only[zgE] at hn
   simp(disch:=omega) only[h2,hlt,hH,go_sem]
   refine za (zi.low (zo6 7 n s l [])) ?_
   simp(disch:=omega) only[go_sem]
   exact hQ _ _ _ _ nofun rfl (by simp[zd,ze,AV.strip,AV.strip1,zdA,← hn])
  ·rintro done x rest _ H J hd hlt _ ⟨hn,hH⟩ hJ
   have hg:=Zr hd
   have hbm:=Yx done x rest
   rw[← hd] at hbm
   have hmem:x∈m:=by rw[hd];simp
   obtain⟨t,v⟩:=x
   simp only[zgE,zu2,bM] at hn hbm
   simp(disch:=omega) only[zp,zl,zh,zo,zm,zg,zr,h2,hlt,hg,go_sem]
   refine zb fun b2 hb2=>?_
   have hne:=zdR hb2 hH
   simp(disch:=omega) only[zp,zl,zh,zo,zm,zg,zr,go_sem]
   refine⟨hf,za (hmay t (by simp only[Lim];omega)) ?_⟩
   cases ht:may t with
   | true =>
    simp(disch:=omega) only[zp,zl,zh,zo,zm,zg,zr,ht,go_sem]
    refine za (ihm t v hmem (by simp only[Lim];omega)) ?_
    cases hx:zdA may v with
    | true =>
     simp only[ht,hx,Bool.true_and] at hn
     simp(disch:=omega) only[hx,go_sem]
     exact goJ (hJ () _ ⟨hn,by simp[zc.upd,Ne.symm hne,hH]⟩) (by simp(disch:=omega) only[wrap64,go_sem])
    | false =>
     simp only[ht,hx,Bool.true_and,Bool.false_and] at hn
     simp(disch:=omega) only[hx,go_sem]
     exact hQ _ _ _ _ nofun rfl (by simp[zd,ze,AV.strip,AV.strip1,zdA,← hn])
   | false =>
    simp only[ht,Bool.false_and] at hn
    simp(disch:=omega) only[zp,zl,zh,zo,zm,zg,zr,ht,go_sem]
    exact hQ _ _ _ _ nofun rfl (by simp[zd,ze,AV.strip,AV.strip1,zdA,← hn])
 ·simp(disch:=omega) only[k6,k7,go_sem]
  refine za (zrt k n s l m (by simp only[Lim];omega)) ?_
  simp(disch:=omega) only[go_sem]
  exact hQ _ _ _ _ nofun rfl (by simp[zd,ze,AV.strip,AV.strip1,zdA,k6,k7])
def zmc (v:Val):Bool:=zdA Lib.validD v
theorem zt8 (v:Val) (hb:bV v≤Lim):zi Tryz.prog 148 [.agg (cV v)] (.bool (zmc v)):=by
 refine zi.go ir148 ck148 (Al4 _) fun KP Q hQ=>?_
 simp(disch:=omega) only[zp,zl,zh,zo,zm,zg,zr,ir148,go_sem]
 refine za (zuM _ (by kernel_rfl) Lib.validD zsS v hb) ?_
 simp(disch:=omega) only[go_sem]
 exact hQ _ _ _ _ nofun rfl (by simp[zd,ze,AV.strip,AV.strip1,zmc])
def zaN (v:Val):Bool:=zdA zP v&&decide (ZA v≤16)
theorem zr1 (v:Val) (hb:bV v≤Lim):zi Tryz.prog 255 [.agg (cV v)] (.bool (zaN v)):=by
 refine zi.go ir255 ck255 (Al4 _) fun KP Q hQ=>?_
 simp(disch:=omega) only[zp,zl,zh,zo,zm,zg,zr,ir255,go_sem]
 refine za (zuM _ (by kernel_rfl) zP zh5 v hb) ?_
 cases h:zdA zP v with
 | true =>
  simp(disch:=omega) only[zp,zl,zh,zo,zm,zg,zr,h,go_sem]
  refine za (zdV v hb) ?_
  simp(disch:=omega) only[go_sem]
  exact hQ _ _ _ _ nofun rfl (by simp[zd,ze,AV.strip,AV.strip1,zaN,h])
 | false =>
  simp(disch:=omega) only[h,go_sem]
  exact hQ _ _ _ _ nofun rfl (by simp[zd,ze,AV.strip,AV.strip1,zaN,h])
theorem zkk (s:List UInt8):zi Tryz.prog 264 [.str s] (.agg (cK ⟨2,s⟩)):=by
 refine zi.go ir264 ck264 (Al4 _) fun KP Q hQ=>?_
 simp(disch:=omega) only[ir264,go_sem]
 refine zb fun b hb=>?_
 simp(disch:=omega) only[go_sem]
 exact hQ _ _ _ [.agg [.int .i64 2,.str s]] nofun (by simp(disch:=omega) only[ir264,zL,Zt,go_sem]) rfl
theorem zfy (s:List UInt8):zi Tryz.prog 267 [.str s] (.agg (cK ⟨1,s⟩)):=by
 refine zi.go ir267 ck267 (Al4 _) fun KP Q hQ=>?_
 simp(disch:=omega) only[ir267,go_sem]
 refine zb fun b hb=>?_
 simp(disch:=omega) only[go_sem]
 exact hQ _ _ _ [.agg [.int .i64 1,.str s]] nofun (by simp(disch:=omega) only[ir267,zL,Zt,go_sem]) rfl
def boolT (b:Bool):List UInt8:=if b then [116,114,117,101] else [102,97,108,115,101]
theorem zpN (b:Bool):zi Tryz.prog 271 [.bool b] (.str (boolT b)):=by
 refine zi.go ir271 ck271 (Al4 _) fun KP Q hQ=>?_
 cases b
 ·simp(disch:=omega) only[ir271,go_sem]
  exact hQ _ _ _ _ nofun rfl (by simp[zd,ze,AV.strip,AV.strip1,boolT])
 ·simp(disch:=omega) only[ir271,go_sem]
  exact hQ _ _ _ _ nofun rfl (by simp[zd,ze,AV.strip,AV.strip1,boolT])
theorem zqO (b:Bool):zi Tryz.prog 265 [.bool b] (.str (boolT b)):=by
 refine zi.go ir265 ck265 (Al4 _) fun KP Q hQ=>?_
 simp(disch:=omega) only[ir265,go_sem]
 refine za (zpN b) ?_
 simp(disch:=omega) only[go_sem]
 exact hQ _ _ _ _ nofun rfl (by simp[zd,ze,AV.strip,AV.strip1])
mutual
def Yo:Val→List Tok
 | .mk k n s l m=>if k=0 then [⟨2,[110,117,108,108]⟩] else if k=1 then [⟨2,boolT (decide (n=1))⟩] else if k=2 then [⟨3,Lib.itoa n⟩] else if k=3 then [⟨zhA s,s⟩] else if k=4 then [⟨5,s⟩]
  else if k=5 then [⟨2,s⟩] else if k=8 then [⟨1,[36]⟩,⟨2,s⟩] else if k=6 then ⟨1,[91]⟩::(zb0 l++[⟨1,[93]⟩]) else ⟨1,[123]⟩::(Yi m++[⟨1,[125]⟩])
def zb0:List Val→List Tok
 | []=>[]
 | v::r=>Yo v++zb0 r
def zkT:Mem→List Tok
 | .mk s v=>⟨2,s⟩::⟨1,[58]⟩::Yo v
def Yi:List Mem→List Tok
 | []=>[]
 | x::r=>zkT x++Yi r
end
mutual
theorem zdt:∀ v,(Yo v).length+2≤4*bV v
 | .mk k n s l m=>by
  have h1:=zgY l
  have h2:=zgT m
  simp only[Yo,bV]
  repeat' split
  all_goals simp only[Al2,Al5,Al3]
  all_goals omega
theorem zgY:∀ l,(zb0 l).length≤4*bVs l
 | []=>by simp[zb0]
 | v::r=>by
  have h1:=zdt v
  have h2:=zgY r
  simp only[zb0,bVs,Al5];omega
theorem zrd:∀ x,(zkT x).length≤4*bM x
 | .mk s v=>by have:=zdt v;simp only[zkT,bM,Al2];omega
theorem zgT:∀ l,(Yi l).length≤4*bMs l
 | []=>by simp[Yi]
 | x::r=>by
  have h1:=zrd x
  have h2:=zgT r
  simp only[Yi,bMs,Al5];omega
end
def inR (n:Int):Prop:=-9223372036854775808≤n∧n≤9223372036854775807
mutual
def wfV:Val→Prop
 | .mk _ n _ l m=>inR n∧zlF l∧zf5 m
def zlF:List Val→Prop
 | []=>True
 | v::r=>wfV v∧zlF r
def wfM:Mem→Prop
 | .mk _ v=>wfV v
def zf5:List Mem→Prop
 | []=>True
 | x::r=>wfM x∧zf5 r
end
theorem zku:∀ {l:List Val},zlF l→∀ v∈l,wfV v
 | _::_,h,v,hv=>(List.mem_cons.1 hv).elim (fun e=>e▸h.1) (zku h.2 v)
theorem zeY:∀ {l:List Mem},zf5 l→∀ s v,Mem.mk s v∈l→wfV v
 | _::_,h,s,v,hv=>(List.mem_cons.1 hv).elim (fun e=>by have:=h.1;rw[← e] at this;exact this) (zeY h.2 s v)
theorem zaU (a:List Tok) (t:Tok):cKs a++[[.int .i64 t.k,.str t.s]]=cKs (a++[t]):=by simp[cKs,cK]
theorem zko (a:List Tok) (t u:Tok):cKs a++[[.int .i64 t.k,.str t.s],[.int .i64 u.k,.str u.s]]=cKs (a++[t,u]):=by simp[cKs,cK]
theorem zqI:∀ v,wfV v→∀ acc H o,acc.length+4*bV v≤Lim→zR H o acc.length 2→zac Tryz.prog 256 [.sl o 2 (cKs acc),.agg (cV v)] H o 2 (cKs (acc++Yo v)):=by
 refine Val.ind fun k n s l m ihl ihm hwf acc H o hb ho=>?_
 obtain⟨hn,hwl,hwm⟩:=hwf
 have hb':acc.length+4*(1+s.length+bVs l+bMs m)≤Lim:=hb
 have hll:=zaq l
 have hml:=y5 m
 have h1:=Ys l
 have h2:=yY m
 have h3:=yy acc
 have hT:=zgY l
 have hM:=zgT m
 simp only[Lim] at hb'
 have hsl:s.length≤Lim:=by simp only[Lim];omega
 refine zk.goO ir256 ck256 (Al4 _) fun KP Q hQ hP=>?_
 have one:∀ t:Tok,Yo (.mk k n s l m)=[t]→∀ o' H',OwnS H o H' o' (acc.length+1) 2→zvr H o 2 (cKs (acc++Yo (.mk k n s l m))) (.sl o' 2 (cKs acc++[[.int .i64 t.k,.str t.s]])) H':=fun t e o' H' hs=>by
  rw[e];exact⟨o',by rw[zaU],by rw[yy];simpa using hs⟩
 have hq1:((cKs acc).length+1)*24≤140737488355328:=by rw[h3];omega
 have hq2:(cKs acc).length+1≤maxLen:=by rw[h3];simp only[maxLen];omega
 have hq3:((cKs acc).length+2)*24≤140737488355328:=by rw[h3];omega
 have hq4:(cKs acc).length+2≤maxLen:=by rw[h3];simp only[maxLen];omega
 have ho':zR H o (cKs acc).length 2:=by rw[h3];exact ho
 by_cases k0:k=0
 ·subst k0
  simp(disch:=omega) only[ir256,yh,go_sem]
  refine za (zkk _) ?_
  simp(disch:=omega) only[cK,go_sem]
  refine zt ho' hq1 hq2 fun o' H' hs=>?_
  simp(disch:=omega) only[go_sem]
  exact hQ _ _ H' H' [_] nofun rfl (Low.refl _) (one ⟨2,[110,117,108,108]⟩ (by simp[Yo]) o' H' (by simpa[h3] using hs))
 by_cases k1:k=1
 ·subst k1
  simp(disch:=omega) only[ir256,yh,go_sem]
  refine za (zqO _) ?_
  simp(disch:=omega) only[go_sem]
  refine za (zkk _) ?_
  simp(disch:=omega) only[cK,go_sem]
  refine zt ho' hq1 hq2 fun o' H' hs=>?_
  simp(disch:=omega) only[go_sem]
  exact hQ _ _ H' H' [_] nofun rfl (Low.refl _) (one ⟨2,boolT (decide (n=1))⟩ (by simp[Yo]) o' H' (by simpa[h3] using hs))
 by_cases k2:k=2
 ·subst k2
  simp(disch:=omega) only[ir256,yh,go_sem]
  refine za (zlb n hn.1 hn.2) ?_
  simp(disch:=omega) only[go_sem]
  refine zt ho' hq1 hq2 fun o' H' hs=>?_
  simp(disch:=omega) only[go_sem]
  exact hQ _ _ H' H' [_] nofun rfl (Low.refl _) (one ⟨3,Lib.itoa n⟩ (by simp[Yo]) o' H' (by simpa[h3] using hs))
 by_cases k3:k=3
 ·subst k3
  simp(disch:=omega) only[ir256,yh,go_sem]
  refine za (ziZ s hsl) ?_
  simp(disch:=omega) only[go_sem]
  refine zt ho' hq1 hq2 fun o' H' hs=>?_
  simp(disch:=omega) only[go_sem]
  exact hQ _ _ H' H' [_] nofun rfl (Low.refl _) (one ⟨zhA s,s⟩ (by simp[Yo]) o' H' (by simpa[h3] using hs))
 by_cases k4:k=4
 ·subst k4
  simp(disch:=omega) only[ir256,yh,go_sem]
  refine zt ho' hq1 hq2 fun o' H' hs=>?_
  simp(disch:=omega) only[go_sem]
  exact hQ _ _ H' H' [_] nofun rfl (Low.refl _) (one ⟨5,s⟩ (by simp[Yo]) o' H' (by simpa[h3] using hs))
 by_cases k5:k=5
 ·subst k5
  simp(disch:=omega) only[ir256,yh,go_sem]
  refine za (zkk _) ?_
  simp(disch:=omega) only[cK,go_sem]
  refine zt ho' hq1 hq2 fun o' H' hs=>?_
  simp(disch:=omega) only[go_sem]
  exact hQ _ _ H' H' [_] nofun rfl (Low.refl _) (one ⟨2,s⟩ (by simp[Yo]) o' H' (by simpa[h3] using hs))
 by_cases k8:k=8
 ·subst k8
  simp(disch:=omega) only[ir256,yh,go_sem]
  refine za (zfy _) ?_
  simp(disch:=omega) only[cK,go_sem]
  refine za (zkk _) ?_
  simp(disch:=omega) only[cK,go_sem]
  refine zt ho' hq3 hq4 fun o' H' hs=>?_
  simp(disch:=omega) only[go_sem]
  refine hQ _ _ H' H' [_] nofun rfl (Low.refl _) ?_
  have e:Yo (.mk 8 n s l m)=[⟨1,[36]⟩,⟨2,s⟩]:=by simp[Yo]
  rw[e]
  exact⟨o',by rw[← zko];rfl,by rw[yy];simpa[h3] using hs⟩
 by_cases k6:k=6
 ·subst k6
  have e:Yo (.mk 6 n s l m)=⟨1,[91]⟩::(zb0 l++[⟨1,[93]⟩]):=by simp[Yo]
  have ea:=zaU acc ⟨1,[91]⟩
  simp only at ea
  simp(disch:=omega) only[ir256,yh,go_sem]
  refine za (zfy _) ?_
  simp(disch:=omega) only[cK,go_sem]
  refine zt ho' hq1 hq2 fun o1 H1 hs1=>?_
  have hs1':OwnS H o H1 o1 (acc++[(⟨1,[91]⟩:Tok)]).length 2:=by simpa[h3] using hs1
  simp(disch:=omega) only[ea,h1,go_sem]
  refine zf l 81 (fun x:Own×List Tok=>[(0,.sl x.1 2 (cKs x.2))]) (fun done rest x H'=>x.2++zb0 rest=acc++⟨1,[91]⟩::zb0 l∧x.2.length+4*bVs rest≤acc.length+1+4*bVs l∧OwnS H o H' x.1 x.2.length 2) (o1,acc++[⟨1,[91]⟩]) (by simp(disch:=omega) only[go_sem]) ⟨by simp,by simp,hs1'⟩ ?_ ?_
  ·rintro⟨o2,a⟩ H2 J ⟨hn,hle,hs⟩ hlt
   simp only[zb0,List.append_nil,bVs] at hn hle
   have h4:=yy a
   simp(disch:=omega) only[h1,hlt,go_sem]
   refine za (zfy _) ?_
   simp(disch:=omega) only[cK,go_sem]
   refine zt (by rw[h4];exact hs.own) (by simp only[h4,Al2,Al3];omega) (by simp only[h4,Al2,Al3,maxLen];omega) fun o3 H3 hs3=>?_
   simp(disch:=omega) only[go_sem]
   refine hQ _ _ H3 H3 [_] nofun rfl (Low.refl _) ?_
   have e2:acc++Yo (.mk 6 n s l m)=a++[⟨1,[93]⟩]:=by rw[e,hn];simp
   rw[e2]
   exact⟨o3,by rw[← zaU];rfl,by rw[yy];exact hs.trans (by simpa[h4] using hs3)⟩
  ·rintro done x rest ⟨o2,a⟩ H2 J hd hlt _ ⟨hn,hle,hs⟩ hJ
   have hg:=zao hd
   have hx:=zdt x
   have hmem:x∈l:=by rw[hd];simp
   simp only[zb0,bVs] at hn hle
   simp(disch:=omega) only[zp,zl,zh,zo,zm,zg,zr,h1,hlt,hg,go_sem]
   refine zb fun b hb=>?_
   simp(disch:=omega) only[zp,zl,zh,zo,zm,zg,zr,go_sem]
   refine zB (ihl x hmem (zku hwl x hmem) a _ o2 (by simp only[Lim];omega) (hs.own.upd hb)) fun o3 H3 hs3=>?_
   rw[yy] at hs3
   simp(disch:=omega) only[wrap64,go_sem]
   exact goJ (hJ (o3,a++Yo x) H3 ⟨by rw[← hn];simp,by simp only[Al5];omega,(hs.upd hb).trans hs3⟩) (by simp(disch:=omega) only[go_sem])
 ·have e:Yo (.mk k n s l m)=⟨1,[123]⟩::(Yi m++[⟨1,[125]⟩]):=by simp[Yo,k0,k1,k2,k3,k4,k5,k8,k6]
  have ea:=zaU acc ⟨1,[123]⟩
  simp only at ea
  simp(disch:=omega) only[ir256,yh,k0,k1,k2,k3,k4,k5,k8,k6,go_sem]
  refine za (zfy _) ?_
  simp(disch:=omega) only[cK,go_sem]
  refine zt ho' hq1 hq2 fun o1 H1 hs1=>?_
  have hs1':OwnS H o H1 o1 (acc++[(⟨1,[123]⟩:Tok)]).length 2:=by simpa[h3] using hs1
  simp(disch:=omega) only[ea,h2,go_sem]
  refine zf m 100 (fun x:Own×List Tok=>[(0,.sl x.1 2 (cKs x.2))]) (fun done rest x H'=>x.2++Yi rest=acc++⟨1,[123]⟩::Yi m∧x.2.length+4*bMs rest≤acc.length+1+4*bMs m∧OwnS H o H' x.1 x.2.length 2) (o1,acc++[⟨1,[123]⟩]) (by simp(disch:=omega) only[go_sem]) ⟨by simp,by simp,hs1'⟩ ?_ ?_
  ·rintro⟨o2,a⟩ H2 J ⟨hn,hle,hs⟩ hlt
   simp only[Yi,List.append_nil,bMs] at hn hle
   have h4:=yy a
   simp(disch:=omega) only[h2,hlt,go_sem]
   refine za (zfy _) ?_
   simp(disch:=omega) only[cK,go_sem]
   refine zt (by rw[h4];exact hs.own) (by simp only[h4,Al2,Al3];omega) (by simp only[h4,Al2,Al3,maxLen];omega) fun o3 H3 hs3=>?_
   simp(disch:=omega) only[go_sem]
   refine hQ _ _ H3 H3 [_] nofun rfl (Low.refl _) ?_
   have e2:acc++Yo (.mk k n s l m)=a++[⟨1,[125]⟩]:=by rw[e,hn];simp
   rw[e2]
   exact⟨o3,by rw[← zaU];rfl,by rw[yy];exact hs.trans (by simpa[h4] using hs3)⟩
  ·rintro done x rest ⟨o2,a⟩ H2 J hd hlt _ ⟨hn,hle,hs⟩ hJ
   have hg:=Zr hd
   have hmem:x∈m:=by rw[hd];simp
   obtain⟨t,v⟩:=x
   have hx:=zdt v
   have h4:=yy a
   have hp:=Y4 v
   simp only[Yi,zkT,bMs,bM] at hn hle
   have ea2:=zko a ⟨2,t⟩ ⟨1,[58]⟩
   simp only at ea2
   simp(disch:=omega) only[zp,zl,zh,zo,zm,zg,zr,h2,hlt,hg,go_sem]
   refine zb fun b hb=>?_
   simp(disch:=omega) only[zp,zl,zh,zo,zm,zg,zr,go_sem]
   refine za (zkk _) ?_
   simp(disch:=omega) only[zp,zl,zh,zo,zm,zg,zr,cK,go_sem]
   refine za (zfy _) ?_
   simp(disch:=omega) only[zp,zl,zh,zo,zm,zg,zr,cK,go_sem]
   refine zt (by rw[h4];exact hs.own.upd hb) (by simp only[h4,Al2,Al3];omega) (by simp only[h4,Al2,Al3,maxLen];omega) fun o3 H3 hs3=>?_
   have hs3':OwnS H o H3 o3 (a++[(⟨2,t⟩:Tok),⟨1,[58]⟩]).length 2:=(hs.upd hb).trans (by simpa[h4] using hs3)
   have hHb:H3 b=some (.cells (cM (.mk t v))):=hs3.kept b _ (by simp[zc.upd,zr]) fun d e=>by
    have:=hs.own;subst e
    have hx:H2 b=_:=this
    rw[hb] at hx;cases hx
   simp(disch:=omega) only[zp,zl,zh,zo,zm,zg,zr,ea2,hHb,go_sem]
   refine zB (ihm t v hmem (zeY hwm t v hmem) _ _ o3 (by simp only[Lim,Al5,Al2,Al3];omega) hs3'.own) fun o4 H4 hs4=>?_
   rw[yy] at hs4
   simp(disch:=omega) only[wrap64,go_sem]
   exact goJ (hJ (o4,a++[⟨2,t⟩,⟨1,[58]⟩]++Yo v) H4 ⟨by rw[← hn];simp,by simp only[Al5,Al2,Al3];omega,hs3'.trans hs4⟩) (by simp(disch:=omega) only[go_sem])
def YJ (v:Val):List Tok:=if zaN v then Yo v else []
theorem zbw (v:Val) (hw:wfV v) (hb:4*bV v≤Lim):zi Tryz.prog 241 [.agg (cV v)] (.tup [.sl .no 2 (cKs (YJ v)),.bool (zaN v)]):=by
 have hb':bV v≤Lim:=by omega
 refine zi.go ir241 ck241 (Al4 _) fun KP Q hQ=>?_
 simp(disch:=omega) only[zp,zl,zh,zo,zm,zg,zr,ir241,go_sem]
 refine za (zr1 v hb') ?_
 cases h:zaN v with
 | false =>
  simp(disch:=omega) only[h,go_sem]
  exact hQ _ _ _ _ nofun rfl (by simp[zd,ze,AV.strip,AV.strip1,YJ,h,cKs])
 | true =>
  simp(disch:=omega) only[zp,zl,zh,zo,zm,zg,zr,h,go_sem]
  refine zB (zqI v hw [] _ .nil (by simpa using hb) rfl) fun o' H' hs=>?_
  simp(disch:=omega) only[go_sem]
  exact hQ _ _ _ _ nofun rfl (by simp[zd,ze,AV.strip,AV.strip1,YJ,h])
end Go.Proofs.YtbcocdloklbkjaaGreatDoor
namespace Go.Proofs.YtbcocdloklbkjaaGreatDoor
def zlI (P:Program) (f:FuncId) (fn:Func) (s:ChangeSpec) (c:OpenClaim):Bool:=c.wf (OpenSpec.ofChange s)&&laidOutB P&&mapsRowed P&&fn.params.all (P.readableRec ·)&&namedTie P c.named s.vars
def zlJ (P:Program) (f:FuncId) (fn:Func) (s:ChangeSpec) (c:OpenClaim):Bool:=(c.stops==[])&&(P.stops==[])&&(c.knobs==[])&&(P.stopKnobs==[])&&(c.maps==(fn.params.toList++s.plain.varTypes P).any (P.mapsRec ·))&&(c.ifaces==(fn.params.toList++s.plain.varTypes P).any (P.ifacesRec ·))&&(c.mapsOut==P.mapsAmong fn.resultTypes.toList)&&(c.loops==(fn.params.toList++s.plain.varTypes P).any (P.loopsFrom ·))&&(c.wideKeys==(fn.params.toList++s.plain.varTypes P++fn.resultTypes.toList).any (P.wideKeysFrom ·))&&s.vars.all (P.varReadable ·)&&fn.resultTypes.all (fun t=>P.readableRec t&&decide (t<P.types.size))&&(c.ifacesOut==fn.resultTypes.toList.any (P.ifacesRec ·))&&(c.loopsOut==fn.resultTypes.toList.any (P.loopsFrom ·))&&(c.veiled==(fn.params.toList++s.plain.varTypes P++fn.resultTypes.toList).any (P.veiledRec ·))&&c.veiledFits P fn.params.toList (fn.params.toList++s.plain.varTypes P++fn.resultTypes.toList)
def zk9 (P:Program) (f:FuncId) (fn:Func) (s:ChangeSpec) (c:OpenClaim):Bool:=(c.inPlace==P.inPlace f)&&(c.unfollowed==P.unfollowed f)&&(c.recurses==P.recurses f)&&(c.named==P.varsNamed f)
def zk5 (P:Program) (f:FuncId) (fn:Func) (s:ChangeSpec) (c:OpenClaim):Bool:=(c.plainKeys==P.plainKeys)&&c.shortTexts.isNone
def zly (P:Program) (f:FuncId) (fn:Func) (s:ChangeSpec) (c:OpenClaim):Bool:=P.stopsHeard
def zlK (P:Program) (f:FuncId) (fn:Func) (s:ChangeSpec) (c:OpenClaim):Bool:=P.mayEnter
def zlv (P:Program) (f:FuncId) (fn:Func) (s:ChangeSpec) (c:OpenClaim):Bool:=(c.lifted==P.liftsFinal)&&(P.make==some c.make)&&(c.kinds==(if c.domain.isEmpty then [] else fn.params.toList.map fun t=>match P.underlying t with|some (.int k)=>some k|_=>none))&&(c.pinned==c.pinnedBy)
theorem zng {P:Program} {f:FuncId} {fn:Func} {s:ChangeSpec} {c:OpenClaim} (h0:zlI P f fn s c=true) (h1:zlJ P f fn s c=true) (h2:zk9 P f fn s c=true) (h3:zk5 P f fn s c=true) (h4:zly P f fn s c=true) (h5:zlK P f fn s c=true) (h6:zlv P f fn s c=true):joinedFacts P f fn s c=true:=by
 simp only[zlI,Al0] at h0
 obtain⟨⟨⟨⟨a0,a1⟩,a2⟩,a3⟩,a4⟩:=h0
 simp only[zlJ,Al0] at h1
 obtain⟨⟨⟨⟨⟨⟨⟨⟨⟨⟨⟨⟨⟨⟨a5,a6⟩,a7⟩,a8⟩,a13⟩,a14⟩,a15⟩,a16⟩,a17⟩,a18⟩,a19⟩,a20⟩,a21⟩,a30⟩,a31⟩:=h1
 simp only[zk9,Al0] at h2
 obtain⟨⟨⟨a9,a10⟩,a11⟩,a12⟩:=h2
 simp only[zk5,Al0] at h3
 obtain⟨a22,a23⟩:=h3
 simp only[zly,Al0] at h4
 have a24:=h4
 simp only[zlK,Al0] at h5
 have a25:=h5
 simp only[zlv,Al0] at h6
 obtain⟨⟨⟨a26,a27⟩,a28⟩,a29⟩:=h6
 simp only[joinedFacts,Al0]
 exact⟨⟨⟨⟨⟨⟨⟨⟨⟨⟨⟨⟨⟨⟨⟨⟨⟨⟨⟨⟨⟨⟨⟨⟨⟨⟨⟨⟨⟨⟨⟨a0,a1⟩,a2⟩,a3⟩,a4⟩,a5⟩,a6⟩,a7⟩,a8⟩,a9⟩,a10⟩,a11⟩,a12⟩,a13⟩,a14⟩,a15⟩,a16⟩,a17⟩,a18⟩,a19⟩,a20⟩,a21⟩,a22⟩,a23⟩,a24⟩,a25⟩,a26⟩,a27⟩,a28⟩,a29⟩,a30⟩,a31⟩
open Go.Ab Go.ChangeAt Go.ChangeShapes Go.Lib Go.RowKit Go.WideElems Go.WideShapes
theorem own:ownKnob Tryz.prog.godebug=none:=by kernel_rfl
theorem laidOut:laidOutB Tryz.prog=true:=by kernel_rfl
theorem zmG:∀ l,bVs l=(l.map bV).sum
 | []=>rfl
 | v::r=>by simp[bVs,zmG r]
theorem zm4:∀ l,bMs l=(l.map bM).sum
 | []=>rfl
 | v::r=>by simp[bMs,zm4 r]
theorem zjR:∀ {l:List Val},(∀ v∈l,wfV v)→zlF l
 | [],_=>trivial
 | v::r,h=>⟨h v (.head _),zjR fun x hx=>h x (.tail _ hx)⟩
theorem zjT:∀ {l:List Mem},(∀ v∈l,wfM v)→zf5 l
 | [],_=>trivial
 | v::r,h=>⟨h v (.head _),zjT fun x hx=>h x (.tail _ hx)⟩
theorem zlo {n:Int} (h:(Lit.int .i64 n).wf=true):inR n:=by
 simp[Lit.wf,IntKind.has,IntKind.min,IntKind.max,IntKind.signed,IntKind.bits] at h
 unfold inR
 omega
abbrev DV (m:Nat):Prop:=zH Tryz.prog m 71 5 cV wfV bV
abbrev DM (m:Nat):Prop:=zH Tryz.prog m 112 6 cM wfM bM
theorem zuy {m:Nat} (h:DV m):zH Tryz.prog (m+1) 69 1 (fun l:List Val=>[.sl .no 5 (cVs l)]) (fun l=>zlF l) (fun l=>bVs l+1):=by
 intro H enc W cs d ps h1 h2
 obtain⟨a,h3,h4,h5,h6⟩:=zH.slice (t:=69) Tryz.underlying69 (B:=80) (sz:=5) (by kernel_rfl) (by kernel_rfl) (by decide) h enc W cs d ps h1 h2
 exact⟨a,zjR h3.2.2,by simp only[zmG];exact h4,h5,by simp only[zeL];exact h6⟩
theorem zsJ {m:Nat} (h:DM m):zH Tryz.prog (m+1) 48 1 (fun l:List Mem=>[.sl .no 6 (cMs l)]) (fun l=>zf5 l) (fun l=>bMs l+1):=by
 intro H enc W cs d ps h1 h2
 obtain⟨a,h3,h4,h5,h6⟩:=zH.slice (t:=48) Tryz.underlying48 (B:=96) (sz:=6) (by kernel_rfl) (by kernel_rfl) (by decide) h enc W cs d ps h1 h2
 exact⟨a,zjT h3.2.2,by simp only[zm4];exact h4,h5,by simp only[zbD];exact h6⟩
theorem dec:∀ m,DV m∧DM m:=by
 intro m
 induction m using Nat.strongRecOn with
 | _ m ih =>
  have hs:∀ {k},k≤m→zH Tryz.prog k 69 1 (fun l:List Val=>[.sl .no 5 (cVs l)]) (fun l=>zlF l) (fun l=>bVs l+1):=fun {k} hk=>by
   cases k with
   | zero=>exact zH.zero
   | succ k=>exact zuy (ih k (by omega)).1
  have hm:∀ {k},k≤m→zH Tryz.prog k 48 1 (fun l:List Mem=>[.sl .no 6 (cMs l)]) (fun l=>zf5 l) (fun l=>bMs l+1):=fun {k} hk=>by
   cases k with
   | zero=>exact zH.zero
   | succ k=>exact zsJ (ih k (by omega)).2
  refine⟨?_,?_⟩
  ·cases m with
   | zero=>exact zH.zero
   | succ k =>
    exact zH.struct (zA.cons (by kernel_rfl) (zH.int (k:=.i64) Tryz.underlying3) (zA.cons (by kernel_rfl) (zH.int (k:=.i64) Tryz.underlying2) (zA.cons (by kernel_rfl) (zH.str Tryz.underlying9) (zA.cons (by kernel_rfl) (hs (by omega)) (zA.cons (by kernel_rfl) (hm (by omega)) zA.nil)))))
     (by kernel_rfl) (by kernel_rfl) cV wfV bV (fun x=>.mk x.1 x.2.1 x.2.2.1 x.2.2.2.1 x.2.2.2.2.1) (fun a=>rfl) (fun a h=>⟨zlo h.2.1,h.2.2.2.1,h.2.2.2.2.1⟩) (fun a=>by simp only[bV];omega)
  ·cases m with
   | zero=>exact zH.zero
   | succ k =>
    exact zH.struct (zA.cons (by kernel_rfl) (zH.str Tryz.underlying9) (zA.cons (by kernel_rfl) (ih k (by omega)).1 zA.nil))
     (by kernel_rfl) (by kernel_rfl) cM wfM bM (fun x=>.mk x.1 x.2.1) (fun a=>by simp[cM]) (fun a h=>h.2.1) (fun a=>by simp only[bM];omega)
theorem zsy (m:Nat):DV m:=(dec m).1
theorem zpy:∀ m,zH Tryz.prog m 48 1 (fun l:List Mem=>[.sl .no 6 (cMs l)]) (fun l=>zf5 l) (fun l=>bMs l+1)
 | 0=>zH.zero
 | m+1=>zsJ (dec m).2
theorem zoj {W:World} {r:Reach} {b:Nat} {t:TypeId} {fs:Array Field} {v:Value} (ht:Tryz.prog.underlying t=some (.struct fs)) (h:Value.okWide Tryz.prog W r b t v):∃ cs,v=.agg cs:=by
 unfold Value.okWide at h
 rw[ht] at h
 obtain⟨cs,h,_⟩:=h
 exact⟨cs,h⟩
theorem znG {H:Type} {s:ChangeSpec} {ds:List (DataW H)} (h:∀ k,(Rows.OpenSpec.upto s).cond=some k→k H ds=true):Yk ds≤1048576:=by
 have h1:Rows.uptoSmall H ds=true:=h _ rfl
 have h2:=of_decide_eq_true h1
 rwa [za9] at h2
end Go.Proofs.YtbcocdloklbkjaaGreatDoor
namespace Go.Proofs.YtbcocdloklbkjaaGreatDoor
open Go.Ab
structure DirD where
 nm:List UInt8
 args:List Mem
inductive SelD where
 | mk (k:Int) (al nm:List UInt8) (args:List Mem) (dirs:List DirD) (on:List UInt8) (sels:List SelD)
structure TyD where
 nm:List UInt8
 lists:Int
 musts:Int
structure VarD where
 nm:List UInt8
 t:TyD
 has:Bool
 d:Val
structure OpD where
 k:Int
 nm:List UInt8
 vars:List VarD
 dirs:List DirD
 sels:List SelD
structure FragD where
 nm:List UInt8
 on:List UInt8
 dirs:List DirD
 sels:List SelD
structure DocD where
 ops:List OpD
 frags:List FragD
def cD (x:DirD):List AV:=[.str x.nm,.sl .no 6 (cMs x.args)]
def cDs (l:List DirD):List (List AV):=l.map cD
mutual
def cS:SelD→List AV
 | .mk k al nm args dirs on sels=>[.int .i64 k,.str al,.str nm,.sl .no 6 (cMs args),.sl .no 2 (cDs dirs),.str on,.sl .no 7 (cSs sels)]
def cSs:List SelD→List (List AV)
 | []=>[]
 | x::r=>cS x::cSs r
end
def cTy (t:TyD):List AV:=[.str t.nm,.int .i64 t.lists,.int .i64 t.musts]
def cW (x:VarD):List AV:=cTy ⟨x.nm,0,0⟩ |>.take 1 |>.append (cTy x.t++(.bool x.has::cV x.d))
def cWs (l:List VarD):List (List AV):=l.map cW
def cO (x:OpD):List AV:=[.int .i64 x.k,.str x.nm,.sl .no 10 (cWs x.vars),.sl .no 2 (cDs x.dirs),.sl .no 7 (cSs x.sels)]
def cOs (l:List OpD):List (List AV):=l.map cO
def cF (x:FragD):List AV:=[.str x.nm,.str x.on,.sl .no 2 (cDs x.dirs),.sl .no 7 (cSs x.sels)]
def cFs (l:List FragD):List (List AV):=l.map cF
def zT (d:DocD):List AV:=[.sl .no 5 (cOs d.ops),.sl .no 4 (cFs d.frags)]
theorem zdf (nm:List UInt8) (t:TyD) (h:Bool) (d:Val):cW ⟨nm,t,h,d⟩=.str nm::.str t.nm::.int .i64 t.lists::.int .i64 t.musts::.bool h::cV d:=rfl
theorem zdk:∀ l,cSs l=l.map cS
 | []=>rfl
 | v::r=>by rw[cSs,zdk r];rfl
theorem Yd (l:List DirD):(cDs l).length=l.length:=by simp[cDs]
theorem Ya (l:List SelD):(cSs l).length=l.length:=by rw[zdk];simp
theorem Zq (l:List VarD):(cWs l).length=l.length:=by simp[cWs]
theorem Zx (l:List OpD):(cOs l).length=l.length:=by simp[cOs]
theorem ZL (l:List FragD):(cFs l).length=l.length:=by simp[cFs]
theorem YO {l a:List DirD} {x:DirD} {b:List DirD} (h:l=a++x::b):(cDs l).getD a.length []=cD x:=yR h
theorem YZ {l a:List SelD} {x:SelD} {b:List SelD} (h:l=a++x::b):(cSs l).getD a.length []=cS x:=by rw[zdk,yR h]
theorem Zp {l a:List VarD} {x:VarD} {b:List VarD} (h:l=a++x::b):(cWs l).getD a.length []=cW x:=yR h
theorem Yf {l a:List OpD} {x:OpD} {b:List OpD} (h:l=a++x::b):(cOs l).getD a.length []=cO x:=yR h
theorem Yw {l a:List FragD} {x:FragD} {b:List FragD} (h:l=a++x::b):(cFs l).getD a.length []=cF x:=yR h
theorem y8 (k:Int) (al nm:List UInt8) (args:List Mem) (dirs:List DirD) (on:List UInt8) (sels:List SelD):cS (.mk k al nm args dirs on sels)=[.int .i64 k,.str al,.str nm,.sl .no 6 (cMs args),.sl .no 2 (cDs dirs),.str on,.sl .no 7 (cSs sels)]:=rfl
theorem zqg (x:VarD):(cW x).map AV.strip1=cW x:=by rcases x with ⟨a,b,c,⟨⟩⟩;rfl
theorem zoN (x:OpD):(cO x).map AV.strip1=cO x:=rfl
theorem zpW (x:FragD):(cF x).map AV.strip1=cF x:=rfl
theorem znF (l:List VarD):(cWs l).map (·.map AV.strip1)=cWs l:=by rw[cWs,List.map_map];exact List.map_congr_left fun v _=>zqg v
theorem zhS (l:List OpD):(cOs l).map (·.map AV.strip1)=cOs l:=by rw[cOs,List.map_map];exact List.map_congr_left fun v _=>zoN v
theorem zig (l:List FragD):(cFs l).map (·.map AV.strip1)=cFs l:=by rw[cFs,List.map_map];exact List.map_congr_left fun v _=>zpW v
theorem ztr (x:SelD):(cS x).length=7:=by cases x;rfl
def bD (x:DirD):Nat:=1+x.nm.length+bMs x.args
def bDs (l:List DirD):Nat:=(l.map bD).sum
mutual
def bS:SelD→Nat
 | .mk _ al nm args dirs on sels=>1+al.length+nm.length+on.length+bMs args+bDs dirs+bSs sels
def bSs:List SelD→Nat
 | []=>0
 | x::r=>bS x+bSs r
end
def bW (x:VarD):Nat:=x.nm.length+x.t.nm.length+bV x.d
def bWs (l:List VarD):Nat:=(l.map bW).sum
def bO (x:OpD):Nat:=1+x.nm.length+bWs x.vars+bDs x.dirs+bSs x.sels
def bOs (l:List OpD):Nat:=(l.map bO).sum
def bF (x:FragD):Nat:=1+x.nm.length+x.on.length+bDs x.dirs+bSs x.sels
def bFs (l:List FragD):Nat:=(l.map bF).sum
def zv (d:DocD):Nat:=bOs d.ops+bFs d.frags
theorem zby {α:Type} {f:α→Nat} (hf:∀ x,1≤f x):∀ l:List α,l.length≤(l.map f).sum
 | []=>Nat.zero_le _
 | x::r=>by have:=zby hf r;have:=hf x;simp only[List.map_cons,List.sum_cons,Al2];omega
theorem zcg {α:Type} (f:α→Nat) (a:List α) (x:α) (b:List α):((a++x::b).map f).sum=(a.map f).sum+f x+(b.map f).sum:=by simp;omega
theorem Y9 (l:List DirD):l.length≤bDs l:=zby (fun x=>by simp only[bD];omega) l
theorem yP (l:List VarD):l.length≤bWs l:=zby (fun x=>by have:=Y4 x.d;simp only[bW];omega) l
theorem Zi (l:List OpD):l.length≤bOs l:=zby (fun x=>by simp only[bO];omega) l
theorem yD (l:List FragD):l.length≤bFs l:=zby (fun x=>by simp only[bF];omega) l
theorem ztj (x:SelD):1≤bS x:=by cases x;simp only[bS];omega
theorem Yu:∀ l:List SelD,l.length≤bSs l
 | []=>by simp
 | v::r=>by have:=Yu r;have:=ztj v;simp only[bSs,Al2];omega
theorem zbn (a:List DirD) (x:DirD) (b:List DirD):bDs (a++x::b)=bDs a+bD x+bDs b:=zcg ..
theorem zaW (a:List VarD) (x:VarD) (b:List VarD):bWs (a++x::b)=bWs a+bW x+bWs b:=zcg ..
theorem Yv (a:List OpD) (x:OpD) (b:List OpD):bOs (a++x::b)=bOs a+bO x+bOs b:=zcg ..
theorem zgh (a:List FragD) (x:FragD) (b:List FragD):bFs (a++x::b)=bFs a+bF x+bFs b:=zcg ..
theorem zaX (a:List SelD) (x:SelD) (b:List SelD):bSs (a++x::b)=bSs a+bS x+bSs b:=by
 induction a with
 | nil=>simp[bSs]
 | cons y a ih=>simp only[Al6,bSs,ih];omega
mutual
theorem SelD.ind {P:SelD→Prop} (h:∀ k al nm args dirs on sels,(∀ v∈sels,P v)→P (.mk k al nm args dirs on sels)):∀ v,P v
 | .mk k al nm args dirs on sels=>h k al nm args dirs on sels (SelD.indL h sels)
theorem SelD.indL {P:SelD→Prop} (h:∀ k al nm args dirs on sels,(∀ v∈sels,P v)→P (.mk k al nm args dirs on sels)):∀ l:List SelD,∀ v∈l,P v
 | [],_,hv=>by cases hv
 | x::r,v,hv=>(List.mem_cons.1 hv).elim (fun e=>e▸SelD.ind h x) (SelD.indL h r v)
end
theorem zeJ {t:List UInt8} {v:Val} {m:List Mem} (h:Mem.mk t v∈m):bV v≤bMs m:=by
 obtain⟨a,b,hd⟩:=List.append_of_mem h
 have:=Yx a (.mk t v) b
 rw[← hd] at this
 simp only[bM] at this
 omega
end Go.Proofs.YtbcocdloklbkjaaGreatDoor

namespace Go.Proofs.YtbcocdloklbkjaaGreatDoor
open Go.Ab
theorem zlV (m:List Mem) (hm:bMs m≤Lim):zi Tryz.prog 70 [.sl .no 6 (cMs m)] (.sl .no 6 (cMs m)) :=
 zqc m hm fun s v hx=>copyV v (by
  obtain⟨a,b,hd⟩:=List.append_of_mem hx
  have:=Yx a (.mk s v) b
  rw[← hd] at this
  simp only[bM] at this
  omega)
theorem zlT (l:List DirD) (hm:bDs l≤Lim):zi Tryz.prog 26 [.sl .no 2 (cDs l)] (.sl .no 2 (cDs l)):=by
 refine zi.go ir26 ck26 (Al4 _) fun KP Q hQ=>?_
 have h1:=Yd l
 have hml:=Y9 l
 have hm':=hm
 simp only[Lim] at hm'
 simp(disch:=omega) only[ir26,go_sem]
 refine zf l 4 (fun x:Own×List DirD=>[(3,.sl x.1 2 (cDs x.2))]) (fun done rest x H=>x.2=done∧OwnF zc.emp H x.1 done.length 2) (.nil,[]) (by simp(disch:=omega) only[cDs,go_sem]) ⟨rfl,OwnF.nil _ _⟩ ?_ ?_
 ·rintro⟨o,done⟩ H J ⟨rfl,ho⟩ hlt
  simp(disch:=omega) only[h1,hlt,go_sem]
  exact hQ _ _ _ _ nofun rfl (by simp[zd,ze,AV.strip,AV.strip1])
 ·rintro done x rest ⟨o,ds⟩ H J hd hlt hlt' ⟨hds,ho⟩ hJ
  simp only at hds ho hJ ⊢
  obtain rfl:done=ds:=hds.symm
  have hg:=YO hd
  have hbm:=zbn done x rest
  rw[← hd] at hbm
  have h2:=Yd done
  obtain⟨s,v⟩:=x
  simp only[bD] at hbm
  have ec:cD ⟨s,v⟩=[.str s,.sl .no 6 (cMs v)]:=rfl
  rw[ec] at hg
  simp(disch:=omega) only[zp,zl,zh,zo,zm,zg,zr,h1,hlt,hg,go_sem]
  refine za (zlV v (by simp only[Lim];omega)) ?_
  simp(disch:=omega) only[zp,zl,zh,zo,zm,zg,zr,h1,hlt,hg,go_sem]
  refine zt (by rw[h2];exact ho.own) ?_ ?_ fun o' H' hs=>?_
  ·simp only[h2,Al2,Al3];omega
  ·simp only[h2,Al2,Al3,maxLen];omega
  rw[h2] at hs
  simp(disch:=omega) only[wrap64,go_sem]
  refine goJ (hJ (o',done++[⟨s,v⟩]) H' ⟨rfl,(ho.stepS hs).cast (by simp)⟩) (by simp(disch:=omega) only[cDs,List.map_append,List.map_cons,cD,AV.strip1,go_sem])
theorem zut:∀ c:Nat,∀ l:List SelD,bSs l≤c→c≤Lim→zi Tryz.prog 27 [.sl .no 7 (cSs l)] (.sl .no 7 (cSs l)):=by
 intro c
 induction c using Nat.strongRecOn with
 | _ c ih =>
 intro l hb hc
 refine zi.go ir27 ck27 (Al4 _) fun KP Q hQ=>?_
 have h1:=Ya l
 have hml:=Yu l
 have hc':=hc
 simp only[Lim] at hc'
 simp(disch:=omega) only[ir27,go_sem]
 refine zf l 4 (fun x:Own×List SelD=>[(3,.sl x.1 7 (cSs x.2))]) (fun done rest x H=>x.2=done∧OwnF zc.emp H x.1 done.length 7) (.nil,[]) (by simp(disch:=omega) only[cSs,go_sem]) ⟨rfl,OwnF.nil _ _⟩ ?_ ?_
 ·rintro⟨o,done⟩ H J ⟨rfl,ho⟩ hlt
  simp(disch:=omega) only[h1,hlt,go_sem]
  exact hQ _ _ _ _ nofun rfl (by simp[zd,ze,AV.strip,AV.strip1])
 ·rintro done x rest ⟨o,ds⟩ H J hd hlt hlt' ⟨hds,ho⟩ hJ
  simp only at hds ho hJ ⊢
  obtain rfl:done=ds:=hds.symm
  have hg:=YZ hd
  have hbm:=zaX done x rest
  rw[← hd] at hbm
  have h2:=Ya done
  obtain⟨k,al,nm,args,dirs,on,sels⟩:=x
  simp only[bS] at hbm
  rw[y8] at hg
  simp(disch:=omega) only[h1,hlt,hg,go_sem]
  refine zb fun b hb=>?_
  have ho2:=ho.upd (x:=.cells [.int .i64 k,.str al,.str nm,.sl .no 6 (cMs args),.sl .no 2 (cDs dirs),.str on,.sl .no 7 (cSs sels)]) hb
  simp(disch:=omega) only[h1,hlt,hg,go_sem]
  refine za (zlV args (by simp only[Lim];omega)) ?_
  simp(disch:=omega) only[go_sem]
  refine za (zlT dirs (by simp only[Lim];omega)) ?_
  simp(disch:=omega) only[go_sem]
  refine za (ih (bSs sels) (by omega) sels (Al4 _) (by simp only[Lim];omega)) ?_
  simp(disch:=omega) only[go_sem]
  refine zt (by rw[h2];exact ho2.own) ?_ ?_ fun o' H' hs=>?_
  ·simp only[h2,Al2,Al3];omega
  ·simp only[h2,Al2,Al3,maxLen];omega
  rw[h2] at hs
  simp(disch:=omega) only[wrap64,go_sem]
  refine goJ (hJ (o',done++[.mk k al nm args dirs on sels]) H' ⟨rfl,(ho2.stepS hs).cast (by simp)⟩) (by simp(disch:=omega) only[zdk,List.map_append,List.map_cons,y8,AV.strip1,go_sem])
theorem zmV (l:List SelD) (hb:bSs l≤Lim):zi Tryz.prog 27 [.sl .no 7 (cSs l)] (.sl .no 7 (cSs l)):=zut (bSs l) l (Al4 _) hb
theorem zoK (k:Int) (nm:List UInt8) (vars:List VarD) (dirs:List DirD) (sels:List SelD):cO ⟨k,nm,vars,dirs,sels⟩=[.int .i64 k,.str nm,.sl .no 10 (cWs vars),.sl .no 2 (cDs dirs),.sl .no 7 (cSs sels)]:=rfl
theorem zot (nm on:List UInt8) (dirs:List DirD) (sels:List SelD):cF ⟨nm,on,dirs,sels⟩=[.str nm,.str on,.sl .no 2 (cDs dirs),.sl .no 7 (cSs sels)]:=rfl
theorem zmx {H:zc} {c b d n sz:Nat} {cs:List AV} (h:zR H (.tip b d) n sz) (hc:H c=some (.cells cs)):b≠c:=fun e=>by
 subst e
 have:H b=some (.tip (d+n) sz):=h
 rw[hc] at this;cases this
theorem YI {H H':zc} {o:Own} {n sz c:Nat} {cs:List AV} (h:zR H o n sz) (hc:H c=some (.cells cs)) (hk:Kept H o H'):H' c=some (.cells cs) :=
 hk c _ hc fun d e=>by subst e;exact zmx h hc rfl
theorem zbR {H:zc} {o:Own} {n sz c:Nat} {cs:List AV} {x:AObj} (h:zR H o n sz) (hc:H c=some (.cells cs)):zR (H.upd c x) o n sz:=by
 cases o with
 | tip b d=>have:=zmx h hc;show (H.upd c x) b=_;rw[upd_ne this];exact h
 | no=>exact h
 | nil=>exact h
 | full=>exact h
structure DB (bo:Nat) (H:zc) (a:List OpD) (c:List FragD) (o1 o2:Own):Prop where
 box:H bo=some (.cells [.sl o1 5 (cOs a),.sl o2 4 (cFs c)])
 own1:zR H o1 a.length 5
 own2:zR H o2 c.length 4
 sep:∀ b x c y,o1=.tip b x→o2=.tip c y→b≠c
section
variable {bo:Nat} {H H':zc} {a:List OpD} {c:List FragD} {o1 o2 o':Own}
theorem DB.new {b:Nat} {x:AObj} (h:DB bo H a c o1 o2) (hb:H b=none):DB bo (H.upd b x) a c o1 o2 :=
 ⟨by rw[upd_ne (fun e=>by have:=h.box;rw[e,hb] at this;cases this)];exact h.box,h.own1.upd hb,h.own2.upd hb,h.sep⟩
theorem zjG {o:Own} {n sz:Nat} (h:zR H o n sz) (hk:∀ b x,H b=some x→H' b=some x):zR H' o n sz:=by
 cases o with
 | tip c d=>have h5:H c=some _:=h;exact hk c _ h5
 | no=>exact h
 | nil=>exact h
 | full=>exact h
theorem DB.kept (h:DB bo H a c o1 o2) (hk:∀ b x,H b=some x→H' b=some x):DB bo H' a c o1 o2 :=
 ⟨hk _ _ h.box,zjG h.own1 hk,zjG h.own2 hk,h.sep⟩
theorem zmy {oo o:Own} {n sz:Nat} (h:zR H oo n sz) (hk:Kept H o H') (hs:∀ b x c y,o=.tip b x→oo=.tip c y→b≠c):zR H' oo n sz:=by
 cases oo with
 | tip c y =>
  have h5:H c=some _:=h
  exact hk c _ h5 fun d e=>hs c d c y e rfl rfl
 | no=>exact h
 | nil=>exact h
 | full=>exact h
theorem DB.cell {b:Nat} {cs:List AV} (h:DB bo H a c o1 o2) (hb:H b=some (.cells cs)) (hn:bo≠b) (x:AObj):DB bo (H.upd b x) a c o1 o2 :=
 ⟨by rw[upd_ne hn];exact h.box,zbR h.own1 hb,zbR h.own2 hb,h.sep⟩
theorem DB.op {n:Nat} {xs:List (List AV)} (h:DB bo H a c o1 o2) (x:OpD) (hs:OwnS H o1 H' o' n 5) (hn:n=(a++[x]).length) (hx:xs=cOs (a++[x])) :
  DB bo (H'.upd bo (.cells [.sl o' 5 xs,.sl o2 4 (cFs c)])) (a++[x]) c o' o2:=by
 have hb:=YI h.own1 h.box hs.kept
 subst hn;subst hx
 refine⟨upd_same ..,zbR hs.own hb,zbR (zmy h.own2 hs.kept h.sep) hb,fun b x c y e1 e2=>?_⟩
 rcases hs.new b x e1 with h2|⟨d0,h2⟩
 ·subst e2
  intro e
  have h5:H c=some _:=h.own2
  rw[← e,h2] at h5;cases h5
 ·exact h.sep b d0 c y h2 e2
theorem DB.frag {n:Nat} {xs:List (List AV)} (h:DB bo H a c o1 o2) (x:FragD) (hs:OwnS H o2 H' o' n 4) (hn:n=(c++[x]).length) (hx:xs=cFs (c++[x])) :
  DB bo (H'.upd bo (.cells [.sl o1 5 (cOs a),.sl o' 4 xs])) a (c++[x]) o1 o':=by
 have hb:=YI h.own2 h.box hs.kept
 subst hn;subst hx
 refine⟨upd_same ..,zbR (zmy h.own1 hs.kept fun b x c y e1 e2=>Ne.symm (h.sep c y b x e2 e1)) hb,zbR hs.own hb,fun b x c y e1 e2=>?_⟩
 rcases hs.new c y e2 with h2|⟨d0,h2⟩
 ·subst e1
  intro e
  have h5:H b=some _:=h.own1
  rw[e,h2] at h5;cases h5
 ·exact h.sep b x c d0 e1 h2
end
theorem zsa (d:DocD) (hb:zv d≤1048576):zi Tryz.prog 10 [.agg (zT d)] (.agg (zT d)):=by
 refine zi.go ir10 ck10 (Al4 _) fun KP Q hQ=>?_
 obtain⟨ops,frags⟩:=d
 have ed:zT ⟨ops,frags⟩=[.sl .no 5 (cOs ops),.sl .no 4 (cFs frags)]:=rfl
 rw[ed] at hQ ⊢
 simp only[zv] at hb
 have hlo:=Zi ops
 have hlf:=yD frags
 have hco:=Zx ops
 have hcf:=ZL frags
 simp(disch:=first|omega|assumption) only[ir10,go_sem]
 refine zb fun b2 hb2=>?_
 simp(disch:=first|omega|assumption) only[go_sem]
 refine zb fun b3 hb3=>?_
 have h32:b3≠b2:=fun e=>by subst e;rw[upd_same] at hb3;cases hb3
 simp(disch:=first|omega|assumption) only[go_sem]
 obtain⟨H0,hH0⟩:∃ H0,H0=((zc.emp).upd b2 (.cells [.sl .nil 5 [],.sl .nil 4 []])).upd b3 (.cells [.sl .nil 5 [],.sl .nil 4 []]):=⟨_,rfl⟩
 have D0:DB b3 H0 [] [] .nil .nil:=⟨by rw[hH0,upd_same];rfl,rfl,rfl,nofun⟩
 have g20:H0 b2=some (.cells [.sl .nil 5 [],.sl .nil 4 []]):=by rw[hH0,upd_ne (Ne.symm h32),upd_same]
 try simp only[zem]
 rw[← hH0]
 clear hH0
 refine zf ops 4 (fun x:Own=>[]) (fun done rest x H=>DB b3 H done [] x .nil∧H b2=some (.cells [.sl .nil 5 [],.sl .nil 4 []])) .nil (by simp(disch:=first|omega|assumption) only[go_sem]) ⟨D0,g20⟩ ?_ ?_
 ·rintro o1 H1 J1 ⟨D1,g21⟩ hlt1
  simp(disch:=first|omega|assumption) only[hco,hlt1,go_sem]
  refine zf frags 6 (fun x:Own=>[]) (fun done rest x H=>DB b3 H ops done o1 x∧H b2=some (.cells [.sl .nil 5 [],.sl .nil 4 []])) .nil (by simp(disch:=first|omega|assumption) only[go_sem]) ⟨D1,g21⟩ ?_ ?_
  ·rintro o2 H2 J2 ⟨D2,g22⟩ hlt2
   have gb:=D2.box
   simp(disch:=first|omega|assumption) only[hcf,hlt2,gb,g22,h32,Ne.symm h32,go_sem]
   exact hQ _ _ _ [.agg [.sl o1 5 (cOs ops),.sl o2 4 (cFs frags)]] nofun (by simp(disch:=first|omega|assumption) only[ir10,zL,Zt,go_sem]) (by simp[zd,ze,AV.strip,AV.strip1])
  ·rintro done x rest o2 H2 J2 hd hlt2 hlt2' ⟨D2,g22⟩ hJ
   have hg:=Yw hd
   have hbm:=zgh done x rest
   rw[← hd] at hbm
   obtain⟨nm,on,dirs,sels⟩:=x
   simp only[bF] at hbm
   rw[zot] at hg
   have hdl:=congrArg List.length hd
   simp only[Al5,Al2] at hdl
   have hcd:=ZL done
   simp(disch:=first|omega|assumption) only[hcf,hlt2,hg,go_sem]
   refine zb fun b5 hb5=>?_
   have h53:b5≠b3:=fun e=>by subst e;rw[D2.box] at hb5;cases hb5
   have h52:b5≠b2:=fun e=>by subst e;rw[g22] at hb5;cases hb5
   simp(disch:=first|omega|assumption) only[hg,go_sem]
   have D3:=D2.new (x:=.cells [.str nm,.str on,.sl .no 2 (cDs dirs),.sl .no 7 (cSs sels)]) hb5
   have g35:(H2.upd b5 (.cells [.str nm,.str on,.sl .no 2 (cDs dirs),.sl .no 7 (cSs sels)])) b5=some (.cells [.str nm,.str on,.sl .no 2 (cDs dirs),.sl .no 7 (cSs sels)]):=upd_same ..
   refine za (zlT dirs (by simp only[Lim];omega)) ?_
   simp(disch:=first|omega|assumption) only[go_sem]
   refine za (zmV sels (by simp only[Lim];omega)) ?_
   have gb3:=D2.box
   simp(disch:=first|omega|assumption) only[gb3,h53,Ne.symm h53,go_sem]
   refine zt (by rw[hcd];exact D3.own2) (by simp only[hcd,Al2,Al3];omega) (by simp only[hcd,Al2,Al3,maxLen];omega) fun o6 H6 hs6=>?_
   have gb6:=YI D3.own2 D3.box hs6.kept
   have g62:=YI D3.own2 (show _=some (.cells _) from (upd_ne (Ne.symm h52)).trans g22) hs6.kept
   simp(disch:=first|omega|assumption) only[gb6,wrap64,go_sem]
   refine goJ (hJ o6 _ ⟨D3.frag ⟨nm,on,dirs,sels⟩ (by simpa[hcd] using hs6) (by simp) (by simp[cFs,zot,AV.strip1]),by rw[upd_ne (Ne.symm h32)];exact g62⟩) (by simp(disch:=first|omega|assumption) only[go_sem])
 ·rintro done x rest o1 H1 J1 hd hlt1 hlt1' ⟨D1,g21⟩ hJ
  have hg:=Yf hd
  have hbm:=Yv done x rest
  rw[← hd] at hbm
  have hcd:=Zx done
  obtain⟨k,nm,vars,dirs,sels⟩:=x
  simp only[bO] at hbm
  have hvl:=yP vars
  have hcv:=Zq vars
  have hdl:=congrArg List.length hd
  simp only[Al5,Al2] at hdl
  rw[zoK] at hg
  simp(disch:=first|omega|assumption) only[hco,hlt1,hg,go_sem]
  refine zb fun b5 hb5=>?_
  have h53:b5≠b3:=fun e=>by subst e;rw[D1.box] at hb5;cases hb5
  have h52:b5≠b2:=fun e=>by subst e;rw[g21] at hb5;cases hb5
  simp(disch:=first|omega|assumption) only[hg,go_sem]
  obtain⟨H2,hH2⟩:∃ H2,H2=H1.upd b5 (.cells [.int .i64 k,.str nm,.sl .no 10 (cWs vars),.sl .no 2 (cDs dirs),.sl .no 7 (cSs sels)]):=⟨_,rfl⟩
  have D2:DB b3 H2 done [] o1 .nil:=by rw[hH2];exact D1.new hb5
  have g22:H2 b2=some (.cells [.sl .nil 5 [],.sl .nil 4 []]):=by rw[hH2,upd_ne (Ne.symm h52)];exact g21
  have g25:H2 b5=some (.cells [.int .i64 k,.str nm,.sl .no 10 (cWs vars),.sl .no 2 (cDs dirs),.sl .no 7 (cSs sels)]):=by rw[hH2,upd_same]
  try simp only[zem]
  rw[← hH2]
  refine zt (o:=.nil) rfl (by simp only[hcv,Al3];omega) (by simp only[hcv,Al3,maxLen];omega) fun o3 H3 hs3=>?_
  have kp:∀ b x,H2 b=some x→H3 b=some x:=fun b x h=>hs3.kept b x h nofun
  have D3:=D2.kept kp
  have g32:=kp _ _ g22
  have g35:=kp _ _ g25
  simp(disch:=first|omega|assumption) only[g35,zbT,znF,go_sem]
  refine za (zlT dirs (by simp only[Lim];omega)) ?_
  simp(disch:=first|omega|assumption) only[go_sem]
  refine za (zmV sels (by simp only[Lim];omega)) ?_
  have gb3:=D3.box
  simp(disch:=first|omega|assumption) only[gb3,h53,Ne.symm h53,go_sem]
  have D4:=D3.cell g35 (Ne.symm h53) (.cells [.int .i64 k,.str nm,.sl o3 10 (cWs vars),.sl .no 2 (cDs dirs),.sl .no 7 (cSs sels)])
  have gb4:=D4.box
  refine zt (by rw[hcd];exact D4.own1) (by simp only[hcd,Al2,Al3];omega) (by simp only[hcd,Al2,Al3,maxLen];omega) fun o6 H6 hs6=>?_
  have gb6:=YI D4.own1 gb4 hs6.kept
  have g62:=YI D4.own1 (show _=some (.cells _) from (upd_ne (Ne.symm h52)).trans g32) hs6.kept
  simp(disch:=first|omega|assumption) only[gb6,wrap64,go_sem]
  refine goJ (hJ o6 _ ⟨D4.op ⟨k,nm,vars,dirs,sels⟩ (by simpa[hcd] using hs6) (by simp) (by simp[cOs,zoK,AV.strip1]),by rw[upd_ne (Ne.symm h32)];exact g62⟩) (by simp(disch:=first|omega|assumption) only[go_sem])
abbrev TS:=List Tok
def wK (t:Tok):Nat:=t.s.length+4
def wT (l:TS):Nat:=(l.map wK).sum
theorem zgf (x:Tok) (l:TS):wT (x::l)=wK x+wT l:=by simp[wT]
def b0 {α:Type} (_:α):Nat:=0
def sm {α:Type} (b:α→Nat) (l:List α):Nat:=(l.map b).sum+l.length
def wfD (x:DirD):Prop:=zf5 x.args
def zkY (l:List DirD):Prop:=∀ x∈l,wfD x
mutual
def wfS:SelD→Prop
 | .mk _ _ _ args dirs _ sels=>zf5 args∧zkY dirs∧zhk sels
def zhk:List SelD→Prop
 | []=>True
 | x::r=>wfS x∧zhk r
end
theorem zkx:∀ {l:List SelD},(∀ v∈l,wfS v)→zhk l
 | [],_=>trivial
 | v::r,h=>⟨h v (.head _),zkx fun x hx=>h x (.tail _ hx)⟩
def wfW (x:VarD):Prop:=inR x.t.lists∧inR x.t.musts∧wfV x.d
def wfO (x:OpD):Prop:=(∀ y∈x.vars,wfW y)∧zkY x.dirs∧zhk x.sels
def wfF (x:FragD):Prop:=zkY x.dirs∧zhk x.sels
def zdF (d:DocD):Prop:=(∀ x∈d.ops,wfO x)∧∀ x∈d.frags,wfF x
def pk (s:List UInt8):Tok:=⟨1,s⟩
def wk (s:List UInt8):Tok:=⟨2,s⟩
def zZ (dp:Int) (fixed:Bool) (v:Val):Bool:=zaN v&&(decide (dp+ZA v≤16)&&(!fixed||decide ((Zs v []).length=0)))
def zi4 (dp:Int) (fixed:Bool):Mem→Bool
 | .mk s v=>zP s&&zZ dp fixed v
def YT (dp:Int) (fixed:Bool) (l:List Mem):Bool:=l.all (zi4 dp fixed)
def zgb (dp:Int) (fixed:Bool) (d:DirD):Bool:=zP d.nm&&YT dp fixed d.args
def Zf (dp:Int) (fixed:Bool) (l:List DirD):Bool:=l.all (zgb dp fixed)
mutual
def yu (dp : Int) : SelD → Bool
  | .mk k al nm args dirs on sels => Zf dp false dirs &&
    (if k = 0 then zP nm && ((decide (al = []) || zP al) && (decide (on = []) && (YT dp false args && (decide (sels.length = 0) || (decide (dp + 1 ≤ 16) && Zn (dp + 1) sels)))))
     else if k = 1 then zP nm && (decide (nm ≠ [111, 110]) && (decide (al = []) && (decide (on = []) && (decide (args.length = 0) && decide (sels.length = 0)))))
     else if k = 2 then decide (nm = []) && (decide (al = []) && (decide (args.length = 0) && ((decide (on = []) || zP on) && (decide (sels.length ≠ 0) && (decide (dp + 1 ≤ 16) && Zn (dp + 1) sels)))))
     else false)
def Zn (dp:Int):List SelD→Bool
 | []=>true
 | x::r=>yu dp x&&Zn dp r
end
def yo (dp:Int) (l:List SelD):Bool:=decide (l.length≠0)&&(decide (dp≤16)&&Zn dp l)
def zD (t:TyD):Bool:=zP t.nm&&(decide (0≤t.lists)&&(decide (t.lists≤4)&&(decide (0≤t.musts)&&decide (t.musts<2 ^ (t.lists.toNat+1)))))
noncomputable def zqU (has:Bool) (v:Val):Bool:=if has then zZ 0 true v else eqd v zV
noncomputable def zfq (x:VarD):Bool:=zP x.nm&&(zD x.t&&zqU x.has x.d)
noncomputable def zg6 (o:OpD):Bool:=(decide (o.k=0)||decide (o.k=1))&&((decide (o.nm=[])||zP o.nm)&&(o.vars.all zfq&&(Zf 0 true o.dirs&&yo 1 o.sels)))
def ziw (f:FragD):Bool:=decide (f.nm≠[111,110])&&(zP f.nm&&(zP f.on&&(Zf 0 true f.dirs&&yo 1 f.sels)))
noncomputable def Z6 (d:DocD):Bool:=decide (0<d.ops.length+d.frags.length)&&(d.ops.all zg6&&d.frags.all ziw)
def zgZ (l:List Mem):List Tok:=if l.length=0 then [] else pk [40]::(Yi l++[pk [41]])
def tD (d:DirD):List Tok:=pk [64]::wk d.nm::zgZ d.args
def tDs (l:List DirD):List Tok:=l.flatMap tD
mutual
def tS:SelD→List Tok
 | .mk k al nm args dirs on sels=>(if k=0 then (if al=[] then [] else [wk al,pk [58]])++(wk nm::zgZ args) else if k=1 then [pk [46,46,46],wk nm] else pk [46,46,46]::(if on=[] then [] else [wk [111,110],wk on])) ++
  (tDs dirs++(if sels.length=0 then [] else pk [123]::(tSl sels++[pk [125]])))
def tSl:List SelD→List Tok
 | []=>[]
 | x::r=>tS x++tSl r
end
def tBl (l:List SelD):List Tok:=pk [123]::(tSl l++[pk [125]])
def zc3 (m:Int) (i:Nat):Bool:=decide (m / 2 ^ i % 2=1)
def zqe (n:Nat) (m:Int) (i:Nat):List Tok:=(if i<n then [pk [93]] else [])++(if zc3 m i then [pk [33]] else [])
def zpg (n:Nat) (m:Int):Nat→List Tok
 | 0=>zqe n m 0
 | i+1=>zqe n m (i+1)++zpg n m i
def tTy (t:TyD):List Tok:=List.replicate t.lists.toNat (pk [91])++(wk t.nm::zpg t.lists.toNat t.musts t.lists.toNat)
def tDf (has:Bool) (v:Val):List Tok:=if has then pk [61]::Yo v else []
def tW (x:VarD):List Tok:=pk [36]::wk x.nm::pk [58]::(tTy x.t++tDf x.has x.d)
def tWs (l:List VarD):List Tok:=if l.length=0 then [] else pk [40]::(l.flatMap tW++[pk [41]])
def tO (o:OpD):List Tok:=wk (if o.k=0 then [113,117,101,114,121] else [109,117,116,97,116,105,111,110])::((if o.nm=[] then [] else [wk o.nm])++(tWs o.vars++(tDs o.dirs++tBl o.sels)))
def tF (f:FragD):List Tok:=wk [102,114,97,103,109,101,110,116]::wk f.nm::wk [111,110]::wk f.on::(tDs f.dirs++tBl f.sels)
def zvs (d:DocD):List Tok:=d.ops.flatMap tO++d.frags.flatMap tF
theorem zl0:∀ a b,tSl (a++b)=tSl a++tSl b
 | [],b=>rfl
 | x::a,b=>by simp[tSl,zl0 a b]
theorem zc2 (dp:Int):∀ a b,Zn dp (a++b)=(Zn dp a&&Zn dp b)
 | [],b=>by simp[Zn]
 | x::a,b=>by simp[Zn,zc2 dp a b,yf]
theorem zfg:∀ a b,Yi (a++b)=Yi a++Yi b
 | [],b=>rfl
 | x::a,b=>by simp[Yi,zfg a b]
end Go.Proofs.YtbcocdloklbkjaaGreatDoor
namespace Go.Proofs.YtbcocdloklbkjaaGreatDoor
open Go.Lib
end Go.Proofs.YtbcocdloklbkjaaGreatDoor
namespace Go.Proofs.YtbcocdloklbkjaaGreatDoor
open Go.Ab
abbrev pl (v:Val):Prop:=zdA zP v=true
inductive Shape:Val→Prop
 | null:Shape (.mk 0 0 [] [] [])
 | bool (n:Int) (h:n=0∨n=1):Shape (.mk 1 n [] [] [])
 | int (n:Int):Shape (.mk 2 n [] [] [])
 | num (s:List UInt8) (h:znJ s=true):Shape (.mk 3 0 s [] [])
 | text (s:List UInt8):Shape (.mk 4 0 s [] [])
 | word (s:List UInt8) (h:zn5 s=false):Shape (.mk 5 0 s [] [])
 | var (s:List UInt8):Shape (.mk 8 0 s [] [])
 | list (l:List Val) (h:zgp zP l=true):Shape (.mk 6 0 [] l [])
 | obj (m:List Mem) (h:zgE zP m=true):Shape (.mk 7 0 [] [] m)
theorem zfb {n:Int} {s:List UInt8} {l:List Val} {m:List Mem}:zcG n s l m=true↔n=0∧s=[]∧l=[]∧m=[]:=by
 simp[zcG]
theorem shape:∀ v,pl v→Shape v
 | .mk k n s l m,h=>by
  simp only[pl,zdA] at h
  split at h
  ·rename_i k6
   subst k6
   simp only[Al0,zfb] at h
   obtain⟨h1,rfl,rfl,_,rfl⟩:=h
   exact .list l h1
  ·split at h
   ·rename_i k7
    subst k7
    simp only[Al0,zfb] at h
    obtain⟨h1,rfl,rfl,rfl,_⟩:=h
    exact .obj m h1
   ·simp only[Zj,Al0,zfb] at h
    obtain⟨⟨_,_,rfl,rfl⟩,h⟩:=h
    split at h
    ·rename_i k0
     subst k0
     simp only[Al0,y0] at h
     obtain⟨rfl,rfl⟩:=h
     exact .null
    split at h
    ·rename_i k0
     subst k0
     simp only[Al0,zhr,y0] at h
     obtain⟨h,rfl⟩:=h
     exact .bool n h
    split at h
    ·rename_i k0
     subst k0
     simp only[y0] at h
     subst h
     exact .int n
    split at h
    ·rename_i k0
     subst k0
     simp only[Al0,y0] at h
     obtain⟨rfl,h⟩:=h
     exact .num s h
    split at h
    ·rename_i k0
     subst k0
     simp only[Al0,y0] at h
     obtain⟨rfl,h⟩:=h
     exact .text s
    split at h
    ·rename_i k0
     subst k0
     simp only[Al0,y0,Bool.not_eq_true'] at h
     obtain⟨rfl,_,h⟩:=h
     exact .word s h
    split at h
    ·rename_i k0
     subst k0
     simp only[Al0,y0] at h
     obtain⟨rfl,_⟩:=h
     exact .var s
    ·cases h
open Go.Lib
end Go.Proofs.YtbcocdloklbkjaaGreatDoor
namespace Go.Proofs.YtbcocdloklbkjaaGreatDoor
open Go.Ab
open Go.Lib
end Go.Proofs.YtbcocdloklbkjaaGreatDoor
namespace Go.Proofs.YtbcocdloklbkjaaGreatDoor
open Go.Ab
theorem zkF:∀ {l:List SelD},zhk l→∀ v∈l,wfS v
 | _::_,h,v,hv=>(List.mem_cons.1 hv).elim (fun e=>e▸h.1) (zkF h.2 v)
structure FldD where
 nm:List UInt8
 ps:List VarD
 t:TyD
 dirs:List DirD
structure DefD where
 k:Int
 nm:List UInt8
 faces:List (List UInt8)
 flds:List FldD
 parts:List (List UInt8)
 ps:List VarD
structure SchD where
 defs:List DefD
 q:List UInt8
 m:List UInt8
def cL (x:FldD):List AV:=[.str x.nm,.sl .no 10 (cWs x.ps),.str x.t.nm,.int .i64 x.t.lists,.int .i64 x.t.musts,.sl .no 2 (cDs x.dirs)]
def cLs (l:List FldD):List (List AV):=l.map cL
def cE (x:DefD):List AV:=[.int .i64 x.k,.str x.nm,.sl .no 1 (cT x.faces),.sl .no 6 (cLs x.flds),.sl .no 1 (cT x.parts),.sl .no 10 (cWs x.ps)]
def cEs (l:List DefD):List (List AV):=l.map cE
def zq (s:SchD):List AV:=[.sl .no 6 (cEs s.defs),.str s.q,.str s.m]
theorem zaY (l:List FldD):(cLs l).length=l.length:=by simp[cLs]
theorem zep (l:List DefD):(cEs l).length=l.length:=by simp[cEs]
theorem zdj {l a:List FldD} {x:FldD} {b:List FldD} (h:l=a++x::b):(cLs l).getD a.length []=cL x:=yR h
theorem zdr {l a:List DefD} {x:DefD} {b:List DefD} (h:l=a++x::b):(cEs l).getD a.length []=cE x:=yR h
theorem zaB (nm:List UInt8) (ps:List VarD) (tn:List UInt8) (tl tm:Int) (dirs:List DirD):cL ⟨nm,ps,⟨tn,tl,tm⟩,dirs⟩=[.str nm,.sl .no 10 (cWs ps),.str tn,.int .i64 tl,.int .i64 tm,.sl .no 2 (cDs dirs)]:=rfl
theorem ye (k:Int) (nm:List UInt8) (faces:List (List UInt8)) (flds:List FldD) (parts:List (List UInt8)) (ps:List VarD):cE ⟨k,nm,faces,flds,parts,ps⟩=[.int .i64 k,.str nm,.sl .no 1 (cT faces),.sl .no 6 (cLs flds),.sl .no 1 (cT parts),.sl .no 10 (cWs ps)]:=rfl
def bT (l:List (List UInt8)):Nat:=(l.map fun s=>1+s.length).sum
def bL (x:FldD):Nat:=1+x.nm.length+bWs x.ps+x.t.nm.length+bDs x.dirs
def bLs (l:List FldD):Nat:=(l.map bL).sum
def bE (x:DefD):Nat:=1+x.nm.length+bT x.faces+bLs x.flds+bT x.parts+bWs x.ps
def bEs (l:List DefD):Nat:=(l.map bE).sum
def zJ (s:SchD):Nat:=bEs s.defs+s.q.length+s.m.length
theorem ZP (l:List (List UInt8)):l.length≤bT l:=zby (fun x=>by omega) l
theorem YW (l:List FldD):l.length≤bLs l:=zby (fun x=>by simp only[bL];omega) l
theorem ze7 (l:List DefD):l.length≤bEs l:=zby (fun x=>by simp only[bE];omega) l
theorem zgo (a:List (List UInt8)) (x:List UInt8) (b:List (List UInt8)):bT (a++x::b)=bT a+(1+x.length)+bT b:=zcg ..
theorem zm2 (a:List FldD) (x:FldD) (b:List FldD):bLs (a++x::b)=bLs a+bL x+bLs b:=zcg ..
theorem ziB (a:List DefD) (x:DefD) (b:List DefD):bEs (a++x::b)=bEs a+bE x+bEs b:=zcg ..
def wfL (x:FldD):Prop:=(∀ y∈x.ps,wfW y)∧inR x.t.lists∧inR x.t.musts∧zkY x.dirs
def wfE (x:DefD):Prop:=(∀ y∈x.flds,wfL y)∧∀ y∈x.ps,wfW y
def zcA (s:SchD):Prop:=∀ x∈s.defs,wfE x
def tPa (x:VarD):List Tok:=wk x.nm::pk [58]::(tTy x.t++tDf x.has x.d)
def tPb (l:List VarD):List Tok:=if l.length=0 then [] else pk [40]::(l.flatMap tPa++[pk [41]])
def tL (x:FldD):List Tok:=wk x.nm::(tPb x.ps++pk [58]::(tTy x.t++tDs x.dirs))
def tNs (m:List UInt8):List (List UInt8)→List Tok
 | []=>[]
 | s::r=>wk s::r.flatMap fun s=>[pk m,wk s]
def tE (x:DefD):List Tok :=
 if x.k=1∨x.k=2 then wk (if x.k=1 then [116,121,112,101] else [105,110,116,101,114,102,97,99,101])::wk x.nm::((if x.faces.length=0 then [] else wk [105,109,112,108,101,109,101,110,116,115]::tNs [38] x.faces)++(pk [123]::(x.flds.flatMap tL++[pk [125]])))
 else if x.k=3 then wk [117,110,105,111,110]::wk x.nm::pk [61]::tNs [124] x.parts
 else if x.k=4 then wk [101,110,117,109]::wk x.nm::pk [123]::(x.parts.map wk++[pk [125]])
 else wk [105,110,112,117,116]::wk x.nm::pk [123]::(x.ps.flatMap tPa++[pk [125]])
def tRt (q m:List UInt8):List Tok:=wk [115,99,104,101,109,97]::pk [123]::wk [113,117,101,114,121]::pk [58]::wk q::((if m=[] then [] else [wk [109,117,116,97,116,105,111,110],pk [58],wk m])++[pk [125]])
def zvT (s:SchD):List Tok:=tRt s.q s.m++s.defs.flatMap tE
noncomputable def zfE (x:FldD):Bool:=zP x.nm&&(x.ps.all zfq&&(zD x.t&&Zf 0 true x.dirs))
def YG (s:List UInt8):Bool:=decide (s≠[116,114,117,101])&&(decide (s≠[102,97,108,115,101])&&decide (s≠[110,117,108,108]))
noncomputable def YA (x:DefD):Bool :=
 zP x.nm&&(if x.k=1∨x.k=2 then x.faces.all zP&&(x.flds.all zfE&&(decide (x.flds.length≠0)&&(decide (x.parts.length=0)&&decide (x.ps.length=0))))
 else if x.k=3 then x.parts.all zP&&(decide (x.parts.length≠0)&&(decide (x.faces.length=0)&&(decide (x.flds.length=0)&&decide (x.ps.length=0))))
 else if x.k=4 then (x.parts.all zP&&x.parts.all YG)&&(decide (x.parts.length≠0)&&(decide (x.faces.length=0)&&(decide (x.flds.length=0)&&decide (x.ps.length=0))))
 else if x.k=5 then x.ps.all zfq&&(decide (x.ps.length≠0)&&(decide (x.faces.length=0)&&(decide (x.flds.length=0)&&decide (x.parts.length=0))))
 else false)
noncomputable def zba (s:SchD):Bool:=s.defs.all YA&&(zP s.q&&(decide (s.m=[])||zP s.m))
def zbk {α:Type} (p:α→Bool):List α→Int→Int
 | [],_=>-1
 | x::r,i=>if p x=true then i else zbk p r (i+1)
abbrev At (r:AV) (H:zc):AEnd→zc→Prop:=fun e H'=>∃ v,e=.ret v∧v=r∧H'=H
theorem zkm {α:Type} (p:α→Bool):∀(l:List α) (i:Int),0≤i→decide (0≤zbk p l i)=l.any p
 | [],i,_=>by simp[zbk]
 | x::r,i,hi=>by
  by_cases h:p x=true
  ·simp[zbk,h];omega
  ·simp only[zbk,h,if_false,List.any_cons,Bool.false_or];exact zkm p r (i+1) (by omega)
theorem zag {α:Type} (p:α→Bool):∀(l:List α) (i:Int),(∃ a x r,l=a++x::r∧p x=true∧l.find? p=some x∧zbk p l i=i+a.length)∨(l.find? p=none∧zbk p l i=-1)
 | [],i=>.inr ⟨rfl,rfl⟩
 | x::l,i=>by
  by_cases h:p x=true
  ·exact .inl ⟨[],x,l,rfl,h,by simp[h],by simp[zbk,h]⟩
  ·rcases zag p l (i+1) with ⟨a,y,r,h1,h2,h3,h4⟩|⟨h1,h2⟩
   ·exact .inl ⟨x::a,y,r,by simp[h1],h2,by simp[h,h3],by simp[zbk,h,h4];omega⟩
   ·exact .inr ⟨by simp[h,h1],by simp[zbk,h,h2]⟩
def ixF (sz : Nat) (ag : Bool) : AFn := ⟨19, 2, [.t 4], .seq (.reg [] [⟨some 4, none, .mv (.k (.int .i64 0)), []⟩])
  (.seq (.seq (.reg [] [⟨some 6, none, .mv (.t 0), []⟩, ⟨some 7, none, .len (.t 6), []⟩, ⟨some 8, none, .mv (.k (.int .i64 0)), []⟩])
  (.block 0 (.loop [0, 1, 7, 8] (.seq (.reg [] [⟨some 9, none, .bi .lss .i64 (.t 8) (.t 7), []⟩])
    (.seq (.cond (.t 9) (.skip) (.exit 0))
    (.seq (.block 1 (.seq (.reg [] [⟨some 10, none, .mv (.t 8), []⟩, ⟨some 5, none, .mv (.t 10), []⟩])
     (.seq (.reg [] [⟨some 11, none, .mv (.t 1), []⟩, ⟨some 12, none, .mv (.t 0), []⟩, ⟨some 13, none, .mv (.t 5), []⟩, ⟨some 14, none, .ia sz (.t 12) (.t 13), []⟩, ⟨some 15, none, .ld sz ag (.t 14), []⟩, ⟨some 16, none, .callv (.t 11) [(.t 15)], []⟩])
     (.cond (.t 16) (.seq (.reg [] [⟨some 17, none, .mv (.t 5), []⟩, ⟨some 4, none, .mv (.t 17), []⟩])
      (.ret)) (.skip)))))
    (.reg [] [⟨some 18, none, .bi .add .i64 (.t 8) (.k (.int .i64 1)), []⟩, ⟨some 8, none, .mv (.t 18), []⟩])))))))
  (.seq (.reg [] [⟨some 4, none, .mv (.k (.int .i64 (-1))), []⟩])
  (.ret)))⟩
def ctF (g:FuncId):AFn:=⟨9,2,[.t 4],.seq (.reg [] [⟨some 4,none,.mv (.k (.bool false)),[]⟩])
 (.seq (.reg [] [⟨some 5,none,.mv (.t 0),[]⟩,⟨some 6,none,.mv (.t 1),[]⟩,⟨some 7,none,.call g [(.t 5),(.t 6)],[]⟩,⟨some 8,none,.bi .geq .i64 (.t 7) (.k (.int .i64 0)),[]⟩,⟨some 4,none,.mv (.t 8),[]⟩])
 (.ret))⟩
theorem Y8 {P:Program} {f:FuncId} {args:List AV} {r:AV} (h:zk P f args zc.emp (At r zc.emp)):zi P f args r:=h.mono fun e H' ⟨v,e1,e2,e3⟩=>by subst e2;exact⟨e1,e3⟩
theorem Z9 {P:Program} {f:FuncId} {args:List AV} {r:AV} (h:zi P f args r) (H:zc):zk P f args H (At r H) :=
 (h.use (K:=fun v H'=>v=r∧H'=H) (KP:=fun _ _=>False) ⟨rfl,rfl⟩).mono fun e H' he=>by
  cases e with
  | ret v=>exact⟨v,rfl,he.1,he.2⟩
  | pan v=>exact he.elim
abbrev ByH {α:Type} (l:List α) (v:α→AV) (f:FuncId) (caps:List AV) (p:α→Bool) (H:zc):Prop:=∀ x∈l,zk Tryz.prog f (v x::caps) H (At (.bool (p x)) H)
abbrev ByP {α:Type} (l:List α) (v:α→AV) (f:FuncId) (caps:List AV) (p:α→Bool):Prop:=∀ x∈l,zi Tryz.prog f (v x::caps) (.bool (p x))
theorem YF {α:Type} {sz:Nat} {ag:Bool} {g:FuncId} (hck:zj Tryz.prog g (ixF sz ag)=true) (c:α→List AV) (v:α→AV) (hz:∀ x,(c x).length=sz) (hv:∀ x,mk ag (c x)=v x) (l:List α) (f:FuncId) (caps:List AV) (p:α→Bool) (H:zc) (hl:l.length≤Lim) (hf:Program.callable Tryz.prog f=true) (hc:ByH l v f caps p H) :
  zk Tryz.prog g [.sl .no sz (l.map c),.clo f [] caps] H (At (.int .i64 (zbk p l 0)) H):=by
 refine zk.go (ixF sz ag) hck (Al4 _) fun KP Q hQ=>?_
 have h1:(l.map c).length=l.length:=List.length_map ..
 simp only[Lim] at hl
 simp(disch:=omega) only[ixF,h1,go_sem]
 refine zf l 8 (fun _:Unit=>[]) (fun done rest n H1=>zbk p rest done.length=zbk p l 0∧H1=H) () (by simp(disch:=omega) only[go_sem]) ⟨by simp,rfl⟩ ?_ ?_
 ·rintro n _ J ⟨hp,rfl⟩ hlt
  simp only[zbk] at hp
  simp(disch:=omega) only[h1,hlt,go_sem]
  exact hQ _ _ _ _ _ nofun rfl (Low.refl _) ⟨by simp[zd,ze,AV.strip,AV.strip1,← hp],rfl⟩
 ·rintro done x rest n _ J hd hlt _ ⟨hp,rfl⟩ hJ
  have hg:(l.map c).getD done.length []=c x:=yR hd
  have ht:List.take sz (c x)=c x:=List.take_of_length_le (by rw[hz x];exact Al4 _)
  have hvx:=hv x
  simp(disch:=omega) only[h1,hlt,hg,hz x,ht,Al4,hvx,zw,steps,st2,pev,rev,oev,yj,yt,yA,yB,bound,zM,mm2,zw,AV.cells,AV.boxable,AV.one,AV.strip1,AV.strip2,zN,zI,Nat.reduceEqDiff,reduceCtorEq,↓reduceIte,Nat.reduceAdd,Int.reduceNeg,Nat.reduceLeDiff,Int.reduceToNat,Int.reduceEq,Int.reduceLT,Int.reduceLE,Int.reduceAdd]
  refine⟨hf,z6 (hc x (by rw[hd];simp)) ?_⟩
  rintro _ _ ⟨_,rfl,rfl,rfl⟩
  by_cases h:p x=true
  ·simp(disch:=omega) only[ZU,h,go_sem]
   rw[zbk,if_pos h] at hp
   exact hQ _ _ _ _ _ nofun rfl (Low.refl _) ⟨by simp[zd,ze,AV.strip,AV.strip1,← hp],rfl⟩
  ·rw[zbk,if_neg h] at hp
   have h':p x=false:=by simpa using h
   simp(disch:=omega) only[ZU,h',go_sem]
   exact goJ (hJ () _ ⟨by rw[← hp];simp,rfl⟩) (by simp(disch:=omega) only[wrap64,go_sem])
theorem zbe {α:Type} {g g2:FuncId} (hck:zj Tryz.prog g2 (ctF g)=true) {xs v:AV} {l:List α} {p:α→Bool} {H:zc} (hi:zk Tryz.prog g [xs,v] H (At (.int .i64 (zbk p l 0)) H)):zk Tryz.prog g2 [xs,v] H (At (.bool (l.any p)) H):=by
 refine zk.go (ctF g) hck (Al4 _) fun KP Q hQ=>?_
 simp(disch:=omega) only[ctF,go_sem]
 refine z6 hi ?_
 rintro _ _ ⟨_,rfl,rfl,rfl⟩
 simp(disch:=omega) only[ZU,go_sem]
 have:=zkm p l 0 (by omega)
 exact hQ _ _ _ _ _ nofun rfl (Low.refl _) ⟨by simp[zd,ze,AV.strip,AV.strip1,this],rfl⟩
theorem zrh {α:Type} (c:α→List AV) (hz:∀ x,(c x).length=6) (l:List α) (f:FuncId) (caps:List AV) (p:α→Bool) (H:zc) (hl:l.length≤Lim) (hf:Program.callable Tryz.prog f=true) (hc:ByH l (fun x=>.agg (c x)) f caps p H):zk Tryz.prog 213 [.sl .no 6 (l.map c),.clo f [] caps] H (At (.bool (l.any p)) H):=zbe ck213 (YF ck238 c (fun x=>.agg (c x)) hz (fun _=>rfl) l f caps p H hl hf hc)
theorem zse {α:Type} (c:α→List AV) (hz:∀ x,(c x).length=6) (l:List α) (f:FuncId) (caps:List AV) (p:α→Bool) (H:zc) (hl:l.length≤Lim) (hf:Program.callable Tryz.prog f=true) (hc:ByH l (fun x=>.agg (c x)) f caps p H):zk Tryz.prog 138 [.sl .no 6 (l.map c),.clo f [] caps] H (At (.int .i64 (zbk p l 0)) H):=YF ck138 c (fun x=>.agg (c x)) hz (fun _=>rfl) l f caps p H hl hf hc
theorem zi3 {α:Type} (c:α→List AV) (hz:∀ x,(c x).length=6) (l:List α) (f:FuncId) (caps:List AV) (p:α→Bool) (H:zc) (hl:l.length≤Lim) (hf:Program.callable Tryz.prog f=true) (hc:ByH l (fun x=>.agg (c x)) f caps p H):zk Tryz.prog 169 [.sl .no 6 (l.map c),.clo f [] caps] H (At (.bool (l.any p)) H):=zbe ck169 (YF ck138 c (fun x=>.agg (c x)) hz (fun _=>rfl) l f caps p H hl hf hc)
theorem ztq {α:Type} (c:α→List AV) (hz:∀ x,(c x).length=6) (l:List α) (f:FuncId) (caps:List AV) (p:α→Bool) (hl:l.length≤Lim) (hf:Program.callable Tryz.prog f=true) (hc:ByP l (fun x=>.agg (c x)) f caps p):zi Tryz.prog 138 [.sl .no 6 (l.map c),.clo f [] caps] (.int .i64 (zbk p l 0)):=Y8 (YF ck138 c (fun x=>.agg (c x)) hz (fun _=>rfl) l f caps p _ hl hf fun x hx=>Z9 (hc x hx) _)
theorem anyOp {α:Type} (c:α→List AV) (hz:∀ x,(c x).length=5) (l:List α) (f:FuncId) (caps:List AV) (p:α→Bool) (hl:l.length≤Lim) (hf:Program.callable Tryz.prog f=true) (hc:ByP l (fun x=>.agg (c x)) f caps p):zi Tryz.prog 40 [.sl .no 5 (l.map c),.clo f [] caps] (.bool (l.any p)):=Y8 (zbe ck40 (YF ck74 c (fun x=>.agg (c x)) hz (fun _=>rfl) l f caps p _ hl hf fun x hx=>Z9 (hc x hx) _))
theorem zqr {α:Type} (c:α→List AV) (hz:∀ x,(c x).length=4) (l:List α) (f:FuncId) (caps:List AV) (p:α→Bool) (H:zc) (hl:l.length≤Lim) (hf:Program.callable Tryz.prog f=true) (hc:ByH l (fun x=>.agg (c x)) f caps p H):zk Tryz.prog 75 [.sl .no 4 (l.map c),.clo f [] caps] H (At (.bool (l.any p)) H):=zbe ck75 (YF ck130 c (fun x=>.agg (c x)) hz (fun _=>rfl) l f caps p H hl hf hc)
theorem zre {α:Type} (c:α→List AV) (hz:∀ x,(c x).length=4) (l:List α) (f:FuncId) (caps:List AV) (p:α→Bool) (hl:l.length≤Lim) (hf:Program.callable Tryz.prog f=true) (hc:ByP l (fun x=>.agg (c x)) f caps p):zi Tryz.prog 130 [.sl .no 4 (l.map c),.clo f [] caps] (.int .i64 (zbk p l 0)):=Y8 (YF ck130 c (fun x=>.agg (c x)) hz (fun _=>rfl) l f caps p _ hl hf fun x hx=>Z9 (hc x hx) _)
theorem zmo {α:Type} (c:α→List AV) (hz:∀ x,(c x).length=4) (l:List α) (f:FuncId) (caps:List AV) (p:α→Bool) (hl:l.length≤Lim) (hf:Program.callable Tryz.prog f=true) (hc:ByP l (fun x=>.agg (c x)) f caps p):zi Tryz.prog 75 [.sl .no 4 (l.map c),.clo f [] caps] (.bool (l.any p)):=Y8 (zbe ck75 (YF ck130 c (fun x=>.agg (c x)) hz (fun _=>rfl) l f caps p _ hl hf fun x hx=>Z9 (hc x hx) _))
theorem zr8 {α:Type} (c:α→List AV) (hz:∀ x,(c x).length=10) (l:List α) (f:FuncId) (caps:List AV) (p:α→Bool) (H:zc) (hl:l.length≤Lim) (hf:Program.callable Tryz.prog f=true) (hc:ByH l (fun x=>.agg (c x)) f caps p H):zk Tryz.prog 186 [.sl .no 10 (l.map c),.clo f [] caps] H (At (.bool (l.any p)) H):=zbe ck186 (YF ck141 c (fun x=>.agg (c x)) hz (fun _=>rfl) l f caps p H hl hf hc)
theorem zue {α:Type} (c:α→List AV) (hz:∀ x,(c x).length=10) (l:List α) (f:FuncId) (caps:List AV) (p:α→Bool) (hl:l.length≤Lim) (hf:Program.callable Tryz.prog f=true) (hc:ByP l (fun x=>.agg (c x)) f caps p):zi Tryz.prog 141 [.sl .no 10 (l.map c),.clo f [] caps] (.int .i64 (zbk p l 0)):=Y8 (YF ck141 c (fun x=>.agg (c x)) hz (fun _=>rfl) l f caps p _ hl hf fun x hx=>Z9 (hc x hx) _)
theorem zp2 {α:Type} (c:α→List AV) (hz:∀ x,(c x).length=10) (l:List α) (f:FuncId) (caps:List AV) (p:α→Bool) (hl:l.length≤Lim) (hf:Program.callable Tryz.prog f=true) (hc:ByP l (fun x=>.agg (c x)) f caps p):zi Tryz.prog 186 [.sl .no 10 (l.map c),.clo f [] caps] (.bool (l.any p)):=Y8 (zbe ck186 (YF ck141 c (fun x=>.agg (c x)) hz (fun _=>rfl) l f caps p _ hl hf fun x hx=>Z9 (hc x hx) _))
theorem zg5 {α:Type} (c:α→List AV) (hz:∀ x,(c x).length=10) (l:List α) (f:FuncId) (caps:List AV) (p:α→Bool) (H:zc) (hl:l.length≤Lim) (hf:Program.callable Tryz.prog f=true) (hc:ByH l (fun x=>.agg (c x)) f caps p H):zk Tryz.prog 102 [.sl .no 10 (l.map c),.clo f [] caps] H (At (.bool (l.any p)) H):=zbe ck102 (YF ck145 c (fun x=>.agg (c x)) hz (fun _=>rfl) l f caps p H hl hf hc)
theorem znT {α:Type} (c:α→List AV) (hz:∀ x,(c x).length=10) (l:List α) (f:FuncId) (caps:List AV) (p:α→Bool) (hl:l.length≤Lim) (hf:Program.callable Tryz.prog f=true) (hc:ByP l (fun x=>.agg (c x)) f caps p):zi Tryz.prog 145 [.sl .no 10 (l.map c),.clo f [] caps] (.int .i64 (zbk p l 0)):=Y8 (YF ck145 c (fun x=>.agg (c x)) hz (fun _=>rfl) l f caps p _ hl hf fun x hx=>Z9 (hc x hx) _)
theorem zn6 {α:Type} (c:α→List AV) (hz:∀ x,(c x).length=10) (l:List α) (f:FuncId) (caps:List AV) (p:α→Bool) (hl:l.length≤Lim) (hf:Program.callable Tryz.prog f=true) (hc:ByP l (fun x=>.agg (c x)) f caps p):zi Tryz.prog 102 [.sl .no 10 (l.map c),.clo f [] caps] (.bool (l.any p)):=Y8 (zbe ck102 (YF ck145 c (fun x=>.agg (c x)) hz (fun _=>rfl) l f caps p _ hl hf fun x hx=>Z9 (hc x hx) _))
theorem zs3 {α:Type} (c:α→List AV) (hz:∀ x,(c x).length=7) (l:List α) (f:FuncId) (caps:List AV) (p:α→Bool) (hl:l.length≤Lim) (hf:Program.callable Tryz.prog f=true) (hc:ByP l (fun x=>.agg (c x)) f caps p):zi Tryz.prog 134 [.sl .no 7 (l.map c),.clo f [] caps] (.bool (l.any p)):=Y8 (zbe ck134 (YF ck196 c (fun x=>.agg (c x)) hz (fun _=>rfl) l f caps p _ hl hf fun x hx=>Z9 (hc x hx) _))
theorem zq2 {α:Type} (c:α→List AV) (hz:∀ x,(c x).length=6) (l:List α) (f:FuncId) (caps:List AV) (p:α→Bool) (H:zc) (hl:l.length≤Lim) (hf:Program.callable Tryz.prog f=true) (hc:ByH l (fun x=>.agg (c x)) f caps p H):zk Tryz.prog 250 [.sl .no 6 (l.map c),.clo f [] caps] H (At (.bool (l.any p)) H):=zbe ck250 (YF ck261 c (fun x=>.agg (c x)) hz (fun _=>rfl) l f caps p H hl hf hc)
theorem zey {α:Type} (c:α→AV) (l:List α) (f:FuncId) (caps:List AV) (p:α→Bool) (H:zc) (hl:l.length≤Lim) (hf:Program.callable Tryz.prog f=true) (hc:ByH l c f caps p H):zk Tryz.prog 83 [.sl .no 1 (l.map (fun x=>[c x])),.clo f [] caps] H (At (.bool (l.any p)) H):=zbe ck83 (YF ck136 (fun x=>[c x]) c (fun _=>rfl) (fun _=>rfl) l f caps p H hl hf hc)
theorem zlf {α:Type} (c:α→AV) (l:List α) (f:FuncId) (caps:List AV) (p:α→Bool) (hl:l.length≤Lim) (hf:Program.callable Tryz.prog f=true) (hc:ByP l c f caps p):zi Tryz.prog 83 [.sl .no 1 (l.map (fun x=>[c x])),.clo f [] caps] (.bool (l.any p)):=Y8 (zbe ck83 (YF ck136 (fun x=>[c x]) c (fun _=>rfl) (fun _=>rfl) l f caps p _ hl hf fun x hx=>Z9 (hc x hx) _))
theorem zqi {α:Type} (c:α→AV) (l:List α) (f:FuncId) (caps:List AV) (p:α→Bool) (H:zc) (hl:l.length≤Lim) (hf:Program.callable Tryz.prog f=true) (hc:ByH l c f caps p H):zk Tryz.prog 78 [.sl .no 1 (l.map (fun x=>[c x])),.clo f [] caps] H (At (.bool (l.any p)) H):=zbe ck78 (YF ck133 (fun x=>[c x]) c (fun _=>rfl) (fun _=>rfl) l f caps p H hl hf hc)
theorem zr0 {α:Type} (c:α→AV) (l:List α) (f:FuncId) (caps:List AV) (p:α→Bool) (hl:l.length≤Lim) (hf:Program.callable Tryz.prog f=true) (hc:ByP l c f caps p):zi Tryz.prog 78 [.sl .no 1 (l.map (fun x=>[c x])),.clo f [] caps] (.bool (l.any p)):=Y8 (zbe ck78 (YF ck133 (fun x=>[c x]) c (fun _=>rfl) (fun _=>rfl) l f caps p _ hl hf fun x hx=>Z9 (hc x hx) _))
end Go.Proofs.YtbcocdloklbkjaaGreatDoor
