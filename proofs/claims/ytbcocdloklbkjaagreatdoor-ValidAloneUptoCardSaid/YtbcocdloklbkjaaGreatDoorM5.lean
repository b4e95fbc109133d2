import Derived.JoinedOf
import Derived.Lib.ItoaMem
import Derived.Lib.ParseIntBTie
import Derived.Lib.ValidLaws
import Derived.Test.YtbcocdloklbkjaaGreatDoorM1
import Derived.Test.YtbcocdloklbkjaaGreatDoorM2
import Derived.Test.YtbcocdloklbkjaaGreatDoorM3
import Derived.Test.YtbcocdloklbkjaaGreatDoorM4
set_option maxRecDepth 100000
set_option linter.all false
namespace Go.Proofs.YtbcocdloklbkjaaGreatDoor
open Go.Ab
mutual
inductive Val where
 | mk (k n:Int) (s:List UInt8) (l:List Val) (m:List Mem)
inductive Mem where
 | mk (name:List UInt8) (v:Val)
end
mutual
def cV:Val→List AV
 | .mk k n s l m=>[.int .i64 k,.int .i64 n,.str s,.sl .no 5 (cVs l),.sl .no 6 (cMs m)]
def cVs:List Val→List (List AV)
 | []=>[]
 | v::r=>cV v::cVs r
def cM:Mem→List AV
 | .mk s v=>.str s::cV v
def cMs:List Mem→List (List AV)
 | []=>[]
 | x::r=>cM x::cMs r
end
theorem zf6:∀ l,cVs l=l.map cV
 | []=>rfl
 | v::r=>by rw[cVs,zf6 r];rfl
theorem zcu:∀ l,cMs l=l.map cM
 | []=>rfl
 | v::r=>by rw[cMs,zcu r];rfl
theorem zan (l:List Val):(cVs l).length=l.length:=by rw[zf6];simp
theorem Za (l:List Mem):(cMs l).length=l.length:=by rw[zcu];simp
theorem za1 {l a:List Val} {x:Val} {b:List Val} (h:l=a++x::b):(cVs l).getD a.length []=cV x:=by rw[zf6,yQ h]
theorem Zs {l a:List Mem} {x:Mem} {b:List Mem} (h:l=a++x::b):(cMs l).getD a.length []=cM x:=by rw[zcu,yQ h]
theorem yo (k n:Int) (s:List UInt8) (l:List Val) (m:List Mem):cV (.mk k n s l m)=[.int .i64 k,.int .i64 n,.str s,.sl .no 5 (cVs l),.sl .no 6 (cMs m)]:=rfl
theorem zr (s:List UInt8) (v:Val):cM (.mk s v)=.str s::cV v:=rfl
theorem zgB (v:Val):(cV v).map AV.strip1=cV v:=by cases v;rfl
mutual
theorem Val.ind {P:Val→Prop} (h:∀ k n s l m,(∀ v∈l,P v)→(∀ s v,Mem.mk s v∈m→P v)→P (.mk k n s l m)):∀ v,P v
 | .mk k n s l m=>h k n s l m (Val.indL h l) (fun s v hm=>Val.indM h m s v hm)
theorem Val.indL {P:Val→Prop} (h:∀ k n s l m,(∀ v∈l,P v)→(∀ s v,Mem.mk s v∈m→P v)→P (.mk k n s l m)):∀ l:List Val,∀ v∈l,P v
 | [],_,hv=>by cases hv
 | x::r,v,hv=>(List.mem_cons.1 hv).elim (fun e=>e▸Val.ind h x) (Val.indL h r v)
theorem Val.ind1 {P:Val→Prop} (h:∀ k n s l m,(∀ v∈l,P v)→(∀ s v,Mem.mk s v∈m→P v)→P (.mk k n s l m)):∀ m:Mem,∀ s v,m=.mk s v→P v
 | .mk s v,s',v',e=>by cases e;exact Val.ind h v
theorem Val.indM {P:Val→Prop} (h:∀ k n s l m,(∀ v∈l,P v)→(∀ s v,Mem.mk s v∈m→P v)→P (.mk k n s l m)):∀ l:List Mem,∀ s v,Mem.mk s v∈l→P v
 | [],_,_,hv=>by cases hv
 | x::r,s,v,hv=>(List.mem_cons.1 hv).elim (fun e=>Val.ind1 h x s v e.symm) (Val.indM h r s v)
end
theorem zp (v:Val):(cV v).length=5:=by cases v;rfl
theorem zo (x:Mem):(cM x).length=6:=by cases x with|mk s v=>cases v;rfl
theorem zl (v:Val):(cV v).take 5=cV v:=by cases v;rfl
theorem zm (x:Mem):(cM x).take 6=cM x:=by cases x with|mk s v=>cases v;rfl
theorem zh (a b c d e:AV) (v:Val):splice [a,b,c,d,e] 0 (cV v)=cV v:=by cases v;rfl
theorem zi (a b c d e f:AV) (x:Mem):splice [a,b,c,d,e,f] 0 (cM x)=cM x:=by cases x with|mk s v=>cases v;rfl
mutual
def bV:Val→Nat
 | .mk _ _ s l m=>1+s.length+bVs l+bMs m
def bVs:List Val→Nat
 | []=>0
 | v::r=>bV v+bVs r
def bM:Mem→Nat
 | .mk s v=>s.length+bV v
def bMs:List Mem→Nat
 | []=>0
 | x::r=>bM x+bMs r
end
theorem YZ (v:Val):1≤bV v:=by cases v;simp only[bV];omega
theorem ztC (v:Mem):1≤bM v:=by cases v with|mk s v=>have:=YZ v;simp only[bM];omega
theorem za0:∀ l,l.length≤bVs l
 | []=>by simp
 | v::r=>by have:=za0 r;have:=YZ v;simp only[bVs,Al2];omega
theorem Ze:∀ l,l.length≤bMs l
 | []=>by simp
 | v::r=>by have:=Ze r;have:=ztC v;simp only[bMs,Al2];omega
theorem zfZ (a:List Val) (x:Val) (b:List Val):bVs (a++x::b)=bVs a+bV x+bVs b:=by
 induction a with
 | nil=>simp[bVs]
 | cons y a ih=>simp only[Al6,bVs,ih];omega
theorem zat (a:List Mem) (x:Mem) (b:List Mem):bMs (a++x::b)=bMs a+bM x+bMs b:=by
 induction a with
 | nil=>simp[bMs]
 | cons y a ih=>simp only[Al6,bMs,ih];omega
abbrev Lim:Nat:=1099511627776
theorem zjU:∀ v,bV v≤Lim→zg Tryz.prog 35 [.agg (cV v)] (.int .i64 (bV v)):=by
 refine Val.ind fun k n s l m ihl ihm hb=>?_
 refine zg.go ir35 ck35 (Al4 _) fun KP Q hQ=>?_
 have hl:=zan l
 have hm:=Za m
 have hll:=za0 l
 have hml:=Ze m
 have hb':1+s.length+bVs l+bMs m≤Lim:=hb
 simp only[Lim] at hb'
 simp(disch:=omega) only[ir35,yo,wrap64,go_sem]
 refine zf l 4 (fun n:Int=>[(3,.int .i64 n)]) (fun done rest n H=>n+bVs rest=1+s.length+bVs l∧H=zc.emp) (1+s.length) (by simp(disch:=omega) only[go_sem]) ⟨by omega,rfl⟩ ?_ ?_
 ·rintro n H J ⟨hn,rfl⟩ hlt
  simp only[bVs] at hn
  simp(disch:=omega) only[hl,hlt,go_sem]
  refine zf m 5 (fun n:Int=>[(3,.int .i64 n)]) (fun done rest n H=>n+bMs rest=1+s.length+bVs l+bMs m∧H=zc.emp) n (by simp(disch:=omega) only[go_sem]) ⟨by omega,rfl⟩ ?_ ?_
  ·rintro n H J ⟨hn,rfl⟩ hlt
   simp only[bMs] at hn
   simp(disch:=omega) only[hm,hlt,go_sem]
   have:n=((bV (.mk k n s l m):Nat):Int):=by simp only[bV];omega
   exact hQ _ _ _ _ nofun rfl (by simp[zd,ze,AV.strip,AV.strip1,bV,this])
  ·rintro done x rest n H J hd hlt _ ⟨hn,rfl⟩ hJ
   have hg:=Zs hd
   have hbm:=zat done x rest
   rw[← hd] at hbm
   cases x with
   | mk t v =>
   simp only[bMs,bM] at hn hbm
   simp(disch:=omega) only[zp,zl,zh,zo,zm,zi,zr,hm,hlt,hg,wrap64,go_sem]
   refine za (ihm t v (by rw[hd];simp) (by simp only[Lim];omega)) ?_
   simp(disch:=omega) only[hl,hm,hlt,hg,zr,wrap64,go_sem]
   refine goJ (hJ (n+t.length+bV v) zc.emp ⟨by omega,rfl⟩) (by simp(disch:=omega) only[go_sem])
 ·rintro done x rest n H J hd hlt _ ⟨hn,rfl⟩ hJ
  have hg:=za1 hd
  have hbm:=zfZ done x rest
  rw[← hd] at hbm
  simp only[bVs] at hn
  simp(disch:=omega) only[zp,zl,zh,zo,zm,zi,zr,hl,hlt,hg,go_sem]
  refine za (ihl x (by rw[hd];simp) (by simp only[Lim];omega)) ?_
  simp(disch:=omega) only[wrap64,go_sem]
  refine goJ (hJ (n+bV x) zc.emp ⟨by omega,rfl⟩) (by simp(disch:=omega) only[go_sem])
noncomputable def eqd {α:Type} (a b:α):Bool:=@decide (a=b) (Classical.propDecidable _)
theorem YN {α:Type} {a b:α} (h:a=b):eqd a b=true:=by simp[eqd,h]
theorem y0 {α:Type} {a b:α} (h:a≠b):eqd a b=false:=by simp[eqd,h]
def cT (l:List (List UInt8)):List (List AV):=l.map fun k=>[.str k]
theorem zK (l:List (List UInt8)):(cT l).length=l.length:=by simp[cT]
theorem ZZ {l a:List (List UInt8)} {x:List UInt8} {b:List (List UInt8)} (h:l=a++x::b):(cT l).getD a.length []=[.str x]:=yQ h
theorem zl7 {α:Type} {a b done rest:List α} {x:α} (h:a=done++x::rest) (hl:a.length=b.length) (hp:b.take done.length=done):∃ y r,b=done++y::r:=by
 have h1:done.length<b.length:=by rw[← hl,h];simp
 refine⟨b[done.length],b.drop (done.length+1),?_⟩
 conv=>lhs;rw[← List.take_append_drop done.length b,hp,List.drop_eq_getElem_cons h1]
theorem zjw {α:Type} {b done r:List α} {y:α} (h:b=done++y::r):b.take (done++[y]).length=done++[y]:=by
 subst h
 have e:done++y::r=(done++[y])++r:=by simp
 rw[e,List.take_left'];rfl
theorem zm3 {α:Type} {a b:List α} (hl:a.length=b.length) (hp:b.take a.length=a):a=b:=by
 rw[hl,List.take_length] at hp;exact hp.symm
theorem zpc {α:Type} {a b done rest r:List α} {x y:α} (h:a=done++x::rest) (h':b=done++y::r) (hxy:x≠y):a≠b:=fun e=>by
 rw[h,h'] at e
 exact hxy (List.cons.inj (List.append_cancel_left e)).1
mutual
def Zx:Val→Int
 | .mk k _ _ l m=>if k=6 then YF l 0+1 else if k=7 then YH m 0+1 else 0
def YF:List Val→Int→Int
 | [],n=>n
 | v::r,n=>YF r (mm2 true n (Zx v))
def zbI:Mem→Int
 | .mk _ v=>Zx v
def YH:List Mem→Int→Int
 | [],n=>n
 | x::r,n=>YH r (mm2 true n (zbI x))
end
theorem zpD (a b:Int):a≤mm2 true a b:=by simp only[mm2,if_true];split<;>omega
mutual
theorem zdr:∀ v,0≤Zx v∧Zx v≤bV v
 | .mk k n s l m=>by
  have h1:=zdY l 0
  have h2:=zdZ m 0
  simp only[Zx,bV]
  split
  ·omega
  ·split<;>omega
theorem zdY:∀ l (n:Int),n≤YF l n∧(YF l n≤n∨YF l n≤bVs l)
 | [],n=>by simp[YF,bVs]
 | v::r,n=>by
  have h1:=zdr v
  have h2:=zdY r (mm2 true n (Zx v))
  have h3:=zpD n (Zx v)
  have h4:mm2 true n (Zx v)=n∨mm2 true n (Zx v)=Zx v:=by simp only[mm2,if_true];split<;>simp
  simp only[YF,bVs]
  omega
theorem zny:∀ x,0≤zbI x∧zbI x≤bM x
 | .mk s v=>by have:=zdr v;simp only[zbI,bM];omega
theorem zdZ:∀ l (n:Int),n≤YH l n∧(YH l n≤n∨YH l n≤bMs l)
 | [],n=>by simp[YH,bMs]
 | v::r,n=>by
  have h1:=zny v
  have h2:=zdZ r (mm2 true n (zbI v))
  have h3:=zpD n (zbI v)
  have h4:mm2 true n (zbI v)=n∨mm2 true n (zbI v)=zbI v:=by simp only[mm2,if_true];split<;>simp
  simp only[YH,bMs]
  omega
end
theorem zdM:∀ v,bV v≤Lim→zg Tryz.prog 242 [.agg (cV v)] (.int .i64 (Zx v)):=by
 refine Val.ind fun k n s l m ihl ihm hb=>?_
 refine zg.go ir242 ck242 (Al4 _) fun KP Q hQ=>?_
 have hl:=zan l
 have hm:=Za m
 have hll:=za0 l
 have hml:=Ze m
 have hb':1+s.length+bVs l+bMs m≤Lim:=hb
 simp only[Lim] at hb'
 have d1:=zdY l 0
 have d2:=zdZ m 0
 by_cases k6:k=6
 ·subst k6
  simp(disch:=omega) only[ir242,yo,hl,go_sem]
  refine zf l 15 (fun n:Int=>[(3,.int .i64 n)]) (fun done rest n H=>YF rest n=YF l 0) 0 (by simp(disch:=omega) only[go_sem]) rfl ?_ ?_
  ·rintro n H J hn hlt
   simp only[YF] at hn
   simp(disch:=omega) only[hl,hlt,wrap64,hn,go_sem]
   exact hQ _ _ _ _ nofun rfl (by simp[zd,ze,AV.strip,AV.strip1,Zx])
  ·rintro done x rest n H J hd hlt _ hn hJ
   have hg:=za1 hd
   have hbm:=zfZ done x rest
   rw[← hd] at hbm
   simp only[YF] at hn
   simp(disch:=omega) only[zp,zl,zh,zo,zm,zi,zr,hl,hlt,hg,go_sem]
   refine zb fun b hb=>?_
   simp(disch:=omega) only[zp,zl,zh,zo,zm,zi,zr,go_sem]
   refine za (ihl x (by rw[hd];simp) (by simp only[Lim];omega)) ?_
   simp(disch:=omega) only[wrap64,go_sem]
   exact goJ (hJ _ _ hn) (by simp(disch:=omega) only[go_sem])
 by_cases k7:k=7
 ·subst k7
  simp(disch:=omega) only[ir242,yo,hm,go_sem]
  refine zf m 29 (fun n:Int=>[(3,.int .i64 n)]) (fun done rest n H=>YH rest n=YH m 0) 0 (by simp(disch:=omega) only[go_sem]) rfl ?_ ?_
  ·rintro n H J hn hlt
   simp only[YH] at hn
   simp(disch:=omega) only[hm,hlt,wrap64,hn,go_sem]
   exact hQ _ _ _ _ nofun rfl (by simp[zd,ze,AV.strip,AV.strip1,Zx])
  ·rintro done x rest n H J hd hlt _ hn hJ
   have hg:=Zs hd
   have hbm:=zat done x rest
   rw[← hd] at hbm
   cases x with
   | mk t v =>
   simp only[YH,zbI,bM] at hn hbm
   simp(disch:=omega) only[zp,zl,zh,zo,zm,zi,zr,hm,hlt,hg,go_sem]
   refine zb fun b hb=>?_
   simp(disch:=omega) only[zp,zl,zh,zo,zm,zi,zr,go_sem]
   refine za (ihm t v (by rw[hd];simp) (by simp only[Lim];omega)) ?_
   simp(disch:=omega) only[wrap64,go_sem]
   exact goJ (hJ _ _ hn) (by simp(disch:=omega) only[go_sem])
 ·simp(disch:=omega) only[ir242,yo,k6,k7,go_sem]
  exact hQ _ _ _ _ nofun rfl (by simp[zd,ze,AV.strip,AV.strip1,Zx,k6,k7])
def zV:Val:=.mk 0 0 [] [] []
theorem zmI:cV zV=[.int .i64 0,.int .i64 0,.str [],.sl .no 5 [],.sl .no 6 []]:=rfl
def zbZ (t:List UInt8):List Mem→Val×Bool
 | []=>(zV,false)
 | .mk s v::r=>if s=t then (v,true) else zbZ t r
theorem zq8 (t:List UInt8) (m:List Mem) (hb:m.length≤Lim):zg Tryz.prog 99 [.str t,.sl .no 6 (cMs m)] (.tup [.agg (cV (zbZ t m).1),.bool (zbZ t m).2]):=by
 refine zg.go ir99 ck99 (Al4 _) fun KP Q hQ=>?_
 have hm:=Za m
 simp only[Lim] at hb
 simp(disch:=omega) only[ir99,go_sem]
 refine zb fun b hb=>?_
 simp(disch:=omega) only[hm,go_sem]
 refine zf m 10 (fun _:Unit=>[]) (fun done rest n H=>zbZ t rest=zbZ t m∧H b=some (.cells [.int .i64 0,.int .i64 0,.str [],.sl .nil 5 [],.sl .nil 6 []])) () (by simp(disch:=omega) only[go_sem]) ⟨rfl,by simp[zc.upd]⟩ ?_ ?_
 ·rintro n H J ⟨hn,hH⟩ hlt
  simp(disch:=omega) only[hm,hlt,hH,go_sem]
  refine hQ _ _ _ [.agg [.int .i64 0,.int .i64 0,.str [],.sl .nil 5 [],.sl .nil 6 []],.bool false] nofun (by simp(disch:=omega) only[ir99,zN,Zv,go_sem]) ?_
  rw[← hn]
  rfl
 ·rintro done x rest n H J hd hlt _ ⟨hn,hH⟩ hJ
  have hg:=Zs hd
  cases x with
  | mk s v =>
  simp only[zbZ] at hn
  simp(disch:=omega) only[zp,zl,zh,zo,zm,zi,zr,hm,hlt,hg,go_sem]
  refine zb fun b2 hb2=>?_
  have hne:=zdW hb2 hH
  by_cases hs:s=t
  ·simp(disch:=omega) only[zp,zl,zh,zo,zm,zi,zr,hs,hH,Ne.symm hne,hne,go_sem]
   simp only[hs,if_true] at hn
   refine hQ _ _ _ [.agg (cV v),.bool true] nofun (by simp(disch:=omega) only[zp,zl,zh,zo,zm,zi,zr,ir99,zN,Zv,go_sem]) ?_
   rw[← hn]
   simp[zd,AV.strip,AV.strip1,zgB]
  ·simp(disch:=omega) only[zp,zl,zh,zo,zm,zi,zr,hs,go_sem]
   simp only[hs,if_false] at hn
   exact goJ (hJ () _ ⟨hn,by simp[zc.upd,Ne.symm hne,hH]⟩) (by simp(disch:=omega) only[wrap64,go_sem])
structure Tok where
 k:Int
 s:List UInt8
def cK (t:Tok):List AV:=[.int .i64 t.k,.str t.s]
def cKs (l:List Tok):List (List AV):=l.map cK
theorem zhb (a b:List Tok):cKs (a++b)=cKs a++cKs b:=by simp[cKs]
theorem yz (l:List Tok):(cKs l).length=l.length:=by simp[cKs]
theorem ZY (l:List Tok):(cKs l).map (·.map AV.strip1)=cKs l:=by simp[cKs,cK,AV.strip1]
theorem zrX (f:FuncId) (hf:Program.callable Tryz.prog f=true) (a b:List Val) (ha:a.length≤Lim) (hc:∀ x∈a,∀ y,zg Tryz.prog f [.agg (cV x),.agg (cV y)] (.bool (eqd x y))) :
  zg Tryz.prog 233 [.sl .no 5 (cVs a),.sl .no 5 (cVs b),.clo f [] []] (.bool (eqd a b)):=by
 refine zg.go ir233 ck233 (Al4 _) fun KP Q hQ=>?_
 have h1:=zan a
 have h2:=zan b
 simp only[Lim] at ha
 by_cases hl:a.length=b.length
 case neg =>
  have hl':¬ ((a.length:Int)=b.length):=by omega
  have hne:a≠b:=fun e=>hl (by rw[e])
  simp(disch:=omega) only[ir233,h1,h2,hl',go_sem]
  exact hQ _ _ _ _ nofun rfl (by simp[zd,ze,AV.strip,AV.strip1,y0 hne])
 have hl':((a.length:Int)=b.length)=True:=eq_true (by omega)
 simp(disch:=omega) only[ir233,h1,h2,hl',go_sem]
 refine zf a 17 (fun _:Unit=>[]) (fun done rest n H=>b.take done.length=done) () (by simp(disch:=omega) only[go_sem]) rfl ?_ ?_
 ·rintro n H J hp hlt
  simp(disch:=omega) only[h1,hlt,go_sem]
  exact hQ _ _ _ _ nofun rfl (by simp[zd,ze,AV.strip,AV.strip1,YN (zm3 hl hp)])
 ·rintro done x rest n H J hd hlt _ hp hJ
  obtain⟨y,r,hb⟩:=zl7 hd hl hp
  have g1:=za1 hd
  have g2:=za1 hb
  have hlt2:(done.length:Int)<b.length:=by omega
  simp(disch:=omega) only[zp,zl,zh,zo,zm,zi,zr,h1,h2,hlt,hlt2,g1,g2,go_sem]
  refine zb fun b1 hb1=>?_
  simp(disch:=omega) only[zp,zl,zh,zo,zm,zi,zr,h1,h2,hlt,hlt2,g1,g2,go_sem]
  refine zb fun b2 hb2=>?_
  have hne:=yY hb2
  simp(disch:=omega) only[zp,zl,zh,zo,zm,zi,zr,Ne.symm hne,hne,go_sem]
  refine⟨hf,za (hc x (by rw[hd];simp) y) ?_⟩
  by_cases hxy:x=y
  ·simp(disch:=omega) only[YN hxy,go_sem]
   exact goJ (hJ () _ (by rw[hxy];exact zjw hb)) (by simp(disch:=omega) only[wrap64,go_sem])
  ·simp(disch:=omega) only[y0 hxy,go_sem]
   exact hQ _ _ _ _ nofun rfl (by simp[zd,ze,AV.strip,AV.strip1,y0 (zpc hd hb hxy)])
theorem zqx (f:FuncId) (hf:Program.callable Tryz.prog f=true) (a b:List Mem) (ha:a.length≤Lim) (hc:∀ x∈a,∀ y,zg Tryz.prog f [.agg (cM x),.agg (cM y)] (.bool (eqd x y))) :
  zg Tryz.prog 234 [.sl .no 6 (cMs a),.sl .no 6 (cMs b),.clo f [] []] (.bool (eqd a b)):=by
 refine zg.go ir234 ck234 (Al4 _) fun KP Q hQ=>?_
 have h1:=Za a
 have h2:=Za b
 simp only[Lim] at ha
 by_cases hl:a.length=b.length
 case neg =>
  have hl':¬ ((a.length:Int)=b.length):=by omega
  have hne:a≠b:=fun e=>hl (by rw[e])
  simp(disch:=omega) only[ir234,h1,h2,hl',go_sem]
  exact hQ _ _ _ _ nofun rfl (by simp[zd,ze,AV.strip,AV.strip1,y0 hne])
 have hl':((a.length:Int)=b.length)=True:=eq_true (by omega)
 simp(disch:=omega) only[ir234,h1,h2,hl',go_sem]
 refine zf a 17 (fun _:Unit=>[]) (fun done rest n H=>b.take done.length=done) () (by simp(disch:=omega) only[go_sem]) rfl ?_ ?_
 ·rintro n H J hp hlt
  simp(disch:=omega) only[h1,hlt,go_sem]
  exact hQ _ _ _ _ nofun rfl (by simp[zd,ze,AV.strip,AV.strip1,YN (zm3 hl hp)])
 ·rintro done x rest n H J hd hlt _ hp hJ
  obtain⟨y,r,hb⟩:=zl7 hd hl hp
  have g1:=Zs hd
  have g2:=Zs hb
  have hlt2:(done.length:Int)<b.length:=by omega
  simp(disch:=omega) only[zp,zl,zh,zo,zm,zi,zr,h1,h2,hlt,hlt2,g1,g2,go_sem]
  refine zb fun b1 hb1=>?_
  simp(disch:=omega) only[zp,zl,zh,zo,zm,zi,zr,h1,h2,hlt,hlt2,g1,g2,go_sem]
  refine zb fun b2 hb2=>?_
  have hne:=yY hb2
  simp(disch:=omega) only[zp,zl,zh,zo,zm,zi,zr,Ne.symm hne,hne,go_sem]
  refine⟨hf,za (hc x (by rw[hd];simp) y) ?_⟩
  by_cases hxy:x=y
  ·simp(disch:=omega) only[YN hxy,go_sem]
   exact goJ (hJ () _ (by rw[hxy];exact zjw hb)) (by simp(disch:=omega) only[wrap64,go_sem])
  ·simp(disch:=omega) only[y0 hxy,go_sem]
   exact hQ _ _ _ _ nofun rfl (by simp[zd,ze,AV.strip,AV.strip1,y0 (zpc hd hb hxy)])
theorem zpT (s t:List UInt8) (v u:Val) (hc:zg Tryz.prog 208 [.agg (cV v),.agg (cV u)] (.bool (eqd v u))):zg Tryz.prog 235 [.agg (cM (.mk s v)),.agg (cM (.mk t u))] (.bool (eqd (Mem.mk s v) (Mem.mk t u))):=by
 refine zg.go ir235 ck235 (Al4 _) fun KP Q hQ=>?_
 by_cases h1:s=t
 ·simp(disch:=omega) only[zp,zl,zh,zo,zm,zi,zr,ir235,h1,go_sem]
  refine za hc ?_
  simp(disch:=omega) only[go_sem]
  have:eqd (Mem.mk t v) (Mem.mk t u)=eqd v u:=by
   by_cases h:v=u
   ·rw[YN h,YN (by rw[h])]
   ·rw[y0 h,y0 (by simp[h])]
  exact hQ _ _ _ _ nofun rfl (by simp[zd,ze,AV.strip,AV.strip1,this,h1])
 ·simp(disch:=omega) only[zp,zl,zh,zo,zm,zi,zr,ir235,h1,go_sem]
  have:eqd (Mem.mk s v) (Mem.mk t u)=false:=y0 (by simp[h1])
  exact hQ _ _ _ _ nofun rfl (by simp[zd,ze,AV.strip,AV.strip1,this])
theorem zn1:∀ v,bV v≤Lim→∀ u,zg Tryz.prog 208 [.agg (cV v),.agg (cV u)] (.bool (eqd v u)):=by
 refine Val.ind fun k n s l m ihl ihm hb u=>?_
 obtain⟨k',n',s',l',m'⟩:=u
 have hb':1+s.length+bVs l+bMs m≤Lim:=hb
 have hll:=za0 l
 have hml:=Ze m
 have il:∀ x∈l,∀ y,zg Tryz.prog 208 [.agg (cV x),.agg (cV y)] (.bool (eqd x y)):=fun x hx y=>by
  obtain⟨a,b,hd⟩:=List.append_of_mem hx
  have:=zfZ a x b
  rw[← hd] at this
  exact ihl x hx (by omega) y
 have im:∀ x∈m,∀ y,zg Tryz.prog 235 [.agg (cM x),.agg (cM y)] (.bool (eqd x y)):=fun x hx y=>by
  obtain⟨a,b,hd⟩:=List.append_of_mem hx
  have:=zat a x b
  rw[← hd] at this
  obtain⟨t,v⟩:=x
  obtain⟨t',v'⟩:=y
  simp only[bM] at this
  exact zpT t t' v v' (ihm t v hx (by omega) v')
 refine zg.go ir208 ck208 (Al4 _) fun KP Q hQ=>?_
 by_cases h1:k=k'
 case neg =>
  have hne:¬ (Val.mk k n s l m=Val.mk k' n' s' l' m'):=by simp[h1]
  simp(disch:=omega) only[ir208,yo,h1,go_sem]
  exact hQ _ _ _ _ nofun rfl (by simp[zd,ze,AV.strip,AV.strip1,y0 hne])
 by_cases h2:n=n'
 case neg =>
  have hne:¬ (Val.mk k n s l m=Val.mk k' n' s' l' m'):=by simp[h2]
  simp(disch:=omega) only[ir208,yo,h1,h2,go_sem]
  exact hQ _ _ _ _ nofun rfl (by simp[zd,ze,AV.strip,AV.strip1,y0 hne])
 by_cases h3:s=s'
 case neg =>
  have hne:¬ (Val.mk k n s l m=Val.mk k' n' s' l' m'):=by simp[h3]
  simp(disch:=omega) only[ir208,yo,h1,h2,h3,go_sem]
  exact hQ _ _ _ _ nofun rfl (by simp[zd,ze,AV.strip,AV.strip1,y0 hne])
 simp(disch:=omega) only[ir208,yo,h1,h2,h3,go_sem]
 refine za (zrX _ (by kernel_rfl) l l' (by omega) il) ?_
 by_cases h4:l=l'
 case neg =>
  have hne:¬ (Val.mk k n s l m=Val.mk k' n' s' l' m'):=by simp[h4]
  simp(disch:=omega) only[y0 h4,go_sem]
  exact hQ _ _ _ _ nofun rfl (by simp[zd,ze,AV.strip,AV.strip1,y0 hne])
 simp(disch:=omega) only[YN h4,go_sem]
 refine za (zqx _ (by kernel_rfl) m m' (by omega) im) ?_
 simp(disch:=omega) only[go_sem]
 have:eqd (Val.mk k n s l m) (Val.mk k' n' s' l' m')=eqd m m':=by
  by_cases h:m=m'
  ·rw[YN h,YN (by rw[h1,h2,h3,h4,h])]
  ·rw[y0 h,y0 (by simp[h])]
 exact hQ _ _ _ _ nofun rfl (by simp[zd,ze,AV.strip,AV.strip1,this])
abbrev zuG (H:zc) (o:Own) (sz:Nat) (xs:List (List AV)):AV→zc→Prop:=fun v H'=>∃ o',v=.sl o' sz xs∧OwnS H o H' o' xs.length sz
abbrev Y8 (P:Program) (f:FuncId) (args:List AV) (H:zc) (o:Own) (sz:Nat) (xs:List (List AV)):Prop :=
 zj P f args H (fun e H'=>match e with|.ret v=>zuG H o sz xs v H'|.pan _=>False)
theorem zB {P:Program} {KP:AV→zc→Prop} {Q:AExit→Env→zc→Prop} {st:List Fr} {ρ:Env} {H:zc} {all l:List AItem} {d:Option Nat} {R:List Chk} {f:FuncId} {args:List AV} {o:Own} {sz:Nat} {xs:List (List AV)}
  (h:Y8 P f args H o sz xs) (hk:∀ o' H',OwnS H o H' o' xs.length sz→goR P KP Q all l st R (ρ.set d (.sl o' sz xs)) H'):goK P KP Q all l st d R ρ f args H :=
 yH (XP:=fun _ _=>False) h (fun v H' ⟨o',e,hs⟩=>by subst e;exact hk o' H' hs) (fun _ _ h=>h.elim)
def zQ (s:List UInt8):List (List UInt8)→Bool
 | []=>false
 | x::r=>if x=s then true else zQ s r
theorem ZD (s:List UInt8):∀ l,zQ s l=true↔s∈l
 | []=>by simp[zQ]
 | x::r=>by
  have:=ZD s r
  simp only[zQ,List.mem_cons]
  split
  ·rename_i h;simp[h]
  ·rename_i h;rw[this];constructor
   ·exact .inr
   ·rintro(e|e)
    ·exact absurd e.symm h
    ·exact e
theorem zvB (l:List (List UInt8)) (s:List UInt8) (hl:l.length≤Lim):zg Tryz.prog 12 [.sl .no 1 (cT l),.str s] (.bool (zQ s l)):=by
 refine zg.go ir12 ck12 (Al4 _) fun KP Q hQ=>?_
 have h1:=zK l
 simp only[Lim] at hl
 simp(disch:=omega) only[ir12,go_sem]
 refine zf l 5 (fun _:Unit=>[]) (fun done rest n H=>zQ s rest=zQ s l) () (by simp(disch:=omega) only[go_sem]) rfl ?_ ?_
 ·rintro n H J hn hlt
  simp(disch:=omega) only[h1,hlt,go_sem]
  simp only[zQ] at hn
  exact hQ _ _ _ _ nofun rfl (by simp[zd,ze,AV.strip,AV.strip1,← hn])
 ·rintro done x rest n H J hd hlt _ hn hJ
  have hg:=ZZ hd
  simp only[zQ] at hn
  by_cases hx:x=s
  ·simp only[hx,if_true] at hn
   simp(disch:=omega) only[h1,hlt,hg,hx,go_sem]
   exact hQ _ _ _ _ nofun rfl (by simp[zd,ze,AV.strip,AV.strip1,← hn])
  ·simp only[hx,if_false] at hn
   simp(disch:=omega) only[h1,hlt,hg,hx,go_sem]
   exact goJ (hJ () _ hn) (by simp(disch:=omega) only[wrap64,go_sem])
def ziw (s:List UInt8):List (List UInt8)→Int→Int
 | [],_=>-1
 | x::r,i=>if s=x then i else ziw s r (i+1)
theorem zjB (s:List UInt8):∀ l (i:Int),0≤i→decide (0≤ziw s l i)=zQ s l
 | [],i,_=>by simp[ziw,zQ]
 | x::r,i,hi=>by
  simp only[ziw,zQ]
  by_cases h:s=x
  ·simp[h];omega
  ·simp only[h,Ne.symm h,if_false];exact zjB s r (i+1) (by omega)
theorem ztf (l:List (List UInt8)) (s:List UInt8) (hl:l.length≤Lim):zg Tryz.prog 73 [.sl .no 1 (cT l),.str s] (.int .i64 (ziw s l 0)):=by
 refine zg.go ir73 ck73 (Al4 _) fun KP Q hQ=>?_
 have h1:=zK l
 simp only[Lim] at hl
 simp(disch:=omega) only[ir73,h1,go_sem]
 refine zf l 8 (fun _:Unit=>[]) (fun done rest n H=>ziw s rest done.length=ziw s l 0) () (by simp(disch:=omega) only[go_sem]) rfl ?_ ?_
 ·rintro n H J hn hlt
  simp(disch:=omega) only[h1,hlt,go_sem]
  simp only[ziw] at hn
  exact hQ _ _ _ _ nofun rfl (by simp[zd,ze,AV.strip,AV.strip1,← hn])
 ·rintro done x rest n H J hd hlt _ hn hJ
  have hg:=ZZ hd
  simp only[ziw] at hn
  by_cases hx:s=x
  ·subst hx
   simp only[if_true] at hn
   simp(disch:=omega) only[h1,hlt,hg,go_sem]
   exact hQ _ _ _ _ nofun rfl (by simp[zd,ze,AV.strip,AV.strip1,← hn])
  ·simp only[hx,if_false] at hn
   simp(disch:=omega) only[h1,hlt,hg,hx,go_sem]
   exact goJ (hJ () _ (by simpa using hn)) (by simp(disch:=omega) only[wrap64,go_sem])
theorem yR (l:List (List UInt8)) (s:List UInt8) (hl:l.length≤Lim):zg Tryz.prog 29 [.sl .no 1 (cT l),.str s] (.bool (zQ s l)):=by
 refine zg.go ir29 ck29 (Al4 _) fun KP Q hQ=>?_
 simp(disch:=omega) only[ir29,go_sem]
 refine za (ztf l s hl) ?_
 simp(disch:=omega) only[go_sem]
 have:=zjB s l 0 (by omega)
 exact hQ _ _ _ _ nofun rfl (by simp[zd,ze,AV.strip,AV.strip1,this])
mutual
def Zp:Val→List (List UInt8)→List (List UInt8)
 | .mk k _ s l m,acc=>if k=8 then (if zQ s acc then acc else acc++[s]) else if k=6 then zb8 l acc else if k=7 then zcq m acc else acc
def zb8:List Val→List (List UInt8)→List (List UInt8)
 | [],acc=>acc
 | v::r,acc=>zb8 r (Zp v acc)
def zkB:Mem→List (List UInt8)→List (List UInt8)
 | .mk _ v,acc=>Zp v acc
def zcq:List Mem→List (List UInt8)→List (List UInt8)
 | [],acc=>acc
 | x::r,acc=>zcq r (zkB x acc)
end
mutual
theorem zbh:∀ v acc,(Zp v acc).length≤acc.length+bV v
 | .mk k n s l m,acc=>by
  have h1:=zhR l acc
  have h2:=zhC m acc
  simp only[Zp,bV]
  split
  ·split
   ·omega
   ·simp;omega
  ·split
   ·omega
   ·split<;>omega
theorem zhR:∀ l acc,(zb8 l acc).length≤acc.length+bVs l
 | [],acc=>by simp[zb8]
 | v::r,acc=>by
  have h1:=zbh v acc
  have h2:=zhR r (Zp v acc)
  simp only[zb8,bVs];omega
theorem zkn:∀ x acc,(zkB x acc).length≤acc.length+bM x
 | .mk s v,acc=>by have:=zbh v acc;simp only[zkB,bM];omega
theorem zhC:∀ l acc,(zcq l acc).length≤acc.length+bMs l
 | [],acc=>by simp[zcq]
 | x::r,acc=>by
  have h1:=zkn x acc
  have h2:=zhC r (zkB x acc)
  simp only[zcq,bMs];omega
end
theorem zuS:∀ v,∀ acc H o,acc.length+bV v≤Lim→zY H o acc.length 1→Y8 Tryz.prog 245 [.sl o 1 (cT acc),.agg (cV v)] H o 1 (cT (Zp v acc)):=by
 refine Val.ind fun k n s l m ihl ihm acc H o hb ho=>?_
 have hb':acc.length+(1+s.length+bVs l+bMs m)≤Lim:=hb
 have hll:=za0 l
 have hml:=Ze m
 have h1:=zan l
 have h2:=Za m
 have h3:=zK acc
 simp only[Lim] at hb'
 refine zj.goO ir245 ck245 (Al4 _) fun KP Q hQ hP=>?_
 by_cases k8:k=8
 ·subst k8
  simp(disch:=omega) only[ir245,yo,go_sem]
  refine za (zg.low (yR acc s (by simp only[Lim];omega))) ?_
  cases hh:zQ s acc with
  | true =>
   simp(disch:=omega) only[hh,go_sem]
   refine hQ _ _ H H _ nofun rfl (Low.refl _) ⟨o,?_,?_⟩
   ·simp[zd,ze,Zp,hh]
   ·simpa[Zp,hh,h3] using OwnS.refl ho
  | false =>
   simp(disch:=omega) only[hh,go_sem]
   refine zu (by rw[h3];exact ho) ?_ ?_ fun o' H' hs=>?_
   ·simp only[h3,Al2,Al3];omega
   ·simp only[h3,Al2,Al3,maxLen];omega
   simp(disch:=omega) only[go_sem]
   refine hQ _ _ H' H' _ nofun rfl (Low.refl _) ⟨o',?_,?_⟩
   ·simp[zd,ze,Zp,hh,cT,AV.strip1]
   ·simpa[Zp,hh,h3,zK] using hs
 by_cases k6:k=6
 ·subst k6
  simp(disch:=omega) only[ir245,yo,h1,go_sem]
  refine zf l 28 (fun x:Own×List (List UInt8)=>[(0,.sl x.1 1 (cT x.2))]) (fun done rest x H'=>zb8 rest x.2=zb8 l acc∧x.2.length+bVs rest≤acc.length+bVs l∧OwnS H o H' x.1 x.2.length 1) (o,acc) (by simp(disch:=omega) only[go_sem]) ⟨rfl,by simp,OwnS.refl ho⟩ ?_ ?_
  ·rintro⟨o1,a⟩ H' J ⟨hn,_,hs⟩ hlt
   simp only[zb8] at hn
   subst hn
   simp(disch:=omega) only[h1,hlt,go_sem]
   refine hQ _ _ H' H' _ nofun rfl (Low.refl _) ⟨o1,?_,?_⟩
   ·simp[zd,ze,Zp]
   ·simpa[Zp,zK] using hs
  ·rintro done x rest ⟨o1,a⟩ H' J hd hlt _ ⟨hn,hle,hs⟩ hJ
   have hg:=za1 hd
   have hx:=zbh x a
   simp only[zb8,bVs] at hn hle
   simp(disch:=omega) only[zp,zl,zh,zo,zm,zi,zr,h1,hlt,hg,go_sem]
   refine zb fun b hb=>?_
   simp(disch:=omega) only[zp,zl,zh,zo,zm,zi,zr,go_sem]
   refine zB (ihl x (by rw[hd];simp) a _ o1 (by simp only[Lim];omega) (hs.own.upd hb)) fun o2 H2 hs2=>?_
   rw[zK] at hs2
   simp(disch:=omega) only[wrap64,go_sem]
   exact goJ (hJ (o2,Zp x a) H2 ⟨hn,by simp only;omega,(hs.upd hb).trans hs2⟩) (by simp(disch:=omega) only[go_sem])
 by_cases k7:k=7
 ·subst k7
  simp(disch:=omega) only[ir245,yo,h2,go_sem]
  refine zf m 41 (fun x:Own×List (List UInt8)=>[(0,.sl x.1 1 (cT x.2))]) (fun done rest x H'=>zcq rest x.2=zcq m acc∧x.2.length+bMs rest≤acc.length+bMs m∧OwnS H o H' x.1 x.2.length 1) (o,acc) (by simp(disch:=omega) only[go_sem]) ⟨rfl,by simp,OwnS.refl ho⟩ ?_ ?_
  ·rintro⟨o1,a⟩ H' J ⟨hn,_,hs⟩ hlt
   simp only[zcq] at hn
   subst hn
   simp(disch:=omega) only[h2,hlt,go_sem]
   refine hQ _ _ H' H' _ nofun rfl (Low.refl _) ⟨o1,?_,?_⟩
   ·simp[zd,ze,Zp]
   ·simpa[Zp,zK] using hs
  ·rintro done x rest ⟨o1,a⟩ H' J hd hlt _ ⟨hn,hle,hs⟩ hJ
   have hg:=Zs hd
   have hx:=zkn x a
   simp only[zcq,bMs] at hn hle
   have hmem:x∈m:=by rw[hd];simp
   obtain⟨t,v⟩:=x
   simp only[zkB,bM] at hx hn hle
   simp(disch:=omega) only[zp,zl,zh,zo,zm,zi,zr,h2,hlt,hg,go_sem]
   refine zb fun b hb=>?_
   simp(disch:=omega) only[zp,zl,zh,zo,zm,zi,zr,go_sem]
   refine zB (ihm t v hmem a _ o1 (by simp only[Lim];omega) (hs.own.upd hb)) fun o2 H2 hs2=>?_
   rw[zK] at hs2
   simp(disch:=omega) only[wrap64,go_sem]
   exact goJ (hJ (o2,Zp v a) H2 ⟨hn,by simp only;omega,(hs.upd hb).trans hs2⟩) (by simp(disch:=omega) only[go_sem])
 ·simp(disch:=omega) only[ir245,yo,k8,k6,k7,go_sem]
  refine hQ _ _ H H _ nofun rfl (Low.refl _) ⟨o,?_,?_⟩
  ·simp[zd,ze,Zp,k8,k6,k7]
  ·simpa[Zp,k8,k6,k7,zK] using OwnS.refl ho
theorem zk1 (v:Val) (h:bV v≤Lim):zg Tryz.prog 226 [.agg (cV v)] (.sl .no 1 (cT (Zp v []))):=by
 refine zg.go ir226 ck226 (Al4 _) fun KP Q hQ=>?_
 simp(disch:=omega) only[zp,zl,zh,zo,zm,zi,zr,ir226,go_sem]
 refine zB (zuS v [] _ .nil (by simpa using h) rfl) fun o' H' hs=>?_
 simp(disch:=omega) only[go_sem]
 exact hQ _ _ _ _ nofun rfl (by simp[zd,ze,AV.strip,AV.strip1])
def isD (c:UInt8):Bool:=decide (48≤c.toNat)&&decide (c.toNat≤57)
def isL (c:UInt8):Bool:=(decide (97≤c.toNat)&&decide (c.toNat≤122))||((decide (65≤c.toNat)&&decide (c.toNat≤90))||decide (c.toNat=95))
theorem zp5 (c:UInt8):zg Tryz.prog 240 [.int .u8 (c.toNat:Int)] (.bool (isD c)):=by
 refine zg.go ir240 ck240 (Al4 _) fun KP Q hQ=>?_
 by_cases h:(48:Int)≤c.toNat
 ·simp(disch:=omega) only[ir240,h,go_sem]
  have h':48≤c.toNat:=by omega
  have e:decide ((c.toNat:Int)≤57)=decide (c.toNat≤57):=by rw[decide_eq_decide];omega
  exact hQ _ _ _ _ nofun rfl (by simp[zd,ze,AV.strip,AV.strip1,isD,h',e])
 ·simp(disch:=omega) only[ir240,h,go_sem]
  have h':¬ 48≤c.toNat:=by omega
  exact hQ _ _ _ _ nofun rfl (by simp[zd,ze,AV.strip,AV.strip1,isD,h'])
theorem zq4 (c:UInt8):zg Tryz.prog 239 [.int .u8 (c.toNat:Int)] (.bool (isL c)):=by
 refine zg.go ir239 ck239 (Al4 _) fun KP Q hQ=>?_
 have e:decide ((c.toNat:Int)=95)=decide (c.toNat=95):=by rw[decide_eq_decide];omega
 by_cases h:(97:Int)≤c.toNat
 ·have h':97≤c.toNat:=by omega
  by_cases h2:(c.toNat:Int)≤122
  ·have h2':c.toNat≤122:=by omega
   simp(disch:=omega) only[ir239,h,h2,go_sem]
   exact hQ _ _ _ _ nofun rfl (by simp[zd,ze,AV.strip,AV.strip1,isL,h',h2'])
  ·have h2':¬ c.toNat≤122:=by omega
   have h3:(65:Int)≤c.toNat:=by omega
   have h4:¬ (c.toNat:Int)≤90:=by omega
   have h4':¬ c.toNat≤90:=by omega
   simp(disch:=omega) only[ir239,h,h2,h3,h4,go_sem]
   exact hQ _ _ _ _ nofun rfl (by simp[zd,ze,AV.strip,AV.strip1,isL,h',h2',h4',e])
 ·have h':¬ 97≤c.toNat:=by omega
  by_cases h3:(65:Int)≤c.toNat
  ·have h3':65≤c.toNat:=by omega
   by_cases h4:(c.toNat:Int)≤90
   ·have h4':c.toNat≤90:=by omega
    simp(disch:=omega) only[ir239,h,h3,h4,go_sem]
    exact hQ _ _ _ _ nofun rfl (by simp[zd,ze,AV.strip,AV.strip1,isL,h',h3',h4'])
   ·have h4':¬ c.toNat≤90:=by omega
    simp(disch:=omega) only[ir239,h,h3,h4,go_sem]
    exact hQ _ _ _ _ nofun rfl (by simp[zd,ze,AV.strip,AV.strip1,isL,h',h3',h4',e])
  ·have h3':¬ 65≤c.toNat:=by omega
   simp(disch:=omega) only[ir239,h,h3,go_sem]
   exact hQ _ _ _ _ nofun rfl (by simp[zd,ze,AV.strip,AV.strip1,isL,h',h3',e])
def zic:List UInt8→Nat→Bool
 | [],_=>true
 | c::r,i=>if isL c||(decide (i≠0)&&isD c) then zic r (i+1) else false
def zP (s:List UInt8):Bool:=zic s 0&&decide (s≠[])
theorem zrJ {s a:List UInt8} {x:UInt8} {b:List UInt8} (h:s=a++x::b):s.getD a.length 0=x:=by subst h;simp
theorem zhF (s:List UInt8) (hs:s.length≤Lim):zg Tryz.prog 221 [.str s] (.bool (zP s)):=by
 refine zg.go ir221 ck221 (Al4 _) fun KP Q hQ=>?_
 simp only[Lim] at hs
 simp(disch:=omega) only[ir221,go_sem]
 refine zf s 6 (fun _:Unit=>[]) (fun done rest n H=>zic rest done.length=zic s 0) () (by simp(disch:=omega) only[go_sem]) rfl ?_ ?_
 ·rintro n H J hn hlt
  simp only[zic] at hn
  simp(disch:=omega) only[hlt,go_sem]
  have e:(!decide (s=[]))=decide (s≠[]):=by simp
  exact hQ _ _ _ _ nofun rfl (by simp[zd,ze,AV.strip,AV.strip1,zP,← hn])
 ·rintro done x rest n H J hd hlt _ hn hJ
  have hg:=zrJ hd
  simp only[zic] at hn
  simp(disch:=omega) only[hlt,hg,go_sem]
  refine za (zq4 x) ?_
  cases hl:isL x with
  | true =>
   simp only[hl,Bool.true_or,if_true] at hn
   simp(disch:=omega) only[hl,go_sem]
   exact goJ (hJ () _ (by simpa using hn)) (by simp(disch:=omega) only[wrap64,go_sem])
  | false =>
   by_cases h0:done.length=0
   ·have h0':(done.length:Int)=0:=by omega
    simp only[hl,h0,ne_eq,not_true_eq_false,decide_false,Bool.false_and,Bool.or_false,Al7,if_false] at hn
    simp(disch:=omega) only[hl,h0',go_sem]
    exact hQ _ _ _ _ nofun rfl (by simp[zd,ze,AV.strip,AV.strip1,zP,← hn])
   ·have h0':¬ (done.length:Int)=0:=by omega
    simp(disch:=omega) only[hl,h0',hlt,hg,go_sem]
    refine za (zp5 x) ?_
    cases hdg:isD x with
    | true =>
     simp only[hl,hdg,h0,ne_eq,not_false_eq_true,decide_true,Bool.and_self,Bool.or_true,if_true] at hn
     simp(disch:=omega) only[hdg,go_sem]
     exact goJ (hJ () _ (by simpa using hn)) (by simp(disch:=omega) only[wrap64,go_sem])
    | false =>
     simp only[hl,hdg,Bool.and_false,Bool.or_false,Al7,if_false] at hn
     simp(disch:=omega) only[hdg,go_sem]
     exact hQ _ _ _ _ nofun rfl (by simp[zd,ze,AV.strip,AV.strip1,zP,← hn])
def Zi:List UInt8→Nat
 | []=>0
 | c::r=>if isD c then Zi r+1 else 0
theorem zbp:∀ l,Zi l≤l.length
 | []=>Al4 _
 | c::r=>by have:=zbp r;simp only[Zi,Al2];split<;>omega
theorem zkT (s:List UInt8) (k:Nat):(s.drop k=[]∧s.length≤k)∨(k<s.length∧s.drop k=s.getD k 0::s.drop (k+1)):=by
 rcases Nat.lt_or_ge k s.length with h|h
 ·right
  refine⟨h,?_⟩
  rw[List.drop_eq_getElem_cons h]
  simp[h]
 ·left;exact⟨List.drop_of_length_le h,h⟩
theorem YY (s:List UInt8) (hs:s.length≤Lim):zg Tryz.prog 275 [.str s] (.int .i64 (Zi s)):=by
 refine zg.go ir275 ck275 (Al4 _) fun KP Q hQ=>?_
 simp only[Lim] at hs
 have hr1:=zbp s
 simp(disch:=omega) only[ir275,go_sem]
 refine zbF (fun n:Nat=>[(3,.int .i64 n)]) (fun n H=>Zi s=n+Zi (s.drop n)∧n≤s.length) (fun n=>s.length-n) 0 (by simp(disch:=omega) only[go_sem]) ⟨by simp,by omega⟩ ?_
 rintro n H J ⟨hn,hle⟩ hJ
 rcases zkT s n with ⟨h1,h2⟩|⟨h1,h2⟩
 ·have hlt:¬ ((n:Int)<s.length):=by omega
  rw[h1] at hn
  simp only[Zi,Nat.add_zero] at hn
  simp(disch:=omega) only[hlt,go_sem]
  exact hQ _ _ _ _ nofun rfl (by simp[zd,ze,AV.strip,AV.strip1,hn])
 ·have hlt:((n:Int)<s.length):=by omega
  rw[h2] at hn
  simp only[Zi] at hn
  simp(disch:=omega) only[hlt,go_sem]
  refine za (zp5 (s.getD n 0)) ?_
  cases hd:isD (s.getD n 0) with
  | true =>
   simp only[hd,if_true] at hn
   simp(disch:=omega) only[hd,go_sem]
   exact goJ (hJ (n+1) _ (by omega) ⟨by omega,by omega⟩) (by simp(disch:=omega) only[wrap64,Int.natCast_add,Int.natCast_one,go_sem])
  | false =>
   simp only[hd,Al7,if_false,Nat.add_zero] at hn
   simp(disch:=omega) only[hd,go_sem]
   exact hQ _ _ _ _ nofun rfl (by simp[zd,ze,AV.strip,AV.strip1,hn])
theorem zmw (c:UInt8) (s:List UInt8):[c].isPrefixOf s=decide (s.head?=some c):=by
 cases s with
 | nil=>rfl
 | cons d r =>
  by_cases h:d=c
  ·subst h;simp[List.isPrefixOf]
  ·have h':¬ c=d:=fun e=>h e.symm
   simp[List.isPrefixOf,h,h']
def zeZ (s:List UInt8):Nat:=if Zi s=0 then 0 else if s.getD 0 0=48 then 1 else Zi s
def Zy (s:List UInt8):Nat:=if s.head?=some 45 then (if Zi s.tail=0 then 0 else 1+zeZ s.tail) else zeZ s
theorem zl3 (s:List UInt8):zeZ s≤s.length:=by have:=zbp s;unfold zeZ;split<;>(try split)<;>omega
theorem znQ (s:List UInt8):Zy s≤s.length:=by
 have h1:=zl3 s
 have h2:=zl3 s.tail
 unfold Zy
 split
 ·rename_i h
  cases s with
  | nil=>simp at h
  | cons c r =>
   simp only[List.tail_cons,Al2] at h2 ⊢
   by_cases h0:Zi r=0<;>simp only[h0,if_true,if_false]<;>omega
 ·exact h1
theorem zhI (a:UInt8) (n:Nat) (hn:n<256):decide ((a.toNat:Int)=n)=decide (a=UInt8.ofNat n):=by
 rw[decide_eq_decide]
 have:(UInt8.ofNat n).toNat=n:=by simp[UInt8.toNat_ofNat'];omega
 constructor
 ·intro h;apply UInt8.toNat_inj.1;rw[this];omega
 ·intro h;subst h;rw[this]
theorem zs2 (s:List UInt8) (hs:s.length≤Lim):zg Tryz.prog 274 [.str s] (.int .i64 (Zy s)):=by
 refine zg.go ir274 ck274 (Al4 _) fun KP Q hQ=>?_
 simp only[Lim] at hs
 simp(disch:=omega) only[ir274,go_sem]
 refine za (zix s [45]) ?_
 rw[zmw]
 by_cases h:s.head?=some 45
 ·cases s with
  | nil=>simp at h
  | cons c r =>
   have hc:c=45:=by simpa using h
   subst hc
   simp only[Al2] at hs
   have h1:(1:Int)≤((r.length+1:Nat):Int):=by omega
   have h2:(1:Int)<((r.length+1:Nat):Int)∨r=[]:=by cases r<;>simp;omega
   simp(disch:=omega) only[h,h1,Int.toNat_one,go_sem]
   refine za (YY r (by simp only[Lim];omega)) ?_
   by_cases h0:Zi r=0
   ·simp(disch:=omega) only[h0,go_sem]
    exact hQ _ _ _ _ nofun rfl (by simp[zd,ze,AV.strip,AV.strip1,Zy,h0])
   ·have h0':¬ ((Zi r:Int)=0):=by omega
    have hrl:=zbp r
    have hlt:(1:Int)<((r.length+1:Nat):Int):=by omega
    have e:=zhI (r.getD 0 0) 48 (by omega)
    by_cases h48:r.getD 0 0=48
    ·have hi:zeZ r=1:=by simp only[zeZ,h0,h48,if_false,if_true]
     simp(disch:=omega) only[h0',hlt,Int.toNat_one,h48,UInt8.reduceToNat,wrap64,go_sem]
     exact hQ _ _ _ _ nofun rfl (by simp[zd,ze,AV.strip,AV.strip1,Zy,h0,hi])
    ·have h48':¬ ((r.getD 0 0).toNat:Int)=48:=by
      intro hh
      rw[decide_eq_true (by exact hh)] at e
      exact h48 (by simpa using e.symm)
     have hi:zeZ r=Zi r:=by simp only[zeZ,h0,h48,if_false]
     simp(disch:=omega) only[h0',hlt,Int.toNat_one,h48',wrap64,go_sem]
     exact hQ _ _ _ _ nofun rfl (by simp[zd,ze,AV.strip,AV.strip1,Zy,h0,hi])
 ·simp(disch:=omega) only[h,go_sem]
  refine za (YY s (by simp only[Lim];omega)) ?_
  by_cases h0:Zi s=0
  ·simp(disch:=omega) only[h0,go_sem]
   exact hQ _ _ _ _ nofun rfl (by simp[zd,ze,AV.strip,AV.strip1,Zy,h,zeZ,h0])
  ·have h0':¬ ((Zi s:Int)=0):=by omega
   have hrl:=zbp s
   have hlt:(0:Int)<(s.length:Int):=by omega
   have e:=zhI (s.getD 0 0) 48 (by omega)
   by_cases h48:s.getD 0 0=48
   ·have hi:zeZ s=1:=by simp only[zeZ,h0,h48,if_false,if_true]
    simp(disch:=omega) only[h0',hlt,h48,UInt8.reduceToNat,wrap64,go_sem]
    exact hQ _ _ _ _ nofun rfl (by simp[zd,ze,AV.strip,AV.strip1,Zy,h,hi])
   ·have h48':¬ ((s.getD 0 0).toNat:Int)=48:=by
     intro hh
     rw[decide_eq_true (by exact hh)] at e
     exact h48 (by simpa using e.symm)
    have hi:zeZ s=Zi s:=by simp only[zeZ,h0,h48,if_false]
    simp(disch:=omega) only[h0',hlt,h48',wrap64,go_sem]
    exact hQ _ _ _ _ nofun rfl (by simp[zd,ze,AV.strip,AV.strip1,Zy,h,hi])
def isE (c:UInt8):Bool:=decide (c=101)||decide (c=69)
def sgN (r:List UInt8):Nat:=if r.head?=some 43∨r.head?=some 45 then 1 else 0
def zem:List UInt8→Nat
 | []=>0
 | c::r=>if isE c then (if Zi (r.drop (sgN r))=0 then 0 else 1+sgN r+Zi (r.drop (sgN r))) else 0
theorem zpb (r:List UInt8):sgN r≤r.length:=by
 unfold sgN
 split
 ·cases r<;>simp_all
 ·omega
theorem zlX:∀ s,zem s≤s.length
 | []=>by simp[zem]
 | c::r=>by
  have h:=zbp (r.drop (sgN r))
  have h2:=zpb r
  rw[zfR] at h
  simp only[zem,Al2]
  split
  ·split<;>omega
  ·omega
theorem zkV (s:List UInt8) (hs:s.length≤Lim):zg Tryz.prog 276 [.str s] (.int .i64 (zem s)):=by
 refine zg.go ir276 ck276 (Al4 _) fun KP Q hQ=>?_
 simp only[Lim] at hs
 cases s with
 | nil =>
  simp(disch:=omega) only[ir276,go_sem]
  exact hQ _ _ _ _ nofun rfl (by simp[zd,ze,AV.strip,AV.strip1,zem])
 | cons c r =>
  simp only[Al2] at hs
  have hne:¬ (c::r=[]):=by simp
  have hp:(0:Int)<((r.length+1:Nat):Int):=by omega
  have e1:=zhI c 101 (by omega)
  have e2:=zhI c 69 (by omega)
  have hE:∀(P:Prop),P→P:=fun _ h=>h
  by_cases hc:isE c=true
  case neg =>
   have hc1:¬ (c.toNat:Int)=101:=by
    intro hh;rw[decide_eq_true (by exact hh)] at e1
    exact hc (by simp[isE,(by simpa using e1.symm:c=101)])
   have hc2:¬ (c.toNat:Int)=69:=by
    intro hh;rw[decide_eq_true (by exact hh)] at e2
    exact hc (by simp[isE,(by simpa using e2.symm:c=69)])
   simp(disch:=omega) only[ir276,hne,hp,hc1,hc2,go_sem]
   have hcf:isE c=false:=by simpa using hc
   exact hQ _ _ _ _ nofun rfl (by simp[zd,ze,AV.strip,AV.strip1,zem,hcf])
  have fin:∀ k:Nat,Zi (r.drop (sgN r))=k→zem (c::r)=if k=0 then 0 else 1+sgN r+k:=fun k hk=>by subst hk;simp only[zem,hc,if_true]
  have hcase:(c.toNat:Int)=101∨(¬ (c.toNat:Int)=101∧(c.toNat:Int)=69):=by
   simp only[isE,zhn,yX] at hc
   rcases hc with rfl|rfl
   ·exact .inl rfl
   ·exact .inr ⟨by decide,rfl⟩
  have hdl:=zbp (r.drop (sgN r))
  rw[zfR] at hdl
  have hsl:=zpb r
  cases r with
  | nil =>
   have k0:=fin 0 (by simp[sgN,Zi])
   rcases hcase with h1|⟨h1,h2⟩
   ·simp(disch:=omega) only[ir276,h1,go_sem]
    refine za (YY [] (by simp)) ?_
    simp(disch:=omega) only[Zi,go_sem]
    exact hQ _ _ _ _ nofun rfl (by simp[zd,ze,AV.strip,AV.strip1,k0])
   ·simp(disch:=omega) only[ir276,h1,h2,go_sem]
    refine za (YY [] (by simp)) ?_
    simp(disch:=omega) only[Zi,go_sem]
    exact hQ _ _ _ _ nofun rfl (by simp[zd,ze,AV.strip,AV.strip1,k0])
  | cons d t =>
   simp only[Al2] at hs
   have hl1:(1:Int)<((t.length+1+1:Nat):Int):=by omega
   have hl2:(2:Int)≤((t.length+1+1:Nat):Int):=by omega
   have hl3:(1:Int)≤((t.length+1+1:Nat):Int):=by omega
   have f1:=zhI d 43 (by omega)
   have f2:=zhI d 45 (by omega)
   by_cases hsg:d=43∨d=45
   ·have hsg1:sgN (d::t)=1:=by simp only[sgN,List.head?_cons,Al1,hsg,if_true]
    have k0:=fin (Zi t) (by rw[hsg1];rfl)
    rw[hsg1] at k0 hdl
    have hd:(d.toNat:Int)=43∨(¬ (d.toNat:Int)=43∧(d.toNat:Int)=45):=by
     rcases hsg with rfl|rfl
     ·exact .inl rfl
     ·exact .inr ⟨by decide,rfl⟩
    rcases hcase with h1|⟨h1,h2⟩<;>rcases hd with h3|⟨h3,h4⟩
    all_goals
     simp only[hl1,hl2,Al2,List.drop_succ_cons,List.drop_zero] at hdl
    ·simp(disch:=omega) only[ir276,h1,h3,hl1,hl2,Int.toNat_one,go_sem]
     refine za (YY t (by simp only[Lim];omega)) ?_
     by_cases hz:Zi t=0
     ·simp(disch:=omega) only[hz,go_sem]
      exact hQ _ _ _ _ nofun rfl (by simp[zd,ze,AV.strip,AV.strip1,k0,hz])
     ·have hz':¬ (Zi t:Int)=0:=by omega
      simp(disch:=omega) only[hz',wrap64,go_sem]
      exact hQ _ _ _ _ nofun rfl (by simp[zd,ze,AV.strip,AV.strip1,k0,hz])
    ·simp(disch:=omega) only[ir276,h1,h3,h4,hl1,hl2,Int.toNat_one,go_sem]
     refine za (YY t (by simp only[Lim];omega)) ?_
     by_cases hz:Zi t=0
     ·simp(disch:=omega) only[hz,go_sem]
      exact hQ _ _ _ _ nofun rfl (by simp[zd,ze,AV.strip,AV.strip1,k0,hz])
     ·have hz':¬ (Zi t:Int)=0:=by omega
      simp(disch:=omega) only[hz',wrap64,go_sem]
      exact hQ _ _ _ _ nofun rfl (by simp[zd,ze,AV.strip,AV.strip1,k0,hz])
    ·simp(disch:=omega) only[ir276,h1,h2,h3,hl1,hl2,Int.toNat_one,go_sem]
     refine za (YY t (by simp only[Lim];omega)) ?_
     by_cases hz:Zi t=0
     ·simp(disch:=omega) only[hz,go_sem]
      exact hQ _ _ _ _ nofun rfl (by simp[zd,ze,AV.strip,AV.strip1,k0,hz])
     ·have hz':¬ (Zi t:Int)=0:=by omega
      simp(disch:=omega) only[hz',wrap64,go_sem]
      exact hQ _ _ _ _ nofun rfl (by simp[zd,ze,AV.strip,AV.strip1,k0,hz])
    ·simp(disch:=omega) only[ir276,h1,h2,h3,h4,hl1,hl2,Int.toNat_one,go_sem]
     refine za (YY t (by simp only[Lim];omega)) ?_
     by_cases hz:Zi t=0
     ·simp(disch:=omega) only[hz,go_sem]
      exact hQ _ _ _ _ nofun rfl (by simp[zd,ze,AV.strip,AV.strip1,k0,hz])
     ·have hz':¬ (Zi t:Int)=0:=by omega
      simp(disch:=omega) only[hz',wrap64,go_sem]
      exact hQ _ _ _ _ nofun rfl (by simp[zd,ze,AV.strip,AV.strip1,k0,hz])
   ·have hsg0:sgN (d::t)=0:=by simp only[sgN,List.head?_cons,Al1,hsg,if_false]
    have k0:=fin (Zi (d::t)) (by rw[hsg0];rfl)
    rw[hsg0] at k0 hdl
    have h3:¬ (d.toNat:Int)=43:=by
     intro hh;rw[decide_eq_true (by exact hh)] at f1
     exact hsg (.inl (by simpa using f1.symm))
    have h4:¬ (d.toNat:Int)=45:=by
     intro hh;rw[decide_eq_true (by exact hh)] at f2
     exact hsg (.inr (by simpa using f2.symm))
    simp only[List.drop_zero,Al2] at hdl
    rcases hcase with h1|⟨h1,h2⟩
    ·simp(disch:=omega) only[ir276,h1,h3,h4,hl1,hl3,Int.toNat_one,go_sem]
     refine za (YY (d::t) (by simp only[Lim,Al2];omega)) ?_
     by_cases hz:Zi (d::t)=0
     ·simp(disch:=omega) only[hz,go_sem]
      exact hQ _ _ _ _ nofun rfl (by simp[zd,ze,AV.strip,AV.strip1,k0,hz])
     ·have hz':¬ (Zi (d::t):Int)=0:=by omega
      simp(disch:=omega) only[hz',wrap64,go_sem]
      exact hQ _ _ _ _ nofun rfl (by simp[zd,ze,AV.strip,AV.strip1,k0,hz])
    ·simp(disch:=omega) only[ir276,h1,h2,h3,h4,hl1,hl3,Int.toNat_one,go_sem]
     refine za (YY (d::t) (by simp only[Lim,Al2];omega)) ?_
     by_cases hz:Zi (d::t)=0
     ·simp(disch:=omega) only[hz,go_sem]
      exact hQ _ _ _ _ nofun rfl (by simp[zd,ze,AV.strip,AV.strip1,k0,hz])
     ·have hz':¬ (Zi (d::t):Int)=0:=by omega
      simp(disch:=omega) only[hz',wrap64,go_sem]
      exact hQ _ _ _ _ nofun rfl (by simp[zd,ze,AV.strip,AV.strip1,k0,hz])
def zc0 (r:List UInt8):Nat:=if r.head?=some 46∧0<Zi r.tail then 1+Zi r.tail else 0
def zht (s:List UInt8):Nat×Int :=
 if Zy s=0 then (0,0) else
  (Zy s+zc0 (s.drop (Zy s))+zem (s.drop (Zy s+zc0 (s.drop (Zy s)))),if zc0 (s.drop (Zy s))=0∧zem (s.drop (Zy s+zc0 (s.drop (Zy s))))=0 then 3 else 4)
theorem zqA (s:List UInt8) (hs:s.length≤Lim):zg Tryz.prog 269 [.str s] (.tup [.int .i64 (zht s).1,.int .i64 (zht s).2]):=by
 refine zg.go ir269 ck269 (Al4 _) fun KP Q hQ=>?_
 have hs':=hs
 simp only[Lim] at hs
 simp(disch:=omega) only[ir269,go_sem]
 refine za (zs2 s hs') ?_
 have hw:=znQ s
 by_cases h0:Zy s=0
 ·simp(disch:=omega) only[h0,go_sem]
  exact hQ _ _ _ _ nofun rfl (by simp[zd,ze,AV.strip,AV.strip1,zht,h0])
 have h0':¬ ((Zy s:Int)=0):=by omega
 have hwl:(Zy s:Int)≤s.length:=by omega
 simp(disch:=omega) only[h0',hwl,go_sem]
 refine za (zix (s.drop (Zy s)) [46]) ?_
 rw[zmw]
 generalize hn:Zy s=n at *
 have fin:∀ f p:Nat,zc0 (s.drop n)=f→zem (s.drop (n+f))=p→zht s=(n+f+p,if f=0∧p=0 then 3 else 4):=fun f p hf hp=>by
  unfold zht
  rw[hn,hf,hp]
  simp only[h0,if_false]
 have hpl:=zlX (s.drop n)
 rw[zfR] at hpl
 by_cases h46:(s.drop n).head?=some 46
 ·obtain⟨c,t,hct⟩:∃ c t,s.drop n=c::t:=by
   cases hx:s.drop n with
   | nil=>rw[hx] at h46;simp at h46
   | cons c t=>exact⟨c,t,rfl⟩
  have hlen:s.length=n+1+t.length:=by have:=congrArg List.length hct;simp at this;omega
  have hdr:s.drop (n+1)=t:=by rw[← List.drop_drop,hct];rfl
  have hto:((n:Int)+1).toNat=n+1:=by omega
  have hn1:(0:Int)≤(n:Int)+1:=by omega
  have hn2:(n:Int)+1≤s.length:=by omega
  have hrl:=zbp t
  simp(disch:=omega) only[h46,wrap64,hto,hn1,hn2,hdr,go_sem]
  refine za (YY t (by simp only[Lim];omega)) ?_
  by_cases hk:(0:Int)<Zi t
  ·have hk':0<Zi t:=by omega
   have hfr:zc0 (s.drop n)=1+Zi t:=by unfold zc0;rw[if_pos ⟨h46,by rw[hct];exact hk'⟩,hct];rfl
   have hto2:((n:Int)+1+Zi t).toNat=n+(1+Zi t):=by omega
   have hn3:(0:Int)≤(n:Int)+1+Zi t:=by omega
   have hn4:(n:Int)+1+Zi t≤s.length:=by omega
   have hpl2:=zlX (s.drop (n+(1+Zi t)))
   rw[zfR] at hpl2
   simp(disch:=omega) only[hk,wrap64,hto2,hn3,hn4,go_sem]
   refine za (zkV (s.drop (n+(1+Zi t))) (by rw[zfR];simp only[Lim];omega)) ?_
   have hf:=fin _ _ hfr rfl
   generalize hp:zem (s.drop (n+(1+Zi t)))=p at *
   by_cases hp0:(0:Int)<p
   ·simp(disch:=omega) only[hp0,wrap64,go_sem]
    exact hQ _ _ _ _ nofun rfl (by simp[zd,ze,AV.strip,AV.strip1,hf,Int.add_assoc])
   ·have hp00:p=0:=by omega
    subst hp00
    simp(disch:=omega) only[go_sem]
    exact hQ _ _ _ _ nofun rfl (by simp[zd,ze,AV.strip,AV.strip1,hf,Int.add_assoc])
  ·have hk0:Zi t=0:=by omega
   have hfr:zc0 (s.drop n)=0:=by unfold zc0;exact if_neg fun hh=>by have:=hh.2;rw[hct] at this;simp only[List.tail_cons] at this;omega
   simp(disch:=omega) only[hk,hwl,go_sem]
   refine za (zkV (s.drop n) (by rw[zfR];simp only[Lim];omega)) ?_
   have hf:=fin _ _ hfr rfl
   rw[Nat.add_zero] at hf
   generalize hp:zem (s.drop n)=p at *
   by_cases hp0:(0:Int)<p
   ·have hp1:¬ p=0:=by omega
    simp(disch:=omega) only[hp0,wrap64,go_sem]
    exact hQ _ _ _ _ nofun rfl (by simp[zd,ze,AV.strip,AV.strip1,hf,hp1])
   ·have hp00:p=0:=by omega
    subst hp00
    simp(disch:=omega) only[go_sem]
    exact hQ _ _ _ _ nofun rfl (by simp[zd,ze,AV.strip,AV.strip1,hf])
 ·have hfr:zc0 (s.drop n)=0:=by unfold zc0;exact if_neg fun hh=>h46 hh.1
  simp(disch:=omega) only[h46,hwl,go_sem]
  refine za (zkV (s.drop n) (by rw[zfR];simp only[Lim];omega)) ?_
  have hf:=fin _ _ hfr rfl
  rw[Nat.add_zero] at hf
  generalize hp:zem (s.drop n)=p at *
  by_cases hp0:(0:Int)<p
  ·have hp1:¬ p=0:=by omega
   simp(disch:=omega) only[hp0,wrap64,go_sem]
   exact hQ _ _ _ _ nofun rfl (by simp[zd,ze,AV.strip,AV.strip1,hf,hp1])
  ·have hp00:p=0:=by omega
   subst hp00
   simp(disch:=omega) only[go_sem]
   exact hQ _ _ _ _ nofun rfl (by simp[zd,ze,AV.strip,AV.strip1,hf])
def zhu (s:List UInt8):Int:=if (zht s).1=s.length then (zht s).2 else 0
theorem zi8 (s:List UInt8) (hs:s.length≤Lim):zg Tryz.prog 259 [.str s] (.int .i64 (zhu s)):=by
 refine zg.go ir259 ck259 (Al4 _) fun KP Q hQ=>?_
 simp(disch:=omega) only[ir259,go_sem]
 refine za (zqA s hs) ?_
 by_cases h:(zht s).1=s.length
 ·have h':(((zht s).1:Int)=s.length)=True:=eq_true (by omega)
  simp(disch:=omega) only[h',go_sem]
  exact hQ _ _ _ _ nofun rfl (by simp[zd,ze,AV.strip,AV.strip1,zhu,h])
 ·have h':¬ ((zht s).1:Int)=s.length:=by omega
  simp(disch:=omega) only[h',go_sem]
  exact hQ _ _ _ _ nofun rfl (by simp[zd,ze,AV.strip,AV.strip1,zhu,h])
def okI:Lib.NumEnd Int→Bool
 | .ok _=>true
 | _=>false
def zrx (s:List UInt8):Int:=match Lib.parseIntB 64 s with
 | .ok v=>v
 | Lib.NumEnd.syntax=>0
 | .range=>Lib.intSat 64 s
def zgT (s:List UInt8):Bool:=okI (Lib.parseIntB 64 s)&&decide (zhu s=3)
theorem zth (s:List UInt8) (hs:s.length≤Lim):zg Tryz.prog 260 [.str s] (.tup [.int .i64 (zrx s),.bool (zgT s)]):=by
 refine zg.go ir260 ck260 (Al4 _) fun KP Q hQ=>?_
 simp(disch:=omega) only[ir260,go_sem]
 refine za (zni s (by simp only[Lim] at hs;omega)) ?_
 rcases hp:Lib.parseIntB 64 s with v|_|_
 ·simp(disch:=omega) only[zhg,hp,go_sem]
  refine za (zi8 s hs) ?_
  simp(disch:=omega) only[go_sem]
  exact hQ _ _ _ _ nofun rfl (by simp[zd,ze,AV.strip,AV.strip1,zrx,zgT,hp,okI])
 ·simp(disch:=omega) only[zhg,hp,go_sem]
  exact hQ _ _ _ _ nofun rfl (by simp[zd,ze,AV.strip,AV.strip1,zrx,zgT,hp,okI])
 ·simp(disch:=omega) only[zhg,hp,go_sem]
  exact hQ _ _ _ _ nofun rfl (by simp[zd,ze,AV.strip,AV.strip1,zrx,zgT,hp,okI])
def zm9 (s:List UInt8):Bool:=decide (zhu s=4)||(decide (zhu s=3)&&!zgT s)
theorem zvv (s:List UInt8) (hs:s.length≤Lim):zg Tryz.prog 247 [.str s] (.bool (zm9 s)):=by
 refine zg.go ir247 ck247 (Al4 _) fun KP Q hQ=>?_
 simp(disch:=omega) only[ir247,go_sem]
 refine za (zi8 s hs) ?_
 simp(disch:=omega) only[go_sem]
 refine za (zth s hs) ?_
 by_cases h4:zhu s=4
 ·simp(disch:=omega) only[h4,go_sem]
  exact hQ _ _ _ _ nofun rfl (by simp[zd,ze,AV.strip,AV.strip1,zm9,h4])
 ·by_cases h3:zhu s=3
  ·simp(disch:=omega) only[h4,h3,go_sem]
   exact hQ _ _ _ _ nofun rfl (by simp[zd,ze,AV.strip,AV.strip1,zm9,h4,h3])
  ·simp(disch:=omega) only[h4,h3,go_sem]
   exact hQ _ _ _ _ nofun rfl (by simp[zd,ze,AV.strip,AV.strip1,zm9,h4,h3])
def znu (s:List UInt8):Bool:=decide (s=[116,114,117,101])||(decide (s=[102,97,108,115,101])||decide (s=[110,117,108,108]))
theorem zvu (s:List UInt8):zg Tryz.prog 248 [.str s] (.bool (znu s)):=by
 refine zg.go ir248 ck248 (Al4 _) fun KP Q hQ=>?_
 by_cases h1:s=[116,114,117,101]
 ·simp(disch:=omega) only[ir248,h1,go_sem]
  exact hQ _ _ _ _ nofun rfl (by simp[zd,ze,AV.strip,AV.strip1,znu,h1])
 ·by_cases h2:s=[102,97,108,115,101]
  ·subst h2
   have h3:¬ ([102,97,108,115,101]:List UInt8)=[116,114,117,101]:=by decide
   simp(disch:=omega) only[ir248,h3,go_sem]
   exact hQ _ _ _ _ nofun rfl (by simp[zd,ze,AV.strip,AV.strip1,znu,h3])
  ·simp(disch:=omega) only[ir248,h1,h2,go_sem]
   exact hQ _ _ _ _ nofun rfl (by simp[zd,ze,AV.strip,AV.strip1,znu,h1,h2])
theorem zrY (s:List UInt8) (hs:s.length≤Lim):zg Tryz.prog 203 [.str s] (.bool (Lib.validD s)):=by
 refine zg.go ir203 ck203 (Al4 _) fun KP Q hQ=>?_
 simp(disch:=omega) only[ir203,go_sem]
 refine za (zsH s (by simp only[Lim] at hs;omega)) ?_
 simp(disch:=omega) only[go_sem]
 exact hQ _ _ _ _ nofun rfl (by simp[zd,ze,AV.strip,AV.strip1])
def zdh (n:Int) (s:List UInt8) (l:List Val) (m:List Mem):Bool:=decide (n=0)&&(decide (s=[])&&(decide (l.length=0)&&decide (m.length=0)))
theorem zoo (k n:Int) (s:List UInt8) (l:List Val) (m:List Mem):zg Tryz.prog 229 [.agg (cV (.mk k n s l m))] (.bool (zdh n s l m)):=by
 refine zg.go ir229 ck229 (Al4 _) fun KP Q hQ=>?_
 have h1:=zan l
 have h2:=Za m
 by_cases g1:n=0
 case neg =>
  simp(disch:=omega) only[ir229,yo,g1,go_sem]
  exact hQ _ _ _ _ nofun rfl (by simp[zd,ze,AV.strip,AV.strip1,zdh,g1])
 by_cases g2:s=[]
 case neg =>
  simp(disch:=omega) only[ir229,yo,g1,g2,go_sem]
  exact hQ _ _ _ _ nofun rfl (by simp[zd,ze,AV.strip,AV.strip1,zdh,g2])
 by_cases g3:l.length=0
 case neg =>
  simp(disch:=omega) only[ir229,yo,g1,g2,h1,g3,go_sem]
  exact hQ _ _ _ _ nofun rfl (by simp[zd,ze,AV.strip,AV.strip1,zdh,g3])
 have e:decide ((m.length:Int)=0)=decide (m.length=0):=by rw[decide_eq_decide];omega
 simp(disch:=omega) only[ir229,yo,g1,g2,h1,h2,g3,go_sem]
 exact hQ _ _ _ _ nofun rfl (by simp[zd,ze,AV.strip,AV.strip1,zdh,g1,g2,g3,e])
def Zg (k n:Int) (s:List UInt8) (l:List Val) (m:List Mem):Bool :=
 zdh 0 [] l m&&(if k=0 then decide (n=0)&&decide (s=[]) else if k=1 then (decide (n=0)||decide (n=1))&&decide (s=[]) else if k=2 then decide (s=[])
  else if k=3 then decide (n=0)&&zm9 s else if k=4 then decide (n=0)&&Lib.validD s else if k=5 then decide (n=0)&&(zP s&&!znu s) else if k=8 then decide (n=0)&&zP s else false)
theorem zrL (k n:Int) (s:List UInt8) (l:List Val) (m:List Mem) (hs:s.length≤Lim):zg Tryz.prog 228 [.agg (cV (.mk k n s l m))] (.bool (Zg k n s l m)):=by
 refine zg.go ir228 ck228 (Al4 _) fun KP Q hQ=>?_
 simp(disch:=omega) only[ir228,yo,go_sem]
 refine zb fun b hb=>?_
 simp(disch:=omega) only[go_sem]
 refine za (zoo k 0 [] l m) ?_
 cases hb:zdh 0 [] l m with
 | false =>
  simp(disch:=omega) only[hb,go_sem]
  exact hQ _ _ _ _ nofun rfl (by simp[zd,ze,AV.strip,AV.strip1,Zg,hb])
 | true =>
  by_cases k0:k=0
  ·by_cases n0:n=0
   ·simp(disch:=omega) only[hb,k0,n0,go_sem]
    exact hQ _ _ _ _ nofun rfl (by simp[zd,ze,AV.strip,AV.strip1,Zg,hb,k0,n0])
   ·simp(disch:=omega) only[hb,k0,n0,go_sem]
    exact hQ _ _ _ _ nofun rfl (by simp[zd,ze,AV.strip,AV.strip1,Zg,hb,k0,n0])
  by_cases k1:k=1
  ·by_cases n0:n=0
   ·simp(disch:=omega) only[hb,k0,k1,n0,go_sem]
    exact hQ _ _ _ _ nofun rfl (by simp[zd,ze,AV.strip,AV.strip1,Zg,hb,k1,n0])
   ·by_cases n1:n=1
    ·simp(disch:=omega) only[hb,k0,k1,n0,n1,go_sem]
     exact hQ _ _ _ _ nofun rfl (by simp[zd,ze,AV.strip,AV.strip1,Zg,hb,k1,n1])
    ·simp(disch:=omega) only[hb,k0,k1,n0,n1,go_sem]
     exact hQ _ _ _ _ nofun rfl (by simp[zd,ze,AV.strip,AV.strip1,Zg,hb,k1,n0,n1])
  by_cases k2:k=2
  ·simp(disch:=omega) only[hb,k0,k1,k2,go_sem]
   exact hQ _ _ _ _ nofun rfl (by simp[zd,ze,AV.strip,AV.strip1,Zg,hb,k2])
  by_cases k3:k=3
  ·by_cases n0:n=0
   ·simp(disch:=omega) only[hb,k0,k1,k2,k3,n0,go_sem]
    refine za (zvv s hs) ?_
    simp(disch:=omega) only[go_sem]
    exact hQ _ _ _ _ nofun rfl (by simp[zd,ze,AV.strip,AV.strip1,Zg,hb,k3,n0])
   ·simp(disch:=omega) only[hb,k0,k1,k2,k3,n0,go_sem]
    exact hQ _ _ _ _ nofun rfl (by simp[zd,ze,AV.strip,AV.strip1,Zg,hb,k3,n0])
  by_cases k4:k=4
  ·by_cases n0:n=0
   ·simp(disch:=omega) only[hb,k0,k1,k2,k3,k4,n0,go_sem]
    refine za (zrY s hs) ?_
    simp(disch:=omega) only[go_sem]
    exact hQ _ _ _ _ nofun rfl (by simp[zd,ze,AV.strip,AV.strip1,Zg,hb,k4,n0])
   ·simp(disch:=omega) only[hb,k0,k1,k2,k3,k4,n0,go_sem]
    exact hQ _ _ _ _ nofun rfl (by simp[zd,ze,AV.strip,AV.strip1,Zg,hb,k4,n0])
  by_cases k5:k=5
  ·by_cases n0:n=0
   ·simp(disch:=omega) only[hb,k0,k1,k2,k3,k4,k5,n0,go_sem]
    refine za (zhF s hs) ?_
    cases hn:zP s with
    | true =>
     simp(disch:=omega) only[hn,go_sem]
     refine za (zvu s) ?_
     simp(disch:=omega) only[go_sem]
     exact hQ _ _ _ _ nofun rfl (by simp[zd,ze,AV.strip,AV.strip1,Zg,hb,k5,n0,hn])
    | false =>
     simp(disch:=omega) only[hn,go_sem]
     exact hQ _ _ _ _ nofun rfl (by simp[zd,ze,AV.strip,AV.strip1,Zg,hb,k5,n0,hn])
   ·simp(disch:=omega) only[hb,k0,k1,k2,k3,k4,k5,n0,go_sem]
    exact hQ _ _ _ _ nofun rfl (by simp[zd,ze,AV.strip,AV.strip1,Zg,hb,k5,n0])
  by_cases k8:k=8
  ·by_cases n0:n=0
   ·simp(disch:=omega) only[hb,k0,k1,k2,k3,k4,k5,k8,n0,go_sem]
    refine za (zhF s hs) ?_
    simp(disch:=omega) only[go_sem]
    exact hQ _ _ _ _ nofun rfl (by simp[zd,ze,AV.strip,AV.strip1,Zg,hb,k8,n0])
   ·simp(disch:=omega) only[hb,k0,k1,k2,k3,k4,k5,k8,n0,go_sem]
    exact hQ _ _ _ _ nofun rfl (by simp[zd,ze,AV.strip,AV.strip1,Zg,hb,k8,n0])
  ·simp(disch:=omega) only[hb,k0,k1,k2,k3,k4,k5,k8,go_sem]
   exact hQ _ _ _ _ nofun rfl (by simp[zd,ze,AV.strip,AV.strip1,Zg,hb,k0,k1,k2,k3,k4,k5,k8])
mutual
def zdC (may:List UInt8→Bool):Val→Bool
 | .mk k n s l m=>if k=6 then zgC may l&&zdh n s [] m else if k=7 then zgx may m&&zdh n s l [] else Zg k n s l m
def zgC (may:List UInt8→Bool):List Val→Bool
 | []=>true
 | v::r=>zdC may v&&zgC may r
def zu7 (may:List UInt8→Bool):Mem→Bool
 | .mk s v=>may s&&zdC may v
def zgx (may:List UInt8→Bool):List Mem→Bool
 | []=>true
 | x::r=>zu7 may x&&zgx may r
end
theorem zum (f:FuncId) (hf:Program.callable Tryz.prog f=true) (may:List UInt8→Bool) (hmay:∀ s:List UInt8,s.length≤Lim→zg Tryz.prog f [.str s] (.bool (may s))) :
  ∀ v,bV v≤Lim→zg Tryz.prog 202 [.agg (cV v),.clo f [] []] (.bool (zdC may v)):=by
 refine Val.ind fun k n s l m ihl ihm hb=>?_
 have hb':1+s.length+bVs l+bMs m≤Lim:=hb
 have hll:=za0 l
 have hml:=Ze m
 have h1:=zan l
 have h2:=Za m
 simp only[Lim] at hb'
 refine zg.go ir202 ck202 (Al4 _) fun KP Q hQ=>?_
 simp(disch:=omega) only[ir202,yo,go_sem]
 refine zb fun b hb=>?_
 by_cases k6:k=6
 ·subst k6
  simp(disch:=omega) only[h1,go_sem]
  refine zf l 22 (fun _:Unit=>[(6,.bool true)]) (fun done rest _ H=>zgC may rest=zgC may l∧H b=some (.cells [.int .i64 6,.int .i64 n,.str s,.sl .nil 5 [],.sl .no 6 (cMs m)])) () (by simp(disch:=omega) only[go_sem]) ⟨rfl,by simp[zc.upd]⟩ ?_ ?_
  ·rintro _ H J ⟨hn,hH⟩ hlt
   simp only[zgC] at hn
   simp(disch:=omega) only[h1,hlt,hH,go_sem]
   refine za (zg.low (zoo 6 n s [] m)) ?_
   simp(disch:=omega) only[go_sem]
   exact hQ _ _ _ _ nofun rfl (by simp[zd,ze,AV.strip,AV.strip1,zdC,← hn])
  ·rintro done x rest _ H J hd hlt _ ⟨hn,hH⟩ hJ
   have hg:=za1 hd
   have hbm:=zfZ done x rest
   rw[← hd] at hbm
   simp only[zgC] at hn
   simp(disch:=omega) only[zp,zl,zh,zo,zm,zi,zr,h1,hlt,hg,go_sem]
   refine zb fun b2 hb2=>?_
   have hne:=zdW hb2 hH
   simp(disch:=omega) only[zp,zl,zh,zo,zm,zi,zr,go_sem]
   refine za (ihl x (by rw[hd];simp) (by simp only[Lim];omega)) ?_
   cases hx:zdC may x with
   | true =>
    simp only[hx,Bool.true_and] at hn
    simp(disch:=omega) only[hx,go_sem]
    exact goJ (hJ () _ ⟨hn,by simp[zc.upd,Ne.symm hne,hH]⟩) (by simp(disch:=omega) only[wrap64,go_sem])
   | false =>
    simp only[hx,Bool.false_and] at hn
    simp(disch:=omega) only[hx,go_sem]
    exact hQ _ _ _ _ nofun rfl (by simp[zd,ze,AV.strip,AV.strip1,zdC,← hn])
 by_cases k7:k=7
 ·subst k7
  simp(disch:=omega) only[h2,go_sem]
  refine zf m 38 (fun _:Unit=>[(6,.bool true)]) (fun done rest _ H=>zgx may rest=zgx may m∧H b=some (.cells [.int .i64 7,.int .i64 n,.str s,.sl .no 5 (cVs l),.sl .nil 6 []])) () (by simp(disch:=omega) only[go_sem]) ⟨rfl,by simp[zc.upd]⟩ ?_ ?_
  ·rintro _ H J ⟨hn,hH⟩ hlt
   simp only[zgx] at hn
   simp(disch:=omega) only[h2,hlt,hH,go_sem]
   refine za (zg.low (zoo 7 n s l [])) ?_
   simp(disch:=omega) only[go_sem]
   exact hQ _ _ _ _ nofun rfl (by simp[zd,ze,AV.strip,AV.strip1,zdC,← hn])
  ·rintro done x rest _ H J hd hlt _ ⟨hn,hH⟩ hJ
   have hg:=Zs hd
   have hbm:=zat done x rest
   rw[← hd] at hbm
   have hmem:x∈m:=by rw[hd];simp
   obtain⟨t,v⟩:=x
   simp only[zgx,zu7,bM] at hn hbm
   simp(disch:=omega) only[zp,zl,zh,zo,zm,zi,zr,h2,hlt,hg,go_sem]
   refine zb fun b2 hb2=>?_
   have hne:=zdW hb2 hH
   simp(disch:=omega) only[zp,zl,zh,zo,zm,zi,zr,go_sem]
   refine⟨hf,za (hmay t (by simp only[Lim];omega)) ?_⟩
   cases ht:may t with
   | true =>
    simp(disch:=omega) only[zp,zl,zh,zo,zm,zi,zr,ht,go_sem]
    refine za (ihm t v hmem (by simp only[Lim];omega)) ?_
    cases hx:zdC may v with
    | true =>
     simp only[ht,hx,Bool.true_and] at hn
     simp(disch:=omega) only[hx,go_sem]
     exact goJ (hJ () _ ⟨hn,by simp[zc.upd,Ne.symm hne,hH]⟩) (by simp(disch:=omega) only[wrap64,go_sem])
    | false =>
     simp only[ht,hx,Bool.true_and,Bool.false_and] at hn
     simp(disch:=omega) only[hx,go_sem]
     exact hQ _ _ _ _ nofun rfl (by simp[zd,ze,AV.strip,AV.strip1,zdC,← hn])
   | false =>
    simp only[ht,Bool.false_and] at hn
    simp(disch:=omega) only[zp,zl,zh,zo,zm,zi,zr,ht,go_sem]
    exact hQ _ _ _ _ nofun rfl (by simp[zd,ze,AV.strip,AV.strip1,zdC,← hn])
 ·simp(disch:=omega) only[k6,k7,go_sem]
  refine za (zrL k n s l m (by simp only[Lim];omega)) ?_
  simp(disch:=omega) only[go_sem]
  exact hQ _ _ _ _ nofun rfl (by simp[zd,ze,AV.strip,AV.strip1,zdC,k6,k7])
def zmO (v:Val):Bool:=zdC Lib.validD v
theorem ztp (v:Val) (hb:bV v≤Lim):zg Tryz.prog 148 [.agg (cV v)] (.bool (zmO v)):=by
 refine zg.go ir148 ck148 (Al4 _) fun KP Q hQ=>?_
 simp(disch:=omega) only[zp,zl,zh,zo,zm,zi,zr,ir148,go_sem]
 refine za (zum _ (by kernel_rfl) Lib.validD zrY v hb) ?_
 simp(disch:=omega) only[go_sem]
 exact hQ _ _ _ _ nofun rfl (by simp[zd,ze,AV.strip,AV.strip1,zmO])
def zaL (v:Val):Bool:=zdC zP v&&decide (Zx v≤16)
theorem zrw (v:Val) (hb:bV v≤Lim):zg Tryz.prog 255 [.agg (cV v)] (.bool (zaL v)):=by
 refine zg.go ir255 ck255 (Al4 _) fun KP Q hQ=>?_
 simp(disch:=omega) only[zp,zl,zh,zo,zm,zi,zr,ir255,go_sem]
 refine za (zum _ (by kernel_rfl) zP zhF v hb) ?_
 cases h:zdC zP v with
 | true =>
  simp(disch:=omega) only[zp,zl,zh,zo,zm,zi,zr,h,go_sem]
  refine za (zdM v hb) ?_
  simp(disch:=omega) only[go_sem]
  exact hQ _ _ _ _ nofun rfl (by simp[zd,ze,AV.strip,AV.strip1,zaL,h])
 | false =>
  simp(disch:=omega) only[h,go_sem]
  exact hQ _ _ _ _ nofun rfl (by simp[zd,ze,AV.strip,AV.strip1,zaL,h])
theorem zjQ (s:List UInt8):zg Tryz.prog 264 [.str s] (.agg (cK ⟨2,s⟩)):=by
 refine zg.go ir264 ck264 (Al4 _) fun KP Q hQ=>?_
 simp(disch:=omega) only[ir264,go_sem]
 refine zb fun b hb=>?_
 simp(disch:=omega) only[go_sem]
 exact hQ _ _ _ [.agg [.int .i64 2,.str s]] nofun (by simp(disch:=omega) only[ir264,zN,Zv,go_sem]) rfl
theorem ze5 (s:List UInt8):zg Tryz.prog 267 [.str s] (.agg (cK ⟨1,s⟩)):=by
 refine zg.go ir267 ck267 (Al4 _) fun KP Q hQ=>?_
 simp(disch:=omega) only[ir267,go_sem]
 refine zb fun b hb=>?_
 simp(disch:=omega) only[go_sem]
 exact hQ _ _ _ [.agg [.int .i64 1,.str s]] nofun (by simp(disch:=omega) only[ir267,zN,Zv,go_sem]) rfl
def boolT (b:Bool):List UInt8:=if b then [116,114,117,101] else [102,97,108,115,101]
theorem zoJ (b:Bool):zg Tryz.prog 271 [.bool b] (.str (boolT b)):=by
 refine zg.go ir271 ck271 (Al4 _) fun KP Q hQ=>?_
 cases b
 ·simp(disch:=omega) only[ir271,go_sem]
  exact hQ _ _ _ _ nofun rfl (by simp[zd,ze,AV.strip,AV.strip1,boolT])
 ·simp(disch:=omega) only[ir271,go_sem]
  exact hQ _ _ _ _ nofun rfl (by simp[zd,ze,AV.strip,AV.strip1,boolT])
theorem zqp (b:Bool):zg Tryz.prog 265 [.bool b] (.str (boolT b)):=by
 refine zg.go ir265 ck265 (Al4 _) fun KP Q hQ=>?_
 simp(disch:=omega) only[ir265,go_sem]
 refine za (zoJ b) ?_
 simp(disch:=omega) only[go_sem]
 exact hQ _ _ _ _ nofun rfl (by simp[zd,ze,AV.strip,AV.strip1])
mutual
def Yn:Val→List Tok
 | .mk k n s l m=>if k=0 then [⟨2,[110,117,108,108]⟩] else if k=1 then [⟨2,boolT (decide (n=1))⟩] else if k=2 then [⟨3,Lib.itoa n⟩] else if k=3 then [⟨zhu s,s⟩] else if k=4 then [⟨5,s⟩]
  else if k=5 then [⟨2,s⟩] else if k=8 then [⟨1,[36]⟩,⟨2,s⟩] else if k=6 then ⟨1,[91]⟩::(zbX l++[⟨1,[93]⟩]) else ⟨1,[123]⟩::(Yf m++[⟨1,[125]⟩])
def zbX:List Val→List Tok
 | []=>[]
 | v::r=>Yn v++zbX r
def zj3:Mem→List Tok
 | .mk s v=>⟨2,s⟩::⟨1,[58]⟩::Yn v
def Yf:List Mem→List Tok
 | []=>[]
 | x::r=>zj3 x++Yf r
end
mutual
theorem zdn:∀ v,(Yn v).length+2≤4*bV v
 | .mk k n s l m=>by
  have h1:=zgi l
  have h2:=zgn m
  simp only[Yn,bV]
  repeat' split
  all_goals simp only[Al2,Al5,Al3]
  all_goals omega
theorem zgi:∀ l,(zbX l).length≤4*bVs l
 | []=>by simp[zbX]
 | v::r=>by
  have h1:=zdn v
  have h2:=zgi r
  simp only[zbX,bVs,Al5];omega
theorem zqo:∀ x,(zj3 x).length≤4*bM x
 | .mk s v=>by have:=zdn v;simp only[zj3,bM,Al2];omega
theorem zgn:∀ l,(Yf l).length≤4*bMs l
 | []=>by simp[Yf]
 | x::r=>by
  have h1:=zqo x
  have h2:=zgn r
  simp only[Yf,bMs,Al5];omega
end
def inR (n:Int):Prop:=-9223372036854775808≤n∧n≤9223372036854775807
mutual
def wfV:Val→Prop
 | .mk _ n _ l m=>inR n∧zlQ l∧zfU m
def zlQ:List Val→Prop
 | []=>True
 | v::r=>wfV v∧zlQ r
def wfM:Mem→Prop
 | .mk _ v=>wfV v
def zfU:List Mem→Prop
 | []=>True
 | x::r=>wfM x∧zfU r
end
theorem zkk:∀ {l:List Val},zlQ l→∀ v∈l,wfV v
 | _::_,h,v,hv=>(List.mem_cons.1 hv).elim (fun e=>e▸h.1) (zkk h.2 v)
theorem zeu:∀ {l:List Mem},zfU l→∀ s v,Mem.mk s v∈l→wfV v
 | _::_,h,s,v,hv=>(List.mem_cons.1 hv).elim (fun e=>by have:=h.1;rw[← e] at this;exact this) (zeu h.2 s v)
theorem zaZ (a:List Tok) (t:Tok):cKs a++[[.int .i64 t.k,.str t.s]]=cKs (a++[t]):=by simp[cKs,cK]
theorem zj2 (a:List Tok) (t u:Tok):cKs a++[[.int .i64 t.k,.str t.s],[.int .i64 u.k,.str u.s]]=cKs (a++[t,u]):=by simp[cKs,cK]
theorem zq5:∀ v,wfV v→∀ acc H o,acc.length+4*bV v≤Lim→zY H o acc.length 2→Y8 Tryz.prog 256 [.sl o 2 (cKs acc),.agg (cV v)] H o 2 (cKs (acc++Yn v)):=by
 refine Val.ind fun k n s l m ihl ihm hwf acc H o hb ho=>?_
 obtain⟨hn,hwl,hwm⟩:=hwf
 have hb':acc.length+4*(1+s.length+bVs l+bMs m)≤Lim:=hb
 have hll:=za0 l
 have hml:=Ze m
 have h1:=zan l
 have h2:=Za m
 have h3:=yz acc
 have hT:=zgi l
 have hM:=zgn m
 simp only[Lim] at hb'
 have hsl:s.length≤Lim:=by simp only[Lim];omega
 refine zj.goO ir256 ck256 (Al4 _) fun KP Q hQ hP=>?_
 have one:∀ t:Tok,Yn (.mk k n s l m)=[t]→∀ o' H',OwnS H o H' o' (acc.length+1) 2→zuG H o 2 (cKs (acc++Yn (.mk k n s l m))) (.sl o' 2 (cKs acc++[[.int .i64 t.k,.str t.s]])) H':=fun t e o' H' hs=>by
  rw[e];exact⟨o',by rw[zaZ],by rw[yz];simpa using hs⟩
 have hq1:((cKs acc).length+1)*24≤140737488355328:=by rw[h3];omega
 have hq2:(cKs acc).length+1≤maxLen:=by rw[h3];simp only[maxLen];omega
 have hq3:((cKs acc).length+2)*24≤140737488355328:=by rw[h3];omega
 have hq4:(cKs acc).length+2≤maxLen:=by rw[h3];simp only[maxLen];omega
 have ho':zY H o (cKs acc).length 2:=by rw[h3];exact ho
 by_cases k0:k=0
 ·subst k0
  simp(disch:=omega) only[ir256,yo,go_sem]
  refine za (zjQ _) ?_
  simp(disch:=omega) only[cK,go_sem]
  refine zu ho' hq1 hq2 fun o' H' hs=>?_
  simp(disch:=omega) only[go_sem]
  exact hQ _ _ H' H' [_] nofun rfl (Low.refl _) (one ⟨2,[110,117,108,108]⟩ (by simp[Yn]) o' H' (by simpa[h3] using hs))
 by_cases k1:k=1
 ·subst k1
  simp(disch:=omega) only[ir256,yo,go_sem]
  refine za (zqp _) ?_
  simp(disch:=omega) only[go_sem]
  refine za (zjQ _) ?_
  simp(disch:=omega) only[cK,go_sem]
  refine zu ho' hq1 hq2 fun o' H' hs=>?_
  simp(disch:=omega) only[go_sem]
  exact hQ _ _ H' H' [_] nofun rfl (Low.refl _) (one ⟨2,boolT (decide (n=1))⟩ (by simp[Yn]) o' H' (by simpa[h3] using hs))
 by_cases k2:k=2
 ·subst k2
  simp(disch:=omega) only[ir256,yo,go_sem]
  refine za (zlb n hn.1 hn.2) ?_
  simp(disch:=omega) only[go_sem]
  refine zu ho' hq1 hq2 fun o' H' hs=>?_
  simp(disch:=omega) only[go_sem]
  exact hQ _ _ H' H' [_] nofun rfl (Low.refl _) (one ⟨3,Lib.itoa n⟩ (by simp[Yn]) o' H' (by simpa[h3] using hs))
 by_cases k3:k=3
 ·subst k3
  simp(disch:=omega) only[ir256,yo,go_sem]
  refine za (zi8 s hsl) ?_
  simp(disch:=omega) only[go_sem]
  refine zu ho' hq1 hq2 fun o' H' hs=>?_
  simp(disch:=omega) only[go_sem]
  exact hQ _ _ H' H' [_] nofun rfl (Low.refl _) (one ⟨zhu s,s⟩ (by simp[Yn]) o' H' (by simpa[h3] using hs))
 by_cases k4:k=4
 ·subst k4
  simp(disch:=omega) only[ir256,yo,go_sem]
  refine zu ho' hq1 hq2 fun o' H' hs=>?_
  simp(disch:=omega) only[go_sem]
  exact hQ _ _ H' H' [_] nofun rfl (Low.refl _) (one ⟨5,s⟩ (by simp[Yn]) o' H' (by simpa[h3] using hs))
 by_cases k5:k=5
 ·subst k5
  simp(disch:=omega) only[ir256,yo,go_sem]
  refine za (zjQ _) ?_
  simp(disch:=omega) only[cK,go_sem]
  refine zu ho' hq1 hq2 fun o' H' hs=>?_
  simp(disch:=omega) only[go_sem]
  exact hQ _ _ H' H' [_] nofun rfl (Low.refl _) (one ⟨2,s⟩ (by simp[Yn]) o' H' (by simpa[h3] using hs))
 by_cases k8:k=8
 ·subst k8
  simp(disch:=omega) only[ir256,yo,go_sem]
  refine za (ze5 _) ?_
  simp(disch:=omega) only[cK,go_sem]
  refine za (zjQ _) ?_
  simp(disch:=omega) only[cK,go_sem]
  refine zu ho' hq3 hq4 fun o' H' hs=>?_
  simp(disch:=omega) only[go_sem]
  refine hQ _ _ H' H' [_] nofun rfl (Low.refl _) ?_
  have e:Yn (.mk 8 n s l m)=[⟨1,[36]⟩,⟨2,s⟩]:=by simp[Yn]
  rw[e]
  exact⟨o',by rw[← zj2];rfl,by rw[yz];simpa[h3] using hs⟩
 by_cases k6:k=6
 ·subst k6
  have e:Yn (.mk 6 n s l m)=⟨1,[91]⟩::(zbX l++[⟨1,[93]⟩]):=by simp[Yn]
  have ea:=zaZ acc ⟨1,[91]⟩
  simp only at ea
  simp(disch:=omega) only[ir256,yo,go_sem]
  refine za (ze5 _) ?_
  simp(disch:=omega) only[cK,go_sem]
  refine zu ho' hq1 hq2 fun o1 H1 hs1=>?_
  have hs1':OwnS H o H1 o1 (acc++[(⟨1,[91]⟩:Tok)]).length 2:=by simpa[h3] using hs1
  simp(disch:=omega) only[ea,h1,go_sem]
  refine zf l 81 (fun x:Own×List Tok=>[(0,.sl x.1 2 (cKs x.2))]) (fun done rest x H'=>x.2++zbX rest=acc++⟨1,[91]⟩::zbX l∧x.2.length+4*bVs rest≤acc.length+1+4*bVs l∧OwnS H o H' x.1 x.2.length 2) (o1,acc++[⟨1,[91]⟩]) (by simp(disch:=omega) only[go_sem]) ⟨by simp,by simp,hs1'⟩ ?_ ?_
  ·rintro⟨o2,a⟩ H2 J ⟨hn,hle,hs⟩ hlt
   simp only[zbX,List.append_nil,bVs] at hn hle
   have h4:=yz a
   simp(disch:=omega) only[h1,hlt,go_sem]
   refine za (ze5 _) ?_
   simp(disch:=omega) only[cK,go_sem]
   refine zu (by rw[h4];exact hs.own) (by simp only[h4,Al2,Al3];omega) (by simp only[h4,Al2,Al3,maxLen];omega) fun o3 H3 hs3=>?_
   simp(disch:=omega) only[go_sem]
   refine hQ _ _ H3 H3 [_] nofun rfl (Low.refl _) ?_
   have e2:acc++Yn (.mk 6 n s l m)=a++[⟨1,[93]⟩]:=by rw[e,hn];simp
   rw[e2]
   exact⟨o3,by rw[← zaZ];rfl,by rw[yz];exact hs.trans (by simpa[h4] using hs3)⟩
  ·rintro done x rest ⟨o2,a⟩ H2 J hd hlt _ ⟨hn,hle,hs⟩ hJ
   have hg:=za1 hd
   have hx:=zdn x
   have hmem:x∈l:=by rw[hd];simp
   simp only[zbX,bVs] at hn hle
   simp(disch:=omega) only[zp,zl,zh,zo,zm,zi,zr,h1,hlt,hg,go_sem]
   refine zb fun b hb=>?_
   simp(disch:=omega) only[zp,zl,zh,zo,zm,zi,zr,go_sem]
   refine zB (ihl x hmem (zkk hwl x hmem) a _ o2 (by simp only[Lim];omega) (hs.own.upd hb)) fun o3 H3 hs3=>?_
   rw[yz] at hs3
   simp(disch:=omega) only[wrap64,go_sem]
   exact goJ (hJ (o3,a++Yn x) H3 ⟨by rw[← hn];simp,by simp only[Al5];omega,(hs.upd hb).trans hs3⟩) (by simp(disch:=omega) only[go_sem])
 ·have e:Yn (.mk k n s l m)=⟨1,[123]⟩::(Yf m++[⟨1,[125]⟩]):=by simp[Yn,k0,k1,k2,k3,k4,k5,k8,k6]
  have ea:=zaZ acc ⟨1,[123]⟩
  simp only at ea
  simp(disch:=omega) only[ir256,yo,k0,k1,k2,k3,k4,k5,k8,k6,go_sem]
  refine za (ze5 _) ?_
  simp(disch:=omega) only[cK,go_sem]
  refine zu ho' hq1 hq2 fun o1 H1 hs1=>?_
  have hs1':OwnS H o H1 o1 (acc++[(⟨1,[123]⟩:Tok)]).length 2:=by simpa[h3] using hs1
  simp(disch:=omega) only[ea,h2,go_sem]
  refine zf m 100 (fun x:Own×List Tok=>[(0,.sl x.1 2 (cKs x.2))]) (fun done rest x H'=>x.2++Yf rest=acc++⟨1,[123]⟩::Yf m∧x.2.length+4*bMs rest≤acc.length+1+4*bMs m∧OwnS H o H' x.1 x.2.length 2) (o1,acc++[⟨1,[123]⟩]) (by simp(disch:=omega) only[go_sem]) ⟨by simp,by simp,hs1'⟩ ?_ ?_
  ·rintro⟨o2,a⟩ H2 J ⟨hn,hle,hs⟩ hlt
   simp only[Yf,List.append_nil,bMs] at hn hle
   have h4:=yz a
   simp(disch:=omega) only[h2,hlt,go_sem]
   refine za (ze5 _) ?_
   simp(disch:=omega) only[cK,go_sem]
   refine zu (by rw[h4];exact hs.own) (by simp only[h4,Al2,Al3];omega) (by simp only[h4,Al2,Al3,maxLen];omega) fun o3 H3 hs3=>?_
   simp(disch:=omega) only[go_sem]
   refine hQ _ _ H3 H3 [_] nofun rfl (Low.refl _) ?_
   have e2:acc++Yn (.mk k n s l m)=a++[⟨1,[125]⟩]:=by rw[e,hn];simp
   rw[e2]
   exact⟨o3,by rw[← zaZ];rfl,by rw[yz];exact hs.trans (by simpa[h4] using hs3)⟩
  ·rintro done x rest ⟨o2,a⟩ H2 J hd hlt _ ⟨hn,hle,hs⟩ hJ
   have hg:=Zs hd
   have hmem:x∈m:=by rw[hd];simp
   obtain⟨t,v⟩:=x
   have hx:=zdn v
   have h4:=yz a
   have hp:=YZ v
   simp only[Yf,zj3,bMs,bM] at hn hle
   have ea2:=zj2 a ⟨2,t⟩ ⟨1,[58]⟩
   simp only at ea2
   simp(disch:=omega) only[zp,zl,zh,zo,zm,zi,zr,h2,hlt,hg,go_sem]
   refine zb fun b hb=>?_
   simp(disch:=omega) only[zp,zl,zh,zo,zm,zi,zr,go_sem]
   refine za (zjQ _) ?_
   simp(disch:=omega) only[zp,zl,zh,zo,zm,zi,zr,cK,go_sem]
   refine za (ze5 _) ?_
   simp(disch:=omega) only[zp,zl,zh,zo,zm,zi,zr,cK,go_sem]
   refine zu (by rw[h4];exact hs.own.upd hb) (by simp only[h4,Al2,Al3];omega) (by simp only[h4,Al2,Al3,maxLen];omega) fun o3 H3 hs3=>?_
   have hs3':OwnS H o H3 o3 (a++[(⟨2,t⟩:Tok),⟨1,[58]⟩]).length 2:=(hs.upd hb).trans (by simpa[h4] using hs3)
   have hHb:H3 b=some (.cells (cM (.mk t v))):=hs3.kept b _ (by simp[zc.upd,zr]) fun d e=>by
    have:=hs.own;subst e
    have hx:H2 b=_:=this
    rw[hb] at hx;cases hx
   simp(disch:=omega) only[zp,zl,zh,zo,zm,zi,zr,ea2,hHb,go_sem]
   refine zB (ihm t v hmem (zeu hwm t v hmem) _ _ o3 (by simp only[Lim,Al5,Al2,Al3];omega) hs3'.own) fun o4 H4 hs4=>?_
   rw[yz] at hs4
   simp(disch:=omega) only[wrap64,go_sem]
   exact goJ (hJ (o4,a++[⟨2,t⟩,⟨1,[58]⟩]++Yn v) H4 ⟨by rw[← hn];simp,by simp only[Al5,Al2,Al3];omega,hs3'.trans hs4⟩) (by simp(disch:=omega) only[go_sem])
def YD (v:Val):List Tok:=if zaL v then Yn v else []
theorem zbt (v:Val) (hw:wfV v) (hb:4*bV v≤Lim):zg Tryz.prog 241 [.agg (cV v)] (.tup [.sl .no 2 (cKs (YD v)),.bool (zaL v)]):=by
 have hb':bV v≤Lim:=by omega
 refine zg.go ir241 ck241 (Al4 _) fun KP Q hQ=>?_
 simp(disch:=omega) only[zp,zl,zh,zo,zm,zi,zr,ir241,go_sem]
 refine za (zrw v hb') ?_
 cases h:zaL v with
 | false =>
  simp(disch:=omega) only[h,go_sem]
  exact hQ _ _ _ _ nofun rfl (by simp[zd,ze,AV.strip,AV.strip1,YD,h,cKs])
 | true =>
  simp(disch:=omega) only[zp,zl,zh,zo,zm,zi,zr,h,go_sem]
  refine zB (zq5 v hw [] _ .nil (by simpa using hb) rfl) fun o' H' hs=>?_
  simp(disch:=omega) only[go_sem]
  exact hQ _ _ _ _ nofun rfl (by simp[zd,ze,AV.strip,AV.strip1,YD,h])
end Go.Proofs.YtbcocdloklbkjaaGreatDoor
namespace Go.Proofs.YtbcocdloklbkjaaGreatDoor
def zlK (P:Program) (f:FuncId) (fn:Func) (s:ChangeSpec) (c:OpenClaim):Bool:=c.wf (OpenSpec.ofChange s)&&laidOutB P&&mapsRowed P&&fn.params.all (P.readableRec ·)&&namedTie P c.named s.vars
def zlF (P:Program) (f:FuncId) (fn:Func) (s:ChangeSpec) (c:OpenClaim):Bool:=(c.stops==[])&&(P.stops==[])&&(c.knobs==[])&&(P.stopKnobs==[])&&(c.maps==(fn.params.toList++s.plain.varTypes P).any (P.mapsRec ·))&&(c.ifaces==(fn.params.toList++s.plain.varTypes P).any (P.ifacesRec ·))&&(c.mapsOut==P.mapsAmong fn.resultTypes.toList)&&(c.loops==(fn.params.toList++s.plain.varTypes P).any (P.loopsFrom ·))&&(c.wideKeys==(fn.params.toList++s.plain.varTypes P++fn.resultTypes.toList).any (P.wideKeysFrom ·))&&s.vars.all (P.varReadable ·)&&fn.resultTypes.all (fun t=>P.readableRec t&&decide (t<P.types.size))&&(c.ifacesOut==fn.resultTypes.toList.any (P.ifacesRec ·))&&(c.loopsOut==fn.resultTypes.toList.any (P.loopsFrom ·))&&(c.veiled==(fn.params.toList++s.plain.varTypes P++fn.resultTypes.toList).any (P.veiledRec ·))&&c.veiledFits P fn.params.toList (fn.params.toList++s.plain.varTypes P++fn.resultTypes.toList)
def zlP (P:Program) (f:FuncId) (fn:Func) (s:ChangeSpec) (c:OpenClaim):Bool:=(c.inPlace==P.inPlace f)&&(c.unfollowed==P.unfollowed f)&&(c.recurses==P.recurses f)&&(c.named==P.varsNamed f)
def zlA (P:Program) (f:FuncId) (fn:Func) (s:ChangeSpec) (c:OpenClaim):Bool:=(c.plainKeys==P.plainKeys)&&c.shortTexts.isNone
def zlE (P:Program) (f:FuncId) (fn:Func) (s:ChangeSpec) (c:OpenClaim):Bool:=P.stopsHeard
def zld (P:Program) (f:FuncId) (fn:Func) (s:ChangeSpec) (c:OpenClaim):Bool:=P.mayEnter
def zlM (P:Program) (f:FuncId) (fn:Func) (s:ChangeSpec) (c:OpenClaim):Bool:=(c.lifted==P.liftsFinal)&&(P.make==some c.make)&&(c.kinds==(if c.domain.isEmpty then [] else fn.params.toList.map fun t=>match P.underlying t with|some (.int k)=>some k|_=>none))&&(c.pinned==c.pinnedBy)
theorem znk {P:Program} {f:FuncId} {fn:Func} {s:ChangeSpec} {c:OpenClaim} (h0:zlK P f fn s c=true) (h1:zlF P f fn s c=true) (h2:zlP P f fn s c=true) (h3:zlA P f fn s c=true) (h4:zlE P f fn s c=true) (h5:zld P f fn s c=true) (h6:zlM P f fn s c=true):joinedFacts P f fn s c=true:=by
 simp only[zlK,Al0] at h0
 obtain⟨⟨⟨⟨a0,a1⟩,a2⟩,a3⟩,a4⟩:=h0
 simp only[zlF,Al0] at h1
 obtain⟨⟨⟨⟨⟨⟨⟨⟨⟨⟨⟨⟨⟨⟨a5,a6⟩,a7⟩,a8⟩,a13⟩,a14⟩,a15⟩,a16⟩,a17⟩,a18⟩,a19⟩,a20⟩,a21⟩,a30⟩,a31⟩:=h1
 simp only[zlP,Al0] at h2
 obtain⟨⟨⟨a9,a10⟩,a11⟩,a12⟩:=h2
 simp only[zlA,Al0] at h3
 obtain⟨a22,a23⟩:=h3
 simp only[zlE,Al0] at h4
 have a24:=h4
 simp only[zld,Al0] at h5
 have a25:=h5
 simp only[zlM,Al0] at h6
 obtain⟨⟨⟨a26,a27⟩,a28⟩,a29⟩:=h6
 simp only[joinedFacts,Al0]
 exact⟨⟨⟨⟨⟨⟨⟨⟨⟨⟨⟨⟨⟨⟨⟨⟨⟨⟨⟨⟨⟨⟨⟨⟨⟨⟨⟨⟨⟨⟨⟨a0,a1⟩,a2⟩,a3⟩,a4⟩,a5⟩,a6⟩,a7⟩,a8⟩,a9⟩,a10⟩,a11⟩,a12⟩,a13⟩,a14⟩,a15⟩,a16⟩,a17⟩,a18⟩,a19⟩,a20⟩,a21⟩,a22⟩,a23⟩,a24⟩,a25⟩,a26⟩,a27⟩,a28⟩,a29⟩,a30⟩,a31⟩
open Go.Ab Go.ChangeAt Go.ChangeShapes Go.Lib Go.RowKit Go.WideElems Go.WideShapes
theorem own:ownKnob Tryz.prog.godebug=none:=by kernel_rfl
theorem laidOut:laidOutB Tryz.prog=true:=by kernel_rfl
theorem zmv:∀ l,bVs l=(l.map bV).sum
 | []=>rfl
 | v::r=>by simp[bVs,zmv r]
theorem zmg:∀ l,bMs l=(l.map bM).sum
 | []=>rfl
 | v::r=>by simp[bMs,zmg r]
theorem zjS:∀ {l:List Val},(∀ v∈l,wfV v)→zlQ l
 | [],_=>trivial
 | v::r,h=>⟨h v (.head _),zjS fun x hx=>h x (.tail _ hx)⟩
theorem zj6:∀ {l:List Mem},(∀ v∈l,wfM v)→zfU l
 | [],_=>trivial
 | v::r,h=>⟨h v (.head _),zj6 fun x hx=>h x (.tail _ hx)⟩
theorem zlf {n:Int} (h:(Lit.int .i64 n).wf=true):inR n:=by
 simp[Lit.wf,IntKind.has,IntKind.min,IntKind.max,IntKind.signed,IntKind.bits] at h
 unfold inR
 omega
abbrev DV (m:Nat):Prop:=zH Tryz.prog m 71 5 cV wfV bV
abbrev DM (m:Nat):Prop:=zH Tryz.prog m 112 6 cM wfM bM
theorem zuM {m:Nat} (h:DV m):zH Tryz.prog (m+1) 69 1 (fun l:List Val=>[.sl .no 5 (cVs l)]) (fun l=>zlQ l) (fun l=>bVs l+1):=by
 intro H enc W cs d ps h1 h2
 obtain⟨a,h3,h4,h5,h6⟩:=zH.slice (t:=69) Tryz.underlying69 (B:=80) (sz:=5) (by kernel_rfl) (by kernel_rfl) (by decide) h enc W cs d ps h1 h2
 exact⟨a,zjS h3.2.2,by simp only[zmv];exact h4,h5,by simp only[zf6];exact h6⟩
theorem zsr {m:Nat} (h:DM m):zH Tryz.prog (m+1) 48 1 (fun l:List Mem=>[.sl .no 6 (cMs l)]) (fun l=>zfU l) (fun l=>bMs l+1):=by
 intro H enc W cs d ps h1 h2
 obtain⟨a,h3,h4,h5,h6⟩:=zH.slice (t:=48) Tryz.underlying48 (B:=96) (sz:=6) (by kernel_rfl) (by kernel_rfl) (by decide) h enc W cs d ps h1 h2
 exact⟨a,zj6 h3.2.2,by simp only[zmg];exact h4,h5,by simp only[zcu];exact h6⟩
theorem dec:∀ m,DV m∧DM m:=by
 intro m
 induction m using Nat.strongRecOn with
 | _ m ih =>
  have hs:∀ {k},k≤m→zH Tryz.prog k 69 1 (fun l:List Val=>[.sl .no 5 (cVs l)]) (fun l=>zlQ l) (fun l=>bVs l+1):=fun {k} hk=>by
   cases k with
   | zero=>exact zH.zero
   | succ k=>exact zuM (ih k (by omega)).1
  have hm:∀ {k},k≤m→zH Tryz.prog k 48 1 (fun l:List Mem=>[.sl .no 6 (cMs l)]) (fun l=>zfU l) (fun l=>bMs l+1):=fun {k} hk=>by
   cases k with
   | zero=>exact zH.zero
   | succ k=>exact zsr (ih k (by omega)).2
  refine⟨?_,?_⟩
  ·cases m with
   | zero=>exact zH.zero
   | succ k =>
    exact zH.struct (zA.cons (by kernel_rfl) (zH.int (k:=.i64) Tryz.underlying3) (zA.cons (by kernel_rfl) (zH.int (k:=.i64) Tryz.underlying2) (zA.cons (by kernel_rfl) (zH.str Tryz.underlying9) (zA.cons (by kernel_rfl) (hs (by omega)) (zA.cons (by kernel_rfl) (hm (by omega)) zA.nil)))))
     (by kernel_rfl) (by kernel_rfl) cV wfV bV (fun x=>.mk x.1 x.2.1 x.2.2.1 x.2.2.2.1 x.2.2.2.2.1) (fun a=>rfl) (fun a h=>⟨zlf h.2.1,h.2.2.2.1,h.2.2.2.2.1⟩) (fun a=>by simp only[bV];omega)
  ·cases m with
   | zero=>exact zH.zero
   | succ k =>
    exact zH.struct (zA.cons (by kernel_rfl) (zH.str Tryz.underlying9) (zA.cons (by kernel_rfl) (ih k (by omega)).1 zA.nil))
     (by kernel_rfl) (by kernel_rfl) cM wfM bM (fun x=>.mk x.1 x.2.1) (fun a=>by simp[cM]) (fun a h=>h.2.1) (fun a=>by simp only[bM];omega)
theorem zsj (m:Nat):DV m:=(dec m).1
theorem zod:∀ m,zH Tryz.prog m 48 1 (fun l:List Mem=>[.sl .no 6 (cMs l)]) (fun l=>zfU l) (fun l=>bMs l+1)
 | 0=>zH.zero
 | m+1=>zsr (dec m).2
theorem zp6 {W:World} {r:Reach} {b:Nat} {t:TypeId} {fs:Array Field} {v:Value} (ht:Tryz.prog.underlying t=some (.struct fs)) (h:Value.okWide Tryz.prog W r b t v):∃ cs,v=.agg cs:=by
 unfold Value.okWide at h
 rw[ht] at h
 obtain⟨cs,h,_⟩:=h
 exact⟨cs,h⟩
theorem znH {H:Type} {s:ChangeSpec} {ds:List (DataW H)} (h:∀ k,(Rows.OpenSpec.upto s).cond=some k→k H ds=true):Yj ds≤1048576:=by
 have h1:Rows.uptoSmall H ds=true:=h _ rfl
 have h2:=of_decide_eq_true h1
 rwa [zbe] at h2
end Go.Proofs.YtbcocdloklbkjaaGreatDoor
namespace Go.Proofs.YtbcocdloklbkjaaGreatDoor
open Go.Ab
structure DirD where
 nm:List UInt8
 args:List Mem
inductive SelD where
 | mk (k:Int) (al nm:List UInt8) (args:List Mem) (dirs:List DirD) (on:List UInt8) (sels:List SelD)
structure TyD where
 nm:List UInt8
 lists:Int
 musts:Int
structure VarD where
 nm:List UInt8
 t:TyD
 has:Bool
 d:Val
structure OpD where
 k:Int
 nm:List UInt8
 vars:List VarD
 dirs:List DirD
 sels:List SelD
structure FragD where
 nm:List UInt8
 on:List UInt8
 dirs:List DirD
 sels:List SelD
structure DocD where
 ops:List OpD
 frags:List FragD
def cD (x:DirD):List AV:=[.str x.nm,.sl .no 6 (cMs x.args)]
def cDs (l:List DirD):List (List AV):=l.map cD
mutual
def cS:SelD→List AV
 | .mk k al nm args dirs on sels=>[.int .i64 k,.str al,.str nm,.sl .no 6 (cMs args),.sl .no 2 (cDs dirs),.str on,.sl .no 7 (cSs sels)]
def cSs:List SelD→List (List AV)
 | []=>[]
 | x::r=>cS x::cSs r
end
def cTy (t:TyD):List AV:=[.str t.nm,.int .i64 t.lists,.int .i64 t.musts]
def cW (x:VarD):List AV:=cTy ⟨x.nm,0,0⟩ |>.take 1 |>.append (cTy x.t++(.bool x.has::cV x.d))
def cWs (l:List VarD):List (List AV):=l.map cW
def cO (x:OpD):List AV:=[.int .i64 x.k,.str x.nm,.sl .no 10 (cWs x.vars),.sl .no 2 (cDs x.dirs),.sl .no 7 (cSs x.sels)]
def cOs (l:List OpD):List (List AV):=l.map cO
def cF (x:FragD):List AV:=[.str x.nm,.str x.on,.sl .no 2 (cDs x.dirs),.sl .no 7 (cSs x.sels)]
def cFs (l:List FragD):List (List AV):=l.map cF
def zX (d:DocD):List AV:=[.sl .no 5 (cOs d.ops),.sl .no 4 (cFs d.frags)]
theorem zdc (nm:List UInt8) (t:TyD) (h:Bool) (d:Val):cW ⟨nm,t,h,d⟩=.str nm::.str t.nm::.int .i64 t.lists::.int .i64 t.musts::.bool h::cV d:=rfl
theorem zes:∀ l,cSs l=l.map cS
 | []=>rfl
 | v::r=>by rw[cSs,zes r];rfl
theorem YP (l:List DirD):(cDs l).length=l.length:=by simp[cDs]
theorem YS (l:List SelD):(cSs l).length=l.length:=by rw[zes];simp
theorem Zr (l:List VarD):(cWs l).length=l.length:=by simp[cWs]
theorem Z2 (l:List OpD):(cOs l).length=l.length:=by simp[cOs]
theorem Ye (l:List FragD):(cFs l).length=l.length:=by simp[cFs]
theorem zar {l a:List DirD} {x:DirD} {b:List DirD} (h:l=a++x::b):(cDs l).getD a.length []=cD x:=yQ h
theorem zao {l a:List SelD} {x:SelD} {b:List SelD} (h:l=a++x::b):(cSs l).getD a.length []=cS x:=by rw[zes,yQ h]
theorem Zm {l a:List VarD} {x:VarD} {b:List VarD} (h:l=a++x::b):(cWs l).getD a.length []=cW x:=yQ h
theorem Yc {l a:List OpD} {x:OpD} {b:List OpD} (h:l=a++x::b):(cOs l).getD a.length []=cO x:=yQ h
theorem Yt {l a:List FragD} {x:FragD} {b:List FragD} (h:l=a++x::b):(cFs l).getD a.length []=cF x:=yQ h
theorem Zb (k:Int) (al nm:List UInt8) (args:List Mem) (dirs:List DirD) (on:List UInt8) (sels:List SelD):cS (.mk k al nm args dirs on sels)=[.int .i64 k,.str al,.str nm,.sl .no 6 (cMs args),.sl .no 2 (cDs dirs),.str on,.sl .no 7 (cSs sels)]:=rfl
theorem zte (x:SelD):(cS x).length=7:=by cases x;rfl
def bD (x:DirD):Nat:=1+x.nm.length+bMs x.args
def bDs (l:List DirD):Nat:=(l.map bD).sum
mutual
def bS:SelD→Nat
 | .mk _ al nm args dirs on sels=>1+al.length+nm.length+on.length+bMs args+bDs dirs+bSs sels
def bSs:List SelD→Nat
 | []=>0
 | x::r=>bS x+bSs r
end
def bW (x:VarD):Nat:=x.nm.length+x.t.nm.length+bV x.d
def bWs (l:List VarD):Nat:=(l.map bW).sum
def bO (x:OpD):Nat:=1+x.nm.length+bWs x.vars+bDs x.dirs+bSs x.sels
def bOs (l:List OpD):Nat:=(l.map bO).sum
def bF (x:FragD):Nat:=1+x.nm.length+x.on.length+bDs x.dirs+bSs x.sels
def bFs (l:List FragD):Nat:=(l.map bF).sum
def zw (d:DocD):Nat:=bOs d.ops+bFs d.frags
theorem zap {α:Type} {f:α→Nat} (hf:∀ x,1≤f x):∀ l:List α,l.length≤(l.map f).sum
 | []=>Nat.zero_le _
 | x::r=>by have:=zap hf r;have:=hf x;simp only[List.map_cons,List.sum_cons,Al2];omega
theorem zcj {α:Type} (f:α→Nat) (a:List α) (x:α) (b:List α):((a++x::b).map f).sum=(a.map f).sum+f x+(b.map f).sum:=by simp;omega
theorem zau (l:List DirD):l.length≤bDs l:=zap (fun x=>by simp only[bD];omega) l
theorem yS (l:List VarD):l.length≤bWs l:=zap (fun x=>by have:=YZ x.d;simp only[bW];omega) l
theorem Zo (l:List OpD):l.length≤bOs l:=zap (fun x=>by simp only[bO];omega) l
theorem yM (l:List FragD):l.length≤bFs l:=zap (fun x=>by simp only[bF];omega) l
theorem zub (x:SelD):1≤bS x:=by cases x;simp only[bS];omega
theorem YT:∀ l:List SelD,l.length≤bSs l
 | []=>by simp
 | v::r=>by have:=YT r;have:=zub v;simp only[bSs,Al2];omega
theorem zcp (a:List DirD) (x:DirD) (b:List DirD):bDs (a++x::b)=bDs a+bD x+bDs b:=zcj ..
theorem zaY (a:List VarD) (x:VarD) (b:List VarD):bWs (a++x::b)=bWs a+bW x+bWs b:=zcj ..
theorem YW (a:List OpD) (x:OpD) (b:List OpD):bOs (a++x::b)=bOs a+bO x+bOs b:=zcj ..
theorem ziR (a:List FragD) (x:FragD) (b:List FragD):bFs (a++x::b)=bFs a+bF x+bFs b:=zcj ..
theorem zbn (a:List SelD) (x:SelD) (b:List SelD):bSs (a++x::b)=bSs a+bS x+bSs b:=by
 induction a with
 | nil=>simp[bSs]
 | cons y a ih=>simp only[Al6,bSs,ih];omega
mutual
theorem SelD.ind {P:SelD→Prop} (h:∀ k al nm args dirs on sels,(∀ v∈sels,P v)→P (.mk k al nm args dirs on sels)):∀ v,P v
 | .mk k al nm args dirs on sels=>h k al nm args dirs on sels (SelD.indL h sels)
theorem SelD.indL {P:SelD→Prop} (h:∀ k al nm args dirs on sels,(∀ v∈sels,P v)→P (.mk k al nm args dirs on sels)):∀ l:List SelD,∀ v∈l,P v
 | [],_,hv=>by cases hv
 | x::r,v,hv=>(List.mem_cons.1 hv).elim (fun e=>e▸SelD.ind h x) (SelD.indL h r v)
end
theorem zed {t:List UInt8} {v:Val} {m:List Mem} (h:Mem.mk t v∈m):bV v≤bMs m:=by
 obtain⟨a,b,hd⟩:=List.append_of_mem h
 have:=zat a (.mk t v) b
 rw[← hd] at this
 simp only[bM] at this
 omega
end Go.Proofs.YtbcocdloklbkjaaGreatDoor

namespace Go.Proofs.YtbcocdloklbkjaaGreatDoor
open Go.Ab
theorem zl0 {H:zc} {c b d n sz:Nat} {cs:List AV} (h:zY H (.tip b d) n sz) (hc:H c=some (.cells cs)):b≠c:=fun e=>by
 subst e
 have:H b=some (.tip (d+n) sz):=h
 rw[hc] at this;cases this
theorem znA {H H':zc} {o:Own} {n sz c:Nat} {cs:List AV} (h:zY H o n sz) (hc:H c=some (.cells cs)) (hk:Kept H o H'):H' c=some (.cells cs) :=
 hk c _ hc fun d e=>by subst e;exact zl0 h hc rfl
theorem zpB {H:zc} {o:Own} {n sz c:Nat} {cs:List AV} {x:AObj} (h:zY H o n sz) (hc:H c=some (.cells cs)):zY (H.upd c x) o n sz:=by
 cases o with
 | tip b d=>have:=zl0 h hc;show (H.upd c x) b=_;rw[upd_ne this];exact h
 | no=>exact h
 | nil=>exact h
 | full=>exact h
section
variable {bo:Nat} {H H':zc} {a:List OpD} {c:List FragD} {o1 o2 o':Own}
end
abbrev TS:=List Tok
def wK (t:Tok):Nat:=t.s.length+4
def wT (l:TS):Nat:=(l.map wK).sum
theorem zf9 (x:Tok) (l:TS):wT (x::l)=wK x+wT l:=by simp[wT]
def b0 {α:Type} (_:α):Nat:=0
def sm {α:Type} (b:α→Nat) (l:List α):Nat:=(l.map b).sum+l.length
def wfD (x:DirD):Prop:=zfU x.args
def zlt (l:List DirD):Prop:=∀ x∈l,wfD x
mutual
def wfS:SelD→Prop
 | .mk _ _ _ args dirs _ sels=>zfU args∧zlt dirs∧zgv sels
def zgv:List SelD→Prop
 | []=>True
 | x::r=>wfS x∧zgv r
end
theorem zjZ:∀ {l:List SelD},(∀ v∈l,wfS v)→zgv l
 | [],_=>trivial
 | v::r,h=>⟨h v (.head _),zjZ fun x hx=>h x (.tail _ hx)⟩
def wfW (x:VarD):Prop:=inR x.t.lists∧inR x.t.musts∧wfV x.d
def wfO (x:OpD):Prop:=(∀ y∈x.vars,wfW y)∧zlt x.dirs∧zgv x.sels
def wfF (x:FragD):Prop:=zlt x.dirs∧zgv x.sels
def zcK (d:DocD):Prop:=(∀ x∈d.ops,wfO x)∧∀ x∈d.frags,wfF x
def pk (s:List UInt8):Tok:=⟨1,s⟩
def wk (s:List UInt8):Tok:=⟨2,s⟩
def z6 (dp:Int) (fixed:Bool) (v:Val):Bool:=zaL v&&(decide (dp+Zx v≤16)&&(!fixed||decide ((Zp v []).length=0)))
def zi6 (dp:Int) (fixed:Bool):Mem→Bool
 | .mk s v=>zP s&&z6 dp fixed v
def Y3 (dp:Int) (fixed:Bool) (l:List Mem):Bool:=l.all (zi6 dp fixed)
def zf4 (dp:Int) (fixed:Bool) (d:DirD):Bool:=zP d.nm&&Y3 dp fixed d.args
def Zf (dp:Int) (fixed:Bool) (l:List DirD):Bool:=l.all (zf4 dp fixed)
mutual
def yv (dp : Int) : SelD → Bool
  | .mk k al nm args dirs on sels => Zf dp false dirs &&
    (if k = 0 then zP nm && ((decide (al = []) || zP al) && (decide (on = []) && (Y3 dp false args && (decide (sels.length = 0) || (decide (dp + 1 ≤ 16) && Zl (dp + 1) sels)))))
     else if k = 1 then zP nm && (decide (nm ≠ [111, 110]) && (decide (al = []) && (decide (on = []) && (decide (args.length = 0) && decide (sels.length = 0)))))
     else if k = 2 then decide (nm = []) && (decide (al = []) && (decide (args.length = 0) && ((decide (on = []) || zP on) && (decide (sels.length ≠ 0) && (decide (dp + 1 ≤ 16) && Zl (dp + 1) sels)))))
     else false)
def Zl (dp:Int):List SelD→Bool
 | []=>true
 | x::r=>yv dp x&&Zl dp r
end
def yp (dp:Int) (l:List SelD):Bool:=decide (l.length≠0)&&(decide (dp≤16)&&Zl dp l)
def zG (t:TyD):Bool:=zP t.nm&&(decide (0≤t.lists)&&(decide (t.lists≤4)&&(decide (0≤t.musts)&&decide (t.musts<2 ^ (t.lists.toNat+1)))))
noncomputable def zqm (has:Bool) (v:Val):Bool:=if has then z6 0 true v else eqd v zV
noncomputable def zeX (x:VarD):Bool:=zP x.nm&&(zG x.t&&zqm x.has x.d)
noncomputable def zgA (o:OpD):Bool:=(decide (o.k=0)||decide (o.k=1))&&((decide (o.nm=[])||zP o.nm)&&(o.vars.all zeX&&(Zf 0 true o.dirs&&yp 1 o.sels)))
def zjb (f:FragD):Bool:=decide (f.nm≠[111,110])&&(zP f.nm&&(zP f.on&&(Zf 0 true f.dirs&&yp 1 f.sels)))
noncomputable def Z6 (d:DocD):Bool:=decide (0<d.ops.length+d.frags.length)&&(d.ops.all zgA&&d.frags.all zjb)
def zgD (l:List Mem):List Tok:=if l.length=0 then [] else pk [40]::(Yf l++[pk [41]])
def tD (d:DirD):List Tok:=pk [64]::wk d.nm::zgD d.args
def tDs (l:List DirD):List Tok:=l.flatMap tD
mutual
def tS:SelD→List Tok
 | .mk k al nm args dirs on sels=>(if k=0 then (if al=[] then [] else [wk al,pk [58]])++(wk nm::zgD args) else if k=1 then [pk [46,46,46],wk nm] else pk [46,46,46]::(if on=[] then [] else [wk [111,110],wk on])) ++
  (tDs dirs++(if sels.length=0 then [] else pk [123]::(tSl sels++[pk [125]])))
def tSl:List SelD→List Tok
 | []=>[]
 | x::r=>tS x++tSl r
end
def tBl (l:List SelD):List Tok:=pk [123]::(tSl l++[pk [125]])
def zcP (m:Int) (i:Nat):Bool:=decide (m / 2 ^ i % 2=1)
def zoP (n:Nat) (m:Int) (i:Nat):List Tok:=(if i<n then [pk [93]] else [])++(if zcP m i then [pk [33]] else [])
def zpm (n:Nat) (m:Int):Nat→List Tok
 | 0=>zoP n m 0
 | i+1=>zoP n m (i+1)++zpm n m i
def tTy (t:TyD):List Tok:=List.replicate t.lists.toNat (pk [91])++(wk t.nm::zpm t.lists.toNat t.musts t.lists.toNat)
def tDf (has:Bool) (v:Val):List Tok:=if has then pk [61]::Yn v else []
def tW (x:VarD):List Tok:=pk [36]::wk x.nm::pk [58]::(tTy x.t++tDf x.has x.d)
def tWs (l:List VarD):List Tok:=if l.length=0 then [] else pk [40]::(l.flatMap tW++[pk [41]])
def tO (o:OpD):List Tok:=wk (if o.k=0 then [113,117,101,114,121] else [109,117,116,97,116,105,111,110])::((if o.nm=[] then [] else [wk o.nm])++(tWs o.vars++(tDs o.dirs++tBl o.sels)))
def tF (f:FragD):List Tok:=wk [102,114,97,103,109,101,110,116]::wk f.nm::wk [111,110]::wk f.on::(tDs f.dirs++tBl f.sels)
def zvb (d:DocD):List Tok:=d.ops.flatMap tO++d.frags.flatMap tF
theorem zmf:∀ a b,tSl (a++b)=tSl a++tSl b
 | [],b=>rfl
 | x::a,b=>by simp[tSl,zmf a b]
theorem zcI (dp:Int):∀ a b,Zl dp (a++b)=(Zl dp a&&Zl dp b)
 | [],b=>by simp[Zl]
 | x::a,b=>by simp[Zl,zcI dp a b,yg]
theorem zfp:∀ a b,Yf (a++b)=Yf a++Yf b
 | [],b=>rfl
 | x::a,b=>by simp[Yf,zfp a b]
end Go.Proofs.YtbcocdloklbkjaaGreatDoor
namespace Go.Proofs.YtbcocdloklbkjaaGreatDoor
open Go.Lib
end Go.Proofs.YtbcocdloklbkjaaGreatDoor
namespace Go.Proofs.YtbcocdloklbkjaaGreatDoor
open Go.Ab
abbrev pl (v:Val):Prop:=zdC zP v=true
inductive Shape:Val→Prop
 | null:Shape (.mk 0 0 [] [] [])
 | bool (n:Int) (h:n=0∨n=1):Shape (.mk 1 n [] [] [])
 | int (n:Int):Shape (.mk 2 n [] [] [])
 | num (s:List UInt8) (h:zm9 s=true):Shape (.mk 3 0 s [] [])
 | text (s:List UInt8):Shape (.mk 4 0 s [] [])
 | word (s:List UInt8) (h:znu s=false):Shape (.mk 5 0 s [] [])
 | var (s:List UInt8):Shape (.mk 8 0 s [] [])
 | list (l:List Val) (h:zgC zP l=true):Shape (.mk 6 0 [] l [])
 | obj (m:List Mem) (h:zgx zP m=true):Shape (.mk 7 0 [] [] m)
theorem zeU {n:Int} {s:List UInt8} {l:List Val} {m:List Mem}:zdh n s l m=true↔n=0∧s=[]∧l=[]∧m=[]:=by
 simp[zdh]
theorem shape:∀ v,pl v→Shape v
 | .mk k n s l m,h=>by
  simp only[pl,zdC] at h
  split at h
  ·rename_i k6
   subst k6
   simp only[Al0,zeU] at h
   obtain⟨h1,rfl,rfl,_,rfl⟩:=h
   exact .list l h1
  ·split at h
   ·rename_i k7
    subst k7
    simp only[Al0,zeU] at h
    obtain⟨h1,rfl,rfl,rfl,_⟩:=h
    exact .obj m h1
   ·simp only[Zg,Al0,zeU] at h
    obtain⟨⟨_,_,rfl,rfl⟩,h⟩:=h
    split at h
    ·rename_i k0
     subst k0
     simp only[Al0,yX] at h
     obtain⟨rfl,rfl⟩:=h
     exact .null
    split at h
    ·rename_i k0
     subst k0
     simp only[Al0,zhn,yX] at h
     obtain⟨h,rfl⟩:=h
     exact .bool n h
    split at h
    ·rename_i k0
     subst k0
     simp only[yX] at h
     subst h
     exact .int n
    split at h
    ·rename_i k0
     subst k0
     simp only[Al0,yX] at h
     obtain⟨rfl,h⟩:=h
     exact .num s h
    split at h
    ·rename_i k0
     subst k0
     simp only[Al0,yX] at h
     obtain⟨rfl,h⟩:=h
     exact .text s
    split at h
    ·rename_i k0
     subst k0
     simp only[Al0,yX,Bool.not_eq_true'] at h
     obtain⟨rfl,_,h⟩:=h
     exact .word s h
    split at h
    ·rename_i k0
     subst k0
     simp only[Al0,yX] at h
     obtain⟨rfl,_⟩:=h
     exact .var s
    ·cases h
open Go.Lib
end Go.Proofs.YtbcocdloklbkjaaGreatDoor
namespace Go.Proofs.YtbcocdloklbkjaaGreatDoor
open Go.Ab
open Go.Lib
end Go.Proofs.YtbcocdloklbkjaaGreatDoor
namespace Go.Proofs.YtbcocdloklbkjaaGreatDoor
open Go.Ab
theorem zkD:∀ {l:List SelD},zgv l→∀ v∈l,wfS v
 | _::_,h,v,hv=>(List.mem_cons.1 hv).elim (fun e=>e▸h.1) (zkD h.2 v)
structure FldD where
 nm:List UInt8
 ps:List VarD
 t:TyD
 dirs:List DirD
structure DefD where
 k:Int
 nm:List UInt8
 faces:List (List UInt8)
 flds:List FldD
 parts:List (List UInt8)
 ps:List VarD
structure SchD where
 defs:List DefD
 q:List UInt8
 m:List UInt8
def cL (x:FldD):List AV:=[.str x.nm,.sl .no 10 (cWs x.ps),.str x.t.nm,.int .i64 x.t.lists,.int .i64 x.t.musts,.sl .no 2 (cDs x.dirs)]
def cLs (l:List FldD):List (List AV):=l.map cL
def cE (x:DefD):List AV:=[.int .i64 x.k,.str x.nm,.sl .no 1 (cT x.faces),.sl .no 6 (cLs x.flds),.sl .no 1 (cT x.parts),.sl .no 10 (cWs x.ps)]
def cEs (l:List DefD):List (List AV):=l.map cE
def zq (s:SchD):List AV:=[.sl .no 6 (cEs s.defs),.str s.q,.str s.m]
theorem zaX (l:List FldD):(cLs l).length=l.length:=by simp[cLs]
theorem zex (l:List DefD):(cEs l).length=l.length:=by simp[cEs]
theorem zdt {l a:List FldD} {x:FldD} {b:List FldD} (h:l=a++x::b):(cLs l).getD a.length []=cL x:=yQ h
theorem zdw {l a:List DefD} {x:DefD} {b:List DefD} (h:l=a++x::b):(cEs l).getD a.length []=cE x:=yQ h
theorem zaB (nm:List UInt8) (ps:List VarD) (tn:List UInt8) (tl tm:Int) (dirs:List DirD):cL ⟨nm,ps,⟨tn,tl,tm⟩,dirs⟩=[.str nm,.sl .no 10 (cWs ps),.str tn,.int .i64 tl,.int .i64 tm,.sl .no 2 (cDs dirs)]:=rfl
theorem ye (k:Int) (nm:List UInt8) (faces:List (List UInt8)) (flds:List FldD) (parts:List (List UInt8)) (ps:List VarD):cE ⟨k,nm,faces,flds,parts,ps⟩=[.int .i64 k,.str nm,.sl .no 1 (cT faces),.sl .no 6 (cLs flds),.sl .no 1 (cT parts),.sl .no 10 (cWs ps)]:=rfl
def bT (l:List (List UInt8)):Nat:=(l.map fun s=>1+s.length).sum
def bL (x:FldD):Nat:=1+x.nm.length+bWs x.ps+x.t.nm.length+bDs x.dirs
def bLs (l:List FldD):Nat:=(l.map bL).sum
def bE (x:DefD):Nat:=1+x.nm.length+bT x.faces+bLs x.flds+bT x.parts+bWs x.ps
def bEs (l:List DefD):Nat:=(l.map bE).sum
def zJ (s:SchD):Nat:=bEs s.defs+s.q.length+s.m.length
theorem ZN (l:List (List UInt8)):l.length≤bT l:=zap (fun x=>by omega) l
theorem YV (l:List FldD):l.length≤bLs l:=zap (fun x=>by simp only[bL];omega) l
theorem zeg (l:List DefD):l.length≤bEs l:=zap (fun x=>by simp only[bE];omega) l
theorem zgZ (a:List (List UInt8)) (x:List UInt8) (b:List (List UInt8)):bT (a++x::b)=bT a+(1+x.length)+bT b:=zcj ..
theorem zmD (a:List FldD) (x:FldD) (b:List FldD):bLs (a++x::b)=bLs a+bL x+bLs b:=zcj ..
theorem ziC (a:List DefD) (x:DefD) (b:List DefD):bEs (a++x::b)=bEs a+bE x+bEs b:=zcj ..
def wfL (x:FldD):Prop:=(∀ y∈x.ps,wfW y)∧inR x.t.lists∧inR x.t.musts∧zlt x.dirs
def wfE (x:DefD):Prop:=(∀ y∈x.flds,wfL y)∧∀ y∈x.ps,wfW y
def zbV (s:SchD):Prop:=∀ x∈s.defs,wfE x
def tPa (x:VarD):List Tok:=wk x.nm::pk [58]::(tTy x.t++tDf x.has x.d)
def tPb (l:List VarD):List Tok:=if l.length=0 then [] else pk [40]::(l.flatMap tPa++[pk [41]])
def tL (x:FldD):List Tok:=wk x.nm::(tPb x.ps++pk [58]::(tTy x.t++tDs x.dirs))
def tNs (m:List UInt8):List (List UInt8)→List Tok
 | []=>[]
 | s::r=>wk s::r.flatMap fun s=>[pk m,wk s]
def tE (x:DefD):List Tok :=
 if x.k=1∨x.k=2 then wk (if x.k=1 then [116,121,112,101] else [105,110,116,101,114,102,97,99,101])::wk x.nm::((if x.faces.length=0 then [] else wk [105,109,112,108,101,109,101,110,116,115]::tNs [38] x.faces)++(pk [123]::(x.flds.flatMap tL++[pk [125]])))
 else if x.k=3 then wk [117,110,105,111,110]::wk x.nm::pk [61]::tNs [124] x.parts
 else if x.k=4 then wk [101,110,117,109]::wk x.nm::pk [123]::(x.parts.map wk++[pk [125]])
 else wk [105,110,112,117,116]::wk x.nm::pk [123]::(x.ps.flatMap tPa++[pk [125]])
def tRt (q m:List UInt8):List Tok:=wk [115,99,104,101,109,97]::pk [123]::wk [113,117,101,114,121]::pk [58]::wk q::((if m=[] then [] else [wk [109,117,116,97,116,105,111,110],pk [58],wk m])++[pk [125]])
def zvi (s:SchD):List Tok:=tRt s.q s.m++s.defs.flatMap tE
noncomputable def zfk (x:FldD):Bool:=zP x.nm&&(x.ps.all zeX&&(zG x.t&&Zf 0 true x.dirs))
def Yx (s:List UInt8):Bool:=decide (s≠[116,114,117,101])&&(decide (s≠[102,97,108,115,101])&&decide (s≠[110,117,108,108]))
noncomputable def Yv (x:DefD):Bool :=
 zP x.nm&&(if x.k=1∨x.k=2 then x.faces.all zP&&(x.flds.all zfk&&(decide (x.flds.length≠0)&&(decide (x.parts.length=0)&&decide (x.ps.length=0))))
 else if x.k=3 then x.parts.all zP&&(decide (x.parts.length≠0)&&(decide (x.faces.length=0)&&(decide (x.flds.length=0)&&decide (x.ps.length=0))))
 else if x.k=4 then (x.parts.all zP&&x.parts.all Yx)&&(decide (x.parts.length≠0)&&(decide (x.faces.length=0)&&(decide (x.flds.length=0)&&decide (x.ps.length=0))))
 else if x.k=5 then x.ps.all zeX&&(decide (x.ps.length≠0)&&(decide (x.faces.length=0)&&(decide (x.flds.length=0)&&decide (x.parts.length=0))))
 else false)
noncomputable def zba (s:SchD):Bool:=s.defs.all Yv&&(zP s.q&&(decide (s.m=[])||zP s.m))
def zbl {α:Type} (p:α→Bool):List α→Int→Int
 | [],_=>-1
 | x::r,i=>if p x=true then i else zbl p r (i+1)
abbrev At (r:AV) (H:zc):AEnd→zc→Prop:=fun e H'=>∃ v,e=.ret v∧v=r∧H'=H
theorem zjy {α:Type} (p:α→Bool):∀(l:List α) (i:Int),0≤i→decide (0≤zbl p l i)=l.any p
 | [],i,_=>by simp[zbl]
 | x::r,i,hi=>by
  by_cases h:p x=true
  ·simp[zbl,h];omega
  ·simp only[zbl,h,if_false,List.any_cons,Bool.false_or];exact zjy p r (i+1) (by omega)
theorem zal {α:Type} (p:α→Bool):∀(l:List α) (i:Int),(∃ a x r,l=a++x::r∧p x=true∧l.find? p=some x∧zbl p l i=i+a.length)∨(l.find? p=none∧zbl p l i=-1)
 | [],i=>.inr ⟨rfl,rfl⟩
 | x::l,i=>by
  by_cases h:p x=true
  ·exact .inl ⟨[],x,l,rfl,h,by simp[h],by simp[zbl,h]⟩
  ·rcases zal p l (i+1) with ⟨a,y,r,h1,h2,h3,h4⟩|⟨h1,h2⟩
   ·exact .inl ⟨x::a,y,r,by simp[h1],h2,by simp[h,h3],by simp[zbl,h,h4];omega⟩
   ·exact .inr ⟨by simp[h,h1],by simp[zbl,h,h2]⟩
def ixF (sz : Nat) (ag : Bool) : AFn := ⟨19, 2, [.t 4], .seq (.reg [] [⟨some 4, none, .mv (.k (.int .i64 0)), []⟩])
  (.seq (.seq (.reg [] [⟨some 6, none, .mv (.t 0), []⟩, ⟨some 7, none, .len (.t 6), []⟩, ⟨some 8, none, .mv (.k (.int .i64 0)), []⟩])
  (.block 0 (.loop [0, 1, 7, 8] (.seq (.reg [] [⟨some 9, none, .bi .lss .i64 (.t 8) (.t 7), []⟩])
    (.seq (.cond (.t 9) (.skip) (.exit 0))
    (.seq (.block 1 (.seq (.reg [] [⟨some 10, none, .mv (.t 8), []⟩, ⟨some 5, none, .mv (.t 10), []⟩])
     (.seq (.reg [] [⟨some 11, none, .mv (.t 1), []⟩, ⟨some 12, none, .mv (.t 0), []⟩, ⟨some 13, none, .mv (.t 5), []⟩, ⟨some 14, none, .ia sz (.t 12) (.t 13), []⟩, ⟨some 15, none, .ld sz ag (.t 14), []⟩, ⟨some 16, none, .callv (.t 11) [(.t 15)], []⟩])
     (.cond (.t 16) (.seq (.reg [] [⟨some 17, none, .mv (.t 5), []⟩, ⟨some 4, none, .mv (.t 17), []⟩])
      (.ret)) (.skip)))))
    (.reg [] [⟨some 18, none, .bi .add .i64 (.t 8) (.k (.int .i64 1)), []⟩, ⟨some 8, none, .mv (.t 18), []⟩])))))))
  (.seq (.reg [] [⟨some 4, none, .mv (.k (.int .i64 (-1))), []⟩])
  (.ret)))⟩
def ctF (g:FuncId):AFn:=⟨9,2,[.t 4],.seq (.reg [] [⟨some 4,none,.mv (.k (.bool false)),[]⟩])
 (.seq (.reg [] [⟨some 5,none,.mv (.t 0),[]⟩,⟨some 6,none,.mv (.t 1),[]⟩,⟨some 7,none,.call g [(.t 5),(.t 6)],[]⟩,⟨some 8,none,.bi .geq .i64 (.t 7) (.k (.int .i64 0)),[]⟩,⟨some 4,none,.mv (.t 8),[]⟩])
 (.ret))⟩
theorem YX {P:Program} {f:FuncId} {args:List AV} {r:AV} (h:zj P f args zc.emp (At r zc.emp)):zg P f args r:=h.mono fun e H' ⟨v,e1,e2,e3⟩=>by subst e2;exact⟨e1,e3⟩
theorem Z4 {P:Program} {f:FuncId} {args:List AV} {r:AV} (h:zg P f args r) (H:zc):zj P f args H (At r H) :=
 (h.use (K:=fun v H'=>v=r∧H'=H) (KP:=fun _ _=>False) ⟨rfl,rfl⟩).mono fun e H' he=>by
  cases e with
  | ret v=>exact⟨v,rfl,he.1,he.2⟩
  | pan v=>exact he.elim
abbrev ByH {α:Type} (l:List α) (v:α→AV) (f:FuncId) (caps:List AV) (p:α→Bool) (H:zc):Prop:=∀ x∈l,zj Tryz.prog f (v x::caps) H (At (.bool (p x)) H)
abbrev ByP {α:Type} (l:List α) (v:α→AV) (f:FuncId) (caps:List AV) (p:α→Bool):Prop:=∀ x∈l,zg Tryz.prog f (v x::caps) (.bool (p x))
theorem Yz {α:Type} {sz:Nat} {ag:Bool} {g:FuncId} (hck:zk Tryz.prog g (ixF sz ag)=true) (c:α→List AV) (v:α→AV) (hz:∀ x,(c x).length=sz) (hv:∀ x,mk ag (c x)=v x) (l:List α) (f:FuncId) (caps:List AV) (p:α→Bool) (H:zc) (hl:l.length≤Lim) (hf:Program.callable Tryz.prog f=true) (hc:ByH l v f caps p H) :
  zj Tryz.prog g [.sl .no sz (l.map c),.clo f [] caps] H (At (.int .i64 (zbl p l 0)) H):=by
 refine zj.go (ixF sz ag) hck (Al4 _) fun KP Q hQ=>?_
 have h1:(l.map c).length=l.length:=List.length_map ..
 simp only[Lim] at hl
 simp(disch:=omega) only[ixF,h1,go_sem]
 refine zf l 8 (fun _:Unit=>[]) (fun done rest n H1=>zbl p rest done.length=zbl p l 0∧H1=H) () (by simp(disch:=omega) only[go_sem]) ⟨by simp,rfl⟩ ?_ ?_
 ·rintro n _ J ⟨hp,rfl⟩ hlt
  simp only[zbl] at hp
  simp(disch:=omega) only[h1,hlt,go_sem]
  exact hQ _ _ _ _ _ nofun rfl (Low.refl _) ⟨by simp[zd,ze,AV.strip,AV.strip1,← hp],rfl⟩
 ·rintro done x rest n _ J hd hlt _ ⟨hp,rfl⟩ hJ
  have hg:(l.map c).getD done.length []=c x:=yQ hd
  have ht:List.take sz (c x)=c x:=List.take_of_length_le (by rw[hz x];exact Al4 _)
  have hvx:=hv x
  simp(disch:=omega) only[h1,hlt,hg,hz x,ht,Al4,hvx,zv,steps,st2,pev,rev,oev,yj,yt,yB,yC,bound,zM,mm2,zv,AV.cells,AV.boxable,AV.one,AV.strip1,AV.strip2,zL,zI,Nat.reduceEqDiff,reduceCtorEq,↓reduceIte,Nat.reduceAdd,Int.reduceNeg,Nat.reduceLeDiff,Int.reduceToNat,Int.reduceEq,Int.reduceLT,Int.reduceLE,Int.reduceAdd]
  refine⟨hf,z7 (hc x (by rw[hd];simp)) ?_⟩
  rintro _ _ ⟨_,rfl,rfl,rfl⟩
  by_cases h:p x=true
  ·simp(disch:=omega) only[ZP,h,go_sem]
   rw[zbl,if_pos h] at hp
   exact hQ _ _ _ _ _ nofun rfl (Low.refl _) ⟨by simp[zd,ze,AV.strip,AV.strip1,← hp],rfl⟩
  ·rw[zbl,if_neg h] at hp
   have h':p x=false:=by simpa using h
   simp(disch:=omega) only[ZP,h',go_sem]
   exact goJ (hJ () _ ⟨by rw[← hp];simp,rfl⟩) (by simp(disch:=omega) only[wrap64,go_sem])
theorem za9 {α:Type} {g g2:FuncId} (hck:zk Tryz.prog g2 (ctF g)=true) {xs v:AV} {l:List α} {p:α→Bool} {H:zc} (hi:zj Tryz.prog g [xs,v] H (At (.int .i64 (zbl p l 0)) H)):zj Tryz.prog g2 [xs,v] H (At (.bool (l.any p)) H):=by
 refine zj.go (ctF g) hck (Al4 _) fun KP Q hQ=>?_
 simp(disch:=omega) only[ctF,go_sem]
 refine z7 hi ?_
 rintro _ _ ⟨_,rfl,rfl,rfl⟩
 simp(disch:=omega) only[ZP,go_sem]
 have:=zjy p l 0 (by omega)
 exact hQ _ _ _ _ _ nofun rfl (Low.refl _) ⟨by simp[zd,ze,AV.strip,AV.strip1,this],rfl⟩
theorem zqQ {α:Type} (c:α→List AV) (hz:∀ x,(c x).length=6) (l:List α) (f:FuncId) (caps:List AV) (p:α→Bool) (H:zc) (hl:l.length≤Lim) (hf:Program.callable Tryz.prog f=true) (hc:ByH l (fun x=>.agg (c x)) f caps p H):zj Tryz.prog 213 [.sl .no 6 (l.map c),.clo f [] caps] H (At (.bool (l.any p)) H):=za9 ck213 (Yz ck238 c (fun x=>.agg (c x)) hz (fun _=>rfl) l f caps p H hl hf hc)
theorem zqZ {α:Type} (c:α→List AV) (hz:∀ x,(c x).length=6) (l:List α) (f:FuncId) (caps:List AV) (p:α→Bool) (H:zc) (hl:l.length≤Lim) (hf:Program.callable Tryz.prog f=true) (hc:ByH l (fun x=>.agg (c x)) f caps p H):zj Tryz.prog 138 [.sl .no 6 (l.map c),.clo f [] caps] H (At (.int .i64 (zbl p l 0)) H):=Yz ck138 c (fun x=>.agg (c x)) hz (fun _=>rfl) l f caps p H hl hf hc
theorem zis {α:Type} (c:α→List AV) (hz:∀ x,(c x).length=6) (l:List α) (f:FuncId) (caps:List AV) (p:α→Bool) (H:zc) (hl:l.length≤Lim) (hf:Program.callable Tryz.prog f=true) (hc:ByH l (fun x=>.agg (c x)) f caps p H):zj Tryz.prog 169 [.sl .no 6 (l.map c),.clo f [] caps] H (At (.bool (l.any p)) H):=za9 ck169 (Yz ck138 c (fun x=>.agg (c x)) hz (fun _=>rfl) l f caps p H hl hf hc)
theorem zsR {α:Type} (c:α→List AV) (hz:∀ x,(c x).length=6) (l:List α) (f:FuncId) (caps:List AV) (p:α→Bool) (hl:l.length≤Lim) (hf:Program.callable Tryz.prog f=true) (hc:ByP l (fun x=>.agg (c x)) f caps p):zg Tryz.prog 138 [.sl .no 6 (l.map c),.clo f [] caps] (.int .i64 (zbl p l 0)):=YX (Yz ck138 c (fun x=>.agg (c x)) hz (fun _=>rfl) l f caps p _ hl hf fun x hx=>Z4 (hc x hx) _)
theorem anyOp {α:Type} (c:α→List AV) (hz:∀ x,(c x).length=5) (l:List α) (f:FuncId) (caps:List AV) (p:α→Bool) (hl:l.length≤Lim) (hf:Program.callable Tryz.prog f=true) (hc:ByP l (fun x=>.agg (c x)) f caps p):zg Tryz.prog 40 [.sl .no 5 (l.map c),.clo f [] caps] (.bool (l.any p)):=YX (za9 ck40 (Yz ck74 c (fun x=>.agg (c x)) hz (fun _=>rfl) l f caps p _ hl hf fun x hx=>Z4 (hc x hx) _))
theorem zp4 {α:Type} (c:α→List AV) (hz:∀ x,(c x).length=4) (l:List α) (f:FuncId) (caps:List AV) (p:α→Bool) (H:zc) (hl:l.length≤Lim) (hf:Program.callable Tryz.prog f=true) (hc:ByH l (fun x=>.agg (c x)) f caps p H):zj Tryz.prog 75 [.sl .no 4 (l.map c),.clo f [] caps] H (At (.bool (l.any p)) H):=za9 ck75 (Yz ck130 c (fun x=>.agg (c x)) hz (fun _=>rfl) l f caps p H hl hf hc)
theorem zra {α:Type} (c:α→List AV) (hz:∀ x,(c x).length=4) (l:List α) (f:FuncId) (caps:List AV) (p:α→Bool) (hl:l.length≤Lim) (hf:Program.callable Tryz.prog f=true) (hc:ByP l (fun x=>.agg (c x)) f caps p):zg Tryz.prog 130 [.sl .no 4 (l.map c),.clo f [] caps] (.int .i64 (zbl p l 0)):=YX (Yz ck130 c (fun x=>.agg (c x)) hz (fun _=>rfl) l f caps p _ hl hf fun x hx=>Z4 (hc x hx) _)
theorem zmX {α:Type} (c:α→List AV) (hz:∀ x,(c x).length=4) (l:List α) (f:FuncId) (caps:List AV) (p:α→Bool) (hl:l.length≤Lim) (hf:Program.callable Tryz.prog f=true) (hc:ByP l (fun x=>.agg (c x)) f caps p):zg Tryz.prog 75 [.sl .no 4 (l.map c),.clo f [] caps] (.bool (l.any p)):=YX (za9 ck75 (Yz ck130 c (fun x=>.agg (c x)) hz (fun _=>rfl) l f caps p _ hl hf fun x hx=>Z4 (hc x hx) _))
theorem zrk {α:Type} (c:α→List AV) (hz:∀ x,(c x).length=10) (l:List α) (f:FuncId) (caps:List AV) (p:α→Bool) (H:zc) (hl:l.length≤Lim) (hf:Program.callable Tryz.prog f=true) (hc:ByH l (fun x=>.agg (c x)) f caps p H):zj Tryz.prog 186 [.sl .no 10 (l.map c),.clo f [] caps] H (At (.bool (l.any p)) H):=za9 ck186 (Yz ck141 c (fun x=>.agg (c x)) hz (fun _=>rfl) l f caps p H hl hf hc)
theorem ztn {α:Type} (c:α→List AV) (hz:∀ x,(c x).length=10) (l:List α) (f:FuncId) (caps:List AV) (p:α→Bool) (hl:l.length≤Lim) (hf:Program.callable Tryz.prog f=true) (hc:ByP l (fun x=>.agg (c x)) f caps p):zg Tryz.prog 141 [.sl .no 10 (l.map c),.clo f [] caps] (.int .i64 (zbl p l 0)):=YX (Yz ck141 c (fun x=>.agg (c x)) hz (fun _=>rfl) l f caps p _ hl hf fun x hx=>Z4 (hc x hx) _)
theorem zoF {α:Type} (c:α→List AV) (hz:∀ x,(c x).length=10) (l:List α) (f:FuncId) (caps:List AV) (p:α→Bool) (hl:l.length≤Lim) (hf:Program.callable Tryz.prog f=true) (hc:ByP l (fun x=>.agg (c x)) f caps p):zg Tryz.prog 186 [.sl .no 10 (l.map c),.clo f [] caps] (.bool (l.any p)):=YX (za9 ck186 (Yz ck141 c (fun x=>.agg (c x)) hz (fun _=>rfl) l f caps p _ hl hf fun x hx=>Z4 (hc x hx) _))
theorem zg9 {α:Type} (c:α→List AV) (hz:∀ x,(c x).length=10) (l:List α) (f:FuncId) (caps:List AV) (p:α→Bool) (H:zc) (hl:l.length≤Lim) (hf:Program.callable Tryz.prog f=true) (hc:ByH l (fun x=>.agg (c x)) f caps p H):zj Tryz.prog 102 [.sl .no 10 (l.map c),.clo f [] caps] H (At (.bool (l.any p)) H):=za9 ck102 (Yz ck145 c (fun x=>.agg (c x)) hz (fun _=>rfl) l f caps p H hl hf hc)
theorem znG {α:Type} (c:α→List AV) (hz:∀ x,(c x).length=10) (l:List α) (f:FuncId) (caps:List AV) (p:α→Bool) (hl:l.length≤Lim) (hf:Program.callable Tryz.prog f=true) (hc:ByP l (fun x=>.agg (c x)) f caps p):zg Tryz.prog 145 [.sl .no 10 (l.map c),.clo f [] caps] (.int .i64 (zbl p l 0)):=YX (Yz ck145 c (fun x=>.agg (c x)) hz (fun _=>rfl) l f caps p _ hl hf fun x hx=>Z4 (hc x hx) _)
theorem znL {α:Type} (c:α→List AV) (hz:∀ x,(c x).length=10) (l:List α) (f:FuncId) (caps:List AV) (p:α→Bool) (hl:l.length≤Lim) (hf:Program.callable Tryz.prog f=true) (hc:ByP l (fun x=>.agg (c x)) f caps p):zg Tryz.prog 102 [.sl .no 10 (l.map c),.clo f [] caps] (.bool (l.any p)):=YX (za9 ck102 (Yz ck145 c (fun x=>.agg (c x)) hz (fun _=>rfl) l f caps p _ hl hf fun x hx=>Z4 (hc x hx) _))
theorem zs1 {α:Type} (c:α→List AV) (hz:∀ x,(c x).length=7) (l:List α) (f:FuncId) (caps:List AV) (p:α→Bool) (hl:l.length≤Lim) (hf:Program.callable Tryz.prog f=true) (hc:ByP l (fun x=>.agg (c x)) f caps p):zg Tryz.prog 134 [.sl .no 7 (l.map c),.clo f [] caps] (.bool (l.any p)):=YX (za9 ck134 (Yz ck196 c (fun x=>.agg (c x)) hz (fun _=>rfl) l f caps p _ hl hf fun x hx=>Z4 (hc x hx) _))
theorem zrC {α:Type} (c:α→List AV) (hz:∀ x,(c x).length=6) (l:List α) (f:FuncId) (caps:List AV) (p:α→Bool) (H:zc) (hl:l.length≤Lim) (hf:Program.callable Tryz.prog f=true) (hc:ByH l (fun x=>.agg (c x)) f caps p H):zj Tryz.prog 250 [.sl .no 6 (l.map c),.clo f [] caps] H (At (.bool (l.any p)) H):=za9 ck250 (Yz ck261 c (fun x=>.agg (c x)) hz (fun _=>rfl) l f caps p H hl hf hc)
theorem zeP {α:Type} (c:α→AV) (l:List α) (f:FuncId) (caps:List AV) (p:α→Bool) (H:zc) (hl:l.length≤Lim) (hf:Program.callable Tryz.prog f=true) (hc:ByH l c f caps p H):zj Tryz.prog 83 [.sl .no 1 (l.map (fun x=>[c x])),.clo f [] caps] H (At (.bool (l.any p)) H):=za9 ck83 (Yz ck136 (fun x=>[c x]) c (fun _=>rfl) (fun _=>rfl) l f caps p H hl hf hc)
theorem zly {α:Type} (c:α→AV) (l:List α) (f:FuncId) (caps:List AV) (p:α→Bool) (hl:l.length≤Lim) (hf:Program.callable Tryz.prog f=true) (hc:ByP l c f caps p):zg Tryz.prog 83 [.sl .no 1 (l.map (fun x=>[c x])),.clo f [] caps] (.bool (l.any p)):=YX (za9 ck83 (Yz ck136 (fun x=>[c x]) c (fun _=>rfl) (fun _=>rfl) l f caps p _ hl hf fun x hx=>Z4 (hc x hx) _))
theorem zp3 {α:Type} (c:α→AV) (l:List α) (f:FuncId) (caps:List AV) (p:α→Bool) (H:zc) (hl:l.length≤Lim) (hf:Program.callable Tryz.prog f=true) (hc:ByH l c f caps p H):zj Tryz.prog 78 [.sl .no 1 (l.map (fun x=>[c x])),.clo f [] caps] H (At (.bool (l.any p)) H):=za9 ck78 (Yz ck133 (fun x=>[c x]) c (fun _=>rfl) (fun _=>rfl) l f caps p H hl hf hc)
theorem zrn {α:Type} (c:α→AV) (l:List α) (f:FuncId) (caps:List AV) (p:α→Bool) (hl:l.length≤Lim) (hf:Program.callable Tryz.prog f=true) (hc:ByP l c f caps p):zg Tryz.prog 78 [.sl .no 1 (l.map (fun x=>[c x])),.clo f [] caps] (.bool (l.any p)):=YX (za9 ck78 (Yz ck133 (fun x=>[c x]) c (fun _=>rfl) (fun _=>rfl) l f caps p _ hl hf fun x hx=>Z4 (hc x hx) _))
def YU (n:List UInt8):Bool:=decide (n=[73,110,116])||decide (n=[83,116,114,105,110,103])||decide (n=[66,111,111,108,101,97,110])||decide (n=[73,68])
theorem zqF (n:List UInt8):zg Tryz.prog 197 [.str n] (.bool (YU n)):=by
 refine zg.go ir197 ck197 (Al4 _) fun KP Q hQ=>?_
 by_cases h1:n=[73,110,116]
 ·have e:YU n=true:=by simp[YU,h1]
  have h1':=eq_true h1
  rw[e] at hQ
  simp(disch:=omega) only[ir197,h1',go_sem]
  exact hQ _ _ _ _ nofun rfl (by simp[zd,ze,AV.strip,AV.strip1])
 by_cases h2:n=[83,116,114,105,110,103]
 ·have e:YU n=true:=by simp[YU,h2]
  have h2':=eq_true h2
  rw[e] at hQ
  simp(disch:=omega) only[ir197,h1,h2',go_sem]
  exact hQ _ _ _ _ nofun rfl (by simp[zd,ze,AV.strip,AV.strip1])
 by_cases h3:n=[66,111,111,108,101,97,110]
 ·have e:YU n=true:=by simp[YU,h3]
  have h3':=eq_true h3
  rw[e] at hQ
  simp(disch:=omega) only[ir197,h1,h2,h3',go_sem]
  exact hQ _ _ _ _ nofun rfl (by simp[zd,ze,AV.strip,AV.strip1])
 have e:YU n=decide (n=[73,68]):=by simp[YU,h1,h2,h3]
 rw[e] at hQ
 simp(disch:=omega) only[ir197,h1,h2,h3,go_sem]
 exact hQ _ _ _ _ nofun rfl (by simp[zd,ze,AV.strip,AV.strip1])
def zE:DefD:=⟨0,[],[],[],[],[]⟩
def scE (n:List UInt8):DefD:=⟨0,n,[],[],[],[]⟩
def nmE (n:List UInt8) (d:DefD):Bool:=decide (d.nm=n)
def yN (s:SchD) (n:List UInt8):Option DefD:=if YU n=true then some (scE n) else s.defs.find? (nmE n)
theorem yc {s:SchD} (h:zJ s≤Lim):s.defs.length≤Lim:=by have:=zeg s.defs;simp only[zJ] at h;omega
theorem zeD (s:SchD) (n:List UInt8) (hb:s.defs.length≤Lim):zg Tryz.prog 137 [.agg (zq s),.str n] (.tup [.agg (cE ((yN s n).getD zE)),.bool (yN s n).isSome]):=by
 refine zg.go ir137 ck137 (Al4 _) fun KP Q hQ=>?_
 obtain⟨defs,q,m⟩:=s
 have h1:=zex defs
 simp only[Lim] at hb
 simp(disch:=omega) only[ir137,zq,go_sem]
 refine zb fun b4 hb4=>?_
 simp(disch:=omega) only[zq,go_sem]
 refine za (zqF n) ?_
 cases hs:YU n
 case true =>
  have e:yN ⟨defs,q,m⟩ n=some (scE n):=by simp[yN,hs]
  rw[e] at hQ
  simp(disch:=omega) only[zq,go_sem]
  exact hQ _ _ _ [.agg [.int .i64 0,.str n,.sl .nil 1 [],.sl .nil 6 [],.sl .nil 1 [],.sl .nil 10 []],.bool true] nofun (by simp(disch:=omega) only[ir137,zN,Zv,go_sem]) rfl
 have e:yN ⟨defs,q,m⟩ n=defs.find? (nmE n):=by simp[yN,hs]
 rw[e] at hQ
 simp(disch:=omega) only[zq,h1,go_sem]
 refine zf defs 15 (fun _:Unit=>[]) (fun done rest n' H=>H b4=some (.cells [.int .i64 0,.str [],.sl .nil 1 [],.sl .nil 6 [],.sl .nil 1 [],.sl .nil 10 []])∧rest.find? (nmE n)=defs.find? (nmE n)) () (by simp(disch:=omega) only[go_sem]) ⟨upd_same ..,rfl⟩ ?_ ?_
 ·rintro _ H J ⟨hH,hp⟩ hlt
  rw[← hp] at hQ
  simp(disch:=omega) only[h1,hlt,hH,go_sem]
  exact hQ _ _ _ [.agg [.int .i64 0,.str [],.sl .nil 1 [],.sl .nil 6 [],.sl .nil 1 [],.sl .nil 10 []],.bool false] nofun (by simp(disch:=omega) only[ir137,zN,Zv,go_sem]) rfl
 ·rintro done x rest _ H J hd hlt _ ⟨hH,hp⟩ hJ
  have hg:=zdw hd
  simp(disch:=omega) only[h1,hlt,hg,go_sem]
  refine zb fun b7 hb7=>?_
  have hne:b4≠b7:=fun e=>by subst e;rw[hH] at hb7;cases hb7
  by_cases h:x.nm=n
  ·have e2:defs.find? (nmE n)=some x:=by rw[← hp];simp[nmE,h]
   rw[e2] at hQ
   obtain⟨k,nm,fs,fl,ps,pa⟩:=x
   simp only at h
   simp(disch:=omega) only[ye,hH,hne,Ne.symm hne,h,go_sem]
   exact hQ _ _ _ [.agg (cE ⟨k,nm,fs,fl,ps,pa⟩),.bool true] nofun (by simp(disch:=omega) only[ir137,zN,Zv,ye,h,go_sem]) rfl
  ·have e2:rest.find? (nmE n)=defs.find? (nmE n):=by rw[← hp];simp[nmE,h]
   obtain⟨k,nm,fs,fl,ps,pa⟩:=x
   simp only at h
   simp(disch:=omega) only[ye,hH,hne,Ne.symm hne,h,go_sem]
   exact goJ (hJ () _ ⟨by simp(disch:=omega) only[hH,hne,Ne.symm hne,go_sem],e2⟩) (by simp(disch:=omega) only[wrap64,go_sem])
def cI (k:Int):List AV:=[.int .i64 k]
def zjf (x:Int):List Int→Int→Int
 | [],_=>-1
 | y::r,i=>if x=y then i else zjf x r (i+1)
def znW (l:List Int) (x:Int):Bool:=l.any fun y=>decide (x=y)
theorem zjH (x:Int):∀ l (i:Int),0≤i→decide (0≤zjf x l i)=znW l x
 | [],i,_=>by simp[zjf,znW]
 | y::r,i,hi=>by
  have:=zjH x r (i+1) (by omega)
  simp only[zjf,znW,List.any_cons] at this ⊢
  by_cases h:x=y
  ·simp[h];omega
  ·simp only[h,if_false,decide_false,Bool.false_or];exact this
theorem zrp (l:List Int) (x:Int) (hl:l.length≤Lim):zg Tryz.prog 225 [.sl .no 1 (l.map cI),.int .i64 x] (.int .i64 (zjf x l 0)):=by
 refine zg.go ir225 ck225 (Al4 _) fun KP Q hQ=>?_
 have h1:(l.map cI).length=l.length:=List.length_map ..
 simp only[Lim] at hl
 simp(disch:=omega) only[ir225,h1,go_sem]
 refine zf l 8 (fun _:Unit=>[]) (fun done rest n H=>zjf x rest done.length=zjf x l 0) () (by simp(disch:=omega) only[go_sem]) rfl ?_ ?_
 ·rintro n H J hn hlt
  simp(disch:=omega) only[h1,hlt,go_sem]
  simp only[zjf] at hn
  exact hQ _ _ _ _ nofun rfl (by simp[zd,ze,AV.strip,AV.strip1,← hn])
 ·rintro done y rest n H J hd hlt _ hn hJ
  have hg:(l.map cI).getD done.length []=[.int .i64 y]:=yQ hd
  simp only[zjf] at hn
  by_cases hx:x=y
  ·subst hx
   simp only[if_true] at hn
   simp(disch:=omega) only[h1,hlt,hg,go_sem]
   exact hQ _ _ _ _ nofun rfl (by simp[zd,ze,AV.strip,AV.strip1,← hn])
  ·simp only[hx,if_false] at hn
   simp(disch:=omega) only[h1,hlt,hg,hx,go_sem]
   exact goJ (hJ () _ (by simpa using hn)) (by simp(disch:=omega) only[wrap64,go_sem])
theorem zlq (l:List Int) (x:Int) (hl:l.length≤Lim):zg Tryz.prog 195 [.sl .no 1 (l.map cI),.int .i64 x] (.bool (znW l x)):=by
 refine zg.go ir195 ck195 (Al4 _) fun KP Q hQ=>?_
 simp(disch:=omega) only[ir195,go_sem]
 refine za (zrp l x hl) ?_
 simp(disch:=omega) only[go_sem]
 have:=zjH x l 0 (by omega)
 exact hQ _ _ _ _ nofun rfl (by simp[zd,ze,AV.strip,AV.strip1,this])
def y8 (s:SchD) (n:List UInt8) (ks:List Int):Bool:=(yN s n).any fun d=>znW ks d.k
theorem zcx (s:SchD) (n:List UInt8) (ks:List Int) (hb:s.defs.length≤Lim) (hk:ks.length≤Lim):zg Tryz.prog 132 [.agg (zq s),.str n,.sl .no 1 (ks.map cI)] (.bool (y8 s n ks)):=by
 refine zg.go ir132 ck132 (Al4 _) fun KP Q hQ=>?_
 have hf:=zeD s n hb
 obtain⟨defs,q,m⟩:=s
 simp only[y8] at hQ
 simp only[zq] at hf
 simp(disch:=omega) only[ir132,zq,go_sem]
 refine za hf ?_
 cases hfe:yN ⟨defs,q,m⟩ n with
 | none =>
  simp(disch:=omega) only[Option.getD,Option.isSome,zE,ye,go_sem]
  refine zb fun b7 hb7=>?_
  simp(disch:=omega) only[ye,go_sem]
  exact hQ _ _ _ _ nofun rfl (by simp[zd,ze,AV.strip,AV.strip1,hfe])
 | some d =>
  obtain⟨k,nm,fs,fl,ps,pa⟩:=d
  simp(disch:=omega) only[Option.getD,Option.isSome,ye,go_sem]
  refine zb fun b7 hb7=>?_
  simp(disch:=omega) only[ye,go_sem]
  refine za (zlq ks k hk) ?_
  simp(disch:=omega) only[go_sem]
  exact hQ _ _ _ _ nofun rfl (by simp[zd,ze,AV.strip,AV.strip1,hfe])
def zaC (s:SchD) (n:List UInt8):Bool:=y8 s n [0,4]
def ZW (s:SchD) (n:List UInt8):Bool:=y8 s n [1,2,3]
def zbD (s:SchD) (n:List UInt8):Bool:=y8 s n [0,4,5]
theorem zkA (s:SchD) (n:List UInt8) (hb:s.defs.length≤Lim):zg Tryz.prog 90 [.agg (zq s),.str n] (.bool (zaC s n)):=by
 refine zg.go ir90 ck90 (Al4 _) fun KP Q hQ=>?_
 have hf:=zcx s n [0,4] hb (by decide)
 obtain⟨defs,q,m⟩:=s
 simp only[zq,List.map,cI] at hf
 simp(disch:=omega) only[ir90,zq,go_sem]
 refine za (zg.low hf) ?_
 simp(disch:=omega) only[go_sem]
 exact hQ _ _ _ _ nofun rfl (by simp[zd,ze,AV.strip,AV.strip1,zaC])
theorem zgc (s:SchD) (n:List UInt8) (hb:s.defs.length≤Lim):zg Tryz.prog 77 [.agg (zq s),.str n] (.bool (ZW s n)):=by
 refine zg.go ir77 ck77 (Al4 _) fun KP Q hQ=>?_
 have hf:=zcx s n [1,2,3] hb (by decide)
 obtain⟨defs,q,m⟩:=s
 simp only[zq,List.map,cI] at hf
 simp(disch:=omega) only[ir77,zq,go_sem]
 refine za (zg.low hf) ?_
 simp(disch:=omega) only[go_sem]
 exact hQ _ _ _ _ nofun rfl (by simp[zd,ze,AV.strip,AV.strip1,ZW])
theorem zof (s:SchD) (n:List UInt8) (hb:s.defs.length≤Lim):zg Tryz.prog 104 [.agg (zq s),.str n] (.bool (zbD s n)):=by
 refine zg.go ir104 ck104 (Al4 _) fun KP Q hQ=>?_
 have hf:=zcx s n [0,4,5] hb (by decide)
 obtain⟨defs,q,m⟩:=s
 simp only[zq,List.map,cI] at hf
 simp(disch:=omega) only[ir104,zq,go_sem]
 refine za (zg.low hf) ?_
 simp(disch:=omega) only[go_sem]
 exact hQ _ _ _ _ nofun rfl (by simp[zd,ze,AV.strip,AV.strip1,zbD])
def tnB:List UInt8:=[95,95,116,121,112,101,110,97,109,101]
def zF:FldD:=⟨[],[],⟨[],0,0⟩,[]⟩
def tnF:FldD:=⟨tnB,[],⟨[83,116,114,105,110,103],0,1⟩,[]⟩
def nmF (n:List UInt8) (f:FldD):Bool:=decide (f.nm=n)
def yw (s:SchD) (typ nm:List UInt8):Option FldD :=
 if nm=tnB∧ZW s typ=true then some tnF else match yN s typ with
  | none=>none
  | some d=>if d.k=1∨d.k=2 then d.flds.find? (nmF nm) else none
theorem zir {d:DefD}:∀ {l:List DefD},d∈l→bE d≤bEs l
 | x::l,h=>by
  rcases List.mem_cons.1 h with rfl|h
  ·simp only[bEs,List.map_cons,List.sum_cons];omega
  ·have:=zir h;simp only[bEs,List.map_cons,List.sum_cons] at this ⊢;omega
theorem Ym {s:SchD} {n:List UInt8} {d:DefD} (h:yN s n=some d):bLs d.flds≤zJ s∧bT d.faces≤zJ s∧bT d.parts≤zJ s∧bWs d.ps≤zJ s:=by
 unfold yN at h
 split at h
 ·cases h;simp[scE,bLs,bT,bWs]
 ·have:=zir (List.mem_of_find?_eq_some h)
  simp only[bE,zJ] at this ⊢
  omega
theorem zqY (f:FldD) (n:List UInt8):zg Tryz.prog 139 [.agg (cL f),.view [.str n]] (.bool (nmF n f)):=by
 obtain⟨nm,ps,⟨a,b,c⟩,ds⟩:=f
 refine zg.go ir139 ck139 (Al4 _) fun KP Q hQ=>?_
 simp(disch:=omega) only[ir139,zaB,go_sem]
 exact hQ _ _ _ _ nofun rfl (by simp[zd,ze,AV.strip,AV.strip1,nmF])
theorem zfq (s:SchD) (typ nm:List UInt8) (hb:zJ s≤Lim):zg Tryz.prog 88 [.agg (zq s),.str typ,.str nm] (.tup [.agg (cL ((yw s typ nm).getD zF)),.bool (yw s typ nm).isSome]):=by
 refine zg.go ir88 ck88 (Al4 _) fun KP Q hQ=>?_
 have hl:=yc hb
 have hc:=zgc s typ hl
 have hf:=zeD s typ hl
 have hle:=@Ym s typ
 have hlb:zJ s≤1099511627776:=hb
 have stripz:∀ b,(zd [AV.agg [.str [],.sl .nil 10 [],.str [],.int .i64 0,.int .i64 0,.sl .nil 2 []],.bool b]).strip=.tup [.agg (cL zF),.bool b]:=fun _=>rfl
 have strips:∀ x b,(zd [AV.agg (cL x),.bool b]).strip=.tup [.agg (cL x),.bool b]:=fun _ _=>rfl
 obtain⟨sd,sq,sm⟩:=s
 generalize hS:(⟨sd,sq,sm⟩:SchD)=s at *
 have hcs:zq s=[.sl .no 6 (cEs sd),.str sq,.str sm]:=by rw[← hS];rfl
 rw[hcs] at hc hf ⊢
 have fin:∀ o,yw s typ nm=o→∀ ρ H vs,zN ρ H ir88.res=some vs→(zd vs).strip=.tup [.agg (cL (o.getD zF)),.bool o.isSome]→Q .ret ρ H:=fun o e ρ H vs h1 h2=>hQ _ ρ H vs nofun h1 (by rw[h2,e])
 have e0:¬ (nm=tnB∧ZW s typ=true)→yw s typ nm=match yN s typ with|none=>none|some d=>if d.k=1∨d.k=2 then d.flds.find? (nmF nm) else none:=fun h=>by simp only[yw,h,if_false]
 have three:(nm=tnB∧ZW s typ=true)∨(nm=tnB∧ZW s typ=false)∨nm≠tnB:=by
  cases ZW s typ<;>by_cases h:nm=tnB<;>simp[h]
 rcases three with ⟨ht,hcm⟩|h2
 ·have ht':(nm=[95,95,116,121,112,101,110,97,109,101])=True:=eq_true ht
  rw[hcm] at hc
  simp(disch:=omega) only[ir88,go_sem]
  refine zb fun b6 hb6=>?_
  simp(disch:=omega) only[ht',go_sem]
  refine za hc ?_
  simp(disch:=omega) only[go_sem]
  exact fin (some tnF) (by simp[yw,ht,hcm]) _ _ [.agg [.str tnB,.sl .nil 10 [],.str [83,116,114,105,110,103],.int .i64 0,.int .i64 1,.sl .nil 2 []],.bool true] (by simp(disch:=omega) only[ir88,zN,Zv,tnB,go_sem]) rfl
 have e1:=e0 (by rcases h2 with ⟨_,h⟩|h<;>simp[h])
 rcases h2 with ⟨ht,hcm⟩|ht
 case' inl =>
  have ht':(nm=[95,95,116,121,112,101,110,97,109,101])=True:=eq_true ht
  rw[hcm] at hc
  simp(disch:=omega) only[ir88,go_sem]
  refine zb fun b6 hb6=>?_
  simp(disch:=omega) only[ht',go_sem]
  refine za hc ?_
  simp(disch:=omega) only[go_sem]
 case' inr =>
  have ht':¬ nm=[95,95,116,121,112,101,110,97,109,101]:=ht
  simp(disch:=omega) only[ir88,go_sem]
  refine zb fun b6 hb6=>?_
  simp(disch:=omega) only[ht',go_sem]
 all_goals
  refine za hf ?_
  cases hfe:yN s typ with
  | none =>
   rw[hfe] at e1
   simp(disch:=omega) only[Option.getD,Option.isSome,zE,ye,go_sem]
   refine zb fun b8 hb8=>?_
   have hne:=yY hb8
   simp(disch:=omega) only[ye,hne,Ne.symm hne,go_sem]
   exact fin none e1 _ _ [.agg [.str [],.sl .nil 10 [],.str [],.int .i64 0,.int .i64 0,.sl .nil 2 []],.bool false] (by simp(disch:=omega) only[ir88,zN,Zv,hne,Ne.symm hne,go_sem]) rfl
  | some d =>
   rw[hfe] at e1
   have hle2:=(hle hfe).1
   obtain⟨k,dn,fs,fl,ps,pa⟩:=d
   simp only at e1 hle2
   have hfl:=YV fl
   by_cases hk:k=1∨k=2
   case neg =>
    rw[if_neg hk] at e1
    have hk1:¬ k=1:=fun h=>hk (.inl h)
    have hk2:¬ k=2:=fun h=>hk (.inr h)
    simp(disch:=omega) only[Option.getD,Option.isSome,ye,go_sem]
    refine zb fun b8 hb8=>?_
    have hne:=yY hb8
    simp(disch:=omega) only[ye,hne,Ne.symm hne,hk1,hk2,go_sem]
    exact fin none e1 _ _ [.agg [.str [],.sl .nil 10 [],.str [],.int .i64 0,.int .i64 0,.sl .nil 2 []],.bool false] (by simp(disch:=omega) only[ir88,zN,Zv,hne,Ne.symm hne,go_sem]) rfl
   rw[if_pos hk] at e1
   have hx:=zsR cL (fun _=>rfl) fl 139 [.view [.str nm]] (nmF nm) (by simp only[Lim];omega) (by kernel_rfl) fun x _=>zqY x nm
   rcases hk with hk|hk
   all_goals
    subst hk
    simp(disch:=omega) only[Option.getD,Option.isSome,ye,go_sem]
    refine zb fun b8 hb8=>?_
    have hne:=yY hb8
    simp(disch:=omega) only[ye,hne,Ne.symm hne,go_sem]
    refine za hx ?_
    rcases zal (nmF nm) fl 0 with ⟨a,x,r,h1,h2,h3,h4⟩|⟨h1,h2⟩
    ·rw[h4,Int.zero_add]
     rw[h3] at e1
     have hg:=zdt h1
     have h6:=zaX fl
     have h5:(a.length:Int)<fl.length:=by rw[h1,Al5,Al2];omega
     have h7:¬ ((a.length:Int)<0):=by omega
     simp(disch:=omega) only[hne,Ne.symm hne,hg,h6,h5,h7,cL,go_sem]
     refine fin (some x) e1 _ _ [.agg (cL x),.bool true] ?_ rfl
     simp(disch:=omega) only[ir88,zN,Zv,hne,Ne.symm hne,cL,go_sem]
    ·rw[h2]
     rw[h1] at e1
     simp(disch:=omega) only[hne,Ne.symm hne,go_sem]
     exact fin none e1 _ _ [.agg [.str [],.sl .nil 10 [],.str [],.int .i64 0,.int .i64 0,.sl .nil 2 []],.bool false] (by simp(disch:=omega) only[ir88,zN,Zv,hne,Ne.symm hne,go_sem]) rfl
def zbH (l:List (List UInt8)) (n:List UInt8):List (List UInt8):=if zQ n l=true then l else l++[n]
theorem zmL (l:List (List UInt8)) (n:List UInt8):(zbH l n).length≤l.length+1:=by unfold zbH;split<;>simp
theorem zuY (l:List (List UInt8)) (n:List UInt8) (o:Own) (H:zc) (hb:l.length+1≤Lim) (ho:zY H o l.length 1):Y8 Tryz.prog 198 [.sl o 1 (cT l),.str n] H o 1 (cT (zbH l n)):=by
 have h3:=zK l
 have hb':=hb
 simp only[Lim] at hb'
 refine zj.goO ir198 ck198 (Al4 _) fun KP Q hQ hP=>?_
 simp(disch:=omega) only[ir198,go_sem]
 refine za (zg.low (yR l n (by simp only[Lim];omega))) ?_
 cases hh:zQ n l with
 | true =>
  simp(disch:=omega) only[hh,go_sem]
  refine hQ _ _ H H _ nofun rfl (Low.refl _) ⟨o,?_,?_⟩
  ·simp[zd,ze,zbH,hh]
  ·simpa[zbH,hh,h3] using OwnS.refl ho
 | false =>
  simp(disch:=omega) only[hh,go_sem]
  refine zu (by rw[h3];exact ho) ?_ ?_ fun o' H' hs=>?_
  ·simp only[h3,Al2,Al3];omega
  ·simp only[h3,Al2,Al3,maxLen];omega
  simp(disch:=omega) only[go_sem]
  refine hQ _ _ H' H' _ nofun rfl (Low.refl _) ⟨o',?_,?_⟩
  ·simp[zd,ze,zbH,hh,cT,AV.strip1]
  ·simpa[zbH,hh,h3,zK] using hs
def zbm (s:SchD) (n:List UInt8):List (List UInt8):=match yN s n with
 | none=>[]
 | some d=>if d.k=1 then [n] else if d.k=2 then s.defs.foldl (fun l x=>if x.k=1∧zQ n x.faces=true then zbH l x.nm else l) []
  else if d.k=3 then d.parts.foldl (fun l p=>if y8 s p [1]=true then zbH l p else l) [] else []
end Go.Proofs.YtbcocdloklbkjaaGreatDoor
