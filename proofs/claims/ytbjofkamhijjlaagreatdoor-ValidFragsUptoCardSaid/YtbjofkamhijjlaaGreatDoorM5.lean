import Derived.JoinedOf
import Derived.Lib.ItoaMem
import Derived.Lib.ParseIntBTie
import Derived.Lib.ValidLaws
import Derived.Test.YtbjofkamhijjlaaGreatDoorM1
import Derived.Test.YtbjofkamhijjlaaGreatDoorM2
import Derived.Test.YtbjofkamhijjlaaGreatDoorM3
import Derived.Test.YtbjofkamhijjlaaGreatDoorM4
set_option maxRecDepth 100000
set_option linter.all false
namespace Go.Proofs.YtbjofkamhijjlaaGreatDoor
open Go.Ab
mutual
inductive Val where
 | mk (k n:Int) (s:List UInt8) (l:List Val) (m:List Mem)
inductive Mem where
 | mk (name:List UInt8) (v:Val)
end
mutual
def cV:Val→List AV
 | .mk k n s l m=>[.int .i64 k,.int .i64 n,.str s,.sl .no 5 (cVs l),.sl .no 6 (cMs m)]
def cVs:List Val→List (List AV)
 | []=>[]
 | v::r=>cV v::cVs r
def cM:Mem→List AV
 | .mk s v=>.str s::cV v
def cMs:List Mem→List (List AV)
 | []=>[]
 | x::r=>cM x::cMs r
end
theorem zeT:∀ l,cVs l=l.map cV
 | []=>rfl
 | v::r=>by rw[cVs,zeT r];rfl
theorem zbE:∀ l,cMs l=l.map cM
 | []=>rfl
 | v::r=>by rw[cMs,zbE r];rfl
theorem YF (l:List Val):(cVs l).length=l.length:=by rw[zeT];simp
theorem yS (l:List Mem):(cMs l).length=l.length:=by rw[zbE];simp
theorem zaC {l a:List Val} {x:Val} {b:List Val} (h:l=a++x::b):(cVs l).getD a.length []=cV x:=by rw[zeT,yN h]
theorem Zy {l a:List Mem} {x:Mem} {b:List Mem} (h:l=a++x::b):(cMs l).getD a.length []=cM x:=by rw[zbE,yN h]
theorem ye (k n:Int) (s:List UInt8) (l:List Val) (m:List Mem):cV (.mk k n s l m)=[.int .i64 k,.int .i64 n,.str s,.sl .no 5 (cVs l),.sl .no 6 (cMs m)]:=rfl
theorem zA (s:List UInt8) (v:Val):cM (.mk s v)=.str s::cV v:=rfl
theorem zfb (v:Val):(cV v).map AV.strip1=cV v:=by cases v;rfl
mutual
theorem Val.ind {P:Val→Prop} (h:∀ k n s l m,(∀ v∈l,P v)→(∀ s v,Mem.mk s v∈m→P v)→P (.mk k n s l m)):∀ v,P v
 | .mk k n s l m=>h k n s l m (Val.indL h l) (fun s v hm=>Val.indM h m s v hm)
theorem Val.indL {P:Val→Prop} (h:∀ k n s l m,(∀ v∈l,P v)→(∀ s v,Mem.mk s v∈m→P v)→P (.mk k n s l m)):∀ l:List Val,∀ v∈l,P v
 | [],_,hv=>by cases hv
 | x::r,v,hv=>(List.mem_cons.1 hv).elim (fun e=>e▸Val.ind h x) (Val.indL h r v)
theorem Val.ind1 {P:Val→Prop} (h:∀ k n s l m,(∀ v∈l,P v)→(∀ s v,Mem.mk s v∈m→P v)→P (.mk k n s l m)):∀ m:Mem,∀ s v,m=.mk s v→P v
 | .mk s v,s',v',e=>by cases e;exact Val.ind h v
theorem Val.indM {P:Val→Prop} (h:∀ k n s l m,(∀ v∈l,P v)→(∀ s v,Mem.mk s v∈m→P v)→P (.mk k n s l m)):∀ l:List Mem,∀ s v,Mem.mk s v∈l→P v
 | [],_,_,hv=>by cases hv
 | x::r,s,v,hv=>(List.mem_cons.1 hv).elim (fun e=>Val.ind1 h x s v e.symm) (Val.indM h r s v)
end
theorem zx (v:Val):(cV v).length=5:=by cases v;rfl
theorem zv (x:Mem):(cM x).length=6:=by cases x with|mk s v=>cases v;rfl
theorem zm (v:Val):(cV v).take 5=cV v:=by cases v;rfl
theorem zn (x:Mem):(cM x).take 6=cM x:=by cases x with|mk s v=>cases v;rfl
theorem zj (a b c d e:AV) (v:Val):splice [a,b,c,d,e] 0 (cV v)=cV v:=by cases v;rfl
theorem zk (a b c d e f:AV) (x:Mem):splice [a,b,c,d,e,f] 0 (cM x)=cM x:=by cases x with|mk s v=>cases v;rfl
mutual
def bV:Val→Nat
 | .mk _ _ s l m=>1+s.length+bVs l+bMs m
def bVs:List Val→Nat
 | []=>0
 | v::r=>bV v+bVs r
def bM:Mem→Nat
 | .mk s v=>s.length+bV v
def bMs:List Mem→Nat
 | []=>0
 | x::r=>bM x+bMs r
end
theorem zcY (v:Val):1≤bV v:=by cases v;simp only[bV];omega
theorem zvw (v:Mem):1≤bM v:=by cases v with|mk s v=>have:=zcY v;simp only[bM];omega
theorem zaB:∀ l,l.length≤bVs l
 | []=>by simp
 | v::r=>by have:=zaB r;have:=zcY v;simp only[bVs,Al2];omega
theorem y5:∀ l,l.length≤bMs l
 | []=>by simp
 | v::r=>by have:=y5 r;have:=zvw v;simp only[bMs,Al2];omega
theorem ze7 (a:List Val) (x:Val) (b:List Val):bVs (a++x::b)=bVs a+bV x+bVs b:=by
 induction a with
 | nil=>simp[bVs]
 | cons y a ih=>simp only[Al6,bVs,ih];omega
theorem za5 (a:List Mem) (x:Mem) (b:List Mem):bMs (a++x::b)=bMs a+bM x+bMs b:=by
 induction a with
 | nil=>simp[bMs]
 | cons y a ih=>simp only[Al6,bMs,ih];omega
abbrev Lim:Nat:=1099511627776
theorem zkL:∀ v,bV v≤Lim→zg Tryz.prog 31 [.agg (cV v)] (.int .i64 (bV v)):=by
 refine Val.ind fun k n s l m ihl ihm hb=>?_
 refine zg.go ir31 ck31 (Al4 _) fun KP Q hQ=>?_
 have hl:=YF l
 have hm:=yS m
 have hll:=zaB l
 have hml:=y5 m
 have hb':1+s.length+bVs l+bMs m≤Lim:=hb
 simp only[Lim] at hb'
 simp(disch:=omega) only[ir31,ye,wrap64,go_sem]
 refine zf l 4 (fun n:Int=>[(3,.int .i64 n)]) (fun done rest n H=>n+bVs rest=1+s.length+bVs l∧H=zb.emp) (1+s.length) (by simp(disch:=omega) only[go_sem]) ⟨by omega,rfl⟩ ?_ ?_
 ·rintro n H J ⟨hn,rfl⟩ hlt
  simp only[bVs] at hn
  simp(disch:=omega) only[hl,hlt,go_sem]
  refine zf m 5 (fun n:Int=>[(3,.int .i64 n)]) (fun done rest n H=>n+bMs rest=1+s.length+bVs l+bMs m∧H=zb.emp) n (by simp(disch:=omega) only[go_sem]) ⟨by omega,rfl⟩ ?_ ?_
  ·rintro n H J ⟨hn,rfl⟩ hlt
   simp only[bMs] at hn
   simp(disch:=omega) only[hm,hlt,go_sem]
   have:n=((bV (.mk k n s l m):Nat):Int):=by simp only[bV];omega
   exact hQ _ _ _ _ nofun rfl (by simp[zd,ze,AV.strip,AV.strip1,bV,this])
  ·rintro done x rest n H J hd hlt _ ⟨hn,rfl⟩ hJ
   have hg:=Zy hd
   have hbm:=za5 done x rest
   rw[← hd] at hbm
   cases x with
   | mk t v =>
   simp only[bMs,bM] at hn hbm
   simp(disch:=omega) only[zx,zm,zj,zv,zn,zk,zA,hm,hlt,hg,wrap64,go_sem]
   refine za (ihm t v (by rw[hd];simp) (by simp only[Lim];omega)) ?_
   simp(disch:=omega) only[hl,hm,hlt,hg,zA,wrap64,go_sem]
   refine goJ (hJ (n+t.length+bV v) zb.emp ⟨by omega,rfl⟩) (by simp(disch:=omega) only[go_sem])
 ·rintro done x rest n H J hd hlt _ ⟨hn,rfl⟩ hJ
  have hg:=zaC hd
  have hbm:=ze7 done x rest
  rw[← hd] at hbm
  simp only[bVs] at hn
  simp(disch:=omega) only[zx,zm,zj,zv,zn,zk,zA,hl,hlt,hg,go_sem]
  refine za (ihl x (by rw[hd];simp) (by simp only[Lim];omega)) ?_
  simp(disch:=omega) only[wrap64,go_sem]
  refine goJ (hJ (n+bV x) zb.emp ⟨by omega,rfl⟩) (by simp(disch:=omega) only[go_sem])
noncomputable def eqd {α:Type} (a b:α):Bool:=@decide (a=b) (Classical.propDecidable _)
theorem YC {α:Type} {a b:α} (h:a=b):eqd a b=true:=by simp[eqd,h]
theorem yL {α:Type} {a b:α} (h:a≠b):eqd a b=false:=by simp[eqd,h]
def cT (l:List (List UInt8)):List (List AV):=l.map fun k=>[.str k]
theorem zD (l:List (List UInt8)):(cT l).length=l.length:=by simp[cT]
theorem Yr {l a:List (List UInt8)} {x:List UInt8} {b:List (List UInt8)} (h:l=a++x::b):(cT l).getD a.length []=[.str x]:=yN h
theorem zob {α:Type} {a b done rest:List α} {x:α} (h:a=done++x::rest) (hl:a.length=b.length) (hp:b.take done.length=done):∃ y r,b=done++y::r:=by
 have h1:done.length<b.length:=by rw[← hl,h];simp
 refine⟨b[done.length],b.drop (done.length+1),?_⟩
 conv=>lhs;rw[← List.take_append_drop done.length b,hp,List.drop_eq_getElem_cons h1]
theorem zk4 {α:Type} {b done r:List α} {y:α} (h:b=done++y::r):b.take (done++[y]).length=done++[y]:=by
 subst h
 have e:done++y::r=(done++[y])++r:=by simp
 rw[e,List.take_left'];rfl
theorem zn7 {α:Type} {a b:List α} (hl:a.length=b.length) (hp:b.take a.length=a):a=b:=by
 rw[hl,List.take_length] at hp;exact hp.symm
theorem zpY {α:Type} {a b done rest r:List α} {x y:α} (h:a=done++x::rest) (h':b=done++y::r) (hxy:x≠y):a≠b:=fun e=>by
 rw[h,h'] at e
 exact hxy (List.cons.inj (List.append_cancel_left e)).1
mutual
def ZV:Val→Int
 | .mk k _ _ l m=>if k=6 then Y0 l 0+1 else if k=7 then zac m 0+1 else 0
def Y0:List Val→Int→Int
 | [],n=>n
 | v::r,n=>Y0 r (mm2 true n (ZV v))
def zbL:Mem→Int
 | .mk _ v=>ZV v
def zac:List Mem→Int→Int
 | [],n=>n
 | x::r,n=>zac r (mm2 true n (zbL x))
end
theorem zrq (a b:Int):a≤mm2 true a b:=by simp only[mm2,if_true];split<;>omega
mutual
theorem zfE:∀ v,0≤ZV v∧ZV v≤bV v
 | .mk k n s l m=>by
  have h1:=zd8 l 0
  have h2:=zd3 m 0
  simp only[ZV,bV]
  split
  ·omega
  ·split<;>omega
theorem zd8:∀ l (n:Int),n≤Y0 l n∧(Y0 l n≤n∨Y0 l n≤bVs l)
 | [],n=>by simp[Y0,bVs]
 | v::r,n=>by
  have h1:=zfE v
  have h2:=zd8 r (mm2 true n (ZV v))
  have h3:=zrq n (ZV v)
  have h4:mm2 true n (ZV v)=n∨mm2 true n (ZV v)=ZV v:=by simp only[mm2,if_true];split<;>simp
  simp only[Y0,bVs]
  omega
theorem zo6:∀ x,0≤zbL x∧zbL x≤bM x
 | .mk s v=>by have:=zfE v;simp only[zbL,bM];omega
theorem zd3:∀ l (n:Int),n≤zac l n∧(zac l n≤n∨zac l n≤bMs l)
 | [],n=>by simp[zac,bMs]
 | v::r,n=>by
  have h1:=zo6 v
  have h2:=zd3 r (mm2 true n (zbL v))
  have h3:=zrq n (zbL v)
  have h4:mm2 true n (zbL v)=n∨mm2 true n (zbL v)=zbL v:=by simp only[mm2,if_true];split<;>simp
  simp only[zac,bMs]
  omega
end
theorem zjA:∀ v,bV v≤Lim→zg Tryz.prog 218 [.agg (cV v)] (.int .i64 (ZV v)):=by
 refine Val.ind fun k n s l m ihl ihm hb=>?_
 refine zg.go ir218 ck218 (Al4 _) fun KP Q hQ=>?_
 have hl:=YF l
 have hm:=yS m
 have hll:=zaB l
 have hml:=y5 m
 have hb':1+s.length+bVs l+bMs m≤Lim:=hb
 simp only[Lim] at hb'
 have d1:=zd8 l 0
 have d2:=zd3 m 0
 by_cases k6:k=6
 ·subst k6
  simp(disch:=omega) only[ir218,ye,hl,go_sem]
  refine zf l 15 (fun n:Int=>[(3,.int .i64 n)]) (fun done rest n H=>Y0 rest n=Y0 l 0) 0 (by simp(disch:=omega) only[go_sem]) rfl ?_ ?_
  ·rintro n H J hn hlt
   simp only[Y0] at hn
   simp(disch:=omega) only[hl,hlt,wrap64,hn,go_sem]
   exact hQ _ _ _ _ nofun rfl (by simp[zd,ze,AV.strip,AV.strip1,ZV])
  ·rintro done x rest n H J hd hlt _ hn hJ
   have hg:=zaC hd
   have hbm:=ze7 done x rest
   rw[← hd] at hbm
   simp only[Y0] at hn
   simp(disch:=omega) only[zx,zm,zj,zv,zn,zk,zA,hl,hlt,hg,go_sem]
   refine zc fun b hb=>?_
   simp(disch:=omega) only[zx,zm,zj,zv,zn,zk,zA,go_sem]
   refine za (ihl x (by rw[hd];simp) (by simp only[Lim];omega)) ?_
   simp(disch:=omega) only[wrap64,go_sem]
   exact goJ (hJ _ _ hn) (by simp(disch:=omega) only[go_sem])
 by_cases k7:k=7
 ·subst k7
  simp(disch:=omega) only[ir218,ye,hm,go_sem]
  refine zf m 29 (fun n:Int=>[(3,.int .i64 n)]) (fun done rest n H=>zac rest n=zac m 0) 0 (by simp(disch:=omega) only[go_sem]) rfl ?_ ?_
  ·rintro n H J hn hlt
   simp only[zac] at hn
   simp(disch:=omega) only[hm,hlt,wrap64,hn,go_sem]
   exact hQ _ _ _ _ nofun rfl (by simp[zd,ze,AV.strip,AV.strip1,ZV])
  ·rintro done x rest n H J hd hlt _ hn hJ
   have hg:=Zy hd
   have hbm:=za5 done x rest
   rw[← hd] at hbm
   cases x with
   | mk t v =>
   simp only[zac,zbL,bM] at hn hbm
   simp(disch:=omega) only[zx,zm,zj,zv,zn,zk,zA,hm,hlt,hg,go_sem]
   refine zc fun b hb=>?_
   simp(disch:=omega) only[zx,zm,zj,zv,zn,zk,zA,go_sem]
   refine za (ihm t v (by rw[hd];simp) (by simp only[Lim];omega)) ?_
   simp(disch:=omega) only[wrap64,go_sem]
   exact goJ (hJ _ _ hn) (by simp(disch:=omega) only[go_sem])
 ·simp(disch:=omega) only[ir218,ye,k6,k7,go_sem]
  exact hQ _ _ _ _ nofun rfl (by simp[zd,ze,AV.strip,AV.strip1,ZV,k6,k7])
def zV:Val:=.mk 0 0 [] [] []
theorem ztx:cV zV=[.int .i64 0,.int .i64 0,.str [],.sl .no 5 [],.sl .no 6 []]:=rfl
def zau (t:List UInt8):List Mem→Val×Bool
 | []=>(zV,false)
 | .mk s v::r=>if s=t then (v,true) else zau t r
theorem zsA (t:List UInt8) (m:List Mem) (hb:m.length≤Lim):zg Tryz.prog 154 [.str t,.sl .no 6 (cMs m)] (.tup [.agg (cV (zau t m).1),.bool (zau t m).2]):=by
 refine zg.go ir154 ck154 (Al4 _) fun KP Q hQ=>?_
 have hm:=yS m
 simp only[Lim] at hb
 simp(disch:=omega) only[ir154,go_sem]
 refine zc fun b hb=>?_
 simp(disch:=omega) only[hm,go_sem]
 refine zf m 10 (fun _:Unit=>[]) (fun done rest n H=>zau t rest=zau t m∧H b=some (.cells [.int .i64 0,.int .i64 0,.str [],.sl .nil 5 [],.sl .nil 6 []])) () (by simp(disch:=omega) only[go_sem]) ⟨rfl,by simp[zb.upd]⟩ ?_ ?_
 ·rintro n H J ⟨hn,hH⟩ hlt
  simp(disch:=omega) only[hm,hlt,hH,go_sem]
  refine hQ _ _ _ [.agg [.int .i64 0,.int .i64 0,.str [],.sl .nil 5 [],.sl .nil 6 []],.bool false] nofun (by simp(disch:=omega) only[ir154,zG,Zk,go_sem]) ?_
  rw[← hn]
  rfl
 ·rintro done x rest n H J hd hlt _ ⟨hn,hH⟩ hJ
  have hg:=Zy hd
  cases x with
  | mk s v =>
  simp only[zau] at hn
  simp(disch:=omega) only[zx,zm,zj,zv,zn,zk,zA,hm,hlt,hg,go_sem]
  refine zc fun b2 hb2=>?_
  have hne:=zd6 hb2 hH
  by_cases hs:s=t
  ·simp(disch:=omega) only[zx,zm,zj,zv,zn,zk,zA,hs,hH,Ne.symm hne,hne,go_sem]
   simp only[hs,if_true] at hn
   refine hQ _ _ _ [.agg (cV v),.bool true] nofun (by simp(disch:=omega) only[zx,zm,zj,zv,zn,zk,zA,ir154,zG,Zk,go_sem]) ?_
   rw[← hn]
   simp[zd,AV.strip,AV.strip1,zfb]
  ·simp(disch:=omega) only[zx,zm,zj,zv,zn,zk,zA,hs,go_sem]
   simp only[hs,if_false] at hn
   exact goJ (hJ () _ ⟨hn,by simp[zb.upd,Ne.symm hne,hH]⟩) (by simp(disch:=omega) only[wrap64,go_sem])
structure Tok where
 k:Int
 s:List UInt8
def cK (t:Tok):List AV:=[.int .i64 t.k,.str t.s]
def cKs (l:List Tok):List (List AV):=l.map cK
theorem zlX (a b:List Tok):cKs (a++b)=cKs a++cKs b:=by simp[cKs]
theorem Zb (l:List Tok):(cKs l).length=l.length:=by simp[cKs]
theorem zb1 (l:List Tok):(cKs l).map (·.map AV.strip1)=cKs l:=by simp[cKs,cK,AV.strip1]
theorem ztU (f:FuncId) (hf:Program.callable Tryz.prog f=true) (a b:List Val) (ha:a.length≤Lim) (hc:∀ x∈a,∀ y,zg Tryz.prog f [.agg (cV x),.agg (cV y)] (.bool (eqd x y))) :
  zg Tryz.prog 214 [.sl .no 5 (cVs a),.sl .no 5 (cVs b),.clo f [] []] (.bool (eqd a b)):=by
 refine zg.go ir214 ck214 (Al4 _) fun KP Q hQ=>?_
 have h1:=YF a
 have h2:=YF b
 simp only[Lim] at ha
 by_cases hl:a.length=b.length
 case neg =>
  have hl':¬ ((a.length:Int)=b.length):=by omega
  have hne:a≠b:=fun e=>hl (by rw[e])
  simp(disch:=omega) only[ir214,h1,h2,hl',go_sem]
  exact hQ _ _ _ _ nofun rfl (by simp[zd,ze,AV.strip,AV.strip1,yL hne])
 have hl':((a.length:Int)=b.length)=True:=eq_true (by omega)
 simp(disch:=omega) only[ir214,h1,h2,hl',go_sem]
 refine zf a 17 (fun _:Unit=>[]) (fun done rest n H=>b.take done.length=done) () (by simp(disch:=omega) only[go_sem]) rfl ?_ ?_
 ·rintro n H J hp hlt
  simp(disch:=omega) only[h1,hlt,go_sem]
  exact hQ _ _ _ _ nofun rfl (by simp[zd,ze,AV.strip,AV.strip1,YC (zn7 hl hp)])
 ·rintro done x rest n H J hd hlt _ hp hJ
  obtain⟨y,r,hb⟩:=zob hd hl hp
  have g1:=zaC hd
  have g2:=zaC hb
  have hlt2:(done.length:Int)<b.length:=by omega
  simp(disch:=omega) only[zx,zm,zj,zv,zn,zk,zA,h1,h2,hlt,hlt2,g1,g2,go_sem]
  refine zc fun b1 hb1=>?_
  simp(disch:=omega) only[zx,zm,zj,zv,zn,zk,zA,h1,h2,hlt,hlt2,g1,g2,go_sem]
  refine zc fun b2 hb2=>?_
  have hne:=yF hb2
  simp(disch:=omega) only[zx,zm,zj,zv,zn,zk,zA,Ne.symm hne,hne,go_sem]
  refine⟨hf,za (hc x (by rw[hd];simp) y) ?_⟩
  by_cases hxy:x=y
  ·simp(disch:=omega) only[YC hxy,go_sem]
   exact goJ (hJ () _ (by rw[hxy];exact zk4 hb)) (by simp(disch:=omega) only[wrap64,go_sem])
  ·simp(disch:=omega) only[yL hxy,go_sem]
   exact hQ _ _ _ _ nofun rfl (by simp[zd,ze,AV.strip,AV.strip1,yL (zpY hd hb hxy)])
theorem zs4 (f:FuncId) (hf:Program.callable Tryz.prog f=true) (a b:List Mem) (ha:a.length≤Lim) (hc:∀ x∈a,∀ y,zg Tryz.prog f [.agg (cM x),.agg (cM y)] (.bool (eqd x y))) :
  zg Tryz.prog 215 [.sl .no 6 (cMs a),.sl .no 6 (cMs b),.clo f [] []] (.bool (eqd a b)):=by
 refine zg.go ir215 ck215 (Al4 _) fun KP Q hQ=>?_
 have h1:=yS a
 have h2:=yS b
 simp only[Lim] at ha
 by_cases hl:a.length=b.length
 case neg =>
  have hl':¬ ((a.length:Int)=b.length):=by omega
  have hne:a≠b:=fun e=>hl (by rw[e])
  simp(disch:=omega) only[ir215,h1,h2,hl',go_sem]
  exact hQ _ _ _ _ nofun rfl (by simp[zd,ze,AV.strip,AV.strip1,yL hne])
 have hl':((a.length:Int)=b.length)=True:=eq_true (by omega)
 simp(disch:=omega) only[ir215,h1,h2,hl',go_sem]
 refine zf a 17 (fun _:Unit=>[]) (fun done rest n H=>b.take done.length=done) () (by simp(disch:=omega) only[go_sem]) rfl ?_ ?_
 ·rintro n H J hp hlt
  simp(disch:=omega) only[h1,hlt,go_sem]
  exact hQ _ _ _ _ nofun rfl (by simp[zd,ze,AV.strip,AV.strip1,YC (zn7 hl hp)])
 ·rintro done x rest n H J hd hlt _ hp hJ
  obtain⟨y,r,hb⟩:=zob hd hl hp
  have g1:=Zy hd
  have g2:=Zy hb
  have hlt2:(done.length:Int)<b.length:=by omega
  simp(disch:=omega) only[zx,zm,zj,zv,zn,zk,zA,h1,h2,hlt,hlt2,g1,g2,go_sem]
  refine zc fun b1 hb1=>?_
  simp(disch:=omega) only[zx,zm,zj,zv,zn,zk,zA,h1,h2,hlt,hlt2,g1,g2,go_sem]
  refine zc fun b2 hb2=>?_
  have hne:=yF hb2
  simp(disch:=omega) only[zx,zm,zj,zv,zn,zk,zA,Ne.symm hne,hne,go_sem]
  refine⟨hf,za (hc x (by rw[hd];simp) y) ?_⟩
  by_cases hxy:x=y
  ·simp(disch:=omega) only[YC hxy,go_sem]
   exact goJ (hJ () _ (by rw[hxy];exact zk4 hb)) (by simp(disch:=omega) only[wrap64,go_sem])
  ·simp(disch:=omega) only[yL hxy,go_sem]
   exact hQ _ _ _ _ nofun rfl (by simp[zd,ze,AV.strip,AV.strip1,yL (zpY hd hb hxy)])
theorem zqe (s t:List UInt8) (v u:Val) (hc:zg Tryz.prog 173 [.agg (cV v),.agg (cV u)] (.bool (eqd v u))):zg Tryz.prog 216 [.agg (cM (.mk s v)),.agg (cM (.mk t u))] (.bool (eqd (Mem.mk s v) (Mem.mk t u))):=by
 refine zg.go ir216 ck216 (Al4 _) fun KP Q hQ=>?_
 by_cases h1:s=t
 ·simp(disch:=omega) only[zx,zm,zj,zv,zn,zk,zA,ir216,h1,go_sem]
  refine za hc ?_
  simp(disch:=omega) only[go_sem]
  have:eqd (Mem.mk t v) (Mem.mk t u)=eqd v u:=by
   by_cases h:v=u
   ·rw[YC h,YC (by rw[h])]
   ·rw[yL h,yL (by simp[h])]
  exact hQ _ _ _ _ nofun rfl (by simp[zd,ze,AV.strip,AV.strip1,this,h1])
 ·simp(disch:=omega) only[zx,zm,zj,zv,zn,zk,zA,ir216,h1,go_sem]
  have:eqd (Mem.mk s v) (Mem.mk t u)=false:=yL (by simp[h1])
  exact hQ _ _ _ _ nofun rfl (by simp[zd,ze,AV.strip,AV.strip1,this])
theorem zua:∀ v,bV v≤Lim→∀ u,zg Tryz.prog 173 [.agg (cV v),.agg (cV u)] (.bool (eqd v u)):=by
 refine Val.ind fun k n s l m ihl ihm hb u=>?_
 obtain⟨k',n',s',l',m'⟩:=u
 have hb':1+s.length+bVs l+bMs m≤Lim:=hb
 have hll:=zaB l
 have hml:=y5 m
 have il:∀ x∈l,∀ y,zg Tryz.prog 173 [.agg (cV x),.agg (cV y)] (.bool (eqd x y)):=fun x hx y=>by
  obtain⟨a,b,hd⟩:=List.append_of_mem hx
  have:=ze7 a x b
  rw[← hd] at this
  exact ihl x hx (by omega) y
 have im:∀ x∈m,∀ y,zg Tryz.prog 216 [.agg (cM x),.agg (cM y)] (.bool (eqd x y)):=fun x hx y=>by
  obtain⟨a,b,hd⟩:=List.append_of_mem hx
  have:=za5 a x b
  rw[← hd] at this
  obtain⟨t,v⟩:=x
  obtain⟨t',v'⟩:=y
  simp only[bM] at this
  exact zqe t t' v v' (ihm t v hx (by omega) v')
 refine zg.go ir173 ck173 (Al4 _) fun KP Q hQ=>?_
 by_cases h1:k=k'
 case neg =>
  have hne:¬ (Val.mk k n s l m=Val.mk k' n' s' l' m'):=by simp[h1]
  simp(disch:=omega) only[ir173,ye,h1,go_sem]
  exact hQ _ _ _ _ nofun rfl (by simp[zd,ze,AV.strip,AV.strip1,yL hne])
 by_cases h2:n=n'
 case neg =>
  have hne:¬ (Val.mk k n s l m=Val.mk k' n' s' l' m'):=by simp[h2]
  simp(disch:=omega) only[ir173,ye,h1,h2,go_sem]
  exact hQ _ _ _ _ nofun rfl (by simp[zd,ze,AV.strip,AV.strip1,yL hne])
 by_cases h3:s=s'
 case neg =>
  have hne:¬ (Val.mk k n s l m=Val.mk k' n' s' l' m'):=by simp[h3]
  simp(disch:=omega) only[ir173,ye,h1,h2,h3,go_sem]
  exact hQ _ _ _ _ nofun rfl (by simp[zd,ze,AV.strip,AV.strip1,yL hne])
 simp(disch:=omega) only[ir173,ye,h1,h2,h3,go_sem]
 refine za (ztU _ (by kernel_rfl) l l' (by omega) il) ?_
 by_cases h4:l=l'
 case neg =>
  have hne:¬ (Val.mk k n s l m=Val.mk k' n' s' l' m'):=by simp[h4]
  simp(disch:=omega) only[yL h4,go_sem]
  exact hQ _ _ _ _ nofun rfl (by simp[zd,ze,AV.strip,AV.strip1,yL hne])
 simp(disch:=omega) only[YC h4,go_sem]
 refine za (zs4 _ (by kernel_rfl) m m' (by omega) im) ?_
 simp(disch:=omega) only[go_sem]
 have:eqd (Val.mk k n s l m) (Val.mk k' n' s' l' m')=eqd m m':=by
  by_cases h:m=m'
  ·rw[YC h,YC (by rw[h1,h2,h3,h4,h])]
  ·rw[yL h,yL (by simp[h])]
 exact hQ _ _ _ _ nofun rfl (by simp[zd,ze,AV.strip,AV.strip1,this])
theorem zrf (m:List Mem) (hm:bMs m≤Lim) (hc:∀ s v,Mem.mk s v∈m→zg Tryz.prog 41 [.agg (cV v)] (.agg (cV v))):zg Tryz.prog 22 [.sl .no 6 (cMs m)] (.sl .no 6 (cMs m)):=by
 refine zg.go ir22 ck22 (Al4 _) fun KP Q hQ=>?_
 have h1:=yS m
 have hml:=y5 m
 simp only[Lim] at hm
 simp(disch:=omega) only[ir22,go_sem]
 refine zf m 4 (fun x:Own×List Mem=>[(3,.sl x.1 6 (cMs x.2))]) (fun done rest x H=>x.2=done∧OwnF zb.emp H x.1 done.length 6) (.nil,[]) (by simp(disch:=omega) only[cMs,go_sem]) ⟨rfl,OwnF.nil _ _⟩ ?_ ?_
 ·rintro⟨o,done⟩ H J ⟨rfl,ho⟩ hlt
  simp(disch:=omega) only[h1,hlt,go_sem]
  exact hQ _ _ _ _ nofun rfl (by simp[zd,ze,AV.strip,AV.strip1])
 ·rintro done x rest ⟨o,ds⟩ H J hd hlt hlt' ⟨hds,ho⟩ hJ
  simp only at hds ho hJ ⊢
  obtain rfl:done=ds:=hds.symm
  have hg:=Zy hd
  have hmem:x∈m:=by rw[hd];simp
  have h2:=yS done
  obtain⟨s,v⟩:=x
  simp(disch:=omega) only[zx,zm,zj,zv,zn,zk,zA,h1,hlt,hg,go_sem]
  refine za (hc s v hmem) ?_
  simp(disch:=omega) only[zx,zm,zj,zv,zn,zk,zA,h1,hlt,hg,go_sem]
  refine zp (by rw[h2];exact ho.own) ?_ ?_ fun o' H' hs=>?_
  ·simp only[h2,Al2,Al3];omega
  ·simp only[h2,Al2,Al3,maxLen];omega
  rw[h2] at hs
  simp(disch:=omega) only[wrap64,go_sem]
  refine goJ (hJ (o',done++[.mk s v]) H' ⟨rfl,(ho.stepS hs).cast (by simp)⟩) (by simp(disch:=omega) only[zbE,List.map_append,List.map_cons,zA,zfb,AV.strip1,go_sem])
theorem copyV:∀ v,bV v≤Lim→zg Tryz.prog 41 [.agg (cV v)] (.agg (cV v)):=by
 refine Val.ind fun k n s l m ihl ihm hb=>?_
 have hb':1+s.length+bVs l+bMs m≤Lim:=hb
 have hll:=zaB l
 have hml:=y5 m
 have il:∀ x∈l,zg Tryz.prog 41 [.agg (cV x)] (.agg (cV x)):=fun x hx=>by
  obtain⟨a,b,hd⟩:=List.append_of_mem hx
  have:=ze7 a x b
  rw[← hd] at this
  exact ihl x hx (by omega)
 have im:∀ s v,Mem.mk s v∈m→zg Tryz.prog 41 [.agg (cV v)] (.agg (cV v)):=fun t v hx=>by
  obtain⟨a,b,hd⟩:=List.append_of_mem hx
  have:=za5 a (.mk t v) b
  rw[← hd] at this
  simp only[bM] at this
  exact ihm t v hx (by omega)
 refine zg.go ir41 ck41 (Al4 _) fun KP Q hQ=>?_
 have h1:=YF l
 simp(disch:=omega) only[ir41,ye,go_sem]
 refine zc fun b hb=>?_
 simp(disch:=omega) only[go_sem]
 refine zc fun b2 hb2=>?_
 have hne:=yF hb2
 have hb0:=zrp hb2
 simp(disch:=omega) only[go_sem]
 simp only[Lim] at hb'
 refine zf l 4 (fun x:Own×List Val=>[(3,.sl x.1 5 (cVs x.2))]) (fun done rest x H=>x.2=done∧OwnF ((zb.emp.upd b (.cells [.int .i64 k,.int .i64 n,.str s,.sl .no 5 (cVs l),.sl .no 6 (cMs m)])).upd b2 (.cells [.int .i64 0,.int .i64 0,.str [],.sl .nil 5 [],.sl .nil 6 []])) H x.1 done.length 5) (.nil,[]) (by simp(disch:=omega) only[cVs,go_sem]) ⟨rfl,OwnF.nil _ _⟩ ?_ ?_
 ·rintro⟨o,done⟩ H J ⟨rfl,ho⟩ hlt
  have e1:H b=some (.cells [.int .i64 k,.int .i64 n,.str s,.sl .no 5 (cVs done),.sl .no 6 (cMs m)]):=ho.sub b _ (by simp[zb.upd,Ne.symm hne])
  have e2:H b2=some (.cells [.int .i64 0,.int .i64 0,.str [],.sl .nil 5 [],.sl .nil 6 []]):=ho.sub b2 _ (by simp[zb.upd])
  simp(disch:=omega) only[h1,hlt,e1,go_sem]
  refine za (zrf m (by simp only[Lim];omega) im) ?_
  simp(disch:=omega) only[e1,e2,hne,Ne.symm hne,go_sem]
  refine hQ _ _ _ [.agg [.int .i64 k,.int .i64 n,.str s,.sl o 5 (cVs done),.sl .no 6 (cMs m)]] nofun (by simp(disch:=omega) only[ir41,zG,Zk,hne,Ne.symm hne,go_sem]) ?_
  simp[zd,AV.strip,AV.strip1,ye]
 ·rintro done x rest ⟨o,ds⟩ H J hd hlt hlt' ⟨hds,ho⟩ hJ
  simp only at hds ho hJ ⊢
  obtain rfl:done=ds:=hds.symm
  have hg:=zaC hd
  have hmem:x∈l:=by rw[hd];simp
  have h2:=YF done
  have e1:H b=some (.cells [.int .i64 k,.int .i64 n,.str s,.sl .no 5 (cVs l),.sl .no 6 (cMs m)]):=ho.sub b _ (by simp[zb.upd,Ne.symm hne])
  simp(disch:=omega) only[zx,zm,zj,zv,zn,zk,zA,h1,hlt,hg,e1,go_sem]
  refine za (il x hmem) ?_
  simp(disch:=omega) only[zx,zm,zj,zv,zn,zk,zA,h1,hlt,hg,go_sem]
  refine zp (by rw[h2];exact ho.own) ?_ ?_ fun o' H' hs=>?_
  ·simp only[h2,Al2,Al3];omega
  ·simp only[h2,Al2,Al3,maxLen];omega
  rw[h2] at hs
  simp(disch:=omega) only[wrap64,go_sem]
  refine goJ (hJ (o',done++[x]) H' ⟨rfl,(ho.stepS hs).cast (by simp)⟩) (by simp(disch:=omega) only[zeT,List.map_append,List.map_cons,zfb,AV.strip1,go_sem])
abbrev zxi (H:zb) (o:Own) (sz:Nat) (xs:List (List AV)):AV→zb→Prop:=fun v H'=>∃ o',v=.sl o' sz xs∧OwnS H o H' o' xs.length sz
abbrev zae (P:Program) (f:FuncId) (args:List AV) (H:zb) (o:Own) (sz:Nat) (xs:List (List AV)):Prop :=
 zi P f args H (fun e H'=>match e with|.ret v=>zxi H o sz xs v H'|.pan _=>False)
theorem zB {P:Program} {KP:AV→zb→Prop} {Q:AExit→Env→zb→Prop} {st:List Fr} {ρ:Env} {H:zb} {all l:List AItem} {d:Option Nat} {R:List Chk} {f:FuncId} {args:List AV} {o:Own} {sz:Nat} {xs:List (List AV)}
  (h:zae P f args H o sz xs) (hk:∀ o' H',OwnS H o H' o' xs.length sz→goR P KP Q all l st R (ρ.set d (.sl o' sz xs)) H'):goK P KP Q all l st d R ρ f args H :=
 yn (XP:=fun _ _=>False) h (fun v H' ⟨o',e,hs⟩=>by subst e;exact hk o' H' hs) (fun _ _ h=>h.elim)
def zL (s:List UInt8):List (List UInt8)→Bool
 | []=>false
 | x::r=>if x=s then true else zL s r
theorem y7 (s:List UInt8):∀ l,zL s l=true↔s∈l
 | []=>by simp[zL]
 | x::r=>by
  have:=y7 s r
  simp only[zL,List.mem_cons]
  split
  ·rename_i h;simp[h]
  ·rename_i h;rw[this];constructor
   ·exact .inr
   ·rintro(e|e)
    ·exact absurd e.symm h
    ·exact e
theorem zxJ (l:List (List UInt8)) (s:List UInt8) (hl:l.length≤Lim):zg Tryz.prog 10 [.sl .no 1 (cT l),.str s] (.bool (zL s l)):=by
 refine zg.go ir10 ck10 (Al4 _) fun KP Q hQ=>?_
 have h1:=zD l
 simp only[Lim] at hl
 simp(disch:=omega) only[ir10,go_sem]
 refine zf l 5 (fun _:Unit=>[]) (fun done rest n H=>zL s rest=zL s l) () (by simp(disch:=omega) only[go_sem]) rfl ?_ ?_
 ·rintro n H J hn hlt
  simp(disch:=omega) only[h1,hlt,go_sem]
  simp only[zL] at hn
  exact hQ _ _ _ _ nofun rfl (by simp[zd,ze,AV.strip,AV.strip1,← hn])
 ·rintro done x rest n H J hd hlt _ hn hJ
  have hg:=Yr hd
  simp only[zL] at hn
  by_cases hx:x=s
  ·simp only[hx,if_true] at hn
   simp(disch:=omega) only[h1,hlt,hg,hx,go_sem]
   exact hQ _ _ _ _ nofun rfl (by simp[zd,ze,AV.strip,AV.strip1,← hn])
  ·simp only[hx,if_false] at hn
   simp(disch:=omega) only[h1,hlt,hg,hx,go_sem]
   exact goJ (hJ () _ hn) (by simp(disch:=omega) only[wrap64,go_sem])
def zjF (s:List UInt8):List (List UInt8)→Int→Int
 | [],_=>-1
 | x::r,i=>if s=x then i else zjF s r (i+1)
theorem zla (s:List UInt8):∀ l (i:Int),0≤i→decide (0≤zjF s l i)=zL s l
 | [],i,_=>by simp[zjF,zL]
 | x::r,i,hi=>by
  simp only[zjF,zL]
  by_cases h:s=x
  ·simp[h];omega
  ·simp only[h,Ne.symm h,if_false];exact zla s r (i+1) (by omega)
theorem zuN (l:List (List UInt8)) (s:List UInt8) (hl:l.length≤Lim):zg Tryz.prog 43 [.sl .no 1 (cT l),.str s] (.int .i64 (zjF s l 0)):=by
 refine zg.go ir43 ck43 (Al4 _) fun KP Q hQ=>?_
 have h1:=zD l
 simp only[Lim] at hl
 simp(disch:=omega) only[ir43,h1,go_sem]
 refine zf l 8 (fun _:Unit=>[]) (fun done rest n H=>zjF s rest done.length=zjF s l 0) () (by simp(disch:=omega) only[go_sem]) rfl ?_ ?_
 ·rintro n H J hn hlt
  simp(disch:=omega) only[h1,hlt,go_sem]
  simp only[zjF] at hn
  exact hQ _ _ _ _ nofun rfl (by simp[zd,ze,AV.strip,AV.strip1,← hn])
 ·rintro done x rest n H J hd hlt _ hn hJ
  have hg:=Yr hd
  simp only[zjF] at hn
  by_cases hx:s=x
  ·subst hx
   simp only[if_true] at hn
   simp(disch:=omega) only[h1,hlt,hg,go_sem]
   exact hQ _ _ _ _ nofun rfl (by simp[zd,ze,AV.strip,AV.strip1,← hn])
  ·simp only[hx,if_false] at hn
   simp(disch:=omega) only[h1,hlt,hg,hx,go_sem]
   exact goJ (hJ () _ (by simpa using hn)) (by simp(disch:=omega) only[wrap64,go_sem])
theorem yE (l:List (List UInt8)) (s:List UInt8) (hl:l.length≤Lim):zg Tryz.prog 24 [.sl .no 1 (cT l),.str s] (.bool (zL s l)):=by
 refine zg.go ir24 ck24 (Al4 _) fun KP Q hQ=>?_
 simp(disch:=omega) only[ir24,go_sem]
 refine za (zuN l s hl) ?_
 simp(disch:=omega) only[go_sem]
 have:=zla s l 0 (by omega)
 exact hQ _ _ _ _ nofun rfl (by simp[zd,ze,AV.strip,AV.strip1,this])
mutual
def ZO:Val→List (List UInt8)→List (List UInt8)
 | .mk k _ s l m,acc=>if k=8 then (if zL s acc then acc else acc++[s]) else if k=6 then zcI l acc else if k=7 then zcE m acc else acc
def zcI:List Val→List (List UInt8)→List (List UInt8)
 | [],acc=>acc
 | v::r,acc=>zcI r (ZO v acc)
def zks:Mem→List (List UInt8)→List (List UInt8)
 | .mk _ v,acc=>ZO v acc
def zcE:List Mem→List (List UInt8)→List (List UInt8)
 | [],acc=>acc
 | x::r,acc=>zcE r (zks x acc)
end
mutual
theorem zb7:∀ v acc,(ZO v acc).length≤acc.length+bV v
 | .mk k n s l m,acc=>by
  have h1:=zjd l acc
  have h2:=zjb m acc
  simp only[ZO,bV]
  split
  ·split
   ·omega
   ·simp;omega
  ·split
   ·omega
   ·split<;>omega
theorem zjd:∀ l acc,(zcI l acc).length≤acc.length+bVs l
 | [],acc=>by simp[zcI]
 | v::r,acc=>by
  have h1:=zb7 v acc
  have h2:=zjd r (ZO v acc)
  simp only[zcI,bVs];omega
theorem zkx:∀ x acc,(zks x acc).length≤acc.length+bM x
 | .mk s v,acc=>by have:=zb7 v acc;simp only[zks,bM];omega
theorem zjb:∀ l acc,(zcE l acc).length≤acc.length+bMs l
 | [],acc=>by simp[zcE]
 | x::r,acc=>by
  have h1:=zkx x acc
  have h2:=zjb r (zks x acc)
  simp only[zcE,bMs];omega
end
theorem zwF:∀ v,∀ acc H o,acc.length+bV v≤Lim→zK H o acc.length 1→zae Tryz.prog 239 [.sl o 1 (cT acc),.agg (cV v)] H o 1 (cT (ZO v acc)):=by
 refine Val.ind fun k n s l m ihl ihm acc H o hb ho=>?_
 have hb':acc.length+(1+s.length+bVs l+bMs m)≤Lim:=hb
 have hll:=zaB l
 have hml:=y5 m
 have h1:=YF l
 have h2:=yS m
 have h3:=zD acc
 simp only[Lim] at hb'
 refine zi.goO ir239 ck239 (Al4 _) fun KP Q hQ hP=>?_
 by_cases k8:k=8
 ·subst k8
  simp(disch:=omega) only[ir239,ye,go_sem]
  refine za (zg.low (yE acc s (by simp only[Lim];omega))) ?_
  cases hh:zL s acc with
  | true =>
   simp(disch:=omega) only[hh,go_sem]
   refine hQ _ _ H H _ nofun rfl (Low.refl _) ⟨o,?_,?_⟩
   ·simp[zd,ze,ZO,hh]
   ·simpa[ZO,hh,h3] using OwnS.refl ho
  | false =>
   simp(disch:=omega) only[hh,go_sem]
   refine zp (by rw[h3];exact ho) ?_ ?_ fun o' H' hs=>?_
   ·simp only[h3,Al2,Al3];omega
   ·simp only[h3,Al2,Al3,maxLen];omega
   simp(disch:=omega) only[go_sem]
   refine hQ _ _ H' H' _ nofun rfl (Low.refl _) ⟨o',?_,?_⟩
   ·simp[zd,ze,ZO,hh,cT,AV.strip1]
   ·simpa[ZO,hh,h3,zD] using hs
 by_cases k6:k=6
 ·subst k6
  simp(disch:=omega) only[ir239,ye,h1,go_sem]
  refine zf l 28 (fun x:Own×List (List UInt8)=>[(0,.sl x.1 1 (cT x.2))]) (fun done rest x H'=>zcI rest x.2=zcI l acc∧x.2.length+bVs rest≤acc.length+bVs l∧OwnS H o H' x.1 x.2.length 1) (o,acc) (by simp(disch:=omega) only[go_sem]) ⟨rfl,by simp,OwnS.refl ho⟩ ?_ ?_
  ·rintro⟨o1,a⟩ H' J ⟨hn,_,hs⟩ hlt
   simp only[zcI] at hn
   subst hn
   simp(disch:=omega) only[h1,hlt,go_sem]
   refine hQ _ _ H' H' _ nofun rfl (Low.refl _) ⟨o1,?_,?_⟩
   ·simp[zd,ze,ZO]
   ·simpa[ZO,zD] using hs
  ·rintro done x rest ⟨o1,a⟩ H' J hd hlt _ ⟨hn,hle,hs⟩ hJ
   have hg:=zaC hd
   have hx:=zb7 x a
   simp only[zcI,bVs] at hn hle
   simp(disch:=omega) only[zx,zm,zj,zv,zn,zk,zA,h1,hlt,hg,go_sem]
   refine zc fun b hb=>?_
   simp(disch:=omega) only[zx,zm,zj,zv,zn,zk,zA,go_sem]
   refine zB (ihl x (by rw[hd];simp) a _ o1 (by simp only[Lim];omega) (hs.own.upd hb)) fun o2 H2 hs2=>?_
   rw[zD] at hs2
   simp(disch:=omega) only[wrap64,go_sem]
   exact goJ (hJ (o2,ZO x a) H2 ⟨hn,by simp only;omega,(hs.upd hb).trans hs2⟩) (by simp(disch:=omega) only[go_sem])
 by_cases k7:k=7
 ·subst k7
  simp(disch:=omega) only[ir239,ye,h2,go_sem]
  refine zf m 41 (fun x:Own×List (List UInt8)=>[(0,.sl x.1 1 (cT x.2))]) (fun done rest x H'=>zcE rest x.2=zcE m acc∧x.2.length+bMs rest≤acc.length+bMs m∧OwnS H o H' x.1 x.2.length 1) (o,acc) (by simp(disch:=omega) only[go_sem]) ⟨rfl,by simp,OwnS.refl ho⟩ ?_ ?_
  ·rintro⟨o1,a⟩ H' J ⟨hn,_,hs⟩ hlt
   simp only[zcE] at hn
   subst hn
   simp(disch:=omega) only[h2,hlt,go_sem]
   refine hQ _ _ H' H' _ nofun rfl (Low.refl _) ⟨o1,?_,?_⟩
   ·simp[zd,ze,ZO]
   ·simpa[ZO,zD] using hs
  ·rintro done x rest ⟨o1,a⟩ H' J hd hlt _ ⟨hn,hle,hs⟩ hJ
   have hg:=Zy hd
   have hx:=zkx x a
   simp only[zcE,bMs] at hn hle
   have hmem:x∈m:=by rw[hd];simp
   obtain⟨t,v⟩:=x
   simp only[zks,bM] at hx hn hle
   simp(disch:=omega) only[zx,zm,zj,zv,zn,zk,zA,h2,hlt,hg,go_sem]
   refine zc fun b hb=>?_
   simp(disch:=omega) only[zx,zm,zj,zv,zn,zk,zA,go_sem]
   refine zB (ihm t v hmem a _ o1 (by simp only[Lim];omega) (hs.own.upd hb)) fun o2 H2 hs2=>?_
   rw[zD] at hs2
   simp(disch:=omega) only[wrap64,go_sem]
   exact goJ (hJ (o2,ZO v a) H2 ⟨hn,by simp only;omega,(hs.upd hb).trans hs2⟩) (by simp(disch:=omega) only[go_sem])
 ·simp(disch:=omega) only[ir239,ye,k8,k6,k7,go_sem]
  refine hQ _ _ H H _ nofun rfl (Low.refl _) ⟨o,?_,?_⟩
  ·simp[zd,ze,ZO,k8,k6,k7]
  ·simpa[ZO,k8,k6,k7,zD] using OwnS.refl ho
theorem zqc (v:Val) (h:bV v≤Lim):zg Tryz.prog 219 [.agg (cV v)] (.sl .no 1 (cT (ZO v []))):=by
 refine zg.go ir219 ck219 (Al4 _) fun KP Q hQ=>?_
 simp(disch:=omega) only[zx,zm,zj,zv,zn,zk,zA,ir219,go_sem]
 refine zB (zwF v [] _ .nil (by simpa using h) rfl) fun o' H' hs=>?_
 simp(disch:=omega) only[go_sem]
 exact hQ _ _ _ _ nofun rfl (by simp[zd,ze,AV.strip,AV.strip1])
def isD (c:UInt8):Bool:=decide (48≤c.toNat)&&decide (c.toNat≤57)
def isL (c:UInt8):Bool:=(decide (97≤c.toNat)&&decide (c.toNat≤122))||((decide (65≤c.toNat)&&decide (c.toNat≤90))||decide (c.toNat=95))
theorem zqC (c:UInt8):zg Tryz.prog 213 [.int .u8 (c.toNat:Int)] (.bool (isD c)):=by
 refine zg.go ir213 ck213 (Al4 _) fun KP Q hQ=>?_
 by_cases h:(48:Int)≤c.toNat
 ·simp(disch:=omega) only[ir213,h,go_sem]
  have h':48≤c.toNat:=by omega
  have e:decide ((c.toNat:Int)≤57)=decide (c.toNat≤57):=by rw[decide_eq_decide];omega
  exact hQ _ _ _ _ nofun rfl (by simp[zd,ze,AV.strip,AV.strip1,isD,h',e])
 ·simp(disch:=omega) only[ir213,h,go_sem]
  have h':¬ 48≤c.toNat:=by omega
  exact hQ _ _ _ _ nofun rfl (by simp[zd,ze,AV.strip,AV.strip1,isD,h'])
theorem zsC (c:UInt8):zg Tryz.prog 212 [.int .u8 (c.toNat:Int)] (.bool (isL c)):=by
 refine zg.go ir212 ck212 (Al4 _) fun KP Q hQ=>?_
 have e:decide ((c.toNat:Int)=95)=decide (c.toNat=95):=by rw[decide_eq_decide];omega
 by_cases h:(97:Int)≤c.toNat
 ·have h':97≤c.toNat:=by omega
  by_cases h2:(c.toNat:Int)≤122
  ·have h2':c.toNat≤122:=by omega
   simp(disch:=omega) only[ir212,h,h2,go_sem]
   exact hQ _ _ _ _ nofun rfl (by simp[zd,ze,AV.strip,AV.strip1,isL,h',h2'])
  ·have h2':¬ c.toNat≤122:=by omega
   have h3:(65:Int)≤c.toNat:=by omega
   have h4:¬ (c.toNat:Int)≤90:=by omega
   have h4':¬ c.toNat≤90:=by omega
   simp(disch:=omega) only[ir212,h,h2,h3,h4,go_sem]
   exact hQ _ _ _ _ nofun rfl (by simp[zd,ze,AV.strip,AV.strip1,isL,h',h2',h4',e])
 ·have h':¬ 97≤c.toNat:=by omega
  by_cases h3:(65:Int)≤c.toNat
  ·have h3':65≤c.toNat:=by omega
   by_cases h4:(c.toNat:Int)≤90
   ·have h4':c.toNat≤90:=by omega
    simp(disch:=omega) only[ir212,h,h3,h4,go_sem]
    exact hQ _ _ _ _ nofun rfl (by simp[zd,ze,AV.strip,AV.strip1,isL,h',h3',h4'])
   ·have h4':¬ c.toNat≤90:=by omega
    simp(disch:=omega) only[ir212,h,h3,h4,go_sem]
    exact hQ _ _ _ _ nofun rfl (by simp[zd,ze,AV.strip,AV.strip1,isL,h',h3',h4',e])
  ·have h3':¬ 65≤c.toNat:=by omega
   simp(disch:=omega) only[ir212,h,h3,go_sem]
   exact hQ _ _ _ _ nofun rfl (by simp[zd,ze,AV.strip,AV.strip1,isL,h',h3',e])
def ziE:List UInt8→Nat→Bool
 | [],_=>true
 | c::r,i=>if isL c||(decide (i≠0)&&isD c) then ziE r (i+1) else false
def zN (s:List UInt8):Bool:=ziE s 0&&decide (s≠[])
theorem ztC {s a:List UInt8} {x:UInt8} {b:List UInt8} (h:s=a++x::b):s.getD a.length 0=x:=by subst h;simp
theorem zkO (s:List UInt8) (hs:s.length≤Lim):zg Tryz.prog 171 [.str s] (.bool (zN s)):=by
 refine zg.go ir171 ck171 (Al4 _) fun KP Q hQ=>?_
 simp only[Lim] at hs
 simp(disch:=omega) only[ir171,go_sem]
 refine zf s 6 (fun _:Unit=>[]) (fun done rest n H=>ziE rest done.length=ziE s 0) () (by simp(disch:=omega) only[go_sem]) rfl ?_ ?_
 ·rintro n H J hn hlt
  simp only[ziE] at hn
  simp(disch:=omega) only[hlt,go_sem]
  have e:(!decide (s=[]))=decide (s≠[]):=by simp
  exact hQ _ _ _ _ nofun rfl (by simp[zd,ze,AV.strip,AV.strip1,zN,← hn])
 ·rintro done x rest n H J hd hlt _ hn hJ
  have hg:=ztC hd
  simp only[ziE] at hn
  simp(disch:=omega) only[hlt,hg,go_sem]
  refine za (zsC x) ?_
  cases hl:isL x with
  | true =>
   simp only[hl,Bool.true_or,if_true] at hn
   simp(disch:=omega) only[hl,go_sem]
   exact goJ (hJ () _ (by simpa using hn)) (by simp(disch:=omega) only[wrap64,go_sem])
  | false =>
   by_cases h0:done.length=0
   ·have h0':(done.length:Int)=0:=by omega
    simp only[hl,h0,ne_eq,not_true_eq_false,decide_false,Bool.false_and,Bool.or_false,Al7,if_false] at hn
    simp(disch:=omega) only[hl,h0',go_sem]
    exact hQ _ _ _ _ nofun rfl (by simp[zd,ze,AV.strip,AV.strip1,zN,← hn])
   ·have h0':¬ (done.length:Int)=0:=by omega
    simp(disch:=omega) only[hl,h0',hlt,hg,go_sem]
    refine za (zqC x) ?_
    cases hdg:isD x with
    | true =>
     simp only[hl,hdg,h0,ne_eq,not_false_eq_true,decide_true,Bool.and_self,Bool.or_true,if_true] at hn
     simp(disch:=omega) only[hdg,go_sem]
     exact goJ (hJ () _ (by simpa using hn)) (by simp(disch:=omega) only[wrap64,go_sem])
    | false =>
     simp only[hl,hdg,Bool.and_false,Bool.or_false,Al7,if_false] at hn
     simp(disch:=omega) only[hdg,go_sem]
     exact hQ _ _ _ _ nofun rfl (by simp[zd,ze,AV.strip,AV.strip1,zN,← hn])
def Ze:List UInt8→Nat
 | []=>0
 | c::r=>if isD c then Ze r+1 else 0
theorem zbz:∀ l,Ze l≤l.length
 | []=>Al4 _
 | c::r=>by have:=zbz r;simp only[Ze,Al2];split<;>omega
theorem zl2 (s:List UInt8) (k:Nat):(s.drop k=[]∧s.length≤k)∨(k<s.length∧s.drop k=s.getD k 0::s.drop (k+1)):=by
 rcases Nat.lt_or_ge k s.length with h|h
 ·right
  refine⟨h,?_⟩
  rw[List.drop_eq_getElem_cons h]
  simp[h]
 ·left;exact⟨List.drop_of_length_le h,h⟩
theorem zag (s:List UInt8) (hs:s.length≤Lim):zg Tryz.prog 274 [.str s] (.int .i64 (Ze s)):=by
 refine zg.go ir274 ck274 (Al4 _) fun KP Q hQ=>?_
 simp only[Lim] at hs
 have hr1:=zbz s
 simp(disch:=omega) only[ir274,go_sem]
 refine zcZ (fun n:Nat=>[(3,.int .i64 n)]) (fun n H=>Ze s=n+Ze (s.drop n)∧n≤s.length) (fun n=>s.length-n) 0 (by simp(disch:=omega) only[go_sem]) ⟨by simp,by omega⟩ ?_
 rintro n H J ⟨hn,hle⟩ hJ
 rcases zl2 s n with ⟨h1,h2⟩|⟨h1,h2⟩
 ·have hlt:¬ ((n:Int)<s.length):=by omega
  rw[h1] at hn
  simp only[Ze,Nat.add_zero] at hn
  simp(disch:=omega) only[hlt,go_sem]
  exact hQ _ _ _ _ nofun rfl (by simp[zd,ze,AV.strip,AV.strip1,hn])
 ·have hlt:((n:Int)<s.length):=by omega
  rw[h2] at hn
  simp only[Ze] at hn
  simp(disch:=omega) only[hlt,go_sem]
  refine za (zqC (s.getD n 0)) ?_
  cases hd:isD (s.getD n 0) with
  | true =>
   simp only[hd,if_true] at hn
   simp(disch:=omega) only[hd,go_sem]
   exact goJ (hJ (n+1) _ (by omega) ⟨by omega,by omega⟩) (by simp(disch:=omega) only[wrap64,Int.natCast_add,Int.natCast_one,go_sem])
  | false =>
   simp only[hd,Al7,if_false,Nat.add_zero] at hn
   simp(disch:=omega) only[hd,go_sem]
   exact hQ _ _ _ _ nofun rfl (by simp[zd,ze,AV.strip,AV.strip1,hn])
theorem zng (c:UInt8) (s:List UInt8):[c].isPrefixOf s=decide (s.head?=some c):=by
 cases s with
 | nil=>rfl
 | cons d r =>
  by_cases h:d=c
  ·subst h;simp[List.isPrefixOf]
  ·have h':¬ c=d:=fun e=>h e.symm
   simp[List.isPrefixOf,h,h']
def zfx (s:List UInt8):Nat:=if Ze s=0 then 0 else if s.getD 0 0=48 then 1 else Ze s
def ZE (s:List UInt8):Nat:=if s.head?=some 45 then (if Ze s.tail=0 then 0 else 1+zfx s.tail) else zfx s
theorem zn3 (s:List UInt8):zfx s≤s.length:=by have:=zbz s;unfold zfx;split<;>(try split)<;>omega
theorem zoG (s:List UInt8):ZE s≤s.length:=by
 have h1:=zn3 s
 have h2:=zn3 s.tail
 unfold ZE
 split
 ·rename_i h
  cases s with
  | nil=>simp at h
  | cons c r =>
   simp only[List.tail_cons,Al2] at h2 ⊢
   by_cases h0:Ze r=0<;>simp only[h0,if_true,if_false]<;>omega
 ·exact h1
theorem zi8 (a:UInt8) (n:Nat) (hn:n<256):decide ((a.toNat:Int)=n)=decide (a=UInt8.ofNat n):=by
 rw[decide_eq_decide]
 have:(UInt8.ofNat n).toNat=n:=by simp[UInt8.toNat_ofNat'];omega
 constructor
 ·intro h;apply UInt8.toNat_inj.1;rw[this];omega
 ·intro h;subst h;rw[this]
theorem zv0 (s:List UInt8) (hs:s.length≤Lim):zg Tryz.prog 273 [.str s] (.int .i64 (ZE s)):=by
 refine zg.go ir273 ck273 (Al4 _) fun KP Q hQ=>?_
 simp only[Lim] at hs
 simp(disch:=omega) only[ir273,go_sem]
 refine za (zjD s [45]) ?_
 rw[zng]
 by_cases h:s.head?=some 45
 ·cases s with
  | nil=>simp at h
  | cons c r =>
   have hc:c=45:=by simpa using h
   subst hc
   simp only[Al2] at hs
   have h1:(1:Int)≤((r.length+1:Nat):Int):=by omega
   have h2:(1:Int)<((r.length+1:Nat):Int)∨r=[]:=by cases r<;>simp;omega
   simp(disch:=omega) only[h,h1,Int.toNat_one,go_sem]
   refine za (zag r (by simp only[Lim];omega)) ?_
   by_cases h0:Ze r=0
   ·simp(disch:=omega) only[h0,go_sem]
    exact hQ _ _ _ _ nofun rfl (by simp[zd,ze,AV.strip,AV.strip1,ZE,h0])
   ·have h0':¬ ((Ze r:Int)=0):=by omega
    have hrl:=zbz r
    have hlt:(1:Int)<((r.length+1:Nat):Int):=by omega
    have e:=zi8 (r.getD 0 0) 48 (by omega)
    by_cases h48:r.getD 0 0=48
    ·have hi:zfx r=1:=by simp only[zfx,h0,h48,if_false,if_true]
     simp(disch:=omega) only[h0',hlt,Int.toNat_one,h48,UInt8.reduceToNat,wrap64,go_sem]
     exact hQ _ _ _ _ nofun rfl (by simp[zd,ze,AV.strip,AV.strip1,ZE,h0,hi])
    ·have h48':¬ ((r.getD 0 0).toNat:Int)=48:=by
      intro hh
      rw[decide_eq_true (by exact hh)] at e
      exact h48 (by simpa using e.symm)
     have hi:zfx r=Ze r:=by simp only[zfx,h0,h48,if_false]
     simp(disch:=omega) only[h0',hlt,Int.toNat_one,h48',wrap64,go_sem]
     exact hQ _ _ _ _ nofun rfl (by simp[zd,ze,AV.strip,AV.strip1,ZE,h0,hi])
 ·simp(disch:=omega) only[h,go_sem]
  refine za (zag s (by simp only[Lim];omega)) ?_
  by_cases h0:Ze s=0
  ·simp(disch:=omega) only[h0,go_sem]
   exact hQ _ _ _ _ nofun rfl (by simp[zd,ze,AV.strip,AV.strip1,ZE,h,zfx,h0])
  ·have h0':¬ ((Ze s:Int)=0):=by omega
   have hrl:=zbz s
   have hlt:(0:Int)<(s.length:Int):=by omega
   have e:=zi8 (s.getD 0 0) 48 (by omega)
   by_cases h48:s.getD 0 0=48
   ·have hi:zfx s=1:=by simp only[zfx,h0,h48,if_false,if_true]
    simp(disch:=omega) only[h0',hlt,h48,UInt8.reduceToNat,wrap64,go_sem]
    exact hQ _ _ _ _ nofun rfl (by simp[zd,ze,AV.strip,AV.strip1,ZE,h,hi])
   ·have h48':¬ ((s.getD 0 0).toNat:Int)=48:=by
     intro hh
     rw[decide_eq_true (by exact hh)] at e
     exact h48 (by simpa using e.symm)
    have hi:zfx s=Ze s:=by simp only[zfx,h0,h48,if_false]
    simp(disch:=omega) only[h0',hlt,h48',wrap64,go_sem]
    exact hQ _ _ _ _ nofun rfl (by simp[zd,ze,AV.strip,AV.strip1,ZE,h,hi])
def isE (c:UInt8):Bool:=decide (c=101)||decide (c=69)
def sgN (r:List UInt8):Nat:=if r.head?=some 43∨r.head?=some 45 then 1 else 0
def zeU:List UInt8→Nat
 | []=>0
 | c::r=>if isE c then (if Ze (r.drop (sgN r))=0 then 0 else 1+sgN r+Ze (r.drop (sgN r))) else 0
theorem zpK (r:List UInt8):sgN r≤r.length:=by
 unfold sgN
 split
 ·cases r<;>simp_all
 ·omega
theorem znF:∀ s,zeU s≤s.length
 | []=>by simp[zeU]
 | c::r=>by
  have h:=zbz (r.drop (sgN r))
  have h2:=zpK r
  rw[zgo] at h
  simp only[zeU,Al2]
  split
  ·split<;>omega
  ·omega
theorem zmq (s:List UInt8) (hs:s.length≤Lim):zg Tryz.prog 275 [.str s] (.int .i64 (zeU s)):=by
 refine zg.go ir275 ck275 (Al4 _) fun KP Q hQ=>?_
 simp only[Lim] at hs
 cases s with
 | nil =>
  simp(disch:=omega) only[ir275,go_sem]
  exact hQ _ _ _ _ nofun rfl (by simp[zd,ze,AV.strip,AV.strip1,zeU])
 | cons c r =>
  simp only[Al2] at hs
  have hne:¬ (c::r=[]):=by simp
  have hp:(0:Int)<((r.length+1:Nat):Int):=by omega
  have e1:=zi8 c 101 (by omega)
  have e2:=zi8 c 69 (by omega)
  have hE:∀(P:Prop),P→P:=fun _ h=>h
  by_cases hc:isE c=true
  case neg =>
   have hc1:¬ (c.toNat:Int)=101:=by
    intro hh;rw[decide_eq_true (by exact hh)] at e1
    exact hc (by simp[isE,(by simpa using e1.symm:c=101)])
   have hc2:¬ (c.toNat:Int)=69:=by
    intro hh;rw[decide_eq_true (by exact hh)] at e2
    exact hc (by simp[isE,(by simpa using e2.symm:c=69)])
   simp(disch:=omega) only[ir275,hne,hp,hc1,hc2,go_sem]
   have hcf:isE c=false:=by simpa using hc
   exact hQ _ _ _ _ nofun rfl (by simp[zd,ze,AV.strip,AV.strip1,zeU,hcf])
  have fin:∀ k:Nat,Ze (r.drop (sgN r))=k→zeU (c::r)=if k=0 then 0 else 1+sgN r+k:=fun k hk=>by subst hk;simp only[zeU,hc,if_true]
  have hcase:(c.toNat:Int)=101∨(¬ (c.toNat:Int)=101∧(c.toNat:Int)=69):=by
   simp only[isE,zc6,yH] at hc
   rcases hc with rfl|rfl
   ·exact .inl rfl
   ·exact .inr ⟨by decide,rfl⟩
  have hdl:=zbz (r.drop (sgN r))
  rw[zgo] at hdl
  have hsl:=zpK r
  cases r with
  | nil =>
   have k0:=fin 0 (by simp[sgN,Ze])
   rcases hcase with h1|⟨h1,h2⟩
   ·simp(disch:=omega) only[ir275,h1,go_sem]
    refine za (zag [] (by simp)) ?_
    simp(disch:=omega) only[Ze,go_sem]
    exact hQ _ _ _ _ nofun rfl (by simp[zd,ze,AV.strip,AV.strip1,k0])
   ·simp(disch:=omega) only[ir275,h1,h2,go_sem]
    refine za (zag [] (by simp)) ?_
    simp(disch:=omega) only[Ze,go_sem]
    exact hQ _ _ _ _ nofun rfl (by simp[zd,ze,AV.strip,AV.strip1,k0])
  | cons d t =>
   simp only[Al2] at hs
   have hl1:(1:Int)<((t.length+1+1:Nat):Int):=by omega
   have hl2:(2:Int)≤((t.length+1+1:Nat):Int):=by omega
   have hl3:(1:Int)≤((t.length+1+1:Nat):Int):=by omega
   have f1:=zi8 d 43 (by omega)
   have f2:=zi8 d 45 (by omega)
   by_cases hsg:d=43∨d=45
   ·have hsg1:sgN (d::t)=1:=by simp only[sgN,List.head?_cons,Al1,hsg,if_true]
    have k0:=fin (Ze t) (by rw[hsg1];rfl)
    rw[hsg1] at k0 hdl
    have hd:(d.toNat:Int)=43∨(¬ (d.toNat:Int)=43∧(d.toNat:Int)=45):=by
     rcases hsg with rfl|rfl
     ·exact .inl rfl
     ·exact .inr ⟨by decide,rfl⟩
    rcases hcase with h1|⟨h1,h2⟩<;>rcases hd with h3|⟨h3,h4⟩
    all_goals
     simp only[hl1,hl2,Al2,List.drop_succ_cons,List.drop_zero] at hdl
    ·simp(disch:=omega) only[ir275,h1,h3,hl1,hl2,Int.toNat_one,go_sem]
     refine za (zag t (by simp only[Lim];omega)) ?_
     by_cases hz:Ze t=0
     ·simp(disch:=omega) only[hz,go_sem]
      exact hQ _ _ _ _ nofun rfl (by simp[zd,ze,AV.strip,AV.strip1,k0,hz])
     ·have hz':¬ (Ze t:Int)=0:=by omega
      simp(disch:=omega) only[hz',wrap64,go_sem]
      exact hQ _ _ _ _ nofun rfl (by simp[zd,ze,AV.strip,AV.strip1,k0,hz])
    ·simp(disch:=omega) only[ir275,h1,h3,h4,hl1,hl2,Int.toNat_one,go_sem]
     refine za (zag t (by simp only[Lim];omega)) ?_
     by_cases hz:Ze t=0
     ·simp(disch:=omega) only[hz,go_sem]
      exact hQ _ _ _ _ nofun rfl (by simp[zd,ze,AV.strip,AV.strip1,k0,hz])
     ·have hz':¬ (Ze t:Int)=0:=by omega
      simp(disch:=omega) only[hz',wrap64,go_sem]
      exact hQ _ _ _ _ nofun rfl (by simp[zd,ze,AV.strip,AV.strip1,k0,hz])
    ·simp(disch:=omega) only[ir275,h1,h2,h3,hl1,hl2,Int.toNat_one,go_sem]
     refine za (zag t (by simp only[Lim];omega)) ?_
     by_cases hz:Ze t=0
     ·simp(disch:=omega) only[hz,go_sem]
      exact hQ _ _ _ _ nofun rfl (by simp[zd,ze,AV.strip,AV.strip1,k0,hz])
     ·have hz':¬ (Ze t:Int)=0:=by omega
      simp(disch:=omega) only[hz',wrap64,go_sem]
      exact hQ _ _ _ _ nofun rfl (by simp[zd,ze,AV.strip,AV.strip1,k0,hz])
    ·simp(disch:=omega) only[ir275,h1,h2,h3,h4,hl1,hl2,Int.toNat_one,go_sem]
     refine za (zag t (by simp only[Lim];omega)) ?_
     by_cases hz:Ze t=0
     ·simp(disch:=omega) only[hz,go_sem]
      exact hQ _ _ _ _ nofun rfl (by simp[zd,ze,AV.strip,AV.strip1,k0,hz])
     ·have hz':¬ (Ze t:Int)=0:=by omega
      simp(disch:=omega) only[hz',wrap64,go_sem]
      exact hQ _ _ _ _ nofun rfl (by simp[zd,ze,AV.strip,AV.strip1,k0,hz])
   ·have hsg0:sgN (d::t)=0:=by simp only[sgN,List.head?_cons,Al1,hsg,if_false]
    have k0:=fin (Ze (d::t)) (by rw[hsg0];rfl)
    rw[hsg0] at k0 hdl
    have h3:¬ (d.toNat:Int)=43:=by
     intro hh;rw[decide_eq_true (by exact hh)] at f1
     exact hsg (.inl (by simpa using f1.symm))
    have h4:¬ (d.toNat:Int)=45:=by
     intro hh;rw[decide_eq_true (by exact hh)] at f2
     exact hsg (.inr (by simpa using f2.symm))
    simp only[List.drop_zero,Al2] at hdl
    rcases hcase with h1|⟨h1,h2⟩
    ·simp(disch:=omega) only[ir275,h1,h3,h4,hl1,hl3,Int.toNat_one,go_sem]
     refine za (zag (d::t) (by simp only[Lim,Al2];omega)) ?_
     by_cases hz:Ze (d::t)=0
     ·simp(disch:=omega) only[hz,go_sem]
      exact hQ _ _ _ _ nofun rfl (by simp[zd,ze,AV.strip,AV.strip1,k0,hz])
     ·have hz':¬ (Ze (d::t):Int)=0:=by omega
      simp(disch:=omega) only[hz',wrap64,go_sem]
      exact hQ _ _ _ _ nofun rfl (by simp[zd,ze,AV.strip,AV.strip1,k0,hz])
    ·simp(disch:=omega) only[ir275,h1,h2,h3,h4,hl1,hl3,Int.toNat_one,go_sem]
     refine za (zag (d::t) (by simp only[Lim,Al2];omega)) ?_
     by_cases hz:Ze (d::t)=0
     ·simp(disch:=omega) only[hz,go_sem]
      exact hQ _ _ _ _ nofun rfl (by simp[zd,ze,AV.strip,AV.strip1,k0,hz])
     ·have hz':¬ (Ze (d::t):Int)=0:=by omega
      simp(disch:=omega) only[hz',wrap64,go_sem]
      exact hQ _ _ _ _ nofun rfl (by simp[zd,ze,AV.strip,AV.strip1,k0,hz])
def zdq (r:List UInt8):Nat:=if r.head?=some 46∧0<Ze r.tail then 1+Ze r.tail else 0
def zic (s:List UInt8):Nat×Int :=
 if ZE s=0 then (0,0) else
  (ZE s+zdq (s.drop (ZE s))+zeU (s.drop (ZE s+zdq (s.drop (ZE s)))),if zdq (s.drop (ZE s))=0∧zeU (s.drop (ZE s+zdq (s.drop (ZE s))))=0 then 3 else 4)
theorem zsD (s:List UInt8) (hs:s.length≤Lim):zg Tryz.prog 264 [.str s] (.tup [.int .i64 (zic s).1,.int .i64 (zic s).2]):=by
 refine zg.go ir264 ck264 (Al4 _) fun KP Q hQ=>?_
 have hs':=hs
 simp only[Lim] at hs
 simp(disch:=omega) only[ir264,go_sem]
 refine za (zv0 s hs') ?_
 have hw:=zoG s
 by_cases h0:ZE s=0
 ·simp(disch:=omega) only[h0,go_sem]
  exact hQ _ _ _ _ nofun rfl (by simp[zd,ze,AV.strip,AV.strip1,zic,h0])
 have h0':¬ ((ZE s:Int)=0):=by omega
 have hwl:(ZE s:Int)≤s.length:=by omega
 simp(disch:=omega) only[h0',hwl,go_sem]
 refine za (zjD (s.drop (ZE s)) [46]) ?_
 rw[zng]
 generalize hn:ZE s=n at *
 have fin:∀ f p:Nat,zdq (s.drop n)=f→zeU (s.drop (n+f))=p→zic s=(n+f+p,if f=0∧p=0 then 3 else 4):=fun f p hf hp=>by
  unfold zic
  rw[hn,hf,hp]
  simp only[h0,if_false]
 have hpl:=znF (s.drop n)
 rw[zgo] at hpl
 by_cases h46:(s.drop n).head?=some 46
 ·obtain⟨c,t,hct⟩:∃ c t,s.drop n=c::t:=by
   cases hx:s.drop n with
   | nil=>rw[hx] at h46;simp at h46
   | cons c t=>exact⟨c,t,rfl⟩
  have hlen:s.length=n+1+t.length:=by have:=congrArg List.length hct;simp at this;omega
  have hdr:s.drop (n+1)=t:=by rw[← List.drop_drop,hct];rfl
  have hto:((n:Int)+1).toNat=n+1:=by omega
  have hn1:(0:Int)≤(n:Int)+1:=by omega
  have hn2:(n:Int)+1≤s.length:=by omega
  have hrl:=zbz t
  simp(disch:=omega) only[h46,wrap64,hto,hn1,hn2,hdr,go_sem]
  refine za (zag t (by simp only[Lim];omega)) ?_
  by_cases hk:(0:Int)<Ze t
  ·have hk':0<Ze t:=by omega
   have hfr:zdq (s.drop n)=1+Ze t:=by unfold zdq;rw[if_pos ⟨h46,by rw[hct];exact hk'⟩,hct];rfl
   have hto2:((n:Int)+1+Ze t).toNat=n+(1+Ze t):=by omega
   have hn3:(0:Int)≤(n:Int)+1+Ze t:=by omega
   have hn4:(n:Int)+1+Ze t≤s.length:=by omega
   have hpl2:=znF (s.drop (n+(1+Ze t)))
   rw[zgo] at hpl2
   simp(disch:=omega) only[hk,wrap64,hto2,hn3,hn4,go_sem]
   refine za (zmq (s.drop (n+(1+Ze t))) (by rw[zgo];simp only[Lim];omega)) ?_
   have hf:=fin _ _ hfr rfl
   generalize hp:zeU (s.drop (n+(1+Ze t)))=p at *
   by_cases hp0:(0:Int)<p
   ·simp(disch:=omega) only[hp0,wrap64,go_sem]
    exact hQ _ _ _ _ nofun rfl (by simp[zd,ze,AV.strip,AV.strip1,hf,Int.add_assoc])
   ·have hp00:p=0:=by omega
    subst hp00
    simp(disch:=omega) only[go_sem]
    exact hQ _ _ _ _ nofun rfl (by simp[zd,ze,AV.strip,AV.strip1,hf,Int.add_assoc])
  ·have hk0:Ze t=0:=by omega
   have hfr:zdq (s.drop n)=0:=by unfold zdq;exact if_neg fun hh=>by have:=hh.2;rw[hct] at this;simp only[List.tail_cons] at this;omega
   simp(disch:=omega) only[hk,hwl,go_sem]
   refine za (zmq (s.drop n) (by rw[zgo];simp only[Lim];omega)) ?_
   have hf:=fin _ _ hfr rfl
   rw[Nat.add_zero] at hf
   generalize hp:zeU (s.drop n)=p at *
   by_cases hp0:(0:Int)<p
   ·have hp1:¬ p=0:=by omega
    simp(disch:=omega) only[hp0,wrap64,go_sem]
    exact hQ _ _ _ _ nofun rfl (by simp[zd,ze,AV.strip,AV.strip1,hf,hp1])
   ·have hp00:p=0:=by omega
    subst hp00
    simp(disch:=omega) only[go_sem]
    exact hQ _ _ _ _ nofun rfl (by simp[zd,ze,AV.strip,AV.strip1,hf])
 ·have hfr:zdq (s.drop n)=0:=by unfold zdq;exact if_neg fun hh=>h46 hh.1
  simp(disch:=omega) only[h46,hwl,go_sem]
  refine za (zmq (s.drop n) (by rw[zgo];simp only[Lim];omega)) ?_
  have hf:=fin _ _ hfr rfl
  rw[Nat.add_zero] at hf
  generalize hp:zeU (s.drop n)=p at *
  by_cases hp0:(0:Int)<p
  ·have hp1:¬ p=0:=by omega
   simp(disch:=omega) only[hp0,wrap64,go_sem]
   exact hQ _ _ _ _ nofun rfl (by simp[zd,ze,AV.strip,AV.strip1,hf,hp1])
  ·have hp00:p=0:=by omega
   subst hp00
   simp(disch:=omega) only[go_sem]
   exact hQ _ _ _ _ nofun rfl (by simp[zd,ze,AV.strip,AV.strip1,hf])
def zii (s:List UInt8):Int:=if (zic s).1=s.length then (zic s).2 else 0
theorem zj2 (s:List UInt8) (hs:s.length≤Lim):zg Tryz.prog 252 [.str s] (.int .i64 (zii s)):=by
 refine zg.go ir252 ck252 (Al4 _) fun KP Q hQ=>?_
 simp(disch:=omega) only[ir252,go_sem]
 refine za (zsD s hs) ?_
 by_cases h:(zic s).1=s.length
 ·have h':(((zic s).1:Int)=s.length)=True:=eq_true (by omega)
  simp(disch:=omega) only[h',go_sem]
  exact hQ _ _ _ _ nofun rfl (by simp[zd,ze,AV.strip,AV.strip1,zii,h])
 ·have h':¬ ((zic s).1:Int)=s.length:=by omega
  simp(disch:=omega) only[h',go_sem]
  exact hQ _ _ _ _ nofun rfl (by simp[zd,ze,AV.strip,AV.strip1,zii,h])
def okI:Lib.NumEnd Int→Bool
 | .ok _=>true
 | _=>false
def zts (s:List UInt8):Int:=match Lib.parseIntB 64 s with
 | .ok v=>v
 | Lib.NumEnd.syntax=>0
 | .range=>Lib.intSat 64 s
def zhZ (s:List UInt8):Bool:=okI (Lib.parseIntB 64 s)&&decide (zii s=3)
theorem zvY (s:List UInt8) (hs:s.length≤Lim):zg Tryz.prog 267 [.str s] (.tup [.int .i64 (zts s),.bool (zhZ s)]):=by
 refine zg.go ir267 ck267 (Al4 _) fun KP Q hQ=>?_
 simp(disch:=omega) only[ir267,go_sem]
 refine za (zoF s (by simp only[Lim] at hs;omega)) ?_
 rcases hp:Lib.parseIntB 64 s with v|_|_
 ·simp(disch:=omega) only[zhp,hp,go_sem]
  refine za (zj2 s hs) ?_
  simp(disch:=omega) only[go_sem]
  exact hQ _ _ _ _ nofun rfl (by simp[zd,ze,AV.strip,AV.strip1,zts,zhZ,hp,okI])
 ·simp(disch:=omega) only[zhp,hp,go_sem]
  exact hQ _ _ _ _ nofun rfl (by simp[zd,ze,AV.strip,AV.strip1,zts,zhZ,hp,okI])
 ·simp(disch:=omega) only[zhp,hp,go_sem]
  exact hQ _ _ _ _ nofun rfl (by simp[zd,ze,AV.strip,AV.strip1,zts,zhZ,hp,okI])
def zoO (s:List UInt8):Bool:=decide (zii s=4)||(decide (zii s=3)&&!zhZ s)
theorem zxx (s:List UInt8) (hs:s.length≤Lim):zg Tryz.prog 257 [.str s] (.bool (zoO s)):=by
 refine zg.go ir257 ck257 (Al4 _) fun KP Q hQ=>?_
 simp(disch:=omega) only[ir257,go_sem]
 refine za (zj2 s hs) ?_
 simp(disch:=omega) only[go_sem]
 refine za (zvY s hs) ?_
 by_cases h4:zii s=4
 ·simp(disch:=omega) only[h4,go_sem]
  exact hQ _ _ _ _ nofun rfl (by simp[zd,ze,AV.strip,AV.strip1,zoO,h4])
 ·by_cases h3:zii s=3
  ·simp(disch:=omega) only[h4,h3,go_sem]
   exact hQ _ _ _ _ nofun rfl (by simp[zd,ze,AV.strip,AV.strip1,zoO,h4,h3])
  ·simp(disch:=omega) only[h4,h3,go_sem]
   exact hQ _ _ _ _ nofun rfl (by simp[zd,ze,AV.strip,AV.strip1,zoO,h4,h3])
def zol (s:List UInt8):Bool:=decide (s=[116,114,117,101])||(decide (s=[102,97,108,115,101])||decide (s=[110,117,108,108]))
theorem zxv (s:List UInt8):zg Tryz.prog 258 [.str s] (.bool (zol s)):=by
 refine zg.go ir258 ck258 (Al4 _) fun KP Q hQ=>?_
 by_cases h1:s=[116,114,117,101]
 ·simp(disch:=omega) only[ir258,h1,go_sem]
  exact hQ _ _ _ _ nofun rfl (by simp[zd,ze,AV.strip,AV.strip1,zol,h1])
 ·by_cases h2:s=[102,97,108,115,101]
  ·subst h2
   have h3:¬ ([102,97,108,115,101]:List UInt8)=[116,114,117,101]:=by decide
   simp(disch:=omega) only[ir258,h3,go_sem]
   exact hQ _ _ _ _ nofun rfl (by simp[zd,ze,AV.strip,AV.strip1,zol,h3])
  ·simp(disch:=omega) only[ir258,h1,h2,go_sem]
   exact hQ _ _ _ _ nofun rfl (by simp[zd,ze,AV.strip,AV.strip1,zol,h1,h2])
theorem zub (s:List UInt8) (hs:s.length≤Lim):zg Tryz.prog 231 [.str s] (.bool (Lib.validD s)):=by
 refine zg.go ir231 ck231 (Al4 _) fun KP Q hQ=>?_
 simp(disch:=omega) only[ir231,go_sem]
 refine za (zuT s (by simp only[Lim] at hs;omega)) ?_
 simp(disch:=omega) only[go_sem]
 exact hQ _ _ _ _ nofun rfl (by simp[zd,ze,AV.strip,AV.strip1])
def zdi (n:Int) (s:List UInt8) (l:List Val) (m:List Mem):Bool:=decide (n=0)&&(decide (s=[])&&(decide (l.length=0)&&decide (m.length=0)))
theorem zrO (k n:Int) (s:List UInt8) (l:List Val) (m:List Mem):zg Tryz.prog 245 [.agg (cV (.mk k n s l m))] (.bool (zdi n s l m)):=by
 refine zg.go ir245 ck245 (Al4 _) fun KP Q hQ=>?_
 have h1:=YF l
 have h2:=yS m
 by_cases g1:n=0
 case neg =>
  simp(disch:=omega) only[ir245,ye,g1,go_sem]
  exact hQ _ _ _ _ nofun rfl (by simp[zd,ze,AV.strip,AV.strip1,zdi,g1])
 by_cases g2:s=[]
 case neg =>
  simp(disch:=omega) only[ir245,ye,g1,g2,go_sem]
  exact hQ _ _ _ _ nofun rfl (by simp[zd,ze,AV.strip,AV.strip1,zdi,g2])
 by_cases g3:l.length=0
 case neg =>
  simp(disch:=omega) only[ir245,ye,g1,g2,h1,g3,go_sem]
  exact hQ _ _ _ _ nofun rfl (by simp[zd,ze,AV.strip,AV.strip1,zdi,g3])
 have e:decide ((m.length:Int)=0)=decide (m.length=0):=by rw[decide_eq_decide];omega
 simp(disch:=omega) only[ir245,ye,g1,g2,h1,h2,g3,go_sem]
 exact hQ _ _ _ _ nofun rfl (by simp[zd,ze,AV.strip,AV.strip1,zdi,g1,g2,g3,e])
def Zc (k n:Int) (s:List UInt8) (l:List Val) (m:List Mem):Bool :=
 zdi 0 [] l m&&(if k=0 then decide (n=0)&&decide (s=[]) else if k=1 then (decide (n=0)||decide (n=1))&&decide (s=[]) else if k=2 then decide (s=[])
  else if k=3 then decide (n=0)&&zoO s else if k=4 then decide (n=0)&&Lib.validD s else if k=5 then decide (n=0)&&(zN s&&!zol s) else if k=8 then decide (n=0)&&zN s else false)
theorem zs7 (k n:Int) (s:List UInt8) (l:List Val) (m:List Mem) (hs:s.length≤Lim):zg Tryz.prog 244 [.agg (cV (.mk k n s l m))] (.bool (Zc k n s l m)):=by
 refine zg.go ir244 ck244 (Al4 _) fun KP Q hQ=>?_
 simp(disch:=omega) only[ir244,ye,go_sem]
 refine zc fun b hb=>?_
 simp(disch:=omega) only[go_sem]
 refine za (zrO k 0 [] l m) ?_
 cases hb:zdi 0 [] l m with
 | false =>
  simp(disch:=omega) only[hb,go_sem]
  exact hQ _ _ _ _ nofun rfl (by simp[zd,ze,AV.strip,AV.strip1,Zc,hb])
 | true =>
  by_cases k0:k=0
  ·by_cases n0:n=0
   ·simp(disch:=omega) only[hb,k0,n0,go_sem]
    exact hQ _ _ _ _ nofun rfl (by simp[zd,ze,AV.strip,AV.strip1,Zc,hb,k0,n0])
   ·simp(disch:=omega) only[hb,k0,n0,go_sem]
    exact hQ _ _ _ _ nofun rfl (by simp[zd,ze,AV.strip,AV.strip1,Zc,hb,k0,n0])
  by_cases k1:k=1
  ·by_cases n0:n=0
   ·simp(disch:=omega) only[hb,k0,k1,n0,go_sem]
    exact hQ _ _ _ _ nofun rfl (by simp[zd,ze,AV.strip,AV.strip1,Zc,hb,k1,n0])
   ·by_cases n1:n=1
    ·simp(disch:=omega) only[hb,k0,k1,n0,n1,go_sem]
     exact hQ _ _ _ _ nofun rfl (by simp[zd,ze,AV.strip,AV.strip1,Zc,hb,k1,n1])
    ·simp(disch:=omega) only[hb,k0,k1,n0,n1,go_sem]
     exact hQ _ _ _ _ nofun rfl (by simp[zd,ze,AV.strip,AV.strip1,Zc,hb,k1,n0,n1])
  by_cases k2:k=2
  ·simp(disch:=omega) only[hb,k0,k1,k2,go_sem]
   exact hQ _ _ _ _ nofun rfl (by simp[zd,ze,AV.strip,AV.strip1,Zc,hb,k2])
  by_cases k3:k=3
  ·by_cases n0:n=0
   ·simp(disch:=omega) only[hb,k0,k1,k2,k3,n0,go_sem]
    refine za (zxx s hs) ?_
    simp(disch:=omega) only[go_sem]
    exact hQ _ _ _ _ nofun rfl (by simp[zd,ze,AV.strip,AV.strip1,Zc,hb,k3,n0])
   ·simp(disch:=omega) only[hb,k0,k1,k2,k3,n0,go_sem]
    exact hQ _ _ _ _ nofun rfl (by simp[zd,ze,AV.strip,AV.strip1,Zc,hb,k3,n0])
  by_cases k4:k=4
  ·by_cases n0:n=0
   ·simp(disch:=omega) only[hb,k0,k1,k2,k3,k4,n0,go_sem]
    refine za (zub s hs) ?_
    simp(disch:=omega) only[go_sem]
    exact hQ _ _ _ _ nofun rfl (by simp[zd,ze,AV.strip,AV.strip1,Zc,hb,k4,n0])
   ·simp(disch:=omega) only[hb,k0,k1,k2,k3,k4,n0,go_sem]
    exact hQ _ _ _ _ nofun rfl (by simp[zd,ze,AV.strip,AV.strip1,Zc,hb,k4,n0])
  by_cases k5:k=5
  ·by_cases n0:n=0
   ·simp(disch:=omega) only[hb,k0,k1,k2,k3,k4,k5,n0,go_sem]
    refine za (zkO s hs) ?_
    cases hn:zN s with
    | true =>
     simp(disch:=omega) only[hn,go_sem]
     refine za (zxv s) ?_
     simp(disch:=omega) only[go_sem]
     exact hQ _ _ _ _ nofun rfl (by simp[zd,ze,AV.strip,AV.strip1,Zc,hb,k5,n0,hn])
    | false =>
     simp(disch:=omega) only[hn,go_sem]
     exact hQ _ _ _ _ nofun rfl (by simp[zd,ze,AV.strip,AV.strip1,Zc,hb,k5,n0,hn])
   ·simp(disch:=omega) only[hb,k0,k1,k2,k3,k4,k5,n0,go_sem]
    exact hQ _ _ _ _ nofun rfl (by simp[zd,ze,AV.strip,AV.strip1,Zc,hb,k5,n0])
  by_cases k8:k=8
  ·by_cases n0:n=0
   ·simp(disch:=omega) only[hb,k0,k1,k2,k3,k4,k5,k8,n0,go_sem]
    refine za (zkO s hs) ?_
    simp(disch:=omega) only[go_sem]
    exact hQ _ _ _ _ nofun rfl (by simp[zd,ze,AV.strip,AV.strip1,Zc,hb,k8,n0])
   ·simp(disch:=omega) only[hb,k0,k1,k2,k3,k4,k5,k8,n0,go_sem]
    exact hQ _ _ _ _ nofun rfl (by simp[zd,ze,AV.strip,AV.strip1,Zc,hb,k8,n0])
  ·simp(disch:=omega) only[hb,k0,k1,k2,k3,k4,k5,k8,go_sem]
   exact hQ _ _ _ _ nofun rfl (by simp[zd,ze,AV.strip,AV.strip1,Zc,hb,k0,k1,k2,k3,k4,k5,k8])
mutual
def zdO (may:List UInt8→Bool):Val→Bool
 | .mk k n s l m=>if k=6 then zg1 may l&&zdi n s [] m else if k=7 then zgM may m&&zdi n s l [] else Zc k n s l m
def zg1 (may:List UInt8→Bool):List Val→Bool
 | []=>true
 | v::r=>zdO may v&&zg1 may r
def zwP (may:List UInt8→Bool):Mem→Bool
 | .mk s v=>may s&&zdO may v
def zgM (may:List UInt8→Bool):List Mem→Bool
 | []=>true
 | x::r=>zwP may x&&zgM may r
end
theorem zwJ (f:FuncId) (hf:Program.callable Tryz.prog f=true) (may:List UInt8→Bool) (hmay:∀ s:List UInt8,s.length≤Lim→zg Tryz.prog f [.str s] (.bool (may s))) :
  ∀ v,bV v≤Lim→zg Tryz.prog 230 [.agg (cV v),.clo f [] []] (.bool (zdO may v)):=by
 refine Val.ind fun k n s l m ihl ihm hb=>?_
 have hb':1+s.length+bVs l+bMs m≤Lim:=hb
 have hll:=zaB l
 have hml:=y5 m
 have h1:=YF l
 have h2:=yS m
 simp only[Lim] at hb'
 refine zg.go ir230 ck230 (Al4 _) fun KP Q hQ=>?_
 simp(disch:=omega) only[ir230,ye,go_sem]
 refine zc fun b hb=>?_
 by_cases k6:k=6
 ·subst k6
  simp(disch:=omega) only[h1,go_sem]
  refine zf l 22 (fun _:Unit=>[(6,.bool true)]) (fun done rest _ H=>zg1 may rest=zg1 may l∧H b=some (.cells [.int .i64 6,.int .i64 n,.str s,.sl .nil 5 [],.sl .no 6 (cMs m)])) () (by simp(disch:=omega) only[go_sem]) ⟨rfl,by simp[zb.upd]⟩ ?_ ?_
  ·rintro _ H J ⟨hn,hH⟩ hlt
   simp only[zg1] at hn
   simp(disch:=omega) only[h1,hlt,hH,go_sem]
   refine za (zg.low (zrO 6 n s [] m)) ?_
   simp(disch:=omega) only[go_sem]
   exact hQ _ _ _ _ nofun rfl (by simp[zd,ze,AV.strip,AV.strip1,zdO,← hn])
  ·rintro done x rest _ H J hd hlt _ ⟨hn,hH⟩ hJ
   have hg:=zaC hd
   have hbm:=ze7 done x rest
   rw[← hd] at hbm
   simp only[zg1] at hn
   simp(disch:=omega) only[zx,zm,zj,zv,zn,zk,zA,h1,hlt,hg,go_sem]
   refine zc fun b2 hb2=>?_
   have hne:=zd6 hb2 hH
   simp(disch:=omega) only[zx,zm,zj,zv,zn,zk,zA,go_sem]
   refine za (ihl x (by rw[hd];simp) (by simp only[Lim];omega)) ?_
   cases hx:zdO may x with
   | true =>
    simp only[hx,Bool.true_and] at hn
    simp(disch:=omega) only[hx,go_sem]
    exact goJ (hJ () _ ⟨hn,by simp[zb.upd,Ne.symm hne,hH]⟩) (by simp(disch:=omega) only[wrap64,go_sem])
   | false =>
    simp only[hx,Bool.false_and] at hn
    simp(disch:=omega) only[hx,go_sem]
    exact hQ _ _ _ _ nofun rfl (by simp[zd,ze,AV.strip,AV.strip1,zdO,← hn])
 by_cases k7:k=7
 ·subst k7
  simp(disch:=omega) only[h2,go_sem]
  refine zf m 38 (fun _:Unit=>[(6,.bool true)]) (fun done rest _ H=>zgM may rest=zgM may m∧H b=some (.cells [.int .i64 7,.int .i64 n,.str s,.sl .no 5 (cVs l),.sl .nil 6 []])) () (by simp(disch:=omega) only[go_sem]) ⟨rfl,by simp[zb.upd]⟩ ?_ ?_
  ·rintro _ H J ⟨hn,hH⟩ hlt
   simp only[zgM] at hn
   simp(disch:=omega) only[h2,hlt,hH,go_sem]
   refine za (zg.low (zrO 7 n s l [])) ?_
   simp(disch:=omega) only[go_sem]
   exact hQ _ _ _ _ nofun rfl (by simp[zd,ze,AV.strip,AV.strip1,zdO,← hn])
  ·rintro done x rest _ H J hd hlt _ ⟨hn,hH⟩ hJ
   have hg:=Zy hd
   have hbm:=za5 done x rest
   rw[← hd] at hbm
   have hmem:x∈m:=by rw[hd];simp
   obtain⟨t,v⟩:=x
   simp only[zgM,zwP,bM] at hn hbm
   simp(disch:=omega) only[zx,zm,zj,zv,zn,zk,zA,h2,hlt,hg,go_sem]
   refine zc fun b2 hb2=>?_
   have hne:=zd6 hb2 hH
   simp(disch:=omega) only[zx,zm,zj,zv,zn,zk,zA,go_sem]
   refine⟨hf,za (hmay t (by simp only[Lim];omega)) ?_⟩
   cases ht:may t with
   | true =>
    simp(disch:=omega) only[zx,zm,zj,zv,zn,zk,zA,ht,go_sem]
    refine za (ihm t v hmem (by simp only[Lim];omega)) ?_
    cases hx:zdO may v with
    | true =>
     simp only[ht,hx,Bool.true_and] at hn
     simp(disch:=omega) only[hx,go_sem]
     exact goJ (hJ () _ ⟨hn,by simp[zb.upd,Ne.symm hne,hH]⟩) (by simp(disch:=omega) only[wrap64,go_sem])
    | false =>
     simp only[ht,hx,Bool.true_and,Bool.false_and] at hn
     simp(disch:=omega) only[hx,go_sem]
     exact hQ _ _ _ _ nofun rfl (by simp[zd,ze,AV.strip,AV.strip1,zdO,← hn])
   | false =>
    simp only[ht,Bool.false_and] at hn
    simp(disch:=omega) only[zx,zm,zj,zv,zn,zk,zA,ht,go_sem]
    exact hQ _ _ _ _ nofun rfl (by simp[zd,ze,AV.strip,AV.strip1,zdO,← hn])
 ·simp(disch:=omega) only[k6,k7,go_sem]
  refine za (zs7 k n s l m (by simp only[Lim];omega)) ?_
  simp(disch:=omega) only[go_sem]
  exact hQ _ _ _ _ nofun rfl (by simp[zd,ze,AV.strip,AV.strip1,zdO,k6,k7])
def znh (v:Val):Bool:=zdO Lib.validD v
theorem zvD (v:Val) (hb:bV v≤Lim):zg Tryz.prog 204 [.agg (cV v)] (.bool (znh v)):=by
 refine zg.go ir204 ck204 (Al4 _) fun KP Q hQ=>?_
 simp(disch:=omega) only[zx,zm,zj,zv,zn,zk,zA,ir204,go_sem]
 refine za (zwJ _ (by kernel_rfl) Lib.validD zub v hb) ?_
 simp(disch:=omega) only[go_sem]
 exact hQ _ _ _ _ nofun rfl (by simp[zd,ze,AV.strip,AV.strip1,znh])
def zbT (v:Val):Bool:=zdO zN v&&decide (ZV v≤16)
theorem zsc (v:Val) (hb:bV v≤Lim):zg Tryz.prog 237 [.agg (cV v)] (.bool (zbT v)):=by
 refine zg.go ir237 ck237 (Al4 _) fun KP Q hQ=>?_
 simp(disch:=omega) only[zx,zm,zj,zv,zn,zk,zA,ir237,go_sem]
 refine za (zwJ _ (by kernel_rfl) zN zkO v hb) ?_
 cases h:zdO zN v with
 | true =>
  simp(disch:=omega) only[zx,zm,zj,zv,zn,zk,zA,h,go_sem]
  refine za (zjA v hb) ?_
  simp(disch:=omega) only[go_sem]
  exact hQ _ _ _ _ nofun rfl (by simp[zd,ze,AV.strip,AV.strip1,zbT,h])
 | false =>
  simp(disch:=omega) only[h,go_sem]
  exact hQ _ _ _ _ nofun rfl (by simp[zd,ze,AV.strip,AV.strip1,zbT,h])
theorem zkA (s:List UInt8):zg Tryz.prog 249 [.str s] (.agg (cK ⟨2,s⟩)):=by
 refine zg.go ir249 ck249 (Al4 _) fun KP Q hQ=>?_
 simp(disch:=omega) only[ir249,go_sem]
 refine zc fun b hb=>?_
 simp(disch:=omega) only[go_sem]
 exact hQ _ _ _ [.agg [.int .i64 2,.str s]] nofun (by simp(disch:=omega) only[ir249,zG,Zk,go_sem]) rfl
theorem zfH (s:List UInt8):zg Tryz.prog 253 [.str s] (.agg (cK ⟨1,s⟩)):=by
 refine zg.go ir253 ck253 (Al4 _) fun KP Q hQ=>?_
 simp(disch:=omega) only[ir253,go_sem]
 refine zc fun b hb=>?_
 simp(disch:=omega) only[go_sem]
 exact hQ _ _ _ [.agg [.int .i64 1,.str s]] nofun (by simp(disch:=omega) only[ir253,zG,Zk,go_sem]) rfl
def boolT (b:Bool):List UInt8:=if b then [116,114,117,101] else [102,97,108,115,101]
theorem zpH (b:Bool):zg Tryz.prog 262 [.bool b] (.str (boolT b)):=by
 refine zg.go ir262 ck262 (Al4 _) fun KP Q hQ=>?_
 cases b
 ·simp(disch:=omega) only[ir262,go_sem]
  exact hQ _ _ _ _ nofun rfl (by simp[zd,ze,AV.strip,AV.strip1,boolT])
 ·simp(disch:=omega) only[ir262,go_sem]
  exact hQ _ _ _ _ nofun rfl (by simp[zd,ze,AV.strip,AV.strip1,boolT])
theorem zsH (b:Bool):zg Tryz.prog 250 [.bool b] (.str (boolT b)):=by
 refine zg.go ir250 ck250 (Al4 _) fun KP Q hQ=>?_
 simp(disch:=omega) only[ir250,go_sem]
 refine za (zpH b) ?_
 simp(disch:=omega) only[go_sem]
 exact hQ _ _ _ _ nofun rfl (by simp[zd,ze,AV.strip,AV.strip1])
mutual
def zaj:Val→List Tok
 | .mk k n s l m=>if k=0 then [⟨2,[110,117,108,108]⟩] else if k=1 then [⟨2,boolT (decide (n=1))⟩] else if k=2 then [⟨3,Lib.itoa n⟩] else if k=3 then [⟨zii s,s⟩] else if k=4 then [⟨5,s⟩]
  else if k=5 then [⟨2,s⟩] else if k=8 then [⟨1,[36]⟩,⟨2,s⟩] else if k=6 then ⟨1,[91]⟩::(zdU l++[⟨1,[93]⟩]) else ⟨1,[123]⟩::(zaJ m++[⟨1,[125]⟩])
def zdU:List Val→List Tok
 | []=>[]
 | v::r=>zaj v++zdU r
def zqt:Mem→List Tok
 | .mk s v=>⟨2,s⟩::⟨1,[58]⟩::zaj v
def zaJ:List Mem→List Tok
 | []=>[]
 | x::r=>zqt x++zaJ r
end
mutual
theorem zeD:∀ v,(zaj v).length+2≤4*bV v
 | .mk k n s l m=>by
  have h1:=zgQ l
  have h2:=zhn m
  simp only[zaj,bV]
  repeat' split
  all_goals simp only[Al2,Al5,Al3]
  all_goals omega
theorem zgQ:∀ l,(zdU l).length≤4*bVs l
 | []=>by simp[zdU]
 | v::r=>by
  have h1:=zeD v
  have h2:=zgQ r
  simp only[zdU,bVs,Al5];omega
theorem zsL:∀ x,(zqt x).length≤4*bM x
 | .mk s v=>by have:=zeD v;simp only[zqt,bM,Al2];omega
theorem zhn:∀ l,(zaJ l).length≤4*bMs l
 | []=>by simp[zaJ]
 | x::r=>by
  have h1:=zsL x
  have h2:=zhn r
  simp only[zaJ,bMs,Al5];omega
end
def inR (n:Int):Prop:=-9223372036854775808≤n∧n≤9223372036854775807
mutual
def wfV:Val→Prop
 | .mk _ n _ l m=>inR n∧zoJ l∧zif m
def zoJ:List Val→Prop
 | []=>True
 | v::r=>wfV v∧zoJ r
def wfM:Mem→Prop
 | .mk _ v=>wfV v
def zif:List Mem→Prop
 | []=>True
 | x::r=>wfM x∧zif r
end
theorem zlB:∀ {l:List Val},zoJ l→∀ v∈l,wfV v
 | _::_,h,v,hv=>(List.mem_cons.1 hv).elim (fun e=>e▸h.1) (zlB h.2 v)
theorem zgN:∀ {l:List Mem},zif l→∀ s v,Mem.mk s v∈l→wfV v
 | _::_,h,s,v,hv=>(List.mem_cons.1 hv).elim (fun e=>by have:=h.1;rw[← e] at this;exact this) (zgN h.2 s v)
theorem zcm (a:List Tok) (t:Tok):cKs a++[[.int .i64 t.k,.str t.s]]=cKs (a++[t]):=by simp[cKs,cK]
theorem zlx (a:List Tok) (t u:Tok):cKs a++[[.int .i64 t.k,.str t.s],[.int .i64 u.k,.str u.s]]=cKs (a++[t,u]):=by simp[cKs,cK]
theorem zty:∀ v,wfV v→∀ acc H o,acc.length+4*bV v≤Lim→zK H o acc.length 2→zae Tryz.prog 238 [.sl o 2 (cKs acc),.agg (cV v)] H o 2 (cKs (acc++zaj v)):=by
 refine Val.ind fun k n s l m ihl ihm hwf acc H o hb ho=>?_
 obtain⟨hn,hwl,hwm⟩:=hwf
 have hb':acc.length+4*(1+s.length+bVs l+bMs m)≤Lim:=hb
 have hll:=zaB l
 have hml:=y5 m
 have h1:=YF l
 have h2:=yS m
 have h3:=Zb acc
 have hT:=zgQ l
 have hM:=zhn m
 simp only[Lim] at hb'
 have hsl:s.length≤Lim:=by simp only[Lim];omega
 refine zi.goO ir238 ck238 (Al4 _) fun KP Q hQ hP=>?_
 have one:∀ t:Tok,zaj (.mk k n s l m)=[t]→∀ o' H',OwnS H o H' o' (acc.length+1) 2→zxi H o 2 (cKs (acc++zaj (.mk k n s l m))) (.sl o' 2 (cKs acc++[[.int .i64 t.k,.str t.s]])) H':=fun t e o' H' hs=>by
  rw[e];exact⟨o',by rw[zcm],by rw[Zb];simpa using hs⟩
 have hq1:((cKs acc).length+1)*24≤140737488355328:=by rw[h3];omega
 have hq2:(cKs acc).length+1≤maxLen:=by rw[h3];simp only[maxLen];omega
 have hq3:((cKs acc).length+2)*24≤140737488355328:=by rw[h3];omega
 have hq4:(cKs acc).length+2≤maxLen:=by rw[h3];simp only[maxLen];omega
 have ho':zK H o (cKs acc).length 2:=by rw[h3];exact ho
 by_cases k0:k=0
 ·subst k0
  simp(disch:=omega) only[ir238,ye,go_sem]
  refine za (zkA _) ?_
  simp(disch:=omega) only[cK,go_sem]
  refine zp ho' hq1 hq2 fun o' H' hs=>?_
  simp(disch:=omega) only[go_sem]
  exact hQ _ _ H' H' [_] nofun rfl (Low.refl _) (one ⟨2,[110,117,108,108]⟩ (by simp[zaj]) o' H' (by simpa[h3] using hs))
 by_cases k1:k=1
 ·subst k1
  simp(disch:=omega) only[ir238,ye,go_sem]
  refine za (zsH _) ?_
  simp(disch:=omega) only[go_sem]
  refine za (zkA _) ?_
  simp(disch:=omega) only[cK,go_sem]
  refine zp ho' hq1 hq2 fun o' H' hs=>?_
  simp(disch:=omega) only[go_sem]
  exact hQ _ _ H' H' [_] nofun rfl (Low.refl _) (one ⟨2,boolT (decide (n=1))⟩ (by simp[zaj]) o' H' (by simpa[h3] using hs))
 by_cases k2:k=2
 ·subst k2
  simp(disch:=omega) only[ir238,ye,go_sem]
  refine za (zms n hn.1 hn.2) ?_
  simp(disch:=omega) only[go_sem]
  refine zp ho' hq1 hq2 fun o' H' hs=>?_
  simp(disch:=omega) only[go_sem]
  exact hQ _ _ H' H' [_] nofun rfl (Low.refl _) (one ⟨3,Lib.itoa n⟩ (by simp[zaj]) o' H' (by simpa[h3] using hs))
 by_cases k3:k=3
 ·subst k3
  simp(disch:=omega) only[ir238,ye,go_sem]
  refine za (zj2 s hsl) ?_
  simp(disch:=omega) only[go_sem]
  refine zp ho' hq1 hq2 fun o' H' hs=>?_
  simp(disch:=omega) only[go_sem]
  exact hQ _ _ H' H' [_] nofun rfl (Low.refl _) (one ⟨zii s,s⟩ (by simp[zaj]) o' H' (by simpa[h3] using hs))
 by_cases k4:k=4
 ·subst k4
  simp(disch:=omega) only[ir238,ye,go_sem]
  refine zp ho' hq1 hq2 fun o' H' hs=>?_
  simp(disch:=omega) only[go_sem]
  exact hQ _ _ H' H' [_] nofun rfl (Low.refl _) (one ⟨5,s⟩ (by simp[zaj]) o' H' (by simpa[h3] using hs))
 by_cases k5:k=5
 ·subst k5
  simp(disch:=omega) only[ir238,ye,go_sem]
  refine za (zkA _) ?_
  simp(disch:=omega) only[cK,go_sem]
  refine zp ho' hq1 hq2 fun o' H' hs=>?_
  simp(disch:=omega) only[go_sem]
  exact hQ _ _ H' H' [_] nofun rfl (Low.refl _) (one ⟨2,s⟩ (by simp[zaj]) o' H' (by simpa[h3] using hs))
 by_cases k8:k=8
 ·subst k8
  simp(disch:=omega) only[ir238,ye,go_sem]
  refine za (zfH _) ?_
  simp(disch:=omega) only[cK,go_sem]
  refine za (zkA _) ?_
  simp(disch:=omega) only[cK,go_sem]
  refine zp ho' hq3 hq4 fun o' H' hs=>?_
  simp(disch:=omega) only[go_sem]
  refine hQ _ _ H' H' [_] nofun rfl (Low.refl _) ?_
  have e:zaj (.mk 8 n s l m)=[⟨1,[36]⟩,⟨2,s⟩]:=by simp[zaj]
  rw[e]
  exact⟨o',by rw[← zlx];rfl,by rw[Zb];simpa[h3] using hs⟩
 by_cases k6:k=6
 ·subst k6
  have e:zaj (.mk 6 n s l m)=⟨1,[91]⟩::(zdU l++[⟨1,[93]⟩]):=by simp[zaj]
  have ea:=zcm acc ⟨1,[91]⟩
  simp only at ea
  simp(disch:=omega) only[ir238,ye,go_sem]
  refine za (zfH _) ?_
  simp(disch:=omega) only[cK,go_sem]
  refine zp ho' hq1 hq2 fun o1 H1 hs1=>?_
  have hs1':OwnS H o H1 o1 (acc++[(⟨1,[91]⟩:Tok)]).length 2:=by simpa[h3] using hs1
  simp(disch:=omega) only[ea,h1,go_sem]
  refine zf l 81 (fun x:Own×List Tok=>[(0,.sl x.1 2 (cKs x.2))]) (fun done rest x H'=>x.2++zdU rest=acc++⟨1,[91]⟩::zdU l∧x.2.length+4*bVs rest≤acc.length+1+4*bVs l∧OwnS H o H' x.1 x.2.length 2) (o1,acc++[⟨1,[91]⟩]) (by simp(disch:=omega) only[go_sem]) ⟨by simp,by simp,hs1'⟩ ?_ ?_
  ·rintro⟨o2,a⟩ H2 J ⟨hn,hle,hs⟩ hlt
   simp only[zdU,List.append_nil,bVs] at hn hle
   have h4:=Zb a
   simp(disch:=omega) only[h1,hlt,go_sem]
   refine za (zfH _) ?_
   simp(disch:=omega) only[cK,go_sem]
   refine zp (by rw[h4];exact hs.own) (by simp only[h4,Al2,Al3];omega) (by simp only[h4,Al2,Al3,maxLen];omega) fun o3 H3 hs3=>?_
   simp(disch:=omega) only[go_sem]
   refine hQ _ _ H3 H3 [_] nofun rfl (Low.refl _) ?_
   have e2:acc++zaj (.mk 6 n s l m)=a++[⟨1,[93]⟩]:=by rw[e,hn];simp
   rw[e2]
   exact⟨o3,by rw[← zcm];rfl,by rw[Zb];exact hs.trans (by simpa[h4] using hs3)⟩
  ·rintro done x rest ⟨o2,a⟩ H2 J hd hlt _ ⟨hn,hle,hs⟩ hJ
   have hg:=zaC hd
   have hx:=zeD x
   have hmem:x∈l:=by rw[hd];simp
   simp only[zdU,bVs] at hn hle
   simp(disch:=omega) only[zx,zm,zj,zv,zn,zk,zA,h1,hlt,hg,go_sem]
   refine zc fun b hb=>?_
   simp(disch:=omega) only[zx,zm,zj,zv,zn,zk,zA,go_sem]
   refine zB (ihl x hmem (zlB hwl x hmem) a _ o2 (by simp only[Lim];omega) (hs.own.upd hb)) fun o3 H3 hs3=>?_
   rw[Zb] at hs3
   simp(disch:=omega) only[wrap64,go_sem]
   exact goJ (hJ (o3,a++zaj x) H3 ⟨by rw[← hn];simp,by simp only[Al5];omega,(hs.upd hb).trans hs3⟩) (by simp(disch:=omega) only[go_sem])
 ·have e:zaj (.mk k n s l m)=⟨1,[123]⟩::(zaJ m++[⟨1,[125]⟩]):=by simp[zaj,k0,k1,k2,k3,k4,k5,k8,k6]
  have ea:=zcm acc ⟨1,[123]⟩
  simp only at ea
  simp(disch:=omega) only[ir238,ye,k0,k1,k2,k3,k4,k5,k8,k6,go_sem]
  refine za (zfH _) ?_
  simp(disch:=omega) only[cK,go_sem]
  refine zp ho' hq1 hq2 fun o1 H1 hs1=>?_
  have hs1':OwnS H o H1 o1 (acc++[(⟨1,[123]⟩:Tok)]).length 2:=by simpa[h3] using hs1
  simp(disch:=omega) only[ea,h2,go_sem]
  refine zf m 100 (fun x:Own×List Tok=>[(0,.sl x.1 2 (cKs x.2))]) (fun done rest x H'=>x.2++zaJ rest=acc++⟨1,[123]⟩::zaJ m∧x.2.length+4*bMs rest≤acc.length+1+4*bMs m∧OwnS H o H' x.1 x.2.length 2) (o1,acc++[⟨1,[123]⟩]) (by simp(disch:=omega) only[go_sem]) ⟨by simp,by simp,hs1'⟩ ?_ ?_
  ·rintro⟨o2,a⟩ H2 J ⟨hn,hle,hs⟩ hlt
   simp only[zaJ,List.append_nil,bMs] at hn hle
   have h4:=Zb a
   simp(disch:=omega) only[h2,hlt,go_sem]
   refine za (zfH _) ?_
   simp(disch:=omega) only[cK,go_sem]
   refine zp (by rw[h4];exact hs.own) (by simp only[h4,Al2,Al3];omega) (by simp only[h4,Al2,Al3,maxLen];omega) fun o3 H3 hs3=>?_
   simp(disch:=omega) only[go_sem]
   refine hQ _ _ H3 H3 [_] nofun rfl (Low.refl _) ?_
   have e2:acc++zaj (.mk k n s l m)=a++[⟨1,[125]⟩]:=by rw[e,hn];simp
   rw[e2]
   exact⟨o3,by rw[← zcm];rfl,by rw[Zb];exact hs.trans (by simpa[h4] using hs3)⟩
  ·rintro done x rest ⟨o2,a⟩ H2 J hd hlt _ ⟨hn,hle,hs⟩ hJ
   have hg:=Zy hd
   have hmem:x∈m:=by rw[hd];simp
   obtain⟨t,v⟩:=x
   have hx:=zeD v
   have h4:=Zb a
   have hp:=zcY v
   simp only[zaJ,zqt,bMs,bM] at hn hle
   have ea2:=zlx a ⟨2,t⟩ ⟨1,[58]⟩
   simp only at ea2
   simp(disch:=omega) only[zx,zm,zj,zv,zn,zk,zA,h2,hlt,hg,go_sem]
   refine zc fun b hb=>?_
   simp(disch:=omega) only[zx,zm,zj,zv,zn,zk,zA,go_sem]
   refine za (zkA _) ?_
   simp(disch:=omega) only[zx,zm,zj,zv,zn,zk,zA,cK,go_sem]
   refine za (zfH _) ?_
   simp(disch:=omega) only[zx,zm,zj,zv,zn,zk,zA,cK,go_sem]
   refine zp (by rw[h4];exact hs.own.upd hb) (by simp only[h4,Al2,Al3];omega) (by simp only[h4,Al2,Al3,maxLen];omega) fun o3 H3 hs3=>?_
   have hs3':OwnS H o H3 o3 (a++[(⟨2,t⟩:Tok),⟨1,[58]⟩]).length 2:=(hs.upd hb).trans (by simpa[h4] using hs3)
   have hHb:H3 b=some (.cells (cM (.mk t v))):=hs3.kept b _ (by simp[zb.upd,zA]) fun d e=>by
    have:=hs.own;subst e
    have hx:H2 b=_:=this
    rw[hb] at hx;cases hx
   simp(disch:=omega) only[zx,zm,zj,zv,zn,zk,zA,ea2,hHb,go_sem]
   refine zB (ihm t v hmem (zgN hwm t v hmem) _ _ o3 (by simp only[Lim,Al5,Al2,Al3];omega) hs3'.own) fun o4 H4 hs4=>?_
   rw[Zb] at hs4
   simp(disch:=omega) only[wrap64,go_sem]
   exact goJ (hJ (o4,a++[⟨2,t⟩,⟨1,[58]⟩]++zaj v) H4 ⟨by rw[← hn];simp,by simp only[Al5,Al2,Al3];omega,hs3'.trans hs4⟩) (by simp(disch:=omega) only[go_sem])
def zcN (v:Val):List Tok:=if zbT v then zaj v else []
theorem zgC (v:Val) (hw:wfV v) (hb:4*bV v≤Lim):zg Tryz.prog 217 [.agg (cV v)] (.tup [.sl .no 2 (cKs (zcN v)),.bool (zbT v)]):=by
 have hb':bV v≤Lim:=by omega
 refine zg.go ir217 ck217 (Al4 _) fun KP Q hQ=>?_
 simp(disch:=omega) only[zx,zm,zj,zv,zn,zk,zA,ir217,go_sem]
 refine za (zsc v hb') ?_
 cases h:zbT v with
 | false =>
  simp(disch:=omega) only[h,go_sem]
  exact hQ _ _ _ _ nofun rfl (by simp[zd,ze,AV.strip,AV.strip1,zcN,h,cKs])
 | true =>
  simp(disch:=omega) only[zx,zm,zj,zv,zn,zk,zA,h,go_sem]
  refine zB (zty v hw [] _ .nil (by simpa using hb) rfl) fun o' H' hs=>?_
  simp(disch:=omega) only[go_sem]
  exact hQ _ _ _ _ nofun rfl (by simp[zd,ze,AV.strip,AV.strip1,zcN,h])
end Go.Proofs.YtbjofkamhijjlaaGreatDoor
namespace Go.Proofs.YtbjofkamhijjlaaGreatDoor
def zl0 (P:Program) (f:FuncId) (fn:Func) (s:ChangeSpec) (c:OpenClaim):Bool:=c.wf (OpenSpec.ofChange s)&&laidOutB P&&mapsRowed P&&fn.params.all (P.readableRec ·)&&namedTie P c.named s.vars
def zmQ (P:Program) (f:FuncId) (fn:Func) (s:ChangeSpec) (c:OpenClaim):Bool:=(c.stops==[])&&(P.stops==[])&&(c.knobs==[])&&(P.stopKnobs==[])&&(c.maps==(fn.params.toList++s.plain.varTypes P).any (P.mapsRec ·))&&(c.ifaces==(fn.params.toList++s.plain.varTypes P).any (P.ifacesRec ·))&&(c.mapsOut==P.mapsAmong fn.resultTypes.toList)&&(c.loops==(fn.params.toList++s.plain.varTypes P).any (P.loopsFrom ·))&&(c.wideKeys==(fn.params.toList++s.plain.varTypes P++fn.resultTypes.toList).any (P.wideKeysFrom ·))&&s.vars.all (P.varReadable ·)&&fn.resultTypes.all (fun t=>P.readableRec t&&decide (t<P.types.size))&&(c.ifacesOut==fn.resultTypes.toList.any (P.ifacesRec ·))&&(c.loopsOut==fn.resultTypes.toList.any (P.loopsFrom ·))&&(c.veiled==(fn.params.toList++s.plain.varTypes P++fn.resultTypes.toList).any (P.veiledRec ·))&&c.veiledFits P fn.params.toList (fn.params.toList++s.plain.varTypes P++fn.resultTypes.toList)
def zmx (P:Program) (f:FuncId) (fn:Func) (s:ChangeSpec) (c:OpenClaim):Bool:=(c.inPlace==P.inPlace f)&&(c.unfollowed==P.unfollowed f)&&(c.recurses==P.recurses f)&&(c.named==P.varsNamed f)
def zmi (P:Program) (f:FuncId) (fn:Func) (s:ChangeSpec) (c:OpenClaim):Bool:=(c.plainKeys==P.plainKeys)&&c.shortTexts.isNone
def zmJ (P:Program) (f:FuncId) (fn:Func) (s:ChangeSpec) (c:OpenClaim):Bool:=P.stopsHeard
def zmv (P:Program) (f:FuncId) (fn:Func) (s:ChangeSpec) (c:OpenClaim):Bool:=P.mayEnter
def zl4 (P:Program) (f:FuncId) (fn:Func) (s:ChangeSpec) (c:OpenClaim):Bool:=(c.lifted==P.liftsFinal)&&(P.make==some c.make)&&(c.kinds==(if c.domain.isEmpty then [] else fn.params.toList.map fun t=>match P.underlying t with|some (.int k)=>some k|_=>none))&&(c.pinned==c.pinnedBy)
theorem zoq {P:Program} {f:FuncId} {fn:Func} {s:ChangeSpec} {c:OpenClaim} (h0:zl0 P f fn s c=true) (h1:zmQ P f fn s c=true) (h2:zmx P f fn s c=true) (h3:zmi P f fn s c=true) (h4:zmJ P f fn s c=true) (h5:zmv P f fn s c=true) (h6:zl4 P f fn s c=true):joinedFacts P f fn s c=true:=by
 simp only[zl0,Al0] at h0
 obtain⟨⟨⟨⟨a0,a1⟩,a2⟩,a3⟩,a4⟩:=h0
 simp only[zmQ,Al0] at h1
 obtain⟨⟨⟨⟨⟨⟨⟨⟨⟨⟨⟨⟨⟨⟨a5,a6⟩,a7⟩,a8⟩,a13⟩,a14⟩,a15⟩,a16⟩,a17⟩,a18⟩,a19⟩,a20⟩,a21⟩,a30⟩,a31⟩:=h1
 simp only[zmx,Al0] at h2
 obtain⟨⟨⟨a9,a10⟩,a11⟩,a12⟩:=h2
 simp only[zmi,Al0] at h3
 obtain⟨a22,a23⟩:=h3
 simp only[zmJ,Al0] at h4
 have a24:=h4
 simp only[zmv,Al0] at h5
 have a25:=h5
 simp only[zl4,Al0] at h6
 obtain⟨⟨⟨a26,a27⟩,a28⟩,a29⟩:=h6
 simp only[joinedFacts,Al0]
 exact⟨⟨⟨⟨⟨⟨⟨⟨⟨⟨⟨⟨⟨⟨⟨⟨⟨⟨⟨⟨⟨⟨⟨⟨⟨⟨⟨⟨⟨⟨⟨a0,a1⟩,a2⟩,a3⟩,a4⟩,a5⟩,a6⟩,a7⟩,a8⟩,a9⟩,a10⟩,a11⟩,a12⟩,a13⟩,a14⟩,a15⟩,a16⟩,a17⟩,a18⟩,a19⟩,a20⟩,a21⟩,a22⟩,a23⟩,a24⟩,a25⟩,a26⟩,a27⟩,a28⟩,a29⟩,a30⟩,a31⟩
open Go.Ab Go.ChangeAt Go.ChangeShapes Go.Lib Go.RowKit Go.WideElems Go.WideShapes
theorem own:ownKnob Tryz.prog.godebug=none:=by kernel_rfl
theorem laidOut:laidOutB Tryz.prog=true:=by kernel_rfl
theorem znu:∀ l,bVs l=(l.map bV).sum
 | []=>rfl
 | v::r=>by simp[bVs,znu r]
theorem zog:∀ l,bMs l=(l.map bM).sum
 | []=>rfl
 | v::r=>by simp[bMs,zog r]
theorem zki:∀ {l:List Val},(∀ v∈l,wfV v)→zoJ l
 | [],_=>trivial
 | v::r,h=>⟨h v (.head _),zki fun x hx=>h x (.tail _ hx)⟩
theorem zls:∀ {l:List Mem},(∀ v∈l,wfM v)→zif l
 | [],_=>trivial
 | v::r,h=>⟨h v (.head _),zls fun x hx=>h x (.tail _ hx)⟩
theorem zmh {n:Int} (h:(Lit.int .i64 n).wf=true):inR n:=by
 simp[Lit.wf,IntKind.has,IntKind.min,IntKind.max,IntKind.signed,IntKind.bits] at h
 unfold inR
 omega
abbrev DV (m:Nat):Prop:=zC Tryz.prog m 78 5 cV wfV bV
abbrev DM (m:Nat):Prop:=zC Tryz.prog m 85 6 cM wfM bM
theorem zwK {m:Nat} (h:DV m):zC Tryz.prog (m+1) 76 1 (fun l:List Val=>[.sl .no 5 (cVs l)]) (fun l=>zoJ l) (fun l=>bVs l+1):=by
 intro H enc W cs d ps h1 h2
 obtain⟨a,h3,h4,h5,h6⟩:=zC.slice (t:=76) Tryz.underlying76 (B:=80) (sz:=5) (by kernel_rfl) (by kernel_rfl) (by decide) h enc W cs d ps h1 h2
 exact⟨a,zki h3.2.2,by simp only[znu];exact h4,h5,by simp only[zeT];exact h6⟩
theorem zt0 {m:Nat} (h:DM m):zC Tryz.prog (m+1) 38 1 (fun l:List Mem=>[.sl .no 6 (cMs l)]) (fun l=>zif l) (fun l=>bMs l+1):=by
 intro H enc W cs d ps h1 h2
 obtain⟨a,h3,h4,h5,h6⟩:=zC.slice (t:=38) Tryz.underlying38 (B:=96) (sz:=6) (by kernel_rfl) (by kernel_rfl) (by decide) h enc W cs d ps h1 h2
 exact⟨a,zls h3.2.2,by simp only[zog];exact h4,h5,by simp only[zbE];exact h6⟩
theorem dec:∀ m,DV m∧DM m:=by
 intro m
 induction m using Nat.strongRecOn with
 | _ m ih =>
  have hs:∀ {k},k≤m→zC Tryz.prog k 76 1 (fun l:List Val=>[.sl .no 5 (cVs l)]) (fun l=>zoJ l) (fun l=>bVs l+1):=fun {k} hk=>by
   cases k with
   | zero=>exact zC.zero
   | succ k=>exact zwK (ih k (by omega)).1
  have hm:∀ {k},k≤m→zC Tryz.prog k 38 1 (fun l:List Mem=>[.sl .no 6 (cMs l)]) (fun l=>zif l) (fun l=>bMs l+1):=fun {k} hk=>by
   cases k with
   | zero=>exact zC.zero
   | succ k=>exact zt0 (ih k (by omega)).2
  refine⟨?_,?_⟩
  ·cases m with
   | zero=>exact zC.zero
   | succ k =>
    exact zC.struct (zz.cons (by kernel_rfl) (zC.int (k:=.i64) Tryz.underlying3) (zz.cons (by kernel_rfl) (zC.int (k:=.i64) Tryz.underlying2) (zz.cons (by kernel_rfl) (zC.str Tryz.underlying9) (zz.cons (by kernel_rfl) (hs (by omega)) (zz.cons (by kernel_rfl) (hm (by omega)) zz.nil)))))
     (by kernel_rfl) (by kernel_rfl) cV wfV bV (fun x=>.mk x.1 x.2.1 x.2.2.1 x.2.2.2.1 x.2.2.2.2.1) (fun a=>rfl) (fun a h=>⟨zmh h.2.1,h.2.2.2.1,h.2.2.2.2.1⟩) (fun a=>by simp only[bV];omega)
  ·cases m with
   | zero=>exact zC.zero
   | succ k =>
    exact zC.struct (zz.cons (by kernel_rfl) (zC.str Tryz.underlying9) (zz.cons (by kernel_rfl) (ih k (by omega)).1 zz.nil))
     (by kernel_rfl) (by kernel_rfl) cM wfM bM (fun x=>.mk x.1 x.2.1) (fun a=>by simp[cM]) (fun a h=>h.2.1) (fun a=>by simp only[bM];omega)
theorem ztZ (m:Nat):DV m:=(dec m).1
theorem zq1:∀ m,zC Tryz.prog m 38 1 (fun l:List Mem=>[.sl .no 6 (cMs l)]) (fun l=>zif l) (fun l=>bMs l+1)
 | 0=>zC.zero
 | m+1=>zt0 (dec m).2
theorem zqh {W:World} {r:Reach} {b:Nat} {t:TypeId} {fs:Array Field} {v:Value} (ht:Tryz.prog.underlying t=some (.struct fs)) (h:Value.okWide Tryz.prog W r b t v):∃ cs,v=.agg cs:=by
 unfold Value.okWide at h
 rw[ht] at h
 obtain⟨cs,h,_⟩:=h
 exact⟨cs,h⟩
theorem zpe {H:Type} {s:ChangeSpec} {ds:List (DataW H)} (h:∀ k,(Rows.OpenSpec.upto s).cond=some k→k H ds=true):Yq ds≤1048576:=by
 have h1:Rows.uptoSmall H ds=true:=h _ rfl
 have h2:=of_decide_eq_true h1
 rwa [zbq] at h2
end Go.Proofs.YtbjofkamhijjlaaGreatDoor
namespace Go.Proofs.YtbjofkamhijjlaaGreatDoor
open Go.Ab
structure DirD where
 nm:List UInt8
 args:List Mem
inductive SelD where
 | mk (k:Int) (al nm:List UInt8) (args:List Mem) (dirs:List DirD) (on:List UInt8) (sels:List SelD)
structure TyD where
 nm:List UInt8
 lists:Int
 musts:Int
structure VarD where
 nm:List UInt8
 t:TyD
 has:Bool
 d:Val
structure OpD where
 k:Int
 nm:List UInt8
 vars:List VarD
 dirs:List DirD
 sels:List SelD
structure FragD where
 nm:List UInt8
 on:List UInt8
 dirs:List DirD
 sels:List SelD
structure DocD where
 ops:List OpD
 frags:List FragD
def cD (x:DirD):List AV:=[.str x.nm,.sl .no 6 (cMs x.args)]
def cDs (l:List DirD):List (List AV):=l.map cD
mutual
def cS:SelD→List AV
 | .mk k al nm args dirs on sels=>[.int .i64 k,.str al,.str nm,.sl .no 6 (cMs args),.sl .no 2 (cDs dirs),.str on,.sl .no 7 (cSs sels)]
def cSs:List SelD→List (List AV)
 | []=>[]
 | x::r=>cS x::cSs r
end
def cTy (t:TyD):List AV:=[.str t.nm,.int .i64 t.lists,.int .i64 t.musts]
def cW (x:VarD):List AV:=cTy ⟨x.nm,0,0⟩ |>.take 1 |>.append (cTy x.t++(.bool x.has::cV x.d))
def cWs (l:List VarD):List (List AV):=l.map cW
def cO (x:OpD):List AV:=[.int .i64 x.k,.str x.nm,.sl .no 10 (cWs x.vars),.sl .no 2 (cDs x.dirs),.sl .no 7 (cSs x.sels)]
def cOs (l:List OpD):List (List AV):=l.map cO
def cF (x:FragD):List AV:=[.str x.nm,.str x.on,.sl .no 2 (cDs x.dirs),.sl .no 7 (cSs x.sels)]
def cFs (l:List FragD):List (List AV):=l.map cF
def zP (d:DocD):List AV:=[.sl .no 5 (cOs d.ops),.sl .no 4 (cFs d.frags)]
theorem ziU (nm:List UInt8) (t:TyD) (h:Bool) (d:Val):cW ⟨nm,t,h,d⟩=.str nm::.str t.nm::.int .i64 t.lists::.int .i64 t.musts::.bool h::cV d:=rfl
theorem zaD:∀ l,cSs l=l.map cS
 | []=>rfl
 | v::r=>by rw[cSs,zaD r];rfl
theorem YG (l:List DirD):(cDs l).length=l.length:=by simp[cDs]
theorem ZI (l:List SelD):(cSs l).length=l.length:=by rw[zaD];simp
theorem Zj (l:List VarD):(cWs l).length=l.length:=by simp[cWs]
theorem Z8 (l:List OpD):(cOs l).length=l.length:=by simp[cOs]
theorem ZW (l:List FragD):(cFs l).length=l.length:=by simp[cFs]
theorem zaI {l a:List DirD} {x:DirD} {b:List DirD} (h:l=a++x::b):(cDs l).getD a.length []=cD x:=yN h
theorem Y4 {l a:List SelD} {x:SelD} {b:List SelD} (h:l=a++x::b):(cSs l).getD a.length []=cS x:=by rw[zaD,yN h]
theorem Z9 {l a:List VarD} {x:VarD} {b:List VarD} (h:l=a++x::b):(cWs l).getD a.length []=cW x:=yN h
theorem Yk {l a:List OpD} {x:OpD} {b:List OpD} (h:l=a++x::b):(cOs l).getD a.length []=cO x:=yN h
theorem Yl {l a:List FragD} {x:FragD} {b:List FragD} (h:l=a++x::b):(cFs l).getD a.length []=cF x:=yN h
theorem yM (k:Int) (al nm:List UInt8) (args:List Mem) (dirs:List DirD) (on:List UInt8) (sels:List SelD):cS (.mk k al nm args dirs on sels)=[.int .i64 k,.str al,.str nm,.sl .no 6 (cMs args),.sl .no 2 (cDs dirs),.str on,.sl .no 7 (cSs sels)]:=rfl
theorem zk1 (x:SelD):(cS x).map AV.strip1=cS x:=by cases x;rfl
theorem zrN (x:VarD):(cW x).map AV.strip1=cW x:=by rcases x with ⟨a,b,c,⟨⟩⟩;rfl
theorem zpm (l:List VarD):(cWs l).map (·.map AV.strip1)=cWs l:=by rw[cWs,List.map_map];exact List.map_congr_left fun v _=>zrN v
theorem zu3 (x:SelD):(cS x).length=7:=by cases x;rfl
def bD (x:DirD):Nat:=1+x.nm.length+bMs x.args
def bDs (l:List DirD):Nat:=(l.map bD).sum
mutual
def bS:SelD→Nat
 | .mk _ al nm args dirs on sels=>1+al.length+nm.length+on.length+bMs args+bDs dirs+bSs sels
def bSs:List SelD→Nat
 | []=>0
 | x::r=>bS x+bSs r
end
def bW (x:VarD):Nat:=x.nm.length+x.t.nm.length+bV x.d
def bWs (l:List VarD):Nat:=(l.map bW).sum
def bO (x:OpD):Nat:=1+x.nm.length+bWs x.vars+bDs x.dirs+bSs x.sels
def bOs (l:List OpD):Nat:=(l.map bO).sum
def bF (x:FragD):Nat:=1+x.nm.length+x.on.length+bDs x.dirs+bSs x.sels
def bFs (l:List FragD):Nat:=(l.map bF).sum
def zq (d:DocD):Nat:=bOs d.ops+bFs d.frags
theorem zaE {α:Type} {f:α→Nat} (hf:∀ x,1≤f x):∀ l:List α,l.length≤(l.map f).sum
 | []=>Nat.zero_le _
 | x::r=>by have:=zaE hf r;have:=hf x;simp only[List.map_cons,List.sum_cons,Al2];omega
theorem zcx {α:Type} (f:α→Nat) (a:List α) (x:α) (b:List α):((a++x::b).map f).sum=(a.map f).sum+f x+(b.map f).sum:=by simp;omega
theorem zaA (l:List DirD):l.length≤bDs l:=zaE (fun x=>by simp only[bD];omega) l
theorem yD (l:List VarD):l.length≤bWs l:=zaE (fun x=>by have:=zcY x.d;simp only[bW];omega) l
theorem y9 (l:List OpD):l.length≤bOs l:=zaE (fun x=>by simp only[bO];omega) l
theorem yx (l:List FragD):l.length≤bFs l:=zaE (fun x=>by simp only[bF];omega) l
theorem zwf (x:SelD):1≤bS x:=by cases x;simp only[bS];omega
theorem Z6:∀ l:List SelD,l.length≤bSs l
 | []=>by simp
 | v::r=>by have:=Z6 r;have:=zwf v;simp only[bSs,Al2];omega
theorem zcD (a:List DirD) (x:DirD) (b:List DirD):bDs (a++x::b)=bDs a+bD x+bDs b:=zcx ..
theorem zgD (a:List VarD) (x:VarD) (b:List VarD):bWs (a++x::b)=bWs a+bW x+bWs b:=zcx ..
theorem YE (a:List OpD) (x:OpD) (b:List OpD):bOs (a++x::b)=bOs a+bO x+bOs b:=zcx ..
theorem zgB (a:List FragD) (x:FragD) (b:List FragD):bFs (a++x::b)=bFs a+bF x+bFs b:=zcx ..
theorem zaH (a:List SelD) (x:SelD) (b:List SelD):bSs (a++x::b)=bSs a+bS x+bSs b:=by
 induction a with
 | nil=>simp[bSs]
 | cons y a ih=>simp only[Al6,bSs,ih];omega
mutual
theorem SelD.ind {P:SelD→Prop} (h:∀ k al nm args dirs on sels,(∀ v∈sels,P v)→P (.mk k al nm args dirs on sels)):∀ v,P v
 | .mk k al nm args dirs on sels=>h k al nm args dirs on sels (SelD.indL h sels)
theorem SelD.indL {P:SelD→Prop} (h:∀ k al nm args dirs on sels,(∀ v∈sels,P v)→P (.mk k al nm args dirs on sels)):∀ l:List SelD,∀ v∈l,P v
 | [],_,hv=>by cases hv
 | x::r,v,hv=>(List.mem_cons.1 hv).elim (fun e=>e▸SelD.ind h x) (SelD.indL h r v)
end
theorem ze4 {t:List UInt8} {v:Val} {m:List Mem} (h:Mem.mk t v∈m):bV v≤bMs m:=by
 obtain⟨a,b,hd⟩:=List.append_of_mem h
 have:=za5 a (.mk t v) b
 rw[← hd] at this
 simp only[bM] at this
 omega
end Go.Proofs.YtbjofkamhijjlaaGreatDoor

namespace Go.Proofs.YtbjofkamhijjlaaGreatDoor
open Go.Ab
theorem zjU (m:List Mem) (hm:bMs m≤Lim):zg Tryz.prog 22 [.sl .no 6 (cMs m)] (.sl .no 6 (cMs m)) :=
 zrf m hm fun s v hx=>copyV v (by
  obtain⟨a,b,hd⟩:=List.append_of_mem hx
  have:=za5 a (.mk s v) b
  rw[← hd] at this
  simp only[bM] at this
  omega)
theorem zjr (l:List DirD) (hm:bDs l≤Lim):zg Tryz.prog 19 [.sl .no 2 (cDs l)] (.sl .no 2 (cDs l)):=by
 refine zg.go ir19 ck19 (Al4 _) fun KP Q hQ=>?_
 have h1:=YG l
 have hml:=zaA l
 have hm':=hm
 simp only[Lim] at hm'
 simp(disch:=omega) only[ir19,go_sem]
 refine zf l 4 (fun x:Own×List DirD=>[(3,.sl x.1 2 (cDs x.2))]) (fun done rest x H=>x.2=done∧OwnF zb.emp H x.1 done.length 2) (.nil,[]) (by simp(disch:=omega) only[cDs,go_sem]) ⟨rfl,OwnF.nil _ _⟩ ?_ ?_
 ·rintro⟨o,done⟩ H J ⟨rfl,ho⟩ hlt
  simp(disch:=omega) only[h1,hlt,go_sem]
  exact hQ _ _ _ _ nofun rfl (by simp[zd,ze,AV.strip,AV.strip1])
 ·rintro done x rest ⟨o,ds⟩ H J hd hlt hlt' ⟨hds,ho⟩ hJ
  simp only at hds ho hJ ⊢
  obtain rfl:done=ds:=hds.symm
  have hg:=zaI hd
  have hbm:=zcD done x rest
  rw[← hd] at hbm
  have h2:=YG done
  obtain⟨s,v⟩:=x
  simp only[bD] at hbm
  have ec:cD ⟨s,v⟩=[.str s,.sl .no 6 (cMs v)]:=rfl
  rw[ec] at hg
  simp(disch:=omega) only[zx,zm,zj,zv,zn,zk,zA,h1,hlt,hg,go_sem]
  refine za (zjU v (by simp only[Lim];omega)) ?_
  simp(disch:=omega) only[zx,zm,zj,zv,zn,zk,zA,h1,hlt,hg,go_sem]
  refine zp (by rw[h2];exact ho.own) ?_ ?_ fun o' H' hs=>?_
  ·simp only[h2,Al2,Al3];omega
  ·simp only[h2,Al2,Al3,maxLen];omega
  rw[h2] at hs
  simp(disch:=omega) only[wrap64,go_sem]
  refine goJ (hJ (o',done++[⟨s,v⟩]) H' ⟨rfl,(ho.stepS hs).cast (by simp)⟩) (by simp(disch:=omega) only[cDs,List.map_append,List.map_cons,cD,AV.strip1,go_sem])
theorem zuI:∀ c:Nat,∀ l:List SelD,bSs l≤c→c≤Lim→zg Tryz.prog 9 [.sl .no 7 (cSs l)] (.sl .no 7 (cSs l)):=by
 intro c
 induction c using Nat.strongRecOn with
 | _ c ih =>
 intro l hb hc
 refine zg.go ir9 ck9 (Al4 _) fun KP Q hQ=>?_
 have h1:=ZI l
 have hml:=Z6 l
 have hc':=hc
 simp only[Lim] at hc'
 simp(disch:=omega) only[ir9,go_sem]
 refine zf l 4 (fun x:Own×List SelD=>[(3,.sl x.1 7 (cSs x.2))]) (fun done rest x H=>x.2=done∧OwnF zb.emp H x.1 done.length 7) (.nil,[]) (by simp(disch:=omega) only[cSs,go_sem]) ⟨rfl,OwnF.nil _ _⟩ ?_ ?_
 ·rintro⟨o,done⟩ H J ⟨rfl,ho⟩ hlt
  simp(disch:=omega) only[h1,hlt,go_sem]
  exact hQ _ _ _ _ nofun rfl (by simp[zd,ze,AV.strip,AV.strip1])
 ·rintro done x rest ⟨o,ds⟩ H J hd hlt hlt' ⟨hds,ho⟩ hJ
  simp only at hds ho hJ ⊢
  obtain rfl:done=ds:=hds.symm
  have hg:=Y4 hd
  have hbm:=zaH done x rest
  rw[← hd] at hbm
  have h2:=ZI done
  obtain⟨k,al,nm,args,dirs,on,sels⟩:=x
  simp only[bS] at hbm
  rw[yM] at hg
  simp(disch:=omega) only[h1,hlt,hg,go_sem]
  refine zc fun b hb=>?_
  have ho2:=ho.upd (x:=.cells [.int .i64 k,.str al,.str nm,.sl .no 6 (cMs args),.sl .no 2 (cDs dirs),.str on,.sl .no 7 (cSs sels)]) hb
  simp(disch:=omega) only[h1,hlt,hg,go_sem]
  refine za (zjU args (by simp only[Lim];omega)) ?_
  simp(disch:=omega) only[go_sem]
  refine za (zjr dirs (by simp only[Lim];omega)) ?_
  simp(disch:=omega) only[go_sem]
  refine za (ih (bSs sels) (by omega) sels (Al4 _) (by simp only[Lim];omega)) ?_
  simp(disch:=omega) only[go_sem]
  refine zp (by rw[h2];exact ho2.own) ?_ ?_ fun o' H' hs=>?_
  ·simp only[h2,Al2,Al3];omega
  ·simp only[h2,Al2,Al3,maxLen];omega
  rw[h2] at hs
  simp(disch:=omega) only[wrap64,go_sem]
  refine goJ (hJ (o',done++[.mk k al nm args dirs on sels]) H' ⟨rfl,(ho2.stepS hs).cast (by simp)⟩) (by simp(disch:=omega) only[zaD,List.map_append,List.map_cons,yM,AV.strip1,go_sem])
theorem zka (l:List SelD) (hb:bSs l≤Lim):zg Tryz.prog 9 [.sl .no 7 (cSs l)] (.sl .no 7 (cSs l)):=zuI (bSs l) l (Al4 _) hb
theorem zv6 (k:Int) (nm:List UInt8) (vars:List VarD) (dirs:List DirD) (sels:List SelD):cO ⟨k,nm,vars,dirs,sels⟩=[.int .i64 k,.str nm,.sl .no 10 (cWs vars),.sl .no 2 (cDs dirs),.sl .no 7 (cSs sels)]:=rfl
theorem zpw (nm on:List UInt8) (dirs:List DirD) (sels:List SelD):cF ⟨nm,on,dirs,sels⟩=[.str nm,.str on,.sl .no 2 (cDs dirs),.sl .no 7 (cSs sels)]:=rfl
theorem zof {H:zb} {c b d n sz:Nat} {cs:List AV} (h:zK H (.tip b d) n sz) (hc:H c=some (.cells cs)):b≠c:=fun e=>by
 subst e
 have:H b=some (.tip (d+n) sz):=h
 rw[hc] at this;cases this
theorem Z2 {H H':zb} {o:Own} {n sz c:Nat} {cs:List AV} (h:zK H o n sz) (hc:H c=some (.cells cs)) (hk:Kept H o H'):H' c=some (.cells cs) :=
 hk c _ hc fun d e=>by subst e;exact zof h hc rfl
theorem zb5 {H:zb} {o:Own} {n sz c:Nat} {cs:List AV} {x:AObj} (h:zK H o n sz) (hc:H c=some (.cells cs)):zK (H.upd c x) o n sz:=by
 cases o with
 | tip b d=>have:=zof h hc;show (H.upd c x) b=_;rw[upd_ne this];exact h
 | no=>exact h
 | nil=>exact h
 | full=>exact h
section
variable {bo:Nat} {H H':zb} {a:List OpD} {c:List FragD} {o1 o2 o':Own}
theorem zh1 {o:Own} {n sz:Nat} (h:zK H o n sz) (hk:∀ b x,H b=some x→H' b=some x):zK H' o n sz:=by
 cases o with
 | tip c d=>have h5:H c=some _:=h;exact hk c _ h5
 | no=>exact h
 | nil=>exact h
 | full=>exact h
theorem znp {oo o:Own} {n sz:Nat} (h:zK H oo n sz) (hk:Kept H o H') (hs:∀ b x c y,o=.tip b x→oo=.tip c y→b≠c):zK H' oo n sz:=by
 cases oo with
 | tip c y =>
  have h5:H c=some _:=h
  exact hk c _ h5 fun d e=>hs c d c y e rfl rfl
 | no=>exact h
 | nil=>exact h
 | full=>exact h
end
def b0 {α:Type} (_:α):Nat:=0
def sm {α:Type} (b:α→Nat) (l:List α):Nat:=(l.map b).sum+l.length
def wfD (x:DirD):Prop:=zif x.args
def zo7 (l:List DirD):Prop:=∀ x∈l,wfD x
mutual
def wfS:SelD→Prop
 | .mk _ _ _ args dirs _ sels=>zif args∧zo7 dirs∧zfO sels
def zfO:List SelD→Prop
 | []=>True
 | x::r=>wfS x∧zfO r
end
theorem zlU:∀ {l:List SelD},(∀ v∈l,wfS v)→zfO l
 | [],_=>trivial
 | v::r,h=>⟨h v (.head _),zlU fun x hx=>h x (.tail _ hx)⟩
def wfW (x:VarD):Prop:=inR x.t.lists∧inR x.t.musts∧wfV x.d
def wfO (x:OpD):Prop:=(∀ y∈x.vars,wfW y)∧zo7 x.dirs∧zfO x.sels
def wfF (x:FragD):Prop:=zo7 x.dirs∧zfO x.sels
def zcc (d:DocD):Prop:=(∀ x∈d.ops,wfO x)∧∀ x∈d.frags,wfF x
def pk (s:List UInt8):Tok:=⟨1,s⟩
def wk (s:List UInt8):Tok:=⟨2,s⟩
def Zd (dp:Int) (fixed:Bool) (v:Val):Bool:=zbT v&&(decide (dp+ZV v≤16)&&(!fixed||decide ((ZO v []).length=0)))
def znV (dp:Int) (fixed:Bool):Mem→Bool
 | .mk s v=>zN s&&Zd dp fixed v
def zbC (dp:Int) (fixed:Bool) (l:List Mem):Bool:=l.all (znV dp fixed)
def zjS (dp:Int) (fixed:Bool) (d:DirD):Bool:=zN d.nm&&zbC dp fixed d.args
def Zh (dp:Int) (fixed:Bool) (l:List DirD):Bool:=l.all (zjS dp fixed)
mutual
def Yp (dp : Int) : SelD → Bool
  | .mk k al nm args dirs on sels => Zh dp false dirs &&
    (if k = 0 then zN nm && ((decide (al = []) || zN al) && (decide (on = []) && (zbC dp false args && (decide (sels.length = 0) || (decide (dp + 1 ≤ 16) && y6 (dp + 1) sels)))))
     else if k = 1 then zN nm && (decide (nm ≠ [111, 110]) && (decide (al = []) && (decide (on = []) && (decide (args.length = 0) && decide (sels.length = 0)))))
     else if k = 2 then decide (nm = []) && (decide (al = []) && (decide (args.length = 0) && ((decide (on = []) || zN on) && (decide (sels.length ≠ 0) && (decide (dp + 1 ≤ 16) && y6 (dp + 1) sels)))))
     else false)
def y6 (dp:Int):List SelD→Bool
 | []=>true
 | x::r=>Yp dp x&&y6 dp r
end
def yy (dp:Int) (l:List SelD):Bool:=decide (l.length≠0)&&(decide (dp≤16)&&y6 dp l)
def zO (t:TyD):Bool:=zN t.nm&&(decide (0≤t.lists)&&(decide (t.lists≤4)&&(decide (0≤t.musts)&&decide (t.musts<2 ^ (t.lists.toNat+1)))))
noncomputable def ztO (has:Bool) (v:Val):Bool:=if has then Zd 0 true v else eqd v zV
noncomputable def zfL (x:VarD):Bool:=zN x.nm&&(zO x.t&&ztO x.has x.d)
noncomputable def zel (o:OpD):Bool:=(decide (o.k=0)||decide (o.k=1))&&((decide (o.nm=[])||zN o.nm)&&(o.vars.all zfL&&(Zh 0 true o.dirs&&yy 1 o.sels)))
def zhT (f:FragD):Bool:=decide (f.nm≠[111,110])&&(zN f.nm&&(zN f.on&&(Zh 0 true f.dirs&&yy 1 f.sels)))
noncomputable def Zx (d:DocD):Bool:=decide (0<d.ops.length+d.frags.length)&&(d.ops.all zel&&d.frags.all zhT)
def zkj (l:List Mem):List Tok:=if l.length=0 then [] else pk [40]::(zaJ l++[pk [41]])
def tD (d:DirD):List Tok:=pk [64]::wk d.nm::zkj d.args
def tDs (l:List DirD):List Tok:=l.flatMap tD
mutual
def tS:SelD→List Tok
 | .mk k al nm args dirs on sels=>(if k=0 then (if al=[] then [] else [wk al,pk [58]])++(wk nm::zkj args) else if k=1 then [pk [46,46,46],wk nm] else pk [46,46,46]::(if on=[] then [] else [wk [111,110],wk on])) ++
  (tDs dirs++(if sels.length=0 then [] else pk [123]::(tSl sels++[pk [125]])))
def tSl:List SelD→List Tok
 | []=>[]
 | x::r=>tS x++tSl r
end
def tBl (l:List SelD):List Tok:=pk [123]::(tSl l++[pk [125]])
def zjh (m:Int) (i:Nat):Bool:=decide (m / 2 ^ i % 2=1)
def ztB (n:Nat) (m:Int) (i:Nat):List Tok:=(if i<n then [pk [93]] else [])++(if zjh m i then [pk [33]] else [])
def zrk (n:Nat) (m:Int):Nat→List Tok
 | 0=>ztB n m 0
 | i+1=>ztB n m (i+1)++zrk n m i
def tTy (t:TyD):List Tok:=List.replicate t.lists.toNat (pk [91])++(wk t.nm::zrk t.lists.toNat t.musts t.lists.toNat)
def tDf (has:Bool) (v:Val):List Tok:=if has then pk [61]::zaj v else []
def tW (x:VarD):List Tok:=pk [36]::wk x.nm::pk [58]::(tTy x.t++tDf x.has x.d)
def tWs (l:List VarD):List Tok:=if l.length=0 then [] else pk [40]::(l.flatMap tW++[pk [41]])
def tO (o:OpD):List Tok:=wk (if o.k=0 then [113,117,101,114,121] else [109,117,116,97,116,105,111,110])::((if o.nm=[] then [] else [wk o.nm])++(tWs o.vars++(tDs o.dirs++tBl o.sels)))
def tF (f:FragD):List Tok:=wk [102,114,97,103,109,101,110,116]::wk f.nm::wk [111,110]::wk f.on::(tDs f.dirs++tBl f.sels)
def zwH (d:DocD):List Tok:=d.ops.flatMap tO++d.frags.flatMap tF
theorem znk:∀ a b,tSl (a++b)=tSl a++tSl b
 | [],b=>rfl
 | x::a,b=>by simp[tSl,znk a b]
theorem zbw (dp:Int):∀ a b,y6 dp (a++b)=(y6 dp a&&y6 dp b)
 | [],b=>by simp[y6]
 | x::a,b=>by simp[y6,zbw dp a b,YU]
theorem zi0:∀ a b,zaJ (a++b)=zaJ a++zaJ b
 | [],b=>rfl
 | x::a,b=>by simp[zaJ,zi0 a b]
end Go.Proofs.YtbjofkamhijjlaaGreatDoor
namespace Go.Proofs.YtbjofkamhijjlaaGreatDoor
open Go.Lib
end Go.Proofs.YtbjofkamhijjlaaGreatDoor
namespace Go.Proofs.YtbjofkamhijjlaaGreatDoor
open Go.Ab
abbrev pl (v:Val):Prop:=zdO zN v=true
inductive Shape:Val→Prop
 | null:Shape (.mk 0 0 [] [] [])
 | bool (n:Int) (h:n=0∨n=1):Shape (.mk 1 n [] [] [])
 | int (n:Int):Shape (.mk 2 n [] [] [])
 | num (s:List UInt8) (h:zoO s=true):Shape (.mk 3 0 s [] [])
 | text (s:List UInt8):Shape (.mk 4 0 s [] [])
 | word (s:List UInt8) (h:zol s=false):Shape (.mk 5 0 s [] [])
 | var (s:List UInt8):Shape (.mk 8 0 s [] [])
 | list (l:List Val) (h:zg1 zN l=true):Shape (.mk 6 0 [] l [])
 | obj (m:List Mem) (h:zgM zN m=true):Shape (.mk 7 0 [] [] m)
theorem zfM {n:Int} {s:List UInt8} {l:List Val} {m:List Mem}:zdi n s l m=true↔n=0∧s=[]∧l=[]∧m=[]:=by
 simp[zdi]
theorem shape:∀ v,pl v→Shape v
 | .mk k n s l m,h=>by
  simp only[pl,zdO] at h
  split at h
  ·rename_i k6
   subst k6
   simp only[Al0,zfM] at h
   obtain⟨h1,rfl,rfl,_,rfl⟩:=h
   exact .list l h1
  ·split at h
   ·rename_i k7
    subst k7
    simp only[Al0,zfM] at h
    obtain⟨h1,rfl,rfl,rfl,_⟩:=h
    exact .obj m h1
   ·simp only[Zc,Al0,zfM] at h
    obtain⟨⟨_,_,rfl,rfl⟩,h⟩:=h
    split at h
    ·rename_i k0
     subst k0
     simp only[Al0,yH] at h
     obtain⟨rfl,rfl⟩:=h
     exact .null
    split at h
    ·rename_i k0
     subst k0
     simp only[Al0,zc6,yH] at h
     obtain⟨h,rfl⟩:=h
     exact .bool n h
    split at h
    ·rename_i k0
     subst k0
     simp only[yH] at h
     subst h
     exact .int n
    split at h
    ·rename_i k0
     subst k0
     simp only[Al0,yH] at h
     obtain⟨rfl,h⟩:=h
     exact .num s h
    split at h
    ·rename_i k0
     subst k0
     simp only[Al0,yH] at h
     obtain⟨rfl,h⟩:=h
     exact .text s
    split at h
    ·rename_i k0
     subst k0
     simp only[Al0,yH,Bool.not_eq_true'] at h
     obtain⟨rfl,_,h⟩:=h
     exact .word s h
    split at h
    ·rename_i k0
     subst k0
     simp only[Al0,yH] at h
     obtain⟨rfl,_⟩:=h
     exact .var s
    ·cases h
open Go.Lib
end Go.Proofs.YtbjofkamhijjlaaGreatDoor
namespace Go.Proofs.YtbjofkamhijjlaaGreatDoor
open Go.Ab
open Go.Lib
end Go.Proofs.YtbjofkamhijjlaaGreatDoor
namespace Go.Proofs.YtbjofkamhijjlaaGreatDoor
open Go.Ab
theorem zkc:∀ {l:List SelD},zfO l→∀ v∈l,wfS v
 | _::_,h,v,hv=>(List.mem_cons.1 hv).elim (fun e=>e▸h.1) (zkc h.2 v)
structure FldD where
 nm:List UInt8
 ps:List VarD
 t:TyD
 dirs:List DirD
structure DefD where
 k:Int
 nm:List UInt8
 faces:List (List UInt8)
 flds:List FldD
 parts:List (List UInt8)
 ps:List VarD
structure SchD where
 defs:List DefD
 q:List UInt8
 m:List UInt8
def cL (x:FldD):List AV:=[.str x.nm,.sl .no 10 (cWs x.ps),.str x.t.nm,.int .i64 x.t.lists,.int .i64 x.t.musts,.sl .no 2 (cDs x.dirs)]
def cLs (l:List FldD):List (List AV):=l.map cL
def cE (x:DefD):List AV:=[.int .i64 x.k,.str x.nm,.sl .no 1 (cT x.faces),.sl .no 6 (cLs x.flds),.sl .no 1 (cT x.parts),.sl .no 10 (cWs x.ps)]
def cEs (l:List DefD):List (List AV):=l.map cE
def zl (s:SchD):List AV:=[.sl .no 6 (cEs s.defs),.str s.q,.str s.m]
theorem za3 (l:List FldD):(cLs l).length=l.length:=by simp[cLs]
theorem zff (l:List DefD):(cEs l).length=l.length:=by simp[cEs]
theorem zdH {l a:List FldD} {x:FldD} {b:List FldD} (h:l=a++x::b):(cLs l).getD a.length []=cL x:=yN h
theorem zeV {l a:List DefD} {x:DefD} {b:List DefD} (h:l=a++x::b):(cEs l).getD a.length []=cE x:=yN h
theorem zaL (nm:List UInt8) (ps:List VarD) (tn:List UInt8) (tl tm:Int) (dirs:List DirD):cL ⟨nm,ps,⟨tn,tl,tm⟩,dirs⟩=[.str nm,.sl .no 10 (cWs ps),.str tn,.int .i64 tl,.int .i64 tm,.sl .no 2 (cDs dirs)]:=rfl
theorem yf (k:Int) (nm:List UInt8) (faces:List (List UInt8)) (flds:List FldD) (parts:List (List UInt8)) (ps:List VarD):cE ⟨k,nm,faces,flds,parts,ps⟩=[.int .i64 k,.str nm,.sl .no 1 (cT faces),.sl .no 6 (cLs flds),.sl .no 1 (cT parts),.sl .no 10 (cWs ps)]:=rfl
def bT (l:List (List UInt8)):Nat:=(l.map fun s=>1+s.length).sum
def bL (x:FldD):Nat:=1+x.nm.length+bWs x.ps+x.t.nm.length+bDs x.dirs
def bLs (l:List FldD):Nat:=(l.map bL).sum
def bE (x:DefD):Nat:=1+x.nm.length+bT x.faces+bLs x.flds+bT x.parts+bWs x.ps
def bEs (l:List DefD):Nat:=(l.map bE).sum
def zI (s:SchD):Nat:=bEs s.defs+s.q.length+s.m.length
theorem ZS (l:List (List UInt8)):l.length≤bT l:=zaE (fun x=>by omega) l
theorem zah (l:List FldD):l.length≤bLs l:=zaE (fun x=>by simp only[bL];omega) l
theorem ze2 (l:List DefD):l.length≤bEs l:=zaE (fun x=>by simp only[bE];omega) l
theorem zmg (a:List (List UInt8)) (x:List UInt8) (b:List (List UInt8)):bT (a++x::b)=bT a+(1+x.length)+bT b:=zcx ..
theorem zmZ (a:List FldD) (x:FldD) (b:List FldD):bLs (a++x::b)=bLs a+bL x+bLs b:=zcx ..
theorem zmY (a:List DefD) (x:DefD) (b:List DefD):bEs (a++x::b)=bEs a+bE x+bEs b:=zcx ..
def wfL (x:FldD):Prop:=(∀ y∈x.ps,wfW y)∧inR x.t.lists∧inR x.t.musts∧zo7 x.dirs
def wfE (x:DefD):Prop:=(∀ y∈x.flds,wfL y)∧∀ y∈x.ps,wfW y
def zch (s:SchD):Prop:=∀ x∈s.defs,wfE x
def tPa (x:VarD):List Tok:=wk x.nm::pk [58]::(tTy x.t++tDf x.has x.d)
def tPb (l:List VarD):List Tok:=if l.length=0 then [] else pk [40]::(l.flatMap tPa++[pk [41]])
def tL (x:FldD):List Tok:=wk x.nm::(tPb x.ps++pk [58]::(tTy x.t++tDs x.dirs))
def tNs (m:List UInt8):List (List UInt8)→List Tok
 | []=>[]
 | s::r=>wk s::r.flatMap fun s=>[pk m,wk s]
def tE (x:DefD):List Tok :=
 if x.k=1∨x.k=2 then wk (if x.k=1 then [116,121,112,101] else [105,110,116,101,114,102,97,99,101])::wk x.nm::((if x.faces.length=0 then [] else wk [105,109,112,108,101,109,101,110,116,115]::tNs [38] x.faces)++(pk [123]::(x.flds.flatMap tL++[pk [125]])))
 else if x.k=3 then wk [117,110,105,111,110]::wk x.nm::pk [61]::tNs [124] x.parts
 else if x.k=4 then wk [101,110,117,109]::wk x.nm::pk [123]::(x.parts.map wk++[pk [125]])
 else wk [105,110,112,117,116]::wk x.nm::pk [123]::(x.ps.flatMap tPa++[pk [125]])
def tRt (q m:List UInt8):List Tok:=wk [115,99,104,101,109,97]::pk [123]::wk [113,117,101,114,121]::pk [58]::wk q::((if m=[] then [] else [wk [109,117,116,97,116,105,111,110],pk [58],wk m])++[pk [125]])
noncomputable def zfV (x:FldD):Bool:=zN x.nm&&(x.ps.all zfL&&(zO x.t&&Zh 0 true x.dirs))
def zgb (s:List UInt8):Bool:=decide (s≠[116,114,117,101])&&(decide (s≠[102,97,108,115,101])&&decide (s≠[110,117,108,108]))
noncomputable def zbr (x:DefD):Bool :=
 zN x.nm&&(if x.k=1∨x.k=2 then x.faces.all zN&&(x.flds.all zfV&&(decide (x.flds.length≠0)&&(decide (x.parts.length=0)&&decide (x.ps.length=0))))
 else if x.k=3 then x.parts.all zN&&(decide (x.parts.length≠0)&&(decide (x.faces.length=0)&&(decide (x.flds.length=0)&&decide (x.ps.length=0))))
 else if x.k=4 then (x.parts.all zN&&x.parts.all zgb)&&(decide (x.parts.length≠0)&&(decide (x.faces.length=0)&&(decide (x.flds.length=0)&&decide (x.ps.length=0))))
 else if x.k=5 then x.ps.all zfL&&(decide (x.ps.length≠0)&&(decide (x.faces.length=0)&&(decide (x.flds.length=0)&&decide (x.parts.length=0))))
 else false)
noncomputable def zdl (s:SchD):Bool:=s.defs.all zbr&&(zN s.q&&(decide (s.m=[])||zN s.m))
def zbu {α:Type} (p:α→Bool):List α→Int→Int
 | [],_=>-1
 | x::r,i=>if p x=true then i else zbu p r (i+1)
abbrev At (r:AV) (H:zb):AEnd→zb→Prop:=fun e H'=>∃ v,e=.ret v∧v=r∧H'=H
theorem zlb {α:Type} (p:α→Bool):∀(l:List α) (i:Int),0≤i→decide (0≤zbu p l i)=l.any p
 | [],i,_=>by simp[zbu]
 | x::r,i,hi=>by
  by_cases h:p x=true
  ·simp[zbu,h];omega
  ·simp only[zbu,h,if_false,List.any_cons,Bool.false_or];exact zlb p r (i+1) (by omega)
theorem zaw {α:Type} (p:α→Bool):∀(l:List α) (i:Int),(∃ a x r,l=a++x::r∧p x=true∧l.find? p=some x∧zbu p l i=i+a.length)∨(l.find? p=none∧zbu p l i=-1)
 | [],i=>.inr ⟨rfl,rfl⟩
 | x::l,i=>by
  by_cases h:p x=true
  ·exact .inl ⟨[],x,l,rfl,h,by simp[h],by simp[zbu,h]⟩
  ·rcases zaw p l (i+1) with ⟨a,y,r,h1,h2,h3,h4⟩|⟨h1,h2⟩
   ·exact .inl ⟨x::a,y,r,by simp[h1],h2,by simp[h,h3],by simp[zbu,h,h4];omega⟩
   ·exact .inr ⟨by simp[h,h1],by simp[zbu,h,h2]⟩
def ixF (sz : Nat) (ag : Bool) : AFn := ⟨19, 2, [.t 4], .seq (.reg [] [⟨some 4, none, .mv (.k (.int .i64 0)), []⟩])
  (.seq (.seq (.reg [] [⟨some 6, none, .mv (.t 0), []⟩, ⟨some 7, none, .len (.t 6), []⟩, ⟨some 8, none, .mv (.k (.int .i64 0)), []⟩])
  (.block 0 (.loop [0, 1, 7, 8] (.seq (.reg [] [⟨some 9, none, .bi .lss .i64 (.t 8) (.t 7), []⟩])
    (.seq (.cond (.t 9) (.skip) (.exit 0))
    (.seq (.block 1 (.seq (.reg [] [⟨some 10, none, .mv (.t 8), []⟩, ⟨some 5, none, .mv (.t 10), []⟩])
     (.seq (.reg [] [⟨some 11, none, .mv (.t 1), []⟩, ⟨some 12, none, .mv (.t 0), []⟩, ⟨some 13, none, .mv (.t 5), []⟩, ⟨some 14, none, .ia sz (.t 12) (.t 13), []⟩, ⟨some 15, none, .ld sz ag (.t 14), []⟩, ⟨some 16, none, .callv (.t 11) [(.t 15)], []⟩])
     (.cond (.t 16) (.seq (.reg [] [⟨some 17, none, .mv (.t 5), []⟩, ⟨some 4, none, .mv (.t 17), []⟩])
      (.ret)) (.skip)))))
    (.reg [] [⟨some 18, none, .bi .add .i64 (.t 8) (.k (.int .i64 1)), []⟩, ⟨some 8, none, .mv (.t 18), []⟩])))))))
  (.seq (.reg [] [⟨some 4, none, .mv (.k (.int .i64 (-1))), []⟩])
  (.ret)))⟩
def ctF (g:FuncId):AFn:=⟨9,2,[.t 4],.seq (.reg [] [⟨some 4,none,.mv (.k (.bool false)),[]⟩])
 (.seq (.reg [] [⟨some 5,none,.mv (.t 0),[]⟩,⟨some 6,none,.mv (.t 1),[]⟩,⟨some 7,none,.call g [(.t 5),(.t 6)],[]⟩,⟨some 8,none,.bi .geq .i64 (.t 7) (.k (.int .i64 0)),[]⟩,⟨some 4,none,.mv (.t 8),[]⟩])
 (.ret))⟩
theorem zaf {P:Program} {f:FuncId} {args:List AV} {r:AV} (h:zi P f args zb.emp (At r zb.emp)):zg P f args r:=h.mono fun e H' ⟨v,e1,e2,e3⟩=>by subst e2;exact⟨e1,e3⟩
theorem Ya {P:Program} {f:FuncId} {args:List AV} {r:AV} (h:zg P f args r) (H:zb):zi P f args H (At r H) :=
 (h.use (K:=fun v H'=>v=r∧H'=H) (KP:=fun _ _=>False) ⟨rfl,rfl⟩).mono fun e H' he=>by
  cases e with
  | ret v=>exact⟨v,rfl,he.1,he.2⟩
  | pan v=>exact he.elim
abbrev ByH {α:Type} (l:List α) (v:α→AV) (f:FuncId) (caps:List AV) (p:α→Bool) (H:zb):Prop:=∀ x∈l,zi Tryz.prog f (v x::caps) H (At (.bool (p x)) H)
abbrev ByP {α:Type} (l:List α) (v:α→AV) (f:FuncId) (caps:List AV) (p:α→Bool):Prop:=∀ x∈l,zg Tryz.prog f (v x::caps) (.bool (p x))
theorem YS {α:Type} {sz:Nat} {ag:Bool} {g:FuncId} (hck:zh Tryz.prog g (ixF sz ag)=true) (c:α→List AV) (v:α→AV) (hz:∀ x,(c x).length=sz) (hv:∀ x,mk ag (c x)=v x) (l:List α) (f:FuncId) (caps:List AV) (p:α→Bool) (H:zb) (hl:l.length≤Lim) (hf:Program.callable Tryz.prog f=true) (hc:ByH l v f caps p H) :
  zi Tryz.prog g [.sl .no sz (l.map c),.clo f [] caps] H (At (.int .i64 (zbu p l 0)) H):=by
 refine zi.go (ixF sz ag) hck (Al4 _) fun KP Q hQ=>?_
 have h1:(l.map c).length=l.length:=List.length_map ..
 simp only[Lim] at hl
 simp(disch:=omega) only[ixF,h1,go_sem]
 refine zf l 8 (fun _:Unit=>[]) (fun done rest n H1=>zbu p rest done.length=zbu p l 0∧H1=H) () (by simp(disch:=omega) only[go_sem]) ⟨by simp,rfl⟩ ?_ ?_
 ·rintro n _ J ⟨hp,rfl⟩ hlt
  simp only[zbu] at hp
  simp(disch:=omega) only[h1,hlt,go_sem]
  exact hQ _ _ _ _ _ nofun rfl (Low.refl _) ⟨by simp[zd,ze,AV.strip,AV.strip1,← hp],rfl⟩
 ·rintro done x rest n _ J hd hlt _ ⟨hp,rfl⟩ hJ
  have hg:(l.map c).getD done.length []=c x:=yN hd
  have ht:List.take sz (c x)=c x:=List.take_of_length_le (by rw[hz x];exact Al4 _)
  have hvx:=hv x
  simp(disch:=omega) only[h1,hlt,hg,hz x,ht,Al4,hvx,zH,steps,st2,pev,rev,oev,yJ,yR,Zg,Zf,bound,yi,mm2,zH,AV.cells,AV.boxable,AV.one,AV.strip1,AV.strip2,yh,yc,Nat.reduceEqDiff,reduceCtorEq,↓reduceIte,Nat.reduceAdd,Int.reduceNeg,Nat.reduceLeDiff,Int.reduceToNat,Int.reduceEq,Int.reduceLT,Int.reduceLE,Int.reduceAdd]
  refine⟨hf,zY (hc x (by rw[hd];simp)) ?_⟩
  rintro _ _ ⟨_,rfl,rfl,rfl⟩
  by_cases h:p x=true
  ·simp(disch:=omega) only[ZU,h,go_sem]
   rw[zbu,if_pos h] at hp
   exact hQ _ _ _ _ _ nofun rfl (Low.refl _) ⟨by simp[zd,ze,AV.strip,AV.strip1,← hp],rfl⟩
  ·rw[zbu,if_neg h] at hp
   have h':p x=false:=by simpa using h
   simp(disch:=omega) only[ZU,h',go_sem]
   exact goJ (hJ () _ ⟨by rw[← hp];simp,rfl⟩) (by simp(disch:=omega) only[wrap64,go_sem])
theorem zbn {α:Type} {g g2:FuncId} (hck:zh Tryz.prog g2 (ctF g)=true) {xs v:AV} {l:List α} {p:α→Bool} {H:zb} (hi:zi Tryz.prog g [xs,v] H (At (.int .i64 (zbu p l 0)) H)):zi Tryz.prog g2 [xs,v] H (At (.bool (l.any p)) H):=by
 refine zi.go (ctF g) hck (Al4 _) fun KP Q hQ=>?_
 simp(disch:=omega) only[ctF,go_sem]
 refine zY hi ?_
 rintro _ _ ⟨_,rfl,rfl,rfl⟩
 simp(disch:=omega) only[ZU,go_sem]
 have:=zlb p l 0 (by omega)
 exact hQ _ _ _ _ _ nofun rfl (Low.refl _) ⟨by simp[zd,ze,AV.strip,AV.strip1,this],rfl⟩
theorem zsb {α:Type} (c:α→List AV) (hz:∀ x,(c x).length=6) (l:List α) (f:FuncId) (caps:List AV) (p:α→Bool) (H:zb) (hl:l.length≤Lim) (hf:Program.callable Tryz.prog f=true) (hc:ByH l (fun x=>.agg (c x)) f caps p H):zi Tryz.prog 182 [.sl .no 6 (l.map c),.clo f [] caps] H (At (.bool (l.any p)) H):=zbn ck182 (YS ck225 c (fun x=>.agg (c x)) hz (fun _=>rfl) l f caps p H hl hf hc)
theorem zst {α:Type} (c:α→List AV) (hz:∀ x,(c x).length=6) (l:List α) (f:FuncId) (caps:List AV) (p:α→Bool) (H:zb) (hl:l.length≤Lim) (hf:Program.callable Tryz.prog f=true) (hc:ByH l (fun x=>.agg (c x)) f caps p H):zi Tryz.prog 184 [.sl .no 6 (l.map c),.clo f [] caps] H (At (.int .i64 (zbu p l 0)) H):=YS ck184 c (fun x=>.agg (c x)) hz (fun _=>rfl) l f caps p H hl hf hc
theorem zjM {α:Type} (c:α→List AV) (hz:∀ x,(c x).length=6) (l:List α) (f:FuncId) (caps:List AV) (p:α→Bool) (H:zb) (hl:l.length≤Lim) (hf:Program.callable Tryz.prog f=true) (hc:ByH l (fun x=>.agg (c x)) f caps p H):zi Tryz.prog 109 [.sl .no 6 (l.map c),.clo f [] caps] H (At (.bool (l.any p)) H):=zbn ck109 (YS ck184 c (fun x=>.agg (c x)) hz (fun _=>rfl) l f caps p H hl hf hc)
theorem zvi {α:Type} (c:α→List AV) (hz:∀ x,(c x).length=6) (l:List α) (f:FuncId) (caps:List AV) (p:α→Bool) (hl:l.length≤Lim) (hf:Program.callable Tryz.prog f=true) (hc:ByP l (fun x=>.agg (c x)) f caps p):zg Tryz.prog 184 [.sl .no 6 (l.map c),.clo f [] caps] (.int .i64 (zbu p l 0)):=zaf (YS ck184 c (fun x=>.agg (c x)) hz (fun _=>rfl) l f caps p _ hl hf fun x hx=>Ya (hc x hx) _)
theorem anyOp {α:Type} (c:α→List AV) (hz:∀ x,(c x).length=5) (l:List α) (f:FuncId) (caps:List AV) (p:α→Bool) (hl:l.length≤Lim) (hf:Program.callable Tryz.prog f=true) (hc:ByP l (fun x=>.agg (c x)) f caps p):zg Tryz.prog 60 [.sl .no 5 (l.map c),.clo f [] caps] (.bool (l.any p)):=zaf (zbn ck60 (YS ck132 c (fun x=>.agg (c x)) hz (fun _=>rfl) l f caps p _ hl hf fun x hx=>Ya (hc x hx) _))
theorem zrb {α:Type} (c:α→List AV) (hz:∀ x,(c x).length=4) (l:List α) (f:FuncId) (caps:List AV) (p:α→Bool) (H:zb) (hl:l.length≤Lim) (hf:Program.callable Tryz.prog f=true) (hc:ByH l (fun x=>.agg (c x)) f caps p H):zi Tryz.prog 133 [.sl .no 4 (l.map c),.clo f [] caps] H (At (.bool (l.any p)) H):=zbn ck133 (YS ck20 c (fun x=>.agg (c x)) hz (fun _=>rfl) l f caps p H hl hf hc)
theorem ztg {α:Type} (c:α→List AV) (hz:∀ x,(c x).length=4) (l:List α) (f:FuncId) (caps:List AV) (p:α→Bool) (hl:l.length≤Lim) (hf:Program.callable Tryz.prog f=true) (hc:ByP l (fun x=>.agg (c x)) f caps p):zg Tryz.prog 20 [.sl .no 4 (l.map c),.clo f [] caps] (.int .i64 (zbu p l 0)):=zaf (YS ck20 c (fun x=>.agg (c x)) hz (fun _=>rfl) l f caps p _ hl hf fun x hx=>Ya (hc x hx) _)
theorem zm4 {α:Type} (c:α→List AV) (hz:∀ x,(c x).length=4) (l:List α) (f:FuncId) (caps:List AV) (p:α→Bool) (hl:l.length≤Lim) (hf:Program.callable Tryz.prog f=true) (hc:ByP l (fun x=>.agg (c x)) f caps p):zg Tryz.prog 133 [.sl .no 4 (l.map c),.clo f [] caps] (.bool (l.any p)):=zaf (zbn ck133 (YS ck20 c (fun x=>.agg (c x)) hz (fun _=>rfl) l f caps p _ hl hf fun x hx=>Ya (hc x hx) _))
theorem zs5 {α:Type} (c:α→List AV) (hz:∀ x,(c x).length=10) (l:List α) (f:FuncId) (caps:List AV) (p:α→Bool) (H:zb) (hl:l.length≤Lim) (hf:Program.callable Tryz.prog f=true) (hc:ByH l (fun x=>.agg (c x)) f caps p H):zi Tryz.prog 129 [.sl .no 10 (l.map c),.clo f [] caps] H (At (.bool (l.any p)) H):=zbn ck129 (YS ck192 c (fun x=>.agg (c x)) hz (fun _=>rfl) l f caps p H hl hf hc)
theorem zu1 {α:Type} (c:α→List AV) (hz:∀ x,(c x).length=10) (l:List α) (f:FuncId) (caps:List AV) (p:α→Bool) (hl:l.length≤Lim) (hf:Program.callable Tryz.prog f=true) (hc:ByP l (fun x=>.agg (c x)) f caps p):zg Tryz.prog 192 [.sl .no 10 (l.map c),.clo f [] caps] (.int .i64 (zbu p l 0)):=zaf (YS ck192 c (fun x=>.agg (c x)) hz (fun _=>rfl) l f caps p _ hl hf fun x hx=>Ya (hc x hx) _)
theorem zrg {α:Type} (c:α→List AV) (hz:∀ x,(c x).length=10) (l:List α) (f:FuncId) (caps:List AV) (p:α→Bool) (hl:l.length≤Lim) (hf:Program.callable Tryz.prog f=true) (hc:ByP l (fun x=>.agg (c x)) f caps p):zg Tryz.prog 129 [.sl .no 10 (l.map c),.clo f [] caps] (.bool (l.any p)):=zaf (zbn ck129 (YS ck192 c (fun x=>.agg (c x)) hz (fun _=>rfl) l f caps p _ hl hf fun x hx=>Ya (hc x hx) _))
theorem zg2 {α:Type} (c:α→List AV) (hz:∀ x,(c x).length=10) (l:List α) (f:FuncId) (caps:List AV) (p:α→Bool) (H:zb) (hl:l.length≤Lim) (hf:Program.callable Tryz.prog f=true) (hc:ByH l (fun x=>.agg (c x)) f caps p H):zi Tryz.prog 157 [.sl .no 10 (l.map c),.clo f [] caps] H (At (.bool (l.any p)) H):=zbn ck157 (YS ck201 c (fun x=>.agg (c x)) hz (fun _=>rfl) l f caps p H hl hf hc)
theorem zoN {α:Type} (c:α→List AV) (hz:∀ x,(c x).length=10) (l:List α) (f:FuncId) (caps:List AV) (p:α→Bool) (hl:l.length≤Lim) (hf:Program.callable Tryz.prog f=true) (hc:ByP l (fun x=>.agg (c x)) f caps p):zg Tryz.prog 201 [.sl .no 10 (l.map c),.clo f [] caps] (.int .i64 (zbu p l 0)):=zaf (YS ck201 c (fun x=>.agg (c x)) hz (fun _=>rfl) l f caps p _ hl hf fun x hx=>Ya (hc x hx) _)
theorem zoh {α:Type} (c:α→List AV) (hz:∀ x,(c x).length=10) (l:List α) (f:FuncId) (caps:List AV) (p:α→Bool) (hl:l.length≤Lim) (hf:Program.callable Tryz.prog f=true) (hc:ByP l (fun x=>.agg (c x)) f caps p):zg Tryz.prog 157 [.sl .no 10 (l.map c),.clo f [] caps] (.bool (l.any p)):=zaf (zbn ck157 (YS ck201 c (fun x=>.agg (c x)) hz (fun _=>rfl) l f caps p _ hl hf fun x hx=>Ya (hc x hx) _))
theorem zvX {α:Type} (c:α→List AV) (hz:∀ x,(c x).length=7) (l:List α) (f:FuncId) (caps:List AV) (p:α→Bool) (hl:l.length≤Lim) (hf:Program.callable Tryz.prog f=true) (hc:ByP l (fun x=>.agg (c x)) f caps p):zg Tryz.prog 194 [.sl .no 7 (l.map c),.clo f [] caps] (.bool (l.any p)):=zaf (zbn ck194 (YS ck226 c (fun x=>.agg (c x)) hz (fun _=>rfl) l f caps p _ hl hf fun x hx=>Ya (hc x hx) _))
theorem ztN {α:Type} (c:α→List AV) (hz:∀ x,(c x).length=6) (l:List α) (f:FuncId) (caps:List AV) (p:α→Bool) (H:zb) (hl:l.length≤Lim) (hf:Program.callable Tryz.prog f=true) (hc:ByH l (fun x=>.agg (c x)) f caps p H):zi Tryz.prog 260 [.sl .no 6 (l.map c),.clo f [] caps] H (At (.bool (l.any p)) H):=zbn ck260 (YS ck268 c (fun x=>.agg (c x)) hz (fun _=>rfl) l f caps p H hl hf hc)
theorem zeQ {α:Type} (c:α→AV) (l:List α) (f:FuncId) (caps:List AV) (p:α→Bool) (H:zb) (hl:l.length≤Lim) (hf:Program.callable Tryz.prog f=true) (hc:ByH l c f caps p H):zi Tryz.prog 99 [.sl .no 1 (l.map (fun x=>[c x])),.clo f [] caps] H (At (.bool (l.any p)) H):=zbn ck99 (YS ck180 (fun x=>[c x]) c (fun _=>rfl) (fun _=>rfl) l f caps p H hl hf hc)
theorem zl7 {α:Type} (c:α→AV) (l:List α) (f:FuncId) (caps:List AV) (p:α→Bool) (hl:l.length≤Lim) (hf:Program.callable Tryz.prog f=true) (hc:ByP l c f caps p):zg Tryz.prog 99 [.sl .no 1 (l.map (fun x=>[c x])),.clo f [] caps] (.bool (l.any p)):=zaf (zbn ck99 (YS ck180 (fun x=>[c x]) c (fun _=>rfl) (fun _=>rfl) l f caps p _ hl hf fun x hx=>Ya (hc x hx) _))
theorem zqQ {α:Type} (c:α→AV) (l:List α) (f:FuncId) (caps:List AV) (p:α→Bool) (H:zb) (hl:l.length≤Lim) (hf:Program.callable Tryz.prog f=true) (hc:ByH l c f caps p H):zi Tryz.prog 135 [.sl .no 1 (l.map (fun x=>[c x])),.clo f [] caps] H (At (.bool (l.any p)) H):=zbn ck135 (YS ck193 (fun x=>[c x]) c (fun _=>rfl) (fun _=>rfl) l f caps p H hl hf hc)
theorem zsS {α:Type} (c:α→AV) (l:List α) (f:FuncId) (caps:List AV) (p:α→Bool) (hl:l.length≤Lim) (hf:Program.callable Tryz.prog f=true) (hc:ByP l c f caps p):zg Tryz.prog 135 [.sl .no 1 (l.map (fun x=>[c x])),.clo f [] caps] (.bool (l.any p)):=zaf (zbn ck135 (YS ck193 (fun x=>[c x]) c (fun _=>rfl) (fun _=>rfl) l f caps p _ hl hf fun x hx=>Ya (hc x hx) _))
end Go.Proofs.YtbjofkamhijjlaaGreatDoor
