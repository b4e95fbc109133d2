import Derived.JoinedOf
import Derived.Lib.ItoaMem
import Derived.Lib.ItoaLen
import Derived.Test.YticbbfbpeimkbaaGreatDoorM1
import Derived.Test.YticbbfbpeimkbaaGreatDoorM2
import Derived.Test.YticbbfbpeimkbaaGreatDoorM3
import Derived.Test.YticbbfbpeimkbaaGreatDoorM4
set_option maxRecDepth 100000
set_option linter.all false
namespace Go.Proofs.YticbbfbpeimkbaaGreatDoor
open Go.Ab
structure Tok where
 k:Int
 s:List UInt8
def cK (t:Tok):List AV:=[.int .i64 t.k,.str t.s]
def cKs (l:List Tok):List (List AV):=l.map cK
theorem zlL (a b:List Tok):cKs (a++b)=cKs a++cKs b:=by simp[cKs]
theorem yF (l:List Tok):(cKs l).length=l.length:=by simp[cKs]
theorem zaF (l:List Tok):(cKs l).map (·.map AV.strip1)=cKs l:=by simp[cKs,cK,AV.strip1]
theorem zrt {l a:List Tok} {x:Tok} {b:List Tok} (h:l=a++x::b):(cKs l).getD a.length []=[.int .i64 x.k,.str x.s]:=Zq h
theorem zrf (f:FuncId) (hf:Program.callable Tryz.prog f=true) (a b:List Val) (ha:a.length≤Lim) (hc:∀ x∈a,∀ y,zq Tryz.prog f [.agg (cV x),.agg (cV y)] (.bool (eqd x y))) :
  zq Tryz.prog 128 [.sl .no 5 (cVs a),.sl .no 5 (cVs b),.clo f [] []] (.bool (eqd a b)):=by
 refine zq.go ir128 ck128 (Al4 _) fun KP Q hQ=>?_
 have h1:=Yx a
 have h2:=Yx b
 simp only[Lim] at ha
 by_cases hl:a.length=b.length
 case neg =>
  have hl':¬ ((a.length:Int)=b.length):=by omega
  have hne:a≠b:=fun e=>hl (by rw[e])
  simp(disch:=first|omega|assumption) only[ir128,h1,h2,hl',go_sem]
  exact hQ _ _ _ _ nofun rfl (by simp[zc,zd,AV.strip,AV.strip1,zk hne])
 have hl':((a.length:Int)=b.length)=True:=eq_true (by omega)
 simp(disch:=first|omega|assumption) only[ir128,h1,h2,hl',go_sem]
 refine zx a 17 (fun _:Unit=>[]) (fun done rest n H=>b.take done.length=done) () (by simp(disch:=first|omega|assumption) only[go_sem]) rfl ?_ ?_
 ·rintro n H J hp hlt
  simp(disch:=first|omega|assumption) only[h1,hlt,go_sem]
  exact hQ _ _ _ _ nofun rfl (by simp[zc,zd,AV.strip,AV.strip1,yb (zaz hl hp)])
 ·rintro done x rest n H J hd hlt _ hp hJ
  obtain⟨y,r,hb⟩:=zaq hd hl hp
  have g1:=zar hd
  have g2:=zar hb
  have hlt2:(done.length:Int)<b.length:=by omega
  simp(disch:=first|omega|assumption) only[zo,zg,zf,zn,zh,ze,zu,h1,h2,hlt,hlt2,g1,g2,go_sem]
  refine zl fun b1 hb1=>?_
  simp(disch:=first|omega|assumption) only[zo,zg,zf,zn,zh,ze,zu,h1,h2,hlt,hlt2,g1,g2,go_sem]
  refine zl fun b2 hb2=>?_
  have hne:=zkB hb2
  simp(disch:=first|omega|assumption) only[zo,zg,zf,zn,zh,ze,zu,Ne.symm hne,hne,go_sem]
  refine⟨hf,zb (hc x (by rw[hd];simp) y) ?_⟩
  by_cases hxy:x=y
  ·simp(disch:=first|omega|assumption) only[yb hxy,go_sem]
   exact goJ (hJ () _ (by rw[hxy];exact Yo hb)) (by simp(disch:=first|omega|assumption) only[wrap64,go_sem])
  ·simp(disch:=first|omega|assumption) only[zk hxy,go_sem]
   exact hQ _ _ _ _ nofun rfl (by simp[zc,zd,AV.strip,AV.strip1,zk (zbJ hd hb hxy)])
theorem zr8 (f:FuncId) (hf:Program.callable Tryz.prog f=true) (a b:List Mem) (ha:a.length≤Lim) (hc:∀ x∈a,∀ y,zq Tryz.prog f [.agg (cM x),.agg (cM y)] (.bool (eqd x y))) :
  zq Tryz.prog 129 [.sl .no 6 (cMs a),.sl .no 6 (cMs b),.clo f [] []] (.bool (eqd a b)):=by
 refine zq.go ir129 ck129 (Al4 _) fun KP Q hQ=>?_
 have h1:=ZC a
 have h2:=ZC b
 simp only[Lim] at ha
 by_cases hl:a.length=b.length
 case neg =>
  have hl':¬ ((a.length:Int)=b.length):=by omega
  have hne:a≠b:=fun e=>hl (by rw[e])
  simp(disch:=first|omega|assumption) only[ir129,h1,h2,hl',go_sem]
  exact hQ _ _ _ _ nofun rfl (by simp[zc,zd,AV.strip,AV.strip1,zk hne])
 have hl':((a.length:Int)=b.length)=True:=eq_true (by omega)
 simp(disch:=first|omega|assumption) only[ir129,h1,h2,hl',go_sem]
 refine zx a 17 (fun _:Unit=>[]) (fun done rest n H=>b.take done.length=done) () (by simp(disch:=first|omega|assumption) only[go_sem]) rfl ?_ ?_
 ·rintro n H J hp hlt
  simp(disch:=first|omega|assumption) only[h1,hlt,go_sem]
  exact hQ _ _ _ _ nofun rfl (by simp[zc,zd,AV.strip,AV.strip1,yb (zaz hl hp)])
 ·rintro done x rest n H J hd hlt _ hp hJ
  obtain⟨y,r,hb⟩:=zaq hd hl hp
  have g1:=YU hd
  have g2:=YU hb
  have hlt2:(done.length:Int)<b.length:=by omega
  simp(disch:=first|omega|assumption) only[zo,zg,zf,zn,zh,ze,zu,h1,h2,hlt,hlt2,g1,g2,go_sem]
  refine zl fun b1 hb1=>?_
  simp(disch:=first|omega|assumption) only[zo,zg,zf,zn,zh,ze,zu,h1,h2,hlt,hlt2,g1,g2,go_sem]
  refine zl fun b2 hb2=>?_
  have hne:=zkB hb2
  simp(disch:=first|omega|assumption) only[zo,zg,zf,zn,zh,ze,zu,Ne.symm hne,hne,go_sem]
  refine⟨hf,zb (hc x (by rw[hd];simp) y) ?_⟩
  by_cases hxy:x=y
  ·simp(disch:=first|omega|assumption) only[yb hxy,go_sem]
   exact goJ (hJ () _ (by rw[hxy];exact Yo hb)) (by simp(disch:=first|omega|assumption) only[wrap64,go_sem])
  ·simp(disch:=first|omega|assumption) only[zk hxy,go_sem]
   exact hQ _ _ _ _ nofun rfl (by simp[zc,zd,AV.strip,AV.strip1,zk (zbJ hd hb hxy)])
theorem zpg (s t:List UInt8) (v u:Val) (hc:zq Tryz.prog 59 [.agg (cV v),.agg (cV u)] (.bool (eqd v u))):zq Tryz.prog 130 [.agg (cM (.mk s v)),.agg (cM (.mk t u))] (.bool (eqd (Mem.mk s v) (Mem.mk t u))):=by
 refine zq.go ir130 ck130 (Al4 _) fun KP Q hQ=>?_
 by_cases h1:s=t
 ·simp(disch:=first|omega|assumption) only[zo,zg,zf,zn,zh,ze,zu,ir130,h1,go_sem]
  refine zb hc ?_
  simp(disch:=first|omega|assumption) only[go_sem]
  have:eqd (Mem.mk t v) (Mem.mk t u)=eqd v u:=by
   by_cases h:v=u
   ·rw[yb h,yb (by rw[h])]
   ·rw[zk h,zk (by simp[h])]
  exact hQ _ _ _ _ nofun rfl (by simp[zc,zd,AV.strip,AV.strip1,this,h1])
 ·simp(disch:=first|omega|assumption) only[zo,zg,zf,zn,zh,ze,zu,ir130,h1,go_sem]
  have:eqd (Mem.mk s v) (Mem.mk t u)=false:=zk (by simp[h1])
  exact hQ _ _ _ _ nofun rfl (by simp[zc,zd,AV.strip,AV.strip1,this])
theorem zux:∀ v,bV v≤Lim→∀ u,zq Tryz.prog 59 [.agg (cV v),.agg (cV u)] (.bool (eqd v u)):=by
 refine Val.ind fun k n s l m ihl ihm hb u=>?_
 obtain⟨k',n',s',l',m'⟩:=u
 have hb':1+s.length+bVs l+bMs m≤Lim:=hb
 have hll:=zbc l
 have hml:=Z9 m
 have il:∀ x∈l,∀ y,zq Tryz.prog 59 [.agg (cV x),.agg (cV y)] (.bool (eqd x y)):=fun x hx y=>by
  obtain⟨a,b,hd⟩:=List.append_of_mem hx
  have:=zeg a x b
  rw[← hd] at this
  exact ihl x hx (by omega) y
 have im:∀ x∈m,∀ y,zq Tryz.prog 130 [.agg (cM x),.agg (cM y)] (.bool (eqd x y)):=fun x hx y=>by
  obtain⟨a,b,hd⟩:=List.append_of_mem hx
  have:=za8 a x b
  rw[← hd] at this
  obtain⟨t,v⟩:=x
  obtain⟨t',v'⟩:=y
  simp only[bM] at this
  exact zpg t t' v v' (ihm t v hx (by omega) v')
 refine zq.go ir59 ck59 (Al4 _) fun KP Q hQ=>?_
 by_cases h1:k=k'
 case neg =>
  have hne:¬ (Val.mk k n s l m=Val.mk k' n' s' l' m'):=by simp[h1]
  simp(disch:=first|omega|assumption) only[ir59,yY,h1,go_sem]
  exact hQ _ _ _ _ nofun rfl (by simp[zc,zd,AV.strip,AV.strip1,zk hne])
 by_cases h2:n=n'
 case neg =>
  have hne:¬ (Val.mk k n s l m=Val.mk k' n' s' l' m'):=by simp[h2]
  simp(disch:=first|omega|assumption) only[ir59,yY,h1,h2,go_sem]
  exact hQ _ _ _ _ nofun rfl (by simp[zc,zd,AV.strip,AV.strip1,zk hne])
 by_cases h3:s=s'
 case neg =>
  have hne:¬ (Val.mk k n s l m=Val.mk k' n' s' l' m'):=by simp[h3]
  simp(disch:=first|omega|assumption) only[ir59,yY,h1,h2,h3,go_sem]
  exact hQ _ _ _ _ nofun rfl (by simp[zc,zd,AV.strip,AV.strip1,zk hne])
 simp(disch:=first|omega|assumption) only[ir59,yY,h1,h2,h3,go_sem]
 refine zb (zrf _ (by kernel_rfl) l l' (by omega) il) ?_
 by_cases h4:l=l'
 case neg =>
  have hne:¬ (Val.mk k n s l m=Val.mk k' n' s' l' m'):=by simp[h4]
  simp(disch:=first|omega|assumption) only[zk h4,go_sem]
  exact hQ _ _ _ _ nofun rfl (by simp[zc,zd,AV.strip,AV.strip1,zk hne])
 simp(disch:=first|omega|assumption) only[yb h4,go_sem]
 refine zb (zr8 _ (by kernel_rfl) m m' (by omega) im) ?_
 simp(disch:=first|omega|assumption) only[go_sem]
 have:eqd (Val.mk k n s l m) (Val.mk k' n' s' l' m')=eqd m m':=by
  by_cases h:m=m'
  ·rw[yb h,yb (by rw[h1,h2,h3,h4,h])]
  ·rw[zk h,zk (by simp[h])]
 exact hQ _ _ _ _ nofun rfl (by simp[zc,zd,AV.strip,AV.strip1,this])
theorem zli (a b:List Mem) (ha:a.length≤Lim) (hc:∀ s v,Mem.mk s v∈a→∀ u,zq Tryz.prog 46 [.agg (cV v),.agg (cV u)] (.bool (eqd v u))) :
  zq Tryz.prog 102 [.sl .no 6 (cMs a),.sl .no 6 (cMs b)] (.bool (eqd a b)):=by
 refine zq.go ir102 ck102 (Al4 _) fun KP Q hQ=>?_
 have h1:=ZC a
 have h2:=ZC b
 simp only[Lim] at ha
 by_cases hl:a.length=b.length
 case neg =>
  have hl':¬ ((a.length:Int)=b.length):=by omega
  have hne:a≠b:=fun e=>hl (by rw[e])
  simp(disch:=first|omega|assumption) only[ir102,h1,h2,hl',go_sem]
  exact hQ _ _ _ _ nofun rfl (by simp[zc,zd,AV.strip,AV.strip1,zk hne])
 have hl':((a.length:Int)=b.length)=True:=eq_true (by omega)
 simp(disch:=first|omega|assumption) only[ir102,h1,h2,hl',go_sem]
 refine zx a 5 (fun _:Unit=>[]) (fun done rest n H=>b.take done.length=done) () (by simp(disch:=first|omega|assumption) only[go_sem]) rfl ?_ ?_
 ·rintro n H J hp hlt
  simp(disch:=first|omega|assumption) only[h1,hlt,go_sem]
  exact hQ _ _ _ _ nofun rfl (by simp[zc,zd,AV.strip,AV.strip1,yb (zaz hl hp)])
 ·rintro done x rest n H J hd hlt _ hp hJ
  obtain⟨y,r,hb⟩:=zaq hd hl hp
  have g1:=YU hd
  have g2:=YU hb
  have hlt2:(done.length:Int)<b.length:=by omega
  have hmem:x∈a:=by rw[hd];simp
  have hst:=Yo hb
  have hne:x≠y→a≠b:=zbJ hd hb
  obtain⟨s,v⟩:=x
  obtain⟨t,u⟩:=y
  by_cases hs:s=t
  case neg =>
   have hne2:=hne (by simp[hs])
   simp(disch:=first|omega|assumption) only[zo,zg,zf,zn,zh,ze,zu,h1,h2,hlt,hlt2,g1,g2,hs,go_sem]
   exact hQ _ _ _ _ nofun rfl (by simp[zc,zd,AV.strip,AV.strip1,zk hne2])
  simp(disch:=first|omega|assumption) only[zo,zg,zf,zn,zh,ze,zu,h1,h2,hlt,hlt2,g1,g2,hs,go_sem]
  refine zb (hc s v hmem u) ?_
  by_cases hv:v=u
  ·simp(disch:=first|omega|assumption) only[yb hv,go_sem]
   exact goJ (hJ () _ (by rw[hs,hv];exact hst)) (by simp(disch:=first|omega|assumption) only[wrap64,go_sem])
  ·have:=hne (by simp[hv])
   simp(disch:=first|omega|assumption) only[zk hv,go_sem]
   exact hQ _ _ _ _ nofun rfl (by simp[zc,zd,AV.strip,AV.strip1,zk this])
theorem zsT:∀ v,bV v≤Lim→∀ u,zq Tryz.prog 46 [.agg (cV v),.agg (cV u)] (.bool (eqd v u)):=by
 refine Val.ind fun k n s l m ihl ihm hb u=>?_
 obtain⟨k',n',s',l',m'⟩:=u
 have hb':1+s.length+bVs l+bMs m≤Lim:=hb
 have hll:=zbc l
 have hml:=Z9 m
 have il:∀ x∈l,∀ y,zq Tryz.prog 46 [.agg (cV x),.agg (cV y)] (.bool (eqd x y)):=fun x hx y=>by
  obtain⟨a,b,hd⟩:=List.append_of_mem hx
  have:=zeg a x b
  rw[← hd] at this
  exact ihl x hx (by omega) y
 have im:∀ s v,Mem.mk s v∈m→∀ u,zq Tryz.prog 46 [.agg (cV v),.agg (cV u)] (.bool (eqd v u)):=fun t v hx u=>by
  obtain⟨a,b,hd⟩:=List.append_of_mem hx
  have:=za8 a (.mk t v) b
  rw[← hd] at this
  simp only[bM] at this
  exact ihm t v hx (by omega) u
 refine zq.go ir46 ck46 (Al4 _) fun KP Q hQ=>?_
 have hlb:=Yx l
 have hlb':=Yx l'
 by_cases h1:k=k'
 case neg =>
  have hne:¬ (Val.mk k n s l m=Val.mk k' n' s' l' m'):=by simp[h1]
  simp(disch:=first|omega|assumption) only[ir46,yY,h1,go_sem]
  exact hQ _ _ _ _ nofun rfl (by simp[zc,zd,AV.strip,AV.strip1,zk hne])
 by_cases h2:n=n'
 case neg =>
  have hne:¬ (Val.mk k n s l m=Val.mk k' n' s' l' m'):=by simp[h2]
  simp(disch:=first|omega|assumption) only[ir46,yY,h1,h2,go_sem]
  exact hQ _ _ _ _ nofun rfl (by simp[zc,zd,AV.strip,AV.strip1,zk hne])
 by_cases h3:s=s'
 case neg =>
  have hne:¬ (Val.mk k n s l m=Val.mk k' n' s' l' m'):=by simp[h3]
  simp(disch:=first|omega|assumption) only[ir46,yY,h1,h2,h3,go_sem]
  exact hQ _ _ _ _ nofun rfl (by simp[zc,zd,AV.strip,AV.strip1,zk hne])
 by_cases hl:l.length=l'.length
 case neg =>
  have hl':¬ ((l.length:Int)=l'.length):=by omega
  have hne:¬ (Val.mk k n s l m=Val.mk k' n' s' l' m'):=by simp only[Val.mk.injEq];rintro⟨_,_,_,e,_⟩;exact hl (by rw[e])
  simp(disch:=first|omega|assumption) only[ir46,yY,h1,h2,h3,hlb,hlb',hl',go_sem]
  exact hQ _ _ _ _ nofun rfl (by simp[zc,zd,AV.strip,AV.strip1,zk hne])
 have hl':((l.length:Int)=l'.length)=True:=eq_true (by omega)
 simp(disch:=first|omega|assumption) only[ir46,yY,h1,h2,h3,hlb,hlb',hl',go_sem]
 simp only[Lim] at hb'
 refine zx l 5 (fun _:Unit=>[]) (fun done rest n H=>l'.take done.length=done) () (by simp(disch:=first|omega|assumption) only[go_sem]) rfl ?_ ?_
 ·rintro _ H J hp hlt
  have e4:=zaz hl hp
  simp(disch:=first|omega|assumption) only[hlb,hlt,go_sem]
  refine zb (zli m m' (by simp only[Lim];omega) im) ?_
  simp(disch:=first|omega|assumption) only[go_sem]
  have:eqd (Val.mk k n s l m) (Val.mk k' n' s' l' m')=eqd m m':=by
   by_cases h:m=m'
   ·rw[yb h,yb (by rw[h1,h2,h3,e4,h])]
   ·rw[zk h,zk (by simp[h])]
  exact hQ _ _ _ _ nofun rfl (by simp[zc,zd,AV.strip,AV.strip1,this])
 ·rintro done x rest _ H J hd hlt _ hp hJ
  obtain⟨y,r,hb⟩:=zaq hd hl hp
  have g1:=zar hd
  have g2:=zar hb
  have hlt2:(done.length:Int)<l'.length:=by omega
  simp(disch:=first|omega|assumption) only[zo,zg,zf,zn,zh,ze,zu,hlb,hlb',hlt,hlt2,g1,g2,go_sem]
  refine zb (il x (by rw[hd];simp) y) ?_
  by_cases hxy:x=y
  ·simp(disch:=first|omega|assumption) only[yb hxy,go_sem]
   exact goJ (hJ () _ (by rw[hxy];exact Yo hb)) (by simp(disch:=first|omega|assumption) only[wrap64,go_sem])
  ·have hne:¬ (Val.mk k n s l m=Val.mk k' n' s' l' m'):=by simp only[Val.mk.injEq];rintro⟨_,_,_,e,_⟩;exact zbJ hd hb hxy e
   simp(disch:=first|omega|assumption) only[zk hxy,go_sem]
   exact hQ _ _ _ _ nofun rfl (by simp[zc,zd,AV.strip,AV.strip1,zk hne])
abbrev zt1 (H:za) (o:Own) (sz:Nat) (xs:List (List AV)):AV→za→Prop:=fun v H'=>∃ o',v=.sl o' sz xs∧OwnS H o H' o' xs.length sz
abbrev zh8 (P:Program) (f:FuncId) (args:List AV) (H:za) (o:Own) (sz:Nat) (xs:List (List AV)):Prop :=
 zj P f args H (fun e H'=>match e with|.ret v=>zt1 H o sz xs v H'|.pan _=>False)
theorem Zr {P:Program} {KP:AV→za→Prop} {Q:AExit→Env→za→Prop} {st:List Fr} {ρ:Env} {H:za} {all l:List AItem} {d:Option Nat} {R:List Chk} {f:FuncId} {args:List AV} {o:Own} {sz:Nat} {xs:List (List AV)}
  (h:zh8 P f args H o sz xs) (hk:∀ o' H',OwnS H o H' o' xs.length sz→goR P KP Q all l st R (ρ.set d (.sl o' sz xs)) H'):goK P KP Q all l st d R ρ f args H :=
 zp (XP:=fun _ _=>False) h (fun v H' ⟨o',e,hs⟩=>by subst e;exact hk o' H' hs) (fun _ _ h=>h.elim)
def zkP (s:List UInt8):List (List UInt8)→Bool
 | []=>false
 | x::r=>if x=s then true else zkP s r
def zja (s:List UInt8):List (List UInt8)→Int→Int
 | [],_=>-1
 | x::r,i=>if s=x then i else zja s r (i+1)
theorem zk2 (s:List UInt8):∀ l (i:Int),0≤i→decide (0≤zja s l i)=zkP s l
 | [],i,_=>by simp[zja,zkP]
 | x::r,i,hi=>by
  simp only[zja,zkP]
  by_cases h:s=x
  ·simp[h];omega
  ·simp only[h,Ne.symm h,if_false];exact zk2 s r (i+1) (by omega)
theorem ztp (l:List (List UInt8)) (s:List UInt8) (hl:l.length≤Lim):zq Tryz.prog 289 [.sl .no 1 (cT l),.str s] (.int .i64 (zja s l 0)):=by
 refine zq.go ir289 ck289 (Al4 _) fun KP Q hQ=>?_
 have h1:=zag l
 simp only[Lim] at hl
 simp(disch:=first|omega|assumption) only[ir289,h1,go_sem]
 refine zx l 8 (fun _:Unit=>[]) (fun done rest n H=>zja s rest done.length=zja s l 0) () (by simp(disch:=first|omega|assumption) only[go_sem]) rfl ?_ ?_
 ·rintro n H J hn hlt
  simp(disch:=first|omega|assumption) only[h1,hlt,go_sem]
  simp only[zja] at hn
  exact hQ _ _ _ _ nofun rfl (by simp[zc,zd,AV.strip,AV.strip1,← hn])
 ·rintro done x rest n H J hd hlt _ hn hJ
  have hg:=ztx hd
  simp only[zja] at hn
  by_cases hx:s=x
  ·subst hx
   simp only[if_true] at hn
   simp(disch:=first|omega|assumption) only[h1,hlt,hg,go_sem]
   exact hQ _ _ _ _ nofun rfl (by simp[zc,zd,AV.strip,AV.strip1,← hn])
  ·simp only[hx,if_false] at hn
   simp(disch:=first|omega|assumption) only[h1,hlt,hg,hx,go_sem]
   exact goJ (hJ () _ (by simpa using hn)) (by simp(disch:=first|omega|assumption) only[wrap64,go_sem])
theorem zop (l:List (List UInt8)) (s:List UInt8) (hl:l.length≤Lim):zq Tryz.prog 229 [.sl .no 1 (cT l),.str s] (.bool (zkP s l)):=by
 refine zq.go ir229 ck229 (Al4 _) fun KP Q hQ=>?_
 simp(disch:=first|omega|assumption) only[ir229,go_sem]
 refine zb (ztp l s hl) ?_
 simp(disch:=first|omega|assumption) only[go_sem]
 have:=zk2 s l 0 (by omega)
 exact hQ _ _ _ _ nofun rfl (by simp[zc,zd,AV.strip,AV.strip1,this])
mutual
def yM:Val→List (List UInt8)→List (List UInt8)
 | .mk k _ s l m,acc=>if k=8 then (if zkP s acc then acc else acc++[s]) else if k=6 then ZZ l acc else if k=7 then Z1 m acc else acc
def ZZ:List Val→List (List UInt8)→List (List UInt8)
 | [],acc=>acc
 | v::r,acc=>ZZ r (yM v acc)
def za4:Mem→List (List UInt8)→List (List UInt8)
 | .mk _ v,acc=>yM v acc
def Z1:List Mem→List (List UInt8)→List (List UInt8)
 | [],acc=>acc
 | x::r,acc=>Z1 r (za4 x acc)
end
mutual
theorem zei:∀ v acc,(yM v acc).length≤acc.length+bV v
 | .mk k n s l m,acc=>by
  have h1:=ziD l acc
  have h2:=ziK m acc
  simp only[yM,bV]
  split
  ·split
   ·omega
   ·simp;omega
  ·split
   ·omega
   ·split<;>omega
theorem ziD:∀ l acc,(ZZ l acc).length≤acc.length+bVs l
 | [],acc=>by simp[ZZ]
 | v::r,acc=>by
  have h1:=zei v acc
  have h2:=ziD r (yM v acc)
  simp only[ZZ,bVs];omega
theorem zkf:∀ x acc,(za4 x acc).length≤acc.length+bM x
 | .mk s v,acc=>by have:=zei v acc;simp only[za4,bM];omega
theorem ziK:∀ l acc,(Z1 l acc).length≤acc.length+bMs l
 | [],acc=>by simp[Z1]
 | x::r,acc=>by
  have h1:=zkf x acc
  have h2:=ziK r (za4 x acc)
  simp only[Z1,bMs];omega
end
theorem zuk:∀ v,∀ acc H o,acc.length+bV v≤Lim→yg H o acc.length 1→zh8 Tryz.prog 131 [.sl o 1 (cT acc),.agg (cV v)] H o 1 (cT (yM v acc)):=by
 refine Val.ind fun k n s l m ihl ihm acc H o hb ho=>?_
 have hb':acc.length+(1+s.length+bVs l+bMs m)≤Lim:=hb
 have hll:=zbc l
 have hml:=Z9 m
 have h1:=Yx l
 have h2:=ZC m
 have h3:=zag acc
 simp only[Lim] at hb'
 refine zj.goO ir131 ck131 (Al4 _) fun KP Q hQ hP=>?_
 by_cases k8:k=8
 ·subst k8
  simp(disch:=first|omega|assumption) only[ir131,yY,go_sem]
  refine zb (zq.low (zop acc s (by simp only[Lim];omega))) ?_
  cases hh:zkP s acc with
  | true =>
   simp(disch:=first|omega|assumption) only[hh,go_sem]
   refine hQ _ _ H H _ nofun rfl (Low.refl _) ⟨o,?_,?_⟩
   ·simp[zc,zd,yM,hh]
   ·simpa[yM,hh,h3] using OwnS.refl ho
  | false =>
   simp(disch:=first|omega|assumption) only[hh,go_sem]
   refine zv (by rw[h3];exact ho) ?_ ?_ fun o' H' hs=>?_
   ·simp only[h3,Al2,Al3];omega
   ·simp only[h3,Al2,Al3,maxLen];omega
   simp(disch:=first|omega|assumption) only[go_sem]
   refine hQ _ _ H' H' _ nofun rfl (Low.refl _) ⟨o',?_,?_⟩
   ·simp[zc,zd,yM,hh,cT,AV.strip1]
   ·simpa[yM,hh,h3,zag] using hs
 by_cases k6:k=6
 ·subst k6
  simp(disch:=first|omega|assumption) only[ir131,yY,h1,go_sem]
  refine zx l 28 (fun x:Own×List (List UInt8)=>[(0,.sl x.1 1 (cT x.2))]) (fun done rest x H'=>ZZ rest x.2=ZZ l acc∧x.2.length+bVs rest≤acc.length+bVs l∧OwnS H o H' x.1 x.2.length 1) (o,acc) (by simp(disch:=first|omega|assumption) only[go_sem]) ⟨rfl,by simp,OwnS.refl ho⟩ ?_ ?_
  ·rintro⟨o1,a⟩ H' J ⟨hn,_,hs⟩ hlt
   simp only[ZZ] at hn
   subst hn
   simp(disch:=first|omega|assumption) only[h1,hlt,go_sem]
   refine hQ _ _ H' H' _ nofun rfl (Low.refl _) ⟨o1,?_,?_⟩
   ·simp[zc,zd,yM]
   ·simpa[yM,zag] using hs
  ·rintro done x rest ⟨o1,a⟩ H' J hd hlt _ ⟨hn,hle,hs⟩ hJ
   have hg:=zar hd
   have hx:=zei x a
   simp only[ZZ,bVs] at hn hle
   simp(disch:=first|omega|assumption) only[zo,zg,zf,zn,zh,ze,zu,h1,hlt,hg,go_sem]
   refine zl fun b hb=>?_
   simp(disch:=first|omega|assumption) only[zo,zg,zf,zn,zh,ze,zu,go_sem]
   refine Zr (ihl x (by rw[hd];simp) a _ o1 (by simp only[Lim];omega) (hs.own.upd hb)) fun o2 H2 hs2=>?_
   rw[zag] at hs2
   simp(disch:=first|omega|assumption) only[wrap64,go_sem]
   exact goJ (hJ (o2,yM x a) H2 ⟨hn,by simp only;omega,(hs.upd hb).trans hs2⟩) (by simp(disch:=first|omega|assumption) only[go_sem])
 by_cases k7:k=7
 ·subst k7
  simp(disch:=first|omega|assumption) only[ir131,yY,h2,go_sem]
  refine zx m 41 (fun x:Own×List (List UInt8)=>[(0,.sl x.1 1 (cT x.2))]) (fun done rest x H'=>Z1 rest x.2=Z1 m acc∧x.2.length+bMs rest≤acc.length+bMs m∧OwnS H o H' x.1 x.2.length 1) (o,acc) (by simp(disch:=first|omega|assumption) only[go_sem]) ⟨rfl,by simp,OwnS.refl ho⟩ ?_ ?_
  ·rintro⟨o1,a⟩ H' J ⟨hn,_,hs⟩ hlt
   simp only[Z1] at hn
   subst hn
   simp(disch:=first|omega|assumption) only[h2,hlt,go_sem]
   refine hQ _ _ H' H' _ nofun rfl (Low.refl _) ⟨o1,?_,?_⟩
   ·simp[zc,zd,yM]
   ·simpa[yM,zag] using hs
  ·rintro done x rest ⟨o1,a⟩ H' J hd hlt _ ⟨hn,hle,hs⟩ hJ
   have hg:=YU hd
   have hx:=zkf x a
   simp only[Z1,bMs] at hn hle
   have hmem:x∈m:=by rw[hd];simp
   obtain⟨t,v⟩:=x
   simp only[za4,bM] at hx hn hle
   simp(disch:=first|omega|assumption) only[zo,zg,zf,zn,zh,ze,zu,h2,hlt,hg,go_sem]
   refine zl fun b hb=>?_
   simp(disch:=first|omega|assumption) only[zo,zg,zf,zn,zh,ze,zu,go_sem]
   refine Zr (ihm t v hmem a _ o1 (by simp only[Lim];omega) (hs.own.upd hb)) fun o2 H2 hs2=>?_
   rw[zag] at hs2
   simp(disch:=first|omega|assumption) only[wrap64,go_sem]
   exact goJ (hJ (o2,yM v a) H2 ⟨hn,by simp only;omega,(hs.upd hb).trans hs2⟩) (by simp(disch:=first|omega|assumption) only[go_sem])
 ·simp(disch:=first|omega|assumption) only[ir131,yY,k8,k6,k7,go_sem]
  refine hQ _ _ H H _ nofun rfl (Low.refl _) ⟨o,?_,?_⟩
  ·simp[zc,zd,yM,k8,k6,k7]
  ·simpa[yM,k8,k6,k7,zag] using OwnS.refl ho
theorem zug (v:Val) (h:bV v≤Lim):zq Tryz.prog 60 [.agg (cV v)] (.sl .no 1 (cT (yM v []))):=by
 refine zq.go ir60 ck60 (Al4 _) fun KP Q hQ=>?_
 simp(disch:=first|omega|assumption) only[zo,zg,zf,zn,zh,ze,zu,ir60,go_sem]
 refine Zr (zuk v [] _ .nil (by simpa using h) rfl) fun o' H' hs=>?_
 simp(disch:=first|omega|assumption) only[go_sem]
 exact hQ _ _ _ _ nofun rfl (by simp[zc,zd,AV.strip,AV.strip1])
def isD (c:UInt8):Bool:=decide (48≤c.toNat)&&decide (c.toNat≤57)
def isL (c:UInt8):Bool:=(decide (97≤c.toNat)&&decide (c.toNat≤122))||((decide (65≤c.toNat)&&decide (c.toNat≤90))||decide (c.toNat=95))
theorem zjY (c:UInt8):zq Tryz.prog 226 [.int .u8 (c.toNat:Int)] (.bool (isD c)):=by
 refine zq.go ir226 ck226 (Al4 _) fun KP Q hQ=>?_
 by_cases h:(48:Int)≤c.toNat
 ·simp(disch:=first|omega|assumption) only[ir226,h,go_sem]
  have h':48≤c.toNat:=by omega
  have e:decide ((c.toNat:Int)≤57)=decide (c.toNat≤57):=by rw[decide_eq_decide];omega
  exact hQ _ _ _ _ nofun rfl (by simp[zc,zd,AV.strip,AV.strip1,isD,h',e])
 ·simp(disch:=first|omega|assumption) only[ir226,h,go_sem]
  have h':¬ 48≤c.toNat:=by omega
  exact hQ _ _ _ _ nofun rfl (by simp[zc,zd,AV.strip,AV.strip1,isD,h'])
theorem zgf (c:UInt8):zq Tryz.prog 223 [.int .u8 (c.toNat:Int)] (.bool (isL c)):=by
 refine zq.go ir223 ck223 (Al4 _) fun KP Q hQ=>?_
 have e:decide ((c.toNat:Int)=95)=decide (c.toNat=95):=by rw[decide_eq_decide];omega
 by_cases h:(97:Int)≤c.toNat
 ·have h':97≤c.toNat:=by omega
  by_cases h2:(c.toNat:Int)≤122
  ·have h2':c.toNat≤122:=by omega
   simp(disch:=first|omega|assumption) only[ir223,h,h2,go_sem]
   exact hQ _ _ _ _ nofun rfl (by simp[zc,zd,AV.strip,AV.strip1,isL,h',h2'])
  ·have h2':¬ c.toNat≤122:=by omega
   have h3:(65:Int)≤c.toNat:=by omega
   have h4:¬ (c.toNat:Int)≤90:=by omega
   have h4':¬ c.toNat≤90:=by omega
   simp(disch:=first|omega|assumption) only[ir223,h,h2,h3,h4,go_sem]
   exact hQ _ _ _ _ nofun rfl (by simp[zc,zd,AV.strip,AV.strip1,isL,h',h2',h4',e])
 ·have h':¬ 97≤c.toNat:=by omega
  by_cases h3:(65:Int)≤c.toNat
  ·have h3':65≤c.toNat:=by omega
   by_cases h4:(c.toNat:Int)≤90
   ·have h4':c.toNat≤90:=by omega
    simp(disch:=first|omega|assumption) only[ir223,h,h3,h4,go_sem]
    exact hQ _ _ _ _ nofun rfl (by simp[zc,zd,AV.strip,AV.strip1,isL,h',h3',h4'])
   ·have h4':¬ c.toNat≤90:=by omega
    simp(disch:=first|omega|assumption) only[ir223,h,h3,h4,go_sem]
    exact hQ _ _ _ _ nofun rfl (by simp[zc,zd,AV.strip,AV.strip1,isL,h',h3',h4',e])
  ·have h3':¬ 65≤c.toNat:=by omega
   simp(disch:=first|omega|assumption) only[ir223,h,h3,go_sem]
   exact hQ _ _ _ _ nofun rfl (by simp[zc,zd,AV.strip,AV.strip1,isL,h',h3',e])
def zdD:List UInt8→Nat→Bool
 | [],_=>true
 | c::r,i=>if isL c||(decide (i≠0)&&isD c) then zdD r (i+1) else false
def ym (s:List UInt8):Bool:=zdD s 0&&decide (s≠[])
theorem zrD {s a:List UInt8} {x:UInt8} {b:List UInt8} (h:s=a++x::b):s.getD a.length 0=x:=by subst h;simp
theorem zhX (s:List UInt8) (hs:s.length≤Lim):zq Tryz.prog 203 [.str s] (.bool (ym s)):=by
 refine zq.go ir203 ck203 (Al4 _) fun KP Q hQ=>?_
 simp only[Lim] at hs
 simp(disch:=first|omega|assumption) only[ir203,go_sem]
 refine zx s 6 (fun _:Unit=>[]) (fun done rest n H=>zdD rest done.length=zdD s 0) () (by simp(disch:=first|omega|assumption) only[go_sem]) rfl ?_ ?_
 ·rintro n H J hn hlt
  simp only[zdD] at hn
  simp(disch:=first|omega|assumption) only[hlt,go_sem]
  have e:(!decide (s=[]))=decide (s≠[]):=by simp
  exact hQ _ _ _ _ nofun rfl (by simp[zc,zd,AV.strip,AV.strip1,ym,← hn])
 ·rintro done x rest n H J hd hlt _ hn hJ
  have hg:=zrD hd
  simp only[zdD] at hn
  simp(disch:=first|omega|assumption) only[hlt,hg,go_sem]
  refine zb (zgf x) ?_
  cases hl:isL x with
  | true =>
   simp only[hl,Bool.true_or,if_true] at hn
   simp(disch:=first|omega|assumption) only[hl,go_sem]
   exact goJ (hJ () _ (by simpa using hn)) (by simp(disch:=first|omega|assumption) only[wrap64,go_sem])
  | false =>
   by_cases h0:done.length=0
   ·have h0':(done.length:Int)=0:=by omega
    simp only[hl,h0,ne_eq,not_true_eq_false,decide_false,Bool.false_and,Bool.or_false,Al7,if_false] at hn
    simp(disch:=first|omega|assumption) only[hl,h0',go_sem]
    exact hQ _ _ _ _ nofun rfl (by simp[zc,zd,AV.strip,AV.strip1,ym,← hn])
   ·have h0':¬ (done.length:Int)=0:=by omega
    simp(disch:=first|omega|assumption) only[hl,h0',hlt,hg,go_sem]
    refine zb (zjY x) ?_
    cases hdg:isD x with
    | true =>
     simp only[hl,hdg,h0,ne_eq,not_false_eq_true,decide_true,Bool.and_self,Bool.or_true,if_true] at hn
     simp(disch:=first|omega|assumption) only[hdg,go_sem]
     exact goJ (hJ () _ (by simpa using hn)) (by simp(disch:=first|omega|assumption) only[wrap64,go_sem])
    | false =>
     simp only[hl,hdg,Bool.and_false,Bool.or_false,Al7,if_false] at hn
     simp(disch:=first|omega|assumption) only[hdg,go_sem]
     exact hQ _ _ _ _ nofun rfl (by simp[zc,zd,AV.strip,AV.strip1,ym,← hn])
def yu:List UInt8→Nat
 | []=>0
 | c::r=>if isD c then yu r+1 else 0
theorem zaw:∀ l,yu l≤l.length
 | []=>Al4 _
 | c::r=>by have:=zaw r;simp only[yu,Al2];split<;>omega
theorem zd3 (s:List UInt8) (k:Nat):(s.drop k=[]∧s.length≤k)∨(k<s.length∧s.drop k=s.getD k 0::s.drop (k+1)):=by
 rcases Nat.lt_or_ge k s.length with h|h
 ·right
  refine⟨h,?_⟩
  rw[List.drop_eq_getElem_cons h]
  simp[h]
 ·left;exact⟨List.drop_of_length_le h,h⟩
theorem YB (s:List UInt8) (hs:s.length≤Lim):zq Tryz.prog 285 [.str s] (.int .i64 (yu s)):=by
 refine zq.go ir285 ck285 (Al4 _) fun KP Q hQ=>?_
 simp only[Lim] at hs
 have hr1:=zaw s
 simp(disch:=first|omega|assumption) only[ir285,go_sem]
 refine yB (fun n:Nat=>[(3,.int .i64 n)]) (fun n H=>yu s=n+yu (s.drop n)∧n≤s.length) (fun n=>s.length-n) 0 (by simp(disch:=first|omega|assumption) only[go_sem]) ⟨by simp,by omega⟩ ?_
 rintro n H J ⟨hn,hle⟩ hJ
 rcases zd3 s n with ⟨h1,h2⟩|⟨h1,h2⟩
 ·have hlt:¬ ((n:Int)<s.length):=by omega
  rw[h1] at hn
  simp only[yu,Nat.add_zero] at hn
  simp(disch:=first|omega|assumption) only[hlt,go_sem]
  exact hQ _ _ _ _ nofun rfl (by simp[zc,zd,AV.strip,AV.strip1,hn])
 ·have hlt:((n:Int)<s.length):=by omega
  rw[h2] at hn
  simp only[yu] at hn
  simp(disch:=first|omega|assumption) only[hlt,go_sem]
  refine zb (zjY (s.getD n 0)) ?_
  cases hd:isD (s.getD n 0) with
  | true =>
   simp only[hd,if_true] at hn
   simp(disch:=first|omega|assumption) only[hd,go_sem]
   exact goJ (hJ (n+1) _ (by omega) ⟨by omega,by omega⟩) (by simp(disch:=first|omega|assumption) only[wrap64,Int.natCast_add,Int.natCast_one,go_sem])
  | false =>
   simp only[hd,Al7,if_false,Nat.add_zero] at hn
   simp(disch:=first|omega|assumption) only[hd,go_sem]
   exact hQ _ _ _ _ nofun rfl (by simp[zc,zd,AV.strip,AV.strip1,hn])
theorem zm2 (c:UInt8) (s:List UInt8):[c].isPrefixOf s=decide (s.head?=some c):=by
 cases s with
 | nil=>rfl
 | cons d r =>
  by_cases h:d=c
  ·subst h;simp[List.isPrefixOf]
  ·have h':¬ c=d:=fun e=>h e.symm
   simp[List.isPrefixOf,h,h']
def Y5 (s:List UInt8):Nat:=if yu s=0 then 0 else if s.getD 0 0=48 then 1 else yu s
def zX (s:List UInt8):Nat:=if s.head?=some 45 then (if yu s.tail=0 then 0 else 1+Y5 s.tail) else Y5 s
theorem znC (s:List UInt8):Y5 s≤s.length:=by have:=zaw s;unfold Y5;split<;>(try split)<;>omega
theorem zfp (s:List UInt8):zX s≤s.length:=by
 have h1:=znC s
 have h2:=znC s.tail
 unfold zX
 split
 ·rename_i h
  cases s with
  | nil=>simp at h
  | cons c r =>
   simp only[List.tail_cons,Al2] at h2 ⊢
   by_cases h0:yu r=0<;>simp only[h0,if_true,if_false]<;>omega
 ·exact h1
theorem zh5 (a:UInt8) (n:Nat) (hn:n<256):decide ((a.toNat:Int)=n)=decide (a=UInt8.ofNat n):=by
 rw[decide_eq_decide]
 have:(UInt8.ofNat n).toNat=n:=by simp[UInt8.toNat_ofNat'];omega
 constructor
 ·intro h;apply UInt8.toNat_inj.1;rw[this];omega
 ·intro h;subst h;rw[this]
theorem zty (s:List UInt8) (hs:s.length≤Lim):zq Tryz.prog 284 [.str s] (.int .i64 (zX s)):=by
 refine zq.go ir284 ck284 (Al4 _) fun KP Q hQ=>?_
 simp only[Lim] at hs
 simp(disch:=first|omega|assumption) only[ir284,go_sem]
 refine zb (za0 s [45]) ?_
 rw[zm2]
 by_cases h:s.head?=some 45
 ·cases s with
  | nil=>simp at h
  | cons c r =>
   have hc:c=45:=by simpa using h
   subst hc
   simp only[Al2] at hs
   have h1:(1:Int)≤((r.length+1:Nat):Int):=by omega
   have h2:(1:Int)<((r.length+1:Nat):Int)∨r=[]:=by cases r<;>simp;omega
   simp(disch:=first|omega|assumption) only[h,h1,Int.toNat_one,go_sem]
   refine zb (YB r (by simp only[Lim];omega)) ?_
   by_cases h0:yu r=0
   ·simp(disch:=first|omega|assumption) only[h0,go_sem]
    exact hQ _ _ _ _ nofun rfl (by simp[zc,zd,AV.strip,AV.strip1,zX,h0])
   ·have h0':¬ ((yu r:Int)=0):=by omega
    have hrl:=zaw r
    have hlt:(1:Int)<((r.length+1:Nat):Int):=by omega
    have e:=zh5 (r.getD 0 0) 48 (by omega)
    by_cases h48:r.getD 0 0=48
    ·have hi:Y5 r=1:=by simp only[Y5,h0,h48,if_false,if_true]
     simp(disch:=first|omega|assumption) only[h0',hlt,Int.toNat_one,h48,UInt8.reduceToNat,wrap64,go_sem]
     exact hQ _ _ _ _ nofun rfl (by simp[zc,zd,AV.strip,AV.strip1,zX,h0,hi])
    ·have h48':¬ ((r.getD 0 0).toNat:Int)=48:=by
      intro hh
      rw[decide_eq_true (by exact hh)] at e
      exact h48 (by simpa using e.symm)
     have hi:Y5 r=yu r:=by simp only[Y5,h0,h48,if_false]
     simp(disch:=first|omega|assumption) only[h0',hlt,Int.toNat_one,h48',wrap64,go_sem]
     exact hQ _ _ _ _ nofun rfl (by simp[zc,zd,AV.strip,AV.strip1,zX,h0,hi])
 ·simp(disch:=first|omega|assumption) only[h,go_sem]
  refine zb (YB s (by simp only[Lim];omega)) ?_
  by_cases h0:yu s=0
  ·simp(disch:=first|omega|assumption) only[h0,go_sem]
   exact hQ _ _ _ _ nofun rfl (by simp[zc,zd,AV.strip,AV.strip1,zX,h,Y5,h0])
  ·have h0':¬ ((yu s:Int)=0):=by omega
   have hrl:=zaw s
   have hlt:(0:Int)<(s.length:Int):=by omega
   have e:=zh5 (s.getD 0 0) 48 (by omega)
   by_cases h48:s.getD 0 0=48
   ·have hi:Y5 s=1:=by simp only[Y5,h0,h48,if_false,if_true]
    simp(disch:=first|omega|assumption) only[h0',hlt,h48,UInt8.reduceToNat,wrap64,go_sem]
    exact hQ _ _ _ _ nofun rfl (by simp[zc,zd,AV.strip,AV.strip1,zX,h,hi])
   ·have h48':¬ ((s.getD 0 0).toNat:Int)=48:=by
     intro hh
     rw[decide_eq_true (by exact hh)] at e
     exact h48 (by simpa using e.symm)
    have hi:Y5 s=yu s:=by simp only[Y5,h0,h48,if_false]
    simp(disch:=first|omega|assumption) only[h0',hlt,h48',wrap64,go_sem]
    exact hQ _ _ _ _ nofun rfl (by simp[zc,zd,AV.strip,AV.strip1,zX,h,hi])
def isE (c:UInt8):Bool:=decide (c=101)||decide (c=69)
def sgN (r:List UInt8):Nat:=if r.head?=some 43∨r.head?=some 45 then 1 else 0
def zaX:List UInt8→Nat
 | []=>0
 | c::r=>if isE c then (if yu (r.drop (sgN r))=0 then 0 else 1+sgN r+yu (r.drop (sgN r))) else 0
theorem zlU (r:List UInt8):sgN r≤r.length:=by
 unfold sgN
 split
 ·cases r<;>simp_all
 ·omega
theorem zjG:∀ s,zaX s≤s.length
 | []=>by simp[zaX]
 | c::r=>by
  have h:=zaw (r.drop (sgN r))
  have h2:=zlU r
  rw[List.length_drop] at h
  simp only[zaX,Al2]
  split
  ·split<;>omega
  ·omega
theorem zl9 (s:List UInt8) (hs:s.length≤Lim):zq Tryz.prog 286 [.str s] (.int .i64 (zaX s)):=by
 refine zq.go ir286 ck286 (Al4 _) fun KP Q hQ=>?_
 simp only[Lim] at hs
 cases s with
 | nil =>
  simp(disch:=first|omega|assumption) only[ir286,go_sem]
  exact hQ _ _ _ _ nofun rfl (by simp[zc,zd,AV.strip,AV.strip1,zaX])
 | cons c r =>
  simp only[Al2] at hs
  have hne:¬ (c::r=[]):=by simp
  have hp:(0:Int)<((r.length+1:Nat):Int):=by omega
  have e1:=zh5 c 101 (by omega)
  have e2:=zh5 c 69 (by omega)
  have hE:∀(P:Prop),P→P:=fun _ h=>h
  by_cases hc:isE c=true
  case neg =>
   have hc1:¬ (c.toNat:Int)=101:=by
    intro hh;rw[decide_eq_true (by exact hh)] at e1
    exact hc (by simp[isE,(by simpa using e1.symm:c=101)])
   have hc2:¬ (c.toNat:Int)=69:=by
    intro hh;rw[decide_eq_true (by exact hh)] at e2
    exact hc (by simp[isE,(by simpa using e2.symm:c=69)])
   simp(disch:=first|omega|assumption) only[ir286,hne,hp,hc1,hc2,go_sem]
   have hcf:isE c=false:=by simpa using hc
   exact hQ _ _ _ _ nofun rfl (by simp[zc,zd,AV.strip,AV.strip1,zaX,hcf])
  have fin:∀ k:Nat,yu (r.drop (sgN r))=k→zaX (c::r)=if k=0 then 0 else 1+sgN r+k:=fun k hk=>by subst hk;simp only[zaX,hc,if_true]
  have hcase:(c.toNat:Int)=101∨(¬ (c.toNat:Int)=101∧(c.toNat:Int)=69):=by
   simp only[isE,Bool.or_eq_true,decide_eq_true_eq] at hc
   rcases hc with rfl|rfl
   ·exact .inl rfl
   ·exact .inr ⟨by decide,rfl⟩
  have hdl:=zaw (r.drop (sgN r))
  rw[List.length_drop] at hdl
  have hsl:=zlU r
  cases r with
  | nil =>
   have k0:=fin 0 (by simp[sgN,yu])
   rcases hcase with h1|⟨h1,h2⟩
   ·simp(disch:=first|omega|assumption) only[ir286,h1,go_sem]
    refine zb (YB [] (by simp)) ?_
    simp(disch:=first|omega|assumption) only[yu,go_sem]
    exact hQ _ _ _ _ nofun rfl (by simp[zc,zd,AV.strip,AV.strip1,k0])
   ·simp(disch:=first|omega|assumption) only[ir286,h1,h2,go_sem]
    refine zb (YB [] (by simp)) ?_
    simp(disch:=first|omega|assumption) only[yu,go_sem]
    exact hQ _ _ _ _ nofun rfl (by simp[zc,zd,AV.strip,AV.strip1,k0])
  | cons d t =>
   simp only[Al2] at hs
   have hl1:(1:Int)<((t.length+1+1:Nat):Int):=by omega
   have hl2:(2:Int)≤((t.length+1+1:Nat):Int):=by omega
   have hl3:(1:Int)≤((t.length+1+1:Nat):Int):=by omega
   have f1:=zh5 d 43 (by omega)
   have f2:=zh5 d 45 (by omega)
   by_cases hsg:d=43∨d=45
   ·have hsg1:sgN (d::t)=1:=by simp only[sgN,List.head?_cons,Al1,hsg,if_true]
    have k0:=fin (yu t) (by rw[hsg1];rfl)
    rw[hsg1] at k0 hdl
    have hd:(d.toNat:Int)=43∨(¬ (d.toNat:Int)=43∧(d.toNat:Int)=45):=by
     rcases hsg with rfl|rfl
     ·exact .inl rfl
     ·exact .inr ⟨by decide,rfl⟩
    rcases hcase with h1|⟨h1,h2⟩<;>rcases hd with h3|⟨h3,h4⟩
    all_goals
     simp only[hl1,hl2,Al2,List.drop_succ_cons,List.drop_zero] at hdl
    ·simp(disch:=first|omega|assumption) only[ir286,h1,h3,hl1,hl2,Int.toNat_one,go_sem]
     refine zb (YB t (by simp only[Lim];omega)) ?_
     by_cases hz:yu t=0
     ·simp(disch:=first|omega|assumption) only[hz,go_sem]
      exact hQ _ _ _ _ nofun rfl (by simp[zc,zd,AV.strip,AV.strip1,k0,hz])
     ·have hz':¬ (yu t:Int)=0:=by omega
      simp(disch:=first|omega|assumption) only[hz',wrap64,go_sem]
      exact hQ _ _ _ _ nofun rfl (by simp[zc,zd,AV.strip,AV.strip1,k0,hz])
    ·simp(disch:=first|omega|assumption) only[ir286,h1,h3,h4,hl1,hl2,Int.toNat_one,go_sem]
     refine zb (YB t (by simp only[Lim];omega)) ?_
     by_cases hz:yu t=0
     ·simp(disch:=first|omega|assumption) only[hz,go_sem]
      exact hQ _ _ _ _ nofun rfl (by simp[zc,zd,AV.strip,AV.strip1,k0,hz])
     ·have hz':¬ (yu t:Int)=0:=by omega
      simp(disch:=first|omega|assumption) only[hz',wrap64,go_sem]
      exact hQ _ _ _ _ nofun rfl (by simp[zc,zd,AV.strip,AV.strip1,k0,hz])
    ·simp(disch:=first|omega|assumption) only[ir286,h1,h2,h3,hl1,hl2,Int.toNat_one,go_sem]
     refine zb (YB t (by simp only[Lim];omega)) ?_
     by_cases hz:yu t=0
     ·simp(disch:=first|omega|assumption) only[hz,go_sem]
      exact hQ _ _ _ _ nofun rfl (by simp[zc,zd,AV.strip,AV.strip1,k0,hz])
     ·have hz':¬ (yu t:Int)=0:=by omega
      simp(disch:=first|omega|assumption) only[hz',wrap64,go_sem]
      exact hQ _ _ _ _ nofun rfl (by simp[zc,zd,AV.strip,AV.strip1,k0,hz])
    ·simp(disch:=first|omega|assumption) only[ir286,h1,h2,h3,h4,hl1,hl2,Int.toNat_one,go_sem]
     refine zb (YB t (by simp only[Lim];omega)) ?_
     by_cases hz:yu t=0
     ·simp(disch:=first|omega|assumption) only[hz,go_sem]
      exact hQ _ _ _ _ nofun rfl (by simp[zc,zd,AV.strip,AV.strip1,k0,hz])
     ·have hz':¬ (yu t:Int)=0:=by omega
      simp(disch:=first|omega|assumption) only[hz',wrap64,go_sem]
      exact hQ _ _ _ _ nofun rfl (by simp[zc,zd,AV.strip,AV.strip1,k0,hz])
   ·have hsg0:sgN (d::t)=0:=by simp only[sgN,List.head?_cons,Al1,hsg,if_false]
    have k0:=fin (yu (d::t)) (by rw[hsg0];rfl)
    rw[hsg0] at k0 hdl
    have h3:¬ (d.toNat:Int)=43:=by
     intro hh;rw[decide_eq_true (by exact hh)] at f1
     exact hsg (.inl (by simpa using f1.symm))
    have h4:¬ (d.toNat:Int)=45:=by
     intro hh;rw[decide_eq_true (by exact hh)] at f2
     exact hsg (.inr (by simpa using f2.symm))
    simp only[List.drop_zero,Al2] at hdl
    rcases hcase with h1|⟨h1,h2⟩
    ·simp(disch:=first|omega|assumption) only[ir286,h1,h3,h4,hl1,hl3,Int.toNat_one,go_sem]
     refine zb (YB (d::t) (by simp only[Lim,Al2];omega)) ?_
     by_cases hz:yu (d::t)=0
     ·simp(disch:=first|omega|assumption) only[hz,go_sem]
      exact hQ _ _ _ _ nofun rfl (by simp[zc,zd,AV.strip,AV.strip1,k0,hz])
     ·have hz':¬ (yu (d::t):Int)=0:=by omega
      simp(disch:=first|omega|assumption) only[hz',wrap64,go_sem]
      exact hQ _ _ _ _ nofun rfl (by simp[zc,zd,AV.strip,AV.strip1,k0,hz])
    ·simp(disch:=first|omega|assumption) only[ir286,h1,h2,h3,h4,hl1,hl3,Int.toNat_one,go_sem]
     refine zb (YB (d::t) (by simp only[Lim,Al2];omega)) ?_
     by_cases hz:yu (d::t)=0
     ·simp(disch:=first|omega|assumption) only[hz,go_sem]
      exact hQ _ _ _ _ nofun rfl (by simp[zc,zd,AV.strip,AV.strip1,k0,hz])
     ·have hz':¬ (yu (d::t):Int)=0:=by omega
      simp(disch:=first|omega|assumption) only[hz',wrap64,go_sem]
      exact hQ _ _ _ _ nofun rfl (by simp[zc,zd,AV.strip,AV.strip1,k0,hz])
def ZL (r:List UInt8):Nat:=if r.head?=some 46∧0<yu r.tail then 1+yu r.tail else 0
def y5 (s:List UInt8):Nat×Int :=
 if zX s=0 then (0,0) else
  (zX s+ZL (s.drop (zX s))+zaX (s.drop (zX s+ZL (s.drop (zX s)))),if ZL (s.drop (zX s))=0∧zaX (s.drop (zX s+ZL (s.drop (zX s))))=0 then 3 else 4)
theorem zkO (r:List UInt8):ZL r≤r.length:=by
 unfold ZL
 split
 ·rename_i h
  cases r with
  | nil=>simp at h
  | cons c t=>have:=zaw t;simp only[List.tail_cons,Al2];omega
 ·omega
theorem znK (s:List UInt8) (hs:s.length≤Lim):zq Tryz.prog 225 [.str s] (.tup [.int .i64 (y5 s).1,.int .i64 (y5 s).2]):=by
 refine zq.go ir225 ck225 (Al4 _) fun KP Q hQ=>?_
 have hs':=hs
 simp only[Lim] at hs
 simp(disch:=first|omega|assumption) only[ir225,go_sem]
 refine zb (zty s hs') ?_
 have hw:=zfp s
 by_cases h0:zX s=0
 ·simp(disch:=first|omega|assumption) only[h0,go_sem]
  exact hQ _ _ _ _ nofun rfl (by simp[zc,zd,AV.strip,AV.strip1,y5,h0])
 have h0':¬ ((zX s:Int)=0):=by omega
 have hwl:(zX s:Int)≤s.length:=by omega
 simp(disch:=first|omega|assumption) only[h0',hwl,go_sem]
 refine zb (za0 (s.drop (zX s)) [46]) ?_
 rw[zm2]
 generalize hn:zX s=n at *
 have fin:∀ f p:Nat,ZL (s.drop n)=f→zaX (s.drop (n+f))=p→y5 s=(n+f+p,if f=0∧p=0 then 3 else 4):=fun f p hf hp=>by
  unfold y5
  rw[hn,hf,hp]
  simp only[h0,if_false]
 have hpl:=zjG (s.drop n)
 rw[List.length_drop] at hpl
 by_cases h46:(s.drop n).head?=some 46
 ·obtain⟨c,t,hct⟩:∃ c t,s.drop n=c::t:=by
   cases hx:s.drop n with
   | nil=>rw[hx] at h46;simp at h46
   | cons c t=>exact⟨c,t,rfl⟩
  have hlen:s.length=n+1+t.length:=by have:=congrArg List.length hct;simp at this;omega
  have hdr:s.drop (n+1)=t:=by rw[← List.drop_drop,hct];rfl
  have hto:((n:Int)+1).toNat=n+1:=by omega
  have hn1:(0:Int)≤(n:Int)+1:=by omega
  have hn2:(n:Int)+1≤s.length:=by omega
  have hrl:=zaw t
  simp(disch:=first|omega|assumption) only[h46,wrap64,hto,hn1,hn2,hdr,go_sem]
  refine zb (YB t (by simp only[Lim];omega)) ?_
  by_cases hk:(0:Int)<yu t
  ·have hk':0<yu t:=by omega
   have hfr:ZL (s.drop n)=1+yu t:=by unfold ZL;rw[if_pos ⟨h46,by rw[hct];exact hk'⟩,hct];rfl
   have hto2:((n:Int)+1+yu t).toNat=n+(1+yu t):=by omega
   have hn3:(0:Int)≤(n:Int)+1+yu t:=by omega
   have hn4:(n:Int)+1+yu t≤s.length:=by omega
   have hpl2:=zjG (s.drop (n+(1+yu t)))
   rw[List.length_drop] at hpl2
   simp(disch:=first|omega|assumption) only[hk,wrap64,hto2,hn3,hn4,go_sem]
   refine zb (zl9 (s.drop (n+(1+yu t))) (by rw[List.length_drop];simp only[Lim];omega)) ?_
   have hf:=fin _ _ hfr rfl
   generalize hp:zaX (s.drop (n+(1+yu t)))=p at *
   by_cases hp0:(0:Int)<p
   ·simp(disch:=first|omega|assumption) only[hp0,wrap64,go_sem]
    exact hQ _ _ _ _ nofun rfl (by simp[zc,zd,AV.strip,AV.strip1,hf,Int.add_assoc])
   ·have hp00:p=0:=by omega
    subst hp00
    simp(disch:=first|omega|assumption) only[go_sem]
    exact hQ _ _ _ _ nofun rfl (by simp[zc,zd,AV.strip,AV.strip1,hf,Int.add_assoc])
  ·have hk0:yu t=0:=by omega
   have hfr:ZL (s.drop n)=0:=by unfold ZL;exact if_neg fun hh=>by have:=hh.2;rw[hct] at this;simp only[List.tail_cons] at this;omega
   simp(disch:=first|omega|assumption) only[hk,hwl,go_sem]
   refine zb (zl9 (s.drop n) (by rw[List.length_drop];simp only[Lim];omega)) ?_
   have hf:=fin _ _ hfr rfl
   rw[Nat.add_zero] at hf
   generalize hp:zaX (s.drop n)=p at *
   by_cases hp0:(0:Int)<p
   ·have hp1:¬ p=0:=by omega
    simp(disch:=first|omega|assumption) only[hp0,wrap64,go_sem]
    exact hQ _ _ _ _ nofun rfl (by simp[zc,zd,AV.strip,AV.strip1,hf,hp1])
   ·have hp00:p=0:=by omega
    subst hp00
    simp(disch:=first|omega|assumption) only[go_sem]
    exact hQ _ _ _ _ nofun rfl (by simp[zc,zd,AV.strip,AV.strip1,hf])
 ·have hfr:ZL (s.drop n)=0:=by unfold ZL;exact if_neg fun hh=>h46 hh.1
  simp(disch:=first|omega|assumption) only[h46,hwl,go_sem]
  refine zb (zl9 (s.drop n) (by rw[List.length_drop];simp only[Lim];omega)) ?_
  have hf:=fin _ _ hfr rfl
  rw[Nat.add_zero] at hf
  generalize hp:zaX (s.drop n)=p at *
  by_cases hp0:(0:Int)<p
  ·have hp1:¬ p=0:=by omega
   simp(disch:=first|omega|assumption) only[hp0,wrap64,go_sem]
   exact hQ _ _ _ _ nofun rfl (by simp[zc,zd,AV.strip,AV.strip1,hf,hp1])
  ·have hp00:p=0:=by omega
   subst hp00
   simp(disch:=first|omega|assumption) only[go_sem]
   exact hQ _ _ _ _ nofun rfl (by simp[zc,zd,AV.strip,AV.strip1,hf])
def Yt (s:List UInt8):Int:=if (y5 s).1=s.length then (y5 s).2 else 0
theorem zeI (s:List UInt8) (hs:s.length≤Lim):zq Tryz.prog 207 [.str s] (.int .i64 (Yt s)):=by
 refine zq.go ir207 ck207 (Al4 _) fun KP Q hQ=>?_
 simp(disch:=first|omega|assumption) only[ir207,go_sem]
 refine zb (znK s hs) ?_
 by_cases h:(y5 s).1=s.length
 ·have h':(((y5 s).1:Int)=s.length)=True:=eq_true (by omega)
  simp(disch:=first|omega|assumption) only[h',go_sem]
  exact hQ _ _ _ _ nofun rfl (by simp[zc,zd,AV.strip,AV.strip1,Yt,h])
 ·have h':¬ ((y5 s).1:Int)=s.length:=by omega
  simp(disch:=first|omega|assumption) only[h',go_sem]
  exact hQ _ _ _ _ nofun rfl (by simp[zc,zd,AV.strip,AV.strip1,Yt,h])
def okI:Lib.NumEnd Int→Bool
 | .ok _=>true
 | _=>false
def zhH (s:List UInt8):Int:=match Lib.parseIntB 64 s with
 | .ok v=>v
 | Lib.NumEnd.syntax=>0
 | .range=>Lib.intSat 64 s
def ZX (s:List UInt8):Bool:=okI (Lib.parseIntB 64 s)&&decide (Yt s=3)
theorem zl8 (s:List UInt8) (hs:s.length≤Lim):zq Tryz.prog 176 [.str s] (.tup [.int .i64 (zhH s),.bool (ZX s)]):=by
 refine zq.go ir176 ck176 (Al4 _) fun KP Q hQ=>?_
 simp(disch:=first|omega|assumption) only[ir176,go_sem]
 refine zb (zol s (by simp only[Lim] at hs;omega)) ?_
 rcases hp:Lib.parseIntB 64 s with v|_|_
 ·simp(disch:=first|omega|assumption) only[zhj,hp,go_sem]
  refine zb (zeI s hs) ?_
  simp(disch:=first|omega|assumption) only[go_sem]
  exact hQ _ _ _ _ nofun rfl (by simp[zc,zd,AV.strip,AV.strip1,zhH,ZX,hp,okI])
 ·simp(disch:=first|omega|assumption) only[zhj,hp,go_sem]
  exact hQ _ _ _ _ nofun rfl (by simp[zc,zd,AV.strip,AV.strip1,zhH,ZX,hp,okI])
 ·simp(disch:=first|omega|assumption) only[zhj,hp,go_sem]
  exact hQ _ _ _ _ nofun rfl (by simp[zc,zd,AV.strip,AV.strip1,zhH,ZX,hp,okI])
def zfV (s:List UInt8):Bool:=decide (Yt s=4)||(decide (Yt s=3)&&!ZX s)
theorem zvq (s:List UInt8) (hs:s.length≤Lim):zq Tryz.prog 309 [.str s] (.bool (zfV s)):=by
 refine zq.go ir309 ck309 (Al4 _) fun KP Q hQ=>?_
 simp(disch:=first|omega|assumption) only[ir309,go_sem]
 refine zb (zeI s hs) ?_
 simp(disch:=first|omega|assumption) only[go_sem]
 refine zb (zl8 s hs) ?_
 by_cases h4:Yt s=4
 ·simp(disch:=first|omega|assumption) only[h4,go_sem]
  exact hQ _ _ _ _ nofun rfl (by simp[zc,zd,AV.strip,AV.strip1,zfV,h4])
 ·by_cases h3:Yt s=3
  ·simp(disch:=first|omega|assumption) only[h4,h3,go_sem]
   exact hQ _ _ _ _ nofun rfl (by simp[zc,zd,AV.strip,AV.strip1,zfV,h4,h3])
  ·simp(disch:=first|omega|assumption) only[h4,h3,go_sem]
   exact hQ _ _ _ _ nofun rfl (by simp[zc,zd,AV.strip,AV.strip1,zfV,h4,h3])
def zmm (s:List UInt8):Bool:=decide (s=[116,114,117,101])||(decide (s=[102,97,108,115,101])||decide (s=[110,117,108,108]))
theorem zvK (s:List UInt8):zq Tryz.prog 310 [.str s] (.bool (zmm s)):=by
 refine zq.go ir310 ck310 (Al4 _) fun KP Q hQ=>?_
 by_cases h1:s=[116,114,117,101]
 ·simp(disch:=first|omega|assumption) only[ir310,h1,go_sem]
  exact hQ _ _ _ _ nofun rfl (by simp[zc,zd,AV.strip,AV.strip1,zmm,h1])
 ·by_cases h2:s=[102,97,108,115,101]
  ·subst h2
   have h3:¬ ([102,97,108,115,101]:List UInt8)=[116,114,117,101]:=by decide
   simp(disch:=first|omega|assumption) only[ir310,h3,go_sem]
   exact hQ _ _ _ _ nofun rfl (by simp[zc,zd,AV.strip,AV.strip1,zmm,h3])
  ·simp(disch:=first|omega|assumption) only[ir310,h1,h2,go_sem]
   exact hQ _ _ _ _ nofun rfl (by simp[zc,zd,AV.strip,AV.strip1,zmm,h1,h2])
theorem zs0 (s:List UInt8) (hs:s.length≤Lim):zq Tryz.prog 202 [.str s] (.bool (Lib.validD s)):=by
 refine zq.go ir202 ck202 (Al4 _) fun KP Q hQ=>?_
 simp(disch:=first|omega|assumption) only[ir202,go_sem]
 refine zb (zt4 s (by simp only[Lim] at hs;omega)) ?_
 simp(disch:=first|omega|assumption) only[go_sem]
 exact hQ _ _ _ _ nofun rfl (by simp[zc,zd,AV.strip,AV.strip1])
def zbu (n:Int) (s:List UInt8) (l:List Val) (m:List Mem):Bool:=decide (n=0)&&(decide (s=[])&&(decide (l.length=0)&&decide (m.length=0)))
theorem zp2 (k n:Int) (s:List UInt8) (l:List Val) (m:List Mem):zq Tryz.prog 267 [.agg (cV (.mk k n s l m))] (.bool (zbu n s l m)):=by
 refine zq.go ir267 ck267 (Al4 _) fun KP Q hQ=>?_
 have h1:=Yx l
 have h2:=ZC m
 by_cases g1:n=0
 case neg =>
  simp(disch:=first|omega|assumption) only[ir267,yY,g1,go_sem]
  exact hQ _ _ _ _ nofun rfl (by simp[zc,zd,AV.strip,AV.strip1,zbu,g1])
 by_cases g2:s=[]
 case neg =>
  simp(disch:=first|omega|assumption) only[ir267,yY,g1,g2,go_sem]
  exact hQ _ _ _ _ nofun rfl (by simp[zc,zd,AV.strip,AV.strip1,zbu,g2])
 by_cases g3:l.length=0
 case neg =>
  simp(disch:=first|omega|assumption) only[ir267,yY,g1,g2,h1,g3,go_sem]
  exact hQ _ _ _ _ nofun rfl (by simp[zc,zd,AV.strip,AV.strip1,zbu,g3])
 have e:decide ((m.length:Int)=0)=decide (m.length=0):=by rw[decide_eq_decide];omega
 simp(disch:=first|omega|assumption) only[ir267,yY,g1,g2,h1,h2,g3,go_sem]
 exact hQ _ _ _ _ nofun rfl (by simp[zc,zd,AV.strip,AV.strip1,zbu,g1,g2,g3,e])
def yR (k n:Int) (s:List UInt8) (l:List Val) (m:List Mem):Bool :=
 zbu 0 [] l m&&(if k=0 then decide (n=0)&&decide (s=[]) else if k=1 then (decide (n=0)||decide (n=1))&&decide (s=[]) else if k=2 then decide (s=[])
  else if k=3 then decide (n=0)&&zfV s else if k=4 then decide (n=0)&&Lib.validD s else if k=5 then decide (n=0)&&(ym s&&!zmm s) else if k=8 then decide (n=0)&&ym s else false)
theorem zsg (k n:Int) (s:List UInt8) (l:List Val) (m:List Mem) (hs:s.length≤Lim):zq Tryz.prog 266 [.agg (cV (.mk k n s l m))] (.bool (yR k n s l m)):=by
 refine zq.go ir266 ck266 (Al4 _) fun KP Q hQ=>?_
 simp(disch:=first|omega|assumption) only[ir266,yY,go_sem]
 refine zl fun b hb=>?_
 simp(disch:=first|omega|assumption) only[go_sem]
 refine zb (zp2 k 0 [] l m) ?_
 cases hb:zbu 0 [] l m with
 | false =>
  simp(disch:=first|omega|assumption) only[hb,go_sem]
  exact hQ _ _ _ _ nofun rfl (by simp[zc,zd,AV.strip,AV.strip1,yR,hb])
 | true =>
  by_cases k0:k=0
  ·by_cases n0:n=0
   ·simp(disch:=first|omega|assumption) only[hb,k0,n0,go_sem]
    exact hQ _ _ _ _ nofun rfl (by simp[zc,zd,AV.strip,AV.strip1,yR,hb,k0,n0])
   ·simp(disch:=first|omega|assumption) only[hb,k0,n0,go_sem]
    exact hQ _ _ _ _ nofun rfl (by simp[zc,zd,AV.strip,AV.strip1,yR,hb,k0,n0])
  by_cases k1:k=1
  ·by_cases n0:n=0
   ·simp(disch:=first|omega|assumption) only[hb,k0,k1,n0,go_sem]
    exact hQ _ _ _ _ nofun rfl (by simp[zc,zd,AV.strip,AV.strip1,yR,hb,k1,n0])
   ·by_cases n1:n=1
    ·simp(disch:=first|omega|assumption) only[hb,k0,k1,n0,n1,go_sem]
     exact hQ _ _ _ _ nofun rfl (by simp[zc,zd,AV.strip,AV.strip1,yR,hb,k1,n1])
    ·simp(disch:=first|omega|assumption) only[hb,k0,k1,n0,n1,go_sem]
     exact hQ _ _ _ _ nofun rfl (by simp[zc,zd,AV.strip,AV.strip1,yR,hb,k1,n0,n1])
  by_cases k2:k=2
  ·simp(disch:=first|omega|assumption) only[hb,k0,k1,k2,go_sem]
   exact hQ _ _ _ _ nofun rfl (by simp[zc,zd,AV.strip,AV.strip1,yR,hb,k2])
  by_cases k3:k=3
  ·by_cases n0:n=0
   ·simp(disch:=first|omega|assumption) only[hb,k0,k1,k2,k3,n0,go_sem]
    refine zb (zvq s hs) ?_
    simp(disch:=first|omega|assumption) only[go_sem]
    exact hQ _ _ _ _ nofun rfl (by simp[zc,zd,AV.strip,AV.strip1,yR,hb,k3,n0])
   ·simp(disch:=first|omega|assumption) only[hb,k0,k1,k2,k3,n0,go_sem]
    exact hQ _ _ _ _ nofun rfl (by simp[zc,zd,AV.strip,AV.strip1,yR,hb,k3,n0])
  by_cases k4:k=4
  ·by_cases n0:n=0
   ·simp(disch:=first|omega|assumption) only[hb,k0,k1,k2,k3,k4,n0,go_sem]
    refine zb (zs0 s hs) ?_
    simp(disch:=first|omega|assumption) only[go_sem]
    exact hQ _ _ _ _ nofun rfl (by simp[zc,zd,AV.strip,AV.strip1,yR,hb,k4,n0])
   ·simp(disch:=first|omega|assumption) only[hb,k0,k1,k2,k3,k4,n0,go_sem]
    exact hQ _ _ _ _ nofun rfl (by simp[zc,zd,AV.strip,AV.strip1,yR,hb,k4,n0])
  by_cases k5:k=5
  ·by_cases n0:n=0
   ·simp(disch:=first|omega|assumption) only[hb,k0,k1,k2,k3,k4,k5,n0,go_sem]
    refine zb (zhX s hs) ?_
    cases hn:ym s with
    | true =>
     simp(disch:=first|omega|assumption) only[hn,go_sem]
     refine zb (zvK s) ?_
     simp(disch:=first|omega|assumption) only[go_sem]
     exact hQ _ _ _ _ nofun rfl (by simp[zc,zd,AV.strip,AV.strip1,yR,hb,k5,n0,hn])
    | false =>
     simp(disch:=first|omega|assumption) only[hn,go_sem]
     exact hQ _ _ _ _ nofun rfl (by simp[zc,zd,AV.strip,AV.strip1,yR,hb,k5,n0,hn])
   ·simp(disch:=first|omega|assumption) only[hb,k0,k1,k2,k3,k4,k5,n0,go_sem]
    exact hQ _ _ _ _ nofun rfl (by simp[zc,zd,AV.strip,AV.strip1,yR,hb,k5,n0])
  by_cases k8:k=8
  ·by_cases n0:n=0
   ·simp(disch:=first|omega|assumption) only[hb,k0,k1,k2,k3,k4,k5,k8,n0,go_sem]
    refine zb (zhX s hs) ?_
    simp(disch:=first|omega|assumption) only[go_sem]
    exact hQ _ _ _ _ nofun rfl (by simp[zc,zd,AV.strip,AV.strip1,yR,hb,k8,n0])
   ·simp(disch:=first|omega|assumption) only[hb,k0,k1,k2,k3,k4,k5,k8,n0,go_sem]
    exact hQ _ _ _ _ nofun rfl (by simp[zc,zd,AV.strip,AV.strip1,yR,hb,k8,n0])
  ·simp(disch:=first|omega|assumption) only[hb,k0,k1,k2,k3,k4,k5,k8,go_sem]
   exact hQ _ _ _ _ nofun rfl (by simp[zc,zd,AV.strip,AV.strip1,yR,hb,k0,k1,k2,k3,k4,k5,k8])
mutual
def zci (may:List UInt8→Bool):Val→Bool
 | .mk k n s l m=>if k=6 then za5 may l&&zbu n s [] m else if k=7 then zcd may m&&zbu n s l [] else yR k n s l m
def za5 (may:List UInt8→Bool):List Val→Bool
 | []=>true
 | v::r=>zci may v&&za5 may r
def zpd (may:List UInt8→Bool):Mem→Bool
 | .mk s v=>may s&&zci may v
def zcd (may:List UInt8→Bool):List Mem→Bool
 | []=>true
 | x::r=>zpd may x&&zcd may r
end
theorem zvE (f:FuncId) (hf:Program.callable Tryz.prog f=true) (may:List UInt8→Bool) (hmay:∀ s:List UInt8,s.length≤Lim→zq Tryz.prog f [.str s] (.bool (may s))) :
  ∀ v,bV v≤Lim→zq Tryz.prog 201 [.agg (cV v),.clo f [] []] (.bool (zci may v)):=by
 refine Val.ind fun k n s l m ihl ihm hb=>?_
 have hb':1+s.length+bVs l+bMs m≤Lim:=hb
 have hll:=zbc l
 have hml:=Z9 m
 have h1:=Yx l
 have h2:=ZC m
 simp only[Lim] at hb'
 refine zq.go ir201 ck201 (Al4 _) fun KP Q hQ=>?_
 simp(disch:=first|omega|assumption) only[ir201,yY,go_sem]
 refine zl fun b hb=>?_
 by_cases k6:k=6
 ·subst k6
  simp(disch:=first|omega|assumption) only[h1,go_sem]
  refine zx l 22 (fun _:Unit=>[(6,.bool true)]) (fun done rest _ H=>za5 may rest=za5 may l∧H b=some (.cells [.int .i64 6,.int .i64 n,.str s,.sl .nil 5 [],.sl .no 6 (cMs m)])) () (by simp(disch:=first|omega|assumption) only[go_sem]) ⟨rfl,by simp[za.upd]⟩ ?_ ?_
  ·rintro _ H J ⟨hn,hH⟩ hlt
   simp only[za5] at hn
   simp(disch:=first|omega|assumption) only[h1,hlt,hH,go_sem]
   refine zb (zq.low (zp2 6 n s [] m)) ?_
   simp(disch:=first|omega|assumption) only[go_sem]
   exact hQ _ _ _ _ nofun rfl (by simp[zc,zd,AV.strip,AV.strip1,zci,← hn])
  ·rintro done x rest _ H J hd hlt _ ⟨hn,hH⟩ hJ
   have hg:=zar hd
   have hbm:=zeg done x rest
   rw[← hd] at hbm
   simp only[za5] at hn
   simp(disch:=first|omega|assumption) only[zo,zg,zf,zn,zh,ze,zu,h1,hlt,hg,go_sem]
   refine zl fun b2 hb2=>?_
   have hne:=zgH hb2 hH
   simp(disch:=first|omega|assumption) only[zo,zg,zf,zn,zh,ze,zu,go_sem]
   refine zb (ihl x (by rw[hd];simp) (by simp only[Lim];omega)) ?_
   cases hx:zci may x with
   | true =>
    simp only[hx,Bool.true_and] at hn
    simp(disch:=first|omega|assumption) only[hx,go_sem]
    exact goJ (hJ () _ ⟨hn,by simp[za.upd,Ne.symm hne,hH]⟩) (by simp(disch:=first|omega|assumption) only[wrap64,go_sem])
   | false =>
    simp only[hx,Bool.false_and] at hn
    simp(disch:=first|omega|assumption) only[hx,go_sem]
    exact hQ _ _ _ _ nofun rfl (by simp[zc,zd,AV.strip,AV.strip1,zci,← hn])
 by_cases k7:k=7
 ·subst k7
  simp(disch:=first|omega|assumption) only[h2,go_sem]
  refine zx m 38 (fun _:Unit=>[(6,.bool true)]) (fun done rest _ H=>zcd may rest=zcd may m∧H b=some (.cells [.int .i64 7,.int .i64 n,.str s,.sl .no 5 (cVs l),.sl .nil 6 []])) () (by simp(disch:=first|omega|assumption) only[go_sem]) ⟨rfl,by simp[za.upd]⟩ ?_ ?_
  ·rintro _ H J ⟨hn,hH⟩ hlt
   simp only[zcd] at hn
   simp(disch:=first|omega|assumption) only[h2,hlt,hH,go_sem]
   refine zb (zq.low (zp2 7 n s l [])) ?_
   simp(disch:=first|omega|assumption) only[go_sem]
   exact hQ _ _ _ _ nofun rfl (by simp[zc,zd,AV.strip,AV.strip1,zci,← hn])
  ·rintro done x rest _ H J hd hlt _ ⟨hn,hH⟩ hJ
   have hg:=YU hd
   have hbm:=za8 done x rest
   rw[← hd] at hbm
   have hmem:x∈m:=by rw[hd];simp
   obtain⟨t,v⟩:=x
   simp only[zcd,zpd,bM] at hn hbm
   simp(disch:=first|omega|assumption) only[zo,zg,zf,zn,zh,ze,zu,h2,hlt,hg,go_sem]
   refine zl fun b2 hb2=>?_
   have hne:=zgH hb2 hH
   simp(disch:=first|omega|assumption) only[zo,zg,zf,zn,zh,ze,zu,go_sem]
   refine⟨hf,zb (hmay t (by simp only[Lim];omega)) ?_⟩
   cases ht:may t with
   | true =>
    simp(disch:=first|omega|assumption) only[zo,zg,zf,zn,zh,ze,zu,ht,go_sem]
    refine zb (ihm t v hmem (by simp only[Lim];omega)) ?_
    cases hx:zci may v with
    | true =>
     simp only[ht,hx,Bool.true_and] at hn
     simp(disch:=first|omega|assumption) only[hx,go_sem]
     exact goJ (hJ () _ ⟨hn,by simp[za.upd,Ne.symm hne,hH]⟩) (by simp(disch:=first|omega|assumption) only[wrap64,go_sem])
    | false =>
     simp only[ht,hx,Bool.true_and,Bool.false_and] at hn
     simp(disch:=first|omega|assumption) only[hx,go_sem]
     exact hQ _ _ _ _ nofun rfl (by simp[zc,zd,AV.strip,AV.strip1,zci,← hn])
   | false =>
    simp only[ht,Bool.false_and] at hn
    simp(disch:=first|omega|assumption) only[zo,zg,zf,zn,zh,ze,zu,ht,go_sem]
    exact hQ _ _ _ _ nofun rfl (by simp[zc,zd,AV.strip,AV.strip1,zci,← hn])
 ·simp(disch:=first|omega|assumption) only[k6,k7,go_sem]
  refine zb (zsg k n s l m (by simp only[Lim];omega)) ?_
  simp(disch:=first|omega|assumption) only[go_sem]
  exact hQ _ _ _ _ nofun rfl (by simp[zc,zd,AV.strip,AV.strip1,zci,k6,k7])
def zk0 (v:Val):Bool:=zci Lib.validD v
def zaT (v:Val):Bool:=zci ym v&&decide (zM v≤16)
theorem zrc (v:Val) (hb:bV v≤Lim):zq Tryz.prog 117 [.agg (cV v)] (.bool (zaT v)):=by
 refine zq.go ir117 ck117 (Al4 _) fun KP Q hQ=>?_
 simp(disch:=first|omega|assumption) only[zo,zg,zf,zn,zh,ze,zu,ir117,go_sem]
 refine zb (zvE _ (by kernel_rfl) ym zhX v hb) ?_
 cases h:zci ym v with
 | true =>
  simp(disch:=first|omega|assumption) only[zo,zg,zf,zn,zh,ze,zu,h,go_sem]
  refine zb (zjv v hb) ?_
  simp(disch:=first|omega|assumption) only[go_sem]
  exact hQ _ _ _ _ nofun rfl (by simp[zc,zd,AV.strip,AV.strip1,zaT,h])
 | false =>
  simp(disch:=first|omega|assumption) only[h,go_sem]
  exact hQ _ _ _ _ nofun rfl (by simp[zc,zd,AV.strip,AV.strip1,zaT,h])
theorem zkR (s:List UInt8):zq Tryz.prog 204 [.str s] (.agg (cK ⟨2,s⟩)):=by
 refine zq.go ir204 ck204 (Al4 _) fun KP Q hQ=>?_
 simp(disch:=first|omega|assumption) only[ir204,go_sem]
 refine zl fun b hb=>?_
 simp(disch:=first|omega|assumption) only[go_sem]
 exact hQ _ _ _ [.agg [.int .i64 2,.str s]] nofun (by simp(disch:=first|omega|assumption) only[ir204,zK,yK,go_sem]) rfl
theorem zeN (s:List UInt8):zq Tryz.prog 208 [.str s] (.agg (cK ⟨1,s⟩)):=by
 refine zq.go ir208 ck208 (Al4 _) fun KP Q hQ=>?_
 simp(disch:=first|omega|assumption) only[ir208,go_sem]
 refine zl fun b hb=>?_
 simp(disch:=first|omega|assumption) only[go_sem]
 exact hQ _ _ _ [.agg [.int .i64 1,.str s]] nofun (by simp(disch:=first|omega|assumption) only[ir208,zK,yK,go_sem]) rfl
def boolT (b:Bool):List UInt8:=if b then [116,114,117,101] else [102,97,108,115,101]
theorem zqr (b:Bool):zq Tryz.prog 269 [.bool b] (.str (boolT b)):=by
 refine zq.go ir269 ck269 (Al4 _) fun KP Q hQ=>?_
 cases b
 ·simp(disch:=first|omega|assumption) only[ir269,go_sem]
  exact hQ _ _ _ _ nofun rfl (by simp[zc,zd,AV.strip,AV.strip1,boolT])
 ·simp(disch:=first|omega|assumption) only[ir269,go_sem]
  exact hQ _ _ _ _ nofun rfl (by simp[zc,zd,AV.strip,AV.strip1,boolT])
theorem zq7 (b:Bool):zq Tryz.prog 205 [.bool b] (.str (boolT b)):=by
 refine zq.go ir205 ck205 (Al4 _) fun KP Q hQ=>?_
 simp(disch:=first|omega|assumption) only[ir205,go_sem]
 refine zb (zqr b) ?_
 simp(disch:=first|omega|assumption) only[go_sem]
 exact hQ _ _ _ _ nofun rfl (by simp[zc,zd,AV.strip,AV.strip1])
mutual
def yG:Val→List Tok
 | .mk k n s l m=>if k=0 then [⟨2,[110,117,108,108]⟩] else if k=1 then [⟨2,boolT (decide (n=1))⟩] else if k=2 then [⟨3,Lib.itoa n⟩] else if k=3 then [⟨Yt s,s⟩] else if k=4 then [⟨5,s⟩]
  else if k=5 then [⟨2,s⟩] else if k=8 then [⟨1,[36]⟩,⟨2,s⟩] else if k=6 then ⟨1,[91]⟩::(YH l++[⟨1,[93]⟩]) else ⟨1,[123]⟩::(ZA m++[⟨1,[125]⟩])
def YH:List Val→List Tok
 | []=>[]
 | v::r=>yG v++YH r
def zca:Mem→List Tok
 | .mk s v=>⟨2,s⟩::⟨1,[58]⟩::yG v
def ZA:List Mem→List Tok
 | []=>[]
 | x::r=>zca x++ZA r
end
mutual
theorem zeA:∀ v,(yG v).length+2≤4*bV v
 | .mk k n s l m=>by
  have h1:=zg1 l
  have h2:=zg5 m
  simp only[yG,bV]
  repeat' split
  all_goals simp only[Al2,Al5,Al3]
  all_goals omega
theorem zg1:∀ l,(YH l).length≤4*bVs l
 | []=>by simp[YH]
 | v::r=>by
  have h1:=zeA v
  have h2:=zg1 r
  simp only[YH,bVs,Al5];omega
theorem zr4:∀ x,(zca x).length≤4*bM x
 | .mk s v=>by have:=zeA v;simp only[zca,bM,Al2];omega
theorem zg5:∀ l,(ZA l).length≤4*bMs l
 | []=>by simp[ZA]
 | x::r=>by
  have h1:=zr4 x
  have h2:=zg5 r
  simp only[ZA,bMs,Al5];omega
end
def inR (n:Int):Prop:=-9223372036854775808≤n∧n≤9223372036854775807
mutual
def wfV:Val→Prop
 | .mk _ n _ l m=>inR n∧zlg l∧zdT m
def zlg:List Val→Prop
 | []=>True
 | v::r=>wfV v∧zlg r
def wfM:Mem→Prop
 | .mk _ v=>wfV v
def zdT:List Mem→Prop
 | []=>True
 | x::r=>wfM x∧zdT r
end
theorem zek:∀ {l:List Val},zlg l→∀ v∈l,wfV v
 | _::_,h,v,hv=>(List.mem_cons.1 hv).elim (fun e=>e▸h.1) (zek h.2 v)
theorem zbE:∀ {l:List Mem},zdT l→∀ s v,Mem.mk s v∈l→wfV v
 | _::_,h,s,v,hv=>(List.mem_cons.1 hv).elim (fun e=>by have:=h.1;rw[← e] at this;exact this) (zbE h.2 s v)
theorem za9 (a:List Tok) (t:Tok):cKs a++[[.int .i64 t.k,.str t.s]]=cKs (a++[t]):=by simp[cKs,cK]
theorem zk7 (a:List Tok) (t u:Tok):cKs a++[[.int .i64 t.k,.str t.s],[.int .i64 u.k,.str u.s]]=cKs (a++[t,u]):=by simp[cKs,cK]
theorem zrr:∀ v,wfV v→∀ acc H o,acc.length+4*bV v≤Lim→yg H o acc.length 2→zh8 Tryz.prog 118 [.sl o 2 (cKs acc),.agg (cV v)] H o 2 (cKs (acc++yG v)):=by
 refine Val.ind fun k n s l m ihl ihm hwf acc H o hb ho=>?_
 obtain⟨hn,hwl,hwm⟩:=hwf
 have hb':acc.length+4*(1+s.length+bVs l+bMs m)≤Lim:=hb
 have hll:=zbc l
 have hml:=Z9 m
 have h1:=Yx l
 have h2:=ZC m
 have h3:=yF acc
 have hT:=zg1 l
 have hM:=zg5 m
 simp only[Lim] at hb'
 have hsl:s.length≤Lim:=by simp only[Lim];omega
 refine zj.goO ir118 ck118 (Al4 _) fun KP Q hQ hP=>?_
 have one:∀ t:Tok,yG (.mk k n s l m)=[t]→∀ o' H',OwnS H o H' o' (acc.length+1) 2→zt1 H o 2 (cKs (acc++yG (.mk k n s l m))) (.sl o' 2 (cKs acc++[[.int .i64 t.k,.str t.s]])) H':=fun t e o' H' hs=>by
  rw[e];exact⟨o',by rw[za9],by rw[yF];simpa using hs⟩
 have hq1:((cKs acc).length+1)*24≤140737488355328:=by rw[h3];omega
 have hq2:(cKs acc).length+1≤maxLen:=by rw[h3];simp only[maxLen];omega
 have hq3:((cKs acc).length+2)*24≤140737488355328:=by rw[h3];omega
 have hq4:(cKs acc).length+2≤maxLen:=by rw[h3];simp only[maxLen];omega
 have ho':yg H o (cKs acc).length 2:=by rw[h3];exact ho
 by_cases k0:k=0
 ·subst k0
  simp(disch:=first|omega|assumption) only[ir118,yY,go_sem]
  refine zb (zkR _) ?_
  simp(disch:=first|omega|assumption) only[cK,go_sem]
  refine zv ho' hq1 hq2 fun o' H' hs=>?_
  simp(disch:=first|omega|assumption) only[go_sem]
  exact hQ _ _ H' H' [_] nofun rfl (Low.refl _) (one ⟨2,[110,117,108,108]⟩ (by simp[yG]) o' H' (by simpa[h3] using hs))
 by_cases k1:k=1
 ·subst k1
  simp(disch:=first|omega|assumption) only[ir118,yY,go_sem]
  refine zb (zq7 _) ?_
  simp(disch:=first|omega|assumption) only[go_sem]
  refine zb (zkR _) ?_
  simp(disch:=first|omega|assumption) only[cK,go_sem]
  refine zv ho' hq1 hq2 fun o' H' hs=>?_
  simp(disch:=first|omega|assumption) only[go_sem]
  exact hQ _ _ H' H' [_] nofun rfl (Low.refl _) (one ⟨2,boolT (decide (n=1))⟩ (by simp[yG]) o' H' (by simpa[h3] using hs))
 by_cases k2:k=2
 ·subst k2
  simp(disch:=first|omega|assumption) only[ir118,yY,go_sem]
  refine zb (zmw n hn.1 hn.2) ?_
  simp(disch:=first|omega|assumption) only[go_sem]
  refine zv ho' hq1 hq2 fun o' H' hs=>?_
  simp(disch:=first|omega|assumption) only[go_sem]
  exact hQ _ _ H' H' [_] nofun rfl (Low.refl _) (one ⟨3,Lib.itoa n⟩ (by simp[yG]) o' H' (by simpa[h3] using hs))
 by_cases k3:k=3
 ·subst k3
  simp(disch:=first|omega|assumption) only[ir118,yY,go_sem]
  refine zb (zeI s hsl) ?_
  simp(disch:=first|omega|assumption) only[go_sem]
  refine zv ho' hq1 hq2 fun o' H' hs=>?_
  simp(disch:=first|omega|assumption) only[go_sem]
  exact hQ _ _ H' H' [_] nofun rfl (Low.refl _) (one ⟨Yt s,s⟩ (by simp[yG]) o' H' (by simpa[h3] using hs))
 by_cases k4:k=4
 ·subst k4
  simp(disch:=first|omega|assumption) only[ir118,yY,go_sem]
  refine zv ho' hq1 hq2 fun o' H' hs=>?_
  simp(disch:=first|omega|assumption) only[go_sem]
  exact hQ _ _ H' H' [_] nofun rfl (Low.refl _) (one ⟨5,s⟩ (by simp[yG]) o' H' (by simpa[h3] using hs))
 by_cases k5:k=5
 ·subst k5
  simp(disch:=first|omega|assumption) only[ir118,yY,go_sem]
  refine zb (zkR _) ?_
  simp(disch:=first|omega|assumption) only[cK,go_sem]
  refine zv ho' hq1 hq2 fun o' H' hs=>?_
  simp(disch:=first|omega|assumption) only[go_sem]
  exact hQ _ _ H' H' [_] nofun rfl (Low.refl _) (one ⟨2,s⟩ (by simp[yG]) o' H' (by simpa[h3] using hs))
 by_cases k8:k=8
 ·subst k8
  simp(disch:=first|omega|assumption) only[ir118,yY,go_sem]
  refine zb (zeN _) ?_
  simp(disch:=first|omega|assumption) only[cK,go_sem]
  refine zb (zkR _) ?_
  simp(disch:=first|omega|assumption) only[cK,go_sem]
  refine zv ho' hq3 hq4 fun o' H' hs=>?_
  simp(disch:=first|omega|assumption) only[go_sem]
  refine hQ _ _ H' H' [_] nofun rfl (Low.refl _) ?_
  have e:yG (.mk 8 n s l m)=[⟨1,[36]⟩,⟨2,s⟩]:=by simp[yG]
  rw[e]
  exact⟨o',by rw[← zk7];rfl,by rw[yF];simpa[h3] using hs⟩
 by_cases k6:k=6
 ·subst k6
  have e:yG (.mk 6 n s l m)=⟨1,[91]⟩::(YH l++[⟨1,[93]⟩]):=by simp[yG]
  have ea:=za9 acc ⟨1,[91]⟩
  simp only at ea
  simp(disch:=first|omega|assumption) only[ir118,yY,go_sem]
  refine zb (zeN _) ?_
  simp(disch:=first|omega|assumption) only[cK,go_sem]
  refine zv ho' hq1 hq2 fun o1 H1 hs1=>?_
  have hs1':OwnS H o H1 o1 (acc++[(⟨1,[91]⟩:Tok)]).length 2:=by simpa[h3] using hs1
  simp(disch:=first|omega|assumption) only[ea,h1,go_sem]
  refine zx l 81 (fun x:Own×List Tok=>[(0,.sl x.1 2 (cKs x.2))]) (fun done rest x H'=>x.2++YH rest=acc++⟨1,[91]⟩::YH l∧x.2.length+4*bVs rest≤acc.length+1+4*bVs l∧OwnS H o H' x.1 x.2.length 2) (o1,acc++[⟨1,[91]⟩]) (by simp(disch:=first|omega|assumption) only[go_sem]) ⟨by simp,by simp,hs1'⟩ ?_ ?_
  ·rintro⟨o2,a⟩ H2 J ⟨hn,hle,hs⟩ hlt
   simp only[YH,List.append_nil,bVs] at hn hle
   have h4:=yF a
   simp(disch:=first|omega|assumption) only[h1,hlt,go_sem]
   refine zb (zeN _) ?_
   simp(disch:=first|omega|assumption) only[cK,go_sem]
   refine zv (by rw[h4];exact hs.own) (by simp only[h4,Al2,Al3];omega) (by simp only[h4,Al2,Al3,maxLen];omega) fun o3 H3 hs3=>?_
   simp(disch:=first|omega|assumption) only[go_sem]
   refine hQ _ _ H3 H3 [_] nofun rfl (Low.refl _) ?_
   have e2:acc++yG (.mk 6 n s l m)=a++[⟨1,[93]⟩]:=by rw[e,hn];simp
   rw[e2]
   exact⟨o3,by rw[← za9];rfl,by rw[yF];exact hs.trans (by simpa[h4] using hs3)⟩
  ·rintro done x rest ⟨o2,a⟩ H2 J hd hlt _ ⟨hn,hle,hs⟩ hJ
   have hg:=zar hd
   have hx:=zeA x
   have hmem:x∈l:=by rw[hd];simp
   simp only[YH,bVs] at hn hle
   simp(disch:=first|omega|assumption) only[zo,zg,zf,zn,zh,ze,zu,h1,hlt,hg,go_sem]
   refine zl fun b hb=>?_
   simp(disch:=first|omega|assumption) only[zo,zg,zf,zn,zh,ze,zu,go_sem]
   refine Zr (ihl x hmem (zek hwl x hmem) a _ o2 (by simp only[Lim];omega) (hs.own.upd hb)) fun o3 H3 hs3=>?_
   rw[yF] at hs3
   simp(disch:=first|omega|assumption) only[wrap64,go_sem]
   exact goJ (hJ (o3,a++yG x) H3 ⟨by rw[← hn];simp,by simp only[Al5];omega,(hs.upd hb).trans hs3⟩) (by simp(disch:=first|omega|assumption) only[go_sem])
 ·have e:yG (.mk k n s l m)=⟨1,[123]⟩::(ZA m++[⟨1,[125]⟩]):=by simp[yG,k0,k1,k2,k3,k4,k5,k8,k6]
  have ea:=za9 acc ⟨1,[123]⟩
  simp only at ea
  simp(disch:=first|omega|assumption) only[ir118,yY,k0,k1,k2,k3,k4,k5,k8,k6,go_sem]
  refine zb (zeN _) ?_
  simp(disch:=first|omega|assumption) only[cK,go_sem]
  refine zv ho' hq1 hq2 fun o1 H1 hs1=>?_
  have hs1':OwnS H o H1 o1 (acc++[(⟨1,[123]⟩:Tok)]).length 2:=by simpa[h3] using hs1
  simp(disch:=first|omega|assumption) only[ea,h2,go_sem]
  refine zx m 100 (fun x:Own×List Tok=>[(0,.sl x.1 2 (cKs x.2))]) (fun done rest x H'=>x.2++ZA rest=acc++⟨1,[123]⟩::ZA m∧x.2.length+4*bMs rest≤acc.length+1+4*bMs m∧OwnS H o H' x.1 x.2.length 2) (o1,acc++[⟨1,[123]⟩]) (by simp(disch:=first|omega|assumption) only[go_sem]) ⟨by simp,by simp,hs1'⟩ ?_ ?_
  ·rintro⟨o2,a⟩ H2 J ⟨hn,hle,hs⟩ hlt
   simp only[ZA,List.append_nil,bMs] at hn hle
   have h4:=yF a
   simp(disch:=first|omega|assumption) only[h2,hlt,go_sem]
   refine zb (zeN _) ?_
   simp(disch:=first|omega|assumption) only[cK,go_sem]
   refine zv (by rw[h4];exact hs.own) (by simp only[h4,Al2,Al3];omega) (by simp only[h4,Al2,Al3,maxLen];omega) fun o3 H3 hs3=>?_
   simp(disch:=first|omega|assumption) only[go_sem]
   refine hQ _ _ H3 H3 [_] nofun rfl (Low.refl _) ?_
   have e2:acc++yG (.mk k n s l m)=a++[⟨1,[125]⟩]:=by rw[e,hn];simp
   rw[e2]
   exact⟨o3,by rw[← za9];rfl,by rw[yF];exact hs.trans (by simpa[h4] using hs3)⟩
  ·rintro done x rest ⟨o2,a⟩ H2 J hd hlt _ ⟨hn,hle,hs⟩ hJ
   have hg:=YU hd
   have hmem:x∈m:=by rw[hd];simp
   obtain⟨t,v⟩:=x
   have hx:=zeA v
   have h4:=yF a
   have hp:=YO v
   simp only[ZA,zca,bMs,bM] at hn hle
   have ea2:=zk7 a ⟨2,t⟩ ⟨1,[58]⟩
   simp only at ea2
   simp(disch:=first|omega|assumption) only[zo,zg,zf,zn,zh,ze,zu,h2,hlt,hg,go_sem]
   refine zl fun b hb=>?_
   simp(disch:=first|omega|assumption) only[zo,zg,zf,zn,zh,ze,zu,go_sem]
   refine zb (zkR _) ?_
   simp(disch:=first|omega|assumption) only[zo,zg,zf,zn,zh,ze,zu,cK,go_sem]
   refine zb (zeN _) ?_
   simp(disch:=first|omega|assumption) only[zo,zg,zf,zn,zh,ze,zu,cK,go_sem]
   refine zv (by rw[h4];exact hs.own.upd hb) (by simp only[h4,Al2,Al3];omega) (by simp only[h4,Al2,Al3,maxLen];omega) fun o3 H3 hs3=>?_
   have hs3':OwnS H o H3 o3 (a++[(⟨2,t⟩:Tok),⟨1,[58]⟩]).length 2:=(hs.upd hb).trans (by simpa[h4] using hs3)
   have hHb:H3 b=some (.cells (cM (.mk t v))):=hs3.kept b _ (by simp[za.upd,zu]) fun d e=>by
    have:=hs.own;subst e
    have hx:H2 b=_:=this
    rw[hb] at hx;cases hx
   simp(disch:=first|omega|assumption) only[zo,zg,zf,zn,zh,ze,zu,ea2,hHb,go_sem]
   refine Zr (ihm t v hmem (zbE hwm t v hmem) _ _ o3 (by simp only[Lim,Al5,Al2,Al3];omega) hs3'.own) fun o4 H4 hs4=>?_
   rw[yF] at hs4
   simp(disch:=first|omega|assumption) only[wrap64,go_sem]
   exact goJ (hJ (o4,a++[⟨2,t⟩,⟨1,[58]⟩]++yG v) H4 ⟨by rw[← hn];simp,by simp only[Al5,Al2,Al3];omega,hs3'.trans hs4⟩) (by simp(disch:=first|omega|assumption) only[go_sem])
def zcc (v:Val):List Tok:=if zaT v then yG v else []
theorem zf8 (v:Val) (hw:wfV v) (hb:4*bV v≤Lim):zq Tryz.prog 55 [.agg (cV v)] (.tup [.sl .no 2 (cKs (zcc v)),.bool (zaT v)]):=by
 have hb':bV v≤Lim:=by omega
 refine zq.go ir55 ck55 (Al4 _) fun KP Q hQ=>?_
 simp(disch:=first|omega|assumption) only[zo,zg,zf,zn,zh,ze,zu,ir55,go_sem]
 refine zb (zrc v hb') ?_
 cases h:zaT v with
 | false =>
  simp(disch:=first|omega|assumption) only[h,go_sem]
  exact hQ _ _ _ _ nofun rfl (by simp[zc,zd,AV.strip,AV.strip1,zcc,h,cKs])
 | true =>
  simp(disch:=first|omega|assumption) only[zo,zg,zf,zn,zh,ze,zu,h,go_sem]
  refine Zr (zrr v hw [] _ .nil (by simpa using hb) rfl) fun o' H' hs=>?_
  simp(disch:=first|omega|assumption) only[go_sem]
  exact hQ _ _ _ _ nofun rfl (by simp[zc,zd,AV.strip,AV.strip1,zcc,h])
end Go.Proofs.YticbbfbpeimkbaaGreatDoor
namespace Go.Proofs.YticbbfbpeimkbaaGreatDoor
def zlX (P:Program) (f:FuncId) (fn:Func) (s:ChangeSpec) (c:OpenClaim):Bool:=c.wf (OpenSpec.ofChange s)&&laidOutB P&&mapsRowed P&&fn.params.all (P.readableRec ·)&&namedTie P c.named s.vars
def zmJ (P:Program) (f:FuncId) (fn:Func) (s:ChangeSpec) (c:OpenClaim):Bool:=(c.stops==[])&&(P.stops==[])&&(c.knobs==[])&&(P.stopKnobs==[])&&(c.maps==(fn.params.toList++s.plain.varTypes P).any (P.mapsRec ·))&&(c.ifaces==(fn.params.toList++s.plain.varTypes P).any (P.ifacesRec ·))&&(c.mapsOut==P.mapsAmong fn.resultTypes.toList)&&(c.loops==(fn.params.toList++s.plain.varTypes P).any (P.loopsFrom ·))&&(c.wideKeys==(fn.params.toList++s.plain.varTypes P++fn.resultTypes.toList).any (P.wideKeysFrom ·))&&s.vars.all (P.varReadable ·)&&fn.resultTypes.all (fun t=>P.readableRec t&&decide (t<P.types.size))&&(c.ifacesOut==fn.resultTypes.toList.any (P.ifacesRec ·))&&(c.loopsOut==fn.resultTypes.toList.any (P.loopsFrom ·))&&(c.veiled==(fn.params.toList++s.plain.varTypes P++fn.resultTypes.toList).any (P.veiledRec ·))&&c.veiledFits P fn.params.toList (fn.params.toList++s.plain.varTypes P++fn.resultTypes.toList)
def zmb (P:Program) (f:FuncId) (fn:Func) (s:ChangeSpec) (c:OpenClaim):Bool:=(c.inPlace==P.inPlace f)&&(c.unfollowed==P.unfollowed f)&&(c.recurses==P.recurses f)&&(c.named==P.varsNamed f)
def zmH (P:Program) (f:FuncId) (fn:Func) (s:ChangeSpec) (c:OpenClaim):Bool:=(c.plainKeys==P.plainKeys)&&c.shortTexts.isNone
def zmL (P:Program) (f:FuncId) (fn:Func) (s:ChangeSpec) (c:OpenClaim):Bool:=P.stopsHeard
def zlV (P:Program) (f:FuncId) (fn:Func) (s:ChangeSpec) (c:OpenClaim):Bool:=P.mayEnter
def zl0 (P:Program) (f:FuncId) (fn:Func) (s:ChangeSpec) (c:OpenClaim):Bool:=(c.lifted==P.liftsFinal)&&(P.make==some c.make)&&(c.kinds==(if c.domain.isEmpty then [] else fn.params.toList.map fun t=>match P.underlying t with|some (.int k)=>some k|_=>none))&&(c.pinned==c.pinnedBy)
theorem zok {P:Program} {f:FuncId} {fn:Func} {s:ChangeSpec} {c:OpenClaim} (h0:zlX P f fn s c=true) (h1:zmJ P f fn s c=true) (h2:zmb P f fn s c=true) (h3:zmH P f fn s c=true) (h4:zmL P f fn s c=true) (h5:zlV P f fn s c=true) (h6:zl0 P f fn s c=true):joinedFacts P f fn s c=true:=by
 simp only[zlX,Al0] at h0
 obtain⟨⟨⟨⟨a0,a1⟩,a2⟩,a3⟩,a4⟩:=h0
 simp only[zmJ,Al0] at h1
 obtain⟨⟨⟨⟨⟨⟨⟨⟨⟨⟨⟨⟨⟨⟨a5,a6⟩,a7⟩,a8⟩,a13⟩,a14⟩,a15⟩,a16⟩,a17⟩,a18⟩,a19⟩,a20⟩,a21⟩,a30⟩,a31⟩:=h1
 simp only[zmb,Al0] at h2
 obtain⟨⟨⟨a9,a10⟩,a11⟩,a12⟩:=h2
 simp only[zmH,Al0] at h3
 obtain⟨a22,a23⟩:=h3
 simp only[zmL,Al0] at h4
 have a24:=h4
 simp only[zlV,Al0] at h5
 have a25:=h5
 simp only[zl0,Al0] at h6
 obtain⟨⟨⟨a26,a27⟩,a28⟩,a29⟩:=h6
 simp only[joinedFacts,Al0]
 exact⟨⟨⟨⟨⟨⟨⟨⟨⟨⟨⟨⟨⟨⟨⟨⟨⟨⟨⟨⟨⟨⟨⟨⟨⟨⟨⟨⟨⟨⟨⟨a0,a1⟩,a2⟩,a3⟩,a4⟩,a5⟩,a6⟩,a7⟩,a8⟩,a9⟩,a10⟩,a11⟩,a12⟩,a13⟩,a14⟩,a15⟩,a16⟩,a17⟩,a18⟩,a19⟩,a20⟩,a21⟩,a22⟩,a23⟩,a24⟩,a25⟩,a26⟩,a27⟩,a28⟩,a29⟩,a30⟩,a31⟩
open Go.Ab Go.ChangeAt Go.ChangeShapes Go.Lib Go.RowKit Go.WideElems Go.WideShapes
theorem own:ownKnob Tryz.prog.godebug=none:=by kernel_rfl
theorem laidOut:laidOutB Tryz.prog=true:=by kernel_rfl
theorem znE:∀ l,bVs l=(l.map bV).sum
 | []=>rfl
 | v::r=>by simp[bVs,znE r]
theorem zmO:∀ l,bMs l=(l.map bM).sum
 | []=>rfl
 | v::r=>by simp[bMs,zmO r]
theorem zkG:∀ {l:List Val},(∀ v∈l,wfV v)→zlg l
 | [],_=>trivial
 | v::r,h=>⟨h v (.head _),zkG fun x hx=>h x (.tail _ hx)⟩
theorem zk1:∀ {l:List Mem},(∀ v∈l,wfM v)→zdT l
 | [],_=>trivial
 | v::r,h=>⟨h v (.head _),zk1 fun x hx=>h x (.tail _ hx)⟩
theorem zlK {n:Int} (h:(Lit.int .i64 n).wf=true):inR n:=by
 simp[Lit.wf,IntKind.has,IntKind.min,IntKind.max,IntKind.signed,IntKind.bits] at h
 unfold inR
 omega
abbrev DV (m:Nat):Prop:=yd Tryz.prog m 56 5 cV wfV bV
abbrev DM (m:Nat):Prop:=yd Tryz.prog m 148 6 cM wfM bM
theorem zve {m:Nat} (h:DV m):yd Tryz.prog (m+1) 53 1 (fun l:List Val=>[.sl .no 5 (cVs l)]) (fun l=>zlg l) (fun l=>bVs l+1):=by
 intro H enc W cs d ps h1 h2
 obtain⟨a,h3,h4,h5,h6⟩:=yd.slice (t:=53) Tryz.underlying53 (B:=80) (sz:=5) (by kernel_rfl) (by kernel_rfl) (by decide) h enc W cs d ps h1 h2
 exact⟨a,zkG h3.2.2,by simp only[znE];exact h4,h5,by simp only[zdm];exact h6⟩
theorem zsS {m:Nat} (h:DM m):yd Tryz.prog (m+1) 54 1 (fun l:List Mem=>[.sl .no 6 (cMs l)]) (fun l=>zdT l) (fun l=>bMs l+1):=by
 intro H enc W cs d ps h1 h2
 obtain⟨a,h3,h4,h5,h6⟩:=yd.slice (t:=54) Tryz.underlying54 (B:=96) (sz:=6) (by kernel_rfl) (by kernel_rfl) (by decide) h enc W cs d ps h1 h2
 exact⟨a,zk1 h3.2.2,by simp only[zmO];exact h4,h5,by simp only[zbR];exact h6⟩
theorem dec:∀ m,DV m∧DM m:=by
 intro m
 induction m using Nat.strongRecOn with
 | _ m ih =>
  have hs:∀ {k},k≤m→yd Tryz.prog k 53 1 (fun l:List Val=>[.sl .no 5 (cVs l)]) (fun l=>zlg l) (fun l=>bVs l+1):=fun {k} hk=>by
   cases k with
   | zero=>exact yd.zero
   | succ k=>exact zve (ih k (by omega)).1
  have hm:∀ {k},k≤m→yd Tryz.prog k 54 1 (fun l:List Mem=>[.sl .no 6 (cMs l)]) (fun l=>zdT l) (fun l=>bMs l+1):=fun {k} hk=>by
   cases k with
   | zero=>exact yd.zero
   | succ k=>exact zsS (ih k (by omega)).2
  refine⟨?_,?_⟩
  ·cases m with
   | zero=>exact yd.zero
   | succ k =>
    exact yd.struct (zR.cons (by kernel_rfl) (yd.int (k:=.i64) Tryz.underlying3) (zR.cons (by kernel_rfl) (yd.int (k:=.i64) Tryz.underlying2) (zR.cons (by kernel_rfl) (yd.str Tryz.underlying9) (zR.cons (by kernel_rfl) (hs (by omega)) (zR.cons (by kernel_rfl) (hm (by omega)) zR.nil)))))
     (by kernel_rfl) (by kernel_rfl) cV wfV bV (fun x=>.mk x.1 x.2.1 x.2.2.1 x.2.2.2.1 x.2.2.2.2.1) (fun a=>rfl) (fun a h=>⟨zlK h.2.1,h.2.2.2.1,h.2.2.2.2.1⟩) (fun a=>by simp only[bV];omega)
  ·cases m with
   | zero=>exact yd.zero
   | succ k =>
    exact yd.struct (zR.cons (by kernel_rfl) (yd.str Tryz.underlying9) (zR.cons (by kernel_rfl) (ih k (by omega)).1 zR.nil))
     (by kernel_rfl) (by kernel_rfl) cM wfM bM (fun x=>.mk x.1 x.2.1) (fun a=>by simp[cM]) (fun a h=>h.2.1) (fun a=>by simp only[bM];omega)
theorem zvc (m:Nat):DV m:=(dec m).1
theorem zpJ:∀ m,yd Tryz.prog m 54 1 (fun l:List Mem=>[.sl .no 6 (cMs l)]) (fun l=>zdT l) (fun l=>bMs l+1)
 | 0=>yd.zero
 | m+1=>zsS (dec m).2
theorem ztl {W:World} {r:Reach} {b:Nat} {t:TypeId} {fs:Array Field} {v:Value} (ht:Tryz.prog.underlying t=some (.struct fs)) (h:Value.okWide Tryz.prog W r b t v):∃ cs,v=.agg cs:=by
 unfold Value.okWide at h
 rw[ht] at h
 obtain⟨cs,h,_⟩:=h
 exact⟨cs,h⟩
theorem zoa {H:Type} {s:ChangeSpec} {ds:List (DataW H)} (h:∀ k,(Rows.OpenSpec.upto s).cond=some k→k H ds=true):Z0 ds≤1048576:=by
 have h1:Rows.uptoSmall H ds=true:=h _ rfl
 have h2:=of_decide_eq_true h1
 rwa [zaV] at h2
end Go.Proofs.YticbbfbpeimkbaaGreatDoor
namespace Go.Proofs.YticbbfbpeimkbaaGreatDoor
open Go.Ab
structure DirD where
 nm:List UInt8
 args:List Mem
inductive SelD where
 | mk (k:Int) (al nm:List UInt8) (args:List Mem) (dirs:List DirD) (on:List UInt8) (sels:List SelD)
structure TyD where
 nm:List UInt8
 lists:Int
 musts:Int
structure VarD where
 nm:List UInt8
 t:TyD
 has:Bool
 d:Val
structure OpD where
 k:Int
 nm:List UInt8
 vars:List VarD
 dirs:List DirD
 sels:List SelD
structure FragD where
 nm:List UInt8
 on:List UInt8
 dirs:List DirD
 sels:List SelD
structure DocD where
 ops:List OpD
 frags:List FragD
def cD (x:DirD):List AV:=[.str x.nm,.sl .no 6 (cMs x.args)]
def cDs (l:List DirD):List (List AV):=l.map cD
mutual
def cS:SelD→List AV
 | .mk k al nm args dirs on sels=>[.int .i64 k,.str al,.str nm,.sl .no 6 (cMs args),.sl .no 2 (cDs dirs),.str on,.sl .no 7 (cSs sels)]
def cSs:List SelD→List (List AV)
 | []=>[]
 | x::r=>cS x::cSs r
end
def cTy (t:TyD):List AV:=[.str t.nm,.int .i64 t.lists,.int .i64 t.musts]
def cW (x:VarD):List AV:=cTy ⟨x.nm,0,0⟩ |>.take 1 |>.append (cTy x.t++(.bool x.has::cV x.d))
def cWs (l:List VarD):List (List AV):=l.map cW
def cO (x:OpD):List AV:=[.int .i64 x.k,.str x.nm,.sl .no 10 (cWs x.vars),.sl .no 2 (cDs x.dirs),.sl .no 7 (cSs x.sels)]
def cOs (l:List OpD):List (List AV):=l.map cO
def cF (x:FragD):List AV:=[.str x.nm,.str x.on,.sl .no 2 (cDs x.dirs),.sl .no 7 (cSs x.sels)]
def cFs (l:List FragD):List (List AV):=l.map cF
def zaj (d:DocD):List AV:=[.sl .no 5 (cOs d.ops),.sl .no 4 (cFs d.frags)]
theorem zcV (nm:List UInt8) (t:TyD) (h:Bool) (d:Val):cW ⟨nm,t,h,d⟩=.str nm::.str t.nm::.int .i64 t.lists::.int .i64 t.musts::.bool h::cV d:=rfl
theorem zdo:∀ l,cSs l=l.map cS
 | []=>rfl
 | v::r=>by rw[cSs,zdo r];rfl
theorem zev (l:List DirD):(cDs l).length=l.length:=by simp[cDs]
theorem zb7 (l:List SelD):(cSs l).length=l.length:=by rw[zdo];simp
theorem zdk (l:List VarD):(cWs l).length=l.length:=by simp[cWs]
theorem zem (l:List OpD):(cOs l).length=l.length:=by simp[cOs]
theorem zel (l:List FragD):(cFs l).length=l.length:=by simp[cFs]
theorem zgi {l a:List DirD} {x:DirD} {b:List DirD} (h:l=a++x::b):(cDs l).getD a.length []=cD x:=Zq h
theorem zdu {l a:List SelD} {x:SelD} {b:List SelD} (h:l=a++x::b):(cSs l).getD a.length []=cS x:=by rw[zdo,Zq h]
theorem zat {l a:List VarD} {x:VarD} {b:List VarD} (h:l=a++x::b):(cWs l).getD a.length []=cW x:=Zq h
theorem zgh {l a:List OpD} {x:OpD} {b:List OpD} (h:l=a++x::b):(cOs l).getD a.length []=cO x:=Zq h
theorem zge {l a:List FragD} {x:FragD} {b:List FragD} (h:l=a++x::b):(cFs l).getD a.length []=cF x:=Zq h
theorem Y4 (k:Int) (al nm:List UInt8) (args:List Mem) (dirs:List DirD) (on:List UInt8) (sels:List SelD):cS (.mk k al nm args dirs on sels)=[.int .i64 k,.str al,.str nm,.sl .no 6 (cMs args),.sl .no 2 (cDs dirs),.str on,.sl .no 7 (cSs sels)]:=rfl
theorem zoP (x:DirD):(cD x).map AV.strip1=cD x:=rfl
theorem zeo (x:SelD):(cS x).map AV.strip1=cS x:=by cases x;rfl
theorem zcC (x:VarD):(cW x).map AV.strip1=cW x:=by rcases x with ⟨a,b,c,⟨⟩⟩;rfl
theorem zgV (x:SelD):(cS x).length=7:=by cases x;rfl
theorem zeK (x:SelD):(cS x).take 7=cS x:=by cases x;rfl
theorem zbs (a b c d e f g:AV) (x:SelD):splice [a,b,c,d,e,f,g] 0 (cS x)=cS x:=by cases x;rfl
theorem zcm (x:VarD):(cW x).length=10:=by rcases x with ⟨a,b,c,⟨⟩⟩;rfl
theorem za1 (x:VarD):(cW x).take 10=cW x:=by rcases x with ⟨a,b,c,⟨⟩⟩;rfl
def bD (x:DirD):Nat:=1+x.nm.length+bMs x.args
def bDs (l:List DirD):Nat:=(l.map bD).sum
mutual
def bS:SelD→Nat
 | .mk _ al nm args dirs on sels=>1+al.length+nm.length+on.length+bMs args+bDs dirs+bSs sels
def bSs:List SelD→Nat
 | []=>0
 | x::r=>bS x+bSs r
end
def bW (x:VarD):Nat:=x.nm.length+x.t.nm.length+bV x.d
def bWs (l:List VarD):Nat:=(l.map bW).sum
def bO (x:OpD):Nat:=1+x.nm.length+bWs x.vars+bDs x.dirs+bSs x.sels
def bOs (l:List OpD):Nat:=(l.map bO).sum
def bF (x:FragD):Nat:=1+x.nm.length+x.on.length+bDs x.dirs+bSs x.sels
def bFs (l:List FragD):Nat:=(l.map bF).sum
def zcw (d:DocD):Nat:=bOs d.ops+bFs d.frags
theorem zep {α:Type} {f:α→Nat} (hf:∀ x,1≤f x):∀ l:List α,l.length≤(l.map f).sum
 | []=>Nat.zero_le _
 | x::r=>by have:=zep hf r;have:=hf x;simp only[List.map_cons,List.sum_cons,Al2];omega
theorem zgl {α:Type} (f:α→Nat) (a:List α) (x:α) (b:List α):((a++x::b).map f).sum=(a.map f).sum+f x+(b.map f).sum:=by simp;omega
theorem zjR (l:List DirD):l.length≤bDs l:=zep (fun x=>by simp only[bD];omega) l
theorem zjc (l:List VarD):l.length≤bWs l:=zep (fun x=>by have:=YO x.d;simp only[bW];omega) l
theorem zjm (l:List OpD):l.length≤bOs l:=zep (fun x=>by simp only[bO];omega) l
theorem zjE (l:List FragD):l.length≤bFs l:=zep (fun x=>by simp only[bF];omega) l
theorem ztK (x:SelD):1≤bS x:=by cases x;simp only[bS];omega
theorem zgd:∀ l:List SelD,l.length≤bSs l
 | []=>by simp
 | v::r=>by have:=zgd r;have:=ztK v;simp only[bSs,Al2];omega
theorem zjx (a:List DirD) (x:DirD) (b:List DirD):bDs (a++x::b)=bDs a+bD x+bDs b:=zgl ..
theorem zba (a:List VarD) (x:VarD) (b:List VarD):bWs (a++x::b)=bWs a+bW x+bWs b:=zgl ..
theorem zjg (a:List OpD) (x:OpD) (b:List OpD):bOs (a++x::b)=bOs a+bO x+bOs b:=zgl ..
theorem zjW (a:List FragD) (x:FragD) (b:List FragD):bFs (a++x::b)=bFs a+bF x+bFs b:=zgl ..
theorem zeL (a:List SelD) (x:SelD) (b:List SelD):bSs (a++x::b)=bSs a+bS x+bSs b:=by
 induction a with
 | nil=>simp[bSs]
 | cons y a ih=>simp only[Al6,bSs,ih];omega
mutual
theorem SelD.ind {P:SelD→Prop} (h:∀ k al nm args dirs on sels,(∀ v∈sels,P v)→P (.mk k al nm args dirs on sels)):∀ v,P v
 | .mk k al nm args dirs on sels=>h k al nm args dirs on sels (SelD.indL h sels)
theorem SelD.indL {P:SelD→Prop} (h:∀ k al nm args dirs on sels,(∀ v∈sels,P v)→P (.mk k al nm args dirs on sels)):∀ l:List SelD,∀ v∈l,P v
 | [],_,hv=>by cases hv
 | x::r,v,hv=>(List.mem_cons.1 hv).elim (fun e=>e▸SelD.ind h x) (SelD.indL h r v)
end
theorem zrH {t:List UInt8} {v:Val} {m:List Mem} (h:Mem.mk t v∈m):bV v≤bMs m:=by
 obtain⟨a,b,hd⟩:=List.append_of_mem h
 have:=za8 a (.mk t v) b
 rw[← hd] at this
 simp only[bM] at this
 omega
theorem zk3 (a b:List Mem) (ha:bMs a≤Lim):zq Tryz.prog 102 [.sl .no 6 (cMs a),.sl .no 6 (cMs b)] (.bool (eqd a b)) :=
 zli a b (by have:=Z9 a;omega) fun s v hm u=>zsT v (by have:=zrH hm;omega) u
def hexL:List UInt8:=[48,49,50,51,52,53,54,55,56,57,97,98,99,100,101,102]
def hexD (c:UInt8):Option Nat:=if Lib.indexByte hexL (c ||| 32)<0∨c.toNat<48∨(57<c.toNat∧c.toNat<65) then none else some (Lib.indexByte hexL (c ||| 32)).toNat
def Y8:Nat→List UInt8→Nat→Option Nat
 | 0,_,u=>some u
 | _+1,[],_=>none
 | n+1,c::t,u=>match hexD c with
  | none=>none
  | some k=>Y8 n t (16*u+k)
def Y9 (s:List UInt8):Option Nat:=Y8 4 s 0
def Zx (n:Nat):List UInt8 :=
 if n≤127 then [UInt8.ofNat n]
 else if n≤2047 then [UInt8.ofNat (192+n / 64),UInt8.ofNat (128+n % 64)]
 else if n≤65535 then [UInt8.ofNat (224+n / 4096),UInt8.ofNat (128+n / 64 % 64),UInt8.ofNat (128+n % 64)]
 else [UInt8.ofNat (240+n / 262144),UInt8.ofNat (128+n / 4096 % 64),UInt8.ofNat (128+n / 64 % 64),UInt8.ofNat (128+n % 64)]
def zQ:List Nat→Option (List UInt8)
 | []=>some []
 | u::r=>if 65535<u∨(56320≤u∧u≤57343) then none
  else if 55296≤u∧u<56320 then match r with
   | []=>none
   | v::r=>if v<56320∨57343<v then none else (zQ r).map (Zx (65536+1024*(u-55296)+(v-56320))++·)
  else (zQ r).map (Zx u++·)
structure Sd where
 b:List UInt8
 u:List Nat
 ok:Bool
def yI (q:Sd):Sd:=⟨q.b++(zQ q.u).getD [],[],q.ok&&(zQ q.u).isSome⟩
def Sd.put (q:Sd) (c:UInt8):Sd:=⟨(yI q).b++[c],[],(yI q).ok⟩
def zhu:List UInt8:=[34,92,47,98,102,110,114,116]
def ztt:List UInt8:=[34,92,47,8,12,10,13,9]
def YF (q:Sd):List UInt8→Option (Sd×List UInt8)
 | []=>none
 | c::t=>if c=117 then (Y9 t).map fun u=>(⟨q.b,q.u++[u],q.ok⟩,t.drop 4)
  else if Lib.indexByte zhu c<0 then none else some (q.put (ztt.getD (Lib.indexByte zhu c).toNat 0),t)
def zae (may:UInt8→Bool):Nat→List UInt8→Sd→Option (Sd×List UInt8)
 | 0,_,_=>none
 | _+1,[],_=>none
 | n+1,c::t,q=>if c=34 then some (yI q,t)
  else if c=92 then match YF q t with
   | none=>none
   | some (q',t')=>zae may n t' q'
  else if may c then zae may n t (q.put c) else none
def Y7 (may:UInt8→Bool) (t:List UInt8):Option (List UInt8×List UInt8):=match zae may (t.length+1) t ⟨[],[],true⟩ with
 | some (q,t')=>if q.ok then some (q.b,t') else none
 | none=>none
def hiB (c:UInt8):Bool:=decide (32≤c.toNat)
def bk (c:UInt8):Bool:=decide (0≤Lib.indexByte [9,10,13,32] c)
def skB:List UInt8→List UInt8
 | []=>[]
 | c::t=>if bk c then skB t else c::t
def nch (c:UInt8):Bool:=decide (0≤Lib.indexByte [48,49,50,51,52,53,54,55,56,57,43,45,46,101,69] c)
def nst (c:UInt8):Bool:=decide (0≤Lib.indexByte [45,48,49,50,51,52,53,54,55,56,57] c)
abbrev RR (α:Type):=Except Int (α×List UInt8)
def RR.bind {α β:Type} (x:RR α) (f:α→List UInt8→RR β):RR β:=match x with
 | .ok (a,t)=>f a t
 | .error e=>.error e
def zdw (p t:List UInt8):Option (List UInt8):=if p.isPrefixOf (skB t) then some ((skB t).drop p.length) else none
def zfK (p t:List UInt8):RR Unit:=match zdw p t with
 | some t'=>.ok ((),t')
 | none=>.error 2
def znr (t:List UInt8):RR (List UInt8):=if [34].isPrefixOf (skB t) then match Y7 hiB (skB t).tail with
  | some x=>.ok x
  | none=>.error 2
 else .error 2
def zsx:Val:=.mk 0 0 [] [] []
def zdx (s:List UInt8):Val:=if ZX s then .mk 2 (zhH s) [] [] [] else .mk 3 0 s [] []
def zr1 (t:List UInt8):RR Val:=if Yt (t.takeWhile nch)=0 then .error 2 else .ok (zdx (t.takeWhile nch),t.dropWhile nch)
def zgR (p:List UInt8→RR Val):Nat→List Val→List UInt8→RR (List Val)
 | 0,_,_=>.error 2
 | n+1,l,t=>match zdw [93] t with
  | some t'=>.ok (l,t')
  | none=>(zfK [44] t).bind fun _ t=>(p t).bind fun v t=>zgR p n (l++[v]) t
def znw (p:List UInt8→RR Val) (t:List UInt8):RR Val:=match zdw [93] t with
 | some t'=>.ok (.mk 6 0 [] [] [],t')
 | none=>(p t).bind fun v t=>(zgR p (t.length+1) [v] t).bind fun l t=>.ok (.mk 6 0 [] l [],t)
def zrj (s:List UInt8):List Mem→Bool
 | []=>false
 | .mk t _::r=>decide (t=s)||zrj s r
def zgj (p:List UInt8→RR Val) (l:List Mem) (t:List UInt8):RR (List Mem) :=
 (znr t).bind fun s t=>if zrj s l then .error 5 else (zfK [58] t).bind fun _ t=>(p t).bind fun v t=>.ok (l++[.mk s v],t)
def zcK (p:List UInt8→RR Val):Nat→List Mem→List UInt8→RR (List Mem)
 | 0,_,_=>.error 2
 | n+1,l,t=>match zdw [125] t with
  | some t'=>.ok (l,t')
  | none=>(zfK [44] t).bind fun _ t=>(zgj p l t).bind fun l t=>zcK p n l t
def mapM (p:List UInt8→RR Val) (t:List UInt8):RR Val:=match zdw [125] t with
 | some t'=>.ok (.mk 7 0 [] [] [],t')
 | none=>(zgj p [] t).bind fun l t=>(zcK p (t.length+1) l t).bind fun l t=>.ok (.mk 7 0 [] [] l,t)
def zkE (t:List UInt8):RR Val:=match zdw [110,117,108,108] t with
 | some t'=>.ok (zsx,t')
 | none=>match zdw [116,114,117,101] t with
  | some t'=>.ok (.mk 1 1 [] [] [],t')
  | none=>(zfK [102,97,108,115,101] t).bind fun _ t=>.ok (.mk 1 0 [] [] [],t)
def zbz (t:List UInt8) (p:List UInt8→RR Val):RR Val:=match t with
 | []=>zkE []
 | c::r=>if c=123 then mapM p r else if c=91 then znw p r
  else if c=34 then (znr (c::r)).bind fun s t=>.ok (.mk 4 0 s [] [],t)
  else if nst c then zr1 (c::r) else zkE (c::r)
def zsN (_:List UInt8):RR Val:=.error 4
def zdX:Nat→List UInt8→RR Val
 | 0,t=>if (skB t).head?=some 123∨(skB t).head?=some 91 then .error 4 else zbz (skB t) zsN
 | n+1,t=>zbz (skB t) (zdX n)
theorem zeq {q q':Sd} {t t':List UInt8} (h:YF q t=some (q',t')):t' <:+ t∧t'.length<t.length:=by
 cases t with
 | nil=>cases h
 | cons c t =>
  simp only[YF] at h
  split at h
  ·cases hu:Y9 t with
   | none=>simp[hu] at h
   | some u =>
    simp only[hu,zas,Al1,Al8] at h
    obtain⟨_,rfl⟩:=h
    exact⟨(List.drop_suffix _ _).trans (List.suffix_cons ..),by simp;omega⟩
  ·split at h
   ·cases h
   ·simp only[Al1,Al8] at h
    obtain⟨_,rfl⟩:=h
    exact⟨List.suffix_cons ..,by simp⟩
theorem zgD {may:UInt8→Bool}:∀(n:Nat) (t:List UInt8) (q q':Sd) (t':List UInt8),zae may n t q=some (q',t')→t' <:+ t∧t'.length<t.length
 | 0,_,_,_,_,h=>by cases h
 | _+1,[],_,_,_,h=>by cases h
 | n+1,c::t,q,q',t',h=>by
  simp only[zae] at h
  split at h
  ·simp only[Al1,Al8] at h
   obtain⟨_,rfl⟩:=h
   exact⟨List.suffix_cons ..,by simp⟩
  ·split at h
   ·cases he:YF q t with
    | none=>simp[he] at h
    | some x =>
     obtain⟨q1,t1⟩:=x
     simp only[he] at h
     have h1:=zeq he
     have h2:=zgD n t1 q1 q' t' h
     exact⟨(h2.1.trans h1.1).trans (List.suffix_cons ..),by simp;omega⟩
   ·split at h
    ·have h2:=zgD n t _ q' t' h
     exact⟨h2.1.trans (List.suffix_cons ..),by simp;omega⟩
    ·cases h
theorem zkl {may:UInt8→Bool} {t t' b:List UInt8} (h:Y7 may t=some (b,t')):t' <:+ t∧t'.length<t.length:=by
 unfold Y7 at h
 split at h
 ·rename_i q t1 hq
  split at h
  ·cases h;exact zgD _ _ _ _ _ hq
  ·cases h
 ·cases h
theorem zdl:∀(n:Nat) (t:List UInt8) (u v:Nat),Y8 n t u=some v→n≤t.length
 | 0,_,_,_,_=>Nat.zero_le _
 | n+1,[],_,_,h=>by cases h
 | n+1,c::t,u,v,h=>by
  simp only[Y8] at h
  split at h
  ·cases h
  ·have:=zdl n t _ v h;simp;omega
theorem zcI (n:Nat):(Zx n).length≤4∧(n≤65535→(Zx n).length≤3):=by
 unfold Zx
 split
 ·simp
 ·split
  ·simp
  ·split
   ·simp
   ·refine⟨by simp,fun h=>by omega⟩
theorem ze1:∀(u:List Nat) (s:List UInt8),zQ u=some s→s.length≤3*u.length
 | [],s,h=>by cases h;simp
 | u::[],s,h=>by
  simp only[zQ] at h
  split at h
  ·cases h
  ·rename_i h1
   split at h
   ·cases h
   ·simp only[zas,Al1] at h
    subst h
    have:=(zcI u).2 (by omega)
    simp;omega
 | u::v::r,s,h=>by
  rw[zQ] at h
  split at h
  ·cases h
  ·rename_i h1
   split at h
   ·split at h
    ·cases h
    ·cases hr:zQ r with
     | none=>simp[hr] at h
     | some x =>
      simp only[hr,zas,Al1] at h
      subst h
      have h2:=ze1 r x hr
      have h3:=(zcI (65536+1024*(u-55296)+(v-56320))).1
      simp only[Al5,Al2];omega
   ·cases hr:zQ (v::r) with
    | none=>simp[hr] at h
    | some x =>
     simp only[hr,zas,Al1] at h
     subst h
     have h2:=ze1 (v::r) x hr
     have h3:=(zcI u).2 (by omega)
     simp only[Al5,Al2] at h2 ⊢;omega
def Sd.w (q:Sd):Nat:=q.b.length+3*q.u.length
theorem zez (q:Sd):(yI q).b.length≤q.w:=by
 unfold yI Sd.w
 cases h:zQ q.u with
 | none=>simp
 | some s=>have:=ze1 _ _ h;simp;omega
theorem zqo (q:Sd) (c:UInt8):(q.put c).w≤q.w+1:=by
 have:=zez q
 simp only[Sd.put,Sd.w,Al5,Al2,Al3] at this ⊢;omega
theorem zpL {q q':Sd} {t t':List UInt8} (h:YF q t=some (q',t')):q'.w+t'.length≤q.w+t.length:=by
 cases t with
 | nil=>cases h
 | cons c t =>
  simp only[YF] at h
  split at h
  ·cases hu:Y9 t with
   | none=>simp[hu] at h
   | some u =>
    simp only[hu,zas,Al1,Al8] at h
    obtain⟨rfl,rfl⟩:=h
    have:=zdl _ _ _ _ hu
    simp only[Sd.w,Al5,Al2,Al3,List.length_drop];omega
  ·split at h
   ·cases h
   ·simp only[Al1,Al8] at h
    obtain⟨rfl,rfl⟩:=h
    have:=zqo q (ztt.getD (Lib.indexByte zhu c).toNat 0)
    simp only[Al2];omega
theorem zmh {may:UInt8→Bool}:∀(n:Nat) (t:List UInt8) (q q':Sd) (t':List UInt8),zae may n t q=some (q',t')→q'.b.length+t'.length+1≤q.w+t.length
 | 0,_,_,_,_,h=>by cases h
 | _+1,[],_,_,_,h=>by cases h
 | n+1,c::t,q,q',t',h=>by
  simp only[zae] at h
  split at h
  ·simp only[Al1,Al8] at h
   obtain⟨rfl,rfl⟩:=h
   have:=zez q
   simp only[Al2];omega
  ·split at h
   ·cases he:YF q t with
    | none=>simp[he] at h
    | some x =>
     obtain⟨q1,t1⟩:=x
     simp only[he] at h
     have h1:=zpL he
     have h2:=zmh n t1 q1 q' t' h
     simp only[Al2];omega
   ·split at h
    ·have h2:=zmh n t _ q' t' h
     have h3:=zqo q c
     simp only[Al2];omega
    ·cases h
theorem zth {may:UInt8→Bool} {t t' b:List UInt8} (h:Y7 may t=some (b,t')):b.length+t'.length+1≤t.length:=by
 unfold Y7 at h
 split at h
 ·rename_i q t1 hq
  split at h
  ·cases h;have:=zmh _ _ _ _ _ hq;simpa[Sd.w] using this
  ·cases h
 ·cases h
theorem zi8:inR 0:=by simp[inR]
theorem znY {s:List UInt8} {n:Int} (h:Lib.parseIntB 64 s=.ok n):inR n:=by
 cases s with
 | nil=>cases h
 | cons c r =>
  simp only[Lib.parseIntB] at h
  split at h
  ·cases h
  ·cases h
  ·split at h
   ·cases h
   ·split at h
    ·cases h
    ·rename_i h1 h2
     cases h
     simp only[inR]
     split<;>simp_all<;>omega
theorem zqy (s:List UInt8):bV (zdx s)≤1+s.length∧wfV (zdx s):=by
 unfold zdx
 split
 ·rename_i h
  refine⟨by simp only[bV,bVs,bMs,Al3];omega,?_,trivial,trivial⟩
  unfold ZX at h
  unfold zhH
  rcases hp:Lib.parseIntB 64 s with v|_|_
  ·exact znY hp
  ·exact zi8
  ·rw[hp] at h;simp[okI] at h
 ·exact⟨by simp only[bV,bVs,bMs];omega,zi8,trivial,trivial⟩
abbrev TS:=List Tok
def hdT (t:TS):Tok:=t.headD ⟨0,[]⟩
def isP (m:List UInt8) (t:TS):Bool:=decide ((hdT t).k=1)&&decide ((hdT t).s=m)
def isW (w:List UInt8) (t:TS):Bool:=decide ((hdT t).k=2)&&decide ((hdT t).s=w)
abbrev PR (α:Type):=Except Int (α×TS)
def pb {α β:Type} (x:PR α) (f:α→TS→PR β):PR β:=match x with
 | .ok (a,t)=>f a t
 | .error e=>.error e
theorem zE {α β:Type} (a:α) (t:TS) (f:α→TS→PR β):pb (.ok (a,t)) f=f a t:=rfl
def Z4 (m:List UInt8) (t:TS):PR Unit:=if isP m t then .ok ((),t.tail) else .error 2
def y0 (t:TS):PR (List UInt8):=if (hdT t).k=2 then .ok ((hdT t).s,t.tail) else .error 2
def Yu (w:List UInt8) (t:TS):TS:=if isW w t then t.tail else t
def yC {α:Type} (m:List UInt8) (f:TS→PR α):Nat→List α→TS→PR (List α)
 | 0,_,_=>.error 0
 | n+1,l,t=>if isP m t then .ok (l,t.tail) else pb (f t) fun x t=>yC m f n (l++[x]) t
def zaU {α:Type} (m:List UInt8) (f:TS→PR α) (t:TS):PR (List α):=pb (f t) fun x t=>yC m f (t.length+1) [x] t
def YP {α:Type} (m:List UInt8) (f:TS→PR α):Nat→List α→TS→PR (List α)
 | 0,_,_=>.error 0
 | n+1,l,t=>if isP m t then pb (f t.tail) fun x t=>YP m f n (l++[x]) t else .ok (l,t)
def zcM (ty:TyD) (t:TS):PR TyD:=if isP [33] t then .ok (⟨ty.nm,ty.lists,ty.musts+1⟩,t.tail) else .ok (ty,t)
def zlC {α:Type} (f:Nat→α):Nat→Option α
 | 0=>none
 | k+1=>some (f k)
theorem zjT {α:Type} (f:Nat→α) (k:Nat):zlC f (k+1)=some (f k):=rfl
def zf2 (sub:Option (TS→PR TyD)) (t:TS):PR TyD:=if isP [91] t then (match sub with
   | none=>.error 4
   | some f=>pb (f t.tail) fun ty t=>pb (Z4 [93] t) fun _ t=>zcM ⟨ty.nm,ty.lists+1,ty.musts*2⟩ t)
  else pb (y0 t) fun s t=>zcM ⟨s,0,0⟩ t
def zcj:Nat→TS→PR TyD
 | 0=>zf2 none
 | k+1=>zf2 (some (zcj k))
theorem zau (k:Nat) (t:TS):zcj k t=zf2 (zlC zcj k) t:=by cases k<;>rfl
def zbe (s:List UInt8):Val:=if s=[110,117,108,108] then zV else if s=[116,114,117,101] then .mk 1 1 [] [] [] else if s=[102,97,108,115,101] then .mk 1 0 [] [] [] else .mk 5 0 s [] []
def yL (v:TS→PR Val) (t:TS):PR Mem:=pb (y0 t) fun s t=>pb (Z4 [58] t) fun _ t=>pb (v t) fun x t=>.ok (.mk s x,t)
def zax (fixed:Bool) (sub:Option (TS→PR Val)) (t:TS):PR Val :=
  if (hdT t).k=2 then .ok (zbe (hdT t).s,t.tail)
  else if (hdT t).k=3∨(hdT t).k=4 then .ok (zdx (hdT t).s,t.tail)
  else if (hdT t).k=5 then .ok (.mk 4 0 (hdT t).s [] [],t.tail)
  else if isP [91] t then (match sub with
   | none=>.error 4
   | some f=>pb (yC [93] f (t.tail.length+1) [] t.tail) fun l t=>.ok (.mk 6 0 [] l [],t))
  else if isP [123] t then (match sub with
   | none=>.error 4
   | some f=>pb (yC [125] (yL f) (t.tail.length+1) [] t.tail) fun l t=>.ok (.mk 7 0 [] [] l,t))
  else if fixed then .error 2
  else pb (Z4 [36] t) fun _ t=>pb (y0 t) fun s t=>.ok (.mk 8 0 s [] [],t)
def Zo (fixed:Bool):Nat→TS→PR Val
 | 0=>zax fixed none
 | k+1=>zax fixed (some (Zo fixed k))
theorem yT (fixed:Bool) (k:Nat) (t:TS):Zo fixed k t=zax fixed (zlC (Zo fixed) k) t:=by cases k<;>rfl
def zan (fixed:Bool) (k:Nat) (t:TS):PR (List Mem):=if isP [40] t then zaU [41] (yL (Zo fixed k)) t.tail else .ok ([],t)
def zfU (fixed:Bool) (k:Nat) (t:TS):PR DirD:=pb (y0 t) fun s t=>pb (zan fixed k t) fun a t=>.ok (⟨s,a⟩,t)
def Yy (fixed:Bool) (k:Nat) (t:TS):PR (List DirD):=YP [64] (zfU fixed k) (t.length+1) [] t
def Zm (sels:TS→PR (List SelD)) (k:Nat) (t:TS):PR SelD :=
 if (hdT t).k=2∧isW [111,110] t=false then pb (y0 t) fun s t=>pb (Yy false k t) fun d t=>.ok (.mk 1 [] s [] d [] [],t)
 else pb (if isW [111,110] t then y0 t.tail else .ok ([],t)) fun o t=>pb (Yy false k t) fun d t=>pb (sels t) fun l t=>.ok (.mk 2 [] [] [] d o l,t)
def zaM (sels:TS→PR (List SelD)) (k:Nat) (t:TS):PR SelD :=
 if isP [46,46,46] t then Zm sels k t.tail
 else pb (y0 t) fun s t=>pb (if isP [58] t then pb (y0 t.tail) fun s2 t=>.ok ((s,s2),t) else .ok (([],s),t)) fun an t =>
  pb (zan false k t) fun a t=>pb (Yy false k t) fun d t=>pb (if isP [123] t then sels t else .ok ([],t)) fun l t=>.ok (.mk 0 an.1 an.2 a d [] l,t)
def yn:Nat→TS→PR (List SelD)
 | 0,t=>if isP [123] t then .error 4 else .error 2
 | k+1,t=>if isP [123] t then zaU [125] (zaM (yn k) k) t.tail else .error 2
def zaK (t:TS):PR VarD:=pb (Z4 [36] t) fun _ t=>pb (y0 t) fun s t=>pb (Z4 [58] t) fun _ t=>pb (zcj 4 t) fun ty t =>
 if isP [61] t then pb (Zo true 16 t.tail) fun v t=>.ok (⟨s,ty,true,v⟩,t) else .ok (⟨s,ty,false,zV⟩,t)
def opP (kind:Int) (t:TS):PR OpD :=
 pb (if (hdT t).k=2 then y0 t else .ok ([],t)) fun s t=>pb (if isP [40] t then zaU [41] zaK t.tail else .ok ([],t)) fun vs t =>
 pb (Yy true 16 t) fun d t=>pb (yn 16 t) fun l t=>.ok (⟨kind,s,vs,d,l⟩,t)
def zct (t:TS):PR FragD :=
 pb (if isW [111,110] t then .error 2 else y0 t) fun s t=>pb (if isW [111,110] t then .ok ((),t.tail) else .error 2) fun _ t=>pb (y0 t) fun o t =>
 pb (Yy true 16 t) fun d t=>pb (yn 16 t) fun l t=>.ok (⟨s,o,d,l⟩,t)
def YG (d:DocD) (t:TS):PR DocD :=
 if isP [123] t then pb (yn 16 t) fun l t=>.ok (⟨d.ops++[⟨0,[],[],[],l⟩],d.frags⟩,t)
 else if isW [113,117,101,114,121] t then pb (opP 0 t.tail) fun o t=>.ok (⟨d.ops++[o],d.frags⟩,t)
 else if isW [109,117,116,97,116,105,111,110] t then pb (opP 1 t.tail) fun o t=>.ok (⟨d.ops++[o],d.frags⟩,t)
 else if isW [102,114,97,103,109,101,110,116] t then pb (zct t.tail) fun f t=>.ok (⟨d.ops,d.frags++[f]⟩,t)
 else .error 2
def Y6:Nat→DocD→TS→PR DocD
 | 0,_,_=>.error 0
 | n+1,d,t=>if t=[] then .ok (d,t) else pb (YG d t) fun d t=>Y6 n d t
def zhC (t:TS):PR DocD:=pb (YG ⟨[],[]⟩ t) fun d t=>Y6 (t.length+1) d t
def wK (t:Tok):Nat:=t.s.length+4
def wT (l:TS):Nat:=(l.map wK).sum
theorem yS (x:Tok) (l:TS):wT (x::l)=wK x+wT l:=by simp[wT]
structure Fp {α:Type} (b:α→Nat) (ok:α→Prop) (c:Nat) (t:TS) (a:α) (t':TS):Prop where
 suf:t' <:+ t
 w:b a+c+wT t'≤wT t
 ok:ok a
def GP {α:Type} (b:α→Nat) (ok:α→Prop) (c:Nat) (f:TS→PR α):Prop:=∀ t a t',f t=.ok (a,t')→Fp b ok c t a t'
theorem Fp.lt {α:Type} {b:α→Nat} {ok:α→Prop} {c:Nat} {t t':TS} {a:α} (h:Fp b ok c t a t') (hc:0<c):t'.length<t.length:=by
 obtain⟨p,hp⟩:=h.suf
 have h2:=h.w
 cases p with
 | nil=>simp at hp;subst hp;omega
 | cons x p=>rw[← hp];simp;omega
theorem YX {t:TS} (h:(hdT t).k≠0):t=hdT t::t.tail:=by
 cases t with
 | nil=>exact absurd rfl h
 | cons x t=>rfl
theorem zgq {m:List UInt8} {t:TS} (h:isP m t=true):(hdT t).k≠0:=by
 simp only[isP,Al0,decide_eq_true_eq] at h;rw[h.1];decide
theorem zcR {m:List UInt8} {t:TS} (h:isW m t=true):(hdT t).k≠0:=by
 simp only[isW,Al0,decide_eq_true_eq] at h;rw[h.1];decide
theorem zeT {t:TS} (h:(hdT t).k≠0):t.tail <:+ t∧(hdT t).s.length+4+wT t.tail=wT t:=by
 refine⟨List.tail_suffix t,?_⟩
 conv=>rhs;rw[YX h,yS]
 rfl
theorem YI {m:List UInt8} {t:TS} (h:isP m t=true):t.tail <:+ t∧4+wT t.tail≤wT t:=by
 have:=zeT (zgq h);exact⟨this.1,by omega⟩
theorem zi9 {m:List UInt8} {t:TS} (h:isW m t=true):t.tail <:+ t∧4+wT t.tail≤wT t:=by
 have:=zeT (zcR h);exact⟨this.1,by omega⟩
def T1 {α:Type} (_:α):Prop:=True
def b0 {α:Type} (_:α):Nat:=0
theorem zbo (m:List UInt8):GP b0 T1 4 (Z4 m):=fun t a t' h=>by
 unfold Z4 at h
 split at h
 ·rename_i hp;simp only[zjO,Al8] at h;obtain⟨_,rfl⟩:=h
  have:=YI hp;exact⟨this.1,by simp only[b0];omega,trivial⟩
 ·cases h
theorem Zh:GP List.length T1 4 y0:=fun t a t' h=>by
 unfold y0 at h
 split at h
 ·rename_i hp;simp only[zjO,Al8] at h;obtain⟨rfl,rfl⟩:=h
  have:=zeT (t:=t) (by rw[hp];decide);exact⟨this.1,by omega,trivial⟩
 ·cases h
theorem zZ {α β:Type} {x:PR α} {f:α→TS→PR β} {b:β} {t':TS} (h:pb x f=.ok (b,t')):∃ a t,x=.ok (a,t)∧f a t=.ok (b,t'):=by
 rcases x with e|⟨a,t⟩
 ·cases h
 ·exact⟨a,t,rfl,h⟩
def sm {α:Type} (b:α→Nat) (l:List α):Nat:=(l.map b).sum+l.length
theorem znM {α:Type} (b:α→Nat) (l:List α) (x:α):sm b (l++[x])=sm b l+b x+1:=by simp[sm];omega
theorem znk {α:Type} {ok:α→Prop} {l:List α} {x:α} (h:∀ y∈l,ok y) (hx:ok x):∀ y∈l++[x],ok y:=fun y hy=>by
 rcases List.mem_append.1 hy with h1|h1
 ·exact h y h1
 ·simp at h1;subst h1;exact hx
theorem zds {α:Type} {b:α→Nat} {ok:α→Prop} {m:List UInt8} {f:TS→PR α} (hf:GP b ok 1 f):∀(n:Nat) (l:List α) (t:TS) (l':List α) (t':TS),(∀ x∈l,ok x)→yC m f n l t=.ok (l',t')→t' <:+ t∧sm b l'+4+wT t'≤sm b l+wT t∧∀ x∈l',ok x
 | 0,_,_,_,_,_,h=>by cases h
 | n+1,l,t,l',t',hl,h=>by
  simp only[yC] at h
  split at h
  ·rename_i hp;simp only[zjO,Al8] at h;obtain⟨rfl,rfl⟩:=h
   have:=YI hp;exact⟨this.1,by omega,hl⟩
  ·obtain⟨x,t1,h1,h2⟩:=zZ h
   have g1:=hf _ _ _ h1
   have w:=g1.w
   have g2:=zds hf n _ _ _ _ (znk hl g1.ok) h2
   rw[znM] at g2
   exact⟨g2.1.trans g1.suf,by omega,g2.2.2⟩
theorem zgW {α:Type} {b:α→Nat} {ok:α→Prop} {m:List UInt8} {f:TS→PR α} (hf:GP b ok 1 f):∀(n:Nat) (l:List α) (t:TS) (l':List α) (t':TS),(∀ x∈l,ok x)→YP m f n l t=.ok (l',t')→t' <:+ t∧sm b l'+wT t'≤sm b l+wT t∧∀ x∈l',ok x
 | 0,_,_,_,_,_,h=>by cases h
 | n+1,l,t,l',t',hl,h=>by
  simp only[YP] at h
  split at h
  ·rename_i hp
   have h0:=YI hp
   obtain⟨x,t1,h1,h2⟩:=zZ h
   have g1:=hf _ _ _ h1
   have w:=g1.w
   have g2:=zgW hf n _ _ _ _ (znk hl g1.ok) h2
   rw[znM] at g2
   exact⟨(g2.1.trans g1.suf).trans h0.1,by omega,g2.2.2⟩
  ·simp only[zjO,Al8] at h;obtain⟨rfl,rfl⟩:=h
   exact⟨List.suffix_refl t,by omega,hl⟩
theorem zd4 {α:Type} {b:α→Nat} {ok:α→Prop} {m:List UInt8} {f:TS→PR α} (hf:GP b ok 1 f):GP (sm b) (fun l=>∀ x∈l,ok x) 4 (zaU m f):=fun t l t' h=>by
 obtain⟨x,t1,h1,h2⟩:=zZ h
 have g1:=hf _ _ _ h1
 have w:=g1.w
 have g2:=zds hf _ [x] _ _ _ (fun y hy=>by simp at hy;subst hy;exact g1.ok) h2
 have e:sm b [x]=b x+1:=by simp[sm]
 exact⟨g2.1.trans g1.suf,by omega,g2.2.2⟩
theorem zjo {m:List UInt8} {t:TS} (h:isP m t=true):t.tail.length<t.length:=by
 conv=>rhs;rw[YX (zgq h)]
 simp
theorem GP.lt {α:Type} {b:α→Nat} {ok:α→Prop} {c:Nat} {f:TS→PR α} (h:GP b ok c f) (hc:0<c):∀ t a t',f t=.ok (a,t')→t'.length<t.length:=fun t a t' e=>(h t a t' e).lt hc
def zvw (ty:TyD) (n:Nat):Prop:=0≤ty.lists∧ty.lists≤n∧0≤ty.musts∧ty.musts<2 ^ (ty.lists.toNat+1)∧ty.musts % 2=0
def zkv (n:Nat) (ty:TyD):Prop:=0≤ty.lists∧ty.lists≤n∧0≤ty.musts∧ty.musts<2 ^ (ty.lists.toNat+1)
theorem ziv {ty:TyD} {n:Nat} (h:zvw ty n):∀ t a t',zcM ty t=.ok (a,t')→t' <:+ t∧a.nm=ty.nm∧wT t'≤wT t∧zkv n a:=fun t a t' e=>by
 obtain⟨h1,h2,h3,h4,h5⟩:=h
 unfold zcM at e
 split at e
 ·rename_i hp;simp only[zjO,Al8] at e;obtain⟨rfl,rfl⟩:=e
  have:=YI hp
  refine⟨this.1,rfl,by omega,h1,h2,by simp only;omega,?_⟩
  have e2:(2:Int) ^ (ty.lists.toNat+1) % 2=0:=by rw[Int.pow_succ];omega
  simp only;omega
 ·simp only[zjO,Al8] at e;obtain⟨rfl,rfl⟩:=e
  exact⟨List.suffix_refl t,rfl,Al4 _,h1,h2,h3,h4⟩
theorem zin (n:Nat) (ih:∀ m,n=m+1→GP (fun ty=>ty.nm.length) (zkv m) 4 (zcj m)):GP (fun ty=>ty.nm.length) (zkv n) 4 (zcj n):=fun t a t' h=>by
 rw[zau,zf2.eq_def] at h
 split at h
 ·rename_i hp
  have h0:=YI hp
  cases n with
  | zero=>cases h
  | succ n =>
   obtain⟨ty,t1,h1,h2⟩:=zZ h
   obtain⟨_,t2,h3,h4⟩:=zZ h2
   have g1:=ih n rfl _ _ _ h1
   have g3:=zbo _ _ _ _ h3
   obtain⟨a1,a2,a3,a4⟩:=g1.ok
   have e1:(ty.lists+1).toNat=ty.lists.toNat+1:=by omega
   have g4:=ziv (n:=n+1) ⟨by simp only;omega,by simp only;omega,by simp only;omega,by simp only;rw[e1,Int.pow_succ];omega,by simp only;omega⟩ _ _ _ h4
   have w1:=g1.w
   have w3:=g3.w
   simp only[b0] at w1 w3
   exact⟨((g4.1.trans g3.suf).trans g1.suf).trans h0.1,by rw[g4.2.1];simp only;omega,g4.2.2.2⟩
 ·obtain⟨s,t1,h1,h2⟩:=zZ h
  have g1:=Zh _ _ _ h1
  have g4:=ziv (n:=n) ⟨by simp,by simp,by simp,by simp,by simp⟩ _ _ _ h2
  have w1:=g1.w
  exact⟨g4.1.trans g1.suf,by rw[g4.2.1];simp only;omega,g4.2.2.2⟩
theorem zlr:∀ n,GP (fun ty=>ty.nm.length) (zkv n) 4 (zcj n)
 | 0=>zin 0 fun m h=>by cases h
 | k+1=>zin (k+1) fun m h=>by cases h;exact zlr k
def Yf (x:Tok):AV:=.agg [.int .i64 x.k,.str x.s]
def zaI:Own→Option Nat
 | .tip b _=>some b
 | _=>none
structure Sep (H:za) (l:List (Own×Nat×Nat)):Prop where
 own:∀ x∈l,yg H x.1 x.2.1 x.2.2
 nd:(l.filterMap fun x=>zaI x.1).Nodup
theorem zbL {o:Own} {b:Nat} (h:zaI o=some b):∃ d,o=.tip b d:=by
 cases o<;>simp[zaI] at h
 rename_i c d;subst h;exact⟨d,rfl⟩
theorem yg.ofKept {H H':za} {o o2:Own} {n sz:Nat} (h:yg H o n sz) (hk:Kept H o2 H') (hne:∀ b d d2,o=.tip b d→o2≠.tip b d2):yg H' o n sz:=by
 cases o with
 | tip b d=>exact hk b _ h fun d2 e=>hne b d d2 rfl e
 | no=>exact h
 | nil=>exact h
 | full=>exact h
theorem Sep.step {H H':za} {a b:List (Own×Nat×Nat)} {o o':Own} {n n' sz:Nat} (h:Sep H (a++(o,n,sz)::b)) (h':OwnS H o H' o' n' sz):Sep H' (a++(o',n',sz)::b):=by
 have hnd:=h.nd
 simp only[List.filterMap_append,List.filterMap_cons] at hnd
 have hother:∀ x,x∈a∨x∈b→∀ c d d2,x.1=.tip c d→o≠.tip c d2:=fun x hx c d d2 hxe e=>by
  subst e
  simp only[zaI] at hnd
  rw[List.nodup_append] at hnd
  obtain⟨_,hb,hab⟩:=hnd
  rcases hx with hx|hx
  ·exact hab c (List.mem_filterMap.2 ⟨x,hx,by rw[hxe]⟩) c (List.mem_cons_self ..) rfl
  ·exact(List.nodup_cons.1 hb).1 (List.mem_filterMap.2 ⟨x,hx,by rw[hxe]⟩)
 refine⟨fun x hx=>?_,?_⟩
 ·rcases List.mem_append.1 hx with hx|hx
  ·exact yg.ofKept (h.own x (by simp[hx])) h'.kept fun c d d2=>hother x (.inl hx) c d d2
  ·rcases List.mem_cons.1 hx with rfl|hx
   ·exact h'.own
   ·exact yg.ofKept (h.own x (by simp[hx])) h'.kept fun c d d2=>hother x (.inr hx) c d d2
 ·simp only[List.filterMap_append,List.filterMap_cons]
  have hsub:∀ c,c∈a.filterMap (fun x=>zaI x.1)∨c∈b.filterMap (fun x=>zaI x.1)→zaI o'≠some c:=fun c hc e=>by
   obtain⟨d',e⟩:=zbL e
   have hH:H c≠none∧∀ d0,o≠.tip c d0:=by
    rcases hc with hc|hc<;>obtain⟨x,hx,hxe⟩:=List.mem_filterMap.1 hc<;>obtain⟨d,hxe⟩:=zbL hxe
    ·have:=h.own x (by simp[hx]);rw[hxe] at this
     have h2:H c=some _:=this
     exact⟨by simp[h2],fun d0=>hother x (.inl hx) c d d0 hxe⟩
    ·have:=h.own x (by simp[hx]);rw[hxe] at this
     have h2:H c=some _:=this
     exact⟨by simp[h2],fun d0=>hother x (.inr hx) c d d0 hxe⟩
   rcases h'.new c d' e with h1|⟨d0,h1⟩
   ·exact hH.1 h1
   ·exact hH.2 d0 h1
  have hnd2:(a.filterMap (fun x=>zaI x.1)++b.filterMap (fun x=>zaI x.1)).Nodup:=by
   cases ho:zaI o with
   | none=>rw[ho] at hnd;exact hnd
   | some c =>
    rw[ho] at hnd
    rw[List.nodup_append] at hnd ⊢
    exact⟨hnd.1,(List.nodup_cons.1 hnd.2.1).2,fun x hx y hy=>hnd.2.2 x hx y (List.mem_cons_of_mem _ hy)⟩
  cases ho:zaI o' with
  | none=>exact hnd2
  | some c =>
   have hc:=hsub c
   rw[List.nodup_append] at hnd2 ⊢
   refine⟨hnd2.1,List.nodup_cons.2 ⟨fun hm=>hc (.inr hm) ho,hnd2.2.1⟩,fun x hx y hy=>?_⟩
   rcases List.mem_cons.1 hy with rfl|hy
   ·exact fun e=>hc (.inl (e▸hx)) ho
   ·exact hnd2.2.2 x hx y hy
theorem Sep.mono {H H':za} {l:List (Own×Nat×Nat)} (h:Sep H l) (hk:∀ c n sz,H c=some (.tip n sz)→H' c=some (.tip n sz)):Sep H' l :=
 ⟨fun x hx=>by
  have:=h.own x hx
  obtain⟨o,n,sz⟩:=x
  cases o with
  | tip c d=>exact hk c _ _ this
  | no=>exact this
  | nil=>exact this
  | full=>exact this,h.nd⟩
open Go.Lib Go.RowKit Go.Sort
theorem zgL (s:List UInt8) (c:UInt8):zq Tryz.prog 222 [.str s,.int .u8 c.toNat] (.int .i64 (Lib.indexByte s c)):=by
 refine zq.of_calls fun γ w vs ht hv=>?_
 obtain⟨hl,hr⟩:=hv
 match vs,hl with
 | [v,u],_ =>
  cases hr 0 _ _ rfl rfl
  cases hr 1 _ _ rfl rfl
  refine(Tryz.strings_IndexByte ⟨s.toArray⟩ c.toNat w).mono fun e w' ⟨he,hw⟩=>⟨hw,_,he,?_⟩
  have e1:((c.toNat:Int)).toNat.toUInt8=c:=by simp
  rw[e1]
  exact .int _ _
theorem zmC (s:List UInt8) (c:UInt8):zq Tryz.prog 209 [.str s,.str [c]] (.bool (decide (0≤Lib.indexByte s c))):=by
 refine zq.of_calls fun γ w vs ht hv=>?_
 obtain⟨hl,hr⟩:=hv
 match vs,hl with
 | [v,u],_ =>
  cases hr 0 _ _ rfl rfl
  cases hr 1 _ _ rfl rfl
  exact(Tryz.strings_Contains_one ⟨s.toArray⟩ c w).mono fun e w' ⟨he,hw⟩=>⟨hw,_,he,.bool _⟩
end Go.Proofs.YticbbfbpeimkbaaGreatDoor
namespace Go.Proofs.YticbbfbpeimkbaaGreatDoor
open Go.Ab
theorem z7 (l:List UInt8):(bytesOf l).length=l.length:=by simp[bytesOf]
theorem yV (a b:List UInt8):bytesOf a++bytesOf b=bytesOf (a++b):=by simp[bytesOf]
theorem ZH (l:List UInt8):(bytesOf l).map (·.map AV.strip1)=bytesOf l:=by simp[bytesOf,AV.strip1]
theorem zf7 (l:List UInt8):zgY (bytesOf l)=some l:=by
 induction l with
 | nil=>rfl
 | cons c r ih =>
  have h:=c.toNat_lt
  simp only[bytesOf,List.map_cons] at ih ⊢
  simp only[zgY,ih,zas]
  rw[if_pos ⟨by omega,by omega⟩]
  simp
theorem za6 (acc:List UInt8) (c:UInt8):bytesOf acc++[[.int .u8 c.toNat]]=bytesOf (acc++[c]):=yV acc [c]
theorem zcU (acc:List UInt8) (c d:UInt8):bytesOf acc++[[.int .u8 c.toNat],[.int .u8 d.toNat]]=bytesOf (acc++[c,d]):=yV acc [c,d]
theorem zvi {n:Nat} (h:n<4294967296):IntKind.wrap .u32 (n:Int)=n:=by
 have e:IntKind.wrap .u32 (n:Int)=(n:Int) % 4294967296:=rfl
 rw[e];omega
theorem zpl {n:Nat} (h:n<2147483648):IntKind.wrap .i32 (n:Int)=n:=by
 have e:IntKind.wrap .i32 (n:Int)=if (n:Int) % 4294967296≥2147483648 then (n:Int) % 4294967296-4294967296 else (n:Int) % 4294967296:=by
  simp[IntKind.wrap,IntKind.bits,IntKind.signed]
 rw[e];split<;>omega
theorem wr8 (n:Nat):IntKind.wrap .u8 (n:Int)=((n % 256:Nat):Int):=by
 have e:IntKind.wrap .u8 (n:Int)=(n:Int) % 256:=rfl
 rw[e];omega
theorem fd6 (n:Nat):(n:Int).fdiv (2 ^ min 6 IntKind.i32.bits)=((n / 64:Nat):Int):=by
 show (n:Int).fdiv 64=_
 rw[Int.fdiv_eq_ediv_of_nonneg _ (by decide)];omega
theorem ztF (n:Nat):(n:Int).fdiv (2 ^ min 12 IntKind.i32.bits)=((n / 4096:Nat):Int):=by
 show (n:Int).fdiv 4096=_
 rw[Int.fdiv_eq_ediv_of_nonneg _ (by decide)];omega
theorem zvA (n:Nat):(n:Int).fdiv (2 ^ min 18 IntKind.i32.bits)=((n / 262144:Nat):Int):=by
 show (n:Int).fdiv 262144=_
 rw[Int.fdiv_eq_ediv_of_nonneg _ (by decide)];omega
theorem zuD:∀ x:Fin 32,IntKind.wrap .u8 ((BitVec.ofInt IntKind.u8.bits 192 ||| BitVec.ofInt IntKind.u8.bits ((x.val:Nat):Int)).toNat:Int)=((UInt8.ofNat (192+x.val)).toNat:Int):=by decide +kernel
theorem zui:∀ x:Fin 16,IntKind.wrap .u8 ((BitVec.ofInt IntKind.u8.bits 224 ||| BitVec.ofInt IntKind.u8.bits ((x.val:Nat):Int)).toNat:Int)=((UInt8.ofNat (224+x.val)).toNat:Int):=by decide +kernel
theorem zun:∀ x:Fin 8,IntKind.wrap .u8 ((BitVec.ofInt IntKind.u8.bits 240 ||| BitVec.ofInt IntKind.u8.bits ((x.val:Nat):Int)).toNat:Int)=((UInt8.ofNat (240+x.val)).toNat:Int):=by decide +kernel
theorem zuW:∀ x:Fin 256,IntKind.wrap .u8 ((BitVec.ofInt IntKind.u8.bits 128 ||| BitVec.ofInt IntKind.u8.bits (IntKind.wrap .u8 ((BitVec.ofInt IntKind.u8.bits ((x.val:Nat):Int) &&& BitVec.ofInt IntKind.u8.bits 63).toNat:Int))).toNat:Int)=((UInt8.ofNat (128+x.val % 64)).toNat:Int):=by decide +kernel
theorem zuF {m:Nat} (h:m<32):IntKind.wrap .u8 ((BitVec.ofInt IntKind.u8.bits 192 ||| BitVec.ofInt IntKind.u8.bits (IntKind.wrap .u8 (m:Int))).toNat:Int)=((UInt8.ofNat (192+m)).toNat:Int):=by
 rw[wr8 m,Nat.mod_eq_of_lt (show m<256 by omega)];exact zuD ⟨m,h⟩
theorem zsV {m:Nat} (h:m<16):IntKind.wrap .u8 ((BitVec.ofInt IntKind.u8.bits 224 ||| BitVec.ofInt IntKind.u8.bits (IntKind.wrap .u8 (m:Int))).toNat:Int)=((UInt8.ofNat (224+m)).toNat:Int):=by
 rw[wr8 m,Nat.mod_eq_of_lt (show m<256 by omega)];exact zui ⟨m,h⟩
theorem zuC {m:Nat} (h:m<8):IntKind.wrap .u8 ((BitVec.ofInt IntKind.u8.bits 240 ||| BitVec.ofInt IntKind.u8.bits (IntKind.wrap .u8 (m:Int))).toNat:Int)=((UInt8.ofNat (240+m)).toNat:Int):=by
 rw[wr8 m,Nat.mod_eq_of_lt (show m<256 by omega)];exact zun ⟨m,h⟩
theorem zrk (m:Nat):IntKind.wrap .u8 ((BitVec.ofInt IntKind.u8.bits 128 ||| BitVec.ofInt IntKind.u8.bits (IntKind.wrap .u8 ((BitVec.ofInt IntKind.u8.bits (IntKind.wrap .u8 (m:Int)) &&& BitVec.ofInt IntKind.u8.bits 63).toNat:Int))).toNat:Int)=((UInt8.ofNat (128+m % 64)).toNat:Int):=by
 rw[wr8 m]
 have:=zuW ⟨m % 256,Nat.mod_lt _ (by decide)⟩
 simp only at this
 rw[this,Nat.mod_mod_of_dvd m (by decide)]
theorem ztQ (n:Nat) (h0:127<n) (h1:n≤1114111) (h2:¬ (55296≤n∧n≤57343)) (acc:List UInt8) (H:za) (o:Own) (ho:yg H o acc.length 1) (hb:acc.length≤Lim) :
  zh8 Tryz.prog 356 [.sl o 1 (bytesOf acc),.int .i32 n] H o 1 (bytesOf (acc++Zx n)):=by
 refine zj.goO ir356 ck356 (Al4 _) fun KP Q hQ hP=>?_
 have e1:=zvi (n:=n) (by omega)
 have hal:=z7 acc
 simp only[Lim] at hb
 have ho':yg H o (bytesOf acc).length 1:=by rw[hal];exact ho
 have fin:∀(e:List UInt8) o' H',Zx n=e→OwnS H o H' o' ((bytesOf acc).length+e.length) 1→zt1 H o 1 (bytesOf (acc++Zx n)) (.sl o' 1 (bytesOf acc++bytesOf e)) H':=fun e o' H' he hs=>by
  rw[he];exact⟨o',by rw[yV],by rw[z7,Al5];rw[hal] at hs;exact hs⟩
 by_cases h3:n≤2047
 ·have g1:((n:Int)≤2047)=True:=eq_true (by omega)
  simp(disch:=first|omega|assumption) only[ir356,e1,g1,steps,st2,pev,rev,oev,zY,ya,yk,yi,bound,zF,mm2,mk,zr,AV.cells,AV.boxable,AV.one,AV.strip1,zG,zD,Nat.reduceEqDiff,reduceCtorEq,↓reduceIte,Nat.reduceAdd,Int.reduceNeg,Nat.reduceLeDiff,Int.reduceToNat,Int.reduceEq,Int.reduceLT,Int.reduceLE,Int.reduceAdd,Io,Im,If,Il,Jt,Jf,AC.rg,Jm,Jl,Ja,Fm,Fl,Fa,Imv,Imb,Iai,Iei,Igi,Isi,Ipf,Ipt,Ilb,Iia,Ilt,Iap,Ink,Iln,Ils,Iad,Iex,Ibx,Ing]
  simp only[fd6,zuF (show n / 64<32 by omega),zrk]
  refine zv ho' (by simp[hal];omega) (by simp[hal,maxLen];omega) fun o' H' hs=>?_
  simp(disch:=first|omega|assumption) only[steps,st2,pev,rev,oev,zY,ya,yk,yi,bound,zF,mm2,mk,zr,AV.cells,AV.boxable,AV.one,AV.strip1,zG,zD,Nat.reduceEqDiff,reduceCtorEq,↓reduceIte,Nat.reduceAdd,Int.reduceNeg,Nat.reduceLeDiff,Int.reduceToNat,Int.reduceEq,Int.reduceLT,Int.reduceLE,Int.reduceAdd]
  exact hQ _ _ H' H' [_] nofun rfl (Low.refl _) (fin [_,_] o' H' (by unfold Zx;rw[if_neg (by omega),if_pos h3]) hs)
 ·have g1:¬ ((n:Int)≤2047):=by omega
  by_cases h4:n≤65535
  ·by_cases h5:n<55296
   ·have g2:((n:Int)<55296)=True:=eq_true (by omega)
    simp(disch:=first|omega|assumption) only[ir356,e1,g1,g2,steps,st2,pev,rev,oev,zY,ya,yk,yi,bound,zF,mm2,mk,zr,AV.cells,AV.boxable,AV.one,AV.strip1,zG,zD,Nat.reduceEqDiff,reduceCtorEq,↓reduceIte,Nat.reduceAdd,Int.reduceNeg,Nat.reduceLeDiff,Int.reduceToNat,Int.reduceEq,Int.reduceLT,Int.reduceLE,Int.reduceAdd,Io,Im,If,Il,Jt,Jf,AC.rg,Jm,Jl,Ja,Fm,Fl,Fa,Imv,Imb,Iai,Iei,Igi,Isi,Ipf,Ipt,Ilb,Iia,Ilt,Iap,Ink,Iln,Ils,Iad,Iex,Ibx,Ing]
    simp only[fd6,ztF,zsV (show n / 4096<16 by omega),zrk]
    refine zv ho' (by simp[hal];omega) (by simp[hal,maxLen];omega) fun o' H' hs=>?_
    simp(disch:=first|omega|assumption) only[steps,st2,pev,rev,oev,zY,ya,yk,yi,bound,zF,mm2,mk,zr,AV.cells,AV.boxable,AV.one,AV.strip1,zG,zD,Nat.reduceEqDiff,reduceCtorEq,↓reduceIte,Nat.reduceAdd,Int.reduceNeg,Nat.reduceLeDiff,Int.reduceToNat,Int.reduceEq,Int.reduceLT,Int.reduceLE,Int.reduceAdd]
    exact hQ _ _ H' H' [_] nofun rfl (Low.refl _) (fin [_,_,_] o' H' (by unfold Zx;rw[if_neg (by omega),if_neg h3,if_pos h4]) hs)
   ·have g2:¬ ((n:Int)<55296):=by omega
    have g3:((57343:Int)<n)=True:=eq_true (by omega)
    have g4:((n:Int)≤65535)=True:=eq_true (by omega)
    simp(disch:=first|omega|assumption) only[ir356,e1,g1,g2,g3,g4,steps,st2,pev,rev,oev,zY,ya,yk,yi,bound,zF,mm2,mk,zr,AV.cells,AV.boxable,AV.one,AV.strip1,zG,zD,Nat.reduceEqDiff,reduceCtorEq,↓reduceIte,Nat.reduceAdd,Int.reduceNeg,Nat.reduceLeDiff,Int.reduceToNat,Int.reduceEq,Int.reduceLT,Int.reduceLE,Int.reduceAdd,Io,Im,If,Il,Jt,Jf,AC.rg,Jm,Jl,Ja,Fm,Fl,Fa,Imv,Imb,Iai,Iei,Igi,Isi,Ipf,Ipt,Ilb,Iia,Ilt,Iap,Ink,Iln,Ils,Iad,Iex,Ibx,Ing]
    simp only[fd6,ztF,zsV (show n / 4096<16 by omega),zrk]
    refine zv ho' (by simp[hal];omega) (by simp[hal,maxLen];omega) fun o' H' hs=>?_
    simp(disch:=first|omega|assumption) only[steps,st2,pev,rev,oev,zY,ya,yk,yi,bound,zF,mm2,mk,zr,AV.cells,AV.boxable,AV.one,AV.strip1,zG,zD,Nat.reduceEqDiff,reduceCtorEq,↓reduceIte,Nat.reduceAdd,Int.reduceNeg,Nat.reduceLeDiff,Int.reduceToNat,Int.reduceEq,Int.reduceLT,Int.reduceLE,Int.reduceAdd]
    exact hQ _ _ H' H' [_] nofun rfl (Low.refl _) (fin [_,_,_] o' H' (by unfold Zx;rw[if_neg (by omega),if_neg h3,if_pos h4]) hs)
  ·have g2:¬ ((n:Int)<55296):=by omega
   have g3:((57343:Int)<n)=True:=eq_true (by omega)
   have g4:¬ ((n:Int)≤65535):=by omega
   have g5:((65535:Int)<n)=True:=eq_true (by omega)
   have g6:((n:Int)≤1114111)=True:=eq_true (by omega)
   simp(disch:=first|omega|assumption) only[ir356,e1,g1,g2,g3,g4,g5,g6,steps,st2,pev,rev,oev,zY,ya,yk,yi,bound,zF,mm2,mk,zr,AV.cells,AV.boxable,AV.one,AV.strip1,zG,zD,Nat.reduceEqDiff,reduceCtorEq,↓reduceIte,Nat.reduceAdd,Int.reduceNeg,Nat.reduceLeDiff,Int.reduceToNat,Int.reduceEq,Int.reduceLT,Int.reduceLE,Int.reduceAdd,Io,Im,If,Il,Jt,Jf,AC.rg,Jm,Jl,Ja,Fm,Fl,Fa,Imv,Imb,Iai,Iei,Igi,Isi,Ipf,Ipt,Ilb,Iia,Ilt,Iap,Ink,Iln,Ils,Iad,Iex,Ibx,Ing]
   simp only[fd6,ztF,zvA,zuC (show n / 262144<8 by omega),zrk]
   refine zv ho' (by simp[hal];omega) (by simp[hal,maxLen];omega) fun o' H' hs=>?_
   simp(disch:=first|omega|assumption) only[steps,st2,pev,rev,oev,zY,ya,yk,yi,bound,zF,mm2,mk,zr,AV.cells,AV.boxable,AV.one,AV.strip1,zG,zD,Nat.reduceEqDiff,reduceCtorEq,↓reduceIte,Nat.reduceAdd,Int.reduceNeg,Nat.reduceLeDiff,Int.reduceToNat,Int.reduceEq,Int.reduceLT,Int.reduceLE,Int.reduceAdd]
   exact hQ _ _ H' H' [_] nofun rfl (Low.refl _) (fin [_,_,_,_] o' H' (by unfold Zx;rw[if_neg (by omega),if_neg h3,if_neg h4]) hs)
theorem zjj (n:Nat) (h1:n≤1114111) (h2:¬ (55296≤n∧n≤57343)) (acc:List UInt8) (H:za) (o:Own) (ho:yg H o acc.length 1) (hb:acc.length≤Lim) :
  zh8 Tryz.prog 346 [.sl o 1 (bytesOf acc),.int .i32 n] H o 1 (bytesOf (acc++Zx n)):=by
 refine zj.goO ir346 ck346 (Al4 _) fun KP Q hQ hP=>?_
 have e1:=zvi (n:=n) (by omega)
 have hal:=z7 acc
 by_cases h3:n≤127
 ·have g1:((n:Int)≤127)=True:=eq_true (by omega)
  have g2:IntKind.wrap .u8 (n:Int)=((UInt8.ofNat n).toNat:Int):=by rw[wr8];simp
  simp only[Lim] at hb
  simp(disch:=first|omega|assumption) only[ir346,e1,g1,g2,go_sem]
  refine zv (by rw[hal];exact ho) (by simp[hal];omega) (by simp[hal,maxLen];omega) fun o' H' hs=>?_
  simp(disch:=first|omega|assumption) only[go_sem]
  refine hQ _ _ H' H' [_] nofun rfl (Low.refl _) ⟨o',?_,?_⟩
  ·have:Zx n=[UInt8.ofNat n]:=by unfold Zx;rw[if_pos h3]
   rw[this];exact congrArg _ (za6 _ _)
  ·have:Zx n=[UInt8.ofNat n]:=by unfold Zx;rw[if_pos h3]
   rw[this,z7];simpa[hal] using hs
 ·have g1:¬ ((n:Int)≤127):=by omega
  simp(disch:=first|omega|assumption) only[ir346,e1,g1,go_sem]
  refine Zr (ztQ n (by omega) h1 h2 acc H o ho hb) fun o' H' hs=>?_
  simp(disch:=first|omega|assumption) only[go_sem]
  exact hQ _ _ H' H' [_] nofun rfl (Low.refl _) ⟨o',rfl,hs⟩
theorem zuP:∀ x:Fin 256,IntKind.wrap .u8 ((BitVec.ofInt IntKind.u8.bits ((x.val:Nat):Int) ||| BitVec.ofInt IntKind.u8.bits 32).toNat:Int)=((UInt8.ofNat x.val ||| 32).toNat:Int):=by decide +kernel
theorem zvr (c:UInt8):IntKind.wrap .u8 ((BitVec.ofInt IntKind.u8.bits (c.toNat:Int) ||| BitVec.ofInt IntKind.u8.bits 32).toNat:Int)=((c ||| 32).toNat:Int):=by
 have:=zuP ⟨c.toNat,c.toNat_lt⟩
 simpa using this
theorem zqP (l:List UInt8) (c:UInt8):-1≤Lib.indexByte l c∧Lib.indexByte l c<l.length:=by
 induction l with
 | nil=>simp[Lib.indexByte]
 | cons x r ih =>
  simp only[Lib.indexByte,Al2]
  split
  ·omega
  ·split
   ·omega
   ·omega
theorem zuK (s:List UInt8) (hs:s.length≤Lim):zq Tryz.prog 326 [.str s] (.tup [.int .i64 ((Y9 s).getD 0:Nat),.bool (Y9 s).isSome]):=by
 refine zq.go ir326 ck326 (Al4 _) fun KP Q hQ=>?_
 simp only[Lim] at hs
 by_cases h4:s.length<4
 ·have g1:((s.length:Int)<4)=True:=eq_true (by omega)
  have:Y9 s=none:=by
   cases h:Y9 s with
   | none=>rfl
   | some u=>have:=zdl _ _ _ _ h;omega
  simp(disch:=first|omega|assumption) only[ir326,g1,steps,st2,pev,rev,oev,zY,ya,yk,yi,bound,zF,mm2,mk,zr,AV.cells,AV.boxable,AV.one,AV.strip1,zG,zD,Nat.reduceEqDiff,reduceCtorEq,↓reduceIte,Nat.reduceAdd,Int.reduceNeg,Nat.reduceLeDiff,Int.reduceToNat,Int.reduceEq,Int.reduceLT,Int.reduceLE,Int.reduceAdd,Io,Im,If,Il,Jt,Jf,AC.rg,Jm,Jl,Ja,Fm,Fl,Fa,Imv,Imb,Iai,Iei,Igi,Isi,Ipf,Ipt,Ilb,Iia,Ilt,Iap,Ink,Iln,Ils,Iad,Iex,Ibx,Ing]
  exact hQ _ _ _ _ nofun rfl (by simp[zc,zd,AV.strip,AV.strip1,this])
 ·have g1:¬ ((s.length:Int)<4):=by omega
  obtain⟨l,r,hl,hsr⟩:∃ l r:List UInt8,l.length=4∧s=l++r:=⟨s.take 4,s.drop 4,by simp;omega,by simp⟩
  have hl':(l.length:Int)=4:=by omega
  have key:∀(a b:List UInt8) (u:Nat),l=a++b→Y8 b.length (b++r) u=Y8 (4-a.length) (s.drop a.length) u:=fun a b u h=>by
   have:a.length+b.length=4:=by rw[← hl,h];simp
   rw[hsr,h,Z6,List.drop_left];congr 1;omega
  simp(disch:=first|omega|assumption) only[ir326,g1,steps,st2,pev,rev,oev,zY,ya,yk,yi,bound,zF,mm2,mk,zr,AV.cells,AV.boxable,AV.one,AV.strip1,zG,zD,Nat.reduceEqDiff,reduceCtorEq,↓reduceIte,Nat.reduceAdd,Int.reduceNeg,Nat.reduceLeDiff,Int.reduceToNat,Int.reduceEq,Int.reduceLT,Int.reduceLE,Int.reduceAdd,Io,Im,If,Il,Jt,Jf,AC.rg,Jm,Jl,Ja,Fm,Fl,Fa,Imv,Imb,Iai,Iei,Igi,Isi,Ipf,Ipt,Ilb,Iia,Ilt,Iap,Ink,Iln,Ils,Iad,Iex,Ibx,Ing]
  refine zx l 10 (fun u:Nat=>[(4,.int .i64 u)]) (fun done rest u H=>Y8 rest.length (rest++r) u=Y9 s∧u<16 ^ done.length∧H=za.emp) 0 (by simp(disch:=first|omega|assumption) only[steps,st2,pev,rev,oev,zY,ya,yk,yi,bound,zF,mm2,mk,zr,AV.cells,AV.boxable,AV.one,AV.strip1,zG,zD,Nat.reduceEqDiff,reduceCtorEq,↓reduceIte,Nat.reduceAdd,Int.reduceNeg,Nat.reduceLeDiff,Int.reduceToNat,Int.reduceEq,Int.reduceLT,Int.reduceLE,Int.reduceAdd]) ⟨by rw[hl,← hsr];rfl,by simp,rfl⟩ ?_ ?_
  ·rintro u H J ⟨hu,_,rfl⟩ hlt
   simp only[Al3,Y8] at hu
   simp(disch:=first|omega|assumption) only[hl',steps,st2,pev,rev,oev,zY,ya,yk,yi,bound,zF,mm2,mk,zr,AV.cells,AV.boxable,AV.one,AV.strip1,zG,zD,Nat.reduceEqDiff,reduceCtorEq,↓reduceIte,Nat.reduceAdd,Int.reduceNeg,Nat.reduceLeDiff,Int.reduceToNat,Int.reduceEq,Int.reduceLT,Int.reduceLE,Int.reduceAdd]
   exact hQ _ _ _ _ nofun rfl (by simp[zc,zd,AV.strip,AV.strip1,← hu])
  ·rintro done c rest u H J hd hlt hlt2 ⟨hu,hb,rfl⟩ hJ
   have hd4:done.length<4:=by omega
   have hlt':(done.length:Int)<4:=by omega
   have hlt3:(done.length:Int)<s.length:=by omega
   have hg:s.getD done.length 0=c:=by rw[hsr,hd];simp
   have hpow:16 ^ done.length≤4096:=by
    have:done.length≤3:=by omega
    calc 16 ^ done.length≤16 ^ 3:=Nat.pow_le_pow_right (by decide) this
     _=4096:=rfl
   simp only[Al2,Al6,Y8] at hu
   have hidx:=zqP hexL (c ||| 32)
   have hc:=c.toNat_lt
   simp only[hexL,Al2,Al3] at hidx
   simp(disch:=first|omega|assumption) only[hlt',hlt3,hg,zvr,steps,st2,pev,rev,oev,zY,ya,yk,yi,bound,zF,mm2,mk,zr,AV.cells,AV.boxable,AV.one,AV.strip1,zG,zD,Nat.reduceEqDiff,reduceCtorEq,↓reduceIte,Nat.reduceAdd,Int.reduceNeg,Nat.reduceLeDiff,Int.reduceToNat,Int.reduceEq,Int.reduceLT,Int.reduceLE,Int.reduceAdd]
   refine zb (zgL hexL (c ||| 32)) ?_
   have no:hexD c=none→(Y9 s)=none:=fun e=>by rw[e] at hu;exact hu.symm
   by_cases n1:Lib.indexByte hexL (c ||| 32)<0
   ·have e:hexD c=none:=by unfold hexD;rw[if_pos (.inl n1)]
    simp(disch:=first|omega|assumption) only[n1,steps,st2,pev,rev,oev,zY,ya,yk,yi,bound,zF,mm2,mk,zr,AV.cells,AV.boxable,AV.one,AV.strip1,zG,zD,Nat.reduceEqDiff,reduceCtorEq,↓reduceIte,Nat.reduceAdd,Int.reduceNeg,Nat.reduceLeDiff,Int.reduceToNat,Int.reduceEq,Int.reduceLT,Int.reduceLE,Int.reduceAdd]
    exact hQ _ _ _ _ nofun rfl (by simp[zc,zd,AV.strip,AV.strip1,no e])
   obtain⟨k,hk⟩:∃ k:Nat,Lib.indexByte hexL (c ||| 32)=(k:Int):=⟨(Lib.indexByte hexL (c ||| 32)).toNat,by omega⟩
   have hk16:k<16:=by rw[show Lib.indexByte [48,49,50,51,52,53,54,55,56,57,97,98,99,100,101,102] (c ||| 32)=(k:Int) from hk] at hidx;omega
   have hu4:u<4096:=by omega
   have hkn:¬ ((k:Int)<0):=by omega
   have hnext:hexD c=some k→Y8 rest.length (rest++r) (16*u+k)=Y9 s∧16*u+k<16 ^ (done++[c]).length∧za.emp=za.emp:=fun e=>by
    rw[e] at hu
    refine⟨hu,?_,rfl⟩
    rw[Al5,Al2,Al3,Nat.pow_succ];omega
   have hpush:((16*u+k:Nat):Int)=16*(u:Int)+k:=by omega
   by_cases n2:c.toNat<48
   ·have e:hexD c=none:=by unfold hexD;rw[if_pos (.inr (.inl n2))]
    have n2':((c.toNat:Int)<48)=True:=eq_true (by omega)
    simp(disch:=first|omega|assumption) only[hk,hkn,n2',hlt3,hg,steps,st2,pev,rev,oev,zY,ya,yk,yi,bound,zF,mm2,mk,zr,AV.cells,AV.boxable,AV.one,AV.strip1,zG,zD,Nat.reduceEqDiff,reduceCtorEq,↓reduceIte,Nat.reduceAdd,Int.reduceNeg,Nat.reduceLeDiff,Int.reduceToNat,Int.reduceEq,Int.reduceLT,Int.reduceLE,Int.reduceAdd]
    exact hQ _ _ _ _ nofun rfl (by simp[zc,zd,AV.strip,AV.strip1,no e])
   have n2':¬ ((c.toNat:Int)<48):=by omega
   by_cases n3:57<c.toNat
   ·have n3':((57:Int)<c.toNat)=True:=eq_true (by omega)
    by_cases n4:c.toNat<65
    ·have e:hexD c=none:=by unfold hexD;rw[if_pos (.inr (.inr ⟨n3,n4⟩))]
     have n4':((c.toNat:Int)<65)=True:=eq_true (by omega)
     simp(disch:=first|omega|assumption) only[hk,hkn,n2',n3',n4',hlt3,hg,steps,st2,pev,rev,oev,zY,ya,yk,yi,bound,zF,mm2,mk,zr,AV.cells,AV.boxable,AV.one,AV.strip1,zG,zD,Nat.reduceEqDiff,reduceCtorEq,↓reduceIte,Nat.reduceAdd,Int.reduceNeg,Nat.reduceLeDiff,Int.reduceToNat,Int.reduceEq,Int.reduceLT,Int.reduceLE,Int.reduceAdd]
     exact hQ _ _ _ _ nofun rfl (by simp[zc,zd,AV.strip,AV.strip1,no e])
    ·have e:hexD c=some k:=by unfold hexD;rw[if_neg (by omega),hk];rfl
     have n4':¬ ((c.toNat:Int)<65):=by omega
     simp(disch:=first|omega|assumption) only[hk,hkn,n2',n3',n4',hlt3,hg,wrap64,steps,st2,pev,rev,oev,zY,ya,yk,yi,bound,zF,mm2,mk,zr,AV.cells,AV.boxable,AV.one,AV.strip1,zG,zD,Nat.reduceEqDiff,reduceCtorEq,↓reduceIte,Nat.reduceAdd,Int.reduceNeg,Nat.reduceLeDiff,Int.reduceToNat,Int.reduceEq,Int.reduceLT,Int.reduceLE,Int.reduceAdd]
     refine goJ (hJ (16*u+k) _ (hnext e)) (by simp(disch:=first|omega|assumption) only[hpush,steps,st2,pev,rev,oev,zY,ya,yk,yi,bound,zF,mm2,mk,zr,AV.cells,AV.boxable,AV.one,AV.strip1,zG,zD,Nat.reduceEqDiff,reduceCtorEq,↓reduceIte,Nat.reduceAdd,Int.reduceNeg,Nat.reduceLeDiff,Int.reduceToNat,Int.reduceEq,Int.reduceLT,Int.reduceLE,Int.reduceAdd])
   ·have e:hexD c=some k:=by unfold hexD;rw[if_neg (by omega),hk];rfl
    have n3':¬ ((57:Int)<c.toNat):=by omega
    simp(disch:=first|omega|assumption) only[hk,hkn,n2',n3',hlt3,hg,wrap64,steps,st2,pev,rev,oev,zY,ya,yk,yi,bound,zF,mm2,mk,zr,AV.cells,AV.boxable,AV.one,AV.strip1,zG,zD,Nat.reduceEqDiff,reduceCtorEq,↓reduceIte,Nat.reduceAdd,Int.reduceNeg,Nat.reduceLeDiff,Int.reduceToNat,Int.reduceEq,Int.reduceLT,Int.reduceLE,Int.reduceAdd]
    refine goJ (hJ (16*u+k) _ (hnext e)) (by simp(disch:=first|omega|assumption) only[hpush,steps,st2,pev,rev,oev,zY,ya,yk,yi,bound,zF,mm2,mk,zr,AV.cells,AV.boxable,AV.one,AV.strip1,zG,zD,Nat.reduceEqDiff,reduceCtorEq,↓reduceIte,Nat.reduceAdd,Int.reduceNeg,Nat.reduceLeDiff,Int.reduceToNat,Int.reduceEq,Int.reduceLT,Int.reduceLE,Int.reduceAdd])
def cU (l:List Nat):List (List AV):=l.map fun(n:Nat)=>[AV.int .i64 (n:Int)]
theorem zjB (l:List Nat):(cU l).length=l.length:=by simp[cU]
theorem zpT (l:List Nat):(cU l).map (·.map AV.strip1)=cU l:=by simp[cU,AV.strip1]
theorem zuH (us:List Nat) (hl:us.length≤68719476736):zq Tryz.prog 327 [.sl .no 1 (cU us)] (.tup [.str ((zQ us).getD []),.bool (zQ us).isSome]):=by
 refine zq.go ir327 ck327 (Al4 _) fun KP Q hQ=>?_
 have hll:=zjB us
 simp(disch:=first|omega|assumption) only[ir327,go_sem]
 refine yB (fun s:List Nat×List Nat×Own×List UInt8=>[(4,.sl s.2.2.1 1 (bytesOf s.2.2.2)),(5,.int .i64 s.1.length)]) (fun s H=>us=s.1++s.2.1∧zQ us=(zQ s.2.1).map (s.2.2.2++·)∧s.2.2.2.length≤2*s.1.length*2∧yg H s.2.2.1 s.2.2.2.length 1) (fun s=>s.2.1.length) ([],us,.nil,[]) (by simp(disch:=first|omega|assumption) only[go_sem];rfl) ⟨rfl,by cases zQ us<;>rfl,by simp,rfl⟩ ?_
 rintro⟨done,rest,o,out⟩ H J ⟨hd,hj,hle,ho⟩ hJ
 simp only at hd hj hle ho
 have hdl:done.length+rest.length=us.length:=by rw[hd];simp
 cases rest with
 | nil =>
  simp only[List.append_nil] at hd
  have hlt:¬ ((done.length:Int)<us.length):=by rw[hd];omega
  simp(disch:=first|omega|assumption) only[hll,hlt,go_sem]
  simp only[zQ,zas,List.append_nil] at hj
  simp(disch:=first|omega|assumption) only[zf7,go_sem]
  exact hQ _ _ _ _ nofun rfl (by simp[zc,zd,AV.strip,AV.strip1,hj])
 | cons u r =>
  have hlt:((done.length:Int)<us.length):=by simp at hdl;omega
  have hg:(cU us).getD done.length []=[.int .i64 u]:=by rw[hd];simp[cU]
  have hu0:¬ ((u:Int)<0):=by omega
  have hrl:r.length+1+done.length=us.length:=by simp at hdl;omega
  have none_of:zQ (u::r)=none→zQ us=none:=fun e=>by rw[hj,e];rfl
  have hmax:maxLen=9223372036854775807:=rfl
  by_cases a1:65535<u
  ·have e:=none_of (by rw[zQ.eq_def];simp only;rw[if_pos (.inl a1)])
   have a1':((65535:Int)<u)=True:=eq_true (by omega)
   simp(disch:=first|omega|assumption) only[hll,hlt,hg,hu0,a1',go_sem]
   exact hQ _ _ _ _ nofun rfl (by simp[zc,zd,AV.strip,AV.strip1,e])
  have a1':¬ ((65535:Int)<u):=by omega
  by_cases a2:56320≤u∧u≤57343
  ·have e:=none_of (by rw[zQ.eq_def];simp only;rw[if_pos (.inr a2)])
   have a2':((56320:Int)≤u)=True:=eq_true (by omega)
   have a3':((u:Int)≤57343)=True:=eq_true (by omega)
   simp(disch:=first|omega|assumption) only[hll,hlt,hg,hu0,a1',a2',a3',go_sem]
   exact hQ _ _ _ _ nofun rfl (by simp[zc,zd,AV.strip,AV.strip1,e])
  by_cases a3:55296≤u∧u<56320
  ·have b1:¬ ((56320:Int)≤u):=by omega
   have b2:((55296:Int)≤u)=True:=eq_true (by omega)
   have b3:((u:Int)<56320)=True:=eq_true (by omega)
   cases r with
   | nil =>
    have e:=none_of (by rw[zQ.eq_def];simp only;rw[if_neg (by omega),if_pos a3])
    have b4:((done.length:Int)+1=us.length)=True:=eq_true (by simp at hrl;omega)
    simp(disch:=first|omega|assumption) only[hll,hlt,hg,hu0,a1',b1,b2,b3,wrap64,b4,go_sem]
    exact hQ _ _ _ _ nofun rfl (by simp[zc,zd,AV.strip,AV.strip1,e])
   | cons v r =>
    have b4:¬ ((done.length:Int)+1=us.length):=by simp at hrl;omega
    have b5:((done.length:Int)+1<us.length):=by simp at hrl;omega
    have b6:((done.length:Int)+1).toNat=done.length+1:=by omega
    have hg2:(cU us).getD (done.length+1) []=[.int .i64 v]:=by rw[hd];simp[cU]
    by_cases c1:v<56320
    ·have e:=none_of (by rw[zQ.eq_def];simp only;rw[if_neg (by omega),if_pos a3,if_pos (.inl c1)])
     have c1':((v:Int)<56320)=True:=eq_true (by omega)
     simp(disch:=first|omega|assumption) only[hll,hlt,hg,hu0,a1',b1,b2,b3,wrap64,b4,b5,b6,hg2,c1',go_sem]
     exact hQ _ _ _ _ nofun rfl (by simp[zc,zd,AV.strip,AV.strip1,e])
    have c1':¬ ((v:Int)<56320):=by omega
    by_cases c2:57343<v
    ·have e:=none_of (by rw[zQ.eq_def];simp only;rw[if_neg (by omega),if_pos a3,if_pos (.inr c2)])
     have c2':((57343:Int)<v)=True:=eq_true (by omega)
     simp(disch:=first|omega|assumption) only[hll,hlt,hg,hu0,a1',b1,b2,b3,wrap64,b4,b5,b6,hg2,c1',c2',go_sem]
     exact hQ _ _ _ _ nofun rfl (by simp[zc,zd,AV.strip,AV.strip1,e])
    have c2':¬ ((57343:Int)<v):=by omega
    have ej:zQ (u::v::r)=(zQ r).map (Zx (65536+1024*(u-55296)+(v-56320))++·):=by rw[zQ.eq_def];simp only;rw[if_neg (by omega),if_pos a3,if_neg (by omega)]
    obtain⟨m,hm⟩:∃ m,65536+1024*(u-55296)+(v-56320)=m:=⟨_,rfl⟩
    rw[hm] at ej
    have hm2:(65536+1024*((u:Int)-55296)+v-56320)=(m:Int):=by omega
    have hm3:=(zcI m).1
    simp(disch:=first|omega|assumption) only[hll,hlt,hg,hu0,a1',b1,b2,b3,wrap64,b4,b5,b6,hg2,c1',c2',hm2,zpl (show m<2147483648 by omega),go_sem]
    refine Zr (zjj m (by omega) (by omega) out _ o ho (by simp only[Lim];omega)) fun o' H' hs=>?_
    simp(disch:=first|omega|assumption) only[wrap64,go_sem]
    have hown:=hs.own
    rw[z7] at hown
    have e5:(((done++[u,v]).length:Nat):Int)=(done.length:Int)+1+1:=by simp;omega
    refine goJ (hJ (done++[u,v],r,o',out++Zx m) _ (by simp;omega) ⟨by simp[hd],?_,?_,hown⟩) (by simp(disch:=first|omega|assumption) only[e5,go_sem])
    ·simp only[hj,ej];cases zQ r<;>simp
    ·simp;omega
  have ej:zQ (u::r)=(zQ r).map (Zx u++·):=by
   rw[zQ.eq_def];simp only;rw[if_neg (by omega),if_neg a3]
  have hm3:=(zcI u).1
  have e5:(((done++[u]).length:Nat):Int)=(done.length:Int)+1:=by simp
  by_cases h:u<55296
  ·have b1:¬ ((56320:Int)≤u):=by omega
   have b2:¬ ((55296:Int)≤u):=by omega
   simp(disch:=first|omega|assumption) only[hll,hlt,hg,hu0,a1',b1,b2,zpl (show u<2147483648 by omega),go_sem]
   refine Zr (zjj u (by omega) (by omega) out _ o ho (by simp only[Lim];omega)) fun o' H' hs=>?_
   simp(disch:=first|omega|assumption) only[wrap64,go_sem]
   have hown:=hs.own
   rw[z7] at hown
   refine goJ (hJ (done++[u],r,o',out++Zx u) _ (by simp) ⟨by simp[hd],?_,?_,hown⟩) (by simp(disch:=first|omega|assumption) only[e5,go_sem])
   ·simp only[hj,ej];cases zQ r<;>simp
   ·simp;omega
  ·have b1:((56320:Int)≤u)=True:=eq_true (by omega)
   have b2:¬ ((u:Int)≤57343):=by omega
   have b3:((55296:Int)≤u)=True:=eq_true (by omega)
   have b4:¬ ((u:Int)<56320):=by omega
   simp(disch:=first|omega|assumption) only[hll,hlt,hg,hu0,a1',b1,b2,b3,b4,zpl (show u<2147483648 by omega),go_sem]
   refine Zr (zjj u (by omega) (by omega) out _ o ho (by simp only[Lim];omega)) fun o' H' hs=>?_
   simp(disch:=first|omega|assumption) only[wrap64,go_sem]
   have hown:=hs.own
   rw[z7] at hown
   refine goJ (hJ (done++[u],r,o',out++Zx u) _ (by simp) ⟨by simp[hd],?_,?_,hown⟩) (by simp(disch:=first|omega|assumption) only[e5,go_sem])
   ·simp only[hj,ej];cases zQ r<;>simp
   ·simp;omega
abbrev zb8:Nat:=68719476736
theorem zf6 (H:za) (b:Nat) (x y:AObj):(H.upd b x).upd b y=H.upd b y:=by
 funext c;by_cases e:c=b<;>simp[za.upd,e]
theorem ZG {P:Program} {f:FuncId} {args:List AV} {H:za} {R RP:AV→za→Prop} (h:zj P f args H (fun e H'=>match e with|.ret v=>R v.strip H'|.pan v=>RP v H')) :
  zj P f args H (fun e H'=>match e with|.ret v=>R v H'|.pan v=>RP v H'):=by
 intro γ w vs ht hs hv
 refine(h γ w vs ht hs hv).mono fun e w' ⟨γ',H',r,h1,h2,h3,h4,h5⟩=>?_
 cases r with
 | ret v =>
  cases e with
  | returned u=>exact⟨γ',H',.ret v.strip,h1,h2,h3,Rep.strip h4,h5⟩
  | panicked ch=>exact h4.elim
  | outgrown=>exact h4.elim
 | pan v=>exact⟨γ',H',.pan v,h1,h2,h3,h4,h5⟩
theorem own_ne {H:za} {c b d n sz:Nat} {cs:List AV} (h:yg H (.tip b d) n sz) (hc:H c=some (.cells cs)):b≠c:=fun e=>by
 subst e
 have:H b=some (.tip (d+n) sz):=h
 rw[hc] at this;cases this
theorem Za {H H':za} {o:Own} {n sz c:Nat} {cs:List AV} (h:yg H o n sz) (hc:H c=some (.cells cs)) (hk:Kept H o H'):H' c=some (.cells cs) :=
 hk c _ hc fun d e=>by subst e;exact own_ne h hc rfl
theorem Zn {H:za} {o:Own} {n sz c:Nat} {cs:List AV} {x:AObj} (h:yg H o n sz) (hc:H c=some (.cells cs)):yg (H.upd c x) o n sz:=by
 cases o with
 | tip b d=>have:=own_ne h hc;show (H.upd c x) b=_;rw[upd_ne this];exact h
 | no=>exact h
 | nil=>exact h
 | full=>exact h
structure SaidAt (H:za) (q:Nat) (x:Sd) (o o2:Own):Prop where
 hq:H q=some (.cells [.sl o 1 (bytesOf x.b),.sl o2 1 (cU x.u),.bool x.ok])
 ho:yg H o x.b.length 1
 ho2:yg H o2 x.u.length 1
 ne:∀ b d d2,o=.tip b d→o2≠.tip b d2
theorem zlI {H:za} {q:Nat} {x:Sd} {o o2:Own} (hs:SaidAt H q x o o2) (hw:x.w≤zb8) :
  zj Tryz.prog 282 [.ptr q 0] H (fun e H'=>∃ v,e=.ret v∧(v=.tup []∧∃ o',SaidAt H' q (yI x) o' .nil)):=by
 refine zj.go ir282 ck282 (Al4 _) fun KP Q hQ=>?_
 obtain⟨hq,ho,ho2,hne⟩:=hs
 have hbl:=z7 x.b
 simp only[zb8,Sd.w] at hw
 simp(disch:=first|omega|assumption) only[ir282,hq,go_sem]
 refine zb (zq.low (zuH x.u (by omega))) ?_
 have hfw:=zez x
 simp only[yI,Sd.w,Al5] at hfw
 simp(disch:=first|omega|assumption) only[hq,go_sem]
 refine zv (by rw[hbl];exact ho) (by simp[z7];omega) (by simp[maxLen,z7];omega) fun o' H1 hs=>?_
 have h1:H1 q=some (.cells [.sl o 1 (bytesOf x.b),.sl o2 1 (cU x.u),.bool x.ok]):=Za ho hq hs.kept
 have hown:=hs.own
 simp only[Al5,z7] at hown
 cases hok:x.ok
 ·rw[hok] at h1
  simp(disch:=first|omega|assumption) only[h1,ZH,yV,go_sem]
  refine hQ _ _ _ _ _ nofun rfl (Low.refl _) ⟨rfl,o',?_,?_,rfl,nofun⟩
  ·simp[yI,hok,upd_same,cU,yV,ZH]
  ·simp only[yI,Al5]
   exact Zn hown h1
 ·rw[hok] at h1
  simp(disch:=first|omega|assumption) only[h1,ZH,yV,go_sem]
  refine hQ _ _ _ _ _ nofun rfl (Low.refl _) ⟨rfl,o',?_,?_,rfl,nofun⟩
  ·simp[yI,hok,upd_same,cU,yV,ZH]
  ·simp only[yI,Al5]
   exact Zn hown h1
def zl2 (H':za) (q:Nat) (x:Sd) (s:List UInt8) (v:AV):Prop:=match YF x s with
 | none=>v=.int .i64 0
 | some (x',t')=>v=.int .i64 ((s.length-t'.length:Nat):Int)∧∃ o o2,SaidAt H' q x' o o2
theorem zvP {H:za} {q:Nat} {x:Sd} {o o2:Own} (hs:SaidAt H q x o o2) (hw:x.w≤zb8) (s:List UInt8) (hl:s.length≤Lim) :
  zj Tryz.prog 281 [.ptr q 0,.str s] H (fun e H'=>∃ v,e=.ret v∧zl2 H' q x s v):=by
 refine zj.go ir281 ck281 (Al4 _) fun KP Q hQ=>?_
 have hs0:=hs
 obtain⟨hq,ho,ho2,hne⟩:=hs
 have hul:=zjB x.u
 have hw0:=hw
 simp only[zb8,Sd.w] at hw
 simp only[Lim] at hl
 simp(disch:=first|omega|assumption) only[ir281,go_sem]
 refine zb (za0 s [117]) ?_
 cases s with
 | nil =>
  simp(disch:=first|omega|assumption) only[List.isPrefixOf,go_sem]
  exact hQ _ _ _ _ [_] nofun rfl (Low.refl _) (by simp[zl2,YF,zc,zd,AV.strip,AV.strip1])
 | cons c t =>
  simp only[Al2] at hl
  by_cases hc:c=117
  ·subst hc
   have hp:[117].isPrefixOf ((117:UInt8)::t)=true:=rfl
   have h1:((1:Int)≤((t.length+1:Nat):Int))=True:=eq_true (by omega)
   simp(disch:=first|omega|assumption) only[hp,h1,go_sem]
   refine zb (zuK t (by simp only[Lim];omega)) ?_
   cases hu:Y9 t with
   | none =>
    simp(disch:=first|omega|assumption) only[Option.isSome_none,go_sem]
    exact hQ _ _ _ _ [_] nofun rfl (Low.refl _) (by simp[zl2,YF,hu,zc,zd,AV.strip,AV.strip1])
   | some u =>
    have h4:=zdl _ _ _ _ hu
    simp(disch:=first|omega|assumption) only[Option.isSome_some,Option.getD_some,hq,go_sem]
    refine zv (by rw[hul];exact ho2) (by simp[hul];omega) (by simp[maxLen,hul];omega) fun o' H1 hs1=>?_
    have h2:=Za ho2 hq hs1.kept
    simp(disch:=first|omega|assumption) only[h2,zpT,go_sem]
    refine hQ _ _ _ _ [_] nofun rfl (Low.refl _) ?_
    have hsp:=Sep.step (a:=[(o,x.b.length,1)]) (b:=[]) (n:=x.u.length) (n':=x.u.length+1) (sz:=1) ⟨by intro y hy;simp at hy;rcases hy with rfl|rfl<;>assumption,?_⟩ (by simpa[hul] using hs1)
    ·simp only[zl2,YF,if_true,hu,zas]
     refine⟨?_,o,o',?_,?_,?_,?_⟩
     ·show AV.int .i64 5=_
      simp only[Al2,List.length_drop]
      congr 1;omega
     ·simp[upd_same,cU]
     ·exact Zn (hsp.own (o,x.b.length,1) (by simp)) h2
     ·simp only[Al5,Al2,Al3]
      exact Zn (hsp.own (o',x.u.length+1,1) (by simp)) h2
     ·intro b d d2 e1 e2
      have:=hsp.nd
      simp[e1,e2,zaI] at this
    ·cases h5:zaI o with
     | none=>cases h6:zaI o2<;>simp[h5,h6]
     | some b =>
      obtain⟨d,h7⟩:=zbL h5
      cases h6:zaI o2 with
      | none=>simp[h5,h6]
      | some b2 =>
       obtain⟨d2,h8⟩:=zbL h6
       simp only[Al6,Zy,List.filterMap_cons,List.filterMap_nil,h5,h6,List.nodup_cons,List.mem_singleton,List.not_mem_nil,not_false_eq_true,List.nodup_nil,and_true]
       rintro rfl
       exact hne b d d2 h7 h8
  ·have hp:[117].isPrefixOf (c::t)=false:=by
    simp only[List.isPrefixOf,Bool.and_true,beq_eq_false_iff_ne,ne_eq];exact fun e=>hc e.symm
   have hcl:¬ (c::t=[]):=by simp
   have h1:((0:Int)<((t.length+1:Nat):Int))=True:=eq_true (by omega)
   simp(disch:=first|omega|assumption) only[hp,hcl,h1,go_sem]
   refine zb (zgL zhu c) ?_
   have hidx:=zqP zhu c
   by_cases hk:Lib.indexByte zhu c<0
   ·simp(disch:=first|omega|assumption) only[hk,go_sem]
    exact hQ _ _ _ _ [_] nofun rfl (Low.refl _) (by simp[zl2,YF,hc,hk,zc,zd,AV.strip,AV.strip1])
   ·obtain⟨k,hk2⟩:∃ k:Nat,Lib.indexByte zhu c=(k:Int):=⟨(Lib.indexByte zhu c).toNat,by omega⟩
    have hk8:k<8:=by simp[zhu] at hidx;rw[show Lib.indexByte [34,92,47,98,102,110,114,116] c=(k:Int) from hk2] at hidx;omega
    have hk0:¬ ((k:Int)<0):=by omega
    simp(disch:=first|omega|assumption) only[hk2,hk0,go_sem]
    refine zI (zlI hs0 hw0) fun v H1 ⟨hv,o',hs1⟩=>?_
    subst hv
    obtain⟨hq1,ho1,_,_⟩:=hs1
    have hfw:=zez x
    have hbl:=z7 (yI x).b
    simp only[Sd.w] at hfw
    have hk8':((k:Int)<8)=True:=eq_true (by omega)
    simp(disch:=first|omega|assumption) only[hq1,hk8',go_sem]
    refine zv (by rw[hbl];exact ho1) (by simp[hbl];omega) (by simp[maxLen,hbl];omega) fun o3 H2 hs3=>?_
    have hq2:=Za ho1 hq1 hs3.kept
    simp(disch:=first|omega|assumption) only[hq2,go_sem]
    refine hQ _ _ _ _ [_] nofun rfl (Low.refl _) ?_
    simp only[zl2,YF,hc,if_false,hk2,hk0]
    refine⟨?_,o3,.nil,?_,?_,rfl,nofun⟩
    ·show AV.int .i64 1=_
     simp only[Al2]
     congr 1;omega
    ·simp only[upd_same,Sd.put,Int.toNat_natCast]
     rw[← yV];rfl
    ·simp only[Sd.put,Al5,Al2,Al3]
     exact Zn (by simpa[hbl] using hs3.own) hq2
end Go.Proofs.YticbbfbpeimkbaaGreatDoor
