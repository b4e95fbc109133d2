import Derived.JoinedOf
import Derived.Lib.ItoaMem
import Derived.Lib.ItoaLen
import Derived.Lib.ValidLaws
import Derived.Test.YtaielcdfcgpbiaaGreatDoorM1
import Derived.Test.YtaielcdfcgpbiaaGreatDoorM2
import Derived.Test.YtaielcdfcgpbiaaGreatDoorM3
import Derived.Test.YtaielcdfcgpbiaaGreatDoorM4
set_option maxRecDepth 100000
set_option linter.all false
namespace Go.Proofs.YtaielcdfcgpbiaaGreatDoor
open Go.Ab
mutual
def zO:Val→Int
 | .mk k _ _ l m=>if k=6 then yG l 0+1 else if k=7 then yE m 0+1 else 0
def yG:List Val→Int→Int
 | [],n=>n
 | v::r,n=>yG r (mm2 true n (zO v))
def y5:Mem→Int
 | .mk _ v=>zO v
def yE:List Mem→Int→Int
 | [],n=>n
 | x::r,n=>yE r (mm2 true n (y5 x))
end
theorem zeU (a b:Int):a≤mm2 true a b:=by simp only[mm2,if_true];split<;>omega
mutual
theorem zb7:∀ v,0≤zO v∧zO v≤bV v
 | .mk k n s l m=>by
  have h1:=zbj l 0
  have h2:=zbh m 0
  simp only[zO,bV]
  split
  ·omega
  ·split<;>omega
theorem zbj:∀ l (n:Int),n≤yG l n∧(yG l n≤n∨yG l n≤bVs l)
 | [],n=>by simp[yG,bVs]
 | v::r,n=>by
  have h1:=zb7 v
  have h2:=zbj r (mm2 true n (zO v))
  have h3:=zeU n (zO v)
  have h4:mm2 true n (zO v)=n∨mm2 true n (zO v)=zO v:=by simp only[mm2,if_true];split<;>simp
  simp only[yG,bVs]
  omega
theorem ziy:∀ x,0≤y5 x∧y5 x≤bM x
 | .mk s v=>by have:=zb7 v;simp only[y5,bM];omega
theorem zbh:∀ l (n:Int),n≤yE l n∧(yE l n≤n∨yE l n≤bMs l)
 | [],n=>by simp[yE,bMs]
 | v::r,n=>by
  have h1:=ziy v
  have h2:=zbh r (mm2 true n (y5 v))
  have h3:=zeU n (y5 v)
  have h4:mm2 true n (y5 v)=n∨mm2 true n (y5 v)=y5 v:=by simp only[mm2,if_true];split<;>simp
  simp only[yE,bMs]
  omega
end
theorem zfh:∀ v,bV v≤Lim→Pure Tryz.prog 266 [.agg (cV v)] (.int .i64 (zO v)):=by
 refine Val.ind fun k n s l m ihl ihm hb=>?_
 refine Pure.go ir266 ck266 (Al4 _) fun KP Q hQ=>?_
 have hl:=Zm l
 have hm:=yX m
 have hll:=Yu l
 have hml:=Zc m
 have hb':1+s.length+bVs l+bMs m≤Lim:=hb
 simp only[Lim] at hb'
 have d1:=zbj l 0
 have d2:=zbh m 0
 by_cases k6:k=6
 ·subst k6
  simp(disch:=first|omega|assumption) only[ir266,ya,hl,go_sem]
  refine goL_range l 15 (fun n:Int=>[(3,.int .i64 n)]) (fun done rest n H=>yG rest n=yG l 0) 0 (by simp(disch:=first|omega|assumption) only[go_sem]) rfl ?_ ?_
  ·rintro n H J hn hlt
   simp only[yG] at hn
   simp(disch:=first|omega|assumption) only[hl,hlt,wrap64,hn,go_sem]
   exact hQ _ _ _ _ nofun rfl (by simp[tupOf,envOf,AV.strip,AV.strip1,zO])
  ·rintro done x rest n H J hd hlt _ hn hJ
   have hg:=Z0 hd
   have hbm:=zbG done x rest
   rw[← hd] at hbm
   simp only[yG] at hn
   simp(disch:=first|omega|assumption) only[zf,zc,za,ze,zd,zb,zh,hl,hlt,hg,go_sem]
   refine goA_intro fun b hb=>?_
   simp(disch:=first|omega|assumption) only[zf,zc,za,ze,zd,zb,zh,go_sem]
   refine goK_pure (ihl x (by rw[hd];simp) (by simp only[Lim];omega)) ?_
   simp(disch:=first|omega|assumption) only[wrap64,go_sem]
   exact goJ (hJ _ _ hn) (by simp(disch:=first|omega|assumption) only[go_sem])
 by_cases k7:k=7
 ·subst k7
  simp(disch:=first|omega|assumption) only[ir266,ya,hm,go_sem]
  refine goL_range m 29 (fun n:Int=>[(3,.int .i64 n)]) (fun done rest n H=>yE rest n=yE m 0) 0 (by simp(disch:=first|omega|assumption) only[go_sem]) rfl ?_ ?_
  ·rintro n H J hn hlt
   simp only[yE] at hn
   simp(disch:=first|omega|assumption) only[hm,hlt,wrap64,hn,go_sem]
   exact hQ _ _ _ _ nofun rfl (by simp[tupOf,envOf,AV.strip,AV.strip1,zO])
  ·rintro done x rest n H J hd hlt _ hn hJ
   have hg:=ZG hd
   have hbm:=Z4 done x rest
   rw[← hd] at hbm
   cases x with
   | mk t v =>
   simp only[yE,y5,bM] at hn hbm
   simp(disch:=first|omega|assumption) only[zf,zc,za,ze,zd,zb,zh,hm,hlt,hg,go_sem]
   refine goA_intro fun b hb=>?_
   simp(disch:=first|omega|assumption) only[zf,zc,za,ze,zd,zb,zh,go_sem]
   refine goK_pure (ihm t v (by rw[hd];simp) (by simp only[Lim];omega)) ?_
   simp(disch:=first|omega|assumption) only[wrap64,go_sem]
   exact goJ (hJ _ _ hn) (by simp(disch:=first|omega|assumption) only[go_sem])
 ·simp(disch:=first|omega|assumption) only[ir266,ya,k6,k7,go_sem]
  exact hQ _ _ _ _ nofun rfl (by simp[tupOf,envOf,AV.strip,AV.strip1,zO,k6,k7])
def zV:Val:=.mk 0 0 [] [] []
theorem zku:cV zV=[.int .i64 0,.int .i64 0,.str [],.sl .no 5 [],.sl .no 6 []]:=rfl
theorem zmt (n:Int):Pure Tryz.prog 79 [.int .i64 n] (.agg (cV (.mk 2 n [] [] []))):=by
 refine Pure.go ir79 ck79 (Al4 _) fun KP Q hQ=>?_
 simp(disch:=first|omega|assumption) only[ir79,go_sem]
 refine goA_intro fun b hb=>?_
 simp(disch:=first|omega|assumption) only[go_sem]
 exact hQ _ _ _ [.agg [.int .i64 2,.int .i64 n,.str [],.sl .nil 5 [],.sl .nil 6 []]] nofun (by simp(disch:=first|omega|assumption) only[ir79,resvs,resv,go_sem]) rfl
theorem zmy (t:List UInt8):Pure Tryz.prog 80 [.str t] (.agg (cV (.mk 4 0 t [] []))):=by
 refine Pure.go ir80 ck80 (Al4 _) fun KP Q hQ=>?_
 simp(disch:=first|omega|assumption) only[ir80,go_sem]
 refine goA_intro fun b hb=>?_
 simp(disch:=first|omega|assumption) only[go_sem]
 exact hQ _ _ _ [.agg [.int .i64 4,.int .i64 0,.str t,.sl .nil 5 [],.sl .nil 6 []]] nofun (by simp(disch:=first|omega|assumption) only[ir80,resvs,resv,go_sem]) rfl
structure Tok where
 k:Int
 s:List UInt8
def cK (t:Tok):List AV:=[.int .i64 t.k,.str t.s]
def cKs (l:List Tok):List (List AV):=l.map cK
theorem zg1 (a b:List Tok):cKs (a++b)=cKs a++cKs b:=by simp[cKs]
theorem zH (l:List Tok):(cKs l).length=l.length:=by simp[cKs]
theorem Z6 (l:List Tok):(cKs l).map (·.map AV.strip1)=cKs l:=by simp[cKs,cK,AV.strip1]
theorem zkn {l a:List Tok} {x:Tok} {b:List Tok} (h:l=a++x::b):(cKs l).getD a.length []=[.int .i64 x.k,.str x.s]:=getD_mid' h
theorem zks (f:FuncId) (hf:Program.callable Tryz.prog f=true) (a b:List Val) (ha:a.length≤Lim) (hc:∀ x∈a,∀ y,Pure Tryz.prog f [.agg (cV x),.agg (cV y)] (.bool (eqd x y))) :
  Pure Tryz.prog 262 [.sl .no 5 (cVs a),.sl .no 5 (cVs b),.clo f [] []] (.bool (eqd a b)):=by
 refine Pure.go ir262 ck262 (Al4 _) fun KP Q hQ=>?_
 have h1:=Zm a
 have h2:=Zm b
 simp only[Lim] at ha
 by_cases hl:a.length=b.length
 case neg =>
  have hl':¬ ((a.length:Int)=b.length):=by omega
  have hne:a≠b:=fun e=>hl (by rw[e])
  simp(disch:=first|omega|assumption) only[ir262,h1,h2,hl',go_sem]
  exact hQ _ _ _ _ nofun rfl (by simp[tupOf,envOf,AV.strip,AV.strip1,zl hne])
 have hl':((a.length:Int)=b.length)=True:=eq_true (by omega)
 simp(disch:=first|omega|assumption) only[ir262,h1,h2,hl',go_sem]
 refine goL_range a 17 (fun _:Unit=>[]) (fun done rest n H=>b.take done.length=done) () (by simp(disch:=first|omega|assumption) only[go_sem]) rfl ?_ ?_
 ·rintro n H J hp hlt
  simp(disch:=first|omega|assumption) only[h1,hlt,go_sem]
  exact hQ _ _ _ _ nofun rfl (by simp[tupOf,envOf,AV.strip,AV.strip1,zQ (zbU hl hp)])
 ·rintro done x rest n H J hd hlt _ hp hJ
  obtain⟨y,r,hb⟩:=zbX hd hl hp
  have g1:=Z0 hd
  have g2:=Z0 hb
  have hlt2:(done.length:Int)<b.length:=by omega
  simp(disch:=first|omega|assumption) only[zf,zc,za,ze,zd,zb,zh,h1,h2,hlt,hlt2,g1,g2,go_sem]
  refine goA_intro fun b1 hb1=>?_
  simp(disch:=first|omega|assumption) only[zf,zc,za,ze,zd,zb,zh,h1,h2,hlt,hlt2,g1,g2,go_sem]
  refine goA_intro fun b2 hb2=>?_
  have hne:=ne_fresh hb2
  simp(disch:=first|omega|assumption) only[zf,zc,za,ze,zd,zb,zh,Ne.symm hne,hne,go_sem]
  refine⟨hf,goK_pure (hc x (by rw[hd];simp) y) ?_⟩
  by_cases hxy:x=y
  ·simp(disch:=first|omega|assumption) only[zQ hxy,go_sem]
   exact goJ (hJ () _ (by rw[hxy];exact zaz hb)) (by simp(disch:=first|omega|assumption) only[wrap64,go_sem])
  ·simp(disch:=first|omega|assumption) only[zl hxy,go_sem]
   exact hQ _ _ _ _ nofun rfl (by simp[tupOf,envOf,AV.strip,AV.strip1,zl (zcX hd hb hxy)])
theorem zk2 (f:FuncId) (hf:Program.callable Tryz.prog f=true) (a b:List Mem) (ha:a.length≤Lim) (hc:∀ x∈a,∀ y,Pure Tryz.prog f [.agg (cM x),.agg (cM y)] (.bool (eqd x y))) :
  Pure Tryz.prog 263 [.sl .no 6 (cMs a),.sl .no 6 (cMs b),.clo f [] []] (.bool (eqd a b)):=by
 refine Pure.go ir263 ck263 (Al4 _) fun KP Q hQ=>?_
 have h1:=yX a
 have h2:=yX b
 simp only[Lim] at ha
 by_cases hl:a.length=b.length
 case neg =>
  have hl':¬ ((a.length:Int)=b.length):=by omega
  have hne:a≠b:=fun e=>hl (by rw[e])
  simp(disch:=first|omega|assumption) only[ir263,h1,h2,hl',go_sem]
  exact hQ _ _ _ _ nofun rfl (by simp[tupOf,envOf,AV.strip,AV.strip1,zl hne])
 have hl':((a.length:Int)=b.length)=True:=eq_true (by omega)
 simp(disch:=first|omega|assumption) only[ir263,h1,h2,hl',go_sem]
 refine goL_range a 17 (fun _:Unit=>[]) (fun done rest n H=>b.take done.length=done) () (by simp(disch:=first|omega|assumption) only[go_sem]) rfl ?_ ?_
 ·rintro n H J hp hlt
  simp(disch:=first|omega|assumption) only[h1,hlt,go_sem]
  exact hQ _ _ _ _ nofun rfl (by simp[tupOf,envOf,AV.strip,AV.strip1,zQ (zbU hl hp)])
 ·rintro done x rest n H J hd hlt _ hp hJ
  obtain⟨y,r,hb⟩:=zbX hd hl hp
  have g1:=ZG hd
  have g2:=ZG hb
  have hlt2:(done.length:Int)<b.length:=by omega
  simp(disch:=first|omega|assumption) only[zf,zc,za,ze,zd,zb,zh,h1,h2,hlt,hlt2,g1,g2,go_sem]
  refine goA_intro fun b1 hb1=>?_
  simp(disch:=first|omega|assumption) only[zf,zc,za,ze,zd,zb,zh,h1,h2,hlt,hlt2,g1,g2,go_sem]
  refine goA_intro fun b2 hb2=>?_
  have hne:=ne_fresh hb2
  simp(disch:=first|omega|assumption) only[zf,zc,za,ze,zd,zb,zh,Ne.symm hne,hne,go_sem]
  refine⟨hf,goK_pure (hc x (by rw[hd];simp) y) ?_⟩
  by_cases hxy:x=y
  ·simp(disch:=first|omega|assumption) only[zQ hxy,go_sem]
   exact goJ (hJ () _ (by rw[hxy];exact zaz hb)) (by simp(disch:=first|omega|assumption) only[wrap64,go_sem])
  ·simp(disch:=first|omega|assumption) only[zl hxy,go_sem]
   exact hQ _ _ _ _ nofun rfl (by simp[tupOf,envOf,AV.strip,AV.strip1,zl (zcX hd hb hxy)])
theorem zj5 (s t:List UInt8) (v u:Val) (hc:Pure Tryz.prog 244 [.agg (cV v),.agg (cV u)] (.bool (eqd v u))):Pure Tryz.prog 264 [.agg (cM (.mk s v)),.agg (cM (.mk t u))] (.bool (eqd (Mem.mk s v) (Mem.mk t u))):=by
 refine Pure.go ir264 ck264 (Al4 _) fun KP Q hQ=>?_
 by_cases h1:s=t
 ·simp(disch:=first|omega|assumption) only[zf,zc,za,ze,zd,zb,zh,ir264,h1,go_sem]
  refine goK_pure hc ?_
  simp(disch:=first|omega|assumption) only[go_sem]
  have:eqd (Mem.mk t v) (Mem.mk t u)=eqd v u:=by
   by_cases h:v=u
   ·rw[zQ h,zQ (by rw[h])]
   ·rw[zl h,zl (by simp[h])]
  exact hQ _ _ _ _ nofun rfl (by simp[tupOf,envOf,AV.strip,AV.strip1,this,h1])
 ·simp(disch:=first|omega|assumption) only[zf,zc,za,ze,zd,zb,zh,ir264,h1,go_sem]
  have:eqd (Mem.mk s v) (Mem.mk t u)=false:=zl (by simp[h1])
  exact hQ _ _ _ _ nofun rfl (by simp[tupOf,envOf,AV.strip,AV.strip1,this])
theorem zmA:∀ v,bV v≤Lim→∀ u,Pure Tryz.prog 244 [.agg (cV v),.agg (cV u)] (.bool (eqd v u)):=by
 refine Val.ind fun k n s l m ihl ihm hb u=>?_
 obtain⟨k',n',s',l',m'⟩:=u
 have hb':1+s.length+bVs l+bMs m≤Lim:=hb
 have hll:=Yu l
 have hml:=Zc m
 have il:∀ x∈l,∀ y,Pure Tryz.prog 244 [.agg (cV x),.agg (cV y)] (.bool (eqd x y)):=fun x hx y=>by
  obtain⟨a,b,hd⟩:=List.append_of_mem hx
  have:=zbG a x b
  rw[← hd] at this
  exact ihl x hx (by omega) y
 have im:∀ x∈m,∀ y,Pure Tryz.prog 264 [.agg (cM x),.agg (cM y)] (.bool (eqd x y)):=fun x hx y=>by
  obtain⟨a,b,hd⟩:=List.append_of_mem hx
  have:=Z4 a x b
  rw[← hd] at this
  obtain⟨t,v⟩:=x
  obtain⟨t',v'⟩:=y
  simp only[bM] at this
  exact zj5 t t' v v' (ihm t v hx (by omega) v')
 refine Pure.go ir244 ck244 (Al4 _) fun KP Q hQ=>?_
 by_cases h1:k=k'
 case neg =>
  have hne:¬ (Val.mk k n s l m=Val.mk k' n' s' l' m'):=by simp[h1]
  simp(disch:=first|omega|assumption) only[ir244,ya,h1,go_sem]
  exact hQ _ _ _ _ nofun rfl (by simp[tupOf,envOf,AV.strip,AV.strip1,zl hne])
 by_cases h2:n=n'
 case neg =>
  have hne:¬ (Val.mk k n s l m=Val.mk k' n' s' l' m'):=by simp[h2]
  simp(disch:=first|omega|assumption) only[ir244,ya,h1,h2,go_sem]
  exact hQ _ _ _ _ nofun rfl (by simp[tupOf,envOf,AV.strip,AV.strip1,zl hne])
 by_cases h3:s=s'
 case neg =>
  have hne:¬ (Val.mk k n s l m=Val.mk k' n' s' l' m'):=by simp[h3]
  simp(disch:=first|omega|assumption) only[ir244,ya,h1,h2,h3,go_sem]
  exact hQ _ _ _ _ nofun rfl (by simp[tupOf,envOf,AV.strip,AV.strip1,zl hne])
 simp(disch:=first|omega|assumption) only[ir244,ya,h1,h2,h3,go_sem]
 refine goK_pure (zks _ (by kernel_rfl) l l' (by omega) il) ?_
 by_cases h4:l=l'
 case neg =>
  have hne:¬ (Val.mk k n s l m=Val.mk k' n' s' l' m'):=by simp[h4]
  simp(disch:=first|omega|assumption) only[zl h4,go_sem]
  exact hQ _ _ _ _ nofun rfl (by simp[tupOf,envOf,AV.strip,AV.strip1,zl hne])
 simp(disch:=first|omega|assumption) only[zQ h4,go_sem]
 refine goK_pure (zk2 _ (by kernel_rfl) m m' (by omega) im) ?_
 simp(disch:=first|omega|assumption) only[go_sem]
 have:eqd (Val.mk k n s l m) (Val.mk k' n' s' l' m')=eqd m m':=by
  by_cases h:m=m'
  ·rw[zQ h,zQ (by rw[h1,h2,h3,h4,h])]
  ·rw[zl h,zl (by simp[h])]
 exact hQ _ _ _ _ nofun rfl (by simp[tupOf,envOf,AV.strip,AV.strip1,this])
theorem zgt (a b:List Mem) (ha:a.length≤Lim) (hc:∀ s v,Mem.mk s v∈a→∀ u,Pure Tryz.prog 15 [.agg (cV v),.agg (cV u)] (.bool (eqd v u))) :
  Pure Tryz.prog 40 [.sl .no 6 (cMs a),.sl .no 6 (cMs b)] (.bool (eqd a b)):=by
 refine Pure.go ir40 ck40 (Al4 _) fun KP Q hQ=>?_
 have h1:=yX a
 have h2:=yX b
 simp only[Lim] at ha
 by_cases hl:a.length=b.length
 case neg =>
  have hl':¬ ((a.length:Int)=b.length):=by omega
  have hne:a≠b:=fun e=>hl (by rw[e])
  simp(disch:=first|omega|assumption) only[ir40,h1,h2,hl',go_sem]
  exact hQ _ _ _ _ nofun rfl (by simp[tupOf,envOf,AV.strip,AV.strip1,zl hne])
 have hl':((a.length:Int)=b.length)=True:=eq_true (by omega)
 simp(disch:=first|omega|assumption) only[ir40,h1,h2,hl',go_sem]
 refine goL_range a 5 (fun _:Unit=>[]) (fun done rest n H=>b.take done.length=done) () (by simp(disch:=first|omega|assumption) only[go_sem]) rfl ?_ ?_
 ·rintro n H J hp hlt
  simp(disch:=first|omega|assumption) only[h1,hlt,go_sem]
  exact hQ _ _ _ _ nofun rfl (by simp[tupOf,envOf,AV.strip,AV.strip1,zQ (zbU hl hp)])
 ·rintro done x rest n H J hd hlt _ hp hJ
  obtain⟨y,r,hb⟩:=zbX hd hl hp
  have g1:=ZG hd
  have g2:=ZG hb
  have hlt2:(done.length:Int)<b.length:=by omega
  have hmem:x∈a:=by rw[hd];simp
  have hst:=zaz hb
  have hne:x≠y→a≠b:=zcX hd hb
  obtain⟨s,v⟩:=x
  obtain⟨t,u⟩:=y
  by_cases hs:s=t
  case neg =>
   have hne2:=hne (by simp[hs])
   simp(disch:=first|omega|assumption) only[zf,zc,za,ze,zd,zb,zh,h1,h2,hlt,hlt2,g1,g2,hs,go_sem]
   exact hQ _ _ _ _ nofun rfl (by simp[tupOf,envOf,AV.strip,AV.strip1,zl hne2])
  simp(disch:=first|omega|assumption) only[zf,zc,za,ze,zd,zb,zh,h1,h2,hlt,hlt2,g1,g2,hs,go_sem]
  refine goK_pure (hc s v hmem u) ?_
  by_cases hv:v=u
  ·simp(disch:=first|omega|assumption) only[zQ hv,go_sem]
   exact goJ (hJ () _ (by rw[hs,hv];exact hst)) (by simp(disch:=first|omega|assumption) only[wrap64,go_sem])
  ·have:=hne (by simp[hv])
   simp(disch:=first|omega|assumption) only[zl hv,go_sem]
   exact hQ _ _ _ _ nofun rfl (by simp[tupOf,envOf,AV.strip,AV.strip1,zl this])
theorem zlo:∀ v,bV v≤Lim→∀ u,Pure Tryz.prog 15 [.agg (cV v),.agg (cV u)] (.bool (eqd v u)):=by
 refine Val.ind fun k n s l m ihl ihm hb u=>?_
 obtain⟨k',n',s',l',m'⟩:=u
 have hb':1+s.length+bVs l+bMs m≤Lim:=hb
 have hll:=Yu l
 have hml:=Zc m
 have il:∀ x∈l,∀ y,Pure Tryz.prog 15 [.agg (cV x),.agg (cV y)] (.bool (eqd x y)):=fun x hx y=>by
  obtain⟨a,b,hd⟩:=List.append_of_mem hx
  have:=zbG a x b
  rw[← hd] at this
  exact ihl x hx (by omega) y
 have im:∀ s v,Mem.mk s v∈m→∀ u,Pure Tryz.prog 15 [.agg (cV v),.agg (cV u)] (.bool (eqd v u)):=fun t v hx u=>by
  obtain⟨a,b,hd⟩:=List.append_of_mem hx
  have:=Z4 a (.mk t v) b
  rw[← hd] at this
  simp only[bM] at this
  exact ihm t v hx (by omega) u
 refine Pure.go ir15 ck15 (Al4 _) fun KP Q hQ=>?_
 have hlb:=Zm l
 have hlb':=Zm l'
 by_cases h1:k=k'
 case neg =>
  have hne:¬ (Val.mk k n s l m=Val.mk k' n' s' l' m'):=by simp[h1]
  simp(disch:=first|omega|assumption) only[ir15,ya,h1,go_sem]
  exact hQ _ _ _ _ nofun rfl (by simp[tupOf,envOf,AV.strip,AV.strip1,zl hne])
 by_cases h2:n=n'
 case neg =>
  have hne:¬ (Val.mk k n s l m=Val.mk k' n' s' l' m'):=by simp[h2]
  simp(disch:=first|omega|assumption) only[ir15,ya,h1,h2,go_sem]
  exact hQ _ _ _ _ nofun rfl (by simp[tupOf,envOf,AV.strip,AV.strip1,zl hne])
 by_cases h3:s=s'
 case neg =>
  have hne:¬ (Val.mk k n s l m=Val.mk k' n' s' l' m'):=by simp[h3]
  simp(disch:=first|omega|assumption) only[ir15,ya,h1,h2,h3,go_sem]
  exact hQ _ _ _ _ nofun rfl (by simp[tupOf,envOf,AV.strip,AV.strip1,zl hne])
 by_cases hl:l.length=l'.length
 case neg =>
  have hl':¬ ((l.length:Int)=l'.length):=by omega
  have hne:¬ (Val.mk k n s l m=Val.mk k' n' s' l' m'):=by simp only[Val.mk.injEq];rintro⟨_,_,_,e,_⟩;exact hl (by rw[e])
  simp(disch:=first|omega|assumption) only[ir15,ya,h1,h2,h3,hlb,hlb',hl',go_sem]
  exact hQ _ _ _ _ nofun rfl (by simp[tupOf,envOf,AV.strip,AV.strip1,zl hne])
 have hl':((l.length:Int)=l'.length)=True:=eq_true (by omega)
 simp(disch:=first|omega|assumption) only[ir15,ya,h1,h2,h3,hlb,hlb',hl',go_sem]
 simp only[Lim] at hb'
 refine goL_range l 5 (fun _:Unit=>[]) (fun done rest n H=>l'.take done.length=done) () (by simp(disch:=first|omega|assumption) only[go_sem]) rfl ?_ ?_
 ·rintro _ H J hp hlt
  have e4:=zbU hl hp
  simp(disch:=first|omega|assumption) only[hlb,hlt,go_sem]
  refine goK_pure (zgt m m' (by simp only[Lim];omega) im) ?_
  simp(disch:=first|omega|assumption) only[go_sem]
  have:eqd (Val.mk k n s l m) (Val.mk k' n' s' l' m')=eqd m m':=by
   by_cases h:m=m'
   ·rw[zQ h,zQ (by rw[h1,h2,h3,e4,h])]
   ·rw[zl h,zl (by simp[h])]
  exact hQ _ _ _ _ nofun rfl (by simp[tupOf,envOf,AV.strip,AV.strip1,this])
 ·rintro done x rest _ H J hd hlt _ hp hJ
  obtain⟨y,r,hb⟩:=zbX hd hl hp
  have g1:=Z0 hd
  have g2:=Z0 hb
  have hlt2:(done.length:Int)<l'.length:=by omega
  simp(disch:=first|omega|assumption) only[zf,zc,za,ze,zd,zb,zh,hlb,hlb',hlt,hlt2,g1,g2,go_sem]
  refine goK_pure (il x (by rw[hd];simp) y) ?_
  by_cases hxy:x=y
  ·simp(disch:=first|omega|assumption) only[zQ hxy,go_sem]
   exact goJ (hJ () _ (by rw[hxy];exact zaz hb)) (by simp(disch:=first|omega|assumption) only[wrap64,go_sem])
  ·have hne:¬ (Val.mk k n s l m=Val.mk k' n' s' l' m'):=by simp only[Val.mk.injEq];rintro⟨_,_,_,e,_⟩;exact zcX hd hb hxy e
   simp(disch:=first|omega|assumption) only[zl hxy,go_sem]
   exact hQ _ _ _ _ nofun rfl (by simp[tupOf,envOf,AV.strip,AV.strip1,zl hne])
abbrev zmj (H:Heap) (o:Own) (sz:Nat) (xs:List (List AV)):AV→Heap→Prop:=fun v H'=>∃ o',v=.sl o' sz xs∧OwnS H o H' o' xs.length sz
abbrev zeN (P:Program) (f:FuncId) (args:List AV) (H:Heap) (o:Own) (sz:Nat) (xs:List (List AV)):Prop :=
 ACalls P f args H (fun e H'=>match e with|.ret v=>zmj H o sz xs v H'|.pan _=>False)
theorem yB {P:Program} {KP:AV→Heap→Prop} {Q:AExit→Env→Heap→Prop} {st:List Fr} {ρ:Env} {H:Heap} {all l:List AItem} {d:Option Nat} {R:List Chk} {f:FuncId} {args:List AV} {o:Own} {sz:Nat} {xs:List (List AV)}
  (h:zeN P f args H o sz xs) (hk:∀ o' H',OwnS H o H' o' xs.length sz→goR P KP Q all l st R (ρ.set d (.sl o' sz xs)) H'):goK P KP Q all l st d R ρ f args H :=
 goK_both (XP:=fun _ _=>False) h (fun v H' ⟨o',e,hs⟩=>by subst e;exact hk o' H' hs) (fun _ _ h=>h.elim)
def zf1 (s:List UInt8):List (List UInt8)→Bool
 | []=>false
 | x::r=>if x=s then true else zf1 s r
def ze9 (s:List UInt8):List (List UInt8)→Int→Int
 | [],_=>-1
 | x::r,i=>if s=x then i else ze9 s r (i+1)
theorem zfQ (s:List UInt8):∀ l (i:Int),0≤i→decide (0≤ze9 s l i)=zf1 s l
 | [],i,_=>by simp[ze9,zf1]
 | x::r,i,hi=>by
  simp only[ze9,zf1]
  by_cases h:s=x
  ·simp[h];omega
  ·simp only[h,Ne.symm h,if_false];exact zfQ s r (i+1) (by omega)
theorem zlA (l:List (List UInt8)) (s:List UInt8) (hl:l.length≤Lim):Pure Tryz.prog 291 [.sl .no 1 (cT l),.str s] (.int .i64 (ze9 s l 0)):=by
 refine Pure.go ir291 ck291 (Al4 _) fun KP Q hQ=>?_
 have h1:=yg l
 simp only[Lim] at hl
 simp(disch:=first|omega|assumption) only[ir291,h1,go_sem]
 refine goL_range l 8 (fun _:Unit=>[]) (fun done rest n H=>ze9 s rest done.length=ze9 s l 0) () (by simp(disch:=first|omega|assumption) only[go_sem]) rfl ?_ ?_
 ·rintro n H J hn hlt
  simp(disch:=first|omega|assumption) only[h1,hlt,go_sem]
  simp only[ze9] at hn
  exact hQ _ _ _ _ nofun rfl (by simp[tupOf,envOf,AV.strip,AV.strip1,← hn])
 ·rintro done x rest n H J hd hlt _ hn hJ
  have hg:=zcr hd
  simp only[ze9] at hn
  by_cases hx:s=x
  ·subst hx
   simp only[if_true] at hn
   simp(disch:=first|omega|assumption) only[h1,hlt,hg,go_sem]
   exact hQ _ _ _ _ nofun rfl (by simp[tupOf,envOf,AV.strip,AV.strip1,← hn])
  ·simp only[hx,if_false] at hn
   simp(disch:=first|omega|assumption) only[h1,hlt,hg,hx,go_sem]
   exact goJ (hJ () _ (by simpa using hn)) (by simp(disch:=first|omega|assumption) only[wrap64,go_sem])
theorem zik (l:List (List UInt8)) (s:List UInt8) (hl:l.length≤Lim):Pure Tryz.prog 283 [.sl .no 1 (cT l),.str s] (.bool (zf1 s l)):=by
 refine Pure.go ir283 ck283 (Al4 _) fun KP Q hQ=>?_
 simp(disch:=first|omega|assumption) only[ir283,go_sem]
 refine goK_pure (zlA l s hl) ?_
 simp(disch:=first|omega|assumption) only[go_sem]
 have:=zfQ s l 0 (by omega)
 exact hQ _ _ _ _ nofun rfl (by simp[tupOf,envOf,AV.strip,AV.strip1,this])
mutual
def zR:Val→List (List UInt8)→List (List UInt8)
 | .mk k _ s l m,acc=>if k=8 then (if zf1 s acc then acc else acc++[s]) else if k=6 then y0 l acc else if k=7 then y6 m acc else acc
def y0:List Val→List (List UInt8)→List (List UInt8)
 | [],acc=>acc
 | v::r,acc=>y0 r (zR v acc)
def YB:Mem→List (List UInt8)→List (List UInt8)
 | .mk _ v,acc=>zR v acc
def y6:List Mem→List (List UInt8)→List (List UInt8)
 | [],acc=>acc
 | x::r,acc=>y6 r (YB x acc)
end
mutual
theorem zbC:∀ v acc,(zR v acc).length≤acc.length+bV v
 | .mk k n s l m,acc=>by
  have h1:=zeE l acc
  have h2:=zeD m acc
  simp only[zR,bV]
  split
  ·split
   ·omega
   ·simp;omega
  ·split
   ·omega
   ·split<;>omega
theorem zeE:∀ l acc,(y0 l acc).length≤acc.length+bVs l
 | [],acc=>by simp[y0]
 | v::r,acc=>by
  have h1:=zbC v acc
  have h2:=zeE r (zR v acc)
  simp only[y0,bVs];omega
theorem zfY:∀ x acc,(YB x acc).length≤acc.length+bM x
 | .mk s v,acc=>by have:=zbC v acc;simp only[YB,bM];omega
theorem zeD:∀ l acc,(y6 l acc).length≤acc.length+bMs l
 | [],acc=>by simp[y6]
 | x::r,acc=>by
  have h1:=zfY x acc
  have h2:=zeD r (YB x acc)
  simp only[y6,bMs];omega
end
theorem zmR:∀ v,∀ acc H o,acc.length+bV v≤Lim→Owned H o acc.length 1→zeN Tryz.prog 276 [.sl o 1 (cT acc),.agg (cV v)] H o 1 (cT (zR v acc)):=by
 refine Val.ind fun k n s l m ihl ihm acc H o hb ho=>?_
 have hb':acc.length+(1+s.length+bVs l+bMs m)≤Lim:=hb
 have hll:=Yu l
 have hml:=Zc m
 have h1:=Zm l
 have h2:=yX m
 have h3:=yg acc
 simp only[Lim] at hb'
 refine ACalls.goO ir276 ck276 (Al4 _) fun KP Q hQ hP=>?_
 by_cases k8:k=8
 ·subst k8
  simp(disch:=first|omega|assumption) only[ir276,ya,go_sem]
  refine goK_pure (Pure.low (zik acc s (by simp only[Lim];omega))) ?_
  cases hh:zf1 s acc with
  | true =>
   simp(disch:=first|omega|assumption) only[hh,go_sem]
   refine hQ _ _ H H _ nofun rfl (Low.refl _) ⟨o,?_,?_⟩
   ·simp[tupOf,envOf,zR,hh]
   ·simpa[zR,hh,h3] using OwnS.refl ho
  | false =>
   simp(disch:=first|omega|assumption) only[hh,go_sem]
   refine goP_ownS (by rw[h3];exact ho) ?_ ?_ fun o' H' hs=>?_
   ·simp only[h3,Al2,Al3];omega
   ·simp only[h3,Al2,Al3,maxLen];omega
   simp(disch:=first|omega|assumption) only[go_sem]
   refine hQ _ _ H' H' _ nofun rfl (Low.refl _) ⟨o',?_,?_⟩
   ·simp[tupOf,envOf,zR,hh,cT,AV.strip1]
   ·simpa[zR,hh,h3,yg] using hs
 by_cases k6:k=6
 ·subst k6
  simp(disch:=first|omega|assumption) only[ir276,ya,h1,go_sem]
  refine goL_range l 28 (fun x:Own×List (List UInt8)=>[(0,.sl x.1 1 (cT x.2))]) (fun done rest x H'=>y0 rest x.2=y0 l acc∧x.2.length+bVs rest≤acc.length+bVs l∧OwnS H o H' x.1 x.2.length 1) (o,acc) (by simp(disch:=first|omega|assumption) only[go_sem]) ⟨rfl,by simp,OwnS.refl ho⟩ ?_ ?_
  ·rintro⟨o1,a⟩ H' J ⟨hn,_,hs⟩ hlt
   simp only[y0] at hn
   subst hn
   simp(disch:=first|omega|assumption) only[h1,hlt,go_sem]
   refine hQ _ _ H' H' _ nofun rfl (Low.refl _) ⟨o1,?_,?_⟩
   ·simp[tupOf,envOf,zR]
   ·simpa[zR,yg] using hs
  ·rintro done x rest ⟨o1,a⟩ H' J hd hlt _ ⟨hn,hle,hs⟩ hJ
   have hg:=Z0 hd
   have hx:=zbC x a
   simp only[y0,bVs] at hn hle
   simp(disch:=first|omega|assumption) only[zf,zc,za,ze,zd,zb,zh,h1,hlt,hg,go_sem]
   refine goA_intro fun b hb=>?_
   simp(disch:=first|omega|assumption) only[zf,zc,za,ze,zd,zb,zh,go_sem]
   refine yB (ihl x (by rw[hd];simp) a _ o1 (by simp only[Lim];omega) (hs.own.upd hb)) fun o2 H2 hs2=>?_
   rw[yg] at hs2
   simp(disch:=first|omega|assumption) only[wrap64,go_sem]
   exact goJ (hJ (o2,zR x a) H2 ⟨hn,by simp only;omega,(hs.upd hb).trans hs2⟩) (by simp(disch:=first|omega|assumption) only[go_sem])
 by_cases k7:k=7
 ·subst k7
  simp(disch:=first|omega|assumption) only[ir276,ya,h2,go_sem]
  refine goL_range m 41 (fun x:Own×List (List UInt8)=>[(0,.sl x.1 1 (cT x.2))]) (fun done rest x H'=>y6 rest x.2=y6 m acc∧x.2.length+bMs rest≤acc.length+bMs m∧OwnS H o H' x.1 x.2.length 1) (o,acc) (by simp(disch:=first|omega|assumption) only[go_sem]) ⟨rfl,by simp,OwnS.refl ho⟩ ?_ ?_
  ·rintro⟨o1,a⟩ H' J ⟨hn,_,hs⟩ hlt
   simp only[y6] at hn
   subst hn
   simp(disch:=first|omega|assumption) only[h2,hlt,go_sem]
   refine hQ _ _ H' H' _ nofun rfl (Low.refl _) ⟨o1,?_,?_⟩
   ·simp[tupOf,envOf,zR]
   ·simpa[zR,yg] using hs
  ·rintro done x rest ⟨o1,a⟩ H' J hd hlt _ ⟨hn,hle,hs⟩ hJ
   have hg:=ZG hd
   have hx:=zfY x a
   simp only[y6,bMs] at hn hle
   have hmem:x∈m:=by rw[hd];simp
   obtain⟨t,v⟩:=x
   simp only[YB,bM] at hx hn hle
   simp(disch:=first|omega|assumption) only[zf,zc,za,ze,zd,zb,zh,h2,hlt,hg,go_sem]
   refine goA_intro fun b hb=>?_
   simp(disch:=first|omega|assumption) only[zf,zc,za,ze,zd,zb,zh,go_sem]
   refine yB (ihm t v hmem a _ o1 (by simp only[Lim];omega) (hs.own.upd hb)) fun o2 H2 hs2=>?_
   rw[yg] at hs2
   simp(disch:=first|omega|assumption) only[wrap64,go_sem]
   exact goJ (hJ (o2,zR v a) H2 ⟨hn,by simp only;omega,(hs.upd hb).trans hs2⟩) (by simp(disch:=first|omega|assumption) only[go_sem])
 ·simp(disch:=first|omega|assumption) only[ir276,ya,k8,k6,k7,go_sem]
  refine hQ _ _ H H _ nofun rfl (Low.refl _) ⟨o,?_,?_⟩
  ·simp[tupOf,envOf,zR,k8,k6,k7]
  ·simpa[zR,k8,k6,k7,yg] using OwnS.refl ho
theorem zly (v:Val) (h:bV v≤Lim):Pure Tryz.prog 267 [.agg (cV v)] (.sl .no 1 (cT (zR v []))):=by
 refine Pure.go ir267 ck267 (Al4 _) fun KP Q hQ=>?_
 simp(disch:=first|omega|assumption) only[zf,zc,za,ze,zd,zb,zh,ir267,go_sem]
 refine yB (zmR v [] _ .nil (by simpa using h) rfl) fun o' H' hs=>?_
 simp(disch:=first|omega|assumption) only[go_sem]
 exact hQ _ _ _ _ nofun rfl (by simp[tupOf,envOf,AV.strip,AV.strip1])
def isD (c:UInt8):Bool:=decide (48≤c.toNat)&&decide (c.toNat≤57)
def isL (c:UInt8):Bool:=(decide (97≤c.toNat)&&decide (c.toNat≤122))||((decide (65≤c.toNat)&&decide (c.toNat≤90))||decide (c.toNat=95))
theorem zfp (c:UInt8):Pure Tryz.prog 126 [.int .u8 (c.toNat:Int)] (.bool (isD c)):=by
 refine Pure.go ir126 ck126 (Al4 _) fun KP Q hQ=>?_
 by_cases h:(48:Int)≤c.toNat
 ·simp(disch:=first|omega|assumption) only[ir126,h,go_sem]
  have h':48≤c.toNat:=by omega
  have e:decide ((c.toNat:Int)≤57)=decide (c.toNat≤57):=by rw[decide_eq_decide];omega
  exact hQ _ _ _ _ nofun rfl (by simp[tupOf,envOf,AV.strip,AV.strip1,isD,h',e])
 ·simp(disch:=first|omega|assumption) only[ir126,h,go_sem]
  have h':¬ 48≤c.toNat:=by omega
  exact hQ _ _ _ _ nofun rfl (by simp[tupOf,envOf,AV.strip,AV.strip1,isD,h'])
theorem zcJ (c:UInt8):Pure Tryz.prog 123 [.int .u8 (c.toNat:Int)] (.bool (isL c)):=by
 refine Pure.go ir123 ck123 (Al4 _) fun KP Q hQ=>?_
 have e:decide ((c.toNat:Int)=95)=decide (c.toNat=95):=by rw[decide_eq_decide];omega
 by_cases h:(97:Int)≤c.toNat
 ·have h':97≤c.toNat:=by omega
  by_cases h2:(c.toNat:Int)≤122
  ·have h2':c.toNat≤122:=by omega
   simp(disch:=first|omega|assumption) only[ir123,h,h2,go_sem]
   exact hQ _ _ _ _ nofun rfl (by simp[tupOf,envOf,AV.strip,AV.strip1,isL,h',h2'])
  ·have h2':¬ c.toNat≤122:=by omega
   have h3:(65:Int)≤c.toNat:=by omega
   have h4:¬ (c.toNat:Int)≤90:=by omega
   have h4':¬ c.toNat≤90:=by omega
   simp(disch:=first|omega|assumption) only[ir123,h,h2,h3,h4,go_sem]
   exact hQ _ _ _ _ nofun rfl (by simp[tupOf,envOf,AV.strip,AV.strip1,isL,h',h2',h4',e])
 ·have h':¬ 97≤c.toNat:=by omega
  by_cases h3:(65:Int)≤c.toNat
  ·have h3':65≤c.toNat:=by omega
   by_cases h4:(c.toNat:Int)≤90
   ·have h4':c.toNat≤90:=by omega
    simp(disch:=first|omega|assumption) only[ir123,h,h3,h4,go_sem]
    exact hQ _ _ _ _ nofun rfl (by simp[tupOf,envOf,AV.strip,AV.strip1,isL,h',h3',h4'])
   ·have h4':¬ c.toNat≤90:=by omega
    simp(disch:=first|omega|assumption) only[ir123,h,h3,h4,go_sem]
    exact hQ _ _ _ _ nofun rfl (by simp[tupOf,envOf,AV.strip,AV.strip1,isL,h',h3',h4',e])
  ·have h3':¬ 65≤c.toNat:=by omega
   simp(disch:=first|omega|assumption) only[ir123,h,h3,go_sem]
   exact hQ _ _ _ _ nofun rfl (by simp[tupOf,envOf,AV.strip,AV.strip1,isL,h',h3',e])
def zbg:List UInt8→Nat→Bool
 | [],_=>true
 | c::r,i=>if isL c||(decide (i≠0)&&isD c) then zbg r (i+1) else false
def zq (s:List UInt8):Bool:=zbg s 0&&decide (s≠[])
theorem zkV {s a:List UInt8} {x:UInt8} {b:List UInt8} (h:s=a++x::b):s.getD a.length 0=x:=by subst h;simp
theorem zeJ (s:List UInt8) (hs:s.length≤Lim):Pure Tryz.prog 128 [.str s] (.bool (zq s)):=by
 refine Pure.go ir128 ck128 (Al4 _) fun KP Q hQ=>?_
 simp only[Lim] at hs
 simp(disch:=first|omega|assumption) only[ir128,go_sem]
 refine goL_range s 6 (fun _:Unit=>[]) (fun done rest n H=>zbg rest done.length=zbg s 0) () (by simp(disch:=first|omega|assumption) only[go_sem]) rfl ?_ ?_
 ·rintro n H J hn hlt
  simp only[zbg] at hn
  simp(disch:=first|omega|assumption) only[hlt,go_sem]
  have e:(!decide (s=[]))=decide (s≠[]):=by simp
  exact hQ _ _ _ _ nofun rfl (by simp[tupOf,envOf,AV.strip,AV.strip1,zq,← hn])
 ·rintro done x rest n H J hd hlt _ hn hJ
  have hg:=zkV hd
  simp only[zbg] at hn
  simp(disch:=first|omega|assumption) only[hlt,hg,go_sem]
  refine goK_pure (zcJ x) ?_
  cases hl:isL x with
  | true =>
   simp only[hl,Bool.true_or,if_true] at hn
   simp(disch:=first|omega|assumption) only[hl,go_sem]
   exact goJ (hJ () _ (by simpa using hn)) (by simp(disch:=first|omega|assumption) only[wrap64,go_sem])
  | false =>
   by_cases h0:done.length=0
   ·have h0':(done.length:Int)=0:=by omega
    simp only[hl,h0,ne_eq,not_true_eq_false,decide_false,Bool.false_and,Bool.or_false,Al7,if_false] at hn
    simp(disch:=first|omega|assumption) only[hl,h0',go_sem]
    exact hQ _ _ _ _ nofun rfl (by simp[tupOf,envOf,AV.strip,AV.strip1,zq,← hn])
   ·have h0':¬ (done.length:Int)=0:=by omega
    simp(disch:=first|omega|assumption) only[hl,h0',hlt,hg,go_sem]
    refine goK_pure (zfp x) ?_
    cases hdg:isD x with
    | true =>
     simp only[hl,hdg,h0,ne_eq,not_false_eq_true,decide_true,Bool.and_self,Bool.or_true,if_true] at hn
     simp(disch:=first|omega|assumption) only[hdg,go_sem]
     exact goJ (hJ () _ (by simpa using hn)) (by simp(disch:=first|omega|assumption) only[wrap64,go_sem])
    | false =>
     simp only[hl,hdg,Bool.and_false,Bool.or_false,Al7,if_false] at hn
     simp(disch:=first|omega|assumption) only[hdg,go_sem]
     exact hQ _ _ _ _ nofun rfl (by simp[tupOf,envOf,AV.strip,AV.strip1,zq,← hn])
def zz:List UInt8→Nat
 | []=>0
 | c::r=>if isD c then zz r+1 else 0
theorem Z5:∀ l,zz l≤l.length
 | []=>Al4 _
 | c::r=>by have:=Z5 r;simp only[zz,Al2];split<;>omega
theorem zbw (s:List UInt8) (k:Nat):(s.drop k=[]∧s.length≤k)∨(k<s.length∧s.drop k=s.getD k 0::s.drop (k+1)):=by
 rcases Nat.lt_or_ge k s.length with h|h
 ·right
  refine⟨h,?_⟩
  rw[List.drop_eq_getElem_cons h]
  simp[h]
 ·left;exact⟨List.drop_of_length_le h,h⟩
theorem Zr (s:List UInt8) (hs:s.length≤Lim):Pure Tryz.prog 180 [.str s] (.int .i64 (zz s)):=by
 refine Pure.go ir180 ck180 (Al4 _) fun KP Q hQ=>?_
 simp only[Lim] at hs
 have hr1:=Z5 s
 simp(disch:=first|omega|assumption) only[ir180,go_sem]
 refine goL_st (fun n:Nat=>[(3,.int .i64 n)]) (fun n H=>zz s=n+zz (s.drop n)∧n≤s.length) (fun n=>s.length-n) 0 (by simp(disch:=first|omega|assumption) only[go_sem]) ⟨by simp,by omega⟩ ?_
 rintro n H J ⟨hn,hle⟩ hJ
 rcases zbw s n with ⟨h1,h2⟩|⟨h1,h2⟩
 ·have hlt:¬ ((n:Int)<s.length):=by omega
  rw[h1] at hn
  simp only[zz,Nat.add_zero] at hn
  simp(disch:=first|omega|assumption) only[hlt,go_sem]
  exact hQ _ _ _ _ nofun rfl (by simp[tupOf,envOf,AV.strip,AV.strip1,hn])
 ·have hlt:((n:Int)<s.length):=by omega
  rw[h2] at hn
  simp only[zz] at hn
  simp(disch:=first|omega|assumption) only[hlt,go_sem]
  refine goK_pure (zfp (s.getD n 0)) ?_
  cases hd:isD (s.getD n 0) with
  | true =>
   simp only[hd,if_true] at hn
   simp(disch:=first|omega|assumption) only[hd,go_sem]
   exact goJ (hJ (n+1) _ (by omega) ⟨by omega,by omega⟩) (by simp(disch:=first|omega|assumption) only[wrap64,Int.natCast_add,Int.natCast_one,go_sem])
  | false =>
   simp only[hd,Al7,if_false,Nat.add_zero] at hn
   simp(disch:=first|omega|assumption) only[hd,go_sem]
   exact hQ _ _ _ _ nofun rfl (by simp[tupOf,envOf,AV.strip,AV.strip1,hn])
theorem zhX (c:UInt8) (s:List UInt8):[c].isPrefixOf s=decide (s.head?=some c):=by
 cases s with
 | nil=>rfl
 | cons d r =>
  by_cases h:d=c
  ·subst h;simp[List.isPrefixOf]
  ·have h':¬ c=d:=fun e=>h e.symm
   simp[List.isPrefixOf,h,h']
def ZM (s:List UInt8):Nat:=if zz s=0 then 0 else if s.getD 0 0=48 then 1 else zz s
def zp (s:List UInt8):Nat:=if s.head?=some 45 then (if zz s.tail=0 then 0 else 1+ZM s.tail) else ZM s
theorem zh0 (s:List UInt8):ZM s≤s.length:=by have:=Z5 s;unfold ZM;split<;>(try split)<;>omega
theorem zb5 (s:List UInt8):zp s≤s.length:=by
 have h1:=zh0 s
 have h2:=zh0 s.tail
 unfold zp
 split
 ·rename_i h
  cases s with
  | nil=>simp at h
  | cons c r =>
   simp only[List.tail_cons,Al2] at h2 ⊢
   by_cases h0:zz r=0<;>simp only[h0,if_true,if_false]<;>omega
 ·exact h1
theorem zeP (a:UInt8) (n:Nat) (hn:n<256):decide ((a.toNat:Int)=n)=decide (a=UInt8.ofNat n):=by
 rw[decide_eq_decide]
 have:(UInt8.ofNat n).toNat=n:=by simp[UInt8.toNat_ofNat'];omega
 constructor
 ·intro h;apply UInt8.toNat_inj.1;rw[this];omega
 ·intro h;subst h;rw[this]
theorem zmd (s:List UInt8) (hs:s.length≤Lim):Pure Tryz.prog 179 [.str s] (.int .i64 (zp s)):=by
 refine Pure.go ir179 ck179 (Al4 _) fun KP Q hQ=>?_
 simp only[Lim] at hs
 simp(disch:=first|omega|assumption) only[ir179,go_sem]
 refine goK_pure (Yt s [45]) ?_
 rw[zhX]
 by_cases h:s.head?=some 45
 ·cases s with
  | nil=>simp at h
  | cons c r =>
   have hc:c=45:=by simpa using h
   subst hc
   simp only[Al2] at hs
   have h1:(1:Int)≤((r.length+1:Nat):Int):=by omega
   have h2:(1:Int)<((r.length+1:Nat):Int)∨r=[]:=by cases r<;>simp;omega
   simp(disch:=first|omega|assumption) only[h,h1,Int.toNat_one,go_sem]
   refine goK_pure (Zr r (by simp only[Lim];omega)) ?_
   by_cases h0:zz r=0
   ·simp(disch:=first|omega|assumption) only[h0,go_sem]
    exact hQ _ _ _ _ nofun rfl (by simp[tupOf,envOf,AV.strip,AV.strip1,zp,h0])
   ·have h0':¬ ((zz r:Int)=0):=by omega
    have hrl:=Z5 r
    have hlt:(1:Int)<((r.length+1:Nat):Int):=by omega
    have e:=zeP (r.getD 0 0) 48 (by omega)
    by_cases h48:r.getD 0 0=48
    ·have hi:ZM r=1:=by simp only[ZM,h0,h48,if_false,if_true]
     simp(disch:=first|omega|assumption) only[h0',hlt,Int.toNat_one,h48,UInt8.reduceToNat,wrap64,go_sem]
     exact hQ _ _ _ _ nofun rfl (by simp[tupOf,envOf,AV.strip,AV.strip1,zp,h0,hi])
    ·have h48':¬ ((r.getD 0 0).toNat:Int)=48:=by
      intro hh
      rw[decide_eq_true (by exact hh)] at e
      exact h48 (by simpa using e.symm)
     have hi:ZM r=zz r:=by simp only[ZM,h0,h48,if_false]
     simp(disch:=first|omega|assumption) only[h0',hlt,Int.toNat_one,h48',wrap64,go_sem]
     exact hQ _ _ _ _ nofun rfl (by simp[tupOf,envOf,AV.strip,AV.strip1,zp,h0,hi])
 ·simp(disch:=first|omega|assumption) only[h,go_sem]
  refine goK_pure (Zr s (by simp only[Lim];omega)) ?_
  by_cases h0:zz s=0
  ·simp(disch:=first|omega|assumption) only[h0,go_sem]
   exact hQ _ _ _ _ nofun rfl (by simp[tupOf,envOf,AV.strip,AV.strip1,zp,h,ZM,h0])
  ·have h0':¬ ((zz s:Int)=0):=by omega
   have hrl:=Z5 s
   have hlt:(0:Int)<(s.length:Int):=by omega
   have e:=zeP (s.getD 0 0) 48 (by omega)
   by_cases h48:s.getD 0 0=48
   ·have hi:ZM s=1:=by simp only[ZM,h0,h48,if_false,if_true]
    simp(disch:=first|omega|assumption) only[h0',hlt,h48,UInt8.reduceToNat,wrap64,go_sem]
    exact hQ _ _ _ _ nofun rfl (by simp[tupOf,envOf,AV.strip,AV.strip1,zp,h,hi])
   ·have h48':¬ ((s.getD 0 0).toNat:Int)=48:=by
     intro hh
     rw[decide_eq_true (by exact hh)] at e
     exact h48 (by simpa using e.symm)
    have hi:ZM s=zz s:=by simp only[ZM,h0,h48,if_false]
    simp(disch:=first|omega|assumption) only[h0',hlt,h48',wrap64,go_sem]
    exact hQ _ _ _ _ nofun rfl (by simp[tupOf,envOf,AV.strip,AV.strip1,zp,h,hi])
def isE (c:UInt8):Bool:=decide (c=101)||decide (c=69)
def sgN (r:List UInt8):Nat:=if r.head?=some 43∨r.head?=some 45 then 1 else 0
def Yn:List UInt8→Nat
 | []=>0
 | c::r=>if isE c then (if zz (r.drop (sgN r))=0 then 0 else 1+sgN r+zz (r.drop (sgN r))) else 0
theorem zgV (r:List UInt8):sgN r≤r.length:=by
 unfold sgN
 split
 ·cases r<;>simp_all
 ·omega
theorem zfv:∀ s,Yn s≤s.length
 | []=>by simp[Yn]
 | c::r=>by
  have h:=Z5 (r.drop (sgN r))
  have h2:=zgV r
  rw[Zv] at h
  simp only[Yn,Al2]
  split
  ·split<;>omega
  ·omega
theorem zgJ (s:List UInt8) (hs:s.length≤Lim):Pure Tryz.prog 181 [.str s] (.int .i64 (Yn s)):=by
 refine Pure.go ir181 ck181 (Al4 _) fun KP Q hQ=>?_
 simp only[Lim] at hs
 cases s with
 | nil =>
  simp(disch:=first|omega|assumption) only[ir181,go_sem]
  exact hQ _ _ _ _ nofun rfl (by simp[tupOf,envOf,AV.strip,AV.strip1,Yn])
 | cons c r =>
  simp only[Al2] at hs
  have hne:¬ (c::r=[]):=by simp
  have hp:(0:Int)<((r.length+1:Nat):Int):=by omega
  have e1:=zeP c 101 (by omega)
  have e2:=zeP c 69 (by omega)
  have hE:∀(P:Prop),P→P:=fun _ h=>h
  by_cases hc:isE c=true
  case neg =>
   have hc1:¬ (c.toNat:Int)=101:=by
    intro hh;rw[decide_eq_true (by exact hh)] at e1
    exact hc (by simp[isE,(by simpa using e1.symm:c=101)])
   have hc2:¬ (c.toNat:Int)=69:=by
    intro hh;rw[decide_eq_true (by exact hh)] at e2
    exact hc (by simp[isE,(by simpa using e2.symm:c=69)])
   simp(disch:=first|omega|assumption) only[ir181,hne,hp,hc1,hc2,go_sem]
   have hcf:isE c=false:=by simpa using hc
   exact hQ _ _ _ _ nofun rfl (by simp[tupOf,envOf,AV.strip,AV.strip1,Yn,hcf])
  have fin:∀ k:Nat,zz (r.drop (sgN r))=k→Yn (c::r)=if k=0 then 0 else 1+sgN r+k:=fun k hk=>by subst hk;simp only[Yn,hc,if_true]
  have hcase:(c.toNat:Int)=101∨(¬ (c.toNat:Int)=101∧(c.toNat:Int)=69):=by
   simp only[isE,YU,zn] at hc
   rcases hc with rfl|rfl
   ·exact .inl rfl
   ·exact .inr ⟨by decide,rfl⟩
  have hdl:=Z5 (r.drop (sgN r))
  rw[Zv] at hdl
  have hsl:=zgV r
  cases r with
  | nil =>
   have k0:=fin 0 (by simp[sgN,zz])
   rcases hcase with h1|⟨h1,h2⟩
   ·simp(disch:=first|omega|assumption) only[ir181,h1,go_sem]
    refine goK_pure (Zr [] (by simp)) ?_
    simp(disch:=first|omega|assumption) only[zz,go_sem]
    exact hQ _ _ _ _ nofun rfl (by simp[tupOf,envOf,AV.strip,AV.strip1,k0])
   ·simp(disch:=first|omega|assumption) only[ir181,h1,h2,go_sem]
    refine goK_pure (Zr [] (by simp)) ?_
    simp(disch:=first|omega|assumption) only[zz,go_sem]
    exact hQ _ _ _ _ nofun rfl (by simp[tupOf,envOf,AV.strip,AV.strip1,k0])
  | cons d t =>
   simp only[Al2] at hs
   have hl1:(1:Int)<((t.length+1+1:Nat):Int):=by omega
   have hl2:(2:Int)≤((t.length+1+1:Nat):Int):=by omega
   have hl3:(1:Int)≤((t.length+1+1:Nat):Int):=by omega
   have f1:=zeP d 43 (by omega)
   have f2:=zeP d 45 (by omega)
   by_cases hsg:d=43∨d=45
   ·have hsg1:sgN (d::t)=1:=by simp only[sgN,List.head?_cons,Al1,hsg,if_true]
    have k0:=fin (zz t) (by rw[hsg1];rfl)
    rw[hsg1] at k0 hdl
    have hd:(d.toNat:Int)=43∨(¬ (d.toNat:Int)=43∧(d.toNat:Int)=45):=by
     rcases hsg with rfl|rfl
     ·exact .inl rfl
     ·exact .inr ⟨by decide,rfl⟩
    rcases hcase with h1|⟨h1,h2⟩<;>rcases hd with h3|⟨h3,h4⟩
    all_goals
     simp only[hl1,hl2,Al2,List.drop_succ_cons,List.drop_zero] at hdl
    ·simp(disch:=first|omega|assumption) only[ir181,h1,h3,hl1,hl2,Int.toNat_one,go_sem]
     refine goK_pure (Zr t (by simp only[Lim];omega)) ?_
     by_cases hz:zz t=0
     ·simp(disch:=first|omega|assumption) only[hz,go_sem]
      exact hQ _ _ _ _ nofun rfl (by simp[tupOf,envOf,AV.strip,AV.strip1,k0,hz])
     ·have hz':¬ (zz t:Int)=0:=by omega
      simp(disch:=first|omega|assumption) only[hz',wrap64,go_sem]
      exact hQ _ _ _ _ nofun rfl (by simp[tupOf,envOf,AV.strip,AV.strip1,k0,hz])
    ·simp(disch:=first|omega|assumption) only[ir181,h1,h3,h4,hl1,hl2,Int.toNat_one,go_sem]
     refine goK_pure (Zr t (by simp only[Lim];omega)) ?_
     by_cases hz:zz t=0
     ·simp(disch:=first|omega|assumption) only[hz,go_sem]
      exact hQ _ _ _ _ nofun rfl (by simp[tupOf,envOf,AV.strip,AV.strip1,k0,hz])
     ·have hz':¬ (zz t:Int)=0:=by omega
      simp(disch:=first|omega|assumption) only[hz',wrap64,go_sem]
      exact hQ _ _ _ _ nofun rfl (by simp[tupOf,envOf,AV.strip,AV.strip1,k0,hz])
    ·simp(disch:=first|omega|assumption) only[ir181,h1,h2,h3,hl1,hl2,Int.toNat_one,go_sem]
     refine goK_pure (Zr t (by simp only[Lim];omega)) ?_
     by_cases hz:zz t=0
     ·simp(disch:=first|omega|assumption) only[hz,go_sem]
      exact hQ _ _ _ _ nofun rfl (by simp[tupOf,envOf,AV.strip,AV.strip1,k0,hz])
     ·have hz':¬ (zz t:Int)=0:=by omega
      simp(disch:=first|omega|assumption) only[hz',wrap64,go_sem]
      exact hQ _ _ _ _ nofun rfl (by simp[tupOf,envOf,AV.strip,AV.strip1,k0,hz])
    ·simp(disch:=first|omega|assumption) only[ir181,h1,h2,h3,h4,hl1,hl2,Int.toNat_one,go_sem]
     refine goK_pure (Zr t (by simp only[Lim];omega)) ?_
     by_cases hz:zz t=0
     ·simp(disch:=first|omega|assumption) only[hz,go_sem]
      exact hQ _ _ _ _ nofun rfl (by simp[tupOf,envOf,AV.strip,AV.strip1,k0,hz])
     ·have hz':¬ (zz t:Int)=0:=by omega
      simp(disch:=first|omega|assumption) only[hz',wrap64,go_sem]
      exact hQ _ _ _ _ nofun rfl (by simp[tupOf,envOf,AV.strip,AV.strip1,k0,hz])
   ·have hsg0:sgN (d::t)=0:=by simp only[sgN,List.head?_cons,Al1,hsg,if_false]
    have k0:=fin (zz (d::t)) (by rw[hsg0];rfl)
    rw[hsg0] at k0 hdl
    have h3:¬ (d.toNat:Int)=43:=by
     intro hh;rw[decide_eq_true (by exact hh)] at f1
     exact hsg (.inl (by simpa using f1.symm))
    have h4:¬ (d.toNat:Int)=45:=by
     intro hh;rw[decide_eq_true (by exact hh)] at f2
     exact hsg (.inr (by simpa using f2.symm))
    simp only[List.drop_zero,Al2] at hdl
    rcases hcase with h1|⟨h1,h2⟩
    ·simp(disch:=first|omega|assumption) only[ir181,h1,h3,h4,hl1,hl3,Int.toNat_one,go_sem]
     refine goK_pure (Zr (d::t) (by simp only[Lim,Al2];omega)) ?_
     by_cases hz:zz (d::t)=0
     ·simp(disch:=first|omega|assumption) only[hz,go_sem]
      exact hQ _ _ _ _ nofun rfl (by simp[tupOf,envOf,AV.strip,AV.strip1,k0,hz])
     ·have hz':¬ (zz (d::t):Int)=0:=by omega
      simp(disch:=first|omega|assumption) only[hz',wrap64,go_sem]
      exact hQ _ _ _ _ nofun rfl (by simp[tupOf,envOf,AV.strip,AV.strip1,k0,hz])
    ·simp(disch:=first|omega|assumption) only[ir181,h1,h2,h3,h4,hl1,hl3,Int.toNat_one,go_sem]
     refine goK_pure (Zr (d::t) (by simp only[Lim,Al2];omega)) ?_
     by_cases hz:zz (d::t)=0
     ·simp(disch:=first|omega|assumption) only[hz,go_sem]
      exact hQ _ _ _ _ nofun rfl (by simp[tupOf,envOf,AV.strip,AV.strip1,k0,hz])
     ·have hz':¬ (zz (d::t):Int)=0:=by omega
      simp(disch:=first|omega|assumption) only[hz',wrap64,go_sem]
      exact hQ _ _ _ _ nofun rfl (by simp[tupOf,envOf,AV.strip,AV.strip1,k0,hz])
def yO (r:List UInt8):Nat:=if r.head?=some 46∧0<zz r.tail then 1+zz r.tail else 0
def z1 (s:List UInt8):Nat×Int :=
 if zp s=0 then (0,0) else
  (zp s+yO (s.drop (zp s))+Yn (s.drop (zp s+yO (s.drop (zp s)))),if yO (s.drop (zp s))=0∧Yn (s.drop (zp s+yO (s.drop (zp s))))=0 then 3 else 4)
theorem zgm (r:List UInt8):yO r≤r.length:=by
 unfold yO
 split
 ·rename_i h
  cases r with
  | nil=>simp at h
  | cons c t=>have:=Z5 t;simp only[List.tail_cons,Al2];omega
 ·omega
theorem zhD (s:List UInt8) (hs:s.length≤Lim):Pure Tryz.prog 125 [.str s] (.tup [.int .i64 (z1 s).1,.int .i64 (z1 s).2]):=by
 refine Pure.go ir125 ck125 (Al4 _) fun KP Q hQ=>?_
 have hs':=hs
 simp only[Lim] at hs
 simp(disch:=first|omega|assumption) only[ir125,go_sem]
 refine goK_pure (zmd s hs') ?_
 have hw:=zb5 s
 by_cases h0:zp s=0
 ·simp(disch:=first|omega|assumption) only[h0,go_sem]
  exact hQ _ _ _ _ nofun rfl (by simp[tupOf,envOf,AV.strip,AV.strip1,z1,h0])
 have h0':¬ ((zp s:Int)=0):=by omega
 have hwl:(zp s:Int)≤s.length:=by omega
 simp(disch:=first|omega|assumption) only[h0',hwl,go_sem]
 refine goK_pure (Yt (s.drop (zp s)) [46]) ?_
 rw[zhX]
 generalize hn:zp s=n at *
 have fin:∀ f p:Nat,yO (s.drop n)=f→Yn (s.drop (n+f))=p→z1 s=(n+f+p,if f=0∧p=0 then 3 else 4):=fun f p hf hp=>by
  unfold z1
  rw[hn,hf,hp]
  simp only[h0,if_false]
 have hpl:=zfv (s.drop n)
 rw[Zv] at hpl
 by_cases h46:(s.drop n).head?=some 46
 ·obtain⟨c,t,hct⟩:∃ c t,s.drop n=c::t:=by
   cases hx:s.drop n with
   | nil=>rw[hx] at h46;simp at h46
   | cons c t=>exact⟨c,t,rfl⟩
  have hlen:s.length=n+1+t.length:=by have:=congrArg List.length hct;simp at this;omega
  have hdr:s.drop (n+1)=t:=by rw[← List.drop_drop,hct];rfl
  have hto:((n:Int)+1).toNat=n+1:=by omega
  have hn1:(0:Int)≤(n:Int)+1:=by omega
  have hn2:(n:Int)+1≤s.length:=by omega
  have hrl:=Z5 t
  simp(disch:=first|omega|assumption) only[h46,wrap64,hto,hn1,hn2,hdr,go_sem]
  refine goK_pure (Zr t (by simp only[Lim];omega)) ?_
  by_cases hk:(0:Int)<zz t
  ·have hk':0<zz t:=by omega
   have hfr:yO (s.drop n)=1+zz t:=by unfold yO;rw[if_pos ⟨h46,by rw[hct];exact hk'⟩,hct];rfl
   have hto2:((n:Int)+1+zz t).toNat=n+(1+zz t):=by omega
   have hn3:(0:Int)≤(n:Int)+1+zz t:=by omega
   have hn4:(n:Int)+1+zz t≤s.length:=by omega
   have hpl2:=zfv (s.drop (n+(1+zz t)))
   rw[Zv] at hpl2
   simp(disch:=first|omega|assumption) only[hk,wrap64,hto2,hn3,hn4,go_sem]
   refine goK_pure (zgJ (s.drop (n+(1+zz t))) (by rw[Zv];simp only[Lim];omega)) ?_
   have hf:=fin _ _ hfr rfl
   generalize hp:Yn (s.drop (n+(1+zz t)))=p at *
   by_cases hp0:(0:Int)<p
   ·simp(disch:=first|omega|assumption) only[hp0,wrap64,go_sem]
    exact hQ _ _ _ _ nofun rfl (by simp[tupOf,envOf,AV.strip,AV.strip1,hf,Int.add_assoc])
   ·have hp00:p=0:=by omega
    subst hp00
    simp(disch:=first|omega|assumption) only[go_sem]
    exact hQ _ _ _ _ nofun rfl (by simp[tupOf,envOf,AV.strip,AV.strip1,hf,Int.add_assoc])
  ·have hk0:zz t=0:=by omega
   have hfr:yO (s.drop n)=0:=by unfold yO;exact if_neg fun hh=>by have:=hh.2;rw[hct] at this;simp only[List.tail_cons] at this;omega
   simp(disch:=first|omega|assumption) only[hk,hwl,go_sem]
   refine goK_pure (zgJ (s.drop n) (by rw[Zv];simp only[Lim];omega)) ?_
   have hf:=fin _ _ hfr rfl
   rw[Nat.add_zero] at hf
   generalize hp:Yn (s.drop n)=p at *
   by_cases hp0:(0:Int)<p
   ·have hp1:¬ p=0:=by omega
    simp(disch:=first|omega|assumption) only[hp0,wrap64,go_sem]
    exact hQ _ _ _ _ nofun rfl (by simp[tupOf,envOf,AV.strip,AV.strip1,hf,hp1])
   ·have hp00:p=0:=by omega
    subst hp00
    simp(disch:=first|omega|assumption) only[go_sem]
    exact hQ _ _ _ _ nofun rfl (by simp[tupOf,envOf,AV.strip,AV.strip1,hf])
 ·have hfr:yO (s.drop n)=0:=by unfold yO;exact if_neg fun hh=>h46 hh.1
  simp(disch:=first|omega|assumption) only[h46,hwl,go_sem]
  refine goK_pure (zgJ (s.drop n) (by rw[Zv];simp only[Lim];omega)) ?_
  have hf:=fin _ _ hfr rfl
  rw[Nat.add_zero] at hf
  generalize hp:Yn (s.drop n)=p at *
  by_cases hp0:(0:Int)<p
  ·have hp1:¬ p=0:=by omega
   simp(disch:=first|omega|assumption) only[hp0,wrap64,go_sem]
   exact hQ _ _ _ _ nofun rfl (by simp[tupOf,envOf,AV.strip,AV.strip1,hf,hp1])
  ·have hp00:p=0:=by omega
   subst hp00
   simp(disch:=first|omega|assumption) only[go_sem]
   exact hQ _ _ _ _ nofun rfl (by simp[tupOf,envOf,AV.strip,AV.strip1,hf])
def ZR (s:List UInt8):Int:=if (z1 s).1=s.length then (z1 s).2 else 0
theorem zbL (s:List UInt8) (hs:s.length≤Lim):Pure Tryz.prog 129 [.str s] (.int .i64 (ZR s)):=by
 refine Pure.go ir129 ck129 (Al4 _) fun KP Q hQ=>?_
 simp(disch:=first|omega|assumption) only[ir129,go_sem]
 refine goK_pure (zhD s hs) ?_
 by_cases h:(z1 s).1=s.length
 ·have h':(((z1 s).1:Int)=s.length)=True:=eq_true (by omega)
  simp(disch:=first|omega|assumption) only[h',go_sem]
  exact hQ _ _ _ _ nofun rfl (by simp[tupOf,envOf,AV.strip,AV.strip1,ZR,h])
 ·have h':¬ ((z1 s).1:Int)=s.length:=by omega
  simp(disch:=first|omega|assumption) only[h',go_sem]
  exact hQ _ _ _ _ nofun rfl (by simp[tupOf,envOf,AV.strip,AV.strip1,ZR,h])
def okI:Lib.NumEnd Int→Bool
 | .ok _=>true
 | _=>false
def zd5 (s:List UInt8):Int:=match Lib.parseIntB 64 s with
 | .ok v=>v
 | Lib.NumEnd.syntax=>0
 | .range=>Lib.intSat 64 s
def Zd (s:List UInt8):Bool:=okI (Lib.parseIntB 64 s)&&decide (ZR s=3)
theorem zhj (s:List UInt8) (hs:s.length≤Lim):Pure Tryz.prog 78 [.str s] (.tup [.int .i64 (zd5 s),.bool (Zd s)]):=by
 refine Pure.go ir78 ck78 (Al4 _) fun KP Q hQ=>?_
 simp(disch:=first|omega|assumption) only[ir78,go_sem]
 refine goK_pure (zis s (by simp only[Lim] at hs;omega)) ?_
 rcases hp:Lib.parseIntB 64 s with v|_|_
 ·simp(disch:=first|omega|assumption) only[zdP,hp,go_sem]
  refine goK_pure (zbL s hs) ?_
  simp(disch:=first|omega|assumption) only[go_sem]
  exact hQ _ _ _ _ nofun rfl (by simp[tupOf,envOf,AV.strip,AV.strip1,zd5,Zd,hp,okI])
 ·simp(disch:=first|omega|assumption) only[zdP,hp,go_sem]
  exact hQ _ _ _ _ nofun rfl (by simp[tupOf,envOf,AV.strip,AV.strip1,zd5,Zd,hp,okI])
 ·simp(disch:=first|omega|assumption) only[zdP,hp,go_sem]
  exact hQ _ _ _ _ nofun rfl (by simp[tupOf,envOf,AV.strip,AV.strip1,zd5,Zd,hp,okI])
def zd0 (s:List UInt8):Bool:=decide (ZR s=4)||(decide (ZR s=3)&&!Zd s)
theorem zm4 (s:List UInt8) (hs:s.length≤Lim):Pure Tryz.prog 297 [.str s] (.bool (zd0 s)):=by
 refine Pure.go ir297 ck297 (Al4 _) fun KP Q hQ=>?_
 simp(disch:=first|omega|assumption) only[ir297,go_sem]
 refine goK_pure (zbL s hs) ?_
 simp(disch:=first|omega|assumption) only[go_sem]
 refine goK_pure (zhj s hs) ?_
 by_cases h4:ZR s=4
 ·simp(disch:=first|omega|assumption) only[h4,go_sem]
  exact hQ _ _ _ _ nofun rfl (by simp[tupOf,envOf,AV.strip,AV.strip1,zd0,h4])
 ·by_cases h3:ZR s=3
  ·simp(disch:=first|omega|assumption) only[h4,h3,go_sem]
   exact hQ _ _ _ _ nofun rfl (by simp[tupOf,envOf,AV.strip,AV.strip1,zd0,h4,h3])
  ·simp(disch:=first|omega|assumption) only[h4,h3,go_sem]
   exact hQ _ _ _ _ nofun rfl (by simp[tupOf,envOf,AV.strip,AV.strip1,zd0,h4,h3])
def zhb (s:List UInt8):Bool:=decide (s=[116,114,117,101])||(decide (s=[102,97,108,115,101])||decide (s=[110,117,108,108]))
theorem zm6 (s:List UInt8):Pure Tryz.prog 298 [.str s] (.bool (zhb s)):=by
 refine Pure.go ir298 ck298 (Al4 _) fun KP Q hQ=>?_
 by_cases h1:s=[116,114,117,101]
 ·simp(disch:=first|omega|assumption) only[ir298,h1,go_sem]
  exact hQ _ _ _ _ nofun rfl (by simp[tupOf,envOf,AV.strip,AV.strip1,zhb,h1])
 ·by_cases h2:s=[102,97,108,115,101]
  ·subst h2
   have h3:¬ ([102,97,108,115,101]:List UInt8)=[116,114,117,101]:=by decide
   simp(disch:=first|omega|assumption) only[ir298,h3,go_sem]
   exact hQ _ _ _ _ nofun rfl (by simp[tupOf,envOf,AV.strip,AV.strip1,zhb,h3])
  ·simp(disch:=first|omega|assumption) only[ir298,h1,h2,go_sem]
   exact hQ _ _ _ _ nofun rfl (by simp[tupOf,envOf,AV.strip,AV.strip1,zhb,h1,h2])
theorem zlg (s:List UInt8) (hs:s.length≤Lim):Pure Tryz.prog 130 [.str s] (.bool (Lib.validD s)):=by
 refine Pure.go ir130 ck130 (Al4 _) fun KP Q hQ=>?_
 simp(disch:=first|omega|assumption) only[ir130,go_sem]
 refine goK_pure (zlL s (by simp only[Lim] at hs;omega)) ?_
 simp(disch:=first|omega|assumption) only[go_sem]
 exact hQ _ _ _ _ nofun rfl (by simp[tupOf,envOf,AV.strip,AV.strip1])
def zaM (n:Int) (s:List UInt8) (l:List Val) (m:List Mem):Bool:=decide (n=0)&&(decide (s=[])&&(decide (l.length=0)&&decide (m.length=0)))
theorem zi2 (k n:Int) (s:List UInt8) (l:List Val) (m:List Mem):Pure Tryz.prog 289 [.agg (cV (.mk k n s l m))] (.bool (zaM n s l m)):=by
 refine Pure.go ir289 ck289 (Al4 _) fun KP Q hQ=>?_
 have h1:=Zm l
 have h2:=yX m
 by_cases g1:n=0
 case neg =>
  simp(disch:=first|omega|assumption) only[ir289,ya,g1,go_sem]
  exact hQ _ _ _ _ nofun rfl (by simp[tupOf,envOf,AV.strip,AV.strip1,zaM,g1])
 by_cases g2:s=[]
 case neg =>
  simp(disch:=first|omega|assumption) only[ir289,ya,g1,g2,go_sem]
  exact hQ _ _ _ _ nofun rfl (by simp[tupOf,envOf,AV.strip,AV.strip1,zaM,g2])
 by_cases g3:l.length=0
 case neg =>
  simp(disch:=first|omega|assumption) only[ir289,ya,g1,g2,h1,g3,go_sem]
  exact hQ _ _ _ _ nofun rfl (by simp[tupOf,envOf,AV.strip,AV.strip1,zaM,g3])
 have e:decide ((m.length:Int)=0)=decide (m.length=0):=by rw[decide_eq_decide];omega
 simp(disch:=first|omega|assumption) only[ir289,ya,g1,g2,h1,h2,g3,go_sem]
 exact hQ _ _ _ _ nofun rfl (by simp[tupOf,envOf,AV.strip,AV.strip1,zaM,g1,g2,g3,e])
def zX (k n:Int) (s:List UInt8) (l:List Val) (m:List Mem):Bool :=
 zaM 0 [] l m&&(if k=0 then decide (n=0)&&decide (s=[]) else if k=1 then (decide (n=0)||decide (n=1))&&decide (s=[]) else if k=2 then decide (s=[])
  else if k=3 then decide (n=0)&&zd0 s else if k=4 then decide (n=0)&&Lib.validD s else if k=5 then decide (n=0)&&(zq s&&!zhb s) else if k=8 then decide (n=0)&&zq s else false)
theorem zkI (k n:Int) (s:List UInt8) (l:List Val) (m:List Mem) (hs:s.length≤Lim):Pure Tryz.prog 288 [.agg (cV (.mk k n s l m))] (.bool (zX k n s l m)):=by
 refine Pure.go ir288 ck288 (Al4 _) fun KP Q hQ=>?_
 simp(disch:=first|omega|assumption) only[ir288,ya,go_sem]
 refine goA_intro fun b hb=>?_
 simp(disch:=first|omega|assumption) only[go_sem]
 refine goK_pure (zi2 k 0 [] l m) ?_
 cases hb:zaM 0 [] l m with
 | false =>
  simp(disch:=first|omega|assumption) only[hb,go_sem]
  exact hQ _ _ _ _ nofun rfl (by simp[tupOf,envOf,AV.strip,AV.strip1,zX,hb])
 | true =>
  by_cases k0:k=0
  ·by_cases n0:n=0
   ·simp(disch:=first|omega|assumption) only[hb,k0,n0,go_sem]
    exact hQ _ _ _ _ nofun rfl (by simp[tupOf,envOf,AV.strip,AV.strip1,zX,hb,k0,n0])
   ·simp(disch:=first|omega|assumption) only[hb,k0,n0,go_sem]
    exact hQ _ _ _ _ nofun rfl (by simp[tupOf,envOf,AV.strip,AV.strip1,zX,hb,k0,n0])
  by_cases k1:k=1
  ·by_cases n0:n=0
   ·simp(disch:=first|omega|assumption) only[hb,k0,k1,n0,go_sem]
    exact hQ _ _ _ _ nofun rfl (by simp[tupOf,envOf,AV.strip,AV.strip1,zX,hb,k1,n0])
   ·by_cases n1:n=1
    ·simp(disch:=first|omega|assumption) only[hb,k0,k1,n0,n1,go_sem]
     exact hQ _ _ _ _ nofun rfl (by simp[tupOf,envOf,AV.strip,AV.strip1,zX,hb,k1,n1])
    ·simp(disch:=first|omega|assumption) only[hb,k0,k1,n0,n1,go_sem]
     exact hQ _ _ _ _ nofun rfl (by simp[tupOf,envOf,AV.strip,AV.strip1,zX,hb,k1,n0,n1])
  by_cases k2:k=2
  ·simp(disch:=first|omega|assumption) only[hb,k0,k1,k2,go_sem]
   exact hQ _ _ _ _ nofun rfl (by simp[tupOf,envOf,AV.strip,AV.strip1,zX,hb,k2])
  by_cases k3:k=3
  ·by_cases n0:n=0
   ·simp(disch:=first|omega|assumption) only[hb,k0,k1,k2,k3,n0,go_sem]
    refine goK_pure (zm4 s hs) ?_
    simp(disch:=first|omega|assumption) only[go_sem]
    exact hQ _ _ _ _ nofun rfl (by simp[tupOf,envOf,AV.strip,AV.strip1,zX,hb,k3,n0])
   ·simp(disch:=first|omega|assumption) only[hb,k0,k1,k2,k3,n0,go_sem]
    exact hQ _ _ _ _ nofun rfl (by simp[tupOf,envOf,AV.strip,AV.strip1,zX,hb,k3,n0])
  by_cases k4:k=4
  ·by_cases n0:n=0
   ·simp(disch:=first|omega|assumption) only[hb,k0,k1,k2,k3,k4,n0,go_sem]
    refine goK_pure (zlg s hs) ?_
    simp(disch:=first|omega|assumption) only[go_sem]
    exact hQ _ _ _ _ nofun rfl (by simp[tupOf,envOf,AV.strip,AV.strip1,zX,hb,k4,n0])
   ·simp(disch:=first|omega|assumption) only[hb,k0,k1,k2,k3,k4,n0,go_sem]
    exact hQ _ _ _ _ nofun rfl (by simp[tupOf,envOf,AV.strip,AV.strip1,zX,hb,k4,n0])
  by_cases k5:k=5
  ·by_cases n0:n=0
   ·simp(disch:=first|omega|assumption) only[hb,k0,k1,k2,k3,k4,k5,n0,go_sem]
    refine goK_pure (zeJ s hs) ?_
    cases hn:zq s with
    | true =>
     simp(disch:=first|omega|assumption) only[hn,go_sem]
     refine goK_pure (zm6 s) ?_
     simp(disch:=first|omega|assumption) only[go_sem]
     exact hQ _ _ _ _ nofun rfl (by simp[tupOf,envOf,AV.strip,AV.strip1,zX,hb,k5,n0,hn])
    | false =>
     simp(disch:=first|omega|assumption) only[hn,go_sem]
     exact hQ _ _ _ _ nofun rfl (by simp[tupOf,envOf,AV.strip,AV.strip1,zX,hb,k5,n0,hn])
   ·simp(disch:=first|omega|assumption) only[hb,k0,k1,k2,k3,k4,k5,n0,go_sem]
    exact hQ _ _ _ _ nofun rfl (by simp[tupOf,envOf,AV.strip,AV.strip1,zX,hb,k5,n0])
  by_cases k8:k=8
  ·by_cases n0:n=0
   ·simp(disch:=first|omega|assumption) only[hb,k0,k1,k2,k3,k4,k5,k8,n0,go_sem]
    refine goK_pure (zeJ s hs) ?_
    simp(disch:=first|omega|assumption) only[go_sem]
    exact hQ _ _ _ _ nofun rfl (by simp[tupOf,envOf,AV.strip,AV.strip1,zX,hb,k8,n0])
   ·simp(disch:=first|omega|assumption) only[hb,k0,k1,k2,k3,k4,k5,k8,n0,go_sem]
    exact hQ _ _ _ _ nofun rfl (by simp[tupOf,envOf,AV.strip,AV.strip1,zX,hb,k8,n0])
  ·simp(disch:=first|omega|assumption) only[hb,k0,k1,k2,k3,k4,k5,k8,go_sem]
   exact hQ _ _ _ _ nofun rfl (by simp[tupOf,envOf,AV.strip,AV.strip1,zX,hb,k0,k1,k2,k3,k4,k5,k8])
mutual
def zal (may:List UInt8→Bool):Val→Bool
 | .mk k n s l m=>if k=6 then zat may l&&zaM n s [] m else if k=7 then zaq may m&&zaM n s l [] else zX k n s l m
def zat (may:List UInt8→Bool):List Val→Bool
 | []=>true
 | v::r=>zal may v&&zat may r
def ziu (may:List UInt8→Bool):Mem→Bool
 | .mk s v=>may s&&zal may v
def zaq (may:List UInt8→Bool):List Mem→Bool
 | []=>true
 | x::r=>ziu may x&&zaq may r
end
theorem znc (f:FuncId) (hf:Program.callable Tryz.prog f=true) (may:List UInt8→Bool) (hmay:∀ s:List UInt8,s.length≤Lim→Pure Tryz.prog f [.str s] (.bool (may s))) :
  ∀ v,bV v≤Lim→Pure Tryz.prog 278 [.agg (cV v),.clo f [] []] (.bool (zal may v)):=by
 refine Val.ind fun k n s l m ihl ihm hb=>?_
 have hb':1+s.length+bVs l+bMs m≤Lim:=hb
 have hll:=Yu l
 have hml:=Zc m
 have h1:=Zm l
 have h2:=yX m
 simp only[Lim] at hb'
 refine Pure.go ir278 ck278 (Al4 _) fun KP Q hQ=>?_
 simp(disch:=first|omega|assumption) only[ir278,ya,go_sem]
 refine goA_intro fun b hb=>?_
 by_cases k6:k=6
 ·subst k6
  simp(disch:=first|omega|assumption) only[h1,go_sem]
  refine goL_range l 22 (fun _:Unit=>[(6,.bool true)]) (fun done rest _ H=>zat may rest=zat may l∧H b=some (.cells [.int .i64 6,.int .i64 n,.str s,.sl .nil 5 [],.sl .no 6 (cMs m)])) () (by simp(disch:=first|omega|assumption) only[go_sem]) ⟨rfl,by simp[Heap.upd]⟩ ?_ ?_
  ·rintro _ H J ⟨hn,hH⟩ hlt
   simp only[zat] at hn
   simp(disch:=first|omega|assumption) only[h1,hlt,hH,go_sem]
   refine goK_pure (Pure.low (zi2 6 n s [] m)) ?_
   simp(disch:=first|omega|assumption) only[go_sem]
   exact hQ _ _ _ _ nofun rfl (by simp[tupOf,envOf,AV.strip,AV.strip1,zal,← hn])
  ·rintro done x rest _ H J hd hlt _ ⟨hn,hH⟩ hJ
   have hg:=Z0 hd
   have hbm:=zbG done x rest
   rw[← hd] at hbm
   simp only[zat] at hn
   simp(disch:=first|omega|assumption) only[zf,zc,za,ze,zd,zb,zh,h1,hlt,hg,go_sem]
   refine goA_intro fun b2 hb2=>?_
   have hne:=ne_of_none hb2 hH
   simp(disch:=first|omega|assumption) only[zf,zc,za,ze,zd,zb,zh,go_sem]
   refine goK_pure (ihl x (by rw[hd];simp) (by simp only[Lim];omega)) ?_
   cases hx:zal may x with
   | true =>
    simp only[hx,Bool.true_and] at hn
    simp(disch:=first|omega|assumption) only[hx,go_sem]
    exact goJ (hJ () _ ⟨hn,by simp[Heap.upd,Ne.symm hne,hH]⟩) (by simp(disch:=first|omega|assumption) only[wrap64,go_sem])
   | false =>
    simp only[hx,Bool.false_and] at hn
    simp(disch:=first|omega|assumption) only[hx,go_sem]
    exact hQ _ _ _ _ nofun rfl (by simp[tupOf,envOf,AV.strip,AV.strip1,zal,← hn])
 by_cases k7:k=7
 ·subst k7
  simp(disch:=first|omega|assumption) only[h2,go_sem]
  refine goL_range m 38 (fun _:Unit=>[(6,.bool true)]) (fun done rest _ H=>zaq may rest=zaq may m∧H b=some (.cells [.int .i64 7,.int .i64 n,.str s,.sl .no 5 (cVs l),.sl .nil 6 []])) () (by simp(disch:=first|omega|assumption) only[go_sem]) ⟨rfl,by simp[Heap.upd]⟩ ?_ ?_
  ·rintro _ H J ⟨hn,hH⟩ hlt
   simp only[zaq] at hn
   simp(disch:=first|omega|assumption) only[h2,hlt,hH,go_sem]
   refine goK_pure (Pure.low (zi2 7 n s l [])) ?_
   simp(disch:=first|omega|assumption) only[go_sem]
   exact hQ _ _ _ _ nofun rfl (by simp[tupOf,envOf,AV.strip,AV.strip1,zal,← hn])
  ·rintro done x rest _ H J hd hlt _ ⟨hn,hH⟩ hJ
   have hg:=ZG hd
   have hbm:=Z4 done x rest
   rw[← hd] at hbm
   have hmem:x∈m:=by rw[hd];simp
   obtain⟨t,v⟩:=x
   simp only[zaq,ziu,bM] at hn hbm
   simp(disch:=first|omega|assumption) only[zf,zc,za,ze,zd,zb,zh,h2,hlt,hg,go_sem]
   refine goA_intro fun b2 hb2=>?_
   have hne:=ne_of_none hb2 hH
   simp(disch:=first|omega|assumption) only[zf,zc,za,ze,zd,zb,zh,go_sem]
   refine⟨hf,goK_pure (hmay t (by simp only[Lim];omega)) ?_⟩
   cases ht:may t with
   | true =>
    simp(disch:=first|omega|assumption) only[zf,zc,za,ze,zd,zb,zh,ht,go_sem]
    refine goK_pure (ihm t v hmem (by simp only[Lim];omega)) ?_
    cases hx:zal may v with
    | true =>
     simp only[ht,hx,Bool.true_and] at hn
     simp(disch:=first|omega|assumption) only[hx,go_sem]
     exact goJ (hJ () _ ⟨hn,by simp[Heap.upd,Ne.symm hne,hH]⟩) (by simp(disch:=first|omega|assumption) only[wrap64,go_sem])
    | false =>
     simp only[ht,hx,Bool.true_and,Bool.false_and] at hn
     simp(disch:=first|omega|assumption) only[hx,go_sem]
     exact hQ _ _ _ _ nofun rfl (by simp[tupOf,envOf,AV.strip,AV.strip1,zal,← hn])
   | false =>
    simp only[ht,Bool.false_and] at hn
    simp(disch:=first|omega|assumption) only[zf,zc,za,ze,zd,zb,zh,ht,go_sem]
    exact hQ _ _ _ _ nofun rfl (by simp[tupOf,envOf,AV.strip,AV.strip1,zal,← hn])
 ·simp(disch:=first|omega|assumption) only[k6,k7,go_sem]
  refine goK_pure (zkI k n s l m (by simp only[Lim];omega)) ?_
  simp(disch:=first|omega|assumption) only[go_sem]
  exact hQ _ _ _ _ nofun rfl (by simp[tupOf,envOf,AV.strip,AV.strip1,zal,k6,k7])
def ZQ (v:Val):Bool:=zal zq v&&decide (zO v≤16)
theorem zky (v:Val) (hb:bV v≤Lim):Pure Tryz.prog 274 [.agg (cV v)] (.bool (ZQ v)):=by
 refine Pure.go ir274 ck274 (Al4 _) fun KP Q hQ=>?_
 simp(disch:=first|omega|assumption) only[zf,zc,za,ze,zd,zb,zh,ir274,go_sem]
 refine goK_pure (znc _ (by kernel_rfl) zq zeJ v hb) ?_
 cases h:zal zq v with
 | true =>
  simp(disch:=first|omega|assumption) only[zf,zc,za,ze,zd,zb,zh,h,go_sem]
  refine goK_pure (zfh v hb) ?_
  simp(disch:=first|omega|assumption) only[go_sem]
  exact hQ _ _ _ _ nofun rfl (by simp[tupOf,envOf,AV.strip,AV.strip1,ZQ,h])
 | false =>
  simp(disch:=first|omega|assumption) only[h,go_sem]
  exact hQ _ _ _ _ nofun rfl (by simp[tupOf,envOf,AV.strip,AV.strip1,ZQ,h])
theorem zf9 (s:List UInt8):Pure Tryz.prog 279 [.str s] (.agg (cK ⟨2,s⟩)):=by
 refine Pure.go ir279 ck279 (Al4 _) fun KP Q hQ=>?_
 simp(disch:=first|omega|assumption) only[ir279,go_sem]
 refine goA_intro fun b hb=>?_
 simp(disch:=first|omega|assumption) only[go_sem]
 exact hQ _ _ _ [.agg [.int .i64 2,.str s]] nofun (by simp(disch:=first|omega|assumption) only[ir279,resvs,resv,go_sem]) rfl
theorem zch (s:List UInt8):Pure Tryz.prog 282 [.str s] (.agg (cK ⟨1,s⟩)):=by
 refine Pure.go ir282 ck282 (Al4 _) fun KP Q hQ=>?_
 simp(disch:=first|omega|assumption) only[ir282,go_sem]
 refine goA_intro fun b hb=>?_
 simp(disch:=first|omega|assumption) only[go_sem]
 exact hQ _ _ _ [.agg [.int .i64 1,.str s]] nofun (by simp(disch:=first|omega|assumption) only[ir282,resvs,resv,go_sem]) rfl
def boolT (b:Bool):List UInt8:=if b then [116,114,117,101] else [102,97,108,115,101]
theorem zkl (b:Bool):Pure Tryz.prog 290 [.bool b] (.str (boolT b)):=by
 refine Pure.go ir290 ck290 (Al4 _) fun KP Q hQ=>?_
 cases b
 ·simp(disch:=first|omega|assumption) only[ir290,go_sem]
  exact hQ _ _ _ _ nofun rfl (by simp[tupOf,envOf,AV.strip,AV.strip1,boolT])
 ·simp(disch:=first|omega|assumption) only[ir290,go_sem]
  exact hQ _ _ _ _ nofun rfl (by simp[tupOf,envOf,AV.strip,AV.strip1,boolT])
theorem zkF (b:Bool):Pure Tryz.prog 280 [.bool b] (.str (boolT b)):=by
 refine Pure.go ir280 ck280 (Al4 _) fun KP Q hQ=>?_
 simp(disch:=first|omega|assumption) only[ir280,go_sem]
 refine goK_pure (zkl b) ?_
 simp(disch:=first|omega|assumption) only[go_sem]
 exact hQ _ _ _ _ nofun rfl (by simp[tupOf,envOf,AV.strip,AV.strip1])
mutual
def zF:Val→List Tok
 | .mk k n s l m=>if k=0 then [⟨2,[110,117,108,108]⟩] else if k=1 then [⟨2,boolT (decide (n=1))⟩] else if k=2 then [⟨3,Lib.itoa n⟩] else if k=3 then [⟨ZR s,s⟩] else if k=4 then [⟨5,s⟩]
  else if k=5 then [⟨2,s⟩] else if k=8 then [⟨1,[36]⟩,⟨2,s⟩] else if k=6 then ⟨1,[91]⟩::(Zl l++[⟨1,[93]⟩]) else ⟨1,[123]⟩::(yh m++[⟨1,[125]⟩])
def Zl:List Val→List Tok
 | []=>[]
 | v::r=>zF v++Zl r
def Yq:Mem→List Tok
 | .mk s v=>⟨2,s⟩::⟨1,[58]⟩::zF v
def yh:List Mem→List Tok
 | []=>[]
 | x::r=>Yq x++yh r
end
mutual
theorem zbM:∀ v,(zF v).length+2≤4*bV v
 | .mk k n s l m=>by
  have h1:=zdk l
  have h2:=zdR m
  simp only[zF,bV]
  repeat' split
  all_goals simp only[Al2,Al5,Al3]
  all_goals omega
theorem zdk:∀ l,(Zl l).length≤4*bVs l
 | []=>by simp[Zl]
 | v::r=>by
  have h1:=zbM v
  have h2:=zdk r
  simp only[Zl,bVs,Al5];omega
theorem zkC:∀ x,(Yq x).length≤4*bM x
 | .mk s v=>by have:=zbM v;simp only[Yq,bM,Al2];omega
theorem zdR:∀ l,(yh l).length≤4*bMs l
 | []=>by simp[yh]
 | x::r=>by
  have h1:=zkC x
  have h2:=zdR r
  simp only[yh,bMs,Al5];omega
end
def inR (n:Int):Prop:=-9223372036854775808≤n∧n≤9223372036854775807
mutual
def wfV:Val→Prop
 | .mk _ n _ l m=>inR n∧zfn l∧zaF m
def zfn:List Val→Prop
 | []=>True
 | v::r=>wfV v∧zfn r
def wfM:Mem→Prop
 | .mk _ v=>wfV v
def zaF:List Mem→Prop
 | []=>True
 | x::r=>wfM x∧zaF r
end
theorem zdn:∀ {l:List Val},zfn l→∀ v∈l,wfV v
 | _::_,h,v,hv=>(List.mem_cons.1 hv).elim (fun e=>e▸h.1) (zdn h.2 v)
theorem zav:∀ {l:List Mem},zaF l→∀ s v,Mem.mk s v∈l→wfV v
 | _::_,h,s,v,hv=>(List.mem_cons.1 hv).elim (fun e=>by have:=h.1;rw[← e] at this;exact this) (zav h.2 s v)
theorem YJ (a:List Tok) (t:Tok):cKs a++[[.int .i64 t.k,.str t.s]]=cKs (a++[t]):=by simp[cKs,cK]
theorem zfy (a:List Tok) (t u:Tok):cKs a++[[.int .i64 t.k,.str t.s],[.int .i64 u.k,.str u.s]]=cKs (a++[t,u]):=by simp[cKs,cK]
theorem zkO:∀ v,wfV v→∀ acc H o,acc.length+4*bV v≤Lim→Owned H o acc.length 2→zeN Tryz.prog 275 [.sl o 2 (cKs acc),.agg (cV v)] H o 2 (cKs (acc++zF v)):=by
 refine Val.ind fun k n s l m ihl ihm hwf acc H o hb ho=>?_
 obtain⟨hn,hwl,hwm⟩:=hwf
 have hb':acc.length+4*(1+s.length+bVs l+bMs m)≤Lim:=hb
 have hll:=Yu l
 have hml:=Zc m
 have h1:=Zm l
 have h2:=yX m
 have h3:=zH acc
 have hT:=zdk l
 have hM:=zdR m
 simp only[Lim] at hb'
 have hsl:s.length≤Lim:=by simp only[Lim];omega
 refine ACalls.goO ir275 ck275 (Al4 _) fun KP Q hQ hP=>?_
 have one:∀ t:Tok,zF (.mk k n s l m)=[t]→∀ o' H',OwnS H o H' o' (acc.length+1) 2→zmj H o 2 (cKs (acc++zF (.mk k n s l m))) (.sl o' 2 (cKs acc++[[.int .i64 t.k,.str t.s]])) H':=fun t e o' H' hs=>by
  rw[e];exact⟨o',by rw[YJ],by rw[zH];simpa using hs⟩
 have hq1:((cKs acc).length+1)*24≤140737488355328:=by rw[h3];omega
 have hq2:(cKs acc).length+1≤maxLen:=by rw[h3];simp only[maxLen];omega
 have hq3:((cKs acc).length+2)*24≤140737488355328:=by rw[h3];omega
 have hq4:(cKs acc).length+2≤maxLen:=by rw[h3];simp only[maxLen];omega
 have ho':Owned H o (cKs acc).length 2:=by rw[h3];exact ho
 by_cases k0:k=0
 ·subst k0
  simp(disch:=first|omega|assumption) only[ir275,ya,go_sem]
  refine goK_pure (zf9 _) ?_
  simp(disch:=first|omega|assumption) only[cK,go_sem]
  refine goP_ownS ho' hq1 hq2 fun o' H' hs=>?_
  simp(disch:=first|omega|assumption) only[go_sem]
  exact hQ _ _ H' H' [_] nofun rfl (Low.refl _) (one ⟨2,[110,117,108,108]⟩ (by simp[zF]) o' H' (by simpa[h3] using hs))
 by_cases k1:k=1
 ·subst k1
  simp(disch:=first|omega|assumption) only[ir275,ya,go_sem]
  refine goK_pure (zkF _) ?_
  simp(disch:=first|omega|assumption) only[go_sem]
  refine goK_pure (zf9 _) ?_
  simp(disch:=first|omega|assumption) only[cK,go_sem]
  refine goP_ownS ho' hq1 hq2 fun o' H' hs=>?_
  simp(disch:=first|omega|assumption) only[go_sem]
  exact hQ _ _ H' H' [_] nofun rfl (Low.refl _) (one ⟨2,boolT (decide (n=1))⟩ (by simp[zF]) o' H' (by simpa[h3] using hs))
 by_cases k2:k=2
 ·subst k2
  simp(disch:=first|omega|assumption) only[ir275,ya,go_sem]
  refine goK_pure (zgN n hn.1 hn.2) ?_
  simp(disch:=first|omega|assumption) only[go_sem]
  refine goP_ownS ho' hq1 hq2 fun o' H' hs=>?_
  simp(disch:=first|omega|assumption) only[go_sem]
  exact hQ _ _ H' H' [_] nofun rfl (Low.refl _) (one ⟨3,Lib.itoa n⟩ (by simp[zF]) o' H' (by simpa[h3] using hs))
 by_cases k3:k=3
 ·subst k3
  simp(disch:=first|omega|assumption) only[ir275,ya,go_sem]
  refine goK_pure (zbL s hsl) ?_
  simp(disch:=first|omega|assumption) only[go_sem]
  refine goP_ownS ho' hq1 hq2 fun o' H' hs=>?_
  simp(disch:=first|omega|assumption) only[go_sem]
  exact hQ _ _ H' H' [_] nofun rfl (Low.refl _) (one ⟨ZR s,s⟩ (by simp[zF]) o' H' (by simpa[h3] using hs))
 by_cases k4:k=4
 ·subst k4
  simp(disch:=first|omega|assumption) only[ir275,ya,go_sem]
  refine goP_ownS ho' hq1 hq2 fun o' H' hs=>?_
  simp(disch:=first|omega|assumption) only[go_sem]
  exact hQ _ _ H' H' [_] nofun rfl (Low.refl _) (one ⟨5,s⟩ (by simp[zF]) o' H' (by simpa[h3] using hs))
 by_cases k5:k=5
 ·subst k5
  simp(disch:=first|omega|assumption) only[ir275,ya,go_sem]
  refine goK_pure (zf9 _) ?_
  simp(disch:=first|omega|assumption) only[cK,go_sem]
  refine goP_ownS ho' hq1 hq2 fun o' H' hs=>?_
  simp(disch:=first|omega|assumption) only[go_sem]
  exact hQ _ _ H' H' [_] nofun rfl (Low.refl _) (one ⟨2,s⟩ (by simp[zF]) o' H' (by simpa[h3] using hs))
 by_cases k8:k=8
 ·subst k8
  simp(disch:=first|omega|assumption) only[ir275,ya,go_sem]
  refine goK_pure (zch _) ?_
  simp(disch:=first|omega|assumption) only[cK,go_sem]
  refine goK_pure (zf9 _) ?_
  simp(disch:=first|omega|assumption) only[cK,go_sem]
  refine goP_ownS ho' hq3 hq4 fun o' H' hs=>?_
  simp(disch:=first|omega|assumption) only[go_sem]
  refine hQ _ _ H' H' [_] nofun rfl (Low.refl _) ?_
  have e:zF (.mk 8 n s l m)=[⟨1,[36]⟩,⟨2,s⟩]:=by simp[zF]
  rw[e]
  exact⟨o',by rw[← zfy];rfl,by rw[zH];simpa[h3] using hs⟩
 by_cases k6:k=6
 ·subst k6
  have e:zF (.mk 6 n s l m)=⟨1,[91]⟩::(Zl l++[⟨1,[93]⟩]):=by simp[zF]
  have ea:=YJ acc ⟨1,[91]⟩
  simp only at ea
  simp(disch:=first|omega|assumption) only[ir275,ya,go_sem]
  refine goK_pure (zch _) ?_
  simp(disch:=first|omega|assumption) only[cK,go_sem]
  refine goP_ownS ho' hq1 hq2 fun o1 H1 hs1=>?_
  have hs1':OwnS H o H1 o1 (acc++[(⟨1,[91]⟩:Tok)]).length 2:=by simpa[h3] using hs1
  simp(disch:=first|omega|assumption) only[ea,h1,go_sem]
  refine goL_range l 81 (fun x:Own×List Tok=>[(0,.sl x.1 2 (cKs x.2))]) (fun done rest x H'=>x.2++Zl rest=acc++⟨1,[91]⟩::Zl l∧x.2.length+4*bVs rest≤acc.length+1+4*bVs l∧OwnS H o H' x.1 x.2.length 2) (o1,acc++[⟨1,[91]⟩]) (by simp(disch:=first|omega|assumption) only[go_sem]) ⟨by simp,by simp,hs1'⟩ ?_ ?_
  ·rintro⟨o2,a⟩ H2 J ⟨hn,hle,hs⟩ hlt
   simp only[Zl,List.append_nil,bVs] at hn hle
   have h4:=zH a
   simp(disch:=first|omega|assumption) only[h1,hlt,go_sem]
   refine goK_pure (zch _) ?_
   simp(disch:=first|omega|assumption) only[cK,go_sem]
   refine goP_ownS (by rw[h4];exact hs.own) (by simp only[h4,Al2,Al3];omega) (by simp only[h4,Al2,Al3,maxLen];omega) fun o3 H3 hs3=>?_
   simp(disch:=first|omega|assumption) only[go_sem]
   refine hQ _ _ H3 H3 [_] nofun rfl (Low.refl _) ?_
   have e2:acc++zF (.mk 6 n s l m)=a++[⟨1,[93]⟩]:=by rw[e,hn];simp
   rw[e2]
   exact⟨o3,by rw[← YJ];rfl,by rw[zH];exact hs.trans (by simpa[h4] using hs3)⟩
  ·rintro done x rest ⟨o2,a⟩ H2 J hd hlt _ ⟨hn,hle,hs⟩ hJ
   have hg:=Z0 hd
   have hx:=zbM x
   have hmem:x∈l:=by rw[hd];simp
   simp only[Zl,bVs] at hn hle
   simp(disch:=first|omega|assumption) only[zf,zc,za,ze,zd,zb,zh,h1,hlt,hg,go_sem]
   refine goA_intro fun b hb=>?_
   simp(disch:=first|omega|assumption) only[zf,zc,za,ze,zd,zb,zh,go_sem]
   refine yB (ihl x hmem (zdn hwl x hmem) a _ o2 (by simp only[Lim];omega) (hs.own.upd hb)) fun o3 H3 hs3=>?_
   rw[zH] at hs3
   simp(disch:=first|omega|assumption) only[wrap64,go_sem]
   exact goJ (hJ (o3,a++zF x) H3 ⟨by rw[← hn];simp,by simp only[Al5];omega,(hs.upd hb).trans hs3⟩) (by simp(disch:=first|omega|assumption) only[go_sem])
 ·have e:zF (.mk k n s l m)=⟨1,[123]⟩::(yh m++[⟨1,[125]⟩]):=by simp[zF,k0,k1,k2,k3,k4,k5,k8,k6]
  have ea:=YJ acc ⟨1,[123]⟩
  simp only at ea
  simp(disch:=first|omega|assumption) only[ir275,ya,k0,k1,k2,k3,k4,k5,k8,k6,go_sem]
  refine goK_pure (zch _) ?_
  simp(disch:=first|omega|assumption) only[cK,go_sem]
  refine goP_ownS ho' hq1 hq2 fun o1 H1 hs1=>?_
  have hs1':OwnS H o H1 o1 (acc++[(⟨1,[123]⟩:Tok)]).length 2:=by simpa[h3] using hs1
  simp(disch:=first|omega|assumption) only[ea,h2,go_sem]
  refine goL_range m 100 (fun x:Own×List Tok=>[(0,.sl x.1 2 (cKs x.2))]) (fun done rest x H'=>x.2++yh rest=acc++⟨1,[123]⟩::yh m∧x.2.length+4*bMs rest≤acc.length+1+4*bMs m∧OwnS H o H' x.1 x.2.length 2) (o1,acc++[⟨1,[123]⟩]) (by simp(disch:=first|omega|assumption) only[go_sem]) ⟨by simp,by simp,hs1'⟩ ?_ ?_
  ·rintro⟨o2,a⟩ H2 J ⟨hn,hle,hs⟩ hlt
   simp only[yh,List.append_nil,bMs] at hn hle
   have h4:=zH a
   simp(disch:=first|omega|assumption) only[h2,hlt,go_sem]
   refine goK_pure (zch _) ?_
   simp(disch:=first|omega|assumption) only[cK,go_sem]
   refine goP_ownS (by rw[h4];exact hs.own) (by simp only[h4,Al2,Al3];omega) (by simp only[h4,Al2,Al3,maxLen];omega) fun o3 H3 hs3=>?_
   simp(disch:=first|omega|assumption) only[go_sem]
   refine hQ _ _ H3 H3 [_] nofun rfl (Low.refl _) ?_
   have e2:acc++zF (.mk k n s l m)=a++[⟨1,[125]⟩]:=by rw[e,hn];simp
   rw[e2]
   exact⟨o3,by rw[← YJ];rfl,by rw[zH];exact hs.trans (by simpa[h4] using hs3)⟩
  ·rintro done x rest ⟨o2,a⟩ H2 J hd hlt _ ⟨hn,hle,hs⟩ hJ
   have hg:=ZG hd
   have hmem:x∈m:=by rw[hd];simp
   obtain⟨t,v⟩:=x
   have hx:=zbM v
   have h4:=zH a
   have hp:=zan v
   simp only[yh,Yq,bMs,bM] at hn hle
   have ea2:=zfy a ⟨2,t⟩ ⟨1,[58]⟩
   simp only at ea2
   simp(disch:=first|omega|assumption) only[zf,zc,za,ze,zd,zb,zh,h2,hlt,hg,go_sem]
   refine goA_intro fun b hb=>?_
   simp(disch:=first|omega|assumption) only[zf,zc,za,ze,zd,zb,zh,go_sem]
   refine goK_pure (zf9 _) ?_
   simp(disch:=first|omega|assumption) only[zf,zc,za,ze,zd,zb,zh,cK,go_sem]
   refine goK_pure (zch _) ?_
   simp(disch:=first|omega|assumption) only[zf,zc,za,ze,zd,zb,zh,cK,go_sem]
   refine goP_ownS (by rw[h4];exact hs.own.upd hb) (by simp only[h4,Al2,Al3];omega) (by simp only[h4,Al2,Al3,maxLen];omega) fun o3 H3 hs3=>?_
   have hs3':OwnS H o H3 o3 (a++[(⟨2,t⟩:Tok),⟨1,[58]⟩]).length 2:=(hs.upd hb).trans (by simpa[h4] using hs3)
   have hHb:H3 b=some (.cells (cM (.mk t v))):=hs3.kept b _ (by simp[Heap.upd,zh]) fun d e=>by
    have:=hs.own;subst e
    have hx:H2 b=_:=this
    rw[hb] at hx;cases hx
   simp(disch:=first|omega|assumption) only[zf,zc,za,ze,zd,zb,zh,ea2,hHb,go_sem]
   refine yB (ihm t v hmem (zav hwm t v hmem) _ _ o3 (by simp only[Lim,Al5,Al2,Al3];omega) hs3'.own) fun o4 H4 hs4=>?_
   rw[zH] at hs4
   simp(disch:=first|omega|assumption) only[wrap64,go_sem]
   exact goJ (hJ (o4,a++[⟨2,t⟩,⟨1,[58]⟩]++zF v) H4 ⟨by rw[← hn];simp,by simp only[Al5,Al2,Al3];omega,hs3'.trans hs4⟩) (by simp(disch:=first|omega|assumption) only[go_sem])
def YV (v:Val):List Tok:=if ZQ v then zF v else []
theorem zcO (v:Val) (hw:wfV v) (hb:4*bV v≤Lim):Pure Tryz.prog 265 [.agg (cV v)] (.tup [.sl .no 2 (cKs (YV v)),.bool (ZQ v)]):=by
 have hb':bV v≤Lim:=by omega
 refine Pure.go ir265 ck265 (Al4 _) fun KP Q hQ=>?_
 simp(disch:=first|omega|assumption) only[zf,zc,za,ze,zd,zb,zh,ir265,go_sem]
 refine goK_pure (zky v hb') ?_
 cases h:ZQ v with
 | false =>
  simp(disch:=first|omega|assumption) only[h,go_sem]
  exact hQ _ _ _ _ nofun rfl (by simp[tupOf,envOf,AV.strip,AV.strip1,YV,h,cKs])
 | true =>
  simp(disch:=first|omega|assumption) only[zf,zc,za,ze,zd,zb,zh,h,go_sem]
  refine yB (zkO v hw [] _ .nil (by simpa using hb) rfl) fun o' H' hs=>?_
  simp(disch:=first|omega|assumption) only[go_sem]
  exact hQ _ _ _ _ nofun rfl (by simp[tupOf,envOf,AV.strip,AV.strip1,YV,h])
end Go.Proofs.YtaielcdfcgpbiaaGreatDoor
namespace Go.Proofs.YtaielcdfcgpbiaaGreatDoor
def zgP (P:Program) (f:FuncId) (fn:Func) (s:ChangeSpec) (c:OpenClaim):Bool:=c.wf (OpenSpec.ofChange s)&&laidOutB P&&mapsRowed P&&fn.params.all (P.readableRec ·)&&namedTie P c.named s.vars
def zgU (P:Program) (f:FuncId) (fn:Func) (s:ChangeSpec) (c:OpenClaim):Bool:=(c.stops==[])&&(P.stops==[])&&(c.knobs==[])&&(P.stopKnobs==[])&&(c.maps==(fn.params.toList++s.plain.varTypes P).any (P.mapsRec ·))&&(c.ifaces==(fn.params.toList++s.plain.varTypes P).any (P.ifacesRec ·))&&(c.mapsOut==P.mapsAmong fn.resultTypes.toList)&&(c.loops==(fn.params.toList++s.plain.varTypes P).any (P.loopsFrom ·))&&(c.wideKeys==(fn.params.toList++s.plain.varTypes P++fn.resultTypes.toList).any (P.wideKeysFrom ·))&&s.vars.all (P.varReadable ·)&&fn.resultTypes.all (fun t=>P.readableRec t&&decide (t<P.types.size))&&(c.ifacesOut==fn.resultTypes.toList.any (P.ifacesRec ·))&&(c.loopsOut==fn.resultTypes.toList.any (P.loopsFrom ·))&&(c.veiled==(fn.params.toList++s.plain.varTypes P++fn.resultTypes.toList).any (P.veiledRec ·))&&c.veiledFits P fn.params.toList (fn.params.toList++s.plain.varTypes P++fn.resultTypes.toList)
def zgM (P:Program) (f:FuncId) (fn:Func) (s:ChangeSpec) (c:OpenClaim):Bool:=(c.inPlace==P.inPlace f)&&(c.unfollowed==P.unfollowed f)&&(c.recurses==P.recurses f)&&(c.named==P.varsNamed f)
def zgZ (P:Program) (f:FuncId) (fn:Func) (s:ChangeSpec) (c:OpenClaim):Bool:=(c.plainKeys==P.plainKeys)&&c.shortTexts.isNone
def zhf (P:Program) (f:FuncId) (fn:Func) (s:ChangeSpec) (c:OpenClaim):Bool:=P.stopsHeard
def zg2 (P:Program) (f:FuncId) (fn:Func) (s:ChangeSpec) (c:OpenClaim):Bool:=P.mayEnter
def zg5 (P:Program) (f:FuncId) (fn:Func) (s:ChangeSpec) (c:OpenClaim):Bool:=(c.lifted==P.liftsFinal)&&(P.make==some c.make)&&(c.kinds==(if c.domain.isEmpty then [] else fn.params.toList.map fun t=>match P.underlying t with|some (.int k)=>some k|_=>none))&&(c.pinned==c.pinnedBy)
theorem ziP {P:Program} {f:FuncId} {fn:Func} {s:ChangeSpec} {c:OpenClaim} (h0:zgP P f fn s c=true) (h1:zgU P f fn s c=true) (h2:zgM P f fn s c=true) (h3:zgZ P f fn s c=true) (h4:zhf P f fn s c=true) (h5:zg2 P f fn s c=true) (h6:zg5 P f fn s c=true):joinedFacts P f fn s c=true:=by
 simp only[zgP,Al0] at h0
 obtain⟨⟨⟨⟨a0,a1⟩,a2⟩,a3⟩,a4⟩:=h0
 simp only[zgU,Al0] at h1
 obtain⟨⟨⟨⟨⟨⟨⟨⟨⟨⟨⟨⟨⟨⟨a5,a6⟩,a7⟩,a8⟩,a13⟩,a14⟩,a15⟩,a16⟩,a17⟩,a18⟩,a19⟩,a20⟩,a21⟩,a30⟩,a31⟩:=h1
 simp only[zgM,Al0] at h2
 obtain⟨⟨⟨a9,a10⟩,a11⟩,a12⟩:=h2
 simp only[zgZ,Al0] at h3
 obtain⟨a22,a23⟩:=h3
 simp only[zhf,Al0] at h4
 have a24:=h4
 simp only[zg2,Al0] at h5
 have a25:=h5
 simp only[zg5,Al0] at h6
 obtain⟨⟨⟨a26,a27⟩,a28⟩,a29⟩:=h6
 simp only[joinedFacts,Al0]
 exact⟨⟨⟨⟨⟨⟨⟨⟨⟨⟨⟨⟨⟨⟨⟨⟨⟨⟨⟨⟨⟨⟨⟨⟨⟨⟨⟨⟨⟨⟨⟨a0,a1⟩,a2⟩,a3⟩,a4⟩,a5⟩,a6⟩,a7⟩,a8⟩,a9⟩,a10⟩,a11⟩,a12⟩,a13⟩,a14⟩,a15⟩,a16⟩,a17⟩,a18⟩,a19⟩,a20⟩,a21⟩,a22⟩,a23⟩,a24⟩,a25⟩,a26⟩,a27⟩,a28⟩,a29⟩,a30⟩,a31⟩
open Go.Ab Go.ChangeAt Go.ChangeShapes Go.Lib Go.RowKit Go.WideElems Go.WideShapes
theorem own:ownKnob Tryz.prog.godebug=none:=by kernel_rfl
theorem laidOut:laidOutB Tryz.prog=true:=by kernel_rfl
theorem zhF:∀ l,bVs l=(l.map bV).sum
 | []=>rfl
 | v::r=>by simp[bVs,zhF r]
theorem zhL:∀ l,bMs l=(l.map bM).sum
 | []=>rfl
 | v::r=>by simp[bMs,zhL r]
theorem zgB:∀ {l:List Val},(∀ v∈l,wfV v)→zfn l
 | [],_=>trivial
 | v::r,h=>⟨h v (.head _),zgB fun x hx=>h x (.tail _ hx)⟩
theorem zf8:∀ {l:List Mem},(∀ v∈l,wfM v)→zaF l
 | [],_=>trivial
 | v::r,h=>⟨h v (.head _),zf8 fun x hx=>h x (.tail _ hx)⟩
theorem zgE {n:Int} (h:(Lit.int .i64 n).wf=true):inR n:=by
 simp[Lit.wf,IntKind.has,IntKind.min,IntKind.max,IntKind.signed,IntKind.bits] at h
 unfold inR
 omega
abbrev DV (m:Nat):Prop:=DecB Tryz.prog m 26 5 cV wfV bV
abbrev DM (m:Nat):Prop:=DecB Tryz.prog m 129 6 cM wfM bM
theorem zmI {m:Nat} (h:DV m):DecB Tryz.prog (m+1) 23 1 (fun l:List Val=>[.sl .no 5 (cVs l)]) (fun l=>zfn l) (fun l=>bVs l+1):=by
 intro H enc W cs d ps h1 h2
 obtain⟨a,h3,h4,h5,h6⟩:=DecB.slice (t:=23) Tryz.underlying23 (B:=80) (sz:=5) (by kernel_rfl) (by kernel_rfl) (by decide) h enc W cs d ps h1 h2
 exact⟨a,zgB h3.2.2,by simp only[zhF];exact h4,h5,by simp only[zaZ];exact h6⟩
theorem zlm {m:Nat} (h:DM m):DecB Tryz.prog (m+1) 24 1 (fun l:List Mem=>[.sl .no 6 (cMs l)]) (fun l=>zaF l) (fun l=>bMs l+1):=by
 intro H enc W cs d ps h1 h2
 obtain⟨a,h3,h4,h5,h6⟩:=DecB.slice (t:=24) Tryz.underlying24 (B:=96) (sz:=6) (by kernel_rfl) (by kernel_rfl) (by decide) h enc W cs d ps h1 h2
 exact⟨a,zf8 h3.2.2,by simp only[zhL];exact h4,h5,by simp only[Y7];exact h6⟩
theorem dec:∀ m,DV m∧DM m:=by
 intro m
 induction m using Nat.strongRecOn with
 | _ m ih =>
  have hs:∀ {k},k≤m→DecB Tryz.prog k 23 1 (fun l:List Val=>[.sl .no 5 (cVs l)]) (fun l=>zfn l) (fun l=>bVs l+1):=fun {k} hk=>by
   cases k with
   | zero=>exact DecB.zero
   | succ k=>exact zmI (ih k (by omega)).1
  have hm:∀ {k},k≤m→DecB Tryz.prog k 24 1 (fun l:List Mem=>[.sl .no 6 (cMs l)]) (fun l=>zaF l) (fun l=>bMs l+1):=fun {k} hk=>by
   cases k with
   | zero=>exact DecB.zero
   | succ k=>exact zlm (ih k (by omega)).2
  refine⟨?_,?_⟩
  ·cases m with
   | zero=>exact DecB.zero
   | succ k =>
    exact DecB.struct (DecFsB.cons (by kernel_rfl) (DecB.int (k:=.i64) Tryz.underlying3) (DecFsB.cons (by kernel_rfl) (DecB.int (k:=.i64) Tryz.underlying2) (DecFsB.cons (by kernel_rfl) (DecB.str Tryz.underlying9) (DecFsB.cons (by kernel_rfl) (hs (by omega)) (DecFsB.cons (by kernel_rfl) (hm (by omega)) DecFsB.nil)))))
     (by kernel_rfl) (by kernel_rfl) cV wfV bV (fun x=>.mk x.1 x.2.1 x.2.2.1 x.2.2.2.1 x.2.2.2.2.1) (fun a=>rfl) (fun a h=>⟨zgE h.2.1,h.2.2.2.1,h.2.2.2.2.1⟩) (fun a=>by simp only[bV];omega)
  ·cases m with
   | zero=>exact DecB.zero
   | succ k =>
    exact DecB.struct (DecFsB.cons (by kernel_rfl) (DecB.str Tryz.underlying9) (DecFsB.cons (by kernel_rfl) (ih k (by omega)).1 DecFsB.nil))
     (by kernel_rfl) (by kernel_rfl) cM wfM bM (fun x=>.mk x.1 x.2.1) (fun a=>by simp[cM]) (fun a h=>h.2.1) (fun a=>by simp only[bM];omega)
theorem zmX (m:Nat):DV m:=(dec m).1
theorem zlX:∀ m,DecB Tryz.prog m 24 1 (fun l:List Mem=>[.sl .no 6 (cMs l)]) (fun l=>zaF l) (fun l=>bMs l+1)
 | 0=>DecB.zero
 | m+1=>zlm (dec m).2
theorem zlU {W:World} {r:Reach} {b:Nat} {t:TypeId} {fs:Array Field} {v:Value} (ht:Tryz.prog.underlying t=some (.struct fs)) (h:Value.okWide Tryz.prog W r b t v):∃ cs,v=.agg cs:=by
 unfold Value.okWide at h
 rw[ht] at h
 obtain⟨cs,h,_⟩:=h
 exact⟨cs,h⟩
theorem ziD {H:Type} {s:ChangeSpec} {ds:List (DataW H)} (h:∀ k,(Rows.OpenSpec.upto s).cond=some k→k H ds=true):blkAll ds≤1048576:=by
 have h1:Rows.uptoSmall H ds=true:=h _ rfl
 have h2:=of_decide_eq_true h1
 rwa [Yk] at h2
end Go.Proofs.YtaielcdfcgpbiaaGreatDoor
namespace Go.Proofs.YtaielcdfcgpbiaaGreatDoor
open Go.Ab
structure DirD where
 nm:List UInt8
 args:List Mem
inductive SelD where
 | mk (k:Int) (al nm:List UInt8) (args:List Mem) (dirs:List DirD) (on:List UInt8) (sels:List SelD)
structure TyD where
 nm:List UInt8
 lists:Int
 musts:Int
structure VarD where
 nm:List UInt8
 t:TyD
 has:Bool
 d:Val
structure FragD where
 nm:List UInt8
 on:List UInt8
 dirs:List DirD
 sels:List SelD
def cD (x:DirD):List AV:=[.str x.nm,.sl .no 6 (cMs x.args)]
def cDs (l:List DirD):List (List AV):=l.map cD
def cTy (t:TyD):List AV:=[.str t.nm,.int .i64 t.lists,.int .i64 t.musts]
def cW (x:VarD):List AV:=cTy ⟨x.nm,0,0⟩ |>.take 1 |>.append (cTy x.t++(.bool x.has::cV x.d))
def cWs (l:List VarD):List (List AV):=l.map cW
theorem zeG (nm:List UInt8) (t:TyD) (h:Bool) (d:Val):cW ⟨nm,t,h,d⟩=.str nm::.str t.nm::.int .i64 t.lists::.int .i64 t.musts::.bool h::cV d:=rfl
theorem zbO (l:List DirD):(cDs l).length=l.length:=by simp[cDs]
theorem Yx (l:List VarD):(cWs l).length=l.length:=by simp[cWs]
theorem zcR {l a:List DirD} {x:DirD} {b:List DirD} (h:l=a++x::b):(cDs l).getD a.length []=cD x:=getD_mid' h
theorem zfs {l a:List VarD} {x:VarD} {b:List VarD} (h:l=a++x::b):(cWs l).getD a.length []=cW x:=getD_mid' h
theorem ziX (x:DirD):(cD x).map AV.strip1=cD x:=rfl
theorem zbQ (x:VarD):(cW x).map AV.strip1=cW x:=by rcases x with ⟨a,b,c,⟨⟩⟩;rfl
theorem zib (l:List VarD):(cWs l).map (·.map AV.strip1)=cWs l:=by rw[cWs,List.map_map];exact List.map_congr_left fun v _=>zbQ v
theorem zhm (x:VarD):(cW x).length=10:=by rcases x with ⟨a,b,c,⟨⟩⟩;rfl
theorem zfi (x:VarD):(cW x).take 10=cW x:=by rcases x with ⟨a,b,c,⟨⟩⟩;rfl
def bD (x:DirD):Nat:=1+x.nm.length+bMs x.args
def bDs (l:List DirD):Nat:=(l.map bD).sum
mutual
def bS:SelD→Nat
 | .mk _ al nm args dirs on sels=>1+al.length+nm.length+on.length+bMs args+bDs dirs+bSs sels
def bSs:List SelD→Nat
 | []=>0
 | x::r=>bS x+bSs r
end
def bW (x:VarD):Nat:=x.nm.length+x.t.nm.length+bV x.d
def bWs (l:List VarD):Nat:=(l.map bW).sum
def bF (x:FragD):Nat:=1+x.nm.length+x.on.length+bDs x.dirs+bSs x.sels
theorem zaT {α:Type} {f:α→Nat} (hf:∀ x,1≤f x):∀ l:List α,l.length≤(l.map f).sum
 | []=>Nat.zero_le _
 | x::r=>by have:=zaT hf r;have:=hf x;simp only[List.map_cons,List.sum_cons,Al2];omega
theorem zbT {α:Type} (f:α→Nat) (a:List α) (x:α) (b:List α):((a++x::b).map f).sum=(a.map f).sum+f x+(b.map f).sum:=by simp;omega
theorem zeW (l:List DirD):l.length≤bDs l:=zaT (fun x=>by simp only[bD];omega) l
theorem zaa (l:List VarD):l.length≤bWs l:=zaT (fun x=>by have:=zan x.d;simp only[bW];omega) l
theorem zfc (a:List DirD) (x:DirD) (b:List DirD):bDs (a++x::b)=bDs a+bD x+bDs b:=zbT ..
theorem ze4 (a:List VarD) (x:VarD) (b:List VarD):bWs (a++x::b)=bWs a+bW x+bWs b:=zbT ..
mutual
theorem SelD.ind {P:SelD→Prop} (h:∀ k al nm args dirs on sels,(∀ v∈sels,P v)→P (.mk k al nm args dirs on sels)):∀ v,P v
 | .mk k al nm args dirs on sels=>h k al nm args dirs on sels (SelD.indL h sels)
theorem SelD.indL {P:SelD→Prop} (h:∀ k al nm args dirs on sels,(∀ v∈sels,P v)→P (.mk k al nm args dirs on sels)):∀ l:List SelD,∀ v∈l,P v
 | [],_,hv=>by cases hv
 | x::r,v,hv=>(List.mem_cons.1 hv).elim (fun e=>e▸SelD.ind h x) (SelD.indL h r v)
end
theorem zkG {t:List UInt8} {v:Val} {m:List Mem} (h:Mem.mk t v∈m):bV v≤bMs m:=by
 obtain⟨a,b,hd⟩:=List.append_of_mem h
 have:=Z4 a (.mk t v) b
 rw[← hd] at this
 simp only[bM] at this
 omega
theorem zj4 (a b:List Mem) (ha:bMs a≤Lim):Pure Tryz.prog 40 [.sl .no 6 (cMs a),.sl .no 6 (cMs b)] (.bool (eqd a b)) :=
 zgt a b (by have:=Zc a;omega) fun s v hm u=>zlo v (by have:=zkG hm;omega) u
def wfD (x:DirD):Prop:=zaF x.args
def zg9 (l:List DirD):Prop:=∀ x∈l,wfD x
def wfW (x:VarD):Prop:=inR x.t.lists∧inR x.t.musts∧wfV x.d
def pk (s:List UInt8):Tok:=⟨1,s⟩
def wk (s:List UInt8):Tok:=⟨2,s⟩
def zI (dp:Int) (fixed:Bool) (v:Val):Bool:=ZQ v&&(decide (dp+zO v≤16)&&(!fixed||decide ((zR v []).length=0)))
def zcG (dp:Int) (fixed:Bool):Mem→Bool
 | .mk s v=>zq s&&zI dp fixed v
def Yw (dp:Int) (fixed:Bool) (l:List Mem):Bool:=l.all (zcG dp fixed)
def zaN (dp:Int) (fixed:Bool) (d:DirD):Bool:=zq d.nm&&Yw dp fixed d.args
def Yr (dp:Int) (fixed:Bool) (l:List DirD):Bool:=l.all (zaN dp fixed)
def zM (t:TyD):Bool:=zq t.nm&&(decide (0≤t.lists)&&(decide (t.lists≤4)&&(decide (0≤t.musts)&&decide (t.musts<2 ^ (t.lists.toNat+1)))))
noncomputable def zcI (has:Bool) (v:Val):Bool:=if has then zI 0 true v else eqd v zV
noncomputable def Zy (x:VarD):Bool:=zq x.nm&&(zM x.t&&zcI x.has x.d)
def Yy (l:List Mem):List Tok:=if l.length=0 then [] else pk [40]::(yh l++[pk [41]])
def tD (d:DirD):List Tok:=pk [64]::wk d.nm::Yy d.args
def tDs (l:List DirD):List Tok:=l.flatMap tD
def zam (m:Int) (i:Nat):Bool:=decide (m / 2 ^ i % 2=1)
def zaJ (n:Nat) (m:Int) (i:Nat):List Tok:=(if i<n then [pk [93]] else [])++(if zam m i then [pk [33]] else [])
def zaf (n:Nat) (m:Int):Nat→List Tok
 | 0=>zaJ n m 0
 | i+1=>zaJ n m (i+1)++zaf n m i
def tTy (t:TyD):List Tok:=List.replicate t.lists.toNat (pk [91])++(wk t.nm::zaf t.lists.toNat t.musts t.lists.toNat)
def tDf (has:Bool) (v:Val):List Tok:=if has then pk [61]::zF v else []
theorem zen:∀ a b,yh (a++b)=yh a++yh b
 | [],b=>rfl
 | x::a,b=>by simp[yh,zen a b]
def Yb:Own→Option Nat
 | .tip b _=>some b
 | _=>none
structure Sep (H:Heap) (l:List (Own×Nat×Nat)):Prop where
 own:∀ x∈l,Owned H x.1 x.2.1 x.2.2
 nd:(l.filterMap fun x=>Yb x.1).Nodup
theorem Y8 {o:Own} {b:Nat} (h:Yb o=some b):∃ d,o=.tip b d:=by
 cases o<;>simp[Yb] at h
 rename_i c d;subst h;exact⟨d,rfl⟩
theorem Owned.ofKept {H H':Heap} {o o2:Own} {n sz:Nat} (h:Owned H o n sz) (hk:Kept H o2 H') (hne:∀ b d d2,o=.tip b d→o2≠.tip b d2):Owned H' o n sz:=by
 cases o with
 | tip b d=>exact hk b _ h fun d2 e=>hne b d d2 rfl e
 | no=>exact h
 | nil=>exact h
 | full=>exact h
theorem Sep.step {H H':Heap} {a b:List (Own×Nat×Nat)} {o o':Own} {n n' sz:Nat} (h:Sep H (a++(o,n,sz)::b)) (h':OwnS H o H' o' n' sz):Sep H' (a++(o',n',sz)::b):=by
 have hnd:=h.nd
 simp only[List.filterMap_append,List.filterMap_cons] at hnd
 have hother:∀ x,x∈a∨x∈b→∀ c d d2,x.1=.tip c d→o≠.tip c d2:=fun x hx c d d2 hxe e=>by
  subst e
  simp only[Yb] at hnd
  rw[List.nodup_append] at hnd
  obtain⟨_,hb,hab⟩:=hnd
  rcases hx with hx|hx
  ·exact hab c (List.mem_filterMap.2 ⟨x,hx,by rw[hxe]⟩) c (ZD ..) rfl
  ·exact(List.nodup_cons.1 hb).1 (List.mem_filterMap.2 ⟨x,hx,by rw[hxe]⟩)
 refine⟨fun x hx=>?_,?_⟩
 ·rcases List.mem_append.1 hx with hx|hx
  ·exact Owned.ofKept (h.own x (by simp[hx])) h'.kept fun c d d2=>hother x (.inl hx) c d d2
  ·rcases List.mem_cons.1 hx with rfl|hx
   ·exact h'.own
   ·exact Owned.ofKept (h.own x (by simp[hx])) h'.kept fun c d d2=>hother x (.inr hx) c d d2
 ·simp only[List.filterMap_append,List.filterMap_cons]
  have hsub:∀ c,c∈a.filterMap (fun x=>Yb x.1)∨c∈b.filterMap (fun x=>Yb x.1)→Yb o'≠some c:=fun c hc e=>by
   obtain⟨d',e⟩:=Y8 e
   have hH:H c≠none∧∀ d0,o≠.tip c d0:=by
    rcases hc with hc|hc<;>obtain⟨x,hx,hxe⟩:=List.mem_filterMap.1 hc<;>obtain⟨d,hxe⟩:=Y8 hxe
    ·have:=h.own x (by simp[hx]);rw[hxe] at this
     have h2:H c=some _:=this
     exact⟨by simp[h2],fun d0=>hother x (.inl hx) c d d0 hxe⟩
    ·have:=h.own x (by simp[hx]);rw[hxe] at this
     have h2:H c=some _:=this
     exact⟨by simp[h2],fun d0=>hother x (.inr hx) c d d0 hxe⟩
   rcases h'.new c d' e with h1|⟨d0,h1⟩
   ·exact hH.1 h1
   ·exact hH.2 d0 h1
  have hnd2:(a.filterMap (fun x=>Yb x.1)++b.filterMap (fun x=>Yb x.1)).Nodup:=by
   cases ho:Yb o with
   | none=>rw[ho] at hnd;exact hnd
   | some c =>
    rw[ho] at hnd
    rw[List.nodup_append] at hnd ⊢
    exact⟨hnd.1,(List.nodup_cons.1 hnd.2.1).2,fun x hx y hy=>hnd.2.2 x hx y (Yg _ hy)⟩
  cases ho:Yb o' with
  | none=>exact hnd2
  | some c =>
   have hc:=hsub c
   rw[List.nodup_append] at hnd2 ⊢
   refine⟨hnd2.1,List.nodup_cons.2 ⟨fun hm=>hc (.inr hm) ho,hnd2.2.1⟩,fun x hx y hy=>?_⟩
   rcases List.mem_cons.1 hy with rfl|hy
   ·exact fun e=>hc (.inl (e▸hx)) ho
   ·exact hnd2.2.2 x hx y hy
theorem Sep.mono {H H':Heap} {l:List (Own×Nat×Nat)} (h:Sep H l) (hk:∀ c n sz,H c=some (.tip n sz)→H' c=some (.tip n sz)):Sep H' l :=
 ⟨fun x hx=>by
  have:=h.own x hx
  obtain⟨o,n,sz⟩:=x
  cases o with
  | tip c d=>exact hk c _ _ this
  | no=>exact this
  | nil=>exact this
  | full=>exact this,h.nd⟩
open Go.Lib Go.RowKit Go.Sort
theorem zdx (s:List UInt8) (c:UInt8):Pure Tryz.prog 122 [.str s,.int .u8 c.toNat] (.int .i64 (Lib.indexByte s c)):=by
 refine Pure.of_calls fun γ w vs ht hv=>?_
 obtain⟨hl,hr⟩:=hv
 match vs,hl with
 | [v,u],_ =>
  cases hr 0 _ _ rfl rfl
  cases hr 1 _ _ rfl rfl
  refine(Tryz.strings_IndexByte ⟨s.toArray⟩ c.toNat w).mono fun e w' ⟨he,hw⟩=>⟨hw,_,he,?_⟩
  have e1:((c.toNat:Int)).toNat.toUInt8=c:=by simp
  rw[e1]
  exact .int _ _
theorem zhk (s:List UInt8) (c:UInt8):Pure Tryz.prog 127 [.str s,.str [c]] (.bool (decide (0≤Lib.indexByte s c))):=by
 refine Pure.of_calls fun γ w vs ht hv=>?_
 obtain⟨hl,hr⟩:=hv
 match vs,hl with
 | [v,u],_ =>
  cases hr 0 _ _ rfl rfl
  cases hr 1 _ _ rfl rfl
  exact(Tryz.strings_Contains_one ⟨s.toArray⟩ c w).mono fun e w' ⟨he,hw⟩=>⟨hw,_,he,.bool _⟩
end Go.Proofs.YtaielcdfcgpbiaaGreatDoor
namespace Go.Proofs.YtaielcdfcgpbiaaGreatDoor
open Go.Ab
def hexL:List UInt8:=[48,49,50,51,52,53,54,55,56,57,97,98,99,100,101,102]
def hexD (c:UInt8):Option Nat:=if Lib.indexByte hexL (c ||| 32)<0∨c.toNat<48∨(57<c.toNat∧c.toNat<65) then none else some (Lib.indexByte hexL (c ||| 32)).toNat
def ZX:Nat→List UInt8→Nat→Option Nat
 | 0,_,u=>some u
 | _+1,[],_=>none
 | n+1,c::t,u=>match hexD c with
  | none=>none
  | some k=>ZX n t (16*u+k)
def Z8 (s:List UInt8):Option Nat:=ZX 4 s 0
def yM (n:Nat):List UInt8 :=
 if n≤127 then [UInt8.ofNat n]
 else if n≤2047 then [UInt8.ofNat (192+n / 64),UInt8.ofNat (128+n % 64)]
 else if n≤65535 then [UInt8.ofNat (224+n / 4096),UInt8.ofNat (128+n / 64 % 64),UInt8.ofNat (128+n % 64)]
 else [UInt8.ofNat (240+n / 262144),UInt8.ofNat (128+n / 4096 % 64),UInt8.ofNat (128+n / 64 % 64),UInt8.ofNat (128+n % 64)]
def zt:List Nat→Option (List UInt8)
 | []=>some []
 | u::r=>if 65535<u∨(56320≤u∧u≤57343) then none
  else if 55296≤u∧u<56320 then match r with
   | []=>none
   | v::r=>if v<56320∨57343<v then none else (zt r).map (yM (65536+1024*(u-55296)+(v-56320))++·)
  else (zt r).map (yM u++·)
structure Sd where
 b:List UInt8
 u:List Nat
 ok:Bool
def yo (q:Sd):Sd:=⟨q.b++(zt q.u).getD [],[],q.ok&&(zt q.u).isSome⟩
def Sd.put (q:Sd) (c:UInt8):Sd:=⟨(yo q).b++[c],[],(yo q).ok⟩
def zdN:List UInt8:=[34,92,47,98,102,110,114,116]
def zlx:List UInt8:=[34,92,47,8,12,10,13,9]
def Ye (q:Sd):List UInt8→Option (Sd×List UInt8)
 | []=>none
 | c::t=>if c=117 then (Z8 t).map fun u=>(⟨q.b,q.u++[u],q.ok⟩,t.drop 4)
  else if Lib.indexByte zdN c<0 then none else some (q.put (zlx.getD (Lib.indexByte zdN c).toNat 0),t)
def YS (may:UInt8→Bool):Nat→List UInt8→Sd→Option (Sd×List UInt8)
 | 0,_,_=>none
 | _+1,[],_=>none
 | n+1,c::t,q=>if c=34 then some (yo q,t)
  else if c=92 then match Ye q t with
   | none=>none
   | some (q',t')=>YS may n t' q'
  else if may c then YS may n t (q.put c) else none
def Yd (may:UInt8→Bool) (t:List UInt8):Option (List UInt8×List UInt8):=match YS may (t.length+1) t ⟨[],[],true⟩ with
 | some (q,t')=>if q.ok then some (q.b,t') else none
 | none=>none
def nch (c:UInt8):Bool:=decide (0≤Lib.indexByte [48,49,50,51,52,53,54,55,56,57,43,45,46,101,69] c)
def nst (c:UInt8):Bool:=decide (0≤Lib.indexByte [45,48,49,50,51,52,53,54,55,56,57] c)
def zdD (s:List UInt8):Val:=if Zd s then .mk 2 (zd5 s) [] [] [] else .mk 3 0 s [] []
theorem zbV {q q':Sd} {t t':List UInt8} (h:Ye q t=some (q',t')):t' <:+ t∧t'.length<t.length:=by
 cases t with
 | nil=>cases h
 | cons c t =>
  simp only[Ye] at h
  split at h
  ·cases hu:Z8 t with
   | none=>simp[hu] at h
   | some u =>
    simp only[hu,z8,Al1,Al8] at h
    obtain⟨_,rfl⟩:=h
    exact⟨(List.drop_suffix _ _).trans (List.suffix_cons ..),by simp;omega⟩
  ·split at h
   ·cases h
   ·simp only[Al1,Al8] at h
    obtain⟨_,rfl⟩:=h
    exact⟨List.suffix_cons ..,by simp⟩
theorem zdh {may:UInt8→Bool}:∀(n:Nat) (t:List UInt8) (q q':Sd) (t':List UInt8),YS may n t q=some (q',t')→t' <:+ t∧t'.length<t.length
 | 0,_,_,_,_,h=>by cases h
 | _+1,[],_,_,_,h=>by cases h
 | n+1,c::t,q,q',t',h=>by
  simp only[YS] at h
  split at h
  ·simp only[Al1,Al8] at h
   obtain⟨_,rfl⟩:=h
   exact⟨List.suffix_cons ..,by simp⟩
  ·split at h
   ·cases he:Ye q t with
    | none=>simp[he] at h
    | some x =>
     obtain⟨q1,t1⟩:=x
     simp only[he] at h
     have h1:=zbV he
     have h2:=zdh n t1 q1 q' t' h
     exact⟨(h2.1.trans h1.1).trans (List.suffix_cons ..),by simp;omega⟩
   ·split at h
    ·have h2:=zdh n t _ q' t' h
     exact⟨h2.1.trans (List.suffix_cons ..),by simp;omega⟩
    ·cases h
theorem zfF {may:UInt8→Bool} {t t' b:List UInt8} (h:Yd may t=some (b,t')):t' <:+ t∧t'.length<t.length:=by
 unfold Yd at h
 split at h
 ·rename_i q t1 hq
  split at h
  ·cases h;exact zdh _ _ _ _ _ hq
  ·cases h
 ·cases h
theorem za4:∀(n:Nat) (t:List UInt8) (u v:Nat),ZX n t u=some v→n≤t.length
 | 0,_,_,_,_=>Nat.zero_le _
 | n+1,[],_,_,h=>by cases h
 | n+1,c::t,u,v,h=>by
  simp only[ZX] at h
  split at h
  ·cases h
  ·have:=za4 n t _ v h;simp;omega
theorem zaE (n:Nat):(yM n).length≤4∧(n≤65535→(yM n).length≤3):=by
 unfold yM
 split
 ·simp
 ·split
  ·simp
  ·split
   ·simp
   ·refine⟨by simp,fun h=>by omega⟩
theorem zb4:∀(u:List Nat) (s:List UInt8),zt u=some s→s.length≤3*u.length
 | [],s,h=>by cases h;simp
 | u::[],s,h=>by
  simp only[zt] at h
  split at h
  ·cases h
  ·rename_i h1
   split at h
   ·cases h
   ·simp only[z8,Al1] at h
    subst h
    have:=(zaE u).2 (by omega)
    simp;omega
 | u::v::r,s,h=>by
  rw[zt] at h
  split at h
  ·cases h
  ·rename_i h1
   split at h
   ·split at h
    ·cases h
    ·cases hr:zt r with
     | none=>simp[hr] at h
     | some x =>
      simp only[hr,z8,Al1] at h
      subst h
      have h2:=zb4 r x hr
      have h3:=(zaE (65536+1024*(u-55296)+(v-56320))).1
      simp only[Al5,Al2];omega
   ·cases hr:zt (v::r) with
    | none=>simp[hr] at h
    | some x =>
     simp only[hr,z8,Al1] at h
     subst h
     have h2:=zb4 (v::r) x hr
     have h3:=(zaE u).2 (by omega)
     simp only[Al5,Al2] at h2 ⊢;omega
def Sd.w (q:Sd):Nat:=q.b.length+3*q.u.length
theorem zbE (q:Sd):(yo q).b.length≤q.w:=by
 unfold yo Sd.w
 cases h:zt q.u with
 | none=>simp
 | some s=>have:=zb4 _ _ h;simp;omega
theorem zjj (q:Sd) (c:UInt8):(q.put c).w≤q.w+1:=by
 have:=zbE q
 simp only[Sd.put,Sd.w,Al5,Al2,Al3] at this ⊢;omega
theorem zjF {q q':Sd} {t t':List UInt8} (h:Ye q t=some (q',t')):q'.w+t'.length≤q.w+t.length:=by
 cases t with
 | nil=>cases h
 | cons c t =>
  simp only[Ye] at h
  split at h
  ·cases hu:Z8 t with
   | none=>simp[hu] at h
   | some u =>
    simp only[hu,z8,Al1,Al8] at h
    obtain⟨rfl,rfl⟩:=h
    have:=za4 _ _ _ _ hu
    simp only[Sd.w,Al5,Al2,Al3,Zv];omega
  ·split at h
   ·cases h
   ·simp only[Al1,Al8] at h
    obtain⟨rfl,rfl⟩:=h
    have:=zjj q (zlx.getD (Lib.indexByte zdN c).toNat 0)
    simp only[Al2];omega
theorem zgT {may:UInt8→Bool}:∀(n:Nat) (t:List UInt8) (q q':Sd) (t':List UInt8),YS may n t q=some (q',t')→q'.b.length+t'.length+1≤q.w+t.length
 | 0,_,_,_,_,h=>by cases h
 | _+1,[],_,_,_,h=>by cases h
 | n+1,c::t,q,q',t',h=>by
  simp only[YS] at h
  split at h
  ·simp only[Al1,Al8] at h
   obtain⟨rfl,rfl⟩:=h
   have:=zbE q
   simp only[Al2];omega
  ·split at h
   ·cases he:Ye q t with
    | none=>simp[he] at h
    | some x =>
     obtain⟨q1,t1⟩:=x
     simp only[he] at h
     have h1:=zjF he
     have h2:=zgT n t1 q1 q' t' h
     simp only[Al2];omega
   ·split at h
    ·have h2:=zgT n t _ q' t' h
     have h3:=zjj q c
     simp only[Al2];omega
    ·cases h
theorem zlZ {may:UInt8→Bool} {t t' b:List UInt8} (h:Yd may t=some (b,t')):b.length+t'.length+1≤t.length:=by
 unfold Yd at h
 split at h
 ·rename_i q t1 hq
  split at h
  ·cases h;have:=zgT _ _ _ _ _ hq;simpa[Sd.w] using this
  ·cases h
 ·cases h
theorem zfa:inR 0:=by simp[inR]
theorem ziw {s:List UInt8} {n:Int} (h:Lib.parseIntB 64 s=.ok n):inR n:=by
 cases s with
 | nil=>cases h
 | cons c r =>
  simp only[Lib.parseIntB] at h
  split at h
  ·cases h
  ·cases h
  ·split at h
   ·cases h
   ·split at h
    ·cases h
    ·rename_i h1 h2
     cases h
     simp only[inR]
     split<;>simp_all<;>omega
theorem zjU (s:List UInt8):bV (zdD s)≤1+s.length∧wfV (zdD s):=by
 unfold zdD
 split
 ·rename_i h
  refine⟨by simp only[bV,bVs,bMs,Al3];omega,?_,trivial,trivial⟩
  unfold Zd at h
  unfold zd5
  rcases hp:Lib.parseIntB 64 s with v|_|_
  ·exact ziw hp
  ·exact zfa
  ·rw[hp] at h;simp[okI] at h
 ·exact⟨by simp only[bV,bVs,bMs];omega,zfa,trivial,trivial⟩
theorem zr (l:List UInt8):(bytesOf l).length=l.length:=by simp[bytesOf]
theorem zZ (a b:List UInt8):bytesOf a++bytesOf b=bytesOf (a++b):=by simp[bytesOf]
theorem yJ (l:List UInt8):(bytesOf l).map (·.map AV.strip1)=bytesOf l:=by simp[bytesOf,AV.strip1]
theorem zcH (l:List UInt8):byts (bytesOf l)=some l:=by
 induction l with
 | nil=>rfl
 | cons c r ih =>
  have h:=c.toNat_lt
  simp only[bytesOf,List.map_cons] at ih ⊢
  simp only[byts,ih,z8]
  rw[if_pos ⟨by omega,by omega⟩]
  simp
theorem YG (acc:List UInt8) (c:UInt8):bytesOf acc++[[.int .u8 c.toNat]]=bytesOf (acc++[c]):=zZ acc [c]
theorem zas (acc:List UInt8) (c d:UInt8):bytesOf acc++[[.int .u8 c.toNat],[.int .u8 d.toNat]]=bytesOf (acc++[c,d]):=zZ acc [c,d]
theorem zmv {n:Nat} (h:n<4294967296):IntKind.wrap .u32 (n:Int)=n:=by
 have e:IntKind.wrap .u32 (n:Int)=(n:Int) % 4294967296:=rfl
 rw[e];omega
theorem zj0 {n:Nat} (h:n<2147483648):IntKind.wrap .i32 (n:Int)=n:=by
 have e:IntKind.wrap .i32 (n:Int)=if (n:Int) % 4294967296≥2147483648 then (n:Int) % 4294967296-4294967296 else (n:Int) % 4294967296:=by
  simp[IntKind.wrap,IntKind.bits,IntKind.signed]
 rw[e];split<;>omega
theorem wr8 (n:Nat):IntKind.wrap .u8 (n:Int)=((n % 256:Nat):Int):=by
 have e:IntKind.wrap .u8 (n:Int)=(n:Int) % 256:=rfl
 rw[e];omega
theorem fd6 (n:Nat):(n:Int).fdiv (2 ^ min 6 IntKind.i32.bits)=((n / 64:Nat):Int):=by
 show (n:Int).fdiv 64=_
 rw[Int.fdiv_eq_ediv_of_nonneg _ (by decide)];omega
theorem zlK (n:Nat):(n:Int).fdiv (2 ^ min 12 IntKind.i32.bits)=((n / 4096:Nat):Int):=by
 show (n:Int).fdiv 4096=_
 rw[Int.fdiv_eq_ediv_of_nonneg _ (by decide)];omega
theorem zm2 (n:Nat):(n:Int).fdiv (2 ^ min 18 IntKind.i32.bits)=((n / 262144:Nat):Int):=by
 show (n:Int).fdiv 262144=_
 rw[Int.fdiv_eq_ediv_of_nonneg _ (by decide)];omega
theorem zmZ:∀ x:Fin 32,IntKind.wrap .u8 ((BitVec.ofInt IntKind.u8.bits 192 ||| BitVec.ofInt IntKind.u8.bits ((x.val:Nat):Int)).toNat:Int)=((UInt8.ofNat (192+x.val)).toNat:Int):=by decide +kernel
theorem zmC:∀ x:Fin 16,IntKind.wrap .u8 ((BitVec.ofInt IntKind.u8.bits 224 ||| BitVec.ofInt IntKind.u8.bits ((x.val:Nat):Int)).toNat:Int)=((UInt8.ofNat (224+x.val)).toNat:Int):=by decide +kernel
theorem zmq:∀ x:Fin 8,IntKind.wrap .u8 ((BitVec.ofInt IntKind.u8.bits 240 ||| BitVec.ofInt IntKind.u8.bits ((x.val:Nat):Int)).toNat:Int)=((UInt8.ofNat (240+x.val)).toNat:Int):=by decide +kernel
theorem zmW:∀ x:Fin 256,IntKind.wrap .u8 ((BitVec.ofInt IntKind.u8.bits 128 ||| BitVec.ofInt IntKind.u8.bits (IntKind.wrap .u8 ((BitVec.ofInt IntKind.u8.bits ((x.val:Nat):Int) &&& BitVec.ofInt IntKind.u8.bits 63).toNat:Int))).toNat:Int)=((UInt8.ofNat (128+x.val % 64)).toNat:Int):=by decide +kernel
theorem zmo {m:Nat} (h:m<32):IntKind.wrap .u8 ((BitVec.ofInt IntKind.u8.bits 192 ||| BitVec.ofInt IntKind.u8.bits (IntKind.wrap .u8 (m:Int))).toNat:Int)=((UInt8.ofNat (192+m)).toNat:Int):=by
 rw[wr8 m,Nat.mod_eq_of_lt (show m<256 by omega)];exact zmZ ⟨m,h⟩
theorem zll {m:Nat} (h:m<16):IntKind.wrap .u8 ((BitVec.ofInt IntKind.u8.bits 224 ||| BitVec.ofInt IntKind.u8.bits (IntKind.wrap .u8 (m:Int))).toNat:Int)=((UInt8.ofNat (224+m)).toNat:Int):=by
 rw[wr8 m,Nat.mod_eq_of_lt (show m<256 by omega)];exact zmC ⟨m,h⟩
theorem zmK {m:Nat} (h:m<8):IntKind.wrap .u8 ((BitVec.ofInt IntKind.u8.bits 240 ||| BitVec.ofInt IntKind.u8.bits (IntKind.wrap .u8 (m:Int))).toNat:Int)=((UInt8.ofNat (240+m)).toNat:Int):=by
 rw[wr8 m,Nat.mod_eq_of_lt (show m<256 by omega)];exact zmq ⟨m,h⟩
theorem zkv (m:Nat):IntKind.wrap .u8 ((BitVec.ofInt IntKind.u8.bits 128 ||| BitVec.ofInt IntKind.u8.bits (IntKind.wrap .u8 ((BitVec.ofInt IntKind.u8.bits (IntKind.wrap .u8 (m:Int)) &&& BitVec.ofInt IntKind.u8.bits 63).toNat:Int))).toNat:Int)=((UInt8.ofNat (128+m % 64)).toNat:Int):=by
 rw[wr8 m]
 have:=zmW ⟨m % 256,Nat.mod_lt _ (by decide)⟩
 simp only at this
 rw[this,Nat.mod_mod_of_dvd m (by decide)]
theorem zlE (n:Nat) (h0:127<n) (h1:n≤1114111) (h2:¬ (55296≤n∧n≤57343)) (acc:List UInt8) (H:Heap) (o:Own) (ho:Owned H o acc.length 1) (hb:acc.length≤Lim) :
  zeN Tryz.prog 268 [.sl o 1 (bytesOf acc),.int .i32 n] H o 1 (bytesOf (acc++yM n)):=by
 refine ACalls.goO ir268 ck268 (Al4 _) fun KP Q hQ hP=>?_
 have e1:=zmv (n:=n) (by omega)
 have hal:=zr acc
 simp only[Lim] at hb
 have ho':Owned H o (bytesOf acc).length 1:=by rw[hal];exact ho
 have fin:∀(e:List UInt8) o' H',yM n=e→OwnS H o H' o' ((bytesOf acc).length+e.length) 1→zmj H o 1 (bytesOf (acc++yM n)) (.sl o' 1 (bytesOf acc++bytesOf e)) H':=fun e o' H' he hs=>by
  rw[he];exact⟨o',by rw[zZ],by rw[zr,Al5];rw[hal] at hs;exact hs⟩
 by_cases h3:n≤2047
 ·have g1:((n:Int)≤2047)=True:=eq_true (by omega)
  simp(disch:=first|omega|assumption) only[ir268,e1,g1,steps,st2,pev,rev,oev,optr,ibin,sbin,ishf,bound,mmAll,mm2,mk,mkArgs,AV.cells,AV.boxable,AV.one,AV.strip1,fillA,fillS,Nat.reduceEqDiff,reduceCtorEq,↓reduceIte,Nat.reduceAdd,Int.reduceNeg,Nat.reduceLeDiff,Int.reduceToNat,Int.reduceEq,Int.reduceLT,Int.reduceLE,Int.reduceAdd,Io,Im,If,Il,Jt,Jf,AC.rg,Jm,Jl,Ja,Fm,Fl,Fa,Imv,Imb,Iai,Iei,Igi,Isi,Ipf,Ipt,Ilb,Iia,Ilt,Iap,Ink,Iln,Ils,Iad,Iex,Ibx,Ing]
  simp only[fd6,zmo (show n / 64<32 by omega),zkv]
  refine goP_ownS ho' (by simp[hal];omega) (by simp[hal,maxLen];omega) fun o' H' hs=>?_
  simp(disch:=first|omega|assumption) only[steps,st2,pev,rev,oev,optr,ibin,sbin,ishf,bound,mmAll,mm2,mk,mkArgs,AV.cells,AV.boxable,AV.one,AV.strip1,fillA,fillS,Nat.reduceEqDiff,reduceCtorEq,↓reduceIte,Nat.reduceAdd,Int.reduceNeg,Nat.reduceLeDiff,Int.reduceToNat,Int.reduceEq,Int.reduceLT,Int.reduceLE,Int.reduceAdd]
  exact hQ _ _ H' H' [_] nofun rfl (Low.refl _) (fin [_,_] o' H' (by unfold yM;rw[if_neg (by omega),if_pos h3]) hs)
 ·have g1:¬ ((n:Int)≤2047):=by omega
  by_cases h4:n≤65535
  ·by_cases h5:n<55296
   ·have g2:((n:Int)<55296)=True:=eq_true (by omega)
    simp(disch:=first|omega|assumption) only[ir268,e1,g1,g2,steps,st2,pev,rev,oev,optr,ibin,sbin,ishf,bound,mmAll,mm2,mk,mkArgs,AV.cells,AV.boxable,AV.one,AV.strip1,fillA,fillS,Nat.reduceEqDiff,reduceCtorEq,↓reduceIte,Nat.reduceAdd,Int.reduceNeg,Nat.reduceLeDiff,Int.reduceToNat,Int.reduceEq,Int.reduceLT,Int.reduceLE,Int.reduceAdd,Io,Im,If,Il,Jt,Jf,AC.rg,Jm,Jl,Ja,Fm,Fl,Fa,Imv,Imb,Iai,Iei,Igi,Isi,Ipf,Ipt,Ilb,Iia,Ilt,Iap,Ink,Iln,Ils,Iad,Iex,Ibx,Ing]
    simp only[fd6,zlK,zll (show n / 4096<16 by omega),zkv]
    refine goP_ownS ho' (by simp[hal];omega) (by simp[hal,maxLen];omega) fun o' H' hs=>?_
    simp(disch:=first|omega|assumption) only[steps,st2,pev,rev,oev,optr,ibin,sbin,ishf,bound,mmAll,mm2,mk,mkArgs,AV.cells,AV.boxable,AV.one,AV.strip1,fillA,fillS,Nat.reduceEqDiff,reduceCtorEq,↓reduceIte,Nat.reduceAdd,Int.reduceNeg,Nat.reduceLeDiff,Int.reduceToNat,Int.reduceEq,Int.reduceLT,Int.reduceLE,Int.reduceAdd]
    exact hQ _ _ H' H' [_] nofun rfl (Low.refl _) (fin [_,_,_] o' H' (by unfold yM;rw[if_neg (by omega),if_neg h3,if_pos h4]) hs)
   ·have g2:¬ ((n:Int)<55296):=by omega
    have g3:((57343:Int)<n)=True:=eq_true (by omega)
    have g4:((n:Int)≤65535)=True:=eq_true (by omega)
    simp(disch:=first|omega|assumption) only[ir268,e1,g1,g2,g3,g4,steps,st2,pev,rev,oev,optr,ibin,sbin,ishf,bound,mmAll,mm2,mk,mkArgs,AV.cells,AV.boxable,AV.one,AV.strip1,fillA,fillS,Nat.reduceEqDiff,reduceCtorEq,↓reduceIte,Nat.reduceAdd,Int.reduceNeg,Nat.reduceLeDiff,Int.reduceToNat,Int.reduceEq,Int.reduceLT,Int.reduceLE,Int.reduceAdd,Io,Im,If,Il,Jt,Jf,AC.rg,Jm,Jl,Ja,Fm,Fl,Fa,Imv,Imb,Iai,Iei,Igi,Isi,Ipf,Ipt,Ilb,Iia,Ilt,Iap,Ink,Iln,Ils,Iad,Iex,Ibx,Ing]
    simp only[fd6,zlK,zll (show n / 4096<16 by omega),zkv]
    refine goP_ownS ho' (by simp[hal];omega) (by simp[hal,maxLen];omega) fun o' H' hs=>?_
    simp(disch:=first|omega|assumption) only[steps,st2,pev,rev,oev,optr,ibin,sbin,ishf,bound,mmAll,mm2,mk,mkArgs,AV.cells,AV.boxable,AV.one,AV.strip1,fillA,fillS,Nat.reduceEqDiff,reduceCtorEq,↓reduceIte,Nat.reduceAdd,Int.reduceNeg,Nat.reduceLeDiff,Int.reduceToNat,Int.reduceEq,Int.reduceLT,Int.reduceLE,Int.reduceAdd]
    exact hQ _ _ H' H' [_] nofun rfl (Low.refl _) (fin [_,_,_] o' H' (by unfold yM;rw[if_neg (by omega),if_neg h3,if_pos h4]) hs)
  ·have g2:¬ ((n:Int)<55296):=by omega
   have g3:((57343:Int)<n)=True:=eq_true (by omega)
   have g4:¬ ((n:Int)≤65535):=by omega
   have g5:((65535:Int)<n)=True:=eq_true (by omega)
   have g6:((n:Int)≤1114111)=True:=eq_true (by omega)
   simp(disch:=first|omega|assumption) only[ir268,e1,g1,g2,g3,g4,g5,g6,steps,st2,pev,rev,oev,optr,ibin,sbin,ishf,bound,mmAll,mm2,mk,mkArgs,AV.cells,AV.boxable,AV.one,AV.strip1,fillA,fillS,Nat.reduceEqDiff,reduceCtorEq,↓reduceIte,Nat.reduceAdd,Int.reduceNeg,Nat.reduceLeDiff,Int.reduceToNat,Int.reduceEq,Int.reduceLT,Int.reduceLE,Int.reduceAdd,Io,Im,If,Il,Jt,Jf,AC.rg,Jm,Jl,Ja,Fm,Fl,Fa,Imv,Imb,Iai,Iei,Igi,Isi,Ipf,Ipt,Ilb,Iia,Ilt,Iap,Ink,Iln,Ils,Iad,Iex,Ibx,Ing]
   simp only[fd6,zlK,zm2,zmK (show n / 262144<8 by omega),zkv]
   refine goP_ownS ho' (by simp[hal];omega) (by simp[hal,maxLen];omega) fun o' H' hs=>?_
   simp(disch:=first|omega|assumption) only[steps,st2,pev,rev,oev,optr,ibin,sbin,ishf,bound,mmAll,mm2,mk,mkArgs,AV.cells,AV.boxable,AV.one,AV.strip1,fillA,fillS,Nat.reduceEqDiff,reduceCtorEq,↓reduceIte,Nat.reduceAdd,Int.reduceNeg,Nat.reduceLeDiff,Int.reduceToNat,Int.reduceEq,Int.reduceLT,Int.reduceLE,Int.reduceAdd]
   exact hQ _ _ H' H' [_] nofun rfl (Low.refl _) (fin [_,_,_,_] o' H' (by unfold yM;rw[if_neg (by omega),if_neg h3,if_neg h4]) hs)
theorem zeR (n:Nat) (h1:n≤1114111) (h2:¬ (55296≤n∧n≤57343)) (acc:List UInt8) (H:Heap) (o:Own) (ho:Owned H o acc.length 1) (hb:acc.length≤Lim) :
  zeN Tryz.prog 247 [.sl o 1 (bytesOf acc),.int .i32 n] H o 1 (bytesOf (acc++yM n)):=by
 refine ACalls.goO ir247 ck247 (Al4 _) fun KP Q hQ hP=>?_
 have e1:=zmv (n:=n) (by omega)
 have hal:=zr acc
 by_cases h3:n≤127
 ·have g1:((n:Int)≤127)=True:=eq_true (by omega)
  have g2:IntKind.wrap .u8 (n:Int)=((UInt8.ofNat n).toNat:Int):=by rw[wr8];simp
  simp only[Lim] at hb
  simp(disch:=first|omega|assumption) only[ir247,e1,g1,g2,go_sem]
  refine goP_ownS (by rw[hal];exact ho) (by simp[hal];omega) (by simp[hal,maxLen];omega) fun o' H' hs=>?_
  simp(disch:=first|omega|assumption) only[go_sem]
  refine hQ _ _ H' H' [_] nofun rfl (Low.refl _) ⟨o',?_,?_⟩
  ·have:yM n=[UInt8.ofNat n]:=by unfold yM;rw[if_pos h3]
   rw[this];exact congrArg _ (YG _ _)
  ·have:yM n=[UInt8.ofNat n]:=by unfold yM;rw[if_pos h3]
   rw[this,zr];simpa[hal] using hs
 ·have g1:¬ ((n:Int)≤127):=by omega
  simp(disch:=first|omega|assumption) only[ir247,e1,g1,go_sem]
  refine yB (zlE n (by omega) h1 h2 acc H o ho hb) fun o' H' hs=>?_
  simp(disch:=first|omega|assumption) only[go_sem]
  exact hQ _ _ H' H' [_] nofun rfl (Low.refl _) ⟨o',rfl,hs⟩
theorem zmD:∀ x:Fin 256,IntKind.wrap .u8 ((BitVec.ofInt IntKind.u8.bits ((x.val:Nat):Int) ||| BitVec.ofInt IntKind.u8.bits 32).toNat:Int)=((UInt8.ofNat x.val ||| 32).toNat:Int):=by decide +kernel
theorem znd (c:UInt8):IntKind.wrap .u8 ((BitVec.ofInt IntKind.u8.bits (c.toNat:Int) ||| BitVec.ofInt IntKind.u8.bits 32).toNat:Int)=((c ||| 32).toNat:Int):=by
 have:=zmD ⟨c.toNat,c.toNat_lt⟩
 simpa using this
theorem zjw (l:List UInt8) (c:UInt8):-1≤Lib.indexByte l c∧Lib.indexByte l c<l.length:=by
 induction l with
 | nil=>simp[Lib.indexByte]
 | cons x r ih =>
  simp only[Lib.indexByte,Al2]
  split
  ·omega
  ·split
   ·omega
   ·omega
theorem zmr (s:List UInt8) (hs:s.length≤Lim):Pure Tryz.prog 219 [.str s] (.tup [.int .i64 ((Z8 s).getD 0:Nat),.bool (Z8 s).isSome]):=by
 refine Pure.go ir219 ck219 (Al4 _) fun KP Q hQ=>?_
 simp only[Lim] at hs
 by_cases h4:s.length<4
 ·have g1:((s.length:Int)<4)=True:=eq_true (by omega)
  have:Z8 s=none:=by
   cases h:Z8 s with
   | none=>rfl
   | some u=>have:=za4 _ _ _ _ h;omega
  simp(disch:=first|omega|assumption) only[ir219,g1,steps,st2,pev,rev,oev,optr,ibin,sbin,ishf,bound,mmAll,mm2,mk,mkArgs,AV.cells,AV.boxable,AV.one,AV.strip1,fillA,fillS,Nat.reduceEqDiff,reduceCtorEq,↓reduceIte,Nat.reduceAdd,Int.reduceNeg,Nat.reduceLeDiff,Int.reduceToNat,Int.reduceEq,Int.reduceLT,Int.reduceLE,Int.reduceAdd,Io,Im,If,Il,Jt,Jf,AC.rg,Jm,Jl,Ja,Fm,Fl,Fa,Imv,Imb,Iai,Iei,Igi,Isi,Ipf,Ipt,Ilb,Iia,Ilt,Iap,Ink,Iln,Ils,Iad,Iex,Ibx,Ing]
  exact hQ _ _ _ _ nofun rfl (by simp[tupOf,envOf,AV.strip,AV.strip1,this])
 ·have g1:¬ ((s.length:Int)<4):=by omega
  obtain⟨l,r,hl,hsr⟩:∃ l r:List UInt8,l.length=4∧s=l++r:=⟨s.take 4,s.drop 4,by simp;omega,by simp⟩
  have hl':(l.length:Int)=4:=by omega
  have key:∀(a b:List UInt8) (u:Nat),l=a++b→ZX b.length (b++r) u=ZX (4-a.length) (s.drop a.length) u:=fun a b u h=>by
   have:a.length+b.length=4:=by rw[← hl,h];simp
   rw[hsr,h,Yj,List.drop_left];congr 1;omega
  simp(disch:=first|omega|assumption) only[ir219,g1,steps,st2,pev,rev,oev,optr,ibin,sbin,ishf,bound,mmAll,mm2,mk,mkArgs,AV.cells,AV.boxable,AV.one,AV.strip1,fillA,fillS,Nat.reduceEqDiff,reduceCtorEq,↓reduceIte,Nat.reduceAdd,Int.reduceNeg,Nat.reduceLeDiff,Int.reduceToNat,Int.reduceEq,Int.reduceLT,Int.reduceLE,Int.reduceAdd,Io,Im,If,Il,Jt,Jf,AC.rg,Jm,Jl,Ja,Fm,Fl,Fa,Imv,Imb,Iai,Iei,Igi,Isi,Ipf,Ipt,Ilb,Iia,Ilt,Iap,Ink,Iln,Ils,Iad,Iex,Ibx,Ing]
  refine goL_range l 10 (fun u:Nat=>[(4,.int .i64 u)]) (fun done rest u H=>ZX rest.length (rest++r) u=Z8 s∧u<16 ^ done.length∧H=Heap.emp) 0 (by simp(disch:=first|omega|assumption) only[steps,st2,pev,rev,oev,optr,ibin,sbin,ishf,bound,mmAll,mm2,mk,mkArgs,AV.cells,AV.boxable,AV.one,AV.strip1,fillA,fillS,Nat.reduceEqDiff,reduceCtorEq,↓reduceIte,Nat.reduceAdd,Int.reduceNeg,Nat.reduceLeDiff,Int.reduceToNat,Int.reduceEq,Int.reduceLT,Int.reduceLE,Int.reduceAdd]) ⟨by rw[hl,← hsr];rfl,by simp,rfl⟩ ?_ ?_
  ·rintro u H J ⟨hu,_,rfl⟩ hlt
   simp only[Al3,ZX] at hu
   simp(disch:=first|omega|assumption) only[hl',steps,st2,pev,rev,oev,optr,ibin,sbin,ishf,bound,mmAll,mm2,mk,mkArgs,AV.cells,AV.boxable,AV.one,AV.strip1,fillA,fillS,Nat.reduceEqDiff,reduceCtorEq,↓reduceIte,Nat.reduceAdd,Int.reduceNeg,Nat.reduceLeDiff,Int.reduceToNat,Int.reduceEq,Int.reduceLT,Int.reduceLE,Int.reduceAdd]
   exact hQ _ _ _ _ nofun rfl (by simp[tupOf,envOf,AV.strip,AV.strip1,← hu])
  ·rintro done c rest u H J hd hlt hlt2 ⟨hu,hb,rfl⟩ hJ
   have hd4:done.length<4:=by omega
   have hlt':(done.length:Int)<4:=by omega
   have hlt3:(done.length:Int)<s.length:=by omega
   have hg:s.getD done.length 0=c:=by rw[hsr,hd];simp
   have hpow:16 ^ done.length≤4096:=by
    have:done.length≤3:=by omega
    calc 16 ^ done.length≤16 ^ 3:=Nat.pow_le_pow_right (by decide) this
     _=4096:=rfl
   simp only[Al2,Al6,ZX] at hu
   have hidx:=zjw hexL (c ||| 32)
   have hc:=c.toNat_lt
   simp only[hexL,Al2,Al3] at hidx
   simp(disch:=first|omega|assumption) only[hlt',hlt3,hg,znd,steps,st2,pev,rev,oev,optr,ibin,sbin,ishf,bound,mmAll,mm2,mk,mkArgs,AV.cells,AV.boxable,AV.one,AV.strip1,fillA,fillS,Nat.reduceEqDiff,reduceCtorEq,↓reduceIte,Nat.reduceAdd,Int.reduceNeg,Nat.reduceLeDiff,Int.reduceToNat,Int.reduceEq,Int.reduceLT,Int.reduceLE,Int.reduceAdd]
   refine goK_pure (zdx hexL (c ||| 32)) ?_
   have no:hexD c=none→(Z8 s)=none:=fun e=>by rw[e] at hu;exact hu.symm
   by_cases n1:Lib.indexByte hexL (c ||| 32)<0
   ·have e:hexD c=none:=by unfold hexD;rw[if_pos (.inl n1)]
    simp(disch:=first|omega|assumption) only[n1,steps,st2,pev,rev,oev,optr,ibin,sbin,ishf,bound,mmAll,mm2,mk,mkArgs,AV.cells,AV.boxable,AV.one,AV.strip1,fillA,fillS,Nat.reduceEqDiff,reduceCtorEq,↓reduceIte,Nat.reduceAdd,Int.reduceNeg,Nat.reduceLeDiff,Int.reduceToNat,Int.reduceEq,Int.reduceLT,Int.reduceLE,Int.reduceAdd]
    exact hQ _ _ _ _ nofun rfl (by simp[tupOf,envOf,AV.strip,AV.strip1,no e])
   obtain⟨k,hk⟩:∃ k:Nat,Lib.indexByte hexL (c ||| 32)=(k:Int):=⟨(Lib.indexByte hexL (c ||| 32)).toNat,by omega⟩
   have hk16:k<16:=by rw[show Lib.indexByte [48,49,50,51,52,53,54,55,56,57,97,98,99,100,101,102] (c ||| 32)=(k:Int) from hk] at hidx;omega
   have hu4:u<4096:=by omega
   have hkn:¬ ((k:Int)<0):=by omega
   have hnext:hexD c=some k→ZX rest.length (rest++r) (16*u+k)=Z8 s∧16*u+k<16 ^ (done++[c]).length∧Heap.emp=Heap.emp:=fun e=>by
    rw[e] at hu
    refine⟨hu,?_,rfl⟩
    rw[Al5,Al2,Al3,Nat.pow_succ];omega
   have hpush:((16*u+k:Nat):Int)=16*(u:Int)+k:=by omega
   by_cases n2:c.toNat<48
   ·have e:hexD c=none:=by unfold hexD;rw[if_pos (.inr (.inl n2))]
    have n2':((c.toNat:Int)<48)=True:=eq_true (by omega)
    simp(disch:=first|omega|assumption) only[hk,hkn,n2',hlt3,hg,steps,st2,pev,rev,oev,optr,ibin,sbin,ishf,bound,mmAll,mm2,mk,mkArgs,AV.cells,AV.boxable,AV.one,AV.strip1,fillA,fillS,Nat.reduceEqDiff,reduceCtorEq,↓reduceIte,Nat.reduceAdd,Int.reduceNeg,Nat.reduceLeDiff,Int.reduceToNat,Int.reduceEq,Int.reduceLT,Int.reduceLE,Int.reduceAdd]
    exact hQ _ _ _ _ nofun rfl (by simp[tupOf,envOf,AV.strip,AV.strip1,no e])
   have n2':¬ ((c.toNat:Int)<48):=by omega
   by_cases n3:57<c.toNat
   ·have n3':((57:Int)<c.toNat)=True:=eq_true (by omega)
    by_cases n4:c.toNat<65
    ·have e:hexD c=none:=by unfold hexD;rw[if_pos (.inr (.inr ⟨n3,n4⟩))]
     have n4':((c.toNat:Int)<65)=True:=eq_true (by omega)
     simp(disch:=first|omega|assumption) only[hk,hkn,n2',n3',n4',hlt3,hg,steps,st2,pev,rev,oev,optr,ibin,sbin,ishf,bound,mmAll,mm2,mk,mkArgs,AV.cells,AV.boxable,AV.one,AV.strip1,fillA,fillS,Nat.reduceEqDiff,reduceCtorEq,↓reduceIte,Nat.reduceAdd,Int.reduceNeg,Nat.reduceLeDiff,Int.reduceToNat,Int.reduceEq,Int.reduceLT,Int.reduceLE,Int.reduceAdd]
     exact hQ _ _ _ _ nofun rfl (by simp[tupOf,envOf,AV.strip,AV.strip1,no e])
    ·have e:hexD c=some k:=by unfold hexD;rw[if_neg (by omega),hk];rfl
     have n4':¬ ((c.toNat:Int)<65):=by omega
     simp(disch:=first|omega|assumption) only[hk,hkn,n2',n3',n4',hlt3,hg,wrap64,steps,st2,pev,rev,oev,optr,ibin,sbin,ishf,bound,mmAll,mm2,mk,mkArgs,AV.cells,AV.boxable,AV.one,AV.strip1,fillA,fillS,Nat.reduceEqDiff,reduceCtorEq,↓reduceIte,Nat.reduceAdd,Int.reduceNeg,Nat.reduceLeDiff,Int.reduceToNat,Int.reduceEq,Int.reduceLT,Int.reduceLE,Int.reduceAdd]
     refine goJ (hJ (16*u+k) _ (hnext e)) (by simp(disch:=first|omega|assumption) only[hpush,steps,st2,pev,rev,oev,optr,ibin,sbin,ishf,bound,mmAll,mm2,mk,mkArgs,AV.cells,AV.boxable,AV.one,AV.strip1,fillA,fillS,Nat.reduceEqDiff,reduceCtorEq,↓reduceIte,Nat.reduceAdd,Int.reduceNeg,Nat.reduceLeDiff,Int.reduceToNat,Int.reduceEq,Int.reduceLT,Int.reduceLE,Int.reduceAdd])
   ·have e:hexD c=some k:=by unfold hexD;rw[if_neg (by omega),hk];rfl
    have n3':¬ ((57:Int)<c.toNat):=by omega
    simp(disch:=first|omega|assumption) only[hk,hkn,n2',n3',hlt3,hg,wrap64,steps,st2,pev,rev,oev,optr,ibin,sbin,ishf,bound,mmAll,mm2,mk,mkArgs,AV.cells,AV.boxable,AV.one,AV.strip1,fillA,fillS,Nat.reduceEqDiff,reduceCtorEq,↓reduceIte,Nat.reduceAdd,Int.reduceNeg,Nat.reduceLeDiff,Int.reduceToNat,Int.reduceEq,Int.reduceLT,Int.reduceLE,Int.reduceAdd]
    refine goJ (hJ (16*u+k) _ (hnext e)) (by simp(disch:=first|omega|assumption) only[hpush,steps,st2,pev,rev,oev,optr,ibin,sbin,ishf,bound,mmAll,mm2,mk,mkArgs,AV.cells,AV.boxable,AV.one,AV.strip1,fillA,fillS,Nat.reduceEqDiff,reduceCtorEq,↓reduceIte,Nat.reduceAdd,Int.reduceNeg,Nat.reduceLeDiff,Int.reduceToNat,Int.reduceEq,Int.reduceLT,Int.reduceLE,Int.reduceAdd])
def cU (l:List Nat):List (List AV):=l.map fun(n:Nat)=>[AV.int .i64 (n:Int)]
theorem zeT (l:List Nat):(cU l).length=l.length:=by simp[cU]
theorem zjs (l:List Nat):(cU l).map (·.map AV.strip1)=cU l:=by simp[cU,AV.strip1]
theorem zmu (us:List Nat) (hl:us.length≤68719476736):Pure Tryz.prog 220 [.sl .no 1 (cU us)] (.tup [.str ((zt us).getD []),.bool (zt us).isSome]):=by
 refine Pure.go ir220 ck220 (Al4 _) fun KP Q hQ=>?_
 have hll:=zeT us
 simp(disch:=first|omega|assumption) only[ir220,go_sem]
 refine goL_st (fun s:List Nat×List Nat×Own×List UInt8=>[(4,.sl s.2.2.1 1 (bytesOf s.2.2.2)),(5,.int .i64 s.1.length)]) (fun s H=>us=s.1++s.2.1∧zt us=(zt s.2.1).map (s.2.2.2++·)∧s.2.2.2.length≤2*s.1.length*2∧Owned H s.2.2.1 s.2.2.2.length 1) (fun s=>s.2.1.length) ([],us,.nil,[]) (by simp(disch:=first|omega|assumption) only[go_sem];rfl) ⟨rfl,by cases zt us<;>rfl,by simp,rfl⟩ ?_
 rintro⟨done,rest,o,out⟩ H J ⟨hd,hj,hle,ho⟩ hJ
 simp only at hd hj hle ho
 have hdl:done.length+rest.length=us.length:=by rw[hd];simp
 cases rest with
 | nil =>
  simp only[List.append_nil] at hd
  have hlt:¬ ((done.length:Int)<us.length):=by rw[hd];omega
  simp(disch:=first|omega|assumption) only[hll,hlt,go_sem]
  simp only[zt,z8,List.append_nil] at hj
  simp(disch:=first|omega|assumption) only[zcH,go_sem]
  exact hQ _ _ _ _ nofun rfl (by simp[tupOf,envOf,AV.strip,AV.strip1,hj])
 | cons u r =>
  have hlt:((done.length:Int)<us.length):=by simp at hdl;omega
  have hg:(cU us).getD done.length []=[.int .i64 u]:=by rw[hd];simp[cU]
  have hu0:¬ ((u:Int)<0):=by omega
  have hrl:r.length+1+done.length=us.length:=by simp at hdl;omega
  have none_of:zt (u::r)=none→zt us=none:=fun e=>by rw[hj,e];rfl
  have hmax:maxLen=9223372036854775807:=rfl
  by_cases a1:65535<u
  ·have e:=none_of (by rw[zt.eq_def];simp only;rw[if_pos (.inl a1)])
   have a1':((65535:Int)<u)=True:=eq_true (by omega)
   simp(disch:=first|omega|assumption) only[hll,hlt,hg,hu0,a1',go_sem]
   exact hQ _ _ _ _ nofun rfl (by simp[tupOf,envOf,AV.strip,AV.strip1,e])
  have a1':¬ ((65535:Int)<u):=by omega
  by_cases a2:56320≤u∧u≤57343
  ·have e:=none_of (by rw[zt.eq_def];simp only;rw[if_pos (.inr a2)])
   have a2':((56320:Int)≤u)=True:=eq_true (by omega)
   have a3':((u:Int)≤57343)=True:=eq_true (by omega)
   simp(disch:=first|omega|assumption) only[hll,hlt,hg,hu0,a1',a2',a3',go_sem]
   exact hQ _ _ _ _ nofun rfl (by simp[tupOf,envOf,AV.strip,AV.strip1,e])
  by_cases a3:55296≤u∧u<56320
  ·have b1:¬ ((56320:Int)≤u):=by omega
   have b2:((55296:Int)≤u)=True:=eq_true (by omega)
   have b3:((u:Int)<56320)=True:=eq_true (by omega)
   cases r with
   | nil =>
    have e:=none_of (by rw[zt.eq_def];simp only;rw[if_neg (by omega),if_pos a3])
    have b4:((done.length:Int)+1=us.length)=True:=eq_true (by simp at hrl;omega)
    simp(disch:=first|omega|assumption) only[hll,hlt,hg,hu0,a1',b1,b2,b3,wrap64,b4,go_sem]
    exact hQ _ _ _ _ nofun rfl (by simp[tupOf,envOf,AV.strip,AV.strip1,e])
   | cons v r =>
    have b4:¬ ((done.length:Int)+1=us.length):=by simp at hrl;omega
    have b5:((done.length:Int)+1<us.length):=by simp at hrl;omega
    have b6:((done.length:Int)+1).toNat=done.length+1:=by omega
    have hg2:(cU us).getD (done.length+1) []=[.int .i64 v]:=by rw[hd];simp[cU]
    by_cases c1:v<56320
    ·have e:=none_of (by rw[zt.eq_def];simp only;rw[if_neg (by omega),if_pos a3,if_pos (.inl c1)])
     have c1':((v:Int)<56320)=True:=eq_true (by omega)
     simp(disch:=first|omega|assumption) only[hll,hlt,hg,hu0,a1',b1,b2,b3,wrap64,b4,b5,b6,hg2,c1',go_sem]
     exact hQ _ _ _ _ nofun rfl (by simp[tupOf,envOf,AV.strip,AV.strip1,e])
    have c1':¬ ((v:Int)<56320):=by omega
    by_cases c2:57343<v
    ·have e:=none_of (by rw[zt.eq_def];simp only;rw[if_neg (by omega),if_pos a3,if_pos (.inr c2)])
     have c2':((57343:Int)<v)=True:=eq_true (by omega)
     simp(disch:=first|omega|assumption) only[hll,hlt,hg,hu0,a1',b1,b2,b3,wrap64,b4,b5,b6,hg2,c1',c2',go_sem]
     exact hQ _ _ _ _ nofun rfl (by simp[tupOf,envOf,AV.strip,AV.strip1,e])
    have c2':¬ ((57343:Int)<v):=by omega
    have ej:zt (u::v::r)=(zt r).map (yM (65536+1024*(u-55296)+(v-56320))++·):=by rw[zt.eq_def];simp only;rw[if_neg (by omega),if_pos a3,if_neg (by omega)]
    obtain⟨m,hm⟩:∃ m,65536+1024*(u-55296)+(v-56320)=m:=⟨_,rfl⟩
    rw[hm] at ej
    have hm2:(65536+1024*((u:Int)-55296)+v-56320)=(m:Int):=by omega
    have hm3:=(zaE m).1
    simp(disch:=first|omega|assumption) only[hll,hlt,hg,hu0,a1',b1,b2,b3,wrap64,b4,b5,b6,hg2,c1',c2',hm2,zj0 (show m<2147483648 by omega),go_sem]
    refine yB (zeR m (by omega) (by omega) out _ o ho (by simp only[Lim];omega)) fun o' H' hs=>?_
    simp(disch:=first|omega|assumption) only[wrap64,go_sem]
    have hown:=hs.own
    rw[zr] at hown
    have e5:(((done++[u,v]).length:Nat):Int)=(done.length:Int)+1+1:=by simp;omega
    refine goJ (hJ (done++[u,v],r,o',out++yM m) _ (by simp;omega) ⟨by simp[hd],?_,?_,hown⟩) (by simp(disch:=first|omega|assumption) only[e5,go_sem])
    ·simp only[hj,ej];cases zt r<;>simp
    ·simp;omega
  have ej:zt (u::r)=(zt r).map (yM u++·):=by
   rw[zt.eq_def];simp only;rw[if_neg (by omega),if_neg a3]
  have hm3:=(zaE u).1
  have e5:(((done++[u]).length:Nat):Int)=(done.length:Int)+1:=by simp
  by_cases h:u<55296
  ·have b1:¬ ((56320:Int)≤u):=by omega
   have b2:¬ ((55296:Int)≤u):=by omega
   simp(disch:=first|omega|assumption) only[hll,hlt,hg,hu0,a1',b1,b2,zj0 (show u<2147483648 by omega),go_sem]
   refine yB (zeR u (by omega) (by omega) out _ o ho (by simp only[Lim];omega)) fun o' H' hs=>?_
   simp(disch:=first|omega|assumption) only[wrap64,go_sem]
   have hown:=hs.own
   rw[zr] at hown
   refine goJ (hJ (done++[u],r,o',out++yM u) _ (by simp) ⟨by simp[hd],?_,?_,hown⟩) (by simp(disch:=first|omega|assumption) only[e5,go_sem])
   ·simp only[hj,ej];cases zt r<;>simp
   ·simp;omega
  ·have b1:((56320:Int)≤u)=True:=eq_true (by omega)
   have b2:¬ ((u:Int)≤57343):=by omega
   have b3:((55296:Int)≤u)=True:=eq_true (by omega)
   have b4:¬ ((u:Int)<56320):=by omega
   simp(disch:=first|omega|assumption) only[hll,hlt,hg,hu0,a1',b1,b2,b3,b4,zj0 (show u<2147483648 by omega),go_sem]
   refine yB (zeR u (by omega) (by omega) out _ o ho (by simp only[Lim];omega)) fun o' H' hs=>?_
   simp(disch:=first|omega|assumption) only[wrap64,go_sem]
   have hown:=hs.own
   rw[zr] at hown
   refine goJ (hJ (done++[u],r,o',out++yM u) _ (by simp) ⟨by simp[hd],?_,?_,hown⟩) (by simp(disch:=first|omega|assumption) only[e5,go_sem])
   ·simp only[hj,ej];cases zt r<;>simp
   ·simp;omega
abbrev YQ:Nat:=68719476736
theorem upd_upd (H:Heap) (b:Nat) (x y:AObj):(H.upd b x).upd b y=H.upd b y:=by
 funext c;by_cases e:c=b<;>simp[Heap.upd,e]
theorem yn {P:Program} {f:FuncId} {args:List AV} {H:Heap} {R RP:AV→Heap→Prop} (h:ACalls P f args H (fun e H'=>match e with|.ret v=>R v.strip H'|.pan v=>RP v H')) :
  ACalls P f args H (fun e H'=>match e with|.ret v=>R v H'|.pan v=>RP v H'):=by
 intro γ w vs ht hs hv
 refine(h γ w vs ht hs hv).mono fun e w' ⟨γ',H',r,h1,h2,h3,h4,h5⟩=>?_
 cases r with
 | ret v =>
  cases e with
  | returned u=>exact⟨γ',H',.ret v.strip,h1,h2,h3,Rep.strip h4,h5⟩
  | panicked ch=>exact h4.elim
  | outgrown=>exact h4.elim
 | pan v=>exact⟨γ',H',.pan v,h1,h2,h3,h4,h5⟩
theorem own_ne {H:Heap} {c b d n sz:Nat} {cs:List AV} (h:Owned H (.tip b d) n sz) (hc:H c=some (.cells cs)):b≠c:=fun e=>by
 subst e
 have:H b=some (.tip (d+n) sz):=h
 rw[hc] at this;cases this
theorem zL {H H':Heap} {o:Own} {n sz c:Nat} {cs:List AV} (h:Owned H o n sz) (hc:H c=some (.cells cs)) (hk:Kept H o H'):H' c=some (.cells cs) :=
 hk c _ hc fun d e=>by subst e;exact own_ne h hc rfl
theorem yN {H:Heap} {o:Own} {n sz c:Nat} {cs:List AV} {x:AObj} (h:Owned H o n sz) (hc:H c=some (.cells cs)):Owned (H.upd c x) o n sz:=by
 cases o with
 | tip b d=>have:=own_ne h hc;show (H.upd c x) b=_;rw[upd_ne this];exact h
 | no=>exact h
 | nil=>exact h
 | full=>exact h
structure SaidAt (H:Heap) (q:Nat) (x:Sd) (o o2:Own):Prop where
 hq:H q=some (.cells [.sl o 1 (bytesOf x.b),.sl o2 1 (cU x.u),.bool x.ok])
 ho:Owned H o x.b.length 1
 ho2:Owned H o2 x.u.length 1
 ne:∀ b d d2,o=.tip b d→o2≠.tip b d2
theorem zgW {H:Heap} {q:Nat} {x:Sd} {o o2:Own} (hs:SaidAt H q x o o2) (hw:x.w≤YQ) :
  ACalls Tryz.prog 177 [.ptr q 0] H (fun e H'=>∃ v,e=.ret v∧(v=.tup []∧∃ o',SaidAt H' q (yo x) o' .nil)):=by
 refine ACalls.go ir177 ck177 (Al4 _) fun KP Q hQ=>?_
 obtain⟨hq,ho,ho2,hne⟩:=hs
 have hbl:=zr x.b
 simp only[YQ,Sd.w] at hw
 simp(disch:=first|omega|assumption) only[ir177,hq,go_sem]
 refine goK_pure (Pure.low (zmu x.u (by omega))) ?_
 have hfw:=zbE x
 simp only[yo,Sd.w,Al5] at hfw
 simp(disch:=first|omega|assumption) only[hq,go_sem]
 refine goP_ownS (by rw[hbl];exact ho) (by simp[zr];omega) (by simp[maxLen,zr];omega) fun o' H1 hs=>?_
 have h1:H1 q=some (.cells [.sl o 1 (bytesOf x.b),.sl o2 1 (cU x.u),.bool x.ok]):=zL ho hq hs.kept
 have hown:=hs.own
 simp only[Al5,zr] at hown
 cases hok:x.ok
 ·rw[hok] at h1
  simp(disch:=first|omega|assumption) only[h1,yJ,zZ,go_sem]
  refine hQ _ _ _ _ _ nofun rfl (Low.refl _) ⟨rfl,o',?_,?_,rfl,nofun⟩
  ·simp[yo,hok,upd_same,cU,zZ,yJ]
  ·simp only[yo,Al5]
   exact yN hown h1
 ·rw[hok] at h1
  simp(disch:=first|omega|assumption) only[h1,yJ,zZ,go_sem]
  refine hQ _ _ _ _ _ nofun rfl (Low.refl _) ⟨rfl,o',?_,?_,rfl,nofun⟩
  ·simp[yo,hok,upd_same,cU,zZ,yJ]
  ·simp only[yo,Al5]
   exact yN hown h1
def zgH (H':Heap) (q:Nat) (x:Sd) (s:List UInt8) (v:AV):Prop:=match Ye x s with
 | none=>v=.int .i64 0
 | some (x',t')=>v=.int .i64 ((s.length-t'.length:Nat):Int)∧∃ o o2,SaidAt H' q x' o o2
theorem zm9 {H:Heap} {q:Nat} {x:Sd} {o o2:Own} (hs:SaidAt H q x o o2) (hw:x.w≤YQ) (s:List UInt8) (hl:s.length≤Lim) :
  ACalls Tryz.prog 176 [.ptr q 0,.str s] H (fun e H'=>∃ v,e=.ret v∧zgH H' q x s v):=by
 refine ACalls.go ir176 ck176 (Al4 _) fun KP Q hQ=>?_
 have hs0:=hs
 obtain⟨hq,ho,ho2,hne⟩:=hs
 have hul:=zeT x.u
 have hw0:=hw
 simp only[YQ,Sd.w] at hw
 simp only[Lim] at hl
 simp(disch:=first|omega|assumption) only[ir176,go_sem]
 refine goK_pure (Yt s [117]) ?_
 cases s with
 | nil =>
  simp(disch:=first|omega|assumption) only[List.isPrefixOf,go_sem]
  exact hQ _ _ _ _ [_] nofun rfl (Low.refl _) (by simp[zgH,Ye,tupOf,envOf,AV.strip,AV.strip1])
 | cons c t =>
  simp only[Al2] at hl
  by_cases hc:c=117
  ·subst hc
   have hp:[117].isPrefixOf ((117:UInt8)::t)=true:=rfl
   have h1:((1:Int)≤((t.length+1:Nat):Int))=True:=eq_true (by omega)
   simp(disch:=first|omega|assumption) only[hp,h1,go_sem]
   refine goK_pure (zmr t (by simp only[Lim];omega)) ?_
   cases hu:Z8 t with
   | none =>
    simp(disch:=first|omega|assumption) only[Option.isSome_none,go_sem]
    exact hQ _ _ _ _ [_] nofun rfl (Low.refl _) (by simp[zgH,Ye,hu,tupOf,envOf,AV.strip,AV.strip1])
   | some u =>
    have h4:=za4 _ _ _ _ hu
    simp(disch:=first|omega|assumption) only[Option.isSome_some,Option.getD_some,hq,go_sem]
    refine goP_ownS (by rw[hul];exact ho2) (by simp[hul];omega) (by simp[maxLen,hul];omega) fun o' H1 hs1=>?_
    have h2:=zL ho2 hq hs1.kept
    simp(disch:=first|omega|assumption) only[h2,zjs,go_sem]
    refine hQ _ _ _ _ [_] nofun rfl (Low.refl _) ?_
    have hsp:=Sep.step (a:=[(o,x.b.length,1)]) (b:=[]) (n:=x.u.length) (n':=x.u.length+1) (sz:=1) ⟨by intro y hy;simp at hy;rcases hy with rfl|rfl<;>assumption,?_⟩ (by simpa[hul] using hs1)
    ·simp only[zgH,Ye,if_true,hu,z8]
     refine⟨?_,o,o',?_,?_,?_,?_⟩
     ·show AV.int .i64 5=_
      simp only[Al2,Zv]
      congr 1;omega
     ·simp[upd_same,cU]
     ·exact yN (hsp.own (o,x.b.length,1) (by simp)) h2
     ·simp only[Al5,Al2,Al3]
      exact yN (hsp.own (o',x.u.length+1,1) (by simp)) h2
     ·intro b d d2 e1 e2
      have:=hsp.nd
      simp[e1,e2,Yb] at this
    ·cases h5:Yb o with
     | none=>cases h6:Yb o2<;>simp[h5,h6]
     | some b =>
      obtain⟨d,h7⟩:=Y8 h5
      cases h6:Yb o2 with
      | none=>simp[h5,h6]
      | some b2 =>
       obtain⟨d2,h8⟩:=Y8 h6
       simp only[Al6,Zh,List.filterMap_cons,List.filterMap_nil,h5,h6,List.nodup_cons,List.mem_singleton,List.not_mem_nil,not_false_eq_true,List.nodup_nil,and_true]
       rintro rfl
       exact hne b d d2 h7 h8
  ·have hp:[117].isPrefixOf (c::t)=false:=by
    simp only[List.isPrefixOf,Bool.and_true,beq_eq_false_iff_ne,ne_eq];exact fun e=>hc e.symm
   have hcl:¬ (c::t=[]):=by simp
   have h1:((0:Int)<((t.length+1:Nat):Int))=True:=eq_true (by omega)
   simp(disch:=first|omega|assumption) only[hp,hcl,h1,go_sem]
   refine goK_pure (zdx zdN c) ?_
   have hidx:=zjw zdN c
   by_cases hk:Lib.indexByte zdN c<0
   ·simp(disch:=first|omega|assumption) only[hk,go_sem]
    exact hQ _ _ _ _ [_] nofun rfl (Low.refl _) (by simp[zgH,Ye,hc,hk,tupOf,envOf,AV.strip,AV.strip1])
   ·obtain⟨k,hk2⟩:∃ k:Nat,Lib.indexByte zdN c=(k:Int):=⟨(Lib.indexByte zdN c).toNat,by omega⟩
    have hk8:k<8:=by simp[zdN] at hidx;rw[show Lib.indexByte [34,92,47,98,102,110,114,116] c=(k:Int) from hk2] at hidx;omega
    have hk0:¬ ((k:Int)<0):=by omega
    simp(disch:=first|omega|assumption) only[hk2,hk0,go_sem]
    refine goK_ret (zgW hs0 hw0) fun v H1 ⟨hv,o',hs1⟩=>?_
    subst hv
    obtain⟨hq1,ho1,_,_⟩:=hs1
    have hfw:=zbE x
    have hbl:=zr (yo x).b
    simp only[Sd.w] at hfw
    have hk8':((k:Int)<8)=True:=eq_true (by omega)
    simp(disch:=first|omega|assumption) only[hq1,hk8',go_sem]
    refine goP_ownS (by rw[hbl];exact ho1) (by simp[hbl];omega) (by simp[maxLen,hbl];omega) fun o3 H2 hs3=>?_
    have hq2:=zL ho1 hq1 hs3.kept
    simp(disch:=first|omega|assumption) only[hq2,go_sem]
    refine hQ _ _ _ _ [_] nofun rfl (Low.refl _) ?_
    simp only[zgH,Ye,hc,if_false,hk2,hk0]
    refine⟨?_,o3,.nil,?_,?_,rfl,nofun⟩
    ·show AV.int .i64 1=_
     simp only[Al2]
     congr 1;omega
    ·simp only[upd_same,Sd.put,Int.toNat_natCast]
     rw[← zZ];rfl
    ·simp only[Sd.put,Al5,Al2,Al3]
     exact yN (by simpa[hbl] using hs3.own) hq2
def zf0 (may:UInt8→Bool) (t:List UInt8):AV:=match Yd may t with
 | some (b,t')=>.tup [.str b,.int .i64 ((t.length+1-t'.length:Nat):Int)]
 | none=>.tup [.str [],.int .i64 0]
theorem zkq (f : FuncId) (hf : Program.callable Tryz.prog f = true) (may : UInt8 → Bool) (hmay : ∀ c : UInt8, Pure Tryz.prog f [.int .u8 c.toNat] (.bool (may c))) (a : UInt8) (t : List UInt8) (hl : t.length + 1 ≤ YQ) :
    Pure Tryz.prog 120 [.str (a :: t), .clo f [] []] (zf0 may t) := by
  refine Pure.go ir120 ck120 (Al4 _) fun KP Q hQ => ?_
  simp only [YQ] at hl
  simp (disch := first | omega | assumption) only [ir120, go_sem]
  refine goA_intro fun q hq => ?_
  simp (disch := first | omega | assumption) only [go_sem]
  obtain ⟨R, hR⟩ : ∃ R, YS may (t.length + 1) t ⟨[], [], true⟩ = R := ⟨_, rfl⟩
  have fail : R = none → zf0 may t = .tup [.str [], .int .i64 0] := fun e => by unfold zf0 Yd; rw [hR, e]
  refine goL_st (fun s : List UInt8 × Sd × Own × Own => [(7, .int .i64 ((t.length + 1 - s.1.length : Nat) : Int))])
    (fun s H => s.1 <:+ t ∧ (∃ n, s.1.length < n ∧ YS may n s.1 s.2.1 = R) ∧ s.2.1.w + s.1.length ≤ t.length ∧ SaidAt H q s.2.1 s.2.2.1 s.2.2.2) (fun s => s.1.length) (t, ⟨[], [], true⟩, .nil, .nil)
    (by have : (t.length + 1 - t.length : Nat) = 1 := by omega
        simp (disch := first | omega | assumption) only [this, go_sem]) ⟨List.suffix_refl _, ⟨t.length + 1, by simp, hR⟩, by simp [Sd.w], upd_same .., rfl, rfl, nofun⟩ ?_
  rintro ⟨rest, x, o, o2⟩ H J ⟨hsuf, ⟨n, hn, hg⟩, hw, hs⟩ hJ
  simp only at hsuf hn hg hw hs
  have hrl := hsuf.length_le
  obtain ⟨n, rfl⟩ : ∃ k, n = k + 1 := ⟨n - 1, by omega⟩
  cases rest with
  | nil =>
    have e0 : R = none := by rw [← hg]; rfl
    have h0 : t.length + 1 - 0 = t.length + 1 := rfl
    have h1 : (((t.length + 1 : Nat) : Int) ≤ ((t.length + 1 : Nat) : Int)) = True := eq_true (Int.le_refl _)
    simp (disch := first | omega | assumption) only [h0, h1, go_sem]
    exact hQ _ _ _ _ nofun rfl (by simp [tupOf, envOf, AV.strip, AV.strip1, fail e0])
  | cons c r =>
    obtain ⟨p, hp⟩ := hsuf
    have hpl : t.length = p.length + (r.length + 1) := by rw [← hp]; simp
    have h0 : t.length + 1 - (r.length + 1) = p.length + 1 := by omega
    have h1 : ¬ (((t.length + 1 : Nat) : Int) ≤ ((p.length + 1 : Nat) : Int)) := by omega
    have h2 : (((p.length + 1 : Nat) : Int) < ((t.length + 1 : Nat) : Int)) = True := eq_true (by omega)
    have hi : (a :: t).getD (p.length + 1) 0 = c := by rw [← hp]; simp
    have hi1 : (((p.length + 1 : Nat) : Int) + 1) = ((p.length + 1 + 1 : Nat) : Int) := by omega
    have hsr : r <:+ t := ⟨p ++ [c], by rw [← hp]; simp⟩
    simp only [YS] at hg
    simp only [Al2] at hw hn
    have hx : x.w ≤ YQ := by simp only [YQ]; omega
    by_cases c1 : c = 34
    · subst c1
      simp only [if_true] at hg
      have hc : (((34 : UInt8).toNat : Int) = 34) = True := eq_true rfl
      simp (disch := first | omega | assumption) only [h0, h1, h2, hi, hc, go_sem]
      refine goK_ret (zgW hs hx) fun v H1 ⟨hv, o', hs1⟩ => ?_
      subst hv
      have hq := hs1.hq
      cases hok : (yo x).ok
      · rw [hok] at hq
        have e0 : Yd may t = none := by unfold Yd; rw [hR, ← hg]; simp [hok]
        simp (disch := first | omega | assumption) only [hq, go_sem]
        exact hQ _ _ _ _ nofun rfl (by simp [tupOf, envOf, AV.strip, AV.strip1, zf0, e0])
      · rw [hok] at hq
        have e0 : Yd may t = some ((yo x).b, r) := by unfold Yd; rw [hR, ← hg]; simp [hok]
        simp (disch := first | omega | assumption) only [hq, zcH, wrap64, go_sem]
        have e1 : (p.length : Int) + 1 + 1 = ((t.length + 1 - r.length : Nat) : Int) := by omega
        exact hQ _ _ _ _ nofun rfl (by simp [tupOf, envOf, AV.strip, AV.strip1, zf0, e0, e1])
    have c1' : ¬ ((c.toNat : Int) = 34) := fun e => c1 (by apply UInt8.toNat_inj.1; show c.toNat = 34; omega)
    rw [if_neg c1] at hg
    by_cases c2 : c = 92
    · subst c2
      simp only [if_true] at hg
      have hc : ¬ (((92 : UInt8).toNat : Int) = 34) := by decide
      have hc2 : (((92 : UInt8).toNat : Int) = 92) = True := eq_true rfl
      have h3 : (((p.length + 1 : Nat) : Int) + 1 ≤ ((t.length + 1 : Nat) : Int)) = True := eq_true (by omega)
      have h4 : (((p.length + 1 : Nat) : Int) + 1).toNat = p.length + 2 := by omega
      have hdr : (a :: t).drop (p.length + 2) = r := by rw [← hp]; simp
      simp (disch := first | omega | assumption) only [h0, h1, h2, hi, hc, hc2, wrap64, h3, h4, hdr, go_sem]
      refine goK_ret (zm9 hs hx r (by simp only [Lim]; omega)) fun v H1 he => ?_
      unfold zgH at he
      cases hm : Ye x r with
      | none =>
        rw [hm] at he hg
        subst he
        simp (disch := first | omega | assumption) only [go_sem]
        exact hQ _ _ _ _ nofun rfl (by simp [tupOf, envOf, AV.strip, AV.strip1, fail hg.symm])
      | some y =>
        obtain ⟨x', t'⟩ := y
        rw [hm] at he hg
        obtain ⟨hv, o3, o4, hs3⟩ := he
        subst hv
        have h5 := zbV hm
        have h6 := zjF hm
        have h7 : ¬ (((r.length - t'.length : Nat) : Int) = 0) := by omega
        have h8 : ((p.length + 1 : Nat) : Int) + (1 + ((r.length - t'.length : Nat) : Int)) = ((t.length + 1 - t'.length : Nat) : Int) := by omega
        simp (disch := first | omega | assumption) only [h7, wrap64, h8, go_sem]
        exact goJ (hJ (t', x', o3, o4) _ (by simp; omega) ⟨h5.1.trans hsr, ⟨n, by show t'.length < n; omega, hg⟩, by show x'.w + t'.length ≤ t.length; omega, hs3⟩) (by simp (disch := first | omega | assumption) only [go_sem])
    have c2' : ¬ ((c.toNat : Int) = 92) := fun e => c2 (by apply UInt8.toNat_inj.1; show c.toNat = 92; omega)
    rw [if_neg c2] at hg
    simp (disch := first | omega | assumption) only [h0, h1, h2, hi, c1', c2', hf, go_sem]
    refine goK_pure (hmay c) ?_
    cases hm : may c
    · rw [hm] at hg
      simp (disch := first | omega | assumption) only [go_sem]
      exact hQ _ _ _ _ nofun rfl (by simp [tupOf, envOf, AV.strip, AV.strip1, fail hg.symm])
    · rw [hm] at hg
      simp only [if_true] at hg
      simp (disch := first | omega | assumption) only [go_sem]
      refine goK_ret (zgW hs hx) fun v H1 ⟨hv, o', hs1⟩ => ?_
      subst hv
      obtain ⟨hq1, ho1, _, _⟩ := hs1
      have hfw := zbE x
      have hpw := zjj x c
      have hbl := zr (yo x).b
      simp (disch := first | omega | assumption) only [hq1, h2, hi, go_sem]
      refine goP_ownS (by rw [hbl]; exact ho1) (by simp [hbl]; omega) (by simp [maxLen, hbl]; omega) fun o3 H2 hs3 => ?_
      have hq2 := zL ho1 hq1 hs3.kept
      simp (disch := first | omega | assumption) only [hq2, wrap64, go_sem]
      have h8 : ((p.length + 1 : Nat) : Int) + 1 = ((t.length + 1 - r.length : Nat) : Int) := by omega
      refine goJ (hJ (r, x.put c, o3, .nil) _ (by simp) ⟨hsr, ⟨n, by show r.length < n; omega, hg⟩, by show (x.put c).w + r.length ≤ t.length; omega, ?_, ?_, rfl, nofun⟩) (by simp (disch := first | omega | assumption) only [h8, go_sem])
      · simp only [upd_same, Sd.put]
        rw [← zZ]; rfl
      · simp only [Sd.put, Al5, Al2, Al3]
        exact yN (by simpa [hbl] using hs3.own) hq2
open Go.Lib
theorem zfw {P:UInt8→Prop} (h:∀ x:Fin 256,P (UInt8.ofNat x.val)) (c:UInt8):P c:=by
 have:=h ⟨c.toNat,c.toNat_lt⟩
 simpa using this
end Go.Proofs.YtaielcdfcgpbiaaGreatDoor
namespace Go.Proofs.YtaielcdfcgpbiaaGreatDoor
open Go.Ab
end Go.Proofs.YtaielcdfcgpbiaaGreatDoor
