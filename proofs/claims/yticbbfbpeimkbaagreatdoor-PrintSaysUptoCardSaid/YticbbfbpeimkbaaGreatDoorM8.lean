import Derived.Lib.ValidLaws
import Derived.Test.YticbbfbpeimkbaaGreatDoorM1
import Derived.Test.YticbbfbpeimkbaaGreatDoorM2
import Derived.Test.YticbbfbpeimkbaaGreatDoorM3
import Derived.Test.YticbbfbpeimkbaaGreatDoorM4
import Derived.Test.YticbbfbpeimkbaaGreatDoorM5
import Derived.Test.YticbbfbpeimkbaaGreatDoorM6
import Derived.Test.YticbbfbpeimkbaaGreatDoorM7
set_option maxRecDepth 100000
set_option linter.all false
namespace Go.Proofs.YticbbfbpeimkbaaGreatDoor
open Go.Ab
theorem zhk:∀ v,bV v≤Lim→zo Tryz.prog 293 [.agg (cV v)] (.bool (z6 v)):=by
 refine Val.ind fun k n s l m ihl ihm hb=>?_
 have hb':1+s.length+bVs l+bMs m≤Lim:=hb
 have hll:=Zj l
 have hml:=yI m
 have h1:=yZ l
 have h2:=yC m
 have hsl:s.length≤Lim:=by omega
 simp only[Lim] at hb'
 refine zo.go ir293 ck293 (Al4 _) fun KP Q hQ=>?_
 by_cases k0:k=0
 ·subst k0
  by_cases n0:n=0
  case neg =>
   simp(disch:=first|omega|assumption) only[ir293,zE,h1,h2,n0,go_sem]
   exact hQ _ _ _ _ nofun rfl (by simp[ze,zd,AV.strip,AV.strip1,z6,yl,zu,zS,n0])
  subst n0
  by_cases hl:(0:Int)<l.length
  ·have hl2:¬ l.length=0:=by omega
   have hl3:l≠[]:=fun e=>by subst e;simp at hl2
   simp(disch:=first|omega|assumption) only[ir293,zE,h1,h2,hl,go_sem]
   exact hQ _ _ _ _ nofun rfl (by simp[ze,zd,AV.strip,AV.strip1,z6,yl,zu,zS,hl2,hl3])
  have hl2:l=[]:=List.eq_nil_of_length_eq_zero (by omega)
  by_cases hm:(0:Int)<m.length
  ·have hm2:¬ m.length=0:=by omega
   have hm3:m≠[]:=fun e=>by subst e;simp at hm2
   simp(disch:=first|omega|assumption) only[ir293,zE,h1,h2,hl,hm,go_sem]
   exact hQ _ _ _ _ nofun rfl (by simp[ze,zd,AV.strip,AV.strip1,z6,yl,zu,zS,hl2,hm2,hm3])
  have hm2:m=[]:=List.eq_nil_of_length_eq_zero (by omega)
  by_cases s0:s=[]
  case neg =>
   simp(disch:=first|omega|assumption) only[ir293,zE,h1,h2,hl,hm,s0,go_sem]
   exact hQ _ _ _ _ nofun rfl (by simp[ze,zd,AV.strip,AV.strip1,z6,yl,zu,zS,hl2,hm2,s0])
  subst s0
  simp(disch:=first|omega|assumption) only[ir293,zE,h1,h2,hl,hm,go_sem]
  exact hQ _ _ _ _ nofun rfl (by simp[ze,zd,AV.strip,AV.strip1,z6,yl,zu,zS,hl2,hm2])
 by_cases k1:k=1
 ·subst k1
  by_cases hl:(0:Int)<l.length
  ·have hl2:¬ l.length=0:=by omega
   have hl3:l≠[]:=fun e=>by subst e;simp at hl2
   simp(disch:=first|omega|assumption) only[ir293,zE,h1,h2,hl,go_sem]
   exact hQ _ _ _ _ nofun rfl (by simp[ze,zd,AV.strip,AV.strip1,z6,yl,zu,zS,hl2,hl3])
  have hl2:l=[]:=List.eq_nil_of_length_eq_zero (by omega)
  by_cases hm:(0:Int)<m.length
  ·have hm2:¬ m.length=0:=by omega
   have hm3:m≠[]:=fun e=>by subst e;simp at hm2
   simp(disch:=first|omega|assumption) only[ir293,zE,h1,h2,hl,hm,go_sem]
   exact hQ _ _ _ _ nofun rfl (by simp[ze,zd,AV.strip,AV.strip1,z6,yl,zu,zS,hl2,hm2,hm3])
  have hm2:m=[]:=List.eq_nil_of_length_eq_zero (by omega)
  by_cases s0:s=[]
  case neg =>
   simp(disch:=first|omega|assumption) only[ir293,zE,h1,h2,hl,hm,s0,go_sem]
   exact hQ _ _ _ _ nofun rfl (by simp[ze,zd,AV.strip,AV.strip1,z6,yl,zu,zS,hl2,hm2,s0])
  subst s0
  by_cases n0:n=0
  ·subst n0
   simp(disch:=first|omega|assumption) only[ir293,zE,h1,h2,hl,hm,go_sem]
   exact hQ _ _ _ _ nofun rfl (by simp[ze,zd,AV.strip,AV.strip1,z6,yl,zu,zS,hl2,hm2])
  by_cases n1:n=1
  ·subst n1
   simp(disch:=first|omega|assumption) only[ir293,zE,h1,h2,hl,hm,go_sem]
   exact hQ _ _ _ _ nofun rfl (by simp[ze,zd,AV.strip,AV.strip1,z6,yl,zu,zS,hl2,hm2])
  simp(disch:=first|omega|assumption) only[ir293,zE,h1,h2,hl,hm,n0,n1,go_sem]
  exact hQ _ _ _ _ nofun rfl (by simp[ze,zd,AV.strip,AV.strip1,z6,yl,zu,zS,hl2,hm2,n0,n1])
 by_cases k2:k=2
 ·subst k2
  by_cases hl:(0:Int)<l.length
  ·have hl2:¬ l.length=0:=by omega
   have hl3:l≠[]:=fun e=>by subst e;simp at hl2
   simp(disch:=first|omega|assumption) only[ir293,zE,h1,h2,hl,go_sem]
   exact hQ _ _ _ _ nofun rfl (by simp[ze,zd,AV.strip,AV.strip1,z6,yl,zu,zS,hl2,hl3])
  have hl2:l=[]:=List.eq_nil_of_length_eq_zero (by omega)
  by_cases hm:(0:Int)<m.length
  ·have hm2:¬ m.length=0:=by omega
   have hm3:m≠[]:=fun e=>by subst e;simp at hm2
   simp(disch:=first|omega|assumption) only[ir293,zE,h1,h2,hl,hm,go_sem]
   exact hQ _ _ _ _ nofun rfl (by simp[ze,zd,AV.strip,AV.strip1,z6,yl,zu,zS,hl2,hm2,hm3])
  have hm2:m=[]:=List.eq_nil_of_length_eq_zero (by omega)
  by_cases s0:s=[]
  case neg =>
   simp(disch:=first|omega|assumption) only[ir293,zE,h1,h2,hl,hm,s0,go_sem]
   exact hQ _ _ _ _ nofun rfl (by simp[ze,zd,AV.strip,AV.strip1,z6,yl,zu,zS,hl2,hm2,s0])
  subst s0
  simp(disch:=first|omega|assumption) only[ir293,zE,h1,h2,hl,hm,go_sem]
  exact hQ _ _ _ _ nofun rfl (by simp[ze,zd,AV.strip,AV.strip1,z6,yl,zu,zS,hl2,hm2])
 by_cases k3:k=3
 ·subst k3
  by_cases n0:n=0
  case neg =>
   simp(disch:=first|omega|assumption) only[ir293,zE,h1,h2,n0,go_sem]
   exact hQ _ _ _ _ nofun rfl (by simp[ze,zd,AV.strip,AV.strip1,z6,yl,zu,zS,n0])
  subst n0
  by_cases hl:(0:Int)<l.length
  ·have hl2:¬ l.length=0:=by omega
   have hl3:l≠[]:=fun e=>by subst e;simp at hl2
   simp(disch:=first|omega|assumption) only[ir293,zE,h1,h2,hl,go_sem]
   exact hQ _ _ _ _ nofun rfl (by simp[ze,zd,AV.strip,AV.strip1,z6,yl,zu,zS,hl2,hl3])
  have hl2:l=[]:=List.eq_nil_of_length_eq_zero (by omega)
  by_cases hm:(0:Int)<m.length
  ·have hm2:¬ m.length=0:=by omega
   have hm3:m≠[]:=fun e=>by subst e;simp at hm2
   simp(disch:=first|omega|assumption) only[ir293,zE,h1,h2,hl,hm,go_sem]
   exact hQ _ _ _ _ nofun rfl (by simp[ze,zd,AV.strip,AV.strip1,z6,yl,zu,zS,hl2,hm2,hm3])
  have hm2:m=[]:=List.eq_nil_of_length_eq_zero (by omega)
  simp(disch:=first|omega|assumption) only[ir293,zE,h1,h2,hl,hm,go_sem]
  have hcl:=zgT s
  refine zc (zdf s hsl) ?_
  by_cases s0:s=[]
  ·simp(disch:=first|omega|assumption) only[s0,go_sem]
   simp only[s0,ne_eq,not_true_eq_false,decide_false,Bool.false_and] at hcl
   exact hQ _ _ _ _ nofun rfl (by simp[ze,zd,AV.strip,AV.strip1,z6,yl,zu,zS,hl2,hm2,s0,← hcl])
  by_cases z:ZR s=0
  ·simp(disch:=first|omega|assumption) only[s0,z,go_sem]
   simp only[z,ne_eq,not_true_eq_false,decide_false,Bool.false_and,Bool.and_false] at hcl
   exact hQ _ _ _ _ nofun rfl (by simp[ze,zd,AV.strip,AV.strip1,z6,yl,zu,zS,hl2,hm2,← hcl])
  simp(disch:=first|omega|assumption) only[s0,z,go_sem]
  refine zc (zml s hsl) ?_
  have e1:decide (s≠[])=true:=by simpa using s0
  have e2:decide (ZR s≠0)=true:=by simpa using z
  rw[e1,e2,Bool.true_and,Bool.true_and] at hcl
  by_cases f:ZR s=4
  ·simp(disch:=first|omega|assumption) only[f,go_sem]
   rw[decide_eq_true f,Bool.true_or] at hcl
   exact hQ _ _ _ _ nofun rfl (by simp[ze,zd,AV.strip,AV.strip1,z6,yl,zu,zS,hl2,hm2,← hcl])
  ·simp(disch:=first|omega|assumption) only[f,go_sem]
   rw[decide_eq_false f,Bool.false_or] at hcl
   exact hQ _ _ _ _ nofun rfl (by simp[ze,zd,AV.strip,AV.strip1,z6,yl,zu,zS,hl2,hm2,← hcl])
 by_cases k4:k=4
 ·subst k4
  by_cases n0:n=0
  case neg =>
   simp(disch:=first|omega|assumption) only[ir293,zE,h1,h2,n0,go_sem]
   exact hQ _ _ _ _ nofun rfl (by simp[ze,zd,AV.strip,AV.strip1,z6,yl,zu,zS,n0])
  subst n0
  by_cases hl:(0:Int)<l.length
  ·have hl2:¬ l.length=0:=by omega
   have hl3:l≠[]:=fun e=>by subst e;simp at hl2
   simp(disch:=first|omega|assumption) only[ir293,zE,h1,h2,hl,go_sem]
   exact hQ _ _ _ _ nofun rfl (by simp[ze,zd,AV.strip,AV.strip1,z6,yl,zu,zS,hl2,hl3])
  have hl2:l=[]:=List.eq_nil_of_length_eq_zero (by omega)
  by_cases hm:(0:Int)<m.length
  ·have hm2:¬ m.length=0:=by omega
   have hm3:m≠[]:=fun e=>by subst e;simp at hm2
   simp(disch:=first|omega|assumption) only[ir293,zE,h1,h2,hl,hm,go_sem]
   exact hQ _ _ _ _ nofun rfl (by simp[ze,zd,AV.strip,AV.strip1,z6,yl,zu,zS,hl2,hm2,hm3])
  have hm2:m=[]:=List.eq_nil_of_length_eq_zero (by omega)
  simp(disch:=first|omega|assumption) only[ir293,zE,h1,h2,hl,hm,go_sem]
  refine zc (zjT s hsl) ?_
  simp(disch:=first|omega|assumption) only[go_sem]
  exact hQ _ _ _ _ nofun rfl (by simp[ze,zd,AV.strip,AV.strip1,z6,yl,zu,zS,hl2,hm2])
 by_cases k5:k=5
 ·subst k5
  by_cases n0:n=0
  case neg =>
   simp(disch:=first|omega|assumption) only[ir293,zE,h1,h2,n0,go_sem]
   exact hQ _ _ _ _ nofun rfl (by simp[ze,zd,AV.strip,AV.strip1,z6,yl,zu,zS,n0])
  subst n0
  by_cases hl:(0:Int)<l.length
  ·have hl2:¬ l.length=0:=by omega
   have hl3:l≠[]:=fun e=>by subst e;simp at hl2
   simp(disch:=first|omega|assumption) only[ir293,zE,h1,h2,hl,go_sem]
   exact hQ _ _ _ _ nofun rfl (by simp[ze,zd,AV.strip,AV.strip1,z6,yl,zu,zS,hl2,hl3])
  have hl2:l=[]:=List.eq_nil_of_length_eq_zero (by omega)
  by_cases hm:(0:Int)<m.length
  ·have hm2:¬ m.length=0:=by omega
   have hm3:m≠[]:=fun e=>by subst e;simp at hm2
   simp(disch:=first|omega|assumption) only[ir293,zE,h1,h2,hl,hm,go_sem]
   exact hQ _ _ _ _ nofun rfl (by simp[ze,zd,AV.strip,AV.strip1,z6,yl,zu,zS,hl2,hm2,hm3])
  have hm2:m=[]:=List.eq_nil_of_length_eq_zero (by omega)
  simp(disch:=first|omega|assumption) only[ir293,zE,h1,h2,hl,hm,go_sem]
  refine zc (ZC s hsl) ?_
  cases hn:zJ s with
  | false =>
   simp(disch:=first|omega|assumption) only[hn,go_sem]
   exact hQ _ _ _ _ nofun rfl (by simp[ze,zd,AV.strip,AV.strip1,z6,yl,zu,zS,hl2,hm2,hn])
  | true =>
   by_cases r1:s=[116,114,117,101]
   ·simp(disch:=first|omega|assumption) only[hn,r1,go_sem]
    exact hQ _ _ _ _ nofun rfl (by simp[ze,zd,AV.strip,AV.strip1,z6,yl,zu,zS,hl2,hm2,hn,zeb,r1])
   by_cases r2:s=[102,97,108,115,101]
   ·have q:¬ ([102,97,108,115,101]:List UInt8)=[116,114,117,101]:=by decide
    simp(disch:=first|omega|assumption) only[hn,r2,q,go_sem]
    exact hQ _ _ _ _ nofun rfl (by simp[ze,zd,AV.strip,AV.strip1,z6,yl,zu,zS,hl2,hm2,hn,zeb,r2])
   by_cases r3:s=[110,117,108,108]
   ·have q:¬ ([110,117,108,108]:List UInt8)=[116,114,117,101]:=by decide
    have q2:¬ ([110,117,108,108]:List UInt8)=[102,97,108,115,101]:=by decide
    simp(disch:=first|omega|assumption) only[hn,r3,q,q2,go_sem]
    exact hQ _ _ _ _ nofun rfl (by simp[ze,zd,AV.strip,AV.strip1,z6,yl,zu,zS,hl2,hm2,hn,zeb,r3])
   simp(disch:=first|omega|assumption) only[hn,r1,r2,r3,go_sem]
   exact hQ _ _ _ _ nofun rfl (by simp[ze,zd,AV.strip,AV.strip1,z6,yl,zu,zS,hl2,hm2,hn,zeb,r1,r2,r3])
 by_cases k8:k=8
 ·subst k8
  by_cases n0:n=0
  case neg =>
   simp(disch:=first|omega|assumption) only[ir293,zE,h1,h2,n0,go_sem]
   exact hQ _ _ _ _ nofun rfl (by simp[ze,zd,AV.strip,AV.strip1,z6,yl,zu,zS,n0])
  subst n0
  by_cases hl:(0:Int)<l.length
  ·have hl2:¬ l.length=0:=by omega
   have hl3:l≠[]:=fun e=>by subst e;simp at hl2
   simp(disch:=first|omega|assumption) only[ir293,zE,h1,h2,hl,go_sem]
   exact hQ _ _ _ _ nofun rfl (by simp[ze,zd,AV.strip,AV.strip1,z6,yl,zu,zS,hl2,hl3])
  have hl2:l=[]:=List.eq_nil_of_length_eq_zero (by omega)
  by_cases hm:(0:Int)<m.length
  ·have hm2:¬ m.length=0:=by omega
   have hm3:m≠[]:=fun e=>by subst e;simp at hm2
   simp(disch:=first|omega|assumption) only[ir293,zE,h1,h2,hl,hm,go_sem]
   exact hQ _ _ _ _ nofun rfl (by simp[ze,zd,AV.strip,AV.strip1,z6,yl,zu,zS,hl2,hm2,hm3])
  have hm2:m=[]:=List.eq_nil_of_length_eq_zero (by omega)
  simp(disch:=first|omega|assumption) only[ir293,zE,h1,h2,hl,hm,go_sem]
  refine zc (ZC s hsl) ?_
  simp(disch:=first|omega|assumption) only[go_sem]
  exact hQ _ _ _ _ nofun rfl (by simp[ze,zd,AV.strip,AV.strip1,z6,yl,zu,zS,hl2,hm2])
 by_cases k6:k=6
 ·subst k6
  by_cases n0:n=0
  case neg =>
   simp(disch:=first|omega|assumption) only[ir293,zE,h1,h2,n0,go_sem]
   exact hQ _ _ _ _ nofun rfl (by simp[ze,zd,AV.strip,AV.strip1,z6,yl,zu,zS,n0])
  subst n0
  by_cases hm:(0:Int)<m.length
  ·have hm2:¬ m.length=0:=by omega
   have hm3:m≠[]:=fun e=>by subst e;simp at hm2
   simp(disch:=first|omega|assumption) only[ir293,zE,h1,h2,hm,go_sem]
   exact hQ _ _ _ _ nofun rfl (by simp[ze,zd,AV.strip,AV.strip1,z6,yl,zu,zS,hm2,hm3])
  have hm2:m=[]:=List.eq_nil_of_length_eq_zero (by omega)
  by_cases s0:s=[]
  case neg =>
   simp(disch:=first|omega|assumption) only[ir293,zE,h1,h2,hm,s0,go_sem]
   exact hQ _ _ _ _ nofun rfl (by simp[ze,zd,AV.strip,AV.strip1,z6,yl,zu,zS,hm2,s0])
  subst s0
  simp(disch:=first|omega|assumption) only[ir293,zE,h1,h2,hm,go_sem]
  refine zm l 6 (fun _:Unit=>[]) (fun done rest _ H=>YF Lib.validD rest=YF Lib.validD l) () (by simp(disch:=first|omega|assumption) only[go_sem]) rfl ?_ ?_
  ·rintro _ H J hn hlt
   simp only[YF] at hn
   simp(disch:=first|omega|assumption) only[h1,hlt,go_sem]
   exact hQ _ _ _ _ nofun rfl (by simp[ze,zd,AV.strip,AV.strip1,z6,yl,zu,zS,hm2,← hn])
  ·rintro done x rest _ H J hd hlt _ hn hJ
   have hg:=Zb hd
   have hbm:=ZY done x rest
   rw[← hd] at hbm
   simp only[YF] at hn
   simp(disch:=first|omega|assumption) only[zi,zf,zb,zj,zg,za,zk,h1,hlt,hg,go_sem]
   refine zc (ihl x (by rw[hd];simp) (by simp only[Lim];omega)) ?_
   have eg:z6 x=yl Lib.validD x:=rfl
   rw[eg]
   cases hx:yl Lib.validD x with
   | true =>
    simp only[hx,Bool.true_and] at hn
    simp(disch:=first|omega|assumption) only[hx,go_sem]
    exact goJ (hJ () _ hn) (by simp(disch:=first|omega|assumption) only[wrap64,go_sem])
   | false =>
    simp only[hx,Bool.false_and] at hn
    simp(disch:=first|omega|assumption) only[hx,go_sem]
    exact hQ _ _ _ _ nofun rfl (by simp[ze,zd,AV.strip,AV.strip1,z6,yl,zu,zS,hm2,← hn])
 by_cases k7:k=7
 ·subst k7
  by_cases n0:n=0
  case neg =>
   simp(disch:=first|omega|assumption) only[ir293,zE,h1,h2,n0,go_sem]
   exact hQ _ _ _ _ nofun rfl (by simp[ze,zd,AV.strip,AV.strip1,z6,yl,zu,zS,n0])
  subst n0
  by_cases hl:(0:Int)<l.length
  ·have hl2:¬ l.length=0:=by omega
   have hl3:l≠[]:=fun e=>by subst e;simp at hl2
   simp(disch:=first|omega|assumption) only[ir293,zE,h1,h2,hl,go_sem]
   exact hQ _ _ _ _ nofun rfl (by simp[ze,zd,AV.strip,AV.strip1,z6,yl,zu,zS,hl2,hl3])
  have hl2:l=[]:=List.eq_nil_of_length_eq_zero (by omega)
  by_cases s0:s=[]
  case neg =>
   simp(disch:=first|omega|assumption) only[ir293,zE,h1,h2,hl,s0,go_sem]
   exact hQ _ _ _ _ nofun rfl (by simp[ze,zd,AV.strip,AV.strip1,z6,yl,zu,zS,hl2,s0])
  subst s0
  simp(disch:=first|omega|assumption) only[ir293,zE,h1,h2,hl,go_sem]
  refine zm m 7 (fun _:Unit=>[]) (fun done rest _ H=>YC Lib.validD rest=YC Lib.validD m) () (by simp(disch:=first|omega|assumption) only[go_sem]) rfl ?_ ?_
  ·rintro _ H J hn hlt
   simp only[YC] at hn
   simp(disch:=first|omega|assumption) only[h2,hlt,go_sem]
   exact hQ _ _ _ _ nofun rfl (by simp[ze,zd,AV.strip,AV.strip1,z6,yl,zu,zS,hl2,← hn])
  ·rintro done x rest _ H J hd hlt _ hn hJ
   have hg:=yT hd
   have hbm:=y6 done x rest
   rw[← hd] at hbm
   have hmem:x∈m:=by rw[hd];simp
   obtain⟨t,v⟩:=x
   simp only[YC,zk1,bM] at hn hbm
   simp(disch:=first|omega|assumption) only[zi,zf,zb,zj,zg,za,zk,h2,hlt,hg,go_sem]
   refine zc (zjT t (by simp only[Lim];omega)) ?_
   cases ht:Lib.validD t with
   | false =>
    simp only[ht,Bool.false_and] at hn
    simp(disch:=first|omega|assumption) only[zi,zf,zb,zj,zg,za,zk,ht,go_sem]
    exact hQ _ _ _ _ nofun rfl (by simp[ze,zd,AV.strip,AV.strip1,z6,yl,zu,zS,hl2,← hn])
   | true =>
    simp(disch:=first|omega|assumption) only[zi,zf,zb,zj,zg,za,zk,ht,h2,hlt,hg,go_sem]
    refine zc (ihm t v hmem (by simp only[Lim];omega)) ?_
    have eg:z6 v=yl Lib.validD v:=rfl
    rw[eg]
    cases hx:yl Lib.validD v with
    | true =>
     simp only[ht,hx,Bool.true_and] at hn
     simp(disch:=first|omega|assumption) only[hx,go_sem]
     exact goJ (hJ () _ hn) (by simp(disch:=first|omega|assumption) only[wrap64,go_sem])
    | false =>
     simp only[ht,hx,Bool.true_and,Bool.false_and] at hn
     simp(disch:=first|omega|assumption) only[hx,go_sem]
     exact hQ _ _ _ _ nofun rfl (by simp[ze,zd,AV.strip,AV.strip1,z6,yl,zu,zS,hl2,← hn])
 ·skip
  by_cases n0:n=0
  case neg =>
   simp(disch:=first|omega|assumption) only[ir293,zE,h1,h2,k0,k1,k2,k3,k4,k5,k8,k6,k7,n0,go_sem]
   exact hQ _ _ _ _ nofun rfl (by simp[ze,zd,AV.strip,AV.strip1,z6,yl,zu,zS,k0,k1,k2,k3,k4,k5,k8,k6,k7,n0])
  subst n0
  by_cases hl:(0:Int)<l.length
  ·have hl2:¬ l.length=0:=by omega
   have hl3:l≠[]:=fun e=>by subst e;simp at hl2
   simp(disch:=first|omega|assumption) only[ir293,zE,h1,h2,k0,k1,k2,k3,k4,k5,k8,k6,k7,hl,go_sem]
   exact hQ _ _ _ _ nofun rfl (by simp[ze,zd,AV.strip,AV.strip1,z6,yl,zu,zS,k0,k1,k2,k3,k4,k5,k8,k6,k7,hl2,hl3])
  have hl2:l=[]:=List.eq_nil_of_length_eq_zero (by omega)
  by_cases hm:(0:Int)<m.length
  ·have hm2:¬ m.length=0:=by omega
   have hm3:m≠[]:=fun e=>by subst e;simp at hm2
   simp(disch:=first|omega|assumption) only[ir293,zE,h1,h2,k0,k1,k2,k3,k4,k5,k8,k6,k7,hl,hm,go_sem]
   exact hQ _ _ _ _ nofun rfl (by simp[ze,zd,AV.strip,AV.strip1,z6,yl,zu,zS,k0,k1,k2,k3,k4,k5,k8,k6,k7,hl2,hm2,hm3])
  have hm2:m=[]:=List.eq_nil_of_length_eq_zero (by omega)
  simp(disch:=first|omega|assumption) only[ir293,zE,h1,h2,k0,k1,k2,k3,k4,k5,k8,k6,k7,hl,hm,go_sem]
  exact hQ _ _ _ _ nofun rfl (by simp[ze,zd,AV.strip,AV.strip1,z6,yl,zu,zS,k0,k1,k2,k3,k4,k5,k8,k6,k7,hl2,hm2])
theorem zcW:∀(s:List UInt8) (i:Nat),Yl s i=true→∀ c∈s,c.toNat<128
 | [],_,_,c,hc=>by cases hc
 | x::r,i,h,c,hc=>by
  simp only[Yl] at h
  split at h
  ·rename_i hx
   rcases List.mem_cons.1 hc with e|e
   ·subst e
    simp only[isL,isD,zdt,Al0,yv] at hx
    omega
   ·exact zcW r _ h c e
  ·cases h
theorem zg9 {s:List UInt8} (h:zJ s=true):Lib.validD s=true:=by
 simp only[zJ,Al0] at h
 rw[Lib.validD_ascii s.length s (fun b hb=>zcW s 0 h.1 b (by simpa using hb))]
 simp[Lib.validD,Lib.validGoD]
mutual
def ZT:Val→Bool
 | .mk _ _ _ l m=>Z2 l&&Z0 m
def Z2:List Val→Bool
 | []=>true
 | v::r=>ZT v&&Z2 r
def zgU:Mem→Bool
 | .mk s v=>zJ s&&ZT v
def Z0:List Mem→Bool
 | []=>true
 | x::r=>zgU x&&Z0 r
end
theorem zmT:∀ v,bV v≤Lim→zo Tryz.prog 294 [.agg (cV v)] (.bool (ZT v)):=by
 refine Val.ind fun k n s l m ihl ihm hb=>?_
 have hb':1+s.length+bVs l+bMs m≤Lim:=hb
 have hll:=Zj l
 have hml:=yI m
 have h1:=yZ l
 have h2:=yC m
 simp only[Lim] at hb'
 refine zo.go ir294 ck294 (Al4 _) fun KP Q hQ=>?_
 simp(disch:=first|omega|assumption) only[ir294,zE,go_sem]
 refine zm l 3 (fun _:Unit=>[]) (fun done rest _ H=>Z2 rest=Z2 l∧H=zh.emp) () (by simp(disch:=first|omega|assumption) only[go_sem]) ⟨rfl,rfl⟩ ?_ ?_
 ·rintro _ H J ⟨hn,rfl⟩ hlt
  simp only[Z2] at hn
  simp(disch:=first|omega|assumption) only[h1,hlt,go_sem]
  refine zm m 4 (fun _:Unit=>[]) (fun done rest _ H=>Z0 rest=Z0 m) () (by simp(disch:=first|omega|assumption) only[go_sem]) rfl ?_ ?_
  ·rintro _ H J hm hlt2
   simp only[Z0] at hm
   simp(disch:=first|omega|assumption) only[h2,hlt2,go_sem]
   exact hQ _ _ _ _ nofun rfl (by simp[ze,zd,AV.strip,AV.strip1,ZT,← hn,← hm])
  ·rintro done x rest _ H J hd hlt2 _ hm hJ
   have hg:=yT hd
   have hbm:=y6 done x rest
   rw[← hd] at hbm
   have hmem:x∈m:=by rw[hd];simp
   obtain⟨t,v⟩:=x
   simp only[Z0,zgU,bM] at hm hbm
   simp(disch:=first|omega|assumption) only[zi,zf,zb,zj,zg,za,zk,h2,hlt2,hg,go_sem]
   refine zc (ZC t (by simp only[Lim];omega)) ?_
   cases ht:zJ t with
   | false =>
    simp only[ht,Bool.false_and] at hm
    simp(disch:=first|omega|assumption) only[zi,zf,zb,zj,zg,za,zk,ht,go_sem]
    exact hQ _ _ _ _ nofun rfl (by simp[ze,zd,AV.strip,AV.strip1,ZT,← hn,← hm])
   | true =>
    simp(disch:=first|omega|assumption) only[zi,zf,zb,zj,zg,za,zk,ht,h2,hlt2,hg,go_sem]
    refine zc (ihm t v hmem (by simp only[Lim];omega)) ?_
    cases hx:ZT v with
    | true =>
     simp only[ht,hx,Bool.true_and] at hm
     simp(disch:=first|omega|assumption) only[hx,go_sem]
     exact goJ (hJ () _ hm) (by simp(disch:=first|omega|assumption) only[wrap64,go_sem])
    | false =>
     simp only[ht,hx,Bool.true_and,Bool.false_and] at hm
     simp(disch:=first|omega|assumption) only[hx,go_sem]
     exact hQ _ _ _ _ nofun rfl (by simp[ze,zd,AV.strip,AV.strip1,ZT,← hn,← hm])
 ·rintro done x rest _ H J hd hlt _ ⟨hn,rfl⟩ hJ
  have hg:=Zb hd
  have hbm:=ZY done x rest
  rw[← hd] at hbm
  simp only[Z2] at hn
  simp(disch:=first|omega|assumption) only[zi,zf,zb,zj,zg,za,zk,h1,hlt,hg,go_sem]
  refine zc (ihl x (by rw[hd];simp) (by simp only[Lim];omega)) ?_
  cases hx:ZT x with
  | true =>
   simp only[hx,Bool.true_and] at hn
   simp(disch:=first|omega|assumption) only[hx,go_sem]
   exact goJ (hJ () _ ⟨hn,rfl⟩) (by simp(disch:=first|omega|assumption) only[wrap64,go_sem])
  | false =>
   simp only[hx,Bool.false_and] at hn
   simp(disch:=first|omega|assumption) only[hx,go_sem]
   exact hQ _ _ _ _ nofun rfl (by simp[ze,zd,AV.strip,AV.strip1,ZT,← hn])
mutual
theorem zbP:∀ v,(z6 v&&ZT v)=yl zJ v
 | .mk k n s l m=>by
  have hl:=zcT l
  have hm:=zcG m
  unfold z6 at *
  simp only[yl,ZT]
  split
  ·cases hbm:zS n s [] m with
   | false=>simp
   | true =>
    obtain⟨_,_,_,rfl⟩:=Yy.1 hbm
    rw[← hl];simp[Z0]
  ·split
   ·cases hbm:zS n s l [] with
    | false=>simp
    | true =>
     obtain⟨_,_,rfl,_⟩:=Yy.1 hbm
     rw[← hm];simp[Z2]
   ·cases hs:zu k n s l m with
    | false=>rfl
    | true =>
     have:zS 0 [] l m=true:=by simp only[zu,Al0] at hs;exact hs.1
     obtain⟨_,_,rfl,rfl⟩:=Yy.1 this
     simp[Z2,Z0]
theorem zcT:∀ l,(YF Lib.validD l&&Z2 l)=YF zJ l
 | []=>rfl
 | v::r=>by
  have h1:=zbP v
  have h2:=zcT r
  unfold z6 at h1
  simp only[YF,Z2,← h1,← h2]
  cases yl Lib.validD v<;>cases YF Lib.validD r<;>cases ZT v<;>rfl
theorem zcG:∀ l,(YC Lib.validD l&&Z0 l)=YC zJ l
 | []=>rfl
 | .mk s v::r=>by
  have h1:=zbP v
  have h2:=zcG r
  unfold z6 at h1
  simp only[YC,Z0,zk1,zgU,← h1,← h2]
  cases hn:zJ s with
  | false=>simp
  | true =>
   rw[zg9 hn]
   cases yl Lib.validD v<;>cases YC Lib.validD r<;>cases ZT v<;>rfl
end
theorem zlc (v:Val) (hb:bV v≤Lim):zo Tryz.prog 242 [.agg (cV v)] (.bool (ZE v)):=by
 refine zo.go ir242 ck242 (Al4 _) fun KP Q hQ=>?_
 have hgn:=zbP v
 simp(disch:=first|omega|assumption) only[zi,zf,zb,zj,zg,za,zk,ir242,go_sem]
 refine zc (zhk v hb) ?_
 cases hg:z6 v with
 | false =>
  rw[hg,Bool.false_and] at hgn
  simp(disch:=first|omega|assumption) only[zi,zf,zb,zj,zg,za,zk,hg,go_sem]
  exact hQ _ _ _ _ nofun rfl (by simp[ze,zd,AV.strip,AV.strip1,ZE,← hgn])
 | true =>
  rw[hg,Bool.true_and] at hgn
  simp(disch:=first|omega|assumption) only[zi,zf,zb,zj,zg,za,zk,hg,go_sem]
  refine zc (zjI v hb) ?_
  by_cases hd:yG v≤16
  ·simp(disch:=first|omega|assumption) only[zi,zf,zb,zj,zg,za,zk,hd,go_sem]
   refine zc (zmT v hb) ?_
   simp(disch:=first|omega|assumption) only[go_sem]
   exact hQ _ _ _ _ nofun rfl (by simp[ze,zd,AV.strip,AV.strip1,ZE,← hgn,hd])
  ·simp(disch:=first|omega|assumption) only[zi,zf,zb,zj,zg,za,zk,hd,go_sem]
   exact hQ _ _ _ _ nofun rfl (by simp[ze,zd,AV.strip,AV.strip1,ZE,hd])
theorem zek (s : List UInt8) : zo Tryz.prog 238 [.str s] (.agg (cK ⟨2, s⟩)) := by
  refine zo.go ir238 ck238 (Al4 _) fun KP Q hQ => ?_
  simp (disch := first | omega | assumption) only [ir238, go_sem]
  first
  | exact hQ _ _ _ [.agg [.int .i64 2, .str s]] nofun (by simp (disch := first | omega | assumption) only [ir238, yH, Yt, go_sem]) rfl
  | (refine zv fun b hb => ?_
     simp (disch := first | omega | assumption) only [go_sem]
     exact hQ _ _ _ [.agg [.int .i64 2, .str s]] nofun (by simp (disch := first | omega | assumption) only [ir238, yH, Yt, go_sem]) rfl)
theorem zcw (s : List UInt8) : zo Tryz.prog 241 [.str s] (.agg (cK ⟨1, s⟩)) := by
  refine zo.go ir241 ck241 (Al4 _) fun KP Q hQ => ?_
  simp (disch := first | omega | assumption) only [ir241, go_sem]
  first
  | exact hQ _ _ _ [.agg [.int .i64 1, .str s]] nofun (by simp (disch := first | omega | assumption) only [ir241, yH, Yt, go_sem]) rfl
  | (refine zv fun b hb => ?_
     simp (disch := first | omega | assumption) only [go_sem]
     exact hQ _ _ _ [.agg [.int .i64 1, .str s]] nofun (by simp (disch := first | omega | assumption) only [ir241, yH, Yt, go_sem]) rfl)
theorem zj5:∀ v,wfV v→4*bV v≤Lim→zo Tryz.prog 145 [.agg (cV v)] (.sl .no 2 (cKs (yD v))):=by
 refine Val.ind fun k n s l m ihl ihm hw hb=>?_
 have hb':4*(1+s.length+bVs l+bMs m)≤Lim:=hb
 obtain⟨hn,hwl,hwm⟩:=hw
 have hll:=Zj l
 have hml:=yI m
 have h1:=yZ l
 have h2:=yC m
 simp only[Lim] at hb'
 have hsl:s.length≤Lim:=by simp only[Lim];omega
 refine zo.go ir145 ck145 (Al4 _) fun KP Q hQ=>?_
 by_cases k0:k=0
 ·subst k0
  simp(disch:=first|omega|assumption) only[ir145,zE,go_sem]
  refine zc (zek _) ?_
  simp(disch:=first|omega|assumption) only[cK,go_sem]
  exact hQ _ _ _ _ nofun rfl (by simp[ze,zd,AV.strip,AV.strip1,yD,cKs,cK])
 by_cases k1:k=1
 ·subst k1
  by_cases n1:n=1
  ·simp(disch:=first|omega|assumption) only[ir145,zE,n1,go_sem]
   refine zc (zek _) ?_
   simp(disch:=first|omega|assumption) only[cK,go_sem]
   exact hQ _ _ _ _ nofun rfl (by simp[ze,zd,AV.strip,AV.strip1,yD,cKs,cK,n1,boolT])
  ·simp(disch:=first|omega|assumption) only[ir145,zE,n1,go_sem]
   refine zc (zek _) ?_
   simp(disch:=first|omega|assumption) only[cK,go_sem]
   exact hQ _ _ _ _ nofun rfl (by simp[ze,zd,AV.strip,AV.strip1,yD,cKs,cK,n1,boolT])
 by_cases k2:k=2
 ·subst k2
  simp(disch:=first|omega|assumption) only[ir145,zE,go_sem]
  refine zc (zjW n hn.1 hn.2) ?_
  simp(disch:=first|omega|assumption) only[go_sem]
  exact hQ _ _ _ _ nofun rfl (by simp[ze,zd,AV.strip,AV.strip1,yD,cKs,cK])
 by_cases k3:k=3
 ·subst k3
  simp(disch:=first|omega|assumption) only[ir145,zE,go_sem]
  refine zc (zdf s hsl) ?_
  simp(disch:=first|omega|assumption) only[go_sem]
  exact hQ _ _ _ _ nofun rfl (by simp[ze,zd,AV.strip,AV.strip1,yD,cKs,cK])
 by_cases k4:k=4
 ·subst k4
  simp(disch:=first|omega|assumption) only[ir145,zE,go_sem]
  exact hQ _ _ _ _ nofun rfl (by simp[ze,zd,AV.strip,AV.strip1,yD,cKs,cK])
 by_cases k5:k=5
 ·subst k5
  simp(disch:=first|omega|assumption) only[ir145,zE,go_sem]
  refine zc (zek _) ?_
  simp(disch:=first|omega|assumption) only[cK,go_sem]
  exact hQ _ _ _ _ nofun rfl (by simp[ze,zd,AV.strip,AV.strip1,yD,cKs,cK])
 by_cases k8:k=8
 ·subst k8
  simp(disch:=first|omega|assumption) only[ir145,zE,go_sem]
  refine zc (zcw _) ?_
  simp(disch:=first|omega|assumption) only[go_sem]
  refine zc (zek _) ?_
  simp(disch:=first|omega|assumption) only[cK,go_sem]
  exact hQ _ _ _ _ nofun rfl (by simp[ze,zd,AV.strip,AV.strip1,yD,cKs,cK])
 have hl4:=zb0 l
 have hm4:=zbZ m
 by_cases k6:k=6
 ·subst k6
  simp(disch:=first|omega|assumption) only[ir145,zE,h1,go_sem]
  refine zc (zcw _) ?_
  simp(disch:=first|omega|assumption) only[cK,go_sem]
  refine zm l 4 (fun x:Own×List Tok=>[(3,.sl x.1 2 (cKs x.2))]) (fun done rest x H=>x.2++Yf rest=⟨1,[91]⟩::Yf l∧OwnS zh.emp .full H x.1 x.2.length 2) (.full,[⟨1,[91]⟩]) (by simp(disch:=first|omega|assumption) only[cKs,cK,go_sem]) ⟨rfl,OwnS.refl trivial⟩ ?_ ?_
  ·rintro⟨o,a⟩ H J ⟨ha,hs⟩ hlt
   simp only[Yf,List.append_nil] at ha
   have hal:a.length≤1+4*bVs l:=by rw[ha];simp only[Al2];omega
   have hcl:=z8 a
   simp(disch:=first|omega|assumption) only[h1,hlt,go_sem]
   refine zc (zcw _) ?_
   simp(disch:=first|omega|assumption) only[cK,go_sem]
   refine zF (by rw[hcl];exact hs.own) (by simp only[hcl,Al2,Al3];omega) (by simp only[hcl,Al2,Al3,maxLen];omega) fun o' H' hs'=>?_
   simp(disch:=first|omega|assumption) only[go_sem]
   have e:cKs a++[[.int .i64 1,.str [93]]]=cKs (yD (.mk 6 n s l m)):=by
    rw[ha];simp[yD,cKs,cK]
   exact hQ _ _ _ _ nofun rfl (by simp[ze,zd,AV.strip,AV.strip1,e])
  ·rintro done x rest ⟨o,a⟩ H J hd hlt _ ⟨ha,hs⟩ hJ
   have hg:=Zb hd
   have hbm:=ZY done x rest
   rw[← hd] at hbm
   simp only[Yf] at ha
   have hx:=zbm x
   have hal:a.length≤1+4*bVs l:=by
    have:=congrArg List.length ha
    simp only[Al5,Al2] at this
    omega
   have hcl:=z8 a
   have hcx:=z8 (yD x)
   have hmem:x∈l:=by rw[hd];simp
   simp(disch:=first|omega|assumption) only[zi,zf,zb,zj,zg,za,zk,h1,hlt,hg,go_sem]
   refine zc (ihl x hmem (zd2 hwl x hmem) (by simp only[Lim];omega)) ?_
   simp(disch:=first|omega|assumption) only[go_sem]
   refine zF (by rw[hcl];exact hs.own) (by simp only[hcl,hcx];omega) (by simp only[hcl,hcx,maxLen];omega) fun o' H' hs'=>?_
   simp(disch:=first|omega|assumption) only[wrap64,ZK,go_sem]
   exact goJ (hJ (o',a++yD x) H' ⟨by rw[← ha];simp,hs.trans (by simpa[hcl,hcx] using hs')⟩) (by simp(disch:=first|omega|assumption) only[zbV,go_sem])
 ·have et:yD (.mk k n s l m)=⟨1,[123]⟩::(yQ m++[⟨1,[125]⟩]):=by simp[yD,k0,k1,k2,k3,k4,k5,k8,k6]
  simp(disch:=first|omega|assumption) only[ir145,zE,h2,k0,k1,k2,k3,k4,k5,k8,k6,go_sem]
  refine zc (zcw _) ?_
  simp(disch:=first|omega|assumption) only[cK,go_sem]
  refine zm m 6 (fun x:Own×List Tok=>[(5,.sl x.1 2 (cKs x.2))]) (fun done rest x H=>x.2++yQ rest=⟨1,[123]⟩::yQ m∧OwnS zh.emp .full H x.1 x.2.length 2) (.full,[⟨1,[123]⟩]) (by simp(disch:=first|omega|assumption) only[cKs,cK,go_sem]) ⟨rfl,OwnS.refl trivial⟩ ?_ ?_
  ·rintro⟨o,a⟩ H J ⟨ha,hs⟩ hlt
   simp only[yQ,List.append_nil] at ha
   have hal:a.length≤1+4*bMs m:=by rw[ha];simp only[Al2];omega
   have hcl:=z8 a
   simp(disch:=first|omega|assumption) only[h2,hlt,go_sem]
   refine zc (zcw _) ?_
   simp(disch:=first|omega|assumption) only[cK,go_sem]
   refine zF (by rw[hcl];exact hs.own) (by simp only[hcl,Al2,Al3];omega) (by simp only[hcl,Al2,Al3,maxLen];omega) fun o' H' hs'=>?_
   simp(disch:=first|omega|assumption) only[go_sem]
   have e:cKs a++[[.int .i64 1,.str [125]]]=cKs (yD (.mk k n s l m)):=by
    rw[et,ha];simp[cKs,cK]
   exact hQ _ _ _ _ nofun rfl (by simp[ze,zd,AV.strip,AV.strip1,e])
  ·rintro done x rest ⟨o,a⟩ H J hd hlt _ ⟨ha,hs⟩ hJ
   have hg:=yT hd
   have hbm:=y6 done x rest
   rw[← hd] at hbm
   have hmem:x∈m:=by rw[hd];simp
   have hx:=zh0 x
   simp only[yQ] at ha
   have hal:a.length+(zcA x).length≤1+4*bMs m:=by
    have:=congrArg List.length ha
    simp only[Al5,Al2] at this
    omega
   obtain⟨t,v⟩:=x
   simp only[zcA,bM,Al2] at ha hbm hal hx
   have hcl:=z8 a
   have hcx:=z8 (yD v)
   simp(disch:=first|omega|assumption) only[zi,zf,zb,zj,zg,za,zk,h2,hlt,hg,go_sem]
   refine zc (zek _) ?_
   simp(disch:=first|omega|assumption) only[zi,zf,zb,zj,zg,za,zk,go_sem]
   refine zc (zcw _) ?_
   simp(disch:=first|omega|assumption) only[zi,zf,zb,zj,zg,za,zk,cK,go_sem]
   refine zF (by rw[hcl];exact hs.own) (by simp only[hcl,Al2,Al3];omega) (by simp only[hcl,Al2,Al3,maxLen];omega) fun o2 H2 hs2=>?_
   have hs2':OwnS zh.emp .full H2 o2 (a.length+2) 2:=hs.trans (by simpa[hcl] using hs2)
   simp(disch:=first|omega|assumption) only[zi,zf,zb,zj,zg,za,zk,h2,hlt,hg,go_sem]
   refine zc (ihm t v hmem (zaP hwm t v hmem) (by simp only[Lim];omega)) ?_
   simp(disch:=first|omega|assumption) only[go_sem]
   have hl2:(cKs a++[[AV.int .i64 2,.str t],[.int .i64 1,.str [58]]]).length=a.length+2:=by simp[hcl]
   refine zF (by rw[hl2];exact hs2'.own) (by rw[hl2,hcx];omega) (by rw[hl2,hcx];simp only[maxLen];omega) fun o3 H3 hs3=>?_
   rw[hl2,hcx] at hs3
   simp(disch:=first|omega|assumption) only[wrap64,ZK,go_sem]
   have ea:cKs (a++[⟨2,t⟩,⟨1,[58]⟩]++yD v)=cKs a++[[AV.int .i64 2,.str t],[.int .i64 1,.str [58]]]++cKs (yD v):=by simp[cKs,cK]
   have el:(a++[(⟨2,t⟩:Tok),⟨1,[58]⟩]++yD v).length=a.length+2+(yD v).length:=by simp;omega
   exact goJ (hJ (o3,a++[⟨2,t⟩,⟨1,[58]⟩]++yD v) H3 ⟨by rw[← ha];simp,hs2'.trans (by rw[el];exact hs3)⟩) (by simp(disch:=first|omega|assumption) only[ea,go_sem])
theorem zgc (v:Val) (hv:bV v≤Lim) (dp:Int) (h0:0≤dp) (h1:dp≤64) (fixed:Bool):zo Tryz.prog 151 [.agg (cV v),.int .i64 dp,.bool fixed] (.bool (yo dp fixed v)):=by
 refine zo.go ir151 ck151 (Al4 _) fun KP Q hQ=>?_
 have hdv:=zbl v
 have hv':=hv
 simp only[Lim] at hv'
 have d1:IntKind.wrap .i64 (dp+yG v)=dp+yG v:=wrap64 (by omega) (by omega)
 have hcv:=y0 (ym v [])
 simp(disch:=first|omega|assumption) only[zi,zf,zb,zj,zg,za,zk,ir151,go_sem]
 refine zc (zlc v hv) ?_
 cases hp:ZE v with
 | false =>
  simp(disch:=first|omega|assumption) only[go_sem]
  exact hQ _ _ _ _ nofun rfl (by simp[ze,zd,AV.strip,AV.strip1,yo,hp])
 | true =>
  simp(disch:=first|omega|assumption) only[zi,zf,zb,zj,zg,za,zk,go_sem]
  refine zc (zjI v hv) ?_
  by_cases hd:dp+yG v≤16
  case neg =>
   simp(disch:=first|omega|assumption) only[zi,zf,zb,zj,zg,za,zk,d1,hd,go_sem]
   exact hQ _ _ _ _ nofun rfl (by simp[ze,zd,AV.strip,AV.strip1,yo,hp,hd])
  cases fixed with
  | false =>
   simp(disch:=first|omega|assumption) only[zi,zf,zb,zj,zg,za,zk,d1,hd,go_sem]
   exact hQ _ _ _ _ nofun rfl (by simp[ze,zd,AV.strip,AV.strip1,yo,hp,hd])
  | true =>
   simp(disch:=first|omega|assumption) only[zi,zf,zb,zj,zg,za,zk,d1,hd,go_sem]
   refine zc (zmX v hv) ?_
   by_cases hz:(ym v []).length=0
   ·have hz':(((ym v []).length:Int)=0)=True:=eq_true (by omega)
    simp(disch:=first|omega|assumption) only[hcv,hz',go_sem]
    exact hQ _ _ _ _ nofun rfl (by simp[ze,zd,AV.strip,AV.strip1,yo,hp,hd,hz])
   ·have hz':¬ (((ym v []).length:Int)=0):=by omega
    simp(disch:=first|omega|assumption) only[hcv,hz',go_sem]
    exact hQ _ _ _ _ nofun rfl (by simp[ze,zd,AV.strip,AV.strip1,yo,hp,hd,hz])
theorem zdQ (m:List Mem) (hm:bMs m≤Lim) (dp:Int) (h0:0≤dp) (h1:dp≤64) (fixed:Bool):zo Tryz.prog 149 [.sl .no 6 (cMs m),.int .i64 dp,.bool fixed] (.bool (yK dp fixed m)):=by
 refine zo.go ir149 ck149 (Al4 _) fun KP Q hQ=>?_
 have hcl:=yC m
 have hml:=yI m
 have hm':=hm
 simp only[Lim] at hm'
 simp(disch:=first|omega|assumption) only[ir149,go_sem]
 refine zm m 7 (fun _:Unit=>[]) (fun done rest _ H=>yK dp fixed m=yK dp fixed rest) () (by simp(disch:=first|omega|assumption) only[go_sem]) rfl ?_ ?_
 ·rintro _ H J hx hlt
  have e:yK dp fixed m=true:=hx
  simp(disch:=first|omega|assumption) only[hcl,hlt,go_sem]
  exact hQ _ _ _ _ nofun rfl (by simp[ze,zd,AV.strip,AV.strip1,e])
 ·rintro done x rest _ H J hd hlt hlt2 hx hJ
  have hg:=yT hd
  have hbm:=y6 done x rest
  rw[← hd] at hbm
  obtain⟨s,v⟩:=x
  simp only[bM] at hbm
  have hst:yK dp fixed m=(zJ s&&yo dp fixed v&&yK dp fixed rest):=by rw[hx];simp[yK,ze2]
  simp(disch:=first|omega|assumption) only[zi,zf,zb,zj,zg,za,zk,hcl,hlt,hg,go_sem]
  refine zc (ZC s (by simp only[Lim];omega)) ?_
  cases hn:zJ s with
  | false =>
   simp(disch:=first|omega|assumption) only[go_sem]
   exact hQ _ _ _ _ nofun rfl (by simp[ze,zd,AV.strip,AV.strip1,hst,hn])
  | true =>
   simp(disch:=first|omega|assumption) only[zi,zf,zb,zj,zg,za,zk,hcl,hlt,hg,go_sem]
   refine zc (zgc v (by simp only[Lim];omega) dp h0 h1 fixed) ?_
   cases hr:yo dp fixed v with
   | false =>
    simp(disch:=first|omega|assumption) only[go_sem]
    exact hQ _ _ _ _ nofun rfl (by simp[ze,zd,AV.strip,AV.strip1,hst,hn,hr])
   | true =>
    simp(disch:=first|omega|assumption) only[wrap64,go_sem]
    exact goJ (hJ () _ (by rw[hst,hn,hr];rfl)) (by simp(disch:=first|omega|assumption) only[go_sem])
theorem Y9 (m:List DirD) (hm:bDs m≤Lim) (dp:Int) (h0:0≤dp) (h1:dp≤64) (fixed:Bool):zo Tryz.prog 80 [.sl .no 2 (cDs m),.int .i64 dp,.bool fixed] (.bool (yf dp fixed m)):=by
 refine zo.go ir80 ck80 (Al4 _) fun KP Q hQ=>?_
 have hcl:=YW m
 have hml:=zbi m
 have hm':=hm
 simp only[Lim] at hm'
 simp(disch:=first|omega|assumption) only[ir80,go_sem]
 refine zm m 7 (fun _:Unit=>[]) (fun done rest _ H=>yf dp fixed m=yf dp fixed rest) () (by simp(disch:=first|omega|assumption) only[go_sem]) rfl ?_ ?_
 ·rintro _ H J hx hlt
  have e:yf dp fixed m=true:=hx
  simp(disch:=first|omega|assumption) only[hcl,hlt,go_sem]
  exact hQ _ _ _ _ nofun rfl (by simp[ze,zd,AV.strip,AV.strip1,e])
 ·rintro done x rest _ H J hd hlt hlt2 hx hJ
  have hg:=zah hd
  have hbm:=zbr done x rest
  rw[← hd] at hbm
  obtain⟨s,args⟩:=x
  simp only[bD] at hbm
  have ex:cD ⟨s,args⟩=[.str s,.sl .no 6 (cMs args)]:=rfl
  rw[ex] at hg
  have hst:yf dp fixed m=(zJ s&&yK dp fixed args&&yf dp fixed rest):=by rw[hx];simp[yf,zda]
  simp(disch:=first|omega|assumption) only[hcl,hlt,hg,go_sem]
  refine zc (ZC s (by simp only[Lim];omega)) ?_
  cases hn:zJ s with
  | false =>
   simp(disch:=first|omega|assumption) only[go_sem]
   exact hQ _ _ _ _ nofun rfl (by simp[ze,zd,AV.strip,AV.strip1,hst,hn])
  | true =>
   simp(disch:=first|omega|assumption) only[hcl,hlt,hg,go_sem]
   refine zc (zdQ args (by simp only[Lim];omega) dp h0 h1 fixed) ?_
   cases hr:yK dp fixed args with
   | false =>
    simp(disch:=first|omega|assumption) only[go_sem]
    exact hQ _ _ _ _ nofun rfl (by simp[ze,zd,AV.strip,AV.strip1,hst,hn,hr])
   | true =>
    simp(disch:=first|omega|assumption) only[wrap64,go_sem]
    exact goJ (hJ () _ (by rw[hst,hn,hr];rfl)) (by simp(disch:=first|omega|assumption) only[go_sem])
def zlC (c:Nat):Prop:=∀ l:List SelD,bSs l≤c→bSs l≤Lim→∀ dp:Int,0≤dp→dp≤17→zo Tryz.prog 81 [.sl .no 7 (cSs l),.int .i64 dp] (.bool (zI dp l))
theorem zkW {c:Nat} (hL:zlC c) (k:Int) (al nm:List UInt8) (args:List Mem) (dirs:List DirD) (on:List UInt8) (sels:List SelD) (hc:bSs sels≤c) (hb:bS (.mk k al nm args dirs on sels)≤Lim) (dp:Int) (h0:0≤dp) (h1:dp≤16) :
  zo Tryz.prog 150 [.agg (cS (.mk k al nm args dirs on sels)),.int .i64 dp] (.bool (zG dp (.mk k al nm args dirs on sels))):=by
 refine zo.go ir150 ck150 (Al4 _) fun KP Q hQ=>?_
 have hb':=hb
 simp only[bS,Lim] at hb'
 have hcm:=yC args
 have hcs:=ZD sels
 have w1:IntKind.wrap .i64 (dp+1)=dp+1:=wrap64 (by omega) (by omega)
 have hsels:=hL sels hc (by simp only[Lim];omega) (dp+1) (by omega) (by omega)
 simp(disch:=first|omega|assumption) only[ir150,Zu,go_sem]
 refine zc (Y9 dirs (by simp only[Lim];omega) dp h0 (by omega) false) ?_
 cases hd:yf dp false dirs with
 | false =>
  simp(disch:=first|omega|assumption) only[go_sem]
  exact hQ _ _ _ _ nofun rfl (by simp[ze,zd,AV.strip,AV.strip1,zG,hd])
 | true =>
  by_cases k0:k=0
  ·subst k0
   simp(disch:=first|omega|assumption) only[go_sem]
   refine zc (ZC nm (by simp only[Lim];omega)) ?_
   cases hn:zJ nm with
   | false =>
    simp(disch:=first|omega|assumption) only[go_sem]
    exact hQ _ _ _ _ nofun rfl (by simp[ze,zd,AV.strip,AV.strip1,zG,hd,hn])
   | true =>
    by_cases g2:al=[]
    case pos =>
     have g6:(decide (al=[])||zJ al)=true:=by simp[g2]
     subst g2
     have g2:True:=trivial
     by_cases g3:on=[]
     case neg =>
      simp(disch:=first|omega|assumption) only[g2,g3,go_sem]
      exact hQ _ _ _ _ nofun rfl (by simp[ze,zd,AV.strip,AV.strip1,zG,hd,hn,g3])
     simp(disch:=first|omega|assumption) only[g2,g3,go_sem]
     refine zc (zdQ args (by simp only[Lim];omega) dp h0 (by omega) false) ?_
     cases hm:yK dp false args with
     | false =>
      simp(disch:=first|omega|assumption) only[go_sem]
      exact hQ _ _ _ _ nofun rfl (by simp[ze,zd,AV.strip,AV.strip1,zG,hd,hn,hm])
     | true =>
      by_cases g5:sels.length=0
      ·have g5':((sels.length:Int)=0)=True:=eq_true (by omega)
       simp(disch:=first|omega|assumption) only[hcs,g5',go_sem]
       exact hQ _ _ _ _ nofun rfl (by simp[ze,zd,AV.strip,AV.strip1,zG,hd,hn,hm,g3,g5,g6])
      ·have g5':¬ ((sels.length:Int)=0):=by omega
       simp(disch:=first|omega|assumption) only[hcs,g5',w1,go_sem]
       refine zc hsels ?_
       simp(disch:=first|omega|assumption) only[go_sem]
       exact hQ _ _ _ _ nofun rfl (by simp[ze,zd,AV.strip,AV.strip1,zG,hd,hn,hm,g3,g5,g6,zI])
    case neg =>
     simp(disch:=first|omega|assumption) only[g2,go_sem]
     refine zc (ZC al (by simp only[Lim];omega)) ?_
     cases hal:zJ al with
     | false =>
      simp(disch:=first|omega|assumption) only[go_sem]
      exact hQ _ _ _ _ nofun rfl (by simp[ze,zd,AV.strip,AV.strip1,zG,hd,hn,g2,hal])
     | true =>
      have g6:(decide (al=[])||zJ al)=true:=by simp[hal]
      by_cases g3:on=[]
      case neg =>
       simp(disch:=first|omega|assumption) only[g2,g3,go_sem]
       exact hQ _ _ _ _ nofun rfl (by simp[ze,zd,AV.strip,AV.strip1,zG,hd,hn,g3])
      simp(disch:=first|omega|assumption) only[g2,g3,go_sem]
      refine zc (zdQ args (by simp only[Lim];omega) dp h0 (by omega) false) ?_
      cases hm:yK dp false args with
      | false =>
       simp(disch:=first|omega|assumption) only[go_sem]
       exact hQ _ _ _ _ nofun rfl (by simp[ze,zd,AV.strip,AV.strip1,zG,hd,hn,hm])
      | true =>
       by_cases g5:sels.length=0
       ·have g5':((sels.length:Int)=0)=True:=eq_true (by omega)
        simp(disch:=first|omega|assumption) only[hcs,g5',go_sem]
        exact hQ _ _ _ _ nofun rfl (by simp[ze,zd,AV.strip,AV.strip1,zG,hd,hn,hm,g3,g5,g6])
       ·have g5':¬ ((sels.length:Int)=0):=by omega
        simp(disch:=first|omega|assumption) only[hcs,g5',w1,go_sem]
        refine zc hsels ?_
        simp(disch:=first|omega|assumption) only[go_sem]
        exact hQ _ _ _ _ nofun rfl (by simp[ze,zd,AV.strip,AV.strip1,zG,hd,hn,hm,g3,g5,g6,zI])
  by_cases k1:k=1
  ·subst k1
   simp(disch:=first|omega|assumption) only[go_sem]
   refine zc (ZC nm (by simp only[Lim];omega)) ?_
   cases hn:zJ nm with
   | false =>
    simp(disch:=first|omega|assumption) only[go_sem]
    exact hQ _ _ _ _ nofun rfl (by simp[ze,zd,AV.strip,AV.strip1,zG,hd,hn])
   | true =>
    by_cases g1:nm=[111,110]
    ·subst g1
     simp(disch:=first|omega|assumption) only[go_sem]
     exact hQ _ _ _ _ nofun rfl (by simp[ze,zd,AV.strip,AV.strip1,zG,hd])
    by_cases g2:al=[]
    case neg =>
     simp(disch:=first|omega|assumption) only[g1,g2,go_sem]
     exact hQ _ _ _ _ nofun rfl (by simp[ze,zd,AV.strip,AV.strip1,zG,hd,hn,g1,g2])
    by_cases g3:on=[]
    case neg =>
     simp(disch:=first|omega|assumption) only[g1,g2,g3,go_sem]
     exact hQ _ _ _ _ nofun rfl (by simp[ze,zd,AV.strip,AV.strip1,zG,hd,hn,g1,g2,g3])
    by_cases g4:args.length=0
    case neg =>
     have g4':¬ ((args.length:Int)=0):=by omega
     simp(disch:=first|omega|assumption) only[g1,g2,g3,hcm,g4',go_sem]
     exact hQ _ _ _ _ nofun rfl (by simp[ze,zd,AV.strip,AV.strip1,zG,hd,hn,g1,g2,g3,g4])
    have g4':((args.length:Int)=0)=True:=eq_true (by omega)
    by_cases g5:sels.length=0
    ·have g5':((sels.length:Int)=0)=True:=eq_true (by omega)
     simp(disch:=first|omega|assumption) only[g1,g2,g3,hcm,g4',hcs,g5',go_sem]
     exact hQ _ _ _ _ nofun rfl (by simp[ze,zd,AV.strip,AV.strip1,zG,hd,hn,g1,g2,g3,g4,g5])
    ·have g5':¬ ((sels.length:Int)=0):=by omega
     simp(disch:=first|omega|assumption) only[g1,g2,g3,hcm,g4',hcs,g5',go_sem]
     exact hQ _ _ _ _ nofun rfl (by simp[ze,zd,AV.strip,AV.strip1,zG,hd,hn,g1,g2,g3,g4,g5])
  by_cases k2:k=2
  ·subst k2
   by_cases g1:nm=[]
   case neg =>
    simp(disch:=first|omega|assumption) only[g1,go_sem]
    exact hQ _ _ _ _ nofun rfl (by simp[ze,zd,AV.strip,AV.strip1,zG,hd,g1])
   by_cases g2:al=[]
   case neg =>
    simp(disch:=first|omega|assumption) only[g1,g2,go_sem]
    exact hQ _ _ _ _ nofun rfl (by simp[ze,zd,AV.strip,AV.strip1,zG,hd,g1,g2])
   by_cases g3:args.length=0
   case neg =>
    have g3':¬ ((args.length:Int)=0):=by omega
    simp(disch:=first|omega|assumption) only[g1,g2,hcm,g3',go_sem]
    exact hQ _ _ _ _ nofun rfl (by simp[ze,zd,AV.strip,AV.strip1,zG,hd,g1,g2,g3])
   have g3':((args.length:Int)=0)=True:=eq_true (by omega)
   by_cases g4:on=[]
   ·simp(disch:=first|omega|assumption) only[g1,g2,hcm,g3',g4,w1,go_sem]
    refine zc hsels ?_
    simp(disch:=first|omega|assumption) only[go_sem]
    exact hQ _ _ _ _ nofun rfl (by simp[ze,zd,AV.strip,AV.strip1,zG,hd,g1,g2,g3,g4,zI])
   ·simp(disch:=first|omega|assumption) only[g1,g2,hcm,g3',g4,go_sem]
    refine zc (ZC on (by simp only[Lim];omega)) ?_
    cases hn:zJ on with
    | false =>
     simp(disch:=first|omega|assumption) only[go_sem]
     exact hQ _ _ _ _ nofun rfl (by simp[ze,zd,AV.strip,AV.strip1,zG,hd,g1,g2,g3,g4,hn])
    | true =>
     simp(disch:=first|omega|assumption) only[w1,go_sem]
     refine zc hsels ?_
     simp(disch:=first|omega|assumption) only[go_sem]
     exact hQ _ _ _ _ nofun rfl (by simp[ze,zd,AV.strip,AV.strip1,zG,hd,g1,g2,g3,g4,hn,zI])
  ·simp(disch:=first|omega|assumption) only[k0,k1,k2,go_sem]
   exact hQ _ _ _ _ nofun rfl (by simp[ze,zd,AV.strip,AV.strip1,zG,hd,k0,k1,k2])
theorem za8:∀ c,zlC c:=by
 intro c
 induction c using Nat.strongRecOn with
 | _ c ih =>
 intro m hc hm dp h0 h1
 refine zo.go ir81 ck81 (Al4 _) fun KP Q hQ=>?_
 have hcl:=ZD m
 have hml:=zav m
 have hm':=hm
 simp only[Lim] at hm'
 by_cases hz:m.length=0
 ·have hz':((m.length:Int)=0)=True:=eq_true (by omega)
  simp(disch:=first|omega|assumption) only[ir81,hcl,hz',go_sem]
  exact hQ _ _ _ _ nofun rfl (by simp[ze,zd,AV.strip,AV.strip1,zI,hz])
 have hz':¬ ((m.length:Int)=0):=by omega
 by_cases hd:dp≤16
 case neg =>
  have hd':((16:Int)<dp)=True:=eq_true (by omega)
  simp(disch:=first|omega|assumption) only[ir81,hcl,hz',hd',go_sem]
  exact hQ _ _ _ _ nofun rfl (by simp[ze,zd,AV.strip,AV.strip1,zI,hz,hd])
 have hd':¬ ((16:Int)<dp):=by omega
 have er:zI dp m=yx dp m:=by simp[zI,hz,hd]
 simp(disch:=first|omega|assumption) only[ir81,hcl,hz',hd',go_sem]
 refine zm m 5 (fun _:Unit=>[]) (fun done rest _ H=>yx dp m=yx dp rest) () (by simp(disch:=first|omega|assumption) only[go_sem]) rfl ?_ ?_
 ·rintro _ H J hx hlt
  have e:zI dp m=true:=by rw[er];exact hx
  simp(disch:=first|omega|assumption) only[hcl,hlt,go_sem]
  exact hQ _ _ _ _ nofun rfl (by simp[ze,zd,AV.strip,AV.strip1,e])
 ·rintro done x rest _ H J hdn hlt hlt2 hx hJ
  have hg:=Yu hdn
  have hbm:=zam done x rest
  rw[← hdn] at hbm
  have hst:yx dp m=(zG dp x&&yx dp rest):=by rw[hx];simp[yx]
  obtain⟨k,al,nm,args,dirs,on,sels⟩:=x
  have hbx:bS (.mk k al nm args dirs on sels)=1+al.length+nm.length+on.length+bMs args+bDs dirs+bSs sels:=rfl
  have hR:=zkW (ih (bSs sels) (by omega)) k al nm args dirs on sels (Al4 _) (by simp only[Lim];omega) dp h0 hd
  rw[Zu] at hg hR
  simp(disch:=first|omega|assumption) only[hcl,hlt,hg,go_sem]
  refine zc hR ?_
  cases hr:zG dp (.mk k al nm args dirs on sels) with
  | false =>
   have e:zI dp m=false:=by rw[er,hst,hr];rfl
   simp(disch:=first|omega|assumption) only[go_sem]
   exact hQ _ _ _ _ nofun rfl (by simp[ze,zd,AV.strip,AV.strip1,e])
  | true =>
   simp(disch:=first|omega|assumption) only[wrap64,go_sem]
   exact goJ (hJ () _ (by rw[hst,hr];rfl)) (by simp(disch:=first|omega|assumption) only[go_sem])
theorem zb5 (has:Bool) (v:Val) (hv:bV v≤Lim):zo Tryz.prog 83 [.bool has,.agg (cV v)] (.bool (Yq has v)):=by
 refine zo.go ir83 ck83 (Al4 _) fun KP Q hQ=>?_
 cases has with
 | true =>
  simp(disch:=first|omega|assumption) only[zi,zf,zb,zj,zg,za,zk,ir83,go_sem]
  refine zc (zgc v hv 0 (by decide) (by decide) true) ?_
  simp(disch:=first|omega|assumption) only[go_sem]
  exact hQ _ _ _ _ nofun rfl (by simp[ze,zd,AV.strip,AV.strip1,Yq])
 | false =>
  simp(disch:=first|omega|assumption) only[zi,zf,zb,zj,zg,za,zk,ir83,go_sem]
  refine zc (zo.low (r:=.bool (eqd v zV)) (by
   have:=zka v hv zV
   simpa[AV.strip,zb4,zhK,AV.strip1] using this)) ?_
  simp(disch:=first|omega|assumption) only[go_sem]
  exact hQ _ _ _ _ nofun rfl (by simp[ze,zd,AV.strip,AV.strip1,Yq])
theorem zlN {n:Nat} (h:n<18446744073709551616):IntKind.wrap .u64 (n:Int)=n:=by
 have e:IntKind.wrap .u64 (n:Int)=(n:Int) % 18446744073709551616:=rfl
 rw[e];omega
theorem zb8 (t:TyD) (hs:t.nm.length≤Lim):zo Tryz.prog 82 [.agg (cTy t)] (.bool (zT t)):=by
 refine zo.go ir82 ck82 (Al4 _) fun KP Q hQ=>?_
 obtain⟨nm,ls,ms⟩:=t
 simp only at hs
 simp(disch:=first|omega|assumption) only[ir82,cTy,steps,st2,pev,rev,oev,zL,zQ,zX,zY,bound,zx,mm2,mk,zr,AV.cells,AV.boxable,AV.one,AV.strip1,zy,zw,Nat.reduceEqDiff,reduceCtorEq,↓reduceIte,Nat.reduceAdd,Int.reduceNeg,Nat.reduceLeDiff,Int.reduceToNat,Int.reduceEq,Int.reduceLT,Int.reduceLE,Int.reduceAdd,Io,Im,If,Il,Jt,Jf,AC.rg,Jm,Jl,Ja,Fm,Fl,Fa,Imv,Imb,Iai,Iei,Igi,Isi,Ipf,Ipt,Ilb,Iia,Ilt,Iap,Ink,Iln,Ils,Iad,Iex,Ibx,Ing]
 refine zc (ZC nm hs) ?_
 cases h1:zJ nm with
 | false =>
  simp(disch:=first|omega|assumption) only[steps,st2,pev,rev,oev,zL,zQ,zX,zY,bound,zx,mm2,mk,zr,AV.cells,AV.boxable,AV.one,AV.strip1,zy,zw,Nat.reduceEqDiff,reduceCtorEq,↓reduceIte,Nat.reduceAdd,Int.reduceNeg,Nat.reduceLeDiff,Int.reduceToNat,Int.reduceEq,Int.reduceLT,Int.reduceLE,Int.reduceAdd]
  exact hQ _ _ _ _ nofun rfl (by simp[ze,zd,AV.strip,AV.strip1,zT,h1])
 | true =>
  by_cases h2:0≤ls
  case neg =>
   simp(disch:=first|omega|assumption) only[h2,steps,st2,pev,rev,oev,zL,zQ,zX,zY,bound,zx,mm2,mk,zr,AV.cells,AV.boxable,AV.one,AV.strip1,zy,zw,Nat.reduceEqDiff,reduceCtorEq,↓reduceIte,Nat.reduceAdd,Int.reduceNeg,Nat.reduceLeDiff,Int.reduceToNat,Int.reduceEq,Int.reduceLT,Int.reduceLE,Int.reduceAdd]
   exact hQ _ _ _ _ nofun rfl (by simp[ze,zd,AV.strip,AV.strip1,zT,h1,h2])
  by_cases h3:ls≤4
  case neg =>
   simp(disch:=first|omega|assumption) only[h2,h3,steps,st2,pev,rev,oev,zL,zQ,zX,zY,bound,zx,mm2,mk,zr,AV.cells,AV.boxable,AV.one,AV.strip1,zy,zw,Nat.reduceEqDiff,reduceCtorEq,↓reduceIte,Nat.reduceAdd,Int.reduceNeg,Nat.reduceLeDiff,Int.reduceToNat,Int.reduceEq,Int.reduceLT,Int.reduceLE,Int.reduceAdd]
   exact hQ _ _ _ _ nofun rfl (by simp[ze,zd,AV.strip,AV.strip1,zT,h1,h2,h3])
  by_cases h4:0≤ms
  case neg =>
   simp(disch:=first|omega|assumption) only[h2,h3,h4,steps,st2,pev,rev,oev,zL,zQ,zX,zY,bound,zx,mm2,mk,zr,AV.cells,AV.boxable,AV.one,AV.strip1,zy,zw,Nat.reduceEqDiff,reduceCtorEq,↓reduceIte,Nat.reduceAdd,Int.reduceNeg,Nat.reduceLeDiff,Int.reduceToNat,Int.reduceEq,Int.reduceLT,Int.reduceLE,Int.reduceAdd]
   exact hQ _ _ _ _ nofun rfl (by simp[ze,zd,AV.strip,AV.strip1,zT,h1,h2,h3,h4])
  obtain⟨n,rfl⟩:∃ n:Nat,ls=(n:Int):=⟨ls.toNat,by omega⟩
  have w1:=zlN (n:=n) (by omega)
  have e0:min n IntKind.i64.bits=n:=by show min n 64=n;omega
  have hp:(2:Int) ^ n≤2 ^ 4:=by exact_mod_cast Nat.pow_le_pow_right (by decide) (by omega:n≤4)
  have hp0:(0:Int)≤2 ^ n:=by exact_mod_cast Nat.zero_le _
  have e2:IntKind.wrap .i64 (2*2 ^ min n IntKind.i64.bits)=2 ^ (n+1):=by rw[e0,wrap64 (by omega) (by omega),Int.pow_succ,Int.mul_comm]
  have hn0:¬ ((n:Int)<0):=by omega
  simp(disch:=first|omega|assumption) only[h2,h3,h4,w1,e2,hn0,steps,st2,pev,rev,oev,zL,zQ,zX,zY,bound,zx,mm2,mk,zr,AV.cells,AV.boxable,AV.one,AV.strip1,zy,zw,Nat.reduceEqDiff,reduceCtorEq,↓reduceIte,Nat.reduceAdd,Int.reduceNeg,Nat.reduceLeDiff,Int.reduceToNat,Int.reduceEq,Int.reduceLT,Int.reduceLE,Int.reduceAdd]
  exact hQ _ _ _ _ nofun rfl (by simp[ze,zd,AV.strip,AV.strip1,zT,h1,h2,h3,h4])
theorem Ym (x:VarD):yk x=(zJ x.nm&&zT x.t&&Yq x.has x.d):=by simp[yk,yM]
set_option maxHeartbeats 2000000 in
theorem zjv (d:DocD) (hb:Yh d≤Lim):zo Tryz.prog 31 [.agg (ZN d)] (.bool (z1 d)):=by
 refine zo.go ir31 ck31 (Al4 _) fun KP Q hQ=>?_
 obtain⟨ops,frags⟩:=d
 have hlo:=zbx ops
 have hlf:=zbs frags
 have hco:=YT ops
 have hcf:=YP frags
 have hb':=hb
 simp only[Yh,Lim] at hb'
 have ed:ZN ⟨ops,frags⟩=[.sl .no 5 (cOs ops),.sl .no 4 (cFs frags)]:=rfl
 simp(disch:=first|omega|assumption) only[ir31,ed,go_sem]
 refine zm ops 3 (fun _:Unit=>[]) (fun done rest _ H=>ops.all yi=rest.all yi) () (by simp(disch:=first|omega|assumption) only[go_sem]) rfl ?_ ?_
 ·rintro _ H J hx hlt
  have e1:ops.all yi=true:=hx
  simp(disch:=first|omega|assumption) only[hco,hlt,go_sem]
  refine zm frags 6 (fun _:Unit=>[]) (fun done rest _ H=>frags.all Zi=rest.all Zi) () (by simp(disch:=first|omega|assumption) only[go_sem]) rfl ?_ ?_
  ·rintro _ H J hx hlt
   have e2:frags.all Zi=true:=hx
   have wl:IntKind.wrap .i64 ((ops.length:Int)+(frags.length:Int))=((ops.length+frags.length:Nat):Int):=by rw[wrap64 (by omega) (by omega)];omega
   have ec:decide ((0:Int)<((ops.length+frags.length:Nat):Int))=decide (0<ops.length+frags.length):=by rw[decide_eq_decide];constructor<;>intro h<;>omega
   have er:z1 ⟨ops,frags⟩=decide (0<ops.length+frags.length):=by simp[z1,e1,e2]
   rw[er] at hQ
   simp(disch:=first|omega|assumption) only[hco,hcf,hlt,wl,ec,go_sem]
   exact hQ _ _ _ _ nofun rfl (by simp[ze,zd,AV.strip,AV.strip1])
  ·rintro done x rest _ H J hd hlt hlt2 hx hJ
   have hg:=zar hd
   have hbm:=zbp done x rest
   rw[← hd] at hbm
   have hbad:Zi x=false→z1 ⟨ops,frags⟩=false:=fun e=>by
    have:frags.all Zi=false:=by rw[hx];simp[e]
    simp[z1,this]
   have hst:Zi x=true→frags.all Zi=rest.all Zi:=fun e=>by rw[hx];simp[e]
   obtain⟨nm,on,dirs,sels⟩:=x
   simp only[bF] at hbm
   have ef:cF ⟨nm,on,dirs,sels⟩=[.str nm,.str on,.sl .no 2 (cDs dirs),.sl .no 7 (cSs sels)]:=rfl
   rw[ef] at hg
   simp(disch:=first|omega|assumption) only[hcf,hlt,hg,go_sem]
   refine zv fun b hb=>?_
   simp(disch:=first|omega|assumption) only[go_sem]
   refine zc (ZC nm (by simp only[Lim];omega)) ?_
   cases h1:zJ nm with
   | false =>
    simp(disch:=first|omega|assumption) only[go_sem]
    have hbd:=hbad (by simp[Zi,h1])
    exact hQ _ _ _ _ nofun rfl (by simp[ze,zd,AV.strip,AV.strip1,hbd])
   | true =>
    by_cases h2:nm=[111,110]
    ·simp(disch:=first|omega|assumption) only[h2,go_sem]
     have hbd:=hbad (by simp[Zi,h2])
     exact hQ _ _ _ _ nofun rfl (by simp[ze,zd,AV.strip,AV.strip1,hbd])
    ·simp(disch:=first|omega|assumption) only[h2,go_sem]
     refine zc (ZC on (by simp only[Lim];omega)) ?_
     cases h3:zJ on with
     | false =>
      simp(disch:=first|omega|assumption) only[go_sem]
      have hbd:=hbad (by simp[Zi,h3])
      exact hQ _ _ _ _ nofun rfl (by simp[ze,zd,AV.strip,AV.strip1,hbd])
     | true =>
      simp(disch:=first|omega|assumption) only[go_sem]
      refine zc (Y9 dirs (by simp only[Lim];omega) 0 (by decide) (by decide) true) ?_
      cases h4:yf 0 true dirs with
      | false =>
       simp(disch:=first|omega|assumption) only[go_sem]
       have hbd:=hbad (by simp[Zi,h4])
       exact hQ _ _ _ _ nofun rfl (by simp[ze,zd,AV.strip,AV.strip1,hbd])
      | true =>
       simp(disch:=first|omega|assumption) only[go_sem]
       refine zc (za8 (bSs sels) sels (Al4 _) (by simp only[Lim];omega) 1 (by decide) (by decide)) ?_
       cases h5:zI 1 sels with
       | false =>
        simp(disch:=first|omega|assumption) only[go_sem]
        have hbd:=hbad (by simp[Zi,h5])
        exact hQ _ _ _ _ nofun rfl (by simp[ze,zd,AV.strip,AV.strip1,hbd])
       | true =>
        simp(disch:=first|omega|assumption) only[wrap64,go_sem]
        exact goJ (hJ () _ (hst (by simp[Zi,h1,h2,h3,h4,h5]))) (by simp(disch:=first|omega|assumption) only[go_sem])
 ·rintro done x rest _ H J hd hlt hlt2 hx hJ
  have hg:=zaF hd
  have hbm:=zbn done x rest
  rw[← hd] at hbm
  have hbad:yi x=false→z1 ⟨ops,frags⟩=false:=fun e=>by
   have:ops.all yi=false:=by rw[hx];simp[e]
   simp[z1,this]
  have hst:yi x=true→ops.all yi=rest.all yi:=fun e=>by rw[hx];simp[e]
  obtain⟨k,nm,vars,dirs,sels⟩:=x
  simp only[bO] at hbm
  have ef:cO ⟨k,nm,vars,dirs,sels⟩=[.int .i64 k,.str nm,.sl .no 10 (cWs vars),.sl .no 2 (cDs dirs),.sl .no 7 (cSs sels)]:=rfl
  rw[ef] at hg
  have hcw:=zaz vars
  have hwl:=zbt vars
  simp(disch:=first|omega|assumption) only[hco,hlt,hg,go_sem]
  refine zv fun b hb=>?_
  have hbc:(H.upd b (.cells [.int .i64 k,.str nm,.sl .no 10 (cWs vars),.sl .no 2 (cDs dirs),.sl .no 7 (cSs sels)])) b=some (.cells [.int .i64 k,.str nm,.sl .no 10 (cWs vars),.sl .no 2 (cDs dirs),.sl .no 7 (cSs sels)]):=upd_same ..
  by_cases hk:k=0∨k=1
  case neg =>
   have hk0:¬ (k=0):=fun e=>hk (.inl e)
   have hk1:¬ (k=1):=fun e=>hk (.inr e)
   simp(disch:=first|omega|assumption) only[hk0,hk1,go_sem]
   have hbd:=hbad (by simp[yi,hk0,hk1])
   exact hQ _ _ _ _ nofun rfl (by simp[ze,zd,AV.strip,AV.strip1,hbd])
  have hkb:(decide (k=0)||decide (k=1))=true:=by simpa using hk
  by_cases hn:nm=[]
  case pos =>
   subst hn
   have hnb:(decide (([]:List UInt8)=[])||zJ [])=true:=rfl
   rcases hk with hk|hk
   ·subst hk
    simp(disch:=first|omega|assumption) only[go_sem]
    refine zc (Y9 dirs (by simp only[Lim];omega) 0 (by decide) (by decide) true) ?_
    cases h4:yf 0 true dirs with
    | false =>
     simp(disch:=first|omega|assumption) only[go_sem]
     have hbd:=hbad (by simp[yi,h4])
     exact hQ _ _ _ _ nofun rfl (by simp[ze,zd,AV.strip,AV.strip1,hbd])
    | true =>
     simp(disch:=first|omega|assumption) only[go_sem]
     refine zc (za8 (bSs sels) sels (Al4 _) (by simp only[Lim];omega) 1 (by decide) (by decide)) ?_
     cases h5:zI 1 sels with
     | false =>
      simp(disch:=first|omega|assumption) only[go_sem]
      have hbd:=hbad (by simp[yi,h5])
      exact hQ _ _ _ _ nofun rfl (by simp[ze,zd,AV.strip,AV.strip1,hbd])
     | true =>
      simp(disch:=first|omega|assumption) only[go_sem]
      refine zm vars 5 (fun _:Unit=>[]) (fun done rest _ H'=>vars.all yk=rest.all yk∧H' b=some (.cells [.int .i64 0,.str ([]:List UInt8),.sl .no 10 (cWs vars),.sl .no 2 (cDs dirs),.sl .no 7 (cSs sels)])) () (by simp(disch:=first|omega|assumption) only[go_sem]) ⟨rfl,hbc⟩ ?_ ?_
      case refine_1 =>
       rintro _ H2 J2 ⟨hx2,hb2⟩ hlt3
       have e2:vars.all yk=true:=hx2
       simp(disch:=first|omega|assumption) only[hcw,hlt3,hb2,wrap64,go_sem]
       exact goJ (hJ () _ (hst (by simp[yi,hnb,e2,h4,h5]))) (by simp(disch:=first|omega|assumption) only[go_sem])
      case refine_2 =>
       rintro done2 x rest2 _ H2 J2 hd2 hlt3 hlt4 ⟨hx2,hb2⟩ hJ2
       have hg2:=yX hd2
       have hbw2:=y7 done2 x rest2
       rw[← hd2] at hbw2
       have hbadW:yk x=false→z1 ⟨ops,frags⟩=false:=fun e=>hbad (by
        have:vars.all yk=false:=by rw[hx2];simp[e]
        simp[yi,this])
       have hstW:yk x=true→vars.all yk=rest2.all yk:=fun e=>by rw[hx2];simp[e]
       have erw:=Ym x
       obtain⟨vn,⟨tn,tl,tm⟩,vh,vd⟩:=x
       have hbx:bW ⟨vn,⟨tn,tl,tm⟩,vh,vd⟩=vn.length+tn.length+bV vd:=rfl
       rw[Ye] at hg2
       simp only at hg2 erw
       simp(disch:=first|omega|assumption) only[zi,zf,zb,zj,zg,za,zk,hcw,hlt3,hb2,hg2,go_sem]
       refine zc (ZC vn (by simp only[Lim];omega)) ?_
       cases g1:zJ vn with
       | false =>
        simp(disch:=first|omega|assumption) only[go_sem]
        have hbd:=hbadW (by rw[erw,g1];rfl)
        exact hQ _ _ _ _ nofun rfl (by simp[ze,zd,AV.strip,AV.strip1,hbd])
       | true =>
        simp(disch:=first|omega|assumption) only[zi,zf,zb,zj,zg,za,zk,hcw,hlt3,hb2,hg2,go_sem]
        refine zc (show zo Tryz.prog 82 [.agg [.str tn,.int .i64 tl,.int .i64 tm]] (.bool (zT ⟨tn,tl,tm⟩)) from zb8 ⟨tn,tl,tm⟩ (by simp only[Lim];omega)) ?_
        cases g2:zT ⟨tn,tl,tm⟩ with
        | false =>
         simp(disch:=first|omega|assumption) only[go_sem]
         have hbd:=hbadW (by rw[erw,g1,g2];rfl)
         exact hQ _ _ _ _ nofun rfl (by simp[ze,zd,AV.strip,AV.strip1,hbd])
        | true =>
         simp(disch:=first|omega|assumption) only[zi,zf,zb,zj,zg,za,zk,hcw,hlt3,hb2,hg2,go_sem]
         refine zc (zb5 vh vd (by simp only[Lim];omega)) ?_
         cases g3:Yq vh vd with
         | false =>
          simp(disch:=first|omega|assumption) only[zi,zf,zb,zj,zg,za,zk,hcw,hlt3,hb2,hg2,go_sem]
          have hbd:=hbadW (by rw[erw,g1,g2,g3];rfl)
          exact hQ _ _ _ _ nofun rfl (by simp[ze,zd,AV.strip,AV.strip1,hbd])
         | true =>
          simp(disch:=first|omega|assumption) only[zi,zf,zb,zj,zg,za,zk,hcw,hlt3,hb2,hg2,wrap64,go_sem]
          exact goJ (hJ2 () _ ⟨hstW (by rw[erw,g1,g2,g3];rfl),hb2⟩) (by simp(disch:=first|omega|assumption) only[go_sem])
   ·subst hk
    simp(disch:=first|omega|assumption) only[go_sem]
    refine zc (Y9 dirs (by simp only[Lim];omega) 0 (by decide) (by decide) true) ?_
    cases h4:yf 0 true dirs with
    | false =>
     simp(disch:=first|omega|assumption) only[go_sem]
     have hbd:=hbad (by simp[yi,h4])
     exact hQ _ _ _ _ nofun rfl (by simp[ze,zd,AV.strip,AV.strip1,hbd])
    | true =>
     simp(disch:=first|omega|assumption) only[go_sem]
     refine zc (za8 (bSs sels) sels (Al4 _) (by simp only[Lim];omega) 1 (by decide) (by decide)) ?_
     cases h5:zI 1 sels with
     | false =>
      simp(disch:=first|omega|assumption) only[go_sem]
      have hbd:=hbad (by simp[yi,h5])
      exact hQ _ _ _ _ nofun rfl (by simp[ze,zd,AV.strip,AV.strip1,hbd])
     | true =>
      simp(disch:=first|omega|assumption) only[go_sem]
      refine zm vars 5 (fun _:Unit=>[]) (fun done rest _ H'=>vars.all yk=rest.all yk∧H' b=some (.cells [.int .i64 1,.str ([]:List UInt8),.sl .no 10 (cWs vars),.sl .no 2 (cDs dirs),.sl .no 7 (cSs sels)])) () (by simp(disch:=first|omega|assumption) only[go_sem]) ⟨rfl,hbc⟩ ?_ ?_
      case refine_1 =>
       rintro _ H2 J2 ⟨hx2,hb2⟩ hlt3
       have e2:vars.all yk=true:=hx2
       simp(disch:=first|omega|assumption) only[hcw,hlt3,hb2,wrap64,go_sem]
       exact goJ (hJ () _ (hst (by simp[yi,hnb,e2,h4,h5]))) (by simp(disch:=first|omega|assumption) only[go_sem])
      case refine_2 =>
       rintro done2 x rest2 _ H2 J2 hd2 hlt3 hlt4 ⟨hx2,hb2⟩ hJ2
       have hg2:=yX hd2
       have hbw2:=y7 done2 x rest2
       rw[← hd2] at hbw2
       have hbadW:yk x=false→z1 ⟨ops,frags⟩=false:=fun e=>hbad (by
        have:vars.all yk=false:=by rw[hx2];simp[e]
        simp[yi,this])
       have hstW:yk x=true→vars.all yk=rest2.all yk:=fun e=>by rw[hx2];simp[e]
       have erw:=Ym x
       obtain⟨vn,⟨tn,tl,tm⟩,vh,vd⟩:=x
       have hbx:bW ⟨vn,⟨tn,tl,tm⟩,vh,vd⟩=vn.length+tn.length+bV vd:=rfl
       rw[Ye] at hg2
       simp only at hg2 erw
       simp(disch:=first|omega|assumption) only[zi,zf,zb,zj,zg,za,zk,hcw,hlt3,hb2,hg2,go_sem]
       refine zc (ZC vn (by simp only[Lim];omega)) ?_
       cases g1:zJ vn with
       | false =>
        simp(disch:=first|omega|assumption) only[go_sem]
        have hbd:=hbadW (by rw[erw,g1];rfl)
        exact hQ _ _ _ _ nofun rfl (by simp[ze,zd,AV.strip,AV.strip1,hbd])
       | true =>
        simp(disch:=first|omega|assumption) only[zi,zf,zb,zj,zg,za,zk,hcw,hlt3,hb2,hg2,go_sem]
        refine zc (show zo Tryz.prog 82 [.agg [.str tn,.int .i64 tl,.int .i64 tm]] (.bool (zT ⟨tn,tl,tm⟩)) from zb8 ⟨tn,tl,tm⟩ (by simp only[Lim];omega)) ?_
        cases g2:zT ⟨tn,tl,tm⟩ with
        | false =>
         simp(disch:=first|omega|assumption) only[go_sem]
         have hbd:=hbadW (by rw[erw,g1,g2];rfl)
         exact hQ _ _ _ _ nofun rfl (by simp[ze,zd,AV.strip,AV.strip1,hbd])
        | true =>
         simp(disch:=first|omega|assumption) only[zi,zf,zb,zj,zg,za,zk,hcw,hlt3,hb2,hg2,go_sem]
         refine zc (zb5 vh vd (by simp only[Lim];omega)) ?_
         cases g3:Yq vh vd with
         | false =>
          simp(disch:=first|omega|assumption) only[zi,zf,zb,zj,zg,za,zk,hcw,hlt3,hb2,hg2,go_sem]
          have hbd:=hbadW (by rw[erw,g1,g2,g3];rfl)
          exact hQ _ _ _ _ nofun rfl (by simp[ze,zd,AV.strip,AV.strip1,hbd])
         | true =>
          simp(disch:=first|omega|assumption) only[zi,zf,zb,zj,zg,za,zk,hcw,hlt3,hb2,hg2,wrap64,go_sem]
          exact goJ (hJ2 () _ ⟨hstW (by rw[erw,g1,g2,g3];rfl),hb2⟩) (by simp(disch:=first|omega|assumption) only[go_sem])
  case neg =>
   cases hnm:zJ nm with
   | false =>
    have hbd:=hbad (by simp[yi,hn,hnm])
    rcases hk with hk|hk
    ·subst hk
     simp(disch:=first|omega|assumption) only[hn,go_sem]
     refine zc (ZC nm (by simp only[Lim];omega)) ?_
     simp(disch:=first|omega|assumption) only[hnm,go_sem]
     exact hQ _ _ _ _ nofun rfl (by simp[ze,zd,AV.strip,AV.strip1,hbd])
    ·subst hk
     simp(disch:=first|omega|assumption) only[hn,go_sem]
     refine zc (ZC nm (by simp only[Lim];omega)) ?_
     simp(disch:=first|omega|assumption) only[hnm,go_sem]
     exact hQ _ _ _ _ nofun rfl (by simp[ze,zd,AV.strip,AV.strip1,hbd])
   | true =>
    have hnb:(decide (nm=[])||zJ nm)=true:=by simp[hnm]
    rcases hk with hk|hk
    ·subst hk
     simp(disch:=first|omega|assumption) only[hn,go_sem]
     refine zc (ZC nm (by simp only[Lim];omega)) ?_
     simp(disch:=first|omega|assumption) only[hnm,go_sem]
     refine zc (Y9 dirs (by simp only[Lim];omega) 0 (by decide) (by decide) true) ?_
     cases h4:yf 0 true dirs with
     | false =>
      simp(disch:=first|omega|assumption) only[go_sem]
      have hbd:=hbad (by simp[yi,h4])
      exact hQ _ _ _ _ nofun rfl (by simp[ze,zd,AV.strip,AV.strip1,hbd])
     | true =>
      simp(disch:=first|omega|assumption) only[go_sem]
      refine zc (za8 (bSs sels) sels (Al4 _) (by simp only[Lim];omega) 1 (by decide) (by decide)) ?_
      cases h5:zI 1 sels with
      | false =>
       simp(disch:=first|omega|assumption) only[go_sem]
       have hbd:=hbad (by simp[yi,h5])
       exact hQ _ _ _ _ nofun rfl (by simp[ze,zd,AV.strip,AV.strip1,hbd])
      | true =>
       simp(disch:=first|omega|assumption) only[go_sem]
       refine zm vars 5 (fun _:Unit=>[]) (fun done rest _ H'=>vars.all yk=rest.all yk∧H' b=some (.cells [.int .i64 0,.str nm,.sl .no 10 (cWs vars),.sl .no 2 (cDs dirs),.sl .no 7 (cSs sels)])) () (by simp(disch:=first|omega|assumption) only[go_sem]) ⟨rfl,hbc⟩ ?_ ?_
       case refine_1 =>
        rintro _ H2 J2 ⟨hx2,hb2⟩ hlt3
        have e2:vars.all yk=true:=hx2
        simp(disch:=first|omega|assumption) only[hcw,hlt3,hb2,wrap64,go_sem]
        exact goJ (hJ () _ (hst (by simp[yi,hnb,e2,h4,h5]))) (by simp(disch:=first|omega|assumption) only[go_sem])
       case refine_2 =>
        rintro done2 x rest2 _ H2 J2 hd2 hlt3 hlt4 ⟨hx2,hb2⟩ hJ2
        have hg2:=yX hd2
        have hbw2:=y7 done2 x rest2
        rw[← hd2] at hbw2
        have hbadW:yk x=false→z1 ⟨ops,frags⟩=false:=fun e=>hbad (by
         have:vars.all yk=false:=by rw[hx2];simp[e]
         simp[yi,this])
        have hstW:yk x=true→vars.all yk=rest2.all yk:=fun e=>by rw[hx2];simp[e]
        have erw:=Ym x
        obtain⟨vn,⟨tn,tl,tm⟩,vh,vd⟩:=x
        have hbx:bW ⟨vn,⟨tn,tl,tm⟩,vh,vd⟩=vn.length+tn.length+bV vd:=rfl
        rw[Ye] at hg2
        simp only at hg2 erw
        simp(disch:=first|omega|assumption) only[zi,zf,zb,zj,zg,za,zk,hcw,hlt3,hb2,hg2,go_sem]
        refine zc (ZC vn (by simp only[Lim];omega)) ?_
        cases g1:zJ vn with
        | false =>
         simp(disch:=first|omega|assumption) only[go_sem]
         have hbd:=hbadW (by rw[erw,g1];rfl)
         exact hQ _ _ _ _ nofun rfl (by simp[ze,zd,AV.strip,AV.strip1,hbd])
        | true =>
         simp(disch:=first|omega|assumption) only[zi,zf,zb,zj,zg,za,zk,hcw,hlt3,hb2,hg2,go_sem]
         refine zc (show zo Tryz.prog 82 [.agg [.str tn,.int .i64 tl,.int .i64 tm]] (.bool (zT ⟨tn,tl,tm⟩)) from zb8 ⟨tn,tl,tm⟩ (by simp only[Lim];omega)) ?_
         cases g2:zT ⟨tn,tl,tm⟩ with
         | false =>
          simp(disch:=first|omega|assumption) only[go_sem]
          have hbd:=hbadW (by rw[erw,g1,g2];rfl)
          exact hQ _ _ _ _ nofun rfl (by simp[ze,zd,AV.strip,AV.strip1,hbd])
         | true =>
          simp(disch:=first|omega|assumption) only[zi,zf,zb,zj,zg,za,zk,hcw,hlt3,hb2,hg2,go_sem]
          refine zc (zb5 vh vd (by simp only[Lim];omega)) ?_
          cases g3:Yq vh vd with
          | false =>
           simp(disch:=first|omega|assumption) only[zi,zf,zb,zj,zg,za,zk,hcw,hlt3,hb2,hg2,go_sem]
           have hbd:=hbadW (by rw[erw,g1,g2,g3];rfl)
           exact hQ _ _ _ _ nofun rfl (by simp[ze,zd,AV.strip,AV.strip1,hbd])
          | true =>
           simp(disch:=first|omega|assumption) only[zi,zf,zb,zj,zg,za,zk,hcw,hlt3,hb2,hg2,wrap64,go_sem]
           exact goJ (hJ2 () _ ⟨hstW (by rw[erw,g1,g2,g3];rfl),hb2⟩) (by simp(disch:=first|omega|assumption) only[go_sem])
    ·subst hk
     simp(disch:=first|omega|assumption) only[hn,go_sem]
     refine zc (ZC nm (by simp only[Lim];omega)) ?_
     simp(disch:=first|omega|assumption) only[hnm,go_sem]
     refine zc (Y9 dirs (by simp only[Lim];omega) 0 (by decide) (by decide) true) ?_
     cases h4:yf 0 true dirs with
     | false =>
      simp(disch:=first|omega|assumption) only[go_sem]
      have hbd:=hbad (by simp[yi,h4])
      exact hQ _ _ _ _ nofun rfl (by simp[ze,zd,AV.strip,AV.strip1,hbd])
     | true =>
      simp(disch:=first|omega|assumption) only[go_sem]
      refine zc (za8 (bSs sels) sels (Al4 _) (by simp only[Lim];omega) 1 (by decide) (by decide)) ?_
      cases h5:zI 1 sels with
      | false =>
       simp(disch:=first|omega|assumption) only[go_sem]
       have hbd:=hbad (by simp[yi,h5])
       exact hQ _ _ _ _ nofun rfl (by simp[ze,zd,AV.strip,AV.strip1,hbd])
      | true =>
       simp(disch:=first|omega|assumption) only[go_sem]
       refine zm vars 5 (fun _:Unit=>[]) (fun done rest _ H'=>vars.all yk=rest.all yk∧H' b=some (.cells [.int .i64 1,.str nm,.sl .no 10 (cWs vars),.sl .no 2 (cDs dirs),.sl .no 7 (cSs sels)])) () (by simp(disch:=first|omega|assumption) only[go_sem]) ⟨rfl,hbc⟩ ?_ ?_
       case refine_1 =>
        rintro _ H2 J2 ⟨hx2,hb2⟩ hlt3
        have e2:vars.all yk=true:=hx2
        simp(disch:=first|omega|assumption) only[hcw,hlt3,hb2,wrap64,go_sem]
        exact goJ (hJ () _ (hst (by simp[yi,hnb,e2,h4,h5]))) (by simp(disch:=first|omega|assumption) only[go_sem])
       case refine_2 =>
        rintro done2 x rest2 _ H2 J2 hd2 hlt3 hlt4 ⟨hx2,hb2⟩ hJ2
        have hg2:=yX hd2
        have hbw2:=y7 done2 x rest2
        rw[← hd2] at hbw2
        have hbadW:yk x=false→z1 ⟨ops,frags⟩=false:=fun e=>hbad (by
         have:vars.all yk=false:=by rw[hx2];simp[e]
         simp[yi,this])
        have hstW:yk x=true→vars.all yk=rest2.all yk:=fun e=>by rw[hx2];simp[e]
        have erw:=Ym x
        obtain⟨vn,⟨tn,tl,tm⟩,vh,vd⟩:=x
        have hbx:bW ⟨vn,⟨tn,tl,tm⟩,vh,vd⟩=vn.length+tn.length+bV vd:=rfl
        rw[Ye] at hg2
        simp only at hg2 erw
        simp(disch:=first|omega|assumption) only[zi,zf,zb,zj,zg,za,zk,hcw,hlt3,hb2,hg2,go_sem]
        refine zc (ZC vn (by simp only[Lim];omega)) ?_
        cases g1:zJ vn with
        | false =>
         simp(disch:=first|omega|assumption) only[go_sem]
         have hbd:=hbadW (by rw[erw,g1];rfl)
         exact hQ _ _ _ _ nofun rfl (by simp[ze,zd,AV.strip,AV.strip1,hbd])
        | true =>
         simp(disch:=first|omega|assumption) only[zi,zf,zb,zj,zg,za,zk,hcw,hlt3,hb2,hg2,go_sem]
         refine zc (show zo Tryz.prog 82 [.agg [.str tn,.int .i64 tl,.int .i64 tm]] (.bool (zT ⟨tn,tl,tm⟩)) from zb8 ⟨tn,tl,tm⟩ (by simp only[Lim];omega)) ?_
         cases g2:zT ⟨tn,tl,tm⟩ with
         | false =>
          simp(disch:=first|omega|assumption) only[go_sem]
          have hbd:=hbadW (by rw[erw,g1,g2];rfl)
          exact hQ _ _ _ _ nofun rfl (by simp[ze,zd,AV.strip,AV.strip1,hbd])
         | true =>
          simp(disch:=first|omega|assumption) only[zi,zf,zb,zj,zg,za,zk,hcw,hlt3,hb2,hg2,go_sem]
          refine zc (zb5 vh vd (by simp only[Lim];omega)) ?_
          cases g3:Yq vh vd with
          | false =>
           simp(disch:=first|omega|assumption) only[zi,zf,zb,zj,zg,za,zk,hcw,hlt3,hb2,hg2,go_sem]
           have hbd:=hbadW (by rw[erw,g1,g2,g3];rfl)
           exact hQ _ _ _ _ nofun rfl (by simp[ze,zd,AV.strip,AV.strip1,hbd])
          | true =>
           simp(disch:=first|omega|assumption) only[zi,zf,zb,zj,zg,za,zk,hcw,hlt3,hb2,hg2,wrap64,go_sem]
           exact goJ (hJ2 () _ ⟨hstW (by rw[erw,g1,g2,g3];rfl),hb2⟩) (by simp(disch:=first|omega|assumption) only[go_sem])
structure VAt (H:zh) (w:Nat) (o:Own) (l:List Tok):Prop where
 cell:H w=some (.cells [.sl o 2 (cKs l)])
 own:yB H o l.length 2
structure VR (H0:zh) (o0:Own) (w:Nat) (l0 tk:List Tok) (H:zh) (o:Own):Prop where
 here:VAt H w o (l0++tk)
 st:WStep H0 o0 w H o
def VC (f:FuncId) (args:List AV) (tk:List Tok):Prop :=
 ∀(H:zh) (w:Nat) (o:Own) (l:List Tok),VAt H w o l→l.length+tk.length≤Lim →
  zC Tryz.prog f (.ptr w 0::args) H (zmS fun v H'=>v=.tup []∧∃ o',VR H o w l tk H' o')
theorem VR.refl {H:zh} {o:Own} {w:Nat} {l:List Tok} (h:VAt H w o l):VR H o w l [] H o:=⟨by rw[List.append_nil];exact h,.refl _ _ _⟩
theorem VAt.alloc {H:zh} {w b:Nat} {o:Own} {l:List Tok} {x:AObj} (h:VAt H w o l) (hb:H b=none):VAt (H.upd b x) w o l :=
 ⟨by rw[upd_ne (fun e=>by subst e;rw[h.cell] at hb;cases hb)];exact h.cell,h.own.upd hb⟩
theorem VR.alloc {H0 H:zh} {o0 o:Own} {w b:Nat} {l0 tk:List Tok} {x:AObj} (h:VR H0 o0 w l0 tk H o) (hb:H b=none):VR H0 o0 w l0 tk (H.upd b x) o:=⟨h.here.alloc hb,h.st.alloc hb⟩
theorem VR.cast {H0 H:zh} {o0 o:Own} {w:Nat} {l0 tk tk':List Tok} (h:VR H0 o0 w l0 tk H o) (e:tk=tk'):VR H0 o0 w l0 tk' H o:=e▸h
theorem VAt.app {H H1:zh} {w:Nat} {o o1:Own} {l ts:List Tok} {n:Nat} (h:VAt H w o l) (hs:OwnS H o H1 o1 n 2) (hn:n=(l++ts).length) :
  H1 w=some (.cells [.sl o 2 (cKs l)])∧VR H o w l ts (H1.upd w (.cells [.sl o1 2 (cKs (l++ts))])) o1:=by
 subst hn
 have hc:=Yc h.own h.cell hs.kept
 exact⟨hc,⟨upd_same ..,Ys hs.own hc⟩,fun c y hcw hn hy=>by rw[upd_ne hcw];exact hs.kept c y hy hn,hs.new⟩
section
variable {KP:AV→zh→Prop} {Q:AExit→Env→zh→Prop} {st:List Fr} {ρ:Env} {H:zh} {all items:List AItem} {d:Option Nat} {R:List Chk}
theorem zq {f:FuncId} {args:List AV} {tk':List Tok} (hc:VC f args tk') {H0:zh} {o0 o:Own} {w:Nat} {l0 tk:List Tok} (h:VR H0 o0 w l0 tk H o) (hb:l0.length+(tk.length+tk'.length)≤Lim)
  (k:∀ o' H',VR H0 o0 w l0 (tk++tk') H' o'→WStep H o w H' o'→goR Tryz.prog KP Q all items st R (ρ.set d (.tup [])) H'):goK Tryz.prog KP Q all items st d R ρ f (.ptr w 0::args) H:=by
 refine zfj (hc H w o _ h.here (by simp only[Al5];omega)) fun v H' ⟨hv,o',h2⟩=>?_
 subst hv
 exact k o' H' ⟨by rw[← zd9];exact h2.here,h.st.trans h.here.cell h2.st⟩ h2.st
end
theorem pR (s:List UInt8):VC 74 [.str s] [pk s]:=by
 intro H w o l h hb
 refine zC.go ir74 ck74 (Al4 _) fun KP Q hQ=>?_
 have hkl:=z8 l
 have hc:=h.cell
 simp only[Lim,Al2,Al3] at hb
 simp(disch:=first|omega|assumption) only[ir74,hc,go_sem]
 refine zF (by rw[hkl];exact h.own) (by simp only[hkl,Al2,Al3];omega) (by simp only[hkl,Al2,Al3,maxLen];omega) fun o2 H2 hs2=>?_
 obtain⟨g1,g2⟩:=h.app (ts:=[pk s]) hs2 (by simp[hkl])
 have ek:cKs l++[[AV.int .i64 1,AV.str s]]=cKs (l++[pk s]):=Yn l (pk s)
 simp(disch:=first|omega|assumption) only[g1,ek,go_sem]
 exact hQ _ _ _ _ [] nofun rfl (Low.refl _) ⟨rfl,o2,g2⟩
theorem wR (s:List UInt8):VC 73 [.str s] [wk s]:=by
 intro H w o l h hb
 refine zC.go ir73 ck73 (Al4 _) fun KP Q hQ=>?_
 have hkl:=z8 l
 have hc:=h.cell
 simp only[Lim,Al2,Al3] at hb
 simp(disch:=first|omega|assumption) only[ir73,hc,go_sem]
 refine zF (by rw[hkl];exact h.own) (by simp only[hkl,Al2,Al3];omega) (by simp only[hkl,Al2,Al3,maxLen];omega) fun o2 H2 hs2=>?_
 obtain⟨g1,g2⟩:=h.app (ts:=[wk s]) hs2 (by simp[hkl])
 have ek:cKs l++[[AV.int .i64 2,AV.str s]]=cKs (l++[wk s]):=Yn l (wk s)
 simp(disch:=first|omega|assumption) only[g1,ek,go_sem]
 exact hQ _ _ _ _ [] nofun rfl (Low.refl _) ⟨rfl,o2,g2⟩
theorem Yp (v:Val) (hw:wfV v) (hv:4*bV v≤Lim):VC 76 [.agg (cV v)] (yD v):=by
 intro H w o l h hb
 refine zC.go ir76 ck76 (Al4 _) fun KP Q hQ=>?_
 have hkl:=z8 l
 have hkt:=z8 (yD v)
 have hc:=h.cell
 simp only[Lim] at hb
 simp(disch:=first|omega|assumption) only[zi,zf,zb,zj,zg,za,zk,ir76,hc,go_sem]
 refine zc (zj5 v hw hv) ?_
 simp(disch:=first|omega|assumption) only[zi,zf,zb,zj,zg,za,zk,hc,go_sem]
 refine zF (by rw[hkl];exact h.own) (by rw[hkl,hkt];omega) (by rw[hkl,hkt];simp only[maxLen];omega) fun o2 H2 hs2=>?_
 obtain⟨g1,g2⟩:=h.app (ts:=yD v) hs2 (by simp[hkl,hkt])
 rw[zbV] at g2
 simp(disch:=first|omega|assumption) only[g1,ZK,go_sem]
 exact hQ _ _ _ _ [] nofun rfl (Low.refl _) ⟨rfl,o2,g2⟩
theorem tyR (t:TyD) (hr:zT t=true):VC 75 [.agg (cTy t)] (tTy t):=by
 intro H w o l h hb
 refine zC.go ir75 ck75 (Al4 _) fun KP Q hQ=>?_
 obtain⟨nm,ls,ms⟩:=t
 have et:cTy ⟨nm,ls,ms⟩=[.str nm,.int .i64 ls,.int .i64 ms]:=rfl
 simp only[zT,Al0,yv] at hr
 obtain⟨hnm,r1,r2,r3,r4⟩:=hr
 obtain⟨n,rfl⟩:∃ n:Nat,ls=(n:Int):=⟨ls.toNat,by omega⟩
 have en:(n:Int).toNat=n:=by omega
 rw[en] at r4
 have hn4:n≤4:=by omega
 have hms:ms<64:=by
  have:(2:Int) ^ (n+1)≤2 ^ 5:=by exact_mod_cast Nat.pow_le_pow_right (by decide) (by omega:n+1≤5)
  omega
 have hT:tTy ⟨nm,n,ms⟩=List.replicate n (pk [91])++[wk nm]++ZO n ms (n+1):=by simp only[tTy,en,zbo];simp
 have w0:=VR.refl h
 rw[hT] at hb
 simp only[Al5,List.length_replicate,Al2,Al3,Lim] at hb
 simp(disch:=first|omega|assumption) only[ir75,et,steps,st2,pev,rev,oev,zL,zQ,zX,zY,bound,zx,mm2,mk,zr,AV.cells,AV.boxable,AV.one,AV.strip1,zy,zw,Nat.reduceEqDiff,reduceCtorEq,↓reduceIte,Nat.reduceAdd,Int.reduceNeg,Nat.reduceLeDiff,Int.reduceToNat,Int.reduceEq,Int.reduceLT,Int.reduceLE,Int.reduceAdd,Io,Im,If,Il,Jt,Jf,AC.rg,Jm,Jl,Ja,Fm,Fl,Fa,Imv,Imb,Iai,Iei,Igi,Isi,Ipf,Ipt,Ilb,Iia,Ilt,Iap,Ink,Iln,Ils,Iad,Iex,Ibx,Ing]
 refine yO (fun x:Nat×Own=>[(4,.int .i64 x.1)]) (fun x H'=>x.1≤n∧VR H o w l (List.replicate x.1 (pk [91])) H' x.2) (fun x=>n-x.1) (0,o) (by simp(disch:=first|omega|assumption) only[steps,st2,pev,rev,oev,zL,zQ,zX,zY,bound,zx,mm2,mk,zr,AV.cells,AV.boxable,AV.one,AV.strip1,zy,zw,Nat.reduceEqDiff,reduceCtorEq,↓reduceIte,Nat.reduceAdd,Int.reduceNeg,Nat.reduceLeDiff,Int.reduceToNat,Int.reduceEq,Int.reduceLT,Int.reduceLE,Int.reduceAdd]) ⟨by simp,w0⟩ ?_
 rintro⟨i,o3⟩ H3 J ⟨hi,w3⟩ hJ
 simp only at hi w3
 by_cases hlt:i<n
 ·have hlt':((i:Int)<n)=True:=eq_true (by omega)
  simp(disch:=first|omega|assumption) only[hlt',steps,st2,pev,rev,oev,zL,zQ,zX,zY,bound,zx,mm2,mk,zr,AV.cells,AV.boxable,AV.one,AV.strip1,zy,zw,Nat.reduceEqDiff,reduceCtorEq,↓reduceIte,Nat.reduceAdd,Int.reduceNeg,Nat.reduceLeDiff,Int.reduceToNat,Int.reduceEq,Int.reduceLT,Int.reduceLE,Int.reduceAdd]
  refine zq (pR [91]) w3 (by simp[Lim];omega) fun o4 H4 w4 _=>?_
  simp(disch:=first|omega|assumption) only[wrap64,steps,st2,pev,rev,oev,zL,zQ,zX,zY,bound,zx,mm2,mk,zr,AV.cells,AV.boxable,AV.one,AV.strip1,zy,zw,Nat.reduceEqDiff,reduceCtorEq,↓reduceIte,Nat.reduceAdd,Int.reduceNeg,Nat.reduceLeDiff,Int.reduceToNat,Int.reduceEq,Int.reduceLT,Int.reduceLE,Int.reduceAdd]
  exact goJ (hJ (i+1,o4) H4 (by simp only;omega) ⟨by simp only;omega,w4.cast (by rw[List.replicate_succ'])⟩) (by simp(disch:=first|omega|assumption) only[Int.natCast_add,steps,st2,pev,rev,oev,zL,zQ,zX,zY,bound,zx,mm2,mk,zr,AV.cells,AV.boxable,AV.one,AV.strip1,zy,zw,Nat.reduceEqDiff,reduceCtorEq,↓reduceIte,Nat.reduceAdd,Int.reduceNeg,Nat.reduceLeDiff,Int.reduceToNat,Int.reduceEq,Int.reduceLT,Int.reduceLE,Int.reduceAdd])
 ·have hlt':¬ ((i:Int)<n):=by omega
  obtain rfl:i=n:=by omega
  simp(disch:=first|omega|assumption) only[hlt',steps,st2,pev,rev,oev,zL,zQ,zX,zY,bound,zx,mm2,mk,zr,AV.cells,AV.boxable,AV.one,AV.strip1,zy,zw,Nat.reduceEqDiff,reduceCtorEq,↓reduceIte,Nat.reduceAdd,Int.reduceNeg,Nat.reduceLeDiff,Int.reduceToNat,Int.reduceEq,Int.reduceLT,Int.reduceLE,Int.reduceAdd]
  refine zq (wR nm) w3 (by simp[Lim];omega) fun o4 H4 w4 _=>?_
  simp(disch:=first|omega|assumption) only[steps,st2,pev,rev,oev,zL,zQ,zX,zY,bound,zx,mm2,mk,zr,AV.cells,AV.boxable,AV.one,AV.strip1,zy,zw,Nat.reduceEqDiff,reduceCtorEq,↓reduceIte,Nat.reduceAdd,Int.reduceNeg,Nat.reduceLeDiff,Int.reduceToNat,Int.reduceEq,Int.reduceLT,Int.reduceLE,Int.reduceAdd]
  refine yO (fun x:Nat×Own×List Tok=>[(5,.int .i64 ((x.1:Int)-1))]) (fun x H'=>x.1≤i+1∧x.2.2++ZO i ms x.1=tTy ⟨nm,i,ms⟩∧VR H o w l x.2.2 H' x.2.1) (fun x=>x.1)
   (i+1,o4,List.replicate i (pk [91])++[wk nm]) (by simp(disch:=first|omega|assumption) only[Int.natCast_add,Int.add_sub_cancel,steps,st2,pev,rev,oev,zL,zQ,zX,zY,bound,zx,mm2,mk,zr,AV.cells,AV.boxable,AV.one,AV.strip1,zy,zw,Nat.reduceEqDiff,reduceCtorEq,↓reduceIte,Nat.reduceAdd,Int.reduceNeg,Nat.reduceLeDiff,Int.reduceToNat,Int.reduceEq,Int.reduceLT,Int.reduceLE,Int.reduceAdd]) ⟨by simp,hT.symm,w4⟩ ?_
  rintro⟨k,o5,tk⟩ H5 J5 ⟨hk,htk,w5⟩ hJ5
  simp only at hk htk w5
  have hbk:l.length+tk.length+2≤1099511627776+2:=by
   have:=congrArg List.length htk
   rw[hT] at this
   simp only[Al5,List.length_replicate,Al2,Al3] at this
   omega
  cases k with
  | zero =>
   have hz:¬ ((0:Int)≤-1):=by omega
   simp only[ZO,List.append_nil] at htk
   simp(disch:=first|omega|assumption) only[hz,Int.reduceSub,steps,st2,pev,rev,oev,zL,zQ,zX,zY,bound,zx,mm2,mk,zr,AV.cells,AV.boxable,AV.one,AV.strip1,zy,zw,Nat.reduceEqDiff,reduceCtorEq,↓reduceIte,Nat.reduceAdd,Int.reduceNeg,Nat.reduceLeDiff,Int.reduceToNat,Int.reduceEq,Int.reduceLT,Int.reduceLE,Int.reduceAdd]
   exact hQ _ _ H5 H5 [] nofun rfl (Low.refl _) ⟨rfl,o5,w5.cast htk⟩
  | succ j =>
   have e0:((j+1:Nat):Int)-1=(j:Int):=by omega
   have hz:((0:Int)≤j)=True:=eq_true (by omega)
   have hbit:=zkp ms j (by omega)
   have hq0:0≤ms / 2 ^ j:=Int.ediv_nonneg r3 (by exact_mod_cast Nat.zero_le _)
   have hq1:ms / 2 ^ j<64:=by
    have:ms / 2 ^ j≤ms:=Int.ediv_le_self _ r3
    omega
   have ha:=and1 hq0 hq1
   have hj0:¬ ((j:Int)<0):=by omega
   have hwu:=zlN (n:=j) (by omega)
   have hle:tk.length+(ZO i ms (j+1)).length+l.length≤1099511627776:=by
    have:=congrArg List.length htk
    rw[hT] at this
    simp only[Al5,List.length_replicate,Al2,Al3] at this
    omega
   simp only[ZO,zgW] at htk hle
   by_cases hji:j<i
   ·have hji':((j:Int)<i)=True:=eq_true (by omega)
    rw[if_pos hji] at htk hle
    by_cases hbt:ms / 2 ^ j % 2=1
    ·have hbb:zaN ms j=true:=by simp[zaN,hbt]
     rw[hbb] at htk hle
     simp only[if_true,Al5,Al2,Al3] at hle
     simp(disch:=first|omega|assumption) only[e0,hz,hji',steps,st2,pev,rev,oev,zL,zQ,zX,zY,bound,zx,mm2,mk,zr,AV.cells,AV.boxable,AV.one,AV.strip1,zy,zw,Nat.reduceEqDiff,reduceCtorEq,↓reduceIte,Nat.reduceAdd,Int.reduceNeg,Nat.reduceLeDiff,Int.reduceToNat,Int.reduceEq,Int.reduceLT,Int.reduceLE,Int.reduceAdd]
     refine zq (pR [93]) w5 (by simp only[Lim,Al5,Al2,Al3];omega) fun o6 H6 w6 _=>?_
     simp(disch:=first|omega|assumption) only[hwu,hbit,hj0,ha,hbt,steps,st2,pev,rev,oev,zL,zQ,zX,zY,bound,zx,mm2,mk,zr,AV.cells,AV.boxable,AV.one,AV.strip1,zy,zw,Nat.reduceEqDiff,reduceCtorEq,↓reduceIte,Nat.reduceAdd,Int.reduceNeg,Nat.reduceLeDiff,Int.reduceToNat,Int.reduceEq,Int.reduceLT,Int.reduceLE,Int.reduceAdd]
     refine zq (pR [33]) w6 (by simp only[Lim,Al5,Al2,Al3];omega) fun o7 H7 w7 _=>?_
     simp(disch:=first|omega|assumption) only[wrap64,steps,st2,pev,rev,oev,zL,zQ,zX,zY,bound,zx,mm2,mk,zr,AV.cells,AV.boxable,AV.one,AV.strip1,zy,zw,Nat.reduceEqDiff,reduceCtorEq,↓reduceIte,Nat.reduceAdd,Int.reduceNeg,Nat.reduceLeDiff,Int.reduceToNat,Int.reduceEq,Int.reduceLT,Int.reduceLE,Int.reduceAdd]
     exact goJ (hJ5 (j,o7,tk++[pk [93]]++[pk [33]]) H7 (Nat.lt_succ_self j) ⟨by simp only;omega,by rw[← htk];simp,w7⟩) (by simp(disch:=first|omega|assumption) only[steps,st2,pev,rev,oev,zL,zQ,zX,zY,bound,zx,mm2,mk,zr,AV.cells,AV.boxable,AV.one,AV.strip1,zy,zw,Nat.reduceEqDiff,reduceCtorEq,↓reduceIte,Nat.reduceAdd,Int.reduceNeg,Nat.reduceLeDiff,Int.reduceToNat,Int.reduceEq,Int.reduceLT,Int.reduceLE,Int.reduceAdd])
    ·have hbb:zaN ms j=false:=by simp[zaN,hbt]
     rw[hbb] at htk hle
     simp only[Al5,Al2,Al3] at hle
     simp(disch:=first|omega|assumption) only[e0,hz,hji',steps,st2,pev,rev,oev,zL,zQ,zX,zY,bound,zx,mm2,mk,zr,AV.cells,AV.boxable,AV.one,AV.strip1,zy,zw,Nat.reduceEqDiff,reduceCtorEq,↓reduceIte,Nat.reduceAdd,Int.reduceNeg,Nat.reduceLeDiff,Int.reduceToNat,Int.reduceEq,Int.reduceLT,Int.reduceLE,Int.reduceAdd]
     refine zq (pR [93]) w5 (by simp only[Lim,Al5,Al2,Al3];omega) fun o6 H6 w6 _=>?_
     simp(disch:=first|omega|assumption) only[hwu,hbit,hj0,ha,hbt,wrap64,steps,st2,pev,rev,oev,zL,zQ,zX,zY,bound,zx,mm2,mk,zr,AV.cells,AV.boxable,AV.one,AV.strip1,zy,zw,Nat.reduceEqDiff,reduceCtorEq,↓reduceIte,Nat.reduceAdd,Int.reduceNeg,Nat.reduceLeDiff,Int.reduceToNat,Int.reduceEq,Int.reduceLT,Int.reduceLE,Int.reduceAdd]
     exact goJ (hJ5 (j,o6,tk++[pk [93]]) H6 (Nat.lt_succ_self j) ⟨by simp only;omega,by rw[← htk];simp,w6⟩) (by simp(disch:=first|omega|assumption) only[steps,st2,pev,rev,oev,zL,zQ,zX,zY,bound,zx,mm2,mk,zr,AV.cells,AV.boxable,AV.one,AV.strip1,zy,zw,Nat.reduceEqDiff,reduceCtorEq,↓reduceIte,Nat.reduceAdd,Int.reduceNeg,Nat.reduceLeDiff,Int.reduceToNat,Int.reduceEq,Int.reduceLT,Int.reduceLE,Int.reduceAdd])
   ·have hji':¬ ((j:Int)<i):=by omega
    rw[if_neg hji] at htk hle
    by_cases hbt:ms / 2 ^ j % 2=1
    ·have hbb:zaN ms j=true:=by simp[zaN,hbt]
     rw[hbb] at htk hle
     simp only[if_true,Al5,Al2,Al3] at hle
     simp(disch:=first|omega|assumption) only[e0,hz,hji',hwu,hbit,hj0,ha,hbt,steps,st2,pev,rev,oev,zL,zQ,zX,zY,bound,zx,mm2,mk,zr,AV.cells,AV.boxable,AV.one,AV.strip1,zy,zw,Nat.reduceEqDiff,reduceCtorEq,↓reduceIte,Nat.reduceAdd,Int.reduceNeg,Nat.reduceLeDiff,Int.reduceToNat,Int.reduceEq,Int.reduceLT,Int.reduceLE,Int.reduceAdd]
     refine zq (pR [33]) w5 (by simp only[Lim,Al5,Al2,Al3];omega) fun o7 H7 w7 _=>?_
     simp(disch:=first|omega|assumption) only[wrap64,steps,st2,pev,rev,oev,zL,zQ,zX,zY,bound,zx,mm2,mk,zr,AV.cells,AV.boxable,AV.one,AV.strip1,zy,zw,Nat.reduceEqDiff,reduceCtorEq,↓reduceIte,Nat.reduceAdd,Int.reduceNeg,Nat.reduceLeDiff,Int.reduceToNat,Int.reduceEq,Int.reduceLT,Int.reduceLE,Int.reduceAdd]
     exact goJ (hJ5 (j,o7,tk++[pk [33]]) H7 (Nat.lt_succ_self j) ⟨by simp only;omega,by rw[← htk];simp,w7⟩) (by simp(disch:=first|omega|assumption) only[steps,st2,pev,rev,oev,zL,zQ,zX,zY,bound,zx,mm2,mk,zr,AV.cells,AV.boxable,AV.one,AV.strip1,zy,zw,Nat.reduceEqDiff,reduceCtorEq,↓reduceIte,Nat.reduceAdd,Int.reduceNeg,Nat.reduceLeDiff,Int.reduceToNat,Int.reduceEq,Int.reduceLT,Int.reduceLE,Int.reduceAdd])
    ·have hbb:zaN ms j=false:=by simp[zaN,hbt]
     rw[hbb] at htk
     simp(disch:=first|omega|assumption) only[e0,hz,hji',hwu,hbit,hj0,ha,hbt,wrap64,steps,st2,pev,rev,oev,zL,zQ,zX,zY,bound,zx,mm2,mk,zr,AV.cells,AV.boxable,AV.one,AV.strip1,zy,zw,Nat.reduceEqDiff,reduceCtorEq,↓reduceIte,Nat.reduceAdd,Int.reduceNeg,Nat.reduceLeDiff,Int.reduceToNat,Int.reduceEq,Int.reduceLT,Int.reduceLE,Int.reduceAdd]
     exact goJ (hJ5 (j,o5,tk) H5 (Nat.lt_succ_self j) ⟨by simp only;omega,by rw[← htk];simp,w5⟩) (by simp(disch:=first|omega|assumption) only[steps,st2,pev,rev,oev,zL,zQ,zX,zY,bound,zx,mm2,mk,zr,AV.cells,AV.boxable,AV.one,AV.strip1,zy,zw,Nat.reduceEqDiff,reduceCtorEq,↓reduceIte,Nat.reduceAdd,Int.reduceNeg,Nat.reduceLeDiff,Int.reduceToNat,Int.reduceEq,Int.reduceLT,Int.reduceLE,Int.reduceAdd])
theorem zho (m:List Mem) (hw:zco m) (hm:8*bMs m≤Lim):VC 146 [.sl .no 6 (cMs m)] (YI m):=by
 intro H w o l h hb
 have hml:=yI m
 have hcl:=yC m
 have hm':=hm
 simp only[Lim] at hm'
 refine zC.go ir146 ck146 (Al4 _) fun KP Q hQ=>?_
 have w0:=VR.refl h
 by_cases hz:m.length=0
 ·have hz':((m.length:Int)=0)=True:=eq_true (by omega)
  simp(disch:=first|omega|assumption) only[ir146,hcl,hz',go_sem]
  have em:=za7.1 hz
  subst em
  exact hQ _ _ H H [] nofun rfl (Low.refl _) ⟨rfl,o,w0⟩
 ·have hz':¬ ((m.length:Int)=0):=by omega
  have eT:YI m=pk [40]::(yQ m++[pk [41]]):=by unfold YI;rw[if_neg hz]
  rw[eT] at hb
  simp only[Al2,Al5,Al3,Lim] at hb
  simp(disch:=first|omega|assumption) only[ir146,hcl,hz',go_sem]
  refine zq (pR [40]) w0 (by simp only[Lim,Al2,Al3];omega) fun o2 H2 w2 _=>?_
  simp(disch:=first|omega|assumption) only[hcl,go_sem]
  refine zm m 4 (fun x:Own=>[]) (fun done rest x H'=>VR H o w l (pk [40]::yQ done) H' x) o2 (by simp(disch:=first|omega|assumption) only[go_sem]) w2 ?_ ?_
  ·rintro o3 H3 J w3 hlt
   simp(disch:=first|omega|assumption) only[hcl,hlt,go_sem]
   refine zq (pR [41]) w3 (by simp only[Lim,Al2,Al3];omega) fun o4 H4 w4 _=>?_
   simp(disch:=first|omega|assumption) only[go_sem]
   exact hQ _ _ H4 H4 [] nofun rfl (Low.refl _) ⟨rfl,o4,w4.cast (by rw[eT];simp)⟩
  ·rintro done x rest o3 H3 J hd hlt hlt2 w3 hJ
   have hg:=yT hd
   have hbm:=y6 done x rest
   rw[← hd] at hbm
   have hmem:x∈m:=by rw[hd];simp
   have hlen:(yQ m).length=(yQ done).length+(zcA x).length+(yQ rest).length:=by rw[hd,zbk];simp[yQ];omega
   obtain⟨s,v⟩:=x
   have hwv:=zaP hw s v hmem
   simp only[bM] at hbm
   have e2:(zcA (.mk s v)).length=2+(yD v).length:=by simp[zcA];omega
   rw[e2] at hlen
   simp(disch:=first|omega|assumption) only[zi,zf,zb,zj,zg,za,zk,hcl,hlt,hg,go_sem]
   refine zq (wR s) w3 (by simp only[Lim,Al2,Al3];omega) fun o5 H5 w5 _=>?_
   simp(disch:=first|omega|assumption) only[zi,zf,zb,zj,zg,za,zk,hcl,hlt,hg,go_sem]
   refine zq (pR [58]) w5 (by simp only[Lim,Al2,Al3,Al5];omega) fun o6 H6 w6 _=>?_
   simp(disch:=first|omega|assumption) only[zi,zf,zb,zj,zg,za,zk,hcl,hlt,hg,go_sem]
   refine zq (Yp v hwv (by simp only[Lim];omega)) w6 (by simp only[Lim,Al2,Al3,Al5];omega) fun o7 H7 w7 _=>?_
   simp(disch:=first|omega|assumption) only[wrap64,go_sem]
   exact goJ (hJ o7 H7 (w7.cast (by rw[zbk];simp[yQ,zcA,wk,pk]))) (by simp(disch:=first|omega|assumption) only[go_sem])
theorem zgy (a:List DirD) (x:DirD) (b:List DirD):(tDs (a++x::b)).length=(tDs a).length+(tD x).length+(tDs b).length:=by simp[tDs];omega
theorem YZ (m:List DirD) (hw:zf2 m) (hm:8*bDs m≤Lim):VC 77 [.sl .no 2 (cDs m)] (tDs m):=by
 intro H w o l h hb
 have hml:=zbi m
 have hcl:=YW m
 have hm':=hm
 simp only[Lim] at hm' hb
 refine zC.go ir77 ck77 (Al4 _) fun KP Q hQ=>?_
 have w0:=VR.refl h
 simp(disch:=first|omega|assumption) only[ir77,hcl,go_sem]
 refine zm m 4 (fun x:Own=>[]) (fun done rest x H'=>VR H o w l (tDs done) H' x) o (by simp(disch:=first|omega|assumption) only[go_sem]) w0 ?_ ?_
 ·rintro o3 H3 J w3 hlt
  simp(disch:=first|omega|assumption) only[hcl,hlt,go_sem]
  exact hQ _ _ H3 H3 [] nofun rfl (Low.refl _) ⟨rfl,o3,w3⟩
 ·rintro done x rest o3 H3 J hd hlt hlt2 w3 hJ
  have hg:=zah hd
  have hbm:=zbr done x rest
  rw[← hd] at hbm
  have hmem:x∈m:=by rw[hd];simp
  have hlen:(tDs m).length=(tDs done).length+(tD x).length+(tDs rest).length:=by rw[hd,zgy]
  have hwx:=hw x hmem
  obtain⟨s,args⟩:=x
  simp only[bD] at hbm
  have e2:(tD ⟨s,args⟩).length=2+(YI args).length:=by simp[tD];omega
  rw[e2] at hlen
  have ex:cD ⟨s,args⟩=[.str s,.sl .no 6 (cMs args)]:=rfl
  rw[ex] at hg
  simp(disch:=first|omega|assumption) only[hcl,hlt,hg,go_sem]
  refine zq (pR [64]) w3 (by simp only[Lim,Al2,Al3];omega) fun o5 H5 w5 _=>?_
  simp(disch:=first|omega|assumption) only[hcl,hlt,hg,go_sem]
  refine zq (wR s) w5 (by simp only[Lim,Al2,Al3,Al5];omega) fun o6 H6 w6 _=>?_
  simp(disch:=first|omega|assumption) only[hcl,hlt,hg,go_sem]
  refine zq (zho args hwx (by simp only[Lim];omega)) w6 (by simp only[Lim,Al2,Al3,Al5];omega) fun o7 H7 w7 _=>?_
  simp(disch:=first|omega|assumption) only[wrap64,go_sem]
  exact goJ (hJ o7 H7 (w7.cast (by rw[zfq];simp[tD]))) (by simp(disch:=first|omega|assumption) only[go_sem])
theorem zfs (a:List SelD) (x:SelD) (b:List SelD):(tSl (a++x::b)).length=(tSl a).length+(tS x).length+(tSl b).length:=by rw[ze5];simp[tSl];omega
def znj (c:Nat):Prop:=∀ l:List SelD,bSs l≤c→zb7 l→8*bSs l≤Lim→VC 78 [.sl .no 7 (cSs l)] (tSl l)
set_option maxHeartbeats 4000000 in
theorem zdT:∀ c,znj c:=by
 intro c
 induction c using Nat.strongRecOn with
 | _ c ih =>
 intro L hc hwL hm H w o l h hb
 have hm':=hm
 simp only[Lim] at hm' hb
 have hcs:=ZD L
 have hLl:=zav L
 refine zC.go ir78 ck78 (Al4 _) fun KP Q hQ=>?_
 have w0:=VR.refl h
 simp(disch:=first|omega|assumption) only[ir78,hcs,go_sem]
 refine zm L 4 (fun x:Own=>[]) (fun done rest x H'=>VR H o w l (tSl done) H' x) o (by simp(disch:=first|omega|assumption) only[go_sem]) w0 ?_ ?_
 ·rintro o3 H3 J w3 hlt
  simp(disch:=first|omega|assumption) only[hcs,hlt,go_sem]
  exact hQ _ _ H3 H3 [] nofun rfl (Low.refl _) ⟨rfl,o3,w3⟩
 ·rintro done x rest o3 H3 J hd hlt hlt2 w3 hJ
  have hg:=Yu hd
  have hbm:=zam done x rest
  rw[← hd] at hbm
  have hlen:(tSl L).length=(tSl done).length+(tS x).length+(tSl rest).length:=by rw[hd,zfs]
  have hmem:x∈L:=by rw[hd];simp
  have hwx:=zdm hwL x hmem
  obtain⟨k,al,nm,args,dirs,on,sels⟩:=x
  have hbx:bS (.mk k al nm args dirs on sels)=1+al.length+nm.length+on.length+bMs args+bDs dirs+bSs sels:=rfl
  have hcss:=ZD sels
  have hLB:=ih (bSs sels) (by omega)
  obtain⟨hwa,hwd,hws⟩:=hwx
  rw[Zu] at hg
  have eT:tS (.mk k al nm args dirs on sels)=(if k=0 then (if al=[] then [] else [wk al,pk [58]])++(wk nm::YI args) else if k=1 then [pk [46,46,46],wk nm] else pk [46,46,46]::(if on=[] then [] else [wk [111,110],wk on])) ++
   (tDs dirs++(if sels.length=0 then [] else pk [123]::(tSl sels++[pk [125]]))):=rfl
  have hlen2:=hlen
  rw[eT] at hlen2
  simp only[Al5] at hlen2
  simp(disch:=first|omega|assumption) only[hcs,hlt,hg,go_sem]
  refine zv fun b hb=>?_
  have hbw:b≠w:=fun e=>by subst e;rw[w3.here.cell] at hb;cases hb
  have w5:=w3.alloc (x:=.cells [.int .i64 k,.str al,.str nm,.sl .no 6 (cMs args),.sl .no 2 (cDs dirs),.str on,.sl .no 7 (cSs sels)]) hb
  have hbc:(H3.upd b (.cells [.int .i64 k,.str al,.str nm,.sl .no 6 (cMs args),.sl .no 2 (cDs dirs),.str on,.sl .no 7 (cSs sels)])) b=some (.cells [.int .i64 k,.str al,.str nm,.sl .no 6 (cMs args),.sl .no 2 (cDs dirs),.str on,.sl .no 7 (cSs sels)]):=upd_same ..
  by_cases k0:k=0
  ·subst k0
   rw[if_pos rfl] at hlen2 eT
   simp only[Al5,Al2,Al3] at hlen2
   by_cases hal:al=[]
   ·rw[if_pos hal] at hlen2
    simp only[Al3] at hlen2
    subst hal
    have hal:True:=trivial
    simp(disch:=first|omega|assumption) only[hbc,go_sem]
    refine zq (wR nm) w5 (by simp only[Lim,Al2,Al3];omega) fun o6 H6 w6 s6=>?_
    have hb6:=s6.box w5.here.own hbc hbw
    simp(disch:=first|omega|assumption) only[hb6,go_sem]
    refine zq (zho args hwa (by simp only[Lim];omega)) w6 (by simp only[Lim,Al2,Al3,Al5];omega) fun oX HX wX sX=>?_
    have hbX:=sX.box w6.here.own hb6 hbw
    simp(disch:=first|omega|assumption) only[hbX,go_sem]
    refine zq (YZ dirs hwd (by simp only[Lim];omega)) wX (by simp only[Lim,Al2,Al3,Al5];omega) fun oY HY wY sY=>?_
    have hbY:=sY.box wX.here.own hbX hbw
    by_cases hz:sels.length=0
    case pos =>
     have hz':¬ ((0:Int)<(sels.length:Int)):=by omega
     simp(disch:=first|omega|assumption) only[hbY,hcss,hz',wrap64,go_sem]
     exact goJ (hJ oY HY (wY.cast (by rw[yt,eT];simp[hz,hal]))) (by simp(disch:=first|omega|assumption) only[go_sem])
    case neg =>
     have hz':((0:Int)<(sels.length:Int))=True:=eq_true (by omega)
     rw[if_neg hz] at hlen2
     simp only[Al2,Al3,Al5] at hlen2
     simp(disch:=first|omega|assumption) only[hbY,hcss,hz',go_sem]
     refine zq (pR [123]) wY (by simp only[Lim,Al2,Al3,Al5];omega) fun oZ HZ wZ sZ=>?_
     have hbZ:=sZ.box wY.here.own hbY hbw
     simp(disch:=first|omega|assumption) only[hbZ,go_sem]
     refine zq (hLB sels (Al4 _) hws (by simp only[Lim];omega)) wZ (by simp only[Lim,Al2,Al3,Al5];omega) fun oU HU wU _=>?_
     simp(disch:=first|omega|assumption) only[go_sem]
     refine zq (pR [125]) wU (by simp only[Lim,Al2,Al3,Al5];omega) fun oV HV wV _=>?_
     simp(disch:=first|omega|assumption) only[wrap64,go_sem]
     exact goJ (hJ oV HV (wV.cast (by rw[yt,eT];simp[hz,hal]))) (by simp(disch:=first|omega|assumption) only[go_sem])
   ·rw[if_neg hal] at hlen2
    simp only[Al2,Al3] at hlen2
    simp(disch:=first|omega|assumption) only[hbc,hal,go_sem]
    refine zq (wR al) w5 (by simp only[Lim,Al2,Al3];omega) fun o4 H4 w4 s4=>?_
    have hb4:=s4.box w5.here.own hbc hbw
    simp(disch:=first|omega|assumption) only[hb4,go_sem]
    refine zq (pR [58]) w4 (by simp only[Lim,Al2,Al3,Al5];omega) fun o7 H7 w7 s7=>?_
    have hb7:=s7.box w4.here.own hb4 hbw
    simp(disch:=first|omega|assumption) only[hb7,go_sem]
    refine zq (wR nm) w7 (by simp only[Lim,Al2,Al3,Al5];omega) fun o6 H6 w6 s6=>?_
    have hb6:=s6.box w7.here.own hb7 hbw
    simp(disch:=first|omega|assumption) only[hb6,go_sem]
    refine zq (zho args hwa (by simp only[Lim];omega)) w6 (by simp only[Lim,Al2,Al3,Al5];omega) fun oX HX wX sX=>?_
    have hbX:=sX.box w6.here.own hb6 hbw
    simp(disch:=first|omega|assumption) only[hbX,go_sem]
    refine zq (YZ dirs hwd (by simp only[Lim];omega)) wX (by simp only[Lim,Al2,Al3,Al5];omega) fun oY HY wY sY=>?_
    have hbY:=sY.box wX.here.own hbX hbw
    by_cases hz:sels.length=0
    case pos =>
     have hz':¬ ((0:Int)<(sels.length:Int)):=by omega
     simp(disch:=first|omega|assumption) only[hbY,hcss,hz',wrap64,go_sem]
     exact goJ (hJ oY HY (wY.cast (by rw[yt,eT];simp[hz,hal]))) (by simp(disch:=first|omega|assumption) only[go_sem])
    case neg =>
     have hz':((0:Int)<(sels.length:Int))=True:=eq_true (by omega)
     rw[if_neg hz] at hlen2
     simp only[Al2,Al3,Al5] at hlen2
     simp(disch:=first|omega|assumption) only[hbY,hcss,hz',go_sem]
     refine zq (pR [123]) wY (by simp only[Lim,Al2,Al3,Al5];omega) fun oZ HZ wZ sZ=>?_
     have hbZ:=sZ.box wY.here.own hbY hbw
     simp(disch:=first|omega|assumption) only[hbZ,go_sem]
     refine zq (hLB sels (Al4 _) hws (by simp only[Lim];omega)) wZ (by simp only[Lim,Al2,Al3,Al5];omega) fun oU HU wU _=>?_
     simp(disch:=first|omega|assumption) only[go_sem]
     refine zq (pR [125]) wU (by simp only[Lim,Al2,Al3,Al5];omega) fun oV HV wV _=>?_
     simp(disch:=first|omega|assumption) only[wrap64,go_sem]
     exact goJ (hJ oV HV (wV.cast (by rw[yt,eT];simp[hz,hal]))) (by simp(disch:=first|omega|assumption) only[go_sem])
  by_cases k1:k=1
  ·subst k1
   rw[if_neg (by decide),if_pos rfl] at hlen2 eT
   simp only[Al2,Al3] at hlen2
   have hal:True:=trivial
   simp(disch:=first|omega|assumption) only[hbc,go_sem]
   refine zq (pR [46,46,46]) w5 (by simp only[Lim,Al2,Al3];omega) fun o4 H4 w4 s4=>?_
   have hb4:=s4.box w5.here.own hbc hbw
   simp(disch:=first|omega|assumption) only[hb4,go_sem]
   refine zq (wR nm) w4 (by simp only[Lim,Al2,Al3,Al5];omega) fun oX HX wX sX=>?_
   have hbX:=sX.box w4.here.own hb4 hbw
   simp(disch:=first|omega|assumption) only[hbX,go_sem]
   refine zq (YZ dirs hwd (by simp only[Lim];omega)) wX (by simp only[Lim,Al2,Al3,Al5];omega) fun oY HY wY sY=>?_
   have hbY:=sY.box wX.here.own hbX hbw
   by_cases hz:sels.length=0
   case pos =>
    have hz':¬ ((0:Int)<(sels.length:Int)):=by omega
    simp(disch:=first|omega|assumption) only[hbY,hcss,hz',wrap64,go_sem]
    exact goJ (hJ oY HY (wY.cast (by rw[yt,eT];simp[hz,hal]))) (by simp(disch:=first|omega|assumption) only[go_sem])
   case neg =>
    have hz':((0:Int)<(sels.length:Int))=True:=eq_true (by omega)
    rw[if_neg hz] at hlen2
    simp only[Al2,Al3,Al5] at hlen2
    simp(disch:=first|omega|assumption) only[hbY,hcss,hz',go_sem]
    refine zq (pR [123]) wY (by simp only[Lim,Al2,Al3,Al5];omega) fun oZ HZ wZ sZ=>?_
    have hbZ:=sZ.box wY.here.own hbY hbw
    simp(disch:=first|omega|assumption) only[hbZ,go_sem]
    refine zq (hLB sels (Al4 _) hws (by simp only[Lim];omega)) wZ (by simp only[Lim,Al2,Al3,Al5];omega) fun oU HU wU _=>?_
    simp(disch:=first|omega|assumption) only[go_sem]
    refine zq (pR [125]) wU (by simp only[Lim,Al2,Al3,Al5];omega) fun oV HV wV _=>?_
    simp(disch:=first|omega|assumption) only[wrap64,go_sem]
    exact goJ (hJ oV HV (wV.cast (by rw[yt,eT];simp[hz,hal]))) (by simp(disch:=first|omega|assumption) only[go_sem])
  ·rw[if_neg k0,if_neg k1] at hlen2 eT
   simp only[Al2] at hlen2
   simp(disch:=first|omega|assumption) only[hbc,k0,k1,go_sem]
   refine zq (pR [46,46,46]) w5 (by simp only[Lim,Al2,Al3];omega) fun o4 H4 w4 s4=>?_
   have hb4:=s4.box w5.here.own hbc hbw
   by_cases hal:on=[]
   ·rw[if_pos hal] at hlen2
    simp only[Al3] at hlen2
    subst hal
    have hal:True:=trivial
    have wX:=w4
    have hbX:=hb4
    simp(disch:=first|omega|assumption) only[hb4,go_sem]
    refine zq (YZ dirs hwd (by simp only[Lim];omega)) wX (by simp only[Lim,Al2,Al3,Al5];omega) fun oY HY wY sY=>?_
    have hbY:=sY.box wX.here.own hbX hbw
    by_cases hz:sels.length=0
    case pos =>
     have hz':¬ ((0:Int)<(sels.length:Int)):=by omega
     simp(disch:=first|omega|assumption) only[hbY,hcss,hz',wrap64,go_sem]
     exact goJ (hJ oY HY (wY.cast (by rw[yt,eT];simp[hz,hal]))) (by simp(disch:=first|omega|assumption) only[go_sem])
    case neg =>
     have hz':((0:Int)<(sels.length:Int))=True:=eq_true (by omega)
     rw[if_neg hz] at hlen2
     simp only[Al2,Al3,Al5] at hlen2
     simp(disch:=first|omega|assumption) only[hbY,hcss,hz',go_sem]
     refine zq (pR [123]) wY (by simp only[Lim,Al2,Al3,Al5];omega) fun oZ HZ wZ sZ=>?_
     have hbZ:=sZ.box wY.here.own hbY hbw
     simp(disch:=first|omega|assumption) only[hbZ,go_sem]
     refine zq (hLB sels (Al4 _) hws (by simp only[Lim];omega)) wZ (by simp only[Lim,Al2,Al3,Al5];omega) fun oU HU wU _=>?_
     simp(disch:=first|omega|assumption) only[go_sem]
     refine zq (pR [125]) wU (by simp only[Lim,Al2,Al3,Al5];omega) fun oV HV wV _=>?_
     simp(disch:=first|omega|assumption) only[wrap64,go_sem]
     exact goJ (hJ oV HV (wV.cast (by rw[yt,eT];simp[hz,hal]))) (by simp(disch:=first|omega|assumption) only[go_sem])
   ·rw[if_neg hal] at hlen2
    simp only[Al2,Al3] at hlen2
    simp(disch:=first|omega|assumption) only[hb4,hal,go_sem]
    refine zq (wR [111,110]) w4 (by simp only[Lim,Al2,Al3,Al5];omega) fun o7 H7 w7 s7=>?_
    have hb7:=s7.box w4.here.own hb4 hbw
    simp(disch:=first|omega|assumption) only[hb7,go_sem]
    refine zq (wR on) w7 (by simp only[Lim,Al2,Al3,Al5];omega) fun oX HX wX sX=>?_
    have hbX:=sX.box w7.here.own hb7 hbw
    simp(disch:=first|omega|assumption) only[hbX,go_sem]
    refine zq (YZ dirs hwd (by simp only[Lim];omega)) wX (by simp only[Lim,Al2,Al3,Al5];omega) fun oY HY wY sY=>?_
    have hbY:=sY.box wX.here.own hbX hbw
    by_cases hz:sels.length=0
    case pos =>
     have hz':¬ ((0:Int)<(sels.length:Int)):=by omega
     simp(disch:=first|omega|assumption) only[hbY,hcss,hz',wrap64,go_sem]
     exact goJ (hJ oY HY (wY.cast (by rw[yt,eT];simp[hz,hal]))) (by simp(disch:=first|omega|assumption) only[go_sem])
    case neg =>
     have hz':((0:Int)<(sels.length:Int))=True:=eq_true (by omega)
     rw[if_neg hz] at hlen2
     simp only[Al2,Al3,Al5] at hlen2
     simp(disch:=first|omega|assumption) only[hbY,hcss,hz',go_sem]
     refine zq (pR [123]) wY (by simp only[Lim,Al2,Al3,Al5];omega) fun oZ HZ wZ sZ=>?_
     have hbZ:=sZ.box wY.here.own hbY hbw
     simp(disch:=first|omega|assumption) only[hbZ,go_sem]
     refine zq (hLB sels (Al4 _) hws (by simp only[Lim];omega)) wZ (by simp only[Lim,Al2,Al3,Al5];omega) fun oU HU wU _=>?_
     simp(disch:=first|omega|assumption) only[go_sem]
     refine zq (pR [125]) wU (by simp only[Lim,Al2,Al3,Al5];omega) fun oV HV wV _=>?_
     simp(disch:=first|omega|assumption) only[wrap64,go_sem]
     exact goJ (hJ oV HV (wV.cast (by rw[yt,eT];simp[hz,hal]))) (by simp(disch:=first|omega|assumption) only[go_sem])
theorem zca (l:List VarD) (h:l.length≠0):tWs l=pk [40]::(l.flatMap tW++[pk [41]]):=by unfold tWs;rw[if_neg h]
def tWd (n:Nat) (done:List VarD):List Tok:=if done.length=0 then [] else pk [40]::(done.flatMap tW++(if done.length=n then [pk [41]] else []))
theorem zad {α:Type} (f:α→List Tok) (a:List α) (x:α) (b:List α):((a++x::b).flatMap f).length=(a.flatMap f).length+(f x).length+(b.flatMap f).length:=by simp;omega
theorem zkR {H:zh} {b:Nat}:VAt (H.upd b (.cells [.sl .nil 2 []])) b .nil []:=⟨upd_same ..,rfl⟩
theorem zmh (L:List Tok) (hb:32*wT L≤Lim):zo Tryz.prog 84 [.sl .no 2 (cKs L)] (.tup [.str (if (yF L).2&&decide ((yF L).1.length≤8192) then (yF L).1 else []),.bool ((yF L).2&&decide ((yF L).1.length≤8192))]):=by
 refine zo.go ir84 ck84 (Al4 _) fun KP Q hQ=>?_
 simp(disch:=first|omega|assumption) only[ir84,go_sem]
 refine zc (zkX L hb) ?_
 cases h2:(yF L).2 with
 | false =>
  simp(disch:=first|omega|assumption) only[go_sem]
  exact hQ _ _ _ _ nofun rfl (by simp[ze,zd,AV.strip,AV.strip1,h2])
 | true =>
  by_cases hl:(yF L).1.length≤8192
  ·have hl':¬ ((8192:Int)<((yF L).1.length:Int)):=by omega
   simp(disch:=first|omega|assumption) only[hl',go_sem]
   exact hQ _ _ _ _ nofun rfl (by simp[ze,zd,AV.strip,AV.strip1,h2,hl])
  ·have hl':((8192:Int)<((yF L).1.length:Int))=True:=eq_true (by omega)
   simp(disch:=first|omega|assumption) only[hl',go_sem]
   exact hQ _ _ _ _ nofun rfl (by simp[ze,zd,AV.strip,AV.strip1,h2,hl])
end Go.Proofs.YticbbfbpeimkbaaGreatDoor
