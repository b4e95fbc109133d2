import Derived.Lib.ValidLaws
import Derived.Lib.ItoaLen
import Derived.Lib.Join
import Derived.Lib.DecodeN
import Derived.Lib.TrimUEq
import Derived.Shelf.Strings.OnBuilder
import Derived.Test.YtaielcdfcgpbiaaGreatDoorM1
import Derived.Test.YtaielcdfcgpbiaaGreatDoorM2
import Derived.Test.YtaielcdfcgpbiaaGreatDoorM3
import Derived.Test.YtaielcdfcgpbiaaGreatDoorM4
import Derived.Test.YtaielcdfcgpbiaaGreatDoorM5
import Derived.Test.YtaielcdfcgpbiaaGreatDoorM6
set_option maxRecDepth 100000
set_option linter.all false
namespace Go.Proofs.YtaielcdfcgpbiaaGreatDoor
open Go.Ab
theorem YT {c:UInt8} {n:Nat} (hn:n<256) (h:c≠UInt8.ofNat n):¬ ((c.toNat:Int)=n):=fun e=>by
 have h2:=zam c n hn
 rw[e] at h2
 simp at h2
 exact h h2
theorem zee (s:List UInt8) (hs:s.length≤Lim):Pure Tryz.prog 157 [.str s] (.tup [.int .i64 (Zl s).1,.int .i64 (Zl s).2]):=by
 refine Pure.go ir157 ck157 (Al4 _) fun KP Q hQ=>?_
 have hs':=hs
 simp only[Lim] at hs
 simp(disch:=omega) only[ir157,go_sem]
 refine goU_cut (fun i:Nat=>[(4,.int .i64 i)]) (fun i H=>(i=if s.head?=some 45 then 1 else 0)∧H=Heap.emp) (fun J hJ=>?_) ?_
 ·cases s with
  | nil =>
   simp(disch:=omega) only[go_sem]
   exact goJ (hJ 0 _ ⟨rfl,rfl⟩) (by simp(disch:=omega) only[go_sem])
  | cons c t =>
   have hp:(0:Int)<((t.length+1:Nat):Int):=by omega
   by_cases h:c=45
   ·have h':(c.toNat:Int)=45:=by rw[h];rfl
    simp(disch:=omega) only[hp,h',go_sem]
    exact goJ (hJ 1 _ ⟨by rw[h];rfl,rfl⟩) (by simp(disch:=omega) only[wrap64,go_sem])
   ·have h':¬ (c.toNat:Int)=45:=YT (n:=45) (by omega) h
    simp(disch:=omega) only[hp,h',go_sem]
    exact goJ (hJ 0 _ ⟨by simp[h],rfl⟩) (by simp(disch:=omega) only[go_sem])
 rintro i H ⟨hi,rfl⟩
 have hil:i≤s.length:=by
  rw[hi];split
  ·rename_i h;cases s<;>simp_all
  ·omega
 have hw:zv s=if zw (s.drop i)=0 then 0 else i+yP (s.drop i):=by
  unfold zv
  rw[hi]
  split
  ·cases s<;>simp_all
  ·simp only[List.drop_zero,Nat.zero_add]
   split
   ·rename_i h;simp[yP,h]
   ·rfl
 have hrl:=ye (s.drop i)
 rw[ZG] at hrl
 simp(disch:=omega) only[go_sem]
 refine goK_pure (zdh s i (by omega) (by omega) hs') ?_
 rw[Int.toNat_natCast]
 by_cases h0:zw (s.drop i)=0
 ·have hw0:zv s=0:=by rw[hw,if_pos h0]
  simp(disch:=omega) only[h0,go_sem]
  exact hQ _ _ _ _ nofun rfl (by simp[tupOf,envOf,AV.strip,AV.strip1,Zl,hw0])
 have h0':¬ ((zw (s.drop i):Int)=0):=by omega
 rw[if_neg h0] at hw
 simp(disch:=omega) only[h0',go_sem]
 have hlt:(i:Int)<s.length:=by omega
 refine goU_cut (fun k:Nat=>[(5,.int .i64 k)]) (fun k H=>k=yP (s.drop i)∧H=Heap.emp) (fun J hJ=>?_) ?_
 ·rcases yu s i with ⟨e1,e2⟩|⟨e1,e2⟩
  ·rw[e1] at h0;exact absurd rfl h0
  have hg:(s.drop i).getD 0 0=s.getD i 0:=by rw[e2];rfl
  by_cases h:s.getD i 0=48
  ·have h':((s.getD i 0).toNat:Int)=48:=by rw[h];rfl
   simp(disch:=omega) only[hlt,h',go_sem]
   exact goJ (hJ 1 _ ⟨by unfold yP;rw[if_neg h0,hg,if_pos h],rfl⟩) (by simp(disch:=omega) only[go_sem])
  ·have h':¬ ((s.getD i 0).toNat:Int)=48:=YT (n:=48) (by omega) h
   simp(disch:=omega) only[hlt,h',go_sem]
   exact goJ (hJ (zw (s.drop i)) _ ⟨by unfold yP;rw[if_neg h0,hg,if_neg h],rfl⟩) (by simp(disch:=omega) only[go_sem])
 rintro k H ⟨hk,rfl⟩
 subst hk
 have hn0:zv s≠0:=by have:=zdk h0;omega
 have hwl:=zaO s
 have hik:(i:Int)+(yP (s.drop i):Int)=zv s:=by omega
 have hnum:Zl s=(zv s+zX (s.drop (zv s))+yW (s.drop (zv s+zX (s.drop (zv s)))),if zX (s.drop (zv s))=0∧yW (s.drop (zv s+zX (s.drop (zv s))))=0 then 3 else 4):=by
  unfold Zl;rw[if_neg hn0]
 generalize zv s=n at hn0 hwl hik hnum
 simp(disch:=omega) only[wrap64,hik,go_sem]
 refine goU_cut (fun x:Nat×Int=>[(4,.int .i64 x.1),(6,.int .i64 x.2)]) (fun x H=>x=(n+zX (s.drop n),if zX (s.drop n)=0 then 3 else 4)∧H=Heap.emp) (fun J hJ=>?_) ?_
 ·simp(disch:=omega) only[wrap64,hik,go_sem]
  rcases yu s n with ⟨e1,e2⟩|⟨e1,e2⟩
  ·have hlt:¬ (n:Int)<s.length:=by omega
   have hf:zX (s.drop n)=0:=by simp[zX,e1]
   simp(disch:=omega) only[hlt,go_sem]
   exact goJ (hJ (n,3) _ ⟨by simp[hf],rfl⟩) (by simp(disch:=omega) only[go_sem])
  ·have hlt:(n:Int)<s.length:=by omega
   by_cases h:s.getD n 0=46
   ·have hto:((n:Int)+1).toNat=n+1:=by omega
    have hv:((s.getD n 0).toNat:Int)=46:=by rw[h];rfl
    simp(disch:=omega) only[hlt,hv,wrap64,go_sem]
    refine goK_pure (zdh s (n+1) (by omega) (by omega) hs') ?_
    rw[hto]
    have hrl2:=ye (s.drop (n+1))
    rw[ZG] at hrl2
    by_cases hr:0<zw (s.drop (n+1))
    ·have hf:zX (s.drop n)=1+zw (s.drop (n+1)):=by rw[e2,h];simp only[zX,List.head?_cons,List.tail_cons,true_and];rw[if_pos hr]
     have hr':(0:Int)<zw (s.drop (n+1)):=by omega
     simp(disch:=omega) only[hr',wrap64,go_sem]
     refine goK_pure (zdh s (n+1) (by omega) (by omega) hs') ?_
     rw[hto]
     simp(disch:=omega) only[wrap64,go_sem]
     exact goJ (hJ (n+1+zw (s.drop (n+1)),4) _ ⟨by rw[hf];simp;omega,rfl⟩) (by simp(disch:=omega) only[Int.natCast_add,Int.natCast_one,go_sem])
    ·have hf:zX (s.drop n)=0:=by rw[e2,h];simp only[zX,List.head?_cons,List.tail_cons,true_and];rw[if_neg hr]
     have hr':¬ (0:Int)<zw (s.drop (n+1)):=by omega
     simp(disch:=omega) only[hr',go_sem]
     exact goJ (hJ (n,3) _ ⟨by simp[hf],rfl⟩) (by simp(disch:=omega) only[go_sem])
   ·have h':¬ ((s.getD n 0).toNat:Int)=46:=YT (n:=46) (by omega) h
    have hf:zX (s.drop n)=0:=by rw[e2];simp only[zX,List.head?_cons,Al1];rw[if_neg (fun e=>h e.1)]
    simp(disch:=omega) only[hlt,h',go_sem]
    exact goJ (hJ (n,3) _ ⟨by simp[hf],rfl⟩) (by simp(disch:=omega) only[go_sem])
 rintro⟨m,k⟩ H ⟨hx,rfl⟩
 simp only[Al8] at hx
 obtain⟨hm,hk⟩:=hx
 have hml:m≤s.length:=by
  have:=zdY (s.drop n)
  rw[ZG] at this
  omega
 rw[← hm] at hnum
 simp(disch:=omega) only[go_sem]
 refine goU_cut (fun x:Nat×Int=>[(4,.int .i64 x.1),(6,.int .i64 x.2)]) (fun x H=>x=(m+yW (s.drop m),if yW (s.drop m)=0 then k else 4)∧H=Heap.emp) (fun J hJ=>?_) ?_
 ·rcases yu s m with ⟨e1,e2⟩|⟨e1,e2⟩
  ·have hlt:¬ (m:Int)<s.length:=by omega
   have hp:yW (s.drop m)=0:=by rw[e1];rfl
   simp(disch:=omega) only[hlt,go_sem]
   exact goJ (hJ (m,k) _ ⟨by simp[hp],rfl⟩) (by simp(disch:=omega) only[go_sem])
  ·have hlt:(m:Int)<s.length:=by omega
   obtain⟨c,hc⟩:∃ c,s.getD m 0=c:=⟨_,rfl⟩
   rw[hc] at e2
   by_cases h:isE c=true
   ·have hE:c=101∨c=69:=by simpa[isE] using h
    have hp:yW (s.drop m)=if zw (s.drop (m+1+sgN (s.drop (m+1))))=0 then 0 else 1+sgN (s.drop (m+1))+zw (s.drop (m+1+sgN (s.drop (m+1)))):=by
     rw[e2];simp only[yW,h,if_true,List.drop_drop]
    have hto:((m:Int)+1).toNat=m+1:=by omega
    have hm1:(0:Int)≤(m:Int)+1:=by omega
    have hsg:=zcd (s.drop (m+1))
    rw[ZG] at hsg
    rcases hE with he|he
    case' inl =>
     have hv:(c.toNat:Int)=101:=by rw[he];rfl
     simp(disch:=omega) only[hlt,hc,hv,wrap64,go_sem]
    case' inr =>
     have hv:(c.toNat:Int)=69:=by rw[he];rfl
     have hv2:¬ (69:Int)=101:=by omega
     simp(disch:=omega) only[hlt,hc,hv,hv2,wrap64,go_sem]
    all_goals
     refine goU_cut (fun q:Nat=>[(7,.int .i64 q)]) (fun q H=>q=m+1+sgN (s.drop (m+1))∧H=Heap.emp) (fun J2 hJ2=>?_) ?_
     ·rcases yu s (m+1) with ⟨f1,f2⟩|⟨f1,f2⟩
      ·have hq:¬ ((m:Int)+1<s.length):=by omega
       simp(disch:=omega) only[wrap64,hq,go_sem]
       exact goJ (hJ2 (m+1) _ ⟨by rw[f1];rfl,rfl⟩) (by simp(disch:=omega) only[Int.natCast_add,Int.natCast_one,go_sem])
      ·have hq:(m:Int)+1<s.length:=by omega
       obtain⟨d,hd⟩:∃ d,s.getD (m+1) 0=d:=⟨_,rfl⟩
       rw[hd] at f2
       by_cases d43:d=43
       ·have hv3:(d.toNat:Int)=43:=by rw[d43];rfl
        simp(disch:=omega) only[wrap64,hq,hto,hm1,hd,hv3,go_sem]
        exact goJ (hJ2 (m+1+1) _ ⟨by rw[f2,d43];rfl,rfl⟩) (by simp(disch:=omega) only[Int.natCast_add,Int.natCast_one,go_sem])
       ·have hv3:¬ (d.toNat:Int)=43:=YT (n:=43) (by omega) d43
        by_cases d45:d=45
        ·have hv4:(d.toNat:Int)=45:=by rw[d45];rfl
         have hv5:¬ (45:Int)=43:=by omega
         simp(disch:=omega) only[wrap64,hq,hto,hm1,hd,hv4,hv5,go_sem]
         exact goJ (hJ2 (m+1+1) _ ⟨by rw[f2,d45];rfl,rfl⟩) (by simp(disch:=omega) only[Int.natCast_add,Int.natCast_one,go_sem])
        ·have hv4:¬ (d.toNat:Int)=45:=YT (n:=45) (by omega) d45
         simp(disch:=omega) only[wrap64,hq,hto,hm1,hd,hv3,hv4,go_sem]
         exact goJ (hJ2 (m+1) _ ⟨by rw[f2];simp[sgN,d43,d45],rfl⟩) (by simp(disch:=omega) only[Int.natCast_add,Int.natCast_one,go_sem])
     rintro q H ⟨hq,rfl⟩
     rw[← hq] at hp
     have hql:q≤s.length:=by omega
     simp(disch:=omega) only[go_sem]
     refine goK_pure (zdh s q (by omega) (by omega) hs') ?_
     rw[Int.toNat_natCast]
     have hrl3:=ye (s.drop q)
     rw[ZG] at hrl3
     by_cases hr:zw (s.drop q)=0
     ·have hr':¬ (0:Int)<zw (s.drop q):=by omega
      rw[if_pos hr] at hp
      simp(disch:=omega) only[hr',go_sem]
      exact goJ (hJ (m,k) _ ⟨by simp[hp],rfl⟩) (by simp(disch:=omega) only[go_sem])
     ·have hr':(0:Int)<zw (s.drop q):=by omega
      rw[if_neg hr] at hp
      simp(disch:=omega) only[hr',go_sem]
      refine goK_pure (zdh s q (by omega) (by omega) hs') ?_
      rw[Int.toNat_natCast]
      simp(disch:=omega) only[wrap64,go_sem]
      exact goJ (hJ (q+zw (s.drop q),4) _ ⟨by rw[hp];simp;omega,rfl⟩) (by simp(disch:=omega) only[Int.natCast_add,go_sem])
   ·have h1:c≠101:=fun e=>h (by simp[isE,e])
    have h2:c≠69:=fun e=>h (by simp[isE,e])
    have hp:yW (s.drop m)=0:=by rw[e2];simp[yW,h]
    have h1':¬ (c.toNat:Int)=101:=YT (n:=101) (by omega) h1
    have h2':¬ (c.toNat:Int)=69:=YT (n:=69) (by omega) h2
    simp(disch:=omega) only[hlt,hc,h1',h2',go_sem]
    exact goJ (hJ (m,k) _ ⟨by simp[hp],rfl⟩) (by simp(disch:=omega) only[go_sem])
 rintro⟨m2,k2⟩ H ⟨hx,rfl⟩
 simp only[Al8] at hx
 obtain⟨hm2,hk2⟩:=hx
 have hfin:Zl s=(m2,k2):=by
  rw[hnum,hm2,hk2,hk]
  by_cases a:zX (s.drop n)=0<;>by_cases b:yW (s.drop m)=0<;>simp[a,b]
 simp(disch:=omega) only[go_sem]
 exact hQ _ _ _ _ nofun rfl (by simp[tupOf,envOf,AV.strip,AV.strip1,hfin])
theorem zad (s:List UInt8) (hs:s.length≤Lim):Pure Tryz.prog 227 [.str s] (.int .i64 (yF s)):=by
 refine Pure.go ir227 ck227 (Al4 _) fun KP Q hQ=>?_
 simp(disch:=omega) only[ir227,go_sem]
 refine goK_pure (zee s hs) ?_
 by_cases h:(Zl s).1=s.length
 ·have h':((Zl s).1:Int)=s.length:=by omega
  simp(disch:=omega) only[h',go_sem]
  exact hQ _ _ _ _ nofun rfl (by simp[tupOf,envOf,AV.strip,AV.strip1,yF,h])
 ·have h':¬ ((Zl s).1:Int)=s.length:=by omega
  simp(disch:=omega) only[h',go_sem]
  exact hQ _ _ _ _ nofun rfl (by simp[tupOf,envOf,AV.strip,AV.strip1,yF,h])
def dg (c:UInt8):Int:=IntKind.u8.wrap ((c.toNat:Int)-48)
theorem zfH (c:UInt8):0≤dg c∧dg c≤255:=by
 unfold dg IntKind.wrap
 simp[IntKind.signed,IntKind.bits]
 omega
theorem zdU {c:UInt8} (h:isD c=true):dg c=(c.toNat:Int)-48:=by
 simp only[isD,Al0,zp] at h
 unfold dg IntKind.wrap
 simp[IntKind.signed,IntKind.bits]
 omega
def Yc:List UInt8→Int→Option Int
 | [],a=>some a
 | c::r,a=>if a<Int.tdiv (-9223372036854775808+dg c) 10 then none else Yc r (10*a-dg c)
theorem step_ok {a d:Int} (h0:0≤d) (h1:d≤255) (ha:-9223372036854775808≤a) (ha2:a≤0) (h:¬ a<Int.tdiv (-9223372036854775808+d) 10):-9223372036854775808≤10*a-d∧10*a-d≤0:=by
 have e:Int.tdiv (-9223372036854775808+d) 10=-((9223372036854775808-d) / 10):=by
  rw[show (-9223372036854775808+d)=-(9223372036854775808-d) by omega,Int.neg_tdiv,Int.tdiv_eq_ediv_of_nonneg (by omega)]
 rw[e] at h
 omega
def zaG (s:List UInt8):Int×Bool :=
 if s.head?=some 45 then (match Yc s.tail 0 with|some a=>(a,true)|none=>(0,false))
 else (match Yc s 0 with|some a=>if a=-9223372036854775808 then (0,false) else (-a,true)|none=>(0,false))
theorem zfy (s:List UInt8) (hs:s.length≤Lim):Pure Tryz.prog 89 [.str s] (.tup [.int .i64 (zaG s).1,.bool (zaG s).2]):=by
 refine Pure.go ir89 ck89 (Al4 _) fun KP Q hQ=>?_
 simp only[Lim] at hs
 simp(disch:=omega) only[ir89,go_sem]
 refine goU_cut (fun x:Nat×Bool=>[(4,.int .i64 x.1),(5,.bool x.2)]) (fun x H=>x=(if s.head?=some 45 then (1,true) else (0,false))∧H=Heap.emp) (fun J hJ=>?_) ?_
 ·cases s with
  | nil =>
   simp(disch:=omega) only[go_sem]
   exact goJ (hJ (0,false) _ ⟨rfl,rfl⟩) (by simp(disch:=omega) only[go_sem])
  | cons c t =>
   have hp:(0:Int)<((t.length+1:Nat):Int):=by omega
   by_cases h:c=45
   ·have h':(c.toNat:Int)=45:=by rw[h];rfl
    simp(disch:=omega) only[hp,h',go_sem]
    exact goJ (hJ (1,true) _ ⟨by rw[h];rfl,rfl⟩) (by simp(disch:=omega) only[go_sem])
   ·have h':¬ (c.toNat:Int)=45:=YT (n:=45) (by omega) h
    simp(disch:=omega) only[hp,h',go_sem]
    exact goJ (hJ (0,false) _ ⟨by simp[h],rfl⟩) (by simp(disch:=omega) only[go_sem])
 rintro⟨n0,neg⟩ H ⟨hx,rfl⟩
 have hn0:n0≤s.length:=by
  split at hx
  ·rename_i h
   cases s with
   | nil=>simp at h
   | cons c t=>cases hx;simp
  ·cases hx;omega
 have hR:zaG s=if neg then (match Yc (s.drop n0) 0 with|some a=>(a,true)|none=>(0,false)) else (match Yc (s.drop n0) 0 with|some a=>if a=-9223372036854775808 then (0,false) else (-a,true)|none=>(0,false)):=by
  unfold zaG
  split at hx
  ·rename_i h
   cases hx
   rw[if_pos h]
   simp
  ·rename_i h
   cases hx
   rw[if_neg h]
   simp
 simp(disch:=omega) only[go_sem]
 refine goL_st (fun x:Nat×Int=>[(4,.int .i64 x.1),(6,.int .i64 x.2)]) (fun x H=>Yc (s.drop x.1) x.2=Yc (s.drop n0) 0∧x.1≤s.length∧(-9223372036854775808≤x.2∧x.2≤0)) (fun x=>s.length-x.1) (n0,0) (by simp(disch:=omega) only[go_sem]) ⟨rfl,hn0,by omega,by omega⟩ ?_
 rintro⟨n,a⟩ H J ⟨hn,hle,ha1,ha2⟩ hJ
 simp only at hn hle ha1 ha2
 rcases yu s n with ⟨e1,e2⟩|⟨e1,e2⟩
 ·have hlt:¬ (n:Int)<s.length:=by omega
  rw[e1] at hn
  simp only[Yc] at hn
  rw[← hn] at hR
  cases neg with
  | true =>
   simp(disch:=omega) only[hlt,go_sem]
   exact hQ _ _ _ _ nofun rfl (by simp[tupOf,envOf,AV.strip,AV.strip1,hR])
  | false =>
   by_cases hm:a=-9223372036854775808
   ·simp(disch:=omega) only[hlt,hm,go_sem]
    exact hQ _ _ _ _ nofun rfl (by simp[tupOf,envOf,AV.strip,AV.strip1,hR,hm])
   ·simp(disch:=omega) only[hlt,hm,wrap64,go_sem]
    exact hQ _ _ _ _ nofun rfl (by simp[tupOf,envOf,AV.strip,AV.strip1,hR,hm])
 ·have hlt:(n:Int)<s.length:=by omega
  obtain⟨c,hc⟩:∃ c,s.getD n 0=c:=⟨_,rfl⟩
  rw[hc] at e2
  rw[e2] at hn
  simp only[Yc] at hn
  have hd:=zfH c
  have hdg:IntKind.u8.wrap ((c.toNat:Int)-48)=dg c:=rfl
  have he:Int.tdiv (-9223372036854775808+dg c) 10=-((9223372036854775808-dg c) / 10):=by
   rw[show (-9223372036854775808+dg c)=-(9223372036854775808-dg c) by omega,Int.neg_tdiv,Int.tdiv_eq_ediv_of_nonneg (by omega)]
  by_cases hb:a<Int.tdiv (-9223372036854775808+dg c) 10
  ·rw[if_pos hb] at hn
   rw[← hn] at hR
   simp(disch:=omega) only[hlt,hc,hdg,wrap64,hb,go_sem]
   cases neg with
   | true=>exact hQ _ _ _ _ nofun rfl (by simp[tupOf,envOf,AV.strip,AV.strip1,hR])
   | false=>exact hQ _ _ _ _ nofun rfl (by simp[tupOf,envOf,AV.strip,AV.strip1,hR])
  ·have hst:=step_ok hd.1 hd.2 ha1 ha2 hb
   rw[if_neg hb] at hn
   simp(disch:=omega) only[hlt,hc,hdg,wrap64,hb,go_sem]
   exact goJ (hJ (n+1,10*a-dg c) _ (by simp only;omega) ⟨hn,by simp only;omega,hst⟩) (by simp(disch:=omega) only[Int.natCast_add,Int.natCast_one,go_sem])
def Y2 (acc:Nat) (l:List UInt8):Nat:=l.foldl (fun a c=>a*10+(c.toNat-48)) acc
theorem zag (acc:Nat):Y2 acc []=acc:=by unfold Y2;rw[List.foldl_nil]
theorem YD (acc:Nat) (c:UInt8) (r:List UInt8):Y2 acc (c::r)=Y2 (acc*10+(c.toNat-48)) r:=by unfold Y2;rw[List.foldl_cons]
theorem zcZ (c:UInt8) (r:List UInt8) (a:Int):Yc (c::r) a=if a<Int.tdiv (-9223372036854775808+dg c) 10 then none else Yc r (10*a-dg c):=by rw[Yc]
theorem zbe:∀(r:List UInt8) (acc:Nat),acc≤Y2 acc r
 | [],acc=>by rw[zag];exact Al4 _
 | c::r,acc=>by have:=zbe r (acc*10+(c.toNat-48));rw[YD];omega
theorem ZO:∀(r:List UInt8) (acc:Nat),(∀ c∈r,isD c=true)→acc≤9223372036854775808→Yc r (-(acc:Int))=if Y2 acc r≤9223372036854775808 then some (-(Y2 acc r:Int)) else none
 | [],acc,_,h=>by rw[zag,if_pos h];rfl
 | c::r,acc,hd,h=>by
  have hc:=hd c (by simp)
  have hv:=zdU hc
  simp only[isD,Al0,zp] at hc
  have he:Int.tdiv (-9223372036854775808+dg c) 10=-((9223372036854775808-dg c) / 10):=by
   rw[show (-9223372036854775808+dg c)=-(9223372036854775808-dg c) by omega,Int.neg_tdiv,Int.tdiv_eq_ediv_of_nonneg (by omega)]
  have hg:=zbe r (acc*10+(c.toNat-48))
  rw[zcZ,YD]
  by_cases hb:-(acc:Int)<Int.tdiv (-9223372036854775808+dg c) 10
  ·rw[if_pos hb,if_neg (by omega)]
  ·rw[if_neg hb]
   have e:10*-(acc:Int)-dg c=-((acc*10+(c.toNat-48):Nat):Int):=by omega
   rw[e]
   exact ZO r _ (fun x hx=>hd x (by simp[hx])) (by omega)
theorem ZA:∀(r:List UInt8) (acc:Nat),(∀ c∈r,isD c=true)→acc<18446744073709551616→Lib.parseUint10 acc r=if Y2 acc r<18446744073709551616 then .ok (Y2 acc r) else .range
 | [],acc,_,h=>by rw[zag,if_pos h];rfl
 | c::r,acc,hd,h=>by
  have hc:=hd c (by simp)
  simp only[isD,Al0,zp] at hc
  have hg:=zbe r (acc*10+(c.toNat-48))
  rw[YD]
  simp only[Lib.parseUint10]
  rw[if_pos hc]
  by_cases h1:1844674407370955162≤acc
  ·rw[if_pos h1,if_neg (by omega)]
  ·rw[if_neg h1]
   by_cases h2:18446744073709551616≤acc*10+(c.toNat-48)
   ·rw[if_pos h2,if_neg (by omega)]
   ·rw[if_neg h2]
    exact ZA r _ (fun x hx=>hd x (by simp[hx])) (by omega)
theorem YL:∀ l:List UInt8,zw l=l.length→∀ c∈l,isD c=true
 | [],_,c,hc=>by cases hc
 | x::r,h,c,hc=>by
  simp only[zw,Al2] at h
  split at h
  ·rename_i hx
   rcases List.mem_cons.1 hc with e|e
   ·subst e;exact hx
   ·exact YL r (by omega) c e
  ·omega
theorem zaR {l:List UInt8} (h:yP l=l.length) (h0:zw l≠0):∀ c∈l,isD c=true:=by
 unfold yP at h
 rw[if_neg h0] at h
 split at h
 ·apply YL
  have:=ye l
  omega
 ·exact YL l h
theorem zcf (t:List UInt8):zv (45::t)=if zw t=0 then 0 else 1+yP t:=by
 unfold zv;exact if_pos rfl
theorem zcp {s:List UInt8} (h:¬ s.head?=some 45):zv s=yP s:=by
 unfold zv;exact if_neg h
theorem zgc {s:List UInt8} (h:yF s=3):(∃ t,s=45::t∧t≠[]∧∀ c∈t,isD c=true)∨(∃ c t,s=c::t∧∀ x∈s,isD x=true):=by
 unfold yF at h
 split at h
 ·rename_i hl
  unfold Zl at h hl
  split at h
  ·simp at h
  ·rename_i hw
   rw[if_neg hw] at hl
   simp only at h hl
   split at h
   ·rename_i hfp
    rw[hfp.2,hfp.1] at hl
    simp only[Nat.add_zero] at hl
    by_cases h45:s.head?=some 45
    ·cases s with
     | nil=>simp at h45
     | cons c t =>
      have hc:c=45:=by simpa using h45
      subst hc
      rw[zcf] at hl hw
      by_cases h0:zw t=0
      ·rw[if_pos h0] at hw;omega
      ·rw[if_neg h0] at hl
       refine .inl ⟨t,rfl,?_,zaR (by simp only[Al2] at hl;omega) h0⟩
       intro e;subst e;exact h0 rfl
    ·rw[zcp h45] at hl hw
     have h0:zw s≠0:=fun e=>hw (by simp[yP,e])
     cases s with
     | nil=>exact absurd rfl h0
     | cons c t=>exact .inr ⟨c,t,rfl,zaR hl h0⟩
   ·omega
 ·omega
theorem zd6 (t:List UInt8):zaG (45::t)=match Yc t 0 with|some a=>(a,true)|none=>(0,false):=by
 unfold zaG;exact if_pos rfl
theorem zdZ {c:UInt8} (t:List UInt8) (h:c≠45):zaG (c::t)=match Yc (c::t) 0 with|some a=>if a=-9223372036854775808 then (0,false) else (-a,true)|none=>(0,false):=by
 unfold zaG;exact if_neg (fun e=>h (by simpa using e))
theorem zfl {s:List UInt8} (h:yF s=3):(zaG s).2=okI (Lib.parseIntB 64 s):=by
 rw[Lib.parseIntB_64]
 rcases zgc h with ⟨t,rfl,hne,hd⟩|⟨c,t,rfl,hd⟩
 ·have h1:=ZO t 0 hd (by omega)
  have h2:=ZA t 0 hd (by omega)
  simp only[Int.natCast_zero,Int.neg_zero] at h1
  rw[Lib.atoiAll_minus,zd6,h1]
  unfold Lib.parseMag
  rw[if_neg hne,h2]
  generalize Y2 0 t=V
  by_cases a:V≤9223372036854775808
  ·rw[if_pos a,if_pos (by omega)]
   simp only[Lib.signed]
   rw[if_neg (by omega)]
   rfl
  ·rw[if_neg a]
   by_cases b:V<18446744073709551616
   ·rw[if_pos b]
    simp only[Lib.signed]
    rw[if_pos (by omega)]
    rfl
   ·rw[if_neg b]
    rfl
 ·have h1:=ZO (c::t) 0 hd (by omega)
  have h2:=ZA (c::t) 0 hd (by omega)
  have hc:=hd c (by simp)
  simp only[isD,Al0,zp] at hc
  have h45:c≠45:=fun e=>by subst e;simp at hc
  simp only[Int.natCast_zero,Int.neg_zero] at h1
  rw[Lib.atoiAll_plain c t (by omega) (by omega),zdZ t h45,h1]
  unfold Lib.parseMag
  rw[if_neg (List.cons_ne_nil c t),h2]
  generalize Y2 0 (c::t)=V
  by_cases a:V≤9223372036854775808
  ·rw[if_pos a,if_pos (by omega)]
   simp only[Lib.signless]
   by_cases b:V=9223372036854775808
   ·rw[if_pos (by omega),if_pos (by omega)];rfl
   ·rw[if_neg (by omega),if_neg (by omega)];rfl
  ·rw[if_neg a]
   by_cases b:V<18446744073709551616
   ·rw[if_pos b]
    simp only[Lib.signless]
    rw[if_pos (by omega)]
    rfl
   ·rw[if_neg b]
    rfl
theorem zcl (s:List UInt8):(decide (s≠[])&&(decide (yF s≠0)&&(decide (yF s=4)||!(zaG s).2)))=zbB s:=by
 unfold zbB YH
 by_cases h4:yF s=4
 ·have hs:s≠[]:=fun e=>by subst e;revert h4;decide
  simp[h4,hs]
 ·by_cases h3:yF s=3
  ·have hs:s≠[]:=fun e=>by subst e;revert h3;decide
   simp[h3,hs,zfl h3]
  ·have h0:yF s=0:=by
    unfold yF at *
    unfold Zl at *
    by_cases a:zv s=0
    ·simp[a]
    ·simp only[a,if_false] at *
     split
     ·rename_i e
      rw[if_pos e] at h3 h4
      split at h3<;>simp_all
     ·rfl
   simp[h3,h4,h0]
open Go.Lib
end Go.Proofs.YtaielcdfcgpbiaaGreatDoor
namespace Go.Proofs.YtaielcdfcgpbiaaGreatDoor
open Go.Ab
theorem yK {n:Nat} (h:n<18446744073709551616):(BitVec.ofInt 64 (n:Int)).toNat=n:=by
 rw[BitVec.toNat_ofInt];omega
theorem ZK {n:Nat} (h:n<9223372036854775808):IntKind.wrap .i64 (n:Int)=n:=wrap64 (by omega) (by omega)
theorem zbc {n:Nat} (j:Nat) (h:n<9223372036854775808) (hj:2 ^ j-1<9223372036854775808):IntKind.wrap .i64 ((BitVec.ofInt IntKind.i64.bits (n:Int) &&& BitVec.ofInt IntKind.i64.bits ((2 ^ j-1:Nat):Int)).toNat:Int)=((n % 2 ^ j:Nat):Int):=by
 have e:(BitVec.ofInt IntKind.i64.bits (n:Int) &&& BitVec.ofInt IntKind.i64.bits ((2 ^ j-1:Nat):Int)).toNat=n % 2 ^ j:=by
  rw[BitVec.toNat_and]
  show (BitVec.ofInt 64 (n:Int)).toNat &&& (BitVec.ofInt 64 ((2 ^ j-1:Nat):Int)).toNat=_
  rw[yK (by omega),yK (by omega),Nat.and_two_pow_sub_one_eq_mod]
 rw[e]
 exact ZK (Nat.lt_of_le_of_lt (Nat.mod_le _ _) h)
theorem zfQ {n:Nat} (h:n<9223372036854775808):IntKind.wrap .i64 ((BitVec.ofInt IntKind.i64.bits (n:Int) &&& BitVec.ofInt IntKind.i64.bits 31).toNat:Int)=((n % 32:Nat):Int):=zbc 5 h (by decide)
theorem zeZ {n:Nat} (h:n<9223372036854775808):IntKind.wrap .i64 ((BitVec.ofInt IntKind.i64.bits (n:Int) &&& BitVec.ofInt IntKind.i64.bits 15).toNat:Int)=((n % 16:Nat):Int):=zbc 4 h (by decide)
theorem and7 {n:Nat} (h:n<9223372036854775808):IntKind.wrap .i64 ((BitVec.ofInt IntKind.i64.bits (n:Int) &&& BitVec.ofInt IntKind.i64.bits 7).toNat:Int)=((n % 8:Nat):Int):=zbc 3 h (by decide)
theorem zcE {n:Nat} (h:n<9223372036854775808):IntKind.wrap .i64 ((BitVec.ofInt IntKind.i64.bits (n:Int) &&& BitVec.ofInt IntKind.i64.bits 63).toNat:Int)=((n % 64:Nat):Int):=zbc 6 h (by decide)
theorem zgg {a b:Nat} (ha:a<16777216) (hb:b<64):IntKind.wrap .i64 ((BitVec.ofInt IntKind.i64.bits ((a*64:Nat):Int) ||| BitVec.ofInt IntKind.i64.bits (b:Int)).toNat:Int)=((a*64+b:Nat):Int):=by
 have e:(BitVec.ofInt IntKind.i64.bits ((a*64:Nat):Int) ||| BitVec.ofInt IntKind.i64.bits (b:Int)).toNat=a*64+b:=by
  rw[BitVec.toNat_or]
  show (BitVec.ofInt 64 ((a*64:Nat):Int)).toNat ||| (BitVec.ofInt 64 (b:Int)).toNat=_
  rw[yK (by omega),yK (by omega)]
  have:=Nat.two_pow_add_eq_or_of_lt (i:=6) (b:=b) (by omega) a
  rw[show (2:Nat) ^ 6=64 by rfl] at this
  rw[Nat.mul_comm a 64,this]
 rw[e]
 exact ZK (by omega)
def zn (l:List UInt8):Nat×Nat:=if l=[] then (0,0) else if Lib.decodeL l=(65533,1) then (0,0) else Lib.decodeL l
abbrev bt (s:List UInt8) (i k:Nat):Nat:=(s.getD (i+k) 0).toNat
theorem ze2 (s:List UInt8) (i k:Nat):bt s i k<256:=(s.getD (i+k) 0).toNat_lt
theorem zda (s:List UInt8) (i k:Nat):(s.drop i).getD k 0=s.getD (i+k) 0:=by simp[List.getElem?_drop]
theorem zdu {s:List UInt8} {i:Nat} (h:i<s.length):zn (s.drop i)=if Lib.decodeN (s.length-i) (bt s i 0) (bt s i 1) (bt s i 2) (bt s i 3)=(65533,1) then (0,0) else Lib.decodeN (s.length-i) (bt s i 0) (bt s i 1) (bt s i 2) (bt s i 3):=by
 have hne:s.drop i≠[]:=fun e=>by have:=congrArg List.length e;simp at this;omega
 unfold zn
 rw[if_neg hne,Lib.decodeL_N,ZG]
 simp only[zda]
def cv (v0:Nat) (b:Nat→Nat):Nat→Nat
 | 0=>v0
 | j+1=>cv v0 b j*64+b (j+1) % 64
def zem (b0 w lo v:Nat):Prop:=(194≤b0∧b0<224∧w=2∧lo=128∧v=b0 % 32)∨(224≤b0∧b0<240∧w=3∧lo=2048∧v=b0 % 16)∨(240≤b0∧b0<245∧w=4∧lo=65536∧v=b0 % 8)
theorem zc9 {n b0 b1 b2 b3 w lo v:Nat} (h:zem b0 w lo v) (hn:n<w):Lib.decodeN n b0 b1 b2 b3=(65533,1):=by
 unfold Lib.decodeN
 rcases h with ⟨h1,h2,rfl,_,_⟩|⟨h1,h2,rfl,_,_⟩|⟨h1,h2,rfl,_,_⟩<;>(repeat' split)<;>first|rfl|(exfalso;omega)
theorem zbl {n w lo v j:Nat} {b:Nat→Nat} (h:zem (b 0) w lo v) (h1:1≤j) (hj:j<w) (hc:b j<128∨191<b j):Lib.decodeN n (b 0) (b 1) (b 2) (b 3)=(65533,1):=by
 have hj4:j=1∨j=2∨j=3:=by rcases h with h|h|h<;>omega
 unfold Lib.decodeN
 rcases h with ⟨h2,h3,rfl,_,_⟩|⟨h2,h3,rfl,_,_⟩|⟨h2,h3,rfl,_,_⟩<;>rcases hj4 with rfl|rfl|rfl<;>(repeat' split)<;>first|rfl|(exfalso;omega)
theorem zd5 {n w lo v:Nat} {b:Nat→Nat} (h:zem (b 0) w lo v) (hn:w≤n) (hc:∀ j,1≤j→j<w→128≤b j∧b j≤191) :
  (if Lib.decodeN n (b 0) (b 1) (b 2) (b 3)=(65533,1) then (0,0) else Lib.decodeN n (b 0) (b 1) (b 2) (b 3))=if cv v b (w-1)<lo∨1114111<cv v b (w-1)∨(55296≤cv v b (w-1)∧cv v b (w-1)<57344) then (0,0) else (cv v b (w-1),w):=by
 rcases h with ⟨h2,h3,rfl,rfl,rfl⟩|⟨h2,h3,rfl,rfl,rfl⟩|⟨h2,h3,rfl,rfl,rfl⟩
 ·have c1:=hc 1 (by omega) (by omega)
  have e:Lib.decodeN n (b 0) (b 1) (b 2) (b 3)=(b 0 % 32*64+b 1 % 64,2):=by
   unfold Lib.decodeN
   rw[if_neg (by omega),if_pos (by omega),if_pos (by omega)]
  have e2:cv (b 0 % 32) b (2-1)=b 0 % 32*64+b 1 % 64:=rfl
  rw[e,e2,if_neg (by simp),if_neg (by omega)]
 ·have c1:=hc 1 (by omega) (by omega)
  have c2:=hc 2 (by omega) (by omega)
  have e2:cv (b 0 % 16) b (3-1)=b 0 % 16*4096+b 1 % 64*64+b 2 % 64:=by
   show (b 0 % 16*64+b 1 % 64)*64+b 2 % 64=_
   omega
  rw[e2]
  by_cases g:b 0 % 16*4096+b 1 % 64*64+b 2 % 64≥2048∧(b 0 % 16*4096+b 1 % 64*64+b 2 % 64<55296∨(57344≤b 0 % 16*4096+b 1 % 64*64+b 2 % 64∧b 0 % 16*4096+b 1 % 64*64+b 2 % 64≤1114111))
  ·have e:Lib.decodeN n (b 0) (b 1) (b 2) (b 3)=(b 0 % 16*4096+b 1 % 64*64+b 2 % 64,3):=by
    unfold Lib.decodeN
    rw[if_neg (by omega),if_neg (by omega),if_pos (by omega),if_pos g]
   rw[e,if_neg (by simp),if_neg (by omega)]
  ·have e:Lib.decodeN n (b 0) (b 1) (b 2) (b 3)=(65533,1):=by
    unfold Lib.decodeN
    rw[if_neg (by omega),if_neg (by omega),if_pos (by omega),if_neg g]
   rw[e,if_pos rfl,if_pos (by omega)]
 ·have c1:=hc 1 (by omega) (by omega)
  have c2:=hc 2 (by omega) (by omega)
  have c3:=hc 3 (by omega) (by omega)
  have e2:cv (b 0 % 8) b (4-1)=b 0 % 8*262144+b 1 % 64*4096+b 2 % 64*64+b 3 % 64:=by
   show ((b 0 % 8*64+b 1 % 64)*64+b 2 % 64)*64+b 3 % 64=_
   omega
  rw[e2]
  by_cases g:b 0 % 8*262144+b 1 % 64*4096+b 2 % 64*64+b 3 % 64≥65536∧(b 0 % 8*262144+b 1 % 64*4096+b 2 % 64*64+b 3 % 64<55296∨(57344≤b 0 % 8*262144+b 1 % 64*4096+b 2 % 64*64+b 3 % 64∧b 0 % 8*262144+b 1 % 64*4096+b 2 % 64*64+b 3 % 64≤1114111))
  ·have e:Lib.decodeN n (b 0) (b 1) (b 2) (b 3)=(b 0 % 8*262144+b 1 % 64*4096+b 2 % 64*64+b 3 % 64,4):=by
    unfold Lib.decodeN
    rw[if_neg (by omega),if_neg (by omega),if_neg (by omega),if_pos (by omega),if_pos g]
   rw[e,if_neg (by simp),if_neg (by omega)]
  ·have e:Lib.decodeN n (b 0) (b 1) (b 2) (b 3)=(65533,1):=by
    unfold Lib.decodeN
    rw[if_neg (by omega),if_neg (by omega),if_neg (by omega),if_pos (by omega),if_neg g]
   rw[e,if_pos rfl,if_pos (by omega)]
theorem zfG (s:List UInt8) (i:Nat) (hi:i<s.length) (hs:s.length≤Lim):Pure Tryz.prog 200 [.str s,.int .i64 i] (.tup [.int .i64 (zn (s.drop i)).1,.int .i64 (zn (s.drop i)).2]):=by
 refine Pure.go ir200 ck200 (Al4 _) fun KP Q hQ=>?_
 simp only[Lim] at hs
 have hlt:(i:Int)<s.length:=by omega
 have h0:¬ (i:Int)<0:=by omega
 have hge:¬ (s.length:Int)≤i:=by omega
 rw[zdu hi] at hQ
 have hb0:=ze2 s i 0
 obtain⟨c,hc⟩:∃ c,s.getD i 0=c:=⟨_,rfl⟩
 have hcb:c.toNat=bt s i 0:=by rw[← hc];rfl
 have hcb':(c.toNat:Int)=(bt s i 0:Nat):=by rw[hcb]
 have hw0:IntKind.wrap .i64 ((bt s i 0:Nat):Int)=(bt s i 0:Nat):=ZK (by omega)
 generalize hB:(fun k=>bt s i k)=b at *
 have b0e:bt s i 0=b 0:=by rw[← hB]
 have bk:∀ k,bt s i k=b k:=fun k=>by rw[← hB]
 have hbl:∀ k,b k<256:=fun k=>by rw[← bk];exact ze2 s i k
 simp only[bk] at hQ hb0 hcb hcb' hw0
 by_cases a:(b 0:Int)<128
 ·simp(disch:=omega) only[ir200,h0,hlt,hge,hc,hcb',hw0,a,steps,st2,pev,rev,oev,optr,ibin,sbin,ishf,bound,mmAll,mm2,mk,mkArgs,AV.cells,AV.boxable,AV.one,AV.strip1,fillA,fillS,Nat.reduceEqDiff,reduceCtorEq,↓reduceIte,Nat.reduceAdd,Int.reduceNeg,Nat.reduceLeDiff,Int.reduceToNat,Int.reduceEq,Int.reduceLT,Int.reduceLE,Int.reduceAdd,Io,Im,If,Il,Jt,Jf,AC.rg,Jm,Jl,Ja,Fm,Fl,Fa,Imv,Imb,Iai,Iei,Igi,Isi,Ipf,Ipt,Ilb,Iia,Ilt,Iap,Ink,Iln,Ils,Iad,Iex,Ibx,Ing]
  have e:Lib.decodeN (s.length-i) (b 0) (b 1) (b 2) (b 3)=(b 0,1):=by unfold Lib.decodeN;rw[if_pos (by omega)]
  rw[e,if_neg (by simp;omega)] at hQ
  exact hQ _ _ _ _ nofun rfl (by simp[tupOf,envOf,AV.strip,AV.strip1])
 simp(disch:=omega) only[ir200,h0,hlt,hge,hc,hcb',hw0,a,steps,st2,pev,rev,oev,optr,ibin,sbin,ishf,bound,mmAll,mm2,mk,mkArgs,AV.cells,AV.boxable,AV.one,AV.strip1,fillA,fillS,Nat.reduceEqDiff,reduceCtorEq,↓reduceIte,Nat.reduceAdd,Int.reduceNeg,Nat.reduceLeDiff,Int.reduceToNat,Int.reduceEq,Int.reduceLT,Int.reduceLE,Int.reduceAdd,Io,Im,If,Il,Jt,Jf,AC.rg,Jm,Jl,Ja,Fm,Fl,Fa,Imv,Imb,Iai,Iei,Igi,Isi,Ipf,Ipt,Ilb,Iia,Ilt,Iap,Ink,Iln,Ils,Iad,Iex,Ibx,Ing]
 refine goU_cut (fun x:Nat×Nat×Nat=>[(6,.int .i64 x.2.2),(7,.int .i64 x.1),(8,.int .i64 x.2.1)]) (fun x H=>zem (b 0) x.1 x.2.1 x.2.2∧H=Heap.emp) (fun J hJ=>?_) ?_
 ·simp(disch:=omega) only[steps,st2,pev,rev,oev,optr,ibin,sbin,ishf,bound,mmAll,mm2,mk,mkArgs,AV.cells,AV.boxable,AV.one,AV.strip1,fillA,fillS,Nat.reduceEqDiff,reduceCtorEq,↓reduceIte,Nat.reduceAdd,Int.reduceNeg,Nat.reduceLeDiff,Int.reduceToNat,Int.reduceEq,Int.reduceLT,Int.reduceLE,Int.reduceAdd]
  by_cases a1:(194:Int)≤b 0
  ·by_cases a2:(b 0:Int)<224
   ·have e:=zfQ (n:=b 0) (by omega)
    simp(disch:=omega) only[a1,a2,e,steps,st2,pev,rev,oev,optr,ibin,sbin,ishf,bound,mmAll,mm2,mk,mkArgs,AV.cells,AV.boxable,AV.one,AV.strip1,fillA,fillS,Nat.reduceEqDiff,reduceCtorEq,↓reduceIte,Nat.reduceAdd,Int.reduceNeg,Nat.reduceLeDiff,Int.reduceToNat,Int.reduceEq,Int.reduceLT,Int.reduceLE,Int.reduceAdd]
    exact goJ (hJ (2,128,b 0 % 32) _ ⟨.inl ⟨by omega,by omega,rfl,rfl,rfl⟩,rfl⟩) (by simp(disch:=omega) only[steps,st2,pev,rev,oev,optr,ibin,sbin,ishf,bound,mmAll,mm2,mk,mkArgs,AV.cells,AV.boxable,AV.one,AV.strip1,fillA,fillS,Nat.reduceEqDiff,reduceCtorEq,↓reduceIte,Nat.reduceAdd,Int.reduceNeg,Nat.reduceLeDiff,Int.reduceToNat,Int.reduceEq,Int.reduceLT,Int.reduceLE,Int.reduceAdd])
   ·by_cases a3:(b 0:Int)<240
    ·have a4:(224:Int)≤b 0:=by omega
     have e:=zeZ (n:=b 0) (by omega)
     simp(disch:=omega) only[a1,a2,a3,a4,e,steps,st2,pev,rev,oev,optr,ibin,sbin,ishf,bound,mmAll,mm2,mk,mkArgs,AV.cells,AV.boxable,AV.one,AV.strip1,fillA,fillS,Nat.reduceEqDiff,reduceCtorEq,↓reduceIte,Nat.reduceAdd,Int.reduceNeg,Nat.reduceLeDiff,Int.reduceToNat,Int.reduceEq,Int.reduceLT,Int.reduceLE,Int.reduceAdd]
     exact goJ (hJ (3,2048,b 0 % 16) _ ⟨.inr (.inl ⟨by omega,by omega,rfl,rfl,rfl⟩),rfl⟩) (by simp(disch:=omega) only[steps,st2,pev,rev,oev,optr,ibin,sbin,ishf,bound,mmAll,mm2,mk,mkArgs,AV.cells,AV.boxable,AV.one,AV.strip1,fillA,fillS,Nat.reduceEqDiff,reduceCtorEq,↓reduceIte,Nat.reduceAdd,Int.reduceNeg,Nat.reduceLeDiff,Int.reduceToNat,Int.reduceEq,Int.reduceLT,Int.reduceLE,Int.reduceAdd])
    ·have a4:(224:Int)≤b 0:=by omega
     have a5:(240:Int)≤b 0:=by omega
     by_cases a6:(b 0:Int)<245
     ·have e:=and7 (n:=b 0) (by omega)
      simp(disch:=omega) only[a1,a2,a3,a4,a5,a6,e,steps,st2,pev,rev,oev,optr,ibin,sbin,ishf,bound,mmAll,mm2,mk,mkArgs,AV.cells,AV.boxable,AV.one,AV.strip1,fillA,fillS,Nat.reduceEqDiff,reduceCtorEq,↓reduceIte,Nat.reduceAdd,Int.reduceNeg,Nat.reduceLeDiff,Int.reduceToNat,Int.reduceEq,Int.reduceLT,Int.reduceLE,Int.reduceAdd]
      exact goJ (hJ (4,65536,b 0 % 8) _ ⟨.inr (.inr ⟨by omega,by omega,rfl,rfl,rfl⟩),rfl⟩) (by simp(disch:=omega) only[steps,st2,pev,rev,oev,optr,ibin,sbin,ishf,bound,mmAll,mm2,mk,mkArgs,AV.cells,AV.boxable,AV.one,AV.strip1,fillA,fillS,Nat.reduceEqDiff,reduceCtorEq,↓reduceIte,Nat.reduceAdd,Int.reduceNeg,Nat.reduceLeDiff,Int.reduceToNat,Int.reduceEq,Int.reduceLT,Int.reduceLE,Int.reduceAdd])
     ·rw[Lib.decodeN_bad _ _ _ _ _ (.inr ⟨by omega,hbl 0⟩),if_pos rfl] at hQ
      simp(disch:=omega) only[a1,a2,a3,a4,a5,a6,steps,st2,pev,rev,oev,optr,ibin,sbin,ishf,bound,mmAll,mm2,mk,mkArgs,AV.cells,AV.boxable,AV.one,AV.strip1,fillA,fillS,Nat.reduceEqDiff,reduceCtorEq,↓reduceIte,Nat.reduceAdd,Int.reduceNeg,Nat.reduceLeDiff,Int.reduceToNat,Int.reduceEq,Int.reduceLT,Int.reduceLE,Int.reduceAdd]
      exact hQ _ _ _ _ nofun rfl (by simp[tupOf,envOf,AV.strip,AV.strip1])
  ·have a2:¬ (224:Int)≤b 0:=by omega
   have a3:¬ (240:Int)≤b 0:=by omega
   rw[Lib.decodeN_bad _ _ _ _ _ (.inl ⟨by omega,by omega⟩),if_pos rfl] at hQ
   simp(disch:=omega) only[a1,a2,a3,steps,st2,pev,rev,oev,optr,ibin,sbin,ishf,bound,mmAll,mm2,mk,mkArgs,AV.cells,AV.boxable,AV.one,AV.strip1,fillA,fillS,Nat.reduceEqDiff,reduceCtorEq,↓reduceIte,Nat.reduceAdd,Int.reduceNeg,Nat.reduceLeDiff,Int.reduceToNat,Int.reduceEq,Int.reduceLT,Int.reduceLE,Int.reduceAdd]
   exact hQ _ _ _ _ nofun rfl (by simp[tupOf,envOf,AV.strip,AV.strip1])
 rintro⟨w,lo,v⟩ H ⟨hL,rfl⟩
 simp only at hL
 have hv:v<32∧2≤w∧w≤4∧lo≤65536:=by rcases hL with h|h|h<;>omega
 by_cases g:w≤s.length-i
 case neg =>
  have g':(s.length:Int)-i<w:=by omega
  rw[zc9 hL (by omega),if_pos rfl] at hQ
  simp(disch:=omega) only[wrap64,g',steps,st2,pev,rev,oev,optr,ibin,sbin,ishf,bound,mmAll,mm2,mk,mkArgs,AV.cells,AV.boxable,AV.one,AV.strip1,fillA,fillS,Nat.reduceEqDiff,reduceCtorEq,↓reduceIte,Nat.reduceAdd,Int.reduceNeg,Nat.reduceLeDiff,Int.reduceToNat,Int.reduceEq,Int.reduceLT,Int.reduceLE,Int.reduceAdd]
  exact hQ _ _ _ _ nofun rfl (by simp[tupOf,envOf,AV.strip,AV.strip1])
 have g':¬ (s.length:Int)-i<w:=by omega
 simp(disch:=omega) only[wrap64,g',steps,st2,pev,rev,oev,optr,ibin,sbin,ishf,bound,mmAll,mm2,mk,mkArgs,AV.cells,AV.boxable,AV.one,AV.strip1,fillA,fillS,Nat.reduceEqDiff,reduceCtorEq,↓reduceIte,Nat.reduceAdd,Int.reduceNeg,Nat.reduceLeDiff,Int.reduceToNat,Int.reduceEq,Int.reduceLT,Int.reduceLE,Int.reduceAdd]
 refine goL_st (fun j:Nat=>[(6,.int .i64 (cv v b j)),(9,.int .i64 (j+1:Nat))]) (fun j H=>j+1≤w∧(∀ k,1≤k→k<j+1→128≤b k∧b k≤191)∧cv v b j<32*64 ^ j) (fun j=>w-j) 0 (by simp(disch:=omega) only[cv,steps,st2,pev,rev,oev,optr,ibin,sbin,ishf,bound,mmAll,mm2,mk,mkArgs,AV.cells,AV.boxable,AV.one,AV.strip1,fillA,fillS,Nat.reduceEqDiff,reduceCtorEq,↓reduceIte,Nat.reduceAdd,Int.reduceNeg,Nat.reduceLeDiff,Int.reduceToNat,Int.reduceEq,Int.reduceLT,Int.reduceLE,Int.reduceAdd]) ⟨by omega,fun k h1 h2=>by omega,by simp[cv];omega⟩ ?_
 rintro j H J ⟨hj,hcont,hcv⟩ hJ
 have hcv2:cv v b j<8388608:=by
  have:j=0∨j=1∨j=2∨j=3:=by omega
  rcases this with rfl|rfl|rfl|rfl<;>omega
 by_cases hjw:j+1<w
 ·have hjw':((j+1:Nat):Int)<w:=by omega
  have hto:((i:Int)+((j+1:Nat):Int)).toNat=i+(j+1):=by omega
  have hi1:(0:Int)≤(i:Int)+((j+1:Nat):Int):=by omega
  have hi2:(i:Int)+((j+1:Nat):Int)<s.length:=by omega
  obtain⟨d,hd⟩:∃ d,s.getD (i+(j+1)) 0=d:=⟨_,rfl⟩
  have hdb:(d.toNat:Int)=(b (j+1):Nat):=by rw[← hd,← bk]
  have hb1:=hbl (j+1)
  have hw1:IntKind.wrap .i64 ((b (j+1):Nat):Int)=(b (j+1):Nat):=ZK (by omega)
  simp(disch:=omega) only[hjw',wrap64,hto,hi1,hi2,hd,hdb,hw1,steps,st2,pev,rev,oev,optr,ibin,sbin,ishf,bound,mmAll,mm2,mk,mkArgs,AV.cells,AV.boxable,AV.one,AV.strip1,fillA,fillS,Nat.reduceEqDiff,reduceCtorEq,↓reduceIte,Nat.reduceAdd,Int.reduceNeg,Nat.reduceLeDiff,Int.reduceToNat,Int.reduceEq,Int.reduceLT,Int.reduceLE,Int.reduceAdd]
  by_cases a1:((b (j+1):Nat):Int)<128
  ·rw[zbl hL (by omega) hjw (.inl (by omega)),if_pos rfl] at hQ
   simp(disch:=omega) only[a1,steps,st2,pev,rev,oev,optr,ibin,sbin,ishf,bound,mmAll,mm2,mk,mkArgs,AV.cells,AV.boxable,AV.one,AV.strip1,fillA,fillS,Nat.reduceEqDiff,reduceCtorEq,↓reduceIte,Nat.reduceAdd,Int.reduceNeg,Nat.reduceLeDiff,Int.reduceToNat,Int.reduceEq,Int.reduceLT,Int.reduceLE,Int.reduceAdd]
   exact hQ _ _ _ _ nofun rfl (by simp[tupOf,envOf,AV.strip,AV.strip1])
  by_cases a2:(191:Int)<((b (j+1):Nat):Int)
  ·rw[zbl hL (by omega) hjw (.inr (by omega)),if_pos rfl] at hQ
   simp(disch:=omega) only[a1,a2,steps,st2,pev,rev,oev,optr,ibin,sbin,ishf,bound,mmAll,mm2,mk,mkArgs,AV.cells,AV.boxable,AV.one,AV.strip1,fillA,fillS,Nat.reduceEqDiff,reduceCtorEq,↓reduceIte,Nat.reduceAdd,Int.reduceNeg,Nat.reduceLeDiff,Int.reduceToNat,Int.reduceEq,Int.reduceLT,Int.reduceLE,Int.reduceAdd]
   exact hQ _ _ _ _ nofun rfl (by simp[tupOf,envOf,AV.strip,AV.strip1])
  have e1:=zcE (n:=b (j+1)) (by omega)
  have e2:IntKind.wrap .i64 ((cv v b j:Int)*2 ^ (min 6 IntKind.i64.bits))=((cv v b j*64:Nat):Int):=by
   have e3:(2:Int) ^ (min 6 IntKind.i64.bits)=64:=by decide
   rw[e3,wrap64 (by omega) (by omega)];omega
  have e4:=zgg (a:=cv v b j) (b:=b (j+1) % 64) (by omega) (Nat.mod_lt _ (by omega))
  simp(disch:=omega) only[a1,a2,e1,e2,e4,steps,st2,pev,rev,oev,optr,ibin,sbin,ishf,bound,mmAll,mm2,mk,mkArgs,AV.cells,AV.boxable,AV.one,AV.strip1,fillA,fillS,Nat.reduceEqDiff,reduceCtorEq,↓reduceIte,Nat.reduceAdd,Int.reduceNeg,Nat.reduceLeDiff,Int.reduceToNat,Int.reduceEq,Int.reduceLT,Int.reduceLE,Int.reduceAdd]
  have hpow:32*64 ^ (j+1)=64*(32*64 ^ j):=by rw[Nat.pow_succ];omega
  exact goJ (hJ (j+1) _ (by omega) ⟨by omega,fun k h1 h2=>by
   rcases Nat.lt_or_ge k (j+1) with h3|h3
   ·exact hcont k h1 h3
   ·have:k=j+1:=by omega
    subst this
    omega,by simp only[cv];omega⟩) (by simp(disch:=omega) only[wrap64,cv,Int.natCast_add,Int.natCast_one,steps,st2,pev,rev,oev,optr,ibin,sbin,ishf,bound,mmAll,mm2,mk,mkArgs,AV.cells,AV.boxable,AV.one,AV.strip1,fillA,fillS,Nat.reduceEqDiff,reduceCtorEq,↓reduceIte,Nat.reduceAdd,Int.reduceNeg,Nat.reduceLeDiff,Int.reduceToNat,Int.reduceEq,Int.reduceLT,Int.reduceLE,Int.reduceAdd])
 ·have hjw':¬ ((j+1:Nat):Int)<w:=by omega
  have hjw2:j=w-1:=by omega
  subst hjw2
  rw[zd5 hL g (fun k h1 h2=>hcont k h1 (by omega))] at hQ
  have hcvB:(IntKind.wrap .i64 ((cv v b (w-1):Nat):Int))=(cv v b (w-1):Nat):=ZK (by omega)
  by_cases x1:((cv v b (w-1):Nat):Int)<lo
  ·rw[if_pos (.inl (by omega))] at hQ
   simp(disch:=omega) only[hjw',x1,steps,st2,pev,rev,oev,optr,ibin,sbin,ishf,bound,mmAll,mm2,mk,mkArgs,AV.cells,AV.boxable,AV.one,AV.strip1,fillA,fillS,Nat.reduceEqDiff,reduceCtorEq,↓reduceIte,Nat.reduceAdd,Int.reduceNeg,Nat.reduceLeDiff,Int.reduceToNat,Int.reduceEq,Int.reduceLT,Int.reduceLE,Int.reduceAdd]
   exact hQ _ _ _ _ nofun rfl (by simp[tupOf,envOf,AV.strip,AV.strip1])
  by_cases x2:(1114111:Int)<((cv v b (w-1):Nat):Int)
  ·rw[if_pos (.inr (.inl (by omega)))] at hQ
   simp(disch:=omega) only[hjw',x1,x2,steps,st2,pev,rev,oev,optr,ibin,sbin,ishf,bound,mmAll,mm2,mk,mkArgs,AV.cells,AV.boxable,AV.one,AV.strip1,fillA,fillS,Nat.reduceEqDiff,reduceCtorEq,↓reduceIte,Nat.reduceAdd,Int.reduceNeg,Nat.reduceLeDiff,Int.reduceToNat,Int.reduceEq,Int.reduceLT,Int.reduceLE,Int.reduceAdd]
   exact hQ _ _ _ _ nofun rfl (by simp[tupOf,envOf,AV.strip,AV.strip1])
  by_cases x3:(55296:Int)≤((cv v b (w-1):Nat):Int)
  ·by_cases x4:((cv v b (w-1):Nat):Int)<57344
   ·rw[if_pos (.inr (.inr ⟨by omega,by omega⟩))] at hQ
    simp(disch:=omega) only[hjw',x1,x2,x3,x4,steps,st2,pev,rev,oev,optr,ibin,sbin,ishf,bound,mmAll,mm2,mk,mkArgs,AV.cells,AV.boxable,AV.one,AV.strip1,fillA,fillS,Nat.reduceEqDiff,reduceCtorEq,↓reduceIte,Nat.reduceAdd,Int.reduceNeg,Nat.reduceLeDiff,Int.reduceToNat,Int.reduceEq,Int.reduceLT,Int.reduceLE,Int.reduceAdd]
    exact hQ _ _ _ _ nofun rfl (by simp[tupOf,envOf,AV.strip,AV.strip1])
   ·rw[if_neg (by omega)] at hQ
    simp(disch:=omega) only[hjw',x1,x2,x3,x4,steps,st2,pev,rev,oev,optr,ibin,sbin,ishf,bound,mmAll,mm2,mk,mkArgs,AV.cells,AV.boxable,AV.one,AV.strip1,fillA,fillS,Nat.reduceEqDiff,reduceCtorEq,↓reduceIte,Nat.reduceAdd,Int.reduceNeg,Nat.reduceLeDiff,Int.reduceToNat,Int.reduceEq,Int.reduceLT,Int.reduceLE,Int.reduceAdd]
    exact hQ _ _ _ _ nofun rfl (by simp[tupOf,envOf,AV.strip,AV.strip1])
  ·rw[if_neg (by omega)] at hQ
   simp(disch:=omega) only[hjw',x1,x2,x3,steps,st2,pev,rev,oev,optr,ibin,sbin,ishf,bound,mmAll,mm2,mk,mkArgs,AV.cells,AV.boxable,AV.one,AV.strip1,fillA,fillS,Nat.reduceEqDiff,reduceCtorEq,↓reduceIte,Nat.reduceAdd,Int.reduceNeg,Nat.reduceLeDiff,Int.reduceToNat,Int.reduceEq,Int.reduceLT,Int.reduceLE,Int.reduceAdd]
   exact hQ _ _ _ _ nofun rfl (by simp[tupOf,envOf,AV.strip,AV.strip1])
def cZ (l:List Int):List (List AV):=l.map fun n=>[.int .i64 n]
theorem ze6 (l:List Int):(cZ l).length=l.length:=by simp[cZ]
def Zs:Nat→List UInt8→List Int
 | 0,_=>[]
 | k+1,l=>if l=[] then [] else ((zn l).1:Int)::Zs k (l.drop (zn l).2)
theorem zcb (k:Nat):Zs k []=[]:=by cases k<;>simp[Zs]
def zas (s:List UInt8):List Int:=if Lib.validD s then Zs s.length s else []
theorem zcY {l:List UInt8} (hne:l≠[]) (h:(zn l).2=0):Lib.validD l=false:=by
 have hw:=Lib.decodeL_width l
 unfold zn at h
 rw[if_neg hne] at h
 split at h
 ·rename_i e
  rw[Lib.validD_step l hne,e];simp
 ·omega
theorem zal {l:List UInt8} (hne:l≠[]) (h:(zn l).2≠0):Lib.validD l=Lib.validD (l.drop (zn l).2)∧(zn l).2≤l.length:=by
 unfold zn at h ⊢
 rw[if_neg hne] at h ⊢
 split at h
 ·simp at h
 ·rename_i e
  rw[if_neg e]
  refine⟨?_,Lib.decodeL_le l hne⟩
  rw[Lib.validD_step l hne,if_neg]
  rintro⟨a,b⟩
  exact e (Prod.ext a b)
theorem zdX (s:List UInt8) (hs:s.length≤Lim):Pure Tryz.prog 152 [.str s] (.tup [.sl .no 1 (cZ (zas s)),.bool (Lib.validD s)]):=by
 refine Pure.go ir152 ck152 (Al4 _) fun KP Q hQ=>?_
 have hs':=hs
 simp only[Lim] at hs
 simp(disch:=omega) only[ir152,go_sem]
 refine goL_st (fun x:Own×List Int×Nat=>[(4,.sl x.1 1 (cZ x.2.1)),(5,.int .i64 x.2.2)])
  (fun x H=>x.2.2≤s.length∧x.2.1.length≤x.2.2∧Zs s.length s=x.2.1++Zs (s.length-x.2.1.length) (s.drop x.2.2)∧Lib.validD s=Lib.validD (s.drop x.2.2)∧OwnS Heap.emp .nil H x.1 x.2.1.length 1) (fun x=>s.length-x.2.2) (.nil,[],0) (by simp(disch:=omega) only[cZ,go_sem]) ⟨by simp,by simp,by simp,by simp,OwnS.refl rfl⟩ ?_
 rintro⟨o,acc,i⟩ H J ⟨hi,hai,hc,hv,hs1⟩ hJ
 simp only at hi hai hc hv hs1
 by_cases hlt:i<s.length
 case neg =>
  have hlt':¬ (i:Int)<s.length:=by omega
  rw[List.drop_of_length_le (by omega)] at hc hv
  rw[zcb,List.append_nil] at hc
  rw[Lib.validD_nil] at hv
  simp(disch:=omega) only[hlt',go_sem]
  exact hQ _ _ _ _ nofun rfl (by simp[tupOf,envOf,AV.strip,AV.strip1,zas,hv,hc])
 have hlt':(i:Int)<s.length:=by omega
 have hne:s.drop i≠[]:=fun e=>by have:=congrArg List.length e;simp at this;omega
 have hcl:=ze6 acc
 simp(disch:=omega) only[hlt',go_sem]
 refine goK_pure (Pure.low (zfG s i hlt hs')) ?_
 by_cases h0:(zn (s.drop i)).2=0
 ·rw[zcY hne h0] at hv
  have h0':((zn (s.drop i)).2:Int)=0:=by omega
  simp(disch:=omega) only[h0',go_sem]
  exact hQ _ _ _ _ nofun rfl (by simp[tupOf,envOf,AV.strip,AV.strip1,zas,hv,cZ])
 ·obtain⟨g1,g2⟩:=zal hne h0
  rw[ZG] at g2
  rw[List.drop_drop] at g1
  have h0':¬ ((zn (s.drop i)).2:Int)=0:=by omega
  simp(disch:=omega) only[h0',go_sem]
  refine goP_ownS (by rw[hcl];exact hs1.own) ?_ ?_ fun o' H' hs2=>?_
  ·simp only[hcl,Al2,Al3];omega
  ·simp only[hcl,Al2,Al3,maxLen];omega
  simp(disch:=omega) only[wrap64,go_sem]
  refine goJ (hJ (o',acc++[((zn (s.drop i)).1:Int)],i+(zn (s.drop i)).2) H' (by simp only;omega) ⟨by simp only;omega,by simp only[Al5,Al2,Al3];omega,?_,by rw[hv,g1],hs1.trans (by simpa[hcl] using hs2)⟩) (by simp(disch:=omega) only[cZ,List.map_append,Int.natCast_add,go_sem])
  rw[hc]
  obtain⟨k,hk⟩:∃ k,s.length-acc.length=k+1:=⟨s.length-acc.length-1,by omega⟩
  have hk2:s.length-(acc++[((zn (s.drop i)).1:Int)]).length=k:=by simp only[Al5,Al2,Al3];omega
  simp only[hk,hk2,Zs]
  rw[if_neg hne,List.drop_drop]
  simp
theorem zea (s:List UInt8) (hs:s.length≤Lim):Pure Tryz.prog 228 [.str s] (.bool (Lib.validD s)):=by
 refine Pure.go ir228 ck228 (Al4 _) fun KP Q hQ=>?_
 simp(disch:=omega) only[ir228,go_sem]
 refine goK_pure (zdX s hs) ?_
 simp(disch:=omega) only[go_sem]
 exact hQ _ _ _ _ nofun rfl (by simp[tupOf,envOf,AV.strip,AV.strip1])
open Go.Lib
theorem ze4 (n:Nat):(n:Int).fdiv (2 ^ min 6 IntKind.i64.bits)=((n / 64:Nat):Int):=by
 show (n:Int).fdiv 64=_
 rw[Int.fdiv_eq_ediv_of_nonneg _ (by omega)];omega
theorem zeW (n:Nat):(n:Int).fdiv (2 ^ min 12 IntKind.i64.bits)=((n / 4096:Nat):Int):=by
 show (n:Int).fdiv 4096=_
 rw[Int.fdiv_eq_ediv_of_nonneg _ (by omega)];omega
theorem zf2 (n:Nat):(n:Int).fdiv (2 ^ min 18 IntKind.i64.bits)=((n / 262144:Nat):Int):=by
 show (n:Int).fdiv 262144=_
 rw[Int.fdiv_eq_ediv_of_nonneg _ (by omega)];omega
theorem orT:∀ x:Fin 64,(∀(b:Nat),b=128∨(b=192∧x.val<32)∨(b=224∧x.val<16)∨(b=240∧x.val<8)→IntKind.wrap .u8 (IntKind.wrap .i64 ((BitVec.ofInt IntKind.i64.bits (b:Int) ||| BitVec.ofInt IntKind.i64.bits ((x.val:Nat):Int)).toNat:Int))=((UInt8.ofNat (b+x.val)).toNat:Int)):=by
 intro x b hb
 have h1:∀ x:Fin 64,IntKind.wrap .u8 (IntKind.wrap .i64 ((BitVec.ofInt IntKind.i64.bits 128 ||| BitVec.ofInt IntKind.i64.bits ((x.val:Nat):Int)).toNat:Int))=((UInt8.ofNat (128+x.val)).toNat:Int):=by decide +kernel
 have h2:∀ x:Fin 32,IntKind.wrap .u8 (IntKind.wrap .i64 ((BitVec.ofInt IntKind.i64.bits 192 ||| BitVec.ofInt IntKind.i64.bits ((x.val:Nat):Int)).toNat:Int))=((UInt8.ofNat (192+x.val)).toNat:Int):=by decide +kernel
 have h3:∀ x:Fin 16,IntKind.wrap .u8 (IntKind.wrap .i64 ((BitVec.ofInt IntKind.i64.bits 224 ||| BitVec.ofInt IntKind.i64.bits ((x.val:Nat):Int)).toNat:Int))=((UInt8.ofNat (224+x.val)).toNat:Int):=by decide +kernel
 have h4:∀ x:Fin 8,IntKind.wrap .u8 (IntKind.wrap .i64 ((BitVec.ofInt IntKind.i64.bits 240 ||| BitVec.ofInt IntKind.i64.bits ((x.val:Nat):Int)).toNat:Int))=((UInt8.ofNat (240+x.val)).toNat:Int):=by decide +kernel
 rcases hb with rfl|⟨rfl,h⟩|⟨rfl,h⟩|⟨rfl,h⟩
 ·exact h1 x
 ·exact h2 ⟨x.val,h⟩
 ·exact h3 ⟨x.val,h⟩
 ·exact h4 ⟨x.val,h⟩
theorem zcN {m:Nat} (h:m<64):IntKind.wrap .u8 (IntKind.wrap .i64 ((BitVec.ofInt IntKind.i64.bits 128 ||| BitVec.ofInt IntKind.i64.bits (m:Int)).toNat:Int))=((UInt8.ofNat (128+m)).toNat:Int):=orT ⟨m,h⟩ 128 (.inl rfl)
theorem zfU {m:Nat} (h:m<32):IntKind.wrap .u8 (IntKind.wrap .i64 ((BitVec.ofInt IntKind.i64.bits 192 ||| BitVec.ofInt IntKind.i64.bits (m:Int)).toNat:Int))=((UInt8.ofNat (192+m)).toNat:Int):=orT ⟨m,by omega⟩ 192 (.inr (.inl ⟨rfl,h⟩))
theorem zfI {m:Nat} (h:m<16):IntKind.wrap .u8 (IntKind.wrap .i64 ((BitVec.ofInt IntKind.i64.bits 224 ||| BitVec.ofInt IntKind.i64.bits (m:Int)).toNat:Int))=((UInt8.ofNat (224+m)).toNat:Int):=orT ⟨m,by omega⟩ 224 (.inr (.inr (.inl ⟨rfl,h⟩)))
theorem zfF {m:Nat} (h:m<8):IntKind.wrap .u8 (IntKind.wrap .i64 ((BitVec.ofInt IntKind.i64.bits 240 ||| BitVec.ofInt IntKind.i64.bits (m:Int)).toNat:Int))=((UInt8.ofNat (240+m)).toNat:Int):=orT ⟨m,by omega⟩ 240 (.inr (.inr (.inr ⟨rfl,h⟩)))
theorem zf5 (n:Nat) (h:n≤1114111):Pure Tryz.prog 204 [.int .i64 n] (.str (Zd n)):=by
 refine Pure.go ir204 ck204 (Al4 _) fun KP Q hQ=>?_
 by_cases h1:n<128
 ·have h1':((n:Int)<128)=True:=eq_true (by omega)
  have e:IntKind.wrap .u8 (n:Int)=((UInt8.ofNat n).toNat:Int):=by rw[wr8,UInt8.toNat_ofNat']
  have e2:byts [[.int .u8 (UInt8.ofNat n).toNat]]=some [UInt8.ofNat n]:=ZX [_]
  simp(disch:=omega) only[ir204,h1',e,e2,steps,st2,pev,rev,oev,optr,ibin,sbin,ishf,bound,mmAll,mm2,mk,mkArgs,AV.cells,AV.boxable,AV.one,AV.strip1,fillA,fillS,Nat.reduceEqDiff,reduceCtorEq,↓reduceIte,Nat.reduceAdd,Int.reduceNeg,Nat.reduceLeDiff,Int.reduceToNat,Int.reduceEq,Int.reduceLT,Int.reduceLE,Int.reduceAdd,Io,Im,If,Il,Jt,Jf,AC.rg,Jm,Jl,Ja,Fm,Fl,Fa,Imv,Imb,Iai,Iei,Igi,Isi,Ipf,Ipt,Ilb,Iia,Ilt,Iap,Ink,Iln,Ils,Iad,Iex,Ibx,Ing]
  exact hQ _ _ _ _ nofun rfl (by simp[tupOf,envOf,AV.strip,AV.strip1,Zd,show n≤127 by omega])
 have h1':¬ ((n:Int)<128):=by omega
 have a0:=zcE (n:=n) (by omega)
 by_cases h2:n<2048
 ·have h2':((n:Int)<2048)=True:=eq_true (by omega)
  have e2:byts [[.int .u8 (UInt8.ofNat (192+n / 64)).toNat],[.int .u8 (UInt8.ofNat (128+n % 64)).toNat]]=some [UInt8.ofNat (192+n / 64),UInt8.ofNat (128+n % 64)]:=ZX [_,_]
  have o1:=zfU (m:=n / 64) (by omega)
  have o2:=zcN (m:=n % 64) (by omega)
  simp(disch:=omega) only[ir204,h1',h2',ze4,a0,o1,o2,e2,steps,st2,pev,rev,oev,optr,ibin,sbin,ishf,bound,mmAll,mm2,mk,mkArgs,AV.cells,AV.boxable,AV.one,AV.strip1,fillA,fillS,Nat.reduceEqDiff,reduceCtorEq,↓reduceIte,Nat.reduceAdd,Int.reduceNeg,Nat.reduceLeDiff,Int.reduceToNat,Int.reduceEq,Int.reduceLT,Int.reduceLE,Int.reduceAdd,Io,Im,If,Il,Jt,Jf,AC.rg,Jm,Jl,Ja,Fm,Fl,Fa,Imv,Imb,Iai,Iei,Igi,Isi,Ipf,Ipt,Ilb,Iia,Ilt,Iap,Ink,Iln,Ils,Iad,Iex,Ibx,Ing]
  exact hQ _ _ _ _ nofun rfl (by simp[tupOf,envOf,AV.strip,AV.strip1,Zd,show ¬ n≤127 by omega,show n≤2047 by omega])
 have h2':¬ ((n:Int)<2048):=by omega
 have a1:=zcE (n:=n / 64) (by omega)
 have o2:=zcN (m:=n % 64) (by omega)
 have o3:=zcN (m:=n / 64 % 64) (by omega)
 by_cases h3:n<65536
 ·have h3':((n:Int)<65536)=True:=eq_true (by omega)
  have e2:byts [[.int .u8 (UInt8.ofNat (224+n / 4096)).toNat],[.int .u8 (UInt8.ofNat (128+n / 64 % 64)).toNat],[.int .u8 (UInt8.ofNat (128+n % 64)).toNat]]=some [UInt8.ofNat (224+n / 4096),UInt8.ofNat (128+n / 64 % 64),UInt8.ofNat (128+n % 64)]:=ZX [_,_,_]
  have o1:=zfI (m:=n / 4096) (by omega)
  simp(disch:=omega) only[ir204,h1',h2',h3',ze4,zeW,a0,a1,o1,o2,o3,e2,steps,st2,pev,rev,oev,optr,ibin,sbin,ishf,bound,mmAll,mm2,mk,mkArgs,AV.cells,AV.boxable,AV.one,AV.strip1,fillA,fillS,Nat.reduceEqDiff,reduceCtorEq,↓reduceIte,Nat.reduceAdd,Int.reduceNeg,Nat.reduceLeDiff,Int.reduceToNat,Int.reduceEq,Int.reduceLT,Int.reduceLE,Int.reduceAdd,Io,Im,If,Il,Jt,Jf,AC.rg,Jm,Jl,Ja,Fm,Fl,Fa,Imv,Imb,Iai,Iei,Igi,Isi,Ipf,Ipt,Ilb,Iia,Ilt,Iap,Ink,Iln,Ils,Iad,Iex,Ibx,Ing]
  exact hQ _ _ _ _ nofun rfl (by simp[tupOf,envOf,AV.strip,AV.strip1,Zd,show ¬ n≤127 by omega,show ¬ n≤2047 by omega,show n≤65535 by omega])
 have h3':¬ ((n:Int)<65536):=by omega
 have a2:=zcE (n:=n / 4096) (by omega)
 have o4:=zcN (m:=n / 4096 % 64) (by omega)
 have o1:=zfF (m:=n / 262144) (by omega)
 have e2:byts [[.int .u8 (UInt8.ofNat (240+n / 262144)).toNat],[.int .u8 (UInt8.ofNat (128+n / 4096 % 64)).toNat],[.int .u8 (UInt8.ofNat (128+n / 64 % 64)).toNat],[.int .u8 (UInt8.ofNat (128+n % 64)).toNat]]=some [UInt8.ofNat (240+n / 262144),UInt8.ofNat (128+n / 4096 % 64),UInt8.ofNat (128+n / 64 % 64),UInt8.ofNat (128+n % 64)]:=ZX [_,_,_,_]
 simp(disch:=omega) only[ir204,h1',h2',h3',ze4,zeW,zf2,a0,a1,a2,o1,o2,o3,o4,e2,steps,st2,pev,rev,oev,optr,ibin,sbin,ishf,bound,mmAll,mm2,mk,mkArgs,AV.cells,AV.boxable,AV.one,AV.strip1,fillA,fillS,Nat.reduceEqDiff,reduceCtorEq,↓reduceIte,Nat.reduceAdd,Int.reduceNeg,Nat.reduceLeDiff,Int.reduceToNat,Int.reduceEq,Int.reduceLT,Int.reduceLE,Int.reduceAdd,Io,Im,If,Il,Jt,Jf,AC.rg,Jm,Jl,Ja,Fm,Fl,Fa,Imv,Imb,Iai,Iei,Igi,Isi,Ipf,Ipt,Ilb,Iia,Ilt,Iap,Ink,Iln,Ils,Iad,Iex,Ibx,Ing]
 exact hQ _ _ _ _ nofun rfl (by simp[tupOf,envOf,AV.strip,AV.strip1,Zd,show ¬ n≤127 by omega,show ¬ n≤2047 by omega,show ¬ n≤65535 by omega])
end Go.Proofs.YtaielcdfcgpbiaaGreatDoor
namespace Go.Proofs.YtaielcdfcgpbiaaGreatDoor
open Go.Ab
theorem wrap_u8 {x:Int} (h0:0≤x) (h1:x<256):IntKind.wrap .u8 x=x:=by
 unfold IntKind.wrap
 simp[IntKind.signed,IntKind.bits]
 omega
theorem zdB {d:Nat} (h:d<10):byts [[.int .u8 (IntKind.wrap .u8 (48+(d:Int)))]]=some [UInt8.ofNat (48+d)]:=by
 rw[wrap_u8 (by omega) (by omega)]
 simp only[byts,yb]
 rw[if_pos (by omega)]
 congr 2
theorem zbO (n:Int):Lib.itoa n=if n<0 then 45::Lib.decDigits n.natAbs else Lib.decDigits n.natAbs:=by
 unfold Lib.itoa
 split
 ·rfl
 ·congr 1;omega
theorem zeG {u:Nat} (h:u≤9223372036854775808):(Lib.decDigits u).length≤21:=by
 have:=Lib.itoa_length_le (-(u:Int)) (by omega) (by omega)
 rw[zbO] at this
 by_cases h0:u=0
 ·subst h0;rw[Lib.decDigits];simp
 ·rw[if_pos (by omega)] at this
  simp only[Int.natAbs_neg,Int.natAbs_natCast,Al2] at this
  omega
theorem zdK (n : Int) (h0 : -9223372036854775808 ≤ n) (h1 : n ≤ 9223372036854775807) : Pure Tryz.prog 250 [.int .i64 n] (.str (Lib.itoa n)) := by
  refine Pure.go ir250 ck250 (Al4 _) fun KP Q hQ => ?_
  by_cases n0 : n = 0
  · simp (disch := omega) only [ir250, n0, go_sem]
    have e : Lib.itoa n = [48] := by subst n0; unfold Lib.itoa; rw [if_neg (by omega)]; unfold Lib.decDigits; rfl
    exact hQ _ _ _ _ nofun rfl (by simp [tupOf, envOf, AV.strip, AV.strip1, e])
  have hlen := zeG (u := n.natAbs) (by omega)
  rw [zbO] at hQ
  generalize hD : Lib.decDigits n.natAbs = D at hlen hQ
  simp (disch := omega) only [ir250, n0, go_sem]
  refine goL_st (fun x : Nat × List UInt8 => [(3, .str x.2), (4, .int .i64 (if n < 0 then -(x.1 : Int) else x.1))]) (fun x H => x.1 ≤ n.natAbs ∧ D = (if x.1 = 0 then x.2 else Lib.decDigits x.1 ++ x.2)) (fun x => x.1) (n.natAbs, [])
    (by have e : (if n < 0 then -(n.natAbs : Int) else n.natAbs) = n := by split <;> omega
        simp (disch := omega) only [e, go_sem]) ⟨Al4 _, by rw [if_neg (by omega), List.append_nil, hD]⟩ ?_
  rintro ⟨u, t⟩ H J ⟨hu, ht⟩ hJ
  simp only at hu ht
  have htl : t.length ≤ 21 := by
    have : t.length ≤ D.length := by
      rw [ht]; split
      · exact Al4 _
      · simp
    omega
  by_cases u0 : u = 0
  · have e : (if n < 0 then -(u : Int) else u) = 0 := by split <;> omega
    rw [if_pos u0] at ht
    subst u0
    by_cases hn : n < 0
    · simp (disch := omega) only [hn, Int.neg_zero, go_sem]
      rw [if_pos hn] at hQ
      exact hQ _ _ _ _ nofun rfl (by simp [tupOf, envOf, AV.strip, AV.strip1, ht])
    · simp (disch := omega) only [hn, Int.neg_zero, go_sem]
      rw [if_neg hn] at hQ
      exact hQ _ _ _ _ nofun rfl (by simp [tupOf, envOf, AV.strip, AV.strip1, ht])
  · rw [if_neg u0] at ht
    have hm : u % 10 < 10 := Nat.mod_lt _ (by omega)
    have hstep : D = (if u / 10 = 0 then UInt8.ofNat (48 + u % 10) :: t else Lib.decDigits (u / 10) ++ UInt8.ofNat (48 + u % 10) :: t) := by
      rw [ht, Lib.decDigits]
      by_cases h10 : u < 10
      · have e1 : u / 10 = 0 := by omega
        have e2 : u % 10 = u := by omega
        rw [dif_pos h10, if_pos e1, e2]; rfl
      · have e1 : ¬ u / 10 = 0 := by omega
        rw [dif_neg h10, if_neg e1, zay]; rfl
    have hby := zdB hm
    by_cases hn : n < 0
    · have e : (if n < 0 then -(u : Int) else u) = -(u : Int) := if_pos hn
      have e' : (if n < 0 then -((u / 10 : Nat) : Int) else ((u / 10 : Nat) : Int)) = -((u / 10 : Nat) : Int) := if_pos hn
      have hne : ¬ (-(u : Int) = 0) := by omega
      have hmod : Int.tmod (-(u : Int)) 10 = -((u % 10 : Nat) : Int) := by rw [Int.neg_tmod, Int.tmod_eq_emod_of_nonneg (by omega)]; omega
      have hdiv : Int.tdiv (-(u : Int)) 10 = -((u / 10 : Nat) : Int) := by rw [Int.neg_tdiv, Int.tdiv_eq_ediv_of_nonneg (by omega)]; omega
      have hw1 : IntKind.wrap .i64 (48 + ((u % 10 : Nat) : Int)) = 48 + ((u % 10 : Nat) : Int) := wrap64 (by omega) (by omega)
      by_cases z : u % 10 = 0
      · have hz : -((u % 10 : Nat) : Int) = ((u % 10 : Nat) : Int) := by omega
        have hz2 : ¬ ((u % 10 : Nat) : Int) < 0 := by omega
        simp (disch := omega) only [e, hne, hmod, hdiv, hby, wrap64, hz, hz2, hw1, go_sem]
        exact goJ (hJ (u / 10, UInt8.ofNat (48 + u % 10) :: t) _ (by simp only; omega) ⟨by simp only; omega, hstep⟩) (by simp (disch := omega) only [e', wrap64, go_sem])
      · have hz2 : -((u % 10 : Nat) : Int) < 0 := by omega
        have hneg : 0 - -((u % 10 : Nat) : Int) = ((u % 10 : Nat) : Int) := by omega
        simp (disch := omega) only [e, hne, hmod, hdiv, hby, wrap64, hz2, hw1, hneg, go_sem]
        exact goJ (hJ (u / 10, UInt8.ofNat (48 + u % 10) :: t) _ (by simp only; omega) ⟨by simp only; omega, hstep⟩) (by simp (disch := omega) only [e', wrap64, go_sem])
    · have e : (if n < 0 then -(u : Int) else u) = (u : Int) := if_neg hn
      have e' : (if n < 0 then -((u / 10 : Nat) : Int) else ((u / 10 : Nat) : Int)) = ((u / 10 : Nat) : Int) := if_neg hn
      have hne : ¬ ((u : Int) = 0) := by omega
      have hmod : Int.tmod (u : Int) 10 = ((u % 10 : Nat) : Int) := by rw [Int.tmod_eq_emod_of_nonneg (by omega)]; omega
      have hdiv : Int.tdiv (u : Int) 10 = ((u / 10 : Nat) : Int) := by rw [Int.tdiv_eq_ediv_of_nonneg (by omega)]; omega
      have hw1 : IntKind.wrap .i64 (48 + ((u % 10 : Nat) : Int)) = 48 + ((u % 10 : Nat) : Int) := wrap64 (by omega) (by omega)
      have hz2 : ¬ ((u % 10 : Nat) : Int) < 0 := by omega
      simp (disch := omega) only [e, hne, hmod, hdiv, hby, wrap64, hz2, hw1, go_sem]
      exact goJ (hJ (u / 10, UInt8.ofNat (48 + u % 10) :: t) _ (by simp only; omega) ⟨by simp only; omega, hstep⟩) (by simp (disch := omega) only [e', wrap64, go_sem])
open Go.Lib
theorem zfv (s:List UInt8) (c:UInt8) (hs:s.length≤Lim):Pure Tryz.prog 154 [.str s,.int .u8 c.toNat] (.int .i64 (Lib.indexByte s c)):=by
 refine Pure.go ir154 ck154 (Al4 _) fun KP Q hQ=>?_
 simp only[Lim] at hs
 have none:∀ l:List UInt8,c ∉ l→Lib.indexByte l c=-1:=fun l=>by
  induction l with
  | nil=>intro _;rfl
  | cons b l ih =>
   intro h
   have h1:¬ b=c:=fun e=>h (by simp[e])
   have h2:=ih fun e=>h (by simp[e])
   simp[Lib.indexByte,h1,h2]
 have at':∀(l r:List UInt8),c ∉ l→Lib.indexByte (l++c::r) c=l.length:=fun l=>by
  induction l with
  | nil=>intro r _;simp[Lib.indexByte]
  | cons b l ih =>
   intro r h
   have h1:¬ b=c:=fun e=>h (by simp[e])
   have h2:=ih r fun e=>h (by simp[e])
   simp only[Al6,Lib.indexByte,h2]
   simp[h1]
   try omega
 simp(disch:=omega) only[ir154,go_sem]
 refine goL_range s 5 (fun _:Unit=>[]) (fun done rest _ H'=>c ∉ done) () (by simp(disch:=omega) only[go_sem]) (by simp) ?_ ?_
 ·rintro _ H2 J hn hlt
  simp(disch:=omega) only[hlt,go_sem]
  exact hQ _ _ _ _ nofun rfl (by simp[tupOf,envOf,AV.strip,AV.strip1,none s hn])
 ·rintro done x rest _ H2 J hd hlt hlt2 hn hJ
  have hg:=zbi hd
  by_cases hx:x=c
  ·subst hx
   have e:=at' done rest hn
   rw[← hd] at e
   simp(disch:=omega) only[hlt,hg,go_sem]
   exact hQ _ _ _ _ nofun rfl (by simp[tupOf,envOf,AV.strip,AV.strip1,e])
  ·have hx':¬ ((x.toNat:Int)=c.toNat):=by rw[zfR];exact hx
   have nx:=hJ () H2 (by simp only[List.mem_append,List.mem_singleton,not_or];exact⟨hn,fun e=>hx e.symm⟩)
   simp(disch:=omega) only[hlt,hg,hx',wrap64,go_sem]
   exact goJ nx (by simp(disch:=omega) only[go_sem])
structure DecOk (l:List UInt8) (c k:Nat):Prop where
 enc:Zd c=l.take k
 le:c≤1114111
 pos:1≤k
 len:k≤l.length
 one:k=1→c=(l.getD 0 0).toNat∧(l.getD 0 0).toNat<128
 high:k≠1→∀ x∈l.take k,128≤x.toNat
theorem Zm {n:Nat} {b:UInt8} (h:n=b.toNat):UInt8.ofNat n=b:=UInt8.toNat_inj.1 (by rw[UInt8.toNat_ofNat',h];have:=b.toNat_lt;omega)
theorem zez {b0 b1:UInt8} {t:List UInt8} (h0:b0.toNat / 32=6) (h1:b1.toNat / 64=2) (hc:128≤b0.toNat % 32*64+b1.toNat % 64):DecOk (b0::b1::t) (b0.toNat % 32*64+b1.toNat % 64) 2:=by
 refine⟨?_,by omega,by omega,by simp,fun h=>by omega,fun _ x hx=>?_⟩
 ·unfold Zd
  rw[if_neg (by omega),if_pos (by omega)]
  simp only[zbW,List.take_zero,List.cons.injEq,and_true]
  exact⟨Zm (by omega),Zm (by omega)⟩
 ·simp only[zbW,List.take_zero,List.mem_cons,List.not_mem_nil,or_false] at hx
  rcases hx with rfl|rfl<;>omega
theorem zdb {b0 b1 b2:UInt8} {t:List UInt8} (h0:b0.toNat / 16=14) (h1:b1.toNat / 64=2) (h2:b2.toNat / 64=2) (hc:2048≤b0.toNat % 16*4096+b1.toNat % 64*64+b2.toNat % 64) :
  DecOk (b0::b1::b2::t) (b0.toNat % 16*4096+b1.toNat % 64*64+b2.toNat % 64) 3:=by
 refine⟨?_,by omega,by omega,by simp,fun h=>by omega,fun _ x hx=>?_⟩
 ·unfold Zd
  rw[if_neg (by omega),if_neg (by omega),if_pos (by omega)]
  simp only[zbW,List.take_zero,List.cons.injEq,and_true]
  exact⟨Zm (by omega),Zm (by omega),Zm (by omega)⟩
 ·simp only[zbW,List.take_zero,List.mem_cons,List.not_mem_nil,or_false] at hx
  rcases hx with rfl|rfl|rfl<;>omega
theorem zdv {b0 b1 b2 b3:UInt8} {t:List UInt8} (h0:b0.toNat / 8=30) (h1:b1.toNat / 64=2) (h2:b2.toNat / 64=2) (h3:b3.toNat / 64=2)
  (hc:65536≤b0.toNat % 8*262144+b1.toNat % 64*4096+b2.toNat % 64*64+b3.toNat % 64) (hd:b0.toNat % 8*262144+b1.toNat % 64*4096+b2.toNat % 64*64+b3.toNat % 64≤1114111) :
  DecOk (b0::b1::b2::b3::t) (b0.toNat % 8*262144+b1.toNat % 64*4096+b2.toNat % 64*64+b3.toNat % 64) 4:=by
 refine⟨?_,by omega,by omega,by simp,fun h=>by omega,fun _ x hx=>?_⟩
 ·unfold Zd
  rw[if_neg (by omega),if_neg (by omega),if_neg (by omega)]
  simp only[zbW,List.take_zero,List.cons.injEq,and_true]
  exact⟨Zm (by omega),Zm (by omega),Zm (by omega),Zm (by omega)⟩
 ·simp only[zbW,List.take_zero,List.mem_cons,List.not_mem_nil,or_false] at hx
  rcases hx with rfl|rfl|rfl|rfl<;>omega
theorem zfe {l:List UInt8} (hne:l≠[]) (h:decodeL l≠(65533,1)):DecOk l (decodeL l).1 (decodeL l).2:=by
 rw[decodeL_N] at h ⊢
 obtain⟨b0,t,rfl⟩:∃ b0 t,l=b0::t:=by cases l with|nil=>exact absurd rfl hne|cons a b=>exact⟨a,b,rfl⟩
 simp only[List.getD_cons_zero,List.getD_cons_succ] at h ⊢
 unfold decodeN at h ⊢
 split at h
 ·rename_i h0
  rw[if_pos h0]
  refine⟨?_,by simp only;omega,by simp,by simp,fun _=>⟨by simp,by simpa using h0⟩,fun h=>absurd rfl h⟩
  simp only
  unfold Zd
  rw[if_pos (by omega)]
  simp only[zbW,List.take_zero,List.cons.injEq,and_true]
  exact Zm rfl
 ·rename_i h0
  rw[if_neg h0]
  split at h
  ·rename_i h1
   rw[if_pos h1]
   split at h
   ·rename_i h2
    rw[if_pos h2]
    obtain⟨b1,t,rfl⟩:∃ b1 r,t=b1::r:=by cases t with|nil=>simp at h1|cons a b=>exact⟨a,b,rfl⟩
    exact zez h1.1 (by simpa using h1.2.2) (by simpa using h2)
   ·exact absurd rfl h
  ·rename_i h1
   rw[if_neg h1]
   split at h
   ·rename_i h2
    rw[if_pos h2]
    split at h
    ·rename_i h3
     rw[if_pos h3]
     obtain⟨b1,t,rfl⟩:∃ b1 r,t=b1::r:=by cases t with|nil=>simp at h2|cons a b=>exact⟨a,b,rfl⟩
     obtain⟨b2,t,rfl⟩:∃ b2 r,t=b2::r:=by cases t with|nil=>simp at h2|cons a b=>exact⟨a,b,rfl⟩
     exact zdb h2.1 (by simpa using h2.2.1.2) (by simpa using h2.2.2.2) (by simpa using h3.1)
    ·exact absurd rfl h
   ·rename_i h2
    rw[if_neg h2]
    split at h
    ·rename_i h3
     rw[if_pos h3]
     split at h
     ·rename_i h4
      rw[if_pos h4]
      obtain⟨b1,t,rfl⟩:∃ b1 r,t=b1::r:=by cases t with|nil=>simp at h3|cons a b=>exact⟨a,b,rfl⟩
      obtain⟨b2,t,rfl⟩:∃ b2 r,t=b2::r:=by cases t with|nil=>simp at h3|cons a b=>exact⟨a,b,rfl⟩
      obtain⟨b3,t,rfl⟩:∃ b3 r,t=b3::r:=by cases t with|nil=>simp at h3|cons a b=>exact⟨a,b,rfl⟩
      exact zdv h3.1 (by simpa using h3.2.1.2) (by simpa using h3.2.2.1.2) (by simpa using h3.2.2.2.2) (by simpa using h4.1) (by have:=h4.2;simp at this ⊢;omega)
     ·exact absurd rfl h
    ·exact absurd rfl h
theorem Zj {l:List UInt8} (hne:l≠[]) (hv:validD l=true):DecOk l (zn l).1 (zn l).2∧validD (l.drop (zn l).2)=true:=by
 rw[validD_step l hne] at hv
 split at hv
 ·cases hv
 ·rename_i h
  have h':decodeL l≠(65533,1):=fun e=>h ⟨by rw[e],by rw[e]⟩
  have e:zn l=decodeL l:=by unfold zn;rw[if_neg hne,if_neg h']
  rw[e]
  exact⟨zfe hne h',hv⟩
def zah:List UInt8:=[46,46,46]
def zb2:List UInt8:=[33,36,38,40,41,58,61,64,91,93,123,124,125]
def za3:List UInt8→Bool
 | [c]=>decide (0≤Lib.indexByte zb2 c)
 | _=>false
def zD (t:Tok):Bool:=if t.k=1 then decide (t.s=zah)||za3 t.s else if t.k=2 then zj t.s else if t.k=3∨t.k=4 then decide (yF t.s=t.k) else if t.k=5 then validD t.s else false
def zT (u:Nat):List UInt8:=[92,117,hexL.getD (u / 4096 % 16) 0,hexL.getD (u / 256 % 16) 0,hexL.getD (u / 16 % 16) 0,hexL.getD (u % 16) 0]
def zO (c:Nat) (bs:List UInt8):List UInt8 :=
 if c=34∨c=92 then [92,UInt8.ofNat c] else if c=10 then [92,110] else if c<32 then zT c
 else if 65536≤c then zT (55296+(c-65536) / 1024)++zT (56320+(c-65536) % 1024) else bs
def yR:Nat→List UInt8→List UInt8
 | 0,_=>[]
 | n+1,l=>if l=[] then [] else zO (zn l).1 (l.take (zn l).2)++yR n (l.drop (zn l).2)
def YG (s:List UInt8):List UInt8:=34::(yR s.length s++[34])
def Zn (t:Tok):List UInt8:=if t.k=5 then YG t.s else t.s
def Zi (l:List Tok):List UInt8:=Lib.join (l.map Zn) [32]
def zG (l:List Tok):List UInt8×Bool:=if l.all zD then (Zi l,true) else ([],false)
theorem zfO (s:List UInt8):decodeGo ⟨s.toArray⟩=if s=[] then (65533,0) else decodeL s:=by
 unfold decodeGo
 cases s with
 | nil=>rfl
 | cons c r=>rw[if_neg (by simp[ByteArray.size]),if_neg (by simp)];rfl
theorem zcy (s:List UInt8):Pure Tryz.prog 169 [.str s] (.tup [.int .i32 ((if s=[] then (65533,0) else decodeL s:Nat×Nat).1),.int .i64 ((if s=[] then (65533,0) else decodeL s:Nat×Nat).2)]):=by
 refine Pure.of_below fun γ w vs ht hv=>?_
 rw[zcz hv]
 have h:=Tryz.utf8_DecodeRuneInString ⟨s.toArray⟩ w (zbq ht)
 rw[zfO] at h
 exact Calls.mono h fun e w' ⟨he,hb⟩=>⟨hb,_,he,zae (.int _ _) (.int _ _)⟩
theorem zcL:Go.Proofs.Builder.Extra Tryz.prog Tryz.lays156_ren where
 sizeBuilder:=by kernel_rfl
 liesBuilder:=by kernel_rfl
 t5:=Tryz.underlying5
 a5:=Tryz.isAgg5
 z5:=Tryz.sizeOf5
 v5:=Tryz.zeroValue5
 infoByte:=by kernel_rfl
 cellsByte:=by kernel_rfl
 sizeByte:=by kernel_rfl
 neB5:=by decide
theorem zbN (l:List (List UInt8)) (sep:List UInt8) (hl:(Lib.join l sep).length≤140737488355328) (hn:l.length≤140737488355328):Pure Tryz.prog 63 [.sl .no 1 (cT l),.str sep] (.str (Lib.join l sep)):=by
 refine Pure.of_below fun γ w vs ht hv=>?_
 obtain⟨hlv,hr⟩:=hv
 match vs,hlv with
 | [v,u],_ =>
  have h0:=hr 0 _ _ rfl rfl
  cases hr 1 _ _ rfl rfl
  generalize hx:cT l=xs at h0
  cases h0 with
  | slnil _ _ ho =>
   have:l=[]:=by cases l with|nil=>rfl|cons a b=>simp[cT] at hx
   subst this
   exact(Any.strings_Join_none Tryz.lays156 zcL none 0 ⟨sep.toArray⟩ w).mono fun e w' ⟨he,hw⟩=>⟨by rw[hw];exact RowKit.Below.refl _ _,_,he,.str _⟩
  | sl0 _ _ a ho =>
   have:l=[]:=by cases l with|nil=>rfl|cons a b=>simp[cT] at hx
   subst this
   exact(Any.strings_Join_none Tryz.lays156 zcL (some a) 0 ⟨sep.toArray⟩ w).mono fun e w' ⟨he,hw⟩=>⟨by rw[hw];exact RowKit.Below.refl _ _,_,he,.str _⟩
  | sl _ _ _ b off cap cv hc hm hu hcell hrr ho =>
   subst hx
   have hcl:=zA l
   cases hl0:l with
   | nil =>
    subst hl0
    exact(Any.strings_Join_none Tryz.lays156 zcL (some ⟨b,off,none⟩) cap ⟨sep.toArray⟩ w).mono fun e w' ⟨he,hw⟩=>⟨by rw[hw];exact RowKit.Below.refl _ _,_,he,.str _⟩
   | cons x0 r0 =>
    have hcells:∀(j:Nat) x,(l.map fun s=>(⟨s.toArray⟩:ByteArray))[j]?=some x→w.cell? ⟨b,off+j,none⟩=some (.string x):=fun j x hj=>by
     rw[yg,y9] at hj
     obtain⟨s,h1,rfl⟩:=hj
     have g1:(cT l)[j]?=some [.str s]:=by simp[cT,h1]
     have h2:=hcell j _ g1 0 (by decide)
     have h3:=hrr j _ g1 0 (.str s) rfl
     have e:off+(j*1+0)=off+j:=by omega
     rw[e] at h2
     generalize cv j 0=y at h2 h3
     cases h3
     exact h2.1
    have hbk:b<w.heap.size:=by
     have:=hcells 0 ⟨x0.toArray⟩ (by rw[hl0];rfl)
     exact World.block_lt_of_cell? w _ this
    have hmap:(l.map fun s=>(⟨s.toArray⟩:ByteArray)).map (·.data.toList)=l:=by
     rw[List.map_map];exact(List.map_congr_left (g:=id) fun s _=>by simp).trans (List.map_id l)
    have h:=Any.strings_Join Tryz.lays156 zcL b off cap (l.map fun s=>(⟨s.toArray⟩:ByteArray)) ⟨sep.toArray⟩ w hcells hbk (by simpa using hn) (by rw[List.length_map];omega) (by rw[hmap];exact hl)
    rw[List.length_map,hmap] at h
    rw[← hl0,hcl]
    exact h.mono fun e w' ⟨he,hb⟩=>⟨hb,_,he,.str _⟩
theorem zeU (s:List UInt8) (i:Nat) (hi:i<s.length) (hs:s.length≤Lim):Pure Tryz.prog 115 [.str s,.int .i64 i] (.tup [.int .i64 (zn (s.drop i)).1,.int .i64 (zn (s.drop i)).2]):=by
 refine Pure.go ir115 ck115 (Al4 _) fun KP Q hQ=>?_
 simp only[Lim] at hs
 have hne:s.drop i≠[]:=fun e=>by have:=congrArg List.length e;simp at this;omega
 have h1:¬ ((i:Int)<0):=by omega
 have h2:¬ ((s.length:Int)≤i):=by omega
 have h3:((i:Int)≤s.length)=True:=eq_true (by omega)
 simp(disch:=omega) only[ir115,h1,h2,h3,go_sem]
 refine goK_pure (zcy (s.drop i)) ?_
 have hw:=decodeL_width (s.drop i)
 have hr:=decodeL_rune (s.drop i)
 unfold zn at hQ
 simp only[hne,if_false] at hQ ⊢
 generalize decodeL (s.drop i)=x at *
 obtain⟨c,k⟩:=x
 simp only at hw hr hQ
 have e:IntKind.wrap .i64 (c:Int)=c:=wrap64 (by omega) (by omega)
 by_cases hc:c=65533
 ·have g1:((c:Int)=65533)=True:=eq_true (by omega)
  by_cases hk:k<2
  ·have g2:((k:Int)<2)=True:=eq_true (by omega)
   have e1:(c,k)=(65533,1):=by rw[hc];congr 1;omega
   rw[if_pos e1] at hQ
   simp(disch:=omega) only[g1,g2,go_sem]
   exact hQ _ _ _ _ nofun rfl (by simp[tupOf,envOf,AV.strip,AV.strip1])
  ·have g2:¬ ((k:Int)<2):=by omega
   have e1:¬ ((c,k)=(65533,1)):=fun h=>by cases h;omega
   rw[if_neg e1] at hQ
   simp(disch:=omega) only[g1,g2,e,go_sem]
   exact hQ _ _ _ _ nofun rfl (by simp[tupOf,envOf,AV.strip,AV.strip1])
 ·have g1:¬ ((c:Int)=65533):=by omega
  have e1:¬ ((c,k)=(65533,1)):=fun h=>by cases h;omega
  rw[if_neg e1] at hQ
  simp(disch:=omega) only[g1,e,go_sem]
  exact hQ _ _ _ _ nofun rfl (by simp[tupOf,envOf,AV.strip,AV.strip1])
def yq:Nat→List UInt8→List Nat
 | 0,_=>[]
 | n+1,l=>if l=[] then [] else (if 65536≤(zn l).1 then [55296+((zn l).1-65536) / 1024,56320+((zn l).1-65536) % 1024] else [(zn l).1])++yq n (l.drop (zn l).2)
theorem yi (n:Nat):yq n []=[]:=by cases n<;>simp[yq]
theorem YO:∀(n m:Nat) (l:List UInt8),l.length≤n→l.length≤m→validD l=true→yq n l=yq m l
 | 0,m,l,h,_,_=>by rw[y5.1 (by omega:l.length=0),yi,yi]
 | n,0,l,_,h,_=>by rw[y5.1 (by omega:l.length=0),yi,yi]
 | n+1,m+1,l,h1,h2,hv=>by
  by_cases hne:l=[]
  ·subst hne;rw[yi,yi]
  ·obtain⟨hd,hv2⟩:=Zj hne hv
   have:=hd.pos
   have:=hd.len
   simp only[yq,hne,if_false]
   rw[YO n m _ (by simp;omega) (by simp;omega) hv2]
theorem zav (n:Nat):((n:Int)).tdiv 1024=((n / 1024:Nat):Int):=by rw[Int.tdiv_eq_ediv_of_nonneg (by omega)];omega
theorem zao (n:Nat):((n:Int)).tmod 1024=((n % 1024:Nat):Int):=by rw[Int.tmod_eq_emod_of_nonneg (by omega)];omega
theorem zfn (s:List UInt8) (hv:validD s=true) (hs:s.length≤Lim):Pure Tryz.prog 131 [.str s] (.tup [.sl .no 1 (cU (yq s.length s)),.bool true]):=by
 refine Pure.go ir131 ck131 (Al4 _) fun KP Q hQ=>?_
 have hs':=hs
 simp only[Lim] at hs
 simp(disch:=omega) only[ir131,go_sem]
 refine goL_st (fun x:Own×List Nat×Nat=>[(4,.sl x.1 1 (cU x.2.1)),(5,.int .i64 x.2.2)])
  (fun x H=>x.2.2≤s.length∧x.2.1.length≤2*x.2.2∧yq s.length s=x.2.1++yq (s.drop x.2.2).length (s.drop x.2.2)∧validD (s.drop x.2.2)=true∧OwnS Heap.emp .nil H x.1 x.2.1.length 1) (fun x=>s.length-x.2.2) (.nil,[],0) (by simp(disch:=omega) only[cU,go_sem]) ⟨by simp,by simp,by simp,by simpa using hv,OwnS.refl rfl⟩ ?_
 rintro⟨o,acc,i⟩ H J ⟨hi,hai,hc,hv,hs1⟩ hJ
 simp only at hi hai hc hv hs1
 by_cases hlt:i<s.length
 case neg =>
  have hlt':¬ (i:Int)<s.length:=by omega
  rw[List.drop_of_length_le (by omega)] at hc
  rw[yi,List.append_nil] at hc
  simp(disch:=omega) only[hlt',go_sem]
  exact hQ _ _ _ _ nofun rfl (by simp[tupOf,envOf,AV.strip,AV.strip1,hc])
 have hlt':(i:Int)<s.length:=by omega
 have hne:s.drop i≠[]:=fun e=>by have:=congrArg List.length e;simp at this;omega
 have hcl:=zcj acc
 obtain⟨hd,hv2⟩:=Zj hne hv
 have hp:=hd.pos
 have hle:=hd.len
 have hmax:=hd.le
 have hst:yq (s.drop i).length (s.drop i)=(if 65536≤(zn (s.drop i)).1 then [55296+((zn (s.drop i)).1-65536) / 1024,56320+((zn (s.drop i)).1-65536) % 1024] else [(zn (s.drop i)).1])++yq ((s.drop i).drop (zn (s.drop i)).2).length ((s.drop i).drop (zn (s.drop i)).2):=by
  obtain⟨n,hn⟩:∃ n,(s.drop i).length=n+1:=⟨(s.drop i).length-1,by omega⟩
  rw[hn,yq,if_neg hne,YO n _ _ (by simp at hn ⊢;omega) (Al4 _) hv2]
 simp(disch:=omega) only[hlt',go_sem]
 refine goK_pure (zeU s i hlt hs') ?_
 rw[hst] at hc
 rw[List.drop_drop] at hc hv2
 rw[ZG] at hle
 generalize (zn (s.drop i)).1=c at *
 generalize (zn (s.drop i)).2=k at *
 have h0':¬ ((k:Int)=0):=by omega
 by_cases hc6:65536≤c
 ·have g:((65536:Int)≤c)=True:=eq_true (by omega)
  have w1:IntKind.wrap .i64 ((c:Int)-65536)=((c-65536:Nat):Int):=by rw[wrap64 (by omega) (by omega)];omega
  have w2:IntKind.wrap .i64 (((c-65536) / 1024:Nat):Int)=(((c-65536) / 1024:Nat):Int):=wrap64 (by omega) (by omega)
  have w3:IntKind.wrap .i64 (55296+(((c-65536) / 1024:Nat):Int))=((55296+(c-65536) / 1024:Nat):Int):=by rw[wrap64 (by omega) (by omega)];omega
  have w4:IntKind.wrap .i64 (56320+(((c-65536) % 1024:Nat):Int))=((56320+(c-65536) % 1024:Nat):Int):=by rw[wrap64 (by omega) (by omega)];omega
  rw[if_pos hc6] at hc
  simp(disch:=omega) only[h0',g,w1,zav,zao,w2,w3,w4,go_sem]
  refine goP_ownS (by rw[hcl];exact hs1.own) (by simp only[hcl,Al2,Al3];omega) (by simp only[hcl,Al2,Al3,maxLen];omega) fun o' H' hs2=>?_
  simp(disch:=omega) only[wrap64,go_sem]
  exact goJ (hJ (o',acc++[55296+(c-65536) / 1024,56320+(c-65536) % 1024],i+k) H' (by simp only;omega) ⟨by simp only;omega,by simp;omega,by rw[hc];simp,hv2,hs1.trans (by simpa[hcl] using hs2)⟩) (by simp(disch:=omega) only[cU,List.map_append,Int.natCast_add,go_sem])
 ·have g:¬ ((65536:Int)≤c):=by omega
  rw[if_neg hc6] at hc
  simp(disch:=omega) only[h0',g,go_sem]
  refine goP_ownS (by rw[hcl];exact hs1.own) (by simp only[hcl,Al2,Al3];omega) (by simp only[hcl,Al2,Al3,maxLen];omega) fun o' H' hs2=>?_
  simp(disch:=omega) only[wrap64,go_sem]
  exact goJ (hJ (o',acc++[c],i+k) H' (by simp only;omega) ⟨by simp only;omega,by simp;omega,by rw[hc];simp,hv2,hs1.trans (by simpa[hcl] using hs2)⟩) (by simp(disch:=omega) only[cU,List.map_append,Int.natCast_add,go_sem])
theorem zcW {n n' b0 b1 b2 b3 c1 c2 c3 c k:Nat} (h:decodeN n b0 b1 b2 b3=(c,k)) (hv:(c,k)≠(65533,1)) (hn:k≤n') (h1:1<k→c1=b1) (h2:2<k→c2=b2) (h3:3<k→c3=b3):decodeN n' b0 c1 c2 c3=(c,k):=by
 unfold decodeN at h
 split at h
 ·rename_i h0
  unfold decodeN
  rw[if_pos h0,h]
 rename_i h0
 split at h
 ·rename_i hA
  split at h
  ·rename_i hB
   cases h
   unfold decodeN
   rw[if_neg h0,h1 (by decide),if_pos ⟨hA.1,by omega,hA.2.2⟩,if_pos hB]
  ·exact absurd h.symm hv
 rename_i hA
 split at h
 ·rename_i hB
  split at h
  ·rename_i hC
   cases h
   unfold decodeN
   rw[if_neg h0,h1 (by decide),h2 (by decide),if_neg (by omega),if_pos ⟨hB.1,⟨by omega,hB.2.1.2⟩,by omega,hB.2.2.2⟩,if_pos hC]
  ·exact absurd h.symm hv
 rename_i hB
 split at h
 ·rename_i hC
  split at h
  ·rename_i hD
   cases h
   unfold decodeN
   rw[if_neg h0,h1 (by decide),h2 (by decide),h3 (by decide),if_neg (by omega),if_neg (by omega),if_pos ⟨hC.1,⟨by omega,hC.2.1.2⟩,⟨by omega,hC.2.2.1.2⟩,by omega,hC.2.2.2.2⟩,if_pos hD]
  ·exact absurd h.symm hv
 ·exact absurd h.symm hv
theorem zdc {l:List UInt8} (hne:l≠[]) (h:(zn l).2≠0):zn l=decodeL l∧decodeL l≠(65533,1):=by
 unfold zn at h ⊢
 rw[if_neg hne] at h ⊢
 split at h
 ·exact absurd rfl h
 ·rename_i h2;rw[if_neg h2];exact⟨rfl,h2⟩
theorem zch {l:List UInt8} (hne:l≠[]) (h:(zn l).2≠0) (t:List UInt8):zn (l.take (zn l).2++t)=zn l:=by
 obtain⟨e,hv⟩:=zdc hne h
 have hk:=decodeL_le l hne
 rw[e]
 generalize hd:decodeL l=x at *
 obtain⟨c,k⟩:=x
 simp only at *
 have h2:decodeL (l.take k++t)=(c,k):=by
  rw[decodeL_N] at hd ⊢
  have hg:∀ j,j<k→(l.take k++t).getD j 0=l.getD j 0:=fun j hj=>by
   simp only[List.getD_eq_getElem?_getD]
   rw[Z8 (by simp;omega),List.getElem?_take_of_lt hj]
  have hk1:1≤k:=by rw[← show (decodeL l).2=k by rw[decodeL_N,hd]];exact decodeL_width l
  rw[hg 0 (by omega)]
  exact zcW hd hv (by simp;omega) (fun hj=>by rw[hg 1 hj]) (fun hj=>by rw[hg 2 hj]) fun hj=>by rw[hg 3 hj]
 have hne2:l.take k++t≠[]:=fun e=>by
  have h3:=congrArg List.length e
  have hk1:1≤k:=by rw[← show (decodeL l).2=k by rw[hd]];exact decodeL_width l
  have hl:0<l.length:=List.length_pos_iff.2 hne
  simp only[Al5,List.length_take,Al3] at h3;omega
 unfold zn
 rw[if_neg hne2,h2,if_neg hv]
theorem zdQ {l:List UInt8} {c k:Nat} (h:DecOk l c k) (hc:c<128):k=1∧l.take k=[UInt8.ofNat c]∧(l.getD 0 0).toNat=c:=by
 have e:=h.enc
 have hl:(Zd c).length=1:=by unfold Zd;rw[if_pos (by omega)];rfl
 have hk:k=1:=by
  rw[e] at hl
  have:=h.len
  simp at hl;omega
 refine⟨hk,by rw[← e];unfold Zd;rw[if_pos (by omega)],(h.one hk).1.symm⟩
theorem ym (u:Nat):(zT u).length=6:=rfl
theorem zaC {l:List UInt8} {c k:Nat} (h:DecOk l c k):(zO c (l.take k)).length≤6*k:=by
 have hp:=h.pos
 have hl:=h.len
 have he:=h.enc
 unfold zO
 split
 ·simp;omega
 split
 ·simp;omega
 split
 ·rw[ym];omega
 split
 ·have:k=4:=by
   have e:=congrArg List.length he
   unfold Zd at e
   rw[if_neg (by omega),if_neg (by omega),if_neg (by omega)] at e
   simp at e;omega
  simp only[Al5,ym];omega
 ·simp;omega
theorem yY (n:Nat):yR n []=[]:=by cases n<;>simp[yR]
theorem zar:∀(n m:Nat) (l:List UInt8),l.length≤n→l.length≤m→validD l=true→yR n l=yR m l
 | 0,m,l,h,_,_=>by rw[y5.1 (by omega:l.length=0),yY,yY]
 | n,0,l,_,h,_=>by rw[y5.1 (by omega:l.length=0),yY,yY]
 | n+1,m+1,l,h1,h2,hv=>by
  by_cases hne:l=[]
  ·subst hne;rw[yY,yY]
  ·obtain⟨hd,hv2⟩:=Zj hne hv
   have:=hd.pos
   have:=hd.len
   simp only[yR,hne,if_false]
   rw[zar n m _ (by simp;omega) (by simp;omega) hv2]
theorem zaU:∀(n:Nat) (l:List UInt8),validD l=true→(yR n l).length≤6*l.length
 | 0,l,_=>by simp[yR]
 | n+1,l,hv=>by
  by_cases hne:l=[]
  ·subst hne;simp[yR]
  ·obtain⟨hd,hv2⟩:=Zj hne hv
   have h1:=zaC hd
   have h2:=zaU n _ hv2
   have h3:=hd.len
   simp only[yR,hne,if_false,Al5]
   simp only[ZG] at h2
   omega
def zaM (l:List UInt8):List UInt8:=yR l.length l
theorem zb9 {l:List UInt8} (hne:l≠[]) (hv:validD l=true):zaM l=zO (zn l).1 (l.take (zn l).2)++zaM (l.drop (zn l).2):=by
 obtain⟨hd,hv2⟩:=Zj hne hv
 have:=hd.pos
 have:=hd.len
 unfold zaM
 obtain⟨n,hn⟩:∃ n,l.length=n+1:=⟨l.length-1,by omega⟩
 rw[hn,yR,if_neg hne,zar n _ _ (by simp;omega) (Al4 _) hv2]
theorem zd8 (s:List UInt8) (hv:validD s=true):(YG s).length≤6*s.length+2:=by
 have:=zaU s.length s hv
 simp only[YG,Al2,Al5,Al3];omega
theorem zbD {t:Tok} (h:zD t=true):(Zn t).length≤6*t.s.length+2:=by
 unfold Zn
 split
 ·rename_i h5
  unfold zD at h
  rw[h5] at h
  exact zd8 _ (by simpa using h)
 ·omega
theorem fdN (u k:Nat) (hk:k≤64):(u:Int).fdiv (2 ^ min k IntKind.i64.bits)=((u / 2 ^ k:Nat):Int):=by
 have e:min k IntKind.i64.bits=k:=by show min k 64=k;omega
 rw[e,Int.fdiv_eq_ediv_of_nonneg _ (by exact_mod_cast Nat.zero_le _)]
 norm_cast
theorem zfm (n:Nat):((n:Int)).tmod 16=((n % 16:Nat):Int):=by rw[Int.tmod_eq_emod_of_nonneg (by omega)];omega
theorem zfg (u:Nat) (hu:u<65536) (acc:List UInt8) (H:Heap) (o:Own) (ho:Owned H o acc.length 1) (hb:acc.length≤Lim) :
  zbV Tryz.prog 132 [.sl o 1 (bytesOf acc),.int .i64 u] H o 1 (bytesOf (acc++zT u)):=by
 refine ACalls.goO ir132 ck132 (Al4 _) fun KP Q hQ hP=>?_
 have hal:=yw acc
 simp only[Lim] at hb
 simp(disch:=omega) only[ir132,steps,st2,pev,rev,oev,optr,ibin,sbin,ishf,bound,mmAll,mm2,mk,mkArgs,AV.cells,AV.boxable,AV.one,AV.strip1,fillA,fillS,Nat.reduceEqDiff,reduceCtorEq,↓reduceIte,Nat.reduceAdd,Int.reduceNeg,Nat.reduceLeDiff,Int.reduceToNat,Int.reduceEq,Int.reduceLT,Int.reduceLE,Int.reduceAdd,Io,Im,If,Il,Jt,Jf,AC.rg,Jm,Jl,Ja,Fm,Fl,Fa,Imv,Imb,Iai,Iei,Igi,Isi,Ipf,Ipt,Ilb,Iia,Ilt,Iap,Ink,Iln,Ils,Iad,Iex,Ibx,Ing]
 refine goP_ownS (by rw[hal];exact ho) (by simp[hal];omega) (by simp[hal,maxLen];omega) fun o1 H1 hs1=>?_
 have hs1':OwnS H o H1 o1 (acc++[92,117]).length 1:=by simpa[hal] using hs1
 have e1:bytesOf acc++[[AV.int .u8 92],[AV.int .u8 117]]=bytesOf (acc++[92,117]):=ZR acc 92 117
 simp(disch:=omega) only[e1,steps,st2,pev,rev,oev,optr,ibin,sbin,ishf,bound,mmAll,mm2,mk,mkArgs,AV.cells,AV.boxable,AV.one,AV.strip1,fillA,fillS,Nat.reduceEqDiff,reduceCtorEq,↓reduceIte,Nat.reduceAdd,Int.reduceNeg,Nat.reduceLeDiff,Int.reduceToNat,Int.reduceEq,Int.reduceLT,Int.reduceLE,Int.reduceAdd]
 refine goL_st (fun x:Nat×Own=>[(0,.sl x.2 1 (bytesOf (acc++(zT u).take (6-x.1)))),(5,.int .i64 ((x.1:Int)-1))]) (fun x H'=>x.1≤4∧OwnS H o H' x.2 (acc++(zT u).take (6-x.1)).length 1) (fun x=>x.1) (4,o1) (by simp(disch:=omega) only[zT,Int.reduceSub,steps,st2,pev,rev,oev,optr,ibin,sbin,ishf,bound,mmAll,mm2,mk,mkArgs,AV.cells,AV.boxable,AV.one,AV.strip1,fillA,fillS,Nat.reduceEqDiff,reduceCtorEq,↓reduceIte,Nat.reduceAdd,Int.reduceNeg,Nat.reduceLeDiff,Int.reduceToNat,Int.reduceEq,Int.reduceLT,Int.reduceLE,Int.reduceAdd]) ⟨by simp,by simpa[zT] using hs1'⟩ ?_
 rintro⟨k,o2⟩ H2 J ⟨hk,hs⟩ hJ
 simp only at hk hs
 cases k with
 | zero =>
  have h0:¬ ((0:Int)≤-1):=by omega
  have e:(zT u).take (6-0)=zT u:=rfl
  rw[e] at hs
  simp(disch:=omega) only[h0,e,Int.reduceSub,steps,st2,pev,rev,oev,optr,ibin,sbin,ishf,bound,mmAll,mm2,mk,mkArgs,AV.cells,AV.boxable,AV.one,AV.strip1,fillA,fillS,Nat.reduceEqDiff,reduceCtorEq,↓reduceIte,Nat.reduceAdd,Int.reduceNeg,Nat.reduceLeDiff,Int.reduceToNat,Int.reduceEq,Int.reduceLT,Int.reduceLE,Int.reduceAdd]
  exact hQ _ _ H2 H2 [_] nofun rfl (Low.refl _) ⟨o2,rfl,by rw[yw];exact hs⟩
 | succ j =>
  have e0:((j+1:Nat):Int)-1=(j:Int):=by omega
  have h0:((0:Int)≤j)=True:=eq_true (by omega)
  have w1:IntKind.wrap .i64 (4*(j:Int))=((4*j:Nat):Int):=by rw[wrap64 (by omega) (by omega)];omega
  have w2:=fdN u (4*j) (by omega)
  have hlt:(((u / 2 ^ (4*j) % 16:Nat):Int)<16)=True:=eq_true (by omega)
  have w0:(((4*j:Nat):Int)<0)=False:=eq_false (by omega)
  have hm:((zT u).take (6-(j+1)))++[hexL.getD (u / 2 ^ (4*j) % 16) 0]=(zT u).take (6-j):=by
   have:j=0∨j=1∨j=2∨j=3:=by omega
   rcases this with rfl|rfl|rfl|rfl<;>simp[zT]
  have hl2:=yw (acc++(zT u).take (6-(j+1)))
  have hl3:(acc++(zT u).take (6-(j+1))).length≤acc.length+6:=by simp[ym];omega
  have e3:=YP (acc++(zT u).take (6-(j+1))) (hexL.getD (u / 2 ^ (4*j) % 16) 0)
  rw[zay,hm] at e3
  have hg:([48,49,50,51,52,53,54,55,56,57,97,98,99,100,101,102]:List UInt8).getD (u / 2 ^ (4*j) % 16) 0=hexL.getD (u / 2 ^ (4*j) % 16) 0:=rfl
  simp(disch:=omega) only[e0,h0,w1,w2,w0,zfm,hlt,hg,steps,st2,pev,rev,oev,optr,ibin,sbin,ishf,bound,mmAll,mm2,mk,mkArgs,AV.cells,AV.boxable,AV.one,AV.strip1,fillA,fillS,Nat.reduceEqDiff,reduceCtorEq,↓reduceIte,Nat.reduceAdd,Int.reduceNeg,Nat.reduceLeDiff,Int.reduceToNat,Int.reduceEq,Int.reduceLT,Int.reduceLE,Int.reduceAdd]
  refine goP_ownS (by rw[hl2];exact hs.own) (by simp only[hl2,Al2,Al3];omega) (by simp only[hl2,Al2,Al3,maxLen];omega) fun o3 H3 hs3=>?_
  have hs4:OwnS H o H3 o3 (acc++(zT u).take (6-j)).length 1:=by
   have e:(acc++(zT u).take (6-j)).length=(bytesOf (acc++(zT u).take (6-(j+1)))).length+1:=by
    rw[hl2,← hm,← zay];simp only[Al5,Al2,Al3]
   rw[e];exact hs.trans hs3
  simp(disch:=omega) only[e3,wrap64,steps,st2,pev,rev,oev,optr,ibin,sbin,ishf,bound,mmAll,mm2,mk,mkArgs,AV.cells,AV.boxable,AV.one,AV.strip1,fillA,fillS,Nat.reduceEqDiff,reduceCtorEq,↓reduceIte,Nat.reduceAdd,Int.reduceNeg,Nat.reduceLeDiff,Int.reduceToNat,Int.reduceEq,Int.reduceLT,Int.reduceLE,Int.reduceAdd]
  exact goJ (hJ (j,o3) H3 (Nat.lt_succ_self j) ⟨by simp only;omega,hs4⟩) (by simp(disch:=omega) only[steps,st2,pev,rev,oev,optr,ibin,sbin,ishf,bound,mmAll,mm2,mk,mkArgs,AV.cells,AV.boxable,AV.one,AV.strip1,fillA,fillS,Nat.reduceEqDiff,reduceCtorEq,↓reduceIte,Nat.reduceAdd,Int.reduceNeg,Nat.reduceLeDiff,Int.reduceToNat,Int.reduceEq,Int.reduceLT,Int.reduceLE,Int.reduceAdd])
theorem zbY {l:List UInt8} {c k:Nat} (hne:l≠[]) (hv:validD l=true) (hc:(zn l).1=c) (hk:(zn l).2=k) :
  validD (l.take k)=true∧(l.take k).length=k∧yq (l.take k).length (l.take k)=if 65536≤c then [55296+(c-65536) / 1024,56320+(c-65536) % 1024] else [c]:=by
 obtain⟨hd,hv2⟩:=Zj hne hv
 subst hc;subst hk
 have hp:=hd.pos
 have hle:=hd.len
 have hlen:(l.take (zn l).2).length=(zn l).2:=by simp;omega
 have hne2:l.take (zn l).2≠[]:=fun e=>by rw[e] at hlen;simp at hlen;omega
 have hcode:=zch hne (by omega:(zn l).2≠0) []
 rw[List.append_nil] at hcode
 have hdrop:(l.take (zn l).2).drop (zn l).2=[]:=by apply List.drop_eq_nil_of_le;omega
 refine⟨?_,hlen,?_⟩
 ·have:=(zal hne2 (by rw[hcode];omega)).1
  rw[this,hcode,hdrop];rfl
 ·rw[hlen]
  obtain⟨n,hn⟩:∃ n,(zn l).2=n+1:=⟨(zn l).2-1,by omega⟩
  conv=>lhs;rw[show yq (zn l).2=yq (n+1) by rw[hn]]
  rw[yq,if_neg hne2,hcode,hdrop,yi,List.append_nil]
theorem zf9 {n:Nat} (h:n<256):IntKind.wrap .u8 (n:Int)=((UInt8.ofNat n).toNat:Int):=by
 rw[wr8];simp
set_option maxHeartbeats 1000000 in
theorem zei (s:List UInt8) (hv:validD s=true) (hs:6*s.length+2≤Lim):Pure Tryz.prog 62 [.str s] (.str (YG s)):=by
 refine Pure.go ir62 ck62 (Al4 _) fun KP Q hQ=>?_
 have hs':s.length≤Lim:=by simp only[Lim] at hs ⊢;omega
 simp only[Lim] at hs
 simp(disch:=omega) only[ir62,go_sem]
 have e34:([[AV.int .u8 34]]:List (List AV))=bytesOf [34]:=rfl
 simp(disch:=omega) only[e34,go_sem]
 refine goL_st (fun x:Own×List UInt8×Nat=>[(3,.sl x.1 1 (bytesOf x.2.1)),(4,.int .i64 x.2.2)])
  (fun x H=>x.2.2≤s.length∧x.2.1.length≤6*x.2.2+1∧34::zaM s=x.2.1++zaM (s.drop x.2.2)∧validD (s.drop x.2.2)=true∧Owned H x.1 x.2.1.length 1) (fun x=>s.length-x.2.2) (.full,[34],0) (by simp(disch:=omega) only[go_sem]) ⟨by simp,by simp,by simp,by simpa using hv,Owned.full _ _ _⟩ ?_
 rintro⟨o,acc,i⟩ H J ⟨hi,hai,hc,hv,hs1⟩ hJ
 simp only at hi hai hc hv hs1
 have hal:=yw acc
 by_cases hlt:i<s.length
 case neg =>
  have hlt':¬ (i:Int)<s.length:=by omega
  rw[List.drop_of_length_le (by omega)] at hc
  have e0:zaM []=[]:=rfl
  rw[e0,List.append_nil] at hc
  have e3:bytesOf acc++[[AV.int .u8 34]]=bytesOf (acc++[34]):=YP acc 34
  simp(disch:=omega) only[hlt',go_sem]
  refine goP_ownS (by rw[hal];exact hs1) (by simp only[hal,Al2,Al3];omega) (by simp only[hal,Al2,Al3,maxLen];omega) fun o3 H3 hs3=>?_
  simp(disch:=omega) only[e3,ZX,go_sem]
  have e4:YG s=acc++[34]:=by rw[← hc];rfl
  exact hQ _ _ _ _ nofun rfl (by simp[tupOf,envOf,AV.strip,AV.strip1,e4])
 have hlt':(i:Int)<s.length:=by omega
 have hne:s.drop i≠[]:=fun e=>by have:=congrArg List.length e;simp at this;omega
 obtain⟨hd,hv2⟩:=Zj hne hv
 have hst:=zb9 hne hv
 have hone:=zbY hne hv rfl rfl
 have hpl:=zaC hd
 have hp:=hd.pos
 have hle:=hd.len
 have hmax:=hd.le
 have h1b:=@zdQ _ _ _ hd
 rw[ZG] at hle
 simp(disch:=omega) only[hlt',go_sem]
 refine goK_pure (zeU s i hlt hs') ?_
 rw[hst] at hc
 rw[List.drop_drop] at hc hv2
 generalize (zn (s.drop i)).1=c at *
 generalize (zn (s.drop i)).2=k at *
 have hmax1:((1:Int) > (k:Int))=False:=eq_false (by omega)
 have wk:IntKind.wrap .i64 ((i:Int)+(k:Int))=((i+k:Nat):Int):=by rw[wrap64 (by omega) (by omega)];omega
 have hsub:(s.take (i+k)).drop i=(s.drop i).take k:=by rw[List.drop_take];congr 1;omega
 have hle2:(((i+k:Nat):Int)≤s.length)=True:=eq_true (by omega)
 have hle3:((i:Int)≤((i+k:Nat):Int))=True:=eq_true (by omega)
 have step:∀ o3 H3 (bs:List UInt8),bs=zO c ((s.drop i).take k)→Owned H3 o3 (acc++bs).length 1→J ((setAll _ [(3,.sl o3 1 (bytesOf (acc++bs))),(4,.int .i64 ((i+k:Nat):Int))]).keep [0,3,4]) H3:=fun o3 H3 bs hbs ho3 =>
  hJ (o3,acc++bs,i+k) H3 (by simp only;omega) ⟨by simp only;omega,by simp only[Al5,hbs];omega,by rw[hc,hbs];simp,hv2,ho3⟩
 by_cases c1:c=34∨c=92
 ·have g:((c:Int)=34∨(c:Int)=92):=by omega
  have e3:bytesOf acc++[[AV.int .u8 92],[AV.int .u8 (UInt8.ofNat c).toNat]]=bytesOf (acc++[92,UInt8.ofNat c]):=ZR acc 92 _
  have ep:[92,UInt8.ofNat c]=zO c ((s.drop i).take k):=by unfold zO;rw[if_pos c1]
  rcases c1 with c1|c1
  all_goals
   have w8:IntKind.wrap .u8 (c:Int)=((UInt8.ofNat c).toNat:Int):=zf9 (by omega)
   subst c1
   have gg:=w8
   simp only[Int.cast_ofNat_Int] at w8
   simp(disch:=omega) only[w8,go_sem]
   refine goP_ownS (by rw[hal];exact hs1) (by simp only[hal,Al2,Al3];omega) (by simp only[hal,Al2,Al3,maxLen];omega) fun o3 H3 hs3=>?_
   simp(disch:=omega) only[e3,hmax1,wk,go_sem]
   exact goJ (step o3 H3 _ ep (by simpa[hal] using hs3.own)) (by simp(disch:=omega) only[go_sem])
 have g34:¬ ((c:Int)=34):=by omega
 have g92:¬ ((c:Int)=92):=by omega
 by_cases c2:c=10
 ·subst c2
  have e3:bytesOf acc++[[AV.int .u8 92],[AV.int .u8 110]]=bytesOf (acc++[92,110]):=ZR acc 92 110
  have ep:[92,110]=zO 10 ((s.drop i).take k):=by unfold zO;rw[if_neg (by decide),if_pos rfl]
  simp(disch:=omega) only[go_sem]
  refine goP_ownS (by rw[hal];exact hs1) (by simp only[hal,Al2,Al3];omega) (by simp only[hal,Al2,Al3,maxLen];omega) fun o3 H3 hs3=>?_
  simp(disch:=omega) only[e3,hmax1,wk,go_sem]
  exact goJ (step o3 H3 _ ep (by simpa[hal] using hs3.own)) (by simp(disch:=omega) only[go_sem])
 have g10:¬ ((c:Int)=10):=by omega
 by_cases c3:c<32∨65536≤c
 ·have hus:=hone.2.2
  have hvt:=hone.1
  have htl:=hone.2.1
  have hlim:((s.drop i).take k).length≤Lim:=by rw[htl];simp only[Lim];omega
  have loop:∀(ρ:Env) (us:List Nat),us=(if 65536≤c then [55296+(c-65536) / 1024,56320+(c-65536) % 1024] else [c])→(∀ u∈us,u<65536)∧us.flatMap zT=zO c ((s.drop i).take k):=fun ρ us hu=>by
   subst hu
   by_cases h6:65536≤c
   ·rw[if_pos h6]
    refine⟨fun u hu=>by simp at hu;omega,?_⟩
    unfold zO;rw[if_neg c1,if_neg c2,if_neg (by omega),if_pos h6];simp
   ·rw[if_neg h6]
    refine⟨fun u hu=>by simp at hu;omega,?_⟩
    unfold zO;rw[if_neg c1,if_neg c2,if_pos (by omega)];simp
  obtain⟨us,hus2⟩:∃ us,us=(if 65536≤c then [55296+(c-65536) / 1024,56320+(c-65536) % 1024] else [c]):=⟨_,rfl⟩
  rw[← hus2] at hus
  obtain⟨hu1,hu2⟩:=loop (fun _=>.any) us hus2
  have hul:us.length≤2:=by rw[hus2];split<;>simp
  have hcl:=zcj us
  by_cases c4:c<32
  case' pos =>
   have g32:((c:Int)<32)=True:=eq_true (by omega)
   simp(disch:=omega) only[g34,g92,g10,g32,wk,hle2,hle3,hsub,go_sem]
  case' neg =>
   have g32:¬ ((c:Int)<32):=by omega
   have g6:((65536:Int)≤c)=True:=eq_true (by omega)
   simp(disch:=omega) only[g34,g92,g10,g32,g6,wk,hle2,hle3,hsub,go_sem]
  all_goals
   refine goK_pure (zfn _ hvt hlim) ?_
   rw[hus]
   simp(disch:=omega) only[hcl,go_sem]
   refine goL_range us 67 (fun x:Own×List UInt8=>[(3,.sl x.1 1 (bytesOf x.2))]) (fun done rest x H'=>x.2++rest.flatMap zT=acc++zO c ((s.drop i).take k)∧x.2.length≤acc.length+6*done.length∧Owned H' x.1 x.2.length 1) (o,acc) (by simp(disch:=omega) only[go_sem]) ⟨by simp only;rw[hu2],by simp,hs1⟩ ?_ ?_
   ·rintro⟨o2,a⟩ H2 J2 ⟨hn,hle,hs2⟩ hlt
    simp only[List.flatMap_nil,List.append_nil] at hn hle hs2
    simp(disch:=omega) only[hcl,hlt,hmax1,wk,go_sem]
    subst hn
    exact goJ (step o2 H2 _ rfl hs2) (by simp(disch:=omega) only[go_sem])
   ·rintro done x rest ⟨o2,a⟩ H2 J2 hdn hlt hlt2 ⟨hn,hle,hs2⟩ hJ2
    simp only[List.flatMap_cons] at hn hle hs2
    have hg:(cU us).getD done.length []=[AV.int .i64 (x:Int)]:=getD_mid' hdn
    simp(disch:=omega) only[hcl,hlt,hg,go_sem]
    refine yc (zfg x (hu1 x (by rw[hdn];simp)) a _ o2 hs2 (by simp only[Lim];omega)) fun o3 H3 hs3=>?_
    rw[yw] at hs3
    simp(disch:=omega) only[wrap64,go_sem]
    exact goJ (hJ2 (o3,a++zT x) H3 ⟨by rw[← hn];simp,by simp only[Al5,ym,Al2,Al3];omega,hs3.own⟩) (by simp(disch:=omega) only[go_sem])
 ·have g32:¬ ((c:Int)<32):=by omega
  have g6:¬ ((65536:Int)≤c):=by omega
  have ep:(s.drop i).take k=zO c ((s.drop i).take k):=by unfold zO;rw[if_neg c1,if_neg c2,if_neg (by omega),if_neg (by omega)]
  have htl:=hone.2.1
  have hbl:=yw ((s.drop i).take k)
  simp(disch:=omega) only[g34,g92,g10,g32,g6,wk,hle2,hle3,hsub,go_sem]
  refine goP_ownS (by rw[hal];exact hs1) (by rw[hal,hbl,htl];omega) (by rw[hal,hbl,htl];simp only[maxLen];omega) fun o3 H3 hs3=>?_
  simp(disch:=omega) only[zaH,ZT,hmax1,wk,go_sem]
  exact goJ (step o3 H3 _ ep (by have:=hs3.own;rw[hal,hbl] at this;simpa using this)) (by simp(disch:=omega) only[go_sem])
end Go.Proofs.YtaielcdfcgpbiaaGreatDoor
namespace Go.Proofs.YtaielcdfcgpbiaaGreatDoor
open Go.Ab
abbrev TS:=List Tok
def wK (t:Tok):Nat:=t.s.length+4
def wT (l:TS):Nat:=(l.map wK).sum
theorem zF (x:Tok) (l:TS):wT (x::l)=wK x+wT l:=by simp[wT]
def b0 {α:Type} (_:α):Nat:=0
open Go.Lib
theorem zaQ {s:List UInt8} (h:s.length≠1):za3 s=false:=by
 match s,h with
 | [],_=>rfl
 | [_],h=>exact absurd rfl h
 | _::_::_,_=>rfl
theorem zeR (t:Tok) (ht:t.s.length≤Lim):Pure Tryz.prog 61 [.agg (cK t)] (.bool (zD t)):=by
 refine Pure.go ir61 ck61 (Al4 _) fun KP Q hQ=>?_
 obtain⟨k,s⟩:=t
 simp only at ht
 by_cases k1:k=1
 ·subst k1
  by_cases hd:s=[46,46,46]
  ·simp(disch:=omega) only[ir61,cK,hd,go_sem]
   exact hQ _ _ _ _ nofun rfl (by simp[tupOf,envOf,AV.strip,AV.strip1,zD,hd,zah])
  by_cases hl:s.length=1
  ·obtain⟨c,rfl⟩:=List.length_eq_one_iff.1 hl
   simp(disch:=omega) only[ir61,cK,hd,go_sem]
   have e:zD ⟨1,[c]⟩=decide (0≤Lib.indexByte zb2 c):=by simp[zD,zah,za3]
   refine goK_pure (zaw _ c) ?_
   simp(disch:=omega) only[go_sem]
   exact hQ _ _ _ [_] nofun rfl (by rw[e];rfl)
  ·have hl':¬ ((s.length:Int)=1):=by omega
   simp(disch:=omega) only[ir61,cK,hd,hl',go_sem]
   exact hQ _ _ _ _ nofun rfl (by simp[tupOf,envOf,AV.strip,AV.strip1,zD,hd,zah,zaQ hl])
 by_cases k2:k=2
 ·subst k2
  simp(disch:=omega) only[ir61,cK,go_sem]
  refine goK_pure (zaV s ht) ?_
  simp(disch:=omega) only[go_sem]
  exact hQ _ _ _ _ nofun rfl (by simp[tupOf,envOf,AV.strip,AV.strip1,zD])
 by_cases k3:k=3
 ·subst k3
  simp(disch:=omega) only[ir61,cK,go_sem]
  refine goK_pure (Yr s ht) ?_
  simp(disch:=omega) only[go_sem]
  exact hQ _ _ _ _ nofun rfl (by simp[tupOf,envOf,AV.strip,AV.strip1,zD])
 by_cases k4:k=4
 ·subst k4
  simp(disch:=omega) only[ir61,cK,go_sem]
  refine goK_pure (Yr s ht) ?_
  simp(disch:=omega) only[go_sem]
  exact hQ _ _ _ _ nofun rfl (by simp[tupOf,envOf,AV.strip,AV.strip1,zD])
 by_cases k5:k=5
 ·subst k5
  simp(disch:=omega) only[ir61,cK,go_sem]
  refine goK_pure (zeY s ht) ?_
  simp(disch:=omega) only[go_sem]
  exact hQ _ _ _ _ nofun rfl (by simp[tupOf,envOf,AV.strip,AV.strip1,zD])
 ·simp(disch:=omega) only[ir61,cK,k1,k2,k3,k4,k5,go_sem]
  exact hQ _ _ _ _ nofun rfl (by simp[tupOf,envOf,AV.strip,AV.strip1,zD,k1,k2,k3,k4,k5])
theorem zew (t:Tok) (ht:t.s.length≤Lim):Pure Tryz.prog 189 [.agg (cK t)] (.bool (zD t)):=by
 refine Pure.go ir189 ck189 (Al4 _) fun KP Q hQ=>?_
 obtain⟨k,s⟩:=t
 simp only at ht
 by_cases k1:k=1
 ·subst k1
  by_cases hd:s=[46,46,46]
  ·simp(disch:=omega) only[ir189,cK,hd,go_sem]
   exact hQ _ _ _ _ nofun rfl (by simp[tupOf,envOf,AV.strip,AV.strip1,zD,hd,zah])
  by_cases hl:s.length=1
  ·obtain⟨c,rfl⟩:=List.length_eq_one_iff.1 hl
   simp(disch:=omega) only[ir189,cK,hd,go_sem]
   have e:zD ⟨1,[c]⟩=decide (0≤Lib.indexByte zb2 c):=by simp[zD,zah,za3]
   refine goK_pure (zfv _ c (by simp[Lim])) ?_
   simp(disch:=omega) only[go_sem]
   exact hQ _ _ _ [_] nofun rfl (by rw[e];rfl)
  ·have hl':¬ ((s.length:Int)=1):=by omega
   simp(disch:=omega) only[ir189,cK,hd,hl',go_sem]
   exact hQ _ _ _ _ nofun rfl (by simp[tupOf,envOf,AV.strip,AV.strip1,zD,hd,zah,zaQ hl])
 by_cases k2:k=2
 ·subst k2
  simp(disch:=omega) only[ir189,cK,go_sem]
  refine goK_pure (Zp s ht) ?_
  simp(disch:=omega) only[go_sem]
  exact hQ _ _ _ _ nofun rfl (by simp[tupOf,envOf,AV.strip,AV.strip1,zD])
 by_cases k3:k=3
 ·subst k3
  by_cases hs:s=[]
  ·subst hs
   have h0:yF []=0:=by decide
   simp(disch:=omega) only[ir189,cK,go_sem]
   exact hQ _ _ _ _ nofun rfl (by simp[tupOf,envOf,AV.strip,AV.strip1,zD,h0])
  ·simp(disch:=omega) only[ir189,cK,hs,go_sem]
   refine goK_pure (zad s ht) ?_
   simp(disch:=omega) only[go_sem]
   exact hQ _ _ _ _ nofun rfl (by simp[tupOf,envOf,AV.strip,AV.strip1,zD])
 by_cases k4:k=4
 ·subst k4
  by_cases hs:s=[]
  ·subst hs
   have h0:yF []=0:=by decide
   simp(disch:=omega) only[ir189,cK,go_sem]
   exact hQ _ _ _ _ nofun rfl (by simp[tupOf,envOf,AV.strip,AV.strip1,zD,h0])
  ·simp(disch:=omega) only[ir189,cK,hs,go_sem]
   refine goK_pure (zad s ht) ?_
   simp(disch:=omega) only[go_sem]
   exact hQ _ _ _ _ nofun rfl (by simp[tupOf,envOf,AV.strip,AV.strip1,zD])
 by_cases k5:k=5
 ·subst k5
  simp(disch:=omega) only[ir189,cK,go_sem]
  refine goK_pure (zea s ht) ?_
  simp(disch:=omega) only[go_sem]
  exact hQ _ _ _ _ nofun rfl (by simp[tupOf,envOf,AV.strip,AV.strip1,zD])
 ·simp(disch:=omega) only[ir189,cK,k1,k2,k3,k4,k5,go_sem]
  exact hQ _ _ _ _ nofun rfl (by simp[tupOf,envOf,AV.strip,AV.strip1,zD,k1,k2,k3,k4,k5])
theorem zeK:∀ l:List (List UInt8),(Lib.join l [32]).length≤(l.map fun s=>s.length+1).sum
 | []=>by simp[Lib.join_nil]
 | x::r=>by
  rw[Lib.join_length]
  have:∀ l:List (List UInt8),lens l+l.length=(l.map fun s=>s.length+1).sum:=fun l=>by
   induction l with
   | nil=>rfl
   | cons y l ih=>simp only[lens,List.map_cons,List.sum_cons,Al2] at ih ⊢;omega
  have h:=this (x::r)
  simp only[Al2,Al3] at h ⊢
  omega
theorem zbA (l:List Tok) (h:l.all zD=true):(Zi l).length≤6*wT l:=by
 refine Nat.le_trans (zeK _) ?_
 induction l with
 | nil=>simp[wT]
 | cons t l ih =>
  simp only[List.all_cons,Al0] at h
  have h1:=zbD h.1
  have h2:=ih h.2
  rw[zF]
  simp only[List.map_cons,List.sum_cons,wK] at h2 ⊢
  omega
theorem zcs (l:List Tok) (x:Tok) (h:l≠[]):Zi (l++[x])=Zi l++32::Zn x:=by
 cases l with
 | nil=>exact absurd rfl h
 | cons y l =>
  unfold Zi
  simp only[Al6,List.map_cons,List.map_append,List.map_nil,Lib.join_cons,joinTail,List.flatten_append,List.flatten_cons,List.flatten_nil]
  simp
theorem zdN {l:List Tok} {t:Tok} (h:t∈l):t.s.length+4≤wT l:=by
 induction l with
 | nil=>cases h
 | cons y l ih =>
  rw[zF]
  rcases List.mem_cons.1 h with rfl|h
  ·unfold wK;omega
  ·have:=ih h;omega
theorem zcg (l:List Tok):4*l.length≤wT l:=by
 induction l with
 | nil=>simp
 | cons y l ih=>rw[zF];simp only[Al2,wK];omega
theorem zfx (a:List Tok) (x:Tok) (b:List Tok):wT (a++x::b)=wT a+wK x+wT b:=by simp[wT];omega
theorem zeJ (L:List Tok) (hb:8*wT L≤Lim):Pure Tryz.prog 25 [.sl .no 2 (cKs L)] (.tup [.str (zG L).1,.bool (zG L).2]):=by
 refine Pure.go ir25 ck25 (Al4 _) fun KP Q hQ=>?_
 have hkl:=zu L
 have hwl:=zcg L
 simp only[Lim] at hb
 simp(disch:=omega) only[ir25,hkl,go_sem]
 refine goL_range L 9 (fun x:Own×List (List UInt8)=>[(4,.sl x.1 1 (cT x.2))]) (fun done rest x H=>x.2=done.map Zn∧done.all zD=true∧Owned H x.1 x.2.length 1) (.nil,[]) (by simp(disch:=omega) only[cT,go_sem]) ⟨rfl,rfl,Owned.nil _ _⟩ ?_ ?_
 ·rintro⟨o,l⟩ H J ⟨hl,hr,ho⟩ hlt
  simp only at hl hr ho
  subst hl
  have hj:=zbA L hr
  have hcl:=zA (L.map Zn)
  simp(disch:=omega) only[hkl,hlt,go_sem]
  refine goK_pure (Pure.low (zbN (L.map Zn) [32] (by show (Zi L).length≤_;omega) (by simp;omega))) ?_
  simp(disch:=omega) only[go_sem]
  exact hQ _ _ _ _ nofun rfl (by simp[tupOf,envOf,AV.strip,AV.strip1,zG,hr,Zi])
 ·rintro done x rest ⟨o,l⟩ H J hd hlt hlt2 ⟨hl,hr,ho⟩ hJ
  simp only at hl hr ho
  have hg:=zcJ hd
  have hmem:x∈L:=by rw[hd];simp
  have hx:=zdN hmem
  have hlen:l.length=done.length:=by rw[hl];simp
  have hcl:=zA l
  simp(disch:=omega) only[hkl,hlt,hg,go_sem]
  refine goA_intro fun b hb=>?_
  simp(disch:=omega) only[go_sem]
  refine goK_pure (zeR x (by simp only[Lim];omega)) ?_
  cases hrx:zD x with
  | false =>
   have e:L.all zD=false:=by rw[hd];simp[hrx]
   simp(disch:=omega) only[go_sem]
   exact hQ _ _ _ _ nofun rfl (by simp[tupOf,envOf,AV.strip,AV.strip1,zG,e])
  | true =>
   by_cases k5:x.k=5
   ·have hv:validD x.s=true:=by unfold zD at hrx;rw[k5] at hrx;simpa using hrx
    simp(disch:=omega) only[k5,go_sem]
    refine goK_pure (zei x.s hv (by simp only[Lim];omega)) ?_
    simp(disch:=omega) only[go_sem]
    refine goP_ownS (by rw[hcl];exact ho.upd hb) (by simp only[hcl,Al2,Al3];omega) (by simp only[hcl,Al2,Al3,maxLen];omega) fun o3 H3 hs3=>?_
    have et:Zn x=YG x.s:=by unfold Zn;rw[if_pos k5]
    simp(disch:=omega) only[wrap64,go_sem]
    exact goJ (hJ (o3,l++[YG x.s]) H3 ⟨by rw[hl];simp[et],by simp[hr,hrx],by simpa[hcl] using hs3.own⟩) (by simp(disch:=omega) only[cT,List.map_append,go_sem])
   ·have et:Zn x=x.s:=by unfold Zn;rw[if_neg k5]
    simp(disch:=omega) only[k5,go_sem]
    refine goP_ownS (by rw[hcl];exact ho.upd hb) (by simp only[hcl,Al2,Al3];omega) (by simp only[hcl,Al2,Al3,maxLen];omega) fun o3 H3 hs3=>?_
    simp(disch:=omega) only[wrap64,go_sem]
    exact goJ (hJ (o3,l++[x.s]) H3 ⟨by rw[hl];simp[et],by simp[hr,hrx],by simpa[hcl] using hs3.own⟩) (by simp(disch:=omega) only[cT,List.map_append,go_sem])
theorem zdI (u:Nat) (hu:u<65536):Pure Tryz.prog 229 [.int .i64 u] (.str (zT u)):=by
 refine Pure.go ir229 ck229 (Al4 _) fun KP Q hQ=>?_
 have w1:=fdN u 12 (by decide)
 have w2:=fdN u 8 (by decide)
 have w3:=fdN u 4 (by decide)
 simp only[Nat.reducePow] at w1 w2 w3
 have a1:∀ n:Nat,n<65536→IntKind.wrap .i64 ((BitVec.ofInt IntKind.i64.bits (n:Int) &&& BitVec.ofInt IntKind.i64.bits 15).toNat:Int)=((n % 16:Nat):Int):=fun n hn=>zeZ (by omega)
 have b1:=a1 (u / 4096) (by omega)
 have b2:=a1 (u / 256) (by omega)
 have b3:=a1 (u / 16) (by omega)
 have b4:=a1 u hu
 have hb:=ZX [hexL.getD (u / 4096 % 16) 0,hexL.getD (u / 256 % 16) 0,hexL.getD (u / 16 % 16) 0,hexL.getD (u % 16) 0]
 simp only[bytesOf,List.map_cons,List.map_nil] at hb
 have hg:∀ n,([48,49,50,51,52,53,54,55,56,57,97,98,99,100,101,102]:List UInt8).getD n 0=hexL.getD n 0:=fun n=>rfl
 have hlt:∀ n:Nat,(((n % 16:Nat):Int)<16)=True:=fun n=>eq_true (by omega)
 simp(disch:=omega) only[ir229,w1,w2,w3,b1,b2,b3,b4,hlt,hg,hb,steps,st2,pev,rev,oev,optr,ibin,sbin,ishf,bound,mmAll,mm2,mk,mkArgs,AV.cells,AV.boxable,AV.one,AV.strip1,fillA,fillS,Nat.reduceEqDiff,reduceCtorEq,↓reduceIte,Nat.reduceAdd,Int.reduceNeg,Nat.reduceLeDiff,Int.reduceToNat,Int.reduceEq,Int.reduceLT,Int.reduceLE,Int.reduceAdd,Io,Im,If,Il,Jt,Jf,AC.rg,Jm,Jl,Ja,Fm,Fl,Fa,Imv,Imb,Iai,Iei,Igi,Isi,Ipf,Ipt,Ilb,Iia,Ilt,Iap,Ink,Iln,Ils,Iad,Iex,Ibx,Ing]
 exact hQ _ _ _ _ nofun rfl (by simp[tupOf,envOf,AV.strip,AV.strip1,zT])
def y0:Nat→List UInt8→List Nat
 | 0,_=>[]
 | k+1,l=>if l=[] then [] else (zn l).1::y0 k (l.drop (zn l).2)
theorem zbz:∀ n l,cZ (Zs n l)=cU (y0 n l)
 | 0,l=>rfl
 | n+1,l=>by
  simp only[Zs,y0]
  split
  ·rfl
  ·simp only[cZ,cU,List.map_cons]
   congr 1
   exact zbz n _
theorem zaW:∀ n l,∀ c∈y0 n l,c≤1114111
 | 0,l,c,h=>by cases h
 | n+1,l,c,h=>by
  simp only[y0] at h
  split at h
  ·cases h
  ·rcases List.mem_cons.1 h with rfl|h
   ·unfold zn
    split
    ·simp
    ·split
     ·simp
     ·exact decodeL_rune l
   ·exact zaW n _ c h
theorem zaq:∀ n l,validD l=true→(y0 n l).flatMap (fun c=>zO c (Zd c))=yR n l
 | 0,l,_=>rfl
 | n+1,l,hv=>by
  by_cases hne:l=[]
  ·subst hne;simp[y0,yR]
  ·obtain⟨hd,hv2⟩:=Zj hne hv
   simp only[y0,yR,hne,if_false,List.flatMap_cons]
   rw[zaq n _ hv2,hd.enc]
theorem zbp (c:Nat):(zO c (Zd c)).length≤12:=by
 have:=(zbK c).1
 unfold zO
 repeat' split
 all_goals simp[ym]
 all_goals omega
theorem zaB:∀ n l,(y0 n l).length≤n
 | 0,l=>Al4 _
 | n+1,l=>by
  simp only[y0]
  split
  ·simp
  ·have:=zaB n (l.drop (zn l).2)
   simp only[Al2];omega
theorem zec (s:List UInt8) (hv:validD s=true) (hs:16*s.length+2≤Lim):Pure Tryz.prog 190 [.str s] (.str (YG s)):=by
 refine Pure.go ir190 ck190 (Al4 _) fun KP Q hQ=>?_
 have hs':s.length≤Lim:=by simp only[Lim] at hs ⊢;omega
 simp only[Lim] at hs
 obtain⟨cs,hcs⟩:∃ cs,y0 s.length s=cs:=⟨_,rfl⟩
 have hle:=zaW s.length s
 have hq:=zaq s.length s hv
 have hln:=zaB s.length s
 have hz:cZ (zas s)=cU cs:=by rw[← hcs,← zbz];unfold zas;rw[hv];rfl
 rw[hcs] at hle hq hln
 have hul:=zcj cs
 simp(disch:=omega) only[ir190,go_sem]
 refine goK_pure (zdX s hs') ?_
 rw[hz]
 simp(disch:=omega) only[hul,go_sem]
 refine goL_range cs 6 (fun x:List UInt8=>[(5,.str x)]) (fun done rest x H=>x++rest.flatMap (fun c=>zO c (Zd c))=34::yR s.length s∧x.length≤1+12*done.length) [34] (by simp(disch:=omega) only[go_sem]) ⟨by rw[← hq];rfl,by simp⟩ ?_ ?_
 ·rintro x H J ⟨hx,hxl⟩ hlt
  simp only[List.flatMap_nil,List.append_nil] at hx
  have hlx:x.length+1≤9223372036854775807:=by omega
  simp(disch:=omega) only[hul,hlt,hlx,go_sem]
  exact hQ _ _ _ _ nofun rfl (by simp[tupOf,envOf,AV.strip,AV.strip1,YG,hx])
 ·rintro done c rest x H J hd hlt hlt2 ⟨hx,hxl⟩ hJ
  have hg:(cU cs).getD done.length []=[AV.int .i64 (c:Int)]:=getD_mid' hd
  have hc:=hle c (by rw[hd];simp)
  have hp:=zbp c
  simp only[List.flatMap_cons] at hx
  have step:∀ y:List UInt8,y=zO c (Zd c)→J ((setAll _ [(6,.int .i64 ((done.length:Int)+1)),(5,.str (x++y))]).keep [3,5,6]) H:=fun y hy =>
   hJ (x++y) H ⟨by rw[← hx,hy];simp,by rw[← hy] at hp;simp only[Al5,Al2,Al3];omega⟩
  have hb2:x.length+2≤9223372036854775807:=by omega
  have hb6:x.length+6≤9223372036854775807:=by omega
  by_cases c1:c=34
  ·subst c1
   simp(disch:=omega) only[hul,hlt,hg,hb2,wrap64,go_sem]
   exact goJ (step [92,34] (by decide)) (by simp(disch:=omega) only[go_sem])
  by_cases c2:c=92
  ·subst c2
   simp(disch:=omega) only[hul,hlt,hg,hb2,wrap64,go_sem]
   exact goJ (step [92,92] (by decide)) (by simp(disch:=omega) only[go_sem])
  by_cases c3:c=10
  ·subst c3
   simp(disch:=omega) only[hul,hlt,hg,hb2,wrap64,go_sem]
   exact goJ (step [92,110] (by decide)) (by simp(disch:=omega) only[go_sem])
  have g1:¬ ((c:Int)=34):=by omega
  have g2:¬ ((c:Int)=92):=by omega
  have g3:¬ ((c:Int)=10):=by omega
  by_cases c4:c<32
  ·have g4:((c:Int)<32)=True:=eq_true (by omega)
   simp(disch:=omega) only[hul,hlt,hg,g1,g2,g3,g4,go_sem]
   refine goK_pure (zdI c (by omega)) ?_
   simp(disch:=omega) only[ym,hb6,wrap64,go_sem]
   exact goJ (step (zT c) (by unfold zO;rw[if_neg (by omega),if_neg c3,if_pos c4])) (by simp(disch:=omega) only[go_sem])
  have g4:¬ ((c:Int)<32):=by omega
  by_cases c5:65536≤c
  ·have g5:((65535:Int)<c)=True:=eq_true (by omega)
   have w1:IntKind.wrap .i64 ((c:Int)-65536)=((c-65536:Nat):Int):=by rw[wrap64 (by omega) (by omega)];omega
   have w2:IntKind.wrap .i64 (((c-65536) / 1024:Nat):Int)=(((c-65536) / 1024:Nat):Int):=wrap64 (by omega) (by omega)
   have w3:IntKind.wrap .i64 (55296+(((c-65536) / 1024:Nat):Int))=((55296+(c-65536) / 1024:Nat):Int):=by rw[wrap64 (by omega) (by omega)];omega
   have w4:IntKind.wrap .i64 (56320+(((c-65536) % 1024:Nat):Int))=((56320+(c-65536) % 1024:Nat):Int):=by rw[wrap64 (by omega) (by omega)];omega
   have hb12:(x++zT (55296+(c-65536) / 1024)).length+6≤9223372036854775807:=by rw[Al5,ym];omega
   simp(disch:=omega) only[hul,hlt,hg,g1,g2,g3,g4,g5,w1,zav,zao,w2,w3,w4,go_sem]
   refine goK_pure (zdI (55296+(c-65536) / 1024) (by omega)) ?_
   simp(disch:=omega) only[hul,hlt,hg,w1,zav,zao,w2,w3,w4,ym,hb6,go_sem]
   refine goK_pure (zdI (56320+(c-65536) % 1024) (by omega)) ?_
   simp(disch:=omega) only[ym,hb6,hb12,wrap64,go_sem]
   exact goJ (step (zT (55296+(c-65536) / 1024)++zT (56320+(c-65536) % 1024)) (by unfold zO;rw[if_neg (by omega),if_neg c3,if_neg c4,if_pos c5])) (by simp(disch:=omega) only[zay,go_sem])
  ·have g5:¬ ((65535:Int)<c):=by omega
   have he:=(zbK c).1
   have hb4:x.length+(Zd c).length≤9223372036854775807:=by omega
   simp(disch:=omega) only[hul,hlt,hg,g1,g2,g3,g4,g5,go_sem]
   refine goK_pure (zf5 c hc) ?_
   simp(disch:=omega) only[hb4,wrap64,go_sem]
   exact goJ (step (Zd c) (by unfold zO;rw[if_neg (by omega),if_neg c3,if_neg c4,if_neg c5])) (by simp(disch:=omega) only[go_sem])
theorem zen (L:List Tok) (hb:32*wT L≤Lim):Pure Tryz.prog 141 [.sl .no 2 (cKs L)] (.tup [.str (zG L).1,.bool (zG L).2]):=by
 refine Pure.go ir141 ck141 (Al4 _) fun KP Q hQ=>?_
 have hkl:=zu L
 have hwl:=zcg L
 simp only[Lim] at hb
 simp(disch:=omega) only[ir141,hkl,go_sem]
 refine goL_range L 5 (fun x:List UInt8=>[(4,.str x)]) (fun done rest x H=>x=Zi done∧done.all zD=true) [] (by simp(disch:=omega) only[go_sem]) ⟨rfl,rfl⟩ ?_ ?_
 ·rintro x H J ⟨hx,hr⟩ hlt
  subst hx
  simp(disch:=omega) only[hkl,hlt,go_sem]
  exact hQ _ _ _ _ nofun rfl (by simp[tupOf,envOf,AV.strip,AV.strip1,zG,hr])
 ·rintro done x rest l H J hd hlt hlt2 ⟨hl,hr⟩ hJ
  have hg:=zcJ hd
  have hmem:x∈L:=by rw[hd];simp
  have hx:=zdN hmem
  have hj:=zbA done hr
  have hwm:=zfx done x rest
  rw[← hd] at hwm
  subst hl
  simp(disch:=omega) only[hkl,hlt,hg,go_sem]
  refine goK_pure (zew x (by simp only[Lim];omega)) ?_
  cases hrx:zD x with
  | false =>
   have e:L.all zD=false:=by rw[hd];simp[hrx]
   simp(disch:=omega) only[go_sem]
   exact hQ _ _ _ _ nofun rfl (by simp[tupOf,envOf,AV.strip,AV.strip1,zG,e])
  | true =>
   have htl:=zbD hrx
   have hk:x.k=5→validD x.s=true:=fun k5=>by unfold zD at hrx;rw[k5] at hrx;simpa using hrx
   have hall:(done++[x]).all zD=true:=by simp[hr,hrx]
   cases hdn:done with
   | nil =>
    have h0:¬ ((0:Int)<((([]:List Tok).length:Nat):Int)):=by simp
    have ej:Zi [x]=Zn x:=by simp[Zi,Lib.join_one]
    have ej0:Zi []=[]:=rfl
    rw[hdn] at hg hlt hJ hall
    by_cases k5:x.k=5
    ·have et:Zn x=YG x.s:=by unfold Zn;rw[if_pos k5]
     have hbl:(YG x.s).length≤9223372036854775807:=by rw[← et];omega
     simp only[Al3,Int.natCast_zero] at hg hlt hJ ⊢
     simp(disch:=omega) only[hkl,hlt,hg,k5,ej0,go_sem]
     refine goK_pure (zec x.s (hk k5) (by simp only[Lim];omega)) ?_
     simp(disch:=omega) only[wrap64,hbl,go_sem]
     exact goJ (hJ _ _ ⟨rfl,hall⟩) (by simp(disch:=omega) only[ej,et,go_sem])
    ·have et:Zn x=x.s:=by unfold Zn;rw[if_neg k5]
     have hbl:x.s.length≤9223372036854775807:=by omega
     simp only[Al3,Int.natCast_zero] at hg hlt hJ ⊢
     simp(disch:=omega) only[hkl,hlt,hg,k5,ej0,wrap64,hbl,go_sem]
     exact goJ (hJ _ _ ⟨rfl,hall⟩) (by simp(disch:=omega) only[ej,et,go_sem])
   | cons y dn =>
    have h0:((0:Int)<(done.length:Int))=True:=eq_true (by rw[hdn];simp only[Al2];omega)
    have ej:=zcs done x (by rw[hdn];simp)
    rw[← hdn]
    have hb1:(Zi done).length+1≤9223372036854775807:=by omega
    by_cases k5:x.k=5
    ·have et:Zn x=YG x.s:=by unfold Zn;rw[if_pos k5]
     have hb2:(Zi done++[32]).length+(YG x.s).length≤9223372036854775807:=by rw[← et];simp;omega
     simp(disch:=omega) only[hkl,hlt,hg,k5,h0,hb1,go_sem]
     refine goK_pure (zec x.s (hk k5) (by simp only[Lim];omega)) ?_
     simp(disch:=omega) only[wrap64,hb2,go_sem]
     exact goJ (hJ _ _ ⟨rfl,hall⟩) (by simp(disch:=omega) only[ej,et,zay,go_sem])
    ·have et:Zn x=x.s:=by unfold Zn;rw[if_neg k5]
     have hb2:(Zi done++[32]).length+x.s.length≤9223372036854775807:=by simp;omega
     simp(disch:=omega) only[hkl,hlt,hg,k5,h0,hb1,wrap64,hb2,go_sem]
     exact goJ (hJ _ _ ⟨rfl,hall⟩) (by simp(disch:=omega) only[ej,et,zay,go_sem])
end Go.Proofs.YtaielcdfcgpbiaaGreatDoor
namespace Go.Proofs.YtaielcdfcgpbiaaGreatDoor
open Go.Ab
structure WAt (H:Heap) (w:Nat) (o:Own) (l:List Tok) (ok:Bool) (dp:Int):Prop where
 cell:H w=some (.cells [.sl o 2 (cKs l),.bool ok,.int .i64 dp])
 own:Owned H o l.length 2
structure WStep (H:Heap) (o:Own) (w:Nat) (H':Heap) (o':Own):Prop where
 keep:∀ c x,c≠w→(∀ d,o≠.tip c d)→H c=some x→H' c=some x
 new:∀ b d,o'=.tip b d→H b=none∨∃ d0,o=.tip b d0
theorem WStep.refl (H:Heap) (o:Own) (w:Nat):WStep H o w H o:=⟨fun _ _ _ _ h=>h,fun b d e=>.inr ⟨d,e⟩⟩
theorem WStep.trans {H H1 H2:Heap} {o o1 o2:Own} {w:Nat} {x:AObj} (h:WStep H o w H1 o1) (hw:H1 w=some x) (h':WStep H1 o1 w H2 o2):WStep H o w H2 o2:=by
 refine⟨fun c y hc hn hy=>h'.keep c y hc (fun d e=>?_) (h.keep c y hc hn hy),fun b d e=>?_⟩
 ·rcases h.new c d e with h1|⟨d0,h1⟩
  ·rw[hy] at h1;cases h1
  ·exact hn d0 h1
 ·rcases h'.new b d e with h1|⟨d0,h1⟩
  ·cases hb:H b with
   | none=>exact .inl rfl
   | some y =>
    by_cases e2:∃ d,o=.tip b d
    ·exact .inr e2
    ·have hbw:b≠w:=fun e3=>by subst e3;rw[hw] at h1;cases h1
     have:=h.keep b y hbw (fun d e3=>e2 ⟨d,e3⟩) hb
     rw[h1] at this;cases this
  ·exact h.new b d0 h1
theorem WStep.box {H H':Heap} {o o':Own} {w b n:Nat} {cs:List AV} (h:WStep H o w H' o') (ho:Owned H o n 2) (hb:H b=some (.cells cs)) (hw:b≠w):H' b=some (.cells cs) :=
 h.keep b _ hw (fun d e=>by subst e;exact own_ne ho hb rfl) hb
theorem WStep.upd {H H':Heap} {o o':Own} {w:Nat} {x:AObj} (h:WStep H o w H' o'):WStep H o w (H'.upd w x) o' :=
 ⟨fun c y hc hn hy=>by rw[upd_ne hc];exact h.keep c y hc hn hy,h.new⟩
theorem WStep.alloc {H H':Heap} {o o':Own} {w b:Nat} {x:AObj} (h:WStep H o w H' o') (hb:H' b=none):WStep H o w (H'.upd b x) o' :=
 ⟨fun c y hc hn hy=>by have:=h.keep c y hc hn hy;rw[upd_ne (fun e=>by subst e;rw[hb] at this;cases this)];exact this,h.new⟩
theorem WAt.alloc {H:Heap} {w b:Nat} {o:Own} {l:List Tok} {ok:Bool} {dp:Int} {x:AObj} (h:WAt H w o l ok dp) (hb:H b=none):WAt (H.upd b x) w o l ok dp :=
 ⟨by rw[upd_ne (fun e=>by subst e;rw[h.cell] at hb;cases hb)];exact h.cell,h.own.upd hb⟩
theorem WAt.put {H:Heap} {w:Nat} {o:Own} {l:List Tok} {ok ok':Bool} {dp dp':Int} (h:WAt H w o l ok dp):WAt (H.upd w (.cells [.sl o 2 (cKs l),.bool ok',.int .i64 dp'])) w o l ok' dp' :=
 ⟨upd_same ..,Yo h.own h.cell⟩
theorem WAt.app {H H1:Heap} {w:Nat} {o o1:Own} {l ts:List Tok} {ok:Bool} {dp:Int} {n:Nat} (h:WAt H w o l ok dp) (hs:OwnS H o H1 o1 n 2) (hn:n=(l++ts).length) :
  H1 w=some (.cells [.sl o 2 (cKs l),.bool ok,.int .i64 dp])∧WAt (H1.upd w (.cells [.sl o1 2 (cKs (l++ts)),.bool ok,.int .i64 dp])) w o1 (l++ts) ok dp∧WStep H o w (H1.upd w (.cells [.sl o1 2 (cKs (l++ts)),.bool ok,.int .i64 dp])) o1:=by
 subst hn
 have hc:=ZM h.own h.cell hs.kept
 exact⟨hc,⟨upd_same ..,Yo hs.own hc⟩,fun c y hcw hn hy=>by rw[upd_ne hcw];exact hs.kept c y hy hn,hs.new⟩
abbrev zdW (R:AV→Heap→Prop):AEnd→Heap→Prop:=fun e H'=>∃ v,e=.ret v∧R v H'
section
variable {KP:AV→Heap→Prop} {Q:AExit→Env→Heap→Prop} {st:List Fr} {ρ:Env} {H:Heap} {all items:List AItem} {d:Option Nat} {R:List Chk}
end
theorem zgf:ACalls Tryz.prog 111 [] Heap.emp (zdW fun v H'=>∃ w,v=.ptr w 0∧WAt H' w .nil [] true 0):=by
 refine ACalls.go ir111 ck111 (Al4 _) fun KP Q hQ=>?_
 simp(disch:=omega) only[ir111,go_sem]
 refine goA_intro fun b hb=>?_
 simp(disch:=omega) only[go_sem]
 exact hQ _ _ _ _ [_] nofun rfl (Low.refl _) ⟨b,rfl,upd_same ..,rfl⟩
theorem YA (v:Val):Zo v=if yt v then zH v else []:=by unfold Zo;rfl
theorem zdL (m:Int) (k:Nat) (hk:k≤64):m.fdiv (2 ^ min k IntKind.i64.bits)=m / 2 ^ k:=by
 have e:min k IntKind.i64.bits=k:=by show min k 64=k;omega
 have hp:(0:Int)≤2 ^ k:=by exact_mod_cast Nat.zero_le _
 rw[e,Int.fdiv_eq_ediv_of_nonneg _ hp]
theorem zdM (t:TyD) (hs:t.nm.length≤Lim):Pure Tryz.prog 243 [.agg (cTy t)] (.bool (zt t)):=by
 refine Pure.go ir243 ck243 (Al4 _) fun KP Q hQ=>?_
 obtain⟨nm,ls,ms⟩:=t
 simp only at hs
 simp(disch:=omega) only[ir243,cTy,steps,st2,pev,rev,oev,optr,ibin,sbin,ishf,bound,mmAll,mm2,mk,mkArgs,AV.cells,AV.boxable,AV.one,AV.strip1,fillA,fillS,Nat.reduceEqDiff,reduceCtorEq,↓reduceIte,Nat.reduceAdd,Int.reduceNeg,Nat.reduceLeDiff,Int.reduceToNat,Int.reduceEq,Int.reduceLT,Int.reduceLE,Int.reduceAdd,Io,Im,If,Il,Jt,Jf,AC.rg,Jm,Jl,Ja,Fm,Fl,Fa,Imv,Imb,Iai,Iei,Igi,Isi,Ipf,Ipt,Ilb,Iia,Ilt,Iap,Ink,Iln,Ils,Iad,Iex,Ibx,Ing]
 refine goK_pure (zaV nm hs) ?_
 cases h1:zj nm with
 | false =>
  simp(disch:=omega) only[steps,st2,pev,rev,oev,optr,ibin,sbin,ishf,bound,mmAll,mm2,mk,mkArgs,AV.cells,AV.boxable,AV.one,AV.strip1,fillA,fillS,Nat.reduceEqDiff,reduceCtorEq,↓reduceIte,Nat.reduceAdd,Int.reduceNeg,Nat.reduceLeDiff,Int.reduceToNat,Int.reduceEq,Int.reduceLT,Int.reduceLE,Int.reduceAdd]
  exact hQ _ _ _ _ nofun rfl (by simp[tupOf,envOf,AV.strip,AV.strip1,zt,h1])
 | true =>
  by_cases h2:0≤ls
  case neg =>
   simp(disch:=omega) only[h2,steps,st2,pev,rev,oev,optr,ibin,sbin,ishf,bound,mmAll,mm2,mk,mkArgs,AV.cells,AV.boxable,AV.one,AV.strip1,fillA,fillS,Nat.reduceEqDiff,reduceCtorEq,↓reduceIte,Nat.reduceAdd,Int.reduceNeg,Nat.reduceLeDiff,Int.reduceToNat,Int.reduceEq,Int.reduceLT,Int.reduceLE,Int.reduceAdd]
   exact hQ _ _ _ _ nofun rfl (by simp[tupOf,envOf,AV.strip,AV.strip1,zt,h1,h2])
  by_cases h3:ls≤4
  case neg =>
   simp(disch:=omega) only[h2,h3,steps,st2,pev,rev,oev,optr,ibin,sbin,ishf,bound,mmAll,mm2,mk,mkArgs,AV.cells,AV.boxable,AV.one,AV.strip1,fillA,fillS,Nat.reduceEqDiff,reduceCtorEq,↓reduceIte,Nat.reduceAdd,Int.reduceNeg,Nat.reduceLeDiff,Int.reduceToNat,Int.reduceEq,Int.reduceLT,Int.reduceLE,Int.reduceAdd]
   exact hQ _ _ _ _ nofun rfl (by simp[tupOf,envOf,AV.strip,AV.strip1,zt,h1,h2,h3])
  by_cases h4:0≤ms
  case neg =>
   simp(disch:=omega) only[h2,h3,h4,steps,st2,pev,rev,oev,optr,ibin,sbin,ishf,bound,mmAll,mm2,mk,mkArgs,AV.cells,AV.boxable,AV.one,AV.strip1,fillA,fillS,Nat.reduceEqDiff,reduceCtorEq,↓reduceIte,Nat.reduceAdd,Int.reduceNeg,Nat.reduceLeDiff,Int.reduceToNat,Int.reduceEq,Int.reduceLT,Int.reduceLE,Int.reduceAdd]
   exact hQ _ _ _ _ nofun rfl (by simp[tupOf,envOf,AV.strip,AV.strip1,zt,h1,h2,h3,h4])
  have w1:IntKind.wrap .i64 (ls+1)=ls+1:=wrap64 (by omega) (by omega)
  have w2:¬ (ls+1<0):=by omega
  have e1:(ls+1).toNat=ls.toNat+1:=by omega
  have e2:=zdL ms (ls.toNat+1) (by omega)
  have hpow:(0:Int)<2 ^ (ls.toNat+1):=by exact_mod_cast Nat.pos_of_ne_zero (by simp)
  have e3:(ms / 2 ^ (ls.toNat+1)=0)=(ms<2 ^ (ls.toNat+1)):=propext ⟨fun h=>by
   by_cases hlt:ms<2 ^ (ls.toNat+1)
   ·exact hlt
   ·have:=(Int.le_ediv_iff_mul_le hpow).2 (show 1*2 ^ (ls.toNat+1)≤ms by omega)
    omega,fun h=>Int.ediv_eq_zero_of_lt h4 h⟩
  simp(disch:=omega) only[h2,h3,h4,w1,w2,e1,e2,e3,steps,st2,pev,rev,oev,optr,ibin,sbin,ishf,bound,mmAll,mm2,mk,mkArgs,AV.cells,AV.boxable,AV.one,AV.strip1,fillA,fillS,Nat.reduceEqDiff,reduceCtorEq,↓reduceIte,Nat.reduceAdd,Int.reduceNeg,Nat.reduceLeDiff,Int.reduceToNat,Int.reduceEq,Int.reduceLT,Int.reduceLE,Int.reduceAdd]
  exact hQ _ _ _ _ nofun rfl (by simp[tupOf,envOf,AV.strip,AV.strip1,zt,h1,h2,h3,h4])
def yy (n:Nat) (m:Int):Nat→List Tok
 | 0=>[]
 | j+1=>zcr n m j++yy n m j
theorem Z4 (n:Nat) (m:Int):∀ j,zdq n m j=yy n m (j+1)
 | 0=>by simp[zdq,yy]
 | j+1=>by rw[zdq,Z4 n m j];rfl
theorem and1 {x:Int} (h0:0≤x) (h1:x<64):IntKind.wrap .i64 ((BitVec.ofInt IntKind.i64.bits x &&& BitVec.ofInt IntKind.i64.bits 1).toNat:Int)=x % 2:=by
 have:∀ y:Fin 64,IntKind.wrap .i64 ((BitVec.ofInt IntKind.i64.bits (y.val:Int) &&& BitVec.ofInt IntKind.i64.bits 1).toNat:Int)=(y.val:Int) % 2:=by decide +kernel
 have:=this ⟨x.toNat,by omega⟩
 simp only[Int.toNat_of_nonneg h0] at this
 exact this
abbrev pl (v:Val):Prop:=zx zj v=true
inductive Shape:Val→Prop
 | null:Shape (.mk 0 0 [] [] [])
 | bool (n:Int) (h:n=0∨n=1):Shape (.mk 1 n [] [] [])
 | int (n:Int):Shape (.mk 2 n [] [] [])
 | num (s:List UInt8) (h:zbB s=true):Shape (.mk 3 0 s [] [])
 | text (s:List UInt8):Shape (.mk 4 0 s [] [])
 | word (s:List UInt8) (h:zaE s=false):Shape (.mk 5 0 s [] [])
 | var (s:List UInt8):Shape (.mk 8 0 s [] [])
 | list (l:List Val) (h:Ze zj l=true):Shape (.mk 6 0 [] l [])
 | obj (m:List Mem) (h:Zb zj m=true):Shape (.mk 7 0 [] [] m)
theorem yZ {n:Int} {s:List UInt8} {l:List Val} {m:List Mem}:zo n s l m=true↔n=0∧s=[]∧l=[]∧m=[]:=by
 simp[zo]
theorem shape:∀ v,pl v→Shape v
 | .mk k n s l m,h=>by
  simp only[pl,zx] at h
  split at h
  ·rename_i k6
   subst k6
   simp only[Al0,yZ] at h
   obtain⟨h1,rfl,rfl,_,rfl⟩:=h
   exact .list l h1
  ·split at h
   ·rename_i k7
    subst k7
    simp only[Al0,yZ] at h
    obtain⟨h1,rfl,rfl,rfl,_⟩:=h
    exact .obj m h1
   ·simp only[zh,Al0,yZ] at h
    obtain⟨⟨_,_,rfl,rfl⟩,h⟩:=h
    split at h
    ·rename_i k0
     subst k0
     simp only[Al0,zp] at h
     obtain⟨rfl,rfl⟩:=h
     exact .null
    split at h
    ·rename_i k0
     subst k0
     simp only[Al0,zat,zp] at h
     obtain⟨h,rfl⟩:=h
     exact .bool n h
    split at h
    ·rename_i k0
     subst k0
     simp only[zp] at h
     subst h
     exact .int n
    split at h
    ·rename_i k0
     subst k0
     simp only[Al0,zp] at h
     obtain⟨rfl,h⟩:=h
     exact .num s h
    split at h
    ·rename_i k0
     subst k0
     simp only[Al0,zp] at h
     obtain⟨rfl,h⟩:=h
     exact .text s
    split at h
    ·rename_i k0
     subst k0
     simp only[Al0,zp,Bool.not_eq_true'] at h
     obtain⟨rfl,_,h⟩:=h
     exact .word s h
    split at h
    ·rename_i k0
     subst k0
     simp only[Al0,zp] at h
     obtain⟨rfl,_⟩:=h
     exact .var s
    ·cases h
theorem zbf (dp:Int) (fixed:Bool) (l:List DirD) (x:DirD):z1 dp fixed (l++[x])=(z1 dp fixed l&&Y9 dp fixed x):=by simp[z1]
theorem zbI (l:List DirD) (x:DirD):tDs (l++[x])=tDs l++tD x:=by simp[tDs]
theorem zbE (l:List DirD) (x:DirD):bDs (l++[x])=bDs l+bD x:=by simp[bDs]
theorem zbT (l:List VarD) (x:VarD):bWs (l++[x])=bWs l+bW x:=by simp[bWs]
noncomputable def zcU (dp:Int) (x:VarD):Bool:=zj x.nm&&(zt x.t&&(if x.has then zB dp true x.d else eqd x.d zV))
theorem yh (a b:List Tok):wT (a++b)=wT a+wT b:=by simp[wT]
theorem yS (s:List UInt8):wK (pk s)=s.length+4:=rfl
theorem Zc (s:List UInt8):wK (wk s)=s.length+4:=rfl
theorem yG:wT []=0:=rfl
mutual
theorem zcC:∀ v,wfV v→wT (zH v)+16≤64*bV v
 | .mk k n s l m,⟨hn,hl,hm⟩=>by
  have h1:=zdD l hl
  have h2:=zb7 m hm
  have h3:(Lib.itoa n).length≤21:=by
   have e:∀ u:Nat,u<18446744073709551616→(Lib.decDigits u).length≤20:=fun u hu=>by
    rw[Lib.decDigits_length];exact Lib.nDigits_le20 u hu
   unfold Lib.itoa;split
   ·have:=e n.natAbs (by have:=hn.1;omega)
    simp;omega
   ·have:=e n.toNat (by have:=hn.2;omega)
    omega
  have h4:(boolT (decide (n=1))).length≤5:=by unfold boolT;split<;>simp
  simp only[zH,bV]
  repeat' split
  all_goals simp only[zF,yh,yG,wK,Al2,Al3]
  all_goals omega
theorem zdD:∀ l,zck l→wT (yQ l)≤64*bVs l
 | [],_=>by simp[yQ,wT]
 | v::r,⟨h,hr⟩=>by
  have h1:=zcC v h
  have h2:=zdD r hr
  simp only[yQ,bVs,yh];omega
theorem zfN:∀ x,wfM x→wT (YE x)≤64*bM x
 | .mk s v,h=>by
  have h1:=zcC v h
  simp only[YE,bM,zF,wK,Al2,Al3];omega
theorem zb7:∀ l,YY l→wT (zN l)≤64*bMs l
 | [],_=>by simp[zN,wT]
 | v::r,⟨h,hr⟩=>by
  have h1:=zfN v h
  have h2:=zb7 r hr
  simp only[zN,bMs,yh];omega
end
theorem zdg (l:List Mem) (h:YY l):wT (Yw l)≤74*bMs l:=by
 have h1:=zb7 l h
 have h2:=zK l
 unfold Yw
 split
 ·simp[wT]
 ·simp only[zF,yh,yG,yS,Al2,Al3];omega
theorem Zq {α:Type} {f:α→List Tok} {g:α→Nat} {c:Nat}:∀ l:List α,(∀ x∈l,wT (f x)≤c*g x)→wT (l.flatMap f)≤c*(l.map g).sum
 | [],_=>by simp[wT]
 | x::r,h=>by
  have h1:=h x (by simp)
  have h2:=Zq r fun y hy=>h y (by simp[hy])
  simp only[List.flatMap_cons,yh,List.map_cons,List.sum_cons,Nat.mul_add];omega
theorem zfY (d:DirD) (h:wfD d):wT (tD d)≤80*bD d:=by
 have h1:=zdg d.args h
 simp only[tD,bD,zF,yS,Zc,Al2,Al3];omega
theorem zfj (l:List DirD) (h:zdr l):wT (tDs l)≤80*bDs l:=Zq l fun x hx=>zfY x (h x hx)
theorem zcB (n:Nat) (m:Int):∀ j,wT (yy n m j)≤10*j
 | 0=>by simp[yy,wT]
 | j+1=>by
  have h:=zcB n m j
  have h2:wT (zcr n m j)≤10:=by
   unfold zcr
   repeat' split
   all_goals simp[wT,yS]
  simp only[yy,yh];omega
theorem zd3 (t:TyD) (h:zt t=true):wT (tTy t)≤80+t.nm.length:=by
 simp only[zt,Al0,zp] at h
 obtain⟨_,h1,h2,_,_⟩:=h
 have h3:=zcB t.lists.toNat t.musts (t.lists.toNat+1)
 have h4:∀ n,wT (List.replicate n (pk [91]))=5*n:=fun n=>by
  induction n with
  | zero=>rfl
  | succ n ih=>rw[List.replicate_succ,zF,ih,yS];simp;omega
 simp only[tTy,yh,zF,Zc,h4,Z4]
 omega
theorem zb1:∀ v,bV v≤Lim→Pure Tryz.prog 270 [.agg (cV v)] (.bool (zq v)):=by
 refine Val.ind fun k n s l m ihl ihm hb=>?_
 have hb':1+s.length+bVs l+bMs m≤Lim:=hb
 have hll:=yd l
 have hml:=zK m
 have h1:=zU l
 have h2:=zL m
 have hsl:s.length≤Lim:=by omega
 simp only[Lim] at hb'
 refine Pure.go ir270 ck270 (Al4 _) fun KP Q hQ=>?_
 by_cases k0:k=0
 ·subst k0
  by_cases n0:n=0
  case neg =>
   simp(disch:=omega) only[ir270,zk,h1,h2,n0,go_sem]
   exact hQ _ _ _ _ nofun rfl (by simp[tupOf,envOf,AV.strip,AV.strip1,zq,zx,zh,zo,n0])
  subst n0
  by_cases hl:(0:Int)<l.length
  ·have hl2:¬ l.length=0:=by omega
   have hl3:l≠[]:=fun e=>by subst e;simp at hl2
   simp(disch:=omega) only[ir270,zk,h1,h2,hl,go_sem]
   exact hQ _ _ _ _ nofun rfl (by simp[tupOf,envOf,AV.strip,AV.strip1,zq,zx,zh,zo,hl2,hl3])
  have hl2:l=[]:=List.eq_nil_of_length_eq_zero (by omega)
  by_cases hm:(0:Int)<m.length
  ·have hm2:¬ m.length=0:=by omega
   have hm3:m≠[]:=fun e=>by subst e;simp at hm2
   simp(disch:=omega) only[ir270,zk,h1,h2,hl,hm,go_sem]
   exact hQ _ _ _ _ nofun rfl (by simp[tupOf,envOf,AV.strip,AV.strip1,zq,zx,zh,zo,hl2,hm2,hm3])
  have hm2:m=[]:=List.eq_nil_of_length_eq_zero (by omega)
  by_cases s0:s=[]
  case neg =>
   simp(disch:=omega) only[ir270,zk,h1,h2,hl,hm,s0,go_sem]
   exact hQ _ _ _ _ nofun rfl (by simp[tupOf,envOf,AV.strip,AV.strip1,zq,zx,zh,zo,hl2,hm2,s0])
  subst s0
  simp(disch:=omega) only[ir270,zk,h1,h2,hl,hm,go_sem]
  exact hQ _ _ _ _ nofun rfl (by simp[tupOf,envOf,AV.strip,AV.strip1,zq,zx,zh,zo,hl2,hm2])
 by_cases k1:k=1
 ·subst k1
  by_cases hl:(0:Int)<l.length
  ·have hl2:¬ l.length=0:=by omega
   have hl3:l≠[]:=fun e=>by subst e;simp at hl2
   simp(disch:=omega) only[ir270,zk,h1,h2,hl,go_sem]
   exact hQ _ _ _ _ nofun rfl (by simp[tupOf,envOf,AV.strip,AV.strip1,zq,zx,zh,zo,hl2,hl3])
  have hl2:l=[]:=List.eq_nil_of_length_eq_zero (by omega)
  by_cases hm:(0:Int)<m.length
  ·have hm2:¬ m.length=0:=by omega
   have hm3:m≠[]:=fun e=>by subst e;simp at hm2
   simp(disch:=omega) only[ir270,zk,h1,h2,hl,hm,go_sem]
   exact hQ _ _ _ _ nofun rfl (by simp[tupOf,envOf,AV.strip,AV.strip1,zq,zx,zh,zo,hl2,hm2,hm3])
  have hm2:m=[]:=List.eq_nil_of_length_eq_zero (by omega)
  by_cases s0:s=[]
  case neg =>
   simp(disch:=omega) only[ir270,zk,h1,h2,hl,hm,s0,go_sem]
   exact hQ _ _ _ _ nofun rfl (by simp[tupOf,envOf,AV.strip,AV.strip1,zq,zx,zh,zo,hl2,hm2,s0])
  subst s0
  by_cases n0:n=0
  ·subst n0
   simp(disch:=omega) only[ir270,zk,h1,h2,hl,hm,go_sem]
   exact hQ _ _ _ _ nofun rfl (by simp[tupOf,envOf,AV.strip,AV.strip1,zq,zx,zh,zo,hl2,hm2])
  by_cases n1:n=1
  ·subst n1
   simp(disch:=omega) only[ir270,zk,h1,h2,hl,hm,go_sem]
   exact hQ _ _ _ _ nofun rfl (by simp[tupOf,envOf,AV.strip,AV.strip1,zq,zx,zh,zo,hl2,hm2])
  simp(disch:=omega) only[ir270,zk,h1,h2,hl,hm,n0,n1,go_sem]
  exact hQ _ _ _ _ nofun rfl (by simp[tupOf,envOf,AV.strip,AV.strip1,zq,zx,zh,zo,hl2,hm2,n0,n1])
 by_cases k2:k=2
 ·subst k2
  by_cases hl:(0:Int)<l.length
  ·have hl2:¬ l.length=0:=by omega
   have hl3:l≠[]:=fun e=>by subst e;simp at hl2
   simp(disch:=omega) only[ir270,zk,h1,h2,hl,go_sem]
   exact hQ _ _ _ _ nofun rfl (by simp[tupOf,envOf,AV.strip,AV.strip1,zq,zx,zh,zo,hl2,hl3])
  have hl2:l=[]:=List.eq_nil_of_length_eq_zero (by omega)
  by_cases hm:(0:Int)<m.length
  ·have hm2:¬ m.length=0:=by omega
   have hm3:m≠[]:=fun e=>by subst e;simp at hm2
   simp(disch:=omega) only[ir270,zk,h1,h2,hl,hm,go_sem]
   exact hQ _ _ _ _ nofun rfl (by simp[tupOf,envOf,AV.strip,AV.strip1,zq,zx,zh,zo,hl2,hm2,hm3])
  have hm2:m=[]:=List.eq_nil_of_length_eq_zero (by omega)
  by_cases s0:s=[]
  case neg =>
   simp(disch:=omega) only[ir270,zk,h1,h2,hl,hm,s0,go_sem]
   exact hQ _ _ _ _ nofun rfl (by simp[tupOf,envOf,AV.strip,AV.strip1,zq,zx,zh,zo,hl2,hm2,s0])
  subst s0
  simp(disch:=omega) only[ir270,zk,h1,h2,hl,hm,go_sem]
  exact hQ _ _ _ _ nofun rfl (by simp[tupOf,envOf,AV.strip,AV.strip1,zq,zx,zh,zo,hl2,hm2])
 by_cases k3:k=3
 ·subst k3
  by_cases n0:n=0
  case neg =>
   simp(disch:=omega) only[ir270,zk,h1,h2,n0,go_sem]
   exact hQ _ _ _ _ nofun rfl (by simp[tupOf,envOf,AV.strip,AV.strip1,zq,zx,zh,zo,n0])
  subst n0
  by_cases hl:(0:Int)<l.length
  ·have hl2:¬ l.length=0:=by omega
   have hl3:l≠[]:=fun e=>by subst e;simp at hl2
   simp(disch:=omega) only[ir270,zk,h1,h2,hl,go_sem]
   exact hQ _ _ _ _ nofun rfl (by simp[tupOf,envOf,AV.strip,AV.strip1,zq,zx,zh,zo,hl2,hl3])
  have hl2:l=[]:=List.eq_nil_of_length_eq_zero (by omega)
  by_cases hm:(0:Int)<m.length
  ·have hm2:¬ m.length=0:=by omega
   have hm3:m≠[]:=fun e=>by subst e;simp at hm2
   simp(disch:=omega) only[ir270,zk,h1,h2,hl,hm,go_sem]
   exact hQ _ _ _ _ nofun rfl (by simp[tupOf,envOf,AV.strip,AV.strip1,zq,zx,zh,zo,hl2,hm2,hm3])
  have hm2:m=[]:=List.eq_nil_of_length_eq_zero (by omega)
  simp(disch:=omega) only[ir270,zk,h1,h2,hl,hm,go_sem]
  have hcl:=zcl s
  refine goK_pure (zad s hsl) ?_
  by_cases s0:s=[]
  ·simp(disch:=omega) only[s0,go_sem]
   simp only[s0,ne_eq,not_true_eq_false,decide_false,Bool.false_and] at hcl
   exact hQ _ _ _ _ nofun rfl (by simp[tupOf,envOf,AV.strip,AV.strip1,zq,zx,zh,zo,hl2,hm2,s0,← hcl])
  by_cases z:yF s=0
  ·simp(disch:=omega) only[s0,z,go_sem]
   simp only[z,ne_eq,not_true_eq_false,decide_false,Bool.false_and,Bool.and_false] at hcl
   exact hQ _ _ _ _ nofun rfl (by simp[tupOf,envOf,AV.strip,AV.strip1,zq,zx,zh,zo,hl2,hm2,← hcl])
  simp(disch:=omega) only[s0,z,go_sem]
  refine goK_pure (zfy s hsl) ?_
  have e1:decide (s≠[])=true:=by simpa using s0
  have e2:decide (yF s≠0)=true:=by simpa using z
  rw[e1,e2,Bool.true_and,Bool.true_and] at hcl
  by_cases f:yF s=4
  ·simp(disch:=omega) only[f,go_sem]
   rw[decide_eq_true f,Bool.true_or] at hcl
   exact hQ _ _ _ _ nofun rfl (by simp[tupOf,envOf,AV.strip,AV.strip1,zq,zx,zh,zo,hl2,hm2,← hcl])
  ·simp(disch:=omega) only[f,go_sem]
   rw[decide_eq_false f,Bool.false_or] at hcl
   exact hQ _ _ _ _ nofun rfl (by simp[tupOf,envOf,AV.strip,AV.strip1,zq,zx,zh,zo,hl2,hm2,← hcl])
 by_cases k4:k=4
 ·subst k4
  by_cases n0:n=0
  case neg =>
   simp(disch:=omega) only[ir270,zk,h1,h2,n0,go_sem]
   exact hQ _ _ _ _ nofun rfl (by simp[tupOf,envOf,AV.strip,AV.strip1,zq,zx,zh,zo,n0])
  subst n0
  by_cases hl:(0:Int)<l.length
  ·have hl2:¬ l.length=0:=by omega
   have hl3:l≠[]:=fun e=>by subst e;simp at hl2
   simp(disch:=omega) only[ir270,zk,h1,h2,hl,go_sem]
   exact hQ _ _ _ _ nofun rfl (by simp[tupOf,envOf,AV.strip,AV.strip1,zq,zx,zh,zo,hl2,hl3])
  have hl2:l=[]:=List.eq_nil_of_length_eq_zero (by omega)
  by_cases hm:(0:Int)<m.length
  ·have hm2:¬ m.length=0:=by omega
   have hm3:m≠[]:=fun e=>by subst e;simp at hm2
   simp(disch:=omega) only[ir270,zk,h1,h2,hl,hm,go_sem]
   exact hQ _ _ _ _ nofun rfl (by simp[tupOf,envOf,AV.strip,AV.strip1,zq,zx,zh,zo,hl2,hm2,hm3])
  have hm2:m=[]:=List.eq_nil_of_length_eq_zero (by omega)
  simp(disch:=omega) only[ir270,zk,h1,h2,hl,hm,go_sem]
  refine goK_pure (zea s hsl) ?_
  simp(disch:=omega) only[go_sem]
  exact hQ _ _ _ _ nofun rfl (by simp[tupOf,envOf,AV.strip,AV.strip1,zq,zx,zh,zo,hl2,hm2])
 by_cases k5:k=5
 ·subst k5
  by_cases n0:n=0
  case neg =>
   simp(disch:=omega) only[ir270,zk,h1,h2,n0,go_sem]
   exact hQ _ _ _ _ nofun rfl (by simp[tupOf,envOf,AV.strip,AV.strip1,zq,zx,zh,zo,n0])
  subst n0
  by_cases hl:(0:Int)<l.length
  ·have hl2:¬ l.length=0:=by omega
   have hl3:l≠[]:=fun e=>by subst e;simp at hl2
   simp(disch:=omega) only[ir270,zk,h1,h2,hl,go_sem]
   exact hQ _ _ _ _ nofun rfl (by simp[tupOf,envOf,AV.strip,AV.strip1,zq,zx,zh,zo,hl2,hl3])
  have hl2:l=[]:=List.eq_nil_of_length_eq_zero (by omega)
  by_cases hm:(0:Int)<m.length
  ·have hm2:¬ m.length=0:=by omega
   have hm3:m≠[]:=fun e=>by subst e;simp at hm2
   simp(disch:=omega) only[ir270,zk,h1,h2,hl,hm,go_sem]
   exact hQ _ _ _ _ nofun rfl (by simp[tupOf,envOf,AV.strip,AV.strip1,zq,zx,zh,zo,hl2,hm2,hm3])
  have hm2:m=[]:=List.eq_nil_of_length_eq_zero (by omega)
  simp(disch:=omega) only[ir270,zk,h1,h2,hl,hm,go_sem]
  refine goK_pure (Zp s hsl) ?_
  cases hn:zj s with
  | false =>
   simp(disch:=omega) only[hn,go_sem]
   exact hQ _ _ _ _ nofun rfl (by simp[tupOf,envOf,AV.strip,AV.strip1,zq,zx,zh,zo,hl2,hm2,hn])
  | true =>
   by_cases r1:s=[116,114,117,101]
   ·simp(disch:=omega) only[hn,r1,go_sem]
    exact hQ _ _ _ _ nofun rfl (by simp[tupOf,envOf,AV.strip,AV.strip1,zq,zx,zh,zo,hl2,hm2,hn,zaE,r1])
   by_cases r2:s=[102,97,108,115,101]
   ·have q:¬ ([102,97,108,115,101]:List UInt8)=[116,114,117,101]:=by decide
    simp(disch:=omega) only[hn,r2,q,go_sem]
    exact hQ _ _ _ _ nofun rfl (by simp[tupOf,envOf,AV.strip,AV.strip1,zq,zx,zh,zo,hl2,hm2,hn,zaE,r2])
   by_cases r3:s=[110,117,108,108]
   ·have q:¬ ([110,117,108,108]:List UInt8)=[116,114,117,101]:=by decide
    have q2:¬ ([110,117,108,108]:List UInt8)=[102,97,108,115,101]:=by decide
    simp(disch:=omega) only[hn,r3,q,q2,go_sem]
    exact hQ _ _ _ _ nofun rfl (by simp[tupOf,envOf,AV.strip,AV.strip1,zq,zx,zh,zo,hl2,hm2,hn,zaE,r3])
   simp(disch:=omega) only[hn,r1,r2,r3,go_sem]
   exact hQ _ _ _ _ nofun rfl (by simp[tupOf,envOf,AV.strip,AV.strip1,zq,zx,zh,zo,hl2,hm2,hn,zaE,r1,r2,r3])
 by_cases k8:k=8
 ·subst k8
  by_cases n0:n=0
  case neg =>
   simp(disch:=omega) only[ir270,zk,h1,h2,n0,go_sem]
   exact hQ _ _ _ _ nofun rfl (by simp[tupOf,envOf,AV.strip,AV.strip1,zq,zx,zh,zo,n0])
  subst n0
  by_cases hl:(0:Int)<l.length
  ·have hl2:¬ l.length=0:=by omega
   have hl3:l≠[]:=fun e=>by subst e;simp at hl2
   simp(disch:=omega) only[ir270,zk,h1,h2,hl,go_sem]
   exact hQ _ _ _ _ nofun rfl (by simp[tupOf,envOf,AV.strip,AV.strip1,zq,zx,zh,zo,hl2,hl3])
  have hl2:l=[]:=List.eq_nil_of_length_eq_zero (by omega)
  by_cases hm:(0:Int)<m.length
  ·have hm2:¬ m.length=0:=by omega
   have hm3:m≠[]:=fun e=>by subst e;simp at hm2
   simp(disch:=omega) only[ir270,zk,h1,h2,hl,hm,go_sem]
   exact hQ _ _ _ _ nofun rfl (by simp[tupOf,envOf,AV.strip,AV.strip1,zq,zx,zh,zo,hl2,hm2,hm3])
  have hm2:m=[]:=List.eq_nil_of_length_eq_zero (by omega)
  simp(disch:=omega) only[ir270,zk,h1,h2,hl,hm,go_sem]
  refine goK_pure (Zp s hsl) ?_
  simp(disch:=omega) only[go_sem]
  exact hQ _ _ _ _ nofun rfl (by simp[tupOf,envOf,AV.strip,AV.strip1,zq,zx,zh,zo,hl2,hm2])
 by_cases k6:k=6
 ·subst k6
  by_cases n0:n=0
  case neg =>
   simp(disch:=omega) only[ir270,zk,h1,h2,n0,go_sem]
   exact hQ _ _ _ _ nofun rfl (by simp[tupOf,envOf,AV.strip,AV.strip1,zq,zx,zh,zo,n0])
  subst n0
  by_cases hm:(0:Int)<m.length
  ·have hm2:¬ m.length=0:=by omega
   have hm3:m≠[]:=fun e=>by subst e;simp at hm2
   simp(disch:=omega) only[ir270,zk,h1,h2,hm,go_sem]
   exact hQ _ _ _ _ nofun rfl (by simp[tupOf,envOf,AV.strip,AV.strip1,zq,zx,zh,zo,hm2,hm3])
  have hm2:m=[]:=List.eq_nil_of_length_eq_zero (by omega)
  by_cases s0:s=[]
  case neg =>
   simp(disch:=omega) only[ir270,zk,h1,h2,hm,s0,go_sem]
   exact hQ _ _ _ _ nofun rfl (by simp[tupOf,envOf,AV.strip,AV.strip1,zq,zx,zh,zo,hm2,s0])
  subst s0
  simp(disch:=omega) only[ir270,zk,h1,h2,hm,go_sem]
  refine goL_range l 6 (fun _:Unit=>[]) (fun done rest _ H=>Ze Lib.validD rest=Ze Lib.validD l) () (by simp(disch:=omega) only[go_sem]) rfl ?_ ?_
  ·rintro _ H J hn hlt
   simp only[Ze] at hn
   simp(disch:=omega) only[h1,hlt,go_sem]
   exact hQ _ _ _ _ nofun rfl (by simp[tupOf,envOf,AV.strip,AV.strip1,zq,zx,zh,zo,hm2,← hn])
  ·rintro done x rest _ H J hd hlt _ hn hJ
   have hg:=zZ hd
   have hbm:=yL done x rest
   rw[← hd] at hbm
   simp only[Ze] at hn
   simp(disch:=omega) only[zf,zc,za,ze,zd,zb,zi,h1,hlt,hg,go_sem]
   refine goK_pure (ihl x (by rw[hd];simp) (by simp only[Lim];omega)) ?_
   have eg:zq x=zx Lib.validD x:=rfl
   rw[eg]
   cases hx:zx Lib.validD x with
   | true =>
    simp only[hx,Bool.true_and] at hn
    simp(disch:=omega) only[hx,go_sem]
    exact goJ (hJ () _ hn) (by simp(disch:=omega) only[wrap64,go_sem])
   | false =>
    simp only[hx,Bool.false_and] at hn
    simp(disch:=omega) only[hx,go_sem]
    exact hQ _ _ _ _ nofun rfl (by simp[tupOf,envOf,AV.strip,AV.strip1,zq,zx,zh,zo,hm2,← hn])
 by_cases k7:k=7
 ·subst k7
  by_cases n0:n=0
  case neg =>
   simp(disch:=omega) only[ir270,zk,h1,h2,n0,go_sem]
   exact hQ _ _ _ _ nofun rfl (by simp[tupOf,envOf,AV.strip,AV.strip1,zq,zx,zh,zo,n0])
  subst n0
  by_cases hl:(0:Int)<l.length
  ·have hl2:¬ l.length=0:=by omega
   have hl3:l≠[]:=fun e=>by subst e;simp at hl2
   simp(disch:=omega) only[ir270,zk,h1,h2,hl,go_sem]
   exact hQ _ _ _ _ nofun rfl (by simp[tupOf,envOf,AV.strip,AV.strip1,zq,zx,zh,zo,hl2,hl3])
  have hl2:l=[]:=List.eq_nil_of_length_eq_zero (by omega)
  by_cases s0:s=[]
  case neg =>
   simp(disch:=omega) only[ir270,zk,h1,h2,hl,s0,go_sem]
   exact hQ _ _ _ _ nofun rfl (by simp[tupOf,envOf,AV.strip,AV.strip1,zq,zx,zh,zo,hl2,s0])
  subst s0
  simp(disch:=omega) only[ir270,zk,h1,h2,hl,go_sem]
  refine goL_range m 7 (fun _:Unit=>[]) (fun done rest _ H=>Zb Lib.validD rest=Zb Lib.validD m) () (by simp(disch:=omega) only[go_sem]) rfl ?_ ?_
  ·rintro _ H J hn hlt
   simp only[Zb] at hn
   simp(disch:=omega) only[h2,hlt,go_sem]
   exact hQ _ _ _ _ nofun rfl (by simp[tupOf,envOf,AV.strip,AV.strip1,zq,zx,zh,zo,hl2,← hn])
  ·rintro done x rest _ H J hd hlt _ hn hJ
   have hg:=zP hd
   have hbm:=zW done x rest
   rw[← hd] at hbm
   have hmem:x∈m:=by rw[hd];simp
   obtain⟨t,v⟩:=x
   simp only[Zb,zeQ,bM] at hn hbm
   simp(disch:=omega) only[zf,zc,za,ze,zd,zb,zi,h2,hlt,hg,go_sem]
   refine goK_pure (zea t (by simp only[Lim];omega)) ?_
   cases ht:Lib.validD t with
   | false =>
    simp only[ht,Bool.false_and] at hn
    simp(disch:=omega) only[zf,zc,za,ze,zd,zb,zi,ht,go_sem]
    exact hQ _ _ _ _ nofun rfl (by simp[tupOf,envOf,AV.strip,AV.strip1,zq,zx,zh,zo,hl2,← hn])
   | true =>
    simp(disch:=omega) only[zf,zc,za,ze,zd,zb,zi,ht,h2,hlt,hg,go_sem]
    refine goK_pure (ihm t v hmem (by simp only[Lim];omega)) ?_
    have eg:zq v=zx Lib.validD v:=rfl
    rw[eg]
    cases hx:zx Lib.validD v with
    | true =>
     simp only[ht,hx,Bool.true_and] at hn
     simp(disch:=omega) only[hx,go_sem]
     exact goJ (hJ () _ hn) (by simp(disch:=omega) only[wrap64,go_sem])
    | false =>
     simp only[ht,hx,Bool.true_and,Bool.false_and] at hn
     simp(disch:=omega) only[hx,go_sem]
     exact hQ _ _ _ _ nofun rfl (by simp[tupOf,envOf,AV.strip,AV.strip1,zq,zx,zh,zo,hl2,← hn])
 ·skip
  by_cases n0:n=0
  case neg =>
   simp(disch:=omega) only[ir270,zk,h1,h2,k0,k1,k2,k3,k4,k5,k8,k6,k7,n0,go_sem]
   exact hQ _ _ _ _ nofun rfl (by simp[tupOf,envOf,AV.strip,AV.strip1,zq,zx,zh,zo,k0,k1,k2,k3,k4,k5,k8,k6,k7,n0])
  subst n0
  by_cases hl:(0:Int)<l.length
  ·have hl2:¬ l.length=0:=by omega
   have hl3:l≠[]:=fun e=>by subst e;simp at hl2
   simp(disch:=omega) only[ir270,zk,h1,h2,k0,k1,k2,k3,k4,k5,k8,k6,k7,hl,go_sem]
   exact hQ _ _ _ _ nofun rfl (by simp[tupOf,envOf,AV.strip,AV.strip1,zq,zx,zh,zo,k0,k1,k2,k3,k4,k5,k8,k6,k7,hl2,hl3])
  have hl2:l=[]:=List.eq_nil_of_length_eq_zero (by omega)
  by_cases hm:(0:Int)<m.length
  ·have hm2:¬ m.length=0:=by omega
   have hm3:m≠[]:=fun e=>by subst e;simp at hm2
   simp(disch:=omega) only[ir270,zk,h1,h2,k0,k1,k2,k3,k4,k5,k8,k6,k7,hl,hm,go_sem]
   exact hQ _ _ _ _ nofun rfl (by simp[tupOf,envOf,AV.strip,AV.strip1,zq,zx,zh,zo,k0,k1,k2,k3,k4,k5,k8,k6,k7,hl2,hm2,hm3])
  have hm2:m=[]:=List.eq_nil_of_length_eq_zero (by omega)
  simp(disch:=omega) only[ir270,zk,h1,h2,k0,k1,k2,k3,k4,k5,k8,k6,k7,hl,hm,go_sem]
  exact hQ _ _ _ _ nofun rfl (by simp[tupOf,envOf,AV.strip,AV.strip1,zq,zx,zh,zo,k0,k1,k2,k3,k4,k5,k8,k6,k7,hl2,hm2])
theorem YN:∀(s:List UInt8) (i:Nat),yT s i=true→∀ c∈s,c.toNat<128
 | [],_,_,c,hc=>by cases hc
 | x::r,i,h,c,hc=>by
  simp only[yT] at h
  split at h
  ·rename_i hx
   rcases List.mem_cons.1 hc with e|e
   ·subst e
    simp only[isL,isD,zat,Al0,zp] at hx
    omega
   ·exact YN r _ h c e
  ·cases h
theorem zcn {s:List UInt8} (h:zj s=true):Lib.validD s=true:=by
 simp only[zj,Al0] at h
 rw[Lib.validD_ascii s.length s (fun b hb=>YN s 0 h.1 b (by simpa using hb))]
 simp[Lib.validD,Lib.validGoD]
mutual
def yH:Val→Bool
 | .mk _ _ _ l m=>yJ l&&yM m
def yJ:List Val→Bool
 | []=>true
 | v::r=>yH v&&yJ r
def zb8:Mem→Bool
 | .mk s v=>zj s&&yH v
def yM:List Mem→Bool
 | []=>true
 | x::r=>zb8 x&&yM r
end
theorem zfa:∀ v,bV v≤Lim→Pure Tryz.prog 271 [.agg (cV v)] (.bool (yH v)):=by
 refine Val.ind fun k n s l m ihl ihm hb=>?_
 have hb':1+s.length+bVs l+bMs m≤Lim:=hb
 have hll:=yd l
 have hml:=zK m
 have h1:=zU l
 have h2:=zL m
 simp only[Lim] at hb'
 refine Pure.go ir271 ck271 (Al4 _) fun KP Q hQ=>?_
 simp(disch:=omega) only[ir271,zk,go_sem]
 refine goL_range l 3 (fun _:Unit=>[]) (fun done rest _ H=>yJ rest=yJ l∧H=Heap.emp) () (by simp(disch:=omega) only[go_sem]) ⟨rfl,rfl⟩ ?_ ?_
 ·rintro _ H J ⟨hn,rfl⟩ hlt
  simp only[yJ] at hn
  simp(disch:=omega) only[h1,hlt,go_sem]
  refine goL_range m 4 (fun _:Unit=>[]) (fun done rest _ H=>yM rest=yM m) () (by simp(disch:=omega) only[go_sem]) rfl ?_ ?_
  ·rintro _ H J hm hlt2
   simp only[yM] at hm
   simp(disch:=omega) only[h2,hlt2,go_sem]
   exact hQ _ _ _ _ nofun rfl (by simp[tupOf,envOf,AV.strip,AV.strip1,yH,← hn,← hm])
  ·rintro done x rest _ H J hd hlt2 _ hm hJ
   have hg:=zP hd
   have hbm:=zW done x rest
   rw[← hd] at hbm
   have hmem:x∈m:=by rw[hd];simp
   obtain⟨t,v⟩:=x
   simp only[yM,zb8,bM] at hm hbm
   simp(disch:=omega) only[zf,zc,za,ze,zd,zb,zi,h2,hlt2,hg,go_sem]
   refine goK_pure (Zp t (by simp only[Lim];omega)) ?_
   cases ht:zj t with
   | false =>
    simp only[ht,Bool.false_and] at hm
    simp(disch:=omega) only[zf,zc,za,ze,zd,zb,zi,ht,go_sem]
    exact hQ _ _ _ _ nofun rfl (by simp[tupOf,envOf,AV.strip,AV.strip1,yH,← hn,← hm])
   | true =>
    simp(disch:=omega) only[zf,zc,za,ze,zd,zb,zi,ht,h2,hlt2,hg,go_sem]
    refine goK_pure (ihm t v hmem (by simp only[Lim];omega)) ?_
    cases hx:yH v with
    | true =>
     simp only[ht,hx,Bool.true_and] at hm
     simp(disch:=omega) only[hx,go_sem]
     exact goJ (hJ () _ hm) (by simp(disch:=omega) only[wrap64,go_sem])
    | false =>
     simp only[ht,hx,Bool.true_and,Bool.false_and] at hm
     simp(disch:=omega) only[hx,go_sem]
     exact hQ _ _ _ _ nofun rfl (by simp[tupOf,envOf,AV.strip,AV.strip1,yH,← hn,← hm])
 ·rintro done x rest _ H J hd hlt _ ⟨hn,rfl⟩ hJ
  have hg:=zZ hd
  have hbm:=yL done x rest
  rw[← hd] at hbm
  simp only[yJ] at hn
  simp(disch:=omega) only[zf,zc,za,ze,zd,zb,zi,h1,hlt,hg,go_sem]
  refine goK_pure (ihl x (by rw[hd];simp) (by simp only[Lim];omega)) ?_
  cases hx:yH x with
  | true =>
   simp only[hx,Bool.true_and] at hn
   simp(disch:=omega) only[hx,go_sem]
   exact goJ (hJ () _ ⟨hn,rfl⟩) (by simp(disch:=omega) only[wrap64,go_sem])
  | false =>
   simp only[hx,Bool.false_and] at hn
   simp(disch:=omega) only[hx,go_sem]
   exact hQ _ _ _ _ nofun rfl (by simp[tupOf,envOf,AV.strip,AV.strip1,yH,← hn])
mutual
theorem Ya:∀ v,(zq v&&yH v)=zx zj v
 | .mk k n s l m=>by
  have hl:=YV l
  have hm:=YM m
  unfold zq at *
  simp only[zx,yH]
  split
  ·cases hbm:zo n s [] m with
   | false=>simp
   | true =>
    obtain⟨_,_,_,rfl⟩:=yZ.1 hbm
    rw[← hl];simp[yM]
  ·split
   ·cases hbm:zo n s l [] with
    | false=>simp
    | true =>
     obtain⟨_,_,rfl,_⟩:=yZ.1 hbm
     rw[← hm];simp[yJ]
   ·cases hs:zh k n s l m with
    | false=>rfl
    | true =>
     have:zo 0 [] l m=true:=by simp only[zh,Al0] at hs;exact hs.1
     obtain⟨_,_,rfl,rfl⟩:=yZ.1 this
     simp[yJ,yM]
theorem YV:∀ l,(Ze Lib.validD l&&yJ l)=Ze zj l
 | []=>rfl
 | v::r=>by
  have h1:=Ya v
  have h2:=YV r
  unfold zq at h1
  simp only[Ze,yJ,← h1,← h2]
  cases zx Lib.validD v<;>cases Ze Lib.validD r<;>cases yH v<;>rfl
theorem YM:∀ l,(Zb Lib.validD l&&yM l)=Zb zj l
 | []=>rfl
 | .mk s v::r=>by
  have h1:=Ya v
  have h2:=YM r
  unfold zq at h1
  simp only[Zb,yM,zeQ,zb8,← h1,← h2]
  cases hn:zj s with
  | false=>simp
  | true =>
   rw[zcn hn]
   cases zx Lib.validD v<;>cases Zb Lib.validD r<;>cases yH v<;>rfl
end
theorem zes (v:Val) (hb:bV v≤Lim):Pure Tryz.prog 252 [.agg (cV v)] (.bool (yt v)):=by
 refine Pure.go ir252 ck252 (Al4 _) fun KP Q hQ=>?_
 have hgn:=Ya v
 simp(disch:=omega) only[zf,zc,za,ze,zd,zb,zi,ir252,go_sem]
 refine goK_pure (zb1 v hb) ?_
 cases hg:zq v with
 | false =>
  rw[hg,Bool.false_and] at hgn
  simp(disch:=omega) only[zf,zc,za,ze,zd,zb,zi,hg,go_sem]
  exact hQ _ _ _ _ nofun rfl (by simp[tupOf,envOf,AV.strip,AV.strip1,yt,← hgn])
 | true =>
  rw[hg,Bool.true_and] at hgn
  simp(disch:=omega) only[zf,zc,za,ze,zd,zb,zi,hg,go_sem]
  refine goK_pure (zeb v hb) ?_
  by_cases hd:zJ v≤16
  ·simp(disch:=omega) only[zf,zc,za,ze,zd,zb,zi,hd,go_sem]
   refine goK_pure (zfa v hb) ?_
   simp(disch:=omega) only[go_sem]
   exact hQ _ _ _ _ nofun rfl (by simp[tupOf,envOf,AV.strip,AV.strip1,yt,← hgn,hd])
  ·simp(disch:=omega) only[zf,zc,za,ze,zd,zb,zi,hd,go_sem]
   exact hQ _ _ _ _ nofun rfl (by simp[tupOf,envOf,AV.strip,AV.strip1,yt,hd])
end Go.Proofs.YtaielcdfcgpbiaaGreatDoor
