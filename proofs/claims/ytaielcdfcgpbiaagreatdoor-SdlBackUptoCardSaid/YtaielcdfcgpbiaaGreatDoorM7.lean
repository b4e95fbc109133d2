import Derived.Shelf.Strings.IndexAnyAll
import Derived.Shelf.Small.Utf8
import Derived.Laws.RangeAny
import Derived.Laws.Runes
import Derived.WalkMore
import Derived.Shelf.RegionOpenPlain
import Derived.BigQuiet
import Derived.Test.YtaielcdfcgpbiaaGreatDoorRows
import Derived.Test.YtaielcdfcgpbiaaGreatDoorM1
import Derived.Test.YtaielcdfcgpbiaaGreatDoorM2
import Derived.Test.YtaielcdfcgpbiaaGreatDoorM3
import Derived.Test.YtaielcdfcgpbiaaGreatDoorM4
import Derived.Test.YtaielcdfcgpbiaaGreatDoorM5
import Derived.Test.YtaielcdfcgpbiaaGreatDoorM6
set_option maxRecDepth 100000
set_option linter.all false
namespace Go.Proofs.YtaielcdfcgpbiaaGreatDoor
open Go.Ab
def ZX (i:Nat) (m:Int) (t:TS):Int×TS:=if isP [33] t then (m+2 ^ i,t.tail) else (m,t)
def zbe (n i:Nat) (t:TS):PR Unit:=if i<n then yr [93] t else .ok ((),t)
def tyL (n:Nat):Nat→Int→TS→PR Int
 | 0,m,t=>pb (zbe n 0 t) fun _ t=>.ok (ZX 0 m t)
 | i+1,m,t=>pb (zbe n (i+1) t) fun _ t=>tyL n i (ZX (i+1) m t).1 (ZX (i+1) m t).2
theorem zjF (n i:Nat) (t:TS):zbe (n+1) (i+1) t=zbe n i t:=by
 unfold zbe
 by_cases h:i<n
 ·rw[if_pos h,if_pos (by omega)]
 ·rw[if_neg h,if_neg (by omega)]
theorem zi9 (i:Nat) (m:Int) (t:TS):ZX (i+1) (m*2) t=((ZX i m t).1*2,(ZX i m t).2):=by
 unfold ZX
 split
 ·simp only[Al8,and_true];rw[Int.pow_succ];omega
 ·rfl
theorem zk6 (n:Nat):∀(i:Nat) (m:Int) (t:TS),tyL (n+1) (i+1) (m*2) t=pb (tyL n i m t) fun m t=>pb (yr [93] t) fun _ t=>.ok (ZX 0 (m*2) t)
 | 0,m,t=>by
  have e:∀(m:Int) (t:TS),tyL (n+1) 0 m t=pb (yr [93] t) fun _ t=>.ok (ZX 0 m t):=fun m t=>by rw[tyL,zbe,if_pos (Nat.succ_pos n)]
  have e1:tyL (n+1) (0+1) (m*2) t=pb (zbe n 0 t) fun _ t=>tyL (n+1) 0 (ZX (0+1) (m*2) t).1 (ZX (0+1) (m*2) t).2:=by conv=>lhs;rw[tyL,zjF]
  have e2:tyL n 0 m t=pb (zbe n 0 t) fun _ t=>.ok (ZX 0 m t):=by rw[tyL]
  rw[e1,e2]
  rcases zbe n 0 t with x|⟨_,t1⟩
  ·rfl
  ·simp only[zi]
   rw[zi9,e]
   rfl
 | i+1,m,t=>by
  have e1:tyL (n+1) (i+1+1) (m*2) t=pb (zbe n (i+1) t) fun _ t=>tyL (n+1) (i+1) (ZX (i+1+1) (m*2) t).1 (ZX (i+1+1) (m*2) t).2:=by conv=>lhs;rw[tyL,zjF]
  have e2:tyL n (i+1) m t=pb (zbe n (i+1) t) fun _ t=>tyL n i (ZX (i+1) m t).1 (ZX (i+1) m t).2:=by rw[tyL]
  rw[e1,e2]
  rcases zbe n (i+1) t with x|⟨_,t1⟩
  ·rfl
  ·simp only[zi]
   rw[zi9,zk6 n i]
theorem zd4:∀(n k:Nat) (u:TS),n≤k→isP [91] u=false→zac k (List.replicate n (pk [91])++u)=pb (z8 u) fun s t=>pb (tyL n n 0 t) fun m t=>.ok (⟨s,n,m⟩,t)
 | 0,k,u,_,hu=>by
  rw[List.replicate_zero,yW,Z0,zcy.eq_def,hu]
  simp only[Al7,if_false]
  rcases z8 u with x|⟨s,t⟩
  ·rfl
  ·simp only[zi,tyL,zbe,Nat.lt_irrefl,if_false]
   unfold zaB ZX
   cases isP [33] t<;>simp[pb]
 | n+1,0,u,h,_=>by omega
 | n+1,k+1,u,h,hu=>by
  rw[List.replicate_succ,Al6,Z0,zcy.eq_def,yf,ze8]
  simp only[decide_true,if_true,List.tail_cons]
  rw[zd4 n k u (by omega) hu]
  rcases z8 u with x|⟨s,t⟩
  ·rfl
  ·simp only[zi]
   have e:=zk6 n n 0 t
   rw[Int.zero_mul] at e
   rw[e]
   rcases tyL n n 0 t with x|⟨m,t1⟩
   ·rfl
   ·simp only[zi]
    rcases yr [93] t1 with x|⟨_,t2⟩
    ·rfl
    ·simp only[zi]
     unfold zaB ZX
     cases isP [33] t2<;>simp[pb]
def tyN (n:Nat):Nat→Int→TS→PR Int
 | 0,m,t=>.ok (m,t)
 | i+1,m,t=>tyL n i m t
theorem zly (n i:Nat) (m:Int) (t:TS):tyL n i m t=pb (zbe n i t) fun _ t=>tyN n i (ZX i m t).1 (ZX i m t).2:=by cases i<;>rfl
theorem zeF:∀(k:Nat) (u:TS),isP [91] u=true→zac k (List.replicate k (pk [91])++u)=.error 4
 | 0,u,hu=>by rw[List.replicate_zero,yW,Z0,zcy.eq_def,hu];rfl
 | k+1,u,hu=>by
  rw[List.replicate_succ,Al6,Z0,zcy.eq_def,yf,ze8]
  simp only[decide_true,if_true,List.tail_cons]
  rw[zeF k u hu];rfl
theorem zl5 {m:List UInt8} {t:TS} (h:isP m t=true):t=pk m::t.tail:=by
 have h2:=zcP (zdm h)
 simp only[isP,Al0,zn] at h
 rw[h2]
 congr 1
 cases hx:hdT t with|mk k s=>rw[hx] at h;simp only at h;rw[h.1,h.2];rfl
theorem zjb (n:Nat) (x:Tok) (u:TS):List.replicate n x++x::u=List.replicate (n+1) x++u:=by
 rw[List.replicate_succ',Yh];rfl
theorem zmJ:∀ i:Fin 5,∀ m:Fin 32,m.val % 2 ^ (i.val+1)=0→IntKind.wrap .i64 ((BitVec.ofInt IntKind.i64.bits ((m.val:Nat):Int) ||| BitVec.ofInt IntKind.i64.bits (((2 ^ i.val:Nat)):Int)).toNat:Int)=((m.val+2 ^ i.val:Nat):Int):=by decide +kernel
theorem zmm:∀ i:Fin 5,IntKind.wrap .i64 (1*2 ^ min i.val IntKind.i64.bits)=((2 ^ i.val:Nat):Int):=by decide +kernel
theorem zk5:∀ i:Fin 5,∀ m:Fin 32,m.val % 2 ^ (i.val+1)=0→m.val+2 ^ i.val<32∧(m.val+2 ^ i.val) % 2 ^ i.val=0:=by decide +kernel
abbrev zT:List AV:=[.str [],.int .i64 0,.int .i64 0]
theorem zl4 {H:Heap} {r:Nat} {L p t:TS} {dp:Nat} (hs:p++t=L) (hl:wT L≤zH) (hr:H r=some (prc L p dp)) :
  ACalls Tryz.prog 38 [.ptr r 0] H (RpE H r L dp (zac 4 t) (fun x=>.agg (cTy x))):=by
 refine ym (ACalls.goO (R:=fun v H'=>za5 H r L dp (zac 4 t) (fun x=>.agg (cTy x)) v.strip H') (RP:=fun v H'=>zbl (zac 4 t) v H') ir38 ck38 (Al4 _) fun KP Q hQ hP=>?_)
 have hll:L.length≤zH:=Nat.le_trans (zdy L) hl
 have hll2:=hll
 simp only[zH] at hll2
 have pan:∀(v:AV) (H1:Heap) (n:Int),v=yh n→zac 4 t=.error n→KP v H1:=fun v H1 n h1 h2=>hP v H1 H1 (Low.refl _) ⟨n,h2,h1⟩
 have fin:=KI.done hQ
 have K0:=KI.start hs hr
 simp(disch:=first|omega|assumption) only[ir38,steps,st2,pev,rev,oev,optr,ibin,sbin,ishf,bound,mmAll,mm2,mk,mkArgs,AV.cells,AV.boxable,AV.one,AV.strip1,fillA,fillS,Nat.reduceEqDiff,reduceCtorEq,↓reduceIte,Nat.reduceAdd,Int.reduceNeg,Nat.reduceLeDiff,Int.reduceToNat,Int.reduceEq,Int.reduceLT,Int.reduceLE,Int.reduceAdd,Io,Im,If,Il,Jt,Jf,AC.rg,Jm,Jl,Ja,Fm,Fl,Fa,Imv,Imb,Iai,Iei,Igi,Isi,Ipf,Ipt,Ilb,Iia,Ilt,Iap,Ink,Iln,Ils,Iad,Iex,Ibx,Ing]
 refine goA_intro fun b2 hb2=>?_
 have n2:=K0.ne hb2
 have n2s:=Ne.symm n2
 have K1:=K0.box (x:=.cells zT) hb2
 simp(disch:=first|omega|assumption) only[steps,st2,pev,rev,oev,optr,ibin,sbin,ishf,bound,mmAll,mm2,mk,mkArgs,AV.cells,AV.boxable,AV.one,AV.strip1,fillA,fillS,Nat.reduceEqDiff,reduceCtorEq,↓reduceIte,Nat.reduceAdd,Int.reduceNeg,Nat.reduceLeDiff,Int.reduceToNat,Int.reduceEq,Int.reduceLT,Int.reduceLE,Int.reduceAdd]
 refine goL_st (fun x:Nat×TS=>[(3,.int .i64 (x.1:Int))]) (fun x H'=>KI H r L x.2 dp H'∧H' b2=some (.cells zT)∧x.1≤4∧t=List.replicate x.1 (pk [91])++x.2) (fun x=>x.2.length) (0,t) (by simp(disch:=first|omega|assumption) only[steps,st2,pev,rev,oev,optr,ibin,sbin,ishf,bound,mmAll,mm2,mk,mkArgs,AV.cells,AV.boxable,AV.one,AV.strip1,fillA,fillS,Nat.reduceEqDiff,reduceCtorEq,↓reduceIte,Nat.reduceAdd,Int.reduceNeg,Nat.reduceLeDiff,Int.reduceToNat,Int.reduceEq,Int.reduceLT,Int.reduceLE,Int.reduceAdd]) ⟨K1,upd_same ..,Nat.zero_le _,rfl⟩ ?_
 rintro⟨n,u⟩ H1 J ⟨K2,g2,hn4,htu⟩ hJ
 simp only at K2 g2 hn4 htu
 obtain⟨p2,hp2,hr2⟩:=K2.here
 have hpl2:p2.length+u.length=L.length:=by rw[← hp2];simp
 have hr2':=hr2
 simp only[prc] at hr2'
 simp(disch:=first|omega|assumption) only[steps,st2,pev,rev,oev,optr,ibin,sbin,ishf,bound,mmAll,mm2,mk,mkArgs,AV.cells,AV.boxable,AV.one,AV.strip1,fillA,fillS,Nat.reduceEqDiff,reduceCtorEq,↓reduceIte,Nat.reduceAdd,Int.reduceNeg,Nat.reduceLeDiff,Int.reduceToNat,Int.reduceEq,Int.reduceLT,Int.reduceLE,Int.reduceAdd]
 refine goK_ret (zlx hp2 hr2 [91]) fun v H2 ⟨hv2,hH⟩=>?_
 subst hv2;subst hH
 cases hi:isP [91] u with
 | true =>
  by_cases h4:n=4
  ·have h4':((n:Int)=4)=True:=eq_true (by omega)
   simp(disch:=first|omega|assumption) only[h4',steps,st2,pev,rev,oev,optr,ibin,sbin,ishf,bound,mmAll,mm2,mk,mkArgs,AV.cells,AV.boxable,AV.one,AV.strip1,fillA,fillS,Nat.reduceEqDiff,reduceCtorEq,↓reduceIte,Nat.reduceAdd,Int.reduceNeg,Nat.reduceLeDiff,Int.reduceToNat,Int.reduceEq,Int.reduceLT,Int.reduceLE,Int.reduceAdd]
   exact goK_both (zak _ r 4) (fun _ _ h=>h.elim) fun v H3 h=>pan v H3 4 h (by rw[htu,h4];exact zeF 4 u hi)
  ·have h4':¬ ((n:Int)=4):=by omega
   have hlt:=zcJ hi
   simp(disch:=first|omega|assumption) only[h4',hr2',wrap64,steps,st2,pev,rev,oev,optr,ibin,sbin,ishf,bound,mmAll,mm2,mk,mkArgs,AV.cells,AV.boxable,AV.one,AV.strip1,fillA,fillS,Nat.reduceEqDiff,reduceCtorEq,↓reduceIte,Nat.reduceAdd,Int.reduceNeg,Nat.reduceLeDiff,Int.reduceToNat,Int.reduceEq,Int.reduceLT,Int.reduceLE,Int.reduceAdd]
   refine goJ (hJ (n+1,u.tail) _ hlt ⟨K2.call (Yb hp2 (zdm hi) _),by rw[upd_ne n2s];exact g2,by simp only;omega,?_⟩) (by simp(disch:=first|omega|assumption) only[Int.natCast_add,steps,st2,pev,rev,oev,optr,ibin,sbin,ishf,bound,mmAll,mm2,mk,mkArgs,AV.cells,AV.boxable,AV.one,AV.strip1,fillA,fillS,Nat.reduceEqDiff,reduceCtorEq,↓reduceIte,Nat.reduceAdd,Int.reduceNeg,Nat.reduceLeDiff,Int.reduceToNat,Int.reduceEq,Int.reduceLT,Int.reduceLE,Int.reduceAdd])
   simp only
   rw[← zjb,← zl5 hi];exact htu
 | false =>
  have hx:zac 4 t=pb (z8 u) fun s t=>pb (tyL n n 0 t) fun m t=>.ok (⟨s,n,m⟩,t):=by rw[htu];exact zd4 n 4 u hn4 hi
  simp(disch:=first|omega|assumption) only[steps,st2,pev,rev,oev,optr,ibin,sbin,ishf,bound,mmAll,mm2,mk,mkArgs,AV.cells,AV.boxable,AV.one,AV.strip1,fillA,fillS,Nat.reduceEqDiff,reduceCtorEq,↓reduceIte,Nat.reduceAdd,Int.reduceNeg,Nat.reduceLeDiff,Int.reduceToNat,Int.reduceEq,Int.reduceLT,Int.reduceLE,Int.reduceAdd]
  refine goK_both (zdB hp2 hll hr2) (fun v H3 ⟨s,t3,e3,hv3,ha3⟩=>?_) fun v H3 ⟨n3,e3,hv3⟩=>pan v H3 n3 hv3 (by rw[hx,e3];rfl)
  subst hv3
  rw[e3,zi] at hx
  have K3:=K2.call ha3
  have g32:H3 b2=some (.cells zT):=by rw[ha3.other n2s,g2]
  simp(disch:=first|omega|assumption) only[steps,st2,pev,rev,oev,optr,ibin,sbin,ishf,bound,mmAll,mm2,mk,mkArgs,AV.cells,AV.boxable,AV.one,AV.strip1,fillA,fillS,Nat.reduceEqDiff,reduceCtorEq,↓reduceIte,Nat.reduceAdd,Int.reduceNeg,Nat.reduceLeDiff,Int.reduceToNat,Int.reduceEq,Int.reduceLT,Int.reduceLE,Int.reduceAdd]
  refine goA_intro fun b4 hb4=>?_
  have h42:b4≠b2:=fun e=>by subst e;rw[g32] at hb4;cases hb4
  have hb4H:H b4=none:=K3.none hb4
  have n4:=K0.ne hb4H
  have n4s:=Ne.symm n4
  have K4:=K3.box (x:=.cells [.str s,.int .i64 (n:Int),.int .i64 0]) hb4H
  obtain⟨R,hR⟩:∃ R,tyL n n 0 t3=R:=⟨_,rfl⟩
  rw[hR] at hx
  simp(disch:=first|omega|assumption) only[steps,st2,pev,rev,oev,optr,ibin,sbin,ishf,bound,mmAll,mm2,mk,mkArgs,AV.cells,AV.boxable,AV.one,AV.strip1,fillA,fillS,Nat.reduceEqDiff,reduceCtorEq,↓reduceIte,Nat.reduceAdd,Int.reduceNeg,Nat.reduceLeDiff,Int.reduceToNat,Int.reduceEq,Int.reduceLT,Int.reduceLE,Int.reduceAdd]
  have hj0:((n:Int):Int)=(((n+1:Nat):Int)-1):=by omega
  refine goL_st (fun x:Nat×Nat×TS=>[(5,.int .i64 ((x.1:Int)-1))]) (fun x H'=>KI H r L x.2.2 dp H'∧H' b2=some (.cells zT)∧H' b4=some (.cells [.str s,.int .i64 (n:Int),.int .i64 (x.2.1:Int)])∧x.1≤n+1∧x.2.1<32∧x.2.1 % 2 ^ x.1=0∧tyN n x.1 (x.2.1:Int) x.2.2=R) (fun x=>x.1) (n+1,0,t3) (by rw[← hj0];simp(disch:=first|omega|assumption) only[steps,st2,pev,rev,oev,optr,ibin,sbin,ishf,bound,mmAll,mm2,mk,mkArgs,AV.cells,AV.boxable,AV.one,AV.strip1,fillA,fillS,Nat.reduceEqDiff,reduceCtorEq,↓reduceIte,Nat.reduceAdd,Int.reduceNeg,Nat.reduceLeDiff,Int.reduceToNat,Int.reduceEq,Int.reduceLT,Int.reduceLE,Int.reduceAdd]) ⟨K4,by rw[upd_ne (Ne.symm h42)];exact g32,upd_same ..,Al4 _,by show 0<32;decide,Nat.zero_mod _,hR⟩ ?_
  rintro⟨j,m,u5⟩ H5 J5 ⟨K5,g52,g54,hj,hm,hmd,he⟩ hJ5
  simp only at K5 g52 g54 hj hm hmd he
  obtain⟨p5,hp5,hr5⟩:=K5.here
  cases j with
  | zero =>
   have hneg:¬ ((0:Int)≤-1):=by decide
   have hz1:(0:Int)-1=-1:=rfl
   have e1:R=.ok ((m:Int),u5):=he.symm
   simp only[zT] at g52
   simp(disch:=first|omega|assumption) only[hz1,hneg,g52,g54,h42,Ne.symm h42,steps,st2,pev,rev,oev,optr,ibin,sbin,ishf,bound,mmAll,mm2,mk,mkArgs,AV.cells,AV.boxable,AV.one,AV.strip1,fillA,fillS,Nat.reduceEqDiff,reduceCtorEq,↓reduceIte,Nat.reduceAdd,Int.reduceNeg,Nat.reduceLeDiff,Int.reduceToNat,Int.reduceEq,Int.reduceLT,Int.reduceLE,Int.reduceAdd]
   exact fin _ _ [.agg [.str s,.int .i64 (n:Int),.int .i64 (m:Int)]] ⟨s,n,m⟩ u5 (by simp(disch:=first|omega|assumption) only[ir38,resvs,resv,steps,st2,pev,rev,oev,optr,ibin,sbin,ishf,bound,mmAll,mm2,mk,mkArgs,AV.cells,AV.boxable,AV.one,AV.strip1,fillA,fillS,Nat.reduceEqDiff,reduceCtorEq,↓reduceIte,Nat.reduceAdd,Int.reduceNeg,Nat.reduceLeDiff,Int.reduceToNat,Int.reduceEq,Int.reduceLT,Int.reduceLE,Int.reduceAdd,Io,Im,If,Il,Jt,Jf,AC.rg,Jm,Jl,Ja,Fm,Fl,Fa,Imv,Imb,Iai,Iei,Igi,Isi,Ipf,Ipt,Ilb,Iia,Ilt,Iap,Ink,Iln,Ils,Iad,Iex,Ibx,Ing]) (by rw[hx,e1];rfl) (K5.box hb2) (by simp[tupOf,AV.strip,AV.strip1,cTy])
  | succ i =>
   have hge:((0:Int)≤(((i+1:Nat):Int)-1))=True:=eq_true (by omega)
   have hi5:(((i+1:Nat):Int)-1)=(i:Int):=by omega
   have e1:tyL n i (m:Int) u5=R:=he
   rw[zly,zbe] at e1
   by_cases hin:i<n
   ·have hin':((i:Int)<(n:Int))=True:=eq_true (by omega)
    rw[if_pos hin] at e1
    simp(disch:=first|omega|assumption) only[hge,hi5,hin',steps,st2,pev,rev,oev,optr,ibin,sbin,ishf,bound,mmAll,mm2,mk,mkArgs,AV.cells,AV.boxable,AV.one,AV.strip1,fillA,fillS,Nat.reduceEqDiff,reduceCtorEq,↓reduceIte,Nat.reduceAdd,Int.reduceNeg,Nat.reduceLeDiff,Int.reduceToNat,Int.reduceEq,Int.reduceLT,Int.reduceLE,Int.reduceAdd]
    refine goK_both (zff hp5 hll hr5 [93]) (fun v H6 ⟨_,t6,e6,hv6,ha6⟩=>?_) fun v H6 ⟨n6,e6,hv6⟩=>pan v H6 n6 hv6 (by rw[hx,← e1,e6];rfl)
    subst hv6
    rw[e6,zi] at e1
    have K6:=K5.call ha6
    have g62:H6 b2=some (.cells zT):=by rw[ha6.other n2s,g52]
    have g64:H6 b4=some (.cells [.str s,.int .i64 (n:Int),.int .i64 (m:Int)]):=by rw[ha6.other n4s,g54]
    obtain⟨p6,hp6,hr6⟩:=K6.here
    simp(disch:=first|omega|assumption) only[steps,st2,pev,rev,oev,optr,ibin,sbin,ishf,bound,mmAll,mm2,mk,mkArgs,AV.cells,AV.boxable,AV.one,AV.strip1,fillA,fillS,Nat.reduceEqDiff,reduceCtorEq,↓reduceIte,Nat.reduceAdd,Int.reduceNeg,Nat.reduceLeDiff,Int.reduceToNat,Int.reduceEq,Int.reduceLT,Int.reduceLE,Int.reduceAdd]
    refine goK_ret (zbb hp6 hll hr6 [33]) fun v H7 ⟨hv7,ha7⟩=>?_
    subst hv7
    have g72:H7 b2=some (.cells zT):=by rw[ha7.other n2s,g62]
    have g74:H7 b4=some (.cells [.str s,.int .i64 (n:Int),.int .i64 (m:Int)]):=by rw[ha7.other n4s,g64]
    have K7:=K6.call ha7
    cases hb:isP [33] t6 with
    | true =>
     simp only[ZX,hb,if_true] at e1
     rw[Zb,hb,if_pos rfl] at K7
     have ho:=zmJ ⟨i,by omega⟩ ⟨m,hm⟩ hmd
     have hob:=zk5 ⟨i,by omega⟩ ⟨m,hm⟩ hmd
     have hsh:=zmm ⟨i,by omega⟩
     simp only at ho hob hsh
     have hi0:¬ ((i:Int)<0):=by omega
     simp(disch:=first|omega|assumption) only[g74,hi0,hsh,ho,steps,st2,pev,rev,oev,optr,ibin,sbin,ishf,bound,mmAll,mm2,mk,mkArgs,AV.cells,AV.boxable,AV.one,AV.strip1,fillA,fillS,Nat.reduceEqDiff,reduceCtorEq,↓reduceIte,Nat.reduceAdd,Int.reduceNeg,Nat.reduceLeDiff,Int.reduceToNat,Int.reduceEq,Int.reduceLT,Int.reduceLE,Int.reduceAdd]
     refine goJ (hJ5 (i,m+2 ^ i,t6.tail) _ (Nat.lt_succ_self _) ⟨K7.box hb4H,by rw[upd_ne (Ne.symm h42)];exact g72,upd_same ..,by simp only;omega,hob.1,hob.2,by simp only;rw[← e1];simp⟩) (by simp(disch:=first|omega|assumption) only[wrap64,steps,st2,pev,rev,oev,optr,ibin,sbin,ishf,bound,mmAll,mm2,mk,mkArgs,AV.cells,AV.boxable,AV.one,AV.strip1,fillA,fillS,Nat.reduceEqDiff,reduceCtorEq,↓reduceIte,Nat.reduceAdd,Int.reduceNeg,Nat.reduceLeDiff,Int.reduceToNat,Int.reduceEq,Int.reduceLT,Int.reduceLE,Int.reduceAdd])
    | false =>
     simp only[ZX,hb,Al7,if_false] at e1
     rw[Zb,hb] at K7
     simp only[Al7,if_false] at K7
     have hmd2:m % 2 ^ i=0:=by
      have h3:2 ^ i∣2 ^ (i+1):=⟨2,by rw[Nat.pow_succ]⟩
      exact Nat.mod_eq_zero_of_dvd (Nat.dvd_trans h3 (Nat.dvd_of_mod_eq_zero hmd))
     simp(disch:=first|omega|assumption) only[steps,st2,pev,rev,oev,optr,ibin,sbin,ishf,bound,mmAll,mm2,mk,mkArgs,AV.cells,AV.boxable,AV.one,AV.strip1,fillA,fillS,Nat.reduceEqDiff,reduceCtorEq,↓reduceIte,Nat.reduceAdd,Int.reduceNeg,Nat.reduceLeDiff,Int.reduceToNat,Int.reduceEq,Int.reduceLT,Int.reduceLE,Int.reduceAdd]
     refine goJ (hJ5 (i,m,t6) _ (Nat.lt_succ_self _) ⟨K7,g72,g74,by simp only;omega,hm,hmd2,e1⟩) (by simp(disch:=first|omega|assumption) only[wrap64,steps,st2,pev,rev,oev,optr,ibin,sbin,ishf,bound,mmAll,mm2,mk,mkArgs,AV.cells,AV.boxable,AV.one,AV.strip1,fillA,fillS,Nat.reduceEqDiff,reduceCtorEq,↓reduceIte,Nat.reduceAdd,Int.reduceNeg,Nat.reduceLeDiff,Int.reduceToNat,Int.reduceEq,Int.reduceLT,Int.reduceLE,Int.reduceAdd])
   ·have hin':¬ ((i:Int)<(n:Int)):=by omega
    rw[if_neg hin,zi] at e1
    simp(disch:=first|omega|assumption) only[hge,hi5,hin',steps,st2,pev,rev,oev,optr,ibin,sbin,ishf,bound,mmAll,mm2,mk,mkArgs,AV.cells,AV.boxable,AV.one,AV.strip1,fillA,fillS,Nat.reduceEqDiff,reduceCtorEq,↓reduceIte,Nat.reduceAdd,Int.reduceNeg,Nat.reduceLeDiff,Int.reduceToNat,Int.reduceEq,Int.reduceLT,Int.reduceLE,Int.reduceAdd]
    refine goK_ret (zbb hp5 hll hr5 [33]) fun v H7 ⟨hv7,ha7⟩=>?_
    subst hv7
    have g72:H7 b2=some (.cells zT):=by rw[ha7.other n2s,g52]
    have g74:H7 b4=some (.cells [.str s,.int .i64 (n:Int),.int .i64 (m:Int)]):=by rw[ha7.other n4s,g54]
    have K7:=K5.call ha7
    cases hb:isP [33] u5 with
    | true =>
     simp only[ZX,hb,if_true] at e1
     rw[Zb,hb,if_pos rfl] at K7
     have ho:=zmJ ⟨i,by omega⟩ ⟨m,hm⟩ hmd
     have hob:=zk5 ⟨i,by omega⟩ ⟨m,hm⟩ hmd
     have hsh:=zmm ⟨i,by omega⟩
     simp only at ho hob hsh
     have hi0:¬ ((i:Int)<0):=by omega
     simp(disch:=first|omega|assumption) only[g74,hi0,hsh,ho,steps,st2,pev,rev,oev,optr,ibin,sbin,ishf,bound,mmAll,mm2,mk,mkArgs,AV.cells,AV.boxable,AV.one,AV.strip1,fillA,fillS,Nat.reduceEqDiff,reduceCtorEq,↓reduceIte,Nat.reduceAdd,Int.reduceNeg,Nat.reduceLeDiff,Int.reduceToNat,Int.reduceEq,Int.reduceLT,Int.reduceLE,Int.reduceAdd]
     refine goJ (hJ5 (i,m+2 ^ i,u5.tail) _ (Nat.lt_succ_self _) ⟨K7.box hb4H,by rw[upd_ne (Ne.symm h42)];exact g72,upd_same ..,by simp only;omega,hob.1,hob.2,by simp only;rw[← e1];simp⟩) (by simp(disch:=first|omega|assumption) only[wrap64,steps,st2,pev,rev,oev,optr,ibin,sbin,ishf,bound,mmAll,mm2,mk,mkArgs,AV.cells,AV.boxable,AV.one,AV.strip1,fillA,fillS,Nat.reduceEqDiff,reduceCtorEq,↓reduceIte,Nat.reduceAdd,Int.reduceNeg,Nat.reduceLeDiff,Int.reduceToNat,Int.reduceEq,Int.reduceLT,Int.reduceLE,Int.reduceAdd])
    | false =>
     simp only[ZX,hb,Al7,if_false] at e1
     rw[Zb,hb] at K7
     simp only[Al7,if_false] at K7
     have hmd2:m % 2 ^ i=0:=by
      have h3:2 ^ i∣2 ^ (i+1):=⟨2,by rw[Nat.pow_succ]⟩
      exact Nat.mod_eq_zero_of_dvd (Nat.dvd_trans h3 (Nat.dvd_of_mod_eq_zero hmd))
     simp(disch:=first|omega|assumption) only[steps,st2,pev,rev,oev,optr,ibin,sbin,ishf,bound,mmAll,mm2,mk,mkArgs,AV.cells,AV.boxable,AV.one,AV.strip1,fillA,fillS,Nat.reduceEqDiff,reduceCtorEq,↓reduceIte,Nat.reduceAdd,Int.reduceNeg,Nat.reduceLeDiff,Int.reduceToNat,Int.reduceEq,Int.reduceLT,Int.reduceLE,Int.reduceAdd]
     refine goJ (hJ5 (i,m,u5) _ (Nat.lt_succ_self _) ⟨K7,g72,g74,by simp only;omega,hm,hmd2,e1⟩) (by simp(disch:=first|omega|assumption) only[wrap64,steps,st2,pev,rev,oev,optr,ibin,sbin,ishf,bound,mmAll,mm2,mk,mkArgs,AV.cells,AV.boxable,AV.one,AV.strip1,fillA,fillS,Nat.reduceEqDiff,reduceCtorEq,↓reduceIte,Nat.reduceAdd,Int.reduceNeg,Nat.reduceLeDiff,Int.reduceToNat,Int.reduceEq,Int.reduceLT,Int.reduceLE,Int.reduceAdd])
theorem zga (a b c d e f g h i j:AV) (v:Val):splice [a,b,c,d,e,f,g,h,i,j] 5 (cV v)=a::b::c::d::e::cV v:=by cases v;rfl
theorem zlA (a b c d e:AV) (v:Val):(a::b::c::d::e::cV v).take 10=a::b::c::d::e::cV v:=by cases v;rfl
theorem zg5 (a b c d e:AV) (v:Val):(a::b::c::d::e::cV v).length=10:=by cases v;rfl
theorem zdW (a b c d e f g h i j a' b' c' d' e':AV) (v:Val):splice [a,b,c,d,e,f,g,h,i,j] 0 (a'::b'::c'::d'::e'::cV v)=a'::b'::c'::d'::e'::cV v:=by cases v;rfl
abbrev zW:List AV:=[.str [],.str [],.int .i64 0,.int .i64 0,.bool false,.int .i64 0,.int .i64 0,.str [],.sl .nil 5 [],.sl .nil 6 []]
open Go.Lib
theorem zfu {P:UInt8→Bool} (h:(List.range 256).all (fun n=>P (UInt8.ofNat n))=true) (c:UInt8):P c=true:=by
 have h1:=yJ.1 h c.toNat (List.mem_range.2 (UInt8.toNat_lt c))
 simpa using h1
def zao (c:UInt8):Bool:=decide (0≤Lib.indexByte zau c)
def spB (c:UInt8):Bool:=decide (c=9∨c=10∨c=13∨c=32∨c=44)||decide (c=239)||decide (c=35)
theorem zf4 (c:UInt8):(!zao c||(!(decide (c=34))&&(!(decide (c=46))&&(!(isL c)&&(!(isD c)&&(!(decide (c=45))&&(!(spB c)&&decide (32≤c.toNat∧c.toNat<128))))))))=true:=zfu (P:=fun c=>(!zao c||(!(decide (c=34))&&(!(decide (c=46))&&(!(isL c)&&(!(isD c)&&(!(decide (c=45))&&(!(spB c)&&decide (32≤c.toNat∧c.toNat<128))))))))) (by decide +kernel) c
theorem zfK (c:UInt8):(!isL c||(!(decide (c=34))&&(!(decide (c=46))&&(!(zao c)&&(!(isD c)&&(!(decide (c=45))&&(!(spB c)&&decide (32≤c.toNat∧c.toNat<128))))))))=true:=zfu (P:=fun c=>(!isL c||(!(decide (c=34))&&(!(decide (c=46))&&(!(zao c)&&(!(isD c)&&(!(decide (c=45))&&(!(spB c)&&decide (32≤c.toNat∧c.toNat<128))))))))) (by decide +kernel) c
theorem zer (c:UInt8):(!(isD c||decide (c=45))||(!(decide (c=34))&&(!(decide (c=46))&&(!(zao c)&&(!(isL c)&&(!(spB c)&&decide (32≤c.toNat∧c.toNat<128)))))))=true:=zfu (P:=fun c=>(!(isD c||decide (c=45))||(!(decide (c=34))&&(!(decide (c=46))&&(!(zao c)&&(!(isL c)&&(!(spB c)&&decide (32≤c.toNat∧c.toNat<128)))))))) (by decide +kernel) c
theorem zce {c:UInt8} (h:c≠34) (r:List UInt8):zD.isPrefixOf (c::r)=false:=by
 simp[zD,List.isPrefixOf];intro h2;exact absurd h2.symm h
theorem zcS {c:UInt8} (h:c≠46) (r:List UInt8):y7.isPrefixOf (c::r)=false:=by
 simp[y7,List.isPrefixOf];intro h2;exact absurd h2.symm h
theorem zkM {c:UInt8} (h:c≠239) (r:List UInt8):zfj.isPrefixOf (c::r)=false:=by
 simp[zfj,List.isPrefixOf];intro h2;exact absurd h2.symm h
theorem zcG {c:UInt8} (h:spB c=false) (r:List UInt8):Ze (c::r)=0:=by
 simp only[spB,Bool.or_eq_false_iff,decide_eq_false_iff_not] at h
 simp only[Ze]
 rw[if_neg h.1.1,zkM h.1.2,if_neg h.2];simp
theorem zjn {r:List UInt8} (h:zb2 r):(r.head?.any fun d=>isL d||isD d||decide (d=46))=false:=by
 rcases h with rfl|⟨c,t,rfl,rfl|rfl⟩
 ·rfl
 all_goals simp[isL,isD]
theorem zez {p:UInt8→Bool} {r:List UInt8} (h10:p 10=false) (h32:p 32=false) (h:zb2 r):∀ s:List UInt8,(s++r).takeWhile p=s.takeWhile p
 | []=>by
  rcases h with rfl|⟨c,t,rfl,rfl|rfl⟩
  ·rfl
  ·simp[h32]
  ·simp[h10]
 | c::s=>by
  simp only[Al6,List.takeWhile_cons]
  split
  ·rw[zez h10 h32 h s]
  ·rfl
theorem zb9 {p:UInt8→Bool}:∀ s:List UInt8,(∀ c∈s,p c=true)→s.takeWhile p=s
 | [],_=>rfl
 | c::s,h=>by
  simp only[List.takeWhile_cons,h c (.head _),if_true]
  rw[zb9 s fun d hd=>h d (.tail _ hd)]
theorem zd9 (s:List UInt8) {r:List UInt8} (h:zb2 r):yk (s++r)=yk s:=by
 unfold yk;rw[zez (by decide) (by decide) h s]
theorem zcm:∀(s:List UInt8) (i:Nat),za9 s i=true→∀ c∈s,(isL c||isD c)=true
 | [],_,_=>fun c hc=>nomatch hc
 | c::r,i,h=>by
  simp only[za9] at h
  split at h
  ·rename_i h1
   have h2:=zcm r (i+1) h
   intro d hd
   rcases List.mem_cons.1 hd with rfl|hd
   ·simp only[YG,Al0] at h1 ⊢
    exact h1.imp id fun x=>x.2
   ·exact h2 d hd
  ·cases h
theorem zii {c:UInt8} {r:List UInt8} (h:zq (c::r)=true):isL c=true∧∀ d∈c::r,(isL d||isD d)=true:=by
 simp only[zq,Al0] at h
 refine⟨?_,zcm _ _ h.1⟩
 have:=h.1
 simp only[za9] at this
 split at this
 ·rename_i h1;simpa using h1
 ·cases this
theorem zgj {c:UInt8} (h:isL c=true) (r:List UInt8):yt (c::r)=some (⟨2,(c::r).take (yk (c::r))⟩,(c::r).drop (yk (c::r))):=by
 have h1:=zfK c
 simp only[h,Bool.not_true,Bool.false_or,Al0,Bool.not_eq_true',decide_eq_false_iff_not,zn] at h1
 obtain⟨a1,a2,a3,_⟩:=h1
 simp only[zao,decide_eq_false_iff_not] at a3
 simp only[yt]
 rw[zce a1,zcS a2,if_neg a1,if_neg a3,if_pos h];simp
theorem zgM {c:UInt8} (h:isL c=true) (r:List UInt8):Ze (c::r)=0:=by
 have h1:=zfK c
 simp only[h,Bool.not_true,Bool.false_or,Al0,Bool.not_eq_true'] at h1
 exact zcG h1.2.2.2.2.2.1 r
theorem zf2 {c:UInt8} (h:(isD c||decide (c=45))=true) (r:List UInt8):yt (c::r)=(if (z1 (c::r)).1=0 then none
  else if ((c::r).drop (z1 (c::r)).1).head?.any fun d=>isL d||isD d||decide (d=46) then none
  else some (⟨(z1 (c::r)).2,(c::r).take (z1 (c::r)).1⟩,(c::r).drop (z1 (c::r)).1)):=by
 have h1:=zer c
 simp only[h,Bool.not_true,Bool.false_or,Al0,Bool.not_eq_true',decide_eq_false_iff_not,zn] at h1
 obtain⟨a1,a2,a3,a4,_⟩:=h1
 simp only[zao,decide_eq_false_iff_not] at a3
 simp only[yt]
 rw[zce a1,zcS a2,if_neg a1,if_neg a3,a4];simp
theorem zgJ {c:UInt8} (h:(isD c||decide (c=45))=true) (r:List UInt8):Ze (c::r)=0:=by
 have h1:=zer c
 simp only[h,Bool.not_true,Bool.false_or,Al0,Bool.not_eq_true'] at h1
 exact zcG h1.2.2.2.2.1 r
theorem zgm {c:UInt8} {r:List UInt8} (h:zo (c::r)≠0):(isD c||decide (c=45))=true:=by
 by_cases hc:c=45
 ·simp[hc]
 ·rw[Zu (s:=c::r) (by simp[hc])] at h
  unfold ZH at h
  have h2:zA (c::r)≠0:=fun e=>h (by rw[if_pos e])
  simp only[zA] at h2
  split at h2
  ·rename_i h3;simp[h3]
  ·exact absurd rfl h2
theorem zil {s:List UInt8} (h:(z1 s).1≠0):zo s≠0:=fun e=>h (by unfold z1;rw[if_pos e])
theorem zhe {l:List UInt8} {c k:Nat} (h:DecOk l c k) (hc:c=(zk l).1):∀ t,(yy c (l.take k)++t).head?≠some 34∧yy c (l.take k)≠[]:=by
 intro t
 have hpos:=h.pos
 have hlen:=h.len
 unfold yy
 repeat' split
 ·simp
 ·simp
 ·simp[yl]
 ·simp[yl]
 ·rename_i h1 h2 h3 h4
  cases l with
  | nil=>simp at hlen;omega
  | cons b r =>
   obtain⟨m,rfl⟩:∃ m,k=m+1:=⟨k-1,by omega⟩
   simp only[zbi,Al6,List.head?_cons,ne_eq,Al1]
   refine⟨fun e=>?_,by simp⟩
   subst e
   by_cases hk:m+1=1
   ·have:=(h.one hk).1
    simp at this
    omega
   ·have:=h.high hk 34 (by simp)
    simp at this
theorem zgK {s:List UInt8} (hv:validD s=true) (hne:s≠[]) (n:Nat) (hn:s.length≤n) (t:List UInt8):(yq n s++t).head?≠some 34:=by
 cases n with
 | zero=>exact absurd (Za.1 (by omega)) hne
 | succ n =>
  simp only[yq,if_neg hne,Yh]
  exact(zhe (ZG hne hv).1 rfl _).1
theorem ziB (s r:List UInt8) (hv:validD s=true) (hr:zb2 r):zD.isPrefixOf (34::(yq s.length s++34::r))=false:=by
 by_cases hs:s=[]
 ·subst hs
  simp only[yq,yW,Al3]
  rcases hr with rfl|⟨c,t,rfl,rfl|rfl⟩<;>simp[zD,List.isPrefixOf]
 ·have h:=zgK hv hs s.length (Al4 _) (34::r)
  cases hx:yq s.length s++34::r with
  | nil=>simp[zD,List.isPrefixOf]
  | cons c t =>
   rw[hx] at h
   simp only[List.head?_cons,ne_eq,Al1] at h
   simp[zD,List.isPrefixOf]
   intro e
   exact absurd e.symm h
theorem zgb (x:Tok) (hx:zj x=true) {r:List UInt8} (hr:zb2 r):yt (ZI x++r)=some (x,r)∧Ze (ZI x++r)=0∧ZI x≠[]:=by
 obtain⟨k,s⟩:=x
 unfold zj at hx
 simp only at hx
 by_cases h1:k=1
 ·subst h1
  simp only[if_true,YG,zn] at hx
  simp only[ZI,show ¬ ((1:Int)=5) by decide,if_false]
  rcases hx with rfl|hx
  ·refine⟨?_,?_,by simp[y7]⟩
   ·simp[y7,yt,zD,List.isPrefixOf]
   ·simp[y7,Ze,zfj,List.isPrefixOf]
  ·cases s with
   | nil=>cases hx
   | cons c t =>
    cases t with
    | cons d t=>cases hx
    | nil =>
     have h1:=zf4 c
     have hm:zao c=true:=hx
     simp only[hm,Bool.not_true,Bool.false_or,Al0,Bool.not_eq_true',decide_eq_false_iff_not,zn] at h1
     obtain⟨a1,a2,a3,a4,a5,a6,_⟩:=h1
     simp only[zao,zn] at hm
     refine⟨?_,?_,by simp⟩
     ·simp only[Al6,yW,yt]
      rw[zce a1,zcS a2,if_neg a1,if_pos hm];simp
     ·exact zcG a6 r
 rw[if_neg h1] at hx
 by_cases h2:k=2
 ·subst h2
  simp only[if_true] at hx
  simp only[ZI,show ¬ ((2:Int)=5) by decide,if_false]
  cases s with
  | nil=>simp[zq,za9] at hx
  | cons c t =>
   obtain⟨g1,g2⟩:=zii hx
   have hw:yk (c::t++r)=(c::t).length:=by rw[zd9 (c::t) hr];unfold yk;rw[zb9 _ g2]
   refine⟨?_,zgM g1 _,by simp⟩
   rw[Al6,zgj g1,← Al6,hw,List.take_left,List.drop_left]
 rw[if_neg h2] at hx
 by_cases h3:k=3∨k=4
 ·rw[if_pos h3] at hx
  simp only[zn] at hx
  have hk5:¬ (k=5):=by omega
  simp only[ZI,hk5,if_false]
  unfold ZM at hx
  split at hx
  case isFalse=>omega
  rename_i hl
  cases s with
  | nil =>
   have:z1 []=(0,0):=rfl
   rw[this] at hx;simp only at hx;omega
  | cons c t =>
   have hn0:(z1 (c::t)).1≠0:=by rw[hl];simp
   have hw:=zil hn0
   have hd:=zgm hw
   refine⟨?_,zgJ hd _,by simp⟩
   rw[Al6,zf2 hd,← Al6,zfv hr,if_neg hn0,hl,List.drop_left,zjn hr,List.take_left,hx];simp
 rw[if_neg h3] at hx
 by_cases h5:k=5
 ·subst h5
  simp only[if_true] at hx
  simp only[ZI,if_true,zfm,Al6,Yh,yW]
  refine⟨?_,by simp[Ze,zfj,List.isPrefixOf],by simp⟩
  simp only[yt]
  rw[ziB s r hx hr]
  simp only[Al7,if_false,if_true]
  rw[zia s r hx];rfl
 ·rw[if_neg h5] at hx;cases hx
theorem zdp (x y:Tok) (L:List Tok):yN (x::y::L)=ZI x++32::yN (y::L):=by simp[yN,Lib.join]
theorem zen (x:Tok):yN [x]=ZI x:=by simp[yN,Lib.join]
theorem zc7:∀(L:List Tok),L.all zj=true→∀(n:Nat) (l:List Tok),(yN L).length<n→yD n l (yN L)=.ok (l++L)
 | [],_,n,l,hn=>by
  cases n with
  | zero=>omega
  | succ n=>simp[yN,Lib.join,yD]
 | [x],h,n,l,hn=>by
  simp only[List.all_cons,List.all_nil,Bool.and_true] at h
  obtain⟨g1,g2,g3⟩:=zgb x h (r:=[]) (.inl rfl)
  rw[List.append_nil] at g1 g2
  rw[zen] at hn ⊢
  have hl:0<(ZI x).length:=List.length_pos_iff.2 g3
  obtain⟨m,rfl⟩:∃ m,n=m+2:=⟨n-2,by omega⟩
  rw[yD,if_neg g3,if_neg (by rw[g2];simp),g1]
  simp[yD]
 | x::y::L,h,n,l,hn=>by
  have h':=h
  rw[List.all_cons,Al0] at h'
  obtain⟨g1,g2,g3⟩:=zgb x h'.1 (r:=32::yN (y::L)) (.inr ⟨32,_,rfl,.inl rfl⟩)
  rw[zdp] at hn ⊢
  have hl:0<(ZI x).length:=List.length_pos_iff.2 g3
  simp only[Al5,Al2] at hn
  obtain⟨m,rfl⟩:∃ m,n=m+2:=⟨n-2,by omega⟩
  rw[yD,if_neg (by simp[g3]),if_neg (by rw[g2];simp),g1]
  simp only
  rw[yD,if_neg (by simp),if_pos (by simp[Ze])]
  have e1:(32::yN (y::L)).drop (Ze (32::yN (y::L)))=yN (y::L):=by simp[Ze]
  rw[e1,zc7 (y::L) h'.2 m (l++[x]) (by omega)]
  simp
theorem zeG:∀(n m:Nat) (l:List UInt8),l.length≤n→l.length≤m→zgw n l=zgw m l
 | 0,m,l,h,_=>by
  obtain rfl:l=[]:=Za.1 (by omega)
  cases m<;>simp[zgw]
 | n+1,0,l,_,h=>by
  obtain rfl:l=[]:=Za.1 (by omega)
  simp[zgw]
 | n+1,m+1,l,h1,h2=>by
  simp only[zgw]
  split
  ·rfl
  ·by_cases hp:0<(zk l).2
   ·rw[zeG n m (l.drop (zk l).2) (by simp;omega) (by simp;omega)]
   ·simp[hp]
theorem zaM {l:List UInt8} (hne:l≠[]):za6 l=(decide (0<(zk l).2)&&(Yt (zk l).1&&za6 (l.drop (zk l).2))):=by
 unfold za6
 have hl:0<l.length:=List.length_pos_iff.2 hne
 obtain⟨m,hm⟩:∃ m,l.length=m+1:=⟨l.length-1,by omega⟩
 rw[hm,zgw,if_neg hne]
 by_cases hp:0<(zk l).2
 ·rw[zeG m (l.drop (zk l).2).length (l.drop (zk l).2) (by simp;omega) (Al4 _)]
 ·simp[hp]
theorem zfF:za6 []=true:=rfl
def z6 (a:List UInt8):Prop:=∀ t,za6 t=true→za6 (a++t)=true
theorem z6.nil:z6 []:=fun t h=>h
theorem z6.app {a b:List UInt8} (ha:z6 a) (hb:z6 b):z6 (a++b):=fun t h=>by rw[Yh];exact ha _ (hb _ h)
theorem z6.here {a:List UInt8} (ha:z6 a):za6 a=true:=by have:=ha [] zfF;simpa using this
theorem z6.ascii {b:UInt8} (h:b.toNat<128) (hs:Yt b.toNat=true):z6 [b]:=fun t ht=>by
 rw[zaM (by simp)]
 simp only[List.singleton_append,zfA b t h,hs,List.drop_succ_cons,List.drop_zero,ht]
 rfl
theorem z6.asciis:∀ s:List UInt8,(∀ b∈s,32≤b.toNat∧b.toNat<128)→z6 s
 | [],_=>.nil
 | b::s,h=>by
  have h1:=h b (.head _)
  exact z6.app (a:=[b]) (.ascii h1.2 (by simp[Yt];omega)) (z6.asciis s fun c hc=>h c (.tail _ hc))
theorem z6.code {l:List UInt8} (hne:l≠[]) (h:(zk l).2≠0) (hk:(zk l).2≤l.length) (hs:Yt (zk l).1=true):z6 (l.take (zk l).2):=fun t ht=>by
 have hp:=zbh hne h t
 have hl:(l.take (zk l).2).length=(zk l).2:=by simp;omega
 rw[zaM (by intro e;have:=congrArg List.length e;rw[Al5,hl] at this;simp at this;omega),hp,hs]
 rw[List.drop_left' hl,ht]
 simp;omega
theorem z6.of:∀(n:Nat) (s:List UInt8),s.length≤n→za6 s=true→z6 s
 | 0,s,hn,_=>by
  obtain rfl:s=[]:=Za.1 (by omega)
  exact .nil
 | n+1,s,hn,h=>by
  by_cases hne:s=[]
  ·subst hne;exact .nil
  ·rw[zaM hne] at h
   simp only[Al0,zn] at h
   obtain⟨h1,h2,h3⟩:=h
   have hk:(zk s).2≤s.length:=(zc9 hne (by omega)).2
   have:=z6.app (z6.code hne (by omega) hk h2) (z6.of n _ (by simp;omega) h3)
   rwa [List.take_append_drop] at this
theorem zhl (n:Nat):32≤(hexL.getD (n % 16) 0).toNat∧(hexL.getD (n % 16) 0).toNat<128:=by
 have:∀ x:Fin 16,32≤(hexL.getD x.val 0).toNat∧(hexL.getD x.val 0).toNat<128:=by decide +kernel
 exact this ⟨n % 16,Nat.mod_lt _ (by decide)⟩
theorem z6.unit (u:Nat):z6 (yl u):=z6.asciis _ fun b hb=>by
 simp only[yl,List.mem_cons,List.not_mem_nil,or_false] at hb
 rcases hb with rfl|rfl|rfl|rfl|rfl|rfl
 ·decide
 ·decide
 all_goals exact zhl _
theorem z6.quo:∀(n:Nat) (l:List UInt8),l.length≤n→validD l=true→z6 (yq n l)
 | 0,l,_,_=>.nil
 | n+1,l,hn,hv=>by
  rw[yq]
  by_cases hne:l=[]
  ·subst hne;exact .nil
  ·rw[if_neg hne]
   obtain⟨hd,hv2⟩:=ZG hne hv
   have hpos:=hd.pos
   refine z6.app ?_ (z6.quo n _ (by simp;omega) hv2)
   unfold yy
   by_cases h1:(zk l).1=34∨(zk l).1=92
   ·rw[if_pos h1]
    refine z6.asciis _ fun b hb=>?_
    simp only[List.mem_cons,List.not_mem_nil,or_false] at hb
    rcases hb with rfl|rfl
    ·decide
    ·rcases h1 with h1|h1<;>rw[h1]<;>decide
   rw[if_neg h1]
   by_cases h2:(zk l).1=10
   ·rw[if_pos h2]
    exact z6.asciis _ fun b hb=>by
     simp only[List.mem_cons,List.not_mem_nil,or_false] at hb
     rcases hb with rfl|rfl<;>decide
   rw[if_neg h2]
   by_cases h3:(zk l).1<32
   ·rw[if_pos h3];exact .unit _
   rw[if_neg h3]
   by_cases h4:65536≤(zk l).1
   ·rw[if_pos h4];exact z6.app (.unit _) (.unit _)
   ·rw[if_neg h4]
    exact z6.code hne (by omega) hd.len (by simp[Yt];omega)
theorem ziy (c:UInt8):nch c=true→32≤c.toNat∧c.toNat<128:=zeT (P:=fun c=>nch c=true→32≤c.toNat∧c.toNat<128) (by decide +kernel) c
theorem zid {s:List UInt8} (h:ZM s≠0):∀ b∈s,32≤b.toNat∧b.toNat<128:=fun b hb=>ziy b ((zjR h).1 b hb)
theorem z6.tok (x:Tok) (hx:zj x=true):z6 (ZI x):=by
 obtain⟨k,s⟩:=x
 unfold zj at hx
 simp only at hx
 by_cases h1:k=1
 ·subst h1
  simp only[if_true,YG,zn] at hx
  simp only[ZI,show ¬ ((1:Int)=5) by decide,if_false]
  rcases hx with rfl|hx
  ·exact z6.asciis _ (by decide)
  ·cases s with
   | nil=>cases hx
   | cons c t =>
    cases t with
    | cons d t=>cases hx
    | nil =>
     have h1:=zf4 c
     have hm:zao c=true:=hx
     simp only[hm,Bool.not_true,Bool.false_or,Al0,Bool.not_eq_true',decide_eq_false_iff_not,zn] at h1
     exact z6.asciis _ fun b hb=>by simp only[List.mem_singleton] at hb;subst hb;exact h1.2.2.2.2.2.2
 rw[if_neg h1] at hx
 by_cases h2:k=2
 ·subst h2
  simp only[if_true] at hx
  simp only[ZI,show ¬ ((2:Int)=5) by decide,if_false]
  simp only[zq,Al0] at hx
  have:=zcm _ _ hx.1
  refine z6.asciis _ fun b hb=>?_
  have hb2:=this b hb
  simp only[YG] at hb2
  simp only[isL,isD,YG,Al0,zn] at hb2
  omega
 rw[if_neg h2] at hx
 by_cases h3:k=3∨k=4
 ·rw[if_pos h3] at hx
  have hk5:¬ (k=5):=by omega
  simp only[ZI,hk5,if_false]
  simp only[zn] at hx
  exact z6.asciis _ (zid (by omega))
 rw[if_neg h3] at hx
 by_cases h5:k=5
 ·subst h5
  simp only[if_true] at hx
  simp only[ZI,if_true,zfm]
  have h34:z6 [34]:=z6.asciis _ (by decide)
  exact z6.app (a:=[34]) h34 (z6.app (z6.quo _ _ (Al4 _) hx) h34)
 ·rw[if_neg h5] at hx;cases hx
theorem z6.join:∀ L:List Tok,L.all zj=true→z6 (yN L)
 | [],_=>.nil
 | [x],h=>by rw[zen];exact .tok x (by simpa using h)
 | x::y::L,h=>by
  rw[List.all_cons,Al0] at h
  rw[zdp]
  exact z6.app (.tok x h.1) (z6.app (a:=[32]) (z6.asciis _ (by decide)) (z6.join (y::L) h.2))
theorem zhh (L:List Tok) (h:L.all zj=true) (hl:(yN L).length≤8192):y8 (yN L)=.ok L:=by
 unfold y8
 rw[if_neg (by omega),(z6.join L h).here,if_pos rfl,zc7 L h _ _ (by omega)]
 simp
theorem YE:∀(p s t:List UInt8),(∀ x∈p,x≠10)→p.isPrefixOf (s++10::t)=p.isPrefixOf s
 | [],s,t,_=>by cases s<;>simp
 | x::p,[],t,h=>by
  have h1:=h x (.head _)
  simp[List.isPrefixOf,h1]
 | x::p,c::s,t,h=>by
  simp only[Al6,List.isPrefixOf]
  rw[YE p s t fun y hy=>h y (.tail _ hy)]
theorem Zc:∀(p s:List UInt8),p.isPrefixOf s=true→p.length≤s.length
 | [],s,_=>Nat.zero_le _
 | x::p,[],h=>by simp[List.isPrefixOf] at h
 | x::p,c::s,h=>by
  simp only[List.isPrefixOf,Al0] at h
  have:=Zc p s h.2
  simp only[Al2];omega
theorem zlk (t:List UInt8):zb2 (10::t):=.inr ⟨10,t,rfl,.inr rfl⟩
theorem zdn:∀(n:Nat) (raw s:List UInt8) (b s':List UInt8),Zd n raw s=some (b,s')→s'.length<s.length∧∀(m:Nat) (t:List UInt8),n≤m→Zd m raw (s++10::t)=some (b,s'++10::t)
 | 0,_,_,_,_,h=>by cases h
 | n+1,raw,[],_,_,h=>by simp[Zd] at h
 | n+1,raw,c::r,b,s',h=>by
  simp only[Zd] at h
  by_cases h1:zD.isPrefixOf (c::r)=true
  ·rw[if_pos h1] at h
   have hl:=Zc _ _ h1
   simp only[zD,Al2,Al3] at hl
   simp only[Al1,Al8] at h
   obtain⟨rfl,rfl⟩:=h
   refine⟨by simp;omega,fun m t hm=>?_⟩
   obtain⟨k,rfl⟩:∃ k,m=k+1:=⟨m-1,by omega⟩
   have e:=YE zD (c::r) t (by decide)
   rw[Al6] at e
   simp only[Zd,Al6]
   rw[e,if_pos h1,zcU (by omega)]
  ·rw[if_neg h1] at h
   by_cases h2:zgx.isPrefixOf (c::r)=true
   ·rw[if_pos h2] at h
    have hl:=Zc _ _ h2
    simp only[zgx,Al2,Al3] at hl
    obtain⟨g1,g2⟩:=zdn n _ _ _ _ h
    refine⟨by simp at g1 ⊢;omega,fun m t hm=>?_⟩
    obtain⟨k,rfl⟩:∃ k,m=k+1:=⟨m-1,by omega⟩
    have e:=YE zD (c::r) t (by decide)
    have e2:=YE zgx (c::r) t (by decide)
    rw[Al6] at e e2
    simp only[Zd,Al6]
    rw[e,if_neg h1,e2,if_pos h2,zcU (by omega)]
    exact g2 k t (by omega)
   ·rw[if_neg h2] at h
    obtain⟨g1,g2⟩:=zdn n _ _ _ _ h
    refine⟨by simp;omega,fun m t hm=>?_⟩
    obtain⟨k,rfl⟩:∃ k,m=k+1:=⟨m-1,by omega⟩
    have e:=YE zD (c::r) t (by decide)
    have e2:=YE zgx (c::r) t (by decide)
    rw[Al6] at e e2
    simp only[Zd,Al6]
    rw[e,if_neg h1,e2,if_neg h2]
    exact g2 k t (by omega)
theorem zey:∀(n:Nat) (s:List UInt8) (u v:Nat) (t:List UInt8),ZT n s u=some v→n≤s.length∧ZT n (s++t) u=some v
 | 0,s,u,v,t,h=>by
  simp only[ZT] at h ⊢
  exact⟨Nat.zero_le _,h⟩
 | n+1,[],u,v,t,h=>by simp[ZT] at h
 | n+1,c::s,u,v,t,h=>by
  simp only[ZT,Al6] at h ⊢
  cases hx:hexD c with
  | none=>rw[hx] at h;cases h
  | some k =>
   rw[hx] at h
   simp only at h ⊢
   have:=zey n s _ v t h
   exact⟨by simp;omega,this.2⟩
theorem zjO {q q':Sd} {s s':List UInt8} (t:List UInt8) (h:Yf q s=some (q',s')):Yf q (s++t)=some (q',s'++t):=by
 cases s with
 | nil=>cases h
 | cons c r =>
  simp only[Yf,Al6] at h ⊢
  by_cases h1:c=117
  ·rw[if_pos h1] at h ⊢
   cases hu:Z8 r with
   | none=>rw[hu] at h;cases h
   | some u =>
    obtain⟨g1,g2⟩:=zey 4 r 0 u t hu
    rw[hu] at h
    simp only[z7,Al1,Al8] at h
    obtain⟨rfl,rfl⟩:=h
    rw[Z8,g2]
    simp only[z7,Al1,Al8,true_and]
    exact zcU g1
  ·rw[if_neg h1] at h ⊢
   split at h
   ·cases h
   ·rename_i h2
    rw[if_neg h2]
    simp only[Al1,Al8] at h ⊢
    obtain⟨rfl,rfl⟩:=h
    exact⟨rfl,rfl⟩
theorem zdA {may:UInt8→Bool} (t:List UInt8):∀(n:Nat) (s:List UInt8) (q q':Sd) (s':List UInt8),YH may n s q=some (q',s')→∀ m,n≤m→YH may m (s++t) q=some (q',s'++t)
 | 0,_,_,_,_,h=>by cases h
 | n+1,[],_,_,_,h=>by cases h
 | n+1,c::s,q,q',s',h=>fun m hm=>by
  obtain⟨k,rfl⟩:∃ k,m=k+1:=⟨m-1,by omega⟩
  simp only[YH,Al6] at h ⊢
  by_cases h1:c=34
  ·rw[if_pos h1] at h ⊢
   simp only[Al1,Al8] at h ⊢
   exact⟨h.1,by rw[h.2]⟩
  rw[if_neg h1] at h ⊢
  by_cases h2:c=92
  ·rw[if_pos h2] at h ⊢
   cases he:Yf q s with
   | none=>rw[he] at h;cases h
   | some x =>
    rw[he] at h
    rw[zjO t (q':=x.1) (s':=x.2) he]
    exact zdA t n _ _ _ _ h k (by omega)
  rw[if_neg h2] at h ⊢
  split at h
  ·rename_i h3
   rw[if_pos h3]
   exact zdA t n _ _ _ _ h k (by omega)
  ·cases h
theorem zfH {may:UInt8→Bool} {s s' b:List UInt8} (t:List UInt8) (h:Z2 may s=some (b,s')):Z2 may (s++t)=some (b,s'++t):=by
 unfold Z2 at h ⊢
 cases hq:YH may (s.length+1) s ⟨[],[],true⟩ with
 | none=>rw[hq] at h;cases h
 | some x =>
  rw[hq] at h
  rw[zdA t _ _ _ x.1 x.2 hq _ (by simp)]
  simp only at h ⊢
  split at h
  ·rename_i h1
   simp only[Al1,Al8] at h
   rw[if_pos h1]
   simp[h.1,h.2]
  ·cases h
theorem zdH (s:List UInt8):yk s≤s.length:=by unfold yk;exact(List.takeWhile_sublist _).length_le
theorem zfP (s:List UInt8):(z1 s).1≤s.length:=by
 unfold z1
 split
 ·simp
 ·have h1:=zcc s
  have h2:=zfM (s.drop (zo s))
  have h3:=zeW (s.drop (zo s+yL (s.drop (zo s))))
  simp only[Zq] at h2 h3
  simp only;omega
theorem zjB {s s':List UInt8} {x:Tok} (h:yt s=some (x,s')) (t:List UInt8):s'.length<s.length∧yt (s++10::t)=some (x,s'++10::t):=by
 cases s with
 | nil=>cases h
 | cons c r =>
  have e3:=YE zD (c::r) t (by decide)
  have ed:=YE y7 (c::r) t (by decide)
  rw[Al6] at e3 ed
  have hw:=zd9 (c::r) (zlk t)
  have hn:=zfv (a:=c::r) (zlk t)
  simp only[yt] at h
  simp only[yt,Al6]
  rw[e3,ed]
  by_cases h1:zD.isPrefixOf (c::r)=true
  ·rw[if_pos h1] at h ⊢
   have hl:=Zc _ _ h1
   simp only[zD,Al2,Al3] at hl
   cases hr:Zd (r.length+1) [] (r.drop 2) with
   | none=>rw[hr] at h;cases h
   | some y =>
    rw[hr] at h
    simp only[z7,Al1,Al8] at h
    obtain⟨rfl,rfl⟩:=h
    obtain⟨g1,g2⟩:=zdn _ _ _ y.1 y.2 hr
    simp only[Zq] at g1
    rw[zcU (by omega),g2 _ t (by simp)]
    exact⟨by simp only[Al2];omega,rfl⟩
  rw[if_neg h1] at h ⊢
  by_cases h2:c=34
  ·rw[if_pos h2] at h ⊢
   cases hr:Z2 yi r with
   | none=>rw[hr] at h;cases h
   | some y =>
    rw[hr] at h
    simp only[z7,Al1,Al8] at h
    obtain⟨rfl,rfl⟩:=h
    have g1:=zfy (t':=y.2) (b:=y.1) hr
    rw[zfH (10::t) (b:=y.1) (s':=y.2) hr]
    exact⟨by simp only[Al2];omega,rfl⟩
  rw[if_neg h2] at h ⊢
  by_cases h3:y7.isPrefixOf (c::r)=true
  ·rw[if_pos h3] at h ⊢
   have hl:=Zc _ _ h3
   simp only[y7,Al2,Al3] at hl
   simp only[Al1,Al8] at h ⊢
   obtain⟨rfl,rfl⟩:=h
   exact⟨by simp;omega,rfl,zcU (by omega)⟩
  rw[if_neg h3] at h ⊢
  by_cases h4:0≤Lib.indexByte zau c
  ·rw[if_pos h4] at h ⊢
   simp only[Al1,Al8] at h ⊢
   obtain⟨rfl,rfl⟩:=h
   exact⟨by simp,rfl,rfl⟩
  rw[if_neg h4] at h ⊢
  by_cases h5:isL c=true
  ·rw[if_pos h5] at h ⊢
   have hl:=zdH (c::r)
   have hp:0<yk (c::r):=by unfold yk;simp[h5]
   simp only[Al1,Al8] at h ⊢
   obtain⟨rfl,rfl⟩:=h
   rw[← Al6,hw,List.take_append_of_le_length hl,zcU hl]
   exact⟨by rw[Zq];simp only[Al2] at hl ⊢;omega,rfl,rfl⟩
  rw[if_neg h5] at h ⊢
  rw[← Al6,hn]
  by_cases h6:(z1 (c::r)).1=0
  ·rw[if_pos h6] at h;cases h
  rw[if_neg h6] at h ⊢
  have hl:=zfP (c::r)
  rw[List.take_append_of_le_length hl,zcU hl]
  have hh:(((c::r).drop (z1 (c::r)).1++10::t).head?.any fun d=>isL d||isD d||decide (d=46))=(((c::r).drop (z1 (c::r)).1).head?.any fun d=>isL d||isD d||decide (d=46)):=by
   cases (c::r).drop (z1 (c::r)).1 with
   | nil=>simp[isL,isD]
   | cons d t=>rfl
  rw[hh]
  split at h
  ·cases h
  ·rename_i h7
   rw[if_neg h7]
   simp only[Al1,Al8] at h ⊢
   obtain⟨rfl,rfl⟩:=h
   exact⟨by rw[Zq];simp only[Al2] at hl ⊢;omega,rfl,rfl⟩
theorem zeR (s:List UInt8):Ze s≤s.length:=by
 cases s with
 | nil=>simp[Ze]
 | cons c r =>
  simp only[Ze]
  split
  ·simp
  ·split
   ·rename_i h;have:=Zc _ _ h;simpa[zfj] using this
   ·split
    ·have:=(List.takeWhile_sublist yI (l:=r)).length_le;simp only[Al2];omega
    ·simp
theorem zbS {s s':List UInt8} {x:Tok} (h:yt s=some (x,s')):s'.length<s.length:=(zjB h []).1
theorem Yd:∀(n m:Nat) (l:List Tok) (s:List UInt8),s.length<n→s.length<m→yD n l s=yD m l s
 | 0,_,_,_,h,_=>by omega
 | _,0,_,_,_,h=>by omega
 | n+1,m+1,l,s,h1,h2=>by
  simp only[yD]
  split
  ·rfl
  ·rename_i hne
   split
   ·rename_i hg
    have hl:0<s.length:=List.length_pos_iff.2 hne
    exact Yd n m _ _ (by rw[Zq];omega) (by rw[Zq];omega)
   ·cases ho:yt s with
    | none=>rfl
    | some x =>
     have:=zbS (x:=x.1) (s':=x.2) ho
     exact Yd n m _ _ (by omega) (by omega)
theorem zf5 {s:List UInt8} {l:List Tok} (h:y8 s=.ok l):s.length≤8192∧za6 s=true∧yD (s.length+1) [] s=.ok l:=by
 unfold y8 at h
 split at h
 ·cases h
 ·split at h
  ·rename_i h1 h2;exact⟨by omega,h2,h⟩
  ·cases h
theorem zaI:∀(n:Nat) (l:List Tok) (s:List UInt8),yD n l s=(match yD n [] s with|.ok l'=>.ok (l++l')|.error e=>.error e)
 | 0,_,_=>rfl
 | n+1,l,s=>by
  simp only[yD]
  split
  ·simp
  ·split
   ·exact zaI n l _
   ·cases ho:yt s with
    | none=>rfl
    | some x =>
     simp only
     rw[zaI n (l++[x.1]),zaI n ([]++[x.1])]
     cases yD n [] x.2 with
     | ok l'=>simp
     | error e=>rfl
theorem zhy:∀(L:List (List UInt8)) (a:Int),(0≤a→zbc L a≤a∧0≤zbc L a)∧(∀ s∈L,zR s=false→zbc L a≤Yj s∧0≤zbc L a)
 | [],a=>⟨fun h=>⟨Int.le_refl _,h⟩,fun s hs=>nomatch hs⟩
 | s::r,a=>by
  simp only[zbc]
  have ih:=zhy r
  by_cases hb:zR s=true
  ·rw[if_pos hb]
   refine⟨(ih a).1,fun x hx hxb=>?_⟩
   rcases List.mem_cons.1 hx with rfl|hx
   ·rw[hb] at hxb;cases hxb
   ·exact(ih a).2 x hx hxb
  ·rw[if_neg hb]
   by_cases hc:a<0∨(Yj s:Int)<a
   ·rw[if_pos hc]
    have h1:=(ih (Yj s)).1 (by omega)
    refine⟨fun h=>⟨by omega,h1.2⟩,fun x hx hxb=>?_⟩
    rcases List.mem_cons.1 hx with rfl|hx
    ·exact h1
    ·exact(ih _).2 x hx hxb
   ·rw[if_neg hc]
    have h1:=(ih a).1 (by omega)
    refine⟨fun _=>h1,fun x hx hxb=>?_⟩
    rcases List.mem_cons.1 hx with rfl|hx
    ·exact⟨by omega,h1.2⟩
    ·exact(ih _).2 x hx hxb
theorem zik {s:List UInt8} (h:zR s=true):Yj s=s.length:=by
 unfold zR at h
 unfold Yj
 rw[zb9 s (yJ.1 h)]
def yX (l:List (List UInt8)):List AV:=l.map AV.str
theorem Zo (l:List (List UInt8)):(yX l).length=l.length:=by simp[yX]
def MsT (H:Heap) (b cap:Nat) (l:List (List UInt8)):Prop:=∃ tl,H b=some (.cells (yX l++tl))∧l.length+tl.length=cap
theorem zgY (z:AV):∀ n,(madeA [z] n).length=n
 | 0=>rfl
 | n+1=>by simp[madeA,zgY z n]
section
variable {KP:AV→Heap→Prop} {Q:AExit→Env→Heap→Prop} {st:List Fr} {ρ:Env} {H:Heap} {all items:List AItem} {d:Option Nat} {R:List Chk}
theorem zlY {b cap:Nat} {l:List (List UInt8)} {x:List UInt8} {o2:Own} (h:MsT H b cap l) (h1:(l.length+1)*16≤140737488355328) (h2:l.length+1≤maxLen)
  (k:∀ b' cap' H',MsT H' b' cap' (l++[x])→goR Tryz.prog KP Q all items st R (ρ.set d (.ms b' 0 (l.length+1) cap')) H') :
  goPm Tryz.prog KP Q all items st d R ρ 1 16 [.str []] (.ms b 0 l.length cap) (.sl o2 1 [[.str x]]) H:=by
 obtain⟨tl,hb,hc⟩:=h
 refine goPm_ms hb rfl (by simpa using h1) (by simpa using h2) (fun hfit=>⟨?_,?_⟩) (fun hnf=>⟨?_,fun b' cap' hb' hcap' hm'=>?_⟩)
 ·have hfit:l.length+1≤cap:=hfit
  simp[Zo];omega
 ·have hfit:l.length+1≤cap:=hfit
  obtain⟨t0,tl,rfl⟩:∃ t0 t1,tl=t0::t1:=by
   cases tl with
   | nil=>simp at hc;omega
   | cons a b=>exact⟨a,b,rfl⟩
  refine k b cap _ ⟨tl,?_,by simp at hc ⊢;omega⟩
  rw[upd_same]
  simp only[splice,List.flatten_cons,List.flatten_nil,List.append_nil,List.map_cons,List.map_nil,AV.strip1,Al2,Al3,Nat.zero_add,Nat.mul_one]
  rw[List.take_left' (Zo l),List.drop_append,List.drop_eq_nil_of_le (by rw[Zo];omega),Zo,Nat.add_sub_cancel_left]
  simp[yX]
 ·simp[Zo]
 ·refine k b' cap' _ ⟨madeA [.str []] (cap'-(l.length+1)),?_,?_⟩
  ·rw[upd_same]
   simp only[List.drop_zero,Nat.mul_one,List.flatten_cons,List.flatten_nil,List.append_nil,List.map_cons,List.map_nil,AV.strip1,Al2,Al3,Nat.zero_add]
   rw[List.take_left' (Zo l)]
   simp[yX]
  ·have hcap':l.length+1≤cap':=hcap'
   rw[zgY];simp;omega
theorem zkp {x:List UInt8} {o2:Own} (k:∀ b' cap' H',MsT H' b' cap' [x]→goR Tryz.prog KP Q all items st R (ρ.set d (.ms b' 0 1 cap')) H') :
  goPm Tryz.prog KP Q all items st d R ρ 1 16 [.str []] (.sl .nil 1 []) (.sl o2 1 [[.str x]]) H:=by
 refine goPm_nil rfl (by simp) (by simp[maxLen]) (fun h=>by simp at h) fun _ b cap hb h1 h2=>?_
 have h1:1≤cap:=h1
 refine k b cap _ ⟨madeA [.str []] (cap-1),?_,by rw[zgY];simp;omega⟩
 rw[upd_same]
 simp[yX,AV.strip1]
end
theorem zbH {cur r:List UInt8} {c:UInt8} (h:¬ (c=10∨c=13)):zQ cur (c::r)=zQ (cur++[c]) r:=by
 have h10:c≠10:=fun e=>h (.inl e)
 have h13:c≠13:=fun e=>h (.inr e)
 cases r with
 | nil=>simp[zQ,h10,h13]
 | cons d r=>simp[zQ,h10,h13]
theorem zeE (cur r:List UInt8):zQ cur (10::r)=cur::zQ [] r:=by cases r<;>simp[zQ]
theorem zd6 {cur r:List UInt8} (h:r.head?≠some 10):zQ cur (13::r)=cur::zQ [] r:=by
 cases r with
 | nil=>simp[zQ]
 | cons d r =>
  have:d≠10:=by simpa using h
  simp[zQ,this]
theorem zdL (cur r:List UInt8):zQ cur (13::10::r)=cur::zQ [] r:=by simp[zQ]
def zku (b cap:Nat) (l:List (List UInt8)):AV:=if l=[] then .sl .nil 1 [] else .ms b 0 l.length cap
theorem zfQ (b cap:Nat):zku b cap []=.sl .nil 1 []:=rfl
theorem zbQ {b cap:Nat} {l:List (List UInt8)} (h:l≠[]):zku b cap l=.ms b 0 l.length cap:=if_neg h
def zl0 (s:List UInt8):AEnd→Heap→Prop:=ziE fun v H'=>∃ b cap,v=.ms b 0 (zv s).length cap∧MsT H' b cap (zv s)
section
variable {KP:AV→Heap→Prop} {Q:AExit→Env→Heap→Prop} {st:List Fr} {ρ:Env} {H:Heap} {all items:List AItem} {d:Option Nat} {R:List Chk}
theorem zdi {b cap:Nat} {l:List (List UInt8)} {x:List UInt8} {o2:Own} (h:l≠[]→MsT H b cap l) (h1:(l.length+1)*16≤140737488355328) (h2:l.length+1≤maxLen)
  (k:∀ b' cap' H',MsT H' b' cap' (l++[x])→goR Tryz.prog KP Q all items st R (ρ.set d (.ms b' 0 (l.length+1) cap')) H') :
  goPm Tryz.prog KP Q all items st d R ρ 1 16 [.str []] (zku b cap l) (.sl o2 1 [[.str x]]) H:=by
 by_cases hl:l=[]
 ·subst hl
  rw[zfQ]
  exact zkp fun b' cap' H' hm=>k b' cap' H' hm
 ·rw[zbQ hl]
  exact zlY (h hl) h1 h2 k
end
theorem zkG (s:List UInt8) (hs:s.length≤Lim):ACalls Tryz.prog 216 [.str s] Heap.emp (zl0 s):=by
 refine ACalls.go ir216 ck216 (Al4 _) fun KP Q hQ=>?_
 have hs':=hs
 simp only[Lim] at hs'
 simp(disch:=first|omega|assumption) only[ir216,go_sem]
 refine goL_st (fun x:Nat×Nat×List (List UInt8)×Nat×Nat=>[(3,zku x.2.2.2.1 x.2.2.2.2 x.2.2.1),(4,.int .i64 x.2.1),(5,.int .i64 x.1)]) (fun x H'=>x.2.1≤x.1∧x.1≤s.length∧x.2.2.1.length≤x.1∧x.2.2.1++zQ ((s.take x.1).drop x.2.1) (s.drop x.1)=zv s∧(x.2.2.1≠[]→MsT H' x.2.2.2.1 x.2.2.2.2 x.2.2.1)) (fun x=>s.length-x.1) (0,0,[],0,0) (by simp(disch:=first|omega|assumption) only[zfQ,go_sem]) ⟨Al4 _,Nat.zero_le _,Al4 _,by simp[zv],fun h=>absurd rfl h⟩ ?_
 rintro⟨i,fr,l,b,cap⟩ H1 J ⟨h1,h2,h3,h4,h5⟩ hJ
 simp only at h1 h2 h3 h4 h5
 by_cases hlt:i<s.length
 case neg =>
  obtain rfl:i=s.length:=by omega
  have hlt':¬ ((s.length:Int)<s.length):=by omega
  have hb1:((fr:Int)≤s.length)=True:=eq_true (by omega)
  rw[List.drop_length,List.take_length] at h4
  simp only[zQ] at h4
  simp(disch:=first|omega|assumption) only[hlt',hb1,go_sem]
  refine zdi h5 (by omega) (by simp only[maxLen];omega) fun b' cap' H2 hm=>?_
  simp(disch:=first|omega|assumption) only[go_sem]
  exact hQ _ _ H2 H2 [_] nofun rfl (Low.refl _) ⟨b',cap',by rw[← h4];simp[tupOf,envOf,AV.strip,AV.strip1],by rw[← h4];exact hm⟩
 have hlt':((i:Int)<s.length)=True:=eq_true (by omega)
 obtain⟨c,r,hd⟩:∃ c r,s.drop i=c::r:=by
  cases hx:s.drop i with
  | nil=>have:=congrArg List.length hx;simp at this;omega
  | cons c r=>exact⟨c,r,rfl⟩
 have hc:s.getD i 0=c:=by
  have:(s.drop i).getD 0 0=c:=by rw[hd];rfl
  simpa[List.getD_eq_getElem?_getD] using this
 have hr:s.drop (i+1)=r:=by rw[← List.drop_drop,hd];rfl
 have htk:s.take (i+1)=s.take i++[c]:=by
  rw[List.take_add,hd];rfl
 have hcur:((s.take (i+1)).drop fr)=(s.take i).drop fr++[c]:=by
  rw[htk,zcU (by simp;omega)]
 rw[hd] at h4
 have hb1:((fr:Int)≤(i:Int))=True:=eq_true (by omega)
 have hne9:l++[(s.take i).drop fr]≠[]:=by simp
 have hb2:((i:Int)≤s.length)=True:=eq_true (by omega)
 by_cases e10:c=10
 case pos =>
  subst e10
  rw[zeE] at h4
  have hcn:((10:UInt8).toNat:Int)=10:=rfl
  simp(disch:=first|omega|assumption) only[hlt',hc,hcn,hb1,hb2,go_sem]
  refine zdi h5 (by omega) (by simp only[maxLen];omega) fun b' cap' H2 hm=>?_
  simp(disch:=first|omega|assumption) only[hc,hcn,wrap64,go_sem]
  refine goJ (hJ (i+1,i+1,l++[(s.take i).drop fr],b',cap') H2 (by simp only;omega) ⟨Al4 _,by simp only;omega,by simp;omega,?_,fun _=>hm⟩) (by simp(disch:=first|omega|assumption) only[zbQ hne9,Al5,Al2,Al3,Nat.zero_add,Int.natCast_add,go_sem])
  rw[hr]
  simpa using h4
 by_cases e13:c=13
 case neg =>
  rw[zbH (by simp[e10,e13])] at h4
  have c10:¬ ((c.toNat:Int)=10):=fun e=>e10 (UInt8.toNat_inj.1 (by simpa using (by omega:c.toNat=10)))
  have c13:¬ ((c.toNat:Int)=13):=fun e=>e13 (UInt8.toNat_inj.1 (by simpa using (by omega:c.toNat=13)))
  simp(disch:=first|omega|assumption) only[hlt',hc,c10,c13,wrap64,go_sem]
  refine goJ (hJ (i+1,fr,l,b,cap) H1 (by simp only;omega) ⟨by simp only;omega,by simp only;omega,by simp only;omega,?_,h5⟩) (by simp(disch:=first|omega|assumption) only[Int.natCast_add,go_sem])
  rw[hr,hcur];exact h4
 subst e13
 have hcn:((13:UInt8).toNat:Int)=13:=rfl
 by_cases h10:r.head?=some 10
 case neg =>
  rw[zd6 h10] at h4
  by_cases hi2:i+1<s.length
  case neg =>
   have hi2':¬ ((i:Int)+1<s.length):=by omega
   simp(disch:=first|omega|assumption) only[hlt',hc,hcn,hb1,hb2,go_sem]
   refine zdi h5 (by omega) (by simp only[maxLen];omega) fun b' cap' H2 hm=>?_
   simp(disch:=first|omega|assumption) only[hc,hcn,wrap64,hi2',go_sem]
   refine goJ (hJ (i+1,i+1,l++[(s.take i).drop fr],b',cap') H2 (by simp only;omega) ⟨Al4 _,by simp only;omega,by simp;omega,?_,fun _=>hm⟩) (by simp(disch:=first|omega|assumption) only[zbQ hne9,Al5,Al2,Al3,Nat.zero_add,Int.natCast_add,go_sem])
   rw[hr]
   simpa using h4
  have hi2':((i:Int)+1<s.length)=True:=eq_true (by omega)
  obtain⟨e,r',hre⟩:∃ e r',r=e::r':=by
   cases r with
   | nil=>have:=congrArg List.length hr;simp at this;omega
   | cons e r'=>exact⟨e,r',rfl⟩
  have hge:s.getD (i+1) 0=e:=by
   have:(s.drop (i+1)).getD 0 0=e:=by rw[hr,hre];rfl
   simpa[List.getD_eq_getElem?_getD] using this
  have hne:e≠10:=by rw[hre] at h10;simpa using h10
  have hgn:¬ ((e.toNat:Int)=10):=fun x=>hne (UInt8.toNat_inj.1 (by simpa using (by omega:e.toNat=10)))
  have hg1:((i:Int)+1).toNat=i+1:=by omega
  simp(disch:=first|omega|assumption) only[hlt',hc,hcn,hb1,hb2,go_sem]
  refine zdi h5 (by omega) (by simp only[maxLen];omega) fun b' cap' H2 hm=>?_
  simp(disch:=first|omega|assumption) only[hc,hcn,wrap64,hi2',hg1,hge,hgn,go_sem]
  refine goJ (hJ (i+1,i+1,l++[(s.take i).drop fr],b',cap') H2 (by simp only;omega) ⟨Al4 _,by simp only;omega,by simp;omega,?_,fun _=>hm⟩) (by simp(disch:=first|omega|assumption) only[zbQ hne9,Al5,Al2,Al3,Nat.zero_add,Int.natCast_add,go_sem])
  rw[hr]
  simpa using h4
 obtain⟨r',hre⟩:∃ r',r=10::r':=by
  cases r with
  | nil=>cases h10
  | cons e r'=>simp only[List.head?_cons,Al1] at h10;subst h10;exact⟨r',rfl⟩
 rw[hre,zdL] at h4
 have hi2:i+1<s.length:=by
  have:=congrArg List.length hr;rw[hre] at this;simp at this;omega
 have hi2':((i:Int)+1<s.length)=True:=eq_true (by omega)
 have hge:s.getD (i+1) 0=10:=by
  have:(s.drop (i+1)).getD 0 0=10:=by rw[hr,hre];rfl
  simpa[List.getD_eq_getElem?_getD] using this
 have hgn:((10:UInt8).toNat:Int)=10:=rfl
 have hg1:((i:Int)+1).toNat=i+1:=by omega
 have hr2:s.drop (i+1+1)=r':=by rw[← List.drop_drop,hr,hre];rfl
 simp(disch:=first|omega|assumption) only[hlt',hc,hcn,hb1,hb2,go_sem]
 refine zdi h5 (by omega) (by simp only[maxLen];omega) fun b' cap' H2 hm=>?_
 simp(disch:=first|omega|assumption) only[hc,hcn,wrap64,hi2',hg1,hge,hgn,go_sem]
 refine goJ (hJ (i+1+1,i+1+1,l++[(s.take i).drop fr],b',cap') H2 (by simp only;omega) ⟨Al4 _,by simp only;omega,by simp;omega,?_,fun _=>hm⟩) (by simp(disch:=first|omega|assumption) only[zbQ hne9,Al5,Al2,Al3,Nat.zero_add,Int.natCast_add,go_sem])
 rw[hr2]
 simpa using h4
theorem zf7 (c:UInt8):zdP c=true↔(c.toNat:Int)=9∨(c.toNat:Int)=32:=by
 simp only[zdP,YG,zn]
 constructor
 ·rintro(rfl|rfl)
  ·exact .inl rfl
  ·exact .inr rfl
 ·rintro(h|h)
  ·exact .inl (UInt8.toNat_inj.1 (by simpa using (by omega:c.toNat=9)))
  ·exact .inr (UInt8.toNat_inj.1 (by simpa using (by omega:c.toNat=32)))
theorem ziF {a r:List UInt8} {c:UInt8} (ha:∀ x∈a,zdP x=true) (hc:zdP c=false):Yj (a++c::r)=a.length∧zR (a++c::r)=false:=by
 refine⟨?_,?_⟩
 ·unfold Yj
  induction a with
  | nil=>simp[hc]
  | cons x a ih=>simp[ha x (.head _),ih fun y hy=>ha y (.tail _ hy)]
 ·simp[zR,hc]
theorem zjZ {a:List UInt8} (ha:∀ x∈a,zdP x=true):Yj a=a.length∧zR a=true:=by
 have hb:zR a=true:=yJ.2 ha
 exact⟨zik hb,hb⟩
theorem YU (s:List UInt8) (hs:s.length≤Lim):Pure Tryz.prog 246 [.str s] (.tup [.int .i64 (Yj s),.bool (!zR s)]):=by
 refine Pure.go ir246 ck246 (Al4 _) fun KP Q hQ=>?_
 have hs':=hs
 simp only[Lim] at hs'
 simp(disch:=first|omega|assumption) only[ir246,go_sem]
 refine goL_range s 7 (fun _:AV=>[]) (fun done rest _ H'=>∀ x∈done,zdP x=true) (.int .i64 0) (by simp(disch:=first|omega|assumption) only[go_sem]) (fun x hx=>nomatch hx) ?_ ?_
 ·rintro y H1 J hdn hlt
  obtain⟨g1,g2⟩:=zjZ hdn
  simp(disch:=first|omega|assumption) only[hlt,go_sem]
  exact hQ _ _ _ _ nofun rfl (by simp[tupOf,envOf,AV.strip,AV.strip1,g1,g2])
 ·rintro done c rest y H1 J hd hlt hlt2 hdn hJ
  have hc:s.getD done.length 0=c:=by rw[hd];simp
  cases hb:zdP c with
  | false =>
   obtain⟨g1,g2⟩:=ziF (r:=rest) hdn hb
   rw[← hd] at g1 g2
   have hn:¬ ((c.toNat:Int)=9∨(c.toNat:Int)=32):=fun h=>by rw[(zf7 c).2 h] at hb;cases hb
   have n9:¬ ((c.toNat:Int)=9):=fun h=>hn (.inl h)
   have n32:¬ ((c.toNat:Int)=32):=fun h=>hn (.inr h)
   simp(disch:=first|omega|assumption) only[hlt,hc,n9,n32,go_sem]
   exact hQ _ _ _ _ nofun rfl (by simp[tupOf,envOf,AV.strip,AV.strip1,g1,g2])
  | true =>
   have hall:∀ x∈done++[c],zdP x=true:=fun x hx=>by
    rcases List.mem_append.1 hx with h|h
    ·exact hdn x h
    ·simp at h;subst h;exact hb
   rcases(zf7 c).1 hb with h9|h32
   ·simp(disch:=first|omega|assumption) only[hlt,hc,h9,wrap64,go_sem]
    exact goJ (hJ (.int .i64 0) _ hall) (by simp(disch:=first|omega|assumption) only[go_sem])
   ·have n9:¬ ((c.toNat:Int)=9):=by omega
    simp(disch:=first|omega|assumption) only[hlt,hc,n9,h32,wrap64,go_sem]
    exact goJ (hJ (.int .i64 0) _ hall) (by simp(disch:=first|omega|assumption) only[go_sem])
theorem zaz (s:List UInt8) (hs:s.length≤Lim):Pure Tryz.prog 218 [.str s] (.bool (zR s)):=by
 refine Pure.go ir218 ck218 (Al4 _) fun KP Q hQ=>?_
 simp(disch:=first|omega|assumption) only[ir218,go_sem]
 refine goK_pure (YU s hs) ?_
 simp(disch:=first|omega|assumption) only[go_sem]
 exact hQ _ _ _ _ nofun rfl (by simp[tupOf,envOf,AV.strip,AV.strip1])
theorem zgt {l a:List (List UInt8)} {x:List UInt8} {b:List (List UInt8)} (h:l=a++x::b) (tl:List AV):((yX l++tl).drop (0+a.length*1)).take 1=[.str x]:=by
 subst h;simp[yX]
theorem zhG {l a:List (List UInt8)} {x:List UInt8} {b:List (List UInt8)} (h:l=a++x::b) (tl:List AV):0+a.length*1+1≤(yX l++tl).length:=by
 subst h;simp[yX]
theorem zjC {H:Heap} {b cap:Nat} {l:List (List UInt8)} (h:MsT H b cap l) (hx:∀ s∈l,s.length≤Lim) (hl:l.length≤Lim) :
  ACalls Tryz.prog 217 [.ms b 0 l.length cap] H (ziE fun v H'=>v=.int .i64 (indM l)∧H'=H):=by
 obtain⟨tl,hb,hc⟩:=h
 refine ACalls.go ir217 ck217 (Al4 _) fun KP Q hQ=>?_
 have hl':=hl
 simp only[Lim] at hl'
 simp(disch:=first|omega|assumption) only[ir217,go_sem]
 refine goL_range l 10 (fun n:Int=>[(3,.int .i64 n)]) (fun done rest n H'=>H'=H∧((done=[]∧n=-1)∨(done≠[]∧zbc rest n=indM l))) (-1) (by simp(disch:=first|omega|assumption) only[go_sem]) ⟨rfl,.inl ⟨rfl,rfl⟩⟩ ?_ ?_
 ·rintro n H1 J ⟨rfl,hi⟩ hlt
  have e:n=indM l:=by
   rcases hi with ⟨h1,h2⟩|⟨_,h2⟩
   ·subst h1;subst h2;rfl
   ·simpa[zbc] using h2
  simp(disch:=first|omega|assumption) only[hlt,go_sem]
  exact hQ _ _ _ _ [_] nofun rfl (Low.refl _) ⟨by simp[tupOf,envOf,AV.strip,AV.strip1,e],rfl⟩
 ·rintro done x rest n H1 J hd hlt hlt2 ⟨rfl,hi⟩ hJ
  have hg:=zgt hd tl
  have hle:=zhG hd tl
  have hxl:=hx x (by rw[hd];simp)
  have hne:done++[x]≠[]:=by simp
  by_cases h0:done.length=0
  ·have h0':((done.length:Int)=0)=True:=eq_true (by omega)
   have hdn:=Za.1 h0
   have e1:n=-1:=by
    rcases hi with ⟨_,h2⟩|⟨h1,_⟩
    ·exact h2
    ·exact absurd hdn h1
   have e2:rest=l.tail:=by rw[hd,hdn];rfl
   simp(disch:=first|omega|assumption) only[hlt,hb,hg,hle,go_sem]
   refine goK_pure (YU x hxl) ?_
   simp(disch:=first|omega|assumption) only[h0',wrap64,go_sem]
   exact goJ (hJ n _ ⟨rfl,.inr ⟨hne,by rw[e1,e2];rfl⟩⟩) (by simp(disch:=first|omega|assumption) only[go_sem])
  have h0':¬ ((done.length:Int)=0):=by omega
  have e1:zbc (x::rest) n=indM l:=by
   rcases hi with ⟨h1,_⟩|⟨_,h2⟩
   ·rw[h1] at h0;exact absurd rfl h0
   ·exact h2
  simp only[zbc] at e1
  cases hbr:zR x with
  | true =>
   rw[hbr,if_pos rfl] at e1
   simp(disch:=first|omega|assumption) only[hlt,hb,hg,hle,go_sem]
   refine goK_pure (YU x hxl) ?_
   simp(disch:=first|omega|assumption) only[h0',hbr,wrap64,go_sem]
   exact goJ (hJ n _ ⟨rfl,.inr ⟨hne,e1⟩⟩) (by simp(disch:=first|omega|assumption) only[go_sem])
  | false =>
   rw[hbr,if_neg (by decide)] at e1
   by_cases hn:n<0
   ·rw[if_pos (.inl hn)] at e1
    simp(disch:=first|omega|assumption) only[hlt,hb,hg,hle,go_sem]
    refine goK_pure (YU x hxl) ?_
    simp(disch:=first|omega|assumption) only[h0',hbr,hn,wrap64,go_sem]
    exact goJ (hJ (Yj x) _ ⟨rfl,.inr ⟨hne,e1⟩⟩) (by simp(disch:=first|omega|assumption) only[go_sem])
   ·by_cases hn2:(Yj x:Int)<n
    ·rw[if_pos (.inr hn2)] at e1
     simp(disch:=first|omega|assumption) only[hlt,hb,hg,hle,go_sem]
     refine goK_pure (YU x hxl) ?_
     simp(disch:=first|omega|assumption) only[h0',hbr,hn,hn2,wrap64,go_sem]
     exact goJ (hJ (Yj x) _ ⟨rfl,.inr ⟨hne,e1⟩⟩) (by simp(disch:=first|omega|assumption) only[go_sem])
    ·rw[if_neg (by rintro(h|h)<;>contradiction)] at e1
     simp(disch:=first|omega|assumption) only[hlt,hb,hg,hle,go_sem]
     refine goK_pure (YU x hxl) ?_
     simp(disch:=first|omega|assumption) only[h0',hbr,hn,hn2,wrap64,go_sem]
     exact goJ (hJ n _ ⟨rfl,.inr ⟨hne,e1⟩⟩) (by simp(disch:=first|omega|assumption) only[go_sem])
theorem zf3 (s cur:List UInt8):zQ cur s≠[]:=by
 cases s with
 | nil=>simp[zQ]
 | cons c s =>
  by_cases h:c=10∨c=13
  ·rcases h with rfl|rfl
   ·rw[zeE];simp
   ·by_cases h10:s.head?=some 10
    ·cases s with
     | nil=>cases h10
     | cons d s=>simp only[List.head?_cons,Al1] at h10;subst h10;rw[zdL];simp
    ·rw[zd6 h10];simp
  ·rw[zbH h];exact zf3 s _
termination_by s.length
theorem zaH:∀(s cur:List UInt8),((zQ cur s).map fun x=>x.length+1).sum≤cur.length+s.length+1
 | [],cur=>by simp[zQ]
 | [c],cur=>by simp only[zQ];split<;>simp
 | c::d::r,cur=>by
  have h1:=zaH (d::r)
  have h2:=zaH r
  simp only[zQ]
  repeat' split
  all_goals simp only[Al2,List.map_cons,List.sum_cons] at h1 ⊢
  ·have:=h1 [];simp only[Al3] at this;omega
  ·have:=h2 [];simp only[Al3] at this;omega
  ·have:=h1 [];simp only[Al3] at this;omega
  ·have:=h1 (cur++[c]);simp only[Al5,Al2,Al3] at this;omega
termination_by s=>s.length
theorem zkH {l:List (List UInt8)} {x:List UInt8} (h:x∈l):x.length+1≤(l.map fun x=>x.length+1).sum:=by
 obtain⟨a,b,rfl⟩:=List.append_of_mem h
 simp;omega
def AtR (cells:List AV) (off:Nat) (cur:List (List UInt8)):Prop:=∃ pre post,cells=pre++(yX cur++post)∧pre.length=off
theorem AtR.get {cells:List AV} {off:Nat} {cur a:List (List UInt8)} {x:List UInt8} {r:List (List UInt8)} (h:AtR cells off cur) (hc:cur=a++x::r):(cells.drop (off+a.length*1)).take 1=[.str x]∧off+a.length*1+1≤cells.length:=by
 obtain⟨pre,post,rfl,rfl⟩:=h
 subst hc
 refine⟨?_,by simp[yX];omega⟩
 rw[Nat.mul_one,← List.drop_drop,List.drop_left]
 simp[yX]
theorem AtR.le {cells:List AV} {off:Nat} {cur:List (List UInt8)} (h:AtR cells off cur):off+cur.length≤cells.length:=by
 obtain⟨pre,post,rfl,rfl⟩:=h
 simp[yX]
theorem AtR.front {cells:List AV} {b off cap:Nat} {x:List UInt8} {r:List (List UInt8)} (h:AtR cells off (x::r)) (hc:r.length+1≤cap) :
  ∃ off2,msCut 1 b off (r.length+1) cap (some 1) (some ((r.length+1:Nat):Int))=some (.ms b off2 r.length (cap-1))∧AtR cells off2 r:=by
 obtain⟨pre,post,rfl,rfl⟩:=h
 have e:(((r.length+1:Nat):Int)).toNat-(1:Int).toNat=r.length:=by omega
 by_cases h1:cap=1
 ·obtain rfl:r=[]:=Za.1 (by omega)
  exact⟨pre.length,by simp[msCut,h1],pre,.str x::post,by simp[yX],rfl⟩
 ·refine⟨pre.length+1,?_,pre++[.str x],post,by simp[yX],by simp⟩
  unfold msCut
  simp only
  rw[if_pos (by omega),if_neg (by simpa using h1),e]
  simp
theorem zds {b off cap len k:Nat} (h:k≤len):msCut 1 b off len cap (some 0) (some (k:Int))=some (.ms b off k cap):=by
 unfold msCut
 simp only
 rw[if_pos (by omega)]
 simp
theorem AtR.back {cells:List AV} {off:Nat} {x:List UInt8} {r:List (List UInt8)} (h:AtR cells off (r++[x])):AtR cells off r:=by
 obtain⟨pre,post,rfl,rfl⟩:=h
 exact⟨pre,.str x::post,by simp[yX],rfl⟩
theorem zeu:∀(cur:List (List UInt8)) (post:List AV),rowsA 1 cur.length (yX cur++post)=cT cur
 | [],_=>rfl
 | x::r,post=>by
  have:=zeu r post
  simp only[yX] at this
  simp[rowsA,yX,cT,AV.strip1,this]
theorem AtR.rows {cells:List AV} {off:Nat} {cur:List (List UInt8)} (h:AtR cells off cur):rowsA 1 cur.length (cells.drop off)=cT cur:=by
 obtain⟨pre,post,rfl,rfl⟩:=h
 rw[List.drop_left,zeu]
def wL (l:List (List UInt8)):Nat:=(l.map fun x=>x.length+1).sum
theorem zbZ {l:List (List UInt8)} {x:List UInt8} (h:x∈l):x.length+1≤wL l:=zkH h
theorem zb3:∀ l:List (List UInt8),l.length≤wL l
 | []=>by simp
 | x::r=>by have:=zb3 r;simp only[wL,List.map_cons,List.sum_cons,Al2] at this ⊢;omega
theorem zhd (a b:List (List UInt8)):wL (a++b)=wL a+wL b:=by simp[wL]
theorem Zh (x:List UInt8) (b:List (List UInt8)):wL (x::b)=x.length+1+wL b:=by simp[wL]
theorem zeX (n:Nat):∀ l:List (List UInt8),wL (l.map fun s=>s.drop n)≤wL l
 | []=>by simp[wL]
 | x::r=>by have:=zeX n r;simp only[List.map_cons,Zh,Zq];omega
theorem zcD:∀ l:List (List UInt8),(Lib.join l [10]).length≤wL l
 | []=>by simp[Lib.join]
 | [x]=>by simp[Lib.join,wL]
 | x::y::r=>by
  have:=zcD (y::r)
  have e:Lib.join (x::y::r) [10]=x++10::Lib.join (y::r) [10]:=by simp[Lib.join]
  rw[e,Zh]
  simp only[Al5,Al2];omega
theorem YZ (r:List (List UInt8)) (x:List UInt8):zbI (r++[x])=if zR x then zbI r else r++[x]:=by
 unfold zbI
 rw[List.reverse_append,List.reverse_singleton,List.singleton_append,List.dropWhile_cons]
 split
 ·rfl
 ·simp
theorem zhX {α:Type} {l:List α} (h:l≠[]):∃ r x,l=r++[x]:=⟨l.dropLast,l.getLast h,(List.dropLast_concat_getLast h).symm⟩
theorem zjV (a:List (List UInt8)) (x y:List UInt8) (r:List (List UInt8)) (tl:List AV):splice (yX (a++x::r)++tl) (0+a.length*1) [.str y]=yX (a++y::r)++tl:=by
 have e:yX (a++x::r)++tl=yX a++(.str x::(yX r++tl)):=by simp[yX]
 rw[e]
 simp only[splice,Al2,Al3,Nat.zero_add,Nat.mul_one]
 rw[List.take_left' (Zo a),List.drop_append,List.drop_eq_nil_of_le (by rw[Zo];omega),Zo,Nat.add_sub_cancel_left]
 simp[yX]
theorem zkW (raw:List UInt8) (hs:raw.length≤1099511600000):Pure Tryz.prog 175 [.str raw] (.str (yz raw)):=by
 refine Pure.go ir175 ck175 (Al4 _) fun KP Q hQ=>?_
 have hw0:wL (zv raw)≤raw.length+1:=by have:=zaH raw [];simpa[wL,zv] using this
 obtain⟨x0,T,hL⟩:∃ x T,zv raw=x::T:=by
  cases hx:zv raw with
  | nil=>exact absurd hx (zf3 raw [])
  | cons x T=>exact⟨x,T,rfl⟩
 have hLl:=zb3 (zv raw)
 simp(disch:=first|omega|assumption) only[ir175,go_sem]
 refine goK_ret (zkG raw (by simp only[Lim];omega)) fun v H1 ⟨b,cap,hv,hm⟩=>?_
 subst hv
 have hm0:=hm
 obtain⟨tl,hb,hcap⟩:=hm
 simp(disch:=first|omega|assumption) only[go_sem]
 refine goK_ret (zjC hm0 (fun s hsm=>by have:=zbZ hsm;simp only[Lim];omega) (by simp only[Lim];omega)) fun v H2 ⟨hv,hH⟩=>?_
 subst hv;subst hH
 by_cases hn:0<indM (zv raw)
 case neg =>
  have hn0:(indM (zv raw)).toNat=0:=by omega
  obtain⟨D,hDd⟩:∃ D,D=zv raw:=⟨_,rfl⟩
  have hDM:zba (zv raw)=D:=by
   rw[hDd]
   conv=>lhs;rw[hL]
   simp only[zba]
   rw[← hL,hn0]
   simp[hL]
  have hDl:D.length=(zv raw).length:=by rw[hDd]
  have hbX:H2 b=some (.cells (yX D++tl)):=by rw[hDd];exact hb
  obtain⟨cells,hcells⟩:∃ cells,cells=yX D++tl:=⟨_,rfl⟩
  rw[← hcells] at hbX
  have hwD:wL D≤1099511627777:=by rw[hDd];omega
  rw[← hDd] at hcap
  simp(disch:=first|omega|assumption) only[hn,go_sem]
  refine goL_st (fun x:Nat×Nat×List (List UInt8)=>[(3,.ms b x.1 x.2.2.length x.2.1)]) (fun x H'=>H'=H2∧AtR cells x.1 x.2.2∧x.2.2.length≤x.2.1∧x.2.2.dropWhile zR=D.dropWhile zR∧wL x.2.2≤wL D) (fun x=>x.2.2.length) (0,cap,D) (by simp(disch:=first|omega|assumption) only[hDl,go_sem]) ⟨rfl,⟨[],tl,by rw[hcells,yW],rfl⟩,by simp only;omega,rfl,Al4 _⟩ ?_
  rintro⟨off,cp,cur⟩ H3 J ⟨rfl,ha,hcp,hdw,hw⟩ hJ
  simp only at ha hcp hdw hw
  have stage2:∀ K:Unit,cur=D.dropWhile zR→True:=fun _ _=>trivial
  by_cases hcur:cur=[]
  case pos =>
   subst hcur
   have hD:D.dropWhile zR=[]:=by rw[← hdw];rfl
   simp(disch:=first|omega|assumption) only[Al3,go_sem]
   refine goL_st (fun x:Unit=>[]) (fun x H'=>H'=H3) (fun x=>0) () (by simp(disch:=first|omega|assumption) only[Al3,go_sem]) rfl ?_
   rintro⟨⟩ H4 J4 rfl hJ4
   simp(disch:=first|omega|assumption) only[Al3,go_sem]
   refine goZ_ms hbX (by decide) (by have:=ha.le;simpa using this) ?_
   have hr:=ha.rows
   simp only[Al3] at hr
   simp(disch:=first|omega|assumption) only[hr,go_sem]
   refine goK_pure (Yk [] [10] (by simp[Lib.join]) (by simp)) ?_
   have e:yz raw=Lib.join [] [10]:=by
    unfold yz;rw[hDM,hD];rfl
   simp(disch:=first|omega|assumption) only[go_sem]
   exact hQ _ _ _ _ nofun rfl (by simp[tupOf,envOf,AV.strip,AV.strip1,e])
  obtain⟨x,r,hxr⟩:∃ x r,cur=x::r:=by cases cur with|nil=>exact absurd rfl hcur|cons x r=>exact⟨x,r,rfl⟩
  have hxl:x.length≤Lim:=by have:=zbZ (l:=cur) (x:=x) (by rw[hxr];simp);simp only[Lim];omega
  obtain⟨hg,hle⟩:=ha.get (a:=[]) (x:=x) (r:=r) hxr
  simp only[Al3,Nat.zero_mul,Nat.add_zero] at hg hle
  have hcl:cur.length=r.length+1:=by rw[hxr];rfl
  have hpos:((0:Int)<(cur.length:Int))=True:=eq_true (by omega)
  have h1l:((1:Int)≤(cur.length:Int))=True:=eq_true (by omega)
  cases hbr:zR x with
  | true =>
   obtain⟨off2,hcut,hat⟩:=AtR.front (b:=b) (cap:=cp) (by rw[← hxr];exact ha) (by omega)
   rw[← hcl] at hcut
   simp(disch:=first|omega|assumption) only[hpos,hbX,hg,hle,Nat.zero_mul,Nat.add_zero,go_sem]
   refine goK_pure (zaz x hxl) ?_
   simp(disch:=first|omega|assumption) only[hbr,hpos,h1l,hcut,go_sem]
   refine goJ (hJ (off2,cp-1,r) H3 (by simp only;omega) ⟨rfl,hat,by simp only;omega,by rw[← hdw,hxr];simp[hbr],by rw[hxr,Zh] at hw;simp only;omega⟩) (by simp(disch:=first|omega|assumption) only[go_sem])
  | false =>
   have hDc:D.dropWhile zR=cur:=by rw[← hdw,hxr];simp[hbr]
   simp(disch:=first|omega|assumption) only[hpos,hbX,hg,hle,Nat.zero_mul,Nat.add_zero,go_sem]
   refine goK_pure (zaz x hxl) ?_
   simp(disch:=first|omega|assumption) only[hbr,go_sem]
   refine goL_st (fun x:List (List UInt8)=>[(3,.ms b off x.length cp)]) (fun x H'=>H'=H3∧AtR cells off x∧zbI x=zbI cur∧wL x≤wL D∧x.length≤cp) (fun x=>x.length) cur (by simp(disch:=first|omega|assumption) only[go_sem]) ⟨rfl,ha,rfl,hw,hcp⟩ ?_
   rintro u H4 J4 ⟨rfl,ha4,ht4,hw4,hc4⟩ hJ4
   by_cases hu:u=[]
   ·subst hu
    simp(disch:=first|omega|assumption) only[Al3,go_sem]
    refine goZ_ms hbX (by decide) (by have:=ha4.le;simpa using this) ?_
    have hr:=ha4.rows
    simp only[Al3] at hr
    simp(disch:=first|omega|assumption) only[hr,go_sem]
    refine goK_pure (Yk [] [10] (by simp[Lib.join]) (by simp)) ?_
    have e:yz raw=Lib.join [] [10]:=by
     unfold yz;rw[hDM,hDc,← ht4];rfl
    simp(disch:=first|omega|assumption) only[go_sem]
    exact hQ _ _ _ _ nofun rfl (by simp[tupOf,envOf,AV.strip,AV.strip1,e])
   obtain⟨q,y,hqy⟩:=zhX hu
   have hyl:y.length≤Lim:=by have:=zbZ (l:=u) (x:=y) (by rw[hqy];simp);simp only[Lim];omega
   obtain⟨hg4,hle4⟩:=ha4.get (a:=q) (x:=y) (r:=[]) hqy
   have hul:u.length=q.length+1:=by rw[hqy];simp
   have hpos4:((0:Int)<(u.length:Int))=True:=eq_true (by omega)
   have wq:IntKind.wrap .i64 ((u.length:Int)-1)=(q.length:Int):=by rw[wrap64 (by omega) (by have:=zb3 u;omega)];omega
   have h1q:((q.length:Int)<(u.length:Int))=True:=eq_true (by omega)
   have h2q:((q.length:Int)≤(u.length:Int))=True:=eq_true (by omega)
   cases hby:zR y with
   | true =>
    simp(disch:=first|omega|assumption) only[hpos4,wq,h1q,hbX,hg4,hle4,go_sem]
    refine goK_pure (zaz y hyl) ?_
    have hcut:=zds (b:=b) (off:=off) (cap:=cp) (show q.length≤u.length by omega)
    simp(disch:=first|omega|assumption) only[hby,wq,h1q,h2q,hcut,go_sem]
    refine goJ (hJ4 q H4 (by omega) ⟨rfl,AtR.back (x:=y) (by rw[← hqy];exact ha4),by rw[← ht4,hqy,YZ,hby];rfl,by rw[hqy,zhd] at hw4;omega,by omega⟩) (by simp(disch:=first|omega|assumption) only[go_sem])
   | false =>
    have hlen:=zb3 u
    simp(disch:=first|omega|assumption) only[hpos4,wq,h1q,hbX,hg4,hle4,go_sem]
    refine goK_pure (zaz y hyl) ?_
    simp(disch:=first|omega|assumption) only[hby,go_sem]
    refine goZ_ms hbX (by decide) (by have:=ha4.le;omega) ?_
    have hr:=ha4.rows
    have hj:=zcD u
    simp(disch:=first|omega|assumption) only[hr,go_sem]
    refine goK_pure (Yk u [10] (by omega) (by omega)) ?_
    have e:yz raw=Lib.join u [10]:=by
     unfold yz;rw[hDM,hDc,← ht4,hqy,YZ,hby];rfl
    simp(disch:=first|omega|assumption) only[go_sem]
    exact hQ _ _ _ _ nofun rfl (by simp[tupOf,envOf,AV.strip,AV.strip1,e])
 case pos =>
  obtain⟨n,hne⟩:∃ n:Nat,indM (zv raw)=n:=⟨(indM (zv raw)).toNat,by omega⟩
  have hnl:n≤1099511627777:=by
   by_cases hall:∀ s∈(zv raw).tail,zR s=true
   ·have:∀(l:List (List UInt8)),(∀ s∈l,zR s=true)→zbc l (-1)=-1:=by
     intro l
     induction l with
     | nil=>intro _;rfl
     | cons a l ih=>intro h;simp only[zbc,h a (.head _),if_true];exact ih fun s hs=>h s (.tail _ hs)
    have:=this _ hall
    have e:indM (zv raw)=zbc (zv raw).tail (-1):=rfl
    omega
   ·obtain⟨s,hs⟩:=Classical.not_forall.1 hall
    obtain⟨hs,hb2⟩:=Classical.not_imp.1 hs
    have h1:=(zhy (zv raw).tail (-1)).2 s hs (by simpa using hb2)
    have h2:=zbZ (List.mem_of_mem_tail hs)
    have h3:Yj s≤s.length:=(List.takeWhile_sublist _).length_le
    have e:indM (zv raw)=zbc (zv raw).tail (-1):=rfl
    omega
  have hL2:=hL
  rw[hL] at hLl hw0
  have hcap0:=hcap
  rw[hL] at hb hcap0
  have hn':((0:Int)<(n:Int))=True:=eq_true (by omega)
  rw[hne]
  simp(disch:=first|omega|assumption) only[hn',go_sem]
  refine goL_st (fun x:List (List UInt8)×List (List UInt8)=>[(5,.int .i64 ((x.1.length:Int)+1))]) (fun x H'=>T=x.1++x.2∧H' b=some (.cells (yX (x0::(x.1.map (fun s=>s.drop n)++x.2))++tl))) (fun x=>x.2.length) ([],T) (by simp(disch:=first|omega|assumption) only[Al3,go_sem]) ⟨rfl,by simpa using hb⟩ ?_
  rintro⟨dn,rest⟩ H3 J3 ⟨hT,hb3⟩ hJ3
  simp only at hT hb3
  have hll:(zv raw).length=dn.length+rest.length+1:=by rw[hL,hT];simp
  cases rest with
  | nil =>
   have hlt:¬ ((dn.length:Int)+1<((zv raw).length:Int)):=by simp at hll;omega
   obtain⟨D,hDd⟩:∃ D,D=x0::T.map fun s=>s.drop n:=⟨_,rfl⟩
   have hDM:zba (zv raw)=D:=by
    conv=>lhs;rw[hL]
    simp only[zba]
    rw[← hL,hne,hDd];rfl
   have hDl:D.length=(zv raw).length:=by rw[hDd,hL];simp
   have hbX:H3 b=some (.cells (yX D++tl)):=by
    rw[hb3,hDd,hT];simp
   obtain⟨cells,hcells⟩:∃ cells,cells=yX D++tl:=⟨_,rfl⟩
   rw[← hcells] at hbX
   have hwD:wL D≤1099511627777:=by
    have:=zeX n T
    rw[hDd,Zh];rw[Zh] at hw0;omega
   have hcap:D.length+tl.length=cap:=by rw[hDl];exact hcap
   clear hJ3 hb3
   simp(disch:=first|omega|assumption) only[hlt,go_sem]
   refine goL_st (fun x:Nat×Nat×List (List UInt8)=>[(3,.ms b x.1 x.2.2.length x.2.1)]) (fun x H'=>H'=H3∧AtR cells x.1 x.2.2∧x.2.2.length≤x.2.1∧x.2.2.dropWhile zR=D.dropWhile zR∧wL x.2.2≤wL D) (fun x=>x.2.2.length) (0,cap,D) (by simp(disch:=first|omega|assumption) only[hDl,go_sem]) ⟨rfl,⟨[],tl,by rw[hcells,yW],rfl⟩,by simp only;omega,rfl,Al4 _⟩ ?_
   rintro⟨off,cp,cur⟩ H5 J5 ⟨rfl,ha,hcp,hdw,hw⟩ hJ5
   simp only at ha hcp hdw hw
   have stage2:∀ K:Unit,cur=D.dropWhile zR→True:=fun _ _=>trivial
   by_cases hcur:cur=[]
   case pos =>
    subst hcur
    have hD:D.dropWhile zR=[]:=by rw[← hdw];rfl
    simp(disch:=first|omega|assumption) only[Al3,go_sem]
    refine goL_st (fun x:Unit=>[]) (fun x H'=>H'=H5) (fun x=>0) () (by simp(disch:=first|omega|assumption) only[Al3,go_sem]) rfl ?_
    rintro⟨⟩ H4 J4 rfl hJ4
    simp(disch:=first|omega|assumption) only[Al3,go_sem]
    refine goZ_ms hbX (by decide) (by have:=ha.le;simpa using this) ?_
    have hr:=ha.rows
    simp only[Al3] at hr
    simp(disch:=first|omega|assumption) only[hr,go_sem]
    refine goK_pure (Yk [] [10] (by simp[Lib.join]) (by simp)) ?_
    have e:yz raw=Lib.join [] [10]:=by
     unfold yz;rw[hDM,hD];rfl
    simp(disch:=first|omega|assumption) only[go_sem]
    exact hQ _ _ _ _ nofun rfl (by simp[tupOf,envOf,AV.strip,AV.strip1,e])
   obtain⟨x,r,hxr⟩:∃ x r,cur=x::r:=by cases cur with|nil=>exact absurd rfl hcur|cons x r=>exact⟨x,r,rfl⟩
   have hxl:x.length≤Lim:=by have:=zbZ (l:=cur) (x:=x) (by rw[hxr];simp);simp only[Lim];omega
   obtain⟨hg,hle⟩:=ha.get (a:=[]) (x:=x) (r:=r) hxr
   simp only[Al3,Nat.zero_mul,Nat.add_zero] at hg hle
   have hcl:cur.length=r.length+1:=by rw[hxr];rfl
   have hpos:((0:Int)<(cur.length:Int))=True:=eq_true (by omega)
   have h1l:((1:Int)≤(cur.length:Int))=True:=eq_true (by omega)
   cases hbr:zR x with
   | true =>
    obtain⟨off2,hcut,hat⟩:=AtR.front (b:=b) (cap:=cp) (by rw[← hxr];exact ha) (by omega)
    rw[← hcl] at hcut
    simp(disch:=first|omega|assumption) only[hpos,hbX,hg,hle,Nat.zero_mul,Nat.add_zero,go_sem]
    refine goK_pure (zaz x hxl) ?_
    simp(disch:=first|omega|assumption) only[hbr,hpos,h1l,hcut,go_sem]
    refine goJ (hJ5 (off2,cp-1,r) H5 (by simp only;omega) ⟨rfl,hat,by simp only;omega,by rw[← hdw,hxr];simp[hbr],by rw[hxr,Zh] at hw;simp only;omega⟩) (by simp(disch:=first|omega|assumption) only[go_sem])
   | false =>
    have hDc:D.dropWhile zR=cur:=by rw[← hdw,hxr];simp[hbr]
    simp(disch:=first|omega|assumption) only[hpos,hbX,hg,hle,Nat.zero_mul,Nat.add_zero,go_sem]
    refine goK_pure (zaz x hxl) ?_
    simp(disch:=first|omega|assumption) only[hbr,go_sem]
    refine goL_st (fun x:List (List UInt8)=>[(3,.ms b off x.length cp)]) (fun x H'=>H'=H5∧AtR cells off x∧zbI x=zbI cur∧wL x≤wL D∧x.length≤cp) (fun x=>x.length) cur (by simp(disch:=first|omega|assumption) only[go_sem]) ⟨rfl,ha,rfl,hw,hcp⟩ ?_
    rintro u H4 J4 ⟨rfl,ha4,ht4,hw4,hc4⟩ hJ4
    by_cases hu:u=[]
    ·subst hu
     simp(disch:=first|omega|assumption) only[Al3,go_sem]
     refine goZ_ms hbX (by decide) (by have:=ha4.le;simpa using this) ?_
     have hr:=ha4.rows
     simp only[Al3] at hr
     simp(disch:=first|omega|assumption) only[hr,go_sem]
     refine goK_pure (Yk [] [10] (by simp[Lib.join]) (by simp)) ?_
     have e:yz raw=Lib.join [] [10]:=by
      unfold yz;rw[hDM,hDc,← ht4];rfl
     simp(disch:=first|omega|assumption) only[go_sem]
     exact hQ _ _ _ _ nofun rfl (by simp[tupOf,envOf,AV.strip,AV.strip1,e])
    obtain⟨q,y,hqy⟩:=zhX hu
    have hyl:y.length≤Lim:=by have:=zbZ (l:=u) (x:=y) (by rw[hqy];simp);simp only[Lim];omega
    obtain⟨hg4,hle4⟩:=ha4.get (a:=q) (x:=y) (r:=[]) hqy
    have hul:u.length=q.length+1:=by rw[hqy];simp
    have hpos4:((0:Int)<(u.length:Int))=True:=eq_true (by omega)
    have wq:IntKind.wrap .i64 ((u.length:Int)-1)=(q.length:Int):=by rw[wrap64 (by omega) (by have:=zb3 u;omega)];omega
    have h1q:((q.length:Int)<(u.length:Int))=True:=eq_true (by omega)
    have h2q:((q.length:Int)≤(u.length:Int))=True:=eq_true (by omega)
    cases hby:zR y with
    | true =>
     simp(disch:=first|omega|assumption) only[hpos4,wq,h1q,hbX,hg4,hle4,go_sem]
     refine goK_pure (zaz y hyl) ?_
     have hcut:=zds (b:=b) (off:=off) (cap:=cp) (show q.length≤u.length by omega)
     simp(disch:=first|omega|assumption) only[hby,wq,h1q,h2q,hcut,go_sem]
     refine goJ (hJ4 q H4 (by omega) ⟨rfl,AtR.back (x:=y) (by rw[← hqy];exact ha4),by rw[← ht4,hqy,YZ,hby];rfl,by rw[hqy,zhd] at hw4;omega,by omega⟩) (by simp(disch:=first|omega|assumption) only[go_sem])
    | false =>
     have hlen:=zb3 u
     simp(disch:=first|omega|assumption) only[hpos4,wq,h1q,hbX,hg4,hle4,go_sem]
     refine goK_pure (zaz y hyl) ?_
     simp(disch:=first|omega|assumption) only[hby,go_sem]
     refine goZ_ms hbX (by decide) (by have:=ha4.le;omega) ?_
     have hr:=ha4.rows
     have hj:=zcD u
     simp(disch:=first|omega|assumption) only[hr,go_sem]
     refine goK_pure (Yk u [10] (by omega) (by omega)) ?_
     have e:yz raw=Lib.join u [10]:=by
      unfold yz;rw[hDM,hDc,← ht4,hqy,YZ,hby];rfl
     simp(disch:=first|omega|assumption) only[go_sem]
     exact hQ _ _ _ _ nofun rfl (by simp[tupOf,envOf,AV.strip,AV.strip1,e])
  | cons y r =>
   have hlt:((dn.length:Int)+1<((zv raw).length:Int))=True:=eq_true (by simp at hll;omega)
   have hcur:x0::(dn.map (fun s=>s.drop n)++y::r)=(x0::dn.map (fun s=>s.drop n))++y::r:=rfl
   have hg:=zgt hcur tl
   have hle:=zhG hcur tl
   have hal:(x0::dn.map (fun s=>s.drop n)).length=dn.length+1:=by simp
   have hst:∀ z,splice (yX (x0::(dn.map (fun s=>s.drop n)++y::r))++tl) (0+(dn.length+1)*1) [.str z]=yX (x0::(dn.map (fun s=>s.drop n)++z::r))++tl:=fun z=>by
    have:=zjV (x0::dn.map (fun s=>s.drop n)) y z r tl
    rw[hal] at this
    exact this
   rw[hal] at hg hle
   have h1:((dn.length:Int)+1).toNat=dn.length+1:=by omega
   have hy0:((0:Int)≤(y.length:Int))=True:=eq_true (by omega)
   have hln:dn.length≤1099511627777:=by omega
   by_cases hmin:(y.length:Int)<(n:Int)
   ·have hdr:y.drop y.length=y.drop n:=by rw[List.drop_length,List.drop_eq_nil_of_le (by omega)]
    simp(disch:=first|omega|assumption) only[hlt,h1,hb3,hg,hle,hst,hmin,hy0,List.drop_length,go_sem]
    refine goJ (hJ3 (dn++[y],r) _ (by simp) ⟨by rw[hT];simp,?_⟩) (by simp(disch:=first|omega|assumption) only[wrap64,Al5,Al2,Al3,Int.natCast_add,go_sem])
    rw[upd_same]
    simp[List.drop_eq_nil_of_le (show y.length≤n by omega)]
   ·have hny:((n:Int)≤(y.length:Int))=True:=eq_true (by omega)
    have hn0:((0:Int)≤(n:Int))=True:=eq_true (by omega)
    simp(disch:=first|omega|assumption) only[hlt,h1,hb3,hg,hle,hst,hmin,hny,hn0,go_sem]
    refine goJ (hJ3 (dn++[y],r) _ (by simp) ⟨by rw[hT];simp,?_⟩) (by simp(disch:=first|omega|assumption) only[wrap64,Al5,Al2,Al3,Int.natCast_add,go_sem])
    rw[upd_same]
    simp
end Go.Proofs.YtaielcdfcgpbiaaGreatDoor
set_option maxRecDepth 1000000
namespace Go.Proofs.YtaielcdfcgpbiaaGreatDoor
open Go.Shelf Go.RowKit Go.Lib
section
variable {P:Program} {ρ:Ren}
def eol:ByteArray:=⟨#[13,10]⟩
theorem zgC (w:World) (k:Nat) (s:ByteArray) (pos:Nat) (ty:TypeId) (hk:w.heap[k]?=some (.stringIter s pos)) (h:pos<s.size) :
  (Instr.next (.pointer (some ⟨k,0,none⟩)) true ty).run P w =
   .ok (.tuple #[.bool true,.int .i64 pos,.int .i32 (Utf8.decode s pos).1]) { w with heap:=w.heap.setIfInBounds k (.stringIter s (pos+(Utf8.decode s pos).2)) }:=by
 simp only[Instr.next,getObj,setObj,Sem.run_bind,Sem.run,hk,Result.andThen,h,if_true]
 simp[goInt]
theorem zdO (w:World) (k:Nat) (s:ByteArray) (pos:Nat) (ty:TypeId) (hk:w.heap[k]?=some (.stringIter s pos)) (h:¬ pos<s.size) :
  (Instr.next (.pointer (some ⟨k,0,none⟩)) true ty).run P w=.ok (.tuple #[.bool false]) w:=by
 simp[Instr.next,getObj,Sem.run,hk,h]
set_option maxHeartbeats 4000000 in
theorem zfq (L:Lays.n152 P ρ) (w:World) :
  Calls P (ρ.f 152) #[.string eol,.int .i32 65533] w fun e w'=>e=.returned (.int .i64 (-1))∧Below w.heap.size w w':=by
 have t3:=L.t3;have a3:=L.a3;have z3:=L.z3;have v3:=L.v3
 have t4:=L.t4;have a4:=L.a4;have z4:=L.z4;have v4:=L.v4
 have t5:=L.t5;have a5:=L.a5;have z5:=L.z5;have v5:=L.v5
 have t9:=L.t9;have a9:=L.a9;have z9:=L.z9;have v9:=L.v9
 have t21:=L.t21;have a21:=L.a21;have z21:=L.z21;have v21:=L.v21
 have hsz:eol.size=2:=rfl
 go_enter L.f152,Body.n152_ntmps ρ
 go_wp2
 go_loopg [5,6] 2 (fun g _ _ wx=>∃ i:Nat,i+g=2∧wx=w.iter eol i)
 case atStart=>exact⟨0,by omega,rfl⟩
 case round =>
  obtain⟨i,hig,rfl⟩:=hrel
  cases gk with
  | zero =>
   obtain rfl:i=2:=by omega
   have hnx:=fun ty=>run_next_end (P:=P) w eol 2 ty (by decide)
   go_wp2
   go_ret
   exact⟨rfl,(Below.refl _ _).alloc (Al4 _) _⟩
  | succ g =>
   obtain⟨x,hx⟩:∃ x:UInt8,eol[i]'(by rw[hsz];omega)=x:=⟨_,rfl⟩
   have hxl:x.toNat=13∨x.toNat=10:=by
    rcases(by omega:i=0∨i=1) with rfl|rfl
    ·left;rw[← hx];rfl
    ·right;rw[← hx];rfl
   have hnx:=fun ty=>run_next_ascii (P:=P) w eol i ty (by rw[hsz];omega) (by rw[hx];omega)
   rw[hx] at hnx
   have hne:¬ ((x.toNat:Int)=65533):=by omega
   clear hx hxl
   go_wp2
   go_roundg g
   case measure=>omega
   case rel=>exact⟨i+1,by omega,rfl⟩
set_option maxHeartbeats 8000000 in
theorem zdU (L:Lays.n152 P ρ) (r:Int) (h0:128≤r) (h1:r≠65533) (w:World) :
  Calls P (ρ.f 152) #[.string eol,.int .i32 r] w fun e w'=>e=.returned (.int .i64 (-1))∧Below w.heap.size w w':=by
 have t3:=L.t3;have a3:=L.a3;have z3:=L.z3;have v3:=L.v3
 have t4:=L.t4;have a4:=L.a4;have z4:=L.z4;have v4:=L.v4
 have t5:=L.t5;have a5:=L.a5;have z5:=L.z5;have v5:=L.v5
 have t9:=L.t9;have a9:=L.a9;have z9:=L.z9;have v9:=L.v9
 have t21:=L.t21;have a21:=L.a21;have z21:=L.z21;have v21:=L.v21
 have hsz:eol.size=2:=rfl
 have mixed:=L.mixed
 have u21:=run_underlying L.t21;have u9:=run_underlying L.t9
 have e137:∀ args w,(callFunc (ρ.f 137) args).run P w=.ok (.enter (ρ.f 137) args) w:=enters_of L.f137 (by kernel_rfl) rfl
 have e119:∀ args w,(callFunc (ρ.f 119) args).run P w=.ok (.enter (ρ.f 119) args) w:=enters_of L.f119 (by kernel_rfl) rfl
 have hr1:¬ (r<128):=by omega
 cases hv:Lib.validRune r with
 | false =>
  go_enter L.f152,Body.n152_ntmps ρ
  go_wp2_with (go_at_fn (ρ.f 119);refine(Any.utf8_ValidRune { L with } _ _).mono ?_;rintro e w' ⟨rfl,hw⟩;rw[hw,hv])
  go_ret
  exact⟨rfl,Below.refl _ _⟩
 | true =>
  have hv':Utf8.valid r=true:=by
   unfold Lib.validRune at hv
   unfold Utf8.valid
   simp only[YG,Al0,zn] at hv ⊢
   omega
  obtain⟨f1,f2,f3⟩:=encode_facts r hv' h0
  clear hv'
  obtain⟨rs,hrs⟩:∃ rs,Utf8.encode r=rs:=⟨_,rfl⟩
  rw[hrs] at f1 f2 f3
  have hconv:∀ w,(convert (ρ.t 21) (ρ.t 9) (.int .i32 r)).run P w=.ok (.string rs) w:=fun w=>by
   rw[run_convert_int_string w _ _ _ _ (by rw[t21];rfl) t9,hrs]
  have hlast:IntKind.i64.wrap ((rs.size:Int)-1)=(rs.size:Int)-1:=wrap_small _ (by omega) (by omega)
  clear hrs
  by_cases h2:rs.size=2
  ·obtain⟨b0,b1,rfl⟩:∃ b0 b1,rs=⟨#[b0,b1]⟩:=by
    obtain⟨⟨l⟩⟩:=rs
    match l,h2 with
    | [x,y],_=>exact⟨x,y,rfl⟩
   have hb:128≤b1.toNat:=f3 (by show 1<2;decide)
   have hz:(⟨#[b0,b1]⟩:ByteArray).size=2:=rfl
   have hne:¬ ((10:Int)=(b1.toNat:Int)):=by omega
   clear f1 f2 f3 h2
   rw[hz] at hlast
   go_enter L.f152,Body.n152_ntmps ρ
   go_wp2_with (go_at_fn (ρ.f 119);refine(Any.utf8_ValidRune { L with } _ _).mono ?_;rintro e w' ⟨rfl,hw⟩;rw[hw,hv])
   go_step3
   go_wp2
   go_loopg [9,10] 0 (fun g s9 s10 wx=>s9=.int .i64 1∧s10=.int .i64 0∧wx=w)
   case atStart=>exact⟨rfl,rfl,rfl⟩
   case round =>
    obtain⟨rfl,rfl,rfl⟩:=hrel
    go_wp2
    go_step3
    have hx:eol[1]'(by decide)=10:=rfl
    have hy:(⟨#[b0,b1]⟩:ByteArray)[1]'(by show 1<2;decide)=b1:=rfl
    go_wp2
    go_quiet_o (fail)
    go_wp2
    have hsl:∀ w,(Instr.slice (ρ.t 9) (.string eol) (some (.int .i64 2)) none none).run P w=.ok (.string ⟨#[]⟩) w:=fun w=>by
     rw[run_slice_string_from_if w _ eol .i64 2 t9]
     rfl
    generalize hW:World.drewN _ _=W
    have HW:Aside (∃ n,W=wr.drewN n):=⟨_,hW.symm⟩
    clear hW
    have hw2:IntKind.i64.wrap 2=2:=by decide
    go_quiet_o (first|(go_at_fn (ρ.f 137);refine Calls.quiet_of_same (Any.strings_IndexByte { L with } _ _ _)))
    go_wp2
    rw[Exit.noGoto_ret]
    go_wp2
    (try rw[Exit.noGoto_ret])
    (try go_wp2)
    go_ret
    obtain⟨n,rfl⟩:=HW.out
    exact⟨rfl,⟨rfl,rfl,rfl,Al4 _,fun _ _=>rfl⟩⟩
  ·have hlt:¬ ((rs.size:Int)-1<2):=by omega
   go_enter L.f152,Body.n152_ntmps ρ
   go_wp2_with (go_at_fn (ρ.f 119);refine(Any.utf8_ValidRune { L with } _ _).mono ?_;rintro e w' ⟨rfl,hw⟩;rw[hw,hv])
   go_step3
   go_wp2
   go_loopg [9,10] 0 (fun g s9 s10 wx=>s9=.int .i64 ((rs.size:Int)-1)∧s10=.int .i64 0∧wx=w)
   case atStart=>exact⟨rfl,rfl,rfl⟩
   case round =>
    obtain⟨rfl,rfl,rfl⟩:=hrel
    go_wp2
    rw[Exit.noGoto_ret];go_wp2
    go_ret
    exact⟨rfl,Below.refl _ _⟩
theorem zf8 (s:ByteArray) (i:Nat) (h:i<s.size):s.data.toList[i]?=some (s.get! i):=by
 rw[Lib.data_getElem? s i h]
 simp[ByteArray.get!,getElem!_pos,h]
 rfl
theorem zb1 (s:ByteArray) (pos:Nat) (h:pos<s.size) (ha:128≤(s.get! pos).toNat) :
  128≤(Utf8.decode s pos).1∧1≤(Utf8.decode s pos).2∧pos+(Utf8.decode s pos).2≤s.size∧∀ j,j<(Utf8.decode s pos).2→128≤(s.get! (pos+j)).toNat:=by
 have hn:¬ (s.get! (pos+0)).toNat<128:=by simpa using ha
 have h1:∀(c:Nat),128≤c→128≤(c,1).1∧1≤(c,1).2∧pos+(c,1).2≤s.size∧∀ j,j<(c,1).2→128≤(s.get! (pos+j)).toNat:=fun c hc =>
  ⟨hc,Al4 _,by show pos+1≤s.size;omega,fun j hj=>by
   have hj:j<1:=hj
   obtain rfl:j=0:=by omega
   simpa using ha⟩
 have hb:∀ k,(s.get! (pos+k)).toNat / 64=2→128≤(s.get! (pos+k)).toNat:=fun k hk=>by omega
 simp only[Utf8.decode,hn,if_false,Utf8.runeError]
 split
 ·rename_i hc
  simp only[Al0,beq_iff_eq,zn] at hc
  split
  ·rename_i h2
   refine⟨h2,by show 1≤2;omega,by show pos+2≤s.size;omega,fun j hj=>?_⟩
   have hj:j<2:=hj
   rcases(by omega:j=0∨j=1) with rfl|rfl
   ·simpa using ha
   ·exact hb 1 hc.2.2
  ·exact h1 _ (by decide)
 split
 ·rename_i hc
  simp only[Al0,beq_iff_eq,zn] at hc
  split
  ·rename_i h2
   simp only[Al0,zn] at h2
   refine⟨by have:=h2.1;show 128≤_;simp only;omega,by show 1≤3;omega,by show pos+3≤s.size;omega,fun j hj=>?_⟩
   have hj:j<3:=hj
   rcases(by omega:j=0∨j=1∨j=2) with rfl|rfl|rfl
   ·simpa using ha
   ·exact hb 1 hc.1.2.2
   ·exact hb 2 hc.2.2
  ·exact h1 _ (by decide)
 split
 ·rename_i hc
  simp only[Al0,beq_iff_eq,zn] at hc
  split
  ·rename_i h2
   simp only[Al0,zn] at h2
   refine⟨by have:=h2.1;show 128≤_;simp only;omega,by show 1≤4;omega,by show pos+4≤s.size;omega,fun j hj=>?_⟩
   have hj:j<4:=hj
   rcases(by omega:j=0∨j=1∨j=2∨j=3) with rfl|rfl|rfl|rfl
   ·simpa using ha
   ·exact hb 1 hc.1.1.2.2
   ·exact hb 2 hc.1.2.2
   ·exact hb 3 hc.2.2
  ·exact h1 _ (by decide)
 ·exact h1 _ (by decide)
theorem zkt {s:ByteArray} {i k:Nat} (h:NoAny s.data.toList eol.data.toList i) (hk:i+k≤s.size) (hb:∀ j,j<k→128≤(s.get! (i+j)).toNat):NoAny s.data.toList eol.data.toList (i+k):=fun j b hj hjb=>by
 by_cases hlt:j<i
 ·exact h j b hlt hjb
 ·have h1:=hb (j-i) (by omega)
  rw[show i+(j-i)=j by omega] at h1
  rw[zf8 s j (by omega)] at hjb
  cases hjb
  show ([13,10]:List UInt8).contains _=false
  simp only[List.contains_cons,List.contains_nil,Bool.or_false,Bool.or_eq_false_iff,beq_eq_false_iff_ne]
  refine⟨fun e=>?_,fun e=>?_⟩<;>(rw[e] at h1;simp at h1)
set_option maxHeartbeats 8000000 in
theorem zbm (L:Lays.n153 P ρ) (s:ByteArray) (w:World) (h8:s.size≤8) :
  Calls P (ρ.f 153) #[.string s,.string eol] w fun e w'=>e=.returned (.int .i64 (Lib.indexAny s.data.toList eol.data.toList))∧Below w.heap.size w w':=by
 have hemp:eol.toList.isEmpty=false:=by rw[Lib.toList_data];rfl
 have hn0:(eol.size:Int)=2:=rfl
 have hn1:((eol.size:Int)==1)=false:=rfl
 have h8z:decide ((8:Int)<(s.size:Int))=false:=decide_eq_false (by omega)
 have t3:=L.t3;have a3:=L.a3;have z3:=L.z3;have v3:=L.v3
 have t4:=L.t4;have a4:=L.a4;have z4:=L.z4;have v4:=L.v4
 have t5:=L.t5;have a5:=L.a5;have z5:=L.z5;have v5:=L.v5
 have t9:=L.t9;have a9:=L.a9;have z9:=L.z9;have v9:=L.v9
 have t21:=L.t21;have a21:=L.a21;have z21:=L.z21;have v21:=L.v21
 have e152:∀ args w,(callFunc (ρ.f 152) args).run P w=.ok (.enter (ρ.f 152) args) w:=enters_of L.f152 (by kernel_rfl) rfl
 have e226:∀ args w,(callFunc (ρ.f 226) args).run P w=.ok (.enter (ρ.f 226) args) w:=enters_of L.f226 (by kernel_rfl) rfl
 go_enter L.f153,Body.n153_ntmps ρ
 go_wp2_with (go_at_fn (ρ.f 226);refine(Any.strings_shouldUseASCIISet { L with } _ _).mono ?_;rintro e w' ⟨rfl,hw⟩;rw[hw,h8z])
 go_loopg [9,10] s.size (fun g _ _ wx=>∃ i:Nat,i+g=s.size∧(wx.heap[w.heap.size]?=some (.stringIter s i)∧Below w.heap.size w wx)∧Lib.NoAny s.data.toList eol.data.toList i)
 case atStart=>exact⟨0,by omega,⟨World.iter_heap w s 0,(Below.refl _ _).alloc (Al4 _) _⟩,Lib.NoAny.zero _ _⟩
 case round =>
  obtain⟨i,hig,hst,hno⟩:=hrel
  obtain⟨hit,hbe⟩:=hst
  have HN:Aside (Lib.NoAny s.data.toList eol.data.toList i∧Below w.heap.size w wr):=⟨hno,hbe⟩
  clear hno hbe
  cases gk with
  | zero =>
   obtain rfl:i=s.size:=by omega
   have hnx:=fun ty=>zdO (P:=P) wr w.heap.size s s.size ty hit (by omega)
   go_wp2
   go_ret
   exact⟨by rw[Lib.indexAny_none (by rw[← Lib.size_eq];exact HN.out.1)];rfl,HN.out.2⟩
  | succ g =>
   have hi:i<s.size:=by omega
   have hnx:=fun ty=>zgC (P:=P) wr w.heap.size s i ty hit hi
   have hwlt:w.heap.size<wr.heap.size:=(ZZ.1 hit).1
   have hst2:∀ k,({ wr with heap:=wr.heap.setIfInBounds w.heap.size (.stringIter s k) }:World).heap[w.heap.size]?=some (.stringIter s k):=fun k=>by
    show (wr.heap.setIfInBounds w.heap.size (.stringIter s k))[w.heap.size]?=_
    simp[hwlt]
   have hbl2:∀ k,Below w.heap.size w ({ wr with heap:=wr.heap.setIfInBounds w.heap.size (.stringIter s k) }:World):=fun k=>by
    have hb:=HN.out.2
    refine⟨hb.os,hb.tape,hb.output,by simpa using hb.size,fun n hn=>?_⟩
    show (wr.heap.setIfInBounds w.heap.size (.stringIter s k))[n]?=_
    rw[Array.getElem?_setIfInBounds_ne (by omega)]
    exact hb.block n hn
   have HB:Aside ((∀ k,({ wr with heap:=wr.heap.setIfInBounds w.heap.size (.stringIter s k) }:World).heap[w.heap.size]?=some (.stringIter s k))∧(∀ k,Below w.heap.size w ({ wr with heap:=wr.heap.setIfInBounds w.heap.size (.stringIter s k) }:World))∧w.heap.size<wr.heap.size):=⟨hst2,hbl2,hwlt⟩
   clear hst2 hbl2 hwlt hit
   by_cases ha:128≤(s.get! i).toNat
   ·obtain⟨d1,d2,d3,d4⟩:=zb1 s i hi ha
    have HD:Aside (1≤(Utf8.decode s i).2∧i+(Utf8.decode s i).2≤s.size∧∀ j,j<(Utf8.decode s i).2→128≤(s.get! (i+j)).toNat):=⟨d2,d3,d4⟩
    clear d2 d3 d4 ha
    generalize hr:(Utf8.decode s i).1=r at hnx d1
    generalize hk:(Utf8.decode s i).2=k at hnx HD
    clear hr hk
    generalize hW:({ wr with heap:=wr.heap.setIfInBounds w.heap.size (.stringIter s (i+k)) }:World)=W at hnx
    have HW:Aside (W.heap[w.heap.size]?=some (.stringIter s (i+k))∧Below w.heap.size w W):=⟨by rw[← hW];exact HB.out.1 _,by rw[← hW];exact HB.out.2.1 _⟩
    clear hW
    have hru:Calls P (ρ.f 152) #[.string eol,.int .i32 (r:Int)] W fun e w'=>e=.returned (.int .i64 (-1))∧Below W.heap.size W w':=by
     by_cases he:(r:Int)=65533
     ·rw[he];exact zfq { L with } W
     ·exact zdU { L with } _ (by omega) he W
    go_wp2_with (go_at_fn (ρ.f 152);refine hru.mono ?_;rintro e w' ⟨rfl,hw⟩)
    go_roundg (s.size-(i+k))
    case measure=>have:=HD.out.1;omega
    case rel =>
     obtain⟨g1,g2⟩:=HW.out
     obtain⟨f1,f2,f3⟩:=HD.out
     have hlt:w.heap.size<W.heap.size:=(ZZ.1 g1).1
     exact⟨i+k,by omega,⟨by rw[hw.block _ hlt];exact g1,g2.trans (hw.mono (by omega))⟩,zkt HN.out.1 f2 f3⟩
   ·have hx128:(s[i]'hi).toNat<128:=by
     have e:s.get! i=s[i]'hi:=get_at s i hi
     rw[← e];omega
    have hde:Utf8.decode s i=((s[i]'hi).toNat,1):=decode_ascii s i hi hx128
    obtain⟨x,hx⟩:∃ x:UInt8,s[i]'hi=x:=⟨_,rfl⟩
    have hxl:s.data.toList[i]?=some x:=by rw[← hx];exact Lib.data_getElem? s i hi
    have Hx:Aside (s.data.toList[i]?=some x):=hxl
    rw[hde,hx] at hnx
    rw[hx] at hx128
    clear hxl hx ha hde
    have hcon:=Lib.contains_iff_indexByte eol.data.toList x
    have hback:((x.toNat:Int)).toNat.toUInt8=x:=by simp
    generalize hW:({ wr with heap:=wr.heap.setIfInBounds w.heap.size (.stringIter s (i+1)) }:World)=W at hnx
    have HW:Aside (W.heap[w.heap.size]?=some (.stringIter s (i+1))∧Below w.heap.size w W):=⟨by rw[← hW];exact HB.out.1 _,by rw[← hW];exact HB.out.2.1 _⟩
    clear hW
    cases hin:eol.data.toList.contains x
    ·rw[hin] at hcon
     have hlt:¬ ((0:Int)≤Lib.indexByte eol.data.toList x):=of_decide_eq_false hcon.symm
     clear hcon
     go_wp2_with (go_at_fn (ρ.f 152);refine(Any.strings_IndexRune_ascii { L with } _ _ _ (by omega) (by omega)).mono ?_;rintro e w' ⟨rfl,hw⟩;rw[hw,hback])
     go_roundg g
     case measure=>omega
     case rel=>exact⟨i+1,by omega,HW.out,HN.out.1.succ Hx.out hin⟩
    ·rw[hin] at hcon
     have hge:(0:Int)≤Lib.indexByte eol.data.toList x:=of_decide_eq_true hcon.symm
     clear hcon
     go_wp2_with (go_at_fn (ρ.f 152);refine(Any.strings_IndexRune_ascii { L with } _ _ _ (by omega) (by omega)).mono ?_;rintro e w' ⟨rfl,hw⟩;rw[hw,hback])
     go_ret
     exact⟨by rw[Lib.indexAny_hit HN.out.1 Hx.out hin];rfl,HW.out.2⟩
end
end Go.Proofs.YtaielcdfcgpbiaaGreatDoor
namespace Go.Proofs.YtaielcdfcgpbiaaGreatDoor
open Go.Ab Go.Lib
theorem zkV (s:List UInt8) (hs:s.length≤4294967000):Pure Tryz.prog 118 [.str s,.str [13,10]] (.int .i64 (Lib.indexAny s [13,10])):=by
 refine Pure.of_below fun γ w vs ht hv=>?_
 obtain⟨hlv,hr⟩:=hv
 match vs,hlv with
 | [v,u],_ =>
  cases hr 0 _ _ rfl rfl
  cases hr 1 _ _ rfl rfl
  by_cases h8:s.length≤8
  ·exact(zbm (P:=Tryz.prog) Tryz.lays153 ⟨s.toArray⟩ w (by simpa[ByteArray.size] using h8)).mono fun e w' ⟨he,hw⟩=>⟨hw,_,he,.int _ _⟩
  ·refine(Tryz.strings_IndexAny_long (zero_of_info (n:=256) (by kernel_rfl)).1 ⟨s.toArray⟩ ⟨#[13,10]⟩ w (by decide) (by simp only[ByteArray.size,List.size_toArray];omega) (by simp only[ByteArray.size,List.size_toArray];omega) (by decide) (fun j b hj=>?_)).mono fun e w' ⟨he,hw⟩=>⟨?_,_,he,.int _ _⟩
   ·have hj:([13,10]:List UInt8)[j]?=some b:=hj
    match j,hj with
    | 0,hj=>cases hj;decide
    | 1,hj=>cases hj;decide
    | j+2,hj=>simp at hj
   ·rw[hw]
    exact((Go.RowKit.Below.refl _ _).alloc (Al4 _) _).alloc (by simp) _
theorem zkb (r:List UInt8):Lib.indexAny r [13,10]=if r.all yI then -1 else ((r.takeWhile yI).length:Int):=by
 induction r with
 | nil=>rfl
 | cons c r ih =>
  rw[Lib.indexAny,ih]
  by_cases hc:yI c=true
  ·have h1:([13,10]:List UInt8).contains c=false:=by
    unfold yI at hc
    simp at hc
    simp[hc.1,hc.2]
   rw[h1]
   by_cases ha:r.all yI=true
   ·simp[ha,hc]
   ·have h2:¬ (((r.takeWhile yI).length:Int)=-1):=by omega
    simp[ha,hc,h2]
  ·have h1:([13,10]:List UInt8).contains c=true:=by
    unfold yI at hc
    simp at hc
    simp
    rcases Classical.em (c=13) with h|h
    ·exact .inl h
    ·exact .inr (Classical.byContradiction fun h10=>h (hc h10))
   rw[h1]
   simp[hc]
theorem zgg {p:UInt8→Bool}:∀ r:List UInt8,r.all p=true→r.takeWhile p=r
 | [],_=>rfl
 | c::r,h=>by
  simp only[List.all_cons,Al0] at h
  rw[List.takeWhile_cons,if_pos h.1,zgg r h.2]
theorem zaP (c:UInt8) (r:List UInt8):Ze (c::r)=if c=9∨c=10∨c=13∨c=32∨c=44 then 1 else if zfj.isPrefixOf (c::r) then 3 else if c=35 then 1+(r.takeWhile yI).length else 0:=rfl
theorem zm4 (c:UInt8) (r:List UInt8) (hs:(c::r).length≤1000000):Pure Tryz.prog 59 [.str (c::r)] (.int .i64 (Ze (c::r))):=by
 refine Pure.go ir59 ck59 (Al4 _) fun KP Q hQ=>?_
 have hl:((0:Int)<((c::r).length:Int))=True:=eq_true (by simp only[Al2];omega)
 by_cases hw:c=9∨c=10∨c=13∨c=32∨c=44
 ·have e:Ze (c::r)=1:=by rw[zaP,if_pos hw]
  rw[e] at hQ
  rcases hw with rfl|rfl|rfl|rfl|rfl
  ·have hc:((9:UInt8).toNat:Int)=9:=rfl
   simp(disch:=first|omega|assumption) only[ir59,hl,List.getD_cons_zero,hc,go_sem]
   exact hQ _ _ _ _ nofun rfl (by simp[tupOf,envOf,AV.strip,AV.strip1])
  ·have hc:((10:UInt8).toNat:Int)=10:=rfl
   simp(disch:=first|omega|assumption) only[ir59,hl,List.getD_cons_zero,hc,go_sem]
   exact hQ _ _ _ _ nofun rfl (by simp[tupOf,envOf,AV.strip,AV.strip1])
  ·have hc:((13:UInt8).toNat:Int)=13:=rfl
   simp(disch:=first|omega|assumption) only[ir59,hl,List.getD_cons_zero,hc,go_sem]
   exact hQ _ _ _ _ nofun rfl (by simp[tupOf,envOf,AV.strip,AV.strip1])
  ·have hc:((32:UInt8).toNat:Int)=32:=rfl
   simp(disch:=first|omega|assumption) only[ir59,hl,List.getD_cons_zero,hc,go_sem]
   exact hQ _ _ _ _ nofun rfl (by simp[tupOf,envOf,AV.strip,AV.strip1])
  ·have hc:((44:UInt8).toNat:Int)=44:=rfl
   simp(disch:=first|omega|assumption) only[ir59,hl,List.getD_cons_zero,hc,go_sem]
   exact hQ _ _ _ _ nofun rfl (by simp[tupOf,envOf,AV.strip,AV.strip1])
 have nat:∀ k:Nat,(c.toNat:Int)=k→k<256→c=UInt8.ofNat k:=fun k h hk=>UInt8.toNat_inj.1 (by rw[UInt8.toNat_ofNat'];omega)
 have g9:¬ ((c.toNat:Int)=9):=fun e=>hw (.inl (nat 9 e (by decide)))
 have g10:¬ ((c.toNat:Int)=10):=fun e=>hw (.inr (.inl (nat 10 e (by decide))))
 have g13:¬ ((c.toNat:Int)=13):=fun e=>hw (.inr (.inr (.inl (nat 13 e (by decide)))))
 have g32:¬ ((c.toNat:Int)=32):=fun e=>hw (.inr (.inr (.inr (.inl (nat 32 e (by decide))))))
 have g44:¬ ((c.toNat:Int)=44):=fun e=>hw (.inr (.inr (.inr (.inr (nat 44 e (by decide))))))
 simp(disch:=first|omega|assumption) only[ir59,hl,List.getD_cons_zero,g9,g10,g13,g32,g44,go_sem]
 refine goK_pure (Yz (c::r) [239,187,191]) ?_
 by_cases hb:([239,187,191]:List UInt8).isPrefixOf (c::r)=true
 ·have e:Ze (c::r)=3:=by rw[zaP,if_neg hw];exact if_pos hb
  rw[e] at hQ
  simp(disch:=first|omega|assumption) only[hb,go_sem]
  exact hQ _ _ _ _ nofun rfl (by simp[tupOf,envOf,AV.strip,AV.strip1])
 have hb':([239,187,191]:List UInt8).isPrefixOf (c::r)=false:=Bool.eq_false_iff.2 hb
 by_cases h35:c=35
 ·subst h35
  have e:Ze (35::r)=1+(r.takeWhile yI).length:=by rw[zaP,if_neg hw,if_neg (show ¬ (zfj.isPrefixOf _=true) from hb),if_pos rfl]
  rw[e] at hQ
  have hc:((35:UInt8).toNat:Int)=35:=rfl
  simp(disch:=first|omega|assumption) only[hb',hc,go_sem]
  have hp:=zkV (35::r) (by omega)
  rw[zkb] at hp
  have n35:yI 35=true:=rfl
  by_cases ha:r.all yI=true
  ·have e2:=zgg r ha
   have e3:(35::r).all yI=true:=by rw[List.all_cons,n35,ha];rfl
   rw[if_pos e3] at hp
   refine goK_pure hp ?_
   have h0:¬ ((0:Int)≤-1):=by decide
   simp(disch:=first|omega|assumption) only[h0,go_sem]
   exact hQ _ _ _ _ nofun rfl (by simp[tupOf,envOf,AV.strip,AV.strip1,e2,Int.add_comm])
  ·have e3:¬ ((35::r).all yI=true):=by rw[List.all_cons,n35,Bool.true_and];exact ha
   have e2:((35::r).takeWhile yI).length=1+(r.takeWhile yI).length:=by rw[List.takeWhile_cons,if_pos n35];simp;omega
   rw[if_neg e3,e2] at hp
   refine goK_pure hp ?_
   have h0:((0:Int)≤((1+(r.takeWhile yI).length:Nat):Int))=True:=eq_true (by omega)
   simp(disch:=first|omega|assumption) only[h0,go_sem]
   exact hQ _ _ _ _ nofun rfl (by simp[tupOf,envOf,AV.strip,AV.strip1])
 ·have e:Ze (c::r)=0:=by rw[zaP,if_neg hw,if_neg (show ¬ (zfj.isPrefixOf _=true) from hb),if_neg h35]
  rw[e] at hQ
  have g35:¬ ((c.toNat:Int)=35):=fun e=>h35 (nat 35 e (by decide))
  simp(disch:=first|omega|assumption) only[hb',g35,go_sem]
  exact hQ _ _ _ _ nofun rfl (by simp[tupOf,envOf,AV.strip,AV.strip1])
theorem zgE (c:UInt8) (r:List UInt8):yk (c::r)=if (isL c||isD c)=true then 1+yk r else 0:=by
 unfold yk
 rw[List.takeWhile_cons]
 split
 ·simp;omega
 ·rfl
theorem zlu (s:List UInt8) (hs:s.length≤Lim) (h0:isL (s.getD 0 0)=true):Pure Tryz.prog 124 [.str s] (.int .i64 (yk s)):=by
 refine Pure.go ir124 ck124 (Al4 _) fun KP Q hQ=>?_
 simp only[Lim] at hs
 have hr1:=zdH s
 simp(disch:=first|omega|assumption) only[ir124,go_sem]
 refine goL_st (fun n:Nat=>[(3,.int .i64 n)]) (fun n H=>yk s=n+yk (s.drop n)∧n≤s.length) (fun n=>s.length-n) 0 (by simp(disch:=first|omega|assumption) only[go_sem]) ⟨by simp,by omega⟩ ?_
 rintro n H J ⟨hn,hle⟩ hJ
 rcases zbf s n with ⟨h1,h2⟩|⟨h1,h2⟩
 ·have hlt:¬ ((n:Int)<s.length):=by omega
  rw[h1] at hn
  simp only[yk,List.takeWhile_nil,Al3,Nat.add_zero] at hn
  simp(disch:=first|omega|assumption) only[hlt,go_sem]
  exact hQ _ _ _ _ nofun rfl (by simp[tupOf,envOf,AV.strip,AV.strip1,yk,hn])
 ·have hlt:((n:Int)<s.length):=by omega
  rw[h2,zgE] at hn
  simp(disch:=first|omega|assumption) only[hlt,go_sem]
  refine goK_pure (zcF (s.getD n 0)) ?_
  cases hl:isL (s.getD n 0) with
  | true =>
   simp only[hl,Bool.true_or,if_true] at hn
   simp(disch:=first|omega|assumption) only[hl,go_sem]
   exact goJ (hJ (n+1) _ (by omega) ⟨by omega,by omega⟩) (by simp(disch:=first|omega|assumption) only[wrap64,Int.natCast_add,Int.natCast_one,go_sem])
  | false =>
   have hn0:((0:Int)<(n:Int))=True:=eq_true (by
    rcases Nat.eq_zero_or_pos n with e|e
    ·subst e;rw[h0] at hl;cases hl
    ·omega)
   simp(disch:=first|omega|assumption) only[hl,hn0,hlt,go_sem]
   refine goK_pure (zfp (s.getD n 0)) ?_
   cases hd:isD (s.getD n 0) with
   | true =>
    simp only[hl,hd,Bool.or_true,if_true] at hn
    simp(disch:=first|omega|assumption) only[hd,go_sem]
    exact goJ (hJ (n+1) _ (by omega) ⟨by omega,by omega⟩) (by simp(disch:=first|omega|assumption) only[wrap64,Int.natCast_add,Int.natCast_one,go_sem])
   | false =>
    simp only[hl,hd,Bool.or_false,Al7,if_false,Nat.add_zero] at hn
    simp(disch:=first|omega|assumption) only[hd,go_sem]
    exact hQ _ _ _ _ nofun rfl (by simp[tupOf,envOf,AV.strip,AV.strip1,hn])
def ziW (n:Nat) (x:Option (List UInt8×List UInt8)):AV:=match x with
 | some (raw,t)=>.tup [.str (yz raw),.int .i64 ((n-t.length:Nat):Int)]
 | none=>.tup [.str [],.int .i64 0]
theorem zaN:∀(n m:Nat) (raw t:List UInt8),t.length<n→t.length<m→Zd n raw t=Zd m raw t
 | 0,_,_,_,h,_=>absurd h (Nat.not_lt_zero _)
 | _,0,_,_,_,h=>absurd h (Nat.not_lt_zero _)
 | n+1,m+1,raw,[],_,_=>rfl
 | n+1,m+1,raw,c::r,h1,h2=>by
  simp only[Al2] at h1 h2
  simp only[Zd]
  rw[zaN n m (raw++zD) (r.drop 3) (by simp;omega) (by simp;omega),zaN n m (raw++[c]) r (by omega) (by omega)]
theorem zdv:∀(n:Nat) (raw t b t':List UInt8),Zd n raw t=some (b,t')→b.length+t'.length≤raw.length+t.length∧t'.length≤t.length
 | 0,_,_,_,_,h=>by cases h
 | n+1,raw,[],_,_,h=>by cases h
 | n+1,raw,c::r,b,t',h=>by
  simp only[Zd] at h
  split at h
  ·cases h;simp;omega
  split at h
  ·rename_i h2
   have hl:=Zc _ _ h2
   simp only[zgx,Al2,Al3] at hl
   have:=zdv n _ _ _ _ h
   simp[zD] at this ⊢;omega
  ·have:=zdv n _ _ _ _ h
   simp at this ⊢;omega
theorem zj1 (s:List UInt8) (h3:3≤s.length) (hs:s.length≤YY):Pure Tryz.prog 119 [.str s] (ziW s.length (Zd (s.length-2) [] (s.drop 3))):=by
 refine Pure.go ir119 ck119 (Al4 _) fun KP Q hQ=>?_
 simp only[YY] at hs
 obtain⟨R,hR⟩:∃ R,Zd (s.length-2) [] (s.drop 3)=R:=⟨_,rfl⟩
 rw[hR] at hQ
 simp(disch:=first|omega|assumption) only[ir119,go_sem]
 refine goL_st (fun x:Own×List UInt8×Nat=>[(4,.sl x.1 1 (bytesOf x.2.1)),(5,.int .i64 x.2.2)]) (fun x H=>3≤x.2.2∧x.2.2≤s.length∧x.2.1.length+3≤x.2.2∧Zd ((s.drop x.2.2).length+1) x.2.1 (s.drop x.2.2)=R∧Owned H x.1 x.2.1.length 1) (fun x=>s.length-x.2.2) (.nil,[],3) (by simp(disch:=first|omega|assumption) only[bytesOf,go_sem]) ⟨Al4 _,h3,Al4 _,by rw[← hR];simp only[Zq];rw[show s.length-3+1=s.length-2 by omega],rfl⟩ ?_
 rintro⟨o,raw,i⟩ H J ⟨hi3,hi,hrl,hrw,ho⟩ hJ
 simp only at hi3 hi hrl hrw ho
 have hbl:=zr raw
 by_cases hge:s.length≤i
 ·obtain rfl:i=s.length:=by omega
  rw[List.drop_length] at hrw
  have e:R=none:=by rw[← hrw];rfl
  have h1:((s.length:Int)≤(s.length:Int))=True:=eq_true (Int.le_refl _)
  simp(disch:=first|omega|assumption) only[h1,go_sem]
  exact hQ _ _ _ _ nofun rfl (by simp[tupOf,envOf,AV.strip,AV.strip1,ziW,e])
 have hge':¬ ((s.length:Int)≤(i:Int)):=by omega
 have hle:((i:Int)≤(s.length:Int))=True:=eq_true (by omega)
 have hlt:((i:Int)<(s.length:Int))=True:=eq_true (by omega)
 obtain⟨c,r,hd⟩:∃ c r,s.drop i=c::r:=by
  cases hx:s.drop i with
  | nil=>have:=congrArg List.length hx;simp at this;omega
  | cons c r=>exact⟨c,r,rfl⟩
 have hc:s.getD i 0=c:=by
  have:(s.drop i).getD 0 0=c:=by rw[hd];rfl
  simpa[List.getD_eq_getElem?_getD] using this
 have hdl:s.length=i+(r.length+1):=by have:=congrArg List.length hd;simp at this;omega
 rw[hd] at hrw
 simp only[Zd] at hrw
 simp(disch:=first|omega|assumption) only[hge',hle,go_sem]
 refine goK_pure (Yz (s.drop i) [34,34,34]) ?_
 rw[hd]
 by_cases p1:zD.isPrefixOf (c::r)=true
 ·have p1':([34,34,34]:List UInt8).isPrefixOf (c::r)=true:=p1
  have hl3:=Zc _ _ p1
  simp only[zD,Al2,Al3] at hl3
  rw[if_pos p1] at hrw
  simp(disch:=first|omega|assumption) only[p1',zcK,go_sem]
  refine goK_pure (zkW raw (by omega)) ?_
  have e:((s.length-(r.length-2):Nat):Int)=(i:Int)+3:=by omega
  simp(disch:=first|omega|assumption) only[wrap64,go_sem]
  exact hQ _ _ _ _ nofun rfl (by simp[tupOf,envOf,AV.strip,AV.strip1,ziW,← hrw,e])
 have p1':([34,34,34]:List UInt8).isPrefixOf (c::r)=false:=Bool.eq_false_iff.2 p1
 rw[if_neg p1] at hrw
 simp(disch:=first|omega|assumption) only[p1',hle,go_sem]
 refine goK_pure (Yz (s.drop i) [92,34,34,34]) ?_
 rw[hd]
 by_cases p2:zgx.isPrefixOf (c::r)=true
 ·have p2':([92,34,34,34]:List UInt8).isPrefixOf (c::r)=true:=p2
  have hl4:=Zc _ _ p2
  simp only[zgx,Al2,Al3] at hl4
  rw[if_pos p2] at hrw
  simp(disch:=first|omega|assumption) only[p2',go_sem]
  refine goP_ownS (by rw[hbl];exact ho) (by simp[hbl,bytesOf];omega) (by simp[hbl,bytesOf,maxLen];omega) fun o' H' hs2=>?_
  have hdr:s.drop (i+4)=r.drop 3:=by rw[← List.drop_drop,hd];rfl
  simp(disch:=first|omega|assumption) only[wrap64,go_sem]
  refine goJ (hJ (o',raw++zD,i+4) _ (by simp only;omega) ⟨by simp only;omega,by simp only;omega,by simp[zD];omega,?_,?_⟩) (by simp(disch:=first|omega|assumption) only[← zZ,Int.natCast_add,zD,yH,go_sem])
  ·simp only
   rw[hdr,← hrw]
   exact zaN _ _ _ _ (Nat.lt_succ_self _) (by simp;omega)
  ·have h:=hs2.own
   simpa[hbl,bytesOf,zD] using h
 ·have p2':([92,34,34,34]:List UInt8).isPrefixOf (c::r)=false:=Bool.eq_false_iff.2 p2
  rw[if_neg p2] at hrw
  simp(disch:=first|omega|assumption) only[p2',hlt,hc,go_sem]
  refine goP_ownS (by rw[hbl];exact ho) (by simp[hbl];omega) (by simp[hbl,maxLen];omega) fun o' H' hs2=>?_
  have hdr:s.drop (i+1)=r:=by rw[← List.drop_drop,hd];rfl
  simp(disch:=first|omega|assumption) only[wrap64,go_sem]
  refine goJ (hJ (o',raw++[c],i+1) _ (by simp only;omega) ⟨by simp only;omega,by simp only;omega,by simp;omega,?_,?_⟩) (by simp(disch:=first|omega|assumption) only[← Yo,Int.natCast_add,go_sem])
  ·simp only
   rw[hdr,← hrw]
   rfl
  ·have h:=hs2.own
   simpa[hbl] using h
theorem zl3 (c:UInt8):Pure Tryz.prog 121 [.int .u8 (c.toNat:Int)] (.bool (yi c)):=by
 refine Pure.go ir121 ck121 (Al4 _) fun KP Q hQ=>?_
 by_cases h10:c=10
 ·subst h10
  have hc:((10:UInt8).toNat:Int)=10:=rfl
  simp(disch:=first|omega|assumption) only[ir121,hc,go_sem]
  exact hQ _ _ _ _ nofun rfl (by simp[tupOf,envOf,AV.strip,AV.strip1,yi])
 have g10:¬ ((c.toNat:Int)=10):=fun e=>h10 (UInt8.toNat_inj.1 (by show c.toNat=10;omega))
 by_cases h13:c=13
 ·subst h13
  have hc:((13:UInt8).toNat:Int)=13:=rfl
  simp(disch:=first|omega|assumption) only[ir121,hc,go_sem]
  exact hQ _ _ _ _ nofun rfl (by simp[tupOf,envOf,AV.strip,AV.strip1,yi])
 have g13:¬ ((c.toNat:Int)=13):=fun e=>h13 (UInt8.toNat_inj.1 (by show c.toNat=13;omega))
 simp(disch:=first|omega|assumption) only[ir121,g10,g13,go_sem]
 exact hQ _ _ _ _ nofun rfl (by simp[tupOf,envOf,AV.strip,AV.strip1,yi,h10,h13])
theorem zeD (c:UInt8) (r:List UInt8):yt (c::r)=if zD.isPrefixOf (c::r) then (Zd (r.length+1) [] (r.drop 2)).map fun x=>(⟨5,yz x.1⟩,x.2)
  else if c=34 then (Z2 yi r).map fun x=>(⟨5,x.1⟩,x.2)
  else if y7.isPrefixOf (c::r) then some (⟨1,y7⟩,r.drop 2)
  else if 0≤Lib.indexByte zau c then some (⟨1,[c]⟩,r)
  else if isL c then some (⟨2,(c::r).take (yk (c::r))⟩,(c::r).drop (yk (c::r)))
  else if (z1 (c::r)).1=0 then none
  else if ((c::r).drop (z1 (c::r)).1).head?.any fun d=>isL d||isD d||decide (d=46) then none
  else some (⟨(z1 (c::r)).2,(c::r).take (z1 (c::r)).1⟩,(c::r).drop (z1 (c::r)).1):=rfl
def zfI (s:List UInt8):AV:=match yt s with
 | some (x,t)=>.tup [Zs x,.int .i64 ((s.length-t.length:Nat):Int)]
 | none=>.tup [Zs ⟨if s.head?=some 34 then 5 else 0,[]⟩,.int .i64 0]
theorem Zv {s t:List UInt8} {x:Tok} (h:yt s=some (x,t)):zfI s=.tup [Zs x,.int .i64 ((s.length-t.length:Nat):Int)]:=by unfold zfI;rw[h]
theorem YQ {s:List UInt8} (h:yt s=none):zfI s=.tup [Zs ⟨if s.head?=some 34 then 5 else 0,[]⟩,.int .i64 0]:=by unfold zfI;rw[h]
theorem zm0 (c:UInt8) (r:List UInt8) (hs:(c::r).length≤YY):Pure Tryz.prog 60 [.str (c::r)] (zfI (c::r)):=by
 have hcl:(c::r).length=r.length+1:=rfl
 have hg0:(c::r).getD 0 0=c:=rfl
 have ht1:(c::r).take 1=[c]:=rfl
 have ed:(c::r).drop 3=r.drop 2:=rfl
 have hhd:(c::r).head?=some c:=rfl
 have hquo:=fun h34:c=34=>(by rw[h34];exact zkn 121 (by decide +kernel) yi zl3 34 r (by simpa[h34] using hs):Pure Tryz.prog 120 [.str (c::r),.clo 121 [] []] (zfw yi r))
 have ot:=zeD c r
 have hpl3:zD.isPrefixOf (c::r)=true→c=34:=fun p1=>by
  simp only[zD,List.isPrefixOf,Al0,beq_iff_eq] at p1
  exact p1.1.symm
 generalize hsc:c::r=s at *
 refine Pure.go ir60 ck60 (Al4 _) fun KP Q hQ=>?_
 have hsq:=hs
 simp only[YY] at hs
 have hsl:s.length≤Lim:=by simp only[Lim];omega
 have hl:((0:Int)<(s.length:Int))=True:=eq_true (by omega)
 have hl1:((1:Int)≤(s.length:Int))=True:=eq_true (by omega)
 simp(disch:=first|omega|assumption) only[ir60,go_sem]
 refine goA_intro fun b0 hb0=>?_
 simp(disch:=first|omega|assumption) only[hl,hg0,go_sem]
 refine goK_pure (Yz s [34,34,34]) ?_
 by_cases p1:zD.isPrefixOf s=true
 ·have p1':([34,34,34]:List UInt8).isPrefixOf s=true:=p1
  have hl3:=Zc _ _ p1
  simp only[zD,Al2,Al3] at hl3
  have h34:c=34:=hpl3 p1
  simp(disch:=first|omega|assumption) only[p1',go_sem]
  refine goK_pure (zj1 s hl3 hsq) ?_
  have ef:Zd (s.length-2) [] (r.drop 2)=Zd (r.length+1) [] (r.drop 2):=zaN _ _ _ _ (by rw[Zq];omega) (by rw[Zq];omega)
  rw[ed,ef]
  have e1:yt s=(Zd (r.length+1) [] (r.drop 2)).map fun x=>(⟨5,yz x.1⟩,x.2):=by
   rw[ot,if_pos p1]
  cases hx:Zd (r.length+1) [] (r.drop 2) with
  | none =>
   rw[hx] at e1
   have e:=YQ e1
   rw[if_pos (by rw[hhd,h34])] at e
   simp(disch:=first|omega|assumption) only[ziW,go_sem]
   exact hQ _ _ _ [.agg [.int .i64 5,.str []],.int .i64 0] nofun (by simp(disch:=first|omega|assumption) only[ir60,resvs,resv,go_sem]) (by simp[tupOf,AV.strip,AV.strip1,e,Zs])
  | some x =>
   obtain⟨raw,t⟩:=x
   rw[hx] at e1
   have e:=Zv e1
   simp(disch:=first|omega|assumption) only[ziW,go_sem]
   exact hQ _ _ _ [.agg [.int .i64 5,.str (yz raw)],.int .i64 (((s.length-t.length:Nat)):Int)] nofun (by simp(disch:=first|omega|assumption) only[ir60,resvs,resv,go_sem]) (by simp[tupOf,AV.strip,AV.strip1,e,Zs])
 have p1':([34,34,34]:List UInt8).isPrefixOf s=false:=Bool.eq_false_iff.2 p1
 by_cases c34:c=34
 ·have hc:(c.toNat:Int)=34:=by rw[c34];rfl
  simp(disch:=first|omega|assumption) only[p1',hc,go_sem]
  refine goK_pure (hquo c34) ?_
  have e1:yt s=(Z2 yi r).map fun x=>(⟨5,x.1⟩,x.2):=by
   rw[ot,if_neg p1,if_pos c34]
  cases hx:Z2 yi r with
  | none =>
   rw[hx] at e1
   have e:=YQ e1
   rw[if_pos (by rw[hhd,c34])] at e
   simp(disch:=first|omega|assumption) only[zfw,hx,go_sem]
   exact hQ _ _ _ [.agg [.int .i64 5,.str []],.int .i64 0] nofun (by simp(disch:=first|omega|assumption) only[ir60,resvs,resv,go_sem]) (by simp[tupOf,AV.strip,AV.strip1,e,Zs])
  | some x =>
   obtain⟨b,t⟩:=x
   rw[hx] at e1
   have e:=Zv e1
   rw[hcl] at e
   simp(disch:=first|omega|assumption) only[zfw,hx,go_sem]
   exact hQ _ _ _ [.agg [.int .i64 5,.str b],.int .i64 (((r.length+1-t.length:Nat)):Int)] nofun (by simp(disch:=first|omega|assumption) only[ir60,resvs,resv,go_sem]) (by simp[tupOf,AV.strip,AV.strip1,e,Zs])
 have g34:¬ ((c.toNat:Int)=34):=fun e=>c34 (UInt8.toNat_inj.1 (by show c.toNat=34;omega))
 have hno:¬ (s.head?=some 34):=by rw[hhd];simpa using c34
 simp(disch:=first|omega|assumption) only[p1',g34,go_sem]
 refine goK_pure (Yz s [46,46,46]) ?_
 by_cases p2:y7.isPrefixOf s=true
 ·have p2':([46,46,46]:List UInt8).isPrefixOf s=true:=p2
  have hl3:=Zc _ _ p2
  have hd3:y7.length=3:=rfl
  rw[hd3] at hl3
  have e1:yt s=some (⟨1,y7⟩,r.drop 2):=by
   rw[ot,if_neg p1,if_neg c34,if_pos p2]
  have e:=Zv e1
  have e2:s.length-(r.drop 2).length=3:=by rw[Zq];omega
  rw[e2] at e
  have e3:y7=[46,46,46]:=rfl
  simp(disch:=first|omega|assumption) only[p2',go_sem]
  exact hQ _ _ _ [.agg [.int .i64 1,.str [46,46,46]],.int .i64 3] nofun (by simp(disch:=first|omega|assumption) only[ir60,resvs,resv,go_sem]) (by simp[tupOf,AV.strip,AV.strip1,e,Zs,e3])
 have p2':([46,46,46]:List UInt8).isPrefixOf s=false:=Bool.eq_false_iff.2 p2
 simp(disch:=first|omega|assumption) only[p2',go_sem]
 refine goK_pure (zdC zau c) ?_
 by_cases hm:0≤Lib.indexByte zau c
 ·have e1:yt s=some (⟨1,[c]⟩,r):=by
   rw[ot,if_neg p1,if_neg c34,if_neg p2,if_pos hm]
  have e:=Zv e1
  have e2:s.length-r.length=1:=by omega
  rw[e2] at e
  have e3:=ht1
  simp(disch:=first|omega|assumption) only[hm,hl1,e3,go_sem]
  exact hQ _ _ _ [.agg [.int .i64 1,.str [c]],.int .i64 1] nofun (by simp(disch:=first|omega|assumption) only[ir60,resvs,resv,go_sem]) (by simp[tupOf,AV.strip,AV.strip1,e,Zs])
 simp(disch:=first|omega|assumption) only[hm,go_sem]
 refine goK_pure (zcF c) ?_
 by_cases hL:isL c=true
 ·have e1:yt s=some (⟨2,s.take (yk s)⟩,s.drop (yk s)):=by
   rw[ot,if_neg p1,if_neg c34,if_neg p2,if_neg hm,if_pos hL]
  have e:=Zv e1
  have hwl:=zdH s
  have e2:s.length-(s.drop (yk s)).length=yk s:=by rw[Zq];omega
  rw[e2] at e
  have h2:((yk s:Int)≤(s.length:Int))=True:=eq_true (by omega)
  simp(disch:=first|omega|assumption) only[hL,go_sem]
  refine goK_pure (zlu s hsl (by rw[hg0];exact hL)) ?_
  simp(disch:=first|omega|assumption) only[h2,go_sem]
  exact hQ _ _ _ [.agg [.int .i64 2,.str (s.take (yk s))],.int .i64 (yk s:Int)] nofun (by simp(disch:=first|omega|assumption) only[ir60,resvs,resv,go_sem]) (by simp[tupOf,AV.strip,AV.strip1,e,Zs])
 have hL':isL c=false:=by simpa using hL
 simp(disch:=first|omega|assumption) only[hL',go_sem]
 refine goK_pure (zhJ s hsl) ?_
 have hnl:=zfP s
 have hn2:(z1 s).1=0→(z1 s).2=0:=fun h=>by
  unfold z1 at h ⊢
  split at h
  ·rename_i h0;rw[if_pos h0]
  ·rename_i h0;simp only at h;omega
 have e0:yt s=if (z1 s).1=0 then none
   else if (s.drop (z1 s).1).head?.any fun d=>isL d||isD d||decide (d=46) then none
   else some (⟨(z1 s).2,s.take (z1 s).1⟩,s.drop (z1 s).1):=by
  rw[ot,if_neg p1,if_neg c34,if_neg p2,if_neg hm,if_neg hL]
 generalize hnn:(z1 s).1=n at *
 generalize hkk:(z1 s).2=k at *
 have hnle:((n:Int)≤(s.length:Int))=True:=eq_true (by omega)
 have fin:(n≠0→yt s=some (⟨k,s.take n⟩,s.drop n))→zfI s=.tup [Zs ⟨k,s.take n⟩,.int .i64 (n:Int)]:=fun h=>by
  by_cases hz:n=0
  ·rw[if_pos hz] at e0
   rw[YQ e0,if_neg hno,hz,hn2 hz];rfl
  ·rw[Zv (h hz)]
   have e2:s.length-(s.drop n).length=n:=by rw[Zq];omega
   rw[e2]
 have bad:(s.drop n).head?.any (fun d=>isL d||isD d||decide (d=46))=true→zfI s=.tup [Zs ⟨0,[]⟩,.int .i64 0]:=fun h=>by
  have:yt s=none:=by
   rw[e0]
   split
   ·rfl
   ·first|rfl|exact if_pos h
  rw[YQ this,if_neg hno]
 rcases zbf s n with ⟨h1,h2⟩|⟨h1,h2⟩
 ·have hlt:¬ ((n:Int)<(s.length:Int)):=by omega
  have e:=fin fun hz=>by rw[e0,if_neg hz,h1];rfl
  simp(disch:=first|omega|assumption) only[hlt,hnle,go_sem]
  exact hQ _ _ _ [.agg [.int .i64 k,.str (s.take n)],.int .i64 (n:Int)] nofun (by simp(disch:=first|omega|assumption) only[ir60,resvs,resv,go_sem]) (by simp[tupOf,AV.strip,AV.strip1,e,Zs])
 ·have hlt:((n:Int)<(s.length:Int))=True:=eq_true (by omega)
  generalize hdd:s.getD n 0=d at *
  have ha:(s.drop n).head?.any (fun d=>isL d||isD d||decide (d=46))=(isL d||isD d||decide (d=46)):=by rw[h2];rfl
  rw[ha] at bad
  simp(disch:=first|omega|assumption) only[hlt,hdd,go_sem]
  refine goK_pure (zcF d) ?_
  cases hld:isL d with
  | true =>
   have e:=bad (by rw[hld];rfl)
   simp(disch:=first|omega|assumption) only[hld,go_sem]
   exact hQ _ _ _ [.agg [.int .i64 0,.str []],.int .i64 0] nofun (by simp(disch:=first|omega|assumption) only[ir60,resvs,resv,go_sem]) (by simp[tupOf,AV.strip,AV.strip1,e,Zs])
  | false =>
   simp(disch:=first|omega|assumption) only[hld,hlt,hdd,go_sem]
   refine goK_pure (zfp d) ?_
   cases hdg:isD d with
   | true =>
    have e:=bad (by rw[hdg];simp)
    simp(disch:=first|omega|assumption) only[hdg,go_sem]
    exact hQ _ _ _ [.agg [.int .i64 0,.str []],.int .i64 0] nofun (by simp(disch:=first|omega|assumption) only[ir60,resvs,resv,go_sem]) (by simp[tupOf,AV.strip,AV.strip1,e,Zs])
   | false =>
    by_cases h46:d=46
    ·have e:=bad (by rw[h46];simp)
     have g46:(d.toNat:Int)=46:=by rw[h46];rfl
     simp(disch:=first|omega|assumption) only[hdg,hlt,hdd,g46,go_sem]
     exact hQ _ _ _ [.agg [.int .i64 0,.str []],.int .i64 0] nofun (by simp(disch:=first|omega|assumption) only[ir60,resvs,resv,go_sem]) (by simp[tupOf,AV.strip,AV.strip1,e,Zs])
    ·have g46:¬ ((d.toNat:Int)=46):=fun e=>h46 (UInt8.toNat_inj.1 (by show d.toNat=46;omega))
     have e:=fin fun hz=>by rw[e0,if_neg hz,ha,hld,hdg];simp[h46]
     simp(disch:=first|omega|assumption) only[hdg,hlt,hdd,g46,hnle,go_sem]
     exact hQ _ _ _ [.agg [.int .i64 k,.str (s.take n)],.int .i64 (n:Int)] nofun (by simp(disch:=first|omega|assumption) only[ir60,resvs,resv,go_sem]) (by simp[tupOf,AV.strip,AV.strip1,e,Zs])
theorem zkB {l:List UInt8} (hne:l≠[]):(zk l).2≤l.length∧(zk l).1≤1114111:=by
 by_cases h:(zk l).2=0
 ·refine⟨by omega,?_⟩
  unfold zk at h ⊢
  split at h
  ·rename_i h0;rw[if_pos h0];decide
  ·split at h
   ·rename_i h0 h1;rw[if_neg h0,if_pos h1];decide
   ·rename_i h0 h1
    have:=zg2 h0 h1
    have:=this.pos
    omega
 ·obtain⟨e,h1⟩:=zbX hne h
  have hd:=zg2 hne h1
  rw[e]
  refine⟨?_,hd.le⟩
  have hl:=hd.len
  exact hl
theorem zkm (s:List UInt8) (hs:s.length≤Lim):Pure Tryz.prog 58 [.str s] (.bool (za6 s)):=by
 refine Pure.go ir58 ck58 (Al4 _) fun KP Q hQ=>?_
 have hs':=hs
 simp only[Lim] at hs
 simp(disch:=first|omega|assumption) only[ir58,go_sem]
 refine goL_st (fun i:Nat=>[(3,.int .i64 i)]) (fun i H=>za6 s=za6 (s.drop i)∧i≤s.length) (fun i=>s.length-i) 0 (by simp(disch:=first|omega|assumption) only[go_sem]) ⟨by simp,by omega⟩ ?_
 rintro i H J ⟨hn,hle⟩ hJ
 by_cases hlt:i<s.length
 case neg =>
  have hlt':¬ ((i:Int)<s.length):=by omega
  rw[List.drop_of_length_le (by omega)] at hn
  simp(disch:=first|omega|assumption) only[hlt',go_sem]
  exact hQ _ _ _ _ nofun rfl (by simp[tupOf,envOf,AV.strip,AV.strip1,hn,zfF])
 have hlt':((i:Int)<s.length)=True:=eq_true (by omega)
 have hne:s.drop i≠[]:=fun e=>by have:=congrArg List.length e;simp at this;omega
 obtain⟨hk,hcm⟩:=zkB hne
 rw[Zq] at hk
 simp(disch:=first|omega|assumption) only[hlt',go_sem]
 refine goK_pure (zka s i hlt hs') ?_
 rw[zaM hne,List.drop_drop] at hn
 generalize (zk (s.drop i)).1=c at *
 generalize (zk (s.drop i)).2=k at *
 by_cases hk0:0<k
 ·have hk0':((0:Int)<(k:Int))=True:=eq_true (by omega)
  simp(disch:=first|omega|assumption) only[hk0',go_sem]
  refine goK_pure (zmG c hcm) ?_
  cases hsg:Yt c with
  | true =>
   rw[hsg] at hn
   simp only[hk0,decide_true,Bool.true_and] at hn
   simp(disch:=first|omega|assumption) only[wrap64,go_sem]
   exact goJ (hJ (i+k) _ (by omega) ⟨hn,by omega⟩) (by simp(disch:=first|omega|assumption) only[Int.natCast_add,go_sem])
  | false =>
   rw[hsg] at hn
   simp only[Bool.false_and,Bool.and_false] at hn
   simp(disch:=first|omega|assumption) only[go_sem]
   exact hQ _ _ _ _ nofun rfl (by simp[tupOf,envOf,AV.strip,AV.strip1,hn])
 ·have hk0':¬ ((0:Int)<(k:Int)):=by omega
  simp only[hk0,decide_false,Bool.false_and] at hn
  simp(disch:=first|omega|assumption) only[hk0',go_sem]
  exact hQ _ _ _ _ nofun rfl (by simp[tupOf,envOf,AV.strip,AV.strip1,hn])
def readA:Except Int (List Tok)→AV
 | .ok l=>.tup [.sl .no 2 (cKs l),.int .i64 0]
 | .error e=>.tup [.sl .no 2 [],.int .i64 e]
def YT (l:List Tok) (t:List UInt8):Except Int (List Tok):=yD (t.length+1) l t
theorem ziR (l:List Tok):YT l []=.ok l:=rfl
theorem zh9 {l:List Tok} {t:List UInt8} (hne:t≠[]) (h:Ze t≠0):YT l t=YT l (t.drop (Ze t)):=by
 have h1:=zeR t
 have h2:0<t.length:=List.length_pos_iff.2 hne
 unfold YT
 conv=>lhs;unfold yD
 rw[if_neg hne,if_pos h]
 exact Yd _ _ _ _ (by simp;omega) (Nat.lt_succ_self _)
theorem zgQ {l:List Tok} {t:List UInt8} (hne:t≠[]) (h:Ze t=0) (h1:yt t=none):YT l t=.error 2:=by
 unfold YT
 conv=>lhs;unfold yD
 rw[if_neg hne,if_neg (by omega),h1]
theorem zg3 {l:List Tok} {t t':List UInt8} {x:Tok} (hne:t≠[]) (h:Ze t=0) (h1:yt t=some (x,t')):YT l t=YT (l++[x]) t':=by
 have h2:=zbS h1
 unfold YT
 conv=>lhs;unfold yD
 rw[if_neg hne,if_neg (by omega),h1]
 exact Yd _ _ _ _ (by omega) (Nat.lt_succ_self _)
theorem zc2:∀(n:Nat) (raw t b t':List UInt8),Zd n raw t=some (b,t')→t' <:+ t
 | 0,_,_,_,_,h=>by cases h
 | n+1,raw,[],_,_,h=>by cases h
 | n+1,raw,c::r,b,t',h=>by
  simp only[Zd] at h
  split at h
  ·cases h;exact(List.drop_suffix _ _).trans (List.suffix_cons ..)
  split at h
  ·exact(zc2 n _ _ _ _ h).trans ((List.drop_suffix _ _).trans (List.suffix_cons ..))
  ·exact(zc2 n _ _ _ _ h).trans (List.suffix_cons ..)
theorem zfN {s t:List UInt8} {x:Tok} (h:yt s=some (x,t)):t <:+ s:=by
 cases s with
 | nil=>cases h
 | cons c r =>
  simp only[yt] at h
  split at h
  ·cases hr:Zd (r.length+1) [] (r.drop 2) with
   | none=>rw[hr] at h;cases h
   | some y =>
    rw[hr] at h
    simp only[z7,Al1,Al8] at h
    obtain⟨_,rfl⟩:=h
    exact(zc2 _ _ _ _ _ (show Zd _ _ _=some (y.1,y.2) from hr)).trans ((List.drop_suffix _ _).trans (List.suffix_cons ..))
  split at h
  ·cases hr:Z2 yi r with
   | none=>rw[hr] at h;cases h
   | some y =>
    rw[hr] at h
    simp only[z7,Al1,Al8] at h
    obtain⟨_,rfl⟩:=h
    exact(zfy (t':=y.2) (b:=y.1) hr).1.trans (List.suffix_cons ..)
  split at h
  ·cases h;exact(List.drop_suffix _ _).trans (List.suffix_cons ..)
  split at h
  ·cases h;exact List.suffix_cons ..
  split at h
  ·cases h;exact List.drop_suffix _ _
  split at h
  ·cases h
  split at h
  ·cases h
  ·cases h;exact List.drop_suffix _ _
theorem zi5 {s t:List UInt8} {x:Tok} (h:yt s=some (x,t)):s.drop (s.length-t.length)=t:=by
 obtain⟨p,hp⟩:=zfN h
 rw[← hp];simp
theorem zm5 {u:List UInt8} (hne:u≠[]) (hs:u.length≤1000000):Pure Tryz.prog 59 [.str u] (.int .i64 (Ze u)):=by
 cases u with
 | nil=>exact absurd rfl hne
 | cons c r=>exact zm4 c r hs
theorem zne {u:List UInt8} (hne:u≠[]) (hs:u.length≤YY):Pure Tryz.prog 60 [.str u] (zfI u):=by
 cases u with
 | nil=>exact absurd rfl hne
 | cons c r=>exact zm0 c r hs
theorem zlE (s:List UInt8) (hs:s.length≤YY):Pure Tryz.prog 24 [.str s] (readA (y8 s)):=by
 refine Pure.go ir24 ck24 (Al4 _) fun KP Q hQ=>?_
 have hsq:=hs
 simp only[YY] at hs
 by_cases h8:8192<s.length
 ·have g8:((8192:Int)<(s.length:Int))=True:=eq_true (by omega)
  simp(disch:=first|omega|assumption) only[ir24,g8,go_sem]
  exact hQ _ _ _ _ nofun rfl (by simp[tupOf,envOf,AV.strip,AV.strip1,y8,h8,readA])
 have g8:¬ ((8192:Int)<(s.length:Int)):=by omega
 simp(disch:=first|omega|assumption) only[ir24,g8,go_sem]
 refine goK_pure (zkm s (by simp only[Lim];omega)) ?_
 cases hsb:za6 s with
 | false =>
  simp(disch:=first|omega|assumption) only[go_sem]
  exact hQ _ _ _ _ nofun rfl (by simp[tupOf,envOf,AV.strip,AV.strip1,y8,h8,hsb,readA])
 | true =>
  have e0:y8 s=YT [] s:=by unfold y8 YT;rw[if_neg h8,if_pos hsb]
  rw[e0] at hQ
  simp(disch:=first|omega|assumption) only[go_sem]
  refine goL_st (fun x:Own×List Tok×Nat=>[(4,.sl x.1 2 (cKs x.2.1)),(5,.int .i64 x.2.2)]) (fun x H=>x.2.2≤s.length∧x.2.1.length≤x.2.2∧YT [] s=YT x.2.1 (s.drop x.2.2)∧OwnS Heap.emp .nil H x.1 x.2.1.length 2) (fun x=>s.length-x.2.2) (.nil,[],0) (by simp(disch:=first|omega|assumption) only[cKs,List.map_nil,go_sem]) ⟨Nat.zero_le _,Al4 _,rfl,OwnS.refl rfl⟩ ?_
  rintro⟨o,l,i⟩ H J ⟨hi,hll,hr,hso⟩ hJ
  simp only at hi hll hr hso
  have hcl:=zJ l
  by_cases hlt:i<s.length
  case neg =>
   have hlt':¬ ((i:Int)<s.length):=by omega
   rw[List.drop_of_length_le (by omega),ziR] at hr
   simp(disch:=first|omega|assumption) only[hlt',go_sem]
   exact hQ _ _ _ _ nofun rfl (by simp[tupOf,envOf,AV.strip,AV.strip1,hr,readA,Z4])
  have hlt':((i:Int)<s.length)=True:=eq_true (by omega)
  have hle':((i:Int)≤s.length)=True:=eq_true (by omega)
  obtain⟨u,hd⟩:∃ u,s.drop i=u:=⟨_,rfl⟩
  have hdl:s.length=i+u.length:=by have:=congrArg List.length hd;rw[Zq] at this;omega
  have hne:u≠[]:=fun e=>by rw[e] at hdl;simp at hdl;omega
  rw[hd] at hr
  simp(disch:=first|omega|assumption) only[hlt',hle',hd,go_sem]
  refine goK_pure (zm5 hne (by omega)) ?_
  have hgl:=zeR u
  by_cases hg:Ze u=0
  case neg =>
   have hg':((0:Int)<(Ze u:Int))=True:=eq_true (by omega)
   simp(disch:=first|omega|assumption) only[hg',wrap64,go_sem]
   refine goJ (hJ (o,l,i+Ze u) _ (by simp only;omega) ⟨by simp only;omega,by simp only;omega,?_,hso⟩) (by simp(disch:=first|omega|assumption) only[Int.natCast_add,go_sem])
   simp only
   rw[hr,zh9 hne hg,← List.drop_drop,hd]
  have hg':¬ ((0:Int)<(Ze u:Int)):=by omega
  simp(disch:=first|omega|assumption) only[hg',hle',hd,go_sem]
  refine goK_pure (zne hne (by simp only[YY];omega)) ?_
  cases ho:yt u with
  | none =>
   rw[zgQ hne hg ho] at hr
   rw[YQ ho]
   simp(disch:=first|omega|assumption) only[Zs,go_sem]
   refine goA_intro fun b1 hb1=>?_
   simp(disch:=first|omega|assumption) only[go_sem]
   exact hQ _ _ _ _ nofun rfl (by simp[tupOf,envOf,AV.strip,AV.strip1,hr,readA])
  | some x =>
   obtain⟨x,t⟩:=x
   have hlt2:=zbS ho
   have hsf:=zi5 ho
   rw[zg3 hne hg ho] at hr
   rw[Zv ho]
   have hz:¬ (((u.length-t.length:Nat):Int)=0):=by omega
   simp(disch:=first|omega|assumption) only[Zs,go_sem]
   refine goA_intro fun b1 hb1=>?_
   simp(disch:=first|omega|assumption) only[hz,go_sem]
   refine goP_ownS (by rw[hcl];exact(hso.upd hb1).own) (by simp only[hcl,Al2,Al3];omega) (by simp only[hcl,Al2,Al3,maxLen];omega) fun o' H' hs2=>?_
   simp(disch:=first|omega|assumption) only[wrap64,go_sem]
   refine goJ (hJ (o',l++[x],i+(u.length-t.length)) H' (by simp only;omega) ⟨by simp only;omega,by simp;omega,?_,(hso.upd (x:=.cells [.int .i64 x.k,.str x.s]) hb1).trans (by simpa[hcl] using hs2)⟩) (by simp(disch:=first|omega|assumption) only[← Yv,Int.natCast_add,go_sem])
   simp only
   rw[hr,← List.drop_drop,hd,hsf]
end Go.Proofs.YtaielcdfcgpbiaaGreatDoor
namespace Go.Proofs.YtaielcdfcgpbiaaGreatDoor
open Go.Ab
def sp31 : ASp := ⟨27, 2, 5, (.reg [] [⟨some 4, none, .alloc [.int .i64 0], []⟩]), (.seq (.reg [] [⟨some 13, none, .mv (.t 6), []⟩, ⟨some 14, none, .bi .neq .i64 (.t 13) (.k (.int .i64 0)), []⟩])
 (.cond (.t 14) (.seq (.reg [] [⟨some 15, none, .mv (.t 6), []⟩, ⟨none, none, .st 1 (.t 4) (.t 15), []⟩])
 (.ret)) (.skip))), [⟨some 16, none, .mkfn 74 [] [(.t 4)], []⟩], 16, (.seq (.reg [] [⟨some 17, none, .mv (.t 5), []⟩, ⟨some 18, none, .bld [.sl .nil 2 [], .int .i64 0, .int .i64 0] [(0, 1, (.t 17))], []⟩, ⟨some 19, none, .box (.t 18), []⟩, ⟨some 7, none, .mv (.t 19), []⟩])
 (.seq (.reg [] [⟨some 20, none, .mv (.t 1), []⟩, ⟨some 21, none, .mv (.t 7), []⟩, ⟨some 22, none, .callv (.t 20) [(.t 21)], []⟩])
 (.seq (.seq (.reg [] [⟨some 23, none, .mv (.t 7), []⟩, ⟨some 24, none, .call 43 [(.t 23)], []⟩])
 (.cond (.t 24) (.reg [] [⟨some 25, none, .mv (.t 7), []⟩, ⟨some 26, none, .call 75 [(.t 25), (.k (.int .i64 2))], []⟩]) (.skip)))
 (.seq (.reg [] [⟨none, none, .st 1 (.t 4) (.k (.int .i64 0)), []⟩])
 (.ret))))), [.c 4 1 false], some (.reg [] [⟨some 9, none, .mv (.t 0), []⟩, ⟨some 10, none, .call 24 [(.t 9)], []⟩, ⟨some 8, none, .mv (.t 10), []⟩, ⟨some 11, none, .ext (.t 8) 0, []⟩, ⟨some 12, none, .ext (.t 8) 1, []⟩, ⟨some 5, none, .mv (.t 11), []⟩, ⟨some 6, none, .mv (.t 12), []⟩])⟩
theorem ckS31:chkSp Tryz.prog 31 sp31=true:=by kernel_rfl
def df74 : ADfn := ⟨16, 1, 4, [⟨some 1, none, .mv (.t 4), []⟩], (.seq (.reg [] [⟨some 6, none, .mv (.t 1), []⟩, ⟨some 7, none, .tas 120 (.agg [.int .i64 0]) (.t 6), []⟩, ⟨some 5, none, .mv (.t 7), []⟩, ⟨some 8, none, .ext (.t 5) 0, []⟩, ⟨some 9, none, .ext (.t 5) 1, []⟩, ⟨some 2, none, .alloc [.int .i64 0], []⟩, ⟨none, none, .st 1 (.t 2) (.t 8), []⟩, ⟨some 3, none, .mv (.t 9), []⟩])
 (.seq (.reg [] [⟨some 10, none, .mv (.t 3), []⟩])
 (.cond (.t 10) (.reg [] [⟨some 11, none, .fa 0 (.t 2), []⟩, ⟨some 12, none, .ld 1 false (.t 11), []⟩, ⟨none, none, .st 1 (.t 0) (.t 12), []⟩]) (.seq (.reg [] [⟨some 13, none, .mv (.t 1), []⟩, ⟨some 14, none, .ifnil true (.t 13), []⟩])
 (.cond (.t 14) (.reg [] [⟨some 15, none, .mv (.t 1), []⟩, ⟨none, none, .pan (.t 15), []⟩]) (.skip))))))⟩
theorem ckD74:chkDfn Tryz.prog 74 df74=true:=by kernel_rfl
theorem zb5 {P:Program} {KP:AV→Heap→Prop} {items:List AItem} {ρ:Env} {H:Heap} {K:Env→Heap→Prop} (h:∀ Q:AExit→Env→Heap→Prop,(∀ ρ' H',K ρ' H'→Q .normal ρ' H')→goI P KP Q items items [] ρ H):awpItems P KP (annot items) ρ H K :=
 h (fun e ρ H=>match e with|.normal=>K ρ H|_=>True) (fun _ _ h=>h)
theorem Y7 {P:Program} {KP:AV→Heap→Prop} {c:AC} {ρ:Env} {H:Heap} {K:AExit→Env→Heap→Prop} (h:∀(KP':AV→Heap→Prop) (Q:AExit→Env→Heap→Prop),(∀ v H',KP v H'→KP' v H')→(∀ e ρ' H',K e ρ' H'→Q e ρ' H')→goC P KP' Q c [] ρ H):awp P KP c K ρ H :=
 h KP K (fun _ _ h=>h) (fun _ _ _ h=>h)
theorem zlW (H:Heap) (r:Nat) (n:Int):ACalls Tryz.prog 75 [.ptr r 0,.int .i64 n] H (fun e H'=>match e with|.ret v=>False|.pan v=>v=yh n∧H'=H):=by
 refine ACalls.goO (R:=fun _ _=>False) (RP:=fun v H'=>v=yh n∧H'=H) ir75 ck75 (Al4 _) fun KP Q hQ hP=>?_
 simp(disch:=first|omega|assumption) only[ir75,go_sem]
 exact hP _ _ H (Low.refl _) ⟨rfl,rfl⟩
theorem zmA {H:Heap} {b4:Nat} {Q:Heap→Prop} (hq:∀ b x,H b=none→Q (H.upd b x)):ACallsD Tryz.prog 74 [.ptr b4 0] none H Q:=by
 refine ACallsD.of_fn df74 ckD74 (Al4 _) (zb5 fun Q1 hQ1=>?_)
 simp(disch:=first|omega|assumption) only[df74,Option.getD_none,go_sem]
 refine hQ1 _ _ (Y7 fun KP' Q2 hKP hQ2=>?_)
 simp(disch:=first|omega|assumption) only[df74,go_sem]
 refine goA_intro fun b hb=>?_
 simp(disch:=first|omega|assumption) only[go_sem]
 exact hQ2 _ _ _ (hq _ _ hb)
theorem zk3 {H:Heap} {b4:Nat} {c4:List AV} {n:Int} {Q:Heap→Prop} (h4:H b4=some (.cells c4)) (l4:c4.length=1)
  (hq:∀ b x,H b=none→Q ((H.upd b x).upd b4 (.cells [.int .i64 n]))):ACallsD Tryz.prog 74 [.ptr b4 0] (some (yh n)) H Q:=by
 refine ACallsD.of_fn df74 ckD74 (Al4 _) (zb5 fun Q1 hQ1=>?_)
 simp(disch:=first|omega|assumption) only[df74,Option.getD_some,yh,go_sem]
 refine hQ1 _ _ (Y7 fun KP' Q2 hKP hQ2=>?_)
 simp(disch:=first|omega|assumption) only[df74,go_sem]
 refine goA_intro fun b hb=>?_
 have n1:b4≠b:=fun e=>by subst e;rw[hb] at h4;cases h4
 simp(disch:=first|omega|assumption) only[h4,n1,l4,go_sem]
 have e4:splice c4 0 [.int .i64 n]=[.int .i64 n]:=by
  unfold splice;simp only[List.take_zero,yW,Al2,Al3];rw[List.drop_eq_nil_of_le (by rw[l4];decide),List.append_nil]
 rw[e4]
 exact hQ2 _ _ _ (hq _ _ hb)
theorem zb7:∀(n:Nat) (l:List Tok) (s:List UInt8) (e:Int),s.length<n→yD n l s=.error e→e=2
 | 0,_,_,_,h,_=>absurd h (Nat.not_lt_zero _)
 | n+1,l,s,e,h,hr=>by
  simp only[yD] at hr
  split at hr
  ·cases hr
  split at hr
  ·rename_i hne hg
   have h1:=zeR s
   have h2:0<s.length:=List.length_pos_iff.2 hne
   exact zb7 n _ _ _ (by simp;omega) hr
  ·cases ho:yt s with
   | none=>rw[ho] at hr;cases hr;rfl
   | some x =>
    rw[ho] at hr
    have:=zbS (show yt s=some (x.1,x.2) from ho)
    exact zb7 n _ _ _ (by omega) hr
theorem zee {s:List UInt8} {e:Int} (h:y8 s=.error e):e≠0:=by
 unfold y8 at h
 split at h
 ·cases h;decide
 split at h
 ·rw[zb7 _ _ _ _ (Nat.lt_succ_self _) h];decide
 ·cases h;decide
def zl6 (Out:Int→Heap→Prop):AEnd→Heap→Prop:=fun e H'=>match e with|.ret v=>∃ n:Int,v=.int .i64 n∧Out n H'|.pan _=>False
theorem res_run {ρ:Env} {H:Heap} {b4:Nat} {e:Int} (r4:ρ 4=.ptr b4 0) (h4:H b4=some (.cells [.int .i64 e])):resvs ρ H sp31.res=some [.int .i64 e]:=by
 simp(disch:=first|omega|assumption) only[sp31,resvs,resv,r4,h4,go_sem]
theorem zmT {s:List UInt8} {Hc:Heap} {clo:FuncId} {caps:List AV} (hl:s.length≤YY) (hcal:Program.callable Tryz.prog clo=true) (Out:Int→Heap→Prop)
  (h1:∀ n,y8 s=.error n→Out n Hc)
  (h2:∀ L,y8 s=.ok L→∀ r,Hc r=none→ACalls Tryz.prog clo (.ptr r 0::caps) (Hc.upd r (prc L [] 0)) (fun e H'=>match e with
   | .ret _=>∃ p t dp,p++t=L∧H' r=some (prc L p dp)∧Out (if t=[] then 0 else 2) H'
   | .pan v=>∃ n,v=yh n∧∀ H,Out n H)) :
  ACalls Tryz.prog 31 [.str s,.clo clo [] caps] Hc (zl6 Out):=by
 refine ACalls.of_sp sp31 ckS31 (Al4 _) ?_
 unfold awpD
 refine Y7 fun KP Q hKP hQ=>?_
 simp(disch:=first|omega|assumption) only[sp31,go_sem]
 refine goA_intro fun b4 hb4=>?_
 simp(disch:=first|omega|assumption) only[go_sem]
 refine hQ _ _ _ (Y7 fun KP1 Q1 hKP1 hQ1=>?_)
 simp(disch:=first|omega|assumption) only[sp31,go_sem]
 refine goK_pure (Pure.low (zlE s hl)) ?_
 cases hR:y8 s with
 | error n =>
  have hn:¬ (n=0):=zee hR
  simp(disch:=first|omega|assumption) only[readA,go_sem]
  refine hQ1 _ _ _ (Y7 fun KP2 Q2 hKP2 hQ2=>?_)
  simp(disch:=first|omega|assumption) only[sp31,hn,go_sem]
  refine hQ2 _ _ _ ?_
  show finQ sp31.res (zl6 Out) .ret _ _
  simp only[finQ]
  rw[res_run (b4:=b4) (e:=n) rfl (upd_same ..)]
  exact⟨Hc,(Low.refl _).upd hb4,n,rfl,h1 n hR⟩
 | ok L =>
  simp(disch:=first|omega|assumption) only[readA,go_sem]
  refine hQ1 _ _ _ (Y7 fun KP2 Q2 hKP2 hQ2=>?_)
  simp(disch:=first|omega|assumption) only[sp31,go_sem]
  refine hQ2 _ _ _ (zb5 fun Q3 hQ3=>?_)
  simp(disch:=first|omega|assumption) only[sp31,go_sem]
  refine hQ3 _ _ ⟨74,_,rfl,by decide +kernel,Y7 fun KP4 Q4 hKP4 hQ4=>?_⟩
  have fin:∀(ρ1:Env) (H H2:Heap) (e:Int),ρ1 4=.ptr b4 0→H b4=some (.cells [.int .i64 e])→Low H2 H→Out e H2→finS sp31 (zl6 Out) ρ1 H:=by
   intro ρ1 H H2 e r4 g4 hlow ho
   refine⟨_,res_run (b4:=b4) (e:=e) ?_ g4,H2,hlow,e,rfl,ho⟩
   rw[keep_get,if_pos (by decide)];exact r4
  have hpan:∀(n:Int) (H0 H':Heap) (c4:List AV),Low H0 H'→H0 b4=some (.cells c4)→c4.length=1→(∀ H,Out n H)→KP4 (yh n) H':=by
   intro n H0 H' c4 hlow g4 l4 ho
   exact hKP4 _ _ ⟨H0,hlow,zk3 g4 l4 fun b x hb=>fin _ _ Heap.emp n rfl (upd_same ..) (Low.of_sub (sub_emp _)) (ho _)⟩
  simp(disch:=first|omega|assumption) only[sp31,go_sem]
  refine goA_intro fun br hbr=>?_
  have hbr4:br≠b4:=fun e=>by subst e;rw[upd_same] at hbr;cases hbr
  have hbrH:Hc br=none:=by rw[upd_ne hbr4] at hbr;exact hbr
  simp(disch:=first|omega|assumption) only[hcal,go_sem]
  obtain⟨x4,hx4⟩:∃ x4:AObj,x4=.cells [.int .i64 0]:=⟨_,rfl⟩
  have hun:(Hc.upd b4 (.cells [.int .i64 0])).upd br (.cells [.sl .no 2 (cKs L),.int .i64 0,.int .i64 0])=Heap.union (Hc.upd br (prc L [] 0)) (Heap.one b4 x4):=by
   funext c
   by_cases e1:c=br
   ·subst e1;rw[upd_same];simp[Heap.union,Heap.upd,prc]
   ·rw[upd_ne e1]
    by_cases e2:c=b4
    ·subst e2;rw[upd_same];simp[Heap.union,Heap.upd,Heap.one,e1,hb4,hx4]
    ·rw[upd_ne e2];simp[Heap.union,Heap.upd,Heap.one,e1,e2]
  have hd:Heap.Disj (Hc.upd br (prc L [] 0)) (Heap.one b4 x4):=fun c=>by
   by_cases e:c=b4
   ·subst e;exact .inl (by rw[upd_ne (Ne.symm hbr4)];exact hb4)
   ·exact .inr (by simp[Heap.one,e])
  have hc:=ACalls.frame hd (h2 L hR br hbrH)
  rw[hun]
  refine goK_calls hc fun e H' ⟨A',hq,hd',hH'⟩=>?_
  subst hH'
  have hB4:Heap.one b4 x4 b4=some (.cells [.int .i64 0]):=by simp[Heap.one,hx4]
  have hA4:A' b4=none:=by
   rcases hd' b4 with h|h
   ·exact h
   ·rw[hB4] at h;cases h
  have g4:Heap.union A' (Heap.one b4 x4) b4=some (.cells [.int .i64 0]):=by simp[Heap.union,hA4,hB4]
  cases e with
  | pan v =>
   obtain⟨n,hv,ho⟩:=hq
   subst hv
   exact hpan n (Heap.one b4 x4) _ _ (Low.of_sub fun c x hc=>by
    rcases hd' c with h|h
    ·simp[Heap.union,h,hc]
    ·rw[hc] at h;cases h) hB4 rfl ho
  | ret v =>
   obtain⟨p,t,dp,hp,hr,ho⟩:=hq
   have gr:Heap.union A' (Heap.one b4 x4) br=some (prc L p dp):=by simp[Heap.union,hr]
   have lowA:∀ b x (Hx:Heap),(∀ c y,A' c=some y→Hx c=some y)→Hx b=none→Low A' ((Hx.upd b x).upd b4 (.cells [.int .i64 0]))∧Low A' ((Hx.upd b x).upd b4 (.cells [.int .i64 2])):=fun b x Hx hs hb=>by
    have sub:∀ z,∀ c y,A' c=some y→((Hx.upd b x).upd b4 z) c=some y:=fun z c y hcy=>by
     rw[upd_ne (fun e=>by rw[e,hA4] at hcy;cases hcy),upd_ne (fun e=>by rw[← e,hs _ _ hcy] at hb;cases hb)]
     exact hs _ _ hcy
    exact⟨Low.of_sub (sub _),Low.of_sub (sub _)⟩
   have subU:∀ c y,A' c=some y→Heap.union A' (Heap.one b4 x4) c=some y:=fun c y hc=>by simp[Heap.union,hc]
   show goR _ _ _ _ _ _ _ _ _
   simp(disch:=first|omega|assumption) only[go_sem]
   refine goK_ret (zi6 hp gr) fun v5 H5 ⟨hv5,hH5⟩=>?_
   subst hv5;subst hH5
   cases t with
   | nil =>
    simp only[if_true] at ho
    simp(disch:=first|omega|assumption) only[g4,go_sem]
    refine hQ4 _ _ _ ⟨_,Low.refl _,zmA fun b y hb=>?_⟩
    have n4:b4≠b:=fun e=>by subst e;rw[upd_same] at hb;cases hb
    refine fin _ _ A' 0 rfl (by rw[upd_ne n4,upd_same]) ?_ ho
    refine Low.of_sub fun c z hcz=>?_
    have hc4:c≠b4:=fun e=>by rw[e,hA4] at hcz;cases hcz
    have hcb:c≠b:=fun e=>by rw[← e,upd_ne hc4,subU _ _ hcz] at hb;cases hb
    rw[upd_ne hcb,upd_ne hc4];exact subU _ _ hcz
   | cons a u =>
    rw[if_neg (by simp)] at ho
    simp(disch:=first|omega|assumption) only[go_sem]
    exact goK_both (zlW _ br 2) (fun _ _ h=>h.elim) fun v H6 ⟨h6,h7⟩=>by
     subst h6;subst h7
     exact hKP4 _ _ ⟨_,Low.refl _,zk3 g4 rfl fun b y hb=>fin _ _ A' 2 rfl (upd_same ..) (lowA b y _ subU hb).2 ho⟩
def Zr {α:Type} (f:TS→PR α):Prop:=∀ t n,f t=.error n→n≠0
theorem zp {α β:Type} {x:PR α} {f:α→TS→PR β} {e:Int} (h:pb x f=.error e) (hx:∀ n,x=.error n→n≠0) (hf:∀ a t,x=.ok (a,t)→f a t=.error e→e≠0):e≠0:=by
 rcases x with n|⟨a,t⟩
 ·cases h;exact hx _ rfl
 ·exact hf a t rfl h
theorem yx (m:List UInt8):Zr (yr m):=fun t n h=>by
 unfold yr at h
 split at h
 ·cases h
 ·cases h;decide
theorem ya:Zr z8:=fun t n h=>by
 unfold z8 at h
 split at h
 ·cases h
 ·cases h;decide
theorem zdb (ty:TyD):Zr (zaB ty):=fun t n h=>by
 unfold zaB at h
 split at h<;>cases h
theorem zbD {α:Type} {m:List UInt8} {f:TS→PR α} (hf:Zr f) (hl:∀ t a t',f t=.ok (a,t')→t'.length<t.length):∀(n:Nat) (l:List α) (t:TS) (e:Int),t.length<n→zI m f n l t=.error e→e≠0
 | 0,_,_,_,h,_=>absurd h (Nat.not_lt_zero _)
 | n+1,l,t,e,hn,h=>by
  rw[zI] at h
  split at h
  ·cases h
  ·exact zp h (fun k hk=>hf _ _ hk) fun a t' ha h'=>zbD hf hl n _ _ _ (by have:=hl _ _ _ ha;omega) h'
theorem YS {α:Type} {m:List UInt8} {f:TS→PR α} (hf:Zr f) (hl:∀ t a t',f t=.ok (a,t')→t'.length<t.length):Zr (yw m f):=fun t n h =>
 zp h (fun k hk=>hf _ _ hk) fun a t' ha h'=>zbD hf hl _ _ _ _ (Nat.lt_succ_self _) h'
theorem zb4 {α:Type} {m:List UInt8} {f:TS→PR α} (hf:Zr f) (hl:∀ t a t',f t=.ok (a,t')→t'.length<t.length):∀(n:Nat) (l:List α) (t:TS) (e:Int),t.length<n→yn m f n l t=.error e→e≠0
 | 0,_,_,_,h,_=>absurd h (Nat.not_lt_zero _)
 | n+1,l,t,e,hn,h=>by
  rw[yn] at h
  split at h
  ·rename_i hp
   have hlt:=zcJ hp
   exact zp h (fun k hk=>hf _ _ hk) fun a t' ha h'=>zb4 hf hl n _ _ _ (by have:=hl _ _ _ ha;omega) h'
  ·cases h
theorem zfl:∀ k,Zr (zac k)
 | 0=>fun t n h=>by
  rw[Z0,zcy.eq_def] at h
  split at h
  ·cases h;decide
  ·exact zp h (fun k hk=>ya _ _ hk) fun s t1 _ h'=>zdb _ _ _ h'
 | k+1=>fun t n h=>by
  rw[Z0,zcy.eq_def] at h
  split at h
  ·exact zp h (fun e he=>zfl k _ _ he) fun ty t1 _ h'=>zp h' (fun e he=>yx _ _ _ he) fun _ t2 _ h''=>zdb _ _ _ h''
  ·exact zp h (fun k hk=>ya _ _ hk) fun s t1 _ h'=>zdb _ _ _ h'
theorem zdq {f:TS→PR Val} (hf:Zr f):Zr (zN f):=fun t n h =>
 zp h (fun e he=>ya _ _ he) fun s t1 _ h'=>zp h' (fun e he=>yx _ _ _ he) fun _ t2 _ h2=>zp h2 (fun e he=>hf _ _ he) fun x t3 _ h3=>by cases h3
theorem zhZ {fixed:Bool} {sub:Option (TS→PR Val)} (hs:∀ f,sub=some f→Zr f∧GP bV wfV 1 f):Zr (ZY fixed sub):=fun t n h=>by
 rw[ZY.eq_def] at h
 split at h
 ·cases h
 split at h
 ·cases h
 split at h
 ·cases h
 split at h
 ·cases sub with
  | none=>cases h;decide
  | some f =>
   obtain⟨h1,h2⟩:=hs f rfl
   exact zp h (fun e he=>zbD h1 (h2.lt (by decide)) _ _ _ _ (Nat.lt_succ_self _) he) fun l t' _ h'=>by cases h'
 split at h
 ·cases sub with
  | none=>cases h;decide
  | some f =>
   obtain⟨h1,h2⟩:=hs f rfl
   exact zp h (fun e he=>zbD (zdq h1) ((yT h2).lt (by decide)) _ _ _ _ (Nat.lt_succ_self _) he) fun l t' _ h'=>by cases h'
 split at h
 ·cases h;decide
 ·exact zp h (fun e he=>yx _ _ _ he) fun _ t1 _ h1=>zp h1 (fun e he=>ya _ _ he) fun s t2 _ h2=>by cases h2
theorem zeY (fixed:Bool):∀ k,Zr (yA fixed k)
 | 0=>fun t n h=>zhZ (sub:=none) (fun f hf=>by cases hf) t n (by rw[zU] at h;exact h)
 | k+1=>fun t n h=>zhZ (sub:=some (yA fixed k)) (fun f hf=>by cases hf;exact⟨zeY fixed k,Zk fixed k⟩) t n (by rw[zU] at h;exact h)
theorem zje (fixed:Bool) (k:Nat):Zr (YB fixed k):=fun t n h=>by
 unfold YB at h
 split at h
 ·exact YS (zdq (zeY fixed k)) ((yT (Zk fixed k)).lt (by decide)) _ _ h
 ·cases h
theorem zks (fixed:Bool) (k:Nat):Zr (zcw fixed k):=fun t n h =>
 zp h (fun e he=>ya _ _ he) fun s t1 _ h1=>zp h1 (fun e he=>zje _ _ _ _ he) fun a t2 _ h2=>by cases h2
theorem zj0 (fixed:Bool) (k:Nat):Zr (zay fixed k):=fun t n h =>
 zb4 (zks fixed k) ((zc1 fixed k).lt (by decide)) _ _ _ _ (Nat.lt_succ_self _) h
theorem zjN (p:List UInt8→Bool):∀ l:List (List UInt8),wL (l.dropWhile p)≤wL l
 | []=>Al4 _
 | x::r=>by
  rw[List.dropWhile_cons]
  split
  ·have:=zjN p r;rw[Zh];omega
  ·exact Al4 _
theorem zjy (l:List (List UInt8)):wL l.reverse=wL l:=by
 induction l with
 | nil=>rfl
 | cons x r ih=>rw[List.reverse_cons,zhd,ih,Zh,Zh];simp[wL];omega
theorem zhm (raw:List UInt8):(yz raw).length≤raw.length+1:=by
 have h1:=zaH raw []
 have h2:wL (zba (zv raw))≤wL (zv raw):=by
  cases hx:zv raw with
  | nil=>exact Al4 _
  | cons x r =>
   simp only[zba]
   rw[Zh,Zh]
   have:=zeX (indM (x::r)).toNat r
   omega
 unfold yz zbI
 have h3:=zcD ((((zba (zv raw)).dropWhile zR).reverse.dropWhile zR).reverse)
 rw[zjy] at h3
 have h4:=zjN zR ((zba (zv raw)).dropWhile zR).reverse
 rw[zjy] at h4
 have h5:=zjN zR (zba (zv raw))
 have h6:wL (zv raw)≤raw.length+1:=by simpa[wL,zv] using h1
 omega
theorem zlJ {s t:List UInt8} {x:Tok} (h:yt s=some (x,t)):x.s.length+t.length≤s.length+1:=by
 cases s with
 | nil=>cases h
 | cons c r =>
  rw[zeD] at h
  split at h
  ·cases hr:Zd (r.length+1) [] (r.drop 2) with
   | none=>rw[hr] at h;cases h
   | some y =>
    rw[hr] at h
    simp only[z7,Al1,Al8] at h
    obtain⟨rfl,rfl⟩:=h
    have h1:=(zdv _ _ _ _ _ (show Zd _ _ _=some (y.1,y.2) from hr)).1
    have h2:=zhm y.1
    simp at h1 ⊢
    omega
  split at h
  ·cases hr:Z2 yi r with
   | none=>rw[hr] at h;cases h
   | some y =>
    rw[hr] at h
    simp only[z7,Al1,Al8] at h
    obtain⟨rfl,rfl⟩:=h
    have h1:=zlF (show Z2 yi r=some (y.1,y.2) from hr)
    simp only[Al2]
    omega
  split at h
  ·rename_i hp
   have hl:=Zc _ _ hp
   have hd3:y7.length=3:=rfl
   rw[hd3] at hl
   cases h;simp[hd3] at hl ⊢;omega
  split at h
  ·cases h;simp;omega
  split at h
  ·cases h;simp;omega
  split at h
  ·cases h
  split at h
  ·cases h
  ·cases h;simp;omega
theorem ze3:∀(n:Nat) (l:List Tok) (s:List UInt8) (l':List Tok),yD n l s=.ok l'→wT l'≤wT l+6*s.length
 | 0,_,_,_,h=>by cases h
 | n+1,l,s,l',h=>by
  simp only[yD] at h
  split at h
  ·cases h;omega
  split at h
  ·have:=ze3 n _ _ _ h
   simp at this;omega
  ·cases ho:yt s with
   | none=>rw[ho] at h;cases h
   | some x =>
    rw[ho] at h
    have h1:=zbS (show yt s=some (x.1,x.2) from ho)
    have h2:=zlJ (show yt s=some (x.1,x.2) from ho)
    have h3:=ze3 n _ _ _ h
    have h4:wT (l++[x.1])=wT l+wK x.1:=by simp[wT]
    rw[h4,wK] at h3
    omega
theorem zkC {s:List UInt8} {L:List Tok} (h:y8 s=.ok L):wT L≤zH:=by
 obtain⟨h1,_,h3⟩:=zf5 h
 have h4:=ze3 _ _ _ _ h3
 have e:wT ([]:List Tok)=0:=rfl
 rw[e] at h4
 simp only[zH];omega
theorem zlZ {b4 b6:Nat} {x y:AObj} (h:b6≠b4):(Heap.emp.upd b4 x).upd b6 y=Heap.union (Heap.one b6 y) (Heap.one b4 x):=by
 funext c
 by_cases e1:c=b6
 ·subst e1;simp[Heap.union,Heap.upd,Heap.one]
 ·by_cases e2:c=b4
  ·subst e2;simp[Heap.union,Heap.upd,Heap.one,e1]
  ·simp[Heap.union,Heap.upd,Heap.one,e1,e2,Heap.emp]
theorem zkz {b4 b6:Nat} {x y:AObj} (h:b6≠b4):Heap.Disj (Heap.one b6 y) (Heap.one b4 x):=fun c=>by
 by_cases e:c=b4
 ·subst e;exact .inl (by simp[Heap.one,Ne.symm h])
 ·exact .inr (by simp[Heap.one,e])
theorem zmg {A:Heap} {b4:Nat} {x:AObj} (h:Heap.Disj A (Heap.one b4 x)):Heap.union A (Heap.one b4 x) b4=some x:=by
 have hB:Heap.one b4 x b4=some x:=by simp[Heap.one]
 rcases h b4 with h|h
 ·simp[Heap.union,h,hB]
 ·rw[hB] at h;cases h
theorem zm2 {A B:Heap} {b:Nat} {x:AObj} (h:A b=some x):Heap.union A B b=some x:=by simp[Heap.union,h]
end Go.Proofs.YtaielcdfcgpbiaaGreatDoor

namespace Go.Proofs.YtaielcdfcgpbiaaGreatDoor
open Go.Ab
theorem zh4 (a b:List DirD) (ha:bDs a≤Lim):Pure Tryz.prog 109 [.sl .no 2 (cDs a),.sl .no 2 (cDs b)] (.bool (eqd a b)):=by
 refine Pure.go ir109 ck109 (Al4 _) fun KP Q hQ=>?_
 have h1:=zbE a
 have h2:=zbE b
 have hla:=zeP a
 simp only[Lim] at ha
 by_cases hl:a.length=b.length
 case neg =>
  have hl':¬ ((a.length:Int)=b.length):=by omega
  have hne:a≠b:=fun e=>hl (by rw[e])
  simp(disch:=first|omega|assumption) only[ir109,h1,h2,hl',go_sem]
  exact hQ _ _ _ _ nofun rfl (by simp[tupOf,envOf,AV.strip,AV.strip1,zl hne])
 have hl':((a.length:Int)=b.length)=True:=eq_true (by omega)
 simp(disch:=first|omega|assumption) only[ir109,h1,h2,hl',go_sem]
 refine goL_range a 5 (fun _:Unit=>[]) (fun done rest n H=>b.take done.length=done) () (by simp(disch:=first|omega|assumption) only[go_sem]) rfl ?_ ?_
 ·rintro n H J hp hlt
  simp(disch:=first|omega|assumption) only[h1,hlt,go_sem]
  exact hQ _ _ _ _ nofun rfl (by simp[tupOf,envOf,AV.strip,AV.strip1,zP (zbG hl hp)])
 ·rintro done x rest n H J hd hlt _ hp hJ
  obtain⟨y,r,hb⟩:=zbK hd hl hp
  have g1:=zcB hd
  have g2:=zcB hb
  have hlt2:(done.length:Int)<b.length:=by omega
  have hbm:=zfe done x rest
  rw[← hd] at hbm
  have hst:=zal hb
  have hne:x≠y→a≠b:=zdK hd hb
  obtain⟨s,v⟩:=x
  obtain⟨t,u⟩:=y
  simp only[bD] at hbm
  by_cases hs:s=t
  case neg =>
   have hne2:=hne (by simp[hs])
   simp(disch:=first|omega|assumption) only[h1,h2,hlt,hlt2,g1,g2,hs,cD,go_sem]
   exact hQ _ _ _ _ nofun rfl (by simp[tupOf,envOf,AV.strip,AV.strip1,zl hne2])
  simp(disch:=first|omega|assumption) only[h1,h2,hlt,hlt2,g1,g2,hs,cD,go_sem]
  refine goK_pure (ziY v u (by simp only[Lim];omega)) ?_
  by_cases hv:v=u
  ·simp(disch:=first|omega|assumption) only[zP hv,go_sem]
   exact goJ (hJ () _ (by rw[hs,hv];exact hst)) (by simp(disch:=first|omega|assumption) only[wrap64,go_sem])
  ·have:=hne (by simp[hv])
   simp(disch:=first|omega|assumption) only[zl hv,go_sem]
   exact hQ _ _ _ _ nofun rfl (by simp[tupOf,envOf,AV.strip,AV.strip1,zl this])
theorem zf9 {P:Tok→Prop} {a b:Tok} {l:List Tok} (ha:P a) (hb:P b) (hl:∀ x∈l,P x):∀ x∈a::(l++[b]),P x:=fun x hx=>by
 rcases List.mem_cons.1 hx with rfl|hx
 ·exact ha
 rcases List.mem_append.1 hx with hx|hx
 ·exact hl x hx
 ·rw[List.mem_singleton] at hx;subst hx;exact hb
mutual
theorem zfb:∀ v:Val,zah zq v=true→wfV v→∀ x∈zF v,zj x=true
 | .mk k n s l m,h,hw=>by
  simp only[zah] at h
  simp only[zF]
  have rm:∀ c:UInt8,zdu [c]=true→zj ⟨1,[c]⟩=true:=fun c hc=>by simp[zj,hc]
  have rw2:∀ s:List UInt8,zq s=true→zj ⟨2,s⟩=true:=fun s hs=>by simp[zj,hs]
  by_cases k6:k=6
  ·subst k6
   simp only[if_true,Al0] at h
   simp only[show ¬ ((6:Int)=0) by decide,show ¬ ((6:Int)=1) by decide,show ¬ ((6:Int)=2) by decide,show ¬ ((6:Int)=3) by decide,show ¬ ((6:Int)=4) by decide,show ¬ ((6:Int)=5) by decide,show ¬ ((6:Int)=8) by decide,if_true,if_false]
   exact zf9 (P:=fun x=>zj x=true) (rm 91 (by decide)) (rm 93 (by decide)) (zfW l h.1 hw.2.1)
  by_cases k7:k=7
  ·subst k7
   simp only[show ¬ ((7:Int)=6) by decide,if_true,if_false,Al0] at h
   simp only[show ¬ ((7:Int)=0) by decide,show ¬ ((7:Int)=1) by decide,show ¬ ((7:Int)=2) by decide,show ¬ ((7:Int)=3) by decide,show ¬ ((7:Int)=4) by decide,show ¬ ((7:Int)=5) by decide,show ¬ ((7:Int)=8) by decide,show ¬ ((7:Int)=6) by decide,if_false]
   exact zf9 (P:=fun x=>zj x=true) (rm 123 (by decide)) (rm 125 (by decide)) (zfY m h.1 hw.2.2)
  rw[if_neg k6,if_neg k7] at h
  simp only[zX,Al0] at h
  obtain⟨_,h⟩:=h
  by_cases k0:k=0
  ·rw[if_pos k0]
   intro x hx;rw[List.mem_singleton] at hx;subst hx;exact rw2 _ (by decide)
  rw[if_neg k0] at h ⊢
  by_cases k1:k=1
  ·rw[if_pos k1]
   intro x hx;rw[List.mem_singleton] at hx;subst hx
   cases decide (n=1)<;>exact rw2 _ (by decide)
  rw[if_neg k1] at h ⊢
  by_cases k2:k=2
  ·rw[if_pos k2]
   intro x hx;rw[List.mem_singleton] at hx;subst hx
   have h1:=(zdG hw.1).1
   unfold Zf at h1
   simp only[Al0,zn] at h1
   simp[zj,h1.2]
  rw[if_neg k2] at h ⊢
  by_cases k3:k=3
  ·rw[if_pos k3] at h ⊢
   intro x hx;rw[List.mem_singleton] at hx;subst hx
   simp only[zdY,Al0,YG,zn] at h
   rcases h.2 with h4|h4
   ·simp[zj,h4]
   ·simp[zj,h4.1]
  rw[if_neg k3] at h ⊢
  by_cases k4:k=4
  ·rw[if_pos k4] at h ⊢
   intro x hx;rw[List.mem_singleton] at hx;subst hx
   simp only[Al0] at h
   simp[zj,h.2]
  rw[if_neg k4] at h ⊢
  by_cases k5:k=5
  ·rw[if_pos k5] at h ⊢
   intro x hx;rw[List.mem_singleton] at hx;subst hx
   simp only[Al0] at h
   exact rw2 _ h.2.1
  rw[if_neg k5] at h ⊢
  by_cases k8:k=8
  ·rw[if_pos k8] at h ⊢
   simp only[Al0] at h
   intro x hx
   rcases List.mem_cons.1 hx with rfl|hx
   ·exact rm 36 (by decide)
   ·rw[List.mem_singleton] at hx;subst hx;exact rw2 _ h.2
  ·rw[if_neg k8] at h;cases h
theorem zfW:∀ l:List Val,zax zq l=true→zeU l→∀ x∈Zj l,zj x=true
 | [],_,_=>fun x hx=>by cases hx
 | v::r,h,hw=>fun x hx=>by
  simp only[zax,Al0] at h
  rcases List.mem_append.1 hx with hx|hx
  ·exact zfb v h.1 hw.1 x hx
  ·exact zfW r h.2 hw.2 x hx
theorem zkJ:∀ v:Mem,ziq zq v=true→wfM v→∀ x∈Ym v,zj x=true
 | .mk s v,h,hw=>fun x hx=>by
  simp only[ziq,Al0] at h
  simp only[Ym] at hx
  rcases List.mem_cons.1 hx with rfl|hx
  ·simp[zj,h.1]
  rcases List.mem_cons.1 hx with rfl|hx
  ·have:zdu [58]=true:=by decide
   simp[zj,this]
  ·exact zfb v h.2 hw x hx
theorem zfY:∀ l:List Mem,zap zq l=true→za1 l→∀ x∈yg l,zj x=true
 | [],_,_=>fun x hx=>by cases hx
 | v::r,h,hw=>fun x hx=>by
  simp only[zap,Al0] at h
  rcases List.mem_append.1 hx with hx|hx
  ·exact zkJ v h.1 hw.1 x hx
  ·exact zfY r h.2 hw.2 x hx
end
open Go.Lib
end Go.Proofs.YtaielcdfcgpbiaaGreatDoor
namespace Go.Proofs.YtaielcdfcgpbiaaGreatDoor
open Go.Ab
def lD (x:DirD):Nat:=2+x.nm.length+bMs x.args
def lDs (l:List DirD):Nat:=(l.map lD).sum
mutual
def lS:SelD→Nat
 | .mk _ al nm args dirs on sels=>2+nm.length+al.length+on.length+bMs args+lDs dirs+lSs sels
def lSs:List SelD→Nat
 | []=>0
 | x::r=>lS x+lSs r
end
def lW (x:VarD):Nat:=1+bV x.d+x.nm.length
def lWs (l:List VarD):Nat:=(l.map lW).sum
def lF (x:FragD):Nat:=1+lDs x.dirs+lSs x.sels+x.nm.length
theorem zdc {α:Type} {f g:α→Nat} {c:Nat} (h:∀ x,f x≤c*g x):∀ l:List α,(l.map f).sum≤c*(l.map g).sum
 | []=>Nat.zero_le _
 | x::r=>by have:=zdc h r;have:=h x;simp only[List.map_cons,List.sum_cons,Nat.mul_add];omega
theorem zeL (l:List DirD):lDs l≤2*bDs l:=zdc (fun x=>by simp only[lD,bD];omega) l
theorem zck (l:List VarD):lWs l≤2*bWs l:=zdc (fun x=>by have:=zbk x.d;simp only[lW,bW];omega) l
theorem kMk:zj (pk [40])=true∧zj (pk [41])=true∧zj (pk [64])=true∧zj (pk [58])=true∧zj (pk [123])=true∧zj (pk [125])=true∧zj (pk [46,46,46])=true∧zj (pk [36])=true∧zj (pk [61])=true∧zj (pk [91])=true∧zj (pk [93])=true∧zj (pk [33])=true:=by decide +kernel
theorem kNm (s:List UInt8):zj (wk s)=zq s:=rfl
theorem zgB (v:Val) (h:pl v) (hw:wfV v):(zF v).all zj=true:=yJ.2 (zfb v h hw)
theorem zdg {dp:Int} {fixed:Bool} {v:Val} (h:zG dp fixed v=true):pl v:=by
 simp only[zG,ZO,Al0] at h
 exact h.1.1
theorem zel {dp:Int} {fixed:Bool}:∀ l:List Mem,YD dp fixed l=true→za1 l→(yg l).all zj=true
 | [],_,_=>rfl
 | .mk s v::l,h,hw=>by
  simp only[YD,List.all_cons,Al0,zcL] at h
  have e:yg (.mk s v::l)=wk s::pk [58]::(zF v++yg l):=by simp[yg,Ym,wk,pk]
  rw[e]
  simp only[List.all_cons,List.all_append,Al0,kNm]
  exact⟨h.1.1,kMk.2.2.2.1,zgB v (zdg h.1.2) hw.1,zel (dp:=dp) (fixed:=fixed) l h.2 hw.2⟩
theorem ziw {dp:Int} {fixed:Bool} (l:List Mem) (h:YD dp fixed l=true) (hw:za1 l):(zaf l).all zj=true:=by
 unfold zaf
 split
 ·rfl
 ·simp only[List.all_cons,List.all_append,Al0,List.all_nil,and_true]
  exact⟨kMk.1,zel l h hw,kMk.2.1⟩
theorem zkk {dp:Int} {fixed:Bool} (l:List DirD) (h:Yp dp fixed l=true) (hw:ziu l):(tDs l).all zj=true:=by
 refine yJ.2 fun x hx=>?_
 obtain⟨d,hd,hx⟩:=List.mem_flatMap.1 hx
 have h1:=yJ.1 h d hd
 simp only[zaR,Al0] at h1
 have:(tD d).all zj=true:=by
  simp only[tD,List.all_cons,Al0,kNm]
  exact⟨kMk.2.2.1,h1.1,ziw d.args h1.2 (hw d hd)⟩
 exact yJ.1 this x hx
theorem zj8 (n:Nat) (m:Int):∀ k,(zad n m k).all zj=true:=by
 have hp:∀ i,(zbq n m i).all zj=true:=fun i=>by
  unfold zbq
  by_cases h1:i<n<;>cases h2:zag m i<;>simp[h1,kMk]
 intro k
 induction k with
 | zero=>exact hp 0
 | succ k ih=>rw[zad,List.all_append,hp,ih];rfl
theorem zhM (t:TyD) (h:zS t=true):(tTy t).all zj=true:=by
 simp only[zS,Al0] at h
 simp only[tTy,List.all_append,List.all_cons,Al0,kNm]
 refine⟨yJ.2 fun x hx=>?_,h.1,zj8 _ _ _⟩
 rw[List.eq_of_mem_replicate hx]
 exact kMk.2.2.2.2.2.2.2.2.2.1
theorem zan {α:Type} {f:α→List Tok} (l:List α) (h:∀ y∈l,(f y).all zj=true):(l.flatMap f).all zj=true:=by
 refine yJ.2 fun x hx=>?_
 obtain⟨y,hm,hx⟩:=List.mem_flatMap.1 hx
 exact yJ.1 (h y hm) x hx
theorem zhE (x:VarD) (h:YN x=true) (hw:wfW x):(tPa x).all zj=true:=by
 simp only[YN,Al0] at h
 simp only[tPa,List.all_cons,List.all_append,Al0,kNm]
 refine⟨h.1,kMk.2.2.2.1,zhM _ h.2.1,?_⟩
 unfold tDf
 split
 ·rename_i hh
  have h2:=h.2.2
  rw[zcM,if_pos hh] at h2
  simp only[List.all_cons,Al0]
  exact⟨kMk.2.2.2.2.2.2.2.2.1,zgB _ (zdg h2) hw.2.2⟩
 ·rfl
theorem zlC (x:FldD) (h:Z6 x=true) (hw:wfL x):(tL x).all zj=true:=by
 simp only[Z6,Al0] at h
 obtain⟨h0,h1,h2,h3⟩:=h
 obtain⟨w1,_,_,w2⟩:=hw
 simp only[tL,List.all_cons,List.all_append,Al0,kNm]
 refine⟨h0,?_,kMk.2.2.2.1,zhM _ h2,zkk _ h3 w2⟩
 unfold tPb
 split
 ·rfl
 ·simp only[List.all_cons,List.all_append,Al0,List.all_nil,and_true]
  exact⟨kMk.1,zan _ fun y hy=>zhE y (yJ.1 h1 y hy) (w1 y hy),kMk.2.1⟩
theorem kM2:zj (pk [38])=true∧zj (pk [124])=true:=by decide +kernel
theorem zhI (m:List UInt8) (hm:zj (pk m)=true) (l:List (List UInt8)) (h:l.all zq=true):(tNs m l).all zj=true:=by
 cases l with
 | nil=>rfl
 | cons a r =>
  simp only[List.all_cons,Al0] at h
  simp only[tNs,List.all_cons,Al0,kNm]
  refine⟨h.1,zan _ fun y hy=>?_⟩
  simp only[List.all_cons,List.all_nil,Al0,and_true,kNm]
  exact⟨hm,yJ.1 h.2 y hy⟩
theorem zl2 (x:DefD) (hr:yB x=true) (hw:wfE x):(tE x).all zj=true:=by
 obtain⟨w1,w2⟩:=hw
 simp only[yB,Al0] at hr
 obtain⟨hn,hr⟩:=hr
 unfold tE
 by_cases k1:x.k=1∨x.k=2
 ·rw[if_pos k1] at hr ⊢
  simp only[Al0] at hr
  simp only[List.all_cons,List.all_append,Al0,List.all_nil,and_true,kNm]
  refine⟨by split;exact zhT;exact zhU,hn,?_,kMk.2.2.2.2.1,zan _ fun y hy=>zlC y (yJ.1 hr.2.1 y hy) (w1 y hy),kMk.2.2.2.2.2.1⟩
  split
  ·rfl
  ·simp only[List.all_cons,Al0,kNm]
   exact⟨zab,zhI _ kM2.1 _ hr.1⟩
 rw[if_neg k1] at hr ⊢
 by_cases k3:x.k=3
 ·rw[if_pos k3] at hr ⊢
  simp only[Al0] at hr
  simp only[List.all_cons,Al0,kNm]
  exact⟨zbM,hn,kMk.2.2.2.2.2.2.2.2.1,zhI _ kM2.2 _ hr.1⟩
 rw[if_neg k3] at hr ⊢
 by_cases k4:x.k=4
 ·rw[if_pos k4] at hr ⊢
  simp only[Al0] at hr
  simp only[List.all_cons,List.all_append,Al0,List.all_nil,and_true,kNm]
  refine⟨zcH,hn,kMk.2.2.2.2.1,?_,kMk.2.2.2.2.2.1⟩
  rw[List.all_map]
  exact hr.1.1
 rw[if_neg k4] at hr ⊢
 by_cases k5:x.k=5
 ·rw[if_pos k5] at hr
  simp only[Al0] at hr
  simp only[List.all_cons,List.all_append,Al0,List.all_nil,and_true,kNm]
  exact⟨zbJ,hn,kMk.2.2.2.2.1,zan _ fun y hy=>zhE y (yJ.1 hr.1 y hy) (w2 y hy),kMk.2.2.2.2.2.1⟩
 ·rw[if_neg k5] at hr;cases hr
theorem zgi (s:SchD) (hr:yu s=true) (hw:zbu s):(YF s).all zj=true:=by
 simp only[yu,Al0,YG,zn] at hr
 simp only[YF,tRt,List.all_cons,List.all_append,Al0,List.all_nil,and_true,kNm]
 refine⟨⟨zcd,kMk.2.2.2.2.1,zdJ,kMk.2.2.2.1,hr.2.1,?_,kMk.2.2.2.2.2.1⟩,zan _ fun y hy=>zl2 y (yJ.1 hr.1 y hy) (hw y hy)⟩
 split
 ·rfl
 ·rename_i hm
  simp only[List.all_cons,List.all_nil,Al0,and_true,kNm]
  exact⟨zg4,kMk.2.2.2.1,hr.2.2.resolve_left hm⟩
end Go.Proofs.YtaielcdfcgpbiaaGreatDoor
