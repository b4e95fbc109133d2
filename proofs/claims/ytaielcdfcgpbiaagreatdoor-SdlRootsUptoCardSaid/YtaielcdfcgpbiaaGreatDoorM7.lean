import Derived.Shelf.Strings.IndexAnyAll
import Derived.Shelf.Small.Utf8
import Derived.Laws.RangeAny
import Derived.Laws.Runes
import Derived.WalkMore
import Derived.Shelf.RegionOpenPlain
import Derived.BigQuiet
import Derived.Test.YtaielcdfcgpbiaaGreatDoorRows
import Derived.Test.YtaielcdfcgpbiaaGreatDoorM1
import Derived.Test.YtaielcdfcgpbiaaGreatDoorM2
import Derived.Test.YtaielcdfcgpbiaaGreatDoorM3
import Derived.Test.YtaielcdfcgpbiaaGreatDoorM4
import Derived.Test.YtaielcdfcgpbiaaGreatDoorM5
import Derived.Test.YtaielcdfcgpbiaaGreatDoorM6
set_option maxRecDepth 100000
set_option linter.all false
namespace Go.Proofs.YtaielcdfcgpbiaaGreatDoor
open Go.Ab
def ZY (i:Nat) (m:Int) (t:TS):Int×TS:=if isP [33] t then (m+2 ^ i,t.tail) else (m,t)
def zby (n i:Nat) (t:TS):PR Unit:=if i<n then yt [93] t else .ok ((),t)
def tyL (n:Nat):Nat→Int→TS→PR Int
 | 0,m,t=>pb (zby n 0 t) fun _ t=>.ok (ZY 0 m t)
 | i+1,m,t=>pb (zby n (i+1) t) fun _ t=>tyL n i (ZY (i+1) m t).1 (ZY (i+1) m t).2
theorem zjt (n i:Nat) (t:TS):zby (n+1) (i+1) t=zby n i t:=by
 unfold zby
 by_cases h:i<n
 ·rw[if_pos h,if_pos (by omega)]
 ·rw[if_neg h,if_neg (by omega)]
theorem zi3 (i:Nat) (m:Int) (t:TS):ZY (i+1) (m*2) t=((ZY i m t).1*2,(ZY i m t).2):=by
 unfold ZY
 split
 ·simp only[Al8,and_true];rw[Int.pow_succ];omega
 ·rfl
theorem zlb (n:Nat):∀(i:Nat) (m:Int) (t:TS),tyL (n+1) (i+1) (m*2) t=pb (tyL n i m t) fun m t=>pb (yt [93] t) fun _ t=>.ok (ZY 0 (m*2) t)
 | 0,m,t=>by
  have e:∀(m:Int) (t:TS),tyL (n+1) 0 m t=pb (yt [93] t) fun _ t=>.ok (ZY 0 m t):=fun m t=>by rw[tyL,zby,if_pos (Nat.succ_pos n)]
  have e1:tyL (n+1) (0+1) (m*2) t=pb (zby n 0 t) fun _ t=>tyL (n+1) 0 (ZY (0+1) (m*2) t).1 (ZY (0+1) (m*2) t).2:=by conv=>lhs;rw[tyL,zjt]
  have e2:tyL n 0 m t=pb (zby n 0 t) fun _ t=>.ok (ZY 0 m t):=by rw[tyL]
  rw[e1,e2]
  rcases zby n 0 t with x|⟨_,t1⟩
  ·rfl
  ·simp only[zj]
   rw[zi3,e]
   rfl
 | i+1,m,t=>by
  have e1:tyL (n+1) (i+1+1) (m*2) t=pb (zby n (i+1) t) fun _ t=>tyL (n+1) (i+1) (ZY (i+1+1) (m*2) t).1 (ZY (i+1+1) (m*2) t).2:=by conv=>lhs;rw[tyL,zjt]
  have e2:tyL n (i+1) m t=pb (zby n (i+1) t) fun _ t=>tyL n i (ZY (i+1) m t).1 (ZY (i+1) m t).2:=by rw[tyL]
  rw[e1,e2]
  rcases zby n (i+1) t with x|⟨_,t1⟩
  ·rfl
  ·simp only[zj]
   rw[zi3,zlb n i]
theorem zet:∀(n k:Nat) (u:TS),n≤k→isP [91] u=false→Y4 k (List.replicate n (pk [91])++u)=pb (z7 u) fun s t=>pb (tyL n n 0 t) fun m t=>.ok (⟨s,n,m⟩,t)
 | 0,k,u,_,hu=>by
  rw[List.replicate_zero,Zh,Z2,zcF.eq_def,hu]
  simp only[Al7,if_false]
  rcases z7 u with x|⟨s,t⟩
  ·rfl
  ·simp only[zj,tyL,zby,Nat.lt_irrefl,if_false]
   unfold zaC ZY
   cases isP [33] t<;>simp[pb]
 | n+1,0,u,h,_=>by omega
 | n+1,k+1,u,h,hu=>by
  rw[List.replicate_succ,Al6,Z2,zcF.eq_def,yd,zfm]
  simp only[decide_true,if_true,List.tail_cons]
  rw[zet n k u (by omega) hu]
  rcases z7 u with x|⟨s,t⟩
  ·rfl
  ·simp only[zj]
   have e:=zlb n n 0 t
   rw[Int.zero_mul] at e
   rw[e]
   rcases tyL n n 0 t with x|⟨m,t1⟩
   ·rfl
   ·simp only[zj]
    rcases yt [93] t1 with x|⟨_,t2⟩
    ·rfl
    ·simp only[zj]
     unfold zaC ZY
     cases isP [33] t2<;>simp[pb]
def tyN (n:Nat):Nat→Int→TS→PR Int
 | 0,m,t=>.ok (m,t)
 | i+1,m,t=>tyL n i m t
theorem zlv (n i:Nat) (m:Int) (t:TS):tyL n i m t=pb (zby n i t) fun _ t=>tyN n i (ZY i m t).1 (ZY i m t).2:=by cases i<;>rfl
theorem zd8:∀(k:Nat) (u:TS),isP [91] u=true→Y4 k (List.replicate k (pk [91])++u)=.error 4
 | 0,u,hu=>by rw[List.replicate_zero,Zh,Z2,zcF.eq_def,hu];rfl
 | k+1,u,hu=>by
  rw[List.replicate_succ,Al6,Z2,zcF.eq_def,yd,zfm]
  simp only[decide_true,if_true,List.tail_cons]
  rw[zd8 k u hu];rfl
theorem zmb {m:List UInt8} {t:TS} (h:isP m t=true):t=pk m::t.tail:=by
 have h2:=zcQ (zdK h)
 simp only[isP,Al0,zn] at h
 rw[h2]
 congr 1
 cases hx:hdT t with|mk k s=>rw[hx] at h;simp only at h;rw[h.1,h.2];rfl
theorem zi0 (n:Nat) (x:Tok) (u:TS):List.replicate n x++x::u=List.replicate (n+1) x++u:=by
 rw[List.replicate_succ',Yj];rfl
theorem zmH:∀ i:Fin 5,∀ m:Fin 32,m.val % 2 ^ (i.val+1)=0→IntKind.wrap .i64 ((BitVec.ofInt IntKind.i64.bits ((m.val:Nat):Int) ||| BitVec.ofInt IntKind.i64.bits (((2 ^ i.val:Nat)):Int)).toNat:Int)=((m.val+2 ^ i.val:Nat):Int):=by decide +kernel
theorem zmT:∀ i:Fin 5,IntKind.wrap .i64 (1*2 ^ min i.val IntKind.i64.bits)=((2 ^ i.val:Nat):Int):=by decide +kernel
theorem zlk:∀ i:Fin 5,∀ m:Fin 32,m.val % 2 ^ (i.val+1)=0→m.val+2 ^ i.val<32∧(m.val+2 ^ i.val) % 2 ^ i.val=0:=by decide +kernel
abbrev zT:List AV:=[.str [],.int .i64 0,.int .i64 0]
theorem zlP {H:Heap} {r:Nat} {L p t:TS} {dp:Nat} (hs:p++t=L) (hl:wT L≤zG) (hr:H r=some (prc L p dp)) :
  ACalls Tryz.prog 38 [.ptr r 0] H (RpE H r L dp (Y4 4 t) (fun x=>.agg (cTy x))):=by
 refine yn (ACalls.goO (R:=fun v H'=>zbb H r L dp (Y4 4 t) (fun x=>.agg (cTy x)) v.strip H') (RP:=fun v H'=>zbp (Y4 4 t) v H') ir38 ck38 (Al4 _) fun KP Q hQ hP=>?_)
 have hll:L.length≤zG:=Nat.le_trans (zdQ L) hl
 have hll2:=hll
 simp only[zG] at hll2
 have pan:∀(v:AV) (H1:Heap) (n:Int),v=ye n→Y4 4 t=.error n→KP v H1:=fun v H1 n h1 h2=>hP v H1 H1 (Low.refl _) ⟨n,h2,h1⟩
 have fin:=KI.done hQ
 have K0:=KI.start hs hr
 simp(disch:=first|omega|assumption) only[ir38,steps,st2,pev,rev,oev,optr,ibin,sbin,ishf,bound,mmAll,mm2,mk,mkArgs,AV.cells,AV.boxable,AV.one,AV.strip1,fillA,fillS,Nat.reduceEqDiff,reduceCtorEq,↓reduceIte,Nat.reduceAdd,Int.reduceNeg,Nat.reduceLeDiff,Int.reduceToNat,Int.reduceEq,Int.reduceLT,Int.reduceLE,Int.reduceAdd,Io,Im,If,Il,Jt,Jf,AC.rg,Jm,Jl,Ja,Fm,Fl,Fa,Imv,Imb,Iai,Iei,Igi,Isi,Ipf,Ipt,Ilb,Iia,Ilt,Iap,Ink,Iln,Ils,Iad,Iex,Ibx,Ing]
 refine goA_intro fun b2 hb2=>?_
 have n2:=K0.ne hb2
 have n2s:=Ne.symm n2
 have K1:=K0.box (x:=.cells zT) hb2
 simp(disch:=first|omega|assumption) only[steps,st2,pev,rev,oev,optr,ibin,sbin,ishf,bound,mmAll,mm2,mk,mkArgs,AV.cells,AV.boxable,AV.one,AV.strip1,fillA,fillS,Nat.reduceEqDiff,reduceCtorEq,↓reduceIte,Nat.reduceAdd,Int.reduceNeg,Nat.reduceLeDiff,Int.reduceToNat,Int.reduceEq,Int.reduceLT,Int.reduceLE,Int.reduceAdd]
 refine goL_st (fun x:Nat×TS=>[(3,.int .i64 (x.1:Int))]) (fun x H'=>KI H r L x.2 dp H'∧H' b2=some (.cells zT)∧x.1≤4∧t=List.replicate x.1 (pk [91])++x.2) (fun x=>x.2.length) (0,t) (by simp(disch:=first|omega|assumption) only[steps,st2,pev,rev,oev,optr,ibin,sbin,ishf,bound,mmAll,mm2,mk,mkArgs,AV.cells,AV.boxable,AV.one,AV.strip1,fillA,fillS,Nat.reduceEqDiff,reduceCtorEq,↓reduceIte,Nat.reduceAdd,Int.reduceNeg,Nat.reduceLeDiff,Int.reduceToNat,Int.reduceEq,Int.reduceLT,Int.reduceLE,Int.reduceAdd]) ⟨K1,upd_same ..,Nat.zero_le _,rfl⟩ ?_
 rintro⟨n,u⟩ H1 J ⟨K2,g2,hn4,htu⟩ hJ
 simp only at K2 g2 hn4 htu
 obtain⟨p2,hp2,hr2⟩:=K2.here
 have hpl2:p2.length+u.length=L.length:=by rw[← hp2];simp
 have hr2':=hr2
 simp only[prc] at hr2'
 simp(disch:=first|omega|assumption) only[steps,st2,pev,rev,oev,optr,ibin,sbin,ishf,bound,mmAll,mm2,mk,mkArgs,AV.cells,AV.boxable,AV.one,AV.strip1,fillA,fillS,Nat.reduceEqDiff,reduceCtorEq,↓reduceIte,Nat.reduceAdd,Int.reduceNeg,Nat.reduceLeDiff,Int.reduceToNat,Int.reduceEq,Int.reduceLT,Int.reduceLE,Int.reduceAdd]
 refine goK_ret (zlQ hp2 hr2 [91]) fun v H2 ⟨hv2,hH⟩=>?_
 subst hv2;subst hH
 cases hi:isP [91] u with
 | true =>
  by_cases h4:n=4
  ·have h4':((n:Int)=4)=True:=eq_true (by omega)
   simp(disch:=first|omega|assumption) only[h4',steps,st2,pev,rev,oev,optr,ibin,sbin,ishf,bound,mmAll,mm2,mk,mkArgs,AV.cells,AV.boxable,AV.one,AV.strip1,fillA,fillS,Nat.reduceEqDiff,reduceCtorEq,↓reduceIte,Nat.reduceAdd,Int.reduceNeg,Nat.reduceLeDiff,Int.reduceToNat,Int.reduceEq,Int.reduceLT,Int.reduceLE,Int.reduceAdd]
   exact goK_both (zax _ r 4) (fun _ _ h=>h.elim) fun v H3 h=>pan v H3 4 h (by rw[htu,h4];exact zd8 4 u hi)
  ·have h4':¬ ((n:Int)=4):=by omega
   have hlt:=zcK hi
   simp(disch:=first|omega|assumption) only[h4',hr2',wrap64,steps,st2,pev,rev,oev,optr,ibin,sbin,ishf,bound,mmAll,mm2,mk,mkArgs,AV.cells,AV.boxable,AV.one,AV.strip1,fillA,fillS,Nat.reduceEqDiff,reduceCtorEq,↓reduceIte,Nat.reduceAdd,Int.reduceNeg,Nat.reduceLeDiff,Int.reduceToNat,Int.reduceEq,Int.reduceLT,Int.reduceLE,Int.reduceAdd]
   refine goJ (hJ (n+1,u.tail) _ hlt ⟨K2.call (Yc hp2 (zdK hi) _),by rw[upd_ne n2s];exact g2,by simp only;omega,?_⟩) (by simp(disch:=first|omega|assumption) only[Int.natCast_add,steps,st2,pev,rev,oev,optr,ibin,sbin,ishf,bound,mmAll,mm2,mk,mkArgs,AV.cells,AV.boxable,AV.one,AV.strip1,fillA,fillS,Nat.reduceEqDiff,reduceCtorEq,↓reduceIte,Nat.reduceAdd,Int.reduceNeg,Nat.reduceLeDiff,Int.reduceToNat,Int.reduceEq,Int.reduceLT,Int.reduceLE,Int.reduceAdd])
   simp only
   rw[← zi0,← zmb hi];exact htu
 | false =>
  have hx:Y4 4 t=pb (z7 u) fun s t=>pb (tyL n n 0 t) fun m t=>.ok (⟨s,n,m⟩,t):=by rw[htu];exact zet n 4 u hn4 hi
  simp(disch:=first|omega|assumption) only[steps,st2,pev,rev,oev,optr,ibin,sbin,ishf,bound,mmAll,mm2,mk,mkArgs,AV.cells,AV.boxable,AV.one,AV.strip1,fillA,fillS,Nat.reduceEqDiff,reduceCtorEq,↓reduceIte,Nat.reduceAdd,Int.reduceNeg,Nat.reduceLeDiff,Int.reduceToNat,Int.reduceEq,Int.reduceLT,Int.reduceLE,Int.reduceAdd]
  refine goK_both (zc3 hp2 hll hr2) (fun v H3 ⟨s,t3,e3,hv3,ha3⟩=>?_) fun v H3 ⟨n3,e3,hv3⟩=>pan v H3 n3 hv3 (by rw[hx,e3];rfl)
  subst hv3
  rw[e3,zj] at hx
  have K3:=K2.call ha3
  have g32:H3 b2=some (.cells zT):=by rw[ha3.other n2s,g2]
  simp(disch:=first|omega|assumption) only[steps,st2,pev,rev,oev,optr,ibin,sbin,ishf,bound,mmAll,mm2,mk,mkArgs,AV.cells,AV.boxable,AV.one,AV.strip1,fillA,fillS,Nat.reduceEqDiff,reduceCtorEq,↓reduceIte,Nat.reduceAdd,Int.reduceNeg,Nat.reduceLeDiff,Int.reduceToNat,Int.reduceEq,Int.reduceLT,Int.reduceLE,Int.reduceAdd]
  refine goA_intro fun b4 hb4=>?_
  have h42:b4≠b2:=fun e=>by subst e;rw[g32] at hb4;cases hb4
  have hb4H:H b4=none:=K3.none hb4
  have n4:=K0.ne hb4H
  have n4s:=Ne.symm n4
  have K4:=K3.box (x:=.cells [.str s,.int .i64 (n:Int),.int .i64 0]) hb4H
  obtain⟨R,hR⟩:∃ R,tyL n n 0 t3=R:=⟨_,rfl⟩
  rw[hR] at hx
  simp(disch:=first|omega|assumption) only[steps,st2,pev,rev,oev,optr,ibin,sbin,ishf,bound,mmAll,mm2,mk,mkArgs,AV.cells,AV.boxable,AV.one,AV.strip1,fillA,fillS,Nat.reduceEqDiff,reduceCtorEq,↓reduceIte,Nat.reduceAdd,Int.reduceNeg,Nat.reduceLeDiff,Int.reduceToNat,Int.reduceEq,Int.reduceLT,Int.reduceLE,Int.reduceAdd]
  have hj0:((n:Int):Int)=(((n+1:Nat):Int)-1):=by omega
  refine goL_st (fun x:Nat×Nat×TS=>[(5,.int .i64 ((x.1:Int)-1))]) (fun x H'=>KI H r L x.2.2 dp H'∧H' b2=some (.cells zT)∧H' b4=some (.cells [.str s,.int .i64 (n:Int),.int .i64 (x.2.1:Int)])∧x.1≤n+1∧x.2.1<32∧x.2.1 % 2 ^ x.1=0∧tyN n x.1 (x.2.1:Int) x.2.2=R) (fun x=>x.1) (n+1,0,t3) (by rw[← hj0];simp(disch:=first|omega|assumption) only[steps,st2,pev,rev,oev,optr,ibin,sbin,ishf,bound,mmAll,mm2,mk,mkArgs,AV.cells,AV.boxable,AV.one,AV.strip1,fillA,fillS,Nat.reduceEqDiff,reduceCtorEq,↓reduceIte,Nat.reduceAdd,Int.reduceNeg,Nat.reduceLeDiff,Int.reduceToNat,Int.reduceEq,Int.reduceLT,Int.reduceLE,Int.reduceAdd]) ⟨K4,by rw[upd_ne (Ne.symm h42)];exact g32,upd_same ..,Al4 _,by show 0<32;decide,Nat.zero_mod _,hR⟩ ?_
  rintro⟨j,m,u5⟩ H5 J5 ⟨K5,g52,g54,hj,hm,hmd,he⟩ hJ5
  simp only at K5 g52 g54 hj hm hmd he
  obtain⟨p5,hp5,hr5⟩:=K5.here
  cases j with
  | zero =>
   have hneg:¬ ((0:Int)≤-1):=by decide
   have hz1:(0:Int)-1=-1:=rfl
   have e1:R=.ok ((m:Int),u5):=he.symm
   simp only[zT] at g52
   simp(disch:=first|omega|assumption) only[hz1,hneg,g52,g54,h42,Ne.symm h42,steps,st2,pev,rev,oev,optr,ibin,sbin,ishf,bound,mmAll,mm2,mk,mkArgs,AV.cells,AV.boxable,AV.one,AV.strip1,fillA,fillS,Nat.reduceEqDiff,reduceCtorEq,↓reduceIte,Nat.reduceAdd,Int.reduceNeg,Nat.reduceLeDiff,Int.reduceToNat,Int.reduceEq,Int.reduceLT,Int.reduceLE,Int.reduceAdd]
   exact fin _ _ [.agg [.str s,.int .i64 (n:Int),.int .i64 (m:Int)]] ⟨s,n,m⟩ u5 (by simp(disch:=first|omega|assumption) only[ir38,resvs,resv,steps,st2,pev,rev,oev,optr,ibin,sbin,ishf,bound,mmAll,mm2,mk,mkArgs,AV.cells,AV.boxable,AV.one,AV.strip1,fillA,fillS,Nat.reduceEqDiff,reduceCtorEq,↓reduceIte,Nat.reduceAdd,Int.reduceNeg,Nat.reduceLeDiff,Int.reduceToNat,Int.reduceEq,Int.reduceLT,Int.reduceLE,Int.reduceAdd,Io,Im,If,Il,Jt,Jf,AC.rg,Jm,Jl,Ja,Fm,Fl,Fa,Imv,Imb,Iai,Iei,Igi,Isi,Ipf,Ipt,Ilb,Iia,Ilt,Iap,Ink,Iln,Ils,Iad,Iex,Ibx,Ing]) (by rw[hx,e1];rfl) (K5.box hb2) (by simp[tupOf,AV.strip,AV.strip1,cTy])
  | succ i =>
   have hge:((0:Int)≤(((i+1:Nat):Int)-1))=True:=eq_true (by omega)
   have hi5:(((i+1:Nat):Int)-1)=(i:Int):=by omega
   have e1:tyL n i (m:Int) u5=R:=he
   rw[zlv,zby] at e1
   by_cases hin:i<n
   ·have hin':((i:Int)<(n:Int))=True:=eq_true (by omega)
    rw[if_pos hin] at e1
    simp(disch:=first|omega|assumption) only[hge,hi5,hin',steps,st2,pev,rev,oev,optr,ibin,sbin,ishf,bound,mmAll,mm2,mk,mkArgs,AV.cells,AV.boxable,AV.one,AV.strip1,fillA,fillS,Nat.reduceEqDiff,reduceCtorEq,↓reduceIte,Nat.reduceAdd,Int.reduceNeg,Nat.reduceLeDiff,Int.reduceToNat,Int.reduceEq,Int.reduceLT,Int.reduceLE,Int.reduceAdd]
    refine goK_both (zfu hp5 hll hr5 [93]) (fun v H6 ⟨_,t6,e6,hv6,ha6⟩=>?_) fun v H6 ⟨n6,e6,hv6⟩=>pan v H6 n6 hv6 (by rw[hx,← e1,e6];rfl)
    subst hv6
    rw[e6,zj] at e1
    have K6:=K5.call ha6
    have g62:H6 b2=some (.cells zT):=by rw[ha6.other n2s,g52]
    have g64:H6 b4=some (.cells [.str s,.int .i64 (n:Int),.int .i64 (m:Int)]):=by rw[ha6.other n4s,g54]
    obtain⟨p6,hp6,hr6⟩:=K6.here
    simp(disch:=first|omega|assumption) only[steps,st2,pev,rev,oev,optr,ibin,sbin,ishf,bound,mmAll,mm2,mk,mkArgs,AV.cells,AV.boxable,AV.one,AV.strip1,fillA,fillS,Nat.reduceEqDiff,reduceCtorEq,↓reduceIte,Nat.reduceAdd,Int.reduceNeg,Nat.reduceLeDiff,Int.reduceToNat,Int.reduceEq,Int.reduceLT,Int.reduceLE,Int.reduceAdd]
    refine goK_ret (zbf hp6 hll hr6 [33]) fun v H7 ⟨hv7,ha7⟩=>?_
    subst hv7
    have g72:H7 b2=some (.cells zT):=by rw[ha7.other n2s,g62]
    have g74:H7 b4=some (.cells [.str s,.int .i64 (n:Int),.int .i64 (m:Int)]):=by rw[ha7.other n4s,g64]
    have K7:=K6.call ha7
    cases hb:isP [33] t6 with
    | true =>
     simp only[ZY,hb,if_true] at e1
     rw[y9,hb,if_pos rfl] at K7
     have ho:=zmH ⟨i,by omega⟩ ⟨m,hm⟩ hmd
     have hob:=zlk ⟨i,by omega⟩ ⟨m,hm⟩ hmd
     have hsh:=zmT ⟨i,by omega⟩
     simp only at ho hob hsh
     have hi0:¬ ((i:Int)<0):=by omega
     simp(disch:=first|omega|assumption) only[g74,hi0,hsh,ho,steps,st2,pev,rev,oev,optr,ibin,sbin,ishf,bound,mmAll,mm2,mk,mkArgs,AV.cells,AV.boxable,AV.one,AV.strip1,fillA,fillS,Nat.reduceEqDiff,reduceCtorEq,↓reduceIte,Nat.reduceAdd,Int.reduceNeg,Nat.reduceLeDiff,Int.reduceToNat,Int.reduceEq,Int.reduceLT,Int.reduceLE,Int.reduceAdd]
     refine goJ (hJ5 (i,m+2 ^ i,t6.tail) _ (Nat.lt_succ_self _) ⟨K7.box hb4H,by rw[upd_ne (Ne.symm h42)];exact g72,upd_same ..,by simp only;omega,hob.1,hob.2,by simp only;rw[← e1];simp⟩) (by simp(disch:=first|omega|assumption) only[wrap64,steps,st2,pev,rev,oev,optr,ibin,sbin,ishf,bound,mmAll,mm2,mk,mkArgs,AV.cells,AV.boxable,AV.one,AV.strip1,fillA,fillS,Nat.reduceEqDiff,reduceCtorEq,↓reduceIte,Nat.reduceAdd,Int.reduceNeg,Nat.reduceLeDiff,Int.reduceToNat,Int.reduceEq,Int.reduceLT,Int.reduceLE,Int.reduceAdd])
    | false =>
     simp only[ZY,hb,Al7,if_false] at e1
     rw[y9,hb] at K7
     simp only[Al7,if_false] at K7
     have hmd2:m % 2 ^ i=0:=by
      have h3:2 ^ i∣2 ^ (i+1):=⟨2,by rw[Nat.pow_succ]⟩
      exact Nat.mod_eq_zero_of_dvd (Nat.dvd_trans h3 (Nat.dvd_of_mod_eq_zero hmd))
     simp(disch:=first|omega|assumption) only[steps,st2,pev,rev,oev,optr,ibin,sbin,ishf,bound,mmAll,mm2,mk,mkArgs,AV.cells,AV.boxable,AV.one,AV.strip1,fillA,fillS,Nat.reduceEqDiff,reduceCtorEq,↓reduceIte,Nat.reduceAdd,Int.reduceNeg,Nat.reduceLeDiff,Int.reduceToNat,Int.reduceEq,Int.reduceLT,Int.reduceLE,Int.reduceAdd]
     refine goJ (hJ5 (i,m,t6) _ (Nat.lt_succ_self _) ⟨K7,g72,g74,by simp only;omega,hm,hmd2,e1⟩) (by simp(disch:=first|omega|assumption) only[wrap64,steps,st2,pev,rev,oev,optr,ibin,sbin,ishf,bound,mmAll,mm2,mk,mkArgs,AV.cells,AV.boxable,AV.one,AV.strip1,fillA,fillS,Nat.reduceEqDiff,reduceCtorEq,↓reduceIte,Nat.reduceAdd,Int.reduceNeg,Nat.reduceLeDiff,Int.reduceToNat,Int.reduceEq,Int.reduceLT,Int.reduceLE,Int.reduceAdd])
   ·have hin':¬ ((i:Int)<(n:Int)):=by omega
    rw[if_neg hin,zj] at e1
    simp(disch:=first|omega|assumption) only[hge,hi5,hin',steps,st2,pev,rev,oev,optr,ibin,sbin,ishf,bound,mmAll,mm2,mk,mkArgs,AV.cells,AV.boxable,AV.one,AV.strip1,fillA,fillS,Nat.reduceEqDiff,reduceCtorEq,↓reduceIte,Nat.reduceAdd,Int.reduceNeg,Nat.reduceLeDiff,Int.reduceToNat,Int.reduceEq,Int.reduceLT,Int.reduceLE,Int.reduceAdd]
    refine goK_ret (zbf hp5 hll hr5 [33]) fun v H7 ⟨hv7,ha7⟩=>?_
    subst hv7
    have g72:H7 b2=some (.cells zT):=by rw[ha7.other n2s,g52]
    have g74:H7 b4=some (.cells [.str s,.int .i64 (n:Int),.int .i64 (m:Int)]):=by rw[ha7.other n4s,g54]
    have K7:=K5.call ha7
    cases hb:isP [33] u5 with
    | true =>
     simp only[ZY,hb,if_true] at e1
     rw[y9,hb,if_pos rfl] at K7
     have ho:=zmH ⟨i,by omega⟩ ⟨m,hm⟩ hmd
     have hob:=zlk ⟨i,by omega⟩ ⟨m,hm⟩ hmd
     have hsh:=zmT ⟨i,by omega⟩
     simp only at ho hob hsh
     have hi0:¬ ((i:Int)<0):=by omega
     simp(disch:=first|omega|assumption) only[g74,hi0,hsh,ho,steps,st2,pev,rev,oev,optr,ibin,sbin,ishf,bound,mmAll,mm2,mk,mkArgs,AV.cells,AV.boxable,AV.one,AV.strip1,fillA,fillS,Nat.reduceEqDiff,reduceCtorEq,↓reduceIte,Nat.reduceAdd,Int.reduceNeg,Nat.reduceLeDiff,Int.reduceToNat,Int.reduceEq,Int.reduceLT,Int.reduceLE,Int.reduceAdd]
     refine goJ (hJ5 (i,m+2 ^ i,u5.tail) _ (Nat.lt_succ_self _) ⟨K7.box hb4H,by rw[upd_ne (Ne.symm h42)];exact g72,upd_same ..,by simp only;omega,hob.1,hob.2,by simp only;rw[← e1];simp⟩) (by simp(disch:=first|omega|assumption) only[wrap64,steps,st2,pev,rev,oev,optr,ibin,sbin,ishf,bound,mmAll,mm2,mk,mkArgs,AV.cells,AV.boxable,AV.one,AV.strip1,fillA,fillS,Nat.reduceEqDiff,reduceCtorEq,↓reduceIte,Nat.reduceAdd,Int.reduceNeg,Nat.reduceLeDiff,Int.reduceToNat,Int.reduceEq,Int.reduceLT,Int.reduceLE,Int.reduceAdd])
    | false =>
     simp only[ZY,hb,Al7,if_false] at e1
     rw[y9,hb] at K7
     simp only[Al7,if_false] at K7
     have hmd2:m % 2 ^ i=0:=by
      have h3:2 ^ i∣2 ^ (i+1):=⟨2,by rw[Nat.pow_succ]⟩
      exact Nat.mod_eq_zero_of_dvd (Nat.dvd_trans h3 (Nat.dvd_of_mod_eq_zero hmd))
     simp(disch:=first|omega|assumption) only[steps,st2,pev,rev,oev,optr,ibin,sbin,ishf,bound,mmAll,mm2,mk,mkArgs,AV.cells,AV.boxable,AV.one,AV.strip1,fillA,fillS,Nat.reduceEqDiff,reduceCtorEq,↓reduceIte,Nat.reduceAdd,Int.reduceNeg,Nat.reduceLeDiff,Int.reduceToNat,Int.reduceEq,Int.reduceLT,Int.reduceLE,Int.reduceAdd]
     refine goJ (hJ5 (i,m,u5) _ (Nat.lt_succ_self _) ⟨K7,g72,g74,by simp only;omega,hm,hmd2,e1⟩) (by simp(disch:=first|omega|assumption) only[wrap64,steps,st2,pev,rev,oev,optr,ibin,sbin,ishf,bound,mmAll,mm2,mk,mkArgs,AV.cells,AV.boxable,AV.one,AV.strip1,fillA,fillS,Nat.reduceEqDiff,reduceCtorEq,↓reduceIte,Nat.reduceAdd,Int.reduceNeg,Nat.reduceLeDiff,Int.reduceToNat,Int.reduceEq,Int.reduceLT,Int.reduceLE,Int.reduceAdd])
theorem zfL (a b c d e f g h i j:AV) (v:Val):splice [a,b,c,d,e,f,g,h,i,j] 5 (cV v)=a::b::c::d::e::cV v:=by cases v;rfl
theorem zls (a b c d e:AV) (v:Val):(a::b::c::d::e::cV v).take 10=a::b::c::d::e::cV v:=by cases v;rfl
theorem zhg (a b c d e:AV) (v:Val):(a::b::c::d::e::cV v).length=10:=by cases v;rfl
theorem zd2 (a b c d e f g h i j a' b' c' d' e':AV) (v:Val):splice [a,b,c,d,e,f,g,h,i,j] 0 (a'::b'::c'::d'::e'::cV v)=a'::b'::c'::d'::e'::cV v:=by cases v;rfl
abbrev zW:List AV:=[.str [],.str [],.int .i64 0,.int .i64 0,.bool false,.int .i64 0,.int .i64 0,.str [],.sl .nil 5 [],.sl .nil 6 []]
open Go.Lib
theorem zeQ {P:UInt8→Bool} (h:(List.range 256).all (fun n=>P (UInt8.ofNat n))=true) (c:UInt8):P c=true:=by
 have h1:=yD.1 h c.toNat (List.mem_range.2 (UInt8.toNat_lt c))
 simpa using h1
def zaB (c:UInt8):Bool:=decide (0≤Lib.indexByte zar c)
def spB (c:UInt8):Bool:=decide (c=9∨c=10∨c=13∨c=32∨c=44)||decide (c=239)||decide (c=35)
theorem zgd (c:UInt8):(!zaB c||(!(decide (c=34))&&(!(decide (c=46))&&(!(isL c)&&(!(isD c)&&(!(decide (c=45))&&(!(spB c)&&decide (32≤c.toNat∧c.toNat<128))))))))=true:=zeQ (P:=fun c=>(!zaB c||(!(decide (c=34))&&(!(decide (c=46))&&(!(isL c)&&(!(isD c)&&(!(decide (c=45))&&(!(spB c)&&decide (32≤c.toNat∧c.toNat<128))))))))) (by decide +kernel) c
theorem zfS (c:UInt8):(!isL c||(!(decide (c=34))&&(!(decide (c=46))&&(!(zaB c)&&(!(isD c)&&(!(decide (c=45))&&(!(spB c)&&decide (32≤c.toNat∧c.toNat<128))))))))=true:=zeQ (P:=fun c=>(!isL c||(!(decide (c=34))&&(!(decide (c=46))&&(!(zaB c)&&(!(isD c)&&(!(decide (c=45))&&(!(spB c)&&decide (32≤c.toNat∧c.toNat<128))))))))) (by decide +kernel) c
theorem zed (c:UInt8):(!(isD c||decide (c=45))||(!(decide (c=34))&&(!(decide (c=46))&&(!(zaB c)&&(!(isL c)&&(!(spB c)&&decide (32≤c.toNat∧c.toNat<128)))))))=true:=zeQ (P:=fun c=>(!(isD c||decide (c=45))||(!(decide (c=34))&&(!(decide (c=46))&&(!(zaB c)&&(!(isL c)&&(!(spB c)&&decide (32≤c.toNat∧c.toNat<128)))))))) (by decide +kernel) c
theorem zcs {c:UInt8} (h:c≠34) (r:List UInt8):zK.isPrefixOf (c::r)=false:=by
 simp[zK,List.isPrefixOf];intro h2;exact absurd h2.symm h
theorem zc8 {c:UInt8} (h:c≠46) (r:List UInt8):Za.isPrefixOf (c::r)=false:=by
 simp[Za,List.isPrefixOf];intro h2;exact absurd h2.symm h
theorem zkW {c:UInt8} (h:c≠239) (r:List UInt8):zeV.isPrefixOf (c::r)=false:=by
 simp[zeV,List.isPrefixOf];intro h2;exact absurd h2.symm h
theorem zeS {c:UInt8} (h:spB c=false) (r:List UInt8):Zi (c::r)=0:=by
 simp only[spB,Bool.or_eq_false_iff,decide_eq_false_iff_not] at h
 simp only[Zi]
 rw[if_neg h.1.1,zkW h.1.2,if_neg h.2];simp
theorem zjL {r:List UInt8} (h:zcc r):(r.head?.any fun d=>isL d||isD d||decide (d=46))=false:=by
 rcases h with rfl|⟨c,t,rfl,rfl|rfl⟩
 ·rfl
 all_goals simp[isL,isD]
theorem zeq {p:UInt8→Bool} {r:List UInt8} (h10:p 10=false) (h32:p 32=false) (h:zcc r):∀ s:List UInt8,(s++r).takeWhile p=s.takeWhile p
 | []=>by
  rcases h with rfl|⟨c,t,rfl,rfl|rfl⟩
  ·rfl
  ·simp[h32]
  ·simp[h10]
 | c::s=>by
  simp only[Al6,List.takeWhile_cons]
  split
  ·rw[zeq h10 h32 h s]
  ·rfl
theorem zcd {p:UInt8→Bool}:∀ s:List UInt8,(∀ c∈s,p c=true)→s.takeWhile p=s
 | [],_=>rfl
 | c::s,h=>by
  simp only[List.takeWhile_cons,h c (.head _),if_true]
  rw[zcd s fun d hd=>h d (.tail _ hd)]
theorem zeg (s:List UInt8) {r:List UInt8} (h:zcc r):yk (s++r)=yk s:=by
 unfold yk;rw[zeq (by decide) (by decide) h s]
theorem zcq:∀(s:List UInt8) (i:Nat),zbg s i=true→∀ c∈s,(isL c||isD c)=true
 | [],_,_=>fun c hc=>nomatch hc
 | c::r,i,h=>by
  simp only[zbg] at h
  split at h
  ·rename_i h1
   have h2:=zcq r (i+1) h
   intro d hd
   rcases List.mem_cons.1 hd with rfl|hd
   ·simp only[YU,Al0] at h1 ⊢
    exact h1.imp id fun x=>x.2
   ·exact h2 d hd
  ·cases h
theorem ziq {c:UInt8} {r:List UInt8} (h:zq (c::r)=true):isL c=true∧∀ d∈c::r,(isL d||isD d)=true:=by
 simp only[zq,Al0] at h
 refine⟨?_,zcq _ _ h.1⟩
 have:=h.1
 simp only[zbg] at this
 split at this
 ·rename_i h1;simpa using h1
 ·cases this
theorem zgl {c:UInt8} (h:isL c=true) (r:List UInt8):yF (c::r)=some (⟨2,(c::r).take (yk (c::r))⟩,(c::r).drop (yk (c::r))):=by
 have h1:=zfS c
 simp only[h,Bool.not_true,Bool.false_or,Al0,Bool.not_eq_true',decide_eq_false_iff_not,zn] at h1
 obtain⟨a1,a2,a3,_⟩:=h1
 simp only[zaB,decide_eq_false_iff_not] at a3
 simp only[yF]
 rw[zcs a1,zc8 a2,if_neg a1,if_neg a3,if_pos h];simp
theorem zhs {c:UInt8} (h:isL c=true) (r:List UInt8):Zi (c::r)=0:=by
 have h1:=zfS c
 simp only[h,Bool.not_true,Bool.false_or,Al0,Bool.not_eq_true'] at h1
 exact zeS h1.2.2.2.2.2.1 r
theorem zfI {c:UInt8} (h:(isD c||decide (c=45))=true) (r:List UInt8):yF (c::r)=(if (z1 (c::r)).1=0 then none
  else if ((c::r).drop (z1 (c::r)).1).head?.any fun d=>isL d||isD d||decide (d=46) then none
  else some (⟨(z1 (c::r)).2,(c::r).take (z1 (c::r)).1⟩,(c::r).drop (z1 (c::r)).1)):=by
 have h1:=zed c
 simp only[h,Bool.not_true,Bool.false_or,Al0,Bool.not_eq_true',decide_eq_false_iff_not,zn] at h1
 obtain⟨a1,a2,a3,a4,_⟩:=h1
 simp only[zaB,decide_eq_false_iff_not] at a3
 simp only[yF]
 rw[zcs a1,zc8 a2,if_neg a1,if_neg a3,a4];simp
theorem zg4 {c:UInt8} (h:(isD c||decide (c=45))=true) (r:List UInt8):Zi (c::r)=0:=by
 have h1:=zed c
 simp only[h,Bool.not_true,Bool.false_or,Al0,Bool.not_eq_true'] at h1
 exact zeS h1.2.2.2.2.1 r
theorem zfV {c:UInt8} {r:List UInt8} (h:zp (c::r)≠0):(isD c||decide (c=45))=true:=by
 by_cases hc:c=45
 ·simp[hc]
 ·rw[ZC (s:=c::r) (by simp[hc])] at h
  unfold ZM at h
  have h2:zz (c::r)≠0:=fun e=>h (by rw[if_pos e])
  simp only[zz] at h2
  split at h2
  ·rename_i h3;simp[h3]
  ·exact absurd rfl h2
theorem ziN {s:List UInt8} (h:(z1 s).1≠0):zp s≠0:=fun e=>h (by unfold z1;rw[if_pos e])
theorem zgQ {l:List UInt8} {c k:Nat} (h:DecOk l c k) (hc:c=(zk l).1):∀ t,(yy c (l.take k)++t).head?≠some 34∧yy c (l.take k)≠[]:=by
 intro t
 have hpos:=h.pos
 have hlen:=h.len
 unfold yy
 repeat' split
 ·simp
 ·simp
 ·simp[ym]
 ·simp[ym]
 ·rename_i h1 h2 h3 h4
  cases l with
  | nil=>simp at hlen;omega
  | cons b r =>
   obtain⟨m,rfl⟩:∃ m,k=m+1:=⟨k-1,by omega⟩
   simp only[zbn,Al6,List.head?_cons,ne_eq,Al1]
   refine⟨fun e=>?_,by simp⟩
   subst e
   by_cases hk:m+1=1
   ·have:=(h.one hk).1
    simp at this
    omega
   ·have:=h.high hk 34 (by simp)
    simp at this
theorem zhq {s:List UInt8} (hv:validD s=true) (hne:s≠[]) (n:Nat) (hn:s.length≤n) (t:List UInt8):(yu n s++t).head?≠some 34:=by
 cases n with
 | zero=>exact absurd (Ze.1 (by omega)) hne
 | succ n =>
  simp only[yu,if_neg hne,Yj]
  exact(zgQ (ZJ hne hv).1 rfl _).1
theorem ziO (s r:List UInt8) (hv:validD s=true) (hr:zcc r):zK.isPrefixOf (34::(yu s.length s++34::r))=false:=by
 by_cases hs:s=[]
 ·subst hs
  simp only[yu,Zh,Al3]
  rcases hr with rfl|⟨c,t,rfl,rfl|rfl⟩<;>simp[zK,List.isPrefixOf]
 ·have h:=zhq hv hs s.length (Al4 _) (34::r)
  cases hx:yu s.length s++34::r with
  | nil=>simp[zK,List.isPrefixOf]
  | cons c t =>
   rw[hx] at h
   simp only[List.head?_cons,ne_eq,Al1] at h
   simp[zK,List.isPrefixOf]
   intro e
   exact absurd e.symm h
theorem zgn (x:Tok) (hx:zi x=true) {r:List UInt8} (hr:zcc r):yF (ZN x++r)=some (x,r)∧Zi (ZN x++r)=0∧ZN x≠[]:=by
 obtain⟨k,s⟩:=x
 unfold zi at hx
 simp only at hx
 by_cases h1:k=1
 ·subst h1
  simp only[if_true,YU,zn] at hx
  simp only[ZN,show ¬ ((1:Int)=5) by decide,if_false]
  rcases hx with rfl|hx
  ·refine⟨?_,?_,by simp[Za]⟩
   ·simp[Za,yF,zK,List.isPrefixOf]
   ·simp[Za,Zi,zeV,List.isPrefixOf]
  ·cases s with
   | nil=>cases hx
   | cons c t =>
    cases t with
    | cons d t=>cases hx
    | nil =>
     have h1:=zgd c
     have hm:zaB c=true:=hx
     simp only[hm,Bool.not_true,Bool.false_or,Al0,Bool.not_eq_true',decide_eq_false_iff_not,zn] at h1
     obtain⟨a1,a2,a3,a4,a5,a6,_⟩:=h1
     simp only[zaB,zn] at hm
     refine⟨?_,?_,by simp⟩
     ·simp only[Al6,Zh,yF]
      rw[zcs a1,zc8 a2,if_neg a1,if_pos hm];simp
     ·exact zeS a6 r
 rw[if_neg h1] at hx
 by_cases h2:k=2
 ·subst h2
  simp only[if_true] at hx
  simp only[ZN,show ¬ ((2:Int)=5) by decide,if_false]
  cases s with
  | nil=>simp[zq,zbg] at hx
  | cons c t =>
   obtain⟨g1,g2⟩:=ziq hx
   have hw:yk (c::t++r)=(c::t).length:=by rw[zeg (c::t) hr];unfold yk;rw[zcd _ g2]
   refine⟨?_,zhs g1 _,by simp⟩
   rw[Al6,zgl g1,← Al6,hw,List.take_left,List.drop_left]
 rw[if_neg h2] at hx
 by_cases h3:k=3∨k=4
 ·rw[if_pos h3] at hx
  simp only[zn] at hx
  have hk5:¬ (k=5):=by omega
  simp only[ZN,hk5,if_false]
  unfold ZR at hx
  split at hx
  case isFalse=>omega
  rename_i hl
  cases s with
  | nil =>
   have:z1 []=(0,0):=rfl
   rw[this] at hx;simp only at hx;omega
  | cons c t =>
   have hn0:(z1 (c::t)).1≠0:=by rw[hl];simp
   have hw:=ziN hn0
   have hd:=zfV hw
   refine⟨?_,zg4 hd _,by simp⟩
   rw[Al6,zfI hd,← Al6,zgo hr,if_neg hn0,hl,List.drop_left,zjL hr,List.take_left,hx];simp
 rw[if_neg h3] at hx
 by_cases h5:k=5
 ·subst h5
  simp only[if_true] at hx
  simp only[ZN,if_true,ze7,Al6,Yj,Zh]
  refine⟨?_,by simp[Zi,zeV,List.isPrefixOf],by simp⟩
  simp only[yF]
  rw[ziO s r hx hr]
  simp only[Al7,if_false,if_true]
  rw[zie s r hx];rfl
 ·rw[if_neg h5] at hx;cases hx
theorem zbs (x y:Tok) (L:List Tok):yr (x::y::L)=ZN x++32::yr (y::L):=by simp[yr,Lib.join]
theorem zeL (x:Tok):yr [x]=ZN x:=by simp[yr,Lib.join]
theorem zdd:∀(L:List Tok),L.all zi=true→∀(n:Nat) (l:List Tok),(yr L).length<n→y8 n l (yr L)=.ok (l++L)
 | [],_,n,l,hn=>by
  cases n with
  | zero=>omega
  | succ n=>simp[yr,Lib.join,y8]
 | [x],h,n,l,hn=>by
  simp only[List.all_cons,List.all_nil,Bool.and_true] at h
  obtain⟨g1,g2,g3⟩:=zgn x h (r:=[]) (.inl rfl)
  rw[List.append_nil] at g1 g2
  rw[zeL] at hn ⊢
  have hl:0<(ZN x).length:=List.length_pos_iff.2 g3
  obtain⟨m,rfl⟩:∃ m,n=m+2:=⟨n-2,by omega⟩
  rw[y8,if_neg g3,if_neg (by rw[g2];simp),g1]
  simp[y8]
 | x::y::L,h,n,l,hn=>by
  have h':=h
  rw[List.all_cons,Al0] at h'
  obtain⟨g1,g2,g3⟩:=zgn x h'.1 (r:=32::yr (y::L)) (.inr ⟨32,_,rfl,.inl rfl⟩)
  rw[zbs] at hn ⊢
  have hl:0<(ZN x).length:=List.length_pos_iff.2 g3
  simp only[Al5,Al2] at hn
  obtain⟨m,rfl⟩:∃ m,n=m+2:=⟨n-2,by omega⟩
  rw[y8,if_neg (by simp[g3]),if_neg (by rw[g2];simp),g1]
  simp only
  rw[y8,if_neg (by simp),if_pos (by simp[Zi])]
  have e1:(32::yr (y::L)).drop (Zi (32::yr (y::L)))=yr (y::L):=by simp[Zi]
  rw[e1,zdd (y::L) h'.2 m (l++[x]) (by omega)]
  simp
theorem zef:∀(n m:Nat) (l:List UInt8),l.length≤n→l.length≤m→zfH n l=zfH m l
 | 0,m,l,h,_=>by
  obtain rfl:l=[]:=Ze.1 (by omega)
  cases m<;>simp[zfH]
 | n+1,0,l,_,h=>by
  obtain rfl:l=[]:=Ze.1 (by omega)
  simp[zfH]
 | n+1,m+1,l,h1,h2=>by
  simp only[zfH]
  split
  ·rfl
  ·by_cases hp:0<(zk l).2
   ·rw[zef n m (l.drop (zk l).2) (by simp;omega) (by simp;omega)]
   ·simp[hp]
theorem zcl {l:List UInt8} (hne:l≠[]):zck l=(decide (0<(zk l).2)&&(YD (zk l).1&&zck (l.drop (zk l).2))):=by
 unfold zck
 have hl:0<l.length:=List.length_pos_iff.2 hne
 obtain⟨m,hm⟩:∃ m,l.length=m+1:=⟨l.length-1,by omega⟩
 rw[hm,zfH,if_neg hne]
 by_cases hp:0<(zk l).2
 ·rw[zef m (l.drop (zk l).2).length (l.drop (zk l).2) (by simp;omega) (Al4 _)]
 ·simp[hp]
theorem zgi:zck []=true:=rfl
def yl (a:List UInt8):Prop:=∀ t,zck t=true→zck (a++t)=true
theorem yl.nil:yl []:=fun t h=>h
theorem yl.app {a b:List UInt8} (ha:yl a) (hb:yl b):yl (a++b):=fun t h=>by rw[Yj];exact ha _ (hb _ h)
theorem yl.here {a:List UInt8} (ha:yl a):zck a=true:=by have:=ha [] zgi;simpa using this
theorem yl.ascii {b:UInt8} (h:b.toNat<128) (hs:YD b.toNat=true):yl [b]:=fun t ht=>by
 rw[zcl (by simp)]
 simp only[List.singleton_append,zfZ b t h,hs,List.drop_succ_cons,List.drop_zero,ht]
 rfl
theorem yl.asciis:∀ s:List UInt8,(∀ b∈s,32≤b.toNat∧b.toNat<128)→yl s
 | [],_=>.nil
 | b::s,h=>by
  have h1:=h b (.head _)
  exact yl.app (a:=[b]) (.ascii h1.2 (by simp[YD];omega)) (yl.asciis s fun c hc=>h c (.tail _ hc))
theorem yl.code {l:List UInt8} (hne:l≠[]) (h:(zk l).2≠0) (hk:(zk l).2≤l.length) (hs:YD (zk l).1=true):yl (l.take (zk l).2):=fun t ht=>by
 have hp:=zbr hne h t
 have hl:(l.take (zk l).2).length=(zk l).2:=by simp;omega
 rw[zcl (by intro e;have:=congrArg List.length e;rw[Al5,hl] at this;simp at this;omega),hp,hs]
 rw[List.drop_left' hl,ht]
 simp;omega
theorem zhc (n:Nat):32≤(hexL.getD (n % 16) 0).toNat∧(hexL.getD (n % 16) 0).toNat<128:=by
 have:∀ x:Fin 16,32≤(hexL.getD x.val 0).toNat∧(hexL.getD x.val 0).toNat<128:=by decide +kernel
 exact this ⟨n % 16,Nat.mod_lt _ (by decide)⟩
theorem yl.unit (u:Nat):yl (ym u):=yl.asciis _ fun b hb=>by
 simp only[ym,List.mem_cons,List.not_mem_nil,or_false] at hb
 rcases hb with rfl|rfl|rfl|rfl|rfl|rfl
 ·decide
 ·decide
 all_goals exact zhc _
theorem yl.quo:∀(n:Nat) (l:List UInt8),l.length≤n→validD l=true→yl (yu n l)
 | 0,l,_,_=>.nil
 | n+1,l,hn,hv=>by
  rw[yu]
  by_cases hne:l=[]
  ·subst hne;exact .nil
  ·rw[if_neg hne]
   obtain⟨hd,hv2⟩:=ZJ hne hv
   have hpos:=hd.pos
   refine yl.app ?_ (yl.quo n _ (by simp;omega) hv2)
   unfold yy
   by_cases h1:(zk l).1=34∨(zk l).1=92
   ·rw[if_pos h1]
    refine yl.asciis _ fun b hb=>?_
    simp only[List.mem_cons,List.not_mem_nil,or_false] at hb
    rcases hb with rfl|rfl
    ·decide
    ·rcases h1 with h1|h1<;>rw[h1]<;>decide
   rw[if_neg h1]
   by_cases h2:(zk l).1=10
   ·rw[if_pos h2]
    exact yl.asciis _ fun b hb=>by
     simp only[List.mem_cons,List.not_mem_nil,or_false] at hb
     rcases hb with rfl|rfl<;>decide
   rw[if_neg h2]
   by_cases h3:(zk l).1<32
   ·rw[if_pos h3];exact .unit _
   rw[if_neg h3]
   by_cases h4:65536≤(zk l).1
   ·rw[if_pos h4];exact yl.app (.unit _) (.unit _)
   ·rw[if_neg h4]
    exact yl.code hne (by omega) hd.len (by simp[YD];omega)
theorem ziA (c:UInt8):nch c=true→32≤c.toNat∧c.toNat<128:=zfw (P:=fun c=>nch c=true→32≤c.toNat∧c.toNat<128) (by decide +kernel) c
theorem zia {s:List UInt8} (h:ZR s≠0):∀ b∈s,32≤b.toNat∧b.toNat<128:=fun b hb=>ziA b ((zkm h).1 b hb)
theorem yl.tok (x:Tok) (hx:zi x=true):yl (ZN x):=by
 obtain⟨k,s⟩:=x
 unfold zi at hx
 simp only at hx
 by_cases h1:k=1
 ·subst h1
  simp only[if_true,YU,zn] at hx
  simp only[ZN,show ¬ ((1:Int)=5) by decide,if_false]
  rcases hx with rfl|hx
  ·exact yl.asciis _ (by decide)
  ·cases s with
   | nil=>cases hx
   | cons c t =>
    cases t with
    | cons d t=>cases hx
    | nil =>
     have h1:=zgd c
     have hm:zaB c=true:=hx
     simp only[hm,Bool.not_true,Bool.false_or,Al0,Bool.not_eq_true',decide_eq_false_iff_not,zn] at h1
     exact yl.asciis _ fun b hb=>by simp only[List.mem_singleton] at hb;subst hb;exact h1.2.2.2.2.2.2
 rw[if_neg h1] at hx
 by_cases h2:k=2
 ·subst h2
  simp only[if_true] at hx
  simp only[ZN,show ¬ ((2:Int)=5) by decide,if_false]
  simp only[zq,Al0] at hx
  have:=zcq _ _ hx.1
  refine yl.asciis _ fun b hb=>?_
  have hb2:=this b hb
  simp only[YU] at hb2
  simp only[isL,isD,YU,Al0,zn] at hb2
  omega
 rw[if_neg h2] at hx
 by_cases h3:k=3∨k=4
 ·rw[if_pos h3] at hx
  have hk5:¬ (k=5):=by omega
  simp only[ZN,hk5,if_false]
  simp only[zn] at hx
  exact yl.asciis _ (zia (by omega))
 rw[if_neg h3] at hx
 by_cases h5:k=5
 ·subst h5
  simp only[if_true] at hx
  simp only[ZN,if_true,ze7]
  have h34:yl [34]:=yl.asciis _ (by decide)
  exact yl.app (a:=[34]) h34 (yl.app (yl.quo _ _ (Al4 _) hx) h34)
 ·rw[if_neg h5] at hx;cases hx
theorem yl.join:∀ L:List Tok,L.all zi=true→yl (yr L)
 | [],_=>.nil
 | [x],h=>by rw[zeL];exact .tok x (by simpa using h)
 | x::y::L,h=>by
  rw[List.all_cons,Al0] at h
  rw[zbs]
  exact yl.app (.tok x h.1) (yl.app (a:=[32]) (yl.asciis _ (by decide)) (yl.join (y::L) h.2))
theorem zdF (L:List Tok) (h:L.all zi=true) (hl:(yr L).length≤8192):Zs (yr L)=.ok L:=by
 unfold Zs
 rw[if_neg (by omega),(yl.join L h).here,if_pos rfl,zdd L h _ _ (by omega)]
 simp
theorem YF:∀(p s t:List UInt8),(∀ x∈p,x≠10)→p.isPrefixOf (s++10::t)=p.isPrefixOf s
 | [],s,t,_=>by cases s<;>simp
 | x::p,[],t,h=>by
  have h1:=h x (.head _)
  simp[List.isPrefixOf,h1]
 | x::p,c::s,t,h=>by
  simp only[Al6,List.isPrefixOf]
  rw[YF p s t fun y hy=>h y (.tail _ hy)]
theorem Zb:∀(p s:List UInt8),p.isPrefixOf s=true→p.length≤s.length
 | [],s,_=>Nat.zero_le _
 | x::p,[],h=>by simp[List.isPrefixOf] at h
 | x::p,c::s,h=>by
  simp only[List.isPrefixOf,Al0] at h
  have:=Zb p s h.2
  simp only[Al2];omega
theorem zk9 (t:List UInt8):zcc (10::t):=.inr ⟨10,t,rfl,.inr rfl⟩
theorem zcZ:∀(n:Nat) (raw s:List UInt8) (b s':List UInt8),Zf n raw s=some (b,s')→s'.length<s.length∧∀(m:Nat) (t:List UInt8),n≤m→Zf m raw (s++10::t)=some (b,s'++10::t)
 | 0,_,_,_,_,h=>by cases h
 | n+1,raw,[],_,_,h=>by simp[Zf] at h
 | n+1,raw,c::r,b,s',h=>by
  simp only[Zf] at h
  by_cases h1:zK.isPrefixOf (c::r)=true
  ·rw[if_pos h1] at h
   have hl:=Zb _ _ h1
   simp only[zK,Al2,Al3] at hl
   simp only[Al1,Al8] at h
   obtain⟨rfl,rfl⟩:=h
   refine⟨by simp;omega,fun m t hm=>?_⟩
   obtain⟨k,rfl⟩:∃ k,m=k+1:=⟨m-1,by omega⟩
   have e:=YF zK (c::r) t (by decide)
   rw[Al6] at e
   simp only[Zf,Al6]
   rw[e,if_pos h1,zdc (by omega)]
  ·rw[if_neg h1] at h
   by_cases h2:zfR.isPrefixOf (c::r)=true
   ·rw[if_pos h2] at h
    have hl:=Zb _ _ h2
    simp only[zfR,Al2,Al3] at hl
    obtain⟨g1,g2⟩:=zcZ n _ _ _ _ h
    refine⟨by simp at g1 ⊢;omega,fun m t hm=>?_⟩
    obtain⟨k,rfl⟩:∃ k,m=k+1:=⟨m-1,by omega⟩
    have e:=YF zK (c::r) t (by decide)
    have e2:=YF zfR (c::r) t (by decide)
    rw[Al6] at e e2
    simp only[Zf,Al6]
    rw[e,if_neg h1,e2,if_pos h2,zdc (by omega)]
    exact g2 k t (by omega)
   ·rw[if_neg h2] at h
    obtain⟨g1,g2⟩:=zcZ n _ _ _ _ h
    refine⟨by simp;omega,fun m t hm=>?_⟩
    obtain⟨k,rfl⟩:∃ k,m=k+1:=⟨m-1,by omega⟩
    have e:=YF zK (c::r) t (by decide)
    have e2:=YF zfR (c::r) t (by decide)
    rw[Al6] at e e2
    simp only[Zf,Al6]
    rw[e,if_neg h1,e2,if_neg h2]
    exact g2 k t (by omega)
theorem zeI:∀(n:Nat) (s:List UInt8) (u v:Nat) (t:List UInt8),ZX n s u=some v→n≤s.length∧ZX n (s++t) u=some v
 | 0,s,u,v,t,h=>by
  simp only[ZX] at h ⊢
  exact⟨Nat.zero_le _,h⟩
 | n+1,[],u,v,t,h=>by simp[ZX] at h
 | n+1,c::s,u,v,t,h=>by
  simp only[ZX,Al6] at h ⊢
  cases hx:hexD c with
  | none=>rw[hx] at h;cases h
  | some k =>
   rw[hx] at h
   simp only at h ⊢
   have:=zeI n s _ v t h
   exact⟨by simp;omega,this.2⟩
theorem zjZ {q q':Sd} {s s':List UInt8} (t:List UInt8) (h:Ye q s=some (q',s')):Ye q (s++t)=some (q',s'++t):=by
 cases s with
 | nil=>cases h
 | cons c r =>
  simp only[Ye,Al6] at h ⊢
  by_cases h1:c=117
  ·rw[if_pos h1] at h ⊢
   cases hu:Z8 r with
   | none=>rw[hu] at h;cases h
   | some u =>
    obtain⟨g1,g2⟩:=zeI 4 r 0 u t hu
    rw[hu] at h
    simp only[z8,Al1,Al8] at h
    obtain⟨rfl,rfl⟩:=h
    rw[Z8,g2]
    simp only[z8,Al1,Al8,true_and]
    exact zdc g1
  ·rw[if_neg h1] at h ⊢
   split at h
   ·cases h
   ·rename_i h2
    rw[if_neg h2]
    simp only[Al1,Al8] at h ⊢
    obtain⟨rfl,rfl⟩:=h
    exact⟨rfl,rfl⟩
theorem zdj {may:UInt8→Bool} (t:List UInt8):∀(n:Nat) (s:List UInt8) (q q':Sd) (s':List UInt8),YS may n s q=some (q',s')→∀ m,n≤m→YS may m (s++t) q=some (q',s'++t)
 | 0,_,_,_,_,h=>by cases h
 | n+1,[],_,_,_,h=>by cases h
 | n+1,c::s,q,q',s',h=>fun m hm=>by
  obtain⟨k,rfl⟩:∃ k,m=k+1:=⟨m-1,by omega⟩
  simp only[YS,Al6] at h ⊢
  by_cases h1:c=34
  ·rw[if_pos h1] at h ⊢
   simp only[Al1,Al8] at h ⊢
   exact⟨h.1,by rw[h.2]⟩
  rw[if_neg h1] at h ⊢
  by_cases h2:c=92
  ·rw[if_pos h2] at h ⊢
   cases he:Ye q s with
   | none=>rw[he] at h;cases h
   | some x =>
    rw[he] at h
    rw[zjZ t (q':=x.1) (s':=x.2) he]
    exact zdj t n _ _ _ _ h k (by omega)
  rw[if_neg h2] at h ⊢
  split at h
  ·rename_i h3
   rw[if_pos h3]
   exact zdj t n _ _ _ _ h k (by omega)
  ·cases h
theorem zi9 {may:UInt8→Bool} {s s' b:List UInt8} (t:List UInt8) (h:Yd may s=some (b,s')):Yd may (s++t)=some (b,s'++t):=by
 unfold Yd at h ⊢
 cases hq:YS may (s.length+1) s ⟨[],[],true⟩ with
 | none=>rw[hq] at h;cases h
 | some x =>
  rw[hq] at h
  rw[zdj t _ _ _ x.1 x.2 hq _ (by simp)]
  simp only at h ⊢
  split at h
  ·rename_i h1
   simp only[Al1,Al8] at h
   rw[if_pos h1]
   simp[h.1,h.2]
  ·cases h
theorem zdm (s:List UInt8):yk s≤s.length:=by unfold yk;exact(List.takeWhile_sublist _).length_le
theorem zfz (s:List UInt8):(z1 s).1≤s.length:=by
 unfold z1
 split
 ·simp
 ·have h1:=zb5 s
  have h2:=zgm (s.drop (zp s))
  have h3:=zfv (s.drop (zp s+yO (s.drop (zp s))))
  simp only[Zv] at h2 h3
  simp only;omega
theorem zji {s s':List UInt8} {x:Tok} (h:yF s=some (x,s')) (t:List UInt8):s'.length<s.length∧yF (s++10::t)=some (x,s'++10::t):=by
 cases s with
 | nil=>cases h
 | cons c r =>
  have e3:=YF zK (c::r) t (by decide)
  have ed:=YF Za (c::r) t (by decide)
  rw[Al6] at e3 ed
  have hw:=zeg (c::r) (zk9 t)
  have hn:=zgo (a:=c::r) (zk9 t)
  simp only[yF] at h
  simp only[yF,Al6]
  rw[e3,ed]
  by_cases h1:zK.isPrefixOf (c::r)=true
  ·rw[if_pos h1] at h ⊢
   have hl:=Zb _ _ h1
   simp only[zK,Al2,Al3] at hl
   cases hr:Zf (r.length+1) [] (r.drop 2) with
   | none=>rw[hr] at h;cases h
   | some y =>
    rw[hr] at h
    simp only[z8,Al1,Al8] at h
    obtain⟨rfl,rfl⟩:=h
    obtain⟨g1,g2⟩:=zcZ _ _ _ y.1 y.2 hr
    simp only[Zv] at g1
    rw[zdc (by omega),g2 _ t (by simp)]
    exact⟨by simp only[Al2];omega,rfl⟩
  rw[if_neg h1] at h ⊢
  by_cases h2:c=34
  ·rw[if_pos h2] at h ⊢
   cases hr:Yd yi r with
   | none=>rw[hr] at h;cases h
   | some y =>
    rw[hr] at h
    simp only[z8,Al1,Al8] at h
    obtain⟨rfl,rfl⟩:=h
    have g1:=zfF (t':=y.2) (b:=y.1) hr
    rw[zi9 (10::t) (b:=y.1) (s':=y.2) hr]
    exact⟨by simp only[Al2];omega,rfl⟩
  rw[if_neg h2] at h ⊢
  by_cases h3:Za.isPrefixOf (c::r)=true
  ·rw[if_pos h3] at h ⊢
   have hl:=Zb _ _ h3
   simp only[Za,Al2,Al3] at hl
   simp only[Al1,Al8] at h ⊢
   obtain⟨rfl,rfl⟩:=h
   exact⟨by simp;omega,rfl,zdc (by omega)⟩
  rw[if_neg h3] at h ⊢
  by_cases h4:0≤Lib.indexByte zar c
  ·rw[if_pos h4] at h ⊢
   simp only[Al1,Al8] at h ⊢
   obtain⟨rfl,rfl⟩:=h
   exact⟨by simp,rfl,rfl⟩
  rw[if_neg h4] at h ⊢
  by_cases h5:isL c=true
  ·rw[if_pos h5] at h ⊢
   have hl:=zdm (c::r)
   have hp:0<yk (c::r):=by unfold yk;simp[h5]
   simp only[Al1,Al8] at h ⊢
   obtain⟨rfl,rfl⟩:=h
   rw[← Al6,hw,List.take_append_of_le_length hl,zdc hl]
   exact⟨by rw[Zv];simp only[Al2] at hl ⊢;omega,rfl,rfl⟩
  rw[if_neg h5] at h ⊢
  rw[← Al6,hn]
  by_cases h6:(z1 (c::r)).1=0
  ·rw[if_pos h6] at h;cases h
  rw[if_neg h6] at h ⊢
  have hl:=zfz (c::r)
  rw[List.take_append_of_le_length hl,zdc hl]
  have hh:(((c::r).drop (z1 (c::r)).1++10::t).head?.any fun d=>isL d||isD d||decide (d=46))=(((c::r).drop (z1 (c::r)).1).head?.any fun d=>isL d||isD d||decide (d=46)):=by
   cases (c::r).drop (z1 (c::r)).1 with
   | nil=>simp[isL,isD]
   | cons d t=>rfl
  rw[hh]
  split at h
  ·cases h
  ·rename_i h7
   rw[if_neg h7]
   simp only[Al1,Al8] at h ⊢
   obtain⟨rfl,rfl⟩:=h
   exact⟨by rw[Zv];simp only[Al2] at hl ⊢;omega,rfl,rfl⟩
theorem zfd (s:List UInt8):Zi s≤s.length:=by
 cases s with
 | nil=>simp[Zi]
 | cons c r =>
  simp only[Zi]
  split
  ·simp
  ·split
   ·rename_i h;have:=Zb _ _ h;simpa[zeV] using this
   ·split
    ·have:=(List.takeWhile_sublist yK (l:=r)).length_le;simp only[Al2];omega
    ·simp
theorem zb0 {s s':List UInt8} {x:Tok} (h:yF s=some (x,s')):s'.length<s.length:=(zji h []).1
theorem zah:∀(n m:Nat) (l:List Tok) (s:List UInt8),s.length<n→s.length<m→y8 n l s=y8 m l s
 | 0,_,_,_,h,_=>by omega
 | _,0,_,_,_,h=>by omega
 | n+1,m+1,l,s,h1,h2=>by
  simp only[y8]
  split
  ·rfl
  ·rename_i hne
   split
   ·rename_i hg
    have hl:0<s.length:=List.length_pos_iff.2 hne
    exact zah n m _ _ (by rw[Zv];omega) (by rw[Zv];omega)
   ·cases ho:yF s with
    | none=>rfl
    | some x =>
     have:=zb0 (x:=x.1) (s':=x.2) ho
     exact zah n m _ _ (by omega) (by omega)
theorem zi8 {s:List UInt8} {l:List Tok} (h:Zs s=.ok l):s.length≤8192∧zck s=true∧y8 (s.length+1) [] s=.ok l:=by
 unfold Zs at h
 split at h
 ·cases h
 ·split at h
  ·rename_i h1 h2;exact⟨by omega,h2,h⟩
  ·cases h
theorem zhH:∀(L:List (List UInt8)) (a:Int),(0≤a→zbz L a≤a∧0≤zbz L a)∧(∀ s∈L,zU s=false→zbz L a≤Yl s∧0≤zbz L a)
 | [],a=>⟨fun h=>⟨Int.le_refl _,h⟩,fun s hs=>nomatch hs⟩
 | s::r,a=>by
  simp only[zbz]
  have ih:=zhH r
  by_cases hb:zU s=true
  ·rw[if_pos hb]
   refine⟨(ih a).1,fun x hx hxb=>?_⟩
   rcases List.mem_cons.1 hx with rfl|hx
   ·rw[hb] at hxb;cases hxb
   ·exact(ih a).2 x hx hxb
  ·rw[if_neg hb]
   by_cases hc:a<0∨(Yl s:Int)<a
   ·rw[if_pos hc]
    have h1:=(ih (Yl s)).1 (by omega)
    refine⟨fun h=>⟨by omega,h1.2⟩,fun x hx hxb=>?_⟩
    rcases List.mem_cons.1 hx with rfl|hx
    ·exact h1
    ·exact(ih _).2 x hx hxb
   ·rw[if_neg hc]
    have h1:=(ih a).1 (by omega)
    refine⟨fun _=>h1,fun x hx hxb=>?_⟩
    rcases List.mem_cons.1 hx with rfl|hx
    ·exact⟨by omega,h1.2⟩
    ·exact(ih _).2 x hx hxb
theorem ziH {s:List UInt8} (h:zU s=true):Yl s=s.length:=by
 unfold zU at h
 unfold Yl
 rw[zcd s (yD.1 h)]
def yV (l:List (List UInt8)):List AV:=l.map AV.str
theorem Zj (l:List (List UInt8)):(yV l).length=l.length:=by simp[yV]
def MsT (H:Heap) (b cap:Nat) (l:List (List UInt8)):Prop:=∃ tl,H b=some (.cells (yV l++tl))∧l.length+tl.length=cap
theorem zht (z:AV):∀ n,(madeA [z] n).length=n
 | 0=>rfl
 | n+1=>by simp[madeA,zht z n]
section
variable {KP:AV→Heap→Prop} {Q:AExit→Env→Heap→Prop} {st:List Fr} {ρ:Env} {H:Heap} {all items:List AItem} {d:Option Nat} {R:List Chk}
theorem zlF {b cap:Nat} {l:List (List UInt8)} {x:List UInt8} {o2:Own} (h:MsT H b cap l) (h1:(l.length+1)*16≤140737488355328) (h2:l.length+1≤maxLen)
  (k:∀ b' cap' H',MsT H' b' cap' (l++[x])→goR Tryz.prog KP Q all items st R (ρ.set d (.ms b' 0 (l.length+1) cap')) H') :
  goPm Tryz.prog KP Q all items st d R ρ 1 16 [.str []] (.ms b 0 l.length cap) (.sl o2 1 [[.str x]]) H:=by
 obtain⟨tl,hb,hc⟩:=h
 refine goPm_ms hb rfl (by simpa using h1) (by simpa using h2) (fun hfit=>⟨?_,?_⟩) (fun hnf=>⟨?_,fun b' cap' hb' hcap' hm'=>?_⟩)
 ·have hfit:l.length+1≤cap:=hfit
  simp[Zj];omega
 ·have hfit:l.length+1≤cap:=hfit
  obtain⟨t0,tl,rfl⟩:∃ t0 t1,tl=t0::t1:=by
   cases tl with
   | nil=>simp at hc;omega
   | cons a b=>exact⟨a,b,rfl⟩
  refine k b cap _ ⟨tl,?_,by simp at hc ⊢;omega⟩
  rw[upd_same]
  simp only[splice,List.flatten_cons,List.flatten_nil,List.append_nil,List.map_cons,List.map_nil,AV.strip1,Al2,Al3,Nat.zero_add,Nat.mul_one]
  rw[List.take_left' (Zj l),List.drop_append,List.drop_eq_nil_of_le (by rw[Zj];omega),Zj,Nat.add_sub_cancel_left]
  simp[yV]
 ·simp[Zj]
 ·refine k b' cap' _ ⟨madeA [.str []] (cap'-(l.length+1)),?_,?_⟩
  ·rw[upd_same]
   simp only[List.drop_zero,Nat.mul_one,List.flatten_cons,List.flatten_nil,List.append_nil,List.map_cons,List.map_nil,AV.strip1,Al2,Al3,Nat.zero_add]
   rw[List.take_left' (Zj l)]
   simp[yV]
  ·have hcap':l.length+1≤cap':=hcap'
   rw[zht];simp;omega
theorem zkH {x:List UInt8} {o2:Own} (k:∀ b' cap' H',MsT H' b' cap' [x]→goR Tryz.prog KP Q all items st R (ρ.set d (.ms b' 0 1 cap')) H') :
  goPm Tryz.prog KP Q all items st d R ρ 1 16 [.str []] (.sl .nil 1 []) (.sl o2 1 [[.str x]]) H:=by
 refine goPm_nil rfl (by simp) (by simp[maxLen]) (fun h=>by simp at h) fun _ b cap hb h1 h2=>?_
 have h1:1≤cap:=h1
 refine k b cap _ ⟨madeA [.str []] (cap-1),?_,by rw[zht];simp;omega⟩
 rw[upd_same]
 simp[yV,AV.strip1]
end
theorem zbH {cur r:List UInt8} {c:UInt8} (h:¬ (c=10∨c=13)):zS cur (c::r)=zS (cur++[c]) r:=by
 have h10:c≠10:=fun e=>h (.inl e)
 have h13:c≠13:=fun e=>h (.inr e)
 cases r with
 | nil=>simp[zS,h10,h13]
 | cons d r=>simp[zS,h10,h13]
theorem zes (cur r:List UInt8):zS cur (10::r)=cur::zS [] r:=by cases r<;>simp[zS]
theorem zem {cur r:List UInt8} (h:r.head?≠some 10):zS cur (13::r)=cur::zS [] r:=by
 cases r with
 | nil=>simp[zS]
 | cons d r =>
  have:d≠10:=by simpa using h
  simp[zS,this]
theorem zdq (cur r:List UInt8):zS cur (13::10::r)=cur::zS [] r:=by simp[zS]
def zkU (b cap:Nat) (l:List (List UInt8)):AV:=if l=[] then .sl .nil 1 [] else .ms b 0 l.length cap
theorem zfA (b cap:Nat):zkU b cap []=.sl .nil 1 []:=rfl
theorem zbJ {b cap:Nat} {l:List (List UInt8)} (h:l≠[]):zkU b cap l=.ms b 0 l.length cap:=if_neg h
def zmc (s:List UInt8):AEnd→Heap→Prop:=ziR fun v H'=>∃ b cap,v=.ms b 0 (zv s).length cap∧MsT H' b cap (zv s)
section
variable {KP:AV→Heap→Prop} {Q:AExit→Env→Heap→Prop} {st:List Fr} {ρ:Env} {H:Heap} {all items:List AItem} {d:Option Nat} {R:List Chk}
theorem zdp {b cap:Nat} {l:List (List UInt8)} {x:List UInt8} {o2:Own} (h:l≠[]→MsT H b cap l) (h1:(l.length+1)*16≤140737488355328) (h2:l.length+1≤maxLen)
  (k:∀ b' cap' H',MsT H' b' cap' (l++[x])→goR Tryz.prog KP Q all items st R (ρ.set d (.ms b' 0 (l.length+1) cap')) H') :
  goPm Tryz.prog KP Q all items st d R ρ 1 16 [.str []] (zkU b cap l) (.sl o2 1 [[.str x]]) H:=by
 by_cases hl:l=[]
 ·subst hl
  rw[zfA]
  exact zkH fun b' cap' H' hm=>k b' cap' H' hm
 ·rw[zbJ hl]
  exact zlF (h hl) h1 h2 k
end
theorem zkK (s:List UInt8) (hs:s.length≤Lim):ACalls Tryz.prog 216 [.str s] Heap.emp (zmc s):=by
 refine ACalls.go ir216 ck216 (Al4 _) fun KP Q hQ=>?_
 have hs':=hs
 simp only[Lim] at hs'
 simp(disch:=first|omega|assumption) only[ir216,go_sem]
 refine goL_st (fun x:Nat×Nat×List (List UInt8)×Nat×Nat=>[(3,zkU x.2.2.2.1 x.2.2.2.2 x.2.2.1),(4,.int .i64 x.2.1),(5,.int .i64 x.1)]) (fun x H'=>x.2.1≤x.1∧x.1≤s.length∧x.2.2.1.length≤x.1∧x.2.2.1++zS ((s.take x.1).drop x.2.1) (s.drop x.1)=zv s∧(x.2.2.1≠[]→MsT H' x.2.2.2.1 x.2.2.2.2 x.2.2.1)) (fun x=>s.length-x.1) (0,0,[],0,0) (by simp(disch:=first|omega|assumption) only[zfA,go_sem]) ⟨Al4 _,Nat.zero_le _,Al4 _,by simp[zv],fun h=>absurd rfl h⟩ ?_
 rintro⟨i,fr,l,b,cap⟩ H1 J ⟨h1,h2,h3,h4,h5⟩ hJ
 simp only at h1 h2 h3 h4 h5
 by_cases hlt:i<s.length
 case neg =>
  obtain rfl:i=s.length:=by omega
  have hlt':¬ ((s.length:Int)<s.length):=by omega
  have hb1:((fr:Int)≤s.length)=True:=eq_true (by omega)
  rw[List.drop_length,List.take_length] at h4
  simp only[zS] at h4
  simp(disch:=first|omega|assumption) only[hlt',hb1,go_sem]
  refine zdp h5 (by omega) (by simp only[maxLen];omega) fun b' cap' H2 hm=>?_
  simp(disch:=first|omega|assumption) only[go_sem]
  exact hQ _ _ H2 H2 [_] nofun rfl (Low.refl _) ⟨b',cap',by rw[← h4];simp[tupOf,envOf,AV.strip,AV.strip1],by rw[← h4];exact hm⟩
 have hlt':((i:Int)<s.length)=True:=eq_true (by omega)
 obtain⟨c,r,hd⟩:∃ c r,s.drop i=c::r:=by
  cases hx:s.drop i with
  | nil=>have:=congrArg List.length hx;simp at this;omega
  | cons c r=>exact⟨c,r,rfl⟩
 have hc:s.getD i 0=c:=by
  have:(s.drop i).getD 0 0=c:=by rw[hd];rfl
  simpa[List.getD_eq_getElem?_getD] using this
 have hr:s.drop (i+1)=r:=by rw[← List.drop_drop,hd];rfl
 have htk:s.take (i+1)=s.take i++[c]:=by
  rw[List.take_add,hd];rfl
 have hcur:((s.take (i+1)).drop fr)=(s.take i).drop fr++[c]:=by
  rw[htk,zdc (by simp;omega)]
 rw[hd] at h4
 have hb1:((fr:Int)≤(i:Int))=True:=eq_true (by omega)
 have hne9:l++[(s.take i).drop fr]≠[]:=by simp
 have hb2:((i:Int)≤s.length)=True:=eq_true (by omega)
 by_cases e10:c=10
 case pos =>
  subst e10
  rw[zes] at h4
  have hcn:((10:UInt8).toNat:Int)=10:=rfl
  simp(disch:=first|omega|assumption) only[hlt',hc,hcn,hb1,hb2,go_sem]
  refine zdp h5 (by omega) (by simp only[maxLen];omega) fun b' cap' H2 hm=>?_
  simp(disch:=first|omega|assumption) only[hc,hcn,wrap64,go_sem]
  refine goJ (hJ (i+1,i+1,l++[(s.take i).drop fr],b',cap') H2 (by simp only;omega) ⟨Al4 _,by simp only;omega,by simp;omega,?_,fun _=>hm⟩) (by simp(disch:=first|omega|assumption) only[zbJ hne9,Al5,Al2,Al3,Nat.zero_add,Int.natCast_add,go_sem])
  rw[hr]
  simpa using h4
 by_cases e13:c=13
 case neg =>
  rw[zbH (by simp[e10,e13])] at h4
  have c10:¬ ((c.toNat:Int)=10):=fun e=>e10 (UInt8.toNat_inj.1 (by simpa using (by omega:c.toNat=10)))
  have c13:¬ ((c.toNat:Int)=13):=fun e=>e13 (UInt8.toNat_inj.1 (by simpa using (by omega:c.toNat=13)))
  simp(disch:=first|omega|assumption) only[hlt',hc,c10,c13,wrap64,go_sem]
  refine goJ (hJ (i+1,fr,l,b,cap) H1 (by simp only;omega) ⟨by simp only;omega,by simp only;omega,by simp only;omega,?_,h5⟩) (by simp(disch:=first|omega|assumption) only[Int.natCast_add,go_sem])
  rw[hr,hcur];exact h4
 subst e13
 have hcn:((13:UInt8).toNat:Int)=13:=rfl
 by_cases h10:r.head?=some 10
 case neg =>
  rw[zem h10] at h4
  by_cases hi2:i+1<s.length
  case neg =>
   have hi2':¬ ((i:Int)+1<s.length):=by omega
   simp(disch:=first|omega|assumption) only[hlt',hc,hcn,hb1,hb2,go_sem]
   refine zdp h5 (by omega) (by simp only[maxLen];omega) fun b' cap' H2 hm=>?_
   simp(disch:=first|omega|assumption) only[hc,hcn,wrap64,hi2',go_sem]
   refine goJ (hJ (i+1,i+1,l++[(s.take i).drop fr],b',cap') H2 (by simp only;omega) ⟨Al4 _,by simp only;omega,by simp;omega,?_,fun _=>hm⟩) (by simp(disch:=first|omega|assumption) only[zbJ hne9,Al5,Al2,Al3,Nat.zero_add,Int.natCast_add,go_sem])
   rw[hr]
   simpa using h4
  have hi2':((i:Int)+1<s.length)=True:=eq_true (by omega)
  obtain⟨e,r',hre⟩:∃ e r',r=e::r':=by
   cases r with
   | nil=>have:=congrArg List.length hr;simp at this;omega
   | cons e r'=>exact⟨e,r',rfl⟩
  have hge:s.getD (i+1) 0=e:=by
   have:(s.drop (i+1)).getD 0 0=e:=by rw[hr,hre];rfl
   simpa[List.getD_eq_getElem?_getD] using this
  have hne:e≠10:=by rw[hre] at h10;simpa using h10
  have hgn:¬ ((e.toNat:Int)=10):=fun x=>hne (UInt8.toNat_inj.1 (by simpa using (by omega:e.toNat=10)))
  have hg1:((i:Int)+1).toNat=i+1:=by omega
  simp(disch:=first|omega|assumption) only[hlt',hc,hcn,hb1,hb2,go_sem]
  refine zdp h5 (by omega) (by simp only[maxLen];omega) fun b' cap' H2 hm=>?_
  simp(disch:=first|omega|assumption) only[hc,hcn,wrap64,hi2',hg1,hge,hgn,go_sem]
  refine goJ (hJ (i+1,i+1,l++[(s.take i).drop fr],b',cap') H2 (by simp only;omega) ⟨Al4 _,by simp only;omega,by simp;omega,?_,fun _=>hm⟩) (by simp(disch:=first|omega|assumption) only[zbJ hne9,Al5,Al2,Al3,Nat.zero_add,Int.natCast_add,go_sem])
  rw[hr]
  simpa using h4
 obtain⟨r',hre⟩:∃ r',r=10::r':=by
  cases r with
  | nil=>cases h10
  | cons e r'=>simp only[List.head?_cons,Al1] at h10;subst h10;exact⟨r',rfl⟩
 rw[hre,zdq] at h4
 have hi2:i+1<s.length:=by
  have:=congrArg List.length hr;rw[hre] at this;simp at this;omega
 have hi2':((i:Int)+1<s.length)=True:=eq_true (by omega)
 have hge:s.getD (i+1) 0=10:=by
  have:(s.drop (i+1)).getD 0 0=10:=by rw[hr,hre];rfl
  simpa[List.getD_eq_getElem?_getD] using this
 have hgn:((10:UInt8).toNat:Int)=10:=rfl
 have hg1:((i:Int)+1).toNat=i+1:=by omega
 have hr2:s.drop (i+1+1)=r':=by rw[← List.drop_drop,hr,hre];rfl
 simp(disch:=first|omega|assumption) only[hlt',hc,hcn,hb1,hb2,go_sem]
 refine zdp h5 (by omega) (by simp only[maxLen];omega) fun b' cap' H2 hm=>?_
 simp(disch:=first|omega|assumption) only[hc,hcn,wrap64,hi2',hg1,hge,hgn,go_sem]
 refine goJ (hJ (i+1+1,i+1+1,l++[(s.take i).drop fr],b',cap') H2 (by simp only;omega) ⟨Al4 _,by simp only;omega,by simp;omega,?_,fun _=>hm⟩) (by simp(disch:=first|omega|assumption) only[zbJ hne9,Al5,Al2,Al3,Nat.zero_add,Int.natCast_add,go_sem])
 rw[hr2]
 simpa using h4
theorem zge (c:UInt8):zd3 c=true↔(c.toNat:Int)=9∨(c.toNat:Int)=32:=by
 simp only[zd3,YU,zn]
 constructor
 ·rintro(rfl|rfl)
  ·exact .inl rfl
  ·exact .inr rfl
 ·rintro(h|h)
  ·exact .inl (UInt8.toNat_inj.1 (by simpa using (by omega:c.toNat=9)))
  ·exact .inr (UInt8.toNat_inj.1 (by simpa using (by omega:c.toNat=32)))
theorem ziF {a r:List UInt8} {c:UInt8} (ha:∀ x∈a,zd3 x=true) (hc:zd3 c=false):Yl (a++c::r)=a.length∧zU (a++c::r)=false:=by
 refine⟨?_,?_⟩
 ·unfold Yl
  induction a with
  | nil=>simp[hc]
  | cons x a ih=>simp[ha x (.head _),ih fun y hy=>ha y (.tail _ hy)]
 ·simp[zU,hc]
theorem zjB {a:List UInt8} (ha:∀ x∈a,zd3 x=true):Yl a=a.length∧zU a=true:=by
 have hb:zU a=true:=yD.2 ha
 exact⟨ziH hb,hb⟩
theorem YY (s:List UInt8) (hs:s.length≤Lim):Pure Tryz.prog 246 [.str s] (.tup [.int .i64 (Yl s),.bool (!zU s)]):=by
 refine Pure.go ir246 ck246 (Al4 _) fun KP Q hQ=>?_
 have hs':=hs
 simp only[Lim] at hs'
 simp(disch:=first|omega|assumption) only[ir246,go_sem]
 refine goL_range s 7 (fun _:AV=>[]) (fun done rest _ H'=>∀ x∈done,zd3 x=true) (.int .i64 0) (by simp(disch:=first|omega|assumption) only[go_sem]) (fun x hx=>nomatch hx) ?_ ?_
 ·rintro y H1 J hdn hlt
  obtain⟨g1,g2⟩:=zjB hdn
  simp(disch:=first|omega|assumption) only[hlt,go_sem]
  exact hQ _ _ _ _ nofun rfl (by simp[tupOf,envOf,AV.strip,AV.strip1,g1,g2])
 ·rintro done c rest y H1 J hd hlt hlt2 hdn hJ
  have hc:s.getD done.length 0=c:=by rw[hd];simp
  cases hb:zd3 c with
  | false =>
   obtain⟨g1,g2⟩:=ziF (r:=rest) hdn hb
   rw[← hd] at g1 g2
   have hn:¬ ((c.toNat:Int)=9∨(c.toNat:Int)=32):=fun h=>by rw[(zge c).2 h] at hb;cases hb
   have n9:¬ ((c.toNat:Int)=9):=fun h=>hn (.inl h)
   have n32:¬ ((c.toNat:Int)=32):=fun h=>hn (.inr h)
   simp(disch:=first|omega|assumption) only[hlt,hc,n9,n32,go_sem]
   exact hQ _ _ _ _ nofun rfl (by simp[tupOf,envOf,AV.strip,AV.strip1,g1,g2])
  | true =>
   have hall:∀ x∈done++[c],zd3 x=true:=fun x hx=>by
    rcases List.mem_append.1 hx with h|h
    ·exact hdn x h
    ·simp at h;subst h;exact hb
   rcases(zge c).1 hb with h9|h32
   ·simp(disch:=first|omega|assumption) only[hlt,hc,h9,wrap64,go_sem]
    exact goJ (hJ (.int .i64 0) _ hall) (by simp(disch:=first|omega|assumption) only[go_sem])
   ·have n9:¬ ((c.toNat:Int)=9):=by omega
    simp(disch:=first|omega|assumption) only[hlt,hc,n9,h32,wrap64,go_sem]
    exact goJ (hJ (.int .i64 0) _ hall) (by simp(disch:=first|omega|assumption) only[go_sem])
theorem zaw (s:List UInt8) (hs:s.length≤Lim):Pure Tryz.prog 218 [.str s] (.bool (zU s)):=by
 refine Pure.go ir218 ck218 (Al4 _) fun KP Q hQ=>?_
 simp(disch:=first|omega|assumption) only[ir218,go_sem]
 refine goK_pure (YY s hs) ?_
 simp(disch:=first|omega|assumption) only[go_sem]
 exact hQ _ _ _ _ nofun rfl (by simp[tupOf,envOf,AV.strip,AV.strip1])
theorem zgA {l a:List (List UInt8)} {x:List UInt8} {b:List (List UInt8)} (h:l=a++x::b) (tl:List AV):((yV l++tl).drop (0+a.length*1)).take 1=[.str x]:=by
 subst h;simp[yV]
theorem zhv {l a:List (List UInt8)} {x:List UInt8} {b:List (List UInt8)} (h:l=a++x::b) (tl:List AV):0+a.length*1+1≤(yV l++tl).length:=by
 subst h;simp[yV]
theorem zjV {H:Heap} {b cap:Nat} {l:List (List UInt8)} (h:MsT H b cap l) (hx:∀ s∈l,s.length≤Lim) (hl:l.length≤Lim) :
  ACalls Tryz.prog 217 [.ms b 0 l.length cap] H (ziR fun v H'=>v=.int .i64 (indM l)∧H'=H):=by
 obtain⟨tl,hb,hc⟩:=h
 refine ACalls.go ir217 ck217 (Al4 _) fun KP Q hQ=>?_
 have hl':=hl
 simp only[Lim] at hl'
 simp(disch:=first|omega|assumption) only[ir217,go_sem]
 refine goL_range l 10 (fun n:Int=>[(3,.int .i64 n)]) (fun done rest n H'=>H'=H∧((done=[]∧n=-1)∨(done≠[]∧zbz rest n=indM l))) (-1) (by simp(disch:=first|omega|assumption) only[go_sem]) ⟨rfl,.inl ⟨rfl,rfl⟩⟩ ?_ ?_
 ·rintro n H1 J ⟨rfl,hi⟩ hlt
  have e:n=indM l:=by
   rcases hi with ⟨h1,h2⟩|⟨_,h2⟩
   ·subst h1;subst h2;rfl
   ·simpa[zbz] using h2
  simp(disch:=first|omega|assumption) only[hlt,go_sem]
  exact hQ _ _ _ _ [_] nofun rfl (Low.refl _) ⟨by simp[tupOf,envOf,AV.strip,AV.strip1,e],rfl⟩
 ·rintro done x rest n H1 J hd hlt hlt2 ⟨rfl,hi⟩ hJ
  have hg:=zgA hd tl
  have hle:=zhv hd tl
  have hxl:=hx x (by rw[hd];simp)
  have hne:done++[x]≠[]:=by simp
  by_cases h0:done.length=0
  ·have h0':((done.length:Int)=0)=True:=eq_true (by omega)
   have hdn:=Ze.1 h0
   have e1:n=-1:=by
    rcases hi with ⟨_,h2⟩|⟨h1,_⟩
    ·exact h2
    ·exact absurd hdn h1
   have e2:rest=l.tail:=by rw[hd,hdn];rfl
   simp(disch:=first|omega|assumption) only[hlt,hb,hg,hle,go_sem]
   refine goK_pure (YY x hxl) ?_
   simp(disch:=first|omega|assumption) only[h0',wrap64,go_sem]
   exact goJ (hJ n _ ⟨rfl,.inr ⟨hne,by rw[e1,e2];rfl⟩⟩) (by simp(disch:=first|omega|assumption) only[go_sem])
  have h0':¬ ((done.length:Int)=0):=by omega
  have e1:zbz (x::rest) n=indM l:=by
   rcases hi with ⟨h1,_⟩|⟨_,h2⟩
   ·rw[h1] at h0;exact absurd rfl h0
   ·exact h2
  simp only[zbz] at e1
  cases hbr:zU x with
  | true =>
   rw[hbr,if_pos rfl] at e1
   simp(disch:=first|omega|assumption) only[hlt,hb,hg,hle,go_sem]
   refine goK_pure (YY x hxl) ?_
   simp(disch:=first|omega|assumption) only[h0',hbr,wrap64,go_sem]
   exact goJ (hJ n _ ⟨rfl,.inr ⟨hne,e1⟩⟩) (by simp(disch:=first|omega|assumption) only[go_sem])
  | false =>
   rw[hbr,if_neg (by decide)] at e1
   by_cases hn:n<0
   ·rw[if_pos (.inl hn)] at e1
    simp(disch:=first|omega|assumption) only[hlt,hb,hg,hle,go_sem]
    refine goK_pure (YY x hxl) ?_
    simp(disch:=first|omega|assumption) only[h0',hbr,hn,wrap64,go_sem]
    exact goJ (hJ (Yl x) _ ⟨rfl,.inr ⟨hne,e1⟩⟩) (by simp(disch:=first|omega|assumption) only[go_sem])
   ·by_cases hn2:(Yl x:Int)<n
    ·rw[if_pos (.inr hn2)] at e1
     simp(disch:=first|omega|assumption) only[hlt,hb,hg,hle,go_sem]
     refine goK_pure (YY x hxl) ?_
     simp(disch:=first|omega|assumption) only[h0',hbr,hn,hn2,wrap64,go_sem]
     exact goJ (hJ (Yl x) _ ⟨rfl,.inr ⟨hne,e1⟩⟩) (by simp(disch:=first|omega|assumption) only[go_sem])
    ·rw[if_neg (by rintro(h|h)<;>contradiction)] at e1
     simp(disch:=first|omega|assumption) only[hlt,hb,hg,hle,go_sem]
     refine goK_pure (YY x hxl) ?_
     simp(disch:=first|omega|assumption) only[h0',hbr,hn,hn2,wrap64,go_sem]
     exact goJ (hJ n _ ⟨rfl,.inr ⟨hne,e1⟩⟩) (by simp(disch:=first|omega|assumption) only[go_sem])
theorem zgr (s cur:List UInt8):zS cur s≠[]:=by
 cases s with
 | nil=>simp[zS]
 | cons c s =>
  by_cases h:c=10∨c=13
  ·rcases h with rfl|rfl
   ·rw[zes];simp
   ·by_cases h10:s.head?=some 10
    ·cases s with
     | nil=>cases h10
     | cons d s=>simp only[List.head?_cons,Al1] at h10;subst h10;rw[zdq];simp
    ·rw[zem h10];simp
  ·rw[zbH h];exact zgr s _
termination_by s.length
theorem za2:∀(s cur:List UInt8),((zS cur s).map fun x=>x.length+1).sum≤cur.length+s.length+1
 | [],cur=>by simp[zS]
 | [c],cur=>by simp only[zS];split<;>simp
 | c::d::r,cur=>by
  have h1:=za2 (d::r)
  have h2:=za2 r
  simp only[zS]
  repeat' split
  all_goals simp only[Al2,List.map_cons,List.sum_cons] at h1 ⊢
  ·have:=h1 [];simp only[Al3] at this;omega
  ·have:=h2 [];simp only[Al3] at this;omega
  ·have:=h1 [];simp only[Al3] at this;omega
  ·have:=h1 (cur++[c]);simp only[Al5,Al2,Al3] at this;omega
termination_by s=>s.length
theorem zkt {l:List (List UInt8)} {x:List UInt8} (h:x∈l):x.length+1≤(l.map fun x=>x.length+1).sum:=by
 obtain⟨a,b,rfl⟩:=List.append_of_mem h
 simp;omega
def AtR (cells:List AV) (off:Nat) (cur:List (List UInt8)):Prop:=∃ pre post,cells=pre++(yV cur++post)∧pre.length=off
theorem AtR.get {cells:List AV} {off:Nat} {cur a:List (List UInt8)} {x:List UInt8} {r:List (List UInt8)} (h:AtR cells off cur) (hc:cur=a++x::r):(cells.drop (off+a.length*1)).take 1=[.str x]∧off+a.length*1+1≤cells.length:=by
 obtain⟨pre,post,rfl,rfl⟩:=h
 subst hc
 refine⟨?_,by simp[yV];omega⟩
 rw[Nat.mul_one,← List.drop_drop,List.drop_left]
 simp[yV]
theorem AtR.le {cells:List AV} {off:Nat} {cur:List (List UInt8)} (h:AtR cells off cur):off+cur.length≤cells.length:=by
 obtain⟨pre,post,rfl,rfl⟩:=h
 simp[yV]
theorem AtR.front {cells:List AV} {b off cap:Nat} {x:List UInt8} {r:List (List UInt8)} (h:AtR cells off (x::r)) (hc:r.length+1≤cap) :
  ∃ off2,msCut 1 b off (r.length+1) cap (some 1) (some ((r.length+1:Nat):Int))=some (.ms b off2 r.length (cap-1))∧AtR cells off2 r:=by
 obtain⟨pre,post,rfl,rfl⟩:=h
 have e:(((r.length+1:Nat):Int)).toNat-(1:Int).toNat=r.length:=by omega
 by_cases h1:cap=1
 ·obtain rfl:r=[]:=Ze.1 (by omega)
  exact⟨pre.length,by simp[msCut,h1],pre,.str x::post,by simp[yV],rfl⟩
 ·refine⟨pre.length+1,?_,pre++[.str x],post,by simp[yV],by simp⟩
  unfold msCut
  simp only
  rw[if_pos (by omega),if_neg (by simpa using h1),e]
  simp
theorem zdi {b off cap len k:Nat} (h:k≤len):msCut 1 b off len cap (some 0) (some (k:Int))=some (.ms b off k cap):=by
 unfold msCut
 simp only
 rw[if_pos (by omega)]
 simp
theorem AtR.back {cells:List AV} {off:Nat} {x:List UInt8} {r:List (List UInt8)} (h:AtR cells off (r++[x])):AtR cells off r:=by
 obtain⟨pre,post,rfl,rfl⟩:=h
 exact⟨pre,.str x::post,by simp[yV],rfl⟩
theorem zeb:∀(cur:List (List UInt8)) (post:List AV),rowsA 1 cur.length (yV cur++post)=cT cur
 | [],_=>rfl
 | x::r,post=>by
  have:=zeb r post
  simp only[yV] at this
  simp[rowsA,yV,cT,AV.strip1,this]
theorem AtR.rows {cells:List AV} {off:Nat} {cur:List (List UInt8)} (h:AtR cells off cur):rowsA 1 cur.length (cells.drop off)=cT cur:=by
 obtain⟨pre,post,rfl,rfl⟩:=h
 rw[List.drop_left,zeb]
def wL (l:List (List UInt8)):Nat:=(l.map fun x=>x.length+1).sum
theorem zcf {l:List (List UInt8)} {x:List UInt8} (h:x∈l):x.length+1≤wL l:=zkt h
theorem zce:∀ l:List (List UInt8),l.length≤wL l
 | []=>by simp
 | x::r=>by have:=zce r;simp only[wL,List.map_cons,List.sum_cons,Al2] at this ⊢;omega
theorem zha (a b:List (List UInt8)):wL (a++b)=wL a+wL b:=by simp[wL]
theorem Zo (x:List UInt8) (b:List (List UInt8)):wL (x::b)=x.length+1+wL b:=by simp[wL]
theorem zfx (n:Nat):∀ l:List (List UInt8),wL (l.map fun s=>s.drop n)≤wL l
 | []=>by simp[wL]
 | x::r=>by have:=zfx n r;simp only[List.map_cons,Zo,Zv];omega
theorem zcN:∀ l:List (List UInt8),(Lib.join l [10]).length≤wL l
 | []=>by simp[Lib.join]
 | [x]=>by simp[Lib.join,wL]
 | x::y::r=>by
  have:=zcN (y::r)
  have e:Lib.join (x::y::r) [10]=x++10::Lib.join (y::r) [10]:=by simp[Lib.join]
  rw[e,Zo]
  simp only[Al5,Al2];omega
theorem zai (r:List (List UInt8)) (x:List UInt8):zbD (r++[x])=if zU x then zbD r else r++[x]:=by
 unfold zbD
 rw[List.reverse_append,List.reverse_singleton,List.singleton_append,List.dropWhile_cons]
 split
 ·rfl
 ·simp
theorem zhP {α:Type} {l:List α} (h:l≠[]):∃ r x,l=r++[x]:=⟨l.dropLast,l.getLast h,(List.dropLast_concat_getLast h).symm⟩
theorem zjr (a:List (List UInt8)) (x y:List UInt8) (r:List (List UInt8)) (tl:List AV):splice (yV (a++x::r)++tl) (0+a.length*1) [.str y]=yV (a++y::r)++tl:=by
 have e:yV (a++x::r)++tl=yV a++(.str x::(yV r++tl)):=by simp[yV]
 rw[e]
 simp only[splice,Al2,Al3,Nat.zero_add,Nat.mul_one]
 rw[List.take_left' (Zj a),List.drop_append,List.drop_eq_nil_of_le (by rw[Zj];omega),Zj,Nat.add_sub_cancel_left]
 simp[yV]
theorem zkp (raw:List UInt8) (hs:raw.length≤1099511600000):Pure Tryz.prog 175 [.str raw] (.str (yv raw)):=by
 refine Pure.go ir175 ck175 (Al4 _) fun KP Q hQ=>?_
 have hw0:wL (zv raw)≤raw.length+1:=by have:=za2 raw [];simpa[wL,zv] using this
 obtain⟨x0,T,hL⟩:∃ x T,zv raw=x::T:=by
  cases hx:zv raw with
  | nil=>exact absurd hx (zgr raw [])
  | cons x T=>exact⟨x,T,rfl⟩
 have hLl:=zce (zv raw)
 simp(disch:=first|omega|assumption) only[ir175,go_sem]
 refine goK_ret (zkK raw (by simp only[Lim];omega)) fun v H1 ⟨b,cap,hv,hm⟩=>?_
 subst hv
 have hm0:=hm
 obtain⟨tl,hb,hcap⟩:=hm
 simp(disch:=first|omega|assumption) only[go_sem]
 refine goK_ret (zjV hm0 (fun s hsm=>by have:=zcf hsm;simp only[Lim];omega) (by simp only[Lim];omega)) fun v H2 ⟨hv,hH⟩=>?_
 subst hv;subst hH
 by_cases hn:0<indM (zv raw)
 case neg =>
  have hn0:(indM (zv raw)).toNat=0:=by omega
  obtain⟨D,hDd⟩:∃ D,D=zv raw:=⟨_,rfl⟩
  have hDM:zbe (zv raw)=D:=by
   rw[hDd]
   conv=>lhs;rw[hL]
   simp only[zbe]
   rw[← hL,hn0]
   simp[hL]
  have hDl:D.length=(zv raw).length:=by rw[hDd]
  have hbX:H2 b=some (.cells (yV D++tl)):=by rw[hDd];exact hb
  obtain⟨cells,hcells⟩:∃ cells,cells=yV D++tl:=⟨_,rfl⟩
  rw[← hcells] at hbX
  have hwD:wL D≤1099511627777:=by rw[hDd];omega
  rw[← hDd] at hcap
  simp(disch:=first|omega|assumption) only[hn,go_sem]
  refine goL_st (fun x:Nat×Nat×List (List UInt8)=>[(3,.ms b x.1 x.2.2.length x.2.1)]) (fun x H'=>H'=H2∧AtR cells x.1 x.2.2∧x.2.2.length≤x.2.1∧x.2.2.dropWhile zU=D.dropWhile zU∧wL x.2.2≤wL D) (fun x=>x.2.2.length) (0,cap,D) (by simp(disch:=first|omega|assumption) only[hDl,go_sem]) ⟨rfl,⟨[],tl,by rw[hcells,Zh],rfl⟩,by simp only;omega,rfl,Al4 _⟩ ?_
  rintro⟨off,cp,cur⟩ H3 J ⟨rfl,ha,hcp,hdw,hw⟩ hJ
  simp only at ha hcp hdw hw
  have stage2:∀ K:Unit,cur=D.dropWhile zU→True:=fun _ _=>trivial
  by_cases hcur:cur=[]
  case pos =>
   subst hcur
   have hD:D.dropWhile zU=[]:=by rw[← hdw];rfl
   simp(disch:=first|omega|assumption) only[Al3,go_sem]
   refine goL_st (fun x:Unit=>[]) (fun x H'=>H'=H3) (fun x=>0) () (by simp(disch:=first|omega|assumption) only[Al3,go_sem]) rfl ?_
   rintro⟨⟩ H4 J4 rfl hJ4
   simp(disch:=first|omega|assumption) only[Al3,go_sem]
   refine goZ_ms hbX (by decide) (by have:=ha.le;simpa using this) ?_
   have hr:=ha.rows
   simp only[Al3] at hr
   simp(disch:=first|omega|assumption) only[hr,go_sem]
   refine goK_pure (Yf [] [10] (by simp[Lib.join]) (by simp)) ?_
   have e:yv raw=Lib.join [] [10]:=by
    unfold yv;rw[hDM,hD];rfl
   simp(disch:=first|omega|assumption) only[go_sem]
   exact hQ _ _ _ _ nofun rfl (by simp[tupOf,envOf,AV.strip,AV.strip1,e])
  obtain⟨x,r,hxr⟩:∃ x r,cur=x::r:=by cases cur with|nil=>exact absurd rfl hcur|cons x r=>exact⟨x,r,rfl⟩
  have hxl:x.length≤Lim:=by have:=zcf (l:=cur) (x:=x) (by rw[hxr];simp);simp only[Lim];omega
  obtain⟨hg,hle⟩:=ha.get (a:=[]) (x:=x) (r:=r) hxr
  simp only[Al3,Nat.zero_mul,Nat.add_zero] at hg hle
  have hcl:cur.length=r.length+1:=by rw[hxr];rfl
  have hpos:((0:Int)<(cur.length:Int))=True:=eq_true (by omega)
  have h1l:((1:Int)≤(cur.length:Int))=True:=eq_true (by omega)
  cases hbr:zU x with
  | true =>
   obtain⟨off2,hcut,hat⟩:=AtR.front (b:=b) (cap:=cp) (by rw[← hxr];exact ha) (by omega)
   rw[← hcl] at hcut
   simp(disch:=first|omega|assumption) only[hpos,hbX,hg,hle,Nat.zero_mul,Nat.add_zero,go_sem]
   refine goK_pure (zaw x hxl) ?_
   simp(disch:=first|omega|assumption) only[hbr,hpos,h1l,hcut,go_sem]
   refine goJ (hJ (off2,cp-1,r) H3 (by simp only;omega) ⟨rfl,hat,by simp only;omega,by rw[← hdw,hxr];simp[hbr],by rw[hxr,Zo] at hw;simp only;omega⟩) (by simp(disch:=first|omega|assumption) only[go_sem])
  | false =>
   have hDc:D.dropWhile zU=cur:=by rw[← hdw,hxr];simp[hbr]
   simp(disch:=first|omega|assumption) only[hpos,hbX,hg,hle,Nat.zero_mul,Nat.add_zero,go_sem]
   refine goK_pure (zaw x hxl) ?_
   simp(disch:=first|omega|assumption) only[hbr,go_sem]
   refine goL_st (fun x:List (List UInt8)=>[(3,.ms b off x.length cp)]) (fun x H'=>H'=H3∧AtR cells off x∧zbD x=zbD cur∧wL x≤wL D∧x.length≤cp) (fun x=>x.length) cur (by simp(disch:=first|omega|assumption) only[go_sem]) ⟨rfl,ha,rfl,hw,hcp⟩ ?_
   rintro u H4 J4 ⟨rfl,ha4,ht4,hw4,hc4⟩ hJ4
   by_cases hu:u=[]
   ·subst hu
    simp(disch:=first|omega|assumption) only[Al3,go_sem]
    refine goZ_ms hbX (by decide) (by have:=ha4.le;simpa using this) ?_
    have hr:=ha4.rows
    simp only[Al3] at hr
    simp(disch:=first|omega|assumption) only[hr,go_sem]
    refine goK_pure (Yf [] [10] (by simp[Lib.join]) (by simp)) ?_
    have e:yv raw=Lib.join [] [10]:=by
     unfold yv;rw[hDM,hDc,← ht4];rfl
    simp(disch:=first|omega|assumption) only[go_sem]
    exact hQ _ _ _ _ nofun rfl (by simp[tupOf,envOf,AV.strip,AV.strip1,e])
   obtain⟨q,y,hqy⟩:=zhP hu
   have hyl:y.length≤Lim:=by have:=zcf (l:=u) (x:=y) (by rw[hqy];simp);simp only[Lim];omega
   obtain⟨hg4,hle4⟩:=ha4.get (a:=q) (x:=y) (r:=[]) hqy
   have hul:u.length=q.length+1:=by rw[hqy];simp
   have hpos4:((0:Int)<(u.length:Int))=True:=eq_true (by omega)
   have wq:IntKind.wrap .i64 ((u.length:Int)-1)=(q.length:Int):=by rw[wrap64 (by omega) (by have:=zce u;omega)];omega
   have h1q:((q.length:Int)<(u.length:Int))=True:=eq_true (by omega)
   have h2q:((q.length:Int)≤(u.length:Int))=True:=eq_true (by omega)
   cases hby:zU y with
   | true =>
    simp(disch:=first|omega|assumption) only[hpos4,wq,h1q,hbX,hg4,hle4,go_sem]
    refine goK_pure (zaw y hyl) ?_
    have hcut:=zdi (b:=b) (off:=off) (cap:=cp) (show q.length≤u.length by omega)
    simp(disch:=first|omega|assumption) only[hby,wq,h1q,h2q,hcut,go_sem]
    refine goJ (hJ4 q H4 (by omega) ⟨rfl,AtR.back (x:=y) (by rw[← hqy];exact ha4),by rw[← ht4,hqy,zai,hby];rfl,by rw[hqy,zha] at hw4;omega,by omega⟩) (by simp(disch:=first|omega|assumption) only[go_sem])
   | false =>
    have hlen:=zce u
    simp(disch:=first|omega|assumption) only[hpos4,wq,h1q,hbX,hg4,hle4,go_sem]
    refine goK_pure (zaw y hyl) ?_
    simp(disch:=first|omega|assumption) only[hby,go_sem]
    refine goZ_ms hbX (by decide) (by have:=ha4.le;omega) ?_
    have hr:=ha4.rows
    have hj:=zcN u
    simp(disch:=first|omega|assumption) only[hr,go_sem]
    refine goK_pure (Yf u [10] (by omega) (by omega)) ?_
    have e:yv raw=Lib.join u [10]:=by
     unfold yv;rw[hDM,hDc,← ht4,hqy,zai,hby];rfl
    simp(disch:=first|omega|assumption) only[go_sem]
    exact hQ _ _ _ _ nofun rfl (by simp[tupOf,envOf,AV.strip,AV.strip1,e])
 case pos =>
  obtain⟨n,hne⟩:∃ n:Nat,indM (zv raw)=n:=⟨(indM (zv raw)).toNat,by omega⟩
  have hnl:n≤1099511627777:=by
   by_cases hall:∀ s∈(zv raw).tail,zU s=true
   ·have:∀(l:List (List UInt8)),(∀ s∈l,zU s=true)→zbz l (-1)=-1:=by
     intro l
     induction l with
     | nil=>intro _;rfl
     | cons a l ih=>intro h;simp only[zbz,h a (.head _),if_true];exact ih fun s hs=>h s (.tail _ hs)
    have:=this _ hall
    have e:indM (zv raw)=zbz (zv raw).tail (-1):=rfl
    omega
   ·obtain⟨s,hs⟩:=Classical.not_forall.1 hall
    obtain⟨hs,hb2⟩:=Classical.not_imp.1 hs
    have h1:=(zhH (zv raw).tail (-1)).2 s hs (by simpa using hb2)
    have h2:=zcf (List.mem_of_mem_tail hs)
    have h3:Yl s≤s.length:=(List.takeWhile_sublist _).length_le
    have e:indM (zv raw)=zbz (zv raw).tail (-1):=rfl
    omega
  have hL2:=hL
  rw[hL] at hLl hw0
  have hcap0:=hcap
  rw[hL] at hb hcap0
  have hn':((0:Int)<(n:Int))=True:=eq_true (by omega)
  rw[hne]
  simp(disch:=first|omega|assumption) only[hn',go_sem]
  refine goL_st (fun x:List (List UInt8)×List (List UInt8)=>[(5,.int .i64 ((x.1.length:Int)+1))]) (fun x H'=>T=x.1++x.2∧H' b=some (.cells (yV (x0::(x.1.map (fun s=>s.drop n)++x.2))++tl))) (fun x=>x.2.length) ([],T) (by simp(disch:=first|omega|assumption) only[Al3,go_sem]) ⟨rfl,by simpa using hb⟩ ?_
  rintro⟨dn,rest⟩ H3 J3 ⟨hT,hb3⟩ hJ3
  simp only at hT hb3
  have hll:(zv raw).length=dn.length+rest.length+1:=by rw[hL,hT];simp
  cases rest with
  | nil =>
   have hlt:¬ ((dn.length:Int)+1<((zv raw).length:Int)):=by simp at hll;omega
   obtain⟨D,hDd⟩:∃ D,D=x0::T.map fun s=>s.drop n:=⟨_,rfl⟩
   have hDM:zbe (zv raw)=D:=by
    conv=>lhs;rw[hL]
    simp only[zbe]
    rw[← hL,hne,hDd];rfl
   have hDl:D.length=(zv raw).length:=by rw[hDd,hL];simp
   have hbX:H3 b=some (.cells (yV D++tl)):=by
    rw[hb3,hDd,hT];simp
   obtain⟨cells,hcells⟩:∃ cells,cells=yV D++tl:=⟨_,rfl⟩
   rw[← hcells] at hbX
   have hwD:wL D≤1099511627777:=by
    have:=zfx n T
    rw[hDd,Zo];rw[Zo] at hw0;omega
   have hcap:D.length+tl.length=cap:=by rw[hDl];exact hcap
   clear hJ3 hb3
   simp(disch:=first|omega|assumption) only[hlt,go_sem]
   refine goL_st (fun x:Nat×Nat×List (List UInt8)=>[(3,.ms b x.1 x.2.2.length x.2.1)]) (fun x H'=>H'=H3∧AtR cells x.1 x.2.2∧x.2.2.length≤x.2.1∧x.2.2.dropWhile zU=D.dropWhile zU∧wL x.2.2≤wL D) (fun x=>x.2.2.length) (0,cap,D) (by simp(disch:=first|omega|assumption) only[hDl,go_sem]) ⟨rfl,⟨[],tl,by rw[hcells,Zh],rfl⟩,by simp only;omega,rfl,Al4 _⟩ ?_
   rintro⟨off,cp,cur⟩ H5 J5 ⟨rfl,ha,hcp,hdw,hw⟩ hJ5
   simp only at ha hcp hdw hw
   have stage2:∀ K:Unit,cur=D.dropWhile zU→True:=fun _ _=>trivial
   by_cases hcur:cur=[]
   case pos =>
    subst hcur
    have hD:D.dropWhile zU=[]:=by rw[← hdw];rfl
    simp(disch:=first|omega|assumption) only[Al3,go_sem]
    refine goL_st (fun x:Unit=>[]) (fun x H'=>H'=H5) (fun x=>0) () (by simp(disch:=first|omega|assumption) only[Al3,go_sem]) rfl ?_
    rintro⟨⟩ H4 J4 rfl hJ4
    simp(disch:=first|omega|assumption) only[Al3,go_sem]
    refine goZ_ms hbX (by decide) (by have:=ha.le;simpa using this) ?_
    have hr:=ha.rows
    simp only[Al3] at hr
    simp(disch:=first|omega|assumption) only[hr,go_sem]
    refine goK_pure (Yf [] [10] (by simp[Lib.join]) (by simp)) ?_
    have e:yv raw=Lib.join [] [10]:=by
     unfold yv;rw[hDM,hD];rfl
    simp(disch:=first|omega|assumption) only[go_sem]
    exact hQ _ _ _ _ nofun rfl (by simp[tupOf,envOf,AV.strip,AV.strip1,e])
   obtain⟨x,r,hxr⟩:∃ x r,cur=x::r:=by cases cur with|nil=>exact absurd rfl hcur|cons x r=>exact⟨x,r,rfl⟩
   have hxl:x.length≤Lim:=by have:=zcf (l:=cur) (x:=x) (by rw[hxr];simp);simp only[Lim];omega
   obtain⟨hg,hle⟩:=ha.get (a:=[]) (x:=x) (r:=r) hxr
   simp only[Al3,Nat.zero_mul,Nat.add_zero] at hg hle
   have hcl:cur.length=r.length+1:=by rw[hxr];rfl
   have hpos:((0:Int)<(cur.length:Int))=True:=eq_true (by omega)
   have h1l:((1:Int)≤(cur.length:Int))=True:=eq_true (by omega)
   cases hbr:zU x with
   | true =>
    obtain⟨off2,hcut,hat⟩:=AtR.front (b:=b) (cap:=cp) (by rw[← hxr];exact ha) (by omega)
    rw[← hcl] at hcut
    simp(disch:=first|omega|assumption) only[hpos,hbX,hg,hle,Nat.zero_mul,Nat.add_zero,go_sem]
    refine goK_pure (zaw x hxl) ?_
    simp(disch:=first|omega|assumption) only[hbr,hpos,h1l,hcut,go_sem]
    refine goJ (hJ5 (off2,cp-1,r) H5 (by simp only;omega) ⟨rfl,hat,by simp only;omega,by rw[← hdw,hxr];simp[hbr],by rw[hxr,Zo] at hw;simp only;omega⟩) (by simp(disch:=first|omega|assumption) only[go_sem])
   | false =>
    have hDc:D.dropWhile zU=cur:=by rw[← hdw,hxr];simp[hbr]
    simp(disch:=first|omega|assumption) only[hpos,hbX,hg,hle,Nat.zero_mul,Nat.add_zero,go_sem]
    refine goK_pure (zaw x hxl) ?_
    simp(disch:=first|omega|assumption) only[hbr,go_sem]
    refine goL_st (fun x:List (List UInt8)=>[(3,.ms b off x.length cp)]) (fun x H'=>H'=H5∧AtR cells off x∧zbD x=zbD cur∧wL x≤wL D∧x.length≤cp) (fun x=>x.length) cur (by simp(disch:=first|omega|assumption) only[go_sem]) ⟨rfl,ha,rfl,hw,hcp⟩ ?_
    rintro u H4 J4 ⟨rfl,ha4,ht4,hw4,hc4⟩ hJ4
    by_cases hu:u=[]
    ·subst hu
     simp(disch:=first|omega|assumption) only[Al3,go_sem]
     refine goZ_ms hbX (by decide) (by have:=ha4.le;simpa using this) ?_
     have hr:=ha4.rows
     simp only[Al3] at hr
     simp(disch:=first|omega|assumption) only[hr,go_sem]
     refine goK_pure (Yf [] [10] (by simp[Lib.join]) (by simp)) ?_
     have e:yv raw=Lib.join [] [10]:=by
      unfold yv;rw[hDM,hDc,← ht4];rfl
     simp(disch:=first|omega|assumption) only[go_sem]
     exact hQ _ _ _ _ nofun rfl (by simp[tupOf,envOf,AV.strip,AV.strip1,e])
    obtain⟨q,y,hqy⟩:=zhP hu
    have hyl:y.length≤Lim:=by have:=zcf (l:=u) (x:=y) (by rw[hqy];simp);simp only[Lim];omega
    obtain⟨hg4,hle4⟩:=ha4.get (a:=q) (x:=y) (r:=[]) hqy
    have hul:u.length=q.length+1:=by rw[hqy];simp
    have hpos4:((0:Int)<(u.length:Int))=True:=eq_true (by omega)
    have wq:IntKind.wrap .i64 ((u.length:Int)-1)=(q.length:Int):=by rw[wrap64 (by omega) (by have:=zce u;omega)];omega
    have h1q:((q.length:Int)<(u.length:Int))=True:=eq_true (by omega)
    have h2q:((q.length:Int)≤(u.length:Int))=True:=eq_true (by omega)
    cases hby:zU y with
    | true =>
     simp(disch:=first|omega|assumption) only[hpos4,wq,h1q,hbX,hg4,hle4,go_sem]
     refine goK_pure (zaw y hyl) ?_
     have hcut:=zdi (b:=b) (off:=off) (cap:=cp) (show q.length≤u.length by omega)
     simp(disch:=first|omega|assumption) only[hby,wq,h1q,h2q,hcut,go_sem]
     refine goJ (hJ4 q H4 (by omega) ⟨rfl,AtR.back (x:=y) (by rw[← hqy];exact ha4),by rw[← ht4,hqy,zai,hby];rfl,by rw[hqy,zha] at hw4;omega,by omega⟩) (by simp(disch:=first|omega|assumption) only[go_sem])
    | false =>
     have hlen:=zce u
     simp(disch:=first|omega|assumption) only[hpos4,wq,h1q,hbX,hg4,hle4,go_sem]
     refine goK_pure (zaw y hyl) ?_
     simp(disch:=first|omega|assumption) only[hby,go_sem]
     refine goZ_ms hbX (by decide) (by have:=ha4.le;omega) ?_
     have hr:=ha4.rows
     have hj:=zcN u
     simp(disch:=first|omega|assumption) only[hr,go_sem]
     refine goK_pure (Yf u [10] (by omega) (by omega)) ?_
     have e:yv raw=Lib.join u [10]:=by
      unfold yv;rw[hDM,hDc,← ht4,hqy,zai,hby];rfl
     simp(disch:=first|omega|assumption) only[go_sem]
     exact hQ _ _ _ _ nofun rfl (by simp[tupOf,envOf,AV.strip,AV.strip1,e])
  | cons y r =>
   have hlt:((dn.length:Int)+1<((zv raw).length:Int))=True:=eq_true (by simp at hll;omega)
   have hcur:x0::(dn.map (fun s=>s.drop n)++y::r)=(x0::dn.map (fun s=>s.drop n))++y::r:=rfl
   have hg:=zgA hcur tl
   have hle:=zhv hcur tl
   have hal:(x0::dn.map (fun s=>s.drop n)).length=dn.length+1:=by simp
   have hst:∀ z,splice (yV (x0::(dn.map (fun s=>s.drop n)++y::r))++tl) (0+(dn.length+1)*1) [.str z]=yV (x0::(dn.map (fun s=>s.drop n)++z::r))++tl:=fun z=>by
    have:=zjr (x0::dn.map (fun s=>s.drop n)) y z r tl
    rw[hal] at this
    exact this
   rw[hal] at hg hle
   have h1:((dn.length:Int)+1).toNat=dn.length+1:=by omega
   have hy0:((0:Int)≤(y.length:Int))=True:=eq_true (by omega)
   have hln:dn.length≤1099511627777:=by omega
   by_cases hmin:(y.length:Int)<(n:Int)
   ·have hdr:y.drop y.length=y.drop n:=by rw[List.drop_length,List.drop_eq_nil_of_le (by omega)]
    simp(disch:=first|omega|assumption) only[hlt,h1,hb3,hg,hle,hst,hmin,hy0,List.drop_length,go_sem]
    refine goJ (hJ3 (dn++[y],r) _ (by simp) ⟨by rw[hT];simp,?_⟩) (by simp(disch:=first|omega|assumption) only[wrap64,Al5,Al2,Al3,Int.natCast_add,go_sem])
    rw[upd_same]
    simp[List.drop_eq_nil_of_le (show y.length≤n by omega)]
   ·have hny:((n:Int)≤(y.length:Int))=True:=eq_true (by omega)
    have hn0:((0:Int)≤(n:Int))=True:=eq_true (by omega)
    simp(disch:=first|omega|assumption) only[hlt,h1,hb3,hg,hle,hst,hmin,hny,hn0,go_sem]
    refine goJ (hJ3 (dn++[y],r) _ (by simp) ⟨by rw[hT];simp,?_⟩) (by simp(disch:=first|omega|assumption) only[wrap64,Al5,Al2,Al3,Int.natCast_add,go_sem])
    rw[upd_same]
    simp
end Go.Proofs.YtaielcdfcgpbiaaGreatDoor
set_option maxRecDepth 1000000
namespace Go.Proofs.YtaielcdfcgpbiaaGreatDoor
open Go.Shelf Go.RowKit Go.Lib
section
variable {P:Program} {ρ:Ren}
def eol:ByteArray:=⟨#[13,10]⟩
theorem zfG (w:World) (k:Nat) (s:ByteArray) (pos:Nat) (ty:TypeId) (hk:w.heap[k]?=some (.stringIter s pos)) (h:pos<s.size) :
  (Instr.next (.pointer (some ⟨k,0,none⟩)) true ty).run P w =
   .ok (.tuple #[.bool true,.int .i64 pos,.int .i32 (Utf8.decode s pos).1]) { w with heap:=w.heap.setIfInBounds k (.stringIter s (pos+(Utf8.decode s pos).2)) }:=by
 simp only[Instr.next,getObj,setObj,Sem.run_bind,Sem.run,hk,Result.andThen,h,if_true]
 simp[goInt]
theorem zdX (w:World) (k:Nat) (s:ByteArray) (pos:Nat) (ty:TypeId) (hk:w.heap[k]?=some (.stringIter s pos)) (h:¬ pos<s.size) :
  (Instr.next (.pointer (some ⟨k,0,none⟩)) true ty).run P w=.ok (.tuple #[.bool false]) w:=by
 simp[Instr.next,getObj,Sem.run,hk,h]
set_option maxHeartbeats 4000000 in
theorem ze6 (L:Lays.n152 P ρ) (w:World) :
  Calls P (ρ.f 152) #[.string eol,.int .i32 65533] w fun e w'=>e=.returned (.int .i64 (-1))∧Below w.heap.size w w':=by
 have t3:=L.t3;have a3:=L.a3;have z3:=L.z3;have v3:=L.v3
 have t4:=L.t4;have a4:=L.a4;have z4:=L.z4;have v4:=L.v4
 have t5:=L.t5;have a5:=L.a5;have z5:=L.z5;have v5:=L.v5
 have t9:=L.t9;have a9:=L.a9;have z9:=L.z9;have v9:=L.v9
 have t21:=L.t21;have a21:=L.a21;have z21:=L.z21;have v21:=L.v21
 have hsz:eol.size=2:=rfl
 go_enter L.f152,Body.n152_ntmps ρ
 go_wp2
 go_loopg [5,6] 2 (fun g _ _ wx=>∃ i:Nat,i+g=2∧wx=w.iter eol i)
 case atStart=>exact⟨0,by omega,rfl⟩
 case round =>
  obtain⟨i,hig,rfl⟩:=hrel
  cases gk with
  | zero =>
   obtain rfl:i=2:=by omega
   have hnx:=fun ty=>run_next_end (P:=P) w eol 2 ty (by decide)
   go_wp2
   go_ret
   exact⟨rfl,(Below.refl _ _).alloc (Al4 _) _⟩
  | succ g =>
   obtain⟨x,hx⟩:∃ x:UInt8,eol[i]'(by rw[hsz];omega)=x:=⟨_,rfl⟩
   have hxl:x.toNat=13∨x.toNat=10:=by
    rcases(by omega:i=0∨i=1) with rfl|rfl
    ·left;rw[← hx];rfl
    ·right;rw[← hx];rfl
   have hnx:=fun ty=>run_next_ascii (P:=P) w eol i ty (by rw[hsz];omega) (by rw[hx];omega)
   rw[hx] at hnx
   have hne:¬ ((x.toNat:Int)=65533):=by omega
   clear hx hxl
   go_wp2
   go_roundg g
   case measure=>omega
   case rel=>exact⟨i+1,by omega,rfl⟩
set_option maxHeartbeats 8000000 in
theorem zdY (L:Lays.n152 P ρ) (r:Int) (h0:128≤r) (h1:r≠65533) (w:World) :
  Calls P (ρ.f 152) #[.string eol,.int .i32 r] w fun e w'=>e=.returned (.int .i64 (-1))∧Below w.heap.size w w':=by
 have t3:=L.t3;have a3:=L.a3;have z3:=L.z3;have v3:=L.v3
 have t4:=L.t4;have a4:=L.a4;have z4:=L.z4;have v4:=L.v4
 have t5:=L.t5;have a5:=L.a5;have z5:=L.z5;have v5:=L.v5
 have t9:=L.t9;have a9:=L.a9;have z9:=L.z9;have v9:=L.v9
 have t21:=L.t21;have a21:=L.a21;have z21:=L.z21;have v21:=L.v21
 have hsz:eol.size=2:=rfl
 have mixed:=L.mixed
 have u21:=run_underlying L.t21;have u9:=run_underlying L.t9
 have e137:∀ args w,(callFunc (ρ.f 137) args).run P w=.ok (.enter (ρ.f 137) args) w:=enters_of L.f137 (by kernel_rfl) rfl
 have e119:∀ args w,(callFunc (ρ.f 119) args).run P w=.ok (.enter (ρ.f 119) args) w:=enters_of L.f119 (by kernel_rfl) rfl
 have hr1:¬ (r<128):=by omega
 cases hv:Lib.validRune r with
 | false =>
  go_enter L.f152,Body.n152_ntmps ρ
  go_wp2_with (go_at_fn (ρ.f 119);refine(Any.utf8_ValidRune { L with } _ _).mono ?_;rintro e w' ⟨rfl,hw⟩;rw[hw,hv])
  go_ret
  exact⟨rfl,Below.refl _ _⟩
 | true =>
  have hv':Utf8.valid r=true:=by
   unfold Lib.validRune at hv
   unfold Utf8.valid
   simp only[YU,Al0,zn] at hv ⊢
   omega
  obtain⟨f1,f2,f3⟩:=encode_facts r hv' h0
  clear hv'
  obtain⟨rs,hrs⟩:∃ rs,Utf8.encode r=rs:=⟨_,rfl⟩
  rw[hrs] at f1 f2 f3
  have hconv:∀ w,(convert (ρ.t 21) (ρ.t 9) (.int .i32 r)).run P w=.ok (.string rs) w:=fun w=>by
   rw[run_convert_int_string w _ _ _ _ (by rw[t21];rfl) t9,hrs]
  have hlast:IntKind.i64.wrap ((rs.size:Int)-1)=(rs.size:Int)-1:=wrap_small _ (by omega) (by omega)
  clear hrs
  by_cases h2:rs.size=2
  ·obtain⟨b0,b1,rfl⟩:∃ b0 b1,rs=⟨#[b0,b1]⟩:=by
    obtain⟨⟨l⟩⟩:=rs
    match l,h2 with
    | [x,y],_=>exact⟨x,y,rfl⟩
   have hb:128≤b1.toNat:=f3 (by show 1<2;decide)
   have hz:(⟨#[b0,b1]⟩:ByteArray).size=2:=rfl
   have hne:¬ ((10:Int)=(b1.toNat:Int)):=by omega
   clear f1 f2 f3 h2
   rw[hz] at hlast
   go_enter L.f152,Body.n152_ntmps ρ
   go_wp2_with (go_at_fn (ρ.f 119);refine(Any.utf8_ValidRune { L with } _ _).mono ?_;rintro e w' ⟨rfl,hw⟩;rw[hw,hv])
   go_step3
   go_wp2
   go_loopg [9,10] 0 (fun g s9 s10 wx=>s9=.int .i64 1∧s10=.int .i64 0∧wx=w)
   case atStart=>exact⟨rfl,rfl,rfl⟩
   case round =>
    obtain⟨rfl,rfl,rfl⟩:=hrel
    go_wp2
    go_step3
    have hx:eol[1]'(by decide)=10:=rfl
    have hy:(⟨#[b0,b1]⟩:ByteArray)[1]'(by show 1<2;decide)=b1:=rfl
    go_wp2
    go_quiet_o (fail)
    go_wp2
    have hsl:∀ w,(Instr.slice (ρ.t 9) (.string eol) (some (.int .i64 2)) none none).run P w=.ok (.string ⟨#[]⟩) w:=fun w=>by
     rw[run_slice_string_from_if w _ eol .i64 2 t9]
     rfl
    generalize hW:World.drewN _ _=W
    have HW:Aside (∃ n,W=wr.drewN n):=⟨_,hW.symm⟩
    clear hW
    have hw2:IntKind.i64.wrap 2=2:=by decide
    go_quiet_o (first|(go_at_fn (ρ.f 137);refine Calls.quiet_of_same (Any.strings_IndexByte { L with } _ _ _)))
    go_wp2
    rw[Exit.noGoto_ret]
    go_wp2
    (try rw[Exit.noGoto_ret])
    (try go_wp2)
    go_ret
    obtain⟨n,rfl⟩:=HW.out
    exact⟨rfl,⟨rfl,rfl,rfl,Al4 _,fun _ _=>rfl⟩⟩
  ·have hlt:¬ ((rs.size:Int)-1<2):=by omega
   go_enter L.f152,Body.n152_ntmps ρ
   go_wp2_with (go_at_fn (ρ.f 119);refine(Any.utf8_ValidRune { L with } _ _).mono ?_;rintro e w' ⟨rfl,hw⟩;rw[hw,hv])
   go_step3
   go_wp2
   go_loopg [9,10] 0 (fun g s9 s10 wx=>s9=.int .i64 ((rs.size:Int)-1)∧s10=.int .i64 0∧wx=w)
   case atStart=>exact⟨rfl,rfl,rfl⟩
   case round =>
    obtain⟨rfl,rfl,rfl⟩:=hrel
    go_wp2
    rw[Exit.noGoto_ret];go_wp2
    go_ret
    exact⟨rfl,Below.refl _ _⟩
theorem zfE (s:ByteArray) (i:Nat) (h:i<s.size):s.data.toList[i]?=some (s.get! i):=by
 rw[Lib.data_getElem? s i h]
 simp[ByteArray.get!,getElem!_pos,h]
 rfl
theorem zb1 (s:ByteArray) (pos:Nat) (h:pos<s.size) (ha:128≤(s.get! pos).toNat) :
  128≤(Utf8.decode s pos).1∧1≤(Utf8.decode s pos).2∧pos+(Utf8.decode s pos).2≤s.size∧∀ j,j<(Utf8.decode s pos).2→128≤(s.get! (pos+j)).toNat:=by
 have hn:¬ (s.get! (pos+0)).toNat<128:=by simpa using ha
 have h1:∀(c:Nat),128≤c→128≤(c,1).1∧1≤(c,1).2∧pos+(c,1).2≤s.size∧∀ j,j<(c,1).2→128≤(s.get! (pos+j)).toNat:=fun c hc =>
  ⟨hc,Al4 _,by show pos+1≤s.size;omega,fun j hj=>by
   have hj:j<1:=hj
   obtain rfl:j=0:=by omega
   simpa using ha⟩
 have hb:∀ k,(s.get! (pos+k)).toNat / 64=2→128≤(s.get! (pos+k)).toNat:=fun k hk=>by omega
 simp only[Utf8.decode,hn,if_false,Utf8.runeError]
 split
 ·rename_i hc
  simp only[Al0,beq_iff_eq,zn] at hc
  split
  ·rename_i h2
   refine⟨h2,by show 1≤2;omega,by show pos+2≤s.size;omega,fun j hj=>?_⟩
   have hj:j<2:=hj
   rcases(by omega:j=0∨j=1) with rfl|rfl
   ·simpa using ha
   ·exact hb 1 hc.2.2
  ·exact h1 _ (by decide)
 split
 ·rename_i hc
  simp only[Al0,beq_iff_eq,zn] at hc
  split
  ·rename_i h2
   simp only[Al0,zn] at h2
   refine⟨by have:=h2.1;show 128≤_;simp only;omega,by show 1≤3;omega,by show pos+3≤s.size;omega,fun j hj=>?_⟩
   have hj:j<3:=hj
   rcases(by omega:j=0∨j=1∨j=2) with rfl|rfl|rfl
   ·simpa using ha
   ·exact hb 1 hc.1.2.2
   ·exact hb 2 hc.2.2
  ·exact h1 _ (by decide)
 split
 ·rename_i hc
  simp only[Al0,beq_iff_eq,zn] at hc
  split
  ·rename_i h2
   simp only[Al0,zn] at h2
   refine⟨by have:=h2.1;show 128≤_;simp only;omega,by show 1≤4;omega,by show pos+4≤s.size;omega,fun j hj=>?_⟩
   have hj:j<4:=hj
   rcases(by omega:j=0∨j=1∨j=2∨j=3) with rfl|rfl|rfl|rfl
   ·simpa using ha
   ·exact hb 1 hc.1.1.2.2
   ·exact hb 2 hc.1.2.2
   ·exact hb 3 hc.2.2
  ·exact h1 _ (by decide)
 ·exact h1 _ (by decide)
theorem zkX {s:ByteArray} {i k:Nat} (h:NoAny s.data.toList eol.data.toList i) (hk:i+k≤s.size) (hb:∀ j,j<k→128≤(s.get! (i+j)).toNat):NoAny s.data.toList eol.data.toList (i+k):=fun j b hj hjb=>by
 by_cases hlt:j<i
 ·exact h j b hlt hjb
 ·have h1:=hb (j-i) (by omega)
  rw[show i+(j-i)=j by omega] at h1
  rw[zfE s j (by omega)] at hjb
  cases hjb
  show ([13,10]:List UInt8).contains _=false
  simp only[List.contains_cons,List.contains_nil,Bool.or_false,Bool.or_eq_false_iff,beq_eq_false_iff_ne]
  refine⟨fun e=>?_,fun e=>?_⟩<;>(rw[e] at h1;simp at h1)
set_option maxHeartbeats 8000000 in
theorem zbq (L:Lays.n153 P ρ) (s:ByteArray) (w:World) (h8:s.size≤8) :
  Calls P (ρ.f 153) #[.string s,.string eol] w fun e w'=>e=.returned (.int .i64 (Lib.indexAny s.data.toList eol.data.toList))∧Below w.heap.size w w':=by
 have hemp:eol.toList.isEmpty=false:=by rw[Lib.toList_data];rfl
 have hn0:(eol.size:Int)=2:=rfl
 have hn1:((eol.size:Int)==1)=false:=rfl
 have h8z:decide ((8:Int)<(s.size:Int))=false:=decide_eq_false (by omega)
 have t3:=L.t3;have a3:=L.a3;have z3:=L.z3;have v3:=L.v3
 have t4:=L.t4;have a4:=L.a4;have z4:=L.z4;have v4:=L.v4
 have t5:=L.t5;have a5:=L.a5;have z5:=L.z5;have v5:=L.v5
 have t9:=L.t9;have a9:=L.a9;have z9:=L.z9;have v9:=L.v9
 have t21:=L.t21;have a21:=L.a21;have z21:=L.z21;have v21:=L.v21
 have e152:∀ args w,(callFunc (ρ.f 152) args).run P w=.ok (.enter (ρ.f 152) args) w:=enters_of L.f152 (by kernel_rfl) rfl
 have e226:∀ args w,(callFunc (ρ.f 226) args).run P w=.ok (.enter (ρ.f 226) args) w:=enters_of L.f226 (by kernel_rfl) rfl
 go_enter L.f153,Body.n153_ntmps ρ
 go_wp2_with (go_at_fn (ρ.f 226);refine(Any.strings_shouldUseASCIISet { L with } _ _).mono ?_;rintro e w' ⟨rfl,hw⟩;rw[hw,h8z])
 go_loopg [9,10] s.size (fun g _ _ wx=>∃ i:Nat,i+g=s.size∧(wx.heap[w.heap.size]?=some (.stringIter s i)∧Below w.heap.size w wx)∧Lib.NoAny s.data.toList eol.data.toList i)
 case atStart=>exact⟨0,by omega,⟨World.iter_heap w s 0,(Below.refl _ _).alloc (Al4 _) _⟩,Lib.NoAny.zero _ _⟩
 case round =>
  obtain⟨i,hig,hst,hno⟩:=hrel
  obtain⟨hit,hbe⟩:=hst
  have HN:Aside (Lib.NoAny s.data.toList eol.data.toList i∧Below w.heap.size w wr):=⟨hno,hbe⟩
  clear hno hbe
  cases gk with
  | zero =>
   obtain rfl:i=s.size:=by omega
   have hnx:=fun ty=>zdX (P:=P) wr w.heap.size s s.size ty hit (by omega)
   go_wp2
   go_ret
   exact⟨by rw[Lib.indexAny_none (by rw[← Lib.size_eq];exact HN.out.1)];rfl,HN.out.2⟩
  | succ g =>
   have hi:i<s.size:=by omega
   have hnx:=fun ty=>zfG (P:=P) wr w.heap.size s i ty hit hi
   have hwlt:w.heap.size<wr.heap.size:=(ZZ.1 hit).1
   have hst2:∀ k,({ wr with heap:=wr.heap.setIfInBounds w.heap.size (.stringIter s k) }:World).heap[w.heap.size]?=some (.stringIter s k):=fun k=>by
    show (wr.heap.setIfInBounds w.heap.size (.stringIter s k))[w.heap.size]?=_
    simp[hwlt]
   have hbl2:∀ k,Below w.heap.size w ({ wr with heap:=wr.heap.setIfInBounds w.heap.size (.stringIter s k) }:World):=fun k=>by
    have hb:=HN.out.2
    refine⟨hb.os,hb.tape,hb.output,by simpa using hb.size,fun n hn=>?_⟩
    show (wr.heap.setIfInBounds w.heap.size (.stringIter s k))[n]?=_
    rw[Array.getElem?_setIfInBounds_ne (by omega)]
    exact hb.block n hn
   have HB:Aside ((∀ k,({ wr with heap:=wr.heap.setIfInBounds w.heap.size (.stringIter s k) }:World).heap[w.heap.size]?=some (.stringIter s k))∧(∀ k,Below w.heap.size w ({ wr with heap:=wr.heap.setIfInBounds w.heap.size (.stringIter s k) }:World))∧w.heap.size<wr.heap.size):=⟨hst2,hbl2,hwlt⟩
   clear hst2 hbl2 hwlt hit
   by_cases ha:128≤(s.get! i).toNat
   ·obtain⟨d1,d2,d3,d4⟩:=zb1 s i hi ha
    have HD:Aside (1≤(Utf8.decode s i).2∧i+(Utf8.decode s i).2≤s.size∧∀ j,j<(Utf8.decode s i).2→128≤(s.get! (i+j)).toNat):=⟨d2,d3,d4⟩
    clear d2 d3 d4 ha
    generalize hr:(Utf8.decode s i).1=r at hnx d1
    generalize hk:(Utf8.decode s i).2=k at hnx HD
    clear hr hk
    generalize hW:({ wr with heap:=wr.heap.setIfInBounds w.heap.size (.stringIter s (i+k)) }:World)=W at hnx
    have HW:Aside (W.heap[w.heap.size]?=some (.stringIter s (i+k))∧Below w.heap.size w W):=⟨by rw[← hW];exact HB.out.1 _,by rw[← hW];exact HB.out.2.1 _⟩
    clear hW
    have hru:Calls P (ρ.f 152) #[.string eol,.int .i32 (r:Int)] W fun e w'=>e=.returned (.int .i64 (-1))∧Below W.heap.size W w':=by
     by_cases he:(r:Int)=65533
     ·rw[he];exact ze6 { L with } W
     ·exact zdY { L with } _ (by omega) he W
    go_wp2_with (go_at_fn (ρ.f 152);refine hru.mono ?_;rintro e w' ⟨rfl,hw⟩)
    go_roundg (s.size-(i+k))
    case measure=>have:=HD.out.1;omega
    case rel =>
     obtain⟨g1,g2⟩:=HW.out
     obtain⟨f1,f2,f3⟩:=HD.out
     have hlt:w.heap.size<W.heap.size:=(ZZ.1 g1).1
     exact⟨i+k,by omega,⟨by rw[hw.block _ hlt];exact g1,g2.trans (hw.mono (by omega))⟩,zkX HN.out.1 f2 f3⟩
   ·have hx128:(s[i]'hi).toNat<128:=by
     have e:s.get! i=s[i]'hi:=get_at s i hi
     rw[← e];omega
    have hde:Utf8.decode s i=((s[i]'hi).toNat,1):=decode_ascii s i hi hx128
    obtain⟨x,hx⟩:∃ x:UInt8,s[i]'hi=x:=⟨_,rfl⟩
    have hxl:s.data.toList[i]?=some x:=by rw[← hx];exact Lib.data_getElem? s i hi
    have Hx:Aside (s.data.toList[i]?=some x):=hxl
    rw[hde,hx] at hnx
    rw[hx] at hx128
    clear hxl hx ha hde
    have hcon:=Lib.contains_iff_indexByte eol.data.toList x
    have hback:((x.toNat:Int)).toNat.toUInt8=x:=by simp
    generalize hW:({ wr with heap:=wr.heap.setIfInBounds w.heap.size (.stringIter s (i+1)) }:World)=W at hnx
    have HW:Aside (W.heap[w.heap.size]?=some (.stringIter s (i+1))∧Below w.heap.size w W):=⟨by rw[← hW];exact HB.out.1 _,by rw[← hW];exact HB.out.2.1 _⟩
    clear hW
    cases hin:eol.data.toList.contains x
    ·rw[hin] at hcon
     have hlt:¬ ((0:Int)≤Lib.indexByte eol.data.toList x):=of_decide_eq_false hcon.symm
     clear hcon
     go_wp2_with (go_at_fn (ρ.f 152);refine(Any.strings_IndexRune_ascii { L with } _ _ _ (by omega) (by omega)).mono ?_;rintro e w' ⟨rfl,hw⟩;rw[hw,hback])
     go_roundg g
     case measure=>omega
     case rel=>exact⟨i+1,by omega,HW.out,HN.out.1.succ Hx.out hin⟩
    ·rw[hin] at hcon
     have hge:(0:Int)≤Lib.indexByte eol.data.toList x:=of_decide_eq_true hcon.symm
     clear hcon
     go_wp2_with (go_at_fn (ρ.f 152);refine(Any.strings_IndexRune_ascii { L with } _ _ _ (by omega) (by omega)).mono ?_;rintro e w' ⟨rfl,hw⟩;rw[hw,hback])
     go_ret
     exact⟨by rw[Lib.indexAny_hit HN.out.1 Hx.out hin];rfl,HW.out.2⟩
end
end Go.Proofs.YtaielcdfcgpbiaaGreatDoor
namespace Go.Proofs.YtaielcdfcgpbiaaGreatDoor
open Go.Ab Go.Lib
theorem zkL (s:List UInt8) (hs:s.length≤4294967000):Pure Tryz.prog 118 [.str s,.str [13,10]] (.int .i64 (Lib.indexAny s [13,10])):=by
 refine Pure.of_below fun γ w vs ht hv=>?_
 obtain⟨hlv,hr⟩:=hv
 match vs,hlv with
 | [v,u],_ =>
  cases hr 0 _ _ rfl rfl
  cases hr 1 _ _ rfl rfl
  by_cases h8:s.length≤8
  ·exact(zbq (P:=Tryz.prog) Tryz.lays153 ⟨s.toArray⟩ w (by simpa[ByteArray.size] using h8)).mono fun e w' ⟨he,hw⟩=>⟨hw,_,he,.int _ _⟩
  ·refine(Tryz.strings_IndexAny_long (zero_of_info (n:=256) (by kernel_rfl)).1 ⟨s.toArray⟩ ⟨#[13,10]⟩ w (by decide) (by simp only[ByteArray.size,List.size_toArray];omega) (by simp only[ByteArray.size,List.size_toArray];omega) (by decide) (fun j b hj=>?_)).mono fun e w' ⟨he,hw⟩=>⟨?_,_,he,.int _ _⟩
   ·have hj:([13,10]:List UInt8)[j]?=some b:=hj
    match j,hj with
    | 0,hj=>cases hj;decide
    | 1,hj=>cases hj;decide
    | j+2,hj=>simp at hj
   ·rw[hw]
    exact((Go.RowKit.Below.refl _ _).alloc (Al4 _) _).alloc (by simp) _
theorem zjQ (r:List UInt8):Lib.indexAny r [13,10]=if r.all yK then -1 else ((r.takeWhile yK).length:Int):=by
 induction r with
 | nil=>rfl
 | cons c r ih =>
  rw[Lib.indexAny,ih]
  by_cases hc:yK c=true
  ·have h1:([13,10]:List UInt8).contains c=false:=by
    unfold yK at hc
    simp at hc
    simp[hc.1,hc.2]
   rw[h1]
   by_cases ha:r.all yK=true
   ·simp[ha,hc]
   ·have h2:¬ (((r.takeWhile yK).length:Int)=-1):=by omega
    simp[ha,hc,h2]
  ·have h1:([13,10]:List UInt8).contains c=true:=by
    unfold yK at hc
    simp at hc
    simp
    rcases Classical.em (c=13) with h|h
    ·exact .inl h
    ·exact .inr (Classical.byContradiction fun h10=>h (hc h10))
   rw[h1]
   simp[hc]
theorem zf3 {p:UInt8→Bool}:∀ r:List UInt8,r.all p=true→r.takeWhile p=r
 | [],_=>rfl
 | c::r,h=>by
  simp only[List.all_cons,Al0] at h
  rw[List.takeWhile_cons,if_pos h.1,zf3 r h.2]
theorem za3 (c:UInt8) (r:List UInt8):Zi (c::r)=if c=9∨c=10∨c=13∨c=32∨c=44 then 1 else if zeV.isPrefixOf (c::r) then 3 else if c=35 then 1+(r.takeWhile yK).length else 0:=rfl
theorem zm3 (c:UInt8) (r:List UInt8) (hs:(c::r).length≤1000000):Pure Tryz.prog 59 [.str (c::r)] (.int .i64 (Zi (c::r))):=by
 refine Pure.go ir59 ck59 (Al4 _) fun KP Q hQ=>?_
 have hl:((0:Int)<((c::r).length:Int))=True:=eq_true (by simp only[Al2];omega)
 by_cases hw:c=9∨c=10∨c=13∨c=32∨c=44
 ·have e:Zi (c::r)=1:=by rw[za3,if_pos hw]
  rw[e] at hQ
  rcases hw with rfl|rfl|rfl|rfl|rfl
  ·have hc:((9:UInt8).toNat:Int)=9:=rfl
   simp(disch:=first|omega|assumption) only[ir59,hl,List.getD_cons_zero,hc,go_sem]
   exact hQ _ _ _ _ nofun rfl (by simp[tupOf,envOf,AV.strip,AV.strip1])
  ·have hc:((10:UInt8).toNat:Int)=10:=rfl
   simp(disch:=first|omega|assumption) only[ir59,hl,List.getD_cons_zero,hc,go_sem]
   exact hQ _ _ _ _ nofun rfl (by simp[tupOf,envOf,AV.strip,AV.strip1])
  ·have hc:((13:UInt8).toNat:Int)=13:=rfl
   simp(disch:=first|omega|assumption) only[ir59,hl,List.getD_cons_zero,hc,go_sem]
   exact hQ _ _ _ _ nofun rfl (by simp[tupOf,envOf,AV.strip,AV.strip1])
  ·have hc:((32:UInt8).toNat:Int)=32:=rfl
   simp(disch:=first|omega|assumption) only[ir59,hl,List.getD_cons_zero,hc,go_sem]
   exact hQ _ _ _ _ nofun rfl (by simp[tupOf,envOf,AV.strip,AV.strip1])
  ·have hc:((44:UInt8).toNat:Int)=44:=rfl
   simp(disch:=first|omega|assumption) only[ir59,hl,List.getD_cons_zero,hc,go_sem]
   exact hQ _ _ _ _ nofun rfl (by simp[tupOf,envOf,AV.strip,AV.strip1])
 have nat:∀ k:Nat,(c.toNat:Int)=k→k<256→c=UInt8.ofNat k:=fun k h hk=>UInt8.toNat_inj.1 (by rw[UInt8.toNat_ofNat'];omega)
 have g9:¬ ((c.toNat:Int)=9):=fun e=>hw (.inl (nat 9 e (by decide)))
 have g10:¬ ((c.toNat:Int)=10):=fun e=>hw (.inr (.inl (nat 10 e (by decide))))
 have g13:¬ ((c.toNat:Int)=13):=fun e=>hw (.inr (.inr (.inl (nat 13 e (by decide)))))
 have g32:¬ ((c.toNat:Int)=32):=fun e=>hw (.inr (.inr (.inr (.inl (nat 32 e (by decide))))))
 have g44:¬ ((c.toNat:Int)=44):=fun e=>hw (.inr (.inr (.inr (.inr (nat 44 e (by decide))))))
 simp(disch:=first|omega|assumption) only[ir59,hl,List.getD_cons_zero,g9,g10,g13,g32,g44,go_sem]
 refine goK_pure (Yt (c::r) [239,187,191]) ?_
 by_cases hb:([239,187,191]:List UInt8).isPrefixOf (c::r)=true
 ·have e:Zi (c::r)=3:=by rw[za3,if_neg hw];exact if_pos hb
  rw[e] at hQ
  simp(disch:=first|omega|assumption) only[hb,go_sem]
  exact hQ _ _ _ _ nofun rfl (by simp[tupOf,envOf,AV.strip,AV.strip1])
 have hb':([239,187,191]:List UInt8).isPrefixOf (c::r)=false:=Bool.eq_false_iff.2 hb
 by_cases h35:c=35
 ·subst h35
  have e:Zi (35::r)=1+(r.takeWhile yK).length:=by rw[za3,if_neg hw,if_neg (show ¬ (zeV.isPrefixOf _=true) from hb),if_pos rfl]
  rw[e] at hQ
  have hc:((35:UInt8).toNat:Int)=35:=rfl
  simp(disch:=first|omega|assumption) only[hb',hc,go_sem]
  have hp:=zkL (35::r) (by omega)
  rw[zjQ] at hp
  have n35:yK 35=true:=rfl
  by_cases ha:r.all yK=true
  ·have e2:=zf3 r ha
   have e3:(35::r).all yK=true:=by rw[List.all_cons,n35,ha];rfl
   rw[if_pos e3] at hp
   refine goK_pure hp ?_
   have h0:¬ ((0:Int)≤-1):=by decide
   simp(disch:=first|omega|assumption) only[h0,go_sem]
   exact hQ _ _ _ _ nofun rfl (by simp[tupOf,envOf,AV.strip,AV.strip1,e2,Int.add_comm])
  ·have e3:¬ ((35::r).all yK=true):=by rw[List.all_cons,n35,Bool.true_and];exact ha
   have e2:((35::r).takeWhile yK).length=1+(r.takeWhile yK).length:=by rw[List.takeWhile_cons,if_pos n35];simp;omega
   rw[if_neg e3,e2] at hp
   refine goK_pure hp ?_
   have h0:((0:Int)≤((1+(r.takeWhile yK).length:Nat):Int))=True:=eq_true (by omega)
   simp(disch:=first|omega|assumption) only[h0,go_sem]
   exact hQ _ _ _ _ nofun rfl (by simp[tupOf,envOf,AV.strip,AV.strip1])
 ·have e:Zi (c::r)=0:=by rw[za3,if_neg hw,if_neg (show ¬ (zeV.isPrefixOf _=true) from hb),if_neg h35]
  rw[e] at hQ
  have g35:¬ ((c.toNat:Int)=35):=fun e=>h35 (nat 35 e (by decide))
  simp(disch:=first|omega|assumption) only[hb',g35,go_sem]
  exact hQ _ _ _ _ nofun rfl (by simp[tupOf,envOf,AV.strip,AV.strip1])
theorem zgO (c:UInt8) (r:List UInt8):yk (c::r)=if (isL c||isD c)=true then 1+yk r else 0:=by
 unfold yk
 rw[List.takeWhile_cons]
 split
 ·simp;omega
 ·rfl
theorem zl5 (s:List UInt8) (hs:s.length≤Lim) (h0:isL (s.getD 0 0)=true):Pure Tryz.prog 124 [.str s] (.int .i64 (yk s)):=by
 refine Pure.go ir124 ck124 (Al4 _) fun KP Q hQ=>?_
 simp only[Lim] at hs
 have hr1:=zdm s
 simp(disch:=first|omega|assumption) only[ir124,go_sem]
 refine goL_st (fun n:Nat=>[(3,.int .i64 n)]) (fun n H=>yk s=n+yk (s.drop n)∧n≤s.length) (fun n=>s.length-n) 0 (by simp(disch:=first|omega|assumption) only[go_sem]) ⟨by simp,by omega⟩ ?_
 rintro n H J ⟨hn,hle⟩ hJ
 rcases zbw s n with ⟨h1,h2⟩|⟨h1,h2⟩
 ·have hlt:¬ ((n:Int)<s.length):=by omega
  rw[h1] at hn
  simp only[yk,List.takeWhile_nil,Al3,Nat.add_zero] at hn
  simp(disch:=first|omega|assumption) only[hlt,go_sem]
  exact hQ _ _ _ _ nofun rfl (by simp[tupOf,envOf,AV.strip,AV.strip1,yk,hn])
 ·have hlt:((n:Int)<s.length):=by omega
  rw[h2,zgO] at hn
  simp(disch:=first|omega|assumption) only[hlt,go_sem]
  refine goK_pure (zcJ (s.getD n 0)) ?_
  cases hl:isL (s.getD n 0) with
  | true =>
   simp only[hl,Bool.true_or,if_true] at hn
   simp(disch:=first|omega|assumption) only[hl,go_sem]
   exact goJ (hJ (n+1) _ (by omega) ⟨by omega,by omega⟩) (by simp(disch:=first|omega|assumption) only[wrap64,Int.natCast_add,Int.natCast_one,go_sem])
  | false =>
   have hn0:((0:Int)<(n:Int))=True:=eq_true (by
    rcases Nat.eq_zero_or_pos n with e|e
    ·subst e;rw[h0] at hl;cases hl
    ·omega)
   simp(disch:=first|omega|assumption) only[hl,hn0,hlt,go_sem]
   refine goK_pure (zfp (s.getD n 0)) ?_
   cases hd:isD (s.getD n 0) with
   | true =>
    simp only[hl,hd,Bool.or_true,if_true] at hn
    simp(disch:=first|omega|assumption) only[hd,go_sem]
    exact goJ (hJ (n+1) _ (by omega) ⟨by omega,by omega⟩) (by simp(disch:=first|omega|assumption) only[wrap64,Int.natCast_add,Int.natCast_one,go_sem])
   | false =>
    simp only[hl,hd,Bool.or_false,Al7,if_false,Nat.add_zero] at hn
    simp(disch:=first|omega|assumption) only[hd,go_sem]
    exact hQ _ _ _ _ nofun rfl (by simp[tupOf,envOf,AV.strip,AV.strip1,hn])
def zjg (n:Nat) (x:Option (List UInt8×List UInt8)):AV:=match x with
 | some (raw,t)=>.tup [.str (yv raw),.int .i64 ((n-t.length:Nat):Int)]
 | none=>.tup [.str [],.int .i64 0]
theorem za6:∀(n m:Nat) (raw t:List UInt8),t.length<n→t.length<m→Zf n raw t=Zf m raw t
 | 0,_,_,_,h,_=>absurd h (Nat.not_lt_zero _)
 | _,0,_,_,_,h=>absurd h (Nat.not_lt_zero _)
 | n+1,m+1,raw,[],_,_=>rfl
 | n+1,m+1,raw,c::r,h1,h2=>by
  simp only[Al2] at h1 h2
  simp only[Zf]
  rw[za6 n m (raw++zK) (r.drop 3) (by simp;omega) (by simp;omega),za6 n m (raw++[c]) r (by omega) (by omega)]
theorem zcW:∀(n:Nat) (raw t b t':List UInt8),Zf n raw t=some (b,t')→b.length+t'.length≤raw.length+t.length∧t'.length≤t.length
 | 0,_,_,_,_,h=>by cases h
 | n+1,raw,[],_,_,h=>by cases h
 | n+1,raw,c::r,b,t',h=>by
  simp only[Zf] at h
  split at h
  ·cases h;simp;omega
  split at h
  ·rename_i h2
   have hl:=Zb _ _ h2
   simp only[zfR,Al2,Al3] at hl
   have:=zcW n _ _ _ _ h
   simp[zK] at this ⊢;omega
  ·have:=zcW n _ _ _ _ h
   simp at this ⊢;omega
theorem zkk (s:List UInt8) (h3:3≤s.length) (hs:s.length≤YQ):Pure Tryz.prog 119 [.str s] (zjg s.length (Zf (s.length-2) [] (s.drop 3))):=by
 refine Pure.go ir119 ck119 (Al4 _) fun KP Q hQ=>?_
 simp only[YQ] at hs
 obtain⟨R,hR⟩:∃ R,Zf (s.length-2) [] (s.drop 3)=R:=⟨_,rfl⟩
 rw[hR] at hQ
 simp(disch:=first|omega|assumption) only[ir119,go_sem]
 refine goL_st (fun x:Own×List UInt8×Nat=>[(4,.sl x.1 1 (bytesOf x.2.1)),(5,.int .i64 x.2.2)]) (fun x H=>3≤x.2.2∧x.2.2≤s.length∧x.2.1.length+3≤x.2.2∧Zf ((s.drop x.2.2).length+1) x.2.1 (s.drop x.2.2)=R∧Owned H x.1 x.2.1.length 1) (fun x=>s.length-x.2.2) (.nil,[],3) (by simp(disch:=first|omega|assumption) only[bytesOf,go_sem]) ⟨Al4 _,h3,Al4 _,by rw[← hR];simp only[Zv];rw[show s.length-3+1=s.length-2 by omega],rfl⟩ ?_
 rintro⟨o,raw,i⟩ H J ⟨hi3,hi,hrl,hrw,ho⟩ hJ
 simp only at hi3 hi hrl hrw ho
 have hbl:=zr raw
 by_cases hge:s.length≤i
 ·obtain rfl:i=s.length:=by omega
  rw[List.drop_length] at hrw
  have e:R=none:=by rw[← hrw];rfl
  have h1:((s.length:Int)≤(s.length:Int))=True:=eq_true (Int.le_refl _)
  simp(disch:=first|omega|assumption) only[h1,go_sem]
  exact hQ _ _ _ _ nofun rfl (by simp[tupOf,envOf,AV.strip,AV.strip1,zjg,e])
 have hge':¬ ((s.length:Int)≤(i:Int)):=by omega
 have hle:((i:Int)≤(s.length:Int))=True:=eq_true (by omega)
 have hlt:((i:Int)<(s.length:Int))=True:=eq_true (by omega)
 obtain⟨c,r,hd⟩:∃ c r,s.drop i=c::r:=by
  cases hx:s.drop i with
  | nil=>have:=congrArg List.length hx;simp at this;omega
  | cons c r=>exact⟨c,r,rfl⟩
 have hc:s.getD i 0=c:=by
  have:(s.drop i).getD 0 0=c:=by rw[hd];rfl
  simpa[List.getD_eq_getElem?_getD] using this
 have hdl:s.length=i+(r.length+1):=by have:=congrArg List.length hd;simp at this;omega
 rw[hd] at hrw
 simp only[Zf] at hrw
 simp(disch:=first|omega|assumption) only[hge',hle,go_sem]
 refine goK_pure (Yt (s.drop i) [34,34,34]) ?_
 rw[hd]
 by_cases p1:zK.isPrefixOf (c::r)=true
 ·have p1':([34,34,34]:List UInt8).isPrefixOf (c::r)=true:=p1
  have hl3:=Zb _ _ p1
  simp only[zK,Al2,Al3] at hl3
  rw[if_pos p1] at hrw
  simp(disch:=first|omega|assumption) only[p1',zcH,go_sem]
  refine goK_pure (zkp raw (by omega)) ?_
  have e:((s.length-(r.length-2):Nat):Int)=(i:Int)+3:=by omega
  simp(disch:=first|omega|assumption) only[wrap64,go_sem]
  exact hQ _ _ _ _ nofun rfl (by simp[tupOf,envOf,AV.strip,AV.strip1,zjg,← hrw,e])
 have p1':([34,34,34]:List UInt8).isPrefixOf (c::r)=false:=Bool.eq_false_iff.2 p1
 rw[if_neg p1] at hrw
 simp(disch:=first|omega|assumption) only[p1',hle,go_sem]
 refine goK_pure (Yt (s.drop i) [92,34,34,34]) ?_
 rw[hd]
 by_cases p2:zfR.isPrefixOf (c::r)=true
 ·have p2':([92,34,34,34]:List UInt8).isPrefixOf (c::r)=true:=p2
  have hl4:=Zb _ _ p2
  simp only[zfR,Al2,Al3] at hl4
  rw[if_pos p2] at hrw
  simp(disch:=first|omega|assumption) only[p2',go_sem]
  refine goP_ownS (by rw[hbl];exact ho) (by simp[hbl,bytesOf];omega) (by simp[hbl,bytesOf,maxLen];omega) fun o' H' hs2=>?_
  have hdr:s.drop (i+4)=r.drop 3:=by rw[← List.drop_drop,hd];rfl
  simp(disch:=first|omega|assumption) only[wrap64,go_sem]
  refine goJ (hJ (o',raw++zK,i+4) _ (by simp only;omega) ⟨by simp only;omega,by simp only;omega,by simp[zK];omega,?_,?_⟩) (by simp(disch:=first|omega|assumption) only[← zZ,Int.natCast_add,zK,yJ,go_sem])
  ·simp only
   rw[hdr,← hrw]
   exact za6 _ _ _ _ (Nat.lt_succ_self _) (by simp;omega)
  ·have h:=hs2.own
   simpa[hbl,bytesOf,zK] using h
 ·have p2':([92,34,34,34]:List UInt8).isPrefixOf (c::r)=false:=Bool.eq_false_iff.2 p2
  rw[if_neg p2] at hrw
  simp(disch:=first|omega|assumption) only[p2',hlt,hc,go_sem]
  refine goP_ownS (by rw[hbl];exact ho) (by simp[hbl];omega) (by simp[hbl,maxLen];omega) fun o' H' hs2=>?_
  have hdr:s.drop (i+1)=r:=by rw[← List.drop_drop,hd];rfl
  simp(disch:=first|omega|assumption) only[wrap64,go_sem]
  refine goJ (hJ (o',raw++[c],i+1) _ (by simp only;omega) ⟨by simp only;omega,by simp only;omega,by simp;omega,?_,?_⟩) (by simp(disch:=first|omega|assumption) only[← YG,Int.natCast_add,go_sem])
  ·simp only
   rw[hdr,← hrw]
   rfl
  ·have h:=hs2.own
   simpa[hbl] using h
theorem zl9 (c:UInt8):Pure Tryz.prog 121 [.int .u8 (c.toNat:Int)] (.bool (yi c)):=by
 refine Pure.go ir121 ck121 (Al4 _) fun KP Q hQ=>?_
 by_cases h10:c=10
 ·subst h10
  have hc:((10:UInt8).toNat:Int)=10:=rfl
  simp(disch:=first|omega|assumption) only[ir121,hc,go_sem]
  exact hQ _ _ _ _ nofun rfl (by simp[tupOf,envOf,AV.strip,AV.strip1,yi])
 have g10:¬ ((c.toNat:Int)=10):=fun e=>h10 (UInt8.toNat_inj.1 (by show c.toNat=10;omega))
 by_cases h13:c=13
 ·subst h13
  have hc:((13:UInt8).toNat:Int)=13:=rfl
  simp(disch:=first|omega|assumption) only[ir121,hc,go_sem]
  exact hQ _ _ _ _ nofun rfl (by simp[tupOf,envOf,AV.strip,AV.strip1,yi])
 have g13:¬ ((c.toNat:Int)=13):=fun e=>h13 (UInt8.toNat_inj.1 (by show c.toNat=13;omega))
 simp(disch:=first|omega|assumption) only[ir121,g10,g13,go_sem]
 exact hQ _ _ _ _ nofun rfl (by simp[tupOf,envOf,AV.strip,AV.strip1,yi,h10,h13])
theorem zeB (c:UInt8) (r:List UInt8):yF (c::r)=if zK.isPrefixOf (c::r) then (Zf (r.length+1) [] (r.drop 2)).map fun x=>(⟨5,yv x.1⟩,x.2)
  else if c=34 then (Yd yi r).map fun x=>(⟨5,x.1⟩,x.2)
  else if Za.isPrefixOf (c::r) then some (⟨1,Za⟩,r.drop 2)
  else if 0≤Lib.indexByte zar c then some (⟨1,[c]⟩,r)
  else if isL c then some (⟨2,(c::r).take (yk (c::r))⟩,(c::r).drop (yk (c::r)))
  else if (z1 (c::r)).1=0 then none
  else if ((c::r).drop (z1 (c::r)).1).head?.any fun d=>isL d||isD d||decide (d=46) then none
  else some (⟨(z1 (c::r)).2,(c::r).take (z1 (c::r)).1⟩,(c::r).drop (z1 (c::r)).1):=rfl
def zfW (s:List UInt8):AV:=match yF s with
 | some (x,t)=>.tup [Zu x,.int .i64 ((s.length-t.length:Nat):Int)]
 | none=>.tup [Zu ⟨if s.head?=some 34 then 5 else 0,[]⟩,.int .i64 0]
theorem Zx {s t:List UInt8} {x:Tok} (h:yF s=some (x,t)):zfW s=.tup [Zu x,.int .i64 ((s.length-t.length:Nat):Int)]:=by unfold zfW;rw[h]
theorem YX {s:List UInt8} (h:yF s=none):zfW s=.tup [Zu ⟨if s.head?=some 34 then 5 else 0,[]⟩,.int .i64 0]:=by unfold zfW;rw[h]
theorem zm8 (c:UInt8) (r:List UInt8) (hs:(c::r).length≤YQ):Pure Tryz.prog 60 [.str (c::r)] (zfW (c::r)):=by
 have hcl:(c::r).length=r.length+1:=rfl
 have hg0:(c::r).getD 0 0=c:=rfl
 have ht1:(c::r).take 1=[c]:=rfl
 have ed:(c::r).drop 3=r.drop 2:=rfl
 have hhd:(c::r).head?=some c:=rfl
 have hquo:=fun h34:c=34=>(by rw[h34];exact zkq 121 (by decide +kernel) yi zl9 34 r (by simpa[h34] using hs):Pure Tryz.prog 120 [.str (c::r),.clo 121 [] []] (zf0 yi r))
 have ot:=zeB c r
 have hpl3:zK.isPrefixOf (c::r)=true→c=34:=fun p1=>by
  simp only[zK,List.isPrefixOf,Al0,beq_iff_eq] at p1
  exact p1.1.symm
 generalize hsc:c::r=s at *
 refine Pure.go ir60 ck60 (Al4 _) fun KP Q hQ=>?_
 have hsq:=hs
 simp only[YQ] at hs
 have hsl:s.length≤Lim:=by simp only[Lim];omega
 have hl:((0:Int)<(s.length:Int))=True:=eq_true (by omega)
 have hl1:((1:Int)≤(s.length:Int))=True:=eq_true (by omega)
 simp(disch:=first|omega|assumption) only[ir60,go_sem]
 refine goA_intro fun b0 hb0=>?_
 simp(disch:=first|omega|assumption) only[hl,hg0,go_sem]
 refine goK_pure (Yt s [34,34,34]) ?_
 by_cases p1:zK.isPrefixOf s=true
 ·have p1':([34,34,34]:List UInt8).isPrefixOf s=true:=p1
  have hl3:=Zb _ _ p1
  simp only[zK,Al2,Al3] at hl3
  have h34:c=34:=hpl3 p1
  simp(disch:=first|omega|assumption) only[p1',go_sem]
  refine goK_pure (zkk s hl3 hsq) ?_
  have ef:Zf (s.length-2) [] (r.drop 2)=Zf (r.length+1) [] (r.drop 2):=za6 _ _ _ _ (by rw[Zv];omega) (by rw[Zv];omega)
  rw[ed,ef]
  have e1:yF s=(Zf (r.length+1) [] (r.drop 2)).map fun x=>(⟨5,yv x.1⟩,x.2):=by
   rw[ot,if_pos p1]
  cases hx:Zf (r.length+1) [] (r.drop 2) with
  | none =>
   rw[hx] at e1
   have e:=YX e1
   rw[if_pos (by rw[hhd,h34])] at e
   simp(disch:=first|omega|assumption) only[zjg,go_sem]
   exact hQ _ _ _ [.agg [.int .i64 5,.str []],.int .i64 0] nofun (by simp(disch:=first|omega|assumption) only[ir60,resvs,resv,go_sem]) (by simp[tupOf,AV.strip,AV.strip1,e,Zu])
  | some x =>
   obtain⟨raw,t⟩:=x
   rw[hx] at e1
   have e:=Zx e1
   simp(disch:=first|omega|assumption) only[zjg,go_sem]
   exact hQ _ _ _ [.agg [.int .i64 5,.str (yv raw)],.int .i64 (((s.length-t.length:Nat)):Int)] nofun (by simp(disch:=first|omega|assumption) only[ir60,resvs,resv,go_sem]) (by simp[tupOf,AV.strip,AV.strip1,e,Zu])
 have p1':([34,34,34]:List UInt8).isPrefixOf s=false:=Bool.eq_false_iff.2 p1
 by_cases c34:c=34
 ·have hc:(c.toNat:Int)=34:=by rw[c34];rfl
  simp(disch:=first|omega|assumption) only[p1',hc,go_sem]
  refine goK_pure (hquo c34) ?_
  have e1:yF s=(Yd yi r).map fun x=>(⟨5,x.1⟩,x.2):=by
   rw[ot,if_neg p1,if_pos c34]
  cases hx:Yd yi r with
  | none =>
   rw[hx] at e1
   have e:=YX e1
   rw[if_pos (by rw[hhd,c34])] at e
   simp(disch:=first|omega|assumption) only[zf0,hx,go_sem]
   exact hQ _ _ _ [.agg [.int .i64 5,.str []],.int .i64 0] nofun (by simp(disch:=first|omega|assumption) only[ir60,resvs,resv,go_sem]) (by simp[tupOf,AV.strip,AV.strip1,e,Zu])
  | some x =>
   obtain⟨b,t⟩:=x
   rw[hx] at e1
   have e:=Zx e1
   rw[hcl] at e
   simp(disch:=first|omega|assumption) only[zf0,hx,go_sem]
   exact hQ _ _ _ [.agg [.int .i64 5,.str b],.int .i64 (((r.length+1-t.length:Nat)):Int)] nofun (by simp(disch:=first|omega|assumption) only[ir60,resvs,resv,go_sem]) (by simp[tupOf,AV.strip,AV.strip1,e,Zu])
 have g34:¬ ((c.toNat:Int)=34):=fun e=>c34 (UInt8.toNat_inj.1 (by show c.toNat=34;omega))
 have hno:¬ (s.head?=some 34):=by rw[hhd];simpa using c34
 simp(disch:=first|omega|assumption) only[p1',g34,go_sem]
 refine goK_pure (Yt s [46,46,46]) ?_
 by_cases p2:Za.isPrefixOf s=true
 ·have p2':([46,46,46]:List UInt8).isPrefixOf s=true:=p2
  have hl3:=Zb _ _ p2
  have hd3:Za.length=3:=rfl
  rw[hd3] at hl3
  have e1:yF s=some (⟨1,Za⟩,r.drop 2):=by
   rw[ot,if_neg p1,if_neg c34,if_pos p2]
  have e:=Zx e1
  have e2:s.length-(r.drop 2).length=3:=by rw[Zv];omega
  rw[e2] at e
  have e3:Za=[46,46,46]:=rfl
  simp(disch:=first|omega|assumption) only[p2',go_sem]
  exact hQ _ _ _ [.agg [.int .i64 1,.str [46,46,46]],.int .i64 3] nofun (by simp(disch:=first|omega|assumption) only[ir60,resvs,resv,go_sem]) (by simp[tupOf,AV.strip,AV.strip1,e,Zu,e3])
 have p2':([46,46,46]:List UInt8).isPrefixOf s=false:=Bool.eq_false_iff.2 p2
 simp(disch:=first|omega|assumption) only[p2',go_sem]
 refine goK_pure (zdx zar c) ?_
 by_cases hm:0≤Lib.indexByte zar c
 ·have e1:yF s=some (⟨1,[c]⟩,r):=by
   rw[ot,if_neg p1,if_neg c34,if_neg p2,if_pos hm]
  have e:=Zx e1
  have e2:s.length-r.length=1:=by omega
  rw[e2] at e
  have e3:=ht1
  simp(disch:=first|omega|assumption) only[hm,hl1,e3,go_sem]
  exact hQ _ _ _ [.agg [.int .i64 1,.str [c]],.int .i64 1] nofun (by simp(disch:=first|omega|assumption) only[ir60,resvs,resv,go_sem]) (by simp[tupOf,AV.strip,AV.strip1,e,Zu])
 simp(disch:=first|omega|assumption) only[hm,go_sem]
 refine goK_pure (zcJ c) ?_
 by_cases hL:isL c=true
 ·have e1:yF s=some (⟨2,s.take (yk s)⟩,s.drop (yk s)):=by
   rw[ot,if_neg p1,if_neg c34,if_neg p2,if_neg hm,if_pos hL]
  have e:=Zx e1
  have hwl:=zdm s
  have e2:s.length-(s.drop (yk s)).length=yk s:=by rw[Zv];omega
  rw[e2] at e
  have h2:((yk s:Int)≤(s.length:Int))=True:=eq_true (by omega)
  simp(disch:=first|omega|assumption) only[hL,go_sem]
  refine goK_pure (zl5 s hsl (by rw[hg0];exact hL)) ?_
  simp(disch:=first|omega|assumption) only[h2,go_sem]
  exact hQ _ _ _ [.agg [.int .i64 2,.str (s.take (yk s))],.int .i64 (yk s:Int)] nofun (by simp(disch:=first|omega|assumption) only[ir60,resvs,resv,go_sem]) (by simp[tupOf,AV.strip,AV.strip1,e,Zu])
 have hL':isL c=false:=by simpa using hL
 simp(disch:=first|omega|assumption) only[hL',go_sem]
 refine goK_pure (zhD s hsl) ?_
 have hnl:=zfz s
 have hn2:(z1 s).1=0→(z1 s).2=0:=fun h=>by
  unfold z1 at h ⊢
  split at h
  ·rename_i h0;rw[if_pos h0]
  ·rename_i h0;simp only at h;omega
 have e0:yF s=if (z1 s).1=0 then none
   else if (s.drop (z1 s).1).head?.any fun d=>isL d||isD d||decide (d=46) then none
   else some (⟨(z1 s).2,s.take (z1 s).1⟩,s.drop (z1 s).1):=by
  rw[ot,if_neg p1,if_neg c34,if_neg p2,if_neg hm,if_neg hL]
 generalize hnn:(z1 s).1=n at *
 generalize hkk:(z1 s).2=k at *
 have hnle:((n:Int)≤(s.length:Int))=True:=eq_true (by omega)
 have fin:(n≠0→yF s=some (⟨k,s.take n⟩,s.drop n))→zfW s=.tup [Zu ⟨k,s.take n⟩,.int .i64 (n:Int)]:=fun h=>by
  by_cases hz:n=0
  ·rw[if_pos hz] at e0
   rw[YX e0,if_neg hno,hz,hn2 hz];rfl
  ·rw[Zx (h hz)]
   have e2:s.length-(s.drop n).length=n:=by rw[Zv];omega
   rw[e2]
 have bad:(s.drop n).head?.any (fun d=>isL d||isD d||decide (d=46))=true→zfW s=.tup [Zu ⟨0,[]⟩,.int .i64 0]:=fun h=>by
  have:yF s=none:=by
   rw[e0]
   split
   ·rfl
   ·first|rfl|exact if_pos h
  rw[YX this,if_neg hno]
 rcases zbw s n with ⟨h1,h2⟩|⟨h1,h2⟩
 ·have hlt:¬ ((n:Int)<(s.length:Int)):=by omega
  have e:=fin fun hz=>by rw[e0,if_neg hz,h1];rfl
  simp(disch:=first|omega|assumption) only[hlt,hnle,go_sem]
  exact hQ _ _ _ [.agg [.int .i64 k,.str (s.take n)],.int .i64 (n:Int)] nofun (by simp(disch:=first|omega|assumption) only[ir60,resvs,resv,go_sem]) (by simp[tupOf,AV.strip,AV.strip1,e,Zu])
 ·have hlt:((n:Int)<(s.length:Int))=True:=eq_true (by omega)
  generalize hdd:s.getD n 0=d at *
  have ha:(s.drop n).head?.any (fun d=>isL d||isD d||decide (d=46))=(isL d||isD d||decide (d=46)):=by rw[h2];rfl
  rw[ha] at bad
  simp(disch:=first|omega|assumption) only[hlt,hdd,go_sem]
  refine goK_pure (zcJ d) ?_
  cases hld:isL d with
  | true =>
   have e:=bad (by rw[hld];rfl)
   simp(disch:=first|omega|assumption) only[hld,go_sem]
   exact hQ _ _ _ [.agg [.int .i64 0,.str []],.int .i64 0] nofun (by simp(disch:=first|omega|assumption) only[ir60,resvs,resv,go_sem]) (by simp[tupOf,AV.strip,AV.strip1,e,Zu])
  | false =>
   simp(disch:=first|omega|assumption) only[hld,hlt,hdd,go_sem]
   refine goK_pure (zfp d) ?_
   cases hdg:isD d with
   | true =>
    have e:=bad (by rw[hdg];simp)
    simp(disch:=first|omega|assumption) only[hdg,go_sem]
    exact hQ _ _ _ [.agg [.int .i64 0,.str []],.int .i64 0] nofun (by simp(disch:=first|omega|assumption) only[ir60,resvs,resv,go_sem]) (by simp[tupOf,AV.strip,AV.strip1,e,Zu])
   | false =>
    by_cases h46:d=46
    ·have e:=bad (by rw[h46];simp)
     have g46:(d.toNat:Int)=46:=by rw[h46];rfl
     simp(disch:=first|omega|assumption) only[hdg,hlt,hdd,g46,go_sem]
     exact hQ _ _ _ [.agg [.int .i64 0,.str []],.int .i64 0] nofun (by simp(disch:=first|omega|assumption) only[ir60,resvs,resv,go_sem]) (by simp[tupOf,AV.strip,AV.strip1,e,Zu])
    ·have g46:¬ ((d.toNat:Int)=46):=fun e=>h46 (UInt8.toNat_inj.1 (by show d.toNat=46;omega))
     have e:=fin fun hz=>by rw[e0,if_neg hz,ha,hld,hdg];simp[h46]
     simp(disch:=first|omega|assumption) only[hdg,hlt,hdd,g46,hnle,go_sem]
     exact hQ _ _ _ [.agg [.int .i64 k,.str (s.take n)],.int .i64 (n:Int)] nofun (by simp(disch:=first|omega|assumption) only[ir60,resvs,resv,go_sem]) (by simp[tupOf,AV.strip,AV.strip1,e,Zu])
theorem zkY {l:List UInt8} (hne:l≠[]):(zk l).2≤l.length∧(zk l).1≤1114111:=by
 by_cases h:(zk l).2=0
 ·refine⟨by omega,?_⟩
  unfold zk at h ⊢
  split at h
  ·rename_i h0;rw[if_pos h0];decide
  ·split at h
   ·rename_i h0 h1;rw[if_neg h0,if_pos h1];decide
   ·rename_i h0 h1
    have:=zhh h0 h1
    have:=this.pos
    omega
 ·obtain⟨e,h1⟩:=zca hne h
  have hd:=zhh hne h1
  rw[e]
  refine⟨?_,hd.le⟩
  have hl:=hd.len
  exact hl
theorem zkZ (s:List UInt8) (hs:s.length≤Lim):Pure Tryz.prog 58 [.str s] (.bool (zck s)):=by
 refine Pure.go ir58 ck58 (Al4 _) fun KP Q hQ=>?_
 have hs':=hs
 simp only[Lim] at hs
 simp(disch:=first|omega|assumption) only[ir58,go_sem]
 refine goL_st (fun i:Nat=>[(3,.int .i64 i)]) (fun i H=>zck s=zck (s.drop i)∧i≤s.length) (fun i=>s.length-i) 0 (by simp(disch:=first|omega|assumption) only[go_sem]) ⟨by simp,by omega⟩ ?_
 rintro i H J ⟨hn,hle⟩ hJ
 by_cases hlt:i<s.length
 case neg =>
  have hlt':¬ ((i:Int)<s.length):=by omega
  rw[List.drop_of_length_le (by omega)] at hn
  simp(disch:=first|omega|assumption) only[hlt',go_sem]
  exact hQ _ _ _ _ nofun rfl (by simp[tupOf,envOf,AV.strip,AV.strip1,hn,zgi])
 have hlt':((i:Int)<s.length)=True:=eq_true (by omega)
 have hne:s.drop i≠[]:=fun e=>by have:=congrArg List.length e;simp at this;omega
 obtain⟨hk,hcm⟩:=zkY hne
 rw[Zv] at hk
 simp(disch:=first|omega|assumption) only[hlt',go_sem]
 refine goK_pure (zjc s i hlt hs') ?_
 rw[zcl hne,List.drop_drop] at hn
 generalize (zk (s.drop i)).1=c at *
 generalize (zk (s.drop i)).2=k at *
 by_cases hk0:0<k
 ·have hk0':((0:Int)<(k:Int))=True:=eq_true (by omega)
  simp(disch:=first|omega|assumption) only[hk0',go_sem]
  refine goK_pure (zmV c hcm) ?_
  cases hsg:YD c with
  | true =>
   rw[hsg] at hn
   simp only[hk0,decide_true,Bool.true_and] at hn
   simp(disch:=first|omega|assumption) only[wrap64,go_sem]
   exact goJ (hJ (i+k) _ (by omega) ⟨hn,by omega⟩) (by simp(disch:=first|omega|assumption) only[Int.natCast_add,go_sem])
  | false =>
   rw[hsg] at hn
   simp only[Bool.false_and,Bool.and_false] at hn
   simp(disch:=first|omega|assumption) only[go_sem]
   exact hQ _ _ _ _ nofun rfl (by simp[tupOf,envOf,AV.strip,AV.strip1,hn])
 ·have hk0':¬ ((0:Int)<(k:Int)):=by omega
  simp only[hk0,decide_false,Bool.false_and] at hn
  simp(disch:=first|omega|assumption) only[hk0',go_sem]
  exact hQ _ _ _ _ nofun rfl (by simp[tupOf,envOf,AV.strip,AV.strip1,hn])
def readA:Except Int (List Tok)→AV
 | .ok l=>.tup [.sl .no 2 (cKs l),.int .i64 0]
 | .error e=>.tup [.sl .no 2 [],.int .i64 e]
def YZ (l:List Tok) (t:List UInt8):Except Int (List Tok):=y8 (t.length+1) l t
theorem zij (l:List Tok):YZ l []=.ok l:=rfl
theorem zic {l:List Tok} {t:List UInt8} (hne:t≠[]) (h:Zi t≠0):YZ l t=YZ l (t.drop (Zi t)):=by
 have h1:=zfd t
 have h2:0<t.length:=List.length_pos_iff.2 hne
 unfold YZ
 conv=>lhs;unfold y8
 rw[if_neg hne,if_pos h]
 exact zah _ _ _ _ (by simp;omega) (Nat.lt_succ_self _)
theorem zhd {l:List Tok} {t:List UInt8} (hne:t≠[]) (h:Zi t=0) (h1:yF t=none):YZ l t=.error 2:=by
 unfold YZ
 conv=>lhs;unfold y8
 rw[if_neg hne,if_neg (by omega),h1]
theorem zg8 {l:List Tok} {t t':List UInt8} {x:Tok} (hne:t≠[]) (h:Zi t=0) (h1:yF t=some (x,t')):YZ l t=YZ (l++[x]) t':=by
 have h2:=zb0 h1
 unfold YZ
 conv=>lhs;unfold y8
 rw[if_neg hne,if_neg (by omega),h1]
 exact zah _ _ _ _ (by omega) (Nat.lt_succ_self _)
theorem zdC:∀(n:Nat) (raw t b t':List UInt8),Zf n raw t=some (b,t')→t' <:+ t
 | 0,_,_,_,_,h=>by cases h
 | n+1,raw,[],_,_,h=>by cases h
 | n+1,raw,c::r,b,t',h=>by
  simp only[Zf] at h
  split at h
  ·cases h;exact(List.drop_suffix _ _).trans (List.suffix_cons ..)
  split at h
  ·exact(zdC n _ _ _ _ h).trans ((List.drop_suffix _ _).trans (List.suffix_cons ..))
  ·exact(zdC n _ _ _ _ h).trans (List.suffix_cons ..)
theorem zfT {s t:List UInt8} {x:Tok} (h:yF s=some (x,t)):t <:+ s:=by
 cases s with
 | nil=>cases h
 | cons c r =>
  simp only[yF] at h
  split at h
  ·cases hr:Zf (r.length+1) [] (r.drop 2) with
   | none=>rw[hr] at h;cases h
   | some y =>
    rw[hr] at h
    simp only[z8,Al1,Al8] at h
    obtain⟨_,rfl⟩:=h
    exact(zdC _ _ _ _ _ (show Zf _ _ _=some (y.1,y.2) from hr)).trans ((List.drop_suffix _ _).trans (List.suffix_cons ..))
  split at h
  ·cases hr:Yd yi r with
   | none=>rw[hr] at h;cases h
   | some y =>
    rw[hr] at h
    simp only[z8,Al1,Al8] at h
    obtain⟨_,rfl⟩:=h
    exact(zfF (t':=y.2) (b:=y.1) hr).1.trans (List.suffix_cons ..)
  split at h
  ·cases h;exact(List.drop_suffix _ _).trans (List.suffix_cons ..)
  split at h
  ·cases h;exact List.suffix_cons ..
  split at h
  ·cases h;exact List.drop_suffix _ _
  split at h
  ·cases h
  split at h
  ·cases h
  ·cases h;exact List.drop_suffix _ _
theorem zjR {s t:List UInt8} {x:Tok} (h:yF s=some (x,t)):s.drop (s.length-t.length)=t:=by
 obtain⟨p,hp⟩:=zfT h
 rw[← hp];simp
theorem znh {u:List UInt8} (hne:u≠[]) (hs:u.length≤1000000):Pure Tryz.prog 59 [.str u] (.int .i64 (Zi u)):=by
 cases u with
 | nil=>exact absurd rfl hne
 | cons c r=>exact zm3 c r hs
theorem zna {u:List UInt8} (hne:u≠[]) (hs:u.length≤YQ):Pure Tryz.prog 60 [.str u] (zfW u):=by
 cases u with
 | nil=>exact absurd rfl hne
 | cons c r=>exact zm8 c r hs
theorem zg3 (s:List UInt8) (hs:s.length≤YQ):Pure Tryz.prog 24 [.str s] (readA (Zs s)):=by
 refine Pure.go ir24 ck24 (Al4 _) fun KP Q hQ=>?_
 have hsq:=hs
 simp only[YQ] at hs
 by_cases h8:8192<s.length
 ·have g8:((8192:Int)<(s.length:Int))=True:=eq_true (by omega)
  simp(disch:=first|omega|assumption) only[ir24,g8,go_sem]
  exact hQ _ _ _ _ nofun rfl (by simp[tupOf,envOf,AV.strip,AV.strip1,Zs,h8,readA])
 have g8:¬ ((8192:Int)<(s.length:Int)):=by omega
 simp(disch:=first|omega|assumption) only[ir24,g8,go_sem]
 refine goK_pure (zkZ s (by simp only[Lim];omega)) ?_
 cases hsb:zck s with
 | false =>
  simp(disch:=first|omega|assumption) only[go_sem]
  exact hQ _ _ _ _ nofun rfl (by simp[tupOf,envOf,AV.strip,AV.strip1,Zs,h8,hsb,readA])
 | true =>
  have e0:Zs s=YZ [] s:=by unfold Zs YZ;rw[if_neg h8,if_pos hsb]
  rw[e0] at hQ
  simp(disch:=first|omega|assumption) only[go_sem]
  refine goL_st (fun x:Own×List Tok×Nat=>[(4,.sl x.1 2 (cKs x.2.1)),(5,.int .i64 x.2.2)]) (fun x H=>x.2.2≤s.length∧x.2.1.length≤x.2.2∧YZ [] s=YZ x.2.1 (s.drop x.2.2)∧OwnS Heap.emp .nil H x.1 x.2.1.length 2) (fun x=>s.length-x.2.2) (.nil,[],0) (by simp(disch:=first|omega|assumption) only[cKs,List.map_nil,go_sem]) ⟨Nat.zero_le _,Al4 _,rfl,OwnS.refl rfl⟩ ?_
  rintro⟨o,l,i⟩ H J ⟨hi,hll,hr,hso⟩ hJ
  simp only at hi hll hr hso
  have hcl:=zH l
  by_cases hlt:i<s.length
  case neg =>
   have hlt':¬ ((i:Int)<s.length):=by omega
   rw[List.drop_of_length_le (by omega),zij] at hr
   simp(disch:=first|omega|assumption) only[hlt',go_sem]
   exact hQ _ _ _ _ nofun rfl (by simp[tupOf,envOf,AV.strip,AV.strip1,hr,readA,Z6])
  have hlt':((i:Int)<s.length)=True:=eq_true (by omega)
  have hle':((i:Int)≤s.length)=True:=eq_true (by omega)
  obtain⟨u,hd⟩:∃ u,s.drop i=u:=⟨_,rfl⟩
  have hdl:s.length=i+u.length:=by have:=congrArg List.length hd;rw[Zv] at this;omega
  have hne:u≠[]:=fun e=>by rw[e] at hdl;simp at hdl;omega
  rw[hd] at hr
  simp(disch:=first|omega|assumption) only[hlt',hle',hd,go_sem]
  refine goK_pure (znh hne (by omega)) ?_
  have hgl:=zfd u
  by_cases hg:Zi u=0
  case neg =>
   have hg':((0:Int)<(Zi u:Int))=True:=eq_true (by omega)
   simp(disch:=first|omega|assumption) only[hg',wrap64,go_sem]
   refine goJ (hJ (o,l,i+Zi u) _ (by simp only;omega) ⟨by simp only;omega,by simp only;omega,?_,hso⟩) (by simp(disch:=first|omega|assumption) only[Int.natCast_add,go_sem])
   simp only
   rw[hr,zic hne hg,← List.drop_drop,hd]
  have hg':¬ ((0:Int)<(Zi u:Int)):=by omega
  simp(disch:=first|omega|assumption) only[hg',hle',hd,go_sem]
  refine goK_pure (zna hne (by simp only[YQ];omega)) ?_
  cases ho:yF u with
  | none =>
   rw[zhd hne hg ho] at hr
   rw[YX ho]
   simp(disch:=first|omega|assumption) only[Zu,go_sem]
   refine goA_intro fun b1 hb1=>?_
   simp(disch:=first|omega|assumption) only[go_sem]
   exact hQ _ _ _ _ nofun rfl (by simp[tupOf,envOf,AV.strip,AV.strip1,hr,readA])
  | some x =>
   obtain⟨x,t⟩:=x
   have hlt2:=zb0 ho
   have hsf:=zjR ho
   rw[zg8 hne hg ho] at hr
   rw[Zx ho]
   have hz:¬ (((u.length-t.length:Nat):Int)=0):=by omega
   simp(disch:=first|omega|assumption) only[Zu,go_sem]
   refine goA_intro fun b1 hb1=>?_
   simp(disch:=first|omega|assumption) only[hz,go_sem]
   refine goP_ownS (by rw[hcl];exact(hso.upd hb1).own) (by simp only[hcl,Al2,Al3];omega) (by simp only[hcl,Al2,Al3,maxLen];omega) fun o' H' hs2=>?_
   simp(disch:=first|omega|assumption) only[wrap64,go_sem]
   refine goJ (hJ (o',l++[x],i+(u.length-t.length)) H' (by simp only;omega) ⟨by simp only;omega,by simp;omega,?_,(hso.upd (x:=.cells [.int .i64 x.k,.str x.s]) hb1).trans (by simpa[hcl] using hs2)⟩) (by simp(disch:=first|omega|assumption) only[← YJ,Int.natCast_add,go_sem])
   simp only
   rw[hr,← List.drop_drop,hd,hsf]
end Go.Proofs.YtaielcdfcgpbiaaGreatDoor
namespace Go.Proofs.YtaielcdfcgpbiaaGreatDoor
open Go.Ab
def sp31 : ASp := ⟨27, 2, 5, (.reg [] [⟨some 4, none, .alloc [.int .i64 0], []⟩]), (.seq (.reg [] [⟨some 13, none, .mv (.t 6), []⟩, ⟨some 14, none, .bi .neq .i64 (.t 13) (.k (.int .i64 0)), []⟩])
 (.cond (.t 14) (.seq (.reg [] [⟨some 15, none, .mv (.t 6), []⟩, ⟨none, none, .st 1 (.t 4) (.t 15), []⟩])
 (.ret)) (.skip))), [⟨some 16, none, .mkfn 74 [] [(.t 4)], []⟩], 16, (.seq (.reg [] [⟨some 17, none, .mv (.t 5), []⟩, ⟨some 18, none, .bld [.sl .nil 2 [], .int .i64 0, .int .i64 0] [(0, 1, (.t 17))], []⟩, ⟨some 19, none, .box (.t 18), []⟩, ⟨some 7, none, .mv (.t 19), []⟩])
 (.seq (.reg [] [⟨some 20, none, .mv (.t 1), []⟩, ⟨some 21, none, .mv (.t 7), []⟩, ⟨some 22, none, .callv (.t 20) [(.t 21)], []⟩])
 (.seq (.seq (.reg [] [⟨some 23, none, .mv (.t 7), []⟩, ⟨some 24, none, .call 43 [(.t 23)], []⟩])
 (.cond (.t 24) (.reg [] [⟨some 25, none, .mv (.t 7), []⟩, ⟨some 26, none, .call 75 [(.t 25), (.k (.int .i64 2))], []⟩]) (.skip)))
 (.seq (.reg [] [⟨none, none, .st 1 (.t 4) (.k (.int .i64 0)), []⟩])
 (.ret))))), [.c 4 1 false], some (.reg [] [⟨some 9, none, .mv (.t 0), []⟩, ⟨some 10, none, .call 24 [(.t 9)], []⟩, ⟨some 8, none, .mv (.t 10), []⟩, ⟨some 11, none, .ext (.t 8) 0, []⟩, ⟨some 12, none, .ext (.t 8) 1, []⟩, ⟨some 5, none, .mv (.t 11), []⟩, ⟨some 6, none, .mv (.t 12), []⟩])⟩
theorem ckS31:chkSp Tryz.prog 31 sp31=true:=by kernel_rfl
def df74 : ADfn := ⟨16, 1, 4, [⟨some 1, none, .mv (.t 4), []⟩], (.seq (.reg [] [⟨some 6, none, .mv (.t 1), []⟩, ⟨some 7, none, .tas 120 (.agg [.int .i64 0]) (.t 6), []⟩, ⟨some 5, none, .mv (.t 7), []⟩, ⟨some 8, none, .ext (.t 5) 0, []⟩, ⟨some 9, none, .ext (.t 5) 1, []⟩, ⟨some 2, none, .alloc [.int .i64 0], []⟩, ⟨none, none, .st 1 (.t 2) (.t 8), []⟩, ⟨some 3, none, .mv (.t 9), []⟩])
 (.seq (.reg [] [⟨some 10, none, .mv (.t 3), []⟩])
 (.cond (.t 10) (.reg [] [⟨some 11, none, .fa 0 (.t 2), []⟩, ⟨some 12, none, .ld 1 false (.t 11), []⟩, ⟨none, none, .st 1 (.t 0) (.t 12), []⟩]) (.seq (.reg [] [⟨some 13, none, .mv (.t 1), []⟩, ⟨some 14, none, .ifnil true (.t 13), []⟩])
 (.cond (.t 14) (.reg [] [⟨some 15, none, .mv (.t 1), []⟩, ⟨none, none, .pan (.t 15), []⟩]) (.skip))))))⟩
theorem ckD74:chkDfn Tryz.prog 74 df74=true:=by kernel_rfl
theorem zb8 {P:Program} {KP:AV→Heap→Prop} {items:List AItem} {ρ:Env} {H:Heap} {K:Env→Heap→Prop} (h:∀ Q:AExit→Env→Heap→Prop,(∀ ρ' H',K ρ' H'→Q .normal ρ' H')→goI P KP Q items items [] ρ H):awpItems P KP (annot items) ρ H K :=
 h (fun e ρ H=>match e with|.normal=>K ρ H|_=>True) (fun _ _ h=>h)
theorem zac {P:Program} {KP:AV→Heap→Prop} {c:AC} {ρ:Env} {H:Heap} {K:AExit→Env→Heap→Prop} (h:∀(KP':AV→Heap→Prop) (Q:AExit→Env→Heap→Prop),(∀ v H',KP v H'→KP' v H')→(∀ e ρ' H',K e ρ' H'→Q e ρ' H')→goC P KP' Q c [] ρ H):awp P KP c K ρ H :=
 h KP K (fun _ _ h=>h) (fun _ _ _ h=>h)
theorem zlS (H:Heap) (r:Nat) (n:Int):ACalls Tryz.prog 75 [.ptr r 0,.int .i64 n] H (fun e H'=>match e with|.ret v=>False|.pan v=>v=ye n∧H'=H):=by
 refine ACalls.goO (R:=fun _ _=>False) (RP:=fun v H'=>v=ye n∧H'=H) ir75 ck75 (Al4 _) fun KP Q hQ hP=>?_
 simp(disch:=first|omega|assumption) only[ir75,go_sem]
 exact hP _ _ H (Low.refl _) ⟨rfl,rfl⟩
theorem zmU {H:Heap} {b4:Nat} {Q:Heap→Prop} (hq:∀ b x,H b=none→Q (H.upd b x)):ACallsD Tryz.prog 74 [.ptr b4 0] none H Q:=by
 refine ACallsD.of_fn df74 ckD74 (Al4 _) (zb8 fun Q1 hQ1=>?_)
 simp(disch:=first|omega|assumption) only[df74,Option.getD_none,go_sem]
 refine hQ1 _ _ (zac fun KP' Q2 hKP hQ2=>?_)
 simp(disch:=first|omega|assumption) only[df74,go_sem]
 refine goA_intro fun b hb=>?_
 simp(disch:=first|omega|assumption) only[go_sem]
 exact hQ2 _ _ _ (hq _ _ hb)
theorem zli {H:Heap} {b4:Nat} {c4:List AV} {n:Int} {Q:Heap→Prop} (h4:H b4=some (.cells c4)) (l4:c4.length=1)
  (hq:∀ b x,H b=none→Q ((H.upd b x).upd b4 (.cells [.int .i64 n]))):ACallsD Tryz.prog 74 [.ptr b4 0] (some (ye n)) H Q:=by
 refine ACallsD.of_fn df74 ckD74 (Al4 _) (zb8 fun Q1 hQ1=>?_)
 simp(disch:=first|omega|assumption) only[df74,Option.getD_some,ye,go_sem]
 refine hQ1 _ _ (zac fun KP' Q2 hKP hQ2=>?_)
 simp(disch:=first|omega|assumption) only[df74,go_sem]
 refine goA_intro fun b hb=>?_
 have n1:b4≠b:=fun e=>by subst e;rw[hb] at h4;cases h4
 simp(disch:=first|omega|assumption) only[h4,n1,l4,go_sem]
 have e4:splice c4 0 [.int .i64 n]=[.int .i64 n]:=by
  unfold splice;simp only[List.take_zero,Zh,Al2,Al3];rw[List.drop_eq_nil_of_le (by rw[l4];decide),List.append_nil]
 rw[e4]
 exact hQ2 _ _ _ (hq _ _ hb)
theorem zcj:∀(n:Nat) (l:List Tok) (s:List UInt8) (e:Int),s.length<n→y8 n l s=.error e→e=2
 | 0,_,_,_,h,_=>absurd h (Nat.not_lt_zero _)
 | n+1,l,s,e,h,hr=>by
  simp only[y8] at hr
  split at hr
  ·cases hr
  split at hr
  ·rename_i hne hg
   have h1:=zfd s
   have h2:0<s.length:=List.length_pos_iff.2 hne
   exact zcj n _ _ _ (by simp;omega) hr
  ·cases ho:yF s with
   | none=>rw[ho] at hr;cases hr;rfl
   | some x =>
    rw[ho] at hr
    have:=zb0 (show yF s=some (x.1,x.2) from ho)
    exact zcj n _ _ _ (by omega) hr
theorem zeA {s:List UInt8} {e:Int} (h:Zs s=.error e):e≠0:=by
 unfold Zs at h
 split at h
 ·cases h;decide
 split at h
 ·rw[zcj _ _ _ _ (Nat.lt_succ_self _) h];decide
 ·cases h;decide
def zmh (Out:Int→Heap→Prop):AEnd→Heap→Prop:=fun e H'=>match e with|.ret v=>∃ n:Int,v=.int .i64 n∧Out n H'|.pan _=>False
theorem res_run {ρ:Env} {H:Heap} {b4:Nat} {e:Int} (r4:ρ 4=.ptr b4 0) (h4:H b4=some (.cells [.int .i64 e])):resvs ρ H sp31.res=some [.int .i64 e]:=by
 simp(disch:=first|omega|assumption) only[sp31,resvs,resv,r4,h4,go_sem]
theorem zmO {s:List UInt8} {Hc:Heap} {clo:FuncId} {caps:List AV} (hl:s.length≤YQ) (hcal:Program.callable Tryz.prog clo=true) (Out:Int→Heap→Prop)
  (h1:∀ n,Zs s=.error n→Out n Hc)
  (h2:∀ L,Zs s=.ok L→∀ r,Hc r=none→ACalls Tryz.prog clo (.ptr r 0::caps) (Hc.upd r (prc L [] 0)) (fun e H'=>match e with
   | .ret _=>∃ p t dp,p++t=L∧H' r=some (prc L p dp)∧Out (if t=[] then 0 else 2) H'
   | .pan v=>∃ n,v=ye n∧∀ H,Out n H)) :
  ACalls Tryz.prog 31 [.str s,.clo clo [] caps] Hc (zmh Out):=by
 refine ACalls.of_sp sp31 ckS31 (Al4 _) ?_
 unfold awpD
 refine zac fun KP Q hKP hQ=>?_
 simp(disch:=first|omega|assumption) only[sp31,go_sem]
 refine goA_intro fun b4 hb4=>?_
 simp(disch:=first|omega|assumption) only[go_sem]
 refine hQ _ _ _ (zac fun KP1 Q1 hKP1 hQ1=>?_)
 simp(disch:=first|omega|assumption) only[sp31,go_sem]
 refine goK_pure (Pure.low (zg3 s hl)) ?_
 cases hR:Zs s with
 | error n =>
  have hn:¬ (n=0):=zeA hR
  simp(disch:=first|omega|assumption) only[readA,go_sem]
  refine hQ1 _ _ _ (zac fun KP2 Q2 hKP2 hQ2=>?_)
  simp(disch:=first|omega|assumption) only[sp31,hn,go_sem]
  refine hQ2 _ _ _ ?_
  show finQ sp31.res (zmh Out) .ret _ _
  simp only[finQ]
  rw[res_run (b4:=b4) (e:=n) rfl (upd_same ..)]
  exact⟨Hc,(Low.refl _).upd hb4,n,rfl,h1 n hR⟩
 | ok L =>
  simp(disch:=first|omega|assumption) only[readA,go_sem]
  refine hQ1 _ _ _ (zac fun KP2 Q2 hKP2 hQ2=>?_)
  simp(disch:=first|omega|assumption) only[sp31,go_sem]
  refine hQ2 _ _ _ (zb8 fun Q3 hQ3=>?_)
  simp(disch:=first|omega|assumption) only[sp31,go_sem]
  refine hQ3 _ _ ⟨74,_,rfl,by decide +kernel,zac fun KP4 Q4 hKP4 hQ4=>?_⟩
  have fin:∀(ρ1:Env) (H H2:Heap) (e:Int),ρ1 4=.ptr b4 0→H b4=some (.cells [.int .i64 e])→Low H2 H→Out e H2→finS sp31 (zmh Out) ρ1 H:=by
   intro ρ1 H H2 e r4 g4 hlow ho
   refine⟨_,res_run (b4:=b4) (e:=e) ?_ g4,H2,hlow,e,rfl,ho⟩
   rw[keep_get,if_pos (by decide)];exact r4
  have hpan:∀(n:Int) (H0 H':Heap) (c4:List AV),Low H0 H'→H0 b4=some (.cells c4)→c4.length=1→(∀ H,Out n H)→KP4 (ye n) H':=by
   intro n H0 H' c4 hlow g4 l4 ho
   exact hKP4 _ _ ⟨H0,hlow,zli g4 l4 fun b x hb=>fin _ _ Heap.emp n rfl (upd_same ..) (Low.of_sub (sub_emp _)) (ho _)⟩
  simp(disch:=first|omega|assumption) only[sp31,go_sem]
  refine goA_intro fun br hbr=>?_
  have hbr4:br≠b4:=fun e=>by subst e;rw[upd_same] at hbr;cases hbr
  have hbrH:Hc br=none:=by rw[upd_ne hbr4] at hbr;exact hbr
  simp(disch:=first|omega|assumption) only[hcal,go_sem]
  obtain⟨x4,hx4⟩:∃ x4:AObj,x4=.cells [.int .i64 0]:=⟨_,rfl⟩
  have hun:(Hc.upd b4 (.cells [.int .i64 0])).upd br (.cells [.sl .no 2 (cKs L),.int .i64 0,.int .i64 0])=Heap.union (Hc.upd br (prc L [] 0)) (Heap.one b4 x4):=by
   funext c
   by_cases e1:c=br
   ·subst e1;rw[upd_same];simp[Heap.union,Heap.upd,prc]
   ·rw[upd_ne e1]
    by_cases e2:c=b4
    ·subst e2;rw[upd_same];simp[Heap.union,Heap.upd,Heap.one,e1,hb4,hx4]
    ·rw[upd_ne e2];simp[Heap.union,Heap.upd,Heap.one,e1,e2]
  have hd:Heap.Disj (Hc.upd br (prc L [] 0)) (Heap.one b4 x4):=fun c=>by
   by_cases e:c=b4
   ·subst e;exact .inl (by rw[upd_ne (Ne.symm hbr4)];exact hb4)
   ·exact .inr (by simp[Heap.one,e])
  have hc:=ACalls.frame hd (h2 L hR br hbrH)
  rw[hun]
  refine goK_calls hc fun e H' ⟨A',hq,hd',hH'⟩=>?_
  subst hH'
  have hB4:Heap.one b4 x4 b4=some (.cells [.int .i64 0]):=by simp[Heap.one,hx4]
  have hA4:A' b4=none:=by
   rcases hd' b4 with h|h
   ·exact h
   ·rw[hB4] at h;cases h
  have g4:Heap.union A' (Heap.one b4 x4) b4=some (.cells [.int .i64 0]):=by simp[Heap.union,hA4,hB4]
  cases e with
  | pan v =>
   obtain⟨n,hv,ho⟩:=hq
   subst hv
   exact hpan n (Heap.one b4 x4) _ _ (Low.of_sub fun c x hc=>by
    rcases hd' c with h|h
    ·simp[Heap.union,h,hc]
    ·rw[hc] at h;cases h) hB4 rfl ho
  | ret v =>
   obtain⟨p,t,dp,hp,hr,ho⟩:=hq
   have gr:Heap.union A' (Heap.one b4 x4) br=some (prc L p dp):=by simp[Heap.union,hr]
   have lowA:∀ b x (Hx:Heap),(∀ c y,A' c=some y→Hx c=some y)→Hx b=none→Low A' ((Hx.upd b x).upd b4 (.cells [.int .i64 0]))∧Low A' ((Hx.upd b x).upd b4 (.cells [.int .i64 2])):=fun b x Hx hs hb=>by
    have sub:∀ z,∀ c y,A' c=some y→((Hx.upd b x).upd b4 z) c=some y:=fun z c y hcy=>by
     rw[upd_ne (fun e=>by rw[e,hA4] at hcy;cases hcy),upd_ne (fun e=>by rw[← e,hs _ _ hcy] at hb;cases hb)]
     exact hs _ _ hcy
    exact⟨Low.of_sub (sub _),Low.of_sub (sub _)⟩
   have subU:∀ c y,A' c=some y→Heap.union A' (Heap.one b4 x4) c=some y:=fun c y hc=>by simp[Heap.union,hc]
   show goR _ _ _ _ _ _ _ _ _
   simp(disch:=first|omega|assumption) only[go_sem]
   refine goK_ret (zja hp gr) fun v5 H5 ⟨hv5,hH5⟩=>?_
   subst hv5;subst hH5
   cases t with
   | nil =>
    simp only[if_true] at ho
    simp(disch:=first|omega|assumption) only[g4,go_sem]
    refine hQ4 _ _ _ ⟨_,Low.refl _,zmU fun b y hb=>?_⟩
    have n4:b4≠b:=fun e=>by subst e;rw[upd_same] at hb;cases hb
    refine fin _ _ A' 0 rfl (by rw[upd_ne n4,upd_same]) ?_ ho
    refine Low.of_sub fun c z hcz=>?_
    have hc4:c≠b4:=fun e=>by rw[e,hA4] at hcz;cases hcz
    have hcb:c≠b:=fun e=>by rw[← e,upd_ne hc4,subU _ _ hcz] at hb;cases hb
    rw[upd_ne hcb,upd_ne hc4];exact subU _ _ hcz
   | cons a u =>
    rw[if_neg (by simp)] at ho
    simp(disch:=first|omega|assumption) only[go_sem]
    exact goK_both (zlS _ br 2) (fun _ _ h=>h.elim) fun v H6 ⟨h6,h7⟩=>by
     subst h6;subst h7
     exact hKP4 _ _ ⟨_,Low.refl _,zli g4 rfl fun b y hb=>fin _ _ A' 2 rfl (upd_same ..) (lowA b y _ subU hb).2 ho⟩
def Zt {α:Type} (f:TS→PR α):Prop:=∀ t n,f t=.error n→n≠0
theorem zo {α β:Type} {x:PR α} {f:α→TS→PR β} {e:Int} (h:pb x f=.error e) (hx:∀ n,x=.error n→n≠0) (hf:∀ a t,x=.ok (a,t)→f a t=.error e→e≠0):e≠0:=by
 rcases x with n|⟨a,t⟩
 ·cases h;exact hx _ rfl
 ·exact hf a t rfl h
theorem yw (m:List UInt8):Zt (yt m):=fun t n h=>by
 unfold yt at h
 split at h
 ·cases h
 ·cases h;decide
theorem z6:Zt z7:=fun t n h=>by
 unfold z7 at h
 split at h
 ·cases h
 ·cases h;decide
theorem zdt (ty:TyD):Zt (zaC ty):=fun t n h=>by
 unfold zaC at h
 split at h<;>cases h
theorem zbR {α:Type} {m:List UInt8} {f:TS→PR α} (hf:Zt f) (hl:∀ t a t',f t=.ok (a,t')→t'.length<t.length):∀(n:Nat) (l:List α) (t:TS) (e:Int),t.length<n→zJ m f n l t=.error e→e≠0
 | 0,_,_,_,h,_=>absurd h (Nat.not_lt_zero _)
 | n+1,l,t,e,hn,h=>by
  rw[zJ] at h
  split at h
  ·cases h
  ·exact zo h (fun k hk=>hf _ _ hk) fun a t' ha h'=>zbR hf hl n _ _ _ (by have:=hl _ _ _ ha;omega) h'
theorem YW {α:Type} {m:List UInt8} {f:TS→PR α} (hf:Zt f) (hl:∀ t a t',f t=.ok (a,t')→t'.length<t.length):Zt (yx m f):=fun t n h =>
 zo h (fun k hk=>hf _ _ hk) fun a t' ha h'=>zbR hf hl _ _ _ _ (Nat.lt_succ_self _) h'
theorem zb3 {α:Type} {m:List UInt8} {f:TS→PR α} (hf:Zt f) (hl:∀ t a t',f t=.ok (a,t')→t'.length<t.length):∀(n:Nat) (l:List α) (t:TS) (e:Int),t.length<n→yq m f n l t=.error e→e≠0
 | 0,_,_,_,h,_=>absurd h (Nat.not_lt_zero _)
 | n+1,l,t,e,hn,h=>by
  rw[yq] at h
  split at h
  ·rename_i hp
   have hlt:=zcK hp
   exact zo h (fun k hk=>hf _ _ hk) fun a t' ha h'=>zb3 hf hl n _ _ _ (by have:=hl _ _ _ ha;omega) h'
  ·cases h
theorem zfq:∀ k,Zt (Y4 k)
 | 0=>fun t n h=>by
  rw[Z2,zcF.eq_def] at h
  split at h
  ·cases h;decide
  ·exact zo h (fun k hk=>z6 _ _ hk) fun s t1 _ h'=>zdt _ _ _ h'
 | k+1=>fun t n h=>by
  rw[Z2,zcF.eq_def] at h
  split at h
  ·exact zo h (fun e he=>zfq k _ _ he) fun ty t1 _ h'=>zo h' (fun e he=>yw _ _ _ he) fun _ t2 _ h''=>zdt _ _ _ h''
  ·exact zo h (fun k hk=>z6 _ _ hk) fun s t1 _ h'=>zdt _ _ _ h'
theorem zdr {f:TS→PR Val} (hf:Zt f):Zt (zP f):=fun t n h =>
 zo h (fun e he=>z6 _ _ he) fun s t1 _ h'=>zo h' (fun e he=>yw _ _ _ he) fun _ t2 _ h2=>zo h2 (fun e he=>hf _ _ he) fun x t3 _ h3=>by cases h3
theorem zhZ {fixed:Bool} {sub:Option (TS→PR Val)} (hs:∀ f,sub=some f→Zt f∧GP bV wfV 1 f):Zt (Z3 fixed sub):=fun t n h=>by
 rw[Z3.eq_def] at h
 split at h
 ·cases h
 split at h
 ·cases h
 split at h
 ·cases h
 split at h
 ·cases sub with
  | none=>cases h;decide
  | some f =>
   obtain⟨h1,h2⟩:=hs f rfl
   exact zo h (fun e he=>zbR h1 (h2.lt (by decide)) _ _ _ _ (Nat.lt_succ_self _) he) fun l t' _ h'=>by cases h'
 split at h
 ·cases sub with
  | none=>cases h;decide
  | some f =>
   obtain⟨h1,h2⟩:=hs f rfl
   exact zo h (fun e he=>zbR (zdr h1) ((yQ h2).lt (by decide)) _ _ _ _ (Nat.lt_succ_self _) he) fun l t' _ h'=>by cases h'
 split at h
 ·cases h;decide
 ·exact zo h (fun e he=>yw _ _ _ he) fun _ t1 _ h1=>zo h1 (fun e he=>z6 _ _ he) fun s t2 _ h2=>by cases h2
theorem zfk (fixed:Bool):∀ k,Zt (yA fixed k)
 | 0=>fun t n h=>zhZ (sub:=none) (fun f hf=>by cases hf) t n (by rw[zY] at h;exact h)
 | k+1=>fun t n h=>zhZ (sub:=some (yA fixed k)) (fun f hf=>by cases hf;exact⟨zfk fixed k,Zn fixed k⟩) t n (by rw[zY] at h;exact h)
theorem zjH (fixed:Bool) (k:Nat):Zt (YH fixed k):=fun t n h=>by
 unfold YH at h
 split at h
 ·exact YW (zdr (zfk fixed k)) ((yQ (Zn fixed k)).lt (by decide)) _ _ h
 ·cases h
theorem zkS (fixed:Bool) (k:Nat):Zt (zcB fixed k):=fun t n h =>
 zo h (fun e he=>z6 _ _ he) fun s t1 _ h1=>zo h1 (fun e he=>zjH _ _ _ _ he) fun a t2 _ h2=>by cases h2
theorem zi4 (fixed:Bool) (k:Nat):Zt (zaK fixed k):=fun t n h =>
 zb3 (zkS fixed k) ((zdG fixed k).lt (by decide)) _ _ _ _ (Nat.lt_succ_self _) h
theorem zjI (p:List UInt8→Bool):∀ l:List (List UInt8),wL (l.dropWhile p)≤wL l
 | []=>Al4 _
 | x::r=>by
  rw[List.dropWhile_cons]
  split
  ·have:=zjI p r;rw[Zo];omega
  ·exact Al4 _
theorem zj1 (l:List (List UInt8)):wL l.reverse=wL l:=by
 induction l with
 | nil=>rfl
 | cons x r ih=>rw[List.reverse_cons,zha,ih,Zo,Zo];simp[wL];omega
theorem zg0 (raw:List UInt8):(yv raw).length≤raw.length+1:=by
 have h1:=za2 raw []
 have h2:wL (zbe (zv raw))≤wL (zv raw):=by
  cases hx:zv raw with
  | nil=>exact Al4 _
  | cons x r =>
   simp only[zbe]
   rw[Zo,Zo]
   have:=zfx (indM (x::r)).toNat r
   omega
 unfold yv zbD
 have h3:=zcN ((((zbe (zv raw)).dropWhile zU).reverse.dropWhile zU).reverse)
 rw[zj1] at h3
 have h4:=zjI zU ((zbe (zv raw)).dropWhile zU).reverse
 rw[zj1] at h4
 have h5:=zjI zU (zbe (zv raw))
 have h6:wL (zv raw)≤raw.length+1:=by simpa[wL,zv] using h1
 omega
theorem zme {s t:List UInt8} {x:Tok} (h:yF s=some (x,t)):x.s.length+t.length≤s.length+1:=by
 cases s with
 | nil=>cases h
 | cons c r =>
  rw[zeB] at h
  split at h
  ·cases hr:Zf (r.length+1) [] (r.drop 2) with
   | none=>rw[hr] at h;cases h
   | some y =>
    rw[hr] at h
    simp only[z8,Al1,Al8] at h
    obtain⟨rfl,rfl⟩:=h
    have h1:=(zcW _ _ _ _ _ (show Zf _ _ _=some (y.1,y.2) from hr)).1
    have h2:=zg0 y.1
    simp at h1 ⊢
    omega
  split at h
  ·cases hr:Yd yi r with
   | none=>rw[hr] at h;cases h
   | some y =>
    rw[hr] at h
    simp only[z8,Al1,Al8] at h
    obtain⟨rfl,rfl⟩:=h
    have h1:=zlZ (show Yd yi r=some (y.1,y.2) from hr)
    simp only[Al2]
    omega
  split at h
  ·rename_i hp
   have hl:=Zb _ _ hp
   have hd3:Za.length=3:=rfl
   rw[hd3] at hl
   cases h;simp[hd3] at hl ⊢;omega
  split at h
  ·cases h;simp;omega
  split at h
  ·cases h;simp;omega
  split at h
  ·cases h
  split at h
  ·cases h
  ·cases h;simp;omega
theorem zfl:∀(n:Nat) (l:List Tok) (s:List UInt8) (l':List Tok),y8 n l s=.ok l'→wT l'≤wT l+6*s.length
 | 0,_,_,_,h=>by cases h
 | n+1,l,s,l',h=>by
  simp only[y8] at h
  split at h
  ·cases h;omega
  split at h
  ·have:=zfl n _ _ _ h
   simp at this;omega
  ·cases ho:yF s with
   | none=>rw[ho] at h;cases h
   | some x =>
    rw[ho] at h
    have h1:=zb0 (show yF s=some (x.1,x.2) from ho)
    have h2:=zme (show yF s=some (x.1,x.2) from ho)
    have h3:=zfl n _ _ _ h
    have h4:wT (l++[x.1])=wT l+wK x.1:=by simp[wT]
    rw[h4,wK] at h3
    omega
theorem zk4 {s:List UInt8} {L:List Tok} (h:Zs s=.ok L):wT L≤zG:=by
 obtain⟨h1,_,h3⟩:=zi8 h
 have h4:=zfl _ _ _ _ h3
 have e:wT ([]:List Tok)=0:=rfl
 rw[e] at h4
 simp only[zG];omega
theorem zl1 {b4 b6:Nat} {x y:AObj} (h:b6≠b4):(Heap.emp.upd b4 x).upd b6 y=Heap.union (Heap.one b6 y) (Heap.one b4 x):=by
 funext c
 by_cases e1:c=b6
 ·subst e1;simp[Heap.union,Heap.upd,Heap.one]
 ·by_cases e2:c=b4
  ·subst e2;simp[Heap.union,Heap.upd,Heap.one,e1]
  ·simp[Heap.union,Heap.upd,Heap.one,e1,e2,Heap.emp]
theorem zkT {b4 b6:Nat} {x y:AObj} (h:b6≠b4):Heap.Disj (Heap.one b6 y) (Heap.one b4 x):=fun c=>by
 by_cases e:c=b4
 ·subst e;exact .inl (by simp[Heap.one,Ne.symm h])
 ·exact .inr (by simp[Heap.one,e])
theorem zmx {A:Heap} {b4:Nat} {x:AObj} (h:Heap.Disj A (Heap.one b4 x)):Heap.union A (Heap.one b4 x) b4=some x:=by
 have hB:Heap.one b4 x b4=some x:=by simp[Heap.one]
 rcases h b4 with h|h
 ·simp[Heap.union,h,hB]
 ·rw[hB] at h;cases h
theorem znb {A B:Heap} {b:Nat} {x:AObj} (h:A b=some x):Heap.union A B b=some x:=by simp[Heap.union,h]
end Go.Proofs.YtaielcdfcgpbiaaGreatDoor

namespace Go.Proofs.YtaielcdfcgpbiaaGreatDoor
open Go.Ab
theorem ziJ (a b:List DirD) (ha:bDs a≤Lim):Pure Tryz.prog 109 [.sl .no 2 (cDs a),.sl .no 2 (cDs b)] (.bool (eqd a b)):=by
 refine Pure.go ir109 ck109 (Al4 _) fun KP Q hQ=>?_
 have h1:=zbO a
 have h2:=zbO b
 have hla:=zeW a
 simp only[Lim] at ha
 by_cases hl:a.length=b.length
 case neg =>
  have hl':¬ ((a.length:Int)=b.length):=by omega
  have hne:a≠b:=fun e=>hl (by rw[e])
  simp(disch:=first|omega|assumption) only[ir109,h1,h2,hl',go_sem]
  exact hQ _ _ _ _ nofun rfl (by simp[tupOf,envOf,AV.strip,AV.strip1,zl hne])
 have hl':((a.length:Int)=b.length)=True:=eq_true (by omega)
 simp(disch:=first|omega|assumption) only[ir109,h1,h2,hl',go_sem]
 refine goL_range a 5 (fun _:Unit=>[]) (fun done rest n H=>b.take done.length=done) () (by simp(disch:=first|omega|assumption) only[go_sem]) rfl ?_ ?_
 ·rintro n H J hp hlt
  simp(disch:=first|omega|assumption) only[h1,hlt,go_sem]
  exact hQ _ _ _ _ nofun rfl (by simp[tupOf,envOf,AV.strip,AV.strip1,zQ (zbU hl hp)])
 ·rintro done x rest n H J hd hlt _ hp hJ
  obtain⟨y,r,hb⟩:=zbX hd hl hp
  have g1:=zcR hd
  have g2:=zcR hb
  have hlt2:(done.length:Int)<b.length:=by omega
  have hbm:=zfc done x rest
  rw[← hd] at hbm
  have hst:=zaz hb
  have hne:x≠y→a≠b:=zcX hd hb
  obtain⟨s,v⟩:=x
  obtain⟨t,u⟩:=y
  simp only[bD] at hbm
  by_cases hs:s=t
  case neg =>
   have hne2:=hne (by simp[hs])
   simp(disch:=first|omega|assumption) only[h1,h2,hlt,hlt2,g1,g2,hs,cD,go_sem]
   exact hQ _ _ _ _ nofun rfl (by simp[tupOf,envOf,AV.strip,AV.strip1,zl hne2])
  simp(disch:=first|omega|assumption) only[h1,h2,hlt,hlt2,g1,g2,hs,cD,go_sem]
  refine goK_pure (zj4 v u (by simp only[Lim];omega)) ?_
  by_cases hv:v=u
  ·simp(disch:=first|omega|assumption) only[zQ hv,go_sem]
   exact goJ (hJ () _ (by rw[hs,hv];exact hst)) (by simp(disch:=first|omega|assumption) only[wrap64,go_sem])
  ·have:=hne (by simp[hv])
   simp(disch:=first|omega|assumption) only[zl hv,go_sem]
   exact hQ _ _ _ _ nofun rfl (by simp[tupOf,envOf,AV.strip,AV.strip1,zl this])
theorem zfD {P:Tok→Prop} {a b:Tok} {l:List Tok} (ha:P a) (hb:P b) (hl:∀ x∈l,P x):∀ x∈a::(l++[b]),P x:=fun x hx=>by
 rcases List.mem_cons.1 hx with rfl|hx
 ·exact ha
 rcases List.mem_append.1 hx with hx|hx
 ·exact hl x hx
 ·rw[List.mem_singleton] at hx;subst hx;exact hb
mutual
theorem zfb:∀ v:Val,zal zq v=true→wfV v→∀ x∈zF v,zi x=true
 | .mk k n s l m,h,hw=>by
  simp only[zal] at h
  simp only[zF]
  have rm:∀ c:UInt8,zdO [c]=true→zi ⟨1,[c]⟩=true:=fun c hc=>by simp[zi,hc]
  have rw2:∀ s:List UInt8,zq s=true→zi ⟨2,s⟩=true:=fun s hs=>by simp[zi,hs]
  by_cases k6:k=6
  ·subst k6
   simp only[if_true,Al0] at h
   simp only[show ¬ ((6:Int)=0) by decide,show ¬ ((6:Int)=1) by decide,show ¬ ((6:Int)=2) by decide,show ¬ ((6:Int)=3) by decide,show ¬ ((6:Int)=4) by decide,show ¬ ((6:Int)=5) by decide,show ¬ ((6:Int)=8) by decide,if_true,if_false]
   exact zfD (P:=fun x=>zi x=true) (rm 91 (by decide)) (rm 93 (by decide)) (zgg l h.1 hw.2.1)
  by_cases k7:k=7
  ·subst k7
   simp only[show ¬ ((7:Int)=6) by decide,if_true,if_false,Al0] at h
   simp only[show ¬ ((7:Int)=0) by decide,show ¬ ((7:Int)=1) by decide,show ¬ ((7:Int)=2) by decide,show ¬ ((7:Int)=3) by decide,show ¬ ((7:Int)=4) by decide,show ¬ ((7:Int)=5) by decide,show ¬ ((7:Int)=8) by decide,show ¬ ((7:Int)=6) by decide,if_false]
   exact zfD (P:=fun x=>zi x=true) (rm 123 (by decide)) (rm 125 (by decide)) (zgc m h.1 hw.2.2)
  rw[if_neg k6,if_neg k7] at h
  simp only[zX,Al0] at h
  obtain⟨_,h⟩:=h
  by_cases k0:k=0
  ·rw[if_pos k0]
   intro x hx;rw[List.mem_singleton] at hx;subst hx;exact rw2 _ (by decide)
  rw[if_neg k0] at h ⊢
  by_cases k1:k=1
  ·rw[if_pos k1]
   intro x hx;rw[List.mem_singleton] at hx;subst hx
   cases decide (n=1)<;>exact rw2 _ (by decide)
  rw[if_neg k1] at h ⊢
  by_cases k2:k=2
  ·rw[if_pos k2]
   intro x hx;rw[List.mem_singleton] at hx;subst hx
   have h1:=(zdE hw.1).1
   unfold Zd at h1
   simp only[Al0,zn] at h1
   simp[zi,h1.2]
  rw[if_neg k2] at h ⊢
  by_cases k3:k=3
  ·rw[if_pos k3] at h ⊢
   intro x hx;rw[List.mem_singleton] at hx;subst hx
   simp only[zd0,Al0,YU,zn] at h
   rcases h.2 with h4|h4
   ·simp[zi,h4]
   ·simp[zi,h4.1]
  rw[if_neg k3] at h ⊢
  by_cases k4:k=4
  ·rw[if_pos k4] at h ⊢
   intro x hx;rw[List.mem_singleton] at hx;subst hx
   simp only[Al0] at h
   simp[zi,h.2]
  rw[if_neg k4] at h ⊢
  by_cases k5:k=5
  ·rw[if_pos k5] at h ⊢
   intro x hx;rw[List.mem_singleton] at hx;subst hx
   simp only[Al0] at h
   exact rw2 _ h.2.1
  rw[if_neg k5] at h ⊢
  by_cases k8:k=8
  ·rw[if_pos k8] at h ⊢
   simp only[Al0] at h
   intro x hx
   rcases List.mem_cons.1 hx with rfl|hx
   ·exact rm 36 (by decide)
   ·rw[List.mem_singleton] at hx;subst hx;exact rw2 _ h.2
  ·rw[if_neg k8] at h;cases h
theorem zgg:∀ l:List Val,zat zq l=true→zfn l→∀ x∈Zl l,zi x=true
 | [],_,_=>fun x hx=>by cases hx
 | v::r,h,hw=>fun x hx=>by
  simp only[zat,Al0] at h
  rcases List.mem_append.1 hx with hx|hx
  ·exact zfb v h.1 hw.1 x hx
  ·exact zgg r h.2 hw.2 x hx
theorem zkM:∀ v:Mem,ziu zq v=true→wfM v→∀ x∈Yq v,zi x=true
 | .mk s v,h,hw=>fun x hx=>by
  simp only[ziu,Al0] at h
  simp only[Yq] at hx
  rcases List.mem_cons.1 hx with rfl|hx
  ·simp[zi,h.1]
  rcases List.mem_cons.1 hx with rfl|hx
  ·have:zdO [58]=true:=by decide
   simp[zi,this]
  ·exact zfb v h.2 hw x hx
theorem zgc:∀ l:List Mem,zaq zq l=true→zaF l→∀ x∈yh l,zi x=true
 | [],_,_=>fun x hx=>by cases hx
 | v::r,h,hw=>fun x hx=>by
  simp only[zaq,Al0] at h
  rcases List.mem_append.1 hx with hx|hx
  ·exact zkM v h.1 hw.1 x hx
  ·exact zgc r h.2 hw.2 x hx
end
open Go.Lib
end Go.Proofs.YtaielcdfcgpbiaaGreatDoor
namespace Go.Proofs.YtaielcdfcgpbiaaGreatDoor
open Go.Ab
def lD (x:DirD):Nat:=2+x.nm.length+bMs x.args
def lDs (l:List DirD):Nat:=(l.map lD).sum
mutual
def lS:SelD→Nat
 | .mk _ al nm args dirs on sels=>2+nm.length+al.length+on.length+bMs args+lDs dirs+lSs sels
def lSs:List SelD→Nat
 | []=>0
 | x::r=>lS x+lSs r
end
def lW (x:VarD):Nat:=1+bV x.d+x.nm.length
def lWs (l:List VarD):Nat:=(l.map lW).sum
def lF (x:FragD):Nat:=1+lDs x.dirs+lSs x.sels+x.nm.length
theorem zdU {α:Type} {f g:α→Nat} {c:Nat} (h:∀ x,f x≤c*g x):∀ l:List α,(l.map f).sum≤c*(l.map g).sum
 | []=>Nat.zero_le _
 | x::r=>by have:=zdU h r;have:=h x;simp only[List.map_cons,List.sum_cons,Nat.mul_add];omega
theorem ze0 (l:List DirD):lDs l≤2*bDs l:=zdU (fun x=>by simp only[lD,bD];omega) l
theorem zcn (l:List VarD):lWs l≤2*bWs l:=zdU (fun x=>by have:=zan x.d;simp only[lW,bW];omega) l
theorem kMk:zi (pk [40])=true∧zi (pk [41])=true∧zi (pk [64])=true∧zi (pk [58])=true∧zi (pk [123])=true∧zi (pk [125])=true∧zi (pk [46,46,46])=true∧zi (pk [36])=true∧zi (pk [61])=true∧zi (pk [91])=true∧zi (pk [93])=true∧zi (pk [33])=true:=by decide +kernel
theorem kNm (s:List UInt8):zi (wk s)=zq s:=rfl
theorem zgf (v:Val) (h:pl v) (hw:wfV v):(zF v).all zi=true:=yD.2 (zfb v h hw)
theorem zdv {dp:Int} {fixed:Bool} {v:Val} (h:zI dp fixed v=true):pl v:=by
 simp only[zI,ZQ,Al0] at h
 exact h.1.1
theorem zeh {dp:Int} {fixed:Bool}:∀ l:List Mem,Yw dp fixed l=true→zaF l→(yh l).all zi=true
 | [],_,_=>rfl
 | .mk s v::l,h,hw=>by
  simp only[Yw,List.all_cons,Al0,zcG] at h
  have e:yh (.mk s v::l)=wk s::pk [58]::(zF v++yh l):=by simp[yh,Yq,wk,pk]
  rw[e]
  simp only[List.all_cons,List.all_append,Al0,kNm]
  exact⟨h.1.1,kMk.2.2.2.1,zgf v (zdv h.1.2) hw.1,zeh (dp:=dp) (fixed:=fixed) l h.2 hw.2⟩
theorem zin {dp:Int} {fixed:Bool} (l:List Mem) (h:Yw dp fixed l=true) (hw:zaF l):(Yy l).all zi=true:=by
 unfold Yy
 split
 ·rfl
 ·simp only[List.all_cons,List.all_append,Al0,List.all_nil,and_true]
  exact⟨kMk.1,zeh l h hw,kMk.2.1⟩
theorem zk1 {dp:Int} {fixed:Bool} (l:List DirD) (h:Yr dp fixed l=true) (hw:zg9 l):(tDs l).all zi=true:=by
 refine yD.2 fun x hx=>?_
 obtain⟨d,hd,hx⟩:=List.mem_flatMap.1 hx
 have h1:=yD.1 h d hd
 simp only[zaN,Al0] at h1
 have:(tD d).all zi=true:=by
  simp only[tD,List.all_cons,Al0,kNm]
  exact⟨kMk.2.2.1,h1.1,zin d.args h1.2 (hw d hd)⟩
 exact yD.1 this x hx
theorem zjD (n:Nat) (m:Int):∀ k,(zaf n m k).all zi=true:=by
 have hp:∀ i,(zaJ n m i).all zi=true:=fun i=>by
  unfold zaJ
  by_cases h1:i<n<;>cases h2:zam m i<;>simp[h1,kMk]
 intro k
 induction k with
 | zero=>exact hp 0
 | succ k ih=>rw[zaf,List.all_append,hp,ih];rfl
theorem zhA (t:TyD) (h:zM t=true):(tTy t).all zi=true:=by
 simp only[zM,Al0] at h
 simp only[tTy,List.all_append,List.all_cons,Al0,kNm]
 refine⟨yD.2 fun x hx=>?_,h.1,zjD _ _ _⟩
 rw[List.eq_of_mem_replicate hx]
 exact kMk.2.2.2.2.2.2.2.2.2.1
theorem zlC (x:VarD) (hr:Zy x=true) (hw:wfW x):wT (tPa x)≤240*bW x:=by
 simp only[Zy,Al0] at hr
 have h1:=zka x.t hr.2.1
 have h2:=zhy x.d hw.2.2
 have h3:=zan x.d
 have h4:wT (tDf x.has x.d)≤5+wT (zF x.d):=by
  unfold tDf
  split
  ·simp only[zw,ZW,Al2,Al3];omega
  ·simp[wT]
 simp only[tPa,bW,zw,yL,ZW,Ym,Al2,Al3]
 omega
theorem zhx (l:List VarD) (hr:l.all Zy=true) (hw:∀ y∈l,wfW y):wT (l.flatMap tPa)≤240*bWs l:=Y1 _ fun y hy=>zlC y (yD.1 hr y hy) (hw y hy)
theorem zms (x:FldD) (hr:ZB x=true) (hw:wfL x):wT (tL x)≤256*bL x:=by
 simp only[ZB,Al0] at hr
 obtain⟨_,hr1,hr2,hr3⟩:=hr
 obtain⟨w1,_,_,w2⟩:=hw
 have h1:=zhx x.ps hr1 w1
 have h2:=zka x.t hr2
 have h3:=zlN x.dirs w2
 have h4:wT (tPb x.ps)≤10+wT (x.ps.flatMap tPa):=by
  unfold tPb
  split
  ·simp[wT]
  ·simp only[zw,yL,Zz,ZW,Al2,Al3];omega
 simp only[tL,bL,zw,yL,ZW,Ym,Al2,Al3]
 omega
theorem zjx (m:List UInt8) (hm:m.length=1) (l:List (List UInt8)):wT (tNs m l)≤16*bT l:=by
 cases l with
 | nil=>simp[tNs,wT]
 | cons a r =>
  have h1:wT (r.flatMap fun s=>[pk m,wk s])≤16*bT r:=Y1 _ fun s _=>by
   simp only[zw,Zz,ZW,Ym];omega
  have h2:bT (a::r)=1+a.length+bT r:=by simp[bT]
  simp only[tNs,zw,Ym]
  omega
theorem zlJ (l:List (List UInt8)):wT (l.map wk)≤16*bT l:=by
 induction l with
 | nil=>simp[wT]
 | cons a r ih =>
  have h2:bT (a::r)=1+a.length+bT r:=by simp[bT]
  simp only[List.map_cons,zw,Ym]
  omega
theorem zmQ (x:DefD) (hr:yc x=true) (hw:wfE x):wT (tE x)≤256*bE x:=by
 obtain⟨w1,w2⟩:=hw
 simp only[yc,Al0] at hr
 obtain⟨_,hr⟩:=hr
 unfold tE
 simp only[bE]
 have hf:=zjx [38] rfl x.faces
 have hp:=zjx [124] rfl x.parts
 have hq:=zlJ x.parts
 by_cases k1:x.k=1∨x.k=2
 ·rw[if_pos k1] at hr ⊢
  simp only[Al0] at hr
  have h1:wT (x.flds.flatMap tL)≤256*bLs x.flds:=Y1 _ fun y hy=>zms y (yD.1 hr.2.1 y hy) (w1 y hy)
  have h2:wT (if x.faces.length=0 then ([]:List Tok) else wk [105,109,112,108,101,109,101,110,116,115]::tNs [38] x.faces)≤14+wT (tNs [38] x.faces):=by
   split
   ·simp[wT]
   ·simp only[zw,Ym,Al2,Al3];omega
  have h3:(if x.k=1 then [116,121,112,101] else [105,110,116,101,114,102,97,99,101]:List UInt8).length≤9:=by split<;>decide
  simp only[zw,yL,Zz,ZW,Ym,Al2,Al3]
  omega
 rw[if_neg k1] at hr ⊢
 by_cases k3:x.k=3
 ·rw[if_pos k3]
  simp only[zw,ZW,Ym,Al2,Al3]
  omega
 rw[if_neg k3] at hr ⊢
 by_cases k4:x.k=4
 ·rw[if_pos k4]
  simp only[zw,yL,Zz,ZW,Ym,Al2,Al3]
  omega
 rw[if_neg k4] at hr ⊢
 by_cases k5:x.k=5
 ·rw[if_pos k5] at hr
  simp only[Al0] at hr
  have h1:=zhx x.ps hr.1 w2
  simp only[zw,yL,Zz,ZW,Ym,Al2,Al3]
  omega
 ·rw[if_neg k5] at hr;cases hr
theorem zkJ (s:SchD) (hr:yz s=true) (hw:zbW s):wT (YT s)≤256*Yp s+64:=by
 simp only[yz,Al0] at hr
 have h1:wT (s.defs.flatMap tE)≤256*bEs s.defs:=Y1 _ fun y hy=>zmQ y (yD.1 hr.1 y hy) (hw y hy)
 have h2:wT (if s.m=[] then ([]:List Tok) else [wk [109,117,116,97,116,105,111,110],pk [58],wk s.m])≤21+s.m.length:=by
  split
  ·simp[wT]
  ·simp only[zw,Zz,ZW,Ym,Al2,Al3];omega
 simp only[YT,tRt,Yp,zw,yL,Zz,ZW,Ym,Al2,Al3]
 omega
theorem zaH {α:Type} {f:α→List Tok} (l:List α) (h:∀ y∈l,(f y).all zi=true):(l.flatMap f).all zi=true:=by
 refine yD.2 fun x hx=>?_
 obtain⟨y,hm,hx⟩:=List.mem_flatMap.1 hx
 exact yD.1 (h y hm) x hx
theorem zhR (x:VarD) (h:Zy x=true) (hw:wfW x):(tPa x).all zi=true:=by
 simp only[Zy,Al0] at h
 simp only[tPa,List.all_cons,List.all_append,Al0,kNm]
 refine⟨h.1,kMk.2.2.2.1,zhA _ h.2.1,?_⟩
 unfold tDf
 split
 ·rename_i hh
  have h2:=h.2.2
  rw[zcI,if_pos hh] at h2
  simp only[List.all_cons,Al0]
  exact⟨kMk.2.2.2.2.2.2.2.2.1,zgf _ (zdv h2) hw.2.2⟩
 ·rfl
theorem zma (x:FldD) (h:ZB x=true) (hw:wfL x):(tL x).all zi=true:=by
 simp only[ZB,Al0] at h
 obtain⟨h0,h1,h2,h3⟩:=h
 obtain⟨w1,_,_,w2⟩:=hw
 simp only[tL,List.all_cons,List.all_append,Al0,kNm]
 refine⟨h0,?_,kMk.2.2.2.1,zhA _ h2,zk1 _ h3 w2⟩
 unfold tPb
 split
 ·rfl
 ·simp only[List.all_cons,List.all_append,Al0,List.all_nil,and_true]
  exact⟨kMk.1,zaH _ fun y hy=>zhR y (yD.1 h1 y hy) (w1 y hy),kMk.2.1⟩
theorem kM2:zi (pk [38])=true∧zi (pk [124])=true:=by decide +kernel
theorem zhz (m:List UInt8) (hm:zi (pk m)=true) (l:List (List UInt8)) (h:l.all zq=true):(tNs m l).all zi=true:=by
 cases l with
 | nil=>rfl
 | cons a r =>
  simp only[List.all_cons,Al0] at h
  simp only[tNs,List.all_cons,Al0,kNm]
  refine⟨h.1,zaH _ fun y hy=>?_⟩
  simp only[List.all_cons,List.all_nil,Al0,and_true,kNm]
  exact⟨hm,yD.1 h.2 y hy⟩
theorem zlH (x:DefD) (hr:yc x=true) (hw:wfE x):(tE x).all zi=true:=by
 obtain⟨w1,w2⟩:=hw
 simp only[yc,Al0] at hr
 obtain⟨hn,hr⟩:=hr
 unfold tE
 by_cases k1:x.k=1∨x.k=2
 ·rw[if_pos k1] at hr ⊢
  simp only[Al0] at hr
  simp only[List.all_cons,List.all_append,Al0,List.all_nil,and_true,kNm]
  refine⟨by split;exact zhJ;exact zhU,hn,?_,kMk.2.2.2.2.1,zaH _ fun y hy=>zma y (yD.1 hr.2.1 y hy) (w1 y hy),kMk.2.2.2.2.2.1⟩
  split
  ·rfl
  ·simp only[List.all_cons,Al0,kNm]
   exact⟨Y5,zhz _ kM2.1 _ hr.1⟩
 rw[if_neg k1] at hr ⊢
 by_cases k3:x.k=3
 ·rw[if_pos k3] at hr ⊢
  simp only[Al0] at hr
  simp only[List.all_cons,Al0,kNm]
  exact⟨zbY,hn,kMk.2.2.2.2.2.2.2.2.1,zhz _ kM2.2 _ hr.1⟩
 rw[if_neg k3] at hr ⊢
 by_cases k4:x.k=4
 ·rw[if_pos k4] at hr ⊢
  simp only[Al0] at hr
  simp only[List.all_cons,List.all_append,Al0,List.all_nil,and_true,kNm]
  refine⟨zcU,hn,kMk.2.2.2.2.1,?_,kMk.2.2.2.2.2.1⟩
  rw[List.all_map]
  exact hr.1.1
 rw[if_neg k4] at hr ⊢
 by_cases k5:x.k=5
 ·rw[if_pos k5] at hr
  simp only[Al0] at hr
  simp only[List.all_cons,List.all_append,Al0,List.all_nil,and_true,kNm]
  exact⟨zbP,hn,kMk.2.2.2.2.1,zaH _ fun y hy=>zhR y (yD.1 hr.1 y hy) (w2 y hy),kMk.2.2.2.2.2.1⟩
 ·rw[if_neg k5] at hr;cases hr
theorem zgC (s:SchD) (hr:yz s=true) (hw:zbW s):(YT s).all zi=true:=by
 simp only[yz,Al0,YU,zn] at hr
 simp only[YT,tRt,List.all_cons,List.all_append,Al0,List.all_nil,and_true,kNm]
 refine⟨⟨zci,kMk.2.2.2.2.1,zdu,kMk.2.2.2.1,hr.2.1,?_,kMk.2.2.2.2.2.1⟩,zaH _ fun y hy=>zlH y (yD.1 hr.1 y hy) (hw y hy)⟩
 split
 ·rfl
 ·rename_i hm
  simp only[List.all_cons,List.all_nil,Al0,and_true,kNm]
  exact⟨zgR,kMk.2.2.2.1,hr.2.2.resolve_left hm⟩
end Go.Proofs.YtaielcdfcgpbiaaGreatDoor
