import Derived.Shelf.Strings.IndexAnyAll
import Derived.Shelf.Small.Utf8
import Derived.Laws.RangeAny
import Derived.Laws.Runes
import Derived.WalkMore
import Derived.Shelf.RegionOpenPlain
import Derived.BigQuiet
import Derived.Test.YtaielcdfcgpbiaaGreatDoorM1
import Derived.Test.YtaielcdfcgpbiaaGreatDoorM2
import Derived.Test.YtaielcdfcgpbiaaGreatDoorM3
import Derived.Test.YtaielcdfcgpbiaaGreatDoorM4
import Derived.Test.YtaielcdfcgpbiaaGreatDoorM5
import Derived.Test.YtaielcdfcgpbiaaGreatDoorM6
import Derived.Test.YtaielcdfcgpbiaaGreatDoorM7
set_option maxRecDepth 100000
set_option linter.all false
namespace Go.Proofs.YtaielcdfcgpbiaaGreatDoor
open Go.Ab
theorem zhb (L:TS) (s:St):mS L (za L s).2≤L.length:=by
 unfold za
 split
 ·rename_i hk
  obtain⟨h0,hi⟩:=zfE (L:=L) (s:=s) (by rw[hk];decide)
  simp only[mS,stepS,h0,if_true,zU];omega
 ·simp only[mS,yc]
  split
  ·exact Nat.zero_le _
  ·rename_i h;simp[h]
theorem zlB {L:TS} {m:List UInt8} {s:St} {D:Int} (h:s.e=0→s.dp=D):(zcQ L m s).e=0→(zcQ L m s).dp=D:=by
 unfold zcQ;split
 ·exact yK h
 ·exact h
theorem zeY {L:TS} {H:Heap} {r:Nat} {s:St} {D:Int} (m:List UInt8) (hl:wT L≤zk) (hr:H r=some (poc L s)) (hd:s.e=0→s.dp=D) :
  ACalls Tryz.prog 106 [.ptr r 0,.str m] H (PQ H r L (.sl .no 1 (cT (yo L m s).1)) (yo L m s).2):=by
 refine ACalls.go ir106 ck106 (Al4 _) fun KP Q hQ=>?_
 have hll:L.length≤zk:=Nat.le_trans (Zp L) hl
 simp only[zk] at hll
 have K0:=KB.start hr
 have hs:=zep L D
 have hlt:=zH.lt (by decide)
 obtain⟨s1,hs1⟩:∃ s1,zcQ L m s=s1:=⟨_,rfl⟩
 have D1:=zlB (L:=L) (m:=m) hd
 obtain⟨R,hR⟩:∃ R,yo L m s=R:=⟨_,rfl⟩
 rw[hR] at hQ
 have fin0:=hQ
 unfold yo at hR
 rw[hs1] at hR D1
 simp(disch:=omega) only[ir106,go_sem]
 refine goK_ret (Z9 hl hr m) fun v H1 ⟨hv,hH⟩=>?_
 subst hv;subst hH
 cases hi:isS L m s with
 | true =>
  have e1:zd L m s=s1:=by rw[← hs1];simp[zcQ,hi]
  simp(disch:=omega) only[go_sem]
  refine goK_ret (zq hl hr m) fun v H2 ⟨hv,h2⟩=>?_
  subst hv
  have K2:=K0.step h2
  rw[e1] at K2
  simp(disch:=omega) only[go_sem]
  refine goK_ret (zz hl K2.here) fun v H3 ⟨hv,h3⟩=>?_
  subst hv
  have K3:=K2.step h3
  have hm1:=zhb L s1
  simp(disch:=omega) only[go_sem]
  refine goL_st (fun x:Own×List (List UInt8)×St=>[(5,.sl x.1 1 (cT x.2.1))]) (fun x H'=>KBO H1 r (poc L x.2.2) H' x.1 x.2.1.length 1∧(x.2.2.e=0→x.2.2.dp=D)∧(∃ k,mS L x.2.2<k∧yQ L m (za L) k x.2.1 x.2.2=R)∧x.2.1.length+mS L x.2.2≤L.length+1) (fun x=>mS L x.2.2) (.full,[(za L s1).1],(za L s1).2) (by simp(disch:=omega) only[cT,List.map_cons,List.map_nil,go_sem]) ⟨⟨K3,Owned.full _ _ _,nofun⟩,yg D1,⟨_,by simp only;omega,hR⟩,by simp only[List.length_singleton];omega⟩ ?_
  rintro⟨o,l,u⟩ H4 J ⟨K4,D4,⟨k,hk,hR4⟩,hlen⟩ hJ
  simp only at K4 D4 hk hR4 hlen
  obtain⟨k,rfl⟩:∃ j,k=j+1:=⟨k-1,by omega⟩
  have hcl:=zbn l
  simp(disch:=omega) only[go_sem]
  refine goK_ret (Z9 hl K4.here m) fun v H5 ⟨hv,hH⟩=>?_
  subst hv;subst hH
  cases hj:isS L m u with
  | false =>
   have e2:R=(l,u):=by rw[← hR4,yQ,hj];rfl
   rw[e2] at fin0
   have fin:=KB.done fin0
   simp(disch:=omega) only[go_sem]
   exact fin _ _ [.sl o 1 (cT l)] rfl K4.toKB (by simp[tupOf,AV.strip,AV.strip1,yE])
  | true =>
   obtain⟨h0,hui⟩:=zfE (L:=L) (s:=u) (by rw[zgT hj];decide)
   have e2:=zbi hj
   have hm:mS L (zd L m u)<mS L u:=by
    rw[e2];simp only[mS,stepS,h0,if_true,zU];omega
   obtain⟨p1,p2⟩:=zb5 hs hlt (s:=zd L m u) (by rw[e2];exact D4)
   have p1:=p1 (by rw[e2];exact h0)
   rw[yQ,hj,if_pos rfl] at hR4
   simp(disch:=omega) only[go_sem]
   refine goK_ret (zq hl K4.here m) fun v H6 ⟨hv,h6⟩=>?_
   subst hv
   have K6:=K4.step h6
   simp(disch:=omega) only[go_sem]
   refine goK_ret (zz hl K6.here) fun v H7 ⟨hv,h7⟩=>?_
   subst hv
   have K7:=K6.step h7
   simp(disch:=omega) only[go_sem]
   refine goP_ownS (by rw[hcl];exact K7.own) (by simp only[hcl,Al2,Al3];omega) (by simp only[hcl,Al2,Al3,maxLen];omega) fun o8 H8 hs8=>?_
   have K8:=K7.app (by simpa[hcl] using hs8)
   simp(disch:=omega) only[go_sem]
   refine goJ (hJ (o8,l++[(za L (zd L m u)).1],(za L (zd L m u)).2) _ (by simp only;omega) ⟨by simpa using K8,p2,⟨k,by simp only;omega,hR4⟩,by simp only[Al5,List.length_singleton];omega⟩) (by simp(disch:=omega) only[cT,List.map_append,List.map_cons,List.map_nil,go_sem])
 | false =>
  have e1:s=s1:=by rw[← hs1];simp[zcQ,hi]
  have K2:=K0
  rw[e1] at K2
  simp(disch:=omega) only[go_sem]
  refine goK_ret (zz hl K2.here) fun v H3 ⟨hv,h3⟩=>?_
  subst hv
  have K3:=K2.step h3
  have hm1:=zhb L s1
  simp(disch:=omega) only[go_sem]
  refine goL_st (fun x:Own×List (List UInt8)×St=>[(5,.sl x.1 1 (cT x.2.1))]) (fun x H'=>KBO H1 r (poc L x.2.2) H' x.1 x.2.1.length 1∧(x.2.2.e=0→x.2.2.dp=D)∧(∃ k,mS L x.2.2<k∧yQ L m (za L) k x.2.1 x.2.2=R)∧x.2.1.length+mS L x.2.2≤L.length+1) (fun x=>mS L x.2.2) (.full,[(za L s1).1],(za L s1).2) (by simp(disch:=omega) only[cT,List.map_cons,List.map_nil,go_sem]) ⟨⟨K3,Owned.full _ _ _,nofun⟩,yg D1,⟨_,by simp only;omega,hR⟩,by simp only[List.length_singleton];omega⟩ ?_
  rintro⟨o,l,u⟩ H4 J ⟨K4,D4,⟨k,hk,hR4⟩,hlen⟩ hJ
  simp only at K4 D4 hk hR4 hlen
  obtain⟨k,rfl⟩:∃ j,k=j+1:=⟨k-1,by omega⟩
  have hcl:=zbn l
  simp(disch:=omega) only[go_sem]
  refine goK_ret (Z9 hl K4.here m) fun v H5 ⟨hv,hH⟩=>?_
  subst hv;subst hH
  cases hj:isS L m u with
  | false =>
   have e2:R=(l,u):=by rw[← hR4,yQ,hj];rfl
   rw[e2] at fin0
   have fin:=KB.done fin0
   simp(disch:=omega) only[go_sem]
   exact fin _ _ [.sl o 1 (cT l)] rfl K4.toKB (by simp[tupOf,AV.strip,AV.strip1,yE])
  | true =>
   obtain⟨h0,hui⟩:=zfE (L:=L) (s:=u) (by rw[zgT hj];decide)
   have e2:=zbi hj
   have hm:mS L (zd L m u)<mS L u:=by
    rw[e2];simp only[mS,stepS,h0,if_true,zU];omega
   obtain⟨p1,p2⟩:=zb5 hs hlt (s:=zd L m u) (by rw[e2];exact D4)
   have p1:=p1 (by rw[e2];exact h0)
   rw[yQ,hj,if_pos rfl] at hR4
   simp(disch:=omega) only[go_sem]
   refine goK_ret (zq hl K4.here m) fun v H6 ⟨hv,h6⟩=>?_
   subst hv
   have K6:=K4.step h6
   simp(disch:=omega) only[go_sem]
   refine goK_ret (zz hl K6.here) fun v H7 ⟨hv,h7⟩=>?_
   subst hv
   have K7:=K6.step h7
   simp(disch:=omega) only[go_sem]
   refine goP_ownS (by rw[hcl];exact K7.own) (by simp only[hcl,Al2,Al3];omega) (by simp only[hcl,Al2,Al3,maxLen];omega) fun o8 H8 hs8=>?_
   have K8:=K7.app (by simpa[hcl] using hs8)
   simp(disch:=omega) only[go_sem]
   refine goJ (hJ (o8,l++[(za L (zd L m u)).1],(za L (zd L m u)).2) _ (by simp only;omega) ⟨by simpa using K8,p2,⟨k,by simp only;omega,hR4⟩,by simp only[Al5,List.length_singleton];omega⟩) (by simp(disch:=omega) only[cT,List.map_append,List.map_cons,List.map_nil,go_sem])
theorem zf0 {L:TS} (m:List UInt8) {s:St} {D:Int} (h:s.e=0→s.dp=D):(yo L m s).2.e=0→(yo L m s).2.dp=D:=zc9 (zbk m D) h
theorem zkP {L:TS} {H:Heap} {r:Nat} {s:St} (hl:wT L≤zk) (hn:∀ x∈L,yI x) (hr:H r=some (poc L s)) (hd:s.e=0→s.dp=16-((16:Nat):Int)) :
  ACalls Tryz.prog 47 [.ptr r 0,.str [117,110,105,111,110]] H (PQ H r L (.agg (cE (zaw L s).1)) (zaw L s).2):=by
 refine ACalls.go ir47 ck47 (Al4 _) fun KP Q hQ=>?_
 have fin:=KB.done hQ
 have w1:(([117,110,105,111,110]:List UInt8)=[116,121,112,101])=False:=eq_false (by decide)
 have w2:(([117,110,105,111,110]:List UInt8)=[105,110,116,101,114,102,97,99,101])=False:=eq_false (by decide)
 have hll:L.length≤zk:=Nat.le_trans (Zp L) hl
 simp only[zk] at hll
 have K0:=KB.start hr
 simp(disch:=omega) only[ir47,go_sem]
 refine goA_intro fun b4 hb4=>?_
 have n4:=K0.ne hb4
 simp(disch:=omega) only[go_sem]
 refine goK_ret (zz hl (K0.box hb4 _).here) fun v H1 ⟨hv,h1⟩=>?_
 subst hv
 have K1:=(K0.box hb4 _).step h1
 have g14:=oth h1 n4 (upd_same ..)
 have D1:=yg (L:=L) hd
 simp(disch:=omega) only[go_sem]
 refine goA_intro fun b5 hb5=>?_
 have h54:b5≠b4:=fun e=>by subst e;rw[g14] at hb5;cases hb5
 have hb5H:=K1.none hb5
 have n5:=K0.ne hb5H
 simp(disch:=omega) only[w1,w2,go_sem]
 refine goK_ret (zq hl (K1.box hb5H _).here _) fun v H2 ⟨hv,h2⟩=>?_
 subst hv
 have K2:=(K1.box hb5H _).step h2
 have g25:=oth h2 n5 (upd_same ..)
 have g24:=oth h2 n4 ((upd_ne (Ne.symm h54)).trans g14)
 simp(disch:=omega) only[go_sem]
 refine goK_ret (zeY [124] hl K2.here (yK D1)) fun v H3 ⟨hv,h3⟩=>?_
 subst hv
 have K3:=K2.step h3
 have g35:=oth h3 n5 g25
 have g34:=oth h3 n4 g24
 simp(disch:=omega) only[g35,g34,h54,Ne.symm h54,go_sem]
 exact fin _ _ [.agg [.int .i64 3,.str (za L s).1,.sl .nil 1 [],.sl .nil 6 [],.sl .no 1 (cT (yo L [124] (zd L [61] (za L s).2)).1),.sl .nil 10 []]] (by simp(disch:=omega) only[ir47,resvs,resv,go_sem]) ((K3.box hb5H _).box hb4 _) (by simp[tupOf,AV.strip,AV.strip1,zaw,cE,cT,cWs,cLs])
theorem zle {L:TS} {H:Heap} {r:Nat} {s:St} (hl:wT L≤zk) (hn:∀ x∈L,yI x) (hr:H r=some (poc L s)) (hd:s.e=0→s.dp=16-((16:Nat):Int)) :
  ACalls Tryz.prog 47 [.ptr r 0,.str [105,110,112,117,116]] H (PQ H r L (.agg (cE (zat L s).1)) (zat L s).2):=by
 refine ACalls.go ir47 ck47 (Al4 _) fun KP Q hQ=>?_
 have fin:=KB.done hQ
 have w1:(([105,110,112,117,116]:List UInt8)=[116,121,112,101])=False:=eq_false (by decide)
 have w2:(([105,110,112,117,116]:List UInt8)=[105,110,116,101,114,102,97,99,101])=False:=eq_false (by decide)
 have w3:(([105,110,112,117,116]:List UInt8)=[117,110,105,111,110])=False:=eq_false (by decide)
 have w4:(([105,110,112,117,116]:List UInt8)=[101,110,117,109])=False:=eq_false (by decide)
 have hll:L.length≤zk:=Nat.le_trans (Zp L) hl
 simp only[zk] at hll
 have K0:=KB.start hr
 simp(disch:=omega) only[ir47,go_sem]
 refine goA_intro fun b4 hb4=>?_
 have n4:=K0.ne hb4
 simp(disch:=omega) only[go_sem]
 refine goK_ret (zz hl (K0.box hb4 _).here) fun v H1 ⟨hv,h1⟩=>?_
 subst hv
 have K1:=(K0.box hb4 _).step h1
 have g14:=oth h1 n4 (upd_same ..)
 have D1:=yg (L:=L) hd
 simp(disch:=omega) only[go_sem]
 refine goA_intro fun b5 hb5=>?_
 have h54:b5≠b4:=fun e=>by subst e;rw[g14] at hb5;cases hb5
 have hb5H:=K1.none hb5
 have n5:=K0.ne hb5H
 simp(disch:=omega) only[w1,w2,w3,w4,go_sem]
 refine goK_ret (zq hl (K1.box hb5H _).here _) fun v H2 ⟨hv,h2⟩=>?_
 subst hv
 have K2:=(K1.box hb5H _).step h2
 have g25:=oth h2 n5 (upd_same ..)
 have g24:=oth h2 n4 ((upd_ne (Ne.symm h54)).trans g14)
 simp(disch:=omega) only[go_sem]
 refine goK_ret (zfH [125] hl hn K2.here (yK D1)) fun v H3 ⟨hv,h3⟩=>?_
 subst hv
 have K3:=K2.step h3
 have g35:=oth h3 n5 g25
 have g34:=oth h3 n4 g24
 simp(disch:=omega) only[g35,g34,h54,Ne.symm h54,go_sem]
 exact fin _ _ [.agg [.int .i64 5,.str (za L s).1,.sl .nil 1 [],.sl .nil 6 [],.sl .nil 1 [],.sl .no 10 (cWs (yU L (yz L) (za L s).2).1)]] (by simp(disch:=omega) only[ir47,resvs,resv,yU,go_sem]) ((K3.box hb5H _).box hb4 _) (by simp[tupOf,AV.strip,AV.strip1,zat,cE,cT,cWs,cLs])
theorem zlg {L:TS} {H:Heap} {r:Nat} {s:St} (hl:wT L≤zk) (hn:∀ x∈L,yI x) (hr:H r=some (poc L s)) (hd:s.e=0→s.dp=16-((16:Nat):Int)) :
  ACalls Tryz.prog 47 [.ptr r 0,.str [116,121,112,101]] H (PQ H r L (.agg (cE (YS L 1 s).1)) (YS L 1 s).2):=by
 refine ACalls.go ir47 ck47 (Al4 _) fun KP Q hQ=>?_
 have w1:(([116,121,112,101]:List UInt8)=[116,121,112,101])=True:=eq_true rfl
 have w2:(([116,121,112,101]:List UInt8)=[105,110,116,101,114,102,97,99,101])=False:=eq_false (by decide)
 have hll:L.length≤zk:=Nat.le_trans (Zp L) hl
 simp only[zk] at hll
 have K0:=KB.start hr
 simp(disch:=omega) only[ir47,go_sem]
 refine goA_intro fun b4 hb4=>?_
 have n4:=K0.ne hb4
 simp(disch:=omega) only[go_sem]
 refine goK_ret (zz hl (K0.box hb4 _).here) fun v H1 ⟨hv,h1⟩=>?_
 subst hv
 have K1:=(K0.box hb4 _).step h1
 have g14:=oth h1 n4 (upd_same ..)
 have D1:=yg (L:=L) hd
 simp(disch:=omega) only[go_sem]
 refine goA_intro fun b5 hb5=>?_
 have h54:b5≠b4:=fun e=>by subst e;rw[g14] at hb5;cases hb5
 have hb5H:=K1.none hb5
 have n5:=K0.ne hb5H
 simp(disch:=omega) only[w1,w2,go_sem]
 refine goK_ret (ZT hl (K1.box hb5H _).here _) fun v H8 ⟨hv8,h8⟩=>?_
 subst hv8
 have K8:=K1.box hb5H (.cells [.int .i64 1,.str (za L s).1,.sl .nil 1 [],.sl .nil 6 [],.sl .nil 1 [],.sl .nil 10 []])
 rw[← h8] at K8
 have g85:H8 b5=some (.cells [.int .i64 1,.str (za L s).1,.sl .nil 1 [],.sl .nil 6 [],.sl .nil 1 [],.sl .nil 10 []]):=by rw[h8,upd_same]
 have g84:H8 b4=some (.cells zE):=by rw[h8,upd_ne (Ne.symm h54),g14]
 clear h8
 cases hi:zG L [105,109,112,108,101,109,101,110,116,115] (za L s).2 with
 | true =>
  have ef:y6 L (za L s).2=yo L [38] (za L (za L s).2).2:=by simp[y6,hi]
  simp(disch:=omega) only[go_sem]
  refine goK_ret (zz hl K8.here) fun v H9 ⟨hv9,h9⟩=>?_
  subst hv9
  have K9:=K8.step h9
  have g95:=oth h9 n5 g85
  have g94:=oth h9 n4 g84
  simp(disch:=omega) only[go_sem]
  refine goK_ret (zeY [38] hl K9.here (yg D1)) fun v HA ⟨hvA,hA⟩=>?_
  subst hvA
  have KA:=K9.step hA
  have gA5:=oth hA n5 g95
  have gA4:=oth hA n4 g94
  have DA:=zf0 (L:=L) [38] (yg (L:=L) D1)
  have ef1:=congrArg Prod.fst ef
  have ef2:=congrArg Prod.snd ef
  clear ef
  generalize (yo L [38] (za L (za L s).2).2).1=ff at *
  generalize (yo L [38] (za L (za L s).2).2).2=sf at *
  simp(disch:=omega) only[gA5,go_sem]
  obtain⟨R,hR⟩:∃ R,zO L [125] true (yn L) (L.length+2) [] (zd L [123] sf)=R:=⟨_,rfl⟩
  have eR:YS L 1 s=(⟨1,(za L s).1,ff,R.1,[],[]⟩,zd L [125] R.2):=by rw[← hR];simp only[YS,yU,ef1,ef2]
  have hs:SimS L yY (16-((16:Nat):Int)) (yn L):=Yn hn
  have hlt:=yu.lt (by decide)
  refine goK_ret (zq hl (KA.box hb5H _).here _) fun v H2 ⟨hv2,h2⟩=>?_
  subst hv2
  have K2:=(KA.box hb5H _).step h2
  have g25:=oth h2 n5 (upd_same ..)
  have g24:=oth h2 n4 ((upd_ne (Ne.symm h54)).trans gA4)
  simp(disch:=omega) only[go_sem]
  refine goL_st (fun x:Own×List FldD×St=>[]) (fun x H'=>KBO H r (poc L x.2.2) H' x.1 x.2.1.length 6∧H' b5=some (.cells [.int .i64 1,.str (za L s).1,.sl .no 1 (cT ff),.sl x.1 6 (cLs x.2.1),.sl .nil 1 [],.sl .nil 10 []])∧H' b4=some (.cells zE)∧LI L [125] true (yn L) (16-((16:Nat):Int)) R x.2.1 x.2.2) (fun x=>mS L x.2.2) (.nil,[],zd L [123] sf) (by simp(disch:=omega) only[go_sem]) ⟨⟨K2,rfl,nofun⟩,g25,g24,LI.start (yK DA) hR⟩ ?_
  rintro⟨o,l,u⟩ H3 J ⟨K3,g5,g4,I3⟩ hJ
  simp only at K3 g5 g4 I3
  have gr:=K3.here
  simp only[poc] at gr
  simp only[zE] at g4
  have hcl:=zaa l
  by_cases hue:u.e=0
  case neg =>
   simp(disch:=omega) only[gr,hue,go_sem]
   have e1:=I3.stop (by (exact fun h=>hue h.1))
   rw[e1] at eR
   rw[eR] at hQ
   have fin:=KB.done hQ
   try simp(disch:=omega) only[go_sem]
   refine goK_ret (zq hl K3.here _) fun v H4 ⟨hv,h4⟩=>?_
   subst hv
   have K4:=K3.toKB.step h4
   have g45:=oth h4 n5 g5
   have g44:=oth h4 n4 g4
   simp(disch:=omega) only[g45,g44,h54,Ne.symm h54,go_sem]
   refine fin _ _ [.agg [.int .i64 1,.str (za L s).1,.sl .no 1 (cT ff),.sl o 6 (cLs l),.sl .nil 1 [],.sl .nil 10 []]] (by simp(disch:=omega) only[ir47,resvs,resv,go_sem]) (K4.box hb4 _) ?_
   simp[tupOf,AV.strip,AV.strip1,cE,yA,yE,cT,cWs,cLs]
  by_cases hz:l.length=0
  ·have hz':((l.length:Int)=0)=True:=eq_true (by omega)
   simp(disch:=omega) only[gr,hue,g5,hcl,hz',go_sem]
   obtain⟨I4,hm,hl4⟩:=I3.next ⟨hue,(.inl ⟨rfl,hz⟩)⟩ hs hlt
   refine goK_ret (YK hl hn K3.here I3.dp) fun v H5 ⟨hv,h5⟩=>?_
   subst hv
   have K5:=K3.step h5
   have g55:=oth h5 n5 g5
   have g54:=oth h5 n4 g4
   simp(disch:=omega) only[g55,zX,zD,go_sem]
   refine goP_ownS (by rw[hcl];exact K5.own) (by simp only[hcl,Al2,Al3];omega) (by simp only[hcl,Al2,Al3,maxLen];omega) fun o6 H6 hs6=>?_
   have K6:=K5.app (by simpa[hcl] using hs6)
   have g65:=K5.stay hs6 g55
   have g64:=K5.stay hs6 g54
   simp(disch:=omega) only[g65,zX,zD,go_sem]
   refine goJ (hJ (o6,l++[_],_) _ hm ⟨by simpa using K6.box hb5H g65,by rw[upd_same];simp[cLs,yO],by rw[upd_ne (Ne.symm h54)];exact g64,I4⟩) (by simp(disch:=omega) only[go_sem])
  ·have hz':¬ ((l.length:Int)=0):=by omega
   simp(disch:=omega) only[gr,hue,g5,hcl,hz',go_sem]
   refine goK_ret (Z9 hl K3.here _) fun v H4 ⟨hv,hH⟩=>?_
   subst hv;subst hH
   cases hj:isS L [125] u with
   | true =>
    have e1:=I3.stop (by (rintro⟨_,⟨_,h⟩|h⟩;exact hz h;rw[hj] at h;cases h))
    rw[e1] at eR
    rw[eR] at hQ
    have fin:=KB.done hQ
    try simp(disch:=omega) only[go_sem]
    refine goK_ret (zq hl K3.here _) fun v H4 ⟨hv,h4⟩=>?_
    subst hv
    have K4:=K3.toKB.step h4
    have g45:=oth h4 n5 g5
    have g44:=oth h4 n4 g4
    simp(disch:=omega) only[g45,g44,h54,Ne.symm h54,go_sem]
    refine fin _ _ [.agg [.int .i64 1,.str (za L s).1,.sl .no 1 (cT ff),.sl o 6 (cLs l),.sl .nil 1 [],.sl .nil 10 []]] (by simp(disch:=omega) only[ir47,resvs,resv,go_sem]) (K4.box hb4 _) ?_
    simp[tupOf,AV.strip,AV.strip1,cE,yA,yE,cT,cWs,cLs]
   | false =>
    simp(disch:=omega) only[g5,go_sem]
    obtain⟨I4,hm,hl4⟩:=I3.next ⟨hue,(.inr hj)⟩ hs hlt
    refine goK_ret (YK hl hn K3.here I3.dp) fun v H5 ⟨hv,h5⟩=>?_
    subst hv
    have K5:=K3.step h5
    have g55:=oth h5 n5 g5
    have g54:=oth h5 n4 g4
    simp(disch:=omega) only[g55,zX,zD,go_sem]
    refine goP_ownS (by rw[hcl];exact K5.own) (by simp only[hcl,Al2,Al3];omega) (by simp only[hcl,Al2,Al3,maxLen];omega) fun o6 H6 hs6=>?_
    have K6:=K5.app (by simpa[hcl] using hs6)
    have g65:=K5.stay hs6 g55
    have g64:=K5.stay hs6 g54
    simp(disch:=omega) only[g65,zX,zD,go_sem]
    refine goJ (hJ (o6,l++[_],_) _ hm ⟨by simpa using K6.box hb5H g65,by rw[upd_same];simp[cLs,yO],by rw[upd_ne (Ne.symm h54)];exact g64,I4⟩) (by simp(disch:=omega) only[go_sem])
 | false =>
  have ef:y6 L (za L s).2=([],(za L s).2):=by simp[y6,hi]
  simp(disch:=omega) only[go_sem]
  obtain⟨R,hR⟩:∃ R,zO L [125] true (yn L) (L.length+2) [] (zd L [123] (za L s).2)=R:=⟨_,rfl⟩
  have eR:YS L 1 s=(⟨1,(za L s).1,([]:List (List UInt8)),R.1,[],[]⟩,zd L [125] R.2):=by rw[← hR];simp only[YS,yU,ef]
  have hs:SimS L yY (16-((16:Nat):Int)) (yn L):=Yn hn
  have hlt:=yu.lt (by decide)
  refine goK_ret (zq hl K8.here _) fun v H2 ⟨hv2,h2⟩=>?_
  subst hv2
  have K2:=K8.step h2
  have g25:=oth h2 n5 g85
  have g24:=oth h2 n4 g84
  simp(disch:=omega) only[go_sem]
  refine goL_st (fun x:Own×List FldD×St=>[]) (fun x H'=>KBO H r (poc L x.2.2) H' x.1 x.2.1.length 6∧H' b5=some (.cells [.int .i64 1,.str (za L s).1,.sl .nil 1 (cT ([]:List (List UInt8))),.sl x.1 6 (cLs x.2.1),.sl .nil 1 [],.sl .nil 10 []])∧H' b4=some (.cells zE)∧LI L [125] true (yn L) (16-((16:Nat):Int)) R x.2.1 x.2.2) (fun x=>mS L x.2.2) (.nil,[],zd L [123] (za L s).2) (by simp(disch:=omega) only[go_sem]) ⟨⟨K2,rfl,nofun⟩,g25,g24,LI.start (yK D1) hR⟩ ?_
  rintro⟨o,l,u⟩ H3 J ⟨K3,g5,g4,I3⟩ hJ
  simp only at K3 g5 g4 I3
  have gr:=K3.here
  simp only[poc] at gr
  simp only[zE] at g4
  have hcl:=zaa l
  by_cases hue:u.e=0
  case neg =>
   simp(disch:=omega) only[gr,hue,go_sem]
   have e1:=I3.stop (by (exact fun h=>hue h.1))
   rw[e1] at eR
   rw[eR] at hQ
   have fin:=KB.done hQ
   try simp(disch:=omega) only[go_sem]
   refine goK_ret (zq hl K3.here _) fun v H4 ⟨hv,h4⟩=>?_
   subst hv
   have K4:=K3.toKB.step h4
   have g45:=oth h4 n5 g5
   have g44:=oth h4 n4 g4
   simp(disch:=omega) only[g45,g44,h54,Ne.symm h54,go_sem]
   refine fin _ _ [.agg [.int .i64 1,.str (za L s).1,.sl .nil 1 (cT ([]:List (List UInt8))),.sl o 6 (cLs l),.sl .nil 1 [],.sl .nil 10 []]] (by simp(disch:=omega) only[ir47,resvs,resv,go_sem]) (K4.box hb4 _) ?_
   simp[tupOf,AV.strip,AV.strip1,cE,yA,yE,cT,cWs,cLs]
  by_cases hz:l.length=0
  ·have hz':((l.length:Int)=0)=True:=eq_true (by omega)
   simp(disch:=omega) only[gr,hue,g5,hcl,hz',go_sem]
   obtain⟨I4,hm,hl4⟩:=I3.next ⟨hue,(.inl ⟨rfl,hz⟩)⟩ hs hlt
   refine goK_ret (YK hl hn K3.here I3.dp) fun v H5 ⟨hv,h5⟩=>?_
   subst hv
   have K5:=K3.step h5
   have g55:=oth h5 n5 g5
   have g54:=oth h5 n4 g4
   simp(disch:=omega) only[g55,zX,zD,go_sem]
   refine goP_ownS (by rw[hcl];exact K5.own) (by simp only[hcl,Al2,Al3];omega) (by simp only[hcl,Al2,Al3,maxLen];omega) fun o6 H6 hs6=>?_
   have K6:=K5.app (by simpa[hcl] using hs6)
   have g65:=K5.stay hs6 g55
   have g64:=K5.stay hs6 g54
   simp(disch:=omega) only[g65,zX,zD,go_sem]
   refine goJ (hJ (o6,l++[_],_) _ hm ⟨by simpa using K6.box hb5H g65,by rw[upd_same];simp[cLs,yO],by rw[upd_ne (Ne.symm h54)];exact g64,I4⟩) (by simp(disch:=omega) only[go_sem])
  ·have hz':¬ ((l.length:Int)=0):=by omega
   simp(disch:=omega) only[gr,hue,g5,hcl,hz',go_sem]
   refine goK_ret (Z9 hl K3.here _) fun v H4 ⟨hv,hH⟩=>?_
   subst hv;subst hH
   cases hj:isS L [125] u with
   | true =>
    have e1:=I3.stop (by (rintro⟨_,⟨_,h⟩|h⟩;exact hz h;rw[hj] at h;cases h))
    rw[e1] at eR
    rw[eR] at hQ
    have fin:=KB.done hQ
    try simp(disch:=omega) only[go_sem]
    refine goK_ret (zq hl K3.here _) fun v H4 ⟨hv,h4⟩=>?_
    subst hv
    have K4:=K3.toKB.step h4
    have g45:=oth h4 n5 g5
    have g44:=oth h4 n4 g4
    simp(disch:=omega) only[g45,g44,h54,Ne.symm h54,go_sem]
    refine fin _ _ [.agg [.int .i64 1,.str (za L s).1,.sl .nil 1 (cT ([]:List (List UInt8))),.sl o 6 (cLs l),.sl .nil 1 [],.sl .nil 10 []]] (by simp(disch:=omega) only[ir47,resvs,resv,go_sem]) (K4.box hb4 _) ?_
    simp[tupOf,AV.strip,AV.strip1,cE,yA,yE,cT,cWs,cLs]
   | false =>
    simp(disch:=omega) only[g5,go_sem]
    obtain⟨I4,hm,hl4⟩:=I3.next ⟨hue,(.inr hj)⟩ hs hlt
    refine goK_ret (YK hl hn K3.here I3.dp) fun v H5 ⟨hv,h5⟩=>?_
    subst hv
    have K5:=K3.step h5
    have g55:=oth h5 n5 g5
    have g54:=oth h5 n4 g4
    simp(disch:=omega) only[g55,zX,zD,go_sem]
    refine goP_ownS (by rw[hcl];exact K5.own) (by simp only[hcl,Al2,Al3];omega) (by simp only[hcl,Al2,Al3,maxLen];omega) fun o6 H6 hs6=>?_
    have K6:=K5.app (by simpa[hcl] using hs6)
    have g65:=K5.stay hs6 g55
    have g64:=K5.stay hs6 g54
    simp(disch:=omega) only[g65,zX,zD,go_sem]
    refine goJ (hJ (o6,l++[_],_) _ hm ⟨by simpa using K6.box hb5H g65,by rw[upd_same];simp[cLs,yO],by rw[upd_ne (Ne.symm h54)];exact g64,I4⟩) (by simp(disch:=omega) only[go_sem])
theorem zlf {L:TS} {H:Heap} {r:Nat} {s:St} (hl:wT L≤zk) (hn:∀ x∈L,yI x) (hr:H r=some (poc L s)) (hd:s.e=0→s.dp=16-((16:Nat):Int)) :
  ACalls Tryz.prog 47 [.ptr r 0,.str [105,110,116,101,114,102,97,99,101]] H (PQ H r L (.agg (cE (YS L 2 s).1)) (YS L 2 s).2):=by
 refine ACalls.go ir47 ck47 (Al4 _) fun KP Q hQ=>?_
 have w1:(([105,110,116,101,114,102,97,99,101]:List UInt8)=[116,121,112,101])=False:=eq_false (by decide)
 have w2:(([105,110,116,101,114,102,97,99,101]:List UInt8)=[105,110,116,101,114,102,97,99,101])=True:=eq_true rfl
 have hll:L.length≤zk:=Nat.le_trans (Zp L) hl
 simp only[zk] at hll
 have K0:=KB.start hr
 simp(disch:=omega) only[ir47,go_sem]
 refine goA_intro fun b4 hb4=>?_
 have n4:=K0.ne hb4
 simp(disch:=omega) only[go_sem]
 refine goK_ret (zz hl (K0.box hb4 _).here) fun v H1 ⟨hv,h1⟩=>?_
 subst hv
 have K1:=(K0.box hb4 _).step h1
 have g14:=oth h1 n4 (upd_same ..)
 have D1:=yg (L:=L) hd
 simp(disch:=omega) only[go_sem]
 refine goA_intro fun b5 hb5=>?_
 have h54:b5≠b4:=fun e=>by subst e;rw[g14] at hb5;cases hb5
 have hb5H:=K1.none hb5
 have n5:=K0.ne hb5H
 simp(disch:=omega) only[w1,w2,go_sem]
 refine goK_ret (ZT hl (K1.box hb5H _).here _) fun v H8 ⟨hv8,h8⟩=>?_
 subst hv8
 have K8:=K1.box hb5H (.cells [.int .i64 2,.str (za L s).1,.sl .nil 1 [],.sl .nil 6 [],.sl .nil 1 [],.sl .nil 10 []])
 rw[← h8] at K8
 have g85:H8 b5=some (.cells [.int .i64 2,.str (za L s).1,.sl .nil 1 [],.sl .nil 6 [],.sl .nil 1 [],.sl .nil 10 []]):=by rw[h8,upd_same]
 have g84:H8 b4=some (.cells zE):=by rw[h8,upd_ne (Ne.symm h54),g14]
 clear h8
 cases hi:zG L [105,109,112,108,101,109,101,110,116,115] (za L s).2 with
 | true =>
  have ef:y6 L (za L s).2=yo L [38] (za L (za L s).2).2:=by simp[y6,hi]
  simp(disch:=omega) only[go_sem]
  refine goK_ret (zz hl K8.here) fun v H9 ⟨hv9,h9⟩=>?_
  subst hv9
  have K9:=K8.step h9
  have g95:=oth h9 n5 g85
  have g94:=oth h9 n4 g84
  simp(disch:=omega) only[go_sem]
  refine goK_ret (zeY [38] hl K9.here (yg D1)) fun v HA ⟨hvA,hA⟩=>?_
  subst hvA
  have KA:=K9.step hA
  have gA5:=oth hA n5 g95
  have gA4:=oth hA n4 g94
  have DA:=zf0 (L:=L) [38] (yg (L:=L) D1)
  have ef1:=congrArg Prod.fst ef
  have ef2:=congrArg Prod.snd ef
  clear ef
  generalize (yo L [38] (za L (za L s).2).2).1=ff at *
  generalize (yo L [38] (za L (za L s).2).2).2=sf at *
  simp(disch:=omega) only[gA5,go_sem]
  obtain⟨R,hR⟩:∃ R,zO L [125] true (yn L) (L.length+2) [] (zd L [123] sf)=R:=⟨_,rfl⟩
  have eR:YS L 2 s=(⟨2,(za L s).1,ff,R.1,[],[]⟩,zd L [125] R.2):=by rw[← hR];simp only[YS,yU,ef1,ef2]
  have hs:SimS L yY (16-((16:Nat):Int)) (yn L):=Yn hn
  have hlt:=yu.lt (by decide)
  refine goK_ret (zq hl (KA.box hb5H _).here _) fun v H2 ⟨hv2,h2⟩=>?_
  subst hv2
  have K2:=(KA.box hb5H _).step h2
  have g25:=oth h2 n5 (upd_same ..)
  have g24:=oth h2 n4 ((upd_ne (Ne.symm h54)).trans gA4)
  simp(disch:=omega) only[go_sem]
  refine goL_st (fun x:Own×List FldD×St=>[]) (fun x H'=>KBO H r (poc L x.2.2) H' x.1 x.2.1.length 6∧H' b5=some (.cells [.int .i64 2,.str (za L s).1,.sl .no 1 (cT ff),.sl x.1 6 (cLs x.2.1),.sl .nil 1 [],.sl .nil 10 []])∧H' b4=some (.cells zE)∧LI L [125] true (yn L) (16-((16:Nat):Int)) R x.2.1 x.2.2) (fun x=>mS L x.2.2) (.nil,[],zd L [123] sf) (by simp(disch:=omega) only[go_sem]) ⟨⟨K2,rfl,nofun⟩,g25,g24,LI.start (yK DA) hR⟩ ?_
  rintro⟨o,l,u⟩ H3 J ⟨K3,g5,g4,I3⟩ hJ
  simp only at K3 g5 g4 I3
  have gr:=K3.here
  simp only[poc] at gr
  simp only[zE] at g4
  have hcl:=zaa l
  by_cases hue:u.e=0
  case neg =>
   simp(disch:=omega) only[gr,hue,go_sem]
   have e1:=I3.stop (by (exact fun h=>hue h.1))
   rw[e1] at eR
   rw[eR] at hQ
   have fin:=KB.done hQ
   try simp(disch:=omega) only[go_sem]
   refine goK_ret (zq hl K3.here _) fun v H4 ⟨hv,h4⟩=>?_
   subst hv
   have K4:=K3.toKB.step h4
   have g45:=oth h4 n5 g5
   have g44:=oth h4 n4 g4
   simp(disch:=omega) only[g45,g44,h54,Ne.symm h54,go_sem]
   refine fin _ _ [.agg [.int .i64 2,.str (za L s).1,.sl .no 1 (cT ff),.sl o 6 (cLs l),.sl .nil 1 [],.sl .nil 10 []]] (by simp(disch:=omega) only[ir47,resvs,resv,go_sem]) (K4.box hb4 _) ?_
   simp[tupOf,AV.strip,AV.strip1,cE,yA,yE,cT,cWs,cLs]
  by_cases hz:l.length=0
  ·have hz':((l.length:Int)=0)=True:=eq_true (by omega)
   simp(disch:=omega) only[gr,hue,g5,hcl,hz',go_sem]
   obtain⟨I4,hm,hl4⟩:=I3.next ⟨hue,(.inl ⟨rfl,hz⟩)⟩ hs hlt
   refine goK_ret (YK hl hn K3.here I3.dp) fun v H5 ⟨hv,h5⟩=>?_
   subst hv
   have K5:=K3.step h5
   have g55:=oth h5 n5 g5
   have g54:=oth h5 n4 g4
   simp(disch:=omega) only[g55,zX,zD,go_sem]
   refine goP_ownS (by rw[hcl];exact K5.own) (by simp only[hcl,Al2,Al3];omega) (by simp only[hcl,Al2,Al3,maxLen];omega) fun o6 H6 hs6=>?_
   have K6:=K5.app (by simpa[hcl] using hs6)
   have g65:=K5.stay hs6 g55
   have g64:=K5.stay hs6 g54
   simp(disch:=omega) only[g65,zX,zD,go_sem]
   refine goJ (hJ (o6,l++[_],_) _ hm ⟨by simpa using K6.box hb5H g65,by rw[upd_same];simp[cLs,yO],by rw[upd_ne (Ne.symm h54)];exact g64,I4⟩) (by simp(disch:=omega) only[go_sem])
  ·have hz':¬ ((l.length:Int)=0):=by omega
   simp(disch:=omega) only[gr,hue,g5,hcl,hz',go_sem]
   refine goK_ret (Z9 hl K3.here _) fun v H4 ⟨hv,hH⟩=>?_
   subst hv;subst hH
   cases hj:isS L [125] u with
   | true =>
    have e1:=I3.stop (by (rintro⟨_,⟨_,h⟩|h⟩;exact hz h;rw[hj] at h;cases h))
    rw[e1] at eR
    rw[eR] at hQ
    have fin:=KB.done hQ
    try simp(disch:=omega) only[go_sem]
    refine goK_ret (zq hl K3.here _) fun v H4 ⟨hv,h4⟩=>?_
    subst hv
    have K4:=K3.toKB.step h4
    have g45:=oth h4 n5 g5
    have g44:=oth h4 n4 g4
    simp(disch:=omega) only[g45,g44,h54,Ne.symm h54,go_sem]
    refine fin _ _ [.agg [.int .i64 2,.str (za L s).1,.sl .no 1 (cT ff),.sl o 6 (cLs l),.sl .nil 1 [],.sl .nil 10 []]] (by simp(disch:=omega) only[ir47,resvs,resv,go_sem]) (K4.box hb4 _) ?_
    simp[tupOf,AV.strip,AV.strip1,cE,yA,yE,cT,cWs,cLs]
   | false =>
    simp(disch:=omega) only[g5,go_sem]
    obtain⟨I4,hm,hl4⟩:=I3.next ⟨hue,(.inr hj)⟩ hs hlt
    refine goK_ret (YK hl hn K3.here I3.dp) fun v H5 ⟨hv,h5⟩=>?_
    subst hv
    have K5:=K3.step h5
    have g55:=oth h5 n5 g5
    have g54:=oth h5 n4 g4
    simp(disch:=omega) only[g55,zX,zD,go_sem]
    refine goP_ownS (by rw[hcl];exact K5.own) (by simp only[hcl,Al2,Al3];omega) (by simp only[hcl,Al2,Al3,maxLen];omega) fun o6 H6 hs6=>?_
    have K6:=K5.app (by simpa[hcl] using hs6)
    have g65:=K5.stay hs6 g55
    have g64:=K5.stay hs6 g54
    simp(disch:=omega) only[g65,zX,zD,go_sem]
    refine goJ (hJ (o6,l++[_],_) _ hm ⟨by simpa using K6.box hb5H g65,by rw[upd_same];simp[cLs,yO],by rw[upd_ne (Ne.symm h54)];exact g64,I4⟩) (by simp(disch:=omega) only[go_sem])
 | false =>
  have ef:y6 L (za L s).2=([],(za L s).2):=by simp[y6,hi]
  simp(disch:=omega) only[go_sem]
  obtain⟨R,hR⟩:∃ R,zO L [125] true (yn L) (L.length+2) [] (zd L [123] (za L s).2)=R:=⟨_,rfl⟩
  have eR:YS L 2 s=(⟨2,(za L s).1,([]:List (List UInt8)),R.1,[],[]⟩,zd L [125] R.2):=by rw[← hR];simp only[YS,yU,ef]
  have hs:SimS L yY (16-((16:Nat):Int)) (yn L):=Yn hn
  have hlt:=yu.lt (by decide)
  refine goK_ret (zq hl K8.here _) fun v H2 ⟨hv2,h2⟩=>?_
  subst hv2
  have K2:=K8.step h2
  have g25:=oth h2 n5 g85
  have g24:=oth h2 n4 g84
  simp(disch:=omega) only[go_sem]
  refine goL_st (fun x:Own×List FldD×St=>[]) (fun x H'=>KBO H r (poc L x.2.2) H' x.1 x.2.1.length 6∧H' b5=some (.cells [.int .i64 2,.str (za L s).1,.sl .nil 1 (cT ([]:List (List UInt8))),.sl x.1 6 (cLs x.2.1),.sl .nil 1 [],.sl .nil 10 []])∧H' b4=some (.cells zE)∧LI L [125] true (yn L) (16-((16:Nat):Int)) R x.2.1 x.2.2) (fun x=>mS L x.2.2) (.nil,[],zd L [123] (za L s).2) (by simp(disch:=omega) only[go_sem]) ⟨⟨K2,rfl,nofun⟩,g25,g24,LI.start (yK D1) hR⟩ ?_
  rintro⟨o,l,u⟩ H3 J ⟨K3,g5,g4,I3⟩ hJ
  simp only at K3 g5 g4 I3
  have gr:=K3.here
  simp only[poc] at gr
  simp only[zE] at g4
  have hcl:=zaa l
  by_cases hue:u.e=0
  case neg =>
   simp(disch:=omega) only[gr,hue,go_sem]
   have e1:=I3.stop (by (exact fun h=>hue h.1))
   rw[e1] at eR
   rw[eR] at hQ
   have fin:=KB.done hQ
   try simp(disch:=omega) only[go_sem]
   refine goK_ret (zq hl K3.here _) fun v H4 ⟨hv,h4⟩=>?_
   subst hv
   have K4:=K3.toKB.step h4
   have g45:=oth h4 n5 g5
   have g44:=oth h4 n4 g4
   simp(disch:=omega) only[g45,g44,h54,Ne.symm h54,go_sem]
   refine fin _ _ [.agg [.int .i64 2,.str (za L s).1,.sl .nil 1 (cT ([]:List (List UInt8))),.sl o 6 (cLs l),.sl .nil 1 [],.sl .nil 10 []]] (by simp(disch:=omega) only[ir47,resvs,resv,go_sem]) (K4.box hb4 _) ?_
   simp[tupOf,AV.strip,AV.strip1,cE,yA,yE,cT,cWs,cLs]
  by_cases hz:l.length=0
  ·have hz':((l.length:Int)=0)=True:=eq_true (by omega)
   simp(disch:=omega) only[gr,hue,g5,hcl,hz',go_sem]
   obtain⟨I4,hm,hl4⟩:=I3.next ⟨hue,(.inl ⟨rfl,hz⟩)⟩ hs hlt
   refine goK_ret (YK hl hn K3.here I3.dp) fun v H5 ⟨hv,h5⟩=>?_
   subst hv
   have K5:=K3.step h5
   have g55:=oth h5 n5 g5
   have g54:=oth h5 n4 g4
   simp(disch:=omega) only[g55,zX,zD,go_sem]
   refine goP_ownS (by rw[hcl];exact K5.own) (by simp only[hcl,Al2,Al3];omega) (by simp only[hcl,Al2,Al3,maxLen];omega) fun o6 H6 hs6=>?_
   have K6:=K5.app (by simpa[hcl] using hs6)
   have g65:=K5.stay hs6 g55
   have g64:=K5.stay hs6 g54
   simp(disch:=omega) only[g65,zX,zD,go_sem]
   refine goJ (hJ (o6,l++[_],_) _ hm ⟨by simpa using K6.box hb5H g65,by rw[upd_same];simp[cLs,yO],by rw[upd_ne (Ne.symm h54)];exact g64,I4⟩) (by simp(disch:=omega) only[go_sem])
  ·have hz':¬ ((l.length:Int)=0):=by omega
   simp(disch:=omega) only[gr,hue,g5,hcl,hz',go_sem]
   refine goK_ret (Z9 hl K3.here _) fun v H4 ⟨hv,hH⟩=>?_
   subst hv;subst hH
   cases hj:isS L [125] u with
   | true =>
    have e1:=I3.stop (by (rintro⟨_,⟨_,h⟩|h⟩;exact hz h;rw[hj] at h;cases h))
    rw[e1] at eR
    rw[eR] at hQ
    have fin:=KB.done hQ
    try simp(disch:=omega) only[go_sem]
    refine goK_ret (zq hl K3.here _) fun v H4 ⟨hv,h4⟩=>?_
    subst hv
    have K4:=K3.toKB.step h4
    have g45:=oth h4 n5 g5
    have g44:=oth h4 n4 g4
    simp(disch:=omega) only[g45,g44,h54,Ne.symm h54,go_sem]
    refine fin _ _ [.agg [.int .i64 2,.str (za L s).1,.sl .nil 1 (cT ([]:List (List UInt8))),.sl o 6 (cLs l),.sl .nil 1 [],.sl .nil 10 []]] (by simp(disch:=omega) only[ir47,resvs,resv,go_sem]) (K4.box hb4 _) ?_
    simp[tupOf,AV.strip,AV.strip1,cE,yA,yE,cT,cWs,cLs]
   | false =>
    simp(disch:=omega) only[g5,go_sem]
    obtain⟨I4,hm,hl4⟩:=I3.next ⟨hue,(.inr hj)⟩ hs hlt
    refine goK_ret (YK hl hn K3.here I3.dp) fun v H5 ⟨hv,h5⟩=>?_
    subst hv
    have K5:=K3.step h5
    have g55:=oth h5 n5 g5
    have g54:=oth h5 n4 g4
    simp(disch:=omega) only[g55,zX,zD,go_sem]
    refine goP_ownS (by rw[hcl];exact K5.own) (by simp only[hcl,Al2,Al3];omega) (by simp only[hcl,Al2,Al3,maxLen];omega) fun o6 H6 hs6=>?_
    have K6:=K5.app (by simpa[hcl] using hs6)
    have g65:=K5.stay hs6 g55
    have g64:=K5.stay hs6 g54
    simp(disch:=omega) only[g65,zX,zD,go_sem]
    refine goJ (hJ (o6,l++[_],_) _ hm ⟨by simpa using K6.box hb5H g65,by rw[upd_same];simp[cLs,yO],by rw[upd_ne (Ne.symm h54)];exact g64,I4⟩) (by simp(disch:=omega) only[go_sem])
theorem zlD {L:TS} {H:Heap} {r:Nat} {s:St} (hl:wT L≤zk) (hn:∀ x∈L,yI x) (hr:H r=some (poc L s)) (hd:s.e=0→s.dp=16-((16:Nat):Int)) :
  ACalls Tryz.prog 47 [.ptr r 0,.str [101,110,117,109]] H (PQ H r L (.agg (cE (zb0 L s).1)) (zb0 L s).2):=by
 refine ACalls.go ir47 ck47 (Al4 _) fun KP Q hQ=>?_
 have w1:(([101,110,117,109]:List UInt8)=[116,121,112,101])=False:=eq_false (by decide)
 have w2:(([101,110,117,109]:List UInt8)=[105,110,116,101,114,102,97,99,101])=False:=eq_false (by decide)
 have w3:(([101,110,117,109]:List UInt8)=[117,110,105,111,110])=False:=eq_false (by decide)
 have w4:(([101,110,117,109]:List UInt8)=[101,110,117,109])=True:=eq_true rfl
 have hll:L.length≤zk:=Nat.le_trans (Zp L) hl
 simp only[zk] at hll
 have K0:=KB.start hr
 simp(disch:=omega) only[ir47,go_sem]
 refine goA_intro fun b4 hb4=>?_
 have n4:=K0.ne hb4
 simp(disch:=omega) only[go_sem]
 refine goK_ret (zz hl (K0.box hb4 _).here) fun v H1 ⟨hv,h1⟩=>?_
 subst hv
 have K1:=(K0.box hb4 _).step h1
 have g14:=oth h1 n4 (upd_same ..)
 have D1:=yg (L:=L) hd
 simp(disch:=omega) only[go_sem]
 refine goA_intro fun b5 hb5=>?_
 have h54:b5≠b4:=fun e=>by subst e;rw[g14] at hb5;cases hb5
 have hb5H:=K1.none hb5
 have n5:=K0.ne hb5H
 simp(disch:=omega) only[w1,w2,w3,w4,go_sem]
 obtain⟨R,hR⟩:∃ R,zO L [125] true (yV L) (L.length+2) [] (zd L [123] (za L s).2)=R:=⟨_,rfl⟩
 have eR:zb0 L s=(⟨4,(za L s).1,[],[],R.1,[]⟩,zd L [125] R.2):=by rw[← hR];simp only[zb0,yU]
 have hs:SimS L Z3 (16-((16:Nat):Int)) (yV L):=zeh _
 have hlt:=Ye.lt (by decide)
 refine goK_ret (zq hl (K1.box hb5H _).here _) fun v H2 ⟨hv2,h2⟩=>?_
 subst hv2
 have K2:=(K1.box hb5H _).step h2
 have g25:=oth h2 n5 (upd_same ..)
 have g24:=oth h2 n4 ((upd_ne (Ne.symm h54)).trans g14)
 simp(disch:=omega) only[go_sem]
 refine goL_st (fun x:Own×List (List UInt8)×St=>[]) (fun x H'=>KBO H r (poc L x.2.2) H' x.1 x.2.1.length 1∧H' b5=some (.cells [.int .i64 4,.str (za L s).1,.sl .nil 1 [],.sl .nil 6 [],.sl x.1 1 (cT x.2.1),.sl .nil 10 []])∧H' b4=some (.cells zE)∧LI L [125] true (yV L) (16-((16:Nat):Int)) R x.2.1 x.2.2) (fun x=>mS L x.2.2) (.nil,[],zd L [123] (za L s).2) (by simp(disch:=omega) only[go_sem]) ⟨⟨K2,rfl,nofun⟩,g25,g24,LI.start (yK D1) hR⟩ ?_
 rintro⟨o,l,u⟩ H3 J ⟨K3,g5,g4,I3⟩ hJ
 simp only at K3 g5 g4 I3
 have gr:=K3.here
 simp only[poc] at gr
 simp only[zE] at g4
 have hcl:=zbn l
 by_cases hue:u.e=0
 case neg =>
  simp(disch:=omega) only[gr,hue,go_sem]
  have e1:=I3.stop (by (exact fun h=>hue h.1))
  rw[e1] at eR
  rw[eR] at hQ
  have fin:=KB.done hQ
  try simp(disch:=omega) only[go_sem]
  refine goK_ret (zq hl K3.here _) fun v H4 ⟨hv,h4⟩=>?_
  subst hv
  have K4:=K3.toKB.step h4
  have g45:=oth h4 n5 g5
  have g44:=oth h4 n4 g4
  simp(disch:=omega) only[g45,g44,h54,Ne.symm h54,go_sem]
  refine fin _ _ [.agg [.int .i64 4,.str (za L s).1,.sl .nil 1 [],.sl .nil 6 [],.sl o 1 (cT l),.sl .nil 10 []]] (by simp(disch:=omega) only[ir47,resvs,resv,go_sem]) (K4.box hb4 _) ?_
  simp[tupOf,AV.strip,AV.strip1,cE,yA,yE,cT,cWs,cLs]
 by_cases hz:l.length=0
 ·have hz':((l.length:Int)=0)=True:=eq_true (by omega)
  simp(disch:=omega) only[gr,hue,g5,hcl,hz',go_sem]
  obtain⟨I4,hm,hl4⟩:=I3.next ⟨hue,(.inl ⟨rfl,hz⟩)⟩ hs hlt
  refine goK_ret (zdz hl K3.here) fun v H5 ⟨hv5,h5⟩=>?_
  subst hv5
  have K5:=K3.step h5
  have g55:=oth h5 n5 g5
  have g54:=oth h5 n4 g4
  simp(disch:=omega) only[g55,go_sem]
  refine goK_ret (ZT hl K5.here _) fun v H6 ⟨hv6,h6⟩=>?_
  subst hv6;subst h6
  cases a1:zG L [116,114,117,101] (zx L u) with
  | true =>
   simp(disch:=omega) only[g55,go_sem]
   refine goK_ret (Yo K5.here 2) fun v H8 ⟨hv8,h8⟩=>?_
   subst hv8
   have K8:=K5.step h8
   have g85:=oth h8 n5 g55
   have g84:=oth h8 n4 g54
   simp(disch:=omega) only[g85,go_sem]
   have eP:yV L u=za L (yc 2 (zx L u)):=by simp[yV,zbY,a1]
   rw[eP] at I4 hm
   refine goK_ret (zz hl K8.here) fun v H9 ⟨hv9,h9⟩=>?_
   subst hv9
   have K9:=K8.step h9
   have g95:=oth h9 n5 g85
   have g94:=oth h9 n4 g84
   simp(disch:=omega) only[g95,go_sem]
   refine goP_ownS (by rw[hcl];exact K9.own) (by simp only[hcl,Al2,Al3];omega) (by simp only[hcl,Al2,Al3,maxLen];omega) fun oA HA hsA=>?_
   have KA:=K9.app (by simpa[hcl] using hsA)
   have gA5:=K9.stay hsA g95
   have gA4:=K9.stay hsA g94
   simp(disch:=omega) only[gA5,go_sem]
   refine goJ (hJ (oA,l++[_],_) _ hm ⟨by simpa using KA.box hb5H gA5,by rw[upd_same];simp[cT],by rw[upd_ne (Ne.symm h54)];exact gA4,I4⟩) (by simp(disch:=omega) only[go_sem])
  | false =>
   simp(disch:=omega) only[g55,go_sem]
   refine goK_ret (ZT hl K5.here _) fun v H6 ⟨hv6,h6⟩=>?_
   subst hv6;subst h6
   cases a2:zG L [102,97,108,115,101] (zx L u) with
   | true =>
    simp(disch:=omega) only[g55,go_sem]
    refine goK_ret (Yo K5.here 2) fun v H8 ⟨hv8,h8⟩=>?_
    subst hv8
    have K8:=K5.step h8
    have g85:=oth h8 n5 g55
    have g84:=oth h8 n4 g54
    simp(disch:=omega) only[g85,go_sem]
    have eP:yV L u=za L (yc 2 (zx L u)):=by simp[yV,zbY,a1,a2]
    rw[eP] at I4 hm
    refine goK_ret (zz hl K8.here) fun v H9 ⟨hv9,h9⟩=>?_
    subst hv9
    have K9:=K8.step h9
    have g95:=oth h9 n5 g85
    have g94:=oth h9 n4 g84
    simp(disch:=omega) only[g95,go_sem]
    refine goP_ownS (by rw[hcl];exact K9.own) (by simp only[hcl,Al2,Al3];omega) (by simp only[hcl,Al2,Al3,maxLen];omega) fun oA HA hsA=>?_
    have KA:=K9.app (by simpa[hcl] using hsA)
    have gA5:=K9.stay hsA g95
    have gA4:=K9.stay hsA g94
    simp(disch:=omega) only[gA5,go_sem]
    refine goJ (hJ (oA,l++[_],_) _ hm ⟨by simpa using KA.box hb5H gA5,by rw[upd_same];simp[cT],by rw[upd_ne (Ne.symm h54)];exact gA4,I4⟩) (by simp(disch:=omega) only[go_sem])
   | false =>
    simp(disch:=omega) only[g55,go_sem]
    refine goK_ret (ZT hl K5.here _) fun v H6 ⟨hv6,h6⟩=>?_
    subst hv6;subst h6
    cases a3:zG L [110,117,108,108] (zx L u) with
    | true =>
     simp(disch:=omega) only[g55,go_sem]
     refine goK_ret (Yo K5.here 2) fun v H8 ⟨hv8,h8⟩=>?_
     subst hv8
     have K8:=K5.step h8
     have g85:=oth h8 n5 g55
     have g84:=oth h8 n4 g54
     simp(disch:=omega) only[g85,go_sem]
     have eP:yV L u=za L (yc 2 (zx L u)):=by simp[yV,zbY,a1,a2,a3]
     rw[eP] at I4 hm
     refine goK_ret (zz hl K8.here) fun v H9 ⟨hv9,h9⟩=>?_
     subst hv9
     have K9:=K8.step h9
     have g95:=oth h9 n5 g85
     have g94:=oth h9 n4 g84
     simp(disch:=omega) only[g95,go_sem]
     refine goP_ownS (by rw[hcl];exact K9.own) (by simp only[hcl,Al2,Al3];omega) (by simp only[hcl,Al2,Al3,maxLen];omega) fun oA HA hsA=>?_
     have KA:=K9.app (by simpa[hcl] using hsA)
     have gA5:=K9.stay hsA g95
     have gA4:=K9.stay hsA g94
     simp(disch:=omega) only[gA5,go_sem]
     refine goJ (hJ (oA,l++[_],_) _ hm ⟨by simpa using KA.box hb5H gA5,by rw[upd_same];simp[cT],by rw[upd_ne (Ne.symm h54)];exact gA4,I4⟩) (by simp(disch:=omega) only[go_sem])
    | false =>
     simp(disch:=omega) only[g55,go_sem]
     have eP:yV L u=za L (zx L u):=by simp[yV,zbY,a1,a2,a3]
     rw[eP] at I4 hm
     refine goK_ret (zz hl K5.here) fun v H9 ⟨hv9,h9⟩=>?_
     subst hv9
     have K9:=K5.step h9
     have g95:=oth h9 n5 g55
     have g94:=oth h9 n4 g54
     simp(disch:=omega) only[g95,go_sem]
     refine goP_ownS (by rw[hcl];exact K9.own) (by simp only[hcl,Al2,Al3];omega) (by simp only[hcl,Al2,Al3,maxLen];omega) fun oA HA hsA=>?_
     have KA:=K9.app (by simpa[hcl] using hsA)
     have gA5:=K9.stay hsA g95
     have gA4:=K9.stay hsA g94
     simp(disch:=omega) only[gA5,go_sem]
     refine goJ (hJ (oA,l++[_],_) _ hm ⟨by simpa using KA.box hb5H gA5,by rw[upd_same];simp[cT],by rw[upd_ne (Ne.symm h54)];exact gA4,I4⟩) (by simp(disch:=omega) only[go_sem])
 ·have hz':¬ ((l.length:Int)=0):=by omega
  simp(disch:=omega) only[gr,hue,g5,hcl,hz',go_sem]
  refine goK_ret (Z9 hl K3.here _) fun v H4 ⟨hv,hH⟩=>?_
  subst hv;subst hH
  cases hj:isS L [125] u with
  | true =>
   have e1:=I3.stop (by (rintro⟨_,⟨_,h⟩|h⟩;exact hz h;rw[hj] at h;cases h))
   rw[e1] at eR
   rw[eR] at hQ
   have fin:=KB.done hQ
   try simp(disch:=omega) only[go_sem]
   refine goK_ret (zq hl K3.here _) fun v H4 ⟨hv,h4⟩=>?_
   subst hv
   have K4:=K3.toKB.step h4
   have g45:=oth h4 n5 g5
   have g44:=oth h4 n4 g4
   simp(disch:=omega) only[g45,g44,h54,Ne.symm h54,go_sem]
   refine fin _ _ [.agg [.int .i64 4,.str (za L s).1,.sl .nil 1 [],.sl .nil 6 [],.sl o 1 (cT l),.sl .nil 10 []]] (by simp(disch:=omega) only[ir47,resvs,resv,go_sem]) (K4.box hb4 _) ?_
   simp[tupOf,AV.strip,AV.strip1,cE,yA,yE,cT,cWs,cLs]
  | false =>
   simp(disch:=omega) only[g5,go_sem]
   obtain⟨I4,hm,hl4⟩:=I3.next ⟨hue,(.inr hj)⟩ hs hlt
   refine goK_ret (zdz hl K3.here) fun v H5 ⟨hv5,h5⟩=>?_
   subst hv5
   have K5:=K3.step h5
   have g55:=oth h5 n5 g5
   have g54:=oth h5 n4 g4
   simp(disch:=omega) only[g55,go_sem]
   refine goK_ret (ZT hl K5.here _) fun v H6 ⟨hv6,h6⟩=>?_
   subst hv6;subst h6
   cases a1:zG L [116,114,117,101] (zx L u) with
   | true =>
    simp(disch:=omega) only[g55,go_sem]
    refine goK_ret (Yo K5.here 2) fun v H8 ⟨hv8,h8⟩=>?_
    subst hv8
    have K8:=K5.step h8
    have g85:=oth h8 n5 g55
    have g84:=oth h8 n4 g54
    simp(disch:=omega) only[g85,go_sem]
    have eP:yV L u=za L (yc 2 (zx L u)):=by simp[yV,zbY,a1]
    rw[eP] at I4 hm
    refine goK_ret (zz hl K8.here) fun v H9 ⟨hv9,h9⟩=>?_
    subst hv9
    have K9:=K8.step h9
    have g95:=oth h9 n5 g85
    have g94:=oth h9 n4 g84
    simp(disch:=omega) only[g95,go_sem]
    refine goP_ownS (by rw[hcl];exact K9.own) (by simp only[hcl,Al2,Al3];omega) (by simp only[hcl,Al2,Al3,maxLen];omega) fun oA HA hsA=>?_
    have KA:=K9.app (by simpa[hcl] using hsA)
    have gA5:=K9.stay hsA g95
    have gA4:=K9.stay hsA g94
    simp(disch:=omega) only[gA5,go_sem]
    refine goJ (hJ (oA,l++[_],_) _ hm ⟨by simpa using KA.box hb5H gA5,by rw[upd_same];simp[cT],by rw[upd_ne (Ne.symm h54)];exact gA4,I4⟩) (by simp(disch:=omega) only[go_sem])
   | false =>
    simp(disch:=omega) only[g55,go_sem]
    refine goK_ret (ZT hl K5.here _) fun v H6 ⟨hv6,h6⟩=>?_
    subst hv6;subst h6
    cases a2:zG L [102,97,108,115,101] (zx L u) with
    | true =>
     simp(disch:=omega) only[g55,go_sem]
     refine goK_ret (Yo K5.here 2) fun v H8 ⟨hv8,h8⟩=>?_
     subst hv8
     have K8:=K5.step h8
     have g85:=oth h8 n5 g55
     have g84:=oth h8 n4 g54
     simp(disch:=omega) only[g85,go_sem]
     have eP:yV L u=za L (yc 2 (zx L u)):=by simp[yV,zbY,a1,a2]
     rw[eP] at I4 hm
     refine goK_ret (zz hl K8.here) fun v H9 ⟨hv9,h9⟩=>?_
     subst hv9
     have K9:=K8.step h9
     have g95:=oth h9 n5 g85
     have g94:=oth h9 n4 g84
     simp(disch:=omega) only[g95,go_sem]
     refine goP_ownS (by rw[hcl];exact K9.own) (by simp only[hcl,Al2,Al3];omega) (by simp only[hcl,Al2,Al3,maxLen];omega) fun oA HA hsA=>?_
     have KA:=K9.app (by simpa[hcl] using hsA)
     have gA5:=K9.stay hsA g95
     have gA4:=K9.stay hsA g94
     simp(disch:=omega) only[gA5,go_sem]
     refine goJ (hJ (oA,l++[_],_) _ hm ⟨by simpa using KA.box hb5H gA5,by rw[upd_same];simp[cT],by rw[upd_ne (Ne.symm h54)];exact gA4,I4⟩) (by simp(disch:=omega) only[go_sem])
    | false =>
     simp(disch:=omega) only[g55,go_sem]
     refine goK_ret (ZT hl K5.here _) fun v H6 ⟨hv6,h6⟩=>?_
     subst hv6;subst h6
     cases a3:zG L [110,117,108,108] (zx L u) with
     | true =>
      simp(disch:=omega) only[g55,go_sem]
      refine goK_ret (Yo K5.here 2) fun v H8 ⟨hv8,h8⟩=>?_
      subst hv8
      have K8:=K5.step h8
      have g85:=oth h8 n5 g55
      have g84:=oth h8 n4 g54
      simp(disch:=omega) only[g85,go_sem]
      have eP:yV L u=za L (yc 2 (zx L u)):=by simp[yV,zbY,a1,a2,a3]
      rw[eP] at I4 hm
      refine goK_ret (zz hl K8.here) fun v H9 ⟨hv9,h9⟩=>?_
      subst hv9
      have K9:=K8.step h9
      have g95:=oth h9 n5 g85
      have g94:=oth h9 n4 g84
      simp(disch:=omega) only[g95,go_sem]
      refine goP_ownS (by rw[hcl];exact K9.own) (by simp only[hcl,Al2,Al3];omega) (by simp only[hcl,Al2,Al3,maxLen];omega) fun oA HA hsA=>?_
      have KA:=K9.app (by simpa[hcl] using hsA)
      have gA5:=K9.stay hsA g95
      have gA4:=K9.stay hsA g94
      simp(disch:=omega) only[gA5,go_sem]
      refine goJ (hJ (oA,l++[_],_) _ hm ⟨by simpa using KA.box hb5H gA5,by rw[upd_same];simp[cT],by rw[upd_ne (Ne.symm h54)];exact gA4,I4⟩) (by simp(disch:=omega) only[go_sem])
     | false =>
      simp(disch:=omega) only[g55,go_sem]
      have eP:yV L u=za L (zx L u):=by simp[yV,zbY,a1,a2,a3]
      rw[eP] at I4 hm
      refine goK_ret (zz hl K5.here) fun v H9 ⟨hv9,h9⟩=>?_
      subst hv9
      have K9:=K5.step h9
      have g95:=oth h9 n5 g55
      have g94:=oth h9 n4 g54
      simp(disch:=omega) only[g95,go_sem]
      refine goP_ownS (by rw[hcl];exact K9.own) (by simp only[hcl,Al2,Al3];omega) (by simp only[hcl,Al2,Al3,maxLen];omega) fun oA HA hsA=>?_
      have KA:=K9.app (by simpa[hcl] using hsA)
      have gA5:=K9.stay hsA g95
      have gA4:=K9.stay hsA g94
      simp(disch:=omega) only[gA5,go_sem]
      refine goJ (hJ (oA,l++[_],_) _ hm ⟨by simpa using KA.box hb5H gA5,by rw[upd_same];simp[cT],by rw[upd_ne (Ne.symm h54)];exact gA4,I4⟩) (by simp(disch:=omega) only[go_sem])
def ZK {α:Type} (f:TS→PR α):Prop:=∀ t n,f t=.error n→n≠0
theorem zr {α β:Type} {x:PR α} {f:α→TS→PR β} {e:Int} (h:pb x f=.error e) (hx:∀ n,x=.error n→n≠0) (hf:∀ a t,x=.ok (a,t)→f a t=.error e→e≠0):e≠0:=by
 rcases x with n|⟨a,t⟩
 ·cases h;exact hx _ rfl
 ·exact hf a t rfl h
theorem yP (m:List UInt8):ZK (yk m):=fun t n h=>by
 unfold yk at h
 split at h
 ·cases h
 ·cases h;decide
theorem yl:ZK ya:=fun t n h=>by
 unfold ya at h
 split at h
 ·cases h
 ·cases h;decide
theorem zdp (ty:TyD):ZK (zaI ty):=fun t n h=>by
 unfold zaI at h
 split at h<;>cases h
theorem zb6 {α:Type} {m:List UInt8} {f:TS→PR α} (hf:ZK f) (hl:∀ t a t',f t=.ok (a,t')→t'.length<t.length):∀(n:Nat) (l:List α) (t:TS) (e:Int),t.length<n→zY m f n l t=.error e→e≠0
 | 0,_,_,_,h,_=>absurd h (Nat.not_lt_zero _)
 | n+1,l,t,e,hn,h=>by
  rw[zY] at h
  split at h
  ·cases h
  ·exact zr h (fun k hk=>hf _ _ hk) fun a t' ha h'=>zb6 hf hl n _ _ _ (by have:=hl _ _ _ ha;omega) h'
theorem YU {α:Type} {m:List UInt8} {f:TS→PR α} (hf:ZK f) (hl:∀ t a t',f t=.ok (a,t')→t'.length<t.length):ZK (yS m f):=fun t n h =>
 zr h (fun k hk=>hf _ _ hk) fun a t' ha h'=>zb6 hf hl _ _ _ _ (Nat.lt_succ_self _) h'
theorem zcC {α:Type} {m:List UInt8} {f:TS→PR α} (hf:ZK f) (hl:∀ t a t',f t=.ok (a,t')→t'.length<t.length):∀(n:Nat) (l:List α) (t:TS) (e:Int),t.length<n→y9 m f n l t=.error e→e≠0
 | 0,_,_,_,h,_=>absurd h (Nat.not_lt_zero _)
 | n+1,l,t,e,hn,h=>by
  rw[y9] at h
  split at h
  ·rename_i hp
   have hlt:=zcW hp
   exact zr h (fun k hk=>hf _ _ hk) fun a t' ha h'=>zcC hf hl n _ _ _ (by have:=hl _ _ _ ha;omega) h'
  ·cases h
theorem zeT:∀ k,ZK (zan k)
 | 0=>fun t n h=>by
  rw[Z4,zcS.eq_def] at h
  split at h
  ·cases h;decide
  ·exact zr h (fun k hk=>yl _ _ hk) fun s t1 _ h'=>zdp _ _ _ h'
 | k+1=>fun t n h=>by
  rw[Z4,zcS.eq_def] at h
  split at h
  ·exact zr h (fun e he=>zeT k _ _ he) fun ty t1 _ h'=>zr h' (fun e he=>yP _ _ _ he) fun _ t2 _ h''=>zdp _ _ _ h''
  ·exact zr h (fun k hk=>yl _ _ hk) fun s t1 _ h'=>zdp _ _ _ h'
theorem zdQ {f:TS→PR Val} (hf:ZK f):ZK (yh f):=fun t n h =>
 zr h (fun e he=>yl _ _ he) fun s t1 _ h'=>zr h' (fun e he=>yP _ _ _ he) fun _ t2 _ h2=>zr h2 (fun e he=>hf _ _ he) fun x t3 _ h3=>by cases h3
theorem zg0 {fixed:Bool} {sub:Option (TS→PR Val)} (hs:∀ f,sub=some f→ZK f∧GP bV wfV 1 f):ZK (YM fixed sub):=fun t n h=>by
 rw[YM.eq_def] at h
 split at h
 ·cases h
 split at h
 ·cases h
 split at h
 ·cases h
 split at h
 ·cases sub with
  | none=>cases h;decide
  | some f =>
   obtain⟨h1,h2⟩:=hs f rfl
   exact zr h (fun e he=>zb6 h1 (h2.lt (by decide)) _ _ _ _ (Nat.lt_succ_self _) he) fun l t' _ h'=>by cases h'
 split at h
 ·cases sub with
  | none=>cases h;decide
  | some f =>
   obtain⟨h1,h2⟩:=hs f rfl
   exact zr h (fun e he=>zb6 (zdQ h1) ((ye h2).lt (by decide)) _ _ _ _ (Nat.lt_succ_self _) he) fun l t' _ h'=>by cases h'
 split at h
 ·cases h;decide
 ·exact zr h (fun e he=>yP _ _ _ he) fun _ t1 _ h1=>zr h1 (fun e he=>yl _ _ he) fun s t2 _ h2=>by cases h2
theorem zfa (fixed:Bool):∀ k,ZK (yW fixed k)
 | 0=>fun t n h=>zg0 (sub:=none) (fun f hf=>by cases hf) t n (by rw[yx] at h;exact h)
 | k+1=>fun t n h=>zg0 (sub:=some (yW fixed k)) (fun f hf=>by cases hf;exact⟨zfa fixed k,yv fixed k⟩) t n (by rw[yx] at h;exact h)
theorem zi5 (fixed:Bool) (k:Nat):ZK (YD fixed k):=fun t n h=>by
 unfold YD at h
 split at h
 ·exact YU (zdQ (zfa fixed k)) ((ye (yv fixed k)).lt (by decide)) _ _ h
 ·cases h
theorem zkj (fixed:Bool) (k:Nat):ZK (zdi fixed k):=fun t n h =>
 zr h (fun e he=>yl _ _ he) fun s t1 _ h1=>zr h1 (fun e he=>zi5 _ _ _ _ he) fun a t2 _ h2=>by cases h2
theorem zjC (fixed:Bool) (k:Nat):ZK (zbf fixed k):=fun t n h =>
 zcC (zkj fixed k) ((zaM fixed k).lt (by decide)) _ _ _ _ (Nat.lt_succ_self _) h
theorem zej:ZK yy:=fun t n h =>
 zr h (fun e he=>yl _ _ he) fun s t2 _ h2=>zr h2 (fun e he=>yP _ _ _ he) fun _ t3 _ h3=>zr h3 (fun e he=>zeT 4 _ _ he) fun ty t4 _ h4=>by
  split at h4
  ·exact zr h4 (fun e he=>zfa true 16 _ _ he) fun v t5 _ h5=>by cases h5
  ·cases h4
theorem zhY:ZK yY:=fun t n h=>by
 refine zr h (fun e he=>yl _ _ he) fun s t2 _ h2=>zr h2 (fun e he=>?_) fun ps t3 _ h3=>zr h3 (fun e he=>yP _ _ _ he) fun _ t4 _ h4=>zr h4 (fun e he=>zeT 4 _ _ he) fun ty t5 _ h5=>zr h5 (fun e he=>zjC _ _ _ _ he) fun d t6 _ h6=>by cases h6
 split at he
 ·exact YU zej (yX.lt (by decide)) _ _ he
 ·cases he
theorem zeb (m:List UInt8):ZK (ZM m):=fun t n h =>
 zr h (fun e he=>yl _ _ he) fun s t2 _ h2=>zcC yl (zH.lt (by decide)) _ _ _ _ (Nat.lt_succ_self _) h2
theorem zik:ZK Z3:=fun t n h=>by
 unfold Z3 at h
 split at h
 ·cases h;decide
 ·exact yl _ _ h
theorem zgR (k:Int):ZK (za9 k):=fun t n h=>by
 refine zr h (fun e he=>yl _ _ he) fun s t2 _ h2=>zr h2 (fun e he=>?_) fun fs t3 _ h3=>zr h3 (fun e he=>yP _ _ _ he) fun _ t4 _ h4=>zr h4 (fun e he=>YU zhY (yu.lt (by decide)) _ _ he) fun l t5 _ h5=>by cases h5
 split at he
 ·exact zeb _ _ _ he
 ·cases he
theorem zjD:ZK Y2:=fun t n h =>
 zr h (fun e he=>yl _ _ he) fun s t2 _ h2=>zr h2 (fun e he=>yP _ _ _ he) fun _ t3 _ h3=>zr h3 (fun e he=>YU zik (Ye.lt (by decide)) _ _ he) fun l t4 _ h4=>by cases h4
theorem zhC:ZK ZN:=fun t n h =>
 zr h (fun e he=>yl _ _ he) fun s t2 _ h2=>zr h2 (fun e he=>yP _ _ _ he) fun _ t3 _ h3=>zr h3 (fun e he=>zeb _ _ _ he) fun l t4 _ h4=>by cases h4
theorem zhQ:ZK ZQ:=fun t n h =>
 zr h (fun e he=>yl _ _ he) fun s t2 _ h2=>zr h2 (fun e he=>yP _ _ _ he) fun _ t3 _ h3=>zr h3 (fun e he=>YU zej (yX.lt (by decide)) _ _ he) fun l t4 _ h4=>by cases h4
theorem zi1 (d:SR):ZK (zam d):=fun t n h=>by
 refine zr h (fun e he=>yP _ _ _ he) fun _ t2 _ h2=>zr h2 (fun e he=>?_) fun _ t3 _ h3=>zr h3 (fun e he=>yP _ _ _ he) fun _ t4 _ h4=>zr h4 (fun e he=>yl _ _ he) fun q t5 _ h5=>zr h5 (fun e he=>?_) fun m t6 _ h6=>zr h6 (fun e he=>yP _ _ _ he) fun _ t7 _ h7=>by cases h7
 ·split at he
  ·cases he
  ·cases he;decide
 ·split at he
  ·exact zr he (fun e he=>yP _ _ _ he) fun _ t6 _ h6=>yl _ _ h6
  ·cases he
theorem zfL (d:SR):ZK (zN d):=fun t n h=>by
 have put:∀ {f:TS→PR DefD} {t:TS},ZK f→pb (f t) (fun x t=>(.ok (Zy d x,t):PR SR))=.error n→n≠0:=fun hf h=>zr h (fun e he=>hf _ _ he) fun x t _ h=>by cases h
 unfold zN YL at h
 split at h
 ·exact zi1 _ _ _ h
 split at h
 ·exact put (zgR 1) h
 split at h
 ·exact put (zgR 2) h
 split at h
 ·exact put zhC h
 split at h
 ·exact put zjD h
 split at h
 ·exact put zhQ h
 ·cases h;decide
theorem zbV {d:SR} {t:TS} {d':SR} {t':TS} (h:zN d t=.ok (d',t')):t'.length<t.length:=by
 obtain⟨p,hp⟩:=(YR h).suf
 cases p with
 | nil=>simp at hp;subst hp;exact absurd h (zcN d d' _)
 | cons x p=>rw[← hp];simp;omega
def SI (d:SR):Prop:=d.told=false→d.q=[]∧d.m=[]
theorem zct {d:SR} {t:TS} {d':SR} {t':TS} (h:zN d t=.ok (d',t')):d'.defs.length≤d.defs.length+1∧(SI d→SI d'):=by
 have put:∀ {f:TS→PR DefD} {t:TS},pb (f t) (fun x t=>(.ok (Zy d x,t):PR SR))=.ok (d',t')→d'.defs.length≤d.defs.length+1∧(SI d→SI d'):=fun h=>by
  obtain⟨x,t1,_,h2⟩:=zj h
  cases h2
  exact⟨by simp[Zy],id⟩
 unfold zN YL at h
 split at h
 ·obtain⟨_,t1,h1,h2⟩:=zj h
  obtain⟨_,t2,h3,h4⟩:=zj h2
  obtain⟨_,t3,h5,h6⟩:=zj h4
  obtain⟨q,t4,h7,h8⟩:=zj h6
  obtain⟨m,t5,h9,h10⟩:=zj h8
  obtain⟨_,t6,h11,h12⟩:=zj h10
  cases h12
  exact⟨Nat.le_succ _,fun _ e=>by cases e⟩
 split at h
 ·exact put h
 split at h
 ·exact put h
 split at h
 ·exact put h
 split at h
 ·exact put h
 split at h
 ·exact put h
 ·cases h
theorem zeI:∀(n:Nat) (d:SR) (t:TS) (e:Int),t.length<n→Yu n d t=.error e→e≠0
 | 0,_,_,_,h,_=>absurd h (Nat.not_lt_zero _)
 | n+1,d,t,e,hn,h=>by
  rw[Yu] at h
  split at h
  ·cases h
  ·exact zr h (fun k hk=>zfL _ _ _ hk) fun d' t' ha h'=>zeI n _ _ _ (by have:=zbV ha;omega) h'
theorem zgW:ZK zcj:=fun t n h =>
 zr h (fun e he=>zfL _ _ _ he) fun d t1 ha h1=>zeI _ _ _ _ (Nat.lt_succ_self _) h1
theorem zbX {f:FuncId} {args:List AV} {H:Heap} {b:Nat} {x:AObj} {Q:AEnd→Heap→Prop} (hb:H b=some x) (h:ACalls Tryz.prog f args (H.del b) Q) :
  ACalls Tryz.prog f args H (fun e H'=>∃ A,Q e A∧A b=none∧H'=Heap.union A (Heap.one b x)):=by
 have hd:Heap.Disj (H.del b) (Heap.one b x):=fun c=>by
  by_cases e:c=b
  ·subst e;exact .inl (by simp[Heap.del])
  ·exact .inr (by simp[Heap.one,e])
 have hu:H=Heap.union (H.del b) (Heap.one b x):=by
  funext c
  by_cases e:c=b
  ·subst e;simp[Heap.union,Heap.del,Heap.one,hb]
  ·simp[Heap.union,Heap.del,Heap.one,e]
 have h2:=ACalls.frame hd h
 rw[← hu] at h2
 refine h2.mono fun e H' ⟨A,q,hd',hH⟩=>⟨A,q,?_,hH⟩
 rcases hd' b with h|h
 ·exact h
 ·simp[Heap.one] at h
open Go.Lib
end Go.Proofs.YtaielcdfcgpbiaaGreatDoor
namespace Go.Proofs.YtaielcdfcgpbiaaGreatDoor
open Go.Ab
abbrev zlr (R:AV→Heap→Prop):AEnd→Heap→Prop:=fun e H'=>∃ v,e=.ret v∧R v H'
section
variable {KP:AV→Heap→Prop} {Q:AExit→Env→Heap→Prop} {st:List Fr} {ρ:Env} {H:Heap} {all items:List AItem} {d:Option Nat} {R:List Chk}
end
open Go.Lib
def yJ (l:List (List UInt8)):List AV:=l.map AV.str
theorem ZC (l:List (List UInt8)):(yJ l).length=l.length:=by simp[yJ]
def MsT (H:Heap) (b cap:Nat) (l:List (List UInt8)):Prop:=∃ tl,H b=some (.cells (yJ l++tl))∧l.length+tl.length=cap
theorem zgg (z:AV):∀ n,(madeA [z] n).length=n
 | 0=>rfl
 | n+1=>by simp[madeA,zgg z n]
section
variable {KP:AV→Heap→Prop} {Q:AExit→Env→Heap→Prop} {st:List Fr} {ρ:Env} {H:Heap} {all items:List AItem} {d:Option Nat} {R:List Chk}
theorem zk6 {b cap:Nat} {l:List (List UInt8)} {x:List UInt8} {o2:Own} (h:MsT H b cap l) (h1:(l.length+1)*16≤140737488355328) (h2:l.length+1≤maxLen)
  (k:∀ b' cap' H',MsT H' b' cap' (l++[x])→goR Tryz.prog KP Q all items st R (ρ.set d (.ms b' 0 (l.length+1) cap')) H') :
  goPm Tryz.prog KP Q all items st d R ρ 1 16 [.str []] (.ms b 0 l.length cap) (.sl o2 1 [[.str x]]) H:=by
 obtain⟨tl,hb,hc⟩:=h
 refine goPm_ms hb rfl (by simpa using h1) (by simpa using h2) (fun hfit=>⟨?_,?_⟩) (fun hnf=>⟨?_,fun b' cap' hb' hcap' hm'=>?_⟩)
 ·have hfit:l.length+1≤cap:=hfit
  simp[ZC];omega
 ·have hfit:l.length+1≤cap:=hfit
  obtain⟨t0,tl,rfl⟩:∃ t0 t1,tl=t0::t1:=by
   cases tl with
   | nil=>simp at hc;omega
   | cons a b=>exact⟨a,b,rfl⟩
  refine k b cap _ ⟨tl,?_,by simp at hc ⊢;omega⟩
  rw[upd_same]
  simp only[splice,List.flatten_cons,List.flatten_nil,List.append_nil,List.map_cons,List.map_nil,AV.strip1,Al2,Al3,Nat.zero_add,Nat.mul_one]
  rw[List.take_left' (ZC l),List.drop_append,List.drop_eq_nil_of_le (by rw[ZC];omega),ZC,Nat.add_sub_cancel_left]
  simp[yJ]
 ·simp[ZC]
 ·refine k b' cap' _ ⟨madeA [.str []] (cap'-(l.length+1)),?_,?_⟩
  ·rw[upd_same]
   simp only[List.drop_zero,Nat.mul_one,List.flatten_cons,List.flatten_nil,List.append_nil,List.map_cons,List.map_nil,AV.strip1,Al2,Al3,Nat.zero_add]
   rw[List.take_left' (ZC l)]
   simp[yJ]
  ·have hcap':l.length+1≤cap':=hcap'
   rw[zgg];simp;omega
theorem zkn {x:List UInt8} {o2:Own} (k:∀ b' cap' H',MsT H' b' cap' [x]→goR Tryz.prog KP Q all items st R (ρ.set d (.ms b' 0 1 cap')) H') :
  goPm Tryz.prog KP Q all items st d R ρ 1 16 [.str []] (.sl .nil 1 []) (.sl o2 1 [[.str x]]) H:=by
 refine goPm_nil rfl (by simp) (by simp[maxLen]) (fun h=>by simp at h) fun _ b cap hb h1 h2=>?_
 have h1:1≤cap:=h1
 refine k b cap _ ⟨madeA [.str []] (cap-1),?_,by rw[zgg];simp;omega⟩
 rw[upd_same]
 simp[yJ,AV.strip1]
end
theorem zae {cur r:List UInt8} {c:UInt8} (h:¬ (c=10∨c=13)):zM cur (c::r)=zM (cur++[c]) r:=by
 have h10:c≠10:=fun e=>h (.inl e)
 have h13:c≠13:=fun e=>h (.inr e)
 cases r with
 | nil=>simp[zM,h10,h13]
 | cons d r=>simp[zM,h10,h13]
theorem zcs (cur r:List UInt8):zM cur (10::r)=cur::zM [] r:=by cases r<;>simp[zM]
theorem zcu {cur r:List UInt8} (h:r.head?≠some 10):zM cur (13::r)=cur::zM [] r:=by
 cases r with
 | nil=>simp[zM]
 | cons d r =>
  have:d≠10:=by simpa using h
  simp[zM,this]
theorem zbz (cur r:List UInt8):zM cur (13::10::r)=cur::zM [] r:=by simp[zM]
def zih (b cap:Nat) (l:List (List UInt8)):AV:=if l=[] then .sl .nil 1 [] else .ms b 0 l.length cap
theorem zdx (b cap:Nat):zih b cap []=.sl .nil 1 []:=rfl
theorem Z6 {b cap:Nat} {l:List (List UInt8)} (h:l≠[]):zih b cap l=.ms b 0 l.length cap:=if_neg h
def ziU (s:List UInt8):AEnd→Heap→Prop:=zlr fun v H'=>∃ b cap,v=.ms b 0 (zo s).length cap∧MsT H' b cap (zo s)
section
variable {KP:AV→Heap→Prop} {Q:AExit→Env→Heap→Prop} {st:List Fr} {ρ:Env} {H:Heap} {all items:List AItem} {d:Option Nat} {R:List Chk}
theorem YO {b cap:Nat} {l:List (List UInt8)} {x:List UInt8} {o2:Own} (h:l≠[]→MsT H b cap l) (h1:(l.length+1)*16≤140737488355328) (h2:l.length+1≤maxLen)
  (k:∀ b' cap' H',MsT H' b' cap' (l++[x])→goR Tryz.prog KP Q all items st R (ρ.set d (.ms b' 0 (l.length+1) cap')) H') :
  goPm Tryz.prog KP Q all items st d R ρ 1 16 [.str []] (zih b cap l) (.sl o2 1 [[.str x]]) H:=by
 by_cases hl:l=[]
 ·subst hl
  rw[zdx]
  exact zkn fun b' cap' H' hm=>k b' cap' H' hm
 ·rw[Z6 hl]
  exact zk6 (h hl) h1 h2 k
end
theorem zj8 (s:List UInt8) (hs:s.length≤Lim):ACalls Tryz.prog 216 [.str s] Heap.emp (ziU s):=by
 refine ACalls.go ir216 ck216 (Al4 _) fun KP Q hQ=>?_
 have hs':=hs
 simp only[Lim] at hs'
 simp(disch:=omega) only[ir216,go_sem]
 refine goL_st (fun x:Nat×Nat×List (List UInt8)×Nat×Nat=>[(3,zih x.2.2.2.1 x.2.2.2.2 x.2.2.1),(4,.int .i64 x.2.1),(5,.int .i64 x.1)]) (fun x H'=>x.2.1≤x.1∧x.1≤s.length∧x.2.2.1.length≤x.1∧x.2.2.1++zM ((s.take x.1).drop x.2.1) (s.drop x.1)=zo s∧(x.2.2.1≠[]→MsT H' x.2.2.2.1 x.2.2.2.2 x.2.2.1)) (fun x=>s.length-x.1) (0,0,[],0,0) (by simp(disch:=omega) only[zdx,go_sem]) ⟨Al4 _,Nat.zero_le _,Al4 _,by simp[zo],fun h=>absurd rfl h⟩ ?_
 rintro⟨i,fr,l,b,cap⟩ H1 J ⟨h1,h2,h3,h4,h5⟩ hJ
 simp only at h1 h2 h3 h4 h5
 by_cases hlt:i<s.length
 case neg =>
  obtain rfl:i=s.length:=by omega
  have hlt':¬ ((s.length:Int)<s.length):=by omega
  have hb1:((fr:Int)≤s.length)=True:=eq_true (by omega)
  rw[List.drop_length,List.take_length] at h4
  simp only[zM] at h4
  simp(disch:=omega) only[hlt',hb1,go_sem]
  refine YO h5 (by omega) (by simp only[maxLen];omega) fun b' cap' H2 hm=>?_
  simp(disch:=omega) only[go_sem]
  exact hQ _ _ H2 H2 [_] nofun rfl (Low.refl _) ⟨b',cap',by rw[← h4];simp[tupOf,envOf,AV.strip,AV.strip1],by rw[← h4];exact hm⟩
 have hlt':((i:Int)<s.length)=True:=eq_true (by omega)
 obtain⟨c,r,hd⟩:∃ c r,s.drop i=c::r:=by
  cases hx:s.drop i with
  | nil=>have:=congrArg List.length hx;simp at this;omega
  | cons c r=>exact⟨c,r,rfl⟩
 have hc:s.getD i 0=c:=by
  have:(s.drop i).getD 0 0=c:=by rw[hd];rfl
  simpa[List.getD_eq_getElem?_getD] using this
 have hr:s.drop (i+1)=r:=by rw[← List.drop_drop,hd];rfl
 have htk:s.take (i+1)=s.take i++[c]:=by
  rw[List.take_add,hd];rfl
 have hcur:((s.take (i+1)).drop fr)=(s.take i).drop fr++[c]:=by
  rw[htk,zbS (by simp;omega)]
 rw[hd] at h4
 have hb1:((fr:Int)≤(i:Int))=True:=eq_true (by omega)
 have hne9:l++[(s.take i).drop fr]≠[]:=by simp
 have hb2:((i:Int)≤s.length)=True:=eq_true (by omega)
 by_cases e10:c=10
 case pos =>
  subst e10
  rw[zcs] at h4
  have hcn:((10:UInt8).toNat:Int)=10:=rfl
  simp(disch:=omega) only[hlt',hc,hcn,hb1,hb2,go_sem]
  refine YO h5 (by omega) (by simp only[maxLen];omega) fun b' cap' H2 hm=>?_
  simp(disch:=omega) only[hc,hcn,wrap64,go_sem]
  refine goJ (hJ (i+1,i+1,l++[(s.take i).drop fr],b',cap') H2 (by simp only;omega) ⟨Al4 _,by simp only;omega,by simp;omega,?_,fun _=>hm⟩) (by simp(disch:=omega) only[Z6 hne9,Al5,Al2,Al3,Nat.zero_add,Int.natCast_add,go_sem])
  rw[hr]
  simpa using h4
 by_cases e13:c=13
 case neg =>
  rw[zae (by simp[e10,e13])] at h4
  have c10:¬ ((c.toNat:Int)=10):=fun e=>e10 (UInt8.toNat_inj.1 (by simpa using (by omega:c.toNat=10)))
  have c13:¬ ((c.toNat:Int)=13):=fun e=>e13 (UInt8.toNat_inj.1 (by simpa using (by omega:c.toNat=13)))
  simp(disch:=omega) only[hlt',hc,c10,c13,wrap64,go_sem]
  refine goJ (hJ (i+1,fr,l,b,cap) H1 (by simp only;omega) ⟨by simp only;omega,by simp only;omega,by simp only;omega,?_,h5⟩) (by simp(disch:=omega) only[Int.natCast_add,go_sem])
  rw[hr,hcur];exact h4
 subst e13
 have hcn:((13:UInt8).toNat:Int)=13:=rfl
 by_cases h10:r.head?=some 10
 case neg =>
  rw[zcu h10] at h4
  by_cases hi2:i+1<s.length
  case neg =>
   have hi2':¬ ((i:Int)+1<s.length):=by omega
   simp(disch:=omega) only[hlt',hc,hcn,hb1,hb2,go_sem]
   refine YO h5 (by omega) (by simp only[maxLen];omega) fun b' cap' H2 hm=>?_
   simp(disch:=omega) only[hc,hcn,wrap64,hi2',go_sem]
   refine goJ (hJ (i+1,i+1,l++[(s.take i).drop fr],b',cap') H2 (by simp only;omega) ⟨Al4 _,by simp only;omega,by simp;omega,?_,fun _=>hm⟩) (by simp(disch:=omega) only[Z6 hne9,Al5,Al2,Al3,Nat.zero_add,Int.natCast_add,go_sem])
   rw[hr]
   simpa using h4
  have hi2':((i:Int)+1<s.length)=True:=eq_true (by omega)
  obtain⟨e,r',hre⟩:∃ e r',r=e::r':=by
   cases r with
   | nil=>have:=congrArg List.length hr;simp at this;omega
   | cons e r'=>exact⟨e,r',rfl⟩
  have hge:s.getD (i+1) 0=e:=by
   have:(s.drop (i+1)).getD 0 0=e:=by rw[hr,hre];rfl
   simpa[List.getD_eq_getElem?_getD] using this
  have hne:e≠10:=by rw[hre] at h10;simpa using h10
  have hgn:¬ ((e.toNat:Int)=10):=fun x=>hne (UInt8.toNat_inj.1 (by simpa using (by omega:e.toNat=10)))
  have hg1:((i:Int)+1).toNat=i+1:=by omega
  simp(disch:=omega) only[hlt',hc,hcn,hb1,hb2,go_sem]
  refine YO h5 (by omega) (by simp only[maxLen];omega) fun b' cap' H2 hm=>?_
  simp(disch:=omega) only[hc,hcn,wrap64,hi2',hg1,hge,hgn,go_sem]
  refine goJ (hJ (i+1,i+1,l++[(s.take i).drop fr],b',cap') H2 (by simp only;omega) ⟨Al4 _,by simp only;omega,by simp;omega,?_,fun _=>hm⟩) (by simp(disch:=omega) only[Z6 hne9,Al5,Al2,Al3,Nat.zero_add,Int.natCast_add,go_sem])
  rw[hr]
  simpa using h4
 obtain⟨r',hre⟩:∃ r',r=10::r':=by
  cases r with
  | nil=>cases h10
  | cons e r'=>simp only[List.head?_cons,Al1] at h10;subst h10;exact⟨r',rfl⟩
 rw[hre,zbz] at h4
 have hi2:i+1<s.length:=by
  have:=congrArg List.length hr;rw[hre] at this;simp at this;omega
 have hi2':((i:Int)+1<s.length)=True:=eq_true (by omega)
 have hge:s.getD (i+1) 0=10:=by
  have:(s.drop (i+1)).getD 0 0=10:=by rw[hr,hre];rfl
  simpa[List.getD_eq_getElem?_getD] using this
 have hgn:((10:UInt8).toNat:Int)=10:=rfl
 have hg1:((i:Int)+1).toNat=i+1:=by omega
 have hr2:s.drop (i+1+1)=r':=by rw[← List.drop_drop,hr,hre];rfl
 simp(disch:=omega) only[hlt',hc,hcn,hb1,hb2,go_sem]
 refine YO h5 (by omega) (by simp only[maxLen];omega) fun b' cap' H2 hm=>?_
 simp(disch:=omega) only[hc,hcn,wrap64,hi2',hg1,hge,hgn,go_sem]
 refine goJ (hJ (i+1+1,i+1+1,l++[(s.take i).drop fr],b',cap') H2 (by simp only;omega) ⟨Al4 _,by simp only;omega,by simp;omega,?_,fun _=>hm⟩) (by simp(disch:=omega) only[Z6 hne9,Al5,Al2,Al3,Nat.zero_add,Int.natCast_add,go_sem])
 rw[hr2]
 simpa using h4
theorem zjT (s:List UInt8) (hs:s.length≤Lim):ACalls Tryz.prog 239 [.str s] Heap.emp (ziU s):=by
 refine ACalls.go ir239 ck239 (Al4 _) fun KP Q hQ=>?_
 have hs':=hs
 simp only[Lim] at hs'
 simp(disch:=omega) only[ir239,go_sem]
 refine goL_st (fun x:Nat×Nat×List (List UInt8)×Nat×Nat=>[(3,zih x.2.2.2.1 x.2.2.2.2 x.2.2.1),(4,.int .i64 x.2.1),(5,.int .i64 x.1)]) (fun x H'=>x.2.1≤x.1∧x.1≤s.length∧x.2.2.1.length≤x.1∧x.2.2.1++zM ((s.take x.1).drop x.2.1) (s.drop x.1)=zo s∧(x.2.2.1≠[]→MsT H' x.2.2.2.1 x.2.2.2.2 x.2.2.1)) (fun x=>s.length-x.1) (0,0,[],0,0) (by simp(disch:=omega) only[zdx,go_sem]) ⟨Al4 _,Nat.zero_le _,Al4 _,by simp[zo],fun h=>absurd rfl h⟩ ?_
 rintro⟨i,fr,l,b,cap⟩ H1 J ⟨h1,h2,h3,h4,h5⟩ hJ
 simp only at h1 h2 h3 h4 h5
 by_cases hlt:i<s.length
 case neg =>
  obtain rfl:i=s.length:=by omega
  have hlt':¬ ((s.length:Int)<s.length):=by omega
  have hb1:((fr:Int)≤s.length)=True:=eq_true (by omega)
  rw[List.drop_length,List.take_length] at h4
  simp only[zM] at h4
  simp(disch:=omega) only[hlt',hb1,go_sem]
  refine YO h5 (by omega) (by simp only[maxLen];omega) fun b' cap' H2 hm=>?_
  simp(disch:=omega) only[go_sem]
  exact hQ _ _ H2 H2 [_] nofun rfl (Low.refl _) ⟨b',cap',by rw[← h4];simp[tupOf,envOf,AV.strip,AV.strip1],by rw[← h4];exact hm⟩
 have hlt':((i:Int)<s.length)=True:=eq_true (by omega)
 obtain⟨c,r,hd⟩:∃ c r,s.drop i=c::r:=by
  cases hx:s.drop i with
  | nil=>have:=congrArg List.length hx;simp at this;omega
  | cons c r=>exact⟨c,r,rfl⟩
 have hc:s.getD i 0=c:=by
  have:(s.drop i).getD 0 0=c:=by rw[hd];rfl
  simpa[List.getD_eq_getElem?_getD] using this
 have hr:s.drop (i+1)=r:=by rw[← List.drop_drop,hd];rfl
 have htk:s.take (i+1)=s.take i++[c]:=by
  rw[List.take_add,hd];rfl
 have hcur:((s.take (i+1)).drop fr)=(s.take i).drop fr++[c]:=by
  rw[htk,zbS (by simp;omega)]
 rw[hd] at h4
 have hb1:((fr:Int)≤(i:Int))=True:=eq_true (by omega)
 have hne9:l++[(s.take i).drop fr]≠[]:=by simp
 have hb2:((i:Int)≤s.length)=True:=eq_true (by omega)
 by_cases e10:c=10
 case pos =>
  subst e10
  rw[zcs] at h4
  have hcn:((10:UInt8).toNat:Int)=10:=rfl
  simp(disch:=omega) only[hlt',hc,hcn,hb1,hb2,go_sem]
  refine YO h5 (by omega) (by simp only[maxLen];omega) fun b' cap' H2 hm=>?_
  simp(disch:=omega) only[hc,hcn,wrap64,go_sem]
  refine goJ (hJ (i+1,i+1,l++[(s.take i).drop fr],b',cap') H2 (by simp only;omega) ⟨Al4 _,by simp only;omega,by simp;omega,?_,fun _=>hm⟩) (by simp(disch:=omega) only[Z6 hne9,Al5,Al2,Al3,Nat.zero_add,Int.natCast_add,go_sem])
  rw[hr]
  simpa using h4
 by_cases e13:c=13
 case neg =>
  rw[zae (by simp[e10,e13])] at h4
  have c10:¬ ((c.toNat:Int)=10):=fun e=>e10 (UInt8.toNat_inj.1 (by simpa using (by omega:c.toNat=10)))
  have c13:¬ ((c.toNat:Int)=13):=fun e=>e13 (UInt8.toNat_inj.1 (by simpa using (by omega:c.toNat=13)))
  simp(disch:=omega) only[hlt',hc,c10,c13,wrap64,go_sem]
  refine goJ (hJ (i+1,fr,l,b,cap) H1 (by simp only;omega) ⟨by simp only;omega,by simp only;omega,by simp only;omega,?_,h5⟩) (by simp(disch:=omega) only[Int.natCast_add,go_sem])
  rw[hr,hcur];exact h4
 subst e13
 have hcn:((13:UInt8).toNat:Int)=13:=rfl
 by_cases h10:r.head?=some 10
 case neg =>
  rw[zcu h10] at h4
  by_cases hi2:i+1<s.length
  case neg =>
   have hi2':¬ ((i:Int)+1<s.length):=by omega
   simp(disch:=omega) only[hlt',hc,hcn,hb1,hb2,go_sem]
   refine YO h5 (by omega) (by simp only[maxLen];omega) fun b' cap' H2 hm=>?_
   simp(disch:=omega) only[hc,hcn,wrap64,hi2',go_sem]
   refine goJ (hJ (i+1,i+1,l++[(s.take i).drop fr],b',cap') H2 (by simp only;omega) ⟨Al4 _,by simp only;omega,by simp;omega,?_,fun _=>hm⟩) (by simp(disch:=omega) only[Z6 hne9,Al5,Al2,Al3,Nat.zero_add,Int.natCast_add,go_sem])
   rw[hr]
   simpa using h4
  have hi2':((i:Int)+1<s.length)=True:=eq_true (by omega)
  obtain⟨e,r',hre⟩:∃ e r',r=e::r':=by
   cases r with
   | nil=>have:=congrArg List.length hr;simp at this;omega
   | cons e r'=>exact⟨e,r',rfl⟩
  have hge:s.getD (i+1) 0=e:=by
   have:(s.drop (i+1)).getD 0 0=e:=by rw[hr,hre];rfl
   simpa[List.getD_eq_getElem?_getD] using this
  have hne:e≠10:=by rw[hre] at h10;simpa using h10
  have hgn:¬ ((e.toNat:Int)=10):=fun x=>hne (UInt8.toNat_inj.1 (by simpa using (by omega:e.toNat=10)))
  have hg1:((i:Int)+1).toNat=i+1:=by omega
  simp(disch:=omega) only[hlt',hc,hcn,hb1,hb2,go_sem]
  refine YO h5 (by omega) (by simp only[maxLen];omega) fun b' cap' H2 hm=>?_
  simp(disch:=omega) only[hc,hcn,wrap64,hi2',hg1,hge,hgn,go_sem]
  refine goJ (hJ (i+1,i+1,l++[(s.take i).drop fr],b',cap') H2 (by simp only;omega) ⟨Al4 _,by simp only;omega,by simp;omega,?_,fun _=>hm⟩) (by simp(disch:=omega) only[Z6 hne9,Al5,Al2,Al3,Nat.zero_add,Int.natCast_add,go_sem])
  rw[hr]
  simpa using h4
 obtain⟨r',hre⟩:∃ r',r=10::r':=by
  cases r with
  | nil=>cases h10
  | cons e r'=>simp only[List.head?_cons,Al1] at h10;subst h10;exact⟨r',rfl⟩
 rw[hre,zbz] at h4
 have hi2:i+1<s.length:=by
  have:=congrArg List.length hr;rw[hre] at this;simp at this;omega
 have hi2':((i:Int)+1<s.length)=True:=eq_true (by omega)
 have hge:s.getD (i+1) 0=10:=by
  have:(s.drop (i+1)).getD 0 0=10:=by rw[hr,hre];rfl
  simpa[List.getD_eq_getElem?_getD] using this
 have hgn:((10:UInt8).toNat:Int)=10:=rfl
 have hg1:((i:Int)+1).toNat=i+1:=by omega
 have hr2:s.drop (i+1+1)=r':=by rw[← List.drop_drop,hr,hre];rfl
 simp(disch:=omega) only[hlt',hc,hcn,hb1,hb2,go_sem]
 refine YO h5 (by omega) (by simp only[maxLen];omega) fun b' cap' H2 hm=>?_
 simp(disch:=omega) only[hc,hcn,wrap64,hi2',hg1,hge,hgn,go_sem]
 refine goJ (hJ (i+1+1,i+1+1,l++[(s.take i).drop fr],b',cap') H2 (by simp only;omega) ⟨Al4 _,by simp only;omega,by simp;omega,?_,fun _=>hm⟩) (by simp(disch:=omega) only[Z6 hne9,Al5,Al2,Al3,Nat.zero_add,Int.natCast_add,go_sem])
 rw[hr2]
 simpa using h4
theorem zb8 (c:UInt8):zbC c=true↔(c.toNat:Int)=9∨(c.toNat:Int)=32:=by
 simp only[zbC,zbQ,zu]
 constructor
 ·rintro(rfl|rfl)
  ·exact .inl rfl
  ·exact .inr rfl
 ·rintro(h|h)
  ·exact .inl (UInt8.toNat_inj.1 (by simpa using (by omega:c.toNat=9)))
  ·exact .inr (UInt8.toNat_inj.1 (by simpa using (by omega:c.toNat=32)))
theorem zem {a r:List UInt8} {c:UInt8} (ha:∀ x∈a,zbC x=true) (hc:zbC c=false):Za (a++c::r)=a.length∧zA (a++c::r)=false:=by
 refine⟨?_,?_⟩
 ·unfold Za
  induction a with
  | nil=>simp[hc]
  | cons x a ih=>simp[ha x (.head _),ih fun y hy=>ha y (.tail _ hy)]
 ·simp[zA,hc]
theorem zfJ {a:List UInt8} (ha:∀ x∈a,zbC x=true):Za a=a.length∧zA a=true:=by
 have hb:zA a=true:=Yz.2 ha
 exact⟨zeG hb,hb⟩
theorem YX (s:List UInt8) (hs:s.length≤Lim):Pure Tryz.prog 246 [.str s] (.tup [.int .i64 (Za s),.bool (!zA s)]):=by
 refine Pure.go ir246 ck246 (Al4 _) fun KP Q hQ=>?_
 have hs':=hs
 simp only[Lim] at hs'
 simp(disch:=omega) only[ir246,go_sem]
 refine goL_range s 7 (fun _:AV=>[]) (fun done rest _ H'=>∀ x∈done,zbC x=true) (.int .i64 0) (by simp(disch:=omega) only[go_sem]) (fun x hx=>nomatch hx) ?_ ?_
 ·rintro y H1 J hdn hlt
  obtain⟨g1,g2⟩:=zfJ hdn
  simp(disch:=omega) only[hlt,go_sem]
  exact hQ _ _ _ _ nofun rfl (by simp[tupOf,envOf,AV.strip,AV.strip1,g1,g2])
 ·rintro done c rest y H1 J hd hlt hlt2 hdn hJ
  have hc:s.getD done.length 0=c:=by rw[hd];simp
  cases hb:zbC c with
  | false =>
   obtain⟨g1,g2⟩:=zem (r:=rest) hdn hb
   rw[← hd] at g1 g2
   have hn:¬ ((c.toNat:Int)=9∨(c.toNat:Int)=32):=fun h=>by rw[(zb8 c).2 h] at hb;cases hb
   have n9:¬ ((c.toNat:Int)=9):=fun h=>hn (.inl h)
   have n32:¬ ((c.toNat:Int)=32):=fun h=>hn (.inr h)
   simp(disch:=omega) only[hlt,hc,n9,n32,go_sem]
   exact hQ _ _ _ _ nofun rfl (by simp[tupOf,envOf,AV.strip,AV.strip1,g1,g2])
  | true =>
   have hall:∀ x∈done++[c],zbC x=true:=fun x hx=>by
    rcases List.mem_append.1 hx with h|h
    ·exact hdn x h
    ·simp at h;subst h;exact hb
   rcases(zb8 c).1 hb with h9|h32
   ·simp(disch:=omega) only[hlt,hc,h9,wrap64,go_sem]
    exact goJ (hJ (.int .i64 0) _ hall) (by simp(disch:=omega) only[go_sem])
   ·have n9:¬ ((c.toNat:Int)=9):=by omega
    simp(disch:=omega) only[hlt,hc,n9,h32,wrap64,go_sem]
    exact goJ (hJ (.int .i64 0) _ hall) (by simp(disch:=omega) only[go_sem])
theorem zdV (s:List UInt8) (hs:s.length≤Lim):Pure Tryz.prog 260 [.str s] (.tup [.int .i64 (Za s),.bool (!zA s)]):=by
 refine Pure.go ir260 ck260 (Al4 _) fun KP Q hQ=>?_
 have hs':=hs
 simp only[Lim] at hs'
 simp(disch:=omega) only[ir260,go_sem]
 refine goL_range s 4 (fun _:AV=>[]) (fun done rest _ H'=>∀ x∈done,zbC x=true) (.int .i64 0) (by simp(disch:=omega) only[go_sem]) (fun x hx=>nomatch hx) ?_ ?_
 ·rintro y H1 J hdn hlt
  obtain⟨g1,g2⟩:=zfJ hdn
  simp(disch:=omega) only[hlt,go_sem]
  exact hQ _ _ _ _ nofun rfl (by simp[tupOf,envOf,AV.strip,AV.strip1,g1,g2])
 ·rintro done c rest y H1 J hd hlt hlt2 hdn hJ
  have hc:s.getD done.length 0=c:=by rw[hd];simp
  cases hb:zbC c with
  | false =>
   obtain⟨g1,g2⟩:=zem (r:=rest) hdn hb
   rw[← hd] at g1 g2
   have hn:¬ ((c.toNat:Int)=9∨(c.toNat:Int)=32):=fun h=>by rw[(zb8 c).2 h] at hb;cases hb
   have n9:¬ ((c.toNat:Int)=9):=fun h=>hn (.inl h)
   have n32:¬ ((c.toNat:Int)=32):=fun h=>hn (.inr h)
   simp(disch:=omega) only[hlt,hc,n9,n32,go_sem]
   exact hQ _ _ _ _ nofun rfl (by simp[tupOf,envOf,AV.strip,AV.strip1,g1,g2])
  | true =>
   have hall:∀ x∈done++[c],zbC x=true:=fun x hx=>by
    rcases List.mem_append.1 hx with h|h
    ·exact hdn x h
    ·simp at h;subst h;exact hb
   rcases(zb8 c).1 hb with h9|h32
   ·simp(disch:=omega) only[hlt,hc,h9,wrap64,go_sem]
    exact goJ (hJ (.int .i64 0) _ hall) (by simp(disch:=omega) only[go_sem])
   ·have n9:¬ ((c.toNat:Int)=9):=by omega
    simp(disch:=omega) only[hlt,hc,n9,h32,wrap64,go_sem]
    exact goJ (hJ (.int .i64 0) _ hall) (by simp(disch:=omega) only[go_sem])
theorem zau (s:List UInt8) (hs:s.length≤Lim):Pure Tryz.prog 218 [.str s] (.bool (zA s)):=by
 refine Pure.go ir218 ck218 (Al4 _) fun KP Q hQ=>?_
 simp(disch:=omega) only[ir218,go_sem]
 refine goK_pure (YX s hs) ?_
 simp(disch:=omega) only[go_sem]
 exact hQ _ _ _ _ nofun rfl (by simp[tupOf,envOf,AV.strip,AV.strip1])
theorem zaW (s:List UInt8) (hs:s.length≤Lim):Pure Tryz.prog 241 [.str s] (.bool (zA s)):=by
 refine Pure.go ir241 ck241 (Al4 _) fun KP Q hQ=>?_
 simp(disch:=omega) only[ir241,go_sem]
 refine goK_pure (zdV s hs) ?_
 simp(disch:=omega) only[go_sem]
 exact hQ _ _ _ _ nofun rfl (by simp[tupOf,envOf,AV.strip,AV.strip1])
theorem zaB {l a:List (List UInt8)} {x:List UInt8} {b:List (List UInt8)} (h:l=a++x::b) (tl:List AV):((yJ l++tl).drop (0+a.length*1)).take 1=[.str x]:=by
 subst h;simp[yJ]
theorem zb2 {l a:List (List UInt8)} {x:List UInt8} {b:List (List UInt8)} (h:l=a++x::b) (tl:List AV):0+a.length*1+1≤(yJ l++tl).length:=by
 subst h;simp[yJ]
theorem zi3 {H:Heap} {b cap:Nat} {l:List (List UInt8)} (h:MsT H b cap l) (hx:∀ s∈l,s.length≤Lim) (hl:l.length≤Lim) :
  ACalls Tryz.prog 217 [.ms b 0 l.length cap] H (zlr fun v H'=>v=.int .i64 (indM l)∧H'=H):=by
 obtain⟨tl,hb,hc⟩:=h
 refine ACalls.go ir217 ck217 (Al4 _) fun KP Q hQ=>?_
 have hl':=hl
 simp only[Lim] at hl'
 simp(disch:=omega) only[ir217,go_sem]
 refine goL_range l 10 (fun n:Int=>[(3,.int .i64 n)]) (fun done rest n H'=>H'=H∧((done=[]∧n=-1)∨(done≠[]∧zaf rest n=indM l))) (-1) (by simp(disch:=omega) only[go_sem]) ⟨rfl,.inl ⟨rfl,rfl⟩⟩ ?_ ?_
 ·rintro n H1 J ⟨rfl,hi⟩ hlt
  have e:n=indM l:=by
   rcases hi with ⟨h1,h2⟩|⟨_,h2⟩
   ·subst h1;subst h2;rfl
   ·simpa[zaf] using h2
  simp(disch:=omega) only[hlt,go_sem]
  exact hQ _ _ _ _ [_] nofun rfl (Low.refl _) ⟨by simp[tupOf,envOf,AV.strip,AV.strip1,e],rfl⟩
 ·rintro done x rest n H1 J hd hlt hlt2 ⟨rfl,hi⟩ hJ
  have hg:=zaB hd tl
  have hle:=zb2 hd tl
  have hxl:=hx x (by rw[hd];simp)
  have hne:done++[x]≠[]:=by simp
  by_cases h0:done.length=0
  ·have h0':((done.length:Int)=0)=True:=eq_true (by omega)
   have hdn:=zhF.1 h0
   have e1:n=-1:=by
    rcases hi with ⟨_,h2⟩|⟨h1,_⟩
    ·exact h2
    ·exact absurd hdn h1
   have e2:rest=l.tail:=by rw[hd,hdn];rfl
   simp(disch:=omega) only[hlt,hb,hg,hle,go_sem]
   refine goK_pure (YX x hxl) ?_
   simp(disch:=omega) only[h0',wrap64,go_sem]
   exact goJ (hJ n _ ⟨rfl,.inr ⟨hne,by rw[e1,e2];rfl⟩⟩) (by simp(disch:=omega) only[go_sem])
  have h0':¬ ((done.length:Int)=0):=by omega
  have e1:zaf (x::rest) n=indM l:=by
   rcases hi with ⟨h1,_⟩|⟨_,h2⟩
   ·rw[h1] at h0;exact absurd rfl h0
   ·exact h2
  simp only[zaf] at e1
  cases hbr:zA x with
  | true =>
   rw[hbr,if_pos rfl] at e1
   simp(disch:=omega) only[hlt,hb,hg,hle,go_sem]
   refine goK_pure (YX x hxl) ?_
   simp(disch:=omega) only[h0',hbr,wrap64,go_sem]
   exact goJ (hJ n _ ⟨rfl,.inr ⟨hne,e1⟩⟩) (by simp(disch:=omega) only[go_sem])
  | false =>
   rw[hbr,if_neg (by decide)] at e1
   by_cases hn:n<0
   ·rw[if_pos (.inl hn)] at e1
    simp(disch:=omega) only[hlt,hb,hg,hle,go_sem]
    refine goK_pure (YX x hxl) ?_
    simp(disch:=omega) only[h0',hbr,hn,wrap64,go_sem]
    exact goJ (hJ (Za x) _ ⟨rfl,.inr ⟨hne,e1⟩⟩) (by simp(disch:=omega) only[go_sem])
   ·by_cases hn2:(Za x:Int)<n
    ·rw[if_pos (.inr hn2)] at e1
     simp(disch:=omega) only[hlt,hb,hg,hle,go_sem]
     refine goK_pure (YX x hxl) ?_
     simp(disch:=omega) only[h0',hbr,hn,hn2,wrap64,go_sem]
     exact goJ (hJ (Za x) _ ⟨rfl,.inr ⟨hne,e1⟩⟩) (by simp(disch:=omega) only[go_sem])
    ·rw[if_neg (by rintro(h|h)<;>contradiction)] at e1
     simp(disch:=omega) only[hlt,hb,hg,hle,go_sem]
     refine goK_pure (YX x hxl) ?_
     simp(disch:=omega) only[h0',hbr,hn,hn2,wrap64,go_sem]
     exact goJ (hJ n _ ⟨rfl,.inr ⟨hne,e1⟩⟩) (by simp(disch:=omega) only[go_sem])
theorem zhf {α:Type} {l:List α} {i:Nat} (h:i<l.length):∃ a x b,l=a++x::b∧a.length=i:=⟨l.take i,l[i],l.drop (i+1),by simp,by simp;omega⟩
theorem zjv {H:Heap} {b cap:Nat} {l:List (List UInt8)} (h:MsT H b cap l) (hx:∀ s∈l,s.length≤Lim) (hl:l.length≤Lim) :
  ACalls Tryz.prog 240 [.ms b 0 l.length cap] H (zlr fun v H'=>v=.int .i64 (indM l)∧H'=H):=by
 obtain⟨tl,hb,hc⟩:=h
 refine ACalls.go ir240 ck240 (Al4 _) fun KP Q hQ=>?_
 have hl':=hl
 simp only[Lim] at hl'
 simp(disch:=omega) only[ir240,go_sem]
 refine goL_st (fun x:Nat×Int=>[(3,.int .i64 x.2),(4,.int .i64 ((x.1:Int)+1))]) (fun x H'=>H'=H∧zaf (l.drop (x.1+1)) x.2=indM l) (fun x=>l.length-x.1) (0,-1) (by simp(disch:=omega) only[go_sem]) ⟨rfl,by simp[indM]⟩ ?_
 rintro⟨i,n⟩ H1 J ⟨rfl,hi⟩ hJ
 simp only at hi
 by_cases hlt:i+1<l.length
 case neg =>
  have hlt':¬ ((i:Int)+1<l.length):=by omega
  rw[List.drop_eq_nil_of_le (by omega)] at hi
  have e:n=indM l:=by simpa[zaf] using hi
  simp(disch:=omega) only[hlt',go_sem]
  exact hQ _ _ _ _ [_] nofun rfl (Low.refl _) ⟨by simp[tupOf,envOf,AV.strip,AV.strip1,e],rfl⟩
 have hlt':((i:Int)+1<l.length)=True:=eq_true (by omega)
 obtain⟨a,x,r,hd,ha⟩:=zhf hlt
 have hg:=zaB hd tl
 have hle:=zb2 hd tl
 rw[ha] at hg hle
 have hxl:=hx x (by rw[hd];simp)
 have h1:((i:Int)+1).toNat=i+1:=by omega
 have hdr:l.drop (i+1)=x::r:=by rw[hd,← ha];simp
 have hdr2:l.drop (i+1+1)=r:=by rw[← List.drop_drop,hdr];rfl
 rw[hdr] at hi
 simp only[zaf] at hi
 cases hbr:zA x with
 | true =>
  rw[hbr,if_pos rfl] at hi
  simp(disch:=omega) only[hlt',h1,hb,hg,hle,go_sem]
  refine goK_pure (zdV x hxl) ?_
  simp(disch:=omega) only[hbr,wrap64,go_sem]
  exact goJ (hJ (i+1,n) _ (by simp only;omega) ⟨rfl,by simp only;rw[hdr2];exact hi⟩) (by simp(disch:=omega) only[Int.natCast_add,go_sem])
 | false =>
  rw[hbr,if_neg (by decide)] at hi
  by_cases hn:n<0
  ·rw[if_pos (.inl hn)] at hi
   simp(disch:=omega) only[hlt',h1,hb,hg,hle,go_sem]
   refine goK_pure (zdV x hxl) ?_
   simp(disch:=omega) only[hbr,hn,wrap64,go_sem]
   exact goJ (hJ (i+1,Za x) _ (by simp only;omega) ⟨rfl,by simp only;rw[hdr2];exact hi⟩) (by simp(disch:=omega) only[Int.natCast_add,go_sem])
  ·by_cases hn2:(Za x:Int)<n
   ·rw[if_pos (.inr hn2)] at hi
    simp(disch:=omega) only[hlt',h1,hb,hg,hle,go_sem]
    refine goK_pure (zdV x hxl) ?_
    simp(disch:=omega) only[hbr,hn,hn2,wrap64,go_sem]
    exact goJ (hJ (i+1,Za x) _ (by simp only;omega) ⟨rfl,by simp only;rw[hdr2];exact hi⟩) (by simp(disch:=omega) only[Int.natCast_add,go_sem])
   ·rw[if_neg (by rintro(h|h)<;>contradiction)] at hi
    simp(disch:=omega) only[hlt',h1,hb,hg,hle,go_sem]
    refine goK_pure (zdV x hxl) ?_
    simp(disch:=omega) only[hbr,hn,hn2,wrap64,go_sem]
    exact goJ (hJ (i+1,n) _ (by simp only;omega) ⟨rfl,by simp only;rw[hdr2];exact hi⟩) (by simp(disch:=omega) only[Int.natCast_add,go_sem])
theorem zdh (s cur:List UInt8):zM cur s≠[]:=by
 cases s with
 | nil=>simp[zM]
 | cons c s =>
  by_cases h:c=10∨c=13
  ·rcases h with rfl|rfl
   ·rw[zcs];simp
   ·by_cases h10:s.head?=some 10
    ·cases s with
     | nil=>cases h10
     | cons d s=>simp only[List.head?_cons,Al1] at h10;subst h10;rw[zbz];simp
    ·rw[zcu h10];simp
  ·rw[zae h];exact zdh s _
termination_by s.length
theorem YZ:∀(s cur:List UInt8),((zM cur s).map fun x=>x.length+1).sum≤cur.length+s.length+1
 | [],cur=>by simp[zM]
 | [c],cur=>by simp only[zM];split<;>simp
 | c::d::r,cur=>by
  have h1:=YZ (d::r)
  have h2:=YZ r
  simp only[zM]
  repeat' split
  all_goals simp only[Al2,List.map_cons,List.sum_cons] at h1 ⊢
  ·have:=h1 [];simp only[Al3] at this;omega
  ·have:=h2 [];simp only[Al3] at this;omega
  ·have:=h1 [];simp only[Al3] at this;omega
  ·have:=h1 (cur++[c]);simp only[Al5,Al2,Al3] at this;omega
termination_by s=>s.length
theorem zjM {l:List (List UInt8)} {x:List UInt8} (h:x∈l):x.length+1≤(l.map fun x=>x.length+1).sum:=by
 obtain⟨a,b,rfl⟩:=List.append_of_mem h
 simp;omega
def AtR (cells:List AV) (off:Nat) (cur:List (List UInt8)):Prop:=∃ pre post,cells=pre++(yJ cur++post)∧pre.length=off
theorem AtR.get {cells:List AV} {off:Nat} {cur a:List (List UInt8)} {x:List UInt8} {r:List (List UInt8)} (h:AtR cells off cur) (hc:cur=a++x::r):(cells.drop (off+a.length*1)).take 1=[.str x]∧off+a.length*1+1≤cells.length:=by
 obtain⟨pre,post,rfl,rfl⟩:=h
 subst hc
 refine⟨?_,by simp[yJ];omega⟩
 rw[Nat.mul_one,← List.drop_drop,List.drop_left]
 simp[yJ]
theorem AtR.le {cells:List AV} {off:Nat} {cur:List (List UInt8)} (h:AtR cells off cur):off+cur.length≤cells.length:=by
 obtain⟨pre,post,rfl,rfl⟩:=h
 simp[yJ]
theorem AtR.front {cells:List AV} {b off cap:Nat} {x:List UInt8} {r:List (List UInt8)} (h:AtR cells off (x::r)) (hc:r.length+1≤cap) :
  ∃ off2,msCut 1 b off (r.length+1) cap (some 1) (some ((r.length+1:Nat):Int))=some (.ms b off2 r.length (cap-1))∧AtR cells off2 r:=by
 obtain⟨pre,post,rfl,rfl⟩:=h
 have e:(((r.length+1:Nat):Int)).toNat-(1:Int).toNat=r.length:=by omega
 by_cases h1:cap=1
 ·obtain rfl:r=[]:=zhF.1 (by omega)
  exact⟨pre.length,by simp[msCut,h1],pre,.str x::post,by simp[yJ],rfl⟩
 ·refine⟨pre.length+1,?_,pre++[.str x],post,by simp[yJ],by simp⟩
  unfold msCut
  simp only
  rw[if_pos (by omega),if_neg (by simpa using h1),e]
  simp
theorem zdj {b off cap len k:Nat} (h:k≤len):msCut 1 b off len cap (some 0) (some (k:Int))=some (.ms b off k cap):=by
 unfold msCut
 simp only
 rw[if_pos (by omega)]
 simp
theorem AtR.back {cells:List AV} {off:Nat} {x:List UInt8} {r:List (List UInt8)} (h:AtR cells off (r++[x])):AtR cells off r:=by
 obtain⟨pre,post,rfl,rfl⟩:=h
 exact⟨pre,.str x::post,by simp[yJ],rfl⟩
theorem zei:∀(cur:List (List UInt8)) (post:List AV),rowsA 1 cur.length (yJ cur++post)=cT cur
 | [],_=>rfl
 | x::r,post=>by
  have:=zei r post
  simp only[yJ] at this
  simp[rowsA,yJ,cT,AV.strip1,this]
theorem AtR.rows {cells:List AV} {off:Nat} {cur:List (List UInt8)} (h:AtR cells off cur):rowsA 1 cur.length (cells.drop off)=cT cur:=by
 obtain⟨pre,post,rfl,rfl⟩:=h
 rw[List.drop_left,zei]
def wL (l:List (List UInt8)):Nat:=(l.map fun x=>x.length+1).sum
theorem Z0 {l:List (List UInt8)} {x:List UInt8} (h:x∈l):x.length+1≤wL l:=zjM h
theorem zaG:∀ l:List (List UInt8),l.length≤wL l
 | []=>by simp
 | x::r=>by have:=zaG r;simp only[wL,List.map_cons,List.sum_cons,Al2] at this ⊢;omega
theorem zbL (a b:List (List UInt8)):wL (a++b)=wL a+wL b:=by simp[wL]
theorem Zh (x:List UInt8) (b:List (List UInt8)):wL (x::b)=x.length+1+wL b:=by simp[wL]
theorem zcV (n:Nat):∀ l:List (List UInt8),wL (l.map fun s=>s.drop n)≤wL l
 | []=>by simp[wL]
 | x::r=>by have:=zcV n r;simp only[List.map_cons,Zh,zU];omega
theorem za6:∀ l:List (List UInt8),(Lib.join l [10]).length≤wL l
 | []=>by simp[Lib.join]
 | [x]=>by simp[Lib.join,wL]
 | x::y::r=>by
  have:=za6 (y::r)
  have e:Lib.join (x::y::r) [10]=x++10::Lib.join (y::r) [10]:=by simp[Lib.join]
  rw[e,Zh]
  simp only[Al5,Al2];omega
theorem ZS (r:List (List UInt8)) (x:List UInt8):Zs (r++[x])=if zA x then Zs r else r++[x]:=by
 unfold Zs
 rw[List.reverse_append,List.reverse_singleton,List.singleton_append,List.dropWhile_cons]
 split
 ·rfl
 ·simp
theorem zg5 {α:Type} {l:List α} (h:l≠[]):∃ r x,l=r++[x]:=⟨l.dropLast,l.getLast h,(List.dropLast_concat_getLast h).symm⟩
theorem zfO (a:List (List UInt8)) (x y:List UInt8) (r:List (List UInt8)) (tl:List AV):splice (yJ (a++x::r)++tl) (0+a.length*1) [.str y]=yJ (a++y::r)++tl:=by
 have e:yJ (a++x::r)++tl=yJ a++(.str x::(yJ r++tl)):=by simp[yJ]
 rw[e]
 simp only[splice,Al2,Al3,Nat.zero_add,Nat.mul_one]
 rw[List.take_left' (ZC a),List.drop_append,List.drop_eq_nil_of_le (by rw[ZC];omega),ZC,Nat.add_sub_cancel_left]
 simp[yJ]
theorem zkk (raw:List UInt8) (hs:raw.length≤1099511600000):Pure Tryz.prog 175 [.str raw] (.str (zK raw)):=by
 refine Pure.go ir175 ck175 (Al4 _) fun KP Q hQ=>?_
 have hw0:wL (zo raw)≤raw.length+1:=by have:=YZ raw [];simpa[wL,zo] using this
 obtain⟨x0,T,hL⟩:∃ x T,zo raw=x::T:=by
  cases hx:zo raw with
  | nil=>exact absurd hx (zdh raw [])
  | cons x T=>exact⟨x,T,rfl⟩
 have hLl:=zaG (zo raw)
 simp(disch:=omega) only[ir175,go_sem]
 refine goK_ret (zj8 raw (by simp only[Lim];omega)) fun v H1 ⟨b,cap,hv,hm⟩=>?_
 subst hv
 have hm0:=hm
 obtain⟨tl,hb,hcap⟩:=hm
 simp(disch:=omega) only[go_sem]
 refine goK_ret (zi3 hm0 (fun s hsm=>by have:=Z0 hsm;simp only[Lim];omega) (by simp only[Lim];omega)) fun v H2 ⟨hv,hH⟩=>?_
 subst hv;subst hH
 by_cases hn:0<indM (zo raw)
 case neg =>
  have hn0:(indM (zo raw)).toNat=0:=by omega
  obtain⟨D,hDd⟩:∃ D,D=zo raw:=⟨_,rfl⟩
  have hDM:YJ (zo raw)=D:=by
   rw[hDd]
   conv=>lhs;rw[hL]
   simp only[YJ]
   rw[← hL,hn0]
   simp[hL]
  have hDl:D.length=(zo raw).length:=by rw[hDd]
  have hbX:H2 b=some (.cells (yJ D++tl)):=by rw[hDd];exact hb
  obtain⟨cells,hcells⟩:∃ cells,cells=yJ D++tl:=⟨_,rfl⟩
  rw[← hcells] at hbX
  have hwD:wL D≤1099511627777:=by rw[hDd];omega
  rw[← hDd] at hcap
  simp(disch:=omega) only[hn,go_sem]
  refine goL_st (fun x:Nat×Nat×List (List UInt8)=>[(3,.ms b x.1 x.2.2.length x.2.1)]) (fun x H'=>H'=H2∧AtR cells x.1 x.2.2∧x.2.2.length≤x.2.1∧x.2.2.dropWhile zA=D.dropWhile zA∧wL x.2.2≤wL D) (fun x=>x.2.2.length) (0,cap,D) (by simp(disch:=omega) only[hDl,go_sem]) ⟨rfl,⟨[],tl,by rw[hcells,zar],rfl⟩,by simp only;omega,rfl,Al4 _⟩ ?_
  rintro⟨off,cp,cur⟩ H3 J ⟨rfl,ha,hcp,hdw,hw⟩ hJ
  simp only at ha hcp hdw hw
  have stage2:∀ K:Unit,cur=D.dropWhile zA→True:=fun _ _=>trivial
  by_cases hcur:cur=[]
  case pos =>
   subst hcur
   have hD:D.dropWhile zA=[]:=by rw[← hdw];rfl
   simp(disch:=omega) only[Al3,go_sem]
   refine goL_st (fun x:Unit=>[]) (fun x H'=>H'=H3) (fun x=>0) () (by simp(disch:=omega) only[Al3,go_sem]) rfl ?_
   rintro⟨⟩ H4 J4 rfl hJ4
   simp(disch:=omega) only[Al3,go_sem]
   refine goZ_ms hbX (by decide) (by have:=ha.le;simpa using this) ?_
   have hr:=ha.rows
   simp only[Al3] at hr
   simp(disch:=omega) only[hr,go_sem]
   refine goK_pure (Y1 [] [10] (by simp[Lib.join]) (by simp)) ?_
   have e:zK raw=Lib.join [] [10]:=by
    unfold zK;rw[hDM,hD];rfl
   simp(disch:=omega) only[go_sem]
   exact hQ _ _ _ _ nofun rfl (by simp[tupOf,envOf,AV.strip,AV.strip1,e])
  obtain⟨x,r,hxr⟩:∃ x r,cur=x::r:=by cases cur with|nil=>exact absurd rfl hcur|cons x r=>exact⟨x,r,rfl⟩
  have hxl:x.length≤Lim:=by have:=Z0 (l:=cur) (x:=x) (by rw[hxr];simp);simp only[Lim];omega
  obtain⟨hg,hle⟩:=ha.get (a:=[]) (x:=x) (r:=r) hxr
  simp only[Al3,Nat.zero_mul,Nat.add_zero] at hg hle
  have hcl:cur.length=r.length+1:=by rw[hxr];rfl
  have hpos:((0:Int)<(cur.length:Int))=True:=eq_true (by omega)
  have h1l:((1:Int)≤(cur.length:Int))=True:=eq_true (by omega)
  cases hbr:zA x with
  | true =>
   obtain⟨off2,hcut,hat⟩:=AtR.front (b:=b) (cap:=cp) (by rw[← hxr];exact ha) (by omega)
   rw[← hcl] at hcut
   simp(disch:=omega) only[hpos,hbX,hg,hle,Nat.zero_mul,Nat.add_zero,go_sem]
   refine goK_pure (zau x hxl) ?_
   simp(disch:=omega) only[hbr,hpos,h1l,hcut,go_sem]
   refine goJ (hJ (off2,cp-1,r) H3 (by simp only;omega) ⟨rfl,hat,by simp only;omega,by rw[← hdw,hxr];simp[hbr],by rw[hxr,Zh] at hw;simp only;omega⟩) (by simp(disch:=omega) only[go_sem])
  | false =>
   have hDc:D.dropWhile zA=cur:=by rw[← hdw,hxr];simp[hbr]
   simp(disch:=omega) only[hpos,hbX,hg,hle,Nat.zero_mul,Nat.add_zero,go_sem]
   refine goK_pure (zau x hxl) ?_
   simp(disch:=omega) only[hbr,go_sem]
   refine goL_st (fun x:List (List UInt8)=>[(3,.ms b off x.length cp)]) (fun x H'=>H'=H3∧AtR cells off x∧Zs x=Zs cur∧wL x≤wL D∧x.length≤cp) (fun x=>x.length) cur (by simp(disch:=omega) only[go_sem]) ⟨rfl,ha,rfl,hw,hcp⟩ ?_
   rintro u H4 J4 ⟨rfl,ha4,ht4,hw4,hc4⟩ hJ4
   by_cases hu:u=[]
   ·subst hu
    simp(disch:=omega) only[Al3,go_sem]
    refine goZ_ms hbX (by decide) (by have:=ha4.le;simpa using this) ?_
    have hr:=ha4.rows
    simp only[Al3] at hr
    simp(disch:=omega) only[hr,go_sem]
    refine goK_pure (Y1 [] [10] (by simp[Lib.join]) (by simp)) ?_
    have e:zK raw=Lib.join [] [10]:=by
     unfold zK;rw[hDM,hDc,← ht4];rfl
    simp(disch:=omega) only[go_sem]
    exact hQ _ _ _ _ nofun rfl (by simp[tupOf,envOf,AV.strip,AV.strip1,e])
   obtain⟨q,y,hqy⟩:=zg5 hu
   have hyl:y.length≤Lim:=by have:=Z0 (l:=u) (x:=y) (by rw[hqy];simp);simp only[Lim];omega
   obtain⟨hg4,hle4⟩:=ha4.get (a:=q) (x:=y) (r:=[]) hqy
   have hul:u.length=q.length+1:=by rw[hqy];simp
   have hpos4:((0:Int)<(u.length:Int))=True:=eq_true (by omega)
   have wq:IntKind.wrap .i64 ((u.length:Int)-1)=(q.length:Int):=by rw[wrap64 (by omega) (by have:=zaG u;omega)];omega
   have h1q:((q.length:Int)<(u.length:Int))=True:=eq_true (by omega)
   have h2q:((q.length:Int)≤(u.length:Int))=True:=eq_true (by omega)
   cases hby:zA y with
   | true =>
    simp(disch:=omega) only[hpos4,wq,h1q,hbX,hg4,hle4,go_sem]
    refine goK_pure (zau y hyl) ?_
    have hcut:=zdj (b:=b) (off:=off) (cap:=cp) (show q.length≤u.length by omega)
    simp(disch:=omega) only[hby,wq,h1q,h2q,hcut,go_sem]
    refine goJ (hJ4 q H4 (by omega) ⟨rfl,AtR.back (x:=y) (by rw[← hqy];exact ha4),by rw[← ht4,hqy,ZS,hby];rfl,by rw[hqy,zbL] at hw4;omega,by omega⟩) (by simp(disch:=omega) only[go_sem])
   | false =>
    have hlen:=zaG u
    simp(disch:=omega) only[hpos4,wq,h1q,hbX,hg4,hle4,go_sem]
    refine goK_pure (zau y hyl) ?_
    simp(disch:=omega) only[hby,go_sem]
    refine goZ_ms hbX (by decide) (by have:=ha4.le;omega) ?_
    have hr:=ha4.rows
    have hj:=za6 u
    simp(disch:=omega) only[hr,go_sem]
    refine goK_pure (Y1 u [10] (by omega) (by omega)) ?_
    have e:zK raw=Lib.join u [10]:=by
     unfold zK;rw[hDM,hDc,← ht4,hqy,ZS,hby];rfl
    simp(disch:=omega) only[go_sem]
    exact hQ _ _ _ _ nofun rfl (by simp[tupOf,envOf,AV.strip,AV.strip1,e])
 case pos =>
  obtain⟨n,hne⟩:∃ n:Nat,indM (zo raw)=n:=⟨(indM (zo raw)).toNat,by omega⟩
  have hnl:n≤1099511627777:=by
   by_cases hall:∀ s∈(zo raw).tail,zA s=true
   ·have:∀(l:List (List UInt8)),(∀ s∈l,zA s=true)→zaf l (-1)=-1:=by
     intro l
     induction l with
     | nil=>intro _;rfl
     | cons a l ih=>intro h;simp only[zaf,h a (.head _),if_true];exact ih fun s hs=>h s (.tail _ hs)
    have:=this _ hall
    have e:indM (zo raw)=zaf (zo raw).tail (-1):=rfl
    omega
   ·obtain⟨s,hs⟩:=Classical.not_forall.1 hall
    obtain⟨hs,hb2⟩:=Classical.not_imp.1 hs
    have h1:=(zfd (zo raw).tail (-1)).2 s hs (by simpa using hb2)
    have h2:=Z0 (List.mem_of_mem_tail hs)
    have h3:Za s≤s.length:=(List.takeWhile_sublist _).length_le
    have e:indM (zo raw)=zaf (zo raw).tail (-1):=rfl
    omega
  have hL2:=hL
  rw[hL] at hLl hw0
  have hcap0:=hcap
  rw[hL] at hb hcap0
  have hn':((0:Int)<(n:Int))=True:=eq_true (by omega)
  rw[hne]
  simp(disch:=omega) only[hn',go_sem]
  refine goL_st (fun x:List (List UInt8)×List (List UInt8)=>[(5,.int .i64 ((x.1.length:Int)+1))]) (fun x H'=>T=x.1++x.2∧H' b=some (.cells (yJ (x0::(x.1.map (fun s=>s.drop n)++x.2))++tl))) (fun x=>x.2.length) ([],T) (by simp(disch:=omega) only[Al3,go_sem]) ⟨rfl,by simpa using hb⟩ ?_
  rintro⟨dn,rest⟩ H3 J3 ⟨hT,hb3⟩ hJ3
  simp only at hT hb3
  have hll:(zo raw).length=dn.length+rest.length+1:=by rw[hL,hT];simp
  cases rest with
  | nil =>
   have hlt:¬ ((dn.length:Int)+1<((zo raw).length:Int)):=by simp at hll;omega
   obtain⟨D,hDd⟩:∃ D,D=x0::T.map fun s=>s.drop n:=⟨_,rfl⟩
   have hDM:YJ (zo raw)=D:=by
    conv=>lhs;rw[hL]
    simp only[YJ]
    rw[← hL,hne,hDd];rfl
   have hDl:D.length=(zo raw).length:=by rw[hDd,hL];simp
   have hbX:H3 b=some (.cells (yJ D++tl)):=by
    rw[hb3,hDd,hT];simp
   obtain⟨cells,hcells⟩:∃ cells,cells=yJ D++tl:=⟨_,rfl⟩
   rw[← hcells] at hbX
   have hwD:wL D≤1099511627777:=by
    have:=zcV n T
    rw[hDd,Zh];rw[Zh] at hw0;omega
   have hcap:D.length+tl.length=cap:=by rw[hDl];exact hcap
   clear hJ3 hb3
   simp(disch:=omega) only[hlt,go_sem]
   refine goL_st (fun x:Nat×Nat×List (List UInt8)=>[(3,.ms b x.1 x.2.2.length x.2.1)]) (fun x H'=>H'=H3∧AtR cells x.1 x.2.2∧x.2.2.length≤x.2.1∧x.2.2.dropWhile zA=D.dropWhile zA∧wL x.2.2≤wL D) (fun x=>x.2.2.length) (0,cap,D) (by simp(disch:=omega) only[hDl,go_sem]) ⟨rfl,⟨[],tl,by rw[hcells,zar],rfl⟩,by simp only;omega,rfl,Al4 _⟩ ?_
   rintro⟨off,cp,cur⟩ H5 J5 ⟨rfl,ha,hcp,hdw,hw⟩ hJ5
   simp only at ha hcp hdw hw
   have stage2:∀ K:Unit,cur=D.dropWhile zA→True:=fun _ _=>trivial
   by_cases hcur:cur=[]
   case pos =>
    subst hcur
    have hD:D.dropWhile zA=[]:=by rw[← hdw];rfl
    simp(disch:=omega) only[Al3,go_sem]
    refine goL_st (fun x:Unit=>[]) (fun x H'=>H'=H5) (fun x=>0) () (by simp(disch:=omega) only[Al3,go_sem]) rfl ?_
    rintro⟨⟩ H4 J4 rfl hJ4
    simp(disch:=omega) only[Al3,go_sem]
    refine goZ_ms hbX (by decide) (by have:=ha.le;simpa using this) ?_
    have hr:=ha.rows
    simp only[Al3] at hr
    simp(disch:=omega) only[hr,go_sem]
    refine goK_pure (Y1 [] [10] (by simp[Lib.join]) (by simp)) ?_
    have e:zK raw=Lib.join [] [10]:=by
     unfold zK;rw[hDM,hD];rfl
    simp(disch:=omega) only[go_sem]
    exact hQ _ _ _ _ nofun rfl (by simp[tupOf,envOf,AV.strip,AV.strip1,e])
   obtain⟨x,r,hxr⟩:∃ x r,cur=x::r:=by cases cur with|nil=>exact absurd rfl hcur|cons x r=>exact⟨x,r,rfl⟩
   have hxl:x.length≤Lim:=by have:=Z0 (l:=cur) (x:=x) (by rw[hxr];simp);simp only[Lim];omega
   obtain⟨hg,hle⟩:=ha.get (a:=[]) (x:=x) (r:=r) hxr
   simp only[Al3,Nat.zero_mul,Nat.add_zero] at hg hle
   have hcl:cur.length=r.length+1:=by rw[hxr];rfl
   have hpos:((0:Int)<(cur.length:Int))=True:=eq_true (by omega)
   have h1l:((1:Int)≤(cur.length:Int))=True:=eq_true (by omega)
   cases hbr:zA x with
   | true =>
    obtain⟨off2,hcut,hat⟩:=AtR.front (b:=b) (cap:=cp) (by rw[← hxr];exact ha) (by omega)
    rw[← hcl] at hcut
    simp(disch:=omega) only[hpos,hbX,hg,hle,Nat.zero_mul,Nat.add_zero,go_sem]
    refine goK_pure (zau x hxl) ?_
    simp(disch:=omega) only[hbr,hpos,h1l,hcut,go_sem]
    refine goJ (hJ5 (off2,cp-1,r) H5 (by simp only;omega) ⟨rfl,hat,by simp only;omega,by rw[← hdw,hxr];simp[hbr],by rw[hxr,Zh] at hw;simp only;omega⟩) (by simp(disch:=omega) only[go_sem])
   | false =>
    have hDc:D.dropWhile zA=cur:=by rw[← hdw,hxr];simp[hbr]
    simp(disch:=omega) only[hpos,hbX,hg,hle,Nat.zero_mul,Nat.add_zero,go_sem]
    refine goK_pure (zau x hxl) ?_
    simp(disch:=omega) only[hbr,go_sem]
    refine goL_st (fun x:List (List UInt8)=>[(3,.ms b off x.length cp)]) (fun x H'=>H'=H5∧AtR cells off x∧Zs x=Zs cur∧wL x≤wL D∧x.length≤cp) (fun x=>x.length) cur (by simp(disch:=omega) only[go_sem]) ⟨rfl,ha,rfl,hw,hcp⟩ ?_
    rintro u H4 J4 ⟨rfl,ha4,ht4,hw4,hc4⟩ hJ4
    by_cases hu:u=[]
    ·subst hu
     simp(disch:=omega) only[Al3,go_sem]
     refine goZ_ms hbX (by decide) (by have:=ha4.le;simpa using this) ?_
     have hr:=ha4.rows
     simp only[Al3] at hr
     simp(disch:=omega) only[hr,go_sem]
     refine goK_pure (Y1 [] [10] (by simp[Lib.join]) (by simp)) ?_
     have e:zK raw=Lib.join [] [10]:=by
      unfold zK;rw[hDM,hDc,← ht4];rfl
     simp(disch:=omega) only[go_sem]
     exact hQ _ _ _ _ nofun rfl (by simp[tupOf,envOf,AV.strip,AV.strip1,e])
    obtain⟨q,y,hqy⟩:=zg5 hu
    have hyl:y.length≤Lim:=by have:=Z0 (l:=u) (x:=y) (by rw[hqy];simp);simp only[Lim];omega
    obtain⟨hg4,hle4⟩:=ha4.get (a:=q) (x:=y) (r:=[]) hqy
    have hul:u.length=q.length+1:=by rw[hqy];simp
    have hpos4:((0:Int)<(u.length:Int))=True:=eq_true (by omega)
    have wq:IntKind.wrap .i64 ((u.length:Int)-1)=(q.length:Int):=by rw[wrap64 (by omega) (by have:=zaG u;omega)];omega
    have h1q:((q.length:Int)<(u.length:Int))=True:=eq_true (by omega)
    have h2q:((q.length:Int)≤(u.length:Int))=True:=eq_true (by omega)
    cases hby:zA y with
    | true =>
     simp(disch:=omega) only[hpos4,wq,h1q,hbX,hg4,hle4,go_sem]
     refine goK_pure (zau y hyl) ?_
     have hcut:=zdj (b:=b) (off:=off) (cap:=cp) (show q.length≤u.length by omega)
     simp(disch:=omega) only[hby,wq,h1q,h2q,hcut,go_sem]
     refine goJ (hJ4 q H4 (by omega) ⟨rfl,AtR.back (x:=y) (by rw[← hqy];exact ha4),by rw[← ht4,hqy,ZS,hby];rfl,by rw[hqy,zbL] at hw4;omega,by omega⟩) (by simp(disch:=omega) only[go_sem])
    | false =>
     have hlen:=zaG u
     simp(disch:=omega) only[hpos4,wq,h1q,hbX,hg4,hle4,go_sem]
     refine goK_pure (zau y hyl) ?_
     simp(disch:=omega) only[hby,go_sem]
     refine goZ_ms hbX (by decide) (by have:=ha4.le;omega) ?_
     have hr:=ha4.rows
     have hj:=za6 u
     simp(disch:=omega) only[hr,go_sem]
     refine goK_pure (Y1 u [10] (by omega) (by omega)) ?_
     have e:zK raw=Lib.join u [10]:=by
      unfold zK;rw[hDM,hDc,← ht4,hqy,ZS,hby];rfl
     simp(disch:=omega) only[go_sem]
     exact hQ _ _ _ _ nofun rfl (by simp[tupOf,envOf,AV.strip,AV.strip1,e])
  | cons y r =>
   have hlt:((dn.length:Int)+1<((zo raw).length:Int))=True:=eq_true (by simp at hll;omega)
   have hcur:x0::(dn.map (fun s=>s.drop n)++y::r)=(x0::dn.map (fun s=>s.drop n))++y::r:=rfl
   have hg:=zaB hcur tl
   have hle:=zb2 hcur tl
   have hal:(x0::dn.map (fun s=>s.drop n)).length=dn.length+1:=by simp
   have hst:∀ z,splice (yJ (x0::(dn.map (fun s=>s.drop n)++y::r))++tl) (0+(dn.length+1)*1) [.str z]=yJ (x0::(dn.map (fun s=>s.drop n)++z::r))++tl:=fun z=>by
    have:=zfO (x0::dn.map (fun s=>s.drop n)) y z r tl
    rw[hal] at this
    exact this
   rw[hal] at hg hle
   have h1:((dn.length:Int)+1).toNat=dn.length+1:=by omega
   have hy0:((0:Int)≤(y.length:Int))=True:=eq_true (by omega)
   have hln:dn.length≤1099511627777:=by omega
   by_cases hmin:(y.length:Int)<(n:Int)
   ·have hdr:y.drop y.length=y.drop n:=by rw[List.drop_length,List.drop_eq_nil_of_le (by omega)]
    simp(disch:=omega) only[hlt,h1,hb3,hg,hle,hst,hmin,hy0,List.drop_length,go_sem]
    refine goJ (hJ3 (dn++[y],r) _ (by simp) ⟨by rw[hT];simp,?_⟩) (by simp(disch:=omega) only[wrap64,Al5,Al2,Al3,Int.natCast_add,go_sem])
    rw[upd_same]
    simp[List.drop_eq_nil_of_le (show y.length≤n by omega)]
   ·have hny:((n:Int)≤(y.length:Int))=True:=eq_true (by omega)
    have hn0:((0:Int)≤(n:Int))=True:=eq_true (by omega)
    simp(disch:=omega) only[hlt,h1,hb3,hg,hle,hst,hmin,hny,hn0,go_sem]
    refine goJ (hJ3 (dn++[y],r) _ (by simp) ⟨by rw[hT];simp,?_⟩) (by simp(disch:=omega) only[wrap64,Al5,Al2,Al3,Int.natCast_add,go_sem])
    rw[upd_same]
    simp
end Go.Proofs.YtaielcdfcgpbiaaGreatDoor
set_option maxRecDepth 1000000
namespace Go.Proofs.YtaielcdfcgpbiaaGreatDoor
open Go.Shelf Go.RowKit Go.Lib
section
variable {P:Program} {ρ:Ren}
def eol:ByteArray:=⟨#[13,10]⟩
theorem zfY (w:World) (k:Nat) (s:ByteArray) (pos:Nat) (ty:TypeId) (hk:w.heap[k]?=some (.stringIter s pos)) (h:pos<s.size) :
  (Instr.next (.pointer (some ⟨k,0,none⟩)) true ty).run P w =
   .ok (.tuple #[.bool true,.int .i64 pos,.int .i32 (Utf8.decode s pos).1]) { w with heap:=w.heap.setIfInBounds k (.stringIter s (pos+(Utf8.decode s pos).2)) }:=by
 simp only[Instr.next,getObj,setObj,Sem.run_bind,Sem.run,hk,Result.andThen,h,if_true]
 simp[goInt]
theorem zdZ (w:World) (k:Nat) (s:ByteArray) (pos:Nat) (ty:TypeId) (hk:w.heap[k]?=some (.stringIter s pos)) (h:¬ pos<s.size) :
  (Instr.next (.pointer (some ⟨k,0,none⟩)) true ty).run P w=.ok (.tuple #[.bool false]) w:=by
 simp[Instr.next,getObj,Sem.run,hk,h]
set_option maxHeartbeats 4000000 in
theorem zeR (L:Lays.n152 P ρ) (w:World) :
  Calls P (ρ.f 152) #[.string eol,.int .i32 65533] w fun e w'=>e=.returned (.int .i64 (-1))∧Below w.heap.size w w':=by
 have t3:=L.t3;have a3:=L.a3;have z3:=L.z3;have v3:=L.v3
 have t4:=L.t4;have a4:=L.a4;have z4:=L.z4;have v4:=L.v4
 have t5:=L.t5;have a5:=L.a5;have z5:=L.z5;have v5:=L.v5
 have t9:=L.t9;have a9:=L.a9;have z9:=L.z9;have v9:=L.v9
 have t21:=L.t21;have a21:=L.a21;have z21:=L.z21;have v21:=L.v21
 have hsz:eol.size=2:=rfl
 go_enter L.f152,Body.n152_ntmps ρ
 go_wp2
 go_loopg [5,6] 2 (fun g _ _ wx=>∃ i:Nat,i+g=2∧wx=w.iter eol i)
 case atStart=>exact⟨0,by omega,rfl⟩
 case round =>
  obtain⟨i,hig,rfl⟩:=hrel
  cases gk with
  | zero =>
   obtain rfl:i=2:=by omega
   have hnx:=fun ty=>run_next_end (P:=P) w eol 2 ty (by decide)
   go_wp2
   go_ret
   exact⟨rfl,(Below.refl _ _).alloc (Al4 _) _⟩
  | succ g =>
   obtain⟨x,hx⟩:∃ x:UInt8,eol[i]'(by rw[hsz];omega)=x:=⟨_,rfl⟩
   have hxl:x.toNat=13∨x.toNat=10:=by
    rcases(by omega:i=0∨i=1) with rfl|rfl
    ·left;rw[← hx];rfl
    ·right;rw[← hx];rfl
   have hnx:=fun ty=>run_next_ascii (P:=P) w eol i ty (by rw[hsz];omega) (by rw[hx];omega)
   rw[hx] at hnx
   have hne:¬ ((x.toNat:Int)=65533):=by omega
   clear hx hxl
   go_wp2
   go_roundg g
   case measure=>omega
   case rel=>exact⟨i+1,by omega,rfl⟩
set_option maxHeartbeats 8000000 in
theorem zd5 (L:Lays.n152 P ρ) (r:Int) (h0:128≤r) (h1:r≠65533) (w:World) :
  Calls P (ρ.f 152) #[.string eol,.int .i32 r] w fun e w'=>e=.returned (.int .i64 (-1))∧Below w.heap.size w w':=by
 have t3:=L.t3;have a3:=L.a3;have z3:=L.z3;have v3:=L.v3
 have t4:=L.t4;have a4:=L.a4;have z4:=L.z4;have v4:=L.v4
 have t5:=L.t5;have a5:=L.a5;have z5:=L.z5;have v5:=L.v5
 have t9:=L.t9;have a9:=L.a9;have z9:=L.z9;have v9:=L.v9
 have t21:=L.t21;have a21:=L.a21;have z21:=L.z21;have v21:=L.v21
 have hsz:eol.size=2:=rfl
 have mixed:=L.mixed
 have u21:=run_underlying L.t21;have u9:=run_underlying L.t9
 have e137:∀ args w,(callFunc (ρ.f 137) args).run P w=.ok (.enter (ρ.f 137) args) w:=enters_of L.f137 (by kernel_rfl) rfl
 have e119:∀ args w,(callFunc (ρ.f 119) args).run P w=.ok (.enter (ρ.f 119) args) w:=enters_of L.f119 (by kernel_rfl) rfl
 have hr1:¬ (r<128):=by omega
 cases hv:Lib.validRune r with
 | false =>
  go_enter L.f152,Body.n152_ntmps ρ
  go_wp2_with (go_at_fn (ρ.f 119);refine(Any.utf8_ValidRune { L with } _ _).mono ?_;rintro e w' ⟨rfl,hw⟩;rw[hw,hv])
  go_ret
  exact⟨rfl,Below.refl _ _⟩
 | true =>
  have hv':Utf8.valid r=true:=by
   unfold Lib.validRune at hv
   unfold Utf8.valid
   simp only[zbQ,Al0,zu] at hv ⊢
   omega
  obtain⟨f1,f2,f3⟩:=encode_facts r hv' h0
  clear hv'
  obtain⟨rs,hrs⟩:∃ rs,Utf8.encode r=rs:=⟨_,rfl⟩
  rw[hrs] at f1 f2 f3
  have hconv:∀ w,(convert (ρ.t 21) (ρ.t 9) (.int .i32 r)).run P w=.ok (.string rs) w:=fun w=>by
   rw[run_convert_int_string w _ _ _ _ (by rw[t21];rfl) t9,hrs]
  have hlast:IntKind.i64.wrap ((rs.size:Int)-1)=(rs.size:Int)-1:=wrap_small _ (by omega) (by omega)
  clear hrs
  by_cases h2:rs.size=2
  ·obtain⟨b0,b1,rfl⟩:∃ b0 b1,rs=⟨#[b0,b1]⟩:=by
    obtain⟨⟨l⟩⟩:=rs
    match l,h2 with
    | [x,y],_=>exact⟨x,y,rfl⟩
   have hb:128≤b1.toNat:=f3 (by show 1<2;decide)
   have hz:(⟨#[b0,b1]⟩:ByteArray).size=2:=rfl
   have hne:¬ ((10:Int)=(b1.toNat:Int)):=by omega
   clear f1 f2 f3 h2
   rw[hz] at hlast
   go_enter L.f152,Body.n152_ntmps ρ
   go_wp2_with (go_at_fn (ρ.f 119);refine(Any.utf8_ValidRune { L with } _ _).mono ?_;rintro e w' ⟨rfl,hw⟩;rw[hw,hv])
   go_step3
   go_wp2
   go_loopg [9,10] 0 (fun g s9 s10 wx=>s9=.int .i64 1∧s10=.int .i64 0∧wx=w)
   case atStart=>exact⟨rfl,rfl,rfl⟩
   case round =>
    obtain⟨rfl,rfl,rfl⟩:=hrel
    go_wp2
    go_step3
    have hx:eol[1]'(by decide)=10:=rfl
    have hy:(⟨#[b0,b1]⟩:ByteArray)[1]'(by show 1<2;decide)=b1:=rfl
    go_wp2
    go_quiet_o (fail)
    go_wp2
    have hsl:∀ w,(Instr.slice (ρ.t 9) (.string eol) (some (.int .i64 2)) none none).run P w=.ok (.string ⟨#[]⟩) w:=fun w=>by
     rw[run_slice_string_from_if w _ eol .i64 2 t9]
     rfl
    generalize hW:World.drewN _ _=W
    have HW:Aside (∃ n,W=wr.drewN n):=⟨_,hW.symm⟩
    clear hW
    have hw2:IntKind.i64.wrap 2=2:=by decide
    go_quiet_o (first|(go_at_fn (ρ.f 137);refine Calls.quiet_of_same (Any.strings_IndexByte { L with } _ _ _)))
    go_wp2
    rw[Exit.noGoto_ret]
    go_wp2
    (try rw[Exit.noGoto_ret])
    (try go_wp2)
    go_ret
    obtain⟨n,rfl⟩:=HW.out
    exact⟨rfl,⟨rfl,rfl,rfl,Al4 _,fun _ _=>rfl⟩⟩
  ·have hlt:¬ ((rs.size:Int)-1<2):=by omega
   go_enter L.f152,Body.n152_ntmps ρ
   go_wp2_with (go_at_fn (ρ.f 119);refine(Any.utf8_ValidRune { L with } _ _).mono ?_;rintro e w' ⟨rfl,hw⟩;rw[hw,hv])
   go_step3
   go_wp2
   go_loopg [9,10] 0 (fun g s9 s10 wx=>s9=.int .i64 ((rs.size:Int)-1)∧s10=.int .i64 0∧wx=w)
   case atStart=>exact⟨rfl,rfl,rfl⟩
   case round =>
    obtain⟨rfl,rfl,rfl⟩:=hrel
    go_wp2
    rw[Exit.noGoto_ret];go_wp2
    go_ret
    exact⟨rfl,Below.refl _ _⟩
theorem zga (s:ByteArray) (i:Nat) (h:i<s.size):s.data.toList[i]?=some (s.get! i):=by
 rw[Lib.data_getElem? s i h]
 simp[ByteArray.get!,getElem!_pos,h]
 rfl
theorem zcl (s:ByteArray) (pos:Nat) (h:pos<s.size) (ha:128≤(s.get! pos).toNat) :
  128≤(Utf8.decode s pos).1∧1≤(Utf8.decode s pos).2∧pos+(Utf8.decode s pos).2≤s.size∧∀ j,j<(Utf8.decode s pos).2→128≤(s.get! (pos+j)).toNat:=by
 have hn:¬ (s.get! (pos+0)).toNat<128:=by simpa using ha
 have h1:∀(c:Nat),128≤c→128≤(c,1).1∧1≤(c,1).2∧pos+(c,1).2≤s.size∧∀ j,j<(c,1).2→128≤(s.get! (pos+j)).toNat:=fun c hc =>
  ⟨hc,Al4 _,by show pos+1≤s.size;omega,fun j hj=>by
   have hj:j<1:=hj
   obtain rfl:j=0:=by omega
   simpa using ha⟩
 have hb:∀ k,(s.get! (pos+k)).toNat / 64=2→128≤(s.get! (pos+k)).toNat:=fun k hk=>by omega
 simp only[Utf8.decode,hn,if_false,Utf8.runeError]
 split
 ·rename_i hc
  simp only[Al0,beq_iff_eq,zu] at hc
  split
  ·rename_i h2
   refine⟨h2,by show 1≤2;omega,by show pos+2≤s.size;omega,fun j hj=>?_⟩
   have hj:j<2:=hj
   rcases(by omega:j=0∨j=1) with rfl|rfl
   ·simpa using ha
   ·exact hb 1 hc.2.2
  ·exact h1 _ (by decide)
 split
 ·rename_i hc
  simp only[Al0,beq_iff_eq,zu] at hc
  split
  ·rename_i h2
   simp only[Al0,zu] at h2
   refine⟨by have:=h2.1;show 128≤_;simp only;omega,by show 1≤3;omega,by show pos+3≤s.size;omega,fun j hj=>?_⟩
   have hj:j<3:=hj
   rcases(by omega:j=0∨j=1∨j=2) with rfl|rfl|rfl
   ·simpa using ha
   ·exact hb 1 hc.1.2.2
   ·exact hb 2 hc.2.2
  ·exact h1 _ (by decide)
 split
 ·rename_i hc
  simp only[Al0,beq_iff_eq,zu] at hc
  split
  ·rename_i h2
   simp only[Al0,zu] at h2
   refine⟨by have:=h2.1;show 128≤_;simp only;omega,by show 1≤4;omega,by show pos+4≤s.size;omega,fun j hj=>?_⟩
   have hj:j<4:=hj
   rcases(by omega:j=0∨j=1∨j=2∨j=3) with rfl|rfl|rfl|rfl
   ·simpa using ha
   ·exact hb 1 hc.1.1.2.2
   ·exact hb 2 hc.1.2.2
   ·exact hb 3 hc.2.2
  ·exact h1 _ (by decide)
 ·exact h1 _ (by decide)
theorem zj0 {s:ByteArray} {i k:Nat} (h:NoAny s.data.toList eol.data.toList i) (hk:i+k≤s.size) (hb:∀ j,j<k→128≤(s.get! (i+j)).toNat):NoAny s.data.toList eol.data.toList (i+k):=fun j b hj hjb=>by
 by_cases hlt:j<i
 ·exact h j b hlt hjb
 ·have h1:=hb (j-i) (by omega)
  rw[show i+(j-i)=j by omega] at h1
  rw[zga s j (by omega)] at hjb
  cases hjb
  show ([13,10]:List UInt8).contains _=false
  simp only[List.contains_cons,List.contains_nil,Bool.or_false,Bool.or_eq_false_iff,beq_eq_false_iff_ne]
  refine⟨fun e=>?_,fun e=>?_⟩<;>(rw[e] at h1;simp at h1)
set_option maxHeartbeats 8000000 in
theorem zbH (L:Lays.n153 P ρ) (s:ByteArray) (w:World) (h8:s.size≤8) :
  Calls P (ρ.f 153) #[.string s,.string eol] w fun e w'=>e=.returned (.int .i64 (Lib.indexAny s.data.toList eol.data.toList))∧Below w.heap.size w w':=by
 have hemp:eol.toList.isEmpty=false:=by rw[Lib.toList_data];rfl
 have hn0:(eol.size:Int)=2:=rfl
 have hn1:((eol.size:Int)==1)=false:=rfl
 have h8z:decide ((8:Int)<(s.size:Int))=false:=decide_eq_false (by omega)
 have t3:=L.t3;have a3:=L.a3;have z3:=L.z3;have v3:=L.v3
 have t4:=L.t4;have a4:=L.a4;have z4:=L.z4;have v4:=L.v4
 have t5:=L.t5;have a5:=L.a5;have z5:=L.z5;have v5:=L.v5
 have t9:=L.t9;have a9:=L.a9;have z9:=L.z9;have v9:=L.v9
 have t21:=L.t21;have a21:=L.a21;have z21:=L.z21;have v21:=L.v21
 have e152:∀ args w,(callFunc (ρ.f 152) args).run P w=.ok (.enter (ρ.f 152) args) w:=enters_of L.f152 (by kernel_rfl) rfl
 have e226:∀ args w,(callFunc (ρ.f 226) args).run P w=.ok (.enter (ρ.f 226) args) w:=enters_of L.f226 (by kernel_rfl) rfl
 go_enter L.f153,Body.n153_ntmps ρ
 go_wp2_with (go_at_fn (ρ.f 226);refine(Any.strings_shouldUseASCIISet { L with } _ _).mono ?_;rintro e w' ⟨rfl,hw⟩;rw[hw,h8z])
 go_loopg [9,10] s.size (fun g _ _ wx=>∃ i:Nat,i+g=s.size∧(wx.heap[w.heap.size]?=some (.stringIter s i)∧Below w.heap.size w wx)∧Lib.NoAny s.data.toList eol.data.toList i)
 case atStart=>exact⟨0,by omega,⟨World.iter_heap w s 0,(Below.refl _ _).alloc (Al4 _) _⟩,Lib.NoAny.zero _ _⟩
 case round =>
  obtain⟨i,hig,hst,hno⟩:=hrel
  obtain⟨hit,hbe⟩:=hst
  have HN:Aside (Lib.NoAny s.data.toList eol.data.toList i∧Below w.heap.size w wr):=⟨hno,hbe⟩
  clear hno hbe
  cases gk with
  | zero =>
   obtain rfl:i=s.size:=by omega
   have hnx:=fun ty=>zdZ (P:=P) wr w.heap.size s s.size ty hit (by omega)
   go_wp2
   go_ret
   exact⟨by rw[Lib.indexAny_none (by rw[← Lib.size_eq];exact HN.out.1)];rfl,HN.out.2⟩
  | succ g =>
   have hi:i<s.size:=by omega
   have hnx:=fun ty=>zfY (P:=P) wr w.heap.size s i ty hit hi
   have hwlt:w.heap.size<wr.heap.size:=(Z5.1 hit).1
   have hst2:∀ k,({ wr with heap:=wr.heap.setIfInBounds w.heap.size (.stringIter s k) }:World).heap[w.heap.size]?=some (.stringIter s k):=fun k=>by
    show (wr.heap.setIfInBounds w.heap.size (.stringIter s k))[w.heap.size]?=_
    simp[hwlt]
   have hbl2:∀ k,Below w.heap.size w ({ wr with heap:=wr.heap.setIfInBounds w.heap.size (.stringIter s k) }:World):=fun k=>by
    have hb:=HN.out.2
    refine⟨hb.os,hb.tape,hb.output,by simpa using hb.size,fun n hn=>?_⟩
    show (wr.heap.setIfInBounds w.heap.size (.stringIter s k))[n]?=_
    rw[Array.getElem?_setIfInBounds_ne (by omega)]
    exact hb.block n hn
   have HB:Aside ((∀ k,({ wr with heap:=wr.heap.setIfInBounds w.heap.size (.stringIter s k) }:World).heap[w.heap.size]?=some (.stringIter s k))∧(∀ k,Below w.heap.size w ({ wr with heap:=wr.heap.setIfInBounds w.heap.size (.stringIter s k) }:World))∧w.heap.size<wr.heap.size):=⟨hst2,hbl2,hwlt⟩
   clear hst2 hbl2 hwlt hit
   by_cases ha:128≤(s.get! i).toNat
   ·obtain⟨d1,d2,d3,d4⟩:=zcl s i hi ha
    have HD:Aside (1≤(Utf8.decode s i).2∧i+(Utf8.decode s i).2≤s.size∧∀ j,j<(Utf8.decode s i).2→128≤(s.get! (i+j)).toNat):=⟨d2,d3,d4⟩
    clear d2 d3 d4 ha
    generalize hr:(Utf8.decode s i).1=r at hnx d1
    generalize hk:(Utf8.decode s i).2=k at hnx HD
    clear hr hk
    generalize hW:({ wr with heap:=wr.heap.setIfInBounds w.heap.size (.stringIter s (i+k)) }:World)=W at hnx
    have HW:Aside (W.heap[w.heap.size]?=some (.stringIter s (i+k))∧Below w.heap.size w W):=⟨by rw[← hW];exact HB.out.1 _,by rw[← hW];exact HB.out.2.1 _⟩
    clear hW
    have hru:Calls P (ρ.f 152) #[.string eol,.int .i32 (r:Int)] W fun e w'=>e=.returned (.int .i64 (-1))∧Below W.heap.size W w':=by
     by_cases he:(r:Int)=65533
     ·rw[he];exact zeR { L with } W
     ·exact zd5 { L with } _ (by omega) he W
    go_wp2_with (go_at_fn (ρ.f 152);refine hru.mono ?_;rintro e w' ⟨rfl,hw⟩)
    go_roundg (s.size-(i+k))
    case measure=>have:=HD.out.1;omega
    case rel =>
     obtain⟨g1,g2⟩:=HW.out
     obtain⟨f1,f2,f3⟩:=HD.out
     have hlt:w.heap.size<W.heap.size:=(Z5.1 g1).1
     exact⟨i+k,by omega,⟨by rw[hw.block _ hlt];exact g1,g2.trans (hw.mono (by omega))⟩,zj0 HN.out.1 f2 f3⟩
   ·have hx128:(s[i]'hi).toNat<128:=by
     have e:s.get! i=s[i]'hi:=get_at s i hi
     rw[← e];omega
    have hde:Utf8.decode s i=((s[i]'hi).toNat,1):=decode_ascii s i hi hx128
    obtain⟨x,hx⟩:∃ x:UInt8,s[i]'hi=x:=⟨_,rfl⟩
    have hxl:s.data.toList[i]?=some x:=by rw[← hx];exact Lib.data_getElem? s i hi
    have Hx:Aside (s.data.toList[i]?=some x):=hxl
    rw[hde,hx] at hnx
    rw[hx] at hx128
    clear hxl hx ha hde
    have hcon:=Lib.contains_iff_indexByte eol.data.toList x
    have hback:((x.toNat:Int)).toNat.toUInt8=x:=by simp
    generalize hW:({ wr with heap:=wr.heap.setIfInBounds w.heap.size (.stringIter s (i+1)) }:World)=W at hnx
    have HW:Aside (W.heap[w.heap.size]?=some (.stringIter s (i+1))∧Below w.heap.size w W):=⟨by rw[← hW];exact HB.out.1 _,by rw[← hW];exact HB.out.2.1 _⟩
    clear hW
    cases hin:eol.data.toList.contains x
    ·rw[hin] at hcon
     have hlt:¬ ((0:Int)≤Lib.indexByte eol.data.toList x):=of_decide_eq_false hcon.symm
     clear hcon
     go_wp2_with (go_at_fn (ρ.f 152);refine(Any.strings_IndexRune_ascii { L with } _ _ _ (by omega) (by omega)).mono ?_;rintro e w' ⟨rfl,hw⟩;rw[hw,hback])
     go_roundg g
     case measure=>omega
     case rel=>exact⟨i+1,by omega,HW.out,HN.out.1.succ Hx.out hin⟩
    ·rw[hin] at hcon
     have hge:(0:Int)≤Lib.indexByte eol.data.toList x:=of_decide_eq_true hcon.symm
     clear hcon
     go_wp2_with (go_at_fn (ρ.f 152);refine(Any.strings_IndexRune_ascii { L with } _ _ _ (by omega) (by omega)).mono ?_;rintro e w' ⟨rfl,hw⟩;rw[hw,hback])
     go_ret
     exact⟨by rw[Lib.indexAny_hit HN.out.1 Hx.out hin];rfl,HW.out.2⟩
end
end Go.Proofs.YtaielcdfcgpbiaaGreatDoor
namespace Go.Proofs.YtaielcdfcgpbiaaGreatDoor
open Go.Ab Go.Lib
theorem zjU (s:List UInt8) (hs:s.length≤4294967000):Pure Tryz.prog 118 [.str s,.str [13,10]] (.int .i64 (Lib.indexAny s [13,10])):=by
 refine Pure.of_below fun γ w vs ht hv=>?_
 obtain⟨hlv,hr⟩:=hv
 match vs,hlv with
 | [v,u],_ =>
  cases hr 0 _ _ rfl rfl
  cases hr 1 _ _ rfl rfl
  by_cases h8:s.length≤8
  ·exact(zbH (P:=Tryz.prog) Tryz.lays153 ⟨s.toArray⟩ w (by simpa[ByteArray.size] using h8)).mono fun e w' ⟨he,hw⟩=>⟨hw,_,he,.int _ _⟩
  ·refine(Tryz.strings_IndexAny_long (zero_of_info (n:=256) (by kernel_rfl)).1 ⟨s.toArray⟩ ⟨#[13,10]⟩ w (by decide) (by simp only[ByteArray.size,List.size_toArray];omega) (by simp only[ByteArray.size,List.size_toArray];omega) (by decide) (fun j b hj=>?_)).mono fun e w' ⟨he,hw⟩=>⟨?_,_,he,.int _ _⟩
   ·have hj:([13,10]:List UInt8)[j]?=some b:=hj
    match j,hj with
    | 0,hj=>cases hj;decide
    | 1,hj=>cases hj;decide
    | j+2,hj=>simp at hj
   ·rw[hw]
    exact((Go.RowKit.Below.refl _ _).alloc (Al4 _) _).alloc (by simp) _
theorem zjB (r:List UInt8):Lib.indexAny r [13,10]=if r.all zJ then -1 else ((r.takeWhile zJ).length:Int):=by
 induction r with
 | nil=>rfl
 | cons c r ih =>
  rw[Lib.indexAny,ih]
  by_cases hc:zJ c=true
  ·have h1:([13,10]:List UInt8).contains c=false:=by
    unfold zJ at hc
    simp at hc
    simp[hc.1,hc.2]
   rw[h1]
   by_cases ha:r.all zJ=true
   ·simp[ha,hc]
   ·have h2:¬ (((r.takeWhile zJ).length:Int)=-1):=by omega
    simp[ha,hc,h2]
  ·have h1:([13,10]:List UInt8).contains c=true:=by
    unfold zJ at hc
    simp at hc
    simp
    rcases Classical.em (c=13) with h|h
    ·exact .inl h
    ·exact .inr (Classical.byContradiction fun h10=>h (hc h10))
   rw[h1]
   simp[hc]
theorem zfw {p:UInt8→Bool}:∀ r:List UInt8,r.all p=true→r.takeWhile p=r
 | [],_=>rfl
 | c::r,h=>by
  simp only[List.all_cons,Al0] at h
  rw[List.takeWhile_cons,if_pos h.1,zfw r h.2]
theorem Zj (c:UInt8) (r:List UInt8):Zl (c::r)=if c=9∨c=10∨c=13∨c=32∨c=44 then 1 else if zfe.isPrefixOf (c::r) then 3 else if c=35 then 1+(r.takeWhile zJ).length else 0:=rfl
theorem zmJ (c:UInt8) (r:List UInt8) (hs:(c::r).length≤1000000):Pure Tryz.prog 59 [.str (c::r)] (.int .i64 (Zl (c::r))):=by
 refine Pure.go ir59 ck59 (Al4 _) fun KP Q hQ=>?_
 have hl:((0:Int)<((c::r).length:Int))=True:=eq_true (by simp only[Al2];omega)
 by_cases hw:c=9∨c=10∨c=13∨c=32∨c=44
 ·have e:Zl (c::r)=1:=by rw[Zj,if_pos hw]
  rw[e] at hQ
  rcases hw with rfl|rfl|rfl|rfl|rfl
  ·have hc:((9:UInt8).toNat:Int)=9:=rfl
   simp(disch:=omega) only[ir59,hl,List.getD_cons_zero,hc,go_sem]
   exact hQ _ _ _ _ nofun rfl (by simp[tupOf,envOf,AV.strip,AV.strip1])
  ·have hc:((10:UInt8).toNat:Int)=10:=rfl
   simp(disch:=omega) only[ir59,hl,List.getD_cons_zero,hc,go_sem]
   exact hQ _ _ _ _ nofun rfl (by simp[tupOf,envOf,AV.strip,AV.strip1])
  ·have hc:((13:UInt8).toNat:Int)=13:=rfl
   simp(disch:=omega) only[ir59,hl,List.getD_cons_zero,hc,go_sem]
   exact hQ _ _ _ _ nofun rfl (by simp[tupOf,envOf,AV.strip,AV.strip1])
  ·have hc:((32:UInt8).toNat:Int)=32:=rfl
   simp(disch:=omega) only[ir59,hl,List.getD_cons_zero,hc,go_sem]
   exact hQ _ _ _ _ nofun rfl (by simp[tupOf,envOf,AV.strip,AV.strip1])
  ·have hc:((44:UInt8).toNat:Int)=44:=rfl
   simp(disch:=omega) only[ir59,hl,List.getD_cons_zero,hc,go_sem]
   exact hQ _ _ _ _ nofun rfl (by simp[tupOf,envOf,AV.strip,AV.strip1])
 have nat:∀ k:Nat,(c.toNat:Int)=k→k<256→c=UInt8.ofNat k:=fun k h hk=>UInt8.toNat_inj.1 (by rw[UInt8.toNat_ofNat'];omega)
 have g9:¬ ((c.toNat:Int)=9):=fun e=>hw (.inl (nat 9 e (by decide)))
 have g10:¬ ((c.toNat:Int)=10):=fun e=>hw (.inr (.inl (nat 10 e (by decide))))
 have g13:¬ ((c.toNat:Int)=13):=fun e=>hw (.inr (.inr (.inl (nat 13 e (by decide)))))
 have g32:¬ ((c.toNat:Int)=32):=fun e=>hw (.inr (.inr (.inr (.inl (nat 32 e (by decide))))))
 have g44:¬ ((c.toNat:Int)=44):=fun e=>hw (.inr (.inr (.inr (.inr (nat 44 e (by decide))))))
 simp(disch:=omega) only[ir59,hl,List.getD_cons_zero,g9,g10,g13,g32,g44,go_sem]
 refine goK_pure (YI (c::r) [239,187,191]) ?_
 by_cases hb:([239,187,191]:List UInt8).isPrefixOf (c::r)=true
 ·have e:Zl (c::r)=3:=by rw[Zj,if_neg hw];exact if_pos hb
  rw[e] at hQ
  simp(disch:=omega) only[hb,go_sem]
  exact hQ _ _ _ _ nofun rfl (by simp[tupOf,envOf,AV.strip,AV.strip1])
 have hb':([239,187,191]:List UInt8).isPrefixOf (c::r)=false:=Bool.eq_false_iff.2 hb
 by_cases h35:c=35
 ·subst h35
  have e:Zl (35::r)=1+(r.takeWhile zJ).length:=by rw[Zj,if_neg hw,if_neg (show ¬ (zfe.isPrefixOf _=true) from hb),if_pos rfl]
  rw[e] at hQ
  have hc:((35:UInt8).toNat:Int)=35:=rfl
  simp(disch:=omega) only[hb',hc,go_sem]
  have hp:=zjU (35::r) (by omega)
  rw[zjB] at hp
  have n35:zJ 35=true:=rfl
  by_cases ha:r.all zJ=true
  ·have e2:=zfw r ha
   have e3:(35::r).all zJ=true:=by rw[List.all_cons,n35,ha];rfl
   rw[if_pos e3] at hp
   refine goK_pure hp ?_
   have h0:¬ ((0:Int)≤-1):=by decide
   simp(disch:=omega) only[h0,go_sem]
   exact hQ _ _ _ _ nofun rfl (by simp[tupOf,envOf,AV.strip,AV.strip1,e2,Int.add_comm])
  ·have e3:¬ ((35::r).all zJ=true):=by rw[List.all_cons,n35,Bool.true_and];exact ha
   have e2:((35::r).takeWhile zJ).length=1+(r.takeWhile zJ).length:=by rw[List.takeWhile_cons,if_pos n35];simp;omega
   rw[if_neg e3,e2] at hp
   refine goK_pure hp ?_
   have h0:((0:Int)≤((1+(r.takeWhile zJ).length:Nat):Int))=True:=eq_true (by omega)
   simp(disch:=omega) only[h0,go_sem]
   exact hQ _ _ _ _ nofun rfl (by simp[tupOf,envOf,AV.strip,AV.strip1])
 ·have e:Zl (c::r)=0:=by rw[Zj,if_neg hw,if_neg (show ¬ (zfe.isPrefixOf _=true) from hb),if_neg h35]
  rw[e] at hQ
  have g35:¬ ((c.toNat:Int)=35):=fun e=>h35 (nat 35 e (by decide))
  simp(disch:=omega) only[hb',g35,go_sem]
  exact hQ _ _ _ _ nofun rfl (by simp[tupOf,envOf,AV.strip,AV.strip1])
theorem zbI (c:UInt8) (r:List UInt8):yi (c::r)=if (isL c||isD c)=true then 1+yi r else 0:=by
 unfold yi
 rw[List.takeWhile_cons]
 split
 ·simp;omega
 ·rfl
theorem zkX (s:List UInt8) (hs:s.length≤Lim) (h0:isL (s.getD 0 0)=true):Pure Tryz.prog 124 [.str s] (.int .i64 (yi s)):=by
 refine Pure.go ir124 ck124 (Al4 _) fun KP Q hQ=>?_
 simp only[Lim] at hs
 have hr1:=zcd s
 simp(disch:=omega) only[ir124,go_sem]
 refine goL_st (fun n:Nat=>[(3,.int .i64 n)]) (fun n H=>yi s=n+yi (s.drop n)∧n≤s.length) (fun n=>s.length-n) 0 (by simp(disch:=omega) only[go_sem]) ⟨by simp,by omega⟩ ?_
 rintro n H J ⟨hn,hle⟩ hJ
 rcases z6 s n with ⟨h1,h2⟩|⟨h1,h2⟩
 ·have hlt:¬ ((n:Int)<s.length):=by omega
  rw[h1] at hn
  simp only[yi,List.takeWhile_nil,Al3,Nat.add_zero] at hn
  simp(disch:=omega) only[hlt,go_sem]
  exact hQ _ _ _ _ nofun rfl (by simp[tupOf,envOf,AV.strip,AV.strip1,yi,hn])
 ·have hlt:((n:Int)<s.length):=by omega
  rw[h2,zbI] at hn
  simp(disch:=omega) only[hlt,go_sem]
  refine goK_pure (zeQ (s.getD n 0)) ?_
  cases hl:isL (s.getD n 0) with
  | true =>
   simp only[hl,Bool.true_or,if_true] at hn
   simp(disch:=omega) only[hl,go_sem]
   exact goJ (hJ (n+1) _ (by omega) ⟨by omega,by omega⟩) (by simp(disch:=omega) only[wrap64,Int.natCast_add,Int.natCast_one,go_sem])
  | false =>
   have hn0:((0:Int)<(n:Int))=True:=eq_true (by
    rcases Nat.eq_zero_or_pos n with e|e
    ·subst e;rw[h0] at hl;cases hl
    ·omega)
   simp(disch:=omega) only[hl,hn0,hlt,go_sem]
   refine goK_pure (zgs (s.getD n 0)) ?_
   cases hd:isD (s.getD n 0) with
   | true =>
    simp only[hl,hd,Bool.or_true,if_true] at hn
    simp(disch:=omega) only[hd,go_sem]
    exact goJ (hJ (n+1) _ (by omega) ⟨by omega,by omega⟩) (by simp(disch:=omega) only[wrap64,Int.natCast_add,Int.natCast_one,go_sem])
   | false =>
    simp only[hl,hd,Bool.or_false,Al7,if_false,Nat.add_zero] at hn
    simp(disch:=omega) only[hd,go_sem]
    exact hQ _ _ _ _ nofun rfl (by simp[tupOf,envOf,AV.strip,AV.strip1,hn])
def ziW (n:Nat) (x:Option (List UInt8×List UInt8)):AV:=match x with
 | some (raw,t)=>.tup [.str (zK raw),.int .i64 ((n-t.length:Nat):Int)]
 | none=>.tup [.str [],.int .i64 0]
theorem Yg:∀(n m:Nat) (raw t:List UInt8),t.length<n→t.length<m→yH n raw t=yH m raw t
 | 0,_,_,_,h,_=>absurd h (Nat.not_lt_zero _)
 | _,0,_,_,_,h=>absurd h (Nat.not_lt_zero _)
 | n+1,m+1,raw,[],_,_=>rfl
 | n+1,m+1,raw,c::r,h1,h2=>by
  simp only[Al2] at h1 h2
  simp only[yH]
  rw[Yg n m (raw++zF) (r.drop 3) (by simp;omega) (by simp;omega),Yg n m (raw++[c]) r (by omega) (by omega)]
theorem zdK:∀(n:Nat) (raw t b t':List UInt8),yH n raw t=some (b,t')→b.length+t'.length≤raw.length+t.length∧t'.length≤t.length
 | 0,_,_,_,_,h=>by cases h
 | n+1,raw,[],_,_,h=>by cases h
 | n+1,raw,c::r,b,t',h=>by
  simp only[yH] at h
  split at h
  ·cases h;simp;omega
  split at h
  ·rename_i h2
   have hl:=yF _ _ h2
   simp only[zc5,Al2,Al3] at hl
   have:=zdK n _ _ _ _ h
   simp[zF] at this ⊢;omega
  ·have:=zdK n _ _ _ _ h
   simp at this ⊢;omega
theorem zjd (s:List UInt8) (h3:3≤s.length) (hs:s.length≤Zi):Pure Tryz.prog 119 [.str s] (ziW s.length (yH (s.length-2) [] (s.drop 3))):=by
 refine Pure.go ir119 ck119 (Al4 _) fun KP Q hQ=>?_
 simp only[Zi] at hs
 obtain⟨R,hR⟩:∃ R,yH (s.length-2) [] (s.drop 3)=R:=⟨_,rfl⟩
 rw[hR] at hQ
 simp(disch:=omega) only[ir119,go_sem]
 refine goL_st (fun x:Own×List UInt8×Nat=>[(4,.sl x.1 1 (bytesOf x.2.1)),(5,.int .i64 x.2.2)]) (fun x H=>3≤x.2.2∧x.2.2≤s.length∧x.2.1.length+3≤x.2.2∧yH ((s.drop x.2.2).length+1) x.2.1 (s.drop x.2.2)=R∧Owned H x.1 x.2.1.length 1) (fun x=>s.length-x.2.2) (.nil,[],3) (by simp(disch:=omega) only[bytesOf,go_sem]) ⟨Al4 _,h3,Al4 _,by rw[← hR];simp only[zU];rw[show s.length-3+1=s.length-2 by omega],rfl⟩ ?_
 rintro⟨o,raw,i⟩ H J ⟨hi3,hi,hrl,hrw,ho⟩ hJ
 simp only at hi3 hi hrl hrw ho
 have hbl:=zP raw
 by_cases hge:s.length≤i
 ·obtain rfl:i=s.length:=by omega
  rw[List.drop_length] at hrw
  have e:R=none:=by rw[← hrw];rfl
  have h1:((s.length:Int)≤(s.length:Int))=True:=eq_true (Int.le_refl _)
  simp(disch:=omega) only[h1,go_sem]
  exact hQ _ _ _ _ nofun rfl (by simp[tupOf,envOf,AV.strip,AV.strip1,ziW,e])
 have hge':¬ ((s.length:Int)≤(i:Int)):=by omega
 have hle:((i:Int)≤(s.length:Int))=True:=eq_true (by omega)
 have hlt:((i:Int)<(s.length:Int))=True:=eq_true (by omega)
 obtain⟨c,r,hd⟩:∃ c r,s.drop i=c::r:=by
  cases hx:s.drop i with
  | nil=>have:=congrArg List.length hx;simp at this;omega
  | cons c r=>exact⟨c,r,rfl⟩
 have hc:s.getD i 0=c:=by
  have:(s.drop i).getD 0 0=c:=by rw[hd];rfl
  simpa[List.getD_eq_getElem?_getD] using this
 have hdl:s.length=i+(r.length+1):=by have:=congrArg List.length hd;simp at this;omega
 rw[hd] at hrw
 simp only[yH] at hrw
 simp(disch:=omega) only[hge',hle,go_sem]
 refine goK_pure (YI (s.drop i) [34,34,34]) ?_
 rw[hd]
 by_cases p1:zF.isPrefixOf (c::r)=true
 ·have p1':([34,34,34]:List UInt8).isPrefixOf (c::r)=true:=p1
  have hl3:=yF _ _ p1
  simp only[zF,Al2,Al3] at hl3
  rw[if_pos p1] at hrw
  simp(disch:=omega) only[p1',YE,go_sem]
  refine goK_pure (zkk raw (by omega)) ?_
  have e:((s.length-(r.length-2):Nat):Int)=(i:Int)+3:=by omega
  simp(disch:=omega) only[wrap64,go_sem]
  exact hQ _ _ _ _ nofun rfl (by simp[tupOf,envOf,AV.strip,AV.strip1,ziW,← hrw,e])
 have p1':([34,34,34]:List UInt8).isPrefixOf (c::r)=false:=Bool.eq_false_iff.2 p1
 rw[if_neg p1] at hrw
 simp(disch:=omega) only[p1',hle,go_sem]
 refine goK_pure (YI (s.drop i) [92,34,34,34]) ?_
 rw[hd]
 by_cases p2:zc5.isPrefixOf (c::r)=true
 ·have p2':([92,34,34,34]:List UInt8).isPrefixOf (c::r)=true:=p2
  have hl4:=yF _ _ p2
  simp only[zc5,Al2,Al3] at hl4
  rw[if_pos p2] at hrw
  simp(disch:=omega) only[p2',go_sem]
  refine goP_ownS (by rw[hbl];exact ho) (by simp[hbl,bytesOf];omega) (by simp[hbl,bytesOf,maxLen];omega) fun o' H' hs2=>?_
  have hdr:s.drop (i+4)=r.drop 3:=by rw[← List.drop_drop,hd];rfl
  simp(disch:=omega) only[wrap64,go_sem]
  refine goJ (hJ (o',raw++zF,i+4) _ (by simp only;omega) ⟨by simp only;omega,by simp only;omega,by simp[zF];omega,?_,?_⟩) (by simp(disch:=omega) only[← yG,Int.natCast_add,zF,Zq,go_sem])
  ·simp only
   rw[hdr,← hrw]
   exact Yg _ _ _ _ (Nat.lt_succ_self _) (by simp;omega)
  ·have h:=hs2.own
   simpa[hbl,bytesOf,zF] using h
 ·have p2':([92,34,34,34]:List UInt8).isPrefixOf (c::r)=false:=Bool.eq_false_iff.2 p2
  rw[if_neg p2] at hrw
  simp(disch:=omega) only[p2',hlt,hc,go_sem]
  refine goP_ownS (by rw[hbl];exact ho) (by simp[hbl];omega) (by simp[hbl,maxLen];omega) fun o' H' hs2=>?_
  have hdr:s.drop (i+1)=r:=by rw[← List.drop_drop,hd];rfl
  simp(disch:=omega) only[wrap64,go_sem]
  refine goJ (hJ (o',raw++[c],i+1) _ (by simp only;omega) ⟨by simp only;omega,by simp only;omega,by simp;omega,?_,?_⟩) (by simp(disch:=omega) only[← zcI,Int.natCast_add,go_sem])
  ·simp only
   rw[hdr,← hrw]
   rfl
  ·have h:=hs2.own
   simpa[hbl] using h
end Go.Proofs.YtaielcdfcgpbiaaGreatDoor
