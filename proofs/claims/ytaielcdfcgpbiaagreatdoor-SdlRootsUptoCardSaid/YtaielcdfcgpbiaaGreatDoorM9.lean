import Derived.Test.YtaielcdfcgpbiaaGreatDoorM1
import Derived.Test.YtaielcdfcgpbiaaGreatDoorM2
import Derived.Test.YtaielcdfcgpbiaaGreatDoorM3
import Derived.Test.YtaielcdfcgpbiaaGreatDoorM4
import Derived.Test.YtaielcdfcgpbiaaGreatDoorM5
import Derived.Test.YtaielcdfcgpbiaaGreatDoorM6
import Derived.Test.YtaielcdfcgpbiaaGreatDoorM7
import Derived.Test.YtaielcdfcgpbiaaGreatDoorM8
set_option maxRecDepth 100000
set_option linter.all false
namespace Go.Proofs.YtaielcdfcgpbiaaGreatDoor
open Go.Ab
abbrev zE:List AV:=[.int .i64 0,.str [],.sl .nil 1 [],.sl .nil 6 [],.sl .nil 1 [],.sl .nil 10 []]
theorem YK (x:DefD):(cE x).length=6:=rfl
theorem ZH (x:DefD):(cE x).take 6=cE x:=rfl
theorem Ys (x:FldD):(cL x).length=6:=rfl
theorem ZL (x:FldD):(cL x).take 6=cL x:=rfl
theorem zcT {H:Heap} {r q:Nat} {L t:TS} {A1 A2 A3 A4:AV} (k:Int) (hq:H q=some (.cells [.ptr r 0,A1,A2,A3,A4])) (hqr:q≠r) (h:Y3 H r L t (16-16)) (hl:wT L≤zG) :
  ACalls Tryz.prog 102 [.ptr q 0,.int .i64 k] H (RpE H r L (16-16) (za8 k t) (fun x=>.agg (cE x))):=by
 refine yn (ACalls.goO (R:=fun v H'=>zbb H r L (16-16) (za8 k t) (fun x=>.agg (cE x)) v.strip H') (RP:=fun v H'=>zbp (za8 k t) v H') ir102 ck102 (Al4 _) fun KP Q hQ hP=>?_)
 have pan:∀(v:AV) (H1:Heap) (n:Int),v=ye n→(za8 k t)=.error n→KP v H1:=fun v H1 n h1 h2=>hP v H1 H1 (Low.refl _) ⟨n,h2,h1⟩
 have fin:=KI.done hQ
 have hll:=zbc hl
 simp only[zG] at hll
 have K0:KI H r L t (16-16) H:=let ⟨_,hs,hr⟩:=h;KI.start hs hr
 have hx:=Eq.refl (za8 k t)
 have q0:=hq
 conv at hx=>rhs;unfold za8
 simp only[yx] at hx
 simp(disch:=first|omega|assumption) only[ir102,go_sem]
 refine goA_intro fun b4 hb4=>?_
 have hb4H:=hb4
 have n4:=K0.ne hb4H
 have n4s:=Ne.symm n4
 have nq4:q≠b4:=fun e=>by subst e;rw[q0] at hb4;cases hb4
 simp(disch:=first|omega|assumption) only[q0,nq4,go_sem]
 refine goK_both (zay (K0.box hb4H).here hl) (fun v H1 ⟨s,t1,e1,hv1,a1⟩=>?_) fun v H1 ⟨n,e1,hv1⟩=>pan v H1 n hv1 (by rw[hx,e1];rfl)
 subst hv1
 rw[e1,zj] at hx
 have K1:=(K0.box hb4H).call a1
 have g1_4:=(a1.other n4s).trans (upd_same ..)
 have q1:=(a1.other hqr).trans ((upd_ne nq4).trans q0)
 simp(disch:=first|omega|assumption) only[go_sem]
 refine goA_intro fun b5 hb5=>?_
 have h54:b5≠b4:=fun e=>by subst e;rw[g1_4] at hb5;cases hb5
 have hb5H:=K1.none hb5
 have n5:=K0.ne hb5H
 have n5s:=Ne.symm n5
 have nq5:q≠b5:=fun e=>by subst e;rw[q1] at hb5;cases hb5
 simp(disch:=first|omega|assumption) only[q1,nq5,go_sem]
 refine goK_ret (Z9 (K1.box hb5H).here hl _) fun v H2 ⟨hv2,a2⟩=>?_
 subst hv2
 have K2:=(K1.box hb5H).call a2
 have g2_4:=(a2.other n4s).trans ((upd_ne (Ne.symm h54)).trans g1_4)
 have g2_5:=(a2.other n5s).trans (upd_same ..)
 have q2:=(a2.other hqr).trans ((upd_ne nq5).trans q1)
 unfold zN at a2 K2
 cases hi:isW [105,109,112,108,101,109,101,110,116,115] t1 with
 | true =>
  rw[hi] at hx K2 a2
  simp only[if_true] at hx K2
  simp(disch:=first|omega|assumption) only[q2,go_sem]
  refine goK_both (zj8 [38] q2 hqr K2.here hl) (fun v H3 ⟨fs,t3,e3,hv3,a3⟩=>?_) fun v H3 ⟨n,e3,hv3⟩=>pan v H3 n hv3 (by rw[hx,e3];rfl)
  subst hv3
  rw[e3,zj] at hx
  have K3:=K2.call a3
  have g3_4:=(a3.other n4s).trans g2_4
  have g3_5:=(a3.other n5s).trans g2_5
  have q3:=(a3.other hqr).trans q2
  simp(disch:=first|omega|assumption) only[g3_5,q3,nq5,go_sem]
  refine goK_both (Y0 (K3.box hb5H).here hl _) (fun v H4 ⟨_,t4,e4,hv4,a4⟩=>?_) fun v H4 ⟨n,e4,hv4⟩=>pan v H4 n hv4 (by rw[hx,e4];rfl)
  subst hv4
  rw[e4,zj] at hx
  have K4:=(K3.box hb5H).call a4
  have g4_4:=(a4.other n4s).trans ((upd_ne (Ne.symm h54)).trans g3_4)
  have g4_5:=(a4.other n5s).trans (upd_same ..)
  have q4:=(a4.other hqr).trans ((upd_ne nq5).trans q3)
  simp(disch:=first|omega|assumption) only[g4_5,q4,go_sem]
  refine goK_both (zeZ q4 hqr K4.here hl) (fun v H5 ⟨x1,t5,e5,hv5,a5⟩=>?_) fun v H5 ⟨n,e5,hv5⟩=>pan v H5 n hv5 (by rw[hx,e5];rfl)
  subst hv5
  rw[e5,zj] at hx
  have K5:=K4.call a5
  have g5_4:=(a5.other n4s).trans g4_4
  have g5_5:=(a5.other n5s).trans g4_5
  have q5:=(a5.other hqr).trans q4
  have hlt1:=ZE.lt (by decide) _ _ _ e5
  have hsl:=let ⟨_,hp,_⟩:=K4.here;Y9 hp
  obtain⟨R,hR⟩:∃ R,zJ [125] yZ (t5.length+1) [x1] t5=R:=⟨_,rfl⟩
  rw[hR] at hx
  simp(disch:=first|omega|assumption) only[zf,zc,za,ze,zd,zb,zh,Ys,ZL,g5_5,go_sem]
  refine goP_ownS (o:=.nil) rfl (by simp only[Al2,Al3];omega) (by simp only[Al2,Al3,maxLen];omega) fun oA HA hsA=>?_
  have Kn:KO H r L t5 (16-16) H5 .nil 0 6:=⟨K5,rfl,nofun⟩
  have KA:=Kn.app (by simpa using hsA)
  have gA5:=Kn.stay (by simpa using hsA) g5_5
  have gA4:=Kn.stay (by simpa using hsA) g5_4
  have qA:=Kn.stay (by simpa using hsA) q5
  simp(disch:=first|omega|assumption) only[zf,zc,za,ze,zd,zb,zh,gA5,Ys,ZL,go_sem]
  refine goL_st (fun x:Own×List FldD×TS=>[]) (fun x H'=>KO H r L x.2.2 (16-16) H' x.1 x.2.1.length 6∧H' b5=some (.cells [.int .i64 k,.str s,.sl .no 1 (cT fs),.sl x.1 6 (cLs x.2.1),.sl .nil 1 [],.sl .nil 10 []])∧H' b4=some (.cells zE)∧H' q=some (.cells [.ptr r 0,A1,A2,A3,A4])∧(∃ m',x.2.2.length<m'∧zJ [125] yZ m' x.2.1 x.2.2=R)∧x.2.1.length+x.2.2.length≤L.length) (fun x=>x.2.2.length) (oA,[x1],t5) (by simp(disch:=first|omega|assumption) only[go_sem]) ⟨KA.box hb5H gA5,by rw[upd_same];simp[cLs,zaI],(upd_ne (Ne.symm h54)).trans gA4,(upd_ne nq5).trans qA,⟨_,Nat.lt_succ_self _,hR⟩,by simp only[List.length_singleton];omega⟩ ?_
  rintro⟨o,l,u⟩ H3 J ⟨K3,g35,g34,q3,⟨m',hm,hR3⟩,hlen⟩ hJ
  simp only at K3 g35 g34 q3 hm hR3 hlen
  obtain⟨m',rfl⟩:∃ j,m'=j+1:=⟨m'-1,by omega⟩
  have hcl:=YE l
  simp(disch:=first|omega|assumption) only[q3,go_sem]
  refine goK_ret (zgw K3.here hl [125]) fun v H4 ⟨hv4,a4⟩=>?_
  subst hv4
  have q4:=(a4.other hqr).trans q3
  have g45:=(a4.other n5s).trans g35
  have g44:=(a4.other n4s).trans g34
  cases hj:isP [125] u with
  | true =>
   rw[y9,hj,if_pos rfl] at a4
   have e1:R=.ok (l,u.tail):=by rw[← hR3,zJ,hj];rfl
   rw[e1] at hx
   simp only[zE] at g44
   simp(disch:=first|omega|assumption) only[g45,g44,h54,Ne.symm h54,go_sem]
   refine fin _ _ [.agg [.int .i64 k,.str s,.sl .no 1 (cT fs),.sl o 6 (cLs l),.sl .nil 1 [],.sl .nil 10 []]] _ u.tail (by simp(disch:=first|omega|assumption) only[ir102,resvs,resv,go_sem]) hx ((K3.toKI.call a4).box hb4H) ?_
   simp[tupOf,AV.strip,AV.strip1,cE,zey,cT,cWs]
  | false =>
   rw[y9,hj] at a4
   have K4:=K3.call (by simpa using a4)
   rw[zJ,hj] at hR3
   simp only[Al7,if_false] at hR3
   simp(disch:=first|omega|assumption) only[q4,g45,go_sem]
   refine goK_both (zeZ q4 hqr K4.here hl) (fun v H5 ⟨x,t5,e5,hv5,a5⟩=>?_) fun v H5 ⟨n5,e5,hv5⟩=>pan v H5 n5 hv5 (by rw[hx,← hR3,e5];rfl)
   subst hv5
   rw[e5,zj] at hR3
   have hlt:=ZE.lt (by decide) _ _ _ e5
   have K5:=K4.call a5
   have q5:=(a5.other hqr).trans q4
   have g55:=(a5.other n5s).trans g45
   have g54:=(a5.other n4s).trans g44
   simp(disch:=first|omega|assumption) only[zf,zc,za,ze,zd,zb,zh,Ys,ZL,g55,go_sem]
   refine goP_ownS (by rw[hcl];exact K5.own) (by simp only[hcl,Al2,Al3];omega) (by simp only[hcl,Al2,Al3,maxLen];omega) fun o6 H6 hs6=>?_
   have K6:=K5.app (by simpa[hcl] using hs6)
   have q6:=K5.stay hs6 q5
   have g65:=K5.stay hs6 g55
   have g64:=K5.stay hs6 g54
   simp(disch:=first|omega|assumption) only[zf,zc,za,ze,zd,zb,zh,g65,Ys,ZL,go_sem]
   refine goJ (hJ (o6,l++[x],t5) _ (by simp only;omega) ⟨by simpa using K6.box hb5H g65,by rw[upd_same];simp[cLs,zaI],(upd_ne (Ne.symm h54)).trans g64,(upd_ne nq5).trans q6,⟨m',by simp only;omega,hR3⟩,by simp only[Al5,Al2,Al3];omega⟩) (by simp(disch:=first|omega|assumption) only[go_sem])
 | false =>
  rw[hi] at hx K2 a2
  simp only[Al7,if_false,zj] at hx K2
  simp(disch:=first|omega|assumption) only[q2,go_sem]
  refine goK_both (Y0 K2.here hl _) (fun v H3 ⟨_,t3,e3,hv3,a3⟩=>?_) fun v H3 ⟨n,e3,hv3⟩=>pan v H3 n hv3 (by rw[hx,e3];rfl)
  subst hv3
  rw[e3,zj] at hx
  have K3:=K2.call a3
  have g3_4:=(a3.other n4s).trans g2_4
  have g3_5:=(a3.other n5s).trans g2_5
  have q3:=(a3.other hqr).trans q2
  simp(disch:=first|omega|assumption) only[g3_5,q3,go_sem]
  refine goK_both (zeZ q3 hqr K3.here hl) (fun v H4 ⟨x1,t4,e4,hv4,a4⟩=>?_) fun v H4 ⟨n,e4,hv4⟩=>pan v H4 n hv4 (by rw[hx,e4];rfl)
  subst hv4
  rw[e4,zj] at hx
  have K4:=K3.call a4
  have g4_4:=(a4.other n4s).trans g3_4
  have g4_5:=(a4.other n5s).trans g3_5
  have q4:=(a4.other hqr).trans q3
  have hlt1:=ZE.lt (by decide) _ _ _ e4
  have hsl:=let ⟨_,hp,_⟩:=K3.here;Y9 hp
  obtain⟨R,hR⟩:∃ R,zJ [125] yZ (t4.length+1) [x1] t4=R:=⟨_,rfl⟩
  rw[hR] at hx
  simp(disch:=first|omega|assumption) only[zf,zc,za,ze,zd,zb,zh,Ys,ZL,g4_5,go_sem]
  refine goP_ownS (o:=.nil) rfl (by simp only[Al2,Al3];omega) (by simp only[Al2,Al3,maxLen];omega) fun oA HA hsA=>?_
  have Kn:KO H r L t4 (16-16) H4 .nil 0 6:=⟨K4,rfl,nofun⟩
  have KA:=Kn.app (by simpa using hsA)
  have gA5:=Kn.stay (by simpa using hsA) g4_5
  have gA4:=Kn.stay (by simpa using hsA) g4_4
  have qA:=Kn.stay (by simpa using hsA) q4
  simp(disch:=first|omega|assumption) only[zf,zc,za,ze,zd,zb,zh,gA5,Ys,ZL,go_sem]
  refine goL_st (fun x:Own×List FldD×TS=>[]) (fun x H'=>KO H r L x.2.2 (16-16) H' x.1 x.2.1.length 6∧H' b5=some (.cells [.int .i64 k,.str s,.sl .nil 1 [],.sl x.1 6 (cLs x.2.1),.sl .nil 1 [],.sl .nil 10 []])∧H' b4=some (.cells zE)∧H' q=some (.cells [.ptr r 0,A1,A2,A3,A4])∧(∃ m',x.2.2.length<m'∧zJ [125] yZ m' x.2.1 x.2.2=R)∧x.2.1.length+x.2.2.length≤L.length) (fun x=>x.2.2.length) (oA,[x1],t4) (by simp(disch:=first|omega|assumption) only[go_sem]) ⟨KA.box hb5H gA5,by rw[upd_same];simp[cLs,zaI],(upd_ne (Ne.symm h54)).trans gA4,(upd_ne nq5).trans qA,⟨_,Nat.lt_succ_self _,hR⟩,by simp only[List.length_singleton];omega⟩ ?_
  rintro⟨o,l,u⟩ H3 J ⟨K3,g35,g34,q3,⟨m',hm,hR3⟩,hlen⟩ hJ
  simp only at K3 g35 g34 q3 hm hR3 hlen
  obtain⟨m',rfl⟩:∃ j,m'=j+1:=⟨m'-1,by omega⟩
  have hcl:=YE l
  simp(disch:=first|omega|assumption) only[q3,go_sem]
  refine goK_ret (zgw K3.here hl [125]) fun v H4 ⟨hv4,a4⟩=>?_
  subst hv4
  have q4:=(a4.other hqr).trans q3
  have g45:=(a4.other n5s).trans g35
  have g44:=(a4.other n4s).trans g34
  cases hj:isP [125] u with
  | true =>
   rw[y9,hj,if_pos rfl] at a4
   have e1:R=.ok (l,u.tail):=by rw[← hR3,zJ,hj];rfl
   rw[e1] at hx
   simp only[zE] at g44
   simp(disch:=first|omega|assumption) only[g45,g44,h54,Ne.symm h54,go_sem]
   refine fin _ _ [.agg [.int .i64 k,.str s,.sl .nil 1 [],.sl o 6 (cLs l),.sl .nil 1 [],.sl .nil 10 []]] _ u.tail (by simp(disch:=first|omega|assumption) only[ir102,resvs,resv,go_sem]) hx ((K3.toKI.call a4).box hb4H) ?_
   simp[tupOf,AV.strip,AV.strip1,cE,zey,cT,cWs]
  | false =>
   rw[y9,hj] at a4
   have K4:=K3.call (by simpa using a4)
   rw[zJ,hj] at hR3
   simp only[Al7,if_false] at hR3
   simp(disch:=first|omega|assumption) only[q4,g45,go_sem]
   refine goK_both (zeZ q4 hqr K4.here hl) (fun v H5 ⟨x,t5,e5,hv5,a5⟩=>?_) fun v H5 ⟨n5,e5,hv5⟩=>pan v H5 n5 hv5 (by rw[hx,← hR3,e5];rfl)
   subst hv5
   rw[e5,zj] at hR3
   have hlt:=ZE.lt (by decide) _ _ _ e5
   have K5:=K4.call a5
   have q5:=(a5.other hqr).trans q4
   have g55:=(a5.other n5s).trans g45
   have g54:=(a5.other n4s).trans g44
   simp(disch:=first|omega|assumption) only[zf,zc,za,ze,zd,zb,zh,Ys,ZL,g55,go_sem]
   refine goP_ownS (by rw[hcl];exact K5.own) (by simp only[hcl,Al2,Al3];omega) (by simp only[hcl,Al2,Al3,maxLen];omega) fun o6 H6 hs6=>?_
   have K6:=K5.app (by simpa[hcl] using hs6)
   have q6:=K5.stay hs6 q5
   have g65:=K5.stay hs6 g55
   have g64:=K5.stay hs6 g54
   simp(disch:=first|omega|assumption) only[zf,zc,za,ze,zd,zb,zh,g65,Ys,ZL,go_sem]
   refine goJ (hJ (o6,l++[x],t5) _ (by simp only;omega) ⟨by simpa using K6.box hb5H g65,by rw[upd_same];simp[cLs,zaI],(upd_ne (Ne.symm h54)).trans g64,(upd_ne nq5).trans q6,⟨m',by simp only;omega,hR3⟩,by simp only[Al5,Al2,Al3];omega⟩) (by simp(disch:=first|omega|assumption) only[go_sem])
theorem zlj {H:Heap} {r q:Nat} {L t:TS} {A1 A2 A3 A4:AV} (hq:H q=some (.cells [.ptr r 0,A1,A2,A3,A4])) (hqr:q≠r) (h:Y3 H r L t (16-16)) (hl:wT L≤zG) :
  ACalls Tryz.prog 104 [.ptr q 0] H (RpE H r L (16-16) (zak t) (fun x=>.agg (cE x))):=by
 refine yn (ACalls.goO (R:=fun v H'=>zbb H r L (16-16) (zak t) (fun x=>.agg (cE x)) v.strip H') (RP:=fun v H'=>zbp (zak t) v H') ir104 ck104 (Al4 _) fun KP Q hQ hP=>?_)
 have pan:∀(v:AV) (H1:Heap) (n:Int),v=ye n→(zak t)=.error n→KP v H1:=fun v H1 n h1 h2=>hP v H1 H1 (Low.refl _) ⟨n,h2,h1⟩
 have fin:=KI.done hQ
 have hll:=zbc hl
 simp only[zG] at hll
 have K0:KI H r L t (16-16) H:=let ⟨_,hs,hr⟩:=h;KI.start hs hr
 have hx:=Eq.refl (zak t)
 have q0:=hq
 conv at hx=>rhs;unfold zak
 simp only[yx] at hx
 simp(disch:=first|omega|assumption) only[ir104,go_sem]
 refine goA_intro fun b2 hb2=>?_
 have hb2H:=hb2
 have n2:=K0.ne hb2H
 have n2s:=Ne.symm n2
 have nq2:q≠b2:=fun e=>by subst e;rw[q0] at hb2;cases hb2
 simp(disch:=first|omega|assumption) only[q0,nq2,go_sem]
 refine goK_both (zay (K0.box hb2H).here hl) (fun v H1 ⟨s,t1,e1,hv1,a1⟩=>?_) fun v H1 ⟨n,e1,hv1⟩=>pan v H1 n hv1 (by rw[hx,e1];rfl)
 subst hv1
 rw[e1,zj] at hx
 have K1:=(K0.box hb2H).call a1
 have g1_2:=(a1.other n2s).trans (upd_same ..)
 have q1:=(a1.other hqr).trans ((upd_ne nq2).trans q0)
 simp(disch:=first|omega|assumption) only[go_sem]
 refine goA_intro fun b3 hb3=>?_
 have h32:b3≠b2:=fun e=>by subst e;rw[g1_2] at hb3;cases hb3
 have hb3H:=K1.none hb3
 have n3:=K0.ne hb3H
 have n3s:=Ne.symm n3
 have nq3:q≠b3:=fun e=>by subst e;rw[q1] at hb3;cases hb3
 simp(disch:=first|omega|assumption) only[q1,nq3,go_sem]
 refine goK_both (Y0 (K1.box hb3H).here hl _) (fun v H2 ⟨_,t2,e2,hv2,a2⟩=>?_) fun v H2 ⟨n,e2,hv2⟩=>pan v H2 n hv2 (by rw[hx,e2];rfl)
 subst hv2
 rw[e2,zj] at hx
 have K2:=(K1.box hb3H).call a2
 have g2_2:=(a2.other n2s).trans ((upd_ne (Ne.symm h32)).trans g1_2)
 have g2_3:=(a2.other n3s).trans (upd_same ..)
 have q2:=(a2.other hqr).trans ((upd_ne nq3).trans q1)
 simp(disch:=first|omega|assumption) only[g2_3,q2,go_sem]
 refine goK_both (zlf q2 hqr K2.here hl) (fun v H3 ⟨x1,t3,e3,hv3,a3⟩=>?_) fun v H3 ⟨n,e3,hv3⟩=>pan v H3 n hv3 (by rw[hx,e3];rfl)
 subst hv3
 rw[e3,zj] at hx
 have K3:=K2.call a3
 have g3_2:=(a3.other n2s).trans g2_2
 have g3_3:=(a3.other n3s).trans g2_3
 have q3:=(a3.other hqr).trans q2
 have hlt1:=zaO.lt (by decide) _ _ _ e3
 have hsl:=let ⟨_,hp,_⟩:=K2.here;Y9 hp
 obtain⟨R,hR⟩:∃ R,zJ [125] ZV (t3.length+1) [x1] t3=R:=⟨_,rfl⟩
 rw[hR] at hx
 simp(disch:=first|omega|assumption) only[zf,zc,za,ze,zd,zb,zh,Al3,g3_3,go_sem]
 refine goP_ownS (o:=.nil) rfl (by simp only[Al2,Al3];omega) (by simp only[Al2,Al3,maxLen];omega) fun oA HA hsA=>?_
 have Kn:KO H r L t3 (16-16) H3 .nil 0 1:=⟨K3,rfl,nofun⟩
 have KA:=Kn.app (by simpa using hsA)
 have gA3:=Kn.stay (by simpa using hsA) g3_3
 have gA2:=Kn.stay (by simpa using hsA) g3_2
 have qA:=Kn.stay (by simpa using hsA) q3
 simp(disch:=first|omega|assumption) only[zf,zc,za,ze,zd,zb,zh,gA3,Al3,go_sem]
 refine goL_st (fun x:Own×List (List UInt8)×TS=>[]) (fun x H'=>KO H r L x.2.2 (16-16) H' x.1 x.2.1.length 1∧H' b3=some (.cells [.int .i64 4,.str s,.sl .nil 1 [],.sl .nil 6 [],.sl x.1 1 (cT x.2.1),.sl .nil 10 []])∧H' b2=some (.cells zE)∧H' q=some (.cells [.ptr r 0,A1,A2,A3,A4])∧(∃ m',x.2.2.length<m'∧zJ [125] ZV m' x.2.1 x.2.2=R)∧x.2.1.length+x.2.2.length≤L.length) (fun x=>x.2.2.length) (oA,[x1],t3) (by simp(disch:=first|omega|assumption) only[go_sem]) ⟨KA.box hb3H gA3,by rw[upd_same];simp[cT,List.map_nil],(upd_ne (Ne.symm h32)).trans gA2,(upd_ne nq3).trans qA,⟨_,Nat.lt_succ_self _,hR⟩,by simp only[List.length_singleton];omega⟩ ?_
 rintro⟨o,l,u⟩ H3 J ⟨K3,g33,g32,q3,⟨m',hm,hR3⟩,hlen⟩ hJ
 simp only at K3 g33 g32 q3 hm hR3 hlen
 obtain⟨m',rfl⟩:∃ j,m'=j+1:=⟨m'-1,by omega⟩
 have hcl:=yg l
 simp(disch:=first|omega|assumption) only[q3,go_sem]
 refine goK_ret (zgw K3.here hl [125]) fun v H4 ⟨hv4,a4⟩=>?_
 subst hv4
 have q4:=(a4.other hqr).trans q3
 have g43:=(a4.other n3s).trans g33
 have g42:=(a4.other n2s).trans g32
 cases hj:isP [125] u with
 | true =>
  rw[y9,hj,if_pos rfl] at a4
  have e1:R=.ok (l,u.tail):=by rw[← hR3,zJ,hj];rfl
  rw[e1] at hx
  simp only[zE] at g42
  simp(disch:=first|omega|assumption) only[g43,g42,h32,Ne.symm h32,go_sem]
  refine fin _ _ [.agg [.int .i64 4,.str s,.sl .nil 1 [],.sl .nil 6 [],.sl o 1 (cT l),.sl .nil 10 []]] _ u.tail (by simp(disch:=first|omega|assumption) only[ir104,resvs,resv,go_sem]) hx ((K3.toKI.call a4).box hb2H) ?_
  simp[tupOf,AV.strip,AV.strip1,cE,zfX,cT,cLs,cWs]
 | false =>
  rw[y9,hj] at a4
  have K4:=K3.call (by simpa using a4)
  rw[zJ,hj] at hR3
  simp only[Al7,if_false] at hR3
  simp(disch:=first|omega|assumption) only[q4,g43,go_sem]
  refine goK_both (zlf q4 hqr K4.here hl) (fun v H5 ⟨x,t5,e5,hv5,a5⟩=>?_) fun v H5 ⟨n5,e5,hv5⟩=>pan v H5 n5 hv5 (by rw[hx,← hR3,e5];rfl)
  subst hv5
  rw[e5,zj] at hR3
  have hlt:=zaO.lt (by decide) _ _ _ e5
  have K5:=K4.call a5
  have q5:=(a5.other hqr).trans q4
  have g53:=(a5.other n3s).trans g43
  have g52:=(a5.other n2s).trans g42
  simp(disch:=first|omega|assumption) only[zf,zc,za,ze,zd,zb,zh,Al3,g53,go_sem]
  refine goP_ownS (by rw[hcl];exact K5.own) (by simp only[hcl,Al2,Al3];omega) (by simp only[hcl,Al2,Al3,maxLen];omega) fun o6 H6 hs6=>?_
  have K6:=K5.app (by simpa[hcl] using hs6)
  have q6:=K5.stay hs6 q5
  have g63:=K5.stay hs6 g53
  have g62:=K5.stay hs6 g52
  simp(disch:=first|omega|assumption) only[zf,zc,za,ze,zd,zb,zh,g63,Al3,go_sem]
  refine goJ (hJ (o6,l++[x],t5) _ (by simp only;omega) ⟨by simpa using K6.box hb3H g63,by rw[upd_same];simp[cT,List.map_nil],(upd_ne (Ne.symm h32)).trans g62,(upd_ne nq3).trans q6,⟨m',by simp only;omega,hR3⟩,by simp only[Al5,Al2,Al3];omega⟩) (by simp(disch:=first|omega|assumption) only[go_sem])
theorem zjd {H:Heap} {r q:Nat} {L t:TS} {A1 A2 A3 A4:AV} (hq:H q=some (.cells [.ptr r 0,A1,A2,A3,A4])) (hqr:q≠r) (h:Y3 H r L t (16-16)) (hl:wT L≤zG) :
  ACalls Tryz.prog 103 [.ptr q 0] H (RpE H r L (16-16) (ZT t) (fun x=>.agg (cE x))):=by
 refine yn (ACalls.goO (R:=fun v H'=>zbb H r L (16-16) (ZT t) (fun x=>.agg (cE x)) v.strip H') (RP:=fun v H'=>zbp (ZT t) v H') ir103 ck103 (Al4 _) fun KP Q hQ hP=>?_)
 have pan:∀(v:AV) (H1:Heap) (n:Int),v=ye n→(ZT t)=.error n→KP v H1:=fun v H1 n h1 h2=>hP v H1 H1 (Low.refl _) ⟨n,h2,h1⟩
 have fin:=KI.done hQ
 have hll:=zbc hl
 simp only[zG] at hll
 have K0:KI H r L t (16-16) H:=let ⟨_,hs,hr⟩:=h;KI.start hs hr
 have hx:=Eq.refl (ZT t)
 have q0:=hq
 conv at hx=>rhs;unfold ZT
 simp(disch:=first|omega|assumption) only[ir103,go_sem]
 refine goA_intro fun b2 hb2=>?_
 have hb2H:=hb2
 have n2:=K0.ne hb2H
 have n2s:=Ne.symm n2
 have nq2:q≠b2:=fun e=>by subst e;rw[q0] at hb2;cases hb2
 simp(disch:=first|omega|assumption) only[q0,nq2,go_sem]
 refine goK_both (zay (K0.box hb2H).here hl) (fun v H1 ⟨s,t1,e1,hv1,a1⟩=>?_) fun v H1 ⟨n,e1,hv1⟩=>pan v H1 n hv1 (by rw[hx,e1];rfl)
 subst hv1
 rw[e1,zj] at hx
 have K1:=(K0.box hb2H).call a1
 have g1_2:=(a1.other n2s).trans (upd_same ..)
 have q1:=(a1.other hqr).trans ((upd_ne nq2).trans q0)
 simp(disch:=first|omega|assumption) only[go_sem]
 refine goA_intro fun b3 hb3=>?_
 have h32:b3≠b2:=fun e=>by subst e;rw[g1_2] at hb3;cases hb3
 have hb3H:=K1.none hb3
 have n3:=K0.ne hb3H
 have n3s:=Ne.symm n3
 have nq3:q≠b3:=fun e=>by subst e;rw[q1] at hb3;cases hb3
 simp(disch:=first|omega|assumption) only[q1,nq3,go_sem]
 refine goK_both (Y0 (K1.box hb3H).here hl _) (fun v H2 ⟨_,t2,e2,hv2,a2⟩=>?_) fun v H2 ⟨n,e2,hv2⟩=>pan v H2 n hv2 (by rw[hx,e2];rfl)
 subst hv2
 rw[e2,zj] at hx
 have K2:=(K1.box hb3H).call a2
 have g2_2:=(a2.other n2s).trans ((upd_ne (Ne.symm h32)).trans g1_2)
 have g2_3:=(a2.other n3s).trans (upd_same ..)
 have q2:=(a2.other hqr).trans ((upd_ne nq3).trans q1)
 simp(disch:=first|omega|assumption) only[q2,go_sem]
 refine goK_both (zj8 [124] q2 hqr K2.here hl) (fun v H3 ⟨l,t3,e3,hv3,a3⟩=>?_) fun v H3 ⟨n,e3,hv3⟩=>pan v H3 n hv3 (by rw[hx,e3];rfl)
 subst hv3
 rw[e3,zj] at hx
 have K3:=K2.call a3
 have g3_2:=(a3.other n2s).trans g2_2
 have g3_3:=(a3.other n3s).trans g2_3
 have q3:=(a3.other hqr).trans q2
 simp(disch:=first|omega|assumption) only[g3_3,g3_2,h32,Ne.symm h32,go_sem]
 refine fin _ _ [.agg [.int .i64 3,.str s,.sl .nil 1 [],.sl .nil 6 [],.sl .no 1 (cT l),.sl .nil 10 []]] _ _ (by simp(disch:=first|omega|assumption) only[ir103,resvs,resv,go_sem]) hx ((K3.box hb3H).box hb2H) (by simp[tupOf,AV.strip,AV.strip1,cE,cT,cWs,cLs])
theorem zjA {H:Heap} {r q:Nat} {L t:TS} {A1 A2 A3 A4:AV} (hq:H q=some (.cells [.ptr r 0,A1,A2,A3,A4])) (hqr:q≠r) (h:Y3 H r L t (16-16)) (hl:wT L≤zG) :
  ACalls Tryz.prog 105 [.ptr q 0] H (RpE H r L (16-16) (ZP t) (fun x=>.agg (cE x))):=by
 refine yn (ACalls.goO (R:=fun v H'=>zbb H r L (16-16) (ZP t) (fun x=>.agg (cE x)) v.strip H') (RP:=fun v H'=>zbp (ZP t) v H') ir105 ck105 (Al4 _) fun KP Q hQ hP=>?_)
 have pan:∀(v:AV) (H1:Heap) (n:Int),v=ye n→(ZP t)=.error n→KP v H1:=fun v H1 n h1 h2=>hP v H1 H1 (Low.refl _) ⟨n,h2,h1⟩
 have fin:=KI.done hQ
 have hll:=zbc hl
 simp only[zG] at hll
 have K0:KI H r L t (16-16) H:=let ⟨_,hs,hr⟩:=h;KI.start hs hr
 have hx:=Eq.refl (ZP t)
 have q0:=hq
 conv at hx=>rhs;unfold ZP
 simp(disch:=first|omega|assumption) only[ir105,go_sem]
 refine goA_intro fun b2 hb2=>?_
 have hb2H:=hb2
 have n2:=K0.ne hb2H
 have n2s:=Ne.symm n2
 have nq2:q≠b2:=fun e=>by subst e;rw[q0] at hb2;cases hb2
 simp(disch:=first|omega|assumption) only[q0,nq2,go_sem]
 refine goK_both (zay (K0.box hb2H).here hl) (fun v H1 ⟨s,t1,e1,hv1,a1⟩=>?_) fun v H1 ⟨n,e1,hv1⟩=>pan v H1 n hv1 (by rw[hx,e1];rfl)
 subst hv1
 rw[e1,zj] at hx
 have K1:=(K0.box hb2H).call a1
 have g1_2:=(a1.other n2s).trans (upd_same ..)
 have q1:=(a1.other hqr).trans ((upd_ne nq2).trans q0)
 simp(disch:=first|omega|assumption) only[go_sem]
 refine goA_intro fun b3 hb3=>?_
 have h32:b3≠b2:=fun e=>by subst e;rw[g1_2] at hb3;cases hb3
 have hb3H:=K1.none hb3
 have n3:=K0.ne hb3H
 have n3s:=Ne.symm n3
 have nq3:q≠b3:=fun e=>by subst e;rw[q1] at hb3;cases hb3
 simp(disch:=first|omega|assumption) only[q1,nq3,go_sem]
 refine goK_both (Y0 (K1.box hb3H).here hl _) (fun v H2 ⟨_,t2,e2,hv2,a2⟩=>?_) fun v H2 ⟨n,e2,hv2⟩=>pan v H2 n hv2 (by rw[hx,e2];rfl)
 subst hv2
 rw[e2,zj] at hx
 have K2:=(K1.box hb3H).call a2
 have g2_2:=(a2.other n2s).trans ((upd_ne (Ne.symm h32)).trans g1_2)
 have g2_3:=(a2.other n3s).trans (upd_same ..)
 have q2:=(a2.other hqr).trans ((upd_ne nq3).trans q1)
 simp(disch:=first|omega|assumption) only[q2,go_sem]
 refine goK_both (zhG [125] q2 hqr K2.here hl) (fun v H3 ⟨l,t3,e3,hv3,a3⟩=>?_) fun v H3 ⟨n,e3,hv3⟩=>pan v H3 n hv3 (by rw[hx,e3];rfl)
 subst hv3
 rw[e3,zj] at hx
 have K3:=K2.call a3
 have g3_2:=(a3.other n2s).trans g2_2
 have g3_3:=(a3.other n3s).trans g2_3
 have q3:=(a3.other hqr).trans q2
 simp(disch:=first|omega|assumption) only[g3_3,g3_2,h32,Ne.symm h32,go_sem]
 refine fin _ _ [.agg [.int .i64 5,.str s,.sl .nil 1 [],.sl .nil 6 [],.sl .nil 1 [],.sl .no 10 (cWs l)]] _ _ (by simp(disch:=first|omega|assumption) only[ir105,resvs,resv,go_sem]) hx ((K3.box hb3H).box hb2H) (by simp[tupOf,AV.strip,AV.strip1,cE,cT,cWs,cLs])
theorem zeF:Zt yp:=fun t n h =>
 zo h (fun e he=>z6 _ _ he) fun s t2 _ h2=>zo h2 (fun e he=>yw _ _ _ he) fun _ t3 _ h3=>zo h3 (fun e he=>zfq 4 _ _ he) fun ty t4 _ h4=>by
  split at h4
  ·exact zo h4 (fun e he=>zfk true 16 _ _ he) fun v t5 _ h5=>by cases h5
  ·cases h4
theorem zit:Zt yZ:=fun t n h=>by
 refine zo h (fun e he=>z6 _ _ he) fun s t2 _ h2=>zo h2 (fun e he=>?_) fun ps t3 _ h3=>zo h3 (fun e he=>yw _ _ _ he) fun _ t4 _ h4=>zo h4 (fun e he=>zfq 4 _ _ he) fun ty t5 _ h5=>zo h5 (fun e he=>zi4 _ _ _ _ he) fun d t6 _ h6=>by cases h6
 split at he
 ·exact YW zeF (ZA.lt (by decide)) _ _ he
 ·cases he
theorem zep (m:List UInt8):Zt (ZU m):=fun t n h =>
 zo h (fun e he=>z6 _ _ he) fun s t2 _ h2=>zb3 z6 (zD.lt (by decide)) _ _ _ _ (Nat.lt_succ_self _) h2
theorem zjE:Zt ZV:=fun t n h=>by
 unfold ZV at h
 split at h
 ·cases h;decide
 ·exact z6 _ _ h
theorem zh4 (k:Int):Zt (za8 k):=fun t n h=>by
 refine zo h (fun e he=>z6 _ _ he) fun s t2 _ h2=>zo h2 (fun e he=>?_) fun fs t3 _ h3=>zo h3 (fun e he=>yw _ _ _ he) fun _ t4 _ h4=>zo h4 (fun e he=>YW zit (ZE.lt (by decide)) _ _ he) fun l t5 _ h5=>by cases h5
 split at he
 ·exact zep _ _ _ he
 ·cases he
theorem zjK:Zt zak:=fun t n h =>
 zo h (fun e he=>z6 _ _ he) fun s t2 _ h2=>zo h2 (fun e he=>yw _ _ _ he) fun _ t3 _ h3=>zo h3 (fun e he=>YW zjE (zaO.lt (by decide)) _ _ he) fun l t4 _ h4=>by cases h4
theorem zid:Zt ZT:=fun t n h =>
 zo h (fun e he=>z6 _ _ he) fun s t2 _ h2=>zo h2 (fun e he=>yw _ _ _ he) fun _ t3 _ h3=>zo h3 (fun e he=>zep _ _ _ he) fun l t4 _ h4=>by cases h4
theorem zih:Zt ZP:=fun t n h =>
 zo h (fun e he=>z6 _ _ he) fun s t2 _ h2=>zo h2 (fun e he=>yw _ _ _ he) fun _ t3 _ h3=>zo h3 (fun e he=>YW zeF (ZA.lt (by decide)) _ _ he) fun l t4 _ h4=>by cases h4
theorem zjP (d:SR):Zt (zbd d):=fun t n h=>by
 refine zo h (fun e he=>yw _ _ _ he) fun _ t2 _ h2=>zo h2 (fun e he=>?_) fun _ t3 _ h3=>zo h3 (fun e he=>yw _ _ _ he) fun _ t4 _ h4=>zo h4 (fun e he=>z6 _ _ he) fun q t5 _ h5=>zo h5 (fun e he=>?_) fun m t6 _ h6=>zo h6 (fun e he=>yw _ _ _ he) fun _ t7 _ h7=>by cases h7
 ·split at he
  ·cases he
  ·cases he;decide
 ·split at he
  ·exact zo he (fun e he=>yw _ _ _ he) fun _ t6 _ h6=>z6 _ _ h6
  ·cases he
theorem zgq (d:SR):Zt (zC d):=fun t n h=>by
 have put:∀ {f:TS→PR DefD} {t:TS},Zt f→pb (f t) (fun x t=>(.ok (Zw d x,t):PR SR))=.error n→n≠0:=fun hf h=>zo h (fun e he=>hf _ _ he) fun x t _ h=>by cases h
 unfold zC Yo at h
 split at h
 ·exact zjP _ _ _ h
 split at h
 ·exact put (zh4 1) h
 split at h
 ·exact put (zh4 2) h
 split at h
 ·exact put zid h
 split at h
 ·exact put zjK h
 split at h
 ·exact put zih h
 ·cases h;decide
theorem zcV {d:SR} {t:TS} {d':SR} {t':TS} (h:zC d t=.ok (d',t')):t'.length<t.length:=by
 obtain⟨p,hp⟩:=(zig h).suf
 cases p with
 | nil=>simp at hp;subst hp;exact absurd h (zfM d d' _)
 | cons x p=>rw[← hp];simp;omega
def SI (d:SR):Prop:=d.told=false→d.q=[]∧d.m=[]
theorem zd7 {d:SR} {t:TS} {d':SR} {t':TS} (h:zC d t=.ok (d',t')):d'.defs.length≤d.defs.length+1∧(SI d→SI d'):=by
 have put:∀ {f:TS→PR DefD} {t:TS},pb (f t) (fun x t=>(.ok (Zw d x,t):PR SR))=.ok (d',t')→d'.defs.length≤d.defs.length+1∧(SI d→SI d'):=fun h=>by
  obtain⟨x,t1,_,h2⟩:=zm h
  cases h2
  exact⟨by simp[Zw],id⟩
 unfold zC Yo at h
 split at h
 ·obtain⟨_,t1,h1,h2⟩:=zm h
  obtain⟨_,t2,h3,h4⟩:=zm h2
  obtain⟨_,t3,h5,h6⟩:=zm h4
  obtain⟨q,t4,h7,h8⟩:=zm h6
  obtain⟨m,t5,h9,h10⟩:=zm h8
  obtain⟨_,t6,h11,h12⟩:=zm h10
  cases h12
  exact⟨Nat.le_succ _,fun _ e=>by cases e⟩
 split at h
 ·exact put h
 split at h
 ·exact put h
 split at h
 ·exact put h
 split at h
 ·exact put h
 split at h
 ·exact put h
 ·cases h
theorem zek:∀(n:Nat) (d:SR) (t:TS) (e:Int),t.length<n→YO n d t=.error e→e≠0
 | 0,_,_,_,h,_=>absurd h (Nat.not_lt_zero _)
 | n+1,d,t,e,hn,h=>by
  rw[YO] at h
  split at h
  ·cases h
  ·exact zo h (fun k hk=>zgq _ _ _ hk) fun d' t' ha h'=>zek n _ _ _ (by have:=zcV ha;omega) h'
theorem zkN:Zt zfe:=fun t n h =>
 zo h (fun e he=>zgq _ _ _ he) fun d t1 ha h1=>zek _ _ _ _ (Nat.lt_succ_self _) h1
theorem zbI {f:FuncId} {args:List AV} {H:Heap} {b:Nat} {x:AObj} {Q:AEnd→Heap→Prop} (hb:H b=some x) (h:ACalls Tryz.prog f args (H.del b) Q) :
  ACalls Tryz.prog f args H (fun e H'=>∃ A,Q e A∧A b=none∧H'=Heap.union A (Heap.one b x)):=by
 have hd:Heap.Disj (H.del b) (Heap.one b x):=fun c=>by
  by_cases e:c=b
  ·subst e;exact .inl (by simp[Heap.del])
  ·exact .inr (by simp[Heap.one,e])
 have hu:H=Heap.union (H.del b) (Heap.one b x):=by
  funext c
  by_cases e:c=b
  ·subst e;simp[Heap.union,Heap.del,Heap.one,hb]
  ·simp[Heap.union,Heap.del,Heap.one,e]
 have h2:=ACalls.frame hd h
 rw[← hu] at h2
 refine h2.mono fun e H' ⟨A,q,hd',hH⟩=>⟨A,q,?_,hH⟩
 rcases hd' b with h|h
 ·exact h
 ·simp[Heap.one] at h
def rq (r:Nat) (d:SR) (o:Own):List AV:=[.ptr r 0,.sl o 6 (cEs d.defs),.str d.q,.str d.m,.bool d.told]
structure EI (L:TS) (r q:Nat) (H:Heap) (t:TS) (d:SR) (o:Own):Prop where
 rd:Y3 H r L t (16-16)
 box:H q=some (.cells (rq r d o))
 own:Owned H o d.defs.length 6
 ne:q≠r
section
variable {L t t':TS} {r q b:Nat} {H H':Heap} {d d':SR} {o o':Own}
theorem EI.call (h:EI L r q H t d o) (ha:Pat H r L t' (16-16) H'):EI L r q H' t' d o:=by
 obtain⟨p,_,hr⟩:=h.rd
 have hb:=ha.other h.ne
 obtain⟨p',hp',rfl⟩:=ha
 exact⟨⟨p',hp',upd_same ..⟩,by rw[hb];exact h.box,yN h.own hr,h.ne⟩
theorem EI.new (h:EI L r q H t d o) (hb:H b=none) (x:AObj):EI L r q (H.upd b x) t d o:=by
 obtain⟨p,hp,hr⟩:=h.rd
 exact⟨⟨p,hp,by rw[upd_ne (fun e=>by rw[e,hb] at hr;cases hr)];exact hr⟩,by rw[upd_ne (fun e=>by have:=h.box;rw[e,hb] at this;cases this)];exact h.box,h.own.upd hb,h.ne⟩
theorem EI.cell {cs:List AV} (h:EI L r q H t d o) (hb:H b=some (.cells cs)) (h1:r≠b) (h2:q≠b) (x:AObj):EI L r q (H.upd b x) t d o:=by
 obtain⟨p,hp,hr⟩:=h.rd
 exact⟨⟨p,hp,by rw[upd_ne h1];exact hr⟩,by rw[upd_ne h2];exact h.box,yN h.own hb,h.ne⟩
theorem EI.set (h:EI L r q H t d o) (he:d'.defs=d.defs):EI L r q (H.upd q (.cells (rq r d' o))) t d' o:=by
 obtain⟨p,hp,hr⟩:=h.rd
 exact⟨⟨p,hp,by rw[upd_ne (Ne.symm h.ne)];exact hr⟩,upd_same ..,by rw[he];exact yN h.own h.box,h.ne⟩
theorem EI.put {n:Nat} {xs:List (List AV)} (h:EI L r q H t d o) (x:DefD) (hs:OwnS H o H' o' n 6) (hn:n=(d.defs++[x]).length) (hx:xs=cEs (d.defs++[x])) :
  EI L r q (H'.upd q (.cells [.ptr r 0,.sl o' 6 xs,.str d.q,.str d.m,.bool d.told])) t (Zw d x) o':=by
 obtain⟨p,hp,hr⟩:=h.rd
 have hb:=zL h.own h.box hs.kept
 have hr2:=zL h.own hr hs.kept
 subst hn;subst hx
 exact⟨⟨p,hp,by rw[upd_ne (Ne.symm h.ne)];exact hr2⟩,upd_same ..,yN hs.own hb,h.ne⟩
theorem EI.del {cs:List AV} (h:EI L r q H t d o) (hb:H b=some (.cells cs)) (h1:r≠b) (h2:q≠b):EI L r q (H.del b) t d o:=by
 obtain⟨p,hp,hr⟩:=h.rd
 have ho:=h.own
 refine⟨⟨p,hp,by simp[Heap.del,h1,hr]⟩,by simp[Heap.del,h2,h.box],?_,h.ne⟩
 cases o with
 | tip c y =>
  have h5:H c=some _:=ho
  have:c≠b:=fun e=>by rw[e,hb] at h5;cases h5
  show (H.del b) c=_
  simp[Heap.del,this,h5]
 | no=>exact ho
 | nil=>exact ho
 | full=>exact ho
theorem EI.un {B:Heap} (h:EI L r q H t d o):EI L r q (Heap.union H B) t d o:=by
 obtain⟨p,hp,hr⟩:=h.rd
 have ho:=h.own
 refine⟨⟨p,hp,by simp[Heap.union,hr]⟩,by simp[Heap.union,h.box],?_,h.ne⟩
 cases o with
 | tip c y =>
  have h5:H c=some _:=ho
  show (Heap.union H B) c=_
  simp[Heap.union,h5]
 | no=>exact ho
 | nil=>exact ho
 | full=>exact ho
end
def EQ (L:TS) (r q:Nat) (x:PR SR) (v:AV) (H':Heap):Prop:=v=.tup []∧∃ d' t' o',x=.ok (d',t')∧EI L r q H' t' d' o'
def EX (x:PR SR) (v:AV) (_:Heap):Prop:=∃ n,v=ye n∧x=.error n
abbrev EE (L:TS) (r q:Nat) (x:PR SR):AEnd→Heap→Prop:=fun e H'=>match e with|.ret v=>EQ L r q x v H'|.pan v=>EX x v H'
theorem zmi {L t:TS} {r q:Nat} {H:Heap} {d:SR} {o:Own} (h:EI L r q H t d o) (hl:wT L≤zG) (ht:d.told=false) (hi:SI d) :
  ACalls Tryz.prog 101 [.ptr q 0] H (EE L r q (zbd d t)):=by
 refine ACalls.goO (R:=EQ L r q (zbd d t)) (RP:=EX (zbd d t)) ir101 ck101 (Al4 _) fun KP Q hQ hP=>?_
 have pan:∀(v:AV) (H1:Heap) (n:Int),v=ye n→zbd d t=.error n→KP v H1:=fun v H1 n h1 h2=>hP v H1 H1 (Low.refl _) ⟨n,h1,h2⟩
 have hx:=Eq.refl (zbd d t)
 conv at hx=>rhs;unfold zbd
 obtain⟨hq0,hm0⟩:=hi ht
 have b0:=h.box
 simp only[rq] at b0
 have E0:EI L r q (H.upd q (.cells (rq r ⟨d.defs,d.q,d.m,true⟩ o))) t ⟨d.defs,d.q,d.m,true⟩ o:=h.set rfl
 have nqr:=h.ne
 simp only[rq] at E0
 simp(disch:=first|omega|assumption) only[ir101,b0,go_sem]
 refine goK_both (Y0 E0.rd hl [123]) (fun v H1 ⟨_,t1,e1,hv1,a1⟩=>?_) fun v H1 ⟨n,e1,hv1⟩=>pan v H1 n hv1 (by rw[hx,e1];rfl)
 subst hv1
 rw[e1,zj] at hx
 have E1:=E0.call a1
 have b1:=E1.box
 simp only[rq] at b1
 simp(disch:=first|omega|assumption) only[b1,go_sem]
 refine goK_ret (Z9 E1.rd hl [113,117,101,114,121]) fun v H2 ⟨hv2,a2⟩=>?_
 subst hv2
 have E2:=E1.call a2
 unfold zN at E2
 have b2:=E2.box
 simp only[rq] at b2
 cases hw:isW [113,117,101,114,121] t1 with
 | false =>
  rw[hw] at hx
  simp(disch:=first|omega|assumption) only[b2,go_sem]
  exact goK_both (zax _ r 2) (fun _ _ h=>h.elim) fun v H3 h=>pan v H3 2 h hx
 | true =>
  rw[hw] at hx E2
  simp only[if_true,zj] at hx E2
  simp(disch:=first|omega|assumption) only[b2,go_sem]
  refine goK_both (Y0 E2.rd hl [58]) (fun v H3 ⟨_,t3,e3,hv3,a3⟩=>?_) fun v H3 ⟨n,e3,hv3⟩=>pan v H3 n hv3 (by rw[hx,e3];rfl)
  subst hv3
  rw[e3,zj] at hx
  have E3:=E2.call a3
  have b3:=E3.box
  simp only[rq] at b3
  simp(disch:=first|omega|assumption) only[b3,go_sem]
  refine goK_both (zay E3.rd hl) (fun v H4 ⟨qn,t4,e4,hv4,a4⟩=>?_) fun v H4 ⟨n,e4,hv4⟩=>pan v H4 n hv4 (by rw[hx,e4];rfl)
  subst hv4
  rw[e4,zj] at hx
  have E4':=E3.call a4
  have b4:=E4'.box
  have E4:EI L r q (H4.upd q (.cells (rq r ⟨d.defs,qn,d.m,true⟩ o))) t4 ⟨d.defs,qn,d.m,true⟩ o:=E4'.set rfl
  simp only[rq] at b4 E4
  simp(disch:=first|omega|assumption) only[b4,go_sem]
  refine goK_ret (Z9 E4.rd hl [109,117,116,97,116,105,111,110]) fun v H5 ⟨hv5,a5⟩=>?_
  subst hv5
  have E5:=E4.call a5
  unfold zN at E5
  have b5:=E5.box
  simp only[rq] at b5
  cases hmw:isW [109,117,116,97,116,105,111,110] t4 with
  | false =>
   rw[hmw] at hx E5
   simp only[Al7,if_false,zj] at hx E5
   simp(disch:=first|omega|assumption) only[b5,go_sem]
   refine goK_both (Y0 E5.rd hl [125]) (fun v H6 ⟨_,t6,e6,hv6,a6⟩=>?_) fun v H6 ⟨n,e6,hv6⟩=>pan v H6 n hv6 (by rw[hx,e6];rfl)
   subst hv6
   rw[e6,zj] at hx
   have E6:=E5.call a6
   rw[hm0] at E6
   simp(disch:=first|omega|assumption) only[go_sem]
   exact hQ _ _ _ _ [] nofun rfl (Low.refl _) ⟨rfl,_,_,o,hx,E6⟩
  | true =>
   rw[hmw] at hx E5
   simp only[if_true] at hx E5
   simp(disch:=first|omega|assumption) only[b5,go_sem]
   refine goK_both (Y0 E5.rd hl [58]) (fun v H6 ⟨_,t6,e6,hv6,a6⟩=>?_) fun v H6 ⟨n,e6,hv6⟩=>pan v H6 n hv6 (by rw[hx,e6];rfl)
   subst hv6
   rw[e6,zj] at hx
   have E6:=E5.call a6
   have b6:=E6.box
   simp only[rq] at b6
   simp(disch:=first|omega|assumption) only[b6,go_sem]
   refine goK_both (zay E6.rd hl) (fun v H7 ⟨mn,t7,e7,hv7,a7⟩=>?_) fun v H7 ⟨n,e7,hv7⟩=>pan v H7 n hv7 (by rw[hx,e7];rfl)
   subst hv7
   rw[e7,zj] at hx
   have E7':=E6.call a7
   have b7:=E7'.box
   have E7:EI L r q (H7.upd q (.cells (rq r ⟨d.defs,qn,mn,true⟩ o))) t7 ⟨d.defs,qn,mn,true⟩ o:=E7'.set rfl
   simp only[rq] at b7 E7
   simp(disch:=first|omega|assumption) only[b7,go_sem]
   refine goK_both (Y0 E7.rd hl [125]) (fun v H8 ⟨_,t8,e8,hv8,a8⟩=>?_) fun v H8 ⟨n,e8,hv8⟩=>pan v H8 n hv8 (by rw[hx,e8];rfl)
   subst hv8
   rw[e8,zj] at hx
   have E8:=E7.call a8
   simp(disch:=first|omega|assumption) only[go_sem]
   exact hQ _ _ _ _ [] nofun rfl (Low.refl _) ⟨rfl,_,_,o,hx,E8⟩
theorem yI (a b c d e f:AV) (x:DefD):splice [a,b,c,d,e,f] 0 (cE x)=cE x:=rfl
theorem zcx {L t:TS} {r q:Nat} {H:Heap} {d:SR} {o:Own} (h:EI L r q H t d o) (hl:wT L≤zG) (hi:SI d) (hlen:d.defs.length≤L.length) :
  ACalls Tryz.prog 42 [.ptr q 0] H (EE L r q (zC d t)):=by
 refine ACalls.goO (R:=EQ L r q (zC d t)) (RP:=EX (zC d t)) ir42 ck42 (Al4 _) fun KP Q hQ hP=>?_
 have pan:∀(v:AV) (H1:Heap) (n:Int),v=ye n→zC d t=.error n→KP v H1:=fun v H1 n h1 h2=>hP v H1 H1 (Low.refl _) ⟨n,h1,h2⟩
 have hll:=zbc hl
 simp only[zG] at hll
 have hcl:=zaU d.defs
 have b0:=h.box
 simp only[rq] at b0
 simp(disch:=first|omega|assumption) only[ir42,b0,go_sem]
 refine goK_ret (zaR h.rd hl) fun v H1 ⟨hv1,a1⟩=>?_
 subst hv1
 have E1:=h.call a1
 simp(disch:=first|omega|assumption) only[go_sem]
 refine goA_intro fun b2 hb2=>?_
 have n2:r≠b2:=fun e=>by obtain⟨p,_,hr⟩:=E1.rd;rw[e,hb2] at hr;cases hr
 have n2s:=Ne.symm n2
 have nq2:q≠b2:=fun e=>by have:=E1.box;rw[e,hb2] at this;cases this
 have E2:=E1.new hb2 (.cells zE)
 have g2:(H1.upd b2 (.cells zE)) b2=some (.cells zE):=upd_same ..
 have b2':=E2.box
 simp only[rq] at b2'
 by_cases hr:d.told=false∧isW [115,99,104,101,109,97] (zA t)=true
 ·obtain⟨ht,hw⟩:=hr
  have hx:zC d t=zbd d (zA t).tail:=by unfold zC Yo;rw[if_pos ⟨ht,hw⟩]
  rw[ht] at b2'
  simp(disch:=first|omega|assumption) only[b2',go_sem]
  refine goK_ret (Z9 E2.rd hl [115,99,104,101,109,97]) fun v H3 ⟨hv3,a3⟩=>?_
  subst hv3
  have E3:=E2.call a3
  unfold zN at E3
  rw[hw,if_pos rfl] at E3
  rw[hw]
  simp(disch:=first|omega|assumption) only[go_sem]
  refine goK_both (zmi E3 hl ht hi) (fun v H4 ⟨hv4,d',t',o',e4,E4⟩=>?_) fun v H4 ⟨n,hv4,e4⟩=>pan v H4 n hv4 (by rw[hx,e4])
  subst hv4
  simp(disch:=first|omega|assumption) only[go_sem]
  exact hQ _ _ _ _ [] nofun rfl (Low.refl _) ⟨rfl,d',t',o',by rw[hx,e4],E4⟩
 have h0:¬ (d.told=false∧isW [115,99,104,101,109,97] (zA t)=true):=hr
 have hc:d.told=true∨(d.told=false∧isW [115,99,104,101,109,97] (zA t)=false):=by
  cases h1:d.told with
  | true=>exact .inl rfl
  | false=>exact .inr ⟨rfl,by cases h2:isW [115,99,104,101,109,97] (zA t) with|true=>exact absurd ⟨h1,h2⟩ h0|false=>rfl⟩
 rcases hc with ht|⟨ht,hw⟩
 ·rw[ht] at b2'
  simp(disch:=first|omega|assumption) only[b2',go_sem]
  have bC0:=E2.box
  simp only[rq] at bC0
  try simp(disch:=first|omega|assumption) only[bC0,go_sem]
  refine goK_ret (Z9 E2.rd hl [116,121,112,101]) fun v HA0 ⟨hvA,aA⟩=>?_
  subst hvA
  have EA0:=E2.call aA
  have gA0:=(aA.other n2s).trans g2
  unfold zN at EA0
  cases hw0:isW [116,121,112,101] (zA t) with
  | true =>
   rw[hw0,if_pos rfl] at EA0
   have hx:zC d t=pb (za8 1 (zA t).tail) fun x t=>.ok (Zw d x,t):=by unfold zC Yo;rw[if_neg h0,if_pos hw0]
   have bA:=EA0.box
   have qA:=EA0.box
   simp only[rq] at bA qA
   simp(disch:=first|omega|assumption) only[bA,go_sem]
   refine goK_both (zcT 1 qA EA0.ne EA0.rd hl) (fun v HB ⟨x,tB,eB,hvB,aB⟩=>?_) fun v HB ⟨n,eB,hvB⟩=>pan v HB n hvB (by rw[hx,eB];rfl)
   subst hvB
   rw[eB,zj] at hx
   have EB:=EA0.call aB
   have gB:=(aB.other n2s).trans gA0
   have bB:=EB.box
   simp only[rq] at bB
   simp(disch:=first|omega|assumption) only[gB,bB,nq2,Ne.symm nq2,YK,ZH,yI,go_sem]
   have EC:=EB.cell gB n2 nq2 (.cells (cE x))
   refine goP_ownS (by rw[hcl];exact EC.own) (by simp only[hcl,Al2,Al3];omega) (by simp only[hcl,Al2,Al3,maxLen];omega) fun oD HD hsD=>?_
   have bD:=zL EC.own EC.box hsD.kept
   simp only[rq] at bD
   simp(disch:=first|omega|assumption) only[bD,go_sem]
   exact hQ _ _ _ _ [] nofun rfl (Low.refl _) ⟨rfl,_,_,oD,hx,EC.put x (by simpa[hcl] using hsD) (by simp) (by simp[cEs,y7])⟩
  | false =>
   rw[hw0] at EA0
   simp only[Al7,if_false] at EA0
   have bC1:=EA0.box
   simp only[rq] at bC1
   simp(disch:=first|omega|assumption) only[bC1,go_sem]
   refine goK_ret (Z9 EA0.rd hl [105,110,116,101,114,102,97,99,101]) fun v HA1 ⟨hvA,aA⟩=>?_
   subst hvA
   have EA1:=EA0.call aA
   have gA1:=(aA.other n2s).trans gA0
   unfold zN at EA1
   cases hw1:isW [105,110,116,101,114,102,97,99,101] (zA t) with
   | true =>
    rw[hw1,if_pos rfl] at EA1
    have hx:zC d t=pb (za8 2 (zA t).tail) fun x t=>.ok (Zw d x,t):=by unfold zC Yo;rw[if_neg h0,if_neg (by rw[hw0];decide),if_pos hw1]
    have bA:=EA1.box
    have qA:=EA1.box
    simp only[rq] at bA qA
    simp(disch:=first|omega|assumption) only[bA,go_sem]
    refine goK_both (zcT 2 qA EA1.ne EA1.rd hl) (fun v HB ⟨x,tB,eB,hvB,aB⟩=>?_) fun v HB ⟨n,eB,hvB⟩=>pan v HB n hvB (by rw[hx,eB];rfl)
    subst hvB
    rw[eB,zj] at hx
    have EB:=EA1.call aB
    have gB:=(aB.other n2s).trans gA1
    have bB:=EB.box
    simp only[rq] at bB
    simp(disch:=first|omega|assumption) only[gB,bB,nq2,Ne.symm nq2,YK,ZH,yI,go_sem]
    have EC:=EB.cell gB n2 nq2 (.cells (cE x))
    refine goP_ownS (by rw[hcl];exact EC.own) (by simp only[hcl,Al2,Al3];omega) (by simp only[hcl,Al2,Al3,maxLen];omega) fun oD HD hsD=>?_
    have bD:=zL EC.own EC.box hsD.kept
    simp only[rq] at bD
    simp(disch:=first|omega|assumption) only[bD,go_sem]
    exact hQ _ _ _ _ [] nofun rfl (Low.refl _) ⟨rfl,_,_,oD,hx,EC.put x (by simpa[hcl] using hsD) (by simp) (by simp[cEs,y7])⟩
   | false =>
    rw[hw1] at EA1
    simp only[Al7,if_false] at EA1
    have bC2:=EA1.box
    simp only[rq] at bC2
    simp(disch:=first|omega|assumption) only[bC2,go_sem]
    refine goK_ret (Z9 EA1.rd hl [117,110,105,111,110]) fun v HA2 ⟨hvA,aA⟩=>?_
    subst hvA
    have EA2:=EA1.call aA
    have gA2:=(aA.other n2s).trans gA1
    unfold zN at EA2
    cases hw2:isW [117,110,105,111,110] (zA t) with
    | true =>
     rw[hw2,if_pos rfl] at EA2
     have hx:zC d t=pb (ZT (zA t).tail) fun x t=>.ok (Zw d x,t):=by unfold zC Yo;rw[if_neg h0,if_neg (by rw[hw0];decide),if_neg (by rw[hw1];decide),if_pos hw2]
     have bA:=EA2.box
     have qA:=EA2.box
     simp only[rq] at bA qA
     simp(disch:=first|omega|assumption) only[bA,go_sem]
     refine goK_both (zjd qA EA2.ne EA2.rd hl) (fun v HB ⟨x,tB,eB,hvB,aB⟩=>?_) fun v HB ⟨n,eB,hvB⟩=>pan v HB n hvB (by rw[hx,eB];rfl)
     subst hvB
     rw[eB,zj] at hx
     have EB:=EA2.call aB
     have gB:=(aB.other n2s).trans gA2
     have bB:=EB.box
     simp only[rq] at bB
     simp(disch:=first|omega|assumption) only[gB,bB,nq2,Ne.symm nq2,YK,ZH,yI,go_sem]
     have EC:=EB.cell gB n2 nq2 (.cells (cE x))
     refine goP_ownS (by rw[hcl];exact EC.own) (by simp only[hcl,Al2,Al3];omega) (by simp only[hcl,Al2,Al3,maxLen];omega) fun oD HD hsD=>?_
     have bD:=zL EC.own EC.box hsD.kept
     simp only[rq] at bD
     simp(disch:=first|omega|assumption) only[bD,go_sem]
     exact hQ _ _ _ _ [] nofun rfl (Low.refl _) ⟨rfl,_,_,oD,hx,EC.put x (by simpa[hcl] using hsD) (by simp) (by simp[cEs,y7])⟩
    | false =>
     rw[hw2] at EA2
     simp only[Al7,if_false] at EA2
     have bC3:=EA2.box
     simp only[rq] at bC3
     simp(disch:=first|omega|assumption) only[bC3,go_sem]
     refine goK_ret (Z9 EA2.rd hl [101,110,117,109]) fun v HA3 ⟨hvA,aA⟩=>?_
     subst hvA
     have EA3:=EA2.call aA
     have gA3:=(aA.other n2s).trans gA2
     unfold zN at EA3
     cases hw3:isW [101,110,117,109] (zA t) with
     | true =>
      rw[hw3,if_pos rfl] at EA3
      have hx:zC d t=pb (zak (zA t).tail) fun x t=>.ok (Zw d x,t):=by unfold zC Yo;rw[if_neg h0,if_neg (by rw[hw0];decide),if_neg (by rw[hw1];decide),if_neg (by rw[hw2];decide),if_pos hw3]
      have bA:=EA3.box
      have qA:=EA3.box
      simp only[rq] at bA qA
      simp(disch:=first|omega|assumption) only[bA,go_sem]
      refine goK_both (zlj qA EA3.ne EA3.rd hl) (fun v HB ⟨x,tB,eB,hvB,aB⟩=>?_) fun v HB ⟨n,eB,hvB⟩=>pan v HB n hvB (by rw[hx,eB];rfl)
      subst hvB
      rw[eB,zj] at hx
      have EB:=EA3.call aB
      have gB:=(aB.other n2s).trans gA3
      have bB:=EB.box
      simp only[rq] at bB
      simp(disch:=first|omega|assumption) only[gB,bB,nq2,Ne.symm nq2,YK,ZH,yI,go_sem]
      have EC:=EB.cell gB n2 nq2 (.cells (cE x))
      refine goP_ownS (by rw[hcl];exact EC.own) (by simp only[hcl,Al2,Al3];omega) (by simp only[hcl,Al2,Al3,maxLen];omega) fun oD HD hsD=>?_
      have bD:=zL EC.own EC.box hsD.kept
      simp only[rq] at bD
      simp(disch:=first|omega|assumption) only[bD,go_sem]
      exact hQ _ _ _ _ [] nofun rfl (Low.refl _) ⟨rfl,_,_,oD,hx,EC.put x (by simpa[hcl] using hsD) (by simp) (by simp[cEs,y7])⟩
     | false =>
      rw[hw3] at EA3
      simp only[Al7,if_false] at EA3
      have bC4:=EA3.box
      simp only[rq] at bC4
      simp(disch:=first|omega|assumption) only[bC4,go_sem]
      refine goK_ret (Z9 EA3.rd hl [105,110,112,117,116]) fun v HA4 ⟨hvA,aA⟩=>?_
      subst hvA
      have EA4:=EA3.call aA
      have gA4:=(aA.other n2s).trans gA3
      unfold zN at EA4
      cases hw4:isW [105,110,112,117,116] (zA t) with
      | true =>
       rw[hw4,if_pos rfl] at EA4
       have hx:zC d t=pb (ZP (zA t).tail) fun x t=>.ok (Zw d x,t):=by unfold zC Yo;rw[if_neg h0,if_neg (by rw[hw0];decide),if_neg (by rw[hw1];decide),if_neg (by rw[hw2];decide),if_neg (by rw[hw3];decide),if_pos hw4]
       have bA:=EA4.box
       have qA:=EA4.box
       simp only[rq] at bA qA
       simp(disch:=first|omega|assumption) only[bA,go_sem]
       refine goK_both (zjA qA EA4.ne EA4.rd hl) (fun v HB ⟨x,tB,eB,hvB,aB⟩=>?_) fun v HB ⟨n,eB,hvB⟩=>pan v HB n hvB (by rw[hx,eB];rfl)
       subst hvB
       rw[eB,zj] at hx
       have EB:=EA4.call aB
       have gB:=(aB.other n2s).trans gA4
       have bB:=EB.box
       simp only[rq] at bB
       simp(disch:=first|omega|assumption) only[gB,bB,nq2,Ne.symm nq2,YK,ZH,yI,go_sem]
       have EC:=EB.cell gB n2 nq2 (.cells (cE x))
       refine goP_ownS (by rw[hcl];exact EC.own) (by simp only[hcl,Al2,Al3];omega) (by simp only[hcl,Al2,Al3,maxLen];omega) fun oD HD hsD=>?_
       have bD:=zL EC.own EC.box hsD.kept
       simp only[rq] at bD
       simp(disch:=first|omega|assumption) only[bD,go_sem]
       exact hQ _ _ _ _ [] nofun rfl (Low.refl _) ⟨rfl,_,_,oD,hx,EC.put x (by simpa[hcl] using hsD) (by simp) (by simp[cEs,y7])⟩
      | false =>
       rw[hw4] at EA4
       simp only[Al7,if_false] at EA4
       have bF:=EA4.box
       simp only[rq] at bF
       simp(disch:=first|omega|assumption) only[bF,go_sem]
       exact goK_both (zax _ r 2) (fun _ _ h=>h.elim) fun v H3 h=>pan v H3 2 h (by unfold zC Yo;rw[if_neg h0,if_neg (by rw[hw0];decide),if_neg (by rw[hw1];decide),if_neg (by rw[hw2];decide),if_neg (by rw[hw3];decide),if_neg (by rw[hw4];decide)])
 ·rw[ht] at b2'
  simp(disch:=first|omega|assumption) only[b2',go_sem]
  refine goK_ret (Z9 E2.rd hl [115,99,104,101,109,97]) fun v H3 ⟨hv3,a3⟩=>?_
  subst hv3
  have E2:=E2.call a3
  have g2:=(a3.other n2s).trans g2
  unfold zN at E2
  rw[hw] at E2
  simp only[Al7,if_false] at E2
  rw[hw]
  simp(disch:=first|omega|assumption) only[go_sem]
  have bC0:=E2.box
  simp only[rq] at bC0
  try simp(disch:=first|omega|assumption) only[bC0,go_sem]
  refine goK_ret (Z9 E2.rd hl [116,121,112,101]) fun v HA0 ⟨hvA,aA⟩=>?_
  subst hvA
  have EA0:=E2.call aA
  have gA0:=(aA.other n2s).trans g2
  unfold zN at EA0
  cases hw0:isW [116,121,112,101] (zA t) with
  | true =>
   rw[hw0,if_pos rfl] at EA0
   have hx:zC d t=pb (za8 1 (zA t).tail) fun x t=>.ok (Zw d x,t):=by unfold zC Yo;rw[if_neg h0,if_pos hw0]
   have bA:=EA0.box
   have qA:=EA0.box
   simp only[rq] at bA qA
   simp(disch:=first|omega|assumption) only[bA,go_sem]
   refine goK_both (zcT 1 qA EA0.ne EA0.rd hl) (fun v HB ⟨x,tB,eB,hvB,aB⟩=>?_) fun v HB ⟨n,eB,hvB⟩=>pan v HB n hvB (by rw[hx,eB];rfl)
   subst hvB
   rw[eB,zj] at hx
   have EB:=EA0.call aB
   have gB:=(aB.other n2s).trans gA0
   have bB:=EB.box
   simp only[rq] at bB
   simp(disch:=first|omega|assumption) only[gB,bB,nq2,Ne.symm nq2,YK,ZH,yI,go_sem]
   have EC:=EB.cell gB n2 nq2 (.cells (cE x))
   refine goP_ownS (by rw[hcl];exact EC.own) (by simp only[hcl,Al2,Al3];omega) (by simp only[hcl,Al2,Al3,maxLen];omega) fun oD HD hsD=>?_
   have bD:=zL EC.own EC.box hsD.kept
   simp only[rq] at bD
   simp(disch:=first|omega|assumption) only[bD,go_sem]
   exact hQ _ _ _ _ [] nofun rfl (Low.refl _) ⟨rfl,_,_,oD,hx,EC.put x (by simpa[hcl] using hsD) (by simp) (by simp[cEs,y7])⟩
  | false =>
   rw[hw0] at EA0
   simp only[Al7,if_false] at EA0
   have bC1:=EA0.box
   simp only[rq] at bC1
   simp(disch:=first|omega|assumption) only[bC1,go_sem]
   refine goK_ret (Z9 EA0.rd hl [105,110,116,101,114,102,97,99,101]) fun v HA1 ⟨hvA,aA⟩=>?_
   subst hvA
   have EA1:=EA0.call aA
   have gA1:=(aA.other n2s).trans gA0
   unfold zN at EA1
   cases hw1:isW [105,110,116,101,114,102,97,99,101] (zA t) with
   | true =>
    rw[hw1,if_pos rfl] at EA1
    have hx:zC d t=pb (za8 2 (zA t).tail) fun x t=>.ok (Zw d x,t):=by unfold zC Yo;rw[if_neg h0,if_neg (by rw[hw0];decide),if_pos hw1]
    have bA:=EA1.box
    have qA:=EA1.box
    simp only[rq] at bA qA
    simp(disch:=first|omega|assumption) only[bA,go_sem]
    refine goK_both (zcT 2 qA EA1.ne EA1.rd hl) (fun v HB ⟨x,tB,eB,hvB,aB⟩=>?_) fun v HB ⟨n,eB,hvB⟩=>pan v HB n hvB (by rw[hx,eB];rfl)
    subst hvB
    rw[eB,zj] at hx
    have EB:=EA1.call aB
    have gB:=(aB.other n2s).trans gA1
    have bB:=EB.box
    simp only[rq] at bB
    simp(disch:=first|omega|assumption) only[gB,bB,nq2,Ne.symm nq2,YK,ZH,yI,go_sem]
    have EC:=EB.cell gB n2 nq2 (.cells (cE x))
    refine goP_ownS (by rw[hcl];exact EC.own) (by simp only[hcl,Al2,Al3];omega) (by simp only[hcl,Al2,Al3,maxLen];omega) fun oD HD hsD=>?_
    have bD:=zL EC.own EC.box hsD.kept
    simp only[rq] at bD
    simp(disch:=first|omega|assumption) only[bD,go_sem]
    exact hQ _ _ _ _ [] nofun rfl (Low.refl _) ⟨rfl,_,_,oD,hx,EC.put x (by simpa[hcl] using hsD) (by simp) (by simp[cEs,y7])⟩
   | false =>
    rw[hw1] at EA1
    simp only[Al7,if_false] at EA1
    have bC2:=EA1.box
    simp only[rq] at bC2
    simp(disch:=first|omega|assumption) only[bC2,go_sem]
    refine goK_ret (Z9 EA1.rd hl [117,110,105,111,110]) fun v HA2 ⟨hvA,aA⟩=>?_
    subst hvA
    have EA2:=EA1.call aA
    have gA2:=(aA.other n2s).trans gA1
    unfold zN at EA2
    cases hw2:isW [117,110,105,111,110] (zA t) with
    | true =>
     rw[hw2,if_pos rfl] at EA2
     have hx:zC d t=pb (ZT (zA t).tail) fun x t=>.ok (Zw d x,t):=by unfold zC Yo;rw[if_neg h0,if_neg (by rw[hw0];decide),if_neg (by rw[hw1];decide),if_pos hw2]
     have bA:=EA2.box
     have qA:=EA2.box
     simp only[rq] at bA qA
     simp(disch:=first|omega|assumption) only[bA,go_sem]
     refine goK_both (zjd qA EA2.ne EA2.rd hl) (fun v HB ⟨x,tB,eB,hvB,aB⟩=>?_) fun v HB ⟨n,eB,hvB⟩=>pan v HB n hvB (by rw[hx,eB];rfl)
     subst hvB
     rw[eB,zj] at hx
     have EB:=EA2.call aB
     have gB:=(aB.other n2s).trans gA2
     have bB:=EB.box
     simp only[rq] at bB
     simp(disch:=first|omega|assumption) only[gB,bB,nq2,Ne.symm nq2,YK,ZH,yI,go_sem]
     have EC:=EB.cell gB n2 nq2 (.cells (cE x))
     refine goP_ownS (by rw[hcl];exact EC.own) (by simp only[hcl,Al2,Al3];omega) (by simp only[hcl,Al2,Al3,maxLen];omega) fun oD HD hsD=>?_
     have bD:=zL EC.own EC.box hsD.kept
     simp only[rq] at bD
     simp(disch:=first|omega|assumption) only[bD,go_sem]
     exact hQ _ _ _ _ [] nofun rfl (Low.refl _) ⟨rfl,_,_,oD,hx,EC.put x (by simpa[hcl] using hsD) (by simp) (by simp[cEs,y7])⟩
    | false =>
     rw[hw2] at EA2
     simp only[Al7,if_false] at EA2
     have bC3:=EA2.box
     simp only[rq] at bC3
     simp(disch:=first|omega|assumption) only[bC3,go_sem]
     refine goK_ret (Z9 EA2.rd hl [101,110,117,109]) fun v HA3 ⟨hvA,aA⟩=>?_
     subst hvA
     have EA3:=EA2.call aA
     have gA3:=(aA.other n2s).trans gA2
     unfold zN at EA3
     cases hw3:isW [101,110,117,109] (zA t) with
     | true =>
      rw[hw3,if_pos rfl] at EA3
      have hx:zC d t=pb (zak (zA t).tail) fun x t=>.ok (Zw d x,t):=by unfold zC Yo;rw[if_neg h0,if_neg (by rw[hw0];decide),if_neg (by rw[hw1];decide),if_neg (by rw[hw2];decide),if_pos hw3]
      have bA:=EA3.box
      have qA:=EA3.box
      simp only[rq] at bA qA
      simp(disch:=first|omega|assumption) only[bA,go_sem]
      refine goK_both (zlj qA EA3.ne EA3.rd hl) (fun v HB ⟨x,tB,eB,hvB,aB⟩=>?_) fun v HB ⟨n,eB,hvB⟩=>pan v HB n hvB (by rw[hx,eB];rfl)
      subst hvB
      rw[eB,zj] at hx
      have EB:=EA3.call aB
      have gB:=(aB.other n2s).trans gA3
      have bB:=EB.box
      simp only[rq] at bB
      simp(disch:=first|omega|assumption) only[gB,bB,nq2,Ne.symm nq2,YK,ZH,yI,go_sem]
      have EC:=EB.cell gB n2 nq2 (.cells (cE x))
      refine goP_ownS (by rw[hcl];exact EC.own) (by simp only[hcl,Al2,Al3];omega) (by simp only[hcl,Al2,Al3,maxLen];omega) fun oD HD hsD=>?_
      have bD:=zL EC.own EC.box hsD.kept
      simp only[rq] at bD
      simp(disch:=first|omega|assumption) only[bD,go_sem]
      exact hQ _ _ _ _ [] nofun rfl (Low.refl _) ⟨rfl,_,_,oD,hx,EC.put x (by simpa[hcl] using hsD) (by simp) (by simp[cEs,y7])⟩
     | false =>
      rw[hw3] at EA3
      simp only[Al7,if_false] at EA3
      have bC4:=EA3.box
      simp only[rq] at bC4
      simp(disch:=first|omega|assumption) only[bC4,go_sem]
      refine goK_ret (Z9 EA3.rd hl [105,110,112,117,116]) fun v HA4 ⟨hvA,aA⟩=>?_
      subst hvA
      have EA4:=EA3.call aA
      have gA4:=(aA.other n2s).trans gA3
      unfold zN at EA4
      cases hw4:isW [105,110,112,117,116] (zA t) with
      | true =>
       rw[hw4,if_pos rfl] at EA4
       have hx:zC d t=pb (ZP (zA t).tail) fun x t=>.ok (Zw d x,t):=by unfold zC Yo;rw[if_neg h0,if_neg (by rw[hw0];decide),if_neg (by rw[hw1];decide),if_neg (by rw[hw2];decide),if_neg (by rw[hw3];decide),if_pos hw4]
       have bA:=EA4.box
       have qA:=EA4.box
       simp only[rq] at bA qA
       simp(disch:=first|omega|assumption) only[bA,go_sem]
       refine goK_both (zjA qA EA4.ne EA4.rd hl) (fun v HB ⟨x,tB,eB,hvB,aB⟩=>?_) fun v HB ⟨n,eB,hvB⟩=>pan v HB n hvB (by rw[hx,eB];rfl)
       subst hvB
       rw[eB,zj] at hx
       have EB:=EA4.call aB
       have gB:=(aB.other n2s).trans gA4
       have bB:=EB.box
       simp only[rq] at bB
       simp(disch:=first|omega|assumption) only[gB,bB,nq2,Ne.symm nq2,YK,ZH,yI,go_sem]
       have EC:=EB.cell gB n2 nq2 (.cells (cE x))
       refine goP_ownS (by rw[hcl];exact EC.own) (by simp only[hcl,Al2,Al3];omega) (by simp only[hcl,Al2,Al3,maxLen];omega) fun oD HD hsD=>?_
       have bD:=zL EC.own EC.box hsD.kept
       simp only[rq] at bD
       simp(disch:=first|omega|assumption) only[bD,go_sem]
       exact hQ _ _ _ _ [] nofun rfl (Low.refl _) ⟨rfl,_,_,oD,hx,EC.put x (by simpa[hcl] using hsD) (by simp) (by simp[cEs,y7])⟩
      | false =>
       rw[hw4] at EA4
       simp only[Al7,if_false] at EA4
       have bF:=EA4.box
       simp only[rq] at bF
       simp(disch:=first|omega|assumption) only[bF,go_sem]
       exact goK_both (zax _ r 2) (fun _ _ h=>h.elim) fun v H3 h=>pan v H3 2 h (by unfold zC Yo;rw[if_neg h0,if_neg (by rw[hw0];decide),if_neg (by rw[hw1];decide),if_neg (by rw[hw2];decide),if_neg (by rw[hw3];decide),if_neg (by rw[hw4];decide)])
def zcA (s:List UInt8):SchD×Int:=match Zs s with
 | .error n=>(⟨[],[],[]⟩,n)
 | .ok L=>match zfe L with
  | .error n=>(⟨[],[],[]⟩,n)
  | .ok (d,_)=>(zgu d,0)
abbrev zcD:List AV:=[.sl .nil 6 [],.str [],.str []]
def zke (s:List UInt8) (b:Nat) (n:Int) (H:Heap):Prop:=(n≠0∧zcA s=(⟨[],[],[]⟩,n))∨(n=0∧∃ d o,zcA s=(d,0)∧H b=some (.cells [.sl o 6 (cEs d.defs),.str d.q,.str d.m]))
def zbS (l:List DefD):List UInt8:=if l.any fun x=>decide (x.nm=[77,117,116,97,116,105,111,110]) then [77,117,116,97,116,105,111,110] else []
theorem zea (l:List DefD) (x:DefD):zbS (l++[x])=if x.nm=[77,117,116,97,116,105,111,110] then [77,117,116,97,116,105,111,110] else zbS l:=by
 unfold zbS
 rw[List.any_append]
 by_cases h:x.nm=[77,117,116,97,116,105,111,110]
 ·simp[h]
 ·simp[h]
set_option maxHeartbeats 1000000 in
theorem zkD {s:List UInt8} {L:List Tok} (hR:Zs s=.ok L) {Hc:Heap} {b6 r:Nat} (h6:Hc b6=some (.cells zcD)) (hr:Hc r=none) :
  ACalls Tryz.prog 41 [.ptr r 0,.ptr b6 0] (Hc.upd r (prc L [] 0)) (fun e H'=>match e with
   | .ret _=>∃ p t dp,p++t=L∧H' r=some (prc L p dp)∧zke s b6 (if t=[] then 0 else 2) H'
   | .pan v=>∃ n,v=ye n∧∀ H,zke s b6 n H):=by
 refine ACalls.goO (R:=fun _ H'=>∃ p t dp,p++t=L∧H' r=some (prc L p dp)∧zke s b6 (if t=[] then 0 else 2) H') (RP:=fun v _=>∃ n,v=ye n∧∀ H,zke s b6 n H) ir41 ck41 (Al4 _) fun KP Q hQ hP=>?_
 have n6:b6≠r:=fun e=>by subst e;rw[hr] at h6;cases h6
 have hw:=zk4 hR
 have hll:=zbc hw
 simp only[zG] at hll
 have pan:∀(v:AV) (H1:Heap) (n:Int),v=ye n→zfe L=.error n→KP v H1:=fun v H1 n h1 h2=>hP v H1 H1 (Low.refl _) ⟨n,h1,fun H=>.inl ⟨zkN _ _ h2,by unfold zcA;rw[hR];simp only[h2]⟩⟩
 simp(disch:=first|omega|assumption) only[ir41,go_sem]
 refine goA_intro fun q hq=>?_
 have nqr:q≠r:=fun e=>by subst e;rw[upd_same] at hq;cases hq
 have nq6:q≠b6:=fun e=>by subst e;rw[upd_ne n6,h6] at hq;cases hq
 have E0:EI L r q ((Hc.upd r (prc L [] 0)).upd q (.cells (rq r sr0 .nil))) L sr0 .nil:=⟨⟨[],rfl,by rw[upd_ne (Ne.symm nqr),upd_same]⟩,upd_same ..,rfl,nqr⟩
 have g6:((Hc.upd r (prc L [] 0)).upd q (.cells (rq r sr0 .nil))) b6=some (.cells zcD):=by rw[upd_ne (Ne.symm nq6),upd_ne n6,h6]
 simp(disch:=first|omega|assumption) only[go_sem]
 refine goK_calls (zbI g6 (zcx (E0.del g6 (Ne.symm n6) nq6) hw (fun _=>⟨rfl,rfl⟩) (Nat.zero_le _))) fun e H1 ⟨A1,hq1,hA1,hH1⟩=>?_
 cases e with
 | pan v =>
  obtain⟨n,hv,he⟩:=hq1
  exact pan v H1 n hv (by unfold zfe;rw[he];rfl)
 | ret v =>
  obtain⟨hv,d1,t1,o1,e1,E1⟩:=hq1
  subst hv
  have E1:EI L r q H1 t1 d1 o1:=by rw[hH1];exact E1.un
  have g61:H1 b6=some (.cells zcD):=by rw[hH1];simp[Heap.union,hA1,Heap.one]
  have hlt1:=zcV e1
  obtain⟨hl1,hi1⟩:=zd7 e1
  obtain⟨R,hRR⟩:∃ R,YO (t1.length+1) d1 t1=R:=⟨_,rfl⟩
  have hx:zfe L=R:=by unfold zfe;rw[e1];exact hRR
  show goR _ _ _ _ _ _ _ _ _
  simp(disch:=first|omega|assumption) only[go_sem]
  refine goL_st (fun x:SR×TS×Own=>[]) (fun x H'=>EI L r q H' x.2.1 x.1 x.2.2∧H' b6=some (.cells zcD)∧(∃ m,x.2.1.length<m∧YO m x.1 x.2.1=R)∧SI x.1∧x.1.defs.length+x.2.1.length≤L.length) (fun x=>x.2.1.length) (d1,t1,o1) (by simp(disch:=first|omega|assumption) only[go_sem]) ⟨E1,g61,⟨_,Nat.lt_succ_self _,hRR⟩,hi1 fun _=>⟨rfl,rfl⟩,by have:sr0.defs.length=0:=rfl;simp only;omega⟩ ?_
  rintro⟨d,t,o⟩ H2 J ⟨E2,g62,⟨m,hm,hR2⟩,hsi,hlen⟩ hJ
  simp only at E2 g62 hm hR2 hsi hlen
  obtain⟨m,rfl⟩:∃ j,m=j+1:=⟨m-1,by omega⟩
  obtain⟨p,hp,hr2⟩:=E2.rd
  have b2:=E2.box
  simp only[rq] at b2
  rw[YO] at hR2
  simp(disch:=first|omega|assumption) only[b2,go_sem]
  refine goK_ret (zja hp hr2) fun v3 H3 ⟨hv3,hH3⟩=>?_
  subst hv3;subst hH3
  by_cases ht:t=[]
  ·rw[if_pos ht] at hR2
   have hd:decide (t≠[])=false:=by simp[ht]
   have es:zcA s=(zgu d,0):=by unfold zcA;rw[hR];simp only[hx,← hR2]
   have hif:(if t=[] then (0:Int) else 2)=0:=if_pos ht
   have hcl:=zaU d.defs
   rw[hd]
   simp only[zcD] at g62
   cases htd:d.told with
   | true =>
    rw[htd] at b2
    simp(disch:=first|omega|assumption) only[b2,g62,nq6,Ne.symm nq6,go_sem]
    refine hQ _ _ _ _ [] nofun rfl (Low.refl _) ⟨p,t,16-16,hp,by rw[upd_ne (Ne.symm n6)];exact hr2,?_⟩
    rw[hif]
    exact .inr ⟨rfl,zgu d,o,es,by rw[upd_same];simp[zgu,htd]⟩
   | false =>
    obtain⟨hq0,hm0⟩:=hsi htd
    have ef:zgu d=⟨d.defs,[81,117,101,114,121],zbS d.defs⟩:=by simp[zgu,htd,zbS]
    rw[ef] at es
    rw[htd,hq0,hm0] at b2
    simp(disch:=first|omega|assumption) only[b2,g62,nq6,Ne.symm nq6,go_sem]
    refine goL_range d.defs 30 (fun x:Unit=>[]) (fun done rest x H'=>H' b6=some (.cells [.sl o 6 (cEs d.defs),.str [81,117,101,114,121],.str (zbS done)])∧H' r=some (prc L p (16-16))) () (by simp(disch:=first|omega|assumption) only[go_sem]) ⟨by rw[upd_same];rfl,by rw[upd_ne (Ne.symm n6)];exact hr2⟩ ?_ ?_
    ·rintro _ H4 J4 ⟨g64,hr4⟩ hlt4
     simp(disch:=first|omega|assumption) only[hcl,hlt4,go_sem]
     refine hQ _ _ _ _ [] nofun rfl (Low.refl _) ⟨p,t,16-16,hp,hr4,?_⟩
     rw[hif]
     exact .inr ⟨rfl,_,o,es,g64⟩
    ·rintro done x rest _ H4 J4 hdd hlt4 hlt4' ⟨g64,hr4⟩ hJ4
     have hg:=za0 hdd
     have hms:=zea done x
     obtain⟨k,nm,faces,flds,parts,ps⟩:=x
     rw[zbF] at hg
     simp only at hms
     simp(disch:=first|omega|assumption) only[hcl,hlt4,hg,go_sem]
     refine goA_intro fun b5 hb5=>?_
     have h56:b5≠b6:=fun e=>by subst e;rw[g64] at hb5;cases hb5
     have h5r:b5≠r:=fun e=>by subst e;rw[hr4] at hb5;cases hb5
     by_cases hnm:nm=[77,117,116,97,116,105,111,110]
     ·rw[if_pos hnm] at hms
      have hnm':=eq_true hnm
      simp(disch:=first|omega|assumption) only[hg,hnm',g64,h56,Ne.symm h56,wrap64,go_sem]
      refine goJ (hJ4 () _ ⟨by rw[upd_same,hms],by rw[upd_ne (Ne.symm n6),upd_ne (Ne.symm h5r)];exact hr4⟩) (by simp(disch:=first|omega|assumption) only[hcl,go_sem])
     ·rw[if_neg hnm] at hms
      simp(disch:=first|omega|assumption) only[hg,hnm,g64,h56,Ne.symm h56,wrap64,go_sem]
      refine goJ (hJ4 () _ ⟨by rw[upd_ne (Ne.symm h56),hms];exact g64,by rw[upd_ne (Ne.symm h5r)];exact hr4⟩) (by simp(disch:=first|omega|assumption) only[hcl,go_sem])
  ·rw[if_neg ht] at hR2
   have hd:decide (t≠[])=true:=by simp[ht]
   rw[hd]
   simp(disch:=first|omega|assumption) only[go_sem]
   refine goK_calls (zbI g62 (zcx (E2.del g62 (Ne.symm n6) nq6) hw hsi (by omega))) fun e H4 ⟨A4,hq4,hA4,hH4⟩=>?_
   cases e with
   | pan v =>
    obtain⟨n,hv,he⟩:=hq4
    exact pan v H4 n hv (by rw[hx,← hR2,he];rfl)
   | ret v =>
    obtain⟨hv,d4,t4,o4,e4,E4⟩:=hq4
    subst hv
    have E4:EI L r q H4 t4 d4 o4:=by rw[hH4];exact E4.un
    have g64:H4 b6=some (.cells zcD):=by rw[hH4];simp[Heap.union,hA4,Heap.one]
    have hlt4:=zcV e4
    obtain⟨hl4,hi4⟩:=zd7 e4
    rw[e4,zj] at hR2
    show goR _ _ _ _ _ _ _ _ _
    simp(disch:=first|omega|assumption) only[go_sem]
    exact goJ (hJ (d4,t4,o4) _ (by simp only;omega) ⟨E4,g64,⟨m,by simp only;omega,hR2⟩,hi4 hsi,by simp only;omega⟩) (by simp(disch:=first|omega|assumption) only[go_sem])
theorem zdg (s:List UInt8) (hl:s.length≤YQ):Pure Tryz.prog 17 [.str s] (.tup [.agg (YN (zcA s).1),.int .i64 (zcA s).2]):=by
 refine Pure.go ir17 ck17 (Al4 _) fun KP Q hQ=>?_
 simp(disch:=first|omega|assumption) only[ir17,go_sem]
 refine goA_intro fun b4 hb4=>?_
 simp(disch:=first|omega|assumption) only[go_sem]
 refine goA_intro fun b6 hb6=>?_
 have h64:b6≠b4:=fun e=>by subst e;rw[upd_same] at hb6;cases hb6
 have h6c:(Heap.one b6 (.cells zcD)) b6=some (.cells zcD):=by simp[Heap.one]
 have hc:=ACalls.frame (zkT (x:=.cells zcD) h64) (zmO (s:=s) (Hc:=Heap.one b6 (.cells zcD)) (clo:=41) (caps:=[.ptr b6 0]) hl (by decide +kernel) (zke s b6)
  (fun n h=>.inl ⟨zeA h,by unfold zcA;rw[h]⟩) (fun L hR r hr=>zkD hR h6c hr))
 rw[← zl1 h64] at hc
 simp(disch:=first|omega|assumption) only[go_sem]
 refine goK_calls hc fun e H' ⟨A',hq,hd',hH'⟩=>?_
 subst hH'
 cases e with
 | pan v=>exact hq.elim
 | ret v =>
  obtain⟨n,hv,ho⟩:=hq
  subst hv
  have g4:=zmx hd'
  simp only[zcD] at g4
  show goR _ _ _ _ _ _ _ _ _
  rcases ho with ⟨hn,he⟩|⟨hn,x,o1,he,h6⟩
  ·rw[he] at hQ
   simp(disch:=first|omega|assumption) only[hn,g4,go_sem]
   exact hQ _ _ _ [.agg [.sl .nil 6 [],.str [],.str []],.int .i64 n] nofun (by simp(disch:=first|omega|assumption) only[ir17,resvs,resv,go_sem]) (by simp[tupOf,AV.strip,AV.strip1,YN,cEs])
  ·subst hn
   rw[he] at hQ
   have g6:=znb (B:=Heap.one b4 (.cells zcD)) h6
   simp(disch:=first|omega|assumption) only[g4,g6,go_sem]
   exact hQ _ _ _ [.agg [.sl o1 6 (cEs x.defs),.str x.q,.str x.m],.int .i64 0] nofun (by simp(disch:=first|omega|assumption) only[ir17,resvs,resv,go_sem]) (by simp[tupOf,AV.strip,AV.strip1,YN])
theorem zjJ (l:List (List UInt8)) (hl:l.length≤Lim):Pure Tryz.prog 51 [.sl .no 1 (cT l),.sl .no 1 (cT l)] (.bool true):=by
 refine Pure.go ir51 ck51 (Al4 _) fun KP Q hQ=>?_
 have hcl:=yg l
 simp only[Lim] at hl
 simp(disch:=first|omega|assumption) only[ir51,hcl,go_sem]
 refine goL_range l 5 (fun x:Unit=>[]) (fun done rest x H=>True) () (by simp(disch:=first|omega|assumption) only[go_sem]) trivial ?_ ?_
 ·rintro _ H J _ hlt
  simp(disch:=first|omega|assumption) only[hcl,hlt,go_sem]
  exact hQ _ _ _ _ nofun rfl (by simp[tupOf,envOf,AV.strip,AV.strip1])
 ·rintro done x rest _ H J hd hlt hlt' _ hJ
  have hg:(cT l).getD done.length []=[.str x]:=by rw[hd];simp[cT]
  simp(disch:=first|omega|assumption) only[hcl,hlt,hg,wrap64,go_sem]
  exact goJ (hJ () H trivial) (by simp(disch:=first|omega|assumption) only[go_sem])
theorem zhS (l:List VarD) (hl:bWs l≤Lim):Pure Tryz.prog 52 [.sl .no 10 (cWs l),.sl .no 10 (cWs l)] (.bool true):=by
 refine Pure.go ir52 ck52 (Al4 _) fun KP Q hQ=>?_
 have hcl:=Yx l
 have hml:=zaa l
 have hl':=hl
 simp only[Lim] at hl'
 simp(disch:=first|omega|assumption) only[ir52,hcl,go_sem]
 refine goL_range l 5 (fun x:Unit=>[]) (fun done rest x H=>True) () (by simp(disch:=first|omega|assumption) only[go_sem]) trivial ?_ ?_
 ·rintro _ H J _ hlt
  simp(disch:=first|omega|assumption) only[hcl,hlt,go_sem]
  exact hQ _ _ _ _ nofun rfl (by simp[tupOf,envOf,AV.strip,AV.strip1])
 ·rintro done x rest _ H J hd hlt hlt' _ hJ
  have hg:=zfs hd
  have hbm:=ze4 done x rest
  rw[← hd] at hbm
  obtain⟨nm,⟨tn,tl,tm⟩,h,v⟩:=x
  simp only[bW] at hbm
  rw[zeG] at hg
  have hs:=zlo v (by simp only[Lim];omega) v
  rw[zQ rfl] at hs
  simp(disch:=first|omega|assumption) only[zf,zc,za,ze,zd,zb,zh,hcl,hlt,hg,fitsAll,K1.fits,keqs,AV.keq1,Bool.and_true,go_sem]
  refine goK_pure hs ?_
  simp(disch:=first|omega|assumption) only[zf,zc,za,ze,zd,zb,zh,hcl,hlt,hg,wrap64,go_sem]
  exact goJ (hJ () H trivial) (by simp(disch:=first|omega|assumption) only[go_sem])
theorem zlG (x:FldD) (hl:bL x≤Lim):Pure Tryz.prog 53 [.agg (cL x),.agg (cL x)] (.bool true):=by
 refine Pure.go ir53 ck53 (Al4 _) fun KP Q hQ=>?_
 obtain⟨nm,ps,⟨tn,tl,tm⟩,dirs⟩:=x
 simp only[bL] at hl
 have h1:=ziJ dirs dirs (by omega)
 rw[zQ rfl] at h1
 simp(disch:=first|omega|assumption) only[ir53,zjX,fitsAll,K1.fits,keqs,AV.keq1,Bool.and_true,go_sem]
 refine goK_pure (zhS ps (by omega)) ?_
 simp(disch:=first|omega|assumption) only[go_sem]
 refine goK_pure h1 ?_
 simp(disch:=first|omega|assumption) only[go_sem]
 exact hQ _ _ _ _ nofun rfl (by simp[tupOf,envOf,AV.strip,AV.strip1])
theorem znf (x:DefD) (hl:bE x≤Lim):Pure Tryz.prog 21 [.agg (cE x),.agg (cE x)] (.bool true):=by
 refine Pure.go ir21 ck21 (Al4 _) fun KP Q hQ=>?_
 obtain⟨k,nm,faces,flds,parts,ps⟩:=x
 simp only[bE] at hl
 have hcl:=YE flds
 have hlf:=zaV flds
 have htf:=YP faces
 have htp:=YP parts
 have hl':=hl
 simp only[Lim] at hl'
 simp(disch:=first|omega|assumption) only[ir21,zbF,go_sem]
 refine goK_pure (zjJ faces (by omega)) ?_
 simp(disch:=first|omega|assumption) only[go_sem]
 refine goK_pure (zjJ parts (by omega)) ?_
 simp(disch:=first|omega|assumption) only[go_sem]
 refine goK_pure (zhS ps (by omega)) ?_
 simp(disch:=first|omega|assumption) only[hcl,go_sem]
 refine goL_range flds 5 (fun x:Unit=>[]) (fun done rest x H=>True) () (by simp(disch:=first|omega|assumption) only[go_sem]) trivial ?_ ?_
 ·rintro _ H J _ hlt
  simp(disch:=first|omega|assumption) only[hcl,hlt,go_sem]
  exact hQ _ _ _ _ nofun rfl (by simp[tupOf,envOf,AV.strip,AV.strip1])
 ·rintro done x rest _ H J hd hlt hlt' _ hJ
  have hg:=zft hd
  have hbm:=zfo done x rest
  rw[← hd] at hbm
  have hf:=zlG x (by omega)
  have h6:(cL x).length=6:=rfl
  have t6:(cL x).take 6=cL x:=rfl
  simp(disch:=first|omega|assumption) only[hcl,hlt,hg,h6,t6,go_sem]
  refine goK_pure hf ?_
  simp(disch:=first|omega|assumption) only[wrap64,go_sem]
  exact goJ (hJ () H trivial) (by simp(disch:=first|omega|assumption) only[go_sem])
theorem zne (s:SchD) (hl:Yp s≤Lim):Pure Tryz.prog 19 [.agg (YN s),.agg (YN s)] (.bool true):=by
 refine Pure.go ir19 ck19 (Al4 _) fun KP Q hQ=>?_
 obtain⟨defs,q,m⟩:=s
 simp only[Yp] at hl
 have ed:YN ⟨defs,q,m⟩=[.sl .no 6 (cEs defs),.str q,.str m]:=rfl
 have hcl:=zaU defs
 have hlf:=zcL defs
 have hl':=hl
 simp only[Lim] at hl'
 rw[ed]
 simp(disch:=first|omega|assumption) only[ir19,hcl,go_sem]
 refine goL_range defs 5 (fun x:Unit=>[]) (fun done rest x H=>True) () (by simp(disch:=first|omega|assumption) only[go_sem]) trivial ?_ ?_
 ·rintro _ H J _ hlt
  simp(disch:=first|omega|assumption) only[hcl,hlt,go_sem]
  exact hQ _ _ _ _ nofun rfl (by simp[tupOf,envOf,AV.strip,AV.strip1])
 ·rintro done x rest _ H J hd hlt hlt' _ hJ
  have hg:=za0 hd
  have hbm:=zcS done x rest
  rw[← hd] at hbm
  have hf:=znf x (by omega)
  have h6:(cE x).length=6:=rfl
  have t6:(cE x).take 6=cE x:=rfl
  simp(disch:=first|omega|assumption) only[hcl,hlt,hg,h6,t6,go_sem]
  refine goK_pure hf ?_
  simp(disch:=first|omega|assumption) only[wrap64,go_sem]
  exact goJ (hJ () H trivial) (by simp(disch:=first|omega|assumption) only[go_sem])
theorem zkP {s:List UInt8} {L:List Tok} {d:SR} {t:TS} (h:Zs s=.ok L) (h2:zfe L=.ok (d,t)):zcA s=(zgu d,0):=by unfold zcA;rw[h];simp only[h2]
def zm1:List UInt8:=[117,110,105,111,110,32,85,32,61,32,65,32,124,32,66]
def zmL:List UInt8:=[115,99,97,108,97,114,32,88]
theorem zmJ:zcA zm1=(⟨[⟨3,[85],[],[],[[65],[66]],[]⟩],[81,117,101,114,121],[]⟩,0):=by kernel_rfl
theorem zmz:zcA zmL=(⟨[],[],[]⟩,2):=by kernel_rfl
theorem ze3:Pure Tryz.prog 16 [] (.bool true):=by
 refine Pure.go ir16 ck16 (Al4 _) fun KP Q hQ=>?_
 have h1:=zdg zm1 (by decide)
 have h2:=zdg zmL (by decide)
 rw[zmJ] at h1
 rw[zmz] at h2
 have ed:YN ⟨[⟨3,[85],[],[],[[65],[66]],[]⟩],[81,117,101,114,121],[]⟩=[.sl .no 6 [[.int .i64 3,.str [85],.sl .no 1 [],.sl .no 6 [],.sl .no 1 [[.str [65]],[.str [66]]],.sl .no 10 []]],.str [81,117,101,114,121],.str []]:=rfl
 have ez:YN ⟨[],[],[]⟩=[.sl .no 6 [],.str [],.str []]:=rfl
 simp(disch:=first|omega|assumption) only[ir16,go_sem]
 refine goK_pure (h1:Pure Tryz.prog 17 [.str _] _) ?_
 simp(disch:=first|omega|assumption) only[ed,go_sem]
 refine goA_intro fun b1 hb1=>?_
 simp(disch:=first|omega|assumption) only[go_sem]
 refine goK_pure (h2:Pure Tryz.prog 17 [.str _] _) ?_
 simp(disch:=first|omega|assumption) only[ez,go_sem]
 refine goA_intro fun b2 hb2=>?_
 have h21:b2≠b1:=fun e=>by subst e;rw[upd_same] at hb2;cases hb2
 simp(disch:=first|omega|assumption) only[Ne.symm h21,h21,Al2,Al3,List.getD_cons_zero,List.getD_cons_succ,go_sem]
 exact hQ _ _ _ _ nofun rfl (by simp[tupOf,envOf,AV.strip,AV.strip1])
theorem zdf (s:SchD) (hw:zbW s):(yS s=([],false))∨(yz s=true∧(yr (YT s)).length≤8192∧yS s=(yr (YT s),true)):=by
 cases hr:yz s with
 | false=>left;simp[yS,hr]
 | true =>
  have hall:=zgC s hr hw
  have htp:Zg (YT s)=(yr (YT s),true):=by unfold Zg;rw[if_pos hall]
  by_cases h3:(yr (YT s)).length≤8192
  ·right
   refine⟨rfl,h3,?_⟩
   unfold yS;rw[if_pos hr];unfold za7;rw[if_pos (by rw[htp];simpa using h3),htp]
  ·left
   unfold yS;rw[if_pos hr];unfold za7;rw[if_neg]
   intro h
   rw[htp] at h
   simp only[Al0,zn] at h
   exact h3 h.2
def six:List Tok:=[wk [115,99,104,101,109,97],pk [123],wk [113,117,101,114,121],pk [58],wk [81,117,101,114,121],pk [125]]
theorem zjG (defs:List DefD):YT ⟨defs,[81,117,101,114,121],[]⟩=six++defs.flatMap tE:=rfl
theorem zkd {defs:List DefD} (h:defs≠[]):∃ x R,defs.flatMap tE=x::R:=by
 cases defs with
 | nil=>exact absurd rfl h
 | cons d r =>
  cases he:tE d with
  | nil=>have:=zjT d [];rw[he] at this;exact absurd rfl this
  | cons x R=>exact⟨x,R++r.flatMap tE,by simp[he]⟩
theorem ziI (x:Tok) (R:List Tok):(yr (x::R)).length≤(yr (six++x::R)).length:=by
 simp only[six,Al6,Zh,zbs,Al5,Al2]
 omega
theorem zj3 (n:Nat) (L:List Tok):(cKs L).drop n=cKs (L.drop n):=by simp[cKs]
theorem ziM (s:SchD) (hw:zbW s) (hb:8192*Yp s+65536≤Lim):Pure Tryz.prog 6 [.agg (YN s)] (.bool true):=by
 refine Pure.go ir6 ck6 (Al4 _) fun KP Q hQ=>?_
 obtain⟨defs,q,m⟩:=s
 have ed0:YN ⟨defs,q,m⟩=[.sl .no 6 (cEs defs),.str q,.str m]:=rfl
 obtain⟨s0,hs0⟩:∃ s0:SchD,s0=⟨defs,[81,117,101,114,121],[]⟩:=⟨_,rfl⟩
 have ed:YN s0=[.sl .no 6 (cEs defs),.str [81,117,101,114,121],.str []]:=by rw[hs0];rfl
 have hw0:zbW s0:=by rw[hs0];exact hw
 have hb0:Yp s0≤Yp ⟨defs,q,m⟩+5:=by rw[hs0];simp only[Yp,Al2,Al3];omega
 have hdl:=zaU defs
 have hdb:=zcL defs
 have hdd:bEs defs≤Yp ⟨defs,q,m⟩:=by simp only[Yp];omega
 have hb':=hb
 simp only[Lim] at hb'
 have hL:=zkQ s0 (by simp only[Lim];omega)
 have hP:=zlw s0 hw0 (by simp only[Lim];omega)
 rw[ed] at hL hP
 rw[ed0]
 simp(disch:=first|omega|assumption) only[ir6,go_sem]
 refine goA_intro fun b1 hb1=>?_
 simp(disch:=first|omega|assumption) only[go_sem]
 refine goK_pure hL ?_
 cases hl:zfj s0 with
 | false =>
  simp(disch:=first|omega|assumption) only[go_sem]
  refine goK_pure ze3 ?_
  simp(disch:=first|omega|assumption) only[go_sem]
  exact hQ _ _ _ _ nofun rfl (by simp[tupOf,envOf,AV.strip,AV.strip1])
 | true =>
 by_cases hz:defs.length=0
 ·have hz':((defs.length:Int)=0)=True:=eq_true (by omega)
  simp(disch:=first|omega|assumption) only[hdl,hz',go_sem]
  refine goK_pure ze3 ?_
  simp(disch:=first|omega|assumption) only[go_sem]
  exact hQ _ _ _ _ nofun rfl (by simp[tupOf,envOf,AV.strip,AV.strip1])
 have hz':¬ ((defs.length:Int)=0):=by omega
 simp(disch:=first|omega|assumption) only[hdl,hz',go_sem]
 refine goK_pure hP ?_
 rcases zdf s0 hw0 with h0|⟨hr,h3,h1⟩
 ·rw[h0]
  have ht:=zg3 [] (by simp[YQ])
  have e0:readA (Zs [])=.tup [.sl .no 2 [],.int .i64 0]:=rfl
  rw[e0] at ht
  simp(disch:=first|omega|assumption) only[go_sem]
  refine goK_pure ht ?_
  simp(disch:=first|omega|assumption) only[go_sem]
  refine goK_pure ze3 ?_
  simp(disch:=first|omega|assumption) only[go_sem]
  exact hQ _ _ _ _ nofun rfl (by simp[tupOf,envOf,AV.strip,AV.strip1])
 ·rw[h1]
  have hall:=zgC s0 hr hw0
  have hR2:=zdF (YT s0) hall h3
  have hwt:=zkJ s0 hr hw0
  obtain⟨x,R,hxR⟩:=zkd (defs:=defs) (fun e=>hz (by rw[e];rfl))
  have h6:YT s0=six++x::R:=by rw[hs0,zjG,hxR]
  have ht:=zg3 (yr (YT s0)) (by simp only[YQ];omega)
  rw[hR2] at ht
  rw[h6] at hall h3 hwt hR2 ht ⊢
  have hj:=ziI x R
  simp only[yL] at hwt
  rw[List.all_append,Al0] at hall
  have hcl:=zH (six++x::R)
  have hsl:(six++x::R).length=R.length+7:=by simp[six]
  have hcut:((cKs (six++x::R)).take (R.length+7)).drop 6=cKs (x::R):=by
   rw[List.take_of_length_le (by rw[hcl,hsl];exact Al4 _),zj3];rfl
  have hp:=zh5 (x::R) (by simp only[Lim];omega)
  have htp:Zg (x::R)=(yr (x::R),true):=by unfold Zg;rw[if_pos hall.2]
  rw[htp] at hp
  have hD3:=zif defs (fun e=>hz (by rw[e];rfl)) (by rw[hs0] at hr;simp only[yz,Al0] at hr;exact hr.1) hw
  rw[hxR] at hD3
  have he3:=zkP (zdF (x::R) hall.2 (by omega)) hD3
  have ef:zgu ⟨defs,[],[],false⟩=⟨defs,[81,117,101,114,121],zbS defs⟩:=rfl
  rw[ef] at he3
  have hp3:=zdg (yr (x::R)) (by simp only[YQ];omega)
  rw[he3] at hp3
  have hml:(zbS defs).length≤8:=by unfold zbS;split<;>simp
  have hsd:=zne ⟨defs,[81,117,101,114,121],zbS defs⟩ (by simp only[Yp,Lim,Al2,Al3];omega)
  have e3:YN ⟨defs,[81,117,101,114,121],zbS defs⟩=[.sl .no 6 (cEs defs),.str [81,117,101,114,121],.str (zbS defs)]:=rfl
  rw[e3] at hp3 hsd
  have hn6:¬ (((R.length+7:Nat):Int)<6):=by omega
  have hle6:((6:Int)≤((R.length+7:Nat):Int))=True:=eq_true (by omega)
  simp only[readA] at ht
  simp(disch:=first|omega|assumption) only[go_sem]
  refine goK_pure ht ?_
  simp(disch:=first|omega|assumption) only[hcl,hsl,hn6,hle6,hcut,go_sem]
  refine goK_pure hp ?_
  simp(disch:=first|omega|assumption) only[go_sem]
  refine goK_pure hp3 ?_
  simp(disch:=first|omega|assumption) only[go_sem]
  refine goA_intro fun b9 hb9=>?_
  have h91:b9≠b1:=fun e=>by subst e;rw[upd_same] at hb9;cases hb9
  simp(disch:=first|omega|assumption) only[h91,Ne.symm h91,go_sem]
  refine goL_range defs 10 (fun x:Unit=>[]) (fun done rest x H'=>H' b1=some (.cells [.sl .no 6 (cEs defs),.str [81,117,101,114,121],.str (zbS done)])∧H' b9=some (.cells [.sl .no 6 (cEs defs),.str [81,117,101,114,121],.str (zbS defs)])) () (by simp(disch:=first|omega|assumption) only[go_sem]) ⟨by rw[upd_ne (Ne.symm h91),upd_same];rfl,upd_same ..⟩ ?_ ?_
  ·rintro _ H4 J4 ⟨g1,g9⟩ hlt4
   simp(disch:=first|omega|assumption) only[hdl,hlt4,g1,g9,go_sem]
   refine goK_pure hsd ?_
   simp(disch:=first|omega|assumption) only[go_sem]
   refine goK_pure ze3 ?_
   simp(disch:=first|omega|assumption) only[go_sem]
   exact hQ _ _ _ _ nofun rfl (by simp[tupOf,envOf,AV.strip,AV.strip1])
  ·rintro done y rest _ H4 J4 hdn hlt4 hlt4' ⟨g1,g9⟩ hJ4
   have hg:=za0 hdn
   have hms:=zea done y
   obtain⟨k,nm,faces,flds,parts,ps⟩:=y
   rw[zbF] at hg
   simp only at hms
   by_cases hnm:nm=[77,117,116,97,116,105,111,110]
   ·rw[if_pos hnm] at hms
    have hnm':=eq_true hnm
    simp(disch:=first|omega|assumption) only[hdl,hlt4,hg,hnm',g1,wrap64,go_sem]
    refine goJ (hJ4 () _ ⟨by rw[upd_same,hms],by rw[upd_ne h91];exact g9⟩) (by simp(disch:=first|omega|assumption) only[hdl,go_sem])
   ·rw[if_neg hnm] at hms
    simp(disch:=first|omega|assumption) only[hdl,hlt4,hg,hnm,g1,wrap64,go_sem]
    refine goJ (hJ4 () _ ⟨by rw[hms];exact g1,g9⟩) (by simp(disch:=first|omega|assumption) only[hdl,go_sem])
end Go.Proofs.YtaielcdfcgpbiaaGreatDoor
