import Derived.Lib.ValidLaws
import Derived.Lib.ItoaLen
import Derived.Lib.Join
import Derived.Lib.DecodeN
import Derived.Lib.TrimUEq
import Derived.Shelf.Strings.OnBuilder
import Derived.Test.YtaielcdfcgpbiaaGreatDoorM1
import Derived.Test.YtaielcdfcgpbiaaGreatDoorM2
import Derived.Test.YtaielcdfcgpbiaaGreatDoorM3
import Derived.Test.YtaielcdfcgpbiaaGreatDoorM4
import Derived.Test.YtaielcdfcgpbiaaGreatDoorM5
set_option maxRecDepth 100000
set_option linter.all false
namespace Go.Proofs.YtaielcdfcgpbiaaGreatDoor
open Go.Ab
def YL (t:TS):PR (List UInt8):=if isW [111,110] t then .error 2 else zL t
theorem zhZ {H:Heap} {r:Nat} {L p t:TS} (hs:p++t=L) (hl:wT L≤zp) (hr:H r=some (prc L p (16-16))) :
  ACalls Tryz.prog 197 [.ptr r 0] H (RpE H r L (16-16) (YL t) AV.str):=by
 refine yn (ACalls.goO (R:=fun v H'=>Y7 H r L (16-16) (YL t) AV.str v.strip H') (RP:=fun v H'=>zaY (YL t) v H') ir197 ck197 (Al4 _) fun KP Q hQ hP=>?_)
 have hll:L.length≤zp:=Nat.le_trans (yY L) hl
 have hll2:=hll
 simp only[zp] at hll2
 have pan:∀(v:AV) (H1:Heap) (n:Int),v=zN n→(YL t)=.error n→KP v H1:=fun v H1 n h1 h2=>hP v H1 H1 (Low.refl _) ⟨n,h2,h1⟩
 have fin:=KI.done hQ
 have K0:=KI.start hs hr
 simp(disch:=first|omega|assumption) only[ir197,go_sem]
 refine goK_ret (zia (dp:=16-16) hs hr [111,110]) fun v H2 ⟨hv2,hH⟩=>?_
 subst hv2;subst hH
 cases hw:isW [111,110] t with
 | true =>
  simp(disch:=first|omega|assumption) only[go_sem]
  exact goK_both (Y5 _ r 2) (fun _ _ h=>h.elim) fun v H3 h=>pan v H3 2 h (by rw[YL,hw];rfl)
 | false =>
  simp(disch:=first|omega|assumption) only[go_sem]
  refine goK_both (Zi (dp:=16-16) hs hll hr) (fun v H3 ⟨s,t3,e3,hv3,ha3⟩=>?_) fun v H3 ⟨n,e3,hv3⟩=>pan v H3 n hv3 (by rw[YL,hw];exact e3)
  subst hv3
  simp(disch:=first|omega|assumption) only[go_sem]
  exact fin _ _ [.str s] s t3 (by simp(disch:=first|omega|assumption) only[ir197,resvs,resv,go_sem]) (by rw[YL,hw];exact e3) (K0.call ha3) (by simp[tupOf,AV.strip,AV.strip1])
abbrev zW:List AV:=[.str [],.str [],.int .i64 0,.int .i64 0,.bool false,.int .i64 0,.int .i64 0,.str [],.sl .nil 5 [],.sl .nil 6 []]
theorem zaA {H:Heap} {r:Nat} {L p t:TS} (hs:p++t=L) (hl:wT L≤zp) (hr:H r=some (prc L p (16-16))) :
  ACalls Tryz.prog 195 [.ptr r 0] H (RpE H r L (16-16) (Ye t) (fun x=>.agg (cW x))):=by
 refine yn (ACalls.goO (R:=fun v H'=>Y7 H r L (16-16) (Ye t) (fun x=>.agg (cW x)) v.strip H') (RP:=fun v H'=>zaY (Ye t) v H') ir195 ck195 (Al4 _) fun KP Q hQ hP=>?_)
 have hll:L.length≤zp:=Nat.le_trans (yY L) hl
 have hll2:=hll
 simp only[zp] at hll2
 have pan:∀(v:AV) (H1:Heap) (n:Int),v=zN n→(Ye t)=.error n→KP v H1:=fun v H1 n h1 h2=>hP v H1 H1 (Low.refl _) ⟨n,h2,h1⟩
 have fin:=KI.done hQ
 have K0:=KI.start hs hr
 have hx:Ye t=pb (yA [36] t) fun _ t=>pb (zL t) fun s t=>pb (yA [58] t) fun _ t=>pb (ZS 4 t) fun ty t =>
  if isP [61] t then pb (yc true 16 t.tail) fun v t=>.ok (⟨s,ty,true,v⟩,t) else .ok (⟨s,ty,false,zV⟩,t):=rfl
 simp(disch:=first|omega|assumption) only[ir195,go_sem]
 refine goA_intro fun b2 hb2=>?_
 have n2:=K0.ne hb2
 have n2s:=Ne.symm n2
 have K1:=K0.box (x:=.cells zW) hb2
 obtain⟨p1,hp1,hr1⟩:=K1.here
 simp only[zW] at K1 hr1
 simp(disch:=first|omega|assumption) only[go_sem]
 refine goK_both (zbM (dp:=16-16) hp1 hll hr1 [36]) (fun v H2 ⟨_,t2,e2,hv2,ha2⟩=>?_) fun v H2 ⟨n,e2,hv2⟩=>pan v H2 n hv2 (by rw[hx,e2];rfl)
 subst hv2
 rw[e2,zf] at hx
 have K2:=K1.call ha2
 have g2:H2 b2=some (.cells zW):=by rw[ha2.other n2s,upd_same]
 obtain⟨p2,hp2,hr2⟩:=K2.here
 simp(disch:=first|omega|assumption) only[go_sem]
 refine goK_both (Zi (dp:=16-16) hp2 hll hr2) (fun v H3 ⟨s,t3,e3,hv3,ha3⟩=>?_) fun v H3 ⟨n,e3,hv3⟩=>pan v H3 n hv3 (by rw[hx,e3];rfl)
 subst hv3
 rw[e3,zf] at hx
 have K3:=K2.call ha3
 have g32:H3 b2=some (.cells zW):=by rw[ha3.other n2s,g2]
 simp(disch:=first|omega|assumption) only[go_sem]
 refine goA_intro fun b3 hb3=>?_
 have h32:b3≠b2:=fun e=>by subst e;rw[g32] at hb3;cases hb3
 have hb3H:H b3=none:=K3.none hb3
 have n3:=K0.ne hb3H
 have n3s:=Ne.symm n3
 have K4:=K3.box (x:=.cells [.str s,.str [],.int .i64 0,.int .i64 0,.bool false,.int .i64 0,.int .i64 0,.str [],.sl .nil 5 [],.sl .nil 6 []]) hb3H
 obtain⟨p4,hp4,hr4⟩:=K4.here
 simp(disch:=first|omega|assumption) only[go_sem]
 refine goK_both (zbM (dp:=16-16) hp4 hll hr4 [58]) (fun v H5 ⟨_,t5,e5,hv5,ha5⟩=>?_) fun v H5 ⟨n,e5,hv5⟩=>pan v H5 n hv5 (by rw[hx,e5];rfl)
 subst hv5
 rw[e5,zf] at hx
 have K5:=K4.call ha5
 have g53:H5 b3=some (.cells [.str s,.str [],.int .i64 0,.int .i64 0,.bool false,.int .i64 0,.int .i64 0,.str [],.sl .nil 5 [],.sl .nil 6 []]):=by rw[ha5.other n3s,upd_same]
 have g52:H5 b2=some (.cells zW):=by rw[ha5.other n2s,upd_ne (Ne.symm h32),g32]
 obtain⟨p5,hp5,hr5⟩:=K5.here
 simp(disch:=first|omega|assumption) only[go_sem]
 refine goK_both (zha hp5 hl hr5) (fun v H6 ⟨ty,t6,e6,hv6,ha6⟩=>?_) fun v H6 ⟨n,e6,hv6⟩=>pan v H6 n hv6 (by rw[hx,e6];rfl)
 subst hv6
 rw[e6,zf] at hx
 have K6:=K5.call ha6
 have g63:H6 b3=some (.cells [.str s,.str [],.int .i64 0,.int .i64 0,.bool false,.int .i64 0,.int .i64 0,.str [],.sl .nil 5 [],.sl .nil 6 []]):=by rw[ha6.other n3s,g53]
 have g62:H6 b2=some (.cells zW):=by rw[ha6.other n2s,g52]
 simp(disch:=first|omega|assumption) only[cTy,g63,go_sem]
 have K7:=K6.box (x:=.cells [.str s,.str ty.nm,.int .i64 ty.lists,.int .i64 ty.musts,.bool false,.int .i64 0,.int .i64 0,.str [],.sl .nil 5 [],.sl .nil 6 []]) hb3H
 obtain⟨p7,hp7,hr7⟩:=K7.here
 refine goK_ret (Zk (dp:=16-16) hp7 hll hr7 [61]) fun v H8 ⟨hv8,ha8⟩=>?_
 subst hv8
 have K8:=K7.call ha8
 have g83:H8 b3=some (.cells [.str s,.str ty.nm,.int .i64 ty.lists,.int .i64 ty.musts,.bool false,.int .i64 0,.int .i64 0,.str [],.sl .nil 5 [],.sl .nil 6 []]):=by rw[ha8.other n3s,upd_same]
 have g82:H8 b2=some (.cells zW):=by rw[ha8.other n2s,upd_ne (Ne.symm h32),g62]
 unfold y6 at K8
 obtain⟨p8,hp8,hr8⟩:=K8.here
 cases hi:isP [61] t6 with
 | true =>
  rw[hi] at hx K8 hp8
  simp only[if_true] at hx K8 hp8
  simp(disch:=first|omega|assumption) only[go_sem]
  refine goK_both (YO true 16 (Al4 _) _ r L p8 t6.tail hp8 hl hr8) (fun v H9 ⟨x,t9,e9,hv9,ha9⟩=>?_) fun v H9 ⟨n,e9,hv9⟩=>pan v H9 n hv9 (by rw[hx,e9];rfl)
  subst hv9
  rw[e9,zf] at hx
  have K9:=K8.call ha9
  have g93:H9 b3=some (.cells [.str s,.str ty.nm,.int .i64 ty.lists,.int .i64 ty.musts,.bool false,.int .i64 0,.int .i64 0,.str [],.sl .nil 5 [],.sl .nil 6 []]):=by rw[ha9.other n3s,g83]
  have g92:H9 b2=some (.cells zW):=by rw[ha9.other n2s,g82]
  simp only[zW] at g92
  simp(disch:=first|omega|assumption) only[zi,zd,zb,zj,ze,za,zq,g93,g92,h32,Ne.symm h32,go_sem]
  refine fin _ _ [.agg (cW ⟨s,ty,true,x⟩)] _ _ (by simp(disch:=first|omega|assumption) only[zi,zd,zb,zj,ze,za,zq,ir195,resvs,resv,ziz,go_sem]) hx ((K9.box hb3H).box hb2) (by simp[tupOf,AV.strip,Yw])
 | false =>
  rw[hi] at hx K8 hp8
  simp only[Al7,if_false] at hx K8 hp8
  simp only[zW] at g82
  simp(disch:=first|omega|assumption) only[g83,g82,h32,Ne.symm h32,go_sem]
  exact fin _ _ [.agg [.str s,.str ty.nm,.int .i64 ty.lists,.int .i64 ty.musts,.bool false,.int .i64 0,.int .i64 0,.str [],.sl .nil 5 [],.sl .nil 6 []]] _ _ (by simp(disch:=first|omega|assumption) only[ir195,resvs,resv,go_sem]) hx (K8.box hb2) (by simp[tupOf,AV.strip,AV.strip1,ziz,cV,cVs,cMs,zV])
abbrev zO:List AV:=[.int .i64 0,.str [],.sl .nil 10 [],.sl .nil 2 [],.sl .nil 7 []]
theorem zjJ (kind:Int) {H:Heap} {r:Nat} {L p t:TS} (hs:p++t=L) (hl:wT L≤zp) (hr:H r=some (prc L p (16-16))) :
  ACalls Tryz.prog 149 [.ptr r 0,.int .i64 kind] H (RpE H r L (16-16) (opP kind t) (fun x=>.agg (cO x))):=by
 refine yn (ACalls.goO (R:=fun v H'=>Y7 H r L (16-16) (opP kind t) (fun x=>.agg (cO x)) v.strip H') (RP:=fun v H'=>zaY (opP kind t) v H') ir149 ck149 (Al4 _) fun KP Q hQ hP=>?_)
 have hll:L.length≤zp:=Nat.le_trans (yY L) hl
 have hll2:=hll
 simp only[zp] at hll2
 have pan:∀(v:AV) (H1:Heap) (n:Int),v=zN n→(opP kind t)=.error n→KP v H1:=fun v H1 n h1 h2=>hP v H1 H1 (Low.refl _) ⟨n,h2,h1⟩
 have fin:=KI.done hQ
 have K0:=KI.start hs hr
 have hx:opP kind t=pb (if (hdT t).k=2 then zL t else .ok ([],t)) fun s t=>pb (if isP [40] t then Yv [41] Ye t.tail else .ok ([],t)) fun vs t =>
  pb (Zd true 16 t) fun d t=>pb (zE 16 t) fun l t=>.ok (⟨kind,s,vs,d,l⟩,t):=rfl
 simp(disch:=first|omega|assumption) only[ir149,go_sem]
 refine goA_intro fun b4 hb4=>?_
 have n4:=K0.ne hb4
 have n4s:=Ne.symm n4
 have K1:=K0.box (x:=.cells zO) hb4
 simp(disch:=first|omega|assumption) only[go_sem]
 refine goA_intro fun b5 hb5=>?_
 have h54:b5≠b4:=fun e=>by subst e;rw[upd_same] at hb5;cases hb5
 have hb5H:H b5=none:=by rw[upd_ne h54] at hb5;exact hb5
 have n5:=K0.ne hb5H
 have n5s:=Ne.symm n5
 have K2:=K1.box (x:=.cells [.int .i64 kind,.str [],.sl .nil 10 [],.sl .nil 2 [],.sl .nil 7 []]) hb5H
 simp only[zO] at K2
 obtain⟨p2,hp2,hr2⟩:=K2.here
 have g25:((H.upd b4 (.cells zO)).upd b5 (.cells [.int .i64 kind,.str [],.sl .nil 10 [],.sl .nil 2 [],.sl .nil 7 []])) b5=some (.cells [.int .i64 kind,.str [],.sl .nil 10 [],.sl .nil 2 [],.sl .nil 7 []]):=upd_same ..
 have g24:((H.upd b4 (.cells zO)).upd b5 (.cells [.int .i64 kind,.str [],.sl .nil 10 [],.sl .nil 2 [],.sl .nil 7 []])) b4=some (.cells zO):=by rw[upd_ne (Ne.symm h54),upd_same]
 simp only[zO] at g25 g24
 simp(disch:=first|omega|assumption) only[go_sem]
 generalize hHa:Heap.upd (Heap.upd H b4 _) b5 _=Ha at *
 refine goK_ret (zcP (dp:=16-16) hp2 hr2) fun v H3 ⟨hv3,hH⟩=>?_
 subst hv3;subst hH
 by_cases hk2:(hdT t).k=2
 ·have hk2':((hdT t).k=2)=True:=eq_true hk2
  rw[if_pos hk2] at hx
  simp(disch:=first|omega|assumption) only[zv,hk2',go_sem]
  refine goK_both (Zi (dp:=16-16) hp2 hll hr2) (fun v H3 ⟨s,t3,e3,hv3,ha3⟩=>?_) fun v H3 ⟨n,e3,hv3⟩=>pan v H3 n hv3 (by rw[hx,e3];rfl)
  subst hv3
  rw[e3,zf] at hx
  have g35:H3 b5=some (.cells [.int .i64 kind,.str [],.sl .nil 10 [],.sl .nil 2 [],.sl .nil 7 []]):=by rw[ha3.other n5s,g25]
  have g34:H3 b4=some (.cells zO):=by rw[ha3.other n4s,g24]
  have K3:=(K2.call ha3).box (x:=.cells [.int .i64 kind,.str s,.sl .nil 10 [],.sl .nil 2 [],.sl .nil 7 []]) hb5H
  obtain⟨p3,hp3,hr3⟩:=K3.here
  simp(disch:=first|omega|assumption) only[g35,go_sem]
  refine goK_ret (Zk (dp:=16-16) hp3 hll hr3 [40]) fun v H4 ⟨hv4,ha4⟩=>?_
  subst hv4
  have K4:=K3.call ha4
  have g45:H4 b5=some (.cells [.int .i64 kind,.str s,.sl .nil 10 [],.sl .nil 2 [],.sl .nil 7 []]):=by rw[ha4.other n5s];(exact upd_same ..)
  have g44:H4 b4=some (.cells zO):=by rw[ha4.other n4s];(rw[upd_ne (Ne.symm h54)];exact g34)
  unfold y6 at K4
  obtain⟨p4,hp4,hr4⟩:=K4.here
  cases hi:isP [40] t3 with
  | false =>
   rw[hi] at hx K4 hp4
   simp only[Al7,if_false,zf] at hx K4 hp4
   simp(disch:=first|omega|assumption) only[go_sem]
   refine goK_both (ZQ (Al4 _) hp4 hl hr4) (fun v H8 ⟨d,t8,e8,hv8,ha8⟩=>?_) fun v H8 ⟨n,e8,hv8⟩=>pan v H8 n hv8 (by rw[hx,e8];rfl)
   subst hv8
   rw[e8,zf] at hx
   have K8:=K4.call ha8
   have g85:H8 b5=some (.cells [.int .i64 kind,.str s,(.sl .nil 10 []),.sl .nil 2 [],.sl .nil 7 []]):=by rw[ha8.other n5s,g45]
   have g84:H8 b4=some (.cells zO):=by rw[ha8.other n4s,g44]
   simp(disch:=first|omega|assumption) only[g85,go_sem]
   have K9:=K8.box (x:=.cells [.int .i64 kind,.str s,(.sl .nil 10 []),.sl .no 2 (cDs d),.sl .nil 7 []]) hb5H
   obtain⟨p9,hp9,hr9⟩:=K9.here
   refine goK_both (ZE 16 (Al4 _) _ r L p9 t8 hp9 hl hr9) (fun v HA ⟨ss,tA,eA,hvA,haA⟩=>?_) fun v HA ⟨n,eA,hvA⟩=>pan v HA n hvA (by rw[hx,eA];rfl)
   subst hvA
   rw[eA,zf] at hx
   have KA:=K9.call haA
   have gA5:HA b5=some (.cells [.int .i64 kind,.str s,(.sl .nil 10 []),.sl .no 2 (cDs d),.sl .nil 7 []]):=by rw[haA.other n5s,upd_same]
   have gA4:HA b4=some (.cells zO):=by rw[haA.other n4s,upd_ne (Ne.symm h54),g84]
   simp only[zO] at gA4
   simp(disch:=first|omega|assumption) only[gA5,gA4,h54,Ne.symm h54,go_sem]
   exact fin _ _ [.agg [.int .i64 kind,.str s,(.sl .nil 10 []),.sl .no 2 (cDs d),.sl .no 7 (cSs ss)]] _ _ (by simp(disch:=first|omega|assumption) only[ir149,resvs,resv,go_sem]) hx ((KA.box hb5H).box hb4) (by simp[tupOf,AV.strip,AV.strip1,cO,cWs])
  | true =>
   rw[hi] at hx K4 hp4
   simp only[if_true] at hx K4 hp4
   have hm1:Yv [41] Ye t3.tail=pb (Ye t3.tail) fun x t=>zG [41] Ye (t.length+1) [x] t:=rfl
   rw[hm1] at hx
   have hsl:=zat hp4
   simp(disch:=first|omega|assumption) only[g45,go_sem]
   refine goK_both (zaA hp4 hl hr4) (fun v H5 ⟨x1,t5,e5,hv5,ha5⟩=>?_) fun v H5 ⟨n,e5,hv5⟩=>pan v H5 n hv5 (by rw[hx,e5];rfl)
   subst hv5
   rw[e5,zf] at hx
   have hlt1:=Z0.lt (by decide) _ _ _ e5
   have K5:=K4.call ha5
   have g55:H5 b5=some (.cells [.int .i64 kind,.str s,.sl .nil 10 [],.sl .nil 2 [],.sl .nil 7 []]):=by rw[ha5.other n5s,g45]
   have g54:H5 b4=some (.cells zO):=by rw[ha5.other n4s,g44]
   obtain⟨R,hR⟩:∃ R,zG [41] Ye (t5.length+1) [x1] t5=R:=⟨_,rfl⟩
   rw[hR] at hx
   have KO5:KO H r L t5 (16-16) H5 .nil 0 10:=⟨K5,rfl,nofun⟩
   simp(disch:=first|omega|assumption) only[g55,Yy,ZJ,go_sem]
   refine goP_ownS (Owned.nil _ _) (by simp) (by simp[maxLen]) fun o6 H6 hs6=>?_
   have K6:=KO5.app (by simpa using hs6)
   have g65:=KO5.stay hs6 g55
   have g64:=KO5.stay hs6 g54
   simp(disch:=first|omega|assumption) only[g65,Yy,ZJ,go_sem]
   refine goL_st (fun x:Own×List VarD×TS=>[]) (fun x H'=>KO H r L x.2.2 (16-16) H' x.1 x.2.1.length 10∧H' b5=some (.cells [.int .i64 kind,.str s,.sl x.1 10 (cWs x.2.1),.sl .nil 2 [],.sl .nil 7 []])∧H' b4=some (.cells zO)∧(∃ m,x.2.2.length<m∧zG [41] Ye m x.2.1 x.2.2=R)∧x.2.1.length+x.2.2.length≤L.length) (fun x=>x.2.2.length) (o6,[x1],t5) (by simp(disch:=first|omega|assumption) only[go_sem]) ⟨by simpa using K6.box hb5H g65,by rw[upd_same];simp[cWs,Yw],by rw[upd_ne (Ne.symm h54)];exact g64,⟨_,Nat.lt_succ_self _,hR⟩,by simp only[List.length_singleton];omega⟩ ?_
   rintro⟨o,l,u⟩ H7 J ⟨K7,g75,g74,⟨m,hm,hR3⟩,hlen⟩ hJ
   simp only at K7 g75 g74 hm hR3 hlen
   obtain⟨m,rfl⟩:∃ j,m=j+1:=⟨m-1,by omega⟩
   obtain⟨p7,hp7,hr7⟩:=K7.here
   have hcl:=zfd l
   simp(disch:=first|omega|assumption) only[go_sem]
   refine goK_ret (Zk (dp:=16-16) hp7 hll hr7 [41]) fun v H8 ⟨hv8,ha8⟩=>?_
   subst hv8
   have g85:H8 b5=some (.cells [.int .i64 kind,.str s,.sl o 10 (cWs l),.sl .nil 2 [],.sl .nil 7 []]):=by rw[ha8.other n5s,g75]
   have g84:H8 b4=some (.cells zO):=by rw[ha8.other n4s,g74]
   cases hj:isP [41] u with
   | true =>
    rw[y6,hj,if_pos rfl] at ha8
    have K8:=K7.toKI.call ha8
    obtain⟨p8,hp8,hr8⟩:=K8.here
    have e1:R=.ok (l,u.tail):=by rw[← hR3,zG,hj];rfl
    rw[e1,zf] at hx
    simp(disch:=first|omega|assumption) only[go_sem]
    refine goK_both (ZQ (Al4 _) hp8 hl hr8) (fun v HB ⟨d,t8,e8,hv8,ha8⟩=>?_) fun v HB ⟨n,e8,hv8⟩=>pan v HB n hv8 (by rw[hx,e8];rfl)
    subst hv8
    rw[e8,zf] at hx
    have KB:=K8.call ha8
    have gB5:HB b5=some (.cells [.int .i64 kind,.str s,(.sl o 10 (cWs l)),.sl .nil 2 [],.sl .nil 7 []]):=by rw[ha8.other n5s,g85]
    have gB4:HB b4=some (.cells zO):=by rw[ha8.other n4s,g84]
    simp(disch:=first|omega|assumption) only[gB5,go_sem]
    have K9:=KB.box (x:=.cells [.int .i64 kind,.str s,(.sl o 10 (cWs l)),.sl .no 2 (cDs d),.sl .nil 7 []]) hb5H
    obtain⟨p9,hp9,hr9⟩:=K9.here
    refine goK_both (ZE 16 (Al4 _) _ r L p9 t8 hp9 hl hr9) (fun v HA ⟨ss,tA,eA,hvA,haA⟩=>?_) fun v HA ⟨n,eA,hvA⟩=>pan v HA n hvA (by rw[hx,eA];rfl)
    subst hvA
    rw[eA,zf] at hx
    have KA:=K9.call haA
    have gA5:HA b5=some (.cells [.int .i64 kind,.str s,(.sl o 10 (cWs l)),.sl .no 2 (cDs d),.sl .nil 7 []]):=by rw[haA.other n5s,upd_same]
    have gA4:HA b4=some (.cells zO):=by rw[haA.other n4s,upd_ne (Ne.symm h54),gB4]
    simp only[zO] at gA4
    simp(disch:=first|omega|assumption) only[gA5,gA4,h54,Ne.symm h54,go_sem]
    exact fin _ _ [.agg [.int .i64 kind,.str s,(.sl o 10 (cWs l)),.sl .no 2 (cDs d),.sl .no 7 (cSs ss)]] _ _ (by simp(disch:=first|omega|assumption) only[ir149,resvs,resv,go_sem]) hx ((KA.box hb5H).box hb4) (by simp[tupOf,AV.strip,AV.strip1,cO,cWs])
   | false =>
    rw[y6,hj] at ha8
    have K8:=K7.call (by simpa using ha8)
    obtain⟨p8,hp8,hr8⟩:=K8.here
    rw[zG,hj] at hR3
    simp only[Al7,if_false] at hR3
    simp(disch:=first|omega|assumption) only[g85,go_sem]
    refine goK_both (zaA hp8 hl hr8) (fun v H9 ⟨x,t9,e9,hv9,ha9⟩=>?_) fun v H9 ⟨n9,e9,hv9⟩=>pan v H9 n9 hv9 (by rw[hx,← hR3,e9];rfl)
    subst hv9
    rw[e9,zf] at hR3
    have hlt:=Z0.lt (by decide) _ _ _ e9
    have K9:=K8.call ha9
    have g95:H9 b5=some (.cells [.int .i64 kind,.str s,.sl o 10 (cWs l),.sl .nil 2 [],.sl .nil 7 []]):=by rw[ha9.other n5s,g85]
    have g94:H9 b4=some (.cells zO):=by rw[ha9.other n4s,g84]
    simp(disch:=first|omega|assumption) only[g95,Yy,ZJ,go_sem]
    refine goP_ownS (by rw[hcl];exact K9.own) (by simp only[hcl,Al2,Al3];omega) (by simp only[hcl,Al2,Al3,maxLen];omega) fun oA HA hsA=>?_
    have KA:=K9.app (by simpa[hcl] using hsA)
    have gA5:=K9.stay hsA g95
    have gA4:=K9.stay hsA g94
    simp(disch:=first|omega|assumption) only[gA5,Yy,ZJ,go_sem]
    refine goJ (hJ (oA,l++[x],t9) _ (by simp only;omega) ⟨by simpa using KA.box hb5H gA5,by rw[upd_same];simp[cWs,Yw],by rw[upd_ne (Ne.symm h54)];exact gA4,⟨m,by simp only;omega,hR3⟩,by simp only[Al5,Al2,Al3];omega⟩) (by simp(disch:=first|omega|assumption) only[go_sem])
 ·rw[if_neg hk2,zf] at hx
  simp(disch:=first|omega|assumption) only[zv,hk2,go_sem]
  refine goK_ret (Zk (dp:=16-16) hp2 hll hr2 [40]) fun v H4 ⟨hv4,ha4⟩=>?_
  subst hv4
  have K4:=K2.call ha4
  have g45:H4 b5=some (.cells [.int .i64 kind,.str [],.sl .nil 10 [],.sl .nil 2 [],.sl .nil 7 []]):=by rw[ha4.other n5s];(exact g25)
  have g44:H4 b4=some (.cells zO):=by rw[ha4.other n4s];(exact g24)
  unfold y6 at K4
  obtain⟨p4,hp4,hr4⟩:=K4.here
  cases hi:isP [40] t with
  | false =>
   rw[hi] at hx K4 hp4
   simp only[Al7,if_false,zf] at hx K4 hp4
   simp(disch:=first|omega|assumption) only[go_sem]
   refine goK_both (ZQ (Al4 _) hp4 hl hr4) (fun v H8 ⟨d,t8,e8,hv8,ha8⟩=>?_) fun v H8 ⟨n,e8,hv8⟩=>pan v H8 n hv8 (by rw[hx,e8];rfl)
   subst hv8
   rw[e8,zf] at hx
   have K8:=K4.call ha8
   have g85:H8 b5=some (.cells [.int .i64 kind,.str [],(.sl .nil 10 []),.sl .nil 2 [],.sl .nil 7 []]):=by rw[ha8.other n5s,g45]
   have g84:H8 b4=some (.cells zO):=by rw[ha8.other n4s,g44]
   simp(disch:=first|omega|assumption) only[g85,go_sem]
   have K9:=K8.box (x:=.cells [.int .i64 kind,.str [],(.sl .nil 10 []),.sl .no 2 (cDs d),.sl .nil 7 []]) hb5H
   obtain⟨p9,hp9,hr9⟩:=K9.here
   refine goK_both (ZE 16 (Al4 _) _ r L p9 t8 hp9 hl hr9) (fun v HA ⟨ss,tA,eA,hvA,haA⟩=>?_) fun v HA ⟨n,eA,hvA⟩=>pan v HA n hvA (by rw[hx,eA];rfl)
   subst hvA
   rw[eA,zf] at hx
   have KA:=K9.call haA
   have gA5:HA b5=some (.cells [.int .i64 kind,.str [],(.sl .nil 10 []),.sl .no 2 (cDs d),.sl .nil 7 []]):=by rw[haA.other n5s,upd_same]
   have gA4:HA b4=some (.cells zO):=by rw[haA.other n4s,upd_ne (Ne.symm h54),g84]
   simp only[zO] at gA4
   simp(disch:=first|omega|assumption) only[gA5,gA4,h54,Ne.symm h54,go_sem]
   exact fin _ _ [.agg [.int .i64 kind,.str [],(.sl .nil 10 []),.sl .no 2 (cDs d),.sl .no 7 (cSs ss)]] _ _ (by simp(disch:=first|omega|assumption) only[ir149,resvs,resv,go_sem]) hx ((KA.box hb5H).box hb4) (by simp[tupOf,AV.strip,AV.strip1,cO,cWs])
  | true =>
   rw[hi] at hx K4 hp4
   simp only[if_true] at hx K4 hp4
   have hm1:Yv [41] Ye t.tail=pb (Ye t.tail) fun x t=>zG [41] Ye (t.length+1) [x] t:=rfl
   rw[hm1] at hx
   have hsl:=zat hp4
   simp(disch:=first|omega|assumption) only[g45,go_sem]
   refine goK_both (zaA hp4 hl hr4) (fun v H5 ⟨x1,t5,e5,hv5,ha5⟩=>?_) fun v H5 ⟨n,e5,hv5⟩=>pan v H5 n hv5 (by rw[hx,e5];rfl)
   subst hv5
   rw[e5,zf] at hx
   have hlt1:=Z0.lt (by decide) _ _ _ e5
   have K5:=K4.call ha5
   have g55:H5 b5=some (.cells [.int .i64 kind,.str [],.sl .nil 10 [],.sl .nil 2 [],.sl .nil 7 []]):=by rw[ha5.other n5s,g45]
   have g54:H5 b4=some (.cells zO):=by rw[ha5.other n4s,g44]
   obtain⟨R,hR⟩:∃ R,zG [41] Ye (t5.length+1) [x1] t5=R:=⟨_,rfl⟩
   rw[hR] at hx
   have KO5:KO H r L t5 (16-16) H5 .nil 0 10:=⟨K5,rfl,nofun⟩
   simp(disch:=first|omega|assumption) only[g55,Yy,ZJ,go_sem]
   refine goP_ownS (Owned.nil _ _) (by simp) (by simp[maxLen]) fun o6 H6 hs6=>?_
   have K6:=KO5.app (by simpa using hs6)
   have g65:=KO5.stay hs6 g55
   have g64:=KO5.stay hs6 g54
   simp(disch:=first|omega|assumption) only[g65,Yy,ZJ,go_sem]
   refine goL_st (fun x:Own×List VarD×TS=>[]) (fun x H'=>KO H r L x.2.2 (16-16) H' x.1 x.2.1.length 10∧H' b5=some (.cells [.int .i64 kind,.str [],.sl x.1 10 (cWs x.2.1),.sl .nil 2 [],.sl .nil 7 []])∧H' b4=some (.cells zO)∧(∃ m,x.2.2.length<m∧zG [41] Ye m x.2.1 x.2.2=R)∧x.2.1.length+x.2.2.length≤L.length) (fun x=>x.2.2.length) (o6,[x1],t5) (by simp(disch:=first|omega|assumption) only[go_sem]) ⟨by simpa using K6.box hb5H g65,by rw[upd_same];simp[cWs,Yw],by rw[upd_ne (Ne.symm h54)];exact g64,⟨_,Nat.lt_succ_self _,hR⟩,by simp only[List.length_singleton];omega⟩ ?_
   rintro⟨o,l,u⟩ H7 J ⟨K7,g75,g74,⟨m,hm,hR3⟩,hlen⟩ hJ
   simp only at K7 g75 g74 hm hR3 hlen
   obtain⟨m,rfl⟩:∃ j,m=j+1:=⟨m-1,by omega⟩
   obtain⟨p7,hp7,hr7⟩:=K7.here
   have hcl:=zfd l
   simp(disch:=first|omega|assumption) only[go_sem]
   refine goK_ret (Zk (dp:=16-16) hp7 hll hr7 [41]) fun v H8 ⟨hv8,ha8⟩=>?_
   subst hv8
   have g85:H8 b5=some (.cells [.int .i64 kind,.str [],.sl o 10 (cWs l),.sl .nil 2 [],.sl .nil 7 []]):=by rw[ha8.other n5s,g75]
   have g84:H8 b4=some (.cells zO):=by rw[ha8.other n4s,g74]
   cases hj:isP [41] u with
   | true =>
    rw[y6,hj,if_pos rfl] at ha8
    have K8:=K7.toKI.call ha8
    obtain⟨p8,hp8,hr8⟩:=K8.here
    have e1:R=.ok (l,u.tail):=by rw[← hR3,zG,hj];rfl
    rw[e1,zf] at hx
    simp(disch:=first|omega|assumption) only[go_sem]
    refine goK_both (ZQ (Al4 _) hp8 hl hr8) (fun v HB ⟨d,t8,e8,hv8,ha8⟩=>?_) fun v HB ⟨n,e8,hv8⟩=>pan v HB n hv8 (by rw[hx,e8];rfl)
    subst hv8
    rw[e8,zf] at hx
    have KB:=K8.call ha8
    have gB5:HB b5=some (.cells [.int .i64 kind,.str [],(.sl o 10 (cWs l)),.sl .nil 2 [],.sl .nil 7 []]):=by rw[ha8.other n5s,g85]
    have gB4:HB b4=some (.cells zO):=by rw[ha8.other n4s,g84]
    simp(disch:=first|omega|assumption) only[gB5,go_sem]
    have K9:=KB.box (x:=.cells [.int .i64 kind,.str [],(.sl o 10 (cWs l)),.sl .no 2 (cDs d),.sl .nil 7 []]) hb5H
    obtain⟨p9,hp9,hr9⟩:=K9.here
    refine goK_both (ZE 16 (Al4 _) _ r L p9 t8 hp9 hl hr9) (fun v HA ⟨ss,tA,eA,hvA,haA⟩=>?_) fun v HA ⟨n,eA,hvA⟩=>pan v HA n hvA (by rw[hx,eA];rfl)
    subst hvA
    rw[eA,zf] at hx
    have KA:=K9.call haA
    have gA5:HA b5=some (.cells [.int .i64 kind,.str [],(.sl o 10 (cWs l)),.sl .no 2 (cDs d),.sl .nil 7 []]):=by rw[haA.other n5s,upd_same]
    have gA4:HA b4=some (.cells zO):=by rw[haA.other n4s,upd_ne (Ne.symm h54),gB4]
    simp only[zO] at gA4
    simp(disch:=first|omega|assumption) only[gA5,gA4,h54,Ne.symm h54,go_sem]
    exact fin _ _ [.agg [.int .i64 kind,.str [],(.sl o 10 (cWs l)),.sl .no 2 (cDs d),.sl .no 7 (cSs ss)]] _ _ (by simp(disch:=first|omega|assumption) only[ir149,resvs,resv,go_sem]) hx ((KA.box hb5H).box hb4) (by simp[tupOf,AV.strip,AV.strip1,cO,cWs])
   | false =>
    rw[y6,hj] at ha8
    have K8:=K7.call (by simpa using ha8)
    obtain⟨p8,hp8,hr8⟩:=K8.here
    rw[zG,hj] at hR3
    simp only[Al7,if_false] at hR3
    simp(disch:=first|omega|assumption) only[g85,go_sem]
    refine goK_both (zaA hp8 hl hr8) (fun v H9 ⟨x,t9,e9,hv9,ha9⟩=>?_) fun v H9 ⟨n9,e9,hv9⟩=>pan v H9 n9 hv9 (by rw[hx,← hR3,e9];rfl)
    subst hv9
    rw[e9,zf] at hR3
    have hlt:=Z0.lt (by decide) _ _ _ e9
    have K9:=K8.call ha9
    have g95:H9 b5=some (.cells [.int .i64 kind,.str [],.sl o 10 (cWs l),.sl .nil 2 [],.sl .nil 7 []]):=by rw[ha9.other n5s,g85]
    have g94:H9 b4=some (.cells zO):=by rw[ha9.other n4s,g84]
    simp(disch:=first|omega|assumption) only[g95,Yy,ZJ,go_sem]
    refine goP_ownS (by rw[hcl];exact K9.own) (by simp only[hcl,Al2,Al3];omega) (by simp only[hcl,Al2,Al3,maxLen];omega) fun oA HA hsA=>?_
    have KA:=K9.app (by simpa[hcl] using hsA)
    have gA5:=K9.stay hsA g95
    have gA4:=K9.stay hsA g94
    simp(disch:=first|omega|assumption) only[gA5,Yy,ZJ,go_sem]
    refine goJ (hJ (oA,l++[x],t9) _ (by simp only;omega) ⟨by simpa using KA.box hb5H gA5,by rw[upd_same];simp[cWs,Yw],by rw[upd_ne (Ne.symm h54)];exact gA4,⟨m,by simp only;omega,hR3⟩,by simp only[Al5,Al2,Al3];omega⟩) (by simp(disch:=first|omega|assumption) only[go_sem])
theorem zi6 {H:Heap} {r:Nat} {L p t:TS} (hs:p++t=L) (hl:wT L≤zp) (hr:H r=some (prc L p (16-16))) :
  ACalls Tryz.prog 150 [.ptr r 0] H (RpE H r L (16-16) (zaZ t) (fun x=>.agg (cF x))):=by
 refine yn (ACalls.goO (R:=fun v H'=>Y7 H r L (16-16) (zaZ t) (fun x=>.agg (cF x)) v.strip H') (RP:=fun v H'=>zaY (zaZ t) v H') ir150 ck150 (Al4 _) fun KP Q hQ hP=>?_)
 have hll:L.length≤zp:=Nat.le_trans (yY L) hl
 have hll2:=hll
 simp only[zp] at hll2
 have pan:∀(v:AV) (H1:Heap) (n:Int),v=zN n→(zaZ t)=.error n→KP v H1:=fun v H1 n h1 h2=>hP v H1 H1 (Low.refl _) ⟨n,h2,h1⟩
 have fin:=KI.done hQ
 have K0:=KI.start hs hr
 have hx:zaZ t=pb (YL t) fun s t=>pb (if isW [111,110] t then .ok ((),t.tail) else .error 2) fun _ t=>pb (zL t) fun o t =>
  pb (Zd true 16 t) fun d t=>pb (zE 16 t) fun l t=>.ok (⟨s,o,d,l⟩,t):=rfl
 simp(disch:=first|omega|assumption) only[ir150,go_sem]
 refine goA_intro fun b2 hb2=>?_
 have n2:=K0.ne hb2
 have n2s:=Ne.symm n2
 have K1:=K0.box (x:=.cells [.str [],.str [],.sl .nil 2 [],.sl .nil 7 []]) hb2
 obtain⟨p1,hp1,hr1⟩:=K1.here
 simp(disch:=first|omega|assumption) only[go_sem]
 refine goK_both (zhZ hp1 hl hr1) (fun v H3 ⟨s,t3,e3,hv3,ha3⟩=>?_) fun v H3 ⟨n,e3,hv3⟩=>pan v H3 n hv3 (by rw[hx,e3];rfl)
 subst hv3
 rw[e3,zf] at hx
 have K3:=K1.call ha3
 have g32:H3 b2=some (.cells [.str [],.str [],.sl .nil 2 [],.sl .nil 7 []]):=by rw[ha3.other n2s,upd_same]
 simp(disch:=first|omega|assumption) only[go_sem]
 refine goA_intro fun b3 hb3=>?_
 have h32:b3≠b2:=fun e=>by subst e;rw[g32] at hb3;cases hb3
 have hb3H:H b3=none:=K3.none hb3
 have n3:=K0.ne hb3H
 have n3s:=Ne.symm n3
 have K4:=K3.box (x:=.cells [.str s,.str [],.sl .nil 2 [],.sl .nil 7 []]) hb3H
 obtain⟨p4,hp4,hr4⟩:=K4.here
 simp(disch:=first|omega|assumption) only[go_sem]
 refine goK_ret (zcU (dp:=16-16) hp4 hll hr4 [111,110]) fun v H5 ⟨hv5,ha5⟩=>?_
 subst hv5
 have K5:=K4.call ha5
 have g53:H5 b3=some (.cells [.str s,.str [],.sl .nil 2 [],.sl .nil 7 []]):=by rw[ha5.other n3s,upd_same]
 have g52:H5 b2=some (.cells [.str [],.str [],.sl .nil 2 [],.sl .nil 7 []]):=by rw[ha5.other n2s,upd_ne (Ne.symm h32),g32]
 unfold yT at K5
 cases hw:isW [111,110] t3 with
 | false =>
  rw[hw] at hx
  simp(disch:=first|omega|assumption) only[go_sem]
  exact goK_both (Y5 _ r 2) (fun _ _ h=>h.elim) fun v H6 h=>pan v H6 2 h (by rw[hx];rfl)
 | true =>
  rw[hw] at hx K5
  simp only[if_true,zf] at hx K5
  obtain⟨p5,hp5,hr5⟩:=K5.here
  simp(disch:=first|omega|assumption) only[go_sem]
  refine goK_both (Zi (dp:=16-16) hp5 hll hr5) (fun v H6 ⟨o,t6,e6,hv6,ha6⟩=>?_) fun v H6 ⟨n,e6,hv6⟩=>pan v H6 n hv6 (by rw[hx,e6];rfl)
  subst hv6
  rw[e6,zf] at hx
  have g63:H6 b3=some (.cells [.str s,.str [],.sl .nil 2 [],.sl .nil 7 []]):=by rw[ha6.other n3s,g53]
  have g62:H6 b2=some (.cells [.str [],.str [],.sl .nil 2 [],.sl .nil 7 []]):=by rw[ha6.other n2s,g52]
  have K7:=(K5.call ha6).box (x:=.cells [.str s,.str o,.sl .nil 2 [],.sl .nil 7 []]) hb3H
  obtain⟨p7,hp7,hr7⟩:=K7.here
  simp(disch:=first|omega|assumption) only[g63,go_sem]
  refine goK_both (ZQ (Al4 _) hp7 hl hr7) (fun v H8 ⟨d,t8,e8,hv8,ha8⟩=>?_) fun v H8 ⟨n,e8,hv8⟩=>pan v H8 n hv8 (by rw[hx,e8];rfl)
  subst hv8
  rw[e8,zf] at hx
  have g83:H8 b3=some (.cells [.str s,.str o,.sl .nil 2 [],.sl .nil 7 []]):=by rw[ha8.other n3s,upd_same]
  have g82:H8 b2=some (.cells [.str [],.str [],.sl .nil 2 [],.sl .nil 7 []]):=by rw[ha8.other n2s,upd_ne (Ne.symm h32),g62]
  have K9:=(K7.call ha8).box (x:=.cells [.str s,.str o,.sl .no 2 (cDs d),.sl .nil 7 []]) hb3H
  obtain⟨p9,hp9,hr9⟩:=K9.here
  simp(disch:=first|omega|assumption) only[g83,go_sem]
  refine goK_both (ZE 16 (Al4 _) _ r L p9 t8 hp9 hl hr9) (fun v HA ⟨ss,tA,eA,hvA,haA⟩=>?_) fun v HA ⟨n,eA,hvA⟩=>pan v HA n hvA (by rw[hx,eA];rfl)
  subst hvA
  rw[eA,zf] at hx
  have KA:=K9.call haA
  have gA3:HA b3=some (.cells [.str s,.str o,.sl .no 2 (cDs d),.sl .nil 7 []]):=by rw[haA.other n3s,upd_same]
  have gA2:HA b2=some (.cells [.str [],.str [],.sl .nil 2 [],.sl .nil 7 []]):=by rw[haA.other n2s,upd_ne (Ne.symm h32),g82]
  simp(disch:=first|omega|assumption) only[gA3,gA2,h32,Ne.symm h32,go_sem]
  exact fin _ _ [.agg [.str s,.str o,.sl .no 2 (cDs d),.sl .no 7 (cSs ss)]] _ _ (by simp(disch:=first|omega|assumption) only[ir150,resvs,resv,go_sem]) hx ((KA.box hb3H).box hb2) (by simp[tupOf,AV.strip,AV.strip1,cF])
theorem zcZ {H H':Heap} {o1 o2:Own} {n sz:Nat} (h:Owned H o2 n sz) (hk:Kept H o1 H') (hs:∀ b x c y,o1=.tip b x→o2=.tip c y→b≠c):Owned H' o2 n sz:=by
 cases o2 with
 | tip c y =>
  have h5:H c=some _:=h
  exact hk c _ h5 fun d e=>hs c d c y e rfl rfl
 | no=>exact h
 | nil=>exact h
 | full=>exact h
theorem zdM {H:Heap} {c y n sz:Nat} (h:Owned H (.tip c y) n sz):H c≠none:=by
 have h5:H c=some _:=h
 rw[h5];exact nofun
structure DI (L:TS) (r bd:Nat) (H:Heap) (t:TS) (d:DocD) (o1 o2:Own):Prop where
 rd:∃ p,p++t=L∧H r=some (prc L p (16-16))
 box:H bd=some (.cells [.sl o1 5 (cOs d.ops),.sl o2 4 (cFs d.frags)])
 own1:Owned H o1 d.ops.length 5
 own2:Owned H o2 d.frags.length 4
 sep:∀ b x c y,o1=.tip b x→o2=.tip c y→b≠c
 ne:bd≠r
theorem DI.call {L t t':TS} {r bd:Nat} {H H':Heap} {d:DocD} {o1 o2:Own} (h:DI L r bd H t d o1 o2) (ha:Pat H r L t' (16-16) H'):DI L r bd H' t' d o1 o2:=by
 obtain⟨p,_,hr⟩:=h.rd
 have hb:=ha.other h.ne
 obtain⟨q,hq,rfl⟩:=ha
 exact⟨⟨q,hq,upd_same ..⟩,by rw[hb];exact h.box,yf h.own1 hr,yf h.own2 hr,h.sep,h.ne⟩
theorem DI.op {L t:TS} {r bd n:Nat} {H H':Heap} {d:DocD} {o1 o2 o':Own} {xs:List (List AV)} (h:DI L r bd H t d o1 o2) (x:OpD) (hs:OwnS H o1 H' o' n 5) (hn:n=(d.ops++[x]).length) (hx:xs=cOs (d.ops++[x])) :
  DI L r bd (H'.upd bd (.cells [.sl o' 5 xs,.sl o2 4 (cFs d.frags)])) t ⟨d.ops++[x],d.frags⟩ o' o2:=by
 obtain⟨p,hp,hr⟩:=h.rd
 have hb:=zR h.own1 h.box hs.kept
 have hr2:=zR h.own1 hr hs.kept
 subst hn;subst hx
 refine⟨⟨p,hp,by rw[upd_ne (Ne.symm h.ne)];exact hr2⟩,upd_same ..,yf hs.own hb,yf (zcZ h.own2 hs.kept h.sep) hb,fun b x c y e1 e2=>?_,h.ne⟩
 rcases hs.new b x e1 with h2|⟨d0,h2⟩
 ·subst e2
  exact fun e=>zdM h.own2 (e▸h2)
 ·exact h.sep b d0 c y h2 e2
theorem DI.frag {L t:TS} {r bd n:Nat} {H H':Heap} {d:DocD} {o1 o2 o':Own} {xs:List (List AV)} (h:DI L r bd H t d o1 o2) (x:FragD) (hs:OwnS H o2 H' o' n 4) (hn:n=(d.frags++[x]).length) (hx:xs=cFs (d.frags++[x])) :
  DI L r bd (H'.upd bd (.cells [.sl o1 5 (cOs d.ops),.sl o' 4 xs])) t ⟨d.ops,d.frags++[x]⟩ o1 o':=by
 obtain⟨p,hp,hr⟩:=h.rd
 have hb:=zR h.own2 h.box hs.kept
 have hr2:=zR h.own2 hr hs.kept
 subst hn;subst hx
 refine⟨⟨p,hp,by rw[upd_ne (Ne.symm h.ne)];exact hr2⟩,upd_same ..,yf (zcZ h.own1 hs.kept fun b x c y e1 e2=>Ne.symm (h.sep c y b x e2 e1)) hb,yf hs.own hb,fun b x c y e1 e2=>?_,h.ne⟩
 rcases hs.new c y e2 with h2|⟨d0,h2⟩
 ·subst e1
  exact fun e=>zdM h.own1 (by rw[e];exact h2)
 ·exact h.sep b x c d0 e1 h2
def zj0 (L:TS) (r bd:Nat) (t:TS) (d:DocD):AEnd→Heap→Prop:=fun e H'=>match e with
 | .ret v=>∃ d' t' o1' o2',Zl d t=.ok (d',t')∧v=.tup []∧DI L r bd H' t' d' o1' o2'∧d'.ops.length+d'.frags.length+t'.length≤d.ops.length+d.frags.length+t.length∧t'.length<t.length
 | .pan v=>∃ n,v=zN n∧Zl d t=.error n
theorem zhq (l:List FragD) (x:FragD):cFs (l++[x])=cFs l++[cF x]:=by simp[cFs]
theorem zdt (l:List OpD) (x:OpD):cOs (l++[x])=cOs l++[cO x]:=by simp[cOs]
theorem za5 (x:OpD):(cO x).length=5:=rfl
theorem YR (x:OpD):(cO x).take 5=cO x:=rfl
theorem Zw (a b c d e:AV) (x:OpD):splice [a,b,c,d,e] 0 (cO x)=cO x:=rfl
theorem zgi (x:FragD):(cF x).length=4:=rfl
theorem ze1 (x:FragD):(cF x).take 4=cF x:=rfl
theorem zcy (a b c d:AV) (x:FragD):splice [a,b,c,d] 0 (cF x)=cF x:=rfl
theorem zit {L t:TS} {r bd:Nat} {H:Heap} {d:DocD} {o1 o2:Own} (h:DI L r bd H t d o1 o2) (hl:wT L≤zp) (hb:d.ops.length+d.frags.length≤L.length) :
  ACalls Tryz.prog 73 [.ptr r 0,.ptr bd 0] H (zj0 L r bd t d):=by
 refine ACalls.goO (R:=fun v H'=>∃ d' t' o1' o2',Zl d t=.ok (d',t')∧v=.tup []∧DI L r bd H' t' d' o1' o2'∧d'.ops.length+d'.frags.length+t'.length≤d.ops.length+d.frags.length+t.length∧t'.length<t.length) (RP:=fun v _=>∃ n,v=zN n∧Zl d t=.error n) ir73 ck73 (Al4 _) fun KP Q hQ hP=>?_
 have hll:L.length≤zp:=Nat.le_trans (yY L) hl
 have hll2:=hll
 simp only[zp] at hll2
 have pan:∀(v:AV) (H1:Heap) (n:Int),v=zN n→Zl d t=.error n→KP v H1:=fun v H1 n h1 h2=>hP v H1 H1 (Low.refl _) ⟨n,h1,h2⟩
 have hc1:=zhG d.ops
 have hc2:=zhu d.frags
 obtain⟨p,hs,hr⟩:=h.rd
 have g0:=h.box
 simp(disch:=first|omega|assumption) only[ir73,go_sem]
 refine goK_ret (zfW (dp:=16-16) hs hr [123]) fun v H1 ⟨hv1,hH⟩=>?_
 subst hv1;subst hH
 cases hi:isP [123] t with
 | true =>
  have hx:Zl d t=pb (zE 16 t) fun l t=>.ok (⟨d.ops++[⟨0,[],[],[],l⟩],d.frags⟩,t):=by unfold Zl;rw[hi];rfl
  simp(disch:=first|omega|assumption) only[g0,go_sem]
  refine goK_both (ZE 16 (Al4 _) _ r L p t hs hl hr) (fun v H2 ⟨l,t2,e2,hv2,ha2⟩=>?_) fun v H2 ⟨n,e2,hv2⟩=>pan v H2 n hv2 (by rw[hx,e2];rfl)
  have hlt:=(yN 16).lt (by decide) _ _ _ e2
  have eD:Zl d t=.ok (⟨d.ops++[⟨0,[],[],[],l⟩],d.frags⟩,t2):=by rw[hx,e2];rfl
  have D2:=h
  subst hv2
  have DX:=D2.call ha2
  obtain⟨pX,hpX,hrX⟩:=DX.rd
  have gX:=DX.box
  simp(disch:=first|omega|assumption) only[gX,za5,YR,Zw,go_sem]
  refine goP_ownS (by rw[hc1];exact DX.own1) (by simp only[hc1,Al2,Al3];omega) (by simp only[hc1,Al2,Al3,maxLen];omega) fun oY HY hsY=>?_
  have gY:=zR DX.own1 gX hsY.kept
  simp(disch:=first|omega|assumption) only[gY,za5,YR,Zw,go_sem]
  refine hQ _ _ _ _ [] nofun rfl (Low.refl _) ⟨_,_,oY,o2,eD,rfl,DX.op ⟨0,[],[],[],l⟩ (by simpa[hc1] using hsY) (by simp) (by rw[zdt];simp[cO,AV.strip1,cWs,cDs]),by simp only[Al5,List.length_singleton];omega,by omega⟩
 | false =>
  have hni:¬ (isP [123] t=true):=by rw[hi];decide
  simp(disch:=first|omega|assumption) only[go_sem]
  refine goK_ret (zcU (dp:=16-16) hs hll hr [113,117,101,114,121]) fun v H2 ⟨hv2,ha2⟩=>?_
  subst hv2
  have D2:=h.call ha2
  unfold yT at D2
  cases hq:isW [113,117,101,114,121] t with
  | true =>
   rw[hq,if_pos rfl] at D2
   have htl:=(zdm hq).1
   have htk:t.tail.length<t.length:=by rw[y9 (YB hq)];simp
   obtain⟨p2,hp2,hr2⟩:=D2.rd
   have g2:=D2.box
   have hx:Zl d t=pb (opP 0 t.tail) fun o t=>.ok (⟨d.ops++[o],d.frags⟩,t):=by unfold Zl;rw[if_neg hni,hq];rfl
   simp(disch:=first|omega|assumption) only[g2,go_sem]
   refine goK_both (zjJ 0 hp2 hl hr2) (fun v H3 ⟨o,t3,e3,hv3,ha3⟩=>?_) fun v H3 ⟨n,e3,hv3⟩=>pan v H3 n hv3 (by rw[hx,e3];rfl)
   have hlt:=(zbz 0).lt (by decide) _ _ _ e3
   have eD:Zl d t=.ok (⟨d.ops++[o],d.frags⟩,t3):=by rw[hx,e3];rfl
   subst hv3
   have DX:=D2.call ha3
   obtain⟨pX,hpX,hrX⟩:=DX.rd
   have gX:=DX.box
   simp(disch:=first|omega|assumption) only[gX,za5,YR,Zw,go_sem]
   refine goP_ownS (by rw[hc1];exact DX.own1) (by simp only[hc1,Al2,Al3];omega) (by simp only[hc1,Al2,Al3,maxLen];omega) fun oY HY hsY=>?_
   have gY:=zR DX.own1 gX hsY.kept
   simp(disch:=first|omega|assumption) only[gY,za5,YR,Zw,go_sem]
   refine hQ _ _ _ _ [] nofun rfl (Low.refl _) ⟨_,_,oY,o2,eD,rfl,DX.op o (by simpa[hc1] using hsY) (by simp) (by rw[zdt];simp[cO,AV.strip1,cWs,cDs]),by simp only[Al5,List.length_singleton];omega,by omega⟩
  | false =>
   rw[hq] at D2
   simp only[Al7,if_false] at D2
   have hnq:¬ (isW [113,117,101,114,121] t=true):=by rw[hq];decide
   obtain⟨p2,hp2,hr2⟩:=D2.rd
   simp(disch:=first|omega|assumption) only[go_sem]
   refine goK_ret (zcU (dp:=16-16) hp2 hll hr2 [109,117,116,97,116,105,111,110]) fun v H3 ⟨hv3,ha3⟩=>?_
   subst hv3
   have D3:=D2.call ha3
   unfold yT at D3
   cases hm:isW [109,117,116,97,116,105,111,110] t with
   | true =>
    rw[hm,if_pos rfl] at D3
    have htk:t.tail.length<t.length:=by rw[y9 (YB hm)];simp
    obtain⟨p3,hp3,hr3⟩:=D3.rd
    have g3:=D3.box
    have hx:Zl d t=pb (opP 1 t.tail) fun o t=>.ok (⟨d.ops++[o],d.frags⟩,t):=by unfold Zl;rw[if_neg hni,if_neg hnq,hm];rfl
    simp(disch:=first|omega|assumption) only[g3,go_sem]
    refine goK_both (zjJ 1 hp3 hl hr3) (fun v H4 ⟨o,t4,e4,hv4,ha4⟩=>?_) fun v H4 ⟨n,e4,hv4⟩=>pan v H4 n hv4 (by rw[hx,e4];rfl)
    have hlt:=(zbz 1).lt (by decide) _ _ _ e4
    have eD:Zl d t=.ok (⟨d.ops++[o],d.frags⟩,t4):=by rw[hx,e4];rfl
    subst hv4
    have DX:=D3.call ha4
    obtain⟨pX,hpX,hrX⟩:=DX.rd
    have gX:=DX.box
    simp(disch:=first|omega|assumption) only[gX,za5,YR,Zw,go_sem]
    refine goP_ownS (by rw[hc1];exact DX.own1) (by simp only[hc1,Al2,Al3];omega) (by simp only[hc1,Al2,Al3,maxLen];omega) fun oY HY hsY=>?_
    have gY:=zR DX.own1 gX hsY.kept
    simp(disch:=first|omega|assumption) only[gY,za5,YR,Zw,go_sem]
    refine hQ _ _ _ _ [] nofun rfl (Low.refl _) ⟨_,_,oY,o2,eD,rfl,DX.op o (by simpa[hc1] using hsY) (by simp) (by rw[zdt];simp[cO,AV.strip1,cWs,cDs]),by simp only[Al5,List.length_singleton];omega,by omega⟩
   | false =>
    rw[hm] at D3
    simp only[Al7,if_false] at D3
    have hnm:¬ (isW [109,117,116,97,116,105,111,110] t=true):=by rw[hm];decide
    obtain⟨p3,hp3,hr3⟩:=D3.rd
    simp(disch:=first|omega|assumption) only[go_sem]
    refine goK_ret (zcU (dp:=16-16) hp3 hll hr3 [102,114,97,103,109,101,110,116]) fun v H4 ⟨hv4,ha4⟩=>?_
    subst hv4
    have D4:=D3.call ha4
    unfold yT at D4
    cases hf:isW [102,114,97,103,109,101,110,116] t with
    | true =>
     rw[hf,if_pos rfl] at D4
     have htk:t.tail.length<t.length:=by rw[y9 (YB hf)];simp
     obtain⟨p4,hp4,hr4⟩:=D4.rd
     have g4:=D4.box
     have hx:Zl d t=pb (zaZ t.tail) fun f t=>.ok (⟨d.ops,d.frags++[f]⟩,t):=by unfold Zl;rw[if_neg hni,if_neg hnq,if_neg hnm,hf];rfl
     simp(disch:=first|omega|assumption) only[g4,go_sem]
     refine goK_both (zi6 hp4 hl hr4) (fun v H5 ⟨f,t5,e5,hv5,ha5⟩=>?_) fun v H5 ⟨n,e5,hv5⟩=>pan v H5 n hv5 (by rw[hx,e5];rfl)
     have hlt:=zcT.lt (by decide) _ _ _ e5
     have eD:Zl d t=.ok (⟨d.ops,d.frags++[f]⟩,t5):=by rw[hx,e5];rfl
     subst hv5
     have DX:=D4.call ha5
     obtain⟨pX,hpX,hrX⟩:=DX.rd
     have gX:=DX.box
     simp(disch:=first|omega|assumption) only[gX,zgi,ze1,zcy,go_sem]
     refine goP_ownS (by rw[hc2];exact DX.own2) (by simp only[hc2,Al2,Al3];omega) (by simp only[hc2,Al2,Al3,maxLen];omega) fun oY HY hsY=>?_
     have gY:=zR DX.own2 gX hsY.kept
     simp(disch:=first|omega|assumption) only[gY,zgi,ze1,zcy,go_sem]
     refine hQ _ _ _ _ [] nofun rfl (Low.refl _) ⟨_,_,o1,oY,eD,rfl,DX.frag f (by simpa[hc2] using hsY) (by simp) (by rw[zhq];simp[cF,AV.strip1]),by simp only[Al5,List.length_singleton];omega,by omega⟩
    | false =>
     have hnf:¬ (isW [102,114,97,103,109,101,110,116] t=true):=by rw[hf];decide
     simp(disch:=first|omega|assumption) only[go_sem]
     exact goK_both (Y5 _ r 2) (fun _ _ h=>h.elim) fun v H5 h=>pan v H5 2 h (by unfold Zl;rw[if_neg hni,if_neg hnq,if_neg hnm,if_neg hnf])
def zdL (may:UInt8→Bool) (t:List UInt8):AV:=match yt may t with
 | some (b,t')=>.tup [.str b,.int .i64 ((t.length+1-t'.length:Nat):Int)]
 | none=>.tup [.str [],.int .i64 0]
theorem zh9 (f : FuncId) (hf : Program.callable Tryz.prog f = true) (may : UInt8 → Bool) (hmay : ∀ c : UInt8, Pure Tryz.prog f [.int .u8 c.toNat] (.bool (may c))) (a : UInt8) (t : List UInt8) (hl : t.length + 1 ≤ yp) :
    Pure Tryz.prog 120 [.str (a :: t), .clo f [] []] (zdL may t) := by
  refine Pure.go ir120 ck120 (Al4 _) fun KP Q hQ => ?_
  simp only [yp] at hl
  simp (disch := first | omega | assumption) only [ir120, go_sem]
  refine goA_intro fun q hq => ?_
  simp (disch := first | omega | assumption) only [go_sem]
  obtain ⟨R, hR⟩ : ∃ R, Zj may (t.length + 1) t ⟨[], [], true⟩ = R := ⟨_, rfl⟩
  have fail : R = none → zdL may t = .tup [.str [], .int .i64 0] := fun e => by unfold zdL yt; rw [hR, e]
  refine goL_st (fun s : List UInt8 × Sd × Own × Own => [(7, .int .i64 ((t.length + 1 - s.1.length : Nat) : Int))])
    (fun s H => s.1 <:+ t ∧ (∃ n, s.1.length < n ∧ Zj may n s.1 s.2.1 = R) ∧ s.2.1.w + s.1.length ≤ t.length ∧ SaidAt H q s.2.1 s.2.2.1 s.2.2.2) (fun s => s.1.length) (t, ⟨[], [], true⟩, .nil, .nil)
    (by have : (t.length + 1 - t.length : Nat) = 1 := by omega
        simp (disch := first | omega | assumption) only [this, go_sem]) ⟨List.suffix_refl _, ⟨t.length + 1, by simp, hR⟩, by simp [Sd.w], upd_same .., rfl, rfl, nofun⟩ ?_
  rintro ⟨rest, x, o, o2⟩ H J ⟨hsuf, ⟨n, hn, hg⟩, hw, hs⟩ hJ
  simp only at hsuf hn hg hw hs
  have hrl := hsuf.length_le
  obtain ⟨n, rfl⟩ : ∃ k, n = k + 1 := ⟨n - 1, by omega⟩
  cases rest with
  | nil =>
    have e0 : R = none := by rw [← hg]; rfl
    have h0 : t.length + 1 - 0 = t.length + 1 := rfl
    have h1 : (((t.length + 1 : Nat) : Int) ≤ ((t.length + 1 : Nat) : Int)) = True := eq_true (Int.le_refl _)
    simp (disch := first | omega | assumption) only [h0, h1, go_sem]
    exact hQ _ _ _ _ nofun rfl (by simp [tupOf, envOf, AV.strip, AV.strip1, fail e0])
  | cons c r =>
    obtain ⟨p, hp⟩ := hsuf
    have hpl : t.length = p.length + (r.length + 1) := by rw [← hp]; simp
    have h0 : t.length + 1 - (r.length + 1) = p.length + 1 := by omega
    have h1 : ¬ (((t.length + 1 : Nat) : Int) ≤ ((p.length + 1 : Nat) : Int)) := by omega
    have h2 : (((p.length + 1 : Nat) : Int) < ((t.length + 1 : Nat) : Int)) = True := eq_true (by omega)
    have hi : (a :: t).getD (p.length + 1) 0 = c := by rw [← hp]; simp
    have hi1 : (((p.length + 1 : Nat) : Int) + 1) = ((p.length + 1 + 1 : Nat) : Int) := by omega
    have hsr : r <:+ t := ⟨p ++ [c], by rw [← hp]; simp⟩
    simp only [Zj] at hg
    simp only [Al2] at hw hn
    have hx : x.w ≤ yp := by simp only [yp]; omega
    by_cases c1 : c = 34
    · subst c1
      simp only [if_true] at hg
      have hc : (((34 : UInt8).toNat : Int) = 34) = True := eq_true rfl
      simp (disch := first | omega | assumption) only [h0, h1, h2, hi, hc, go_sem]
      refine goK_ret (zeC hs hx) fun v H1 ⟨hv, o', hs1⟩ => ?_
      subst hv
      have hq := hs1.hq
      cases hok : (zF x).ok
      · rw [hok] at hq
        have e0 : yt may t = none := by unfold yt; rw [hR, ← hg]; simp [hok]
        simp (disch := first | omega | assumption) only [hq, go_sem]
        exact hQ _ _ _ _ nofun rfl (by simp [tupOf, envOf, AV.strip, AV.strip1, zdL, e0])
      · rw [hok] at hq
        have e0 : yt may t = some ((zF x).b, r) := by unfold yt; rw [hR, ← hg]; simp [hok]
        simp (disch := first | omega | assumption) only [hq, ZN, wrap64, go_sem]
        have e1 : (p.length : Int) + 1 + 1 = ((t.length + 1 - r.length : Nat) : Int) := by omega
        exact hQ _ _ _ _ nofun rfl (by simp [tupOf, envOf, AV.strip, AV.strip1, zdL, e0, e1])
    have c1' : ¬ ((c.toNat : Int) = 34) := fun e => c1 (by apply UInt8.toNat_inj.1; show c.toNat = 34; omega)
    rw [if_neg c1] at hg
    by_cases c2 : c = 92
    · subst c2
      simp only [if_true] at hg
      have hc : ¬ (((92 : UInt8).toNat : Int) = 34) := by decide
      have hc2 : (((92 : UInt8).toNat : Int) = 92) = True := eq_true rfl
      have h3 : (((p.length + 1 : Nat) : Int) + 1 ≤ ((t.length + 1 : Nat) : Int)) = True := eq_true (by omega)
      have h4 : (((p.length + 1 : Nat) : Int) + 1).toNat = p.length + 2 := by omega
      have hdr : (a :: t).drop (p.length + 2) = r := by rw [← hp]; simp
      simp (disch := first | omega | assumption) only [h0, h1, h2, hi, hc, hc2, wrap64, h3, h4, hdr, go_sem]
      refine goK_ret (zj4 hs hx r (by simp only [Lim]; omega)) fun v H1 he => ?_
      unfold zeO at he
      cases hm : yJ x r with
      | none =>
        rw [hm] at he hg
        subst he
        simp (disch := first | omega | assumption) only [go_sem]
        exact hQ _ _ _ _ nofun rfl (by simp [tupOf, envOf, AV.strip, AV.strip1, fail hg.symm])
      | some y =>
        obtain ⟨x', t'⟩ := y
        rw [hm] at he hg
        obtain ⟨hv, o3, o4, hs3⟩ := he
        subst hv
        have h5 := zaP hm
        have h6 := zgQ hm
        have h7 : ¬ (((r.length - t'.length : Nat) : Int) = 0) := by omega
        have h8 : ((p.length + 1 : Nat) : Int) + (1 + ((r.length - t'.length : Nat) : Int)) = ((t.length + 1 - t'.length : Nat) : Int) := by omega
        simp (disch := first | omega | assumption) only [h7, wrap64, h8, go_sem]
        exact goJ (hJ (t', x', o3, o4) _ (by simp; omega) ⟨h5.1.trans hsr, ⟨n, by show t'.length < n; omega, hg⟩, by show x'.w + t'.length ≤ t.length; omega, hs3⟩) (by simp (disch := first | omega | assumption) only [go_sem])
    have c2' : ¬ ((c.toNat : Int) = 92) := fun e => c2 (by apply UInt8.toNat_inj.1; show c.toNat = 92; omega)
    rw [if_neg c2] at hg
    simp (disch := first | omega | assumption) only [h0, h1, h2, hi, c1', c2', hf, go_sem]
    refine goK_pure (hmay c) ?_
    cases hm : may c
    · rw [hm] at hg
      simp (disch := first | omega | assumption) only [go_sem]
      exact hQ _ _ _ _ nofun rfl (by simp [tupOf, envOf, AV.strip, AV.strip1, fail hg.symm])
    · rw [hm] at hg
      simp only [if_true] at hg
      simp (disch := first | omega | assumption) only [go_sem]
      refine goK_ret (zeC hs hx) fun v H1 ⟨hv, o', hs1⟩ => ?_
      subst hv
      obtain ⟨hq1, ho1, _, _⟩ := hs1
      have hfw := zau x
      have hpw := zgx x c
      have hbl := zC (zF x).b
      simp (disch := first | omega | assumption) only [hq1, h2, hi, go_sem]
      refine goP_ownS (by rw [hbl]; exact ho1) (by simp [hbl]; omega) (by simp [maxLen, hbl]; omega) fun o3 H2 hs3 => ?_
      have hq2 := zR ho1 hq1 hs3.kept
      simp (disch := first | omega | assumption) only [hq2, wrap64, go_sem]
      have h8 : ((p.length + 1 : Nat) : Int) + 1 = ((t.length + 1 - r.length : Nat) : Int) := by omega
      refine goJ (hJ (r, x.put c, o3, .nil) _ (by simp) ⟨hsr, ⟨n, by show r.length < n; omega, hg⟩, by show (x.put c).w + r.length ≤ t.length; omega, ?_, ?_, rfl, nofun⟩) (by simp (disch := first | omega | assumption) only [h8, go_sem])
      · simp only [upd_same, Sd.put]
        rw [← ya]; rfl
      · simp only [Sd.put, Al5, Al2, Al3]
        exact yf (by simpa [hbl] using hs3.own) hq2
open Go.Lib
theorem zgp (c:UInt8):hexD c≠none→c.toNat<128:=zam (P:=fun c=>hexD c≠none→c.toNat<128) (by decide +kernel) c
theorem zeY (c:UInt8):¬ Lib.indexByte ZG c<0→c.toNat<128∧(zeH.getD (Lib.indexByte ZG c).toNat 0).toNat<128 :=
 zam (P:=fun c=>¬ Lib.indexByte ZG c<0→c.toNat<128∧(zeH.getD (Lib.indexByte ZG c).toNat 0).toNat<128) (by decide +kernel) c
theorem zbc:∀(n:Nat) (t:List UInt8) (u v:Nat),yu n t u=some v→∀ b∈t.take n,b.toNat<128
 | 0,_,_,_,_,b,hb=>by simp at hb
 | n+1,[],_,_,h,_,_=>by cases h
 | n+1,c::t,u,v,h,b,hb=>by
  simp only[yu] at h
  split at h
  ·cases h
  ·rename_i k hk
   rw[Yf] at hb
   rcases List.mem_cons.1 hb with e|e
   ·rw[e];exact zgp c (by rw[hk];simp)
   ·exact zbc n t _ v h b e
structure SInv' (q:Sd) (t:List UInt8):Prop where
 none:q.u=[]→validD (q.b++t)=true
 some:q.u≠[]→validD q.b=true∧validD t=true
theorem zdl {q:Sd} (h:validD q.b=true):validD (zF q).b=true:=by
 unfold zF
 cases hj:zk q.u with
 | none=>simpa using h
 | some s=>exact ZO h (zag _ _ hj)
theorem zfS {q:Sd} (h:q.u=[]):(zF q).b=q.b:=by unfold zF;rw[h];simp[zk]
theorem SInv'.low {q:Sd} {c:UInt8} {t:List UInt8} (h:SInv' q (c::t)) (hc:c.toNat<128):validD q.b=true∧validD t=true:=by
 by_cases hu:q.u=[]
 ·exact YD hc (h.none hu)
 ·obtain⟨h1,h2⟩:=h.some hu
  rw[validD_cons c t hc] at h2
  exact⟨h1,h2⟩
theorem SInv'.put {q:Sd} {c:UInt8} {t:List UInt8} (h:SInv' q (c::t)):SInv' (q.put c) t:=by
 refine⟨fun _=>?_,fun e=>absurd rfl e⟩
 show validD (((zF q).b++[c])++t)=true
 rw[zbw]
 by_cases hu:q.u=[]
 ·rw[zfS hu];exact h.none hu
 ·obtain⟨h1,h2⟩:=h.some hu
  exact ZO (zdl h1) h2
theorem zfJ {q q':Sd} {t t':List UInt8} (h:yJ q t=some (q',t')) (hb:validD q.b=true) (ht:validD t=true):SInv' q' t':=by
 cases t with
 | nil=>cases h
 | cons c t =>
  simp only[yJ] at h
  split at h
  ·rename_i hc
   cases hu:yD t with
   | none=>simp[hu] at h
   | some u =>
    simp only[hu,zK,Al1,Al8] at h
    obtain⟨rfl,rfl⟩:=h
    rw[validD_cons c t (by rw[hc];decide)] at ht
    have:=validD_ascii 4 t (zbc 4 t 0 u hu)
    exact⟨fun e=>by simp at e,fun _=>⟨hb,by rw[← this];exact ht⟩⟩
  ·split at h
   ·cases h
   ·rename_i hk
    simp only[Al1,Al8] at h
    obtain⟨rfl,rfl⟩:=h
    have h1:=zeY c hk
    rw[validD_cons c t h1.1] at ht
    refine⟨fun _=>?_,fun e=>absurd rfl e⟩
    show validD (((zF q).b++[_])++t)=true
    rw[zbw]
    refine ZO (zdl hb) ?_
    rw[List.singleton_append,validD_cons _ _ h1.2];exact ht
theorem zah {may:UInt8→Bool}:∀(n:Nat) (t:List UInt8) (q q':Sd) (t':List UInt8),Zj may n t q=some (q',t')→SInv' q t→validD q'.b=true∧validD t'=true
 | 0,_,_,_,_,h,_=>by cases h
 | _+1,[],_,_,_,h,_=>by cases h
 | n+1,c::t,q,q',t',h,hi=>by
  simp only[Zj] at h
  split at h
  ·rename_i hc
   simp only[Al1,Al8] at h
   obtain⟨rfl,rfl⟩:=h
   obtain⟨h1,h2⟩:=hi.low (by rw[hc];decide)
   exact⟨zdl h1,h2⟩
  ·split at h
   ·rename_i hc
    cases he:yJ q t with
    | none=>simp[he] at h
    | some x =>
     obtain⟨q1,t1⟩:=x
     simp only[he] at h
     obtain⟨h1,h2⟩:=hi.low (by rw[hc];decide)
     exact zah n t1 q1 q' t' h (zfJ he h1 h2)
   ·split at h
    ·exact zah n t _ q' t' h hi.put
    ·cases h
theorem zem {may:UInt8→Bool} {t t' b:List UInt8} (h:yt may t=some (b,t')) (hv:validD t=true):validD b=true∧validD t'=true:=by
 unfold yt at h
 split at h
 ·rename_i q t1 hq
  split at h
  ·cases h;exact zah _ _ _ _ _ hq ⟨fun _=>hv,fun e=>absurd rfl e⟩
  ·cases h
 ·cases h
end Go.Proofs.YtaielcdfcgpbiaaGreatDoor
namespace Go.Proofs.YtaielcdfcgpbiaaGreatDoor
open Go.Ab
theorem yo {n:Nat} (h:n<18446744073709551616):(BitVec.ofInt 64 (n:Int)).toNat=n:=by
 rw[BitVec.toNat_ofInt];omega
theorem Yb {n:Nat} (h:n<9223372036854775808):IntKind.wrap .i64 (n:Int)=n:=wrap64 (by omega) (by omega)
theorem zdh {n:Nat} (j:Nat) (h:n<9223372036854775808) (hj:2 ^ j-1<9223372036854775808):IntKind.wrap .i64 ((BitVec.ofInt IntKind.i64.bits (n:Int) &&& BitVec.ofInt IntKind.i64.bits ((2 ^ j-1:Nat):Int)).toNat:Int)=((n % 2 ^ j:Nat):Int):=by
 have e:(BitVec.ofInt IntKind.i64.bits (n:Int) &&& BitVec.ofInt IntKind.i64.bits ((2 ^ j-1:Nat):Int)).toNat=n % 2 ^ j:=by
  rw[BitVec.toNat_and]
  show (BitVec.ofInt 64 (n:Int)).toNat &&& (BitVec.ofInt 64 ((2 ^ j-1:Nat):Int)).toNat=_
  rw[yo (by omega),yo (by omega),Nat.and_two_pow_sub_one_eq_mod]
 rw[e]
 exact Yb (Nat.lt_of_le_of_lt (Nat.mod_le _ _) h)
theorem zjl {n:Nat} (h:n<9223372036854775808):IntKind.wrap .i64 ((BitVec.ofInt IntKind.i64.bits (n:Int) &&& BitVec.ofInt IntKind.i64.bits 31).toNat:Int)=((n % 32:Nat):Int):=zdh 5 h (by decide)
theorem zjK {n:Nat} (h:n<9223372036854775808):IntKind.wrap .i64 ((BitVec.ofInt IntKind.i64.bits (n:Int) &&& BitVec.ofInt IntKind.i64.bits 15).toNat:Int)=((n % 16:Nat):Int):=zdh 4 h (by decide)
theorem and7 {n:Nat} (h:n<9223372036854775808):IntKind.wrap .i64 ((BitVec.ofInt IntKind.i64.bits (n:Int) &&& BitVec.ofInt IntKind.i64.bits 7).toNat:Int)=((n % 8:Nat):Int):=zdh 3 h (by decide)
theorem zfr {n:Nat} (h:n<9223372036854775808):IntKind.wrap .i64 ((BitVec.ofInt IntKind.i64.bits (n:Int) &&& BitVec.ofInt IntKind.i64.bits 63).toNat:Int)=((n % 64:Nat):Int):=zdh 6 h (by decide)
theorem zkb {a b:Nat} (ha:a<16777216) (hb:b<64):IntKind.wrap .i64 ((BitVec.ofInt IntKind.i64.bits ((a*64:Nat):Int) ||| BitVec.ofInt IntKind.i64.bits (b:Int)).toNat:Int)=((a*64+b:Nat):Int):=by
 have e:(BitVec.ofInt IntKind.i64.bits ((a*64:Nat):Int) ||| BitVec.ofInt IntKind.i64.bits (b:Int)).toNat=a*64+b:=by
  rw[BitVec.toNat_or]
  show (BitVec.ofInt 64 ((a*64:Nat):Int)).toNat ||| (BitVec.ofInt 64 (b:Int)).toNat=_
  rw[yo (by omega),yo (by omega)]
  have:=Nat.two_pow_add_eq_or_of_lt (i:=6) (b:=b) (by omega) a
  rw[show (2:Nat) ^ 6=64 by rfl] at this
  rw[Nat.mul_comm a 64,this]
 rw[e]
 exact Yb (by omega)
def zo (l:List UInt8):Nat×Nat:=if l=[] then (0,0) else if Lib.decodeL l=(65533,1) then (0,0) else Lib.decodeL l
abbrev bt (s:List UInt8) (i k:Nat):Nat:=(s.getD (i+k) 0).toNat
theorem ziq (s:List UInt8) (i k:Nat):bt s i k<256:=(s.getD (i+k) 0).toNat_lt
theorem zfL (s:List UInt8) (i k:Nat):(s.drop i).getD k 0=s.getD (i+k) 0:=by simp[List.getElem?_drop]
theorem zg5 {s:List UInt8} {i:Nat} (h:i<s.length):zo (s.drop i)=if Lib.decodeN (s.length-i) (bt s i 0) (bt s i 1) (bt s i 2) (bt s i 3)=(65533,1) then (0,0) else Lib.decodeN (s.length-i) (bt s i 0) (bt s i 1) (bt s i 2) (bt s i 3):=by
 have hne:s.drop i≠[]:=fun e=>by have:=congrArg List.length e;simp at this;omega
 unfold zo
 rw[if_neg hne,Lib.decodeL_N,zI]
 simp only[zfL]
def cv (v0:Nat) (b:Nat→Nat):Nat→Nat
 | 0=>v0
 | j+1=>cv v0 b j*64+b (j+1) % 64
def zhK (b0 w lo v:Nat):Prop:=(194≤b0∧b0<224∧w=2∧lo=128∧v=b0 % 32)∨(224≤b0∧b0<240∧w=3∧lo=2048∧v=b0 % 16)∨(240≤b0∧b0<245∧w=4∧lo=65536∧v=b0 % 8)
theorem zfA {n b0 b1 b2 b3 w lo v:Nat} (h:zhK b0 w lo v) (hn:n<w):Lib.decodeN n b0 b1 b2 b3=(65533,1):=by
 unfold Lib.decodeN
 rcases h with ⟨h1,h2,rfl,_,_⟩|⟨h1,h2,rfl,_,_⟩|⟨h1,h2,rfl,_,_⟩<;>(repeat' split)<;>first|rfl|(exfalso;omega)
theorem zd1 {n w lo v j:Nat} {b:Nat→Nat} (h:zhK (b 0) w lo v) (h1:1≤j) (hj:j<w) (hc:b j<128∨191<b j):Lib.decodeN n (b 0) (b 1) (b 2) (b 3)=(65533,1):=by
 have hj4:j=1∨j=2∨j=3:=by rcases h with h|h|h<;>omega
 unfold Lib.decodeN
 rcases h with ⟨h2,h3,rfl,_,_⟩|⟨h2,h3,rfl,_,_⟩|⟨h2,h3,rfl,_,_⟩<;>rcases hj4 with rfl|rfl|rfl<;>(repeat' split)<;>first|rfl|(exfalso;omega)
theorem zgS {n w lo v:Nat} {b:Nat→Nat} (h:zhK (b 0) w lo v) (hn:w≤n) (hc:∀ j,1≤j→j<w→128≤b j∧b j≤191) :
  (if Lib.decodeN n (b 0) (b 1) (b 2) (b 3)=(65533,1) then (0,0) else Lib.decodeN n (b 0) (b 1) (b 2) (b 3))=if cv v b (w-1)<lo∨1114111<cv v b (w-1)∨(55296≤cv v b (w-1)∧cv v b (w-1)<57344) then (0,0) else (cv v b (w-1),w):=by
 rcases h with ⟨h2,h3,rfl,rfl,rfl⟩|⟨h2,h3,rfl,rfl,rfl⟩|⟨h2,h3,rfl,rfl,rfl⟩
 ·have c1:=hc 1 (by omega) (by omega)
  have e:Lib.decodeN n (b 0) (b 1) (b 2) (b 3)=(b 0 % 32*64+b 1 % 64,2):=by
   unfold Lib.decodeN
   rw[if_neg (by omega),if_pos (by omega),if_pos (by omega)]
  have e2:cv (b 0 % 32) b (2-1)=b 0 % 32*64+b 1 % 64:=rfl
  rw[e,e2,if_neg (by simp),if_neg (by omega)]
 ·have c1:=hc 1 (by omega) (by omega)
  have c2:=hc 2 (by omega) (by omega)
  have e2:cv (b 0 % 16) b (3-1)=b 0 % 16*4096+b 1 % 64*64+b 2 % 64:=by
   show (b 0 % 16*64+b 1 % 64)*64+b 2 % 64=_
   omega
  rw[e2]
  by_cases g:b 0 % 16*4096+b 1 % 64*64+b 2 % 64≥2048∧(b 0 % 16*4096+b 1 % 64*64+b 2 % 64<55296∨(57344≤b 0 % 16*4096+b 1 % 64*64+b 2 % 64∧b 0 % 16*4096+b 1 % 64*64+b 2 % 64≤1114111))
  ·have e:Lib.decodeN n (b 0) (b 1) (b 2) (b 3)=(b 0 % 16*4096+b 1 % 64*64+b 2 % 64,3):=by
    unfold Lib.decodeN
    rw[if_neg (by omega),if_neg (by omega),if_pos (by omega),if_pos g]
   rw[e,if_neg (by simp),if_neg (by omega)]
  ·have e:Lib.decodeN n (b 0) (b 1) (b 2) (b 3)=(65533,1):=by
    unfold Lib.decodeN
    rw[if_neg (by omega),if_neg (by omega),if_pos (by omega),if_neg g]
   rw[e,if_pos rfl,if_pos (by omega)]
 ·have c1:=hc 1 (by omega) (by omega)
  have c2:=hc 2 (by omega) (by omega)
  have c3:=hc 3 (by omega) (by omega)
  have e2:cv (b 0 % 8) b (4-1)=b 0 % 8*262144+b 1 % 64*4096+b 2 % 64*64+b 3 % 64:=by
   show ((b 0 % 8*64+b 1 % 64)*64+b 2 % 64)*64+b 3 % 64=_
   omega
  rw[e2]
  by_cases g:b 0 % 8*262144+b 1 % 64*4096+b 2 % 64*64+b 3 % 64≥65536∧(b 0 % 8*262144+b 1 % 64*4096+b 2 % 64*64+b 3 % 64<55296∨(57344≤b 0 % 8*262144+b 1 % 64*4096+b 2 % 64*64+b 3 % 64∧b 0 % 8*262144+b 1 % 64*4096+b 2 % 64*64+b 3 % 64≤1114111))
  ·have e:Lib.decodeN n (b 0) (b 1) (b 2) (b 3)=(b 0 % 8*262144+b 1 % 64*4096+b 2 % 64*64+b 3 % 64,4):=by
    unfold Lib.decodeN
    rw[if_neg (by omega),if_neg (by omega),if_neg (by omega),if_pos (by omega),if_pos g]
   rw[e,if_neg (by simp),if_neg (by omega)]
  ·have e:Lib.decodeN n (b 0) (b 1) (b 2) (b 3)=(65533,1):=by
    unfold Lib.decodeN
    rw[if_neg (by omega),if_neg (by omega),if_neg (by omega),if_pos (by omega),if_neg g]
   rw[e,if_pos rfl,if_pos (by omega)]
theorem ziy (s:List UInt8) (i:Nat) (hi:i<s.length) (hs:s.length≤Lim):Pure Tryz.prog 200 [.str s,.int .i64 i] (.tup [.int .i64 (zo (s.drop i)).1,.int .i64 (zo (s.drop i)).2]):=by
 refine Pure.go ir200 ck200 (Al4 _) fun KP Q hQ=>?_
 simp only[Lim] at hs
 have hlt:(i:Int)<s.length:=by omega
 have h0:¬ (i:Int)<0:=by omega
 have hge:¬ (s.length:Int)≤i:=by omega
 rw[zg5 hi] at hQ
 have hb0:=ziq s i 0
 obtain⟨c,hc⟩:∃ c,s.getD i 0=c:=⟨_,rfl⟩
 have hcb:c.toNat=bt s i 0:=by rw[← hc];rfl
 have hcb':(c.toNat:Int)=(bt s i 0:Nat):=by rw[hcb]
 have hw0:IntKind.wrap .i64 ((bt s i 0:Nat):Int)=(bt s i 0:Nat):=Yb (by omega)
 generalize hB:(fun k=>bt s i k)=b at *
 have b0e:bt s i 0=b 0:=by rw[← hB]
 have bk:∀ k,bt s i k=b k:=fun k=>by rw[← hB]
 have hbl:∀ k,b k<256:=fun k=>by rw[← bk];exact ziq s i k
 simp only[bk] at hQ hb0 hcb hcb' hw0
 by_cases a:(b 0:Int)<128
 ·simp(disch:=first|omega|assumption) only[ir200,h0,hlt,hge,hc,hcb',hw0,a,steps,st2,pev,rev,oev,optr,ibin,sbin,ishf,bound,mmAll,mm2,mk,mkArgs,AV.cells,AV.boxable,AV.one,AV.strip1,fillA,fillS,Nat.reduceEqDiff,reduceCtorEq,↓reduceIte,Nat.reduceAdd,Int.reduceNeg,Nat.reduceLeDiff,Int.reduceToNat,Int.reduceEq,Int.reduceLT,Int.reduceLE,Int.reduceAdd,Io,Im,If,Il,Jt,Jf,AC.rg,Jm,Jl,Ja,Fm,Fl,Fa,Imv,Imb,Iai,Iei,Igi,Isi,Ipf,Ipt,Ilb,Iia,Ilt,Iap,Ink,Iln,Ils,Iad,Iex,Ibx,Ing]
  have e:Lib.decodeN (s.length-i) (b 0) (b 1) (b 2) (b 3)=(b 0,1):=by unfold Lib.decodeN;rw[if_pos (by omega)]
  rw[e,if_neg (by simp;omega)] at hQ
  exact hQ _ _ _ _ nofun rfl (by simp[tupOf,envOf,AV.strip,AV.strip1])
 simp(disch:=first|omega|assumption) only[ir200,h0,hlt,hge,hc,hcb',hw0,a,steps,st2,pev,rev,oev,optr,ibin,sbin,ishf,bound,mmAll,mm2,mk,mkArgs,AV.cells,AV.boxable,AV.one,AV.strip1,fillA,fillS,Nat.reduceEqDiff,reduceCtorEq,↓reduceIte,Nat.reduceAdd,Int.reduceNeg,Nat.reduceLeDiff,Int.reduceToNat,Int.reduceEq,Int.reduceLT,Int.reduceLE,Int.reduceAdd,Io,Im,If,Il,Jt,Jf,AC.rg,Jm,Jl,Ja,Fm,Fl,Fa,Imv,Imb,Iai,Iei,Igi,Isi,Ipf,Ipt,Ilb,Iia,Ilt,Iap,Ink,Iln,Ils,Iad,Iex,Ibx,Ing]
 refine goU_cut (fun x:Nat×Nat×Nat=>[(6,.int .i64 x.2.2),(7,.int .i64 x.1),(8,.int .i64 x.2.1)]) (fun x H=>zhK (b 0) x.1 x.2.1 x.2.2∧H=Heap.emp) (fun J hJ=>?_) ?_
 ·simp(disch:=first|omega|assumption) only[steps,st2,pev,rev,oev,optr,ibin,sbin,ishf,bound,mmAll,mm2,mk,mkArgs,AV.cells,AV.boxable,AV.one,AV.strip1,fillA,fillS,Nat.reduceEqDiff,reduceCtorEq,↓reduceIte,Nat.reduceAdd,Int.reduceNeg,Nat.reduceLeDiff,Int.reduceToNat,Int.reduceEq,Int.reduceLT,Int.reduceLE,Int.reduceAdd]
  by_cases a1:(194:Int)≤b 0
  ·by_cases a2:(b 0:Int)<224
   ·have e:=zjl (n:=b 0) (by omega)
    simp(disch:=first|omega|assumption) only[a1,a2,e,steps,st2,pev,rev,oev,optr,ibin,sbin,ishf,bound,mmAll,mm2,mk,mkArgs,AV.cells,AV.boxable,AV.one,AV.strip1,fillA,fillS,Nat.reduceEqDiff,reduceCtorEq,↓reduceIte,Nat.reduceAdd,Int.reduceNeg,Nat.reduceLeDiff,Int.reduceToNat,Int.reduceEq,Int.reduceLT,Int.reduceLE,Int.reduceAdd]
    exact goJ (hJ (2,128,b 0 % 32) _ ⟨.inl ⟨by omega,by omega,rfl,rfl,rfl⟩,rfl⟩) (by simp(disch:=first|omega|assumption) only[steps,st2,pev,rev,oev,optr,ibin,sbin,ishf,bound,mmAll,mm2,mk,mkArgs,AV.cells,AV.boxable,AV.one,AV.strip1,fillA,fillS,Nat.reduceEqDiff,reduceCtorEq,↓reduceIte,Nat.reduceAdd,Int.reduceNeg,Nat.reduceLeDiff,Int.reduceToNat,Int.reduceEq,Int.reduceLT,Int.reduceLE,Int.reduceAdd])
   ·by_cases a3:(b 0:Int)<240
    ·have a4:(224:Int)≤b 0:=by omega
     have e:=zjK (n:=b 0) (by omega)
     simp(disch:=first|omega|assumption) only[a1,a2,a3,a4,e,steps,st2,pev,rev,oev,optr,ibin,sbin,ishf,bound,mmAll,mm2,mk,mkArgs,AV.cells,AV.boxable,AV.one,AV.strip1,fillA,fillS,Nat.reduceEqDiff,reduceCtorEq,↓reduceIte,Nat.reduceAdd,Int.reduceNeg,Nat.reduceLeDiff,Int.reduceToNat,Int.reduceEq,Int.reduceLT,Int.reduceLE,Int.reduceAdd]
     exact goJ (hJ (3,2048,b 0 % 16) _ ⟨.inr (.inl ⟨by omega,by omega,rfl,rfl,rfl⟩),rfl⟩) (by simp(disch:=first|omega|assumption) only[steps,st2,pev,rev,oev,optr,ibin,sbin,ishf,bound,mmAll,mm2,mk,mkArgs,AV.cells,AV.boxable,AV.one,AV.strip1,fillA,fillS,Nat.reduceEqDiff,reduceCtorEq,↓reduceIte,Nat.reduceAdd,Int.reduceNeg,Nat.reduceLeDiff,Int.reduceToNat,Int.reduceEq,Int.reduceLT,Int.reduceLE,Int.reduceAdd])
    ·have a4:(224:Int)≤b 0:=by omega
     have a5:(240:Int)≤b 0:=by omega
     by_cases a6:(b 0:Int)<245
     ·have e:=and7 (n:=b 0) (by omega)
      simp(disch:=first|omega|assumption) only[a1,a2,a3,a4,a5,a6,e,steps,st2,pev,rev,oev,optr,ibin,sbin,ishf,bound,mmAll,mm2,mk,mkArgs,AV.cells,AV.boxable,AV.one,AV.strip1,fillA,fillS,Nat.reduceEqDiff,reduceCtorEq,↓reduceIte,Nat.reduceAdd,Int.reduceNeg,Nat.reduceLeDiff,Int.reduceToNat,Int.reduceEq,Int.reduceLT,Int.reduceLE,Int.reduceAdd]
      exact goJ (hJ (4,65536,b 0 % 8) _ ⟨.inr (.inr ⟨by omega,by omega,rfl,rfl,rfl⟩),rfl⟩) (by simp(disch:=first|omega|assumption) only[steps,st2,pev,rev,oev,optr,ibin,sbin,ishf,bound,mmAll,mm2,mk,mkArgs,AV.cells,AV.boxable,AV.one,AV.strip1,fillA,fillS,Nat.reduceEqDiff,reduceCtorEq,↓reduceIte,Nat.reduceAdd,Int.reduceNeg,Nat.reduceLeDiff,Int.reduceToNat,Int.reduceEq,Int.reduceLT,Int.reduceLE,Int.reduceAdd])
     ·rw[Lib.decodeN_bad _ _ _ _ _ (.inr ⟨by omega,hbl 0⟩),if_pos rfl] at hQ
      simp(disch:=first|omega|assumption) only[a1,a2,a3,a4,a5,a6,steps,st2,pev,rev,oev,optr,ibin,sbin,ishf,bound,mmAll,mm2,mk,mkArgs,AV.cells,AV.boxable,AV.one,AV.strip1,fillA,fillS,Nat.reduceEqDiff,reduceCtorEq,↓reduceIte,Nat.reduceAdd,Int.reduceNeg,Nat.reduceLeDiff,Int.reduceToNat,Int.reduceEq,Int.reduceLT,Int.reduceLE,Int.reduceAdd]
      exact hQ _ _ _ _ nofun rfl (by simp[tupOf,envOf,AV.strip,AV.strip1])
  ·have a2:¬ (224:Int)≤b 0:=by omega
   have a3:¬ (240:Int)≤b 0:=by omega
   rw[Lib.decodeN_bad _ _ _ _ _ (.inl ⟨by omega,by omega⟩),if_pos rfl] at hQ
   simp(disch:=first|omega|assumption) only[a1,a2,a3,steps,st2,pev,rev,oev,optr,ibin,sbin,ishf,bound,mmAll,mm2,mk,mkArgs,AV.cells,AV.boxable,AV.one,AV.strip1,fillA,fillS,Nat.reduceEqDiff,reduceCtorEq,↓reduceIte,Nat.reduceAdd,Int.reduceNeg,Nat.reduceLeDiff,Int.reduceToNat,Int.reduceEq,Int.reduceLT,Int.reduceLE,Int.reduceAdd]
   exact hQ _ _ _ _ nofun rfl (by simp[tupOf,envOf,AV.strip,AV.strip1])
 rintro⟨w,lo,v⟩ H ⟨hL,rfl⟩
 simp only at hL
 have hv:v<32∧2≤w∧w≤4∧lo≤65536:=by rcases hL with h|h|h<;>omega
 by_cases g:w≤s.length-i
 case neg =>
  have g':(s.length:Int)-i<w:=by omega
  rw[zfA hL (by omega),if_pos rfl] at hQ
  simp(disch:=first|omega|assumption) only[wrap64,g',steps,st2,pev,rev,oev,optr,ibin,sbin,ishf,bound,mmAll,mm2,mk,mkArgs,AV.cells,AV.boxable,AV.one,AV.strip1,fillA,fillS,Nat.reduceEqDiff,reduceCtorEq,↓reduceIte,Nat.reduceAdd,Int.reduceNeg,Nat.reduceLeDiff,Int.reduceToNat,Int.reduceEq,Int.reduceLT,Int.reduceLE,Int.reduceAdd]
  exact hQ _ _ _ _ nofun rfl (by simp[tupOf,envOf,AV.strip,AV.strip1])
 have g':¬ (s.length:Int)-i<w:=by omega
 simp(disch:=first|omega|assumption) only[wrap64,g',steps,st2,pev,rev,oev,optr,ibin,sbin,ishf,bound,mmAll,mm2,mk,mkArgs,AV.cells,AV.boxable,AV.one,AV.strip1,fillA,fillS,Nat.reduceEqDiff,reduceCtorEq,↓reduceIte,Nat.reduceAdd,Int.reduceNeg,Nat.reduceLeDiff,Int.reduceToNat,Int.reduceEq,Int.reduceLT,Int.reduceLE,Int.reduceAdd]
 refine goL_st (fun j:Nat=>[(6,.int .i64 (cv v b j)),(9,.int .i64 (j+1:Nat))]) (fun j H=>j+1≤w∧(∀ k,1≤k→k<j+1→128≤b k∧b k≤191)∧cv v b j<32*64 ^ j) (fun j=>w-j) 0 (by simp(disch:=first|omega|assumption) only[cv,steps,st2,pev,rev,oev,optr,ibin,sbin,ishf,bound,mmAll,mm2,mk,mkArgs,AV.cells,AV.boxable,AV.one,AV.strip1,fillA,fillS,Nat.reduceEqDiff,reduceCtorEq,↓reduceIte,Nat.reduceAdd,Int.reduceNeg,Nat.reduceLeDiff,Int.reduceToNat,Int.reduceEq,Int.reduceLT,Int.reduceLE,Int.reduceAdd]) ⟨by omega,fun k h1 h2=>by omega,by simp[cv];omega⟩ ?_
 rintro j H J ⟨hj,hcont,hcv⟩ hJ
 have hcv2:cv v b j<8388608:=by
  have:j=0∨j=1∨j=2∨j=3:=by omega
  rcases this with rfl|rfl|rfl|rfl<;>omega
 by_cases hjw:j+1<w
 ·have hjw':((j+1:Nat):Int)<w:=by omega
  have hto:((i:Int)+((j+1:Nat):Int)).toNat=i+(j+1):=by omega
  have hi1:(0:Int)≤(i:Int)+((j+1:Nat):Int):=by omega
  have hi2:(i:Int)+((j+1:Nat):Int)<s.length:=by omega
  obtain⟨d,hd⟩:∃ d,s.getD (i+(j+1)) 0=d:=⟨_,rfl⟩
  have hdb:(d.toNat:Int)=(b (j+1):Nat):=by rw[← hd,← bk]
  have hb1:=hbl (j+1)
  have hw1:IntKind.wrap .i64 ((b (j+1):Nat):Int)=(b (j+1):Nat):=Yb (by omega)
  simp(disch:=first|omega|assumption) only[hjw',wrap64,hto,hi1,hi2,hd,hdb,hw1,steps,st2,pev,rev,oev,optr,ibin,sbin,ishf,bound,mmAll,mm2,mk,mkArgs,AV.cells,AV.boxable,AV.one,AV.strip1,fillA,fillS,Nat.reduceEqDiff,reduceCtorEq,↓reduceIte,Nat.reduceAdd,Int.reduceNeg,Nat.reduceLeDiff,Int.reduceToNat,Int.reduceEq,Int.reduceLT,Int.reduceLE,Int.reduceAdd]
  by_cases a1:((b (j+1):Nat):Int)<128
  ·rw[zd1 hL (by omega) hjw (.inl (by omega)),if_pos rfl] at hQ
   simp(disch:=first|omega|assumption) only[a1,steps,st2,pev,rev,oev,optr,ibin,sbin,ishf,bound,mmAll,mm2,mk,mkArgs,AV.cells,AV.boxable,AV.one,AV.strip1,fillA,fillS,Nat.reduceEqDiff,reduceCtorEq,↓reduceIte,Nat.reduceAdd,Int.reduceNeg,Nat.reduceLeDiff,Int.reduceToNat,Int.reduceEq,Int.reduceLT,Int.reduceLE,Int.reduceAdd]
   exact hQ _ _ _ _ nofun rfl (by simp[tupOf,envOf,AV.strip,AV.strip1])
  by_cases a2:(191:Int)<((b (j+1):Nat):Int)
  ·rw[zd1 hL (by omega) hjw (.inr (by omega)),if_pos rfl] at hQ
   simp(disch:=first|omega|assumption) only[a1,a2,steps,st2,pev,rev,oev,optr,ibin,sbin,ishf,bound,mmAll,mm2,mk,mkArgs,AV.cells,AV.boxable,AV.one,AV.strip1,fillA,fillS,Nat.reduceEqDiff,reduceCtorEq,↓reduceIte,Nat.reduceAdd,Int.reduceNeg,Nat.reduceLeDiff,Int.reduceToNat,Int.reduceEq,Int.reduceLT,Int.reduceLE,Int.reduceAdd]
   exact hQ _ _ _ _ nofun rfl (by simp[tupOf,envOf,AV.strip,AV.strip1])
  have e1:=zfr (n:=b (j+1)) (by omega)
  have e2:IntKind.wrap .i64 ((cv v b j:Int)*2 ^ (min 6 IntKind.i64.bits))=((cv v b j*64:Nat):Int):=by
   have e3:(2:Int) ^ (min 6 IntKind.i64.bits)=64:=by decide
   rw[e3,wrap64 (by omega) (by omega)];omega
  have e4:=zkb (a:=cv v b j) (b:=b (j+1) % 64) (by omega) (Nat.mod_lt _ (by omega))
  simp(disch:=first|omega|assumption) only[a1,a2,e1,e2,e4,steps,st2,pev,rev,oev,optr,ibin,sbin,ishf,bound,mmAll,mm2,mk,mkArgs,AV.cells,AV.boxable,AV.one,AV.strip1,fillA,fillS,Nat.reduceEqDiff,reduceCtorEq,↓reduceIte,Nat.reduceAdd,Int.reduceNeg,Nat.reduceLeDiff,Int.reduceToNat,Int.reduceEq,Int.reduceLT,Int.reduceLE,Int.reduceAdd]
  have hpow:32*64 ^ (j+1)=64*(32*64 ^ j):=by rw[Nat.pow_succ];omega
  exact goJ (hJ (j+1) _ (by omega) ⟨by omega,fun k h1 h2=>by
   rcases Nat.lt_or_ge k (j+1) with h3|h3
   ·exact hcont k h1 h3
   ·have:k=j+1:=by omega
    subst this
    omega,by simp only[cv];omega⟩) (by simp(disch:=first|omega|assumption) only[wrap64,cv,Int.natCast_add,Int.natCast_one,steps,st2,pev,rev,oev,optr,ibin,sbin,ishf,bound,mmAll,mm2,mk,mkArgs,AV.cells,AV.boxable,AV.one,AV.strip1,fillA,fillS,Nat.reduceEqDiff,reduceCtorEq,↓reduceIte,Nat.reduceAdd,Int.reduceNeg,Nat.reduceLeDiff,Int.reduceToNat,Int.reduceEq,Int.reduceLT,Int.reduceLE,Int.reduceAdd])
 ·have hjw':¬ ((j+1:Nat):Int)<w:=by omega
  have hjw2:j=w-1:=by omega
  subst hjw2
  rw[zgS hL g (fun k h1 h2=>hcont k h1 (by omega))] at hQ
  have hcvB:(IntKind.wrap .i64 ((cv v b (w-1):Nat):Int))=(cv v b (w-1):Nat):=Yb (by omega)
  by_cases x1:((cv v b (w-1):Nat):Int)<lo
  ·rw[if_pos (.inl (by omega))] at hQ
   simp(disch:=first|omega|assumption) only[hjw',x1,steps,st2,pev,rev,oev,optr,ibin,sbin,ishf,bound,mmAll,mm2,mk,mkArgs,AV.cells,AV.boxable,AV.one,AV.strip1,fillA,fillS,Nat.reduceEqDiff,reduceCtorEq,↓reduceIte,Nat.reduceAdd,Int.reduceNeg,Nat.reduceLeDiff,Int.reduceToNat,Int.reduceEq,Int.reduceLT,Int.reduceLE,Int.reduceAdd]
   exact hQ _ _ _ _ nofun rfl (by simp[tupOf,envOf,AV.strip,AV.strip1])
  by_cases x2:(1114111:Int)<((cv v b (w-1):Nat):Int)
  ·rw[if_pos (.inr (.inl (by omega)))] at hQ
   simp(disch:=first|omega|assumption) only[hjw',x1,x2,steps,st2,pev,rev,oev,optr,ibin,sbin,ishf,bound,mmAll,mm2,mk,mkArgs,AV.cells,AV.boxable,AV.one,AV.strip1,fillA,fillS,Nat.reduceEqDiff,reduceCtorEq,↓reduceIte,Nat.reduceAdd,Int.reduceNeg,Nat.reduceLeDiff,Int.reduceToNat,Int.reduceEq,Int.reduceLT,Int.reduceLE,Int.reduceAdd]
   exact hQ _ _ _ _ nofun rfl (by simp[tupOf,envOf,AV.strip,AV.strip1])
  by_cases x3:(55296:Int)≤((cv v b (w-1):Nat):Int)
  ·by_cases x4:((cv v b (w-1):Nat):Int)<57344
   ·rw[if_pos (.inr (.inr ⟨by omega,by omega⟩))] at hQ
    simp(disch:=first|omega|assumption) only[hjw',x1,x2,x3,x4,steps,st2,pev,rev,oev,optr,ibin,sbin,ishf,bound,mmAll,mm2,mk,mkArgs,AV.cells,AV.boxable,AV.one,AV.strip1,fillA,fillS,Nat.reduceEqDiff,reduceCtorEq,↓reduceIte,Nat.reduceAdd,Int.reduceNeg,Nat.reduceLeDiff,Int.reduceToNat,Int.reduceEq,Int.reduceLT,Int.reduceLE,Int.reduceAdd]
    exact hQ _ _ _ _ nofun rfl (by simp[tupOf,envOf,AV.strip,AV.strip1])
   ·rw[if_neg (by omega)] at hQ
    simp(disch:=first|omega|assumption) only[hjw',x1,x2,x3,x4,steps,st2,pev,rev,oev,optr,ibin,sbin,ishf,bound,mmAll,mm2,mk,mkArgs,AV.cells,AV.boxable,AV.one,AV.strip1,fillA,fillS,Nat.reduceEqDiff,reduceCtorEq,↓reduceIte,Nat.reduceAdd,Int.reduceNeg,Nat.reduceLeDiff,Int.reduceToNat,Int.reduceEq,Int.reduceLT,Int.reduceLE,Int.reduceAdd]
    exact hQ _ _ _ _ nofun rfl (by simp[tupOf,envOf,AV.strip,AV.strip1])
  ·rw[if_neg (by omega)] at hQ
   simp(disch:=first|omega|assumption) only[hjw',x1,x2,x3,steps,st2,pev,rev,oev,optr,ibin,sbin,ishf,bound,mmAll,mm2,mk,mkArgs,AV.cells,AV.boxable,AV.one,AV.strip1,fillA,fillS,Nat.reduceEqDiff,reduceCtorEq,↓reduceIte,Nat.reduceAdd,Int.reduceNeg,Nat.reduceLeDiff,Int.reduceToNat,Int.reduceEq,Int.reduceLT,Int.reduceLE,Int.reduceAdd]
   exact hQ _ _ _ _ nofun rfl (by simp[tupOf,envOf,AV.strip,AV.strip1])
def cZ (l:List Int):List (List AV):=l.map fun n=>[.int .i64 n]
theorem zhj (l:List Int):(cZ l).length=l.length:=by simp[cZ]
def ZB:Nat→List UInt8→List Int
 | 0,_=>[]
 | k+1,l=>if l=[] then [] else ((zo l).1:Int)::ZB k (l.drop (zo l).2)
theorem zeA (k:Nat):ZB k []=[]:=by cases k<;>simp[ZB]
def Ys (s:List UInt8):List Int:=if Lib.validD s then ZB s.length s else []
theorem zcN {l:List UInt8} (hne:l≠[]) (h:(zo l).2=0):Lib.validD l=false:=by
 have hw:=Lib.decodeL_width l
 unfold zo at h
 rw[if_neg hne] at h
 split at h
 ·rename_i e
  rw[Lib.validD_step l hne,e];simp
 ·omega
theorem zar {l:List UInt8} (hne:l≠[]) (h:(zo l).2≠0):Lib.validD l=Lib.validD (l.drop (zo l).2)∧(zo l).2≤l.length:=by
 unfold zo at h ⊢
 rw[if_neg hne] at h ⊢
 split at h
 ·simp at h
 ·rename_i e
  rw[if_neg e]
  refine⟨?_,Lib.decodeL_le l hne⟩
  rw[Lib.validD_step l hne,if_neg]
  rintro⟨a,b⟩
  exact e (Prod.ext a b)
theorem ziJ (s:List UInt8) (hs:s.length≤Lim):Pure Tryz.prog 152 [.str s] (.tup [.sl .no 1 (cZ (Ys s)),.bool (Lib.validD s)]):=by
 refine Pure.go ir152 ck152 (Al4 _) fun KP Q hQ=>?_
 have hs':=hs
 simp only[Lim] at hs
 simp(disch:=first|omega|assumption) only[ir152,go_sem]
 refine goL_st (fun x:Own×List Int×Nat=>[(4,.sl x.1 1 (cZ x.2.1)),(5,.int .i64 x.2.2)])
  (fun x H=>x.2.2≤s.length∧x.2.1.length≤x.2.2∧ZB s.length s=x.2.1++ZB (s.length-x.2.1.length) (s.drop x.2.2)∧Lib.validD s=Lib.validD (s.drop x.2.2)∧OwnS Heap.emp .nil H x.1 x.2.1.length 1) (fun x=>s.length-x.2.2) (.nil,[],0) (by simp(disch:=first|omega|assumption) only[cZ,go_sem]) ⟨by simp,by simp,by simp,by simp,OwnS.refl rfl⟩ ?_
 rintro⟨o,acc,i⟩ H J ⟨hi,hai,hc,hv,hs1⟩ hJ
 simp only at hi hai hc hv hs1
 by_cases hlt:i<s.length
 case neg =>
  have hlt':¬ (i:Int)<s.length:=by omega
  rw[List.drop_of_length_le (by omega)] at hc hv
  rw[zeA,List.append_nil] at hc
  rw[Lib.validD_nil] at hv
  simp(disch:=first|omega|assumption) only[hlt',go_sem]
  exact hQ _ _ _ _ nofun rfl (by simp[tupOf,envOf,AV.strip,AV.strip1,Ys,hv,hc])
 have hlt':(i:Int)<s.length:=by omega
 have hne:s.drop i≠[]:=fun e=>by have:=congrArg List.length e;simp at this;omega
 have hcl:=zhj acc
 simp(disch:=first|omega|assumption) only[hlt',go_sem]
 refine goK_pure (Pure.low (ziy s i hlt hs')) ?_
 by_cases h0:(zo (s.drop i)).2=0
 ·rw[zcN hne h0] at hv
  have h0':((zo (s.drop i)).2:Int)=0:=by omega
  simp(disch:=first|omega|assumption) only[h0',go_sem]
  exact hQ _ _ _ _ nofun rfl (by simp[tupOf,envOf,AV.strip,AV.strip1,Ys,hv,cZ])
 ·obtain⟨g1,g2⟩:=zar hne h0
  rw[zI] at g2
  rw[List.drop_drop] at g1
  have h0':¬ ((zo (s.drop i)).2:Int)=0:=by omega
  simp(disch:=first|omega|assumption) only[h0',go_sem]
  refine goP_ownS (by rw[hcl];exact hs1.own) ?_ ?_ fun o' H' hs2=>?_
  ·simp only[hcl,Al2,Al3];omega
  ·simp only[hcl,Al2,Al3,maxLen];omega
  simp(disch:=first|omega|assumption) only[wrap64,go_sem]
  refine goJ (hJ (o',acc++[((zo (s.drop i)).1:Int)],i+(zo (s.drop i)).2) H' (by simp only;omega) ⟨by simp only;omega,by simp only[Al5,Al2,Al3];omega,?_,by rw[hv,g1],hs1.trans (by simpa[hcl] using hs2)⟩) (by simp(disch:=first|omega|assumption) only[cZ,List.map_append,Int.natCast_add,go_sem])
  rw[hc]
  obtain⟨k,hk⟩:∃ k,s.length-acc.length=k+1:=⟨s.length-acc.length-1,by omega⟩
  have hk2:s.length-(acc++[((zo (s.drop i)).1:Int)]).length=k:=by simp only[Al5,Al2,Al3];omega
  simp only[hk,hk2,ZB]
  rw[if_neg hne,List.drop_drop]
  simp
open Go.Lib
theorem ziN (n:Nat):(n:Int).fdiv (2 ^ min 6 IntKind.i64.bits)=((n / 64:Nat):Int):=by
 show (n:Int).fdiv 64=_
 rw[Int.fdiv_eq_ediv_of_nonneg _ (by omega)];omega
theorem zik (n:Nat):(n:Int).fdiv (2 ^ min 12 IntKind.i64.bits)=((n / 4096:Nat):Int):=by
 show (n:Int).fdiv 4096=_
 rw[Int.fdiv_eq_ediv_of_nonneg _ (by omega)];omega
theorem zjp (n:Nat):(n:Int).fdiv (2 ^ min 18 IntKind.i64.bits)=((n / 262144:Nat):Int):=by
 show (n:Int).fdiv 262144=_
 rw[Int.fdiv_eq_ediv_of_nonneg _ (by omega)];omega
theorem orT:∀ x:Fin 64,(∀(b:Nat),b=128∨(b=192∧x.val<32)∨(b=224∧x.val<16)∨(b=240∧x.val<8)→IntKind.wrap .u8 (IntKind.wrap .i64 ((BitVec.ofInt IntKind.i64.bits (b:Int) ||| BitVec.ofInt IntKind.i64.bits ((x.val:Nat):Int)).toNat:Int))=((UInt8.ofNat (b+x.val)).toNat:Int)):=by
 intro x b hb
 have h1:∀ x:Fin 64,IntKind.wrap .u8 (IntKind.wrap .i64 ((BitVec.ofInt IntKind.i64.bits 128 ||| BitVec.ofInt IntKind.i64.bits ((x.val:Nat):Int)).toNat:Int))=((UInt8.ofNat (128+x.val)).toNat:Int):=by decide +kernel
 have h2:∀ x:Fin 32,IntKind.wrap .u8 (IntKind.wrap .i64 ((BitVec.ofInt IntKind.i64.bits 192 ||| BitVec.ofInt IntKind.i64.bits ((x.val:Nat):Int)).toNat:Int))=((UInt8.ofNat (192+x.val)).toNat:Int):=by decide +kernel
 have h3:∀ x:Fin 16,IntKind.wrap .u8 (IntKind.wrap .i64 ((BitVec.ofInt IntKind.i64.bits 224 ||| BitVec.ofInt IntKind.i64.bits ((x.val:Nat):Int)).toNat:Int))=((UInt8.ofNat (224+x.val)).toNat:Int):=by decide +kernel
 have h4:∀ x:Fin 8,IntKind.wrap .u8 (IntKind.wrap .i64 ((BitVec.ofInt IntKind.i64.bits 240 ||| BitVec.ofInt IntKind.i64.bits ((x.val:Nat):Int)).toNat:Int))=((UInt8.ofNat (240+x.val)).toNat:Int):=by decide +kernel
 rcases hb with rfl|⟨rfl,h⟩|⟨rfl,h⟩|⟨rfl,h⟩
 ·exact h1 x
 ·exact h2 ⟨x.val,h⟩
 ·exact h3 ⟨x.val,h⟩
 ·exact h4 ⟨x.val,h⟩
theorem zeT {m:Nat} (h:m<64):IntKind.wrap .u8 (IntKind.wrap .i64 ((BitVec.ofInt IntKind.i64.bits 128 ||| BitVec.ofInt IntKind.i64.bits (m:Int)).toNat:Int))=((UInt8.ofNat (128+m)).toNat:Int):=orT ⟨m,h⟩ 128 (.inl rfl)
theorem zjP {m:Nat} (h:m<32):IntKind.wrap .u8 (IntKind.wrap .i64 ((BitVec.ofInt IntKind.i64.bits 192 ||| BitVec.ofInt IntKind.i64.bits (m:Int)).toNat:Int))=((UInt8.ofNat (192+m)).toNat:Int):=orT ⟨m,by omega⟩ 192 (.inr (.inl ⟨rfl,h⟩))
theorem zjX {m:Nat} (h:m<16):IntKind.wrap .u8 (IntKind.wrap .i64 ((BitVec.ofInt IntKind.i64.bits 224 ||| BitVec.ofInt IntKind.i64.bits (m:Int)).toNat:Int))=((UInt8.ofNat (224+m)).toNat:Int):=orT ⟨m,by omega⟩ 224 (.inr (.inr (.inl ⟨rfl,h⟩)))
theorem zjV {m:Nat} (h:m<8):IntKind.wrap .u8 (IntKind.wrap .i64 ((BitVec.ofInt IntKind.i64.bits 240 ||| BitVec.ofInt IntKind.i64.bits (m:Int)).toNat:Int))=((UInt8.ofNat (240+m)).toNat:Int):=orT ⟨m,by omega⟩ 240 (.inr (.inr (.inr ⟨rfl,h⟩)))
theorem zie (n:Nat) (h:n≤1114111):Pure Tryz.prog 204 [.int .i64 n] (.str (ym n)):=by
 refine Pure.go ir204 ck204 (Al4 _) fun KP Q hQ=>?_
 by_cases h1:n<128
 ·have h1':((n:Int)<128)=True:=eq_true (by omega)
  have e:IntKind.wrap .u8 (n:Int)=((UInt8.ofNat n).toNat:Int):=by rw[wr8,UInt8.toNat_ofNat']
  have e2:byts [[.int .u8 (UInt8.ofNat n).toNat]]=some [UInt8.ofNat n]:=ZN [_]
  simp(disch:=first|omega|assumption) only[ir204,h1',e,e2,steps,st2,pev,rev,oev,optr,ibin,sbin,ishf,bound,mmAll,mm2,mk,mkArgs,AV.cells,AV.boxable,AV.one,AV.strip1,fillA,fillS,Nat.reduceEqDiff,reduceCtorEq,↓reduceIte,Nat.reduceAdd,Int.reduceNeg,Nat.reduceLeDiff,Int.reduceToNat,Int.reduceEq,Int.reduceLT,Int.reduceLE,Int.reduceAdd,Io,Im,If,Il,Jt,Jf,AC.rg,Jm,Jl,Ja,Fm,Fl,Fa,Imv,Imb,Iai,Iei,Igi,Isi,Ipf,Ipt,Ilb,Iia,Ilt,Iap,Ink,Iln,Ils,Iad,Iex,Ibx,Ing]
  exact hQ _ _ _ _ nofun rfl (by simp[tupOf,envOf,AV.strip,AV.strip1,ym,show n≤127 by omega])
 have h1':¬ ((n:Int)<128):=by omega
 have a0:=zfr (n:=n) (by omega)
 by_cases h2:n<2048
 ·have h2':((n:Int)<2048)=True:=eq_true (by omega)
  have e2:byts [[.int .u8 (UInt8.ofNat (192+n / 64)).toNat],[.int .u8 (UInt8.ofNat (128+n % 64)).toNat]]=some [UInt8.ofNat (192+n / 64),UInt8.ofNat (128+n % 64)]:=ZN [_,_]
  have o1:=zjP (m:=n / 64) (by omega)
  have o2:=zeT (m:=n % 64) (by omega)
  simp(disch:=first|omega|assumption) only[ir204,h1',h2',ziN,a0,o1,o2,e2,steps,st2,pev,rev,oev,optr,ibin,sbin,ishf,bound,mmAll,mm2,mk,mkArgs,AV.cells,AV.boxable,AV.one,AV.strip1,fillA,fillS,Nat.reduceEqDiff,reduceCtorEq,↓reduceIte,Nat.reduceAdd,Int.reduceNeg,Nat.reduceLeDiff,Int.reduceToNat,Int.reduceEq,Int.reduceLT,Int.reduceLE,Int.reduceAdd,Io,Im,If,Il,Jt,Jf,AC.rg,Jm,Jl,Ja,Fm,Fl,Fa,Imv,Imb,Iai,Iei,Igi,Isi,Ipf,Ipt,Ilb,Iia,Ilt,Iap,Ink,Iln,Ils,Iad,Iex,Ibx,Ing]
  exact hQ _ _ _ _ nofun rfl (by simp[tupOf,envOf,AV.strip,AV.strip1,ym,show ¬ n≤127 by omega,show n≤2047 by omega])
 have h2':¬ ((n:Int)<2048):=by omega
 have a1:=zfr (n:=n / 64) (by omega)
 have o2:=zeT (m:=n % 64) (by omega)
 have o3:=zeT (m:=n / 64 % 64) (by omega)
 by_cases h3:n<65536
 ·have h3':((n:Int)<65536)=True:=eq_true (by omega)
  have e2:byts [[.int .u8 (UInt8.ofNat (224+n / 4096)).toNat],[.int .u8 (UInt8.ofNat (128+n / 64 % 64)).toNat],[.int .u8 (UInt8.ofNat (128+n % 64)).toNat]]=some [UInt8.ofNat (224+n / 4096),UInt8.ofNat (128+n / 64 % 64),UInt8.ofNat (128+n % 64)]:=ZN [_,_,_]
  have o1:=zjX (m:=n / 4096) (by omega)
  simp(disch:=first|omega|assumption) only[ir204,h1',h2',h3',ziN,zik,a0,a1,o1,o2,o3,e2,steps,st2,pev,rev,oev,optr,ibin,sbin,ishf,bound,mmAll,mm2,mk,mkArgs,AV.cells,AV.boxable,AV.one,AV.strip1,fillA,fillS,Nat.reduceEqDiff,reduceCtorEq,↓reduceIte,Nat.reduceAdd,Int.reduceNeg,Nat.reduceLeDiff,Int.reduceToNat,Int.reduceEq,Int.reduceLT,Int.reduceLE,Int.reduceAdd,Io,Im,If,Il,Jt,Jf,AC.rg,Jm,Jl,Ja,Fm,Fl,Fa,Imv,Imb,Iai,Iei,Igi,Isi,Ipf,Ipt,Ilb,Iia,Ilt,Iap,Ink,Iln,Ils,Iad,Iex,Ibx,Ing]
  exact hQ _ _ _ _ nofun rfl (by simp[tupOf,envOf,AV.strip,AV.strip1,ym,show ¬ n≤127 by omega,show ¬ n≤2047 by omega,show n≤65535 by omega])
 have h3':¬ ((n:Int)<65536):=by omega
 have a2:=zfr (n:=n / 4096) (by omega)
 have o4:=zeT (m:=n / 4096 % 64) (by omega)
 have o1:=zjV (m:=n / 262144) (by omega)
 have e2:byts [[.int .u8 (UInt8.ofNat (240+n / 262144)).toNat],[.int .u8 (UInt8.ofNat (128+n / 4096 % 64)).toNat],[.int .u8 (UInt8.ofNat (128+n / 64 % 64)).toNat],[.int .u8 (UInt8.ofNat (128+n % 64)).toNat]]=some [UInt8.ofNat (240+n / 262144),UInt8.ofNat (128+n / 4096 % 64),UInt8.ofNat (128+n / 64 % 64),UInt8.ofNat (128+n % 64)]:=ZN [_,_,_,_]
 simp(disch:=first|omega|assumption) only[ir204,h1',h2',h3',ziN,zik,zjp,a0,a1,a2,o1,o2,o3,o4,e2,steps,st2,pev,rev,oev,optr,ibin,sbin,ishf,bound,mmAll,mm2,mk,mkArgs,AV.cells,AV.boxable,AV.one,AV.strip1,fillA,fillS,Nat.reduceEqDiff,reduceCtorEq,↓reduceIte,Nat.reduceAdd,Int.reduceNeg,Nat.reduceLeDiff,Int.reduceToNat,Int.reduceEq,Int.reduceLT,Int.reduceLE,Int.reduceAdd,Io,Im,If,Il,Jt,Jf,AC.rg,Jm,Jl,Ja,Fm,Fl,Fa,Imv,Imb,Iai,Iei,Igi,Isi,Ipf,Ipt,Ilb,Iia,Ilt,Iap,Ink,Iln,Ils,Iad,Iex,Ibx,Ing]
 exact hQ _ _ _ _ nofun rfl (by simp[tupOf,envOf,AV.strip,AV.strip1,ym,show ¬ n≤127 by omega,show ¬ n≤2047 by omega,show ¬ n≤65535 by omega])
theorem zgK (us:List Nat) (hl:us.length≤68719476736):Pure Tryz.prog 203 [.sl .no 1 (cU us)] (.tup [.str ((zk us).getD []),.bool (zk us).isSome]):=by
 refine Pure.go ir203 ck203 (Al4 _) fun KP Q hQ=>?_
 have hll:=zdf us
 simp(disch:=first|omega|assumption) only[ir203,go_sem]
 refine goL_st (fun s:List Nat×List Nat×List UInt8=>[(4,.str s.2.2),(5,.int .i64 s.1.length)]) (fun s H=>us=s.1++s.2.1∧zk us=(zk s.2.1).map (s.2.2++·)∧s.2.2.length≤2*s.1.length*2) (fun s=>s.2.1.length) ([],us,[]) (by simp(disch:=first|omega|assumption) only[go_sem]) ⟨rfl,by cases zk us<;>rfl,by simp⟩ ?_
 rintro⟨done,rest,out⟩ H J ⟨hd,hj,hle⟩ hJ
 simp only at hd hj hle
 have hdl:done.length+rest.length=us.length:=by rw[hd];simp
 cases rest with
 | nil =>
  simp only[List.append_nil] at hd
  have hlt:¬ ((done.length:Int)<us.length):=by rw[hd];omega
  simp(disch:=first|omega|assumption) only[hll,hlt,go_sem]
  simp only[zk,zK,List.append_nil] at hj
  exact hQ _ _ _ _ nofun rfl (by simp[tupOf,envOf,AV.strip,AV.strip1,hj])
 | cons u r =>
  have hlt:((done.length:Int)<us.length):=by simp at hdl;omega
  have hg:(cU us).getD done.length []=[.int .i64 u]:=by rw[hd];simp[cU]
  have hu0:¬ ((u:Int)<0):=by omega
  have hrl:r.length+1+done.length=us.length:=by simp at hdl;omega
  have none_of:zk (u::r)=none→zk us=none:=fun e=>by rw[hj,e];rfl
  by_cases a1:65535<u
  ·have e:=none_of (by rw[zk.eq_def];simp only;rw[if_pos (.inl a1)])
   have a1':((65535:Int)<u)=True:=eq_true (by omega)
   simp(disch:=first|omega|assumption) only[hll,hlt,hg,hu0,a1',go_sem]
   exact hQ _ _ _ _ nofun rfl (by simp[tupOf,envOf,AV.strip,AV.strip1,e])
  have a1':¬ ((65535:Int)<u):=by omega
  by_cases a2:56320≤u∧u≤57343
  ·have e:=none_of (by rw[zk.eq_def];simp only;rw[if_pos (.inr a2)])
   have a2':((56320:Int)≤u)=True:=eq_true (by omega)
   have a3':((u:Int)<57344)=True:=eq_true (by omega)
   simp(disch:=first|omega|assumption) only[hll,hlt,hg,hu0,a1',a2',a3',go_sem]
   exact hQ _ _ _ _ nofun rfl (by simp[tupOf,envOf,AV.strip,AV.strip1,e])
  by_cases a3:55296≤u∧u<56320
  ·have b1:¬ ((56320:Int)≤u):=by omega
   have b2:((55296:Int)≤u)=True:=eq_true (by omega)
   have b3:((u:Int)<56320)=True:=eq_true (by omega)
   cases r with
   | nil =>
    have e:=none_of (by rw[zk.eq_def];simp only;rw[if_neg (by omega),if_pos a3])
    have b4:((us.length:Int)≤(done.length:Int)+1)=True:=eq_true (by simp at hrl;omega)
    simp(disch:=first|omega|assumption) only[hll,hlt,hg,hu0,a1',b1,b2,b3,wrap64,b4,go_sem]
    exact hQ _ _ _ _ nofun rfl (by simp[tupOf,envOf,AV.strip,AV.strip1,e])
   | cons v r =>
    have b4:¬ ((us.length:Int)≤(done.length:Int)+1):=by simp at hrl;omega
    have b5:((done.length:Int)+1<us.length):=by simp at hrl;omega
    have b6:((done.length:Int)+1).toNat=done.length+1:=by omega
    have hg2:(cU us).getD (done.length+1) []=[.int .i64 v]:=by rw[hd];simp[cU]
    by_cases c1:v<56320
    ·have e:=none_of (by rw[zk.eq_def];simp only;rw[if_neg (by omega),if_pos a3,if_pos (.inl c1)])
     have c1':((v:Int)<56320)=True:=eq_true (by omega)
     simp(disch:=first|omega|assumption) only[hll,hlt,hg,hu0,a1',b1,b2,b3,wrap64,b4,b5,b6,hg2,c1',go_sem]
     exact hQ _ _ _ _ nofun rfl (by simp[tupOf,envOf,AV.strip,AV.strip1,e])
    have c1':¬ ((v:Int)<56320):=by omega
    by_cases c2:57343<v
    ·have e:=none_of (by rw[zk.eq_def];simp only;rw[if_neg (by omega),if_pos a3,if_pos (.inr c2)])
     have c2':((57344:Int)≤v)=True:=eq_true (by omega)
     simp(disch:=first|omega|assumption) only[hll,hlt,hg,hu0,a1',b1,b2,b3,wrap64,b4,b5,b6,hg2,c1',c2',go_sem]
     exact hQ _ _ _ _ nofun rfl (by simp[tupOf,envOf,AV.strip,AV.strip1,e])
    have c2':¬ ((57344:Int)≤v):=by omega
    have ej:zk (u::v::r)=(zk r).map (ym (65536+1024*(u-55296)+(v-56320))++·):=by rw[zk.eq_def];simp only;rw[if_neg (by omega),if_pos a3,if_neg (by omega)]
    obtain⟨m,hm⟩:∃ m,65536+1024*(u-55296)+(v-56320)=m:=⟨_,rfl⟩
    rw[hm] at ej
    have w1:IntKind.wrap .i64 ((u:Int)-55296)=(u:Int)-55296:=wrap64 (by omega) (by omega)
    have w2:IntKind.wrap .i64 (1024*((u:Int)-55296))=1024*((u:Int)-55296):=wrap64 (by omega) (by omega)
    have w3:IntKind.wrap .i64 (65536+1024*((u:Int)-55296))=65536+1024*((u:Int)-55296):=wrap64 (by omega) (by omega)
    have w4:IntKind.wrap .i64 (65536+1024*((u:Int)-55296)+v)=65536+1024*((u:Int)-55296)+v:=wrap64 (by omega) (by omega)
    have w5:IntKind.wrap .i64 (65536+1024*((u:Int)-55296)+v-56320)=(m:Int):=by rw[wrap64 (by omega) (by omega)];omega
    have hm3:=(Zb m).1
    have hdw:IntKind.wrap .i64 ((done.length:Int)+1)=(done.length:Int)+1:=wrap64 (by omega) (by omega)
    have hdw2:IntKind.wrap .i64 ((done.length:Int)+1+1)=(done.length:Int)+1+1:=wrap64 (by omega) (by omega)
    simp(disch:=first|omega|assumption) only[hll,hlt,hg,hu0,a1',b1,b2,b3,hdw,b4,b5,b6,hg2,c1',c2',w1,w2,w3,w4,w5,go_sem]
    refine goK_pure (zie m (by omega)) ?_
    have e5:(((done++[u,v]).length:Nat):Int)=(done.length:Int)+1+1:=by simp;omega
    have nx:=hJ (done++[u,v],r,out++ym m) H (by simp;omega) ⟨by simp[hd],by simp only[hj,ej];cases zk r<;>simp,by simp;omega⟩
    simp(disch:=first|omega|assumption) only[hdw2,Al5,go_sem]
    exact goJ nx (by simp(disch:=first|omega|assumption) only[e5,go_sem])
  have ej:zk (u::r)=(zk r).map (ym u++·):=by
   rw[zk.eq_def];simp only;rw[if_neg (by omega),if_neg a3]
  have hm3:=(Zb u).1
  have e5:(((done++[u]).length:Nat):Int)=(done.length:Int)+1:=by simp
  have hdw:IntKind.wrap .i64 ((done.length:Int)+1)=(done.length:Int)+1:=wrap64 (by omega) (by omega)
  have nx:=hJ (done++[u],r,out++ym u) H (by simp) ⟨by simp[hd],by simp only[hj,ej];cases zk r<;>simp,by simp;omega⟩
  by_cases h:u<55296
  ·have b1:¬ ((56320:Int)≤u):=by omega
   have b2:¬ ((55296:Int)≤u):=by omega
   simp(disch:=first|omega|assumption) only[hll,hlt,hg,hu0,a1',b1,b2,go_sem]
   refine goK_pure (zie u (by omega)) ?_
   simp(disch:=first|omega|assumption) only[hdw,Al5,go_sem]
   exact goJ nx (by simp(disch:=first|omega|assumption) only[e5,go_sem])
  ·have b1:((56320:Int)≤u)=True:=eq_true (by omega)
   have b2:¬ ((u:Int)<57344):=by omega
   have b3:((55296:Int)≤u)=True:=eq_true (by omega)
   have b4:¬ ((u:Int)<56320):=by omega
   simp(disch:=first|omega|assumption) only[hll,hlt,hg,hu0,a1',b1,b2,b3,b4,go_sem]
   refine goK_pure (zie u (by omega)) ?_
   simp(disch:=first|omega|assumption) only[hdw,Al5,go_sem]
   exact goJ nx (by simp(disch:=first|omega|assumption) only[e5,go_sem])
end Go.Proofs.YtaielcdfcgpbiaaGreatDoor
namespace Go.Proofs.YtaielcdfcgpbiaaGreatDoor
open Go.Ab
theorem wrap_u8 {x:Int} (h0:0≤x) (h1:x<256):IntKind.wrap .u8 x=x:=by
 unfold IntKind.wrap
 simp[IntKind.signed,IntKind.bits]
 omega
open Go.Lib
theorem zel (s:List UInt8) (c:UInt8) (hs:s.length≤Lim):Pure Tryz.prog 154 [.str s,.int .u8 c.toNat] (.int .i64 (Lib.indexByte s c)):=by
 refine Pure.go ir154 ck154 (Al4 _) fun KP Q hQ=>?_
 simp only[Lim] at hs
 have none:∀ l:List UInt8,c ∉ l→Lib.indexByte l c=-1:=fun l=>by
  induction l with
  | nil=>intro _;rfl
  | cons b l ih =>
   intro h
   have h1:¬ b=c:=fun e=>h (by simp[e])
   have h2:=ih fun e=>h (by simp[e])
   simp[Lib.indexByte,h1,h2]
 have at':∀(l r:List UInt8),c ∉ l→Lib.indexByte (l++c::r) c=l.length:=fun l=>by
  induction l with
  | nil=>intro r _;simp[Lib.indexByte]
  | cons b l ih =>
   intro r h
   have h1:¬ b=c:=fun e=>h (by simp[e])
   have h2:=ih r fun e=>h (by simp[e])
   simp only[Al6,Lib.indexByte,h2]
   simp[h1]
   try omega
 simp(disch:=first|omega|assumption) only[ir154,go_sem]
 refine goL_range s 5 (fun _:Unit=>[]) (fun done rest _ H'=>c ∉ done) () (by simp(disch:=first|omega|assumption) only[go_sem]) (by simp) ?_ ?_
 ·rintro _ H2 J hn hlt
  simp(disch:=first|omega|assumption) only[hlt,go_sem]
  exact hQ _ _ _ _ nofun rfl (by simp[tupOf,envOf,AV.strip,AV.strip1,none s hn])
 ·rintro done x rest _ H2 J hd hlt hlt2 hn hJ
  have hg:=zhx hd
  by_cases hx:x=c
  ·subst hx
   have e:=at' done rest hn
   rw[← hd] at e
   simp(disch:=first|omega|assumption) only[hlt,hg,go_sem]
   exact hQ _ _ _ _ nofun rfl (by simp[tupOf,envOf,AV.strip,AV.strip1,e])
  ·have hx':¬ ((x.toNat:Int)=c.toNat):=by rw[zje];exact hx
   have nx:=hJ () H2 (by simp only[List.mem_append,List.mem_singleton,not_or];exact⟨hn,fun e=>hx e.symm⟩)
   simp(disch:=first|omega|assumption) only[hlt,hg,hx',wrap64,go_sem]
   exact goJ nx (by simp(disch:=first|omega|assumption) only[go_sem])
theorem zih (c:UInt8):hexD c=if 48≤c.toNat∧c.toNat≤57 then some (c.toNat-48) else if 97≤c.toNat∧c.toNat≤102 then some (c.toNat-87) else if 65≤c.toNat∧c.toNat≤70 then some (c.toNat-55) else none :=
 zam (P:=fun c=>hexD c=if 48≤c.toNat∧c.toNat≤57 then some (c.toNat-48) else if 97≤c.toNat∧c.toNat≤102 then some (c.toNat-87) else if 65≤c.toNat∧c.toNat≤70 then some (c.toNat-55) else none) (by decide +kernel) c
theorem ziU {a b:Nat} (ha:a<16777216) (hb:b<16):IntKind.wrap .i64 ((BitVec.ofInt IntKind.i64.bits ((a*16:Nat):Int) ||| BitVec.ofInt IntKind.i64.bits (b:Int)).toNat:Int)=((a*16+b:Nat):Int):=by
 have e:(BitVec.ofInt IntKind.i64.bits ((a*16:Nat):Int) ||| BitVec.ofInt IntKind.i64.bits (b:Int)).toNat=a*16+b:=by
  rw[BitVec.toNat_or]
  show (BitVec.ofInt 64 ((a*16:Nat):Int)).toNat ||| (BitVec.ofInt 64 (b:Int)).toNat=_
  rw[yo (by omega),yo (by omega)]
  have:=Nat.two_pow_add_eq_or_of_lt (i:=4) (b:=b) (by omega) a
  rw[show (2:Nat) ^ 4=16 by rfl] at this
  rw[Nat.mul_comm a 16,this]
 rw[e]
 exact Yb (by omega)
theorem zj1 {a:Nat} (ha:a<16777216):IntKind.wrap .i64 ((a:Int)*2 ^ min 4 IntKind.i64.bits)=((a*16:Nat):Int):=by
 show IntKind.wrap .i64 ((a:Int)*16)=_
 rw[wrap64 (by omega) (by omega)];omega
def zdD (x:Option Nat):Int:=match x with|some u=>u|none=>-1
theorem zjb (s:List UInt8) (i:Nat) (hi:i≤s.length) (hs:s.length≤Lim):Pure Tryz.prog 202 [.str s,.int .i64 i] (.int .i64 (zdD (yD (s.drop i)))):=by
 refine Pure.go ir202 ck202 (Al4 _) fun KP Q hQ=>?_
 simp only[Lim] at hs
 have w0:IntKind.wrap .i64 ((s.length:Int)-i)=(s.length:Int)-i:=wrap64 (by omega) (by omega)
 by_cases h4:s.length<i+4
 ·have h4':((s.length:Int)-i<4)=True:=eq_true (by omega)
  have e:yD (s.drop i)=none:=by
   cases hu:yD (s.drop i) with
   | none=>rfl
   | some u=>have:=Zr _ _ _ _ hu;simp at this;omega
  simp(disch:=first|omega|assumption) only[ir202,w0,h4',steps,st2,pev,rev,oev,optr,ibin,sbin,ishf,bound,mmAll,mm2,mk,mkArgs,AV.cells,AV.boxable,AV.one,AV.strip1,fillA,fillS,Nat.reduceEqDiff,reduceCtorEq,↓reduceIte,Nat.reduceAdd,Int.reduceNeg,Nat.reduceLeDiff,Int.reduceToNat,Int.reduceEq,Int.reduceLT,Int.reduceLE,Int.reduceAdd,Io,Im,If,Il,Jt,Jf,AC.rg,Jm,Jl,Ja,Fm,Fl,Fa,Imv,Imb,Iai,Iei,Igi,Isi,Ipf,Ipt,Ilb,Iia,Ilt,Iap,Ink,Iln,Ils,Iad,Iex,Ibx,Ing]
  exact hQ _ _ _ _ nofun rfl (by simp[tupOf,envOf,AV.strip,AV.strip1,e,zdD])
 have h4':¬ ((s.length:Int)-i<4):=by omega
 have w1:IntKind.wrap .i64 ((i:Int)+4)=(i:Int)+4:=wrap64 (by omega) (by omega)
 simp(disch:=first|omega|assumption) only[ir202,w0,h4',w1,steps,st2,pev,rev,oev,optr,ibin,sbin,ishf,bound,mmAll,mm2,mk,mkArgs,AV.cells,AV.boxable,AV.one,AV.strip1,fillA,fillS,Nat.reduceEqDiff,reduceCtorEq,↓reduceIte,Nat.reduceAdd,Int.reduceNeg,Nat.reduceLeDiff,Int.reduceToNat,Int.reduceEq,Int.reduceLT,Int.reduceLE,Int.reduceAdd,Io,Im,If,Il,Jt,Jf,AC.rg,Jm,Jl,Ja,Fm,Fl,Fa,Imv,Imb,Iai,Iei,Igi,Isi,Ipf,Ipt,Ilb,Iia,Ilt,Iap,Ink,Iln,Ils,Iad,Iex,Ibx,Ing]
 refine goL_st (fun x:Nat×Nat=>[(5,.int .i64 (x.2:Int)),(6,.int .i64 ((i+x.1:Nat):Int))]) (fun x H'=>x.1≤4∧x.2<65536∧x.2<16 ^ x.1∧yD (s.drop i)=yu (4-x.1) (s.drop (i+x.1)) x.2) (fun x=>4-x.1) (0,0) (by simp(disch:=first|omega|assumption) only[Nat.add_zero,steps,st2,pev,rev,oev,optr,ibin,sbin,ishf,bound,mmAll,mm2,mk,mkArgs,AV.cells,AV.boxable,AV.one,AV.strip1,fillA,fillS,Nat.reduceEqDiff,reduceCtorEq,↓reduceIte,Nat.reduceAdd,Int.reduceNeg,Nat.reduceLeDiff,Int.reduceToNat,Int.reduceEq,Int.reduceLT,Int.reduceLE,Int.reduceAdd]) ⟨by simp,by simp,by simp,rfl⟩ ?_
 rintro⟨k,a⟩ H' J ⟨hk,ha,hp,hu⟩ hJ
 simp only at hk ha hp hu
 by_cases h1:k=4
 ·subst h1
  have h2:¬ (((i+4:Nat):Int)<(i:Int)+4):=by omega
  simp only[Nat.sub_self,yu] at hu
  simp(disch:=first|omega|assumption) only[h2,w1,steps,st2,pev,rev,oev,optr,ibin,sbin,ishf,bound,mmAll,mm2,mk,mkArgs,AV.cells,AV.boxable,AV.one,AV.strip1,fillA,fillS,Nat.reduceEqDiff,reduceCtorEq,↓reduceIte,Nat.reduceAdd,Int.reduceNeg,Nat.reduceLeDiff,Int.reduceToNat,Int.reduceEq,Int.reduceLT,Int.reduceLE,Int.reduceAdd]
  exact hQ _ _ _ _ nofun rfl (by simp[tupOf,envOf,AV.strip,AV.strip1,hu,zdD])
 ·have h2:(((i+k:Nat):Int)<(i:Int)+4)=True:=eq_true (by omega)
  have hl:i+k<s.length:=by omega
  have hl':(((i+k:Nat):Int)<s.length)=True:=eq_true (by omega)
  have hl0:((0:Int)≤((i+k:Nat):Int))=True:=eq_true (by omega)
  obtain⟨c,hc⟩:∃ c,s[i+k]?=some c:=⟨_,Al9 hl⟩
  have hg:s.getD (i+k) 0=c:=by simp[List.getD,hc]
  have hdr:s.drop (i+k)=c::s.drop (i+k+1):=by
   rw[List.drop_eq_getElem_cons hl]
   have:=Al9 hl
   rw[hc] at this;rw[← Option.some.inj this]
  have hk1:4-k=(4-(k+1))+1:=by omega
  rw[hdr,hk1,yu] at hu
  have pw:(16:Nat) ^ k≤4096:=by
   have:k=0∨k=1∨k=2∨k=3:=by omega
   rcases this with rfl|rfl|rfl|rfl<;>decide
  have hw:IntKind.wrap .i64 (((i+k:Nat):Int)+1)=((i+(k+1):Nat):Int):=by rw[wrap64 (by omega) (by omega)];omega
  have hsh:=zj1 (a:=a) (by omega)
  have hcl:=c.toNat_lt
  have hx:=zih c
  have step:∀ d,d<16→hexD c=some d→J ((setAll _ [(5,.int .i64 ((a*16+d:Nat):Int)),(6,.int .i64 ((i+(k+1):Nat):Int))]).keep [0,1,5,6]) H':=fun d hd e=>by
   have e1:a*16+d=16*a+d:=by omega
   refine hJ (k+1,a*16+d) H' (by simp;omega) ⟨by simp;omega,by simp;omega,?_,?_⟩
   ·simp only[Nat.pow_succ];omega
   ·rw[hu,e];simp only;rw[e1];rfl
  by_cases d1:48≤c.toNat∧c.toNat≤57
  ·have e1:isD c=true:=by simp[isD,d1]
   rw[if_pos d1] at hx
   have o1:=ziU (a:=a) (b:=c.toNat-48) (by omega) (by omega)
   have s1:IntKind.wrap .i64 (IntKind.wrap .u8 ((c.toNat:Int)-48))=((c.toNat-48:Nat):Int):=by
    rw[wrap_u8 (by omega) (by omega),wrap64 (by omega) (by omega)];omega
   simp(disch:=first|omega|assumption) only[h2,hl',hl0,hg,w1,steps,st2,pev,rev,oev,optr,ibin,sbin,ishf,bound,mmAll,mm2,mk,mkArgs,AV.cells,AV.boxable,AV.one,AV.strip1,fillA,fillS,Nat.reduceEqDiff,reduceCtorEq,↓reduceIte,Nat.reduceAdd,Int.reduceNeg,Nat.reduceLeDiff,Int.reduceToNat,Int.reduceEq,Int.reduceLT,Int.reduceLE,Int.reduceAdd]
   refine goK_pure (zbX c) ?_
   rw[e1]
   simp(disch:=first|omega|assumption) only[hsh,s1,o1,hw,steps,st2,pev,rev,oev,optr,ibin,sbin,ishf,bound,mmAll,mm2,mk,mkArgs,AV.cells,AV.boxable,AV.one,AV.strip1,fillA,fillS,Nat.reduceEqDiff,reduceCtorEq,↓reduceIte,Nat.reduceAdd,Int.reduceNeg,Nat.reduceLeDiff,Int.reduceToNat,Int.reduceEq,Int.reduceLT,Int.reduceLE,Int.reduceAdd]
   exact goJ (step _ (by omega) hx) (by simp(disch:=first|omega|assumption) only[steps,st2,pev,rev,oev,optr,ibin,sbin,ishf,bound,mmAll,mm2,mk,mkArgs,AV.cells,AV.boxable,AV.one,AV.strip1,fillA,fillS,Nat.reduceEqDiff,reduceCtorEq,↓reduceIte,Nat.reduceAdd,Int.reduceNeg,Nat.reduceLeDiff,Int.reduceToNat,Int.reduceEq,Int.reduceLT,Int.reduceLE,Int.reduceAdd])
  ·have e1:isD c=false:=by simp[isD];omega
   rw[if_neg d1] at hx
   simp(disch:=first|omega|assumption) only[h2,hl',hl0,hg,w1,steps,st2,pev,rev,oev,optr,ibin,sbin,ishf,bound,mmAll,mm2,mk,mkArgs,AV.cells,AV.boxable,AV.one,AV.strip1,fillA,fillS,Nat.reduceEqDiff,reduceCtorEq,↓reduceIte,Nat.reduceAdd,Int.reduceNeg,Nat.reduceLeDiff,Int.reduceToNat,Int.reduceEq,Int.reduceLT,Int.reduceLE,Int.reduceAdd]
   refine goK_pure (zbX c) ?_
   rw[e1]
   by_cases d2:97≤c.toNat∧c.toNat≤102
   ·rw[if_pos d2] at hx
    have o1:=ziU (a:=a) (b:=c.toNat-87) (by omega) (by omega)
    have g1:((97:Int)≤c.toNat)=True:=eq_true (by omega)
    have g2:((c.toNat:Int)≤102)=True:=eq_true (by omega)
    have s1:IntKind.wrap .i64 (IntKind.wrap .u8 (IntKind.wrap .u8 ((c.toNat:Int)-97)+10))=((c.toNat-87:Nat):Int):=by
     rw[wrap_u8 (x:=(c.toNat:Int)-97) (by omega) (by omega),wrap_u8 (by omega) (by omega),wrap64 (by omega) (by omega)];omega
    simp(disch:=first|omega|assumption) only[g1,g2,hsh,s1,o1,hw,steps,st2,pev,rev,oev,optr,ibin,sbin,ishf,bound,mmAll,mm2,mk,mkArgs,AV.cells,AV.boxable,AV.one,AV.strip1,fillA,fillS,Nat.reduceEqDiff,reduceCtorEq,↓reduceIte,Nat.reduceAdd,Int.reduceNeg,Nat.reduceLeDiff,Int.reduceToNat,Int.reduceEq,Int.reduceLT,Int.reduceLE,Int.reduceAdd]
    exact goJ (step _ (by omega) hx) (by simp(disch:=first|omega|assumption) only[steps,st2,pev,rev,oev,optr,ibin,sbin,ishf,bound,mmAll,mm2,mk,mkArgs,AV.cells,AV.boxable,AV.one,AV.strip1,fillA,fillS,Nat.reduceEqDiff,reduceCtorEq,↓reduceIte,Nat.reduceAdd,Int.reduceNeg,Nat.reduceLeDiff,Int.reduceToNat,Int.reduceEq,Int.reduceLT,Int.reduceLE,Int.reduceAdd])
   ·rw[if_neg d2] at hx
    by_cases d3:65≤c.toNat∧c.toNat≤70
    ·rw[if_pos d3] at hx
     have o1:=ziU (a:=a) (b:=c.toNat-55) (by omega) (by omega)
     have g0:¬ ((97:Int)≤c.toNat):=by omega
     have g1:((65:Int)≤c.toNat)=True:=eq_true (by omega)
     have g2:((c.toNat:Int)≤70)=True:=eq_true (by omega)
     have s1:IntKind.wrap .i64 (IntKind.wrap .u8 (IntKind.wrap .u8 ((c.toNat:Int)-65)+10))=((c.toNat-55:Nat):Int):=by
      rw[wrap_u8 (x:=(c.toNat:Int)-65) (by omega) (by omega),wrap_u8 (by omega) (by omega),wrap64 (by omega) (by omega)];omega
     simp(disch:=first|omega|assumption) only[g0,g1,g2,hsh,s1,o1,hw,steps,st2,pev,rev,oev,optr,ibin,sbin,ishf,bound,mmAll,mm2,mk,mkArgs,AV.cells,AV.boxable,AV.one,AV.strip1,fillA,fillS,Nat.reduceEqDiff,reduceCtorEq,↓reduceIte,Nat.reduceAdd,Int.reduceNeg,Nat.reduceLeDiff,Int.reduceToNat,Int.reduceEq,Int.reduceLT,Int.reduceLE,Int.reduceAdd]
     exact goJ (step _ (by omega) hx) (by simp(disch:=first|omega|assumption) only[steps,st2,pev,rev,oev,optr,ibin,sbin,ishf,bound,mmAll,mm2,mk,mkArgs,AV.cells,AV.boxable,AV.one,AV.strip1,fillA,fillS,Nat.reduceEqDiff,reduceCtorEq,↓reduceIte,Nat.reduceAdd,Int.reduceNeg,Nat.reduceLeDiff,Int.reduceToNat,Int.reduceEq,Int.reduceLT,Int.reduceLE,Int.reduceAdd])
    ·rw[if_neg d3] at hx
     rw[hx] at hu
     simp only at hu
     by_cases g0:(97:Int)≤c.toNat
     ·have g2:¬ ((c.toNat:Int)≤102):=by omega
      by_cases g1:(65:Int)≤c.toNat
      ·have g3:¬ ((c.toNat:Int)≤70):=by omega
       simp(disch:=first|omega|assumption) only[g0,g1,g2,g3,steps,st2,pev,rev,oev,optr,ibin,sbin,ishf,bound,mmAll,mm2,mk,mkArgs,AV.cells,AV.boxable,AV.one,AV.strip1,fillA,fillS,Nat.reduceEqDiff,reduceCtorEq,↓reduceIte,Nat.reduceAdd,Int.reduceNeg,Nat.reduceLeDiff,Int.reduceToNat,Int.reduceEq,Int.reduceLT,Int.reduceLE,Int.reduceAdd]
       exact hQ _ _ _ _ nofun rfl (by simp[tupOf,envOf,AV.strip,AV.strip1,hu,zdD])
      ·omega
     ·by_cases g1:(65:Int)≤c.toNat
      ·have g3:¬ ((c.toNat:Int)≤70):=by omega
       simp(disch:=first|omega|assumption) only[g0,g1,g3,steps,st2,pev,rev,oev,optr,ibin,sbin,ishf,bound,mmAll,mm2,mk,mkArgs,AV.cells,AV.boxable,AV.one,AV.strip1,fillA,fillS,Nat.reduceEqDiff,reduceCtorEq,↓reduceIte,Nat.reduceAdd,Int.reduceNeg,Nat.reduceLeDiff,Int.reduceToNat,Int.reduceEq,Int.reduceLT,Int.reduceLE,Int.reduceAdd]
       exact hQ _ _ _ _ nofun rfl (by simp[tupOf,envOf,AV.strip,AV.strip1,hu,zdD])
      ·simp(disch:=first|omega|assumption) only[g0,g1,steps,st2,pev,rev,oev,optr,ibin,sbin,ishf,bound,mmAll,mm2,mk,mkArgs,AV.cells,AV.boxable,AV.one,AV.strip1,fillA,fillS,Nat.reduceEqDiff,reduceCtorEq,↓reduceIte,Nat.reduceAdd,Int.reduceNeg,Nat.reduceLeDiff,Int.reduceToNat,Int.reduceEq,Int.reduceLT,Int.reduceLE,Int.reduceAdd]
       exact hQ _ _ _ _ nofun rfl (by simp[tupOf,envOf,AV.strip,AV.strip1,hu,zdD])
structure DecOk (l:List UInt8) (c k:Nat):Prop where
 enc:ym c=l.take k
 le:c≤1114111
 pos:1≤k
 len:k≤l.length
 one:k=1→c=(l.getD 0 0).toNat∧(l.getD 0 0).toNat<128
 high:k≠1→∀ x∈l.take k,128≤x.toNat
theorem ZT {n:Nat} {b:UInt8} (h:n=b.toNat):UInt8.ofNat n=b:=UInt8.toNat_inj.1 (by rw[UInt8.toNat_ofNat',h];have:=b.toNat_lt;omega)
theorem zh6 {b0 b1:UInt8} {t:List UInt8} (h0:b0.toNat / 32=6) (h1:b1.toNat / 64=2) (hc:128≤b0.toNat % 32*64+b1.toNat % 64):DecOk (b0::b1::t) (b0.toNat % 32*64+b1.toNat % 64) 2:=by
 refine⟨?_,by omega,by omega,by simp,fun h=>by omega,fun _ x hx=>?_⟩
 ·unfold ym
  rw[if_neg (by omega),if_pos (by omega)]
  simp only[Yf,List.take_zero,List.cons.injEq,and_true]
  exact⟨ZT (by omega),ZT (by omega)⟩
 ·simp only[Yf,List.take_zero,List.mem_cons,List.not_mem_nil,or_false] at hx
  rcases hx with rfl|rfl<;>omega
theorem zfX {b0 b1 b2:UInt8} {t:List UInt8} (h0:b0.toNat / 16=14) (h1:b1.toNat / 64=2) (h2:b2.toNat / 64=2) (hc:2048≤b0.toNat % 16*4096+b1.toNat % 64*64+b2.toNat % 64) :
  DecOk (b0::b1::b2::t) (b0.toNat % 16*4096+b1.toNat % 64*64+b2.toNat % 64) 3:=by
 refine⟨?_,by omega,by omega,by simp,fun h=>by omega,fun _ x hx=>?_⟩
 ·unfold ym
  rw[if_neg (by omega),if_neg (by omega),if_pos (by omega)]
  simp only[Yf,List.take_zero,List.cons.injEq,and_true]
  exact⟨ZT (by omega),ZT (by omega),ZT (by omega)⟩
 ·simp only[Yf,List.take_zero,List.mem_cons,List.not_mem_nil,or_false] at hx
  rcases hx with rfl|rfl|rfl<;>omega
theorem zgb {b0 b1 b2 b3:UInt8} {t:List UInt8} (h0:b0.toNat / 8=30) (h1:b1.toNat / 64=2) (h2:b2.toNat / 64=2) (h3:b3.toNat / 64=2)
  (hc:65536≤b0.toNat % 8*262144+b1.toNat % 64*4096+b2.toNat % 64*64+b3.toNat % 64) (hd:b0.toNat % 8*262144+b1.toNat % 64*4096+b2.toNat % 64*64+b3.toNat % 64≤1114111) :
  DecOk (b0::b1::b2::b3::t) (b0.toNat % 8*262144+b1.toNat % 64*4096+b2.toNat % 64*64+b3.toNat % 64) 4:=by
 refine⟨?_,by omega,by omega,by simp,fun h=>by omega,fun _ x hx=>?_⟩
 ·unfold ym
  rw[if_neg (by omega),if_neg (by omega),if_neg (by omega)]
  simp only[Yf,List.take_zero,List.cons.injEq,and_true]
  exact⟨ZT (by omega),ZT (by omega),ZT (by omega),ZT (by omega)⟩
 ·simp only[Yf,List.take_zero,List.mem_cons,List.not_mem_nil,or_false] at hx
  rcases hx with rfl|rfl|rfl|rfl<;>omega
theorem zeM {l:List UInt8} (hne:l≠[]) (h:decodeL l≠(65533,1)):DecOk l (decodeL l).1 (decodeL l).2:=by
 rw[decodeL_N] at h ⊢
 obtain⟨b0,t,rfl⟩:∃ b0 t,l=b0::t:=by cases l with|nil=>exact absurd rfl hne|cons a b=>exact⟨a,b,rfl⟩
 simp only[List.getD_cons_zero,List.getD_cons_succ] at h ⊢
 unfold decodeN at h ⊢
 split at h
 ·rename_i h0
  rw[if_pos h0]
  refine⟨?_,by simp only;omega,by simp,by simp,fun _=>⟨by simp,by simpa using h0⟩,fun h=>absurd rfl h⟩
  simp only
  unfold ym
  rw[if_pos (by omega)]
  simp only[Yf,List.take_zero,List.cons.injEq,and_true]
  exact ZT rfl
 ·rename_i h0
  rw[if_neg h0]
  split at h
  ·rename_i h1
   rw[if_pos h1]
   split at h
   ·rename_i h2
    rw[if_pos h2]
    obtain⟨b1,t,rfl⟩:∃ b1 r,t=b1::r:=by cases t with|nil=>simp at h1|cons a b=>exact⟨a,b,rfl⟩
    exact zh6 h1.1 (by simpa using h1.2.2) (by simpa using h2)
   ·exact absurd rfl h
  ·rename_i h1
   rw[if_neg h1]
   split at h
   ·rename_i h2
    rw[if_pos h2]
    split at h
    ·rename_i h3
     rw[if_pos h3]
     obtain⟨b1,t,rfl⟩:∃ b1 r,t=b1::r:=by cases t with|nil=>simp at h2|cons a b=>exact⟨a,b,rfl⟩
     obtain⟨b2,t,rfl⟩:∃ b2 r,t=b2::r:=by cases t with|nil=>simp at h2|cons a b=>exact⟨a,b,rfl⟩
     exact zfX h2.1 (by simpa using h2.2.1.2) (by simpa using h2.2.2.2) (by simpa using h3.1)
    ·exact absurd rfl h
   ·rename_i h2
    rw[if_neg h2]
    split at h
    ·rename_i h3
     rw[if_pos h3]
     split at h
     ·rename_i h4
      rw[if_pos h4]
      obtain⟨b1,t,rfl⟩:∃ b1 r,t=b1::r:=by cases t with|nil=>simp at h3|cons a b=>exact⟨a,b,rfl⟩
      obtain⟨b2,t,rfl⟩:∃ b2 r,t=b2::r:=by cases t with|nil=>simp at h3|cons a b=>exact⟨a,b,rfl⟩
      obtain⟨b3,t,rfl⟩:∃ b3 r,t=b3::r:=by cases t with|nil=>simp at h3|cons a b=>exact⟨a,b,rfl⟩
      exact zgb h3.1 (by simpa using h3.2.1.2) (by simpa using h3.2.2.1.2) (by simpa using h3.2.2.2.2) (by simpa using h4.1) (by have:=h4.2;simp at this ⊢;omega)
     ·exact absurd rfl h
    ·exact absurd rfl h
theorem zhE {l:List UInt8} (hne:l≠[]) (hv:validD l=true):DecOk l (zo l).1 (zo l).2∧validD (l.drop (zo l).2)=true:=by
 rw[validD_step l hne] at hv
 split at hv
 ·cases hv
 ·rename_i h
  have h':decodeL l≠(65533,1):=fun e=>h ⟨by rw[e],by rw[e]⟩
  have e:zo l=decodeL l:=by unfold zo;rw[if_neg hne,if_neg h']
  rw[e]
  exact⟨zeM hne h',hv⟩
theorem zbq {may:UInt8→Bool}:∀(n m:Nat) (t:List UInt8) (q:Sd),t.length<n→t.length<m→Zj may n t q=Zj may m t q
 | 0,_,_,_,h,_=>by omega
 | _,0,_,_,_,h=>by omega
 | _+1,_+1,[],_,_,_=>rfl
 | n+1,m+1,c::t,q,h1,h2=>by
  simp only[Al2] at h1 h2
  simp only[Zj]
  split
  ·rfl
  ·split
   ·cases he:yJ q t with
    | none=>rfl
    | some x =>
     have:=(zaP (q':=x.1) (t':=x.2) he).2
     exact zbq n m x.2 x.1 (by omega) (by omega)
   ·split
    ·exact zbq n m t _ (by omega) (by omega)
    ·rfl
def Yo (may:UInt8→Bool) (t:List UInt8) (q:Sd):Option (Sd×List UInt8):=Zj may (t.length+1) t q
theorem zfg (may:UInt8→Bool) (t:List UInt8) (q:Sd):Yo may (34::t) q=some (zF q,t):=by simp[Yo,Zj]
theorem YW (may:UInt8→Bool) (t:List UInt8) (q:Sd):Yo may (92::t) q=match yJ q t with|none=>none|some (q',t')=>Yo may t' q':=by
 unfold Yo
 simp only[Al2,Zj]
 rw[if_neg (by decide),if_pos trivial]
 cases he:yJ q t with
 | none=>rfl
 | some x =>
  have:=(zaP (q':=x.1) (t':=x.2) he).2
  exact zbq _ _ x.2 x.1 (by omega) (by omega)
theorem zca (may:UInt8→Bool) {c:UInt8} (t:List UInt8) (q:Sd) (h1:c≠34) (h2:c≠92):Yo may (c::t) q=if may c then Yo may t (q.put c) else none:=by
 unfold Yo
 simp only[Al2,Zj]
 rw[if_neg h1,if_neg h2]
theorem zb3 {may:UInt8→Bool}:∀(n:Nat) (t:List UInt8) (q q':Sd) (t':List UInt8),q.ok=false→Zj may n t q=some (q',t')→q'.ok=false
 | 0,_,_,_,_,_,h=>by cases h
 | _+1,[],_,_,_,_,h=>by cases h
 | n+1,c::t,q,q',t',hq,h=>by
  simp only[Zj] at h
  split at h
  ·simp only[Al1,Al8] at h
   rw[← h.1];simp[zF,hq]
  ·split at h
   ·cases he:yJ q t with
    | none=>simp[he] at h
    | some x =>
     obtain⟨q1,t1⟩:=x
     simp only[he] at h
     refine zb3 n t1 q1 q' t' ?_ h
     cases t with
     | nil=>cases he
     | cons d t =>
      simp only[yJ] at he
      split at he
      ·cases hu:yD t with
       | none=>simp[hu] at he
       | some u=>simp only[hu,zK,Al1,Al8] at he;rw[← he.1];exact hq
      ·split at he
       ·cases he
       ·simp only[Al1,Al8] at he;rw[← he.1];simp[Sd.put,zF,hq]
   ·split at h
    ·exact zb3 n t _ q' t' (by simp[Sd.put,zF,hq]) h
    ·cases h
def zcc (x:Option (Sd×List UInt8)):Option (List UInt8×List UInt8):=match x with
 | some (q,t')=>if q.ok then some (q.b,t') else none
 | none=>none
theorem zi4 (may:UInt8→Bool) (t:List UInt8):yt may t=zcc (Yo may t ⟨[],[],true⟩):=rfl
theorem zd6 {may:UInt8→Bool} {t:List UInt8} {q:Sd} (h:q.ok=false):zcc (Yo may t q)=none:=by
 cases hx:Yo may t q with
 | none=>rfl
 | some x =>
  have:=zb3 _ _ _ x.1 x.2 h hx
  simp[zcc,this]
theorem zcS {may:UInt8→Bool} {c:UInt8} {t out:List UInt8} {us:List Nat} (hj:zk us=none) (hc:∀ r,c=92→t≠117::r):zcc (Yo may (c::t) ⟨out,us,true⟩)=none:=by
 by_cases h1:c=34
 ·subst h1;rw[zfg];simp[zcc,zF,hj]
 ·by_cases h2:c=92
  ·subst h2
   rw[YW]
   cases t with
   | nil=>rfl
   | cons d t =>
    have hd:d≠117:=fun e=>hc t rfl (by rw[e])
    simp only[yJ]
    rw[if_neg hd]
    split
    ·rename_i h;split at h
     ·rfl
     ·cases h
    ·rename_i h
     split at h
     ·cases h
     ·simp only[Al1,Al8] at h
      exact zd6 (by rw[← h.1];simp[Sd.put,zF,hj])
  ·rw[zca may t _ h1 h2]
   split
   ·exact zd6 (by simp[Sd.put,zF,hj])
   ·rfl
def zJ (c:UInt8):Bool:=decide (c≠10)&&decide (c≠13)
theorem zcx:∀(bs t out:List UInt8),(∀ x∈bs,128≤x.toNat)→Yo zJ (bs++t) ⟨out,[],true⟩=Yo zJ t ⟨out++bs,[],true⟩
 | [],t,out,_=>by simp
 | b::bs,t,out,h=>by
  have hb:=h b (.head _)
  have h0:∀ n:UInt8,n.toNat<128→b≠n:=fun n hn e=>by subst e;omega
  rw[Al6,zca zJ _ _ (h0 34 (by decide)) (h0 92 (by decide)),if_pos (by simp[zJ,h0 10 (by decide),h0 13 (by decide)])]
  have e:Sd.put ⟨out,[],true⟩ b=⟨out++[b],[],true⟩:=by simp[Sd.put,zF,zk]
  rw[e,zcx bs t (out++[b]) fun x hx=>h x (.tail _ hx)]
  simp
theorem zfN {l out:List UInt8} {us:List Nat} {tt:List UInt8} (hj:zk us=some tt) {c k:Nat} (h:DecOk l c k) (hne:l≠[]) (h1:l.getD 0 0≠34) (h2:l.getD 0 0≠92) (h3:zJ (l.getD 0 0)=true) :
  Yo zJ l ⟨out,us,true⟩=Yo zJ (l.drop k) ⟨out++tt++l.take k,[],true⟩:=by
 obtain⟨b,t,rfl⟩:∃ b t,l=b::t:=by cases l with|nil=>exact absurd rfl hne|cons a b=>exact⟨a,b,rfl⟩
 simp only[List.getD_cons_zero] at h1 h2 h3
 obtain⟨m,rfl⟩:∃ m,k=m+1:=⟨k-1,by have:=h.pos;omega⟩
 rw[zca zJ t _ h1 h2,if_pos h3]
 have e:Sd.put ⟨out,us,true⟩ b=⟨out++tt++[b],[],true⟩:=by simp[Sd.put,zF,hj]
 rw[e,List.drop_succ_cons,Yf]
 by_cases hm:m=0
 ·subst hm;simp
 ·have hh:=h.high (by omega)
  rw[Yf] at hh
  have:=zcx (t.take m) (t.drop m) (out++tt++[b]) fun x hx=>hh x (.tail _ hx)
  rw[List.take_append_drop] at this
  rw[this];simp
def zaV (n:Nat) (x:Option (List UInt8×List UInt8)):AV:=match x with
 | some (b,t')=>.tup [.str b,.int .i64 ((n-t'.length:Nat):Int),.bool true]
 | none=>.tup [.str [],.int .i64 0,.bool false]
structure QI (s t0:List UInt8) (x:List UInt8×List UInt8×List Nat×Own) (H:Heap):Prop where
 pos:∃ p,p++x.1=s
 val:validD x.1=true
 eq:yt zJ t0=zcc (Yo zJ x.1 ⟨x.2.1,x.2.2.1,true⟩)
 len:x.2.1.length+4*x.2.2.1.length+4*x.1.length≤4*s.length
 own:Owned H x.2.2.2 x.2.2.1.length 1
theorem zh3 (us:List Nat) (v:Nat):cU us++[[AV.int .i64 (v:Int)]]=cU (us++[v]):=by simp[cU]
set_option maxHeartbeats 2000000 in
theorem zhA (s:List UInt8) (i:Nat) (hi:i≤s.length) (hv:validD (s.drop i)=true) (hs:s.length≤yp) :
  Pure Tryz.prog 156 [.str s,.int .i64 i] (zaV s.length (yt zJ (s.drop i))):=by
 refine Pure.go ir156 ck156 (Al4 _) fun KP Q hQ=>?_
 simp only[yp] at hs
 generalize ht0:s.drop i=t0 at hv hQ ⊢
 have hi2:(i:Int)=((s.length-t0.length:Nat):Int):=by rw[← ht0,zI];omega
 rw[hi2]
 simp(disch:=first|omega|assumption) only[ir156,go_sem]
 refine goL_st (fun x:List UInt8×List UInt8×List Nat×Own=>[(1,.int .i64 ((s.length-x.1.length:Nat):Int)),(7,.str x.2.1),(8,.sl x.2.2.2 1 (cU x.2.2.1))]) (fun x H=>QI s t0 x H) (fun x=>x.1.length) (t0,[],[],.nil) (by simp(disch:=first|omega|assumption) only[cU,go_sem]) ⟨⟨s.take i,by rw[← ht0];simp⟩,hv,zi4 _ _,by simp;rw[← ht0];simp;omega,rfl⟩ ?_
 rintro⟨t,out,us,o⟩ H J ⟨⟨p,hp⟩,hvt,he,hlen,ho⟩ hJ
 simp only at hp hvt he hlen ho
 have hpl:p.length+t.length=s.length:=by rw[← hp];simp
 have epos:s.length-t.length=p.length:=by omega
 rw[epos]
 have hul:=zdf us
 have bad:yt zJ t0=none→(zaV s.length (yt zJ t0))=.tup [.str [],.int .i64 0,.bool false]:=fun e=>by rw[e];rfl
 cases t with
 | nil =>
  have h1:((s.length:Int)≤p.length)=True:=eq_true (by simp at hpl;omega)
  have hb:=bad (by rw[he];rfl)
  rw[hb] at hQ
  simp(disch:=first|omega|assumption) only[h1,go_sem]
  exact hQ _ _ _ _ nofun rfl (by simp[tupOf,envOf,AV.strip,AV.strip1])
 | cons c r =>
  have hpl':p.length+r.length+1=s.length:=by simp at hpl;omega
  have h1:¬ ((s.length:Int)≤p.length):=by omega
  have hlt:((p.length:Int)<s.length)=True:=eq_true (by omega)
  have hg:s.getD p.length 0=c:=by rw[← hp];simp
  have hdp:s.drop p.length=c::r:=by rw[← hp];simp
  have w1:IntKind.wrap .i64 ((p.length:Int)+1)=(p.length:Int)+1:=wrap64 (by omega) (by omega)
  have w2:IntKind.wrap .i64 ((p.length:Int)+2)=((p.length+2:Nat):Int):=by rw[wrap64 (by omega) (by omega)];omega
  have w6:IntKind.wrap .i64 ((p.length:Int)+6)=(p.length:Int)+6:=wrap64 (by omega) (by omega)
  have n1:((p.length:Int)+1).toNat=p.length+1:=by omega
  simp only[Al2] at hlen
  by_cases c92:c=92
  ·have g92:((c.toNat:Int)=92)=True:=eq_true (by rw[c92];rfl)
   cases r with
   | nil =>
    have h2:¬ ((p.length:Int)+1<s.length):=by simp at hpl';omega
    have h3:((s.length:Int)≤(p.length:Int)+1)=True:=eq_true (by simp at hpl';omega)
    have g34:¬ ((c.toNat:Int)=34):=by rw[c92];decide
    have g10:¬ ((c.toNat:Int)=10):=by rw[c92];decide
    have g13:¬ ((c.toNat:Int)=13):=by rw[c92];decide
    have hb:=bad (by rw[he,c92,YW];rfl)
    rw[hb] at hQ
    simp(disch:=first|omega|assumption) only[h1,hlt,hg,g92,w1,h2,go_sem]
    refine goK_pure (Pure.low (zgK us (by omega))) ?_
    cases hj:zk us with
    | none =>
     simp(disch:=first|omega|assumption) only[Option.getD_none,Option.isSome_none,go_sem]
     exact hQ _ _ _ _ nofun rfl (by simp[tupOf,envOf,AV.strip,AV.strip1])
    | some tt =>
     have:=Zt us tt hj
     simp(disch:=first|omega|assumption) only[h1,hlt,hg,g92,g34,g10,g13,w1,h3,Option.getD_some,Option.isSome_some,go_sem]
     exact hQ _ _ _ _ nofun rfl (by simp[tupOf,envOf,AV.strip,AV.strip1])
   | cons d r =>
    have hpl2:p.length+r.length+2=s.length:=by simp at hpl';omega
    have h2:((p.length:Int)+1<s.length)=True:=eq_true (by omega)
    have h3:¬ ((s.length:Int)≤(p.length:Int)+1):=by omega
    have hg2:s.getD (p.length+1) 0=d:=by rw[← hp];simp
    have hl0:((0:Int)≤(p.length:Int)+1)=True:=eq_true (by omega)
    have hvd:validD (d::r)=true:=by rw[c92,validD_cons _ _ (by decide)] at hvt;exact hvt
    simp only[Al2] at hlen
    by_cases d117:d=117
    ·have gd:((d.toNat:Int)=117)=True:=eq_true (by rw[d117];rfl)
     have hdp2:s.drop (p.length+2)=r:=by rw[← hp,c92,d117];simp
     have hvr:validD r=true:=by rw[d117,validD_cons _ _ (by decide)] at hvd;exact hvd
     simp(disch:=first|omega|assumption) only[h1,hlt,hg,g92,w1,w2,h2,n1,hg2,hl0,gd,go_sem]
     refine goK_pure (zjb s (p.length+2) (by omega) (by simp only[Lim];omega)) ?_
     rw[hdp2]
     cases hu:yD r with
     | none =>
      have hb:=bad (by rw[he,c92,YW,d117];simp[yJ,hu,zcc])
      rw[hb] at hQ
      simp(disch:=first|omega|assumption) only[zdD,go_sem]
      exact hQ _ _ _ _ nofun rfl (by simp[tupOf,envOf,AV.strip,AV.strip1])
     | some u =>
      have h4:=Zr _ _ _ _ hu
      have h5:=zg8 hu
      have h6:¬ ((u:Int)<0):=by omega
      have e:yt zJ t0=zcc (Yo zJ (r.drop 4) ⟨out,us++[u],true⟩):=by rw[he,c92,YW,d117];simp[yJ,hu]
      have h7:validD (r.drop 4)=true:=by rw[← validD_ascii 4 r (zbc 4 r 0 u hu)];exact hvr
      have e6:(p.length:Int)+6=((s.length-(r.drop 4).length:Nat):Int):=by rw[zI];omega
      simp(disch:=first|omega|assumption) only[zdD,h6,go_sem]
      refine goP_ownS (by rw[hul];exact ho) (by simp[hul];omega) (by simp[hul,maxLen];omega) fun o' H' hs=>?_
      have hs':=hs.own
      rw[hul] at hs'
      have nx:=hJ (r.drop 4,out,us++[u],o') H' (by simp;omega) ⟨⟨p++[92,117]++r.take 4,by rw[← hp,c92,d117];simp⟩,h7,e,by simp;omega,by simpa using hs'⟩
      simp(disch:=first|omega|assumption) only[w6,zh3,go_sem]
      exact goJ nx (by simp(disch:=first|omega|assumption) only[e6,go_sem])
    ·have gd:¬ ((d.toNat:Int)=117):=fun e=>d117 (UInt8.toNat_inj.1 (by have:(117:UInt8).toNat=117:=rfl;omega))
     have g34:¬ ((c.toNat:Int)=34):=by rw[c92];decide
     have g10:¬ ((c.toNat:Int)=10):=by rw[c92];decide
     have g13:¬ ((c.toNat:Int)=13):=by rw[c92];decide
     simp(disch:=first|omega|assumption) only[h1,hlt,hg,g92,w1,h2,n1,hg2,hl0,gd,go_sem]
     refine goK_pure (Pure.low (zgK us (by omega))) ?_
     cases hj:zk us with
     | none =>
      have hb:=bad (by rw[he];exact zcS hj fun r' _ e=>d117 (List.cons.inj e).1)
      rw[hb] at hQ
      simp(disch:=first|omega|assumption) only[Option.getD_none,Option.isSome_none,go_sem]
      exact hQ _ _ _ _ nofun rfl (by simp[tupOf,envOf,AV.strip,AV.strip1])
     | some tt =>
      have htl:=Zt us tt hj
      simp(disch:=first|omega|assumption) only[h1,hlt,hg,g92,g34,g10,g13,w1,h3,h2,n1,hg2,hl0,Option.getD_some,Option.isSome_some,go_sem]
      refine goK_pure (zel ZG d (by decide)) ?_
      have hix:=zc8 ZG d
      by_cases hk:Lib.indexByte ZG d<0
      ·have hb:=bad (by rw[he,c92,YW];simp[yJ,d117,hk,zcc])
       rw[hb] at hQ
       simp(disch:=first|omega|assumption) only[hk,go_sem]
       exact hQ _ _ _ _ nofun rfl (by simp[tupOf,envOf,AV.strip,AV.strip1])
      ·have e:yt zJ t0=zcc (Yo zJ r ⟨out++tt++[zeH.getD (Lib.indexByte ZG d).toNat 0],[],true⟩):=by
        rw[he,c92,YW];simp[yJ,d117,hk,Sd.put,zF,hj]
       have hlo:=zeY d hk
       have h8:(Lib.indexByte ZG d<8)=True:=eq_true hix.2
       have h9:((0:Int)≤Lib.indexByte ZG d)=True:=eq_true (by omega)
       have eb:byts [[.int .u8 (([34,92,47,8,12,10,13,9]:List UInt8).getD (Lib.indexByte ZG d).toNat 0).toNat]]=some [zeH.getD (Lib.indexByte ZG d).toNat 0]:=ZN [_]
       have e6:(p.length:Int)+2=((s.length-r.length:Nat):Int):=by omega
       have hvr:validD r=true:=by rw[validD_cons _ _ hlo.1] at hvd;exact hvd
       have nx:=hJ (r,out++tt++[zeH.getD (Lib.indexByte ZG d).toNat 0],[],.nil) H (by simp;omega) ⟨⟨p++[c,d],by rw[← hp];simp⟩,hvr,e,by simp;omega,rfl⟩
       have w2':IntKind.wrap .i64 ((p.length:Int)+2)=(p.length:Int)+2:=wrap64 (by omega) (by omega)
       simp(disch:=first|omega|assumption) only[hk,h8,h9,eb,w2',Al5,go_sem]
       exact goJ nx (by simp(disch:=first|omega|assumption) only[e6,cU,go_sem])
  ·have g92:¬ ((c.toNat:Int)=92):=fun e=>c92 (UInt8.toNat_inj.1 (by have:(92:UInt8).toNat=92:=rfl;omega))
   simp(disch:=first|omega|assumption) only[h1,hlt,hg,g92,go_sem]
   refine goK_pure (Pure.low (zgK us (by omega))) ?_
   cases hj:zk us with
   | none =>
    have hb:=bad (by rw[he];exact zcS hj fun r' e=>absurd e c92)
    rw[hb] at hQ
    simp(disch:=first|omega|assumption) only[Option.getD_none,Option.isSome_none,go_sem]
    exact hQ _ _ _ _ nofun rfl (by simp[tupOf,envOf,AV.strip,AV.strip1])
   | some tt =>
    have htl:=Zt us tt hj
    by_cases c34:c=34
    ·have g34:((c.toNat:Int)=34)=True:=eq_true (by rw[c34];rfl)
     have e:yt zJ t0=some (out++tt,r):=by rw[he,c34,zfg];simp[zcc,zF,hj]
     have e6:(p.length:Int)+1=((s.length-r.length:Nat):Int):=by omega
     have hb:zaV s.length (yt zJ t0)=.tup [.str (out++tt),.int .i64 ((s.length-r.length:Nat):Int),.bool true]:=by rw[e];rfl
     rw[hb] at hQ
     simp(disch:=first|omega|assumption) only[h1,hlt,hg,g34,w1,Option.getD_some,Option.isSome_some,go_sem]
     exact hQ _ _ _ _ nofun rfl (by simp[tupOf,envOf,AV.strip,AV.strip1,e6])
    ·have g34:¬ ((c.toNat:Int)=34):=fun e=>c34 (UInt8.toNat_inj.1 (by have:(34:UInt8).toNat=34:=rfl;omega))
     by_cases c10:c=10
     ·have g10:((c.toNat:Int)=10)=True:=eq_true (by rw[c10];rfl)
      have hb:=bad (by rw[he,zca _ _ _ c34 c92,if_neg (by rw[c10];decide)];rfl)
      rw[hb] at hQ
      simp(disch:=first|omega|assumption) only[h1,hlt,hg,g34,g10,Option.getD_some,Option.isSome_some,go_sem]
      exact hQ _ _ _ _ nofun rfl (by simp[tupOf,envOf,AV.strip,AV.strip1])
     have g10:¬ ((c.toNat:Int)=10):=fun e=>c10 (UInt8.toNat_inj.1 (by have:(10:UInt8).toNat=10:=rfl;omega))
     by_cases c13:c=13
     ·have g13:((c.toNat:Int)=13)=True:=eq_true (by rw[c13];rfl)
      have hb:=bad (by rw[he,zca _ _ _ c34 c92,if_neg (by rw[c13];decide)];rfl)
      rw[hb] at hQ
      simp(disch:=first|omega|assumption) only[h1,hlt,hg,g34,g10,g13,Option.getD_some,Option.isSome_some,go_sem]
      exact hQ _ _ _ _ nofun rfl (by simp[tupOf,envOf,AV.strip,AV.strip1])
     have g13:¬ ((c.toNat:Int)=13):=fun e=>c13 (UInt8.toNat_inj.1 (by have:(13:UInt8).toNat=13:=rfl;omega))
     simp(disch:=first|omega|assumption) only[h1,hlt,hg,g34,g10,g13,g92,Option.getD_some,Option.isSome_some,go_sem]
     refine goK_pure (ziy s p.length (by omega) (by simp only[Lim];omega)) ?_
     rw[hdp]
     obtain⟨hok,hvr⟩:=zhE (l:=c::r) (by simp) hvt
     have e:=zfN (out:=out) hj hok (by simp) (by simpa using c34) (by simpa using c92) (by simp[zJ,c10,c13])
     have hkp:=hok.pos
     have hkl:=hok.len
     have hle:=hok.le
     have henc:=hok.enc
     have hel:=(Zb (zo (c::r)).1).1
     simp only[Al2] at hkl
     generalize (zo (c::r)).1=cc at *
     generalize (zo (c::r)).2=k at *
     have w7:IntKind.wrap .i64 ((p.length:Int)+(k:Int))=(p.length:Int)+k:=wrap64 (by omega) (by omega)
     have hk1:¬ ((k:Int)<1):=by omega
     have e6:(p.length:Int)+k=((s.length-((c::r).drop k).length:Nat):Int):=by simp;omega
     have htk:((c::r).take k).length=k:=by simp;omega
     have nx:=hJ ((c::r).drop k,out++tt++(c::r).take k,[],.nil) H (by simp;omega) ⟨⟨p++(c::r).take k,by rw[← hp];simp⟩,hvr,by rw[he,e],by simp only[Al5,htk,zI,Al2,Al3];omega,rfl⟩
     simp(disch:=first|omega|assumption) only[go_sem]
     refine goK_pure (zie cc hle) ?_
     rw[henc]
     have hmm:(if (1:Int) > (k:Int) then (1:Int) else k)=k:=if_neg (by omega)
     simp(disch:=first|omega|assumption) only[w7,hk1,hmm,htk,Al5,go_sem]
     exact goJ nx (by simp(disch:=first|omega|assumption) only[e6,cU,go_sem])
def yU:List UInt8:=[46,46,46]
def Zg:List UInt8:=[33,36,38,40,41,58,61,64,91,93,123,124,125]
def zgO:List UInt8→Bool
 | [c]=>decide (0≤Lib.indexByte Zg c)
 | _=>false
def y7 (t:Tok):Bool:=if t.k=1 then decide (t.s=yU)||zgO t.s else if t.k=2 then zbV t.s else if t.k=3∨t.k=4 then decide (Yk t.s=t.k) else if t.k=5 then validD t.s else false
def zz:List UInt8→List UInt8→List (List UInt8)
 | cur,[]=>[cur]
 | cur,[c]=>if c=10∨c=13 then [cur,[]] else [cur++[c]]
 | cur,c::d::r=>if c=10 then cur::zz [] (d::r) else if c=13 then (if d=10 then cur::zz [] r else cur::zz [] (d::r)) else zz (cur++[c]) (d::r)
def zg (s:List UInt8):List (List UInt8):=zz [] s
def zal (c:UInt8):Bool:=decide (c=9)||decide (c=32)
def yv (s:List UInt8):Nat:=(s.takeWhile zal).length
def zr (s:List UInt8):Bool:=s.all zal
def Yl:List (List UInt8)→Int→Int
 | [],a=>a
 | s::r,a=>Yl r (if zr s then a else if a<0∨(yv s:Int)<a then yv s else a)
def indM (l:List (List UInt8)):Int:=Yl l.tail (-1)
def ZL (l:List (List UInt8)):List (List UInt8):=match l with
 | []=>[]
 | x::r=>x::r.map fun s=>s.drop (indM l).toNat
def yG (l:List (List UInt8)):List (List UInt8):=(l.reverse.dropWhile zr).reverse
def zy (raw:List UInt8):List UInt8:=Lib.join (yG ((ZL (zg raw)).dropWhile zr)) [10]
def zu:List UInt8:=[34,34,34]
def zbR:List UInt8:=[92,34,34,34]
def zde:List UInt8:=[239,187,191]
def yd:Nat→List UInt8→List UInt8→Option (List UInt8×List UInt8)
 | 0,_,_=>none
 | n+1,raw,t=>match t with
  | []=>none
  | c::r=>if zu.isPrefixOf (c::r) then some (raw,r.drop 2) else if zbR.isPrefixOf (c::r) then yd n (raw++zu) (r.drop 3) else yd n (raw++[c]) r
def zx (c:UInt8):Bool:=!(decide (c=10)||decide (c=13))
def yB:List UInt8→Nat
 | []=>0
 | c::r=>if c=9∨c=10∨c=13∨c=32∨c=44 then 1 else if zde.isPrefixOf (c::r) then 3 else if c=35 then 1+(r.takeWhile zx).length else 0
def zM (s:List UInt8):Nat:=(s.takeWhile fun c=>isL c||isD c).length
def zU:List UInt8→Option (Tok×List UInt8)
 | []=>none
 | c::r=>if zu.isPrefixOf (c::r) then (yd (r.length+1) [] (r.drop 2)).map fun x=>(⟨5,zy x.1⟩,x.2)
  else if c=34 then (yt zJ r).map fun x=>(⟨5,x.1⟩,x.2)
  else if yU.isPrefixOf (c::r) then some (⟨1,yU⟩,r.drop 2)
  else if 0≤Lib.indexByte Zg c then some (⟨1,[c]⟩,r)
  else if isL c then some (⟨2,(c::r).take (zM (c::r))⟩,(c::r).drop (zM (c::r)))
  else if (zA (c::r)).1=0 then none
  else if ((c::r).drop (zA (c::r)).1).head?.any fun d=>isL d||isD d||decide (d=46) then none
  else some (⟨(zA (c::r)).2,(c::r).take (zA (c::r)).1⟩,(c::r).drop (zA (c::r)).1)
def Za:Nat→List Tok→List UInt8→Except Int (List Tok)
 | 0,_,_=>.error 0
 | n+1,l,t=>if t=[] then .ok l else if yB t≠0 then Za n l (t.drop (yB t)) else match zU t with
  | none=>.error 2
  | some (x,t')=>Za n (l++[x]) t'
def Ya (c:Nat):Bool:=decide (c=9)||(decide (c=10)||(decide (c=13)||(decide (32≤c)&&decide (c≤65535))))
def zcl:Nat→List UInt8→Bool
 | 0,_=>true
 | n+1,l=>if l=[] then true else decide (0<(zo l).2)&&(Ya (zo l).1&&zcl n (l.drop (zo l).2))
def zab (s:List UInt8):Bool:=zcl s.length s
def zX (s:List UInt8):Except Int (List Tok):=if 8192<s.length then .error 3 else if zab s then Za (s.length+1) [] s else .error 2
theorem zjt (s:List UInt8):decodeGo ⟨s.toArray⟩=if s=[] then (65533,0) else decodeL s:=by
 unfold decodeGo
 cases s with
 | nil=>rfl
 | cons c r=>rw[if_neg (by simp[ByteArray.size]),if_neg (by simp)];rfl
theorem zig (s:List UInt8):Pure Tryz.prog 169 [.str s] (.tup [.int .i32 ((if s=[] then (65533,0) else decodeL s:Nat×Nat).1),.int .i64 ((if s=[] then (65533,0) else decodeL s:Nat×Nat).2)]):=by
 refine Pure.of_below fun γ w vs ht hv=>?_
 rw[zhR hv]
 have h:=Tryz.utf8_DecodeRuneInString ⟨s.toArray⟩ w (zf5 ht)
 rw[zjt] at h
 exact Calls.mono h fun e w' ⟨he,hb⟩=>⟨hb,_,he,zby (.int _ _) (.int _ _)⟩
theorem ze2:Go.Proofs.Builder.Extra Tryz.prog Tryz.lays156_ren where
 sizeBuilder:=by kernel_rfl
 liesBuilder:=by kernel_rfl
 t5:=Tryz.underlying5
 a5:=Tryz.isAgg5
 z5:=Tryz.sizeOf5
 v5:=Tryz.zeroValue5
 infoByte:=by kernel_rfl
 cellsByte:=by kernel_rfl
 sizeByte:=by kernel_rfl
 neB5:=by decide
theorem Z3 (l:List (List UInt8)) (sep:List UInt8) (hl:(Lib.join l sep).length≤140737488355328) (hn:l.length≤140737488355328):Pure Tryz.prog 63 [.sl .no 1 (cT l),.str sep] (.str (Lib.join l sep)):=by
 refine Pure.of_below fun γ w vs ht hv=>?_
 obtain⟨hlv,hr⟩:=hv
 match vs,hlv with
 | [v,u],_ =>
  have h0:=hr 0 _ _ rfl rfl
  cases hr 1 _ _ rfl rfl
  generalize hx:cT l=xs at h0
  cases h0 with
  | slnil _ _ ho =>
   have:l=[]:=by cases l with|nil=>rfl|cons a b=>simp[cT] at hx
   subst this
   exact(Any.strings_Join_none Tryz.lays156 ze2 none 0 ⟨sep.toArray⟩ w).mono fun e w' ⟨he,hw⟩=>⟨by rw[hw];exact RowKit.Below.refl _ _,_,he,.str _⟩
  | sl0 _ _ a ho =>
   have:l=[]:=by cases l with|nil=>rfl|cons a b=>simp[cT] at hx
   subst this
   exact(Any.strings_Join_none Tryz.lays156 ze2 (some a) 0 ⟨sep.toArray⟩ w).mono fun e w' ⟨he,hw⟩=>⟨by rw[hw];exact RowKit.Below.refl _ _,_,he,.str _⟩
  | sl _ _ _ b off cap cv hc hm hu hcell hrr ho =>
   subst hx
   have hcl:=zi8 l
   cases hl0:l with
   | nil =>
    subst hl0
    exact(Any.strings_Join_none Tryz.lays156 ze2 (some ⟨b,off,none⟩) cap ⟨sep.toArray⟩ w).mono fun e w' ⟨he,hw⟩=>⟨by rw[hw];exact RowKit.Below.refl _ _,_,he,.str _⟩
   | cons x0 r0 =>
    have hcells:∀(j:Nat) x,(l.map fun s=>(⟨s.toArray⟩:ByteArray))[j]?=some x→w.cell? ⟨b,off+j,none⟩=some (.string x):=fun j x hj=>by
     rw[yC,ZC] at hj
     obtain⟨s,h1,rfl⟩:=hj
     have g1:(cT l)[j]?=some [.str s]:=by simp[cT,h1]
     have h2:=hcell j _ g1 0 (by decide)
     have h3:=hrr j _ g1 0 (.str s) rfl
     have e:off+(j*1+0)=off+j:=by omega
     rw[e] at h2
     generalize cv j 0=y at h2 h3
     cases h3
     exact h2.1
    have hbk:b<w.heap.size:=by
     have:=hcells 0 ⟨x0.toArray⟩ (by rw[hl0];rfl)
     exact World.block_lt_of_cell? w _ this
    have hmap:(l.map fun s=>(⟨s.toArray⟩:ByteArray)).map (·.data.toList)=l:=by
     rw[List.map_map];exact(List.map_congr_left (g:=id) fun s _=>by simp).trans (List.map_id l)
    have h:=Any.strings_Join Tryz.lays156 ze2 b off cap (l.map fun s=>(⟨s.toArray⟩:ByteArray)) ⟨sep.toArray⟩ w hcells hbk (by simpa using hn) (by rw[List.length_map];omega) (by rw[hmap];exact hl)
    rw[List.length_map,hmap] at h
    rw[← hl0,hcl]
    exact h.mono fun e w' ⟨he,hb⟩=>⟨hb,_,he,.str _⟩
theorem zjH (s:List UInt8) (i:Nat) (hi:i<s.length) (hs:s.length≤Lim):Pure Tryz.prog 115 [.str s,.int .i64 i] (.tup [.int .i64 (zo (s.drop i)).1,.int .i64 (zo (s.drop i)).2]):=by
 refine Pure.go ir115 ck115 (Al4 _) fun KP Q hQ=>?_
 simp only[Lim] at hs
 have hne:s.drop i≠[]:=fun e=>by have:=congrArg List.length e;simp at this;omega
 have h1:¬ ((i:Int)<0):=by omega
 have h2:¬ ((s.length:Int)≤i):=by omega
 have h3:((i:Int)≤s.length)=True:=eq_true (by omega)
 simp(disch:=first|omega|assumption) only[ir115,h1,h2,h3,go_sem]
 refine goK_pure (zig (s.drop i)) ?_
 have hw:=decodeL_width (s.drop i)
 have hr:=decodeL_rune (s.drop i)
 unfold zo at hQ
 simp only[hne,if_false] at hQ ⊢
 generalize decodeL (s.drop i)=x at *
 obtain⟨c,k⟩:=x
 simp only at hw hr hQ
 have e:IntKind.wrap .i64 (c:Int)=c:=wrap64 (by omega) (by omega)
 by_cases hc:c=65533
 ·have g1:((c:Int)=65533)=True:=eq_true (by omega)
  by_cases hk:k<2
  ·have g2:((k:Int)<2)=True:=eq_true (by omega)
   have e1:(c,k)=(65533,1):=by rw[hc];congr 1;omega
   rw[if_pos e1] at hQ
   simp(disch:=first|omega|assumption) only[g1,g2,go_sem]
   exact hQ _ _ _ _ nofun rfl (by simp[tupOf,envOf,AV.strip,AV.strip1])
  ·have g2:¬ ((k:Int)<2):=by omega
   have e1:¬ ((c,k)=(65533,1)):=fun h=>by cases h;omega
   rw[if_neg e1] at hQ
   simp(disch:=first|omega|assumption) only[g1,g2,e,go_sem]
   exact hQ _ _ _ _ nofun rfl (by simp[tupOf,envOf,AV.strip,AV.strip1])
 ·have g1:¬ ((c:Int)=65533):=by omega
  have e1:¬ ((c,k)=(65533,1)):=fun h=>by cases h;omega
  rw[if_neg e1] at hQ
  simp(disch:=first|omega|assumption) only[g1,e,go_sem]
  exact hQ _ _ _ _ nofun rfl (by simp[tupOf,envOf,AV.strip,AV.strip1])
theorem zji (c:Nat) (h:c≤1114111):Pure Tryz.prog 116 [.int .i64 c] (.bool (Ya c)):=by
 refine Pure.go ir116 ck116 (Al4 _) fun KP Q hQ=>?_
 by_cases h1:c=9
 ·have g:((c:Int)=9)=True:=eq_true (by omega)
  simp(disch:=first|omega|assumption) only[ir116,g,go_sem]
  exact hQ _ _ _ _ nofun rfl (by simp[tupOf,envOf,AV.strip,AV.strip1,Ya,h1])
 have g1:¬ ((c:Int)=9):=by omega
 by_cases h2:c=10
 ·have g:((c:Int)=10)=True:=eq_true (by omega)
  simp(disch:=first|omega|assumption) only[ir116,g1,g,go_sem]
  exact hQ _ _ _ _ nofun rfl (by simp[tupOf,envOf,AV.strip,AV.strip1,Ya,h2])
 have g2:¬ ((c:Int)=10):=by omega
 by_cases h3:c=13
 ·have g:((c:Int)=13)=True:=eq_true (by omega)
  simp(disch:=first|omega|assumption) only[ir116,g1,g2,g,go_sem]
  exact hQ _ _ _ _ nofun rfl (by simp[tupOf,envOf,AV.strip,AV.strip1,Ya,h3])
 have g3:¬ ((c:Int)=13):=by omega
 by_cases h4:32≤c
 ·have g4:((32:Int)≤c)=True:=eq_true (by omega)
  by_cases h5:c≤65535
  ·have g5:((c:Int)≤65535)=True:=eq_true (by omega)
   simp(disch:=first|omega|assumption) only[ir116,g1,g2,g3,g4,g5,go_sem]
   exact hQ _ _ _ _ nofun rfl (by simp[tupOf,envOf,AV.strip,AV.strip1,Ya,h4,h5])
  ·have g5:¬ ((c:Int)≤65535):=by omega
   simp(disch:=first|omega|assumption) only[ir116,g1,g2,g3,g4,g5,go_sem]
   exact hQ _ _ _ _ nofun rfl (by simp[tupOf,envOf,AV.strip,AV.strip1,Ya,h1,h2,h3,h5])
 ·have g4:¬ ((32:Int)≤c):=by omega
  simp(disch:=first|omega|assumption) only[ir116,g1,g2,g3,g4,go_sem]
  exact hQ _ _ _ _ nofun rfl (by simp[tupOf,envOf,AV.strip,AV.strip1,Ya,h1,h2,h3,h4])
theorem zfV {l:List UInt8} (hne:l≠[]) (h:(zo l).2≠0):zo l=decodeL l∧decodeL l≠(65533,1):=by
 unfold zo at h ⊢
 rw[if_neg hne] at h ⊢
 split at h
 ·exact absurd rfl h
 ·rename_i h2;rw[if_neg h2];exact⟨rfl,h2⟩
def zck (r:List UInt8):Prop:=r=[]∨∃ c t,r=c::t∧(c=32∨c=10)
theorem zdS {r:List UInt8} (h:zck r):zh r=0:=by
 rcases h with rfl|⟨c,t,rfl,rfl|rfl⟩
 ·rfl
 all_goals simp[zh,isD]
theorem YE:∀(a:List UInt8) {r:List UInt8},zck r→zh (a++r)=zh a
 | [],r,h=>zdS h
 | c::a,r,h=>by simp only[Al6,zh];rw[YE a h]
theorem zdN (a:List UInt8) {r:List UInt8} (h:zck r):yl (a++r)=yl a:=by
 unfold yl
 rw[YE a h]
 cases a with
 | nil=>simp[zh]
 | cons c a=>simp
theorem zeN (a:List UInt8) {r:List UInt8} (h:zck r):zc (a++r)=zc a:=by
 cases a with
 | nil =>
  have h1:=zdS h
  have h2:zc []=0:=rfl
  rw[Y2,h2]
  unfold zc
  rcases h with rfl|⟨c,t,rfl,rfl|rfl⟩
  ·rfl
  all_goals
   rw[if_neg (by simp)];unfold yl;rw[if_pos h1]
 | cons c a =>
  by_cases hc:c=45
  ·subst hc;rw[Al6,yZ,yZ,YE a h,zdN a h]
  ·rw[yI (s:=c::a++r) (by simp[hc]),yI (s:=c::a) (by simp[hc]),zdN (c::a) h]
theorem zfx (a:List UInt8) {r:List UInt8} (h:zck r):zD (a++r)=zD a:=by
 cases a with
 | nil=>rcases h with rfl|⟨c,t,rfl,rfl|rfl⟩<;>rfl
 | cons c a=>simp[zD,YE a h]
theorem zgg (a:List UInt8) {r:List UInt8} (h:zck r):yr (a++r)=yr a:=by
 cases a with
 | nil =>
  rcases h with rfl|⟨c,t,rfl,rfl|rfl⟩
  ·rfl
  all_goals simp[yr,isE]
 | cons c a =>
  have hs:sgN (a++r)=sgN a:=by
   cases a with
   | nil=>rcases h with rfl|⟨c,t,rfl,rfl|rfl⟩<;>simp[sgN]
   | cons d a=>simp[sgN]
  have hd:(a++r).drop (sgN a)=a.drop (sgN a)++r:=zaz (zc2 a)
  simp only[Al6,yr,hs,hd,YE _ h]
theorem zhi {a:List UInt8} {r:List UInt8} (h:zck r):zA (a++r)=zA a:=by
 have h1:=YS a
 have e1:(a++r).drop (zc a)=a.drop (zc a)++r:=zaz h1
 have h2:=zbP (a.drop (zc a))
 simp only[zI] at h2
 have e2:(a++r).drop (zc a+zD (a.drop (zc a)))=a.drop (zc a+zD (a.drop (zc a)))++r:=zaz (by omega)
 unfold zA
 rw[zeN a h,e1,zfx _ h,e2,zgg _ h]
theorem zhy {P:UInt8→Bool} (h:(List.range 256).all (fun n=>P (UInt8.ofNat n))=true) (c:UInt8):P c=true:=by
 have h1:=ZW.1 h c.toNat (List.mem_range.2 (UInt8.toNat_lt c))
 simpa using h1
def zfa (c:UInt8):Bool:=decide (0≤Lib.indexByte Zg c)
def spB (c:UInt8):Bool:=decide (c=9∨c=10∨c=13∨c=32∨c=44)||decide (c=239)||decide (c=35)
theorem zgE (c:UInt8):(!zfa c||(!(decide (c=34))&&(!(decide (c=46))&&(!(isL c)&&(!(isD c)&&(!(decide (c=45))&&(!(spB c)&&decide (32≤c.toNat∧c.toNat<128))))))))=true:=zhy (P:=fun c=>(!zfa c||(!(decide (c=34))&&(!(decide (c=46))&&(!(isL c)&&(!(isD c)&&(!(decide (c=45))&&(!(spB c)&&decide (32≤c.toNat∧c.toNat<128))))))))) (by decide +kernel) c
theorem zcY {p:UInt8→Bool} {r:List UInt8} (h10:p 10=false) (h32:p 32=false) (h:zck r):∀ s:List UInt8,(s++r).takeWhile p=s.takeWhile p
 | []=>by
  rcases h with rfl|⟨c,t,rfl,rfl|rfl⟩
  ·rfl
  ·simp[h32]
  ·simp[h10]
 | c::s=>by
  simp only[Al6,List.takeWhile_cons]
  split
  ·rw[zcY h10 h32 h s]
  ·rfl
theorem zcJ {p:UInt8→Bool}:∀ s:List UInt8,(∀ c∈s,p c=true)→s.takeWhile p=s
 | [],_=>rfl
 | c::s,h=>by
  simp only[List.takeWhile_cons,h c (.head _),if_true]
  rw[zcJ s fun d hd=>h d (.tail _ hd)]
theorem zfK (s:List UInt8) {r:List UInt8} (h:zck r):zM (s++r)=zM s:=by
 unfold zM;rw[zcY (by decide) (by decide) h s]
theorem zfv {s:List UInt8} (h:(zA s).1≠0):zc s≠0:=fun e=>h (by unfold zA;rw[if_pos e])
theorem zgh {s:List UInt8} (h:(zA s).1≠0):(zA s).2=3∨(zA s).2=4:=by
 have hw:=zfv h
 unfold zA
 rw[if_neg hw]
 simp only
 split<;>simp
theorem zcB:∀(n m:Nat) (l:List UInt8),l.length≤n→l.length≤m→zcl n l=zcl m l
 | 0,m,l,h,_=>by
  obtain rfl:l=[]:=zfT.1 (by omega)
  cases m<;>simp[zcl]
 | n+1,0,l,_,h=>by
  obtain rfl:l=[]:=zfT.1 (by omega)
  simp[zcl]
 | n+1,m+1,l,h1,h2=>by
  simp only[zcl]
  split
  ·rfl
  ·by_cases hp:0<(zo l).2
   ·rw[zcB n m (l.drop (zo l).2) (by simp;omega) (by simp;omega)]
   ·simp[hp]
theorem zcO {l:List UInt8} (hne:l≠[]):zab l=(decide (0<(zo l).2)&&(Ya (zo l).1&&zab (l.drop (zo l).2))):=by
 unfold zab
 have hl:0<l.length:=List.length_pos_iff.2 hne
 obtain⟨m,hm⟩:∃ m,l.length=m+1:=⟨l.length-1,by omega⟩
 rw[hm,zcl,if_neg hne]
 by_cases hp:0<(zo l).2
 ·rw[zcB m (l.drop (zo l).2).length (l.drop (zo l).2) (by simp;omega) (Al4 _)]
 ·simp[hp]
theorem zgU:zab []=true:=rfl
theorem zfC (c:UInt8):nch c=true→32≤c.toNat∧c.toNat<128:=zam (P:=fun c=>nch c=true→32≤c.toNat∧c.toNat<128) (by decide +kernel) c
theorem zfG {s:List UInt8} (h:Yk s≠0):∀ b∈s,32≤b.toNat∧b.toNat<128:=fun b hb=>zfC b ((zgR h).1 b hb)
theorem ZM:∀(p s t:List UInt8),(∀ x∈p,x≠10)→p.isPrefixOf (s++10::t)=p.isPrefixOf s
 | [],s,t,_=>by cases s<;>simp
 | x::p,[],t,h=>by
  have h1:=h x (.head _)
  simp[List.isPrefixOf,h1]
 | x::p,c::s,t,h=>by
  simp only[Al6,List.isPrefixOf]
  rw[ZM p s t fun y hy=>h y (.tail _ hy)]
theorem z7:∀(p s:List UInt8),p.isPrefixOf s=true→p.length≤s.length
 | [],s,_=>Nat.zero_le _
 | x::p,[],h=>by simp[List.isPrefixOf] at h
 | x::p,c::s,h=>by
  simp only[List.isPrefixOf,Al0] at h
  have:=z7 p s h.2
  simp only[Al2];omega
theorem zix (t:List UInt8):zck (10::t):=.inr ⟨10,t,rfl,.inr rfl⟩
theorem zbG:∀(n:Nat) (raw s:List UInt8) (b s':List UInt8),yd n raw s=some (b,s')→s'.length<s.length∧∀(m:Nat) (t:List UInt8),n≤m→yd m raw (s++10::t)=some (b,s'++10::t)
 | 0,_,_,_,_,h=>by cases h
 | n+1,raw,[],_,_,h=>by simp[yd] at h
 | n+1,raw,c::r,b,s',h=>by
  simp only[yd] at h
  by_cases h1:zu.isPrefixOf (c::r)=true
  ·rw[if_pos h1] at h
   have hl:=z7 _ _ h1
   simp only[zu,Al2,Al3] at hl
   simp only[Al1,Al8] at h
   obtain⟨rfl,rfl⟩:=h
   refine⟨by simp;omega,fun m t hm=>?_⟩
   obtain⟨k,rfl⟩:∃ k,m=k+1:=⟨m-1,by omega⟩
   have e:=ZM zu (c::r) t (by decide)
   rw[Al6] at e
   simp only[yd,Al6]
   rw[e,if_pos h1,zaz (by omega)]
  ·rw[if_neg h1] at h
   by_cases h2:zbR.isPrefixOf (c::r)=true
   ·rw[if_pos h2] at h
    have hl:=z7 _ _ h2
    simp only[zbR,Al2,Al3] at hl
    obtain⟨g1,g2⟩:=zbG n _ _ _ _ h
    refine⟨by simp at g1 ⊢;omega,fun m t hm=>?_⟩
    obtain⟨k,rfl⟩:∃ k,m=k+1:=⟨m-1,by omega⟩
    have e:=ZM zu (c::r) t (by decide)
    have e2:=ZM zbR (c::r) t (by decide)
    rw[Al6] at e e2
    simp only[yd,Al6]
    rw[e,if_neg h1,e2,if_pos h2,zaz (by omega)]
    exact g2 k t (by omega)
   ·rw[if_neg h2] at h
    obtain⟨g1,g2⟩:=zbG n _ _ _ _ h
    refine⟨by simp;omega,fun m t hm=>?_⟩
    obtain⟨k,rfl⟩:∃ k,m=k+1:=⟨m-1,by omega⟩
    have e:=ZM zu (c::r) t (by decide)
    have e2:=ZM zbR (c::r) t (by decide)
    rw[Al6] at e e2
    simp only[yd,Al6]
    rw[e,if_neg h1,e2,if_neg h2]
    exact g2 k t (by omega)
theorem zcV:∀(n:Nat) (s:List UInt8) (u v:Nat) (t:List UInt8),yu n s u=some v→n≤s.length∧yu n (s++t) u=some v
 | 0,s,u,v,t,h=>by
  simp only[yu] at h ⊢
  exact⟨Nat.zero_le _,h⟩
 | n+1,[],u,v,t,h=>by simp[yu] at h
 | n+1,c::s,u,v,t,h=>by
  simp only[yu,Al6] at h ⊢
  cases hx:hexD c with
  | none=>rw[hx] at h;cases h
  | some k =>
   rw[hx] at h
   simp only at h ⊢
   have:=zcV n s _ v t h
   exact⟨by simp;omega,this.2⟩
theorem zgl {q q':Sd} {s s':List UInt8} (t:List UInt8) (h:yJ q s=some (q',s')):yJ q (s++t)=some (q',s'++t):=by
 cases s with
 | nil=>cases h
 | cons c r =>
  simp only[yJ,Al6] at h ⊢
  by_cases h1:c=117
  ·rw[if_pos h1] at h ⊢
   cases hu:yD r with
   | none=>rw[hu] at h;cases h
   | some u =>
    obtain⟨g1,g2⟩:=zcV 4 r 0 u t hu
    rw[hu] at h
    simp only[zK,Al1,Al8] at h
    obtain⟨rfl,rfl⟩:=h
    rw[yD,g2]
    simp only[zK,Al1,Al8,true_and]
    exact zaz g1
  ·rw[if_neg h1] at h ⊢
   split at h
   ·cases h
   ·rename_i h2
    rw[if_neg h2]
    simp only[Al1,Al8] at h ⊢
    obtain⟨rfl,rfl⟩:=h
    exact⟨rfl,rfl⟩
theorem zce {may:UInt8→Bool} (t:List UInt8):∀(n:Nat) (s:List UInt8) (q q':Sd) (s':List UInt8),Zj may n s q=some (q',s')→∀ m,n≤m→Zj may m (s++t) q=some (q',s'++t)
 | 0,_,_,_,_,h=>by cases h
 | n+1,[],_,_,_,h=>by cases h
 | n+1,c::s,q,q',s',h=>fun m hm=>by
  obtain⟨k,rfl⟩:∃ k,m=k+1:=⟨m-1,by omega⟩
  simp only[Zj,Al6] at h ⊢
  by_cases h1:c=34
  ·rw[if_pos h1] at h ⊢
   simp only[Al1,Al8] at h ⊢
   exact⟨h.1,by rw[h.2]⟩
  rw[if_neg h1] at h ⊢
  by_cases h2:c=92
  ·rw[if_pos h2] at h ⊢
   cases he:yJ q s with
   | none=>rw[he] at h;cases h
   | some x =>
    rw[he] at h
    rw[zgl t (q':=x.1) (s':=x.2) he]
    exact zce t n _ _ _ _ h k (by omega)
  rw[if_neg h2] at h ⊢
  split at h
  ·rename_i h3
   rw[if_pos h3]
   exact zce t n _ _ _ _ h k (by omega)
  ·cases h
theorem zgX {may:UInt8→Bool} {s s' b:List UInt8} (t:List UInt8) (h:yt may s=some (b,s')):yt may (s++t)=some (b,s'++t):=by
 unfold yt at h ⊢
 cases hq:Zj may (s.length+1) s ⟨[],[],true⟩ with
 | none=>rw[hq] at h;cases h
 | some x =>
  rw[hq] at h
  rw[zce t _ _ _ x.1 x.2 hq _ (by simp)]
  simp only at h ⊢
  split at h
  ·rename_i h1
   simp only[Al1,Al8] at h
   rw[if_pos h1]
   simp[h.1,h.2]
  ·cases h
theorem zaI (s:List UInt8):zM s≤s.length:=by unfold zM;exact(List.takeWhile_sublist _).length_le
theorem YC (s:List UInt8):(zA s).1≤s.length:=by
 unfold zA
 split
 ·simp
 ·have h1:=YS s
  have h2:=zbP (s.drop (zc s))
  have h3:=zdu (s.drop (zc s+zD (s.drop (zc s))))
  simp only[zI] at h2 h3
  simp only;omega
theorem zge {s s':List UInt8} {x:Tok} (h:zU s=some (x,s')) (t:List UInt8):s'.length<s.length∧zU (s++10::t)=some (x,s'++10::t):=by
 cases s with
 | nil=>cases h
 | cons c r =>
  have e3:=ZM zu (c::r) t (by decide)
  have ed:=ZM yU (c::r) t (by decide)
  rw[Al6] at e3 ed
  have hw:=zfK (c::r) (zix t)
  have hn:=zhi (a:=c::r) (zix t)
  simp only[zU] at h
  simp only[zU,Al6]
  rw[e3,ed]
  by_cases h1:zu.isPrefixOf (c::r)=true
  ·rw[if_pos h1] at h ⊢
   have hl:=z7 _ _ h1
   simp only[zu,Al2,Al3] at hl
   cases hr:yd (r.length+1) [] (r.drop 2) with
   | none=>rw[hr] at h;cases h
   | some y =>
    rw[hr] at h
    simp only[zK,Al1,Al8] at h
    obtain⟨rfl,rfl⟩:=h
    obtain⟨g1,g2⟩:=zbG _ _ _ y.1 y.2 hr
    simp only[zI] at g1
    rw[zaz (by omega),g2 _ t (by simp)]
    exact⟨by simp only[Al2];omega,rfl⟩
  rw[if_neg h1] at h ⊢
  by_cases h2:c=34
  ·rw[if_pos h2] at h ⊢
   cases hr:yt zJ r with
   | none=>rw[hr] at h;cases h
   | some y =>
    rw[hr] at h
    simp only[zK,Al1,Al8] at h
    obtain⟨rfl,rfl⟩:=h
    have g1:=zdZ (t':=y.2) (b:=y.1) hr
    rw[zgX (10::t) (b:=y.1) (s':=y.2) hr]
    exact⟨by simp only[Al2];omega,rfl⟩
  rw[if_neg h2] at h ⊢
  by_cases h3:yU.isPrefixOf (c::r)=true
  ·rw[if_pos h3] at h ⊢
   have hl:=z7 _ _ h3
   simp only[yU,Al2,Al3] at hl
   simp only[Al1,Al8] at h ⊢
   obtain⟨rfl,rfl⟩:=h
   exact⟨by simp;omega,rfl,zaz (by omega)⟩
  rw[if_neg h3] at h ⊢
  by_cases h4:0≤Lib.indexByte Zg c
  ·rw[if_pos h4] at h ⊢
   simp only[Al1,Al8] at h ⊢
   obtain⟨rfl,rfl⟩:=h
   exact⟨by simp,rfl,rfl⟩
  rw[if_neg h4] at h ⊢
  by_cases h5:isL c=true
  ·rw[if_pos h5] at h ⊢
   have hl:=zaI (c::r)
   have hp:0<zM (c::r):=by unfold zM;simp[h5]
   simp only[Al1,Al8] at h ⊢
   obtain⟨rfl,rfl⟩:=h
   rw[← Al6,hw,List.take_append_of_le_length hl,zaz hl]
   exact⟨by rw[zI];simp only[Al2] at hl ⊢;omega,rfl,rfl⟩
  rw[if_neg h5] at h ⊢
  rw[← Al6,hn]
  by_cases h6:(zA (c::r)).1=0
  ·rw[if_pos h6] at h;cases h
  rw[if_neg h6] at h ⊢
  have hl:=YC (c::r)
  rw[List.take_append_of_le_length hl,zaz hl]
  have hh:(((c::r).drop (zA (c::r)).1++10::t).head?.any fun d=>isL d||isD d||decide (d=46))=(((c::r).drop (zA (c::r)).1).head?.any fun d=>isL d||isD d||decide (d=46)):=by
   cases (c::r).drop (zA (c::r)).1 with
   | nil=>simp[isL,isD]
   | cons d t=>rfl
  rw[hh]
  split at h
  ·cases h
  ·rename_i h7
   rw[if_neg h7]
   simp only[Al1,Al8] at h ⊢
   obtain⟨rfl,rfl⟩:=h
   exact⟨by rw[zI];simp only[Al2] at hl ⊢;omega,rfl,rfl⟩
theorem zas (s:List UInt8):yB s≤s.length:=by
 cases s with
 | nil=>simp[yB]
 | cons c r =>
  simp only[yB]
  split
  ·simp
  ·split
   ·rename_i h;have:=z7 _ _ h;simpa[zde] using this
   ·split
    ·have:=(List.takeWhile_sublist zx (l:=r)).length_le;simp only[Al2];omega
    ·simp
theorem YU {s s':List UInt8} {x:Tok} (h:zU s=some (x,s')):s'.length<s.length:=(zge h []).1
theorem Ym:∀(n m:Nat) (l:List Tok) (s:List UInt8),s.length<n→s.length<m→Za n l s=Za m l s
 | 0,_,_,_,h,_=>by omega
 | _,0,_,_,_,h=>by omega
 | n+1,m+1,l,s,h1,h2=>by
  simp only[Za]
  split
  ·rfl
  ·rename_i hne
   split
   ·rename_i hg
    have hl:0<s.length:=List.length_pos_iff.2 hne
    exact Ym n m _ _ (by rw[zI];omega) (by rw[zI];omega)
   ·cases ho:zU s with
    | none=>rfl
    | some x =>
     have:=YU (x:=x.1) (s':=x.2) ho
     exact Ym n m _ _ (by omega) (by omega)
theorem zd5 {s:List UInt8} {l:List Tok} (h:zX s=.ok l):s.length≤8192∧zab s=true∧Za (s.length+1) [] s=.ok l:=by
 unfold zX at h
 split at h
 ·cases h
 ·split at h
  ·rename_i h1 h2;exact⟨by omega,h2,h⟩
  ·cases h
theorem Yx:∀(l:List UInt8) (m:Nat),zh (l.take m)=min m (zh l)
 | [],m=>by simp[zh]
 | c::l,0=>by simp[zh]
 | c::l,m+1=>by
  simp only[Yf,zh]
  split
  ·rw[Yx l m];omega
  ·simp
theorem zdR (s:List UInt8) (m:Nat) (h:yl s≤m):yl (s.take m)=yl s:=by
 unfold yl at h ⊢
 rw[Yx]
 by_cases h1:zh s=0
 ·rw[h1];simp
 rw[if_neg h1] at h ⊢
 by_cases h2:s.getD 0 0=48
 ·rw[if_pos h2] at h ⊢
  have e:(s.take m).getD 0 0=s.getD 0 0:=by
   cases s with
   | nil=>simp
   | cons c r=>obtain⟨k,rfl⟩:∃ k,m=k+1:=⟨m-1,by omega⟩;simp
  rw[e,if_pos h2,if_neg (by omega)]
 ·rw[if_neg h2] at h ⊢
  have e:(s.take m).getD 0 0=s.getD 0 0:=by
   cases s with
   | nil=>simp
   | cons c r=>obtain⟨k,rfl⟩:∃ k,m=k+1:=⟨m-1,by omega⟩;simp
  rw[e,if_neg h2,if_neg (by omega)]
  omega
theorem zbT (s:List UInt8) (m:Nat) (h:zc s≤m):zc (s.take m)=zc s:=by
 cases s with
 | nil=>simp
 | cons c r =>
  cases m with
  | zero =>
   have:zc (c::r)=0:=by omega
   rw[this];rfl
  | succ m =>
   by_cases hc:c=45
   ·subst hc
    rw[Yf]
    rw[yZ] at h ⊢
    rw[yZ,Yx]
    by_cases h1:zh r=0
    ·rw[h1];simp
    ·rw[if_neg h1] at h ⊢
     have h2:yl r≠0:=by unfold yl;rw[if_neg h1];split<;>omega
     rw[if_neg (by omega),zdR r m (by omega)]
   ·rw[yI (s:=c::r) (by simp[hc])] at h ⊢
    rw[yI (s:=(c::r).take (m+1)) (by simp[hc]),zdR _ _ h]
theorem zaj (c:UInt8) (r:List UInt8):zD (c::r)=if c=46∧0<zh r then 1+zh r else 0:=by simp[zD]
theorem zft (s:List UInt8) (m:Nat) (h:zD s≤m):zD (s.take m)=zD s:=by
 cases s with
 | nil=>simp
 | cons c r =>
  cases m with
  | zero =>
   have:zD (c::r)=0:=by omega
   rw[this];rfl
  | succ m =>
   rw[Yf,zaj,zaj,Yx]
   rw[zaj] at h
   by_cases h1:c=46∧0<zh r
   ·rw[if_pos h1] at h ⊢
    rw[if_pos ⟨h1.1,by omega⟩];omega
   ·rw[if_neg h1]
    rw[if_neg]
    rintro⟨g1,g2⟩
    exact h1 ⟨g1,by omega⟩
theorem zh7 (r:List UInt8) (m:Nat) (h:m≠0):sgN (r.take m)=sgN r:=by
 cases r with
 | nil=>simp
 | cons c r =>
  obtain⟨k,rfl⟩:∃ k,m=k+1:=⟨m-1,by omega⟩
  simp[sgN]
theorem zf3 (s:List UInt8) (m:Nat) (h:yr s≤m):yr (s.take m)=yr s:=by
 cases s with
 | nil=>simp
 | cons c r =>
  cases m with
  | zero =>
   have:yr (c::r)=0:=by omega
   rw[this];rfl
  | succ m =>
   simp only[Yf,yr] at h ⊢
   by_cases h1:isE c=true
   case neg=>rw[if_neg h1,if_neg h1]
   rw[if_pos h1] at h ⊢
   rw[if_pos h1]
   by_cases hm:m=0
   ·subst hm
    have h2:zh (r.drop (sgN r))=0:=by
     by_cases h2:zh (r.drop (sgN r))=0
     ·exact h2
     ·rw[if_neg h2] at h;omega
    rw[if_pos h2]
    simp[zh]
   ·rw[zh7 r m hm,List.drop_take,Yx]
    by_cases h2:zh (r.drop (sgN r))=0
    ·rw[if_pos h2,if_pos (by omega)]
    ·rw[if_neg h2] at h ⊢
     rw[if_neg (by omega)];omega
theorem zec (s:List UInt8) (m:Nat) (h:(zA s).1≤m):zA (s.take m)=zA s:=by
 by_cases hw:zc s=0
 ·unfold zA
  rw[zbT s m (by omega),if_pos hw,if_pos hw]
 ·have h':=h
  unfold zA at h
  rw[if_neg hw] at h
  simp only at h
  unfold zA
  rw[zbT s m (by omega),if_neg hw,if_neg hw,List.drop_take,List.drop_take,zft _ _ (by omega),zf3 _ _ (by omega)]
theorem zfy {s:List UInt8} (h:(zA s).1≠0):y7 ⟨(zA s).2,s.take (zA s).1⟩=true:=by
 have h2:=zgh h
 have hl:=YC s
 unfold y7
 simp only
 rw[if_neg (by omega),if_neg (by omega),if_pos h2]
 unfold Yk
 rw[zec s _ (Al4 _),List.length_take,Nat.min_eq_left hl,if_pos rfl]
 simp
theorem zdV:∀(s:List UInt8) (i:Nat),i≠0→(∀ c∈s,(isL c||isD c)=true)→zef s i=true
 | [],_,_,_=>rfl
 | c::r,i,hi,h=>by
  have h1:=h c (.head _)
  simp only[zef]
  rw[if_pos (by simpa[hi] using h1)]
  exact zdV r (i+1) (by omega) fun d hd=>h d (.tail _ hd)
theorem zdy {p:UInt8→Bool}:∀(s:List UInt8),∀ c∈s.takeWhile p,p c=true
 | [],c,h=>by simp at h
 | d::s,c,h=>by
  simp only[List.takeWhile_cons] at h
  split at h
  ·rename_i hd
   rcases List.mem_cons.1 h with rfl|h
   ·exact hd
   ·exact zdy s c h
  ·simp at h
theorem zb7 (p:UInt8→Bool) (s:List UInt8):s.take (s.takeWhile p).length=s.takeWhile p:=by
 induction s with
 | nil=>rfl
 | cons c s ih =>
  simp only[List.takeWhile_cons]
  split
  ·simp[ih]
  ·rfl
theorem zdF {c:UInt8} {r:List UInt8} (h:isL c=true):y7 ⟨2,(c::r).take (zM (c::r))⟩=true:=by
 unfold y7
 simp only
 rw[if_neg (by decide),if_pos trivial]
 unfold zM
 rw[zb7]
 have h1:=zdy (p:=fun c=>isL c||isD c) (c::r)
 simp only[List.takeWhile_cons,h,Bool.true_or,if_true] at h1 ⊢
 simp only[zbV,zef,h,Bool.true_or,if_true,Al0,zm]
 exact⟨zdV _ 1 (by decide) fun d hd=>h1 d (.tail _ hd),by simp⟩
theorem yK {c:UInt8} (hc:c.toNat<128) {b:List UInt8} (h:validD (c::b)=true):validD b=true:=(YD hc (a:=[]) h).2
theorem zgP {c:UInt8} (hc:c.toNat<128) {b:List UInt8} (h:validD b=true):validD (c::b)=true:=ZO (a:=[c]) (za1 fun d hd=>by simp only[List.mem_singleton] at hd;subst hd;exact hc) h
theorem Zs:∀ {p s:List UInt8},p.isPrefixOf s=true→s=p++s.drop p.length
 | [],s,_=>rfl
 | x::p,[],h=>by simp[List.isPrefixOf] at h
 | x::p,c::s,h=>by
  simp only[List.isPrefixOf,Al0,beq_iff_eq] at h
  have:=Zs h.2
  rw[h.1]
  simp only[Al6,Al2,List.drop_succ_cons,List.cons.injEq,true_and]
  exact this
theorem zao:∀(n:Nat) (raw t b s':List UInt8),yd n raw t=some (b,s')→validD (raw++t)=true→validD b=true∧validD s'=true
 | 0,_,_,_,_,h,_=>by cases h
 | n+1,raw,[],_,_,h,_=>by simp[yd] at h
 | n+1,raw,c::r,b,s',h,hv=>by
  simp only[yd] at h
  split at h
  ·rename_i h1
   simp only[Al1,Al8] at h
   obtain⟨rfl,rfl⟩:=h
   have e:=Zs h1
   simp only[zu,Al6,Y2,Al2,Al3,List.drop_succ_cons,Nat.zero_add,Nat.reduceAdd] at e
   rw[e] at hv
   have g:=YD (c:=34) (by decide) hv
   exact⟨g.1,yK (c:=34) (by decide) (yK (c:=34) (by decide) g.2)⟩
  ·split at h
   ·rename_i h2
    have e:=Zs h2
    simp only[zbR,Al6,Y2,Al2,Al3,List.drop_succ_cons,Nat.zero_add,Nat.reduceAdd] at e
    rw[e] at hv
    have g:=YD (c:=92) (by decide) hv
    refine zao n _ _ _ _ h ?_
    rw[zbw]
    exact ZO g.1 g.2
   ·exact zao n _ _ _ _ h (by rw[zbw];exact hv)
theorem yR:∀(s cur:List UInt8),validD (cur++s)=true→∀ x∈zz cur s,validD x=true
 | [],cur,h,x,hx=>by
  simp only[zz,List.mem_singleton] at hx
  subst hx;simpa using h
 | [c],cur,h,x,hx=>by
  simp only[zz] at hx
  split at hx
  ·rename_i hc
   have hc2:c.toNat<128:=by rcases hc with rfl|rfl<;>decide
   have g:=YD hc2 h
   simp only[List.mem_cons,List.not_mem_nil,or_false] at hx
   rcases hx with rfl|rfl
   ·exact g.1
   ·rfl
  ·simp only[List.mem_singleton] at hx
   subst hx;exact h
 | c::d::r,cur,h,x,hx=>by
  simp only[zz] at hx
  split at hx
  ·rename_i hc
   subst hc
   have g:=YD (c:=10) (by decide) h
   rcases List.mem_cons.1 hx with rfl|hx
   ·exact g.1
   ·exact yR (d::r) [] g.2 x hx
  ·split at hx
   ·rename_i hc
    subst hc
    have g:=YD (c:=13) (by decide) h
    split at hx
    ·rename_i hd
     subst hd
     rcases List.mem_cons.1 hx with rfl|hx
     ·exact g.1
     ·exact yR r [] (yK (c:=10) (by decide) g.2) x hx
    ·rcases List.mem_cons.1 hx with rfl|hx
     ·exact g.1
     ·exact yR (d::r) [] g.2 x hx
   ·exact yR (d::r) (cur++[c]) (by rw[zbw];exact h) x hx
termination_by s=>s.length
theorem zgn {c:UInt8} (h:zal c=true):c.toNat<128:=by
 simp only[zal,zaW,zm] at h
 rcases h with rfl|rfl<;>decide
theorem zeS:∀(s:List UInt8) (n:Nat),n≤yv s→validD s=true→validD (s.drop n)=true
 | [],n,_,_=>by simp;rfl
 | c::s,0,_,h=>h
 | c::s,n+1,hn,h=>by
  unfold yv at hn
  simp only[List.takeWhile_cons] at hn
  split at hn
  ·rename_i hc
   simp only[Al2] at hn
   exact zeS s n (by unfold yv;omega) (yK (zgn hc) h)
  ·simp at hn
theorem zdb:∀(L:List (List UInt8)) (a:Int),(0≤a→Yl L a≤a∧0≤Yl L a)∧(∀ s∈L,zr s=false→Yl L a≤yv s∧0≤Yl L a)
 | [],a=>⟨fun h=>⟨Int.le_refl _,h⟩,fun s hs=>nomatch hs⟩
 | s::r,a=>by
  simp only[Yl]
  have ih:=zdb r
  by_cases hb:zr s=true
  ·rw[if_pos hb]
   refine⟨(ih a).1,fun x hx hxb=>?_⟩
   rcases List.mem_cons.1 hx with rfl|hx
   ·rw[hb] at hxb;cases hxb
   ·exact(ih a).2 x hx hxb
  ·rw[if_neg hb]
   by_cases hc:a<0∨(yv s:Int)<a
   ·rw[if_pos hc]
    have h1:=(ih (yv s)).1 (by omega)
    refine⟨fun h=>⟨by omega,h1.2⟩,fun x hx hxb=>?_⟩
    rcases List.mem_cons.1 hx with rfl|hx
    ·exact h1
    ·exact(ih _).2 x hx hxb
   ·rw[if_neg hc]
    have h1:=(ih a).1 (by omega)
    refine⟨fun _=>h1,fun x hx hxb=>?_⟩
    rcases List.mem_cons.1 hx with rfl|hx
    ·exact⟨by omega,h1.2⟩
    ·exact(ih _).2 x hx hxb
theorem zcL {s:List UInt8} (h:zr s=true):yv s=s.length:=by
 unfold zr at h
 unfold yv
 rw[zcJ s (ZW.1 h)]
theorem zeh {l:List (List UInt8)} (h:∀ x∈l,validD x=true):∀ x∈ZL l,validD x=true:=by
 cases l with
 | nil=>exact fun x hx=>nomatch hx
 | cons y r =>
  intro x hx
  simp only[ZL] at hx
  rcases List.mem_cons.1 hx with rfl|hx
  ·exact h _ (.head _)
  ·obtain⟨s,hs,rfl⟩:=List.mem_map.1 hx
   have hv:=h s (.tail _ hs)
   by_cases hl:(indM (y::r)).toNat≤yv s
   ·exact zeS s _ hl hv
   ·cases hb:zr s with
    | true =>
     have:=zcL hb
     rw[List.drop_eq_nil_of_le (by omega)];rfl
    | false =>
     have:=(zdb r (-1)).2 s hs hb
     have e:indM (y::r)=Yl r (-1):=rfl
     rw[e] at hl
     omega
theorem zaC:∀ l:List (List UInt8),(∀ x∈l,validD x=true)→validD (Lib.join l [10])=true
 | [],_=>rfl
 | [x],h=>by simpa[Lib.join] using h x (.head _)
 | x::y::r,h=>by
  have e:Lib.join (x::y::r) [10]=x++10::Lib.join (y::r) [10]:=by simp[Lib.join]
  rw[e]
  exact ZO (h x (.head _)) (zgP (by decide) (zaC (y::r) fun z hz=>h z (.tail _ hz)))
theorem zgo {l:List (List UInt8)}:∀ x∈yG l,x∈l:=fun x hx=>by
 unfold yG at hx
 have h1:=List.mem_reverse.1 hx
 exact List.mem_reverse.1 ((List.dropWhile_sublist _).subset h1)
theorem zdd {raw:List UInt8} (h:validD raw=true):validD (zy raw)=true:=by
 unfold zy
 refine zaC _ fun x hx=>?_
 exact zeh (yR raw [] h) x ((List.dropWhile_sublist _).subset (zgo x hx))
theorem zcD {s s':List UInt8} {x:Tok} (hv:validD s=true) (h:zU s=some (x,s')):y7 x=true∧validD s'=true:=by
 cases s with
 | nil=>cases h
 | cons c r =>
  simp only[zU] at h
  by_cases h1:zu.isPrefixOf (c::r)=true
  ·rw[if_pos h1] at h
   have e:=Zs h1
   simp only[zu,Al6,Y2,Al2,Al3,List.drop_succ_cons,Nat.zero_add,Nat.reduceAdd] at e
   cases hr:yd (r.length+1) [] (r.drop 2) with
   | none=>rw[hr] at h;cases h
   | some y =>
    rw[hr] at h
    simp only[zK,Al1,Al8] at h
    obtain⟨rfl,rfl⟩:=h
    rw[e] at hv
    have g:=zao _ _ _ y.1 y.2 hr (yK (c:=34) (by decide) (yK (c:=34) (by decide) (yK (c:=34) (by decide) hv)))
    refine⟨?_,g.2⟩
    simp[y7,zdd g.1]
  rw[if_neg h1] at h
  by_cases h2:c=34
  ·rw[if_pos h2] at h
   cases hr:yt zJ r with
   | none=>rw[hr] at h;cases h
   | some y =>
    rw[hr] at h
    simp only[zK,Al1,Al8] at h
    obtain⟨rfl,rfl⟩:=h
    have g:=zem (b:=y.1) (t':=y.2) hr (yK (by rw[h2];decide) hv)
    exact⟨by simp[y7,g.1],g.2⟩
  rw[if_neg h2] at h
  by_cases h3:yU.isPrefixOf (c::r)=true
  ·rw[if_pos h3] at h
   have e:=Zs h3
   simp only[yU,Al6,Y2,Al2,Al3,List.drop_succ_cons,Nat.zero_add,Nat.reduceAdd] at e
   simp only[Al1,Al8] at h
   obtain⟨rfl,rfl⟩:=h
   rw[e] at hv
   exact⟨by decide,yK (c:=46) (by decide) (yK (c:=46) (by decide) (yK (c:=46) (by decide) hv))⟩
  rw[if_neg h3] at h
  by_cases h4:0≤Lib.indexByte Zg c
  ·rw[if_pos h4] at h
   simp only[Al1,Al8] at h
   obtain⟨rfl,rfl⟩:=h
   have hm:=zgE c
   have hm2:zfa c=true:=by simpa[zfa] using h4
   simp only[hm2,Bool.not_true,Bool.false_or,Al0,zm] at hm
   exact⟨by simp[y7,zgO,h4],yK hm.2.2.2.2.2.2.2 hv⟩
  rw[if_neg h4] at h
  by_cases h5:isL c=true
  ·rw[if_pos h5] at h
   simp only[Al1,Al8] at h
   obtain⟨rfl,rfl⟩:=h
   refine⟨zdF h5,?_⟩
   have ht:validD ((c::r).take (zM (c::r)))=true:=za1 fun d hd=>by
    unfold zM at hd
    rw[zb7] at hd
    have:=zdy (p:=fun c=>isL c||isD c) _ d hd
    simp only[isL,isD,zaW,Al0,zm] at this
    omega
   rw[← zdk ht,List.take_append_drop];exact hv
  rw[if_neg h5] at h
  by_cases h6:(zA (c::r)).1=0
  ·rw[if_pos h6] at h;cases h
  rw[if_neg h6] at h
  split at h
  ·cases h
  ·simp only[Al1,Al8] at h
   obtain⟨rfl,rfl⟩:=h
   have hr:=zfy h6
   refine⟨hr,?_⟩
   have hk:Yk ((c::r).take (zA (c::r)).1)≠0:=by
    unfold Yk
    rw[zec _ _ (Al4 _),List.length_take,Nat.min_eq_left (YC _),if_pos rfl]
    have:=zgh h6
    omega
   have ht:validD ((c::r).take (zA (c::r)).1)=true:=za1 fun d hd=>(zfG hk d hd).2
   rw[← zdk ht,List.take_append_drop];exact hv
theorem zcb (p:UInt8→Bool):∀ r:List UInt8,r.drop (r.takeWhile p).length=r.dropWhile p
 | []=>rfl
 | c::r=>by
  simp only[List.takeWhile_cons,List.dropWhile_cons]
  split
  ·simp[zcb p r]
  ·rfl
theorem zd3 {s:List UInt8} (hv:validD s=true):validD (s.drop (yB s))=true:=by
 cases s with
 | nil=>rfl
 | cons c r =>
  simp only[yB]
  split
  ·rename_i h
   have hc:c.toNat<128:=by rcases h with rfl|rfl|rfl|rfl|rfl<;>decide
   exact yK hc hv
  ·split
   ·rename_i h
    have e:=Zs h
    rw[e] at hv
    have hb:validD zde=true:=by decide
    rw[zdk hb] at hv
    exact hv
   ·split
    ·rename_i h
     subst h
     have hr:=yK (c:=35) (by decide) hv
     rw[show 1+(r.takeWhile zx).length=(r.takeWhile zx).length+1 by omega,List.drop_succ_cons]
     have ec:r.takeWhile zx++r.dropWhile zx=r:=List.takeWhile_append_dropWhile
     rw[zcb]
     cases hd:r.dropWhile zx with
     | nil=>rfl
     | cons d t =>
      have hnd:zx d=false:=by
       have:=List.head_dropWhile_not zx (l:=r) (by rw[hd];simp)
       simpa[hd] using this
      have hdl:d.toNat<128:=by
       simp only[zx,Bool.not_eq_false',zaW,zm] at hnd
       rcases hnd with rfl|rfl<;>decide
      rw[hd] at ec
      rw[← ec] at hr
      exact zgP hdl (YD hdl hr).2
    ·exact hv
theorem Yz:∀(n:Nat) (l:List Tok) (s:List UInt8) (l':List Tok),Za n l s=.ok l'→validD s=true→l.all y7=true→l'.all y7=true
 | 0,_,_,_,h,_,_=>by cases h
 | n+1,l,s,l',h,hv,hl=>by
  simp only[Za] at h
  split at h
  ·cases h;exact hl
  ·split at h
   ·exact Yz n _ _ _ h (zd3 hv) hl
   ·cases ho:zU s with
    | none=>rw[ho] at h;cases h
    | some x =>
     rw[ho] at h
     obtain⟨g1,g2⟩:=zcD (x:=x.1) (s':=x.2) hv ho
     exact Yz n _ _ _ h g2 (by simp[hl,g1])
theorem zai:∀(n:Nat) (s:List UInt8),s.length≤n→zab s=true→validD s=true
 | 0,s,hn,_=>by
  obtain rfl:s=[]:=zfT.1 (by omega)
  rfl
 | n+1,s,hn,h=>by
  by_cases hne:s=[]
  ·subst hne;rfl
  ·rw[zcO hne] at h
   simp only[Al0,zm] at h
   rw[(zar hne (by omega)).1]
   exact zai n _ (by rw[zI];omega) h.2.2
theorem zdT {s:List UInt8} {l:List Tok} (h:zX s=.ok l):l.all y7=true:=by
 obtain⟨_,h2,h3⟩:=zd5 h
 exact Yz _ _ _ _ h3 (zai _ s (Al4 _) h2) rfl
end Go.Proofs.YtaielcdfcgpbiaaGreatDoor
namespace Go.Proofs.YtaielcdfcgpbiaaGreatDoor
open Go.Ab
abbrev zi5 (R:AV→Heap→Prop):AEnd→Heap→Prop:=fun e H'=>∃ v,e=.ret v∧R v H'
section
variable {KP:AV→Heap→Prop} {Q:AExit→Env→Heap→Prop} {st:List Fr} {ρ:Env} {H:Heap} {all items:List AItem} {d:Option Nat} {R:List Chk}
end
end Go.Proofs.YtaielcdfcgpbiaaGreatDoor
