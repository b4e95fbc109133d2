import Derived.Lib.ValidLaws
import Derived.Lib.ItoaLen
import Derived.Lib.Join
import Derived.Lib.DecodeN
import Derived.Lib.TrimUEq
import Derived.Shelf.Strings.OnBuilder
import Derived.Test.YticbbfbpeimkbaaGreatDoorM1
import Derived.Test.YticbbfbpeimkbaaGreatDoorM2
import Derived.Test.YticbbfbpeimkbaaGreatDoorM3
import Derived.Test.YticbbfbpeimkbaaGreatDoorM4
import Derived.Test.YticbbfbpeimkbaaGreatDoorM5
import Derived.Test.YticbbfbpeimkbaaGreatDoorM6
set_option maxRecDepth 100000
set_option linter.all false
namespace Go.Proofs.YticbbfbpeimkbaaGreatDoor
open Go.Ab
def zcq (t:TS):PR (List UInt8):=if isW [111,110] t then .error 2 else y0 t
theorem zrd {H:za} {r:Nat} {L p t:TS} (hs:p++t=L) (hl:wT L≤yN) (hr:H r=some (prc L p (16-16))) :
  zj Tryz.prog 251 [.ptr r 0] H (RpE H r L (16-16) (zcq t) AV.str):=by
 refine ZG (zj.goO (R:=fun v H'=>zdJ H r L (16-16) (zcq t) AV.str v.strip H') (RP:=fun v H'=>zeG (zcq t) v H') ir251 ck251 (Al4 _) fun KP Q hQ hP=>?_)
 have hll:L.length≤yN:=Nat.le_trans (zaO L) hl
 have hll2:=hll
 simp only[yN] at hll2
 have pan:∀(v:AV) (H1:za) (n:Int),v=Ze n→(zcq t)=.error n→KP v H1:=fun v H1 n h1 h2=>hP v H1 H1 (Low.refl _) ⟨n,h2,h1⟩
 have fin:=KI.done hQ
 have K0:=KI.start hs hr
 simp(disch:=first|omega|assumption) only[ir251,go_sem]
 refine zI (zrR (dp:=16-16) hs hr [111,110]) fun v H2 ⟨hv2,hH⟩=>?_
 subst hv2;subst hH
 cases hw:isW [111,110] t with
 | true =>
  simp(disch:=first|omega|assumption) only[go_sem]
  exact zp (zdB _ r 2) (fun _ _ h=>h.elim) fun v H3 h=>pan v H3 2 h (by rw[zcq,hw];rfl)
 | false =>
  simp(disch:=first|omega|assumption) only[go_sem]
  refine zp (zah (dp:=16-16) hs hll hr) (fun v H3 ⟨s,t3,e3,hv3,ha3⟩=>?_) fun v H3 ⟨n,e3,hv3⟩=>pan v H3 n hv3 (by rw[zcq,hw];exact e3)
  subst hv3
  simp(disch:=first|omega|assumption) only[go_sem]
  exact fin _ _ [.str s] s t3 (by simp(disch:=first|omega|assumption) only[ir251,zK,yK,go_sem]) (by rw[zcq,hw];exact e3) (K0.call ha3) (by simp[zc,AV.strip,AV.strip1])
abbrev zW:List AV:=[.str [],.str [],.int .i64 0,.int .i64 0,.bool false,.int .i64 0,.int .i64 0,.str [],.sl .nil 5 [],.sl .nil 6 []]
theorem zeF {H:za} {r:Nat} {L p t:TS} (hs:p++t=L) (hl:wT L≤yN) (hr:H r=some (prc L p (16-16))) :
  zj Tryz.prog 249 [.ptr r 0] H (RpE H r L (16-16) (zaK t) (fun x=>.agg (cW x))):=by
 refine ZG (zj.goO (R:=fun v H'=>zdJ H r L (16-16) (zaK t) (fun x=>.agg (cW x)) v.strip H') (RP:=fun v H'=>zeG (zaK t) v H') ir249 ck249 (Al4 _) fun KP Q hQ hP=>?_)
 have hll:L.length≤yN:=Nat.le_trans (zaO L) hl
 have hll2:=hll
 simp only[yN] at hll2
 have pan:∀(v:AV) (H1:za) (n:Int),v=Ze n→(zaK t)=.error n→KP v H1:=fun v H1 n h1 h2=>hP v H1 H1 (Low.refl _) ⟨n,h2,h1⟩
 have fin:=KI.done hQ
 have K0:=KI.start hs hr
 have hx:zaK t=pb (Z4 [36] t) fun _ t=>pb (y0 t) fun s t=>pb (Z4 [58] t) fun _ t=>pb (zcj 4 t) fun ty t =>
  if isP [61] t then pb (Zo true 16 t.tail) fun v t=>.ok (⟨s,ty,true,v⟩,t) else .ok (⟨s,ty,false,zV⟩,t):=rfl
 simp(disch:=first|omega|assumption) only[ir249,go_sem]
 refine zl fun b2 hb2=>?_
 have n2:=K0.ne hb2
 have n2s:=Ne.symm n2
 have K1:=K0.box (x:=.cells zW) hb2
 obtain⟨p1,hp1,hr1⟩:=K1.here
 simp only[zW] at K1 hr1
 simp(disch:=first|omega|assumption) only[go_sem]
 refine zp (zhy (dp:=16-16) hp1 hll hr1 [36]) (fun v H2 ⟨_,t2,e2,hv2,ha2⟩=>?_) fun v H2 ⟨n,e2,hv2⟩=>pan v H2 n hv2 (by rw[hx,e2];rfl)
 subst hv2
 rw[e2,zE] at hx
 have K2:=K1.call ha2
 have g2:H2 b2=some (.cells zW):=by rw[ha2.other n2s,upd_same]
 obtain⟨p2,hp2,hr2⟩:=K2.here
 simp(disch:=first|omega|assumption) only[go_sem]
 refine zp (zah (dp:=16-16) hp2 hll hr2) (fun v H3 ⟨s,t3,e3,hv3,ha3⟩=>?_) fun v H3 ⟨n,e3,hv3⟩=>pan v H3 n hv3 (by rw[hx,e3];rfl)
 subst hv3
 rw[e3,zE] at hx
 have K3:=K2.call ha3
 have g32:H3 b2=some (.cells zW):=by rw[ha3.other n2s,g2]
 simp(disch:=first|omega|assumption) only[go_sem]
 refine zl fun b3 hb3=>?_
 have h32:b3≠b2:=fun e=>by subst e;rw[g32] at hb3;cases hb3
 have hb3H:H b3=none:=K3.none hb3
 have n3:=K0.ne hb3H
 have n3s:=Ne.symm n3
 have K4:=K3.box (x:=.cells [.str s,.str [],.int .i64 0,.int .i64 0,.bool false,.int .i64 0,.int .i64 0,.str [],.sl .nil 5 [],.sl .nil 6 []]) hb3H
 obtain⟨p4,hp4,hr4⟩:=K4.here
 simp(disch:=first|omega|assumption) only[go_sem]
 refine zp (zhy (dp:=16-16) hp4 hll hr4 [58]) (fun v H5 ⟨_,t5,e5,hv5,ha5⟩=>?_) fun v H5 ⟨n,e5,hv5⟩=>pan v H5 n hv5 (by rw[hx,e5];rfl)
 subst hv5
 rw[e5,zE] at hx
 have K5:=K4.call ha5
 have g53:H5 b3=some (.cells [.str s,.str [],.int .i64 0,.int .i64 0,.bool false,.int .i64 0,.int .i64 0,.str [],.sl .nil 5 [],.sl .nil 6 []]):=by rw[ha5.other n3s,upd_same]
 have g52:H5 b2=some (.cells zW):=by rw[ha5.other n2s,upd_ne (Ne.symm h32),g32]
 obtain⟨p5,hp5,hr5⟩:=K5.here
 simp(disch:=first|omega|assumption) only[go_sem]
 refine zp (ztM hp5 hl hr5) (fun v H6 ⟨ty,t6,e6,hv6,ha6⟩=>?_) fun v H6 ⟨n,e6,hv6⟩=>pan v H6 n hv6 (by rw[hx,e6];rfl)
 subst hv6
 rw[e6,zE] at hx
 have K6:=K5.call ha6
 have g63:H6 b3=some (.cells [.str s,.str [],.int .i64 0,.int .i64 0,.bool false,.int .i64 0,.int .i64 0,.str [],.sl .nil 5 [],.sl .nil 6 []]):=by rw[ha6.other n3s,g53]
 have g62:H6 b2=some (.cells zW):=by rw[ha6.other n2s,g52]
 simp(disch:=first|omega|assumption) only[cTy,g63,go_sem]
 have K7:=K6.box (x:=.cells [.str s,.str ty.nm,.int .i64 ty.lists,.int .i64 ty.musts,.bool false,.int .i64 0,.int .i64 0,.str [],.sl .nil 5 [],.sl .nil 6 []]) hb3H
 obtain⟨p7,hp7,hr7⟩:=K7.here
 refine zI (zal (dp:=16-16) hp7 hll hr7 [61]) fun v H8 ⟨hv8,ha8⟩=>?_
 subst hv8
 have K8:=K7.call ha8
 have g83:H8 b3=some (.cells [.str s,.str ty.nm,.int .i64 ty.lists,.int .i64 ty.musts,.bool false,.int .i64 0,.int .i64 0,.str [],.sl .nil 5 [],.sl .nil 6 []]):=by rw[ha8.other n3s,upd_same]
 have g82:H8 b2=some (.cells zW):=by rw[ha8.other n2s,upd_ne (Ne.symm h32),g62]
 unfold YL at K8
 obtain⟨p8,hp8,hr8⟩:=K8.here
 cases hi:isP [61] t6 with
 | true =>
  rw[hi] at hx K8 hp8
  simp only[if_true] at hx K8 hp8
  simp(disch:=first|omega|assumption) only[go_sem]
  refine zp (zeZ true 16 (Al4 _) _ r L p8 t6.tail hp8 hl hr8) (fun v H9 ⟨x,t9,e9,hv9,ha9⟩=>?_) fun v H9 ⟨n,e9,hv9⟩=>pan v H9 n hv9 (by rw[hx,e9];rfl)
  subst hv9
  rw[e9,zE] at hx
  have K9:=K8.call ha9
  have g93:H9 b3=some (.cells [.str s,.str ty.nm,.int .i64 ty.lists,.int .i64 ty.musts,.bool false,.int .i64 0,.int .i64 0,.str [],.sl .nil 5 [],.sl .nil 6 []]):=by rw[ha9.other n3s,g83]
  have g92:H9 b2=some (.cells zW):=by rw[ha9.other n2s,g82]
  simp only[zW] at g92
  simp(disch:=first|omega|assumption) only[zo,zg,zf,zn,zh,ze,zu,g93,g92,h32,Ne.symm h32,go_sem]
  refine fin _ _ [.agg (cW ⟨s,ty,true,x⟩)] _ _ (by simp(disch:=first|omega|assumption) only[zo,zg,zf,zn,zh,ze,zu,ir249,zK,yK,zcV,go_sem]) hx ((K9.box hb3H).box hb2) (by simp[zc,AV.strip,zcC])
 | false =>
  rw[hi] at hx K8 hp8
  simp only[Al7,if_false] at hx K8 hp8
  simp only[zW] at g82
  simp(disch:=first|omega|assumption) only[g83,g82,h32,Ne.symm h32,go_sem]
  exact fin _ _ [.agg [.str s,.str ty.nm,.int .i64 ty.lists,.int .i64 ty.musts,.bool false,.int .i64 0,.int .i64 0,.str [],.sl .nil 5 [],.sl .nil 6 []]] _ _ (by simp(disch:=first|omega|assumption) only[ir249,zK,yK,go_sem]) hx (K8.box hb2) (by simp[zc,AV.strip,AV.strip1,zcV,cV,cVs,cMs,zV])
abbrev zO:List AV:=[.int .i64 0,.str [],.sl .nil 10 [],.sl .nil 2 [],.sl .nil 7 []]
theorem zuQ (kind:Int) {H:za} {r:Nat} {L p t:TS} (hs:p++t=L) (hl:wT L≤yN) (hr:H r=some (prc L p (16-16))) :
  zj Tryz.prog 164 [.ptr r 0,.int .i64 kind] H (RpE H r L (16-16) (opP kind t) (fun x=>.agg (cO x))):=by
 refine ZG (zj.goO (R:=fun v H'=>zdJ H r L (16-16) (opP kind t) (fun x=>.agg (cO x)) v.strip H') (RP:=fun v H'=>zeG (opP kind t) v H') ir164 ck164 (Al4 _) fun KP Q hQ hP=>?_)
 have hll:L.length≤yN:=Nat.le_trans (zaO L) hl
 have hll2:=hll
 simp only[yN] at hll2
 have pan:∀(v:AV) (H1:za) (n:Int),v=Ze n→(opP kind t)=.error n→KP v H1:=fun v H1 n h1 h2=>hP v H1 H1 (Low.refl _) ⟨n,h2,h1⟩
 have fin:=KI.done hQ
 have K0:=KI.start hs hr
 have hx:opP kind t=pb (if (hdT t).k=2 then y0 t else .ok ([],t)) fun s t=>pb (if isP [40] t then zaU [41] zaK t.tail else .ok ([],t)) fun vs t =>
  pb (Yy true 16 t) fun d t=>pb (yn 16 t) fun l t=>.ok (⟨kind,s,vs,d,l⟩,t):=rfl
 simp(disch:=first|omega|assumption) only[ir164,go_sem]
 refine zl fun b4 hb4=>?_
 have n4:=K0.ne hb4
 have n4s:=Ne.symm n4
 have K1:=K0.box (x:=.cells zO) hb4
 simp(disch:=first|omega|assumption) only[go_sem]
 refine zl fun b5 hb5=>?_
 have h54:b5≠b4:=fun e=>by subst e;rw[upd_same] at hb5;cases hb5
 have hb5H:H b5=none:=by rw[upd_ne h54] at hb5;exact hb5
 have n5:=K0.ne hb5H
 have n5s:=Ne.symm n5
 have K2:=K1.box (x:=.cells [.int .i64 kind,.str [],.sl .nil 10 [],.sl .nil 2 [],.sl .nil 7 []]) hb5H
 simp only[zO] at K2
 obtain⟨p2,hp2,hr2⟩:=K2.here
 have g25:((H.upd b4 (.cells zO)).upd b5 (.cells [.int .i64 kind,.str [],.sl .nil 10 [],.sl .nil 2 [],.sl .nil 7 []])) b5=some (.cells [.int .i64 kind,.str [],.sl .nil 10 [],.sl .nil 2 [],.sl .nil 7 []]):=upd_same ..
 have g24:((H.upd b4 (.cells zO)).upd b5 (.cells [.int .i64 kind,.str [],.sl .nil 10 [],.sl .nil 2 [],.sl .nil 7 []])) b4=some (.cells zO):=by rw[upd_ne (Ne.symm h54),upd_same]
 simp only[zO] at g25 g24
 simp(disch:=first|omega|assumption) only[go_sem]
 generalize hHa:za.upd (za.upd H b4 _) b5 _=Ha at *
 refine zI (zi4 (dp:=16-16) hp2 hr2) fun v H3 ⟨hv3,hH⟩=>?_
 subst hv3;subst hH
 by_cases hk2:(hdT t).k=2
 ·have hk2':((hdT t).k=2)=True:=eq_true hk2
  rw[if_pos hk2] at hx
  simp(disch:=first|omega|assumption) only[Yf,hk2',go_sem]
  refine zp (zah (dp:=16-16) hp2 hll hr2) (fun v H3 ⟨s,t3,e3,hv3,ha3⟩=>?_) fun v H3 ⟨n,e3,hv3⟩=>pan v H3 n hv3 (by rw[hx,e3];rfl)
  subst hv3
  rw[e3,zE] at hx
  have g35:H3 b5=some (.cells [.int .i64 kind,.str [],.sl .nil 10 [],.sl .nil 2 [],.sl .nil 7 []]):=by rw[ha3.other n5s,g25]
  have g34:H3 b4=some (.cells zO):=by rw[ha3.other n4s,g24]
  have K3:=(K2.call ha3).box (x:=.cells [.int .i64 kind,.str s,.sl .nil 10 [],.sl .nil 2 [],.sl .nil 7 []]) hb5H
  obtain⟨p3,hp3,hr3⟩:=K3.here
  simp(disch:=first|omega|assumption) only[g35,go_sem]
  refine zI (zal (dp:=16-16) hp3 hll hr3 [40]) fun v H4 ⟨hv4,ha4⟩=>?_
  subst hv4
  have K4:=K3.call ha4
  have g45:H4 b5=some (.cells [.int .i64 kind,.str s,.sl .nil 10 [],.sl .nil 2 [],.sl .nil 7 []]):=by rw[ha4.other n5s];(exact upd_same ..)
  have g44:H4 b4=some (.cells zO):=by rw[ha4.other n4s];(rw[upd_ne (Ne.symm h54)];exact g34)
  unfold YL at K4
  obtain⟨p4,hp4,hr4⟩:=K4.here
  cases hi:isP [40] t3 with
  | false =>
   rw[hi] at hx K4 hp4
   simp only[Al7,if_false,zE] at hx K4 hp4
   simp(disch:=first|omega|assumption) only[go_sem]
   refine zp (zbj (Al4 _) hp4 hl hr4) (fun v H8 ⟨d,t8,e8,hv8,ha8⟩=>?_) fun v H8 ⟨n,e8,hv8⟩=>pan v H8 n hv8 (by rw[hx,e8];rfl)
   subst hv8
   rw[e8,zE] at hx
   have K8:=K4.call ha8
   have g85:H8 b5=some (.cells [.int .i64 kind,.str s,(.sl .nil 10 []),.sl .nil 2 [],.sl .nil 7 []]):=by rw[ha8.other n5s,g45]
   have g84:H8 b4=some (.cells zO):=by rw[ha8.other n4s,g44]
   simp(disch:=first|omega|assumption) only[g85,go_sem]
   have K9:=K8.box (x:=.cells [.int .i64 kind,.str s,(.sl .nil 10 []),.sl .no 2 (cDs d),.sl .nil 7 []]) hb5H
   obtain⟨p9,hp9,hr9⟩:=K9.here
   refine zp (zaS 16 (Al4 _) _ r L p9 t8 hp9 hl hr9) (fun v HA ⟨ss,tA,eA,hvA,haA⟩=>?_) fun v HA ⟨n,eA,hvA⟩=>pan v HA n hvA (by rw[hx,eA];rfl)
   subst hvA
   rw[eA,zE] at hx
   have KA:=K9.call haA
   have gA5:HA b5=some (.cells [.int .i64 kind,.str s,(.sl .nil 10 []),.sl .no 2 (cDs d),.sl .nil 7 []]):=by rw[haA.other n5s,upd_same]
   have gA4:HA b4=some (.cells zO):=by rw[haA.other n4s,upd_ne (Ne.symm h54),g84]
   simp only[zO] at gA4
   simp(disch:=first|omega|assumption) only[gA5,gA4,h54,Ne.symm h54,go_sem]
   exact fin _ _ [.agg [.int .i64 kind,.str s,(.sl .nil 10 []),.sl .no 2 (cDs d),.sl .no 7 (cSs ss)]] _ _ (by simp(disch:=first|omega|assumption) only[ir164,zK,yK,go_sem]) hx ((KA.box hb5H).box hb4) (by simp[zc,AV.strip,AV.strip1,cO,cWs])
  | true =>
   rw[hi] at hx K4 hp4
   simp only[if_true] at hx K4 hp4
   have hm1:zaU [41] zaK t3.tail=pb (zaK t3.tail) fun x t=>yC [41] zaK (t.length+1) [x] t:=rfl
   rw[hm1] at hx
   have hsl:=zes hp4
   simp(disch:=first|omega|assumption) only[g45,go_sem]
   refine zp (zeF hp4 hl hr4) (fun v H5 ⟨x1,t5,e5,hv5,ha5⟩=>?_) fun v H5 ⟨n,e5,hv5⟩=>pan v H5 n hv5 (by rw[hx,e5];rfl)
   subst hv5
   rw[e5,zE] at hx
   have hlt1:=zbn.lt (by decide) _ _ _ e5
   have K5:=K4.call ha5
   have g55:H5 b5=some (.cells [.int .i64 kind,.str s,.sl .nil 10 [],.sl .nil 2 [],.sl .nil 7 []]):=by rw[ha5.other n5s,g45]
   have g54:H5 b4=some (.cells zO):=by rw[ha5.other n4s,g44]
   obtain⟨R,hR⟩:∃ R,yC [41] zaK (t5.length+1) [x1] t5=R:=⟨_,rfl⟩
   rw[hR] at hx
   have KO5:KO H r L t5 (16-16) H5 .nil 0 10:=⟨K5,rfl,nofun⟩
   simp(disch:=first|omega|assumption) only[g55,zcm,za1,go_sem]
   refine zv (yg.nil _ _) (by simp) (by simp[maxLen]) fun o6 H6 hs6=>?_
   have K6:=KO5.app (by simpa using hs6)
   have g65:=KO5.stay hs6 g55
   have g64:=KO5.stay hs6 g54
   simp(disch:=first|omega|assumption) only[g65,zcm,za1,go_sem]
   refine yB (fun x:Own×List VarD×TS=>[]) (fun x H'=>KO H r L x.2.2 (16-16) H' x.1 x.2.1.length 10∧H' b5=some (.cells [.int .i64 kind,.str s,.sl x.1 10 (cWs x.2.1),.sl .nil 2 [],.sl .nil 7 []])∧H' b4=some (.cells zO)∧(∃ m,x.2.2.length<m∧yC [41] zaK m x.2.1 x.2.2=R)∧x.2.1.length+x.2.2.length≤L.length) (fun x=>x.2.2.length) (o6,[x1],t5) (by simp(disch:=first|omega|assumption) only[go_sem]) ⟨by simpa using K6.box hb5H g65,by rw[upd_same];simp[cWs,zcC],by rw[upd_ne (Ne.symm h54)];exact g64,⟨_,Nat.lt_succ_self _,hR⟩,by simp only[List.length_singleton];omega⟩ ?_
   rintro⟨o,l,u⟩ H7 J ⟨K7,g75,g74,⟨m,hm,hR3⟩,hlen⟩ hJ
   simp only at K7 g75 g74 hm hR3 hlen
   obtain⟨m,rfl⟩:∃ j,m=j+1:=⟨m-1,by omega⟩
   obtain⟨p7,hp7,hr7⟩:=K7.here
   have hcl:=zdk l
   simp(disch:=first|omega|assumption) only[go_sem]
   refine zI (zal (dp:=16-16) hp7 hll hr7 [41]) fun v H8 ⟨hv8,ha8⟩=>?_
   subst hv8
   have g85:H8 b5=some (.cells [.int .i64 kind,.str s,.sl o 10 (cWs l),.sl .nil 2 [],.sl .nil 7 []]):=by rw[ha8.other n5s,g75]
   have g84:H8 b4=some (.cells zO):=by rw[ha8.other n4s,g74]
   cases hj:isP [41] u with
   | true =>
    rw[YL,hj,if_pos rfl] at ha8
    have K8:=K7.toKI.call ha8
    obtain⟨p8,hp8,hr8⟩:=K8.here
    have e1:R=.ok (l,u.tail):=by rw[← hR3,yC,hj];rfl
    rw[e1,zE] at hx
    simp(disch:=first|omega|assumption) only[go_sem]
    refine zp (zbj (Al4 _) hp8 hl hr8) (fun v HB ⟨d,t8,e8,hv8,ha8⟩=>?_) fun v HB ⟨n,e8,hv8⟩=>pan v HB n hv8 (by rw[hx,e8];rfl)
    subst hv8
    rw[e8,zE] at hx
    have KB:=K8.call ha8
    have gB5:HB b5=some (.cells [.int .i64 kind,.str s,(.sl o 10 (cWs l)),.sl .nil 2 [],.sl .nil 7 []]):=by rw[ha8.other n5s,g85]
    have gB4:HB b4=some (.cells zO):=by rw[ha8.other n4s,g84]
    simp(disch:=first|omega|assumption) only[gB5,go_sem]
    have K9:=KB.box (x:=.cells [.int .i64 kind,.str s,(.sl o 10 (cWs l)),.sl .no 2 (cDs d),.sl .nil 7 []]) hb5H
    obtain⟨p9,hp9,hr9⟩:=K9.here
    refine zp (zaS 16 (Al4 _) _ r L p9 t8 hp9 hl hr9) (fun v HA ⟨ss,tA,eA,hvA,haA⟩=>?_) fun v HA ⟨n,eA,hvA⟩=>pan v HA n hvA (by rw[hx,eA];rfl)
    subst hvA
    rw[eA,zE] at hx
    have KA:=K9.call haA
    have gA5:HA b5=some (.cells [.int .i64 kind,.str s,(.sl o 10 (cWs l)),.sl .no 2 (cDs d),.sl .nil 7 []]):=by rw[haA.other n5s,upd_same]
    have gA4:HA b4=some (.cells zO):=by rw[haA.other n4s,upd_ne (Ne.symm h54),gB4]
    simp only[zO] at gA4
    simp(disch:=first|omega|assumption) only[gA5,gA4,h54,Ne.symm h54,go_sem]
    exact fin _ _ [.agg [.int .i64 kind,.str s,(.sl o 10 (cWs l)),.sl .no 2 (cDs d),.sl .no 7 (cSs ss)]] _ _ (by simp(disch:=first|omega|assumption) only[ir164,zK,yK,go_sem]) hx ((KA.box hb5H).box hb4) (by simp[zc,AV.strip,AV.strip1,cO,cWs])
   | false =>
    rw[YL,hj] at ha8
    have K8:=K7.call (by simpa using ha8)
    obtain⟨p8,hp8,hr8⟩:=K8.here
    rw[yC,hj] at hR3
    simp only[Al7,if_false] at hR3
    simp(disch:=first|omega|assumption) only[g85,go_sem]
    refine zp (zeF hp8 hl hr8) (fun v H9 ⟨x,t9,e9,hv9,ha9⟩=>?_) fun v H9 ⟨n9,e9,hv9⟩=>pan v H9 n9 hv9 (by rw[hx,← hR3,e9];rfl)
    subst hv9
    rw[e9,zE] at hR3
    have hlt:=zbn.lt (by decide) _ _ _ e9
    have K9:=K8.call ha9
    have g95:H9 b5=some (.cells [.int .i64 kind,.str s,.sl o 10 (cWs l),.sl .nil 2 [],.sl .nil 7 []]):=by rw[ha9.other n5s,g85]
    have g94:H9 b4=some (.cells zO):=by rw[ha9.other n4s,g84]
    simp(disch:=first|omega|assumption) only[g95,zcm,za1,go_sem]
    refine zv (by rw[hcl];exact K9.own) (by simp only[hcl,Al2,Al3];omega) (by simp only[hcl,Al2,Al3,maxLen];omega) fun oA HA hsA=>?_
    have KA:=K9.app (by simpa[hcl] using hsA)
    have gA5:=K9.stay hsA g95
    have gA4:=K9.stay hsA g94
    simp(disch:=first|omega|assumption) only[gA5,zcm,za1,go_sem]
    refine goJ (hJ (oA,l++[x],t9) _ (by simp only;omega) ⟨by simpa using KA.box hb5H gA5,by rw[upd_same];simp[cWs,zcC],by rw[upd_ne (Ne.symm h54)];exact gA4,⟨m,by simp only;omega,hR3⟩,by simp only[Al5,Al2,Al3];omega⟩) (by simp(disch:=first|omega|assumption) only[go_sem])
 ·rw[if_neg hk2,zE] at hx
  simp(disch:=first|omega|assumption) only[Yf,hk2,go_sem]
  refine zI (zal (dp:=16-16) hp2 hll hr2 [40]) fun v H4 ⟨hv4,ha4⟩=>?_
  subst hv4
  have K4:=K2.call ha4
  have g45:H4 b5=some (.cells [.int .i64 kind,.str [],.sl .nil 10 [],.sl .nil 2 [],.sl .nil 7 []]):=by rw[ha4.other n5s];(exact g25)
  have g44:H4 b4=some (.cells zO):=by rw[ha4.other n4s];(exact g24)
  unfold YL at K4
  obtain⟨p4,hp4,hr4⟩:=K4.here
  cases hi:isP [40] t with
  | false =>
   rw[hi] at hx K4 hp4
   simp only[Al7,if_false,zE] at hx K4 hp4
   simp(disch:=first|omega|assumption) only[go_sem]
   refine zp (zbj (Al4 _) hp4 hl hr4) (fun v H8 ⟨d,t8,e8,hv8,ha8⟩=>?_) fun v H8 ⟨n,e8,hv8⟩=>pan v H8 n hv8 (by rw[hx,e8];rfl)
   subst hv8
   rw[e8,zE] at hx
   have K8:=K4.call ha8
   have g85:H8 b5=some (.cells [.int .i64 kind,.str [],(.sl .nil 10 []),.sl .nil 2 [],.sl .nil 7 []]):=by rw[ha8.other n5s,g45]
   have g84:H8 b4=some (.cells zO):=by rw[ha8.other n4s,g44]
   simp(disch:=first|omega|assumption) only[g85,go_sem]
   have K9:=K8.box (x:=.cells [.int .i64 kind,.str [],(.sl .nil 10 []),.sl .no 2 (cDs d),.sl .nil 7 []]) hb5H
   obtain⟨p9,hp9,hr9⟩:=K9.here
   refine zp (zaS 16 (Al4 _) _ r L p9 t8 hp9 hl hr9) (fun v HA ⟨ss,tA,eA,hvA,haA⟩=>?_) fun v HA ⟨n,eA,hvA⟩=>pan v HA n hvA (by rw[hx,eA];rfl)
   subst hvA
   rw[eA,zE] at hx
   have KA:=K9.call haA
   have gA5:HA b5=some (.cells [.int .i64 kind,.str [],(.sl .nil 10 []),.sl .no 2 (cDs d),.sl .nil 7 []]):=by rw[haA.other n5s,upd_same]
   have gA4:HA b4=some (.cells zO):=by rw[haA.other n4s,upd_ne (Ne.symm h54),g84]
   simp only[zO] at gA4
   simp(disch:=first|omega|assumption) only[gA5,gA4,h54,Ne.symm h54,go_sem]
   exact fin _ _ [.agg [.int .i64 kind,.str [],(.sl .nil 10 []),.sl .no 2 (cDs d),.sl .no 7 (cSs ss)]] _ _ (by simp(disch:=first|omega|assumption) only[ir164,zK,yK,go_sem]) hx ((KA.box hb5H).box hb4) (by simp[zc,AV.strip,AV.strip1,cO,cWs])
  | true =>
   rw[hi] at hx K4 hp4
   simp only[if_true] at hx K4 hp4
   have hm1:zaU [41] zaK t.tail=pb (zaK t.tail) fun x t=>yC [41] zaK (t.length+1) [x] t:=rfl
   rw[hm1] at hx
   have hsl:=zes hp4
   simp(disch:=first|omega|assumption) only[g45,go_sem]
   refine zp (zeF hp4 hl hr4) (fun v H5 ⟨x1,t5,e5,hv5,ha5⟩=>?_) fun v H5 ⟨n,e5,hv5⟩=>pan v H5 n hv5 (by rw[hx,e5];rfl)
   subst hv5
   rw[e5,zE] at hx
   have hlt1:=zbn.lt (by decide) _ _ _ e5
   have K5:=K4.call ha5
   have g55:H5 b5=some (.cells [.int .i64 kind,.str [],.sl .nil 10 [],.sl .nil 2 [],.sl .nil 7 []]):=by rw[ha5.other n5s,g45]
   have g54:H5 b4=some (.cells zO):=by rw[ha5.other n4s,g44]
   obtain⟨R,hR⟩:∃ R,yC [41] zaK (t5.length+1) [x1] t5=R:=⟨_,rfl⟩
   rw[hR] at hx
   have KO5:KO H r L t5 (16-16) H5 .nil 0 10:=⟨K5,rfl,nofun⟩
   simp(disch:=first|omega|assumption) only[g55,zcm,za1,go_sem]
   refine zv (yg.nil _ _) (by simp) (by simp[maxLen]) fun o6 H6 hs6=>?_
   have K6:=KO5.app (by simpa using hs6)
   have g65:=KO5.stay hs6 g55
   have g64:=KO5.stay hs6 g54
   simp(disch:=first|omega|assumption) only[g65,zcm,za1,go_sem]
   refine yB (fun x:Own×List VarD×TS=>[]) (fun x H'=>KO H r L x.2.2 (16-16) H' x.1 x.2.1.length 10∧H' b5=some (.cells [.int .i64 kind,.str [],.sl x.1 10 (cWs x.2.1),.sl .nil 2 [],.sl .nil 7 []])∧H' b4=some (.cells zO)∧(∃ m,x.2.2.length<m∧yC [41] zaK m x.2.1 x.2.2=R)∧x.2.1.length+x.2.2.length≤L.length) (fun x=>x.2.2.length) (o6,[x1],t5) (by simp(disch:=first|omega|assumption) only[go_sem]) ⟨by simpa using K6.box hb5H g65,by rw[upd_same];simp[cWs,zcC],by rw[upd_ne (Ne.symm h54)];exact g64,⟨_,Nat.lt_succ_self _,hR⟩,by simp only[List.length_singleton];omega⟩ ?_
   rintro⟨o,l,u⟩ H7 J ⟨K7,g75,g74,⟨m,hm,hR3⟩,hlen⟩ hJ
   simp only at K7 g75 g74 hm hR3 hlen
   obtain⟨m,rfl⟩:∃ j,m=j+1:=⟨m-1,by omega⟩
   obtain⟨p7,hp7,hr7⟩:=K7.here
   have hcl:=zdk l
   simp(disch:=first|omega|assumption) only[go_sem]
   refine zI (zal (dp:=16-16) hp7 hll hr7 [41]) fun v H8 ⟨hv8,ha8⟩=>?_
   subst hv8
   have g85:H8 b5=some (.cells [.int .i64 kind,.str [],.sl o 10 (cWs l),.sl .nil 2 [],.sl .nil 7 []]):=by rw[ha8.other n5s,g75]
   have g84:H8 b4=some (.cells zO):=by rw[ha8.other n4s,g74]
   cases hj:isP [41] u with
   | true =>
    rw[YL,hj,if_pos rfl] at ha8
    have K8:=K7.toKI.call ha8
    obtain⟨p8,hp8,hr8⟩:=K8.here
    have e1:R=.ok (l,u.tail):=by rw[← hR3,yC,hj];rfl
    rw[e1,zE] at hx
    simp(disch:=first|omega|assumption) only[go_sem]
    refine zp (zbj (Al4 _) hp8 hl hr8) (fun v HB ⟨d,t8,e8,hv8,ha8⟩=>?_) fun v HB ⟨n,e8,hv8⟩=>pan v HB n hv8 (by rw[hx,e8];rfl)
    subst hv8
    rw[e8,zE] at hx
    have KB:=K8.call ha8
    have gB5:HB b5=some (.cells [.int .i64 kind,.str [],(.sl o 10 (cWs l)),.sl .nil 2 [],.sl .nil 7 []]):=by rw[ha8.other n5s,g85]
    have gB4:HB b4=some (.cells zO):=by rw[ha8.other n4s,g84]
    simp(disch:=first|omega|assumption) only[gB5,go_sem]
    have K9:=KB.box (x:=.cells [.int .i64 kind,.str [],(.sl o 10 (cWs l)),.sl .no 2 (cDs d),.sl .nil 7 []]) hb5H
    obtain⟨p9,hp9,hr9⟩:=K9.here
    refine zp (zaS 16 (Al4 _) _ r L p9 t8 hp9 hl hr9) (fun v HA ⟨ss,tA,eA,hvA,haA⟩=>?_) fun v HA ⟨n,eA,hvA⟩=>pan v HA n hvA (by rw[hx,eA];rfl)
    subst hvA
    rw[eA,zE] at hx
    have KA:=K9.call haA
    have gA5:HA b5=some (.cells [.int .i64 kind,.str [],(.sl o 10 (cWs l)),.sl .no 2 (cDs d),.sl .nil 7 []]):=by rw[haA.other n5s,upd_same]
    have gA4:HA b4=some (.cells zO):=by rw[haA.other n4s,upd_ne (Ne.symm h54),gB4]
    simp only[zO] at gA4
    simp(disch:=first|omega|assumption) only[gA5,gA4,h54,Ne.symm h54,go_sem]
    exact fin _ _ [.agg [.int .i64 kind,.str [],(.sl o 10 (cWs l)),.sl .no 2 (cDs d),.sl .no 7 (cSs ss)]] _ _ (by simp(disch:=first|omega|assumption) only[ir164,zK,yK,go_sem]) hx ((KA.box hb5H).box hb4) (by simp[zc,AV.strip,AV.strip1,cO,cWs])
   | false =>
    rw[YL,hj] at ha8
    have K8:=K7.call (by simpa using ha8)
    obtain⟨p8,hp8,hr8⟩:=K8.here
    rw[yC,hj] at hR3
    simp only[Al7,if_false] at hR3
    simp(disch:=first|omega|assumption) only[g85,go_sem]
    refine zp (zeF hp8 hl hr8) (fun v H9 ⟨x,t9,e9,hv9,ha9⟩=>?_) fun v H9 ⟨n9,e9,hv9⟩=>pan v H9 n9 hv9 (by rw[hx,← hR3,e9];rfl)
    subst hv9
    rw[e9,zE] at hR3
    have hlt:=zbn.lt (by decide) _ _ _ e9
    have K9:=K8.call ha9
    have g95:H9 b5=some (.cells [.int .i64 kind,.str [],.sl o 10 (cWs l),.sl .nil 2 [],.sl .nil 7 []]):=by rw[ha9.other n5s,g85]
    have g94:H9 b4=some (.cells zO):=by rw[ha9.other n4s,g84]
    simp(disch:=first|omega|assumption) only[g95,zcm,za1,go_sem]
    refine zv (by rw[hcl];exact K9.own) (by simp only[hcl,Al2,Al3];omega) (by simp only[hcl,Al2,Al3,maxLen];omega) fun oA HA hsA=>?_
    have KA:=K9.app (by simpa[hcl] using hsA)
    have gA5:=K9.stay hsA g95
    have gA4:=K9.stay hsA g94
    simp(disch:=first|omega|assumption) only[gA5,zcm,za1,go_sem]
    refine goJ (hJ (oA,l++[x],t9) _ (by simp only;omega) ⟨by simpa using KA.box hb5H gA5,by rw[upd_same];simp[cWs,zcC],by rw[upd_ne (Ne.symm h54)];exact gA4,⟨m,by simp only;omega,hR3⟩,by simp only[Al5,Al2,Al3];omega⟩) (by simp(disch:=first|omega|assumption) only[go_sem])
theorem ztG {H:za} {r:Nat} {L p t:TS} (hs:p++t=L) (hl:wT L≤yN) (hr:H r=some (prc L p (16-16))) :
  zj Tryz.prog 165 [.ptr r 0] H (RpE H r L (16-16) (zct t) (fun x=>.agg (cF x))):=by
 refine ZG (zj.goO (R:=fun v H'=>zdJ H r L (16-16) (zct t) (fun x=>.agg (cF x)) v.strip H') (RP:=fun v H'=>zeG (zct t) v H') ir165 ck165 (Al4 _) fun KP Q hQ hP=>?_)
 have hll:L.length≤yN:=Nat.le_trans (zaO L) hl
 have hll2:=hll
 simp only[yN] at hll2
 have pan:∀(v:AV) (H1:za) (n:Int),v=Ze n→(zct t)=.error n→KP v H1:=fun v H1 n h1 h2=>hP v H1 H1 (Low.refl _) ⟨n,h2,h1⟩
 have fin:=KI.done hQ
 have K0:=KI.start hs hr
 have hx:zct t=pb (zcq t) fun s t=>pb (if isW [111,110] t then .ok ((),t.tail) else .error 2) fun _ t=>pb (y0 t) fun o t =>
  pb (Yy true 16 t) fun d t=>pb (yn 16 t) fun l t=>.ok (⟨s,o,d,l⟩,t):=rfl
 simp(disch:=first|omega|assumption) only[ir165,go_sem]
 refine zl fun b2 hb2=>?_
 have n2:=K0.ne hb2
 have n2s:=Ne.symm n2
 have K1:=K0.box (x:=.cells [.str [],.str [],.sl .nil 2 [],.sl .nil 7 []]) hb2
 obtain⟨p1,hp1,hr1⟩:=K1.here
 simp(disch:=first|omega|assumption) only[go_sem]
 refine zp (zrd hp1 hl hr1) (fun v H3 ⟨s,t3,e3,hv3,ha3⟩=>?_) fun v H3 ⟨n,e3,hv3⟩=>pan v H3 n hv3 (by rw[hx,e3];rfl)
 subst hv3
 rw[e3,zE] at hx
 have K3:=K1.call ha3
 have g32:H3 b2=some (.cells [.str [],.str [],.sl .nil 2 [],.sl .nil 7 []]):=by rw[ha3.other n2s,upd_same]
 simp(disch:=first|omega|assumption) only[go_sem]
 refine zl fun b3 hb3=>?_
 have h32:b3≠b2:=fun e=>by subst e;rw[g32] at hb3;cases hb3
 have hb3H:H b3=none:=K3.none hb3
 have n3:=K0.ne hb3H
 have n3s:=Ne.symm n3
 have K4:=K3.box (x:=.cells [.str s,.str [],.sl .nil 2 [],.sl .nil 7 []]) hb3H
 obtain⟨p4,hp4,hr4⟩:=K4.here
 simp(disch:=first|omega|assumption) only[go_sem]
 refine zI (zh7 (dp:=16-16) hp4 hll hr4 [111,110]) fun v H5 ⟨hv5,ha5⟩=>?_
 subst hv5
 have K5:=K4.call ha5
 have g53:H5 b3=some (.cells [.str s,.str [],.sl .nil 2 [],.sl .nil 7 []]):=by rw[ha5.other n3s,upd_same]
 have g52:H5 b2=some (.cells [.str [],.str [],.sl .nil 2 [],.sl .nil 7 []]):=by rw[ha5.other n2s,upd_ne (Ne.symm h32),g32]
 unfold Yu at K5
 cases hw:isW [111,110] t3 with
 | false =>
  rw[hw] at hx
  simp(disch:=first|omega|assumption) only[go_sem]
  exact zp (zdB _ r 2) (fun _ _ h=>h.elim) fun v H6 h=>pan v H6 2 h (by rw[hx];rfl)
 | true =>
  rw[hw] at hx K5
  simp only[if_true,zE] at hx K5
  obtain⟨p5,hp5,hr5⟩:=K5.here
  simp(disch:=first|omega|assumption) only[go_sem]
  refine zp (zah (dp:=16-16) hp5 hll hr5) (fun v H6 ⟨o,t6,e6,hv6,ha6⟩=>?_) fun v H6 ⟨n,e6,hv6⟩=>pan v H6 n hv6 (by rw[hx,e6];rfl)
  subst hv6
  rw[e6,zE] at hx
  have g63:H6 b3=some (.cells [.str s,.str [],.sl .nil 2 [],.sl .nil 7 []]):=by rw[ha6.other n3s,g53]
  have g62:H6 b2=some (.cells [.str [],.str [],.sl .nil 2 [],.sl .nil 7 []]):=by rw[ha6.other n2s,g52]
  have K7:=(K5.call ha6).box (x:=.cells [.str s,.str o,.sl .nil 2 [],.sl .nil 7 []]) hb3H
  obtain⟨p7,hp7,hr7⟩:=K7.here
  simp(disch:=first|omega|assumption) only[g63,go_sem]
  refine zp (zbj (Al4 _) hp7 hl hr7) (fun v H8 ⟨d,t8,e8,hv8,ha8⟩=>?_) fun v H8 ⟨n,e8,hv8⟩=>pan v H8 n hv8 (by rw[hx,e8];rfl)
  subst hv8
  rw[e8,zE] at hx
  have g83:H8 b3=some (.cells [.str s,.str o,.sl .nil 2 [],.sl .nil 7 []]):=by rw[ha8.other n3s,upd_same]
  have g82:H8 b2=some (.cells [.str [],.str [],.sl .nil 2 [],.sl .nil 7 []]):=by rw[ha8.other n2s,upd_ne (Ne.symm h32),g62]
  have K9:=(K7.call ha8).box (x:=.cells [.str s,.str o,.sl .no 2 (cDs d),.sl .nil 7 []]) hb3H
  obtain⟨p9,hp9,hr9⟩:=K9.here
  simp(disch:=first|omega|assumption) only[g83,go_sem]
  refine zp (zaS 16 (Al4 _) _ r L p9 t8 hp9 hl hr9) (fun v HA ⟨ss,tA,eA,hvA,haA⟩=>?_) fun v HA ⟨n,eA,hvA⟩=>pan v HA n hvA (by rw[hx,eA];rfl)
  subst hvA
  rw[eA,zE] at hx
  have KA:=K9.call haA
  have gA3:HA b3=some (.cells [.str s,.str o,.sl .no 2 (cDs d),.sl .nil 7 []]):=by rw[haA.other n3s,upd_same]
  have gA2:HA b2=some (.cells [.str [],.str [],.sl .nil 2 [],.sl .nil 7 []]):=by rw[haA.other n2s,upd_ne (Ne.symm h32),g82]
  simp(disch:=first|omega|assumption) only[gA3,gA2,h32,Ne.symm h32,go_sem]
  exact fin _ _ [.agg [.str s,.str o,.sl .no 2 (cDs d),.sl .no 7 (cSs ss)]] _ _ (by simp(disch:=first|omega|assumption) only[ir165,zK,yK,go_sem]) hx ((KA.box hb3H).box hb2) (by simp[zc,AV.strip,AV.strip1,cF])
theorem zh0 {H H':za} {o1 o2:Own} {n sz:Nat} (h:yg H o2 n sz) (hk:Kept H o1 H') (hs:∀ b x c y,o1=.tip b x→o2=.tip c y→b≠c):yg H' o2 n sz:=by
 cases o2 with
 | tip c y =>
  have h5:H c=some _:=h
  exact hk c _ h5 fun d e=>hs c d c y e rfl rfl
 | no=>exact h
 | nil=>exact h
 | full=>exact h
theorem zkp {H:za} {c y n sz:Nat} (h:yg H (.tip c y) n sz):H c≠none:=by
 have h5:H c=some _:=h
 rw[h5];exact nofun
structure DI (L:TS) (r bd:Nat) (H:za) (t:TS) (d:DocD) (o1 o2:Own):Prop where
 rd:∃ p,p++t=L∧H r=some (prc L p (16-16))
 box:H bd=some (.cells [.sl o1 5 (cOs d.ops),.sl o2 4 (cFs d.frags)])
 own1:yg H o1 d.ops.length 5
 own2:yg H o2 d.frags.length 4
 sep:∀ b x c y,o1=.tip b x→o2=.tip c y→b≠c
 ne:bd≠r
theorem DI.call {L t t':TS} {r bd:Nat} {H H':za} {d:DocD} {o1 o2:Own} (h:DI L r bd H t d o1 o2) (ha:Pat H r L t' (16-16) H'):DI L r bd H' t' d o1 o2:=by
 obtain⟨p,_,hr⟩:=h.rd
 have hb:=ha.other h.ne
 obtain⟨q,hq,rfl⟩:=ha
 exact⟨⟨q,hq,upd_same ..⟩,by rw[hb];exact h.box,Zn h.own1 hr,Zn h.own2 hr,h.sep,h.ne⟩
theorem DI.op {L t:TS} {r bd n:Nat} {H H':za} {d:DocD} {o1 o2 o':Own} {xs:List (List AV)} (h:DI L r bd H t d o1 o2) (x:OpD) (hs:OwnS H o1 H' o' n 5) (hn:n=(d.ops++[x]).length) (hx:xs=cOs (d.ops++[x])) :
  DI L r bd (H'.upd bd (.cells [.sl o' 5 xs,.sl o2 4 (cFs d.frags)])) t ⟨d.ops++[x],d.frags⟩ o' o2:=by
 obtain⟨p,hp,hr⟩:=h.rd
 have hb:=Za h.own1 h.box hs.kept
 have hr2:=Za h.own1 hr hs.kept
 subst hn;subst hx
 refine⟨⟨p,hp,by rw[upd_ne (Ne.symm h.ne)];exact hr2⟩,upd_same ..,Zn hs.own hb,Zn (zh0 h.own2 hs.kept h.sep) hb,fun b x c y e1 e2=>?_,h.ne⟩
 rcases hs.new b x e1 with h2|⟨d0,h2⟩
 ·subst e2
  exact fun e=>zkp h.own2 (e▸h2)
 ·exact h.sep b d0 c y h2 e2
theorem DI.frag {L t:TS} {r bd n:Nat} {H H':za} {d:DocD} {o1 o2 o':Own} {xs:List (List AV)} (h:DI L r bd H t d o1 o2) (x:FragD) (hs:OwnS H o2 H' o' n 4) (hn:n=(d.frags++[x]).length) (hx:xs=cFs (d.frags++[x])) :
  DI L r bd (H'.upd bd (.cells [.sl o1 5 (cOs d.ops),.sl o' 4 xs])) t ⟨d.ops,d.frags++[x]⟩ o1 o':=by
 obtain⟨p,hp,hr⟩:=h.rd
 have hb:=Za h.own2 h.box hs.kept
 have hr2:=Za h.own2 hr hs.kept
 subst hn;subst hx
 refine⟨⟨p,hp,by rw[upd_ne (Ne.symm h.ne)];exact hr2⟩,upd_same ..,Zn (zh0 h.own1 hs.kept fun b x c y e1 e2=>Ne.symm (h.sep c y b x e2 e1)) hb,Zn hs.own hb,fun b x c y e1 e2=>?_,h.ne⟩
 rcases hs.new c y e2 with h2|⟨d0,h2⟩
 ·subst e1
  exact fun e=>zkp h.own1 (by rw[e];exact h2)
 ·exact h.sep b x c d0 e1 h2
def zvv (L:TS) (r bd:Nat) (t:TS) (d:DocD):AEnd→za→Prop:=fun e H'=>match e with
 | .ret v=>∃ d' t' o1' o2',YG d t=.ok (d',t')∧v=.tup []∧DI L r bd H' t' d' o1' o2'∧d'.ops.length+d'.frags.length+t'.length≤d.ops.length+d.frags.length+t.length∧t'.length<t.length
 | .pan v=>∃ n,v=Ze n∧YG d t=.error n
theorem zrG (l:List FragD) (x:FragD):cFs (l++[x])=cFs l++[cF x]:=by simp[cFs]
theorem zjy (l:List OpD) (x:OpD):cOs (l++[x])=cOs l++[cO x]:=by simp[cOs]
theorem ze6 (x:OpD):(cO x).length=5:=rfl
theorem zdt (x:OpD):(cO x).take 5=cO x:=rfl
theorem zaC (a b c d e:AV) (x:OpD):splice [a,b,c,d,e] 0 (cO x)=cO x:=rfl
theorem zqx (x:FragD):(cF x).length=4:=rfl
theorem znu (x:FragD):(cF x).take 4=cF x:=rfl
theorem zic (a b c d:AV) (x:FragD):splice [a,b,c,d] 0 (cF x)=cF x:=rfl
theorem zsY {L t:TS} {r bd:Nat} {H:za} {d:DocD} {o1 o2:Own} (h:DI L r bd H t d o1 o2) (hl:wT L≤yN) (hb:d.ops.length+d.frags.length≤L.length) :
  zj Tryz.prog 91 [.ptr r 0,.ptr bd 0] H (zvv L r bd t d):=by
 refine zj.goO (R:=fun v H'=>∃ d' t' o1' o2',YG d t=.ok (d',t')∧v=.tup []∧DI L r bd H' t' d' o1' o2'∧d'.ops.length+d'.frags.length+t'.length≤d.ops.length+d.frags.length+t.length∧t'.length<t.length) (RP:=fun v _=>∃ n,v=Ze n∧YG d t=.error n) ir91 ck91 (Al4 _) fun KP Q hQ hP=>?_
 have hll:L.length≤yN:=Nat.le_trans (zaO L) hl
 have hll2:=hll
 simp only[yN] at hll2
 have pan:∀(v:AV) (H1:za) (n:Int),v=Ze n→YG d t=.error n→KP v H1:=fun v H1 n h1 h2=>hP v H1 H1 (Low.refl _) ⟨n,h1,h2⟩
 have hc1:=zem d.ops
 have hc2:=zel d.frags
 obtain⟨p,hs,hr⟩:=h.rd
 have g0:=h.box
 simp(disch:=first|omega|assumption) only[ir91,go_sem]
 refine zI (zoj (dp:=16-16) hs hr [123]) fun v H1 ⟨hv1,hH⟩=>?_
 subst hv1;subst hH
 cases hi:isP [123] t with
 | true =>
  have hx:YG d t=pb (yn 16 t) fun l t=>.ok (⟨d.ops++[⟨0,[],[],[],l⟩],d.frags⟩,t):=by unfold YG;rw[hi];rfl
  simp(disch:=first|omega|assumption) only[g0,go_sem]
  refine zp (zaS 16 (Al4 _) _ r L p t hs hl hr) (fun v H2 ⟨l,t2,e2,hv2,ha2⟩=>?_) fun v H2 ⟨n,e2,hv2⟩=>pan v H2 n hv2 (by rw[hx,e2];rfl)
  have hlt:=(Yj 16).lt (by decide) _ _ _ e2
  have eD:YG d t=.ok (⟨d.ops++[⟨0,[],[],[],l⟩],d.frags⟩,t2):=by rw[hx,e2];rfl
  have D2:=h
  subst hv2
  have DX:=D2.call ha2
  obtain⟨pX,hpX,hrX⟩:=DX.rd
  have gX:=DX.box
  simp(disch:=first|omega|assumption) only[gX,ze6,zdt,zaC,go_sem]
  refine zv (by rw[hc1];exact DX.own1) (by simp only[hc1,Al2,Al3];omega) (by simp only[hc1,Al2,Al3,maxLen];omega) fun oY HY hsY=>?_
  have gY:=Za DX.own1 gX hsY.kept
  simp(disch:=first|omega|assumption) only[gY,ze6,zdt,zaC,go_sem]
  refine hQ _ _ _ _ [] nofun rfl (Low.refl _) ⟨_,_,oY,o2,eD,rfl,DX.op ⟨0,[],[],[],l⟩ (by simpa[hc1] using hsY) (by simp) (by rw[zjy];simp[cO,AV.strip1,cWs,cDs]),by simp only[Al5,List.length_singleton];omega,by omega⟩
 | false =>
  have hni:¬ (isP [123] t=true):=by rw[hi];decide
  simp(disch:=first|omega|assumption) only[go_sem]
  refine zI (zh7 (dp:=16-16) hs hll hr [113,117,101,114,121]) fun v H2 ⟨hv2,ha2⟩=>?_
  subst hv2
  have D2:=h.call ha2
  unfold Yu at D2
  cases hq:isW [113,117,101,114,121] t with
  | true =>
   rw[hq,if_pos rfl] at D2
   have htl:=(zi9 hq).1
   have htk:t.tail.length<t.length:=by rw[YX (zcR hq)];simp
   obtain⟨p2,hp2,hr2⟩:=D2.rd
   have g2:=D2.box
   have hx:YG d t=pb (opP 0 t.tail) fun o t=>.ok (⟨d.ops++[o],d.frags⟩,t):=by unfold YG;rw[if_neg hni,hq];rfl
   simp(disch:=first|omega|assumption) only[g2,go_sem]
   refine zp (zuQ 0 hp2 hl hr2) (fun v H3 ⟨o,t3,e3,hv3,ha3⟩=>?_) fun v H3 ⟨n,e3,hv3⟩=>pan v H3 n hv3 (by rw[hx,e3];rfl)
   have hlt:=(zgc 0).lt (by decide) _ _ _ e3
   have eD:YG d t=.ok (⟨d.ops++[o],d.frags⟩,t3):=by rw[hx,e3];rfl
   subst hv3
   have DX:=D2.call ha3
   obtain⟨pX,hpX,hrX⟩:=DX.rd
   have gX:=DX.box
   simp(disch:=first|omega|assumption) only[gX,ze6,zdt,zaC,go_sem]
   refine zv (by rw[hc1];exact DX.own1) (by simp only[hc1,Al2,Al3];omega) (by simp only[hc1,Al2,Al3,maxLen];omega) fun oY HY hsY=>?_
   have gY:=Za DX.own1 gX hsY.kept
   simp(disch:=first|omega|assumption) only[gY,ze6,zdt,zaC,go_sem]
   refine hQ _ _ _ _ [] nofun rfl (Low.refl _) ⟨_,_,oY,o2,eD,rfl,DX.op o (by simpa[hc1] using hsY) (by simp) (by rw[zjy];simp[cO,AV.strip1,cWs,cDs]),by simp only[Al5,List.length_singleton];omega,by omega⟩
  | false =>
   rw[hq] at D2
   simp only[Al7,if_false] at D2
   have hnq:¬ (isW [113,117,101,114,121] t=true):=by rw[hq];decide
   obtain⟨p2,hp2,hr2⟩:=D2.rd
   simp(disch:=first|omega|assumption) only[go_sem]
   refine zI (zh7 (dp:=16-16) hp2 hll hr2 [109,117,116,97,116,105,111,110]) fun v H3 ⟨hv3,ha3⟩=>?_
   subst hv3
   have D3:=D2.call ha3
   unfold Yu at D3
   cases hm:isW [109,117,116,97,116,105,111,110] t with
   | true =>
    rw[hm,if_pos rfl] at D3
    have htk:t.tail.length<t.length:=by rw[YX (zcR hm)];simp
    obtain⟨p3,hp3,hr3⟩:=D3.rd
    have g3:=D3.box
    have hx:YG d t=pb (opP 1 t.tail) fun o t=>.ok (⟨d.ops++[o],d.frags⟩,t):=by unfold YG;rw[if_neg hni,if_neg hnq,hm];rfl
    simp(disch:=first|omega|assumption) only[g3,go_sem]
    refine zp (zuQ 1 hp3 hl hr3) (fun v H4 ⟨o,t4,e4,hv4,ha4⟩=>?_) fun v H4 ⟨n,e4,hv4⟩=>pan v H4 n hv4 (by rw[hx,e4];rfl)
    have hlt:=(zgc 1).lt (by decide) _ _ _ e4
    have eD:YG d t=.ok (⟨d.ops++[o],d.frags⟩,t4):=by rw[hx,e4];rfl
    subst hv4
    have DX:=D3.call ha4
    obtain⟨pX,hpX,hrX⟩:=DX.rd
    have gX:=DX.box
    simp(disch:=first|omega|assumption) only[gX,ze6,zdt,zaC,go_sem]
    refine zv (by rw[hc1];exact DX.own1) (by simp only[hc1,Al2,Al3];omega) (by simp only[hc1,Al2,Al3,maxLen];omega) fun oY HY hsY=>?_
    have gY:=Za DX.own1 gX hsY.kept
    simp(disch:=first|omega|assumption) only[gY,ze6,zdt,zaC,go_sem]
    refine hQ _ _ _ _ [] nofun rfl (Low.refl _) ⟨_,_,oY,o2,eD,rfl,DX.op o (by simpa[hc1] using hsY) (by simp) (by rw[zjy];simp[cO,AV.strip1,cWs,cDs]),by simp only[Al5,List.length_singleton];omega,by omega⟩
   | false =>
    rw[hm] at D3
    simp only[Al7,if_false] at D3
    have hnm:¬ (isW [109,117,116,97,116,105,111,110] t=true):=by rw[hm];decide
    obtain⟨p3,hp3,hr3⟩:=D3.rd
    simp(disch:=first|omega|assumption) only[go_sem]
    refine zI (zh7 (dp:=16-16) hp3 hll hr3 [102,114,97,103,109,101,110,116]) fun v H4 ⟨hv4,ha4⟩=>?_
    subst hv4
    have D4:=D3.call ha4
    unfold Yu at D4
    cases hf:isW [102,114,97,103,109,101,110,116] t with
    | true =>
     rw[hf,if_pos rfl] at D4
     have htk:t.tail.length<t.length:=by rw[YX (zcR hf)];simp
     obtain⟨p4,hp4,hr4⟩:=D4.rd
     have g4:=D4.box
     have hx:YG d t=pb (zct t.tail) fun f t=>.ok (⟨d.ops,d.frags++[f]⟩,t):=by unfold YG;rw[if_neg hni,if_neg hnq,if_neg hnm,hf];rfl
     simp(disch:=first|omega|assumption) only[g4,go_sem]
     refine zp (ztG hp4 hl hr4) (fun v H5 ⟨f,t5,e5,hv5,ha5⟩=>?_) fun v H5 ⟨n,e5,hv5⟩=>pan v H5 n hv5 (by rw[hx,e5];rfl)
     have hlt:=ziQ.lt (by decide) _ _ _ e5
     have eD:YG d t=.ok (⟨d.ops,d.frags++[f]⟩,t5):=by rw[hx,e5];rfl
     subst hv5
     have DX:=D4.call ha5
     obtain⟨pX,hpX,hrX⟩:=DX.rd
     have gX:=DX.box
     simp(disch:=first|omega|assumption) only[gX,zqx,znu,zic,go_sem]
     refine zv (by rw[hc2];exact DX.own2) (by simp only[hc2,Al2,Al3];omega) (by simp only[hc2,Al2,Al3,maxLen];omega) fun oY HY hsY=>?_
     have gY:=Za DX.own2 gX hsY.kept
     simp(disch:=first|omega|assumption) only[gY,zqx,znu,zic,go_sem]
     refine hQ _ _ _ _ [] nofun rfl (Low.refl _) ⟨_,_,o1,oY,eD,rfl,DX.frag f (by simpa[hc2] using hsY) (by simp) (by rw[zrG];simp[cF,AV.strip1]),by simp only[Al5,List.length_singleton];omega,by omega⟩
    | false =>
     have hnf:¬ (isW [102,114,97,103,109,101,110,116] t=true):=by rw[hf];decide
     simp(disch:=first|omega|assumption) only[go_sem]
     exact zp (zdB _ r 2) (fun _ _ h=>h.elim) fun v H5 h=>pan v H5 2 h (by unfold YG;rw[if_neg hni,if_neg hnq,if_neg hnm,if_neg hnf])
def zj3 (may:UInt8→Bool) (t:List UInt8):AV:=match Y7 may t with
 | some (b,t')=>.tup [.str b,.int .i64 ((t.length+1-t'.length:Nat):Int)]
 | none=>.tup [.str [],.int .i64 0]
theorem zra (f : FuncId) (hf : Program.callable Tryz.prog f = true) (may : UInt8 → Bool) (hmay : ∀ c : UInt8, zq Tryz.prog f [.int .u8 c.toNat] (.bool (may c))) (a : UInt8) (t : List UInt8) (hl : t.length + 1 ≤ zb8) :
    zq Tryz.prog 220 [.str (a :: t), .clo f [] []] (zj3 may t) := by
  refine zq.go ir220 ck220 (Al4 _) fun KP Q hQ => ?_
  simp only [zb8] at hl
  simp (disch := first | omega | assumption) only [ir220, go_sem]
  refine zl fun q hq => ?_
  simp (disch := first | omega | assumption) only [go_sem]
  obtain ⟨R, hR⟩ : ∃ R, zae may (t.length + 1) t ⟨[], [], true⟩ = R := ⟨_, rfl⟩
  have fail : R = none → zj3 may t = .tup [.str [], .int .i64 0] := fun e => by unfold zj3 Y7; rw [hR, e]
  refine yB (fun s : List UInt8 × Sd × Own × Own => [(7, .int .i64 ((t.length + 1 - s.1.length : Nat) : Int))])
    (fun s H => s.1 <:+ t ∧ (∃ n, s.1.length < n ∧ zae may n s.1 s.2.1 = R) ∧ s.2.1.w + s.1.length ≤ t.length ∧ SaidAt H q s.2.1 s.2.2.1 s.2.2.2) (fun s => s.1.length) (t, ⟨[], [], true⟩, .nil, .nil)
    (by have : (t.length + 1 - t.length : Nat) = 1 := by omega
        simp (disch := first | omega | assumption) only [this, go_sem]) ⟨List.suffix_refl _, ⟨t.length + 1, by simp, hR⟩, by simp [Sd.w], upd_same .., rfl, rfl, nofun⟩ ?_
  rintro ⟨rest, x, o, o2⟩ H J ⟨hsuf, ⟨n, hn, hg⟩, hw, hs⟩ hJ
  simp only at hsuf hn hg hw hs
  have hrl := hsuf.length_le
  obtain ⟨n, rfl⟩ : ∃ k, n = k + 1 := ⟨n - 1, by omega⟩
  cases rest with
  | nil =>
    have e0 : R = none := by rw [← hg]; rfl
    have h0 : t.length + 1 - 0 = t.length + 1 := rfl
    have h1 : (((t.length + 1 : Nat) : Int) ≤ ((t.length + 1 : Nat) : Int)) = True := eq_true (Int.le_refl _)
    simp (disch := first | omega | assumption) only [h0, h1, go_sem]
    exact hQ _ _ _ _ nofun rfl (by simp [zc, zd, AV.strip, AV.strip1, fail e0])
  | cons c r =>
    obtain ⟨p, hp⟩ := hsuf
    have hpl : t.length = p.length + (r.length + 1) := by rw [← hp]; simp
    have h0 : t.length + 1 - (r.length + 1) = p.length + 1 := by omega
    have h1 : ¬ (((t.length + 1 : Nat) : Int) ≤ ((p.length + 1 : Nat) : Int)) := by omega
    have h2 : (((p.length + 1 : Nat) : Int) < ((t.length + 1 : Nat) : Int)) = True := eq_true (by omega)
    have hi : (a :: t).getD (p.length + 1) 0 = c := by rw [← hp]; simp
    have hi1 : (((p.length + 1 : Nat) : Int) + 1) = ((p.length + 1 + 1 : Nat) : Int) := by omega
    have hsr : r <:+ t := ⟨p ++ [c], by rw [← hp]; simp⟩
    simp only [zae] at hg
    simp only [Al2] at hw hn
    have hx : x.w ≤ zb8 := by simp only [zb8]; omega
    by_cases c1 : c = 34
    · subst c1
      simp only [if_true] at hg
      have hc : (((34 : UInt8).toNat : Int) = 34) = True := eq_true rfl
      simp (disch := first | omega | assumption) only [h0, h1, h2, hi, hc, go_sem]
      refine zI (zlI hs hx) fun v H1 ⟨hv, o', hs1⟩ => ?_
      subst hv
      have hq := hs1.hq
      cases hok : (yI x).ok
      · rw [hok] at hq
        have e0 : Y7 may t = none := by unfold Y7; rw [hR, ← hg]; simp [hok]
        simp (disch := first | omega | assumption) only [hq, go_sem]
        exact hQ _ _ _ _ nofun rfl (by simp [zc, zd, AV.strip, AV.strip1, zj3, e0])
      · rw [hok] at hq
        have e0 : Y7 may t = some ((yI x).b, r) := by unfold Y7; rw [hR, ← hg]; simp [hok]
        simp (disch := first | omega | assumption) only [hq, zf7, wrap64, go_sem]
        have e1 : (p.length : Int) + 1 + 1 = ((t.length + 1 - r.length : Nat) : Int) := by omega
        exact hQ _ _ _ _ nofun rfl (by simp [zc, zd, AV.strip, AV.strip1, zj3, e0, e1])
    have c1' : ¬ ((c.toNat : Int) = 34) := fun e => c1 (by apply UInt8.toNat_inj.1; show c.toNat = 34; omega)
    rw [if_neg c1] at hg
    by_cases c2 : c = 92
    · subst c2
      simp only [if_true] at hg
      have hc : ¬ (((92 : UInt8).toNat : Int) = 34) := by decide
      have hc2 : (((92 : UInt8).toNat : Int) = 92) = True := eq_true rfl
      have h3 : (((p.length + 1 : Nat) : Int) + 1 ≤ ((t.length + 1 : Nat) : Int)) = True := eq_true (by omega)
      have h4 : (((p.length + 1 : Nat) : Int) + 1).toNat = p.length + 2 := by omega
      have hdr : (a :: t).drop (p.length + 2) = r := by rw [← hp]; simp
      simp (disch := first | omega | assumption) only [h0, h1, h2, hi, hc, hc2, wrap64, h3, h4, hdr, go_sem]
      refine zI (zvP hs hx r (by simp only [Lim]; omega)) fun v H1 he => ?_
      unfold zl2 at he
      cases hm : YF x r with
      | none =>
        rw [hm] at he hg
        subst he
        simp (disch := first | omega | assumption) only [go_sem]
        exact hQ _ _ _ _ nofun rfl (by simp [zc, zd, AV.strip, AV.strip1, fail hg.symm])
      | some y =>
        obtain ⟨x', t'⟩ := y
        rw [hm] at he hg
        obtain ⟨hv, o3, o4, hs3⟩ := he
        subst hv
        have h5 := zeq hm
        have h6 := zpL hm
        have h7 : ¬ (((r.length - t'.length : Nat) : Int) = 0) := by omega
        have h8 : ((p.length + 1 : Nat) : Int) + (1 + ((r.length - t'.length : Nat) : Int)) = ((t.length + 1 - t'.length : Nat) : Int) := by omega
        simp (disch := first | omega | assumption) only [h7, wrap64, h8, go_sem]
        exact goJ (hJ (t', x', o3, o4) _ (by simp; omega) ⟨h5.1.trans hsr, ⟨n, by show t'.length < n; omega, hg⟩, by show x'.w + t'.length ≤ t.length; omega, hs3⟩) (by simp (disch := first | omega | assumption) only [go_sem])
    have c2' : ¬ ((c.toNat : Int) = 92) := fun e => c2 (by apply UInt8.toNat_inj.1; show c.toNat = 92; omega)
    rw [if_neg c2] at hg
    simp (disch := first | omega | assumption) only [h0, h1, h2, hi, c1', c2', hf, go_sem]
    refine zb (hmay c) ?_
    cases hm : may c
    · rw [hm] at hg
      simp (disch := first | omega | assumption) only [go_sem]
      exact hQ _ _ _ _ nofun rfl (by simp [zc, zd, AV.strip, AV.strip1, fail hg.symm])
    · rw [hm] at hg
      simp only [if_true] at hg
      simp (disch := first | omega | assumption) only [go_sem]
      refine zI (zlI hs hx) fun v H1 ⟨hv, o', hs1⟩ => ?_
      subst hv
      obtain ⟨hq1, ho1, _, _⟩ := hs1
      have hfw := zez x
      have hpw := zqo x c
      have hbl := z7 (yI x).b
      simp (disch := first | omega | assumption) only [hq1, h2, hi, go_sem]
      refine zv (by rw [hbl]; exact ho1) (by simp [hbl]; omega) (by simp [maxLen, hbl]; omega) fun o3 H2 hs3 => ?_
      have hq2 := Za ho1 hq1 hs3.kept
      simp (disch := first | omega | assumption) only [hq2, wrap64, go_sem]
      have h8 : ((p.length + 1 : Nat) : Int) + 1 = ((t.length + 1 - r.length : Nat) : Int) := by omega
      refine goJ (hJ (r, x.put c, o3, .nil) _ (by simp) ⟨hsr, ⟨n, by show r.length < n; omega, hg⟩, by show (x.put c).w + r.length ≤ t.length; omega, ?_, ?_, rfl, nofun⟩) (by simp (disch := first | omega | assumption) only [h8, go_sem])
      · simp only [upd_same, Sd.put]
        rw [← yV]; rfl
      · simp only [Sd.put, Al5, Al2, Al3]
        exact Zn (by simpa [hbl] using hs3.own) hq2
open Go.Lib
structure SInv' (q:Sd) (t:List UInt8):Prop where
 none:q.u=[]→validD (q.b++t)=true
 some:q.u≠[]→validD q.b=true∧validD t=true
theorem zri {q:Sd} (h:validD q.b=true):validD (yI q).b=true:=by
 unfold yI
 cases hj:zQ q.u with
 | none=>simpa using h
 | some s=>exact zga h (zdU _ _ hj)
theorem zn7 {q:Sd} (h:q.u=[]):(yI q).b=q.b:=by unfold yI;rw[h];simp[zQ]
theorem SInv'.low {q:Sd} {c:UInt8} {t:List UInt8} (h:SInv' q (c::t)) (hc:c.toNat<128):validD q.b=true∧validD t=true:=by
 by_cases hu:q.u=[]
 ·exact ztD hc (h.none hu)
 ·obtain⟨h1,h2⟩:=h.some hu
  rw[validD_cons c t hc] at h2
  exact⟨h1,h2⟩
theorem SInv'.put {q:Sd} {c:UInt8} {t:List UInt8} (h:SInv' q (c::t)):SInv' (q.put c) t:=by
 refine⟨fun _=>?_,fun e=>absurd rfl e⟩
 show validD (((yI q).b++[c])++t)=true
 rw[Z6]
 by_cases hu:q.u=[]
 ·rw[zn7 hu];exact h.none hu
 ·obtain⟨h1,h2⟩:=h.some hu
  exact zga (zri h1) h2
def LR (n:Int) (l:List Val):Prop:=∀ v∈l,zaL v=true∧zM v≤n
theorem LR.all {n:Int}:∀ {l:List Val},LR n l→za5 validD l=true∧zd2 l=true
 | [],_=>⟨rfl,rfl⟩
 | v::l,h=>by
  have h1:=LR.all (l:=l) fun x hx=>h x (.tail _ hx)
  have h2:=(h v (.head _)).1
  simp only[zaL,zk0,Al0] at h2
  simp[za5,zd2,h1.1,h1.2,h2.1,h2.2]
end Go.Proofs.YticbbfbpeimkbaaGreatDoor
namespace Go.Proofs.YticbbfbpeimkbaaGreatDoor
open Go.Ab
def zH (l:List UInt8):Nat×Nat:=if l=[] then (0,0) else if Lib.decodeL l=(65533,1) then (0,0) else Lib.decodeL l
def cv (v0:Nat) (b:Nat→Nat):Nat→Nat
 | 0=>v0
 | j+1=>cv v0 b j*64+b (j+1) % 64
theorem zmD {l:List UInt8} (hne:l≠[]) (h:(zH l).2≠0):Lib.validD l=Lib.validD (l.drop (zH l).2)∧(zH l).2≤l.length:=by
 unfold zH at h ⊢
 rw[if_neg hne] at h ⊢
 split at h
 ·simp at h
 ·rename_i e
  rw[if_neg e]
  refine⟨?_,Lib.decodeL_le l hne⟩
  rw[Lib.validD_step l hne,if_neg]
  rintro⟨a,b⟩
  exact e (Prod.ext a b)
open Go.Lib
end Go.Proofs.YticbbfbpeimkbaaGreatDoor
namespace Go.Proofs.YticbbfbpeimkbaaGreatDoor
open Go.Ab
open Go.Lib
structure DecOk (l:List UInt8) (c k:Nat):Prop where
 enc:Zx c=l.take k
 le:c≤1114111
 pos:1≤k
 len:k≤l.length
 one:k=1→c=(l.getD 0 0).toNat∧(l.getD 0 0).toNat<128
 high:k≠1→∀ x∈l.take k,128≤x.toNat
theorem zbh {n:Nat} {b:UInt8} (h:n=b.toNat):UInt8.ofNat n=b:=UInt8.toNat_inj.1 (by rw[UInt8.toNat_ofNat',h];have:=b.toNat_lt;omega)
theorem zrE {b0 b1:UInt8} {t:List UInt8} (h0:b0.toNat / 32=6) (h1:b1.toNat / 64=2) (hc:128≤b0.toNat % 32*64+b1.toNat % 64):DecOk (b0::b1::t) (b0.toNat % 32*64+b1.toNat % 64) 2:=by
 refine⟨?_,by omega,by omega,by simp,fun h=>by omega,fun _ x hx=>?_⟩
 ·unfold Zx
  rw[if_neg (by omega),if_pos (by omega)]
  simp only[List.take_succ_cons,List.take_zero,List.cons.injEq,and_true]
  exact⟨zbh (by omega),zbh (by omega)⟩
 ·simp only[List.take_succ_cons,List.take_zero,List.mem_cons,List.not_mem_nil,or_false] at hx
  rcases hx with rfl|rfl<;>omega
theorem znX {b0 b1 b2:UInt8} {t:List UInt8} (h0:b0.toNat / 16=14) (h1:b1.toNat / 64=2) (h2:b2.toNat / 64=2) (hc:2048≤b0.toNat % 16*4096+b1.toNat % 64*64+b2.toNat % 64) :
  DecOk (b0::b1::b2::t) (b0.toNat % 16*4096+b1.toNat % 64*64+b2.toNat % 64) 3:=by
 refine⟨?_,by omega,by omega,by simp,fun h=>by omega,fun _ x hx=>?_⟩
 ·unfold Zx
  rw[if_neg (by omega),if_neg (by omega),if_pos (by omega)]
  simp only[List.take_succ_cons,List.take_zero,List.cons.injEq,and_true]
  exact⟨zbh (by omega),zbh (by omega),zbh (by omega)⟩
 ·simp only[List.take_succ_cons,List.take_zero,List.mem_cons,List.not_mem_nil,or_false] at hx
  rcases hx with rfl|rfl|rfl<;>omega
theorem zo0 {b0 b1 b2 b3:UInt8} {t:List UInt8} (h0:b0.toNat / 8=30) (h1:b1.toNat / 64=2) (h2:b2.toNat / 64=2) (h3:b3.toNat / 64=2)
  (hc:65536≤b0.toNat % 8*262144+b1.toNat % 64*4096+b2.toNat % 64*64+b3.toNat % 64) (hd:b0.toNat % 8*262144+b1.toNat % 64*4096+b2.toNat % 64*64+b3.toNat % 64≤1114111) :
  DecOk (b0::b1::b2::b3::t) (b0.toNat % 8*262144+b1.toNat % 64*4096+b2.toNat % 64*64+b3.toNat % 64) 4:=by
 refine⟨?_,by omega,by omega,by simp,fun h=>by omega,fun _ x hx=>?_⟩
 ·unfold Zx
  rw[if_neg (by omega),if_neg (by omega),if_neg (by omega)]
  simp only[List.take_succ_cons,List.take_zero,List.cons.injEq,and_true]
  exact⟨zbh (by omega),zbh (by omega),zbh (by omega),zbh (by omega)⟩
 ·simp only[List.take_succ_cons,List.take_zero,List.mem_cons,List.not_mem_nil,or_false] at hx
  rcases hx with rfl|rfl|rfl|rfl<;>omega
theorem zmo {l:List UInt8} (hne:l≠[]) (h:decodeL l≠(65533,1)):DecOk l (decodeL l).1 (decodeL l).2:=by
 rw[decodeL_N] at h ⊢
 obtain⟨b0,t,rfl⟩:∃ b0 t,l=b0::t:=by cases l with|nil=>exact absurd rfl hne|cons a b=>exact⟨a,b,rfl⟩
 simp only[List.getD_cons_zero,List.getD_cons_succ] at h ⊢
 unfold decodeN at h ⊢
 split at h
 ·rename_i h0
  rw[if_pos h0]
  refine⟨?_,by simp only;omega,by simp,by simp,fun _=>⟨by simp,by simpa using h0⟩,fun h=>absurd rfl h⟩
  simp only
  unfold Zx
  rw[if_pos (by omega)]
  simp only[List.take_succ_cons,List.take_zero,List.cons.injEq,and_true]
  exact zbh rfl
 ·rename_i h0
  rw[if_neg h0]
  split at h
  ·rename_i h1
   rw[if_pos h1]
   split at h
   ·rename_i h2
    rw[if_pos h2]
    obtain⟨b1,t,rfl⟩:∃ b1 r,t=b1::r:=by cases t with|nil=>simp at h1|cons a b=>exact⟨a,b,rfl⟩
    exact zrE h1.1 (by simpa using h1.2.2) (by simpa using h2)
   ·exact absurd rfl h
  ·rename_i h1
   rw[if_neg h1]
   split at h
   ·rename_i h2
    rw[if_pos h2]
    split at h
    ·rename_i h3
     rw[if_pos h3]
     obtain⟨b1,t,rfl⟩:∃ b1 r,t=b1::r:=by cases t with|nil=>simp at h2|cons a b=>exact⟨a,b,rfl⟩
     obtain⟨b2,t,rfl⟩:∃ b2 r,t=b2::r:=by cases t with|nil=>simp at h2|cons a b=>exact⟨a,b,rfl⟩
     exact znX h2.1 (by simpa using h2.2.1.2) (by simpa using h2.2.2.2) (by simpa using h3.1)
    ·exact absurd rfl h
   ·rename_i h2
    rw[if_neg h2]
    split at h
    ·rename_i h3
     rw[if_pos h3]
     split at h
     ·rename_i h4
      rw[if_pos h4]
      obtain⟨b1,t,rfl⟩:∃ b1 r,t=b1::r:=by cases t with|nil=>simp at h3|cons a b=>exact⟨a,b,rfl⟩
      obtain⟨b2,t,rfl⟩:∃ b2 r,t=b2::r:=by cases t with|nil=>simp at h3|cons a b=>exact⟨a,b,rfl⟩
      obtain⟨b3,t,rfl⟩:∃ b3 r,t=b3::r:=by cases t with|nil=>simp at h3|cons a b=>exact⟨a,b,rfl⟩
      exact zo0 h3.1 (by simpa using h3.2.1.2) (by simpa using h3.2.2.1.2) (by simpa using h3.2.2.2.2) (by simpa using h4.1) (by have:=h4.2;simp at this ⊢;omega)
     ·exact absurd rfl h
    ·exact absurd rfl h
theorem YT {l:List UInt8} (hne:l≠[]) (hv:validD l=true):DecOk l (zH l).1 (zH l).2∧validD (l.drop (zH l).2)=true:=by
 rw[validD_step l hne] at hv
 split at hv
 ·cases hv
 ·rename_i h
  have h':decodeL l≠(65533,1):=fun e=>h ⟨by rw[e],by rw[e]⟩
  have e:zH l=decodeL l:=by unfold zH;rw[if_neg hne,if_neg h']
  rw[e]
  exact⟨zmo hne h',hv⟩
theorem ze9 {may:UInt8→Bool}:∀(n m:Nat) (t:List UInt8) (q:Sd),t.length<n→t.length<m→zae may n t q=zae may m t q
 | 0,_,_,_,h,_=>by omega
 | _,0,_,_,_,h=>by omega
 | _+1,_+1,[],_,_,_=>rfl
 | n+1,m+1,c::t,q,h1,h2=>by
  simp only[Al2] at h1 h2
  simp only[zae]
  split
  ·rfl
  ·split
   ·cases he:YF q t with
    | none=>rfl
    | some x =>
     have:=(zeq (q':=x.1) (t':=x.2) he).2
     exact ze9 n m x.2 x.1 (by omega) (by omega)
   ·split
    ·exact ze9 n m t _ (by omega) (by omega)
    ·rfl
def zbV (may:UInt8→Bool) (t:List UInt8) (q:Sd):Option (Sd×List UInt8):=zae may (t.length+1) t q
theorem zmW (may:UInt8→Bool) (t:List UInt8) (q:Sd):zbV may (34::t) q=some (yI q,t):=by simp[zbV,zae]
theorem zny (may:UInt8→Bool) (t:List UInt8) (q:Sd):zbV may (92::t) q=match YF q t with|none=>none|some (q',t')=>zbV may t' q':=by
 unfold zbV
 simp only[Al2,zae]
 rw[if_neg (by decide),if_pos trivial]
 cases he:YF q t with
 | none=>rfl
 | some x =>
  have:=(zeq (q':=x.1) (t':=x.2) he).2
  exact ze9 _ _ x.2 x.1 (by omega) (by omega)
theorem zoN (may:UInt8→Bool) {c:UInt8} (t:List UInt8) (q:Sd) (h1:c≠34) (h2:c≠92):zbV may (c::t) q=if may c then zbV may t (q.put c) else none:=by
 unfold zbV
 simp only[Al2,zae]
 rw[if_neg h1,if_neg h2]
def zuO (x:Option (Sd×List UInt8)):Option (List UInt8×List UInt8):=match x with
 | some (q,t')=>if q.ok then some (q.b,t') else none
 | none=>none
theorem ztz (may:UInt8→Bool) (t:List UInt8):Y7 may t=zuO (zbV may t ⟨[],[],true⟩):=rfl
def Zd (c:UInt8):Bool:=decide (c≠10)&&decide (c≠13)
theorem zie:∀(bs t out:List UInt8),(∀ x∈bs,128≤x.toNat)→zbV Zd (bs++t) ⟨out,[],true⟩=zbV Zd t ⟨out++bs,[],true⟩
 | [],t,out,_=>by simp
 | b::bs,t,out,h=>by
  have hb:=h b (.head _)
  have h0:∀ n:UInt8,n.toNat<128→b≠n:=fun n hn e=>by subst e;omega
  rw[Al6,zoN Zd _ _ (h0 34 (by decide)) (h0 92 (by decide)),if_pos (by simp[Zd,h0 10 (by decide),h0 13 (by decide)])]
  have e:Sd.put ⟨out,[],true⟩ b=⟨out++[b],[],true⟩:=by simp[Sd.put,yI,zQ]
  rw[e,zie bs t (out++[b]) fun x hx=>h x (.tail _ hx)]
  simp
theorem zor {l out:List UInt8} {us:List Nat} {tt:List UInt8} (hj:zQ us=some tt) {c k:Nat} (h:DecOk l c k) (hne:l≠[]) (h1:l.getD 0 0≠34) (h2:l.getD 0 0≠92) (h3:Zd (l.getD 0 0)=true) :
  zbV Zd l ⟨out,us,true⟩=zbV Zd (l.drop k) ⟨out++tt++l.take k,[],true⟩:=by
 obtain⟨b,t,rfl⟩:∃ b t,l=b::t:=by cases l with|nil=>exact absurd rfl hne|cons a b=>exact⟨a,b,rfl⟩
 simp only[List.getD_cons_zero] at h1 h2 h3
 obtain⟨m,rfl⟩:∃ m,k=m+1:=⟨k-1,by have:=h.pos;omega⟩
 rw[zoN Zd t _ h1 h2,if_pos h3]
 have e:Sd.put ⟨out,us,true⟩ b=⟨out++tt++[b],[],true⟩:=by simp[Sd.put,yI,hj]
 rw[e,List.drop_succ_cons,List.take_succ_cons]
 by_cases hm:m=0
 ·subst hm;simp
 ·have hh:=h.high (by omega)
  rw[List.take_succ_cons] at hh
  have:=zie (t.take m) (t.drop m) (out++tt++[b]) fun x hx=>hh x (.tail _ hx)
  rw[List.take_append_drop] at this
  rw[this];simp
def Z7:List UInt8:=[46,46,46]
def zcB:List UInt8:=[33,36,38,40,41,58,61,64,91,93,123,124,125]
def zlS:List UInt8→Bool
 | [c]=>decide (0≤Lib.indexByte zcB c)
 | _=>false
def yP (t:Tok):Bool:=if t.k=1 then decide (t.s=Z7)||zlS t.s else if t.k=2 then ym t.s else if t.k=3∨t.k=4 then decide (Yt t.s=t.k) else if t.k=5 then validD t.s else false
def Zi (u:Nat):List UInt8:=[92,117,hexL.getD (u / 4096 % 16) 0,hexL.getD (u / 256 % 16) 0,hexL.getD (u / 16 % 16) 0,hexL.getD (u % 16) 0]
def Zp (c:Nat) (bs:List UInt8):List UInt8 :=
 if c=34∨c=92 then [92,UInt8.ofNat c] else if c=10 then [92,110] else if c<32 then Zi c
 else if 65536≤c then Zi (55296+(c-65536) / 1024)++Zi (56320+(c-65536) % 1024) else bs
def Zk:Nat→List UInt8→List UInt8
 | 0,_=>[]
 | n+1,l=>if l=[] then [] else Zp (zH l).1 (l.take (zH l).2)++Zk n (l.drop (zH l).2)
def zjU (s:List UInt8):List UInt8:=34::(Zk s.length s++[34])
def YZ (t:Tok):List UInt8:=if t.k=5 then zjU t.s else t.s
def ZW (l:List Tok):List UInt8:=Lib.join (l.map YZ) [32]
def ZO (l:List Tok):List UInt8×Bool:=if l.all yP then (ZW l,true) else ([],false)
def yO:List UInt8→List UInt8→List (List UInt8)
 | cur,[]=>[cur]
 | cur,[c]=>if c=10∨c=13 then [cur,[]] else [cur++[c]]
 | cur,c::d::r=>if c=10 then cur::yO [] (d::r) else if c=13 then (if d=10 then cur::yO [] r else cur::yO [] (d::r)) else yO (cur++[c]) (d::r)
def yo (s:List UInt8):List (List UInt8):=yO [] s
def zhD (c:UInt8):Bool:=decide (c=9)||decide (c=32)
def zaR (s:List UInt8):Nat:=(s.takeWhile zhD).length
def yQ (s:List UInt8):Bool:=s.all zhD
def zdO:List (List UInt8)→Int→Int
 | [],a=>a
 | s::r,a=>zdO r (if yQ s then a else if a<0∨(zaR s:Int)<a then zaR s else a)
def indM (l:List (List UInt8)):Int:=zdO l.tail (-1)
def zdA (l:List (List UInt8)):List (List UInt8):=match l with
 | []=>[]
 | x::r=>x::r.map fun s=>s.drop (indM l).toNat
def zeH (l:List (List UInt8)):List (List UInt8):=(l.reverse.dropWhile yQ).reverse
def Zw (raw:List UInt8):List UInt8:=Lib.join (zeH ((zdA (yo raw)).dropWhile yQ)) [10]
def yA:List UInt8:=[34,34,34]
def zkn:List UInt8:=[92,34,34,34]
def zju:List UInt8:=[239,187,191]
def Yg:Nat→List UInt8→List UInt8→Option (List UInt8×List UInt8)
 | 0,_,_=>none
 | n+1,raw,t=>match t with
  | []=>none
  | c::r=>if yA.isPrefixOf (c::r) then some (raw,r.drop 2) else if zkn.isPrefixOf (c::r) then Yg n (raw++yA) (r.drop 3) else Yg n (raw++[c]) r
def ZJ (c:UInt8):Bool:=!(decide (c=10)||decide (c=13))
def Ym:List UInt8→Nat
 | []=>0
 | c::r=>if c=9∨c=10∨c=13∨c=32∨c=44 then 1 else if zju.isPrefixOf (c::r) then 3 else if c=35 then 1+(r.takeWhile ZJ).length else 0
def Zc (s:List UInt8):Nat:=(s.takeWhile fun c=>isL c||isD c).length
def ZB:List UInt8→Option (Tok×List UInt8)
 | []=>none
 | c::r=>if yA.isPrefixOf (c::r) then (Yg (r.length+1) [] (r.drop 2)).map fun x=>(⟨5,Zw x.1⟩,x.2)
  else if c=34 then (Y7 Zd r).map fun x=>(⟨5,x.1⟩,x.2)
  else if Z7.isPrefixOf (c::r) then some (⟨1,Z7⟩,r.drop 2)
  else if 0≤Lib.indexByte zcB c then some (⟨1,[c]⟩,r)
  else if isL c then some (⟨2,(c::r).take (Zc (c::r))⟩,(c::r).drop (Zc (c::r)))
  else if (y5 (c::r)).1=0 then none
  else if ((c::r).drop (y5 (c::r)).1).head?.any fun d=>isL d||isD d||decide (d=46) then none
  else some (⟨(y5 (c::r)).2,(c::r).take (y5 (c::r)).1⟩,(c::r).drop (y5 (c::r)).1)
def Z3:Nat→List Tok→List UInt8→Except Int (List Tok)
 | 0,_,_=>.error 0
 | n+1,l,t=>if t=[] then .ok l else if Ym t≠0 then Z3 n l (t.drop (Ym t)) else match ZB t with
  | none=>.error 2
  | some (x,t')=>Z3 n (l++[x]) t'
def za2 (c:Nat):Bool:=decide (c=9)||(decide (c=10)||(decide (c=13)||(decide (32≤c)&&decide (c≤65535))))
def zly:Nat→List UInt8→Bool
 | 0,_=>true
 | n+1,l=>if l=[] then true else decide (0<(zH l).2)&&(za2 (zH l).1&&zly n (l.drop (zH l).2))
def zfm (s:List UInt8):Bool:=zly s.length s
def YE (s:List UInt8):Except Int (List Tok):=if 8192<s.length then .error 3 else if zfm s then Z3 (s.length+1) [] s else .error 2
theorem zuV (s:List UInt8):decodeGo ⟨s.toArray⟩=if s=[] then (65533,0) else decodeL s:=by
 unfold decodeGo
 cases s with
 | nil=>rfl
 | cons c r=>rw[if_neg (by simp[ByteArray.size]),if_neg (by simp)];rfl
theorem zrg (s:List UInt8):zq Tryz.prog 272 [.str s] (.tup [.int .i32 ((if s=[] then (65533,0) else decodeL s:Nat×Nat).1),.int .i64 ((if s=[] then (65533,0) else decodeL s:Nat×Nat).2)]):=by
 refine zq.of_below fun γ w vs ht hv=>?_
 rw[znj hv]
 have h:=Tryz.utf8_DecodeRuneInString ⟨s.toArray⟩ w (zlA ht)
 rw[zuV] at h
 exact Calls.mono h fun e w' ⟨he,hb⟩=>⟨hb,_,he,zgg (.int _ _) (.int _ _)⟩
theorem zmZ:Go.Proofs.Builder.Extra Tryz.prog Tryz.lays156_ren where
 sizeBuilder:=by kernel_rfl
 liesBuilder:=by kernel_rfl
 t5:=Tryz.underlying5
 a5:=Tryz.isAgg5
 z5:=Tryz.sizeOf5
 v5:=Tryz.zeroValue5
 infoByte:=by kernel_rfl
 cellsByte:=by kernel_rfl
 sizeByte:=by kernel_rfl
 neB5:=by decide
theorem zaP (l:List (List UInt8)) (sep:List UInt8) (hl:(Lib.join l sep).length≤140737488355328) (hn:l.length≤140737488355328):zq Tryz.prog 121 [.sl .no 1 (cT l),.str sep] (.str (Lib.join l sep)):=by
 refine zq.of_below fun γ w vs ht hv=>?_
 obtain⟨hlv,hr⟩:=hv
 match vs,hlv with
 | [v,u],_ =>
  have h0:=hr 0 _ _ rfl rfl
  cases hr 1 _ _ rfl rfl
  generalize hx:cT l=xs at h0
  cases h0 with
  | slnil _ _ ho =>
   have:l=[]:=by cases l with|nil=>rfl|cons a b=>simp[cT] at hx
   subst this
   exact(Any.strings_Join_none Tryz.lays156 zmZ none 0 ⟨sep.toArray⟩ w).mono fun e w' ⟨he,hw⟩=>⟨by rw[hw];exact RowKit.Below.refl _ _,_,he,.str _⟩
  | sl0 _ _ a ho =>
   have:l=[]:=by cases l with|nil=>rfl|cons a b=>simp[cT] at hx
   subst this
   exact(Any.strings_Join_none Tryz.lays156 zmZ (some a) 0 ⟨sep.toArray⟩ w).mono fun e w' ⟨he,hw⟩=>⟨by rw[hw];exact RowKit.Below.refl _ _,_,he,.str _⟩
  | sl _ _ _ b off cap cv hc hm hu hcell hrr ho =>
   subst hx
   have hcl:=zag l
   cases hl0:l with
   | nil =>
    subst hl0
    exact(Any.strings_Join_none Tryz.lays156 zmZ (some ⟨b,off,none⟩) cap ⟨sep.toArray⟩ w).mono fun e w' ⟨he,hw⟩=>⟨by rw[hw];exact RowKit.Below.refl _ _,_,he,.str _⟩
   | cons x0 r0 =>
    have hcells:∀(j:Nat) x,(l.map fun s=>(⟨s.toArray⟩:ByteArray))[j]?=some x→w.cell? ⟨b,off+j,none⟩=some (.string x):=fun j x hj=>by
     rw[List.getElem?_map,Option.map_eq_some_iff] at hj
     obtain⟨s,h1,rfl⟩:=hj
     have g1:(cT l)[j]?=some [.str s]:=by simp[cT,h1]
     have h2:=hcell j _ g1 0 (by decide)
     have h3:=hrr j _ g1 0 (.str s) rfl
     have e:off+(j*1+0)=off+j:=by omega
     rw[e] at h2
     generalize cv j 0=y at h2 h3
     cases h3
     exact h2.1
    have hbk:b<w.heap.size:=by
     have:=hcells 0 ⟨x0.toArray⟩ (by rw[hl0];rfl)
     exact World.block_lt_of_cell? w _ this
    have hmap:(l.map fun s=>(⟨s.toArray⟩:ByteArray)).map (·.data.toList)=l:=by
     rw[List.map_map];exact(List.map_congr_left (g:=id) fun s _=>by simp).trans (List.map_id l)
    have h:=Any.strings_Join Tryz.lays156 zmZ b off cap (l.map fun s=>(⟨s.toArray⟩:ByteArray)) ⟨sep.toArray⟩ w hcells hbk (by simpa using hn) (by rw[List.length_map];omega) (by rw[hmap];exact hl)
    rw[List.length_map,hmap] at h
    rw[← hl0,hcl]
    exact h.mono fun e w' ⟨he,hb⟩=>⟨hb,_,he,.str _⟩
theorem zpb (s:List UInt8) (i:Nat) (hi:i<s.length) (hs:s.length≤Lim):zq Tryz.prog 210 [.str s,.int .i64 i] (.tup [.int .i64 (zH (s.drop i)).1,.int .i64 (zH (s.drop i)).2]):=by
 refine zq.go ir210 ck210 (Al4 _) fun KP Q hQ=>?_
 simp only[Lim] at hs
 have hne:s.drop i≠[]:=fun e=>by have:=congrArg List.length e;simp at this;omega
 have h1:¬ ((i:Int)<0):=by omega
 have h2:¬ ((s.length:Int)≤i):=by omega
 have h3:((i:Int)≤s.length)=True:=eq_true (by omega)
 simp(disch:=first|omega|assumption) only[ir210,h1,h2,h3,go_sem]
 refine zb (zrg (s.drop i)) ?_
 have hw:=decodeL_width (s.drop i)
 have hr:=decodeL_rune (s.drop i)
 unfold zH at hQ
 simp only[hne,if_false] at hQ ⊢
 generalize decodeL (s.drop i)=x at *
 obtain⟨c,k⟩:=x
 simp only at hw hr hQ
 have e:IntKind.wrap .i64 (c:Int)=c:=wrap64 (by omega) (by omega)
 by_cases hc:c=65533
 ·have g1:((c:Int)=65533)=True:=eq_true (by omega)
  by_cases hk:k<2
  ·have g2:((k:Int)<2)=True:=eq_true (by omega)
   have e1:(c,k)=(65533,1):=by rw[hc];congr 1;omega
   rw[if_pos e1] at hQ
   simp(disch:=first|omega|assumption) only[g1,g2,go_sem]
   exact hQ _ _ _ _ nofun rfl (by simp[zc,zd,AV.strip,AV.strip1])
  ·have g2:¬ ((k:Int)<2):=by omega
   have e1:¬ ((c,k)=(65533,1)):=fun h=>by cases h;omega
   rw[if_neg e1] at hQ
   simp(disch:=first|omega|assumption) only[g1,g2,e,go_sem]
   exact hQ _ _ _ _ nofun rfl (by simp[zc,zd,AV.strip,AV.strip1])
 ·have g1:¬ ((c:Int)=65533):=by omega
  have e1:¬ ((c,k)=(65533,1)):=fun h=>by cases h;omega
  rw[if_neg e1] at hQ
  simp(disch:=first|omega|assumption) only[g1,e,go_sem]
  exact hQ _ _ _ _ nofun rfl (by simp[zc,zd,AV.strip,AV.strip1])
theorem zuy (c:Nat) (h:c≤1114111):zq Tryz.prog 216 [.int .i64 c] (.bool (za2 c)):=by
 refine zq.go ir216 ck216 (Al4 _) fun KP Q hQ=>?_
 by_cases h1:c=9
 ·have g:((c:Int)=9)=True:=eq_true (by omega)
  simp(disch:=first|omega|assumption) only[ir216,g,go_sem]
  exact hQ _ _ _ _ nofun rfl (by simp[zc,zd,AV.strip,AV.strip1,za2,h1])
 have g1:¬ ((c:Int)=9):=by omega
 by_cases h2:c=10
 ·have g:((c:Int)=10)=True:=eq_true (by omega)
  simp(disch:=first|omega|assumption) only[ir216,g1,g,go_sem]
  exact hQ _ _ _ _ nofun rfl (by simp[zc,zd,AV.strip,AV.strip1,za2,h2])
 have g2:¬ ((c:Int)=10):=by omega
 by_cases h3:c=13
 ·have g:((c:Int)=13)=True:=eq_true (by omega)
  simp(disch:=first|omega|assumption) only[ir216,g1,g2,g,go_sem]
  exact hQ _ _ _ _ nofun rfl (by simp[zc,zd,AV.strip,AV.strip1,za2,h3])
 have g3:¬ ((c:Int)=13):=by omega
 by_cases h4:32≤c
 ·have g4:((32:Int)≤c)=True:=eq_true (by omega)
  by_cases h5:c≤65535
  ·have g5:((c:Int)≤65535)=True:=eq_true (by omega)
   simp(disch:=first|omega|assumption) only[ir216,g1,g2,g3,g4,g5,go_sem]
   exact hQ _ _ _ _ nofun rfl (by simp[zc,zd,AV.strip,AV.strip1,za2,h4,h5])
  ·have g5:¬ ((c:Int)≤65535):=by omega
   simp(disch:=first|omega|assumption) only[ir216,g1,g2,g3,g4,g5,go_sem]
   exact hQ _ _ _ _ nofun rfl (by simp[zc,zd,AV.strip,AV.strip1,za2,h1,h2,h3,h5])
 ·have g4:¬ ((32:Int)≤c):=by omega
  simp(disch:=first|omega|assumption) only[ir216,g1,g2,g3,g4,go_sem]
  exact hQ _ _ _ _ nofun rfl (by simp[zc,zd,AV.strip,AV.strip1,za2,h1,h2,h3,h4])
def ZY:Nat→List UInt8→List Nat
 | 0,_=>[]
 | n+1,l=>if l=[] then [] else (if 65536≤(zH l).1 then [55296+((zH l).1-65536) / 1024,56320+((zH l).1-65536) % 1024] else [(zH l).1])++ZY n (l.drop (zH l).2)
theorem ZM (n:Nat):ZY n []=[]:=by cases n<;>simp[ZY]
theorem zfB:∀(n m:Nat) (l:List UInt8),l.length≤n→l.length≤m→validD l=true→ZY n l=ZY m l
 | 0,m,l,h,_,_=>by rw[List.length_eq_zero_iff.1 (by omega:l.length=0),ZM,ZM]
 | n,0,l,_,h,_=>by rw[List.length_eq_zero_iff.1 (by omega:l.length=0),ZM,ZM]
 | n+1,m+1,l,h1,h2,hv=>by
  by_cases hne:l=[]
  ·subst hne;rw[ZM,ZM]
  ·obtain⟨hd,hv2⟩:=YT hne hv
   have:=hd.pos
   have:=hd.len
   simp only[ZY,hne,if_false]
   rw[zfB n m _ (by simp;omega) (by simp;omega) hv2]
theorem zo1 (n:Nat):((n:Int)).tdiv 1024=((n / 1024:Nat):Int):=by rw[Int.tdiv_eq_ediv_of_nonneg (by omega)];omega
theorem zo6 (n:Nat):((n:Int)).tmod 1024=((n % 1024:Nat):Int):=by rw[Int.tmod_eq_emod_of_nonneg (by omega)];omega
theorem ztT (s:List UInt8) (hv:validD s=true) (hs:s.length≤Lim):zq Tryz.prog 211 [.str s] (.tup [.sl .no 1 (cU (ZY s.length s)),.bool true]):=by
 refine zq.go ir211 ck211 (Al4 _) fun KP Q hQ=>?_
 have hs':=hs
 simp only[Lim] at hs
 simp(disch:=first|omega|assumption) only[ir211,go_sem]
 refine yB (fun x:Own×List Nat×Nat=>[(4,.sl x.1 1 (cU x.2.1)),(5,.int .i64 x.2.2)])
  (fun x H=>x.2.2≤s.length∧x.2.1.length≤2*x.2.2∧ZY s.length s=x.2.1++ZY (s.drop x.2.2).length (s.drop x.2.2)∧validD (s.drop x.2.2)=true∧OwnS za.emp .nil H x.1 x.2.1.length 1) (fun x=>s.length-x.2.2) (.nil,[],0) (by simp(disch:=first|omega|assumption) only[cU,go_sem]) ⟨by simp,by simp,by simp,by simpa using hv,OwnS.refl rfl⟩ ?_
 rintro⟨o,acc,i⟩ H J ⟨hi,hai,hc,hv,hs1⟩ hJ
 simp only at hi hai hc hv hs1
 by_cases hlt:i<s.length
 case neg =>
  have hlt':¬ (i:Int)<s.length:=by omega
  rw[List.drop_of_length_le (by omega)] at hc
  rw[ZM,List.append_nil] at hc
  simp(disch:=first|omega|assumption) only[hlt',go_sem]
  exact hQ _ _ _ _ nofun rfl (by simp[zc,zd,AV.strip,AV.strip1,hc])
 have hlt':(i:Int)<s.length:=by omega
 have hne:s.drop i≠[]:=fun e=>by have:=congrArg List.length e;simp at this;omega
 have hcl:=zjB acc
 obtain⟨hd,hv2⟩:=YT hne hv
 have hp:=hd.pos
 have hle:=hd.len
 have hmax:=hd.le
 have hst:ZY (s.drop i).length (s.drop i)=(if 65536≤(zH (s.drop i)).1 then [55296+((zH (s.drop i)).1-65536) / 1024,56320+((zH (s.drop i)).1-65536) % 1024] else [(zH (s.drop i)).1])++ZY ((s.drop i).drop (zH (s.drop i)).2).length ((s.drop i).drop (zH (s.drop i)).2):=by
  obtain⟨n,hn⟩:∃ n,(s.drop i).length=n+1:=⟨(s.drop i).length-1,by omega⟩
  rw[hn,ZY,if_neg hne,zfB n _ _ (by simp at hn ⊢;omega) (Al4 _) hv2]
 simp(disch:=first|omega|assumption) only[hlt',go_sem]
 refine zb (zpb s i hlt hs') ?_
 rw[hst] at hc
 rw[List.drop_drop] at hc hv2
 rw[List.length_drop] at hle
 generalize (zH (s.drop i)).1=c at *
 generalize (zH (s.drop i)).2=k at *
 have h0':¬ ((k:Int)=0):=by omega
 by_cases hc6:65536≤c
 ·have g:((65536:Int)≤c)=True:=eq_true (by omega)
  have w1:IntKind.wrap .i64 ((c:Int)-65536)=((c-65536:Nat):Int):=by rw[wrap64 (by omega) (by omega)];omega
  have w2:IntKind.wrap .i64 (((c-65536) / 1024:Nat):Int)=(((c-65536) / 1024:Nat):Int):=wrap64 (by omega) (by omega)
  have w3:IntKind.wrap .i64 (55296+(((c-65536) / 1024:Nat):Int))=((55296+(c-65536) / 1024:Nat):Int):=by rw[wrap64 (by omega) (by omega)];omega
  have w4:IntKind.wrap .i64 (56320+(((c-65536) % 1024:Nat):Int))=((56320+(c-65536) % 1024:Nat):Int):=by rw[wrap64 (by omega) (by omega)];omega
  rw[if_pos hc6] at hc
  simp(disch:=first|omega|assumption) only[h0',g,w1,zo1,zo6,w2,w3,w4,go_sem]
  refine zv (by rw[hcl];exact hs1.own) (by simp only[hcl,Al2,Al3];omega) (by simp only[hcl,Al2,Al3,maxLen];omega) fun o' H' hs2=>?_
  simp(disch:=first|omega|assumption) only[wrap64,go_sem]
  exact goJ (hJ (o',acc++[55296+(c-65536) / 1024,56320+(c-65536) % 1024],i+k) H' (by simp only;omega) ⟨by simp only;omega,by simp;omega,by rw[hc];simp,hv2,hs1.trans (by simpa[hcl] using hs2)⟩) (by simp(disch:=first|omega|assumption) only[cU,List.map_append,Int.natCast_add,go_sem])
 ·have g:¬ ((65536:Int)≤c):=by omega
  rw[if_neg hc6] at hc
  simp(disch:=first|omega|assumption) only[h0',g,go_sem]
  refine zv (by rw[hcl];exact hs1.own) (by simp only[hcl,Al2,Al3];omega) (by simp only[hcl,Al2,Al3,maxLen];omega) fun o' H' hs2=>?_
  simp(disch:=first|omega|assumption) only[wrap64,go_sem]
  exact goJ (hJ (o',acc++[c],i+k) H' (by simp only;omega) ⟨by simp only;omega,by simp;omega,by rw[hc];simp,hv2,hs1.trans (by simpa[hcl] using hs2)⟩) (by simp(disch:=first|omega|assumption) only[cU,List.map_append,Int.natCast_add,go_sem])
theorem zoe {n n' b0 b1 b2 b3 c1 c2 c3 c k:Nat} (h:decodeN n b0 b1 b2 b3=(c,k)) (hv:(c,k)≠(65533,1)) (hn:k≤n') (h1:1<k→c1=b1) (h2:2<k→c2=b2) (h3:3<k→c3=b3):decodeN n' b0 c1 c2 c3=(c,k):=by
 unfold decodeN at h
 split at h
 ·rename_i h0
  unfold decodeN
  rw[if_pos h0,h]
 rename_i h0
 split at h
 ·rename_i hA
  split at h
  ·rename_i hB
   cases h
   unfold decodeN
   rw[if_neg h0,h1 (by decide),if_pos ⟨hA.1,by omega,hA.2.2⟩,if_pos hB]
  ·exact absurd h.symm hv
 rename_i hA
 split at h
 ·rename_i hB
  split at h
  ·rename_i hC
   cases h
   unfold decodeN
   rw[if_neg h0,h1 (by decide),h2 (by decide),if_neg (by omega),if_pos ⟨hB.1,⟨by omega,hB.2.1.2⟩,by omega,hB.2.2.2⟩,if_pos hC]
  ·exact absurd h.symm hv
 rename_i hB
 split at h
 ·rename_i hC
  split at h
  ·rename_i hD
   cases h
   unfold decodeN
   rw[if_neg h0,h1 (by decide),h2 (by decide),h3 (by decide),if_neg (by omega),if_neg (by omega),if_pos ⟨hC.1,⟨by omega,hC.2.1.2⟩,⟨by omega,hC.2.2.1.2⟩,by omega,hC.2.2.2.2⟩,if_pos hD]
  ·exact absurd h.symm hv
 ·exact absurd h.symm hv
theorem zeX {l:List UInt8} (hne:l≠[]) (h:(zH l).2≠0):zH l=decodeL l∧decodeL l≠(65533,1):=by
 unfold zH at h ⊢
 rw[if_neg hne] at h ⊢
 split at h
 ·exact absurd rfl h
 ·rename_i h2;rw[if_neg h2];exact⟨rfl,h2⟩
theorem zdM {l:List UInt8} (hne:l≠[]) (h:(zH l).2≠0) (t:List UInt8):zH (l.take (zH l).2++t)=zH l:=by
 obtain⟨e,hv⟩:=zeX hne h
 have hk:=decodeL_le l hne
 rw[e]
 generalize hd:decodeL l=x at *
 obtain⟨c,k⟩:=x
 simp only at *
 have h2:decodeL (l.take k++t)=(c,k):=by
  rw[decodeL_N] at hd ⊢
  have hg:∀ j,j<k→(l.take k++t).getD j 0=l.getD j 0:=fun j hj=>by
   simp only[List.getD_eq_getElem?_getD]
   rw[List.getElem?_append_left (by simp;omega),List.getElem?_take_of_lt hj]
  have hk1:1≤k:=by rw[← show (decodeL l).2=k by rw[decodeL_N,hd]];exact decodeL_width l
  rw[hg 0 (by omega)]
  exact zoe hd hv (by simp;omega) (fun hj=>by rw[hg 1 hj]) (fun hj=>by rw[hg 2 hj]) fun hj=>by rw[hg 3 hj]
 have hne2:l.take k++t≠[]:=fun e=>by
  have h3:=congrArg List.length e
  have hk1:1≤k:=by rw[← show (decodeL l).2=k by rw[hd]];exact decodeL_width l
  have hl:0<l.length:=List.length_pos_iff.2 hne
  simp only[Al5,List.length_take,Al3] at h3;omega
 unfold zH
 rw[if_neg hne2,h2,if_neg hv]
theorem zkW (b:UInt8) (t:List UInt8) (h:b.toNat<128):zH (b::t)=(b.toNat,1):=by
 unfold zH
 rw[if_neg (by simp),decodeL_ascii b t h,if_neg (by simp;omega)]
def zeU (r:List UInt8):Prop:=r=[]∨∃ c t,r=c::t∧(c=32∨c=10)
theorem zkx {r:List UInt8} (h:zeU r):yu r=0:=by
 rcases h with rfl|⟨c,t,rfl,rfl|rfl⟩
 ·rfl
 all_goals simp[yu,isD]
theorem zcS:∀(a:List UInt8) {r:List UInt8},zeU r→yu (a++r)=yu a
 | [],r,h=>zkx h
 | c::a,r,h=>by simp only[Al6,yu];rw[zcS a h]
theorem zkw (a:List UInt8) {r:List UInt8} (h:zeU r):Y5 (a++r)=Y5 a:=by
 unfold Y5
 rw[zcS a h]
 cases a with
 | nil=>simp[yu]
 | cons c a=>simp
theorem zlT (a:List UInt8) {r:List UInt8} (h:zeU r):zX (a++r)=zX a:=by
 cases a with
 | nil =>
  have h1:=zkx h
  have h2:zX []=0:=rfl
  rw[Zy,h2]
  unfold zX
  rcases h with rfl|⟨c,t,rfl,rfl|rfl⟩
  ·rfl
  all_goals
   rw[if_neg (by simp)];unfold Y5;rw[if_pos h1]
 | cons c a =>
  by_cases hc:c=45
  ·subst hc;rw[Al6,zbW,zbW,zcS a h,zkw a h]
  ·rw[YQ (s:=c::a++r) (by simp[hc]),YQ (s:=c::a) (by simp[hc]),zkw (c::a) h]
theorem zoh (a:List UInt8) {r:List UInt8} (h:zeU r):ZL (a++r)=ZL a:=by
 cases a with
 | nil=>rcases h with rfl|⟨c,t,rfl,rfl|rfl⟩<;>rfl
 | cons c a=>simp[ZL,zcS a h]
theorem zpY (a:List UInt8) {r:List UInt8} (h:zeU r):zaX (a++r)=zaX a:=by
 cases a with
 | nil =>
  rcases h with rfl|⟨c,t,rfl,rfl|rfl⟩
  ·rfl
  all_goals simp[zaX,isE]
 | cons c a =>
  have hs:sgN (a++r)=sgN a:=by
   cases a with
   | nil=>rcases h with rfl|⟨c,t,rfl,rfl|rfl⟩<;>simp[sgN]
   | cons d a=>simp[sgN]
  have hd:(a++r).drop (sgN a)=a.drop (sgN a)++r:=List.drop_append_of_le_length (zlU a)
  simp only[Al6,zaX,hs,hd,zcS _ h]
theorem zkF {a:List UInt8} {r:List UInt8} (h:zeU r):y5 (a++r)=y5 a:=by
 have h1:=zfp a
 have e1:(a++r).drop (zX a)=a.drop (zX a)++r:=List.drop_append_of_le_length h1
 have h2:=zkO (a.drop (zX a))
 simp only[List.length_drop] at h2
 have e2:(a++r).drop (zX a+ZL (a.drop (zX a)))=a.drop (zX a+ZL (a.drop (zX a)))++r:=List.drop_append_of_le_length (by omega)
 unfold y5
 rw[zlT a h,e1,zoh _ h,e2,zpY _ h]
theorem ztC:∀ x:Fin 16,hexD (hexL.getD x.val 0)=some x.val:=by decide +kernel
theorem zs8 (n:Nat):hexD (hexL.getD (n % 16) 0)=some (n % 16):=ztC ⟨n % 16,Nat.mod_lt _ (by decide)⟩
theorem zmp {u:Nat} (h:u<65536) (t:List UInt8):Y9 (hexL.getD (u / 4096 % 16) 0::hexL.getD (u / 256 % 16) 0::hexL.getD (u / 16 % 16) 0::hexL.getD (u % 16) 0::t)=some u:=by
 simp only[Y9,Y8,zs8]
 congr 1
 omega
theorem zdb:∀(us vs:List Nat) (tt:List UInt8),zQ us=some tt→zQ (us++vs)=(zQ vs).map (tt++·)
 | [],vs,tt,h=>by
  simp only[zQ,Al1] at h;subst h
  rw[Zy]
  cases hj:zQ vs<;>simp
 | [u],vs,tt,h=>by
  unfold zQ at h
  rw[List.singleton_append]
  conv=>lhs;unfold zQ
  split at h
  ·cases h
  ·rename_i h1
   rw[if_neg h1]
   split at h
   ·cases h
   ·rename_i h2
    rw[if_neg h2]
    simp only[zQ,zas,Al1,List.append_nil] at h
    subst h;rfl
 | u::v::r,vs,tt,h=>by
  unfold zQ at h
  rw[Al6]
  conv=>lhs;unfold zQ
  split at h
  ·cases h
  ·rename_i h1
   rw[if_neg h1]
   split at h
   ·rename_i h2
    rw[if_pos h2]
    simp only[Al6] at h ⊢
    split at h
    ·cases h
    ·rename_i h3
     rw[if_neg h3]
     cases hj:zQ r with
     | none=>rw[hj] at h;cases h
     | some x =>
      rw[hj] at h
      simp only[zas,Al1] at h
      rw[zdb r vs x hj]
      subst h
      cases zQ vs<;>simp
   ·rename_i h2
    rw[if_neg h2]
    cases hj:zQ (v::r) with
    | none=>rw[hj] at h;cases h
    | some x =>
     rw[hj] at h
     simp only[zas,Al1] at h
     rw[zdb (v::r) vs x hj]
     subst h
     cases zQ vs<;>simp
theorem zn9 {u:Nat} (h1:u≤65535) (h2:u<55296∨57343<u):zQ [u]=some (Zx u):=by
 unfold zQ;rw[if_neg (by omega),if_neg (by omega)];simp[zQ]
theorem znQ {c:Nat} (h1:65536≤c) (h2:c≤1114111):zQ [55296+(c-65536) / 1024,56320+(c-65536) % 1024]=some (Zx c):=by
 have e:65536+1024*(55296+(c-65536) / 1024-55296)+(56320+(c-65536) % 1024-56320)=c:=by omega
 unfold zQ;rw[if_neg (by omega),if_pos (by omega)]
 simp only
 rw[if_neg (by omega),e]
 simp[zQ]
theorem zfa {u:Nat} (h:u<65536) (t out:List UInt8) (us:List Nat):zbV Zd (Zi u++t) ⟨out,us,true⟩=zbV Zd t ⟨out,us++[u],true⟩:=by
 simp only[Zi,Al6,Zy]
 rw[zny]
 simp only[YF,if_true,zmp h,zas,List.drop_succ_cons,List.drop_zero]
theorem zhl {k:UInt8} {v:UInt8} (hk:k≠117) (h1:¬ Lib.indexByte zhu k<0) (h2:ztt.getD (Lib.indexByte zhu k).toNat 0=v) {us:List Nat} {tt:List UInt8} (hj:zQ us=some tt) (t out:List UInt8) :
  zbV Zd (92::k::t) ⟨out,us,true⟩=zbV Zd t ⟨out++tt++[v],[],true⟩:=by
 rw[zny]
 simp only[YF,if_neg hk,if_neg h1,h2]
 simp[Sd.put,yI,hj]
theorem zhm {l:List UInt8} {c k:Nat} (h:DecOk l c k) (hc:c<128):k=1∧l.take k=[UInt8.ofNat c]∧(l.getD 0 0).toNat=c:=by
 have e:=h.enc
 have hl:(Zx c).length=1:=by unfold Zx;rw[if_pos (by omega)];rfl
 have hk:k=1:=by
  rw[e] at hl
  have:=h.len
  simp at hl;omega
 refine⟨hk,by rw[← e];unfold Zx;rw[if_pos (by omega)],(h.one hk).1.symm⟩
theorem zvt {l:List UInt8} (hne:l≠[]) (h:(zH l).2≠0):(zH l).1<55296∨57343<(zH l).1:=by
 obtain⟨e,hv⟩:=zeX hne h
 rw[e]
 rw[decodeL_N] at hv ⊢
 generalize (l.getD 0 0).toNat=b0 at *
 generalize (l.getD 1 0).toNat=b1 at *
 generalize (l.getD 2 0).toNat=b2 at *
 generalize (l.getD 3 0).toNat=b3 at *
 unfold decodeN at hv ⊢
 repeat' split
 all_goals first|(simp only;omega)|(simp_all;done)|(simp_all;omega)
theorem zhU:∀(n:Nat) (l out:List UInt8) (us:List Nat) (tt rest:List UInt8),l.length≤n→validD l=true→zQ us=some tt→zbV Zd (Zk n l++34::rest) ⟨out,us,true⟩=some (⟨out++tt++l,[],true⟩,rest)
 | 0,l,out,us,tt,rest,hn,_,hj=>by
  obtain rfl:l=[]:=List.length_eq_zero_iff.1 (by omega)
  simp only[Zk,Zy]
  rw[zmW];simp[yI,hj]
 | n+1,l,out,us,tt,rest,hn,hv,hj=>by
  rw[Zk]
  by_cases hne:l=[]
  ·subst hne
   simp only[if_true,Zy]
   rw[zmW];simp[yI,hj]
  ·rw[if_neg hne]
   obtain⟨hd,hv2⟩:=YT hne hv
   have hpos:=hd.pos
   have hle:=hd.len
   have hsur:=zvt hne (by omega)
   have hmax:=hd.le
   have hen:=hd.enc
   have hpre:=zdM hne (by omega:(zH l).2≠0)
   generalize (zH l).1=c at *
   generalize (zH l).2=k at *
   have hl:(l.drop k).length≤n:=by simp;omega
   have hcat:l.take k++l.drop k=l:=List.take_append_drop k l
   have ih:∀ out us tt,zQ us=some tt→zbV Zd (Zk n (l.drop k)++34::rest) ⟨out,us,true⟩=some (⟨out++tt++l.drop k,[],true⟩,rest):=fun out us tt hj=>zhU n (l.drop k) out us tt rest hl hv2 hj
   have fin:∀ x:List UInt8,x=l.take k→out++tt++x++l.drop k=out++tt++l:=fun x hx=>by rw[hx,Z6,hcat]
   rw[Z6]
   unfold Zp
   by_cases h1:c=34∨c=92
   ·rw[if_pos h1]
    obtain⟨rfl,ht,_⟩:=zhm hd (by omega)
    simp only[Al6,Zy]
    rcases h1 with rfl|rfl
    ·rw[zhl (v:=34) (by decide) (by decide) (by decide) hj,ih _ [] [] rfl,List.append_nil]
     exact congrArg some (Prod.ext (by simp only[Sd.mk.injEq,and_self,and_true];exact fin [34] (by rw[ht];rfl)) rfl)
    ·rw[zhl (v:=92) (by decide) (by decide) (by decide) hj,ih _ [] [] rfl,List.append_nil]
     exact congrArg some (Prod.ext (by simp only[Sd.mk.injEq,and_self,and_true];exact fin [92] (by rw[ht];rfl)) rfl)
   rw[if_neg h1]
   by_cases h2:c=10
   ·rw[if_pos h2]
    subst h2
    obtain⟨rfl,ht,_⟩:=zhm hd (by omega)
    simp only[Al6,Zy]
    rw[zhl (v:=10) (by decide) (by decide) (by decide) hj,ih _ [] [] rfl,List.append_nil]
    exact congrArg some (Prod.ext (by simp only[Sd.mk.injEq,and_self,and_true];exact fin [10] (by rw[ht];rfl)) rfl)
   rw[if_neg h2]
   by_cases h3:c<32
   ·rw[if_pos h3,zfa (by omega),ih out (us++[c]) (tt++Zx c) (by rw[zdb us [c] tt hj,zn9 (by omega) (by omega)];rfl)]
    exact congrArg some (Prod.ext (by simp only[Sd.mk.injEq,and_self,and_true];rw[← Z6];exact fin (Zx c) hen) rfl)
   rw[if_neg h3]
   by_cases h4:65536≤c
   ·rw[if_pos h4,Z6,zfa (by omega),zfa (by omega),ih out (us++[_]++[_]) (tt++Zx c) (by rw[Z6,zdb us _ tt hj,List.singleton_append,znQ h4 (by omega)];rfl)]
    exact congrArg some (Prod.ext (by simp only[Sd.mk.injEq,and_self,and_true];rw[← Z6];exact fin (Zx c) hen) rfl)
   ·rw[if_neg h4]
    obtain⟨b,t,hbt⟩:∃ b t,l=b::t:=by cases l with|nil=>exact absurd rfl hne|cons a b=>exact⟨a,b,rfl⟩
    have hg:(l.take k++(Zk n (l.drop k)++34::rest)).getD 0 0=l.getD 0 0:=by
     rw[hbt];obtain⟨m,rfl⟩:∃ m,k=m+1:=⟨k-1,by omega⟩;simp
    have hd2:DecOk (l.take k++(Zk n (l.drop k)++34::rest)) c k:=by
     have htk:(l.take k++(Zk n (l.drop k)++34::rest)).take k=l.take k:=List.take_left' (by simp;omega)
     exact⟨by rw[htk];exact hen,hmax,hpos,by simp;omega,fun e=>by rw[hg];exact hd.one e,fun e=>by rw[htk];exact hd.high e⟩
    have hb:(l.getD 0 0).toNat=c∨128≤(l.getD 0 0).toNat:=by
     by_cases hk1:k=1
     ·exact .inl (hd.one hk1).1.symm
     ·right
      refine hd.high hk1 _ ?_
      rw[hbt];obtain⟨m,rfl⟩:∃ m,k=m+1:=⟨k-1,by omega⟩;simp
    have hne0:∀ m:UInt8,m.toNat<128→m.toNat≠c→l.getD 0 0≠m:=fun m hm hc e=>by rw[e] at hb;omega
    rw[zor hj hd2 (by rw[hbt];obtain⟨m,rfl⟩:∃ m,k=m+1:=⟨k-1,by omega⟩;simp) (by rw[hg];exact hne0 34 (by decide) (by simp;omega)) (by rw[hg];exact hne0 92 (by decide) (by simp;omega))
     (by rw[hg];simp only[Zd,Al0,decide_eq_true_eq];exact⟨hne0 10 (by decide) (by simp;omega),hne0 13 (by decide) (by simp;omega)⟩)]
    rw[List.take_left' (by simp;omega),List.drop_left' (by simp;omega),ih _ [] [] rfl,List.append_nil]
    exact congrArg some (Prod.ext (by simp only[Sd.mk.injEq,and_self,and_true];exact fin _ rfl) rfl)
theorem zog (s rest:List UInt8) (hv:validD s=true):Y7 Zd (Zk s.length s++34::rest)=some (s,rest):=by
 rw[ztz,zhU s.length s [] [] [] rest (Al4 _) hv rfl]
 simp[zuO]
theorem zdp (u:Nat):(Zi u).length=6:=rfl
theorem zgy {l:List UInt8} {c k:Nat} (h:DecOk l c k):(Zp c (l.take k)).length≤6*k:=by
 have hp:=h.pos
 have hl:=h.len
 have he:=h.enc
 unfold Zp
 split
 ·simp;omega
 split
 ·simp;omega
 split
 ·rw[zdp];omega
 split
 ·have:k=4:=by
   have e:=congrArg List.length he
   unfold Zx at e
   rw[if_neg (by omega),if_neg (by omega),if_neg (by omega)] at e
   simp at e;omega
  simp only[Al5,zdp];omega
 ·simp;omega
theorem zaB (n:Nat):Zk n []=[]:=by cases n<;>simp[Zk]
theorem zgB:∀(n m:Nat) (l:List UInt8),l.length≤n→l.length≤m→validD l=true→Zk n l=Zk m l
 | 0,m,l,h,_,_=>by rw[List.length_eq_zero_iff.1 (by omega:l.length=0),zaB,zaB]
 | n,0,l,_,h,_=>by rw[List.length_eq_zero_iff.1 (by omega:l.length=0),zaB,zaB]
 | n+1,m+1,l,h1,h2,hv=>by
  by_cases hne:l=[]
  ·subst hne;rw[zaB,zaB]
  ·obtain⟨hd,hv2⟩:=YT hne hv
   have:=hd.pos
   have:=hd.len
   simp only[Zk,hne,if_false]
   rw[zgB n m _ (by simp;omega) (by simp;omega) hv2]
theorem ziq:∀(n:Nat) (l:List UInt8),validD l=true→(Zk n l).length≤6*l.length
 | 0,l,_=>by simp[Zk]
 | n+1,l,hv=>by
  by_cases hne:l=[]
  ·subst hne;simp[Zk]
  ·obtain⟨hd,hv2⟩:=YT hne hv
   have h1:=zgy hd
   have h2:=ziq n _ hv2
   have h3:=hd.len
   simp only[Zk,hne,if_false,Al5]
   simp only[List.length_drop] at h2
   omega
def zhW (l:List UInt8):List UInt8:=Zk l.length l
theorem zmc {l:List UInt8} (hne:l≠[]) (hv:validD l=true):zhW l=Zp (zH l).1 (l.take (zH l).2)++zhW (l.drop (zH l).2):=by
 obtain⟨hd,hv2⟩:=YT hne hv
 have:=hd.pos
 have:=hd.len
 unfold zhW
 obtain⟨n,hn⟩:∃ n,l.length=n+1:=⟨l.length-1,by omega⟩
 rw[hn,Zk,if_neg hne,zgB n _ _ (by simp;omega) (Al4 _) hv2]
theorem zpx (s:List UInt8) (hv:validD s=true):(zjU s).length≤6*s.length+2:=by
 have:=ziq s.length s hv
 simp only[zjU,Al2,Al5,Al3];omega
theorem zqd {t:Tok} (h:yP t=true):(YZ t).length≤6*t.s.length+2:=by
 unfold YZ
 split
 ·rename_i h5
  unfold yP at h
  rw[h5] at h
  exact zpx _ (by simpa using h)
 ·omega
theorem fdN (u k:Nat) (hk:k≤64):(u:Int).fdiv (2 ^ min k IntKind.i64.bits)=((u / 2 ^ k:Nat):Int):=by
 have e:min k IntKind.i64.bits=k:=by show min k 64=k;omega
 rw[e,Int.fdiv_eq_ediv_of_nonneg _ (by exact_mod_cast Nat.zero_le _)]
 norm_cast
theorem zt9 (n:Nat):((n:Int)).tmod 16=((n % 16:Nat):Int):=by rw[Int.tmod_eq_emod_of_nonneg (by omega)];omega
theorem ztJ (u:Nat) (hu:u<65536) (acc:List UInt8) (H:za) (o:Own) (ho:yg H o acc.length 1) (hb:acc.length≤Lim) :
  zh8 Tryz.prog 212 [.sl o 1 (bytesOf acc),.int .i64 u] H o 1 (bytesOf (acc++Zi u)):=by
 refine zj.goO ir212 ck212 (Al4 _) fun KP Q hQ hP=>?_
 have hal:=z7 acc
 simp only[Lim] at hb
 simp(disch:=first|omega|assumption) only[ir212,steps,st2,pev,rev,oev,zY,ya,yk,yi,bound,zF,mm2,mk,zr,AV.cells,AV.boxable,AV.one,AV.strip1,zG,zD,Nat.reduceEqDiff,reduceCtorEq,↓reduceIte,Nat.reduceAdd,Int.reduceNeg,Nat.reduceLeDiff,Int.reduceToNat,Int.reduceEq,Int.reduceLT,Int.reduceLE,Int.reduceAdd,Io,Im,If,Il,Jt,Jf,AC.rg,Jm,Jl,Ja,Fm,Fl,Fa,Imv,Imb,Iai,Iei,Igi,Isi,Ipf,Ipt,Ilb,Iia,Ilt,Iap,Ink,Iln,Ils,Iad,Iex,Ibx,Ing]
 refine zv (by rw[hal];exact ho) (by simp[hal];omega) (by simp[hal,maxLen];omega) fun o1 H1 hs1=>?_
 have hs1':OwnS H o H1 o1 (acc++[92,117]).length 1:=by simpa[hal] using hs1
 have e1:bytesOf acc++[[AV.int .u8 92],[AV.int .u8 117]]=bytesOf (acc++[92,117]):=zcU acc 92 117
 simp(disch:=first|omega|assumption) only[e1,steps,st2,pev,rev,oev,zY,ya,yk,yi,bound,zF,mm2,mk,zr,AV.cells,AV.boxable,AV.one,AV.strip1,zG,zD,Nat.reduceEqDiff,reduceCtorEq,↓reduceIte,Nat.reduceAdd,Int.reduceNeg,Nat.reduceLeDiff,Int.reduceToNat,Int.reduceEq,Int.reduceLT,Int.reduceLE,Int.reduceAdd]
 refine yB (fun x:Nat×Own=>[(0,.sl x.2 1 (bytesOf (acc++(Zi u).take (6-x.1)))),(5,.int .i64 ((x.1:Int)-1))]) (fun x H'=>x.1≤4∧OwnS H o H' x.2 (acc++(Zi u).take (6-x.1)).length 1) (fun x=>x.1) (4,o1) (by simp(disch:=first|omega|assumption) only[Zi,Int.reduceSub,steps,st2,pev,rev,oev,zY,ya,yk,yi,bound,zF,mm2,mk,zr,AV.cells,AV.boxable,AV.one,AV.strip1,zG,zD,Nat.reduceEqDiff,reduceCtorEq,↓reduceIte,Nat.reduceAdd,Int.reduceNeg,Nat.reduceLeDiff,Int.reduceToNat,Int.reduceEq,Int.reduceLT,Int.reduceLE,Int.reduceAdd]) ⟨by simp,by simpa[Zi] using hs1'⟩ ?_
 rintro⟨k,o2⟩ H2 J ⟨hk,hs⟩ hJ
 simp only at hk hs
 cases k with
 | zero =>
  have h0:¬ ((0:Int)≤-1):=by omega
  have e:(Zi u).take (6-0)=Zi u:=rfl
  rw[e] at hs
  simp(disch:=first|omega|assumption) only[h0,e,Int.reduceSub,steps,st2,pev,rev,oev,zY,ya,yk,yi,bound,zF,mm2,mk,zr,AV.cells,AV.boxable,AV.one,AV.strip1,zG,zD,Nat.reduceEqDiff,reduceCtorEq,↓reduceIte,Nat.reduceAdd,Int.reduceNeg,Nat.reduceLeDiff,Int.reduceToNat,Int.reduceEq,Int.reduceLT,Int.reduceLE,Int.reduceAdd]
  exact hQ _ _ H2 H2 [_] nofun rfl (Low.refl _) ⟨o2,rfl,by rw[z7];exact hs⟩
 | succ j =>
  have e0:((j+1:Nat):Int)-1=(j:Int):=by omega
  have h0:((0:Int)≤j)=True:=eq_true (by omega)
  have w1:IntKind.wrap .i64 (4*(j:Int))=((4*j:Nat):Int):=by rw[wrap64 (by omega) (by omega)];omega
  have w2:=fdN u (4*j) (by omega)
  have hlt:(((u / 2 ^ (4*j) % 16:Nat):Int)<16)=True:=eq_true (by omega)
  have w0:(((4*j:Nat):Int)<0)=False:=eq_false (by omega)
  have hm:((Zi u).take (6-(j+1)))++[hexL.getD (u / 2 ^ (4*j) % 16) 0]=(Zi u).take (6-j):=by
   have:j=0∨j=1∨j=2∨j=3:=by omega
   rcases this with rfl|rfl|rfl|rfl<;>simp[Zi]
  have hl2:=z7 (acc++(Zi u).take (6-(j+1)))
  have hl3:(acc++(Zi u).take (6-(j+1))).length≤acc.length+6:=by simp[zdp];omega
  have e3:=za6 (acc++(Zi u).take (6-(j+1))) (hexL.getD (u / 2 ^ (4*j) % 16) 0)
  rw[Z6,hm] at e3
  have hg:([48,49,50,51,52,53,54,55,56,57,97,98,99,100,101,102]:List UInt8).getD (u / 2 ^ (4*j) % 16) 0=hexL.getD (u / 2 ^ (4*j) % 16) 0:=rfl
  simp(disch:=first|omega|assumption) only[e0,h0,w1,w2,w0,zt9,hlt,hg,steps,st2,pev,rev,oev,zY,ya,yk,yi,bound,zF,mm2,mk,zr,AV.cells,AV.boxable,AV.one,AV.strip1,zG,zD,Nat.reduceEqDiff,reduceCtorEq,↓reduceIte,Nat.reduceAdd,Int.reduceNeg,Nat.reduceLeDiff,Int.reduceToNat,Int.reduceEq,Int.reduceLT,Int.reduceLE,Int.reduceAdd]
  refine zv (by rw[hl2];exact hs.own) (by simp only[hl2,Al2,Al3];omega) (by simp only[hl2,Al2,Al3,maxLen];omega) fun o3 H3 hs3=>?_
  have hs4:OwnS H o H3 o3 (acc++(Zi u).take (6-j)).length 1:=by
   have e:(acc++(Zi u).take (6-j)).length=(bytesOf (acc++(Zi u).take (6-(j+1)))).length+1:=by
    rw[hl2,← hm,← Z6];simp only[Al5,Al2,Al3]
   rw[e];exact hs.trans hs3
  simp(disch:=first|omega|assumption) only[e3,wrap64,steps,st2,pev,rev,oev,zY,ya,yk,yi,bound,zF,mm2,mk,zr,AV.cells,AV.boxable,AV.one,AV.strip1,zG,zD,Nat.reduceEqDiff,reduceCtorEq,↓reduceIte,Nat.reduceAdd,Int.reduceNeg,Nat.reduceLeDiff,Int.reduceToNat,Int.reduceEq,Int.reduceLT,Int.reduceLE,Int.reduceAdd]
  exact goJ (hJ (j,o3) H3 (Nat.lt_succ_self j) ⟨by simp only;omega,hs4⟩) (by simp(disch:=first|omega|assumption) only[steps,st2,pev,rev,oev,zY,ya,yk,yi,bound,zF,mm2,mk,zr,AV.cells,AV.boxable,AV.one,AV.strip1,zG,zD,Nat.reduceEqDiff,reduceCtorEq,↓reduceIte,Nat.reduceAdd,Int.reduceNeg,Nat.reduceLeDiff,Int.reduceToNat,Int.reduceEq,Int.reduceLT,Int.reduceLE,Int.reduceAdd])
theorem zlP {l:List UInt8} {c k:Nat} (hne:l≠[]) (hv:validD l=true) (hc:(zH l).1=c) (hk:(zH l).2=k) :
  validD (l.take k)=true∧(l.take k).length=k∧ZY (l.take k).length (l.take k)=if 65536≤c then [55296+(c-65536) / 1024,56320+(c-65536) % 1024] else [c]:=by
 obtain⟨hd,hv2⟩:=YT hne hv
 subst hc;subst hk
 have hp:=hd.pos
 have hle:=hd.len
 have hlen:(l.take (zH l).2).length=(zH l).2:=by simp;omega
 have hne2:l.take (zH l).2≠[]:=fun e=>by rw[e] at hlen;simp at hlen;omega
 have hcode:=zdM hne (by omega:(zH l).2≠0) []
 rw[List.append_nil] at hcode
 have hdrop:(l.take (zH l).2).drop (zH l).2=[]:=by apply List.drop_eq_nil_of_le;omega
 refine⟨?_,hlen,?_⟩
 ·have:=(zmD hne2 (by rw[hcode];omega)).1
  rw[this,hcode,hdrop];rfl
 ·rw[hlen]
  obtain⟨n,hn⟩:∃ n,(zH l).2=n+1:=⟨(zH l).2-1,by omega⟩
  conv=>lhs;rw[show ZY (zH l).2=ZY (n+1) by rw[hn]]
  rw[ZY,if_neg hne2,hcode,hdrop,ZM,List.append_nil]
theorem zvo {n:Nat} (h:n<256):IntKind.wrap .u8 (n:Int)=((UInt8.ofNat n).toNat:Int):=by
 rw[wr8];simp
set_option maxHeartbeats 1000000 in
theorem zrO (s:List UInt8) (hv:validD s=true) (hs:6*s.length+2≤Lim):zq Tryz.prog 120 [.str s] (.str (zjU s)):=by
 refine zq.go ir120 ck120 (Al4 _) fun KP Q hQ=>?_
 have hs':s.length≤Lim:=by simp only[Lim] at hs ⊢;omega
 simp only[Lim] at hs
 simp(disch:=first|omega|assumption) only[ir120,go_sem]
 have e34:([[AV.int .u8 34]]:List (List AV))=bytesOf [34]:=rfl
 simp(disch:=first|omega|assumption) only[e34,go_sem]
 refine yB (fun x:Own×List UInt8×Nat=>[(3,.sl x.1 1 (bytesOf x.2.1)),(4,.int .i64 x.2.2)])
  (fun x H=>x.2.2≤s.length∧x.2.1.length≤6*x.2.2+1∧34::zhW s=x.2.1++zhW (s.drop x.2.2)∧validD (s.drop x.2.2)=true∧yg H x.1 x.2.1.length 1) (fun x=>s.length-x.2.2) (.full,[34],0) (by simp(disch:=first|omega|assumption) only[go_sem]) ⟨by simp,by simp,by simp,by simpa using hv,yg.full _ _ _⟩ ?_
 rintro⟨o,acc,i⟩ H J ⟨hi,hai,hc,hv,hs1⟩ hJ
 simp only at hi hai hc hv hs1
 have hal:=z7 acc
 by_cases hlt:i<s.length
 case neg =>
  have hlt':¬ (i:Int)<s.length:=by omega
  rw[List.drop_of_length_le (by omega)] at hc
  have e0:zhW []=[]:=rfl
  rw[e0,List.append_nil] at hc
  have e3:bytesOf acc++[[AV.int .u8 34]]=bytesOf (acc++[34]):=za6 acc 34
  simp(disch:=first|omega|assumption) only[hlt',go_sem]
  refine zv (by rw[hal];exact hs1) (by simp only[hal,Al2,Al3];omega) (by simp only[hal,Al2,Al3,maxLen];omega) fun o3 H3 hs3=>?_
  simp(disch:=first|omega|assumption) only[e3,zf7,go_sem]
  have e4:zjU s=acc++[34]:=by rw[← hc];rfl
  exact hQ _ _ _ _ nofun rfl (by simp[zc,zd,AV.strip,AV.strip1,e4])
 have hlt':(i:Int)<s.length:=by omega
 have hne:s.drop i≠[]:=fun e=>by have:=congrArg List.length e;simp at this;omega
 obtain⟨hd,hv2⟩:=YT hne hv
 have hst:=zmc hne hv
 have hone:=zlP hne hv rfl rfl
 have hpl:=zgy hd
 have hp:=hd.pos
 have hle:=hd.len
 have hmax:=hd.le
 have h1b:=@zhm _ _ _ hd
 rw[List.length_drop] at hle
 simp(disch:=first|omega|assumption) only[hlt',go_sem]
 refine zb (zpb s i hlt hs') ?_
 rw[hst] at hc
 rw[List.drop_drop] at hc hv2
 generalize (zH (s.drop i)).1=c at *
 generalize (zH (s.drop i)).2=k at *
 have hmax1:((1:Int) > (k:Int))=False:=eq_false (by omega)
 have wk:IntKind.wrap .i64 ((i:Int)+(k:Int))=((i+k:Nat):Int):=by rw[wrap64 (by omega) (by omega)];omega
 have hsub:(s.take (i+k)).drop i=(s.drop i).take k:=by rw[List.drop_take];congr 1;omega
 have hle2:(((i+k:Nat):Int)≤s.length)=True:=eq_true (by omega)
 have hle3:((i:Int)≤((i+k:Nat):Int))=True:=eq_true (by omega)
 have step:∀ o3 H3 (bs:List UInt8),bs=Zp c ((s.drop i).take k)→yg H3 o3 (acc++bs).length 1→J ((Yn _ [(3,.sl o3 1 (bytesOf (acc++bs))),(4,.int .i64 ((i+k:Nat):Int))]).keep [0,3,4]) H3:=fun o3 H3 bs hbs ho3 =>
  hJ (o3,acc++bs,i+k) H3 (by simp only;omega) ⟨by simp only;omega,by simp only[Al5,hbs];omega,by rw[hc,hbs];simp,hv2,ho3⟩
 by_cases c1:c=34∨c=92
 ·have g:((c:Int)=34∨(c:Int)=92):=by omega
  have e3:bytesOf acc++[[AV.int .u8 92],[AV.int .u8 (UInt8.ofNat c).toNat]]=bytesOf (acc++[92,UInt8.ofNat c]):=zcU acc 92 _
  have ep:[92,UInt8.ofNat c]=Zp c ((s.drop i).take k):=by unfold Zp;rw[if_pos c1]
  rcases c1 with c1|c1
  all_goals
   have w8:IntKind.wrap .u8 (c:Int)=((UInt8.ofNat c).toNat:Int):=zvo (by omega)
   subst c1
   have gg:=w8
   simp only[Int.cast_ofNat_Int] at w8
   simp(disch:=first|omega|assumption) only[w8,go_sem]
   refine zv (by rw[hal];exact hs1) (by simp only[hal,Al2,Al3];omega) (by simp only[hal,Al2,Al3,maxLen];omega) fun o3 H3 hs3=>?_
   simp(disch:=first|omega|assumption) only[e3,hmax1,wk,go_sem]
   exact goJ (step o3 H3 _ ep (by simpa[hal] using hs3.own)) (by simp(disch:=first|omega|assumption) only[go_sem])
 have g34:¬ ((c:Int)=34):=by omega
 have g92:¬ ((c:Int)=92):=by omega
 by_cases c2:c=10
 ·subst c2
  have e3:bytesOf acc++[[AV.int .u8 92],[AV.int .u8 110]]=bytesOf (acc++[92,110]):=zcU acc 92 110
  have ep:[92,110]=Zp 10 ((s.drop i).take k):=by unfold Zp;rw[if_neg (by decide),if_pos rfl]
  simp(disch:=first|omega|assumption) only[go_sem]
  refine zv (by rw[hal];exact hs1) (by simp only[hal,Al2,Al3];omega) (by simp only[hal,Al2,Al3,maxLen];omega) fun o3 H3 hs3=>?_
  simp(disch:=first|omega|assumption) only[e3,hmax1,wk,go_sem]
  exact goJ (step o3 H3 _ ep (by simpa[hal] using hs3.own)) (by simp(disch:=first|omega|assumption) only[go_sem])
 have g10:¬ ((c:Int)=10):=by omega
 by_cases c3:c<32∨65536≤c
 ·have hus:=hone.2.2
  have hvt:=hone.1
  have htl:=hone.2.1
  have hlim:((s.drop i).take k).length≤Lim:=by rw[htl];simp only[Lim];omega
  have loop:∀(ρ:Env) (us:List Nat),us=(if 65536≤c then [55296+(c-65536) / 1024,56320+(c-65536) % 1024] else [c])→(∀ u∈us,u<65536)∧us.flatMap Zi=Zp c ((s.drop i).take k):=fun ρ us hu=>by
   subst hu
   by_cases h6:65536≤c
   ·rw[if_pos h6]
    refine⟨fun u hu=>by simp at hu;omega,?_⟩
    unfold Zp;rw[if_neg c1,if_neg c2,if_neg (by omega),if_pos h6];simp
   ·rw[if_neg h6]
    refine⟨fun u hu=>by simp at hu;omega,?_⟩
    unfold Zp;rw[if_neg c1,if_neg c2,if_pos (by omega)];simp
  obtain⟨us,hus2⟩:∃ us,us=(if 65536≤c then [55296+(c-65536) / 1024,56320+(c-65536) % 1024] else [c]):=⟨_,rfl⟩
  rw[← hus2] at hus
  obtain⟨hu1,hu2⟩:=loop (fun _=>.any) us hus2
  have hul:us.length≤2:=by rw[hus2];split<;>simp
  have hcl:=zjB us
  by_cases c4:c<32
  case' pos =>
   have g32:((c:Int)<32)=True:=eq_true (by omega)
   simp(disch:=first|omega|assumption) only[g34,g92,g10,g32,wk,hle2,hle3,hsub,go_sem]
  case' neg =>
   have g32:¬ ((c:Int)<32):=by omega
   have g6:((65536:Int)≤c)=True:=eq_true (by omega)
   simp(disch:=first|omega|assumption) only[g34,g92,g10,g32,g6,wk,hle2,hle3,hsub,go_sem]
  all_goals
   refine zb (ztT _ hvt hlim) ?_
   rw[hus]
   simp(disch:=first|omega|assumption) only[hcl,go_sem]
   refine zx us 67 (fun x:Own×List UInt8=>[(3,.sl x.1 1 (bytesOf x.2))]) (fun done rest x H'=>x.2++rest.flatMap Zi=acc++Zp c ((s.drop i).take k)∧x.2.length≤acc.length+6*done.length∧yg H' x.1 x.2.length 1) (o,acc) (by simp(disch:=first|omega|assumption) only[go_sem]) ⟨by simp only;rw[hu2],by simp,hs1⟩ ?_ ?_
   ·rintro⟨o2,a⟩ H2 J2 ⟨hn,hle,hs2⟩ hlt
    simp only[List.flatMap_nil,List.append_nil] at hn hle hs2
    simp(disch:=first|omega|assumption) only[hcl,hlt,hmax1,wk,go_sem]
    subst hn
    exact goJ (step o2 H2 _ rfl hs2) (by simp(disch:=first|omega|assumption) only[go_sem])
   ·rintro done x rest ⟨o2,a⟩ H2 J2 hdn hlt hlt2 ⟨hn,hle,hs2⟩ hJ2
    simp only[List.flatMap_cons] at hn hle hs2
    have hg:(cU us).getD done.length []=[AV.int .i64 (x:Int)]:=Zq hdn
    simp(disch:=first|omega|assumption) only[hcl,hlt,hg,go_sem]
    refine Zr (ztJ x (hu1 x (by rw[hdn];simp)) a _ o2 hs2 (by simp only[Lim];omega)) fun o3 H3 hs3=>?_
    rw[z7] at hs3
    simp(disch:=first|omega|assumption) only[wrap64,go_sem]
    exact goJ (hJ2 (o3,a++Zi x) H3 ⟨by rw[← hn];simp,by simp only[Al5,zdp,Al2,Al3];omega,hs3.own⟩) (by simp(disch:=first|omega|assumption) only[go_sem])
 ·have g32:¬ ((c:Int)<32):=by omega
  have g6:¬ ((65536:Int)≤c):=by omega
  have ep:(s.drop i).take k=Zp c ((s.drop i).take k):=by unfold Zp;rw[if_neg c1,if_neg c2,if_neg (by omega),if_neg (by omega)]
  have htl:=hone.2.1
  have hbl:=z7 ((s.drop i).take k)
  simp(disch:=first|omega|assumption) only[g34,g92,g10,g32,g6,wk,hle2,hle3,hsub,go_sem]
  refine zv (by rw[hal];exact hs1) (by rw[hal,hbl,htl];omega) (by rw[hal,hbl,htl];simp only[maxLen];omega) fun o3 H3 hs3=>?_
  simp(disch:=first|omega|assumption) only[ZH,yV,hmax1,wk,go_sem]
  exact goJ (step o3 H3 _ ep (by have:=hs3.own;rw[hal,hbl] at this;simpa using this)) (by simp(disch:=first|omega|assumption) only[go_sem])
theorem zjQ {P:UInt8→Bool} (h:(List.range 256).all (fun n=>P (UInt8.ofNat n))=true) (c:UInt8):P c=true:=by
 have h1:=List.all_eq_true.1 h c.toNat (List.mem_range.2 (UInt8.toNat_lt c))
 simpa using h1
def zcL (c:UInt8):Bool:=decide (0≤Lib.indexByte zcB c)
def spB (c:UInt8):Bool:=decide (c=9∨c=10∨c=13∨c=32∨c=44)||decide (c=239)||decide (c=35)
theorem zlf (c:UInt8):(!zcL c||(!(decide (c=34))&&(!(decide (c=46))&&(!(isL c)&&(!(isD c)&&(!(decide (c=45))&&(!(spB c)&&decide (32≤c.toNat∧c.toNat<128))))))))=true:=zjQ (P:=fun c=>(!zcL c||(!(decide (c=34))&&(!(decide (c=46))&&(!(isL c)&&(!(isD c)&&(!(decide (c=45))&&(!(spB c)&&decide (32≤c.toNat∧c.toNat<128))))))))) (by decide +kernel) c
theorem zld (c:UInt8):(!isL c||(!(decide (c=34))&&(!(decide (c=46))&&(!(zcL c)&&(!(isD c)&&(!(decide (c=45))&&(!(spB c)&&decide (32≤c.toNat∧c.toNat<128))))))))=true:=zjQ (P:=fun c=>(!isL c||(!(decide (c=34))&&(!(decide (c=46))&&(!(zcL c)&&(!(isD c)&&(!(decide (c=45))&&(!(spB c)&&decide (32≤c.toNat∧c.toNat<128))))))))) (by decide +kernel) c
theorem zi3 (c:UInt8):(!(isD c||decide (c=45))||(!(decide (c=34))&&(!(decide (c=46))&&(!(zcL c)&&(!(isL c)&&(!(spB c)&&decide (32≤c.toNat∧c.toNat<128)))))))=true:=zjQ (P:=fun c=>(!(isD c||decide (c=45))||(!(decide (c=34))&&(!(decide (c=46))&&(!(zcL c)&&(!(isL c)&&(!(spB c)&&decide (32≤c.toNat∧c.toNat<128)))))))) (by decide +kernel) c
theorem zeV {c:UInt8} (h:c≠34) (r:List UInt8):yA.isPrefixOf (c::r)=false:=by
 simp[yA,List.isPrefixOf];intro h2;exact absurd h2.symm h
theorem zgI {c:UInt8} (h:c≠46) (r:List UInt8):Z7.isPrefixOf (c::r)=false:=by
 simp[Z7,List.isPrefixOf];intro h2;exact absurd h2.symm h
theorem zrN {c:UInt8} (h:c≠239) (r:List UInt8):zju.isPrefixOf (c::r)=false:=by
 simp[zju,List.isPrefixOf];intro h2;exact absurd h2.symm h
theorem zj0 {c:UInt8} (h:spB c=false) (r:List UInt8):Ym (c::r)=0:=by
 simp only[spB,Bool.or_eq_false_iff,decide_eq_false_iff_not] at h
 simp only[Ym]
 rw[if_neg h.1.1,zrN h.1.2,if_neg h.2];simp
theorem zqe {r:List UInt8} (h:zeU r):(r.head?.any fun d=>isL d||isD d||decide (d=46))=false:=by
 rcases h with rfl|⟨c,t,rfl,rfl|rfl⟩
 ·rfl
 all_goals simp[isL,isD]
theorem zhR {p:UInt8→Bool} {r:List UInt8} (h10:p 10=false) (h32:p 32=false) (h:zeU r):∀ s:List UInt8,(s++r).takeWhile p=s.takeWhile p
 | []=>by
  rcases h with rfl|⟨c,t,rfl,rfl|rfl⟩
  ·rfl
  ·simp[h32]
  ·simp[h10]
 | c::s=>by
  simp only[Al6,List.takeWhile_cons]
  split
  ·rw[zhR h10 h32 h s]
  ·rfl
theorem ze4 {p:UInt8→Bool}:∀ s:List UInt8,(∀ c∈s,p c=true)→s.takeWhile p=s
 | [],_=>rfl
 | c::s,h=>by
  simp only[List.takeWhile_cons,h c (.head _),if_true]
  rw[ze4 s fun d hd=>h d (.tail _ hd)]
theorem zi6 (s:List UInt8) {r:List UInt8} (h:zeU r):Zc (s++r)=Zc s:=by
 unfold Zc;rw[zhR (by decide) (by decide) h s]
theorem zfr:∀(s:List UInt8) (i:Nat),zdD s i=true→∀ c∈s,(isL c||isD c)=true
 | [],_,_=>fun c hc=>nomatch hc
 | c::r,i,h=>by
  simp only[zdD] at h
  split at h
  ·rename_i h1
   have h2:=zfr r (i+1) h
   intro d hd
   rcases List.mem_cons.1 hd with rfl|hd
   ·simp only[Bool.or_eq_true,Al0] at h1 ⊢
    exact h1.imp id fun x=>x.2
   ·exact h2 d hd
  ·cases h
theorem zoM {c:UInt8} {r:List UInt8} (h:ym (c::r)=true):isL c=true∧∀ d∈c::r,(isL d||isD d)=true:=by
 simp only[ym,Al0] at h
 refine⟨?_,zfr _ _ h.1⟩
 have:=h.1
 simp only[zdD] at this
 split at this
 ·rename_i h1;simpa using h1
 ·cases this
theorem zlE {c:UInt8} (h:isL c=true) (r:List UInt8):ZB (c::r)=some (⟨2,(c::r).take (Zc (c::r))⟩,(c::r).drop (Zc (c::r))):=by
 have h1:=zld c
 simp only[h,Bool.not_true,Bool.false_or,Al0,Bool.not_eq_true',decide_eq_false_iff_not,decide_eq_true_eq] at h1
 obtain⟨a1,a2,a3,_⟩:=h1
 simp only[zcL,decide_eq_false_iff_not] at a3
 simp only[ZB]
 rw[zeV a1,zgI a2,if_neg a1,if_neg a3,if_pos h];simp
theorem zlF {c:UInt8} (h:isL c=true) (r:List UInt8):Ym (c::r)=0:=by
 have h1:=zld c
 simp only[h,Bool.not_true,Bool.false_or,Al0,Bool.not_eq_true'] at h1
 exact zj0 h1.2.2.2.2.2.1 r
theorem zkd {c:UInt8} (h:(isD c||decide (c=45))=true) (r:List UInt8):ZB (c::r)=(if (y5 (c::r)).1=0 then none
  else if ((c::r).drop (y5 (c::r)).1).head?.any fun d=>isL d||isD d||decide (d=46) then none
  else some (⟨(y5 (c::r)).2,(c::r).take (y5 (c::r)).1⟩,(c::r).drop (y5 (c::r)).1)):=by
 have h1:=zi3 c
 simp only[h,Bool.not_true,Bool.false_or,Al0,Bool.not_eq_true',decide_eq_false_iff_not,decide_eq_true_eq] at h1
 obtain⟨a1,a2,a3,a4,_⟩:=h1
 simp only[zcL,decide_eq_false_iff_not] at a3
 simp only[ZB]
 rw[zeV a1,zgI a2,if_neg a1,if_neg a3,a4];simp
theorem zmB {c:UInt8} (h:(isD c||decide (c=45))=true) (r:List UInt8):Ym (c::r)=0:=by
 have h1:=zi3 c
 simp only[h,Bool.not_true,Bool.false_or,Al0,Bool.not_eq_true'] at h1
 exact zj0 h1.2.2.2.2.1 r
theorem zla {c:UInt8} {r:List UInt8} (h:zX (c::r)≠0):(isD c||decide (c=45))=true:=by
 by_cases hc:c=45
 ·simp[hc]
 ·rw[YQ (s:=c::r) (by simp[hc])] at h
  unfold Y5 at h
  have h2:yu (c::r)≠0:=fun e=>h (by rw[if_pos e])
  simp only[yu] at h2
  split at h2
  ·rename_i h3;simp[h3]
  ·exact absurd rfl h2
theorem znV {s:List UInt8} (h:(y5 s).1≠0):zX s≠0:=fun e=>h (by unfold y5;rw[if_pos e])
theorem zlZ {l:List UInt8} {c k:Nat} (h:DecOk l c k) (hc:c=(zH l).1):∀ t,(Zp c (l.take k)++t).head?≠some 34∧Zp c (l.take k)≠[]:=by
 intro t
 have hpos:=h.pos
 have hlen:=h.len
 unfold Zp
 repeat' split
 ·simp
 ·simp
 ·simp[Zi]
 ·simp[Zi]
 ·rename_i h1 h2 h3 h4
  cases l with
  | nil=>simp at hlen;omega
  | cons b r =>
   obtain⟨m,rfl⟩:∃ m,k=m+1:=⟨k-1,by omega⟩
   simp only[List.take_succ_cons,Al6,List.head?_cons,ne_eq,Al1]
   refine⟨fun e=>?_,by simp⟩
   subst e
   by_cases hk:m+1=1
   ·have:=(h.one hk).1
    simp at this
    omega
   ·have:=h.high hk 34 (by simp)
    simp at this
theorem zlO {s:List UInt8} (hv:validD s=true) (hne:s≠[]) (n:Nat) (hn:s.length≤n) (t:List UInt8):(Zk n s++t).head?≠some 34:=by
 cases n with
 | zero=>exact absurd (List.length_eq_zero_iff.1 (by omega)) hne
 | succ n =>
  simp only[Zk,if_neg hne,Z6]
  exact(zlZ (YT hne hv).1 rfl _).1
theorem zoK (s r:List UInt8) (hv:validD s=true) (hr:zeU r):yA.isPrefixOf (34::(Zk s.length s++34::r))=false:=by
 by_cases hs:s=[]
 ·subst hs
  simp only[Zk,Zy,Al3]
  rcases hr with rfl|⟨c,t,rfl,rfl|rfl⟩<;>simp[yA,List.isPrefixOf]
 ·have h:=zlO hv hs s.length (Al4 _) (34::r)
  cases hx:Zk s.length s++34::r with
  | nil=>simp[yA,List.isPrefixOf]
  | cons c t =>
   rw[hx] at h
   simp only[List.head?_cons,ne_eq,Al1] at h
   simp[yA,List.isPrefixOf]
   intro e
   exact absurd e.symm h
theorem zka (x:Tok) (hx:yP x=true) {r:List UInt8} (hr:zeU r):ZB (YZ x++r)=some (x,r)∧Ym (YZ x++r)=0∧YZ x≠[]:=by
 obtain⟨k,s⟩:=x
 unfold yP at hx
 simp only at hx
 by_cases h1:k=1
 ·subst h1
  simp only[if_true,Bool.or_eq_true,decide_eq_true_eq] at hx
  simp only[YZ,show ¬ ((1:Int)=5) by decide,if_false]
  rcases hx with rfl|hx
  ·refine⟨?_,?_,by simp[Z7]⟩
   ·simp[Z7,ZB,yA,List.isPrefixOf]
   ·simp[Z7,Ym,zju,List.isPrefixOf]
  ·cases s with
   | nil=>cases hx
   | cons c t =>
    cases t with
    | cons d t=>cases hx
    | nil =>
     have h1:=zlf c
     have hm:zcL c=true:=hx
     simp only[hm,Bool.not_true,Bool.false_or,Al0,Bool.not_eq_true',decide_eq_false_iff_not,decide_eq_true_eq] at h1
     obtain⟨a1,a2,a3,a4,a5,a6,_⟩:=h1
     simp only[zcL,decide_eq_true_eq] at hm
     refine⟨?_,?_,by simp⟩
     ·simp only[Al6,Zy,ZB]
      rw[zeV a1,zgI a2,if_neg a1,if_pos hm];simp
     ·exact zj0 a6 r
 rw[if_neg h1] at hx
 by_cases h2:k=2
 ·subst h2
  simp only[if_true] at hx
  simp only[YZ,show ¬ ((2:Int)=5) by decide,if_false]
  cases s with
  | nil=>simp[ym,zdD] at hx
  | cons c t =>
   obtain⟨g1,g2⟩:=zoM hx
   have hw:Zc (c::t++r)=(c::t).length:=by rw[zi6 (c::t) hr];unfold Zc;rw[ze4 _ g2]
   refine⟨?_,zlF g1 _,by simp⟩
   rw[Al6,zlE g1,← Al6,hw,List.take_left,List.drop_left]
 rw[if_neg h2] at hx
 by_cases h3:k=3∨k=4
 ·rw[if_pos h3] at hx
  simp only[decide_eq_true_eq] at hx
  have hk5:¬ (k=5):=by omega
  simp only[YZ,hk5,if_false]
  unfold Yt at hx
  split at hx
  case isFalse=>omega
  rename_i hl
  cases s with
  | nil =>
   have:y5 []=(0,0):=rfl
   rw[this] at hx;simp only at hx;omega
  | cons c t =>
   have hn0:(y5 (c::t)).1≠0:=by rw[hl];simp
   have hw:=znV hn0
   have hd:=zla hw
   refine⟨?_,zmB hd _,by simp⟩
   rw[Al6,zkd hd,← Al6,zkF hr,if_neg hn0,hl,List.drop_left,zqe hr,List.take_left,hx];simp
 rw[if_neg h3] at hx
 by_cases h5:k=5
 ·subst h5
  simp only[if_true] at hx
  simp only[YZ,if_true,zjU,Al6,Z6,Zy]
  refine⟨?_,by simp[Ym,zju,List.isPrefixOf],by simp⟩
  simp only[ZB]
  rw[zoK s r hx hr]
  simp only[Al7,if_false,if_true]
  rw[zog s r hx];rfl
 ·rw[if_neg h5] at hx;cases hx
theorem zhq (x y:Tok) (L:List Tok):ZW (x::y::L)=YZ x++32::ZW (y::L):=by simp[ZW,Lib.join]
theorem zir (x:Tok):ZW [x]=YZ x:=by simp[ZW,Lib.join]
theorem zgE:∀(L:List Tok),L.all yP=true→∀(n:Nat) (l:List Tok),(ZW L).length<n→Z3 n l (ZW L)=.ok (l++L)
 | [],_,n,l,hn=>by
  cases n with
  | zero=>omega
  | succ n=>simp[ZW,Lib.join,Z3]
 | [x],h,n,l,hn=>by
  simp only[List.all_cons,List.all_nil,Bool.and_true] at h
  obtain⟨g1,g2,g3⟩:=zka x h (r:=[]) (.inl rfl)
  rw[List.append_nil] at g1 g2
  rw[zir] at hn ⊢
  have hl:0<(YZ x).length:=List.length_pos_iff.2 g3
  obtain⟨m,rfl⟩:∃ m,n=m+2:=⟨n-2,by omega⟩
  rw[Z3,if_neg g3,if_neg (by rw[g2];simp),g1]
  simp[Z3]
 | x::y::L,h,n,l,hn=>by
  have h':=h
  rw[List.all_cons,Al0] at h'
  obtain⟨g1,g2,g3⟩:=zka x h'.1 (r:=32::ZW (y::L)) (.inr ⟨32,_,rfl,.inl rfl⟩)
  rw[zhq] at hn ⊢
  have hl:0<(YZ x).length:=List.length_pos_iff.2 g3
  simp only[Al5,Al2] at hn
  obtain⟨m,rfl⟩:∃ m,n=m+2:=⟨n-2,by omega⟩
  rw[Z3,if_neg (by simp[g3]),if_neg (by rw[g2];simp),g1]
  simp only
  rw[Z3,if_neg (by simp),if_pos (by simp[Ym])]
  have e1:(32::ZW (y::L)).drop (Ym (32::ZW (y::L)))=ZW (y::L):=by simp[Ym]
  rw[e1,zgE (y::L) h'.2 m (l++[x]) (by omega)]
  simp
theorem zig:∀(n m:Nat) (l:List UInt8),l.length≤n→l.length≤m→zly n l=zly m l
 | 0,m,l,h,_=>by
  obtain rfl:l=[]:=List.length_eq_zero_iff.1 (by omega)
  cases m<;>simp[zly]
 | n+1,0,l,_,h=>by
  obtain rfl:l=[]:=List.length_eq_zero_iff.1 (by omega)
  simp[zly]
 | n+1,m+1,l,h1,h2=>by
  simp only[zly]
  split
  ·rfl
  ·by_cases hp:0<(zH l).2
   ·rw[zig n m (l.drop (zH l).2) (by simp;omega) (by simp;omega)]
   ·simp[hp]
theorem zff {l:List UInt8} (hne:l≠[]):zfm l=(decide (0<(zH l).2)&&(za2 (zH l).1&&zfm (l.drop (zH l).2))):=by
 unfold zfm
 have hl:0<l.length:=List.length_pos_iff.2 hne
 obtain⟨m,hm⟩:∃ m,l.length=m+1:=⟨l.length-1,by omega⟩
 rw[hm,zly,if_neg hne]
 by_cases hp:0<(zH l).2
 ·rw[zig m (l.drop (zH l).2).length (l.drop (zH l).2) (by simp;omega) (Al4 _)]
 ·simp[hp]
theorem zlw:zfm []=true:=rfl
def Zf (a:List UInt8):Prop:=∀ t,zfm t=true→zfm (a++t)=true
theorem Zf.nil:Zf []:=fun t h=>h
theorem Zf.app {a b:List UInt8} (ha:Zf a) (hb:Zf b):Zf (a++b):=fun t h=>by rw[Z6];exact ha _ (hb _ h)
theorem Zf.here {a:List UInt8} (ha:Zf a):zfm a=true:=by have:=ha [] zlw;simpa using this
theorem Zf.ascii {b:UInt8} (h:b.toNat<128) (hs:za2 b.toNat=true):Zf [b]:=fun t ht=>by
 rw[zff (by simp)]
 simp only[List.singleton_append,zkW b t h,hs,List.drop_succ_cons,List.drop_zero,ht]
 rfl
theorem Zf.asciis:∀ s:List UInt8,(∀ b∈s,32≤b.toNat∧b.toNat<128)→Zf s
 | [],_=>.nil
 | b::s,h=>by
  have h1:=h b (.head _)
  exact Zf.app (a:=[b]) (.ascii h1.2 (by simp[za2];omega)) (Zf.asciis s fun c hc=>h c (.tail _ hc))
theorem Zf.code {l:List UInt8} (hne:l≠[]) (h:(zH l).2≠0) (hk:(zH l).2≤l.length) (hs:za2 (zH l).1=true):Zf (l.take (zH l).2):=fun t ht=>by
 have hp:=zdM hne h t
 have hl:(l.take (zH l).2).length=(zH l).2:=by simp;omega
 rw[zff (by intro e;have:=congrArg List.length e;rw[Al5,hl] at this;simp at this;omega),hp,hs]
 rw[List.drop_left' hl,ht]
 simp;omega
theorem zl5 (n:Nat):32≤(hexL.getD (n % 16) 0).toNat∧(hexL.getD (n % 16) 0).toNat<128:=by
 have:∀ x:Fin 16,32≤(hexL.getD x.val 0).toNat∧(hexL.getD x.val 0).toNat<128:=by decide +kernel
 exact this ⟨n % 16,Nat.mod_lt _ (by decide)⟩
theorem Zf.unit (u:Nat):Zf (Zi u):=Zf.asciis _ fun b hb=>by
 simp only[Zi,List.mem_cons,List.not_mem_nil,or_false] at hb
 rcases hb with rfl|rfl|rfl|rfl|rfl|rfl
 ·decide
 ·decide
 all_goals exact zl5 _
theorem Zf.quo:∀(n:Nat) (l:List UInt8),l.length≤n→validD l=true→Zf (Zk n l)
 | 0,l,_,_=>.nil
 | n+1,l,hn,hv=>by
  rw[Zk]
  by_cases hne:l=[]
  ·subst hne;exact .nil
  ·rw[if_neg hne]
   obtain⟨hd,hv2⟩:=YT hne hv
   have hpos:=hd.pos
   refine Zf.app ?_ (Zf.quo n _ (by simp;omega) hv2)
   unfold Zp
   by_cases h1:(zH l).1=34∨(zH l).1=92
   ·rw[if_pos h1]
    refine Zf.asciis _ fun b hb=>?_
    simp only[List.mem_cons,List.not_mem_nil,or_false] at hb
    rcases hb with rfl|rfl
    ·decide
    ·rcases h1 with h1|h1<;>rw[h1]<;>decide
   rw[if_neg h1]
   by_cases h2:(zH l).1=10
   ·rw[if_pos h2]
    exact Zf.asciis _ fun b hb=>by
     simp only[List.mem_cons,List.not_mem_nil,or_false] at hb
     rcases hb with rfl|rfl<;>decide
   rw[if_neg h2]
   by_cases h3:(zH l).1<32
   ·rw[if_pos h3];exact .unit _
   rw[if_neg h3]
   by_cases h4:65536≤(zH l).1
   ·rw[if_pos h4];exact Zf.app (.unit _) (.unit _)
   ·rw[if_neg h4]
    exact Zf.code hne (by omega) hd.len (by simp[za2];omega)
theorem zn6 (c:UInt8):nch c=true→32≤c.toNat∧c.toNat<128:=zgP (P:=fun c=>nch c=true→32≤c.toNat∧c.toNat<128) (by decide +kernel) c
theorem zn4 {s:List UInt8} (h:Yt s≠0):∀ b∈s,32≤b.toNat∧b.toNat<128:=fun b hb=>zn6 b ((zbB h).1 b hb)
theorem Zf.tok (x:Tok) (hx:yP x=true):Zf (YZ x):=by
 obtain⟨k,s⟩:=x
 unfold yP at hx
 simp only at hx
 by_cases h1:k=1
 ·subst h1
  simp only[if_true,Bool.or_eq_true,decide_eq_true_eq] at hx
  simp only[YZ,show ¬ ((1:Int)=5) by decide,if_false]
  rcases hx with rfl|hx
  ·exact Zf.asciis _ (by decide)
  ·cases s with
   | nil=>cases hx
   | cons c t =>
    cases t with
    | cons d t=>cases hx
    | nil =>
     have h1:=zlf c
     have hm:zcL c=true:=hx
     simp only[hm,Bool.not_true,Bool.false_or,Al0,Bool.not_eq_true',decide_eq_false_iff_not,decide_eq_true_eq] at h1
     exact Zf.asciis _ fun b hb=>by simp only[List.mem_singleton] at hb;subst hb;exact h1.2.2.2.2.2.2
 rw[if_neg h1] at hx
 by_cases h2:k=2
 ·subst h2
  simp only[if_true] at hx
  simp only[YZ,show ¬ ((2:Int)=5) by decide,if_false]
  simp only[ym,Al0] at hx
  have:=zfr _ _ hx.1
  refine Zf.asciis _ fun b hb=>?_
  have hb2:=this b hb
  simp only[Bool.or_eq_true] at hb2
  simp only[isL,isD,Bool.or_eq_true,Al0,decide_eq_true_eq] at hb2
  omega
 rw[if_neg h2] at hx
 by_cases h3:k=3∨k=4
 ·rw[if_pos h3] at hx
  have hk5:¬ (k=5):=by omega
  simp only[YZ,hk5,if_false]
  simp only[decide_eq_true_eq] at hx
  exact Zf.asciis _ (zn4 (by omega))
 rw[if_neg h3] at hx
 by_cases h5:k=5
 ·subst h5
  simp only[if_true] at hx
  simp only[YZ,if_true,zjU]
  have h34:Zf [34]:=Zf.asciis _ (by decide)
  exact Zf.app (a:=[34]) h34 (Zf.app (Zf.quo _ _ (Al4 _) hx) h34)
 ·rw[if_neg h5] at hx;cases hx
theorem Zf.join:∀ L:List Tok,L.all yP=true→Zf (ZW L)
 | [],_=>.nil
 | [x],h=>by rw[zir];exact .tok x (by simpa using h)
 | x::y::L,h=>by
  rw[List.all_cons,Al0] at h
  rw[zhq]
  exact Zf.app (.tok x h.1) (Zf.app (a:=[32]) (Zf.asciis _ (by decide)) (Zf.join (y::L) h.2))
theorem zmf (L:List Tok) (h:L.all yP=true) (hl:(ZW L).length≤8192):YE (ZW L)=.ok L:=by
 unfold YE
 rw[if_neg (by omega),(Zf.join L h).here,if_pos rfl,zgE L h _ _ (by omega)]
 simp
theorem za7:∀(p s t:List UInt8),(∀ x∈p,x≠10)→p.isPrefixOf (s++10::t)=p.isPrefixOf s
 | [],s,t,_=>by cases s<;>simp
 | x::p,[],t,h=>by
  have h1:=h x (.head _)
  simp[List.isPrefixOf,h1]
 | x::p,c::s,t,h=>by
  simp only[Al6,List.isPrefixOf]
  rw[za7 p s t fun y hy=>h y (.tail _ hy)]
theorem Yd:∀(p s:List UInt8),p.isPrefixOf s=true→p.length≤s.length
 | [],s,_=>Nat.zero_le _
 | x::p,[],h=>by simp[List.isPrefixOf] at h
 | x::p,c::s,h=>by
  simp only[List.isPrefixOf,Al0] at h
  have:=Yd p s h.2
  simp only[Al2];omega
theorem zso (t:List UInt8):zeU (10::t):=.inr ⟨10,t,rfl,.inr rfl⟩
theorem zha:∀(n:Nat) (raw s:List UInt8) (b s':List UInt8),Yg n raw s=some (b,s')→s'.length<s.length∧∀(m:Nat) (t:List UInt8),n≤m→Yg m raw (s++10::t)=some (b,s'++10::t)
 | 0,_,_,_,_,h=>by cases h
 | n+1,raw,[],_,_,h=>by simp[Yg] at h
 | n+1,raw,c::r,b,s',h=>by
  simp only[Yg] at h
  by_cases h1:yA.isPrefixOf (c::r)=true
  ·rw[if_pos h1] at h
   have hl:=Yd _ _ h1
   simp only[yA,Al2,Al3] at hl
   simp only[Al1,Al8] at h
   obtain⟨rfl,rfl⟩:=h
   refine⟨by simp;omega,fun m t hm=>?_⟩
   obtain⟨k,rfl⟩:∃ k,m=k+1:=⟨m-1,by omega⟩
   have e:=za7 yA (c::r) t (by decide)
   rw[Al6] at e
   simp only[Yg,Al6]
   rw[e,if_pos h1,List.drop_append_of_le_length (by omega)]
  ·rw[if_neg h1] at h
   by_cases h2:zkn.isPrefixOf (c::r)=true
   ·rw[if_pos h2] at h
    have hl:=Yd _ _ h2
    simp only[zkn,Al2,Al3] at hl
    obtain⟨g1,g2⟩:=zha n _ _ _ _ h
    refine⟨by simp at g1 ⊢;omega,fun m t hm=>?_⟩
    obtain⟨k,rfl⟩:∃ k,m=k+1:=⟨m-1,by omega⟩
    have e:=za7 yA (c::r) t (by decide)
    have e2:=za7 zkn (c::r) t (by decide)
    rw[Al6] at e e2
    simp only[Yg,Al6]
    rw[e,if_neg h1,e2,if_pos h2,List.drop_append_of_le_length (by omega)]
    exact g2 k t (by omega)
   ·rw[if_neg h2] at h
    obtain⟨g1,g2⟩:=zha n _ _ _ _ h
    refine⟨by simp;omega,fun m t hm=>?_⟩
    obtain⟨k,rfl⟩:∃ k,m=k+1:=⟨m-1,by omega⟩
    have e:=za7 yA (c::r) t (by decide)
    have e2:=za7 zkn (c::r) t (by decide)
    rw[Al6] at e e2
    simp only[Yg,Al6]
    rw[e,if_neg h1,e2,if_neg h2]
    exact g2 k t (by omega)
theorem ziB:∀(n:Nat) (s:List UInt8) (u v:Nat) (t:List UInt8),Y8 n s u=some v→n≤s.length∧Y8 n (s++t) u=some v
 | 0,s,u,v,t,h=>by
  simp only[Y8] at h ⊢
  exact⟨Nat.zero_le _,h⟩
 | n+1,[],u,v,t,h=>by simp[Y8] at h
 | n+1,c::s,u,v,t,h=>by
  simp only[Y8,Al6] at h ⊢
  cases hx:hexD c with
  | none=>rw[hx] at h;cases h
  | some k =>
   rw[hx] at h
   simp only at h ⊢
   have:=ziB n s _ v t h
   exact⟨by simp;omega,this.2⟩
theorem zp3 {q q':Sd} {s s':List UInt8} (t:List UInt8) (h:YF q s=some (q',s')):YF q (s++t)=some (q',s'++t):=by
 cases s with
 | nil=>cases h
 | cons c r =>
  simp only[YF,Al6] at h ⊢
  by_cases h1:c=117
  ·rw[if_pos h1] at h ⊢
   cases hu:Y9 r with
   | none=>rw[hu] at h;cases h
   | some u =>
    obtain⟨g1,g2⟩:=ziB 4 r 0 u t hu
    rw[hu] at h
    simp only[zas,Al1,Al8] at h
    obtain⟨rfl,rfl⟩:=h
    rw[Y9,g2]
    simp only[zas,Al1,Al8,true_and]
    exact List.drop_append_of_le_length g1
  ·rw[if_neg h1] at h ⊢
   split at h
   ·cases h
   ·rename_i h2
    rw[if_neg h2]
    simp only[Al1,Al8] at h ⊢
    obtain⟨rfl,rfl⟩:=h
    exact⟨rfl,rfl⟩
theorem zgw {may:UInt8→Bool} (t:List UInt8):∀(n:Nat) (s:List UInt8) (q q':Sd) (s':List UInt8),zae may n s q=some (q',s')→∀ m,n≤m→zae may m (s++t) q=some (q',s'++t)
 | 0,_,_,_,_,h=>by cases h
 | n+1,[],_,_,_,h=>by cases h
 | n+1,c::s,q,q',s',h=>fun m hm=>by
  obtain⟨k,rfl⟩:∃ k,m=k+1:=⟨m-1,by omega⟩
  simp only[zae,Al6] at h ⊢
  by_cases h1:c=34
  ·rw[if_pos h1] at h ⊢
   simp only[Al1,Al8] at h ⊢
   exact⟨h.1,by rw[h.2]⟩
  rw[if_neg h1] at h ⊢
  by_cases h2:c=92
  ·rw[if_pos h2] at h ⊢
   cases he:YF q s with
   | none=>rw[he] at h;cases h
   | some x =>
    rw[he] at h
    rw[zp3 t (q':=x.1) (s':=x.2) he]
    exact zgw t n _ _ _ _ h k (by omega)
  rw[if_neg h2] at h ⊢
  split at h
  ·rename_i h3
   rw[if_pos h3]
   exact zgw t n _ _ _ _ h k (by omega)
  ·cases h
theorem zqU {may:UInt8→Bool} {s s' b:List UInt8} (t:List UInt8) (h:Y7 may s=some (b,s')):Y7 may (s++t)=some (b,s'++t):=by
 unfold Y7 at h ⊢
 cases hq:zae may (s.length+1) s ⟨[],[],true⟩ with
 | none=>rw[hq] at h;cases h
 | some x =>
  rw[hq] at h
  rw[zgw t _ _ _ x.1 x.2 hq _ (by simp)]
  simp only at h ⊢
  split at h
  ·rename_i h1
   simp only[Al1,Al8] at h
   rw[if_pos h1]
   simp[h.1,h.2]
  ·cases h
theorem zhv (s:List UInt8):Zc s≤s.length:=by unfold Zc;exact(List.takeWhile_sublist _).length_le
theorem zkQ (s:List UInt8):(y5 s).1≤s.length:=by
 unfold y5
 split
 ·simp
 ·have h1:=zfp s
  have h2:=zkO (s.drop (zX s))
  have h3:=zjG (s.drop (zX s+ZL (s.drop (zX s))))
  simp only[List.length_drop] at h2 h3
  simp only;omega
theorem zqh {s s':List UInt8} {x:Tok} (h:ZB s=some (x,s')) (t:List UInt8):s'.length<s.length∧ZB (s++10::t)=some (x,s'++10::t):=by
 cases s with
 | nil=>cases h
 | cons c r =>
  have e3:=za7 yA (c::r) t (by decide)
  have ed:=za7 Z7 (c::r) t (by decide)
  rw[Al6] at e3 ed
  have hw:=zi6 (c::r) (zso t)
  have hn:=zkF (a:=c::r) (zso t)
  simp only[ZB] at h
  simp only[ZB,Al6]
  rw[e3,ed]
  by_cases h1:yA.isPrefixOf (c::r)=true
  ·rw[if_pos h1] at h ⊢
   have hl:=Yd _ _ h1
   simp only[yA,Al2,Al3] at hl
   cases hr:Yg (r.length+1) [] (r.drop 2) with
   | none=>rw[hr] at h;cases h
   | some y =>
    rw[hr] at h
    simp only[zas,Al1,Al8] at h
    obtain⟨rfl,rfl⟩:=h
    obtain⟨g1,g2⟩:=zha _ _ _ y.1 y.2 hr
    simp only[List.length_drop] at g1
    rw[List.drop_append_of_le_length (by omega),g2 _ t (by simp)]
    exact⟨by simp only[Al2];omega,rfl⟩
  rw[if_neg h1] at h ⊢
  by_cases h2:c=34
  ·rw[if_pos h2] at h ⊢
   cases hr:Y7 Zd r with
   | none=>rw[hr] at h;cases h
   | some y =>
    rw[hr] at h
    simp only[zas,Al1,Al8] at h
    obtain⟨rfl,rfl⟩:=h
    have g1:=zkl (t':=y.2) (b:=y.1) hr
    rw[zqU (10::t) (b:=y.1) (s':=y.2) hr]
    exact⟨by simp only[Al2];omega,rfl⟩
  rw[if_neg h2] at h ⊢
  by_cases h3:Z7.isPrefixOf (c::r)=true
  ·rw[if_pos h3] at h ⊢
   have hl:=Yd _ _ h3
   simp only[Z7,Al2,Al3] at hl
   simp only[Al1,Al8] at h ⊢
   obtain⟨rfl,rfl⟩:=h
   exact⟨by simp;omega,rfl,List.drop_append_of_le_length (by omega)⟩
  rw[if_neg h3] at h ⊢
  by_cases h4:0≤Lib.indexByte zcB c
  ·rw[if_pos h4] at h ⊢
   simp only[Al1,Al8] at h ⊢
   obtain⟨rfl,rfl⟩:=h
   exact⟨by simp,rfl,rfl⟩
  rw[if_neg h4] at h ⊢
  by_cases h5:isL c=true
  ·rw[if_pos h5] at h ⊢
   have hl:=zhv (c::r)
   have hp:0<Zc (c::r):=by unfold Zc;simp[h5]
   simp only[Al1,Al8] at h ⊢
   obtain⟨rfl,rfl⟩:=h
   rw[← Al6,hw,List.take_append_of_le_length hl,List.drop_append_of_le_length hl]
   exact⟨by rw[List.length_drop];simp only[Al2] at hl ⊢;omega,rfl,rfl⟩
  rw[if_neg h5] at h ⊢
  rw[← Al6,hn]
  by_cases h6:(y5 (c::r)).1=0
  ·rw[if_pos h6] at h;cases h
  rw[if_neg h6] at h ⊢
  have hl:=zkQ (c::r)
  rw[List.take_append_of_le_length hl,List.drop_append_of_le_length hl]
  have hh:(((c::r).drop (y5 (c::r)).1++10::t).head?.any fun d=>isL d||isD d||decide (d=46))=(((c::r).drop (y5 (c::r)).1).head?.any fun d=>isL d||isD d||decide (d=46)):=by
   cases (c::r).drop (y5 (c::r)).1 with
   | nil=>simp[isL,isD]
   | cons d t=>rfl
  rw[hh]
  split at h
  ·cases h
  ·rename_i h7
   rw[if_neg h7]
   simp only[Al1,Al8] at h ⊢
   obtain⟨rfl,rfl⟩:=h
   exact⟨by rw[List.length_drop];simp only[Al2] at hl ⊢;omega,rfl,rfl⟩
theorem zjJ (s:List UInt8):Ym s≤s.length:=by
 cases s with
 | nil=>simp[Ym]
 | cons c r =>
  simp only[Ym]
  split
  ·simp
  ·split
   ·rename_i h;have:=Yd _ _ h;simpa[zju] using this
   ·split
    ·have:=(List.takeWhile_sublist ZJ (l:=r)).length_le;simp only[Al2];omega
    ·simp
theorem zew {s s':List UInt8} {x:Tok} (h:ZB s=some (x,s')):s'.length<s.length:=(zqh h []).1
theorem zb2:∀(n m:Nat) (l:List Tok) (s:List UInt8),s.length<n→s.length<m→Z3 n l s=Z3 m l s
 | 0,_,_,_,h,_=>by omega
 | _,0,_,_,_,h=>by omega
 | n+1,m+1,l,s,h1,h2=>by
  simp only[Z3]
  split
  ·rfl
  ·rename_i hne
   split
   ·rename_i hg
    have hl:0<s.length:=List.length_pos_iff.2 hne
    exact zb2 n m _ _ (by rw[List.length_drop];omega) (by rw[List.length_drop];omega)
   ·cases ho:ZB s with
    | none=>rfl
    | some x =>
     have:=zew (x:=x.1) (s':=x.2) ho
     exact zb2 n m _ _ (by omega) (by omega)
theorem zpz {s:List UInt8} {l:List Tok} (h:YE s=.ok l):s.length≤8192∧zfm s=true∧Z3 (s.length+1) [] s=.ok l:=by
 unfold YE at h
 split at h
 ·cases h
 ·split at h
  ·rename_i h1 h2;exact⟨by omega,h2,h⟩
  ·cases h
theorem znz:∀(L:List (List UInt8)) (a:Int),(0≤a→zdO L a≤a∧0≤zdO L a)∧(∀ s∈L,yQ s=false→zdO L a≤zaR s∧0≤zdO L a)
 | [],a=>⟨fun h=>⟨Int.le_refl _,h⟩,fun s hs=>nomatch hs⟩
 | s::r,a=>by
  simp only[zdO]
  have ih:=znz r
  by_cases hb:yQ s=true
  ·rw[if_pos hb]
   refine⟨(ih a).1,fun x hx hxb=>?_⟩
   rcases List.mem_cons.1 hx with rfl|hx
   ·rw[hb] at hxb;cases hxb
   ·exact(ih a).2 x hx hxb
  ·rw[if_neg hb]
   by_cases hc:a<0∨(zaR s:Int)<a
   ·rw[if_pos hc]
    have h1:=(ih (zaR s)).1 (by omega)
    refine⟨fun h=>⟨by omega,h1.2⟩,fun x hx hxb=>?_⟩
    rcases List.mem_cons.1 hx with rfl|hx
    ·exact h1
    ·exact(ih _).2 x hx hxb
   ·rw[if_neg hc]
    have h1:=(ih a).1 (by omega)
    refine⟨fun _=>h1,fun x hx hxb=>?_⟩
    rcases List.mem_cons.1 hx with rfl|hx
    ·exact⟨by omega,h1.2⟩
    ·exact(ih _).2 x hx hxb
theorem zn1 {s:List UInt8} (h:yQ s=true):zaR s=s.length:=by
 unfold yQ at h
 unfold zaR
 rw[ze4 s (List.all_eq_true.1 h)]
theorem zoD {s:List UInt8} (h:s.length≠1):zlS s=false:=by
 match s,h with
 | [],_=>rfl
 | [_],h=>exact absurd rfl h
 | _::_::_,_=>rfl
theorem zrX (t:Tok) (ht:t.s.length≤Lim):zq Tryz.prog 119 [.agg (cK t)] (.bool (yP t)):=by
 refine zq.go ir119 ck119 (Al4 _) fun KP Q hQ=>?_
 obtain⟨k,s⟩:=t
 simp only at ht
 by_cases k1:k=1
 ·subst k1
  by_cases hd:s=[46,46,46]
  ·simp(disch:=first|omega|assumption) only[ir119,cK,hd,go_sem]
   exact hQ _ _ _ _ nofun rfl (by simp[zc,zd,AV.strip,AV.strip1,yP,hd,Z7])
  by_cases hl:s.length=1
  ·obtain⟨c,rfl⟩:=List.length_eq_one_iff.1 hl
   simp(disch:=first|omega|assumption) only[ir119,cK,hd,go_sem]
   have e:yP ⟨1,[c]⟩=decide (0≤Lib.indexByte zcB c):=by simp[yP,Z7,zlS]
   refine zb (zmC _ c) ?_
   simp(disch:=first|omega|assumption) only[go_sem]
   exact hQ _ _ _ [_] nofun rfl (by rw[e];rfl)
  ·have hl':¬ ((s.length:Int)=1):=by omega
   simp(disch:=first|omega|assumption) only[ir119,cK,hd,hl',go_sem]
   exact hQ _ _ _ _ nofun rfl (by simp[zc,zd,AV.strip,AV.strip1,yP,hd,Z7,zoD hl])
 by_cases k2:k=2
 ·subst k2
  simp(disch:=first|omega|assumption) only[ir119,cK,go_sem]
  refine zb (zhX s ht) ?_
  simp(disch:=first|omega|assumption) only[go_sem]
  exact hQ _ _ _ _ nofun rfl (by simp[zc,zd,AV.strip,AV.strip1,yP])
 by_cases k3:k=3
 ·subst k3
  simp(disch:=first|omega|assumption) only[ir119,cK,go_sem]
  refine zb (zeI s ht) ?_
  simp(disch:=first|omega|assumption) only[go_sem]
  exact hQ _ _ _ _ nofun rfl (by simp[zc,zd,AV.strip,AV.strip1,yP])
 by_cases k4:k=4
 ·subst k4
  simp(disch:=first|omega|assumption) only[ir119,cK,go_sem]
  refine zb (zeI s ht) ?_
  simp(disch:=first|omega|assumption) only[go_sem]
  exact hQ _ _ _ _ nofun rfl (by simp[zc,zd,AV.strip,AV.strip1,yP])
 by_cases k5:k=5
 ·subst k5
  simp(disch:=first|omega|assumption) only[ir119,cK,go_sem]
  refine zb (zs0 s ht) ?_
  simp(disch:=first|omega|assumption) only[go_sem]
  exact hQ _ _ _ _ nofun rfl (by simp[zc,zd,AV.strip,AV.strip1,yP])
 ·simp(disch:=first|omega|assumption) only[ir119,cK,k1,k2,k3,k4,k5,go_sem]
  exact hQ _ _ _ _ nofun rfl (by simp[zc,zd,AV.strip,AV.strip1,yP,k1,k2,k3,k4,k5])
theorem zsd:∀ l:List (List UInt8),(Lib.join l [32]).length≤(l.map fun s=>s.length+1).sum
 | []=>by simp[Lib.join_nil]
 | x::r=>by
  rw[Lib.join_length]
  have:∀ l:List (List UInt8),lens l+l.length=(l.map fun s=>s.length+1).sum:=fun l=>by
   induction l with
   | nil=>rfl
   | cons y l ih=>simp only[lens,List.map_cons,List.sum_cons,Al2] at ih ⊢;omega
  have h:=this (x::r)
  simp only[Al2,Al3] at h ⊢
  omega
theorem zqR (l:List Tok) (h:l.all yP=true):(ZW l).length≤6*wT l:=by
 refine Nat.le_trans (zsd _) ?_
 induction l with
 | nil=>simp[wT]
 | cons t l ih =>
  simp only[List.all_cons,Al0] at h
  have h1:=zqd h.1
  have h2:=ih h.2
  rw[yS]
  simp only[List.map_cons,List.sum_cons,wK] at h2 ⊢
  omega
theorem zte {l:List Tok} {t:Tok} (h:t∈l):t.s.length+4≤wT l:=by
 induction l with
 | nil=>cases h
 | cons y l ih =>
  rw[yS]
  rcases List.mem_cons.1 h with rfl|h
  ·unfold wK;omega
  ·have:=ih h;omega
theorem ztB (l:List Tok):4*l.length≤wT l:=by
 induction l with
 | nil=>simp
 | cons y l ih=>rw[yS];simp only[Al2,wK];omega
theorem zrh (L:List Tok) (hb:8*wT L≤Lim):zq Tryz.prog 56 [.sl .no 2 (cKs L)] (.tup [.str (ZO L).1,.bool (ZO L).2]):=by
 refine zq.go ir56 ck56 (Al4 _) fun KP Q hQ=>?_
 have hkl:=yF L
 have hwl:=ztB L
 simp only[Lim] at hb
 simp(disch:=first|omega|assumption) only[ir56,hkl,go_sem]
 refine zx L 9 (fun x:Own×List (List UInt8)=>[(4,.sl x.1 1 (cT x.2))]) (fun done rest x H=>x.2=done.map YZ∧done.all yP=true∧yg H x.1 x.2.length 1) (.nil,[]) (by simp(disch:=first|omega|assumption) only[cT,go_sem]) ⟨rfl,rfl,yg.nil _ _⟩ ?_ ?_
 ·rintro⟨o,l⟩ H J ⟨hl,hr,ho⟩ hlt
  simp only at hl hr ho
  subst hl
  have hj:=zqR L hr
  have hcl:=zag (L.map YZ)
  simp(disch:=first|omega|assumption) only[hkl,hlt,go_sem]
  refine zb (zq.low (zaP (L.map YZ) [32] (by show (ZW L).length≤_;omega) (by simp;omega))) ?_
  simp(disch:=first|omega|assumption) only[go_sem]
  exact hQ _ _ _ _ nofun rfl (by simp[zc,zd,AV.strip,AV.strip1,ZO,hr,ZW])
 ·rintro done x rest ⟨o,l⟩ H J hd hlt hlt2 ⟨hl,hr,ho⟩ hJ
  simp only at hl hr ho
  have hg:=zrt hd
  have hmem:x∈L:=by rw[hd];simp
  have hx:=zte hmem
  have hlen:l.length=done.length:=by rw[hl];simp
  have hcl:=zag l
  simp(disch:=first|omega|assumption) only[hkl,hlt,hg,go_sem]
  refine zl fun b hb=>?_
  simp(disch:=first|omega|assumption) only[go_sem]
  refine zb (zrX x (by simp only[Lim];omega)) ?_
  cases hrx:yP x with
  | false =>
   have e:L.all yP=false:=by rw[hd];simp[hrx]
   simp(disch:=first|omega|assumption) only[go_sem]
   exact hQ _ _ _ _ nofun rfl (by simp[zc,zd,AV.strip,AV.strip1,ZO,e])
  | true =>
   by_cases k5:x.k=5
   ·have hv:validD x.s=true:=by unfold yP at hrx;rw[k5] at hrx;simpa using hrx
    simp(disch:=first|omega|assumption) only[k5,go_sem]
    refine zb (zrO x.s hv (by simp only[Lim];omega)) ?_
    simp(disch:=first|omega|assumption) only[go_sem]
    refine zv (by rw[hcl];exact ho.upd hb) (by simp only[hcl,Al2,Al3];omega) (by simp only[hcl,Al2,Al3,maxLen];omega) fun o3 H3 hs3=>?_
    have et:YZ x=zjU x.s:=by unfold YZ;rw[if_pos k5]
    simp(disch:=first|omega|assumption) only[wrap64,go_sem]
    exact goJ (hJ (o3,l++[zjU x.s]) H3 ⟨by rw[hl];simp[et],by simp[hr,hrx],by simpa[hcl] using hs3.own⟩) (by simp(disch:=first|omega|assumption) only[cT,List.map_append,go_sem])
   ·have et:YZ x=x.s:=by unfold YZ;rw[if_neg k5]
    simp(disch:=first|omega|assumption) only[k5,go_sem]
    refine zv (by rw[hcl];exact ho.upd hb) (by simp only[hcl,Al2,Al3];omega) (by simp only[hcl,Al2,Al3,maxLen];omega) fun o3 H3 hs3=>?_
    simp(disch:=first|omega|assumption) only[wrap64,go_sem]
    exact goJ (hJ (o3,l++[x.s]) H3 ⟨by rw[hl];simp[et],by simp[hr,hrx],by simpa[hcl] using hs3.own⟩) (by simp(disch:=first|omega|assumption) only[cT,List.map_append,go_sem])
end Go.Proofs.YticbbfbpeimkbaaGreatDoor
namespace Go.Proofs.YticbbfbpeimkbaaGreatDoor
open Go.Ab
structure WAt (H:za) (w:Nat) (o:Own) (l:List Tok) (ok:Bool) (dp:Int):Prop where
 cell:H w=some (.cells [.sl o 2 (cKs l),.bool ok,.int .i64 dp])
 own:yg H o l.length 2
structure WStep (H:za) (o:Own) (w:Nat) (H':za) (o':Own):Prop where
 keep:∀ c x,c≠w→(∀ d,o≠.tip c d)→H c=some x→H' c=some x
 new:∀ b d,o'=.tip b d→H b=none∨∃ d0,o=.tip b d0
theorem WStep.refl (H:za) (o:Own) (w:Nat):WStep H o w H o:=⟨fun _ _ _ _ h=>h,fun b d e=>.inr ⟨d,e⟩⟩
theorem WStep.trans {H H1 H2:za} {o o1 o2:Own} {w:Nat} {x:AObj} (h:WStep H o w H1 o1) (hw:H1 w=some x) (h':WStep H1 o1 w H2 o2):WStep H o w H2 o2:=by
 refine⟨fun c y hc hn hy=>h'.keep c y hc (fun d e=>?_) (h.keep c y hc hn hy),fun b d e=>?_⟩
 ·rcases h.new c d e with h1|⟨d0,h1⟩
  ·rw[hy] at h1;cases h1
  ·exact hn d0 h1
 ·rcases h'.new b d e with h1|⟨d0,h1⟩
  ·cases hb:H b with
   | none=>exact .inl rfl
   | some y =>
    by_cases e2:∃ d,o=.tip b d
    ·exact .inr e2
    ·have hbw:b≠w:=fun e3=>by subst e3;rw[hw] at h1;cases h1
     have:=h.keep b y hbw (fun d e3=>e2 ⟨d,e3⟩) hb
     rw[h1] at this;cases this
  ·exact h.new b d0 h1
theorem WStep.box {H H':za} {o o':Own} {w b n:Nat} {cs:List AV} (h:WStep H o w H' o') (ho:yg H o n 2) (hb:H b=some (.cells cs)) (hw:b≠w):H' b=some (.cells cs) :=
 h.keep b _ hw (fun d e=>by subst e;exact own_ne ho hb rfl) hb
theorem WStep.upd {H H':za} {o o':Own} {w:Nat} {x:AObj} (h:WStep H o w H' o'):WStep H o w (H'.upd w x) o' :=
 ⟨fun c y hc hn hy=>by rw[upd_ne hc];exact h.keep c y hc hn hy,h.new⟩
theorem WStep.alloc {H H':za} {o o':Own} {w b:Nat} {x:AObj} (h:WStep H o w H' o') (hb:H' b=none):WStep H o w (H'.upd b x) o' :=
 ⟨fun c y hc hn hy=>by have:=h.keep c y hc hn hy;rw[upd_ne (fun e=>by subst e;rw[hb] at this;cases this)];exact this,h.new⟩
theorem WAt.alloc {H:za} {w b:Nat} {o:Own} {l:List Tok} {ok:Bool} {dp:Int} {x:AObj} (h:WAt H w o l ok dp) (hb:H b=none):WAt (H.upd b x) w o l ok dp :=
 ⟨by rw[upd_ne (fun e=>by subst e;rw[h.cell] at hb;cases hb)];exact h.cell,h.own.upd hb⟩
theorem WAt.put {H:za} {w:Nat} {o:Own} {l:List Tok} {ok ok':Bool} {dp dp':Int} (h:WAt H w o l ok dp):WAt (H.upd w (.cells [.sl o 2 (cKs l),.bool ok',.int .i64 dp'])) w o l ok' dp' :=
 ⟨upd_same ..,Zn h.own h.cell⟩
theorem WAt.app {H H1:za} {w:Nat} {o o1:Own} {l ts:List Tok} {ok:Bool} {dp:Int} {n:Nat} (h:WAt H w o l ok dp) (hs:OwnS H o H1 o1 n 2) (hn:n=(l++ts).length) :
  H1 w=some (.cells [.sl o 2 (cKs l),.bool ok,.int .i64 dp])∧WAt (H1.upd w (.cells [.sl o1 2 (cKs (l++ts)),.bool ok,.int .i64 dp])) w o1 (l++ts) ok dp∧WStep H o w (H1.upd w (.cells [.sl o1 2 (cKs (l++ts)),.bool ok,.int .i64 dp])) o1:=by
 subst hn
 have hc:=Za h.own h.cell hs.kept
 exact⟨hc,⟨upd_same ..,Zn hs.own hc⟩,fun c y hcw hn hy=>by rw[upd_ne hcw];exact hs.kept c y hy hn,hs.new⟩
abbrev zrA (R:AV→za→Prop):AEnd→za→Prop:=fun e H'=>∃ v,e=.ret v∧R v H'
def WC (f:FuncId) (args:List AV) (B:Nat) (lo hi:Int) (r:Int→Bool) (tk:List Tok):Prop :=
 ∀(H:za) (w:Nat) (o:Own) (l:List Tok) (ok:Bool) (dp:Int),WAt H w o l ok dp→lo≤dp→dp≤hi→l.length+B≤Lim →
  zj Tryz.prog f (.ptr w 0::args) H (zrA fun v H'=>v=.tup []∧∃ o' l',WAt H' w o' l' (ok&&r dp) dp∧WStep H o w H' o'∧l'.length≤l.length+B∧((ok&&r dp)=true→l'=l++tk))
structure WR (H0:za) (o0:Own) (w:Nat) (l0:List Tok) (ok0:Bool) (dp:Int) (B:Nat) (r:Bool) (tk:List Tok) (H:za) (o:Own) (l:List Tok):Prop where
 here:WAt H w o l (ok0&&r) dp
 st:WStep H0 o0 w H o
 len:l.length≤l0.length+B
 eq:(ok0&&r)=true→l=l0++tk
theorem WR.refl {H:za} {o:Own} {w:Nat} {l:List Tok} {ok:Bool} {dp:Int} (h:WAt H w o l ok dp):WR H o w l ok dp 0 true [] H o l :=
 ⟨by rw[Bool.and_true];exact h,.refl _ _ _,Al4 _,fun _=>by simp⟩
theorem WR.alloc {H0 H:za} {o0 o:Own} {w b B:Nat} {l0 l tk:List Tok} {ok0 r:Bool} {dp:Int} {x:AObj} (h:WR H0 o0 w l0 ok0 dp B r tk H o l) (hb:H b=none):WR H0 o0 w l0 ok0 dp B r tk (H.upd b x) o l :=
 ⟨h.here.alloc hb,h.st.alloc hb,h.len,h.eq⟩
theorem WR.fin {H0 H:za} {o0 o:Own} {w B B':Nat} {l0 l tk tk':List Tok} {ok0 r r':Bool} {dp:Int} (h:WR H0 o0 w l0 ok0 dp B r tk H o l) (hr:r=r') (ht:r'=true→tk=tk') (hB:B≤B') :
  ∃ o' l',WAt H w o' l' (ok0&&r') dp∧WStep H0 o0 w H o'∧l'.length≤l0.length+B'∧((ok0&&r')=true→l'=l0++tk'):=by
 subst hr
 refine⟨o,l,h.here,h.st,by have:=h.len;omega,fun e=>?_⟩
 rw[h.eq e,ht (by simp only[Al0] at e;exact e.2)]
section
variable {KP:AV→za→Prop} {Q:AExit→Env→za→Prop} {st:List Fr} {ρ:Env} {H:za} {all items:List AItem} {d:Option Nat} {R:List Chk}
theorem zaH {f:FuncId} {args:List AV} {B:Nat} {lo hi:Int} {r:Int→Bool} {tk:List Tok} (hc:WC f args B lo hi r tk) {w:Nat} {o:Own} {l:List Tok} {ok:Bool} {dp:Int} (h:WAt H w o l ok dp) (h0:lo≤dp) (h1:dp≤hi) (hb:l.length+B≤Lim)
  (k:∀ o' l' H',WAt H' w o' l' (ok&&r dp) dp→WStep H o w H' o'→l'.length≤l.length+B→((ok&&r dp)=true→l'=l++tk)→goR Tryz.prog KP Q all items st R (ρ.set d (.tup [])) H') :
  goK Tryz.prog KP Q all items st d R ρ f (.ptr w 0::args) H:=by
 refine zI (hc H w o l ok dp h h0 h1 hb) fun v H' ⟨hv,o',l',h2,h3,h4,h5⟩=>?_
 subst hv
 exact k o' l' H' h2 h3 h4 h5
theorem zi {f:FuncId} {args:List AV} {B':Nat} {lo hi:Int} {r':Int→Bool} {tk':List Tok} (hc:WC f args B' lo hi r' tk') {H0:za} {o0 o:Own} {w B:Nat} {l0 l tk:List Tok} {ok0 r:Bool} {dp:Int} (h:WR H0 o0 w l0 ok0 dp B r tk H o l) (h0:lo≤dp) (h1:dp≤hi)
  (hb:l0.length+(B+B')≤Lim) (k:∀ o' l' H',WR H0 o0 w l0 ok0 dp (B+B') (r&&r' dp) (tk++tk') H' o' l'→WStep H o w H' o'→goR Tryz.prog KP Q all items st R (ρ.set d (.tup [])) H') :
  goK Tryz.prog KP Q all items st d R ρ f (.ptr w 0::args) H:=by
 have hlen:=h.len
 refine zaH hc h.here h0 h1 (by omega) fun o' l' H' h2 h3 h4 h5=>k o' l' H' ⟨by rw[← y9];exact h2,h.st.trans h.here.cell h3,by omega,fun e=>?_⟩ h3
 rw[← y9] at e
 rw[h5 e,h.eq (by simp only[Al0] at e ⊢;exact e.1),Z6]
end
theorem zvF:zj Tryz.prog 69 [] za.emp (zrA fun v H'=>∃ w,v=.ptr w 0∧WAt H' w .nil [] true 0):=by
 refine zj.go ir69 ck69 (Al4 _) fun KP Q hQ=>?_
 simp(disch:=first|omega|assumption) only[ir69,go_sem]
 refine zl fun b hb=>?_
 simp(disch:=first|omega|assumption) only[go_sem]
 exact hQ _ _ _ _ [_] nofun rfl (Low.refl _) ⟨b,rfl,upd_same ..,rfl⟩
theorem Zl (b:Bool):WC 70 [.bool b] 0 (-1000) 1000 (fun _=>b) []:=by
 intro H w o l ok dp h h0 h1 hb
 refine zj.go ir70 ck70 (Al4 _) fun KP Q hQ=>?_
 have hc:=h.cell
 cases ok
 ·simp(disch:=first|omega|assumption) only[ir70,hc,go_sem]
  exact hQ _ _ _ _ [] nofun rfl (Low.refl _) ⟨rfl,o,l,h.put,(WStep.refl ..).upd,by simp,fun _=>by simp⟩
 ·simp(disch:=first|omega|assumption) only[ir70,hc,go_sem]
  exact hQ _ _ _ _ [] nofun rfl (Low.refl _) ⟨rfl,o,l,by rw[Bool.true_and];exact h.put,(WStep.refl ..).upd,by simp,fun _=>by simp⟩
theorem yh (s:List UInt8) (hs:s.length≤Lim):WC 139 [.str s] 1 (-1000) 1000 (fun _=>ym s) [wk s]:=by
 intro H w o l ok dp h h0 h1 hb
 refine zj.go ir139 ck139 (Al4 _) fun KP Q hQ=>?_
 have hkl:=yF l
 simp only[Lim] at hb
 simp(disch:=first|omega|assumption) only[ir139,go_sem]
 refine zb (zhX s hs) ?_
 simp(disch:=first|omega|assumption) only[go_sem]
 refine zaH (Zl _) h h0 h1 (by simp only[Lim];omega) fun o1 l1 H1 h2 h3 h4 h5=>?_
 have hkl1:=yF l1
 have hc:=h2.cell
 simp(disch:=first|omega|assumption) only[hc,go_sem]
 refine zv (by rw[hkl1];exact h2.own) (by simp only[hkl1,Al2,Al3];omega) (by simp only[hkl1,Al2,Al3,maxLen];omega) fun o2 H2 hs2=>?_
 obtain⟨g1,g2,g3⟩:=h2.app (ts:=[wk s]) hs2 (by simp[hkl1])
 have ek:cKs l1++[[AV.int .i64 2,AV.str s]]=cKs (l1++[wk s]):=za9 l1 (wk s)
 simp(disch:=first|omega|assumption) only[g1,ek,go_sem]
 exact hQ _ _ _ _ [] nofun rfl (Low.refl _) ⟨rfl,o2,l1++[wk s],g2,h3.trans h2.cell g3,by simp;omega,fun e=>by rw[h5 e];simp⟩
theorem yp (m:List UInt8) (o9:Own):WC 140 [.sl o9 1 [[.str m]]] 1 (-1000) 1000 (fun _=>true) [pk m]:=by
 intro H w o l ok dp h h0 h1 hb
 refine zj.go ir140 ck140 (Al4 _) fun KP Q hQ=>?_
 simp only[Lim] at hb
 simp(disch:=first|omega|assumption) only[ir140,go_sem]
 refine zx [m] 8 (fun x:Own×List Tok=>[]) (fun done rest x H'=>WAt H' w x.1 x.2 ok dp∧WStep H o w H' x.1∧x.2=l++done.map pk) (o,l) (by simp(disch:=first|omega|assumption) only[go_sem]) ⟨h,.refl _ _ _,by simp⟩ ?_ ?_
 ·rintro⟨o1,l1⟩ H1 J ⟨h2,h3,h4⟩ hlt
  simp only at h2 h3 h4
  simp(disch:=first|omega|assumption) only[go_sem]
  refine hQ _ _ H1 H1 [] nofun rfl (Low.refl _) ⟨rfl,o1,l1,by simpa using h2,h3,by rw[h4];simp,fun _=>by rw[h4];simp⟩
 ·rintro done x rest ⟨o1,l1⟩ H1 J hd hlt hlt2 ⟨h2,h3,h4⟩ hJ
  simp only at h2 h3 h4
  have hl1:l1.length≤l.length+1:=by rw[h4];simp only[Al5,List.length_map];have:=congrArg List.length hd;simp at this;omega
  have hg:([[AV.str m]]:List (List AV)).getD done.length []=[.str x]:=by
   have:([m].map fun k=>[AV.str k]).getD done.length []=[.str x]:=Zq hd
   exact this
  have hkl1:=yF l1
  have hc:=h2.cell
  have hlt1:((done.length:Int)<1)=True:=eq_true (by simpa using hlt)
  have hdl:done.length<1:=by simpa using hlt2
  simp(disch:=first|omega|assumption) only[hlt1,hg,hc,go_sem]
  refine zv (by rw[hkl1];exact h2.own) (by simp only[hkl1,Al2,Al3];omega) (by simp only[hkl1,Al2,Al3,maxLen];omega) fun o2 H2 hs2=>?_
  obtain⟨g1,g2,g3⟩:=h2.app (ts:=[pk x]) hs2 (by simp[hkl1])
  have ek:cKs l1++[[AV.int .i64 1,AV.str x]]=cKs (l1++[pk x]):=za9 l1 (pk x)
  simp(disch:=first|omega|assumption) only[g1,ek,wrap64,go_sem]
  exact goJ (hJ (o2,l1++[pk x]) _ ⟨g2,h3.trans h2.cell g3,by rw[h4];simp⟩) (by simp(disch:=first|omega|assumption) only[go_sem])
open Go.Lib
def ZS (l:List (List UInt8)):List AV:=l.map AV.str
theorem Yw (l:List (List UInt8)):(ZS l).length=l.length:=by simp[ZS]
def MsT (H:za) (b cap:Nat) (l:List (List UInt8)):Prop:=∃ tl,H b=some (.cells (ZS l++tl))∧l.length+tl.length=cap
theorem zmK (z:AV):∀ n,(Yp [z] n).length=n
 | 0=>rfl
 | n+1=>by simp[Yp,zmK z n]
section
variable {KP:AV→za→Prop} {Q:AExit→Env→za→Prop} {st:List Fr} {ρ:Env} {H:za} {all items:List AItem} {d:Option Nat} {R:List Chk}
theorem ztL {b cap:Nat} {l:List (List UInt8)} {x:List UInt8} {o2:Own} (h:MsT H b cap l) (h1:(l.length+1)*16≤140737488355328) (h2:l.length+1≤maxLen)
  (k:∀ b' cap' H',MsT H' b' cap' (l++[x])→goR Tryz.prog KP Q all items st R (ρ.set d (.ms b' 0 (l.length+1) cap')) H') :
  zn3 Tryz.prog KP Q all items st d R ρ 1 16 [.str []] (.ms b 0 l.length cap) (.sl o2 1 [[.str x]]) H:=by
 obtain⟨tl,hb,hc⟩:=h
 refine zru hb rfl (by simpa using h1) (by simpa using h2) (fun hfit=>⟨?_,?_⟩) (fun hnf=>⟨?_,fun b' cap' hb' hcap' hm'=>?_⟩)
 ·have hfit:l.length+1≤cap:=hfit
  simp[Yw];omega
 ·have hfit:l.length+1≤cap:=hfit
  obtain⟨t0,tl,rfl⟩:∃ t0 t1,tl=t0::t1:=by
   cases tl with
   | nil=>simp at hc;omega
   | cons a b=>exact⟨a,b,rfl⟩
  refine k b cap _ ⟨tl,?_,by simp at hc ⊢;omega⟩
  rw[upd_same]
  simp only[splice,List.flatten_cons,List.flatten_nil,List.append_nil,List.map_cons,List.map_nil,AV.strip1,Al2,Al3,Nat.zero_add,Nat.mul_one]
  rw[List.take_left' (Yw l),List.drop_append,List.drop_eq_nil_of_le (by rw[Yw];omega),Yw,Nat.add_sub_cancel_left]
  simp[ZS]
 ·simp[Yw]
 ·refine k b' cap' _ ⟨Yp [.str []] (cap'-(l.length+1)),?_,?_⟩
  ·rw[upd_same]
   simp only[List.drop_zero,Nat.mul_one,List.flatten_cons,List.flatten_nil,List.append_nil,List.map_cons,List.map_nil,AV.strip1,Al2,Al3,Nat.zero_add]
   rw[List.take_left' (Yw l)]
   simp[ZS]
  ·have hcap':l.length+1≤cap':=hcap'
   rw[zmK];simp;omega
theorem zsa {x:List UInt8} {o2:Own} (k:∀ b' cap' H',MsT H' b' cap' [x]→goR Tryz.prog KP Q all items st R (ρ.set d (.ms b' 0 1 cap')) H') :
  zn3 Tryz.prog KP Q all items st d R ρ 1 16 [.str []] (.sl .nil 1 []) (.sl o2 1 [[.str x]]) H:=by
 refine zqT rfl (by simp) (by simp[maxLen]) (fun h=>by simp at h) fun _ b cap hb h1 h2=>?_
 have h1:1≤cap:=h1
 refine k b cap _ ⟨Yp [.str []] (cap-1),?_,by rw[zmK];simp;omega⟩
 rw[upd_same]
 simp[ZS,AV.strip1]
end
theorem zeE {cur r:List UInt8} {c:UInt8} (h:¬ (c=10∨c=13)):yO cur (c::r)=yO (cur++[c]) r:=by
 have h10:c≠10:=fun e=>h (.inl e)
 have h13:c≠13:=fun e=>h (.inr e)
 cases r with
 | nil=>simp[yO,h10,h13]
 | cons d r=>simp[yO,h10,h13]
theorem zis (cur r:List UInt8):yO cur (10::r)=cur::yO [] r:=by cases r<;>simp[yO]
theorem zio {cur r:List UInt8} (h:r.head?≠some 10):yO cur (13::r)=cur::yO [] r:=by
 cases r with
 | nil=>simp[yO]
 | cons d r =>
  have:d≠10:=by simpa using h
  simp[yO,this]
theorem zhg (cur r:List UInt8):yO cur (13::10::r)=cur::yO [] r:=by simp[yO]
def zrJ (b cap:Nat) (l:List (List UInt8)):AV:=if l=[] then .sl .nil 1 [] else .ms b 0 l.length cap
theorem zle (b cap:Nat):zrJ b cap []=.sl .nil 1 []:=rfl
theorem zeB {b cap:Nat} {l:List (List UInt8)} (h:l≠[]):zrJ b cap l=.ms b 0 l.length cap:=if_neg h
def ztS (s:List UInt8):AEnd→za→Prop:=zrA fun v H'=>∃ b cap,v=.ms b 0 (yo s).length cap∧MsT H' b cap (yo s)
section
variable {KP:AV→za→Prop} {Q:AExit→Env→za→Prop} {st:List Fr} {ρ:Env} {H:za} {all items:List AItem} {d:Option Nat} {R:List Chk}
theorem zhn {b cap:Nat} {l:List (List UInt8)} {x:List UInt8} {o2:Own} (h:l≠[]→MsT H b cap l) (h1:(l.length+1)*16≤140737488355328) (h2:l.length+1≤maxLen)
  (k:∀ b' cap' H',MsT H' b' cap' (l++[x])→goR Tryz.prog KP Q all items st R (ρ.set d (.ms b' 0 (l.length+1) cap')) H') :
  zn3 Tryz.prog KP Q all items st d R ρ 1 16 [.str []] (zrJ b cap l) (.sl o2 1 [[.str x]]) H:=by
 by_cases hl:l=[]
 ·subst hl
  rw[zle]
  exact zsa fun b' cap' H' hm=>k b' cap' H' hm
 ·rw[zeB hl]
  exact ztL (h hl) h1 h2 k
end
theorem zr3 (s:List UInt8) (hs:s.length≤Lim):zj Tryz.prog 323 [.str s] za.emp (ztS s):=by
 refine zj.go ir323 ck323 (Al4 _) fun KP Q hQ=>?_
 have hs':=hs
 simp only[Lim] at hs'
 simp(disch:=first|omega|assumption) only[ir323,go_sem]
 refine yB (fun x:Nat×Nat×List (List UInt8)×Nat×Nat=>[(3,zrJ x.2.2.2.1 x.2.2.2.2 x.2.2.1),(4,.int .i64 x.2.1),(5,.int .i64 x.1)]) (fun x H'=>x.2.1≤x.1∧x.1≤s.length∧x.2.2.1.length≤x.1∧x.2.2.1++yO ((s.take x.1).drop x.2.1) (s.drop x.1)=yo s∧(x.2.2.1≠[]→MsT H' x.2.2.2.1 x.2.2.2.2 x.2.2.1)) (fun x=>s.length-x.1) (0,0,[],0,0) (by simp(disch:=first|omega|assumption) only[zle,go_sem]) ⟨Al4 _,Nat.zero_le _,Al4 _,by simp[yo],fun h=>absurd rfl h⟩ ?_
 rintro⟨i,fr,l,b,cap⟩ H1 J ⟨h1,h2,h3,h4,h5⟩ hJ
 simp only at h1 h2 h3 h4 h5
 by_cases hlt:i<s.length
 case neg =>
  obtain rfl:i=s.length:=by omega
  have hlt':¬ ((s.length:Int)<s.length):=by omega
  have hb1:((fr:Int)≤s.length)=True:=eq_true (by omega)
  rw[List.drop_length,List.take_length] at h4
  simp only[yO] at h4
  simp(disch:=first|omega|assumption) only[hlt',hb1,go_sem]
  refine zhn h5 (by omega) (by simp only[maxLen];omega) fun b' cap' H2 hm=>?_
  simp(disch:=first|omega|assumption) only[go_sem]
  exact hQ _ _ H2 H2 [_] nofun rfl (Low.refl _) ⟨b',cap',by rw[← h4];simp[zc,zd,AV.strip,AV.strip1],by rw[← h4];exact hm⟩
 have hlt':((i:Int)<s.length)=True:=eq_true (by omega)
 obtain⟨c,r,hd⟩:∃ c r,s.drop i=c::r:=by
  cases hx:s.drop i with
  | nil=>have:=congrArg List.length hx;simp at this;omega
  | cons c r=>exact⟨c,r,rfl⟩
 have hc:s.getD i 0=c:=by
  have:(s.drop i).getD 0 0=c:=by rw[hd];rfl
  simpa[List.getD_eq_getElem?_getD] using this
 have hr:s.drop (i+1)=r:=by rw[← List.drop_drop,hd];rfl
 have htk:s.take (i+1)=s.take i++[c]:=by
  rw[List.take_add,hd];rfl
 have hcur:((s.take (i+1)).drop fr)=(s.take i).drop fr++[c]:=by
  rw[htk,List.drop_append_of_le_length (by simp;omega)]
 rw[hd] at h4
 have hb1:((fr:Int)≤(i:Int))=True:=eq_true (by omega)
 have hne9:l++[(s.take i).drop fr]≠[]:=by simp
 have hb2:((i:Int)≤s.length)=True:=eq_true (by omega)
 by_cases e10:c=10
 case pos =>
  subst e10
  rw[zis] at h4
  have hcn:((10:UInt8).toNat:Int)=10:=rfl
  simp(disch:=first|omega|assumption) only[hlt',hc,hcn,hb1,hb2,go_sem]
  refine zhn h5 (by omega) (by simp only[maxLen];omega) fun b' cap' H2 hm=>?_
  simp(disch:=first|omega|assumption) only[hc,hcn,wrap64,go_sem]
  refine goJ (hJ (i+1,i+1,l++[(s.take i).drop fr],b',cap') H2 (by simp only;omega) ⟨Al4 _,by simp only;omega,by simp;omega,?_,fun _=>hm⟩) (by simp(disch:=first|omega|assumption) only[zeB hne9,Al5,Al2,Al3,Nat.zero_add,Int.natCast_add,go_sem])
  rw[hr]
  simpa using h4
 by_cases e13:c=13
 case neg =>
  rw[zeE (by simp[e10,e13])] at h4
  have c10:¬ ((c.toNat:Int)=10):=fun e=>e10 (UInt8.toNat_inj.1 (by simpa using (by omega:c.toNat=10)))
  have c13:¬ ((c.toNat:Int)=13):=fun e=>e13 (UInt8.toNat_inj.1 (by simpa using (by omega:c.toNat=13)))
  simp(disch:=first|omega|assumption) only[hlt',hc,c10,c13,wrap64,go_sem]
  refine goJ (hJ (i+1,fr,l,b,cap) H1 (by simp only;omega) ⟨by simp only;omega,by simp only;omega,by simp only;omega,?_,h5⟩) (by simp(disch:=first|omega|assumption) only[Int.natCast_add,go_sem])
  rw[hr,hcur];exact h4
 subst e13
 have hcn:((13:UInt8).toNat:Int)=13:=rfl
 by_cases h10:r.head?=some 10
 case neg =>
  rw[zio h10] at h4
  by_cases hi2:i+1<s.length
  case neg =>
   have hi2':¬ ((i:Int)+1<s.length):=by omega
   simp(disch:=first|omega|assumption) only[hlt',hc,hcn,hb1,hb2,go_sem]
   refine zhn h5 (by omega) (by simp only[maxLen];omega) fun b' cap' H2 hm=>?_
   simp(disch:=first|omega|assumption) only[hc,hcn,wrap64,hi2',go_sem]
   refine goJ (hJ (i+1,i+1,l++[(s.take i).drop fr],b',cap') H2 (by simp only;omega) ⟨Al4 _,by simp only;omega,by simp;omega,?_,fun _=>hm⟩) (by simp(disch:=first|omega|assumption) only[zeB hne9,Al5,Al2,Al3,Nat.zero_add,Int.natCast_add,go_sem])
   rw[hr]
   simpa using h4
  have hi2':((i:Int)+1<s.length)=True:=eq_true (by omega)
  obtain⟨e,r',hre⟩:∃ e r',r=e::r':=by
   cases r with
   | nil=>have:=congrArg List.length hr;simp at this;omega
   | cons e r'=>exact⟨e,r',rfl⟩
  have hge:s.getD (i+1) 0=e:=by
   have:(s.drop (i+1)).getD 0 0=e:=by rw[hr,hre];rfl
   simpa[List.getD_eq_getElem?_getD] using this
  have hne:e≠10:=by rw[hre] at h10;simpa using h10
  have hgn:¬ ((e.toNat:Int)=10):=fun x=>hne (UInt8.toNat_inj.1 (by simpa using (by omega:e.toNat=10)))
  have hg1:((i:Int)+1).toNat=i+1:=by omega
  simp(disch:=first|omega|assumption) only[hlt',hc,hcn,hb1,hb2,go_sem]
  refine zhn h5 (by omega) (by simp only[maxLen];omega) fun b' cap' H2 hm=>?_
  simp(disch:=first|omega|assumption) only[hc,hcn,wrap64,hi2',hg1,hge,hgn,go_sem]
  refine goJ (hJ (i+1,i+1,l++[(s.take i).drop fr],b',cap') H2 (by simp only;omega) ⟨Al4 _,by simp only;omega,by simp;omega,?_,fun _=>hm⟩) (by simp(disch:=first|omega|assumption) only[zeB hne9,Al5,Al2,Al3,Nat.zero_add,Int.natCast_add,go_sem])
  rw[hr]
  simpa using h4
 obtain⟨r',hre⟩:∃ r',r=10::r':=by
  cases r with
  | nil=>cases h10
  | cons e r'=>simp only[List.head?_cons,Al1] at h10;subst h10;exact⟨r',rfl⟩
 rw[hre,zhg] at h4
 have hi2:i+1<s.length:=by
  have:=congrArg List.length hr;rw[hre] at this;simp at this;omega
 have hi2':((i:Int)+1<s.length)=True:=eq_true (by omega)
 have hge:s.getD (i+1) 0=10:=by
  have:(s.drop (i+1)).getD 0 0=10:=by rw[hr,hre];rfl
  simpa[List.getD_eq_getElem?_getD] using this
 have hgn:((10:UInt8).toNat:Int)=10:=rfl
 have hg1:((i:Int)+1).toNat=i+1:=by omega
 have hr2:s.drop (i+1+1)=r':=by rw[← List.drop_drop,hr,hre];rfl
 simp(disch:=first|omega|assumption) only[hlt',hc,hcn,hb1,hb2,go_sem]
 refine zhn h5 (by omega) (by simp only[maxLen];omega) fun b' cap' H2 hm=>?_
 simp(disch:=first|omega|assumption) only[hc,hcn,wrap64,hi2',hg1,hge,hgn,go_sem]
 refine goJ (hJ (i+1+1,i+1+1,l++[(s.take i).drop fr],b',cap') H2 (by simp only;omega) ⟨Al4 _,by simp only;omega,by simp;omega,?_,fun _=>hm⟩) (by simp(disch:=first|omega|assumption) only[zeB hne9,Al5,Al2,Al3,Nat.zero_add,Int.natCast_add,go_sem])
 rw[hr2]
 simpa using h4
theorem zlh (c:UInt8):zhD c=true↔(c.toNat:Int)=9∨(c.toNat:Int)=32:=by
 simp only[zhD,Bool.or_eq_true,decide_eq_true_eq]
 constructor
 ·rintro(rfl|rfl)
  ·exact .inl rfl
  ·exact .inr rfl
 ·rintro(h|h)
  ·exact .inl (UInt8.toNat_inj.1 (by simpa using (by omega:c.toNat=9)))
  ·exact .inr (UInt8.toNat_inj.1 (by simpa using (by omega:c.toNat=32)))
theorem zn5 {a r:List UInt8} {c:UInt8} (ha:∀ x∈a,zhD x=true) (hc:zhD c=false):zaR (a++c::r)=a.length∧yQ (a++c::r)=false:=by
 refine⟨?_,?_⟩
 ·unfold zaR
  induction a with
  | nil=>simp[hc]
  | cons x a ih=>simp[ha x (.head _),ih fun y hy=>ha y (.tail _ hy)]
 ·simp[yQ,hc]
theorem zpu {a:List UInt8} (ha:∀ x∈a,zhD x=true):zaR a=a.length∧yQ a=true:=by
 have hb:yQ a=true:=List.all_eq_true.2 ha
 exact⟨zn1 hb,hb⟩
theorem zbl (s:List UInt8) (hs:s.length≤Lim):zq Tryz.prog 345 [.str s] (.tup [.int .i64 (zaR s),.bool (!yQ s)]):=by
 refine zq.go ir345 ck345 (Al4 _) fun KP Q hQ=>?_
 have hs':=hs
 simp only[Lim] at hs'
 simp(disch:=first|omega|assumption) only[ir345,go_sem]
 refine zx s 7 (fun _:AV=>[]) (fun done rest _ H'=>∀ x∈done,zhD x=true) (.int .i64 0) (by simp(disch:=first|omega|assumption) only[go_sem]) (fun x hx=>nomatch hx) ?_ ?_
 ·rintro y H1 J hdn hlt
  obtain⟨g1,g2⟩:=zpu hdn
  simp(disch:=first|omega|assumption) only[hlt,go_sem]
  exact hQ _ _ _ _ nofun rfl (by simp[zc,zd,AV.strip,AV.strip1,g1,g2])
 ·rintro done c rest y H1 J hd hlt hlt2 hdn hJ
  have hc:s.getD done.length 0=c:=by rw[hd];simp
  cases hb:zhD c with
  | false =>
   obtain⟨g1,g2⟩:=zn5 (r:=rest) hdn hb
   rw[← hd] at g1 g2
   have hn:¬ ((c.toNat:Int)=9∨(c.toNat:Int)=32):=fun h=>by rw[(zlh c).2 h] at hb;cases hb
   have n9:¬ ((c.toNat:Int)=9):=fun h=>hn (.inl h)
   have n32:¬ ((c.toNat:Int)=32):=fun h=>hn (.inr h)
   simp(disch:=first|omega|assumption) only[hlt,hc,n9,n32,go_sem]
   exact hQ _ _ _ _ nofun rfl (by simp[zc,zd,AV.strip,AV.strip1,g1,g2])
  | true =>
   have hall:∀ x∈done++[c],zhD x=true:=fun x hx=>by
    rcases List.mem_append.1 hx with h|h
    ·exact hdn x h
    ·simp at h;subst h;exact hb
   rcases(zlh c).1 hb with h9|h32
   ·simp(disch:=first|omega|assumption) only[hlt,hc,h9,wrap64,go_sem]
    exact goJ (hJ (.int .i64 0) _ hall) (by simp(disch:=first|omega|assumption) only[go_sem])
   ·have n9:¬ ((c.toNat:Int)=9):=by omega
    simp(disch:=first|omega|assumption) only[hlt,hc,n9,h32,wrap64,go_sem]
    exact goJ (hJ (.int .i64 0) _ hall) (by simp(disch:=first|omega|assumption) only[go_sem])
theorem zcH (s:List UInt8) (hs:s.length≤Lim):zq Tryz.prog 325 [.str s] (.bool (yQ s)):=by
 refine zq.go ir325 ck325 (Al4 _) fun KP Q hQ=>?_
 simp(disch:=first|omega|assumption) only[ir325,go_sem]
 refine zb (zbl s hs) ?_
 simp(disch:=first|omega|assumption) only[go_sem]
 exact hQ _ _ _ _ nofun rfl (by simp[zc,zd,AV.strip,AV.strip1])
theorem zk6 {l a:List (List UInt8)} {x:List UInt8} {b:List (List UInt8)} (h:l=a++x::b) (tl:List AV):((ZS l++tl).drop (0+a.length*1)).take 1=[.str x]:=by
 subst h;simp[ZS]
theorem znH {l a:List (List UInt8)} {x:List UInt8} {b:List (List UInt8)} (h:l=a++x::b) (tl:List AV):0+a.length*1+1≤(ZS l++tl).length:=by
 subst h;simp[ZS]
theorem zql {H:za} {b cap:Nat} {l:List (List UInt8)} (h:MsT H b cap l) (hx:∀ s∈l,s.length≤Lim) (hl:l.length≤Lim) :
  zj Tryz.prog 324 [.ms b 0 l.length cap] H (zrA fun v H'=>v=.int .i64 (indM l)∧H'=H):=by
 obtain⟨tl,hb,hc⟩:=h
 refine zj.go ir324 ck324 (Al4 _) fun KP Q hQ=>?_
 have hl':=hl
 simp only[Lim] at hl'
 simp(disch:=first|omega|assumption) only[ir324,go_sem]
 refine zx l 10 (fun n:Int=>[(3,.int .i64 n)]) (fun done rest n H'=>H'=H∧((done=[]∧n=-1)∨(done≠[]∧zdO rest n=indM l))) (-1) (by simp(disch:=first|omega|assumption) only[go_sem]) ⟨rfl,.inl ⟨rfl,rfl⟩⟩ ?_ ?_
 ·rintro n H1 J ⟨rfl,hi⟩ hlt
  have e:n=indM l:=by
   rcases hi with ⟨h1,h2⟩|⟨_,h2⟩
   ·subst h1;subst h2;rfl
   ·simpa[zdO] using h2
  simp(disch:=first|omega|assumption) only[hlt,go_sem]
  exact hQ _ _ _ _ [_] nofun rfl (Low.refl _) ⟨by simp[zc,zd,AV.strip,AV.strip1,e],rfl⟩
 ·rintro done x rest n H1 J hd hlt hlt2 ⟨rfl,hi⟩ hJ
  have hg:=zk6 hd tl
  have hle:=znH hd tl
  have hxl:=hx x (by rw[hd];simp)
  have hne:done++[x]≠[]:=by simp
  by_cases h0:done.length=0
  ·have h0':((done.length:Int)=0)=True:=eq_true (by omega)
   have hdn:=List.length_eq_zero_iff.1 h0
   have e1:n=-1:=by
    rcases hi with ⟨_,h2⟩|⟨h1,_⟩
    ·exact h2
    ·exact absurd hdn h1
   have e2:rest=l.tail:=by rw[hd,hdn];rfl
   simp(disch:=first|omega|assumption) only[hlt,hb,hg,hle,go_sem]
   refine zb (zbl x hxl) ?_
   simp(disch:=first|omega|assumption) only[h0',wrap64,go_sem]
   exact goJ (hJ n _ ⟨rfl,.inr ⟨hne,by rw[e1,e2];rfl⟩⟩) (by simp(disch:=first|omega|assumption) only[go_sem])
  have h0':¬ ((done.length:Int)=0):=by omega
  have e1:zdO (x::rest) n=indM l:=by
   rcases hi with ⟨h1,_⟩|⟨_,h2⟩
   ·rw[h1] at h0;exact absurd rfl h0
   ·exact h2
  simp only[zdO] at e1
  cases hbr:yQ x with
  | true =>
   rw[hbr,if_pos rfl] at e1
   simp(disch:=first|omega|assumption) only[hlt,hb,hg,hle,go_sem]
   refine zb (zbl x hxl) ?_
   simp(disch:=first|omega|assumption) only[h0',hbr,wrap64,go_sem]
   exact goJ (hJ n _ ⟨rfl,.inr ⟨hne,e1⟩⟩) (by simp(disch:=first|omega|assumption) only[go_sem])
  | false =>
   rw[hbr,if_neg (by decide)] at e1
   by_cases hn:n<0
   ·rw[if_pos (.inl hn)] at e1
    simp(disch:=first|omega|assumption) only[hlt,hb,hg,hle,go_sem]
    refine zb (zbl x hxl) ?_
    simp(disch:=first|omega|assumption) only[h0',hbr,hn,wrap64,go_sem]
    exact goJ (hJ (zaR x) _ ⟨rfl,.inr ⟨hne,e1⟩⟩) (by simp(disch:=first|omega|assumption) only[go_sem])
   ·by_cases hn2:(zaR x:Int)<n
    ·rw[if_pos (.inr hn2)] at e1
     simp(disch:=first|omega|assumption) only[hlt,hb,hg,hle,go_sem]
     refine zb (zbl x hxl) ?_
     simp(disch:=first|omega|assumption) only[h0',hbr,hn,hn2,wrap64,go_sem]
     exact goJ (hJ (zaR x) _ ⟨rfl,.inr ⟨hne,e1⟩⟩) (by simp(disch:=first|omega|assumption) only[go_sem])
    ·rw[if_neg (by rintro(h|h)<;>contradiction)] at e1
     simp(disch:=first|omega|assumption) only[hlt,hb,hg,hle,go_sem]
     refine zb (zbl x hxl) ?_
     simp(disch:=first|omega|assumption) only[h0',hbr,hn,hn2,wrap64,go_sem]
     exact goJ (hJ n _ ⟨rfl,.inr ⟨hne,e1⟩⟩) (by simp(disch:=first|omega|assumption) only[go_sem])
theorem zkA (s cur:List UInt8):yO cur s≠[]:=by
 cases s with
 | nil=>simp[yO]
 | cons c s =>
  by_cases h:c=10∨c=13
  ·rcases h with rfl|rfl
   ·rw[zis];simp
   ·by_cases h10:s.head?=some 10
    ·cases s with
     | nil=>cases h10
     | cons d s=>simp only[List.head?_cons,Al1] at h10;subst h10;rw[zhg];simp
    ·rw[zio h10];simp
  ·rw[zeE h];exact zkA s _
termination_by s.length
theorem zdf:∀(s cur:List UInt8),((yO cur s).map fun x=>x.length+1).sum≤cur.length+s.length+1
 | [],cur=>by simp[yO]
 | [c],cur=>by simp only[yO];split<;>simp
 | c::d::r,cur=>by
  have h1:=zdf (d::r)
  have h2:=zdf r
  simp only[yO]
  repeat' split
  all_goals simp only[Al2,List.map_cons,List.sum_cons] at h1 ⊢
  ·have:=h1 [];simp only[Al3] at this;omega
  ·have:=h2 [];simp only[Al3] at this;omega
  ·have:=h1 [];simp only[Al3] at this;omega
  ·have:=h1 (cur++[c]);simp only[Al5,Al2,Al3] at this;omega
termination_by s=>s.length
theorem zry {l:List (List UInt8)} {x:List UInt8} (h:x∈l):x.length+1≤(l.map fun x=>x.length+1).sum:=by
 obtain⟨a,b,rfl⟩:=List.append_of_mem h
 simp;omega
end Go.Proofs.YticbbfbpeimkbaaGreatDoor
