/- Texts joined: Rp5 Rp6 Quo3 Jo Code Good Qr Deci Qr2 Qr3 Qr4 Tm Tp Tq Tp2 Tr Ts Tt Tp3 Wa Tw Tw2. -/
import Derived.Lib.ValidLaws
import Derived.Lib.ItoaLen
import Derived.Lib.Join
import Derived.Lib.DecodeN
import Derived.Lib.TrimUEq
import Derived.Shelf.Strings.OnBuilder
import Derived.Test.YticbbfbpeimkbaaGreatDoorM1
import Derived.Test.YticbbfbpeimkbaaGreatDoorM2
import Derived.Test.YticbbfbpeimkbaaGreatDoorM3
import Derived.Test.YticbbfbpeimkbaaGreatDoorM4
import Derived.Test.YticbbfbpeimkbaaGreatDoorM5
set_option maxRecDepth 100000
set_option linter.unusedSimpArgs false
set_option linter.unusedVariables false
namespace Go.Proofs.YticbbfbpeimkbaaGreatDoor
open Go.Ab
def notOnP (t:TS):PR (List UInt8):=if isW [111,110] t then .error 2 else nameP t
theorem notOnPC {H:Heap} {r:Nat} {L p t:TS} (hs:p++t=L) (hl:wT L≤LimP) (hr:H r=some (prc L p (16-16))) :
  ACalls Tryz.prog 251 [.ptr r 0] H (RpE H r L (16-16) (notOnP t) AV.str):=by
 refine retStrip (ACalls.goO (R:=fun v H'=>RetQ H r L (16-16) (notOnP t) AV.str v.strip H') (RP:=fun v H'=>PanQ (notOnP t) v H') ir251 ck251 (Nat.le_refl _) fun KP Q hQ hP=>?_)
 have hll:L.length≤LimP:=Nat.le_trans (len_w L) hl
 have hll2:=hll
 simp only [LimP] at hll2
 have pan:∀ (v:AV) (H1:Heap) (n:Int),v=stopP n→(notOnP t)=.error n→KP v H1:=fun v H1 n h1 h2=>hP v H1 H1 (Low.refl _) ⟨n,h2,h1⟩
 have fin:=KI.done hQ
 have K0:=KI.start hs hr
 simp (disch:=first|omega|assumption) only [ir251,go_sem,↓reduceIte]
 refine goK_ret (isWC (dp:=16-16) hs hr [111,110]) fun v H2 ⟨hv2,hH⟩=>?_
 subst hv2;subst hH
 cases hw:isW [111,110] t with
 | true =>
  simp (disch:=first|omega|assumption) only [go_sem,↓reduceIte]
  exact goK_both (failP _ r 2) (fun _ _ h=>h.elim) fun v H3 h=>pan v H3 2 h (by rw [notOnP,hw];rfl)
 | false =>
  simp (disch:=first|omega|assumption) only [go_sem,↓reduceIte]
  refine goK_both (namePC (dp:=16-16) hs hll hr) (fun v H3 ⟨s,t3,e3,hv3,ha3⟩=>?_) fun v H3 ⟨n,e3,hv3⟩=>pan v H3 n hv3 (by rw [notOnP,hw];exact e3)
  subst hv3
  simp (disch:=first|omega|assumption) only [go_sem,↓reduceIte]
  exact fin _ _ [.str s] s t3 (by simp (disch:=first|omega|assumption) only [ir251,resvs,resv,go_sem,↓reduceIte]) (by rw [notOnP,hw];exact e3) (K0.call ha3) (by simp [tupOf,AV.strip,AV.strip1])
abbrev zW:List AV:=[.str [],.str [],.int .i64 0,.int .i64 0,.bool false,.int .i64 0,.int .i64 0,.str [],.sl .nil 5 [],.sl .nil 6 []]
theorem varDefPC {H:Heap} {r:Nat} {L p t:TS} (hs:p++t=L) (hl:wT L≤LimP) (hr:H r=some (prc L p (16-16))) :
  ACalls Tryz.prog 249 [.ptr r 0] H (RpE H r L (16-16) (varP t) (fun x=>.agg (cW x))):=by
 refine retStrip (ACalls.goO (R:=fun v H'=>RetQ H r L (16-16) (varP t) (fun x=>.agg (cW x)) v.strip H') (RP:=fun v H'=>PanQ (varP t) v H') ir249 ck249 (Nat.le_refl _) fun KP Q hQ hP=>?_)
 have hll:L.length≤LimP:=Nat.le_trans (len_w L) hl
 have hll2:=hll
 simp only [LimP] at hll2
 have pan:∀ (v:AV) (H1:Heap) (n:Int),v=stopP n→(varP t)=.error n→KP v H1:=fun v H1 n h1 h2=>hP v H1 H1 (Low.refl _) ⟨n,h2,h1⟩
 have fin:=KI.done hQ
 have K0:=KI.start hs hr
 have hx:varP t=pb (mustP [36] t) fun _ t=>pb (nameP t) fun s t=>pb (mustP [58] t) fun _ t=>pb (typP 4 t) fun ty t =>
  if isP [61] t then pb (valP true 16 t.tail) fun v t=>.ok (⟨s,ty,true,v⟩,t) else .ok (⟨s,ty,false,zV⟩,t):=rfl
 simp (disch:=first|omega|assumption) only [ir249,go_sem,↓reduceIte]
 refine goA_intro fun b2 hb2=>?_
 have n2:=K0.ne hb2
 have n2s:=Ne.symm n2
 have K1:=K0.box (x:=.cells zW) hb2
 obtain ⟨p1,hp1,hr1⟩:=K1.here
 simp only [zW] at K1 hr1
 simp (disch:=first|omega|assumption) only [go_sem,↓reduceIte]
 refine goK_both (mustPC (dp:=16-16) hp1 hll hr1 [36]) (fun v H2 ⟨_,t2,e2,hv2,ha2⟩=>?_) fun v H2 ⟨n,e2,hv2⟩=>pan v H2 n hv2 (by rw [hx,e2];rfl)
 subst hv2
 rw [e2,pb_ok] at hx
 have K2:=K1.call ha2
 have g2:H2 b2=some (.cells zW):=by rw [ha2.other n2s,upd_same]
 obtain ⟨p2,hp2,hr2⟩:=K2.here
 simp (disch:=first|omega|assumption) only [go_sem,↓reduceIte]
 refine goK_both (namePC (dp:=16-16) hp2 hll hr2) (fun v H3 ⟨s,t3,e3,hv3,ha3⟩=>?_) fun v H3 ⟨n,e3,hv3⟩=>pan v H3 n hv3 (by rw [hx,e3];rfl)
 subst hv3
 rw [e3,pb_ok] at hx
 have K3:=K2.call ha3
 have g32:H3 b2=some (.cells zW):=by rw [ha3.other n2s,g2]
 simp (disch:=first|omega|assumption) only [go_sem,↓reduceIte]
 refine goA_intro fun b3 hb3=>?_
 have h32:b3≠b2:=fun e=>by subst e;rw [g32] at hb3;cases hb3
 have hb3H:H b3=none:=K3.none hb3
 have n3:=K0.ne hb3H
 have n3s:=Ne.symm n3
 have K4:=K3.box (x:=.cells [.str s,.str [],.int .i64 0,.int .i64 0,.bool false,.int .i64 0,.int .i64 0,.str [],.sl .nil 5 [],.sl .nil 6 []]) hb3H
 obtain ⟨p4,hp4,hr4⟩:=K4.here
 simp (disch:=first|omega|assumption) only [go_sem,↓reduceIte]
 refine goK_both (mustPC (dp:=16-16) hp4 hll hr4 [58]) (fun v H5 ⟨_,t5,e5,hv5,ha5⟩=>?_) fun v H5 ⟨n,e5,hv5⟩=>pan v H5 n hv5 (by rw [hx,e5];rfl)
 subst hv5
 rw [e5,pb_ok] at hx
 have K5:=K4.call ha5
 have g53:H5 b3=some (.cells [.str s,.str [],.int .i64 0,.int .i64 0,.bool false,.int .i64 0,.int .i64 0,.str [],.sl .nil 5 [],.sl .nil 6 []]):=by rw [ha5.other n3s,upd_same]
 have g52:H5 b2=some (.cells zW):=by rw [ha5.other n2s,upd_ne (Ne.symm h32),g32]
 obtain ⟨p5,hp5,hr5⟩:=K5.here
 simp (disch:=first|omega|assumption) only [go_sem,↓reduceIte]
 refine goK_both (typePC hp5 hl hr5) (fun v H6 ⟨ty,t6,e6,hv6,ha6⟩=>?_) fun v H6 ⟨n,e6,hv6⟩=>pan v H6 n hv6 (by rw [hx,e6];rfl)
 subst hv6
 rw [e6,pb_ok] at hx
 have K6:=K5.call ha6
 have g63:H6 b3=some (.cells [.str s,.str [],.int .i64 0,.int .i64 0,.bool false,.int .i64 0,.int .i64 0,.str [],.sl .nil 5 [],.sl .nil 6 []]):=by rw [ha6.other n3s,g53]
 have g62:H6 b2=some (.cells zW):=by rw [ha6.other n2s,g52]
 simp (disch:=first|omega|assumption) only [cTy,g63,go_sem,↓reduceIte]
 have K7:=K6.box (x:=.cells [.str s,.str ty.nm,.int .i64 ty.lists,.int .i64 ty.musts,.bool false,.int .i64 0,.int .i64 0,.str [],.sl .nil 5 [],.sl .nil 6 []]) hb3H
 obtain ⟨p7,hp7,hr7⟩:=K7.here
 refine goK_ret (mayPC (dp:=16-16) hp7 hll hr7 [61]) fun v H8 ⟨hv8,ha8⟩=>?_
 subst hv8
 have K8:=K7.call ha8
 have g83:H8 b3=some (.cells [.str s,.str ty.nm,.int .i64 ty.lists,.int .i64 ty.musts,.bool false,.int .i64 0,.int .i64 0,.str [],.sl .nil 5 [],.sl .nil 6 []]):=by rw [ha8.other n3s,upd_same]
 have g82:H8 b2=some (.cells zW):=by rw [ha8.other n2s,upd_ne (Ne.symm h32),g62]
 unfold mayT at K8
 obtain ⟨p8,hp8,hr8⟩:=K8.here
 cases hi:isP [61] t6 with
 | true =>
  rw [hi] at hx K8 hp8
  simp only [if_true] at hx K8 hp8
  simp (disch:=first|omega|assumption) only [go_sem,↓reduceIte]
  refine goK_both (valuePall true 16 (Nat.le_refl _) _ r L p8 t6.tail hp8 hl hr8) (fun v H9 ⟨x,t9,e9,hv9,ha9⟩=>?_) fun v H9 ⟨n,e9,hv9⟩=>pan v H9 n hv9 (by rw [hx,e9];rfl)
  subst hv9
  rw [e9,pb_ok] at hx
  have K9:=K8.call ha9
  have g93:H9 b3=some (.cells [.str s,.str ty.nm,.int .i64 ty.lists,.int .i64 ty.musts,.bool false,.int .i64 0,.int .i64 0,.str [],.sl .nil 5 [],.sl .nil 6 []]):=by rw [ha9.other n3s,g83]
  have g92:H9 b2=some (.cells zW):=by rw [ha9.other n2s,g82]
  simp only [zW] at g92
  simp (disch:=first|omega|assumption) only [cV_len,cV_take,cV_splice,cM_len,cM_take,cM_splice,cM_mk,g93,g92,h32,Ne.symm h32,go_sem,↓reduceIte]
  refine fin _ _ [.agg (cW ⟨s,ty,true,x⟩)] _ _ (by simp (disch:=first|omega|assumption) only [cV_len,cV_take,cV_splice,cM_len,cM_take,cM_splice,cM_mk,ir249,resvs,resv,cW_mk,go_sem,↓reduceIte]) hx ((K9.box hb3H).box hb2) (by simp [tupOf,AV.strip,cW_strip])
 | false =>
  rw [hi] at hx K8 hp8
  simp only [Bool.false_eq_true,if_false] at hx K8 hp8
  simp only [zW] at g82
  simp (disch:=first|omega|assumption) only [g83,g82,h32,Ne.symm h32,go_sem,↓reduceIte]
  exact fin _ _ [.agg [.str s,.str ty.nm,.int .i64 ty.lists,.int .i64 ty.musts,.bool false,.int .i64 0,.int .i64 0,.str [],.sl .nil 5 [],.sl .nil 6 []]] _ _ (by simp (disch:=first|omega|assumption) only [ir249,resvs,resv,go_sem,↓reduceIte]) hx (K8.box hb2) (by simp [tupOf,AV.strip,AV.strip1,cW_mk,cV,cVs,cMs,zV])
abbrev zO:List AV:=[.int .i64 0,.str [],.sl .nil 10 [],.sl .nil 2 [],.sl .nil 7 []]
theorem opPC (kind:Int) {H:Heap} {r:Nat} {L p t:TS} (hs:p++t=L) (hl:wT L≤LimP) (hr:H r=some (prc L p (16-16))) :
  ACalls Tryz.prog 164 [.ptr r 0,.int .i64 kind] H (RpE H r L (16-16) (opP kind t) (fun x=>.agg (cO x))):=by
 refine retStrip (ACalls.goO (R:=fun v H'=>RetQ H r L (16-16) (opP kind t) (fun x=>.agg (cO x)) v.strip H') (RP:=fun v H'=>PanQ (opP kind t) v H') ir164 ck164 (Nat.le_refl _) fun KP Q hQ hP=>?_)
 have hll:L.length≤LimP:=Nat.le_trans (len_w L) hl
 have hll2:=hll
 simp only [LimP] at hll2
 have pan:∀ (v:AV) (H1:Heap) (n:Int),v=stopP n→(opP kind t)=.error n→KP v H1:=fun v H1 n h1 h2=>hP v H1 H1 (Low.refl _) ⟨n,h2,h1⟩
 have fin:=KI.done hQ
 have K0:=KI.start hs hr
 have hx:opP kind t=pb (if (hdT t).k=2 then nameP t else .ok ([],t)) fun s t=>pb (if isP [40] t then many1P [41] varP t.tail else .ok ([],t)) fun vs t =>
  pb (dirsP true 16 t) fun d t=>pb (selsP 16 t) fun l t=>.ok (⟨kind,s,vs,d,l⟩,t):=rfl
 simp (disch:=first|omega|assumption) only [ir164,go_sem,↓reduceIte]
 refine goA_intro fun b4 hb4=>?_
 have n4:=K0.ne hb4
 have n4s:=Ne.symm n4
 have K1:=K0.box (x:=.cells zO) hb4
 simp (disch:=first|omega|assumption) only [go_sem,↓reduceIte]
 refine goA_intro fun b5 hb5=>?_
 have h54:b5≠b4:=fun e=>by subst e;rw [upd_same] at hb5;cases hb5
 have hb5H:H b5=none:=by rw [upd_ne h54] at hb5;exact hb5
 have n5:=K0.ne hb5H
 have n5s:=Ne.symm n5
 have K2:=K1.box (x:=.cells [.int .i64 kind,.str [],.sl .nil 10 [],.sl .nil 2 [],.sl .nil 7 []]) hb5H
 simp only [zO] at K2
 obtain ⟨p2,hp2,hr2⟩:=K2.here
 have g25:((H.upd b4 (.cells zO)).upd b5 (.cells [.int .i64 kind,.str [],.sl .nil 10 [],.sl .nil 2 [],.sl .nil 7 []])) b5=some (.cells [.int .i64 kind,.str [],.sl .nil 10 [],.sl .nil 2 [],.sl .nil 7 []]):=upd_same ..
 have g24:((H.upd b4 (.cells zO)).upd b5 (.cells [.int .i64 kind,.str [],.sl .nil 10 [],.sl .nil 2 [],.sl .nil 7 []])) b4=some (.cells zO):=by rw [upd_ne (Ne.symm h54),upd_same]
 simp only [zO] at g25 g24
 simp (disch:=first|omega|assumption) only [go_sem,↓reduceIte]
 generalize hHa:Heap.upd (Heap.upd H b4 _) b5 _=Ha at *
 refine goK_ret (nextP (dp:=16-16) hp2 hr2) fun v H3 ⟨hv3,hH⟩=>?_
 subst hv3;subst hH
 by_cases hk2:(hdT t).k=2
 ·have hk2':((hdT t).k=2)=True:=eq_true hk2
  rw [if_pos hk2] at hx
  simp (disch:=first|omega|assumption) only [tokA,hk2',go_sem,↓reduceIte]
  refine goK_both (namePC (dp:=16-16) hp2 hll hr2) (fun v H3 ⟨s,t3,e3,hv3,ha3⟩=>?_) fun v H3 ⟨n,e3,hv3⟩=>pan v H3 n hv3 (by rw [hx,e3];rfl)
  subst hv3
  rw [e3,pb_ok] at hx
  have g35:H3 b5=some (.cells [.int .i64 kind,.str [],.sl .nil 10 [],.sl .nil 2 [],.sl .nil 7 []]):=by rw [ha3.other n5s,g25]
  have g34:H3 b4=some (.cells zO):=by rw [ha3.other n4s,g24]
  have K3:=(K2.call ha3).box (x:=.cells [.int .i64 kind,.str s,.sl .nil 10 [],.sl .nil 2 [],.sl .nil 7 []]) hb5H
  obtain ⟨p3,hp3,hr3⟩:=K3.here
  simp (disch:=first|omega|assumption) only [g35,go_sem,↓reduceIte]
  refine goK_ret (mayPC (dp:=16-16) hp3 hll hr3 [40]) fun v H4 ⟨hv4,ha4⟩=>?_
  subst hv4
  have K4:=K3.call ha4
  have g45:H4 b5=some (.cells [.int .i64 kind,.str s,.sl .nil 10 [],.sl .nil 2 [],.sl .nil 7 []]):=by rw [ha4.other n5s];(exact upd_same ..)
  have g44:H4 b4=some (.cells zO):=by rw [ha4.other n4s];(rw [upd_ne (Ne.symm h54)];exact g34)
  unfold mayT at K4
  obtain ⟨p4,hp4,hr4⟩:=K4.here
  cases hi:isP [40] t3 with
  | false =>
   rw [hi] at hx K4 hp4
   simp only [Bool.false_eq_true,if_false,pb_ok] at hx K4 hp4
   simp (disch:=first|omega|assumption) only [go_sem,↓reduceIte]
   refine goK_both (dirsPC (Nat.le_refl _) hp4 hl hr4) (fun v H8 ⟨d,t8,e8,hv8,ha8⟩=>?_) fun v H8 ⟨n,e8,hv8⟩=>pan v H8 n hv8 (by rw [hx,e8];rfl)
   subst hv8
   rw [e8,pb_ok] at hx
   have K8:=K4.call ha8
   have g85:H8 b5=some (.cells [.int .i64 kind,.str s,(.sl .nil 10 []),.sl .nil 2 [],.sl .nil 7 []]):=by rw [ha8.other n5s,g45]
   have g84:H8 b4=some (.cells zO):=by rw [ha8.other n4s,g44]
   simp (disch:=first|omega|assumption) only [g85,go_sem,↓reduceIte]
   have K9:=K8.box (x:=.cells [.int .i64 kind,.str s,(.sl .nil 10 []),.sl .no 2 (cDs d),.sl .nil 7 []]) hb5H
   obtain ⟨p9,hp9,hr9⟩:=K9.here
   refine goK_both (selsPall 16 (Nat.le_refl _) _ r L p9 t8 hp9 hl hr9) (fun v HA ⟨ss,tA,eA,hvA,haA⟩=>?_) fun v HA ⟨n,eA,hvA⟩=>pan v HA n hvA (by rw [hx,eA];rfl)
   subst hvA
   rw [eA,pb_ok] at hx
   have KA:=K9.call haA
   have gA5:HA b5=some (.cells [.int .i64 kind,.str s,(.sl .nil 10 []),.sl .no 2 (cDs d),.sl .nil 7 []]):=by rw [haA.other n5s,upd_same]
   have gA4:HA b4=some (.cells zO):=by rw [haA.other n4s,upd_ne (Ne.symm h54),g84]
   simp only [zO] at gA4
   simp (disch:=first|omega|assumption) only [gA5,gA4,h54,Ne.symm h54,go_sem,↓reduceIte]
   exact fin _ _ [.agg [.int .i64 kind,.str s,(.sl .nil 10 []),.sl .no 2 (cDs d),.sl .no 7 (cSs ss)]] _ _ (by simp (disch:=first|omega|assumption) only [ir164,resvs,resv,go_sem,↓reduceIte]) hx ((KA.box hb5H).box hb4) (by simp [tupOf,AV.strip,AV.strip1,cO,cWs])
  | true =>
   rw [hi] at hx K4 hp4
   simp only [if_true] at hx K4 hp4
   have hm1:many1P [41] varP t3.tail=pb (varP t3.tail) fun x t=>manyP [41] varP (t.length+1) [x] t:=rfl
   rw [hm1] at hx
   have hsl:=suf_len hp4
   simp (disch:=first|omega|assumption) only [g45,go_sem,↓reduceIte]
   refine goK_both (varDefPC hp4 hl hr4) (fun v H5 ⟨x1,t5,e5,hv5,ha5⟩=>?_) fun v H5 ⟨n,e5,hv5⟩=>pan v H5 n hv5 (by rw [hx,e5];rfl)
   subst hv5
   rw [e5,pb_ok] at hx
   have hlt1:=varP_fit.lt (by decide) _ _ _ e5
   have K5:=K4.call ha5
   have g55:H5 b5=some (.cells [.int .i64 kind,.str s,.sl .nil 10 [],.sl .nil 2 [],.sl .nil 7 []]):=by rw [ha5.other n5s,g45]
   have g54:H5 b4=some (.cells zO):=by rw [ha5.other n4s,g44]
   obtain ⟨R,hR⟩:∃ R,manyP [41] varP (t5.length+1) [x1] t5=R:=⟨_,rfl⟩
   rw [hR] at hx
   have KO5:KO H r L t5 (16-16) H5 .nil 0 10:=⟨K5,rfl,nofun⟩
   simp (disch:=first|omega|assumption) only [g55,cW_len,cW_take,go_sem,↓reduceIte]
   refine goP_ownS (Owned.nil _ _) (by simp) (by simp [maxLen]) fun o6 H6 hs6=>?_
   have K6:=KO5.app (by simpa using hs6)
   have g65:=KO5.stay hs6 g55
   have g64:=KO5.stay hs6 g54
   simp (disch:=first|omega|assumption) only [g65,cW_len,cW_take,go_sem,↓reduceIte]
   refine goL_st (fun x:Own × List VarD × TS=>[]) (fun x H'=>KO H r L x.2.2 (16-16) H' x.1 x.2.1.length 10∧H' b5=some (.cells [.int .i64 kind,.str s,.sl x.1 10 (cWs x.2.1),.sl .nil 2 [],.sl .nil 7 []])∧H' b4=some (.cells zO)∧(∃ m,x.2.2.length<m∧manyP [41] varP m x.2.1 x.2.2=R)∧x.2.1.length+x.2.2.length≤L.length) (fun x=>x.2.2.length) (o6,[x1],t5) (by simp (disch:=first|omega|assumption) only [go_sem,↓reduceIte]) ⟨by simpa using K6.box hb5H g65,by rw [upd_same];simp [cWs,cW_strip],by rw [upd_ne (Ne.symm h54)];exact g64,⟨_,Nat.lt_succ_self _,hR⟩,by simp only [List.length_singleton];omega⟩ ?_
   rintro ⟨o,l,u⟩ H7 J ⟨K7,g75,g74,⟨m,hm,hR3⟩,hlen⟩ hJ
   simp only at K7 g75 g74 hm hR3 hlen
   obtain ⟨m,rfl⟩:∃ j,m=j+1:=⟨m-1,by omega⟩
   obtain ⟨p7,hp7,hr7⟩:=K7.here
   have hcl:=cWs_len l
   simp (disch:=first|omega|assumption) only [go_sem,↓reduceIte]
   refine goK_ret (mayPC (dp:=16-16) hp7 hll hr7 [41]) fun v H8 ⟨hv8,ha8⟩=>?_
   subst hv8
   have g85:H8 b5=some (.cells [.int .i64 kind,.str s,.sl o 10 (cWs l),.sl .nil 2 [],.sl .nil 7 []]):=by rw [ha8.other n5s,g75]
   have g84:H8 b4=some (.cells zO):=by rw [ha8.other n4s,g74]
   cases hj:isP [41] u with
   | true =>
    rw [mayT,hj,if_pos rfl] at ha8
    have K8:=K7.toKI.call ha8
    obtain ⟨p8,hp8,hr8⟩:=K8.here
    have e1:R=.ok (l,u.tail):=by rw [← hR3,manyP,hj];rfl
    rw [e1,pb_ok] at hx
    simp (disch:=first|omega|assumption) only [go_sem,↓reduceIte]
    refine goK_both (dirsPC (Nat.le_refl _) hp8 hl hr8) (fun v HB ⟨d,t8,e8,hv8,ha8⟩=>?_) fun v HB ⟨n,e8,hv8⟩=>pan v HB n hv8 (by rw [hx,e8];rfl)
    subst hv8
    rw [e8,pb_ok] at hx
    have KB:=K8.call ha8
    have gB5:HB b5=some (.cells [.int .i64 kind,.str s,(.sl o 10 (cWs l)),.sl .nil 2 [],.sl .nil 7 []]):=by rw [ha8.other n5s,g85]
    have gB4:HB b4=some (.cells zO):=by rw [ha8.other n4s,g84]
    simp (disch:=first|omega|assumption) only [gB5,go_sem,↓reduceIte]
    have K9:=KB.box (x:=.cells [.int .i64 kind,.str s,(.sl o 10 (cWs l)),.sl .no 2 (cDs d),.sl .nil 7 []]) hb5H
    obtain ⟨p9,hp9,hr9⟩:=K9.here
    refine goK_both (selsPall 16 (Nat.le_refl _) _ r L p9 t8 hp9 hl hr9) (fun v HA ⟨ss,tA,eA,hvA,haA⟩=>?_) fun v HA ⟨n,eA,hvA⟩=>pan v HA n hvA (by rw [hx,eA];rfl)
    subst hvA
    rw [eA,pb_ok] at hx
    have KA:=K9.call haA
    have gA5:HA b5=some (.cells [.int .i64 kind,.str s,(.sl o 10 (cWs l)),.sl .no 2 (cDs d),.sl .nil 7 []]):=by rw [haA.other n5s,upd_same]
    have gA4:HA b4=some (.cells zO):=by rw [haA.other n4s,upd_ne (Ne.symm h54),gB4]
    simp only [zO] at gA4
    simp (disch:=first|omega|assumption) only [gA5,gA4,h54,Ne.symm h54,go_sem,↓reduceIte]
    exact fin _ _ [.agg [.int .i64 kind,.str s,(.sl o 10 (cWs l)),.sl .no 2 (cDs d),.sl .no 7 (cSs ss)]] _ _ (by simp (disch:=first|omega|assumption) only [ir164,resvs,resv,go_sem,↓reduceIte]) hx ((KA.box hb5H).box hb4) (by simp [tupOf,AV.strip,AV.strip1,cO,cWs])
   | false =>
    rw [mayT,hj] at ha8
    have K8:=K7.call (by simpa using ha8)
    obtain ⟨p8,hp8,hr8⟩:=K8.here
    rw [manyP,hj] at hR3
    simp only [Bool.false_eq_true,if_false] at hR3
    simp (disch:=first|omega|assumption) only [g85,go_sem,↓reduceIte]
    refine goK_both (varDefPC hp8 hl hr8) (fun v H9 ⟨x,t9,e9,hv9,ha9⟩=>?_) fun v H9 ⟨n9,e9,hv9⟩=>pan v H9 n9 hv9 (by rw [hx,← hR3,e9];rfl)
    subst hv9
    rw [e9,pb_ok] at hR3
    have hlt:=varP_fit.lt (by decide) _ _ _ e9
    have K9:=K8.call ha9
    have g95:H9 b5=some (.cells [.int .i64 kind,.str s,.sl o 10 (cWs l),.sl .nil 2 [],.sl .nil 7 []]):=by rw [ha9.other n5s,g85]
    have g94:H9 b4=some (.cells zO):=by rw [ha9.other n4s,g84]
    simp (disch:=first|omega|assumption) only [g95,cW_len,cW_take,go_sem,↓reduceIte]
    refine goP_ownS (by rw [hcl];exact K9.own) (by simp only [hcl,List.length_cons,List.length_nil];omega) (by simp only [hcl,List.length_cons,List.length_nil,maxLen];omega) fun oA HA hsA=>?_
    have KA:=K9.app (by simpa [hcl] using hsA)
    have gA5:=K9.stay hsA g95
    have gA4:=K9.stay hsA g94
    simp (disch:=first|omega|assumption) only [gA5,cW_len,cW_take,go_sem,↓reduceIte]
    refine goJ (hJ (oA,l++[x],t9) _ (by simp only;omega) ⟨by simpa using KA.box hb5H gA5,by rw [upd_same];simp [cWs,cW_strip],by rw [upd_ne (Ne.symm h54)];exact gA4,⟨m,by simp only;omega,hR3⟩,by simp only [List.length_append,List.length_cons,List.length_nil];omega⟩) (by simp (disch:=first|omega|assumption) only [go_sem,↓reduceIte])
 ·rw [if_neg hk2,pb_ok] at hx
  simp (disch:=first|omega|assumption) only [tokA,hk2,go_sem,↓reduceIte]
  refine goK_ret (mayPC (dp:=16-16) hp2 hll hr2 [40]) fun v H4 ⟨hv4,ha4⟩=>?_
  subst hv4
  have K4:=K2.call ha4
  have g45:H4 b5=some (.cells [.int .i64 kind,.str [],.sl .nil 10 [],.sl .nil 2 [],.sl .nil 7 []]):=by rw [ha4.other n5s];(exact g25)
  have g44:H4 b4=some (.cells zO):=by rw [ha4.other n4s];(exact g24)
  unfold mayT at K4
  obtain ⟨p4,hp4,hr4⟩:=K4.here
  cases hi:isP [40] t with
  | false =>
   rw [hi] at hx K4 hp4
   simp only [Bool.false_eq_true,if_false,pb_ok] at hx K4 hp4
   simp (disch:=first|omega|assumption) only [go_sem,↓reduceIte]
   refine goK_both (dirsPC (Nat.le_refl _) hp4 hl hr4) (fun v H8 ⟨d,t8,e8,hv8,ha8⟩=>?_) fun v H8 ⟨n,e8,hv8⟩=>pan v H8 n hv8 (by rw [hx,e8];rfl)
   subst hv8
   rw [e8,pb_ok] at hx
   have K8:=K4.call ha8
   have g85:H8 b5=some (.cells [.int .i64 kind,.str [],(.sl .nil 10 []),.sl .nil 2 [],.sl .nil 7 []]):=by rw [ha8.other n5s,g45]
   have g84:H8 b4=some (.cells zO):=by rw [ha8.other n4s,g44]
   simp (disch:=first|omega|assumption) only [g85,go_sem,↓reduceIte]
   have K9:=K8.box (x:=.cells [.int .i64 kind,.str [],(.sl .nil 10 []),.sl .no 2 (cDs d),.sl .nil 7 []]) hb5H
   obtain ⟨p9,hp9,hr9⟩:=K9.here
   refine goK_both (selsPall 16 (Nat.le_refl _) _ r L p9 t8 hp9 hl hr9) (fun v HA ⟨ss,tA,eA,hvA,haA⟩=>?_) fun v HA ⟨n,eA,hvA⟩=>pan v HA n hvA (by rw [hx,eA];rfl)
   subst hvA
   rw [eA,pb_ok] at hx
   have KA:=K9.call haA
   have gA5:HA b5=some (.cells [.int .i64 kind,.str [],(.sl .nil 10 []),.sl .no 2 (cDs d),.sl .nil 7 []]):=by rw [haA.other n5s,upd_same]
   have gA4:HA b4=some (.cells zO):=by rw [haA.other n4s,upd_ne (Ne.symm h54),g84]
   simp only [zO] at gA4
   simp (disch:=first|omega|assumption) only [gA5,gA4,h54,Ne.symm h54,go_sem,↓reduceIte]
   exact fin _ _ [.agg [.int .i64 kind,.str [],(.sl .nil 10 []),.sl .no 2 (cDs d),.sl .no 7 (cSs ss)]] _ _ (by simp (disch:=first|omega|assumption) only [ir164,resvs,resv,go_sem,↓reduceIte]) hx ((KA.box hb5H).box hb4) (by simp [tupOf,AV.strip,AV.strip1,cO,cWs])
  | true =>
   rw [hi] at hx K4 hp4
   simp only [if_true] at hx K4 hp4
   have hm1:many1P [41] varP t.tail=pb (varP t.tail) fun x t=>manyP [41] varP (t.length+1) [x] t:=rfl
   rw [hm1] at hx
   have hsl:=suf_len hp4
   simp (disch:=first|omega|assumption) only [g45,go_sem,↓reduceIte]
   refine goK_both (varDefPC hp4 hl hr4) (fun v H5 ⟨x1,t5,e5,hv5,ha5⟩=>?_) fun v H5 ⟨n,e5,hv5⟩=>pan v H5 n hv5 (by rw [hx,e5];rfl)
   subst hv5
   rw [e5,pb_ok] at hx
   have hlt1:=varP_fit.lt (by decide) _ _ _ e5
   have K5:=K4.call ha5
   have g55:H5 b5=some (.cells [.int .i64 kind,.str [],.sl .nil 10 [],.sl .nil 2 [],.sl .nil 7 []]):=by rw [ha5.other n5s,g45]
   have g54:H5 b4=some (.cells zO):=by rw [ha5.other n4s,g44]
   obtain ⟨R,hR⟩:∃ R,manyP [41] varP (t5.length+1) [x1] t5=R:=⟨_,rfl⟩
   rw [hR] at hx
   have KO5:KO H r L t5 (16-16) H5 .nil 0 10:=⟨K5,rfl,nofun⟩
   simp (disch:=first|omega|assumption) only [g55,cW_len,cW_take,go_sem,↓reduceIte]
   refine goP_ownS (Owned.nil _ _) (by simp) (by simp [maxLen]) fun o6 H6 hs6=>?_
   have K6:=KO5.app (by simpa using hs6)
   have g65:=KO5.stay hs6 g55
   have g64:=KO5.stay hs6 g54
   simp (disch:=first|omega|assumption) only [g65,cW_len,cW_take,go_sem,↓reduceIte]
   refine goL_st (fun x:Own × List VarD × TS=>[]) (fun x H'=>KO H r L x.2.2 (16-16) H' x.1 x.2.1.length 10∧H' b5=some (.cells [.int .i64 kind,.str [],.sl x.1 10 (cWs x.2.1),.sl .nil 2 [],.sl .nil 7 []])∧H' b4=some (.cells zO)∧(∃ m,x.2.2.length<m∧manyP [41] varP m x.2.1 x.2.2=R)∧x.2.1.length+x.2.2.length≤L.length) (fun x=>x.2.2.length) (o6,[x1],t5) (by simp (disch:=first|omega|assumption) only [go_sem,↓reduceIte]) ⟨by simpa using K6.box hb5H g65,by rw [upd_same];simp [cWs,cW_strip],by rw [upd_ne (Ne.symm h54)];exact g64,⟨_,Nat.lt_succ_self _,hR⟩,by simp only [List.length_singleton];omega⟩ ?_
   rintro ⟨o,l,u⟩ H7 J ⟨K7,g75,g74,⟨m,hm,hR3⟩,hlen⟩ hJ
   simp only at K7 g75 g74 hm hR3 hlen
   obtain ⟨m,rfl⟩:∃ j,m=j+1:=⟨m-1,by omega⟩
   obtain ⟨p7,hp7,hr7⟩:=K7.here
   have hcl:=cWs_len l
   simp (disch:=first|omega|assumption) only [go_sem,↓reduceIte]
   refine goK_ret (mayPC (dp:=16-16) hp7 hll hr7 [41]) fun v H8 ⟨hv8,ha8⟩=>?_
   subst hv8
   have g85:H8 b5=some (.cells [.int .i64 kind,.str [],.sl o 10 (cWs l),.sl .nil 2 [],.sl .nil 7 []]):=by rw [ha8.other n5s,g75]
   have g84:H8 b4=some (.cells zO):=by rw [ha8.other n4s,g74]
   cases hj:isP [41] u with
   | true =>
    rw [mayT,hj,if_pos rfl] at ha8
    have K8:=K7.toKI.call ha8
    obtain ⟨p8,hp8,hr8⟩:=K8.here
    have e1:R=.ok (l,u.tail):=by rw [← hR3,manyP,hj];rfl
    rw [e1,pb_ok] at hx
    simp (disch:=first|omega|assumption) only [go_sem,↓reduceIte]
    refine goK_both (dirsPC (Nat.le_refl _) hp8 hl hr8) (fun v HB ⟨d,t8,e8,hv8,ha8⟩=>?_) fun v HB ⟨n,e8,hv8⟩=>pan v HB n hv8 (by rw [hx,e8];rfl)
    subst hv8
    rw [e8,pb_ok] at hx
    have KB:=K8.call ha8
    have gB5:HB b5=some (.cells [.int .i64 kind,.str [],(.sl o 10 (cWs l)),.sl .nil 2 [],.sl .nil 7 []]):=by rw [ha8.other n5s,g85]
    have gB4:HB b4=some (.cells zO):=by rw [ha8.other n4s,g84]
    simp (disch:=first|omega|assumption) only [gB5,go_sem,↓reduceIte]
    have K9:=KB.box (x:=.cells [.int .i64 kind,.str [],(.sl o 10 (cWs l)),.sl .no 2 (cDs d),.sl .nil 7 []]) hb5H
    obtain ⟨p9,hp9,hr9⟩:=K9.here
    refine goK_both (selsPall 16 (Nat.le_refl _) _ r L p9 t8 hp9 hl hr9) (fun v HA ⟨ss,tA,eA,hvA,haA⟩=>?_) fun v HA ⟨n,eA,hvA⟩=>pan v HA n hvA (by rw [hx,eA];rfl)
    subst hvA
    rw [eA,pb_ok] at hx
    have KA:=K9.call haA
    have gA5:HA b5=some (.cells [.int .i64 kind,.str [],(.sl o 10 (cWs l)),.sl .no 2 (cDs d),.sl .nil 7 []]):=by rw [haA.other n5s,upd_same]
    have gA4:HA b4=some (.cells zO):=by rw [haA.other n4s,upd_ne (Ne.symm h54),gB4]
    simp only [zO] at gA4
    simp (disch:=first|omega|assumption) only [gA5,gA4,h54,Ne.symm h54,go_sem,↓reduceIte]
    exact fin _ _ [.agg [.int .i64 kind,.str [],(.sl o 10 (cWs l)),.sl .no 2 (cDs d),.sl .no 7 (cSs ss)]] _ _ (by simp (disch:=first|omega|assumption) only [ir164,resvs,resv,go_sem,↓reduceIte]) hx ((KA.box hb5H).box hb4) (by simp [tupOf,AV.strip,AV.strip1,cO,cWs])
   | false =>
    rw [mayT,hj] at ha8
    have K8:=K7.call (by simpa using ha8)
    obtain ⟨p8,hp8,hr8⟩:=K8.here
    rw [manyP,hj] at hR3
    simp only [Bool.false_eq_true,if_false] at hR3
    simp (disch:=first|omega|assumption) only [g85,go_sem,↓reduceIte]
    refine goK_both (varDefPC hp8 hl hr8) (fun v H9 ⟨x,t9,e9,hv9,ha9⟩=>?_) fun v H9 ⟨n9,e9,hv9⟩=>pan v H9 n9 hv9 (by rw [hx,← hR3,e9];rfl)
    subst hv9
    rw [e9,pb_ok] at hR3
    have hlt:=varP_fit.lt (by decide) _ _ _ e9
    have K9:=K8.call ha9
    have g95:H9 b5=some (.cells [.int .i64 kind,.str [],.sl o 10 (cWs l),.sl .nil 2 [],.sl .nil 7 []]):=by rw [ha9.other n5s,g85]
    have g94:H9 b4=some (.cells zO):=by rw [ha9.other n4s,g84]
    simp (disch:=first|omega|assumption) only [g95,cW_len,cW_take,go_sem,↓reduceIte]
    refine goP_ownS (by rw [hcl];exact K9.own) (by simp only [hcl,List.length_cons,List.length_nil];omega) (by simp only [hcl,List.length_cons,List.length_nil,maxLen];omega) fun oA HA hsA=>?_
    have KA:=K9.app (by simpa [hcl] using hsA)
    have gA5:=K9.stay hsA g95
    have gA4:=K9.stay hsA g94
    simp (disch:=first|omega|assumption) only [gA5,cW_len,cW_take,go_sem,↓reduceIte]
    refine goJ (hJ (oA,l++[x],t9) _ (by simp only;omega) ⟨by simpa using KA.box hb5H gA5,by rw [upd_same];simp [cWs,cW_strip],by rw [upd_ne (Ne.symm h54)];exact gA4,⟨m,by simp only;omega,hR3⟩,by simp only [List.length_append,List.length_cons,List.length_nil];omega⟩) (by simp (disch:=first|omega|assumption) only [go_sem,↓reduceIte])
theorem fragPC {H:Heap} {r:Nat} {L p t:TS} (hs:p++t=L) (hl:wT L≤LimP) (hr:H r=some (prc L p (16-16))) :
  ACalls Tryz.prog 165 [.ptr r 0] H (RpE H r L (16-16) (fragP t) (fun x=>.agg (cF x))):=by
 refine retStrip (ACalls.goO (R:=fun v H'=>RetQ H r L (16-16) (fragP t) (fun x=>.agg (cF x)) v.strip H') (RP:=fun v H'=>PanQ (fragP t) v H') ir165 ck165 (Nat.le_refl _) fun KP Q hQ hP=>?_)
 have hll:L.length≤LimP:=Nat.le_trans (len_w L) hl
 have hll2:=hll
 simp only [LimP] at hll2
 have pan:∀ (v:AV) (H1:Heap) (n:Int),v=stopP n→(fragP t)=.error n→KP v H1:=fun v H1 n h1 h2=>hP v H1 H1 (Low.refl _) ⟨n,h2,h1⟩
 have fin:=KI.done hQ
 have K0:=KI.start hs hr
 have hx:fragP t=pb (notOnP t) fun s t=>pb (if isW [111,110] t then .ok ((),t.tail) else .error 2) fun _ t=>pb (nameP t) fun o t =>
  pb (dirsP true 16 t) fun d t=>pb (selsP 16 t) fun l t=>.ok (⟨s,o,d,l⟩,t):=rfl
 simp (disch:=first|omega|assumption) only [ir165,go_sem,↓reduceIte]
 refine goA_intro fun b2 hb2=>?_
 have n2:=K0.ne hb2
 have n2s:=Ne.symm n2
 have K1:=K0.box (x:=.cells [.str [],.str [],.sl .nil 2 [],.sl .nil 7 []]) hb2
 obtain ⟨p1,hp1,hr1⟩:=K1.here
 simp (disch:=first|omega|assumption) only [go_sem,↓reduceIte]
 refine goK_both (notOnPC hp1 hl hr1) (fun v H3 ⟨s,t3,e3,hv3,ha3⟩=>?_) fun v H3 ⟨n,e3,hv3⟩=>pan v H3 n hv3 (by rw [hx,e3];rfl)
 subst hv3
 rw [e3,pb_ok] at hx
 have K3:=K1.call ha3
 have g32:H3 b2=some (.cells [.str [],.str [],.sl .nil 2 [],.sl .nil 7 []]):=by rw [ha3.other n2s,upd_same]
 simp (disch:=first|omega|assumption) only [go_sem,↓reduceIte]
 refine goA_intro fun b3 hb3=>?_
 have h32:b3≠b2:=fun e=>by subst e;rw [g32] at hb3;cases hb3
 have hb3H:H b3=none:=K3.none hb3
 have n3:=K0.ne hb3H
 have n3s:=Ne.symm n3
 have K4:=K3.box (x:=.cells [.str s,.str [],.sl .nil 2 [],.sl .nil 7 []]) hb3H
 obtain ⟨p4,hp4,hr4⟩:=K4.here
 simp (disch:=first|omega|assumption) only [go_sem,↓reduceIte]
 refine goK_ret (mayWC (dp:=16-16) hp4 hll hr4 [111,110]) fun v H5 ⟨hv5,ha5⟩=>?_
 subst hv5
 have K5:=K4.call ha5
 have g53:H5 b3=some (.cells [.str s,.str [],.sl .nil 2 [],.sl .nil 7 []]):=by rw [ha5.other n3s,upd_same]
 have g52:H5 b2=some (.cells [.str [],.str [],.sl .nil 2 [],.sl .nil 7 []]):=by rw [ha5.other n2s,upd_ne (Ne.symm h32),g32]
 unfold mayWordP at K5
 cases hw:isW [111,110] t3 with
 | false =>
  rw [hw] at hx
  simp (disch:=first|omega|assumption) only [go_sem,↓reduceIte]
  exact goK_both (failP _ r 2) (fun _ _ h=>h.elim) fun v H6 h=>pan v H6 2 h (by rw [hx];rfl)
 | true =>
  rw [hw] at hx K5
  simp only [if_true,pb_ok] at hx K5
  obtain ⟨p5,hp5,hr5⟩:=K5.here
  simp (disch:=first|omega|assumption) only [go_sem,↓reduceIte]
  refine goK_both (namePC (dp:=16-16) hp5 hll hr5) (fun v H6 ⟨o,t6,e6,hv6,ha6⟩=>?_) fun v H6 ⟨n,e6,hv6⟩=>pan v H6 n hv6 (by rw [hx,e6];rfl)
  subst hv6
  rw [e6,pb_ok] at hx
  have g63:H6 b3=some (.cells [.str s,.str [],.sl .nil 2 [],.sl .nil 7 []]):=by rw [ha6.other n3s,g53]
  have g62:H6 b2=some (.cells [.str [],.str [],.sl .nil 2 [],.sl .nil 7 []]):=by rw [ha6.other n2s,g52]
  have K7:=(K5.call ha6).box (x:=.cells [.str s,.str o,.sl .nil 2 [],.sl .nil 7 []]) hb3H
  obtain ⟨p7,hp7,hr7⟩:=K7.here
  simp (disch:=first|omega|assumption) only [g63,go_sem,↓reduceIte]
  refine goK_both (dirsPC (Nat.le_refl _) hp7 hl hr7) (fun v H8 ⟨d,t8,e8,hv8,ha8⟩=>?_) fun v H8 ⟨n,e8,hv8⟩=>pan v H8 n hv8 (by rw [hx,e8];rfl)
  subst hv8
  rw [e8,pb_ok] at hx
  have g83:H8 b3=some (.cells [.str s,.str o,.sl .nil 2 [],.sl .nil 7 []]):=by rw [ha8.other n3s,upd_same]
  have g82:H8 b2=some (.cells [.str [],.str [],.sl .nil 2 [],.sl .nil 7 []]):=by rw [ha8.other n2s,upd_ne (Ne.symm h32),g62]
  have K9:=(K7.call ha8).box (x:=.cells [.str s,.str o,.sl .no 2 (cDs d),.sl .nil 7 []]) hb3H
  obtain ⟨p9,hp9,hr9⟩:=K9.here
  simp (disch:=first|omega|assumption) only [g83,go_sem,↓reduceIte]
  refine goK_both (selsPall 16 (Nat.le_refl _) _ r L p9 t8 hp9 hl hr9) (fun v HA ⟨ss,tA,eA,hvA,haA⟩=>?_) fun v HA ⟨n,eA,hvA⟩=>pan v HA n hvA (by rw [hx,eA];rfl)
  subst hvA
  rw [eA,pb_ok] at hx
  have KA:=K9.call haA
  have gA3:HA b3=some (.cells [.str s,.str o,.sl .no 2 (cDs d),.sl .nil 7 []]):=by rw [haA.other n3s,upd_same]
  have gA2:HA b2=some (.cells [.str [],.str [],.sl .nil 2 [],.sl .nil 7 []]):=by rw [haA.other n2s,upd_ne (Ne.symm h32),g82]
  simp (disch:=first|omega|assumption) only [gA3,gA2,h32,Ne.symm h32,go_sem,↓reduceIte]
  exact fin _ _ [.agg [.str s,.str o,.sl .no 2 (cDs d),.sl .no 7 (cSs ss)]] _ _ (by simp (disch:=first|omega|assumption) only [ir165,resvs,resv,go_sem,↓reduceIte]) hx ((KA.box hb3H).box hb2) (by simp [tupOf,AV.strip,AV.strip1,cF])
end Go.Proofs.YticbbfbpeimkbaaGreatDoor
namespace Go.Proofs.YticbbfbpeimkbaaGreatDoor
open Go.Ab
theorem own_other {H H':Heap} {o1 o2:Own} {n sz:Nat} (h:Owned H o2 n sz) (hk:Kept H o1 H') (hs:∀ b x c y,o1=.tip b x→o2=.tip c y→b≠c):Owned H' o2 n sz:=by
 cases o2 with
 | tip c y =>
  have h5:H c=some _:=h
  exact hk c _ h5 fun d e=>hs c d c y e rfl rfl
 | no=>exact h
 | nil=>exact h
 | full=>exact h
theorem own_some {H:Heap} {c y n sz:Nat} (h:Owned H (.tip c y) n sz):H c≠none:=by
 have h5:H c=some _:=h
 rw [h5];exact nofun
structure DI (L:TS) (r bd:Nat) (H:Heap) (t:TS) (d:DocD) (o1 o2:Own):Prop where
 rd:∃ p,p++t=L∧H r=some (prc L p (16-16))
 box:H bd=some (.cells [.sl o1 5 (cOs d.ops),.sl o2 4 (cFs d.frags)])
 own1:Owned H o1 d.ops.length 5
 own2:Owned H o2 d.frags.length 4
 sep:∀ b x c y,o1=.tip b x→o2=.tip c y→b≠c
 ne:bd≠r
theorem DI.call {L t t':TS} {r bd:Nat} {H H':Heap} {d:DocD} {o1 o2:Own} (h:DI L r bd H t d o1 o2) (ha:Pat H r L t' (16-16) H'):DI L r bd H' t' d o1 o2:=by
 obtain ⟨p,_,hr⟩:=h.rd
 have hb:=ha.other h.ne
 obtain ⟨q,hq,rfl⟩:=ha
 exact ⟨⟨q,hq,upd_same ..⟩,by rw [hb];exact h.box,own_upd h.own1 hr,own_upd h.own2 hr,h.sep,h.ne⟩
theorem DI.op {L t:TS} {r bd n:Nat} {H H':Heap} {d:DocD} {o1 o2 o':Own} {xs:List (List AV)} (h:DI L r bd H t d o1 o2) (x:OpD) (hs:OwnS H o1 H' o' n 5) (hn:n=(d.ops++[x]).length) (hx:xs=cOs (d.ops++[x])) :
  DI L r bd (H'.upd bd (.cells [.sl o' 5 xs,.sl o2 4 (cFs d.frags)])) t ⟨d.ops++[x],d.frags⟩ o' o2:=by
 obtain ⟨p,hp,hr⟩:=h.rd
 have hb:=own_keep h.own1 h.box hs.kept
 have hr2:=own_keep h.own1 hr hs.kept
 subst hn;subst hx
 refine ⟨⟨p,hp,by rw [upd_ne (Ne.symm h.ne)];exact hr2⟩,upd_same ..,own_upd hs.own hb,own_upd (own_other h.own2 hs.kept h.sep) hb,fun b x c y e1 e2=>?_,h.ne⟩
 rcases hs.new b x e1 with h2|⟨d0,h2⟩
 ·subst e2
  exact fun e=>own_some h.own2 (e▸h2)
 ·exact h.sep b d0 c y h2 e2
theorem DI.frag {L t:TS} {r bd n:Nat} {H H':Heap} {d:DocD} {o1 o2 o':Own} {xs:List (List AV)} (h:DI L r bd H t d o1 o2) (x:FragD) (hs:OwnS H o2 H' o' n 4) (hn:n=(d.frags++[x]).length) (hx:xs=cFs (d.frags++[x])) :
  DI L r bd (H'.upd bd (.cells [.sl o1 5 (cOs d.ops),.sl o' 4 xs])) t ⟨d.ops,d.frags++[x]⟩ o1 o':=by
 obtain ⟨p,hp,hr⟩:=h.rd
 have hb:=own_keep h.own2 h.box hs.kept
 have hr2:=own_keep h.own2 hr hs.kept
 subst hn;subst hx
 refine ⟨⟨p,hp,by rw [upd_ne (Ne.symm h.ne)];exact hr2⟩,upd_same ..,own_upd (own_other h.own1 hs.kept fun b x c y e1 e2=>Ne.symm (h.sep c y b x e2 e1)) hb,own_upd hs.own hb,fun b x c y e1 e2=>?_,h.ne⟩
 rcases hs.new c y e2 with h2|⟨d0,h2⟩
 ·subst e1
  exact fun e=>own_some h.own1 (by rw [e];exact h2)
 ·exact h.sep b x c d0 e1 h2
def DefE (L:TS) (r bd:Nat) (t:TS) (d:DocD):AEnd→Heap→Prop:=fun e H'=>match e with
 | .ret v=>∃ d' t' o1' o2',defP d t=.ok (d',t')∧v=.tup []∧DI L r bd H' t' d' o1' o2'∧d'.ops.length+d'.frags.length+t'.length≤d.ops.length+d.frags.length+t.length∧t'.length<t.length
 | .pan v=>∃ n,v=stopP n∧defP d t=.error n
theorem cFs_app (l:List FragD) (x:FragD):cFs (l++[x])=cFs l++[cF x]:=by simp [cFs]
theorem cOs_app (l:List OpD) (x:OpD):cOs (l++[x])=cOs l++[cO x]:=by simp [cOs]
theorem cO_len (x:OpD):(cO x).length=5:=rfl
theorem cO_take (x:OpD):(cO x).take 5=cO x:=rfl
theorem cO_splice (a b c d e:AV) (x:OpD):splice [a,b,c,d,e] 0 (cO x)=cO x:=rfl
theorem cF_len (x:FragD):(cF x).length=4:=rfl
theorem cF_take (x:FragD):(cF x).take 4=cF x:=rfl
theorem cF_splice (a b c d:AV) (x:FragD):splice [a,b,c,d] 0 (cF x)=cF x:=rfl
theorem defPC {L t:TS} {r bd:Nat} {H:Heap} {d:DocD} {o1 o2:Own} (h:DI L r bd H t d o1 o2) (hl:wT L≤LimP) (hb:d.ops.length+d.frags.length≤L.length) :
  ACalls Tryz.prog 91 [.ptr r 0,.ptr bd 0] H (DefE L r bd t d):=by
 refine ACalls.goO (R:=fun v H'=>∃ d' t' o1' o2',defP d t=.ok (d',t')∧v=.tup []∧DI L r bd H' t' d' o1' o2'∧d'.ops.length+d'.frags.length+t'.length≤d.ops.length+d.frags.length+t.length∧t'.length<t.length) (RP:=fun v _=>∃ n,v=stopP n∧defP d t=.error n) ir91 ck91 (Nat.le_refl _) fun KP Q hQ hP=>?_
 have hll:L.length≤LimP:=Nat.le_trans (len_w L) hl
 have hll2:=hll
 simp only [LimP] at hll2
 have pan:∀ (v:AV) (H1:Heap) (n:Int),v=stopP n→defP d t=.error n→KP v H1:=fun v H1 n h1 h2=>hP v H1 H1 (Low.refl _) ⟨n,h1,h2⟩
 have hc1:=cOs_len d.ops
 have hc2:=cFs_len d.frags
 obtain ⟨p,hs,hr⟩:=h.rd
 have g0:=h.box
 simp (disch:=first|omega|assumption) only [ir91,go_sem,↓reduceIte]
 refine goK_ret (isPC (dp:=16-16) hs hr [123]) fun v H1 ⟨hv1,hH⟩=>?_
 subst hv1;subst hH
 cases hi:isP [123] t with
 | true =>
  have hx:defP d t=pb (selsP 16 t) fun l t=>.ok (⟨d.ops++[⟨0,[],[],[],l⟩],d.frags⟩,t):=by unfold defP;rw [hi];rfl
  simp (disch:=first|omega|assumption) only [g0,go_sem,↓reduceIte]
  refine goK_both (selsPall 16 (Nat.le_refl _) _ r L p t hs hl hr) (fun v H2 ⟨l,t2,e2,hv2,ha2⟩=>?_) fun v H2 ⟨n,e2,hv2⟩=>pan v H2 n hv2 (by rw [hx,e2];rfl)
  have hlt:=(selsP_fit 16).lt (by decide) _ _ _ e2
  have eD:defP d t=.ok (⟨d.ops++[⟨0,[],[],[],l⟩],d.frags⟩,t2):=by rw [hx,e2];rfl
  have D2:=h
  subst hv2
  have DX:=D2.call ha2
  obtain ⟨pX,hpX,hrX⟩:=DX.rd
  have gX:=DX.box
  simp (disch:=first|omega|assumption) only [gX,cO_len,cO_take,cO_splice,go_sem,↓reduceIte]
  refine goP_ownS (by rw [hc1];exact DX.own1) (by simp only [hc1,List.length_cons,List.length_nil];omega) (by simp only [hc1,List.length_cons,List.length_nil,maxLen];omega) fun oY HY hsY=>?_
  have gY:=own_keep DX.own1 gX hsY.kept
  simp (disch:=first|omega|assumption) only [gY,cO_len,cO_take,cO_splice,go_sem,↓reduceIte]
  refine hQ _ _ _ _ [] nofun rfl (Low.refl _) ⟨_,_,oY,o2,eD,rfl,DX.op ⟨0,[],[],[],l⟩ (by simpa [hc1] using hsY) (by simp) (by rw [cOs_app];simp [cO,AV.strip1,cWs,cDs]),by simp only [List.length_append,List.length_singleton];omega,by omega⟩
 | false =>
  have hni:¬ (isP [123] t=true):=by rw [hi];decide
  simp (disch:=first|omega|assumption) only [go_sem,↓reduceIte]
  refine goK_ret (mayWC (dp:=16-16) hs hll hr [113,117,101,114,121]) fun v H2 ⟨hv2,ha2⟩=>?_
  subst hv2
  have D2:=h.call ha2
  unfold mayWordP at D2
  cases hq:isW [113,117,101,114,121] t with
  | true =>
   rw [hq,if_pos rfl] at D2
   have htl:=(tail_ww hq).1
   have htk:t.tail.length<t.length:=by rw [hd_tail (isW_ne hq)];simp
   obtain ⟨p2,hp2,hr2⟩:=D2.rd
   have g2:=D2.box
   have hx:defP d t=pb (opP 0 t.tail) fun o t=>.ok (⟨d.ops++[o],d.frags⟩,t):=by unfold defP;rw [if_neg hni,hq];rfl
   simp (disch:=first|omega|assumption) only [g2,go_sem,↓reduceIte]
   refine goK_both (opPC 0 hp2 hl hr2) (fun v H3 ⟨o,t3,e3,hv3,ha3⟩=>?_) fun v H3 ⟨n,e3,hv3⟩=>pan v H3 n hv3 (by rw [hx,e3];rfl)
   have hlt:=(opP_fit 0).lt (by decide) _ _ _ e3
   have eD:defP d t=.ok (⟨d.ops++[o],d.frags⟩,t3):=by rw [hx,e3];rfl
   subst hv3
   have DX:=D2.call ha3
   obtain ⟨pX,hpX,hrX⟩:=DX.rd
   have gX:=DX.box
   simp (disch:=first|omega|assumption) only [gX,cO_len,cO_take,cO_splice,go_sem,↓reduceIte]
   refine goP_ownS (by rw [hc1];exact DX.own1) (by simp only [hc1,List.length_cons,List.length_nil];omega) (by simp only [hc1,List.length_cons,List.length_nil,maxLen];omega) fun oY HY hsY=>?_
   have gY:=own_keep DX.own1 gX hsY.kept
   simp (disch:=first|omega|assumption) only [gY,cO_len,cO_take,cO_splice,go_sem,↓reduceIte]
   refine hQ _ _ _ _ [] nofun rfl (Low.refl _) ⟨_,_,oY,o2,eD,rfl,DX.op o (by simpa [hc1] using hsY) (by simp) (by rw [cOs_app];simp [cO,AV.strip1,cWs,cDs]),by simp only [List.length_append,List.length_singleton];omega,by omega⟩
  | false =>
   rw [hq] at D2
   simp only [Bool.false_eq_true,if_false] at D2
   have hnq:¬ (isW [113,117,101,114,121] t=true):=by rw [hq];decide
   obtain ⟨p2,hp2,hr2⟩:=D2.rd
   simp (disch:=first|omega|assumption) only [go_sem,↓reduceIte]
   refine goK_ret (mayWC (dp:=16-16) hp2 hll hr2 [109,117,116,97,116,105,111,110]) fun v H3 ⟨hv3,ha3⟩=>?_
   subst hv3
   have D3:=D2.call ha3
   unfold mayWordP at D3
   cases hm:isW [109,117,116,97,116,105,111,110] t with
   | true =>
    rw [hm,if_pos rfl] at D3
    have htk:t.tail.length<t.length:=by rw [hd_tail (isW_ne hm)];simp
    obtain ⟨p3,hp3,hr3⟩:=D3.rd
    have g3:=D3.box
    have hx:defP d t=pb (opP 1 t.tail) fun o t=>.ok (⟨d.ops++[o],d.frags⟩,t):=by unfold defP;rw [if_neg hni,if_neg hnq,hm];rfl
    simp (disch:=first|omega|assumption) only [g3,go_sem,↓reduceIte]
    refine goK_both (opPC 1 hp3 hl hr3) (fun v H4 ⟨o,t4,e4,hv4,ha4⟩=>?_) fun v H4 ⟨n,e4,hv4⟩=>pan v H4 n hv4 (by rw [hx,e4];rfl)
    have hlt:=(opP_fit 1).lt (by decide) _ _ _ e4
    have eD:defP d t=.ok (⟨d.ops++[o],d.frags⟩,t4):=by rw [hx,e4];rfl
    subst hv4
    have DX:=D3.call ha4
    obtain ⟨pX,hpX,hrX⟩:=DX.rd
    have gX:=DX.box
    simp (disch:=first|omega|assumption) only [gX,cO_len,cO_take,cO_splice,go_sem,↓reduceIte]
    refine goP_ownS (by rw [hc1];exact DX.own1) (by simp only [hc1,List.length_cons,List.length_nil];omega) (by simp only [hc1,List.length_cons,List.length_nil,maxLen];omega) fun oY HY hsY=>?_
    have gY:=own_keep DX.own1 gX hsY.kept
    simp (disch:=first|omega|assumption) only [gY,cO_len,cO_take,cO_splice,go_sem,↓reduceIte]
    refine hQ _ _ _ _ [] nofun rfl (Low.refl _) ⟨_,_,oY,o2,eD,rfl,DX.op o (by simpa [hc1] using hsY) (by simp) (by rw [cOs_app];simp [cO,AV.strip1,cWs,cDs]),by simp only [List.length_append,List.length_singleton];omega,by omega⟩
   | false =>
    rw [hm] at D3
    simp only [Bool.false_eq_true,if_false] at D3
    have hnm:¬ (isW [109,117,116,97,116,105,111,110] t=true):=by rw [hm];decide
    obtain ⟨p3,hp3,hr3⟩:=D3.rd
    simp (disch:=first|omega|assumption) only [go_sem,↓reduceIte]
    refine goK_ret (mayWC (dp:=16-16) hp3 hll hr3 [102,114,97,103,109,101,110,116]) fun v H4 ⟨hv4,ha4⟩=>?_
    subst hv4
    have D4:=D3.call ha4
    unfold mayWordP at D4
    cases hf:isW [102,114,97,103,109,101,110,116] t with
    | true =>
     rw [hf,if_pos rfl] at D4
     have htk:t.tail.length<t.length:=by rw [hd_tail (isW_ne hf)];simp
     obtain ⟨p4,hp4,hr4⟩:=D4.rd
     have g4:=D4.box
     have hx:defP d t=pb (fragP t.tail) fun f t=>.ok (⟨d.ops,d.frags++[f]⟩,t):=by unfold defP;rw [if_neg hni,if_neg hnq,if_neg hnm,hf];rfl
     simp (disch:=first|omega|assumption) only [g4,go_sem,↓reduceIte]
     refine goK_both (fragPC hp4 hl hr4) (fun v H5 ⟨f,t5,e5,hv5,ha5⟩=>?_) fun v H5 ⟨n,e5,hv5⟩=>pan v H5 n hv5 (by rw [hx,e5];rfl)
     have hlt:=fragP_fit.lt (by decide) _ _ _ e5
     have eD:defP d t=.ok (⟨d.ops,d.frags++[f]⟩,t5):=by rw [hx,e5];rfl
     subst hv5
     have DX:=D4.call ha5
     obtain ⟨pX,hpX,hrX⟩:=DX.rd
     have gX:=DX.box
     simp (disch:=first|omega|assumption) only [gX,cF_len,cF_take,cF_splice,go_sem,↓reduceIte]
     refine goP_ownS (by rw [hc2];exact DX.own2) (by simp only [hc2,List.length_cons,List.length_nil];omega) (by simp only [hc2,List.length_cons,List.length_nil,maxLen];omega) fun oY HY hsY=>?_
     have gY:=own_keep DX.own2 gX hsY.kept
     simp (disch:=first|omega|assumption) only [gY,cF_len,cF_take,cF_splice,go_sem,↓reduceIte]
     refine hQ _ _ _ _ [] nofun rfl (Low.refl _) ⟨_,_,o1,oY,eD,rfl,DX.frag f (by simpa [hc2] using hsY) (by simp) (by rw [cFs_app];simp [cF,AV.strip1]),by simp only [List.length_append,List.length_singleton];omega,by omega⟩
    | false =>
     have hnf:¬ (isW [102,114,97,103,109,101,110,116] t=true):=by rw [hf];decide
     simp (disch:=first|omega|assumption) only [go_sem,↓reduceIte]
     exact goK_both (failP _ r 2) (fun _ _ h=>h.elim) fun v H5 h=>pan v H5 2 h (by unfold defP;rw [if_neg hni,if_neg hnq,if_neg hnm,if_neg hnf])
end Go.Proofs.YticbbfbpeimkbaaGreatDoor
namespace Go.Proofs.YticbbfbpeimkbaaGreatDoor
open Go.Ab
def quoA (may:UInt8→Bool) (t:List UInt8):AV:=match quoM may t with
 | some (b,t')=>.tup [.str b,.int .i64 ((t.length+1-t'.length:Nat):Int)]
 | none=>.tup [.str [],.int .i64 0]
theorem quotedC (f : FuncId) (hf : Program.callable Tryz.prog f = true) (may : UInt8 → Bool) (hmay : ∀ c : UInt8, Pure Tryz.prog f [.int .u8 c.toNat] (.bool (may c))) (a : UInt8) (t : List UInt8) (hl : t.length + 1 ≤ LimQ) :
    Pure Tryz.prog 220 [.str (a :: t), .clo f [] []] (quoA may t) := by
  refine Pure.go ir220 ck220 (Nat.le_refl _) fun KP Q hQ => ?_
  simp only [LimQ] at hl
  simp (disch := first | omega | assumption) only [ir220, go_sem, ↓reduceIte]
  refine goA_intro fun q hq => ?_
  simp (disch := first | omega | assumption) only [go_sem, ↓reduceIte]
  obtain ⟨R, hR⟩ : ∃ R, quoG may (t.length + 1) t ⟨[], [], true⟩ = R := ⟨_, rfl⟩
  have fail : R = none → quoA may t = .tup [.str [], .int .i64 0] := fun e => by unfold quoA quoM; rw [hR, e]
  refine goL_st (fun s : List UInt8 × Sd × Own × Own => [(7, .int .i64 ((t.length + 1 - s.1.length : Nat) : Int))])
    (fun s H => s.1 <:+ t ∧ (∃ n, s.1.length < n ∧ quoG may n s.1 s.2.1 = R) ∧ s.2.1.w + s.1.length ≤ t.length ∧ SaidAt H q s.2.1 s.2.2.1 s.2.2.2) (fun s => s.1.length) (t, ⟨[], [], true⟩, .nil, .nil)
    (by have : (t.length + 1 - t.length : Nat) = 1 := by omega
        simp (disch := first | omega | assumption) only [this, go_sem, ↓reduceIte]) ⟨List.suffix_refl _, ⟨t.length + 1, by simp, hR⟩, by simp [Sd.w], upd_same .., rfl, rfl, nofun⟩ ?_
  rintro ⟨rest, x, o, o2⟩ H J ⟨hsuf, ⟨n, hn, hg⟩, hw, hs⟩ hJ
  simp only at hsuf hn hg hw hs
  have hrl := hsuf.length_le
  obtain ⟨n, rfl⟩ : ∃ k, n = k + 1 := ⟨n - 1, by omega⟩
  cases rest with
  | nil =>
    have e0 : R = none := by rw [← hg]; rfl
    have h0 : t.length + 1 - 0 = t.length + 1 := rfl
    have h1 : (((t.length + 1 : Nat) : Int) ≤ ((t.length + 1 : Nat) : Int)) = True := eq_true (Int.le_refl _)
    simp (disch := first | omega | assumption) only [h0, h1, go_sem, ↓reduceIte]
    exact hQ _ _ _ _ nofun rfl (by simp [tupOf, envOf, AV.strip, AV.strip1, fail e0])
  | cons c r =>
    obtain ⟨p, hp⟩ := hsuf
    have hpl : t.length = p.length + (r.length + 1) := by rw [← hp]; simp
    have h0 : t.length + 1 - (r.length + 1) = p.length + 1 := by omega
    have h1 : ¬ (((t.length + 1 : Nat) : Int) ≤ ((p.length + 1 : Nat) : Int)) := by omega
    have h2 : (((p.length + 1 : Nat) : Int) < ((t.length + 1 : Nat) : Int)) = True := eq_true (by omega)
    have hi : (a :: t).getD (p.length + 1) 0 = c := by rw [← hp]; simp
    have hi1 : (((p.length + 1 : Nat) : Int) + 1) = ((p.length + 1 + 1 : Nat) : Int) := by omega
    have hsr : r <:+ t := ⟨p ++ [c], by rw [← hp]; simp⟩
    simp only [quoG] at hg
    simp only [List.length_cons] at hw hn
    have hx : x.w ≤ LimQ := by simp only [LimQ]; omega
    by_cases c1 : c = 34
    · subst c1
      simp only [if_true] at hg
      have hc : (((34 : UInt8).toNat : Int) = 34) = True := eq_true rfl
      simp (disch := first | omega | assumption) only [h0, h1, h2, hi, hc, go_sem, ↓reduceIte]
      refine goK_ret (flushC hs hx) fun v H1 ⟨hv, o', hs1⟩ => ?_
      subst hv
      have hq := hs1.hq
      cases hok : (flushM x).ok
      · rw [hok] at hq
        have e0 : quoM may t = none := by unfold quoM; rw [hR, ← hg]; simp [hok]
        simp (disch := first | omega | assumption) only [hq, go_sem, ↓reduceIte]
        exact hQ _ _ _ _ nofun rfl (by simp [tupOf, envOf, AV.strip, AV.strip1, quoA, e0])
      · rw [hok] at hq
        have e0 : quoM may t = some ((flushM x).b, r) := by unfold quoM; rw [hR, ← hg]; simp [hok]
        simp (disch := first | omega | assumption) only [hq, byts_of, wrap64, go_sem, ↓reduceIte]
        have e1 : (p.length : Int) + 1 + 1 = ((t.length + 1 - r.length : Nat) : Int) := by omega
        exact hQ _ _ _ _ nofun rfl (by simp [tupOf, envOf, AV.strip, AV.strip1, quoA, e0, e1])
    have c1' : ¬ ((c.toNat : Int) = 34) := fun e => c1 (by apply UInt8.toNat_inj.1; show c.toNat = 34; omega)
    rw [if_neg c1] at hg
    by_cases c2 : c = 92
    · subst c2
      simp only [if_true] at hg
      have hc : ¬ (((92 : UInt8).toNat : Int) = 34) := by decide
      have hc2 : (((92 : UInt8).toNat : Int) = 92) = True := eq_true rfl
      have h3 : (((p.length + 1 : Nat) : Int) + 1 ≤ ((t.length + 1 : Nat) : Int)) = True := eq_true (by omega)
      have h4 : (((p.length + 1 : Nat) : Int) + 1).toNat = p.length + 2 := by omega
      have hdr : (a :: t).drop (p.length + 2) = r := by rw [← hp]; simp
      simp (disch := first | omega | assumption) only [h0, h1, h2, hi, hc, hc2, wrap64, h3, h4, hdr, go_sem, ↓reduceIte]
      refine goK_ret (escC hs hx r (by simp only [Lim]; omega)) fun v H1 he => ?_
      unfold EscP at he
      cases hm : escM x r with
      | none =>
        rw [hm] at he hg
        subst he
        simp (disch := first | omega | assumption) only [go_sem, ↓reduceIte]
        exact hQ _ _ _ _ nofun rfl (by simp [tupOf, envOf, AV.strip, AV.strip1, fail hg.symm])
      | some y =>
        obtain ⟨x', t'⟩ := y
        rw [hm] at he hg
        obtain ⟨hv, o3, o4, hs3⟩ := he
        subst hv
        have h5 := escM_suf hm
        have h6 := escM_w hm
        have h7 : ¬ (((r.length - t'.length : Nat) : Int) = 0) := by omega
        have h8 : ((p.length + 1 : Nat) : Int) + (1 + ((r.length - t'.length : Nat) : Int)) = ((t.length + 1 - t'.length : Nat) : Int) := by omega
        simp (disch := first | omega | assumption) only [h7, wrap64, h8, go_sem, ↓reduceIte]
        exact goJ (hJ (t', x', o3, o4) _ (by simp; omega) ⟨h5.1.trans hsr, ⟨n, by show t'.length < n; omega, hg⟩, by show x'.w + t'.length ≤ t.length; omega, hs3⟩) (by simp (disch := first | omega | assumption) only [go_sem, ↓reduceIte])
    have c2' : ¬ ((c.toNat : Int) = 92) := fun e => c2 (by apply UInt8.toNat_inj.1; show c.toNat = 92; omega)
    rw [if_neg c2] at hg
    simp (disch := first | omega | assumption) only [h0, h1, h2, hi, c1', c2', hf, go_sem, ↓reduceIte]
    refine goK_pure (hmay c) ?_
    cases hm : may c
    · rw [hm] at hg
      simp (disch := first | omega | assumption) only [go_sem, ↓reduceIte]
      exact hQ _ _ _ _ nofun rfl (by simp [tupOf, envOf, AV.strip, AV.strip1, fail hg.symm])
    · rw [hm] at hg
      simp only [if_true] at hg
      simp (disch := first | omega | assumption) only [go_sem, ↓reduceIte]
      refine goK_ret (flushC hs hx) fun v H1 ⟨hv, o', hs1⟩ => ?_
      subst hv
      obtain ⟨hq1, ho1, _, _⟩ := hs1
      have hfw := flush_w x
      have hpw := put_w x c
      have hbl := bytesOf_len (flushM x).b
      simp (disch := first | omega | assumption) only [hq1, h2, hi, go_sem, ↓reduceIte]
      refine goP_ownS (by rw [hbl]; exact ho1) (by simp [hbl]; omega) (by simp [maxLen, hbl]; omega) fun o3 H2 hs3 => ?_
      have hq2 := own_keep ho1 hq1 hs3.kept
      simp (disch := first | omega | assumption) only [hq2, wrap64, go_sem, ↓reduceIte]
      have h8 : ((p.length + 1 : Nat) : Int) + 1 = ((t.length + 1 - r.length : Nat) : Int) := by omega
      refine goJ (hJ (r, x.put c, o3, .nil) _ (by simp) ⟨hsr, ⟨n, by show r.length < n; omega, hg⟩, by show (x.put c).w + r.length ≤ t.length; omega, ?_, ?_, rfl, nofun⟩) (by simp (disch := first | omega | assumption) only [h8, go_sem, ↓reduceIte])
      · simp only [upd_same, Sd.put]
        rw [← bytesOf_app]; rfl
      · simp only [Sd.put, List.length_append, List.length_cons, List.length_nil]
        exact own_upd (by simpa [hbl] using hs3.own) hq2
end Go.Proofs.YticbbfbpeimkbaaGreatDoor
namespace Go.Proofs.YticbbfbpeimkbaaGreatDoor
open Go.Ab Go.Lib
structure SInv' (q:Sd) (t:List UInt8):Prop where
 none:q.u=[]→validD (q.b++t)=true
 some:q.u≠[]→validD q.b=true∧validD t=true
theorem flush_b {q:Sd} (h:validD q.b=true):validD (flushM q).b=true:=by
 unfold flushM
 cases hj:joinM q.u with
 | none=>simpa using h
 | some s=>exact validA2 h (join_valid _ _ hj)
theorem flush_nil {q:Sd} (h:q.u=[]):(flushM q).b=q.b:=by unfold flushM;rw [h];simp [joinM]
theorem SInv'.low {q:Sd} {c:UInt8} {t:List UInt8} (h:SInv' q (c :: t)) (hc:c.toNat<128):validD q.b=true∧validD t=true:=by
 by_cases hu:q.u=[]
 ·exact validS hc (h.none hu)
 ·obtain ⟨h1,h2⟩:=h.some hu
  rw [validD_cons c t hc] at h2
  exact ⟨h1,h2⟩
theorem SInv'.put {q:Sd} {c:UInt8} {t:List UInt8} (h:SInv' q (c :: t)):SInv' (q.put c) t:=by
 refine ⟨fun _=>?_,fun e=>absurd rfl e⟩
 show validD (((flushM q).b++[c])++t)=true
 rw [List.append_assoc]
 by_cases hu:q.u=[]
 ·rw [flush_nil hu];exact h.none hu
 ·obtain ⟨h1,h2⟩:=h.some hu
  exact validA2 (flush_b h1) h2
def LR (n:Int) (l:List Val):Prop:=∀ v ∈ l,rightV v=true∧depthV v≤n
theorem LR.all {n:Int}:∀ {l:List Val},LR n l→allVs validD l=true∧singVs l=true
 | [],_=>⟨rfl,rfl⟩
 | v :: l,h=>by
  have h1:=LR.all (l:=l) fun x hx=>h x (.tail _ hx)
  have h2:=(h v (.head _)).1
  simp only [rightV,goodV,Bool.and_eq_true] at h2
  simp [allVs,singVs,h1.1,h1.2,h2.1,h2.2]
end Go.Proofs.YticbbfbpeimkbaaGreatDoor
namespace Go.Proofs.YticbbfbpeimkbaaGreatDoor
open Go.Ab
def codeN (l:List UInt8):Nat × Nat:=if l=[] then (0,0) else if Lib.decodeL l=(65533,1) then (0,0) else Lib.decodeL l
def cv (v0:Nat) (b:Nat→Nat):Nat→Nat
 | 0=>v0
 | j+1=>cv v0 b j*64+b (j+1) % 64
end Go.Proofs.YticbbfbpeimkbaaGreatDoor
namespace Go.Proofs.YticbbfbpeimkbaaGreatDoor
open Go.Ab
theorem codeN_good {l:List UInt8} (hne:l≠[]) (h:(codeN l).2≠0):Lib.validD l=Lib.validD (l.drop (codeN l).2)∧(codeN l).2≤l.length:=by
 unfold codeN at h ⊢
 rw [if_neg hne] at h ⊢
 split at h
 ·simp at h
 ·rename_i e
  rw [if_neg e]
  refine ⟨?_,Lib.decodeL_le l hne⟩
  rw [Lib.validD_step l hne,if_neg]
  rintro ⟨a,b⟩
  exact e (Prod.ext a b)
end Go.Proofs.YticbbfbpeimkbaaGreatDoor
namespace Go.Proofs.YticbbfbpeimkbaaGreatDoor
open Go.Ab Go.Lib
end Go.Proofs.YticbbfbpeimkbaaGreatDoor
namespace Go.Proofs.YticbbfbpeimkbaaGreatDoor
open Go.Ab
end Go.Proofs.YticbbfbpeimkbaaGreatDoor
namespace Go.Proofs.YticbbfbpeimkbaaGreatDoor
open Go.Ab Go.Lib
end Go.Proofs.YticbbfbpeimkbaaGreatDoor
namespace Go.Proofs.YticbbfbpeimkbaaGreatDoor
open Go.Ab Go.Lib
structure DecOk (l:List UInt8) (c k:Nat):Prop where
 enc:encM c=l.take k
 le:c≤1114111
 pos:1≤k
 len:k≤l.length
 one:k=1→c=(l.getD 0 0).toNat∧(l.getD 0 0).toNat<128
 high:k≠1→∀ x ∈ l.take k,128≤x.toNat
theorem ofN_eq {n:Nat} {b:UInt8} (h:n=b.toNat):UInt8.ofNat n=b:=UInt8.toNat_inj.1 (by rw [UInt8.toNat_ofNat',h];have:=b.toNat_lt;omega)
theorem dec_two {b0 b1:UInt8} {t:List UInt8} (h0:b0.toNat / 32=6) (h1:b1.toNat / 64=2) (hc:128≤b0.toNat % 32*64+b1.toNat % 64):DecOk (b0 :: b1 :: t) (b0.toNat % 32*64+b1.toNat % 64) 2:=by
 refine ⟨?_,by omega,by omega,by simp,fun h=>by omega,fun _ x hx=>?_⟩
 ·unfold encM
  rw [if_neg (by omega),if_pos (by omega)]
  simp only [List.take_succ_cons,List.take_zero,List.cons.injEq,and_true]
  exact ⟨ofN_eq (by omega),ofN_eq (by omega)⟩
 ·simp only [List.take_succ_cons,List.take_zero,List.mem_cons,List.not_mem_nil,or_false] at hx
  rcases hx with rfl|rfl<;>omega
theorem dec_three {b0 b1 b2:UInt8} {t:List UInt8} (h0:b0.toNat / 16=14) (h1:b1.toNat / 64=2) (h2:b2.toNat / 64=2) (hc:2048≤b0.toNat % 16*4096+b1.toNat % 64*64+b2.toNat % 64) :
  DecOk (b0 :: b1 :: b2 :: t) (b0.toNat % 16*4096+b1.toNat % 64*64+b2.toNat % 64) 3:=by
 refine ⟨?_,by omega,by omega,by simp,fun h=>by omega,fun _ x hx=>?_⟩
 ·unfold encM
  rw [if_neg (by omega),if_neg (by omega),if_pos (by omega)]
  simp only [List.take_succ_cons,List.take_zero,List.cons.injEq,and_true]
  exact ⟨ofN_eq (by omega),ofN_eq (by omega),ofN_eq (by omega)⟩
 ·simp only [List.take_succ_cons,List.take_zero,List.mem_cons,List.not_mem_nil,or_false] at hx
  rcases hx with rfl|rfl|rfl<;>omega
theorem dec_four {b0 b1 b2 b3:UInt8} {t:List UInt8} (h0:b0.toNat / 8=30) (h1:b1.toNat / 64=2) (h2:b2.toNat / 64=2) (h3:b3.toNat / 64=2)
  (hc:65536≤b0.toNat % 8*262144+b1.toNat % 64*4096+b2.toNat % 64*64+b3.toNat % 64) (hd:b0.toNat % 8*262144+b1.toNat % 64*4096+b2.toNat % 64*64+b3.toNat % 64≤1114111) :
  DecOk (b0 :: b1 :: b2 :: b3 :: t) (b0.toNat % 8*262144+b1.toNat % 64*4096+b2.toNat % 64*64+b3.toNat % 64) 4:=by
 refine ⟨?_,by omega,by omega,by simp,fun h=>by omega,fun _ x hx=>?_⟩
 ·unfold encM
  rw [if_neg (by omega),if_neg (by omega),if_neg (by omega)]
  simp only [List.take_succ_cons,List.take_zero,List.cons.injEq,and_true]
  exact ⟨ofN_eq (by omega),ofN_eq (by omega),ofN_eq (by omega),ofN_eq (by omega)⟩
 ·simp only [List.take_succ_cons,List.take_zero,List.mem_cons,List.not_mem_nil,or_false] at hx
  rcases hx with rfl|rfl|rfl|rfl<;>omega
theorem dec_ok {l:List UInt8} (hne:l≠[]) (h:decodeL l≠(65533,1)):DecOk l (decodeL l).1 (decodeL l).2:=by
 rw [decodeL_N] at h ⊢
 obtain ⟨b0,t,rfl⟩:∃ b0 t,l=b0 :: t:=by cases l with|nil=>exact absurd rfl hne|cons a b=>exact ⟨a,b,rfl⟩
 simp only [List.getD_cons_zero,List.getD_cons_succ] at h ⊢
 unfold decodeN at h ⊢
 split at h
 ·rename_i h0
  rw [if_pos h0]
  refine ⟨?_,by simp only;omega,by simp,by simp,fun _=>⟨by simp,by simpa using h0⟩,fun h=>absurd rfl h⟩
  simp only
  unfold encM
  rw [if_pos (by omega)]
  simp only [List.take_succ_cons,List.take_zero,List.cons.injEq,and_true]
  exact ofN_eq rfl
 ·rename_i h0
  rw [if_neg h0]
  split at h
  ·rename_i h1
   rw [if_pos h1]
   split at h
   ·rename_i h2
    rw [if_pos h2]
    obtain ⟨b1,t,rfl⟩:∃ b1 r,t=b1 :: r:=by cases t with|nil=>simp at h1|cons a b=>exact ⟨a,b,rfl⟩
    exact dec_two h1.1 (by simpa using h1.2.2) (by simpa using h2)
   ·exact absurd rfl h
  ·rename_i h1
   rw [if_neg h1]
   split at h
   ·rename_i h2
    rw [if_pos h2]
    split at h
    ·rename_i h3
     rw [if_pos h3]
     obtain ⟨b1,t,rfl⟩:∃ b1 r,t=b1 :: r:=by cases t with|nil=>simp at h2|cons a b=>exact ⟨a,b,rfl⟩
     obtain ⟨b2,t,rfl⟩:∃ b2 r,t=b2 :: r:=by cases t with|nil=>simp at h2|cons a b=>exact ⟨a,b,rfl⟩
     exact dec_three h2.1 (by simpa using h2.2.1.2) (by simpa using h2.2.2.2) (by simpa using h3.1)
    ·exact absurd rfl h
   ·rename_i h2
    rw [if_neg h2]
    split at h
    ·rename_i h3
     rw [if_pos h3]
     split at h
     ·rename_i h4
      rw [if_pos h4]
      obtain ⟨b1,t,rfl⟩:∃ b1 r,t=b1 :: r:=by cases t with|nil=>simp at h3|cons a b=>exact ⟨a,b,rfl⟩
      obtain ⟨b2,t,rfl⟩:∃ b2 r,t=b2 :: r:=by cases t with|nil=>simp at h3|cons a b=>exact ⟨a,b,rfl⟩
      obtain ⟨b3,t,rfl⟩:∃ b3 r,t=b3 :: r:=by cases t with|nil=>simp at h3|cons a b=>exact ⟨a,b,rfl⟩
      exact dec_four h3.1 (by simpa using h3.2.1.2) (by simpa using h3.2.2.1.2) (by simpa using h3.2.2.2.2) (by simpa using h4.1) (by have:=h4.2;simp at this ⊢;omega)
     ·exact absurd rfl h
    ·exact absurd rfl h
theorem code_ok {l:List UInt8} (hne:l≠[]) (hv:validD l=true):DecOk l (codeN l).1 (codeN l).2∧validD (l.drop (codeN l).2)=true:=by
 rw [validD_step l hne] at hv
 split at hv
 ·cases hv
 ·rename_i h
  have h':decodeL l≠(65533,1):=fun e=>h ⟨by rw [e],by rw [e]⟩
  have e:codeN l=decodeL l:=by unfold codeN;rw [if_neg hne,if_neg h']
  rw [e]
  exact ⟨dec_ok hne h',hv⟩
theorem quoG_fuel {may:UInt8→Bool}:∀ (n m:Nat) (t:List UInt8) (q:Sd),t.length<n→t.length<m→quoG may n t q=quoG may m t q
 | 0,_,_,_,h,_=>by omega
 | _,0,_,_,_,h=>by omega
 | _+1,_+1,[],_,_,_=>rfl
 | n+1,m+1,c :: t,q,h1,h2=>by
  simp only [List.length_cons] at h1 h2
  simp only [quoG]
  split
  ·rfl
  ·split
   ·cases he:escM q t with
    | none=>rfl
    | some x =>
     have:=(escM_suf (q':=x.1) (t':=x.2) he).2
     exact quoG_fuel n m x.2 x.1 (by omega) (by omega)
   ·split
    ·exact quoG_fuel n m t _ (by omega) (by omega)
    ·rfl
def quoF (may:UInt8→Bool) (t:List UInt8) (q:Sd):Option (Sd × List UInt8):=quoG may (t.length+1) t q
theorem quoF_34 (may:UInt8→Bool) (t:List UInt8) (q:Sd):quoF may (34 :: t) q=some (flushM q,t):=by simp [quoF,quoG]
theorem quoF_92 (may:UInt8→Bool) (t:List UInt8) (q:Sd):quoF may (92 :: t) q=match escM q t with|none=>none|some (q',t')=>quoF may t' q':=by
 unfold quoF
 simp only [List.length_cons,quoG]
 rw [if_neg (by decide),if_pos trivial]
 cases he:escM q t with
 | none=>rfl
 | some x =>
  have:=(escM_suf (q':=x.1) (t':=x.2) he).2
  exact quoG_fuel _ _ x.2 x.1 (by omega) (by omega)
theorem quoF_c (may:UInt8→Bool) {c:UInt8} (t:List UInt8) (q:Sd) (h1:c≠34) (h2:c≠92):quoF may (c :: t) q=if may c then quoF may t (q.put c) else none:=by
 unfold quoF
 simp only [List.length_cons,quoG]
 rw [if_neg h1,if_neg h2]
def finF (x:Option (Sd × List UInt8)):Option (List UInt8 × List UInt8):=match x with
 | some (q,t')=>if q.ok then some (q.b,t') else none
 | none=>none
theorem quoM_F (may:UInt8→Bool) (t:List UInt8):quoM may t=finF (quoF may t ⟨[],[],true⟩):=rfl
def lineB (c:UInt8):Bool:=decide (c≠10) && decide (c≠13)
theorem quoF_high:∀ (bs t out:List UInt8),(∀ x ∈ bs,128≤x.toNat)→quoF lineB (bs++t) ⟨out,[],true⟩=quoF lineB t ⟨out++bs,[],true⟩
 | [],t,out,_=>by simp
 | b :: bs,t,out,h=>by
  have hb:=h b (.head _)
  have h0:∀ n:UInt8,n.toNat<128→b≠n:=fun n hn e=>by subst e;omega
  rw [List.cons_append,quoF_c lineB _ _ (h0 34 (by decide)) (h0 92 (by decide)),if_pos (by simp [lineB,h0 10 (by decide),h0 13 (by decide)])]
  have e:Sd.put ⟨out,[],true⟩ b=⟨out++[b],[],true⟩:=by simp [Sd.put,flushM,joinM]
  rw [e,quoF_high bs t (out++[b]) fun x hx=>h x (.tail _ hx)]
  simp
theorem quoF_code {l out:List UInt8} {us:List Nat} {tt:List UInt8} (hj:joinM us=some tt) {c k:Nat} (h:DecOk l c k) (hne:l≠[]) (h1:l.getD 0 0≠34) (h2:l.getD 0 0≠92) (h3:lineB (l.getD 0 0)=true) :
  quoF lineB l ⟨out,us,true⟩=quoF lineB (l.drop k) ⟨out++tt++l.take k,[],true⟩:=by
 obtain ⟨b,t,rfl⟩:∃ b t,l=b :: t:=by cases l with|nil=>exact absurd rfl hne|cons a b=>exact ⟨a,b,rfl⟩
 simp only [List.getD_cons_zero] at h1 h2 h3
 obtain ⟨m,rfl⟩:∃ m,k=m+1:=⟨k-1,by have:=h.pos;omega⟩
 rw [quoF_c lineB t _ h1 h2,if_pos h3]
 have e:Sd.put ⟨out,us,true⟩ b=⟨out++tt++[b],[],true⟩:=by simp [Sd.put,flushM,hj]
 rw [e,List.drop_succ_cons,List.take_succ_cons]
 by_cases hm:m=0
 ·subst hm;simp
 ·have hh:=h.high (by omega)
  rw [List.take_succ_cons] at hh
  have:=quoF_high (t.take m) (t.drop m) (out++tt++[b]) fun x hx=>hh x (.tail _ hx)
  rw [List.take_append_drop] at this
  rw [this];simp
end Go.Proofs.YticbbfbpeimkbaaGreatDoor
namespace Go.Proofs.YticbbfbpeimkbaaGreatDoor
open Go.Ab Go.Lib
end Go.Proofs.YticbbfbpeimkbaaGreatDoor
namespace Go.Proofs.YticbbfbpeimkbaaGreatDoor
open Go.Ab Go.Lib
def dotsT:List UInt8:=[46,46,46]
def marksT:List UInt8:=[33,36,38,40,41,58,61,64,91,93,123,124,125]
def isMark:List UInt8→Bool
 | [c]=>decide (0≤Lib.indexByte marksT c)
 | _=>false
def rightK (t:Tok):Bool:=if t.k=1 then decide (t.s=dotsT) || isMark t.s else if t.k=2 then nameM t.s else if t.k=3∨t.k=4 then decide (numK t.s=t.k) else if t.k=5 then validD t.s else false
def unitT (u:Nat):List UInt8:=[92,117,hexL.getD (u / 4096 % 16) 0,hexL.getD (u / 256 % 16) 0,hexL.getD (u / 16 % 16) 0,hexL.getD (u % 16) 0]
def pieceT (c:Nat) (bs:List UInt8):List UInt8 :=
 if c=34∨c=92 then [92,UInt8.ofNat c] else if c=10 then [92,110] else if c<32 then unitT c
 else if 65536≤c then unitT (55296+(c-65536) / 1024)++unitT (56320+(c-65536) % 1024) else bs
def tquoG:Nat→List UInt8→List UInt8
 | 0,_=>[]
 | n+1,l=>if l=[] then [] else pieceT (codeN l).1 (l.take (codeN l).2)++tquoG n (l.drop (codeN l).2)
def tquo (s:List UInt8):List UInt8:=34 :: (tquoG s.length s++[34])
def tokT (t:Tok):List UInt8:=if t.k=5 then tquo t.s else t.s
def tjoin (l:List Tok):List UInt8:=Lib.join (l.map tokT) [32]
def tprint (l:List Tok):List UInt8 × Bool:=if l.all rightK then (tjoin l,true) else ([],false)
def linesG:List UInt8→List UInt8→List (List UInt8)
 | cur,[]=>[cur]
 | cur,[c]=>if c=10∨c=13 then [cur,[]] else [cur++[c]]
 | cur,c :: d :: r=>if c=10 then cur :: linesG [] (d :: r) else if c=13 then (if d=10 then cur :: linesG [] r else cur :: linesG [] (d :: r)) else linesG (cur++[c]) (d :: r)
def linesM (s:List UInt8):List (List UInt8):=linesG [] s
def isBl (c:UInt8):Bool:=decide (c=9) || decide (c=32)
def leadN (s:List UInt8):Nat:=(s.takeWhile isBl).length
def bareL (s:List UInt8):Bool:=s.all isBl
def indG:List (List UInt8)→Int→Int
 | [],a=>a
 | s :: r,a=>indG r (if bareL s then a else if a<0∨(leadN s:Int)<a then leadN s else a)
def indM (l:List (List UInt8)):Int:=indG l.tail (-1)
def dropM (l:List (List UInt8)):List (List UInt8):=match l with
 | []=>[]
 | x :: r=>x :: r.map fun s=>s.drop (indM l).toNat
def trimR (l:List (List UInt8)):List (List UInt8):=(l.reverse.dropWhile bareL).reverse
def blockM (raw:List UInt8):List UInt8:=Lib.join (trimR ((dropM (linesM raw)).dropWhile bareL)) [10]
def threeT:List UInt8:=[34,34,34]
def escT:List UInt8:=[92,34,34,34]
def bomT:List UInt8:=[239,187,191]
def rawM:Nat→List UInt8→List UInt8→Option (List UInt8 × List UInt8)
 | 0,_,_=>none
 | n+1,raw,t=>match t with
  | []=>none
  | c :: r=>if threeT.isPrefixOf (c :: r) then some (raw,r.drop 2) else if escT.isPrefixOf (c :: r) then rawM n (raw++threeT) (r.drop 3) else rawM n (raw++[c]) r
def notEol (c:UInt8):Bool:=!(decide (c=10) || decide (c=13))
def gapN:List UInt8→Nat
 | []=>0
 | c :: r=>if c=9∨c=10∨c=13∨c=32∨c=44 then 1 else if bomT.isPrefixOf (c :: r) then 3 else if c=35 then 1+(r.takeWhile notEol).length else 0
def wordN (s:List UInt8):Nat:=(s.takeWhile fun c=>isL c || isD c).length
def oneT:List UInt8→Option (Tok × List UInt8)
 | []=>none
 | c :: r=>if threeT.isPrefixOf (c :: r) then (rawM (r.length+1) [] (r.drop 2)).map fun x=>(⟨5,blockM x.1⟩,x.2)
  else if c=34 then (quoM lineB r).map fun x=>(⟨5,x.1⟩,x.2)
  else if dotsT.isPrefixOf (c :: r) then some (⟨1,dotsT⟩,r.drop 2)
  else if 0≤Lib.indexByte marksT c then some (⟨1,[c]⟩,r)
  else if isL c then some (⟨2,(c :: r).take (wordN (c :: r))⟩,(c :: r).drop (wordN (c :: r)))
  else if (numN (c :: r)).1=0 then none
  else if ((c :: r).drop (numN (c :: r)).1).head?.any fun d=>isL d || isD d || decide (d=46) then none
  else some (⟨(numN (c :: r)).2,(c :: r).take (numN (c :: r)).1⟩,(c :: r).drop (numN (c :: r)).1)
def readG:Nat→List Tok→List UInt8→Except Int (List Tok)
 | 0,_,_=>.error 0
 | n+1,l,t=>if t=[] then .ok l else if gapN t≠0 then readG n l (t.drop (gapN t)) else match oneT t with
  | none=>.error 2
  | some (x,t')=>readG n (l++[x]) t'
def signB (c:Nat):Bool:=decide (c=9) || (decide (c=10) || (decide (c=13) || (decide (32≤c) && decide (c≤65535))))
def srcG:Nat→List UInt8→Bool
 | 0,_=>true
 | n+1,l=>if l=[] then true else decide (0<(codeN l).2) && (signB (codeN l).1 && srcG n (l.drop (codeN l).2))
def srcB (s:List UInt8):Bool:=srcG s.length s
def readT (s:List UInt8):Except Int (List Tok):=if 8192<s.length then .error 3 else if srcB s then readG (s.length+1) [] s else .error 2
end Go.Proofs.YticbbfbpeimkbaaGreatDoor
namespace Go.Proofs.YticbbfbpeimkbaaGreatDoor
open Go.Ab Go.Lib
theorem decGo (s:List UInt8):decodeGo ⟨s.toArray⟩=if s=[] then (65533,0) else decodeL s:=by
 unfold decodeGo
 cases s with
 | nil=>rfl
 | cons c r=>rw [if_neg (by simp [ByteArray.size]),if_neg (by simp)];rfl
theorem decodeC (s:List UInt8):Pure Tryz.prog 272 [.str s] (.tup [.int .i32 ((if s=[] then (65533,0) else decodeL s:Nat × Nat).1),.int .i64 ((if s=[] then (65533,0) else decodeL s:Nat × Nat).2)]):=by
 refine Pure.of_below fun γ w vs ht hv=>?_
 rw [arg_str hv]
 have h:=Tryz.utf8_DecodeRuneInString ⟨s.toArray⟩ w (utf8Tabs ht)
 rw [decGo] at h
 exact Calls.mono h fun e w' ⟨he,hb⟩=>⟨hb,_,he,rep_two (.int _ _) (.int _ _)⟩
theorem joinX:Go.Proofs.Builder.Extra Tryz.prog Tryz.lays156_ren where
 sizeBuilder:=by kernel_rfl
 liesBuilder:=by kernel_rfl
 t5:=Tryz.underlying5
 a5:=Tryz.isAgg5
 z5:=Tryz.sizeOf5
 v5:=Tryz.zeroValue5
 infoByte:=by kernel_rfl
 cellsByte:=by kernel_rfl
 sizeByte:=by kernel_rfl
 neB5:=by decide
theorem joinStrC (l:List (List UInt8)) (sep:List UInt8) (hl:(Lib.join l sep).length≤140737488355328) (hn:l.length≤140737488355328):Pure Tryz.prog 121 [.sl .no 1 (cT l),.str sep] (.str (Lib.join l sep)):=by
 refine Pure.of_below fun γ w vs ht hv=>?_
 obtain ⟨hlv,hr⟩:=hv
 match vs,hlv with
 | [v,u],_ =>
  have h0:=hr 0 _ _ rfl rfl
  cases hr 1 _ _ rfl rfl
  generalize hx:cT l=xs at h0
  cases h0 with
  | slnil _ _ ho =>
   have:l=[]:=by cases l with|nil=>rfl|cons a b=>simp [cT] at hx
   subst this
   exact (Any.strings_Join_none Tryz.lays156 joinX none 0 ⟨sep.toArray⟩ w).mono fun e w' ⟨he,hw⟩=>⟨by rw [hw];exact RowKit.Below.refl _ _,_,he,.str _⟩
  | sl0 _ _ a ho =>
   have:l=[]:=by cases l with|nil=>rfl|cons a b=>simp [cT] at hx
   subst this
   exact (Any.strings_Join_none Tryz.lays156 joinX (some a) 0 ⟨sep.toArray⟩ w).mono fun e w' ⟨he,hw⟩=>⟨by rw [hw];exact RowKit.Below.refl _ _,_,he,.str _⟩
  | sl _ _ _ b off cap cv hc hm hu hcell hrr ho =>
   subst hx
   have hcl:=cT_len l
   cases hl0:l with
   | nil =>
    subst hl0
    exact (Any.strings_Join_none Tryz.lays156 joinX (some ⟨b,off,none⟩) cap ⟨sep.toArray⟩ w).mono fun e w' ⟨he,hw⟩=>⟨by rw [hw];exact RowKit.Below.refl _ _,_,he,.str _⟩
   | cons x0 r0 =>
    have hcells:∀ (j:Nat) x,(l.map fun s=>(⟨s.toArray⟩:ByteArray))[j]?=some x→w.cell? ⟨b,off+j,none⟩=some (.string x):=fun j x hj=>by
     rw [List.getElem?_map,Option.map_eq_some_iff] at hj
     obtain ⟨s,h1,rfl⟩:=hj
     have g1:(cT l)[j]?=some [.str s]:=by simp [cT,h1]
     have h2:=hcell j _ g1 0 (by decide)
     have h3:=hrr j _ g1 0 (.str s) rfl
     have e:off+(j*1+0)=off+j:=by omega
     rw [e] at h2
     generalize cv j 0=y at h2 h3
     cases h3
     exact h2.1
    have hbk:b<w.heap.size:=by
     have:=hcells 0 ⟨x0.toArray⟩ (by rw [hl0];rfl)
     exact World.block_lt_of_cell? w _ this
    have hmap:(l.map fun s=>(⟨s.toArray⟩:ByteArray)).map (·.data.toList)=l:=by
     rw [List.map_map];exact (List.map_congr_left (g:=id) fun s _=>by simp).trans (List.map_id l)
    have h:=Any.strings_Join Tryz.lays156 joinX b off cap (l.map fun s=>(⟨s.toArray⟩:ByteArray)) ⟨sep.toArray⟩ w hcells hbk (by simpa using hn) (by rw [List.length_map];omega) (by rw [hmap];exact hl)
    rw [List.length_map,hmap] at h
    rw [← hl0,hcl]
    exact h.mono fun e w' ⟨he,hb⟩=>⟨hb,_,he,.str _⟩
theorem codeC (s:List UInt8) (i:Nat) (hi:i<s.length) (hs:s.length≤Lim):Pure Tryz.prog 210 [.str s,.int .i64 i] (.tup [.int .i64 (codeN (s.drop i)).1,.int .i64 (codeN (s.drop i)).2]):=by
 refine Pure.go ir210 ck210 (Nat.le_refl _) fun KP Q hQ=>?_
 simp only [Lim] at hs
 have hne:s.drop i≠[]:=fun e=>by have:=congrArg List.length e;simp at this;omega
 have h1:¬ ((i:Int)<0):=by omega
 have h2:¬ ((s.length:Int)≤i):=by omega
 have h3:((i:Int)≤s.length)=True:=eq_true (by omega)
 simp (disch:=first|omega|assumption) only [ir210,h1,h2,h3,go_sem,↓reduceIte]
 refine goK_pure (decodeC (s.drop i)) ?_
 have hw:=decodeL_width (s.drop i)
 have hr:=decodeL_rune (s.drop i)
 unfold codeN at hQ
 simp only [hne,if_false] at hQ ⊢
 generalize decodeL (s.drop i)=x at *
 obtain ⟨c,k⟩:=x
 simp only at hw hr hQ
 have e:IntKind.wrap .i64 (c:Int)=c:=wrap64 (by omega) (by omega)
 by_cases hc:c=65533
 ·have g1:((c:Int)=65533)=True:=eq_true (by omega)
  by_cases hk:k<2
  ·have g2:((k:Int)<2)=True:=eq_true (by omega)
   have e1:(c,k)=(65533,1):=by rw [hc];congr 1;omega
   rw [if_pos e1] at hQ
   simp (disch:=first|omega|assumption) only [g1,g2,go_sem,↓reduceIte]
   exact hQ _ _ _ _ nofun rfl (by simp [tupOf,envOf,AV.strip,AV.strip1])
  ·have g2:¬ ((k:Int)<2):=by omega
   have e1:¬ ((c,k)=(65533,1)):=fun h=>by cases h;omega
   rw [if_neg e1] at hQ
   simp (disch:=first|omega|assumption) only [g1,g2,e,go_sem,↓reduceIte]
   exact hQ _ _ _ _ nofun rfl (by simp [tupOf,envOf,AV.strip,AV.strip1])
 ·have g1:¬ ((c:Int)=65533):=by omega
  have e1:¬ ((c,k)=(65533,1)):=fun h=>by cases h;omega
  rw [if_neg e1] at hQ
  simp (disch:=first|omega|assumption) only [g1,e,go_sem,↓reduceIte]
  exact hQ _ _ _ _ nofun rfl (by simp [tupOf,envOf,AV.strip,AV.strip1])
theorem signC (c:Nat) (h:c≤1114111):Pure Tryz.prog 216 [.int .i64 c] (.bool (signB c)):=by
 refine Pure.go ir216 ck216 (Nat.le_refl _) fun KP Q hQ=>?_
 by_cases h1:c=9
 ·have g:((c:Int)=9)=True:=eq_true (by omega)
  simp (disch:=first|omega|assumption) only [ir216,g,go_sem,↓reduceIte]
  exact hQ _ _ _ _ nofun rfl (by simp [tupOf,envOf,AV.strip,AV.strip1,signB,h1])
 have g1:¬ ((c:Int)=9):=by omega
 by_cases h2:c=10
 ·have g:((c:Int)=10)=True:=eq_true (by omega)
  simp (disch:=first|omega|assumption) only [ir216,g1,g,go_sem,↓reduceIte]
  exact hQ _ _ _ _ nofun rfl (by simp [tupOf,envOf,AV.strip,AV.strip1,signB,h2])
 have g2:¬ ((c:Int)=10):=by omega
 by_cases h3:c=13
 ·have g:((c:Int)=13)=True:=eq_true (by omega)
  simp (disch:=first|omega|assumption) only [ir216,g1,g2,g,go_sem,↓reduceIte]
  exact hQ _ _ _ _ nofun rfl (by simp [tupOf,envOf,AV.strip,AV.strip1,signB,h3])
 have g3:¬ ((c:Int)=13):=by omega
 by_cases h4:32≤c
 ·have g4:((32:Int)≤c)=True:=eq_true (by omega)
  by_cases h5:c≤65535
  ·have g5:((c:Int)≤65535)=True:=eq_true (by omega)
   simp (disch:=first|omega|assumption) only [ir216,g1,g2,g3,g4,g5,go_sem,↓reduceIte]
   exact hQ _ _ _ _ nofun rfl (by simp [tupOf,envOf,AV.strip,AV.strip1,signB,h4,h5])
  ·have g5:¬ ((c:Int)≤65535):=by omega
   simp (disch:=first|omega|assumption) only [ir216,g1,g2,g3,g4,g5,go_sem,↓reduceIte]
   exact hQ _ _ _ _ nofun rfl (by simp [tupOf,envOf,AV.strip,AV.strip1,signB,h1,h2,h3,h5])
 ·have g4:¬ ((32:Int)≤c):=by omega
  simp (disch:=first|omega|assumption) only [ir216,g1,g2,g3,g4,go_sem,↓reduceIte]
  exact hQ _ _ _ _ nofun rfl (by simp [tupOf,envOf,AV.strip,AV.strip1,signB,h1,h2,h3,h4])
def unitsG:Nat→List UInt8→List Nat
 | 0,_=>[]
 | n+1,l=>if l=[] then [] else (if 65536≤(codeN l).1 then [55296+((codeN l).1-65536) / 1024,56320+((codeN l).1-65536) % 1024] else [(codeN l).1])++unitsG n (l.drop (codeN l).2)
theorem unitsG_nil (n:Nat):unitsG n []=[]:=by cases n<;>simp [unitsG]
theorem unitsG_fuel:∀ (n m:Nat) (l:List UInt8),l.length≤n→l.length≤m→validD l=true→unitsG n l=unitsG m l
 | 0,m,l,h,_,_=>by rw [List.length_eq_zero_iff.1 (by omega:l.length=0),unitsG_nil,unitsG_nil]
 | n,0,l,_,h,_=>by rw [List.length_eq_zero_iff.1 (by omega:l.length=0),unitsG_nil,unitsG_nil]
 | n+1,m+1,l,h1,h2,hv=>by
  by_cases hne:l=[]
  ·subst hne;rw [unitsG_nil,unitsG_nil]
  ·obtain ⟨hd,hv2⟩:=code_ok hne hv
   have:=hd.pos
   have:=hd.len
   simp only [unitsG,hne,if_false]
   rw [unitsG_fuel n m _ (by simp;omega) (by simp;omega) hv2]
theorem tdiv1024 (n:Nat):((n:Int)).tdiv 1024=((n / 1024:Nat):Int):=by rw [Int.tdiv_eq_ediv_of_nonneg (by omega)];omega
theorem tmod1024 (n:Nat):((n:Int)).tmod 1024=((n % 1024:Nat):Int):=by rw [Int.tmod_eq_emod_of_nonneg (by omega)];omega
theorem unitsC (s:List UInt8) (hv:validD s=true) (hs:s.length≤Lim):Pure Tryz.prog 211 [.str s] (.tup [.sl .no 1 (cU (unitsG s.length s)),.bool true]):=by
 refine Pure.go ir211 ck211 (Nat.le_refl _) fun KP Q hQ=>?_
 have hs':=hs
 simp only [Lim] at hs
 simp (disch:=first|omega|assumption) only [ir211,go_sem,↓reduceIte]
 refine goL_st (fun x:Own × List Nat × Nat=>[(4,.sl x.1 1 (cU x.2.1)),(5,.int .i64 x.2.2)])
  (fun x H=>x.2.2≤s.length∧x.2.1.length≤2*x.2.2∧unitsG s.length s=x.2.1++unitsG (s.drop x.2.2).length (s.drop x.2.2)∧validD (s.drop x.2.2)=true∧OwnS Heap.emp .nil H x.1 x.2.1.length 1) (fun x=>s.length-x.2.2) (.nil,[],0) (by simp (disch:=first|omega|assumption) only [cU,go_sem,↓reduceIte]) ⟨by simp,by simp,by simp,by simpa using hv,OwnS.refl rfl⟩ ?_
 rintro ⟨o,acc,i⟩ H J ⟨hi,hai,hc,hv,hs1⟩ hJ
 simp only at hi hai hc hv hs1
 by_cases hlt:i<s.length
 case neg =>
  have hlt':¬ (i:Int)<s.length:=by omega
  rw [List.drop_of_length_le (by omega)] at hc
  rw [unitsG_nil,List.append_nil] at hc
  simp (disch:=first|omega|assumption) only [hlt',go_sem,↓reduceIte]
  exact hQ _ _ _ _ nofun rfl (by simp [tupOf,envOf,AV.strip,AV.strip1,hc])
 have hlt':(i:Int)<s.length:=by omega
 have hne:s.drop i≠[]:=fun e=>by have:=congrArg List.length e;simp at this;omega
 have hcl:=cU_len acc
 obtain ⟨hd,hv2⟩:=code_ok hne hv
 have hp:=hd.pos
 have hle:=hd.len
 have hmax:=hd.le
 have hst:unitsG (s.drop i).length (s.drop i)=(if 65536≤(codeN (s.drop i)).1 then [55296+((codeN (s.drop i)).1-65536) / 1024,56320+((codeN (s.drop i)).1-65536) % 1024] else [(codeN (s.drop i)).1])++unitsG ((s.drop i).drop (codeN (s.drop i)).2).length ((s.drop i).drop (codeN (s.drop i)).2):=by
  obtain ⟨n,hn⟩:∃ n,(s.drop i).length=n+1:=⟨(s.drop i).length-1,by omega⟩
  rw [hn,unitsG,if_neg hne,unitsG_fuel n _ _ (by simp at hn ⊢;omega) (Nat.le_refl _) hv2]
 simp (disch:=first|omega|assumption) only [hlt',go_sem,↓reduceIte]
 refine goK_pure (codeC s i hlt hs') ?_
 rw [hst] at hc
 rw [List.drop_drop] at hc hv2
 rw [List.length_drop] at hle
 generalize (codeN (s.drop i)).1=c at *
 generalize (codeN (s.drop i)).2=k at *
 have h0':¬ ((k:Int)=0):=by omega
 by_cases hc6:65536≤c
 ·have g:((65536:Int)≤c)=True:=eq_true (by omega)
  have w1:IntKind.wrap .i64 ((c:Int)-65536)=((c-65536:Nat):Int):=by rw [wrap64 (by omega) (by omega)];omega
  have w2:IntKind.wrap .i64 (((c-65536) / 1024:Nat):Int)=(((c-65536) / 1024:Nat):Int):=wrap64 (by omega) (by omega)
  have w3:IntKind.wrap .i64 (55296+(((c-65536) / 1024:Nat):Int))=((55296+(c-65536) / 1024:Nat):Int):=by rw [wrap64 (by omega) (by omega)];omega
  have w4:IntKind.wrap .i64 (56320+(((c-65536) % 1024:Nat):Int))=((56320+(c-65536) % 1024:Nat):Int):=by rw [wrap64 (by omega) (by omega)];omega
  rw [if_pos hc6] at hc
  simp (disch:=first|omega|assumption) only [h0',g,w1,tdiv1024,tmod1024,w2,w3,w4,go_sem,↓reduceIte]
  refine goP_ownS (by rw [hcl];exact hs1.own) (by simp only [hcl,List.length_cons,List.length_nil];omega) (by simp only [hcl,List.length_cons,List.length_nil,maxLen];omega) fun o' H' hs2=>?_
  simp (disch:=first|omega|assumption) only [wrap64,go_sem,↓reduceIte]
  exact goJ (hJ (o',acc++[55296+(c-65536) / 1024,56320+(c-65536) % 1024],i+k) H' (by simp only;omega) ⟨by simp only;omega,by simp;omega,by rw [hc];simp,hv2,hs1.trans (by simpa [hcl] using hs2)⟩) (by simp (disch:=first|omega|assumption) only [cU,List.map_append,Int.natCast_add,go_sem,↓reduceIte])
 ·have g:¬ ((65536:Int)≤c):=by omega
  rw [if_neg hc6] at hc
  simp (disch:=first|omega|assumption) only [h0',g,go_sem,↓reduceIte]
  refine goP_ownS (by rw [hcl];exact hs1.own) (by simp only [hcl,List.length_cons,List.length_nil];omega) (by simp only [hcl,List.length_cons,List.length_nil,maxLen];omega) fun o' H' hs2=>?_
  simp (disch:=first|omega|assumption) only [wrap64,go_sem,↓reduceIte]
  exact goJ (hJ (o',acc++[c],i+k) H' (by simp only;omega) ⟨by simp only;omega,by simp;omega,by rw [hc];simp,hv2,hs1.trans (by simpa [hcl] using hs2)⟩) (by simp (disch:=first|omega|assumption) only [cU,List.map_append,Int.natCast_add,go_sem,↓reduceIte])
end Go.Proofs.YticbbfbpeimkbaaGreatDoor
namespace Go.Proofs.YticbbfbpeimkbaaGreatDoor
open Go.Ab Go.Lib
theorem decN_pref {n n' b0 b1 b2 b3 c1 c2 c3 c k:Nat} (h:decodeN n b0 b1 b2 b3=(c,k)) (hv:(c,k)≠(65533,1)) (hn:k≤n') (h1:1<k→c1=b1) (h2:2<k→c2=b2) (h3:3<k→c3=b3):decodeN n' b0 c1 c2 c3=(c,k):=by
 unfold decodeN at h
 split at h
 ·rename_i h0
  unfold decodeN
  rw [if_pos h0,h]
 rename_i h0
 split at h
 ·rename_i hA
  split at h
  ·rename_i hB
   cases h
   unfold decodeN
   rw [if_neg h0,h1 (by decide),if_pos ⟨hA.1,by omega,hA.2.2⟩,if_pos hB]
  ·exact absurd h.symm hv
 rename_i hA
 split at h
 ·rename_i hB
  split at h
  ·rename_i hC
   cases h
   unfold decodeN
   rw [if_neg h0,h1 (by decide),h2 (by decide),if_neg (by omega),if_pos ⟨hB.1,⟨by omega,hB.2.1.2⟩,by omega,hB.2.2.2⟩,if_pos hC]
  ·exact absurd h.symm hv
 rename_i hB
 split at h
 ·rename_i hC
  split at h
  ·rename_i hD
   cases h
   unfold decodeN
   rw [if_neg h0,h1 (by decide),h2 (by decide),h3 (by decide),if_neg (by omega),if_neg (by omega),if_pos ⟨hC.1,⟨by omega,hC.2.1.2⟩,⟨by omega,hC.2.2.1.2⟩,by omega,hC.2.2.2.2⟩,if_pos hD]
  ·exact absurd h.symm hv
 ·exact absurd h.symm hv
theorem codeN_dec {l:List UInt8} (hne:l≠[]) (h:(codeN l).2≠0):codeN l=decodeL l∧decodeL l≠(65533,1):=by
 unfold codeN at h ⊢
 rw [if_neg hne] at h ⊢
 split at h
 ·exact absurd rfl h
 ·rename_i h2;rw [if_neg h2];exact ⟨rfl,h2⟩
theorem codeN_pref {l:List UInt8} (hne:l≠[]) (h:(codeN l).2≠0) (t:List UInt8):codeN (l.take (codeN l).2++t)=codeN l:=by
 obtain ⟨e,hv⟩:=codeN_dec hne h
 have hk:=decodeL_le l hne
 rw [e]
 generalize hd:decodeL l=x at *
 obtain ⟨c,k⟩:=x
 simp only at *
 have h2:decodeL (l.take k++t)=(c,k):=by
  rw [decodeL_N] at hd ⊢
  have hg:∀ j,j<k→(l.take k++t).getD j 0=l.getD j 0:=fun j hj=>by
   simp only [List.getD_eq_getElem?_getD]
   rw [List.getElem?_append_left (by simp;omega),List.getElem?_take_of_lt hj]
  have hk1:1≤k:=by rw [← show (decodeL l).2=k by rw [decodeL_N,hd]];exact decodeL_width l
  rw [hg 0 (by omega)]
  exact decN_pref hd hv (by simp;omega) (fun hj=>by rw [hg 1 hj]) (fun hj=>by rw [hg 2 hj]) fun hj=>by rw [hg 3 hj]
 have hne2:l.take k++t≠[]:=fun e=>by
  have h3:=congrArg List.length e
  have hk1:1≤k:=by rw [← show (decodeL l).2=k by rw [hd]];exact decodeL_width l
  have hl:0<l.length:=List.length_pos_iff.2 hne
  simp only [List.length_append,List.length_take,List.length_nil] at h3;omega
 unfold codeN
 rw [if_neg hne2,h2,if_neg hv]
theorem codeN_ascii (b:UInt8) (t:List UInt8) (h:b.toNat<128):codeN (b :: t)=(b.toNat,1):=by
 unfold codeN
 rw [if_neg (by simp),decodeL_ascii b t h,if_neg (by simp;omega)]
def EndT (r:List UInt8):Prop:=r=[]∨∃ c t,r=c :: t∧(c=32∨c=10)
theorem run1_end {r:List UInt8} (h:EndT r):run1 r=0:=by
 rcases h with rfl|⟨c,t,rfl,rfl|rfl⟩
 ·rfl
 all_goals simp [run1,isD]
theorem run1_app:∀ (a:List UInt8) {r:List UInt8},EndT r→run1 (a++r)=run1 a
 | [],r,h=>run1_end h
 | c :: a,r,h=>by simp only [List.cons_append,run1];rw [run1_app a h]
theorem intN_app (a:List UInt8) {r:List UInt8} (h:EndT r):intN (a++r)=intN a:=by
 unfold intN
 rw [run1_app a h]
 cases a with
 | nil=>simp [run1]
 | cons c a=>simp
theorem wholeN_app (a:List UInt8) {r:List UInt8} (h:EndT r):wholeN (a++r)=wholeN a:=by
 cases a with
 | nil =>
  have h1:=run1_end h
  have h2:wholeN []=0:=rfl
  rw [List.nil_append,h2]
  unfold wholeN
  rcases h with rfl|⟨c,t,rfl,rfl|rfl⟩
  ·rfl
  all_goals
   rw [if_neg (by simp)];unfold intN;rw [if_pos h1]
 | cons c a =>
  by_cases hc:c=45
  ·subst hc;rw [List.cons_append,wholeN_neg,wholeN_neg,run1_app a h,intN_app a h]
  ·rw [wholeN_pos (s:=c :: a++r) (by simp [hc]),wholeN_pos (s:=c :: a) (by simp [hc]),intN_app (c :: a) h]
theorem fracN_app (a:List UInt8) {r:List UInt8} (h:EndT r):fracN (a++r)=fracN a:=by
 cases a with
 | nil=>rcases h with rfl|⟨c,t,rfl,rfl|rfl⟩<;>rfl
 | cons c a=>simp [fracN,run1_app a h]
theorem powN_app (a:List UInt8) {r:List UInt8} (h:EndT r):powN (a++r)=powN a:=by
 cases a with
 | nil =>
  rcases h with rfl|⟨c,t,rfl,rfl|rfl⟩
  ·rfl
  all_goals simp [powN,isE]
 | cons c a =>
  have hs:sgN (a++r)=sgN a:=by
   cases a with
   | nil=>rcases h with rfl|⟨c,t,rfl,rfl|rfl⟩<;>simp [sgN]
   | cons d a=>simp [sgN]
  have hd:(a++r).drop (sgN a)=a.drop (sgN a)++r:=List.drop_append_of_le_length (sgN_le a)
  simp only [List.cons_append,powN,hs,hd,run1_app _ h]
theorem numN_app {a:List UInt8} {r:List UInt8} (h:EndT r):numN (a++r)=numN a:=by
 have h1:=wholeN_le a
 have e1:(a++r).drop (wholeN a)=a.drop (wholeN a)++r:=List.drop_append_of_le_length h1
 have h2:=fracN_le (a.drop (wholeN a))
 simp only [List.length_drop] at h2
 have e2:(a++r).drop (wholeN a+fracN (a.drop (wholeN a)))=a.drop (wholeN a+fracN (a.drop (wholeN a)))++r:=List.drop_append_of_le_length (by omega)
 unfold numN
 rw [wholeN_app a h,e1,fracN_app _ h,e2,powN_app _ h]
theorem hexD_L:∀ x:Fin 16,hexD (hexL.getD x.val 0)=some x.val:=by decide +kernel
theorem hexD_m (n:Nat):hexD (hexL.getD (n % 16) 0)=some (n % 16):=hexD_L ⟨n % 16,Nat.mod_lt _ (by decide)⟩
theorem unitM_unit {u:Nat} (h:u<65536) (t:List UInt8):unitM (hexL.getD (u / 4096 % 16) 0 :: hexL.getD (u / 256 % 16) 0 :: hexL.getD (u / 16 % 16) 0 :: hexL.getD (u % 16) 0 :: t)=some u:=by
 simp only [unitM,unitG,hexD_m]
 congr 1
 omega
theorem joinM_app:∀ (us vs:List Nat) (tt:List UInt8),joinM us=some tt→joinM (us++vs)=(joinM vs).map (tt++·)
 | [],vs,tt,h=>by
  simp only [joinM,Option.some.injEq] at h;subst h
  rw [List.nil_append]
  cases hj:joinM vs<;>simp
 | [u],vs,tt,h=>by
  unfold joinM at h
  rw [List.singleton_append]
  conv=>lhs;unfold joinM
  split at h
  ·cases h
  ·rename_i h1
   rw [if_neg h1]
   split at h
   ·cases h
   ·rename_i h2
    rw [if_neg h2]
    simp only [joinM,Option.map_some,Option.some.injEq,List.append_nil] at h
    subst h;rfl
 | u :: v :: r,vs,tt,h=>by
  unfold joinM at h
  rw [List.cons_append]
  conv=>lhs;unfold joinM
  split at h
  ·cases h
  ·rename_i h1
   rw [if_neg h1]
   split at h
   ·rename_i h2
    rw [if_pos h2]
    simp only [List.cons_append] at h ⊢
    split at h
    ·cases h
    ·rename_i h3
     rw [if_neg h3]
     cases hj:joinM r with
     | none=>rw [hj] at h;cases h
     | some x =>
      rw [hj] at h
      simp only [Option.map_some,Option.some.injEq] at h
      rw [joinM_app r vs x hj]
      subst h
      cases joinM vs<;>simp
   ·rename_i h2
    rw [if_neg h2]
    cases hj:joinM (v :: r) with
    | none=>rw [hj] at h;cases h
    | some x =>
     rw [hj] at h
     simp only [Option.map_some,Option.some.injEq] at h
     rw [joinM_app (v :: r) vs x hj]
     subst h
     cases joinM vs<;>simp
theorem joinM_one {u:Nat} (h1:u≤65535) (h2:u<55296∨57343<u):joinM [u]=some (encM u):=by
 unfold joinM;rw [if_neg (by omega),if_neg (by omega)];simp [joinM]
theorem joinM_two {c:Nat} (h1:65536≤c) (h2:c≤1114111):joinM [55296+(c-65536) / 1024,56320+(c-65536) % 1024]=some (encM c):=by
 have e:65536+1024*(55296+(c-65536) / 1024-55296)+(56320+(c-65536) % 1024-56320)=c:=by omega
 unfold joinM;rw [if_neg (by omega),if_pos (by omega)]
 simp only
 rw [if_neg (by omega),e]
 simp [joinM]
theorem quoF_unit {u:Nat} (h:u<65536) (t out:List UInt8) (us:List Nat):quoF lineB (unitT u++t) ⟨out,us,true⟩=quoF lineB t ⟨out,us++[u],true⟩:=by
 simp only [unitT,List.cons_append,List.nil_append]
 rw [quoF_92]
 simp only [escM,if_true,unitM_unit h,Option.map_some,List.drop_succ_cons,List.drop_zero]
theorem quoF_esc {k:UInt8} {v:UInt8} (hk:k≠117) (h1:¬ Lib.indexByte escL k<0) (h2:escV.getD (Lib.indexByte escL k).toNat 0=v) {us:List Nat} {tt:List UInt8} (hj:joinM us=some tt) (t out:List UInt8) :
  quoF lineB (92 :: k :: t) ⟨out,us,true⟩=quoF lineB t ⟨out++tt++[v],[],true⟩:=by
 rw [quoF_92]
 simp only [escM,if_neg hk,if_neg h1,h2]
 simp [Sd.put,flushM,hj]
theorem take_one {l:List UInt8} {c k:Nat} (h:DecOk l c k) (hc:c<128):k=1∧l.take k=[UInt8.ofNat c]∧(l.getD 0 0).toNat=c:=by
 have e:=h.enc
 have hl:(encM c).length=1:=by unfold encM;rw [if_pos (by omega)];rfl
 have hk:k=1:=by
  rw [e] at hl
  have:=h.len
  simp at hl;omega
 refine ⟨hk,by rw [← e];unfold encM;rw [if_pos (by omega)],(h.one hk).1.symm⟩
theorem surr {l:List UInt8} (hne:l≠[]) (h:(codeN l).2≠0):(codeN l).1<55296∨57343<(codeN l).1:=by
 obtain ⟨e,hv⟩:=codeN_dec hne h
 rw [e]
 rw [decodeL_N] at hv ⊢
 generalize (l.getD 0 0).toNat=b0 at *
 generalize (l.getD 1 0).toNat=b1 at *
 generalize (l.getD 2 0).toNat=b2 at *
 generalize (l.getD 3 0).toNat=b3 at *
 unfold decodeN at hv ⊢
 repeat' split
 all_goals first|(simp only;omega)|(simp_all;done)|(simp_all;omega)
theorem quoF_tquo:∀ (n:Nat) (l out:List UInt8) (us:List Nat) (tt rest:List UInt8),l.length≤n→validD l=true→joinM us=some tt→quoF lineB (tquoG n l++34 :: rest) ⟨out,us,true⟩=some (⟨out++tt++l,[],true⟩,rest)
 | 0,l,out,us,tt,rest,hn,_,hj=>by
  obtain rfl:l=[]:=List.length_eq_zero_iff.1 (by omega)
  simp only [tquoG,List.nil_append]
  rw [quoF_34];simp [flushM,hj]
 | n+1,l,out,us,tt,rest,hn,hv,hj=>by
  rw [tquoG]
  by_cases hne:l=[]
  ·subst hne
   simp only [if_true,List.nil_append]
   rw [quoF_34];simp [flushM,hj]
  ·rw [if_neg hne]
   obtain ⟨hd,hv2⟩:=code_ok hne hv
   have hpos:=hd.pos
   have hle:=hd.len
   have hsur:=surr hne (by omega)
   have hmax:=hd.le
   have hen:=hd.enc
   have hpre:=codeN_pref hne (by omega:(codeN l).2≠0)
   generalize (codeN l).1=c at *
   generalize (codeN l).2=k at *
   have hl:(l.drop k).length≤n:=by simp;omega
   have hcat:l.take k++l.drop k=l:=List.take_append_drop k l
   have ih:∀ out us tt,joinM us=some tt→quoF lineB (tquoG n (l.drop k)++34 :: rest) ⟨out,us,true⟩=some (⟨out++tt++l.drop k,[],true⟩,rest):=fun out us tt hj=>quoF_tquo n (l.drop k) out us tt rest hl hv2 hj
   have fin:∀ x:List UInt8,x=l.take k→out++tt++x++l.drop k=out++tt++l:=fun x hx=>by rw [hx,List.append_assoc,hcat]
   rw [List.append_assoc]
   unfold pieceT
   by_cases h1:c=34∨c=92
   ·rw [if_pos h1]
    obtain ⟨rfl,ht,_⟩:=take_one hd (by omega)
    simp only [List.cons_append,List.nil_append]
    rcases h1 with rfl|rfl
    ·rw [quoF_esc (v:=34) (by decide) (by decide) (by decide) hj,ih _ [] [] rfl,List.append_nil]
     exact congrArg some (Prod.ext (by simp only [Sd.mk.injEq,and_self,and_true];exact fin [34] (by rw [ht];rfl)) rfl)
    ·rw [quoF_esc (v:=92) (by decide) (by decide) (by decide) hj,ih _ [] [] rfl,List.append_nil]
     exact congrArg some (Prod.ext (by simp only [Sd.mk.injEq,and_self,and_true];exact fin [92] (by rw [ht];rfl)) rfl)
   rw [if_neg h1]
   by_cases h2:c=10
   ·rw [if_pos h2]
    subst h2
    obtain ⟨rfl,ht,_⟩:=take_one hd (by omega)
    simp only [List.cons_append,List.nil_append]
    rw [quoF_esc (v:=10) (by decide) (by decide) (by decide) hj,ih _ [] [] rfl,List.append_nil]
    exact congrArg some (Prod.ext (by simp only [Sd.mk.injEq,and_self,and_true];exact fin [10] (by rw [ht];rfl)) rfl)
   rw [if_neg h2]
   by_cases h3:c<32
   ·rw [if_pos h3,quoF_unit (by omega),ih out (us++[c]) (tt++encM c) (by rw [joinM_app us [c] tt hj,joinM_one (by omega) (by omega)];rfl)]
    exact congrArg some (Prod.ext (by simp only [Sd.mk.injEq,and_self,and_true];rw [← List.append_assoc];exact fin (encM c) hen) rfl)
   rw [if_neg h3]
   by_cases h4:65536≤c
   ·rw [if_pos h4,List.append_assoc,quoF_unit (by omega),quoF_unit (by omega),ih out (us++[_]++[_]) (tt++encM c) (by rw [List.append_assoc,joinM_app us _ tt hj,List.singleton_append,joinM_two h4 (by omega)];rfl)]
    exact congrArg some (Prod.ext (by simp only [Sd.mk.injEq,and_self,and_true];rw [← List.append_assoc];exact fin (encM c) hen) rfl)
   ·rw [if_neg h4]
    obtain ⟨b,t,hbt⟩:∃ b t,l=b :: t:=by cases l with|nil=>exact absurd rfl hne|cons a b=>exact ⟨a,b,rfl⟩
    have hg:(l.take k++(tquoG n (l.drop k)++34 :: rest)).getD 0 0=l.getD 0 0:=by
     rw [hbt];obtain ⟨m,rfl⟩:∃ m,k=m+1:=⟨k-1,by omega⟩;simp
    have hd2:DecOk (l.take k++(tquoG n (l.drop k)++34 :: rest)) c k:=by
     have htk:(l.take k++(tquoG n (l.drop k)++34 :: rest)).take k=l.take k:=List.take_left' (by simp;omega)
     exact ⟨by rw [htk];exact hen,hmax,hpos,by simp;omega,fun e=>by rw [hg];exact hd.one e,fun e=>by rw [htk];exact hd.high e⟩
    have hb:(l.getD 0 0).toNat=c∨128≤(l.getD 0 0).toNat:=by
     by_cases hk1:k=1
     ·exact .inl (hd.one hk1).1.symm
     ·right
      refine hd.high hk1 _ ?_
      rw [hbt];obtain ⟨m,rfl⟩:∃ m,k=m+1:=⟨k-1,by omega⟩;simp
    have hne0:∀ m:UInt8,m.toNat<128→m.toNat≠c→l.getD 0 0≠m:=fun m hm hc e=>by rw [e] at hb;omega
    rw [quoF_code hj hd2 (by rw [hbt];obtain ⟨m,rfl⟩:∃ m,k=m+1:=⟨k-1,by omega⟩;simp) (by rw [hg];exact hne0 34 (by decide) (by simp;omega)) (by rw [hg];exact hne0 92 (by decide) (by simp;omega))
     (by rw [hg];simp only [lineB,Bool.and_eq_true,decide_eq_true_eq];exact ⟨hne0 10 (by decide) (by simp;omega),hne0 13 (by decide) (by simp;omega)⟩)]
    rw [List.take_left' (by simp;omega),List.drop_left' (by simp;omega),ih _ [] [] rfl,List.append_nil]
    exact congrArg some (Prod.ext (by simp only [Sd.mk.injEq,and_self,and_true];exact fin _ rfl) rfl)
theorem quoM_tquo (s rest:List UInt8) (hv:validD s=true):quoM lineB (tquoG s.length s++34 :: rest)=some (s,rest):=by
 rw [quoM_F,quoF_tquo s.length s [] [] [] rest (Nat.le_refl _) hv rfl]
 simp [finF]
end Go.Proofs.YticbbfbpeimkbaaGreatDoor
namespace Go.Proofs.YticbbfbpeimkbaaGreatDoor
open Go.Ab Go.Lib
theorem unitT_len (u:Nat):(unitT u).length=6:=rfl
theorem pieceT_len {l:List UInt8} {c k:Nat} (h:DecOk l c k):(pieceT c (l.take k)).length≤6*k:=by
 have hp:=h.pos
 have hl:=h.len
 have he:=h.enc
 unfold pieceT
 split
 ·simp;omega
 split
 ·simp;omega
 split
 ·rw [unitT_len];omega
 split
 ·have:k=4:=by
   have e:=congrArg List.length he
   unfold encM at e
   rw [if_neg (by omega),if_neg (by omega),if_neg (by omega)] at e
   simp at e;omega
  simp only [List.length_append,unitT_len];omega
 ·simp;omega
theorem tquoG_nil (n:Nat):tquoG n []=[]:=by cases n<;>simp [tquoG]
theorem tquoG_fuel:∀ (n m:Nat) (l:List UInt8),l.length≤n→l.length≤m→validD l=true→tquoG n l=tquoG m l
 | 0,m,l,h,_,_=>by rw [List.length_eq_zero_iff.1 (by omega:l.length=0),tquoG_nil,tquoG_nil]
 | n,0,l,_,h,_=>by rw [List.length_eq_zero_iff.1 (by omega:l.length=0),tquoG_nil,tquoG_nil]
 | n+1,m+1,l,h1,h2,hv=>by
  by_cases hne:l=[]
  ·subst hne;rw [tquoG_nil,tquoG_nil]
  ·obtain ⟨hd,hv2⟩:=code_ok hne hv
   have:=hd.pos
   have:=hd.len
   simp only [tquoG,hne,if_false]
   rw [tquoG_fuel n m _ (by simp;omega) (by simp;omega) hv2]
theorem tquoG_len:∀ (n:Nat) (l:List UInt8),validD l=true→(tquoG n l).length≤6*l.length
 | 0,l,_=>by simp [tquoG]
 | n+1,l,hv=>by
  by_cases hne:l=[]
  ·subst hne;simp [tquoG]
  ·obtain ⟨hd,hv2⟩:=code_ok hne hv
   have h1:=pieceT_len hd
   have h2:=tquoG_len n _ hv2
   have h3:=hd.len
   simp only [tquoG,hne,if_false,List.length_append]
   simp only [List.length_drop] at h2
   omega
def tquoF (l:List UInt8):List UInt8:=tquoG l.length l
theorem tquoF_step {l:List UInt8} (hne:l≠[]) (hv:validD l=true):tquoF l=pieceT (codeN l).1 (l.take (codeN l).2)++tquoF (l.drop (codeN l).2):=by
 obtain ⟨hd,hv2⟩:=code_ok hne hv
 have:=hd.pos
 have:=hd.len
 unfold tquoF
 obtain ⟨n,hn⟩:∃ n,l.length=n+1:=⟨l.length-1,by omega⟩
 rw [hn,tquoG,if_neg hne,tquoG_fuel n _ _ (by simp;omega) (Nat.le_refl _) hv2]
theorem tquo_len (s:List UInt8) (hv:validD s=true):(tquo s).length≤6*s.length+2:=by
 have:=tquoG_len s.length s hv
 simp only [tquo,List.length_cons,List.length_append,List.length_nil];omega
theorem tokT_len {t:Tok} (h:rightK t=true):(tokT t).length≤6*t.s.length+2:=by
 unfold tokT
 split
 ·rename_i h5
  unfold rightK at h
  rw [h5] at h
  exact tquo_len _ (by simpa using h)
 ·omega
theorem fdN (u k:Nat) (hk:k≤64):(u:Int).fdiv (2 ^ min k IntKind.i64.bits)=((u / 2 ^ k:Nat):Int):=by
 have e:min k IntKind.i64.bits=k:=by show min k 64=k;omega
 rw [e,Int.fdiv_eq_ediv_of_nonneg _ (by exact_mod_cast Nat.zero_le _)]
 norm_cast
theorem tmod16 (n:Nat):((n:Int)).tmod 16=((n % 16:Nat):Int):=by rw [Int.tmod_eq_emod_of_nonneg (by omega)];omega
theorem unitTC (u:Nat) (hu:u<65536) (acc:List UInt8) (H:Heap) (o:Own) (ho:Owned H o acc.length 1) (hb:acc.length≤Lim) :
  Gives Tryz.prog 212 [.sl o 1 (bytesOf acc),.int .i64 u] H o 1 (bytesOf (acc++unitT u)):=by
 refine ACalls.goO ir212 ck212 (Nat.le_refl _) fun KP Q hQ hP=>?_
 have hal:=bytesOf_len acc
 simp only [Lim] at hb
 simp (disch:=first|omega|assumption) only [ir212,steps,st2,pev,rev,oev,optr,ibin,sbin,ishf,bound,mmAll,mm2,mk,mkArgs,AV.cells,AV.boxable,AV.one,AV.strip1,fillA,fillS,Nat.reduceEqDiff,reduceCtorEq,↓reduceIte,Nat.reduceAdd,Int.reduceNeg,Nat.reduceLeDiff,Int.reduceToNat,Int.reduceEq,Int.reduceLT,Int.reduceLE,Int.reduceAdd,Io,Im,If,Il,Jt,Jf]
 refine goP_ownS (by rw [hal];exact ho) (by simp [hal];omega) (by simp [hal,maxLen];omega) fun o1 H1 hs1=>?_
 have hs1':OwnS H o H1 o1 (acc++[92,117]).length 1:=by simpa [hal] using hs1
 have e1:bytesOf acc++[[AV.int .u8 92],[AV.int .u8 117]]=bytesOf (acc++[92,117]):=bytesOf_two acc 92 117
 simp (disch:=first|omega|assumption) only [e1,steps,st2,pev,rev,oev,optr,ibin,sbin,ishf,bound,mmAll,mm2,mk,mkArgs,AV.cells,AV.boxable,AV.one,AV.strip1,fillA,fillS,Nat.reduceEqDiff,reduceCtorEq,↓reduceIte,Nat.reduceAdd,Int.reduceNeg,Nat.reduceLeDiff,Int.reduceToNat,Int.reduceEq,Int.reduceLT,Int.reduceLE,Int.reduceAdd,Io,Im,If,Il,Jt,Jf]
 refine goL_st (fun x:Nat × Own=>[(0,.sl x.2 1 (bytesOf (acc++(unitT u).take (6-x.1)))),(5,.int .i64 ((x.1:Int)-1))]) (fun x H'=>x.1≤4∧OwnS H o H' x.2 (acc++(unitT u).take (6-x.1)).length 1) (fun x=>x.1) (4,o1) (by simp (disch:=first|omega|assumption) only [unitT,Int.reduceSub,steps,st2,pev,rev,oev,optr,ibin,sbin,ishf,bound,mmAll,mm2,mk,mkArgs,AV.cells,AV.boxable,AV.one,AV.strip1,fillA,fillS,Nat.reduceEqDiff,reduceCtorEq,↓reduceIte,Nat.reduceAdd,Int.reduceNeg,Nat.reduceLeDiff,Int.reduceToNat,Int.reduceEq,Int.reduceLT,Int.reduceLE,Int.reduceAdd,Io,Im,If,Il,Jt,Jf]) ⟨by simp,by simpa [unitT] using hs1'⟩ ?_
 rintro ⟨k,o2⟩ H2 J ⟨hk,hs⟩ hJ
 simp only at hk hs
 cases k with
 | zero =>
  have h0:¬ ((0:Int)≤-1):=by omega
  have e:(unitT u).take (6-0)=unitT u:=rfl
  rw [e] at hs
  simp (disch:=first|omega|assumption) only [h0,e,Int.reduceSub,steps,st2,pev,rev,oev,optr,ibin,sbin,ishf,bound,mmAll,mm2,mk,mkArgs,AV.cells,AV.boxable,AV.one,AV.strip1,fillA,fillS,Nat.reduceEqDiff,reduceCtorEq,↓reduceIte,Nat.reduceAdd,Int.reduceNeg,Nat.reduceLeDiff,Int.reduceToNat,Int.reduceEq,Int.reduceLT,Int.reduceLE,Int.reduceAdd,Io,Im,If,Il,Jt,Jf]
  exact hQ _ _ H2 H2 [_] nofun rfl (Low.refl _) ⟨o2,rfl,by rw [bytesOf_len];exact hs⟩
 | succ j =>
  have e0:((j+1:Nat):Int)-1=(j:Int):=by omega
  have h0:((0:Int)≤j)=True:=eq_true (by omega)
  have w1:IntKind.wrap .i64 (4*(j:Int))=((4*j:Nat):Int):=by rw [wrap64 (by omega) (by omega)];omega
  have w2:=fdN u (4*j) (by omega)
  have hlt:(((u / 2 ^ (4*j) % 16:Nat):Int)<16)=True:=eq_true (by omega)
  have w0:(((4*j:Nat):Int)<0)=False:=eq_false (by omega)
  have hm:((unitT u).take (6-(j+1)))++[hexL.getD (u / 2 ^ (4*j) % 16) 0]=(unitT u).take (6-j):=by
   have:j=0∨j=1∨j=2∨j=3:=by omega
   rcases this with rfl|rfl|rfl|rfl<;>simp [unitT]
  have hl2:=bytesOf_len (acc++(unitT u).take (6-(j+1)))
  have hl3:(acc++(unitT u).take (6-(j+1))).length≤acc.length+6:=by simp [unitT_len];omega
  have e3:=bytesOf_one (acc++(unitT u).take (6-(j+1))) (hexL.getD (u / 2 ^ (4*j) % 16) 0)
  rw [List.append_assoc,hm] at e3
  have hg:([48,49,50,51,52,53,54,55,56,57,97,98,99,100,101,102]:List UInt8).getD (u / 2 ^ (4*j) % 16) 0=hexL.getD (u / 2 ^ (4*j) % 16) 0:=rfl
  simp (disch:=first|omega|assumption) only [e0,h0,w1,w2,w0,tmod16,hlt,hg,steps,st2,pev,rev,oev,optr,ibin,sbin,ishf,bound,mmAll,mm2,mk,mkArgs,AV.cells,AV.boxable,AV.one,AV.strip1,fillA,fillS,Nat.reduceEqDiff,reduceCtorEq,↓reduceIte,Nat.reduceAdd,Int.reduceNeg,Nat.reduceLeDiff,Int.reduceToNat,Int.reduceEq,Int.reduceLT,Int.reduceLE,Int.reduceAdd,Io,Im,If,Il,Jt,Jf]
  refine goP_ownS (by rw [hl2];exact hs.own) (by simp only [hl2,List.length_cons,List.length_nil];omega) (by simp only [hl2,List.length_cons,List.length_nil,maxLen];omega) fun o3 H3 hs3=>?_
  have hs4:OwnS H o H3 o3 (acc++(unitT u).take (6-j)).length 1:=by
   have e:(acc++(unitT u).take (6-j)).length=(bytesOf (acc++(unitT u).take (6-(j+1)))).length+1:=by
    rw [hl2,← hm,← List.append_assoc];simp only [List.length_append,List.length_cons,List.length_nil]
   rw [e];exact hs.trans hs3
  simp (disch:=first|omega|assumption) only [e3,wrap64,steps,st2,pev,rev,oev,optr,ibin,sbin,ishf,bound,mmAll,mm2,mk,mkArgs,AV.cells,AV.boxable,AV.one,AV.strip1,fillA,fillS,Nat.reduceEqDiff,reduceCtorEq,↓reduceIte,Nat.reduceAdd,Int.reduceNeg,Nat.reduceLeDiff,Int.reduceToNat,Int.reduceEq,Int.reduceLT,Int.reduceLE,Int.reduceAdd,Io,Im,If,Il,Jt,Jf]
  exact goJ (hJ (j,o3) H3 (Nat.lt_succ_self j) ⟨by simp only;omega,hs4⟩) (by simp (disch:=first|omega|assumption) only [steps,st2,pev,rev,oev,optr,ibin,sbin,ishf,bound,mmAll,mm2,mk,mkArgs,AV.cells,AV.boxable,AV.one,AV.strip1,fillA,fillS,Nat.reduceEqDiff,reduceCtorEq,↓reduceIte,Nat.reduceAdd,Int.reduceNeg,Nat.reduceLeDiff,Int.reduceToNat,Int.reduceEq,Int.reduceLT,Int.reduceLE,Int.reduceAdd,Io,Im,If,Il,Jt,Jf])
theorem unitsG_one {l:List UInt8} {c k:Nat} (hne:l≠[]) (hv:validD l=true) (hc:(codeN l).1=c) (hk:(codeN l).2=k) :
  validD (l.take k)=true∧(l.take k).length=k∧unitsG (l.take k).length (l.take k)=if 65536≤c then [55296+(c-65536) / 1024,56320+(c-65536) % 1024] else [c]:=by
 obtain ⟨hd,hv2⟩:=code_ok hne hv
 subst hc;subst hk
 have hp:=hd.pos
 have hle:=hd.len
 have hlen:(l.take (codeN l).2).length=(codeN l).2:=by simp;omega
 have hne2:l.take (codeN l).2≠[]:=fun e=>by rw [e] at hlen;simp at hlen;omega
 have hcode:=codeN_pref hne (by omega:(codeN l).2≠0) []
 rw [List.append_nil] at hcode
 have hdrop:(l.take (codeN l).2).drop (codeN l).2=[]:=by apply List.drop_eq_nil_of_le;omega
 refine ⟨?_,hlen,?_⟩
 ·have:=(codeN_good hne2 (by rw [hcode];omega)).1
  rw [this,hcode,hdrop];rfl
 ·rw [hlen]
  obtain ⟨n,hn⟩:∃ n,(codeN l).2=n+1:=⟨(codeN l).2-1,by omega⟩
  conv=>lhs;rw [show unitsG (codeN l).2=unitsG (n+1) by rw [hn]]
  rw [unitsG,if_neg hne2,hcode,hdrop,unitsG_nil,List.append_nil]
theorem wr8n {n:Nat} (h:n<256):IntKind.wrap .u8 (n:Int)=((UInt8.ofNat n).toNat:Int):=by
 rw [wr8];simp
set_option maxHeartbeats 1000000 in
theorem quoteTC (s:List UInt8) (hv:validD s=true) (hs:6*s.length+2≤Lim):Pure Tryz.prog 120 [.str s] (.str (tquo s)):=by
 refine Pure.go ir120 ck120 (Nat.le_refl _) fun KP Q hQ=>?_
 have hs':s.length≤Lim:=by simp only [Lim] at hs ⊢;omega
 simp only [Lim] at hs
 simp (disch:=first|omega|assumption) only [ir120,go_sem,↓reduceIte]
 have e34:([[AV.int .u8 34]]:List (List AV))=bytesOf [34]:=rfl
 simp (disch:=first|omega|assumption) only [e34,go_sem,↓reduceIte]
 refine goL_st (fun x:Own × List UInt8 × Nat=>[(3,.sl x.1 1 (bytesOf x.2.1)),(4,.int .i64 x.2.2)])
  (fun x H=>x.2.2≤s.length∧x.2.1.length≤6*x.2.2+1∧34 :: tquoF s=x.2.1++tquoF (s.drop x.2.2)∧validD (s.drop x.2.2)=true∧Owned H x.1 x.2.1.length 1) (fun x=>s.length-x.2.2) (.full,[34],0) (by simp (disch:=first|omega|assumption) only [go_sem,↓reduceIte]) ⟨by simp,by simp,by simp,by simpa using hv,Owned.full _ _ _⟩ ?_
 rintro ⟨o,acc,i⟩ H J ⟨hi,hai,hc,hv,hs1⟩ hJ
 simp only at hi hai hc hv hs1
 have hal:=bytesOf_len acc
 by_cases hlt:i<s.length
 case neg =>
  have hlt':¬ (i:Int)<s.length:=by omega
  rw [List.drop_of_length_le (by omega)] at hc
  have e0:tquoF []=[]:=rfl
  rw [e0,List.append_nil] at hc
  have e3:bytesOf acc++[[AV.int .u8 34]]=bytesOf (acc++[34]):=bytesOf_one acc 34
  simp (disch:=first|omega|assumption) only [hlt',go_sem,↓reduceIte]
  refine goP_ownS (by rw [hal];exact hs1) (by simp only [hal,List.length_cons,List.length_nil];omega) (by simp only [hal,List.length_cons,List.length_nil,maxLen];omega) fun o3 H3 hs3=>?_
  simp (disch:=first|omega|assumption) only [e3,byts_of,go_sem,↓reduceIte]
  have e4:tquo s=acc++[34]:=by rw [← hc];rfl
  exact hQ _ _ _ _ nofun rfl (by simp [tupOf,envOf,AV.strip,AV.strip1,e4])
 have hlt':(i:Int)<s.length:=by omega
 have hne:s.drop i≠[]:=fun e=>by have:=congrArg List.length e;simp at this;omega
 obtain ⟨hd,hv2⟩:=code_ok hne hv
 have hst:=tquoF_step hne hv
 have hone:=unitsG_one hne hv rfl rfl
 have hpl:=pieceT_len hd
 have hp:=hd.pos
 have hle:=hd.len
 have hmax:=hd.le
 have h1b:=@take_one _ _ _ hd
 rw [List.length_drop] at hle
 simp (disch:=first|omega|assumption) only [hlt',go_sem,↓reduceIte]
 refine goK_pure (codeC s i hlt hs') ?_
 rw [hst] at hc
 rw [List.drop_drop] at hc hv2
 generalize (codeN (s.drop i)).1=c at *
 generalize (codeN (s.drop i)).2=k at *
 have hmax1:((1:Int) > (k:Int))=False:=eq_false (by omega)
 have wk:IntKind.wrap .i64 ((i:Int)+(k:Int))=((i+k:Nat):Int):=by rw [wrap64 (by omega) (by omega)];omega
 have hsub:(s.take (i+k)).drop i=(s.drop i).take k:=by rw [List.drop_take];congr 1;omega
 have hle2:(((i+k:Nat):Int)≤s.length)=True:=eq_true (by omega)
 have hle3:((i:Int)≤((i+k:Nat):Int))=True:=eq_true (by omega)
 have step:∀ o3 H3 (bs:List UInt8),bs=pieceT c ((s.drop i).take k)→Owned H3 o3 (acc++bs).length 1→J ((setAll _ [(3,.sl o3 1 (bytesOf (acc++bs))),(4,.int .i64 ((i+k:Nat):Int))]).keep [0,3,4]) H3:=fun o3 H3 bs hbs ho3 =>
  hJ (o3,acc++bs,i+k) H3 (by simp only;omega) ⟨by simp only;omega,by simp only [List.length_append,hbs];omega,by rw [hc,hbs];simp,hv2,ho3⟩
 by_cases c1:c=34∨c=92
 ·have g:((c:Int)=34∨(c:Int)=92):=by omega
  have e3:bytesOf acc++[[AV.int .u8 92],[AV.int .u8 (UInt8.ofNat c).toNat]]=bytesOf (acc++[92,UInt8.ofNat c]):=bytesOf_two acc 92 _
  have ep:[92,UInt8.ofNat c]=pieceT c ((s.drop i).take k):=by unfold pieceT;rw [if_pos c1]
  rcases c1 with c1|c1
  all_goals
   have w8:IntKind.wrap .u8 (c:Int)=((UInt8.ofNat c).toNat:Int):=wr8n (by omega)
   subst c1
   have gg:=w8
   simp only [Int.cast_ofNat_Int] at w8
   simp (disch:=first|omega|assumption) only [w8,go_sem,↓reduceIte]
   refine goP_ownS (by rw [hal];exact hs1) (by simp only [hal,List.length_cons,List.length_nil];omega) (by simp only [hal,List.length_cons,List.length_nil,maxLen];omega) fun o3 H3 hs3=>?_
   simp (disch:=first|omega|assumption) only [e3,hmax1,wk,go_sem,↓reduceIte]
   exact goJ (step o3 H3 _ ep (by simpa [hal] using hs3.own)) (by simp (disch:=first|omega|assumption) only [go_sem,↓reduceIte])
 have g34:¬ ((c:Int)=34):=by omega
 have g92:¬ ((c:Int)=92):=by omega
 by_cases c2:c=10
 ·subst c2
  have e3:bytesOf acc++[[AV.int .u8 92],[AV.int .u8 110]]=bytesOf (acc++[92,110]):=bytesOf_two acc 92 110
  have ep:[92,110]=pieceT 10 ((s.drop i).take k):=by unfold pieceT;rw [if_neg (by decide),if_pos rfl]
  simp (disch:=first|omega|assumption) only [go_sem,↓reduceIte]
  refine goP_ownS (by rw [hal];exact hs1) (by simp only [hal,List.length_cons,List.length_nil];omega) (by simp only [hal,List.length_cons,List.length_nil,maxLen];omega) fun o3 H3 hs3=>?_
  simp (disch:=first|omega|assumption) only [e3,hmax1,wk,go_sem,↓reduceIte]
  exact goJ (step o3 H3 _ ep (by simpa [hal] using hs3.own)) (by simp (disch:=first|omega|assumption) only [go_sem,↓reduceIte])
 have g10:¬ ((c:Int)=10):=by omega
 by_cases c3:c<32∨65536≤c
 ·have hus:=hone.2.2
  have hvt:=hone.1
  have htl:=hone.2.1
  have hlim:((s.drop i).take k).length≤Lim:=by rw [htl];simp only [Lim];omega
  have loop:∀ (ρ:Env) (us:List Nat),us=(if 65536≤c then [55296+(c-65536) / 1024,56320+(c-65536) % 1024] else [c])→(∀ u ∈ us,u<65536)∧us.flatMap unitT=pieceT c ((s.drop i).take k):=fun ρ us hu=>by
   subst hu
   by_cases h6:65536≤c
   ·rw [if_pos h6]
    refine ⟨fun u hu=>by simp at hu;omega,?_⟩
    unfold pieceT;rw [if_neg c1,if_neg c2,if_neg (by omega),if_pos h6];simp
   ·rw [if_neg h6]
    refine ⟨fun u hu=>by simp at hu;omega,?_⟩
    unfold pieceT;rw [if_neg c1,if_neg c2,if_pos (by omega)];simp
  obtain ⟨us,hus2⟩:∃ us,us=(if 65536≤c then [55296+(c-65536) / 1024,56320+(c-65536) % 1024] else [c]):=⟨_,rfl⟩
  rw [← hus2] at hus
  obtain ⟨hu1,hu2⟩:=loop (fun _=>.any) us hus2
  have hul:us.length≤2:=by rw [hus2];split<;>simp
  have hcl:=cU_len us
  by_cases c4:c<32
  case' pos =>
   have g32:((c:Int)<32)=True:=eq_true (by omega)
   simp (disch:=first|omega|assumption) only [g34,g92,g10,g32,wk,hle2,hle3,hsub,go_sem,↓reduceIte]
  case' neg =>
   have g32:¬ ((c:Int)<32):=by omega
   have g6:((65536:Int)≤c)=True:=eq_true (by omega)
   simp (disch:=first|omega|assumption) only [g34,g92,g10,g32,g6,wk,hle2,hle3,hsub,go_sem,↓reduceIte]
  all_goals
   refine goK_pure (unitsC _ hvt hlim) ?_
   rw [hus]
   simp (disch:=first|omega|assumption) only [hcl,go_sem,↓reduceIte]
   refine goL_range us 67 (fun x:Own × List UInt8=>[(3,.sl x.1 1 (bytesOf x.2))]) (fun done rest x H'=>x.2++rest.flatMap unitT=acc++pieceT c ((s.drop i).take k)∧x.2.length≤acc.length+6*done.length∧Owned H' x.1 x.2.length 1) (o,acc) (by simp (disch:=first|omega|assumption) only [go_sem,↓reduceIte]) ⟨by simp only;rw [hu2],by simp,hs1⟩ ?_ ?_
   ·rintro ⟨o2,a⟩ H2 J2 ⟨hn,hle,hs2⟩ hlt
    simp only [List.flatMap_nil,List.append_nil] at hn hle hs2
    simp (disch:=first|omega|assumption) only [hcl,hlt,hmax1,wk,go_sem,↓reduceIte]
    subst hn
    exact goJ (step o2 H2 _ rfl hs2) (by simp (disch:=first|omega|assumption) only [go_sem,↓reduceIte])
   ·rintro done x rest ⟨o2,a⟩ H2 J2 hdn hlt hlt2 ⟨hn,hle,hs2⟩ hJ2
    simp only [List.flatMap_cons] at hn hle hs2
    have hg:(cU us).getD done.length []=[AV.int .i64 (x:Int)]:=getD_mid' hdn
    simp (disch:=first|omega|assumption) only [hcl,hlt,hg,go_sem,↓reduceIte]
    refine goK_gives (unitTC x (hu1 x (by rw [hdn];simp)) a _ o2 hs2 (by simp only [Lim];omega)) fun o3 H3 hs3=>?_
    rw [bytesOf_len] at hs3
    simp (disch:=first|omega|assumption) only [wrap64,go_sem,↓reduceIte]
    exact goJ (hJ2 (o3,a++unitT x) H3 ⟨by rw [← hn];simp,by simp only [List.length_append,unitT_len,List.length_cons,List.length_nil];omega,hs3.own⟩) (by simp (disch:=first|omega|assumption) only [go_sem,↓reduceIte])
 ·have g32:¬ ((c:Int)<32):=by omega
  have g6:¬ ((65536:Int)≤c):=by omega
  have ep:(s.drop i).take k=pieceT c ((s.drop i).take k):=by unfold pieceT;rw [if_neg c1,if_neg c2,if_neg (by omega),if_neg (by omega)]
  have htl:=hone.2.1
  have hbl:=bytesOf_len ((s.drop i).take k)
  simp (disch:=first|omega|assumption) only [g34,g92,g10,g32,g6,wk,hle2,hle3,hsub,go_sem,↓reduceIte]
  refine goP_ownS (by rw [hal];exact hs1) (by rw [hal,hbl,htl];omega) (by rw [hal,hbl,htl];simp only [maxLen];omega) fun o3 H3 hs3=>?_
  simp (disch:=first|omega|assumption) only [bytesOf_strip,bytesOf_app,hmax1,wk,go_sem,↓reduceIte]
  exact goJ (step o3 H3 _ ep (by have:=hs3.own;rw [hal,hbl] at this;simpa using this)) (by simp (disch:=first|omega|assumption) only [go_sem,↓reduceIte])
end Go.Proofs.YticbbfbpeimkbaaGreatDoor
namespace Go.Proofs.YticbbfbpeimkbaaGreatDoor
open Go.Ab Go.Lib
theorem byteAll {P:UInt8→Bool} (h:(List.range 256).all (fun n=>P (UInt8.ofNat n))=true) (c:UInt8):P c=true:=by
 have h1:=List.all_eq_true.1 h c.toNat (List.mem_range.2 (UInt8.toNat_lt c))
 simpa using h1
def markB (c:UInt8):Bool:=decide (0≤Lib.indexByte marksT c)
def spB (c:UInt8):Bool:=decide (c=9∨c=10∨c=13∨c=32∨c=44) || decide (c=239) || decide (c=35)
theorem mark_not (c:UInt8):(!markB c || (!(decide (c=34)) && (!(decide (c=46)) && (!(isL c) && (!(isD c) && (!(decide (c=45)) && (!(spB c) && decide (32≤c.toNat∧c.toNat<128))))))))=true:=byteAll (P:=fun c=>(!markB c || (!(decide (c=34)) && (!(decide (c=46)) && (!(isL c) && (!(isD c) && (!(decide (c=45)) && (!(spB c) && decide (32≤c.toNat∧c.toNat<128))))))))) (by decide +kernel) c
theorem lett_not (c:UInt8):(!isL c || (!(decide (c=34)) && (!(decide (c=46)) && (!(markB c) && (!(isD c) && (!(decide (c=45)) && (!(spB c) && decide (32≤c.toNat∧c.toNat<128))))))))=true:=byteAll (P:=fun c=>(!isL c || (!(decide (c=34)) && (!(decide (c=46)) && (!(markB c) && (!(isD c) && (!(decide (c=45)) && (!(spB c) && decide (32≤c.toNat∧c.toNat<128))))))))) (by decide +kernel) c
theorem digit_not (c:UInt8):(!(isD c || decide (c=45)) || (!(decide (c=34)) && (!(decide (c=46)) && (!(markB c) && (!(isL c) && (!(spB c) && decide (32≤c.toNat∧c.toNat<128)))))))=true:=byteAll (P:=fun c=>(!(isD c || decide (c=45)) || (!(decide (c=34)) && (!(decide (c=46)) && (!(markB c) && (!(isL c) && (!(spB c) && decide (32≤c.toNat∧c.toNat<128)))))))) (by decide +kernel) c
theorem three_not {c:UInt8} (h:c≠34) (r:List UInt8):threeT.isPrefixOf (c :: r)=false:=by
 simp [threeT,List.isPrefixOf];intro h2;exact absurd h2.symm h
theorem dots_not {c:UInt8} (h:c≠46) (r:List UInt8):dotsT.isPrefixOf (c :: r)=false:=by
 simp [dotsT,List.isPrefixOf];intro h2;exact absurd h2.symm h
theorem bom_not {c:UInt8} (h:c≠239) (r:List UInt8):bomT.isPrefixOf (c :: r)=false:=by
 simp [bomT,List.isPrefixOf];intro h2;exact absurd h2.symm h
theorem gap_not {c:UInt8} (h:spB c=false) (r:List UInt8):gapN (c :: r)=0:=by
 simp only [spB,Bool.or_eq_false_iff,decide_eq_false_iff_not] at h
 simp only [gapN]
 rw [if_neg h.1.1,bom_not h.1.2,if_neg h.2];simp
theorem end_head {r:List UInt8} (h:EndT r):(r.head?.any fun d=>isL d || isD d || decide (d=46))=false:=by
 rcases h with rfl|⟨c,t,rfl,rfl|rfl⟩
 ·rfl
 all_goals simp [isL,isD]
theorem takeW_end {p:UInt8→Bool} {r:List UInt8} (h10:p 10=false) (h32:p 32=false) (h:EndT r):∀ s:List UInt8,(s++r).takeWhile p=s.takeWhile p
 | []=>by
  rcases h with rfl|⟨c,t,rfl,rfl|rfl⟩
  ·rfl
  ·simp [h32]
  ·simp [h10]
 | c :: s=>by
  simp only [List.cons_append,List.takeWhile_cons]
  split
  ·rw [takeW_end h10 h32 h s]
  ·rfl
theorem takeW_all {p:UInt8→Bool}:∀ s:List UInt8,(∀ c ∈ s,p c=true)→s.takeWhile p=s
 | [],_=>rfl
 | c :: s,h=>by
  simp only [List.takeWhile_cons,h c (.head _),if_true]
  rw [takeW_all s fun d hd=>h d (.tail _ hd)]
theorem wordN_app (s:List UInt8) {r:List UInt8} (h:EndT r):wordN (s++r)=wordN s:=by
 unfold wordN;rw [takeW_end (by decide) (by decide) h s]
theorem nameG_all:∀ (s:List UInt8) (i:Nat),nameG s i=true→∀ c ∈ s,(isL c || isD c)=true
 | [],_,_=>fun c hc=>nomatch hc
 | c :: r,i,h=>by
  simp only [nameG] at h
  split at h
  ·rename_i h1
   have h2:=nameG_all r (i+1) h
   intro d hd
   rcases List.mem_cons.1 hd with rfl|hd
   ·simp only [Bool.or_eq_true,Bool.and_eq_true] at h1 ⊢
    exact h1.imp id fun x=>x.2
   ·exact h2 d hd
  ·cases h
theorem name_head {c:UInt8} {r:List UInt8} (h:nameM (c :: r)=true):isL c=true∧∀ d ∈ c :: r,(isL d || isD d)=true:=by
 simp only [nameM,Bool.and_eq_true] at h
 refine ⟨?_,nameG_all _ _ h.1⟩
 have:=h.1
 simp only [nameG] at this
 split at this
 ·rename_i h1;simpa using h1
 ·cases this
theorem oneT_letter {c:UInt8} (h:isL c=true) (r:List UInt8):oneT (c :: r)=some (⟨2,(c :: r).take (wordN (c :: r))⟩,(c :: r).drop (wordN (c :: r))):=by
 have h1:=lett_not c
 simp only [h,Bool.not_true,Bool.false_or,Bool.and_eq_true,Bool.not_eq_true',decide_eq_false_iff_not,decide_eq_true_eq] at h1
 obtain ⟨a1,a2,a3,_⟩:=h1
 simp only [markB,decide_eq_false_iff_not] at a3
 simp only [oneT]
 rw [three_not a1,dots_not a2,if_neg a1,if_neg a3,if_pos h];simp
theorem gap_letter {c:UInt8} (h:isL c=true) (r:List UInt8):gapN (c :: r)=0:=by
 have h1:=lett_not c
 simp only [h,Bool.not_true,Bool.false_or,Bool.and_eq_true,Bool.not_eq_true'] at h1
 exact gap_not h1.2.2.2.2.2.1 r
theorem oneT_number {c:UInt8} (h:(isD c || decide (c=45))=true) (r:List UInt8):oneT (c :: r)=(if (numN (c :: r)).1=0 then none
  else if ((c :: r).drop (numN (c :: r)).1).head?.any fun d=>isL d || isD d || decide (d=46) then none
  else some (⟨(numN (c :: r)).2,(c :: r).take (numN (c :: r)).1⟩,(c :: r).drop (numN (c :: r)).1)):=by
 have h1:=digit_not c
 simp only [h,Bool.not_true,Bool.false_or,Bool.and_eq_true,Bool.not_eq_true',decide_eq_false_iff_not,decide_eq_true_eq] at h1
 obtain ⟨a1,a2,a3,a4,_⟩:=h1
 simp only [markB,decide_eq_false_iff_not] at a3
 simp only [oneT]
 rw [three_not a1,dots_not a2,if_neg a1,if_neg a3,a4];simp
theorem gap_number {c:UInt8} (h:(isD c || decide (c=45))=true) (r:List UInt8):gapN (c :: r)=0:=by
 have h1:=digit_not c
 simp only [h,Bool.not_true,Bool.false_or,Bool.and_eq_true,Bool.not_eq_true'] at h1
 exact gap_not h1.2.2.2.2.1 r
theorem whole_headB {c:UInt8} {r:List UInt8} (h:wholeN (c :: r)≠0):(isD c || decide (c=45))=true:=by
 by_cases hc:c=45
 ·simp [hc]
 ·rw [wholeN_pos (s:=c :: r) (by simp [hc])] at h
  unfold intN at h
  have h2:run1 (c :: r)≠0:=fun e=>h (by rw [if_pos e])
  simp only [run1] at h2
  split at h2
  ·rename_i h3;simp [h3]
  ·exact absurd rfl h2
theorem num_whole {s:List UInt8} (h:(numN s).1≠0):wholeN s≠0:=fun e=>h (by unfold numN;rw [if_pos e])
theorem piece_head {l:List UInt8} {c k:Nat} (h:DecOk l c k) (hc:c=(codeN l).1):∀ t,(pieceT c (l.take k)++t).head?≠some 34∧pieceT c (l.take k)≠[]:=by
 intro t
 have hpos:=h.pos
 have hlen:=h.len
 unfold pieceT
 repeat' split
 ·simp
 ·simp
 ·simp [unitT]
 ·simp [unitT]
 ·rename_i h1 h2 h3 h4
  cases l with
  | nil=>simp at hlen;omega
  | cons b r =>
   obtain ⟨m,rfl⟩:∃ m,k=m+1:=⟨k-1,by omega⟩
   simp only [List.take_succ_cons,List.cons_append,List.head?_cons,ne_eq,Option.some.injEq]
   refine ⟨fun e=>?_,by simp⟩
   subst e
   by_cases hk:m+1=1
   ·have:=(h.one hk).1
    simp at this
    omega
   ·have:=h.high hk 34 (by simp)
    simp at this
theorem tquoG_head {s:List UInt8} (hv:validD s=true) (hne:s≠[]) (n:Nat) (hn:s.length≤n) (t:List UInt8):(tquoG n s++t).head?≠some 34:=by
 cases n with
 | zero=>exact absurd (List.length_eq_zero_iff.1 (by omega)) hne
 | succ n =>
  simp only [tquoG,if_neg hne,List.append_assoc]
  exact (piece_head (code_ok hne hv).1 rfl _).1
theorem three_quo (s r:List UInt8) (hv:validD s=true) (hr:EndT r):threeT.isPrefixOf (34 :: (tquoG s.length s++34 :: r))=false:=by
 by_cases hs:s=[]
 ·subst hs
  simp only [tquoG,List.nil_append,List.length_nil]
  rcases hr with rfl|⟨c,t,rfl,rfl|rfl⟩<;>simp [threeT,List.isPrefixOf]
 ·have h:=tquoG_head hv hs s.length (Nat.le_refl _) (34 :: r)
  cases hx:tquoG s.length s++34 :: r with
  | nil=>simp [threeT,List.isPrefixOf]
  | cons c t =>
   rw [hx] at h
   simp only [List.head?_cons,ne_eq,Option.some.injEq] at h
   simp [threeT,List.isPrefixOf]
   intro e
   exact absurd e.symm h
theorem oneT_tok (x:Tok) (hx:rightK x=true) {r:List UInt8} (hr:EndT r):oneT (tokT x++r)=some (x,r)∧gapN (tokT x++r)=0∧tokT x≠[]:=by
 obtain ⟨k,s⟩:=x
 unfold rightK at hx
 simp only at hx
 by_cases h1:k=1
 ·subst h1
  simp only [if_true,Bool.or_eq_true,decide_eq_true_eq] at hx
  simp only [tokT,show ¬ ((1:Int)=5) by decide,if_false]
  rcases hx with rfl|hx
  ·refine ⟨?_,?_,by simp [dotsT]⟩
   ·simp [dotsT,oneT,threeT,List.isPrefixOf]
   ·simp [dotsT,gapN,bomT,List.isPrefixOf]
  ·cases s with
   | nil=>cases hx
   | cons c t =>
    cases t with
    | cons d t=>cases hx
    | nil =>
     have h1:=mark_not c
     have hm:markB c=true:=hx
     simp only [hm,Bool.not_true,Bool.false_or,Bool.and_eq_true,Bool.not_eq_true',decide_eq_false_iff_not,decide_eq_true_eq] at h1
     obtain ⟨a1,a2,a3,a4,a5,a6,_⟩:=h1
     simp only [markB,decide_eq_true_eq] at hm
     refine ⟨?_,?_,by simp⟩
     ·simp only [List.cons_append,List.nil_append,oneT]
      rw [three_not a1,dots_not a2,if_neg a1,if_pos hm];simp
     ·exact gap_not a6 r
 rw [if_neg h1] at hx
 by_cases h2:k=2
 ·subst h2
  simp only [if_true] at hx
  simp only [tokT,show ¬ ((2:Int)=5) by decide,if_false]
  cases s with
  | nil=>simp [nameM,nameG] at hx
  | cons c t =>
   obtain ⟨g1,g2⟩:=name_head hx
   have hw:wordN (c :: t++r)=(c :: t).length:=by rw [wordN_app (c :: t) hr];unfold wordN;rw [takeW_all _ g2]
   refine ⟨?_,gap_letter g1 _,by simp⟩
   rw [List.cons_append,oneT_letter g1,← List.cons_append,hw,List.take_left,List.drop_left]
 rw [if_neg h2] at hx
 by_cases h3:k=3∨k=4
 ·rw [if_pos h3] at hx
  simp only [decide_eq_true_eq] at hx
  have hk5:¬ (k=5):=by omega
  simp only [tokT,hk5,if_false]
  unfold numK at hx
  split at hx
  case isFalse=>omega
  rename_i hl
  cases s with
  | nil =>
   have:numN []=(0,0):=rfl
   rw [this] at hx;simp only at hx;omega
  | cons c t =>
   have hn0:(numN (c :: t)).1≠0:=by rw [hl];simp
   have hw:=num_whole hn0
   have hd:=whole_headB hw
   refine ⟨?_,gap_number hd _,by simp⟩
   rw [List.cons_append,oneT_number hd,← List.cons_append,numN_app hr,if_neg hn0,hl,List.drop_left,end_head hr,List.take_left,hx];simp
 rw [if_neg h3] at hx
 by_cases h5:k=5
 ·subst h5
  simp only [if_true] at hx
  simp only [tokT,if_true,tquo,List.cons_append,List.append_assoc,List.nil_append]
  refine ⟨?_,by simp [gapN,bomT,List.isPrefixOf],by simp⟩
  simp only [oneT]
  rw [three_quo s r hx hr]
  simp only [Bool.false_eq_true,if_false,if_true]
  rw [quoM_tquo s r hx];rfl
 ·rw [if_neg h5] at hx;cases hx
theorem tjoin_cons (x y:Tok) (L:List Tok):tjoin (x :: y :: L)=tokT x++32 :: tjoin (y :: L):=by simp [tjoin,Lib.join]
theorem tjoin_one (x:Tok):tjoin [x]=tokT x:=by simp [tjoin,Lib.join]
theorem readG_join:∀ (L:List Tok),L.all rightK=true→∀ (n:Nat) (l:List Tok),(tjoin L).length<n→readG n l (tjoin L)=.ok (l++L)
 | [],_,n,l,hn=>by
  cases n with
  | zero=>omega
  | succ n=>simp [tjoin,Lib.join,readG]
 | [x],h,n,l,hn=>by
  simp only [List.all_cons,List.all_nil,Bool.and_true] at h
  obtain ⟨g1,g2,g3⟩:=oneT_tok x h (r:=[]) (.inl rfl)
  rw [List.append_nil] at g1 g2
  rw [tjoin_one] at hn ⊢
  have hl:0<(tokT x).length:=List.length_pos_iff.2 g3
  obtain ⟨m,rfl⟩:∃ m,n=m+2:=⟨n-2,by omega⟩
  rw [readG,if_neg g3,if_neg (by rw [g2];simp),g1]
  simp [readG]
 | x :: y :: L,h,n,l,hn=>by
  have h':=h
  rw [List.all_cons,Bool.and_eq_true] at h'
  obtain ⟨g1,g2,g3⟩:=oneT_tok x h'.1 (r:=32 :: tjoin (y :: L)) (.inr ⟨32,_,rfl,.inl rfl⟩)
  rw [tjoin_cons] at hn ⊢
  have hl:0<(tokT x).length:=List.length_pos_iff.2 g3
  simp only [List.length_append,List.length_cons] at hn
  obtain ⟨m,rfl⟩:∃ m,n=m+2:=⟨n-2,by omega⟩
  rw [readG,if_neg (by simp [g3]),if_neg (by rw [g2];simp),g1]
  simp only
  rw [readG,if_neg (by simp),if_pos (by simp [gapN])]
  have e1:(32 :: tjoin (y :: L)).drop (gapN (32 :: tjoin (y :: L)))=tjoin (y :: L):=by simp [gapN]
  rw [e1,readG_join (y :: L) h'.2 m (l++[x]) (by omega)]
  simp
theorem srcG_fuel:∀ (n m:Nat) (l:List UInt8),l.length≤n→l.length≤m→srcG n l=srcG m l
 | 0,m,l,h,_=>by
  obtain rfl:l=[]:=List.length_eq_zero_iff.1 (by omega)
  cases m<;>simp [srcG]
 | n+1,0,l,_,h=>by
  obtain rfl:l=[]:=List.length_eq_zero_iff.1 (by omega)
  simp [srcG]
 | n+1,m+1,l,h1,h2=>by
  simp only [srcG]
  split
  ·rfl
  ·by_cases hp:0<(codeN l).2
   ·rw [srcG_fuel n m (l.drop (codeN l).2) (by simp;omega) (by simp;omega)]
   ·simp [hp]
theorem srcB_step {l:List UInt8} (hne:l≠[]):srcB l=(decide (0<(codeN l).2) && (signB (codeN l).1 && srcB (l.drop (codeN l).2))):=by
 unfold srcB
 have hl:0<l.length:=List.length_pos_iff.2 hne
 obtain ⟨m,hm⟩:∃ m,l.length=m+1:=⟨l.length-1,by omega⟩
 rw [hm,srcG,if_neg hne]
 by_cases hp:0<(codeN l).2
 ·rw [srcG_fuel m (l.drop (codeN l).2).length (l.drop (codeN l).2) (by simp;omega) (Nat.le_refl _)]
 ·simp [hp]
theorem srcB_nil:srcB []=true:=rfl
def SrcA (a:List UInt8):Prop:=∀ t,srcB t=true→srcB (a++t)=true
theorem SrcA.nil:SrcA []:=fun t h=>h
theorem SrcA.app {a b:List UInt8} (ha:SrcA a) (hb:SrcA b):SrcA (a++b):=fun t h=>by rw [List.append_assoc];exact ha _ (hb _ h)
theorem SrcA.here {a:List UInt8} (ha:SrcA a):srcB a=true:=by have:=ha [] srcB_nil;simpa using this
theorem SrcA.ascii {b:UInt8} (h:b.toNat<128) (hs:signB b.toNat=true):SrcA [b]:=fun t ht=>by
 rw [srcB_step (by simp)]
 simp only [List.singleton_append,codeN_ascii b t h,hs,List.drop_succ_cons,List.drop_zero,ht]
 rfl
theorem SrcA.asciis:∀ s:List UInt8,(∀ b ∈ s,32≤b.toNat∧b.toNat<128)→SrcA s
 | [],_=>.nil
 | b :: s,h=>by
  have h1:=h b (.head _)
  exact SrcA.app (a:=[b]) (.ascii h1.2 (by simp [signB];omega)) (SrcA.asciis s fun c hc=>h c (.tail _ hc))
theorem SrcA.code {l:List UInt8} (hne:l≠[]) (h:(codeN l).2≠0) (hk:(codeN l).2≤l.length) (hs:signB (codeN l).1=true):SrcA (l.take (codeN l).2):=fun t ht=>by
 have hp:=codeN_pref hne h t
 have hl:(l.take (codeN l).2).length=(codeN l).2:=by simp;omega
 rw [srcB_step (by intro e;have:=congrArg List.length e;rw [List.length_append,hl] at this;simp at this;omega),hp,hs]
 rw [List.drop_left' hl,ht]
 simp;omega
theorem hexL_ascii (n:Nat):32≤(hexL.getD (n % 16) 0).toNat∧(hexL.getD (n % 16) 0).toNat<128:=by
 have:∀ x:Fin 16,32≤(hexL.getD x.val 0).toNat∧(hexL.getD x.val 0).toNat<128:=by decide +kernel
 exact this ⟨n % 16,Nat.mod_lt _ (by decide)⟩
theorem SrcA.unit (u:Nat):SrcA (unitT u):=SrcA.asciis _ fun b hb=>by
 simp only [unitT,List.mem_cons,List.not_mem_nil,or_false] at hb
 rcases hb with rfl|rfl|rfl|rfl|rfl|rfl
 ·decide
 ·decide
 all_goals exact hexL_ascii _
theorem SrcA.quo:∀ (n:Nat) (l:List UInt8),l.length≤n→validD l=true→SrcA (tquoG n l)
 | 0,l,_,_=>.nil
 | n+1,l,hn,hv=>by
  rw [tquoG]
  by_cases hne:l=[]
  ·subst hne;exact .nil
  ·rw [if_neg hne]
   obtain ⟨hd,hv2⟩:=code_ok hne hv
   have hpos:=hd.pos
   refine SrcA.app ?_ (SrcA.quo n _ (by simp;omega) hv2)
   unfold pieceT
   by_cases h1:(codeN l).1=34∨(codeN l).1=92
   ·rw [if_pos h1]
    refine SrcA.asciis _ fun b hb=>?_
    simp only [List.mem_cons,List.not_mem_nil,or_false] at hb
    rcases hb with rfl|rfl
    ·decide
    ·rcases h1 with h1|h1<;>rw [h1]<;>decide
   rw [if_neg h1]
   by_cases h2:(codeN l).1=10
   ·rw [if_pos h2]
    exact SrcA.asciis _ fun b hb=>by
     simp only [List.mem_cons,List.not_mem_nil,or_false] at hb
     rcases hb with rfl|rfl<;>decide
   rw [if_neg h2]
   by_cases h3:(codeN l).1<32
   ·rw [if_pos h3];exact .unit _
   rw [if_neg h3]
   by_cases h4:65536≤(codeN l).1
   ·rw [if_pos h4];exact SrcA.app (.unit _) (.unit _)
   ·rw [if_neg h4]
    exact SrcA.code hne (by omega) hd.len (by simp [signB];omega)
theorem nch_ascii (c:UInt8):nch c=true→32≤c.toNat∧c.toNat<128:=u8_all (P:=fun c=>nch c=true→32≤c.toNat∧c.toNat<128) (by decide +kernel) c
theorem num_ascii {s:List UInt8} (h:numK s≠0):∀ b ∈ s,32≤b.toNat∧b.toNat<128:=fun b hb=>nch_ascii b ((num_text h).1 b hb)
theorem SrcA.tok (x:Tok) (hx:rightK x=true):SrcA (tokT x):=by
 obtain ⟨k,s⟩:=x
 unfold rightK at hx
 simp only at hx
 by_cases h1:k=1
 ·subst h1
  simp only [if_true,Bool.or_eq_true,decide_eq_true_eq] at hx
  simp only [tokT,show ¬ ((1:Int)=5) by decide,if_false]
  rcases hx with rfl|hx
  ·exact SrcA.asciis _ (by decide)
  ·cases s with
   | nil=>cases hx
   | cons c t =>
    cases t with
    | cons d t=>cases hx
    | nil =>
     have h1:=mark_not c
     have hm:markB c=true:=hx
     simp only [hm,Bool.not_true,Bool.false_or,Bool.and_eq_true,Bool.not_eq_true',decide_eq_false_iff_not,decide_eq_true_eq] at h1
     exact SrcA.asciis _ fun b hb=>by simp only [List.mem_singleton] at hb;subst hb;exact h1.2.2.2.2.2.2
 rw [if_neg h1] at hx
 by_cases h2:k=2
 ·subst h2
  simp only [if_true] at hx
  simp only [tokT,show ¬ ((2:Int)=5) by decide,if_false]
  simp only [nameM,Bool.and_eq_true] at hx
  have:=nameG_all _ _ hx.1
  refine SrcA.asciis _ fun b hb=>?_
  have hb2:=this b hb
  simp only [Bool.or_eq_true] at hb2
  simp only [isL,isD,Bool.or_eq_true,Bool.and_eq_true,decide_eq_true_eq] at hb2
  omega
 rw [if_neg h2] at hx
 by_cases h3:k=3∨k=4
 ·rw [if_pos h3] at hx
  have hk5:¬ (k=5):=by omega
  simp only [tokT,hk5,if_false]
  simp only [decide_eq_true_eq] at hx
  exact SrcA.asciis _ (num_ascii (by omega))
 rw [if_neg h3] at hx
 by_cases h5:k=5
 ·subst h5
  simp only [if_true] at hx
  simp only [tokT,if_true,tquo]
  have h34:SrcA [34]:=SrcA.asciis _ (by decide)
  exact SrcA.app (a:=[34]) h34 (SrcA.app (SrcA.quo _ _ (Nat.le_refl _) hx) h34)
 ·rw [if_neg h5] at hx;cases hx
theorem SrcA.join:∀ L:List Tok,L.all rightK=true→SrcA (tjoin L)
 | [],_=>.nil
 | [x],h=>by rw [tjoin_one];exact .tok x (by simpa using h)
 | x :: y :: L,h=>by
  rw [List.all_cons,Bool.and_eq_true] at h
  rw [tjoin_cons]
  exact SrcA.app (.tok x h.1) (SrcA.app (a:=[32]) (SrcA.asciis _ (by decide)) (SrcA.join (y :: L) h.2))
theorem readT_join (L:List Tok) (h:L.all rightK=true) (hl:(tjoin L).length≤8192):readT (tjoin L)=.ok L:=by
 unfold readT
 rw [if_neg (by omega),(SrcA.join L h).here,if_pos rfl,readG_join L h _ _ (by omega)]
 simp
end Go.Proofs.YticbbfbpeimkbaaGreatDoor
namespace Go.Proofs.YticbbfbpeimkbaaGreatDoor
open Go.Ab Go.Lib
theorem pre_app:∀ (p s t:List UInt8),(∀ x ∈ p,x≠10)→p.isPrefixOf (s++10 :: t)=p.isPrefixOf s
 | [],s,t,_=>by cases s<;>simp
 | x :: p,[],t,h=>by
  have h1:=h x (.head _)
  simp [List.isPrefixOf,h1]
 | x :: p,c :: s,t,h=>by
  simp only [List.cons_append,List.isPrefixOf]
  rw [pre_app p s t fun y hy=>h y (.tail _ hy)]
theorem pre_len:∀ (p s:List UInt8),p.isPrefixOf s=true→p.length≤s.length
 | [],s,_=>Nat.zero_le _
 | x :: p,[],h=>by simp [List.isPrefixOf] at h
 | x :: p,c :: s,h=>by
  simp only [List.isPrefixOf,Bool.and_eq_true] at h
  have:=pre_len p s h.2
  simp only [List.length_cons];omega
theorem end10 (t:List UInt8):EndT (10 :: t):=.inr ⟨10,t,rfl,.inr rfl⟩
theorem rawM_app:∀ (n:Nat) (raw s:List UInt8) (b s':List UInt8),rawM n raw s=some (b,s')→s'.length<s.length∧∀ (m:Nat) (t:List UInt8),n≤m→rawM m raw (s++10 :: t)=some (b,s'++10 :: t)
 | 0,_,_,_,_,h=>by cases h
 | n+1,raw,[],_,_,h=>by simp [rawM] at h
 | n+1,raw,c :: r,b,s',h=>by
  simp only [rawM] at h
  by_cases h1:threeT.isPrefixOf (c :: r)=true
  ·rw [if_pos h1] at h
   have hl:=pre_len _ _ h1
   simp only [threeT,List.length_cons,List.length_nil] at hl
   simp only [Option.some.injEq,Prod.mk.injEq] at h
   obtain ⟨rfl,rfl⟩:=h
   refine ⟨by simp;omega,fun m t hm=>?_⟩
   obtain ⟨k,rfl⟩:∃ k,m=k+1:=⟨m-1,by omega⟩
   have e:=pre_app threeT (c :: r) t (by decide)
   rw [List.cons_append] at e
   simp only [rawM,List.cons_append]
   rw [e,if_pos h1,List.drop_append_of_le_length (by omega)]
  ·rw [if_neg h1] at h
   by_cases h2:escT.isPrefixOf (c :: r)=true
   ·rw [if_pos h2] at h
    have hl:=pre_len _ _ h2
    simp only [escT,List.length_cons,List.length_nil] at hl
    obtain ⟨g1,g2⟩:=rawM_app n _ _ _ _ h
    refine ⟨by simp at g1 ⊢;omega,fun m t hm=>?_⟩
    obtain ⟨k,rfl⟩:∃ k,m=k+1:=⟨m-1,by omega⟩
    have e:=pre_app threeT (c :: r) t (by decide)
    have e2:=pre_app escT (c :: r) t (by decide)
    rw [List.cons_append] at e e2
    simp only [rawM,List.cons_append]
    rw [e,if_neg h1,e2,if_pos h2,List.drop_append_of_le_length (by omega)]
    exact g2 k t (by omega)
   ·rw [if_neg h2] at h
    obtain ⟨g1,g2⟩:=rawM_app n _ _ _ _ h
    refine ⟨by simp;omega,fun m t hm=>?_⟩
    obtain ⟨k,rfl⟩:∃ k,m=k+1:=⟨m-1,by omega⟩
    have e:=pre_app threeT (c :: r) t (by decide)
    have e2:=pre_app escT (c :: r) t (by decide)
    rw [List.cons_append] at e e2
    simp only [rawM,List.cons_append]
    rw [e,if_neg h1,e2,if_neg h2]
    exact g2 k t (by omega)
theorem unitG_app:∀ (n:Nat) (s:List UInt8) (u v:Nat) (t:List UInt8),unitG n s u=some v→n≤s.length∧unitG n (s++t) u=some v
 | 0,s,u,v,t,h=>by
  simp only [unitG] at h ⊢
  exact ⟨Nat.zero_le _,h⟩
 | n+1,[],u,v,t,h=>by simp [unitG] at h
 | n+1,c :: s,u,v,t,h=>by
  simp only [unitG,List.cons_append] at h ⊢
  cases hx:hexD c with
  | none=>rw [hx] at h;cases h
  | some k =>
   rw [hx] at h
   simp only at h ⊢
   have:=unitG_app n s _ v t h
   exact ⟨by simp;omega,this.2⟩
theorem escM_app {q q':Sd} {s s':List UInt8} (t:List UInt8) (h:escM q s=some (q',s')):escM q (s++t)=some (q',s'++t):=by
 cases s with
 | nil=>cases h
 | cons c r =>
  simp only [escM,List.cons_append] at h ⊢
  by_cases h1:c=117
  ·rw [if_pos h1] at h ⊢
   cases hu:unitM r with
   | none=>rw [hu] at h;cases h
   | some u =>
    obtain ⟨g1,g2⟩:=unitG_app 4 r 0 u t hu
    rw [hu] at h
    simp only [Option.map_some,Option.some.injEq,Prod.mk.injEq] at h
    obtain ⟨rfl,rfl⟩:=h
    rw [unitM,g2]
    simp only [Option.map_some,Option.some.injEq,Prod.mk.injEq,true_and]
    exact List.drop_append_of_le_length g1
  ·rw [if_neg h1] at h ⊢
   split at h
   ·cases h
   ·rename_i h2
    rw [if_neg h2]
    simp only [Option.some.injEq,Prod.mk.injEq] at h ⊢
    obtain ⟨rfl,rfl⟩:=h
    exact ⟨rfl,rfl⟩
theorem quoG_app {may:UInt8→Bool} (t:List UInt8):∀ (n:Nat) (s:List UInt8) (q q':Sd) (s':List UInt8),quoG may n s q=some (q',s')→∀ m,n≤m→quoG may m (s++t) q=some (q',s'++t)
 | 0,_,_,_,_,h=>by cases h
 | n+1,[],_,_,_,h=>by cases h
 | n+1,c :: s,q,q',s',h=>fun m hm=>by
  obtain ⟨k,rfl⟩:∃ k,m=k+1:=⟨m-1,by omega⟩
  simp only [quoG,List.cons_append] at h ⊢
  by_cases h1:c=34
  ·rw [if_pos h1] at h ⊢
   simp only [Option.some.injEq,Prod.mk.injEq] at h ⊢
   exact ⟨h.1,by rw [h.2]⟩
  rw [if_neg h1] at h ⊢
  by_cases h2:c=92
  ·rw [if_pos h2] at h ⊢
   cases he:escM q s with
   | none=>rw [he] at h;cases h
   | some x =>
    rw [he] at h
    rw [escM_app t (q':=x.1) (s':=x.2) he]
    exact quoG_app t n _ _ _ _ h k (by omega)
  rw [if_neg h2] at h ⊢
  split at h
  ·rename_i h3
   rw [if_pos h3]
   exact quoG_app t n _ _ _ _ h k (by omega)
  ·cases h
theorem quoM_app {may:UInt8→Bool} {s s' b:List UInt8} (t:List UInt8) (h:quoM may s=some (b,s')):quoM may (s++t)=some (b,s'++t):=by
 unfold quoM at h ⊢
 cases hq:quoG may (s.length+1) s ⟨[],[],true⟩ with
 | none=>rw [hq] at h;cases h
 | some x =>
  rw [hq] at h
  rw [quoG_app t _ _ _ x.1 x.2 hq _ (by simp)]
  simp only at h ⊢
  split at h
  ·rename_i h1
   simp only [Option.some.injEq,Prod.mk.injEq] at h
   rw [if_pos h1]
   simp [h.1,h.2]
  ·cases h
theorem wordN_le (s:List UInt8):wordN s≤s.length:=by unfold wordN;exact (List.takeWhile_sublist _).length_le
theorem numN_le1 (s:List UInt8):(numN s).1≤s.length:=by
 unfold numN
 split
 ·simp
 ·have h1:=wholeN_le s
  have h2:=fracN_le (s.drop (wholeN s))
  have h3:=powN_le (s.drop (wholeN s+fracN (s.drop (wholeN s))))
  simp only [List.length_drop] at h2 h3
  simp only;omega
theorem oneT_app {s s':List UInt8} {x:Tok} (h:oneT s=some (x,s')) (t:List UInt8):s'.length<s.length∧oneT (s++10 :: t)=some (x,s'++10 :: t):=by
 cases s with
 | nil=>cases h
 | cons c r =>
  have e3:=pre_app threeT (c :: r) t (by decide)
  have ed:=pre_app dotsT (c :: r) t (by decide)
  rw [List.cons_append] at e3 ed
  have hw:=wordN_app (c :: r) (end10 t)
  have hn:=numN_app (a:=c :: r) (end10 t)
  simp only [oneT] at h
  simp only [oneT,List.cons_append]
  rw [e3,ed]
  by_cases h1:threeT.isPrefixOf (c :: r)=true
  ·rw [if_pos h1] at h ⊢
   have hl:=pre_len _ _ h1
   simp only [threeT,List.length_cons,List.length_nil] at hl
   cases hr:rawM (r.length+1) [] (r.drop 2) with
   | none=>rw [hr] at h;cases h
   | some y =>
    rw [hr] at h
    simp only [Option.map_some,Option.some.injEq,Prod.mk.injEq] at h
    obtain ⟨rfl,rfl⟩:=h
    obtain ⟨g1,g2⟩:=rawM_app _ _ _ y.1 y.2 hr
    simp only [List.length_drop] at g1
    rw [List.drop_append_of_le_length (by omega),g2 _ t (by simp)]
    exact ⟨by simp only [List.length_cons];omega,rfl⟩
  rw [if_neg h1] at h ⊢
  by_cases h2:c=34
  ·rw [if_pos h2] at h ⊢
   cases hr:quoM lineB r with
   | none=>rw [hr] at h;cases h
   | some y =>
    rw [hr] at h
    simp only [Option.map_some,Option.some.injEq,Prod.mk.injEq] at h
    obtain ⟨rfl,rfl⟩:=h
    have g1:=quoM_suf (t':=y.2) (b:=y.1) hr
    rw [quoM_app (10 :: t) (b:=y.1) (s':=y.2) hr]
    exact ⟨by simp only [List.length_cons];omega,rfl⟩
  rw [if_neg h2] at h ⊢
  by_cases h3:dotsT.isPrefixOf (c :: r)=true
  ·rw [if_pos h3] at h ⊢
   have hl:=pre_len _ _ h3
   simp only [dotsT,List.length_cons,List.length_nil] at hl
   simp only [Option.some.injEq,Prod.mk.injEq] at h ⊢
   obtain ⟨rfl,rfl⟩:=h
   exact ⟨by simp;omega,rfl,List.drop_append_of_le_length (by omega)⟩
  rw [if_neg h3] at h ⊢
  by_cases h4:0≤Lib.indexByte marksT c
  ·rw [if_pos h4] at h ⊢
   simp only [Option.some.injEq,Prod.mk.injEq] at h ⊢
   obtain ⟨rfl,rfl⟩:=h
   exact ⟨by simp,rfl,rfl⟩
  rw [if_neg h4] at h ⊢
  by_cases h5:isL c=true
  ·rw [if_pos h5] at h ⊢
   have hl:=wordN_le (c :: r)
   have hp:0<wordN (c :: r):=by unfold wordN;simp [h5]
   simp only [Option.some.injEq,Prod.mk.injEq] at h ⊢
   obtain ⟨rfl,rfl⟩:=h
   rw [← List.cons_append,hw,List.take_append_of_le_length hl,List.drop_append_of_le_length hl]
   exact ⟨by rw [List.length_drop];simp only [List.length_cons] at hl ⊢;omega,rfl,rfl⟩
  rw [if_neg h5] at h ⊢
  rw [← List.cons_append,hn]
  by_cases h6:(numN (c :: r)).1=0
  ·rw [if_pos h6] at h;cases h
  rw [if_neg h6] at h ⊢
  have hl:=numN_le1 (c :: r)
  rw [List.take_append_of_le_length hl,List.drop_append_of_le_length hl]
  have hh:(((c :: r).drop (numN (c :: r)).1++10 :: t).head?.any fun d=>isL d || isD d || decide (d=46))=(((c :: r).drop (numN (c :: r)).1).head?.any fun d=>isL d || isD d || decide (d=46)):=by
   cases (c :: r).drop (numN (c :: r)).1 with
   | nil=>simp [isL,isD]
   | cons d t=>rfl
  rw [hh]
  split at h
  ·cases h
  ·rename_i h7
   rw [if_neg h7]
   simp only [Option.some.injEq,Prod.mk.injEq] at h ⊢
   obtain ⟨rfl,rfl⟩:=h
   exact ⟨by rw [List.length_drop];simp only [List.length_cons] at hl ⊢;omega,rfl,rfl⟩
theorem gapN_le (s:List UInt8):gapN s≤s.length:=by
 cases s with
 | nil=>simp [gapN]
 | cons c r =>
  simp only [gapN]
  split
  ·simp
  ·split
   ·rename_i h;have:=pre_len _ _ h;simpa [bomT] using this
   ·split
    ·have:=(List.takeWhile_sublist notEol (l:=r)).length_le;simp only [List.length_cons];omega
    ·simp
theorem oneT_lt {s s':List UInt8} {x:Tok} (h:oneT s=some (x,s')):s'.length<s.length:=(oneT_app h []).1
theorem readG_fuel:∀ (n m:Nat) (l:List Tok) (s:List UInt8),s.length<n→s.length<m→readG n l s=readG m l s
 | 0,_,_,_,h,_=>by omega
 | _,0,_,_,_,h=>by omega
 | n+1,m+1,l,s,h1,h2=>by
  simp only [readG]
  split
  ·rfl
  ·rename_i hne
   split
   ·rename_i hg
    have hl:0<s.length:=List.length_pos_iff.2 hne
    exact readG_fuel n m _ _ (by rw [List.length_drop];omega) (by rw [List.length_drop];omega)
   ·cases ho:oneT s with
    | none=>rfl
    | some x =>
     have:=oneT_lt (x:=x.1) (s':=x.2) ho
     exact readG_fuel n m _ _ (by omega) (by omega)
theorem readT_ok {s:List UInt8} {l:List Tok} (h:readT s=.ok l):s.length≤8192∧srcB s=true∧readG (s.length+1) [] s=.ok l:=by
 unfold readT at h
 split at h
 ·cases h
 ·split at h
  ·rename_i h1 h2;exact ⟨by omega,h2,h⟩
  ·cases h
end Go.Proofs.YticbbfbpeimkbaaGreatDoor
namespace Go.Proofs.YticbbfbpeimkbaaGreatDoor
open Go.Ab Go.Lib
theorem indG_le:∀ (L:List (List UInt8)) (a:Int),(0≤a→indG L a≤a∧0≤indG L a)∧(∀ s ∈ L,bareL s=false→indG L a≤leadN s∧0≤indG L a)
 | [],a=>⟨fun h=>⟨Int.le_refl _,h⟩,fun s hs=>nomatch hs⟩
 | s :: r,a=>by
  simp only [indG]
  have ih:=indG_le r
  by_cases hb:bareL s=true
  ·rw [if_pos hb]
   refine ⟨(ih a).1,fun x hx hxb=>?_⟩
   rcases List.mem_cons.1 hx with rfl|hx
   ·rw [hb] at hxb;cases hxb
   ·exact (ih a).2 x hx hxb
  ·rw [if_neg hb]
   by_cases hc:a<0∨(leadN s:Int)<a
   ·rw [if_pos hc]
    have h1:=(ih (leadN s)).1 (by omega)
    refine ⟨fun h=>⟨by omega,h1.2⟩,fun x hx hxb=>?_⟩
    rcases List.mem_cons.1 hx with rfl|hx
    ·exact h1
    ·exact (ih _).2 x hx hxb
   ·rw [if_neg hc]
    have h1:=(ih a).1 (by omega)
    refine ⟨fun _=>h1,fun x hx hxb=>?_⟩
    rcases List.mem_cons.1 hx with rfl|hx
    ·exact ⟨by omega,h1.2⟩
    ·exact (ih _).2 x hx hxb
theorem bare_lead {s:List UInt8} (h:bareL s=true):leadN s=s.length:=by
 unfold bareL at h
 unfold leadN
 rw [takeW_all s (List.all_eq_true.1 h)]
end Go.Proofs.YticbbfbpeimkbaaGreatDoor
namespace Go.Proofs.YticbbfbpeimkbaaGreatDoor
open Go.Ab Go.Lib
theorem isMark_ne {s:List UInt8} (h:s.length≠1):isMark s=false:=by
 match s,h with
 | [],_=>rfl
 | [_],h=>exact absurd rfl h
 | _ :: _ :: _,_=>rfl
theorem rightTC (t:Tok) (ht:t.s.length≤Lim):Pure Tryz.prog 119 [.agg (cK t)] (.bool (rightK t)):=by
 refine Pure.go ir119 ck119 (Nat.le_refl _) fun KP Q hQ=>?_
 obtain ⟨k,s⟩:=t
 simp only at ht
 by_cases k1:k=1
 ·subst k1
  by_cases hd:s=[46,46,46]
  ·simp (disch:=first|omega|assumption) only [ir119,cK,hd,go_sem,↓reduceIte]
   exact hQ _ _ _ _ nofun rfl (by simp [tupOf,envOf,AV.strip,AV.strip1,rightK,hd,dotsT])
  by_cases hl:s.length=1
  ·obtain ⟨c,rfl⟩:=List.length_eq_one_iff.1 hl
   simp (disch:=first|omega|assumption) only [ir119,cK,hd,go_sem,↓reduceIte]
   have e:rightK ⟨1,[c]⟩=decide (0≤Lib.indexByte marksT c):=by simp [rightK,dotsT,isMark]
   refine goK_pure (containsC1 _ c) ?_
   simp (disch:=first|omega|assumption) only [go_sem,↓reduceIte]
   exact hQ _ _ _ [_] nofun rfl (by rw [e];rfl)
  ·have hl':¬ ((s.length:Int)=1):=by omega
   simp (disch:=first|omega|assumption) only [ir119,cK,hd,hl',go_sem,↓reduceIte]
   exact hQ _ _ _ _ nofun rfl (by simp [tupOf,envOf,AV.strip,AV.strip1,rightK,hd,dotsT,isMark_ne hl])
 by_cases k2:k=2
 ·subst k2
  simp (disch:=first|omega|assumption) only [ir119,cK,go_sem,↓reduceIte]
  refine goK_pure (nameC s ht) ?_
  simp (disch:=first|omega|assumption) only [go_sem,↓reduceIte]
  exact hQ _ _ _ _ nofun rfl (by simp [tupOf,envOf,AV.strip,AV.strip1,rightK])
 by_cases k3:k=3
 ·subst k3
  simp (disch:=first|omega|assumption) only [ir119,cK,go_sem,↓reduceIte]
  refine goK_pure (NumberC s ht) ?_
  simp (disch:=first|omega|assumption) only [go_sem,↓reduceIte]
  exact hQ _ _ _ _ nofun rfl (by simp [tupOf,envOf,AV.strip,AV.strip1,rightK])
 by_cases k4:k=4
 ·subst k4
  simp (disch:=first|omega|assumption) only [ir119,cK,go_sem,↓reduceIte]
  refine goK_pure (NumberC s ht) ?_
  simp (disch:=first|omega|assumption) only [go_sem,↓reduceIte]
  exact hQ _ _ _ _ nofun rfl (by simp [tupOf,envOf,AV.strip,AV.strip1,rightK])
 by_cases k5:k=5
 ·subst k5
  simp (disch:=first|omega|assumption) only [ir119,cK,go_sem,↓reduceIte]
  refine goK_pure (goodC s ht) ?_
  simp (disch:=first|omega|assumption) only [go_sem,↓reduceIte]
  exact hQ _ _ _ _ nofun rfl (by simp [tupOf,envOf,AV.strip,AV.strip1,rightK])
 ·simp (disch:=first|omega|assumption) only [ir119,cK,k1,k2,k3,k4,k5,go_sem,↓reduceIte]
  exact hQ _ _ _ _ nofun rfl (by simp [tupOf,envOf,AV.strip,AV.strip1,rightK,k1,k2,k3,k4,k5])
theorem join_le:∀ l:List (List UInt8),(Lib.join l [32]).length≤(l.map fun s=>s.length+1).sum
 | []=>by simp [Lib.join_nil]
 | x :: r=>by
  rw [Lib.join_length]
  have:∀ l:List (List UInt8),lens l+l.length=(l.map fun s=>s.length+1).sum:=fun l=>by
   induction l with
   | nil=>rfl
   | cons y l ih=>simp only [lens,List.map_cons,List.sum_cons,List.length_cons] at ih ⊢;omega
  have h:=this (x :: r)
  simp only [List.length_cons,List.length_nil] at h ⊢
  omega
theorem tjoin_le (l:List Tok) (h:l.all rightK=true):(tjoin l).length≤6*wT l:=by
 refine Nat.le_trans (join_le _) ?_
 induction l with
 | nil=>simp [wT]
 | cons t l ih =>
  simp only [List.all_cons,Bool.and_eq_true] at h
  have h1:=tokT_len h.1
  have h2:=ih h.2
  rw [wT_cons]
  simp only [List.map_cons,List.sum_cons,wK] at h2 ⊢
  omega
theorem wT_mem {l:List Tok} {t:Tok} (h:t ∈ l):t.s.length+4≤wT l:=by
 induction l with
 | nil=>cases h
 | cons y l ih =>
  rw [wT_cons]
  rcases List.mem_cons.1 h with rfl|h
  ·unfold wK;omega
  ·have:=ih h;omega
theorem wT_len (l:List Tok):4*l.length≤wT l:=by
 induction l with
 | nil=>simp
 | cons y l ih=>rw [wT_cons];simp only [List.length_cons,wK];omega
theorem printTC (L:List Tok) (hb:8*wT L≤Lim):Pure Tryz.prog 56 [.sl .no 2 (cKs L)] (.tup [.str (tprint L).1,.bool (tprint L).2]):=by
 refine Pure.go ir56 ck56 (Nat.le_refl _) fun KP Q hQ=>?_
 have hkl:=cKs_len L
 have hwl:=wT_len L
 simp only [Lim] at hb
 simp (disch:=first|omega|assumption) only [ir56,hkl,go_sem,↓reduceIte]
 refine goL_range L 9 (fun x:Own × List (List UInt8)=>[(4,.sl x.1 1 (cT x.2))]) (fun done rest x H=>x.2=done.map tokT∧done.all rightK=true∧Owned H x.1 x.2.length 1) (.nil,[]) (by simp (disch:=first|omega|assumption) only [cT,go_sem,↓reduceIte]) ⟨rfl,rfl,Owned.nil _ _⟩ ?_ ?_
 ·rintro ⟨o,l⟩ H J ⟨hl,hr,ho⟩ hlt
  simp only at hl hr ho
  subst hl
  have hj:=tjoin_le L hr
  have hcl:=cT_len (L.map tokT)
  simp (disch:=first|omega|assumption) only [hkl,hlt,go_sem,↓reduceIte]
  refine goK_pure (Pure.low (joinStrC (L.map tokT) [32] (by show (tjoin L).length≤_;omega) (by simp;omega))) ?_
  simp (disch:=first|omega|assumption) only [go_sem,↓reduceIte]
  exact hQ _ _ _ _ nofun rfl (by simp [tupOf,envOf,AV.strip,AV.strip1,tprint,hr,tjoin])
 ·rintro done x rest ⟨o,l⟩ H J hd hlt hlt2 ⟨hl,hr,ho⟩ hJ
  simp only at hl hr ho
  have hg:=cKs_get hd
  have hmem:x ∈ L:=by rw [hd];simp
  have hx:=wT_mem hmem
  have hlen:l.length=done.length:=by rw [hl];simp
  have hcl:=cT_len l
  simp (disch:=first|omega|assumption) only [hkl,hlt,hg,go_sem,↓reduceIte]
  refine goA_intro fun b hb=>?_
  simp (disch:=first|omega|assumption) only [go_sem,↓reduceIte]
  refine goK_pure (rightTC x (by simp only [Lim];omega)) ?_
  cases hrx:rightK x with
  | false =>
   have e:L.all rightK=false:=by rw [hd];simp [hrx]
   simp (disch:=first|omega|assumption) only [go_sem,↓reduceIte]
   exact hQ _ _ _ _ nofun rfl (by simp [tupOf,envOf,AV.strip,AV.strip1,tprint,e])
  | true =>
   by_cases k5:x.k=5
   ·have hv:validD x.s=true:=by unfold rightK at hrx;rw [k5] at hrx;simpa using hrx
    simp (disch:=first|omega|assumption) only [k5,go_sem,↓reduceIte]
    refine goK_pure (quoteTC x.s hv (by simp only [Lim];omega)) ?_
    simp (disch:=first|omega|assumption) only [go_sem,↓reduceIte]
    refine goP_ownS (by rw [hcl];exact ho.upd hb) (by simp only [hcl,List.length_cons,List.length_nil];omega) (by simp only [hcl,List.length_cons,List.length_nil,maxLen];omega) fun o3 H3 hs3=>?_
    have et:tokT x=tquo x.s:=by unfold tokT;rw [if_pos k5]
    simp (disch:=first|omega|assumption) only [wrap64,go_sem,↓reduceIte]
    exact goJ (hJ (o3,l++[tquo x.s]) H3 ⟨by rw [hl];simp [et],by simp [hr,hrx],by simpa [hcl] using hs3.own⟩) (by simp (disch:=first|omega|assumption) only [cT,List.map_append,go_sem,↓reduceIte])
   ·have et:tokT x=x.s:=by unfold tokT;rw [if_neg k5]
    simp (disch:=first|omega|assumption) only [k5,go_sem,↓reduceIte]
    refine goP_ownS (by rw [hcl];exact ho.upd hb) (by simp only [hcl,List.length_cons,List.length_nil];omega) (by simp only [hcl,List.length_cons,List.length_nil,maxLen];omega) fun o3 H3 hs3=>?_
    simp (disch:=first|omega|assumption) only [wrap64,go_sem,↓reduceIte]
    exact goJ (hJ (o3,l++[x.s]) H3 ⟨by rw [hl];simp [et],by simp [hr,hrx],by simpa [hcl] using hs3.own⟩) (by simp (disch:=first|omega|assumption) only [cT,List.map_append,go_sem,↓reduceIte])
end Go.Proofs.YticbbfbpeimkbaaGreatDoor
namespace Go.Proofs.YticbbfbpeimkbaaGreatDoor
open Go.Ab
structure WAt (H:Heap) (w:Nat) (o:Own) (l:List Tok) (ok:Bool) (dp:Int):Prop where
 cell:H w=some (.cells [.sl o 2 (cKs l),.bool ok,.int .i64 dp])
 own:Owned H o l.length 2
structure WStep (H:Heap) (o:Own) (w:Nat) (H':Heap) (o':Own):Prop where
 keep:∀ c x,c≠w→(∀ d,o≠.tip c d)→H c=some x→H' c=some x
 new:∀ b d,o'=.tip b d→H b=none∨∃ d0,o=.tip b d0
theorem WStep.refl (H:Heap) (o:Own) (w:Nat):WStep H o w H o:=⟨fun _ _ _ _ h=>h,fun b d e=>.inr ⟨d,e⟩⟩
theorem WStep.trans {H H1 H2:Heap} {o o1 o2:Own} {w:Nat} {x:AObj} (h:WStep H o w H1 o1) (hw:H1 w=some x) (h':WStep H1 o1 w H2 o2):WStep H o w H2 o2:=by
 refine ⟨fun c y hc hn hy=>h'.keep c y hc (fun d e=>?_) (h.keep c y hc hn hy),fun b d e=>?_⟩
 ·rcases h.new c d e with h1|⟨d0,h1⟩
  ·rw [hy] at h1;cases h1
  ·exact hn d0 h1
 ·rcases h'.new b d e with h1|⟨d0,h1⟩
  ·cases hb:H b with
   | none=>exact .inl rfl
   | some y =>
    by_cases e2:∃ d,o=.tip b d
    ·exact .inr e2
    ·have hbw:b≠w:=fun e3=>by subst e3;rw [hw] at h1;cases h1
     have:=h.keep b y hbw (fun d e3=>e2 ⟨d,e3⟩) hb
     rw [h1] at this;cases this
  ·exact h.new b d0 h1
theorem WStep.box {H H':Heap} {o o':Own} {w b n:Nat} {cs:List AV} (h:WStep H o w H' o') (ho:Owned H o n 2) (hb:H b=some (.cells cs)) (hw:b≠w):H' b=some (.cells cs) :=
 h.keep b _ hw (fun d e=>by subst e;exact own_ne ho hb rfl) hb
theorem WStep.upd {H H':Heap} {o o':Own} {w:Nat} {x:AObj} (h:WStep H o w H' o'):WStep H o w (H'.upd w x) o' :=
 ⟨fun c y hc hn hy=>by rw [upd_ne hc];exact h.keep c y hc hn hy,h.new⟩
theorem WStep.alloc {H H':Heap} {o o':Own} {w b:Nat} {x:AObj} (h:WStep H o w H' o') (hb:H' b=none):WStep H o w (H'.upd b x) o' :=
 ⟨fun c y hc hn hy=>by have:=h.keep c y hc hn hy;rw [upd_ne (fun e=>by subst e;rw [hb] at this;cases this)];exact this,h.new⟩
theorem WAt.alloc {H:Heap} {w b:Nat} {o:Own} {l:List Tok} {ok:Bool} {dp:Int} {x:AObj} (h:WAt H w o l ok dp) (hb:H b=none):WAt (H.upd b x) w o l ok dp :=
 ⟨by rw [upd_ne (fun e=>by subst e;rw [h.cell] at hb;cases hb)];exact h.cell,h.own.upd hb⟩
theorem WAt.put {H:Heap} {w:Nat} {o:Own} {l:List Tok} {ok ok':Bool} {dp dp':Int} (h:WAt H w o l ok dp):WAt (H.upd w (.cells [.sl o 2 (cKs l),.bool ok',.int .i64 dp'])) w o l ok' dp' :=
 ⟨upd_same ..,own_upd h.own h.cell⟩
theorem WAt.app {H H1:Heap} {w:Nat} {o o1:Own} {l ts:List Tok} {ok:Bool} {dp:Int} {n:Nat} (h:WAt H w o l ok dp) (hs:OwnS H o H1 o1 n 2) (hn:n=(l++ts).length) :
  H1 w=some (.cells [.sl o 2 (cKs l),.bool ok,.int .i64 dp])∧WAt (H1.upd w (.cells [.sl o1 2 (cKs (l++ts)),.bool ok,.int .i64 dp])) w o1 (l++ts) ok dp∧WStep H o w (H1.upd w (.cells [.sl o1 2 (cKs (l++ts)),.bool ok,.int .i64 dp])) o1:=by
 subst hn
 have hc:=own_keep h.own h.cell hs.kept
 exact ⟨hc,⟨upd_same ..,own_upd hs.own hc⟩,fun c y hcw hn hy=>by rw [upd_ne hcw];exact hs.kept c y hy hn,hs.new⟩
abbrev RetT (R:AV→Heap→Prop):AEnd→Heap→Prop:=fun e H'=>∃ v,e=.ret v∧R v H'
structure WR (H0:Heap) (o0:Own) (w:Nat) (l0:List Tok) (ok0:Bool) (dp:Int) (B:Nat) (r:Bool) (tk:List Tok) (H:Heap) (o:Own) (l:List Tok):Prop where
 here:WAt H w o l (ok0 && r) dp
 st:WStep H0 o0 w H o
 len:l.length≤l0.length+B
 eq:(ok0 && r)=true→l=l0++tk
theorem WR.refl {H:Heap} {o:Own} {w:Nat} {l:List Tok} {ok:Bool} {dp:Int} (h:WAt H w o l ok dp):WR H o w l ok dp 0 true [] H o l :=
 ⟨by rw [Bool.and_true];exact h,.refl _ _ _,Nat.le_refl _,fun _=>by simp⟩
theorem WR.alloc {H0 H:Heap} {o0 o:Own} {w b B:Nat} {l0 l tk:List Tok} {ok0 r:Bool} {dp:Int} {x:AObj} (h:WR H0 o0 w l0 ok0 dp B r tk H o l) (hb:H b=none):WR H0 o0 w l0 ok0 dp B r tk (H.upd b x) o l :=
 ⟨h.here.alloc hb,h.st.alloc hb,h.len,h.eq⟩
section
variable {KP:AV→Heap→Prop} {Q:AExit→Env→Heap→Prop} {st:List Fr} {ρ:Env} {H:Heap} {all items:List AItem} {d:Option Nat} {R:List Chk}
end
end Go.Proofs.YticbbfbpeimkbaaGreatDoor
namespace Go.Proofs.YticbbfbpeimkbaaGreatDoor
open Go.Ab Go.Lib
def cStr (l:List (List UInt8)):List AV:=l.map AV.str
theorem cStr_len (l:List (List UInt8)):(cStr l).length=l.length:=by simp [cStr]
def MsT (H:Heap) (b cap:Nat) (l:List (List UInt8)):Prop:=∃ tl,H b=some (.cells (cStr l++tl))∧l.length+tl.length=cap
theorem madeA1 (z:AV):∀ n,(madeA [z] n).length=n
 | 0=>rfl
 | n+1=>by simp [madeA,madeA1 z n]
section
variable {KP:AV→Heap→Prop} {Q:AExit→Env→Heap→Prop} {st:List Fr} {ρ:Env} {H:Heap} {all items:List AItem} {d:Option Nat} {R:List Chk}
theorem goPm_T {b cap:Nat} {l:List (List UInt8)} {x:List UInt8} {o2:Own} (h:MsT H b cap l) (h1:(l.length+1)*16≤140737488355328) (h2:l.length+1≤maxLen)
  (k:∀ b' cap' H',MsT H' b' cap' (l++[x])→goR Tryz.prog KP Q all items st R (ρ.set d (.ms b' 0 (l.length+1) cap')) H') :
  goPm Tryz.prog KP Q all items st d R ρ 1 16 [.str []] (.ms b 0 l.length cap) (.sl o2 1 [[.str x]]) H:=by
 obtain ⟨tl,hb,hc⟩:=h
 refine goPm_ms hb rfl (by simpa using h1) (by simpa using h2) (fun hfit=>⟨?_,?_⟩) (fun hnf=>⟨?_,fun b' cap' hb' hcap' hm'=>?_⟩)
 ·have hfit:l.length+1≤cap:=hfit
  simp [cStr_len];omega
 ·have hfit:l.length+1≤cap:=hfit
  obtain ⟨t0,tl,rfl⟩:∃ t0 t1,tl=t0 :: t1:=by
   cases tl with
   | nil=>simp at hc;omega
   | cons a b=>exact ⟨a,b,rfl⟩
  refine k b cap _ ⟨tl,?_,by simp at hc ⊢;omega⟩
  rw [upd_same]
  simp only [splice,List.flatten_cons,List.flatten_nil,List.append_nil,List.map_cons,List.map_nil,AV.strip1,List.length_cons,List.length_nil,Nat.zero_add,Nat.mul_one]
  rw [List.take_left' (cStr_len l),List.drop_append,List.drop_eq_nil_of_le (by rw [cStr_len];omega),cStr_len,Nat.add_sub_cancel_left]
  simp [cStr]
 ·simp [cStr_len]
 ·refine k b' cap' _ ⟨madeA [.str []] (cap'-(l.length+1)),?_,?_⟩
  ·rw [upd_same]
   simp only [List.drop_zero,Nat.mul_one,List.flatten_cons,List.flatten_nil,List.append_nil,List.map_cons,List.map_nil,AV.strip1,List.length_cons,List.length_nil,Nat.zero_add]
   rw [List.take_left' (cStr_len l)]
   simp [cStr]
  ·have hcap':l.length+1≤cap':=hcap'
   rw [madeA1];simp;omega
theorem goPm_T0 {x:List UInt8} {o2:Own} (k:∀ b' cap' H',MsT H' b' cap' [x]→goR Tryz.prog KP Q all items st R (ρ.set d (.ms b' 0 1 cap')) H') :
  goPm Tryz.prog KP Q all items st d R ρ 1 16 [.str []] (.sl .nil 1 []) (.sl o2 1 [[.str x]]) H:=by
 refine goPm_nil rfl (by simp) (by simp [maxLen]) (fun h=>by simp at h) fun _ b cap hb h1 h2=>?_
 have h1:1≤cap:=h1
 refine k b cap _ ⟨madeA [.str []] (cap-1),?_,by rw [madeA1];simp;omega⟩
 rw [upd_same]
 simp [cStr,AV.strip1]
end
theorem linesG_plain {cur r:List UInt8} {c:UInt8} (h:¬ (c=10∨c=13)):linesG cur (c :: r)=linesG (cur++[c]) r:=by
 have h10:c≠10:=fun e=>h (.inl e)
 have h13:c≠13:=fun e=>h (.inr e)
 cases r with
 | nil=>simp [linesG,h10,h13]
 | cons d r=>simp [linesG,h10,h13]
theorem linesG_10 (cur r:List UInt8):linesG cur (10 :: r)=cur :: linesG [] r:=by cases r<;>simp [linesG]
theorem linesG_13 {cur r:List UInt8} (h:r.head?≠some 10):linesG cur (13 :: r)=cur :: linesG [] r:=by
 cases r with
 | nil=>simp [linesG]
 | cons d r =>
  have:d≠10:=by simpa using h
  simp [linesG,this]
theorem linesG_two (cur r:List UInt8):linesG cur (13 :: 10 :: r)=cur :: linesG [] r:=by simp [linesG]
def linV (b cap:Nat) (l:List (List UInt8)):AV:=if l=[] then .sl .nil 1 [] else .ms b 0 l.length cap
theorem linV_nil (b cap:Nat):linV b cap []=.sl .nil 1 []:=rfl
theorem linV_ne {b cap:Nat} {l:List (List UInt8)} (h:l≠[]):linV b cap l=.ms b 0 l.length cap:=if_neg h
def LinesQ (s:List UInt8):AEnd→Heap→Prop:=RetT fun v H'=>∃ b cap,v=.ms b 0 (linesM s).length cap∧MsT H' b cap (linesM s)
section
variable {KP:AV→Heap→Prop} {Q:AExit→Env→Heap→Prop} {st:List Fr} {ρ:Env} {H:Heap} {all items:List AItem} {d:Option Nat} {R:List Chk}
theorem goPm_L {b cap:Nat} {l:List (List UInt8)} {x:List UInt8} {o2:Own} (h:l≠[]→MsT H b cap l) (h1:(l.length+1)*16≤140737488355328) (h2:l.length+1≤maxLen)
  (k:∀ b' cap' H',MsT H' b' cap' (l++[x])→goR Tryz.prog KP Q all items st R (ρ.set d (.ms b' 0 (l.length+1) cap')) H') :
  goPm Tryz.prog KP Q all items st d R ρ 1 16 [.str []] (linV b cap l) (.sl o2 1 [[.str x]]) H:=by
 by_cases hl:l=[]
 ·subst hl
  rw [linV_nil]
  exact goPm_T0 fun b' cap' H' hm=>k b' cap' H' hm
 ·rw [linV_ne hl]
  exact goPm_T (h hl) h1 h2 k
end
theorem linesTC (s:List UInt8) (hs:s.length≤Lim):ACalls Tryz.prog 323 [.str s] Heap.emp (LinesQ s):=by
 refine ACalls.go ir323 ck323 (Nat.le_refl _) fun KP Q hQ=>?_
 have hs':=hs
 simp only [Lim] at hs'
 simp (disch:=first|omega|assumption) only [ir323,go_sem,↓reduceIte]
 refine goL_st (fun x:Nat × Nat × List (List UInt8) × Nat × Nat=>[(3,linV x.2.2.2.1 x.2.2.2.2 x.2.2.1),(4,.int .i64 x.2.1),(5,.int .i64 x.1)]) (fun x H'=>x.2.1≤x.1∧x.1≤s.length∧x.2.2.1.length≤x.1∧x.2.2.1++linesG ((s.take x.1).drop x.2.1) (s.drop x.1)=linesM s∧(x.2.2.1≠[]→MsT H' x.2.2.2.1 x.2.2.2.2 x.2.2.1)) (fun x=>s.length-x.1) (0,0,[],0,0) (by simp (disch:=first|omega|assumption) only [linV_nil,go_sem,↓reduceIte]) ⟨Nat.le_refl _,Nat.zero_le _,Nat.le_refl _,by simp [linesM],fun h=>absurd rfl h⟩ ?_
 rintro ⟨i,fr,l,b,cap⟩ H1 J ⟨h1,h2,h3,h4,h5⟩ hJ
 simp only at h1 h2 h3 h4 h5
 by_cases hlt:i<s.length
 case neg =>
  obtain rfl:i=s.length:=by omega
  have hlt':¬ ((s.length:Int)<s.length):=by omega
  have hb1:((fr:Int)≤s.length)=True:=eq_true (by omega)
  rw [List.drop_length,List.take_length] at h4
  simp only [linesG] at h4
  simp (disch:=first|omega|assumption) only [hlt',hb1,go_sem,↓reduceIte]
  refine goPm_L h5 (by omega) (by simp only [maxLen];omega) fun b' cap' H2 hm=>?_
  simp (disch:=first|omega|assumption) only [go_sem,↓reduceIte]
  exact hQ _ _ H2 H2 [_] nofun rfl (Low.refl _) ⟨b',cap',by rw [← h4];simp [tupOf,envOf,AV.strip,AV.strip1],by rw [← h4];exact hm⟩
 have hlt':((i:Int)<s.length)=True:=eq_true (by omega)
 obtain ⟨c,r,hd⟩:∃ c r,s.drop i=c :: r:=by
  cases hx:s.drop i with
  | nil=>have:=congrArg List.length hx;simp at this;omega
  | cons c r=>exact ⟨c,r,rfl⟩
 have hc:s.getD i 0=c:=by
  have:(s.drop i).getD 0 0=c:=by rw [hd];rfl
  simpa [List.getD_eq_getElem?_getD] using this
 have hr:s.drop (i+1)=r:=by rw [← List.drop_drop,hd];rfl
 have htk:s.take (i+1)=s.take i++[c]:=by
  rw [List.take_add,hd];rfl
 have hcur:((s.take (i+1)).drop fr)=(s.take i).drop fr++[c]:=by
  rw [htk,List.drop_append_of_le_length (by simp;omega)]
 rw [hd] at h4
 have hb1:((fr:Int)≤(i:Int))=True:=eq_true (by omega)
 have hne9:l++[(s.take i).drop fr]≠[]:=by simp
 have hb2:((i:Int)≤s.length)=True:=eq_true (by omega)
 by_cases e10:c=10
 case pos =>
  subst e10
  rw [linesG_10] at h4
  have hcn:((10:UInt8).toNat:Int)=10:=rfl
  simp (disch:=first|omega|assumption) only [hlt',hc,hcn,hb1,hb2,go_sem,↓reduceIte]
  refine goPm_L h5 (by omega) (by simp only [maxLen];omega) fun b' cap' H2 hm=>?_
  simp (disch:=first|omega|assumption) only [hc,hcn,wrap64,go_sem,↓reduceIte]
  refine goJ (hJ (i+1,i+1,l++[(s.take i).drop fr],b',cap') H2 (by simp only;omega) ⟨Nat.le_refl _,by simp only;omega,by simp;omega,?_,fun _=>hm⟩) (by simp (disch:=first|omega|assumption) only [linV_ne hne9,List.length_append,List.length_cons,List.length_nil,Nat.zero_add,Int.natCast_add,go_sem,↓reduceIte])
  rw [hr]
  simpa using h4
 by_cases e13:c=13
 case neg =>
  rw [linesG_plain (by simp [e10,e13])] at h4
  have c10:¬ ((c.toNat:Int)=10):=fun e=>e10 (UInt8.toNat_inj.1 (by simpa using (by omega:c.toNat=10)))
  have c13:¬ ((c.toNat:Int)=13):=fun e=>e13 (UInt8.toNat_inj.1 (by simpa using (by omega:c.toNat=13)))
  simp (disch:=first|omega|assumption) only [hlt',hc,c10,c13,wrap64,go_sem,↓reduceIte]
  refine goJ (hJ (i+1,fr,l,b,cap) H1 (by simp only;omega) ⟨by simp only;omega,by simp only;omega,by simp only;omega,?_,h5⟩) (by simp (disch:=first|omega|assumption) only [Int.natCast_add,go_sem,↓reduceIte])
  rw [hr,hcur];exact h4
 subst e13
 have hcn:((13:UInt8).toNat:Int)=13:=rfl
 by_cases h10:r.head?=some 10
 case neg =>
  rw [linesG_13 h10] at h4
  by_cases hi2:i+1<s.length
  case neg =>
   have hi2':¬ ((i:Int)+1<s.length):=by omega
   simp (disch:=first|omega|assumption) only [hlt',hc,hcn,hb1,hb2,go_sem,↓reduceIte]
   refine goPm_L h5 (by omega) (by simp only [maxLen];omega) fun b' cap' H2 hm=>?_
   simp (disch:=first|omega|assumption) only [hc,hcn,wrap64,hi2',go_sem,↓reduceIte]
   refine goJ (hJ (i+1,i+1,l++[(s.take i).drop fr],b',cap') H2 (by simp only;omega) ⟨Nat.le_refl _,by simp only;omega,by simp;omega,?_,fun _=>hm⟩) (by simp (disch:=first|omega|assumption) only [linV_ne hne9,List.length_append,List.length_cons,List.length_nil,Nat.zero_add,Int.natCast_add,go_sem,↓reduceIte])
   rw [hr]
   simpa using h4
  have hi2':((i:Int)+1<s.length)=True:=eq_true (by omega)
  obtain ⟨e,r',hre⟩:∃ e r',r=e :: r':=by
   cases r with
   | nil=>have:=congrArg List.length hr;simp at this;omega
   | cons e r'=>exact ⟨e,r',rfl⟩
  have hge:s.getD (i+1) 0=e:=by
   have:(s.drop (i+1)).getD 0 0=e:=by rw [hr,hre];rfl
   simpa [List.getD_eq_getElem?_getD] using this
  have hne:e≠10:=by rw [hre] at h10;simpa using h10
  have hgn:¬ ((e.toNat:Int)=10):=fun x=>hne (UInt8.toNat_inj.1 (by simpa using (by omega:e.toNat=10)))
  have hg1:((i:Int)+1).toNat=i+1:=by omega
  simp (disch:=first|omega|assumption) only [hlt',hc,hcn,hb1,hb2,go_sem,↓reduceIte]
  refine goPm_L h5 (by omega) (by simp only [maxLen];omega) fun b' cap' H2 hm=>?_
  simp (disch:=first|omega|assumption) only [hc,hcn,wrap64,hi2',hg1,hge,hgn,go_sem,↓reduceIte]
  refine goJ (hJ (i+1,i+1,l++[(s.take i).drop fr],b',cap') H2 (by simp only;omega) ⟨Nat.le_refl _,by simp only;omega,by simp;omega,?_,fun _=>hm⟩) (by simp (disch:=first|omega|assumption) only [linV_ne hne9,List.length_append,List.length_cons,List.length_nil,Nat.zero_add,Int.natCast_add,go_sem,↓reduceIte])
  rw [hr]
  simpa using h4
 obtain ⟨r',hre⟩:∃ r',r=10 :: r':=by
  cases r with
  | nil=>cases h10
  | cons e r'=>simp only [List.head?_cons,Option.some.injEq] at h10;subst h10;exact ⟨r',rfl⟩
 rw [hre,linesG_two] at h4
 have hi2:i+1<s.length:=by
  have:=congrArg List.length hr;rw [hre] at this;simp at this;omega
 have hi2':((i:Int)+1<s.length)=True:=eq_true (by omega)
 have hge:s.getD (i+1) 0=10:=by
  have:(s.drop (i+1)).getD 0 0=10:=by rw [hr,hre];rfl
  simpa [List.getD_eq_getElem?_getD] using this
 have hgn:((10:UInt8).toNat:Int)=10:=rfl
 have hg1:((i:Int)+1).toNat=i+1:=by omega
 have hr2:s.drop (i+1+1)=r':=by rw [← List.drop_drop,hr,hre];rfl
 simp (disch:=first|omega|assumption) only [hlt',hc,hcn,hb1,hb2,go_sem,↓reduceIte]
 refine goPm_L h5 (by omega) (by simp only [maxLen];omega) fun b' cap' H2 hm=>?_
 simp (disch:=first|omega|assumption) only [hc,hcn,wrap64,hi2',hg1,hge,hgn,go_sem,↓reduceIte]
 refine goJ (hJ (i+1+1,i+1+1,l++[(s.take i).drop fr],b',cap') H2 (by simp only;omega) ⟨Nat.le_refl _,by simp only;omega,by simp;omega,?_,fun _=>hm⟩) (by simp (disch:=first|omega|assumption) only [linV_ne hne9,List.length_append,List.length_cons,List.length_nil,Nat.zero_add,Int.natCast_add,go_sem,↓reduceIte])
 rw [hr2]
 simpa using h4
theorem isBl_nat (c:UInt8):isBl c=true↔(c.toNat:Int)=9∨(c.toNat:Int)=32:=by
 simp only [isBl,Bool.or_eq_true,decide_eq_true_eq]
 constructor
 ·rintro (rfl|rfl)
  ·exact .inl rfl
  ·exact .inr rfl
 ·rintro (h|h)
  ·exact .inl (UInt8.toNat_inj.1 (by simpa using (by omega:c.toNat=9)))
  ·exact .inr (UInt8.toNat_inj.1 (by simpa using (by omega:c.toNat=32)))
theorem lead_stop {a r:List UInt8} {c:UInt8} (ha:∀ x ∈ a,isBl x=true) (hc:isBl c=false):leadN (a++c :: r)=a.length∧bareL (a++c :: r)=false:=by
 refine ⟨?_,?_⟩
 ·unfold leadN
  induction a with
  | nil=>simp [hc]
  | cons x a ih=>simp [ha x (.head _),ih fun y hy=>ha y (.tail _ hy)]
 ·simp [bareL,hc]
theorem lead_all {a:List UInt8} (ha:∀ x ∈ a,isBl x=true):leadN a=a.length∧bareL a=true:=by
 have hb:bareL a=true:=List.all_eq_true.2 ha
 exact ⟨bare_lead hb,hb⟩
theorem blanksTC (s:List UInt8) (hs:s.length≤Lim):Pure Tryz.prog 345 [.str s] (.tup [.int .i64 (leadN s),.bool (!bareL s)]):=by
 refine Pure.go ir345 ck345 (Nat.le_refl _) fun KP Q hQ=>?_
 have hs':=hs
 simp only [Lim] at hs'
 simp (disch:=first|omega|assumption) only [ir345,go_sem,↓reduceIte]
 refine goL_range s 7 (fun _:AV=>[]) (fun done rest _ H'=>∀ x ∈ done,isBl x=true) (.int .i64 0) (by simp (disch:=first|omega|assumption) only [go_sem,↓reduceIte]) (fun x hx=>nomatch hx) ?_ ?_
 ·rintro y H1 J hdn hlt
  obtain ⟨g1,g2⟩:=lead_all hdn
  simp (disch:=first|omega|assumption) only [hlt,go_sem,↓reduceIte]
  exact hQ _ _ _ _ nofun rfl (by simp [tupOf,envOf,AV.strip,AV.strip1,g1,g2])
 ·rintro done c rest y H1 J hd hlt hlt2 hdn hJ
  have hc:s.getD done.length 0=c:=by rw [hd];simp
  cases hb:isBl c with
  | false =>
   obtain ⟨g1,g2⟩:=lead_stop (r:=rest) hdn hb
   rw [← hd] at g1 g2
   have hn:¬ ((c.toNat:Int)=9∨(c.toNat:Int)=32):=fun h=>by rw [(isBl_nat c).2 h] at hb;cases hb
   have n9:¬ ((c.toNat:Int)=9):=fun h=>hn (.inl h)
   have n32:¬ ((c.toNat:Int)=32):=fun h=>hn (.inr h)
   simp (disch:=first|omega|assumption) only [hlt,hc,n9,n32,go_sem,↓reduceIte]
   exact hQ _ _ _ _ nofun rfl (by simp [tupOf,envOf,AV.strip,AV.strip1,g1,g2])
  | true =>
   have hall:∀ x ∈ done++[c],isBl x=true:=fun x hx=>by
    rcases List.mem_append.1 hx with h|h
    ·exact hdn x h
    ·simp at h;subst h;exact hb
   rcases (isBl_nat c).1 hb with h9|h32
   ·simp (disch:=first|omega|assumption) only [hlt,hc,h9,wrap64,go_sem,↓reduceIte]
    exact goJ (hJ (.int .i64 0) _ hall) (by simp (disch:=first|omega|assumption) only [go_sem,↓reduceIte])
   ·have n9:¬ ((c.toNat:Int)=9):=by omega
    simp (disch:=first|omega|assumption) only [hlt,hc,n9,h32,wrap64,go_sem,↓reduceIte]
    exact goJ (hJ (.int .i64 0) _ hall) (by simp (disch:=first|omega|assumption) only [go_sem,↓reduceIte])
theorem bareTC (s:List UInt8) (hs:s.length≤Lim):Pure Tryz.prog 325 [.str s] (.bool (bareL s)):=by
 refine Pure.go ir325 ck325 (Nat.le_refl _) fun KP Q hQ=>?_
 simp (disch:=first|omega|assumption) only [ir325,go_sem,↓reduceIte]
 refine goK_pure (blanksTC s hs) ?_
 simp (disch:=first|omega|assumption) only [go_sem,↓reduceIte]
 exact hQ _ _ _ _ nofun rfl (by simp [tupOf,envOf,AV.strip,AV.strip1])
end Go.Proofs.YticbbfbpeimkbaaGreatDoor
namespace Go.Proofs.YticbbfbpeimkbaaGreatDoor
open Go.Ab Go.Lib
theorem cStr_get {l a:List (List UInt8)} {x:List UInt8} {b:List (List UInt8)} (h:l=a++x :: b) (tl:List AV):((cStr l++tl).drop (0+a.length*1)).take 1=[.str x]:=by
 subst h;simp [cStr]
theorem cStr_le {l a:List (List UInt8)} {x:List UInt8} {b:List (List UInt8)} (h:l=a++x :: b) (tl:List AV):0+a.length*1+1≤(cStr l++tl).length:=by
 subst h;simp [cStr]
theorem indentTC {H:Heap} {b cap:Nat} {l:List (List UInt8)} (h:MsT H b cap l) (hx:∀ s ∈ l,s.length≤Lim) (hl:l.length≤Lim) :
  ACalls Tryz.prog 324 [.ms b 0 l.length cap] H (RetT fun v H'=>v=.int .i64 (indM l)∧H'=H):=by
 obtain ⟨tl,hb,hc⟩:=h
 refine ACalls.go ir324 ck324 (Nat.le_refl _) fun KP Q hQ=>?_
 have hl':=hl
 simp only [Lim] at hl'
 simp (disch:=first|omega|assumption) only [ir324,go_sem,↓reduceIte]
 refine goL_range l 10 (fun n:Int=>[(3,.int .i64 n)]) (fun done rest n H'=>H'=H∧((done=[]∧n=-1)∨(done≠[]∧indG rest n=indM l))) (-1) (by simp (disch:=first|omega|assumption) only [go_sem,↓reduceIte]) ⟨rfl,.inl ⟨rfl,rfl⟩⟩ ?_ ?_
 ·rintro n H1 J ⟨rfl,hi⟩ hlt
  have e:n=indM l:=by
   rcases hi with ⟨h1,h2⟩|⟨_,h2⟩
   ·subst h1;subst h2;rfl
   ·simpa [indG] using h2
  simp (disch:=first|omega|assumption) only [hlt,go_sem,↓reduceIte]
  exact hQ _ _ _ _ [_] nofun rfl (Low.refl _) ⟨by simp [tupOf,envOf,AV.strip,AV.strip1,e],rfl⟩
 ·rintro done x rest n H1 J hd hlt hlt2 ⟨rfl,hi⟩ hJ
  have hg:=cStr_get hd tl
  have hle:=cStr_le hd tl
  have hxl:=hx x (by rw [hd];simp)
  have hne:done++[x]≠[]:=by simp
  by_cases h0:done.length=0
  ·have h0':((done.length:Int)=0)=True:=eq_true (by omega)
   have hdn:=List.length_eq_zero_iff.1 h0
   have e1:n=-1:=by
    rcases hi with ⟨_,h2⟩|⟨h1,_⟩
    ·exact h2
    ·exact absurd hdn h1
   have e2:rest=l.tail:=by rw [hd,hdn];rfl
   simp (disch:=first|omega|assumption) only [hlt,hb,hg,hle,go_sem,↓reduceIte]
   refine goK_pure (blanksTC x hxl) ?_
   simp (disch:=first|omega|assumption) only [h0',wrap64,go_sem,↓reduceIte]
   exact goJ (hJ n _ ⟨rfl,.inr ⟨hne,by rw [e1,e2];rfl⟩⟩) (by simp (disch:=first|omega|assumption) only [go_sem,↓reduceIte])
  have h0':¬ ((done.length:Int)=0):=by omega
  have e1:indG (x :: rest) n=indM l:=by
   rcases hi with ⟨h1,_⟩|⟨_,h2⟩
   ·rw [h1] at h0;exact absurd rfl h0
   ·exact h2
  simp only [indG] at e1
  cases hbr:bareL x with
  | true =>
   rw [hbr,if_pos rfl] at e1
   simp (disch:=first|omega|assumption) only [hlt,hb,hg,hle,go_sem,↓reduceIte]
   refine goK_pure (blanksTC x hxl) ?_
   simp (disch:=first|omega|assumption) only [h0',hbr,wrap64,go_sem,↓reduceIte]
   exact goJ (hJ n _ ⟨rfl,.inr ⟨hne,e1⟩⟩) (by simp (disch:=first|omega|assumption) only [go_sem,↓reduceIte])
  | false =>
   rw [hbr,if_neg (by decide)] at e1
   by_cases hn:n<0
   ·rw [if_pos (.inl hn)] at e1
    simp (disch:=first|omega|assumption) only [hlt,hb,hg,hle,go_sem,↓reduceIte]
    refine goK_pure (blanksTC x hxl) ?_
    simp (disch:=first|omega|assumption) only [h0',hbr,hn,wrap64,go_sem,↓reduceIte]
    exact goJ (hJ (leadN x) _ ⟨rfl,.inr ⟨hne,e1⟩⟩) (by simp (disch:=first|omega|assumption) only [go_sem,↓reduceIte])
   ·by_cases hn2:(leadN x:Int)<n
    ·rw [if_pos (.inr hn2)] at e1
     simp (disch:=first|omega|assumption) only [hlt,hb,hg,hle,go_sem,↓reduceIte]
     refine goK_pure (blanksTC x hxl) ?_
     simp (disch:=first|omega|assumption) only [h0',hbr,hn,hn2,wrap64,go_sem,↓reduceIte]
     exact goJ (hJ (leadN x) _ ⟨rfl,.inr ⟨hne,e1⟩⟩) (by simp (disch:=first|omega|assumption) only [go_sem,↓reduceIte])
    ·rw [if_neg (by rintro (h|h)<;>contradiction)] at e1
     simp (disch:=first|omega|assumption) only [hlt,hb,hg,hle,go_sem,↓reduceIte]
     refine goK_pure (blanksTC x hxl) ?_
     simp (disch:=first|omega|assumption) only [h0',hbr,hn,hn2,wrap64,go_sem,↓reduceIte]
     exact goJ (hJ n _ ⟨rfl,.inr ⟨hne,e1⟩⟩) (by simp (disch:=first|omega|assumption) only [go_sem,↓reduceIte])
theorem lines_ne (s cur:List UInt8):linesG cur s≠[]:=by
 cases s with
 | nil=>simp [linesG]
 | cons c s =>
  by_cases h:c=10∨c=13
  ·rcases h with rfl|rfl
   ·rw [linesG_10];simp
   ·by_cases h10:s.head?=some 10
    ·cases s with
     | nil=>cases h10
     | cons d s=>simp only [List.head?_cons,Option.some.injEq] at h10;subst h10;rw [linesG_two];simp
    ·rw [linesG_13 h10];simp
  ·rw [linesG_plain h];exact lines_ne s _
termination_by s.length
theorem lines_sum:∀ (s cur:List UInt8),((linesG cur s).map fun x=>x.length+1).sum≤cur.length+s.length+1
 | [],cur=>by simp [linesG]
 | [c],cur=>by simp only [linesG];split<;>simp
 | c :: d :: r,cur=>by
  have h1:=lines_sum (d :: r)
  have h2:=lines_sum r
  simp only [linesG]
  repeat' split
  all_goals simp only [List.length_cons,List.map_cons,List.sum_cons] at h1 ⊢
  ·have:=h1 [];simp only [List.length_nil] at this;omega
  ·have:=h2 [];simp only [List.length_nil] at this;omega
  ·have:=h1 [];simp only [List.length_nil] at this;omega
  ·have:=h1 (cur++[c]);simp only [List.length_append,List.length_cons,List.length_nil] at this;omega
termination_by s=>s.length
theorem mem_sum {l:List (List UInt8)} {x:List UInt8} (h:x ∈ l):x.length+1≤(l.map fun x=>x.length+1).sum:=by
 obtain ⟨a,b,rfl⟩:=List.append_of_mem h
 simp;omega
end Go.Proofs.YticbbfbpeimkbaaGreatDoor
