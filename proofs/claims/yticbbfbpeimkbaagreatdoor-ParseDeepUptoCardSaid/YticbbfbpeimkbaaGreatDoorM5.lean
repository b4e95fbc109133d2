/- Texts joined: Rp5 Rp6 Quo3 Jo Code Good Qr Deci Qr2 Qr3 Qr4 Tm Tp Tq Tp2 Tr Ts Tt Tp3 Wa Tw Tw2 Tw3 Eol Tw4. -/
import Derived.Lib.ValidLaws
import Derived.Lib.ItoaLen
import Derived.Lib.Join
import Derived.Lib.DecodeN
import Derived.Lib.TrimUEq
import Derived.Shelf.Strings.OnBuilder
import Derived.Shelf.Strings.IndexAnyAll
import Derived.Shelf.Small.Utf8
import Derived.Laws.RangeAny
import Derived.Laws.Runes
import Derived.WalkMore
import Derived.Shelf.RegionOpenPlain
import Derived.BigQuiet
import Derived.Test.YticbbfbpeimkbaaGreatDoorM1
import Derived.Test.YticbbfbpeimkbaaGreatDoorM2
import Derived.Test.YticbbfbpeimkbaaGreatDoorM3
import Derived.Test.YticbbfbpeimkbaaGreatDoorM4
set_option maxRecDepth 100000
set_option linter.unusedSimpArgs false
set_option linter.unusedVariables false
namespace Go.Proofs.YticbbfbpeimkbaaGreatDoor
open Go.Ab
def notOnP (t:TS):PR (List UInt8):=if isW [111,110] t then .error 2 else nameP t
theorem notOnPC {H:Heap} {r:Nat} {L p t:TS} (hs:p++t=L) (hl:wT L≤LimP) (hr:H r=some (prc L p (16-16))) :
  ACalls Tryz.prog 251 [.ptr r 0] H (RpE H r L (16-16) (notOnP t) AV.str):=by
 refine retStrip (ACalls.goO (R:=fun v H'=>RetQ H r L (16-16) (notOnP t) AV.str v.strip H') (RP:=fun v H'=>PanQ (notOnP t) v H') ir251 ck251 (Nat.le_refl _) fun KP Q hQ hP=>?_)
 have hll:L.length≤LimP:=Nat.le_trans (len_w L) hl
 have hll2:=hll
 simp only [LimP] at hll2
 have pan:∀ (v:AV) (H1:Heap) (n:Int),v=stopP n→(notOnP t)=.error n→KP v H1:=fun v H1 n h1 h2=>hP v H1 H1 (Low.refl _) ⟨n,h2,h1⟩
 have fin:=KI.done hQ
 have K0:=KI.start hs hr
 simp (disch:=first|omega|assumption) only [ir251,go_sem,↓reduceIte]
 refine goK_ret (isWC (dp:=16-16) hs hr [111,110]) fun v H2 ⟨hv2,hH⟩=>?_
 subst hv2;subst hH
 cases hw:isW [111,110] t with
 | true =>
  simp (disch:=first|omega|assumption) only [go_sem,↓reduceIte]
  exact goK_both (failP _ r 2) (fun _ _ h=>h.elim) fun v H3 h=>pan v H3 2 h (by rw [notOnP,hw];rfl)
 | false =>
  simp (disch:=first|omega|assumption) only [go_sem,↓reduceIte]
  refine goK_both (namePC (dp:=16-16) hs hll hr) (fun v H3 ⟨s,t3,e3,hv3,ha3⟩=>?_) fun v H3 ⟨n,e3,hv3⟩=>pan v H3 n hv3 (by rw [notOnP,hw];exact e3)
  subst hv3
  simp (disch:=first|omega|assumption) only [go_sem,↓reduceIte]
  exact fin _ _ [.str s] s t3 (by simp (disch:=first|omega|assumption) only [ir251,resvs,resv,go_sem,↓reduceIte]) (by rw [notOnP,hw];exact e3) (K0.call ha3) (by simp [tupOf,AV.strip,AV.strip1])
abbrev zW:List AV:=[.str [],.str [],.int .i64 0,.int .i64 0,.bool false,.int .i64 0,.int .i64 0,.str [],.sl .nil 5 [],.sl .nil 6 []]
theorem varDefPC {H:Heap} {r:Nat} {L p t:TS} (hs:p++t=L) (hl:wT L≤LimP) (hr:H r=some (prc L p (16-16))) :
  ACalls Tryz.prog 249 [.ptr r 0] H (RpE H r L (16-16) (varP t) (fun x=>.agg (cW x))):=by
 refine retStrip (ACalls.goO (R:=fun v H'=>RetQ H r L (16-16) (varP t) (fun x=>.agg (cW x)) v.strip H') (RP:=fun v H'=>PanQ (varP t) v H') ir249 ck249 (Nat.le_refl _) fun KP Q hQ hP=>?_)
 have hll:L.length≤LimP:=Nat.le_trans (len_w L) hl
 have hll2:=hll
 simp only [LimP] at hll2
 have pan:∀ (v:AV) (H1:Heap) (n:Int),v=stopP n→(varP t)=.error n→KP v H1:=fun v H1 n h1 h2=>hP v H1 H1 (Low.refl _) ⟨n,h2,h1⟩
 have fin:=KI.done hQ
 have K0:=KI.start hs hr
 have hx:varP t=pb (mustP [36] t) fun _ t=>pb (nameP t) fun s t=>pb (mustP [58] t) fun _ t=>pb (typP 4 t) fun ty t =>
  if isP [61] t then pb (valP true 16 t.tail) fun v t=>.ok (⟨s,ty,true,v⟩,t) else .ok (⟨s,ty,false,zV⟩,t):=rfl
 simp (disch:=first|omega|assumption) only [ir249,go_sem,↓reduceIte]
 refine goA_intro fun b2 hb2=>?_
 have n2:=K0.ne hb2
 have n2s:=Ne.symm n2
 have K1:=K0.box (x:=.cells zW) hb2
 obtain ⟨p1,hp1,hr1⟩:=K1.here
 simp only [zW] at K1 hr1
 simp (disch:=first|omega|assumption) only [go_sem,↓reduceIte]
 refine goK_both (mustPC (dp:=16-16) hp1 hll hr1 [36]) (fun v H2 ⟨_,t2,e2,hv2,ha2⟩=>?_) fun v H2 ⟨n,e2,hv2⟩=>pan v H2 n hv2 (by rw [hx,e2];rfl)
 subst hv2
 rw [e2,pb_ok] at hx
 have K2:=K1.call ha2
 have g2:H2 b2=some (.cells zW):=by rw [ha2.other n2s,upd_same]
 obtain ⟨p2,hp2,hr2⟩:=K2.here
 simp (disch:=first|omega|assumption) only [go_sem,↓reduceIte]
 refine goK_both (namePC (dp:=16-16) hp2 hll hr2) (fun v H3 ⟨s,t3,e3,hv3,ha3⟩=>?_) fun v H3 ⟨n,e3,hv3⟩=>pan v H3 n hv3 (by rw [hx,e3];rfl)
 subst hv3
 rw [e3,pb_ok] at hx
 have K3:=K2.call ha3
 have g32:H3 b2=some (.cells zW):=by rw [ha3.other n2s,g2]
 simp (disch:=first|omega|assumption) only [go_sem,↓reduceIte]
 refine goA_intro fun b3 hb3=>?_
 have h32:b3≠b2:=fun e=>by subst e;rw [g32] at hb3;cases hb3
 have hb3H:H b3=none:=K3.none hb3
 have n3:=K0.ne hb3H
 have n3s:=Ne.symm n3
 have K4:=K3.box (x:=.cells [.str s,.str [],.int .i64 0,.int .i64 0,.bool false,.int .i64 0,.int .i64 0,.str [],.sl .nil 5 [],.sl .nil 6 []]) hb3H
 obtain ⟨p4,hp4,hr4⟩:=K4.here
 simp (disch:=first|omega|assumption) only [go_sem,↓reduceIte]
 refine goK_both (mustPC (dp:=16-16) hp4 hll hr4 [58]) (fun v H5 ⟨_,t5,e5,hv5,ha5⟩=>?_) fun v H5 ⟨n,e5,hv5⟩=>pan v H5 n hv5 (by rw [hx,e5];rfl)
 subst hv5
 rw [e5,pb_ok] at hx
 have K5:=K4.call ha5
 have g53:H5 b3=some (.cells [.str s,.str [],.int .i64 0,.int .i64 0,.bool false,.int .i64 0,.int .i64 0,.str [],.sl .nil 5 [],.sl .nil 6 []]):=by rw [ha5.other n3s,upd_same]
 have g52:H5 b2=some (.cells zW):=by rw [ha5.other n2s,upd_ne (Ne.symm h32),g32]
 obtain ⟨p5,hp5,hr5⟩:=K5.here
 simp (disch:=first|omega|assumption) only [go_sem,↓reduceIte]
 refine goK_both (typePC hp5 hl hr5) (fun v H6 ⟨ty,t6,e6,hv6,ha6⟩=>?_) fun v H6 ⟨n,e6,hv6⟩=>pan v H6 n hv6 (by rw [hx,e6];rfl)
 subst hv6
 rw [e6,pb_ok] at hx
 have K6:=K5.call ha6
 have g63:H6 b3=some (.cells [.str s,.str [],.int .i64 0,.int .i64 0,.bool false,.int .i64 0,.int .i64 0,.str [],.sl .nil 5 [],.sl .nil 6 []]):=by rw [ha6.other n3s,g53]
 have g62:H6 b2=some (.cells zW):=by rw [ha6.other n2s,g52]
 simp (disch:=first|omega|assumption) only [cTy,g63,go_sem,↓reduceIte]
 have K7:=K6.box (x:=.cells [.str s,.str ty.nm,.int .i64 ty.lists,.int .i64 ty.musts,.bool false,.int .i64 0,.int .i64 0,.str [],.sl .nil 5 [],.sl .nil 6 []]) hb3H
 obtain ⟨p7,hp7,hr7⟩:=K7.here
 refine goK_ret (mayPC (dp:=16-16) hp7 hll hr7 [61]) fun v H8 ⟨hv8,ha8⟩=>?_
 subst hv8
 have K8:=K7.call ha8
 have g83:H8 b3=some (.cells [.str s,.str ty.nm,.int .i64 ty.lists,.int .i64 ty.musts,.bool false,.int .i64 0,.int .i64 0,.str [],.sl .nil 5 [],.sl .nil 6 []]):=by rw [ha8.other n3s,upd_same]
 have g82:H8 b2=some (.cells zW):=by rw [ha8.other n2s,upd_ne (Ne.symm h32),g62]
 unfold mayT at K8
 obtain ⟨p8,hp8,hr8⟩:=K8.here
 cases hi:isP [61] t6 with
 | true =>
  rw [hi] at hx K8 hp8
  simp only [if_true] at hx K8 hp8
  simp (disch:=first|omega|assumption) only [go_sem,↓reduceIte]
  refine goK_both (valuePall true 16 (Nat.le_refl _) _ r L p8 t6.tail hp8 hl hr8) (fun v H9 ⟨x,t9,e9,hv9,ha9⟩=>?_) fun v H9 ⟨n,e9,hv9⟩=>pan v H9 n hv9 (by rw [hx,e9];rfl)
  subst hv9
  rw [e9,pb_ok] at hx
  have K9:=K8.call ha9
  have g93:H9 b3=some (.cells [.str s,.str ty.nm,.int .i64 ty.lists,.int .i64 ty.musts,.bool false,.int .i64 0,.int .i64 0,.str [],.sl .nil 5 [],.sl .nil 6 []]):=by rw [ha9.other n3s,g83]
  have g92:H9 b2=some (.cells zW):=by rw [ha9.other n2s,g82]
  simp only [zW] at g92
  simp (disch:=first|omega|assumption) only [cV_len,cV_take,cV_splice,cM_len,cM_take,cM_splice,cM_mk,g93,g92,h32,Ne.symm h32,go_sem,↓reduceIte]
  refine fin _ _ [.agg (cW ⟨s,ty,true,x⟩)] _ _ (by simp (disch:=first|omega|assumption) only [cV_len,cV_take,cV_splice,cM_len,cM_take,cM_splice,cM_mk,ir249,resvs,resv,cW_mk,go_sem,↓reduceIte]) hx ((K9.box hb3H).box hb2) (by simp [tupOf,AV.strip,cW_strip])
 | false =>
  rw [hi] at hx K8 hp8
  simp only [Bool.false_eq_true,if_false] at hx K8 hp8
  simp only [zW] at g82
  simp (disch:=first|omega|assumption) only [g83,g82,h32,Ne.symm h32,go_sem,↓reduceIte]
  exact fin _ _ [.agg [.str s,.str ty.nm,.int .i64 ty.lists,.int .i64 ty.musts,.bool false,.int .i64 0,.int .i64 0,.str [],.sl .nil 5 [],.sl .nil 6 []]] _ _ (by simp (disch:=first|omega|assumption) only [ir249,resvs,resv,go_sem,↓reduceIte]) hx (K8.box hb2) (by simp [tupOf,AV.strip,AV.strip1,cW_mk,cV,cVs,cMs,zV])
abbrev zO:List AV:=[.int .i64 0,.str [],.sl .nil 10 [],.sl .nil 2 [],.sl .nil 7 []]
theorem opPC (kind:Int) {H:Heap} {r:Nat} {L p t:TS} (hs:p++t=L) (hl:wT L≤LimP) (hr:H r=some (prc L p (16-16))) :
  ACalls Tryz.prog 164 [.ptr r 0,.int .i64 kind] H (RpE H r L (16-16) (opP kind t) (fun x=>.agg (cO x))):=by
 refine retStrip (ACalls.goO (R:=fun v H'=>RetQ H r L (16-16) (opP kind t) (fun x=>.agg (cO x)) v.strip H') (RP:=fun v H'=>PanQ (opP kind t) v H') ir164 ck164 (Nat.le_refl _) fun KP Q hQ hP=>?_)
 have hll:L.length≤LimP:=Nat.le_trans (len_w L) hl
 have hll2:=hll
 simp only [LimP] at hll2
 have pan:∀ (v:AV) (H1:Heap) (n:Int),v=stopP n→(opP kind t)=.error n→KP v H1:=fun v H1 n h1 h2=>hP v H1 H1 (Low.refl _) ⟨n,h2,h1⟩
 have fin:=KI.done hQ
 have K0:=KI.start hs hr
 have hx:opP kind t=pb (if (hdT t).k=2 then nameP t else .ok ([],t)) fun s t=>pb (if isP [40] t then many1P [41] varP t.tail else .ok ([],t)) fun vs t =>
  pb (dirsP true 16 t) fun d t=>pb (selsP 16 t) fun l t=>.ok (⟨kind,s,vs,d,l⟩,t):=rfl
 simp (disch:=first|omega|assumption) only [ir164,go_sem,↓reduceIte]
 refine goA_intro fun b4 hb4=>?_
 have n4:=K0.ne hb4
 have n4s:=Ne.symm n4
 have K1:=K0.box (x:=.cells zO) hb4
 simp (disch:=first|omega|assumption) only [go_sem,↓reduceIte]
 refine goA_intro fun b5 hb5=>?_
 have h54:b5≠b4:=fun e=>by subst e;rw [upd_same] at hb5;cases hb5
 have hb5H:H b5=none:=by rw [upd_ne h54] at hb5;exact hb5
 have n5:=K0.ne hb5H
 have n5s:=Ne.symm n5
 have K2:=K1.box (x:=.cells [.int .i64 kind,.str [],.sl .nil 10 [],.sl .nil 2 [],.sl .nil 7 []]) hb5H
 simp only [zO] at K2
 obtain ⟨p2,hp2,hr2⟩:=K2.here
 have g25:((H.upd b4 (.cells zO)).upd b5 (.cells [.int .i64 kind,.str [],.sl .nil 10 [],.sl .nil 2 [],.sl .nil 7 []])) b5=some (.cells [.int .i64 kind,.str [],.sl .nil 10 [],.sl .nil 2 [],.sl .nil 7 []]):=upd_same ..
 have g24:((H.upd b4 (.cells zO)).upd b5 (.cells [.int .i64 kind,.str [],.sl .nil 10 [],.sl .nil 2 [],.sl .nil 7 []])) b4=some (.cells zO):=by rw [upd_ne (Ne.symm h54),upd_same]
 simp only [zO] at g25 g24
 simp (disch:=first|omega|assumption) only [go_sem,↓reduceIte]
 generalize hHa:Heap.upd (Heap.upd H b4 _) b5 _=Ha at *
 refine goK_ret (nextP (dp:=16-16) hp2 hr2) fun v H3 ⟨hv3,hH⟩=>?_
 subst hv3;subst hH
 by_cases hk2:(hdT t).k=2
 ·have hk2':((hdT t).k=2)=True:=eq_true hk2
  rw [if_pos hk2] at hx
  simp (disch:=first|omega|assumption) only [tokA,hk2',go_sem,↓reduceIte]
  refine goK_both (namePC (dp:=16-16) hp2 hll hr2) (fun v H3 ⟨s,t3,e3,hv3,ha3⟩=>?_) fun v H3 ⟨n,e3,hv3⟩=>pan v H3 n hv3 (by rw [hx,e3];rfl)
  subst hv3
  rw [e3,pb_ok] at hx
  have g35:H3 b5=some (.cells [.int .i64 kind,.str [],.sl .nil 10 [],.sl .nil 2 [],.sl .nil 7 []]):=by rw [ha3.other n5s,g25]
  have g34:H3 b4=some (.cells zO):=by rw [ha3.other n4s,g24]
  have K3:=(K2.call ha3).box (x:=.cells [.int .i64 kind,.str s,.sl .nil 10 [],.sl .nil 2 [],.sl .nil 7 []]) hb5H
  obtain ⟨p3,hp3,hr3⟩:=K3.here
  simp (disch:=first|omega|assumption) only [g35,go_sem,↓reduceIte]
  refine goK_ret (mayPC (dp:=16-16) hp3 hll hr3 [40]) fun v H4 ⟨hv4,ha4⟩=>?_
  subst hv4
  have K4:=K3.call ha4
  have g45:H4 b5=some (.cells [.int .i64 kind,.str s,.sl .nil 10 [],.sl .nil 2 [],.sl .nil 7 []]):=by rw [ha4.other n5s];(exact upd_same ..)
  have g44:H4 b4=some (.cells zO):=by rw [ha4.other n4s];(rw [upd_ne (Ne.symm h54)];exact g34)
  unfold mayT at K4
  obtain ⟨p4,hp4,hr4⟩:=K4.here
  cases hi:isP [40] t3 with
  | false =>
   rw [hi] at hx K4 hp4
   simp only [Bool.false_eq_true,if_false,pb_ok] at hx K4 hp4
   simp (disch:=first|omega|assumption) only [go_sem,↓reduceIte]
   refine goK_both (dirsPC (Nat.le_refl _) hp4 hl hr4) (fun v H8 ⟨d,t8,e8,hv8,ha8⟩=>?_) fun v H8 ⟨n,e8,hv8⟩=>pan v H8 n hv8 (by rw [hx,e8];rfl)
   subst hv8
   rw [e8,pb_ok] at hx
   have K8:=K4.call ha8
   have g85:H8 b5=some (.cells [.int .i64 kind,.str s,(.sl .nil 10 []),.sl .nil 2 [],.sl .nil 7 []]):=by rw [ha8.other n5s,g45]
   have g84:H8 b4=some (.cells zO):=by rw [ha8.other n4s,g44]
   simp (disch:=first|omega|assumption) only [g85,go_sem,↓reduceIte]
   have K9:=K8.box (x:=.cells [.int .i64 kind,.str s,(.sl .nil 10 []),.sl .no 2 (cDs d),.sl .nil 7 []]) hb5H
   obtain ⟨p9,hp9,hr9⟩:=K9.here
   refine goK_both (selsPall 16 (Nat.le_refl _) _ r L p9 t8 hp9 hl hr9) (fun v HA ⟨ss,tA,eA,hvA,haA⟩=>?_) fun v HA ⟨n,eA,hvA⟩=>pan v HA n hvA (by rw [hx,eA];rfl)
   subst hvA
   rw [eA,pb_ok] at hx
   have KA:=K9.call haA
   have gA5:HA b5=some (.cells [.int .i64 kind,.str s,(.sl .nil 10 []),.sl .no 2 (cDs d),.sl .nil 7 []]):=by rw [haA.other n5s,upd_same]
   have gA4:HA b4=some (.cells zO):=by rw [haA.other n4s,upd_ne (Ne.symm h54),g84]
   simp only [zO] at gA4
   simp (disch:=first|omega|assumption) only [gA5,gA4,h54,Ne.symm h54,go_sem,↓reduceIte]
   exact fin _ _ [.agg [.int .i64 kind,.str s,(.sl .nil 10 []),.sl .no 2 (cDs d),.sl .no 7 (cSs ss)]] _ _ (by simp (disch:=first|omega|assumption) only [ir164,resvs,resv,go_sem,↓reduceIte]) hx ((KA.box hb5H).box hb4) (by simp [tupOf,AV.strip,AV.strip1,cO,cWs])
  | true =>
   rw [hi] at hx K4 hp4
   simp only [if_true] at hx K4 hp4
   have hm1:many1P [41] varP t3.tail=pb (varP t3.tail) fun x t=>manyP [41] varP (t.length+1) [x] t:=rfl
   rw [hm1] at hx
   have hsl:=suf_len hp4
   simp (disch:=first|omega|assumption) only [g45,go_sem,↓reduceIte]
   refine goK_both (varDefPC hp4 hl hr4) (fun v H5 ⟨x1,t5,e5,hv5,ha5⟩=>?_) fun v H5 ⟨n,e5,hv5⟩=>pan v H5 n hv5 (by rw [hx,e5];rfl)
   subst hv5
   rw [e5,pb_ok] at hx
   have hlt1:=varP_fit.lt (by decide) _ _ _ e5
   have K5:=K4.call ha5
   have g55:H5 b5=some (.cells [.int .i64 kind,.str s,.sl .nil 10 [],.sl .nil 2 [],.sl .nil 7 []]):=by rw [ha5.other n5s,g45]
   have g54:H5 b4=some (.cells zO):=by rw [ha5.other n4s,g44]
   obtain ⟨R,hR⟩:∃ R,manyP [41] varP (t5.length+1) [x1] t5=R:=⟨_,rfl⟩
   rw [hR] at hx
   have KO5:KO H r L t5 (16-16) H5 .nil 0 10:=⟨K5,rfl,nofun⟩
   simp (disch:=first|omega|assumption) only [g55,cW_len,cW_take,go_sem,↓reduceIte]
   refine goP_ownS (Owned.nil _ _) (by simp) (by simp [maxLen]) fun o6 H6 hs6=>?_
   have K6:=KO5.app (by simpa using hs6)
   have g65:=KO5.stay hs6 g55
   have g64:=KO5.stay hs6 g54
   simp (disch:=first|omega|assumption) only [g65,cW_len,cW_take,go_sem,↓reduceIte]
   refine goL_st (fun x:Own × List VarD × TS=>[]) (fun x H'=>KO H r L x.2.2 (16-16) H' x.1 x.2.1.length 10∧H' b5=some (.cells [.int .i64 kind,.str s,.sl x.1 10 (cWs x.2.1),.sl .nil 2 [],.sl .nil 7 []])∧H' b4=some (.cells zO)∧(∃ m,x.2.2.length<m∧manyP [41] varP m x.2.1 x.2.2=R)∧x.2.1.length+x.2.2.length≤L.length) (fun x=>x.2.2.length) (o6,[x1],t5) (by simp (disch:=first|omega|assumption) only [go_sem,↓reduceIte]) ⟨by simpa using K6.box hb5H g65,by rw [upd_same];simp [cWs,cW_strip],by rw [upd_ne (Ne.symm h54)];exact g64,⟨_,Nat.lt_succ_self _,hR⟩,by simp only [List.length_singleton];omega⟩ ?_
   rintro ⟨o,l,u⟩ H7 J ⟨K7,g75,g74,⟨m,hm,hR3⟩,hlen⟩ hJ
   simp only at K7 g75 g74 hm hR3 hlen
   obtain ⟨m,rfl⟩:∃ j,m=j+1:=⟨m-1,by omega⟩
   obtain ⟨p7,hp7,hr7⟩:=K7.here
   have hcl:=cWs_len l
   simp (disch:=first|omega|assumption) only [go_sem,↓reduceIte]
   refine goK_ret (mayPC (dp:=16-16) hp7 hll hr7 [41]) fun v H8 ⟨hv8,ha8⟩=>?_
   subst hv8
   have g85:H8 b5=some (.cells [.int .i64 kind,.str s,.sl o 10 (cWs l),.sl .nil 2 [],.sl .nil 7 []]):=by rw [ha8.other n5s,g75]
   have g84:H8 b4=some (.cells zO):=by rw [ha8.other n4s,g74]
   cases hj:isP [41] u with
   | true =>
    rw [mayT,hj,if_pos rfl] at ha8
    have K8:=K7.toKI.call ha8
    obtain ⟨p8,hp8,hr8⟩:=K8.here
    have e1:R=.ok (l,u.tail):=by rw [← hR3,manyP,hj];rfl
    rw [e1,pb_ok] at hx
    simp (disch:=first|omega|assumption) only [go_sem,↓reduceIte]
    refine goK_both (dirsPC (Nat.le_refl _) hp8 hl hr8) (fun v HB ⟨d,t8,e8,hv8,ha8⟩=>?_) fun v HB ⟨n,e8,hv8⟩=>pan v HB n hv8 (by rw [hx,e8];rfl)
    subst hv8
    rw [e8,pb_ok] at hx
    have KB:=K8.call ha8
    have gB5:HB b5=some (.cells [.int .i64 kind,.str s,(.sl o 10 (cWs l)),.sl .nil 2 [],.sl .nil 7 []]):=by rw [ha8.other n5s,g85]
    have gB4:HB b4=some (.cells zO):=by rw [ha8.other n4s,g84]
    simp (disch:=first|omega|assumption) only [gB5,go_sem,↓reduceIte]
    have K9:=KB.box (x:=.cells [.int .i64 kind,.str s,(.sl o 10 (cWs l)),.sl .no 2 (cDs d),.sl .nil 7 []]) hb5H
    obtain ⟨p9,hp9,hr9⟩:=K9.here
    refine goK_both (selsPall 16 (Nat.le_refl _) _ r L p9 t8 hp9 hl hr9) (fun v HA ⟨ss,tA,eA,hvA,haA⟩=>?_) fun v HA ⟨n,eA,hvA⟩=>pan v HA n hvA (by rw [hx,eA];rfl)
    subst hvA
    rw [eA,pb_ok] at hx
    have KA:=K9.call haA
    have gA5:HA b5=some (.cells [.int .i64 kind,.str s,(.sl o 10 (cWs l)),.sl .no 2 (cDs d),.sl .nil 7 []]):=by rw [haA.other n5s,upd_same]
    have gA4:HA b4=some (.cells zO):=by rw [haA.other n4s,upd_ne (Ne.symm h54),gB4]
    simp only [zO] at gA4
    simp (disch:=first|omega|assumption) only [gA5,gA4,h54,Ne.symm h54,go_sem,↓reduceIte]
    exact fin _ _ [.agg [.int .i64 kind,.str s,(.sl o 10 (cWs l)),.sl .no 2 (cDs d),.sl .no 7 (cSs ss)]] _ _ (by simp (disch:=first|omega|assumption) only [ir164,resvs,resv,go_sem,↓reduceIte]) hx ((KA.box hb5H).box hb4) (by simp [tupOf,AV.strip,AV.strip1,cO,cWs])
   | false =>
    rw [mayT,hj] at ha8
    have K8:=K7.call (by simpa using ha8)
    obtain ⟨p8,hp8,hr8⟩:=K8.here
    rw [manyP,hj] at hR3
    simp only [Bool.false_eq_true,if_false] at hR3
    simp (disch:=first|omega|assumption) only [g85,go_sem,↓reduceIte]
    refine goK_both (varDefPC hp8 hl hr8) (fun v H9 ⟨x,t9,e9,hv9,ha9⟩=>?_) fun v H9 ⟨n9,e9,hv9⟩=>pan v H9 n9 hv9 (by rw [hx,← hR3,e9];rfl)
    subst hv9
    rw [e9,pb_ok] at hR3
    have hlt:=varP_fit.lt (by decide) _ _ _ e9
    have K9:=K8.call ha9
    have g95:H9 b5=some (.cells [.int .i64 kind,.str s,.sl o 10 (cWs l),.sl .nil 2 [],.sl .nil 7 []]):=by rw [ha9.other n5s,g85]
    have g94:H9 b4=some (.cells zO):=by rw [ha9.other n4s,g84]
    simp (disch:=first|omega|assumption) only [g95,cW_len,cW_take,go_sem,↓reduceIte]
    refine goP_ownS (by rw [hcl];exact K9.own) (by simp only [hcl,List.length_cons,List.length_nil];omega) (by simp only [hcl,List.length_cons,List.length_nil,maxLen];omega) fun oA HA hsA=>?_
    have KA:=K9.app (by simpa [hcl] using hsA)
    have gA5:=K9.stay hsA g95
    have gA4:=K9.stay hsA g94
    simp (disch:=first|omega|assumption) only [gA5,cW_len,cW_take,go_sem,↓reduceIte]
    refine goJ (hJ (oA,l++[x],t9) _ (by simp only;omega) ⟨by simpa using KA.box hb5H gA5,by rw [upd_same];simp [cWs,cW_strip],by rw [upd_ne (Ne.symm h54)];exact gA4,⟨m,by simp only;omega,hR3⟩,by simp only [List.length_append,List.length_cons,List.length_nil];omega⟩) (by simp (disch:=first|omega|assumption) only [go_sem,↓reduceIte])
 ·rw [if_neg hk2,pb_ok] at hx
  simp (disch:=first|omega|assumption) only [tokA,hk2,go_sem,↓reduceIte]
  refine goK_ret (mayPC (dp:=16-16) hp2 hll hr2 [40]) fun v H4 ⟨hv4,ha4⟩=>?_
  subst hv4
  have K4:=K2.call ha4
  have g45:H4 b5=some (.cells [.int .i64 kind,.str [],.sl .nil 10 [],.sl .nil 2 [],.sl .nil 7 []]):=by rw [ha4.other n5s];(exact g25)
  have g44:H4 b4=some (.cells zO):=by rw [ha4.other n4s];(exact g24)
  unfold mayT at K4
  obtain ⟨p4,hp4,hr4⟩:=K4.here
  cases hi:isP [40] t with
  | false =>
   rw [hi] at hx K4 hp4
   simp only [Bool.false_eq_true,if_false,pb_ok] at hx K4 hp4
   simp (disch:=first|omega|assumption) only [go_sem,↓reduceIte]
   refine goK_both (dirsPC (Nat.le_refl _) hp4 hl hr4) (fun v H8 ⟨d,t8,e8,hv8,ha8⟩=>?_) fun v H8 ⟨n,e8,hv8⟩=>pan v H8 n hv8 (by rw [hx,e8];rfl)
   subst hv8
   rw [e8,pb_ok] at hx
   have K8:=K4.call ha8
   have g85:H8 b5=some (.cells [.int .i64 kind,.str [],(.sl .nil 10 []),.sl .nil 2 [],.sl .nil 7 []]):=by rw [ha8.other n5s,g45]
   have g84:H8 b4=some (.cells zO):=by rw [ha8.other n4s,g44]
   simp (disch:=first|omega|assumption) only [g85,go_sem,↓reduceIte]
   have K9:=K8.box (x:=.cells [.int .i64 kind,.str [],(.sl .nil 10 []),.sl .no 2 (cDs d),.sl .nil 7 []]) hb5H
   obtain ⟨p9,hp9,hr9⟩:=K9.here
   refine goK_both (selsPall 16 (Nat.le_refl _) _ r L p9 t8 hp9 hl hr9) (fun v HA ⟨ss,tA,eA,hvA,haA⟩=>?_) fun v HA ⟨n,eA,hvA⟩=>pan v HA n hvA (by rw [hx,eA];rfl)
   subst hvA
   rw [eA,pb_ok] at hx
   have KA:=K9.call haA
   have gA5:HA b5=some (.cells [.int .i64 kind,.str [],(.sl .nil 10 []),.sl .no 2 (cDs d),.sl .nil 7 []]):=by rw [haA.other n5s,upd_same]
   have gA4:HA b4=some (.cells zO):=by rw [haA.other n4s,upd_ne (Ne.symm h54),g84]
   simp only [zO] at gA4
   simp (disch:=first|omega|assumption) only [gA5,gA4,h54,Ne.symm h54,go_sem,↓reduceIte]
   exact fin _ _ [.agg [.int .i64 kind,.str [],(.sl .nil 10 []),.sl .no 2 (cDs d),.sl .no 7 (cSs ss)]] _ _ (by simp (disch:=first|omega|assumption) only [ir164,resvs,resv,go_sem,↓reduceIte]) hx ((KA.box hb5H).box hb4) (by simp [tupOf,AV.strip,AV.strip1,cO,cWs])
  | true =>
   rw [hi] at hx K4 hp4
   simp only [if_true] at hx K4 hp4
   have hm1:many1P [41] varP t.tail=pb (varP t.tail) fun x t=>manyP [41] varP (t.length+1) [x] t:=rfl
   rw [hm1] at hx
   have hsl:=suf_len hp4
   simp (disch:=first|omega|assumption) only [g45,go_sem,↓reduceIte]
   refine goK_both (varDefPC hp4 hl hr4) (fun v H5 ⟨x1,t5,e5,hv5,ha5⟩=>?_) fun v H5 ⟨n,e5,hv5⟩=>pan v H5 n hv5 (by rw [hx,e5];rfl)
   subst hv5
   rw [e5,pb_ok] at hx
   have hlt1:=varP_fit.lt (by decide) _ _ _ e5
   have K5:=K4.call ha5
   have g55:H5 b5=some (.cells [.int .i64 kind,.str [],.sl .nil 10 [],.sl .nil 2 [],.sl .nil 7 []]):=by rw [ha5.other n5s,g45]
   have g54:H5 b4=some (.cells zO):=by rw [ha5.other n4s,g44]
   obtain ⟨R,hR⟩:∃ R,manyP [41] varP (t5.length+1) [x1] t5=R:=⟨_,rfl⟩
   rw [hR] at hx
   have KO5:KO H r L t5 (16-16) H5 .nil 0 10:=⟨K5,rfl,nofun⟩
   simp (disch:=first|omega|assumption) only [g55,cW_len,cW_take,go_sem,↓reduceIte]
   refine goP_ownS (Owned.nil _ _) (by simp) (by simp [maxLen]) fun o6 H6 hs6=>?_
   have K6:=KO5.app (by simpa using hs6)
   have g65:=KO5.stay hs6 g55
   have g64:=KO5.stay hs6 g54
   simp (disch:=first|omega|assumption) only [g65,cW_len,cW_take,go_sem,↓reduceIte]
   refine goL_st (fun x:Own × List VarD × TS=>[]) (fun x H'=>KO H r L x.2.2 (16-16) H' x.1 x.2.1.length 10∧H' b5=some (.cells [.int .i64 kind,.str [],.sl x.1 10 (cWs x.2.1),.sl .nil 2 [],.sl .nil 7 []])∧H' b4=some (.cells zO)∧(∃ m,x.2.2.length<m∧manyP [41] varP m x.2.1 x.2.2=R)∧x.2.1.length+x.2.2.length≤L.length) (fun x=>x.2.2.length) (o6,[x1],t5) (by simp (disch:=first|omega|assumption) only [go_sem,↓reduceIte]) ⟨by simpa using K6.box hb5H g65,by rw [upd_same];simp [cWs,cW_strip],by rw [upd_ne (Ne.symm h54)];exact g64,⟨_,Nat.lt_succ_self _,hR⟩,by simp only [List.length_singleton];omega⟩ ?_
   rintro ⟨o,l,u⟩ H7 J ⟨K7,g75,g74,⟨m,hm,hR3⟩,hlen⟩ hJ
   simp only at K7 g75 g74 hm hR3 hlen
   obtain ⟨m,rfl⟩:∃ j,m=j+1:=⟨m-1,by omega⟩
   obtain ⟨p7,hp7,hr7⟩:=K7.here
   have hcl:=cWs_len l
   simp (disch:=first|omega|assumption) only [go_sem,↓reduceIte]
   refine goK_ret (mayPC (dp:=16-16) hp7 hll hr7 [41]) fun v H8 ⟨hv8,ha8⟩=>?_
   subst hv8
   have g85:H8 b5=some (.cells [.int .i64 kind,.str [],.sl o 10 (cWs l),.sl .nil 2 [],.sl .nil 7 []]):=by rw [ha8.other n5s,g75]
   have g84:H8 b4=some (.cells zO):=by rw [ha8.other n4s,g74]
   cases hj:isP [41] u with
   | true =>
    rw [mayT,hj,if_pos rfl] at ha8
    have K8:=K7.toKI.call ha8
    obtain ⟨p8,hp8,hr8⟩:=K8.here
    have e1:R=.ok (l,u.tail):=by rw [← hR3,manyP,hj];rfl
    rw [e1,pb_ok] at hx
    simp (disch:=first|omega|assumption) only [go_sem,↓reduceIte]
    refine goK_both (dirsPC (Nat.le_refl _) hp8 hl hr8) (fun v HB ⟨d,t8,e8,hv8,ha8⟩=>?_) fun v HB ⟨n,e8,hv8⟩=>pan v HB n hv8 (by rw [hx,e8];rfl)
    subst hv8
    rw [e8,pb_ok] at hx
    have KB:=K8.call ha8
    have gB5:HB b5=some (.cells [.int .i64 kind,.str [],(.sl o 10 (cWs l)),.sl .nil 2 [],.sl .nil 7 []]):=by rw [ha8.other n5s,g85]
    have gB4:HB b4=some (.cells zO):=by rw [ha8.other n4s,g84]
    simp (disch:=first|omega|assumption) only [gB5,go_sem,↓reduceIte]
    have K9:=KB.box (x:=.cells [.int .i64 kind,.str [],(.sl o 10 (cWs l)),.sl .no 2 (cDs d),.sl .nil 7 []]) hb5H
    obtain ⟨p9,hp9,hr9⟩:=K9.here
    refine goK_both (selsPall 16 (Nat.le_refl _) _ r L p9 t8 hp9 hl hr9) (fun v HA ⟨ss,tA,eA,hvA,haA⟩=>?_) fun v HA ⟨n,eA,hvA⟩=>pan v HA n hvA (by rw [hx,eA];rfl)
    subst hvA
    rw [eA,pb_ok] at hx
    have KA:=K9.call haA
    have gA5:HA b5=some (.cells [.int .i64 kind,.str [],(.sl o 10 (cWs l)),.sl .no 2 (cDs d),.sl .nil 7 []]):=by rw [haA.other n5s,upd_same]
    have gA4:HA b4=some (.cells zO):=by rw [haA.other n4s,upd_ne (Ne.symm h54),gB4]
    simp only [zO] at gA4
    simp (disch:=first|omega|assumption) only [gA5,gA4,h54,Ne.symm h54,go_sem,↓reduceIte]
    exact fin _ _ [.agg [.int .i64 kind,.str [],(.sl o 10 (cWs l)),.sl .no 2 (cDs d),.sl .no 7 (cSs ss)]] _ _ (by simp (disch:=first|omega|assumption) only [ir164,resvs,resv,go_sem,↓reduceIte]) hx ((KA.box hb5H).box hb4) (by simp [tupOf,AV.strip,AV.strip1,cO,cWs])
   | false =>
    rw [mayT,hj] at ha8
    have K8:=K7.call (by simpa using ha8)
    obtain ⟨p8,hp8,hr8⟩:=K8.here
    rw [manyP,hj] at hR3
    simp only [Bool.false_eq_true,if_false] at hR3
    simp (disch:=first|omega|assumption) only [g85,go_sem,↓reduceIte]
    refine goK_both (varDefPC hp8 hl hr8) (fun v H9 ⟨x,t9,e9,hv9,ha9⟩=>?_) fun v H9 ⟨n9,e9,hv9⟩=>pan v H9 n9 hv9 (by rw [hx,← hR3,e9];rfl)
    subst hv9
    rw [e9,pb_ok] at hR3
    have hlt:=varP_fit.lt (by decide) _ _ _ e9
    have K9:=K8.call ha9
    have g95:H9 b5=some (.cells [.int .i64 kind,.str [],.sl o 10 (cWs l),.sl .nil 2 [],.sl .nil 7 []]):=by rw [ha9.other n5s,g85]
    have g94:H9 b4=some (.cells zO):=by rw [ha9.other n4s,g84]
    simp (disch:=first|omega|assumption) only [g95,cW_len,cW_take,go_sem,↓reduceIte]
    refine goP_ownS (by rw [hcl];exact K9.own) (by simp only [hcl,List.length_cons,List.length_nil];omega) (by simp only [hcl,List.length_cons,List.length_nil,maxLen];omega) fun oA HA hsA=>?_
    have KA:=K9.app (by simpa [hcl] using hsA)
    have gA5:=K9.stay hsA g95
    have gA4:=K9.stay hsA g94
    simp (disch:=first|omega|assumption) only [gA5,cW_len,cW_take,go_sem,↓reduceIte]
    refine goJ (hJ (oA,l++[x],t9) _ (by simp only;omega) ⟨by simpa using KA.box hb5H gA5,by rw [upd_same];simp [cWs,cW_strip],by rw [upd_ne (Ne.symm h54)];exact gA4,⟨m,by simp only;omega,hR3⟩,by simp only [List.length_append,List.length_cons,List.length_nil];omega⟩) (by simp (disch:=first|omega|assumption) only [go_sem,↓reduceIte])
theorem fragPC {H:Heap} {r:Nat} {L p t:TS} (hs:p++t=L) (hl:wT L≤LimP) (hr:H r=some (prc L p (16-16))) :
  ACalls Tryz.prog 165 [.ptr r 0] H (RpE H r L (16-16) (fragP t) (fun x=>.agg (cF x))):=by
 refine retStrip (ACalls.goO (R:=fun v H'=>RetQ H r L (16-16) (fragP t) (fun x=>.agg (cF x)) v.strip H') (RP:=fun v H'=>PanQ (fragP t) v H') ir165 ck165 (Nat.le_refl _) fun KP Q hQ hP=>?_)
 have hll:L.length≤LimP:=Nat.le_trans (len_w L) hl
 have hll2:=hll
 simp only [LimP] at hll2
 have pan:∀ (v:AV) (H1:Heap) (n:Int),v=stopP n→(fragP t)=.error n→KP v H1:=fun v H1 n h1 h2=>hP v H1 H1 (Low.refl _) ⟨n,h2,h1⟩
 have fin:=KI.done hQ
 have K0:=KI.start hs hr
 have hx:fragP t=pb (notOnP t) fun s t=>pb (if isW [111,110] t then .ok ((),t.tail) else .error 2) fun _ t=>pb (nameP t) fun o t =>
  pb (dirsP true 16 t) fun d t=>pb (selsP 16 t) fun l t=>.ok (⟨s,o,d,l⟩,t):=rfl
 simp (disch:=first|omega|assumption) only [ir165,go_sem,↓reduceIte]
 refine goA_intro fun b2 hb2=>?_
 have n2:=K0.ne hb2
 have n2s:=Ne.symm n2
 have K1:=K0.box (x:=.cells [.str [],.str [],.sl .nil 2 [],.sl .nil 7 []]) hb2
 obtain ⟨p1,hp1,hr1⟩:=K1.here
 simp (disch:=first|omega|assumption) only [go_sem,↓reduceIte]
 refine goK_both (notOnPC hp1 hl hr1) (fun v H3 ⟨s,t3,e3,hv3,ha3⟩=>?_) fun v H3 ⟨n,e3,hv3⟩=>pan v H3 n hv3 (by rw [hx,e3];rfl)
 subst hv3
 rw [e3,pb_ok] at hx
 have K3:=K1.call ha3
 have g32:H3 b2=some (.cells [.str [],.str [],.sl .nil 2 [],.sl .nil 7 []]):=by rw [ha3.other n2s,upd_same]
 simp (disch:=first|omega|assumption) only [go_sem,↓reduceIte]
 refine goA_intro fun b3 hb3=>?_
 have h32:b3≠b2:=fun e=>by subst e;rw [g32] at hb3;cases hb3
 have hb3H:H b3=none:=K3.none hb3
 have n3:=K0.ne hb3H
 have n3s:=Ne.symm n3
 have K4:=K3.box (x:=.cells [.str s,.str [],.sl .nil 2 [],.sl .nil 7 []]) hb3H
 obtain ⟨p4,hp4,hr4⟩:=K4.here
 simp (disch:=first|omega|assumption) only [go_sem,↓reduceIte]
 refine goK_ret (mayWC (dp:=16-16) hp4 hll hr4 [111,110]) fun v H5 ⟨hv5,ha5⟩=>?_
 subst hv5
 have K5:=K4.call ha5
 have g53:H5 b3=some (.cells [.str s,.str [],.sl .nil 2 [],.sl .nil 7 []]):=by rw [ha5.other n3s,upd_same]
 have g52:H5 b2=some (.cells [.str [],.str [],.sl .nil 2 [],.sl .nil 7 []]):=by rw [ha5.other n2s,upd_ne (Ne.symm h32),g32]
 unfold mayWordP at K5
 cases hw:isW [111,110] t3 with
 | false =>
  rw [hw] at hx
  simp (disch:=first|omega|assumption) only [go_sem,↓reduceIte]
  exact goK_both (failP _ r 2) (fun _ _ h=>h.elim) fun v H6 h=>pan v H6 2 h (by rw [hx];rfl)
 | true =>
  rw [hw] at hx K5
  simp only [if_true,pb_ok] at hx K5
  obtain ⟨p5,hp5,hr5⟩:=K5.here
  simp (disch:=first|omega|assumption) only [go_sem,↓reduceIte]
  refine goK_both (namePC (dp:=16-16) hp5 hll hr5) (fun v H6 ⟨o,t6,e6,hv6,ha6⟩=>?_) fun v H6 ⟨n,e6,hv6⟩=>pan v H6 n hv6 (by rw [hx,e6];rfl)
  subst hv6
  rw [e6,pb_ok] at hx
  have g63:H6 b3=some (.cells [.str s,.str [],.sl .nil 2 [],.sl .nil 7 []]):=by rw [ha6.other n3s,g53]
  have g62:H6 b2=some (.cells [.str [],.str [],.sl .nil 2 [],.sl .nil 7 []]):=by rw [ha6.other n2s,g52]
  have K7:=(K5.call ha6).box (x:=.cells [.str s,.str o,.sl .nil 2 [],.sl .nil 7 []]) hb3H
  obtain ⟨p7,hp7,hr7⟩:=K7.here
  simp (disch:=first|omega|assumption) only [g63,go_sem,↓reduceIte]
  refine goK_both (dirsPC (Nat.le_refl _) hp7 hl hr7) (fun v H8 ⟨d,t8,e8,hv8,ha8⟩=>?_) fun v H8 ⟨n,e8,hv8⟩=>pan v H8 n hv8 (by rw [hx,e8];rfl)
  subst hv8
  rw [e8,pb_ok] at hx
  have g83:H8 b3=some (.cells [.str s,.str o,.sl .nil 2 [],.sl .nil 7 []]):=by rw [ha8.other n3s,upd_same]
  have g82:H8 b2=some (.cells [.str [],.str [],.sl .nil 2 [],.sl .nil 7 []]):=by rw [ha8.other n2s,upd_ne (Ne.symm h32),g62]
  have K9:=(K7.call ha8).box (x:=.cells [.str s,.str o,.sl .no 2 (cDs d),.sl .nil 7 []]) hb3H
  obtain ⟨p9,hp9,hr9⟩:=K9.here
  simp (disch:=first|omega|assumption) only [g83,go_sem,↓reduceIte]
  refine goK_both (selsPall 16 (Nat.le_refl _) _ r L p9 t8 hp9 hl hr9) (fun v HA ⟨ss,tA,eA,hvA,haA⟩=>?_) fun v HA ⟨n,eA,hvA⟩=>pan v HA n hvA (by rw [hx,eA];rfl)
  subst hvA
  rw [eA,pb_ok] at hx
  have KA:=K9.call haA
  have gA3:HA b3=some (.cells [.str s,.str o,.sl .no 2 (cDs d),.sl .nil 7 []]):=by rw [haA.other n3s,upd_same]
  have gA2:HA b2=some (.cells [.str [],.str [],.sl .nil 2 [],.sl .nil 7 []]):=by rw [haA.other n2s,upd_ne (Ne.symm h32),g82]
  simp (disch:=first|omega|assumption) only [gA3,gA2,h32,Ne.symm h32,go_sem,↓reduceIte]
  exact fin _ _ [.agg [.str s,.str o,.sl .no 2 (cDs d),.sl .no 7 (cSs ss)]] _ _ (by simp (disch:=first|omega|assumption) only [ir165,resvs,resv,go_sem,↓reduceIte]) hx ((KA.box hb3H).box hb2) (by simp [tupOf,AV.strip,AV.strip1,cF])
end Go.Proofs.YticbbfbpeimkbaaGreatDoor
namespace Go.Proofs.YticbbfbpeimkbaaGreatDoor
open Go.Ab
theorem own_other {H H':Heap} {o1 o2:Own} {n sz:Nat} (h:Owned H o2 n sz) (hk:Kept H o1 H') (hs:∀ b x c y,o1=.tip b x→o2=.tip c y→b≠c):Owned H' o2 n sz:=by
 cases o2 with
 | tip c y =>
  have h5:H c=some _:=h
  exact hk c _ h5 fun d e=>hs c d c y e rfl rfl
 | no=>exact h
 | nil=>exact h
 | full=>exact h
theorem own_some {H:Heap} {c y n sz:Nat} (h:Owned H (.tip c y) n sz):H c≠none:=by
 have h5:H c=some _:=h
 rw [h5];exact nofun
structure DI (L:TS) (r bd:Nat) (H:Heap) (t:TS) (d:DocD) (o1 o2:Own):Prop where
 rd:∃ p,p++t=L∧H r=some (prc L p (16-16))
 box:H bd=some (.cells [.sl o1 5 (cOs d.ops),.sl o2 4 (cFs d.frags)])
 own1:Owned H o1 d.ops.length 5
 own2:Owned H o2 d.frags.length 4
 sep:∀ b x c y,o1=.tip b x→o2=.tip c y→b≠c
 ne:bd≠r
theorem DI.call {L t t':TS} {r bd:Nat} {H H':Heap} {d:DocD} {o1 o2:Own} (h:DI L r bd H t d o1 o2) (ha:Pat H r L t' (16-16) H'):DI L r bd H' t' d o1 o2:=by
 obtain ⟨p,_,hr⟩:=h.rd
 have hb:=ha.other h.ne
 obtain ⟨q,hq,rfl⟩:=ha
 exact ⟨⟨q,hq,upd_same ..⟩,by rw [hb];exact h.box,own_upd h.own1 hr,own_upd h.own2 hr,h.sep,h.ne⟩
theorem DI.op {L t:TS} {r bd n:Nat} {H H':Heap} {d:DocD} {o1 o2 o':Own} {xs:List (List AV)} (h:DI L r bd H t d o1 o2) (x:OpD) (hs:OwnS H o1 H' o' n 5) (hn:n=(d.ops++[x]).length) (hx:xs=cOs (d.ops++[x])) :
  DI L r bd (H'.upd bd (.cells [.sl o' 5 xs,.sl o2 4 (cFs d.frags)])) t ⟨d.ops++[x],d.frags⟩ o' o2:=by
 obtain ⟨p,hp,hr⟩:=h.rd
 have hb:=own_keep h.own1 h.box hs.kept
 have hr2:=own_keep h.own1 hr hs.kept
 subst hn;subst hx
 refine ⟨⟨p,hp,by rw [upd_ne (Ne.symm h.ne)];exact hr2⟩,upd_same ..,own_upd hs.own hb,own_upd (own_other h.own2 hs.kept h.sep) hb,fun b x c y e1 e2=>?_,h.ne⟩
 rcases hs.new b x e1 with h2|⟨d0,h2⟩
 ·subst e2
  exact fun e=>own_some h.own2 (e▸h2)
 ·exact h.sep b d0 c y h2 e2
theorem DI.frag {L t:TS} {r bd n:Nat} {H H':Heap} {d:DocD} {o1 o2 o':Own} {xs:List (List AV)} (h:DI L r bd H t d o1 o2) (x:FragD) (hs:OwnS H o2 H' o' n 4) (hn:n=(d.frags++[x]).length) (hx:xs=cFs (d.frags++[x])) :
  DI L r bd (H'.upd bd (.cells [.sl o1 5 (cOs d.ops),.sl o' 4 xs])) t ⟨d.ops,d.frags++[x]⟩ o1 o':=by
 obtain ⟨p,hp,hr⟩:=h.rd
 have hb:=own_keep h.own2 h.box hs.kept
 have hr2:=own_keep h.own2 hr hs.kept
 subst hn;subst hx
 refine ⟨⟨p,hp,by rw [upd_ne (Ne.symm h.ne)];exact hr2⟩,upd_same ..,own_upd (own_other h.own1 hs.kept fun b x c y e1 e2=>Ne.symm (h.sep c y b x e2 e1)) hb,own_upd hs.own hb,fun b x c y e1 e2=>?_,h.ne⟩
 rcases hs.new c y e2 with h2|⟨d0,h2⟩
 ·subst e1
  exact fun e=>own_some h.own1 (by rw [e];exact h2)
 ·exact h.sep b x c d0 e1 h2
def DefE (L:TS) (r bd:Nat) (t:TS) (d:DocD):AEnd→Heap→Prop:=fun e H'=>match e with
 | .ret v=>∃ d' t' o1' o2',defP d t=.ok (d',t')∧v=.tup []∧DI L r bd H' t' d' o1' o2'∧d'.ops.length+d'.frags.length+t'.length≤d.ops.length+d.frags.length+t.length∧t'.length<t.length
 | .pan v=>∃ n,v=stopP n∧defP d t=.error n
theorem cFs_app (l:List FragD) (x:FragD):cFs (l++[x])=cFs l++[cF x]:=by simp [cFs]
theorem cOs_app (l:List OpD) (x:OpD):cOs (l++[x])=cOs l++[cO x]:=by simp [cOs]
theorem cO_len (x:OpD):(cO x).length=5:=rfl
theorem cO_take (x:OpD):(cO x).take 5=cO x:=rfl
theorem cO_splice (a b c d e:AV) (x:OpD):splice [a,b,c,d,e] 0 (cO x)=cO x:=rfl
theorem cF_len (x:FragD):(cF x).length=4:=rfl
theorem cF_take (x:FragD):(cF x).take 4=cF x:=rfl
theorem cF_splice (a b c d:AV) (x:FragD):splice [a,b,c,d] 0 (cF x)=cF x:=rfl
theorem defPC {L t:TS} {r bd:Nat} {H:Heap} {d:DocD} {o1 o2:Own} (h:DI L r bd H t d o1 o2) (hl:wT L≤LimP) (hb:d.ops.length+d.frags.length≤L.length) :
  ACalls Tryz.prog 91 [.ptr r 0,.ptr bd 0] H (DefE L r bd t d):=by
 refine ACalls.goO (R:=fun v H'=>∃ d' t' o1' o2',defP d t=.ok (d',t')∧v=.tup []∧DI L r bd H' t' d' o1' o2'∧d'.ops.length+d'.frags.length+t'.length≤d.ops.length+d.frags.length+t.length∧t'.length<t.length) (RP:=fun v _=>∃ n,v=stopP n∧defP d t=.error n) ir91 ck91 (Nat.le_refl _) fun KP Q hQ hP=>?_
 have hll:L.length≤LimP:=Nat.le_trans (len_w L) hl
 have hll2:=hll
 simp only [LimP] at hll2
 have pan:∀ (v:AV) (H1:Heap) (n:Int),v=stopP n→defP d t=.error n→KP v H1:=fun v H1 n h1 h2=>hP v H1 H1 (Low.refl _) ⟨n,h1,h2⟩
 have hc1:=cOs_len d.ops
 have hc2:=cFs_len d.frags
 obtain ⟨p,hs,hr⟩:=h.rd
 have g0:=h.box
 simp (disch:=first|omega|assumption) only [ir91,go_sem,↓reduceIte]
 refine goK_ret (isPC (dp:=16-16) hs hr [123]) fun v H1 ⟨hv1,hH⟩=>?_
 subst hv1;subst hH
 cases hi:isP [123] t with
 | true =>
  have hx:defP d t=pb (selsP 16 t) fun l t=>.ok (⟨d.ops++[⟨0,[],[],[],l⟩],d.frags⟩,t):=by unfold defP;rw [hi];rfl
  simp (disch:=first|omega|assumption) only [g0,go_sem,↓reduceIte]
  refine goK_both (selsPall 16 (Nat.le_refl _) _ r L p t hs hl hr) (fun v H2 ⟨l,t2,e2,hv2,ha2⟩=>?_) fun v H2 ⟨n,e2,hv2⟩=>pan v H2 n hv2 (by rw [hx,e2];rfl)
  have hlt:=(selsP_fit 16).lt (by decide) _ _ _ e2
  have eD:defP d t=.ok (⟨d.ops++[⟨0,[],[],[],l⟩],d.frags⟩,t2):=by rw [hx,e2];rfl
  have D2:=h
  subst hv2
  have DX:=D2.call ha2
  obtain ⟨pX,hpX,hrX⟩:=DX.rd
  have gX:=DX.box
  simp (disch:=first|omega|assumption) only [gX,cO_len,cO_take,cO_splice,go_sem,↓reduceIte]
  refine goP_ownS (by rw [hc1];exact DX.own1) (by simp only [hc1,List.length_cons,List.length_nil];omega) (by simp only [hc1,List.length_cons,List.length_nil,maxLen];omega) fun oY HY hsY=>?_
  have gY:=own_keep DX.own1 gX hsY.kept
  simp (disch:=first|omega|assumption) only [gY,cO_len,cO_take,cO_splice,go_sem,↓reduceIte]
  refine hQ _ _ _ _ [] nofun rfl (Low.refl _) ⟨_,_,oY,o2,eD,rfl,DX.op ⟨0,[],[],[],l⟩ (by simpa [hc1] using hsY) (by simp) (by rw [cOs_app];simp [cO,AV.strip1,cWs,cDs]),by simp only [List.length_append,List.length_singleton];omega,by omega⟩
 | false =>
  have hni:¬ (isP [123] t=true):=by rw [hi];decide
  simp (disch:=first|omega|assumption) only [go_sem,↓reduceIte]
  refine goK_ret (mayWC (dp:=16-16) hs hll hr [113,117,101,114,121]) fun v H2 ⟨hv2,ha2⟩=>?_
  subst hv2
  have D2:=h.call ha2
  unfold mayWordP at D2
  cases hq:isW [113,117,101,114,121] t with
  | true =>
   rw [hq,if_pos rfl] at D2
   have htl:=(tail_ww hq).1
   have htk:t.tail.length<t.length:=by rw [hd_tail (isW_ne hq)];simp
   obtain ⟨p2,hp2,hr2⟩:=D2.rd
   have g2:=D2.box
   have hx:defP d t=pb (opP 0 t.tail) fun o t=>.ok (⟨d.ops++[o],d.frags⟩,t):=by unfold defP;rw [if_neg hni,hq];rfl
   simp (disch:=first|omega|assumption) only [g2,go_sem,↓reduceIte]
   refine goK_both (opPC 0 hp2 hl hr2) (fun v H3 ⟨o,t3,e3,hv3,ha3⟩=>?_) fun v H3 ⟨n,e3,hv3⟩=>pan v H3 n hv3 (by rw [hx,e3];rfl)
   have hlt:=(opP_fit 0).lt (by decide) _ _ _ e3
   have eD:defP d t=.ok (⟨d.ops++[o],d.frags⟩,t3):=by rw [hx,e3];rfl
   subst hv3
   have DX:=D2.call ha3
   obtain ⟨pX,hpX,hrX⟩:=DX.rd
   have gX:=DX.box
   simp (disch:=first|omega|assumption) only [gX,cO_len,cO_take,cO_splice,go_sem,↓reduceIte]
   refine goP_ownS (by rw [hc1];exact DX.own1) (by simp only [hc1,List.length_cons,List.length_nil];omega) (by simp only [hc1,List.length_cons,List.length_nil,maxLen];omega) fun oY HY hsY=>?_
   have gY:=own_keep DX.own1 gX hsY.kept
   simp (disch:=first|omega|assumption) only [gY,cO_len,cO_take,cO_splice,go_sem,↓reduceIte]
   refine hQ _ _ _ _ [] nofun rfl (Low.refl _) ⟨_,_,oY,o2,eD,rfl,DX.op o (by simpa [hc1] using hsY) (by simp) (by rw [cOs_app];simp [cO,AV.strip1,cWs,cDs]),by simp only [List.length_append,List.length_singleton];omega,by omega⟩
  | false =>
   rw [hq] at D2
   simp only [Bool.false_eq_true,if_false] at D2
   have hnq:¬ (isW [113,117,101,114,121] t=true):=by rw [hq];decide
   obtain ⟨p2,hp2,hr2⟩:=D2.rd
   simp (disch:=first|omega|assumption) only [go_sem,↓reduceIte]
   refine goK_ret (mayWC (dp:=16-16) hp2 hll hr2 [109,117,116,97,116,105,111,110]) fun v H3 ⟨hv3,ha3⟩=>?_
   subst hv3
   have D3:=D2.call ha3
   unfold mayWordP at D3
   cases hm:isW [109,117,116,97,116,105,111,110] t with
   | true =>
    rw [hm,if_pos rfl] at D3
    have htk:t.tail.length<t.length:=by rw [hd_tail (isW_ne hm)];simp
    obtain ⟨p3,hp3,hr3⟩:=D3.rd
    have g3:=D3.box
    have hx:defP d t=pb (opP 1 t.tail) fun o t=>.ok (⟨d.ops++[o],d.frags⟩,t):=by unfold defP;rw [if_neg hni,if_neg hnq,hm];rfl
    simp (disch:=first|omega|assumption) only [g3,go_sem,↓reduceIte]
    refine goK_both (opPC 1 hp3 hl hr3) (fun v H4 ⟨o,t4,e4,hv4,ha4⟩=>?_) fun v H4 ⟨n,e4,hv4⟩=>pan v H4 n hv4 (by rw [hx,e4];rfl)
    have hlt:=(opP_fit 1).lt (by decide) _ _ _ e4
    have eD:defP d t=.ok (⟨d.ops++[o],d.frags⟩,t4):=by rw [hx,e4];rfl
    subst hv4
    have DX:=D3.call ha4
    obtain ⟨pX,hpX,hrX⟩:=DX.rd
    have gX:=DX.box
    simp (disch:=first|omega|assumption) only [gX,cO_len,cO_take,cO_splice,go_sem,↓reduceIte]
    refine goP_ownS (by rw [hc1];exact DX.own1) (by simp only [hc1,List.length_cons,List.length_nil];omega) (by simp only [hc1,List.length_cons,List.length_nil,maxLen];omega) fun oY HY hsY=>?_
    have gY:=own_keep DX.own1 gX hsY.kept
    simp (disch:=first|omega|assumption) only [gY,cO_len,cO_take,cO_splice,go_sem,↓reduceIte]
    refine hQ _ _ _ _ [] nofun rfl (Low.refl _) ⟨_,_,oY,o2,eD,rfl,DX.op o (by simpa [hc1] using hsY) (by simp) (by rw [cOs_app];simp [cO,AV.strip1,cWs,cDs]),by simp only [List.length_append,List.length_singleton];omega,by omega⟩
   | false =>
    rw [hm] at D3
    simp only [Bool.false_eq_true,if_false] at D3
    have hnm:¬ (isW [109,117,116,97,116,105,111,110] t=true):=by rw [hm];decide
    obtain ⟨p3,hp3,hr3⟩:=D3.rd
    simp (disch:=first|omega|assumption) only [go_sem,↓reduceIte]
    refine goK_ret (mayWC (dp:=16-16) hp3 hll hr3 [102,114,97,103,109,101,110,116]) fun v H4 ⟨hv4,ha4⟩=>?_
    subst hv4
    have D4:=D3.call ha4
    unfold mayWordP at D4
    cases hf:isW [102,114,97,103,109,101,110,116] t with
    | true =>
     rw [hf,if_pos rfl] at D4
     have htk:t.tail.length<t.length:=by rw [hd_tail (isW_ne hf)];simp
     obtain ⟨p4,hp4,hr4⟩:=D4.rd
     have g4:=D4.box
     have hx:defP d t=pb (fragP t.tail) fun f t=>.ok (⟨d.ops,d.frags++[f]⟩,t):=by unfold defP;rw [if_neg hni,if_neg hnq,if_neg hnm,hf];rfl
     simp (disch:=first|omega|assumption) only [g4,go_sem,↓reduceIte]
     refine goK_both (fragPC hp4 hl hr4) (fun v H5 ⟨f,t5,e5,hv5,ha5⟩=>?_) fun v H5 ⟨n,e5,hv5⟩=>pan v H5 n hv5 (by rw [hx,e5];rfl)
     have hlt:=fragP_fit.lt (by decide) _ _ _ e5
     have eD:defP d t=.ok (⟨d.ops,d.frags++[f]⟩,t5):=by rw [hx,e5];rfl
     subst hv5
     have DX:=D4.call ha5
     obtain ⟨pX,hpX,hrX⟩:=DX.rd
     have gX:=DX.box
     simp (disch:=first|omega|assumption) only [gX,cF_len,cF_take,cF_splice,go_sem,↓reduceIte]
     refine goP_ownS (by rw [hc2];exact DX.own2) (by simp only [hc2,List.length_cons,List.length_nil];omega) (by simp only [hc2,List.length_cons,List.length_nil,maxLen];omega) fun oY HY hsY=>?_
     have gY:=own_keep DX.own2 gX hsY.kept
     simp (disch:=first|omega|assumption) only [gY,cF_len,cF_take,cF_splice,go_sem,↓reduceIte]
     refine hQ _ _ _ _ [] nofun rfl (Low.refl _) ⟨_,_,o1,oY,eD,rfl,DX.frag f (by simpa [hc2] using hsY) (by simp) (by rw [cFs_app];simp [cF,AV.strip1]),by simp only [List.length_append,List.length_singleton];omega,by omega⟩
    | false =>
     have hnf:¬ (isW [102,114,97,103,109,101,110,116] t=true):=by rw [hf];decide
     simp (disch:=first|omega|assumption) only [go_sem,↓reduceIte]
     exact goK_both (failP _ r 2) (fun _ _ h=>h.elim) fun v H5 h=>pan v H5 2 h (by unfold defP;rw [if_neg hni,if_neg hnq,if_neg hnm,if_neg hnf])
end Go.Proofs.YticbbfbpeimkbaaGreatDoor
namespace Go.Proofs.YticbbfbpeimkbaaGreatDoor
open Go.Ab
def quoA (may:UInt8→Bool) (t:List UInt8):AV:=match quoM may t with
 | some (b,t')=>.tup [.str b,.int .i64 ((t.length+1-t'.length:Nat):Int)]
 | none=>.tup [.str [],.int .i64 0]
theorem quotedC (f : FuncId) (hf : Program.callable Tryz.prog f = true) (may : UInt8 → Bool) (hmay : ∀ c : UInt8, Pure Tryz.prog f [.int .u8 c.toNat] (.bool (may c))) (a : UInt8) (t : List UInt8) (hl : t.length + 1 ≤ LimQ) :
    Pure Tryz.prog 220 [.str (a :: t), .clo f [] []] (quoA may t) := by
  refine Pure.go ir220 ck220 (Nat.le_refl _) fun KP Q hQ => ?_
  simp only [LimQ] at hl
  simp (disch := first | omega | assumption) only [ir220, go_sem, ↓reduceIte]
  refine goA_intro fun q hq => ?_
  simp (disch := first | omega | assumption) only [go_sem, ↓reduceIte]
  obtain ⟨R, hR⟩ : ∃ R, quoG may (t.length + 1) t ⟨[], [], true⟩ = R := ⟨_, rfl⟩
  have fail : R = none → quoA may t = .tup [.str [], .int .i64 0] := fun e => by unfold quoA quoM; rw [hR, e]
  refine goL_st (fun s : List UInt8 × Sd × Own × Own => [(7, .int .i64 ((t.length + 1 - s.1.length : Nat) : Int))])
    (fun s H => s.1 <:+ t ∧ (∃ n, s.1.length < n ∧ quoG may n s.1 s.2.1 = R) ∧ s.2.1.w + s.1.length ≤ t.length ∧ SaidAt H q s.2.1 s.2.2.1 s.2.2.2) (fun s => s.1.length) (t, ⟨[], [], true⟩, .nil, .nil)
    (by have : (t.length + 1 - t.length : Nat) = 1 := by omega
        simp (disch := first | omega | assumption) only [this, go_sem, ↓reduceIte]) ⟨List.suffix_refl _, ⟨t.length + 1, by simp, hR⟩, by simp [Sd.w], upd_same .., rfl, rfl, nofun⟩ ?_
  rintro ⟨rest, x, o, o2⟩ H J ⟨hsuf, ⟨n, hn, hg⟩, hw, hs⟩ hJ
  simp only at hsuf hn hg hw hs
  have hrl := hsuf.length_le
  obtain ⟨n, rfl⟩ : ∃ k, n = k + 1 := ⟨n - 1, by omega⟩
  cases rest with
  | nil =>
    have e0 : R = none := by rw [← hg]; rfl
    have h0 : t.length + 1 - 0 = t.length + 1 := rfl
    have h1 : (((t.length + 1 : Nat) : Int) ≤ ((t.length + 1 : Nat) : Int)) = True := eq_true (Int.le_refl _)
    simp (disch := first | omega | assumption) only [h0, h1, go_sem, ↓reduceIte]
    exact hQ _ _ _ _ nofun rfl (by simp [tupOf, envOf, AV.strip, AV.strip1, fail e0])
  | cons c r =>
    obtain ⟨p, hp⟩ := hsuf
    have hpl : t.length = p.length + (r.length + 1) := by rw [← hp]; simp
    have h0 : t.length + 1 - (r.length + 1) = p.length + 1 := by omega
    have h1 : ¬ (((t.length + 1 : Nat) : Int) ≤ ((p.length + 1 : Nat) : Int)) := by omega
    have h2 : (((p.length + 1 : Nat) : Int) < ((t.length + 1 : Nat) : Int)) = True := eq_true (by omega)
    have hi : (a :: t).getD (p.length + 1) 0 = c := by rw [← hp]; simp
    have hi1 : (((p.length + 1 : Nat) : Int) + 1) = ((p.length + 1 + 1 : Nat) : Int) := by omega
    have hsr : r <:+ t := ⟨p ++ [c], by rw [← hp]; simp⟩
    simp only [quoG] at hg
    simp only [List.length_cons] at hw hn
    have hx : x.w ≤ LimQ := by simp only [LimQ]; omega
    by_cases c1 : c = 34
    · subst c1
      simp only [if_true] at hg
      have hc : (((34 : UInt8).toNat : Int) = 34) = True := eq_true rfl
      simp (disch := first | omega | assumption) only [h0, h1, h2, hi, hc, go_sem, ↓reduceIte]
      refine goK_ret (flushC hs hx) fun v H1 ⟨hv, o', hs1⟩ => ?_
      subst hv
      have hq := hs1.hq
      cases hok : (flushM x).ok
      · rw [hok] at hq
        have e0 : quoM may t = none := by unfold quoM; rw [hR, ← hg]; simp [hok]
        simp (disch := first | omega | assumption) only [hq, go_sem, ↓reduceIte]
        exact hQ _ _ _ _ nofun rfl (by simp [tupOf, envOf, AV.strip, AV.strip1, quoA, e0])
      · rw [hok] at hq
        have e0 : quoM may t = some ((flushM x).b, r) := by unfold quoM; rw [hR, ← hg]; simp [hok]
        simp (disch := first | omega | assumption) only [hq, byts_of, wrap64, go_sem, ↓reduceIte]
        have e1 : (p.length : Int) + 1 + 1 = ((t.length + 1 - r.length : Nat) : Int) := by omega
        exact hQ _ _ _ _ nofun rfl (by simp [tupOf, envOf, AV.strip, AV.strip1, quoA, e0, e1])
    have c1' : ¬ ((c.toNat : Int) = 34) := fun e => c1 (by apply UInt8.toNat_inj.1; show c.toNat = 34; omega)
    rw [if_neg c1] at hg
    by_cases c2 : c = 92
    · subst c2
      simp only [if_true] at hg
      have hc : ¬ (((92 : UInt8).toNat : Int) = 34) := by decide
      have hc2 : (((92 : UInt8).toNat : Int) = 92) = True := eq_true rfl
      have h3 : (((p.length + 1 : Nat) : Int) + 1 ≤ ((t.length + 1 : Nat) : Int)) = True := eq_true (by omega)
      have h4 : (((p.length + 1 : Nat) : Int) + 1).toNat = p.length + 2 := by omega
      have hdr : (a :: t).drop (p.length + 2) = r := by rw [← hp]; simp
      simp (disch := first | omega | assumption) only [h0, h1, h2, hi, hc, hc2, wrap64, h3, h4, hdr, go_sem, ↓reduceIte]
      refine goK_ret (escC hs hx r (by simp only [Lim]; omega)) fun v H1 he => ?_
      unfold EscP at he
      cases hm : escM x r with
      | none =>
        rw [hm] at he hg
        subst he
        simp (disch := first | omega | assumption) only [go_sem, ↓reduceIte]
        exact hQ _ _ _ _ nofun rfl (by simp [tupOf, envOf, AV.strip, AV.strip1, fail hg.symm])
      | some y =>
        obtain ⟨x', t'⟩ := y
        rw [hm] at he hg
        obtain ⟨hv, o3, o4, hs3⟩ := he
        subst hv
        have h5 := escM_suf hm
        have h6 := escM_w hm
        have h7 : ¬ (((r.length - t'.length : Nat) : Int) = 0) := by omega
        have h8 : ((p.length + 1 : Nat) : Int) + (1 + ((r.length - t'.length : Nat) : Int)) = ((t.length + 1 - t'.length : Nat) : Int) := by omega
        simp (disch := first | omega | assumption) only [h7, wrap64, h8, go_sem, ↓reduceIte]
        exact goJ (hJ (t', x', o3, o4) _ (by simp; omega) ⟨h5.1.trans hsr, ⟨n, by show t'.length < n; omega, hg⟩, by show x'.w + t'.length ≤ t.length; omega, hs3⟩) (by simp (disch := first | omega | assumption) only [go_sem, ↓reduceIte])
    have c2' : ¬ ((c.toNat : Int) = 92) := fun e => c2 (by apply UInt8.toNat_inj.1; show c.toNat = 92; omega)
    rw [if_neg c2] at hg
    simp (disch := first | omega | assumption) only [h0, h1, h2, hi, c1', c2', hf, go_sem, ↓reduceIte]
    refine goK_pure (hmay c) ?_
    cases hm : may c
    · rw [hm] at hg
      simp (disch := first | omega | assumption) only [go_sem, ↓reduceIte]
      exact hQ _ _ _ _ nofun rfl (by simp [tupOf, envOf, AV.strip, AV.strip1, fail hg.symm])
    · rw [hm] at hg
      simp only [if_true] at hg
      simp (disch := first | omega | assumption) only [go_sem, ↓reduceIte]
      refine goK_ret (flushC hs hx) fun v H1 ⟨hv, o', hs1⟩ => ?_
      subst hv
      obtain ⟨hq1, ho1, _, _⟩ := hs1
      have hfw := flush_w x
      have hpw := put_w x c
      have hbl := bytesOf_len (flushM x).b
      simp (disch := first | omega | assumption) only [hq1, h2, hi, go_sem, ↓reduceIte]
      refine goP_ownS (by rw [hbl]; exact ho1) (by simp [hbl]; omega) (by simp [maxLen, hbl]; omega) fun o3 H2 hs3 => ?_
      have hq2 := own_keep ho1 hq1 hs3.kept
      simp (disch := first | omega | assumption) only [hq2, wrap64, go_sem, ↓reduceIte]
      have h8 : ((p.length + 1 : Nat) : Int) + 1 = ((t.length + 1 - r.length : Nat) : Int) := by omega
      refine goJ (hJ (r, x.put c, o3, .nil) _ (by simp) ⟨hsr, ⟨n, by show r.length < n; omega, hg⟩, by show (x.put c).w + r.length ≤ t.length; omega, ?_, ?_, rfl, nofun⟩) (by simp (disch := first | omega | assumption) only [h8, go_sem, ↓reduceIte])
      · simp only [upd_same, Sd.put]
        rw [← bytesOf_app]; rfl
      · simp only [Sd.put, List.length_append, List.length_cons, List.length_nil]
        exact own_upd (by simpa [hbl] using hs3.own) hq2
end Go.Proofs.YticbbfbpeimkbaaGreatDoor
namespace Go.Proofs.YticbbfbpeimkbaaGreatDoor
open Go.Ab Go.Lib
structure SInv' (q:Sd) (t:List UInt8):Prop where
 none:q.u=[]→validD (q.b++t)=true
 some:q.u≠[]→validD q.b=true∧validD t=true
theorem flush_b {q:Sd} (h:validD q.b=true):validD (flushM q).b=true:=by
 unfold flushM
 cases hj:joinM q.u with
 | none=>simpa using h
 | some s=>exact validA2 h (join_valid _ _ hj)
theorem flush_nil {q:Sd} (h:q.u=[]):(flushM q).b=q.b:=by unfold flushM;rw [h];simp [joinM]
theorem SInv'.low {q:Sd} {c:UInt8} {t:List UInt8} (h:SInv' q (c :: t)) (hc:c.toNat<128):validD q.b=true∧validD t=true:=by
 by_cases hu:q.u=[]
 ·exact validS hc (h.none hu)
 ·obtain ⟨h1,h2⟩:=h.some hu
  rw [validD_cons c t hc] at h2
  exact ⟨h1,h2⟩
theorem SInv'.put {q:Sd} {c:UInt8} {t:List UInt8} (h:SInv' q (c :: t)):SInv' (q.put c) t:=by
 refine ⟨fun _=>?_,fun e=>absurd rfl e⟩
 show validD (((flushM q).b++[c])++t)=true
 rw [List.append_assoc]
 by_cases hu:q.u=[]
 ·rw [flush_nil hu];exact h.none hu
 ·obtain ⟨h1,h2⟩:=h.some hu
  exact validA2 (flush_b h1) h2
def LR (n:Int) (l:List Val):Prop:=∀ v ∈ l,rightV v=true∧depthV v≤n
theorem LR.all {n:Int}:∀ {l:List Val},LR n l→allVs validD l=true∧singVs l=true
 | [],_=>⟨rfl,rfl⟩
 | v :: l,h=>by
  have h1:=LR.all (l:=l) fun x hx=>h x (.tail _ hx)
  have h2:=(h v (.head _)).1
  simp only [rightV,goodV,Bool.and_eq_true] at h2
  simp [allVs,singVs,h1.1,h1.2,h2.1,h2.2]
end Go.Proofs.YticbbfbpeimkbaaGreatDoor
namespace Go.Proofs.YticbbfbpeimkbaaGreatDoor
open Go.Ab
def codeN (l:List UInt8):Nat × Nat:=if l=[] then (0,0) else if Lib.decodeL l=(65533,1) then (0,0) else Lib.decodeL l
def cv (v0:Nat) (b:Nat→Nat):Nat→Nat
 | 0=>v0
 | j+1=>cv v0 b j*64+b (j+1) % 64
end Go.Proofs.YticbbfbpeimkbaaGreatDoor
namespace Go.Proofs.YticbbfbpeimkbaaGreatDoor
open Go.Ab
end Go.Proofs.YticbbfbpeimkbaaGreatDoor
namespace Go.Proofs.YticbbfbpeimkbaaGreatDoor
open Go.Ab Go.Lib
end Go.Proofs.YticbbfbpeimkbaaGreatDoor
namespace Go.Proofs.YticbbfbpeimkbaaGreatDoor
open Go.Ab
end Go.Proofs.YticbbfbpeimkbaaGreatDoor
namespace Go.Proofs.YticbbfbpeimkbaaGreatDoor
open Go.Ab Go.Lib
end Go.Proofs.YticbbfbpeimkbaaGreatDoor
namespace Go.Proofs.YticbbfbpeimkbaaGreatDoor
open Go.Ab Go.Lib
structure DecOk (l:List UInt8) (c k:Nat):Prop where
 enc:encM c=l.take k
 le:c≤1114111
 pos:1≤k
 len:k≤l.length
 one:k=1→c=(l.getD 0 0).toNat∧(l.getD 0 0).toNat<128
 high:k≠1→∀ x ∈ l.take k,128≤x.toNat
theorem ofN_eq {n:Nat} {b:UInt8} (h:n=b.toNat):UInt8.ofNat n=b:=UInt8.toNat_inj.1 (by rw [UInt8.toNat_ofNat',h];have:=b.toNat_lt;omega)
theorem dec_two {b0 b1:UInt8} {t:List UInt8} (h0:b0.toNat / 32=6) (h1:b1.toNat / 64=2) (hc:128≤b0.toNat % 32*64+b1.toNat % 64):DecOk (b0 :: b1 :: t) (b0.toNat % 32*64+b1.toNat % 64) 2:=by
 refine ⟨?_,by omega,by omega,by simp,fun h=>by omega,fun _ x hx=>?_⟩
 ·unfold encM
  rw [if_neg (by omega),if_pos (by omega)]
  simp only [List.take_succ_cons,List.take_zero,List.cons.injEq,and_true]
  exact ⟨ofN_eq (by omega),ofN_eq (by omega)⟩
 ·simp only [List.take_succ_cons,List.take_zero,List.mem_cons,List.not_mem_nil,or_false] at hx
  rcases hx with rfl|rfl<;>omega
theorem dec_three {b0 b1 b2:UInt8} {t:List UInt8} (h0:b0.toNat / 16=14) (h1:b1.toNat / 64=2) (h2:b2.toNat / 64=2) (hc:2048≤b0.toNat % 16*4096+b1.toNat % 64*64+b2.toNat % 64) :
  DecOk (b0 :: b1 :: b2 :: t) (b0.toNat % 16*4096+b1.toNat % 64*64+b2.toNat % 64) 3:=by
 refine ⟨?_,by omega,by omega,by simp,fun h=>by omega,fun _ x hx=>?_⟩
 ·unfold encM
  rw [if_neg (by omega),if_neg (by omega),if_pos (by omega)]
  simp only [List.take_succ_cons,List.take_zero,List.cons.injEq,and_true]
  exact ⟨ofN_eq (by omega),ofN_eq (by omega),ofN_eq (by omega)⟩
 ·simp only [List.take_succ_cons,List.take_zero,List.mem_cons,List.not_mem_nil,or_false] at hx
  rcases hx with rfl|rfl|rfl<;>omega
theorem dec_four {b0 b1 b2 b3:UInt8} {t:List UInt8} (h0:b0.toNat / 8=30) (h1:b1.toNat / 64=2) (h2:b2.toNat / 64=2) (h3:b3.toNat / 64=2)
  (hc:65536≤b0.toNat % 8*262144+b1.toNat % 64*4096+b2.toNat % 64*64+b3.toNat % 64) (hd:b0.toNat % 8*262144+b1.toNat % 64*4096+b2.toNat % 64*64+b3.toNat % 64≤1114111) :
  DecOk (b0 :: b1 :: b2 :: b3 :: t) (b0.toNat % 8*262144+b1.toNat % 64*4096+b2.toNat % 64*64+b3.toNat % 64) 4:=by
 refine ⟨?_,by omega,by omega,by simp,fun h=>by omega,fun _ x hx=>?_⟩
 ·unfold encM
  rw [if_neg (by omega),if_neg (by omega),if_neg (by omega)]
  simp only [List.take_succ_cons,List.take_zero,List.cons.injEq,and_true]
  exact ⟨ofN_eq (by omega),ofN_eq (by omega),ofN_eq (by omega),ofN_eq (by omega)⟩
 ·simp only [List.take_succ_cons,List.take_zero,List.mem_cons,List.not_mem_nil,or_false] at hx
  rcases hx with rfl|rfl|rfl|rfl<;>omega
theorem dec_ok {l:List UInt8} (hne:l≠[]) (h:decodeL l≠(65533,1)):DecOk l (decodeL l).1 (decodeL l).2:=by
 rw [decodeL_N] at h ⊢
 obtain ⟨b0,t,rfl⟩:∃ b0 t,l=b0 :: t:=by cases l with|nil=>exact absurd rfl hne|cons a b=>exact ⟨a,b,rfl⟩
 simp only [List.getD_cons_zero,List.getD_cons_succ] at h ⊢
 unfold decodeN at h ⊢
 split at h
 ·rename_i h0
  rw [if_pos h0]
  refine ⟨?_,by simp only;omega,by simp,by simp,fun _=>⟨by simp,by simpa using h0⟩,fun h=>absurd rfl h⟩
  simp only
  unfold encM
  rw [if_pos (by omega)]
  simp only [List.take_succ_cons,List.take_zero,List.cons.injEq,and_true]
  exact ofN_eq rfl
 ·rename_i h0
  rw [if_neg h0]
  split at h
  ·rename_i h1
   rw [if_pos h1]
   split at h
   ·rename_i h2
    rw [if_pos h2]
    obtain ⟨b1,t,rfl⟩:∃ b1 r,t=b1 :: r:=by cases t with|nil=>simp at h1|cons a b=>exact ⟨a,b,rfl⟩
    exact dec_two h1.1 (by simpa using h1.2.2) (by simpa using h2)
   ·exact absurd rfl h
  ·rename_i h1
   rw [if_neg h1]
   split at h
   ·rename_i h2
    rw [if_pos h2]
    split at h
    ·rename_i h3
     rw [if_pos h3]
     obtain ⟨b1,t,rfl⟩:∃ b1 r,t=b1 :: r:=by cases t with|nil=>simp at h2|cons a b=>exact ⟨a,b,rfl⟩
     obtain ⟨b2,t,rfl⟩:∃ b2 r,t=b2 :: r:=by cases t with|nil=>simp at h2|cons a b=>exact ⟨a,b,rfl⟩
     exact dec_three h2.1 (by simpa using h2.2.1.2) (by simpa using h2.2.2.2) (by simpa using h3.1)
    ·exact absurd rfl h
   ·rename_i h2
    rw [if_neg h2]
    split at h
    ·rename_i h3
     rw [if_pos h3]
     split at h
     ·rename_i h4
      rw [if_pos h4]
      obtain ⟨b1,t,rfl⟩:∃ b1 r,t=b1 :: r:=by cases t with|nil=>simp at h3|cons a b=>exact ⟨a,b,rfl⟩
      obtain ⟨b2,t,rfl⟩:∃ b2 r,t=b2 :: r:=by cases t with|nil=>simp at h3|cons a b=>exact ⟨a,b,rfl⟩
      obtain ⟨b3,t,rfl⟩:∃ b3 r,t=b3 :: r:=by cases t with|nil=>simp at h3|cons a b=>exact ⟨a,b,rfl⟩
      exact dec_four h3.1 (by simpa using h3.2.1.2) (by simpa using h3.2.2.1.2) (by simpa using h3.2.2.2.2) (by simpa using h4.1) (by have:=h4.2;simp at this ⊢;omega)
     ·exact absurd rfl h
    ·exact absurd rfl h
theorem code_ok {l:List UInt8} (hne:l≠[]) (hv:validD l=true):DecOk l (codeN l).1 (codeN l).2∧validD (l.drop (codeN l).2)=true:=by
 rw [validD_step l hne] at hv
 split at hv
 ·cases hv
 ·rename_i h
  have h':decodeL l≠(65533,1):=fun e=>h ⟨by rw [e],by rw [e]⟩
  have e:codeN l=decodeL l:=by unfold codeN;rw [if_neg hne,if_neg h']
  rw [e]
  exact ⟨dec_ok hne h',hv⟩
def lineB (c:UInt8):Bool:=decide (c≠10) && decide (c≠13)
end Go.Proofs.YticbbfbpeimkbaaGreatDoor
namespace Go.Proofs.YticbbfbpeimkbaaGreatDoor
open Go.Ab Go.Lib
end Go.Proofs.YticbbfbpeimkbaaGreatDoor
namespace Go.Proofs.YticbbfbpeimkbaaGreatDoor
open Go.Ab Go.Lib
def dotsT:List UInt8:=[46,46,46]
def marksT:List UInt8:=[33,36,38,40,41,58,61,64,91,93,123,124,125]
def isMark:List UInt8→Bool
 | [c]=>decide (0≤Lib.indexByte marksT c)
 | _=>false
def rightK (t:Tok):Bool:=if t.k=1 then decide (t.s=dotsT) || isMark t.s else if t.k=2 then nameM t.s else if t.k=3∨t.k=4 then decide (numK t.s=t.k) else if t.k=5 then validD t.s else false
def unitT (u:Nat):List UInt8:=[92,117,hexL.getD (u / 4096 % 16) 0,hexL.getD (u / 256 % 16) 0,hexL.getD (u / 16 % 16) 0,hexL.getD (u % 16) 0]
def pieceT (c:Nat) (bs:List UInt8):List UInt8 :=
 if c=34∨c=92 then [92,UInt8.ofNat c] else if c=10 then [92,110] else if c<32 then unitT c
 else if 65536≤c then unitT (55296+(c-65536) / 1024)++unitT (56320+(c-65536) % 1024) else bs
def tquoG:Nat→List UInt8→List UInt8
 | 0,_=>[]
 | n+1,l=>if l=[] then [] else pieceT (codeN l).1 (l.take (codeN l).2)++tquoG n (l.drop (codeN l).2)
def tquo (s:List UInt8):List UInt8:=34 :: (tquoG s.length s++[34])
def tokT (t:Tok):List UInt8:=if t.k=5 then tquo t.s else t.s
def tjoin (l:List Tok):List UInt8:=Lib.join (l.map tokT) [32]
def linesG:List UInt8→List UInt8→List (List UInt8)
 | cur,[]=>[cur]
 | cur,[c]=>if c=10∨c=13 then [cur,[]] else [cur++[c]]
 | cur,c :: d :: r=>if c=10 then cur :: linesG [] (d :: r) else if c=13 then (if d=10 then cur :: linesG [] r else cur :: linesG [] (d :: r)) else linesG (cur++[c]) (d :: r)
def linesM (s:List UInt8):List (List UInt8):=linesG [] s
def isBl (c:UInt8):Bool:=decide (c=9) || decide (c=32)
def leadN (s:List UInt8):Nat:=(s.takeWhile isBl).length
def bareL (s:List UInt8):Bool:=s.all isBl
def indG:List (List UInt8)→Int→Int
 | [],a=>a
 | s :: r,a=>indG r (if bareL s then a else if a<0∨(leadN s:Int)<a then leadN s else a)
def indM (l:List (List UInt8)):Int:=indG l.tail (-1)
def dropM (l:List (List UInt8)):List (List UInt8):=match l with
 | []=>[]
 | x :: r=>x :: r.map fun s=>s.drop (indM l).toNat
def trimR (l:List (List UInt8)):List (List UInt8):=(l.reverse.dropWhile bareL).reverse
def blockM (raw:List UInt8):List UInt8:=Lib.join (trimR ((dropM (linesM raw)).dropWhile bareL)) [10]
def threeT:List UInt8:=[34,34,34]
def escT:List UInt8:=[92,34,34,34]
def bomT:List UInt8:=[239,187,191]
def rawM:Nat→List UInt8→List UInt8→Option (List UInt8 × List UInt8)
 | 0,_,_=>none
 | n+1,raw,t=>match t with
  | []=>none
  | c :: r=>if threeT.isPrefixOf (c :: r) then some (raw,r.drop 2) else if escT.isPrefixOf (c :: r) then rawM n (raw++threeT) (r.drop 3) else rawM n (raw++[c]) r
def notEol (c:UInt8):Bool:=!(decide (c=10) || decide (c=13))
def gapN:List UInt8→Nat
 | []=>0
 | c :: r=>if c=9∨c=10∨c=13∨c=32∨c=44 then 1 else if bomT.isPrefixOf (c :: r) then 3 else if c=35 then 1+(r.takeWhile notEol).length else 0
def wordN (s:List UInt8):Nat:=(s.takeWhile fun c=>isL c || isD c).length
def oneT:List UInt8→Option (Tok × List UInt8)
 | []=>none
 | c :: r=>if threeT.isPrefixOf (c :: r) then (rawM (r.length+1) [] (r.drop 2)).map fun x=>(⟨5,blockM x.1⟩,x.2)
  else if c=34 then (quoM lineB r).map fun x=>(⟨5,x.1⟩,x.2)
  else if dotsT.isPrefixOf (c :: r) then some (⟨1,dotsT⟩,r.drop 2)
  else if 0≤Lib.indexByte marksT c then some (⟨1,[c]⟩,r)
  else if isL c then some (⟨2,(c :: r).take (wordN (c :: r))⟩,(c :: r).drop (wordN (c :: r)))
  else if (numN (c :: r)).1=0 then none
  else if ((c :: r).drop (numN (c :: r)).1).head?.any fun d=>isL d || isD d || decide (d=46) then none
  else some (⟨(numN (c :: r)).2,(c :: r).take (numN (c :: r)).1⟩,(c :: r).drop (numN (c :: r)).1)
def readG:Nat→List Tok→List UInt8→Except Int (List Tok)
 | 0,_,_=>.error 0
 | n+1,l,t=>if t=[] then .ok l else if gapN t≠0 then readG n l (t.drop (gapN t)) else match oneT t with
  | none=>.error 2
  | some (x,t')=>readG n (l++[x]) t'
def signB (c:Nat):Bool:=decide (c=9) || (decide (c=10) || (decide (c=13) || (decide (32≤c) && decide (c≤65535))))
def srcG:Nat→List UInt8→Bool
 | 0,_=>true
 | n+1,l=>if l=[] then true else decide (0<(codeN l).2) && (signB (codeN l).1 && srcG n (l.drop (codeN l).2))
def srcB (s:List UInt8):Bool:=srcG s.length s
def readT (s:List UInt8):Except Int (List Tok):=if 8192<s.length then .error 3 else if srcB s then readG (s.length+1) [] s else .error 2
end Go.Proofs.YticbbfbpeimkbaaGreatDoor
namespace Go.Proofs.YticbbfbpeimkbaaGreatDoor
open Go.Ab Go.Lib
theorem decGo (s:List UInt8):decodeGo ⟨s.toArray⟩=if s=[] then (65533,0) else decodeL s:=by
 unfold decodeGo
 cases s with
 | nil=>rfl
 | cons c r=>rw [if_neg (by simp [ByteArray.size]),if_neg (by simp)];rfl
theorem decodeC (s:List UInt8):Pure Tryz.prog 272 [.str s] (.tup [.int .i32 ((if s=[] then (65533,0) else decodeL s:Nat × Nat).1),.int .i64 ((if s=[] then (65533,0) else decodeL s:Nat × Nat).2)]):=by
 refine Pure.of_below fun γ w vs ht hv=>?_
 rw [arg_str hv]
 have h:=Tryz.utf8_DecodeRuneInString ⟨s.toArray⟩ w (utf8Tabs ht)
 rw [decGo] at h
 exact Calls.mono h fun e w' ⟨he,hb⟩=>⟨hb,_,he,rep_two (.int _ _) (.int _ _)⟩
theorem joinX:Go.Proofs.Builder.Extra Tryz.prog Tryz.lays156_ren where
 sizeBuilder:=by kernel_rfl
 liesBuilder:=by kernel_rfl
 t5:=Tryz.underlying5
 a5:=Tryz.isAgg5
 z5:=Tryz.sizeOf5
 v5:=Tryz.zeroValue5
 infoByte:=by kernel_rfl
 cellsByte:=by kernel_rfl
 sizeByte:=by kernel_rfl
 neB5:=by decide
theorem joinStrC (l:List (List UInt8)) (sep:List UInt8) (hl:(Lib.join l sep).length≤140737488355328) (hn:l.length≤140737488355328):Pure Tryz.prog 121 [.sl .no 1 (cT l),.str sep] (.str (Lib.join l sep)):=by
 refine Pure.of_below fun γ w vs ht hv=>?_
 obtain ⟨hlv,hr⟩:=hv
 match vs,hlv with
 | [v,u],_ =>
  have h0:=hr 0 _ _ rfl rfl
  cases hr 1 _ _ rfl rfl
  generalize hx:cT l=xs at h0
  cases h0 with
  | slnil _ _ ho =>
   have:l=[]:=by cases l with|nil=>rfl|cons a b=>simp [cT] at hx
   subst this
   exact (Any.strings_Join_none Tryz.lays156 joinX none 0 ⟨sep.toArray⟩ w).mono fun e w' ⟨he,hw⟩=>⟨by rw [hw];exact RowKit.Below.refl _ _,_,he,.str _⟩
  | sl0 _ _ a ho =>
   have:l=[]:=by cases l with|nil=>rfl|cons a b=>simp [cT] at hx
   subst this
   exact (Any.strings_Join_none Tryz.lays156 joinX (some a) 0 ⟨sep.toArray⟩ w).mono fun e w' ⟨he,hw⟩=>⟨by rw [hw];exact RowKit.Below.refl _ _,_,he,.str _⟩
  | sl _ _ _ b off cap cv hc hm hu hcell hrr ho =>
   subst hx
   have hcl:=cT_len l
   cases hl0:l with
   | nil =>
    subst hl0
    exact (Any.strings_Join_none Tryz.lays156 joinX (some ⟨b,off,none⟩) cap ⟨sep.toArray⟩ w).mono fun e w' ⟨he,hw⟩=>⟨by rw [hw];exact RowKit.Below.refl _ _,_,he,.str _⟩
   | cons x0 r0 =>
    have hcells:∀ (j:Nat) x,(l.map fun s=>(⟨s.toArray⟩:ByteArray))[j]?=some x→w.cell? ⟨b,off+j,none⟩=some (.string x):=fun j x hj=>by
     rw [List.getElem?_map,Option.map_eq_some_iff] at hj
     obtain ⟨s,h1,rfl⟩:=hj
     have g1:(cT l)[j]?=some [.str s]:=by simp [cT,h1]
     have h2:=hcell j _ g1 0 (by decide)
     have h3:=hrr j _ g1 0 (.str s) rfl
     have e:off+(j*1+0)=off+j:=by omega
     rw [e] at h2
     generalize cv j 0=y at h2 h3
     cases h3
     exact h2.1
    have hbk:b<w.heap.size:=by
     have:=hcells 0 ⟨x0.toArray⟩ (by rw [hl0];rfl)
     exact World.block_lt_of_cell? w _ this
    have hmap:(l.map fun s=>(⟨s.toArray⟩:ByteArray)).map (·.data.toList)=l:=by
     rw [List.map_map];exact (List.map_congr_left (g:=id) fun s _=>by simp).trans (List.map_id l)
    have h:=Any.strings_Join Tryz.lays156 joinX b off cap (l.map fun s=>(⟨s.toArray⟩:ByteArray)) ⟨sep.toArray⟩ w hcells hbk (by simpa using hn) (by rw [List.length_map];omega) (by rw [hmap];exact hl)
    rw [List.length_map,hmap] at h
    rw [← hl0,hcl]
    exact h.mono fun e w' ⟨he,hb⟩=>⟨hb,_,he,.str _⟩
theorem codeC (s:List UInt8) (i:Nat) (hi:i<s.length) (hs:s.length≤Lim):Pure Tryz.prog 210 [.str s,.int .i64 i] (.tup [.int .i64 (codeN (s.drop i)).1,.int .i64 (codeN (s.drop i)).2]):=by
 refine Pure.go ir210 ck210 (Nat.le_refl _) fun KP Q hQ=>?_
 simp only [Lim] at hs
 have hne:s.drop i≠[]:=fun e=>by have:=congrArg List.length e;simp at this;omega
 have h1:¬ ((i:Int)<0):=by omega
 have h2:¬ ((s.length:Int)≤i):=by omega
 have h3:((i:Int)≤s.length)=True:=eq_true (by omega)
 simp (disch:=first|omega|assumption) only [ir210,h1,h2,h3,go_sem,↓reduceIte]
 refine goK_pure (decodeC (s.drop i)) ?_
 have hw:=decodeL_width (s.drop i)
 have hr:=decodeL_rune (s.drop i)
 unfold codeN at hQ
 simp only [hne,if_false] at hQ ⊢
 generalize decodeL (s.drop i)=x at *
 obtain ⟨c,k⟩:=x
 simp only at hw hr hQ
 have e:IntKind.wrap .i64 (c:Int)=c:=wrap64 (by omega) (by omega)
 by_cases hc:c=65533
 ·have g1:((c:Int)=65533)=True:=eq_true (by omega)
  by_cases hk:k<2
  ·have g2:((k:Int)<2)=True:=eq_true (by omega)
   have e1:(c,k)=(65533,1):=by rw [hc];congr 1;omega
   rw [if_pos e1] at hQ
   simp (disch:=first|omega|assumption) only [g1,g2,go_sem,↓reduceIte]
   exact hQ _ _ _ _ nofun rfl (by simp [tupOf,envOf,AV.strip,AV.strip1])
  ·have g2:¬ ((k:Int)<2):=by omega
   have e1:¬ ((c,k)=(65533,1)):=fun h=>by cases h;omega
   rw [if_neg e1] at hQ
   simp (disch:=first|omega|assumption) only [g1,g2,e,go_sem,↓reduceIte]
   exact hQ _ _ _ _ nofun rfl (by simp [tupOf,envOf,AV.strip,AV.strip1])
 ·have g1:¬ ((c:Int)=65533):=by omega
  have e1:¬ ((c,k)=(65533,1)):=fun h=>by cases h;omega
  rw [if_neg e1] at hQ
  simp (disch:=first|omega|assumption) only [g1,e,go_sem,↓reduceIte]
  exact hQ _ _ _ _ nofun rfl (by simp [tupOf,envOf,AV.strip,AV.strip1])
theorem signC (c:Nat) (h:c≤1114111):Pure Tryz.prog 216 [.int .i64 c] (.bool (signB c)):=by
 refine Pure.go ir216 ck216 (Nat.le_refl _) fun KP Q hQ=>?_
 by_cases h1:c=9
 ·have g:((c:Int)=9)=True:=eq_true (by omega)
  simp (disch:=first|omega|assumption) only [ir216,g,go_sem,↓reduceIte]
  exact hQ _ _ _ _ nofun rfl (by simp [tupOf,envOf,AV.strip,AV.strip1,signB,h1])
 have g1:¬ ((c:Int)=9):=by omega
 by_cases h2:c=10
 ·have g:((c:Int)=10)=True:=eq_true (by omega)
  simp (disch:=first|omega|assumption) only [ir216,g1,g,go_sem,↓reduceIte]
  exact hQ _ _ _ _ nofun rfl (by simp [tupOf,envOf,AV.strip,AV.strip1,signB,h2])
 have g2:¬ ((c:Int)=10):=by omega
 by_cases h3:c=13
 ·have g:((c:Int)=13)=True:=eq_true (by omega)
  simp (disch:=first|omega|assumption) only [ir216,g1,g2,g,go_sem,↓reduceIte]
  exact hQ _ _ _ _ nofun rfl (by simp [tupOf,envOf,AV.strip,AV.strip1,signB,h3])
 have g3:¬ ((c:Int)=13):=by omega
 by_cases h4:32≤c
 ·have g4:((32:Int)≤c)=True:=eq_true (by omega)
  by_cases h5:c≤65535
  ·have g5:((c:Int)≤65535)=True:=eq_true (by omega)
   simp (disch:=first|omega|assumption) only [ir216,g1,g2,g3,g4,g5,go_sem,↓reduceIte]
   exact hQ _ _ _ _ nofun rfl (by simp [tupOf,envOf,AV.strip,AV.strip1,signB,h4,h5])
  ·have g5:¬ ((c:Int)≤65535):=by omega
   simp (disch:=first|omega|assumption) only [ir216,g1,g2,g3,g4,g5,go_sem,↓reduceIte]
   exact hQ _ _ _ _ nofun rfl (by simp [tupOf,envOf,AV.strip,AV.strip1,signB,h1,h2,h3,h5])
 ·have g4:¬ ((32:Int)≤c):=by omega
  simp (disch:=first|omega|assumption) only [ir216,g1,g2,g3,g4,go_sem,↓reduceIte]
  exact hQ _ _ _ _ nofun rfl (by simp [tupOf,envOf,AV.strip,AV.strip1,signB,h1,h2,h3,h4])
end Go.Proofs.YticbbfbpeimkbaaGreatDoor
namespace Go.Proofs.YticbbfbpeimkbaaGreatDoor
open Go.Ab Go.Lib
theorem decN_pref {n n' b0 b1 b2 b3 c1 c2 c3 c k:Nat} (h:decodeN n b0 b1 b2 b3=(c,k)) (hv:(c,k)≠(65533,1)) (hn:k≤n') (h1:1<k→c1=b1) (h2:2<k→c2=b2) (h3:3<k→c3=b3):decodeN n' b0 c1 c2 c3=(c,k):=by
 unfold decodeN at h
 split at h
 ·rename_i h0
  unfold decodeN
  rw [if_pos h0,h]
 rename_i h0
 split at h
 ·rename_i hA
  split at h
  ·rename_i hB
   cases h
   unfold decodeN
   rw [if_neg h0,h1 (by decide),if_pos ⟨hA.1,by omega,hA.2.2⟩,if_pos hB]
  ·exact absurd h.symm hv
 rename_i hA
 split at h
 ·rename_i hB
  split at h
  ·rename_i hC
   cases h
   unfold decodeN
   rw [if_neg h0,h1 (by decide),h2 (by decide),if_neg (by omega),if_pos ⟨hB.1,⟨by omega,hB.2.1.2⟩,by omega,hB.2.2.2⟩,if_pos hC]
  ·exact absurd h.symm hv
 rename_i hB
 split at h
 ·rename_i hC
  split at h
  ·rename_i hD
   cases h
   unfold decodeN
   rw [if_neg h0,h1 (by decide),h2 (by decide),h3 (by decide),if_neg (by omega),if_neg (by omega),if_pos ⟨hC.1,⟨by omega,hC.2.1.2⟩,⟨by omega,hC.2.2.1.2⟩,by omega,hC.2.2.2.2⟩,if_pos hD]
  ·exact absurd h.symm hv
 ·exact absurd h.symm hv
theorem codeN_dec {l:List UInt8} (hne:l≠[]) (h:(codeN l).2≠0):codeN l=decodeL l∧decodeL l≠(65533,1):=by
 unfold codeN at h ⊢
 rw [if_neg hne] at h ⊢
 split at h
 ·exact absurd rfl h
 ·rename_i h2;rw [if_neg h2];exact ⟨rfl,h2⟩
theorem codeN_pref {l:List UInt8} (hne:l≠[]) (h:(codeN l).2≠0) (t:List UInt8):codeN (l.take (codeN l).2++t)=codeN l:=by
 obtain ⟨e,hv⟩:=codeN_dec hne h
 have hk:=decodeL_le l hne
 rw [e]
 generalize hd:decodeL l=x at *
 obtain ⟨c,k⟩:=x
 simp only at *
 have h2:decodeL (l.take k++t)=(c,k):=by
  rw [decodeL_N] at hd ⊢
  have hg:∀ j,j<k→(l.take k++t).getD j 0=l.getD j 0:=fun j hj=>by
   simp only [List.getD_eq_getElem?_getD]
   rw [List.getElem?_append_left (by simp;omega),List.getElem?_take_of_lt hj]
  have hk1:1≤k:=by rw [← show (decodeL l).2=k by rw [decodeL_N,hd]];exact decodeL_width l
  rw [hg 0 (by omega)]
  exact decN_pref hd hv (by simp;omega) (fun hj=>by rw [hg 1 hj]) (fun hj=>by rw [hg 2 hj]) fun hj=>by rw [hg 3 hj]
 have hne2:l.take k++t≠[]:=fun e=>by
  have h3:=congrArg List.length e
  have hk1:1≤k:=by rw [← show (decodeL l).2=k by rw [hd]];exact decodeL_width l
  have hl:0<l.length:=List.length_pos_iff.2 hne
  simp only [List.length_append,List.length_take,List.length_nil] at h3;omega
 unfold codeN
 rw [if_neg hne2,h2,if_neg hv]
theorem codeN_ascii (b:UInt8) (t:List UInt8) (h:b.toNat<128):codeN (b :: t)=(b.toNat,1):=by
 unfold codeN
 rw [if_neg (by simp),decodeL_ascii b t h,if_neg (by simp;omega)]
def EndT (r:List UInt8):Prop:=r=[]∨∃ c t,r=c :: t∧(c=32∨c=10)
theorem run1_end {r:List UInt8} (h:EndT r):run1 r=0:=by
 rcases h with rfl|⟨c,t,rfl,rfl|rfl⟩
 ·rfl
 all_goals simp [run1,isD]
theorem run1_app:∀ (a:List UInt8) {r:List UInt8},EndT r→run1 (a++r)=run1 a
 | [],r,h=>run1_end h
 | c :: a,r,h=>by simp only [List.cons_append,run1];rw [run1_app a h]
theorem intN_app (a:List UInt8) {r:List UInt8} (h:EndT r):intN (a++r)=intN a:=by
 unfold intN
 rw [run1_app a h]
 cases a with
 | nil=>simp [run1]
 | cons c a=>simp
theorem wholeN_app (a:List UInt8) {r:List UInt8} (h:EndT r):wholeN (a++r)=wholeN a:=by
 cases a with
 | nil =>
  have h1:=run1_end h
  have h2:wholeN []=0:=rfl
  rw [List.nil_append,h2]
  unfold wholeN
  rcases h with rfl|⟨c,t,rfl,rfl|rfl⟩
  ·rfl
  all_goals
   rw [if_neg (by simp)];unfold intN;rw [if_pos h1]
 | cons c a =>
  by_cases hc:c=45
  ·subst hc;rw [List.cons_append,wholeN_neg,wholeN_neg,run1_app a h,intN_app a h]
  ·rw [wholeN_pos (s:=c :: a++r) (by simp [hc]),wholeN_pos (s:=c :: a) (by simp [hc]),intN_app (c :: a) h]
theorem fracN_app (a:List UInt8) {r:List UInt8} (h:EndT r):fracN (a++r)=fracN a:=by
 cases a with
 | nil=>rcases h with rfl|⟨c,t,rfl,rfl|rfl⟩<;>rfl
 | cons c a=>simp [fracN,run1_app a h]
theorem powN_app (a:List UInt8) {r:List UInt8} (h:EndT r):powN (a++r)=powN a:=by
 cases a with
 | nil =>
  rcases h with rfl|⟨c,t,rfl,rfl|rfl⟩
  ·rfl
  all_goals simp [powN,isE]
 | cons c a =>
  have hs:sgN (a++r)=sgN a:=by
   cases a with
   | nil=>rcases h with rfl|⟨c,t,rfl,rfl|rfl⟩<;>simp [sgN]
   | cons d a=>simp [sgN]
  have hd:(a++r).drop (sgN a)=a.drop (sgN a)++r:=List.drop_append_of_le_length (sgN_le a)
  simp only [List.cons_append,powN,hs,hd,run1_app _ h]
theorem numN_app {a:List UInt8} {r:List UInt8} (h:EndT r):numN (a++r)=numN a:=by
 have h1:=wholeN_le a
 have e1:(a++r).drop (wholeN a)=a.drop (wholeN a)++r:=List.drop_append_of_le_length h1
 have h2:=fracN_le (a.drop (wholeN a))
 simp only [List.length_drop] at h2
 have e2:(a++r).drop (wholeN a+fracN (a.drop (wholeN a)))=a.drop (wholeN a+fracN (a.drop (wholeN a)))++r:=List.drop_append_of_le_length (by omega)
 unfold numN
 rw [wholeN_app a h,e1,fracN_app _ h,e2,powN_app _ h]
end Go.Proofs.YticbbfbpeimkbaaGreatDoor
namespace Go.Proofs.YticbbfbpeimkbaaGreatDoor
open Go.Ab Go.Lib
end Go.Proofs.YticbbfbpeimkbaaGreatDoor
namespace Go.Proofs.YticbbfbpeimkbaaGreatDoor
open Go.Ab Go.Lib
theorem byteAll {P:UInt8→Bool} (h:(List.range 256).all (fun n=>P (UInt8.ofNat n))=true) (c:UInt8):P c=true:=by
 have h1:=List.all_eq_true.1 h c.toNat (List.mem_range.2 (UInt8.toNat_lt c))
 simpa using h1
def markB (c:UInt8):Bool:=decide (0≤Lib.indexByte marksT c)
def spB (c:UInt8):Bool:=decide (c=9∨c=10∨c=13∨c=32∨c=44) || decide (c=239) || decide (c=35)
theorem mark_not (c:UInt8):(!markB c || (!(decide (c=34)) && (!(decide (c=46)) && (!(isL c) && (!(isD c) && (!(decide (c=45)) && (!(spB c) && decide (32≤c.toNat∧c.toNat<128))))))))=true:=byteAll (P:=fun c=>(!markB c || (!(decide (c=34)) && (!(decide (c=46)) && (!(isL c) && (!(isD c) && (!(decide (c=45)) && (!(spB c) && decide (32≤c.toNat∧c.toNat<128))))))))) (by decide +kernel) c
theorem lett_not (c:UInt8):(!isL c || (!(decide (c=34)) && (!(decide (c=46)) && (!(markB c) && (!(isD c) && (!(decide (c=45)) && (!(spB c) && decide (32≤c.toNat∧c.toNat<128))))))))=true:=byteAll (P:=fun c=>(!isL c || (!(decide (c=34)) && (!(decide (c=46)) && (!(markB c) && (!(isD c) && (!(decide (c=45)) && (!(spB c) && decide (32≤c.toNat∧c.toNat<128))))))))) (by decide +kernel) c
theorem digit_not (c:UInt8):(!(isD c || decide (c=45)) || (!(decide (c=34)) && (!(decide (c=46)) && (!(markB c) && (!(isL c) && (!(spB c) && decide (32≤c.toNat∧c.toNat<128)))))))=true:=byteAll (P:=fun c=>(!(isD c || decide (c=45)) || (!(decide (c=34)) && (!(decide (c=46)) && (!(markB c) && (!(isL c) && (!(spB c) && decide (32≤c.toNat∧c.toNat<128)))))))) (by decide +kernel) c
theorem three_not {c:UInt8} (h:c≠34) (r:List UInt8):threeT.isPrefixOf (c :: r)=false:=by
 simp [threeT,List.isPrefixOf];intro h2;exact absurd h2.symm h
theorem dots_not {c:UInt8} (h:c≠46) (r:List UInt8):dotsT.isPrefixOf (c :: r)=false:=by
 simp [dotsT,List.isPrefixOf];intro h2;exact absurd h2.symm h
theorem bom_not {c:UInt8} (h:c≠239) (r:List UInt8):bomT.isPrefixOf (c :: r)=false:=by
 simp [bomT,List.isPrefixOf];intro h2;exact absurd h2.symm h
theorem gap_not {c:UInt8} (h:spB c=false) (r:List UInt8):gapN (c :: r)=0:=by
 simp only [spB,Bool.or_eq_false_iff,decide_eq_false_iff_not] at h
 simp only [gapN]
 rw [if_neg h.1.1,bom_not h.1.2,if_neg h.2];simp
theorem takeW_end {p:UInt8→Bool} {r:List UInt8} (h10:p 10=false) (h32:p 32=false) (h:EndT r):∀ s:List UInt8,(s++r).takeWhile p=s.takeWhile p
 | []=>by
  rcases h with rfl|⟨c,t,rfl,rfl|rfl⟩
  ·rfl
  ·simp [h32]
  ·simp [h10]
 | c :: s=>by
  simp only [List.cons_append,List.takeWhile_cons]
  split
  ·rw [takeW_end h10 h32 h s]
  ·rfl
theorem takeW_all {p:UInt8→Bool}:∀ s:List UInt8,(∀ c ∈ s,p c=true)→s.takeWhile p=s
 | [],_=>rfl
 | c :: s,h=>by
  simp only [List.takeWhile_cons,h c (.head _),if_true]
  rw [takeW_all s fun d hd=>h d (.tail _ hd)]
theorem wordN_app (s:List UInt8) {r:List UInt8} (h:EndT r):wordN (s++r)=wordN s:=by
 unfold wordN;rw [takeW_end (by decide) (by decide) h s]
theorem nameG_all:∀ (s:List UInt8) (i:Nat),nameG s i=true→∀ c ∈ s,(isL c || isD c)=true
 | [],_,_=>fun c hc=>nomatch hc
 | c :: r,i,h=>by
  simp only [nameG] at h
  split at h
  ·rename_i h1
   have h2:=nameG_all r (i+1) h
   intro d hd
   rcases List.mem_cons.1 hd with rfl|hd
   ·simp only [Bool.or_eq_true,Bool.and_eq_true] at h1 ⊢
    exact h1.imp id fun x=>x.2
   ·exact h2 d hd
  ·cases h
theorem name_head {c:UInt8} {r:List UInt8} (h:nameM (c :: r)=true):isL c=true∧∀ d ∈ c :: r,(isL d || isD d)=true:=by
 simp only [nameM,Bool.and_eq_true] at h
 refine ⟨?_,nameG_all _ _ h.1⟩
 have:=h.1
 simp only [nameG] at this
 split at this
 ·rename_i h1;simpa using h1
 ·cases this
theorem oneT_letter {c:UInt8} (h:isL c=true) (r:List UInt8):oneT (c :: r)=some (⟨2,(c :: r).take (wordN (c :: r))⟩,(c :: r).drop (wordN (c :: r))):=by
 have h1:=lett_not c
 simp only [h,Bool.not_true,Bool.false_or,Bool.and_eq_true,Bool.not_eq_true',decide_eq_false_iff_not,decide_eq_true_eq] at h1
 obtain ⟨a1,a2,a3,_⟩:=h1
 simp only [markB,decide_eq_false_iff_not] at a3
 simp only [oneT]
 rw [three_not a1,dots_not a2,if_neg a1,if_neg a3,if_pos h];simp
theorem gap_letter {c:UInt8} (h:isL c=true) (r:List UInt8):gapN (c :: r)=0:=by
 have h1:=lett_not c
 simp only [h,Bool.not_true,Bool.false_or,Bool.and_eq_true,Bool.not_eq_true'] at h1
 exact gap_not h1.2.2.2.2.2.1 r
theorem oneT_number {c:UInt8} (h:(isD c || decide (c=45))=true) (r:List UInt8):oneT (c :: r)=(if (numN (c :: r)).1=0 then none
  else if ((c :: r).drop (numN (c :: r)).1).head?.any fun d=>isL d || isD d || decide (d=46) then none
  else some (⟨(numN (c :: r)).2,(c :: r).take (numN (c :: r)).1⟩,(c :: r).drop (numN (c :: r)).1)):=by
 have h1:=digit_not c
 simp only [h,Bool.not_true,Bool.false_or,Bool.and_eq_true,Bool.not_eq_true',decide_eq_false_iff_not,decide_eq_true_eq] at h1
 obtain ⟨a1,a2,a3,a4,_⟩:=h1
 simp only [markB,decide_eq_false_iff_not] at a3
 simp only [oneT]
 rw [three_not a1,dots_not a2,if_neg a1,if_neg a3,a4];simp
theorem gap_number {c:UInt8} (h:(isD c || decide (c=45))=true) (r:List UInt8):gapN (c :: r)=0:=by
 have h1:=digit_not c
 simp only [h,Bool.not_true,Bool.false_or,Bool.and_eq_true,Bool.not_eq_true'] at h1
 exact gap_not h1.2.2.2.2.1 r
theorem tjoin_cons (x y:Tok) (L:List Tok):tjoin (x :: y :: L)=tokT x++32 :: tjoin (y :: L):=by simp [tjoin,Lib.join]
theorem tjoin_one (x:Tok):tjoin [x]=tokT x:=by simp [tjoin,Lib.join]
theorem srcG_fuel:∀ (n m:Nat) (l:List UInt8),l.length≤n→l.length≤m→srcG n l=srcG m l
 | 0,m,l,h,_=>by
  obtain rfl:l=[]:=List.length_eq_zero_iff.1 (by omega)
  cases m<;>simp [srcG]
 | n+1,0,l,_,h=>by
  obtain rfl:l=[]:=List.length_eq_zero_iff.1 (by omega)
  simp [srcG]
 | n+1,m+1,l,h1,h2=>by
  simp only [srcG]
  split
  ·rfl
  ·by_cases hp:0<(codeN l).2
   ·rw [srcG_fuel n m (l.drop (codeN l).2) (by simp;omega) (by simp;omega)]
   ·simp [hp]
theorem srcB_step {l:List UInt8} (hne:l≠[]):srcB l=(decide (0<(codeN l).2) && (signB (codeN l).1 && srcB (l.drop (codeN l).2))):=by
 unfold srcB
 have hl:0<l.length:=List.length_pos_iff.2 hne
 obtain ⟨m,hm⟩:∃ m,l.length=m+1:=⟨l.length-1,by omega⟩
 rw [hm,srcG,if_neg hne]
 by_cases hp:0<(codeN l).2
 ·rw [srcG_fuel m (l.drop (codeN l).2).length (l.drop (codeN l).2) (by simp;omega) (Nat.le_refl _)]
 ·simp [hp]
theorem srcB_nil:srcB []=true:=rfl
def SrcA (a:List UInt8):Prop:=∀ t,srcB t=true→srcB (a++t)=true
theorem SrcA.nil:SrcA []:=fun t h=>h
theorem SrcA.app {a b:List UInt8} (ha:SrcA a) (hb:SrcA b):SrcA (a++b):=fun t h=>by rw [List.append_assoc];exact ha _ (hb _ h)
theorem SrcA.here {a:List UInt8} (ha:SrcA a):srcB a=true:=by have:=ha [] srcB_nil;simpa using this
theorem SrcA.ascii {b:UInt8} (h:b.toNat<128) (hs:signB b.toNat=true):SrcA [b]:=fun t ht=>by
 rw [srcB_step (by simp)]
 simp only [List.singleton_append,codeN_ascii b t h,hs,List.drop_succ_cons,List.drop_zero,ht]
 rfl
theorem SrcA.asciis:∀ s:List UInt8,(∀ b ∈ s,32≤b.toNat∧b.toNat<128)→SrcA s
 | [],_=>.nil
 | b :: s,h=>by
  have h1:=h b (.head _)
  exact SrcA.app (a:=[b]) (.ascii h1.2 (by simp [signB];omega)) (SrcA.asciis s fun c hc=>h c (.tail _ hc))
theorem SrcA.code {l:List UInt8} (hne:l≠[]) (h:(codeN l).2≠0) (hk:(codeN l).2≤l.length) (hs:signB (codeN l).1=true):SrcA (l.take (codeN l).2):=fun t ht=>by
 have hp:=codeN_pref hne h t
 have hl:(l.take (codeN l).2).length=(codeN l).2:=by simp;omega
 rw [srcB_step (by intro e;have:=congrArg List.length e;rw [List.length_append,hl] at this;simp at this;omega),hp,hs]
 rw [List.drop_left' hl,ht]
 simp;omega
theorem hexL_ascii (n:Nat):32≤(hexL.getD (n % 16) 0).toNat∧(hexL.getD (n % 16) 0).toNat<128:=by
 have:∀ x:Fin 16,32≤(hexL.getD x.val 0).toNat∧(hexL.getD x.val 0).toNat<128:=by decide +kernel
 exact this ⟨n % 16,Nat.mod_lt _ (by decide)⟩
theorem SrcA.unit (u:Nat):SrcA (unitT u):=SrcA.asciis _ fun b hb=>by
 simp only [unitT,List.mem_cons,List.not_mem_nil,or_false] at hb
 rcases hb with rfl|rfl|rfl|rfl|rfl|rfl
 ·decide
 ·decide
 all_goals exact hexL_ascii _
theorem SrcA.quo:∀ (n:Nat) (l:List UInt8),l.length≤n→validD l=true→SrcA (tquoG n l)
 | 0,l,_,_=>.nil
 | n+1,l,hn,hv=>by
  rw [tquoG]
  by_cases hne:l=[]
  ·subst hne;exact .nil
  ·rw [if_neg hne]
   obtain ⟨hd,hv2⟩:=code_ok hne hv
   have hpos:=hd.pos
   refine SrcA.app ?_ (SrcA.quo n _ (by simp;omega) hv2)
   unfold pieceT
   by_cases h1:(codeN l).1=34∨(codeN l).1=92
   ·rw [if_pos h1]
    refine SrcA.asciis _ fun b hb=>?_
    simp only [List.mem_cons,List.not_mem_nil,or_false] at hb
    rcases hb with rfl|rfl
    ·decide
    ·rcases h1 with h1|h1<;>rw [h1]<;>decide
   rw [if_neg h1]
   by_cases h2:(codeN l).1=10
   ·rw [if_pos h2]
    exact SrcA.asciis _ fun b hb=>by
     simp only [List.mem_cons,List.not_mem_nil,or_false] at hb
     rcases hb with rfl|rfl<;>decide
   rw [if_neg h2]
   by_cases h3:(codeN l).1<32
   ·rw [if_pos h3];exact .unit _
   rw [if_neg h3]
   by_cases h4:65536≤(codeN l).1
   ·rw [if_pos h4];exact SrcA.app (.unit _) (.unit _)
   ·rw [if_neg h4]
    exact SrcA.code hne (by omega) hd.len (by simp [signB];omega)
theorem nch_ascii (c:UInt8):nch c=true→32≤c.toNat∧c.toNat<128:=u8_all (P:=fun c=>nch c=true→32≤c.toNat∧c.toNat<128) (by decide +kernel) c
theorem num_ascii {s:List UInt8} (h:numK s≠0):∀ b ∈ s,32≤b.toNat∧b.toNat<128:=fun b hb=>nch_ascii b ((num_text h).1 b hb)
theorem SrcA.tok (x:Tok) (hx:rightK x=true):SrcA (tokT x):=by
 obtain ⟨k,s⟩:=x
 unfold rightK at hx
 simp only at hx
 by_cases h1:k=1
 ·subst h1
  simp only [if_true,Bool.or_eq_true,decide_eq_true_eq] at hx
  simp only [tokT,show ¬ ((1:Int)=5) by decide,if_false]
  rcases hx with rfl|hx
  ·exact SrcA.asciis _ (by decide)
  ·cases s with
   | nil=>cases hx
   | cons c t =>
    cases t with
    | cons d t=>cases hx
    | nil =>
     have h1:=mark_not c
     have hm:markB c=true:=hx
     simp only [hm,Bool.not_true,Bool.false_or,Bool.and_eq_true,Bool.not_eq_true',decide_eq_false_iff_not,decide_eq_true_eq] at h1
     exact SrcA.asciis _ fun b hb=>by simp only [List.mem_singleton] at hb;subst hb;exact h1.2.2.2.2.2.2
 rw [if_neg h1] at hx
 by_cases h2:k=2
 ·subst h2
  simp only [if_true] at hx
  simp only [tokT,show ¬ ((2:Int)=5) by decide,if_false]
  simp only [nameM,Bool.and_eq_true] at hx
  have:=nameG_all _ _ hx.1
  refine SrcA.asciis _ fun b hb=>?_
  have hb2:=this b hb
  simp only [Bool.or_eq_true] at hb2
  simp only [isL,isD,Bool.or_eq_true,Bool.and_eq_true,decide_eq_true_eq] at hb2
  omega
 rw [if_neg h2] at hx
 by_cases h3:k=3∨k=4
 ·rw [if_pos h3] at hx
  have hk5:¬ (k=5):=by omega
  simp only [tokT,hk5,if_false]
  simp only [decide_eq_true_eq] at hx
  exact SrcA.asciis _ (num_ascii (by omega))
 rw [if_neg h3] at hx
 by_cases h5:k=5
 ·subst h5
  simp only [if_true] at hx
  simp only [tokT,if_true,tquo]
  have h34:SrcA [34]:=SrcA.asciis _ (by decide)
  exact SrcA.app (a:=[34]) h34 (SrcA.app (SrcA.quo _ _ (Nat.le_refl _) hx) h34)
 ·rw [if_neg h5] at hx;cases hx
theorem SrcA.join:∀ L:List Tok,L.all rightK=true→SrcA (tjoin L)
 | [],_=>.nil
 | [x],h=>by rw [tjoin_one];exact .tok x (by simpa using h)
 | x :: y :: L,h=>by
  rw [List.all_cons,Bool.and_eq_true] at h
  rw [tjoin_cons]
  exact SrcA.app (.tok x h.1) (SrcA.app (a:=[32]) (SrcA.asciis _ (by decide)) (SrcA.join (y :: L) h.2))
end Go.Proofs.YticbbfbpeimkbaaGreatDoor
namespace Go.Proofs.YticbbfbpeimkbaaGreatDoor
open Go.Ab Go.Lib
theorem pre_app:∀ (p s t:List UInt8),(∀ x ∈ p,x≠10)→p.isPrefixOf (s++10 :: t)=p.isPrefixOf s
 | [],s,t,_=>by cases s<;>simp
 | x :: p,[],t,h=>by
  have h1:=h x (.head _)
  simp [List.isPrefixOf,h1]
 | x :: p,c :: s,t,h=>by
  simp only [List.cons_append,List.isPrefixOf]
  rw [pre_app p s t fun y hy=>h y (.tail _ hy)]
theorem pre_len:∀ (p s:List UInt8),p.isPrefixOf s=true→p.length≤s.length
 | [],s,_=>Nat.zero_le _
 | x :: p,[],h=>by simp [List.isPrefixOf] at h
 | x :: p,c :: s,h=>by
  simp only [List.isPrefixOf,Bool.and_eq_true] at h
  have:=pre_len p s h.2
  simp only [List.length_cons];omega
theorem end10 (t:List UInt8):EndT (10 :: t):=.inr ⟨10,t,rfl,.inr rfl⟩
theorem rawM_app:∀ (n:Nat) (raw s:List UInt8) (b s':List UInt8),rawM n raw s=some (b,s')→s'.length<s.length∧∀ (m:Nat) (t:List UInt8),n≤m→rawM m raw (s++10 :: t)=some (b,s'++10 :: t)
 | 0,_,_,_,_,h=>by cases h
 | n+1,raw,[],_,_,h=>by simp [rawM] at h
 | n+1,raw,c :: r,b,s',h=>by
  simp only [rawM] at h
  by_cases h1:threeT.isPrefixOf (c :: r)=true
  ·rw [if_pos h1] at h
   have hl:=pre_len _ _ h1
   simp only [threeT,List.length_cons,List.length_nil] at hl
   simp only [Option.some.injEq,Prod.mk.injEq] at h
   obtain ⟨rfl,rfl⟩:=h
   refine ⟨by simp;omega,fun m t hm=>?_⟩
   obtain ⟨k,rfl⟩:∃ k,m=k+1:=⟨m-1,by omega⟩
   have e:=pre_app threeT (c :: r) t (by decide)
   rw [List.cons_append] at e
   simp only [rawM,List.cons_append]
   rw [e,if_pos h1,List.drop_append_of_le_length (by omega)]
  ·rw [if_neg h1] at h
   by_cases h2:escT.isPrefixOf (c :: r)=true
   ·rw [if_pos h2] at h
    have hl:=pre_len _ _ h2
    simp only [escT,List.length_cons,List.length_nil] at hl
    obtain ⟨g1,g2⟩:=rawM_app n _ _ _ _ h
    refine ⟨by simp at g1 ⊢;omega,fun m t hm=>?_⟩
    obtain ⟨k,rfl⟩:∃ k,m=k+1:=⟨m-1,by omega⟩
    have e:=pre_app threeT (c :: r) t (by decide)
    have e2:=pre_app escT (c :: r) t (by decide)
    rw [List.cons_append] at e e2
    simp only [rawM,List.cons_append]
    rw [e,if_neg h1,e2,if_pos h2,List.drop_append_of_le_length (by omega)]
    exact g2 k t (by omega)
   ·rw [if_neg h2] at h
    obtain ⟨g1,g2⟩:=rawM_app n _ _ _ _ h
    refine ⟨by simp;omega,fun m t hm=>?_⟩
    obtain ⟨k,rfl⟩:∃ k,m=k+1:=⟨m-1,by omega⟩
    have e:=pre_app threeT (c :: r) t (by decide)
    have e2:=pre_app escT (c :: r) t (by decide)
    rw [List.cons_append] at e e2
    simp only [rawM,List.cons_append]
    rw [e,if_neg h1,e2,if_neg h2]
    exact g2 k t (by omega)
theorem unitG_app:∀ (n:Nat) (s:List UInt8) (u v:Nat) (t:List UInt8),unitG n s u=some v→n≤s.length∧unitG n (s++t) u=some v
 | 0,s,u,v,t,h=>by
  simp only [unitG] at h ⊢
  exact ⟨Nat.zero_le _,h⟩
 | n+1,[],u,v,t,h=>by simp [unitG] at h
 | n+1,c :: s,u,v,t,h=>by
  simp only [unitG,List.cons_append] at h ⊢
  cases hx:hexD c with
  | none=>rw [hx] at h;cases h
  | some k =>
   rw [hx] at h
   simp only at h ⊢
   have:=unitG_app n s _ v t h
   exact ⟨by simp;omega,this.2⟩
theorem escM_app {q q':Sd} {s s':List UInt8} (t:List UInt8) (h:escM q s=some (q',s')):escM q (s++t)=some (q',s'++t):=by
 cases s with
 | nil=>cases h
 | cons c r =>
  simp only [escM,List.cons_append] at h ⊢
  by_cases h1:c=117
  ·rw [if_pos h1] at h ⊢
   cases hu:unitM r with
   | none=>rw [hu] at h;cases h
   | some u =>
    obtain ⟨g1,g2⟩:=unitG_app 4 r 0 u t hu
    rw [hu] at h
    simp only [Option.map_some,Option.some.injEq,Prod.mk.injEq] at h
    obtain ⟨rfl,rfl⟩:=h
    rw [unitM,g2]
    simp only [Option.map_some,Option.some.injEq,Prod.mk.injEq,true_and]
    exact List.drop_append_of_le_length g1
  ·rw [if_neg h1] at h ⊢
   split at h
   ·cases h
   ·rename_i h2
    rw [if_neg h2]
    simp only [Option.some.injEq,Prod.mk.injEq] at h ⊢
    obtain ⟨rfl,rfl⟩:=h
    exact ⟨rfl,rfl⟩
theorem quoG_app {may:UInt8→Bool} (t:List UInt8):∀ (n:Nat) (s:List UInt8) (q q':Sd) (s':List UInt8),quoG may n s q=some (q',s')→∀ m,n≤m→quoG may m (s++t) q=some (q',s'++t)
 | 0,_,_,_,_,h=>by cases h
 | n+1,[],_,_,_,h=>by cases h
 | n+1,c :: s,q,q',s',h=>fun m hm=>by
  obtain ⟨k,rfl⟩:∃ k,m=k+1:=⟨m-1,by omega⟩
  simp only [quoG,List.cons_append] at h ⊢
  by_cases h1:c=34
  ·rw [if_pos h1] at h ⊢
   simp only [Option.some.injEq,Prod.mk.injEq] at h ⊢
   exact ⟨h.1,by rw [h.2]⟩
  rw [if_neg h1] at h ⊢
  by_cases h2:c=92
  ·rw [if_pos h2] at h ⊢
   cases he:escM q s with
   | none=>rw [he] at h;cases h
   | some x =>
    rw [he] at h
    rw [escM_app t (q':=x.1) (s':=x.2) he]
    exact quoG_app t n _ _ _ _ h k (by omega)
  rw [if_neg h2] at h ⊢
  split at h
  ·rename_i h3
   rw [if_pos h3]
   exact quoG_app t n _ _ _ _ h k (by omega)
  ·cases h
theorem quoM_app {may:UInt8→Bool} {s s' b:List UInt8} (t:List UInt8) (h:quoM may s=some (b,s')):quoM may (s++t)=some (b,s'++t):=by
 unfold quoM at h ⊢
 cases hq:quoG may (s.length+1) s ⟨[],[],true⟩ with
 | none=>rw [hq] at h;cases h
 | some x =>
  rw [hq] at h
  rw [quoG_app t _ _ _ x.1 x.2 hq _ (by simp)]
  simp only at h ⊢
  split at h
  ·rename_i h1
   simp only [Option.some.injEq,Prod.mk.injEq] at h
   rw [if_pos h1]
   simp [h.1,h.2]
  ·cases h
theorem wordN_le (s:List UInt8):wordN s≤s.length:=by unfold wordN;exact (List.takeWhile_sublist _).length_le
theorem numN_le1 (s:List UInt8):(numN s).1≤s.length:=by
 unfold numN
 split
 ·simp
 ·have h1:=wholeN_le s
  have h2:=fracN_le (s.drop (wholeN s))
  have h3:=powN_le (s.drop (wholeN s+fracN (s.drop (wholeN s))))
  simp only [List.length_drop] at h2 h3
  simp only;omega
theorem oneT_app {s s':List UInt8} {x:Tok} (h:oneT s=some (x,s')) (t:List UInt8):s'.length<s.length∧oneT (s++10 :: t)=some (x,s'++10 :: t):=by
 cases s with
 | nil=>cases h
 | cons c r =>
  have e3:=pre_app threeT (c :: r) t (by decide)
  have ed:=pre_app dotsT (c :: r) t (by decide)
  rw [List.cons_append] at e3 ed
  have hw:=wordN_app (c :: r) (end10 t)
  have hn:=numN_app (a:=c :: r) (end10 t)
  simp only [oneT] at h
  simp only [oneT,List.cons_append]
  rw [e3,ed]
  by_cases h1:threeT.isPrefixOf (c :: r)=true
  ·rw [if_pos h1] at h ⊢
   have hl:=pre_len _ _ h1
   simp only [threeT,List.length_cons,List.length_nil] at hl
   cases hr:rawM (r.length+1) [] (r.drop 2) with
   | none=>rw [hr] at h;cases h
   | some y =>
    rw [hr] at h
    simp only [Option.map_some,Option.some.injEq,Prod.mk.injEq] at h
    obtain ⟨rfl,rfl⟩:=h
    obtain ⟨g1,g2⟩:=rawM_app _ _ _ y.1 y.2 hr
    simp only [List.length_drop] at g1
    rw [List.drop_append_of_le_length (by omega),g2 _ t (by simp)]
    exact ⟨by simp only [List.length_cons];omega,rfl⟩
  rw [if_neg h1] at h ⊢
  by_cases h2:c=34
  ·rw [if_pos h2] at h ⊢
   cases hr:quoM lineB r with
   | none=>rw [hr] at h;cases h
   | some y =>
    rw [hr] at h
    simp only [Option.map_some,Option.some.injEq,Prod.mk.injEq] at h
    obtain ⟨rfl,rfl⟩:=h
    have g1:=quoM_suf (t':=y.2) (b:=y.1) hr
    rw [quoM_app (10 :: t) (b:=y.1) (s':=y.2) hr]
    exact ⟨by simp only [List.length_cons];omega,rfl⟩
  rw [if_neg h2] at h ⊢
  by_cases h3:dotsT.isPrefixOf (c :: r)=true
  ·rw [if_pos h3] at h ⊢
   have hl:=pre_len _ _ h3
   simp only [dotsT,List.length_cons,List.length_nil] at hl
   simp only [Option.some.injEq,Prod.mk.injEq] at h ⊢
   obtain ⟨rfl,rfl⟩:=h
   exact ⟨by simp;omega,rfl,List.drop_append_of_le_length (by omega)⟩
  rw [if_neg h3] at h ⊢
  by_cases h4:0≤Lib.indexByte marksT c
  ·rw [if_pos h4] at h ⊢
   simp only [Option.some.injEq,Prod.mk.injEq] at h ⊢
   obtain ⟨rfl,rfl⟩:=h
   exact ⟨by simp,rfl,rfl⟩
  rw [if_neg h4] at h ⊢
  by_cases h5:isL c=true
  ·rw [if_pos h5] at h ⊢
   have hl:=wordN_le (c :: r)
   have hp:0<wordN (c :: r):=by unfold wordN;simp [h5]
   simp only [Option.some.injEq,Prod.mk.injEq] at h ⊢
   obtain ⟨rfl,rfl⟩:=h
   rw [← List.cons_append,hw,List.take_append_of_le_length hl,List.drop_append_of_le_length hl]
   exact ⟨by rw [List.length_drop];simp only [List.length_cons] at hl ⊢;omega,rfl,rfl⟩
  rw [if_neg h5] at h ⊢
  rw [← List.cons_append,hn]
  by_cases h6:(numN (c :: r)).1=0
  ·rw [if_pos h6] at h;cases h
  rw [if_neg h6] at h ⊢
  have hl:=numN_le1 (c :: r)
  rw [List.take_append_of_le_length hl,List.drop_append_of_le_length hl]
  have hh:(((c :: r).drop (numN (c :: r)).1++10 :: t).head?.any fun d=>isL d || isD d || decide (d=46))=(((c :: r).drop (numN (c :: r)).1).head?.any fun d=>isL d || isD d || decide (d=46)):=by
   cases (c :: r).drop (numN (c :: r)).1 with
   | nil=>simp [isL,isD]
   | cons d t=>rfl
  rw [hh]
  split at h
  ·cases h
  ·rename_i h7
   rw [if_neg h7]
   simp only [Option.some.injEq,Prod.mk.injEq] at h ⊢
   obtain ⟨rfl,rfl⟩:=h
   exact ⟨by rw [List.length_drop];simp only [List.length_cons] at hl ⊢;omega,rfl,rfl⟩
theorem gapN_le (s:List UInt8):gapN s≤s.length:=by
 cases s with
 | nil=>simp [gapN]
 | cons c r =>
  simp only [gapN]
  split
  ·simp
  ·split
   ·rename_i h;have:=pre_len _ _ h;simpa [bomT] using this
   ·split
    ·have:=(List.takeWhile_sublist notEol (l:=r)).length_le;simp only [List.length_cons];omega
    ·simp
theorem oneT_lt {s s':List UInt8} {x:Tok} (h:oneT s=some (x,s')):s'.length<s.length:=(oneT_app h []).1
theorem readG_fuel:∀ (n m:Nat) (l:List Tok) (s:List UInt8),s.length<n→s.length<m→readG n l s=readG m l s
 | 0,_,_,_,h,_=>by omega
 | _,0,_,_,_,h=>by omega
 | n+1,m+1,l,s,h1,h2=>by
  simp only [readG]
  split
  ·rfl
  ·rename_i hne
   split
   ·rename_i hg
    have hl:0<s.length:=List.length_pos_iff.2 hne
    exact readG_fuel n m _ _ (by rw [List.length_drop];omega) (by rw [List.length_drop];omega)
   ·cases ho:oneT s with
    | none=>rfl
    | some x =>
     have:=oneT_lt (x:=x.1) (s':=x.2) ho
     exact readG_fuel n m _ _ (by omega) (by omega)
theorem readT_ok {s:List UInt8} {l:List Tok} (h:readT s=.ok l):s.length≤8192∧srcB s=true∧readG (s.length+1) [] s=.ok l:=by
 unfold readT at h
 split at h
 ·cases h
 ·split at h
  ·rename_i h1 h2;exact ⟨by omega,h2,h⟩
  ·cases h
end Go.Proofs.YticbbfbpeimkbaaGreatDoor
namespace Go.Proofs.YticbbfbpeimkbaaGreatDoor
open Go.Ab Go.Lib
theorem indG_le:∀ (L:List (List UInt8)) (a:Int),(0≤a→indG L a≤a∧0≤indG L a)∧(∀ s ∈ L,bareL s=false→indG L a≤leadN s∧0≤indG L a)
 | [],a=>⟨fun h=>⟨Int.le_refl _,h⟩,fun s hs=>nomatch hs⟩
 | s :: r,a=>by
  simp only [indG]
  have ih:=indG_le r
  by_cases hb:bareL s=true
  ·rw [if_pos hb]
   refine ⟨(ih a).1,fun x hx hxb=>?_⟩
   rcases List.mem_cons.1 hx with rfl|hx
   ·rw [hb] at hxb;cases hxb
   ·exact (ih a).2 x hx hxb
  ·rw [if_neg hb]
   by_cases hc:a<0∨(leadN s:Int)<a
   ·rw [if_pos hc]
    have h1:=(ih (leadN s)).1 (by omega)
    refine ⟨fun h=>⟨by omega,h1.2⟩,fun x hx hxb=>?_⟩
    rcases List.mem_cons.1 hx with rfl|hx
    ·exact h1
    ·exact (ih _).2 x hx hxb
   ·rw [if_neg hc]
    have h1:=(ih a).1 (by omega)
    refine ⟨fun _=>h1,fun x hx hxb=>?_⟩
    rcases List.mem_cons.1 hx with rfl|hx
    ·exact ⟨by omega,h1.2⟩
    ·exact (ih _).2 x hx hxb
theorem bare_lead {s:List UInt8} (h:bareL s=true):leadN s=s.length:=by
 unfold bareL at h
 unfold leadN
 rw [takeW_all s (List.all_eq_true.1 h)]
end Go.Proofs.YticbbfbpeimkbaaGreatDoor
namespace Go.Proofs.YticbbfbpeimkbaaGreatDoor
open Go.Ab Go.Lib
end Go.Proofs.YticbbfbpeimkbaaGreatDoor
namespace Go.Proofs.YticbbfbpeimkbaaGreatDoor
open Go.Ab
structure WAt (H:Heap) (w:Nat) (o:Own) (l:List Tok) (ok:Bool) (dp:Int):Prop where
 cell:H w=some (.cells [.sl o 2 (cKs l),.bool ok,.int .i64 dp])
 own:Owned H o l.length 2
structure WStep (H:Heap) (o:Own) (w:Nat) (H':Heap) (o':Own):Prop where
 keep:∀ c x,c≠w→(∀ d,o≠.tip c d)→H c=some x→H' c=some x
 new:∀ b d,o'=.tip b d→H b=none∨∃ d0,o=.tip b d0
theorem WStep.refl (H:Heap) (o:Own) (w:Nat):WStep H o w H o:=⟨fun _ _ _ _ h=>h,fun b d e=>.inr ⟨d,e⟩⟩
theorem WStep.trans {H H1 H2:Heap} {o o1 o2:Own} {w:Nat} {x:AObj} (h:WStep H o w H1 o1) (hw:H1 w=some x) (h':WStep H1 o1 w H2 o2):WStep H o w H2 o2:=by
 refine ⟨fun c y hc hn hy=>h'.keep c y hc (fun d e=>?_) (h.keep c y hc hn hy),fun b d e=>?_⟩
 ·rcases h.new c d e with h1|⟨d0,h1⟩
  ·rw [hy] at h1;cases h1
  ·exact hn d0 h1
 ·rcases h'.new b d e with h1|⟨d0,h1⟩
  ·cases hb:H b with
   | none=>exact .inl rfl
   | some y =>
    by_cases e2:∃ d,o=.tip b d
    ·exact .inr e2
    ·have hbw:b≠w:=fun e3=>by subst e3;rw [hw] at h1;cases h1
     have:=h.keep b y hbw (fun d e3=>e2 ⟨d,e3⟩) hb
     rw [h1] at this;cases this
  ·exact h.new b d0 h1
theorem WStep.box {H H':Heap} {o o':Own} {w b n:Nat} {cs:List AV} (h:WStep H o w H' o') (ho:Owned H o n 2) (hb:H b=some (.cells cs)) (hw:b≠w):H' b=some (.cells cs) :=
 h.keep b _ hw (fun d e=>by subst e;exact own_ne ho hb rfl) hb
theorem WStep.upd {H H':Heap} {o o':Own} {w:Nat} {x:AObj} (h:WStep H o w H' o'):WStep H o w (H'.upd w x) o' :=
 ⟨fun c y hc hn hy=>by rw [upd_ne hc];exact h.keep c y hc hn hy,h.new⟩
theorem WStep.alloc {H H':Heap} {o o':Own} {w b:Nat} {x:AObj} (h:WStep H o w H' o') (hb:H' b=none):WStep H o w (H'.upd b x) o' :=
 ⟨fun c y hc hn hy=>by have:=h.keep c y hc hn hy;rw [upd_ne (fun e=>by subst e;rw [hb] at this;cases this)];exact this,h.new⟩
theorem WAt.alloc {H:Heap} {w b:Nat} {o:Own} {l:List Tok} {ok:Bool} {dp:Int} {x:AObj} (h:WAt H w o l ok dp) (hb:H b=none):WAt (H.upd b x) w o l ok dp :=
 ⟨by rw [upd_ne (fun e=>by subst e;rw [h.cell] at hb;cases hb)];exact h.cell,h.own.upd hb⟩
theorem WAt.put {H:Heap} {w:Nat} {o:Own} {l:List Tok} {ok ok':Bool} {dp dp':Int} (h:WAt H w o l ok dp):WAt (H.upd w (.cells [.sl o 2 (cKs l),.bool ok',.int .i64 dp'])) w o l ok' dp' :=
 ⟨upd_same ..,own_upd h.own h.cell⟩
theorem WAt.app {H H1:Heap} {w:Nat} {o o1:Own} {l ts:List Tok} {ok:Bool} {dp:Int} {n:Nat} (h:WAt H w o l ok dp) (hs:OwnS H o H1 o1 n 2) (hn:n=(l++ts).length) :
  H1 w=some (.cells [.sl o 2 (cKs l),.bool ok,.int .i64 dp])∧WAt (H1.upd w (.cells [.sl o1 2 (cKs (l++ts)),.bool ok,.int .i64 dp])) w o1 (l++ts) ok dp∧WStep H o w (H1.upd w (.cells [.sl o1 2 (cKs (l++ts)),.bool ok,.int .i64 dp])) o1:=by
 subst hn
 have hc:=own_keep h.own h.cell hs.kept
 exact ⟨hc,⟨upd_same ..,own_upd hs.own hc⟩,fun c y hcw hn hy=>by rw [upd_ne hcw];exact hs.kept c y hy hn,hs.new⟩
abbrev RetT (R:AV→Heap→Prop):AEnd→Heap→Prop:=fun e H'=>∃ v,e=.ret v∧R v H'
structure WR (H0:Heap) (o0:Own) (w:Nat) (l0:List Tok) (ok0:Bool) (dp:Int) (B:Nat) (r:Bool) (tk:List Tok) (H:Heap) (o:Own) (l:List Tok):Prop where
 here:WAt H w o l (ok0 && r) dp
 st:WStep H0 o0 w H o
 len:l.length≤l0.length+B
 eq:(ok0 && r)=true→l=l0++tk
theorem WR.refl {H:Heap} {o:Own} {w:Nat} {l:List Tok} {ok:Bool} {dp:Int} (h:WAt H w o l ok dp):WR H o w l ok dp 0 true [] H o l :=
 ⟨by rw [Bool.and_true];exact h,.refl _ _ _,Nat.le_refl _,fun _=>by simp⟩
theorem WR.alloc {H0 H:Heap} {o0 o:Own} {w b B:Nat} {l0 l tk:List Tok} {ok0 r:Bool} {dp:Int} {x:AObj} (h:WR H0 o0 w l0 ok0 dp B r tk H o l) (hb:H b=none):WR H0 o0 w l0 ok0 dp B r tk (H.upd b x) o l :=
 ⟨h.here.alloc hb,h.st.alloc hb,h.len,h.eq⟩
section
variable {KP:AV→Heap→Prop} {Q:AExit→Env→Heap→Prop} {st:List Fr} {ρ:Env} {H:Heap} {all items:List AItem} {d:Option Nat} {R:List Chk}
end
end Go.Proofs.YticbbfbpeimkbaaGreatDoor
namespace Go.Proofs.YticbbfbpeimkbaaGreatDoor
open Go.Ab Go.Lib
def cStr (l:List (List UInt8)):List AV:=l.map AV.str
theorem cStr_len (l:List (List UInt8)):(cStr l).length=l.length:=by simp [cStr]
def MsT (H:Heap) (b cap:Nat) (l:List (List UInt8)):Prop:=∃ tl,H b=some (.cells (cStr l++tl))∧l.length+tl.length=cap
theorem madeA1 (z:AV):∀ n,(madeA [z] n).length=n
 | 0=>rfl
 | n+1=>by simp [madeA,madeA1 z n]
section
variable {KP:AV→Heap→Prop} {Q:AExit→Env→Heap→Prop} {st:List Fr} {ρ:Env} {H:Heap} {all items:List AItem} {d:Option Nat} {R:List Chk}
theorem goPm_T {b cap:Nat} {l:List (List UInt8)} {x:List UInt8} {o2:Own} (h:MsT H b cap l) (h1:(l.length+1)*16≤140737488355328) (h2:l.length+1≤maxLen)
  (k:∀ b' cap' H',MsT H' b' cap' (l++[x])→goR Tryz.prog KP Q all items st R (ρ.set d (.ms b' 0 (l.length+1) cap')) H') :
  goPm Tryz.prog KP Q all items st d R ρ 1 16 [.str []] (.ms b 0 l.length cap) (.sl o2 1 [[.str x]]) H:=by
 obtain ⟨tl,hb,hc⟩:=h
 refine goPm_ms hb rfl (by simpa using h1) (by simpa using h2) (fun hfit=>⟨?_,?_⟩) (fun hnf=>⟨?_,fun b' cap' hb' hcap' hm'=>?_⟩)
 ·have hfit:l.length+1≤cap:=hfit
  simp [cStr_len];omega
 ·have hfit:l.length+1≤cap:=hfit
  obtain ⟨t0,tl,rfl⟩:∃ t0 t1,tl=t0 :: t1:=by
   cases tl with
   | nil=>simp at hc;omega
   | cons a b=>exact ⟨a,b,rfl⟩
  refine k b cap _ ⟨tl,?_,by simp at hc ⊢;omega⟩
  rw [upd_same]
  simp only [splice,List.flatten_cons,List.flatten_nil,List.append_nil,List.map_cons,List.map_nil,AV.strip1,List.length_cons,List.length_nil,Nat.zero_add,Nat.mul_one]
  rw [List.take_left' (cStr_len l),List.drop_append,List.drop_eq_nil_of_le (by rw [cStr_len];omega),cStr_len,Nat.add_sub_cancel_left]
  simp [cStr]
 ·simp [cStr_len]
 ·refine k b' cap' _ ⟨madeA [.str []] (cap'-(l.length+1)),?_,?_⟩
  ·rw [upd_same]
   simp only [List.drop_zero,Nat.mul_one,List.flatten_cons,List.flatten_nil,List.append_nil,List.map_cons,List.map_nil,AV.strip1,List.length_cons,List.length_nil,Nat.zero_add]
   rw [List.take_left' (cStr_len l)]
   simp [cStr]
  ·have hcap':l.length+1≤cap':=hcap'
   rw [madeA1];simp;omega
theorem goPm_T0 {x:List UInt8} {o2:Own} (k:∀ b' cap' H',MsT H' b' cap' [x]→goR Tryz.prog KP Q all items st R (ρ.set d (.ms b' 0 1 cap')) H') :
  goPm Tryz.prog KP Q all items st d R ρ 1 16 [.str []] (.sl .nil 1 []) (.sl o2 1 [[.str x]]) H:=by
 refine goPm_nil rfl (by simp) (by simp [maxLen]) (fun h=>by simp at h) fun _ b cap hb h1 h2=>?_
 have h1:1≤cap:=h1
 refine k b cap _ ⟨madeA [.str []] (cap-1),?_,by rw [madeA1];simp;omega⟩
 rw [upd_same]
 simp [cStr,AV.strip1]
end
theorem linesG_plain {cur r:List UInt8} {c:UInt8} (h:¬ (c=10∨c=13)):linesG cur (c :: r)=linesG (cur++[c]) r:=by
 have h10:c≠10:=fun e=>h (.inl e)
 have h13:c≠13:=fun e=>h (.inr e)
 cases r with
 | nil=>simp [linesG,h10,h13]
 | cons d r=>simp [linesG,h10,h13]
theorem linesG_10 (cur r:List UInt8):linesG cur (10 :: r)=cur :: linesG [] r:=by cases r<;>simp [linesG]
theorem linesG_13 {cur r:List UInt8} (h:r.head?≠some 10):linesG cur (13 :: r)=cur :: linesG [] r:=by
 cases r with
 | nil=>simp [linesG]
 | cons d r =>
  have:d≠10:=by simpa using h
  simp [linesG,this]
theorem linesG_two (cur r:List UInt8):linesG cur (13 :: 10 :: r)=cur :: linesG [] r:=by simp [linesG]
def linV (b cap:Nat) (l:List (List UInt8)):AV:=if l=[] then .sl .nil 1 [] else .ms b 0 l.length cap
theorem linV_nil (b cap:Nat):linV b cap []=.sl .nil 1 []:=rfl
theorem linV_ne {b cap:Nat} {l:List (List UInt8)} (h:l≠[]):linV b cap l=.ms b 0 l.length cap:=if_neg h
def LinesQ (s:List UInt8):AEnd→Heap→Prop:=RetT fun v H'=>∃ b cap,v=.ms b 0 (linesM s).length cap∧MsT H' b cap (linesM s)
section
variable {KP:AV→Heap→Prop} {Q:AExit→Env→Heap→Prop} {st:List Fr} {ρ:Env} {H:Heap} {all items:List AItem} {d:Option Nat} {R:List Chk}
theorem goPm_L {b cap:Nat} {l:List (List UInt8)} {x:List UInt8} {o2:Own} (h:l≠[]→MsT H b cap l) (h1:(l.length+1)*16≤140737488355328) (h2:l.length+1≤maxLen)
  (k:∀ b' cap' H',MsT H' b' cap' (l++[x])→goR Tryz.prog KP Q all items st R (ρ.set d (.ms b' 0 (l.length+1) cap')) H') :
  goPm Tryz.prog KP Q all items st d R ρ 1 16 [.str []] (linV b cap l) (.sl o2 1 [[.str x]]) H:=by
 by_cases hl:l=[]
 ·subst hl
  rw [linV_nil]
  exact goPm_T0 fun b' cap' H' hm=>k b' cap' H' hm
 ·rw [linV_ne hl]
  exact goPm_T (h hl) h1 h2 k
end
theorem linesTC (s:List UInt8) (hs:s.length≤Lim):ACalls Tryz.prog 323 [.str s] Heap.emp (LinesQ s):=by
 refine ACalls.go ir323 ck323 (Nat.le_refl _) fun KP Q hQ=>?_
 have hs':=hs
 simp only [Lim] at hs'
 simp (disch:=first|omega|assumption) only [ir323,go_sem,↓reduceIte]
 refine goL_st (fun x:Nat × Nat × List (List UInt8) × Nat × Nat=>[(3,linV x.2.2.2.1 x.2.2.2.2 x.2.2.1),(4,.int .i64 x.2.1),(5,.int .i64 x.1)]) (fun x H'=>x.2.1≤x.1∧x.1≤s.length∧x.2.2.1.length≤x.1∧x.2.2.1++linesG ((s.take x.1).drop x.2.1) (s.drop x.1)=linesM s∧(x.2.2.1≠[]→MsT H' x.2.2.2.1 x.2.2.2.2 x.2.2.1)) (fun x=>s.length-x.1) (0,0,[],0,0) (by simp (disch:=first|omega|assumption) only [linV_nil,go_sem,↓reduceIte]) ⟨Nat.le_refl _,Nat.zero_le _,Nat.le_refl _,by simp [linesM],fun h=>absurd rfl h⟩ ?_
 rintro ⟨i,fr,l,b,cap⟩ H1 J ⟨h1,h2,h3,h4,h5⟩ hJ
 simp only at h1 h2 h3 h4 h5
 by_cases hlt:i<s.length
 case neg =>
  obtain rfl:i=s.length:=by omega
  have hlt':¬ ((s.length:Int)<s.length):=by omega
  have hb1:((fr:Int)≤s.length)=True:=eq_true (by omega)
  rw [List.drop_length,List.take_length] at h4
  simp only [linesG] at h4
  simp (disch:=first|omega|assumption) only [hlt',hb1,go_sem,↓reduceIte]
  refine goPm_L h5 (by omega) (by simp only [maxLen];omega) fun b' cap' H2 hm=>?_
  simp (disch:=first|omega|assumption) only [go_sem,↓reduceIte]
  exact hQ _ _ H2 H2 [_] nofun rfl (Low.refl _) ⟨b',cap',by rw [← h4];simp [tupOf,envOf,AV.strip,AV.strip1],by rw [← h4];exact hm⟩
 have hlt':((i:Int)<s.length)=True:=eq_true (by omega)
 obtain ⟨c,r,hd⟩:∃ c r,s.drop i=c :: r:=by
  cases hx:s.drop i with
  | nil=>have:=congrArg List.length hx;simp at this;omega
  | cons c r=>exact ⟨c,r,rfl⟩
 have hc:s.getD i 0=c:=by
  have:(s.drop i).getD 0 0=c:=by rw [hd];rfl
  simpa [List.getD_eq_getElem?_getD] using this
 have hr:s.drop (i+1)=r:=by rw [← List.drop_drop,hd];rfl
 have htk:s.take (i+1)=s.take i++[c]:=by
  rw [List.take_add,hd];rfl
 have hcur:((s.take (i+1)).drop fr)=(s.take i).drop fr++[c]:=by
  rw [htk,List.drop_append_of_le_length (by simp;omega)]
 rw [hd] at h4
 have hb1:((fr:Int)≤(i:Int))=True:=eq_true (by omega)
 have hne9:l++[(s.take i).drop fr]≠[]:=by simp
 have hb2:((i:Int)≤s.length)=True:=eq_true (by omega)
 by_cases e10:c=10
 case pos =>
  subst e10
  rw [linesG_10] at h4
  have hcn:((10:UInt8).toNat:Int)=10:=rfl
  simp (disch:=first|omega|assumption) only [hlt',hc,hcn,hb1,hb2,go_sem,↓reduceIte]
  refine goPm_L h5 (by omega) (by simp only [maxLen];omega) fun b' cap' H2 hm=>?_
  simp (disch:=first|omega|assumption) only [hc,hcn,wrap64,go_sem,↓reduceIte]
  refine goJ (hJ (i+1,i+1,l++[(s.take i).drop fr],b',cap') H2 (by simp only;omega) ⟨Nat.le_refl _,by simp only;omega,by simp;omega,?_,fun _=>hm⟩) (by simp (disch:=first|omega|assumption) only [linV_ne hne9,List.length_append,List.length_cons,List.length_nil,Nat.zero_add,Int.natCast_add,go_sem,↓reduceIte])
  rw [hr]
  simpa using h4
 by_cases e13:c=13
 case neg =>
  rw [linesG_plain (by simp [e10,e13])] at h4
  have c10:¬ ((c.toNat:Int)=10):=fun e=>e10 (UInt8.toNat_inj.1 (by simpa using (by omega:c.toNat=10)))
  have c13:¬ ((c.toNat:Int)=13):=fun e=>e13 (UInt8.toNat_inj.1 (by simpa using (by omega:c.toNat=13)))
  simp (disch:=first|omega|assumption) only [hlt',hc,c10,c13,wrap64,go_sem,↓reduceIte]
  refine goJ (hJ (i+1,fr,l,b,cap) H1 (by simp only;omega) ⟨by simp only;omega,by simp only;omega,by simp only;omega,?_,h5⟩) (by simp (disch:=first|omega|assumption) only [Int.natCast_add,go_sem,↓reduceIte])
  rw [hr,hcur];exact h4
 subst e13
 have hcn:((13:UInt8).toNat:Int)=13:=rfl
 by_cases h10:r.head?=some 10
 case neg =>
  rw [linesG_13 h10] at h4
  by_cases hi2:i+1<s.length
  case neg =>
   have hi2':¬ ((i:Int)+1<s.length):=by omega
   simp (disch:=first|omega|assumption) only [hlt',hc,hcn,hb1,hb2,go_sem,↓reduceIte]
   refine goPm_L h5 (by omega) (by simp only [maxLen];omega) fun b' cap' H2 hm=>?_
   simp (disch:=first|omega|assumption) only [hc,hcn,wrap64,hi2',go_sem,↓reduceIte]
   refine goJ (hJ (i+1,i+1,l++[(s.take i).drop fr],b',cap') H2 (by simp only;omega) ⟨Nat.le_refl _,by simp only;omega,by simp;omega,?_,fun _=>hm⟩) (by simp (disch:=first|omega|assumption) only [linV_ne hne9,List.length_append,List.length_cons,List.length_nil,Nat.zero_add,Int.natCast_add,go_sem,↓reduceIte])
   rw [hr]
   simpa using h4
  have hi2':((i:Int)+1<s.length)=True:=eq_true (by omega)
  obtain ⟨e,r',hre⟩:∃ e r',r=e :: r':=by
   cases r with
   | nil=>have:=congrArg List.length hr;simp at this;omega
   | cons e r'=>exact ⟨e,r',rfl⟩
  have hge:s.getD (i+1) 0=e:=by
   have:(s.drop (i+1)).getD 0 0=e:=by rw [hr,hre];rfl
   simpa [List.getD_eq_getElem?_getD] using this
  have hne:e≠10:=by rw [hre] at h10;simpa using h10
  have hgn:¬ ((e.toNat:Int)=10):=fun x=>hne (UInt8.toNat_inj.1 (by simpa using (by omega:e.toNat=10)))
  have hg1:((i:Int)+1).toNat=i+1:=by omega
  simp (disch:=first|omega|assumption) only [hlt',hc,hcn,hb1,hb2,go_sem,↓reduceIte]
  refine goPm_L h5 (by omega) (by simp only [maxLen];omega) fun b' cap' H2 hm=>?_
  simp (disch:=first|omega|assumption) only [hc,hcn,wrap64,hi2',hg1,hge,hgn,go_sem,↓reduceIte]
  refine goJ (hJ (i+1,i+1,l++[(s.take i).drop fr],b',cap') H2 (by simp only;omega) ⟨Nat.le_refl _,by simp only;omega,by simp;omega,?_,fun _=>hm⟩) (by simp (disch:=first|omega|assumption) only [linV_ne hne9,List.length_append,List.length_cons,List.length_nil,Nat.zero_add,Int.natCast_add,go_sem,↓reduceIte])
  rw [hr]
  simpa using h4
 obtain ⟨r',hre⟩:∃ r',r=10 :: r':=by
  cases r with
  | nil=>cases h10
  | cons e r'=>simp only [List.head?_cons,Option.some.injEq] at h10;subst h10;exact ⟨r',rfl⟩
 rw [hre,linesG_two] at h4
 have hi2:i+1<s.length:=by
  have:=congrArg List.length hr;rw [hre] at this;simp at this;omega
 have hi2':((i:Int)+1<s.length)=True:=eq_true (by omega)
 have hge:s.getD (i+1) 0=10:=by
  have:(s.drop (i+1)).getD 0 0=10:=by rw [hr,hre];rfl
  simpa [List.getD_eq_getElem?_getD] using this
 have hgn:((10:UInt8).toNat:Int)=10:=rfl
 have hg1:((i:Int)+1).toNat=i+1:=by omega
 have hr2:s.drop (i+1+1)=r':=by rw [← List.drop_drop,hr,hre];rfl
 simp (disch:=first|omega|assumption) only [hlt',hc,hcn,hb1,hb2,go_sem,↓reduceIte]
 refine goPm_L h5 (by omega) (by simp only [maxLen];omega) fun b' cap' H2 hm=>?_
 simp (disch:=first|omega|assumption) only [hc,hcn,wrap64,hi2',hg1,hge,hgn,go_sem,↓reduceIte]
 refine goJ (hJ (i+1+1,i+1+1,l++[(s.take i).drop fr],b',cap') H2 (by simp only;omega) ⟨Nat.le_refl _,by simp only;omega,by simp;omega,?_,fun _=>hm⟩) (by simp (disch:=first|omega|assumption) only [linV_ne hne9,List.length_append,List.length_cons,List.length_nil,Nat.zero_add,Int.natCast_add,go_sem,↓reduceIte])
 rw [hr2]
 simpa using h4
theorem isBl_nat (c:UInt8):isBl c=true↔(c.toNat:Int)=9∨(c.toNat:Int)=32:=by
 simp only [isBl,Bool.or_eq_true,decide_eq_true_eq]
 constructor
 ·rintro (rfl|rfl)
  ·exact .inl rfl
  ·exact .inr rfl
 ·rintro (h|h)
  ·exact .inl (UInt8.toNat_inj.1 (by simpa using (by omega:c.toNat=9)))
  ·exact .inr (UInt8.toNat_inj.1 (by simpa using (by omega:c.toNat=32)))
theorem lead_stop {a r:List UInt8} {c:UInt8} (ha:∀ x ∈ a,isBl x=true) (hc:isBl c=false):leadN (a++c :: r)=a.length∧bareL (a++c :: r)=false:=by
 refine ⟨?_,?_⟩
 ·unfold leadN
  induction a with
  | nil=>simp [hc]
  | cons x a ih=>simp [ha x (.head _),ih fun y hy=>ha y (.tail _ hy)]
 ·simp [bareL,hc]
theorem lead_all {a:List UInt8} (ha:∀ x ∈ a,isBl x=true):leadN a=a.length∧bareL a=true:=by
 have hb:bareL a=true:=List.all_eq_true.2 ha
 exact ⟨bare_lead hb,hb⟩
theorem blanksTC (s:List UInt8) (hs:s.length≤Lim):Pure Tryz.prog 345 [.str s] (.tup [.int .i64 (leadN s),.bool (!bareL s)]):=by
 refine Pure.go ir345 ck345 (Nat.le_refl _) fun KP Q hQ=>?_
 have hs':=hs
 simp only [Lim] at hs'
 simp (disch:=first|omega|assumption) only [ir345,go_sem,↓reduceIte]
 refine goL_range s 7 (fun _:AV=>[]) (fun done rest _ H'=>∀ x ∈ done,isBl x=true) (.int .i64 0) (by simp (disch:=first|omega|assumption) only [go_sem,↓reduceIte]) (fun x hx=>nomatch hx) ?_ ?_
 ·rintro y H1 J hdn hlt
  obtain ⟨g1,g2⟩:=lead_all hdn
  simp (disch:=first|omega|assumption) only [hlt,go_sem,↓reduceIte]
  exact hQ _ _ _ _ nofun rfl (by simp [tupOf,envOf,AV.strip,AV.strip1,g1,g2])
 ·rintro done c rest y H1 J hd hlt hlt2 hdn hJ
  have hc:s.getD done.length 0=c:=by rw [hd];simp
  cases hb:isBl c with
  | false =>
   obtain ⟨g1,g2⟩:=lead_stop (r:=rest) hdn hb
   rw [← hd] at g1 g2
   have hn:¬ ((c.toNat:Int)=9∨(c.toNat:Int)=32):=fun h=>by rw [(isBl_nat c).2 h] at hb;cases hb
   have n9:¬ ((c.toNat:Int)=9):=fun h=>hn (.inl h)
   have n32:¬ ((c.toNat:Int)=32):=fun h=>hn (.inr h)
   simp (disch:=first|omega|assumption) only [hlt,hc,n9,n32,go_sem,↓reduceIte]
   exact hQ _ _ _ _ nofun rfl (by simp [tupOf,envOf,AV.strip,AV.strip1,g1,g2])
  | true =>
   have hall:∀ x ∈ done++[c],isBl x=true:=fun x hx=>by
    rcases List.mem_append.1 hx with h|h
    ·exact hdn x h
    ·simp at h;subst h;exact hb
   rcases (isBl_nat c).1 hb with h9|h32
   ·simp (disch:=first|omega|assumption) only [hlt,hc,h9,wrap64,go_sem,↓reduceIte]
    exact goJ (hJ (.int .i64 0) _ hall) (by simp (disch:=first|omega|assumption) only [go_sem,↓reduceIte])
   ·have n9:¬ ((c.toNat:Int)=9):=by omega
    simp (disch:=first|omega|assumption) only [hlt,hc,n9,h32,wrap64,go_sem,↓reduceIte]
    exact goJ (hJ (.int .i64 0) _ hall) (by simp (disch:=first|omega|assumption) only [go_sem,↓reduceIte])
theorem bareTC (s:List UInt8) (hs:s.length≤Lim):Pure Tryz.prog 325 [.str s] (.bool (bareL s)):=by
 refine Pure.go ir325 ck325 (Nat.le_refl _) fun KP Q hQ=>?_
 simp (disch:=first|omega|assumption) only [ir325,go_sem,↓reduceIte]
 refine goK_pure (blanksTC s hs) ?_
 simp (disch:=first|omega|assumption) only [go_sem,↓reduceIte]
 exact hQ _ _ _ _ nofun rfl (by simp [tupOf,envOf,AV.strip,AV.strip1])
end Go.Proofs.YticbbfbpeimkbaaGreatDoor
namespace Go.Proofs.YticbbfbpeimkbaaGreatDoor
open Go.Ab Go.Lib
theorem cStr_get {l a:List (List UInt8)} {x:List UInt8} {b:List (List UInt8)} (h:l=a++x :: b) (tl:List AV):((cStr l++tl).drop (0+a.length*1)).take 1=[.str x]:=by
 subst h;simp [cStr]
theorem cStr_le {l a:List (List UInt8)} {x:List UInt8} {b:List (List UInt8)} (h:l=a++x :: b) (tl:List AV):0+a.length*1+1≤(cStr l++tl).length:=by
 subst h;simp [cStr]
theorem indentTC {H:Heap} {b cap:Nat} {l:List (List UInt8)} (h:MsT H b cap l) (hx:∀ s ∈ l,s.length≤Lim) (hl:l.length≤Lim) :
  ACalls Tryz.prog 324 [.ms b 0 l.length cap] H (RetT fun v H'=>v=.int .i64 (indM l)∧H'=H):=by
 obtain ⟨tl,hb,hc⟩:=h
 refine ACalls.go ir324 ck324 (Nat.le_refl _) fun KP Q hQ=>?_
 have hl':=hl
 simp only [Lim] at hl'
 simp (disch:=first|omega|assumption) only [ir324,go_sem,↓reduceIte]
 refine goL_range l 10 (fun n:Int=>[(3,.int .i64 n)]) (fun done rest n H'=>H'=H∧((done=[]∧n=-1)∨(done≠[]∧indG rest n=indM l))) (-1) (by simp (disch:=first|omega|assumption) only [go_sem,↓reduceIte]) ⟨rfl,.inl ⟨rfl,rfl⟩⟩ ?_ ?_
 ·rintro n H1 J ⟨rfl,hi⟩ hlt
  have e:n=indM l:=by
   rcases hi with ⟨h1,h2⟩|⟨_,h2⟩
   ·subst h1;subst h2;rfl
   ·simpa [indG] using h2
  simp (disch:=first|omega|assumption) only [hlt,go_sem,↓reduceIte]
  exact hQ _ _ _ _ [_] nofun rfl (Low.refl _) ⟨by simp [tupOf,envOf,AV.strip,AV.strip1,e],rfl⟩
 ·rintro done x rest n H1 J hd hlt hlt2 ⟨rfl,hi⟩ hJ
  have hg:=cStr_get hd tl
  have hle:=cStr_le hd tl
  have hxl:=hx x (by rw [hd];simp)
  have hne:done++[x]≠[]:=by simp
  by_cases h0:done.length=0
  ·have h0':((done.length:Int)=0)=True:=eq_true (by omega)
   have hdn:=List.length_eq_zero_iff.1 h0
   have e1:n=-1:=by
    rcases hi with ⟨_,h2⟩|⟨h1,_⟩
    ·exact h2
    ·exact absurd hdn h1
   have e2:rest=l.tail:=by rw [hd,hdn];rfl
   simp (disch:=first|omega|assumption) only [hlt,hb,hg,hle,go_sem,↓reduceIte]
   refine goK_pure (blanksTC x hxl) ?_
   simp (disch:=first|omega|assumption) only [h0',wrap64,go_sem,↓reduceIte]
   exact goJ (hJ n _ ⟨rfl,.inr ⟨hne,by rw [e1,e2];rfl⟩⟩) (by simp (disch:=first|omega|assumption) only [go_sem,↓reduceIte])
  have h0':¬ ((done.length:Int)=0):=by omega
  have e1:indG (x :: rest) n=indM l:=by
   rcases hi with ⟨h1,_⟩|⟨_,h2⟩
   ·rw [h1] at h0;exact absurd rfl h0
   ·exact h2
  simp only [indG] at e1
  cases hbr:bareL x with
  | true =>
   rw [hbr,if_pos rfl] at e1
   simp (disch:=first|omega|assumption) only [hlt,hb,hg,hle,go_sem,↓reduceIte]
   refine goK_pure (blanksTC x hxl) ?_
   simp (disch:=first|omega|assumption) only [h0',hbr,wrap64,go_sem,↓reduceIte]
   exact goJ (hJ n _ ⟨rfl,.inr ⟨hne,e1⟩⟩) (by simp (disch:=first|omega|assumption) only [go_sem,↓reduceIte])
  | false =>
   rw [hbr,if_neg (by decide)] at e1
   by_cases hn:n<0
   ·rw [if_pos (.inl hn)] at e1
    simp (disch:=first|omega|assumption) only [hlt,hb,hg,hle,go_sem,↓reduceIte]
    refine goK_pure (blanksTC x hxl) ?_
    simp (disch:=first|omega|assumption) only [h0',hbr,hn,wrap64,go_sem,↓reduceIte]
    exact goJ (hJ (leadN x) _ ⟨rfl,.inr ⟨hne,e1⟩⟩) (by simp (disch:=first|omega|assumption) only [go_sem,↓reduceIte])
   ·by_cases hn2:(leadN x:Int)<n
    ·rw [if_pos (.inr hn2)] at e1
     simp (disch:=first|omega|assumption) only [hlt,hb,hg,hle,go_sem,↓reduceIte]
     refine goK_pure (blanksTC x hxl) ?_
     simp (disch:=first|omega|assumption) only [h0',hbr,hn,hn2,wrap64,go_sem,↓reduceIte]
     exact goJ (hJ (leadN x) _ ⟨rfl,.inr ⟨hne,e1⟩⟩) (by simp (disch:=first|omega|assumption) only [go_sem,↓reduceIte])
    ·rw [if_neg (by rintro (h|h)<;>contradiction)] at e1
     simp (disch:=first|omega|assumption) only [hlt,hb,hg,hle,go_sem,↓reduceIte]
     refine goK_pure (blanksTC x hxl) ?_
     simp (disch:=first|omega|assumption) only [h0',hbr,hn,hn2,wrap64,go_sem,↓reduceIte]
     exact goJ (hJ n _ ⟨rfl,.inr ⟨hne,e1⟩⟩) (by simp (disch:=first|omega|assumption) only [go_sem,↓reduceIte])
theorem lines_ne (s cur:List UInt8):linesG cur s≠[]:=by
 cases s with
 | nil=>simp [linesG]
 | cons c s =>
  by_cases h:c=10∨c=13
  ·rcases h with rfl|rfl
   ·rw [linesG_10];simp
   ·by_cases h10:s.head?=some 10
    ·cases s with
     | nil=>cases h10
     | cons d s=>simp only [List.head?_cons,Option.some.injEq] at h10;subst h10;rw [linesG_two];simp
    ·rw [linesG_13 h10];simp
  ·rw [linesG_plain h];exact lines_ne s _
termination_by s.length
theorem lines_sum:∀ (s cur:List UInt8),((linesG cur s).map fun x=>x.length+1).sum≤cur.length+s.length+1
 | [],cur=>by simp [linesG]
 | [c],cur=>by simp only [linesG];split<;>simp
 | c :: d :: r,cur=>by
  have h1:=lines_sum (d :: r)
  have h2:=lines_sum r
  simp only [linesG]
  repeat' split
  all_goals simp only [List.length_cons,List.map_cons,List.sum_cons] at h1 ⊢
  ·have:=h1 [];simp only [List.length_nil] at this;omega
  ·have:=h2 [];simp only [List.length_nil] at this;omega
  ·have:=h1 [];simp only [List.length_nil] at this;omega
  ·have:=h1 (cur++[c]);simp only [List.length_append,List.length_cons,List.length_nil] at this;omega
termination_by s=>s.length
theorem mem_sum {l:List (List UInt8)} {x:List UInt8} (h:x ∈ l):x.length+1≤(l.map fun x=>x.length+1).sum:=by
 obtain ⟨a,b,rfl⟩:=List.append_of_mem h
 simp;omega
end Go.Proofs.YticbbfbpeimkbaaGreatDoor
namespace Go.Proofs.YticbbfbpeimkbaaGreatDoor
open Go.Ab Go.Lib
def AtR (cells:List AV) (off:Nat) (cur:List (List UInt8)):Prop:=∃ pre post,cells=pre++(cStr cur++post)∧pre.length=off
theorem AtR.get {cells:List AV} {off:Nat} {cur a:List (List UInt8)} {x:List UInt8} {r:List (List UInt8)} (h:AtR cells off cur) (hc:cur=a++x :: r):(cells.drop (off+a.length*1)).take 1=[.str x]∧off+a.length*1+1≤cells.length:=by
 obtain ⟨pre,post,rfl,rfl⟩:=h
 subst hc
 refine ⟨?_,by simp [cStr];omega⟩
 rw [Nat.mul_one,← List.drop_drop,List.drop_left]
 simp [cStr]
theorem AtR.le {cells:List AV} {off:Nat} {cur:List (List UInt8)} (h:AtR cells off cur):off+cur.length≤cells.length:=by
 obtain ⟨pre,post,rfl,rfl⟩:=h
 simp [cStr]
theorem AtR.front {cells:List AV} {b off cap:Nat} {x:List UInt8} {r:List (List UInt8)} (h:AtR cells off (x :: r)) (hc:r.length+1≤cap) :
  ∃ off2,msCut 1 b off (r.length+1) cap (some 1) (some ((r.length+1:Nat):Int))=some (.ms b off2 r.length (cap-1))∧AtR cells off2 r:=by
 obtain ⟨pre,post,rfl,rfl⟩:=h
 have e:(((r.length+1:Nat):Int)).toNat-(1:Int).toNat=r.length:=by omega
 by_cases h1:cap=1
 ·obtain rfl:r=[]:=List.length_eq_zero_iff.1 (by omega)
  exact ⟨pre.length,by simp [msCut,h1],pre,.str x :: post,by simp [cStr],rfl⟩
 ·refine ⟨pre.length+1,?_,pre++[.str x],post,by simp [cStr],by simp⟩
  unfold msCut
  simp only
  rw [if_pos (by omega),if_neg (by simpa using h1),e]
  simp
theorem msCut_back {b off cap len k:Nat} (h:k≤len):msCut 1 b off len cap (some 0) (some (k:Int))=some (.ms b off k cap):=by
 unfold msCut
 simp only
 rw [if_pos (by omega)]
 simp
theorem AtR.back {cells:List AV} {off:Nat} {x:List UInt8} {r:List (List UInt8)} (h:AtR cells off (r++[x])):AtR cells off r:=by
 obtain ⟨pre,post,rfl,rfl⟩:=h
 exact ⟨pre,.str x :: post,by simp [cStr],rfl⟩
theorem rowsA_str:∀ (cur:List (List UInt8)) (post:List AV),rowsA 1 cur.length (cStr cur++post)=cT cur
 | [],_=>rfl
 | x :: r,post=>by
  have:=rowsA_str r post
  simp only [cStr] at this
  simp [rowsA,cStr,cT,AV.strip1,this]
theorem AtR.rows {cells:List AV} {off:Nat} {cur:List (List UInt8)} (h:AtR cells off cur):rowsA 1 cur.length (cells.drop off)=cT cur:=by
 obtain ⟨pre,post,rfl,rfl⟩:=h
 rw [List.drop_left,rowsA_str]
def wL (l:List (List UInt8)):Nat:=(l.map fun x=>x.length+1).sum
theorem wL_mem {l:List (List UInt8)} {x:List UInt8} (h:x ∈ l):x.length+1≤wL l:=mem_sum h
theorem wL_len:∀ l:List (List UInt8),l.length≤wL l
 | []=>by simp
 | x :: r=>by have:=wL_len r;simp only [wL,List.map_cons,List.sum_cons,List.length_cons] at this ⊢;omega
theorem wL_app (a b:List (List UInt8)):wL (a++b)=wL a+wL b:=by simp [wL]
theorem wL_cons (x:List UInt8) (b:List (List UInt8)):wL (x :: b)=x.length+1+wL b:=by simp [wL]
theorem wL_drop (n:Nat):∀ l:List (List UInt8),wL (l.map fun s=>s.drop n)≤wL l
 | []=>by simp [wL]
 | x :: r=>by have:=wL_drop n r;simp only [List.map_cons,wL_cons,List.length_drop];omega
theorem join_wL:∀ l:List (List UInt8),(Lib.join l [10]).length≤wL l
 | []=>by simp [Lib.join]
 | [x]=>by simp [Lib.join,wL]
 | x :: y :: r=>by
  have:=join_wL (y :: r)
  have e:Lib.join (x :: y :: r) [10]=x++10 :: Lib.join (y :: r) [10]:=by simp [Lib.join]
  rw [e,wL_cons]
  simp only [List.length_append,List.length_cons];omega
theorem trimR_snoc (r:List (List UInt8)) (x:List UInt8):trimR (r++[x])=if bareL x then trimR r else r++[x]:=by
 unfold trimR
 rw [List.reverse_append,List.reverse_singleton,List.singleton_append,List.dropWhile_cons]
 split
 ·rfl
 ·simp
theorem snoc_of {α:Type} {l:List α} (h:l≠[]):∃ r x,l=r++[x]:=⟨l.dropLast,l.getLast h,(List.dropLast_concat_getLast h).symm⟩
theorem cStr_set (a:List (List UInt8)) (x y:List UInt8) (r:List (List UInt8)) (tl:List AV):splice (cStr (a++x :: r)++tl) (0+a.length*1) [.str y]=cStr (a++y :: r)++tl:=by
 have e:cStr (a++x :: r)++tl=cStr a++(.str x :: (cStr r++tl)):=by simp [cStr]
 rw [e]
 simp only [splice,List.length_cons,List.length_nil,Nat.zero_add,Nat.mul_one]
 rw [List.take_left' (cStr_len a),List.drop_append,List.drop_eq_nil_of_le (by rw [cStr_len];omega),cStr_len,Nat.add_sub_cancel_left]
 simp [cStr]
theorem blockTC (raw:List UInt8) (hs:raw.length≤1099511600000):Pure Tryz.prog 280 [.str raw] (.str (blockM raw)):=by
 refine Pure.go ir280 ck280 (Nat.le_refl _) fun KP Q hQ=>?_
 have hw0:wL (linesM raw)≤raw.length+1:=by have:=lines_sum raw [];simpa [wL,linesM] using this
 obtain ⟨x0,T,hL⟩:∃ x T,linesM raw=x :: T:=by
  cases hx:linesM raw with
  | nil=>exact absurd hx (lines_ne raw [])
  | cons x T=>exact ⟨x,T,rfl⟩
 have hLl:=wL_len (linesM raw)
 simp (disch:=first|omega|assumption) only [ir280,go_sem,↓reduceIte]
 refine goK_ret (linesTC raw (by simp only [Lim];omega)) fun v H1 ⟨b,cap,hv,hm⟩=>?_
 subst hv
 have hm0:=hm
 obtain ⟨tl,hb,hcap⟩:=hm
 simp (disch:=first|omega|assumption) only [go_sem,↓reduceIte]
 refine goK_ret (indentTC hm0 (fun s hsm=>by have:=wL_mem hsm;simp only [Lim];omega) (by simp only [Lim];omega)) fun v H2 ⟨hv,hH⟩=>?_
 subst hv;subst hH
 by_cases hn:0<indM (linesM raw)
 case neg =>
  have hn0:(indM (linesM raw)).toNat=0:=by omega
  obtain ⟨D,hDd⟩:∃ D,D=linesM raw:=⟨_,rfl⟩
  have hDM:dropM (linesM raw)=D:=by
   rw [hDd]
   conv=>lhs;rw [hL]
   simp only [dropM]
   rw [← hL,hn0]
   simp [hL]
  have hDl:D.length=(linesM raw).length:=by rw [hDd]
  have hbX:H2 b=some (.cells (cStr D++tl)):=by rw [hDd];exact hb
  obtain ⟨cells,hcells⟩:∃ cells,cells=cStr D++tl:=⟨_,rfl⟩
  rw [← hcells] at hbX
  have hwD:wL D≤1099511627777:=by rw [hDd];omega
  rw [← hDd] at hcap
  simp (disch:=first|omega|assumption) only [hn,go_sem,↓reduceIte]
  refine goL_st (fun x:Nat × Nat × List (List UInt8)=>[(3,.ms b x.1 x.2.2.length x.2.1)]) (fun x H'=>H'=H2∧AtR cells x.1 x.2.2∧x.2.2.length≤x.2.1∧x.2.2.dropWhile bareL=D.dropWhile bareL∧wL x.2.2≤wL D) (fun x=>x.2.2.length) (0,cap,D) (by simp (disch:=first|omega|assumption) only [hDl,go_sem,↓reduceIte]) ⟨rfl,⟨[],tl,by rw [hcells,List.nil_append],rfl⟩,by simp only;omega,rfl,Nat.le_refl _⟩ ?_
  rintro ⟨off,cp,cur⟩ H3 J ⟨rfl,ha,hcp,hdw,hw⟩ hJ
  simp only at ha hcp hdw hw
  have stage2:∀ K:Unit,cur=D.dropWhile bareL→True:=fun _ _=>trivial
  by_cases hcur:cur=[]
  case pos =>
   subst hcur
   have hD:D.dropWhile bareL=[]:=by rw [← hdw];rfl
   simp (disch:=first|omega|assumption) only [List.length_nil,go_sem,↓reduceIte]
   refine goL_st (fun x:Unit=>[]) (fun x H'=>H'=H3) (fun x=>0) () (by simp (disch:=first|omega|assumption) only [List.length_nil,go_sem,↓reduceIte]) rfl ?_
   rintro ⟨⟩ H4 J4 rfl hJ4
   simp (disch:=first|omega|assumption) only [List.length_nil,go_sem,↓reduceIte]
   refine goZ_ms hbX (by decide) (by have:=ha.le;simpa using this) ?_
   have hr:=ha.rows
   simp only [List.length_nil] at hr
   simp (disch:=first|omega|assumption) only [hr,go_sem,↓reduceIte]
   refine goK_pure (joinStrC [] [10] (by simp [Lib.join]) (by simp)) ?_
   have e:blockM raw=Lib.join [] [10]:=by
    unfold blockM;rw [hDM,hD];rfl
   simp (disch:=first|omega|assumption) only [go_sem,↓reduceIte]
   exact hQ _ _ _ _ nofun rfl (by simp [tupOf,envOf,AV.strip,AV.strip1,e])
  obtain ⟨x,r,hxr⟩:∃ x r,cur=x :: r:=by cases cur with|nil=>exact absurd rfl hcur|cons x r=>exact ⟨x,r,rfl⟩
  have hxl:x.length≤Lim:=by have:=wL_mem (l:=cur) (x:=x) (by rw [hxr];simp);simp only [Lim];omega
  obtain ⟨hg,hle⟩:=ha.get (a:=[]) (x:=x) (r:=r) hxr
  simp only [List.length_nil,Nat.zero_mul,Nat.add_zero] at hg hle
  have hcl:cur.length=r.length+1:=by rw [hxr];rfl
  have hpos:((0:Int)<(cur.length:Int))=True:=eq_true (by omega)
  have h1l:((1:Int)≤(cur.length:Int))=True:=eq_true (by omega)
  cases hbr:bareL x with
  | true =>
   obtain ⟨off2,hcut,hat⟩:=AtR.front (b:=b) (cap:=cp) (by rw [← hxr];exact ha) (by omega)
   rw [← hcl] at hcut
   simp (disch:=first|omega|assumption) only [hpos,hbX,hg,hle,Nat.zero_mul,Nat.add_zero,go_sem,↓reduceIte]
   refine goK_pure (bareTC x hxl) ?_
   simp (disch:=first|omega|assumption) only [hbr,hpos,h1l,hcut,go_sem,↓reduceIte]
   refine goJ (hJ (off2,cp-1,r) H3 (by simp only;omega) ⟨rfl,hat,by simp only;omega,by rw [← hdw,hxr];simp [hbr],by rw [hxr,wL_cons] at hw;simp only;omega⟩) (by simp (disch:=first|omega|assumption) only [go_sem,↓reduceIte])
  | false =>
   have hDc:D.dropWhile bareL=cur:=by rw [← hdw,hxr];simp [hbr]
   simp (disch:=first|omega|assumption) only [hpos,hbX,hg,hle,Nat.zero_mul,Nat.add_zero,go_sem,↓reduceIte]
   refine goK_pure (bareTC x hxl) ?_
   simp (disch:=first|omega|assumption) only [hbr,go_sem,↓reduceIte]
   refine goL_st (fun x:List (List UInt8)=>[(3,.ms b off x.length cp)]) (fun x H'=>H'=H3∧AtR cells off x∧trimR x=trimR cur∧wL x≤wL D∧x.length≤cp) (fun x=>x.length) cur (by simp (disch:=first|omega|assumption) only [go_sem,↓reduceIte]) ⟨rfl,ha,rfl,hw,hcp⟩ ?_
   rintro u H4 J4 ⟨rfl,ha4,ht4,hw4,hc4⟩ hJ4
   by_cases hu:u=[]
   ·subst hu
    simp (disch:=first|omega|assumption) only [List.length_nil,go_sem,↓reduceIte]
    refine goZ_ms hbX (by decide) (by have:=ha4.le;simpa using this) ?_
    have hr:=ha4.rows
    simp only [List.length_nil] at hr
    simp (disch:=first|omega|assumption) only [hr,go_sem,↓reduceIte]
    refine goK_pure (joinStrC [] [10] (by simp [Lib.join]) (by simp)) ?_
    have e:blockM raw=Lib.join [] [10]:=by
     unfold blockM;rw [hDM,hDc,← ht4];rfl
    simp (disch:=first|omega|assumption) only [go_sem,↓reduceIte]
    exact hQ _ _ _ _ nofun rfl (by simp [tupOf,envOf,AV.strip,AV.strip1,e])
   obtain ⟨q,y,hqy⟩:=snoc_of hu
   have hyl:y.length≤Lim:=by have:=wL_mem (l:=u) (x:=y) (by rw [hqy];simp);simp only [Lim];omega
   obtain ⟨hg4,hle4⟩:=ha4.get (a:=q) (x:=y) (r:=[]) hqy
   have hul:u.length=q.length+1:=by rw [hqy];simp
   have hpos4:((0:Int)<(u.length:Int))=True:=eq_true (by omega)
   have wq:IntKind.wrap .i64 ((u.length:Int)-1)=(q.length:Int):=by rw [wrap64 (by omega) (by have:=wL_len u;omega)];omega
   have h1q:((q.length:Int)<(u.length:Int))=True:=eq_true (by omega)
   have h2q:((q.length:Int)≤(u.length:Int))=True:=eq_true (by omega)
   cases hby:bareL y with
   | true =>
    simp (disch:=first|omega|assumption) only [hpos4,wq,h1q,hbX,hg4,hle4,go_sem,↓reduceIte]
    refine goK_pure (bareTC y hyl) ?_
    have hcut:=msCut_back (b:=b) (off:=off) (cap:=cp) (show q.length≤u.length by omega)
    simp (disch:=first|omega|assumption) only [hby,wq,h1q,h2q,hcut,go_sem,↓reduceIte]
    refine goJ (hJ4 q H4 (by omega) ⟨rfl,AtR.back (x:=y) (by rw [← hqy];exact ha4),by rw [← ht4,hqy,trimR_snoc,hby];rfl,by rw [hqy,wL_app] at hw4;omega,by omega⟩) (by simp (disch:=first|omega|assumption) only [go_sem,↓reduceIte])
   | false =>
    have hlen:=wL_len u
    simp (disch:=first|omega|assumption) only [hpos4,wq,h1q,hbX,hg4,hle4,go_sem,↓reduceIte]
    refine goK_pure (bareTC y hyl) ?_
    simp (disch:=first|omega|assumption) only [hby,go_sem,↓reduceIte]
    refine goZ_ms hbX (by decide) (by have:=ha4.le;omega) ?_
    have hr:=ha4.rows
    have hj:=join_wL u
    simp (disch:=first|omega|assumption) only [hr,go_sem,↓reduceIte]
    refine goK_pure (joinStrC u [10] (by omega) (by omega)) ?_
    have e:blockM raw=Lib.join u [10]:=by
     unfold blockM;rw [hDM,hDc,← ht4,hqy,trimR_snoc,hby];rfl
    simp (disch:=first|omega|assumption) only [go_sem,↓reduceIte]
    exact hQ _ _ _ _ nofun rfl (by simp [tupOf,envOf,AV.strip,AV.strip1,e])
 case pos =>
  obtain ⟨n,hne⟩:∃ n:Nat,indM (linesM raw)=n:=⟨(indM (linesM raw)).toNat,by omega⟩
  have hnl:n≤1099511627777:=by
   by_cases hall:∀ s ∈ (linesM raw).tail,bareL s=true
   ·have:∀ (l:List (List UInt8)),(∀ s ∈ l,bareL s=true)→indG l (-1)=-1:=by
     intro l
     induction l with
     | nil=>intro _;rfl
     | cons a l ih=>intro h;simp only [indG,h a (.head _),if_true];exact ih fun s hs=>h s (.tail _ hs)
    have:=this _ hall
    have e:indM (linesM raw)=indG (linesM raw).tail (-1):=rfl
    omega
   ·obtain ⟨s,hs⟩:=Classical.not_forall.1 hall
    obtain ⟨hs,hb2⟩:=Classical.not_imp.1 hs
    have h1:=(indG_le (linesM raw).tail (-1)).2 s hs (by simpa using hb2)
    have h2:=wL_mem (List.mem_of_mem_tail hs)
    have h3:leadN s≤s.length:=(List.takeWhile_sublist _).length_le
    have e:indM (linesM raw)=indG (linesM raw).tail (-1):=rfl
    omega
  have hL2:=hL
  rw [hL] at hLl hw0
  have hcap0:=hcap
  rw [hL] at hb hcap0
  have hn':((0:Int)<(n:Int))=True:=eq_true (by omega)
  rw [hne]
  simp (disch:=first|omega|assumption) only [hn',go_sem,↓reduceIte]
  refine goL_st (fun x:List (List UInt8) × List (List UInt8)=>[(5,.int .i64 ((x.1.length:Int)+1))]) (fun x H'=>T=x.1++x.2∧H' b=some (.cells (cStr (x0 :: (x.1.map (fun s=>s.drop n)++x.2))++tl))) (fun x=>x.2.length) ([],T) (by simp (disch:=first|omega|assumption) only [List.length_nil,go_sem,↓reduceIte]) ⟨rfl,by simpa using hb⟩ ?_
  rintro ⟨dn,rest⟩ H3 J3 ⟨hT,hb3⟩ hJ3
  simp only at hT hb3
  have hll:(linesM raw).length=dn.length+rest.length+1:=by rw [hL,hT];simp
  cases rest with
  | nil =>
   have hlt:¬ ((dn.length:Int)+1<((linesM raw).length:Int)):=by simp at hll;omega
   obtain ⟨D,hDd⟩:∃ D,D=x0 :: T.map fun s=>s.drop n:=⟨_,rfl⟩
   have hDM:dropM (linesM raw)=D:=by
    conv=>lhs;rw [hL]
    simp only [dropM]
    rw [← hL,hne,hDd];rfl
   have hDl:D.length=(linesM raw).length:=by rw [hDd,hL];simp
   have hbX:H3 b=some (.cells (cStr D++tl)):=by
    rw [hb3,hDd,hT];simp
   obtain ⟨cells,hcells⟩:∃ cells,cells=cStr D++tl:=⟨_,rfl⟩
   rw [← hcells] at hbX
   have hwD:wL D≤1099511627777:=by
    have:=wL_drop n T
    rw [hDd,wL_cons];rw [wL_cons] at hw0;omega
   have hcap:D.length+tl.length=cap:=by rw [hDl];exact hcap
   clear hJ3 hb3
   simp (disch:=first|omega|assumption) only [hlt,go_sem,↓reduceIte]
   refine goL_st (fun x:Nat × Nat × List (List UInt8)=>[(3,.ms b x.1 x.2.2.length x.2.1)]) (fun x H'=>H'=H3∧AtR cells x.1 x.2.2∧x.2.2.length≤x.2.1∧x.2.2.dropWhile bareL=D.dropWhile bareL∧wL x.2.2≤wL D) (fun x=>x.2.2.length) (0,cap,D) (by simp (disch:=first|omega|assumption) only [hDl,go_sem,↓reduceIte]) ⟨rfl,⟨[],tl,by rw [hcells,List.nil_append],rfl⟩,by simp only;omega,rfl,Nat.le_refl _⟩ ?_
   rintro ⟨off,cp,cur⟩ H5 J5 ⟨rfl,ha,hcp,hdw,hw⟩ hJ5
   simp only at ha hcp hdw hw
   have stage2:∀ K:Unit,cur=D.dropWhile bareL→True:=fun _ _=>trivial
   by_cases hcur:cur=[]
   case pos =>
    subst hcur
    have hD:D.dropWhile bareL=[]:=by rw [← hdw];rfl
    simp (disch:=first|omega|assumption) only [List.length_nil,go_sem,↓reduceIte]
    refine goL_st (fun x:Unit=>[]) (fun x H'=>H'=H5) (fun x=>0) () (by simp (disch:=first|omega|assumption) only [List.length_nil,go_sem,↓reduceIte]) rfl ?_
    rintro ⟨⟩ H4 J4 rfl hJ4
    simp (disch:=first|omega|assumption) only [List.length_nil,go_sem,↓reduceIte]
    refine goZ_ms hbX (by decide) (by have:=ha.le;simpa using this) ?_
    have hr:=ha.rows
    simp only [List.length_nil] at hr
    simp (disch:=first|omega|assumption) only [hr,go_sem,↓reduceIte]
    refine goK_pure (joinStrC [] [10] (by simp [Lib.join]) (by simp)) ?_
    have e:blockM raw=Lib.join [] [10]:=by
     unfold blockM;rw [hDM,hD];rfl
    simp (disch:=first|omega|assumption) only [go_sem,↓reduceIte]
    exact hQ _ _ _ _ nofun rfl (by simp [tupOf,envOf,AV.strip,AV.strip1,e])
   obtain ⟨x,r,hxr⟩:∃ x r,cur=x :: r:=by cases cur with|nil=>exact absurd rfl hcur|cons x r=>exact ⟨x,r,rfl⟩
   have hxl:x.length≤Lim:=by have:=wL_mem (l:=cur) (x:=x) (by rw [hxr];simp);simp only [Lim];omega
   obtain ⟨hg,hle⟩:=ha.get (a:=[]) (x:=x) (r:=r) hxr
   simp only [List.length_nil,Nat.zero_mul,Nat.add_zero] at hg hle
   have hcl:cur.length=r.length+1:=by rw [hxr];rfl
   have hpos:((0:Int)<(cur.length:Int))=True:=eq_true (by omega)
   have h1l:((1:Int)≤(cur.length:Int))=True:=eq_true (by omega)
   cases hbr:bareL x with
   | true =>
    obtain ⟨off2,hcut,hat⟩:=AtR.front (b:=b) (cap:=cp) (by rw [← hxr];exact ha) (by omega)
    rw [← hcl] at hcut
    simp (disch:=first|omega|assumption) only [hpos,hbX,hg,hle,Nat.zero_mul,Nat.add_zero,go_sem,↓reduceIte]
    refine goK_pure (bareTC x hxl) ?_
    simp (disch:=first|omega|assumption) only [hbr,hpos,h1l,hcut,go_sem,↓reduceIte]
    refine goJ (hJ5 (off2,cp-1,r) H5 (by simp only;omega) ⟨rfl,hat,by simp only;omega,by rw [← hdw,hxr];simp [hbr],by rw [hxr,wL_cons] at hw;simp only;omega⟩) (by simp (disch:=first|omega|assumption) only [go_sem,↓reduceIte])
   | false =>
    have hDc:D.dropWhile bareL=cur:=by rw [← hdw,hxr];simp [hbr]
    simp (disch:=first|omega|assumption) only [hpos,hbX,hg,hle,Nat.zero_mul,Nat.add_zero,go_sem,↓reduceIte]
    refine goK_pure (bareTC x hxl) ?_
    simp (disch:=first|omega|assumption) only [hbr,go_sem,↓reduceIte]
    refine goL_st (fun x:List (List UInt8)=>[(3,.ms b off x.length cp)]) (fun x H'=>H'=H5∧AtR cells off x∧trimR x=trimR cur∧wL x≤wL D∧x.length≤cp) (fun x=>x.length) cur (by simp (disch:=first|omega|assumption) only [go_sem,↓reduceIte]) ⟨rfl,ha,rfl,hw,hcp⟩ ?_
    rintro u H4 J4 ⟨rfl,ha4,ht4,hw4,hc4⟩ hJ4
    by_cases hu:u=[]
    ·subst hu
     simp (disch:=first|omega|assumption) only [List.length_nil,go_sem,↓reduceIte]
     refine goZ_ms hbX (by decide) (by have:=ha4.le;simpa using this) ?_
     have hr:=ha4.rows
     simp only [List.length_nil] at hr
     simp (disch:=first|omega|assumption) only [hr,go_sem,↓reduceIte]
     refine goK_pure (joinStrC [] [10] (by simp [Lib.join]) (by simp)) ?_
     have e:blockM raw=Lib.join [] [10]:=by
      unfold blockM;rw [hDM,hDc,← ht4];rfl
     simp (disch:=first|omega|assumption) only [go_sem,↓reduceIte]
     exact hQ _ _ _ _ nofun rfl (by simp [tupOf,envOf,AV.strip,AV.strip1,e])
    obtain ⟨q,y,hqy⟩:=snoc_of hu
    have hyl:y.length≤Lim:=by have:=wL_mem (l:=u) (x:=y) (by rw [hqy];simp);simp only [Lim];omega
    obtain ⟨hg4,hle4⟩:=ha4.get (a:=q) (x:=y) (r:=[]) hqy
    have hul:u.length=q.length+1:=by rw [hqy];simp
    have hpos4:((0:Int)<(u.length:Int))=True:=eq_true (by omega)
    have wq:IntKind.wrap .i64 ((u.length:Int)-1)=(q.length:Int):=by rw [wrap64 (by omega) (by have:=wL_len u;omega)];omega
    have h1q:((q.length:Int)<(u.length:Int))=True:=eq_true (by omega)
    have h2q:((q.length:Int)≤(u.length:Int))=True:=eq_true (by omega)
    cases hby:bareL y with
    | true =>
     simp (disch:=first|omega|assumption) only [hpos4,wq,h1q,hbX,hg4,hle4,go_sem,↓reduceIte]
     refine goK_pure (bareTC y hyl) ?_
     have hcut:=msCut_back (b:=b) (off:=off) (cap:=cp) (show q.length≤u.length by omega)
     simp (disch:=first|omega|assumption) only [hby,wq,h1q,h2q,hcut,go_sem,↓reduceIte]
     refine goJ (hJ4 q H4 (by omega) ⟨rfl,AtR.back (x:=y) (by rw [← hqy];exact ha4),by rw [← ht4,hqy,trimR_snoc,hby];rfl,by rw [hqy,wL_app] at hw4;omega,by omega⟩) (by simp (disch:=first|omega|assumption) only [go_sem,↓reduceIte])
    | false =>
     have hlen:=wL_len u
     simp (disch:=first|omega|assumption) only [hpos4,wq,h1q,hbX,hg4,hle4,go_sem,↓reduceIte]
     refine goK_pure (bareTC y hyl) ?_
     simp (disch:=first|omega|assumption) only [hby,go_sem,↓reduceIte]
     refine goZ_ms hbX (by decide) (by have:=ha4.le;omega) ?_
     have hr:=ha4.rows
     have hj:=join_wL u
     simp (disch:=first|omega|assumption) only [hr,go_sem,↓reduceIte]
     refine goK_pure (joinStrC u [10] (by omega) (by omega)) ?_
     have e:blockM raw=Lib.join u [10]:=by
      unfold blockM;rw [hDM,hDc,← ht4,hqy,trimR_snoc,hby];rfl
     simp (disch:=first|omega|assumption) only [go_sem,↓reduceIte]
     exact hQ _ _ _ _ nofun rfl (by simp [tupOf,envOf,AV.strip,AV.strip1,e])
  | cons y r =>
   have hlt:((dn.length:Int)+1<((linesM raw).length:Int))=True:=eq_true (by simp at hll;omega)
   have hcur:x0 :: (dn.map (fun s=>s.drop n)++y :: r)=(x0 :: dn.map (fun s=>s.drop n))++y :: r:=rfl
   have hg:=cStr_get hcur tl
   have hle:=cStr_le hcur tl
   have hal:(x0 :: dn.map (fun s=>s.drop n)).length=dn.length+1:=by simp
   have hst:∀ z,splice (cStr (x0 :: (dn.map (fun s=>s.drop n)++y :: r))++tl) (0+(dn.length+1)*1) [.str z]=cStr (x0 :: (dn.map (fun s=>s.drop n)++z :: r))++tl:=fun z=>by
    have:=cStr_set (x0 :: dn.map (fun s=>s.drop n)) y z r tl
    rw [hal] at this
    exact this
   rw [hal] at hg hle
   have h1:((dn.length:Int)+1).toNat=dn.length+1:=by omega
   have hy0:((0:Int)≤(y.length:Int))=True:=eq_true (by omega)
   have hln:dn.length≤1099511627777:=by omega
   by_cases hmin:(y.length:Int)<(n:Int)
   ·have hdr:y.drop y.length=y.drop n:=by rw [List.drop_length,List.drop_eq_nil_of_le (by omega)]
    simp (disch:=first|omega|assumption) only [hlt,h1,hb3,hg,hle,hst,hmin,hy0,List.drop_length,go_sem,↓reduceIte]
    refine goJ (hJ3 (dn++[y],r) _ (by simp) ⟨by rw [hT];simp,?_⟩) (by simp (disch:=first|omega|assumption) only [wrap64,List.length_append,List.length_cons,List.length_nil,Int.natCast_add,go_sem,↓reduceIte])
    rw [upd_same]
    simp [List.drop_eq_nil_of_le (show y.length≤n by omega)]
   ·have hny:((n:Int)≤(y.length:Int))=True:=eq_true (by omega)
    have hn0:((0:Int)≤(n:Int))=True:=eq_true (by omega)
    simp (disch:=first|omega|assumption) only [hlt,h1,hb3,hg,hle,hst,hmin,hny,hn0,go_sem,↓reduceIte]
    refine goJ (hJ3 (dn++[y],r) _ (by simp) ⟨by rw [hT];simp,?_⟩) (by simp (disch:=first|omega|assumption) only [wrap64,List.length_append,List.length_cons,List.length_nil,Int.natCast_add,go_sem,↓reduceIte])
    rw [upd_same]
    simp
end Go.Proofs.YticbbfbpeimkbaaGreatDoor
set_option maxRecDepth 1000000
namespace Go.Proofs.YticbbfbpeimkbaaGreatDoor
open Go.Shelf Go.RowKit Go.Lib
section
variable {P:Program} {ρ:Ren}
def eol:ByteArray:=⟨#[13,10]⟩
theorem eol_next_at (w:World) (k:Nat) (s:ByteArray) (pos:Nat) (ty:TypeId) (hk:w.heap[k]?=some (.stringIter s pos)) (h:pos<s.size) :
  (Instr.next (.pointer (some ⟨k,0,none⟩)) true ty).run P w =
   .ok (.tuple #[.bool true,.int .i64 pos,.int .i32 (Utf8.decode s pos).1]) { w with heap:=w.heap.setIfInBounds k (.stringIter s (pos+(Utf8.decode s pos).2)) }:=by
 simp only [Instr.next,getObj,setObj,Sem.run_bind,Sem.run,hk,Result.andThen,h,if_true]
 simp [goInt]
theorem eol_next_stop (w:World) (k:Nat) (s:ByteArray) (pos:Nat) (ty:TypeId) (hk:w.heap[k]?=some (.stringIter s pos)) (h:¬ pos<s.size) :
  (Instr.next (.pointer (some ⟨k,0,none⟩)) true ty).run P w=.ok (.tuple #[.bool false]) w:=by
 simp [Instr.next,getObj,Sem.run,hk,h]
set_option maxHeartbeats 4000000 in
theorem eol_rune_err (L:Lays.n152 P ρ) (w:World) :
  Calls P (ρ.f 152) #[.string eol,.int .i32 65533] w fun e w'=>e=.returned (.int .i64 (-1))∧Below w.heap.size w w':=by
 have t3:=L.t3;have a3:=L.a3;have z3:=L.z3;have v3:=L.v3
 have t4:=L.t4;have a4:=L.a4;have z4:=L.z4;have v4:=L.v4
 have t5:=L.t5;have a5:=L.a5;have z5:=L.z5;have v5:=L.v5
 have t9:=L.t9;have a9:=L.a9;have z9:=L.z9;have v9:=L.v9
 have t21:=L.t21;have a21:=L.a21;have z21:=L.z21;have v21:=L.v21
 have hsz:eol.size=2:=rfl
 go_enter L.f152,Body.n152_ntmps ρ
 go_wp2
 go_loopg [5,6] 2 (fun g _ _ wx=>∃ i:Nat,i+g=2∧wx=w.iter eol i)
 case atStart=>exact ⟨0,by omega,rfl⟩
 case round =>
  obtain ⟨i,hig,rfl⟩:=hrel
  cases gk with
  | zero =>
   obtain rfl:i=2:=by omega
   have hnx:=fun ty=>run_next_end (P:=P) w eol 2 ty (by decide)
   go_wp2
   go_ret
   exact ⟨rfl,(Below.refl _ _).alloc (Nat.le_refl _) _⟩
  | succ g =>
   obtain ⟨x,hx⟩:∃ x:UInt8,eol[i]'(by rw [hsz];omega)=x:=⟨_,rfl⟩
   have hxl:x.toNat=13∨x.toNat=10:=by
    rcases (by omega:i=0∨i=1) with rfl|rfl
    ·left;rw [← hx];rfl
    ·right;rw [← hx];rfl
   have hnx:=fun ty=>run_next_ascii (P:=P) w eol i ty (by rw [hsz];omega) (by rw [hx];omega)
   rw [hx] at hnx
   have hne:¬ ((x.toNat:Int)=65533):=by omega
   clear hx hxl
   go_wp2
   go_roundg g
   case measure=>omega
   case rel=>exact ⟨i+1,by omega,rfl⟩
set_option maxHeartbeats 8000000 in
theorem eol_rune_high (L:Lays.n152 P ρ) (r:Int) (h0:128≤r) (h1:r≠65533) (w:World) :
  Calls P (ρ.f 152) #[.string eol,.int .i32 r] w fun e w'=>e=.returned (.int .i64 (-1))∧Below w.heap.size w w':=by
 have t3:=L.t3;have a3:=L.a3;have z3:=L.z3;have v3:=L.v3
 have t4:=L.t4;have a4:=L.a4;have z4:=L.z4;have v4:=L.v4
 have t5:=L.t5;have a5:=L.a5;have z5:=L.z5;have v5:=L.v5
 have t9:=L.t9;have a9:=L.a9;have z9:=L.z9;have v9:=L.v9
 have t21:=L.t21;have a21:=L.a21;have z21:=L.z21;have v21:=L.v21
 have hsz:eol.size=2:=rfl
 have mixed:=L.mixed
 have u21:=run_underlying L.t21;have u9:=run_underlying L.t9
 have e137:∀ args w,(callFunc (ρ.f 137) args).run P w=.ok (.enter (ρ.f 137) args) w:=enters_of L.f137 (by kernel_rfl) rfl
 have e119:∀ args w,(callFunc (ρ.f 119) args).run P w=.ok (.enter (ρ.f 119) args) w:=enters_of L.f119 (by kernel_rfl) rfl
 have hr1:¬ (r<128):=by omega
 cases hv:Lib.validRune r with
 | false =>
  go_enter L.f152,Body.n152_ntmps ρ
  go_wp2_with (go_at_fn (ρ.f 119);refine (Any.utf8_ValidRune { L with } _ _).mono ?_;rintro e w' ⟨rfl,hw⟩;rw [hw,hv])
  go_ret
  exact ⟨rfl,Below.refl _ _⟩
 | true =>
  have hv':Utf8.valid r=true:=by
   unfold Lib.validRune at hv
   unfold Utf8.valid
   simp only [Bool.or_eq_true,Bool.and_eq_true,decide_eq_true_eq] at hv ⊢
   omega
  obtain ⟨f1,f2,f3⟩:=encode_facts r hv' h0
  clear hv'
  obtain ⟨rs,hrs⟩:∃ rs,Utf8.encode r=rs:=⟨_,rfl⟩
  rw [hrs] at f1 f2 f3
  have hconv:∀ w,(convert (ρ.t 21) (ρ.t 9) (.int .i32 r)).run P w=.ok (.string rs) w:=fun w=>by
   rw [run_convert_int_string w _ _ _ _ (by rw [t21];rfl) t9,hrs]
  have hlast:IntKind.i64.wrap ((rs.size:Int)-1)=(rs.size:Int)-1:=wrap_small _ (by omega) (by omega)
  clear hrs
  by_cases h2:rs.size=2
  ·obtain ⟨b0,b1,rfl⟩:∃ b0 b1,rs=⟨#[b0,b1]⟩:=by
    obtain ⟨⟨l⟩⟩:=rs
    match l,h2 with
    | [x,y],_=>exact ⟨x,y,rfl⟩
   have hb:128≤b1.toNat:=f3 (by show 1<2;decide)
   have hz:(⟨#[b0,b1]⟩:ByteArray).size=2:=rfl
   have hne:¬ ((10:Int)=(b1.toNat:Int)):=by omega
   clear f1 f2 f3 h2
   rw [hz] at hlast
   go_enter L.f152,Body.n152_ntmps ρ
   go_wp2_with (go_at_fn (ρ.f 119);refine (Any.utf8_ValidRune { L with } _ _).mono ?_;rintro e w' ⟨rfl,hw⟩;rw [hw,hv])
   go_step3
   go_wp2
   go_loopg [9,10] 0 (fun g s9 s10 wx=>s9=.int .i64 1∧s10=.int .i64 0∧wx=w)
   case atStart=>exact ⟨rfl,rfl,rfl⟩
   case round =>
    obtain ⟨rfl,rfl,rfl⟩:=hrel
    go_wp2
    go_step3
    have hx:eol[1]'(by decide)=10:=rfl
    have hy:(⟨#[b0,b1]⟩:ByteArray)[1]'(by show 1<2;decide)=b1:=rfl
    go_wp2
    go_quiet_o (fail)
    go_wp2
    have hsl:∀ w,(Instr.slice (ρ.t 9) (.string eol) (some (.int .i64 2)) none none).run P w=.ok (.string ⟨#[]⟩) w:=fun w=>by
     rw [run_slice_string_from_if w _ eol .i64 2 t9]
     rfl
    generalize hW:World.drewN _ _=W
    have HW:Aside (∃ n,W=wr.drewN n):=⟨_,hW.symm⟩
    clear hW
    have hw2:IntKind.i64.wrap 2=2:=by decide
    go_quiet_o (first|(go_at_fn (ρ.f 137);refine Calls.quiet_of_same (Any.strings_IndexByte { L with } _ _ _)))
    go_wp2
    rw [Exit.noGoto_ret]
    go_wp2
    (try rw [Exit.noGoto_ret])
    (try go_wp2)
    go_ret
    obtain ⟨n,rfl⟩:=HW.out
    exact ⟨rfl,⟨rfl,rfl,rfl,Nat.le_refl _,fun _ _=>rfl⟩⟩
  ·have hlt:¬ ((rs.size:Int)-1<2):=by omega
   go_enter L.f152,Body.n152_ntmps ρ
   go_wp2_with (go_at_fn (ρ.f 119);refine (Any.utf8_ValidRune { L with } _ _).mono ?_;rintro e w' ⟨rfl,hw⟩;rw [hw,hv])
   go_step3
   go_wp2
   go_loopg [9,10] 0 (fun g s9 s10 wx=>s9=.int .i64 ((rs.size:Int)-1)∧s10=.int .i64 0∧wx=w)
   case atStart=>exact ⟨rfl,rfl,rfl⟩
   case round =>
    obtain ⟨rfl,rfl,rfl⟩:=hrel
    go_wp2
    rw [Exit.noGoto_ret];go_wp2
    go_ret
    exact ⟨rfl,Below.refl _ _⟩
theorem eol_get_val (s:ByteArray) (i:Nat) (h:i<s.size):s.data.toList[i]?=some (s.get! i):=by
 rw [Lib.data_getElem? s i h]
 simp [ByteArray.get!,getElem!_pos,h]
 rfl
theorem eol_decode_bytes (s:ByteArray) (pos:Nat) (h:pos<s.size) (ha:128≤(s.get! pos).toNat) :
  128≤(Utf8.decode s pos).1∧1≤(Utf8.decode s pos).2∧pos+(Utf8.decode s pos).2≤s.size∧∀ j,j<(Utf8.decode s pos).2→128≤(s.get! (pos+j)).toNat:=by
 have hn:¬ (s.get! (pos+0)).toNat<128:=by simpa using ha
 have h1:∀ (c:Nat),128≤c→128≤(c,1).1∧1≤(c,1).2∧pos+(c,1).2≤s.size∧∀ j,j<(c,1).2→128≤(s.get! (pos+j)).toNat:=fun c hc =>
  ⟨hc,Nat.le_refl _,by show pos+1≤s.size;omega,fun j hj=>by
   have hj:j<1:=hj
   obtain rfl:j=0:=by omega
   simpa using ha⟩
 have hb:∀ k,(s.get! (pos+k)).toNat / 64=2→128≤(s.get! (pos+k)).toNat:=fun k hk=>by omega
 simp only [Utf8.decode,hn,if_false,Utf8.runeError]
 split
 ·rename_i hc
  simp only [Bool.and_eq_true,beq_iff_eq,decide_eq_true_eq] at hc
  split
  ·rename_i h2
   refine ⟨h2,by show 1≤2;omega,by show pos+2≤s.size;omega,fun j hj=>?_⟩
   have hj:j<2:=hj
   rcases (by omega:j=0∨j=1) with rfl|rfl
   ·simpa using ha
   ·exact hb 1 hc.2.2
  ·exact h1 _ (by decide)
 split
 ·rename_i hc
  simp only [Bool.and_eq_true,beq_iff_eq,decide_eq_true_eq] at hc
  split
  ·rename_i h2
   simp only [Bool.and_eq_true,decide_eq_true_eq] at h2
   refine ⟨by have:=h2.1;show 128≤_;simp only;omega,by show 1≤3;omega,by show pos+3≤s.size;omega,fun j hj=>?_⟩
   have hj:j<3:=hj
   rcases (by omega:j=0∨j=1∨j=2) with rfl|rfl|rfl
   ·simpa using ha
   ·exact hb 1 hc.1.2.2
   ·exact hb 2 hc.2.2
  ·exact h1 _ (by decide)
 split
 ·rename_i hc
  simp only [Bool.and_eq_true,beq_iff_eq,decide_eq_true_eq] at hc
  split
  ·rename_i h2
   simp only [Bool.and_eq_true,decide_eq_true_eq] at h2
   refine ⟨by have:=h2.1;show 128≤_;simp only;omega,by show 1≤4;omega,by show pos+4≤s.size;omega,fun j hj=>?_⟩
   have hj:j<4:=hj
   rcases (by omega:j=0∨j=1∨j=2∨j=3) with rfl|rfl|rfl|rfl
   ·simpa using ha
   ·exact hb 1 hc.1.1.2.2
   ·exact hb 2 hc.1.2.2
   ·exact hb 3 hc.2.2
  ·exact h1 _ (by decide)
 ·exact h1 _ (by decide)
theorem eol_run {s:ByteArray} {i k:Nat} (h:NoAny s.data.toList eol.data.toList i) (hk:i+k≤s.size) (hb:∀ j,j<k→128≤(s.get! (i+j)).toNat):NoAny s.data.toList eol.data.toList (i+k):=fun j b hj hjb=>by
 by_cases hlt:j<i
 ·exact h j b hlt hjb
 ·have h1:=hb (j-i) (by omega)
  rw [show i+(j-i)=j by omega] at h1
  rw [eol_get_val s j (by omega)] at hjb
  cases hjb
  show ([13,10]:List UInt8).contains _=false
  simp only [List.contains_cons,List.contains_nil,Bool.or_false,Bool.or_eq_false_iff,beq_eq_false_iff_ne]
  refine ⟨fun e=>?_,fun e=>?_⟩<;>(rw [e] at h1;simp at h1)
set_option maxHeartbeats 8000000 in
theorem eol_indexAny_short (L:Lays.n153 P ρ) (s:ByteArray) (w:World) (h8:s.size≤8) :
  Calls P (ρ.f 153) #[.string s,.string eol] w fun e w'=>e=.returned (.int .i64 (Lib.indexAny s.data.toList eol.data.toList))∧Below w.heap.size w w':=by
 have hemp:eol.toList.isEmpty=false:=by rw [Lib.toList_data];rfl
 have hn0:(eol.size:Int)=2:=rfl
 have hn1:((eol.size:Int) == 1)=false:=rfl
 have h8z:decide ((8:Int)<(s.size:Int))=false:=decide_eq_false (by omega)
 have t3:=L.t3;have a3:=L.a3;have z3:=L.z3;have v3:=L.v3
 have t4:=L.t4;have a4:=L.a4;have z4:=L.z4;have v4:=L.v4
 have t5:=L.t5;have a5:=L.a5;have z5:=L.z5;have v5:=L.v5
 have t9:=L.t9;have a9:=L.a9;have z9:=L.z9;have v9:=L.v9
 have t21:=L.t21;have a21:=L.a21;have z21:=L.z21;have v21:=L.v21
 have e152:∀ args w,(callFunc (ρ.f 152) args).run P w=.ok (.enter (ρ.f 152) args) w:=enters_of L.f152 (by kernel_rfl) rfl
 have e226:∀ args w,(callFunc (ρ.f 226) args).run P w=.ok (.enter (ρ.f 226) args) w:=enters_of L.f226 (by kernel_rfl) rfl
 go_enter L.f153,Body.n153_ntmps ρ
 go_wp2_with (go_at_fn (ρ.f 226);refine (Any.strings_shouldUseASCIISet { L with } _ _).mono ?_;rintro e w' ⟨rfl,hw⟩;rw [hw,h8z])
 go_loopg [9,10] s.size (fun g _ _ wx=>∃ i:Nat,i+g=s.size∧(wx.heap[w.heap.size]?=some (.stringIter s i)∧Below w.heap.size w wx)∧Lib.NoAny s.data.toList eol.data.toList i)
 case atStart=>exact ⟨0,by omega,⟨World.iter_heap w s 0,(Below.refl _ _).alloc (Nat.le_refl _) _⟩,Lib.NoAny.zero _ _⟩
 case round =>
  obtain ⟨i,hig,hst,hno⟩:=hrel
  obtain ⟨hit,hbe⟩:=hst
  have HN:Aside (Lib.NoAny s.data.toList eol.data.toList i∧Below w.heap.size w wr):=⟨hno,hbe⟩
  clear hno hbe
  cases gk with
  | zero =>
   obtain rfl:i=s.size:=by omega
   have hnx:=fun ty=>eol_next_stop (P:=P) wr w.heap.size s s.size ty hit (by omega)
   go_wp2
   go_ret
   exact ⟨by rw [Lib.indexAny_none (by rw [← Lib.size_eq];exact HN.out.1)];rfl,HN.out.2⟩
  | succ g =>
   have hi:i<s.size:=by omega
   have hnx:=fun ty=>eol_next_at (P:=P) wr w.heap.size s i ty hit hi
   have hwlt:w.heap.size<wr.heap.size:=(Array.getElem?_eq_some_iff.1 hit).1
   have hst2:∀ k,({ wr with heap:=wr.heap.setIfInBounds w.heap.size (.stringIter s k) }:World).heap[w.heap.size]?=some (.stringIter s k):=fun k=>by
    show (wr.heap.setIfInBounds w.heap.size (.stringIter s k))[w.heap.size]?=_
    simp [hwlt]
   have hbl2:∀ k,Below w.heap.size w ({ wr with heap:=wr.heap.setIfInBounds w.heap.size (.stringIter s k) }:World):=fun k=>by
    have hb:=HN.out.2
    refine ⟨hb.os,hb.tape,hb.output,by simpa using hb.size,fun n hn=>?_⟩
    show (wr.heap.setIfInBounds w.heap.size (.stringIter s k))[n]?=_
    rw [Array.getElem?_setIfInBounds_ne (by omega)]
    exact hb.block n hn
   have HB:Aside ((∀ k,({ wr with heap:=wr.heap.setIfInBounds w.heap.size (.stringIter s k) }:World).heap[w.heap.size]?=some (.stringIter s k))∧(∀ k,Below w.heap.size w ({ wr with heap:=wr.heap.setIfInBounds w.heap.size (.stringIter s k) }:World))∧w.heap.size<wr.heap.size):=⟨hst2,hbl2,hwlt⟩
   clear hst2 hbl2 hwlt hit
   by_cases ha:128≤(s.get! i).toNat
   ·obtain ⟨d1,d2,d3,d4⟩:=eol_decode_bytes s i hi ha
    have HD:Aside (1≤(Utf8.decode s i).2∧i+(Utf8.decode s i).2≤s.size∧∀ j,j<(Utf8.decode s i).2→128≤(s.get! (i+j)).toNat):=⟨d2,d3,d4⟩
    clear d2 d3 d4 ha
    generalize hr:(Utf8.decode s i).1=r at hnx d1
    generalize hk:(Utf8.decode s i).2=k at hnx HD
    clear hr hk
    generalize hW:({ wr with heap:=wr.heap.setIfInBounds w.heap.size (.stringIter s (i+k)) }:World)=W at hnx
    have HW:Aside (W.heap[w.heap.size]?=some (.stringIter s (i+k))∧Below w.heap.size w W):=⟨by rw [← hW];exact HB.out.1 _,by rw [← hW];exact HB.out.2.1 _⟩
    clear hW
    have hru:Calls P (ρ.f 152) #[.string eol,.int .i32 (r:Int)] W fun e w'=>e=.returned (.int .i64 (-1))∧Below W.heap.size W w':=by
     by_cases he:(r:Int)=65533
     ·rw [he];exact eol_rune_err { L with } W
     ·exact eol_rune_high { L with } _ (by omega) he W
    go_wp2_with (go_at_fn (ρ.f 152);refine hru.mono ?_;rintro e w' ⟨rfl,hw⟩)
    go_roundg (s.size-(i+k))
    case measure=>have:=HD.out.1;omega
    case rel =>
     obtain ⟨g1,g2⟩:=HW.out
     obtain ⟨f1,f2,f3⟩:=HD.out
     have hlt:w.heap.size<W.heap.size:=(Array.getElem?_eq_some_iff.1 g1).1
     exact ⟨i+k,by omega,⟨by rw [hw.block _ hlt];exact g1,g2.trans (hw.mono (by omega))⟩,eol_run HN.out.1 f2 f3⟩
   ·have hx128:(s[i]'hi).toNat<128:=by
     have e:s.get! i=s[i]'hi:=get_at s i hi
     rw [← e];omega
    have hde:Utf8.decode s i=((s[i]'hi).toNat,1):=decode_ascii s i hi hx128
    obtain ⟨x,hx⟩:∃ x:UInt8,s[i]'hi=x:=⟨_,rfl⟩
    have hxl:s.data.toList[i]?=some x:=by rw [← hx];exact Lib.data_getElem? s i hi
    have Hx:Aside (s.data.toList[i]?=some x):=hxl
    rw [hde,hx] at hnx
    rw [hx] at hx128
    clear hxl hx ha hde
    have hcon:=Lib.contains_iff_indexByte eol.data.toList x
    have hback:((x.toNat:Int)).toNat.toUInt8=x:=by simp
    generalize hW:({ wr with heap:=wr.heap.setIfInBounds w.heap.size (.stringIter s (i+1)) }:World)=W at hnx
    have HW:Aside (W.heap[w.heap.size]?=some (.stringIter s (i+1))∧Below w.heap.size w W):=⟨by rw [← hW];exact HB.out.1 _,by rw [← hW];exact HB.out.2.1 _⟩
    clear hW
    cases hin:eol.data.toList.contains x
    ·rw [hin] at hcon
     have hlt:¬ ((0:Int)≤Lib.indexByte eol.data.toList x):=of_decide_eq_false hcon.symm
     clear hcon
     go_wp2_with (go_at_fn (ρ.f 152);refine (Any.strings_IndexRune_ascii { L with } _ _ _ (by omega) (by omega)).mono ?_;rintro e w' ⟨rfl,hw⟩;rw [hw,hback])
     go_roundg g
     case measure=>omega
     case rel=>exact ⟨i+1,by omega,HW.out,HN.out.1.succ Hx.out hin⟩
    ·rw [hin] at hcon
     have hge:(0:Int)≤Lib.indexByte eol.data.toList x:=of_decide_eq_true hcon.symm
     clear hcon
     go_wp2_with (go_at_fn (ρ.f 152);refine (Any.strings_IndexRune_ascii { L with } _ _ _ (by omega) (by omega)).mono ?_;rintro e w' ⟨rfl,hw⟩;rw [hw,hback])
     go_ret
     exact ⟨by rw [Lib.indexAny_hit HN.out.1 Hx.out hin];rfl,HW.out.2⟩
end
end Go.Proofs.YticbbfbpeimkbaaGreatDoor
namespace Go.Proofs.YticbbfbpeimkbaaGreatDoor
open Go.Ab Go.Lib
theorem idxEolC (s:List UInt8) (hs:s.length≤4294967000):Pure Tryz.prog 218 [.str s,.str [13,10]] (.int .i64 (Lib.indexAny s [13,10])):=by
 refine Pure.of_below fun γ w vs ht hv=>?_
 obtain ⟨hlv,hr⟩:=hv
 match vs,hlv with
 | [v,u],_ =>
  cases hr 0 _ _ rfl rfl
  cases hr 1 _ _ rfl rfl
  by_cases h8:s.length≤8
  ·exact (eol_indexAny_short (P:=Tryz.prog) Tryz.lays153 ⟨s.toArray⟩ w (by simpa [ByteArray.size] using h8)).mono fun e w' ⟨he,hw⟩=>⟨hw,_,he,.int _ _⟩
  ·refine (Tryz.strings_IndexAny_long (zero_of_info (n:=256) (by kernel_rfl)).1 ⟨s.toArray⟩ ⟨#[13,10]⟩ w (by decide) (by simp only [ByteArray.size,List.size_toArray];omega) (by simp only [ByteArray.size,List.size_toArray];omega) (by decide) (fun j b hj=>?_)).mono fun e w' ⟨he,hw⟩=>⟨?_,_,he,.int _ _⟩
   ·have hj:([13,10]:List UInt8)[j]?=some b:=hj
    match j,hj with
    | 0,hj=>cases hj;decide
    | 1,hj=>cases hj;decide
    | j+2,hj=>simp at hj
   ·rw [hw]
    exact ((Go.RowKit.Below.refl _ _).alloc (Nat.le_refl _) _).alloc (by simp) _
theorem eol_take (r:List UInt8):Lib.indexAny r [13,10]=if r.all notEol then -1 else ((r.takeWhile notEol).length:Int):=by
 induction r with
 | nil=>rfl
 | cons c r ih =>
  rw [Lib.indexAny,ih]
  by_cases hc:notEol c=true
  ·have h1:([13,10]:List UInt8).contains c=false:=by
    unfold notEol at hc
    simp at hc
    simp [hc.1,hc.2]
   rw [h1]
   by_cases ha:r.all notEol=true
   ·simp [ha,hc]
   ·have h2:¬ (((r.takeWhile notEol).length:Int)=-1):=by omega
    simp [ha,hc,h2]
  ·have h1:([13,10]:List UInt8).contains c=true:=by
    unfold notEol at hc
    simp at hc
    simp
    rcases Classical.em (c=13) with h|h
    ·exact .inl h
    ·exact .inr (Classical.byContradiction fun h10=>h (hc h10))
   rw [h1]
   simp [hc]
theorem take_all {p:UInt8→Bool}:∀ r:List UInt8,r.all p=true→r.takeWhile p=r
 | [],_=>rfl
 | c :: r,h=>by
  simp only [List.all_cons,Bool.and_eq_true] at h
  rw [List.takeWhile_cons,if_pos h.1,take_all r h.2]
theorem gapN_cons (c:UInt8) (r:List UInt8):gapN (c :: r)=if c=9∨c=10∨c=13∨c=32∨c=44 then 1 else if bomT.isPrefixOf (c :: r) then 3 else if c=35 then 1+(r.takeWhile notEol).length else 0:=rfl
theorem gapC (c:UInt8) (r:List UInt8) (hs:(c :: r).length≤1000000):Pure Tryz.prog 123 [.str (c :: r)] (.int .i64 (gapN (c :: r))):=by
 refine Pure.go ir123 ck123 (Nat.le_refl _) fun KP Q hQ=>?_
 have hl:((0:Int)<((c :: r).length:Int))=True:=eq_true (by simp only [List.length_cons];omega)
 by_cases hw:c=9∨c=10∨c=13∨c=32∨c=44
 ·have e:gapN (c :: r)=1:=by rw [gapN_cons,if_pos hw]
  rw [e] at hQ
  rcases hw with rfl|rfl|rfl|rfl|rfl
  ·have hc:((9:UInt8).toNat:Int)=9:=rfl
   simp (disch:=first|omega|assumption) only [ir123,hl,List.getD_cons_zero,hc,go_sem,↓reduceIte]
   exact hQ _ _ _ _ nofun rfl (by simp [tupOf,envOf,AV.strip,AV.strip1])
  ·have hc:((10:UInt8).toNat:Int)=10:=rfl
   simp (disch:=first|omega|assumption) only [ir123,hl,List.getD_cons_zero,hc,go_sem,↓reduceIte]
   exact hQ _ _ _ _ nofun rfl (by simp [tupOf,envOf,AV.strip,AV.strip1])
  ·have hc:((13:UInt8).toNat:Int)=13:=rfl
   simp (disch:=first|omega|assumption) only [ir123,hl,List.getD_cons_zero,hc,go_sem,↓reduceIte]
   exact hQ _ _ _ _ nofun rfl (by simp [tupOf,envOf,AV.strip,AV.strip1])
  ·have hc:((32:UInt8).toNat:Int)=32:=rfl
   simp (disch:=first|omega|assumption) only [ir123,hl,List.getD_cons_zero,hc,go_sem,↓reduceIte]
   exact hQ _ _ _ _ nofun rfl (by simp [tupOf,envOf,AV.strip,AV.strip1])
  ·have hc:((44:UInt8).toNat:Int)=44:=rfl
   simp (disch:=first|omega|assumption) only [ir123,hl,List.getD_cons_zero,hc,go_sem,↓reduceIte]
   exact hQ _ _ _ _ nofun rfl (by simp [tupOf,envOf,AV.strip,AV.strip1])
 have nat:∀ k:Nat,(c.toNat:Int)=k→k<256→c=UInt8.ofNat k:=fun k h hk=>UInt8.toNat_inj.1 (by rw [UInt8.toNat_ofNat'];omega)
 have g9:¬ ((c.toNat:Int)=9):=fun e=>hw (.inl (nat 9 e (by decide)))
 have g10:¬ ((c.toNat:Int)=10):=fun e=>hw (.inr (.inl (nat 10 e (by decide))))
 have g13:¬ ((c.toNat:Int)=13):=fun e=>hw (.inr (.inr (.inl (nat 13 e (by decide)))))
 have g32:¬ ((c.toNat:Int)=32):=fun e=>hw (.inr (.inr (.inr (.inl (nat 32 e (by decide))))))
 have g44:¬ ((c.toNat:Int)=44):=fun e=>hw (.inr (.inr (.inr (.inr (nat 44 e (by decide))))))
 simp (disch:=first|omega|assumption) only [ir123,hl,List.getD_cons_zero,g9,g10,g13,g32,g44,go_sem,↓reduceIte]
 refine goK_pure (prefixC (c :: r) [239,187,191]) ?_
 by_cases hb:([239,187,191]:List UInt8).isPrefixOf (c :: r)=true
 ·have e:gapN (c :: r)=3:=by rw [gapN_cons,if_neg hw];exact if_pos hb
  rw [e] at hQ
  simp (disch:=first|omega|assumption) only [hb,go_sem,↓reduceIte]
  exact hQ _ _ _ _ nofun rfl (by simp [tupOf,envOf,AV.strip,AV.strip1])
 have hb':([239,187,191]:List UInt8).isPrefixOf (c :: r)=false:=Bool.eq_false_iff.2 hb
 by_cases h35:c=35
 ·subst h35
  have e:gapN (35 :: r)=1+(r.takeWhile notEol).length:=by rw [gapN_cons,if_neg hw,if_neg (show ¬ (bomT.isPrefixOf _=true) from hb),if_pos rfl]
  rw [e] at hQ
  have hc:((35:UInt8).toNat:Int)=35:=rfl
  simp (disch:=first|omega|assumption) only [hb',hc,go_sem,↓reduceIte]
  have hp:=idxEolC (35 :: r) (by omega)
  rw [eol_take] at hp
  have n35:notEol 35=true:=rfl
  by_cases ha:r.all notEol=true
  ·have e2:=take_all r ha
   have e3:(35 :: r).all notEol=true:=by rw [List.all_cons,n35,ha];rfl
   rw [if_pos e3] at hp
   refine goK_pure hp ?_
   have h0:¬ ((0:Int)≤-1):=by decide
   simp (disch:=first|omega|assumption) only [h0,go_sem,↓reduceIte]
   exact hQ _ _ _ _ nofun rfl (by simp [tupOf,envOf,AV.strip,AV.strip1,e2,Int.add_comm])
  ·have e3:¬ ((35 :: r).all notEol=true):=by rw [List.all_cons,n35,Bool.true_and];exact ha
   have e2:((35 :: r).takeWhile notEol).length=1+(r.takeWhile notEol).length:=by rw [List.takeWhile_cons,if_pos n35];simp;omega
   rw [if_neg e3,e2] at hp
   refine goK_pure hp ?_
   have h0:((0:Int)≤((1+(r.takeWhile notEol).length:Nat):Int))=True:=eq_true (by omega)
   simp (disch:=first|omega|assumption) only [h0,go_sem,↓reduceIte]
   exact hQ _ _ _ _ nofun rfl (by simp [tupOf,envOf,AV.strip,AV.strip1])
 ·have e:gapN (c :: r)=0:=by rw [gapN_cons,if_neg hw,if_neg (show ¬ (bomT.isPrefixOf _=true) from hb),if_neg h35]
  rw [e] at hQ
  have g35:¬ ((c.toNat:Int)=35):=fun e=>h35 (nat 35 e (by decide))
  simp (disch:=first|omega|assumption) only [hb',g35,go_sem,↓reduceIte]
  exact hQ _ _ _ _ nofun rfl (by simp [tupOf,envOf,AV.strip,AV.strip1])
theorem wordN_cons (c:UInt8) (r:List UInt8):wordN (c :: r)=if (isL c || isD c)=true then 1+wordN r else 0:=by
 unfold wordN
 rw [List.takeWhile_cons]
 split
 ·simp;omega
 ·rfl
theorem wordTC (s:List UInt8) (hs:s.length≤Lim) (h0:isL (s.getD 0 0)=true):Pure Tryz.prog 224 [.str s] (.int .i64 (wordN s)):=by
 refine Pure.go ir224 ck224 (Nat.le_refl _) fun KP Q hQ=>?_
 simp only [Lim] at hs
 have hr1:=wordN_le s
 simp (disch:=first|omega|assumption) only [ir224,go_sem,↓reduceIte]
 refine goL_st (fun n:Nat=>[(3,.int .i64 n)]) (fun n H=>wordN s=n+wordN (s.drop n)∧n≤s.length) (fun n=>s.length-n) 0 (by simp (disch:=first|omega|assumption) only [go_sem,↓reduceIte]) ⟨by simp,by omega⟩ ?_
 rintro n H J ⟨hn,hle⟩ hJ
 rcases drop_cases s n with ⟨h1,h2⟩|⟨h1,h2⟩
 ·have hlt:¬ ((n:Int)<s.length):=by omega
  rw [h1] at hn
  simp only [wordN,List.takeWhile_nil,List.length_nil,Nat.add_zero] at hn
  simp (disch:=first|omega|assumption) only [hlt,go_sem,↓reduceIte]
  exact hQ _ _ _ _ nofun rfl (by simp [tupOf,envOf,AV.strip,AV.strip1,wordN,hn])
 ·have hlt:((n:Int)<s.length):=by omega
  rw [h2,wordN_cons] at hn
  simp (disch:=first|omega|assumption) only [hlt,go_sem,↓reduceIte]
  refine goK_pure (letterC (s.getD n 0)) ?_
  cases hl:isL (s.getD n 0) with
  | true =>
   simp only [hl,Bool.true_or,if_true] at hn
   simp (disch:=first|omega|assumption) only [hl,go_sem,↓reduceIte]
   exact goJ (hJ (n+1) _ (by omega) ⟨by omega,by omega⟩) (by simp (disch:=first|omega|assumption) only [wrap64,Int.natCast_add,Int.natCast_one,go_sem,↓reduceIte])
  | false =>
   have hn0:((0:Int)<(n:Int))=True:=eq_true (by
    rcases Nat.eq_zero_or_pos n with e|e
    ·subst e;rw [h0] at hl;cases hl
    ·omega)
   simp (disch:=first|omega|assumption) only [hl,hn0,hlt,go_sem,↓reduceIte]
   refine goK_pure (digitC (s.getD n 0)) ?_
   cases hd:isD (s.getD n 0) with
   | true =>
    simp only [hl,hd,Bool.or_true,if_true] at hn
    simp (disch:=first|omega|assumption) only [hd,go_sem,↓reduceIte]
    exact goJ (hJ (n+1) _ (by omega) ⟨by omega,by omega⟩) (by simp (disch:=first|omega|assumption) only [wrap64,Int.natCast_add,Int.natCast_one,go_sem,↓reduceIte])
   | false =>
    simp only [hl,hd,Bool.or_false,Bool.false_eq_true,if_false,Nat.add_zero] at hn
    simp (disch:=first|omega|assumption) only [hd,go_sem,↓reduceIte]
    exact hQ _ _ _ _ nofun rfl (by simp [tupOf,envOf,AV.strip,AV.strip1,hn])
def blkA (n:Nat) (x:Option (List UInt8 × List UInt8)):AV:=match x with
 | some (raw,t)=>.tup [.str (blockM raw),.int .i64 ((n-t.length:Nat):Int)]
 | none=>.tup [.str [],.int .i64 0]
theorem rawM_fuel:∀ (n m:Nat) (raw t:List UInt8),t.length<n→t.length<m→rawM n raw t=rawM m raw t
 | 0,_,_,_,h,_=>absurd h (Nat.not_lt_zero _)
 | _,0,_,_,_,h=>absurd h (Nat.not_lt_zero _)
 | n+1,m+1,raw,[],_,_=>rfl
 | n+1,m+1,raw,c :: r,h1,h2=>by
  simp only [List.length_cons] at h1 h2
  simp only [rawM]
  rw [rawM_fuel n m (raw++threeT) (r.drop 3) (by simp;omega) (by simp;omega),rawM_fuel n m (raw++[c]) r (by omega) (by omega)]
theorem rawM_len:∀ (n:Nat) (raw t b t':List UInt8),rawM n raw t=some (b,t')→b.length+t'.length≤raw.length+t.length∧t'.length≤t.length
 | 0,_,_,_,_,h=>by cases h
 | n+1,raw,[],_,_,h=>by cases h
 | n+1,raw,c :: r,b,t',h=>by
  simp only [rawM] at h
  split at h
  ·cases h;simp;omega
  split at h
  ·rename_i h2
   have hl:=pre_len _ _ h2
   simp only [escT,List.length_cons,List.length_nil] at hl
   have:=rawM_len n _ _ _ _ h
   simp [threeT] at this ⊢;omega
  ·have:=rawM_len n _ _ _ _ h
   simp at this ⊢;omega
theorem blockedC (s:List UInt8) (h3:3≤s.length) (hs:s.length≤LimQ):Pure Tryz.prog 219 [.str s] (blkA s.length (rawM (s.length-2) [] (s.drop 3))):=by
 refine Pure.go ir219 ck219 (Nat.le_refl _) fun KP Q hQ=>?_
 simp only [LimQ] at hs
 obtain ⟨R,hR⟩:∃ R,rawM (s.length-2) [] (s.drop 3)=R:=⟨_,rfl⟩
 rw [hR] at hQ
 simp (disch:=first|omega|assumption) only [ir219,go_sem,↓reduceIte]
 refine goL_st (fun x:Own × List UInt8 × Nat=>[(4,.sl x.1 1 (bytesOf x.2.1)),(5,.int .i64 x.2.2)]) (fun x H=>3≤x.2.2∧x.2.2≤s.length∧x.2.1.length+3≤x.2.2∧rawM ((s.drop x.2.2).length+1) x.2.1 (s.drop x.2.2)=R∧Owned H x.1 x.2.1.length 1) (fun x=>s.length-x.2.2) (.nil,[],3) (by simp (disch:=first|omega|assumption) only [bytesOf,go_sem,↓reduceIte]) ⟨Nat.le_refl _,h3,Nat.le_refl _,by rw [← hR];simp only [List.length_drop];rw [show s.length-3+1=s.length-2 by omega],rfl⟩ ?_
 rintro ⟨o,raw,i⟩ H J ⟨hi3,hi,hrl,hrw,ho⟩ hJ
 simp only at hi3 hi hrl hrw ho
 have hbl:=bytesOf_len raw
 by_cases hge:s.length≤i
 ·obtain rfl:i=s.length:=by omega
  rw [List.drop_length] at hrw
  have e:R=none:=by rw [← hrw];rfl
  have h1:((s.length:Int)≤(s.length:Int))=True:=eq_true (Int.le_refl _)
  simp (disch:=first|omega|assumption) only [h1,go_sem,↓reduceIte]
  exact hQ _ _ _ _ nofun rfl (by simp [tupOf,envOf,AV.strip,AV.strip1,blkA,e])
 have hge':¬ ((s.length:Int)≤(i:Int)):=by omega
 have hle:((i:Int)≤(s.length:Int))=True:=eq_true (by omega)
 have hlt:((i:Int)<(s.length:Int))=True:=eq_true (by omega)
 obtain ⟨c,r,hd⟩:∃ c r,s.drop i=c :: r:=by
  cases hx:s.drop i with
  | nil=>have:=congrArg List.length hx;simp at this;omega
  | cons c r=>exact ⟨c,r,rfl⟩
 have hc:s.getD i 0=c:=by
  have:(s.drop i).getD 0 0=c:=by rw [hd];rfl
  simpa [List.getD_eq_getElem?_getD] using this
 have hdl:s.length=i+(r.length+1):=by have:=congrArg List.length hd;simp at this;omega
 rw [hd] at hrw
 simp only [rawM] at hrw
 simp (disch:=first|omega|assumption) only [hge',hle,go_sem,↓reduceIte]
 refine goK_pure (prefixC (s.drop i) [34,34,34]) ?_
 rw [hd]
 by_cases p1:threeT.isPrefixOf (c :: r)=true
 ·have p1':([34,34,34]:List UInt8).isPrefixOf (c :: r)=true:=p1
  have hl3:=pre_len _ _ p1
  simp only [threeT,List.length_cons,List.length_nil] at hl3
  rw [if_pos p1] at hrw
  simp (disch:=first|omega|assumption) only [p1',byts_of,go_sem,↓reduceIte]
  refine goK_pure (blockTC raw (by omega)) ?_
  have e:((s.length-(r.length-2):Nat):Int)=(i:Int)+3:=by omega
  simp (disch:=first|omega|assumption) only [wrap64,go_sem,↓reduceIte]
  exact hQ _ _ _ _ nofun rfl (by simp [tupOf,envOf,AV.strip,AV.strip1,blkA,← hrw,e])
 have p1':([34,34,34]:List UInt8).isPrefixOf (c :: r)=false:=Bool.eq_false_iff.2 p1
 rw [if_neg p1] at hrw
 simp (disch:=first|omega|assumption) only [p1',hle,go_sem,↓reduceIte]
 refine goK_pure (prefixC (s.drop i) [92,34,34,34]) ?_
 rw [hd]
 by_cases p2:escT.isPrefixOf (c :: r)=true
 ·have p2':([92,34,34,34]:List UInt8).isPrefixOf (c :: r)=true:=p2
  have hl4:=pre_len _ _ p2
  simp only [escT,List.length_cons,List.length_nil] at hl4
  rw [if_pos p2] at hrw
  simp (disch:=first|omega|assumption) only [p2',go_sem,↓reduceIte]
  refine goP_ownS (by rw [hbl];exact ho) (by simp [hbl,bytesOf];omega) (by simp [hbl,bytesOf,maxLen];omega) fun o' H' hs2=>?_
  have hdr:s.drop (i+4)=r.drop 3:=by rw [← List.drop_drop,hd];rfl
  simp (disch:=first|omega|assumption) only [wrap64,go_sem,↓reduceIte]
  refine goJ (hJ (o',raw++threeT,i+4) _ (by simp only;omega) ⟨by simp only;omega,by simp only;omega,by simp [threeT];omega,?_,?_⟩) (by simp (disch:=first|omega|assumption) only [← bytesOf_app,Int.natCast_add,threeT,bytesOf_strip,go_sem,↓reduceIte])
  ·simp only
   rw [hdr,← hrw]
   exact rawM_fuel _ _ _ _ (Nat.lt_succ_self _) (by simp;omega)
  ·have h:=hs2.own
   simpa [hbl,bytesOf,threeT] using h
 ·have p2':([92,34,34,34]:List UInt8).isPrefixOf (c :: r)=false:=Bool.eq_false_iff.2 p2
  rw [if_neg p2] at hrw
  simp (disch:=first|omega|assumption) only [p2',hlt,hc,go_sem,↓reduceIte]
  refine goP_ownS (by rw [hbl];exact ho) (by simp [hbl];omega) (by simp [hbl,maxLen];omega) fun o' H' hs2=>?_
  have hdr:s.drop (i+1)=r:=by rw [← List.drop_drop,hd];rfl
  simp (disch:=first|omega|assumption) only [wrap64,go_sem,↓reduceIte]
  refine goJ (hJ (o',raw++[c],i+1) _ (by simp only;omega) ⟨by simp only;omega,by simp only;omega,by simp;omega,?_,?_⟩) (by simp (disch:=first|omega|assumption) only [← bytesOf_one,Int.natCast_add,go_sem,↓reduceIte])
  ·simp only
   rw [hdr,← hrw]
   rfl
  ·have h:=hs2.own
   simpa [hbl] using h
end Go.Proofs.YticbbfbpeimkbaaGreatDoor
