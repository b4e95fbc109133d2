import Derived.Lib.ValidLaws
import Derived.Test.YtaielcdfcgpbiaaGreatDoorM1
import Derived.Test.YtaielcdfcgpbiaaGreatDoorM2
import Derived.Test.YtaielcdfcgpbiaaGreatDoorM3
import Derived.Test.YtaielcdfcgpbiaaGreatDoorM4
import Derived.Test.YtaielcdfcgpbiaaGreatDoorM5
set_option maxRecDepth 100000
set_option linter.all false
namespace Go.Proofs.YtaielcdfcgpbiaaGreatDoor
open Go.Ab
theorem zlt (s:List UInt8):Pure Tryz.prog 77 [.str s] (.agg (cV (Zt s))):=by
 refine Pure.go ir77 ck77 (Al4 _) fun KP Q hQ=>?_
 simp(disch:=omega) only[ir77,go_sem]
 refine goA_intro fun b hb=>?_
 by_cases h1:s=[110,117,108,108]
 ·have h1':(s=[110,117,108,108])=True:=eq_true h1
  simp(disch:=omega) only[h1',go_sem]
  exact hQ _ _ _ [.agg [.int .i64 0,.int .i64 0,.str [],.sl .nil 5 [],.sl .nil 6 []]] nofun (by simp(disch:=omega) only[ir77,resvs,resv,go_sem]) (by rw[Zt,if_pos h1];rfl)
 by_cases h2:s=[116,114,117,101]
 ·have h2':(s=[116,114,117,101])=True:=eq_true h2
  simp(disch:=omega) only[h1,h2',go_sem]
  exact hQ _ _ _ [.agg [.int .i64 1,.int .i64 1,.str [],.sl .nil 5 [],.sl .nil 6 []]] nofun (by simp(disch:=omega) only[ir77,resvs,resv,go_sem]) (by rw[Zt,if_neg h1,if_pos h2];rfl)
 by_cases h3:s=[102,97,108,115,101]
 ·have h3':(s=[102,97,108,115,101])=True:=eq_true h3
  simp(disch:=omega) only[h1,h2,h3',go_sem]
  exact hQ _ _ _ [.agg [.int .i64 1,.int .i64 0,.str [],.sl .nil 5 [],.sl .nil 6 []]] nofun (by simp(disch:=omega) only[ir77,resvs,resv,go_sem]) (by rw[Zt,if_neg h1,if_neg h2,if_pos h3];rfl)
 simp(disch:=omega) only[h1,h2,h3,go_sem]
 exact hQ _ _ _ [.agg [.int .i64 5,.int .i64 0,.str s,.sl .nil 5 [],.sl .nil 6 []]] nofun (by simp(disch:=omega) only[ir77,resvs,resv,go_sem]) (by rw[Zt,if_neg h1,if_neg h2,if_neg h3];rfl)
def zha (fixed:Bool) (k:Nat):Prop:=∀(H:Heap) (r:Nat) (L p t:TS),p++t=L→wT L≤zk→H r=some (prc L p (16-k)) →
 ACalls Tryz.prog 33 [.ptr r 0,.bool fixed] H (RpE H r L (16-k) (yW fixed k t) fun v=>.agg (cV v))
theorem zc6 {fixed:Bool} {k:Nat} (hv:zha fixed k) {H:Heap} {r:Nat} {L p t:TS} (hs:p++t=L) (hl:wT L≤zk) (hr:H r=some (prc L p (16-k))) :
  ACalls Tryz.prog 83 [.ptr r 0,.bool fixed] H (RpE H r L (16-k) (yh (yW fixed k) t) fun m=>.agg (cM m)):=by
 refine yD (ACalls.goO (R:=fun v H'=>zbb H r L (16-k) (yh (yW fixed k) t) (fun m=>.agg (cM m)) v.strip H') (RP:=fun v H'=>zbt (yh (yW fixed k) t) v H') ir83 ck83 (Al4 _) fun KP Q hQ hP=>?_)
 have hll:L.length≤zk:=Nat.le_trans (Zp L) hl
 have pan:∀(v:AV) (H1:Heap) (n:Int),v=yt n→yh (yW fixed k) t=.error n→KP v H1:=fun v H1 n h1 h2=>hP v H1 H1 (Low.refl _) ⟨n,h2,h1⟩
 have fin:=KI.done hQ
 have K0:=KI.start hs hr
 simp(disch:=omega) only[ir83,go_sem]
 refine goA_intro fun b4 hb4=>?_
 have n4:=K0.ne hb4
 have K1:=K0.box (x:=.cells [.str [],.int .i64 0,.int .i64 0,.str [],.sl .nil 5 [],.sl .nil 6 []]) hb4
 simp(disch:=omega) only[go_sem]
 refine goK_both (zdq (dp:=16-k) hs hll (by rw[upd_ne n4];exact hr)) (fun v H1 ⟨nm,t1,e1,hv1,ha1⟩=>?_) fun v H1 ⟨n,e1,hv1⟩=>pan v H1 n hv1 (by rw[yh,e1];rfl)
 subst hv1
 have K2:=K1.call ha1
 obtain⟨p1,hp1,hr1⟩:=K2.here
 have g1:H1 b4=some (.cells [.str [],.int .i64 0,.int .i64 0,.str [],.sl .nil 5 [],.sl .nil 6 []]):=by rw[ha1.other (Ne.symm n4),upd_same]
 simp(disch:=omega) only[go_sem]
 refine goK_both (zfb (dp:=16-k) hp1 hll hr1 [58]) (fun v H2 ⟨_,t2,e2,hv2,ha2⟩=>?_) fun v H2 ⟨n,e2,hv2⟩=>pan v H2 n hv2 (by rw[yh,e1,zl,e2];rfl)
 subst hv2
 have K3:=K2.call ha2
 obtain⟨p2,hp2,hr2⟩:=K3.here
 have g2:H2 b4=some (.cells [.str [],.int .i64 0,.int .i64 0,.str [],.sl .nil 5 [],.sl .nil 6 []]):=by rw[ha2.other (Ne.symm n4),g1]
 simp(disch:=omega) only[go_sem]
 refine goK_both (hv _ r L p2 t2 hp2 hl hr2) (fun v H3 ⟨x,t3,e3,hv3,ha3⟩=>?_) fun v H3 ⟨n,e3,hv3⟩=>pan v H3 n hv3 (by rw[yh,e1,zl,e2,zl,e3];rfl)
 subst hv3
 have K4:=K3.call ha3
 have g3:H3 b4=some (.cells [.str [],.int .i64 0,.int .i64 0,.str [],.sl .nil 5 [],.sl .nil 6 []]):=by rw[ha3.other (Ne.symm n4),g2]
 simp(disch:=omega) only[zh,zf,zc,zg,ze,zb,zm,g3,go_sem]
 refine fin _ _ [.agg (.str nm::cV x)] (.mk nm x) t3 (by simp(disch:=omega) only[zh,zf,zc,zg,ze,zb,zm,ir83,resvs,resv,go_sem]) (by rw[yh,e1,zl,e2,zl,e3];rfl) (K4.box hb4) ?_
 simp[tupOf,AV.strip,AV.strip1,zm,Zd]
abbrev zB:List AV:=[.int .i64 0,.int .i64 0,.str [],.sl .nil 5 [],.sl .nil 6 []]
theorem zhh (fixed:Bool) (k:Nat) (hk:k≤16) (ih:∀ n,k=n+1→zha fixed n):zha fixed k:=by
 intro H r L p t hs hl hr
 refine yD (ACalls.goO (R:=fun v H'=>zbb H r L (16-k) (yW fixed k t) (fun v=>.agg (cV v)) v.strip H') (RP:=fun v H'=>zbt (yW fixed k t) v H') ir33 ck33 (Al4 _) fun KP Q hQ hP=>?_)
 have hll:L.length≤zk:=Nat.le_trans (Zp L) hl
 have hsl:(hdT t).s.length≤zk:=Nat.le_trans (zlE hs) hl
 have hplen:p.length+t.length=L.length:=by rw[← hs];simp
 have pan:∀(v:AV) (H1:Heap) (n:Int),v=yt n→yW fixed k t=.error n→KP v H1:=fun v H1 n h1 h2=>hP v H1 H1 (Low.refl _) ⟨n,h2,h1⟩
 have fin:=KI.done hQ
 have K0:=KI.start hs hr
 simp(disch:=omega) only[ir33,go_sem]
 refine goA_intro fun b4 hb4=>?_
 have n4:=K0.ne hb4
 simp(disch:=omega) only[go_sem]
 refine goK_ret (zfW (dp:=16-k) hs (by rw[upd_ne n4];exact hr)) fun v H1 ⟨hv,hH⟩=>?_
 subst hv;subst hH
 simp(disch:=omega) only[zw,go_sem]
 refine goA_intro fun b5 hb5=>?_
 have h54:b5≠b4:=fun e=>by subst e;rw[upd_same] at hb5;cases hb5
 have hb5H:H b5=none:=by rw[upd_ne h54] at hb5;exact hb5
 have n5:=K0.ne hb5H
 simp(disch:=omega) only[go_sem]
 generalize hHa:Heap.upd (Heap.upd H b4 _) b5 _=Ha
 have g5:Ha b5=some (.cells [.int .i64 (hdT t).k,.str (hdT t).s]):=by rw[← hHa,upd_same]
 have g4:Ha b4=some (.cells zB):=by rw[← hHa,upd_ne (Ne.symm h54),upd_same]
 have gr:Ha r=some (prc L p (16-k)):=by rw[← hHa,upd_ne n5,upd_ne n4];exact hr
 have KA:KI H r L t (16-k) Ha:=by rw[← hHa];exact(K0.box hb4).box hb5H
 clear hHa
 have gr':=gr
 simp only[prc] at gr'
 simp only[zB] at g4
 have n5s:=Ne.symm n5
 have n4s:=Ne.symm n4
 simp only[zk] at hsl
 have hll2:=hll
 simp only[zk] at hll2
 by_cases hk2:(hdT t).k=2
 ·have hk2':((hdT t).k=2)=True:=eq_true hk2
  have e1:yW fixed k t=.ok (Zt (hdT t).s,t.tail):=by rw[yx,YM.eq_def,if_pos hk2]
  simp(disch:=omega) only[hk2',g5,gr',wrap64,n5s,n4s,go_sem]
  refine goK_pure (zlt _) ?_
  simp(disch:=omega) only[zh,zf,zc,zg,ze,zb,zm,g4,n4s,go_sem]
  exact fin _ _ [.agg (cV (Zt (hdT t).s))] _ _ (by simp(disch:=omega) only[zh,zf,zc,zg,ze,zb,zm,ir33,resvs,resv,go_sem]) e1 ((KA.call (Yh hs (by rw[hk2];decide) _)).box hb4) (by simp[tupOf,AV.strip,Zd])
 by_cases hk34:(hdT t).k=3∨(hdT t).k=4
 ·have e1:yW fixed k t=.ok (zdO (hdT t).s,t.tail):=by rw[yx,YM.eq_def,if_neg hk2,if_pos hk34]
  have hk0:(hdT t).k≠0:=by omega
  have hd3:(decide ((hdT t).k=3)||decide ((hdT t).k=4))=true:=by simpa using hk34
  rcases Classical.em ((hdT t).k=3) with hk3|hk3
  ·have hk3':((hdT t).k=3)=True:=eq_true hk3
   simp(disch:=omega) only[hk2,hk3',g5,gr',wrap64,n5s,n4s,go_sem]
   refine goK_pure (ziP _ (by simp only[Lim];omega)) ?_
   cases hw:Yj (hdT t).s with
   | true =>
    simp(disch:=omega) only[go_sem]
    refine goK_pure (zl9 _) ?_
    simp(disch:=omega) only[zh,zf,zc,zg,ze,zb,zm,g4,n4s,go_sem]
    refine fin _ _ [.agg (cV (.mk 2 (zd3 (hdT t).s) [] [] []))] _ _ (by simp(disch:=omega) only[zh,zf,zc,zg,ze,zb,zm,ir33,resvs,resv,go_sem]) e1 ((KA.call (Yh hs hk0 _)).box hb4) ?_
    simp[tupOf,AV.strip,Zd,zdO,hw]
   | false =>
    simp(disch:=omega) only[g5,g4,n5s,n4s,go_sem]
    refine fin _ _ [.agg [.int .i64 3,.int .i64 0,.str (hdT t).s,.sl .nil 5 [],.sl .nil 6 []]] _ _ (by simp(disch:=omega) only[zh,zf,zc,zg,ze,zb,zm,ir33,resvs,resv,go_sem]) e1 ((KA.call (Yh hs hk0 _)).box hb4) ?_
    simp[tupOf,AV.strip,AV.strip1,zdO,hw,cV,cVs,cMs]
  ·have hk4':((hdT t).k=4)=True:=eq_true (by omega)
   simp(disch:=omega) only[hk2,hk3,hk4',g5,gr',wrap64,n5s,n4s,go_sem]
   refine goK_pure (ziP _ (by simp only[Lim];omega)) ?_
   cases hw:Yj (hdT t).s with
   | true =>
    simp(disch:=omega) only[go_sem]
    refine goK_pure (zl9 _) ?_
    simp(disch:=omega) only[zh,zf,zc,zg,ze,zb,zm,g4,n4s,go_sem]
    refine fin _ _ [.agg (cV (.mk 2 (zd3 (hdT t).s) [] [] []))] _ _ (by simp(disch:=omega) only[zh,zf,zc,zg,ze,zb,zm,ir33,resvs,resv,go_sem]) e1 ((KA.call (Yh hs hk0 _)).box hb4) ?_
    simp[tupOf,AV.strip,Zd,zdO,hw]
   | false =>
    simp(disch:=omega) only[g5,g4,n5s,n4s,go_sem]
    refine fin _ _ [.agg [.int .i64 3,.int .i64 0,.str (hdT t).s,.sl .nil 5 [],.sl .nil 6 []]] _ _ (by simp(disch:=omega) only[zh,zf,zc,zg,ze,zb,zm,ir33,resvs,resv,go_sem]) e1 ((KA.call (Yh hs hk0 _)).box hb4) ?_
    simp[tupOf,AV.strip,AV.strip1,zdO,hw,cV,cVs,cMs]
 by_cases hk5:(hdT t).k=5
 ·have hk5':((hdT t).k=5)=True:=eq_true hk5
  have hk3:¬ ((hdT t).k=3):=by omega
  have hk4:¬ ((hdT t).k=4):=by omega
  have e1:yW fixed k t=.ok (.mk 4 0 (hdT t).s [] [],t.tail):=by rw[yx,YM.eq_def,if_neg hk2,if_neg hk34,if_pos hk5]
  simp(disch:=omega) only[hk2,hk3,hk4,hk5',g5,gr',wrap64,n5s,n4s,go_sem]
  refine goK_pure (zml _) ?_
  simp(disch:=omega) only[zh,zf,zc,zg,ze,zb,zm,g4,n4s,go_sem]
  exact fin _ _ [.agg (cV (.mk 4 0 (hdT t).s [] []))] _ _ (by simp(disch:=omega) only[zh,zf,zc,zg,ze,zb,zm,ir33,resvs,resv,go_sem]) e1 ((KA.call (Yh hs (by rw[hk5];decide) _)).box hb4) (by simp[tupOf,AV.strip,Zd])
 have hk3:¬ ((hdT t).k=3):=fun e=>hk34 (.inl e)
 have hk4:¬ ((hdT t).k=4):=fun e=>hk34 (.inr e)
 have bad1:isP [91] t=true→k=0→yW fixed k t=.error 4:=fun hi h=>by
  subst h
  rw[yx,YM.eq_def,if_neg hk2,if_neg hk34,if_neg hk5,if_pos hi];rfl
 have bad2:¬ (isP [91] t=true)→isP [123] t=true→k=0→yW fixed k t=.error 4:=fun h0 hi h=>by
  subst h
  rw[yx,YM.eq_def,if_neg hk2,if_neg hk34,if_neg hk5,if_neg h0,if_pos hi];rfl
 simp(disch:=omega) only[hk2,hk3,hk4,hk5,g5,go_sem]
 refine goK_both (zjf (dp:=16-k) hs hll (by omega) gr [91]) (fun v H1 ⟨hv,hat,haf⟩=>?_) fun v H1 ⟨hi,h16,hv⟩=>pan v H1 4 hv (bad1 hi (by omega))
 subst hv
 cases hi:isP [91] t with
 | true =>
  obtain⟨hd16,ha1⟩:=hat hi
  obtain⟨n,rfl⟩:∃ n,k=n+1:=⟨k-1,by omega⟩
  rw[show 16-(n+1)+1=16-n by omega] at ha1
  have K1:=KA.call ha1
  have g41:H1 b4=some (.cells zB):=by rw[ha1.other n4s,g4]
  have hi0:isP [91] t=true:=hi
  have hi2:isP [91] t=true:=hi
  simp(disch:=omega) only[go_sem]
  refine goA_intro fun b8 hb8=>?_
  have hb8':=hb8
  have hb8H:H b8=none:=K1.none hb8
  have n8:=K1.ne hb8H
  have h84:b8≠b4:=fun e=>by subst e;rw[g41] at hb8;cases hb8
  have K2:KO H r L t.tail (16-n) (H1.upd b8 (.cells [.int .i64 6,.int .i64 0,.str [],.sl .nil 5 [],.sl .nil 6 []])) .nil 0 5:=⟨K1.box hb8H,rfl,nofun⟩
  obtain⟨R,hR⟩:∃ R,zY [93] (yW fixed n) (t.tail.length+1) [] t.tail=R:=⟨_,rfl⟩
  have hx:yW fixed (n+1) t=pb R fun l t=>.ok (Val.mk 6 0 [] l [],t):=by rw[← hR,yx,YM.eq_def,if_neg hk2,if_neg hk34,if_neg hk5,if_pos hi2];rfl
  simp(disch:=omega) only[List.map_nil,go_sem]
  refine goL_st (fun x:Own×List Val×TS=>[]) (fun x H'=>KO H r L x.2.2 (16-n) H' x.1 x.2.1.length 5∧H' b8=some (.cells [.int .i64 6,.int .i64 0,.str [],.sl x.1 5 (cVs x.2.1),.sl .nil 6 []])∧H' b4=some (.cells zB)∧(∃ m,x.2.2.length<m∧zY [93] (yW fixed n) m x.2.1 x.2.2=R)∧x.2.1.length+x.2.2.length≤L.length) (fun x=>x.2.2.length) (.nil,[],t.tail) (by simp(disch:=omega) only[go_sem]) ⟨K2,upd_same ..,by rw[upd_ne (Ne.symm h84)];exact g41,⟨_,Nat.lt_succ_self _,hR⟩,by have:=K1.here;obtain⟨q,hq,_⟩:=this;rw[← hq];simp⟩ ?_
  rintro⟨o,l,u⟩ H3 J ⟨K3,g8,g4,⟨m,hm,hR3⟩,hlen⟩ hJ
  simp only at K3 g8 g4 hm hR3 hlen
  obtain⟨m,rfl⟩:∃ j,m=j+1:=⟨m-1,by omega⟩
  obtain⟨p3,hp3,hr3⟩:=K3.here
  have hcl:=zcU l
  simp(disch:=omega) only[go_sem]
  refine goK_ret (zgP hp3 hll (by omega) hr3 [93]) fun v H4 ⟨hv4,hat,haf⟩=>?_
  subst hv4
  cases hj:isP [93] u with
  | true =>
   have ha4:=hat hj
   have K4:=K3.call ha4
   rw[show 16-n-1=16-(n+1) by omega] at K4
   have g84:H4 b8=some (.cells [.int .i64 6,.int .i64 0,.str [],.sl o 5 (cVs l),.sl .nil 6 []]):=by rw[ha4.other (Ne.symm n8),g8]
   have g44:H4 b4=some (.cells zB):=by rw[ha4.other (Ne.symm n4),g4]
   simp only[zB] at g44
   have e1:R=.ok (l,u.tail):=by rw[← hR3,zY,hj];rfl
   simp(disch:=omega) only[g84,g44,Ne.symm h84,h84,go_sem]
   refine fin _ _ [.agg [.int .i64 6,.int .i64 0,.str [],.sl o 5 (cVs l),.sl .nil 6 []]] (Val.mk 6 0 [] l []) u.tail (by simp(disch:=omega) only[ir33,resvs,resv,go_sem]) (by rw[hx,e1];rfl) (K4.toKI.box hb4) ?_
   simp[tupOf,AV.strip,AV.strip1,cV,cVs,cMs,zcr]
  | false =>
   have ha4:=haf hj
   have K4:=K3.call ha4
   obtain⟨p4,hp4,hr4⟩:=K4.here
   have g84:H4 b8=some (.cells [.int .i64 6,.int .i64 0,.str [],.sl o 5 (cVs l),.sl .nil 6 []]):=by rw[ha4.other (Ne.symm n8),g8]
   have g44:H4 b4=some (.cells zB):=by rw[ha4.other (Ne.symm n4),g4]
   rw[zY,hj] at hR3
   simp only[Al7,if_false] at hR3
   simp(disch:=omega) only[g84,go_sem]
   refine goK_both (ih n rfl _ r L p4 u hp4 hl hr4) (fun v H5 ⟨x,t5,e5,hv5,ha5⟩=>?_) fun v H5 ⟨n5,e5,hv5⟩=>pan v H5 n5 hv5 (by rw[hx,← hR3,e5];rfl)
   subst hv5
   rw[e5,zl] at hR3
   have hlt:=(yv fixed n).lt (by decide) _ _ _ e5
   have K5:=K4.call ha5
   have g85:H5 b8=some (.cells [.int .i64 6,.int .i64 0,.str [],.sl o 5 (cVs l),.sl .nil 6 []]):=by rw[ha5.other (Ne.symm n8),g84]
   have g45:H5 b4=some (.cells zB):=by rw[ha5.other (Ne.symm n4),g44]
   simp(disch:=omega) only[zh,zf,zc,zg,ze,zb,zm,g85,go_sem]
   refine goP_ownS (by rw[hcl];exact K5.own) (by simp only[hcl,Al2,Al3];simp only[zk] at hll;omega) (by simp only[hcl,Al2,Al3,maxLen];simp only[zk] at hll;omega) fun o6 H6 hs6=>?_
   have K6:=K5.app (by simpa[hcl] using hs6)
   have g86:=K5.stay hs6 g85
   have g46:=K5.stay hs6 g45
   simp(disch:=omega) only[zh,zf,zc,zg,ze,zb,zm,g86,go_sem]
   refine goJ (hJ (o6,l++[x],t5) _ (by simp only;omega) ⟨by simpa using K6.box hb8H g86,by rw[upd_same];simp[zaZ,Zd],by rw[upd_ne (Ne.symm h84)];exact g46,⟨m,by simp only;omega,hR3⟩,by simp only[Al5,Al2,Al3];omega⟩) (by simp(disch:=omega) only[go_sem])
 | false =>
  have ha1:=haf hi
  have K1:=KA.call ha1
  have g41:H1 b4=some (.cells zB):=by rw[ha1.other n4s,g4]
  obtain⟨p1,hp1,hr1⟩:=K1.here
  have hi0:¬ (isP [91] t=true):=by rw[hi];decide
  clear hat haf
  simp(disch:=omega) only[go_sem]
  refine goK_both (zjf (dp:=16-k) hp1 hll (by omega) hr1 [123]) (fun v H2 ⟨hv,hat,haf⟩=>?_) fun v H2 ⟨hi,h16,hv⟩=>pan v H2 4 hv (bad2 hi0 hi (by omega))
  subst hv
  cases hi:isP [123] t with
  | true =>
   obtain⟨hd16,ha2⟩:=hat hi
   obtain⟨n,rfl⟩:∃ n,k=n+1:=⟨k-1,by omega⟩
   rw[show 16-(n+1)+1=16-n by omega] at ha2
   have K1:=K1.call ha2
   have g41:H2 b4=some (.cells zB):=by rw[ha2.other n4s,g41]
   clear hat haf
   have hi2:isP [123] t=true:=hi
   simp(disch:=omega) only[go_sem]
   refine goA_intro fun b8 hb8=>?_
   have hb8':=hb8
   have hb8H:H b8=none:=K1.none hb8
   have n8:=K1.ne hb8H
   have h84:b8≠b4:=fun e=>by subst e;rw[g41] at hb8;cases hb8
   have K2:KO H r L t.tail (16-n) (H2.upd b8 (.cells [.int .i64 7,.int .i64 0,.str [],.sl .nil 5 [],.sl .nil 6 []])) .nil 0 6:=⟨K1.box hb8H,rfl,nofun⟩
   obtain⟨R,hR⟩:∃ R,zY [125] (yh (yW fixed n)) (t.tail.length+1) [] t.tail=R:=⟨_,rfl⟩
   have hx:yW fixed (n+1) t=pb R fun l t=>.ok (Val.mk 7 0 [] [] l,t):=by rw[← hR,yx,YM.eq_def,if_neg hk2,if_neg hk34,if_neg hk5,if_neg hi0,if_pos hi2];rfl
   simp(disch:=omega) only[List.map_nil,go_sem]
   refine goL_st (fun x:Own×List Mem×TS=>[]) (fun x H'=>KO H r L x.2.2 (16-n) H' x.1 x.2.1.length 6∧H' b8=some (.cells [.int .i64 7,.int .i64 0,.str [],.sl .nil 5 [],.sl x.1 6 (cMs x.2.1)])∧H' b4=some (.cells zB)∧(∃ m,x.2.2.length<m∧zY [125] (yh (yW fixed n)) m x.2.1 x.2.2=R)∧x.2.1.length+x.2.2.length≤L.length) (fun x=>x.2.2.length) (.nil,[],t.tail) (by simp(disch:=omega) only[go_sem]) ⟨K2,upd_same ..,by rw[upd_ne (Ne.symm h84)];exact g41,⟨_,Nat.lt_succ_self _,hR⟩,by have:=K1.here;obtain⟨q,hq,_⟩:=this;rw[← hq];simp⟩ ?_
   rintro⟨o,l,u⟩ H3 J ⟨K3,g8,g4,⟨m,hm,hR3⟩,hlen⟩ hJ
   simp only at K3 g8 g4 hm hR3 hlen
   obtain⟨m,rfl⟩:∃ j,m=j+1:=⟨m-1,by omega⟩
   obtain⟨p3,hp3,hr3⟩:=K3.here
   have hcl:=zaX l
   simp(disch:=omega) only[go_sem]
   refine goK_ret (zgP hp3 hll (by omega) hr3 [125]) fun v H4 ⟨hv4,hat,haf⟩=>?_
   subst hv4
   cases hj:isP [125] u with
   | true =>
    have ha4:=hat hj
    have K4:=K3.call ha4
    rw[show 16-n-1=16-(n+1) by omega] at K4
    have g84:H4 b8=some (.cells [.int .i64 7,.int .i64 0,.str [],.sl .nil 5 [],.sl o 6 (cMs l)]):=by rw[ha4.other (Ne.symm n8),g8]
    have g44:H4 b4=some (.cells zB):=by rw[ha4.other (Ne.symm n4),g4]
    simp only[zB] at g44
    have e1:R=.ok (l,u.tail):=by rw[← hR3,zY,hj];rfl
    simp(disch:=omega) only[g84,g44,Ne.symm h84,h84,go_sem]
    refine fin _ _ [.agg [.int .i64 7,.int .i64 0,.str [],.sl .nil 5 [],.sl o 6 (cMs l)]] (Val.mk 7 0 [] [] l) u.tail (by simp(disch:=omega) only[ir33,resvs,resv,go_sem]) (by rw[hx,e1];rfl) (K4.toKI.box hb4) ?_
    simp[tupOf,AV.strip,AV.strip1,cV,cVs,cMs,Yb]
   | false =>
    have ha4:=haf hj
    have K4:=K3.call ha4
    obtain⟨p4,hp4,hr4⟩:=K4.here
    have g84:H4 b8=some (.cells [.int .i64 7,.int .i64 0,.str [],.sl .nil 5 [],.sl o 6 (cMs l)]):=by rw[ha4.other (Ne.symm n8),g8]
    have g44:H4 b4=some (.cells zB):=by rw[ha4.other (Ne.symm n4),g4]
    rw[zY,hj] at hR3
    simp only[Al7,if_false] at hR3
    simp(disch:=omega) only[g84,go_sem]
    refine goK_both (zc6 (ih n rfl) hp4 hl hr4) (fun v H5 ⟨x,t5,e5,hv5,ha5⟩=>?_) fun v H5 ⟨n5,e5,hv5⟩=>pan v H5 n5 hv5 (by rw[hx,← hR3,e5];rfl)
    subst hv5
    rw[e5,zl] at hR3
    have hlt:=(ye (yv fixed n)).lt (by decide) _ _ _ e5
    have K5:=K4.call ha5
    have g85:H5 b8=some (.cells [.int .i64 7,.int .i64 0,.str [],.sl .nil 5 [],.sl o 6 (cMs l)]):=by rw[ha5.other (Ne.symm n8),g84]
    have g45:H5 b4=some (.cells zB):=by rw[ha5.other (Ne.symm n4),g44]
    simp(disch:=omega) only[zh,zf,zc,zg,ze,zb,zm,g85,go_sem]
    refine goP_ownS (by rw[hcl];exact K5.own) (by simp only[hcl,Al2,Al3];simp only[zk] at hll;omega) (by simp only[hcl,Al2,Al3,maxLen];simp only[zk] at hll;omega) fun o6 H6 hs6=>?_
    have K6:=K5.app (by simpa[hcl] using hs6)
    have g86:=K5.stay hs6 g85
    have g46:=K5.stay hs6 g45
    simp(disch:=omega) only[zh,zf,zc,zg,ze,zb,zm,g86,go_sem]
    refine goJ (hJ (o6,l++[x],t5) _ (by simp only;omega) ⟨by simpa using K6.box hb8H g86,by rw[upd_same];simp[Z7,Ym],by rw[upd_ne (Ne.symm h84)];exact g46,⟨m,by simp only;omega,hR3⟩,by simp only[Al5,Al2,Al3];omega⟩) (by simp(disch:=omega) only[go_sem])
  | false =>
   have ha2:=haf hi
   have K2:=K1.call ha2
   have g42:H2 b4=some (.cells zB):=by rw[ha2.other n4s,g41]
   obtain⟨p2,hp2,hr2⟩:=K2.here
   have hi1:¬ (isP [123] t=true):=by rw[hi];decide
   cases hfx:fixed with
   | true =>
    subst hfx
    simp(disch:=omega) only[go_sem]
    exact goK_both (zaA _ r 2) (fun _ _ h=>h.elim) fun v H3 h=>pan v H3 2 h (by rw[yx,YM.eq_def,if_neg hk2,if_neg hk34,if_neg hk5,if_neg hi0,if_neg hi1];rfl)
   | false =>
    subst hfx
    have hx:yW false k t=pb (yk [36] t) fun _ t=>pb (ya t) fun s t=>.ok (.mk 8 0 s [] [],t):=by rw[yx,YM.eq_def,if_neg hk2,if_neg hk34,if_neg hk5,if_neg hi0,if_neg hi1];rfl
    simp(disch:=omega) only[go_sem]
    refine goK_both (zfb (dp:=16-k) hp2 hll hr2 [36]) (fun v H3 ⟨_,t3,e3,hv3,ha3⟩=>?_) fun v H3 ⟨n,e3,hv3⟩=>pan v H3 n hv3 (by rw[hx,e3];rfl)
    subst hv3
    have K3:=K2.call ha3
    obtain⟨p3,hp3,hr3⟩:=K3.here
    have g43:H3 b4=some (.cells zB):=by rw[ha3.other n4s,g42]
    simp(disch:=omega) only[go_sem]
    refine goK_both (zdq (dp:=16-k) hp3 hll hr3) (fun v H4 ⟨s,t4,e4,hv4,ha4⟩=>?_) fun v H4 ⟨n,e4,hv4⟩=>pan v H4 n hv4 (by rw[hx,e3,zl,e4];rfl)
    subst hv4
    have K4:=K3.call ha4
    have g44:H4 b4=some (.cells zB):=by rw[ha4.other n4s,g43]
    simp only[zB] at g44
    simp(disch:=omega) only[g44,go_sem]
    exact fin _ _ [.agg [.int .i64 8,.int .i64 0,.str s,.sl .nil 5 [],.sl .nil 6 []]] (.mk 8 0 s [] []) t4 (by simp(disch:=omega) only[ir33,resvs,resv,go_sem]) (by rw[hx,e3,zl,e4];rfl) (K4.box hb4) rfl
theorem zck (fixed:Bool):∀ k,k≤16→zha fixed k
 | 0,h=>zhh fixed 0 h fun n e=>by cases e
 | k+1,h=>zhh fixed (k+1) h fun n e=>by cases e;exact zck fixed k (by omega)
theorem zaj {p t L:TS} (h:p++t=L):t.length≤L.length:=by rw[← h];simp
theorem zcw (l:List DirD):cDs l=l.map cD:=rfl
theorem zlh {fixed:Bool} {k:Nat} (hk:k≤16) {H:Heap} {r:Nat} {L p t:TS} (hs:p++t=L) (hl:wT L≤zk) (hr:H r=some (prc L p (16-k))) :
  ACalls Tryz.prog 233 [.ptr r 0,.bool fixed] H (RpE H r L (16-k) (YD fixed k t) (fun l=>.sl .no 6 (cMs l))):=by
 refine yD (ACalls.goO (R:=fun v H'=>zbb H r L (16-k) (YD fixed k t) (fun l=>.sl .no 6 (cMs l)) v.strip H') (RP:=fun v H'=>zbt (YD fixed k t) v H') ir233 ck233 (Al4 _) fun KP Q hQ hP=>?_)
 have hll:L.length≤zk:=Nat.le_trans (Zp L) hl
 have hll2:=hll
 simp only[zk] at hll2
 have pan:∀(v:AV) (H1:Heap) (n:Int),v=yt n→(YD fixed k t)=.error n→KP v H1:=fun v H1 n h1 h2=>hP v H1 H1 (Low.refl _) ⟨n,h2,h1⟩
 have fin:=KI.done hQ
 have K0:=KI.start hs hr
 have hv:=zck fixed k hk
 simp(disch:=omega) only[ir233,go_sem]
 refine goK_ret (zbe (dp:=16-k) hs hll hr [40]) fun v H1 ⟨hv1,ha1⟩=>?_
 subst hv1
 cases hi:isP [40] t with
 | false =>
  rw[Zu,hi] at ha1
  simp(disch:=omega) only[go_sem]
  exact fin _ _ [.sl .nil 6 []] [] t (by simp(disch:=omega) only[ir233,resvs,resv,go_sem]) (by unfold YD;rw[hi];rfl) (K0.call (by simpa using ha1)) (by simp[tupOf,AV.strip,AV.strip1,cMs])
 | true =>
  rw[Zu,hi,if_pos rfl] at ha1
  have K1:=K0.call ha1
  obtain⟨p1,hp1,hr1⟩:=K1.here
  have hx:YD fixed k t=pb (yh (yW fixed k) t.tail) fun x t=>zY [41] (yh (yW fixed k)) (t.length+1) [x] t:=by
   unfold YD;rw[hi]
   rfl
  simp(disch:=omega) only[go_sem]
  refine goK_both (zc6 hv hp1 hl hr1) (fun v H2 ⟨x1,t2,e2,hv2,ha2⟩=>?_) fun v H2 ⟨n,e2,hv2⟩=>pan v H2 n hv2 (by rw[hx,e2];rfl)
  subst hv2
  have K2:=K1.call ha2
  have hlt1:=(ye (yv fixed k)).lt (by decide) _ _ _ e2
  have hsl:=zaj hp1
  rw[e2,zl] at hx
  obtain⟨R,hR⟩:∃ R,zY [41] (yh (yW fixed k)) (t2.length+1) [x1] t2=R:=⟨_,rfl⟩
  rw[hR] at hx
  simp(disch:=omega) only[zh,zf,zc,zg,ze,zb,zm,go_sem]
  refine goL_st (fun x:Own×List Mem×TS=>[(5,.sl x.1 6 (cMs x.2.1))]) (fun x H'=>KO H r L x.2.2 (16-k) H' x.1 x.2.1.length 6∧(∃ m,x.2.2.length<m∧zY [41] (yh (yW fixed k)) m x.2.1 x.2.2=R)∧x.2.1.length+x.2.2.length≤L.length) (fun x=>x.2.2.length) (.full,[x1],t2) (by simp(disch:=omega) only[zh,zf,zc,zg,ze,zb,zm,cMs,Ym,go_sem]) ⟨⟨K2,Owned.full _ _ _,nofun⟩,⟨_,Nat.lt_succ_self _,hR⟩,by simp only[List.length_singleton];omega⟩ ?_
  rintro⟨o,l,u⟩ H3 J ⟨K3,⟨m,hm,hR3⟩,hlen⟩ hJ
  simp only at K3 hm hR3 hlen
  obtain⟨m,rfl⟩:∃ j,m=j+1:=⟨m-1,by omega⟩
  obtain⟨p3,hp3,hr3⟩:=K3.here
  have hcl:=zaX l
  simp(disch:=omega) only[go_sem]
  refine goK_ret (zbe (dp:=16-k) hp3 hll hr3 [41]) fun v H4 ⟨hv4,ha4⟩=>?_
  subst hv4
  cases hj:isP [41] u with
  | true =>
   rw[Zu,hj,if_pos rfl] at ha4
   have e1:R=.ok (l,u.tail):=by rw[← hR3,zY,hj];rfl
   simp(disch:=omega) only[go_sem]
   refine fin _ _ [.sl o 6 (cMs l)] l u.tail (by simp(disch:=omega) only[ir233,resvs,resv,go_sem]) (by rw[hx,e1]) (K3.toKI.call ha4) ?_
   simp[tupOf,AV.strip,AV.strip1,Yb]
  | false =>
   rw[Zu,hj] at ha4
   have K4:=K3.call (by simpa using ha4)
   obtain⟨p4,hp4,hr4⟩:=K4.here
   rw[zY,hj] at hR3
   simp only[Al7,if_false] at hR3
   simp(disch:=omega) only[go_sem]
   refine goK_both (zc6 hv hp4 hl hr4) (fun v H5 ⟨x,t5,e5,hv5,ha5⟩=>?_) fun v H5 ⟨n5,e5,hv5⟩=>pan v H5 n5 hv5 (by rw[hx,← hR3,e5];rfl)
   subst hv5
   rw[e5,zl] at hR3
   have hlt:=(ye (yv fixed k)).lt (by decide) _ _ _ e5
   have K5:=K4.call ha5
   simp(disch:=omega) only[zh,zf,zc,zg,ze,zb,zm,go_sem]
   refine goP_ownS (by rw[hcl];exact K5.own) (by simp only[hcl,Al2,Al3];omega) (by simp only[hcl,Al2,Al3,maxLen];omega) fun o6 H6 hs6=>?_
   have K6:=K5.app (by simpa[hcl] using hs6)
   simp(disch:=omega) only[zh,zf,zc,zg,ze,zb,zm,go_sem]
   refine goJ (hJ (o6,l++[x],t5) _ (by simp only;omega) ⟨by simpa using K6,⟨m,by simp only;omega,hR3⟩,by simp only[Al5,Al2,Al3];omega⟩) (by simp(disch:=omega) only[Z7,List.map_append,List.map_cons,List.map_nil,Ym,go_sem])
theorem zk7 {fixed:Bool} {k:Nat} (hk:k≤16) {H:Heap} {r:Nat} {L p t:TS} (hs:p++t=L) (hl:wT L≤zk) (hr:H r=some (prc L p (16-k))) :
  ACalls Tryz.prog 196 [.ptr r 0,.bool fixed] H (RpE H r L (16-k) (zbf fixed k t) (fun l=>.sl .no 2 (cDs l))):=by
 refine yD (ACalls.goO (R:=fun v H'=>zbb H r L (16-k) (zbf fixed k t) (fun l=>.sl .no 2 (cDs l)) v.strip H') (RP:=fun v H'=>zbt (zbf fixed k t) v H') ir196 ck196 (Al4 _) fun KP Q hQ hP=>?_)
 have hll:L.length≤zk:=Nat.le_trans (Zp L) hl
 have hll2:=hll
 simp only[zk] at hll2
 have pan:∀(v:AV) (H1:Heap) (n:Int),v=yt n→(zbf fixed k t)=.error n→KP v H1:=fun v H1 n h1 h2=>hP v H1 H1 (Low.refl _) ⟨n,h2,h1⟩
 have fin:=KI.done hQ
 have K0:=KI.start hs hr
 obtain⟨R,hR⟩:∃ R,y9 [64] (zdi fixed k) (t.length+1) [] t=R:=⟨_,rfl⟩
 have hx:zbf fixed k t=R:=hR
 have hsl:=zaj hs
 simp(disch:=omega) only[ir196,go_sem]
 refine goL_st (fun x:Own×List DirD×TS=>[(5,.sl x.1 2 (cDs x.2.1))]) (fun x H'=>KO H r L x.2.2 (16-k) H' x.1 x.2.1.length 2∧(∃ m,x.2.2.length<m∧y9 [64] (zdi fixed k) m x.2.1 x.2.2=R)∧x.2.1.length+x.2.2.length≤L.length) (fun x=>x.2.2.length) (.nil,[],t) (by simp(disch:=omega) only[zcw,List.map_nil,go_sem]) ⟨⟨K0,rfl,nofun⟩,⟨_,Nat.lt_succ_self _,hR⟩,by simp only[Al3];omega⟩ ?_
 rintro⟨o,l,u⟩ H3 J ⟨K3,⟨m,hm,hR3⟩,hlen⟩ hJ
 simp only at K3 hm hR3 hlen
 obtain⟨m,rfl⟩:∃ j,m=j+1:=⟨m-1,by omega⟩
 obtain⟨p3,hp3,hr3⟩:=K3.here
 have hcl:=zc0 l
 simp(disch:=omega) only[go_sem]
 refine goK_ret (zbe (dp:=16-k) hp3 hll hr3 [64]) fun v H4 ⟨hv4,ha4⟩=>?_
 subst hv4
 cases hj:isP [64] u with
 | false =>
  rw[Zu,hj] at ha4
  have e1:R=.ok (l,u):=by rw[← hR3,y9,hj];rfl
  simp(disch:=omega) only[go_sem]
  refine fin _ _ [.sl o 2 (cDs l)] l u (by simp(disch:=omega) only[ir196,resvs,resv,go_sem]) (by rw[hx,e1]) (K3.toKI.call (by simpa using ha4)) ?_
  simp[tupOf,AV.strip,AV.strip1,zcw,zf4]
 | true =>
  rw[Zu,hj,if_pos rfl] at ha4
  have hlt0:=zcW hj
  have K4:=K3.call ha4
  obtain⟨p4,hp4,hr4⟩:=K4.here
  rw[y9,hj,if_pos rfl] at hR3
  simp(disch:=omega) only[go_sem]
  refine goK_both (zdq (dp:=16-k) hp4 hll hr4) (fun v H5 ⟨nm,t5,e5,hv5,ha5⟩=>?_) fun v H5 ⟨n5,e5,hv5⟩=>pan v H5 n5 hv5 (by rw[hx,← hR3,zdi,e5];rfl)
  subst hv5
  have K5:=K4.call ha5
  obtain⟨p5,hp5,hr5⟩:=K5.here
  simp(disch:=omega) only[go_sem]
  refine goK_both (zlh hk hp5 hl hr5) (fun v H6 ⟨a,t6,e6,hv6,ha6⟩=>?_) fun v H6 ⟨n6,e6,hv6⟩=>pan v H6 n6 hv6 (by rw[hx,← hR3,zdi,e5,zl,e6];rfl)
  subst hv6
  have K6:=K5.call ha6
  have e7:zdi fixed k u.tail=.ok (⟨nm,a⟩,t6):=by rw[zdi,e5,zl,e6];rfl
  rw[e7,zl] at hR3
  have hlt:=(zaM fixed k).lt (by decide) _ _ _ e7
  simp(disch:=omega) only[zh,zf,zc,zg,ze,zb,zm,go_sem]
  refine goP_ownS (by rw[hcl];exact K6.own) (by simp only[hcl,Al2,Al3];omega) (by simp only[hcl,Al2,Al3,maxLen];omega) fun o7 H7 hs7=>?_
  have K7:=K6.app (by simpa[hcl] using hs7)
  simp(disch:=omega) only[zh,zf,zc,zg,ze,zb,zm,go_sem]
  refine goJ (hJ (o7,l++[⟨nm,a⟩],t6) _ (by simp only;omega) ⟨by simpa using K7,⟨m,by simp only;omega,hR3⟩,by simp only[Al5,Al2,Al3];omega⟩) (by simp(disch:=omega) only[zcw,cD,List.map_append,List.map_cons,List.map_nil,go_sem])
def poc (L:TS) (s:St):AObj:=.cells [.sl .no 2 (cKs L),.int .i64 (s.i:Int),.int .i64 s.dp,.int .i64 s.e]
abbrev PQ (H:Heap) (r:Nat) (L:TS) (x:AV) (s:St):AEnd→Heap→Prop:=fun e H'=>∃ v,e=.ret v∧(v=x∧H'=H.upd r (poc L s))
structure KB (H:Heap) (r:Nat) (y:AObj) (H1:Heap):Prop where
 keep:∀ c x,c≠r→H c=some x→H1 c=some x
 here:H1 r=some y
 hr:∃ x,H r=some x
section
variable {H H1 H2:Heap} {r b:Nat} {y:AObj}
theorem KB.start (hr:H r=some y):KB H r y H:=⟨fun _ _ _ h=>h,hr,⟨_,hr⟩⟩
theorem KB.call (h:KB H r y H1) (z:AObj):KB H r z (H1.upd r z):=⟨fun c x hc hx=>by rw[upd_ne hc];exact h.keep c x hc hx,upd_same ..,h.hr⟩
theorem KB.ne (h:KB H r y H1) (hb:H b=.none):r≠b:=fun e=>by
 subst e;obtain⟨x,hx⟩:=h.hr;rw[hb] at hx;cases hx
theorem KB.none (h:KB H r y H1) (hb:H1 b=.none):H b=.none:=by
 cases hx:H b with
 | none=>rfl
 | some x =>
  by_cases e:b=r
  ·subst e;have h2:=h.here;rw[hb] at h2;cases h2
  ·have:=h.keep b x e hx;rw[hb] at this;cases this
theorem KB.box (h:KB H r y H1) (hb:H b=.none) (x:AObj):KB H r y (H1.upd b x) :=
 ⟨fun c z hc hz=>by rw[upd_ne (fun e=>by subst e;rw[hb] at hz;cases hz)];exact h.keep c z hc hz,by rw[upd_ne (h.ne hb)];exact h.here,h.hr⟩
theorem KB.low (h:KB H r y H1):Low (H.upd r y) H1:=Low.of_sub fun c x hc=>by
 by_cases e:c=r
 ·subst e;rw[upd_same] at hc;rw[← hc];exact h.here
 ·rw[upd_ne e] at hc;exact h.keep c x e hc
structure KBO (H:Heap) (r:Nat) (y:AObj) (H1:Heap) (o:Own) (n sz:Nat):Prop extends KB H r y H1 where
 own:Owned H1 o n sz
 tip:∀ b d,o=.tip b d→H b=.none
variable {o o':Own} {n n' sz:Nat} {cs cs':List AV}
theorem KBO.call {L:TS} {u s:St} (h:KBO H r (poc L u) H1 o n sz):KBO H r (poc L s) (H1.upd r (poc L s)) o n sz :=
 ⟨h.toKB.call _,yC h.own (show H1 r=some (.cells _) from h.here),h.tip⟩
theorem KBO.box (h:KBO H r y H1 o n sz) (hb:H b=.none) (h1:H1 b=some (.cells cs)):KBO H r y (H1.upd b (.cells cs')) o n sz :=
 ⟨h.toKB.box hb _,yC h.own h1,h.tip⟩
theorem KBO.app {L:TS} {u:St} (h:KBO H r (poc L u) H1 o n sz) (hs:OwnS H1 o H2 o' n' sz):KBO H r (poc L u) H2 o' n' sz:=by
 refine⟨⟨fun c x hc hx=>hs.kept c x (h.keep c x hc hx) fun d e=>?_,zv h.own (show H1 r=some (.cells _) from h.here) hs.kept,h.hr⟩,hs.own,fun b d e=>?_⟩
 ·have:=h.tip c d e;rw[hx] at this;cases this
 ·rcases hs.new b d e with h2|⟨d0,e2⟩
  ·exact h.toKB.none h2
  ·exact h.tip b d0 e2
theorem KBO.new (h:KBO H r y H1 o n sz) (hb:H1 b=.none) (x:AObj):KBO H r y (H1.upd b x) o n sz:=⟨h.toKB.box (h.toKB.none hb) x,h.own.upd hb,h.tip⟩
theorem KBO.stay (h:KBO H r y H1 o n sz) (hs:OwnS H1 o H2 o' n' sz) (hb:H1 b=some (.cells cs)):H2 b=some (.cells cs) :=
 zv h.own hb hs.kept
theorem KB.done {x:AV} {Q:AExit→Env→Heap→Prop} {res:List ARes} (hQ:∀ e ρ H1 H2 vs,(∀ i,e≠.exit i)→resvs ρ H1 res=some vs→Low H2 H1→((tupOf vs).strip=x∧H2=H.upd r y)→Q e ρ H1)
  (ρ1:Env) (H1:Heap) (vs:List AV) (h1:resvs ρ1 H1 res=some vs) (h3:KB H r y H1) (h4:(tupOf vs).strip=x):Q .ret ρ1 H1 :=
 hQ .ret ρ1 H1 (H.upd r y) vs nofun h1 h3.low ⟨h4,rfl⟩
end
theorem zi2 {H:Heap} {r:Nat} {x:AObj} (h:H r=some x):H.upd r x=H:=by
 funext c;by_cases e:c=r
 ·subst e;simp[Heap.upd,h]
 ·simp[Heap.upd,e]
theorem KB.step {H H1 H2:Heap} {r:Nat} {y z:AObj} (h:KB H r y H1) (e:H2=H1.upd r z):KB H r z H2:=e▸h.call z
theorem KBO.step {H H1 H2:Heap} {r:Nat} {L:TS} {u s:St} {o:Own} {n sz:Nat} (h:KBO H r (poc L u) H1 o n sz) (e:H2=H1.upd r (poc L s)):KBO H r (poc L s) H2 o n sz:=e▸h.call
theorem oth {H1 H2:Heap} {r b:Nat} {z:AObj} {x:Option AObj} (e:H2=H1.upd r z) (hb:r≠b) (g:H1 b=x):H2 b=x:=by rw[e,upd_ne (Ne.symm hb)];exact g
def mS (L:TS) (s:St):Nat:=if s.e=0 then (L.drop s.i).length+1 else 0
theorem zek (L:TS) (s:St):mS L s≤L.length+1:=by unfold mS;split<;>simp
theorem zfE {L:TS} {s:St} (h:(s.hd L).k≠0):s.e=0∧s.i<L.length:=by
 unfold St.hd at h
 split at h
 ·rename_i h0
  refine⟨h0,Nat.lt_of_not_le fun hle=>h ?_⟩
  rw[List.drop_eq_nil_of_le hle];rfl
 ·exact absurd rfl h
theorem zgT {L:TS} {m:List UInt8} {s:St} (h:isS L m s=true):(s.hd L).k=1:=by
 simp only[isS,Al0,zu] at h;exact h.1
theorem zb5 {α:Type} {L:TS} {f:TS→PR α} {D:Int} {fS:St→α×St} (hf:SimS L f D fS) (hlt:∀ t a t',f t=.ok (a,t')→t'.length<t.length) {s:St} (hd:s.e=0→s.dp=D) :
  (s.e=0→mS L (fS s).2<mS L s)∧((fS s).2.e=0→(fS s).2.dp=D):=by
 obtain⟨i,d,e⟩:=s
 simp only at hd
 by_cases he:e=0
 ·subst he
  obtain rfl:=hd rfl
  have hr:=hf.rel i
  cases hx:f (L.drop i) with
  | error n =>
   rw[hx] at hr
   refine⟨fun _=>?_,fun h=>absurd h (by rw[hr.2];exact hr.1)⟩
   have:¬ ((fS ⟨i,d,0⟩).2.e=0):=by rw[hr.2];exact hr.1
   simp[mS,this]
  | ok y =>
   obtain⟨a,t'⟩:=y
   rw[hx] at hr
   obtain⟨i',h1,h2⟩:=hr
   have:=hlt _ _ _ hx
   rw[h2]
   refine⟨fun _=>?_,fun _=>rfl⟩
   rw[h1] at this
   simp only[mS,if_true];omega
 ·have:=hf.bad ⟨i,d,e⟩ he
  refine⟨fun h=>absurd h he,fun h=>?_⟩
  rw[this] at h;exact absurd h he
theorem zc9 {α:Type} {L:TS} {f:TS→PR α} {D:Int} {fS:St→α×St} (hf:SimS L f D fS) {s:St} (hd:s.e=0→s.dp=D):(fS s).2.e=0→(fS s).2.dp=D:=by
 obtain⟨i,d,e⟩:=s
 simp only at hd
 by_cases he:e=0
 ·subst he
  obtain rfl:=hd rfl
  have hr:=hf.rel i
  cases hx:f (L.drop i) with
  | error n=>rw[hx] at hr;exact fun h=>absurd h (by rw[hr.2];exact hr.1)
  | ok y =>
   obtain⟨a,t'⟩:=y
   rw[hx] at hr
   obtain⟨i',h1,h2⟩:=hr
   rw[h2];exact fun _=>rfl
 ·have:=hf.bad ⟨i,d,e⟩ he
  intro h
  rw[this] at h;exact absurd h he
structure LI {α:Type} (L:TS) (m:List UInt8) (one:Bool) (f:St→α×St) (D:Int) (R:List α×St) (l:List α) (u:St):Prop where
 dp:u.e=0→u.dp=D
 eq:∃ k,mS L u<k∧zO L m one f k l u=R
 len:l.length+mS L u≤L.length+1
abbrev zkH {α:Type} (L:TS) (m:List UInt8) (one:Bool) (l:List α) (u:St):Prop:=u.e=0∧((one=true∧l.length=0)∨isS L m u=false)
section
variable {α:Type} {L:TS} {m:List UInt8} {one:Bool} {f:St→α×St} {D:Int} {R:List α×St} {l:List α} {u:St}
theorem LI.start (h:u.e=0→u.dp=D) (hR:zO L m one f (L.length+2) [] u=R):LI L m one f D R [] u :=
 ⟨h,⟨_,by have:=zek L u;omega,hR⟩,by have:=zek L u;simpa using this⟩
theorem LI.stop (h:LI L m one f D R l u) (hc:¬ zkH L m one l u):R=(l,u):=by
 obtain⟨k,hk,hR⟩:=h.eq
 cases k with
 | zero=>omega
 | succ k=>rw[← hR,zO,if_neg hc]
theorem LI.next {f0:TS→PR α} (h:LI L m one f D R l u) (hc:zkH L m one l u) (hf:SimS L f0 D f) (hlt:∀ t a t',f0 t=.ok (a,t')→t'.length<t.length) :
  LI L m one f D R (l++[(f u).1]) (f u).2∧mS L (f u).2<mS L u∧l.length<L.length+1:=by
 obtain⟨p1,p2⟩:=zb5 hf hlt h.dp
 have p1:=p1 hc.1
 have hl:=h.len
 obtain⟨k,hk,hR⟩:=h.eq
 cases k with
 | zero=>omega
 | succ k =>
  rw[zO,if_pos hc] at hR
  exact⟨⟨p2,⟨k,by omega,hR⟩,by simp only[Al5,List.length_singleton];omega⟩,p1,by omega⟩
structure WI (L:TS) (m:List UInt8) (f:St→α×St) (D:Int) (R:List α×St) (l:List α) (u:St):Prop where
 dp:u.e=0→u.dp=D
 eq:∃ k,mS L u<k∧yQ L m f k l u=R
 len:l.length+mS L u≤L.length+1
theorem WI.start (h:u.e=0→u.dp=D) (hR:yQ L m f (L.length+2) [] u=R):WI L m f D R [] u :=
 ⟨h,⟨_,by have:=zek L u;omega,hR⟩,by have:=zek L u;simpa using this⟩
theorem WI.stop (h:WI L m f D R l u) (hc:isS L m u=false):R=(l,u):=by
 obtain⟨k,hk,hR⟩:=h.eq
 cases k with
 | zero=>omega
 | succ k=>rw[← hR,yQ,hc];rfl
theorem zbi (h:isS L m u=true):zd L m u=stepS u:=by simp[zd,h]
theorem WI.next {f0:TS→PR α} (h:WI L m f D R l u) (hc:isS L m u=true) (hf:SimS L f0 D f) (hlt:∀ t a t',f0 t=.ok (a,t')→t'.length<t.length) :
  WI L m f D R (l++[(f (zd L m u)).1]) (f (zd L m u)).2∧mS L (f (zd L m u)).2<mS L u∧l.length<L.length+1:=by
 obtain⟨h0,hi⟩:=zfE (L:=L) (s:=u) (by rw[zgT hc];decide)
 have e1:=zbi hc
 have hm:mS L (zd L m u)<mS L u:=by
  rw[e1];simp only[mS,stepS,h0,if_true,zU];omega
 obtain⟨p1,p2⟩:=zb5 hf hlt (s:=zd L m u) (by rw[e1];exact h.dp)
 have p1:=p1 (by rw[e1];exact h0)
 have hl:=h.len
 obtain⟨k,hk,hR⟩:=h.eq
 cases k with
 | zero=>omega
 | succ k =>
  rw[yQ,hc,if_pos rfl] at hR
  exact⟨⟨p2,⟨k,by omega,hR⟩,by simp only[Al5,List.length_singleton];omega⟩,by omega,by omega⟩
end
section
variable {H:Heap} {r:Nat} {L:TS} {s:St}
theorem Yo (hr:H r=some (poc L s)) (n:Int):ACalls Tryz.prog 50 [.ptr r 0,.int .i64 n] H (PQ H r L (.tup []) (yc n s)):=by
 refine ACalls.go ir50 ck50 (Al4 _) fun KP Q hQ=>?_
 have hr':=hr
 simp only[poc] at hr'
 by_cases he:s.e=0
 ·simp(disch:=omega) only[ir50,hr',he,go_sem]
  exact hQ _ _ _ _ [] nofun rfl (Low.refl _) ⟨rfl,by simp[yc,he,poc]⟩
 ·simp(disch:=omega) only[ir50,hr',he,go_sem]
  exact hQ _ _ _ H [] nofun rfl (Low.refl _) ⟨rfl,by rw[YV he];exact(zi2 hr).symm⟩
theorem zeM (hl:wT L≤zk) (hr:H r=some (poc L s)):ACalls Tryz.prog 45 [.ptr r 0] H (fun e H'=>∃ v,e=.ret v∧(v=zw (s.hd L)∧H'=H)):=by
 refine ACalls.go ir45 ck45 (Al4 _) fun KP Q hQ=>?_
 have hr':=hr
 simp only[poc] at hr'
 have hcl:=za5 L
 simp(disch:=omega) only[ir45,go_sem]
 refine goA_intro fun b2 hb2=>?_
 have n2:r≠b2:=fun e=>by subst e;rw[hb2] at hr;cases hr
 have n2s:=Ne.symm n2
 have low:∀ x,Low H (H.upd b2 x):=fun x=>(Low.refl _).upd hb2
 by_cases he:s.e=0
 ·by_cases hi:L.length≤s.i
  ·have h1:((L.length:Int)≤(s.i:Int))=True:=eq_true (by omega)
   have e:s.hd L=⟨0,[]⟩:=by unfold St.hd;rw[if_pos he,List.drop_eq_nil_of_le hi];rfl
   simp(disch:=omega) only[hr',n2,n2s,he,hcl,h1,go_sem]
   exact hQ _ _ _ H [.agg [.int .i64 0,.str []]] nofun (by simp(disch:=omega) only[ir45,resvs,resv,go_sem]) (by simpa using low _) ⟨(by simp[tupOf,envOf,AV.strip,AV.strip1,e,zw]),rfl⟩
  ·have h1:¬ ((L.length:Int)≤(s.i:Int)):=by omega
   have h2:((s.i:Int)<(L.length:Int))=True:=eq_true (by omega)
   obtain⟨x,hx⟩:∃ x,L[s.i]?=some x:=⟨_,Al9 (by omega)⟩
   have hg:(cKs L).getD s.i []=[.int .i64 x.k,.str x.s]:=by simp[cKs,List.getD,hx,cK]
   have e:s.hd L=x:=by
    have e2:L.drop s.i=x::L.drop (s.i+1):=by rw[List.drop_eq_getElem_cons (by omega)];rw[Al9 (by omega)] at hx;cases hx;rfl
    unfold St.hd;rw[if_pos he,e2];rfl
   simp(disch:=omega) only[hr',n2,n2s,he,hcl,h1,h2,hg,go_sem]
   exact hQ _ _ _ H [.agg [.int .i64 x.k,.str x.s]] nofun (by simp(disch:=omega) only[ir45,resvs,resv,go_sem]) (by simpa using low _) ⟨(by simp[tupOf,envOf,AV.strip,AV.strip1,e,zw]),rfl⟩
 ·have e:s.hd L=⟨0,[]⟩:=zco he
  simp(disch:=omega) only[hr',n2,n2s,he,go_sem]
  exact hQ _ _ _ H [.agg [.int .i64 0,.str []]] nofun (by simp(disch:=omega) only[ir45,resvs,resv,go_sem]) (by simpa using low _) ⟨(by simp[tupOf,envOf,AV.strip,AV.strip1,e,zw]),rfl⟩
theorem Z9 (hl:wT L≤zk) (hr:H r=some (poc L s)) (m:List UInt8):ACalls Tryz.prog 92 [.ptr r 0,.str m] H (fun e H'=>∃ v,e=.ret v∧(v=.bool (isS L m s)∧H'=H)):=by
 refine ACalls.go ir92 ck92 (Al4 _) fun KP Q hQ=>?_
 simp(disch:=omega) only[ir92,go_sem]
 refine goK_ret (zeM hl hr) fun v H1 ⟨hv,hH⟩=>?_
 subst hv;subst hH
 simp(disch:=omega) only[zw,go_sem]
 refine goA_intro fun b5 hb5=>?_
 by_cases hk:(s.hd L).k=1
 ·simp(disch:=omega) only[hk,go_sem]
  exact hQ _ _ _ H1 [_] nofun rfl ((Low.refl _).upd hb5) ⟨(by simp[tupOf,envOf,AV.strip,AV.strip1,isS,hk]),rfl⟩
 ·simp(disch:=omega) only[hk,go_sem]
  exact hQ _ _ _ H1 [_] nofun rfl ((Low.refl _).upd hb5) ⟨(by simp[tupOf,envOf,AV.strip,AV.strip1,isS,hk]),rfl⟩
theorem ZT (hl:wT L≤zk) (hr:H r=some (poc L s)) (m:List UInt8):ACalls Tryz.prog 48 [.ptr r 0,.str m] H (fun e H'=>∃ v,e=.ret v∧(v=.bool (zG L m s)∧H'=H)):=by
 refine ACalls.go ir48 ck48 (Al4 _) fun KP Q hQ=>?_
 simp(disch:=omega) only[ir48,go_sem]
 refine goK_ret (zeM hl hr) fun v H1 ⟨hv,hH⟩=>?_
 subst hv;subst hH
 simp(disch:=omega) only[zw,go_sem]
 refine goA_intro fun b5 hb5=>?_
 by_cases hk:(s.hd L).k=2
 ·simp(disch:=omega) only[hk,go_sem]
  exact hQ _ _ _ H1 [_] nofun rfl ((Low.refl _).upd hb5) ⟨(by simp[tupOf,envOf,AV.strip,AV.strip1,zG,hk]),rfl⟩
 ·simp(disch:=omega) only[hk,go_sem]
  exact hQ _ _ _ H1 [_] nofun rfl ((Low.refl _).upd hb5) ⟨(by simp[tupOf,envOf,AV.strip,AV.strip1,zG,hk]),rfl⟩
theorem zq (hl:wT L≤zk) (hr:H r=some (poc L s)) (m:List UInt8):ACalls Tryz.prog 93 [.ptr r 0,.str m] H (PQ H r L (.tup []) (zd L m s)):=by
 refine ACalls.go ir93 ck93 (Al4 _) fun KP Q hQ=>?_
 have hr':=hr
 simp only[poc] at hr'
 have hll:L.length≤zk:=Nat.le_trans (Zp L) hl
 simp only[zk] at hll
 simp(disch:=omega) only[ir93,go_sem]
 refine goK_ret (Z9 hl hr m) fun v H1 ⟨hv,hH⟩=>?_
 subst hv;subst hH
 cases hi:isS L m s with
 | true =>
  have hk:=(zfE (L:=L) (s:=s) (by rw[zgT hi];decide)).2
  simp(disch:=omega) only[hr',wrap64,go_sem]
  exact hQ _ _ _ _ [] nofun rfl (Low.refl _) ⟨rfl,by simp[zd,hi,stepS,poc]⟩
 | false =>
  simp(disch:=omega) only[go_sem]
  refine goK_ret (Yo hr 2) fun v H1 ⟨hv,hH⟩=>?_
  subst hv;subst hH
  simp(disch:=omega) only[go_sem]
  exact hQ _ _ _ _ [] nofun rfl (Low.refl _) ⟨rfl,by simp[zd,hi]⟩
theorem zjt (hl:wT L≤zk) (hr:H r=some (poc L s)) (m:List UInt8):ACalls Tryz.prog 94 [.ptr r 0,.str m] H (PQ H r L (.tup []) (yr L m s)):=by
 refine ACalls.go ir94 ck94 (Al4 _) fun KP Q hQ=>?_
 have hr':=hr
 simp only[poc] at hr'
 simp(disch:=omega) only[ir94,go_sem]
 refine goK_ret (Z9 hl hr m) fun v H1 ⟨hv,hH⟩=>?_
 subst hv;subst hH
 by_cases hc:isS L m s=true∧16≤s.dp
 ·obtain⟨hi,h16⟩:=hc
  rw[hi]
  simp(disch:=omega) only[hr',h16,go_sem]
  refine goK_ret (Yo hr 4) fun v H1 ⟨hv,hH⟩=>?_
  subst hv;subst hH
  simp(disch:=omega) only[go_sem]
  exact hQ _ _ _ _ [] nofun rfl (Low.refl _) ⟨rfl,by simp[yr,hi,h16]⟩
 have e:yr L m s=upS 1 (zd L m s):=by
  unfold yr
  rw[if_neg]
  intro h
  simp only[Al0,zu] at h
  exact hc h
 cases hi:isS L m s with
 | true =>
  have h16:¬ (16≤s.dp):=fun h=>hc ⟨hi,h⟩
  simp(disch:=omega) only[hr',h16,go_sem]
  refine goK_ret (zq hl hr m) fun v H1 ⟨hv,hH⟩=>?_
  subst hv
  have g1:H1 r=some (poc L (zd L m s)):=by rw[hH,upd_same]
  simp only[poc] at g1
  simp(disch:=omega) only[g1,go_sem]
  exact hQ _ _ _ _ [] nofun rfl (Low.refl _) ⟨rfl,by rw[hH,upd_upd,e];simp[upS,poc]⟩
 | false =>
  simp(disch:=omega) only[go_sem]
  refine goK_ret (zq hl hr m) fun v H1 ⟨hv,hH⟩=>?_
  subst hv
  have g1:H1 r=some (poc L (zd L m s)):=by rw[hH,upd_same]
  simp only[poc] at g1
  simp(disch:=omega) only[g1,go_sem]
  exact hQ _ _ _ _ [] nofun rfl (Low.refl _) ⟨rfl,by rw[hH,upd_upd,e];simp[upS,poc]⟩
theorem zcn (hl:wT L≤zk) (hr:H r=some (poc L s)) (m:List UInt8):ACalls Tryz.prog 95 [.ptr r 0,.str m] H (PQ H r L (.tup []) (Yt L m s)):=by
 refine ACalls.go ir95 ck95 (Al4 _) fun KP Q hQ=>?_
 simp(disch:=omega) only[ir95,go_sem]
 refine goK_ret (zq hl hr m) fun v H1 ⟨hv,hH⟩=>?_
 subst hv
 have g1:H1 r=some (poc L (zd L m s)):=by rw[hH,upd_same]
 simp only[poc] at g1
 simp(disch:=omega) only[g1,go_sem]
 exact hQ _ _ _ _ [] nofun rfl (Low.refl _) ⟨rfl,by rw[hH,upd_upd];simp[Yt,upS,poc,Int.sub_eq_add_neg]⟩
theorem zz (hl:wT L≤zk) (hr:H r=some (poc L s)):ACalls Tryz.prog 46 [.ptr r 0] H (PQ H r L (.str (za L s).1) (za L s).2):=by
 refine ACalls.go ir46 ck46 (Al4 _) fun KP Q hQ=>?_
 have hr':=hr
 simp only[poc] at hr'
 have hll:L.length≤zk:=Nat.le_trans (Zp L) hl
 simp only[zk] at hll
 have K0:=KB.start hr
 simp(disch:=omega) only[ir46,go_sem]
 refine goK_ret (zeM hl hr) fun v H1 ⟨hv,hH⟩=>?_
 subst hv;subst hH
 simp(disch:=omega) only[zw,go_sem]
 refine goA_intro fun b3 hb3=>?_
 have n3:=K0.ne hb3
 have n3s:=Ne.symm n3
 by_cases hk:(s.hd L).k=2
 ·have en:za L s=((s.hd L).s,stepS s):=by simp[za,hk]
  have ep:poc L (stepS s)=.cells [.sl .no 2 (cKs L),.int .i64 ((s.i:Int)+1),.int .i64 s.dp,.int .i64 s.e]:=by simp[poc,stepS]
  have hi:=(zfE (L:=L) (s:=s) (by rw[hk];decide)).2
  rw[en] at hQ
  have fin:=KB.done hQ
  simp(disch:=omega) only[hk,hr',n3,n3s,wrap64,go_sem]
  exact fin _ _ [.str (s.hd L).s] (by simp(disch:=omega) only[ir46,resvs,resv,go_sem]) (by rw[ep];exact(K0.box hb3 _).call _) (by simp[tupOf,envOf,AV.strip,AV.strip1])
 ·have en:za L s=([],yc 2 s):=by simp[za,hk]
  rw[en] at hQ
  have fin:=KB.done hQ
  simp(disch:=omega) only[hk,go_sem]
  refine goK_ret (Yo (K0.box hb3 _).here 2) fun v H2 ⟨hv,h2⟩=>?_
  subst hv
  simp(disch:=omega) only[go_sem]
  exact fin _ _ [.str []] (by simp(disch:=omega) only[ir46,resvs,resv,go_sem]) ((K0.box hb3 _).step h2) (by simp[tupOf,envOf,AV.strip,AV.strip1])
end
def zkS (L:TS) (r:Nat) (k:Nat):Prop:=∀ {H:Heap} {s:St},H r=some (poc L s)→ACalls Tryz.prog 39 [.ptr r 0,.int .i64 ((4-k:Nat):Int)] H (PQ H r L (.agg (cTy (yR L k s).1)) (yR L k s).2)
theorem zin {L:TS} {r:Nat} (hl:wT L≤zk) (k:Nat) (hk:k≤4) (ih:∀ n,k=n+1→zkS L r n):zkS L r k:=by
 intro H s hr
 refine ACalls.go ir39 ck39 (Al4 _) fun KP Q hQ=>?_
 have K0:=KB.start hr
 simp(disch:=omega) only[ir39,go_sem]
 refine goA_intro fun b4 hb4=>?_
 have n4:=K0.ne hb4
 simp(disch:=omega) only[go_sem]
 refine goA_intro fun b5 hb5=>?_
 have h54:b5≠b4:=fun e=>by subst e;rw[upd_same] at hb5;cases hb5
 have hb5H:H b5=none:=by rw[upd_ne h54] at hb5;exact hb5
 have n5:=K0.ne hb5H
 simp(disch:=omega) only[go_sem]
 obtain⟨H0,hH0⟩:∃ H0,H0=(H.upd b4 (.cells [.str [],.int .i64 0,.int .i64 0])).upd b5 (.cells [.str [],.int .i64 0,.int .i64 0]):=⟨_,rfl⟩
 have K2:KB H r (poc L s) H0:=by rw[hH0];exact(K0.box hb4 _).box hb5H _
 have g5:H0 b5=some (.cells [.str [],.int .i64 0,.int .i64 0]):=by rw[hH0,upd_same]
 have g4:H0 b4=some (.cells [.str [],.int .i64 0,.int .i64 0]):=by rw[hH0,upd_ne (Ne.symm h54),upd_same]
 try simp only[upd_upd]
 rw[← hH0]
 clear hH0
 refine goK_ret (Z9 hl K2.here [91]) fun v H1 ⟨hv,hH⟩=>?_
 subst hv;subst hH
 cases hi:isS L [91] s with
 | true =>
  cases k with
  | zero =>
   have e:yR L 0 s=(⟨[],0,0⟩,yc 4 s):=by simp[yR,hi]
   have h44:((4:Int)≤((4-0:Nat):Int))=True:=eq_true (by decide)
   rw[e] at hQ
   have fin:=KB.done hQ
   simp(disch:=omega) only[h44,go_sem]
   refine goK_ret (Yo K2.here 4) fun v H2 ⟨hv,h2⟩=>?_
   subst hv
   have K3:=K2.step h2
   have g25:=oth h2 n5 g5
   have g24:=oth h2 n4 g4
   simp(disch:=omega) only[g25,g24,go_sem]
   exact fin _ _ [.agg [.str [],.int .i64 0,.int .i64 0]] (by simp(disch:=omega) only[ir39,resvs,resv,go_sem]) (K3.box hb4 _) (by simp[tupOf,envOf,AV.strip,AV.strip1,cTy])
  | succ n =>
   have e:yR L (n+1) s=Zr L (yL (yR L n (zd L [91] s)).1) (zd L [93] (yR L n (zd L [91] s)).2):=by simp[yR,hi]
   have h44:¬ ((4:Int)≤((4-(n+1):Nat):Int)):=by omega
   have hw:IntKind.wrap .i64 (((4-(n+1):Nat):Int)+1)=((4-n:Nat):Int):=by rw[wrap64 (by omega) (by omega)];omega
   simp(disch:=omega) only[h44,go_sem]
   refine goK_ret (zq hl K2.here [91]) fun v H2 ⟨hv,h2⟩=>?_
   subst hv
   have K3:=K2.step h2
   have g25:=oth h2 n5 g5
   have g24:=oth h2 n4 g4
   simp(disch:=omega) only[hw,go_sem]
   refine goK_ret (ih n rfl K3.here) fun v H3 ⟨hv,h3⟩=>?_
   subst hv
   have K4:=K3.step h3
   have g35:=oth h3 n5 g25
   have g34:=oth h3 n4 g24
   generalize (yR L n (zd L [91] s)).2=s1 at *
   generalize (yR L n (zd L [91] s)).1=ty at *
   simp(disch:=omega) only[g35,cTy,go_sem]
   refine goK_ret (zq hl (K4.box hb5H _).here [93]) fun v H4 ⟨hv,h4⟩=>?_
   subst hv
   have K5:=(K4.box hb5H _).step h4
   have g45:=oth h4 n5 (upd_same ..)
   have g44:=oth h4 n4 ((upd_ne (Ne.symm h54)).trans g34)
   have hs0:¬ ((1:Int)<0):=by decide
   simp(disch:=omega) only[g45,hs0,go_sem]
   have KU:=K5.box hb5H (.cells [.str ty.nm,.int .i64 (IntKind.wrap .i64 (ty.lists+1)),.int .i64 (zhA ty.musts)])
   have GU5:(H4.upd b5 (.cells [.str ty.nm,.int .i64 (IntKind.wrap .i64 (ty.lists+1)),.int .i64 (zhA ty.musts)])) b5=_:=upd_same ..
   have GU4:(H4.upd b5 (.cells [.str ty.nm,.int .i64 (IntKind.wrap .i64 (ty.lists+1)),.int .i64 (zhA ty.musts)])) b4=_:=(upd_ne (Ne.symm h54)).trans g44
   refine goK_ret (Z9 hl KU.here [33]) fun v HX ⟨hvX,hHX⟩=>?_
   subst hvX;subst hHX
   cases hb:isS L [33] (zd L [93] s1) with
   | false =>
    have e2:Zr L (yL ty) (zd L [93] s1)=((yL ty),(zd L [93] s1)):=by simp[Zr,hb]
    rw[e2] at e
    rw[e] at hQ
    have fin:=KB.done hQ
    simp(disch:=omega) only[g44,h54,Ne.symm h54,go_sem]
    exact fin _ _ [.agg (cTy (yL ty))] (by simp(disch:=omega) only[ir39,resvs,resv,cTy,yL,go_sem]) (KU.box hb4 _) (by simp[tupOf,envOf,AV.strip,AV.strip1,cTy])
   | true =>
    have e2:Zr L (yL ty) (zd L [93] s1)=(⟨((yL ty)).nm,((yL ty)).lists,or1 ((yL ty)).musts⟩,zd L [33] (zd L [93] s1)):=by simp[Zr,hb]
    rw[e2] at e
    rw[e] at hQ
    have fin:=KB.done hQ
    simp(disch:=omega) only[go_sem]
    refine goK_ret (zq hl KU.here [33]) fun v HY ⟨hvY,hY⟩=>?_
    subst hvY
    have KY:=KU.step hY
    have gY4:=oth hY n4 GU4
    have gY5:=oth hY n5 GU5
    simp(disch:=omega) only[gY4,gY5,h54,Ne.symm h54,go_sem]
    exact fin _ _ [.agg (cTy ⟨((yL ty)).nm,((yL ty)).lists,or1 ((yL ty)).musts⟩)] (by simp(disch:=omega) only[ir39,resvs,resv,cTy,or1,yL,go_sem]) ((KY.box hb5H _).box hb4 _) (by simp[tupOf,envOf,AV.strip,AV.strip1,cTy])
 | false =>
  have e:yR L k s=Zr L ⟨(za L s).1,0,0⟩ (za L s).2:=by cases k<;>simp[yR,hi]
  simp(disch:=omega) only[go_sem]
  refine goK_ret (zz hl K2.here) fun v H2 ⟨hv,h2⟩=>?_
  subst hv
  have K3:=K2.step h2
  have g25:=oth h2 n5 g5
  have g24:=oth h2 n4 g4
  simp(disch:=omega) only[g25,go_sem]
  have KU:=K3.box hb5H (.cells [.str (za L s).1,.int .i64 0,.int .i64 0])
  have GU5:(H2.upd b5 (.cells [.str (za L s).1,.int .i64 0,.int .i64 0])) b5=_:=upd_same ..
  have GU4:(H2.upd b5 (.cells [.str (za L s).1,.int .i64 0,.int .i64 0])) b4=_:=(upd_ne (Ne.symm h54)).trans g24
  refine goK_ret (Z9 hl KU.here [33]) fun v HX ⟨hvX,hHX⟩=>?_
  subst hvX;subst hHX
  cases hb:isS L [33] (za L s).2 with
  | false =>
   have e2:Zr L (⟨(za L s).1,0,0⟩:TyD) (za L s).2=((⟨(za L s).1,0,0⟩:TyD),(za L s).2):=by simp[Zr,hb]
   rw[e2] at e
   rw[e] at hQ
   have fin:=KB.done hQ
   simp(disch:=omega) only[g24,h54,Ne.symm h54,go_sem]
   exact fin _ _ [.agg (cTy (⟨(za L s).1,0,0⟩:TyD))] (by simp(disch:=omega) only[ir39,resvs,resv,cTy,yL,go_sem]) (KU.box hb4 _) (by simp[tupOf,envOf,AV.strip,AV.strip1,cTy])
  | true =>
   have e2:Zr L (⟨(za L s).1,0,0⟩:TyD) (za L s).2=(⟨((⟨(za L s).1,0,0⟩:TyD)).nm,((⟨(za L s).1,0,0⟩:TyD)).lists,or1 ((⟨(za L s).1,0,0⟩:TyD)).musts⟩,zd L [33] (za L s).2):=by simp[Zr,hb]
   rw[e2] at e
   rw[e] at hQ
   have fin:=KB.done hQ
   simp(disch:=omega) only[go_sem]
   refine goK_ret (zq hl KU.here [33]) fun v HY ⟨hvY,hY⟩=>?_
   subst hvY
   have KY:=KU.step hY
   have gY4:=oth hY n4 GU4
   have gY5:=oth hY n5 GU5
   simp(disch:=omega) only[gY4,gY5,h54,Ne.symm h54,go_sem]
   exact fin _ _ [.agg (cTy ⟨((⟨(za L s).1,0,0⟩:TyD)).nm,((⟨(za L s).1,0,0⟩:TyD)).lists,or1 ((⟨(za L s).1,0,0⟩:TyD)).musts⟩)] (by simp(disch:=omega) only[ir39,resvs,resv,cTy,or1,yL,go_sem]) ((KY.box hb5H _).box hb4 _) (by simp[tupOf,envOf,AV.strip,AV.strip1,cTy])
theorem zg4 {L:TS} {r:Nat} (hl:wT L≤zk):∀ k,k≤4→zkS L r k
 | 0,h=>zin hl 0 h fun n e=>nomatch e
 | k+1,h=>zin hl (k+1) h fun n e=>by
  obtain rfl:n=k:=by omega
  exact zg4 hl _ (by omega)
def zjK (L:TS) (r:Nat) (fixed:Bool) (k:Nat):Prop:=∀ {H:Heap} {s:St},H r=some (poc L s)→(s.e=0→s.dp=16-(k:Int)) →
 ACalls Tryz.prog 35 [.ptr r 0,.bool fixed] H (PQ H r L (.agg (cV (Zf L fixed k s).1)) (Zf L fixed k s).2)
theorem yg {L:TS} {s:St} {D:Int} (h:s.e=0→s.dp=D):(za L s).2.e=0→(za L s).2.dp=D:=by
 unfold za yc stepS
 split
 ·exact h
 ·split
  ·intro e;simp at e
  ·exact h
theorem yK {L:TS} {m:List UInt8} {s:St} {D:Int} (h:s.e=0→s.dp=D):(zd L m s).e=0→(zd L m s).dp=D:=by
 unfold zd yc stepS
 split
 ·exact h
 ·split
  ·intro e;simp at e
  ·exact h
theorem zdv {L:TS} {H:Heap} {r:Nat} {s:St} {fixed:Bool} {k:Nat} (hl:wT L≤zk) (hv:zjK L r fixed k) (hr:H r=some (poc L s)) (hd:s.e=0→s.dp=16-(k:Int)) :
  ACalls Tryz.prog 96 [.ptr r 0,.bool fixed] H (PQ H r L (.agg (cM (Zk L (Zf L fixed k) s).1)) (Zk L (Zf L fixed k) s).2):=by
 refine ACalls.go ir96 ck96 (Al4 _) fun KP Q hQ=>?_
 have fin:=KB.done hQ
 have K0:=KB.start hr
 simp(disch:=omega) only[ir96,go_sem]
 refine goA_intro fun b4 hb4=>?_
 have n4:=K0.ne hb4
 simp(disch:=omega) only[go_sem]
 refine goK_ret (zz hl (K0.box hb4 _).here) fun v H1 ⟨hv1,h1⟩=>?_
 subst hv1
 have K1:=(K0.box hb4 _).step h1
 have g1:=oth h1 n4 (upd_same ..)
 simp(disch:=omega) only[go_sem]
 refine goA_intro fun b5 hb5=>?_
 have h54:b5≠b4:=fun e=>by subst e;rw[g1] at hb5;cases hb5
 have hb5H:H b5=none:=K1.none hb5
 have n5:=K0.ne hb5H
 simp(disch:=omega) only[go_sem]
 refine goK_ret (zq hl (K1.box hb5H _).here _) fun v H2 ⟨hv2,h2⟩=>?_
 subst hv2
 have K2:=(K1.box hb5H _).step h2
 have g25:=oth h2 n5 (upd_same ..)
 have g24:=oth h2 n4 ((upd_ne (Ne.symm h54)).trans g1)
 simp(disch:=omega) only[go_sem]
 refine goK_ret (hv K2.here (yK (yg hd))) fun v H3 ⟨hv3,h3⟩=>?_
 subst hv3
 have K3:=K2.step h3
 have g35:=oth h3 n5 g25
 have g34:=oth h3 n4 g24
 simp(disch:=omega) only[zh,zf,zc,zg,ze,zb,zm,g35,g34,h54,Ne.symm h54,go_sem]
 refine fin _ _ [.agg (.str (za L s).1::cV (Zf L fixed k (zd L [58] (za L s).2)).1)] (by simp(disch:=omega) only[zh,zf,zc,zg,ze,zb,zm,ir96,resvs,resv,go_sem]) ((K3.box hb5H _).box hb4 _) ?_
 simp[tupOf,AV.strip,AV.strip1,Zk,zm,Zd]
def zkU (L:TS) (fixed:Bool):Nat→St→Val×St
 | 0,s=>(.mk 6 0 [] [] [],Yt L [93] (yr L [91] s))
 | k+1,s=>ziF L (Zf L fixed k) (yr L [91] s)
def mpS (L:TS) (fixed:Bool):Nat→St→Val×St
 | 0,s=>(.mk 7 0 [] [] [],Yt L [125] (yr L [123] s))
 | k+1,s=>zla L (Zf L fixed k) (yr L [123] s)
theorem zj5 (L:TS) (fixed:Bool) (k:Nat) (s:St):Zf L fixed k s=if (s.hd L).k=3∨(s.hd L).k=4∨(s.hd L).k=5∨(s.hd L).k=2 then YW L s
  else if isS L [36] s&&!fixed then Yr L s
  else if isS L [91] s then zkU L fixed k s
  else if isS L [123] s then mpS L fixed k s
  else (zV,yc 2 s):=by cases k<;>rfl
theorem zlT (L:TS) (s:St):(s.hd L).s.length≤wT L:=by
 unfold St.hd
 split
 ·exact zlE (p:=L.take s.i) (List.take_append_drop ..)
 ·simp
abbrev zB5:List AV:=[.int .i64 0,.int .i64 0,.str [],.sl .nil 5 [],.sl .nil 6 []]
theorem zgQ {L:TS} {m:List UInt8} {s:St} {k:Nat} (hk:k≤16) (h:s.e=0→s.dp=16-(k:Int)):(yr L m s).e=0→∃ n,k=n+1∧(yr L m s).dp=16-(n:Int):=by
 intro he
 obtain⟨i,d,e⟩:=s
 simp only at h
 by_cases h0:e=0
 ·subst h0
  obtain rfl:=h rfl
  cases hp:isP m (L.drop i) with
  | false=>rw[zfq hp] at he;exact absurd he (by decide)
  | true =>
   cases k with
   | zero=>exact absurd he zia
   | succ n =>
    refine⟨n,rfl,?_⟩
    rw[zds hp (by omega) (by omega)]
    simp only;omega
 ·rw[zh5 h0] at he;exact absurd he h0
set_option maxHeartbeats 1000000 in
theorem zfT {L:TS} {r:Nat} (hl:wT L≤zk) (hn:∀ x∈L,yI x) (fixed:Bool) (k:Nat) (hk:k≤16) (ih:∀ n,k=n+1→zjK L r fixed n):zjK L r fixed k:=by
 intro H s hr hd
 refine ACalls.go ir35 ck35 (Al4 _) fun KP Q hQ=>?_
 have hll:L.length≤zk:=Nat.le_trans (Zp L) hl
 simp only[zk] at hll
 have hsl:=zlT L s
 have hlP:=hl
 simp only[zk] at hlP
 have K0:=KB.start hr
 have ev:=zj5 L fixed k s
 simp(disch:=omega) only[ir35,go_sem]
 refine goA_intro fun b4 hb4=>?_
 have n4:=K0.ne hb4
 have n4s:=Ne.symm n4
 simp(disch:=omega) only[go_sem]
 refine goK_ret (zeM hl (K0.box hb4 _).here) fun v H1 ⟨hv,hH⟩=>?_
 subst hv;subst hH
 simp(disch:=omega) only[zw,go_sem]
 refine goA_intro fun b5 hb5=>?_
 have h54:b5≠b4:=fun e=>by subst e;rw[upd_same] at hb5;cases hb5
 have hb5H:H b5=none:=by rw[upd_ne h54] at hb5;exact hb5
 have n5:=K0.ne hb5H
 have n5s:=Ne.symm n5
 obtain⟨H0,hH0⟩:∃ H0,H0=(H.upd b4 (.cells zB5)).upd b5 (.cells [.int .i64 (s.hd L).k,.str (s.hd L).s]):=⟨_,rfl⟩
 have K2:KB H r (poc L s) H0:=by rw[hH0];exact(K0.box hb4 _).box hb5H _
 have g5:H0 b5=some (.cells [.int .i64 (s.hd L).k,.str (s.hd L).s]):=by rw[hH0,upd_same]
 have g4:H0 b4=some (.cells zB5):=by rw[hH0,upd_ne (Ne.symm h54),upd_same]
 simp(disch:=omega) only[go_sem]
 try simp only[upd_upd]
 try rw[← hH0]
 clear hH0
 have gr:=K2.here
 simp only[poc] at gr
 simp only[zB5] at g4
 have ep:poc L (stepS s)=.cells [.sl .no 2 (cKs L),.int .i64 ((s.i:Int)+1),.int .i64 s.dp,.int .i64 s.e]:=by simp[poc,stepS]
 by_cases hkl:(s.hd L).k=3∨(s.hd L).k=4∨(s.hd L).k=5∨(s.hd L).k=2
 ·rw[if_pos hkl] at ev
  have hi:=(zfE (L:=L) (s:=s) (by omega)).2
  have KE:=K2.call (poc L (stepS s))
  rw[ep] at KE
  by_cases hk3:(s.hd L).k=3
  ·have el:YW L s=(zaz (s.hd L),stepS s):=by simp[YW,hk3]
   rw[ev,el] at hQ
   have fin:=KB.done hQ
   rw[ep] at fin
   have hk3':=eq_true hk3
   simp(disch:=omega) only[hk3',g5,gr,wrap64,n5,n5s,n4,n4s,go_sem]
   refine goK_pure (zk0 (s.hd L).s (by simp only[Lim];omega)) ?_
   cases h2:(zbc (s.hd L).s).2 with
   | true =>
    have e3:zaz (s.hd L)=.mk 2 (zbc (s.hd L).s).1 [] [] []:=by simp[zaz,hk3,h2]
    rw[e3] at fin
    simp(disch:=omega) only[go_sem]
    refine goK_pure (zmD _) ?_
    simp(disch:=omega) only[zh,zf,zc,zg,ze,zb,zm,g4,n4,n4s,go_sem]
    refine fin _ _ [.agg (cV (.mk 2 (zbc (s.hd L).s).1 [] [] []))] (by simp(disch:=omega) only[zh,zf,zc,zg,ze,zb,zm,ir35,resvs,resv,cV,cVs,cMs,go_sem]) (KE.box hb4 _) ?_
    simp[tupOf,AV.strip,Zd]
   | false =>
    have e3:zaz (s.hd L)=.mk 3 0 (s.hd L).s [] []:=by simp[zaz,h2]
    rw[e3] at fin
    simp(disch:=omega) only[g4,g5,n4,n4s,n5,n5s,go_sem]
    refine fin _ _ [.agg [.int .i64 3,.int .i64 0,.str (s.hd L).s,.sl .nil 5 [],.sl .nil 6 []]] (by simp(disch:=omega) only[ir35,resvs,resv,go_sem]) (KE.box hb4 _) ?_
    simp[tupOf,AV.strip,AV.strip1,cV,cVs,cMs,Yr,zV]
  by_cases hk4:(s.hd L).k=4
  ·have el:YW L s=(zaz (s.hd L),stepS s):=by simp[YW,hk4]
   have e3:zaz (s.hd L)=.mk 3 0 (s.hd L).s [] []:=by simp[zaz,hk4]
   rw[ev,el,e3] at hQ
   have fin:=KB.done hQ
   rw[ep] at fin
   have hk4':=eq_true hk4
   simp(disch:=omega) only[hk3,hk4',g5,gr,wrap64,n5,n5s,n4,n4s,go_sem]
   simp(disch:=omega) only[g4,g5,n4,n4s,n5,n5s,go_sem]
   refine fin _ _ [.agg [.int .i64 3,.int .i64 0,.str (s.hd L).s,.sl .nil 5 [],.sl .nil 6 []]] (by simp(disch:=omega) only[ir35,resvs,resv,go_sem]) (KE.box hb4 _) ?_
   simp[tupOf,AV.strip,AV.strip1,cV,cVs,cMs,Yr,zV]
  by_cases hk5:(s.hd L).k=5
  ·have el:YW L s=(.mk 4 0 (s.hd L).s [] [],stepS s):=by simp[YW,hk5]
   rw[ev,el] at hQ
   have fin:=KB.done hQ
   rw[ep] at fin
   have hk5':=eq_true hk5
   simp(disch:=omega) only[hk3,hk4,hk5',g5,gr,wrap64,n5,n5s,n4,n4s,go_sem]
   refine goK_pure (zma _) ?_
   simp(disch:=omega) only[zh,zf,zc,zg,ze,zb,zm,g4,n4,n4s,go_sem]
   refine fin _ _ [.agg (cV (.mk 4 0 (s.hd L).s [] []))] (by simp(disch:=omega) only[zh,zf,zc,zg,ze,zb,zm,ir35,resvs,resv,cV,cVs,cMs,go_sem]) (KE.box hb4 _) ?_
   simp[tupOf,AV.strip,Zd]
  ·have hk2:(s.hd L).k=2:=by omega
   have el:YW L s=(Zt (s.hd L).s,stepS s):=by simp[YW,hk2]
   rw[ev,el] at hQ
   have fin:=KB.done hQ
   rw[ep] at fin
   have hk2':=eq_true hk2
   by_cases w1:(s.hd L).s=[110,117,108,108]
   ·have e3:Zt (s.hd L).s=.mk 0 0 [] [] []:=by rw[Zt,if_pos w1];rfl
    rw[e3] at fin
    simp(disch:=omega) only[hk3,hk4,hk5,hk2',g5,gr,wrap64,n5,n5s,n4,n4s,w1,go_sem]
    simp(disch:=omega) only[g4,g5,n4,n4s,n5,n5s,go_sem]
    refine fin _ _ [.agg [.int .i64 0,.int .i64 0,.str [],.sl .nil 5 [],.sl .nil 6 []]] (by simp(disch:=omega) only[ir35,resvs,resv,go_sem]) (KE.box hb4 _) ?_
    simp[tupOf,AV.strip,AV.strip1,cV,cVs,cMs,Yr,zV]
   by_cases w2:(s.hd L).s=[116,114,117,101]
   ·have e3:Zt (s.hd L).s=.mk 1 1 [] [] []:=by rw[Zt,if_neg w1,if_pos w2]
    rw[e3] at fin
    have w2':=eq_true w2
    simp(disch:=omega) only[hk3,hk4,hk5,hk2',g5,gr,wrap64,n5,n5s,n4,n4s,w1,w2',go_sem]
    simp(disch:=omega) only[g4,g5,n4,n4s,n5,n5s,go_sem]
    refine fin _ _ [.agg [.int .i64 1,.int .i64 1,.str [],.sl .nil 5 [],.sl .nil 6 []]] (by simp(disch:=omega) only[ir35,resvs,resv,go_sem]) (KE.box hb4 _) ?_
    simp[tupOf,AV.strip,AV.strip1,cV,cVs,cMs,Yr,zV]
   by_cases w3:(s.hd L).s=[102,97,108,115,101]
   ·have e3:Zt (s.hd L).s=.mk 1 0 [] [] []:=by rw[Zt,if_neg w1,if_neg w2,if_pos w3]
    rw[e3] at fin
    have w3':=eq_true w3
    simp(disch:=omega) only[hk3,hk4,hk5,hk2',g5,gr,wrap64,n5,n5s,n4,n4s,w1,w2,w3',go_sem]
    simp(disch:=omega) only[g4,g5,n4,n4s,n5,n5s,go_sem]
    refine fin _ _ [.agg [.int .i64 1,.int .i64 0,.str [],.sl .nil 5 [],.sl .nil 6 []]] (by simp(disch:=omega) only[ir35,resvs,resv,go_sem]) (KE.box hb4 _) ?_
    simp[tupOf,AV.strip,AV.strip1,cV,cVs,cMs,Yr,zV]
   ·have e3:Zt (s.hd L).s=.mk 5 0 (s.hd L).s [] []:=by rw[Zt,if_neg w1,if_neg w2,if_neg w3]
    rw[e3] at fin
    simp(disch:=omega) only[hk3,hk4,hk5,hk2',g5,gr,wrap64,n5,n5s,n4,n4s,w1,w2,w3,go_sem]
    simp(disch:=omega) only[g4,g5,n4,n4s,n5,n5s,go_sem]
    refine fin _ _ [.agg [.int .i64 5,.int .i64 0,.str (s.hd L).s,.sl .nil 5 [],.sl .nil 6 []]] (by simp(disch:=omega) only[ir35,resvs,resv,go_sem]) (KE.box hb4 _) ?_
    simp[tupOf,AV.strip,AV.strip1,cV,cVs,cMs,Yr,zV]
 rw[if_neg hkl] at ev
 have hk3:¬ ((s.hd L).k=3):=fun h=>hkl (.inl h)
 have hk4:¬ ((s.hd L).k=4):=fun h=>hkl (.inr (.inl h))
 have hk5:¬ ((s.hd L).k=5):=fun h=>hkl (.inr (.inr (.inl h)))
 have hk2:¬ ((s.hd L).k=2):=fun h=>hkl (.inr (.inr (.inr h)))
 simp(disch:=omega) only[hk3,hk4,hk5,hk2,g5,go_sem]
 refine goK_ret (Z9 hl K2.here [36]) fun v H1 ⟨hv,hH⟩=>?_
 subst hv;subst hH
 by_cases hvv:isS L [36] s=true∧fixed=false
 ·obtain⟨hdl,hfx⟩:=hvv
  subst hfx
  rw[hdl] at ev
  have e:Zf L false k s=Yr L s:=ev
  rw[e] at hQ
  have fin:=KB.done hQ
  rw[hdl]
  simp(disch:=omega) only[go_sem]
  refine goK_ret (zq hl K2.here _) fun v H2 ⟨hv,h2⟩=>?_
  subst hv
  have K3:=K2.step h2
  have g24:=oth h2 n4 g4
  simp(disch:=omega) only[go_sem]
  refine goK_ret (zz hl K3.here) fun v H3 ⟨hv,h3⟩=>?_
  subst hv
  have KE:=K3.step h3
  have g34:=oth h3 n4 g24
  simp(disch:=omega) only[g34,go_sem]
  refine fin _ _ [.agg [.int .i64 8,.int .i64 0,.str (za L (zd L [36] s)).1,.sl .nil 5 [],.sl .nil 6 []]] (by simp(disch:=omega) only[ir35,resvs,resv,go_sem]) (KE.box hb4 _) ?_
  simp[tupOf,AV.strip,AV.strip1,cV,cVs,cMs,Yr,zV]
 have ev2:Zf L fixed k s=if isS L [91] s then zkU L fixed k s else if isS L [123] s then mpS L fixed k s else (zV,yc 2 s):=by
  rw[ev,if_neg]
  intro h
  simp only[Al0,Bool.not_eq_true'] at h
  exact hvv h
 have hvc:(isS L [36] s=true∧fixed=true)∨isS L [36] s=false:=by
  cases h:isS L [36] s with
  | false=>exact .inr rfl
  | true =>
   cases fixed with
   | true=>exact .inl ⟨rfl,rfl⟩
   | false=>exact absurd ⟨h,rfl⟩ hvv
 clear ev hvv
 rcases hvc with ⟨hdl,hfx⟩|hdl<;>rw[hdl]
 have hnf:(!fixed)=false:=by rw[hfx];rfl
 simp(disch:=omega) only[hnf,go_sem]
 rotate_left
 simp(disch:=omega) only[go_sem]
 all_goals
  refine goK_ret (Z9 hl K2.here [91]) fun v H1 ⟨hv,hH⟩=>?_
  subst hv;subst hH
  cases hb:isS L [91] s with
  | true =>
   rw[hb,if_pos rfl] at ev2
   simp(disch:=omega) only[go_sem]
   refine goA_intro fun b8 hb8=>?_
   have hb8H:=K2.none hb8
   have n8:=K0.ne hb8H
   have h84:b8≠b4:=fun e=>by subst e;rw[g4] at hb8;cases hb8
   simp(disch:=omega) only[go_sem]
   refine goK_ret (zjt hl (K2.box hb8H _).here _) fun v H2 ⟨hv,h2⟩=>?_
   subst hv
   have K3:=(K2.box hb8H _).step h2
   have g8:=oth h2 n8 (upd_same ..)
   have g4:=oth h2 n4 ((upd_ne (Ne.symm h84)).trans g4)
   by_cases he:(yr L [91] s).e=0
   ·obtain⟨n,rfl,hdp⟩:=zgQ hk hd he
    obtain⟨R,hR⟩:∃ R,zO L [93] false (Zf L fixed n) (L.length+2) [] (yr L [91] s)=R:=⟨_,rfl⟩
    have eR:Zf L fixed (n+1) s=(.mk 6 0 [] R.1 [],Yt L [93] R.2):=by rw[ev2,← hR];rfl
    have hs:=zaJ hn fixed n (by omega)
    have hlt:=(yv fixed n).lt (by decide)
    simp(disch:=omega) only[go_sem]
    refine goL_st (fun x:Own×List Val×St=>[]) (fun x H'=>KBO H r (poc L x.2.2) H' x.1 x.2.1.length 5∧H' b8=some (.cells [.int .i64 6,.int .i64 0,.str [],.sl x.1 5 (cVs x.2.1),.sl .nil 6 []])∧H' b4=some (.cells zB5)∧LI L [93] false (Zf L fixed n) (16-(n:Int)) R x.2.1 x.2.2) (fun x=>mS L x.2.2) (.nil,[],yr L [91] s) (by simp(disch:=omega) only[go_sem]) ⟨⟨K3,rfl,nofun⟩,g8,g4,LI.start (fun _=>hdp) hR⟩ ?_
    rintro⟨o,l,u⟩ H3 J ⟨K3,g8,g4,I3⟩ hJ
    simp only at K3 g8 g4 I3
    have gr:=K3.here
    simp only[poc] at gr
    simp only[zB5] at g4
    have hcl:=zcU l
    by_cases hue:u.e=0
    case neg =>
     simp(disch:=omega) only[gr,hue,go_sem]
     have e1:=I3.stop (by (exact fun h=>hue h.1))
     rw[e1] at eR
     try simp(disch:=omega) only[go_sem]
     refine goK_ret (zcn hl K3.here [93]) fun v H4 ⟨hv,h4⟩=>?_
     subst hv
     have K4:=K3.toKB.step h4
     have g48:=oth h4 n8 g8
     have g44:=oth h4 n4 g4
     rw[eR] at hQ
     have fin:=KB.done hQ
     simp(disch:=omega) only[g48,g44,h84,Ne.symm h84,go_sem]
     refine fin _ _ [.agg [.int .i64 6,.int .i64 0,.str [],.sl o 5 (cVs l),.sl .nil 6 []]] (by simp(disch:=omega) only[ir35,resvs,resv,go_sem]) (K4.box hb4 _) ?_
     simp[tupOf,AV.strip,AV.strip1,cV,cVs,cMs,zcr]
    simp(disch:=omega) only[gr,hue,go_sem]
    refine goK_ret (Z9 hl K3.here _) fun v H4 ⟨hv,hH⟩=>?_
    subst hv;subst hH
    cases hj:isS L [93] u with
    | true =>
     have e1:=I3.stop (by (rintro⟨_,⟨h,_⟩|h⟩;cases h;rw[hj] at h;cases h))
     rw[e1] at eR
     try simp(disch:=omega) only[go_sem]
     refine goK_ret (zcn hl K3.here [93]) fun v H4 ⟨hv,h4⟩=>?_
     subst hv
     have K4:=K3.toKB.step h4
     have g48:=oth h4 n8 g8
     have g44:=oth h4 n4 g4
     rw[eR] at hQ
     have fin:=KB.done hQ
     simp(disch:=omega) only[g48,g44,h84,Ne.symm h84,go_sem]
     refine fin _ _ [.agg [.int .i64 6,.int .i64 0,.str [],.sl o 5 (cVs l),.sl .nil 6 []]] (by simp(disch:=omega) only[ir35,resvs,resv,go_sem]) (K4.box hb4 _) ?_
     simp[tupOf,AV.strip,AV.strip1,cV,cVs,cMs,zcr]
    | false =>
     obtain⟨I4,hm,hl4⟩:=I3.next ⟨hue,.inr hj⟩ hs hlt
     simp(disch:=omega) only[g8,go_sem]
     refine goK_ret (ih n rfl K3.here I3.dp) fun v H5 ⟨hv,h5⟩=>?_
     subst hv
     have K5:=K3.step h5
     have g85:=oth h5 n8 g8
     have g45:=oth h5 n4 g4
     simp(disch:=omega) only[zh,zf,zc,zg,ze,zb,zm,g85,go_sem]
     refine goP_ownS (by rw[hcl];exact K5.own) (by simp only[hcl,Al2,Al3];omega) (by simp only[hcl,Al2,Al3,maxLen];omega) fun o6 H6 hs6=>?_
     have K6:=K5.app (by simpa[hcl] using hs6)
     have g86:=K5.stay hs6 g85
     have g46:=K5.stay hs6 g45
     simp(disch:=omega) only[zh,zf,zc,zg,ze,zb,zm,g86,go_sem]
     refine goJ (hJ (o6,l++[_],_) _ hm ⟨by simpa using K6.box hb8H g86,by rw[upd_same];simp[zaZ,Zd],by rw[upd_ne (Ne.symm h84)];exact g46,I4⟩) (by simp(disch:=omega) only[go_sem])
   ·have eR:Zf L fixed k s=(.mk 6 0 [] [] [],Yt L [93] (yr L [91] s)):=by
     rw[ev2]
     cases k with
     | zero=>rfl
     | succ n=>simp only[zkU,ziF];rw[Ya he]
    rw[eR] at hQ
    have fin:=KB.done hQ
    simp(disch:=omega) only[go_sem]
    refine goL_st (fun x:Unit=>[]) (fun x H'=>H'=H2) (fun x=>0) () (by simp(disch:=omega) only[go_sem]) rfl ?_
    rintro _ H3 J hH hJ
    subst hH
    have gr:=K3.here
    simp only[poc] at gr
    simp(disch:=omega) only[gr,he,go_sem]
    refine goK_ret (zcn hl K3.here _) fun v H4 ⟨hv,h4⟩=>?_
    subst hv
    have KE:=K3.step h4
    have g48:=oth h4 n8 g8
    have g44:=oth h4 n4 g4
    simp(disch:=omega) only[g48,g44,h84,Ne.symm h84,go_sem]
    refine fin _ _ [.agg [.int .i64 6,.int .i64 0,.str [],.sl .nil 5 [],.sl .nil 6 []]] (by simp(disch:=omega) only[ir35,resvs,resv,go_sem]) (KE.box hb4 _) ?_
    simp[tupOf,AV.strip,AV.strip1,cV,cVs,cMs,Yr,zV]
  | false =>
   rw[hb] at ev2
   simp only[Al7,if_false] at ev2
   simp(disch:=omega) only[go_sem]
   refine goK_ret (Z9 hl K2.here [123]) fun v H1 ⟨hv,hH⟩=>?_
   subst hv;subst hH
   cases hc:isS L [123] s with
   | true =>
    rw[hc,if_pos rfl] at ev2
    simp(disch:=omega) only[go_sem]
    refine goK_ret (zjt hl K2.here _) fun v H2 ⟨hv,h2⟩=>?_
    subst hv
    have K3:=K2.step h2
    have g4:=oth h2 n4 g4
    simp(disch:=omega) only[go_sem]
    refine goA_intro fun b8 hb8=>?_
    have hb8H:=K3.none hb8
    have n8:=K0.ne hb8H
    have h84:b8≠b4:=fun e=>by subst e;rw[g4] at hb8;cases hb8
    by_cases he:(yr L [123] s).e=0
    ·obtain⟨n,rfl,hdp⟩:=zgQ hk hd he
     obtain⟨R,hR⟩:∃ R,zO L [125] false (Zk L (Zf L fixed n)) (L.length+2) [] (yr L [123] s)=R:=⟨_,rfl⟩
     have eR:Zf L fixed (n+1) s=(.mk 7 0 [] [] R.1,Yt L [125] R.2):=by rw[ev2,← hR];rfl
     have hs:=YC (zaJ hn fixed n (by omega))
     have hlt:=(ye (yv fixed n)).lt (by decide)
     simp(disch:=omega) only[go_sem]
     refine goL_st (fun x:Own×List Mem×St=>[]) (fun x H'=>KBO H r (poc L x.2.2) H' x.1 x.2.1.length 6∧H' b8=some (.cells [.int .i64 7,.int .i64 0,.str [],.sl .nil 5 [],.sl x.1 6 (cMs x.2.1)])∧H' b4=some (.cells zB5)∧LI L [125] false (Zk L (Zf L fixed n)) (16-(n:Int)) R x.2.1 x.2.2) (fun x=>mS L x.2.2) (.nil,[],yr L [123] s) (by simp(disch:=omega) only[go_sem]) ⟨⟨K3.box hb8H _,rfl,nofun⟩,upd_same ..,(upd_ne (Ne.symm h84)).trans g4,LI.start (fun _=>hdp) hR⟩ ?_
     rintro⟨o,l,u⟩ H3 J ⟨K3,g8,g4,I3⟩ hJ
     simp only at K3 g8 g4 I3
     have gr:=K3.here
     simp only[poc] at gr
     simp only[zB5] at g4
     have hcl:=zaX l
     by_cases hue:u.e=0
     case neg =>
      simp(disch:=omega) only[gr,hue,go_sem]
      have e1:=I3.stop (by (exact fun h=>hue h.1))
      rw[e1] at eR
      try simp(disch:=omega) only[go_sem]
      refine goK_ret (zcn hl K3.here [125]) fun v H4 ⟨hv,h4⟩=>?_
      subst hv
      have K4:=K3.toKB.step h4
      have g48:=oth h4 n8 g8
      have g44:=oth h4 n4 g4
      rw[eR] at hQ
      have fin:=KB.done hQ
      simp(disch:=omega) only[g48,g44,h84,Ne.symm h84,go_sem]
      refine fin _ _ [.agg [.int .i64 7,.int .i64 0,.str [],.sl .nil 5 [],.sl o 6 (cMs l)]] (by simp(disch:=omega) only[ir35,resvs,resv,go_sem]) (K4.box hb4 _) ?_
      simp[tupOf,AV.strip,AV.strip1,cV,cVs,cMs,Yb]
     simp(disch:=omega) only[gr,hue,go_sem]
     refine goK_ret (Z9 hl K3.here _) fun v H4 ⟨hv,hH⟩=>?_
     subst hv;subst hH
     cases hj:isS L [125] u with
     | true =>
      have e1:=I3.stop (by (rintro⟨_,⟨h,_⟩|h⟩;cases h;rw[hj] at h;cases h))
      rw[e1] at eR
      try simp(disch:=omega) only[go_sem]
      refine goK_ret (zcn hl K3.here [125]) fun v H4 ⟨hv,h4⟩=>?_
      subst hv
      have K4:=K3.toKB.step h4
      have g48:=oth h4 n8 g8
      have g44:=oth h4 n4 g4
      rw[eR] at hQ
      have fin:=KB.done hQ
      simp(disch:=omega) only[g48,g44,h84,Ne.symm h84,go_sem]
      refine fin _ _ [.agg [.int .i64 7,.int .i64 0,.str [],.sl .nil 5 [],.sl o 6 (cMs l)]] (by simp(disch:=omega) only[ir35,resvs,resv,go_sem]) (K4.box hb4 _) ?_
      simp[tupOf,AV.strip,AV.strip1,cV,cVs,cMs,Yb]
     | false =>
      obtain⟨I4,hm,hl4⟩:=I3.next ⟨hue,.inr hj⟩ hs hlt
      simp(disch:=omega) only[g8,go_sem]
      refine goK_ret (zdv hl (ih n rfl) K3.here I3.dp) fun v H5 ⟨hv,h5⟩=>?_
      subst hv
      have K5:=K3.step h5
      have g85:=oth h5 n8 g8
      have g45:=oth h5 n4 g4
      simp(disch:=omega) only[zh,zf,zc,zg,ze,zb,zm,g85,go_sem]
      refine goP_ownS (by rw[hcl];exact K5.own) (by simp only[hcl,Al2,Al3];omega) (by simp only[hcl,Al2,Al3,maxLen];omega) fun o6 H6 hs6=>?_
      have K6:=K5.app (by simpa[hcl] using hs6)
      have g86:=K5.stay hs6 g85
      have g46:=K5.stay hs6 g45
      simp(disch:=omega) only[zh,zf,zc,zg,ze,zb,zm,g86,go_sem]
      refine goJ (hJ (o6,l++[_],_) _ hm ⟨by simpa using K6.box hb8H g86,by rw[upd_same];simp[Z7,Ym],by rw[upd_ne (Ne.symm h84)];exact g46,I4⟩) (by simp(disch:=omega) only[go_sem])
    ·have eR:Zf L fixed k s=(.mk 7 0 [] [] [],Yt L [125] (yr L [123] s)):=by
      rw[ev2]
      cases k with
      | zero=>rfl
      | succ n=>simp only[mpS,zla];rw[Ya he]
     rw[eR] at hQ
     have fin:=KB.done hQ
     simp(disch:=omega) only[go_sem]
     refine goL_st (fun x:Unit=>[]) (fun x H'=>H'=H2.upd b8 (.cells [.int .i64 7,.int .i64 0,.str [],.sl .nil 5 [],.sl .nil 6 []])) (fun x=>0) () (by simp(disch:=omega) only[go_sem]) rfl ?_
     rintro _ H3 J hH hJ
     have K3:=K3.box hb8H (.cells [.int .i64 7,.int .i64 0,.str [],.sl .nil 5 [],.sl .nil 6 []])
     rw[← hH] at K3
     have g8:H3 b8=some (.cells [.int .i64 7,.int .i64 0,.str [],.sl .nil 5 [],.sl .nil 6 []]):=by rw[hH,upd_same]
     have g4:H3 b4=some (.cells zB5):=by rw[hH,upd_ne (Ne.symm h84),g4]
     have gr:=K3.here
     simp only[poc] at gr
     simp(disch:=omega) only[gr,he,go_sem]
     refine goK_ret (zcn hl K3.here _) fun v H4 ⟨hv,h4⟩=>?_
     subst hv
     have KE:=K3.step h4
     have g48:=oth h4 n8 g8
     have g44:=oth h4 n4 g4
     simp(disch:=omega) only[g48,g44,h84,Ne.symm h84,go_sem]
     refine fin _ _ [.agg [.int .i64 7,.int .i64 0,.str [],.sl .nil 5 [],.sl .nil 6 []]] (by simp(disch:=omega) only[ir35,resvs,resv,go_sem]) (KE.box hb4 _) ?_
     simp[tupOf,AV.strip,AV.strip1,cV,cVs,cMs,Yr,zV]
   | false =>
    rw[hc] at ev2
    simp only[Al7,if_false] at ev2
    rw[ev2] at hQ
    have fin:=KB.done hQ
    simp(disch:=omega) only[go_sem]
    refine goK_ret (Yo K2.here 2) fun v H2 ⟨hv,h2⟩=>?_
    subst hv
    have KE:=K2.step h2
    have g24:=oth h2 n4 g4
    simp(disch:=omega) only[g24,go_sem]
    refine fin _ _ [.agg [.int .i64 0,.int .i64 0,.str [],.sl .nil 5 [],.sl .nil 6 []]] (by simp(disch:=omega) only[ir35,resvs,resv,go_sem]) (KE.box hb4 _) ?_
    simp[tupOf,AV.strip,AV.strip1,cV,cVs,cMs,Yr,zV]
theorem zcX {L:TS} {r:Nat} (hl:wT L≤zk) (hn:∀ x∈L,yI x) (fixed:Bool):∀ k,k≤16→zjK L r fixed k
 | 0,h=>zfT hl hn fixed 0 h fun n e=>nomatch e
 | k+1,h=>zfT hl hn fixed (k+1) h fun n e=>by
  obtain rfl:n=k:=by omega
  exact zcX hl hn fixed _ (by omega)
theorem zlz {L:TS} {H:Heap} {r:Nat} {s:St} {fixed:Bool} {k:Nat} (hl:wT L≤zk) (hn:∀ x∈L,yI x) (hk:k≤16) (hr:H r=some (poc L s)) (hd:s.e=0→s.dp=16-(k:Int)) :
  ACalls Tryz.prog 207 [.ptr r 0,.bool fixed] H (PQ H r L (.sl .no 6 (cMs (Yk L fixed k s).1)) (Yk L fixed k s).2):=by
 refine ACalls.go ir207 ck207 (Al4 _) fun KP Q hQ=>?_
 have hll:L.length≤zk:=Nat.le_trans (Zp L) hl
 simp only[zk] at hll
 have K0:=KB.start hr
 simp(disch:=omega) only[ir207,go_sem]
 refine goK_ret (Z9 hl hr _) fun v H1 ⟨hv,hH⟩=>?_
 subst hv;subst hH
 cases hi:isS L [40] s with
 | false =>
  have e:Yk L fixed k s=([],s):=by simp[Yk,hi]
  rw[e] at hQ
  have fin:=KB.done hQ
  simp(disch:=omega) only[go_sem]
  exact fin _ _ [.sl .nil 6 []] rfl K0 (by simp[tupOf,envOf,AV.strip,AV.strip1,cMs])
 | true =>
  obtain⟨R,hR⟩:∃ R,zO L [41] true (Zk L (Zf L fixed k)) (L.length+2) [] (zd L [40] s)=R:=⟨_,rfl⟩
  have eR:Yk L fixed k s=(R.1,zd L [41] R.2):=by rw[← hR];simp[Yk,hi]
  have hs:=YC (zaJ hn fixed k hk)
  have hlt:=(ye (yv fixed k)).lt (by decide)
  simp(disch:=omega) only[go_sem]
  refine goK_ret (zq hl hr _) fun v H2 ⟨hv,h2⟩=>?_
  subst hv
  have K2:=K0.step h2
  simp(disch:=omega) only[go_sem]
  refine goL_st (fun x:Own×List Mem×St=>[(5,.sl x.1 6 (cMs x.2.1))]) (fun x H'=>KBO H1 r (poc L x.2.2) H' x.1 x.2.1.length 6∧LI L [41] true (Zk L (Zf L fixed k)) (16-(k:Int)) R x.2.1 x.2.2) (fun x=>mS L x.2.2) (.nil,[],zd L [40] s) (by simp(disch:=omega) only[cMs,List.map_nil,go_sem]) ⟨⟨K2,rfl,nofun⟩,LI.start (yK hd) hR⟩ ?_
  rintro⟨o,l,u⟩ H3 J ⟨K3,I3⟩ hJ
  simp only at K3 I3
  have gr:=K3.here
  simp only[poc] at gr
  have hcl:=zaX l
  by_cases hue:u.e=0
  case neg =>
   simp(disch:=omega) only[gr,hue,go_sem]
   have e1:=I3.stop (by (exact fun h=>hue h.1))
   rw[e1] at eR
   try simp(disch:=omega) only[go_sem]
   refine goK_ret (zq hl K3.here _) fun v H4 ⟨hv,h4⟩=>?_
   subst hv
   rw[eR] at hQ
   have fin:=KB.done hQ
   simp(disch:=omega) only[go_sem]
   refine fin _ _ [.sl o 6 (cMs l)] rfl (K3.toKB.step h4) ?_
   simp[tupOf,AV.strip,AV.strip1,Yb]
  by_cases hz:l.length=0
  ·have hz':((l.length:Int)=0)=True:=eq_true (by omega)
   simp(disch:=omega) only[gr,hue,hcl,hz',go_sem]
   obtain⟨I4,hm,hl4⟩:=I3.next ⟨hue,(.inl ⟨rfl,hz⟩)⟩ hs hlt
   try simp(disch:=omega) only[go_sem]
   refine goK_ret (zdv hl (zcX hl hn fixed k hk) K3.here I3.dp) fun v H5 ⟨hv,h5⟩=>?_
   subst hv
   have K5:=K3.step h5
   simp(disch:=omega) only[zh,zf,zc,zg,ze,zb,zm,zg,go_sem]
   refine goP_ownS (by rw[hcl];exact K5.own) (by simp only[hcl,Al2,Al3];omega) (by simp only[hcl,Al2,Al3,maxLen];omega) fun o6 H6 hs6=>?_
   have K6:=K5.app (by simpa[hcl] using hs6)
   simp(disch:=omega) only[zh,zf,zc,zg,ze,zb,zm,zg,go_sem]
   refine goJ (hJ (o6,l++[_],_) _ hm ⟨by simpa using K6,I4⟩) (by simp(disch:=omega) only[zh,zf,zc,zg,ze,zb,zm,Z7,List.map_append,List.map_cons,List.map_nil,Ym,go_sem])
  ·have hz':¬ ((l.length:Int)=0):=by omega
   simp(disch:=omega) only[gr,hue,hcl,hz',go_sem]
   refine goK_ret (Z9 hl K3.here _) fun v H4 ⟨hv,hH⟩=>?_
   subst hv;subst hH
   cases hj:isS L [41] u with
   | true =>
    have e1:=I3.stop (by (rintro⟨_,⟨_,h⟩|h⟩;exact hz h;rw[hj] at h;cases h))
    rw[e1] at eR
    try simp(disch:=omega) only[go_sem]
    refine goK_ret (zq hl K3.here _) fun v H4 ⟨hv,h4⟩=>?_
    subst hv
    rw[eR] at hQ
    have fin:=KB.done hQ
    simp(disch:=omega) only[go_sem]
    refine fin _ _ [.sl o 6 (cMs l)] rfl (K3.toKB.step h4) ?_
    simp[tupOf,AV.strip,AV.strip1,Yb]
   | false =>
    obtain⟨I4,hm,hl4⟩:=I3.next ⟨hue,(.inr hj)⟩ hs hlt
    try simp(disch:=omega) only[go_sem]
    refine goK_ret (zdv hl (zcX hl hn fixed k hk) K3.here I3.dp) fun v H5 ⟨hv,h5⟩=>?_
    subst hv
    have K5:=K3.step h5
    simp(disch:=omega) only[zh,zf,zc,zg,ze,zb,zm,zg,go_sem]
    refine goP_ownS (by rw[hcl];exact K5.own) (by simp only[hcl,Al2,Al3];omega) (by simp only[hcl,Al2,Al3,maxLen];omega) fun o6 H6 hs6=>?_
    have K6:=K5.app (by simpa[hcl] using hs6)
    simp(disch:=omega) only[zh,zf,zc,zg,ze,zb,zm,zg,go_sem]
    refine goJ (hJ (o6,l++[_],_) _ hm ⟨by simpa using K6,I4⟩) (by simp(disch:=omega) only[zh,zf,zc,zg,ze,zb,zm,Z7,List.map_append,List.map_cons,List.map_nil,Ym,go_sem])
theorem zh6 {L:TS} {H:Heap} {r:Nat} {s:St} {fixed:Bool} {k:Nat} (hl:wT L≤zk) (hn:∀ x∈L,yI x) (hk:k≤16) (hr:H r=some (poc L s)) (hd:s.e=0→s.dp=16-(k:Int)) :
  ACalls Tryz.prog 163 [.ptr r 0,.bool fixed] H (PQ H r L (.sl .no 2 (cDs (zbh L fixed k s).1)) (zbh L fixed k s).2):=by
 refine ACalls.go ir163 ck163 (Al4 _) fun KP Q hQ=>?_
 have hll:L.length≤zk:=Nat.le_trans (Zp L) hl
 simp only[zk] at hll
 have K0:=KB.start hr
 obtain⟨R,hR⟩:∃ R,yQ L [64] (zge L fixed k) (L.length+2) [] s=R:=⟨_,rfl⟩
 have eR:zbh L fixed k s=R:=hR
 have hs:=zfB hn fixed k hk
 have hlt:=(zaM fixed k).lt (by decide)
 simp(disch:=omega) only[ir163,go_sem]
 refine goL_st (fun x:Own×List DirD×St=>[(5,.sl x.1 2 (cDs x.2.1))]) (fun x H'=>KBO H r (poc L x.2.2) H' x.1 x.2.1.length 2∧WI L [64] (zge L fixed k) (16-(k:Int)) R x.2.1 x.2.2) (fun x=>mS L x.2.2) (.nil,[],s) (by simp(disch:=omega) only[zcw,List.map_nil,go_sem]) ⟨⟨K0,rfl,nofun⟩,WI.start hd hR⟩ ?_
 rintro⟨o,l,u⟩ H3 J ⟨K3,I3⟩ hJ
 simp only at K3 I3
 have hcl:=zc0 l
 simp(disch:=omega) only[go_sem]
 refine goK_ret (Z9 hl K3.here _) fun v H4 ⟨hv,hH⟩=>?_
 subst hv;subst hH
 cases hj:isS L [64] u with
 | false =>
  have e1:=I3.stop hj
  rw[eR,e1] at hQ
  have fin:=KB.done hQ
  simp(disch:=omega) only[go_sem]
  refine fin _ _ [.sl o 2 (cDs l)] rfl K3.toKB ?_
  simp[tupOf,AV.strip,AV.strip1,zcw,zf4]
 | true =>
  obtain⟨I4,hm,hl4⟩:=I3.next hj hs hlt
  simp(disch:=omega) only[go_sem]
  refine goK_ret (zq hl K3.here _) fun v H5 ⟨hv,h5⟩=>?_
  subst hv
  have K5:=K3.step h5
  simp(disch:=omega) only[go_sem]
  refine goK_ret (zz hl K5.here) fun v H6 ⟨hv,h6⟩=>?_
  subst hv
  have K6:=K5.step h6
  simp(disch:=omega) only[go_sem]
  refine goA_intro fun b6 hb6=>?_
  have hb6H:=K6.toKB.none hb6
  have n6:=K0.ne hb6H
  simp(disch:=omega) only[go_sem]
  have K7:=K6.new hb6 (.cells [.str (za L (zd L [64] u)).1,.sl .nil 6 []])
  refine goK_ret (zlz (k:=k) hl hn hk K7.here (yg (yK I3.dp))) fun v H7 ⟨hv,h7⟩=>?_
  subst hv
  have K8:=K7.step h7
  have g7:=oth h7 n6 (upd_same ..)
  simp(disch:=omega) only[zh,zf,zc,zg,ze,zb,zm,g7,go_sem]
  have K9:=K8.box (cs':=[.str (za L (zd L [64] u)).1,.sl .no 6 (cMs (Yk L fixed k (za L (zd L [64] u)).2).1)]) hb6H g7
  refine goP_ownS (by rw[hcl];exact K9.own) (by simp only[hcl,Al2,Al3];omega) (by simp only[hcl,Al2,Al3,maxLen];omega) fun o9 H9 hs9=>?_
  have KA:=K9.app (by simpa[hcl] using hs9)
  simp(disch:=omega) only[zh,zf,zc,zg,ze,zb,zm,go_sem]
  refine goJ (hJ (o9,l++[_],_) _ hm ⟨by simpa[zge] using KA,I4⟩) (by simp(disch:=omega) only[zcw,cD,zge,List.map_append,List.map_cons,List.map_nil,go_sem])
abbrev pl (v:Val):Prop:=zkg zaD v=true
inductive Shape:Val→Prop
 | null:Shape (.mk 0 0 [] [] [])
 | bool (n:Int) (h:n=0∨n=1):Shape (.mk 1 n [] [] [])
 | int (n:Int):Shape (.mk 2 n [] [] [])
 | num (s:List UInt8) (h:zlU s=true):Shape (.mk 3 0 s [] [])
 | text (s:List UInt8):Shape (.mk 4 0 s [] [])
 | word (s:List UInt8) (h:zme s=false):Shape (.mk 5 0 s [] [])
 | var (s:List UInt8):Shape (.mk 8 0 s [] [])
 | list (l:List Val) (h:zie zaD l=true):Shape (.mk 6 0 [] l [])
 | obj (m:List Mem) (h:zij zaD m=true):Shape (.mk 7 0 [] [] m)
theorem zcF {n:Int} {s:List UInt8} {l:List Val} {m:List Mem}:zf8 n s l m=true↔n=0∧s=[]∧l=[]∧m=[]:=by
 simp[zf8]
theorem shape:∀ v,pl v→Shape v
 | .mk k n s l m,h=>by
  simp only[pl,zkg] at h
  split at h
  ·rename_i k6
   subst k6
   simp only[Al0,zcF] at h
   obtain⟨h1,rfl,rfl,_,rfl⟩:=h
   exact .list l h1
  ·split at h
   ·rename_i k7
    subst k7
    simp only[Al0,zcF] at h
    obtain⟨h1,rfl,rfl,rfl,_⟩:=h
    exact .obj m h1
   ·simp only[zhm,Al0,zcF] at h
    obtain⟨⟨_,_,rfl,rfl⟩,h⟩:=h
    split at h
    ·rename_i k0
     subst k0
     simp only[Al0,zu] at h
     obtain⟨rfl,rfl⟩:=h
     exact .null
    split at h
    ·rename_i k0
     subst k0
     simp only[Al0,zbQ,zu] at h
     obtain⟨h,rfl⟩:=h
     exact .bool n h
    split at h
    ·rename_i k0
     subst k0
     simp only[zu] at h
     subst h
     exact .int n
    split at h
    ·rename_i k0
     subst k0
     simp only[Al0,zu] at h
     obtain⟨rfl,h⟩:=h
     exact .num s h
    split at h
    ·rename_i k0
     subst k0
     simp only[Al0,zu] at h
     obtain⟨rfl,h⟩:=h
     exact .text s
    split at h
    ·rename_i k0
     subst k0
     simp only[Al0,zu,Bool.not_eq_true'] at h
     obtain⟨rfl,_,h⟩:=h
     exact .word s h
    split at h
    ·rename_i k0
     subst k0
     simp only[Al0,zu] at h
     obtain⟨rfl,_⟩:=h
     exact .var s
    ·cases h
open Go.Lib
theorem zbv {P:UInt8→Prop} (h:∀ x:Fin 256,P (UInt8.ofNat x.val)) (c:UInt8):P c:=by
 have:=h ⟨c.toNat,c.toNat_lt⟩
 simpa using this
theorem ZZ {a b:List UInt8} {i:Nat} (h:i<a.length):(a++b).getD i 0=a.getD i 0:=by
 simp[List.getD,za7 h]
theorem getD_at (a:List UInt8) (c:UInt8) (b:List UInt8):(a++c::b).getD a.length 0=c:=by simp
theorem zdf {n b1 b2 b3 sz lo hi k:Nat} (h:checkN n b1 b2 b3 sz lo hi=some k) :
  2≤k∧k≤4∧k≤n∧k=sz∧lo≤b1∧(3≤k→128≤b2)∧(4≤k→128≤b3)∧∀ n' c2 c3,k≤n'→(3≤k→c2=b2)→(4≤k→c3=b3)→checkN n' b1 c2 c3 sz lo hi=some k:=by
 unfold checkN at h
 split at h
 ·rename_i hs
  split at h
  ·cases h
  ·rename_i hc
   cases h
   refine⟨by omega,by omega,by omega,hs.symm,by omega,by omega,by omega,fun n' c2 c3 h1 _ _=>?_⟩
   unfold checkN;rw[if_pos hs,if_neg (by omega)]
 ·rename_i hs2
  split at h
  ·rename_i hs
   split at h
   ·cases h
   ·rename_i hc
    cases h
    refine⟨by omega,by omega,by omega,hs.symm,by omega,by omega,by omega,fun n' c2 c3 h1 h2 _=>?_⟩
    have:=h2 (by omega)
    unfold checkN;rw[if_neg hs2,if_pos hs,if_neg (by omega)]
  ·rename_i hs3
   split at h
   ·rename_i hs
    split at h
    ·cases h
    ·rename_i hc
     cases h
     refine⟨by omega,by omega,by omega,hs.symm,by omega,by omega,by omega,fun n' c2 c3 h1 h2 h3=>?_⟩
     have:=h2 (by omega)
     have:=h3 (by omega)
     unfold checkN;rw[if_neg hs2,if_neg hs3,if_pos hs,if_neg (by omega)]
   ·cases h
theorem zmw:∀ x:Fin 256,2≤firstT x.val % 8→firstT x.val % 8≤4→128≤accLo (firstT x.val / 16):=by decide +kernel
theorem zl7 {b:Nat} (h:b<256) (h1:2≤firstT b % 8) (h2:firstT b % 8≤4):128≤accLo (firstT b / 16):=zmw ⟨b,h⟩ h1 h2
theorem zbr:∀(n:Nat) (a b:List UInt8),a.length≤n→validD a=true→validD (a++b)=validD b
 | n,[],b,_,_=>by simp
 | 0,x::t,b,h,_=>by simp at h
 | n+1,x::t,b,h,hv=>by
  by_cases hx:x.toNat<128
  ·rw[validD_cons x t hx] at hv
   rw[Al6,validD_cons x _ hx]
   exact zbr n t b (by simpa using h) hv
  ·have h0:128≤((x::t).getD 0 0).toNat:=by simp;omega
   rw[validD_lead (x::t) (by simp) h0] at hv
   split at hv
   ·cases hv
   ·rename_i k hk
    obtain⟨k2,k4,kl,ks,klo,_,_,kall⟩:=zdf hk
    have hkl:k≤(x::t).length:=kl
    have e1:((x::t++b).getD 1 0)=(x::t).getD 1 0:=ZZ (by omega)
    have e0:((x::t++b).getD 0 0)=(x::t).getD 0 0:=ZZ (by omega)
    rw[validD_lead (x::t++b) (by simp) (by rw[e0];exact h0),e0,e1]
    rw[kall (x::t++b).length _ _ (by simp only[Al5];omega) (fun h3=>by rw[ZZ (by omega)]) (fun h3=>by rw[ZZ (by omega)])]
    simp only
    rw[zbS hkl]
    exact zbr n _ b (by rw[zU];omega) hv
theorem ze8 {a b:List UInt8} (h:validD a=true):validD (a++b)=validD b:=zbr a.length a b (Al4 _) h
theorem YG {a b:List UInt8} (h:validD a=true) (h':validD b=true):validD (a++b)=true:=(ze8 h).trans h'
theorem zad (c:UInt8) (hc:c.toNat<128):∀(n:Nat) (a b:List UInt8),a.length≤n→validD (a++c::b)=true→validD a=true∧validD b=true
 | n,[],b,_,hv=>by
  rw[zar,validD_cons c b hc] at hv
  exact⟨validD_nil,hv⟩
 | 0,x::t,b,h,_=>by simp at h
 | n+1,x::t,b,h,hv=>by
  by_cases hx:x.toNat<128
  ·rw[Al6,validD_cons x _ hx] at hv
   rw[validD_cons x t hx]
   exact zad c hc n t b (by simpa using h) hv
  ·have h0:128≤((x::t++c::b).getD 0 0).toNat:=by simp;omega
   have e0:((x::t++c::b).getD 0 0)=(x::t).getD 0 0:=ZZ (by simp)
   have ec:((x::t++c::b).getD (x::t).length 0)=c:=getD_at ..
   rw[validD_lead (x::t++c::b) (by simp) h0] at hv
   split at hv
   ·cases hv
   ·rename_i k hk
    obtain⟨k2,k4,kl,ks,klo,k3,k4',kall⟩:=zdf hk
    have hlo:=zl7 ((x::t++c::b).getD 0 0).toNat_lt (by omega) (by omega)
    have hkl:k≤(x::t).length:=by
     rcases Nat.lt_or_ge (x::t).length k with h1|h1
     ·exfalso
      have hl:(x::t).length=1∨(x::t).length=2∨(x::t).length=3:=by simp only[Al2] at h1 ⊢;omega
      rcases hl with e|e|e
      ·rw[e] at ec h1;rw[ec] at klo;omega
      ·rw[e] at ec h1;rw[ec] at k3;have:=k3 (by omega);omega
      ·rw[e] at ec h1;rw[ec] at k4';have:=k4' (by omega);omega
     ·exact h1
    have e1:((x::t++c::b).getD 1 0)=(x::t).getD 1 0:=ZZ (by omega)
    rw[zbS hkl] at hv
    obtain⟨g1,g2⟩:=zad c hc n _ b (by rw[zU];omega) hv
    refine⟨?_,g2⟩
    rw[validD_lead (x::t) (by simp) (by rw[← e0];exact h0),← e0,← e1]
    rw[kall (x::t).length _ _ hkl (fun h3=>by rw[ZZ (by omega)]) (fun h3=>by rw[ZZ (by omega)])]
    exact g1
theorem zaC {c:UInt8} (hc:c.toNat<128) {a b:List UInt8} (hv:validD (a++c::b)=true):validD a=true∧validD b=true:=zad c hc a.length a b (Al4 _) hv
theorem ofN {n:Nat} (h:n<256):(UInt8.ofNat n).toNat=n:=by rw[UInt8.toNat_ofNat'];omega
theorem zch {n:Nat} (h1:n≤1114111) (h2:¬ (55296≤n∧n≤57343)):validD (y0 n)=true:=by
 unfold y0
 split
 ·rename_i h
  rw[validD_cons _ _ (by rw[ofN (by omega)];omega)];rfl
 ·split
  ·rename_i h0 h
   rw[validD_lead _ (by simp) (by simp only[List.getD_cons_zero];rw[ofN (by omega)];omega)]
   simp only[List.getD_cons_zero,List.getD_cons_succ,List.getD_nil,Al2,Al3]
   rw[ofN (show 192+n / 64<256 by omega),ofN (show 128+n % 64<256 by omega)]
   have e:firstT (192+n / 64)=2:=by unfold firstT;rw[if_neg (by omega),if_neg (by omega),if_pos (by omega)]
   rw[e]
   have e2:checkN (0+1+1) (128+n % 64) (0:UInt8).toNat (0:UInt8).toNat (2 % 8) (accLo (2 / 16)) (accHi (2 / 16))=some 2:=by
    unfold checkN accLo accHi;simp;omega
   rw[e2];rfl
  ·split
   ·rename_i h0 h1' h
    rw[validD_lead _ (by simp) (by simp only[List.getD_cons_zero];rw[ofN (by omega)];omega)]
    simp only[List.getD_cons_zero,List.getD_cons_succ,List.getD_nil,Al2,Al3]
    rw[ofN (show 224+n / 4096<256 by omega),ofN (show 128+n / 64 % 64<256 by omega),ofN (show 128+n % 64<256 by omega)]
    have e2:checkN (0+1+1+1) (128+n / 64 % 64) (128+n % 64) (0:UInt8).toNat (firstT (224+n / 4096) % 8) (accLo (firstT (224+n / 4096) / 16)) (accHi (firstT (224+n / 4096) / 16))=some 3:=by
     have c:n / 4096=0∨(1≤n / 4096∧n / 4096<13)∨n / 4096=13∨(14≤n / 4096∧n / 4096<16):=by omega
     rcases c with c|c|c|c
     ·rw[c];unfold checkN;simp[firstT,accLo,accHi];omega
     ·have e:firstT (224+n / 4096)=3:=by unfold firstT;rw[if_neg (by omega),if_neg (by omega),if_neg (by omega),if_neg (by omega),if_pos (by omega)]
      rw[e];unfold checkN;simp[accLo,accHi];omega
     ·rw[c];unfold checkN;simp[firstT,accLo,accHi];omega
     ·have e:firstT (224+n / 4096)=3:=by unfold firstT;rw[if_neg (by omega),if_neg (by omega),if_neg (by omega),if_neg (by omega),if_neg (by omega),if_neg (by omega),if_pos (by omega)]
      rw[e];unfold checkN;simp[accLo,accHi];omega
    rw[e2];rfl
   ·rename_i h0 h1' h
    rw[validD_lead _ (by simp) (by simp only[List.getD_cons_zero];rw[ofN (by omega)];omega)]
    simp only[List.getD_cons_zero,List.getD_cons_succ,List.getD_nil,Al2,Al3]
    rw[ofN (show 240+n / 262144<256 by omega),ofN (show 128+n / 4096 % 64<256 by omega),ofN (show 128+n / 64 % 64<256 by omega),ofN (show 128+n % 64<256 by omega)]
    have e2:checkN (0+1+1+1+1) (128+n / 4096 % 64) (128+n / 64 % 64) (128+n % 64) (firstT (240+n / 262144) % 8) (accLo (firstT (240+n / 262144) / 16)) (accHi (firstT (240+n / 262144) / 16))=some 4:=by
     have c:n / 262144=0∨(1≤n / 262144∧n / 262144<4)∨n / 262144=4:=by omega
     rcases c with c|c|c
     ·rw[c];unfold checkN;simp[firstT,accLo,accHi];omega
     ·have e:firstT (240+n / 262144)=4:=by unfold firstT;rw[if_neg (by omega),if_neg (by omega),if_neg (by omega),if_neg (by omega),if_neg (by omega),if_neg (by omega),if_neg (by omega),if_neg (by omega),if_pos (by omega)]
      rw[e];unfold checkN;simp[accLo,accHi];omega
     ·rw[c];unfold checkN;simp[firstT,accLo,accHi];omega
    rw[e2];rfl
theorem zbp:∀(u:List Nat) (s:List UInt8),zp u=some s→validD s=true
 | [],s,h=>by cases h;rfl
 | u::[],s,h=>by
  simp only[zp] at h
  split at h
  ·cases h
  ·rename_i h1
   split at h
   ·cases h
   ·simp only[yd,Al1] at h
    subst h
    rw[List.append_nil]
    exact zch (by omega) (by omega)
 | u::v::r,s,h=>by
  rw[zp] at h
  split at h
  ·cases h
  ·rename_i h1
   split at h
   ·rename_i h2
    split at h
    ·cases h
    ·rename_i h3
     cases hr:zp r with
     | none=>simp[hr] at h
     | some x =>
      simp only[hr,yd,Al1] at h
      subst h
      exact YG (zch (by omega) (by omega)) (zbp r x hr)
   ·rename_i h2
    cases hr:zp (v::r) with
    | none=>simp[hr] at h
    | some x =>
     simp only[hr,yd,Al1] at h
     subst h
     exact YG (zch (by omega) (by omega)) (zbp (v::r) x hr)
end Go.Proofs.YtaielcdfcgpbiaaGreatDoor
namespace Go.Proofs.YtaielcdfcgpbiaaGreatDoor
open Go.Ab
open Go.Lib
theorem zgN (c:UInt8):isD c=true→nch c=true:=zbv (P:=fun c=>isD c=true→nch c=true) (by decide +kernel) c
theorem zmb (c:UInt8):isE c=true→nch c=true:=zbv (P:=fun c=>isE c=true→nch c=true) (by decide +kernel) c
theorem zmr (c:UInt8):isD c=true→nst c=true:=zbv (P:=fun c=>isD c=true→nst c=true) (by decide +kernel) c
theorem zaQ:∀(l:List UInt8) (c:UInt8),c∈l.take (zn l)→isD c=true
 | [],c,h=>by simp at h
 | x::l,c,h=>by
  rw[zn] at h
  split at h
  ·rename_i hx
   rw[zab] at h
   rcases List.mem_cons.1 h with e|e
   ·rw[e];exact hx
   ·exact zaQ l c e
  ·simp at h
theorem zhU {l:List UInt8} {a b:Nat} (h:a≤b) {c:UInt8} (hc:c∈l.take a):c∈l.take b :=
 (List.take_prefix_take_left h).subset hc
theorem ziy (s:List UInt8):yT s≤zn s:=by unfold yT;split<;>(try split)<;>omega
theorem zd8 {l:List UInt8} {c:UInt8} (h:c∈l.take (yT l)):isD c=true:=zaQ l c (zhU (ziy l) h)
theorem zfU {s:List UInt8} {c:UInt8} (h:c∈s.take (zi s)):nch c=true:=by
 by_cases h45:s.head?=some 45
 ·cases s with
  | nil=>simp at h
  | cons x t =>
   have hx:x=45:=by simpa using h45
   subst hx
   rw[ZR] at h
   by_cases h0:zn t=0
   ·rw[if_pos h0] at h;simp at h
   ·rw[if_neg h0,Nat.add_comm,zab] at h
    rcases List.mem_cons.1 h with e|e
    ·rw[e];decide
    ·exact zgN c (zd8 e)
 ·rw[Zw h45] at h
  exact zgN c (zd8 h)
theorem zgE {s:List UInt8} {c:UInt8} (h:c∈s.take (zQ s)):nch c=true:=by
 unfold zQ at h
 split at h
 ·rename_i h46
  cases s with
  | nil=>simp at h
  | cons x t =>
   have hx:x=46:=by simpa using h46.1
   subst hx
   simp only[List.tail_cons] at h
   rw[Nat.add_comm,zab] at h
   rcases List.mem_cons.1 h with e|e
   ·rw[e];decide
   ·exact zgN c (zaQ _ c e)
 ·simp at h
theorem zgr {s:List UInt8} (h:zi s≠0):∃ c t,s=c::t∧nst c=true:=by
 cases s with
 | nil=>exact absurd (by decide) h
 | cons c t =>
  refine⟨c,t,rfl,?_⟩
  by_cases hc:c=45
  ·rw[hc];decide
  ·rw[Zw (by simpa using hc)] at h
   apply zmr
   cases hd:isD c with
   | true=>rfl
   | false=>exact absurd (by simp[yT,zn,hd]) h
theorem ziO {r:List UInt8} {c:UInt8} (h:c∈r.take (sgN r)):nch c=true:=by
 unfold sgN at h
 split at h
 ·rename_i hs
  cases r with
  | nil=>simp at h
  | cons x t =>
   simp only[List.head?_cons,Al1] at hs
   simp at h
   subst h
   rcases hs with rfl|rfl<;>decide
 ·simp at h
theorem zhZ:∀(s:List UInt8) (c:UInt8),c∈s.take (y8 s)→nch c=true
 | [],c,h=>by simp at h
 | x::r,c,h=>by
  rw[y8] at h
  split at h
  ·rename_i hx
   split at h
   ·simp at h
   ·rw[Nat.add_assoc,Nat.add_comm,zab] at h
    rcases List.mem_cons.1 h with e|e
    ·rw[e];exact zmb x hx
    ·rw[List.take_add] at e
     rcases List.mem_append.1 e with e|e
     ·exact ziO e
     ·exact zgN c (zaQ _ c e)
  ·simp at h
theorem zi7 {s:List UInt8} (h:zao s≠0):(∀ c∈s,nch c=true)∧∃ c t,s=c::t∧nst c=true:=by
 unfold zao at h
 split at h
 ·rename_i hl
  unfold zL at h hl
  split at h
  ·exact absurd rfl h
  ·rename_i hw
   rw[if_neg hw] at hl
   simp only at hl
   refine⟨fun c hc=>?_,zgr hw⟩
   have e:s=s.take (zi s+zQ (s.drop (zi s))+y8 (s.drop (zi s+zQ (s.drop (zi s))))):=by rw[hl,List.take_length]
   rw[e,List.take_add,List.take_add] at hc
   rcases List.mem_append.1 hc with hc|hc
   ·rcases List.mem_append.1 hc with hc|hc
    ·exact zfU hc
    ·exact zgE hc
   ·exact zhZ _ _ hc
 ·exact absurd rfl h
theorem zcD {s:List UInt8} (h:∀ c∈s,c.toNat<128):validD s=true:=by
 have:=validD_ascii s.length s (fun b hb=>h b (List.mem_of_mem_take hb))
 rw[this,List.drop_length];rfl
end Go.Proofs.YtaielcdfcgpbiaaGreatDoor
namespace Go.Proofs.YtaielcdfcgpbiaaGreatDoor
open Go.Ab
theorem zis (m:List UInt8) (x:Tok) (t:TS):isP m (x::t)=(decide (x.k=1)&&decide (x.s=m)):=rfl
theorem zjA (m n:List UInt8) (t:TS):isP m (pk n::t)=decide (n=m):=by simp[zis,pk]
def Z8 (i:Nat) (m:Int) (t:TS):Int×TS:=if isP [33] t then (m+2 ^ i,t.tail) else (m,t)
def zbw (n i:Nat) (t:TS):PR Unit:=if i<n then yk [93] t else .ok ((),t)
def tyL (n:Nat):Nat→Int→TS→PR Int
 | 0,m,t=>pb (zbw n 0 t) fun _ t=>.ok (Z8 0 m t)
 | i+1,m,t=>pb (zbw n (i+1) t) fun _ t=>tyL n i (Z8 (i+1) m t).1 (Z8 (i+1) m t).2
theorem ziv (n i:Nat) (t:TS):zbw (n+1) (i+1) t=zbw n i t:=by
 unfold zbw
 by_cases h:i<n
 ·rw[if_pos h,if_pos (by omega)]
 ·rw[if_neg h,if_neg (by omega)]
theorem zif (i:Nat) (m:Int) (t:TS):Z8 (i+1) (m*2) t=((Z8 i m t).1*2,(Z8 i m t).2):=by
 unfold Z8
 split
 ·simp only[Al8,and_true];rw[Int.pow_succ];omega
 ·rfl
theorem zkI (n:Nat):∀(i:Nat) (m:Int) (t:TS),tyL (n+1) (i+1) (m*2) t=pb (tyL n i m t) fun m t=>pb (yk [93] t) fun _ t=>.ok (Z8 0 (m*2) t)
 | 0,m,t=>by
  have e:∀(m:Int) (t:TS),tyL (n+1) 0 m t=pb (yk [93] t) fun _ t=>.ok (Z8 0 m t):=fun m t=>by rw[tyL,zbw,if_pos (Nat.succ_pos n)]
  have e1:tyL (n+1) (0+1) (m*2) t=pb (zbw n 0 t) fun _ t=>tyL (n+1) 0 (Z8 (0+1) (m*2) t).1 (Z8 (0+1) (m*2) t).2:=by conv=>lhs;rw[tyL,ziv]
  have e2:tyL n 0 m t=pb (zbw n 0 t) fun _ t=>.ok (Z8 0 m t):=by rw[tyL]
  rw[e1,e2]
  rcases zbw n 0 t with x|⟨_,t1⟩
  ·rfl
  ·simp only[zl]
   rw[zif,e]
   rfl
 | i+1,m,t=>by
  have e1:tyL (n+1) (i+1+1) (m*2) t=pb (zbw n (i+1) t) fun _ t=>tyL (n+1) (i+1) (Z8 (i+1+1) (m*2) t).1 (Z8 (i+1+1) (m*2) t).2:=by conv=>lhs;rw[tyL,ziv]
  have e2:tyL n (i+1) m t=pb (zbw n (i+1) t) fun _ t=>tyL n i (Z8 (i+1) m t).1 (Z8 (i+1) m t).2:=by rw[tyL]
  rw[e1,e2]
  rcases zbw n (i+1) t with x|⟨_,t1⟩
  ·rfl
  ·simp only[zl]
   rw[zif,zkI n i]
theorem zeK:∀(n k:Nat) (u:TS),n≤k→isP [91] u=false→zan k (List.replicate n (pk [91])++u)=pb (ya u) fun s t=>pb (tyL n n 0 t) fun m t=>.ok (⟨s,n,m⟩,t)
 | 0,k,u,_,hu=>by
  rw[List.replicate_zero,zar,Z4,zcS.eq_def,hu]
  simp only[Al7,if_false]
  rcases ya u with x|⟨s,t⟩
  ·rfl
  ·simp only[zl,tyL,zbw,Nat.lt_irrefl,if_false]
   unfold zaI Z8
   cases isP [33] t<;>simp[pb]
 | n+1,0,u,h,_=>by omega
 | n+1,k+1,u,h,hu=>by
  rw[List.replicate_succ,Al6,Z4,zcS.eq_def,zjA,zg3]
  simp only[decide_true,if_true,List.tail_cons]
  rw[zeK n k u (by omega) hu]
  rcases ya u with x|⟨s,t⟩
  ·rfl
  ·simp only[zl]
   have e:=zkI n n 0 t
   rw[Int.zero_mul] at e
   rw[e]
   rcases tyL n n 0 t with x|⟨m,t1⟩
   ·rfl
   ·simp only[zl]
    rcases yk [93] t1 with x|⟨_,t2⟩
    ·rfl
    ·simp only[zl]
     unfold zaI Z8
     cases isP [33] t2<;>simp[pb]
def tyN (n:Nat):Nat→Int→TS→PR Int
 | 0,m,t=>.ok (m,t)
 | i+1,m,t=>tyL n i m t
theorem zli (n i:Nat) (m:Int) (t:TS):tyL n i m t=pb (zbw n i t) fun _ t=>tyN n i (Z8 i m t).1 (Z8 i m t).2:=by cases i<;>rfl
theorem zeq:∀(k:Nat) (u:TS),isP [91] u=true→zan k (List.replicate k (pk [91])++u)=.error 4
 | 0,u,hu=>by rw[List.replicate_zero,zar,Z4,zcS.eq_def,hu];rfl
 | k+1,u,hu=>by
  rw[List.replicate_succ,Al6,Z4,zcS.eq_def,zjA,zg3]
  simp only[decide_true,if_true,List.tail_cons]
  rw[zeq k u hu];rfl
theorem zlm {m:List UInt8} {t:TS} (h:isP m t=true):t=pk m::t.tail:=by
 have h2:=zcT (zdS h)
 simp only[isP,Al0,zu] at h
 rw[h2]
 congr 1
 cases hx:hdT t with|mk k s=>rw[hx] at h;simp only at h;rw[h.1,h.2];rfl
theorem zjo (n:Nat) (x:Tok) (u:TS):List.replicate n x++x::u=List.replicate (n+1) x++u:=by
 rw[List.replicate_succ',zcP];rfl
theorem zlM:∀ i:Fin 5,∀ m:Fin 32,m.val % 2 ^ (i.val+1)=0→IntKind.wrap .i64 ((BitVec.ofInt IntKind.i64.bits ((m.val:Nat):Int) ||| BitVec.ofInt IntKind.i64.bits (((2 ^ i.val:Nat)):Int)).toNat:Int)=((m.val+2 ^ i.val:Nat):Int):=by decide +kernel
theorem zmp:∀ i:Fin 5,IntKind.wrap .i64 (1*2 ^ min i.val IntKind.i64.bits)=((2 ^ i.val:Nat):Int):=by decide +kernel
theorem zkC:∀ i:Fin 5,∀ m:Fin 32,m.val % 2 ^ (i.val+1)=0→m.val+2 ^ i.val<32∧(m.val+2 ^ i.val) % 2 ^ i.val=0:=by decide +kernel
abbrev zT:List AV:=[.str [],.int .i64 0,.int .i64 0]
theorem zk2 {H:Heap} {r:Nat} {L p t:TS} {dp:Nat} (hs:p++t=L) (hl:wT L≤zk) (hr:H r=some (prc L p dp)) :
  ACalls Tryz.prog 38 [.ptr r 0] H (RpE H r L dp (zan 4 t) (fun x=>.agg (cTy x))):=by
 refine yD (ACalls.goO (R:=fun v H'=>zbb H r L dp (zan 4 t) (fun x=>.agg (cTy x)) v.strip H') (RP:=fun v H'=>zbt (zan 4 t) v H') ir38 ck38 (Al4 _) fun KP Q hQ hP=>?_)
 have hll:L.length≤zk:=Nat.le_trans (Zp L) hl
 have hll2:=hll
 simp only[zk] at hll2
 have pan:∀(v:AV) (H1:Heap) (n:Int),v=yt n→zan 4 t=.error n→KP v H1:=fun v H1 n h1 h2=>hP v H1 H1 (Low.refl _) ⟨n,h2,h1⟩
 have fin:=KI.done hQ
 have K0:=KI.start hs hr
 simp(disch:=omega) only[ir38,steps,st2,pev,rev,oev,optr,ibin,sbin,ishf,bound,mmAll,mm2,mk,mkArgs,AV.cells,AV.boxable,AV.one,AV.strip1,fillA,fillS,Nat.reduceEqDiff,reduceCtorEq,↓reduceIte,Nat.reduceAdd,Int.reduceNeg,Nat.reduceLeDiff,Int.reduceToNat,Int.reduceEq,Int.reduceLT,Int.reduceLE,Int.reduceAdd,Io,Im,If,Il,Jt,Jf,AC.rg,Jm,Jl,Ja,Fm,Fl,Fa,Imv,Imb,Iai,Iei,Igi,Isi,Ipf,Ipt,Ilb,Iia,Ilt,Iap,Ink,Iln,Ils,Iad,Iex,Ibx,Ing]
 refine goA_intro fun b2 hb2=>?_
 have n2:=K0.ne hb2
 have n2s:=Ne.symm n2
 have K1:=K0.box (x:=.cells zT) hb2
 simp(disch:=omega) only[steps,st2,pev,rev,oev,optr,ibin,sbin,ishf,bound,mmAll,mm2,mk,mkArgs,AV.cells,AV.boxable,AV.one,AV.strip1,fillA,fillS,Nat.reduceEqDiff,reduceCtorEq,↓reduceIte,Nat.reduceAdd,Int.reduceNeg,Nat.reduceLeDiff,Int.reduceToNat,Int.reduceEq,Int.reduceLT,Int.reduceLE,Int.reduceAdd]
 refine goL_st (fun x:Nat×TS=>[(3,.int .i64 (x.1:Int))]) (fun x H'=>KI H r L x.2 dp H'∧H' b2=some (.cells zT)∧x.1≤4∧t=List.replicate x.1 (pk [91])++x.2) (fun x=>x.2.length) (0,t) (by simp(disch:=omega) only[steps,st2,pev,rev,oev,optr,ibin,sbin,ishf,bound,mmAll,mm2,mk,mkArgs,AV.cells,AV.boxable,AV.one,AV.strip1,fillA,fillS,Nat.reduceEqDiff,reduceCtorEq,↓reduceIte,Nat.reduceAdd,Int.reduceNeg,Nat.reduceLeDiff,Int.reduceToNat,Int.reduceEq,Int.reduceLT,Int.reduceLE,Int.reduceAdd]) ⟨K1,upd_same ..,Nat.zero_le _,rfl⟩ ?_
 rintro⟨n,u⟩ H1 J ⟨K2,g2,hn4,htu⟩ hJ
 simp only at K2 g2 hn4 htu
 obtain⟨p2,hp2,hr2⟩:=K2.here
 have hpl2:p2.length+u.length=L.length:=by rw[← hp2];simp
 have hr2':=hr2
 simp only[prc] at hr2'
 simp(disch:=omega) only[steps,st2,pev,rev,oev,optr,ibin,sbin,ishf,bound,mmAll,mm2,mk,mkArgs,AV.cells,AV.boxable,AV.one,AV.strip1,fillA,fillS,Nat.reduceEqDiff,reduceCtorEq,↓reduceIte,Nat.reduceAdd,Int.reduceNeg,Nat.reduceLeDiff,Int.reduceToNat,Int.reduceEq,Int.reduceLT,Int.reduceLE,Int.reduceAdd]
 refine goK_ret (zlw hp2 hr2 [91]) fun v H2 ⟨hv2,hH⟩=>?_
 subst hv2;subst hH
 cases hi:isP [91] u with
 | true =>
  by_cases h4:n=4
  ·have h4':((n:Int)=4)=True:=eq_true (by omega)
   simp(disch:=omega) only[h4',steps,st2,pev,rev,oev,optr,ibin,sbin,ishf,bound,mmAll,mm2,mk,mkArgs,AV.cells,AV.boxable,AV.one,AV.strip1,fillA,fillS,Nat.reduceEqDiff,reduceCtorEq,↓reduceIte,Nat.reduceAdd,Int.reduceNeg,Nat.reduceLeDiff,Int.reduceToNat,Int.reduceEq,Int.reduceLT,Int.reduceLE,Int.reduceAdd]
   exact goK_both (zaA _ r 4) (fun _ _ h=>h.elim) fun v H3 h=>pan v H3 4 h (by rw[htu,h4];exact zeq 4 u hi)
  ·have h4':¬ ((n:Int)=4):=by omega
   have hlt:=zcW hi
   simp(disch:=omega) only[h4',hr2',wrap64,steps,st2,pev,rev,oev,optr,ibin,sbin,ishf,bound,mmAll,mm2,mk,mkArgs,AV.cells,AV.boxable,AV.one,AV.strip1,fillA,fillS,Nat.reduceEqDiff,reduceCtorEq,↓reduceIte,Nat.reduceAdd,Int.reduceNeg,Nat.reduceLeDiff,Int.reduceToNat,Int.reduceEq,Int.reduceLT,Int.reduceLE,Int.reduceAdd]
   refine goJ (hJ (n+1,u.tail) _ hlt ⟨K2.call (Yh hp2 (zdS hi) _),by rw[upd_ne n2s];exact g2,by simp only;omega,?_⟩) (by simp(disch:=omega) only[Int.natCast_add,steps,st2,pev,rev,oev,optr,ibin,sbin,ishf,bound,mmAll,mm2,mk,mkArgs,AV.cells,AV.boxable,AV.one,AV.strip1,fillA,fillS,Nat.reduceEqDiff,reduceCtorEq,↓reduceIte,Nat.reduceAdd,Int.reduceNeg,Nat.reduceLeDiff,Int.reduceToNat,Int.reduceEq,Int.reduceLT,Int.reduceLE,Int.reduceAdd])
   simp only
   rw[← zjo,← zlm hi];exact htu
 | false =>
  have hx:zan 4 t=pb (ya u) fun s t=>pb (tyL n n 0 t) fun m t=>.ok (⟨s,n,m⟩,t):=by rw[htu];exact zeK n 4 u hn4 hi
  simp(disch:=omega) only[steps,st2,pev,rev,oev,optr,ibin,sbin,ishf,bound,mmAll,mm2,mk,mkArgs,AV.cells,AV.boxable,AV.one,AV.strip1,fillA,fillS,Nat.reduceEqDiff,reduceCtorEq,↓reduceIte,Nat.reduceAdd,Int.reduceNeg,Nat.reduceLeDiff,Int.reduceToNat,Int.reduceEq,Int.reduceLT,Int.reduceLE,Int.reduceAdd]
  refine goK_both (zdq hp2 hll hr2) (fun v H3 ⟨s,t3,e3,hv3,ha3⟩=>?_) fun v H3 ⟨n3,e3,hv3⟩=>pan v H3 n3 hv3 (by rw[hx,e3];rfl)
  subst hv3
  rw[e3,zl] at hx
  have K3:=K2.call ha3
  have g32:H3 b2=some (.cells zT):=by rw[ha3.other n2s,g2]
  simp(disch:=omega) only[steps,st2,pev,rev,oev,optr,ibin,sbin,ishf,bound,mmAll,mm2,mk,mkArgs,AV.cells,AV.boxable,AV.one,AV.strip1,fillA,fillS,Nat.reduceEqDiff,reduceCtorEq,↓reduceIte,Nat.reduceAdd,Int.reduceNeg,Nat.reduceLeDiff,Int.reduceToNat,Int.reduceEq,Int.reduceLT,Int.reduceLE,Int.reduceAdd]
  refine goA_intro fun b4 hb4=>?_
  have h42:b4≠b2:=fun e=>by subst e;rw[g32] at hb4;cases hb4
  have hb4H:H b4=none:=K3.none hb4
  have n4:=K0.ne hb4H
  have n4s:=Ne.symm n4
  have K4:=K3.box (x:=.cells [.str s,.int .i64 (n:Int),.int .i64 0]) hb4H
  obtain⟨R,hR⟩:∃ R,tyL n n 0 t3=R:=⟨_,rfl⟩
  rw[hR] at hx
  simp(disch:=omega) only[steps,st2,pev,rev,oev,optr,ibin,sbin,ishf,bound,mmAll,mm2,mk,mkArgs,AV.cells,AV.boxable,AV.one,AV.strip1,fillA,fillS,Nat.reduceEqDiff,reduceCtorEq,↓reduceIte,Nat.reduceAdd,Int.reduceNeg,Nat.reduceLeDiff,Int.reduceToNat,Int.reduceEq,Int.reduceLT,Int.reduceLE,Int.reduceAdd]
  have hj0:((n:Int):Int)=(((n+1:Nat):Int)-1):=by omega
  refine goL_st (fun x:Nat×Nat×TS=>[(5,.int .i64 ((x.1:Int)-1))]) (fun x H'=>KI H r L x.2.2 dp H'∧H' b2=some (.cells zT)∧H' b4=some (.cells [.str s,.int .i64 (n:Int),.int .i64 (x.2.1:Int)])∧x.1≤n+1∧x.2.1<32∧x.2.1 % 2 ^ x.1=0∧tyN n x.1 (x.2.1:Int) x.2.2=R) (fun x=>x.1) (n+1,0,t3) (by rw[← hj0];simp(disch:=omega) only[steps,st2,pev,rev,oev,optr,ibin,sbin,ishf,bound,mmAll,mm2,mk,mkArgs,AV.cells,AV.boxable,AV.one,AV.strip1,fillA,fillS,Nat.reduceEqDiff,reduceCtorEq,↓reduceIte,Nat.reduceAdd,Int.reduceNeg,Nat.reduceLeDiff,Int.reduceToNat,Int.reduceEq,Int.reduceLT,Int.reduceLE,Int.reduceAdd]) ⟨K4,by rw[upd_ne (Ne.symm h42)];exact g32,upd_same ..,Al4 _,by show 0<32;decide,Nat.zero_mod _,hR⟩ ?_
  rintro⟨j,m,u5⟩ H5 J5 ⟨K5,g52,g54,hj,hm,hmd,he⟩ hJ5
  simp only at K5 g52 g54 hj hm hmd he
  obtain⟨p5,hp5,hr5⟩:=K5.here
  cases j with
  | zero =>
   have hneg:¬ ((0:Int)≤-1):=by decide
   have hz1:(0:Int)-1=-1:=rfl
   have e1:R=.ok ((m:Int),u5):=he.symm
   simp only[zT] at g52
   simp(disch:=omega) only[hz1,hneg,g52,g54,h42,Ne.symm h42,steps,st2,pev,rev,oev,optr,ibin,sbin,ishf,bound,mmAll,mm2,mk,mkArgs,AV.cells,AV.boxable,AV.one,AV.strip1,fillA,fillS,Nat.reduceEqDiff,reduceCtorEq,↓reduceIte,Nat.reduceAdd,Int.reduceNeg,Nat.reduceLeDiff,Int.reduceToNat,Int.reduceEq,Int.reduceLT,Int.reduceLE,Int.reduceAdd]
   exact fin _ _ [.agg [.str s,.int .i64 (n:Int),.int .i64 (m:Int)]] ⟨s,n,m⟩ u5 (by simp(disch:=omega) only[ir38,resvs,resv,steps,st2,pev,rev,oev,optr,ibin,sbin,ishf,bound,mmAll,mm2,mk,mkArgs,AV.cells,AV.boxable,AV.one,AV.strip1,fillA,fillS,Nat.reduceEqDiff,reduceCtorEq,↓reduceIte,Nat.reduceAdd,Int.reduceNeg,Nat.reduceLeDiff,Int.reduceToNat,Int.reduceEq,Int.reduceLT,Int.reduceLE,Int.reduceAdd,Io,Im,If,Il,Jt,Jf,AC.rg,Jm,Jl,Ja,Fm,Fl,Fa,Imv,Imb,Iai,Iei,Igi,Isi,Ipf,Ipt,Ilb,Iia,Ilt,Iap,Ink,Iln,Ils,Iad,Iex,Ibx,Ing]) (by rw[hx,e1];rfl) (K5.box hb2) (by simp[tupOf,AV.strip,AV.strip1,cTy])
  | succ i =>
   have hge:((0:Int)≤(((i+1:Nat):Int)-1))=True:=eq_true (by omega)
   have hi5:(((i+1:Nat):Int)-1)=(i:Int):=by omega
   have e1:tyL n i (m:Int) u5=R:=he
   rw[zli,zbw] at e1
   by_cases hin:i<n
   ·have hin':((i:Int)<(n:Int))=True:=eq_true (by omega)
    rw[if_pos hin] at e1
    simp(disch:=omega) only[hge,hi5,hin',steps,st2,pev,rev,oev,optr,ibin,sbin,ishf,bound,mmAll,mm2,mk,mkArgs,AV.cells,AV.boxable,AV.one,AV.strip1,fillA,fillS,Nat.reduceEqDiff,reduceCtorEq,↓reduceIte,Nat.reduceAdd,Int.reduceNeg,Nat.reduceLeDiff,Int.reduceToNat,Int.reduceEq,Int.reduceLT,Int.reduceLE,Int.reduceAdd]
    refine goK_both (zfb hp5 hll hr5 [93]) (fun v H6 ⟨_,t6,e6,hv6,ha6⟩=>?_) fun v H6 ⟨n6,e6,hv6⟩=>pan v H6 n6 hv6 (by rw[hx,← e1,e6];rfl)
    subst hv6
    rw[e6,zl] at e1
    have K6:=K5.call ha6
    have g62:H6 b2=some (.cells zT):=by rw[ha6.other n2s,g52]
    have g64:H6 b4=some (.cells [.str s,.int .i64 (n:Int),.int .i64 (m:Int)]):=by rw[ha6.other n4s,g54]
    obtain⟨p6,hp6,hr6⟩:=K6.here
    simp(disch:=omega) only[steps,st2,pev,rev,oev,optr,ibin,sbin,ishf,bound,mmAll,mm2,mk,mkArgs,AV.cells,AV.boxable,AV.one,AV.strip1,fillA,fillS,Nat.reduceEqDiff,reduceCtorEq,↓reduceIte,Nat.reduceAdd,Int.reduceNeg,Nat.reduceLeDiff,Int.reduceToNat,Int.reduceEq,Int.reduceLT,Int.reduceLE,Int.reduceAdd]
    refine goK_ret (zbe hp6 hll hr6 [33]) fun v H7 ⟨hv7,ha7⟩=>?_
    subst hv7
    have g72:H7 b2=some (.cells zT):=by rw[ha7.other n2s,g62]
    have g74:H7 b4=some (.cells [.str s,.int .i64 (n:Int),.int .i64 (m:Int)]):=by rw[ha7.other n4s,g64]
    have K7:=K6.call ha7
    cases hb:isP [33] t6 with
    | true =>
     simp only[Z8,hb,if_true] at e1
     rw[Zu,hb,if_pos rfl] at K7
     have ho:=zlM ⟨i,by omega⟩ ⟨m,hm⟩ hmd
     have hob:=zkC ⟨i,by omega⟩ ⟨m,hm⟩ hmd
     have hsh:=zmp ⟨i,by omega⟩
     simp only at ho hob hsh
     have hi0:¬ ((i:Int)<0):=by omega
     simp(disch:=omega) only[g74,hi0,hsh,ho,steps,st2,pev,rev,oev,optr,ibin,sbin,ishf,bound,mmAll,mm2,mk,mkArgs,AV.cells,AV.boxable,AV.one,AV.strip1,fillA,fillS,Nat.reduceEqDiff,reduceCtorEq,↓reduceIte,Nat.reduceAdd,Int.reduceNeg,Nat.reduceLeDiff,Int.reduceToNat,Int.reduceEq,Int.reduceLT,Int.reduceLE,Int.reduceAdd]
     refine goJ (hJ5 (i,m+2 ^ i,t6.tail) _ (Nat.lt_succ_self _) ⟨K7.box hb4H,by rw[upd_ne (Ne.symm h42)];exact g72,upd_same ..,by simp only;omega,hob.1,hob.2,by simp only;rw[← e1];simp⟩) (by simp(disch:=omega) only[wrap64,steps,st2,pev,rev,oev,optr,ibin,sbin,ishf,bound,mmAll,mm2,mk,mkArgs,AV.cells,AV.boxable,AV.one,AV.strip1,fillA,fillS,Nat.reduceEqDiff,reduceCtorEq,↓reduceIte,Nat.reduceAdd,Int.reduceNeg,Nat.reduceLeDiff,Int.reduceToNat,Int.reduceEq,Int.reduceLT,Int.reduceLE,Int.reduceAdd])
    | false =>
     simp only[Z8,hb,Al7,if_false] at e1
     rw[Zu,hb] at K7
     simp only[Al7,if_false] at K7
     have hmd2:m % 2 ^ i=0:=by
      have h3:2 ^ i∣2 ^ (i+1):=⟨2,by rw[Nat.pow_succ]⟩
      exact Nat.mod_eq_zero_of_dvd (Nat.dvd_trans h3 (Nat.dvd_of_mod_eq_zero hmd))
     simp(disch:=omega) only[steps,st2,pev,rev,oev,optr,ibin,sbin,ishf,bound,mmAll,mm2,mk,mkArgs,AV.cells,AV.boxable,AV.one,AV.strip1,fillA,fillS,Nat.reduceEqDiff,reduceCtorEq,↓reduceIte,Nat.reduceAdd,Int.reduceNeg,Nat.reduceLeDiff,Int.reduceToNat,Int.reduceEq,Int.reduceLT,Int.reduceLE,Int.reduceAdd]
     refine goJ (hJ5 (i,m,t6) _ (Nat.lt_succ_self _) ⟨K7,g72,g74,by simp only;omega,hm,hmd2,e1⟩) (by simp(disch:=omega) only[wrap64,steps,st2,pev,rev,oev,optr,ibin,sbin,ishf,bound,mmAll,mm2,mk,mkArgs,AV.cells,AV.boxable,AV.one,AV.strip1,fillA,fillS,Nat.reduceEqDiff,reduceCtorEq,↓reduceIte,Nat.reduceAdd,Int.reduceNeg,Nat.reduceLeDiff,Int.reduceToNat,Int.reduceEq,Int.reduceLT,Int.reduceLE,Int.reduceAdd])
   ·have hin':¬ ((i:Int)<(n:Int)):=by omega
    rw[if_neg hin,zl] at e1
    simp(disch:=omega) only[hge,hi5,hin',steps,st2,pev,rev,oev,optr,ibin,sbin,ishf,bound,mmAll,mm2,mk,mkArgs,AV.cells,AV.boxable,AV.one,AV.strip1,fillA,fillS,Nat.reduceEqDiff,reduceCtorEq,↓reduceIte,Nat.reduceAdd,Int.reduceNeg,Nat.reduceLeDiff,Int.reduceToNat,Int.reduceEq,Int.reduceLT,Int.reduceLE,Int.reduceAdd]
    refine goK_ret (zbe hp5 hll hr5 [33]) fun v H7 ⟨hv7,ha7⟩=>?_
    subst hv7
    have g72:H7 b2=some (.cells zT):=by rw[ha7.other n2s,g52]
    have g74:H7 b4=some (.cells [.str s,.int .i64 (n:Int),.int .i64 (m:Int)]):=by rw[ha7.other n4s,g54]
    have K7:=K5.call ha7
    cases hb:isP [33] u5 with
    | true =>
     simp only[Z8,hb,if_true] at e1
     rw[Zu,hb,if_pos rfl] at K7
     have ho:=zlM ⟨i,by omega⟩ ⟨m,hm⟩ hmd
     have hob:=zkC ⟨i,by omega⟩ ⟨m,hm⟩ hmd
     have hsh:=zmp ⟨i,by omega⟩
     simp only at ho hob hsh
     have hi0:¬ ((i:Int)<0):=by omega
     simp(disch:=omega) only[g74,hi0,hsh,ho,steps,st2,pev,rev,oev,optr,ibin,sbin,ishf,bound,mmAll,mm2,mk,mkArgs,AV.cells,AV.boxable,AV.one,AV.strip1,fillA,fillS,Nat.reduceEqDiff,reduceCtorEq,↓reduceIte,Nat.reduceAdd,Int.reduceNeg,Nat.reduceLeDiff,Int.reduceToNat,Int.reduceEq,Int.reduceLT,Int.reduceLE,Int.reduceAdd]
     refine goJ (hJ5 (i,m+2 ^ i,u5.tail) _ (Nat.lt_succ_self _) ⟨K7.box hb4H,by rw[upd_ne (Ne.symm h42)];exact g72,upd_same ..,by simp only;omega,hob.1,hob.2,by simp only;rw[← e1];simp⟩) (by simp(disch:=omega) only[wrap64,steps,st2,pev,rev,oev,optr,ibin,sbin,ishf,bound,mmAll,mm2,mk,mkArgs,AV.cells,AV.boxable,AV.one,AV.strip1,fillA,fillS,Nat.reduceEqDiff,reduceCtorEq,↓reduceIte,Nat.reduceAdd,Int.reduceNeg,Nat.reduceLeDiff,Int.reduceToNat,Int.reduceEq,Int.reduceLT,Int.reduceLE,Int.reduceAdd])
    | false =>
     simp only[Z8,hb,Al7,if_false] at e1
     rw[Zu,hb] at K7
     simp only[Al7,if_false] at K7
     have hmd2:m % 2 ^ i=0:=by
      have h3:2 ^ i∣2 ^ (i+1):=⟨2,by rw[Nat.pow_succ]⟩
      exact Nat.mod_eq_zero_of_dvd (Nat.dvd_trans h3 (Nat.dvd_of_mod_eq_zero hmd))
     simp(disch:=omega) only[steps,st2,pev,rev,oev,optr,ibin,sbin,ishf,bound,mmAll,mm2,mk,mkArgs,AV.cells,AV.boxable,AV.one,AV.strip1,fillA,fillS,Nat.reduceEqDiff,reduceCtorEq,↓reduceIte,Nat.reduceAdd,Int.reduceNeg,Nat.reduceLeDiff,Int.reduceToNat,Int.reduceEq,Int.reduceLT,Int.reduceLE,Int.reduceAdd]
     refine goJ (hJ5 (i,m,u5) _ (Nat.lt_succ_self _) ⟨K7,g72,g74,by simp only;omega,hm,hmd2,e1⟩) (by simp(disch:=omega) only[wrap64,steps,st2,pev,rev,oev,optr,ibin,sbin,ishf,bound,mmAll,mm2,mk,mkArgs,AV.cells,AV.boxable,AV.one,AV.strip1,fillA,fillS,Nat.reduceEqDiff,reduceCtorEq,↓reduceIte,Nat.reduceAdd,Int.reduceNeg,Nat.reduceLeDiff,Int.reduceToNat,Int.reduceEq,Int.reduceLT,Int.reduceLE,Int.reduceAdd])
theorem zcJ (a b c d e f g h i j:AV) (v:Val):splice [a,b,c,d,e,f,g,h,i,j] 5 (cV v)=a::b::c::d::e::cV v:=by cases v;rfl
theorem ziq (a b c d e:AV) (v:Val):(a::b::c::d::e::cV v).take 10=a::b::c::d::e::cV v:=by cases v;rfl
theorem zdb (a b c d e:AV) (v:Val):(a::b::c::d::e::cV v).length=10:=by cases v;rfl
theorem zbg (a b c d e f g h i j a' b' c' d' e':AV) (v:Val):splice [a,b,c,d,e,f,g,h,i,j] 0 (a'::b'::c'::d'::e'::cV v)=a'::b'::c'::d'::e'::cV v:=by cases v;rfl
abbrev zW:List AV:=[.str [],.str [],.int .i64 0,.int .i64 0,.bool false,.int .i64 0,.int .i64 0,.str [],.sl .nil 5 [],.sl .nil 6 []]
structure FldD where
 nm:List UInt8
 ps:List VarD
 t:TyD
 dirs:List DirD
structure DefD where
 k:Int
 nm:List UInt8
 faces:List (List UInt8)
 flds:List FldD
 parts:List (List UInt8)
 ps:List VarD
structure SchD where
 defs:List DefD
 q:List UInt8
 m:List UInt8
def cL (x:FldD):List AV:=[.str x.nm,.sl .no 10 (cWs x.ps),.str x.t.nm,.int .i64 x.t.lists,.int .i64 x.t.musts,.sl .no 2 (cDs x.dirs)]
def cLs (l:List FldD):List (List AV):=l.map cL
def cE (x:DefD):List AV:=[.int .i64 x.k,.str x.nm,.sl .no 1 (cT x.faces),.sl .no 6 (cLs x.flds),.sl .no 1 (cT x.parts),.sl .no 10 (cWs x.ps)]
def cEs (l:List DefD):List (List AV):=l.map cE
def zcB (s:SchD):List AV:=[.sl .no 6 (cEs s.defs),.str s.q,.str s.m]
theorem zaa (l:List FldD):(cLs l).length=l.length:=by simp[cLs]
theorem zcZ (l:List DefD):(cEs l).length=l.length:=by simp[cEs]
theorem zkb {l a:List FldD} {x:FldD} {b:List FldD} (h:l=a++x::b):(cLs l).getD a.length []=cL x:=getD_mid' h
theorem zfl {l a:List DefD} {x:DefD} {b:List DefD} (h:l=a++x::b):(cEs l).getD a.length []=cE x:=getD_mid' h
theorem yO (x:FldD):(cL x).map AV.strip1=cL x:=rfl
theorem yw (x:DefD):(cE x).map AV.strip1=cE x:=rfl
theorem yA (l:List FldD):(cLs l).map (·.map AV.strip1)=cLs l:=by rw[cLs,List.map_map];exact List.map_congr_left fun v _=>yO v
theorem zlS (nm:List UInt8) (ps:List VarD) (tn:List UInt8) (tl tm:Int) (dirs:List DirD):cL ⟨nm,ps,⟨tn,tl,tm⟩,dirs⟩=[.str nm,.sl .no 10 (cWs ps),.str tn,.int .i64 tl,.int .i64 tm,.sl .no 2 (cDs dirs)]:=rfl
theorem ziI (k:Int) (nm:List UInt8) (faces:List (List UInt8)) (flds:List FldD) (parts:List (List UInt8)) (ps:List VarD):cE ⟨k,nm,faces,flds,parts,ps⟩=[.int .i64 k,.str nm,.sl .no 1 (cT faces),.sl .no 6 (cLs flds),.sl .no 1 (cT parts),.sl .no 10 (cWs ps)]:=rfl
def bT (l:List (List UInt8)):Nat:=(l.map fun s=>1+s.length).sum
def bL (x:FldD):Nat:=1+x.nm.length+bWs x.ps+x.t.nm.length+bDs x.dirs
def bLs (l:List FldD):Nat:=(l.map bL).sum
def bE (x:DefD):Nat:=1+x.nm.length+bT x.faces+bLs x.flds+bT x.parts+bWs x.ps
def bEs (l:List DefD):Nat:=(l.map bE).sum
def zgK (s:SchD):Nat:=bEs s.defs+s.q.length+s.m.length
theorem ziQ (l:List (List UInt8)):l.length≤bT l:=za0 (fun x=>by omega) l
theorem zjP (l:List FldD):l.length≤bLs l:=za0 (fun x=>by simp only[bL];omega) l
theorem zjL (l:List DefD):l.length≤bEs l:=za0 (fun x=>by simp only[bE];omega) l
theorem zks (a:List FldD) (x:FldD) (b:List FldD):bLs (a++x::b)=bLs a+bL x+bLs b:=zcY ..
theorem zkl (a:List DefD) (x:DefD) (b:List DefD):bEs (a++x::b)=bEs a+bE x+bEs b:=zcY ..
def wfL (x:FldD):Prop:=(∀ y∈x.ps,wfW y)∧inR x.t.lists∧inR x.t.musts∧zlW x.dirs
def wfE (x:DefD):Prop:=(∀ y∈x.flds,wfL y)∧∀ y∈x.ps,wfW y
def zlF (s:SchD):Prop:=∀ x∈s.defs,wfE x
def zI (t:TS):TS:=if (hdT t).k=5 then t.tail else t
def yy (t:TS):PR VarD:=pb (ya (zI t)) fun s t=>pb (yk [58] t) fun _ t=>pb (zan 4 t) fun ty t =>
 if isP [61] t then pb (yW true 16 t.tail) fun v t=>.ok (⟨s,ty,true,v⟩,t) else .ok (⟨s,ty,false,zV⟩,t)
def yY (t:TS):PR FldD:=pb (ya (zI t)) fun s t=>pb (if isP [40] t then yS [41] yy t.tail else .ok ([],t)) fun ps t=>pb (yk [58] t) fun _ t=>pb (zan 4 t) fun ty t =>
 pb (zbf true 16 t) fun d t=>.ok (⟨s,ps,ty,d⟩,t)
def ZM (m:List UInt8) (t:TS):PR (List (List UInt8)):=pb (ya (if isP m t then t.tail else t)) fun s t=>y9 m ya (t.length+1) [s] t
def Z3 (t:TS):PR (List UInt8):=if isW [116,114,117,101] (zI t)∨isW [102,97,108,115,101] (zI t)∨isW [110,117,108,108] (zI t) then .error 2 else ya (zI t)
def za9 (k:Int) (t:TS):PR DefD:=pb (ya t) fun s t=>pb (if isW [105,109,112,108,101,109,101,110,116,115] t then ZM [38] t.tail else .ok ([],t)) fun fs t=>pb (yk [123] t) fun _ t=>pb (yS [125] yY t) fun l t=>.ok (⟨k,s,fs,l,[],[]⟩,t)
def Y2 (t:TS):PR DefD:=pb (ya t) fun s t=>pb (yk [123] t) fun _ t=>pb (yS [125] Z3 t) fun l t=>.ok (⟨4,s,[],[],l,[]⟩,t)
def ZN (t:TS):PR DefD:=pb (ya t) fun s t=>pb (yk [61] t) fun _ t=>pb (ZM [124] t) fun l t=>.ok (⟨3,s,[],[],l,[]⟩,t)
def ZQ (t:TS):PR DefD:=pb (ya t) fun s t=>pb (yk [123] t) fun _ t=>pb (yS [125] yy t) fun l t=>.ok (⟨5,s,[],[],[],l⟩,t)
structure SR where
 defs:List DefD
 q:List UInt8
 m:List UInt8
 told:Bool
def zam (d:SR) (t:TS):PR SR:=pb (yk [123] t) fun _ t=>pb (if isW [113,117,101,114,121] t then .ok ((),t.tail) else .error 2) fun _ t=>pb (yk [58] t) fun _ t=>pb (ya t) fun q t =>
 pb (if isW [109,117,116,97,116,105,111,110] t then pb (yk [58] t.tail) fun _ t=>ya t else .ok ([],t)) fun m t=>pb (yk [125] t) fun _ t=>.ok (⟨d.defs,q,m,true⟩,t)
def Zy (d:SR) (x:DefD):SR:=⟨d.defs++[x],d.q,d.m,d.told⟩
def YL (d:SR) (t:TS):PR SR :=
 if d.told=false∧isW [115,99,104,101,109,97] t then zam d t.tail
 else if isW [116,121,112,101] t then pb (za9 1 t.tail) fun x t=>.ok (Zy d x,t)
 else if isW [105,110,116,101,114,102,97,99,101] t then pb (za9 2 t.tail) fun x t=>.ok (Zy d x,t)
 else if isW [117,110,105,111,110] t then pb (ZN t.tail) fun x t=>.ok (Zy d x,t)
 else if isW [101,110,117,109] t then pb (Y2 t.tail) fun x t=>.ok (Zy d x,t)
 else if isW [105,110,112,117,116] t then pb (ZQ t.tail) fun x t=>.ok (Zy d x,t)
 else .error 2
def zN (d:SR) (t:TS):PR SR:=YL d (zI t)
def Yu:Nat→SR→TS→PR SR
 | 0,_,_=>.error 0
 | n+1,d,t=>if t=[] then .ok (d,t) else pb (zN d t) fun d t=>Yu n d t
def sr0:SR:=⟨[],[],[],false⟩
def zcj (t:TS):PR SR:=pb (zN sr0 t) fun d t=>Yu (t.length+1) d t
def zbO (d:SR):SchD:=if d.told then ⟨d.defs,d.q,d.m⟩ else ⟨d.defs,[81,117,101,114,121],if d.defs.any fun x=>decide (x.nm=[77,117,116,97,116,105,111,110]) then [77,117,116,97,116,105,111,110] else []⟩
def zfD (may:UInt8→Bool) (t:List UInt8):AV:=match Zc may t with
 | some (b,t')=>.tup [.str b,.int .i64 ((t.length+1-t'.length:Nat):Int)]
 | none=>.tup [.str [],.int .i64 0]
theorem zjF (f : FuncId) (hf : Program.callable Tryz.prog f = true) (may : UInt8 → Bool) (hmay : ∀ c : UInt8, Pure Tryz.prog f [.int .u8 c.toNat] (.bool (may c))) (a : UInt8) (t : List UInt8) (hl : t.length + 1 ≤ Zi) :
    Pure Tryz.prog 120 [.str (a :: t), .clo f [] []] (zfD may t) := by
  refine Pure.go ir120 ck120 (Al4 _) fun KP Q hQ => ?_
  simp only [Zi] at hl
  simp (disch := omega) only [ir120, go_sem]
  refine goA_intro fun q hq => ?_
  simp (disch := omega) only [go_sem]
  obtain ⟨R, hR⟩ : ∃ R, Z1 may (t.length + 1) t ⟨[], [], true⟩ = R := ⟨_, rfl⟩
  have fail : R = none → zfD may t = .tup [.str [], .int .i64 0] := fun e => by unfold zfD Zc; rw [hR, e]
  refine goL_st (fun s : List UInt8 × Sd × Own × Own => [(7, .int .i64 ((t.length + 1 - s.1.length : Nat) : Int))])
    (fun s H => s.1 <:+ t ∧ (∃ n, s.1.length < n ∧ Z1 may n s.1 s.2.1 = R) ∧ s.2.1.w + s.1.length ≤ t.length ∧ SaidAt H q s.2.1 s.2.2.1 s.2.2.2) (fun s => s.1.length) (t, ⟨[], [], true⟩, .nil, .nil)
    (by have : (t.length + 1 - t.length : Nat) = 1 := by omega
        simp (disch := omega) only [this, go_sem]) ⟨List.suffix_refl _, ⟨t.length + 1, by simp, hR⟩, by simp [Sd.w], upd_same .., rfl, rfl, nofun⟩ ?_
  rintro ⟨rest, x, o, o2⟩ H J ⟨hsuf, ⟨n, hn, hg⟩, hw, hs⟩ hJ
  simp only at hsuf hn hg hw hs
  have hrl := hsuf.length_le
  obtain ⟨n, rfl⟩ : ∃ k, n = k + 1 := ⟨n - 1, by omega⟩
  cases rest with
  | nil =>
    have e0 : R = none := by rw [← hg]; rfl
    have h0 : t.length + 1 - 0 = t.length + 1 := rfl
    have h1 : (((t.length + 1 : Nat) : Int) ≤ ((t.length + 1 : Nat) : Int)) = True := eq_true (Int.le_refl _)
    simp (disch := omega) only [h0, h1, go_sem]
    exact hQ _ _ _ _ nofun rfl (by simp [tupOf, envOf, AV.strip, AV.strip1, fail e0])
  | cons c r =>
    obtain ⟨p, hp⟩ := hsuf
    have hpl : t.length = p.length + (r.length + 1) := by rw [← hp]; simp
    have h0 : t.length + 1 - (r.length + 1) = p.length + 1 := by omega
    have h1 : ¬ (((t.length + 1 : Nat) : Int) ≤ ((p.length + 1 : Nat) : Int)) := by omega
    have h2 : (((p.length + 1 : Nat) : Int) < ((t.length + 1 : Nat) : Int)) = True := eq_true (by omega)
    have hi : (a :: t).getD (p.length + 1) 0 = c := by rw [← hp]; simp
    have hi1 : (((p.length + 1 : Nat) : Int) + 1) = ((p.length + 1 + 1 : Nat) : Int) := by omega
    have hsr : r <:+ t := ⟨p ++ [c], by rw [← hp]; simp⟩
    simp only [Z1] at hg
    simp only [Al2] at hw hn
    have hx : x.w ≤ Zi := by simp only [Zi]; omega
    by_cases c1 : c = 34
    · subst c1
      simp only [if_true] at hg
      have hc : (((34 : UInt8).toNat : Int) = 34) = True := eq_true rfl
      simp (disch := omega) only [h0, h1, h2, hi, hc, go_sem]
      refine goK_ret (zgp hs hx) fun v H1 ⟨hv, o', hs1⟩ => ?_
      subst hv
      have hq := hs1.hq
      cases hok : (zS x).ok
      · rw [hok] at hq
        have e0 : Zc may t = none := by unfold Zc; rw [hR, ← hg]; simp [hok]
        simp (disch := omega) only [hq, go_sem]
        exact hQ _ _ _ _ nofun rfl (by simp [tupOf, envOf, AV.strip, AV.strip1, zfD, e0])
      · rw [hok] at hq
        have e0 : Zc may t = some ((zS x).b, r) := by unfold Zc; rw [hR, ← hg]; simp [hok]
        simp (disch := omega) only [hq, YE, wrap64, go_sem]
        have e1 : (p.length : Int) + 1 + 1 = ((t.length + 1 - r.length : Nat) : Int) := by omega
        exact hQ _ _ _ _ nofun rfl (by simp [tupOf, envOf, AV.strip, AV.strip1, zfD, e0, e1])
    have c1' : ¬ ((c.toNat : Int) = 34) := fun e => c1 (by apply UInt8.toNat_inj.1; show c.toNat = 34; omega)
    rw [if_neg c1] at hg
    by_cases c2 : c = 92
    · subst c2
      simp only [if_true] at hg
      have hc : ¬ (((92 : UInt8).toNat : Int) = 34) := by decide
      have hc2 : (((92 : UInt8).toNat : Int) = 92) = True := eq_true rfl
      have h3 : (((p.length + 1 : Nat) : Int) + 1 ≤ ((t.length + 1 : Nat) : Int)) = True := eq_true (by omega)
      have h4 : (((p.length + 1 : Nat) : Int) + 1).toNat = p.length + 2 := by omega
      have hdr : (a :: t).drop (p.length + 2) = r := by rw [← hp]; simp
      simp (disch := omega) only [h0, h1, h2, hi, hc, hc2, wrap64, h3, h4, hdr, go_sem]
      refine goK_ret (zmB hs hx r (by simp only [Lim]; omega)) fun v H1 he => ?_
      unfold zgG at he
      cases hm : Zx x r with
      | none =>
        rw [hm] at he hg
        subst he
        simp (disch := omega) only [go_sem]
        exact hQ _ _ _ _ nofun rfl (by simp [tupOf, envOf, AV.strip, AV.strip1, fail hg.symm])
      | some y =>
        obtain ⟨x', t'⟩ := y
        rw [hm] at he hg
        obtain ⟨hv, o3, o4, hs3⟩ := he
        subst hv
        have h5 := zcb hm
        have h6 := zib hm
        have h7 : ¬ (((r.length - t'.length : Nat) : Int) = 0) := by omega
        have h8 : ((p.length + 1 : Nat) : Int) + (1 + ((r.length - t'.length : Nat) : Int)) = ((t.length + 1 - t'.length : Nat) : Int) := by omega
        simp (disch := omega) only [h7, wrap64, h8, go_sem]
        exact goJ (hJ (t', x', o3, o4) _ (by simp; omega) ⟨h5.1.trans hsr, ⟨n, by show t'.length < n; omega, hg⟩, by show x'.w + t'.length ≤ t.length; omega, hs3⟩) (by simp (disch := omega) only [go_sem])
    have c2' : ¬ ((c.toNat : Int) = 92) := fun e => c2 (by apply UInt8.toNat_inj.1; show c.toNat = 92; omega)
    rw [if_neg c2] at hg
    simp (disch := omega) only [h0, h1, h2, hi, c1', c2', hf, go_sem]
    refine goK_pure (hmay c) ?_
    cases hm : may c
    · rw [hm] at hg
      simp (disch := omega) only [go_sem]
      exact hQ _ _ _ _ nofun rfl (by simp [tupOf, envOf, AV.strip, AV.strip1, fail hg.symm])
    · rw [hm] at hg
      simp only [if_true] at hg
      simp (disch := omega) only [go_sem]
      refine goK_ret (zgp hs hx) fun v H1 ⟨hv, o', hs1⟩ => ?_
      subst hv
      obtain ⟨hq1, ho1, _, _⟩ := hs1
      have hfw := zcc x
      have hpw := zjz x c
      have hbl := zP (zS x).b
      simp (disch := omega) only [hq1, h2, hi, go_sem]
      refine goP_ownS (by rw [hbl]; exact ho1) (by simp [hbl]; omega) (by simp [maxLen, hbl]; omega) fun o3 H2 hs3 => ?_
      have hq2 := zv ho1 hq1 hs3.kept
      simp (disch := omega) only [hq2, wrap64, go_sem]
      have h8 : ((p.length + 1 : Nat) : Int) + 1 = ((t.length + 1 - r.length : Nat) : Int) := by omega
      refine goJ (hJ (r, x.put c, o3, .nil) _ (by simp) ⟨hsr, ⟨n, by show r.length < n; omega, hg⟩, by show (x.put c).w + r.length ≤ t.length; omega, ?_, ?_, rfl, nofun⟩) (by simp (disch := omega) only [h8, go_sem])
      · simp only [upd_same, Sd.put]
        rw [← yG]; rfl
      · simp only [Sd.put, Al5, Al2, Al3]
        exact yC (by simpa [hbl] using hs3.own) hq2
open Go.Lib
theorem ziA (c:UInt8):hexD c≠none→c.toNat<128:=zbv (P:=fun c=>hexD c≠none→c.toNat<128) (by decide +kernel) c
theorem zgZ (c:UInt8):¬ Lib.indexByte YA c<0→c.toNat<128∧(zgu.getD (Lib.indexByte YA c).toNat 0).toNat<128 :=
 zbv (P:=fun c=>¬ Lib.indexByte YA c<0→c.toNat<128∧(zgu.getD (Lib.indexByte YA c).toNat 0).toNat<128) (by decide +kernel) c
theorem zcG:∀(n:Nat) (t:List UInt8) (u v:Nat),Zb n t u=some v→∀ b∈t.take n,b.toNat<128
 | 0,_,_,_,_,b,hb=>by simp at hb
 | n+1,[],_,_,h,_,_=>by cases h
 | n+1,c::t,u,v,h,b,hb=>by
  simp only[Zb] at h
  split at h
  ·cases h
  ·rename_i k hk
   rw[zab] at hb
   rcases List.mem_cons.1 hb with e|e
   ·rw[e];exact ziA c (by rw[hk];simp)
   ·exact zcG n t _ v h b e
structure SInv' (q:Sd) (t:List UInt8):Prop where
 none:q.u=[]→validD (q.b++t)=true
 some:q.u≠[]→validD q.b=true∧validD t=true
theorem zeO {q:Sd} (h:validD q.b=true):validD (zS q).b=true:=by
 unfold zS
 cases hj:zp q.u with
 | none=>simpa using h
 | some s=>exact YG h (zbp _ _ hj)
theorem zh1 {q:Sd} (h:q.u=[]):(zS q).b=q.b:=by unfold zS;rw[h];simp[zp]
theorem SInv'.low {q:Sd} {c:UInt8} {t:List UInt8} (h:SInv' q (c::t)) (hc:c.toNat<128):validD q.b=true∧validD t=true:=by
 by_cases hu:q.u=[]
 ·exact zaC hc (h.none hu)
 ·obtain⟨h1,h2⟩:=h.some hu
  rw[validD_cons c t hc] at h2
  exact⟨h1,h2⟩
theorem SInv'.put {q:Sd} {c:UInt8} {t:List UInt8} (h:SInv' q (c::t)):SInv' (q.put c) t:=by
 refine⟨fun _=>?_,fun e=>absurd rfl e⟩
 show validD (((zS q).b++[c])++t)=true
 rw[zcP]
 by_cases hu:q.u=[]
 ·rw[zh1 hu];exact h.none hu
 ·obtain⟨h1,h2⟩:=h.some hu
  exact YG (zeO h1) h2
theorem zhD {q q':Sd} {t t':List UInt8} (h:Zx q t=some (q',t')) (hb:validD q.b=true) (ht:validD t=true):SInv' q' t':=by
 cases t with
 | nil=>cases h
 | cons c t =>
  simp only[Zx] at h
  split at h
  ·rename_i hc
   cases hu:Zo t with
   | none=>simp[hu] at h
   | some u =>
    simp only[hu,yd,Al1,Al8] at h
    obtain⟨rfl,rfl⟩:=h
    rw[validD_cons c t (by rw[hc];decide)] at ht
    have:=validD_ascii 4 t (zcG 4 t 0 u hu)
    exact⟨fun e=>by simp at e,fun _=>⟨hb,by rw[← this];exact ht⟩⟩
  ·split at h
   ·cases h
   ·rename_i hk
    simp only[Al1,Al8] at h
    obtain⟨rfl,rfl⟩:=h
    have h1:=zgZ c hk
    rw[validD_cons c t h1.1] at ht
    refine⟨fun _=>?_,fun e=>absurd rfl e⟩
    show validD (((zS q).b++[_])++t)=true
    rw[zcP]
    refine YG (zeO hb) ?_
    rw[List.singleton_append,validD_cons _ _ h1.2];exact ht
theorem zbA {may:UInt8→Bool}:∀(n:Nat) (t:List UInt8) (q q':Sd) (t':List UInt8),Z1 may n t q=some (q',t')→SInv' q t→validD q'.b=true∧validD t'=true
 | 0,_,_,_,_,h,_=>by cases h
 | _+1,[],_,_,_,h,_=>by cases h
 | n+1,c::t,q,q',t',h,hi=>by
  simp only[Z1] at h
  split at h
  ·rename_i hc
   simp only[Al1,Al8] at h
   obtain⟨rfl,rfl⟩:=h
   obtain⟨h1,h2⟩:=hi.low (by rw[hc];decide)
   exact⟨zeO h1,h2⟩
  ·split at h
   ·rename_i hc
    cases he:Zx q t with
    | none=>simp[he] at h
    | some x =>
     obtain⟨q1,t1⟩:=x
     simp only[he] at h
     obtain⟨h1,h2⟩:=hi.low (by rw[hc];decide)
     exact zbA n t1 q1 q' t' h (zhD he h1 h2)
   ·split at h
    ·exact zbA n t _ q' t' h hi.put
    ·cases h
theorem zgJ {may:UInt8→Bool} {t t' b:List UInt8} (h:Zc may t=some (b,t')) (hv:validD t=true):validD b=true∧validD t'=true:=by
 unfold Zc at h
 split at h
 ·rename_i q t1 hq
  split at h
  ·cases h;exact zbA _ _ _ _ _ hq ⟨fun _=>hv,fun e=>absurd rfl e⟩
  ·cases h
 ·cases h
end Go.Proofs.YtaielcdfcgpbiaaGreatDoor
namespace Go.Proofs.YtaielcdfcgpbiaaGreatDoor
open Go.Ab
theorem y1 {n:Nat} (h:n<18446744073709551616):(BitVec.ofInt 64 (n:Int)).toNat=n:=by
 rw[BitVec.toNat_ofInt];omega
theorem YQ {n:Nat} (h:n<9223372036854775808):IntKind.wrap .i64 (n:Int)=n:=wrap64 (by omega) (by omega)
theorem zeN {n:Nat} (j:Nat) (h:n<9223372036854775808) (hj:2 ^ j-1<9223372036854775808):IntKind.wrap .i64 ((BitVec.ofInt IntKind.i64.bits (n:Int) &&& BitVec.ofInt IntKind.i64.bits ((2 ^ j-1:Nat):Int)).toNat:Int)=((n % 2 ^ j:Nat):Int):=by
 have e:(BitVec.ofInt IntKind.i64.bits (n:Int) &&& BitVec.ofInt IntKind.i64.bits ((2 ^ j-1:Nat):Int)).toNat=n % 2 ^ j:=by
  rw[BitVec.toNat_and]
  show (BitVec.ofInt 64 (n:Int)).toNat &&& (BitVec.ofInt 64 ((2 ^ j-1:Nat):Int)).toNat=_
  rw[y1 (by omega),y1 (by omega),Nat.and_two_pow_sub_one_eq_mod]
 rw[e]
 exact YQ (Nat.lt_of_le_of_lt (Nat.mod_le _ _) h)
theorem zlQ {n:Nat} (h:n<9223372036854775808):IntKind.wrap .i64 ((BitVec.ofInt IntKind.i64.bits (n:Int) &&& BitVec.ofInt IntKind.i64.bits 31).toNat:Int)=((n % 32:Nat):Int):=zeN 5 h (by decide)
theorem zlZ {n:Nat} (h:n<9223372036854775808):IntKind.wrap .i64 ((BitVec.ofInt IntKind.i64.bits (n:Int) &&& BitVec.ofInt IntKind.i64.bits 15).toNat:Int)=((n % 16:Nat):Int):=zeN 4 h (by decide)
theorem and7 {n:Nat} (h:n<9223372036854775808):IntKind.wrap .i64 ((BitVec.ofInt IntKind.i64.bits (n:Int) &&& BitVec.ofInt IntKind.i64.bits 7).toNat:Int)=((n % 8:Nat):Int):=zeN 3 h (by decide)
theorem zg9 {n:Nat} (h:n<9223372036854775808):IntKind.wrap .i64 ((BitVec.ofInt IntKind.i64.bits (n:Int) &&& BitVec.ofInt IntKind.i64.bits 63).toNat:Int)=((n % 64:Nat):Int):=zeN 6 h (by decide)
theorem zmE {a b:Nat} (ha:a<16777216) (hb:b<64):IntKind.wrap .i64 ((BitVec.ofInt IntKind.i64.bits ((a*64:Nat):Int) ||| BitVec.ofInt IntKind.i64.bits (b:Int)).toNat:Int)=((a*64+b:Nat):Int):=by
 have e:(BitVec.ofInt IntKind.i64.bits ((a*64:Nat):Int) ||| BitVec.ofInt IntKind.i64.bits (b:Int)).toNat=a*64+b:=by
  rw[BitVec.toNat_or]
  show (BitVec.ofInt 64 ((a*64:Nat):Int)).toNat ||| (BitVec.ofInt 64 (b:Int)).toNat=_
  rw[y1 (by omega),y1 (by omega)]
  have:=Nat.two_pow_add_eq_or_of_lt (i:=6) (b:=b) (by omega) a
  rw[show (2:Nat) ^ 6=64 by rfl] at this
  rw[Nat.mul_comm a 64,this]
 rw[e]
 exact YQ (by omega)
def zy (l:List UInt8):Nat×Nat:=if l=[] then (0,0) else if Lib.decodeL l=(65533,1) then (0,0) else Lib.decodeL l
abbrev bt (s:List UInt8) (i k:Nat):Nat:=(s.getD (i+k) 0).toNat
theorem zkz (s:List UInt8) (i k:Nat):bt s i k<256:=(s.getD (i+k) 0).toNat_lt
theorem zh3 (s:List UInt8) (i k:Nat):(s.drop i).getD k 0=s.getD (i+k) 0:=by simp[List.getElem?_drop]
theorem ziX {s:List UInt8} {i:Nat} (h:i<s.length):zy (s.drop i)=if Lib.decodeN (s.length-i) (bt s i 0) (bt s i 1) (bt s i 2) (bt s i 3)=(65533,1) then (0,0) else Lib.decodeN (s.length-i) (bt s i 0) (bt s i 1) (bt s i 2) (bt s i 3):=by
 have hne:s.drop i≠[]:=fun e=>by have:=congrArg List.length e;simp at this;omega
 unfold zy
 rw[if_neg hne,Lib.decodeL_N,zU]
 simp only[zh3]
def cv (v0:Nat) (b:Nat→Nat):Nat→Nat
 | 0=>v0
 | j+1=>cv v0 b j*64+b (j+1) % 64
def zjV (b0 w lo v:Nat):Prop:=(194≤b0∧b0<224∧w=2∧lo=128∧v=b0 % 32)∨(224≤b0∧b0<240∧w=3∧lo=2048∧v=b0 % 16)∨(240≤b0∧b0<245∧w=4∧lo=65536∧v=b0 % 8)
theorem zhN {n b0 b1 b2 b3 w lo v:Nat} (h:zjV b0 w lo v) (hn:n<w):Lib.decodeN n b0 b1 b2 b3=(65533,1):=by
 unfold Lib.decodeN
 rcases h with ⟨h1,h2,rfl,_,_⟩|⟨h1,h2,rfl,_,_⟩|⟨h1,h2,rfl,_,_⟩<;>(repeat' split)<;>first|rfl|(exfalso;omega)
theorem zfr {n w lo v j:Nat} {b:Nat→Nat} (h:zjV (b 0) w lo v) (h1:1≤j) (hj:j<w) (hc:b j<128∨191<b j):Lib.decodeN n (b 0) (b 1) (b 2) (b 3)=(65533,1):=by
 have hj4:j=1∨j=2∨j=3:=by rcases h with h|h|h<;>omega
 unfold Lib.decodeN
 rcases h with ⟨h2,h3,rfl,_,_⟩|⟨h2,h3,rfl,_,_⟩|⟨h2,h3,rfl,_,_⟩<;>rcases hj4 with rfl|rfl|rfl<;>(repeat' split)<;>first|rfl|(exfalso;omega)
theorem ziE {n w lo v:Nat} {b:Nat→Nat} (h:zjV (b 0) w lo v) (hn:w≤n) (hc:∀ j,1≤j→j<w→128≤b j∧b j≤191) :
  (if Lib.decodeN n (b 0) (b 1) (b 2) (b 3)=(65533,1) then (0,0) else Lib.decodeN n (b 0) (b 1) (b 2) (b 3))=if cv v b (w-1)<lo∨1114111<cv v b (w-1)∨(55296≤cv v b (w-1)∧cv v b (w-1)<57344) then (0,0) else (cv v b (w-1),w):=by
 rcases h with ⟨h2,h3,rfl,rfl,rfl⟩|⟨h2,h3,rfl,rfl,rfl⟩|⟨h2,h3,rfl,rfl,rfl⟩
 ·have c1:=hc 1 (by omega) (by omega)
  have e:Lib.decodeN n (b 0) (b 1) (b 2) (b 3)=(b 0 % 32*64+b 1 % 64,2):=by
   unfold Lib.decodeN
   rw[if_neg (by omega),if_pos (by omega),if_pos (by omega)]
  have e2:cv (b 0 % 32) b (2-1)=b 0 % 32*64+b 1 % 64:=rfl
  rw[e,e2,if_neg (by simp),if_neg (by omega)]
 ·have c1:=hc 1 (by omega) (by omega)
  have c2:=hc 2 (by omega) (by omega)
  have e2:cv (b 0 % 16) b (3-1)=b 0 % 16*4096+b 1 % 64*64+b 2 % 64:=by
   show (b 0 % 16*64+b 1 % 64)*64+b 2 % 64=_
   omega
  rw[e2]
  by_cases g:b 0 % 16*4096+b 1 % 64*64+b 2 % 64≥2048∧(b 0 % 16*4096+b 1 % 64*64+b 2 % 64<55296∨(57344≤b 0 % 16*4096+b 1 % 64*64+b 2 % 64∧b 0 % 16*4096+b 1 % 64*64+b 2 % 64≤1114111))
  ·have e:Lib.decodeN n (b 0) (b 1) (b 2) (b 3)=(b 0 % 16*4096+b 1 % 64*64+b 2 % 64,3):=by
    unfold Lib.decodeN
    rw[if_neg (by omega),if_neg (by omega),if_pos (by omega),if_pos g]
   rw[e,if_neg (by simp),if_neg (by omega)]
  ·have e:Lib.decodeN n (b 0) (b 1) (b 2) (b 3)=(65533,1):=by
    unfold Lib.decodeN
    rw[if_neg (by omega),if_neg (by omega),if_pos (by omega),if_neg g]
   rw[e,if_pos rfl,if_pos (by omega)]
 ·have c1:=hc 1 (by omega) (by omega)
  have c2:=hc 2 (by omega) (by omega)
  have c3:=hc 3 (by omega) (by omega)
  have e2:cv (b 0 % 8) b (4-1)=b 0 % 8*262144+b 1 % 64*4096+b 2 % 64*64+b 3 % 64:=by
   show ((b 0 % 8*64+b 1 % 64)*64+b 2 % 64)*64+b 3 % 64=_
   omega
  rw[e2]
  by_cases g:b 0 % 8*262144+b 1 % 64*4096+b 2 % 64*64+b 3 % 64≥65536∧(b 0 % 8*262144+b 1 % 64*4096+b 2 % 64*64+b 3 % 64<55296∨(57344≤b 0 % 8*262144+b 1 % 64*4096+b 2 % 64*64+b 3 % 64∧b 0 % 8*262144+b 1 % 64*4096+b 2 % 64*64+b 3 % 64≤1114111))
  ·have e:Lib.decodeN n (b 0) (b 1) (b 2) (b 3)=(b 0 % 8*262144+b 1 % 64*4096+b 2 % 64*64+b 3 % 64,4):=by
    unfold Lib.decodeN
    rw[if_neg (by omega),if_neg (by omega),if_neg (by omega),if_pos (by omega),if_pos g]
   rw[e,if_neg (by simp),if_neg (by omega)]
  ·have e:Lib.decodeN n (b 0) (b 1) (b 2) (b 3)=(65533,1):=by
    unfold Lib.decodeN
    rw[if_neg (by omega),if_neg (by omega),if_neg (by omega),if_pos (by omega),if_neg g]
   rw[e,if_pos rfl,if_pos (by omega)]
theorem zky (s:List UInt8) (i:Nat) (hi:i<s.length) (hs:s.length≤Lim):Pure Tryz.prog 200 [.str s,.int .i64 i] (.tup [.int .i64 (zy (s.drop i)).1,.int .i64 (zy (s.drop i)).2]):=by
 refine Pure.go ir200 ck200 (Al4 _) fun KP Q hQ=>?_
 simp only[Lim] at hs
 have hlt:(i:Int)<s.length:=by omega
 have h0:¬ (i:Int)<0:=by omega
 have hge:¬ (s.length:Int)≤i:=by omega
 rw[ziX hi] at hQ
 have hb0:=zkz s i 0
 obtain⟨c,hc⟩:∃ c,s.getD i 0=c:=⟨_,rfl⟩
 have hcb:c.toNat=bt s i 0:=by rw[← hc];rfl
 have hcb':(c.toNat:Int)=(bt s i 0:Nat):=by rw[hcb]
 have hw0:IntKind.wrap .i64 ((bt s i 0:Nat):Int)=(bt s i 0:Nat):=YQ (by omega)
 generalize hB:(fun k=>bt s i k)=b at *
 have b0e:bt s i 0=b 0:=by rw[← hB]
 have bk:∀ k,bt s i k=b k:=fun k=>by rw[← hB]
 have hbl:∀ k,b k<256:=fun k=>by rw[← bk];exact zkz s i k
 simp only[bk] at hQ hb0 hcb hcb' hw0
 by_cases a:(b 0:Int)<128
 ·simp(disch:=omega) only[ir200,h0,hlt,hge,hc,hcb',hw0,a,steps,st2,pev,rev,oev,optr,ibin,sbin,ishf,bound,mmAll,mm2,mk,mkArgs,AV.cells,AV.boxable,AV.one,AV.strip1,fillA,fillS,Nat.reduceEqDiff,reduceCtorEq,↓reduceIte,Nat.reduceAdd,Int.reduceNeg,Nat.reduceLeDiff,Int.reduceToNat,Int.reduceEq,Int.reduceLT,Int.reduceLE,Int.reduceAdd,Io,Im,If,Il,Jt,Jf,AC.rg,Jm,Jl,Ja,Fm,Fl,Fa,Imv,Imb,Iai,Iei,Igi,Isi,Ipf,Ipt,Ilb,Iia,Ilt,Iap,Ink,Iln,Ils,Iad,Iex,Ibx,Ing]
  have e:Lib.decodeN (s.length-i) (b 0) (b 1) (b 2) (b 3)=(b 0,1):=by unfold Lib.decodeN;rw[if_pos (by omega)]
  rw[e,if_neg (by simp;omega)] at hQ
  exact hQ _ _ _ _ nofun rfl (by simp[tupOf,envOf,AV.strip,AV.strip1])
 simp(disch:=omega) only[ir200,h0,hlt,hge,hc,hcb',hw0,a,steps,st2,pev,rev,oev,optr,ibin,sbin,ishf,bound,mmAll,mm2,mk,mkArgs,AV.cells,AV.boxable,AV.one,AV.strip1,fillA,fillS,Nat.reduceEqDiff,reduceCtorEq,↓reduceIte,Nat.reduceAdd,Int.reduceNeg,Nat.reduceLeDiff,Int.reduceToNat,Int.reduceEq,Int.reduceLT,Int.reduceLE,Int.reduceAdd,Io,Im,If,Il,Jt,Jf,AC.rg,Jm,Jl,Ja,Fm,Fl,Fa,Imv,Imb,Iai,Iei,Igi,Isi,Ipf,Ipt,Ilb,Iia,Ilt,Iap,Ink,Iln,Ils,Iad,Iex,Ibx,Ing]
 refine goU_cut (fun x:Nat×Nat×Nat=>[(6,.int .i64 x.2.2),(7,.int .i64 x.1),(8,.int .i64 x.2.1)]) (fun x H=>zjV (b 0) x.1 x.2.1 x.2.2∧H=Heap.emp) (fun J hJ=>?_) ?_
 ·simp(disch:=omega) only[steps,st2,pev,rev,oev,optr,ibin,sbin,ishf,bound,mmAll,mm2,mk,mkArgs,AV.cells,AV.boxable,AV.one,AV.strip1,fillA,fillS,Nat.reduceEqDiff,reduceCtorEq,↓reduceIte,Nat.reduceAdd,Int.reduceNeg,Nat.reduceLeDiff,Int.reduceToNat,Int.reduceEq,Int.reduceLT,Int.reduceLE,Int.reduceAdd]
  by_cases a1:(194:Int)≤b 0
  ·by_cases a2:(b 0:Int)<224
   ·have e:=zlQ (n:=b 0) (by omega)
    simp(disch:=omega) only[a1,a2,e,steps,st2,pev,rev,oev,optr,ibin,sbin,ishf,bound,mmAll,mm2,mk,mkArgs,AV.cells,AV.boxable,AV.one,AV.strip1,fillA,fillS,Nat.reduceEqDiff,reduceCtorEq,↓reduceIte,Nat.reduceAdd,Int.reduceNeg,Nat.reduceLeDiff,Int.reduceToNat,Int.reduceEq,Int.reduceLT,Int.reduceLE,Int.reduceAdd]
    exact goJ (hJ (2,128,b 0 % 32) _ ⟨.inl ⟨by omega,by omega,rfl,rfl,rfl⟩,rfl⟩) (by simp(disch:=omega) only[steps,st2,pev,rev,oev,optr,ibin,sbin,ishf,bound,mmAll,mm2,mk,mkArgs,AV.cells,AV.boxable,AV.one,AV.strip1,fillA,fillS,Nat.reduceEqDiff,reduceCtorEq,↓reduceIte,Nat.reduceAdd,Int.reduceNeg,Nat.reduceLeDiff,Int.reduceToNat,Int.reduceEq,Int.reduceLT,Int.reduceLE,Int.reduceAdd])
   ·by_cases a3:(b 0:Int)<240
    ·have a4:(224:Int)≤b 0:=by omega
     have e:=zlZ (n:=b 0) (by omega)
     simp(disch:=omega) only[a1,a2,a3,a4,e,steps,st2,pev,rev,oev,optr,ibin,sbin,ishf,bound,mmAll,mm2,mk,mkArgs,AV.cells,AV.boxable,AV.one,AV.strip1,fillA,fillS,Nat.reduceEqDiff,reduceCtorEq,↓reduceIte,Nat.reduceAdd,Int.reduceNeg,Nat.reduceLeDiff,Int.reduceToNat,Int.reduceEq,Int.reduceLT,Int.reduceLE,Int.reduceAdd]
     exact goJ (hJ (3,2048,b 0 % 16) _ ⟨.inr (.inl ⟨by omega,by omega,rfl,rfl,rfl⟩),rfl⟩) (by simp(disch:=omega) only[steps,st2,pev,rev,oev,optr,ibin,sbin,ishf,bound,mmAll,mm2,mk,mkArgs,AV.cells,AV.boxable,AV.one,AV.strip1,fillA,fillS,Nat.reduceEqDiff,reduceCtorEq,↓reduceIte,Nat.reduceAdd,Int.reduceNeg,Nat.reduceLeDiff,Int.reduceToNat,Int.reduceEq,Int.reduceLT,Int.reduceLE,Int.reduceAdd])
    ·have a4:(224:Int)≤b 0:=by omega
     have a5:(240:Int)≤b 0:=by omega
     by_cases a6:(b 0:Int)<245
     ·have e:=and7 (n:=b 0) (by omega)
      simp(disch:=omega) only[a1,a2,a3,a4,a5,a6,e,steps,st2,pev,rev,oev,optr,ibin,sbin,ishf,bound,mmAll,mm2,mk,mkArgs,AV.cells,AV.boxable,AV.one,AV.strip1,fillA,fillS,Nat.reduceEqDiff,reduceCtorEq,↓reduceIte,Nat.reduceAdd,Int.reduceNeg,Nat.reduceLeDiff,Int.reduceToNat,Int.reduceEq,Int.reduceLT,Int.reduceLE,Int.reduceAdd]
      exact goJ (hJ (4,65536,b 0 % 8) _ ⟨.inr (.inr ⟨by omega,by omega,rfl,rfl,rfl⟩),rfl⟩) (by simp(disch:=omega) only[steps,st2,pev,rev,oev,optr,ibin,sbin,ishf,bound,mmAll,mm2,mk,mkArgs,AV.cells,AV.boxable,AV.one,AV.strip1,fillA,fillS,Nat.reduceEqDiff,reduceCtorEq,↓reduceIte,Nat.reduceAdd,Int.reduceNeg,Nat.reduceLeDiff,Int.reduceToNat,Int.reduceEq,Int.reduceLT,Int.reduceLE,Int.reduceAdd])
     ·rw[Lib.decodeN_bad _ _ _ _ _ (.inr ⟨by omega,hbl 0⟩),if_pos rfl] at hQ
      simp(disch:=omega) only[a1,a2,a3,a4,a5,a6,steps,st2,pev,rev,oev,optr,ibin,sbin,ishf,bound,mmAll,mm2,mk,mkArgs,AV.cells,AV.boxable,AV.one,AV.strip1,fillA,fillS,Nat.reduceEqDiff,reduceCtorEq,↓reduceIte,Nat.reduceAdd,Int.reduceNeg,Nat.reduceLeDiff,Int.reduceToNat,Int.reduceEq,Int.reduceLT,Int.reduceLE,Int.reduceAdd]
      exact hQ _ _ _ _ nofun rfl (by simp[tupOf,envOf,AV.strip,AV.strip1])
  ·have a2:¬ (224:Int)≤b 0:=by omega
   have a3:¬ (240:Int)≤b 0:=by omega
   rw[Lib.decodeN_bad _ _ _ _ _ (.inl ⟨by omega,by omega⟩),if_pos rfl] at hQ
   simp(disch:=omega) only[a1,a2,a3,steps,st2,pev,rev,oev,optr,ibin,sbin,ishf,bound,mmAll,mm2,mk,mkArgs,AV.cells,AV.boxable,AV.one,AV.strip1,fillA,fillS,Nat.reduceEqDiff,reduceCtorEq,↓reduceIte,Nat.reduceAdd,Int.reduceNeg,Nat.reduceLeDiff,Int.reduceToNat,Int.reduceEq,Int.reduceLT,Int.reduceLE,Int.reduceAdd]
   exact hQ _ _ _ _ nofun rfl (by simp[tupOf,envOf,AV.strip,AV.strip1])
 rintro⟨w,lo,v⟩ H ⟨hL,rfl⟩
 simp only at hL
 have hv:v<32∧2≤w∧w≤4∧lo≤65536:=by rcases hL with h|h|h<;>omega
 by_cases g:w≤s.length-i
 case neg =>
  have g':(s.length:Int)-i<w:=by omega
  rw[zhN hL (by omega),if_pos rfl] at hQ
  simp(disch:=omega) only[wrap64,g',steps,st2,pev,rev,oev,optr,ibin,sbin,ishf,bound,mmAll,mm2,mk,mkArgs,AV.cells,AV.boxable,AV.one,AV.strip1,fillA,fillS,Nat.reduceEqDiff,reduceCtorEq,↓reduceIte,Nat.reduceAdd,Int.reduceNeg,Nat.reduceLeDiff,Int.reduceToNat,Int.reduceEq,Int.reduceLT,Int.reduceLE,Int.reduceAdd]
  exact hQ _ _ _ _ nofun rfl (by simp[tupOf,envOf,AV.strip,AV.strip1])
 have g':¬ (s.length:Int)-i<w:=by omega
 simp(disch:=omega) only[wrap64,g',steps,st2,pev,rev,oev,optr,ibin,sbin,ishf,bound,mmAll,mm2,mk,mkArgs,AV.cells,AV.boxable,AV.one,AV.strip1,fillA,fillS,Nat.reduceEqDiff,reduceCtorEq,↓reduceIte,Nat.reduceAdd,Int.reduceNeg,Nat.reduceLeDiff,Int.reduceToNat,Int.reduceEq,Int.reduceLT,Int.reduceLE,Int.reduceAdd]
 refine goL_st (fun j:Nat=>[(6,.int .i64 (cv v b j)),(9,.int .i64 (j+1:Nat))]) (fun j H=>j+1≤w∧(∀ k,1≤k→k<j+1→128≤b k∧b k≤191)∧cv v b j<32*64 ^ j) (fun j=>w-j) 0 (by simp(disch:=omega) only[cv,steps,st2,pev,rev,oev,optr,ibin,sbin,ishf,bound,mmAll,mm2,mk,mkArgs,AV.cells,AV.boxable,AV.one,AV.strip1,fillA,fillS,Nat.reduceEqDiff,reduceCtorEq,↓reduceIte,Nat.reduceAdd,Int.reduceNeg,Nat.reduceLeDiff,Int.reduceToNat,Int.reduceEq,Int.reduceLT,Int.reduceLE,Int.reduceAdd]) ⟨by omega,fun k h1 h2=>by omega,by simp[cv];omega⟩ ?_
 rintro j H J ⟨hj,hcont,hcv⟩ hJ
 have hcv2:cv v b j<8388608:=by
  have:j=0∨j=1∨j=2∨j=3:=by omega
  rcases this with rfl|rfl|rfl|rfl<;>omega
 by_cases hjw:j+1<w
 ·have hjw':((j+1:Nat):Int)<w:=by omega
  have hto:((i:Int)+((j+1:Nat):Int)).toNat=i+(j+1):=by omega
  have hi1:(0:Int)≤(i:Int)+((j+1:Nat):Int):=by omega
  have hi2:(i:Int)+((j+1:Nat):Int)<s.length:=by omega
  obtain⟨d,hd⟩:∃ d,s.getD (i+(j+1)) 0=d:=⟨_,rfl⟩
  have hdb:(d.toNat:Int)=(b (j+1):Nat):=by rw[← hd,← bk]
  have hb1:=hbl (j+1)
  have hw1:IntKind.wrap .i64 ((b (j+1):Nat):Int)=(b (j+1):Nat):=YQ (by omega)
  simp(disch:=omega) only[hjw',wrap64,hto,hi1,hi2,hd,hdb,hw1,steps,st2,pev,rev,oev,optr,ibin,sbin,ishf,bound,mmAll,mm2,mk,mkArgs,AV.cells,AV.boxable,AV.one,AV.strip1,fillA,fillS,Nat.reduceEqDiff,reduceCtorEq,↓reduceIte,Nat.reduceAdd,Int.reduceNeg,Nat.reduceLeDiff,Int.reduceToNat,Int.reduceEq,Int.reduceLT,Int.reduceLE,Int.reduceAdd]
  by_cases a1:((b (j+1):Nat):Int)<128
  ·rw[zfr hL (by omega) hjw (.inl (by omega)),if_pos rfl] at hQ
   simp(disch:=omega) only[a1,steps,st2,pev,rev,oev,optr,ibin,sbin,ishf,bound,mmAll,mm2,mk,mkArgs,AV.cells,AV.boxable,AV.one,AV.strip1,fillA,fillS,Nat.reduceEqDiff,reduceCtorEq,↓reduceIte,Nat.reduceAdd,Int.reduceNeg,Nat.reduceLeDiff,Int.reduceToNat,Int.reduceEq,Int.reduceLT,Int.reduceLE,Int.reduceAdd]
   exact hQ _ _ _ _ nofun rfl (by simp[tupOf,envOf,AV.strip,AV.strip1])
  by_cases a2:(191:Int)<((b (j+1):Nat):Int)
  ·rw[zfr hL (by omega) hjw (.inr (by omega)),if_pos rfl] at hQ
   simp(disch:=omega) only[a1,a2,steps,st2,pev,rev,oev,optr,ibin,sbin,ishf,bound,mmAll,mm2,mk,mkArgs,AV.cells,AV.boxable,AV.one,AV.strip1,fillA,fillS,Nat.reduceEqDiff,reduceCtorEq,↓reduceIte,Nat.reduceAdd,Int.reduceNeg,Nat.reduceLeDiff,Int.reduceToNat,Int.reduceEq,Int.reduceLT,Int.reduceLE,Int.reduceAdd]
   exact hQ _ _ _ _ nofun rfl (by simp[tupOf,envOf,AV.strip,AV.strip1])
  have e1:=zg9 (n:=b (j+1)) (by omega)
  have e2:IntKind.wrap .i64 ((cv v b j:Int)*2 ^ (min 6 IntKind.i64.bits))=((cv v b j*64:Nat):Int):=by
   have e3:(2:Int) ^ (min 6 IntKind.i64.bits)=64:=by decide
   rw[e3,wrap64 (by omega) (by omega)];omega
  have e4:=zmE (a:=cv v b j) (b:=b (j+1) % 64) (by omega) (Nat.mod_lt _ (by omega))
  simp(disch:=omega) only[a1,a2,e1,e2,e4,steps,st2,pev,rev,oev,optr,ibin,sbin,ishf,bound,mmAll,mm2,mk,mkArgs,AV.cells,AV.boxable,AV.one,AV.strip1,fillA,fillS,Nat.reduceEqDiff,reduceCtorEq,↓reduceIte,Nat.reduceAdd,Int.reduceNeg,Nat.reduceLeDiff,Int.reduceToNat,Int.reduceEq,Int.reduceLT,Int.reduceLE,Int.reduceAdd]
  have hpow:32*64 ^ (j+1)=64*(32*64 ^ j):=by rw[Nat.pow_succ];omega
  exact goJ (hJ (j+1) _ (by omega) ⟨by omega,fun k h1 h2=>by
   rcases Nat.lt_or_ge k (j+1) with h3|h3
   ·exact hcont k h1 h3
   ·have:k=j+1:=by omega
    subst this
    omega,by simp only[cv];omega⟩) (by simp(disch:=omega) only[wrap64,cv,Int.natCast_add,Int.natCast_one,steps,st2,pev,rev,oev,optr,ibin,sbin,ishf,bound,mmAll,mm2,mk,mkArgs,AV.cells,AV.boxable,AV.one,AV.strip1,fillA,fillS,Nat.reduceEqDiff,reduceCtorEq,↓reduceIte,Nat.reduceAdd,Int.reduceNeg,Nat.reduceLeDiff,Int.reduceToNat,Int.reduceEq,Int.reduceLT,Int.reduceLE,Int.reduceAdd])
 ·have hjw':¬ ((j+1:Nat):Int)<w:=by omega
  have hjw2:j=w-1:=by omega
  subst hjw2
  rw[ziE hL g (fun k h1 h2=>hcont k h1 (by omega))] at hQ
  have hcvB:(IntKind.wrap .i64 ((cv v b (w-1):Nat):Int))=(cv v b (w-1):Nat):=YQ (by omega)
  by_cases x1:((cv v b (w-1):Nat):Int)<lo
  ·rw[if_pos (.inl (by omega))] at hQ
   simp(disch:=omega) only[hjw',x1,steps,st2,pev,rev,oev,optr,ibin,sbin,ishf,bound,mmAll,mm2,mk,mkArgs,AV.cells,AV.boxable,AV.one,AV.strip1,fillA,fillS,Nat.reduceEqDiff,reduceCtorEq,↓reduceIte,Nat.reduceAdd,Int.reduceNeg,Nat.reduceLeDiff,Int.reduceToNat,Int.reduceEq,Int.reduceLT,Int.reduceLE,Int.reduceAdd]
   exact hQ _ _ _ _ nofun rfl (by simp[tupOf,envOf,AV.strip,AV.strip1])
  by_cases x2:(1114111:Int)<((cv v b (w-1):Nat):Int)
  ·rw[if_pos (.inr (.inl (by omega)))] at hQ
   simp(disch:=omega) only[hjw',x1,x2,steps,st2,pev,rev,oev,optr,ibin,sbin,ishf,bound,mmAll,mm2,mk,mkArgs,AV.cells,AV.boxable,AV.one,AV.strip1,fillA,fillS,Nat.reduceEqDiff,reduceCtorEq,↓reduceIte,Nat.reduceAdd,Int.reduceNeg,Nat.reduceLeDiff,Int.reduceToNat,Int.reduceEq,Int.reduceLT,Int.reduceLE,Int.reduceAdd]
   exact hQ _ _ _ _ nofun rfl (by simp[tupOf,envOf,AV.strip,AV.strip1])
  by_cases x3:(55296:Int)≤((cv v b (w-1):Nat):Int)
  ·by_cases x4:((cv v b (w-1):Nat):Int)<57344
   ·rw[if_pos (.inr (.inr ⟨by omega,by omega⟩))] at hQ
    simp(disch:=omega) only[hjw',x1,x2,x3,x4,steps,st2,pev,rev,oev,optr,ibin,sbin,ishf,bound,mmAll,mm2,mk,mkArgs,AV.cells,AV.boxable,AV.one,AV.strip1,fillA,fillS,Nat.reduceEqDiff,reduceCtorEq,↓reduceIte,Nat.reduceAdd,Int.reduceNeg,Nat.reduceLeDiff,Int.reduceToNat,Int.reduceEq,Int.reduceLT,Int.reduceLE,Int.reduceAdd]
    exact hQ _ _ _ _ nofun rfl (by simp[tupOf,envOf,AV.strip,AV.strip1])
   ·rw[if_neg (by omega)] at hQ
    simp(disch:=omega) only[hjw',x1,x2,x3,x4,steps,st2,pev,rev,oev,optr,ibin,sbin,ishf,bound,mmAll,mm2,mk,mkArgs,AV.cells,AV.boxable,AV.one,AV.strip1,fillA,fillS,Nat.reduceEqDiff,reduceCtorEq,↓reduceIte,Nat.reduceAdd,Int.reduceNeg,Nat.reduceLeDiff,Int.reduceToNat,Int.reduceEq,Int.reduceLT,Int.reduceLE,Int.reduceAdd]
    exact hQ _ _ _ _ nofun rfl (by simp[tupOf,envOf,AV.strip,AV.strip1])
  ·rw[if_neg (by omega)] at hQ
   simp(disch:=omega) only[hjw',x1,x2,x3,steps,st2,pev,rev,oev,optr,ibin,sbin,ishf,bound,mmAll,mm2,mk,mkArgs,AV.cells,AV.boxable,AV.one,AV.strip1,fillA,fillS,Nat.reduceEqDiff,reduceCtorEq,↓reduceIte,Nat.reduceAdd,Int.reduceNeg,Nat.reduceLeDiff,Int.reduceToNat,Int.reduceEq,Int.reduceLT,Int.reduceLE,Int.reduceAdd]
   exact hQ _ _ _ _ nofun rfl (by simp[tupOf,envOf,AV.strip,AV.strip1])
def cZ (l:List Int):List (List AV):=l.map fun n=>[.int .i64 n]
theorem zjq (l:List Int):(cZ l).length=l.length:=by simp[cZ]
def Yx:Nat→List UInt8→List Int
 | 0,_=>[]
 | k+1,l=>if l=[] then [] else ((zy l).1:Int)::Yx k (l.drop (zy l).2)
theorem zgy (k:Nat):Yx k []=[]:=by cases k<;>simp[Yx]
def zas (s:List UInt8):List Int:=if Lib.validD s then Yx s.length s else []
theorem zeJ {l:List UInt8} (hne:l≠[]) (h:(zy l).2=0):Lib.validD l=false:=by
 have hw:=Lib.decodeL_width l
 unfold zy at h
 rw[if_neg hne] at h
 split at h
 ·rename_i e
  rw[Lib.validD_step l hne,e];simp
 ·omega
theorem zbu {l:List UInt8} (hne:l≠[]) (h:(zy l).2≠0):Lib.validD l=Lib.validD (l.drop (zy l).2)∧(zy l).2≤l.length:=by
 unfold zy at h ⊢
 rw[if_neg hne] at h ⊢
 split at h
 ·simp at h
 ·rename_i e
  rw[if_neg e]
  refine⟨?_,Lib.decodeL_le l hne⟩
  rw[Lib.validD_step l hne,if_neg]
  rintro⟨a,b⟩
  exact e (Prod.ext a b)
theorem zlc (s:List UInt8) (hs:s.length≤Lim):Pure Tryz.prog 152 [.str s] (.tup [.sl .no 1 (cZ (zas s)),.bool (Lib.validD s)]):=by
 refine Pure.go ir152 ck152 (Al4 _) fun KP Q hQ=>?_
 have hs':=hs
 simp only[Lim] at hs
 simp(disch:=omega) only[ir152,go_sem]
 refine goL_st (fun x:Own×List Int×Nat=>[(4,.sl x.1 1 (cZ x.2.1)),(5,.int .i64 x.2.2)])
  (fun x H=>x.2.2≤s.length∧x.2.1.length≤x.2.2∧Yx s.length s=x.2.1++Yx (s.length-x.2.1.length) (s.drop x.2.2)∧Lib.validD s=Lib.validD (s.drop x.2.2)∧OwnS Heap.emp .nil H x.1 x.2.1.length 1) (fun x=>s.length-x.2.2) (.nil,[],0) (by simp(disch:=omega) only[cZ,go_sem]) ⟨by simp,by simp,by simp,by simp,OwnS.refl rfl⟩ ?_
 rintro⟨o,acc,i⟩ H J ⟨hi,hai,hc,hv,hs1⟩ hJ
 simp only at hi hai hc hv hs1
 by_cases hlt:i<s.length
 case neg =>
  have hlt':¬ (i:Int)<s.length:=by omega
  rw[List.drop_of_length_le (by omega)] at hc hv
  rw[zgy,List.append_nil] at hc
  rw[Lib.validD_nil] at hv
  simp(disch:=omega) only[hlt',go_sem]
  exact hQ _ _ _ _ nofun rfl (by simp[tupOf,envOf,AV.strip,AV.strip1,zas,hv,hc])
 have hlt':(i:Int)<s.length:=by omega
 have hne:s.drop i≠[]:=fun e=>by have:=congrArg List.length e;simp at this;omega
 have hcl:=zjq acc
 simp(disch:=omega) only[hlt',go_sem]
 refine goK_pure (Pure.low (zky s i hlt hs')) ?_
 by_cases h0:(zy (s.drop i)).2=0
 ·rw[zeJ hne h0] at hv
  have h0':((zy (s.drop i)).2:Int)=0:=by omega
  simp(disch:=omega) only[h0',go_sem]
  exact hQ _ _ _ _ nofun rfl (by simp[tupOf,envOf,AV.strip,AV.strip1,zas,hv,cZ])
 ·obtain⟨g1,g2⟩:=zbu hne h0
  rw[zU] at g2
  rw[List.drop_drop] at g1
  have h0':¬ ((zy (s.drop i)).2:Int)=0:=by omega
  simp(disch:=omega) only[h0',go_sem]
  refine goP_ownS (by rw[hcl];exact hs1.own) ?_ ?_ fun o' H' hs2=>?_
  ·simp only[hcl,Al2,Al3];omega
  ·simp only[hcl,Al2,Al3,maxLen];omega
  simp(disch:=omega) only[wrap64,go_sem]
  refine goJ (hJ (o',acc++[((zy (s.drop i)).1:Int)],i+(zy (s.drop i)).2) H' (by simp only;omega) ⟨by simp only;omega,by simp only[Al5,Al2,Al3];omega,?_,by rw[hv,g1],hs1.trans (by simpa[hcl] using hs2)⟩) (by simp(disch:=omega) only[cZ,List.map_append,Int.natCast_add,go_sem])
  rw[hc]
  obtain⟨k,hk⟩:∃ k,s.length-acc.length=k+1:=⟨s.length-acc.length-1,by omega⟩
  have hk2:s.length-(acc++[((zy (s.drop i)).1:Int)]).length=k:=by simp only[Al5,Al2,Al3];omega
  simp only[hk,hk2,Yx]
  rw[if_neg hne,List.drop_drop]
  simp
end Go.Proofs.YtaielcdfcgpbiaaGreatDoor
