import Derived.Lib.ValidLaws
import Derived.Lib.ItoaLen
import Derived.Test.YticbbfbpeimkbaaGreatDoorM1
import Derived.Test.YticbbfbpeimkbaaGreatDoorM2
import Derived.Test.YticbbfbpeimkbaaGreatDoorM3
import Derived.Test.YticbbfbpeimkbaaGreatDoorM4
import Derived.Test.YticbbfbpeimkbaaGreatDoorM5
import Derived.Test.YticbbfbpeimkbaaGreatDoorM6
set_option maxRecDepth 100000
set_option linter.all false
namespace Go.Proofs.YticbbfbpeimkbaaGreatDoor
open Go.Ab
def zls (L:TS) (r:Nat) (k:Nat):Prop:=∀ {H:za} {s:St},H r=some (poc L s)→(s.e=0→s.dp=16-(k:Int)) →
 zf Tryz.prog 170 [.ptr r 0] H (PQ H r L (.sl .no 7 (cSs (yc L k s).1)) (yc L k s).2)
theorem zqT {L:TS} {H:za} {r:Nat} {s:St} {k:Nat} (hl:wT L≤z1) (hn:∀ x∈L,Zh x) (hk:k≤16) (hv:zls L r k) (hr:H r=some (poc L s)) (hd:s.e=0→s.dp=16-(k:Int)) :
  zf Tryz.prog 258 [.ptr r 0] H (PQ H r L (.agg (cS (zeU L (yc L k) k s).1)) (zeU L (yc L k) k s).2):=by
 refine zf.go ir258 ck258 (Al4 _) fun KP Q hQ=>?_
 have K0:=KB.start hr
 simp(disch:=first|omega|assumption) only[ir258,go_sem]
 refine zh fun b2 hb2=>?_
 have n2:=K0.ne hb2
 simp(disch:=first|omega|assumption) only[go_sem]
 obtain⟨H0,hH0⟩:∃ H0,H0=H.upd b2 (.cells zS):=⟨_,rfl⟩
 have K1:KB H r (poc L s) H0:=by rw[hH0];exact K0.box hb2 _
 have g2:H0 b2=some (.cells zS):=by rw[hH0,upd_same]
 rw[← hH0]
 clear hH0
 refine zc (zaJ hl K1.here _) fun v H1 ⟨hv1,hH⟩=>?_
 subst hv1;subst hH
 cases hi:isS L [46,46,46] s with
 | true =>
  have e0:zeU L (yc L k) k s=if ZZ L [111,110] (zj L [46,46,46] s) then zhh L (yc L k) k (zg L (zg L (zj L [46,46,46] s)).2).1 (zg L (zg L (zj L [46,46,46] s)).2).2
   else if ((zj L [46,46,46] s).hd L).k=2 then zrN L k (zj L [46,46,46] s) else zhh L (yc L k) k [] (zj L [46,46,46] s):=by simp[zeU,hi]
  have D1:=Yf (L:=L) (m:=[46,46,46]) hd
  simp(disch:=first|omega|assumption) only[go_sem]
  refine zc (y0 hl K1.here _) fun v H2 ⟨hv2,h2⟩=>?_
  subst hv2
  have K2:=K1.step h2
  have g22:=oth h2 n2 g2
  generalize zj L [46,46,46] s=s1 at *
  simp(disch:=first|omega|assumption) only[go_sem]
  refine zh fun b3 hb3=>?_
  have h32:b3≠b2:=fun e=>by subst e;rw[g22] at hb3;cases hb3
  have hb3H:=K2.none hb3
  have n3:=K0.ne hb3H
  simp(disch:=first|omega|assumption) only[go_sem]
  refine zc (ze5 hl (K2.box hb3H _).here _) fun v H3 ⟨hv3,h3⟩=>?_
  subst hv3
  have K3:=K2.box hb3H (.cells [.int .i64 2,.str [],.str [],.sl .nil 6 [],.sl .nil 2 [],.str [],.sl .nil 7 []])
  rw[← h3] at K3
  have g33:H3 b3=some (.cells [.int .i64 2,.str [],.str [],.sl .nil 6 [],.sl .nil 2 [],.str [],.sl .nil 7 []]):=by rw[h3,upd_same]
  have g32:H3 b2=some (.cells zS):=by rw[h3,upd_ne (Ne.symm h32),g22]
  clear h3
  cases hw:ZZ L [111,110] s1 with
  | true =>
   rw[hw,if_pos rfl] at e0
   simp(disch:=first|omega|assumption) only[go_sem]
   refine zc (Zb hl K3.here) fun v H4 ⟨hv4,h4⟩=>?_
   subst hv4
   have K4:=K3.step h4
   have g43:=oth h4 n3 g33
   have g42:=oth h4 n2 g32
   simp(disch:=first|omega|assumption) only[go_sem]
   refine zc (Zb hl K4.here) fun v H9 ⟨hv9,h9⟩=>?_
   subst hv9
   have K9:=K4.step h9
   have g93:=oth h9 n3 g43
   have g92:=oth h9 n2 g42
   simp(disch:=first|omega|assumption) only[g93,go_sem]
   rw[e0] at hQ
   have fin:=KB.done hQ
   refine zc (zaB (k:=k) hl hn hk (K9.box hb3H _).here (y5 (y5 D1))) fun v H5 ⟨hv5,h5⟩=>?_
   subst hv5
   have K5:=(K9.box hb3H _).step h5
   have g53:=oth h5 n3 (upd_same ..)
   have g52:=oth h5 n2 ((upd_ne (Ne.symm h32)).trans g92)
   simp(disch:=first|omega|assumption) only[g53,go_sem]
   refine zc (hv (K5.box hb3H _).here (Yk (yN hn false k hk) (y5 (y5 D1)))) fun v H6 ⟨hv6,h6⟩=>?_
   subst hv6
   have K6:=(K5.box hb3H _).step h6
   have g63:=oth h6 n3 (upd_same ..)
   have g62:=oth h6 n2 ((upd_ne (Ne.symm h32)).trans g52)
   simp only[zS] at g62
   simp(disch:=first|omega|assumption) only[g63,g62,h32,Ne.symm h32,go_sem]
   refine fin _ _ [.agg [.int .i64 2,.str [],.str [],.sl .nil 6 [],.sl .no 2 (cDs (z6 L false k (zg L (zg L s1).2).2).1),.str (zg L (zg L s1).2).1,.sl .no 7 (cSs (yc L k (z6 L false k (zg L (zg L s1).2).2).2).1)]] (by simp(disch:=first|omega|assumption) only[ir258,zo,zL,go_sem]) ((K6.box hb3H _).box hb2 _) ?_
   simp[zb,AV.strip,AV.strip1,zhh,cS,cMs,cSs]
  | false =>
   rw[hw] at e0
   simp only[Al7,if_false] at e0
   simp(disch:=first|omega|assumption) only[go_sem]
   refine zc (zg3 hl K3.here) fun v H4 ⟨hv4,hH⟩=>?_
   subst hv4;subst hH
   by_cases hk2:(s1.hd L).k=2
   ·rw[if_pos hk2] at e0
    have hk2':=eq_true hk2
    simp(disch:=first|omega|assumption) only[yl,hk2',go_sem]
    refine zc (Zb hl K3.here) fun v H4 ⟨hv4,h4⟩=>?_
    subst hv4
    have K4:=K3.step h4
    have g43:=oth h4 n3 g33
    have g42:=oth h4 n2 g32
    rw[e0] at hQ
    have fin:=KB.done hQ
    simp(disch:=first|omega|assumption) only[g43,go_sem]
    refine zc (zaB (k:=k) hl hn hk (K4.box hb3H _).here (y5 D1)) fun v H5 ⟨hv5,h5⟩=>?_
    subst hv5
    have K5:=(K4.box hb3H _).step h5
    have g53:=oth h5 n3 (upd_same ..)
    have g52:=oth h5 n2 ((upd_ne (Ne.symm h32)).trans g42)
    simp only[zS] at g52
    simp(disch:=first|omega|assumption) only[g53,g52,h32,Ne.symm h32,go_sem]
    refine fin _ _ [.agg [.int .i64 1,.str [],.str (zg L s1).1,.sl .nil 6 [],.sl .no 2 (cDs (z6 L false k (zg L s1).2).1),.str [],.sl .nil 7 []]] (by simp(disch:=first|omega|assumption) only[ir258,zo,zL,go_sem]) ((K5.box hb3H _).box hb2 _) ?_
    simp[zb,AV.strip,AV.strip1,zrN,cS,cMs,cSs]
   ·rw[if_neg hk2] at e0
    simp(disch:=first|omega|assumption) only[yl,hk2,go_sem]
    rw[e0] at hQ
    have fin:=KB.done hQ
    refine zc (zaB (k:=k) hl hn hk K3.here D1) fun v H5 ⟨hv5,h5⟩=>?_
    subst hv5
    have K5:=K3.step h5
    have g53:=oth h5 n3 g33
    have g52:=oth h5 n2 g32
    simp(disch:=first|omega|assumption) only[g53,go_sem]
    refine zc (hv (K5.box hb3H _).here (Yk (yN hn false k hk) D1)) fun v H6 ⟨hv6,h6⟩=>?_
    subst hv6
    have K6:=(K5.box hb3H _).step h6
    have g63:=oth h6 n3 (upd_same ..)
    have g62:=oth h6 n2 ((upd_ne (Ne.symm h32)).trans g52)
    simp only[zS] at g62
    simp(disch:=first|omega|assumption) only[g63,g62,h32,Ne.symm h32,go_sem]
    refine fin _ _ [.agg [.int .i64 2,.str [],.str [],.sl .nil 6 [],.sl .no 2 (cDs (z6 L false k s1).1),.str [],.sl .no 7 (cSs (yc L k (z6 L false k s1).2).1)]] (by simp(disch:=first|omega|assumption) only[ir258,zo,zL,go_sem]) ((K6.box hb3H _).box hb2 _) ?_
    simp[zb,AV.strip,AV.strip1,zhh,cS,cMs,cSs]
 | false =>
  have e0:zeU L (yc L k) k s=if isS L [58] (zg L s).2 then zb8 L (yc L k) k (zg L s).1 (zg L (zj L [58] (zg L s).2)).1 (zg L (zj L [58] (zg L s).2)).2
   else zb8 L (yc L k) k [] (zg L s).1 (zg L s).2:=by simp[zeU,hi]
  have D1:=y5 (L:=L) hd
  simp(disch:=first|omega|assumption) only[go_sem]
  refine zc (Zb hl K1.here) fun v H2 ⟨hv2,h2⟩=>?_
  subst hv2
  have K2:=K1.step h2
  have g22:=oth h2 n2 g2
  generalize (zg L s).2=s1 at *
  generalize (zg L s).1=nm at *
  simp(disch:=first|omega|assumption) only[go_sem]
  refine zh fun b3 hb3=>?_
  have h32:b3≠b2:=fun e=>by subst e;rw[g22] at hb3;cases hb3
  have hb3H:=K2.none hb3
  have n3:=K0.ne hb3H
  simp(disch:=first|omega|assumption) only[go_sem]
  refine zc (zaJ hl (K2.box hb3H _).here _) fun v H3 ⟨hv3,h3⟩=>?_
  subst hv3
  have K3:=K2.box hb3H (.cells [.int .i64 0,.str [],.str nm,.sl .nil 6 [],.sl .nil 2 [],.str [],.sl .nil 7 []])
  rw[← h3] at K3
  have g33:H3 b3=some (.cells [.int .i64 0,.str [],.str nm,.sl .nil 6 [],.sl .nil 2 [],.str [],.sl .nil 7 []]):=by rw[h3,upd_same]
  have g32:H3 b2=some (.cells zS):=by rw[h3,upd_ne (Ne.symm h32),g22]
  clear h3
  cases hc:isS L [58] s1 with
  | true =>
   rw[hc,if_pos rfl] at e0
   simp(disch:=first|omega|assumption) only[go_sem]
   refine zc (y0 hl K3.here _) fun v H4 ⟨hv4,h4⟩=>?_
   subst hv4
   have K4:=K3.step h4
   have g43:=oth h4 n3 g33
   have g42:=oth h4 n2 g32
   simp(disch:=first|omega|assumption) only[g43,go_sem]
   refine zc (Zb hl (K4.box hb3H _).here) fun v H9 ⟨hv9,h9⟩=>?_
   subst hv9
   have K9:=(K4.box hb3H _).step h9
   have g93:=oth h9 n3 (upd_same ..)
   have g92:=oth h9 n2 ((upd_ne (Ne.symm h32)).trans g42)
   simp(disch:=first|omega|assumption) only[g93,go_sem]
   have DZ:((zg L (zj L [58] s1)).2).e=0→((zg L (zj L [58] s1)).2).dp=16-(k:Int):=(y5 (Yf D1))
   have DA:=Yk (zc6 hn false k hk) DZ
   have DD:=Yk (yN hn false k hk) DA
   refine zc (zkH (k:=k) hl hn hk (K9.box hb3H _).here DZ) fun v H5 ⟨hv5,h5⟩=>?_
   subst hv5
   have K5:=(K9.box hb3H _).step h5
   have g53:=oth h5 n3 (upd_same ..)
   have g52:=oth h5 n2 ((upd_ne (Ne.symm h32)).trans g92)
   simp(disch:=first|omega|assumption) only[g53,go_sem]
   refine zc (zaB (k:=k) hl hn hk (K5.box hb3H _).here DA) fun v H6 ⟨hv6,h6⟩=>?_
   subst hv6
   have K6:=(K5.box hb3H _).step h6
   have g63:=oth h6 n3 (upd_same ..)
   have g62:=oth h6 n2 ((upd_ne (Ne.symm h32)).trans g52)
   simp(disch:=first|omega|assumption) only[g63,go_sem]
   refine zc (zaJ hl (K6.box hb3H _).here _) fun v H7 ⟨hv7,h7⟩=>?_
   subst hv7
   have K7:=K6.box hb3H (.cells [.int .i64 0,.str nm,.str (zg L (zj L [58] s1)).1,.sl .no 6 (cMs (yn L false k (zg L (zj L [58] s1)).2).1),.sl .no 2 (cDs (z6 L false k (yn L false k (zg L (zj L [58] s1)).2).2).1),.str [],.sl .nil 7 []])
   rw[← h7] at K7
   have g73:H7 b3=some (.cells [.int .i64 0,.str nm,.str (zg L (zj L [58] s1)).1,.sl .no 6 (cMs (yn L false k (zg L (zj L [58] s1)).2).1),.sl .no 2 (cDs (z6 L false k (yn L false k (zg L (zj L [58] s1)).2).2).1),.str [],.sl .nil 7 []]):=by rw[h7,upd_same]
   have g72:H7 b2=some (.cells zS):=by rw[h7,upd_ne (Ne.symm h32),g62]
   cases hb:isS L [123] (z6 L false k (yn L false k (zg L (zj L [58] s1)).2).2).2 with
   | true =>
    have e2:=e0.trans (show zb8 L (yc L k) k nm (zg L (zj L [58] s1)).1 (zg L (zj L [58] s1)).2=(.mk 0 nm (zg L (zj L [58] s1)).1 (yn L false k (zg L (zj L [58] s1)).2).1 (z6 L false k (yn L false k (zg L (zj L [58] s1)).2).2).1 [] (yc L k (z6 L false k (yn L false k (zg L (zj L [58] s1)).2).2).2).1,(yc L k (z6 L false k (yn L false k (zg L (zj L [58] s1)).2).2).2).2) by simp[zb8,zhf,hb])
    rw[e2] at hQ
    have fin:=KB.done hQ
    simp(disch:=first|omega|assumption) only[go_sem]
    refine zc (hv K7.here DD) fun v H8 ⟨hv8,h8⟩=>?_
    subst hv8
    have K8:=K7.step h8
    have g83:=oth h8 n3 g73
    have g82:=oth h8 n2 g72
    simp only[zS] at g82
    simp(disch:=first|omega|assumption) only[g83,g82,h32,Ne.symm h32,go_sem]
    refine fin _ _ [.agg [.int .i64 0,.str nm,.str (zg L (zj L [58] s1)).1,.sl .no 6 (cMs (yn L false k (zg L (zj L [58] s1)).2).1),.sl .no 2 (cDs (z6 L false k (yn L false k (zg L (zj L [58] s1)).2).2).1),.str [],.sl .no 7 (cSs (yc L k (z6 L false k (yn L false k (zg L (zj L [58] s1)).2).2).2).1)]] (by simp(disch:=first|omega|assumption) only[ir258,zo,zL,go_sem]) ((K8.box hb3H _).box hb2 _) ?_
    simp[zb,AV.strip,AV.strip1,cS,cMs,cSs]
   | false =>
    have e2:=e0.trans (show zb8 L (yc L k) k nm (zg L (zj L [58] s1)).1 (zg L (zj L [58] s1)).2=(.mk 0 nm (zg L (zj L [58] s1)).1 (yn L false k (zg L (zj L [58] s1)).2).1 (z6 L false k (yn L false k (zg L (zj L [58] s1)).2).2).1 [] [],(z6 L false k (yn L false k (zg L (zj L [58] s1)).2).2).2) by simp[zb8,zhf,hb])
    rw[e2] at hQ
    have fin:=KB.done hQ
    simp only[zS] at g72
    simp(disch:=first|omega|assumption) only[g73,g72,h32,Ne.symm h32,go_sem]
    refine fin _ _ [.agg [.int .i64 0,.str nm,.str (zg L (zj L [58] s1)).1,.sl .no 6 (cMs (yn L false k (zg L (zj L [58] s1)).2).1),.sl .no 2 (cDs (z6 L false k (yn L false k (zg L (zj L [58] s1)).2).2).1),.str [],.sl .nil 7 []]] (by simp(disch:=first|omega|assumption) only[ir258,zo,zL,go_sem]) (K7.box hb2 _) ?_
    simp[zb,AV.strip,AV.strip1,cS,cMs,cSs]
  | false =>
   rw[hc] at e0
   simp only[Al7,if_false] at e0
   simp(disch:=first|omega|assumption) only[go_sem]
   have DZ:(s1).e=0→(s1).dp=16-(k:Int):=D1
   have DA:=Yk (zc6 hn false k hk) DZ
   have DD:=Yk (yN hn false k hk) DA
   refine zc (zkH (k:=k) hl hn hk K3.here DZ) fun v H5 ⟨hv5,h5⟩=>?_
   subst hv5
   have K5:=K3.step h5
   have g53:=oth h5 n3 g33
   have g52:=oth h5 n2 g32
   simp(disch:=first|omega|assumption) only[g53,go_sem]
   refine zc (zaB (k:=k) hl hn hk (K5.box hb3H _).here DA) fun v H6 ⟨hv6,h6⟩=>?_
   subst hv6
   have K6:=(K5.box hb3H _).step h6
   have g63:=oth h6 n3 (upd_same ..)
   have g62:=oth h6 n2 ((upd_ne (Ne.symm h32)).trans g52)
   simp(disch:=first|omega|assumption) only[g63,go_sem]
   refine zc (zaJ hl (K6.box hb3H _).here _) fun v H7 ⟨hv7,h7⟩=>?_
   subst hv7
   have K7:=K6.box hb3H (.cells [.int .i64 0,.str [],.str nm,.sl .no 6 (cMs (yn L false k s1).1),.sl .no 2 (cDs (z6 L false k (yn L false k s1).2).1),.str [],.sl .nil 7 []])
   rw[← h7] at K7
   have g73:H7 b3=some (.cells [.int .i64 0,.str [],.str nm,.sl .no 6 (cMs (yn L false k s1).1),.sl .no 2 (cDs (z6 L false k (yn L false k s1).2).1),.str [],.sl .nil 7 []]):=by rw[h7,upd_same]
   have g72:H7 b2=some (.cells zS):=by rw[h7,upd_ne (Ne.symm h32),g62]
   cases hb:isS L [123] (z6 L false k (yn L false k s1).2).2 with
   | true =>
    have e2:=e0.trans (show zb8 L (yc L k) k [] nm s1=(.mk 0 [] nm (yn L false k s1).1 (z6 L false k (yn L false k s1).2).1 [] (yc L k (z6 L false k (yn L false k s1).2).2).1,(yc L k (z6 L false k (yn L false k s1).2).2).2) by simp[zb8,zhf,hb])
    rw[e2] at hQ
    have fin:=KB.done hQ
    simp(disch:=first|omega|assumption) only[go_sem]
    refine zc (hv K7.here DD) fun v H8 ⟨hv8,h8⟩=>?_
    subst hv8
    have K8:=K7.step h8
    have g83:=oth h8 n3 g73
    have g82:=oth h8 n2 g72
    simp only[zS] at g82
    simp(disch:=first|omega|assumption) only[g83,g82,h32,Ne.symm h32,go_sem]
    refine fin _ _ [.agg [.int .i64 0,.str [],.str nm,.sl .no 6 (cMs (yn L false k s1).1),.sl .no 2 (cDs (z6 L false k (yn L false k s1).2).1),.str [],.sl .no 7 (cSs (yc L k (z6 L false k (yn L false k s1).2).2).1)]] (by simp(disch:=first|omega|assumption) only[ir258,zo,zL,go_sem]) ((K8.box hb3H _).box hb2 _) ?_
    simp[zb,AV.strip,AV.strip1,cS,cMs,cSs]
   | false =>
    have e2:=e0.trans (show zb8 L (yc L k) k [] nm s1=(.mk 0 [] nm (yn L false k s1).1 (z6 L false k (yn L false k s1).2).1 [] [],(z6 L false k (yn L false k s1).2).2) by simp[zb8,zhf,hb])
    rw[e2] at hQ
    have fin:=KB.done hQ
    simp only[zS] at g72
    simp(disch:=first|omega|assumption) only[g73,g72,h32,Ne.symm h32,go_sem]
    refine fin _ _ [.agg [.int .i64 0,.str [],.str nm,.sl .no 6 (cMs (yn L false k s1).1),.sl .no 2 (cDs (z6 L false k (yn L false k s1).2).1),.str [],.sl .nil 7 []]] (by simp(disch:=first|omega|assumption) only[ir258,zo,zL,go_sem]) (K7.box hb2 _) ?_
    simp[zb,AV.strip,AV.strip1,cS,cMs,cSs]
abbrev pl (v:Val):Prop:=zpv zf5 v=true
inductive Shape:Val→Prop
 | null:Shape (.mk 0 0 [] [] [])
 | bool (n:Int) (h:n=0∨n=1):Shape (.mk 1 n [] [] [])
 | int (n:Int):Shape (.mk 2 n [] [] [])
 | num (s:List UInt8) (h:zsY s=true):Shape (.mk 3 0 s [] [])
 | text (s:List UInt8):Shape (.mk 4 0 s [] [])
 | word (s:List UInt8) (h:zs9 s=false):Shape (.mk 5 0 s [] [])
 | var (s:List UInt8):Shape (.mk 8 0 s [] [])
 | list (l:List Val) (h:znH zf5 l=true):Shape (.mk 6 0 [] l [])
 | obj (m:List Mem) (h:znQ zf5 m=true):Shape (.mk 7 0 [] [] m)
theorem zeG {n:Int} {s:List UInt8} {l:List Val} {m:List Mem}:zjw n s l m=true↔n=0∧s=[]∧l=[]∧m=[]:=by
 simp[zjw]
theorem shape:∀ v,pl v→Shape v
 | .mk k n s l m,h=>by
  simp only[pl,zpv] at h
  split at h
  ·rename_i k6
   subst k6
   simp only[Al0,zeG] at h
   obtain⟨h1,rfl,rfl,_,rfl⟩:=h
   exact .list l h1
  ·split at h
   ·rename_i k7
    subst k7
    simp only[Al0,zeG] at h
    obtain⟨h1,rfl,rfl,rfl,_⟩:=h
    exact .obj m h1
   ·simp only[zlB,Al0,zeG] at h
    obtain⟨⟨_,_,rfl,rfl⟩,h⟩:=h
    split at h
    ·rename_i k0
     subst k0
     simp only[Al0,z7] at h
     obtain⟨rfl,rfl⟩:=h
     exact .null
    split at h
    ·rename_i k0
     subst k0
     simp only[Al0,zd3,z7] at h
     obtain⟨h,rfl⟩:=h
     exact .bool n h
    split at h
    ·rename_i k0
     subst k0
     simp only[z7] at h
     subst h
     exact .int n
    split at h
    ·rename_i k0
     subst k0
     simp only[Al0,z7] at h
     obtain⟨rfl,h⟩:=h
     exact .num s h
    split at h
    ·rename_i k0
     subst k0
     simp only[Al0,z7] at h
     obtain⟨rfl,h⟩:=h
     exact .text s
    split at h
    ·rename_i k0
     subst k0
     simp only[Al0,z7,Bool.not_eq_true'] at h
     obtain⟨rfl,_,h⟩:=h
     exact .word s h
    split at h
    ·rename_i k0
     subst k0
     simp only[Al0,z7] at h
     obtain⟨rfl,_⟩:=h
     exact .var s
    ·cases h
open Go.Lib
theorem zdE {P:UInt8→Prop} (h:∀ x:Fin 256,P (UInt8.ofNat x.val)) (c:UInt8):P c:=by
 have:=h ⟨c.toNat,c.toNat_lt⟩
 simpa using this
theorem Y4 {a b:List UInt8} {i:Nat} (h:i<a.length):(a++b).getD i 0=a.getD i 0:=by
 simp[List.getD,zdf h]
theorem getD_at (a:List UInt8) (c:UInt8) (b:List UInt8):(a++c::b).getD a.length 0=c:=by simp
theorem zfZ {n b1 b2 b3 sz lo hi k:Nat} (h:checkN n b1 b2 b3 sz lo hi=some k) :
  2≤k∧k≤4∧k≤n∧k=sz∧lo≤b1∧(3≤k→128≤b2)∧(4≤k→128≤b3)∧∀ n' c2 c3,k≤n'→(3≤k→c2=b2)→(4≤k→c3=b3)→checkN n' b1 c2 c3 sz lo hi=some k:=by
 unfold checkN at h
 split at h
 ·rename_i hs
  split at h
  ·cases h
  ·rename_i hc
   cases h
   refine⟨by omega,by omega,by omega,hs.symm,by omega,by omega,by omega,fun n' c2 c3 h1 _ _=>?_⟩
   unfold checkN;rw[if_pos hs,if_neg (by omega)]
 ·rename_i hs2
  split at h
  ·rename_i hs
   split at h
   ·cases h
   ·rename_i hc
    cases h
    refine⟨by omega,by omega,by omega,hs.symm,by omega,by omega,by omega,fun n' c2 c3 h1 h2 _=>?_⟩
    have:=h2 (by omega)
    unfold checkN;rw[if_neg hs2,if_pos hs,if_neg (by omega)]
  ·rename_i hs3
   split at h
   ·rename_i hs
    split at h
    ·cases h
    ·rename_i hc
     cases h
     refine⟨by omega,by omega,by omega,hs.symm,by omega,by omega,by omega,fun n' c2 c3 h1 h2 h3=>?_⟩
     have:=h2 (by omega)
     have:=h3 (by omega)
     unfold checkN;rw[if_neg hs2,if_neg hs3,if_pos hs,if_neg (by omega)]
   ·cases h
theorem ztT:∀ x:Fin 256,2≤firstT x.val % 8→firstT x.val % 8≤4→128≤accLo (firstT x.val / 16):=by decide +kernel
theorem ztD {b:Nat} (h:b<256) (h1:2≤firstT b % 8) (h2:firstT b % 8≤4):128≤accLo (firstT b / 16):=ztT ⟨b,h⟩ h1 h2
theorem zdu:∀(n:Nat) (a b:List UInt8),a.length≤n→validD a=true→validD (a++b)=validD b
 | n,[],b,_,_=>by simp
 | 0,x::t,b,h,_=>by simp at h
 | n+1,x::t,b,h,hv=>by
  by_cases hx:x.toNat<128
  ·rw[validD_cons x t hx] at hv
   rw[Al6,validD_cons x _ hx]
   exact zdu n t b (by simpa using h) hv
  ·have h0:128≤((x::t).getD 0 0).toNat:=by simp;omega
   rw[validD_lead (x::t) (by simp) h0] at hv
   split at hv
   ·cases hv
   ·rename_i k hk
    obtain⟨k2,k4,kl,ks,klo,_,_,kall⟩:=zfZ hk
    have hkl:k≤(x::t).length:=kl
    have e1:((x::t++b).getD 1 0)=(x::t).getD 1 0:=Y4 (by omega)
    have e0:((x::t++b).getD 0 0)=(x::t).getD 0 0:=Y4 (by omega)
    rw[validD_lead (x::t++b) (by simp) (by rw[e0];exact h0),e0,e1]
    rw[kall (x::t++b).length _ _ (by simp only[Al5];omega) (fun h3=>by rw[Y4 (by omega)]) (fun h3=>by rw[Y4 (by omega)])]
    simp only
    rw[zd9 hkl]
    exact zdu n _ b (by rw[yH];omega) hv
theorem zix {a b:List UInt8} (h:validD a=true):validD (a++b)=validD b:=zdu a.length a b (Al4 _) h
theorem za4 {a b:List UInt8} (h:validD a=true) (h':validD b=true):validD (a++b)=true:=(zix h).trans h'
theorem zbG (c:UInt8) (hc:c.toNat<128):∀(n:Nat) (a b:List UInt8),a.length≤n→validD (a++c::b)=true→validD a=true∧validD b=true
 | n,[],b,_,hv=>by
  rw[zcD,validD_cons c b hc] at hv
  exact⟨validD_nil,hv⟩
 | 0,x::t,b,h,_=>by simp at h
 | n+1,x::t,b,h,hv=>by
  by_cases hx:x.toNat<128
  ·rw[Al6,validD_cons x _ hx] at hv
   rw[validD_cons x t hx]
   exact zbG c hc n t b (by simpa using h) hv
  ·have h0:128≤((x::t++c::b).getD 0 0).toNat:=by simp;omega
   have e0:((x::t++c::b).getD 0 0)=(x::t).getD 0 0:=Y4 (by simp)
   have ec:((x::t++c::b).getD (x::t).length 0)=c:=getD_at ..
   rw[validD_lead (x::t++c::b) (by simp) h0] at hv
   split at hv
   ·cases hv
   ·rename_i k hk
    obtain⟨k2,k4,kl,ks,klo,k3,k4',kall⟩:=zfZ hk
    have hlo:=ztD ((x::t++c::b).getD 0 0).toNat_lt (by omega) (by omega)
    have hkl:k≤(x::t).length:=by
     rcases Nat.lt_or_ge (x::t).length k with h1|h1
     ·exfalso
      have hl:(x::t).length=1∨(x::t).length=2∨(x::t).length=3:=by simp only[Al2] at h1 ⊢;omega
      rcases hl with e|e|e
      ·rw[e] at ec h1;rw[ec] at klo;omega
      ·rw[e] at ec h1;rw[ec] at k3;have:=k3 (by omega);omega
      ·rw[e] at ec h1;rw[ec] at k4';have:=k4' (by omega);omega
     ·exact h1
    have e1:((x::t++c::b).getD 1 0)=(x::t).getD 1 0:=Y4 (by omega)
    rw[zd9 hkl] at hv
    obtain⟨g1,g2⟩:=zbG c hc n _ b (by rw[yH];omega) hv
    refine⟨?_,g2⟩
    rw[validD_lead (x::t) (by simp) (by rw[← e0];exact h0),← e0,← e1]
    rw[kall (x::t).length _ _ hkl (fun h3=>by rw[Y4 (by omega)]) (fun h3=>by rw[Y4 (by omega)])]
    exact g1
theorem zcd {c:UInt8} (hc:c.toNat<128) {a b:List UInt8} (hv:validD (a++c::b)=true):validD a=true∧validD b=true:=zbG c hc a.length a b (Al4 _) hv
theorem ofN {n:Nat} (h:n<256):(UInt8.ofNat n).toNat=n:=by rw[UInt8.toNat_ofNat'];omega
theorem zeS {n:Nat} (h1:n≤1114111) (h2:¬ (55296≤n∧n≤57343)):validD (Zz n)=true:=by
 unfold Zz
 split
 ·rename_i h
  rw[validD_cons _ _ (by rw[ofN (by omega)];omega)];rfl
 ·split
  ·rename_i h0 h
   rw[validD_lead _ (by simp) (by simp only[List.getD_cons_zero];rw[ofN (by omega)];omega)]
   simp only[List.getD_cons_zero,List.getD_cons_succ,List.getD_nil,Al2,Al3]
   rw[ofN (show 192+n / 64<256 by omega),ofN (show 128+n % 64<256 by omega)]
   have e:firstT (192+n / 64)=2:=by unfold firstT;rw[if_neg (by omega),if_neg (by omega),if_pos (by omega)]
   rw[e]
   have e2:checkN (0+1+1) (128+n % 64) (0:UInt8).toNat (0:UInt8).toNat (2 % 8) (accLo (2 / 16)) (accHi (2 / 16))=some 2:=by
    unfold checkN accLo accHi;simp;omega
   rw[e2];rfl
  ·split
   ·rename_i h0 h1' h
    rw[validD_lead _ (by simp) (by simp only[List.getD_cons_zero];rw[ofN (by omega)];omega)]
    simp only[List.getD_cons_zero,List.getD_cons_succ,List.getD_nil,Al2,Al3]
    rw[ofN (show 224+n / 4096<256 by omega),ofN (show 128+n / 64 % 64<256 by omega),ofN (show 128+n % 64<256 by omega)]
    have e2:checkN (0+1+1+1) (128+n / 64 % 64) (128+n % 64) (0:UInt8).toNat (firstT (224+n / 4096) % 8) (accLo (firstT (224+n / 4096) / 16)) (accHi (firstT (224+n / 4096) / 16))=some 3:=by
     have c:n / 4096=0∨(1≤n / 4096∧n / 4096<13)∨n / 4096=13∨(14≤n / 4096∧n / 4096<16):=by omega
     rcases c with c|c|c|c
     ·rw[c];unfold checkN;simp[firstT,accLo,accHi];omega
     ·have e:firstT (224+n / 4096)=3:=by unfold firstT;rw[if_neg (by omega),if_neg (by omega),if_neg (by omega),if_neg (by omega),if_pos (by omega)]
      rw[e];unfold checkN;simp[accLo,accHi];omega
     ·rw[c];unfold checkN;simp[firstT,accLo,accHi];omega
     ·have e:firstT (224+n / 4096)=3:=by unfold firstT;rw[if_neg (by omega),if_neg (by omega),if_neg (by omega),if_neg (by omega),if_neg (by omega),if_neg (by omega),if_pos (by omega)]
      rw[e];unfold checkN;simp[accLo,accHi];omega
    rw[e2];rfl
   ·rename_i h0 h1' h
    rw[validD_lead _ (by simp) (by simp only[List.getD_cons_zero];rw[ofN (by omega)];omega)]
    simp only[List.getD_cons_zero,List.getD_cons_succ,List.getD_nil,Al2,Al3]
    rw[ofN (show 240+n / 262144<256 by omega),ofN (show 128+n / 4096 % 64<256 by omega),ofN (show 128+n / 64 % 64<256 by omega),ofN (show 128+n % 64<256 by omega)]
    have e2:checkN (0+1+1+1+1) (128+n / 4096 % 64) (128+n / 64 % 64) (128+n % 64) (firstT (240+n / 262144) % 8) (accLo (firstT (240+n / 262144) / 16)) (accHi (firstT (240+n / 262144) / 16))=some 4:=by
     have c:n / 262144=0∨(1≤n / 262144∧n / 262144<4)∨n / 262144=4:=by omega
     rcases c with c|c|c
     ·rw[c];unfold checkN;simp[firstT,accLo,accHi];omega
     ·have e:firstT (240+n / 262144)=4:=by unfold firstT;rw[if_neg (by omega),if_neg (by omega),if_neg (by omega),if_neg (by omega),if_neg (by omega),if_neg (by omega),if_neg (by omega),if_neg (by omega),if_pos (by omega)]
      rw[e];unfold checkN;simp[accLo,accHi];omega
     ·rw[c];unfold checkN;simp[firstT,accLo,accHi];omega
    rw[e2];rfl
theorem zdV:∀(u:List Nat) (s:List UInt8),zX u=some s→validD s=true
 | [],s,h=>by cases h;rfl
 | u::[],s,h=>by
  simp only[zX] at h
  split at h
  ·cases h
  ·rename_i h1
   split at h
   ·cases h
   ·simp only[yS,Al1] at h
    subst h
    rw[List.append_nil]
    exact zeS (by omega) (by omega)
 | u::v::r,s,h=>by
  rw[zX] at h
  split at h
  ·cases h
  ·rename_i h1
   split at h
   ·rename_i h2
    split at h
    ·cases h
    ·rename_i h3
     cases hr:zX r with
     | none=>simp[hr] at h
     | some x =>
      simp only[hr,yS,Al1] at h
      subst h
      exact za4 (zeS (by omega) (by omega)) (zdV r x hr)
   ·rename_i h2
    cases hr:zX (v::r) with
    | none=>simp[hr] at h
    | some x =>
     simp only[hr,yS,Al1] at h
     subst h
     exact za4 (zeS (by omega) (by omega)) (zdV (v::r) x hr)
end Go.Proofs.YticbbfbpeimkbaaGreatDoor
namespace Go.Proofs.YticbbfbpeimkbaaGreatDoor
open Go.Ab
open Go.Lib
theorem zmo (c:UInt8):isD c=true→nch c=true:=zdE (P:=fun c=>isD c=true→nch c=true) (by decide +kernel) c
theorem zte (c:UInt8):isE c=true→nch c=true:=zdE (P:=fun c=>isE c=true→nch c=true) (by decide +kernel) c
theorem ztA (c:UInt8):isD c=true→nst c=true:=zdE (P:=fun c=>isD c=true→nst c=true) (by decide +kernel) c
theorem zcV:∀(l:List UInt8) (c:UInt8),c∈l.take (zR l)→isD c=true
 | [],c,h=>by simp at h
 | x::l,c,h=>by
  rw[zR] at h
  split at h
  ·rename_i hx
   rw[zbV] at h
   rcases List.mem_cons.1 h with e|e
   ·rw[e];exact hx
   ·exact zcV l c e
  ·simp at h
theorem zmQ {l:List UInt8} {a b:Nat} (h:a≤b) {c:UInt8} (hc:c∈l.take a):c∈l.take b :=
 (List.take_prefix_take_left h).subset hc
theorem znt (s:List UInt8):Zt s≤zR s:=by unfold Zt;split<;>(try split)<;>omega
theorem zhr {l:List UInt8} {c:UInt8} (h:c∈l.take (Zt l)):isD c=true:=zcV l c (zmQ (znt l) h)
theorem zky {s:List UInt8} {c:UInt8} (h:c∈s.take (zF s)):nch c=true:=by
 by_cases h45:s.head?=some 45
 ·cases s with
  | nil=>simp at h
  | cons x t =>
   have hx:x=45:=by simpa using h45
   subst hx
   rw[YU] at h
   by_cases h0:zR t=0
   ·rw[if_pos h0] at h;simp at h
   ·rw[if_neg h0,Nat.add_comm,zbV] at h
    rcases List.mem_cons.1 h with e|e
    ·rw[e];decide
    ·exact zmo c (zhr e)
 ·rw[Yh h45] at h
  exact zmo c (zhr h)
theorem zlg {s:List UInt8} {c:UInt8} (h:c∈s.take (yA s)):nch c=true:=by
 unfold yA at h
 split at h
 ·rename_i h46
  cases s with
  | nil=>simp at h
  | cons x t =>
   have hx:x=46:=by simpa using h46.1
   subst hx
   simp only[List.tail_cons] at h
   rw[Nat.add_comm,zbV] at h
   rcases List.mem_cons.1 h with e|e
   ·rw[e];decide
   ·exact zmo c (zcV _ c e)
 ·simp at h
theorem zk7 {s:List UInt8} (h:zF s≠0):∃ c t,s=c::t∧nst c=true:=by
 cases s with
 | nil=>exact absurd (by decide) h
 | cons c t =>
  refine⟨c,t,rfl,?_⟩
  by_cases hc:c=45
  ·rw[hc];decide
  ·rw[Yh (by simpa using hc)] at h
   apply ztA
   cases hd:isD c with
   | true=>rfl
   | false=>exact absurd (by simp[Zt,zR,hd]) h
theorem zod {r:List UInt8} {c:UInt8} (h:c∈r.take (sgN r)):nch c=true:=by
 unfold sgN at h
 split at h
 ·rename_i hs
  cases r with
  | nil=>simp at h
  | cons x t =>
   simp only[List.head?_cons,Al1] at hs
   simp at h
   subst h
   rcases hs with rfl|rfl<;>decide
 ·simp at h
theorem zmV:∀(s:List UInt8) (c:UInt8),c∈s.take (ZJ s)→nch c=true
 | [],c,h=>by simp at h
 | x::r,c,h=>by
  rw[ZJ] at h
  split at h
  ·rename_i hx
   split at h
   ·simp at h
   ·rw[Nat.add_assoc,Nat.add_comm,zbV] at h
    rcases List.mem_cons.1 h with e|e
    ·rw[e];exact zte x hx
    ·rw[List.take_add] at e
     rcases List.mem_append.1 e with e|e
     ·exact zod e
     ·exact zmo c (zcV _ c e)
  ·simp at h
theorem zoh {s:List UInt8} (h:zbC s≠0):(∀ c∈s,nch c=true)∧∃ c t,s=c::t∧nst c=true:=by
 unfold zbC at h
 split at h
 ·rename_i hl
  unfold yx at h hl
  split at h
  ·exact absurd rfl h
  ·rename_i hw
   rw[if_neg hw] at hl
   simp only at hl
   refine⟨fun c hc=>?_,zk7 hw⟩
   have e:s=s.take (zF s+yA (s.drop (zF s))+ZJ (s.drop (zF s+yA (s.drop (zF s))))):=by rw[hl,List.take_length]
   rw[e,List.take_add,List.take_add] at hc
   rcases List.mem_append.1 hc with hc|hc
   ·rcases List.mem_append.1 hc with hc|hc
    ·exact zky hc
    ·exact zlg hc
   ·exact zmV _ _ hc
 ·exact absurd rfl h
theorem zeY {s:List UInt8} (h:∀ c∈s,c.toNat<128):validD s=true:=by
 have:=validD_ascii s.length s (fun b hb=>h b (List.mem_of_mem_take hb))
 rw[this,List.drop_length];rfl
end Go.Proofs.YticbbfbpeimkbaaGreatDoor
namespace Go.Proofs.YticbbfbpeimkbaaGreatDoor
open Go.Ab
theorem znz (m:List UInt8) (x:Tok) (t:TS):isP m (x::t)=(decide (x.k=1)&&decide (x.s=m)):=rfl
theorem zou (m n:List UInt8) (t:TS):isP m (pk n::t)=decide (n=m):=by simp[znz,pk]
def zan (i:Nat) (m:Int) (t:TS):Int×TS:=if isP [33] t then (m+2 ^ i,t.tail) else (m,t)
def zdK (n i:Nat) (t:TS):PR Unit:=if i<n then ZY [93] t else .ok ((),t)
def tyL (n:Nat):Nat→Int→TS→PR Int
 | 0,m,t=>pb (zdK n 0 t) fun _ t=>.ok (zan 0 m t)
 | i+1,m,t=>pb (zdK n (i+1) t) fun _ t=>tyL n i (zan (i+1) m t).1 (zan (i+1) m t).2
theorem zn8 (n i:Nat) (t:TS):zdK (n+1) (i+1) t=zdK n i t:=by
 unfold zdK
 by_cases h:i<n
 ·rw[if_pos h,if_pos (by omega)]
 ·rw[if_neg h,if_neg (by omega)]
theorem znp (i:Nat) (m:Int) (t:TS):zan (i+1) (m*2) t=((zan i m t).1*2,(zan i m t).2):=by
 unfold zan
 split
 ·simp only[Al8,and_true];rw[Int.pow_succ];omega
 ·rfl
theorem zq3 (n:Nat):∀(i:Nat) (m:Int) (t:TS),tyL (n+1) (i+1) (m*2) t=pb (tyL n i m t) fun m t=>pb (ZY [93] t) fun _ t=>.ok (zan 0 (m*2) t)
 | 0,m,t=>by
  have e:∀(m:Int) (t:TS),tyL (n+1) 0 m t=pb (ZY [93] t) fun _ t=>.ok (zan 0 m t):=fun m t=>by rw[tyL,zdK,if_pos (Nat.succ_pos n)]
  have e1:tyL (n+1) (0+1) (m*2) t=pb (zdK n 0 t) fun _ t=>tyL (n+1) 0 (zan (0+1) (m*2) t).1 (zan (0+1) (m*2) t).2:=by conv=>lhs;rw[tyL,zn8]
  have e2:tyL n 0 m t=pb (zdK n 0 t) fun _ t=>.ok (zan 0 m t):=by rw[tyL]
  rw[e1,e2]
  rcases zdK n 0 t with x|⟨_,t1⟩
  ·rfl
  ·simp only[zJ]
   rw[znp,e]
   rfl
 | i+1,m,t=>by
  have e1:tyL (n+1) (i+1+1) (m*2) t=pb (zdK n (i+1) t) fun _ t=>tyL (n+1) (i+1) (zan (i+1+1) (m*2) t).1 (zan (i+1+1) (m*2) t).2:=by conv=>lhs;rw[tyL,zn8]
  have e2:tyL n (i+1) m t=pb (zdK n (i+1) t) fun _ t=>tyL n i (zan (i+1) m t).1 (zan (i+1) m t).2:=by rw[tyL]
  rw[e1,e2]
  rcases zdK n (i+1) t with x|⟨_,t1⟩
  ·rfl
  ·simp only[zJ]
   rw[znp,zq3 n i]
theorem zho:∀(n k:Nat) (u:TS),n≤k→isP [91] u=false→zcl k (List.replicate n (pk [91])++u)=pb (yP u) fun s t=>pb (tyL n n 0 t) fun m t=>.ok (⟨s,n,m⟩,t)
 | 0,k,u,_,hu=>by
  rw[List.replicate_zero,zcD,zar,zfK.eq_def,hu]
  simp only[Al7,if_false]
  rcases yP u with x|⟨s,t⟩
  ·rfl
  ·simp only[zJ,tyL,zdK,Nat.lt_irrefl,if_false]
   unfold zck zan
   cases isP [33] t<;>simp[pb]
 | n+1,0,u,h,_=>by omega
 | n+1,k+1,u,h,hu=>by
  rw[List.replicate_succ,Al6,zar,zfK.eq_def,zou,zlH]
  simp only[decide_true,if_true,List.tail_cons]
  rw[zho n k u (by omega) hu]
  rcases yP u with x|⟨s,t⟩
  ·rfl
  ·simp only[zJ]
   have e:=zq3 n n 0 t
   rw[Int.zero_mul] at e
   rw[e]
   rcases tyL n n 0 t with x|⟨m,t1⟩
   ·rfl
   ·simp only[zJ]
    rcases ZY [93] t1 with x|⟨_,t2⟩
    ·rfl
    ·simp only[zJ]
     unfold zck zan
     cases isP [33] t2<;>simp[pb]
def tyN (n:Nat):Nat→Int→TS→PR Int
 | 0,m,t=>.ok (m,t)
 | i+1,m,t=>tyL n i m t
theorem zrD (n i:Nat) (m:Int) (t:TS):tyL n i m t=pb (zdK n i t) fun _ t=>tyN n i (zan i m t).1 (zan i m t).2:=by cases i<;>rfl
theorem zh4:∀(k:Nat) (u:TS),isP [91] u=true→zcl k (List.replicate k (pk [91])++u)=.error 4
 | 0,u,hu=>by rw[List.replicate_zero,zcD,zar,zfK.eq_def,hu];rfl
 | k+1,u,hu=>by
  rw[List.replicate_succ,Al6,zar,zfK.eq_def,zou,zlH]
  simp only[decide_true,if_true,List.tail_cons]
  rw[zh4 k u hu];rfl
theorem zr2 {m:List UInt8} {t:TS} (h:isP m t=true):t=pk m::t.tail:=by
 have h2:=YX (zgh h)
 simp only[isP,Al0,z7] at h
 rw[h2]
 congr 1
 cases hx:hdT t with|mk k s=>rw[hx] at h;simp only at h;rw[h.1,h.2];rfl
theorem zoU (n:Nat) (x:Tok) (u:TS):List.replicate n x++x::u=List.replicate (n+1) x++u:=by
 rw[List.replicate_succ',zfM];rfl
theorem ztf:∀ i:Fin 5,∀ m:Fin 32,m.val % 2 ^ (i.val+1)=0→IntKind.wrap .i64 ((BitVec.ofInt IntKind.i64.bits ((m.val:Nat):Int) ||| BitVec.ofInt IntKind.i64.bits (((2 ^ i.val:Nat)):Int)).toNat:Int)=((m.val+2 ^ i.val:Nat):Int):=by decide +kernel
theorem ztg:∀ i:Fin 5,IntKind.wrap .i64 (1*2 ^ min i.val IntKind.i64.bits)=((2 ^ i.val:Nat):Int):=by decide +kernel
theorem zqL:∀ i:Fin 5,∀ m:Fin 32,m.val % 2 ^ (i.val+1)=0→m.val+2 ^ i.val<32∧(m.val+2 ^ i.val) % 2 ^ i.val=0:=by decide +kernel
abbrev zT:List AV:=[.str [],.int .i64 0,.int .i64 0]
theorem zrz {H:za} {r:Nat} {L p t:TS} {dp:Nat} (hs:p++t=L) (hl:wT L≤z1) (hr:H r=some (prc L p dp)) :
  zf Tryz.prog 100 [.ptr r 0] H (RpE H r L dp (zcl 4 t) (fun x=>.agg (cTy x))):=by
 refine Zy (zf.goO (R:=fun v H'=>zdR H r L dp (zcl 4 t) (fun x=>.agg (cTy x)) v.strip H') (RP:=fun v H'=>zej (zcl 4 t) v H') ir100 ck100 (Al4 _) fun KP Q hQ hP=>?_)
 have hll:L.length≤z1:=Nat.le_trans (ZH L) hl
 have hll2:=hll
 simp only[z1] at hll2
 have pan:∀(v:AV) (H1:za) (n:Int),v=Za n→zcl 4 t=.error n→KP v H1:=fun v H1 n h1 h2=>hP v H1 H1 (Low.refl _) ⟨n,h2,h1⟩
 have fin:=KI.done hQ
 have K0:=KI.start hs hr
 simp(disch:=first|omega|assumption) only[ir100,steps,st2,pev,rev,oev,zN,zU,ye,yf,bound,zC,mm2,mk,zn,AV.cells,AV.boxable,AV.one,AV.strip1,zz,zy,Nat.reduceEqDiff,reduceCtorEq,↓reduceIte,Nat.reduceAdd,Int.reduceNeg,Nat.reduceLeDiff,Int.reduceToNat,Int.reduceEq,Int.reduceLT,Int.reduceLE,Int.reduceAdd,Io,Im,If,Il,Jt,Jf,AC.rg,Jm,Jl,Ja,Fm,Fl,Fa,Imv,Imb,Iai,Iei,Igi,Isi,Ipf,Ipt,Ilb,Iia,Ilt,Iap,Ink,Iln,Ils,Iad,Iex,Ibx,Ing]
 refine zh fun b2 hb2=>?_
 have n2:=K0.ne hb2
 have n2s:=Ne.symm n2
 have K1:=K0.box (x:=.cells zT) hb2
 simp(disch:=first|omega|assumption) only[steps,st2,pev,rev,oev,zN,zU,ye,yf,bound,zC,mm2,mk,zn,AV.cells,AV.boxable,AV.one,AV.strip1,zz,zy,Nat.reduceEqDiff,reduceCtorEq,↓reduceIte,Nat.reduceAdd,Int.reduceNeg,Nat.reduceLeDiff,Int.reduceToNat,Int.reduceEq,Int.reduceLT,Int.reduceLE,Int.reduceAdd]
 refine zI (fun x:Nat×TS=>[(3,.int .i64 (x.1:Int))]) (fun x H'=>KI H r L x.2 dp H'∧H' b2=some (.cells zT)∧x.1≤4∧t=List.replicate x.1 (pk [91])++x.2) (fun x=>x.2.length) (0,t) (by simp(disch:=first|omega|assumption) only[steps,st2,pev,rev,oev,zN,zU,ye,yf,bound,zC,mm2,mk,zn,AV.cells,AV.boxable,AV.one,AV.strip1,zz,zy,Nat.reduceEqDiff,reduceCtorEq,↓reduceIte,Nat.reduceAdd,Int.reduceNeg,Nat.reduceLeDiff,Int.reduceToNat,Int.reduceEq,Int.reduceLT,Int.reduceLE,Int.reduceAdd]) ⟨K1,upd_same ..,Nat.zero_le _,rfl⟩ ?_
 rintro⟨n,u⟩ H1 J ⟨K2,g2,hn4,htu⟩ hJ
 simp only at K2 g2 hn4 htu
 obtain⟨p2,hp2,hr2⟩:=K2.here
 have hpl2:p2.length+u.length=L.length:=by rw[← hp2];simp
 have hr2':=hr2
 simp only[prc] at hr2'
 simp(disch:=first|omega|assumption) only[steps,st2,pev,rev,oev,zN,zU,ye,yf,bound,zC,mm2,mk,zn,AV.cells,AV.boxable,AV.one,AV.strip1,zz,zy,Nat.reduceEqDiff,reduceCtorEq,↓reduceIte,Nat.reduceAdd,Int.reduceNeg,Nat.reduceLeDiff,Int.reduceToNat,Int.reduceEq,Int.reduceLT,Int.reduceLE,Int.reduceAdd]
 refine zc (zna hp2 hr2 [91]) fun v H2 ⟨hv2,hH⟩=>?_
 subst hv2;subst hH
 cases hi:isP [91] u with
 | true =>
  by_cases h4:n=4
  ·have h4':((n:Int)=4)=True:=eq_true (by omega)
   simp(disch:=first|omega|assumption) only[h4',steps,st2,pev,rev,oev,zN,zU,ye,yf,bound,zC,mm2,mk,zn,AV.cells,AV.boxable,AV.one,AV.strip1,zz,zy,Nat.reduceEqDiff,reduceCtorEq,↓reduceIte,Nat.reduceAdd,Int.reduceNeg,Nat.reduceLeDiff,Int.reduceToNat,Int.reduceEq,Int.reduceLT,Int.reduceLE,Int.reduceAdd]
   exact zk (zdj _ r 4) (fun _ _ h=>h.elim) fun v H3 h=>pan v H3 4 h (by rw[htu,h4];exact zh4 4 u hi)
  ·have h4':¬ ((n:Int)=4):=by omega
   have hlt:=ziM hi
   simp(disch:=first|omega|assumption) only[h4',hr2',wrap64,steps,st2,pev,rev,oev,zN,zU,ye,yf,bound,zC,mm2,mk,zn,AV.cells,AV.boxable,AV.one,AV.strip1,zz,zy,Nat.reduceEqDiff,reduceCtorEq,↓reduceIte,Nat.reduceAdd,Int.reduceNeg,Nat.reduceLeDiff,Int.reduceToNat,Int.reduceEq,Int.reduceLT,Int.reduceLE,Int.reduceAdd]
   refine goJ (hJ (n+1,u.tail) _ hlt ⟨K2.call (za9 hp2 (zgh hi) _),by rw[upd_ne n2s];exact g2,by simp only;omega,?_⟩) (by simp(disch:=first|omega|assumption) only[Int.natCast_add,steps,st2,pev,rev,oev,zN,zU,ye,yf,bound,zC,mm2,mk,zn,AV.cells,AV.boxable,AV.one,AV.strip1,zz,zy,Nat.reduceEqDiff,reduceCtorEq,↓reduceIte,Nat.reduceAdd,Int.reduceNeg,Nat.reduceLeDiff,Int.reduceToNat,Int.reduceEq,Int.reduceLT,Int.reduceLE,Int.reduceAdd])
   simp only
   rw[← zoU,← zr2 hi];exact htu
 | false =>
  have hx:zcl 4 t=pb (yP u) fun s t=>pb (tyL n n 0 t) fun m t=>.ok (⟨s,n,m⟩,t):=by rw[htu];exact zho n 4 u hn4 hi
  simp(disch:=first|omega|assumption) only[steps,st2,pev,rev,oev,zN,zU,ye,yf,bound,zC,mm2,mk,zn,AV.cells,AV.boxable,AV.one,AV.strip1,zz,zy,Nat.reduceEqDiff,reduceCtorEq,↓reduceIte,Nat.reduceAdd,Int.reduceNeg,Nat.reduceLeDiff,Int.reduceToNat,Int.reduceEq,Int.reduceLT,Int.reduceLE,Int.reduceAdd]
  refine zk (Y9 hp2 hll hr2) (fun v H3 ⟨s,t3,e3,hv3,ha3⟩=>?_) fun v H3 ⟨n3,e3,hv3⟩=>pan v H3 n3 hv3 (by rw[hx,e3];rfl)
  subst hv3
  rw[e3,zJ] at hx
  have K3:=K2.call ha3
  have g32:H3 b2=some (.cells zT):=by rw[ha3.other n2s,g2]
  simp(disch:=first|omega|assumption) only[steps,st2,pev,rev,oev,zN,zU,ye,yf,bound,zC,mm2,mk,zn,AV.cells,AV.boxable,AV.one,AV.strip1,zz,zy,Nat.reduceEqDiff,reduceCtorEq,↓reduceIte,Nat.reduceAdd,Int.reduceNeg,Nat.reduceLeDiff,Int.reduceToNat,Int.reduceEq,Int.reduceLT,Int.reduceLE,Int.reduceAdd]
  refine zh fun b4 hb4=>?_
  have h42:b4≠b2:=fun e=>by subst e;rw[g32] at hb4;cases hb4
  have hb4H:H b4=none:=K3.none hb4
  have n4:=K0.ne hb4H
  have n4s:=Ne.symm n4
  have K4:=K3.box (x:=.cells [.str s,.int .i64 (n:Int),.int .i64 0]) hb4H
  obtain⟨R,hR⟩:∃ R,tyL n n 0 t3=R:=⟨_,rfl⟩
  rw[hR] at hx
  simp(disch:=first|omega|assumption) only[steps,st2,pev,rev,oev,zN,zU,ye,yf,bound,zC,mm2,mk,zn,AV.cells,AV.boxable,AV.one,AV.strip1,zz,zy,Nat.reduceEqDiff,reduceCtorEq,↓reduceIte,Nat.reduceAdd,Int.reduceNeg,Nat.reduceLeDiff,Int.reduceToNat,Int.reduceEq,Int.reduceLT,Int.reduceLE,Int.reduceAdd]
  have hj0:((n:Int):Int)=(((n+1:Nat):Int)-1):=by omega
  refine zI (fun x:Nat×Nat×TS=>[(5,.int .i64 ((x.1:Int)-1))]) (fun x H'=>KI H r L x.2.2 dp H'∧H' b2=some (.cells zT)∧H' b4=some (.cells [.str s,.int .i64 (n:Int),.int .i64 (x.2.1:Int)])∧x.1≤n+1∧x.2.1<32∧x.2.1 % 2 ^ x.1=0∧tyN n x.1 (x.2.1:Int) x.2.2=R) (fun x=>x.1) (n+1,0,t3) (by rw[← hj0];simp(disch:=first|omega|assumption) only[steps,st2,pev,rev,oev,zN,zU,ye,yf,bound,zC,mm2,mk,zn,AV.cells,AV.boxable,AV.one,AV.strip1,zz,zy,Nat.reduceEqDiff,reduceCtorEq,↓reduceIte,Nat.reduceAdd,Int.reduceNeg,Nat.reduceLeDiff,Int.reduceToNat,Int.reduceEq,Int.reduceLT,Int.reduceLE,Int.reduceAdd]) ⟨K4,by rw[upd_ne (Ne.symm h42)];exact g32,upd_same ..,Al4 _,by show 0<32;decide,Nat.zero_mod _,hR⟩ ?_
  rintro⟨j,m,u5⟩ H5 J5 ⟨K5,g52,g54,hj,hm,hmd,he⟩ hJ5
  simp only at K5 g52 g54 hj hm hmd he
  obtain⟨p5,hp5,hr5⟩:=K5.here
  cases j with
  | zero =>
   have hneg:¬ ((0:Int)≤-1):=by decide
   have hz1:(0:Int)-1=-1:=rfl
   have e1:R=.ok ((m:Int),u5):=he.symm
   simp only[zT] at g52
   simp(disch:=first|omega|assumption) only[hz1,hneg,g52,g54,h42,Ne.symm h42,steps,st2,pev,rev,oev,zN,zU,ye,yf,bound,zC,mm2,mk,zn,AV.cells,AV.boxable,AV.one,AV.strip1,zz,zy,Nat.reduceEqDiff,reduceCtorEq,↓reduceIte,Nat.reduceAdd,Int.reduceNeg,Nat.reduceLeDiff,Int.reduceToNat,Int.reduceEq,Int.reduceLT,Int.reduceLE,Int.reduceAdd]
   exact fin _ _ [.agg [.str s,.int .i64 (n:Int),.int .i64 (m:Int)]] ⟨s,n,m⟩ u5 (by simp(disch:=first|omega|assumption) only[ir100,zo,zL,steps,st2,pev,rev,oev,zN,zU,ye,yf,bound,zC,mm2,mk,zn,AV.cells,AV.boxable,AV.one,AV.strip1,zz,zy,Nat.reduceEqDiff,reduceCtorEq,↓reduceIte,Nat.reduceAdd,Int.reduceNeg,Nat.reduceLeDiff,Int.reduceToNat,Int.reduceEq,Int.reduceLT,Int.reduceLE,Int.reduceAdd,Io,Im,If,Il,Jt,Jf,AC.rg,Jm,Jl,Ja,Fm,Fl,Fa,Imv,Imb,Iai,Iei,Igi,Isi,Ipf,Ipt,Ilb,Iia,Ilt,Iap,Ink,Iln,Ils,Iad,Iex,Ibx,Ing]) (by rw[hx,e1];rfl) (K5.box hb2) (by simp[zb,AV.strip,AV.strip1,cTy])
  | succ i =>
   have hge:((0:Int)≤(((i+1:Nat):Int)-1))=True:=eq_true (by omega)
   have hi5:(((i+1:Nat):Int)-1)=(i:Int):=by omega
   have e1:tyL n i (m:Int) u5=R:=he
   rw[zrD,zdK] at e1
   by_cases hin:i<n
   ·have hin':((i:Int)<(n:Int))=True:=eq_true (by omega)
    rw[if_pos hin] at e1
    simp(disch:=first|omega|assumption) only[hge,hi5,hin',steps,st2,pev,rev,oev,zN,zU,ye,yf,bound,zC,mm2,mk,zn,AV.cells,AV.boxable,AV.one,AV.strip1,zz,zy,Nat.reduceEqDiff,reduceCtorEq,↓reduceIte,Nat.reduceAdd,Int.reduceNeg,Nat.reduceLeDiff,Int.reduceToNat,Int.reduceEq,Int.reduceLT,Int.reduceLE,Int.reduceAdd]
    refine zk (zgs hp5 hll hr5 [93]) (fun v H6 ⟨_,t6,e6,hv6,ha6⟩=>?_) fun v H6 ⟨n6,e6,hv6⟩=>pan v H6 n6 hv6 (by rw[hx,← e1,e6];rfl)
    subst hv6
    rw[e6,zJ] at e1
    have K6:=K5.call ha6
    have g62:H6 b2=some (.cells zT):=by rw[ha6.other n2s,g52]
    have g64:H6 b4=some (.cells [.str s,.int .i64 (n:Int),.int .i64 (m:Int)]):=by rw[ha6.other n4s,g54]
    obtain⟨p6,hp6,hr6⟩:=K6.here
    simp(disch:=first|omega|assumption) only[steps,st2,pev,rev,oev,zN,zU,ye,yf,bound,zC,mm2,mk,zn,AV.cells,AV.boxable,AV.one,AV.strip1,zz,zy,Nat.reduceEqDiff,reduceCtorEq,↓reduceIte,Nat.reduceAdd,Int.reduceNeg,Nat.reduceLeDiff,Int.reduceToNat,Int.reduceEq,Int.reduceLT,Int.reduceLE,Int.reduceAdd]
    refine zc (zah hp6 hll hr6 [33]) fun v H7 ⟨hv7,ha7⟩=>?_
    subst hv7
    have g72:H7 b2=some (.cells zT):=by rw[ha7.other n2s,g62]
    have g74:H7 b4=some (.cells [.str s,.int .i64 (n:Int),.int .i64 (m:Int)]):=by rw[ha7.other n4s,g64]
    have K7:=K6.call ha7
    cases hb:isP [33] t6 with
    | true =>
     simp only[zan,hb,if_true] at e1
     rw[YP,hb,if_pos rfl] at K7
     have ho:=ztf ⟨i,by omega⟩ ⟨m,hm⟩ hmd
     have hob:=zqL ⟨i,by omega⟩ ⟨m,hm⟩ hmd
     have hsh:=ztg ⟨i,by omega⟩
     simp only at ho hob hsh
     have hi0:¬ ((i:Int)<0):=by omega
     simp(disch:=first|omega|assumption) only[g74,hi0,hsh,ho,steps,st2,pev,rev,oev,zN,zU,ye,yf,bound,zC,mm2,mk,zn,AV.cells,AV.boxable,AV.one,AV.strip1,zz,zy,Nat.reduceEqDiff,reduceCtorEq,↓reduceIte,Nat.reduceAdd,Int.reduceNeg,Nat.reduceLeDiff,Int.reduceToNat,Int.reduceEq,Int.reduceLT,Int.reduceLE,Int.reduceAdd]
     refine goJ (hJ5 (i,m+2 ^ i,t6.tail) _ (Nat.lt_succ_self _) ⟨K7.box hb4H,by rw[upd_ne (Ne.symm h42)];exact g72,upd_same ..,by simp only;omega,hob.1,hob.2,by simp only;rw[← e1];simp⟩) (by simp(disch:=first|omega|assumption) only[wrap64,steps,st2,pev,rev,oev,zN,zU,ye,yf,bound,zC,mm2,mk,zn,AV.cells,AV.boxable,AV.one,AV.strip1,zz,zy,Nat.reduceEqDiff,reduceCtorEq,↓reduceIte,Nat.reduceAdd,Int.reduceNeg,Nat.reduceLeDiff,Int.reduceToNat,Int.reduceEq,Int.reduceLT,Int.reduceLE,Int.reduceAdd])
    | false =>
     simp only[zan,hb,Al7,if_false] at e1
     rw[YP,hb] at K7
     simp only[Al7,if_false] at K7
     have hmd2:m % 2 ^ i=0:=by
      have h3:2 ^ i∣2 ^ (i+1):=⟨2,by rw[Nat.pow_succ]⟩
      exact Nat.mod_eq_zero_of_dvd (Nat.dvd_trans h3 (Nat.dvd_of_mod_eq_zero hmd))
     simp(disch:=first|omega|assumption) only[steps,st2,pev,rev,oev,zN,zU,ye,yf,bound,zC,mm2,mk,zn,AV.cells,AV.boxable,AV.one,AV.strip1,zz,zy,Nat.reduceEqDiff,reduceCtorEq,↓reduceIte,Nat.reduceAdd,Int.reduceNeg,Nat.reduceLeDiff,Int.reduceToNat,Int.reduceEq,Int.reduceLT,Int.reduceLE,Int.reduceAdd]
     refine goJ (hJ5 (i,m,t6) _ (Nat.lt_succ_self _) ⟨K7,g72,g74,by simp only;omega,hm,hmd2,e1⟩) (by simp(disch:=first|omega|assumption) only[wrap64,steps,st2,pev,rev,oev,zN,zU,ye,yf,bound,zC,mm2,mk,zn,AV.cells,AV.boxable,AV.one,AV.strip1,zz,zy,Nat.reduceEqDiff,reduceCtorEq,↓reduceIte,Nat.reduceAdd,Int.reduceNeg,Nat.reduceLeDiff,Int.reduceToNat,Int.reduceEq,Int.reduceLT,Int.reduceLE,Int.reduceAdd])
   ·have hin':¬ ((i:Int)<(n:Int)):=by omega
    rw[if_neg hin,zJ] at e1
    simp(disch:=first|omega|assumption) only[hge,hi5,hin',steps,st2,pev,rev,oev,zN,zU,ye,yf,bound,zC,mm2,mk,zn,AV.cells,AV.boxable,AV.one,AV.strip1,zz,zy,Nat.reduceEqDiff,reduceCtorEq,↓reduceIte,Nat.reduceAdd,Int.reduceNeg,Nat.reduceLeDiff,Int.reduceToNat,Int.reduceEq,Int.reduceLT,Int.reduceLE,Int.reduceAdd]
    refine zc (zah hp5 hll hr5 [33]) fun v H7 ⟨hv7,ha7⟩=>?_
    subst hv7
    have g72:H7 b2=some (.cells zT):=by rw[ha7.other n2s,g52]
    have g74:H7 b4=some (.cells [.str s,.int .i64 (n:Int),.int .i64 (m:Int)]):=by rw[ha7.other n4s,g54]
    have K7:=K5.call ha7
    cases hb:isP [33] u5 with
    | true =>
     simp only[zan,hb,if_true] at e1
     rw[YP,hb,if_pos rfl] at K7
     have ho:=ztf ⟨i,by omega⟩ ⟨m,hm⟩ hmd
     have hob:=zqL ⟨i,by omega⟩ ⟨m,hm⟩ hmd
     have hsh:=ztg ⟨i,by omega⟩
     simp only at ho hob hsh
     have hi0:¬ ((i:Int)<0):=by omega
     simp(disch:=first|omega|assumption) only[g74,hi0,hsh,ho,steps,st2,pev,rev,oev,zN,zU,ye,yf,bound,zC,mm2,mk,zn,AV.cells,AV.boxable,AV.one,AV.strip1,zz,zy,Nat.reduceEqDiff,reduceCtorEq,↓reduceIte,Nat.reduceAdd,Int.reduceNeg,Nat.reduceLeDiff,Int.reduceToNat,Int.reduceEq,Int.reduceLT,Int.reduceLE,Int.reduceAdd]
     refine goJ (hJ5 (i,m+2 ^ i,u5.tail) _ (Nat.lt_succ_self _) ⟨K7.box hb4H,by rw[upd_ne (Ne.symm h42)];exact g72,upd_same ..,by simp only;omega,hob.1,hob.2,by simp only;rw[← e1];simp⟩) (by simp(disch:=first|omega|assumption) only[wrap64,steps,st2,pev,rev,oev,zN,zU,ye,yf,bound,zC,mm2,mk,zn,AV.cells,AV.boxable,AV.one,AV.strip1,zz,zy,Nat.reduceEqDiff,reduceCtorEq,↓reduceIte,Nat.reduceAdd,Int.reduceNeg,Nat.reduceLeDiff,Int.reduceToNat,Int.reduceEq,Int.reduceLT,Int.reduceLE,Int.reduceAdd])
    | false =>
     simp only[zan,hb,Al7,if_false] at e1
     rw[YP,hb] at K7
     simp only[Al7,if_false] at K7
     have hmd2:m % 2 ^ i=0:=by
      have h3:2 ^ i∣2 ^ (i+1):=⟨2,by rw[Nat.pow_succ]⟩
      exact Nat.mod_eq_zero_of_dvd (Nat.dvd_trans h3 (Nat.dvd_of_mod_eq_zero hmd))
     simp(disch:=first|omega|assumption) only[steps,st2,pev,rev,oev,zN,zU,ye,yf,bound,zC,mm2,mk,zn,AV.cells,AV.boxable,AV.one,AV.strip1,zz,zy,Nat.reduceEqDiff,reduceCtorEq,↓reduceIte,Nat.reduceAdd,Int.reduceNeg,Nat.reduceLeDiff,Int.reduceToNat,Int.reduceEq,Int.reduceLT,Int.reduceLE,Int.reduceAdd]
     refine goJ (hJ5 (i,m,u5) _ (Nat.lt_succ_self _) ⟨K7,g72,g74,by simp only;omega,hm,hmd2,e1⟩) (by simp(disch:=first|omega|assumption) only[wrap64,steps,st2,pev,rev,oev,zN,zU,ye,yf,bound,zC,mm2,mk,zn,AV.cells,AV.boxable,AV.one,AV.strip1,zz,zy,Nat.reduceEqDiff,reduceCtorEq,↓reduceIte,Nat.reduceAdd,Int.reduceNeg,Nat.reduceLeDiff,Int.reduceToNat,Int.reduceEq,Int.reduceLT,Int.reduceLE,Int.reduceAdd])
theorem zfq (a b c d e f g h i j:AV) (v:Val):splice [a,b,c,d,e,f,g,h,i,j] 5 (cV v)=a::b::c::d::e::cV v:=by cases v;rfl
theorem znO (a b c d e:AV) (v:Val):(a::b::c::d::e::cV v).take 10=a::b::c::d::e::cV v:=by cases v;rfl
theorem zgQ (a b c d e:AV) (v:Val):(a::b::c::d::e::cV v).length=10:=by cases v;rfl
def zcH (t:TS):PR (List UInt8):=if isW [111,110] t then .error 2 else yP t
theorem zpT {H:za} {r:Nat} {L p t:TS} (hs:p++t=L) (hl:wT L≤z1) (hr:H r=some (prc L p (16-16))) :
  zf Tryz.prog 251 [.ptr r 0] H (RpE H r L (16-16) (zcH t) AV.str):=by
 refine Zy (zf.goO (R:=fun v H'=>zdR H r L (16-16) (zcH t) AV.str v.strip H') (RP:=fun v H'=>zej (zcH t) v H') ir251 ck251 (Al4 _) fun KP Q hQ hP=>?_)
 have hll:L.length≤z1:=Nat.le_trans (ZH L) hl
 have hll2:=hll
 simp only[z1] at hll2
 have pan:∀(v:AV) (H1:za) (n:Int),v=Za n→(zcH t)=.error n→KP v H1:=fun v H1 n h1 h2=>hP v H1 H1 (Low.refl _) ⟨n,h2,h1⟩
 have fin:=KI.done hQ
 have K0:=KI.start hs hr
 simp(disch:=first|omega|assumption) only[ir251,go_sem]
 refine zc (zqm (dp:=16-16) hs hr [111,110]) fun v H2 ⟨hv2,hH⟩=>?_
 subst hv2;subst hH
 cases hw:isW [111,110] t with
 | true =>
  simp(disch:=first|omega|assumption) only[go_sem]
  exact zk (zdj _ r 2) (fun _ _ h=>h.elim) fun v H3 h=>pan v H3 2 h (by rw[zcH,hw];rfl)
 | false =>
  simp(disch:=first|omega|assumption) only[go_sem]
  refine zk (Y9 (dp:=16-16) hs hll hr) (fun v H3 ⟨s,t3,e3,hv3,ha3⟩=>?_) fun v H3 ⟨n,e3,hv3⟩=>pan v H3 n hv3 (by rw[zcH,hw];exact e3)
  subst hv3
  simp(disch:=first|omega|assumption) only[go_sem]
  exact fin _ _ [.str s] s t3 (by simp(disch:=first|omega|assumption) only[ir251,zo,zL,go_sem]) (by rw[zcH,hw];exact e3) (K0.call ha3) (by simp[zb,AV.strip,AV.strip1])
abbrev zW:List AV:=[.str [],.str [],.int .i64 0,.int .i64 0,.bool false,.int .i64 0,.int .i64 0,.str [],.sl .nil 5 [],.sl .nil 6 []]
theorem zeg {H:za} {r:Nat} {L p t:TS} (hs:p++t=L) (hl:wT L≤z1) (hr:H r=some (prc L p (16-16))) :
  zf Tryz.prog 249 [.ptr r 0] H (RpE H r L (16-16) (zao t) (fun x=>.agg (cW x))):=by
 refine Zy (zf.goO (R:=fun v H'=>zdR H r L (16-16) (zao t) (fun x=>.agg (cW x)) v.strip H') (RP:=fun v H'=>zej (zao t) v H') ir249 ck249 (Al4 _) fun KP Q hQ hP=>?_)
 have hll:L.length≤z1:=Nat.le_trans (ZH L) hl
 have hll2:=hll
 simp only[z1] at hll2
 have pan:∀(v:AV) (H1:za) (n:Int),v=Za n→(zao t)=.error n→KP v H1:=fun v H1 n h1 h2=>hP v H1 H1 (Low.refl _) ⟨n,h2,h1⟩
 have fin:=KI.done hQ
 have K0:=KI.start hs hr
 have hx:zao t=pb (ZY [36] t) fun _ t=>pb (yP t) fun s t=>pb (ZY [58] t) fun _ t=>pb (zcl 4 t) fun ty t =>
  if isP [61] t then pb (ZA true 16 t.tail) fun v t=>.ok (⟨s,ty,true,v⟩,t) else .ok (⟨s,ty,false,zV⟩,t):=rfl
 simp(disch:=first|omega|assumption) only[ir249,go_sem]
 refine zh fun b2 hb2=>?_
 have n2:=K0.ne hb2
 have n2s:=Ne.symm n2
 have K1:=K0.box (x:=.cells zW) hb2
 obtain⟨p1,hp1,hr1⟩:=K1.here
 simp only[zW] at K1 hr1
 simp(disch:=first|omega|assumption) only[go_sem]
 refine zk (zgs (dp:=16-16) hp1 hll hr1 [36]) (fun v H2 ⟨_,t2,e2,hv2,ha2⟩=>?_) fun v H2 ⟨n,e2,hv2⟩=>pan v H2 n hv2 (by rw[hx,e2];rfl)
 subst hv2
 rw[e2,zJ] at hx
 have K2:=K1.call ha2
 have g2:H2 b2=some (.cells zW):=by rw[ha2.other n2s,upd_same]
 obtain⟨p2,hp2,hr2⟩:=K2.here
 simp(disch:=first|omega|assumption) only[go_sem]
 refine zk (Y9 (dp:=16-16) hp2 hll hr2) (fun v H3 ⟨s,t3,e3,hv3,ha3⟩=>?_) fun v H3 ⟨n,e3,hv3⟩=>pan v H3 n hv3 (by rw[hx,e3];rfl)
 subst hv3
 rw[e3,zJ] at hx
 have K3:=K2.call ha3
 have g32:H3 b2=some (.cells zW):=by rw[ha3.other n2s,g2]
 simp(disch:=first|omega|assumption) only[go_sem]
 refine zh fun b3 hb3=>?_
 have h32:b3≠b2:=fun e=>by subst e;rw[g32] at hb3;cases hb3
 have hb3H:H b3=none:=K3.none hb3
 have n3:=K0.ne hb3H
 have n3s:=Ne.symm n3
 have K4:=K3.box (x:=.cells [.str s,.str [],.int .i64 0,.int .i64 0,.bool false,.int .i64 0,.int .i64 0,.str [],.sl .nil 5 [],.sl .nil 6 []]) hb3H
 obtain⟨p4,hp4,hr4⟩:=K4.here
 simp(disch:=first|omega|assumption) only[go_sem]
 refine zk (zgs (dp:=16-16) hp4 hll hr4 [58]) (fun v H5 ⟨_,t5,e5,hv5,ha5⟩=>?_) fun v H5 ⟨n,e5,hv5⟩=>pan v H5 n hv5 (by rw[hx,e5];rfl)
 subst hv5
 rw[e5,zJ] at hx
 have K5:=K4.call ha5
 have g53:H5 b3=some (.cells [.str s,.str [],.int .i64 0,.int .i64 0,.bool false,.int .i64 0,.int .i64 0,.str [],.sl .nil 5 [],.sl .nil 6 []]):=by rw[ha5.other n3s,upd_same]
 have g52:H5 b2=some (.cells zW):=by rw[ha5.other n2s,upd_ne (Ne.symm h32),g32]
 obtain⟨p5,hp5,hr5⟩:=K5.here
 simp(disch:=first|omega|assumption) only[go_sem]
 refine zk (zrz hp5 hl hr5) (fun v H6 ⟨ty,t6,e6,hv6,ha6⟩=>?_) fun v H6 ⟨n,e6,hv6⟩=>pan v H6 n hv6 (by rw[hx,e6];rfl)
 subst hv6
 rw[e6,zJ] at hx
 have K6:=K5.call ha6
 have g63:H6 b3=some (.cells [.str s,.str [],.int .i64 0,.int .i64 0,.bool false,.int .i64 0,.int .i64 0,.str [],.sl .nil 5 [],.sl .nil 6 []]):=by rw[ha6.other n3s,g53]
 have g62:H6 b2=some (.cells zW):=by rw[ha6.other n2s,g52]
 simp(disch:=first|omega|assumption) only[cTy,g63,go_sem]
 have K7:=K6.box (x:=.cells [.str s,.str ty.nm,.int .i64 ty.lists,.int .i64 ty.musts,.bool false,.int .i64 0,.int .i64 0,.str [],.sl .nil 5 [],.sl .nil 6 []]) hb3H
 obtain⟨p7,hp7,hr7⟩:=K7.here
 refine zc (zah (dp:=16-16) hp7 hll hr7 [61]) fun v H8 ⟨hv8,ha8⟩=>?_
 subst hv8
 have K8:=K7.call ha8
 have g83:H8 b3=some (.cells [.str s,.str ty.nm,.int .i64 ty.lists,.int .i64 ty.musts,.bool false,.int .i64 0,.int .i64 0,.str [],.sl .nil 5 [],.sl .nil 6 []]):=by rw[ha8.other n3s,upd_same]
 have g82:H8 b2=some (.cells zW):=by rw[ha8.other n2s,upd_ne (Ne.symm h32),g62]
 unfold YP at K8
 obtain⟨p8,hp8,hr8⟩:=K8.here
 cases hi:isP [61] t6 with
 | true =>
  rw[hi] at hx K8 hp8
  simp only[if_true] at hx K8 hp8
  simp(disch:=first|omega|assumption) only[go_sem]
  refine zk (zfl true 16 (Al4 _) _ r L p8 t6.tail hp8 hl hr8) (fun v H9 ⟨x,t9,e9,hv9,ha9⟩=>?_) fun v H9 ⟨n,e9,hv9⟩=>pan v H9 n hv9 (by rw[hx,e9];rfl)
  subst hv9
  rw[e9,zJ] at hx
  have K9:=K8.call ha9
  have g93:H9 b3=some (.cells [.str s,.str ty.nm,.int .i64 ty.lists,.int .i64 ty.musts,.bool false,.int .i64 0,.int .i64 0,.str [],.sl .nil 5 [],.sl .nil 6 []]):=by rw[ha9.other n3s,g83]
  have g92:H9 b2=some (.cells zW):=by rw[ha9.other n2s,g82]
  simp only[zW] at g92
  simp(disch:=first|omega|assumption) only[zH,zt,zl,zG,zu,zm,ya,g93,g92,h32,Ne.symm h32,go_sem]
  refine fin _ _ [.agg (cW ⟨s,ty,true,x⟩)] _ _ (by simp(disch:=first|omega|assumption) only[zH,zt,zl,zG,zu,zm,ya,ir249,zo,zL,zgE,go_sem]) hx ((K9.box hb3H).box hb2) (by simp[zb,AV.strip,zbx])
 | false =>
  rw[hi] at hx K8 hp8
  simp only[Al7,if_false] at hx K8 hp8
  simp only[zW] at g82
  simp(disch:=first|omega|assumption) only[g83,g82,h32,Ne.symm h32,go_sem]
  exact fin _ _ [.agg [.str s,.str ty.nm,.int .i64 ty.lists,.int .i64 ty.musts,.bool false,.int .i64 0,.int .i64 0,.str [],.sl .nil 5 [],.sl .nil 6 []]] _ _ (by simp(disch:=first|omega|assumption) only[ir249,zo,zL,go_sem]) hx (K8.box hb2) (by simp[zb,AV.strip,AV.strip1,zgE,cV,cVs,cMs,zV])
abbrev zO:List AV:=[.int .i64 0,.str [],.sl .nil 10 [],.sl .nil 2 [],.sl .nil 7 []]
theorem ztv (kind:Int) {H:za} {r:Nat} {L p t:TS} (hs:p++t=L) (hl:wT L≤z1) (hr:H r=some (prc L p (16-16))) :
  zf Tryz.prog 164 [.ptr r 0,.int .i64 kind] H (RpE H r L (16-16) (opP kind t) (fun x=>.agg (cO x))):=by
 refine Zy (zf.goO (R:=fun v H'=>zdR H r L (16-16) (opP kind t) (fun x=>.agg (cO x)) v.strip H') (RP:=fun v H'=>zej (opP kind t) v H') ir164 ck164 (Al4 _) fun KP Q hQ hP=>?_)
 have hll:L.length≤z1:=Nat.le_trans (ZH L) hl
 have hll2:=hll
 simp only[z1] at hll2
 have pan:∀(v:AV) (H1:za) (n:Int),v=Za n→(opP kind t)=.error n→KP v H1:=fun v H1 n h1 h2=>hP v H1 H1 (Low.refl _) ⟨n,h2,h1⟩
 have fin:=KI.done hQ
 have K0:=KI.start hs hr
 have hx:opP kind t=pb (if (hdT t).k=2 then yP t else .ok ([],t)) fun s t=>pb (if isP [40] t then Z1 [41] zao t.tail else .ok ([],t)) fun vs t =>
  pb (Ya true 16 t) fun d t=>pb (yo 16 t) fun l t=>.ok (⟨kind,s,vs,d,l⟩,t):=rfl
 simp(disch:=first|omega|assumption) only[ir164,go_sem]
 refine zh fun b4 hb4=>?_
 have n4:=K0.ne hb4
 have n4s:=Ne.symm n4
 have K1:=K0.box (x:=.cells zO) hb4
 simp(disch:=first|omega|assumption) only[go_sem]
 refine zh fun b5 hb5=>?_
 have h54:b5≠b4:=fun e=>by subst e;rw[upd_same] at hb5;cases hb5
 have hb5H:H b5=none:=by rw[upd_ne h54] at hb5;exact hb5
 have n5:=K0.ne hb5H
 have n5s:=Ne.symm n5
 have K2:=K1.box (x:=.cells [.int .i64 kind,.str [],.sl .nil 10 [],.sl .nil 2 [],.sl .nil 7 []]) hb5H
 simp only[zO] at K2
 obtain⟨p2,hp2,hr2⟩:=K2.here
 have g25:((H.upd b4 (.cells zO)).upd b5 (.cells [.int .i64 kind,.str [],.sl .nil 10 [],.sl .nil 2 [],.sl .nil 7 []])) b5=some (.cells [.int .i64 kind,.str [],.sl .nil 10 [],.sl .nil 2 [],.sl .nil 7 []]):=upd_same ..
 have g24:((H.upd b4 (.cells zO)).upd b5 (.cells [.int .i64 kind,.str [],.sl .nil 10 [],.sl .nil 2 [],.sl .nil 7 []])) b4=some (.cells zO):=by rw[upd_ne (Ne.symm h54),upd_same]
 simp only[zO] at g25 g24
 simp(disch:=first|omega|assumption) only[go_sem]
 generalize hHa:za.upd (za.upd H b4 _) b5 _=Ha at *
 refine zc (zia (dp:=16-16) hp2 hr2) fun v H3 ⟨hv3,hH⟩=>?_
 subst hv3;subst hH
 by_cases hk2:(hdT t).k=2
 ·have hk2':((hdT t).k=2)=True:=eq_true hk2
  rw[if_pos hk2] at hx
  simp(disch:=first|omega|assumption) only[yl,hk2',go_sem]
  refine zk (Y9 (dp:=16-16) hp2 hll hr2) (fun v H3 ⟨s,t3,e3,hv3,ha3⟩=>?_) fun v H3 ⟨n,e3,hv3⟩=>pan v H3 n hv3 (by rw[hx,e3];rfl)
  subst hv3
  rw[e3,zJ] at hx
  have g35:H3 b5=some (.cells [.int .i64 kind,.str [],.sl .nil 10 [],.sl .nil 2 [],.sl .nil 7 []]):=by rw[ha3.other n5s,g25]
  have g34:H3 b4=some (.cells zO):=by rw[ha3.other n4s,g24]
  have K3:=(K2.call ha3).box (x:=.cells [.int .i64 kind,.str s,.sl .nil 10 [],.sl .nil 2 [],.sl .nil 7 []]) hb5H
  obtain⟨p3,hp3,hr3⟩:=K3.here
  simp(disch:=first|omega|assumption) only[g35,go_sem]
  refine zc (zah (dp:=16-16) hp3 hll hr3 [40]) fun v H4 ⟨hv4,ha4⟩=>?_
  subst hv4
  have K4:=K3.call ha4
  have g45:H4 b5=some (.cells [.int .i64 kind,.str s,.sl .nil 10 [],.sl .nil 2 [],.sl .nil 7 []]):=by rw[ha4.other n5s];(exact upd_same ..)
  have g44:H4 b4=some (.cells zO):=by rw[ha4.other n4s];(rw[upd_ne (Ne.symm h54)];exact g34)
  unfold YP at K4
  obtain⟨p4,hp4,hr4⟩:=K4.here
  cases hi:isP [40] t3 with
  | false =>
   rw[hi] at hx K4 hp4
   simp only[Al7,if_false,zJ] at hx K4 hp4
   simp(disch:=first|omega|assumption) only[go_sem]
   refine zk (zba (Al4 _) hp4 hl hr4) (fun v H8 ⟨d,t8,e8,hv8,ha8⟩=>?_) fun v H8 ⟨n,e8,hv8⟩=>pan v H8 n hv8 (by rw[hx,e8];rfl)
   subst hv8
   rw[e8,zJ] at hx
   have K8:=K4.call ha8
   have g85:H8 b5=some (.cells [.int .i64 kind,.str s,(.sl .nil 10 []),.sl .nil 2 [],.sl .nil 7 []]):=by rw[ha8.other n5s,g45]
   have g84:H8 b4=some (.cells zO):=by rw[ha8.other n4s,g44]
   simp(disch:=first|omega|assumption) only[g85,go_sem]
   have K9:=K8.box (x:=.cells [.int .i64 kind,.str s,(.sl .nil 10 []),.sl .no 2 (cDs d),.sl .nil 7 []]) hb5H
   obtain⟨p9,hp9,hr9⟩:=K9.here
   refine zk (zaC 16 (Al4 _) _ r L p9 t8 hp9 hl hr9) (fun v HA ⟨ss,tA,eA,hvA,haA⟩=>?_) fun v HA ⟨n,eA,hvA⟩=>pan v HA n hvA (by rw[hx,eA];rfl)
   subst hvA
   rw[eA,zJ] at hx
   have KA:=K9.call haA
   have gA5:HA b5=some (.cells [.int .i64 kind,.str s,(.sl .nil 10 []),.sl .no 2 (cDs d),.sl .nil 7 []]):=by rw[haA.other n5s,upd_same]
   have gA4:HA b4=some (.cells zO):=by rw[haA.other n4s,upd_ne (Ne.symm h54),g84]
   simp only[zO] at gA4
   simp(disch:=first|omega|assumption) only[gA5,gA4,h54,Ne.symm h54,go_sem]
   exact fin _ _ [.agg [.int .i64 kind,.str s,(.sl .nil 10 []),.sl .no 2 (cDs d),.sl .no 7 (cSs ss)]] _ _ (by simp(disch:=first|omega|assumption) only[ir164,zo,zL,go_sem]) hx ((KA.box hb5H).box hb4) (by simp[zb,AV.strip,AV.strip1,cO,cWs])
  | true =>
   rw[hi] at hx K4 hp4
   simp only[if_true] at hx K4 hp4
   have hm1:Z1 [41] zao t3.tail=pb (zao t3.tail) fun x t=>yK [41] zao (t.length+1) [x] t:=rfl
   rw[hm1] at hx
   have hsl:=zd8 hp4
   simp(disch:=first|omega|assumption) only[g45,go_sem]
   refine zk (zeg hp4 hl hr4) (fun v H5 ⟨x1,t5,e5,hv5,ha5⟩=>?_) fun v H5 ⟨n,e5,hv5⟩=>pan v H5 n hv5 (by rw[hx,e5];rfl)
   subst hv5
   rw[e5,zJ] at hx
   have hlt1:=Y5.lt (by decide) _ _ _ e5
   have K5:=K4.call ha5
   have g55:H5 b5=some (.cells [.int .i64 kind,.str s,.sl .nil 10 [],.sl .nil 2 [],.sl .nil 7 []]):=by rw[ha5.other n5s,g45]
   have g54:H5 b4=some (.cells zO):=by rw[ha5.other n4s,g44]
   obtain⟨R,hR⟩:∃ R,yK [41] zao (t5.length+1) [x1] t5=R:=⟨_,rfl⟩
   rw[hR] at hx
   have KO5:KO H r L t5 (16-16) H5 .nil 0 10:=⟨K5,rfl,nofun⟩
   simp(disch:=first|omega|assumption) only[g55,zcn,za0,go_sem]
   refine zE (yq.nil _ _) (by simp) (by simp[maxLen]) fun o6 H6 hs6=>?_
   have K6:=KO5.app (by simpa using hs6)
   have g65:=KO5.stay hs6 g55
   have g64:=KO5.stay hs6 g54
   simp(disch:=first|omega|assumption) only[g65,zcn,za0,go_sem]
   refine zI (fun x:Own×List VarD×TS=>[]) (fun x H'=>KO H r L x.2.2 (16-16) H' x.1 x.2.1.length 10∧H' b5=some (.cells [.int .i64 kind,.str s,.sl x.1 10 (cWs x.2.1),.sl .nil 2 [],.sl .nil 7 []])∧H' b4=some (.cells zO)∧(∃ m,x.2.2.length<m∧yK [41] zao m x.2.1 x.2.2=R)∧x.2.1.length+x.2.2.length≤L.length) (fun x=>x.2.2.length) (o6,[x1],t5) (by simp(disch:=first|omega|assumption) only[go_sem]) ⟨by simpa using K6.box hb5H g65,by rw[upd_same];simp[cWs,zbx],by rw[upd_ne (Ne.symm h54)];exact g64,⟨_,Nat.lt_succ_self _,hR⟩,by simp only[List.length_singleton];omega⟩ ?_
   rintro⟨o,l,u⟩ H7 J ⟨K7,g75,g74,⟨m,hm,hR3⟩,hlen⟩ hJ
   simp only at K7 g75 g74 hm hR3 hlen
   obtain⟨m,rfl⟩:∃ j,m=j+1:=⟨m-1,by omega⟩
   obtain⟨p7,hp7,hr7⟩:=K7.here
   have hcl:=zeh l
   simp(disch:=first|omega|assumption) only[go_sem]
   refine zc (zah (dp:=16-16) hp7 hll hr7 [41]) fun v H8 ⟨hv8,ha8⟩=>?_
   subst hv8
   have g85:H8 b5=some (.cells [.int .i64 kind,.str s,.sl o 10 (cWs l),.sl .nil 2 [],.sl .nil 7 []]):=by rw[ha8.other n5s,g75]
   have g84:H8 b4=some (.cells zO):=by rw[ha8.other n4s,g74]
   cases hj:isP [41] u with
   | true =>
    rw[YP,hj,if_pos rfl] at ha8
    have K8:=K7.toKI.call ha8
    obtain⟨p8,hp8,hr8⟩:=K8.here
    have e1:R=.ok (l,u.tail):=by rw[← hR3,yK,hj];rfl
    rw[e1,zJ] at hx
    simp(disch:=first|omega|assumption) only[go_sem]
    refine zk (zba (Al4 _) hp8 hl hr8) (fun v HB ⟨d,t8,e8,hv8,ha8⟩=>?_) fun v HB ⟨n,e8,hv8⟩=>pan v HB n hv8 (by rw[hx,e8];rfl)
    subst hv8
    rw[e8,zJ] at hx
    have KB:=K8.call ha8
    have gB5:HB b5=some (.cells [.int .i64 kind,.str s,(.sl o 10 (cWs l)),.sl .nil 2 [],.sl .nil 7 []]):=by rw[ha8.other n5s,g85]
    have gB4:HB b4=some (.cells zO):=by rw[ha8.other n4s,g84]
    simp(disch:=first|omega|assumption) only[gB5,go_sem]
    have K9:=KB.box (x:=.cells [.int .i64 kind,.str s,(.sl o 10 (cWs l)),.sl .no 2 (cDs d),.sl .nil 7 []]) hb5H
    obtain⟨p9,hp9,hr9⟩:=K9.here
    refine zk (zaC 16 (Al4 _) _ r L p9 t8 hp9 hl hr9) (fun v HA ⟨ss,tA,eA,hvA,haA⟩=>?_) fun v HA ⟨n,eA,hvA⟩=>pan v HA n hvA (by rw[hx,eA];rfl)
    subst hvA
    rw[eA,zJ] at hx
    have KA:=K9.call haA
    have gA5:HA b5=some (.cells [.int .i64 kind,.str s,(.sl o 10 (cWs l)),.sl .no 2 (cDs d),.sl .nil 7 []]):=by rw[haA.other n5s,upd_same]
    have gA4:HA b4=some (.cells zO):=by rw[haA.other n4s,upd_ne (Ne.symm h54),gB4]
    simp only[zO] at gA4
    simp(disch:=first|omega|assumption) only[gA5,gA4,h54,Ne.symm h54,go_sem]
    exact fin _ _ [.agg [.int .i64 kind,.str s,(.sl o 10 (cWs l)),.sl .no 2 (cDs d),.sl .no 7 (cSs ss)]] _ _ (by simp(disch:=first|omega|assumption) only[ir164,zo,zL,go_sem]) hx ((KA.box hb5H).box hb4) (by simp[zb,AV.strip,AV.strip1,cO,cWs])
   | false =>
    rw[YP,hj] at ha8
    have K8:=K7.call (by simpa using ha8)
    obtain⟨p8,hp8,hr8⟩:=K8.here
    rw[yK,hj] at hR3
    simp only[Al7,if_false] at hR3
    simp(disch:=first|omega|assumption) only[g85,go_sem]
    refine zk (zeg hp8 hl hr8) (fun v H9 ⟨x,t9,e9,hv9,ha9⟩=>?_) fun v H9 ⟨n9,e9,hv9⟩=>pan v H9 n9 hv9 (by rw[hx,← hR3,e9];rfl)
    subst hv9
    rw[e9,zJ] at hR3
    have hlt:=Y5.lt (by decide) _ _ _ e9
    have K9:=K8.call ha9
    have g95:H9 b5=some (.cells [.int .i64 kind,.str s,.sl o 10 (cWs l),.sl .nil 2 [],.sl .nil 7 []]):=by rw[ha9.other n5s,g85]
    have g94:H9 b4=some (.cells zO):=by rw[ha9.other n4s,g84]
    simp(disch:=first|omega|assumption) only[g95,zcn,za0,go_sem]
    refine zE (by rw[hcl];exact K9.own) (by simp only[hcl,Al2,Al3];omega) (by simp only[hcl,Al2,Al3,maxLen];omega) fun oA HA hsA=>?_
    have KA:=K9.app (by simpa[hcl] using hsA)
    have gA5:=K9.stay hsA g95
    have gA4:=K9.stay hsA g94
    simp(disch:=first|omega|assumption) only[gA5,zcn,za0,go_sem]
    refine goJ (hJ (oA,l++[x],t9) _ (by simp only;omega) ⟨by simpa using KA.box hb5H gA5,by rw[upd_same];simp[cWs,zbx],by rw[upd_ne (Ne.symm h54)];exact gA4,⟨m,by simp only;omega,hR3⟩,by simp only[Al5,Al2,Al3];omega⟩) (by simp(disch:=first|omega|assumption) only[go_sem])
 ·rw[if_neg hk2,zJ] at hx
  simp(disch:=first|omega|assumption) only[yl,hk2,go_sem]
  refine zc (zah (dp:=16-16) hp2 hll hr2 [40]) fun v H4 ⟨hv4,ha4⟩=>?_
  subst hv4
  have K4:=K2.call ha4
  have g45:H4 b5=some (.cells [.int .i64 kind,.str [],.sl .nil 10 [],.sl .nil 2 [],.sl .nil 7 []]):=by rw[ha4.other n5s];(exact g25)
  have g44:H4 b4=some (.cells zO):=by rw[ha4.other n4s];(exact g24)
  unfold YP at K4
  obtain⟨p4,hp4,hr4⟩:=K4.here
  cases hi:isP [40] t with
  | false =>
   rw[hi] at hx K4 hp4
   simp only[Al7,if_false,zJ] at hx K4 hp4
   simp(disch:=first|omega|assumption) only[go_sem]
   refine zk (zba (Al4 _) hp4 hl hr4) (fun v H8 ⟨d,t8,e8,hv8,ha8⟩=>?_) fun v H8 ⟨n,e8,hv8⟩=>pan v H8 n hv8 (by rw[hx,e8];rfl)
   subst hv8
   rw[e8,zJ] at hx
   have K8:=K4.call ha8
   have g85:H8 b5=some (.cells [.int .i64 kind,.str [],(.sl .nil 10 []),.sl .nil 2 [],.sl .nil 7 []]):=by rw[ha8.other n5s,g45]
   have g84:H8 b4=some (.cells zO):=by rw[ha8.other n4s,g44]
   simp(disch:=first|omega|assumption) only[g85,go_sem]
   have K9:=K8.box (x:=.cells [.int .i64 kind,.str [],(.sl .nil 10 []),.sl .no 2 (cDs d),.sl .nil 7 []]) hb5H
   obtain⟨p9,hp9,hr9⟩:=K9.here
   refine zk (zaC 16 (Al4 _) _ r L p9 t8 hp9 hl hr9) (fun v HA ⟨ss,tA,eA,hvA,haA⟩=>?_) fun v HA ⟨n,eA,hvA⟩=>pan v HA n hvA (by rw[hx,eA];rfl)
   subst hvA
   rw[eA,zJ] at hx
   have KA:=K9.call haA
   have gA5:HA b5=some (.cells [.int .i64 kind,.str [],(.sl .nil 10 []),.sl .no 2 (cDs d),.sl .nil 7 []]):=by rw[haA.other n5s,upd_same]
   have gA4:HA b4=some (.cells zO):=by rw[haA.other n4s,upd_ne (Ne.symm h54),g84]
   simp only[zO] at gA4
   simp(disch:=first|omega|assumption) only[gA5,gA4,h54,Ne.symm h54,go_sem]
   exact fin _ _ [.agg [.int .i64 kind,.str [],(.sl .nil 10 []),.sl .no 2 (cDs d),.sl .no 7 (cSs ss)]] _ _ (by simp(disch:=first|omega|assumption) only[ir164,zo,zL,go_sem]) hx ((KA.box hb5H).box hb4) (by simp[zb,AV.strip,AV.strip1,cO,cWs])
  | true =>
   rw[hi] at hx K4 hp4
   simp only[if_true] at hx K4 hp4
   have hm1:Z1 [41] zao t.tail=pb (zao t.tail) fun x t=>yK [41] zao (t.length+1) [x] t:=rfl
   rw[hm1] at hx
   have hsl:=zd8 hp4
   simp(disch:=first|omega|assumption) only[g45,go_sem]
   refine zk (zeg hp4 hl hr4) (fun v H5 ⟨x1,t5,e5,hv5,ha5⟩=>?_) fun v H5 ⟨n,e5,hv5⟩=>pan v H5 n hv5 (by rw[hx,e5];rfl)
   subst hv5
   rw[e5,zJ] at hx
   have hlt1:=Y5.lt (by decide) _ _ _ e5
   have K5:=K4.call ha5
   have g55:H5 b5=some (.cells [.int .i64 kind,.str [],.sl .nil 10 [],.sl .nil 2 [],.sl .nil 7 []]):=by rw[ha5.other n5s,g45]
   have g54:H5 b4=some (.cells zO):=by rw[ha5.other n4s,g44]
   obtain⟨R,hR⟩:∃ R,yK [41] zao (t5.length+1) [x1] t5=R:=⟨_,rfl⟩
   rw[hR] at hx
   have KO5:KO H r L t5 (16-16) H5 .nil 0 10:=⟨K5,rfl,nofun⟩
   simp(disch:=first|omega|assumption) only[g55,zcn,za0,go_sem]
   refine zE (yq.nil _ _) (by simp) (by simp[maxLen]) fun o6 H6 hs6=>?_
   have K6:=KO5.app (by simpa using hs6)
   have g65:=KO5.stay hs6 g55
   have g64:=KO5.stay hs6 g54
   simp(disch:=first|omega|assumption) only[g65,zcn,za0,go_sem]
   refine zI (fun x:Own×List VarD×TS=>[]) (fun x H'=>KO H r L x.2.2 (16-16) H' x.1 x.2.1.length 10∧H' b5=some (.cells [.int .i64 kind,.str [],.sl x.1 10 (cWs x.2.1),.sl .nil 2 [],.sl .nil 7 []])∧H' b4=some (.cells zO)∧(∃ m,x.2.2.length<m∧yK [41] zao m x.2.1 x.2.2=R)∧x.2.1.length+x.2.2.length≤L.length) (fun x=>x.2.2.length) (o6,[x1],t5) (by simp(disch:=first|omega|assumption) only[go_sem]) ⟨by simpa using K6.box hb5H g65,by rw[upd_same];simp[cWs,zbx],by rw[upd_ne (Ne.symm h54)];exact g64,⟨_,Nat.lt_succ_self _,hR⟩,by simp only[List.length_singleton];omega⟩ ?_
   rintro⟨o,l,u⟩ H7 J ⟨K7,g75,g74,⟨m,hm,hR3⟩,hlen⟩ hJ
   simp only at K7 g75 g74 hm hR3 hlen
   obtain⟨m,rfl⟩:∃ j,m=j+1:=⟨m-1,by omega⟩
   obtain⟨p7,hp7,hr7⟩:=K7.here
   have hcl:=zeh l
   simp(disch:=first|omega|assumption) only[go_sem]
   refine zc (zah (dp:=16-16) hp7 hll hr7 [41]) fun v H8 ⟨hv8,ha8⟩=>?_
   subst hv8
   have g85:H8 b5=some (.cells [.int .i64 kind,.str [],.sl o 10 (cWs l),.sl .nil 2 [],.sl .nil 7 []]):=by rw[ha8.other n5s,g75]
   have g84:H8 b4=some (.cells zO):=by rw[ha8.other n4s,g74]
   cases hj:isP [41] u with
   | true =>
    rw[YP,hj,if_pos rfl] at ha8
    have K8:=K7.toKI.call ha8
    obtain⟨p8,hp8,hr8⟩:=K8.here
    have e1:R=.ok (l,u.tail):=by rw[← hR3,yK,hj];rfl
    rw[e1,zJ] at hx
    simp(disch:=first|omega|assumption) only[go_sem]
    refine zk (zba (Al4 _) hp8 hl hr8) (fun v HB ⟨d,t8,e8,hv8,ha8⟩=>?_) fun v HB ⟨n,e8,hv8⟩=>pan v HB n hv8 (by rw[hx,e8];rfl)
    subst hv8
    rw[e8,zJ] at hx
    have KB:=K8.call ha8
    have gB5:HB b5=some (.cells [.int .i64 kind,.str [],(.sl o 10 (cWs l)),.sl .nil 2 [],.sl .nil 7 []]):=by rw[ha8.other n5s,g85]
    have gB4:HB b4=some (.cells zO):=by rw[ha8.other n4s,g84]
    simp(disch:=first|omega|assumption) only[gB5,go_sem]
    have K9:=KB.box (x:=.cells [.int .i64 kind,.str [],(.sl o 10 (cWs l)),.sl .no 2 (cDs d),.sl .nil 7 []]) hb5H
    obtain⟨p9,hp9,hr9⟩:=K9.here
    refine zk (zaC 16 (Al4 _) _ r L p9 t8 hp9 hl hr9) (fun v HA ⟨ss,tA,eA,hvA,haA⟩=>?_) fun v HA ⟨n,eA,hvA⟩=>pan v HA n hvA (by rw[hx,eA];rfl)
    subst hvA
    rw[eA,zJ] at hx
    have KA:=K9.call haA
    have gA5:HA b5=some (.cells [.int .i64 kind,.str [],(.sl o 10 (cWs l)),.sl .no 2 (cDs d),.sl .nil 7 []]):=by rw[haA.other n5s,upd_same]
    have gA4:HA b4=some (.cells zO):=by rw[haA.other n4s,upd_ne (Ne.symm h54),gB4]
    simp only[zO] at gA4
    simp(disch:=first|omega|assumption) only[gA5,gA4,h54,Ne.symm h54,go_sem]
    exact fin _ _ [.agg [.int .i64 kind,.str [],(.sl o 10 (cWs l)),.sl .no 2 (cDs d),.sl .no 7 (cSs ss)]] _ _ (by simp(disch:=first|omega|assumption) only[ir164,zo,zL,go_sem]) hx ((KA.box hb5H).box hb4) (by simp[zb,AV.strip,AV.strip1,cO,cWs])
   | false =>
    rw[YP,hj] at ha8
    have K8:=K7.call (by simpa using ha8)
    obtain⟨p8,hp8,hr8⟩:=K8.here
    rw[yK,hj] at hR3
    simp only[Al7,if_false] at hR3
    simp(disch:=first|omega|assumption) only[g85,go_sem]
    refine zk (zeg hp8 hl hr8) (fun v H9 ⟨x,t9,e9,hv9,ha9⟩=>?_) fun v H9 ⟨n9,e9,hv9⟩=>pan v H9 n9 hv9 (by rw[hx,← hR3,e9];rfl)
    subst hv9
    rw[e9,zJ] at hR3
    have hlt:=Y5.lt (by decide) _ _ _ e9
    have K9:=K8.call ha9
    have g95:H9 b5=some (.cells [.int .i64 kind,.str [],.sl o 10 (cWs l),.sl .nil 2 [],.sl .nil 7 []]):=by rw[ha9.other n5s,g85]
    have g94:H9 b4=some (.cells zO):=by rw[ha9.other n4s,g84]
    simp(disch:=first|omega|assumption) only[g95,zcn,za0,go_sem]
    refine zE (by rw[hcl];exact K9.own) (by simp only[hcl,Al2,Al3];omega) (by simp only[hcl,Al2,Al3,maxLen];omega) fun oA HA hsA=>?_
    have KA:=K9.app (by simpa[hcl] using hsA)
    have gA5:=K9.stay hsA g95
    have gA4:=K9.stay hsA g94
    simp(disch:=first|omega|assumption) only[gA5,zcn,za0,go_sem]
    refine goJ (hJ (oA,l++[x],t9) _ (by simp only;omega) ⟨by simpa using KA.box hb5H gA5,by rw[upd_same];simp[cWs,zbx],by rw[upd_ne (Ne.symm h54)];exact gA4,⟨m,by simp only;omega,hR3⟩,by simp only[Al5,Al2,Al3];omega⟩) (by simp(disch:=first|omega|assumption) only[go_sem])
theorem zr1 {H:za} {r:Nat} {L p t:TS} (hs:p++t=L) (hl:wT L≤z1) (hr:H r=some (prc L p (16-16))) :
  zf Tryz.prog 165 [.ptr r 0] H (RpE H r L (16-16) (zdn t) (fun x=>.agg (cF x))):=by
 refine Zy (zf.goO (R:=fun v H'=>zdR H r L (16-16) (zdn t) (fun x=>.agg (cF x)) v.strip H') (RP:=fun v H'=>zej (zdn t) v H') ir165 ck165 (Al4 _) fun KP Q hQ hP=>?_)
 have hll:L.length≤z1:=Nat.le_trans (ZH L) hl
 have hll2:=hll
 simp only[z1] at hll2
 have pan:∀(v:AV) (H1:za) (n:Int),v=Za n→(zdn t)=.error n→KP v H1:=fun v H1 n h1 h2=>hP v H1 H1 (Low.refl _) ⟨n,h2,h1⟩
 have fin:=KI.done hQ
 have K0:=KI.start hs hr
 have hx:zdn t=pb (zcH t) fun s t=>pb (if isW [111,110] t then .ok ((),t.tail) else .error 2) fun _ t=>pb (yP t) fun o t =>
  pb (Ya true 16 t) fun d t=>pb (yo 16 t) fun l t=>.ok (⟨s,o,d,l⟩,t):=rfl
 simp(disch:=first|omega|assumption) only[ir165,go_sem]
 refine zh fun b2 hb2=>?_
 have n2:=K0.ne hb2
 have n2s:=Ne.symm n2
 have K1:=K0.box (x:=.cells [.str [],.str [],.sl .nil 2 [],.sl .nil 7 []]) hb2
 obtain⟨p1,hp1,hr1⟩:=K1.here
 simp(disch:=first|omega|assumption) only[go_sem]
 refine zk (zpT hp1 hl hr1) (fun v H3 ⟨s,t3,e3,hv3,ha3⟩=>?_) fun v H3 ⟨n,e3,hv3⟩=>pan v H3 n hv3 (by rw[hx,e3];rfl)
 subst hv3
 rw[e3,zJ] at hx
 have K3:=K1.call ha3
 have g32:H3 b2=some (.cells [.str [],.str [],.sl .nil 2 [],.sl .nil 7 []]):=by rw[ha3.other n2s,upd_same]
 simp(disch:=first|omega|assumption) only[go_sem]
 refine zh fun b3 hb3=>?_
 have h32:b3≠b2:=fun e=>by subst e;rw[g32] at hb3;cases hb3
 have hb3H:H b3=none:=K3.none hb3
 have n3:=K0.ne hb3H
 have n3s:=Ne.symm n3
 have K4:=K3.box (x:=.cells [.str s,.str [],.sl .nil 2 [],.sl .nil 7 []]) hb3H
 obtain⟨p4,hp4,hr4⟩:=K4.here
 simp(disch:=first|omega|assumption) only[go_sem]
 refine zc (zhK (dp:=16-16) hp4 hll hr4 [111,110]) fun v H5 ⟨hv5,ha5⟩=>?_
 subst hv5
 have K5:=K4.call ha5
 have g53:H5 b3=some (.cells [.str s,.str [],.sl .nil 2 [],.sl .nil 7 []]):=by rw[ha5.other n3s,upd_same]
 have g52:H5 b2=some (.cells [.str [],.str [],.sl .nil 2 [],.sl .nil 7 []]):=by rw[ha5.other n2s,upd_ne (Ne.symm h32),g32]
 unfold Yz at K5
 cases hw:isW [111,110] t3 with
 | false =>
  rw[hw] at hx
  simp(disch:=first|omega|assumption) only[go_sem]
  exact zk (zdj _ r 2) (fun _ _ h=>h.elim) fun v H6 h=>pan v H6 2 h (by rw[hx];rfl)
 | true =>
  rw[hw] at hx K5
  simp only[if_true,zJ] at hx K5
  obtain⟨p5,hp5,hr5⟩:=K5.here
  simp(disch:=first|omega|assumption) only[go_sem]
  refine zk (Y9 (dp:=16-16) hp5 hll hr5) (fun v H6 ⟨o,t6,e6,hv6,ha6⟩=>?_) fun v H6 ⟨n,e6,hv6⟩=>pan v H6 n hv6 (by rw[hx,e6];rfl)
  subst hv6
  rw[e6,zJ] at hx
  have g63:H6 b3=some (.cells [.str s,.str [],.sl .nil 2 [],.sl .nil 7 []]):=by rw[ha6.other n3s,g53]
  have g62:H6 b2=some (.cells [.str [],.str [],.sl .nil 2 [],.sl .nil 7 []]):=by rw[ha6.other n2s,g52]
  have K7:=(K5.call ha6).box (x:=.cells [.str s,.str o,.sl .nil 2 [],.sl .nil 7 []]) hb3H
  obtain⟨p7,hp7,hr7⟩:=K7.here
  simp(disch:=first|omega|assumption) only[g63,go_sem]
  refine zk (zba (Al4 _) hp7 hl hr7) (fun v H8 ⟨d,t8,e8,hv8,ha8⟩=>?_) fun v H8 ⟨n,e8,hv8⟩=>pan v H8 n hv8 (by rw[hx,e8];rfl)
  subst hv8
  rw[e8,zJ] at hx
  have g83:H8 b3=some (.cells [.str s,.str o,.sl .nil 2 [],.sl .nil 7 []]):=by rw[ha8.other n3s,upd_same]
  have g82:H8 b2=some (.cells [.str [],.str [],.sl .nil 2 [],.sl .nil 7 []]):=by rw[ha8.other n2s,upd_ne (Ne.symm h32),g62]
  have K9:=(K7.call ha8).box (x:=.cells [.str s,.str o,.sl .no 2 (cDs d),.sl .nil 7 []]) hb3H
  obtain⟨p9,hp9,hr9⟩:=K9.here
  simp(disch:=first|omega|assumption) only[g83,go_sem]
  refine zk (zaC 16 (Al4 _) _ r L p9 t8 hp9 hl hr9) (fun v HA ⟨ss,tA,eA,hvA,haA⟩=>?_) fun v HA ⟨n,eA,hvA⟩=>pan v HA n hvA (by rw[hx,eA];rfl)
  subst hvA
  rw[eA,zJ] at hx
  have KA:=K9.call haA
  have gA3:HA b3=some (.cells [.str s,.str o,.sl .no 2 (cDs d),.sl .nil 7 []]):=by rw[haA.other n3s,upd_same]
  have gA2:HA b2=some (.cells [.str [],.str [],.sl .nil 2 [],.sl .nil 7 []]):=by rw[haA.other n2s,upd_ne (Ne.symm h32),g82]
  simp(disch:=first|omega|assumption) only[gA3,gA2,h32,Ne.symm h32,go_sem]
  exact fin _ _ [.agg [.str s,.str o,.sl .no 2 (cDs d),.sl .no 7 (cSs ss)]] _ _ (by simp(disch:=first|omega|assumption) only[ir165,zo,zL,go_sem]) hx ((KA.box hb3H).box hb2) (by simp[zb,AV.strip,AV.strip1,cF])
theorem zc9 {H H':za} {o1 o2:Own} {n sz:Nat} (h:yq H o2 n sz) (hk:Kept H o1 H') (hs:∀ b x c y,o1=.tip b x→o2=.tip c y→b≠c):yq H' o2 n sz:=by
 cases o2 with
 | tip c y =>
  have h5:H c=some _:=h
  exact hk c _ h5 fun d e=>hs c d c y e rfl rfl
 | no=>exact h
 | nil=>exact h
 | full=>exact h
theorem zez {H:za} {c y n sz:Nat} (h:yq H (.tip c y) n sz):H c≠none:=by
 have h5:H c=some _:=h
 rw[h5];exact nofun
structure DI (L:TS) (r bd:Nat) (H:za) (t:TS) (d:DocD) (o1 o2:Own):Prop where
 rd:∃ p,p++t=L∧H r=some (prc L p (16-16))
 box:H bd=some (.cells [.sl o1 5 (cOs d.ops),.sl o2 4 (cFs d.frags)])
 own1:yq H o1 d.ops.length 5
 own2:yq H o2 d.frags.length 4
 sep:∀ b x c y,o1=.tip b x→o2=.tip c y→b≠c
 ne:bd≠r
theorem DI.call {L t t':TS} {r bd:Nat} {H H':za} {d:DocD} {o1 o2:Own} (h:DI L r bd H t d o1 o2) (ha:Pat H r L t' (16-16) H'):DI L r bd H' t' d o1 o2:=by
 obtain⟨p,_,hr⟩:=h.rd
 have hb:=ha.other h.ne
 obtain⟨q,hq,rfl⟩:=ha
 exact⟨⟨q,hq,upd_same ..⟩,by rw[hb];exact h.box,yG h.own1 hr,yG h.own2 hr,h.sep,h.ne⟩
theorem DI.op {L t:TS} {r bd n:Nat} {H H':za} {d:DocD} {o1 o2 o':Own} {xs:List (List AV)} (h:DI L r bd H t d o1 o2) (x:OpD) (hs:OwnS H o1 H' o' n 5) (hn:n=(d.ops++[x]).length) (hx:xs=cOs (d.ops++[x])) :
  DI L r bd (H'.upd bd (.cells [.sl o' 5 xs,.sl o2 4 (cFs d.frags)])) t ⟨d.ops++[x],d.frags⟩ o' o2:=by
 obtain⟨p,hp,hr⟩:=h.rd
 have hb:=yh h.own1 h.box hs.kept
 have hr2:=yh h.own1 hr hs.kept
 subst hn;subst hx
 refine⟨⟨p,hp,by rw[upd_ne (Ne.symm h.ne)];exact hr2⟩,upd_same ..,yG hs.own hb,yG (zc9 h.own2 hs.kept h.sep) hb,fun b x c y e1 e2=>?_,h.ne⟩
 rcases hs.new b x e1 with h2|⟨d0,h2⟩
 ·subst e2
  exact fun e=>zez h.own2 (e▸h2)
 ·exact h.sep b d0 c y h2 e2
theorem DI.frag {L t:TS} {r bd n:Nat} {H H':za} {d:DocD} {o1 o2 o':Own} {xs:List (List AV)} (h:DI L r bd H t d o1 o2) (x:FragD) (hs:OwnS H o2 H' o' n 4) (hn:n=(d.frags++[x]).length) (hx:xs=cFs (d.frags++[x])) :
  DI L r bd (H'.upd bd (.cells [.sl o1 5 (cOs d.ops),.sl o' 4 xs])) t ⟨d.ops,d.frags++[x]⟩ o1 o':=by
 obtain⟨p,hp,hr⟩:=h.rd
 have hb:=yh h.own2 h.box hs.kept
 have hr2:=yh h.own2 hr hs.kept
 subst hn;subst hx
 refine⟨⟨p,hp,by rw[upd_ne (Ne.symm h.ne)];exact hr2⟩,upd_same ..,yG (zc9 h.own1 hs.kept fun b x c y e1 e2=>Ne.symm (h.sep c y b x e2 e1)) hb,yG hs.own hb,fun b x c y e1 e2=>?_,h.ne⟩
 rcases hs.new c y e2 with h2|⟨d0,h2⟩
 ·subst e1
  exact fun e=>zez h.own1 (by rw[e];exact h2)
 ·exact h.sep b x c d0 e1 h2
def ztM (L:TS) (r bd:Nat) (t:TS) (d:DocD):AEnd→za→Prop:=fun e H'=>match e with
 | .ret v=>∃ d' t' o1' o2',Yp d t=.ok (d',t')∧v=.tup []∧DI L r bd H' t' d' o1' o2'∧d'.ops.length+d'.frags.length+t'.length≤d.ops.length+d.frags.length+t.length∧t'.length<t.length
 | .pan v=>∃ n,v=Za n∧Yp d t=.error n
theorem ziC (l:List FragD) (x:FragD):cFs (l++[x])=cFs l++[cF x]:=by simp[cFs]
theorem zaW (l:List OpD) (x:OpD):cOs (l++[x])=cOs l++[cO x]:=by simp[cOs]
theorem zci (x:OpD):(cO x).length=5:=rfl
theorem za2 (x:OpD):(cO x).take 5=cO x:=rfl
theorem Yo (a b c d e:AV) (x:OpD):splice [a,b,c,d,e] 0 (cO x)=cO x:=rfl
theorem znr (x:FragD):(cF x).length=4:=rfl
theorem zlC (x:FragD):(cF x).take 4=cF x:=rfl
theorem zhw (a b c d:AV) (x:FragD):splice [a,b,c,d] 0 (cF x)=cF x:=rfl
theorem zqV {L t:TS} {r bd:Nat} {H:za} {d:DocD} {o1 o2:Own} (h:DI L r bd H t d o1 o2) (hl:wT L≤z1) (hb:d.ops.length+d.frags.length≤L.length) :
  zf Tryz.prog 91 [.ptr r 0,.ptr bd 0] H (ztM L r bd t d):=by
 refine zf.goO (R:=fun v H'=>∃ d' t' o1' o2',Yp d t=.ok (d',t')∧v=.tup []∧DI L r bd H' t' d' o1' o2'∧d'.ops.length+d'.frags.length+t'.length≤d.ops.length+d.frags.length+t.length∧t'.length<t.length) (RP:=fun v _=>∃ n,v=Za n∧Yp d t=.error n) ir91 ck91 (Al4 _) fun KP Q hQ hP=>?_
 have hll:L.length≤z1:=Nat.le_trans (ZH L) hl
 have hll2:=hll
 simp only[z1] at hll2
 have pan:∀(v:AV) (H1:za) (n:Int),v=Za n→Yp d t=.error n→KP v H1:=fun v H1 n h1 h2=>hP v H1 H1 (Low.refl _) ⟨n,h1,h2⟩
 have hc1:=zfW d.ops
 have hc2:=zfP d.frags
 obtain⟨p,hs,hr⟩:=h.rd
 have g0:=h.box
 simp(disch:=first|omega|assumption) only[ir91,go_sem]
 refine zc (zna (dp:=16-16) hs hr [123]) fun v H1 ⟨hv1,hH⟩=>?_
 subst hv1;subst hH
 cases hi:isP [123] t with
 | true =>
  have hx:Yp d t=pb (yo 16 t) fun l t=>.ok (⟨d.ops++[⟨0,[],[],[],l⟩],d.frags⟩,t):=by unfold Yp;rw[hi];rfl
  simp(disch:=first|omega|assumption) only[g0,go_sem]
  refine zk (zaC 16 (Al4 _) _ r L p t hs hl hr) (fun v H2 ⟨l,t2,e2,hv2,ha2⟩=>?_) fun v H2 ⟨n,e2,hv2⟩=>pan v H2 n hv2 (by rw[hx,e2];rfl)
  have hlt:=(Zr 16).lt (by decide) _ _ _ e2
  have eD:Yp d t=.ok (⟨d.ops++[⟨0,[],[],[],l⟩],d.frags⟩,t2):=by rw[hx,e2];rfl
  have D2:=h
  subst hv2
  have DX:=D2.call ha2
  obtain⟨pX,hpX,hrX⟩:=DX.rd
  have gX:=DX.box
  simp(disch:=first|omega|assumption) only[gX,zci,za2,Yo,go_sem]
  refine zE (by rw[hc1];exact DX.own1) (by simp only[hc1,Al2,Al3];omega) (by simp only[hc1,Al2,Al3,maxLen];omega) fun oY HY hsY=>?_
  have gY:=yh DX.own1 gX hsY.kept
  simp(disch:=first|omega|assumption) only[gY,zci,za2,Yo,go_sem]
  refine hQ _ _ _ _ [] nofun rfl (Low.refl _) ⟨_,_,oY,o2,eD,rfl,DX.op ⟨0,[],[],[],l⟩ (by simpa[hc1] using hsY) (by simp) (by rw[zaW];simp[cO,AV.strip1,cWs,cDs]),by simp only[Al5,List.length_singleton];omega,by omega⟩
 | false =>
  have hni:¬ (isP [123] t=true):=by rw[hi];decide
  simp(disch:=first|omega|assumption) only[go_sem]
  refine zc (zhK (dp:=16-16) hs hll hr [113,117,101,114,121]) fun v H2 ⟨hv2,ha2⟩=>?_
  subst hv2
  have D2:=h.call ha2
  unfold Yz at D2
  cases hq:isW [113,117,101,114,121] t with
  | true =>
   rw[hq,if_pos rfl] at D2
   have htl:=(zef hq).1
   have htk:t.tail.length<t.length:=by rw[YX (zcK hq)];simp
   obtain⟨p2,hp2,hr2⟩:=D2.rd
   have g2:=D2.box
   have hx:Yp d t=pb (opP 0 t.tail) fun o t=>.ok (⟨d.ops++[o],d.frags⟩,t):=by unfold Yp;rw[if_neg hni,hq];rfl
   simp(disch:=first|omega|assumption) only[g2,go_sem]
   refine zk (ztv 0 hp2 hl hr2) (fun v H3 ⟨o,t3,e3,hv3,ha3⟩=>?_) fun v H3 ⟨n,e3,hv3⟩=>pan v H3 n hv3 (by rw[hx,e3];rfl)
   have hlt:=(zee 0).lt (by decide) _ _ _ e3
   have eD:Yp d t=.ok (⟨d.ops++[o],d.frags⟩,t3):=by rw[hx,e3];rfl
   subst hv3
   have DX:=D2.call ha3
   obtain⟨pX,hpX,hrX⟩:=DX.rd
   have gX:=DX.box
   simp(disch:=first|omega|assumption) only[gX,zci,za2,Yo,go_sem]
   refine zE (by rw[hc1];exact DX.own1) (by simp only[hc1,Al2,Al3];omega) (by simp only[hc1,Al2,Al3,maxLen];omega) fun oY HY hsY=>?_
   have gY:=yh DX.own1 gX hsY.kept
   simp(disch:=first|omega|assumption) only[gY,zci,za2,Yo,go_sem]
   refine hQ _ _ _ _ [] nofun rfl (Low.refl _) ⟨_,_,oY,o2,eD,rfl,DX.op o (by simpa[hc1] using hsY) (by simp) (by rw[zaW];simp[cO,AV.strip1,cWs,cDs]),by simp only[Al5,List.length_singleton];omega,by omega⟩
  | false =>
   rw[hq] at D2
   simp only[Al7,if_false] at D2
   have hnq:¬ (isW [113,117,101,114,121] t=true):=by rw[hq];decide
   obtain⟨p2,hp2,hr2⟩:=D2.rd
   simp(disch:=first|omega|assumption) only[go_sem]
   refine zc (zhK (dp:=16-16) hp2 hll hr2 [109,117,116,97,116,105,111,110]) fun v H3 ⟨hv3,ha3⟩=>?_
   subst hv3
   have D3:=D2.call ha3
   unfold Yz at D3
   cases hm:isW [109,117,116,97,116,105,111,110] t with
   | true =>
    rw[hm,if_pos rfl] at D3
    have htk:t.tail.length<t.length:=by rw[YX (zcK hm)];simp
    obtain⟨p3,hp3,hr3⟩:=D3.rd
    have g3:=D3.box
    have hx:Yp d t=pb (opP 1 t.tail) fun o t=>.ok (⟨d.ops++[o],d.frags⟩,t):=by unfold Yp;rw[if_neg hni,if_neg hnq,hm];rfl
    simp(disch:=first|omega|assumption) only[g3,go_sem]
    refine zk (ztv 1 hp3 hl hr3) (fun v H4 ⟨o,t4,e4,hv4,ha4⟩=>?_) fun v H4 ⟨n,e4,hv4⟩=>pan v H4 n hv4 (by rw[hx,e4];rfl)
    have hlt:=(zee 1).lt (by decide) _ _ _ e4
    have eD:Yp d t=.ok (⟨d.ops++[o],d.frags⟩,t4):=by rw[hx,e4];rfl
    subst hv4
    have DX:=D3.call ha4
    obtain⟨pX,hpX,hrX⟩:=DX.rd
    have gX:=DX.box
    simp(disch:=first|omega|assumption) only[gX,zci,za2,Yo,go_sem]
    refine zE (by rw[hc1];exact DX.own1) (by simp only[hc1,Al2,Al3];omega) (by simp only[hc1,Al2,Al3,maxLen];omega) fun oY HY hsY=>?_
    have gY:=yh DX.own1 gX hsY.kept
    simp(disch:=first|omega|assumption) only[gY,zci,za2,Yo,go_sem]
    refine hQ _ _ _ _ [] nofun rfl (Low.refl _) ⟨_,_,oY,o2,eD,rfl,DX.op o (by simpa[hc1] using hsY) (by simp) (by rw[zaW];simp[cO,AV.strip1,cWs,cDs]),by simp only[Al5,List.length_singleton];omega,by omega⟩
   | false =>
    rw[hm] at D3
    simp only[Al7,if_false] at D3
    have hnm:¬ (isW [109,117,116,97,116,105,111,110] t=true):=by rw[hm];decide
    obtain⟨p3,hp3,hr3⟩:=D3.rd
    simp(disch:=first|omega|assumption) only[go_sem]
    refine zc (zhK (dp:=16-16) hp3 hll hr3 [102,114,97,103,109,101,110,116]) fun v H4 ⟨hv4,ha4⟩=>?_
    subst hv4
    have D4:=D3.call ha4
    unfold Yz at D4
    cases hf:isW [102,114,97,103,109,101,110,116] t with
    | true =>
     rw[hf,if_pos rfl] at D4
     have htk:t.tail.length<t.length:=by rw[YX (zcK hf)];simp
     obtain⟨p4,hp4,hr4⟩:=D4.rd
     have g4:=D4.box
     have hx:Yp d t=pb (zdn t.tail) fun f t=>.ok (⟨d.ops,d.frags++[f]⟩,t):=by unfold Yp;rw[if_neg hni,if_neg hnq,if_neg hnm,hf];rfl
     simp(disch:=first|omega|assumption) only[g4,go_sem]
     refine zk (zr1 hp4 hl hr4) (fun v H5 ⟨f,t5,e5,hv5,ha5⟩=>?_) fun v H5 ⟨n,e5,hv5⟩=>pan v H5 n hv5 (by rw[hx,e5];rfl)
     have hlt:=zeR.lt (by decide) _ _ _ e5
     have eD:Yp d t=.ok (⟨d.ops,d.frags++[f]⟩,t5):=by rw[hx,e5];rfl
     subst hv5
     have DX:=D4.call ha5
     obtain⟨pX,hpX,hrX⟩:=DX.rd
     have gX:=DX.box
     simp(disch:=first|omega|assumption) only[gX,znr,zlC,zhw,go_sem]
     refine zE (by rw[hc2];exact DX.own2) (by simp only[hc2,Al2,Al3];omega) (by simp only[hc2,Al2,Al3,maxLen];omega) fun oY HY hsY=>?_
     have gY:=yh DX.own2 gX hsY.kept
     simp(disch:=first|omega|assumption) only[gY,znr,zlC,zhw,go_sem]
     refine hQ _ _ _ _ [] nofun rfl (Low.refl _) ⟨_,_,o1,oY,eD,rfl,DX.frag f (by simpa[hc2] using hsY) (by simp) (by rw[ziC];simp[cF,AV.strip1]),by simp only[Al5,List.length_singleton];omega,by omega⟩
    | false =>
     have hnf:¬ (isW [102,114,97,103,109,101,110,116] t=true):=by rw[hf];decide
     simp(disch:=first|omega|assumption) only[go_sem]
     exact zk (zdj _ r 2) (fun _ _ h=>h.elim) fun v H5 h=>pan v H5 2 h (by unfold Yp;rw[if_neg hni,if_neg hnq,if_neg hnm,if_neg hnf])
theorem zlm {L:TS} {r:Nat} (hl:wT L≤z1) (hn:∀ x∈L,Zh x) (k:Nat) (hk:k≤16) (ih:∀ n,k=n+1→zls L r n):zls L r k:=by
 intro H s hr hd
 refine zf.go ir170 ck170 (Al4 _) fun KP Q hQ=>?_
 have hll:L.length≤z1:=Nat.le_trans (ZH L) hl
 simp only[z1] at hll
 have K0:=KB.start hr
 simp(disch:=first|omega|assumption) only[ir170,go_sem]
 refine zc (zkW hl hr _) fun v H2 ⟨hv,h2⟩=>?_
 subst hv
 have K2:=K0.step h2
 by_cases he:(yI L [123] s).e=0
 ·obtain⟨n,rfl,hdp⟩:=ziI hk hd he
  obtain⟨R,hR⟩:∃ R,yT L [125] true (zeU L (yc L n) n) (L.length+2) [] (yI L [123] s)=R:=⟨_,rfl⟩
  have eR:yc L (n+1) s=(R.1,YC L [125] R.2):=by rw[← hR];rfl
  have hs:=zkn hn (show n≤16 by omega) (zcX hn n (by omega))
  have hlt:=(zbq (k:=n) (Zr n)).lt (by decide)
  simp(disch:=first|omega|assumption) only[go_sem]
  refine zI (fun x:Own×List SelD×St=>[(3,.sl x.1 7 (cSs x.2.1))]) (fun x H'=>KBO H r (poc L x.2.2) H' x.1 x.2.1.length 7∧LI L [125] true (zeU L (yc L n) n) (16-(n:Int)) R x.2.1 x.2.2) (fun x=>mS L x.2.2) (.nil,[],yI L [123] s) (by simp(disch:=first|omega|assumption) only[cSs,go_sem]) ⟨⟨K2,rfl,nofun⟩,LI.start (fun _=>hdp) hR⟩ ?_
  rintro⟨o,l,u⟩ H3 J ⟨K3,I3⟩ hJ
  simp only at K3 I3
  have gr:=K3.here
  simp only[poc] at gr
  have hcl:=zfN l
  by_cases hue:u.e=0
  case neg =>
   simp(disch:=first|omega|assumption) only[gr,hue,go_sem]
   have e1:=I3.stop (by (exact fun h=>hue h.1))
   rw[e1] at eR
   try simp(disch:=first|omega|assumption) only[go_sem]
   refine zc (zbP hl K3.here _) fun v H4 ⟨hv,h4⟩=>?_
   subst hv
   rw[eR] at hQ
   have fin:=KB.done hQ
   simp(disch:=first|omega|assumption) only[go_sem]
   refine fin _ _ [.sl o 7 (cSs l)] rfl (K3.toKB.step h4) ?_
   simp[zb,AV.strip,AV.strip1,zak,Y6]
  by_cases hz:l.length=0
  ·have hz':((l.length:Int)=0)=True:=eq_true (by omega)
   simp(disch:=first|omega|assumption) only[gr,hue,hcl,hz',go_sem]
   obtain⟨I4,hm,hl4⟩:=I3.next ⟨hue,(.inl ⟨rfl,hz⟩)⟩ hs hlt
   try simp(disch:=first|omega|assumption) only[go_sem]
   refine zc (zqT hl hn (show n≤16 by omega) (ih n rfl) K3.here I3.dp) fun v H5 ⟨hv,h5⟩=>?_
   subst hv
   have K5:=K3.step h5
   simp(disch:=first|omega|assumption) only[zH,zt,zl,zG,zu,zm,ya,zbD,zal,ZV,go_sem]
   refine zE (by rw[hcl];exact K5.own) (by simp only[hcl,Al2,Al3];omega) (by simp only[hcl,Al2,Al3,maxLen];omega) fun o6 H6 hs6=>?_
   have K6:=K5.app (by simpa[hcl] using hs6)
   simp(disch:=first|omega|assumption) only[zH,zt,zl,zG,zu,zm,ya,zbD,zal,ZV,go_sem]
   refine goJ (hJ (o6,l++[_],_) _ hm ⟨by simpa using K6,I4⟩) (by simp(disch:=first|omega|assumption) only[zH,zt,zl,zG,zu,zm,ya,zak,List.map_append,List.map_cons,List.map_nil,Y6,go_sem])
  ·have hz':¬ ((l.length:Int)=0):=by omega
   simp(disch:=first|omega|assumption) only[gr,hue,hcl,hz',go_sem]
   refine zc (zaJ hl K3.here _) fun v H4 ⟨hv,hH⟩=>?_
   subst hv;subst hH
   cases hj:isS L [125] u with
   | true =>
    have e1:=I3.stop (by (rintro⟨_,⟨_,h⟩|h⟩;exact hz h;rw[hj] at h;cases h))
    rw[e1] at eR
    try simp(disch:=first|omega|assumption) only[go_sem]
    refine zc (zbP hl K3.here _) fun v H4 ⟨hv,h4⟩=>?_
    subst hv
    rw[eR] at hQ
    have fin:=KB.done hQ
    simp(disch:=first|omega|assumption) only[go_sem]
    refine fin _ _ [.sl o 7 (cSs l)] rfl (K3.toKB.step h4) ?_
    simp[zb,AV.strip,AV.strip1,zak,Y6]
   | false =>
    obtain⟨I4,hm,hl4⟩:=I3.next ⟨hue,(.inr hj)⟩ hs hlt
    try simp(disch:=first|omega|assumption) only[go_sem]
    refine zc (zqT hl hn (show n≤16 by omega) (ih n rfl) K3.here I3.dp) fun v H5 ⟨hv,h5⟩=>?_
    subst hv
    have K5:=K3.step h5
    simp(disch:=first|omega|assumption) only[zH,zt,zl,zG,zu,zm,ya,zbD,zal,ZV,go_sem]
    refine zE (by rw[hcl];exact K5.own) (by simp only[hcl,Al2,Al3];omega) (by simp only[hcl,Al2,Al3,maxLen];omega) fun o6 H6 hs6=>?_
    have K6:=K5.app (by simpa[hcl] using hs6)
    simp(disch:=first|omega|assumption) only[zH,zt,zl,zG,zu,zm,ya,zbD,zal,ZV,go_sem]
    refine goJ (hJ (o6,l++[_],_) _ hm ⟨by simpa using K6,I4⟩) (by simp(disch:=first|omega|assumption) only[zH,zt,zl,zG,zu,zm,ya,zak,List.map_append,List.map_cons,List.map_nil,Y6,go_sem])
 ·have eR:yc L k s=([],YC L [125] (yI L [123] s)):=by
   cases k with
   | zero=>rfl
   | succ n=>simp only[yc];rw[YG he]
  rw[eR] at hQ
  have fin:=KB.done hQ
  simp(disch:=first|omega|assumption) only[go_sem]
  refine zI (fun x:Unit=>[]) (fun x H'=>H'=H2) (fun x=>0) () (by simp(disch:=first|omega|assumption) only[go_sem]) rfl ?_
  rintro _ H3 J hH hJ
  subst hH
  have gr:=K2.here
  simp only[poc] at gr
  simp(disch:=first|omega|assumption) only[gr,he,go_sem]
  refine zc (zbP hl K2.here _) fun v H4 ⟨hv,h4⟩=>?_
  subst hv
  simp(disch:=first|omega|assumption) only[go_sem]
  exact fin _ _ [.sl .nil 7 []] rfl (K2.step h4) (by simp[zb,ze,AV.strip,AV.strip1,cSs])
theorem zcg {L:TS} {r:Nat} (hl:wT L≤z1) (hn:∀ x∈L,Zh x):∀ k,k≤16→zls L r k
 | 0,h=>zlm hl hn 0 h fun n e=>nomatch e
 | k+1,h=>zlm hl hn (k+1) h fun n e=>by
  obtain rfl:n=k:=by omega
  exact zcg hl hn _ (by omega)
theorem ziG {L:TS} {H:za} {r:Nat} {s:St} (hl:wT L≤z1) (hn:∀ x∈L,Zh x) (hr:H r=some (poc L s)) (hd:s.e=0→s.dp=16-((16:Nat):Int)) :
  zf Tryz.prog 171 [.ptr r 0] H (PQ H r L (.sl .no 10 (cWs (Zw L s).1)) (Zw L s).2):=by
 refine zf.go ir171 ck171 (Al4 _) fun KP Q hQ=>?_
 have hll:L.length≤z1:=Nat.le_trans (ZH L) hl
 simp only[z1] at hll
 have K0:=KB.start hr
 simp(disch:=first|omega|assumption) only[ir171,go_sem]
 refine zc (zaJ hl hr _) fun v H1 ⟨hv,hH⟩=>?_
 subst hv;subst hH
 cases hi:isS L [40] s with
 | false =>
  have e:Zw L s=([],s):=by simp[Zw,hi]
  rw[e] at hQ
  have fin:=KB.done hQ
  simp(disch:=first|omega|assumption) only[go_sem]
  exact fin _ _ [.sl .nil 10 []] rfl K0 (by simp[zb,ze,AV.strip,AV.strip1,cWs])
 | true =>
  obtain⟨R,hR⟩:∃ R,yT L [41] true (zeP L) (L.length+2) [] (zj L [40] s)=R:=⟨_,rfl⟩
  have eR:Zw L s=(R.1,zj L [41] R.2):=by rw[← hR];simp[Zw,hi]
  have hs:SimS L zao (16-((16:Nat):Int)) (zeP L):=zjl hn
  have hlt:=Y5.lt (by decide)
  simp(disch:=first|omega|assumption) only[go_sem]
  refine zc (y0 hl hr _) fun v H2 ⟨hv,h2⟩=>?_
  subst hv
  have K2:=K0.step h2
  simp(disch:=first|omega|assumption) only[go_sem]
  refine zI (fun x:Own×List VarD×St=>[(3,.sl x.1 10 (cWs x.2.1))]) (fun x H'=>KBO H1 r (poc L x.2.2) H' x.1 x.2.1.length 10∧LI L [41] true (zeP L) (16-((16:Nat):Int)) R x.2.1 x.2.2) (fun x=>mS L x.2.2) (.nil,[],zj L [40] s) (by simp(disch:=first|omega|assumption) only[cWs,List.map_nil,go_sem]) ⟨⟨K2,rfl,nofun⟩,LI.start (Yf hd) hR⟩ ?_
  rintro⟨o,l,u⟩ H3 J ⟨K3,I3⟩ hJ
  simp only at K3 I3
  have gr:=K3.here
  simp only[poc] at gr
  have hcl:=zeh l
  by_cases hue:u.e=0
  case neg =>
   simp(disch:=first|omega|assumption) only[gr,hue,go_sem]
   have e1:=I3.stop (by (exact fun h=>hue h.1))
   rw[e1] at eR
   try simp(disch:=first|omega|assumption) only[go_sem]
   refine zc (y0 hl K3.here _) fun v H4 ⟨hv,h4⟩=>?_
   subst hv
   rw[eR] at hQ
   have fin:=KB.done hQ
   simp(disch:=first|omega|assumption) only[go_sem]
   refine fin _ _ [.sl o 10 (cWs l)] rfl (K3.toKB.step h4) ?_
   simp[zb,AV.strip,AV.strip1,ze4]
  by_cases hz:l.length=0
  ·have hz':((l.length:Int)=0)=True:=eq_true (by omega)
   simp(disch:=first|omega|assumption) only[gr,hue,hcl,hz',go_sem]
   obtain⟨I4,hm,hl4⟩:=I3.next ⟨hue,(.inl ⟨rfl,hz⟩)⟩ hs hlt
   try simp(disch:=first|omega|assumption) only[go_sem]
   refine zc (y0 hl K3.here _) fun v H5 ⟨hv,h5⟩=>?_
   subst hv
   have K5:=K3.step h5
   simp(disch:=first|omega|assumption) only[go_sem]
   refine zc (Zb hl K5.here) fun v H6 ⟨hv,h6⟩=>?_
   subst hv
   have K6:=K5.step h6
   have eV0:zeP L u=zex L (zg L (zj L [36] u)).1 (ZM L 4 (zj L [58] (zg L (zj L [36] u)).2)).1 (ZM L 4 (zj L [58] (zg L (zj L [36] u)).2)).2:=rfl
   have DN:=y5 (Yf (m:=[36]) (L:=L) I3.dp) (L:=L)
   generalize (zg L (zj L [36] u)).1=nm at *
   generalize (zg L (zj L [36] u)).2=s1 at *
   simp(disch:=first|omega|assumption) only[go_sem]
   refine zh fun b4 hb4=>?_
   have hb4H:=K6.toKB.none hb4
   have n4:=K0.ne hb4H
   simp(disch:=first|omega|assumption) only[go_sem]
   refine zc (y0 hl (K6.new hb4 _).here _) fun v H7 ⟨hv,h7⟩=>?_
   subst hv
   have K7:=(K6.new hb4 _).step h7
   have g7:=oth h7 n4 (upd_same ..)
   simp(disch:=first|omega|assumption) only[go_sem]
   refine zc (znB hl 4 (by decide) K7.here) fun v H8 ⟨hv,h8⟩=>?_
   subst hv
   have K8:=K7.step h8
   have g8:=oth h8 n4 g7
   have DT:=Yk (zf4 (L:=L) (16-((16:Nat):Int)) 4 (by decide)) (Yf (L:=L) (m:=[58]) DN)
   generalize (ZM L 4 (zj L [58] s1)).1=ty at *
   generalize (ZM L 4 (zj L [58] s1)).2=s2 at *
   simp(disch:=first|omega|assumption) only[cTy,g8,go_sem]
   refine zc (zaJ hl (K8.box hb4H g8).here _) fun v H9 ⟨hv,h9⟩=>?_
   subst hv
   have K9:=K8.box (cs':=[.str nm,.str ty.nm,.int .i64 ty.lists,.int .i64 ty.musts,.bool false,.int .i64 0,.int .i64 0,.str [],.sl .nil 5 [],.sl .nil 6 []]) hb4H g8
   rw[← h9] at K9
   have g9:H9 b4=some (.cells [.str nm,.str ty.nm,.int .i64 ty.lists,.int .i64 ty.musts,.bool false,.int .i64 0,.int .i64 0,.str [],.sl .nil 5 [],.sl .nil 6 []]):=by rw[h9,upd_same]
   cases hb:isS L [61] s2 with
   | true =>
    have eV:zeP L u=(⟨nm,ty,true,(ZE L true 16 (zj L [61] s2)).1⟩,(ZE L true 16 (zj L [61] s2)).2):=by rw[eV0];simp[zex,hb]
    have eV1:=congrArg Prod.fst eV
    have eV2:=congrArg Prod.snd eV
    simp only at eV1 eV2
    simp(disch:=first|omega|assumption) only[go_sem]
    refine zc (y0 hl K9.here _) fun v HA ⟨hv,hA⟩=>?_
    subst hv
    have KA:=K9.step hA
    have gA:=oth hA n4 g9
    simp(disch:=first|omega|assumption) only[go_sem]
    refine zc (zeu hl hn true 16 (Al4 _) KA.here (Yf DT)) fun v HB ⟨hv,hB⟩=>?_
    subst hv
    have KB':=KA.step hB
    have gB:=oth hB n4 gA
    simp(disch:=first|omega|assumption) only[zH,zt,zl,zG,zu,zm,ya,gB,zfq,znO,zgQ,go_sem]
    have KZ:=KB'.box (cs':=(.str nm::.str ty.nm::.int .i64 ty.lists::.int .i64 ty.musts::.bool true::cV (ZE L true 16 (zj L [61] s2)).1)) hb4H gB
    refine zE (by rw[hcl];exact KZ.own) (by simp only[hcl,Al2,Al3];omega) (by simp only[hcl,Al2,Al3,maxLen];omega) fun o6 H6 hs6=>?_
    have KY:=KZ.app (by simpa[hcl] using hs6)
    simp(disch:=first|omega|assumption) only[zH,zt,zl,zG,zu,zm,ya,go_sem]
    refine goJ (hJ (o6,l++[_],_) _ hm ⟨by rw[eV2];simpa using KY,I4⟩) (by simp(disch:=first|omega|assumption) only[zH,zt,zl,zG,zu,zm,ya,eV1,cWs,zgE,List.map_append,List.map_cons,List.map_nil,y6,zV,cV,cVs,cMs,go_sem])
   | false =>
    have eV:zeP L u=(⟨nm,ty,false,zV⟩,s2):=by rw[eV0];simp[zex,hb]
    have eV1:=congrArg Prod.fst eV
    have eV2:=congrArg Prod.snd eV
    simp only at eV1 eV2
    simp(disch:=first|omega|assumption) only[g9,go_sem]
    have KZ:=K9
    refine zE (by rw[hcl];exact KZ.own) (by simp only[hcl,Al2,Al3];omega) (by simp only[hcl,Al2,Al3,maxLen];omega) fun o6 H6 hs6=>?_
    have KY:=KZ.app (by simpa[hcl] using hs6)
    simp(disch:=first|omega|assumption) only[zH,zt,zl,zG,zu,zm,ya,go_sem]
    refine goJ (hJ (o6,l++[_],_) _ hm ⟨by rw[eV2];simpa using KY,I4⟩) (by simp(disch:=first|omega|assumption) only[zH,zt,zl,zG,zu,zm,ya,eV1,cWs,zgE,List.map_append,List.map_cons,List.map_nil,y6,zV,cV,cVs,cMs,go_sem])
  ·have hz':¬ ((l.length:Int)=0):=by omega
   simp(disch:=first|omega|assumption) only[gr,hue,hcl,hz',go_sem]
   refine zc (zaJ hl K3.here _) fun v H4 ⟨hv,hH⟩=>?_
   subst hv;subst hH
   cases hj:isS L [41] u with
   | true =>
    have e1:=I3.stop (by (rintro⟨_,⟨_,h⟩|h⟩;exact hz h;rw[hj] at h;cases h))
    rw[e1] at eR
    try simp(disch:=first|omega|assumption) only[go_sem]
    refine zc (y0 hl K3.here _) fun v H4 ⟨hv,h4⟩=>?_
    subst hv
    rw[eR] at hQ
    have fin:=KB.done hQ
    simp(disch:=first|omega|assumption) only[go_sem]
    refine fin _ _ [.sl o 10 (cWs l)] rfl (K3.toKB.step h4) ?_
    simp[zb,AV.strip,AV.strip1,ze4]
   | false =>
    obtain⟨I4,hm,hl4⟩:=I3.next ⟨hue,(.inr hj)⟩ hs hlt
    try simp(disch:=first|omega|assumption) only[go_sem]
    refine zc (y0 hl K3.here _) fun v H5 ⟨hv,h5⟩=>?_
    subst hv
    have K5:=K3.step h5
    simp(disch:=first|omega|assumption) only[go_sem]
    refine zc (Zb hl K5.here) fun v H6 ⟨hv,h6⟩=>?_
    subst hv
    have K6:=K5.step h6
    have eV0:zeP L u=zex L (zg L (zj L [36] u)).1 (ZM L 4 (zj L [58] (zg L (zj L [36] u)).2)).1 (ZM L 4 (zj L [58] (zg L (zj L [36] u)).2)).2:=rfl
    have DN:=y5 (Yf (m:=[36]) (L:=L) I3.dp) (L:=L)
    generalize (zg L (zj L [36] u)).1=nm at *
    generalize (zg L (zj L [36] u)).2=s1 at *
    simp(disch:=first|omega|assumption) only[go_sem]
    refine zh fun b4 hb4=>?_
    have hb4H:=K6.toKB.none hb4
    have n4:=K0.ne hb4H
    simp(disch:=first|omega|assumption) only[go_sem]
    refine zc (y0 hl (K6.new hb4 _).here _) fun v H7 ⟨hv,h7⟩=>?_
    subst hv
    have K7:=(K6.new hb4 _).step h7
    have g7:=oth h7 n4 (upd_same ..)
    simp(disch:=first|omega|assumption) only[go_sem]
    refine zc (znB hl 4 (by decide) K7.here) fun v H8 ⟨hv,h8⟩=>?_
    subst hv
    have K8:=K7.step h8
    have g8:=oth h8 n4 g7
    have DT:=Yk (zf4 (L:=L) (16-((16:Nat):Int)) 4 (by decide)) (Yf (L:=L) (m:=[58]) DN)
    generalize (ZM L 4 (zj L [58] s1)).1=ty at *
    generalize (ZM L 4 (zj L [58] s1)).2=s2 at *
    simp(disch:=first|omega|assumption) only[cTy,g8,go_sem]
    refine zc (zaJ hl (K8.box hb4H g8).here _) fun v H9 ⟨hv,h9⟩=>?_
    subst hv
    have K9:=K8.box (cs':=[.str nm,.str ty.nm,.int .i64 ty.lists,.int .i64 ty.musts,.bool false,.int .i64 0,.int .i64 0,.str [],.sl .nil 5 [],.sl .nil 6 []]) hb4H g8
    rw[← h9] at K9
    have g9:H9 b4=some (.cells [.str nm,.str ty.nm,.int .i64 ty.lists,.int .i64 ty.musts,.bool false,.int .i64 0,.int .i64 0,.str [],.sl .nil 5 [],.sl .nil 6 []]):=by rw[h9,upd_same]
    cases hb:isS L [61] s2 with
    | true =>
     have eV:zeP L u=(⟨nm,ty,true,(ZE L true 16 (zj L [61] s2)).1⟩,(ZE L true 16 (zj L [61] s2)).2):=by rw[eV0];simp[zex,hb]
     have eV1:=congrArg Prod.fst eV
     have eV2:=congrArg Prod.snd eV
     simp only at eV1 eV2
     simp(disch:=first|omega|assumption) only[go_sem]
     refine zc (y0 hl K9.here _) fun v HA ⟨hv,hA⟩=>?_
     subst hv
     have KA:=K9.step hA
     have gA:=oth hA n4 g9
     simp(disch:=first|omega|assumption) only[go_sem]
     refine zc (zeu hl hn true 16 (Al4 _) KA.here (Yf DT)) fun v HB ⟨hv,hB⟩=>?_
     subst hv
     have KB':=KA.step hB
     have gB:=oth hB n4 gA
     simp(disch:=first|omega|assumption) only[zH,zt,zl,zG,zu,zm,ya,gB,zfq,znO,zgQ,go_sem]
     have KZ:=KB'.box (cs':=(.str nm::.str ty.nm::.int .i64 ty.lists::.int .i64 ty.musts::.bool true::cV (ZE L true 16 (zj L [61] s2)).1)) hb4H gB
     refine zE (by rw[hcl];exact KZ.own) (by simp only[hcl,Al2,Al3];omega) (by simp only[hcl,Al2,Al3,maxLen];omega) fun o6 H6 hs6=>?_
     have KY:=KZ.app (by simpa[hcl] using hs6)
     simp(disch:=first|omega|assumption) only[zH,zt,zl,zG,zu,zm,ya,go_sem]
     refine goJ (hJ (o6,l++[_],_) _ hm ⟨by rw[eV2];simpa using KY,I4⟩) (by simp(disch:=first|omega|assumption) only[zH,zt,zl,zG,zu,zm,ya,eV1,cWs,zgE,List.map_append,List.map_cons,List.map_nil,y6,zV,cV,cVs,cMs,go_sem])
    | false =>
     have eV:zeP L u=(⟨nm,ty,false,zV⟩,s2):=by rw[eV0];simp[zex,hb]
     have eV1:=congrArg Prod.fst eV
     have eV2:=congrArg Prod.snd eV
     simp only at eV1 eV2
     simp(disch:=first|omega|assumption) only[g9,go_sem]
     have KZ:=K9
     refine zE (by rw[hcl];exact KZ.own) (by simp only[hcl,Al2,Al3];omega) (by simp only[hcl,Al2,Al3,maxLen];omega) fun o6 H6 hs6=>?_
     have KY:=KZ.app (by simpa[hcl] using hs6)
     simp(disch:=first|omega|assumption) only[zH,zt,zl,zG,zu,zm,ya,go_sem]
     refine goJ (hJ (o6,l++[_],_) _ hm ⟨by rw[eV2];simpa using KY,I4⟩) (by simp(disch:=first|omega|assumption) only[zH,zt,zl,zG,zu,zm,ya,eV1,cWs,zgE,List.map_append,List.map_cons,List.map_nil,y6,zV,cV,cVs,cMs,go_sem])
def zjU (may:UInt8→Bool) (t:List UInt8):AV:=match ZL may t with
 | some (b,t')=>.tup [.str b,.int .i64 ((t.length+1-t'.length:Nat):Int)]
 | none=>.tup [.str [],.int .i64 0]
theorem zpM (f : FuncId) (hf : Program.callable Tryz.prog f = true) (may : UInt8 → Bool) (hmay : ∀ c : UInt8, zr Tryz.prog f [.int .u8 c.toNat] (.bool (may c))) (a : UInt8) (t : List UInt8) (hl : t.length + 1 ≤ ZQ) :
    zr Tryz.prog 220 [.str (a :: t), .clo f [] []] (zjU may t) := by
  refine zr.go ir220 ck220 (Al4 _) fun KP Q hQ => ?_
  simp only [ZQ] at hl
  simp (disch := first | omega | assumption) only [ir220, go_sem]
  refine zh fun q hq => ?_
  simp (disch := first | omega | assumption) only [go_sem]
  obtain ⟨R, hR⟩ : ∃ R, zad may (t.length + 1) t ⟨[], [], true⟩ = R := ⟨_, rfl⟩
  have fail : R = none → zjU may t = .tup [.str [], .int .i64 0] := fun e => by unfold zjU ZL; rw [hR, e]
  refine zI (fun s : List UInt8 × Sd × Own × Own => [(7, .int .i64 ((t.length + 1 - s.1.length : Nat) : Int))])
    (fun s H => s.1 <:+ t ∧ (∃ n, s.1.length < n ∧ zad may n s.1 s.2.1 = R) ∧ s.2.1.w + s.1.length ≤ t.length ∧ SaidAt H q s.2.1 s.2.2.1 s.2.2.2) (fun s => s.1.length) (t, ⟨[], [], true⟩, .nil, .nil)
    (by have : (t.length + 1 - t.length : Nat) = 1 := by omega
        simp (disch := first | omega | assumption) only [this, go_sem]) ⟨List.suffix_refl _, ⟨t.length + 1, by simp, hR⟩, by simp [Sd.w], upd_same .., rfl, rfl, nofun⟩ ?_
  rintro ⟨rest, x, o, o2⟩ H J ⟨hsuf, ⟨n, hn, hg⟩, hw, hs⟩ hJ
  simp only at hsuf hn hg hw hs
  have hrl := hsuf.length_le
  obtain ⟨n, rfl⟩ : ∃ k, n = k + 1 := ⟨n - 1, by omega⟩
  cases rest with
  | nil =>
    have e0 : R = none := by rw [← hg]; rfl
    have h0 : t.length + 1 - 0 = t.length + 1 := rfl
    have h1 : (((t.length + 1 : Nat) : Int) ≤ ((t.length + 1 : Nat) : Int)) = True := eq_true (Int.le_refl _)
    simp (disch := first | omega | assumption) only [h0, h1, go_sem]
    exact hQ _ _ _ _ nofun rfl (by simp [zb, ze, AV.strip, AV.strip1, fail e0])
  | cons c r =>
    obtain ⟨p, hp⟩ := hsuf
    have hpl : t.length = p.length + (r.length + 1) := by rw [← hp]; simp
    have h0 : t.length + 1 - (r.length + 1) = p.length + 1 := by omega
    have h1 : ¬ (((t.length + 1 : Nat) : Int) ≤ ((p.length + 1 : Nat) : Int)) := by omega
    have h2 : (((p.length + 1 : Nat) : Int) < ((t.length + 1 : Nat) : Int)) = True := eq_true (by omega)
    have hi : (a :: t).getD (p.length + 1) 0 = c := by rw [← hp]; simp
    have hi1 : (((p.length + 1 : Nat) : Int) + 1) = ((p.length + 1 + 1 : Nat) : Int) := by omega
    have hsr : r <:+ t := ⟨p ++ [c], by rw [← hp]; simp⟩
    simp only [zad] at hg
    simp only [Al2] at hw hn
    have hx : x.w ≤ ZQ := by simp only [ZQ]; omega
    by_cases c1 : c = 34
    · subst c1
      simp only [if_true] at hg
      have hc : (((34 : UInt8).toNat : Int) = 34) = True := eq_true rfl
      simp (disch := first | omega | assumption) only [h0, h1, h2, hi, hc, go_sem]
      refine zc (zkO hs hx) fun v H1 ⟨hv, o', hs1⟩ => ?_
      subst hv
      have hq := hs1.hq
      cases hok : (yD x).ok
      · rw [hok] at hq
        have e0 : ZL may t = none := by unfold ZL; rw [hR, ← hg]; simp [hok]
        simp (disch := first | omega | assumption) only [hq, go_sem]
        exact hQ _ _ _ _ nofun rfl (by simp [zb, ze, AV.strip, AV.strip1, zjU, e0])
      · rw [hok] at hq
        have e0 : ZL may t = some ((yD x).b, r) := by unfold ZL; rw [hR, ← hg]; simp [hok]
        simp (disch := first | omega | assumption) only [hq, zaU, wrap64, go_sem]
        have e1 : (p.length : Int) + 1 + 1 = ((t.length + 1 - r.length : Nat) : Int) := by omega
        exact hQ _ _ _ _ nofun rfl (by simp [zb, ze, AV.strip, AV.strip1, zjU, e0, e1])
    have c1' : ¬ ((c.toNat : Int) = 34) := fun e => c1 (by apply UInt8.toNat_inj.1; show c.toNat = 34; omega)
    rw [if_neg c1] at hg
    by_cases c2 : c = 92
    · subst c2
      simp only [if_true] at hg
      have hc : ¬ (((92 : UInt8).toNat : Int) = 34) := by decide
      have hc2 : (((92 : UInt8).toNat : Int) = 92) = True := eq_true rfl
      have h3 : (((p.length + 1 : Nat) : Int) + 1 ≤ ((t.length + 1 : Nat) : Int)) = True := eq_true (by omega)
      have h4 : (((p.length + 1 : Nat) : Int) + 1).toNat = p.length + 2 := by omega
      have hdr : (a :: t).drop (p.length + 2) = r := by rw [← hp]; simp
      simp (disch := first | omega | assumption) only [h0, h1, h2, hi, hc, hc2, wrap64, h3, h4, hdr, go_sem]
      refine zc (ztL hs hx r (by simp only [Lim]; omega)) fun v H1 he => ?_
      unfold zkJ at he
      cases hm : Yl x r with
      | none =>
        rw [hm] at he hg
        subst he
        simp (disch := first | omega | assumption) only [go_sem]
        exact hQ _ _ _ _ nofun rfl (by simp [zb, ze, AV.strip, AV.strip1, fail hg.symm])
      | some y =>
        obtain ⟨x', t'⟩ := y
        rw [hm] at he hg
        obtain ⟨hv, o3, o4, hs3⟩ := he
        subst hv
        have h5 := zeo hm
        have h6 := zpd hm
        have h7 : ¬ (((r.length - t'.length : Nat) : Int) = 0) := by omega
        have h8 : ((p.length + 1 : Nat) : Int) + (1 + ((r.length - t'.length : Nat) : Int)) = ((t.length + 1 - t'.length : Nat) : Int) := by omega
        simp (disch := first | omega | assumption) only [h7, wrap64, h8, go_sem]
        exact goJ (hJ (t', x', o3, o4) _ (by simp; omega) ⟨h5.1.trans hsr, ⟨n, by show t'.length < n; omega, hg⟩, by show x'.w + t'.length ≤ t.length; omega, hs3⟩) (by simp (disch := first | omega | assumption) only [go_sem])
    have c2' : ¬ ((c.toNat : Int) = 92) := fun e => c2 (by apply UInt8.toNat_inj.1; show c.toNat = 92; omega)
    rw [if_neg c2] at hg
    simp (disch := first | omega | assumption) only [h0, h1, h2, hi, c1', c2', hf, go_sem]
    refine zd (hmay c) ?_
    cases hm : may c
    · rw [hm] at hg
      simp (disch := first | omega | assumption) only [go_sem]
      exact hQ _ _ _ _ nofun rfl (by simp [zb, ze, AV.strip, AV.strip1, fail hg.symm])
    · rw [hm] at hg
      simp only [if_true] at hg
      simp (disch := first | omega | assumption) only [go_sem]
      refine zc (zkO hs hx) fun v H1 ⟨hv, o', hs1⟩ => ?_
      subst hv
      obtain ⟨hq1, ho1, _, _⟩ := hs1
      have hfw := zeA x
      have hpw := zo6 x c
      have hbl := yz (yD x).b
      simp (disch := first | omega | assumption) only [hq1, h2, hi, go_sem]
      refine zE (by rw [hbl]; exact ho1) (by simp [hbl]; omega) (by simp [maxLen, hbl]; omega) fun o3 H2 hs3 => ?_
      have hq2 := yh ho1 hq1 hs3.kept
      simp (disch := first | omega | assumption) only [hq2, wrap64, go_sem]
      have h8 : ((p.length + 1 : Nat) : Int) + 1 = ((t.length + 1 - r.length : Nat) : Int) := by omega
      refine goJ (hJ (r, x.put c, o3, .nil) _ (by simp) ⟨hsr, ⟨n, by show r.length < n; omega, hg⟩, by show (x.put c).w + r.length ≤ t.length; omega, ?_, ?_, rfl, nofun⟩) (by simp (disch := first | omega | assumption) only [h8, go_sem])
      · simp only [upd_same, Sd.put]
        rw [← Zg]; rfl
      · simp only [Sd.put, Al5, Al2, Al3]
        exact yG (by simpa [hbl] using hs3.own) hq2
open Go.Lib
theorem zo1 (c:UInt8):hexD c≠none→c.toNat<128:=zdE (P:=fun c=>hexD c≠none→c.toNat<128) (by decide +kernel) c
theorem zlW (c:UInt8):¬ Lib.indexByte zaR c<0→c.toNat<128∧(zkT.getD (Lib.indexByte zaR c).toNat 0).toNat<128 :=
 zdE (P:=fun c=>¬ Lib.indexByte zaR c<0→c.toNat<128∧(zkT.getD (Lib.indexByte zaR c).toNat 0).toNat<128) (by decide +kernel) c
theorem zeW:∀(n:Nat) (t:List UInt8) (u v:Nat),ZN n t u=some v→∀ b∈t.take n,b.toNat<128
 | 0,_,_,_,_,b,hb=>by simp at hb
 | n+1,[],_,_,h,_,_=>by cases h
 | n+1,c::t,u,v,h,b,hb=>by
  simp only[ZN] at h
  split at h
  ·cases h
  ·rename_i k hk
   rw[zbV] at hb
   rcases List.mem_cons.1 hb with e|e
   ·rw[e];exact zo1 c (by rw[hk];simp)
   ·exact zeW n t _ v h b e
structure SInv' (q:Sd) (t:List UInt8):Prop where
 none:q.u=[]→validD (q.b++t)=true
 some:q.u≠[]→validD q.b=true∧validD t=true
theorem zi1 {q:Sd} (h:validD q.b=true):validD (yD q).b=true:=by
 unfold yD
 cases hj:zX q.u with
 | none=>simpa using h
 | some s=>exact za4 h (zdV _ _ hj)
theorem zmz {q:Sd} (h:q.u=[]):(yD q).b=q.b:=by unfold yD;rw[h];simp[zX]
theorem SInv'.low {q:Sd} {c:UInt8} {t:List UInt8} (h:SInv' q (c::t)) (hc:c.toNat<128):validD q.b=true∧validD t=true:=by
 by_cases hu:q.u=[]
 ·exact zcd hc (h.none hu)
 ·obtain⟨h1,h2⟩:=h.some hu
  rw[validD_cons c t hc] at h2
  exact⟨h1,h2⟩
theorem SInv'.put {q:Sd} {c:UInt8} {t:List UInt8} (h:SInv' q (c::t)):SInv' (q.put c) t:=by
 refine⟨fun _=>?_,fun e=>absurd rfl e⟩
 show validD (((yD q).b++[c])++t)=true
 rw[zfM]
 by_cases hu:q.u=[]
 ·rw[zmz hu];exact h.none hu
 ·obtain⟨h1,h2⟩:=h.some hu
  exact za4 (zi1 h1) h2
theorem znc {q q':Sd} {t t':List UInt8} (h:Yl q t=some (q',t')) (hb:validD q.b=true) (ht:validD t=true):SInv' q' t':=by
 cases t with
 | nil=>cases h
 | cons c t =>
  simp only[Yl] at h
  split at h
  ·rename_i hc
   cases hu:Yb t with
   | none=>simp[hu] at h
   | some u =>
    simp only[hu,yS,Al1,Al8] at h
    obtain⟨rfl,rfl⟩:=h
    rw[validD_cons c t (by rw[hc];decide)] at ht
    have:=validD_ascii 4 t (zeW 4 t 0 u hu)
    exact⟨fun e=>by simp at e,fun _=>⟨hb,by rw[← this];exact ht⟩⟩
  ·split at h
   ·cases h
   ·rename_i hk
    simp only[Al1,Al8] at h
    obtain⟨rfl,rfl⟩:=h
    have h1:=zlW c hk
    rw[validD_cons c t h1.1] at ht
    refine⟨fun _=>?_,fun e=>absurd rfl e⟩
    show validD (((yD q).b++[_])++t)=true
    rw[zfM]
    refine za4 (zi1 hb) ?_
    rw[List.singleton_append,validD_cons _ _ h1.2];exact ht
theorem zdy {may:UInt8→Bool}:∀(n:Nat) (t:List UInt8) (q q':Sd) (t':List UInt8),zad may n t q=some (q',t')→SInv' q t→validD q'.b=true∧validD t'=true
 | 0,_,_,_,_,h,_=>by cases h
 | _+1,[],_,_,_,h,_=>by cases h
 | n+1,c::t,q,q',t',h,hi=>by
  simp only[zad] at h
  split at h
  ·rename_i hc
   simp only[Al1,Al8] at h
   obtain⟨rfl,rfl⟩:=h
   obtain⟨h1,h2⟩:=hi.low (by rw[hc];decide)
   exact⟨zi1 h1,h2⟩
  ·split at h
   ·rename_i hc
    cases he:Yl q t with
    | none=>simp[he] at h
    | some x =>
     obtain⟨q1,t1⟩:=x
     simp only[he] at h
     obtain⟨h1,h2⟩:=hi.low (by rw[hc];decide)
     exact zdy n t1 q1 q' t' h (znc he h1 h2)
   ·split at h
    ·exact zdy n t _ q' t' h hi.put
    ·cases h
theorem zkL {may:UInt8→Bool} {t t' b:List UInt8} (h:ZL may t=some (b,t')) (hv:validD t=true):validD b=true∧validD t'=true:=by
 unfold ZL at h
 split at h
 ·rename_i q t1 hq
  split at h
  ·cases h;exact zdy _ _ _ _ _ hq ⟨fun _=>hv,fun e=>absurd rfl e⟩
  ·cases h
 ·cases h
end Go.Proofs.YticbbfbpeimkbaaGreatDoor
namespace Go.Proofs.YticbbfbpeimkbaaGreatDoor
open Go.Ab
theorem ZC {n:Nat} (h:n<18446744073709551616):(BitVec.ofInt 64 (n:Int)).toNat=n:=by
 rw[BitVec.toNat_ofInt];omega
theorem zbk {n:Nat} (h:n<9223372036854775808):IntKind.wrap .i64 (n:Int)=n:=wrap64 (by omega) (by omega)
theorem ziL {n:Nat} (j:Nat) (h:n<9223372036854775808) (hj:2 ^ j-1<9223372036854775808):IntKind.wrap .i64 ((BitVec.ofInt IntKind.i64.bits (n:Int) &&& BitVec.ofInt IntKind.i64.bits ((2 ^ j-1:Nat):Int)).toNat:Int)=((n % 2 ^ j:Nat):Int):=by
 have e:(BitVec.ofInt IntKind.i64.bits (n:Int) &&& BitVec.ofInt IntKind.i64.bits ((2 ^ j-1:Nat):Int)).toNat=n % 2 ^ j:=by
  rw[BitVec.toNat_and]
  show (BitVec.ofInt 64 (n:Int)).toNat &&& (BitVec.ofInt 64 ((2 ^ j-1:Nat):Int)).toNat=_
  rw[ZC (by omega),ZC (by omega),Nat.and_two_pow_sub_one_eq_mod]
 rw[e]
 exact zbk (Nat.lt_of_le_of_lt (Nat.mod_le _ _) h)
theorem zty {n:Nat} (h:n<9223372036854775808):IntKind.wrap .i64 ((BitVec.ofInt IntKind.i64.bits (n:Int) &&& BitVec.ofInt IntKind.i64.bits 31).toNat:Int)=((n % 32:Nat):Int):=ziL 5 h (by decide)
theorem zsG {n:Nat} (h:n<9223372036854775808):IntKind.wrap .i64 ((BitVec.ofInt IntKind.i64.bits (n:Int) &&& BitVec.ofInt IntKind.i64.bits 15).toNat:Int)=((n % 16:Nat):Int):=ziL 4 h (by decide)
theorem and7 {n:Nat} (h:n<9223372036854775808):IntKind.wrap .i64 ((BitVec.ofInt IntKind.i64.bits (n:Int) &&& BitVec.ofInt IntKind.i64.bits 7).toNat:Int)=((n % 8:Nat):Int):=ziL 3 h (by decide)
theorem zl5 {n:Nat} (h:n<9223372036854775808):IntKind.wrap .i64 ((BitVec.ofInt IntKind.i64.bits (n:Int) &&& BitVec.ofInt IntKind.i64.bits 63).toNat:Int)=((n % 64:Nat):Int):=ziL 6 h (by decide)
theorem ztN {a b:Nat} (ha:a<16777216) (hb:b<64):IntKind.wrap .i64 ((BitVec.ofInt IntKind.i64.bits ((a*64:Nat):Int) ||| BitVec.ofInt IntKind.i64.bits (b:Int)).toNat:Int)=((a*64+b:Nat):Int):=by
 have e:(BitVec.ofInt IntKind.i64.bits ((a*64:Nat):Int) ||| BitVec.ofInt IntKind.i64.bits (b:Int)).toNat=a*64+b:=by
  rw[BitVec.toNat_or]
  show (BitVec.ofInt 64 ((a*64:Nat):Int)).toNat ||| (BitVec.ofInt 64 (b:Int)).toNat=_
  rw[ZC (by omega),ZC (by omega)]
  have:=Nat.two_pow_add_eq_or_of_lt (i:=6) (b:=b) (by omega) a
  rw[show (2:Nat) ^ 6=64 by rfl] at this
  rw[Nat.mul_comm a 64,this]
 rw[e]
 exact zbk (by omega)
def ym (l:List UInt8):Nat×Nat:=if l=[] then (0,0) else if Lib.decodeL l=(65533,1) then (0,0) else Lib.decodeL l
abbrev bt (s:List UInt8) (i k:Nat):Nat:=(s.getD (i+k) 0).toNat
theorem zqP (s:List UInt8) (i k:Nat):bt s i k<256:=(s.getD (i+k) 0).toNat_lt
theorem zmy (s:List UInt8) (i k:Nat):(s.drop i).getD k 0=s.getD (i+k) 0:=by simp[List.getElem?_drop]
theorem zoM {s:List UInt8} {i:Nat} (h:i<s.length):ym (s.drop i)=if Lib.decodeN (s.length-i) (bt s i 0) (bt s i 1) (bt s i 2) (bt s i 3)=(65533,1) then (0,0) else Lib.decodeN (s.length-i) (bt s i 0) (bt s i 1) (bt s i 2) (bt s i 3):=by
 have hne:s.drop i≠[]:=fun e=>by have:=congrArg List.length e;simp at this;omega
 unfold ym
 rw[if_neg hne,Lib.decodeL_N,yH]
 simp only[zmy]
def cv (v0:Nat) (b:Nat→Nat):Nat→Nat
 | 0=>v0
 | j+1=>cv v0 b j*64+b (j+1) % 64
def zp9 (b0 w lo v:Nat):Prop:=(194≤b0∧b0<224∧w=2∧lo=128∧v=b0 % 32)∨(224≤b0∧b0<240∧w=3∧lo=2048∧v=b0 % 16)∨(240≤b0∧b0<245∧w=4∧lo=65536∧v=b0 % 8)
theorem zmX {n b0 b1 b2 b3 w lo v:Nat} (h:zp9 b0 w lo v) (hn:n<w):Lib.decodeN n b0 b1 b2 b3=(65533,1):=by
 unfold Lib.decodeN
 rcases h with ⟨h1,h2,rfl,_,_⟩|⟨h1,h2,rfl,_,_⟩|⟨h1,h2,rfl,_,_⟩<;>(repeat' split)<;>first|rfl|(exfalso;omega)
theorem zjv {n w lo v j:Nat} {b:Nat→Nat} (h:zp9 (b 0) w lo v) (h1:1≤j) (hj:j<w) (hc:b j<128∨191<b j):Lib.decodeN n (b 0) (b 1) (b 2) (b 3)=(65533,1):=by
 have hj4:j=1∨j=2∨j=3:=by rcases h with h|h|h<;>omega
 unfold Lib.decodeN
 rcases h with ⟨h2,h3,rfl,_,_⟩|⟨h2,h3,rfl,_,_⟩|⟨h2,h3,rfl,_,_⟩<;>rcases hj4 with rfl|rfl|rfl<;>(repeat' split)<;>first|rfl|(exfalso;omega)
theorem znx {n w lo v:Nat} {b:Nat→Nat} (h:zp9 (b 0) w lo v) (hn:w≤n) (hc:∀ j,1≤j→j<w→128≤b j∧b j≤191) :
  (if Lib.decodeN n (b 0) (b 1) (b 2) (b 3)=(65533,1) then (0,0) else Lib.decodeN n (b 0) (b 1) (b 2) (b 3))=if cv v b (w-1)<lo∨1114111<cv v b (w-1)∨(55296≤cv v b (w-1)∧cv v b (w-1)<57344) then (0,0) else (cv v b (w-1),w):=by
 rcases h with ⟨h2,h3,rfl,rfl,rfl⟩|⟨h2,h3,rfl,rfl,rfl⟩|⟨h2,h3,rfl,rfl,rfl⟩
 ·have c1:=hc 1 (by omega) (by omega)
  have e:Lib.decodeN n (b 0) (b 1) (b 2) (b 3)=(b 0 % 32*64+b 1 % 64,2):=by
   unfold Lib.decodeN
   rw[if_neg (by omega),if_pos (by omega),if_pos (by omega)]
  have e2:cv (b 0 % 32) b (2-1)=b 0 % 32*64+b 1 % 64:=rfl
  rw[e,e2,if_neg (by simp),if_neg (by omega)]
 ·have c1:=hc 1 (by omega) (by omega)
  have c2:=hc 2 (by omega) (by omega)
  have e2:cv (b 0 % 16) b (3-1)=b 0 % 16*4096+b 1 % 64*64+b 2 % 64:=by
   show (b 0 % 16*64+b 1 % 64)*64+b 2 % 64=_
   omega
  rw[e2]
  by_cases g:b 0 % 16*4096+b 1 % 64*64+b 2 % 64≥2048∧(b 0 % 16*4096+b 1 % 64*64+b 2 % 64<55296∨(57344≤b 0 % 16*4096+b 1 % 64*64+b 2 % 64∧b 0 % 16*4096+b 1 % 64*64+b 2 % 64≤1114111))
  ·have e:Lib.decodeN n (b 0) (b 1) (b 2) (b 3)=(b 0 % 16*4096+b 1 % 64*64+b 2 % 64,3):=by
    unfold Lib.decodeN
    rw[if_neg (by omega),if_neg (by omega),if_pos (by omega),if_pos g]
   rw[e,if_neg (by simp),if_neg (by omega)]
  ·have e:Lib.decodeN n (b 0) (b 1) (b 2) (b 3)=(65533,1):=by
    unfold Lib.decodeN
    rw[if_neg (by omega),if_neg (by omega),if_pos (by omega),if_neg g]
   rw[e,if_pos rfl,if_pos (by omega)]
 ·have c1:=hc 1 (by omega) (by omega)
  have c2:=hc 2 (by omega) (by omega)
  have c3:=hc 3 (by omega) (by omega)
  have e2:cv (b 0 % 8) b (4-1)=b 0 % 8*262144+b 1 % 64*4096+b 2 % 64*64+b 3 % 64:=by
   show ((b 0 % 8*64+b 1 % 64)*64+b 2 % 64)*64+b 3 % 64=_
   omega
  rw[e2]
  by_cases g:b 0 % 8*262144+b 1 % 64*4096+b 2 % 64*64+b 3 % 64≥65536∧(b 0 % 8*262144+b 1 % 64*4096+b 2 % 64*64+b 3 % 64<55296∨(57344≤b 0 % 8*262144+b 1 % 64*4096+b 2 % 64*64+b 3 % 64∧b 0 % 8*262144+b 1 % 64*4096+b 2 % 64*64+b 3 % 64≤1114111))
  ·have e:Lib.decodeN n (b 0) (b 1) (b 2) (b 3)=(b 0 % 8*262144+b 1 % 64*4096+b 2 % 64*64+b 3 % 64,4):=by
    unfold Lib.decodeN
    rw[if_neg (by omega),if_neg (by omega),if_neg (by omega),if_pos (by omega),if_pos g]
   rw[e,if_neg (by simp),if_neg (by omega)]
  ·have e:Lib.decodeN n (b 0) (b 1) (b 2) (b 3)=(65533,1):=by
    unfold Lib.decodeN
    rw[if_neg (by omega),if_neg (by omega),if_neg (by omega),if_pos (by omega),if_neg g]
   rw[e,if_pos rfl,if_pos (by omega)]
theorem zqW (s:List UInt8) (i:Nat) (hi:i<s.length) (hs:s.length≤Lim):zr Tryz.prog 301 [.str s,.int .i64 i] (.tup [.int .i64 (ym (s.drop i)).1,.int .i64 (ym (s.drop i)).2]):=by
 refine zr.go ir301 ck301 (Al4 _) fun KP Q hQ=>?_
 simp only[Lim] at hs
 have hlt:(i:Int)<s.length:=by omega
 have h0:¬ (i:Int)<0:=by omega
 have hge:¬ (s.length:Int)≤i:=by omega
 rw[zoM hi] at hQ
 have hb0:=zqP s i 0
 obtain⟨c,hc⟩:∃ c,s.getD i 0=c:=⟨_,rfl⟩
 have hcb:c.toNat=bt s i 0:=by rw[← hc];rfl
 have hcb':(c.toNat:Int)=(bt s i 0:Nat):=by rw[hcb]
 have hw0:IntKind.wrap .i64 ((bt s i 0:Nat):Int)=(bt s i 0:Nat):=zbk (by omega)
 generalize hB:(fun k=>bt s i k)=b at *
 have b0e:bt s i 0=b 0:=by rw[← hB]
 have bk:∀ k,bt s i k=b k:=fun k=>by rw[← hB]
 have hbl:∀ k,b k<256:=fun k=>by rw[← bk];exact zqP s i k
 simp only[bk] at hQ hb0 hcb hcb' hw0
 by_cases a:(b 0:Int)<128
 ·simp(disch:=first|omega|assumption) only[ir301,h0,hlt,hge,hc,hcb',hw0,a,steps,st2,pev,rev,oev,zN,zU,ye,yf,bound,zC,mm2,mk,zn,AV.cells,AV.boxable,AV.one,AV.strip1,zz,zy,Nat.reduceEqDiff,reduceCtorEq,↓reduceIte,Nat.reduceAdd,Int.reduceNeg,Nat.reduceLeDiff,Int.reduceToNat,Int.reduceEq,Int.reduceLT,Int.reduceLE,Int.reduceAdd,Io,Im,If,Il,Jt,Jf,AC.rg,Jm,Jl,Ja,Fm,Fl,Fa,Imv,Imb,Iai,Iei,Igi,Isi,Ipf,Ipt,Ilb,Iia,Ilt,Iap,Ink,Iln,Ils,Iad,Iex,Ibx,Ing]
  have e:Lib.decodeN (s.length-i) (b 0) (b 1) (b 2) (b 3)=(b 0,1):=by unfold Lib.decodeN;rw[if_pos (by omega)]
  rw[e,if_neg (by simp;omega)] at hQ
  exact hQ _ _ _ _ nofun rfl (by simp[zb,ze,AV.strip,AV.strip1])
 simp(disch:=first|omega|assumption) only[ir301,h0,hlt,hge,hc,hcb',hw0,a,steps,st2,pev,rev,oev,zN,zU,ye,yf,bound,zC,mm2,mk,zn,AV.cells,AV.boxable,AV.one,AV.strip1,zz,zy,Nat.reduceEqDiff,reduceCtorEq,↓reduceIte,Nat.reduceAdd,Int.reduceNeg,Nat.reduceLeDiff,Int.reduceToNat,Int.reduceEq,Int.reduceLT,Int.reduceLE,Int.reduceAdd,Io,Im,If,Il,Jt,Jf,AC.rg,Jm,Jl,Ja,Fm,Fl,Fa,Imv,Imb,Iai,Iei,Igi,Isi,Ipf,Ipt,Ilb,Iia,Ilt,Iap,Ink,Iln,Ils,Iad,Iex,Ibx,Ing]
 refine zbK (fun x:Nat×Nat×Nat=>[(6,.int .i64 x.2.2),(7,.int .i64 x.1),(8,.int .i64 x.2.1)]) (fun x H=>zp9 (b 0) x.1 x.2.1 x.2.2∧H=za.emp) (fun J hJ=>?_) ?_
 ·simp(disch:=first|omega|assumption) only[steps,st2,pev,rev,oev,zN,zU,ye,yf,bound,zC,mm2,mk,zn,AV.cells,AV.boxable,AV.one,AV.strip1,zz,zy,Nat.reduceEqDiff,reduceCtorEq,↓reduceIte,Nat.reduceAdd,Int.reduceNeg,Nat.reduceLeDiff,Int.reduceToNat,Int.reduceEq,Int.reduceLT,Int.reduceLE,Int.reduceAdd]
  by_cases a1:(194:Int)≤b 0
  ·by_cases a2:(b 0:Int)<224
   ·have e:=zty (n:=b 0) (by omega)
    simp(disch:=first|omega|assumption) only[a1,a2,e,steps,st2,pev,rev,oev,zN,zU,ye,yf,bound,zC,mm2,mk,zn,AV.cells,AV.boxable,AV.one,AV.strip1,zz,zy,Nat.reduceEqDiff,reduceCtorEq,↓reduceIte,Nat.reduceAdd,Int.reduceNeg,Nat.reduceLeDiff,Int.reduceToNat,Int.reduceEq,Int.reduceLT,Int.reduceLE,Int.reduceAdd]
    exact goJ (hJ (2,128,b 0 % 32) _ ⟨.inl ⟨by omega,by omega,rfl,rfl,rfl⟩,rfl⟩) (by simp(disch:=first|omega|assumption) only[steps,st2,pev,rev,oev,zN,zU,ye,yf,bound,zC,mm2,mk,zn,AV.cells,AV.boxable,AV.one,AV.strip1,zz,zy,Nat.reduceEqDiff,reduceCtorEq,↓reduceIte,Nat.reduceAdd,Int.reduceNeg,Nat.reduceLeDiff,Int.reduceToNat,Int.reduceEq,Int.reduceLT,Int.reduceLE,Int.reduceAdd])
   ·by_cases a3:(b 0:Int)<240
    ·have a4:(224:Int)≤b 0:=by omega
     have e:=zsG (n:=b 0) (by omega)
     simp(disch:=first|omega|assumption) only[a1,a2,a3,a4,e,steps,st2,pev,rev,oev,zN,zU,ye,yf,bound,zC,mm2,mk,zn,AV.cells,AV.boxable,AV.one,AV.strip1,zz,zy,Nat.reduceEqDiff,reduceCtorEq,↓reduceIte,Nat.reduceAdd,Int.reduceNeg,Nat.reduceLeDiff,Int.reduceToNat,Int.reduceEq,Int.reduceLT,Int.reduceLE,Int.reduceAdd]
     exact goJ (hJ (3,2048,b 0 % 16) _ ⟨.inr (.inl ⟨by omega,by omega,rfl,rfl,rfl⟩),rfl⟩) (by simp(disch:=first|omega|assumption) only[steps,st2,pev,rev,oev,zN,zU,ye,yf,bound,zC,mm2,mk,zn,AV.cells,AV.boxable,AV.one,AV.strip1,zz,zy,Nat.reduceEqDiff,reduceCtorEq,↓reduceIte,Nat.reduceAdd,Int.reduceNeg,Nat.reduceLeDiff,Int.reduceToNat,Int.reduceEq,Int.reduceLT,Int.reduceLE,Int.reduceAdd])
    ·have a4:(224:Int)≤b 0:=by omega
     have a5:(240:Int)≤b 0:=by omega
     by_cases a6:(b 0:Int)<245
     ·have e:=and7 (n:=b 0) (by omega)
      simp(disch:=first|omega|assumption) only[a1,a2,a3,a4,a5,a6,e,steps,st2,pev,rev,oev,zN,zU,ye,yf,bound,zC,mm2,mk,zn,AV.cells,AV.boxable,AV.one,AV.strip1,zz,zy,Nat.reduceEqDiff,reduceCtorEq,↓reduceIte,Nat.reduceAdd,Int.reduceNeg,Nat.reduceLeDiff,Int.reduceToNat,Int.reduceEq,Int.reduceLT,Int.reduceLE,Int.reduceAdd]
      exact goJ (hJ (4,65536,b 0 % 8) _ ⟨.inr (.inr ⟨by omega,by omega,rfl,rfl,rfl⟩),rfl⟩) (by simp(disch:=first|omega|assumption) only[steps,st2,pev,rev,oev,zN,zU,ye,yf,bound,zC,mm2,mk,zn,AV.cells,AV.boxable,AV.one,AV.strip1,zz,zy,Nat.reduceEqDiff,reduceCtorEq,↓reduceIte,Nat.reduceAdd,Int.reduceNeg,Nat.reduceLeDiff,Int.reduceToNat,Int.reduceEq,Int.reduceLT,Int.reduceLE,Int.reduceAdd])
     ·rw[Lib.decodeN_bad _ _ _ _ _ (.inr ⟨by omega,hbl 0⟩),if_pos rfl] at hQ
      simp(disch:=first|omega|assumption) only[a1,a2,a3,a4,a5,a6,steps,st2,pev,rev,oev,zN,zU,ye,yf,bound,zC,mm2,mk,zn,AV.cells,AV.boxable,AV.one,AV.strip1,zz,zy,Nat.reduceEqDiff,reduceCtorEq,↓reduceIte,Nat.reduceAdd,Int.reduceNeg,Nat.reduceLeDiff,Int.reduceToNat,Int.reduceEq,Int.reduceLT,Int.reduceLE,Int.reduceAdd]
      exact hQ _ _ _ _ nofun rfl (by simp[zb,ze,AV.strip,AV.strip1])
  ·have a2:¬ (224:Int)≤b 0:=by omega
   have a3:¬ (240:Int)≤b 0:=by omega
   rw[Lib.decodeN_bad _ _ _ _ _ (.inl ⟨by omega,by omega⟩),if_pos rfl] at hQ
   simp(disch:=first|omega|assumption) only[a1,a2,a3,steps,st2,pev,rev,oev,zN,zU,ye,yf,bound,zC,mm2,mk,zn,AV.cells,AV.boxable,AV.one,AV.strip1,zz,zy,Nat.reduceEqDiff,reduceCtorEq,↓reduceIte,Nat.reduceAdd,Int.reduceNeg,Nat.reduceLeDiff,Int.reduceToNat,Int.reduceEq,Int.reduceLT,Int.reduceLE,Int.reduceAdd]
   exact hQ _ _ _ _ nofun rfl (by simp[zb,ze,AV.strip,AV.strip1])
 rintro⟨w,lo,v⟩ H ⟨hL,rfl⟩
 simp only at hL
 have hv:v<32∧2≤w∧w≤4∧lo≤65536:=by rcases hL with h|h|h<;>omega
 by_cases g:w≤s.length-i
 case neg =>
  have g':(s.length:Int)-i<w:=by omega
  rw[zmX hL (by omega),if_pos rfl] at hQ
  simp(disch:=first|omega|assumption) only[wrap64,g',steps,st2,pev,rev,oev,zN,zU,ye,yf,bound,zC,mm2,mk,zn,AV.cells,AV.boxable,AV.one,AV.strip1,zz,zy,Nat.reduceEqDiff,reduceCtorEq,↓reduceIte,Nat.reduceAdd,Int.reduceNeg,Nat.reduceLeDiff,Int.reduceToNat,Int.reduceEq,Int.reduceLT,Int.reduceLE,Int.reduceAdd]
  exact hQ _ _ _ _ nofun rfl (by simp[zb,ze,AV.strip,AV.strip1])
 have g':¬ (s.length:Int)-i<w:=by omega
 simp(disch:=first|omega|assumption) only[wrap64,g',steps,st2,pev,rev,oev,zN,zU,ye,yf,bound,zC,mm2,mk,zn,AV.cells,AV.boxable,AV.one,AV.strip1,zz,zy,Nat.reduceEqDiff,reduceCtorEq,↓reduceIte,Nat.reduceAdd,Int.reduceNeg,Nat.reduceLeDiff,Int.reduceToNat,Int.reduceEq,Int.reduceLT,Int.reduceLE,Int.reduceAdd]
 refine zI (fun j:Nat=>[(6,.int .i64 (cv v b j)),(9,.int .i64 (j+1:Nat))]) (fun j H=>j+1≤w∧(∀ k,1≤k→k<j+1→128≤b k∧b k≤191)∧cv v b j<32*64 ^ j) (fun j=>w-j) 0 (by simp(disch:=first|omega|assumption) only[cv,steps,st2,pev,rev,oev,zN,zU,ye,yf,bound,zC,mm2,mk,zn,AV.cells,AV.boxable,AV.one,AV.strip1,zz,zy,Nat.reduceEqDiff,reduceCtorEq,↓reduceIte,Nat.reduceAdd,Int.reduceNeg,Nat.reduceLeDiff,Int.reduceToNat,Int.reduceEq,Int.reduceLT,Int.reduceLE,Int.reduceAdd]) ⟨by omega,fun k h1 h2=>by omega,by simp[cv];omega⟩ ?_
 rintro j H J ⟨hj,hcont,hcv⟩ hJ
 have hcv2:cv v b j<8388608:=by
  have:j=0∨j=1∨j=2∨j=3:=by omega
  rcases this with rfl|rfl|rfl|rfl<;>omega
 by_cases hjw:j+1<w
 ·have hjw':((j+1:Nat):Int)<w:=by omega
  have hto:((i:Int)+((j+1:Nat):Int)).toNat=i+(j+1):=by omega
  have hi1:(0:Int)≤(i:Int)+((j+1:Nat):Int):=by omega
  have hi2:(i:Int)+((j+1:Nat):Int)<s.length:=by omega
  obtain⟨d,hd⟩:∃ d,s.getD (i+(j+1)) 0=d:=⟨_,rfl⟩
  have hdb:(d.toNat:Int)=(b (j+1):Nat):=by rw[← hd,← bk]
  have hb1:=hbl (j+1)
  have hw1:IntKind.wrap .i64 ((b (j+1):Nat):Int)=(b (j+1):Nat):=zbk (by omega)
  simp(disch:=first|omega|assumption) only[hjw',wrap64,hto,hi1,hi2,hd,hdb,hw1,steps,st2,pev,rev,oev,zN,zU,ye,yf,bound,zC,mm2,mk,zn,AV.cells,AV.boxable,AV.one,AV.strip1,zz,zy,Nat.reduceEqDiff,reduceCtorEq,↓reduceIte,Nat.reduceAdd,Int.reduceNeg,Nat.reduceLeDiff,Int.reduceToNat,Int.reduceEq,Int.reduceLT,Int.reduceLE,Int.reduceAdd]
  by_cases a1:((b (j+1):Nat):Int)<128
  ·rw[zjv hL (by omega) hjw (.inl (by omega)),if_pos rfl] at hQ
   simp(disch:=first|omega|assumption) only[a1,steps,st2,pev,rev,oev,zN,zU,ye,yf,bound,zC,mm2,mk,zn,AV.cells,AV.boxable,AV.one,AV.strip1,zz,zy,Nat.reduceEqDiff,reduceCtorEq,↓reduceIte,Nat.reduceAdd,Int.reduceNeg,Nat.reduceLeDiff,Int.reduceToNat,Int.reduceEq,Int.reduceLT,Int.reduceLE,Int.reduceAdd]
   exact hQ _ _ _ _ nofun rfl (by simp[zb,ze,AV.strip,AV.strip1])
  by_cases a2:(191:Int)<((b (j+1):Nat):Int)
  ·rw[zjv hL (by omega) hjw (.inr (by omega)),if_pos rfl] at hQ
   simp(disch:=first|omega|assumption) only[a1,a2,steps,st2,pev,rev,oev,zN,zU,ye,yf,bound,zC,mm2,mk,zn,AV.cells,AV.boxable,AV.one,AV.strip1,zz,zy,Nat.reduceEqDiff,reduceCtorEq,↓reduceIte,Nat.reduceAdd,Int.reduceNeg,Nat.reduceLeDiff,Int.reduceToNat,Int.reduceEq,Int.reduceLT,Int.reduceLE,Int.reduceAdd]
   exact hQ _ _ _ _ nofun rfl (by simp[zb,ze,AV.strip,AV.strip1])
  have e1:=zl5 (n:=b (j+1)) (by omega)
  have e2:IntKind.wrap .i64 ((cv v b j:Int)*2 ^ (min 6 IntKind.i64.bits))=((cv v b j*64:Nat):Int):=by
   have e3:(2:Int) ^ (min 6 IntKind.i64.bits)=64:=by decide
   rw[e3,wrap64 (by omega) (by omega)];omega
  have e4:=ztN (a:=cv v b j) (b:=b (j+1) % 64) (by omega) (Nat.mod_lt _ (by omega))
  simp(disch:=first|omega|assumption) only[a1,a2,e1,e2,e4,steps,st2,pev,rev,oev,zN,zU,ye,yf,bound,zC,mm2,mk,zn,AV.cells,AV.boxable,AV.one,AV.strip1,zz,zy,Nat.reduceEqDiff,reduceCtorEq,↓reduceIte,Nat.reduceAdd,Int.reduceNeg,Nat.reduceLeDiff,Int.reduceToNat,Int.reduceEq,Int.reduceLT,Int.reduceLE,Int.reduceAdd]
  have hpow:32*64 ^ (j+1)=64*(32*64 ^ j):=by rw[Nat.pow_succ];omega
  exact goJ (hJ (j+1) _ (by omega) ⟨by omega,fun k h1 h2=>by
   rcases Nat.lt_or_ge k (j+1) with h3|h3
   ·exact hcont k h1 h3
   ·have:k=j+1:=by omega
    subst this
    omega,by simp only[cv];omega⟩) (by simp(disch:=first|omega|assumption) only[wrap64,cv,Int.natCast_add,Int.natCast_one,steps,st2,pev,rev,oev,zN,zU,ye,yf,bound,zC,mm2,mk,zn,AV.cells,AV.boxable,AV.one,AV.strip1,zz,zy,Nat.reduceEqDiff,reduceCtorEq,↓reduceIte,Nat.reduceAdd,Int.reduceNeg,Nat.reduceLeDiff,Int.reduceToNat,Int.reduceEq,Int.reduceLT,Int.reduceLE,Int.reduceAdd])
 ·have hjw':¬ ((j+1:Nat):Int)<w:=by omega
  have hjw2:j=w-1:=by omega
  subst hjw2
  rw[znx hL g (fun k h1 h2=>hcont k h1 (by omega))] at hQ
  have hcvB:(IntKind.wrap .i64 ((cv v b (w-1):Nat):Int))=(cv v b (w-1):Nat):=zbk (by omega)
  by_cases x1:((cv v b (w-1):Nat):Int)<lo
  ·rw[if_pos (.inl (by omega))] at hQ
   simp(disch:=first|omega|assumption) only[hjw',x1,steps,st2,pev,rev,oev,zN,zU,ye,yf,bound,zC,mm2,mk,zn,AV.cells,AV.boxable,AV.one,AV.strip1,zz,zy,Nat.reduceEqDiff,reduceCtorEq,↓reduceIte,Nat.reduceAdd,Int.reduceNeg,Nat.reduceLeDiff,Int.reduceToNat,Int.reduceEq,Int.reduceLT,Int.reduceLE,Int.reduceAdd]
   exact hQ _ _ _ _ nofun rfl (by simp[zb,ze,AV.strip,AV.strip1])
  by_cases x2:(1114111:Int)<((cv v b (w-1):Nat):Int)
  ·rw[if_pos (.inr (.inl (by omega)))] at hQ
   simp(disch:=first|omega|assumption) only[hjw',x1,x2,steps,st2,pev,rev,oev,zN,zU,ye,yf,bound,zC,mm2,mk,zn,AV.cells,AV.boxable,AV.one,AV.strip1,zz,zy,Nat.reduceEqDiff,reduceCtorEq,↓reduceIte,Nat.reduceAdd,Int.reduceNeg,Nat.reduceLeDiff,Int.reduceToNat,Int.reduceEq,Int.reduceLT,Int.reduceLE,Int.reduceAdd]
   exact hQ _ _ _ _ nofun rfl (by simp[zb,ze,AV.strip,AV.strip1])
  by_cases x3:(55296:Int)≤((cv v b (w-1):Nat):Int)
  ·by_cases x4:((cv v b (w-1):Nat):Int)<57344
   ·rw[if_pos (.inr (.inr ⟨by omega,by omega⟩))] at hQ
    simp(disch:=first|omega|assumption) only[hjw',x1,x2,x3,x4,steps,st2,pev,rev,oev,zN,zU,ye,yf,bound,zC,mm2,mk,zn,AV.cells,AV.boxable,AV.one,AV.strip1,zz,zy,Nat.reduceEqDiff,reduceCtorEq,↓reduceIte,Nat.reduceAdd,Int.reduceNeg,Nat.reduceLeDiff,Int.reduceToNat,Int.reduceEq,Int.reduceLT,Int.reduceLE,Int.reduceAdd]
    exact hQ _ _ _ _ nofun rfl (by simp[zb,ze,AV.strip,AV.strip1])
   ·rw[if_neg (by omega)] at hQ
    simp(disch:=first|omega|assumption) only[hjw',x1,x2,x3,x4,steps,st2,pev,rev,oev,zN,zU,ye,yf,bound,zC,mm2,mk,zn,AV.cells,AV.boxable,AV.one,AV.strip1,zz,zy,Nat.reduceEqDiff,reduceCtorEq,↓reduceIte,Nat.reduceAdd,Int.reduceNeg,Nat.reduceLeDiff,Int.reduceToNat,Int.reduceEq,Int.reduceLT,Int.reduceLE,Int.reduceAdd]
    exact hQ _ _ _ _ nofun rfl (by simp[zb,ze,AV.strip,AV.strip1])
  ·rw[if_neg (by omega)] at hQ
   simp(disch:=first|omega|assumption) only[hjw',x1,x2,x3,steps,st2,pev,rev,oev,zN,zU,ye,yf,bound,zC,mm2,mk,zn,AV.cells,AV.boxable,AV.one,AV.strip1,zz,zy,Nat.reduceEqDiff,reduceCtorEq,↓reduceIte,Nat.reduceAdd,Int.reduceNeg,Nat.reduceLeDiff,Int.reduceToNat,Int.reduceEq,Int.reduceLT,Int.reduceLE,Int.reduceAdd]
   exact hQ _ _ _ _ nofun rfl (by simp[zb,ze,AV.strip,AV.strip1])
def cZ (l:List Int):List (List AV):=l.map fun n=>[.int .i64 n]
theorem zpe (l:List Int):(cZ l).length=l.length:=by simp[cZ]
def zaE:Nat→List UInt8→List Int
 | 0,_=>[]
 | k+1,l=>if l=[] then [] else ((ym l).1:Int)::zaE k (l.drop (ym l).2)
theorem zk6 (k:Nat):zaE k []=[]:=by cases k<;>simp[zaE]
def zcA (s:List UInt8):List Int:=if Lib.validD s then zaE s.length s else []
theorem zh2 {l:List UInt8} (hne:l≠[]) (h:(ym l).2=0):Lib.validD l=false:=by
 have hw:=Lib.decodeL_width l
 unfold ym at h
 rw[if_neg hne] at h
 split at h
 ·rename_i e
  rw[Lib.validD_step l hne,e];simp
 ·omega
theorem zdO {l:List UInt8} (hne:l≠[]) (h:(ym l).2≠0):Lib.validD l=Lib.validD (l.drop (ym l).2)∧(ym l).2≤l.length:=by
 unfold ym at h ⊢
 rw[if_neg hne] at h ⊢
 split at h
 ·simp at h
 ·rename_i e
  rw[if_neg e]
  refine⟨?_,Lib.decodeL_le l hne⟩
  rw[Lib.validD_step l hne,if_neg]
  rintro⟨a,b⟩
  exact e (Prod.ext a b)
theorem zsA (s:List UInt8) (hs:s.length≤Lim):zr Tryz.prog 252 [.str s] (.tup [.sl .no 1 (cZ (zcA s)),.bool (Lib.validD s)]):=by
 refine zr.go ir252 ck252 (Al4 _) fun KP Q hQ=>?_
 have hs':=hs
 simp only[Lim] at hs
 simp(disch:=first|omega|assumption) only[ir252,go_sem]
 refine zI (fun x:Own×List Int×Nat=>[(4,.sl x.1 1 (cZ x.2.1)),(5,.int .i64 x.2.2)])
  (fun x H=>x.2.2≤s.length∧x.2.1.length≤x.2.2∧zaE s.length s=x.2.1++zaE (s.length-x.2.1.length) (s.drop x.2.2)∧Lib.validD s=Lib.validD (s.drop x.2.2)∧OwnS za.emp .nil H x.1 x.2.1.length 1) (fun x=>s.length-x.2.2) (.nil,[],0) (by simp(disch:=first|omega|assumption) only[cZ,go_sem]) ⟨by simp,by simp,by simp,by simp,OwnS.refl rfl⟩ ?_
 rintro⟨o,acc,i⟩ H J ⟨hi,hai,hc,hv,hs1⟩ hJ
 simp only at hi hai hc hv hs1
 by_cases hlt:i<s.length
 case neg =>
  have hlt':¬ (i:Int)<s.length:=by omega
  rw[List.drop_of_length_le (by omega)] at hc hv
  rw[zk6,List.append_nil] at hc
  rw[Lib.validD_nil] at hv
  simp(disch:=first|omega|assumption) only[hlt',go_sem]
  exact hQ _ _ _ _ nofun rfl (by simp[zb,ze,AV.strip,AV.strip1,zcA,hv,hc])
 have hlt':(i:Int)<s.length:=by omega
 have hne:s.drop i≠[]:=fun e=>by have:=congrArg List.length e;simp at this;omega
 have hcl:=zpe acc
 simp(disch:=first|omega|assumption) only[hlt',go_sem]
 refine zd (zr.low (zqW s i hlt hs')) ?_
 by_cases h0:(ym (s.drop i)).2=0
 ·rw[zh2 hne h0] at hv
  have h0':((ym (s.drop i)).2:Int)=0:=by omega
  simp(disch:=first|omega|assumption) only[h0',go_sem]
  exact hQ _ _ _ _ nofun rfl (by simp[zb,ze,AV.strip,AV.strip1,zcA,hv,cZ])
 ·obtain⟨g1,g2⟩:=zdO hne h0
  rw[yH] at g2
  rw[List.drop_drop] at g1
  have h0':¬ ((ym (s.drop i)).2:Int)=0:=by omega
  simp(disch:=first|omega|assumption) only[h0',go_sem]
  refine zE (by rw[hcl];exact hs1.own) ?_ ?_ fun o' H' hs2=>?_
  ·simp only[hcl,Al2,Al3];omega
  ·simp only[hcl,Al2,Al3,maxLen];omega
  simp(disch:=first|omega|assumption) only[wrap64,go_sem]
  refine goJ (hJ (o',acc++[((ym (s.drop i)).1:Int)],i+(ym (s.drop i)).2) H' (by simp only;omega) ⟨by simp only;omega,by simp only[Al5,Al2,Al3];omega,?_,by rw[hv,g1],hs1.trans (by simpa[hcl] using hs2)⟩) (by simp(disch:=first|omega|assumption) only[cZ,List.map_append,Int.natCast_add,go_sem])
  rw[hc]
  obtain⟨k,hk⟩:∃ k,s.length-acc.length=k+1:=⟨s.length-acc.length-1,by omega⟩
  have hk2:s.length-(acc++[((ym (s.drop i)).1:Int)]).length=k:=by simp only[Al5,Al2,Al3];omega
  simp only[hk,hk2,zaE]
  rw[if_neg hne,List.drop_drop]
  simp
open Go.Lib
theorem zrV (n:Nat):(n:Int).fdiv (2 ^ min 6 IntKind.i64.bits)=((n / 64:Nat):Int):=by
 show (n:Int).fdiv 64=_
 rw[Int.fdiv_eq_ediv_of_nonneg _ (by omega)];omega
theorem zq4 (n:Nat):(n:Int).fdiv (2 ^ min 12 IntKind.i64.bits)=((n / 4096:Nat):Int):=by
 show (n:Int).fdiv 4096=_
 rw[Int.fdiv_eq_ediv_of_nonneg _ (by omega)];omega
theorem zsZ (n:Nat):(n:Int).fdiv (2 ^ min 18 IntKind.i64.bits)=((n / 262144:Nat):Int):=by
 show (n:Int).fdiv 262144=_
 rw[Int.fdiv_eq_ediv_of_nonneg _ (by omega)];omega
theorem orT:∀ x:Fin 64,(∀(b:Nat),b=128∨(b=192∧x.val<32)∨(b=224∧x.val<16)∨(b=240∧x.val<8)→IntKind.wrap .u8 (IntKind.wrap .i64 ((BitVec.ofInt IntKind.i64.bits (b:Int) ||| BitVec.ofInt IntKind.i64.bits ((x.val:Nat):Int)).toNat:Int))=((UInt8.ofNat (b+x.val)).toNat:Int)):=by
 intro x b hb
 have h1:∀ x:Fin 64,IntKind.wrap .u8 (IntKind.wrap .i64 ((BitVec.ofInt IntKind.i64.bits 128 ||| BitVec.ofInt IntKind.i64.bits ((x.val:Nat):Int)).toNat:Int))=((UInt8.ofNat (128+x.val)).toNat:Int):=by decide +kernel
 have h2:∀ x:Fin 32,IntKind.wrap .u8 (IntKind.wrap .i64 ((BitVec.ofInt IntKind.i64.bits 192 ||| BitVec.ofInt IntKind.i64.bits ((x.val:Nat):Int)).toNat:Int))=((UInt8.ofNat (192+x.val)).toNat:Int):=by decide +kernel
 have h3:∀ x:Fin 16,IntKind.wrap .u8 (IntKind.wrap .i64 ((BitVec.ofInt IntKind.i64.bits 224 ||| BitVec.ofInt IntKind.i64.bits ((x.val:Nat):Int)).toNat:Int))=((UInt8.ofNat (224+x.val)).toNat:Int):=by decide +kernel
 have h4:∀ x:Fin 8,IntKind.wrap .u8 (IntKind.wrap .i64 ((BitVec.ofInt IntKind.i64.bits 240 ||| BitVec.ofInt IntKind.i64.bits ((x.val:Nat):Int)).toNat:Int))=((UInt8.ofNat (240+x.val)).toNat:Int):=by decide +kernel
 rcases hb with rfl|⟨rfl,h⟩|⟨rfl,h⟩|⟨rfl,h⟩
 ·exact h1 x
 ·exact h2 ⟨x.val,h⟩
 ·exact h3 ⟨x.val,h⟩
 ·exact h4 ⟨x.val,h⟩
theorem zl0 {m:Nat} (h:m<64):IntKind.wrap .u8 (IntKind.wrap .i64 ((BitVec.ofInt IntKind.i64.bits 128 ||| BitVec.ofInt IntKind.i64.bits (m:Int)).toNat:Int))=((UInt8.ofNat (128+m)).toNat:Int):=orT ⟨m,h⟩ 128 (.inl rfl)
theorem zsV {m:Nat} (h:m<32):IntKind.wrap .u8 (IntKind.wrap .i64 ((BitVec.ofInt IntKind.i64.bits 192 ||| BitVec.ofInt IntKind.i64.bits (m:Int)).toNat:Int))=((UInt8.ofNat (192+m)).toNat:Int):=orT ⟨m,by omega⟩ 192 (.inr (.inl ⟨rfl,h⟩))
theorem zsT {m:Nat} (h:m<16):IntKind.wrap .u8 (IntKind.wrap .i64 ((BitVec.ofInt IntKind.i64.bits 224 ||| BitVec.ofInt IntKind.i64.bits (m:Int)).toNat:Int))=((UInt8.ofNat (224+m)).toNat:Int):=orT ⟨m,by omega⟩ 224 (.inr (.inr (.inl ⟨rfl,h⟩)))
theorem ztE {m:Nat} (h:m<8):IntKind.wrap .u8 (IntKind.wrap .i64 ((BitVec.ofInt IntKind.i64.bits 240 ||| BitVec.ofInt IntKind.i64.bits (m:Int)).toNat:Int))=((UInt8.ofNat (240+m)).toNat:Int):=orT ⟨m,by omega⟩ 240 (.inr (.inr (.inr ⟨rfl,h⟩)))
theorem zpY (n:Nat) (h:n≤1114111):zr Tryz.prog 298 [.int .i64 n] (.str (Zz n)):=by
 refine zr.go ir298 ck298 (Al4 _) fun KP Q hQ=>?_
 by_cases h1:n<128
 ·have h1':((n:Int)<128)=True:=eq_true (by omega)
  have e:IntKind.wrap .u8 (n:Int)=((UInt8.ofNat n).toNat:Int):=by rw[wr8,UInt8.toNat_ofNat']
  have e2:zdh [[.int .u8 (UInt8.ofNat n).toNat]]=some [UInt8.ofNat n]:=zaU [_]
  simp(disch:=first|omega|assumption) only[ir298,h1',e,e2,steps,st2,pev,rev,oev,zN,zU,ye,yf,bound,zC,mm2,mk,zn,AV.cells,AV.boxable,AV.one,AV.strip1,zz,zy,Nat.reduceEqDiff,reduceCtorEq,↓reduceIte,Nat.reduceAdd,Int.reduceNeg,Nat.reduceLeDiff,Int.reduceToNat,Int.reduceEq,Int.reduceLT,Int.reduceLE,Int.reduceAdd,Io,Im,If,Il,Jt,Jf,AC.rg,Jm,Jl,Ja,Fm,Fl,Fa,Imv,Imb,Iai,Iei,Igi,Isi,Ipf,Ipt,Ilb,Iia,Ilt,Iap,Ink,Iln,Ils,Iad,Iex,Ibx,Ing]
  exact hQ _ _ _ _ nofun rfl (by simp[zb,ze,AV.strip,AV.strip1,Zz,show n≤127 by omega])
 have h1':¬ ((n:Int)<128):=by omega
 have a0:=zl5 (n:=n) (by omega)
 by_cases h2:n<2048
 ·have h2':((n:Int)<2048)=True:=eq_true (by omega)
  have e2:zdh [[.int .u8 (UInt8.ofNat (192+n / 64)).toNat],[.int .u8 (UInt8.ofNat (128+n % 64)).toNat]]=some [UInt8.ofNat (192+n / 64),UInt8.ofNat (128+n % 64)]:=zaU [_,_]
  have o1:=zsV (m:=n / 64) (by omega)
  have o2:=zl0 (m:=n % 64) (by omega)
  simp(disch:=first|omega|assumption) only[ir298,h1',h2',zrV,a0,o1,o2,e2,steps,st2,pev,rev,oev,zN,zU,ye,yf,bound,zC,mm2,mk,zn,AV.cells,AV.boxable,AV.one,AV.strip1,zz,zy,Nat.reduceEqDiff,reduceCtorEq,↓reduceIte,Nat.reduceAdd,Int.reduceNeg,Nat.reduceLeDiff,Int.reduceToNat,Int.reduceEq,Int.reduceLT,Int.reduceLE,Int.reduceAdd,Io,Im,If,Il,Jt,Jf,AC.rg,Jm,Jl,Ja,Fm,Fl,Fa,Imv,Imb,Iai,Iei,Igi,Isi,Ipf,Ipt,Ilb,Iia,Ilt,Iap,Ink,Iln,Ils,Iad,Iex,Ibx,Ing]
  exact hQ _ _ _ _ nofun rfl (by simp[zb,ze,AV.strip,AV.strip1,Zz,show ¬ n≤127 by omega,show n≤2047 by omega])
 have h2':¬ ((n:Int)<2048):=by omega
 have a1:=zl5 (n:=n / 64) (by omega)
 have o2:=zl0 (m:=n % 64) (by omega)
 have o3:=zl0 (m:=n / 64 % 64) (by omega)
 by_cases h3:n<65536
 ·have h3':((n:Int)<65536)=True:=eq_true (by omega)
  have e2:zdh [[.int .u8 (UInt8.ofNat (224+n / 4096)).toNat],[.int .u8 (UInt8.ofNat (128+n / 64 % 64)).toNat],[.int .u8 (UInt8.ofNat (128+n % 64)).toNat]]=some [UInt8.ofNat (224+n / 4096),UInt8.ofNat (128+n / 64 % 64),UInt8.ofNat (128+n % 64)]:=zaU [_,_,_]
  have o1:=zsT (m:=n / 4096) (by omega)
  simp(disch:=first|omega|assumption) only[ir298,h1',h2',h3',zrV,zq4,a0,a1,o1,o2,o3,e2,steps,st2,pev,rev,oev,zN,zU,ye,yf,bound,zC,mm2,mk,zn,AV.cells,AV.boxable,AV.one,AV.strip1,zz,zy,Nat.reduceEqDiff,reduceCtorEq,↓reduceIte,Nat.reduceAdd,Int.reduceNeg,Nat.reduceLeDiff,Int.reduceToNat,Int.reduceEq,Int.reduceLT,Int.reduceLE,Int.reduceAdd,Io,Im,If,Il,Jt,Jf,AC.rg,Jm,Jl,Ja,Fm,Fl,Fa,Imv,Imb,Iai,Iei,Igi,Isi,Ipf,Ipt,Ilb,Iia,Ilt,Iap,Ink,Iln,Ils,Iad,Iex,Ibx,Ing]
  exact hQ _ _ _ _ nofun rfl (by simp[zb,ze,AV.strip,AV.strip1,Zz,show ¬ n≤127 by omega,show ¬ n≤2047 by omega,show n≤65535 by omega])
 have h3':¬ ((n:Int)<65536):=by omega
 have a2:=zl5 (n:=n / 4096) (by omega)
 have o4:=zl0 (m:=n / 4096 % 64) (by omega)
 have o1:=ztE (m:=n / 262144) (by omega)
 have e2:zdh [[.int .u8 (UInt8.ofNat (240+n / 262144)).toNat],[.int .u8 (UInt8.ofNat (128+n / 4096 % 64)).toNat],[.int .u8 (UInt8.ofNat (128+n / 64 % 64)).toNat],[.int .u8 (UInt8.ofNat (128+n % 64)).toNat]]=some [UInt8.ofNat (240+n / 262144),UInt8.ofNat (128+n / 4096 % 64),UInt8.ofNat (128+n / 64 % 64),UInt8.ofNat (128+n % 64)]:=zaU [_,_,_,_]
 simp(disch:=first|omega|assumption) only[ir298,h1',h2',h3',zrV,zq4,zsZ,a0,a1,a2,o1,o2,o3,o4,e2,steps,st2,pev,rev,oev,zN,zU,ye,yf,bound,zC,mm2,mk,zn,AV.cells,AV.boxable,AV.one,AV.strip1,zz,zy,Nat.reduceEqDiff,reduceCtorEq,↓reduceIte,Nat.reduceAdd,Int.reduceNeg,Nat.reduceLeDiff,Int.reduceToNat,Int.reduceEq,Int.reduceLT,Int.reduceLE,Int.reduceAdd,Io,Im,If,Il,Jt,Jf,AC.rg,Jm,Jl,Ja,Fm,Fl,Fa,Imv,Imb,Iai,Iei,Igi,Isi,Ipf,Ipt,Ilb,Iia,Ilt,Iap,Ink,Iln,Ils,Iad,Iex,Ibx,Ing]
 exact hQ _ _ _ _ nofun rfl (by simp[zb,ze,AV.strip,AV.strip1,Zz,show ¬ n≤127 by omega,show ¬ n≤2047 by omega,show ¬ n≤65535 by omega])
theorem zob (us:List Nat) (hl:us.length≤68719476736):zr Tryz.prog 304 [.sl .no 1 (cU us)] (.tup [.str ((zX us).getD []),.bool (zX us).isSome]):=by
 refine zr.go ir304 ck304 (Al4 _) fun KP Q hQ=>?_
 have hll:=ziw us
 simp(disch:=first|omega|assumption) only[ir304,go_sem]
 refine zI (fun s:List Nat×List Nat×List UInt8=>[(4,.str s.2.2),(5,.int .i64 s.1.length)]) (fun s H=>us=s.1++s.2.1∧zX us=(zX s.2.1).map (s.2.2++·)∧s.2.2.length≤2*s.1.length*2) (fun s=>s.2.1.length) ([],us,[]) (by simp(disch:=first|omega|assumption) only[go_sem]) ⟨rfl,by cases zX us<;>rfl,by simp⟩ ?_
 rintro⟨done,rest,out⟩ H J ⟨hd,hj,hle⟩ hJ
 simp only at hd hj hle
 have hdl:done.length+rest.length=us.length:=by rw[hd];simp
 cases rest with
 | nil =>
  simp only[List.append_nil] at hd
  have hlt:¬ ((done.length:Int)<us.length):=by rw[hd];omega
  simp(disch:=first|omega|assumption) only[hll,hlt,go_sem]
  simp only[zX,yS,List.append_nil] at hj
  exact hQ _ _ _ _ nofun rfl (by simp[zb,ze,AV.strip,AV.strip1,hj])
 | cons u r =>
  have hlt:((done.length:Int)<us.length):=by simp at hdl;omega
  have hg:(cU us).getD done.length []=[.int .i64 u]:=by rw[hd];simp[cU]
  have hu0:¬ ((u:Int)<0):=by omega
  have hrl:r.length+1+done.length=us.length:=by simp at hdl;omega
  have none_of:zX (u::r)=none→zX us=none:=fun e=>by rw[hj,e];rfl
  by_cases a1:65535<u
  ·have e:=none_of (by rw[zX.eq_def];simp only;rw[if_pos (.inl a1)])
   have a1':((65535:Int)<u)=True:=eq_true (by omega)
   simp(disch:=first|omega|assumption) only[hll,hlt,hg,hu0,a1',go_sem]
   exact hQ _ _ _ _ nofun rfl (by simp[zb,ze,AV.strip,AV.strip1,e])
  have a1':¬ ((65535:Int)<u):=by omega
  by_cases a2:56320≤u∧u≤57343
  ·have e:=none_of (by rw[zX.eq_def];simp only;rw[if_pos (.inr a2)])
   have a2':((56320:Int)≤u)=True:=eq_true (by omega)
   have a3':((u:Int)<57344)=True:=eq_true (by omega)
   simp(disch:=first|omega|assumption) only[hll,hlt,hg,hu0,a1',a2',a3',go_sem]
   exact hQ _ _ _ _ nofun rfl (by simp[zb,ze,AV.strip,AV.strip1,e])
  by_cases a3:55296≤u∧u<56320
  ·have b1:¬ ((56320:Int)≤u):=by omega
   have b2:((55296:Int)≤u)=True:=eq_true (by omega)
   have b3:((u:Int)<56320)=True:=eq_true (by omega)
   cases r with
   | nil =>
    have e:=none_of (by rw[zX.eq_def];simp only;rw[if_neg (by omega),if_pos a3])
    have b4:((us.length:Int)≤(done.length:Int)+1)=True:=eq_true (by simp at hrl;omega)
    simp(disch:=first|omega|assumption) only[hll,hlt,hg,hu0,a1',b1,b2,b3,wrap64,b4,go_sem]
    exact hQ _ _ _ _ nofun rfl (by simp[zb,ze,AV.strip,AV.strip1,e])
   | cons v r =>
    have b4:¬ ((us.length:Int)≤(done.length:Int)+1):=by simp at hrl;omega
    have b5:((done.length:Int)+1<us.length):=by simp at hrl;omega
    have b6:((done.length:Int)+1).toNat=done.length+1:=by omega
    have hg2:(cU us).getD (done.length+1) []=[.int .i64 v]:=by rw[hd];simp[cU]
    by_cases c1:v<56320
    ·have e:=none_of (by rw[zX.eq_def];simp only;rw[if_neg (by omega),if_pos a3,if_pos (.inl c1)])
     have c1':((v:Int)<56320)=True:=eq_true (by omega)
     simp(disch:=first|omega|assumption) only[hll,hlt,hg,hu0,a1',b1,b2,b3,wrap64,b4,b5,b6,hg2,c1',go_sem]
     exact hQ _ _ _ _ nofun rfl (by simp[zb,ze,AV.strip,AV.strip1,e])
    have c1':¬ ((v:Int)<56320):=by omega
    by_cases c2:57343<v
    ·have e:=none_of (by rw[zX.eq_def];simp only;rw[if_neg (by omega),if_pos a3,if_pos (.inr c2)])
     have c2':((57344:Int)≤v)=True:=eq_true (by omega)
     simp(disch:=first|omega|assumption) only[hll,hlt,hg,hu0,a1',b1,b2,b3,wrap64,b4,b5,b6,hg2,c1',c2',go_sem]
     exact hQ _ _ _ _ nofun rfl (by simp[zb,ze,AV.strip,AV.strip1,e])
    have c2':¬ ((57344:Int)≤v):=by omega
    have ej:zX (u::v::r)=(zX r).map (Zz (65536+1024*(u-55296)+(v-56320))++·):=by rw[zX.eq_def];simp only;rw[if_neg (by omega),if_pos a3,if_neg (by omega)]
    obtain⟨m,hm⟩:∃ m,65536+1024*(u-55296)+(v-56320)=m:=⟨_,rfl⟩
    rw[hm] at ej
    have w1:IntKind.wrap .i64 ((u:Int)-55296)=(u:Int)-55296:=wrap64 (by omega) (by omega)
    have w2:IntKind.wrap .i64 (1024*((u:Int)-55296))=1024*((u:Int)-55296):=wrap64 (by omega) (by omega)
    have w3:IntKind.wrap .i64 (65536+1024*((u:Int)-55296))=65536+1024*((u:Int)-55296):=wrap64 (by omega) (by omega)
    have w4:IntKind.wrap .i64 (65536+1024*((u:Int)-55296)+v)=65536+1024*((u:Int)-55296)+v:=wrap64 (by omega) (by omega)
    have w5:IntKind.wrap .i64 (65536+1024*((u:Int)-55296)+v-56320)=(m:Int):=by rw[wrap64 (by omega) (by omega)];omega
    have hm3:=(Y7 m).1
    have hdw:IntKind.wrap .i64 ((done.length:Int)+1)=(done.length:Int)+1:=wrap64 (by omega) (by omega)
    have hdw2:IntKind.wrap .i64 ((done.length:Int)+1+1)=(done.length:Int)+1+1:=wrap64 (by omega) (by omega)
    simp(disch:=first|omega|assumption) only[hll,hlt,hg,hu0,a1',b1,b2,b3,hdw,b4,b5,b6,hg2,c1',c2',w1,w2,w3,w4,w5,go_sem]
    refine zd (zpY m (by omega)) ?_
    have e5:(((done++[u,v]).length:Nat):Int)=(done.length:Int)+1+1:=by simp;omega
    have nx:=hJ (done++[u,v],r,out++Zz m) H (by simp;omega) ⟨by simp[hd],by simp only[hj,ej];cases zX r<;>simp,by simp;omega⟩
    simp(disch:=first|omega|assumption) only[hdw2,Al5,go_sem]
    exact goJ nx (by simp(disch:=first|omega|assumption) only[e5,go_sem])
  have ej:zX (u::r)=(zX r).map (Zz u++·):=by
   rw[zX.eq_def];simp only;rw[if_neg (by omega),if_neg a3]
  have hm3:=(Y7 u).1
  have e5:(((done++[u]).length:Nat):Int)=(done.length:Int)+1:=by simp
  have hdw:IntKind.wrap .i64 ((done.length:Int)+1)=(done.length:Int)+1:=wrap64 (by omega) (by omega)
  have nx:=hJ (done++[u],r,out++Zz u) H (by simp) ⟨by simp[hd],by simp only[hj,ej];cases zX r<;>simp,by simp;omega⟩
  by_cases h:u<55296
  ·have b1:¬ ((56320:Int)≤u):=by omega
   have b2:¬ ((55296:Int)≤u):=by omega
   simp(disch:=first|omega|assumption) only[hll,hlt,hg,hu0,a1',b1,b2,go_sem]
   refine zd (zpY u (by omega)) ?_
   simp(disch:=first|omega|assumption) only[hdw,Al5,go_sem]
   exact goJ nx (by simp(disch:=first|omega|assumption) only[e5,go_sem])
  ·have b1:((56320:Int)≤u)=True:=eq_true (by omega)
   have b2:¬ ((u:Int)<57344):=by omega
   have b3:((55296:Int)≤u)=True:=eq_true (by omega)
   have b4:¬ ((u:Int)<56320):=by omega
   simp(disch:=first|omega|assumption) only[hll,hlt,hg,hu0,a1',b1,b2,b3,b4,go_sem]
   refine zd (zpY u (by omega)) ?_
   simp(disch:=first|omega|assumption) only[hdw,Al5,go_sem]
   exact goJ nx (by simp(disch:=first|omega|assumption) only[e5,go_sem])
end Go.Proofs.YticbbfbpeimkbaaGreatDoor
namespace Go.Proofs.YticbbfbpeimkbaaGreatDoor
open Go.Ab
theorem wrap_u8 {x:Int} (h0:0≤x) (h1:x<256):IntKind.wrap .u8 x=x:=by
 unfold IntKind.wrap
 simp[IntKind.signed,IntKind.bits]
 omega
open Go.Lib
theorem zkN (s:List UInt8) (c:UInt8) (hs:s.length≤Lim):zr Tryz.prog 254 [.str s,.int .u8 c.toNat] (.int .i64 (Lib.indexByte s c)):=by
 refine zr.go ir254 ck254 (Al4 _) fun KP Q hQ=>?_
 simp only[Lim] at hs
 have none:∀ l:List UInt8,c ∉ l→Lib.indexByte l c=-1:=fun l=>by
  induction l with
  | nil=>intro _;rfl
  | cons b l ih =>
   intro h
   have h1:¬ b=c:=fun e=>h (by simp[e])
   have h2:=ih fun e=>h (by simp[e])
   simp[Lib.indexByte,h1,h2]
 have at':∀(l r:List UInt8),c ∉ l→Lib.indexByte (l++c::r) c=l.length:=fun l=>by
  induction l with
  | nil=>intro r _;simp[Lib.indexByte]
  | cons b l ih =>
   intro r h
   have h1:¬ b=c:=fun e=>h (by simp[e])
   have h2:=ih r fun e=>h (by simp[e])
   simp only[Al6,Lib.indexByte,h2]
   simp[h1]
   try omega
 simp(disch:=first|omega|assumption) only[ir254,go_sem]
 refine Zf s 5 (fun _:Unit=>[]) (fun done rest _ H'=>c ∉ done) () (by simp(disch:=first|omega|assumption) only[go_sem]) (by simp) ?_ ?_
 ·rintro _ H2 J hn hlt
  simp(disch:=first|omega|assumption) only[hlt,go_sem]
  exact hQ _ _ _ _ nofun rfl (by simp[zb,ze,AV.strip,AV.strip1,none s hn])
 ·rintro done x rest _ H2 J hd hlt hlt2 hn hJ
  have hg:=zpi hd
  by_cases hx:x=c
  ·subst hx
   have e:=at' done rest hn
   rw[← hd] at e
   simp(disch:=first|omega|assumption) only[hlt,hg,go_sem]
   exact hQ _ _ _ _ nofun rfl (by simp[zb,ze,AV.strip,AV.strip1,e])
  ·have hx':¬ ((x.toNat:Int)=c.toNat):=by rw[ztj];exact hx
   have nx:=hJ () H2 (by simp only[List.mem_append,List.mem_singleton,not_or];exact⟨hn,fun e=>hx e.symm⟩)
   simp(disch:=first|omega|assumption) only[hlt,hg,hx',wrap64,go_sem]
   exact goJ nx (by simp(disch:=first|omega|assumption) only[go_sem])
theorem zpx (c:UInt8):hexD c=if 48≤c.toNat∧c.toNat≤57 then some (c.toNat-48) else if 97≤c.toNat∧c.toNat≤102 then some (c.toNat-87) else if 65≤c.toNat∧c.toNat≤70 then some (c.toNat-55) else none :=
 zdE (P:=fun c=>hexD c=if 48≤c.toNat∧c.toNat≤57 then some (c.toNat-48) else if 97≤c.toNat∧c.toNat≤102 then some (c.toNat-87) else if 65≤c.toNat∧c.toNat≤70 then some (c.toNat-55) else none) (by decide +kernel) c
theorem zr0 {a b:Nat} (ha:a<16777216) (hb:b<16):IntKind.wrap .i64 ((BitVec.ofInt IntKind.i64.bits ((a*16:Nat):Int) ||| BitVec.ofInt IntKind.i64.bits (b:Int)).toNat:Int)=((a*16+b:Nat):Int):=by
 have e:(BitVec.ofInt IntKind.i64.bits ((a*16:Nat):Int) ||| BitVec.ofInt IntKind.i64.bits (b:Int)).toNat=a*16+b:=by
  rw[BitVec.toNat_or]
  show (BitVec.ofInt 64 ((a*16:Nat):Int)).toNat ||| (BitVec.ofInt 64 (b:Int)).toNat=_
  rw[ZC (by omega),ZC (by omega)]
  have:=Nat.two_pow_add_eq_or_of_lt (i:=4) (b:=b) (by omega) a
  rw[show (2:Nat) ^ 4=16 by rfl] at this
  rw[Nat.mul_comm a 16,this]
 rw[e]
 exact zbk (by omega)
theorem ztO {a:Nat} (ha:a<16777216):IntKind.wrap .i64 ((a:Int)*2 ^ min 4 IntKind.i64.bits)=((a*16:Nat):Int):=by
 show IntKind.wrap .i64 ((a:Int)*16)=_
 rw[wrap64 (by omega) (by omega)];omega
def zj0 (x:Option Nat):Int:=match x with|some u=>u|none=>-1
theorem zsf (s:List UInt8) (i:Nat) (hi:i≤s.length) (hs:s.length≤Lim):zr Tryz.prog 303 [.str s,.int .i64 i] (.int .i64 (zj0 (Yb (s.drop i)))):=by
 refine zr.go ir303 ck303 (Al4 _) fun KP Q hQ=>?_
 simp only[Lim] at hs
 have w0:IntKind.wrap .i64 ((s.length:Int)-i)=(s.length:Int)-i:=wrap64 (by omega) (by omega)
 by_cases h4:s.length<i+4
 ·have h4':((s.length:Int)-i<4)=True:=eq_true (by omega)
  have e:Yb (s.drop i)=none:=by
   cases hu:Yb (s.drop i) with
   | none=>rfl
   | some u=>have:=zau _ _ _ _ hu;simp at this;omega
  simp(disch:=first|omega|assumption) only[ir303,w0,h4',steps,st2,pev,rev,oev,zN,zU,ye,yf,bound,zC,mm2,mk,zn,AV.cells,AV.boxable,AV.one,AV.strip1,zz,zy,Nat.reduceEqDiff,reduceCtorEq,↓reduceIte,Nat.reduceAdd,Int.reduceNeg,Nat.reduceLeDiff,Int.reduceToNat,Int.reduceEq,Int.reduceLT,Int.reduceLE,Int.reduceAdd,Io,Im,If,Il,Jt,Jf,AC.rg,Jm,Jl,Ja,Fm,Fl,Fa,Imv,Imb,Iai,Iei,Igi,Isi,Ipf,Ipt,Ilb,Iia,Ilt,Iap,Ink,Iln,Ils,Iad,Iex,Ibx,Ing]
  exact hQ _ _ _ _ nofun rfl (by simp[zb,ze,AV.strip,AV.strip1,e,zj0])
 have h4':¬ ((s.length:Int)-i<4):=by omega
 have w1:IntKind.wrap .i64 ((i:Int)+4)=(i:Int)+4:=wrap64 (by omega) (by omega)
 simp(disch:=first|omega|assumption) only[ir303,w0,h4',w1,steps,st2,pev,rev,oev,zN,zU,ye,yf,bound,zC,mm2,mk,zn,AV.cells,AV.boxable,AV.one,AV.strip1,zz,zy,Nat.reduceEqDiff,reduceCtorEq,↓reduceIte,Nat.reduceAdd,Int.reduceNeg,Nat.reduceLeDiff,Int.reduceToNat,Int.reduceEq,Int.reduceLT,Int.reduceLE,Int.reduceAdd,Io,Im,If,Il,Jt,Jf,AC.rg,Jm,Jl,Ja,Fm,Fl,Fa,Imv,Imb,Iai,Iei,Igi,Isi,Ipf,Ipt,Ilb,Iia,Ilt,Iap,Ink,Iln,Ils,Iad,Iex,Ibx,Ing]
 refine zI (fun x:Nat×Nat=>[(5,.int .i64 (x.2:Int)),(6,.int .i64 ((i+x.1:Nat):Int))]) (fun x H'=>x.1≤4∧x.2<65536∧x.2<16 ^ x.1∧Yb (s.drop i)=ZN (4-x.1) (s.drop (i+x.1)) x.2) (fun x=>4-x.1) (0,0) (by simp(disch:=first|omega|assumption) only[Nat.add_zero,steps,st2,pev,rev,oev,zN,zU,ye,yf,bound,zC,mm2,mk,zn,AV.cells,AV.boxable,AV.one,AV.strip1,zz,zy,Nat.reduceEqDiff,reduceCtorEq,↓reduceIte,Nat.reduceAdd,Int.reduceNeg,Nat.reduceLeDiff,Int.reduceToNat,Int.reduceEq,Int.reduceLT,Int.reduceLE,Int.reduceAdd]) ⟨by simp,by simp,by simp,rfl⟩ ?_
 rintro⟨k,a⟩ H' J ⟨hk,ha,hp,hu⟩ hJ
 simp only at hk ha hp hu
 by_cases h1:k=4
 ·subst h1
  have h2:¬ (((i+4:Nat):Int)<(i:Int)+4):=by omega
  simp only[Nat.sub_self,ZN] at hu
  simp(disch:=first|omega|assumption) only[h2,w1,steps,st2,pev,rev,oev,zN,zU,ye,yf,bound,zC,mm2,mk,zn,AV.cells,AV.boxable,AV.one,AV.strip1,zz,zy,Nat.reduceEqDiff,reduceCtorEq,↓reduceIte,Nat.reduceAdd,Int.reduceNeg,Nat.reduceLeDiff,Int.reduceToNat,Int.reduceEq,Int.reduceLT,Int.reduceLE,Int.reduceAdd]
  exact hQ _ _ _ _ nofun rfl (by simp[zb,ze,AV.strip,AV.strip1,hu,zj0])
 ·have h2:(((i+k:Nat):Int)<(i:Int)+4)=True:=eq_true (by omega)
  have hl:i+k<s.length:=by omega
  have hl':(((i+k:Nat):Int)<s.length)=True:=eq_true (by omega)
  have hl0:((0:Int)≤((i+k:Nat):Int))=True:=eq_true (by omega)
  obtain⟨c,hc⟩:∃ c,s[i+k]?=some c:=⟨_,Al9 hl⟩
  have hg:s.getD (i+k) 0=c:=by simp[List.getD,hc]
  have hdr:s.drop (i+k)=c::s.drop (i+k+1):=by
   rw[List.drop_eq_getElem_cons hl]
   have:=Al9 hl
   rw[hc] at this;rw[← Option.some.inj this]
  have hk1:4-k=(4-(k+1))+1:=by omega
  rw[hdr,hk1,ZN] at hu
  have pw:(16:Nat) ^ k≤4096:=by
   have:k=0∨k=1∨k=2∨k=3:=by omega
   rcases this with rfl|rfl|rfl|rfl<;>decide
  have hw:IntKind.wrap .i64 (((i+k:Nat):Int)+1)=((i+(k+1):Nat):Int):=by rw[wrap64 (by omega) (by omega)];omega
  have hsh:=ztO (a:=a) (by omega)
  have hcl:=c.toNat_lt
  have hx:=zpx c
  have step:∀ d,d<16→hexD c=some d→J ((ZF _ [(5,.int .i64 ((a*16+d:Nat):Int)),(6,.int .i64 ((i+(k+1):Nat):Int))]).keep [0,1,5,6]) H':=fun d hd e=>by
   have e1:a*16+d=16*a+d:=by omega
   refine hJ (k+1,a*16+d) H' (by simp;omega) ⟨by simp;omega,by simp;omega,?_,?_⟩
   ·simp only[Nat.pow_succ];omega
   ·rw[hu,e];simp only;rw[e1];rfl
  by_cases d1:48≤c.toNat∧c.toNat≤57
  ·have e1:isD c=true:=by simp[isD,d1]
   rw[if_pos d1] at hx
   have o1:=zr0 (a:=a) (b:=c.toNat-48) (by omega) (by omega)
   have s1:IntKind.wrap .i64 (IntKind.wrap .u8 ((c.toNat:Int)-48))=((c.toNat-48:Nat):Int):=by
    rw[wrap_u8 (by omega) (by omega),wrap64 (by omega) (by omega)];omega
   simp(disch:=first|omega|assumption) only[h2,hl',hl0,hg,w1,steps,st2,pev,rev,oev,zN,zU,ye,yf,bound,zC,mm2,mk,zn,AV.cells,AV.boxable,AV.one,AV.strip1,zz,zy,Nat.reduceEqDiff,reduceCtorEq,↓reduceIte,Nat.reduceAdd,Int.reduceNeg,Nat.reduceLeDiff,Int.reduceToNat,Int.reduceEq,Int.reduceLT,Int.reduceLE,Int.reduceAdd]
   refine zd (zga c) ?_
   rw[e1]
   simp(disch:=first|omega|assumption) only[hsh,s1,o1,hw,steps,st2,pev,rev,oev,zN,zU,ye,yf,bound,zC,mm2,mk,zn,AV.cells,AV.boxable,AV.one,AV.strip1,zz,zy,Nat.reduceEqDiff,reduceCtorEq,↓reduceIte,Nat.reduceAdd,Int.reduceNeg,Nat.reduceLeDiff,Int.reduceToNat,Int.reduceEq,Int.reduceLT,Int.reduceLE,Int.reduceAdd]
   exact goJ (step _ (by omega) hx) (by simp(disch:=first|omega|assumption) only[steps,st2,pev,rev,oev,zN,zU,ye,yf,bound,zC,mm2,mk,zn,AV.cells,AV.boxable,AV.one,AV.strip1,zz,zy,Nat.reduceEqDiff,reduceCtorEq,↓reduceIte,Nat.reduceAdd,Int.reduceNeg,Nat.reduceLeDiff,Int.reduceToNat,Int.reduceEq,Int.reduceLT,Int.reduceLE,Int.reduceAdd])
  ·have e1:isD c=false:=by simp[isD];omega
   rw[if_neg d1] at hx
   simp(disch:=first|omega|assumption) only[h2,hl',hl0,hg,w1,steps,st2,pev,rev,oev,zN,zU,ye,yf,bound,zC,mm2,mk,zn,AV.cells,AV.boxable,AV.one,AV.strip1,zz,zy,Nat.reduceEqDiff,reduceCtorEq,↓reduceIte,Nat.reduceAdd,Int.reduceNeg,Nat.reduceLeDiff,Int.reduceToNat,Int.reduceEq,Int.reduceLT,Int.reduceLE,Int.reduceAdd]
   refine zd (zga c) ?_
   rw[e1]
   by_cases d2:97≤c.toNat∧c.toNat≤102
   ·rw[if_pos d2] at hx
    have o1:=zr0 (a:=a) (b:=c.toNat-87) (by omega) (by omega)
    have g1:((97:Int)≤c.toNat)=True:=eq_true (by omega)
    have g2:((c.toNat:Int)≤102)=True:=eq_true (by omega)
    have s1:IntKind.wrap .i64 (IntKind.wrap .u8 (IntKind.wrap .u8 ((c.toNat:Int)-97)+10))=((c.toNat-87:Nat):Int):=by
     rw[wrap_u8 (x:=(c.toNat:Int)-97) (by omega) (by omega),wrap_u8 (by omega) (by omega),wrap64 (by omega) (by omega)];omega
    simp(disch:=first|omega|assumption) only[g1,g2,hsh,s1,o1,hw,steps,st2,pev,rev,oev,zN,zU,ye,yf,bound,zC,mm2,mk,zn,AV.cells,AV.boxable,AV.one,AV.strip1,zz,zy,Nat.reduceEqDiff,reduceCtorEq,↓reduceIte,Nat.reduceAdd,Int.reduceNeg,Nat.reduceLeDiff,Int.reduceToNat,Int.reduceEq,Int.reduceLT,Int.reduceLE,Int.reduceAdd]
    exact goJ (step _ (by omega) hx) (by simp(disch:=first|omega|assumption) only[steps,st2,pev,rev,oev,zN,zU,ye,yf,bound,zC,mm2,mk,zn,AV.cells,AV.boxable,AV.one,AV.strip1,zz,zy,Nat.reduceEqDiff,reduceCtorEq,↓reduceIte,Nat.reduceAdd,Int.reduceNeg,Nat.reduceLeDiff,Int.reduceToNat,Int.reduceEq,Int.reduceLT,Int.reduceLE,Int.reduceAdd])
   ·rw[if_neg d2] at hx
    by_cases d3:65≤c.toNat∧c.toNat≤70
    ·rw[if_pos d3] at hx
     have o1:=zr0 (a:=a) (b:=c.toNat-55) (by omega) (by omega)
     have g0:¬ ((97:Int)≤c.toNat):=by omega
     have g1:((65:Int)≤c.toNat)=True:=eq_true (by omega)
     have g2:((c.toNat:Int)≤70)=True:=eq_true (by omega)
     have s1:IntKind.wrap .i64 (IntKind.wrap .u8 (IntKind.wrap .u8 ((c.toNat:Int)-65)+10))=((c.toNat-55:Nat):Int):=by
      rw[wrap_u8 (x:=(c.toNat:Int)-65) (by omega) (by omega),wrap_u8 (by omega) (by omega),wrap64 (by omega) (by omega)];omega
     simp(disch:=first|omega|assumption) only[g0,g1,g2,hsh,s1,o1,hw,steps,st2,pev,rev,oev,zN,zU,ye,yf,bound,zC,mm2,mk,zn,AV.cells,AV.boxable,AV.one,AV.strip1,zz,zy,Nat.reduceEqDiff,reduceCtorEq,↓reduceIte,Nat.reduceAdd,Int.reduceNeg,Nat.reduceLeDiff,Int.reduceToNat,Int.reduceEq,Int.reduceLT,Int.reduceLE,Int.reduceAdd]
     exact goJ (step _ (by omega) hx) (by simp(disch:=first|omega|assumption) only[steps,st2,pev,rev,oev,zN,zU,ye,yf,bound,zC,mm2,mk,zn,AV.cells,AV.boxable,AV.one,AV.strip1,zz,zy,Nat.reduceEqDiff,reduceCtorEq,↓reduceIte,Nat.reduceAdd,Int.reduceNeg,Nat.reduceLeDiff,Int.reduceToNat,Int.reduceEq,Int.reduceLT,Int.reduceLE,Int.reduceAdd])
    ·rw[if_neg d3] at hx
     rw[hx] at hu
     simp only at hu
     by_cases g0:(97:Int)≤c.toNat
     ·have g2:¬ ((c.toNat:Int)≤102):=by omega
      by_cases g1:(65:Int)≤c.toNat
      ·have g3:¬ ((c.toNat:Int)≤70):=by omega
       simp(disch:=first|omega|assumption) only[g0,g1,g2,g3,steps,st2,pev,rev,oev,zN,zU,ye,yf,bound,zC,mm2,mk,zn,AV.cells,AV.boxable,AV.one,AV.strip1,zz,zy,Nat.reduceEqDiff,reduceCtorEq,↓reduceIte,Nat.reduceAdd,Int.reduceNeg,Nat.reduceLeDiff,Int.reduceToNat,Int.reduceEq,Int.reduceLT,Int.reduceLE,Int.reduceAdd]
       exact hQ _ _ _ _ nofun rfl (by simp[zb,ze,AV.strip,AV.strip1,hu,zj0])
      ·omega
     ·by_cases g1:(65:Int)≤c.toNat
      ·have g3:¬ ((c.toNat:Int)≤70):=by omega
       simp(disch:=first|omega|assumption) only[g0,g1,g3,steps,st2,pev,rev,oev,zN,zU,ye,yf,bound,zC,mm2,mk,zn,AV.cells,AV.boxable,AV.one,AV.strip1,zz,zy,Nat.reduceEqDiff,reduceCtorEq,↓reduceIte,Nat.reduceAdd,Int.reduceNeg,Nat.reduceLeDiff,Int.reduceToNat,Int.reduceEq,Int.reduceLT,Int.reduceLE,Int.reduceAdd]
       exact hQ _ _ _ _ nofun rfl (by simp[zb,ze,AV.strip,AV.strip1,hu,zj0])
      ·simp(disch:=first|omega|assumption) only[g0,g1,steps,st2,pev,rev,oev,zN,zU,ye,yf,bound,zC,mm2,mk,zn,AV.cells,AV.boxable,AV.one,AV.strip1,zz,zy,Nat.reduceEqDiff,reduceCtorEq,↓reduceIte,Nat.reduceAdd,Int.reduceNeg,Nat.reduceLeDiff,Int.reduceToNat,Int.reduceEq,Int.reduceLT,Int.reduceLE,Int.reduceAdd]
       exact hQ _ _ _ _ nofun rfl (by simp[zb,ze,AV.strip,AV.strip1,hu,zj0])
structure DecOk (l:List UInt8) (c k:Nat):Prop where
 enc:Zz c=l.take k
 le:c≤1114111
 pos:1≤k
 len:k≤l.length
 one:k=1→c=(l.getD 0 0).toNat∧(l.getD 0 0).toNat<128
 high:k≠1→∀ x∈l.take k,128≤x.toNat
theorem zbc {n:Nat} {b:UInt8} (h:n=b.toNat):UInt8.ofNat n=b:=UInt8.toNat_inj.1 (by rw[UInt8.toNat_ofNat',h];have:=b.toNat_lt;omega)
theorem zpl {b0 b1:UInt8} {t:List UInt8} (h0:b0.toNat / 32=6) (h1:b1.toNat / 64=2) (hc:128≤b0.toNat % 32*64+b1.toNat % 64):DecOk (b0::b1::t) (b0.toNat % 32*64+b1.toNat % 64) 2:=by
 refine⟨?_,by omega,by omega,by simp,fun h=>by omega,fun _ x hx=>?_⟩
 ·unfold Zz
  rw[if_neg (by omega),if_pos (by omega)]
  simp only[zbV,List.take_zero,List.cons.injEq,and_true]
  exact⟨zbc (by omega),zbc (by omega)⟩
 ·simp only[zbV,List.take_zero,List.mem_cons,List.not_mem_nil,or_false] at hx
  rcases hx with rfl|rfl<;>omega
theorem zne {b0 b1 b2:UInt8} {t:List UInt8} (h0:b0.toNat / 16=14) (h1:b1.toNat / 64=2) (h2:b2.toNat / 64=2) (hc:2048≤b0.toNat % 16*4096+b1.toNat % 64*64+b2.toNat % 64) :
  DecOk (b0::b1::b2::t) (b0.toNat % 16*4096+b1.toNat % 64*64+b2.toNat % 64) 3:=by
 refine⟨?_,by omega,by omega,by simp,fun h=>by omega,fun _ x hx=>?_⟩
 ·unfold Zz
  rw[if_neg (by omega),if_neg (by omega),if_pos (by omega)]
  simp only[zbV,List.take_zero,List.cons.injEq,and_true]
  exact⟨zbc (by omega),zbc (by omega),zbc (by omega)⟩
 ·simp only[zbV,List.take_zero,List.mem_cons,List.not_mem_nil,or_false] at hx
  rcases hx with rfl|rfl|rfl<;>omega
theorem znJ {b0 b1 b2 b3:UInt8} {t:List UInt8} (h0:b0.toNat / 8=30) (h1:b1.toNat / 64=2) (h2:b2.toNat / 64=2) (h3:b3.toNat / 64=2)
  (hc:65536≤b0.toNat % 8*262144+b1.toNat % 64*4096+b2.toNat % 64*64+b3.toNat % 64) (hd:b0.toNat % 8*262144+b1.toNat % 64*4096+b2.toNat % 64*64+b3.toNat % 64≤1114111) :
  DecOk (b0::b1::b2::b3::t) (b0.toNat % 8*262144+b1.toNat % 64*4096+b2.toNat % 64*64+b3.toNat % 64) 4:=by
 refine⟨?_,by omega,by omega,by simp,fun h=>by omega,fun _ x hx=>?_⟩
 ·unfold Zz
  rw[if_neg (by omega),if_neg (by omega),if_neg (by omega)]
  simp only[zbV,List.take_zero,List.cons.injEq,and_true]
  exact⟨zbc (by omega),zbc (by omega),zbc (by omega),zbc (by omega)⟩
 ·simp only[zbV,List.take_zero,List.mem_cons,List.not_mem_nil,or_false] at hx
  rcases hx with rfl|rfl|rfl|rfl<;>omega
theorem zlb {l:List UInt8} (hne:l≠[]) (h:decodeL l≠(65533,1)):DecOk l (decodeL l).1 (decodeL l).2:=by
 rw[decodeL_N] at h ⊢
 obtain⟨b0,t,rfl⟩:∃ b0 t,l=b0::t:=by cases l with|nil=>exact absurd rfl hne|cons a b=>exact⟨a,b,rfl⟩
 simp only[List.getD_cons_zero,List.getD_cons_succ] at h ⊢
 unfold decodeN at h ⊢
 split at h
 ·rename_i h0
  rw[if_pos h0]
  refine⟨?_,by simp only;omega,by simp,by simp,fun _=>⟨by simp,by simpa using h0⟩,fun h=>absurd rfl h⟩
  simp only
  unfold Zz
  rw[if_pos (by omega)]
  simp only[zbV,List.take_zero,List.cons.injEq,and_true]
  exact zbc rfl
 ·rename_i h0
  rw[if_neg h0]
  split at h
  ·rename_i h1
   rw[if_pos h1]
   split at h
   ·rename_i h2
    rw[if_pos h2]
    obtain⟨b1,t,rfl⟩:∃ b1 r,t=b1::r:=by cases t with|nil=>simp at h1|cons a b=>exact⟨a,b,rfl⟩
    exact zpl h1.1 (by simpa using h1.2.2) (by simpa using h2)
   ·exact absurd rfl h
  ·rename_i h1
   rw[if_neg h1]
   split at h
   ·rename_i h2
    rw[if_pos h2]
    split at h
    ·rename_i h3
     rw[if_pos h3]
     obtain⟨b1,t,rfl⟩:∃ b1 r,t=b1::r:=by cases t with|nil=>simp at h2|cons a b=>exact⟨a,b,rfl⟩
     obtain⟨b2,t,rfl⟩:∃ b2 r,t=b2::r:=by cases t with|nil=>simp at h2|cons a b=>exact⟨a,b,rfl⟩
     exact zne h2.1 (by simpa using h2.2.1.2) (by simpa using h2.2.2.2) (by simpa using h3.1)
    ·exact absurd rfl h
   ·rename_i h2
    rw[if_neg h2]
    split at h
    ·rename_i h3
     rw[if_pos h3]
     split at h
     ·rename_i h4
      rw[if_pos h4]
      obtain⟨b1,t,rfl⟩:∃ b1 r,t=b1::r:=by cases t with|nil=>simp at h3|cons a b=>exact⟨a,b,rfl⟩
      obtain⟨b2,t,rfl⟩:∃ b2 r,t=b2::r:=by cases t with|nil=>simp at h3|cons a b=>exact⟨a,b,rfl⟩
      obtain⟨b3,t,rfl⟩:∃ b3 r,t=b3::r:=by cases t with|nil=>simp at h3|cons a b=>exact⟨a,b,rfl⟩
      exact znJ h3.1 (by simpa using h3.2.1.2) (by simpa using h3.2.2.1.2) (by simpa using h3.2.2.2.2) (by simpa using h4.1) (by have:=h4.2;simp at this ⊢;omega)
     ·exact absurd rfl h
    ·exact absurd rfl h
theorem zqA {l:List UInt8} (hne:l≠[]) (hv:validD l=true):DecOk l (ym l).1 (ym l).2∧validD (l.drop (ym l).2)=true:=by
 rw[validD_step l hne] at hv
 split at hv
 ·cases hv
 ·rename_i h
  have h':decodeL l≠(65533,1):=fun e=>h ⟨by rw[e],by rw[e]⟩
  have e:ym l=decodeL l:=by unfold ym;rw[if_neg hne,if_neg h']
  rw[e]
  exact⟨zlb hne h',hv⟩
theorem zfa {may:UInt8→Bool}:∀(n m:Nat) (t:List UInt8) (q:Sd),t.length<n→t.length<m→zad may n t q=zad may m t q
 | 0,_,_,_,h,_=>by omega
 | _,0,_,_,_,h=>by omega
 | _+1,_+1,[],_,_,_=>rfl
 | n+1,m+1,c::t,q,h1,h2=>by
  simp only[Al2] at h1 h2
  simp only[zad]
  split
  ·rfl
  ·split
   ·cases he:Yl q t with
    | none=>rfl
    | some x =>
     have:=(zeo (q':=x.1) (t':=x.2) he).2
     exact zfa n m x.2 x.1 (by omega) (by omega)
   ·split
    ·exact zfa n m t _ (by omega) (by omega)
    ·rfl
def zbN (may:UInt8→Bool) (t:List UInt8) (q:Sd):Option (Sd×List UInt8):=zad may (t.length+1) t q
theorem zmq (may:UInt8→Bool) (t:List UInt8) (q:Sd):zbN may (34::t) q=some (yD q,t):=by simp[zbN,zad]
theorem zcP (may:UInt8→Bool) (t:List UInt8) (q:Sd):zbN may (92::t) q=match Yl q t with|none=>none|some (q',t')=>zbN may t' q':=by
 unfold zbN
 simp only[Al2,zad]
 rw[if_neg (by decide),if_pos trivial]
 cases he:Yl q t with
 | none=>rfl
 | some x =>
  have:=(zeo (q':=x.1) (t':=x.2) he).2
  exact zfa _ _ x.2 x.1 (by omega) (by omega)
theorem zg4 (may:UInt8→Bool) {c:UInt8} (t:List UInt8) (q:Sd) (h1:c≠34) (h2:c≠92):zbN may (c::t) q=if may c then zbN may t (q.put c) else none:=by
 unfold zbN
 simp only[Al2,zad]
 rw[if_neg h1,if_neg h2]
theorem zgR {may:UInt8→Bool}:∀(n:Nat) (t:List UInt8) (q q':Sd) (t':List UInt8),q.ok=false→zad may n t q=some (q',t')→q'.ok=false
 | 0,_,_,_,_,_,h=>by cases h
 | _+1,[],_,_,_,_,h=>by cases h
 | n+1,c::t,q,q',t',hq,h=>by
  simp only[zad] at h
  split at h
  ·simp only[Al1,Al8] at h
   rw[← h.1];simp[yD,hq]
  ·split at h
   ·cases he:Yl q t with
    | none=>simp[he] at h
    | some x =>
     obtain⟨q1,t1⟩:=x
     simp only[he] at h
     refine zgR n t1 q1 q' t' ?_ h
     cases t with
     | nil=>cases he
     | cons d t =>
      simp only[Yl] at he
      split at he
      ·cases hu:Yb t with
       | none=>simp[hu] at he
       | some u=>simp only[hu,yS,Al1,Al8] at he;rw[← he.1];exact hq
      ·split at he
       ·cases he
       ·simp only[Al1,Al8] at he;rw[← he.1];simp[Sd.put,yD,hq]
   ·split at h
    ·exact zgR n t _ q' t' (by simp[Sd.put,yD,hq]) h
    ·cases h
def zgx (x:Option (Sd×List UInt8)):Option (List UInt8×List UInt8):=match x with
 | some (q,t')=>if q.ok then some (q.b,t') else none
 | none=>none
theorem zsz (may:UInt8→Bool) (t:List UInt8):ZL may t=zgx (zbN may t ⟨[],[],true⟩):=rfl
theorem zjD {may:UInt8→Bool} {t:List UInt8} {q:Sd} (h:q.ok=false):zgx (zbN may t q)=none:=by
 cases hx:zbN may t q with
 | none=>rfl
 | some x =>
  have:=zgR _ _ _ x.1 x.2 h hx
  simp[zgx,this]
theorem zh0 {may:UInt8→Bool} {c:UInt8} {t out:List UInt8} {us:List Nat} (hj:zX us=none) (hc:∀ r,c=92→t≠117::r):zgx (zbN may (c::t) ⟨out,us,true⟩)=none:=by
 by_cases h1:c=34
 ·subst h1;rw[zmq];simp[zgx,yD,hj]
 ·by_cases h2:c=92
  ·subst h2
   rw[zcP]
   cases t with
   | nil=>rfl
   | cons d t =>
    have hd:d≠117:=fun e=>hc t rfl (by rw[e])
    simp only[Yl]
    rw[if_neg hd]
    split
    ·rename_i h;split at h
     ·rfl
     ·cases h
    ·rename_i h
     split at h
     ·cases h
     ·simp only[Al1,Al8] at h
      exact zjD (by rw[← h.1];simp[Sd.put,yD,hj])
  ·rw[zg4 may t _ h1 h2]
   split
   ·exact zjD (by simp[Sd.put,yD,hj])
   ·rfl
def yM (c:UInt8):Bool:=decide (c≠10)&&decide (c≠13)
theorem zis:∀(bs t out:List UInt8),(∀ x∈bs,128≤x.toNat)→zbN yM (bs++t) ⟨out,[],true⟩=zbN yM t ⟨out++bs,[],true⟩
 | [],t,out,_=>by simp
 | b::bs,t,out,h=>by
  have hb:=h b (.head _)
  have h0:∀ n:UInt8,n.toNat<128→b≠n:=fun n hn e=>by subst e;omega
  rw[Al6,zg4 yM _ _ (h0 34 (by decide)) (h0 92 (by decide)),if_pos (by simp[yM,h0 10 (by decide),h0 13 (by decide)])]
  have e:Sd.put ⟨out,[],true⟩ b=⟨out++[b],[],true⟩:=by simp[Sd.put,yD,zX]
  rw[e,zis bs t (out++[b]) fun x hx=>h x (.tail _ hx)]
  simp
theorem zmR {l out:List UInt8} {us:List Nat} {tt:List UInt8} (hj:zX us=some tt) {c k:Nat} (h:DecOk l c k) (hne:l≠[]) (h1:l.getD 0 0≠34) (h2:l.getD 0 0≠92) (h3:yM (l.getD 0 0)=true) :
  zbN yM l ⟨out,us,true⟩=zbN yM (l.drop k) ⟨out++tt++l.take k,[],true⟩:=by
 obtain⟨b,t,rfl⟩:∃ b t,l=b::t:=by cases l with|nil=>exact absurd rfl hne|cons a b=>exact⟨a,b,rfl⟩
 simp only[List.getD_cons_zero] at h1 h2 h3
 obtain⟨m,rfl⟩:∃ m,k=m+1:=⟨k-1,by have:=h.pos;omega⟩
 rw[zg4 yM t _ h1 h2,if_pos h3]
 have e:Sd.put ⟨out,us,true⟩ b=⟨out++tt++[b],[],true⟩:=by simp[Sd.put,yD,hj]
 rw[e,List.drop_succ_cons,zbV]
 by_cases hm:m=0
 ·subst hm;simp
 ·have hh:=h.high (by omega)
  rw[zbV] at hh
  have:=zis (t.take m) (t.drop m) (out++tt++[b]) fun x hx=>hh x (.tail _ hx)
  rw[List.take_append_drop] at this
  rw[this];simp
end Go.Proofs.YticbbfbpeimkbaaGreatDoor
