import Derived.Test.YtbcocdloklbkjaaGreatDoorM1
import Derived.Test.YtbcocdloklbkjaaGreatDoorM2
import Derived.Test.YtbcocdloklbkjaaGreatDoorM3
import Derived.Test.YtbcocdloklbkjaaGreatDoorM4
import Derived.Test.YtbcocdloklbkjaaGreatDoorM5
import Derived.Test.YtbcocdloklbkjaaGreatDoorM6
import Derived.Test.YtbcocdloklbkjaaGreatDoorM7
import Derived.Test.YtbcocdloklbkjaaGreatDoorM8
import Derived.Test.YtbcocdloklbkjaaGreatDoorM9
import Derived.Test.YtbcocdloklbkjaaGreatDoorM10
set_option maxRecDepth 100000
set_option linter.all false
namespace Go.Proofs.YtbcocdloklbkjaaGreatDoor
open Go.Ab
theorem zuk (x:DefD) (hwx:wfE x) (hm:64*bE x≤Lim):ZS 236 [.agg (cE x)] (64*bE x) (512*bE x) (Yv x) (tE x):=by
 have hO1:=zmA [116,121,112,101] x zro (by decide) hwx hm
 have hO2:=zmA [105,110,116,101,114,102,97,99,101] x zqJ (by decide) hwx hm
 have hP:=ztz x hm
 intro H w o l ok h hb
 obtain⟨k,nm,faces,flds,parts,ps⟩:=x
 rw[ye] at hO1 hO2 hP ⊢
 have hm':=hm
 simp only[Lim,bE] at hm'
 have hb':=hb
 simp only[bE] at hb
 have h1:=ZN faces
 have h2:=YV flds
 have h3:=ZN parts
 have h4:=yS ps
 have hfc:=zK faces
 have hfl:=zaX flds
 have hfp:=zK parts
 have hfs:=Zr ps
 refine zj.go ir236 ck236 (Al4 _) fun KP Q hQ=>?_
 have w0:=YR.refl h
 by_cases k1:k=1
 ·have k1':=eq_true k1
  simp(disch:=omega) only[ir236,k1',go_sem]
  refine Yg hO1 w0 (by omega) fun o2 l2 H2 w2 _=>?_
  simp(disch:=omega) only[go_sem]
  exact hQ _ _ H2 H2 [] nofun rfl (Low.refl _) ⟨rfl,w2.fin (by subst k1;simp[Yv,YK]) (fun _=>by subst k1;simp[tE,ziE]) (by omega) (by omega)⟩
 by_cases k2:k=2
 ·have k2':=eq_true k2
  simp(disch:=omega) only[ir236,k1,k2',go_sem]
  refine Yg hO2 w0 (by omega) fun o2 l2 H2 w2 _=>?_
  simp(disch:=omega) only[go_sem]
  exact hQ _ _ H2 H2 [] nofun rfl (Low.refl _) ⟨rfl,w2.fin (by subst k2;simp[Yv,YK]) (fun _=>by subst k2;simp[tE,ziE]) (by omega) (by omega)⟩
 by_cases k3:k=3
 ·have k3':=eq_true k3
  simp(disch:=omega) only[ir236,k1,k2,k3',go_sem]
  refine Yg hP w0 (by omega) fun o2 l2 H2 w2 _=>?_
  simp(disch:=omega) only[go_sem]
  exact hQ _ _ H2 H2 [] nofun rfl (Low.refl _) ⟨rfl,w2.fin (by subst k3;simp[Yv,Y0,zav]) (fun _=>by subst k3;simp[tE,zjd]) (by omega) (by omega)⟩
 by_cases k4:k=4
 ·have k4':=eq_true k4
  simp(disch:=omega) only[ir236,k1,k2,k3,k4',go_sem]
  refine Yg hP w0 (by omega) fun o2 l2 H2 w2 _=>?_
  simp(disch:=omega) only[go_sem]
  exact hQ _ _ H2 H2 [] nofun rfl (Low.refl _) ⟨rfl,w2.fin (by subst k4;simp[Yv,Y0,zav]) (fun _=>by subst k4;simp[tE,zjd]) (by omega) (by omega)⟩
 by_cases k5:k=5
 ·have k5':=eq_true k5
  obtain⟨n,hn⟩:∃ n,n=(decide (ps.length≠0)&&(decide (faces.length=0)&&(decide (flds.length=0)&&decide (parts.length=0)))):=⟨_,rfl⟩
  by_cases a1:ps.length=0
  ·have a1':¬ ((0:Int)<(ps.length:Int)):=by omega
   have hbv:n=false:=by rw[hn];simp[a1]
   subst k5
   simp(disch:=omega) only[ir236,k1,k2,k3,k4,k5',hfs,a1',go_sem]
   refine zt (Zw _) w0 (by omega) (by omega) (by omega) fun o1 l1 H1 w1 _=>?_
   simp(disch:=omega) only[go_sem]
   refine zt (yy [105,110,112,117,116] (by simp[Lim])) w1 (by omega) (by omega) (by omega) fun o2 l2 H2 w2 _=>?_
   simp(disch:=omega) only[go_sem]
   refine zt (yy nm (by simp only[Lim];omega)) w2 (by omega) (by omega) (by omega) fun o3 l3 H3 w3 _=>?_
   simp(disch:=omega) only[go_sem]
   refine zt (yI [123] _) w3 (by omega) (by omega) (by omega) fun o4 l4 H4 w4 _=>?_
   simp(disch:=omega) only[go_sem]
   refine Yg (zf1 ps hwx.2 (by simp only[Lim];omega)) w4 (by omega) fun o5 l5 H5 w5 _=>?_
   simp(disch:=omega) only[go_sem]
   refine zt (yI [125] _) w5 (by omega) (by omega) (by omega) fun o6 l6 H6 w6 _=>?_
   simp(disch:=omega) only[go_sem]
   exact hQ _ _ H6 H6 [] nofun rfl (Low.refl _) ⟨rfl,w6.fin (by simp only[Yv];rw[if_neg (by omega),if_neg (by omega),if_neg (by omega),if_pos trivial];simp only[← hn,hbv,zhf];simp[yg,Bool.and_comm,Bool.and_left_comm]) (fun _=>by simp only[tE];rw[if_neg (by omega),if_neg (by omega),if_neg (by omega)];simp) (by simp only[bE];omega) (by simp only[bE,Al2,Al3];omega)⟩
  ·have a1':((0:Int)<(ps.length:Int))=True:=eq_true (by omega)
   have e1:IntKind.wrap .i64 ((faces.length:Int)+(flds.length:Int))=((faces.length+flds.length:Nat):Int):=by rw[wrap64 (by omega) (by omega)];omega
   have e2:IntKind.wrap .i64 (((faces.length+flds.length:Nat):Int)+(parts.length:Int))=((faces.length+flds.length+parts.length:Nat):Int):=by rw[wrap64 (by omega) (by omega)];omega
   by_cases a2:faces.length+flds.length+parts.length=0
   ·have a2':(((faces.length+flds.length+parts.length:Nat):Int)=0)=True:=eq_true (by omega)
    have hbv:n=true:=by rw[hn];simp only[ne_eq,Al0,yX];omega
    subst k5
    simp(disch:=omega) only[ir236,k1,k2,k3,k4,k5',hfs,a1',hfc,hfl,hfp,e1,e2,a2',go_sem]
    refine zt (Zw _) w0 (by omega) (by omega) (by omega) fun o1 l1 H1 w1 _=>?_
    simp(disch:=omega) only[go_sem]
    refine zt (yy [105,110,112,117,116] (by simp[Lim])) w1 (by omega) (by omega) (by omega) fun o2 l2 H2 w2 _=>?_
    simp(disch:=omega) only[go_sem]
    refine zt (yy nm (by simp only[Lim];omega)) w2 (by omega) (by omega) (by omega) fun o3 l3 H3 w3 _=>?_
    simp(disch:=omega) only[go_sem]
    refine zt (yI [123] _) w3 (by omega) (by omega) (by omega) fun o4 l4 H4 w4 _=>?_
    simp(disch:=omega) only[go_sem]
    refine Yg (zf1 ps hwx.2 (by simp only[Lim];omega)) w4 (by omega) fun o5 l5 H5 w5 _=>?_
    simp(disch:=omega) only[go_sem]
    refine zt (yI [125] _) w5 (by omega) (by omega) (by omega) fun o6 l6 H6 w6 _=>?_
    simp(disch:=omega) only[go_sem]
    exact hQ _ _ H6 H6 [] nofun rfl (Low.refl _) ⟨rfl,w6.fin (by simp only[Yv];rw[if_neg (by omega),if_neg (by omega),if_neg (by omega),if_pos trivial];simp only[← hn,hbv,zhf];simp[yg,Bool.and_comm,Bool.and_left_comm]) (fun _=>by simp only[tE];rw[if_neg (by omega),if_neg (by omega),if_neg (by omega)];simp) (by simp only[bE];omega) (by simp only[bE,Al2,Al3];omega)⟩
   ·have a2':¬ (((faces.length+flds.length+parts.length:Nat):Int)=0):=by omega
    have hbv:n=false:=by rw[hn,Bool.eq_false_iff];simp only[ne_eq,Al0,yX];omega
    subst k5
    simp(disch:=omega) only[ir236,k1,k2,k3,k4,k5',hfs,a1',hfc,hfl,hfp,e1,e2,a2',go_sem]
    refine zt (Zw _) w0 (by omega) (by omega) (by omega) fun o1 l1 H1 w1 _=>?_
    simp(disch:=omega) only[go_sem]
    refine zt (yy [105,110,112,117,116] (by simp[Lim])) w1 (by omega) (by omega) (by omega) fun o2 l2 H2 w2 _=>?_
    simp(disch:=omega) only[go_sem]
    refine zt (yy nm (by simp only[Lim];omega)) w2 (by omega) (by omega) (by omega) fun o3 l3 H3 w3 _=>?_
    simp(disch:=omega) only[go_sem]
    refine zt (yI [123] _) w3 (by omega) (by omega) (by omega) fun o4 l4 H4 w4 _=>?_
    simp(disch:=omega) only[go_sem]
    refine Yg (zf1 ps hwx.2 (by simp only[Lim];omega)) w4 (by omega) fun o5 l5 H5 w5 _=>?_
    simp(disch:=omega) only[go_sem]
    refine zt (yI [125] _) w5 (by omega) (by omega) (by omega) fun o6 l6 H6 w6 _=>?_
    simp(disch:=omega) only[go_sem]
    exact hQ _ _ H6 H6 [] nofun rfl (Low.refl _) ⟨rfl,w6.fin (by simp only[Yv];rw[if_neg (by omega),if_neg (by omega),if_neg (by omega),if_pos trivial];simp only[← hn,hbv,zhf];simp[yg,Bool.and_comm,Bool.and_left_comm]) (fun _=>by simp only[tE];rw[if_neg (by omega),if_neg (by omega),if_neg (by omega)];simp) (by simp only[bE];omega) (by simp only[bE,Al2,Al3];omega)⟩
 ·simp(disch:=omega) only[ir236,k1,k2,k3,k4,k5,go_sem]
  refine zt (Zw false) w0 (by omega) (by omega) (by omega) fun o2 l2 H2 w2 _=>?_
  simp(disch:=omega) only[go_sem]
  exact hQ _ _ H2 H2 [] nofun rfl (Low.refl _) ⟨rfl,w2.fin (by simp[Yv,k1,k2,k3,k4,k5]) (fun e=>by simp[Yv,k1,k2,k3,k4,k5] at e) (by omega) (by omega)⟩
theorem zrs (s:SchD) (hw:zbV s) (hb:64*zJ s+64≤Lim):zj Tryz.prog 210 [.agg (zq s)] zc.emp (zqg fun v H'=>H'=zc.emp∧∃ L,v=.tup [.sl .no 2 (cKs L),.bool (zba s)]∧wT L≤512*zJ s+128∧(zba s=true→L=zvi s)):=by
 refine zj.go ir210 ck210 (Al4 _) fun KP Q hQ=>?_
 obtain⟨defs,q,m⟩:=s
 have hle:=zeg defs
 have hce:=zex defs
 have hb':=hb
 simp only[zJ,Lim] at hb'
 have ed:zq ⟨defs,q,m⟩=[.sl .no 6 (cEs defs),.str q,.str m]:=rfl
 obtain⟨R3,hR3⟩:∃ R3,R3=(zP q&&(decide (m=[])||zP m)):=⟨_,rfl⟩
 simp(disch:=omega) only[ir210,ed,go_sem]
 refine zdk zup fun v H1 ⟨w,hv,hW⟩=>?_
 subst hv
 simp(disch:=omega) only[go_sem]
 refine zb fun b hb=>?_
 have hbw:b≠w:=fun e=>by subst e;rw[hW.cell] at hb;cases hb
 have w0:=(YR.refl hW).alloc (x:=.cells [.ptr w 0]) hb
 have g0:(H1.upd b (.cells [.ptr w 0])) b=some (.cells [.ptr w 0]):=upd_same ..
 simp(disch:=omega) only[go_sem]
 refine zt (yy [115,99,104,101,109,97] (by simp[Lim])) w0 (by omega) (by omega) (by simp only[Lim,Al3];omega) fun o1 l1 H2 w1 s1=>?_
 have g1:=s1.box w0.here.own g0 hbw
 simp(disch:=omega) only[g1,go_sem]
 refine zt (yI [123] _) w1 (by omega) (by omega) (by simp only[Lim,Al3];omega) fun o2 l2 H3 w2 s2=>?_
 have g2:=s2.box w1.here.own g1 hbw
 simp(disch:=omega) only[g2,go_sem]
 refine zt (yy [113,117,101,114,121] (by simp[Lim])) w2 (by omega) (by omega) (by simp only[Lim,Al3];omega) fun o3 l3 H4 w3 s3=>?_
 have g3:=s3.box w2.here.own g2 hbw
 simp(disch:=omega) only[g3,go_sem]
 refine zt (yI [58] _) w3 (by omega) (by omega) (by simp only[Lim,Al3];omega) fun o4 l4 H5 w4 s4=>?_
 have g4:=s4.box w3.here.own g3 hbw
 simp(disch:=omega) only[g4,go_sem]
 refine zt (yy q (by simp only[Lim];omega)) w4 (by omega) (by omega) (by simp only[Lim,Al3];omega) fun o5 l5 H6 w5 s5=>?_
 have g5:=s5.box w4.here.own g4 hbw
 by_cases hm0:m=[]
 ·have hm1:=eq_true hm0
  simp(disch:=omega) only[hm1,g5,go_sem]
  refine zt (yI [125] _) w5 (by omega) (by omega) (by simp only[Lim,Al3];omega) fun oB lB HB wB sB=>?_
  have gB:=sB.box w5.here.own g5 hbw
  simp(disch:=omega) only[gB,hce,go_sem]
  refine zf defs 50 (fun x:Own×List Tok=>[]) (fun done rest x H'=>YR H1 .nil w [] true 0 (10+64*bEs done) (100+q.length+m.length+512*bEs done) (R3&&done.all Yv) (tRt q m++done.flatMap tE) H' x.1 x.2∧H' b=some (.cells [.ptr w 0])) (oB,lB) (by simp(disch:=omega) only[go_sem]) ⟨wB.castC (by omega) (by (try simp only[Al2,Al3]);omega) (by rw[hR3];simp[zhN,zkg,zo2,hm0,yg]) (fun _=>by simp[tRt,hm0]),gB⟩ ?_ ?_
  ·rintro⟨o4,l4⟩ H4 J4 ⟨w4,g4⟩ hlt4
   simp only at w4 g4
   have er:zba ⟨defs,q,m⟩=(R3&&defs.all Yv):=by rw[hR3,Bool.and_comm];rfl
   have hc4:=w4.here.cell
   have e4:=w4.eq
   rw[← er,Bool.true_and] at hc4 e4
   have hw4:=w4.wt
   simp(disch:=omega) only[hce,hlt4,g4,hc4,go_sem]
   exact hQ _ _ _ zc.emp [_,_] nofun rfl (Low.of_sub nofun) ⟨rfl,l4,rfl,by simp only[zgL,zJ] at hw4 ⊢;omega,fun hr=>by have:=e4 hr;rw[zc8] at this;rw[this];rfl⟩
  ·rintro done x rest ⟨o4,l4⟩ H4 J4 hd hlt4 hlt5 ⟨w4,g4⟩ hJ4
   simp only at w4 g4
   have hg:=zdw hd
   have hbm:=ziC done x rest
   rw[← hd] at hbm
   have hwx:=hw x (by rw[hd];simp)
   have hfw:=zuk x hwx (by simp only[Lim];omega)
   obtain⟨k,nm,faces,flds,parts,ps⟩:=x
   rw[ye] at hg hfw
   simp(disch:=omega) only[hce,hlt4,hg,go_sem]
   refine zb fun b6 hb6=>?_
   have h6:b6≠b:=fun e=>by subst e;rw[g4] at hb6;cases hb6
   have w5:=w4.alloc (x:=.cells [.int .i64 k,.str nm,.sl .no 1 (cT faces),.sl .no 6 (cLs flds),.sl .no 1 (cT parts),.sl .no 10 (cWs ps)]) hb6
   have g5:(H4.upd b6 (.cells [.int .i64 k,.str nm,.sl .no 1 (cT faces),.sl .no 6 (cLs flds),.sl .no 1 (cT parts),.sl .no 10 (cWs ps)])) b=some (.cells [.ptr w 0]):=by rw[upd_ne (Ne.symm h6)];exact g4
   simp(disch:=omega) only[g5,go_sem]
   refine Yg hfw w5 (by simp only[Lim,Al3];omega) fun o6 l6 H6 w6 s6=>?_
   have g6:=s6.box w5.here.own g5 hbw
   simp(disch:=omega) only[wrap64,go_sem]
   exact goJ (hJ4 (o6,l6) H6 ⟨w6.cast (by rw[zdu];omega) (by rw[zdu];omega) (by simp[yg]) (by simp),g6⟩) (by simp(disch:=omega) only[go_sem])
 ·simp(disch:=omega) only[hm0,g5,go_sem]
  refine zt (yy [109,117,116,97,116,105,111,110] (by simp[Lim])) w5 (by omega) (by omega) (by simp only[Lim,Al3];omega) fun o6 l6 H7 w6 s6=>?_
  have g6:=s6.box w5.here.own g5 hbw
  simp(disch:=omega) only[g6,go_sem]
  refine zt (yI [58] _) w6 (by omega) (by omega) (by simp only[Lim,Al3];omega) fun o7 l7 H8 w7 s7=>?_
  have g7:=s7.box w6.here.own g6 hbw
  simp(disch:=omega) only[g7,go_sem]
  refine zt (yy m (by simp only[Lim];omega)) w7 (by omega) (by omega) (by simp only[Lim,Al3];omega) fun o8 l8 H9 w8 s8=>?_
  have g8:=s8.box w7.here.own g7 hbw
  simp(disch:=omega) only[g8,go_sem]
  refine zt (yI [125] _) w8 (by omega) (by omega) (by simp only[Lim,Al3];omega) fun oB lB HB wB sB=>?_
  have gB:=sB.box w8.here.own g8 hbw
  simp(disch:=omega) only[gB,hce,go_sem]
  refine zf defs 50 (fun x:Own×List Tok=>[]) (fun done rest x H'=>YR H1 .nil w [] true 0 (10+64*bEs done) (100+q.length+m.length+512*bEs done) (R3&&done.all Yv) (tRt q m++done.flatMap tE) H' x.1 x.2∧H' b=some (.cells [.ptr w 0])) (oB,lB) (by simp(disch:=omega) only[go_sem]) ⟨wB.castC (by omega) (by (try simp only[Al2,Al3]);omega) (by rw[hR3];simp[zhN,zkg,zo2,hm0,yg]) (fun _=>by simp[tRt,hm0]),gB⟩ ?_ ?_
  ·rintro⟨o4,l4⟩ H4 J4 ⟨w4,g4⟩ hlt4
   simp only at w4 g4
   have er:zba ⟨defs,q,m⟩=(R3&&defs.all Yv):=by rw[hR3,Bool.and_comm];rfl
   have hc4:=w4.here.cell
   have e4:=w4.eq
   rw[← er,Bool.true_and] at hc4 e4
   have hw4:=w4.wt
   simp(disch:=omega) only[hce,hlt4,g4,hc4,go_sem]
   exact hQ _ _ _ zc.emp [_,_] nofun rfl (Low.of_sub nofun) ⟨rfl,l4,rfl,by simp only[zgL,zJ] at hw4 ⊢;omega,fun hr=>by have:=e4 hr;rw[zc8] at this;rw[this];rfl⟩
  ·rintro done x rest ⟨o4,l4⟩ H4 J4 hd hlt4 hlt5 ⟨w4,g4⟩ hJ4
   simp only at w4 g4
   have hg:=zdw hd
   have hbm:=ziC done x rest
   rw[← hd] at hbm
   have hwx:=hw x (by rw[hd];simp)
   have hfw:=zuk x hwx (by simp only[Lim];omega)
   obtain⟨k,nm,faces,flds,parts,ps⟩:=x
   rw[ye] at hg hfw
   simp(disch:=omega) only[hce,hlt4,hg,go_sem]
   refine zb fun b6 hb6=>?_
   have h6:b6≠b:=fun e=>by subst e;rw[g4] at hb6;cases hb6
   have w5:=w4.alloc (x:=.cells [.int .i64 k,.str nm,.sl .no 1 (cT faces),.sl .no 6 (cLs flds),.sl .no 1 (cT parts),.sl .no 10 (cWs ps)]) hb6
   have g5:(H4.upd b6 (.cells [.int .i64 k,.str nm,.sl .no 1 (cT faces),.sl .no 6 (cLs flds),.sl .no 1 (cT parts),.sl .no 10 (cWs ps)])) b=some (.cells [.ptr w 0]):=by rw[upd_ne (Ne.symm h6)];exact g4
   simp(disch:=omega) only[g5,go_sem]
   refine Yg hfw w5 (by simp only[Lim,Al3];omega) fun o6 l6 H6 w6 s6=>?_
   have g6:=s6.box w5.here.own g5 hbw
   simp(disch:=omega) only[wrap64,go_sem]
   exact goJ (hJ4 (o6,l6) H6 ⟨w6.cast (by rw[zdu];omega) (by rw[zdu];omega) (by simp[yg]) (by simp),g6⟩) (by simp(disch:=omega) only[go_sem])
theorem ztB (s:SchD) (hw:zbV s) (hb:64*zJ s+64≤Lim):zg Tryz.prog 158 [.agg (zq s)] (.bool (zba s)):=by
 refine zg.go ir158 ck158 (Al4 _) fun KP Q hQ=>?_
 have ed:zq s=[.sl .no 6 (cEs s.defs),.str s.q,.str s.m]:=rfl
 have hT:=zrs s hw hb
 rw[ed] at hT ⊢
 simp(disch:=omega) only[ir158,go_sem]
 refine zdk hT fun v H1 ⟨hH,L,hv,hL,hr⟩=>?_
 subst hv;subst hH
 simp(disch:=omega) only[go_sem]
 exact hQ _ _ _ _ nofun rfl (by simp[zd,ze,AV.strip,AV.strip1])
theorem zrM (s:SchD) (n:List UInt8) (hl:s.defs.length≤Lim):zg Tryz.prog 161 [.str n,.view (zq s)] (.bool (y8 s n [0])):=by
 have h1:=zcx s n [0] hl (by simp[Lim])
 generalize y8 s n [0]=x1 at *
 obtain⟨sd,sq,sm⟩:=s
 simp only[zq] at h1 ⊢
 refine zg.go ir161 ck161 (Al4 _) fun KP Q hQ=>?_
 simp(disch:=omega) only[ir161,go_sem]
 refine za (zg.low h1) ?_
 simp(disch:=omega) only[go_sem]
 exact hQ _ _ _ _ nofun rfl (by simp[zd,ze,AV.strip,AV.strip1])
noncomputable def zga (s:SchD):Bool:=zba s&&zab (s.defs.map (·.nm))&&zbb (s.defs.map (·.nm))&&!(s.defs.map (·.nm)).any fun n=>y8 s n [0]
theorem zre (s:SchD) (hw:zbV s) (hb:64*zJ s+64≤Lim):zg Tryz.prog 116 [.agg (zq s)] (.bool (zga s)):=by
 have hbs:zJ s≤Lim:=by simp only[Lim] at hb ⊢;omega
 have hl:=yc hbs
 have hml:(s.defs.map (·.nm)).length≤Lim:=by rw[List.length_map];exact hl
 have h0:=zkY s.defs hl
 have h1:=ztB s hw hb
 have h2:=zmi (s.defs.map (·.nm)) hml
 have h3:=zkd (s.defs.map (·.nm)) hml
 have h4:=zly (fun n:List UInt8=>AV.str n) (s.defs.map (·.nm)) 161 [.view (zq s)] (fun n=>y8 s n [0]) hml (by kernel_rfl) fun n _=>zrM s n hl
 unfold zga
 generalize zba s=x1 at *
 generalize zab (s.defs.map (·.nm))=x2 at *
 generalize zbb (s.defs.map (·.nm))=x3 at *
 generalize (s.defs.map (·.nm)).any (fun n=>y8 s n [0])=x4 at *
 generalize s.defs.map (·.nm)=l at *
 obtain⟨sd,sq,sm⟩:=s
 simp only[zq] at h0 h1 h4 ⊢
 refine zg.go ir116 ck116 (Al4 _) fun KP Q hQ=>?_
 simp(disch:=omega) only[ir116,go_sem]
 refine za h0 ?_
 simp(disch:=omega) only[go_sem]
 refine za h1 ?_
 cases x1 with
 | false =>
  simp(disch:=omega) only[go_sem]
  exact hQ _ _ _ _ nofun rfl (by simp[zd,ze,AV.strip,AV.strip1])
 | true =>
 simp(disch:=omega) only[go_sem]
 refine za h2 ?_
 cases x2 with
 | false =>
  simp(disch:=omega) only[go_sem]
  exact hQ _ _ _ _ nofun rfl (by simp[zd,ze,AV.strip,AV.strip1])
 | true =>
 simp(disch:=omega) only[go_sem]
 refine za h3 ?_
 cases x3 with
 | false =>
  simp(disch:=omega) only[go_sem]
  exact hQ _ _ _ _ nofun rfl (by simp[zd,ze,AV.strip,AV.strip1])
 | true =>
 simp(disch:=omega) only[go_sem]
 refine za h4 ?_
 simp(disch:=omega) only[go_sem]
 exact hQ _ _ _ _ nofun rfl (by simp[zd,ze,AV.strip,AV.strip1])
noncomputable def zd4 (s:SchD) (n:Int):Bool :=
 if n=1 then zga s else if n=2 then ziT s else if n=3 then zej s else if n=4 then ziV s else if n=5 then zje s
 else if n=6 then ziD s else if n=7 then ziK s else if n=8 then zl9 s else if n=9 then zq3 s else false
theorem zsW (s:SchD) (n:Int) (hw:zbV s) (hb:64*zJ s+64≤Lim):zg Tryz.prog 68 [.agg (zq s),.int .i64 n] (.bool (zd4 s n)):=by
 have hbs:zJ s≤Lim:=by simp only[Lim] at hb ⊢;omega
 have r1:=zre s hw hb
 have r2:=ztY s hbs
 have r3:=zos s hbs
 have r4:=zta s hbs
 have r5:=zsO s hbs
 have r6:=ztk s (by simp only[Lim] at hb ⊢;omega)
 have r7:=ztc s hbs
 have r8:=zuW s hbs
 have r9:=znq s hbs
 have eR:zd4 s n=zd4 s n:=rfl
 conv at eR=>rhs;unfold zd4
 generalize zd4 s n=F at *
 generalize zga s=x1 at *
 generalize ziT s=x2 at *
 generalize zej s=x3 at *
 generalize ziV s=x4 at *
 generalize zje s=x5 at *
 generalize ziD s=x6 at *
 generalize ziK s=x7 at *
 generalize zl9 s=x8 at *
 generalize zq3 s=x9 at *
 obtain⟨sd,sq,sm⟩:=s
 simp only[zq] at r1 r2 r3 r4 r5 r6 r7 r8 r9 ⊢
 refine zg.go ir68 ck68 (Al4 _) fun KP Q hQ=>?_
 by_cases h1:n=1
 ·subst h1
  rw[if_pos rfl] at eR
  subst eR
  simp(disch:=omega) only[ir68,go_sem]
  refine za r1 ?_
  simp(disch:=omega) only[go_sem]
  exact hQ _ _ _ _ nofun rfl (by simp[zd,ze,AV.strip,AV.strip1])
 rw[if_neg h1] at eR
 by_cases h2:n=2
 ·subst h2
  rw[if_pos rfl] at eR
  subst eR
  simp(disch:=omega) only[ir68,go_sem]
  refine za r2 ?_
  simp(disch:=omega) only[go_sem]
  exact hQ _ _ _ _ nofun rfl (by simp[zd,ze,AV.strip,AV.strip1])
 rw[if_neg h2] at eR
 by_cases h3:n=3
 ·subst h3
  rw[if_pos rfl] at eR
  subst eR
  simp(disch:=omega) only[ir68,go_sem]
  refine za r3 ?_
  simp(disch:=omega) only[go_sem]
  exact hQ _ _ _ _ nofun rfl (by simp[zd,ze,AV.strip,AV.strip1])
 rw[if_neg h3] at eR
 by_cases h4:n=4
 ·subst h4
  rw[if_pos rfl] at eR
  subst eR
  simp(disch:=omega) only[ir68,go_sem]
  refine za r4 ?_
  simp(disch:=omega) only[go_sem]
  exact hQ _ _ _ _ nofun rfl (by simp[zd,ze,AV.strip,AV.strip1])
 rw[if_neg h4] at eR
 by_cases h5:n=5
 ·subst h5
  rw[if_pos rfl] at eR
  subst eR
  simp(disch:=omega) only[ir68,go_sem]
  refine za r5 ?_
  simp(disch:=omega) only[go_sem]
  exact hQ _ _ _ _ nofun rfl (by simp[zd,ze,AV.strip,AV.strip1])
 rw[if_neg h5] at eR
 by_cases h6:n=6
 ·subst h6
  rw[if_pos rfl] at eR
  subst eR
  simp(disch:=omega) only[ir68,go_sem]
  refine za r6 ?_
  simp(disch:=omega) only[go_sem]
  exact hQ _ _ _ _ nofun rfl (by simp[zd,ze,AV.strip,AV.strip1])
 rw[if_neg h6] at eR
 by_cases h7:n=7
 ·subst h7
  rw[if_pos rfl] at eR
  subst eR
  simp(disch:=omega) only[ir68,go_sem]
  refine za r7 ?_
  simp(disch:=omega) only[go_sem]
  exact hQ _ _ _ _ nofun rfl (by simp[zd,ze,AV.strip,AV.strip1])
 rw[if_neg h7] at eR
 by_cases h8:n=8
 ·subst h8
  rw[if_pos rfl] at eR
  subst eR
  simp(disch:=omega) only[ir68,go_sem]
  refine za r8 ?_
  simp(disch:=omega) only[go_sem]
  exact hQ _ _ _ _ nofun rfl (by simp[zd,ze,AV.strip,AV.strip1])
 rw[if_neg h8] at eR
 by_cases h9:n=9
 ·subst h9
  rw[if_pos rfl] at eR
  subst eR
  simp(disch:=omega) only[ir68,go_sem]
  refine za r9 ?_
  simp(disch:=omega) only[go_sem]
  exact hQ _ _ _ _ nofun rfl (by simp[zd,ze,AV.strip,AV.strip1])
 rw[if_neg h9] at eR
 subst eR
 simp(disch:=omega) only[ir68,h1,h2,h3,h4,h5,h6,h7,h8,h9,go_sem]
 exact hQ _ _ _ _ nofun rfl (by simp[zd,ze,AV.strip,AV.strip1])
noncomputable def zeF (s:SchD):Nat→Int→Int
 | 0,_=>0
 | k+1,n=>if zd4 s n=true then zeF s k (n+1) else n
theorem zqG (s:SchD) (hw:zbV s) (hb:64*zJ s+64≤Lim):zg Tryz.prog 24 [.agg (zq s)] (.int .i64 (zeF s 9 1)):=by
 have hR:=fun n=>zsW s n hw hb
 generalize hF:zeF s 9 1=F
 obtain⟨sd,sq,sm⟩:=s
 simp only[zq] at hR ⊢
 refine zg.go ir24 ck24 (Al4 _) fun KP Q hQ=>?_
 simp(disch:=omega) only[ir24,go_sem]
 refine zbF (fun x:Nat×Int=>[(3,.int .i64 x.2)]) (fun x _=>(x.1:Int)+x.2=10∧x.1≤9∧zeF ⟨sd,sq,sm⟩ x.1 x.2=F) (fun x=>x.1) (9,1) (by simp(disch:=omega) only[go_sem]) ⟨by omega,by omega,hF⟩ ?_
 rintro⟨k,n⟩ H J ⟨hk,hn9,hn⟩ hJ
 simp only at hk hn9 hn
 cases k with
 | zero =>
  simp only[zeF] at hn
  subst hn
  have hle:¬ (n≤9):=by omega
  simp(disch:=omega) only[hle,go_sem]
  exact hQ _ _ _ _ nofun rfl (by simp[zd,ze,AV.strip,AV.strip1])
 | succ k =>
  simp only[zeF] at hn
  have hr:=hR n
  have hle:(n≤9)=True:=eq_true (by omega)
  generalize hx:zd4 ⟨sd,sq,sm⟩ n=x at *
  simp(disch:=omega) only[hle,go_sem]
  refine za hr ?_
  cases x with
  | true =>
   rw[if_pos rfl] at hn
   simp(disch:=omega) only[wrap64,go_sem]
   exact goJ (hJ (k,n+1) _ (by simp only;omega) ⟨by simp only;omega,by simp only;omega,hn⟩) (by simp(disch:=omega) only[wrap64,go_sem])
  | false =>
   rw[if_neg (by simp)] at hn
   subst hn
   simp(disch:=omega) only[go_sem]
   exact hQ _ _ _ _ nofun rfl (by simp[zd,ze,AV.strip,AV.strip1])
theorem ztx (f:FragD) (l:List (List UInt8)) (b:Nat) (o:Own) (H:zc) (hb:H b=some (.cells [.sl o 1 (cT l)])) (hl:l.length≤Lim):zj Tryz.prog 86 [.agg (cF f),.ptr b 0] H (At (.bool (!zQ f.nm l)) H):=by
 have h1:=yR l f.nm hl
 obtain⟨nm,on,ds,ss⟩:=f
 simp only at h1 ⊢
 generalize zQ nm l=x1 at *
 refine zj.go ir86 ck86 (Al4 _) fun KP Q hQ=>?_
 simp(disch:=omega) only[ir86,Z3,hb,go_sem]
 refine za (zg.low h1) ?_
 simp(disch:=omega) only[go_sem]
 exact hQ _ _ _ _ _ nofun rfl (Low.refl _) ⟨by simp[zd,ze,AV.strip,AV.strip1],rfl⟩
theorem zrH {H:zc} {o:Own} {n sz b:Nat} {cs cs':List AV} (h:zY H o n sz) (hb:H b=some (.cells cs)):zY (H.upd b (.cells cs')) o n sz:=by
 cases o with
 | tip c d =>
  have hc:H c=some (.tip (d+n) sz):=h
  have hne:c≠b:=fun e=>by subst e;rw[hb] at hc;cases hc
  show (H.upd b _) c=_
  simp[zc.upd,hne,hc]
 | no=>exact h
 | nil=>exact h
 | full=>exact h
def zu3 (d:DocD):List (List UInt8):=d.ops.foldl (fun l o=>l++yf d o.sels) []
def zh6 (d:DocD):Bool:=!d.frags.any fun f=>!zQ f.nm (zu3 d)
theorem zuT (d:DocD) (hb:Zd d≤Lim) (hb2:lenD d*zw d+zw d≤1099511627776):zg Tryz.prog 46 [.agg (zX d)] (.bool (zh6 d)):=by
 have hb3:=hb
 simp only[Zd] at hb3
 have hb4:2*(zw d+zw d)≤1099511627776:=by simpa only[Lim] using hb3
 have h0:bOs d.ops+bFs d.frags=zw d:=rfl
 have hfl:=yM d.frags
 have hol:=Zo d.ops
 have hR:=fun(o:OpD) (H:zc) (ho:bSs o.sels+bFs d.frags≤zw d)=>zhj d o.sels H (by omega)
 have hRl:=fun o:OpD=>zcb d o.sels
 have hop:=fun(o:OpD) (ho:o∈d.ops)=>(by
  obtain⟨a,b,hd⟩:=List.append_of_mem ho
  have:=YW a o b
  rw[← hd] at this
  simp only[bO] at this;omega:bSs o.sels+bFs d.frags≤zw d)
 have hany:=fun(l:List (List UInt8)) (b:Nat) (o:Own) (H:zc) (hb:H b=some (.cells [.sl o 1 (cT l)])) (hl:l.length≤Lim)=>zp4 cF (fun _=>rfl) d.frags 86 [.ptr b 0] (fun f=>!zQ f.nm l) H (by omega) (by kernel_rfl) fun f _=>ztx f l b o H hb hl
 have e0:zh6 d=!d.frags.any fun f=>!zQ f.nm (d.ops.foldl (fun l o=>l++yf d o.sels) []):=rfl
 generalize zh6 d=F at *
 generalize hRe:yf d=R at *
 generalize hB:zw d=B at *
 have l1:=Z2 d.ops
 have hmul:d.ops.length*B≤lenD d*B:=Nat.mul_le_mul_right _ (by simp only[lenD];omega)
 have hcd:zX d=[.sl .no 5 (cOs d.ops),.sl .no 4 (cFs d.frags)]:=rfl
 rw[hcd] at hR ⊢
 refine zg.go ir46 ck46 (Al4 _) fun KP Q hQ=>?_
 simp(disch:=omega) only[ir46,go_sem]
 refine zb fun b3 hb3=>?_
 simp(disch:=omega) only[l1,go_sem]
 refine zf d.ops 9 (fun _:Unit=>[]) (fun done rest _ H'=>∃ o l,rest.foldl (fun l o=>l++R o.sels) l=d.ops.foldl (fun l o=>l++R o.sels) []∧H' b3=some (.cells [.sl o 1 (cT l)])∧zY H' o l.length 1∧l.length≤done.length*B) () (by simp(disch:=omega) only[go_sem]) ⟨.nil,[],rfl,by simp[zc.upd,cT],rfl,by simp⟩ ?_ ?_
 ·rintro _ H1 J ⟨o,l,hn,g3,ho,hle⟩ hlt
  simp only[List.foldl] at hn
  rw[← hn] at e0
  have h5:=zj.low (args:=[.sl .no 4 (cFs d.frags),.clo 86 [] [.ptr b3 0]]) (hany l b3 o H1 g3 (by simp only[Lim];omega))
  simp(disch:=omega) only[l1,hlt,g3,go_sem]
  refine z7 h5 ?_
  rintro _ _ ⟨_,rfl,rfl,rfl⟩
  simp(disch:=omega) only[ZP,go_sem]
  exact hQ _ _ _ _ nofun rfl (by simp[zd,ze,AV.strip,AV.strip1,e0])
 ·rintro done x rest _ H1 J hd hlt hlt2 ⟨o,l,hn,g3,ho,hle⟩ hJ
  have hg:=Yc hd
  have hxm:x∈d.ops:=by rw[hd];simp
  have hxs:=hop x hxm
  have hRx:=fun H=>hR x H hxs
  have hRlx:=hRl x
  have hml:(done.length+1)*B≤d.ops.length*B:=Nat.mul_le_mul_right _ (by omega)
  rw[Nat.add_mul,Nat.one_mul] at hml
  simp only[List.foldl] at hn
  obtain⟨k,nm,vs,ds,ss⟩:=x
  simp only at hRx hRlx hn hxs
  have h3:=zK l
  have h4:=zK (R ss)
  have hRl':(R ss).length≤B:=by omega
  rw[YO] at hg
  simp(disch:=omega) only[l1,hlt,hg,go_sem]
  refine zb fun b5 hb5=>?_
  have hb53:b5≠b3:=fun e=>by subst e;rw[g3] at hb5;cases hb5
  simp(disch:=omega) only[g3,hb53,Ne.symm hb53,go_sem]
  refine zB (hRx _) fun o2 H2 hs2=>?_
  have k3:=hs2.kept b3 _ (by simp only[zc.upd,Ne.symm hb53,if_false];exact g3) (fun d e=>by cases e)
  have k5:=hs2.kept b5 _ (upd_same ..) (fun d e=>by cases e)
  have ko:zY H2 o l.length 1:=zY.ofKept (ho.upd hb5) hs2.kept fun _ _ _ _ e=>by cases e
  simp(disch:=omega) only[g3,k3,k5,hb53,Ne.symm hb53,go_sem]
  refine zu (by rw[h3];exact ko) ?_ ?_ fun o' H3 hs3=>?_
  ·simp only[h3,h4];omega
  ·simp only[h3,h4,maxLen];omega
  have e1:cT l++(cT (R ss)).map (·.map AV.strip1)=cT (l++R ss):=by simp[cT];intro a _;rfl
  have hs4:=hs3
  simp only[h3,h4] at hs4
  have nt:∀ b c,H2 b=some (.cells c)→∀ d,o≠.tip b d:=fun b c hc d e=>by subst e;simp only[zY] at ko;rw[hc] at ko;cases ko
  have j3:=hs4.kept b3 _ k3 (nt b3 _ k3)
  simp(disch:=omega) only[wrap64,j3,e1,go_sem]
  have hol3:zY (H3.upd b3 (.cells [.sl o' 1 (cT (l++R ss))])) o' (l++R ss).length 1:=zrH (by simpa using hs4.own) j3
  exact goJ (hJ () _ ⟨o',l++R ss,hn,upd_same ..,hol3,by simp only[Al5,Al2,Al3,Nat.add_mul,Nat.one_mul];omega⟩) (by simp(disch:=omega) only[wrap64,go_sem])
noncomputable def zad (s:SchD) (d:DocD) (n:Int):Bool :=
 if n=1 then zab ((d.ops.map (·.nm)).filter (fun n=>!decide (n=[])))
 else if n=2 then decide (0<d.ops.length)&&(decide (d.ops.length=1)||!zQ [] (d.ops.map (·.nm)))
 else if n=3 then !decide (s.m=[])||!d.ops.any fun o=>decide (o.k=1)
 else if n=4 then zab (d.frags.map (·.nm))
 else if n=5 then onM s d
 else if n=6 then zgX d
 else if n=7 then !zbJ d
 else if n=8 then zh6 d
 else false
theorem zvz (o:OpD):zg Tryz.prog 41 [.agg (cO o)] (.bool (decide (o.k=1))):=by
 obtain⟨k,nm,vs,ds,ss⟩:=o
 rw[YO]
 refine zg.go ir41 ck41 (Al4 _) fun KP Q hQ=>?_
 simp(disch:=omega) only[ir41,go_sem]
 exact hQ _ _ _ _ nofun rfl (by simp[zd,ze,AV.strip,AV.strip1])
theorem ztZ (s:SchD) (d:DocD) (n:Int) (hs:zJ s≤Lim) (hb:Zd d≤Lim) (hb2:lenD d*zw d+zw d≤1099511627776):zg Tryz.prog 17 [.agg (zq s),.agg (zX d),.int .i64 n] (.bool (zad s d n)):=by
 have hb3:=hb
 simp only[Zd,Lim] at hb3
 have hbd:zw d≤Lim:=by simp only[Lim];omega
 have hd1:=Zo d.ops
 have hd2:=yM d.frags
 have h0:bOs d.ops+bFs d.frags=zw d:=rfl
 have r1:=fun H=>ztO d H hbd
 have r1':=fun o:Own=>zg.low (args:=[.sl o 1 (cT ((d.ops.map (·.nm)).filter (fun n=>!decide (n=[]))))]) (zoY ((d.ops.map (·.nm)).filter (fun n=>!decide (n=[]))) (by
  have:=List.length_filter_le (fun n:List UInt8=>!decide (n=[])) (d.ops.map (·.nm))
  rw[List.length_map] at this
  simp only[Lim];omega))
 have r2:=fun H=>zvH d H hbd
 have r2':=fun o:Own=>zg.low (args:=[.sl o 1 (cT (d.ops.map (·.nm))),.str []]) (yR (d.ops.map (·.nm)) [] (by rw[List.length_map];simp only[Lim];omega))
 have r3:=anyOp cO (fun _=>rfl) d.ops 41 [] (fun o=>decide (o.k=1)) (by simp only[Lim];omega) (by kernel_rfl) fun o _=>zvz o
 have r4:=fun H=>zt9 d H hbd
 have r4':=fun o:Own=>zg.low (args:=[.sl o 1 (cT (d.frags.map (·.nm)))]) (zoY (d.frags.map (·.nm)) (by rw[List.length_map];simp only[Lim];omega))
 have r5:=onC s d (yc hs) hbd
 have r6:=zsX d hbd
 have r7:=zo5 d hb
 have r8:=zuT d hb hb2
 have l1:=Z2 d.ops
 have hol:d.ops.length≤1099511627776:=by omega
 have eR:zad s d n=zad s d n:=rfl
 conv at eR=>rhs;unfold zad
 generalize zad s d n=F at *
 generalize zab ((d.ops.map (·.nm)).filter (fun n=>!decide (n=[])))=x1 at *
 generalize zQ [] (d.ops.map (·.nm))=x2 at *
 generalize d.ops.any (fun o=>decide (o.k=1))=x3 at *
 generalize zab (d.frags.map (·.nm))=x4 at *
 generalize onM s d=x5 at *
 generalize zgX d=x6 at *
 generalize zbJ d=x7 at *
 generalize zh6 d=x8 at *
 obtain⟨ops,frags⟩:=d
 obtain⟨sd,sq,sm⟩:=s
 have hcd:zX ⟨ops,frags⟩=[.sl .no 5 (cOs ops),.sl .no 4 (cFs frags)]:=rfl
 simp only[zq,hcd] at r1 r2 r3 r4 r5 r6 r7 r8 eR l1 hol ⊢
 refine zg.go ir17 ck17 (Al4 _) fun KP Q hQ=>?_
 by_cases h1:n=1
 ·subst h1
  rw[if_pos rfl] at eR
  subst eR
  simp(disch:=omega) only[ir17,go_sem]
  refine zB (r1 _) fun o1 H1 _=>?_
  simp(disch:=omega) only[go_sem]
  refine za (r1' o1) ?_
  simp(disch:=omega) only[go_sem]
  exact hQ _ _ _ _ nofun rfl (by simp[zd,ze,AV.strip,AV.strip1])
 rw[if_neg h1] at eR
 by_cases h2:n=2
 ·subst h2
  rw[if_pos rfl] at eR
  subst eR
  by_cases z0:0<ops.length
  case neg =>
   have z1:¬ ((0:Int)<ops.length):=by omega
   simp(disch:=omega) only[ir17,l1,z1,go_sem]
   exact hQ _ _ _ _ nofun rfl (by simp[zd,ze,AV.strip,AV.strip1,z0])
  have z1:(0:Int)<ops.length:=by omega
  have z1':((0:Int)<ops.length)=True:=eq_true z1
  by_cases y:ops.length=1
  ·have y':((ops.length:Int)=1)=True:=eq_true (by omega)
   simp(disch:=omega) only[ir17,l1,z1',y',go_sem]
   exact hQ _ _ _ _ nofun rfl (by simp[zd,ze,AV.strip,AV.strip1,z0,y])
  ·have y':¬ ((ops.length:Int)=1):=by omega
   simp(disch:=omega) only[ir17,l1,z1',y',go_sem]
   refine zB (r2 _) fun o1 H1 _=>?_
   simp(disch:=omega) only[go_sem]
   refine za (r2' o1) ?_
   simp(disch:=omega) only[go_sem]
   exact hQ _ _ _ _ nofun rfl (by simp[zd,ze,AV.strip,AV.strip1,z0,y])
 rw[if_neg h2] at eR
 by_cases h3:n=3
 ·subst h3
  rw[if_pos rfl] at eR
  subst eR
  by_cases z:sm=[]
  ·have z':=eq_true z
   simp(disch:=omega) only[ir17,z',go_sem]
   refine za r3 ?_
   simp(disch:=omega) only[go_sem]
   exact hQ _ _ _ _ nofun rfl (by simp[zd,ze,AV.strip,AV.strip1,z])
  ·simp(disch:=omega) only[ir17,z,go_sem]
   exact hQ _ _ _ _ nofun rfl (by simp[zd,ze,AV.strip,AV.strip1,z])
 rw[if_neg h3] at eR
 by_cases h4:n=4
 ·subst h4
  rw[if_pos rfl] at eR
  subst eR
  simp(disch:=omega) only[ir17,go_sem]
  refine zB (r4 _) fun o1 H1 _=>?_
  simp(disch:=omega) only[go_sem]
  refine za (r4' o1) ?_
  simp(disch:=omega) only[go_sem]
  exact hQ _ _ _ _ nofun rfl (by simp[zd,ze,AV.strip,AV.strip1])
 rw[if_neg h4] at eR
 by_cases h5:n=5
 ·subst h5
  rw[if_pos rfl] at eR
  subst eR
  simp(disch:=omega) only[ir17,go_sem]
  refine za r5 ?_
  simp(disch:=omega) only[go_sem]
  exact hQ _ _ _ _ nofun rfl (by simp[zd,ze,AV.strip,AV.strip1])
 rw[if_neg h5] at eR
 by_cases h6:n=6
 ·subst h6
  rw[if_pos rfl] at eR
  subst eR
  simp(disch:=omega) only[ir17,go_sem]
  refine za r6 ?_
  simp(disch:=omega) only[go_sem]
  exact hQ _ _ _ _ nofun rfl (by simp[zd,ze,AV.strip,AV.strip1])
 rw[if_neg h6] at eR
 by_cases h7:n=7
 ·subst h7
  rw[if_pos rfl] at eR
  subst eR
  simp(disch:=omega) only[ir17,go_sem]
  refine za r7 ?_
  simp(disch:=omega) only[go_sem]
  exact hQ _ _ _ _ nofun rfl (by simp[zd,ze,AV.strip,AV.strip1])
 rw[if_neg h7] at eR
 by_cases h8:n=8
 ·subst h8
  rw[if_pos rfl] at eR
  subst eR
  simp(disch:=omega) only[ir17,go_sem]
  refine za r8 ?_
  simp(disch:=omega) only[go_sem]
  exact hQ _ _ _ _ nofun rfl (by simp[zd,ze,AV.strip,AV.strip1])
 rw[if_neg h8] at eR
 subst eR
 simp(disch:=omega) only[ir17,h1,h2,h3,h4,h5,h6,h7,h8,go_sem]
 exact hQ _ _ _ _ nofun rfl (by simp[zd,ze,AV.strip,AV.strip1])
theorem zk4 (t:TyD):(zaw t).nm=t.nm:=by unfold zaw;split<;>rfl
def zvm:Val→Int
 | .mk k _ _ _ _=>k
def zeY (v:VarD) (t:TyD) (has:Bool):Bool:=if !isM t||isM v.t then zaS v.t t else (has||(v.has&&!decide (zvm v.d=0)))&&zaS v.t (zaw t)
theorem zsN (v:VarD) (t:TyD) (has:Bool) (hv:v.t.nm.length≤Lim) (ht:t.nm.length≤Lim):zg Tryz.prog 112 [.agg (cW v),.agg (cTy t),.bool has] (.bool (zeY v t has)):=by
 have h1:=isC t ht
 have h2:=isC v.t hv
 have h3:=zk9 v.t t hv ht
 have h4:=zrQ t ht
 have h5:=zk9 v.t (zaw t) hv (by rw[zk4];exact ht)
 obtain⟨nm,⟨v1,v2,v3⟩,vh,⟨k,q,st,l,m⟩⟩:=v
 have e0:zeY ⟨nm,⟨v1,v2,v3⟩,vh,.mk k q st l m⟩ t has=if !isM t||isM ⟨v1,v2,v3⟩ then zaS ⟨v1,v2,v3⟩ t else (has||(vh&&!decide (k=0)))&&zaS ⟨v1,v2,v3⟩ (zaw t):=rfl
 generalize zeY ⟨nm,⟨v1,v2,v3⟩,vh,.mk k q st l m⟩ t has=F at *
 simp only at h2 h3 h5
 generalize isM t=x1 at *
 generalize isM ⟨v1,v2,v3⟩=x2 at *
 generalize zaS ⟨v1,v2,v3⟩ t=x3 at *
 generalize zaS ⟨v1,v2,v3⟩ (zaw t)=x5 at *
 generalize zaw t=t' at *
 obtain⟨t1,t2,t3⟩:=t
 obtain⟨u1,u2,u3⟩:=t'
 simp only[cTy] at h1 h2 h3 h4 h5 ⊢
 rw[z8]
 refine zg.go ir112 ck112 (Al4 _) fun KP Q hQ=>?_
 simp(disch:=omega) only[ir112,go_sem]
 refine za h1 ?_
 cases x1 with
 | false =>
  simp(disch:=omega) only[go_sem]
  refine za h3 ?_
  simp(disch:=omega) only[go_sem]
  exact hQ _ _ _ _ nofun rfl (by simp[zd,ze,AV.strip,AV.strip1,e0])
 | true =>
 simp(disch:=omega) only[go_sem]
 refine za h2 ?_
 cases x2 with
 | true =>
  simp(disch:=omega) only[go_sem]
  refine za h3 ?_
  simp(disch:=omega) only[go_sem]
  exact hQ _ _ _ _ nofun rfl (by simp[zd,ze,AV.strip,AV.strip1,e0])
 | false =>
 simp only[Bool.not_true,Bool.or_self,Al7,if_false] at e0
 cases has with
 | true =>
  simp(disch:=omega) only[go_sem]
  refine za h4 ?_
  simp(disch:=omega) only[go_sem]
  refine za h5 ?_
  simp(disch:=omega) only[go_sem]
  exact hQ _ _ _ _ nofun rfl (by simp[zd,ze,AV.strip,AV.strip1,e0])
 | false =>
 cases vh with
 | false =>
  simp(disch:=omega) only[go_sem]
  exact hQ _ _ _ _ nofun rfl (by simp[zd,ze,AV.strip,AV.strip1,e0])
 | true =>
 by_cases hk:k=0
 ·have hk':=eq_true hk
  simp(disch:=omega) only[hk',go_sem]
  exact hQ _ _ _ _ nofun rfl (by simp[zd,ze,AV.strip,AV.strip1,e0,hk])
 ·simp(disch:=omega) only[hk,go_sem]
  refine za h4 ?_
  simp(disch:=omega) only[go_sem]
  refine za h5 ?_
  simp(disch:=omega) only[go_sem]
  exact hQ _ _ _ _ nofun rfl (by simp[zd,ze,AV.strip,AV.strip1,e0,hk])
theorem zhH (d:DocD) (sels:List SelD):(y9 d sels).length≤d.frags.length:=by
 have h:∀(R:List (List UInt8)) (fs:List FragD) (a:List (List UInt8)),(fs.foldl (y6 R) a).length≤a.length+fs.length:=by
  intro R fs
  induction fs with
  | nil=>simp
  | cons f fs ih =>
   intro a
   have:=ih (y6 R a f)
   have h2:(y6 R a f).length≤a.length+1:=by unfold y6;split<;>simp
   simp only[List.foldl_cons,Al2];omega
 have:=h (yf d sels) d.frags []
 simpa[y9] using this
noncomputable def zg8 (s:SchD) (d:DocD) (n:List UInt8):List SpotD:=YI s ((zC d n).getD zFr).sels ((zC d n).getD zFr).on
noncomputable def ze7 (s:SchD) (d:DocD) (o:OpD):List SpotD:=YI s o.sels (ZQ s o)++(y9 d o.sels).flatMap (zg8 s d)
theorem zpJ (d:DocD) (n:List UInt8):bSs ((zC d n).getD zFr).sels≤bFs d.frags:=by
 cases h:zC d n with
 | none=>simp[zFr,bSs]
 | some f=>exact Nat.le_trans (zaq f) (zbC (List.mem_of_find?_eq_some h))
theorem ziI (s:SchD) (d:DocD) (hs:zJ s≤Lim) (hb:zw d≤Lim):∀ l:List (List UInt8),(l.flatMap (zg8 s d)).length≤l.length*zw d∧∀ y∈l.flatMap (zg8 s d),y.t.nm.length≤Lim
 | []=>by simp
 | n::r=>by
  have h1:=zpJ d n
  have h0:bFs d.frags≤zw d:=by simp only[zw];omega
  have h2:=zdl s hs ((zC d n).getD zFr).sels ((zC d n).getD zFr).on (by omega)
  have h3:=ziI s d hs hb r
  rw[List.flatMap_cons,Al2,Nat.add_mul,Nat.one_mul]
  refine⟨by rw[Al5];simp only[zg8] at h3 ⊢;omega,fun y hy=>?_⟩
  rcases List.mem_append.1 hy with h|h
  ·exact h2.2 y h
  ·exact h3.2 y h
theorem zri (s:SchD) (d:DocD) (o:OpD) (hs:zJ s≤Lim) (hb:zw d≤Lim) (ho:bSs o.sels≤zw d):(ze7 s d o).length≤zw d+lenD d*zw d∧∀ y∈ze7 s d o,y.t.nm.length≤Lim:=by
 have h1:=zdl s hs o.sels (ZQ s o) (by omega)
 have h2:=ziI s d hs hb (y9 d o.sels)
 have h3:=zhH d o.sels
 have h4:=yM d.frags
 have h0:bFs d.frags≤zw d:=by simp only[zw];omega
 have h5:(y9 d o.sels).length*zw d≤lenD d*zw d:=Nat.mul_le_mul_right _ (by simp only[lenD];omega)
 refine⟨by rw[ze7,Al5];omega,fun y hy=>?_⟩
 rcases List.mem_append.1 hy with h|h
 ·exact h1.2 y h
 ·exact h2.2 y h
theorem zuw (s:SchD) (d:DocD) (o:OpD) (H:zc) (hs:zJ s≤Lim) (hb:Zd d≤Lim) (hb2:lenD d*zw d+zw d≤1099511627776) (ho:bSs o.sels≤zw d):Y8 Tryz.prog 111 [.agg (zq s),.agg (zX d),.agg (cO o)] H .nil 5 (cPs (ze7 s d o)):=by
 have hb3:=hb
 simp only[Zd,Lim] at hb3
 have hbd:zw d≤Lim:=by simp only[Lim];omega
 have h0:bFs d.frags≤zw d:=by simp only[zw];omega
 have hfl:=yM d.frags
 have hroot:=zpO s o
 have hsp:=fun l typ H (h:bSs l≤zw d)=>ztu s hs (zw d) l typ H h hbd
 have hrch:=fun H=>zkX d o.sels H hb ho
 have hrl:=zhH d o.sels
 have hfr:=fun n=>zkK d n (by simp only[Lim];omega)
 have hfs:=fun n=>zpJ d n
 have hokA:=ziI s d hs hbd
 have hok1:=(zdl s hs o.sels (ZQ s o) (by omega)).1
 have e0:ze7 s d o=YI s o.sels (ZQ s o)++(y9 d o.sels).flatMap (zg8 s d):=rfl
 have eS:∀ n,zg8 s d n=YI s ((zC d n).getD zFr).sels ((zC d n).getD zFr).on:=fun _=>rfl
 have hmulA:(y9 d o.sels).length*zw d≤lenD d*zw d:=Nat.mul_le_mul_right _ (by simp only[lenD];omega)
 generalize ze7 s d o=F at *
 generalize ZQ s o=rt at *
 generalize y9 d o.sels=R at *
 obtain⟨k,nm,vs,ds,sels⟩:=o
 simp only at hok1 e0 ho hrch
 generalize hU0:YI s sels rt=U0 at *
 generalize hB:zw d=B at *
 have hcd:zX d=[.sl .no 5 (cOs d.ops),.sl .no 4 (cFs d.frags)]:=rfl
 obtain⟨sd,sq,sm⟩:=s
 generalize hS:(⟨sd,sq,sm⟩:SchD)=s at *
 have hcs:zq s=[.sl .no 6 (cEs sd),.str sq,.str sm]:=by rw[← hS];rfl
 simp only[hcs,hcd,YO] at hroot hsp hrch hfr ⊢
 have l1:=zK R
 refine zj.goO ir111 ck111 (Al4 _) fun KP Q hQ hP=>?_
 have fin:∀ r o,F=r→∀ ρ H1,zN ρ H1 ir111.res=some [.sl o 5 (cPs r)]→OwnS H .nil H1 o r.length 5→Q .ret ρ H1:=fun r o e ρ H1 h1 h2=>hQ _ ρ H1 H1 _ nofun h1 (Low.refl _) ⟨o,by rw[e];rfl,by rw[e,yh];exact h2⟩
 simp(disch:=omega) only[ir111,go_sem]
 refine za hroot ?_
 simp(disch:=omega) only[go_sem]
 refine zB (hsp sels rt _ ho) fun o1 H1 hs1=>?_
 rw[hU0] at hs1 ⊢
 rw[yh] at hs1
 simp(disch:=omega) only[go_sem]
 refine zB (hrch _) fun oR H2 hs2=>?_
 have hu:=YA hs1 hs2
 simp(disch:=omega) only[l1,go_sem]
 refine zf R 24 (fun x:Own×List SpotD=>[(7,.sl x.1 5 (cPs x.2))]) (fun done rest x H'=>x.2=U0++done.flatMap (zg8 s d)∧OwnS H .nil H' x.1 x.2.length 5) (o1,U0) (by simp(disch:=omega) only[go_sem]) ⟨by simp,hu⟩ ?_ ?_
 ·rintro⟨o3,a⟩ H3 J ⟨hn,hs3⟩ hlt
  simp only at hn
  subst hn
  simp(disch:=omega) only[l1,hlt,go_sem]
  exact fin _ o3 e0 _ _ rfl hs3
 ·rintro done x rest ⟨o3,a⟩ H3 J hd hlt _ ⟨hn,hs3⟩ hJ
  have hg:=ZZ hd
  have hfx:=hfr x
  have hfsx:=hfs x
  have eSx:=eS x
  simp only at hn
  replace hs3:OwnS H .nil H3 o3 a.length 5:=hs3
  have hal:=(hokA done).1
  have hdl:done.length*B≤R.length*B:=Nat.mul_le_mul_right _ (by omega)
  have hal1:=(hokA [x]).1
  simp only[List.flatMap_cons,List.flatMap_nil,List.append_nil,Al2,Al3,Nat.zero_add,Nat.one_mul] at hal1
  have hnx:U0++(done++[x]).flatMap (zg8 s d)=a++zg8 s d x:=by rw[List.flatMap_append,hn];simp[zbM]
  have hale:a.length=U0.length+(done.flatMap (zg8 s d)).length:=by rw[hn,Al5]
  rw[eSx] at hal1 hnx
  generalize (zC d x).isSome=fs at *
  generalize (zC d x).getD zFr=f at *
  obtain⟨fn,fo,fd,fss⟩:=f
  rw[Z3] at hfx
  simp only at hfsx hal1 hnx
  have hsx:=fun H=>hsp fss fo H (by omega)
  generalize YI s fss fo=U at *
  simp(disch:=omega) only[l1,hlt,hg,go_sem]
  refine za hfx ?_
  simp(disch:=omega) only[go_sem]
  refine zb fun b10 hb10=>?_
  have hu1:=hs3.upd (x:=.cells [.str fn,.str fo,.sl .no 2 (cDs fd),.sl .no 7 (cSs fss)]) hb10
  simp(disch:=omega) only[go_sem]
  refine zB (hsx _) fun o4 H4 hs4=>?_
  have hu4:=YA hu1 hs4
  simp(disch:=omega) only[go_sem]
  refine zu (by rw[yh];exact hu4.own) ?_ ?_ fun o5 H5 hs5=>?_
  ·simp only[yh];omega
  ·simp only[yh,maxLen];omega
  simp only[yh] at hs5
  simp(disch:=omega) only[wrap64,zck,go_sem]
  exact goJ (hJ (o5,a++U) H5 ⟨hnx.symm,by rw[Al5];exact hu4.trans hs5⟩) (by simp(disch:=omega) only[wrap64,go_sem])
noncomputable def zhp (s:SchD) (ps:List VarD) (l:List Mem):Bool:=l.all fun m=>match m with|.mk n v=>match yb ps n with|none=>true|some p=>ZK s p.t v
theorem zu1 (s:SchD) (ps:List VarD) (l:List Mem) (hs:zJ s≤Lim) (hp:bWs ps≤Lim) (hb:bMs l≤Lim):zg Tryz.prog 110 [.sl .no 10 (cWs ps),.sl .no 6 (cMs l),.view (zq s)] (.bool (zhp s ps l)):=by
 have hml:=Ze l
 have h1m:=Za l
 have hEl:=yS ps
 have hb':=hb
 simp only[Lim] at hb'
 have hpar:=fun n=>zdT ps n (by omega)
 have hmem:∀ n x,Mem.mk n x∈l→∀ p,yb ps n=some p→zg Tryz.prog 109 [.agg (zq s),.agg (cTy p.t),.agg (cV x)] (.bool (ZK s p.t x)):=fun n x hx p hp=>by
  have hxb:bV x≤Lim:=by have:=zed hx;omega
  have hpm:p∈ps:=List.mem_of_find?_eq_some hp
  have hpt:p.t.nm.length≤Lim:=by have:=Ys hpm;simp only[bW] at this;omega
  exact zfd s p.t x hs hxb hpt
 have hst:∀ n v r,zhp s ps (.mk n v::r)=((match yb ps n with|none=>true|some p=>ZK s p.t v)&&zhp s ps r):=fun n v r=>by simp only[zhp,List.all_cons]
 have h00:zhp s ps []=true:=rfl
 generalize hR:zhp s ps=R at *
 obtain⟨sd,sq,sm⟩:=s
 generalize hS:(⟨sd,sq,sm⟩:SchD)=s at *
 have hcs:zq s=[.sl .no 6 (cEs sd),.str sq,.str sm]:=by rw[← hS];rfl
 simp only[hcs] at hmem ⊢
 refine zg.go ir110 ck110 (Al4 _) fun KP Q hQ=>?_
 simp(disch:=omega) only[ir110,h1m,go_sem]
 refine zf l 12 (fun _:Unit=>[]) (fun done rest _ H=>R rest=R l) () (by simp(disch:=omega) only[go_sem]) rfl ?_ ?_
 ·rintro _ H J hn hlt
  rw[h00] at hn
  simp(disch:=omega) only[h1m,hlt,go_sem]
  exact hQ _ _ _ _ nofun rfl (by simp[zd,ze,AV.strip,AV.strip1,← hn])
 ·rintro done x rest _ H J hd hlt _ hn hJ
  have hg:=Zs hd
  have hxm:x∈l:=by rw[hd];simp
  obtain⟨xn,⟨xk,xq,xs,xl,xml⟩⟩:=x
  have hp:=hpar xn
  have hme:=hmem xn _ hxm
  rw[hst] at hn
  rw[zr,yo] at hg
  simp(disch:=omega) only[h1m,hlt,hg,go_sem]
  refine zb fun b7 hb7=>?_
  simp(disch:=omega) only[go_sem]
  refine za hp ?_
  cases hpm:yb ps xn with
  | none =>
   rw[hpm] at hn
   simp(disch:=omega) only[Option.getD,Option.isSome,zW,zV,z8,go_sem]
   refine zb fun b8 hb8=>?_
   simp(disch:=omega) only[go_sem]
   exact goJ (hJ () _ (by simpa using hn)) (by simp(disch:=omega) only[wrap64,go_sem])
  | some p =>
   rw[hpm] at hn
   replace hme:=hme p hpm
   obtain⟨pn,⟨p1,p2,p3⟩,ph,⟨yk,yq,ys,yl,ym⟩⟩:=p
   simp only[cTy,yo] at hme hn
   generalize ZK s ⟨p1,p2,p3⟩ (.mk xk xq xs xl xml)=x1 at *
   simp(disch:=omega) only[Option.getD,Option.isSome,z8,go_sem]
   refine zb fun b8 hb8=>?_
   have hne3:b7≠b8:=fun e=>by subst e;simp[zc.upd] at hb8
   simp(disch:=omega) only[hne3,Ne.symm hne3,go_sem]
   refine za hme ?_
   cases x1 with
   | false =>
    simp(disch:=omega) only[go_sem]
    exact hQ _ _ _ _ nofun rfl (by simp[zd,ze,AV.strip,AV.strip1,← hn])
   | true =>
    simp(disch:=omega) only[go_sem]
    exact goJ (hJ () _ (by simpa using hn)) (by simp(disch:=omega) only[wrap64,go_sem])
noncomputable def zkU (s:SchD) (l:List VarD):Bool:=l.all fun v=>!v.has||ZK s v.t v.d
noncomputable def zdo (s:SchD) (d:DocD):Bool:=(d.ops.all fun o=>zkU s o.vars)&&ZG s d (zd2 s (zhp s))
theorem zn7 (s:SchD) (d:DocD) (hs:zJ s≤Lim) (hb:zw d≤Lim):zg Tryz.prog 63 [.agg (zq s),.agg (zX d)] (.bool (zdo s d)):=by
 have hw:=zeE s d 110 [.view (zq s)] (zhp s) hs hb ⟨by kernel_rfl,fun ps l hp hl=>zu1 s ps l hs hp hl⟩
 have hb':=hb
 simp only[Lim,zw] at hb'
 have hol:=Zo d.ops
 have l1:=Z2 d.ops
 have hlit:∀ o∈d.ops,∀ v∈o.vars,zg Tryz.prog 109 [.agg (zq s),.agg (cTy v.t),.agg (cV v.d)] (.bool (ZK s v.t v.d)):=fun o ho v hv=>by
  obtain⟨a,b,hd⟩:=List.append_of_mem ho
  have:=YW a o b
  rw[← hd] at this
  have h2:=Ys hv
  simp only[bO] at this
  simp only[bW] at h2
  exact zfd s v.t v.d hs (by simp only[Lim];omega) (by simp only[Lim];omega)
 have hvl:∀ o∈d.ops,o.vars.length≤1099511627776:=fun o ho=>by
  obtain⟨a,b,hd⟩:=List.append_of_mem ho
  have:=YW a o b
  rw[← hd] at this
  have h2:=yS o.vars
  simp only[bO] at this
  omega
 have e0:zdo s d=((d.ops.all fun o=>zkU s o.vars)&&ZG s d (zd2 s (zhp s))):=rfl
 have hV:∀ v r,zkU s (v::r)=((!v.has||ZK s v.t v.d)&&zkU s r):=fun v r=>by simp only[zkU,List.all_cons]
 have hV0:zkU s []=true:=rfl
 generalize zdo s d=F at *
 generalize ZG s d (zd2 s (zhp s))=x1 at *
 generalize zkU s=R at *
 obtain⟨ops,frags⟩:=d
 obtain⟨sd,sq,sm⟩:=s
 generalize hS:(⟨sd,sq,sm⟩:SchD)=s at *
 have hcs:zq s=[.sl .no 6 (cEs sd),.str sq,.str sm]:=by rw[← hS];rfl
 have hcd:zX ⟨ops,frags⟩=[.sl .no 5 (cOs ops),.sl .no 4 (cFs frags)]:=rfl
 simp only[hcs,hcd] at hw hlit l1 hvl e0 hol hb' ⊢
 refine zg.go ir63 ck63 (Al4 _) fun KP Q hQ=>?_
 simp(disch:=omega) only[ir63,l1,go_sem]
 refine zf ops 12 (fun _:Unit=>[]) (fun done rest _ H=>(rest.all fun o=>R o.vars)=ops.all fun o=>R o.vars) () (by simp(disch:=omega) only[go_sem]) rfl ?_ ?_
 ·rintro _ H J hn hlt
  rw[← hn] at e0
  simp(disch:=omega) only[l1,hlt,go_sem]
  refine za hw ?_
  simp(disch:=omega) only[go_sem]
  exact hQ _ _ _ _ nofun rfl (by simp[zd,ze,AV.strip,AV.strip1,e0])
 ·rintro done x rest _ H J hd hlt _ hn hJ
  have hg:=Yc hd
  have hxm:x∈ops:=by rw[hd];simp
  have hlx:=hlit x hxm
  have hvx:=hvl x hxm
  rw[List.all_cons] at hn
  obtain⟨k,nm,vs,ds,ss⟩:=x
  simp only at hlx hn hvx
  have l2:=Zr vs
  rw[YO] at hg
  simp(disch:=omega) only[l1,hlt,hg,go_sem]
  refine zb fun b6 hb6=>?_
  simp(disch:=omega) only[l2,go_sem]
  refine zf vs 19 (fun _:Unit=>[]) (fun done rest _ H=>R rest=R vs) () (by simp(disch:=omega) only[go_sem]) rfl ?_ ?_
  ·rintro _ H2 J2 hn2 hlt2
   rw[hV0] at hn2
   rw[← hn2,Bool.true_and] at hn
   simp(disch:=omega) only[l2,hlt2,go_sem]
   exact goJ (hJ () _ hn) (by simp(disch:=omega) only[wrap64,go_sem])
  ·rintro done2 x2 rest2 _ H2 J2 hd2 hlt2 _ hn2 hJ2
   have hg2:=Zm hd2
   have hx2:=hlx x2 (by rw[hd2];simp)
   rw[hV] at hn2
   obtain⟨vn,⟨v1,v2,v3⟩,vh,⟨yk,yq,ys,yl,ym⟩⟩:=x2
   simp only[cTy,yo] at hx2 hn2
   generalize ZK s ⟨v1,v2,v3⟩ (.mk yk yq ys yl ym)=x3 at *
   rw[z8] at hg2
   simp(disch:=omega) only[l2,hlt2,hg2,go_sem]
   refine zb fun b8 hb8=>?_
   cases vh with
   | false =>
    simp(disch:=omega) only[go_sem]
    exact goJ (hJ2 () _ (by simpa using hn2)) (by simp(disch:=omega) only[wrap64,go_sem])
   | true =>
    simp(disch:=omega) only[go_sem]
    refine za hx2 ?_
    cases x3 with
    | true =>
     simp(disch:=omega) only[go_sem]
     exact goJ (hJ2 () _ (by simpa using hn2)) (by simp(disch:=omega) only[wrap64,go_sem])
    | false =>
     have hf:R vs=false:=by rw[← hn2];rfl
     rw[hf,Bool.false_and] at hn
     rw[← hn] at e0
     simp(disch:=omega) only[go_sem]
     exact hQ _ _ _ _ nofun rfl (by simp[zd,ze,AV.strip,AV.strip1,e0])
def zng (vs:List VarD) (x:SpotD):Bool:=match yb vs x.nm with|none=>false|some v=>zeY v x.t x.has
noncomputable def zoR (s:SchD) (d:DocD) (o:OpD):Bool:=(ze7 s d o).all (zng o.vars)
noncomputable def znT (s:SchD) (d:DocD):Bool:=d.ops.all (zoR s d)
theorem zvG (s:SchD) (d:DocD) (hs:zJ s≤Lim) (hb:Zd d≤Lim) (hb2:lenD d*zw d+zw d≤1099511627776):zg Tryz.prog 64 [.agg (zq s),.agg (zX d)] (.bool (znT s d)):=by
 have hb3:=hb
 simp only[Zd,Lim] at hb3
 have hbd:zw d≤Lim:=by simp only[Lim];omega
 have hb0:bOs d.ops≤zw d:=by simp only[zw];omega
 have hol:=Zo d.ops
 have l1:=Z2 d.ops
 have hop:∀ o∈d.ops,bO o≤zw d:=fun o ho=>by
  obtain⟨a,b,hd⟩:=List.append_of_mem ho
  have:=YW a o b
  rw[← hd] at this
  omega
 have hsp:=fun(o:OpD) (ho:o∈d.ops) (H:zc)=>zuw s d o H hs hb hb2 (by have:=hop o ho;simp only[bO] at this;omega)
 have hok:=fun(o:OpD) (ho:o∈d.ops)=>zri s d o hs hbd (by have:=hop o ho;simp only[bO] at this;omega)
 have hdef:=fun(o:OpD) (ho:o∈d.ops) n=>zmJ o n (by have:=hop o ho;have:=yS o.vars;simp only[bO] at *;omega)
 have hall:∀ o∈d.ops,∀ x∈ze7 s d o,∀ v,yb o.vars x.nm=some v→zg Tryz.prog 112 [.agg (cW v),.agg (cTy x.t),.bool x.has] (.bool (zeY v x.t x.has)):=fun o ho x hx v hv=>by
  have hvm:v∈o.vars:=List.mem_of_find?_eq_some hv
  have h2:=Ys hvm
  have h3:=hop o ho
  simp only[bO] at h3
  simp only[bW] at h2
  exact zsN v x.t x.has (by omega) ((hok o ho).2 x hx)
 have e0:znT s d=d.ops.all (zoR s d):=rfl
 have eO:∀ o,zoR s d o=(ze7 s d o).all (zng o.vars):=fun _=>rfl
 generalize znT s d=F at *
 generalize zoR s d=A at *
 generalize ze7 s d=U at *
 generalize hB:zw d=B at *
 have hcd:zX d=[.sl .no 5 (cOs d.ops),.sl .no 4 (cFs d.frags)]:=rfl
 obtain⟨sd,sq,sm⟩:=s
 generalize hS:(⟨sd,sq,sm⟩:SchD)=s at *
 have hcs:zq s=[.sl .no 6 (cEs sd),.str sq,.str sm]:=by rw[← hS];rfl
 simp only[hcs,hcd] at hsp ⊢
 refine zg.go ir64 ck64 (Al4 _) fun KP Q hQ=>?_
 simp(disch:=omega) only[ir64,l1,go_sem]
 refine zf d.ops 15 (fun _:Unit=>[(5,.bool true)]) (fun done rest _ H=>rest.all A=d.ops.all A) () (by simp(disch:=omega) only[go_sem]) rfl ?_ ?_
 ·rintro _ H J hn hlt
  rw[← hn] at e0
  simp(disch:=omega) only[l1,hlt,go_sem]
  exact hQ _ _ _ _ nofun rfl (by simp[zd,ze,AV.strip,AV.strip1,e0])
 ·rintro done x rest _ H J hd hlt _ hn hJ
  have hg:=Yc hd
  have hxm:x∈d.ops:=by rw[hd];simp
  have hsx:=hsp x hxm
  have hokx:=(hok x hxm).1
  have hdx:=hdef x hxm
  have hax:=hall x hxm
  have eOx:=eO x
  rw[List.all_cons] at hn
  generalize U x=L at *
  have l2:=yh L
  obtain⟨k,nm,vs,ds,ss⟩:=x
  simp only at hax eOx hdx
  generalize A ⟨k,nm,vs,ds,ss⟩=a at *
  rw[YO] at hg hdx hsx
  simp(disch:=omega) only[l1,hlt,hg,go_sem]
  refine zb fun b7 hb7=>?_
  simp(disch:=omega) only[go_sem]
  refine zB (hsx _) fun o2 H2 hs2=>?_
  have c7:H2 b7=some (.cells [.int .i64 k,.str nm,.sl .no 10 (cWs vs),.sl .no 2 (cDs ds),.sl .no 7 (cSs ss)]):=hs2.kept b7 _ (upd_same ..) (fun d e=>by cases e)
  simp(disch:=omega) only[l2,go_sem]
  refine zf L 24 (fun _:Unit=>[(5,.bool true)]) (fun done rest _ H=>rest.all (zng vs)=L.all (zng vs)∧H b7=some (.cells [.int .i64 k,.str nm,.sl .no 10 (cWs vs),.sl .no 2 (cDs ds),.sl .no 7 (cSs ss)])) () (by simp(disch:=omega) only[go_sem]) ⟨rfl,c7⟩ ?_ ?_
  ·rintro _ H3 J2 ⟨hn2,c7⟩ hlt2
   have ha:a=true:=by rw[eOx,← hn2];rfl
   rw[ha,Bool.true_and] at hn
   simp(disch:=omega) only[l2,hlt2,go_sem]
   exact goJ (hJ () _ hn) (by simp(disch:=omega) only[wrap64,go_sem])
  ·rintro done2 x2 rest2 _ H3 J2 hd2 hlt2 _ ⟨hn2,c7⟩ hJ2
   have hg2:=zrE hd2
   have hax2:=hax x2 (by rw[hd2];simp)
   rw[List.all_cons] at hn2
   have e2:zng vs x2=match yb vs x2.nm with|none=>false|some v=>zeY v x2.t x2.has:=rfl
   generalize zng vs x2=y at *
   obtain⟨pn,⟨p1,p2,p3⟩,ph⟩:=x2
   simp only[cP] at hg2
   simp only[cTy] at hax2 e2
   have hdn:=hdx pn
   simp(disch:=omega) only[l2,hlt2,hg2,go_sem]
   refine zb fun b9 hb9=>?_
   have hne:b7≠b9:=fun e=>by subst e;rw[c7] at hb9;cases hb9
   simp(disch:=omega) only[c7,hne,Ne.symm hne,go_sem]
   refine za hdn ?_
   cases hpm:yb vs pn with
   | none =>
    rw[hpm] at e2
    simp only at e2
    rw[e2,Bool.false_and] at hn2
    rw[← hn2] at eOx
    rw[eOx,Bool.false_and] at hn
    rw[← hn] at e0
    simp(disch:=omega) only[Option.getD,Option.isSome,zW,zV,z8,go_sem]
    refine zb fun b10 hb10=>?_
    simp(disch:=omega) only[go_sem]
    exact hQ _ _ _ _ nofun rfl (by simp[zd,ze,AV.strip,AV.strip1,e0])
   | some v =>
    rw[hpm] at e2
    replace hax2:=hax2 v hpm
    simp only at e2
    rw[← e2] at hax2
    obtain⟨vn,⟨v1,v2,v3⟩,vh,⟨yk,yq,ys,yl,ym⟩⟩:=v
    rw[z8] at hax2
    simp(disch:=omega) only[Option.getD,Option.isSome,z8,go_sem]
    refine zb fun b10 hb10=>?_
    have hne2:b7≠b10:=fun e=>by subst e;simp[zc.upd,hne,c7] at hb10
    have hne3:b9≠b10:=fun e=>by subst e;simp[zc.upd] at hb10
    simp(disch:=omega) only[c7,hne,Ne.symm hne,hne2,Ne.symm hne2,hne3,Ne.symm hne3,go_sem]
    refine za hax2 ?_
    cases y with
    | true =>
     simp(disch:=omega) only[go_sem]
     exact goJ (hJ2 () _ ⟨by simpa using hn2,by simp(disch:=omega) only[c7,hne,Ne.symm hne,hne2,Ne.symm hne2,go_sem]⟩) (by simp(disch:=omega) only[wrap64,go_sem])
    | false =>
     rw[Bool.false_and] at hn2
     rw[← hn2] at eOx
     rw[eOx,Bool.false_and] at hn
     rw[← hn] at e0
     simp(disch:=omega) only[go_sem]
     exact hQ _ _ _ _ nofun rfl (by simp[zd,ze,AV.strip,AV.strip1,e0])
noncomputable def zbu (s:SchD) (d:DocD) (n:Int):Bool:=if n=22 then zdo s d else if n=23 then znT s d else false
theorem zq1 (s:SchD) (d:DocD) (n:Int) (hs:zJ s≤Lim) (hb:Zd d≤Lim) (hb2:lenD d*zw d+zw d≤1099511627776):zg Tryz.prog 22 [.agg (zq s),.agg (zX d),.int .i64 n] (.bool (zbu s d n)):=by
 have hb3:=hb
 simp only[Zd,Lim] at hb3
 have r1:=zn7 s d hs (by simp only[Lim];omega)
 have r2:=zvG s d hs hb hb2
 unfold zbu
 generalize zdo s d=x1 at *
 generalize znT s d=x2 at *
 have hcd:zX d=[.sl .no 5 (cOs d.ops),.sl .no 4 (cFs d.frags)]:=rfl
 obtain⟨sd,sq,sm⟩:=s
 simp only[zq,hcd] at r1 r2 ⊢
 refine zg.go ir22 ck22 (Al4 _) fun KP Q hQ=>?_
 by_cases h1:n=22
 ·subst h1
  simp(disch:=omega) only[ir22,go_sem]
  refine za r1 ?_
  simp(disch:=omega) only[go_sem]
  exact hQ _ _ _ _ nofun rfl (by simp[zd,ze,AV.strip,AV.strip1])
 by_cases h2:n=23
 ·subst h2
  simp(disch:=omega) only[ir22,go_sem]
  refine za r2 ?_
  simp(disch:=omega) only[go_sem]
  exact hQ _ _ _ _ nofun rfl (by simp[zd,ze,AV.strip,AV.strip1])
 simp(disch:=omega) only[ir22,h1,h2,go_sem]
 exact hQ _ _ _ _ nofun rfl (by simp[zd,ze,AV.strip,AV.strip1,h1,h2])
noncomputable def ZR (s:SchD) (d:DocD) (n:Int):Bool :=
 if n<9 then zad s d n else if n<12 then zaE s d n else if n<15 then zaG s d n else if n<18 then zaJ s d n
 else if n<22 then zcW s d n else if n<24 then zbu s d n else zaT s d n
structure ValH (s:SchD) (d:DocD):Prop where
 sw:zbV s
 dw:zcK d
 sb:zJ s≤1048576
 db:zw d≤16777216
 ln:lenD d≤3200
 sz:∀ x∈ya d,Sz d 40 x
theorem zpz {s:SchD} {d:DocD} (h1:zbV s) (h2:zcK d) (h3:zJ s≤1048576) (h4:zw d≤1048575) (h:zas s d=true):ValH s d:=by
 refine⟨h1,h2,h3,by omega,?_,zk5 h⟩
 simp only[zas,zdP,Al0,yX] at h
 have o1:=zap (f:=lO) (fun x=>by simp only[lO];omega) d.ops
 have o2:=zap (f:=lF) (fun x=>by simp only[lF];omega) d.frags
 simp only[lOs,lFs,lenD] at *
 omega
theorem ztt (s:SchD) (d:DocD) (n:Int) (h:ValH s d):zg Tryz.prog 8 [.agg (zq s),.agg (zX d),.int .i64 n] (.bool (ZR s d n)):=by
 have hsb:=h.sb
 have hdb:=h.db
 have hs1:zJ s≤Lim:=by simp only[Lim];omega
 have hs2:zJ s+1≤Lim:=by simp only[Lim];omega
 have hd1:zw d≤Lim:=by simp only[Lim];omega
 have hr:Zd d≤Lim:=by simp only[Zd,Lim];omega
 have hb2:lenD d*zw d+zw d≤1099511627776:=by
  have:lenD d*zw d≤3200*16777216:=Nat.mul_le_mul h.ln hdb
  omega
 have r1:=ztZ s d n hs1 hr hb2
 have r2:=zpM s d n hs2 hd1
 have r3:=zpX s d n hs1 hd1
 have r4:=zp9 s d n hs1 hd1
 have r5:=ztd s d n hs1 hr hb2
 have r6:=zq1 s d n hs1 hr hb2
 have r7:=mgC s d n hs1 hr (by omega) h.sz
 have e0:ZR s d n=if n<9 then zad s d n else if n<12 then zaE s d n else if n<15 then zaG s d n else if n<18 then zaJ s d n
  else if n<22 then zcW s d n else if n<24 then zbu s d n else zaT s d n:=rfl
 generalize ZR s d n=F at *
 generalize zad s d n=x1 at *
 generalize zaE s d n=x2 at *
 generalize zaG s d n=x3 at *
 generalize zaJ s d n=x4 at *
 generalize zcW s d n=x5 at *
 generalize zbu s d n=x6 at *
 generalize zaT s d n=x7 at *
 have hcd:zX d=[.sl .no 5 (cOs d.ops),.sl .no 4 (cFs d.frags)]:=rfl
 have hcs:zq s=[.sl .no 6 (cEs s.defs),.str s.q,.str s.m]:=rfl
 simp only[hcs,hcd] at r1 r2 r3 r4 r5 r6 r7 ⊢
 refine zg.go ir8 ck8 (Al4 _) fun KP Q hQ=>?_
 by_cases h1:n<9
 ·rw[if_pos h1] at e0
  have h1':=eq_true h1
  simp(disch:=omega) only[ir8,h1',go_sem]
  refine za r1 ?_
  simp(disch:=omega) only[go_sem]
  exact hQ _ _ _ _ nofun rfl (by simp[zd,ze,AV.strip,AV.strip1,e0])
 rw[if_neg h1] at e0
 by_cases h2:n<12
 ·rw[if_pos h2] at e0
  have h2':=eq_true h2
  simp(disch:=omega) only[ir8,h1,h2',go_sem]
  refine za r2 ?_
  simp(disch:=omega) only[go_sem]
  exact hQ _ _ _ _ nofun rfl (by simp[zd,ze,AV.strip,AV.strip1,e0])
 rw[if_neg h2] at e0
 by_cases h3:n<15
 ·rw[if_pos h3] at e0
  have h3':=eq_true h3
  simp(disch:=omega) only[ir8,h1,h2,h3',go_sem]
  refine za r3 ?_
  simp(disch:=omega) only[go_sem]
  exact hQ _ _ _ _ nofun rfl (by simp[zd,ze,AV.strip,AV.strip1,e0])
 rw[if_neg h3] at e0
 by_cases h4:n<18
 ·rw[if_pos h4] at e0
  have h4':=eq_true h4
  simp(disch:=omega) only[ir8,h1,h2,h3,h4',go_sem]
  refine za r4 ?_
  simp(disch:=omega) only[go_sem]
  exact hQ _ _ _ _ nofun rfl (by simp[zd,ze,AV.strip,AV.strip1,e0])
 rw[if_neg h4] at e0
 by_cases h5:n<22
 ·rw[if_pos h5] at e0
  have h5':=eq_true h5
  simp(disch:=omega) only[ir8,h1,h2,h3,h4,h5',go_sem]
  refine za r5 ?_
  simp(disch:=omega) only[go_sem]
  exact hQ _ _ _ _ nofun rfl (by simp[zd,ze,AV.strip,AV.strip1,e0])
 rw[if_neg h5] at e0
 by_cases h6:n<24
 ·rw[if_pos h6] at e0
  have h6':=eq_true h6
  simp(disch:=omega) only[ir8,h1,h2,h3,h4,h5,h6',go_sem]
  refine za r6 ?_
  simp(disch:=omega) only[go_sem]
  exact hQ _ _ _ _ nofun rfl (by simp[zd,ze,AV.strip,AV.strip1,e0])
 rw[if_neg h6] at e0
 simp(disch:=omega) only[ir8,h1,h2,h3,h4,h5,h6,go_sem]
 refine za r7 ?_
 simp(disch:=omega) only[go_sem]
 exact hQ _ _ _ _ nofun rfl (by simp[zd,ze,AV.strip,AV.strip1,e0])
noncomputable def zfQ (s:SchD) (d:DocD):Nat→Int→Int
 | 0,_=>0
 | k+1,n=>if ZR s d n=true then zfQ s d k (n+1) else n
noncomputable def ZA (s:SchD) (d:DocD):Int:=if zeF s 9 1≠0∨Z6 d=false then 25 else zfQ s d 24 1
theorem zg1 (s:SchD) (d:DocD) (h:ValH s d):zg Tryz.prog 9 [.agg (zq s),.agg (zX d)] (.int .i64 (ZA s d)):=by
 have hsb:=h.sb
 have hdb:=h.db
 have hR:=fun n=>ztt s d n h
 have hs:=zqG s h.sw (by simp only[Lim];omega)
 have hd:=zqB d h.dw (by simp only[Lim];omega)
 have e0:ZA s d=if zeF s 9 1≠0∨Z6 d=false then 25 else zfQ s d 24 1:=rfl
 have eC:∀ k n,zfQ s d (k+1) n=if ZR s d n=true then zfQ s d k (n+1) else n:=fun _ _=>rfl
 have eC0:∀ n,zfQ s d 0 n=0:=fun _=>rfl
 generalize ZA s d=F at *
 generalize zfQ s d=C at *
 generalize ZR s d=V at *
 generalize zeF s 9 1=x1 at *
 generalize Z6 d=x2 at *
 have hcd:zX d=[.sl .no 5 (cOs d.ops),.sl .no 4 (cFs d.frags)]:=rfl
 have hcs:zq s=[.sl .no 6 (cEs s.defs),.str s.q,.str s.m]:=rfl
 simp only[hcs,hcd] at hR hs hd ⊢
 refine zg.go ir9 ck9 (Al4 _) fun KP Q hQ=>?_
 simp(disch:=omega) only[ir9,go_sem]
 refine za hs ?_
 by_cases hx:x1=0
 case neg =>
  rw[if_pos (.inl hx)] at e0
  simp(disch:=omega) only[hx,go_sem]
  exact hQ _ _ _ _ nofun rfl (by simp[zd,ze,AV.strip,AV.strip1,e0])
 have hx':=eq_true hx
 simp(disch:=omega) only[hx',go_sem]
 refine za hd ?_
 cases x2 with
 | false =>
  rw[if_pos (.inr rfl)] at e0
  simp(disch:=omega) only[go_sem]
  exact hQ _ _ _ _ nofun rfl (by simp[zd,ze,AV.strip,AV.strip1,e0])
 | true =>
 rw[if_neg (by simp[hx])] at e0
 simp(disch:=omega) only[go_sem]
 refine zbF (fun x:Nat×Int=>[(5,.int .i64 0),(6,.int .i64 x.2)]) (fun x _=>(x.1:Int)+x.2=25∧x.1≤24∧C x.1 x.2=F) (fun x=>x.1) (24,1) (by simp(disch:=omega) only[go_sem]) ⟨by omega,by omega,e0.symm⟩ ?_
 rintro⟨k,n⟩ H J ⟨hk,hn9,hn⟩ hJ
 simp only at hk hn9 hn
 cases k with
 | zero =>
  rw[eC0] at hn
  subst hn
  have hle:¬ (n≤24):=by omega
  simp(disch:=omega) only[hle,go_sem]
  exact hQ _ _ _ _ nofun rfl (by simp[zd,ze,AV.strip,AV.strip1])
 | succ k =>
  rw[eC] at hn
  have hr:=hR n
  have hle:(n≤24)=True:=eq_true (by omega)
  generalize hx:V n=x at *
  simp(disch:=omega) only[hle,go_sem]
  refine za hr ?_
  cases x with
  | true =>
   rw[if_pos rfl] at hn
   simp(disch:=omega) only[wrap64,go_sem]
   exact goJ (hJ (k,n+1) _ (by simp only;omega) ⟨by simp only;omega,by simp only;omega,hn⟩) (by simp(disch:=omega) only[wrap64,go_sem])
  | false =>
   rw[if_neg (by simp)] at hn
   subst hn
   simp(disch:=omega) only[go_sem]
   exact hQ _ _ _ _ nofun rfl (by simp[zd,ze,AV.strip,AV.strip1])
mutual
def zhm (n:List UInt8):SelD→Prop
 | .mk k _ nm _ _ _ sels=>(k=1∧nm=n)∨Yi n sels
def Yi (n:List UInt8):List SelD→Prop
 | []=>False
 | x::r=>zhm n x∨Yi n r
end
theorem zgP {x:List UInt8} {l:List (List UInt8)}:zQ x l=false↔x ∉ l:=by
 rw[← ZD];cases zQ x l<;>simp
mutual
theorem zpg (x:List UInt8):∀(y:SelD) (l:List (List UInt8)),x∈zcN y l↔x∈l∨zhm x y
 | .mk k al nm args dirs on sels,l=>by
  simp only[zcN,zhm]
  rw[Yd x sels]
  by_cases hk:k=1
  ·cases hh:zQ nm l with
   | true =>
    have hm:=(ZD nm l).1 hh
    simp only[hk,true_and,Bool.true_eq_false,if_false]
    constructor
    ·rintro(h|h)
     ·exact .inl h
     ·exact .inr (.inr h)
    ·rintro(h|rfl|h)
     ·exact .inl h
     ·exact .inl hm
     ·exact .inr h
   | false =>
    simp only[hk,true_and,if_true,List.mem_append,List.mem_singleton]
    constructor
    ·rintro((h|h)|h)
     ·exact .inl h
     ·exact .inr (.inl h.symm)
     ·exact .inr (.inr h)
    ·rintro(h|h|h)
     ·exact .inl (.inl h)
     ·exact .inl (.inr h.symm)
     ·exact .inr h
  ·simp[hk]
theorem Yd (x:List UInt8):∀(r:List SelD) (l:List (List UInt8)),x∈yK r l↔x∈l∨Yi x r
 | [],l=>by simp[yK,Yi]
 | y::r,l=>by
  simp only[yK,Yi]
  rw[Yd x r,zpg x y,or_assoc]
end
theorem zil {n:List UInt8} {x:SelD}:∀ {l:List SelD},x∈l→zhm n x→Yi n l
 | y::l,h,hn=>by
  simp only[Yi]
  rcases List.mem_cons.1 h with rfl|h
  ·exact .inl hn
  ·exact .inr (zil h hn)
structure PartD (a d:DocD):Prop where
 ops:∀ o∈a.ops,o∈d.ops
 frs:∀ f∈a.frags,f∈d.frags
 nd:(d.frags.map (·.nm)).Nodup
 nda:(a.frags.map (·.nm)).Nodup
 cl:∀ l∈ya a,∀ n,Yi n l→zC a n=zC d n
theorem zkv {d:DocD} (h:(d.frags.map (·.nm)).Nodup) {f:FragD} (hf:f∈d.frags):zC d f.nm=some f:=by
 have:∀ l:List FragD,(l.map (·.nm)).Nodup→f∈l→l.find? (Yw f.nm)=some f:=by
  intro l
  induction l with
  | nil=>intro _ h;cases h
  | cons g l ih =>
   intro hn hm
   simp only[List.map_cons,List.nodup_cons] at hn
   rw[List.find?_cons]
   rcases List.mem_cons.1 hm with rfl|hm
   ·simp[Yw]
   ·have:¬ g.nm=f.nm:=fun e=>hn.1 (List.mem_map.2 ⟨f,hm,e.symm⟩)
    simp[Yw,this]
    simpa[Yw] using ih hn.2 hm
 exact this d.frags h hf
def ClL (a d:DocD) (l:List SelD):Prop:=∀ n,Yi n l→zC a n=zC d n
section
variable {a d:DocD} (P:PartD a d)
include P
theorem zkp {o:OpD} (h:o∈a.ops):ClL a d o.sels:=P.cl _ (by simp only[ya,List.mem_append,List.mem_map];exact .inl ⟨o,h,rfl⟩)
theorem zhV {f:FragD} (h:f∈a.frags):ClL a d f.sels:=P.cl _ (by simp only[ya,List.mem_append,List.mem_map];exact .inr ⟨f,h,rfl⟩)
theorem zn4 (n:List UInt8):ClL a d (frS a n):=by
 unfold frS
 cases hf:zC a n with
 | none=>intro m hm;simp[zFr,Yi] at hm
 | some f=>exact zhV P (List.mem_of_find?_eq_some hf)
omit P in
theorem zp7 {l:List SelD} (h:ClL a d l) {x:SelD} (hx:x∈l):ClL a d x.sels:=fun n hn=>h n (zil hx (by obtain⟨k,al,nm,args,dirs,on,sels⟩:=x;exact .inr hn))
theorem zi4 {n:List UInt8} (h:zC a n=zC d n):frS a n=frS d n∧zi9 a n=zi9 d n:=by simp only[frS,zi9,h,and_self]
theorem zde:∀(k:Nat) (l:List (List UInt8)) (i:Nat),(∀ n∈l,zC a n=zC d n)→Zj a k l i=Zj d k l i∧∀ n∈Zj a k l i,zC a n=zC d n
 | 0,l,i,h=>⟨rfl,h⟩
 | k+1,l,i,h=>by
  simp only[Zj]
  cases hl:l[i]? with
  | none=>exact⟨rfl,h⟩
  | some x =>
   have hx:=h x (List.mem_of_getElem? hl)
   simp only
   rw[← hx]
   cases hf:zC a x with
   | none=>exact zde k l (i+1) h
   | some f =>
    have hm:f∈a.frags:=List.mem_of_find?_eq_some hf
    refine zde k (yK f.sels l) (i+1) fun n hn=>?_
    rcases(Yd n f.sels l).1 hn with h1|h1
    ·exact h n h1
    ·exact zhV P hm n h1
omit P in
theorem zfI {U:List (List UInt8)} (hU:∀ f∈a.frags,∀ y∈Y9 f.sels,y∈U):∀(k:Nat) (l:List (List UInt8)) (i:Nat),OkN U l→U.length+1≤k+i→Zj a (k+1) l i=Zj a k l i
 | 0,l,i,h,hk=>by
  have:=zf5 h
  have hn:l[i]?=none:=List.getElem?_eq_none (by omega)
  simp only[Zj,hn]
 | k+1,l,i,h,hk=>by
  rw[Zj]
  conv=>rhs;rw[Zj]
  cases hl:l[i]? with
  | none=>rfl
  | some x =>
   simp only
   refine zfI hU k _ (i+1) ?_ (by omega)
   cases hf:zC a x with
   | none=>exact h
   | some f=>exact Yo f.sels l (hU f (List.mem_of_find?_eq_some hf)) h
omit P in
theorem zeK {U:List (List UInt8)} (hU:∀ f∈a.frags,∀ y∈Y9 f.sels,y∈U) {l:List (List UInt8)} (h:OkN U l) {k:Nat} (hk:U.length+1≤k):∀ j,Zj a (k+j) l 0=Zj a k l 0
 | 0=>rfl
 | j+1=>by rw[← Nat.add_assoc,zfI hU (k+j) l 0 h (by omega),zeK hU h hk j]
theorem YM (hb:bFs a.frags≤bFs d.frags) {sels:List SelD} (h:ClL a d sels):yf a sels=yf d sels∧∀ n∈yf a sels,zC a n=zC d n:=by
 have h0:∀ n∈yK sels [],zC a n=zC d n:=fun n hn=>by
  rcases(Yd n sels []).1 hn with h1|h1
  ·cases h1
  ·exact h n h1
 have hU:∀ f∈a.frags,∀ y∈Y9 f.sels,y∈zcD a sels:=fun f hf y hy=>by
  simp only[zcD,List.mem_append,List.mem_flatMap];exact .inr ⟨f,hf,hy⟩
 have ok0:OkN (zcD a sels) (yK sels []):=Yo sels [] (fun y hy=>by simp[zcD,hy]) ⟨List.nodup_nil,by simp⟩
 have hfu:=zeK hU ok0 (k:=bSs sels+bFs a.frags+1) (by have:=zfY a sels;omega) (bFs d.frags-bFs a.frags)
 have e:bSs sels+bFs a.frags+1+(bFs d.frags-bFs a.frags)=bSs sels+bFs d.frags+1:=by omega
 rw[e] at hfu
 obtain⟨h1,h2⟩:=zde P (bSs sels+bFs d.frags+1) (yK sels []) 0 h0
 exact⟨by rw[yf,← hfu,h1];rfl,by rw[yf,← hfu];exact h2⟩
theorem zeA (s:SchD):∀(n:Nat) (typ:List UInt8) (l:List SelD) (seen:List (List UInt8)),ClL a d l→flq s a n typ l seen=flq s d n typ l seen∧∀ y∈(flq s a n typ l seen).1,ClL a d y.2.sels
 | 0,typ,l,seen,h=>⟨rfl,fun y hy=>by cases hy⟩
 | n+1,typ,l,seen,h=>by
  have key:∀(l:List SelD) (acc:List TSe×List (List UInt8)),ClL a d l→(∀ y∈acc.1,ClL a d y.2.sels)→l.foldl (Y1 s a (flq s a n) typ) acc=l.foldl (Y1 s d (flq s d n) typ) acc∧∀ y∈(l.foldl (Y1 s a (flq s a n) typ) acc).1,ClL a d y.2.sels:=by
   intro l
   induction l with
   | nil=>intro acc _ h;exact⟨rfl,h⟩
   | cons x r ih =>
    intro acc hcl hacc
    have hsub:=zp7 hcl (ZI ..)
    have hst:Y1 s a (flq s a n) typ acc x=Y1 s d (flq s d n) typ acc x∧∀ y∈(Y1 s a (flq s a n) typ acc x).1,ClL a d y.2.sels:=by
     obtain⟨k,al,nm,args,dirs,on,sels⟩:=x
     simp only[SelD.sels] at hsub
     obtain⟨h1,h2⟩:=zeA s n (zO s typ (.mk k al nm args dirs on sels)) sels acc.2 hsub
     simp only[Y1]
     split
     ·refine⟨rfl,fun y hy=>?_⟩
      rcases List.mem_append.1 hy with h3|h3
      ·exact hacc y h3
      ·simp only[List.mem_singleton] at h3
       subst h3;exact hsub
     ·split
      ·rw[← h1]
       refine⟨rfl,fun y hy=>?_⟩
       rcases List.mem_append.1 hy with h3|h3
       ·exact hacc y h3
       ·exact h2 y h3
      ·split
       ·rename_i hk
        have hc:=hcl nm (by simp only[Yi,zhm];exact .inl (.inl ⟨hk.1,trivial⟩))
        obtain⟨e1,e2⟩:=zi4 P hc
        obtain⟨h3,h4⟩:=zeA s n (zi9 a nm) (frS a nm) (acc.2++[nm]) (zn4 P nm)
        rw[← e1,← e2,← h3]
        refine⟨rfl,fun y hy=>?_⟩
        rcases List.mem_append.1 hy with h5|h5
        ·exact hacc y h5
        ·exact h4 y h5
       ·exact⟨rfl,hacc⟩
    simp only[List.foldl_cons]
    rw[← hst.1]
    exact ih _ (fun m hm=>hcl m (by simp only[Yi];exact .inr hm)) hst.2
  exact key l ([],seen) h fun y hy=>by cases hy
theorem zaK (s:SchD) {x:TSe} (h:ClL a d x.2.sels):blq s a x=blq s d x∧∀ y∈blq s a x,ClL a d y.2.sels:=by
 obtain⟨h1,h2⟩:=zeA P s 64 (zO s x.1 x.2) x.2.sels [] h
 exact⟨by simp only[blq,h1],h2⟩
theorem zgk (s:SchD):∀(n:Nat) (x y:TSe),ClL a d x.2.sels→ClL a d y.2.sels→shq s a n x y=shq s d n x y
 | 0,x,y,hx,hy=>by simp only[shq,zkR,(zaK P s hx).1,(zaK P s hy).1]
 | n+1,x,y,hx,hy=>by
  obtain⟨h1,h2⟩:=zaK P s hx
  obtain⟨h3,h4⟩:=zaK P s hy
  simp only[shq,zkR]
  rw[← h1,← h3,zdd fun u hu v hv=>zgk s n u v (h2 u hu) (h4 v hv)]
theorem zkb (s:SchD):∀(n:Nat) (x y:TSe),ClL a d x.2.sels→ClL a d y.2.sels→tgq s a n x y=tgq s d n x y
 | 0,x,y,hx,hy=>by simp only[tgq,zj0,(zaK P s hx).1,(zaK P s hy).1,zgk P s 64 x y hx hy]
 | n+1,x,y,hx,hy=>by
  obtain⟨h1,h2⟩:=zaK P s hx
  obtain⟨h3,h4⟩:=zaK P s hy
  simp only[tgq,zj0]
  rw[← h1,← h3,zdd fun u hu v hv=>zkb s n u v (h2 u hu) (h4 v hv),zgk P s 64 x y hx hy]
omit P in
theorem zee {g h:TSe→TSe→Bool}:∀(r acc:List TSe),(∀ u∈acc++r,∀ v∈acc++r,g u v=h u v)→zcT g acc r=zcT h acc r
 | [],acc,_=>rfl
 | x::r,acc,e=>by
  simp only[zcT]
  have ih:=zee r (acc++[x]) (fun u hu v hv=>e u (by simpa[zbM] using hu) v (by simpa[zbM] using hv))
  have h1:zlp g x acc=zlp h x acc:=by
   have e1:∀ y∈acc,g y x=h y x:=fun y hy=>e y (zaW _ hy) x (by simp)
   clear ih e
   unfold zlp
   induction acc with
   | nil=>rfl
   | cons y acc ih=>rw[List.all_cons,List.all_cons,e1 y (ZI ..),ih fun z hz=>e1 z (Z0 _ hz)]
  rw[ih,h1]
theorem zig (s:SchD) {h h':List UInt8→List SelD→Bool} {typ:List UInt8} {l:List SelD} (hc:ClL a d l) (hh:∀ x∈l,∀ t,h t x.sels=h' t x.sels):zlC s a h typ l=zlC s d h' typ l:=by
 obtain⟨h1,h2⟩:=zeA P s 64 typ l [] hc
 have e2:(l.all fun x=>h (zO s typ x) x.sels)=l.all fun x=>h' (zO s typ x) x.sels:=by
  clear h1 h2 hc
  induction l with
  | nil=>rfl
  | cons x r ih=>rw[List.all_cons,List.all_cons,hh x (ZI ..),ih fun y hy=>hh y (Z0 _ hy)]
 simp only[zlC]
 rw[← h1,e2,zee _ _ fun u hu v hv=>zkb P s 64 u v (h2 u hu) (h2 v hv)]
theorem zg2 (s:SchD):∀(n:Nat) (typ:List UInt8) (l:List SelD),ClL a d l→lsq s a n typ l=lsq s d n typ l
 | 0,typ,l,h=>zig P s h fun _ _ _=>rfl
 | n+1,typ,l,h=>zig P s h fun x hx t=>zg2 s n t x.sels (zp7 h hx)
end
theorem zqT (d:DocD) (n:List UInt8) (hl:d.frags.length≤Lim):zg Tryz.prog 36 [.agg (zX d),.str n] (.tup [.agg (cF ((zC d n).getD zFr)),.bool (zC d n).isSome]):=by
 have l1:=Ye d.frags
 simp only[Lim] at hl
 have hF:∀ done rest,d.frags=done++rest→(∀ f∈done,f.nm≠n)→zC d n=rest.find? (Yw n):=fun done rest e h=>by
  rw[zC,e,List.find?_append,List.find?_eq_none.2 (fun f hf=>by simp[Yw,h f hf])]
  rfl
 have hcd:zX d=[.sl .no 5 (cOs d.ops),.sl .no 4 (cFs d.frags)]:=rfl
 rw[hcd]
 generalize zC d n=F at *
 refine zg.go ir36 ck36 (Al4 _) fun KP Q hQ=>?_
 simp(disch:=omega) only[ir36,go_sem]
 refine zb fun b4 hb4=>?_
 simp(disch:=omega) only[l1,go_sem]
 refine zf d.frags 6 (fun _:Unit=>[]) (fun done rest _ H'=>(∀ f∈done,f.nm≠n)∧H' b4=some (.cells [.str [],.str [],.sl .nil 2 [],.sl .nil 7 []])) () (by simp(disch:=omega) only[go_sem]) ⟨by simp,upd_same ..⟩ ?_ ?_
 ·rintro _ H1 J ⟨hn,c4⟩ hlt
  have e:=hF d.frags [] (by simp) hn
  simp only[List.find?_nil] at e
  simp(disch:=omega) only[l1,hlt,c4,go_sem]
  refine hQ _ _ _ [.agg [.str [],.str [],.sl .nil 2 [],.sl .nil 7 []],.bool false] nofun (by simp(disch:=omega) only[ir36,zN,Zv,go_sem]) (by rw[e];rfl)
 ·rintro done x rest _ H1 J hd hlt _ ⟨hn,c4⟩ hJ
  have hg:=Yt hd
  have e:=hF done (x::rest) hd hn
  obtain⟨fn,fo,fd,fs⟩:=x
  rw[Z3] at hg
  by_cases hx:fn=n
  ·have hx':=eq_true hx
   have e2:F=some ⟨fn,fo,fd,fs⟩:=by rw[e];simp[Yw,hx]
   simp(disch:=omega) only[l1,hlt,hg,hx',c4,go_sem]
   refine hQ _ _ _ [.agg [.str fn,.str fo,.sl .no 2 (cDs fd),.sl .no 7 (cSs fs)],.bool true] nofun (by simp(disch:=omega) only[ir36,zN,Zv,go_sem]) (by rw[e2];rfl)
  ·simp(disch:=omega) only[l1,hlt,hg,hx,c4,go_sem]
   exact goJ (hJ () _ ⟨fun f hf=>by
    rcases List.mem_append.1 hf with h|h
    ·exact hn f h
    ·simp only[List.mem_singleton] at h;subst h;exact hx,c4⟩) (by simp(disch:=omega) only[wrap64,go_sem])
mutual
theorem zrP {d:DocD} {g:Nat→List SelD→Nat} {Z:Nat} (hg:∀ m n,g m (frS d n)≤m+Z):∀(x:SelD) (r:Nat),zg4 d g x r≤r+bS x+Z
 | .mk k al nm args dirs on sels,r=>by
  have h1:=zge hg sels r 0
  simp only[zg4,bS]
  split
  ·rename_i hc
   have h2:=hg (r-(1+Zq d g sels r 0)) nm
   omega
  ·omega
theorem zge {d:DocD} {g:Nat→List SelD→Nat} {Z:Nat} (hg:∀ m n,g m (frS d n)≤m+Z):∀(l:List SelD) (most n:Nat),Zq d g l most n≤n∨Zq d g l most n≤most+bSs l+Z
 | [],most,n=>.inl (by simp[Zq])
 | x::xs,most,n=>by
  simp only[Zq,bSs]
  split
  ·have h1:=zrP hg x (most-n)
   rcases zge hg xs most (n+zg4 d g x (most-n)) with h|h
   ·right;omega
   ·right;omega
  ·left;omega
end
theorem zln {d:DocD} {D:Nat} (hD:∀ n,bSs (frS d n)≤D):∀(k m:Nat) (l:List SelD),few d k m l≤m+bSs l+1+k*D
 | 0,m,l=>by simp only[few];omega
 | k+1,m,l=>by
  have h:=zge (d:=d) (g:=few d k) (Z:=1+D+k*D) (fun m n=>by
   have h1:=zln hD k m (frS d n)
   have h2:=hD n
   omega) l m 0
  simp only[few,Nat.add_mul,Nat.one_mul]
  omega
theorem zsl (d:DocD) (n:List UInt8):bSs (frS d n)≤zw d:=by
 cases hf:zC d n with
 | none=>simp[frS,hf,zFr,bSs]
 | some f =>
  have hm:f∈d.frags:=List.mem_of_find?_eq_some hf
  have h1:=zaq f
  have h2:=zbC hm
  simp only[frS,hf,Option.getD_some,zw]
  omega
theorem zvI (d:DocD) (hdb:zw d≤1048575):∀(k c:Nat) (l:List SelD) (most:Nat),bSs l≤c→c≤1048575→most<k→k≤41→zg Tryz.prog 15 [.agg (zX d),.sl .no 7 (cSs l),.int .i64 most] (.int .i64 (few d k most l)):=by
 have hfl:=yM d.frags
 have h0:bFs d.frags≤zw d:=by simp only[zw];omega
 have hfr:=fun n=>zqT d n (by simp only[Lim];omega)
 have hD:=zsl d
 have hcd:zX d=[.sl .no 5 (cOs d.ops),.sl .no 4 (cFs d.frags)]:=rfl
 intro k
 induction k with
 | zero=>intro c l most h1 h2 h3;omega
 | succ k ihk =>
 intro c
 induction c using Nat.strongRecOn with
 | _ c ihc =>
 intro l most hb hc hm hk
 have hg:∀ nm m,m<k→zg Tryz.prog 15 [.agg (zX d),.sl .no 7 (cSs (frS d nm)),.int .i64 m] (.int .i64 (few d k m (frS d nm))):=fun nm m hm=>ihk (zw d) (frS d nm) m (hD nm) hdb hm (by omega)
 have hs:∀ sels,bSs sels<c→∀ m,m<k+1→zg Tryz.prog 15 [.agg (zX d),.sl .no 7 (cSs sels),.int .i64 m] (.int .i64 (Zq d (few d k) sels m 0)):=fun sels h m hm=>ihc (bSs sels) h sels m (Al4 _) (by omega) hm hk
 have hup:=zln hD (k+1) most l
 have hge:=zgJ d (few d k)
 have e0:few d (k+1) most l=Zq d (few d k) l most 0:=rfl
 have eC:∀ x xs n,Zq d (few d k) (x::xs) most n=if n≤most then Zq d (few d k) xs most (n+zg4 d (few d k) x (most-n)) else n:=fun x xs n=>by simp only[Zq]
 have eN:∀ n,Zq d (few d k) [] most n=n:=fun n=>by simp only[Zq]
 have eX:∀ kk al nm args dirs on sels r,zg4 d (few d k) (.mk kk al nm args dirs on sels) r=if kk=1∧1+Zq d (few d k) sels r 0≤r then 1+Zq d (few d k) sels r 0+few d k (r-(1+Zq d (few d k) sels r 0)) (frS d nm) else 1+Zq d (few d k) sels r 0:=fun kk al nm args dirs on sels r=>by simp only[zg4]
 have hmul:(k+1)*zw d≤41*1048575:=Nat.mul_le_mul hk hdb
 have l1:=YS l
 have hll:=YT l
 generalize hF:few d (k+1) most l=F at *
 generalize hgk:few d k=gk at *
 simp only[hcd] at hfr hs hg ⊢
 refine zg.go ir15 ck15 (Al4 _) fun KP Q hQ=>?_
 simp(disch:=omega) only[ir15,go_sem]
 refine zf l 8 (fun n:Nat=>[(7,.int .i64 n)]) (fun done rest n _=>Zq d gk rest most n=F) 0 (by simp(disch:=omega) only[go_sem]) e0.symm ?_ ?_
 ·rintro n H J hn hlt
  rw[eN] at hn
  subst hn
  simp(disch:=omega) only[l1,hlt,go_sem]
  exact hQ _ _ _ _ nofun rfl (by simp[zd,ze,AV.strip,AV.strip1])
 ·rintro done x rest n H J hd hlt _ hn hJ
  have hg2:=zao hd
  have hbm:=zbn done x rest
  rw[← hd] at hbm
  rw[eC] at hn
  obtain⟨kk,al,nm,args,dirs,on,sels⟩:=x
  rw[eX] at hn
  simp only[bS] at hbm
  rw[Zb] at hg2
  by_cases hnm:n≤most
  case neg =>
   rw[if_neg hnm] at hn
   subst hn
   have hnm':¬ ((n:Int)≤most):=by omega
   simp(disch:=omega) only[l1,hlt,hnm',go_sem]
   exact hQ _ _ _ _ nofun rfl (by simp[zd,ze,AV.strip,AV.strip1])
  rw[if_pos hnm] at hn
  have hnm':((n:Int)≤most)=True:=eq_true (by omega)
  have hin:=hs sels (by omega) (most-n) (by omega)
  have ecast:((most-n:Nat):Int)=most-n:=by omega
  rw[ecast] at hin
  generalize hA:Zq d gk sels (most-n) 0=A at *
  by_cases hc1:kk=1∧1+A≤most-n
  ·rw[if_pos hc1] at hn
   have hge2:=hge rest most (n+(1+A+gk (most-n-(1+A)) (frS d nm)))
   rw[hn] at hge2
   have hk1:=eq_true hc1.1
   have hle2:((n:Int)+1+A≤most)=True:=eq_true (by omega)
   have hfx:=hfr nm
   have hfn:=hg nm (most-n-(1+A)) (by omega)
   have ecast2:((most-n-(1+A):Nat):Int)=most-(n+1+A):=by omega
   rw[ecast2] at hfn
   generalize hG:gk (most-n-(1+A)) (frS d nm)=G at *
   have efs:frS d nm=((zC d nm).getD zFr).sels:=rfl
   rw[efs] at hfn
   generalize (zC d nm).isSome=fs at *
   generalize (zC d nm).getD zFr=f at *
   obtain⟨fn,fo,fd,fss⟩:=f
   rw[Z3] at hfx
   simp only at hfn
   simp(disch:=omega) only[l1,hlt,hnm',hg2,wrap64,go_sem]
   refine za hin ?_
   simp(disch:=omega) only[l1,hlt,hnm',hg2,wrap64,hk1,hle2,go_sem]
   refine za hfx ?_
   simp(disch:=omega) only[go_sem]
   refine zb fun b9 hb9=>?_
   simp(disch:=omega) only[wrap64,go_sem]
   refine za hfn ?_
   simp(disch:=omega) only[wrap64,go_sem]
   have ec:((n+(1+A+G):Nat):Int)=n+1+A+G:=by omega
   exact goJ (hJ (n+(1+A+G)) _ hn) (by simp(disch:=omega) only[wrap64,ec,go_sem])
  ·rw[if_neg hc1] at hn
   have hge2:=hge rest most (n+(1+A))
   rw[hn] at hge2
   by_cases hk1:kk=1
   ·have hk1':=eq_true hk1
    have hle2:¬ ((n:Int)+1+A≤most):=fun h=>hc1 ⟨hk1,by omega⟩
    simp(disch:=omega) only[l1,hlt,hnm',hg2,wrap64,go_sem]
    refine za hin ?_
    simp(disch:=omega) only[l1,hlt,hnm',hg2,wrap64,hk1',hle2,go_sem]
    have ec:((n+(1+A):Nat):Int)=n+1+A:=by omega
    exact goJ (hJ (n+(1+A)) _ hn) (by simp(disch:=omega) only[wrap64,ec,go_sem])
   ·simp(disch:=omega) only[l1,hlt,hnm',hg2,wrap64,go_sem]
    refine za hin ?_
    simp(disch:=omega) only[l1,hlt,hnm',hg2,wrap64,hk1,go_sem]
    have ec:((n+(1+A):Nat):Int)=n+1+A:=by omega
    exact goJ (hJ (n+(1+A)) _ hn) (by simp(disch:=omega) only[wrap64,ec,go_sem])
theorem zfi (d:DocD) {Z:Nat}:∀(l:List (List SelD)) (n:Nat),(∀ x∈l,few d 41 40 x≤Z)→ZV d l n≤n∨ZV d l n≤40+Z
 | [],n,_=>.inl (Al4 _)
 | x::r,n,h=>by
  simp only[ZV]
  split
  ·have h1:=h x (ZI ..)
   rcases zfi d r (n+few d 41 40 x) (fun y hy=>h y (Z0 _ hy)) with h2|h2
   ·right;omega
   ·exact .inr h2
  ·exact .inl (Al4 _)
theorem zoQ (s:SchD) (d:DocD) (hsb:zJ s≤1048576) (hdb:zw d≤1048575):zg Tryz.prog 6 [.agg (zq s),.agg (zX d)] (.bool (zas s d)):=by
 have r1:=zqt s (by simp only[Lim];omega)
 have r2:=zsT d (by simp only[Lim];omega)
 have hbl:=@zhz d
 have hmo:∀ o∈d.ops,o.sels∈ya d:=fun o ho=>by simp only[ya,List.mem_append,List.mem_map];exact .inl ⟨o,ho,rfl⟩
 have hmf:∀ f∈d.frags,f.sels∈ya d:=fun f hf=>by simp only[ya,List.mem_append,List.mem_map];exact .inr ⟨f,hf,rfl⟩
 have hfew:=fun x (h:x∈ya d)=>zvI d hdb 41 (zw d) x 40 (hbl h) hdb (by omega) (Al4 _)
 have hup:=fun x (h:x∈ya d)=>(by
  have:=zln (zsl d) 41 40 x
  have:=hbl h
  omega:few d 41 40 x≤50000000)
 have hol:=Zo d.ops
 have hfl:=yM d.frags
 have h0:bOs d.ops+bFs d.frags=zw d:=rfl
 have l1:=Z2 d.ops
 have l2:=Ye d.frags
 have u1:=zfi d (d.ops.map (·.sels)) 0 (Z:=50000000) (fun x hx=>hup x (by obtain⟨o,ho,rfl⟩:=List.mem_map.1 hx;exact hmo o ho))
 have u2:=zfi d (d.frags.map (·.sels)) (ZV d (d.ops.map (·.sels)) 0) (Z:=50000000) (fun x hx=>hup x (by obtain⟨o,ho,rfl⟩:=List.mem_map.1 hx;exact hmf o ho))
 have hge:=zdz d
 have e0:zas s d=(zfl s&&zdP d&&decide (ZV d (d.frags.map (·.sels)) (ZV d (d.ops.map (·.sels)) 0)≤40)):=rfl
 have eC:∀ x r n,ZV d (x::r) n=if n≤40 then ZV d r (n+few d 41 40 x) else n:=fun _ _ _=>rfl
 have eN:∀ n,ZV d [] n=n:=fun _=>rfl
 have eX:∀(l:List (List SelD)) n,¬ n≤40→ZV d l n=n:=fun l n h=>by cases l with|nil=>rfl|cons x r=>rw[eC,if_neg h]
 generalize zas s d=F at *
 generalize zfl s=x1 at *
 generalize zdP d=x2 at *
 have hcd:zX d=[.sl .no 5 (cOs d.ops),.sl .no 4 (cFs d.frags)]:=rfl
 have hcs:zq s=[.sl .no 6 (cEs s.defs),.str s.q,.str s.m]:=rfl
 simp only[hcs,hcd] at r1 r2 hfew ⊢
 generalize hA:ZV d=A at *
 refine zg.go ir6 ck6 (Al4 _) fun KP Q hQ=>?_
 simp(disch:=omega) only[ir6,go_sem]
 refine za r1 ?_
 cases x1 with
 | false =>
  simp(disch:=omega) only[go_sem]
  exact hQ _ _ _ _ nofun rfl (by simp[zd,ze,AV.strip,AV.strip1,e0])
 | true =>
 simp(disch:=omega) only[go_sem]
 refine za r2 ?_
 cases x2 with
 | false =>
  simp(disch:=omega) only[go_sem]
  exact hQ _ _ _ _ nofun rfl (by simp[zd,ze,AV.strip,AV.strip1,e0])
 | true =>
 simp only[Bool.true_and] at e0
 generalize hT:A (d.frags.map (·.sels)) (A (d.ops.map (·.sels)) 0)=T at *
 have second:True:=trivial
 simp(disch:=omega) only[go_sem]
 refine zf d.ops 6 (fun n:Nat=>[(5,.int .i64 n)]) (fun done rest n _=>A (rest.map (·.sels)) n=A (d.ops.map (·.sels)) 0) 0 (by simp(disch:=omega) only[go_sem]) rfl ?_ ?_
 ·rintro n H J hn hlt
  simp only[List.map_nil] at hn
  rw[eN] at hn
  rw[← hn] at hT u1
  simp(disch:=omega) only[l1,hlt,go_sem]
  refine zf d.frags 7 (fun n:Nat=>[(5,.int .i64 n)]) (fun done rest n _=>A (rest.map (·.sels)) n=T) n (by simp(disch:=omega) only[go_sem]) hT ?_ ?_
  ·rintro n2 H2 J2 hn2 hlt2
   simp only[List.map_nil] at hn2
   rw[eN] at hn2
   subst hn2
   have ed:decide ((n2:Int)≤40)=decide (n2≤40):=decide_eq_decide.2 (by omega)
   simp(disch:=omega) only[l2,hlt2,go_sem]
   exact hQ _ _ _ _ nofun rfl (by simp[zd,ze,AV.strip,AV.strip1,e0,ed])
  ·rintro done x rest n2 H2 J2 hd hlt2 _ hn2 hJ2
   have hg:=Yt hd
   have hxm:=hmf x (by rw[hd];simp)
   have hfx:=hfew x.sels hxm
   have hux:=hup x.sels hxm
   rw[List.map_cons,eC] at hn2
   obtain⟨fn,fo,fd,fs⟩:=x
   rw[Z3] at hg
   simp only at hfx hux hn2
   by_cases h4:n2≤40
   case neg =>
    rw[if_neg h4] at hn2
    subst hn2
    have ed:decide ((n2:Int)≤40)=decide (n2≤40):=decide_eq_decide.2 (by omega)
    have h4':¬ ((n2:Int)≤40):=by omega
    simp(disch:=omega) only[l2,hlt2,h4',go_sem]
    exact hQ _ _ _ _ nofun rfl (by simp[zd,ze,AV.strip,AV.strip1,e0,h4])
   rw[if_pos h4] at hn2
   have h4':((n2:Int)≤40)=True:=eq_true (by omega)
   generalize few d 41 40 fs=w at *
   have ec:((n2+w:Nat):Int)=n2+w:=by omega
   simp(disch:=omega) only[l2,hlt2,h4',hg,go_sem]
   refine za hfx ?_
   simp(disch:=omega) only[wrap64,go_sem]
   exact goJ (hJ2 (n2+w) _ hn2) (by simp(disch:=omega) only[wrap64,ec,go_sem])
 ·rintro done x rest n H J hd hlt _ hn hJ
  have hg:=Yc hd
  have hxm:=hmo x (by rw[hd];simp)
  have hfx:=hfew x.sels hxm
  have hux:=hup x.sels hxm
  rw[List.map_cons,eC] at hn
  obtain⟨ok,onm,vs,ds,ss⟩:=x
  rw[YO] at hg
  simp only at hfx hux hn
  by_cases h4:n≤40
  case neg =>
   rw[if_neg h4] at hn
   rw[← hn,eX _ n h4] at hT
   subst hT
   have h4':¬ ((n:Int)≤40):=by omega
   simp(disch:=omega) only[l1,hlt,h4',l2,go_sem]
   refine zf d.frags 7 (fun _:Unit=>[(5,.int .i64 n)]) (fun _ _ _ _=>True) () (by simp(disch:=omega) only[go_sem]) trivial ?_ ?_
   ·rintro _ H2 J2 _ hlt2
    simp(disch:=omega) only[l2,hlt2,h4',go_sem]
    exact hQ _ _ _ _ nofun rfl (by simp[zd,ze,AV.strip,AV.strip1,e0,h4])
   ·rintro done2 x2 rest2 _ H2 J2 hd2 hlt2 _ _ hJ2
    simp(disch:=omega) only[l2,hlt2,h4',go_sem]
    exact hQ _ _ _ _ nofun rfl (by simp[zd,ze,AV.strip,AV.strip1,e0,h4])
  rw[if_pos h4] at hn
  have h4':((n:Int)≤40)=True:=eq_true (by omega)
  generalize few d 41 40 ss=w at *
  have ec:((n+w:Nat):Int)=n+w:=by omega
  simp(disch:=omega) only[l1,hlt,h4',hg,go_sem]
  refine za hfx ?_
  simp(disch:=omega) only[wrap64,go_sem]
  exact goJ (hJ (n+w) _ hn) (by simp(disch:=omega) only[wrap64,ec,go_sem])
theorem zio:∀(l a:List (List UInt8)),zcY a l=true↔l.Nodup∧∀ x∈l,x ∉ a
 | [],a=>by simp[zcY]
 | x::r,a=>by
  simp only[zcY,Al0,Bool.not_eq_true',zgP]
  rw[zio r (a++[x]),List.nodup_cons]
  constructor
  ·rintro⟨h1,h2,h3⟩
   refine⟨⟨fun h=>h3 x h (by simp),h2⟩,fun y hy=>?_⟩
   rcases List.mem_cons.1 hy with rfl|hy
   ·exact h1
   ·exact fun h=>h3 y hy (zaW _ h)
  ·rintro⟨⟨h1,h2⟩,h3⟩
   refine⟨h3 x (ZI ..),h2,fun y hy h=>?_⟩
   rcases List.mem_append.1 h with h|h
   ·exact h3 y (Z0 _ hy) h
   ·simp only[List.mem_singleton] at h;subst h;exact h1 hy
theorem zbU (l:List (List UInt8)):zab l=true↔l.Nodup:=by
 unfold zab;rw[zio];simp
def Sub {α:Type} (l m:List α):Prop:=∃ t,l.Perm t∧t.Sublist m
section
variable {α β:Type} {l m:List α}
theorem Sub.mem (h:Sub l m) {x:α} (hx:x∈l):x∈m:=by obtain⟨t,h1,h2⟩:=h;exact h2.subset (h1.mem_iff.1 hx)
theorem Sub.map (f:α→β) (h:Sub l m):Sub (l.map f) (m.map f):=by obtain⟨t,h1,h2⟩:=h;exact⟨t.map f,h1.map f,h2.map f⟩
theorem Sub.filter (p:α→Bool) (h:Sub l m):Sub (l.filter p) (m.filter p):=by obtain⟨t,h1,h2⟩:=h;exact⟨t.filter p,h1.filter p,h2.filter p⟩
theorem Sub.nodup (h:Sub l m) (hm:m.Nodup):l.Nodup:=by obtain⟨t,h1,h2⟩:=h;exact h1.nodup_iff.2 (hm.sublist h2)
theorem Sub.len (h:Sub l m):l.length≤m.length:=by obtain⟨t,h1,h2⟩:=h;rw[h1.length_eq];exact h2.length_le
theorem Sub.all {p:α→Bool} (h:Sub l m) (hm:m.all p=true):l.all p=true:=by
 rw[zdU] at hm ⊢;exact fun x hx=>hm x (h.mem hx)
theorem zqw {l m:List Nat} (h:l.Sublist m):l.sum≤m.sum:=by
 induction h with
 | slnil=>exact Al4 _
 | cons a _ ih=>simp only[List.sum_cons];omega
 | cons_cons a _ ih=>simp only[List.sum_cons];omega
theorem zo0 {l m:List Nat} (h:l.Perm m):l.sum=m.sum:=by
 induction h with
 | nil=>rfl
 | cons a _ ih=>simp only[List.sum_cons,ih]
 | swap a b l=>simp only[List.sum_cons];omega
 | trans _ _ i1 i2=>exact i1.trans i2
theorem Sub.sum (g:α→Nat) (h:Sub l m):(l.map g).sum≤(m.map g).sum:=by
 obtain⟨t,h1,h2⟩:=h.map g
 rw[zo0 h1];exact zqw h2
end
structure PartV (a d:DocD):Prop where
 so:Sub a.ops d.ops
 sf:Sub a.frags d.frags
 nd:(d.frags.map (·.nm)).Nodup
 ne:0<a.ops.length
 cl:∀ l∈ya a,∀ n,Yi n l→zC a n=zC d n
 us:∀ f∈a.frags,∃ o∈a.ops,f.nm∈yf d o.sels
section
variable {a d:DocD} (V:PartV a d)
include V
theorem Zh:PartD a d:=⟨fun o h=>V.so.mem h,fun f h=>V.sf.mem h,V.nd,(V.sf.map _).nodup V.nd,V.cl⟩
theorem zgW:bFs a.frags≤bFs d.frags:=V.sf.sum bF
theorem zmp:zw a≤zw d:=by
 have h1:=V.sf.sum bF
 have h2:=V.so.sum bO
 simp only[zw,bOs,bFs] at *;omega
theorem zuV (h:zcK d):zcK a:=⟨fun x hx=>h.1 x (V.so.mem hx),fun x hx=>h.2 x (V.sf.mem hx)⟩
theorem zpe (h:Z6 d=true):Z6 a=true:=by
 simp only[Z6,Al0,yX] at h ⊢
 have:=V.ne
 exact⟨by omega,V.so.all h.2.1,V.sf.all h.2.2⟩
theorem zsM:lenD a≤lenD d:=by have h1:=V.so.len;have h2:=V.sf.len;simp only[lenD];omega
omit V in
theorem zqq (P:PartD a d) {n:Nat} {l:List SelD} (h:Sz d n l):ClL a d l→Sz a n l:=by
 induction h with
 | nil=>exact fun _=>.nil _
 | @cons n i j m k al nm args dirs on sels r hle h1 h2 h3 i1 i2 i3 =>
  intro hc
  refine .cons hle (i1 fun y hy=>hc y (by simp only[Yi,zhm];exact .inl (.inr hy))) (fun hk=>?_) (i3 fun y hy=>hc y (by simp only[Yi];exact .inr hy))
  have e:=hc nm (by simp only[Yi,zhm];exact .inl (.inl ⟨hk,trivial⟩))
  have h4:=i2 hk
  rw[← (zi4 P e).1] at h4
  exact h4 (zn4 P nm)
theorem zsd (h:∀ x∈ya d,Sz d 40 x):∀ x∈ya a,Sz a 40 x:=fun x hx=>by
 refine zqq (Zh V) (h x ?_) (V.cl x hx)
 simp only[ya,List.mem_append,List.mem_map] at hx ⊢
 rcases hx with ⟨o,ho,e⟩|⟨f,hf,e⟩
 ·exact .inl ⟨o,V.so.mem ho,e⟩
 ·exact .inr ⟨f,V.sf.mem hf,e⟩
end
theorem zdH (R:List (List UInt8)) (x:List UInt8):∀(fs:List FragD) (l:List (List UInt8)),x∈fs.foldl (y6 R) l↔x∈l∨(x∈R∧x∈fs.map (·.nm))
 | [],l=>by simp
 | f::fs,l=>by
  rw[List.foldl_cons,zdH R x fs]
  have h1:x∈y6 R l f↔x∈l∨(x=f.nm∧x∈R):=by
   unfold y6
   by_cases hx:zQ f.nm R=true∧zQ f.nm l=false
   ·rw[if_pos hx,List.mem_append,List.mem_singleton]
    have:=(ZD _ _).1 hx.1
    constructor
    ·rintro(h|rfl)
     ·exact .inl h
     ·exact .inr ⟨rfl,this⟩
    ·rintro(h|⟨h,_⟩)
     ·exact .inl h
     ·exact .inr h
   ·rw[if_neg hx]
    constructor
    ·exact .inl
    ·rintro(h|⟨rfl,h⟩)
     ·exact h
     ·have h2:=(ZD _ _).2 h
      cases h3:zQ f.nm l with
      | true=>exact(ZD _ _).1 h3
      | false=>exact absurd ⟨h2,h3⟩ hx
  rw[h1,List.map_cons,List.mem_cons]
  constructor
  ·rintro((h|⟨h,h2⟩)|⟨h,h2⟩)
   ·exact .inl h
   ·exact .inr ⟨h2,.inl h⟩
   ·exact .inr ⟨h,.inr h2⟩
  ·rintro(h|⟨h,h2|h2⟩)
   ·exact .inl (.inl h)
   ·exact .inl (.inr ⟨h2,h⟩)
   ·exact .inr ⟨h,h2⟩
theorem zaf (d:DocD) (sels:List SelD) (x:List UInt8):x∈y9 d sels↔x∈yf d sels∧x∈d.frags.map (·.nm):=by
 unfold y9;rw[zdH];simp
theorem zct (d:DocD) (n:List UInt8):(zC d n).isSome=true↔n∈d.frags.map (·.nm):=by
 unfold zC
 rw[List.find?_isSome]
 simp only[Yw,yX,List.mem_map]
abbrev NmF:=List (List UInt8)→List (List UInt8)
def Grow (f:NmF):Prop:=∀ l x,x∈f l↔x∈l∨x∈f []
theorem Grow.comp {f g:NmF} (hf:Grow f) (hg:Grow g):Grow fun l=>f (g l):=fun l x=>by
 rw[hf (g l),hf (g []),hg l,or_assoc]
theorem Grow.foldl {α:Type} {f:List (List UInt8)→α→List (List UInt8)} (h:∀ y,Grow fun l=>f l y):∀ r:List α,Grow fun l=>r.foldl f l
 | []=>fun l x=>by simp
 | y::r=>(Grow.foldl h r).comp (h y)
theorem zhO {α:Type} {f:List (List UInt8)→α→List (List UInt8)} (h:∀ y,Grow fun l=>f l y) (x:List UInt8):∀(r:List α) (l:List (List UInt8)),x∈r.foldl f l↔x∈l∨∃ y∈r,x∈f [] y
 | [],l=>by simp
 | y::r,l=>by
  rw[List.foldl_cons,zhO h x r,h y l x,or_assoc]
  simp
theorem zhk (n:List UInt8):∀(l:List (List UInt8)) (k:Nat),zbB n l k=none→n∈l
 | [],k,h=>by simp[zbB] at h
 | y::r,k,h=>by
  simp only[zbB] at h
  split at h
  ·exact Z0 _ (zhk n r _ h)
  ·split at h
   ·rename_i e;rw[e];exact ZI ..
   ·cases h
theorem zkC (l:List (List UInt8)) (n x:List UInt8):x∈zev l n↔x∈l∨x=n:=by
 unfold zev
 split
 ·rename_i h
  have:=zhk n l 0 h
  constructor
  ·exact .inl
  ·rintro(h|rfl)
   ·exact h
   ·exact this
 ·rename_i k h
  have e:x∈l↔x∈l.take k∨x∈l.drop k:=by rw[← List.mem_append,List.take_append_drop]
  rw[List.mem_append,List.mem_cons,e]
  constructor
  ·rintro(h|h|h)
   ·exact .inl (.inl h)
   ·exact .inr h
   ·exact .inl (.inr h)
  ·rintro((h|h)|h)
   ·exact .inl h
   ·exact .inr (.inr h)
   ·exact .inr (.inl h)
theorem znV (n:List UInt8):Grow fun l=>zev l n:=fun l x=>by rw[zkC,zkC];simp
theorem zkN (m:Mem):Grow fun l=>ofM l m:=Grow.foldl znV _
theorem zph (d:DirD):Grow fun l=>ofD l d:=Grow.foldl zkN _
mutual
theorem zpG:∀ x:SelD,Grow (wrS x)
 | .mk k al nm args dirs on sels=>by
  have:=(zeT sels).comp ((Grow.foldl zph dirs).comp (Grow.foldl zkN args))
  intro l x
  simpa only[wrS] using this l x
theorem zeT:∀ r:List SelD,Grow (zag r)
 | []=>fun l x=>by simp[zag]
 | y::r=>by
  have:=(zeT r).comp (zpG y)
  intro l x
  simpa only[zag] using this l x
end
theorem zhx (d:DocD) (sels:List SelD) (x:List UInt8):x∈Z1 d sels↔x∈zag sels []∨∃ n∈y9 d sels,x∈zag (frS d n) []:=by
 unfold Z1
 rw[zhO (f:=fun l n=>zag ((zC d n).getD zFr).sels l) fun n=>zeT _]
 rfl
section
variable {a d:DocD} (s:SchD)
mutual
theorem znM:∀(x:SelD) (typ:List UInt8),(∀ n,zhm n x→zC a n=zC d n)→zoe s (zbx s a) typ x=zoe s (zbx s d) typ x
 | .mk k al nm args dirs on sels,typ,h=>by
  simp only[zoe]
  rw[zcc sels _ fun n hn=>h n (by simp only[zhm];exact .inr hn)]
  have:zbx s a typ (.mk k al nm args dirs on sels)=zbx s d typ (.mk k al nm args dirs on sels):=by
   simp only[zbx]
   by_cases hk:k=1
   ·rw[h nm (by simp only[zhm];exact .inl ⟨hk,trivial⟩)]
   ·simp[hk]
  rw[this]
theorem zcc:∀(l:List SelD) (typ:List UInt8),ClL a d l→YE s (zbx s a) typ l=YE s (zbx s d) typ l
 | [],_,_=>rfl
 | x::r,typ,h=>by
  simp only[YE]
  rw[znM x typ fun n hn=>h n (by simp only[Yi];exact .inl hn),zcc r typ fun n hn=>h n (by simp only[Yi];exact .inr hn)]
end
end
section
variable {a d:DocD} (V:PartV a d) (s:SchD)
include V
theorem zby {p:List UInt8→SelD→Bool} (h:ZG s d p=true):ZG s a p=true:=by
 simp only[ZG,Al0] at h ⊢
 exact⟨V.so.all h.1,V.sf.all h.2⟩
theorem zrB (h:ZG s d (zbx s d)=true):ZG s a (zbx s a)=true:=by
 have h1:=zby V s h
 simp only[ZG,Al0,zdU] at h1 ⊢
 exact⟨fun o ho=>by rw[zcc s _ _ (zkp (Zh V) ho)];exact h1.1 o ho,fun f hf=>by rw[zcc s _ _ (zhV (Zh V) hf)];exact h1.2 f hf⟩
theorem zla {p:List DirD→Bool} (h:(zb0 d).all p=true):(zb0 a).all p=true:=by
 simp only[zb0,List.all_append,Al0,List.all_map] at h ⊢
 exact⟨V.so.all h.1,V.sf.all h.2⟩
theorem zih {l:List SelD} (h:l∈ya a):l∈ya d:=by
 simp only[ya,List.mem_append,List.mem_map] at h ⊢
 rcases h with ⟨o,ho,e⟩|⟨f,hf,e⟩
 ·exact .inl ⟨o,V.so.mem ho,e⟩
 ·exact .inr ⟨f,V.sf.mem hf,e⟩
theorem zgt {sels:List SelD} (h:ClL a d sels) (n:List UInt8):n∈y9 a sels↔n∈y9 d sels:=by
 obtain⟨h1,h2⟩:=YM (Zh V) (zgW V) h
 rw[zaf,zaf,← h1]
 constructor
 ·rintro⟨h3,h4⟩
  exact⟨h3,by rw[← zct] at h4 ⊢;rwa [← h2 n h3]⟩
 ·rintro⟨h3,h4⟩
  exact⟨h3,by rw[← zct] at h4 ⊢;rwa [h2 n h3]⟩
theorem ze2 {sels:List SelD} (h:ClL a d sels) {n:List UInt8} (hn:n∈y9 d sels):zC a n=zC d n:=by
 obtain⟨h1,h2⟩:=YM (Zh V) (zgW V) h
 exact h2 n (by rw[h1];exact((zaf d sels n).1 hn).1)
theorem zqV {sels:List SelD} (h:ClL a d sels) (x:List UInt8):x∈Z1 a sels↔x∈Z1 d sels:=by
 rw[zhx,zhx]
 constructor
 ·rintro(h1|⟨n,h1,h2⟩)
  ·exact .inl h1
  ·have h3:=(zgt V h n).1 h1
   exact .inr ⟨n,h3,by rw[← (zi4 (Zh V) (ze2 V h h3)).1];exact h2⟩
 ·rintro(h1|⟨n,h1,h2⟩)
  ·exact .inl h1
  ·exact .inr ⟨n,(zgt V h n).2 h1,by rw[(zi4 (Zh V) (ze2 V h h1)).1];exact h2⟩
theorem zov {o:OpD} (ho:o∈a.ops) {x:SpotD} (h:x∈ze7 s a o):x∈ze7 s d o:=by
 have hc:=zkp (Zh V) ho
 simp only[ze7,List.mem_append,List.mem_flatMap] at h ⊢
 rcases h with h|⟨n,h1,h2⟩
 ·exact .inl h
 ·have h3:=(zgt V hc n).1 h1
  refine .inr ⟨n,h3,?_⟩
  simpa only[zg8,ze2 V hc h3] using h2
theorem zvF (n:Int) (h:zad s d n=true):zad s a n=true:=by
 unfold zad at h ⊢
 have hne:=V.ne
 have hlen:=V.so.len
 split at h
 ·rename_i hp;rw[if_pos hp]
  exact(zbU _).2 (((V.so.map _).filter _).nodup ((zbU _).1 h))
 rename_i h1
 rw[if_neg h1]
 split at h
 ·rename_i hp;rw[if_pos hp]
  simp only[Al0,zhn,yX,Bool.not_eq_true',zgP] at h ⊢
  refine⟨hne,?_⟩
  rcases h.2 with h3|h3
  ·exact .inl (by omega)
  ·exact .inr fun hm=>h3 ((V.so.map (·.nm)).mem hm)
 rename_i h2
 rw[if_neg h2]
 split at h
 ·rename_i hp;rw[if_pos hp]
  simp only[zhn,Bool.not_eq_true',decide_eq_false_iff_not,List.any_eq_false,yX] at h ⊢
  rcases h with h|h
  ·exact .inl h
  ·exact .inr fun o ho=>h o (V.so.mem ho)
 rename_i h3
 rw[if_neg h3]
 split at h
 ·rename_i hp;rw[if_pos hp]
  exact(zbU _).2 ((V.sf.map _).nodup ((zbU _).1 h))
 rename_i h4
 rw[if_neg h4]
 split at h
 ·rename_i hp;rw[if_pos hp]
  simp only[onM,Al0,Bool.not_eq_true',List.any_eq_false] at h ⊢
  exact⟨fun f hf=>h.1 f (V.sf.mem hf),fun l hl=>h.2 l (zih V hl)⟩
 rename_i h5
 rw[if_neg h5]
 split at h
 ·rename_i hp;rw[if_pos hp]
  simp only[zgX,Bool.not_eq_true',List.any_eq_false] at h ⊢
  intro l hl
  have:=h l (zih V hl)
  have hc:ClL a d l:=V.cl l hl
  simp only[zhZ,List.any_eq_true,not_exists,not_and] at this ⊢
  intro n hn
  rw[hc n (by rcases(Yd n l []).1 hn with h6|h6;cases h6;exact h6)]
  exact this n hn
 rename_i h6
 rw[if_neg h6]
 split at h
 ·rename_i hp;rw[if_pos hp]
  simp only[zbJ,Bool.not_eq_true',List.any_eq_false] at h ⊢
  intro f hf
  have:=h f (V.sf.mem hf)
  simp only[zgy] at this ⊢
  rwa [(YM (Zh V) (zgW V) (zhV (Zh V) hf)).1]
 rename_i h7
 rw[if_neg h7]
 split at h
 ·rename_i hp;rw[if_pos hp]
  simp only[zh6,Bool.not_eq_true',List.any_eq_false] at h ⊢
  intro f hf
  obtain⟨o,ho,hr⟩:=V.us f hf
  have hm:∀(ops:List OpD) (l:List (List UInt8)),(f.nm∈l∨∃ o∈ops,f.nm∈yf a o.sels)→f.nm∈ops.foldl (fun l o=>l++yf a o.sels) l:=by
   intro ops
   induction ops with
   | nil=>rintro l (h|⟨o,h,_⟩);exact h;cases h
   | cons o ops ih =>
    rintro l (h|⟨p,h,h2⟩)
    ·exact ih _ (.inl (zaW _ h))
    ·rcases List.mem_cons.1 h with rfl|h
     ·exact ih _ (.inl (List.mem_append_right _ h2))
     ·exact ih _ (.inr ⟨p,h,h2⟩)
  have:=hm a.ops [] (.inr ⟨o,ho,by rw[(YM (Zh V) (zgW V) (zkp (Zh V) ho)).1];exact hr⟩)
  rw[(ZD _ _).2 (by exact this)]
  simp
 ·rename_i hp;rw[if_neg hp]
  exact h
theorem zs6 (n:Int) (h:zaE s d n=true):zaE s a n=true:=by
 simp only[zaE,Al0] at h ⊢
 refine⟨?_,h.2⟩
 by_cases h3:n=11
 ·subst h3
  have e:∀ d,zho s d 11=zbx s d:=fun d=>by funext typ x;simp[zho]
  rw[e] at h ⊢
  exact zrB V s h.1
 ·have e:zho s a n=zho s d n:=by funext typ x;simp[zho,h3]
  rw[e];exact zby V s h.1
theorem zsU (n:Int) (h:zaG s d n=true):zaG s a n=true:=by
 unfold zaG at h ⊢
 split at h
 ·rename_i hp;rw[if_pos hp]
  simp only[Al0] at h ⊢
  exact⟨zla V h.1,zby V s h.2⟩
 rename_i h1
 rw[if_neg h1]
 split at h
 ·rename_i hp;rw[if_pos hp]
  exact zla V h
 rename_i h2
 rw[if_neg h2]
 split at h
 ·rename_i hp;rw[if_pos hp]
  simp only[Al0] at h ⊢
  exact⟨zla V h.1,zby V s h.2⟩
 ·rename_i hp;rw[if_neg hp]
  exact h
theorem zty (n:Int) (h:zaJ s d n=true):zaJ s a n=true:=by
 unfold zaJ at h ⊢
 by_cases h1:n=15
 ·rw[if_pos h1] at h ⊢;exact zby V s h
 rw[if_neg h1] at h ⊢
 by_cases h2:n=16
 ·rw[if_pos h2] at h ⊢;exact zby V s h
 rw[if_neg h2] at h ⊢
 by_cases h3:n=17
 ·rw[if_pos h3] at h ⊢;exact zby V s h
 rw[if_neg h3] at h;cases h
theorem zt3 (n:Int) (h:zcW s d n=true):zcW s a n=true:=by
 simp only[zcW,Al0,Bool.not_eq_true',List.any_eq_false] at h ⊢
 refine⟨h.1,fun o ho=>?_⟩
 have:=h.2 o (V.so.mem ho)
 have hu:=zqV V (zkp (Zh V) ho)
 have e:zbd s a n o=zbd s d n o:=by
  unfold zbd
  have e1:∀ p:List UInt8→Bool,(Z1 a o.sels).any p=(Z1 d o.sels).any p:=fun p=>by
   rw[Bool.eq_iff_iff,List.any_eq_true,List.any_eq_true]
   exact⟨fun⟨x,h1,h2⟩=>⟨x,(hu x).1 h1,h2⟩,fun⟨x,h1,h2⟩=>⟨x,(hu x).2 h1,h2⟩⟩
  have e2:∀ x,zQ x (Z1 a o.sels)=zQ x (Z1 d o.sels):=fun x=>by
   rw[Bool.eq_iff_iff,ZD,ZD];exact hu x
  rw[e1]
  simp only[e2]
 rw[e];exact this
theorem zuL (n:Int) (h:zbu s d n=true):zbu s a n=true:=by
 unfold zbu at h ⊢
 split at h
 ·rename_i hp;rw[if_pos hp]
  simp only[zdo,Al0] at h ⊢
  exact⟨V.so.all h.1,zby V s h.2⟩
 rename_i h1
 rw[if_neg h1]
 split at h
 ·rename_i hp;rw[if_pos hp]
  simp only[znT,zoR,zdU] at h ⊢
  exact fun o ho x hx=>h o (V.so.mem ho) x (zov V s ho hx)
 ·rename_i hp;rw[if_neg hp]
  exact h
theorem zuA (n:Int) (hl:∀ x∈ya d,Sz d 40 x) (hb:zw d≤Lim) (h:zaT s d n=true):zaT s a n=true:=by
 simp only[zaT,Al0] at h ⊢
 refine⟨h.1,?_⟩
 have hbV:=zmp V
 rw[zmP (zsd V hl) (by omega) (Zh V).nda]
 obtain⟨h1,h2,h3⟩:=(zmP hl hb V.nd).1 h.2
 refine⟨?_,fun f hf=>?_,fun o ho=>?_⟩
 ·simp only[zbJ,List.any_eq_false] at h1 ⊢
  intro f hf
  have:=h1 f (V.sf.mem hf)
  simp only[zgy] at this ⊢
  rwa [(YM (Zh V) (zgW V) (zhV (Zh V) hf)).1]
 ·rw[zg2 (Zh V) s 64 _ _ (zhV (Zh V) hf)];exact h2 f (V.sf.mem hf)
 ·rw[zg2 (Zh V) s 64 _ _ (zkp (Zh V) ho)];exact h3 o (V.so.mem ho)
theorem zpx (hl:∀ x∈ya d,Sz d 40 x) (hb:zw d≤Lim) (n:Int) (h:ZR s d n=true):ZR s a n=true:=by
 unfold ZR at h ⊢
 split at h
 ·rename_i hp;rw[if_pos hp]
  exact zvF V s n h
 rename_i h1
 rw[if_neg h1]
 split at h
 ·rename_i hp;rw[if_pos hp]
  exact zs6 V s n h
 rename_i h2
 rw[if_neg h2]
 split at h
 ·rename_i hp;rw[if_pos hp]
  exact zsU V s n h
 rename_i h3
 rw[if_neg h3]
 split at h
 ·rename_i hp;rw[if_pos hp]
  exact zty V s n h
 rename_i h4
 rw[if_neg h4]
 split at h
 ·rename_i hp;rw[if_pos hp]
  exact zt3 V s n h
 rename_i h5
 rw[if_neg h5]
 split at h
 ·rename_i hp;rw[if_pos hp]
  exact zuL V s n h
 ·rename_i hp;rw[if_neg hp]
  exact zuA V s n hl hb h
theorem zpn (hl:∀ x∈ya d,Sz d 40 x) (hb:zw d≤Lim) (h:ZA s d=0):ZA s a=0:=by
 unfold ZA at h ⊢
 split at h
 ·cases h
 rename_i h1
 simp only[not_or,Decidable.not_not,Bool.not_eq_false] at h1
 have hc:∀(k:Nat) (n:Int),1≤n→zfQ s d k n=0→zfQ s a k n=0:=by
  intro k
  induction k with
  | zero=>intro n _ _;rfl
  | succ k ih =>
   intro n hn h
   simp only[zfQ] at h ⊢
   split at h
   ·rename_i hv
    rw[if_pos (zpx V s hl hb n hv)]
    exact ih (n+1) (by omega) h
   ·omega
 rw[if_neg (by simp[h1.1,zpe V h1.2])]
 exact hc 24 1 (by omega) h
end
theorem znP {a d:DocD} (hs:Sub a.frags d.frags) (hn:(d.frags.map (·.nm)).Nodup) {n:List UInt8} (h:n∈d.frags.map (·.nm)→n∈a.frags.map (·.nm)):zC a n=zC d n:=by
 cases ha:zC a n with
 | some g =>
  have h1:=zkv hn (hs.mem (List.mem_of_find?_eq_some ha))
  have h2:g.nm=n:=by have:=List.find?_some ha;simpa[Yw] using this
  rw[h2] at h1;exact h1.symm
 | none =>
  cases hd:zC d n with
  | none=>rfl
  | some f =>
   have h1:=(zct a n).2 (h ((zct d n).1 (by rw[hd];rfl)))
   rw[ha] at h1;cases h1
theorem zg3 {s:SchD} {d:DocD} (h:ZA s d=0):∀ i:Int,1≤i→i<25→ZR s d i=true:=by
 unfold ZA at h
 split at h
 ·cases h
 have hc:∀(k:Nat) (n:Int),1≤n→zfQ s d k n=0→∀ i,n≤i→i<n+k→ZR s d i=true:=by
  intro k
  induction k with
  | zero=>intro n _ _ i h1 h2;omega
  | succ k ih =>
   intro n hn h i h1 h2
   simp only[zfQ] at h
   split at h
   ·rename_i hv
    by_cases e:i=n
    ·rw[e];exact hv
    ·exact ih (n+1) (by omega) h i (by omega) (by omega)
   ·omega
 exact hc 24 1 (by omega) h
theorem zne {s:SchD} {d:DocD} (h:ZA s d=0):0<d.ops.length:=by
 have h2:=zg3 h 2 (by omega) (by omega)
 simp only[ZR,zad] at h2
 simp at h2
 exact h2.1
theorem zg6 {s:SchD} {d:DocD} (h:ZA s d=0):(d.frags.map (·.nm)).Nodup:=by
 have h2:=zg3 h 4 (by omega) (by omega)
 exact(zbU _).1 (by simpa[ZR,zad] using h2)
mutual
theorem zpW:∀(x:SelD) (l:List (List UInt8)),∃ t,zcN x l=l++t
 | .mk k al nm args dirs on sels,l=>by
  simp only[zcN]
  obtain⟨t,h⟩:=zfj sels (if k=1∧zQ nm l=false then l++[nm] else l)
  rw[h]
  split
  ·exact⟨[nm]++t,by simp⟩
  ·exact⟨t,rfl⟩
theorem zfj:∀(r:List SelD) (l:List (List UInt8)),∃ t,yK r l=l++t
 | [],l=>⟨[],by simp[yK]⟩
 | x::r,l=>by
  obtain⟨t,h⟩:=zpW x l
  obtain⟨u,h2⟩:=zfj r (zcN x l)
  exact⟨t++u,by rw[yK,h2,h,zbM]⟩
end
theorem zgl {d:DocD}:∀(k:Nat) (l:List (List UInt8)) (i:Nat) (x:List UInt8),x∈l→x∈Zj d k l i
 | 0,l,i,x,h=>h
 | k+1,l,i,x,h=>by
  simp only[Zj]
  cases l[i]? with
  | none=>exact h
  | some y =>
   simp only
   refine zgl k _ _ x ?_
   cases zC d y with
   | none=>exact h
   | some f=>exact(Yd x f.sels l).2 (.inl h)
theorem zbO {d:DocD} {U:List (List UInt8)} (hU:∀ f∈d.frags,∀ y∈Y9 f.sels,y∈U):∀(k:Nat) (l:List (List UInt8)) (i:Nat),OkN U l→U.length+1≤k+i →
  (∀ j x f,j<i→l[j]?=some x→zC d x=some f→∀ n,Yi n f.sels→n∈l)→∀ x∈Zj d k l i,∀ f,zC d x=some f→∀ n,Yi n f.sels→n∈Zj d k l i
 | 0,l,i,h,hk,hc=>by
  intro x hx f hf n hn
  have:=zf5 h
  obtain⟨j,hj,e⟩:=List.getElem_of_mem (show x∈l from hx)
  exact hc j x f (by omega) (by rw[Al9 hj,e]) hf n hn
 | k+1,l,i,h,hk,hc=>by
  simp only[Zj]
  cases hl:l[i]? with
  | none =>
   intro x hx f hf n hn
   have h1:=List.getElem?_eq_none_iff.1 hl
   obtain⟨j,hj,e⟩:=List.getElem_of_mem (show x∈l from hx)
   exact hc j x f (by omega) (by rw[Al9 hj,e]) hf n hn
  | some y =>
   simp only
   cases hf:zC d y with
   | none =>
    refine zbO hU k l (i+1) h (by omega) fun j x f hj hx hf2 n hn=>?_
    by_cases e:j=i
    ·subst e;rw[hl] at hx;cases hx;rw[hf] at hf2;cases hf2
    ·exact hc j x f (by omega) hx hf2 n hn
   | some g =>
    obtain⟨t,ht⟩:=zfj g.sels l
    refine zbO hU k _ (i+1) (Yo g.sels l (hU g (List.mem_of_find?_eq_some hf)) h) (by omega) fun j x f hj hx hf2 n hn=>?_
    have hil:i<l.length:=(zaA.1 hl).1
    simp only at hx ⊢
    rw[ht,zcH (by omega)] at hx
    by_cases e:j=i
    ·subst e;rw[hl] at hx;cases hx;rw[hf] at hf2;cases hf2
     exact(Yd n g.sels l).2 (.inr hn)
    ·exact(Yd n g.sels l).2 (.inl (hc j x f (by omega) hx hf2 n hn))
theorem zhq (d:DocD) (sels:List SelD) {n:List UInt8} (h:Yi n sels):n∈yf d sels :=
 zgl _ _ _ n ((Yd n sels []).2 (.inr h))
theorem ziP (d:DocD) (sels:List SelD) {x:List UInt8} (hx:x∈yf d sels) {f:FragD} (hf:zC d x=some f) {n:List UInt8} (h:Yi n f.sels):n∈yf d sels:=by
 have hU:∀ f∈d.frags,∀ y∈Y9 f.sels,y∈zcD d sels:=fun f hf y hy=>by
  simp only[zcD,List.mem_append,List.mem_flatMap];exact .inr ⟨f,hf,hy⟩
 have ok0:OkN (zcD d sels) (yK sels []):=Yo sels [] (fun y hy=>by simp[zcD,hy]) ⟨List.nodup_nil,by simp⟩
 exact zbO hU (bSs sels+bFs d.frags+1) (yK sels []) 0 ok0 (by have:=zfY d sels;omega) (fun j x f hj=>by omega) x hx f hf n h
def zle (d:DocD) (o:OpD):DocD:=⟨[o],d.frags.filter fun f=>zQ f.nm (y9 d o.sels)⟩
theorem zlN {s:SchD} {d:DocD} (h:ZA s d=0) {o:OpD} (ho:o∈d.ops):PartV (zle d o) d where
 so:=⟨[o],List.Perm.refl _,List.singleton_sublist.2 ho⟩
 sf:=⟨_,List.Perm.refl _,List.filter_sublist⟩
 nd:=zg6 h
 ne:=by simp[zle]
 cl:=fun l hl n hn=>znP ⟨_,List.Perm.refl _,List.filter_sublist⟩ (zg6 h) fun hm=>by
  have hr:n∈yf d o.sels:=by
   simp only[ya,zle,List.map_cons,List.map_nil,List.mem_append,List.mem_singleton,List.mem_map,List.mem_filter] at hl
   rcases hl with rfl|⟨f,⟨h1,h2⟩,rfl⟩
   ·exact zhq d _ hn
   ·exact ziP d _ ((zaf d _ _).1 ((ZD _ _).1 h2)).1 (zkv (zg6 h) h1) hn
  obtain⟨f,hf,e⟩:=List.mem_map.1 hm
  refine List.mem_map.2 ⟨f,List.mem_filter.2 ⟨hf,(ZD _ _).2 ?_⟩,e⟩
  rw[e];exact(zaf d _ _).2 ⟨hr,hm⟩
 us:=fun f hf=>by
  have h2:=(List.mem_filter.1 hf).2
  exact⟨o,List.mem_singleton.2 rfl,((zaf d _ _).1 ((ZD _ _).1 h2)).1⟩
theorem zls {s:SchD} {a d:DocD} (V:PartV a d) (hsw:zbV s) (hdw:zcK d) (hsb:zJ s≤1048576) (hdb:zw d≤1048575) (hl:zas s d=true) (h:ZA s d=0):zg Tryz.prog 9 [.agg (zq s),.agg (zX a)] (.int .i64 0):=by
 have hb:=zmp V
 have hv:=zpz hsw hdw hsb hdb hl
 have:=zg1 s a ⟨hsw,zuV V hdw,hsb,by omega,Nat.le_trans (zsM V) hv.ln,zsd V hv.sz⟩
 rwa [zpn V s hv.sz (by simp only[Lim];omega) h] at this
def YQ:SchD:=⟨[⟨1,[81],[],[⟨[97],[],⟨[73,110,116],0,0⟩,[]⟩],[],[]⟩],[81],[]⟩
def zeJ:SchD:=⟨[],[],[]⟩
def zgj (n:List UInt8):DocD:=⟨[⟨0,[],[],[],[.mk 0 [] n [] [] [] []]⟩],[]⟩
def zjg:DocD:=zgj [110,111,116,104,101,114,101]
def zfN:DocD:=zgj [97]
theorem zsP:ZA YQ zjg=9:=by decide +kernel
theorem ztQ:ZA YQ zfN=0:=by decide +kernel
theorem zua:ZA zeJ zfN=25:=by decide +kernel
theorem ztT:ZR YQ zfN 24=true:=by decide +kernel
theorem zs8:ZR YQ zfN 25=false:=by decide +kernel
theorem zr7:zbV YQ:=by
 intro x hx
 simp only[YQ,List.mem_singleton] at hx
 subst hx
 refine⟨fun y hy=>?_,fun y hy=>(nomatch hy)⟩
 simp only[List.mem_singleton] at hy
 subst hy
 exact⟨fun y hy=>(nomatch hy),by simp[inR],by simp[inR],fun y hy=>(nomatch hy)⟩
theorem ztl:zbV zeJ:=fun x hx=>nomatch hx
theorem zoN (n:List UInt8):zcK (zgj n):=by
 refine⟨fun x hx=>?_,fun x hx=>(nomatch hx)⟩
 simp only[zgj,List.mem_singleton] at hx
 subst hx
 exact⟨fun y hy=>(nomatch hy),fun y hy=>(nomatch hy),⟨trivial,fun y hy=>(nomatch hy),trivial⟩,trivial⟩
theorem zsS:ValH YQ zjg:=zpz zr7 (zoN _) (by decide) (by decide) (by decide +kernel)
theorem zlo:ValH YQ zfN:=zpz zr7 (zoN _) (by decide) (by decide) (by decide +kernel)
theorem ztm:ValH zeJ zfN:=zpz ztl (zoN _) (by decide) (by decide) (by decide +kernel)
theorem zqL:zq YQ=[.sl .no 6 [[.int .i64 1,.str [81],.sl .no 1 [],.sl .no 6 [[.str [97],.sl .no 10 [],.str [73,110,116],.int .i64 0,.int .i64 0,.sl .no 2 []]],.sl .no 1 [],.sl .no 10 []]],.str [81],.str []]:=by rfl
theorem zuX:zq zeJ=[.sl .no 6 [],.str [],.str []]:=by rfl
theorem ztS (n:List UInt8):zX (zgj n)=[.sl .no 5 [[.int .i64 0,.str [],.sl .no 10 [],.sl .no 2 [],.sl .no 7 [[.int .i64 0,.str [],.str n,.sl .no 6 [],.sl .no 2 [],.str [],.sl .no 7 []]]]],.sl .no 4 []]:=by rfl
theorem zry:zg Tryz.prog 16 [] (.agg (zq YQ)):=by
 rw[zqL]
 refine zg.go ir16 ck16 (Al4 _) fun KP Q hQ=>?_
 simp(disch:=omega) only[ir16,go_sem]
 refine zb fun b0 hb0=>?_
 simp(disch:=omega) only[go_sem]
 exact hQ _ _ _ [.agg [.sl .full 6 [[.int .i64 1,.str [81],.sl .no 1 [],.sl .no 6 [[.str [97],.sl .no 10 [],.str [73,110,116],.int .i64 0,.int .i64 0,.sl .no 2 []]],.sl .no 1 [],.sl .no 10 []]],.str [81],.str []]] nofun (by simp(disch:=omega) only[ir16,zN,Zv,go_sem]) rfl
theorem zqh:zg Tryz.prog 7 [] (.bool true):=by
 have hw:=zry
 have h1:=zg1 YQ zjg zsS
 have h2:=zg1 YQ zfN zlo
 have h3:=zg1 zeJ zfN ztm
 have h4:=ztt YQ zfN 24 zlo
 have h5:=ztt YQ zfN 25 zlo
 rw[zsP] at h1
 rw[ztQ] at h2
 rw[zua] at h3
 rw[ztT] at h4
 rw[zs8] at h5
 rw[zjg,zqL,ztS] at h1
 rw[zfN,zqL,ztS] at h2 h4 h5
 rw[zfN,zuX,ztS] at h3
 rw[zqL] at hw
 refine zg.go ir7 ck7 (Al4 _) fun KP Q hQ=>?_
 simp(disch:=omega) only[ir7,go_sem]
 refine zb fun b1 hb1=>?_
 simp(disch:=omega) only[go_sem]
 refine zb fun b2 hb2=>?_
 have hne:b1≠b2:=fun e=>by subst e;simp[zc.upd] at hb2
 simp(disch:=omega) only[hne,Ne.symm hne,go_sem]
 refine za hw ?_
 simp(disch:=omega) only[hne,Ne.symm hne,go_sem]
 refine za (zg.low h1) ?_
 simp(disch:=omega) only[hne,Ne.symm hne,go_sem]
 refine za hw ?_
 simp(disch:=omega) only[hne,Ne.symm hne,go_sem]
 refine za (zg.low h2) ?_
 simp(disch:=omega) only[hne,Ne.symm hne,go_sem]
 refine za (zg.low h3) ?_
 simp(disch:=omega) only[hne,Ne.symm hne,go_sem]
 refine za hw ?_
 simp(disch:=omega) only[hne,Ne.symm hne,go_sem]
 refine za (zg.low h4) ?_
 simp(disch:=omega) only[hne,Ne.symm hne,go_sem]
 refine za hw ?_
 simp(disch:=omega) only[hne,Ne.symm hne,go_sem]
 refine za (zg.low h5) ?_
 simp(disch:=omega) only[go_sem]
 exact hQ _ _ _ _ nofun rfl (by simp[zd,ze,AV.strip,AV.strip1])
theorem zvh (L:Nat) (h:0<L) (hL:L≤1099511627776) (n:Int):∃ k:Nat,k<L∧IntKind.wrap .u64 (L:Int)=L∧(IntKind.wrap .u64 n).tmod (L:Int)=k∧IntKind.wrap .i64 (k:Int)=k:=by
 have h1:IntKind.wrap .u64 (L:Int)=L:=by simp only[IntKind.wrap,IntKind.bits,IntKind.signed];simp;omega
 have h2:0≤IntKind.wrap .u64 n:=by simp only[IntKind.wrap,IntKind.bits,IntKind.signed];simp;omega
 have h3:=Int.tmod_nonneg (L:Int) h2
 have h4:=Int.tmod_lt_of_pos (IntKind.wrap .u64 n) (show (0:Int)<L by omega)
 refine⟨((IntKind.wrap .u64 n).tmod (L:Int)).toNat,by omega,h1,by omega,?_⟩
 rw[wrap64]<;>omega
theorem zji (s:SchD) (d:DocD) (n:Int) (hsw:zbV s) (hdw:zcK d) (hsb:zJ s≤1048576) (hdb:zw d≤1048575):zg Tryz.prog 5 [.agg (zq s),.agg (zX d),.int .i64 n] (.bool true):=by
 have hL:=zoQ s d hsb hdb
 have hA:=zqh
 have hC:=fun h=>zg1 s d (zpz hsw hdw hsb hdb h)
 have hV:zas s d=true→ZA s d=0→0<d.ops.length∧∀ o∈d.ops,zg Tryz.prog 9 [.agg (zq s),.agg [.sl .no 5 [cO o],.sl .no 4 (cFs (d.frags.filter fun f=>zQ f.nm (y9 d o.sels)))]] (.int .i64 0) :=
  fun hl h=>⟨zne h,fun o ho=>zls (zlN h ho) hsw hdw hsb hdb hl h⟩
 have hR:=fun sels H=>zkX d sels H (by simp only[Zd,Lim];omega)
 have hRl:=fun sels=>zdV d sels
 have hbO:∀ o∈d.ops,bSs o.sels≤zw d:=fun o ho=>zcs (by simp only[ya,List.mem_append,List.mem_map];exact .inl ⟨o,ho,rfl⟩)
 generalize zas s d=lt at *
 generalize ZA s d=C at *
 generalize y9 d=RM at *
 have hbo:d.ops.length≤1048575:=by have:=Zo d.ops;simp only[zw] at hdb;omega
 have hbf:d.frags.length≤1048575:=by have:=yM d.frags;simp only[zw] at hdb;omega
 obtain⟨ops,frags⟩:=d
 have hcd:zX ⟨ops,frags⟩=[.sl .no 5 (cOs ops),.sl .no 4 (cFs frags)]:=rfl
 have hcs:zq s=[.sl .no 6 (cEs s.defs),.str s.q,.str s.m]:=rfl
 simp only[hcs,hcd] at hL hC hV hR hRl hbo hbf ⊢
 have hlo:=Z2 ops
 have hlf:=Ye frags
 refine zg.go ir5 ck5 (Al4 _) fun KP Q hQ=>?_
 simp(disch:=first|omega|assumption) only[ir5,go_sem]
 refine za hL ?_
 cases lt with
 | false =>
  simp(disch:=first|omega|assumption) only[go_sem]
  refine za hA ?_
  simp(disch:=first|omega|assumption) only[go_sem]
  exact hQ _ _ _ _ nofun rfl (by simp[zd,ze,AV.strip,AV.strip1])
 | true =>
 replace hC:=hC rfl
 by_cases h0:0<ops.length
 case neg =>
  have hf:ops=[]:=zfh.1 (by omega)
  subst hf
  simp(disch:=first|omega|assumption) only[hlo,go_sem]
  refine za hA ?_
  simp(disch:=first|omega|assumption) only[go_sem]
  exact hQ _ _ _ _ nofun rfl (by simp[zd,ze,AV.strip,AV.strip1])
 have hk0:¬ ((ops.length:Int)=0):=by omega
 simp(disch:=first|omega|assumption) only[hlo,hk0,go_sem]
 refine za hC ?_
 by_cases hc:C=0
 case neg =>
  simp(disch:=first|omega|assumption) only[hc,go_sem]
  refine za hA ?_
  simp(disch:=first|omega|assumption) only[go_sem]
  exact hQ _ _ _ _ nofun rfl (by simp[zd,ze,AV.strip,AV.strip1])
 subst hc
 obtain⟨h1,hV⟩:=hV rfl rfl
 obtain⟨k,hk,k1,k2,k3⟩:=zvh ops.length h1 (by omega) n
 obtain⟨done,rest,x,hd,hdl⟩:∃ done rest x,ops=done++x::rest∧done.length=k:=⟨ops.take k,ops.drop (k+1),ops[k],by rw[← List.drop_eq_getElem_cons hk,List.take_append_drop],by rw[List.length_take];omega⟩
 have hg:=Yc hd
 rw[hdl] at hg
 have hx:x∈ops:=by rw[hd];simp
 replace hV:=hV x hx
 replace hR:=fun H=>hR x.sels H (hbO x hx)
 replace hRl:=hRl x.sels
 generalize RM x.sels=R at *
 obtain⟨ok,nm,vars,dirs,sels⟩:=x
 simp only at hR
 rw[YO] at hg hV
 have hk':(k:Int)<ops.length:=by omega
 simp(disch:=first|omega|assumption) only[hlo,k1,k2,k3,hk0,hk',hg,go_sem]
 refine zb fun b7 hb7=>?_
 simp(disch:=first|omega|assumption) only[go_sem]
 refine zb fun b8 hb8=>?_
 have hne:b8≠b7:=fun e=>by subst e;rw[upd_same] at hb8;cases hb8
 simp(disch:=first|omega|assumption) only[hne,Ne.symm hne,go_sem]
 refine zB (hR _) fun o9 H9 hs9=>?_
 have g9:=hs9.kept b8 _ (upd_same ..) nofun
 simp(disch:=first|omega|assumption) only[hlf,go_sem]
 refine zf frags 10 (fun x:Own=>[]) (fun done rest x H'=>H' b8=some (.cells [.sl .full 5 [[.int .i64 ok,.str nm,.sl .no 10 (cWs vars),.sl .no 2 (cDs dirs),.sl .no 7 (cSs sels)]],.sl x 4 (cFs (done.filter fun f=>zQ f.nm R))])∧zY H' x (done.filter fun f=>zQ f.nm R).length 4) .nil (by simp(disch:=first|omega|assumption) only[go_sem]) ⟨g9,rfl⟩ ?_ ?_
 ·rintro o1 H1 J ⟨g1,w1⟩ hlt
  simp(disch:=first|omega|assumption) only[hlf,hlt,g1,go_sem]
  refine za (zg.low (show zg _ _ _ (.int .i64 0) from hV)) ?_
  simp(disch:=first|omega|assumption) only[go_sem]
  refine za hA ?_
  simp(disch:=first|omega|assumption) only[go_sem]
  exact hQ _ _ _ _ nofun rfl (by simp[zd,ze,AV.strip,AV.strip1])
 ·rintro done x rest o1 H1 J hd2 hlt _ ⟨g1,w1⟩ hJ
  have hg2:=Yt hd2
  obtain⟨fn,on,ds,ss⟩:=x
  rw[Z3] at hg2
  have hH:=zvB R fn (by simp only[Lim];omega)
  simp(disch:=first|omega|assumption) only[hlf,hlt,hg2,go_sem]
  refine za (zg.low (show zg _ _ [.sl .no 1 (cT R),.str fn] _ from hH)) ?_
  cases hh:zQ fn R with
  | false =>
   have ef:([⟨fn,on,ds,ss⟩]:List FragD).filter (fun f=>zQ f.nm R)=[]:=by simp[hh]
   simp(disch:=first|omega|assumption) only[go_sem]
   exact goJ (hJ o1 _ (by rw[List.filter_append,ef,List.append_nil];exact⟨g1,w1⟩)) (by simp(disch:=first|omega|assumption) only[wrap64,go_sem])
  | true =>
   have ef:([⟨fn,on,ds,ss⟩]:List FragD).filter (fun f=>zQ f.nm R)=[⟨fn,on,ds,ss⟩]:=by simp[hh]
   have hfl:(done.filter fun f=>zQ f.nm R).length≤1048575:=by
    have h1:=List.length_filter_le (fun f:FragD=>zQ f.nm R) done
    have h2:=congrArg List.length hd2
    simp only[Al5,Al2] at h2
    omega
   generalize hAd:(done.filter fun f=>zQ f.nm R)=A at *
   have hal:=Ye A
   simp(disch:=first|omega|assumption) only[hlf,hlt,hg2,g1,go_sem]
   refine zu (by rw[hal];exact w1) (by simp only[hal,Al2,Al3];omega) (by simp only[hal,Al2,Al3,maxLen];omega) fun o2 H2 hs2=>?_
   have g2:=znA w1 g1 hs2.kept
   have eA:cFs A++[[.str fn,.str on,.sl .no 2 (cDs ds),.sl .no 7 (cSs ss)]]=cFs (A++[⟨fn,on,ds,ss⟩]):=by simp[cFs,Z3]
   have hw2:=hs2.own
   simp only[hal,Al2,Al3] at hw2
   simp(disch:=first|omega|assumption) only[g2,eA,go_sem]
   exact goJ (hJ o2 _ (by rw[List.filter_append,ef,hAd];exact⟨upd_same ..,by simpa using zpB hw2 g2⟩)) (by simp(disch:=first|omega|assumption) only[wrap64,go_sem])
end Go.Proofs.YtbcocdloklbkjaaGreatDoor
