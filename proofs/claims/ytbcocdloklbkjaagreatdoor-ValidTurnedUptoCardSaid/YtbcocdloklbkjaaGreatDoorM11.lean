import Derived.Test.YtbcocdloklbkjaaGreatDoorM1
import Derived.Test.YtbcocdloklbkjaaGreatDoorM2
import Derived.Test.YtbcocdloklbkjaaGreatDoorM3
import Derived.Test.YtbcocdloklbkjaaGreatDoorM4
import Derived.Test.YtbcocdloklbkjaaGreatDoorM5
import Derived.Test.YtbcocdloklbkjaaGreatDoorM6
import Derived.Test.YtbcocdloklbkjaaGreatDoorM7
import Derived.Test.YtbcocdloklbkjaaGreatDoorM8
import Derived.Test.YtbcocdloklbkjaaGreatDoorM9
import Derived.Test.YtbcocdloklbkjaaGreatDoorM10
set_option maxRecDepth 100000
set_option linter.all false
namespace Go.Proofs.YtbcocdloklbkjaaGreatDoor
open Go.Ab
theorem zu9 (x:DefD) (hwx:wfE x) (hm:64*bE x≤Lim):ZS 236 [.agg (cE x)] (64*bE x) (512*bE x) (YA x) (tE x):=by
 have hO1:=zl5 [116,121,112,101] x zqz (by decide) hwx hm
 have hO2:=zl5 [105,110,116,101,114,102,97,99,101] x zrU (by decide) hwx hm
 have hP:=zur x hm
 intro H w o l ok h hb
 obtain⟨k,nm,faces,flds,parts,ps⟩:=x
 rw[ye] at hO1 hO2 hP ⊢
 have hm':=hm
 simp only[Lim,bE] at hm'
 have hb':=hb
 simp only[bE] at hb
 have h1:=ZP faces
 have h2:=YW flds
 have h3:=ZP parts
 have h4:=yP ps
 have hfc:=zK faces
 have hfl:=zaY flds
 have hfp:=zK parts
 have hfs:=Zq ps
 refine zk.go ir236 ck236 (Al4 _) fun KP Q hQ=>?_
 have w0:=YR.refl h
 by_cases k1:k=1
 ·have k1':=eq_true k1
  simp(disch:=omega) only[ir236,k1',go_sem]
  refine Yj hO1 w0 (by omega) fun o2 l2 H2 w2 _=>?_
  simp(disch:=omega) only[go_sem]
  exact hQ _ _ H2 H2 [] nofun rfl (Low.refl _) ⟨rfl,w2.fin (by subst k1;simp[YA,Y1]) (fun _=>by subst k1;simp[tE,ziR]) (by omega) (by omega)⟩
 by_cases k2:k=2
 ·have k2':=eq_true k2
  simp(disch:=omega) only[ir236,k1,k2',go_sem]
  refine Yj hO2 w0 (by omega) fun o2 l2 H2 w2 _=>?_
  simp(disch:=omega) only[go_sem]
  exact hQ _ _ H2 H2 [] nofun rfl (Low.refl _) ⟨rfl,w2.fin (by subst k2;simp[YA,Y1]) (fun _=>by subst k2;simp[tE,ziR]) (by omega) (by omega)⟩
 by_cases k3:k=3
 ·have k3':=eq_true k3
  simp(disch:=omega) only[ir236,k1,k2,k3',go_sem]
  refine Yj hP w0 (by omega) fun o2 l2 H2 w2 _=>?_
  simp(disch:=omega) only[go_sem]
  exact hQ _ _ H2 H2 [] nofun rfl (Low.refl _) ⟨rfl,w2.fin (by subst k3;simp[YA,YY,zar]) (fun _=>by subst k3;simp[tE,ziG]) (by omega) (by omega)⟩
 by_cases k4:k=4
 ·have k4':=eq_true k4
  simp(disch:=omega) only[ir236,k1,k2,k3,k4',go_sem]
  refine Yj hP w0 (by omega) fun o2 l2 H2 w2 _=>?_
  simp(disch:=omega) only[go_sem]
  exact hQ _ _ H2 H2 [] nofun rfl (Low.refl _) ⟨rfl,w2.fin (by subst k4;simp[YA,YY,zar]) (fun _=>by subst k4;simp[tE,ziG]) (by omega) (by omega)⟩
 by_cases k5:k=5
 ·have k5':=eq_true k5
  obtain⟨n,hn⟩:∃ n,n=(decide (ps.length≠0)&&(decide (faces.length=0)&&(decide (flds.length=0)&&decide (parts.length=0)))):=⟨_,rfl⟩
  by_cases a1:ps.length=0
  ·have a1':¬ ((0:Int)<(ps.length:Int)):=by omega
   have hbv:n=false:=by rw[hn];simp[a1]
   subst k5
   simp(disch:=omega) only[ir236,k1,k2,k3,k4,k5',hfs,a1',go_sem]
   refine zu (Zz _) w0 (by omega) (by omega) (by omega) fun o1 l1 H1 w1 _=>?_
   simp(disch:=omega) only[go_sem]
   refine zu (yx [105,110,112,117,116] (by simp[Lim])) w1 (by omega) (by omega) (by omega) fun o2 l2 H2 w2 _=>?_
   simp(disch:=omega) only[go_sem]
   refine zu (yx nm (by simp only[Lim];omega)) w2 (by omega) (by omega) (by omega) fun o3 l3 H3 w3 _=>?_
   simp(disch:=omega) only[go_sem]
   refine zu (yH [123] _) w3 (by omega) (by omega) (by omega) fun o4 l4 H4 w4 _=>?_
   simp(disch:=omega) only[go_sem]
   refine Yj (zf9 ps hwx.2 (by simp only[Lim];omega)) w4 (by omega) fun o5 l5 H5 w5 _=>?_
   simp(disch:=omega) only[go_sem]
   refine zu (yH [125] _) w5 (by omega) (by omega) (by omega) fun o6 l6 H6 w6 _=>?_
   simp(disch:=omega) only[go_sem]
   exact hQ _ _ H6 H6 [] nofun rfl (Low.refl _) ⟨rfl,w6.fin (by simp only[YA];rw[if_neg (by omega),if_neg (by omega),if_neg (by omega),if_pos trivial];simp only[← hn,hbv,zgi];simp[yf,Bool.and_comm,Bool.and_left_comm]) (fun _=>by simp only[tE];rw[if_neg (by omega),if_neg (by omega),if_neg (by omega)];simp) (by simp only[bE];omega) (by simp only[bE,Al2,Al3];omega)⟩
  ·have a1':((0:Int)<(ps.length:Int))=True:=eq_true (by omega)
   have e1:IntKind.wrap .i64 ((faces.length:Int)+(flds.length:Int))=((faces.length+flds.length:Nat):Int):=by rw[wrap64 (by omega) (by omega)];omega
   have e2:IntKind.wrap .i64 (((faces.length+flds.length:Nat):Int)+(parts.length:Int))=((faces.length+flds.length+parts.length:Nat):Int):=by rw[wrap64 (by omega) (by omega)];omega
   by_cases a2:faces.length+flds.length+parts.length=0
   ·have a2':(((faces.length+flds.length+parts.length:Nat):Int)=0)=True:=eq_true (by omega)
    have hbv:n=true:=by rw[hn];simp only[ne_eq,Al0,y0];omega
    subst k5
    simp(disch:=omega) only[ir236,k1,k2,k3,k4,k5',hfs,a1',hfc,hfl,hfp,e1,e2,a2',go_sem]
    refine zu (Zz _) w0 (by omega) (by omega) (by omega) fun o1 l1 H1 w1 _=>?_
    simp(disch:=omega) only[go_sem]
    refine zu (yx [105,110,112,117,116] (by simp[Lim])) w1 (by omega) (by omega) (by omega) fun o2 l2 H2 w2 _=>?_
    simp(disch:=omega) only[go_sem]
    refine zu (yx nm (by simp only[Lim];omega)) w2 (by omega) (by omega) (by omega) fun o3 l3 H3 w3 _=>?_
    simp(disch:=omega) only[go_sem]
    refine zu (yH [123] _) w3 (by omega) (by omega) (by omega) fun o4 l4 H4 w4 _=>?_
    simp(disch:=omega) only[go_sem]
    refine Yj (zf9 ps hwx.2 (by simp only[Lim];omega)) w4 (by omega) fun o5 l5 H5 w5 _=>?_
    simp(disch:=omega) only[go_sem]
    refine zu (yH [125] _) w5 (by omega) (by omega) (by omega) fun o6 l6 H6 w6 _=>?_
    simp(disch:=omega) only[go_sem]
    exact hQ _ _ H6 H6 [] nofun rfl (Low.refl _) ⟨rfl,w6.fin (by simp only[YA];rw[if_neg (by omega),if_neg (by omega),if_neg (by omega),if_pos trivial];simp only[← hn,hbv,zgi];simp[yf,Bool.and_comm,Bool.and_left_comm]) (fun _=>by simp only[tE];rw[if_neg (by omega),if_neg (by omega),if_neg (by omega)];simp) (by simp only[bE];omega) (by simp only[bE,Al2,Al3];omega)⟩
   ·have a2':¬ (((faces.length+flds.length+parts.length:Nat):Int)=0):=by omega
    have hbv:n=false:=by rw[hn,Bool.eq_false_iff];simp only[ne_eq,Al0,y0];omega
    subst k5
    simp(disch:=omega) only[ir236,k1,k2,k3,k4,k5',hfs,a1',hfc,hfl,hfp,e1,e2,a2',go_sem]
    refine zu (Zz _) w0 (by omega) (by omega) (by omega) fun o1 l1 H1 w1 _=>?_
    simp(disch:=omega) only[go_sem]
    refine zu (yx [105,110,112,117,116] (by simp[Lim])) w1 (by omega) (by omega) (by omega) fun o2 l2 H2 w2 _=>?_
    simp(disch:=omega) only[go_sem]
    refine zu (yx nm (by simp only[Lim];omega)) w2 (by omega) (by omega) (by omega) fun o3 l3 H3 w3 _=>?_
    simp(disch:=omega) only[go_sem]
    refine zu (yH [123] _) w3 (by omega) (by omega) (by omega) fun o4 l4 H4 w4 _=>?_
    simp(disch:=omega) only[go_sem]
    refine Yj (zf9 ps hwx.2 (by simp only[Lim];omega)) w4 (by omega) fun o5 l5 H5 w5 _=>?_
    simp(disch:=omega) only[go_sem]
    refine zu (yH [125] _) w5 (by omega) (by omega) (by omega) fun o6 l6 H6 w6 _=>?_
    simp(disch:=omega) only[go_sem]
    exact hQ _ _ H6 H6 [] nofun rfl (Low.refl _) ⟨rfl,w6.fin (by simp only[YA];rw[if_neg (by omega),if_neg (by omega),if_neg (by omega),if_pos trivial];simp only[← hn,hbv,zgi];simp[yf,Bool.and_comm,Bool.and_left_comm]) (fun _=>by simp only[tE];rw[if_neg (by omega),if_neg (by omega),if_neg (by omega)];simp) (by simp only[bE];omega) (by simp only[bE,Al2,Al3];omega)⟩
 ·simp(disch:=omega) only[ir236,k1,k2,k3,k4,k5,go_sem]
  refine zu (Zz false) w0 (by omega) (by omega) (by omega) fun o2 l2 H2 w2 _=>?_
  simp(disch:=omega) only[go_sem]
  exact hQ _ _ H2 H2 [] nofun rfl (Low.refl _) ⟨rfl,w2.fin (by simp[YA,k1,k2,k3,k4,k5]) (fun e=>by simp[YA,k1,k2,k3,k4,k5] at e) (by omega) (by omega)⟩
theorem zrn (s:SchD) (hw:zcA s) (hb:64*zJ s+64≤Lim):zk Tryz.prog 210 [.agg (zq s)] zc.emp (zpd fun v H'=>H'=zc.emp∧∃ L,v=.tup [.sl .no 2 (cKs L),.bool (zba s)]∧wT L≤512*zJ s+128∧(zba s=true→L=zvT s)):=by
 refine zk.go ir210 ck210 (Al4 _) fun KP Q hQ=>?_
 obtain⟨defs,q,m⟩:=s
 have hle:=ze7 defs
 have hce:=zep defs
 have hb':=hb
 simp only[zJ,Lim] at hb'
 have ed:zq ⟨defs,q,m⟩=[.sl .no 6 (cEs defs),.str q,.str m]:=rfl
 obtain⟨R3,hR3⟩:∃ R3,R3=(zP q&&(decide (m=[])||zP m)):=⟨_,rfl⟩
 simp(disch:=omega) only[ir210,ed,go_sem]
 refine zdi zvq fun v H1 ⟨w,hv,hW⟩=>?_
 subst hv
 simp(disch:=omega) only[go_sem]
 refine zb fun b hb=>?_
 have hbw:b≠w:=fun e=>by subst e;rw[hW.cell] at hb;cases hb
 have w0:=(YR.refl hW).alloc (x:=.cells [.ptr w 0]) hb
 have g0:(H1.upd b (.cells [.ptr w 0])) b=some (.cells [.ptr w 0]):=upd_same ..
 simp(disch:=omega) only[go_sem]
 refine zu (yx [115,99,104,101,109,97] (by simp[Lim])) w0 (by omega) (by omega) (by simp only[Lim,Al3];omega) fun o1 l1 H2 w1 s1=>?_
 have g1:=s1.box w0.here.own g0 hbw
 simp(disch:=omega) only[g1,go_sem]
 refine zu (yH [123] _) w1 (by omega) (by omega) (by simp only[Lim,Al3];omega) fun o2 l2 H3 w2 s2=>?_
 have g2:=s2.box w1.here.own g1 hbw
 simp(disch:=omega) only[g2,go_sem]
 refine zu (yx [113,117,101,114,121] (by simp[Lim])) w2 (by omega) (by omega) (by simp only[Lim,Al3];omega) fun o3 l3 H4 w3 s3=>?_
 have g3:=s3.box w2.here.own g2 hbw
 simp(disch:=omega) only[g3,go_sem]
 refine zu (yH [58] _) w3 (by omega) (by omega) (by simp only[Lim,Al3];omega) fun o4 l4 H5 w4 s4=>?_
 have g4:=s4.box w3.here.own g3 hbw
 simp(disch:=omega) only[g4,go_sem]
 refine zu (yx q (by simp only[Lim];omega)) w4 (by omega) (by omega) (by simp only[Lim,Al3];omega) fun o5 l5 H6 w5 s5=>?_
 have g5:=s5.box w4.here.own g4 hbw
 by_cases hm0:m=[]
 ·have hm1:=eq_true hm0
  simp(disch:=omega) only[hm1,g5,go_sem]
  refine zu (yH [125] _) w5 (by omega) (by omega) (by simp only[Lim,Al3];omega) fun oB lB HB wB sB=>?_
  have gB:=sB.box w5.here.own g5 hbw
  simp(disch:=omega) only[gB,hce,go_sem]
  refine zf defs 50 (fun x:Own×List Tok=>[]) (fun done rest x H'=>YR H1 .nil w [] true 0 (10+64*bEs done) (100+q.length+m.length+512*bEs done) (R3&&done.all YA) (tRt q m++done.flatMap tE) H' x.1 x.2∧H' b=some (.cells [.ptr w 0])) (oB,lB) (by simp(disch:=omega) only[go_sem]) ⟨wB.castC (by omega) (by (try simp only[Al2,Al3]);omega) (by rw[hR3];simp[zij,zkn,zpP,hm0,yf]) (fun _=>by simp[tRt,hm0]),gB⟩ ?_ ?_
  ·rintro⟨o4,l4⟩ H4 J4 ⟨w4,g4⟩ hlt4
   simp only at w4 g4
   have er:zba ⟨defs,q,m⟩=(R3&&defs.all YA):=by rw[hR3,Bool.and_comm];rfl
   have hc4:=w4.here.cell
   have e4:=w4.eq
   rw[← er,Bool.true_and] at hc4 e4
   have hw4:=w4.wt
   simp(disch:=omega) only[hce,hlt4,g4,hc4,go_sem]
   exact hQ _ _ _ zc.emp [_,_] nofun rfl (Low.of_sub nofun) ⟨rfl,l4,rfl,by simp only[zhg,zJ] at hw4 ⊢;omega,fun hr=>by have:=e4 hr;rw[zbT] at this;rw[this];rfl⟩
  ·rintro done x rest ⟨o4,l4⟩ H4 J4 hd hlt4 hlt5 ⟨w4,g4⟩ hJ4
   simp only at w4 g4
   have hg:=zdr hd
   have hbm:=ziB done x rest
   rw[← hd] at hbm
   have hwx:=hw x (by rw[hd];simp)
   have hfw:=zu9 x hwx (by simp only[Lim];omega)
   obtain⟨k,nm,faces,flds,parts,ps⟩:=x
   rw[ye] at hg hfw
   simp(disch:=omega) only[hce,hlt4,hg,go_sem]
   refine zb fun b6 hb6=>?_
   have h6:b6≠b:=fun e=>by subst e;rw[g4] at hb6;cases hb6
   have w5:=w4.alloc (x:=.cells [.int .i64 k,.str nm,.sl .no 1 (cT faces),.sl .no 6 (cLs flds),.sl .no 1 (cT parts),.sl .no 10 (cWs ps)]) hb6
   have g5:(H4.upd b6 (.cells [.int .i64 k,.str nm,.sl .no 1 (cT faces),.sl .no 6 (cLs flds),.sl .no 1 (cT parts),.sl .no 10 (cWs ps)])) b=some (.cells [.ptr w 0]):=by rw[upd_ne (Ne.symm h6)];exact g4
   simp(disch:=omega) only[g5,go_sem]
   refine Yj hfw w5 (by simp only[Lim,Al3];omega) fun o6 l6 H6 w6 s6=>?_
   have g6:=s6.box w5.here.own g5 hbw
   simp(disch:=omega) only[wrap64,go_sem]
   exact goJ (hJ4 (o6,l6) H6 ⟨w6.cast (by rw[zdx];omega) (by rw[zdx];omega) (by simp[yf]) (by simp),g6⟩) (by simp(disch:=omega) only[go_sem])
 ·simp(disch:=omega) only[hm0,g5,go_sem]
  refine zu (yx [109,117,116,97,116,105,111,110] (by simp[Lim])) w5 (by omega) (by omega) (by simp only[Lim,Al3];omega) fun o6 l6 H7 w6 s6=>?_
  have g6:=s6.box w5.here.own g5 hbw
  simp(disch:=omega) only[g6,go_sem]
  refine zu (yH [58] _) w6 (by omega) (by omega) (by simp only[Lim,Al3];omega) fun o7 l7 H8 w7 s7=>?_
  have g7:=s7.box w6.here.own g6 hbw
  simp(disch:=omega) only[g7,go_sem]
  refine zu (yx m (by simp only[Lim];omega)) w7 (by omega) (by omega) (by simp only[Lim,Al3];omega) fun o8 l8 H9 w8 s8=>?_
  have g8:=s8.box w7.here.own g7 hbw
  simp(disch:=omega) only[g8,go_sem]
  refine zu (yH [125] _) w8 (by omega) (by omega) (by simp only[Lim,Al3];omega) fun oB lB HB wB sB=>?_
  have gB:=sB.box w8.here.own g8 hbw
  simp(disch:=omega) only[gB,hce,go_sem]
  refine zf defs 50 (fun x:Own×List Tok=>[]) (fun done rest x H'=>YR H1 .nil w [] true 0 (10+64*bEs done) (100+q.length+m.length+512*bEs done) (R3&&done.all YA) (tRt q m++done.flatMap tE) H' x.1 x.2∧H' b=some (.cells [.ptr w 0])) (oB,lB) (by simp(disch:=omega) only[go_sem]) ⟨wB.castC (by omega) (by (try simp only[Al2,Al3]);omega) (by rw[hR3];simp[zij,zkn,zpP,hm0,yf]) (fun _=>by simp[tRt,hm0]),gB⟩ ?_ ?_
  ·rintro⟨o4,l4⟩ H4 J4 ⟨w4,g4⟩ hlt4
   simp only at w4 g4
   have er:zba ⟨defs,q,m⟩=(R3&&defs.all YA):=by rw[hR3,Bool.and_comm];rfl
   have hc4:=w4.here.cell
   have e4:=w4.eq
   rw[← er,Bool.true_and] at hc4 e4
   have hw4:=w4.wt
   simp(disch:=omega) only[hce,hlt4,g4,hc4,go_sem]
   exact hQ _ _ _ zc.emp [_,_] nofun rfl (Low.of_sub nofun) ⟨rfl,l4,rfl,by simp only[zhg,zJ] at hw4 ⊢;omega,fun hr=>by have:=e4 hr;rw[zbT] at this;rw[this];rfl⟩
  ·rintro done x rest ⟨o4,l4⟩ H4 J4 hd hlt4 hlt5 ⟨w4,g4⟩ hJ4
   simp only at w4 g4
   have hg:=zdr hd
   have hbm:=ziB done x rest
   rw[← hd] at hbm
   have hwx:=hw x (by rw[hd];simp)
   have hfw:=zu9 x hwx (by simp only[Lim];omega)
   obtain⟨k,nm,faces,flds,parts,ps⟩:=x
   rw[ye] at hg hfw
   simp(disch:=omega) only[hce,hlt4,hg,go_sem]
   refine zb fun b6 hb6=>?_
   have h6:b6≠b:=fun e=>by subst e;rw[g4] at hb6;cases hb6
   have w5:=w4.alloc (x:=.cells [.int .i64 k,.str nm,.sl .no 1 (cT faces),.sl .no 6 (cLs flds),.sl .no 1 (cT parts),.sl .no 10 (cWs ps)]) hb6
   have g5:(H4.upd b6 (.cells [.int .i64 k,.str nm,.sl .no 1 (cT faces),.sl .no 6 (cLs flds),.sl .no 1 (cT parts),.sl .no 10 (cWs ps)])) b=some (.cells [.ptr w 0]):=by rw[upd_ne (Ne.symm h6)];exact g4
   simp(disch:=omega) only[g5,go_sem]
   refine Yj hfw w5 (by simp only[Lim,Al3];omega) fun o6 l6 H6 w6 s6=>?_
   have g6:=s6.box w5.here.own g5 hbw
   simp(disch:=omega) only[wrap64,go_sem]
   exact goJ (hJ4 (o6,l6) H6 ⟨w6.cast (by rw[zdx];omega) (by rw[zdx];omega) (by simp[yf]) (by simp),g6⟩) (by simp(disch:=omega) only[go_sem])
theorem zt1 (s:SchD) (hw:zcA s) (hb:64*zJ s+64≤Lim):zi Tryz.prog 158 [.agg (zq s)] (.bool (zba s)):=by
 refine zi.go ir158 ck158 (Al4 _) fun KP Q hQ=>?_
 have ed:zq s=[.sl .no 6 (cEs s.defs),.str s.q,.str s.m]:=rfl
 have hT:=zrn s hw hb
 rw[ed] at hT ⊢
 simp(disch:=omega) only[ir158,go_sem]
 refine zdi hT fun v H1 ⟨hH,L,hv,hL,hr⟩=>?_
 subst hv;subst hH
 simp(disch:=omega) only[go_sem]
 exact hQ _ _ _ _ nofun rfl (by simp[zd,ze,AV.strip,AV.strip1])
theorem zqC (s:SchD) (n:List UInt8) (hl:s.defs.length≤Lim):zi Tryz.prog 161 [.str n,.view (zq s)] (.bool (Zc s n [0])):=by
 have h1:=zcy s n [0] hl (by simp[Lim])
 generalize Zc s n [0]=x1 at *
 obtain⟨sd,sq,sm⟩:=s
 simp only[zq] at h1 ⊢
 refine zi.go ir161 ck161 (Al4 _) fun KP Q hQ=>?_
 simp(disch:=omega) only[ir161,go_sem]
 refine za (zi.low h1) ?_
 simp(disch:=omega) only[go_sem]
 exact hQ _ _ _ _ nofun rfl (by simp[zd,ze,AV.strip,AV.strip1])
noncomputable def zf8 (s:SchD):Bool:=zba s&&zaf (s.defs.map (·.nm))&&zbg (s.defs.map (·.nm))&&!(s.defs.map (·.nm)).any fun n=>Zc s n [0]
theorem zq6 (s:SchD) (hw:zcA s) (hb:64*zJ s+64≤Lim):zi Tryz.prog 116 [.agg (zq s)] (.bool (zf8 s)):=by
 have hbs:zJ s≤Lim:=by simp only[Lim] at hb ⊢;omega
 have hl:=yc hbs
 have hml:(s.defs.map (·.nm)).length≤Lim:=by rw[List.length_map];exact hl
 have h0:=zlu s.defs hl
 have h1:=zt1 s hw hb
 have h2:=zml (s.defs.map (·.nm)) hml
 have h3:=zjC (s.defs.map (·.nm)) hml
 have h4:=zlf (fun n:List UInt8=>AV.str n) (s.defs.map (·.nm)) 161 [.view (zq s)] (fun n=>Zc s n [0]) hml (by kernel_rfl) fun n _=>zqC s n hl
 unfold zf8
 generalize zba s=x1 at *
 generalize zaf (s.defs.map (·.nm))=x2 at *
 generalize zbg (s.defs.map (·.nm))=x3 at *
 generalize (s.defs.map (·.nm)).any (fun n=>Zc s n [0])=x4 at *
 generalize s.defs.map (·.nm)=l at *
 obtain⟨sd,sq,sm⟩:=s
 simp only[zq] at h0 h1 h4 ⊢
 refine zi.go ir116 ck116 (Al4 _) fun KP Q hQ=>?_
 simp(disch:=omega) only[ir116,go_sem]
 refine za h0 ?_
 simp(disch:=omega) only[go_sem]
 refine za h1 ?_
 cases x1 with
 | false =>
  simp(disch:=omega) only[go_sem]
  exact hQ _ _ _ _ nofun rfl (by simp[zd,ze,AV.strip,AV.strip1])
 | true =>
 simp(disch:=omega) only[go_sem]
 refine za h2 ?_
 cases x2 with
 | false =>
  simp(disch:=omega) only[go_sem]
  exact hQ _ _ _ _ nofun rfl (by simp[zd,ze,AV.strip,AV.strip1])
 | true =>
 simp(disch:=omega) only[go_sem]
 refine za h3 ?_
 cases x3 with
 | false =>
  simp(disch:=omega) only[go_sem]
  exact hQ _ _ _ _ nofun rfl (by simp[zd,ze,AV.strip,AV.strip1])
 | true =>
 simp(disch:=omega) only[go_sem]
 refine za h4 ?_
 simp(disch:=omega) only[go_sem]
 exact hQ _ _ _ _ nofun rfl (by simp[zd,ze,AV.strip,AV.strip1])
noncomputable def zea (s:SchD) (n:Int):Bool :=
 if n=1 then zf8 s else if n=2 then ziN s else if n=3 then zeR s else if n=4 then zjd s else if n=5 then ziT s
 else if n=6 then zi6 s else if n=7 then ziE s else if n=8 then zlY s else if n=9 then zrQ s else false
theorem ztF (s:SchD) (n:Int) (hw:zcA s) (hb:64*zJ s+64≤Lim):zi Tryz.prog 68 [.agg (zq s),.int .i64 n] (.bool (zea s n)):=by
 have hbs:zJ s≤Lim:=by simp only[Lim] at hb ⊢;omega
 have r1:=zq6 s hw hb
 have r2:=ztl s hbs
 have r3:=zop s hbs
 have r4:=zth s hbs
 have r5:=zt6 s hbs
 have r6:=ztJ s (by simp only[Lim] at hb ⊢;omega)
 have r7:=ztO s hbs
 have r8:=zvk s hbs
 have r9:=znd s hbs
 have eR:zea s n=zea s n:=rfl
 conv at eR=>rhs;unfold zea
 generalize zea s n=F at *
 generalize zf8 s=x1 at *
 generalize ziN s=x2 at *
 generalize zeR s=x3 at *
 generalize zjd s=x4 at *
 generalize ziT s=x5 at *
 generalize zi6 s=x6 at *
 generalize ziE s=x7 at *
 generalize zlY s=x8 at *
 generalize zrQ s=x9 at *
 obtain⟨sd,sq,sm⟩:=s
 simp only[zq] at r1 r2 r3 r4 r5 r6 r7 r8 r9 ⊢
 refine zi.go ir68 ck68 (Al4 _) fun KP Q hQ=>?_
 by_cases h1:n=1
 ·subst h1
  rw[if_pos rfl] at eR
  subst eR
  simp(disch:=omega) only[ir68,go_sem]
  refine za r1 ?_
  simp(disch:=omega) only[go_sem]
  exact hQ _ _ _ _ nofun rfl (by simp[zd,ze,AV.strip,AV.strip1])
 rw[if_neg h1] at eR
 by_cases h2:n=2
 ·subst h2
  rw[if_pos rfl] at eR
  subst eR
  simp(disch:=omega) only[ir68,go_sem]
  refine za r2 ?_
  simp(disch:=omega) only[go_sem]
  exact hQ _ _ _ _ nofun rfl (by simp[zd,ze,AV.strip,AV.strip1])
 rw[if_neg h2] at eR
 by_cases h3:n=3
 ·subst h3
  rw[if_pos rfl] at eR
  subst eR
  simp(disch:=omega) only[ir68,go_sem]
  refine za r3 ?_
  simp(disch:=omega) only[go_sem]
  exact hQ _ _ _ _ nofun rfl (by simp[zd,ze,AV.strip,AV.strip1])
 rw[if_neg h3] at eR
 by_cases h4:n=4
 ·subst h4
  rw[if_pos rfl] at eR
  subst eR
  simp(disch:=omega) only[ir68,go_sem]
  refine za r4 ?_
  simp(disch:=omega) only[go_sem]
  exact hQ _ _ _ _ nofun rfl (by simp[zd,ze,AV.strip,AV.strip1])
 rw[if_neg h4] at eR
 by_cases h5:n=5
 ·subst h5
  rw[if_pos rfl] at eR
  subst eR
  simp(disch:=omega) only[ir68,go_sem]
  refine za r5 ?_
  simp(disch:=omega) only[go_sem]
  exact hQ _ _ _ _ nofun rfl (by simp[zd,ze,AV.strip,AV.strip1])
 rw[if_neg h5] at eR
 by_cases h6:n=6
 ·subst h6
  rw[if_pos rfl] at eR
  subst eR
  simp(disch:=omega) only[ir68,go_sem]
  refine za r6 ?_
  simp(disch:=omega) only[go_sem]
  exact hQ _ _ _ _ nofun rfl (by simp[zd,ze,AV.strip,AV.strip1])
 rw[if_neg h6] at eR
 by_cases h7:n=7
 ·subst h7
  rw[if_pos rfl] at eR
  subst eR
  simp(disch:=omega) only[ir68,go_sem]
  refine za r7 ?_
  simp(disch:=omega) only[go_sem]
  exact hQ _ _ _ _ nofun rfl (by simp[zd,ze,AV.strip,AV.strip1])
 rw[if_neg h7] at eR
 by_cases h8:n=8
 ·subst h8
  rw[if_pos rfl] at eR
  subst eR
  simp(disch:=omega) only[ir68,go_sem]
  refine za r8 ?_
  simp(disch:=omega) only[go_sem]
  exact hQ _ _ _ _ nofun rfl (by simp[zd,ze,AV.strip,AV.strip1])
 rw[if_neg h8] at eR
 by_cases h9:n=9
 ·subst h9
  rw[if_pos rfl] at eR
  subst eR
  simp(disch:=omega) only[ir68,go_sem]
  refine za r9 ?_
  simp(disch:=omega) only[go_sem]
  exact hQ _ _ _ _ nofun rfl (by simp[zd,ze,AV.strip,AV.strip1])
 rw[if_neg h9] at eR
 subst eR
 simp(disch:=omega) only[ir68,h1,h2,h3,h4,h5,h6,h7,h8,h9,go_sem]
 exact hQ _ _ _ _ nofun rfl (by simp[zd,ze,AV.strip,AV.strip1])
noncomputable def zer (s:SchD):Nat→Int→Int
 | 0,_=>0
 | k+1,n=>if zea s n=true then zer s k (n+1) else n
theorem zrv (s:SchD) (hw:zcA s) (hb:64*zJ s+64≤Lim):zi Tryz.prog 24 [.agg (zq s)] (.int .i64 (zer s 9 1)):=by
 have hR:=fun n=>ztF s n hw hb
 generalize hF:zer s 9 1=F
 obtain⟨sd,sq,sm⟩:=s
 simp only[zq] at hR ⊢
 refine zi.go ir24 ck24 (Al4 _) fun KP Q hQ=>?_
 simp(disch:=omega) only[ir24,go_sem]
 refine zbL (fun x:Nat×Int=>[(3,.int .i64 x.2)]) (fun x _=>(x.1:Int)+x.2=10∧x.1≤9∧zer ⟨sd,sq,sm⟩ x.1 x.2=F) (fun x=>x.1) (9,1) (by simp(disch:=omega) only[go_sem]) ⟨by omega,by omega,hF⟩ ?_
 rintro⟨k,n⟩ H J ⟨hk,hn9,hn⟩ hJ
 simp only at hk hn9 hn
 cases k with
 | zero =>
  simp only[zer] at hn
  subst hn
  have hle:¬ (n≤9):=by omega
  simp(disch:=omega) only[hle,go_sem]
  exact hQ _ _ _ _ nofun rfl (by simp[zd,ze,AV.strip,AV.strip1])
 | succ k =>
  simp only[zer] at hn
  have hr:=hR n
  have hle:(n≤9)=True:=eq_true (by omega)
  generalize hx:zea ⟨sd,sq,sm⟩ n=x at *
  simp(disch:=omega) only[hle,go_sem]
  refine za hr ?_
  cases x with
  | true =>
   rw[if_pos rfl] at hn
   simp(disch:=omega) only[wrap64,go_sem]
   exact goJ (hJ (k,n+1) _ (by simp only;omega) ⟨by simp only;omega,by simp only;omega,hn⟩) (by simp(disch:=omega) only[wrap64,go_sem])
  | false =>
   rw[if_neg (by simp)] at hn
   subst hn
   simp(disch:=omega) only[go_sem]
   exact hQ _ _ _ _ nofun rfl (by simp[zd,ze,AV.strip,AV.strip1])
theorem zuk (f:FragD) (l:List (List UInt8)) (b:Nat) (o:Own) (H:zc) (hb:H b=some (.cells [.sl o 1 (cT l)])) (hl:l.length≤Lim):zk Tryz.prog 86 [.agg (cF f),.ptr b 0] H (At (.bool (!z8 f.nm l)) H):=by
 have h1:=yQ l f.nm hl
 obtain⟨nm,on,ds,ss⟩:=f
 simp only at h1 ⊢
 generalize z8 nm l=x1 at *
 refine zk.go ir86 ck86 (Al4 _) fun KP Q hQ=>?_
 simp(disch:=omega) only[ir86,Yh,hb,go_sem]
 refine za (zi.low h1) ?_
 simp(disch:=omega) only[go_sem]
 exact hQ _ _ _ _ _ nofun rfl (Low.refl _) ⟨by simp[zd,ze,AV.strip,AV.strip1],rfl⟩
theorem zrx {H:zc} {o:Own} {n sz b:Nat} {cs cs':List AV} (h:zR H o n sz) (hb:H b=some (.cells cs)):zR (H.upd b (.cells cs')) o n sz:=by
 cases o with
 | tip c d =>
  have hc:H c=some (.tip (d+n) sz):=h
  have hne:c≠b:=fun e=>by subst e;rw[hb] at hc;cases hc
  show (H.upd b _) c=_
  simp[zc.upd,hne,hc]
 | no=>exact h
 | nil=>exact h
 | full=>exact h
def zsK (d:DocD):List (List UInt8):=d.ops.foldl (fun l o=>l++yi d o.sels) []
def zen (d:DocD):Bool:=!d.frags.any fun f=>!z8 f.nm (zsK d)
theorem zuL (d:DocD) (hb:Zg d≤Lim) (hb2:zv d*zv d+zv d≤1099511627776):zi Tryz.prog 46 [.agg (zT d)] (.bool (zen d)):=by
 have hb3:=hb
 simp only[Zg] at hb3
 have hb4:2*(zv d+zv d)≤1099511627776:=by simpa only[Lim] using hb3
 have h0:bOs d.ops+bFs d.frags=zv d:=rfl
 have hfl:=yD d.frags
 have hol:=Zi d.ops
 have hR:=fun(o:OpD) (H:zc) (ho:bSs o.sels+bFs d.frags≤zv d)=>zgF d o.sels H (by omega)
 have hRl:=fun o:OpD=>zce d o.sels
 have hop:=fun(o:OpD) (ho:o∈d.ops)=>(by
  obtain⟨a,b,hd⟩:=List.append_of_mem ho
  have:=Yv a o b
  rw[← hd] at this
  simp only[bO] at this;omega:bSs o.sels+bFs d.frags≤zv d)
 have hany:=fun(l:List (List UInt8)) (b:Nat) (o:Own) (H:zc) (hb:H b=some (.cells [.sl o 1 (cT l)])) (hl:l.length≤Lim)=>zqr cF (fun _=>rfl) d.frags 86 [.ptr b 0] (fun f=>!z8 f.nm l) H (by omega) (by kernel_rfl) fun f _=>zuk f l b o H hb hl
 have e0:zen d=!d.frags.any fun f=>!z8 f.nm (d.ops.foldl (fun l o=>l++yi d o.sels) []):=rfl
 generalize zen d=F at *
 generalize hRe:yi d=R at *
 generalize hB:zv d=B at *
 have l1:=Zx d.ops
 have hmul:d.ops.length*B≤B*B:=Nat.mul_le_mul_right _ (by omega)
 have hcd:zT d=[.sl .no 5 (cOs d.ops),.sl .no 4 (cFs d.frags)]:=rfl
 rw[hcd] at hR ⊢
 refine zi.go ir46 ck46 (Al4 _) fun KP Q hQ=>?_
 simp(disch:=omega) only[ir46,go_sem]
 refine zb fun b3 hb3=>?_
 simp(disch:=omega) only[l1,go_sem]
 refine zf d.ops 9 (fun _:Unit=>[]) (fun done rest _ H'=>∃ o l,rest.foldl (fun l o=>l++R o.sels) l=d.ops.foldl (fun l o=>l++R o.sels) []∧H' b3=some (.cells [.sl o 1 (cT l)])∧zR H' o l.length 1∧l.length≤done.length*B) () (by simp(disch:=omega) only[go_sem]) ⟨.nil,[],rfl,by simp[zc.upd,cT],rfl,by simp⟩ ?_ ?_
 ·rintro _ H1 J ⟨o,l,hn,g3,ho,hle⟩ hlt
  simp only[List.foldl] at hn
  rw[← hn] at e0
  have h5:=zk.low (args:=[.sl .no 4 (cFs d.frags),.clo 86 [] [.ptr b3 0]]) (hany l b3 o H1 g3 (by simp only[Lim];omega))
  simp(disch:=omega) only[l1,hlt,g3,go_sem]
  refine z6 h5 ?_
  rintro _ _ ⟨_,rfl,rfl,rfl⟩
  simp(disch:=omega) only[ZU,go_sem]
  exact hQ _ _ _ _ nofun rfl (by simp[zd,ze,AV.strip,AV.strip1,e0])
 ·rintro done x rest _ H1 J hd hlt hlt2 ⟨o,l,hn,g3,ho,hle⟩ hJ
  have hg:=Yf hd
  have hxm:x∈d.ops:=by rw[hd];simp
  have hxs:=hop x hxm
  have hRx:=fun H=>hR x H hxs
  have hRlx:=hRl x
  have hml:(done.length+1)*B≤d.ops.length*B:=Nat.mul_le_mul_right _ (by omega)
  rw[Nat.add_mul,Nat.one_mul] at hml
  simp only[List.foldl] at hn
  obtain⟨k,nm,vs,ds,ss⟩:=x
  simp only at hRx hRlx hn hxs
  have h3:=zK l
  have h4:=zK (R ss)
  have hRl':(R ss).length≤B:=by omega
  rw[zad] at hg
  simp(disch:=omega) only[l1,hlt,hg,go_sem]
  refine zb fun b5 hb5=>?_
  have hb53:b5≠b3:=fun e=>by subst e;rw[g3] at hb5;cases hb5
  simp(disch:=omega) only[g3,hb53,Ne.symm hb53,go_sem]
  refine zB (hRx _) fun o2 H2 hs2=>?_
  have k3:=hs2.kept b3 _ (by simp only[zc.upd,Ne.symm hb53,if_false];exact g3) (fun d e=>by cases e)
  have k5:=hs2.kept b5 _ (upd_same ..) (fun d e=>by cases e)
  have ko:zR H2 o l.length 1:=zR.ofKept (ho.upd hb5) hs2.kept fun _ _ _ _ e=>by cases e
  simp(disch:=omega) only[g3,k3,k5,hb53,Ne.symm hb53,go_sem]
  refine zt (by rw[h3];exact ko) ?_ ?_ fun o' H3 hs3=>?_
  ·simp only[h3,h4];omega
  ·simp only[h3,h4,maxLen];omega
  have e1:cT l++(cT (R ss)).map (·.map AV.strip1)=cT (l++R ss):=by simp[cT];intro a _;rfl
  have hs4:=hs3
  simp only[h3,h4] at hs4
  have nt:∀ b c,H2 b=some (.cells c)→∀ d,o≠.tip b d:=fun b c hc d e=>by subst e;simp only[zR] at ko;rw[hc] at ko;cases ko
  have j3:=hs4.kept b3 _ k3 (nt b3 _ k3)
  simp(disch:=omega) only[wrap64,j3,e1,go_sem]
  have hol3:zR (H3.upd b3 (.cells [.sl o' 1 (cT (l++R ss))])) o' (l++R ss).length 1:=zrx (by simpa using hs4.own) j3
  exact goJ (hJ () _ ⟨o',l++R ss,hn,upd_same ..,hol3,by simp only[Al5,Al2,Al3,Nat.add_mul,Nat.one_mul];omega⟩) (by simp(disch:=omega) only[wrap64,go_sem])
noncomputable def YP (s:SchD) (d:DocD) (n:Int):Bool :=
 if n=1 then zaf ((d.ops.map (·.nm)).filter (fun n=>!decide (n=[])))
 else if n=2 then decide (0<d.ops.length)&&(decide (d.ops.length=1)||!z8 [] (d.ops.map (·.nm)))
 else if n=3 then !decide (s.m=[])||!d.ops.any fun o=>decide (o.k=1)
 else if n=4 then zaf (d.frags.map (·.nm))
 else if n=5 then onM s d
 else if n=6 then zha d
 else if n=7 then !zbG d
 else if n=8 then zen d
 else false
theorem zvV (o:OpD):zi Tryz.prog 41 [.agg (cO o)] (.bool (decide (o.k=1))):=by
 obtain⟨k,nm,vs,ds,ss⟩:=o
 rw[zad]
 refine zi.go ir41 ck41 (Al4 _) fun KP Q hQ=>?_
 simp(disch:=omega) only[ir41,go_sem]
 exact hQ _ _ _ _ nofun rfl (by simp[zd,ze,AV.strip,AV.strip1])
theorem ztQ (s:SchD) (d:DocD) (n:Int) (hs:zJ s≤Lim) (hb:Zg d≤Lim) (hb2:zv d*zv d+zv d≤1099511627776):zi Tryz.prog 17 [.agg (zq s),.agg (zT d),.int .i64 n] (.bool (YP s d n)):=by
 have hb3:=hb
 simp only[Zg,Lim] at hb3
 have hbd:zv d≤Lim:=by simp only[Lim];omega
 have hd1:=Zi d.ops
 have hd2:=yD d.frags
 have h0:bOs d.ops+bFs d.frags=zv d:=rfl
 have r1:=fun H=>zul d H hbd
 have r1':=fun o:Own=>zi.low (args:=[.sl o 1 (cT ((d.ops.map (·.nm)).filter (fun n=>!decide (n=[]))))]) (zpr ((d.ops.map (·.nm)).filter (fun n=>!decide (n=[]))) (by
  have:=List.length_filter_le (fun n:List UInt8=>!decide (n=[])) (d.ops.map (·.nm))
  rw[List.length_map] at this
  simp only[Lim];omega))
 have r2:=fun H=>zvG d H hbd
 have r2':=fun o:Own=>zi.low (args:=[.sl o 1 (cT (d.ops.map (·.nm))),.str []]) (yQ (d.ops.map (·.nm)) [] (by rw[List.length_map];simp only[Lim];omega))
 have r3:=anyOp cO (fun _=>rfl) d.ops 41 [] (fun o=>decide (o.k=1)) (by simp only[Lim];omega) (by kernel_rfl) fun o _=>zvV o
 have r4:=fun H=>zte d H hbd
 have r4':=fun o:Own=>zi.low (args:=[.sl o 1 (cT (d.frags.map (·.nm)))]) (zpr (d.frags.map (·.nm)) (by rw[List.length_map];simp only[Lim];omega))
 have r5:=onC s d (yc hs) hbd
 have r6:=zua d hbd
 have r7:=zpK d hb
 have r8:=zuL d hb hb2
 have l1:=Zx d.ops
 have hol:d.ops.length≤1099511627776:=by omega
 have eR:YP s d n=YP s d n:=rfl
 conv at eR=>rhs;unfold YP
 generalize YP s d n=F at *
 generalize zaf ((d.ops.map (·.nm)).filter (fun n=>!decide (n=[])))=x1 at *
 generalize z8 [] (d.ops.map (·.nm))=x2 at *
 generalize d.ops.any (fun o=>decide (o.k=1))=x3 at *
 generalize zaf (d.frags.map (·.nm))=x4 at *
 generalize onM s d=x5 at *
 generalize zha d=x6 at *
 generalize zbG d=x7 at *
 generalize zen d=x8 at *
 obtain⟨ops,frags⟩:=d
 obtain⟨sd,sq,sm⟩:=s
 have hcd:zT ⟨ops,frags⟩=[.sl .no 5 (cOs ops),.sl .no 4 (cFs frags)]:=rfl
 simp only[zq,hcd] at r1 r2 r3 r4 r5 r6 r7 r8 eR l1 hol ⊢
 refine zi.go ir17 ck17 (Al4 _) fun KP Q hQ=>?_
 by_cases h1:n=1
 ·subst h1
  rw[if_pos rfl] at eR
  subst eR
  simp(disch:=omega) only[ir17,go_sem]
  refine zB (r1 _) fun o1 H1 _=>?_
  simp(disch:=omega) only[go_sem]
  refine za (r1' o1) ?_
  simp(disch:=omega) only[go_sem]
  exact hQ _ _ _ _ nofun rfl (by simp[zd,ze,AV.strip,AV.strip1])
 rw[if_neg h1] at eR
 by_cases h2:n=2
 ·subst h2
  rw[if_pos rfl] at eR
  subst eR
  by_cases z0:0<ops.length
  case neg =>
   have z1:¬ ((0:Int)<ops.length):=by omega
   simp(disch:=omega) only[ir17,l1,z1,go_sem]
   exact hQ _ _ _ _ nofun rfl (by simp[zd,ze,AV.strip,AV.strip1,z0])
  have z1:(0:Int)<ops.length:=by omega
  have z1':((0:Int)<ops.length)=True:=eq_true z1
  by_cases y:ops.length=1
  ·have y':((ops.length:Int)=1)=True:=eq_true (by omega)
   simp(disch:=omega) only[ir17,l1,z1',y',go_sem]
   exact hQ _ _ _ _ nofun rfl (by simp[zd,ze,AV.strip,AV.strip1,z0,y])
  ·have y':¬ ((ops.length:Int)=1):=by omega
   simp(disch:=omega) only[ir17,l1,z1',y',go_sem]
   refine zB (r2 _) fun o1 H1 _=>?_
   simp(disch:=omega) only[go_sem]
   refine za (r2' o1) ?_
   simp(disch:=omega) only[go_sem]
   exact hQ _ _ _ _ nofun rfl (by simp[zd,ze,AV.strip,AV.strip1,z0,y])
 rw[if_neg h2] at eR
 by_cases h3:n=3
 ·subst h3
  rw[if_pos rfl] at eR
  subst eR
  by_cases z:sm=[]
  ·have z':=eq_true z
   simp(disch:=omega) only[ir17,z',go_sem]
   refine za r3 ?_
   simp(disch:=omega) only[go_sem]
   exact hQ _ _ _ _ nofun rfl (by simp[zd,ze,AV.strip,AV.strip1,z])
  ·simp(disch:=omega) only[ir17,z,go_sem]
   exact hQ _ _ _ _ nofun rfl (by simp[zd,ze,AV.strip,AV.strip1,z])
 rw[if_neg h3] at eR
 by_cases h4:n=4
 ·subst h4
  rw[if_pos rfl] at eR
  subst eR
  simp(disch:=omega) only[ir17,go_sem]
  refine zB (r4 _) fun o1 H1 _=>?_
  simp(disch:=omega) only[go_sem]
  refine za (r4' o1) ?_
  simp(disch:=omega) only[go_sem]
  exact hQ _ _ _ _ nofun rfl (by simp[zd,ze,AV.strip,AV.strip1])
 rw[if_neg h4] at eR
 by_cases h5:n=5
 ·subst h5
  rw[if_pos rfl] at eR
  subst eR
  simp(disch:=omega) only[ir17,go_sem]
  refine za r5 ?_
  simp(disch:=omega) only[go_sem]
  exact hQ _ _ _ _ nofun rfl (by simp[zd,ze,AV.strip,AV.strip1])
 rw[if_neg h5] at eR
 by_cases h6:n=6
 ·subst h6
  rw[if_pos rfl] at eR
  subst eR
  simp(disch:=omega) only[ir17,go_sem]
  refine za r6 ?_
  simp(disch:=omega) only[go_sem]
  exact hQ _ _ _ _ nofun rfl (by simp[zd,ze,AV.strip,AV.strip1])
 rw[if_neg h6] at eR
 by_cases h7:n=7
 ·subst h7
  rw[if_pos rfl] at eR
  subst eR
  simp(disch:=omega) only[ir17,go_sem]
  refine za r7 ?_
  simp(disch:=omega) only[go_sem]
  exact hQ _ _ _ _ nofun rfl (by simp[zd,ze,AV.strip,AV.strip1])
 rw[if_neg h7] at eR
 by_cases h8:n=8
 ·subst h8
  rw[if_pos rfl] at eR
  subst eR
  simp(disch:=omega) only[ir17,go_sem]
  refine za r8 ?_
  simp(disch:=omega) only[go_sem]
  exact hQ _ _ _ _ nofun rfl (by simp[zd,ze,AV.strip,AV.strip1])
 rw[if_neg h8] at eR
 subst eR
 simp(disch:=omega) only[ir17,h1,h2,h3,h4,h5,h6,h7,h8,go_sem]
 exact hQ _ _ _ _ nofun rfl (by simp[zd,ze,AV.strip,AV.strip1])
theorem zlR (t:TyD):(zas t).nm=t.nm:=by unfold zas;split<;>rfl
def zvJ:Val→Int
 | .mk k _ _ _ _=>k
def zfi (v:VarD) (t:TyD) (has:Bool):Bool:=if !isM t||isM v.t then zaR v.t t else (has||(v.has&&!decide (zvJ v.d=0)))&&zaR v.t (zas t)
theorem zs1 (v:VarD) (t:TyD) (has:Bool) (hv:v.t.nm.length≤Lim) (ht:t.nm.length≤Lim):zi Tryz.prog 112 [.agg (cW v),.agg (cTy t),.bool has] (.bool (zfi v t has)):=by
 have h1:=isC t ht
 have h2:=isC v.t hv
 have h3:=zlU v.t t hv ht
 have h4:=zqX t ht
 have h5:=zlU v.t (zas t) hv (by rw[zlR];exact ht)
 obtain⟨nm,⟨v1,v2,v3⟩,vh,⟨k,q,st,l,m⟩⟩:=v
 have e0:zfi ⟨nm,⟨v1,v2,v3⟩,vh,.mk k q st l m⟩ t has=if !isM t||isM ⟨v1,v2,v3⟩ then zaR ⟨v1,v2,v3⟩ t else (has||(vh&&!decide (k=0)))&&zaR ⟨v1,v2,v3⟩ (zas t):=rfl
 generalize zfi ⟨nm,⟨v1,v2,v3⟩,vh,.mk k q st l m⟩ t has=F at *
 simp only at h2 h3 h5
 generalize isM t=x1 at *
 generalize isM ⟨v1,v2,v3⟩=x2 at *
 generalize zaR ⟨v1,v2,v3⟩ t=x3 at *
 generalize zaR ⟨v1,v2,v3⟩ (zas t)=x5 at *
 generalize zas t=t' at *
 obtain⟨t1,t2,t3⟩:=t
 obtain⟨u1,u2,u3⟩:=t'
 simp only[cTy] at h1 h2 h3 h4 h5 ⊢
 rw[z7]
 refine zi.go ir112 ck112 (Al4 _) fun KP Q hQ=>?_
 simp(disch:=omega) only[ir112,go_sem]
 refine za h1 ?_
 cases x1 with
 | false =>
  simp(disch:=omega) only[go_sem]
  refine za h3 ?_
  simp(disch:=omega) only[go_sem]
  exact hQ _ _ _ _ nofun rfl (by simp[zd,ze,AV.strip,AV.strip1,e0])
 | true =>
 simp(disch:=omega) only[go_sem]
 refine za h2 ?_
 cases x2 with
 | true =>
  simp(disch:=omega) only[go_sem]
  refine za h3 ?_
  simp(disch:=omega) only[go_sem]
  exact hQ _ _ _ _ nofun rfl (by simp[zd,ze,AV.strip,AV.strip1,e0])
 | false =>
 simp only[Bool.not_true,Bool.or_self,Al7,if_false] at e0
 cases has with
 | true =>
  simp(disch:=omega) only[go_sem]
  refine za h4 ?_
  simp(disch:=omega) only[go_sem]
  refine za h5 ?_
  simp(disch:=omega) only[go_sem]
  exact hQ _ _ _ _ nofun rfl (by simp[zd,ze,AV.strip,AV.strip1,e0])
 | false =>
 cases vh with
 | false =>
  simp(disch:=omega) only[go_sem]
  exact hQ _ _ _ _ nofun rfl (by simp[zd,ze,AV.strip,AV.strip1,e0])
 | true =>
 by_cases hk:k=0
 ·have hk':=eq_true hk
  simp(disch:=omega) only[hk',go_sem]
  exact hQ _ _ _ _ nofun rfl (by simp[zd,ze,AV.strip,AV.strip1,e0,hk])
 ·simp(disch:=omega) only[hk,go_sem]
  refine za h4 ?_
  simp(disch:=omega) only[go_sem]
  refine za h5 ?_
  simp(disch:=omega) only[go_sem]
  exact hQ _ _ _ _ nofun rfl (by simp[zd,ze,AV.strip,AV.strip1,e0,hk])
theorem zib (d:DocD) (sels:List SelD):(Zm d sels).length≤d.frags.length:=by
 have h:∀(R:List (List UInt8)) (fs:List FragD) (a:List (List UInt8)),(fs.foldl (y9 R) a).length≤a.length+fs.length:=by
  intro R fs
  induction fs with
  | nil=>simp
  | cons f fs ih =>
   intro a
   have:=ih (y9 R a f)
   have h2:(y9 R a f).length≤a.length+1:=by unfold y9;split<;>simp
   simp only[List.foldl_cons,Al2];omega
 have:=h (yi d sels) d.frags []
 simpa[Zm] using this
noncomputable def zg3 (s:SchD) (d:DocD) (n:List UInt8):List SpotD:=Y6 s ((zC d n).getD zFr).sels ((zC d n).getD zFr).on
noncomputable def zfw (s:SchD) (d:DocD) (o:OpD):List SpotD:=Y6 s o.sels (ZV s o)++(Zm d o.sels).flatMap (zg3 s d)
theorem zoa (d:DocD) (n:List UInt8):bSs ((zC d n).getD zFr).sels≤bFs d.frags:=by
 cases h:zC d n with
 | none=>simp[zFr,bSs]
 | some f=>exact Nat.le_trans (zap f) (zbM (List.mem_of_find?_eq_some h))
theorem ziV (s:SchD) (d:DocD) (hs:zJ s≤Lim) (hb:zv d≤Lim):∀ l:List (List UInt8),(l.flatMap (zg3 s d)).length≤l.length*zv d∧∀ y∈l.flatMap (zg3 s d),y.t.nm.length≤Lim
 | []=>by simp
 | n::r=>by
  have h1:=zoa d n
  have h0:bFs d.frags≤zv d:=by simp only[zv];omega
  have h2:=zdv s hs ((zC d n).getD zFr).sels ((zC d n).getD zFr).on (by omega)
  have h3:=ziV s d hs hb r
  rw[List.flatMap_cons,Al2,Nat.add_mul,Nat.one_mul]
  refine⟨by rw[Al5];simp only[zg3] at h3 ⊢;omega,fun y hy=>?_⟩
  rcases List.mem_append.1 hy with h|h
  ·exact h2.2 y h
  ·exact h3.2 y h
theorem zqD (s:SchD) (d:DocD) (o:OpD) (hs:zJ s≤Lim) (hb:zv d≤Lim) (ho:bSs o.sels≤zv d):(zfw s d o).length≤zv d+zv d*zv d∧∀ y∈zfw s d o,y.t.nm.length≤Lim:=by
 have h1:=zdv s hs o.sels (ZV s o) (by omega)
 have h2:=ziV s d hs hb (Zm d o.sels)
 have h3:=zib d o.sels
 have h4:=yD d.frags
 have h0:bFs d.frags≤zv d:=by simp only[zv];omega
 have h5:(Zm d o.sels).length*zv d≤zv d*zv d:=Nat.mul_le_mul_right _ (by omega)
 refine⟨by rw[zfw,Al5];omega,fun y hy=>?_⟩
 rcases List.mem_append.1 hy with h|h
 ·exact h1.2 y h
 ·exact h2.2 y h
theorem zuD (s:SchD) (d:DocD) (o:OpD) (H:zc) (hs:zJ s≤Lim) (hb:Zg d≤Lim) (hb2:zv d*zv d+zv d≤1099511627776) (ho:bSs o.sels≤zv d):zac Tryz.prog 111 [.agg (zq s),.agg (zT d),.agg (cO o)] H .nil 5 (cPs (zfw s d o)):=by
 have hb3:=hb
 simp only[Zg,Lim] at hb3
 have hbd:zv d≤Lim:=by simp only[Lim];omega
 have h0:bFs d.frags≤zv d:=by simp only[zv];omega
 have hfl:=yD d.frags
 have hroot:=zoP s o
 have hsp:=fun l typ H (h:bSs l≤zv d)=>ztD s hs (zv d) l typ H h hbd
 have hrch:=fun H=>zpk d o.sels H hb ho
 have hrl:=zib d o.sels
 have hfr:=fun n=>zkt d n (by simp only[Lim];omega)
 have hfs:=fun n=>zoa d n
 have hokA:=ziV s d hs hbd
 have hok1:=(zdv s hs o.sels (ZV s o) (by omega)).1
 have e0:zfw s d o=Y6 s o.sels (ZV s o)++(Zm d o.sels).flatMap (zg3 s d):=rfl
 have eS:∀ n,zg3 s d n=Y6 s ((zC d n).getD zFr).sels ((zC d n).getD zFr).on:=fun _=>rfl
 have hmulA:(Zm d o.sels).length*zv d≤zv d*zv d:=Nat.mul_le_mul_right _ (by omega)
 generalize zfw s d o=F at *
 generalize ZV s o=rt at *
 generalize Zm d o.sels=R at *
 obtain⟨k,nm,vs,ds,sels⟩:=o
 simp only at hok1 e0 ho hrch
 generalize hU0:Y6 s sels rt=U0 at *
 generalize hB:zv d=B at *
 have hcd:zT d=[.sl .no 5 (cOs d.ops),.sl .no 4 (cFs d.frags)]:=rfl
 obtain⟨sd,sq,sm⟩:=s
 generalize hS:(⟨sd,sq,sm⟩:SchD)=s at *
 have hcs:zq s=[.sl .no 6 (cEs sd),.str sq,.str sm]:=by rw[← hS];rfl
 simp only[hcs,hcd,zad] at hroot hsp hrch hfr ⊢
 have l1:=zK R
 refine zk.goO ir111 ck111 (Al4 _) fun KP Q hQ hP=>?_
 have fin:∀ r o,F=r→∀ ρ H1,zL ρ H1 ir111.res=some [.sl o 5 (cPs r)]→OwnS H .nil H1 o r.length 5→Q .ret ρ H1:=fun r o e ρ H1 h1 h2=>hQ _ ρ H1 H1 _ nofun h1 (Low.refl _) ⟨o,by rw[e];rfl,by rw[e,yd];exact h2⟩
 simp(disch:=omega) only[ir111,go_sem]
 refine za hroot ?_
 simp(disch:=omega) only[go_sem]
 refine zB (hsp sels rt _ ho) fun o1 H1 hs1=>?_
 rw[hU0] at hs1 ⊢
 rw[yd] at hs1
 simp(disch:=omega) only[go_sem]
 refine zB (hrch _) fun oR H2 hs2=>?_
 have hu:=YB hs1 hs2
 simp(disch:=omega) only[l1,go_sem]
 refine zf R 24 (fun x:Own×List SpotD=>[(7,.sl x.1 5 (cPs x.2))]) (fun done rest x H'=>x.2=U0++done.flatMap (zg3 s d)∧OwnS H .nil H' x.1 x.2.length 5) (o1,U0) (by simp(disch:=omega) only[go_sem]) ⟨by simp,hu⟩ ?_ ?_
 ·rintro⟨o3,a⟩ H3 J ⟨hn,hs3⟩ hlt
  simp only at hn
  subst hn
  simp(disch:=omega) only[l1,hlt,go_sem]
  exact fin _ o3 e0 _ _ rfl hs3
 ·rintro done x rest ⟨o3,a⟩ H3 J hd hlt _ ⟨hn,hs3⟩ hJ
  have hg:=Z5 hd
  have hfx:=hfr x
  have hfsx:=hfs x
  have eSx:=eS x
  simp only at hn
  replace hs3:OwnS H .nil H3 o3 a.length 5:=hs3
  have hal:=(hokA done).1
  have hdl:done.length*B≤R.length*B:=Nat.mul_le_mul_right _ (by omega)
  have hal1:=(hokA [x]).1
  simp only[List.flatMap_cons,List.flatMap_nil,List.append_nil,Al2,Al3,Nat.zero_add,Nat.one_mul] at hal1
  have hnx:U0++(done++[x]).flatMap (zg3 s d)=a++zg3 s d x:=by rw[List.flatMap_append,hn];simp[zbP]
  have hale:a.length=U0.length+(done.flatMap (zg3 s d)).length:=by rw[hn,Al5]
  rw[eSx] at hal1 hnx
  generalize (zC d x).isSome=fs at *
  generalize (zC d x).getD zFr=f at *
  obtain⟨fn,fo,fd,fss⟩:=f
  rw[Yh] at hfx
  simp only at hfsx hal1 hnx
  have hsx:=fun H=>hsp fss fo H (by omega)
  generalize Y6 s fss fo=U at *
  simp(disch:=omega) only[l1,hlt,hg,go_sem]
  refine za hfx ?_
  simp(disch:=omega) only[go_sem]
  refine zb fun b10 hb10=>?_
  have hu1:=hs3.upd (x:=.cells [.str fn,.str fo,.sl .no 2 (cDs fd),.sl .no 7 (cSs fss)]) hb10
  simp(disch:=omega) only[go_sem]
  refine zB (hsx _) fun o4 H4 hs4=>?_
  have hu4:=YB hu1 hs4
  simp(disch:=omega) only[go_sem]
  refine zt (by rw[yd];exact hu4.own) ?_ ?_ fun o5 H5 hs5=>?_
  ·simp only[yd];omega
  ·simp only[yd,maxLen];omega
  simp only[yd] at hs5
  simp(disch:=omega) only[wrap64,zch,go_sem]
  exact goJ (hJ (o5,a++U) H5 ⟨hnx.symm,by rw[Al5];exact hu4.trans hs5⟩) (by simp(disch:=omega) only[wrap64,go_sem])
noncomputable def zht (s:SchD) (ps:List VarD) (l:List Mem):Bool:=l.all fun m=>match m with|.mk n v=>match ya ps n with|none=>true|some p=>ZQ s p.t v
theorem zuE (s:SchD) (ps:List VarD) (l:List Mem) (hs:zJ s≤Lim) (hp:bWs ps≤Lim) (hb:bMs l≤Lim):zi Tryz.prog 110 [.sl .no 10 (cWs ps),.sl .no 6 (cMs l),.view (zq s)] (.bool (zht s ps l)):=by
 have hml:=y5 l
 have h1m:=yY l
 have hEl:=yP ps
 have hb':=hb
 simp only[Lim] at hb'
 have hpar:=fun n=>zd0 ps n (by omega)
 have hmem:∀ n x,Mem.mk n x∈l→∀ p,ya ps n=some p→zi Tryz.prog 109 [.agg (zq s),.agg (cTy p.t),.agg (cV x)] (.bool (ZQ s p.t x)):=fun n x hx p hp=>by
  have hxb:bV x≤Lim:=by have:=zeJ hx;omega
  have hpm:p∈ps:=List.mem_of_find?_eq_some hp
  have hpt:p.t.nm.length≤Lim:=by have:=Yt hpm;simp only[bW] at this;omega
  exact zfh s p.t x hs hxb hpt
 have hst:∀ n v r,zht s ps (.mk n v::r)=((match ya ps n with|none=>true|some p=>ZQ s p.t v)&&zht s ps r):=fun n v r=>by simp only[zht,List.all_cons]
 have h00:zht s ps []=true:=rfl
 generalize hR:zht s ps=R at *
 obtain⟨sd,sq,sm⟩:=s
 generalize hS:(⟨sd,sq,sm⟩:SchD)=s at *
 have hcs:zq s=[.sl .no 6 (cEs sd),.str sq,.str sm]:=by rw[← hS];rfl
 simp only[hcs] at hmem ⊢
 refine zi.go ir110 ck110 (Al4 _) fun KP Q hQ=>?_
 simp(disch:=omega) only[ir110,h1m,go_sem]
 refine zf l 12 (fun _:Unit=>[]) (fun done rest _ H=>R rest=R l) () (by simp(disch:=omega) only[go_sem]) rfl ?_ ?_
 ·rintro _ H J hn hlt
  rw[h00] at hn
  simp(disch:=omega) only[h1m,hlt,go_sem]
  exact hQ _ _ _ _ nofun rfl (by simp[zd,ze,AV.strip,AV.strip1,← hn])
 ·rintro done x rest _ H J hd hlt _ hn hJ
  have hg:=Zr hd
  have hxm:x∈l:=by rw[hd];simp
  obtain⟨xn,⟨xk,xq,xs,xl,xml⟩⟩:=x
  have hp:=hpar xn
  have hme:=hmem xn _ hxm
  rw[hst] at hn
  rw[zr,yh] at hg
  simp(disch:=omega) only[h1m,hlt,hg,go_sem]
  refine zb fun b7 hb7=>?_
  simp(disch:=omega) only[go_sem]
  refine za hp ?_
  cases hpm:ya ps xn with
  | none =>
   rw[hpm] at hn
   simp(disch:=omega) only[Option.getD,Option.isSome,zW,zV,z7,go_sem]
   refine zb fun b8 hb8=>?_
   simp(disch:=omega) only[go_sem]
   exact goJ (hJ () _ (by simpa using hn)) (by simp(disch:=omega) only[wrap64,go_sem])
  | some p =>
   rw[hpm] at hn
   replace hme:=hme p hpm
   obtain⟨pn,⟨p1,p2,p3⟩,ph,⟨yk,yq,ys,yl,ym⟩⟩:=p
   simp only[cTy,yh] at hme hn
   generalize ZQ s ⟨p1,p2,p3⟩ (.mk xk xq xs xl xml)=x1 at *
   simp(disch:=omega) only[Option.getD,Option.isSome,z7,go_sem]
   refine zb fun b8 hb8=>?_
   have hne3:b7≠b8:=fun e=>by subst e;simp[zc.upd] at hb8
   simp(disch:=omega) only[hne3,Ne.symm hne3,go_sem]
   refine za hme ?_
   cases x1 with
   | false =>
    simp(disch:=omega) only[go_sem]
    exact hQ _ _ _ _ nofun rfl (by simp[zd,ze,AV.strip,AV.strip1,← hn])
   | true =>
    simp(disch:=omega) only[go_sem]
    exact goJ (hJ () _ (by simpa using hn)) (by simp(disch:=omega) only[wrap64,go_sem])
noncomputable def zlC (s:SchD) (l:List VarD):Bool:=l.all fun v=>!v.has||ZQ s v.t v.d
noncomputable def zdy (s:SchD) (d:DocD):Bool:=(d.ops.all fun o=>zlC s o.vars)&&ZJ s d (zd4 s (zht s))
theorem zoC (s:SchD) (d:DocD) (hs:zJ s≤Lim) (hb:zv d≤Lim):zi Tryz.prog 63 [.agg (zq s),.agg (zT d)] (.bool (zdy s d)):=by
 have hw:=zeo s d 110 [.view (zq s)] (zht s) hs hb ⟨by kernel_rfl,fun ps l hp hl=>zuE s ps l hs hp hl⟩
 have hb':=hb
 simp only[Lim,zv] at hb'
 have hol:=Zi d.ops
 have l1:=Zx d.ops
 have hlit:∀ o∈d.ops,∀ v∈o.vars,zi Tryz.prog 109 [.agg (zq s),.agg (cTy v.t),.agg (cV v.d)] (.bool (ZQ s v.t v.d)):=fun o ho v hv=>by
  obtain⟨a,b,hd⟩:=List.append_of_mem ho
  have:=Yv a o b
  rw[← hd] at this
  have h2:=Yt hv
  simp only[bO] at this
  simp only[bW] at h2
  exact zfh s v.t v.d hs (by simp only[Lim];omega) (by simp only[Lim];omega)
 have hvl:∀ o∈d.ops,o.vars.length≤1099511627776:=fun o ho=>by
  obtain⟨a,b,hd⟩:=List.append_of_mem ho
  have:=Yv a o b
  rw[← hd] at this
  have h2:=yP o.vars
  simp only[bO] at this
  omega
 have e0:zdy s d=((d.ops.all fun o=>zlC s o.vars)&&ZJ s d (zd4 s (zht s))):=rfl
 have hV:∀ v r,zlC s (v::r)=((!v.has||ZQ s v.t v.d)&&zlC s r):=fun v r=>by simp only[zlC,List.all_cons]
 have hV0:zlC s []=true:=rfl
 generalize zdy s d=F at *
 generalize ZJ s d (zd4 s (zht s))=x1 at *
 generalize zlC s=R at *
 obtain⟨ops,frags⟩:=d
 obtain⟨sd,sq,sm⟩:=s
 generalize hS:(⟨sd,sq,sm⟩:SchD)=s at *
 have hcs:zq s=[.sl .no 6 (cEs sd),.str sq,.str sm]:=by rw[← hS];rfl
 have hcd:zT ⟨ops,frags⟩=[.sl .no 5 (cOs ops),.sl .no 4 (cFs frags)]:=rfl
 simp only[hcs,hcd] at hw hlit l1 hvl e0 hol hb' ⊢
 refine zi.go ir63 ck63 (Al4 _) fun KP Q hQ=>?_
 simp(disch:=omega) only[ir63,l1,go_sem]
 refine zf ops 12 (fun _:Unit=>[]) (fun done rest _ H=>(rest.all fun o=>R o.vars)=ops.all fun o=>R o.vars) () (by simp(disch:=omega) only[go_sem]) rfl ?_ ?_
 ·rintro _ H J hn hlt
  rw[← hn] at e0
  simp(disch:=omega) only[l1,hlt,go_sem]
  refine za hw ?_
  simp(disch:=omega) only[go_sem]
  exact hQ _ _ _ _ nofun rfl (by simp[zd,ze,AV.strip,AV.strip1,e0])
 ·rintro done x rest _ H J hd hlt _ hn hJ
  have hg:=Yf hd
  have hxm:x∈ops:=by rw[hd];simp
  have hlx:=hlit x hxm
  have hvx:=hvl x hxm
  rw[List.all_cons] at hn
  obtain⟨k,nm,vs,ds,ss⟩:=x
  simp only at hlx hn hvx
  have l2:=Zq vs
  rw[zad] at hg
  simp(disch:=omega) only[l1,hlt,hg,go_sem]
  refine zb fun b6 hb6=>?_
  simp(disch:=omega) only[l2,go_sem]
  refine zf vs 19 (fun _:Unit=>[]) (fun done rest _ H=>R rest=R vs) () (by simp(disch:=omega) only[go_sem]) rfl ?_ ?_
  ·rintro _ H2 J2 hn2 hlt2
   rw[hV0] at hn2
   rw[← hn2,Bool.true_and] at hn
   simp(disch:=omega) only[l2,hlt2,go_sem]
   exact goJ (hJ () _ hn) (by simp(disch:=omega) only[wrap64,go_sem])
  ·rintro done2 x2 rest2 _ H2 J2 hd2 hlt2 _ hn2 hJ2
   have hg2:=Zp hd2
   have hx2:=hlx x2 (by rw[hd2];simp)
   rw[hV] at hn2
   obtain⟨vn,⟨v1,v2,v3⟩,vh,⟨yk,yq,ys,yl,ym⟩⟩:=x2
   simp only[cTy,yh] at hx2 hn2
   generalize ZQ s ⟨v1,v2,v3⟩ (.mk yk yq ys yl ym)=x3 at *
   rw[z7] at hg2
   simp(disch:=omega) only[l2,hlt2,hg2,go_sem]
   refine zb fun b8 hb8=>?_
   cases vh with
   | false =>
    simp(disch:=omega) only[go_sem]
    exact goJ (hJ2 () _ (by simpa using hn2)) (by simp(disch:=omega) only[wrap64,go_sem])
   | true =>
    simp(disch:=omega) only[go_sem]
    refine za hx2 ?_
    cases x3 with
    | true =>
     simp(disch:=omega) only[go_sem]
     exact goJ (hJ2 () _ (by simpa using hn2)) (by simp(disch:=omega) only[wrap64,go_sem])
    | false =>
     have hf:R vs=false:=by rw[← hn2];rfl
     rw[hf,Bool.false_and] at hn
     rw[← hn] at e0
     simp(disch:=omega) only[go_sem]
     exact hQ _ _ _ _ nofun rfl (by simp[zd,ze,AV.strip,AV.strip1,e0])
def znf (vs:List VarD) (x:SpotD):Bool:=match ya vs x.nm with|none=>false|some v=>zfi v x.t x.has
noncomputable def zoU (s:SchD) (d:DocD) (o:OpD):Bool:=(zfw s d o).all (znf o.vars)
noncomputable def znt (s:SchD) (d:DocD):Bool:=d.ops.all (zoU s d)
theorem zvI (s:SchD) (d:DocD) (hs:zJ s≤Lim) (hb:Zg d≤Lim) (hb2:zv d*zv d+zv d≤1099511627776):zi Tryz.prog 64 [.agg (zq s),.agg (zT d)] (.bool (znt s d)):=by
 have hb3:=hb
 simp only[Zg,Lim] at hb3
 have hbd:zv d≤Lim:=by simp only[Lim];omega
 have hb0:bOs d.ops≤zv d:=by simp only[zv];omega
 have hol:=Zi d.ops
 have l1:=Zx d.ops
 have hop:∀ o∈d.ops,bO o≤zv d:=fun o ho=>by
  obtain⟨a,b,hd⟩:=List.append_of_mem ho
  have:=Yv a o b
  rw[← hd] at this
  omega
 have hsp:=fun(o:OpD) (ho:o∈d.ops) (H:zc)=>zuD s d o H hs hb hb2 (by have:=hop o ho;simp only[bO] at this;omega)
 have hok:=fun(o:OpD) (ho:o∈d.ops)=>zqD s d o hs hbd (by have:=hop o ho;simp only[bO] at this;omega)
 have hdef:=fun(o:OpD) (ho:o∈d.ops) n=>zmk o n (by have:=hop o ho;have:=yP o.vars;simp only[bO] at *;omega)
 have hall:∀ o∈d.ops,∀ x∈zfw s d o,∀ v,ya o.vars x.nm=some v→zi Tryz.prog 112 [.agg (cW v),.agg (cTy x.t),.bool x.has] (.bool (zfi v x.t x.has)):=fun o ho x hx v hv=>by
  have hvm:v∈o.vars:=List.mem_of_find?_eq_some hv
  have h2:=Yt hvm
  have h3:=hop o ho
  simp only[bO] at h3
  simp only[bW] at h2
  exact zs1 v x.t x.has (by omega) ((hok o ho).2 x hx)
 have e0:znt s d=d.ops.all (zoU s d):=rfl
 have eO:∀ o,zoU s d o=(zfw s d o).all (znf o.vars):=fun _=>rfl
 generalize znt s d=F at *
 generalize zoU s d=A at *
 generalize zfw s d=U at *
 generalize hB:zv d=B at *
 have hcd:zT d=[.sl .no 5 (cOs d.ops),.sl .no 4 (cFs d.frags)]:=rfl
 obtain⟨sd,sq,sm⟩:=s
 generalize hS:(⟨sd,sq,sm⟩:SchD)=s at *
 have hcs:zq s=[.sl .no 6 (cEs sd),.str sq,.str sm]:=by rw[← hS];rfl
 simp only[hcs,hcd] at hsp ⊢
 refine zi.go ir64 ck64 (Al4 _) fun KP Q hQ=>?_
 simp(disch:=omega) only[ir64,l1,go_sem]
 refine zf d.ops 15 (fun _:Unit=>[(5,.bool true)]) (fun done rest _ H=>rest.all A=d.ops.all A) () (by simp(disch:=omega) only[go_sem]) rfl ?_ ?_
 ·rintro _ H J hn hlt
  rw[← hn] at e0
  simp(disch:=omega) only[l1,hlt,go_sem]
  exact hQ _ _ _ _ nofun rfl (by simp[zd,ze,AV.strip,AV.strip1,e0])
 ·rintro done x rest _ H J hd hlt _ hn hJ
  have hg:=Yf hd
  have hxm:x∈d.ops:=by rw[hd];simp
  have hsx:=hsp x hxm
  have hokx:=(hok x hxm).1
  have hdx:=hdef x hxm
  have hax:=hall x hxm
  have eOx:=eO x
  rw[List.all_cons] at hn
  generalize U x=L at *
  have l2:=yd L
  obtain⟨k,nm,vs,ds,ss⟩:=x
  simp only at hax eOx hdx
  generalize A ⟨k,nm,vs,ds,ss⟩=a at *
  rw[zad] at hg hdx hsx
  simp(disch:=omega) only[l1,hlt,hg,go_sem]
  refine zb fun b7 hb7=>?_
  simp(disch:=omega) only[go_sem]
  refine zB (hsx _) fun o2 H2 hs2=>?_
  have c7:H2 b7=some (.cells [.int .i64 k,.str nm,.sl .no 10 (cWs vs),.sl .no 2 (cDs ds),.sl .no 7 (cSs ss)]):=hs2.kept b7 _ (upd_same ..) (fun d e=>by cases e)
  simp(disch:=omega) only[l2,go_sem]
  refine zf L 24 (fun _:Unit=>[(5,.bool true)]) (fun done rest _ H=>rest.all (znf vs)=L.all (znf vs)∧H b7=some (.cells [.int .i64 k,.str nm,.sl .no 10 (cWs vs),.sl .no 2 (cDs ds),.sl .no 7 (cSs ss)])) () (by simp(disch:=omega) only[go_sem]) ⟨rfl,c7⟩ ?_ ?_
  ·rintro _ H3 J2 ⟨hn2,c7⟩ hlt2
   have ha:a=true:=by rw[eOx,← hn2];rfl
   rw[ha,Bool.true_and] at hn
   simp(disch:=omega) only[l2,hlt2,go_sem]
   exact goJ (hJ () _ hn) (by simp(disch:=omega) only[wrap64,go_sem])
  ·rintro done2 x2 rest2 _ H3 J2 hd2 hlt2 _ ⟨hn2,c7⟩ hJ2
   have hg2:=zqK hd2
   have hax2:=hax x2 (by rw[hd2];simp)
   rw[List.all_cons] at hn2
   have e2:znf vs x2=match ya vs x2.nm with|none=>false|some v=>zfi v x2.t x2.has:=rfl
   generalize znf vs x2=y at *
   obtain⟨pn,⟨p1,p2,p3⟩,ph⟩:=x2
   simp only[cP] at hg2
   simp only[cTy] at hax2 e2
   have hdn:=hdx pn
   simp(disch:=omega) only[l2,hlt2,hg2,go_sem]
   refine zb fun b9 hb9=>?_
   have hne:b7≠b9:=fun e=>by subst e;rw[c7] at hb9;cases hb9
   simp(disch:=omega) only[c7,hne,Ne.symm hne,go_sem]
   refine za hdn ?_
   cases hpm:ya vs pn with
   | none =>
    rw[hpm] at e2
    simp only at e2
    rw[e2,Bool.false_and] at hn2
    rw[← hn2] at eOx
    rw[eOx,Bool.false_and] at hn
    rw[← hn] at e0
    simp(disch:=omega) only[Option.getD,Option.isSome,zW,zV,z7,go_sem]
    refine zb fun b10 hb10=>?_
    simp(disch:=omega) only[go_sem]
    exact hQ _ _ _ _ nofun rfl (by simp[zd,ze,AV.strip,AV.strip1,e0])
   | some v =>
    rw[hpm] at e2
    replace hax2:=hax2 v hpm
    simp only at e2
    rw[← e2] at hax2
    obtain⟨vn,⟨v1,v2,v3⟩,vh,⟨yk,yq,ys,yl,ym⟩⟩:=v
    rw[z7] at hax2
    simp(disch:=omega) only[Option.getD,Option.isSome,z7,go_sem]
    refine zb fun b10 hb10=>?_
    have hne2:b7≠b10:=fun e=>by subst e;simp[zc.upd,hne,c7] at hb10
    have hne3:b9≠b10:=fun e=>by subst e;simp[zc.upd] at hb10
    simp(disch:=omega) only[c7,hne,Ne.symm hne,hne2,Ne.symm hne2,hne3,Ne.symm hne3,go_sem]
    refine za hax2 ?_
    cases y with
    | true =>
     simp(disch:=omega) only[go_sem]
     exact goJ (hJ2 () _ ⟨by simpa using hn2,by simp(disch:=omega) only[c7,hne,Ne.symm hne,hne2,Ne.symm hne2,go_sem]⟩) (by simp(disch:=omega) only[wrap64,go_sem])
    | false =>
     rw[Bool.false_and] at hn2
     rw[← hn2] at eOx
     rw[eOx,Bool.false_and] at hn
     rw[← hn] at e0
     simp(disch:=omega) only[go_sem]
     exact hQ _ _ _ _ nofun rfl (by simp[zd,ze,AV.strip,AV.strip1,e0])
noncomputable def zbB (s:SchD) (d:DocD) (n:Int):Bool:=if n=22 then zdy s d else if n=23 then znt s d else false
theorem zqQ (s:SchD) (d:DocD) (n:Int) (hs:zJ s≤Lim) (hb:Zg d≤Lim) (hb2:zv d*zv d+zv d≤1099511627776):zi Tryz.prog 22 [.agg (zq s),.agg (zT d),.int .i64 n] (.bool (zbB s d n)):=by
 have hb3:=hb
 simp only[Zg,Lim] at hb3
 have r1:=zoC s d hs (by simp only[Lim];omega)
 have r2:=zvI s d hs hb hb2
 unfold zbB
 generalize zdy s d=x1 at *
 generalize znt s d=x2 at *
 have hcd:zT d=[.sl .no 5 (cOs d.ops),.sl .no 4 (cFs d.frags)]:=rfl
 obtain⟨sd,sq,sm⟩:=s
 simp only[zq,hcd] at r1 r2 ⊢
 refine zi.go ir22 ck22 (Al4 _) fun KP Q hQ=>?_
 by_cases h1:n=22
 ·subst h1
  simp(disch:=omega) only[ir22,go_sem]
  refine za r1 ?_
  simp(disch:=omega) only[go_sem]
  exact hQ _ _ _ _ nofun rfl (by simp[zd,ze,AV.strip,AV.strip1])
 by_cases h2:n=23
 ·subst h2
  simp(disch:=omega) only[ir22,go_sem]
  refine za r2 ?_
  simp(disch:=omega) only[go_sem]
  exact hQ _ _ _ _ nofun rfl (by simp[zd,ze,AV.strip,AV.strip1])
 simp(disch:=omega) only[ir22,h1,h2,go_sem]
 exact hQ _ _ _ _ nofun rfl (by simp[zd,ze,AV.strip,AV.strip1,h1,h2])
noncomputable def ZM (s:SchD) (d:DocD) (n:Int):Bool :=
 if n<9 then YP s d n else if n<12 then zau s d n else if n<15 then zaG s d n else if n<18 then zax s d n
 else if n<22 then zcZ s d n else if n<24 then zbB s d n else zaZ s d n
structure ValH (s:SchD) (d:DocD):Prop where
 sw:zcA s
 dw:zdF d
 sb:zJ s≤1048576
 db:zv d≤1048575
 lt:Zv s d=true
theorem ztg (s:SchD) (d:DocD) (n:Int) (h:ValH s d):zi Tryz.prog 8 [.agg (zq s),.agg (zT d),.int .i64 n] (.bool (ZM s d n)):=by
 have hsb:=h.sb
 have hdb:=h.db
 have hs1:zJ s≤Lim:=by simp only[Lim];omega
 have hs2:zJ s+1≤Lim:=by simp only[Lim];omega
 have hd1:zv d≤Lim:=by simp only[Lim];omega
 have hr:Zg d≤Lim:=by simp only[Zg,Lim];omega
 have hb2:zv d*zv d+zv d≤1099511627776:=by
  have:zv d*zv d≤1048575*1048575:=Nat.mul_le_mul hdb hdb
  omega
 have r1:=ztQ s d n hs1 hr hb2
 have r2:=zoZ s d n hs2 hd1
 have r3:=zpx s d n hs1 hd1
 have r4:=zoQ s d n hs1 hd1
 have r5:=ztx s d n hs1 hr hb2
 have r6:=zqQ s d n hs1 hr hb2
 have r7:=mgC s d n hs1 hr (by omega) h.lt
 have e0:ZM s d n=if n<9 then YP s d n else if n<12 then zau s d n else if n<15 then zaG s d n else if n<18 then zax s d n
  else if n<22 then zcZ s d n else if n<24 then zbB s d n else zaZ s d n:=rfl
 generalize ZM s d n=F at *
 generalize YP s d n=x1 at *
 generalize zau s d n=x2 at *
 generalize zaG s d n=x3 at *
 generalize zax s d n=x4 at *
 generalize zcZ s d n=x5 at *
 generalize zbB s d n=x6 at *
 generalize zaZ s d n=x7 at *
 have hcd:zT d=[.sl .no 5 (cOs d.ops),.sl .no 4 (cFs d.frags)]:=rfl
 have hcs:zq s=[.sl .no 6 (cEs s.defs),.str s.q,.str s.m]:=rfl
 simp only[hcs,hcd] at r1 r2 r3 r4 r5 r6 r7 ⊢
 refine zi.go ir8 ck8 (Al4 _) fun KP Q hQ=>?_
 by_cases h1:n<9
 ·rw[if_pos h1] at e0
  have h1':=eq_true h1
  simp(disch:=omega) only[ir8,h1',go_sem]
  refine za r1 ?_
  simp(disch:=omega) only[go_sem]
  exact hQ _ _ _ _ nofun rfl (by simp[zd,ze,AV.strip,AV.strip1,e0])
 rw[if_neg h1] at e0
 by_cases h2:n<12
 ·rw[if_pos h2] at e0
  have h2':=eq_true h2
  simp(disch:=omega) only[ir8,h1,h2',go_sem]
  refine za r2 ?_
  simp(disch:=omega) only[go_sem]
  exact hQ _ _ _ _ nofun rfl (by simp[zd,ze,AV.strip,AV.strip1,e0])
 rw[if_neg h2] at e0
 by_cases h3:n<15
 ·rw[if_pos h3] at e0
  have h3':=eq_true h3
  simp(disch:=omega) only[ir8,h1,h2,h3',go_sem]
  refine za r3 ?_
  simp(disch:=omega) only[go_sem]
  exact hQ _ _ _ _ nofun rfl (by simp[zd,ze,AV.strip,AV.strip1,e0])
 rw[if_neg h3] at e0
 by_cases h4:n<18
 ·rw[if_pos h4] at e0
  have h4':=eq_true h4
  simp(disch:=omega) only[ir8,h1,h2,h3,h4',go_sem]
  refine za r4 ?_
  simp(disch:=omega) only[go_sem]
  exact hQ _ _ _ _ nofun rfl (by simp[zd,ze,AV.strip,AV.strip1,e0])
 rw[if_neg h4] at e0
 by_cases h5:n<22
 ·rw[if_pos h5] at e0
  have h5':=eq_true h5
  simp(disch:=omega) only[ir8,h1,h2,h3,h4,h5',go_sem]
  refine za r5 ?_
  simp(disch:=omega) only[go_sem]
  exact hQ _ _ _ _ nofun rfl (by simp[zd,ze,AV.strip,AV.strip1,e0])
 rw[if_neg h5] at e0
 by_cases h6:n<24
 ·rw[if_pos h6] at e0
  have h6':=eq_true h6
  simp(disch:=omega) only[ir8,h1,h2,h3,h4,h5,h6',go_sem]
  refine za r6 ?_
  simp(disch:=omega) only[go_sem]
  exact hQ _ _ _ _ nofun rfl (by simp[zd,ze,AV.strip,AV.strip1,e0])
 rw[if_neg h6] at e0
 simp(disch:=omega) only[ir8,h1,h2,h3,h4,h5,h6,go_sem]
 refine za r7 ?_
 simp(disch:=omega) only[go_sem]
 exact hQ _ _ _ _ nofun rfl (by simp[zd,ze,AV.strip,AV.strip1,e0])
noncomputable def zf0 (s:SchD) (d:DocD):Nat→Int→Int
 | 0,_=>0
 | k+1,n=>if ZM s d n=true then zf0 s d k (n+1) else n
noncomputable def Zy (s:SchD) (d:DocD):Int:=if zer s 9 1≠0∨Z6 d=false then 25 else zf0 s d 24 1
theorem zgv (s:SchD) (d:DocD) (h:ValH s d):zi Tryz.prog 9 [.agg (zq s),.agg (zT d)] (.int .i64 (Zy s d)):=by
 have hsb:=h.sb
 have hdb:=h.db
 have hR:=fun n=>ztg s d n h
 have hs:=zrv s h.sw (by simp only[Lim];omega)
 have hd:=zry d h.dw (by simp only[Lim];omega)
 have e0:Zy s d=if zer s 9 1≠0∨Z6 d=false then 25 else zf0 s d 24 1:=rfl
 have eC:∀ k n,zf0 s d (k+1) n=if ZM s d n=true then zf0 s d k (n+1) else n:=fun _ _=>rfl
 have eC0:∀ n,zf0 s d 0 n=0:=fun _=>rfl
 generalize Zy s d=F at *
 generalize zf0 s d=C at *
 generalize ZM s d=V at *
 generalize zer s 9 1=x1 at *
 generalize Z6 d=x2 at *
 have hcd:zT d=[.sl .no 5 (cOs d.ops),.sl .no 4 (cFs d.frags)]:=rfl
 have hcs:zq s=[.sl .no 6 (cEs s.defs),.str s.q,.str s.m]:=rfl
 simp only[hcs,hcd] at hR hs hd ⊢
 refine zi.go ir9 ck9 (Al4 _) fun KP Q hQ=>?_
 simp(disch:=omega) only[ir9,go_sem]
 refine za hs ?_
 by_cases hx:x1=0
 case neg =>
  rw[if_pos (.inl hx)] at e0
  simp(disch:=omega) only[hx,go_sem]
  exact hQ _ _ _ _ nofun rfl (by simp[zd,ze,AV.strip,AV.strip1,e0])
 have hx':=eq_true hx
 simp(disch:=omega) only[hx',go_sem]
 refine za hd ?_
 cases x2 with
 | false =>
  rw[if_pos (.inr rfl)] at e0
  simp(disch:=omega) only[go_sem]
  exact hQ _ _ _ _ nofun rfl (by simp[zd,ze,AV.strip,AV.strip1,e0])
 | true =>
 rw[if_neg (by simp[hx])] at e0
 simp(disch:=omega) only[go_sem]
 refine zbL (fun x:Nat×Int=>[(5,.int .i64 0),(6,.int .i64 x.2)]) (fun x _=>(x.1:Int)+x.2=25∧x.1≤24∧C x.1 x.2=F) (fun x=>x.1) (24,1) (by simp(disch:=omega) only[go_sem]) ⟨by omega,by omega,e0.symm⟩ ?_
 rintro⟨k,n⟩ H J ⟨hk,hn9,hn⟩ hJ
 simp only at hk hn9 hn
 cases k with
 | zero =>
  rw[eC0] at hn
  subst hn
  have hle:¬ (n≤24):=by omega
  simp(disch:=omega) only[hle,go_sem]
  exact hQ _ _ _ _ nofun rfl (by simp[zd,ze,AV.strip,AV.strip1])
 | succ k =>
  rw[eC] at hn
  have hr:=hR n
  have hle:(n≤24)=True:=eq_true (by omega)
  generalize hx:V n=x at *
  simp(disch:=omega) only[hle,go_sem]
  refine za hr ?_
  cases x with
  | true =>
   rw[if_pos rfl] at hn
   simp(disch:=omega) only[wrap64,go_sem]
   exact goJ (hJ (k,n+1) _ (by simp only;omega) ⟨by simp only;omega,by simp only;omega,hn⟩) (by simp(disch:=omega) only[wrap64,go_sem])
  | false =>
   rw[if_neg (by simp)] at hn
   subst hn
   simp(disch:=omega) only[go_sem]
   exact hQ _ _ _ _ nofun rfl (by simp[zd,ze,AV.strip,AV.strip1])
mutual
def zgD (n:List UInt8):SelD→Prop
 | .mk k _ nm _ _ _ sels=>(k=1∧nm=n)∨zaH n sels
def zaH (n:List UInt8):List SelD→Prop
 | []=>False
 | x::r=>zgD n x∨zaH n r
end
theorem zgG {x:List UInt8} {l:List (List UInt8)}:z8 x l=false↔x ∉ l:=by
 rw[← Z1];cases z8 x l<;>simp
mutual
theorem zp8 (x:List UInt8):∀(y:SelD) (l:List (List UInt8)),x∈zeZ y l↔x∈l∨zgD x y
 | .mk k al nm args dirs on sels,l=>by
  simp only[zeZ,zgD]
  rw[zbQ x sels]
  by_cases hk:k=1
  ·cases hh:z8 nm l with
   | true =>
    have hm:=(Z1 nm l).1 hh
    simp only[hk,true_and,Bool.true_eq_false,if_false]
    constructor
    ·rintro(h|h)
     ·exact .inl h
     ·exact .inr (.inr h)
    ·rintro(h|rfl|h)
     ·exact .inl h
     ·exact .inl hm
     ·exact .inr h
   | false =>
    simp only[hk,true_and,if_true,List.mem_append,List.mem_singleton]
    constructor
    ·rintro((h|h)|h)
     ·exact .inl h
     ·exact .inr (.inl h.symm)
     ·exact .inr (.inr h)
    ·rintro(h|h|h)
     ·exact .inl (.inl h)
     ·exact .inl (.inr h.symm)
     ·exact .inr h
  ·simp[hk]
theorem zbQ (x:List UInt8):∀(r:List SelD) (l:List (List UInt8)),x∈yX r l↔x∈l∨zaH x r
 | [],l=>by simp[yX,zaH]
 | y::r,l=>by
  simp only[yX,zaH]
  rw[zbQ x r,zp8 x y,or_assoc]
end
theorem zir {n:List UInt8} {x:SelD}:∀ {l:List SelD},x∈l→zgD n x→zaH n l
 | y::l,h,hn=>by
  simp only[zaH]
  rcases List.mem_cons.1 h with rfl|h
  ·exact .inl hn
  ·exact .inr (zir h hn)
structure PartD (a d:DocD):Prop where
 ops:∀ o∈a.ops,o∈d.ops
 frs:∀ f∈a.frags,f∈d.frags
 nd:(d.frags.map (·.nm)).Nodup
 nda:(a.frags.map (·.nm)).Nodup
 cl:∀ l∈yO a,∀ n,zaH n l→zC a n=zC d n
theorem zp5 {d:DocD} (h:(d.frags.map (·.nm)).Nodup) {f:FragD} (hf:f∈d.frags):zC d f.nm=some f:=by
 have:∀ l:List FragD,(l.map (·.nm)).Nodup→f∈l→l.find? (Yz f.nm)=some f:=by
  intro l
  induction l with
  | nil=>intro _ h;cases h
  | cons g l ih =>
   intro hn hm
   simp only[List.map_cons,List.nodup_cons] at hn
   rw[List.find?_cons]
   rcases List.mem_cons.1 hm with rfl|hm
   ·simp[Yz]
   ·have:¬ g.nm=f.nm:=fun e=>hn.1 (List.mem_map.2 ⟨f,hm,e.symm⟩)
    simp[Yz,this]
    simpa[Yz] using ih hn.2 hm
 exact this d.frags h hf
def ClL (a d:DocD) (l:List SelD):Prop:=∀ n,zaH n l→zC a n=zC d n
section
variable {a d:DocD} (P:PartD a d)
include P
theorem zh1 {o:OpD} (h:o∈a.ops):ClL a d o.sels:=P.cl _ (by simp only[yO,List.mem_append,List.mem_map];exact .inl ⟨o,h,rfl⟩)
theorem zhc {f:FragD} (h:f∈a.frags):ClL a d f.sels:=P.cl _ (by simp only[yO,List.mem_append,List.mem_map];exact .inr ⟨f,h,rfl⟩)
theorem zpb (n:List UInt8):ClL a d (frS a n):=by
 unfold frS
 cases hf:zC a n with
 | none=>intro m hm;simp[zFr,zaH] at hm
 | some f=>exact zhc P (List.mem_of_find?_eq_some hf)
omit P in
theorem zpJ {l:List SelD} (h:ClL a d l) {x:SelD} (hx:x∈l):ClL a d x.sels:=fun n hn=>h n (zir hx (by obtain⟨k,al,nm,args,dirs,on,sels⟩:=x;exact .inr hn))
theorem ziX {n:List UInt8} (h:zC a n=zC d n):frS a n=frS d n∧zjm a n=zjm d n:=by simp only[frS,zjm,h,and_self]
theorem zcO:∀(k:Nat) (l:List (List UInt8)) (i:Nat),(∀ n∈l,zC a n=zC d n)→ZR a k l i=ZR d k l i∧∀ n∈ZR a k l i,zC a n=zC d n
 | 0,l,i,h=>⟨rfl,h⟩
 | k+1,l,i,h=>by
  simp only[ZR]
  cases hl:l[i]? with
  | none=>exact⟨rfl,h⟩
  | some x =>
   have hx:=h x (List.mem_of_getElem? hl)
   simp only
   rw[← hx]
   cases hf:zC a x with
   | none=>exact zcO k l (i+1) h
   | some f =>
    have hm:f∈a.frags:=List.mem_of_find?_eq_some hf
    refine zcO k (yX f.sels l) (i+1) fun n hn=>?_
    rcases(zbQ n f.sels l).1 hn with h1|h1
    ·exact h n h1
    ·exact zhc P hm n h1
omit P in
theorem zfN {U:List (List UInt8)} (hU:∀ f∈a.frags,∀ y∈zaT f.sels,y∈U):∀(k:Nat) (l:List (List UInt8)) (i:Nat),OkN U l→U.length+1≤k+i→ZR a (k+1) l i=ZR a k l i
 | 0,l,i,h,hk=>by
  have:=zjg h
  have hn:l[i]?=none:=List.getElem?_eq_none (by omega)
  simp only[ZR,hn]
 | k+1,l,i,h,hk=>by
  rw[ZR]
  conv=>rhs;rw[ZR]
  cases hl:l[i]? with
  | none=>rfl
  | some x =>
   simp only
   refine zfN hU k _ (i+1) ?_ (by omega)
   cases hf:zC a x with
   | none=>exact h
   | some f=>exact zav f.sels l (hU f (List.mem_of_find?_eq_some hf)) h
omit P in
theorem zef {U:List (List UInt8)} (hU:∀ f∈a.frags,∀ y∈zaT f.sels,y∈U) {l:List (List UInt8)} (h:OkN U l) {k:Nat} (hk:U.length+1≤k):∀ j,ZR a (k+j) l 0=ZR a k l 0
 | 0=>rfl
 | j+1=>by rw[← Nat.add_assoc,zfN hU (k+j) l 0 h (by omega),zef hU h hk j]
theorem YS (hb:bFs a.frags≤bFs d.frags) {sels:List SelD} (h:ClL a d sels):yi a sels=yi d sels∧∀ n∈yi a sels,zC a n=zC d n:=by
 have h0:∀ n∈yX sels [],zC a n=zC d n:=fun n hn=>by
  rcases(zbQ n sels []).1 hn with h1|h1
  ·cases h1
  ·exact h n h1
 have hU:∀ f∈a.frags,∀ y∈zaT f.sels,y∈zex a sels:=fun f hf y hy=>by
  simp only[zex,List.mem_append,List.mem_flatMap];exact .inr ⟨f,hf,hy⟩
 have ok0:OkN (zex a sels) (yX sels []):=zav sels [] (fun y hy=>by simp[zex,hy]) ⟨List.nodup_nil,by simp⟩
 have hfu:=zef hU ok0 (k:=bSs sels+bFs a.frags+1) (by have:=ziD a sels;omega) (bFs d.frags-bFs a.frags)
 have e:bSs sels+bFs a.frags+1+(bFs d.frags-bFs a.frags)=bSs sels+bFs d.frags+1:=by omega
 rw[e] at hfu
 obtain⟨h1,h2⟩:=zcO P (bSs sels+bFs d.frags+1) (yX sels []) 0 h0
 exact⟨by rw[yi,← hfu,h1];rfl,by rw[yi,← hfu];exact h2⟩
theorem zeA (s:SchD):∀(n:Nat) (typ:List UInt8) (l:List SelD) (seen:List (List UInt8)),ClL a d l→flq s a n typ l seen=flq s d n typ l seen∧∀ y∈(flq s a n typ l seen).1,ClL a d y.2.sels
 | 0,typ,l,seen,h=>⟨rfl,fun y hy=>by cases hy⟩
 | n+1,typ,l,seen,h=>by
  have key:∀(l:List SelD) (acc:List TSe×List (List UInt8)),ClL a d l→(∀ y∈acc.1,ClL a d y.2.sels)→l.foldl (YQ s a (flq s a n) typ) acc=l.foldl (YQ s d (flq s d n) typ) acc∧∀ y∈(l.foldl (YQ s a (flq s a n) typ) acc).1,ClL a d y.2.sels:=by
   intro l
   induction l with
   | nil=>intro acc _ h;exact⟨rfl,h⟩
   | cons x r ih =>
    intro acc hcl hacc
    have hsub:=zpJ hcl (ZH ..)
    have hst:YQ s a (flq s a n) typ acc x=YQ s d (flq s d n) typ acc x∧∀ y∈(YQ s a (flq s a n) typ acc x).1,ClL a d y.2.sels:=by
     obtain⟨k,al,nm,args,dirs,on,sels⟩:=x
     simp only[SelD.sels] at hsub
     obtain⟨h1,h2⟩:=zeA s n (zO s typ (.mk k al nm args dirs on sels)) sels acc.2 hsub
     simp only[YQ]
     split
     ·refine⟨rfl,fun y hy=>?_⟩
      rcases List.mem_append.1 hy with h3|h3
      ·exact hacc y h3
      ·simp only[List.mem_singleton] at h3
       subst h3;exact hsub
     ·split
      ·rw[← h1]
       refine⟨rfl,fun y hy=>?_⟩
       rcases List.mem_append.1 hy with h3|h3
       ·exact hacc y h3
       ·exact h2 y h3
      ·split
       ·rename_i hk
        have hc:=hcl nm (by simp only[zaH,zgD];exact .inl (.inl ⟨hk.1,trivial⟩))
        obtain⟨e1,e2⟩:=ziX P hc
        obtain⟨h3,h4⟩:=zeA s n (zjm a nm) (frS a nm) (acc.2++[nm]) (zpb P nm)
        rw[← e1,← e2,← h3]
        refine⟨rfl,fun y hy=>?_⟩
        rcases List.mem_append.1 hy with h5|h5
        ·exact hacc y h5
        ·exact h4 y h5
       ·exact⟨rfl,hacc⟩
    simp only[List.foldl_cons]
    rw[← hst.1]
    exact ih _ (fun m hm=>hcl m (by simp only[zaH];exact .inr hm)) hst.2
  exact key l ([],seen) h fun y hy=>by cases hy
theorem zaw (s:SchD) {x:TSe} (h:ClL a d x.2.sels):blq s a x=blq s d x∧∀ y∈blq s a x,ClL a d y.2.sels:=by
 obtain⟨h1,h2⟩:=zeA P s 64 (zO s x.1 x.2) x.2.sels [] h
 exact⟨by simp only[blq,h1],h2⟩
theorem zg8 (s:SchD):∀(n:Nat) (x y:TSe),ClL a d x.2.sels→ClL a d y.2.sels→shq s a n x y=shq s d n x y
 | 0,x,y,hx,hy=>by simp only[shq,zjP,(zaw P s hx).1,(zaw P s hy).1]
 | n+1,x,y,hx,hy=>by
  obtain⟨h1,h2⟩:=zaw P s hx
  obtain⟨h3,h4⟩:=zaw P s hy
  simp only[shq,zjP]
  rw[← h1,← h3,zcY fun u hu v hv=>zg8 s n u v (h2 u hu) (h4 v hv)]
theorem zjt (s:SchD):∀(n:Nat) (x y:TSe),ClL a d x.2.sels→ClL a d y.2.sels→tgq s a n x y=tgq s d n x y
 | 0,x,y,hx,hy=>by simp only[tgq,zjV,(zaw P s hx).1,(zaw P s hy).1,zg8 P s 64 x y hx hy]
 | n+1,x,y,hx,hy=>by
  obtain⟨h1,h2⟩:=zaw P s hx
  obtain⟨h3,h4⟩:=zaw P s hy
  simp only[tgq,zjV]
  rw[← h1,← h3,zcY fun u hu v hv=>zjt s n u v (h2 u hu) (h4 v hv),zg8 P s 64 x y hx hy]
omit P in
theorem zei {g h:TSe→TSe→Bool}:∀(r acc:List TSe),(∀ u∈acc++r,∀ v∈acc++r,g u v=h u v)→zcQ g acc r=zcQ h acc r
 | [],acc,_=>rfl
 | x::r,acc,e=>by
  simp only[zcQ]
  have ih:=zei r (acc++[x]) (fun u hu v hv=>e u (by simpa[zbP] using hu) v (by simpa[zbP] using hv))
  have h1:zlp g x acc=zlp h x acc:=by
   have e1:∀ y∈acc,g y x=h y x:=fun y hy=>e y (zaJ _ hy) x (by simp)
   clear ih e
   unfold zlp
   induction acc with
   | nil=>rfl
   | cons y acc ih=>rw[List.all_cons,List.all_cons,e1 y (ZH ..),ih fun z hz=>e1 z (Z0 _ hz)]
  rw[ih,h1]
theorem zh7 (s:SchD) {h h':List UInt8→List SelD→Bool} {typ:List UInt8} {l:List SelD} (hc:ClL a d l) (hh:∀ x∈l,∀ t,h t x.sels=h' t x.sels):zlA s a h typ l=zlA s d h' typ l:=by
 obtain⟨h1,h2⟩:=zeA P s 64 typ l [] hc
 have e2:(l.all fun x=>h (zO s typ x) x.sels)=l.all fun x=>h' (zO s typ x) x.sels:=by
  clear h1 h2 hc
  induction l with
  | nil=>rfl
  | cons x r ih=>rw[List.all_cons,List.all_cons,hh x (ZH ..),ih fun y hy=>hh y (Z0 _ hy)]
 simp only[zlA]
 rw[← h1,e2,zei _ _ fun u hu v hv=>zjt P s 64 u v (h2 u hu) (h2 v hv)]
theorem zg2 (s:SchD):∀(n:Nat) (typ:List UInt8) (l:List SelD),ClL a d l→lsq s a n typ l=lsq s d n typ l
 | 0,typ,l,h=>zh7 P s h fun _ _ _=>rfl
 | n+1,typ,l,h=>zh7 P s h fun x hx t=>zg2 s n t x.sels (zpJ h hx)
end
theorem zrl (d:DocD) (n:List UInt8) (hl:d.frags.length≤Lim):zi Tryz.prog 36 [.agg (zT d),.str n] (.tup [.agg (cF ((zC d n).getD zFr)),.bool (zC d n).isSome]):=by
 have l1:=ZL d.frags
 simp only[Lim] at hl
 have hF:∀ done rest,d.frags=done++rest→(∀ f∈done,f.nm≠n)→zC d n=rest.find? (Yz n):=fun done rest e h=>by
  rw[zC,e,List.find?_append,List.find?_eq_none.2 (fun f hf=>by simp[Yz,h f hf])]
  rfl
 have hcd:zT d=[.sl .no 5 (cOs d.ops),.sl .no 4 (cFs d.frags)]:=rfl
 rw[hcd]
 generalize zC d n=F at *
 refine zi.go ir36 ck36 (Al4 _) fun KP Q hQ=>?_
 simp(disch:=omega) only[ir36,go_sem]
 refine zb fun b4 hb4=>?_
 simp(disch:=omega) only[l1,go_sem]
 refine zf d.frags 6 (fun _:Unit=>[]) (fun done rest _ H'=>(∀ f∈done,f.nm≠n)∧H' b4=some (.cells [.str [],.str [],.sl .nil 2 [],.sl .nil 7 []])) () (by simp(disch:=omega) only[go_sem]) ⟨by simp,upd_same ..⟩ ?_ ?_
 ·rintro _ H1 J ⟨hn,c4⟩ hlt
  have e:=hF d.frags [] (by simp) hn
  simp only[List.find?_nil] at e
  simp(disch:=omega) only[l1,hlt,c4,go_sem]
  refine hQ _ _ _ [.agg [.str [],.str [],.sl .nil 2 [],.sl .nil 7 []],.bool false] nofun (by simp(disch:=omega) only[ir36,zL,Zt,go_sem]) (by rw[e];rfl)
 ·rintro done x rest _ H1 J hd hlt _ ⟨hn,c4⟩ hJ
  have hg:=Yw hd
  have e:=hF done (x::rest) hd hn
  obtain⟨fn,fo,fd,fs⟩:=x
  rw[Yh] at hg
  by_cases hx:fn=n
  ·have hx':=eq_true hx
   have e2:F=some ⟨fn,fo,fd,fs⟩:=by rw[e];simp[Yz,hx]
   simp(disch:=omega) only[l1,hlt,hg,hx',c4,go_sem]
   refine hQ _ _ _ [.agg [.str fn,.str fo,.sl .no 2 (cDs fd),.sl .no 7 (cSs fs)],.bool true] nofun (by simp(disch:=omega) only[ir36,zL,Zt,go_sem]) (by rw[e2];rfl)
  ·simp(disch:=omega) only[l1,hlt,hg,hx,c4,go_sem]
   exact goJ (hJ () _ ⟨fun f hf=>by
    rcases List.mem_append.1 hf with h|h
    ·exact hn f h
    ·simp only[List.mem_singleton] at h;subst h;exact hx,c4⟩) (by simp(disch:=omega) only[wrap64,go_sem])
mutual
theorem zqN {d:DocD} {g:Nat→List SelD→Nat} {Z:Nat} (hg:∀ m n,g m (frS d n)≤m+Z):∀(x:SelD) (r:Nat),zeq d g x r≤r+bS x+Z
 | .mk k al nm args dirs on sels,r=>by
  have h1:=zgC hg sels r 0
  simp only[zeq,bS]
  split
  ·rename_i hc
   have h2:=hg (r-(1+Zh d g sels r 0)) nm
   omega
  ·omega
theorem zgC {d:DocD} {g:Nat→List SelD→Nat} {Z:Nat} (hg:∀ m n,g m (frS d n)≤m+Z):∀(l:List SelD) (most n:Nat),Zh d g l most n≤n∨Zh d g l most n≤most+bSs l+Z
 | [],most,n=>.inl (by simp[Zh])
 | x::xs,most,n=>by
  simp only[Zh,bSs]
  split
  ·have h1:=zqN hg x (most-n)
   rcases zgC hg xs most (n+zeq d g x (most-n)) with h|h
   ·right;omega
   ·right;omega
  ·left;omega
end
theorem zk6 {d:DocD} {D:Nat} (hD:∀ n,bSs (frS d n)≤D):∀(k m:Nat) (l:List SelD),few d k m l≤m+bSs l+1+k*D
 | 0,m,l=>by simp only[few];omega
 | k+1,m,l=>by
  have h:=zgC (d:=d) (g:=few d k) (Z:=1+D+k*D) (fun m n=>by
   have h1:=zk6 hD k m (frS d n)
   have h2:=hD n
   omega) l m 0
  simp only[few,Nat.add_mul,Nat.one_mul]
  omega
theorem zsF (d:DocD) (n:List UInt8):bSs (frS d n)≤zv d:=by
 cases hf:zC d n with
 | none=>simp[frS,hf,zFr,bSs]
 | some f =>
  have hm:f∈d.frags:=List.mem_of_find?_eq_some hf
  have h1:=zap f
  have h2:=zbM hm
  simp only[frS,hf,Option.getD_some,zv]
  omega
theorem zvE (d:DocD) (hdb:zv d≤1048575):∀(k c:Nat) (l:List SelD) (most:Nat),bSs l≤c→c≤1048575→most<k→k≤41→zi Tryz.prog 15 [.agg (zT d),.sl .no 7 (cSs l),.int .i64 most] (.int .i64 (few d k most l)):=by
 have hfl:=yD d.frags
 have h0:bFs d.frags≤zv d:=by simp only[zv];omega
 have hfr:=fun n=>zrl d n (by simp only[Lim];omega)
 have hD:=zsF d
 have hcd:zT d=[.sl .no 5 (cOs d.ops),.sl .no 4 (cFs d.frags)]:=rfl
 intro k
 induction k with
 | zero=>intro c l most h1 h2 h3;omega
 | succ k ihk =>
 intro c
 induction c using Nat.strongRecOn with
 | _ c ihc =>
 intro l most hb hc hm hk
 have hg:∀ nm m,m<k→zi Tryz.prog 15 [.agg (zT d),.sl .no 7 (cSs (frS d nm)),.int .i64 m] (.int .i64 (few d k m (frS d nm))):=fun nm m hm=>ihk (zv d) (frS d nm) m (hD nm) hdb hm (by omega)
 have hs:∀ sels,bSs sels<c→∀ m,m<k+1→zi Tryz.prog 15 [.agg (zT d),.sl .no 7 (cSs sels),.int .i64 m] (.int .i64 (Zh d (few d k) sels m 0)):=fun sels h m hm=>ihc (bSs sels) h sels m (Al4 _) (by omega) hm hk
 have hup:=zk6 hD (k+1) most l
 have hge:=zgw d (few d k)
 have e0:few d (k+1) most l=Zh d (few d k) l most 0:=rfl
 have eC:∀ x xs n,Zh d (few d k) (x::xs) most n=if n≤most then Zh d (few d k) xs most (n+zeq d (few d k) x (most-n)) else n:=fun x xs n=>by simp only[Zh]
 have eN:∀ n,Zh d (few d k) [] most n=n:=fun n=>by simp only[Zh]
 have eX:∀ kk al nm args dirs on sels r,zeq d (few d k) (.mk kk al nm args dirs on sels) r=if kk=1∧1+Zh d (few d k) sels r 0≤r then 1+Zh d (few d k) sels r 0+few d k (r-(1+Zh d (few d k) sels r 0)) (frS d nm) else 1+Zh d (few d k) sels r 0:=fun kk al nm args dirs on sels r=>by simp only[zeq]
 have hmul:(k+1)*zv d≤41*1048575:=Nat.mul_le_mul hk hdb
 have l1:=Ya l
 have hll:=Yu l
 generalize hF:few d (k+1) most l=F at *
 generalize hgk:few d k=gk at *
 simp only[hcd] at hfr hs hg ⊢
 refine zi.go ir15 ck15 (Al4 _) fun KP Q hQ=>?_
 simp(disch:=omega) only[ir15,go_sem]
 refine zf l 8 (fun n:Nat=>[(7,.int .i64 n)]) (fun done rest n _=>Zh d gk rest most n=F) 0 (by simp(disch:=omega) only[go_sem]) e0.symm ?_ ?_
 ·rintro n H J hn hlt
  rw[eN] at hn
  subst hn
  simp(disch:=omega) only[l1,hlt,go_sem]
  exact hQ _ _ _ _ nofun rfl (by simp[zd,ze,AV.strip,AV.strip1])
 ·rintro done x rest n H J hd hlt _ hn hJ
  have hg2:=YZ hd
  have hbm:=zaX done x rest
  rw[← hd] at hbm
  rw[eC] at hn
  obtain⟨kk,al,nm,args,dirs,on,sels⟩:=x
  rw[eX] at hn
  simp only[bS] at hbm
  rw[y8] at hg2
  by_cases hnm:n≤most
  case neg =>
   rw[if_neg hnm] at hn
   subst hn
   have hnm':¬ ((n:Int)≤most):=by omega
   simp(disch:=omega) only[l1,hlt,hnm',go_sem]
   exact hQ _ _ _ _ nofun rfl (by simp[zd,ze,AV.strip,AV.strip1])
  rw[if_pos hnm] at hn
  have hnm':((n:Int)≤most)=True:=eq_true (by omega)
  have hin:=hs sels (by omega) (most-n) (by omega)
  have ecast:((most-n:Nat):Int)=most-n:=by omega
  rw[ecast] at hin
  generalize hA:Zh d gk sels (most-n) 0=A at *
  by_cases hc1:kk=1∧1+A≤most-n
  ·rw[if_pos hc1] at hn
   have hge2:=hge rest most (n+(1+A+gk (most-n-(1+A)) (frS d nm)))
   rw[hn] at hge2
   have hk1:=eq_true hc1.1
   have hle2:((n:Int)+1+A≤most)=True:=eq_true (by omega)
   have hfx:=hfr nm
   have hfn:=hg nm (most-n-(1+A)) (by omega)
   have ecast2:((most-n-(1+A):Nat):Int)=most-(n+1+A):=by omega
   rw[ecast2] at hfn
   generalize hG:gk (most-n-(1+A)) (frS d nm)=G at *
   have efs:frS d nm=((zC d nm).getD zFr).sels:=rfl
   rw[efs] at hfn
   generalize (zC d nm).isSome=fs at *
   generalize (zC d nm).getD zFr=f at *
   obtain⟨fn,fo,fd,fss⟩:=f
   rw[Yh] at hfx
   simp only at hfn
   simp(disch:=omega) only[l1,hlt,hnm',hg2,wrap64,go_sem]
   refine za hin ?_
   simp(disch:=omega) only[l1,hlt,hnm',hg2,wrap64,hk1,hle2,go_sem]
   refine za hfx ?_
   simp(disch:=omega) only[go_sem]
   refine zb fun b9 hb9=>?_
   simp(disch:=omega) only[wrap64,go_sem]
   refine za hfn ?_
   simp(disch:=omega) only[wrap64,go_sem]
   have ec:((n+(1+A+G):Nat):Int)=n+1+A+G:=by omega
   exact goJ (hJ (n+(1+A+G)) _ hn) (by simp(disch:=omega) only[wrap64,ec,go_sem])
  ·rw[if_neg hc1] at hn
   have hge2:=hge rest most (n+(1+A))
   rw[hn] at hge2
   by_cases hk1:kk=1
   ·have hk1':=eq_true hk1
    have hle2:¬ ((n:Int)+1+A≤most):=fun h=>hc1 ⟨hk1,by omega⟩
    simp(disch:=omega) only[l1,hlt,hnm',hg2,wrap64,go_sem]
    refine za hin ?_
    simp(disch:=omega) only[l1,hlt,hnm',hg2,wrap64,hk1',hle2,go_sem]
    have ec:((n+(1+A):Nat):Int)=n+1+A:=by omega
    exact goJ (hJ (n+(1+A)) _ hn) (by simp(disch:=omega) only[wrap64,ec,go_sem])
   ·simp(disch:=omega) only[l1,hlt,hnm',hg2,wrap64,go_sem]
    refine za hin ?_
    simp(disch:=omega) only[l1,hlt,hnm',hg2,wrap64,hk1,go_sem]
    have ec:((n+(1+A):Nat):Int)=n+1+A:=by omega
    exact goJ (hJ (n+(1+A)) _ hn) (by simp(disch:=omega) only[wrap64,ec,go_sem])
theorem zfx (d:DocD) {Z:Nat}:∀(l:List (List SelD)) (n:Nat),(∀ x∈l,few d 41 40 x≤Z)→yT d l n≤n∨yT d l n≤40+Z
 | [],n,_=>.inl (Al4 _)
 | x::r,n,h=>by
  simp only[yT]
  split
  ·have h1:=h x (ZH ..)
   rcases zfx d r (n+few d 41 40 x) (fun y hy=>h y (Z0 _ hy)) with h2|h2
   ·right;omega
   ·exact .inr h2
  ·exact .inl (Al4 _)
theorem zqp (s:SchD) (d:DocD) (hsb:zJ s≤1048576) (hdb:zv d≤1048575):zi Tryz.prog 6 [.agg (zq s),.agg (zT d)] (.bool (Zv s d)):=by
 have r1:=zrM s (by simp only[Lim];omega)
 have r2:=ztR d (by simp only[Lim];omega)
 have hbl:=@zhN d
 have hmo:∀ o∈d.ops,o.sels∈yO d:=fun o ho=>by simp only[yO,List.mem_append,List.mem_map];exact .inl ⟨o,ho,rfl⟩
 have hmf:∀ f∈d.frags,f.sels∈yO d:=fun f hf=>by simp only[yO,List.mem_append,List.mem_map];exact .inr ⟨f,hf,rfl⟩
 have hfew:=fun x (h:x∈yO d)=>zvE d hdb 41 (zv d) x 40 (hbl h) hdb (by omega) (Al4 _)
 have hup:=fun x (h:x∈yO d)=>(by
  have:=zk6 (zsF d) 41 40 x
  have:=hbl h
  omega:few d 41 40 x≤50000000)
 have hol:=Zi d.ops
 have hfl:=yD d.frags
 have h0:bOs d.ops+bFs d.frags=zv d:=rfl
 have l1:=Zx d.ops
 have l2:=ZL d.frags
 have u1:=zfx d (d.ops.map (·.sels)) 0 (Z:=50000000) (fun x hx=>hup x (by obtain⟨o,ho,rfl⟩:=List.mem_map.1 hx;exact hmo o ho))
 have u2:=zfx d (d.frags.map (·.sels)) (yT d (d.ops.map (·.sels)) 0) (Z:=50000000) (fun x hx=>hup x (by obtain⟨o,ho,rfl⟩:=List.mem_map.1 hx;exact hmf o ho))
 have hge:=zds d
 have e0:Zv s d=(zfl s&&zdZ d&&decide (yT d (d.frags.map (·.sels)) (yT d (d.ops.map (·.sels)) 0)≤40)):=rfl
 have eC:∀ x r n,yT d (x::r) n=if n≤40 then yT d r (n+few d 41 40 x) else n:=fun _ _ _=>rfl
 have eN:∀ n,yT d [] n=n:=fun _=>rfl
 have eX:∀(l:List (List SelD)) n,¬ n≤40→yT d l n=n:=fun l n h=>by cases l with|nil=>rfl|cons x r=>rw[eC,if_neg h]
 generalize Zv s d=F at *
 generalize zfl s=x1 at *
 generalize zdZ d=x2 at *
 have hcd:zT d=[.sl .no 5 (cOs d.ops),.sl .no 4 (cFs d.frags)]:=rfl
 have hcs:zq s=[.sl .no 6 (cEs s.defs),.str s.q,.str s.m]:=rfl
 simp only[hcs,hcd] at r1 r2 hfew ⊢
 generalize hA:yT d=A at *
 refine zi.go ir6 ck6 (Al4 _) fun KP Q hQ=>?_
 simp(disch:=omega) only[ir6,go_sem]
 refine za r1 ?_
 cases x1 with
 | false =>
  simp(disch:=omega) only[go_sem]
  exact hQ _ _ _ _ nofun rfl (by simp[zd,ze,AV.strip,AV.strip1,e0])
 | true =>
 simp(disch:=omega) only[go_sem]
 refine za r2 ?_
 cases x2 with
 | false =>
  simp(disch:=omega) only[go_sem]
  exact hQ _ _ _ _ nofun rfl (by simp[zd,ze,AV.strip,AV.strip1,e0])
 | true =>
 simp only[Bool.true_and] at e0
 generalize hT:A (d.frags.map (·.sels)) (A (d.ops.map (·.sels)) 0)=T at *
 have second:True:=trivial
 simp(disch:=omega) only[go_sem]
 refine zf d.ops 6 (fun n:Nat=>[(5,.int .i64 n)]) (fun done rest n _=>A (rest.map (·.sels)) n=A (d.ops.map (·.sels)) 0) 0 (by simp(disch:=omega) only[go_sem]) rfl ?_ ?_
 ·rintro n H J hn hlt
  simp only[List.map_nil] at hn
  rw[eN] at hn
  rw[← hn] at hT u1
  simp(disch:=omega) only[l1,hlt,go_sem]
  refine zf d.frags 7 (fun n:Nat=>[(5,.int .i64 n)]) (fun done rest n _=>A (rest.map (·.sels)) n=T) n (by simp(disch:=omega) only[go_sem]) hT ?_ ?_
  ·rintro n2 H2 J2 hn2 hlt2
   simp only[List.map_nil] at hn2
   rw[eN] at hn2
   subst hn2
   have ed:decide ((n2:Int)≤40)=decide (n2≤40):=decide_eq_decide.2 (by omega)
   simp(disch:=omega) only[l2,hlt2,go_sem]
   exact hQ _ _ _ _ nofun rfl (by simp[zd,ze,AV.strip,AV.strip1,e0,ed])
  ·rintro done x rest n2 H2 J2 hd hlt2 _ hn2 hJ2
   have hg:=Yw hd
   have hxm:=hmf x (by rw[hd];simp)
   have hfx:=hfew x.sels hxm
   have hux:=hup x.sels hxm
   rw[List.map_cons,eC] at hn2
   obtain⟨fn,fo,fd,fs⟩:=x
   rw[Yh] at hg
   simp only at hfx hux hn2
   by_cases h4:n2≤40
   case neg =>
    rw[if_neg h4] at hn2
    subst hn2
    have ed:decide ((n2:Int)≤40)=decide (n2≤40):=decide_eq_decide.2 (by omega)
    have h4':¬ ((n2:Int)≤40):=by omega
    simp(disch:=omega) only[l2,hlt2,h4',go_sem]
    exact hQ _ _ _ _ nofun rfl (by simp[zd,ze,AV.strip,AV.strip1,e0,h4])
   rw[if_pos h4] at hn2
   have h4':((n2:Int)≤40)=True:=eq_true (by omega)
   generalize few d 41 40 fs=w at *
   have ec:((n2+w:Nat):Int)=n2+w:=by omega
   simp(disch:=omega) only[l2,hlt2,h4',hg,go_sem]
   refine za hfx ?_
   simp(disch:=omega) only[wrap64,go_sem]
   exact goJ (hJ2 (n2+w) _ hn2) (by simp(disch:=omega) only[wrap64,ec,go_sem])
 ·rintro done x rest n H J hd hlt _ hn hJ
  have hg:=Yf hd
  have hxm:=hmo x (by rw[hd];simp)
  have hfx:=hfew x.sels hxm
  have hux:=hup x.sels hxm
  rw[List.map_cons,eC] at hn
  obtain⟨ok,onm,vs,ds,ss⟩:=x
  rw[zad] at hg
  simp only at hfx hux hn
  by_cases h4:n≤40
  case neg =>
   rw[if_neg h4] at hn
   rw[← hn,eX _ n h4] at hT
   subst hT
   have h4':¬ ((n:Int)≤40):=by omega
   simp(disch:=omega) only[l1,hlt,h4',l2,go_sem]
   refine zf d.frags 7 (fun _:Unit=>[(5,.int .i64 n)]) (fun _ _ _ _=>True) () (by simp(disch:=omega) only[go_sem]) trivial ?_ ?_
   ·rintro _ H2 J2 _ hlt2
    simp(disch:=omega) only[l2,hlt2,h4',go_sem]
    exact hQ _ _ _ _ nofun rfl (by simp[zd,ze,AV.strip,AV.strip1,e0,h4])
   ·rintro done2 x2 rest2 _ H2 J2 hd2 hlt2 _ _ hJ2
    simp(disch:=omega) only[l2,hlt2,h4',go_sem]
    exact hQ _ _ _ _ nofun rfl (by simp[zd,ze,AV.strip,AV.strip1,e0,h4])
  rw[if_pos h4] at hn
  have h4':((n:Int)≤40)=True:=eq_true (by omega)
  generalize few d 41 40 ss=w at *
  have ec:((n+w:Nat):Int)=n+w:=by omega
  simp(disch:=omega) only[l1,hlt,h4',hg,go_sem]
  refine za hfx ?_
  simp(disch:=omega) only[wrap64,go_sem]
  exact goJ (hJ (n+w) _ hn) (by simp(disch:=omega) only[wrap64,ec,go_sem])
theorem zhQ:∀(l a:List (List UInt8)),zc8 a l=true↔l.Nodup∧∀ x∈l,x ∉ a
 | [],a=>by simp[zc8]
 | x::r,a=>by
  simp only[zc8,Al0,Bool.not_eq_true',zgG]
  rw[zhQ r (a++[x]),List.nodup_cons]
  constructor
  ·rintro⟨h1,h2,h3⟩
   refine⟨⟨fun h=>h3 x h (by simp),h2⟩,fun y hy=>?_⟩
   rcases List.mem_cons.1 hy with rfl|hy
   ·exact h1
   ·exact fun h=>h3 y hy (zaJ _ h)
  ·rintro⟨⟨h1,h2⟩,h3⟩
   refine⟨h3 x (ZH ..),h2,fun y hy h=>?_⟩
   rcases List.mem_append.1 h with h|h
   ·exact h3 y (Z0 _ hy) h
   ·simp only[List.mem_singleton] at h;subst h;exact h1 hy
theorem zb7 (l:List (List UInt8)):zaf l=true↔l.Nodup:=by
 unfold zaf;rw[zhQ];simp
def Sub {α:Type} (l m:List α):Prop:=∃ t,l.Perm t∧t.Sublist m
section
variable {α β:Type} {l m:List α}
theorem Sub.mem (h:Sub l m) {x:α} (hx:x∈l):x∈m:=by obtain⟨t,h1,h2⟩:=h;exact h2.subset (h1.mem_iff.1 hx)
theorem Sub.map (f:α→β) (h:Sub l m):Sub (l.map f) (m.map f):=by obtain⟨t,h1,h2⟩:=h;exact⟨t.map f,h1.map f,h2.map f⟩
theorem Sub.filter (p:α→Bool) (h:Sub l m):Sub (l.filter p) (m.filter p):=by obtain⟨t,h1,h2⟩:=h;exact⟨t.filter p,h1.filter p,h2.filter p⟩
theorem Sub.nodup (h:Sub l m) (hm:m.Nodup):l.Nodup:=by obtain⟨t,h1,h2⟩:=h;exact h1.nodup_iff.2 (hm.sublist h2)
theorem Sub.len (h:Sub l m):l.length≤m.length:=by obtain⟨t,h1,h2⟩:=h;rw[h1.length_eq];exact h2.length_le
theorem Sub.all {p:α→Bool} (h:Sub l m) (hm:m.all p=true):l.all p=true:=by
 rw[zdY] at hm ⊢;exact fun x hx=>hm x (h.mem hx)
theorem zrN {l m:List Nat} (h:l.Sublist m):l.sum≤m.sum:=by
 induction h with
 | slnil=>exact Al4 _
 | cons a _ ih=>simp only[List.sum_cons];omega
 | cons_cons a _ ih=>simp only[List.sum_cons];omega
theorem zo4 {l m:List Nat} (h:l.Perm m):l.sum=m.sum:=by
 induction h with
 | nil=>rfl
 | cons a _ ih=>simp only[List.sum_cons,ih]
 | swap a b l=>simp only[List.sum_cons];omega
 | trans _ _ i1 i2=>exact i1.trans i2
theorem Sub.sum (g:α→Nat) (h:Sub l m):(l.map g).sum≤(m.map g).sum:=by
 obtain⟨t,h1,h2⟩:=h.map g
 rw[zo4 h1];exact zrN h2
end
structure PartV (a d:DocD):Prop where
 so:Sub a.ops d.ops
 sf:Sub a.frags d.frags
 nd:(d.frags.map (·.nm)).Nodup
 ne:0<a.ops.length
 cl:∀ l∈yO a,∀ n,zaH n l→zC a n=zC d n
 us:∀ f∈a.frags,∃ o∈a.ops,f.nm∈yi d o.sels
section
variable {a d:DocD} (V:PartV a d)
include V
theorem y6:PartD a d:=⟨fun o h=>V.so.mem h,fun f h=>V.sf.mem h,V.nd,(V.sf.map _).nodup V.nd,V.cl⟩
theorem zg7:bFs a.frags≤bFs d.frags:=V.sf.sum bF
theorem zl8:zv a≤zv d:=by
 have h1:=V.sf.sum bF
 have h2:=V.so.sum bO
 simp only[zv,bOs,bFs] at *;omega
theorem zuX (h:zdF d):zdF a:=⟨fun x hx=>h.1 x (V.so.mem hx),fun x hx=>h.2 x (V.sf.mem hx)⟩
theorem zpX (h:Z6 d=true):Z6 a=true:=by
 simp only[Z6,Al0,y0] at h ⊢
 have:=V.ne
 exact⟨by omega,V.so.all h.2.1,V.sf.all h.2.2⟩
omit V in
mutual
theorem znx {g g':Nat→List SelD→Nat} (hg:∀ m n,zC a n=zC d n→g m (frS a n)=g' m (frS d n)):∀(x:SelD) (r:Nat),(∀ n,zgD n x→zC a n=zC d n)→zeq a g x r=zeq d g' x r
 | .mk k al nm args dirs on sels,r,h=>by
  simp only[zeq]
  rw[zd1 hg sels r 0 fun n hn=>h n (by simp only[zgD];exact .inr hn)]
  by_cases hk:k=1
  ·rw[hg _ nm (h nm (by simp only[zgD];exact .inl ⟨hk,trivial⟩))]
  ·simp[hk]
theorem zd1 {g g':Nat→List SelD→Nat} (hg:∀ m n,zC a n=zC d n→g m (frS a n)=g' m (frS d n)):∀(l:List SelD) (most n:Nat),ClL a d l→Zh a g l most n=Zh d g' l most n
 | [],_,_,_=>rfl
 | x::xs,most,n,h=>by
  simp only[Zh]
  rw[znx hg x _ fun m hm=>h m (by simp only[zaH];exact .inl hm),zd1 hg xs _ _ fun m hm=>h m (by simp only[zaH];exact .inr hm)]
end
theorem zgA:∀(k most:Nat) (l:List SelD),ClL a d l→few a k most l=few d k most l
 | 0,most,l,h=>rfl
 | k+1,most,l,h=>by
  simp only[few]
  refine zd1 (fun m n e=>?_) l most 0 h
  rw[zgA k m _ (zpb (y6 V) n),(ziX (y6 V) e).1]
omit V in
theorem za7 (d:DocD):∀(l:List (List SelD)) (n:Nat),yT d l n≤40↔n+(l.map (few d 41 40)).sum≤40
 | [],n=>by simp[yT]
 | x::r,n=>by
  simp only[yT,List.map_cons,List.sum_cons]
  split
  ·rw[za7 d r];omega
  ·omega
theorem zkc {s:SchD} (h:Zv s d=true):Zv s a=true:=by
 simp only[Zv,zdZ,Al0,y0] at h ⊢
 obtain⟨⟨h1,h2⟩,h3⟩:=h
 have o1:=V.so.sum lO
 have o2:=V.sf.sum lF
 refine⟨⟨h1,by simp only[lOs,lFs] at *;omega⟩,?_⟩
 rw[za7] at h3 ⊢
 have k0:=(za7 d (d.ops.map (·.sels)) 0).1 (by omega)
 have e0:∀(l:List (List SelD)) (n:Nat),yT d l n≤40→yT d l n=n+(l.map (few d 41 40)).sum:=by
  intro l
  induction l with
  | nil=>intro n _;simp[yT]
  | cons x r ih =>
   intro n h
   simp only[yT,List.map_cons,List.sum_cons] at h ⊢
   split at h
   ·rw[if_pos (by assumption),ih _ h];omega
   ·omega
 rw[e0 _ _ ((za7 d _ 0).2 k0)] at h3
 have c1:(a.ops.map (·.sels)).map (few a 41 40)=a.ops.map fun o=>few d 41 40 o.sels:=by
  rw[List.map_map];exact List.map_congr_left fun o ho=>zgA V 41 40 _ (zh1 (y6 V) ho)
 have c2:(a.frags.map (·.sels)).map (few a 41 40)=a.frags.map fun o=>few d 41 40 o.sels:=by
  rw[List.map_map];exact List.map_congr_left fun o ho=>zgA V 41 40 _ (zhc (y6 V) ho)
 have s1:=V.so.sum fun o=>few d 41 40 o.sels
 have s2:=V.sf.sum fun f=>few d 41 40 f.sels
 rw[List.map_map,List.map_map] at h3
 have j1:yT a (a.ops.map (·.sels)) 0≤40:=by
  rw[za7,c1]
  simp only[Function.comp_def] at h3
  omega
 have e1:∀(l:List (List SelD)) (n:Nat),yT a l n≤40→yT a l n=n+(l.map (few a 41 40)).sum:=by
  intro l
  induction l with
  | nil=>intro n _;simp[yT]
  | cons x r ih =>
   intro n h
   simp only[yT,List.map_cons,List.sum_cons] at h ⊢
   split at h
   ·rw[if_pos (by assumption),ih _ h];omega
   ·omega
 rw[e1 _ _ j1,c1,c2]
 simp only[Function.comp_def] at h3
 omega
end
theorem zdJ (R:List (List UInt8)) (x:List UInt8):∀(fs:List FragD) (l:List (List UInt8)),x∈fs.foldl (y9 R) l↔x∈l∨(x∈R∧x∈fs.map (·.nm))
 | [],l=>by simp
 | f::fs,l=>by
  rw[List.foldl_cons,zdJ R x fs]
  have h1:x∈y9 R l f↔x∈l∨(x=f.nm∧x∈R):=by
   unfold y9
   by_cases hx:z8 f.nm R=true∧z8 f.nm l=false
   ·rw[if_pos hx,List.mem_append,List.mem_singleton]
    have:=(Z1 _ _).1 hx.1
    constructor
    ·rintro(h|rfl)
     ·exact .inl h
     ·exact .inr ⟨rfl,this⟩
    ·rintro(h|⟨h,_⟩)
     ·exact .inl h
     ·exact .inr h
   ·rw[if_neg hx]
    constructor
    ·exact .inl
    ·rintro(h|⟨rfl,h⟩)
     ·exact h
     ·have h2:=(Z1 _ _).2 h
      cases h3:z8 f.nm l with
      | true=>exact(Z1 _ _).1 h3
      | false=>exact absurd ⟨h2,h3⟩ hx
  rw[h1,List.map_cons,List.mem_cons]
  constructor
  ·rintro((h|⟨h,h2⟩)|⟨h,h2⟩)
   ·exact .inl h
   ·exact .inr ⟨h2,.inl h⟩
   ·exact .inr ⟨h,.inr h2⟩
  ·rintro(h|⟨h,h2|h2⟩)
   ·exact .inl (.inl h)
   ·exact .inl (.inr ⟨h2,h⟩)
   ·exact .inr ⟨h,h2⟩
theorem zdM (d:DocD) (sels:List SelD) (x:List UInt8):x∈Zm d sels↔x∈yi d sels∧x∈d.frags.map (·.nm):=by
 unfold Zm;rw[zdJ];simp
theorem zco (d:DocD) (n:List UInt8):(zC d n).isSome=true↔n∈d.frags.map (·.nm):=by
 unfold zC
 rw[List.find?_isSome]
 simp only[Yz,y0,List.mem_map]
abbrev NmF:=List (List UInt8)→List (List UInt8)
def Grow (f:NmF):Prop:=∀ l x,x∈f l↔x∈l∨x∈f []
theorem Grow.comp {f g:NmF} (hf:Grow f) (hg:Grow g):Grow fun l=>f (g l):=fun l x=>by
 rw[hf (g l),hf (g []),hg l,or_assoc]
theorem Grow.foldl {α:Type} {f:List (List UInt8)→α→List (List UInt8)} (h:∀ y,Grow fun l=>f l y):∀ r:List α,Grow fun l=>r.foldl f l
 | []=>fun l x=>by simp
 | y::r=>(Grow.foldl h r).comp (h y)
theorem zh2 {α:Type} {f:List (List UInt8)→α→List (List UInt8)} (h:∀ y,Grow fun l=>f l y) (x:List UInt8):∀(r:List α) (l:List (List UInt8)),x∈r.foldl f l↔x∈l∨∃ y∈r,x∈f [] y
 | [],l=>by simp
 | y::r,l=>by
  rw[List.foldl_cons,zh2 h x r,h y l x,or_assoc]
  simp
theorem zgP (n:List UInt8):∀(l:List (List UInt8)) (k:Nat),zbC n l k=none→n∈l
 | [],k,h=>by simp[zbC] at h
 | y::r,k,h=>by
  simp only[zbC] at h
  split at h
  ·exact Z0 _ (zgP n r _ h)
  ·split at h
   ·rename_i e;rw[e];exact ZH ..
   ·cases h
theorem zkz (l:List (List UInt8)) (n x:List UInt8):x∈zeC l n↔x∈l∨x=n:=by
 unfold zeC
 split
 ·rename_i h
  have:=zgP n l 0 h
  constructor
  ·exact .inl
  ·rintro(h|rfl)
   ·exact h
   ·exact this
 ·rename_i k h
  have e:x∈l↔x∈l.take k∨x∈l.drop k:=by rw[← List.mem_append,List.take_append_drop]
  rw[List.mem_append,List.mem_cons,e]
  constructor
  ·rintro(h|h|h)
   ·exact .inl (.inl h)
   ·exact .inr h
   ·exact .inl (.inr h)
  ·rintro((h|h)|h)
   ·exact .inl h
   ·exact .inr (.inr h)
   ·exact .inr (.inl h)
theorem zn4 (n:List UInt8):Grow fun l=>zeC l n:=fun l x=>by rw[zkz,zkz];simp
theorem zkw (m:Mem):Grow fun l=>ofM l m:=Grow.foldl zn4 _
theorem zqf (d:DirD):Grow fun l=>ofD l d:=Grow.foldl zkw _
mutual
theorem zqv:∀ x:SelD,Grow (wrS x)
 | .mk k al nm args dirs on sels=>by
  have:=(zfo sels).comp ((Grow.foldl zqf dirs).comp (Grow.foldl zkw args))
  intro l x
  simpa only[wrS] using this l x
theorem zfo:∀ r:List SelD,Grow (zai r)
 | []=>fun l x=>by simp[zai]
 | y::r=>by
  have:=(zfo r).comp (zqv y)
  intro l x
  simpa only[zai] using this l x
end
theorem zim (d:DocD) (sels:List SelD) (x:List UInt8):x∈Z3 d sels↔x∈zai sels []∨∃ n∈Zm d sels,x∈zai (frS d n) []:=by
 unfold Z3
 rw[zh2 (f:=fun l n=>zai ((zC d n).getD zFr).sels l) fun n=>zfo _]
 rfl
section
variable {a d:DocD} (s:SchD)
mutual
theorem znj:∀(x:SelD) (typ:List UInt8),(∀ n,zgD n x→zC a n=zC d n)→zou s (zbA s a) typ x=zou s (zbA s d) typ x
 | .mk k al nm args dirs on sels,typ,h=>by
  simp only[zou]
  rw[zcl sels _ fun n hn=>h n (by simp only[zgD];exact .inr hn)]
  have:zbA s a typ (.mk k al nm args dirs on sels)=zbA s d typ (.mk k al nm args dirs on sels):=by
   simp only[zbA]
   by_cases hk:k=1
   ·rw[h nm (by simp only[zgD];exact .inl ⟨hk,trivial⟩)]
   ·simp[hk]
  rw[this]
theorem zcl:∀(l:List SelD) (typ:List UInt8),ClL a d l→YH s (zbA s a) typ l=YH s (zbA s d) typ l
 | [],_,_=>rfl
 | x::r,typ,h=>by
  simp only[YH]
  rw[znj x typ fun n hn=>h n (by simp only[zaH];exact .inl hn),zcl r typ fun n hn=>h n (by simp only[zaH];exact .inr hn)]
end
end
section
variable {a d:DocD} (V:PartV a d) (s:SchD)
include V
theorem zbs {p:List UInt8→SelD→Bool} (h:ZJ s d p=true):ZJ s a p=true:=by
 simp only[ZJ,Al0] at h ⊢
 exact⟨V.so.all h.1,V.sf.all h.2⟩
theorem zr7 (h:ZJ s d (zbA s d)=true):ZJ s a (zbA s a)=true:=by
 have h1:=zbs V s h
 simp only[ZJ,Al0,zdY] at h1 ⊢
 exact⟨fun o ho=>by rw[zcl s _ _ (zh1 (y6 V) ho)];exact h1.1 o ho,fun f hf=>by rw[zcl s _ _ (zhc (y6 V) hf)];exact h1.2 f hf⟩
theorem zla {p:List DirD→Bool} (h:(zb8 d).all p=true):(zb8 a).all p=true:=by
 simp only[zb8,List.all_append,Al0,List.all_map] at h ⊢
 exact⟨V.so.all h.1,V.sf.all h.2⟩
theorem zh6 {l:List SelD} (h:l∈yO a):l∈yO d:=by
 simp only[yO,List.mem_append,List.mem_map] at h ⊢
 rcases h with ⟨o,ho,e⟩|⟨f,hf,e⟩
 ·exact .inl ⟨o,V.so.mem ho,e⟩
 ·exact .inr ⟨f,V.sf.mem hf,e⟩
theorem zgm {sels:List SelD} (h:ClL a d sels) (n:List UInt8):n∈Zm a sels↔n∈Zm d sels:=by
 obtain⟨h1,h2⟩:=YS (y6 V) (zg7 V) h
 rw[zdM,zdM,← h1]
 constructor
 ·rintro⟨h3,h4⟩
  exact⟨h3,by rw[← zco] at h4 ⊢;rwa [← h2 n h3]⟩
 ·rintro⟨h3,h4⟩
  exact⟨h3,by rw[← zco] at h4 ⊢;rwa [h2 n h3]⟩
theorem zfA {sels:List SelD} (h:ClL a d sels) {n:List UInt8} (hn:n∈Zm d sels):zC a n=zC d n:=by
 obtain⟨h1,h2⟩:=YS (y6 V) (zg7 V) h
 exact h2 n (by rw[h1];exact((zdM d sels n).1 hn).1)
theorem zrR {sels:List SelD} (h:ClL a d sels) (x:List UInt8):x∈Z3 a sels↔x∈Z3 d sels:=by
 rw[zim,zim]
 constructor
 ·rintro(h1|⟨n,h1,h2⟩)
  ·exact .inl h1
  ·have h3:=(zgm V h n).1 h1
   exact .inr ⟨n,h3,by rw[← (ziX (y6 V) (zfA V h h3)).1];exact h2⟩
 ·rintro(h1|⟨n,h1,h2⟩)
  ·exact .inl h1
  ·exact .inr ⟨n,(zgm V h n).2 h1,by rw[(ziX (y6 V) (zfA V h h1)).1];exact h2⟩
theorem zpj {o:OpD} (ho:o∈a.ops) {x:SpotD} (h:x∈zfw s a o):x∈zfw s d o:=by
 have hc:=zh1 (y6 V) ho
 simp only[zfw,List.mem_append,List.mem_flatMap] at h ⊢
 rcases h with h|⟨n,h1,h2⟩
 ·exact .inl h
 ·have h3:=(zgm V hc n).1 h1
  refine .inr ⟨n,h3,?_⟩
  simpa only[zg3,zfA V hc h3] using h2
theorem zvB (n:Int) (h:YP s d n=true):YP s a n=true:=by
 unfold YP at h ⊢
 have hne:=V.ne
 have hlen:=V.so.len
 split at h
 ·rename_i hp;rw[if_pos hp]
  exact(zb7 _).2 (((V.so.map _).filter _).nodup ((zb7 _).1 h))
 rename_i h1
 rw[if_neg h1]
 split at h
 ·rename_i hp;rw[if_pos hp]
  simp only[Al0,zhr,y0,Bool.not_eq_true',zgG] at h ⊢
  refine⟨hne,?_⟩
  rcases h.2 with h3|h3
  ·exact .inl (by omega)
  ·exact .inr fun hm=>h3 ((V.so.map (·.nm)).mem hm)
 rename_i h2
 rw[if_neg h2]
 split at h
 ·rename_i hp;rw[if_pos hp]
  simp only[zhr,Bool.not_eq_true',decide_eq_false_iff_not,List.any_eq_false,y0] at h ⊢
  rcases h with h|h
  ·exact .inl h
  ·exact .inr fun o ho=>h o (V.so.mem ho)
 rename_i h3
 rw[if_neg h3]
 split at h
 ·rename_i hp;rw[if_pos hp]
  exact(zb7 _).2 ((V.sf.map _).nodup ((zb7 _).1 h))
 rename_i h4
 rw[if_neg h4]
 split at h
 ·rename_i hp;rw[if_pos hp]
  simp only[onM,Al0,Bool.not_eq_true',List.any_eq_false] at h ⊢
  exact⟨fun f hf=>h.1 f (V.sf.mem hf),fun l hl=>h.2 l (zh6 V hl)⟩
 rename_i h5
 rw[if_neg h5]
 split at h
 ·rename_i hp;rw[if_pos hp]
  simp only[zha,Bool.not_eq_true',List.any_eq_false] at h ⊢
  intro l hl
  have:=h l (zh6 V hl)
  have hc:ClL a d l:=V.cl l hl
  simp only[zhK,List.any_eq_true,not_exists,not_and] at this ⊢
  intro n hn
  rw[hc n (by rcases(zbQ n l []).1 hn with h6|h6;cases h6;exact h6)]
  exact this n hn
 rename_i h6
 rw[if_neg h6]
 split at h
 ·rename_i hp;rw[if_pos hp]
  simp only[zbG,Bool.not_eq_true',List.any_eq_false] at h ⊢
  intro f hf
  have:=h f (V.sf.mem hf)
  simp only[zgJ] at this ⊢
  rwa [(YS (y6 V) (zg7 V) (zhc (y6 V) hf)).1]
 rename_i h7
 rw[if_neg h7]
 split at h
 ·rename_i hp;rw[if_pos hp]
  simp only[zen,Bool.not_eq_true',List.any_eq_false] at h ⊢
  intro f hf
  obtain⟨o,ho,hr⟩:=V.us f hf
  have hm:∀(ops:List OpD) (l:List (List UInt8)),(f.nm∈l∨∃ o∈ops,f.nm∈yi a o.sels)→f.nm∈ops.foldl (fun l o=>l++yi a o.sels) l:=by
   intro ops
   induction ops with
   | nil=>rintro l (h|⟨o,h,_⟩);exact h;cases h
   | cons o ops ih =>
    rintro l (h|⟨p,h,h2⟩)
    ·exact ih _ (.inl (zaJ _ h))
    ·rcases List.mem_cons.1 h with rfl|h
     ·exact ih _ (.inl (List.mem_append_right _ h2))
     ·exact ih _ (.inr ⟨p,h,h2⟩)
  have:=hm a.ops [] (.inr ⟨o,ho,by rw[(YS (y6 V) (zg7 V) (zh1 (y6 V) ho)).1];exact hr⟩)
  rw[(Z1 _ _).2 (by exact this)]
  simp
 ·rename_i hp;rw[if_neg hp]
  exact h
theorem zti (n:Int) (h:zau s d n=true):zau s a n=true:=by
 simp only[zau,Al0] at h ⊢
 refine⟨?_,h.2⟩
 by_cases h3:n=11
 ·subst h3
  have e:∀ d,zhy s d 11=zbA s d:=fun d=>by funext typ x;simp[zhy]
  rw[e] at h ⊢
  exact zr7 V s h.1
 ·have e:zhy s a n=zhy s d n:=by funext typ x;simp[zhy,h3]
  rw[e];exact zbs V s h.1
theorem ztX (n:Int) (h:zaG s d n=true):zaG s a n=true:=by
 unfold zaG at h ⊢
 split at h
 ·rename_i hp;rw[if_pos hp]
  simp only[Al0] at h ⊢
  exact⟨zla V h.1,zbs V s h.2⟩
 rename_i h1
 rw[if_neg h1]
 split at h
 ·rename_i hp;rw[if_pos hp]
  exact zla V h
 rename_i h2
 rw[if_neg h2]
 split at h
 ·rename_i hp;rw[if_pos hp]
  simp only[Al0] at h ⊢
  exact⟨zla V h.1,zbs V s h.2⟩
 ·rename_i hp;rw[if_neg hp]
  exact h
theorem zub (n:Int) (h:zax s d n=true):zax s a n=true:=by
 unfold zax at h ⊢
 by_cases h1:n=15
 ·rw[if_pos h1] at h ⊢;exact zbs V s h
 rw[if_neg h1] at h ⊢
 by_cases h2:n=16
 ·rw[if_pos h2] at h ⊢;exact zbs V s h
 rw[if_neg h2] at h ⊢
 by_cases h3:n=17
 ·rw[if_pos h3] at h ⊢;exact zbs V s h
 rw[if_neg h3] at h;cases h
theorem zt2 (n:Int) (h:zcZ s d n=true):zcZ s a n=true:=by
 simp only[zcZ,Al0,Bool.not_eq_true',List.any_eq_false] at h ⊢
 refine⟨h.1,fun o ho=>?_⟩
 have:=h.2 o (V.so.mem ho)
 have hu:=zrR V (zh1 (y6 V) ho)
 have e:zbi s a n o=zbi s d n o:=by
  unfold zbi
  have e1:∀ p:List UInt8→Bool,(Z3 a o.sels).any p=(Z3 d o.sels).any p:=fun p=>by
   rw[Bool.eq_iff_iff,List.any_eq_true,List.any_eq_true]
   exact⟨fun⟨x,h1,h2⟩=>⟨x,(hu x).1 h1,h2⟩,fun⟨x,h1,h2⟩=>⟨x,(hu x).2 h1,h2⟩⟩
  have e2:∀ x,z8 x (Z3 a o.sels)=z8 x (Z3 d o.sels):=fun x=>by
   rw[Bool.eq_iff_iff,Z1,Z1];exact hu x
  rw[e1]
  simp only[e2]
 rw[e];exact this
theorem zuI (n:Int) (h:zbB s d n=true):zbB s a n=true:=by
 unfold zbB at h ⊢
 split at h
 ·rename_i hp;rw[if_pos hp]
  simp only[zdy,Al0] at h ⊢
  exact⟨V.so.all h.1,zbs V s h.2⟩
 rename_i h1
 rw[if_neg h1]
 split at h
 ·rename_i hp;rw[if_pos hp]
  simp only[znt,zoU,zdY] at h ⊢
  exact fun o ho x hx=>h o (V.so.mem ho) x (zpj V s ho hx)
 ·rename_i hp;rw[if_neg hp]
  exact h
theorem zuz (n:Int) (hl:Zv s d=true) (hb:zv d≤Lim) (h:zaZ s d n=true):zaZ s a n=true:=by
 simp only[zaZ,Al0] at h ⊢
 refine⟨h.1,?_⟩
 have hbV:=zl8 V
 rw[zm7 (zkc V hl) (by omega) (y6 V).nda]
 obtain⟨h1,h2,h3⟩:=(zm7 hl hb V.nd).1 h.2
 refine⟨?_,fun f hf=>?_,fun o ho=>?_⟩
 ·simp only[zbG,List.any_eq_false] at h1 ⊢
  intro f hf
  have:=h1 f (V.sf.mem hf)
  simp only[zgJ] at this ⊢
  rwa [(YS (y6 V) (zg7 V) (zhc (y6 V) hf)).1]
 ·rw[zg2 (y6 V) s 64 _ _ (zhc (y6 V) hf)];exact h2 f (V.sf.mem hf)
 ·rw[zg2 (y6 V) s 64 _ _ (zh1 (y6 V) ho)];exact h3 o (V.so.mem ho)
theorem zpm (hl:Zv s d=true) (hb:zv d≤Lim) (n:Int) (h:ZM s d n=true):ZM s a n=true:=by
 unfold ZM at h ⊢
 split at h
 ·rename_i hp;rw[if_pos hp]
  exact zvB V s n h
 rename_i h1
 rw[if_neg h1]
 split at h
 ·rename_i hp;rw[if_pos hp]
  exact zti V s n h
 rename_i h2
 rw[if_neg h2]
 split at h
 ·rename_i hp;rw[if_pos hp]
  exact ztX V s n h
 rename_i h3
 rw[if_neg h3]
 split at h
 ·rename_i hp;rw[if_pos hp]
  exact zub V s n h
 rename_i h4
 rw[if_neg h4]
 split at h
 ·rename_i hp;rw[if_pos hp]
  exact zt2 V s n h
 rename_i h5
 rw[if_neg h5]
 split at h
 ·rename_i hp;rw[if_pos hp]
  exact zuI V s n h
 ·rename_i hp;rw[if_neg hp]
  exact zuz V s n hl hb h
theorem zpt (hl:Zv s d=true) (hb:zv d≤Lim) (h:Zy s d=0):Zy s a=0:=by
 unfold Zy at h ⊢
 split at h
 ·cases h
 rename_i h1
 simp only[not_or,Decidable.not_not,Bool.not_eq_false] at h1
 have hc:∀(k:Nat) (n:Int),1≤n→zf0 s d k n=0→zf0 s a k n=0:=by
  intro k
  induction k with
  | zero=>intro n _ _;rfl
  | succ k ih =>
   intro n hn h
   simp only[zf0] at h ⊢
   split at h
   ·rename_i hv
    rw[if_pos (zpm V s hl hb n hv)]
    exact ih (n+1) (by omega) h
   ·omega
 rw[if_neg (by simp[h1.1,zpX V h1.2])]
 exact hc 24 1 (by omega) h
end
theorem zny {a d:DocD} (hs:Sub a.frags d.frags) (hn:(d.frags.map (·.nm)).Nodup) {n:List UInt8} (h:n∈d.frags.map (·.nm)→n∈a.frags.map (·.nm)):zC a n=zC d n:=by
 cases ha:zC a n with
 | some g =>
  have h1:=zp5 hn (hs.mem (List.mem_of_find?_eq_some ha))
  have h2:g.nm=n:=by have:=List.find?_some ha;simpa[Yz] using this
  rw[h2] at h1;exact h1.symm
 | none =>
  cases hd:zC d n with
  | none=>rfl
  | some f =>
   have h1:=(zco a n).2 (h ((zco d n).1 (by rw[hd];rfl)))
   rw[ha] at h1;cases h1
theorem ze6 {α:Type} (l:List α) (k:Nat):Sub (l.drop k++l.take k) l:=⟨l,by
 have:=List.perm_append_comm (l₁:=l.drop k) (l₂:=l.take k)
 rwa [List.take_append_drop] at this,List.Sublist.refl _⟩
theorem zrB {d:DocD} (h:zen d=true) {f:FragD} (hf:f∈d.frags):∃ o∈d.ops,f.nm∈yi d o.sels:=by
 simp only[zen,Bool.not_eq_true',List.any_eq_false] at h
 have h1:=h f hf
 have h2:f.nm∈zsK d:=(Z1 _ _).1 (by simpa using h1)
 have hm:∀(ops:List OpD) (l:List (List UInt8)),f.nm∈ops.foldl (fun l o=>l++yi d o.sels) l→f.nm∈l∨∃ o∈ops,f.nm∈yi d o.sels:=by
  intro ops
  induction ops with
  | nil=>intro l h;exact .inl h
  | cons o ops ih =>
   intro l h
   rcases ih _ h with h|⟨p,hp,h⟩
   ·rcases List.mem_append.1 h with h|h
    ·exact .inl h
    ·exact .inr ⟨o,ZH ..,h⟩
   ·exact .inr ⟨p,Z0 _ hp,h⟩
 rcases hm d.ops [] h2 with h|h
 ·cases h
 ·exact h
theorem zd6 {s:SchD} {d:DocD} (h:Zy s d=0):∀ i:Int,1≤i→i<25→ZM s d i=true:=by
 unfold Zy at h
 split at h
 ·cases h
 have hc:∀(k:Nat) (n:Int),1≤n→zf0 s d k n=0→∀ i,n≤i→i<n+k→ZM s d i=true:=by
  intro k
  induction k with
  | zero=>intro n _ _ i h1 h2;omega
  | succ k ih =>
   intro n hn h i h1 h2
   simp only[zf0] at h
   split at h
   ·rename_i hv
    by_cases e:i=n
    ·rw[e];exact hv
    ·exact ih (n+1) (by omega) h i (by omega) (by omega)
   ·omega
 exact hc 24 1 (by omega) h
theorem zhC {s:SchD} {d:DocD} (h:Zy s d=0):0<d.ops.length:=by
 have h2:=zd6 h 2 (by omega) (by omega)
 simp only[ZM,YP] at h2
 simp at h2
 exact h2.1
theorem zj4 {s:SchD} {d:DocD} (h:Zy s d=0):(d.frags.map (·.nm)).Nodup:=by
 have h2:=zd6 h 4 (by omega) (by omega)
 exact(zb7 _).1 (by simpa[ZM,YP] using h2)
theorem zqm {s:SchD} {d:DocD} (h:Zy s d=0):zen d=true:=by
 have h2:=zd6 h 8 (by omega) (by omega)
 simpa[ZM,YP] using h2
theorem znE {s:SchD} {d:DocD} (h:Zy s d=0) (k j:Nat):PartV ⟨d.ops.drop k++d.ops.take k,d.frags.drop j++d.frags.take j⟩ d where
 so:=ze6 _ _
 sf:=ze6 _ _
 nd:=zj4 h
 ne:=by have:=zhC h;simp only[Al5,zdX,List.length_take];omega
 cl:=fun l hl n hn=>zny (ze6 _ _) (zj4 h) fun hm=>by
  obtain⟨f,hf,e⟩:=List.mem_map.1 hm
  refine List.mem_map.2 ⟨f,?_,e⟩
  rw[← List.take_append_drop j d.frags] at hf
  rcases List.mem_append.1 hf with hf|hf
  ·exact List.mem_append_right _ hf
  ·exact zaJ _ hf
 us:=fun f hf=>by
  obtain⟨o,ho,h1⟩:=zrB (zqm h) ((ze6 d.frags j).mem hf)
  refine⟨o,?_,h1⟩
  rw[← List.take_append_drop k d.ops] at ho
  rcases List.mem_append.1 ho with ho|ho
  ·exact List.mem_append_right _ ho
  ·exact zaJ _ ho
theorem zlw {s:SchD} {a d:DocD} (V:PartV a d) (hsw:zcA s) (hdw:zdF d) (hsb:zJ s≤1048576) (hdb:zv d≤1048575) (hl:Zv s d=true) (h:Zy s d=0):zi Tryz.prog 9 [.agg (zq s),.agg (zT a)] (.int .i64 0):=by
 have hb:=zl8 V
 have:=zgv s a ⟨hsw,zuX V hdw,hsb,by omega,zkc V hl⟩
 rwa [zpt V s hl (by simp only[Lim];omega) h] at this
def YV:SchD:=⟨[⟨1,[81],[],[⟨[97],[],⟨[73,110,116],0,0⟩,[]⟩],[],[]⟩],[81],[]⟩
def zez:SchD:=⟨[],[],[]⟩
def zgQ (n:List UInt8):DocD:=⟨[⟨0,[],[],[],[.mk 0 [] n [] [] [] []]⟩],[]⟩
def ziY:DocD:=zgQ [110,111,116,104,101,114,101]
def zf6:DocD:=zgQ [97]
theorem ztG:Zy YV ziY=9:=by decide +kernel
theorem ztE:Zy YV zf6=0:=by decide +kernel
theorem ztL:Zy zez zf6=25:=by decide +kernel
theorem ztV:ZM YV zf6 24=true:=by decide +kernel
theorem zuc:ZM YV zf6 25=false:=by decide +kernel
theorem zsI:zcA YV:=by
 intro x hx
 simp only[YV,List.mem_singleton] at hx
 subst hx
 refine⟨fun y hy=>?_,fun y hy=>(nomatch hy)⟩
 simp only[List.mem_singleton] at hy
 subst hy
 exact⟨fun y hy=>(nomatch hy),by simp[inR],by simp[inR],fun y hy=>(nomatch hy)⟩
theorem zt0:zcA zez:=fun x hx=>nomatch hx
theorem zoE (n:List UInt8):zdF (zgQ n):=by
 refine⟨fun x hx=>?_,fun x hx=>(nomatch hx)⟩
 simp only[zgQ,List.mem_singleton] at hx
 subst hx
 exact⟨fun y hy=>(nomatch hy),fun y hy=>(nomatch hy),⟨trivial,fun y hy=>(nomatch hy),trivial⟩,trivial⟩
theorem zsX:ValH YV ziY:=⟨zsI,zoE _,by decide,by decide,by decide +kernel⟩
theorem zlj:ValH YV zf6:=⟨zsI,zoE _,by decide,by decide,by decide +kernel⟩
theorem ztb:ValH zez zf6:=⟨zt0,zoE _,by decide,by decide,by decide +kernel⟩
theorem zrW:zq YV=[.sl .no 6 [[.int .i64 1,.str [81],.sl .no 1 [],.sl .no 6 [[.str [97],.sl .no 10 [],.str [73,110,116],.int .i64 0,.int .i64 0,.sl .no 2 []]],.sl .no 1 [],.sl .no 10 []]],.str [81],.str []]:=by rfl
theorem zu4:zq zez=[.sl .no 6 [],.str [],.str []]:=by rfl
theorem zs9 (n:List UInt8):zT (zgQ n)=[.sl .no 5 [[.int .i64 0,.str [],.sl .no 10 [],.sl .no 2 [],.sl .no 7 [[.int .i64 0,.str [],.str n,.sl .no 6 [],.sl .no 2 [],.str [],.sl .no 7 []]]]],.sl .no 4 []]:=by rfl
theorem zqP:zi Tryz.prog 16 [] (.agg (zq YV)):=by
 rw[zrW]
 refine zi.go ir16 ck16 (Al4 _) fun KP Q hQ=>?_
 simp(disch:=omega) only[ir16,go_sem]
 refine zb fun b0 hb0=>?_
 simp(disch:=omega) only[go_sem]
 exact hQ _ _ _ [.agg [.sl .full 6 [[.int .i64 1,.str [81],.sl .no 1 [],.sl .no 6 [[.str [97],.sl .no 10 [],.str [73,110,116],.int .i64 0,.int .i64 0,.sl .no 2 []]],.sl .no 1 [],.sl .no 10 []]],.str [81],.str []]] nofun (by simp(disch:=omega) only[ir16,zL,Zt,go_sem]) rfl
theorem zpF:zi Tryz.prog 7 [] (.bool true):=by
 have hw:=zqP
 have h1:=zgv YV ziY zsX
 have h2:=zgv YV zf6 zlj
 have h3:=zgv zez zf6 ztb
 have h4:=ztg YV zf6 24 zlj
 have h5:=ztg YV zf6 25 zlj
 rw[ztG] at h1
 rw[ztE] at h2
 rw[ztL] at h3
 rw[ztV] at h4
 rw[zuc] at h5
 rw[ziY,zrW,zs9] at h1
 rw[zf6,zrW,zs9] at h2 h4 h5
 rw[zf6,zu4,zs9] at h3
 rw[zrW] at hw
 refine zi.go ir7 ck7 (Al4 _) fun KP Q hQ=>?_
 simp(disch:=omega) only[ir7,go_sem]
 refine zb fun b1 hb1=>?_
 simp(disch:=omega) only[go_sem]
 refine zb fun b2 hb2=>?_
 have hne:b1≠b2:=fun e=>by subst e;simp[zc.upd] at hb2
 simp(disch:=omega) only[hne,Ne.symm hne,go_sem]
 refine za hw ?_
 simp(disch:=omega) only[hne,Ne.symm hne,go_sem]
 refine za (zi.low h1) ?_
 simp(disch:=omega) only[hne,Ne.symm hne,go_sem]
 refine za hw ?_
 simp(disch:=omega) only[hne,Ne.symm hne,go_sem]
 refine za (zi.low h2) ?_
 simp(disch:=omega) only[hne,Ne.symm hne,go_sem]
 refine za (zi.low h3) ?_
 simp(disch:=omega) only[hne,Ne.symm hne,go_sem]
 refine za hw ?_
 simp(disch:=omega) only[hne,Ne.symm hne,go_sem]
 refine za (zi.low h4) ?_
 simp(disch:=omega) only[hne,Ne.symm hne,go_sem]
 refine za hw ?_
 simp(disch:=omega) only[hne,Ne.symm hne,go_sem]
 refine za (zi.low h5) ?_
 simp(disch:=omega) only[go_sem]
 exact hQ _ _ _ _ nofun rfl (by simp[zd,ze,AV.strip,AV.strip1])
theorem zuV (L:Nat) (h:0<L) (hL:L≤1099511627776) (n:Int):∃ k:Nat,k<L∧IntKind.wrap .u64 (L:Int)=L∧(IntKind.wrap .u64 n).tmod (L:Int)=k∧IntKind.wrap .i64 (k:Int)=k:=by
 have h1:IntKind.wrap .u64 (L:Int)=L:=by simp only[IntKind.wrap,IntKind.bits,IntKind.signed];simp;omega
 have h2:0≤IntKind.wrap .u64 n:=by simp only[IntKind.wrap,IntKind.bits,IntKind.signed];simp;omega
 have h3:=Int.tmod_nonneg (L:Int) h2
 have h4:=Int.tmod_lt_of_pos (IntKind.wrap .u64 n) (show (0:Int)<L by omega)
 refine⟨((IntKind.wrap .u64 n).tmod (L:Int)).toNat,by omega,h1,by omega,?_⟩
 rw[wrap64]<;>omega
theorem zi7 (s:SchD) (d:DocD) (n:Int) (hsw:zcA s) (hdw:zdF d) (hsb:zJ s≤1048576) (hdb:zv d≤1048575):zi Tryz.prog 4 [.agg (zq s),.agg (zT d),.int .i64 n] (.bool true):=by
 have hL:=zqp s d hsb hdb
 have hA:=zpF
 have hC:=fun h=>zgv s d ⟨hsw,hdw,hsb,hdb,h⟩
 have hcp:=zsa d (by omega)
 have hV:Zv s d=true→Zy s d=0→0<d.ops.length∧∀ k j,zi Tryz.prog 9 [.agg (zq s),.agg [.sl .no 5 (cOs (d.ops.drop k++d.ops.take k)),.sl .no 4 (cFs (d.frags.drop j++d.frags.take j))]] (.int .i64 0) :=
  fun hl h=>⟨zhC h,fun k j=>zlw (znE h k j) hsw hdw hsb hdb hl h⟩
 generalize Zv s d=lt at *
 generalize Zy s d=C at *
 obtain⟨ops,frags⟩:=d
 have hcd:zT ⟨ops,frags⟩=[.sl .no 5 (cOs ops),.sl .no 4 (cFs frags)]:=rfl
 have hcs:zq s=[.sl .no 6 (cEs s.defs),.str s.q,.str s.m]:=rfl
 simp only[hcs,hcd] at hL hC hcp hV ⊢
 have hlo:=Zx ops
 have hlf:=ZL frags
 refine zi.go ir4 ck4 (Al4 _) fun KP Q hQ=>?_
 simp(disch:=first|omega|assumption) only[ir4,go_sem]
 refine za hL ?_
 cases lt with
 | false =>
  simp(disch:=first|omega|assumption) only[go_sem]
  refine za hA ?_
  simp(disch:=first|omega|assumption) only[go_sem]
  exact hQ _ _ _ _ nofun rfl (by simp[zd,ze,AV.strip,AV.strip1])
 | true =>
 replace hC:=hC rfl
 simp(disch:=first|omega|assumption) only[go_sem]
 refine za hC ?_
 by_cases hc:C=0
 case neg =>
  simp(disch:=first|omega|assumption) only[hc,go_sem]
  refine za hA ?_
  simp(disch:=first|omega|assumption) only[go_sem]
  exact hQ _ _ _ _ nofun rfl (by simp[zd,ze,AV.strip,AV.strip1])
 subst hc
 obtain⟨h1,hV⟩:=hV rfl rfl
 have hbo:ops.length≤1048575:=by have:=Zi ops;simp only[zv] at hdb;omega
 have hbf:frags.length≤1048575:=by have:=yD frags;simp only[zv] at hdb;omega
 obtain⟨k,hk,k1,k2,k3⟩:=zuV ops.length h1 (by omega) n
 have hk':(k:Int)≤ops.length:=by omega
 have hk0:¬ ((ops.length:Int)=0):=by omega
 simp(disch:=first|omega|assumption) only[go_sem]
 refine za hcp ?_
 simp(disch:=first|omega|assumption) only[go_sem]
 refine zb fun b7 hb7=>?_
 simp(disch:=first|omega|assumption) only[go_sem]
 have h1i:(0:Int)<(ops.length:Int):=by omega
 have h1i':=eq_true h1i
 simp(disch:=first|omega|assumption) only[hlo,h1,h1i',k1,k2,k3,hk0,hk',go_sem]
 have eD:∀ j,List.drop j (cOs ops)=cOs (ops.drop j):=fun j=>by simp[cOs]
 have eT:∀ j,List.take j (cOs ops)=cOs (ops.take j):=fun j=>by simp[cOs]
 have eL:ops.take ops.length=ops:=List.take_length
 have hld:(cOs (ops.drop k)).length≤1048575:=by rw[Zx,zdX];omega
 have hlt:(cOs (ops.take k)).length≤1048575:=by rw[Zx,List.length_take];omega
 refine zt (o:=.nil) rfl (by simp only[eT,eL,eD,Al3];omega) (by simp only[eT,eL,eD,Al3,maxLen];omega) fun o1 H1 hs1=>?_
 simp only[eT,eL,eD,Al3,Nat.zero_add] at hs1
 have g1:=hs1.kept b7 _ (upd_same ..) nofun
 simp(disch:=first|omega|assumption) only[zbT,eT,eL,eD,zhS,go_sem]
 refine zt (o:=o1) hs1.own (by omega) (by simp only[maxLen];omega) fun o2 H2 hs2=>?_
 have g2:=YI hs1.own g1 hs2.kept
 rw[zhS,← Al5] at *
 have eA:cOs (ops.drop k)++cOs (ops.take k)=cOs (ops.drop k++ops.take k):=by simp[cOs]
 simp(disch:=first|omega|assumption) only[eA,g2,go_sem]
 by_cases h2:0<frags.length
 case neg =>
  have hf:frags=[]:=zfH.1 (by omega)
  subst hf
  have hV:=hV k 0
  simp only[List.drop_nil,List.take_nil,List.append_nil] at hV
  simp(disch:=first|omega|assumption) only[hlf,go_sem]
  refine za (zi.low (show zi _ _ _ (.int .i64 0) from hV)) ?_
  simp(disch:=first|omega|assumption) only[go_sem]
  refine za hA ?_
  simp(disch:=first|omega|assumption) only[go_sem]
  exact hQ _ _ _ _ nofun rfl (by simp[zd,ze,AV.strip,AV.strip1])
 have h2i':=eq_true (show (0:Int)<(frags.length:Int) by omega)
 obtain⟨j,hj,j1,j2,j3⟩:=zuV frags.length h2 (by omega) n
 have hj':(j:Int)≤frags.length:=by omega
 have hj0:¬ ((frags.length:Int)=0):=by omega
 have hV:=hV k j
 simp(disch:=first|omega|assumption) only[hlf,h2,h2i',j1,j2,j3,hj0,hj',go_sem]
 have fD:∀ j,List.drop j (cFs frags)=cFs (frags.drop j):=fun j=>by simp[cFs]
 have fT:∀ j,List.take j (cFs frags)=cFs (frags.take j):=fun j=>by simp[cFs]
 have fL:frags.take frags.length=frags:=List.take_length
 have hfd:(cFs (frags.drop j)).length≤1048575:=by rw[ZL,zdX];omega
 have hft:(cFs (frags.take j)).length≤1048575:=by rw[ZL,List.length_take];omega
 refine zt (o:=.nil) rfl (by simp only[fT,fL,fD,Al3];omega) (by simp only[fT,fL,fD,Al3,maxLen];omega) fun o3 H3 hs3=>?_
 simp only[fT,fL,fD,Al3,Nat.zero_add] at hs3
 have g3:=hs3.kept b7 _ (upd_same ..) nofun
 simp(disch:=first|omega|assumption) only[zbT,fT,fL,fD,zig,go_sem]
 refine zt (o:=o3) hs3.own (by omega) (by simp only[maxLen];omega) fun o4 H4 hs4=>?_
 have g4:=YI hs3.own g3 hs4.kept
 rw[zig,← Al5] at *
 have fA:cFs (frags.drop j)++cFs (frags.take j)=cFs (frags.drop j++frags.take j):=by simp[cFs]
 simp(disch:=first|omega|assumption) only[fA,g4,go_sem]
 refine za (zi.low (show zi _ _ _ (.int .i64 0) from hV)) ?_
 simp(disch:=first|omega|assumption) only[go_sem]
 refine za hA ?_
 simp(disch:=first|omega|assumption) only[go_sem]
 exact hQ _ _ _ _ nofun rfl (by simp[zd,ze,AV.strip,AV.strip1])
end Go.Proofs.YtbcocdloklbkjaaGreatDoor
