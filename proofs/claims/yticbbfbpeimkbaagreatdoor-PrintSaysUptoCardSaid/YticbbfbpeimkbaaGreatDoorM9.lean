import Derived.Test.YticbbfbpeimkbaaGreatDoorM1
import Derived.Test.YticbbfbpeimkbaaGreatDoorM2
import Derived.Test.YticbbfbpeimkbaaGreatDoorM3
import Derived.Test.YticbbfbpeimkbaaGreatDoorM4
import Derived.Test.YticbbfbpeimkbaaGreatDoorM5
import Derived.Test.YticbbfbpeimkbaaGreatDoorM6
import Derived.Test.YticbbfbpeimkbaaGreatDoorM7
import Derived.Test.YticbbfbpeimkbaaGreatDoorM8
set_option maxRecDepth 100000
set_option linter.all false
namespace Go.Proofs.YticbbfbpeimkbaaGreatDoor
open Go.Ab
theorem zgd {x:OpD} (h:yi x=true):x.k=0∨x.k=1:=by
 simp only[yi,Al0,zdt,yv] at h;exact h.1
theorem zgh {x:OpD} (h:yi x=true):∀ v∈x.vars,zT v.t=true:=fun v hv=>by
 simp only[yi,Al0] at h
 have:=zaj.1 h.2.2.1 v hv
 simp only[yk,Al0] at this
 exact this.2.1
theorem zdg (l:List VarD):tWd l.length l=tWs l:=by
 unfold tWd tWs
 split
 ·rfl
 ·simp
theorem zW {n:Nat} {done:List VarD} {x:VarD} (h:done.length<n):tWd n (done++[x])=tWd n done++((if done.length=0 then [pk [40]] else [])++(tW x++(if done.length+1=n then [pk [41]] else []))):=by
 unfold tWd
 rw[if_neg (by simp:¬ (done++[x]).length=0)]
 by_cases h0:done.length=0
 ·have:=za7.1 h0
  subst this
  simp
 ·rw[if_neg h0,if_neg (by omega:¬ done.length=n)]
  simp[h0]
theorem zm6 (k:Int) (nm:List UInt8) (vars:List VarD) (dirs:List DirD) (sels:List SelD):cO ⟨k,nm,vars,dirs,sels⟩=[.int .i64 k,.str nm,.sl .no 10 (cWs vars),.sl .no 2 (cDs dirs),.sl .no 7 (cSs sels)]:=rfl
theorem zjJ (d:DocD) (hr:z1 d=true) (hw:YR d):4*(Y1 d).length≤256*Yh d:=Nat.le_trans (zgJ _) (zhY d hr hw)
set_option maxHeartbeats 4000000 in
theorem zhG (d:DocD) (hw:YR d) (hb:128*Yh d+64≤Lim):zo Tryz.prog 28 [.agg (ZN d)] (.tup [.sl .no 2 (cKs (yN d)),.bool (z1 d)]):=by
 refine zo.go ir28 ck28 (Al4 _) fun KP Q hQ=>?_
 have hR:=zjv d (by simp only[Lim] at hb ⊢;omega)
 cases hr:z1 d with
 | false =>
  rw[hr] at hR hQ
  obtain⟨ops,frags⟩:=d
  have ed:ZN ⟨ops,frags⟩=[.sl .no 5 (cOs ops),.sl .no 4 (cFs frags)]:=rfl
  rw[ed] at hR ⊢
  simp(disch:=first|omega|assumption) only[ir28,go_sem]
  refine zc hR ?_
  simp(disch:=first|omega|assumption) only[go_sem]
  exact hQ _ _ _ _ nofun rfl (by simp[ze,zd,AV.strip,AV.strip1,yN,hr,cKs])
 | true =>
  have hdl:=zjJ d hr hw
  rw[hr] at hR hQ
  obtain⟨ops,frags⟩:=d
  obtain⟨hwo,hwf⟩:=hw
  have hlo:=zbx ops
  have hlf:=zbs frags
  have hco:=YT ops
  have hcf:=YP frags
  have hro:ops.all yi=true:=by simp only[z1,Al0] at hr;exact hr.2.1
  have edl:(Y1 ⟨ops,frags⟩).length=(ops.flatMap tO).length+(frags.flatMap tF).length:=by simp only[Y1,Al5]
  have hb':=hb
  simp only[Yh,Lim] at hb' hdl
  rw[edl] at hdl
  have ed:ZN ⟨ops,frags⟩=[.sl .no 5 (cOs ops),.sl .no 4 (cFs frags)]:=rfl
  rw[ed] at hR ⊢
  simp(disch:=first|omega|assumption) only[ir28,go_sem]
  refine zc hR ?_
  simp(disch:=first|omega|assumption) only[go_sem]
  refine zv fun w hw=>?_
  have w0:=VR.refl (zkR (H:=zh.emp) (b:=w))
  generalize zh.emp.upd w (.cells [.sl .nil 2 []])=H0 at w0
  simp(disch:=first|omega|assumption) only[hco,go_sem]
  refine zm ops 5 (fun x:Own=>[]) (fun done rest x H'=>VR H0 .nil w [] (done.flatMap tO) H' x) .nil (by simp(disch:=first|omega|assumption) only[go_sem]) w0 ?_ ?_
  ·rintro o2 H2 J2 w2 hlt2
   simp(disch:=first|omega|assumption) only[hco,hcf,hlt2,go_sem]
   refine zm frags 8 (fun x:Own=>[]) (fun done rest x H'=>VR H0 .nil w [] (ops.flatMap tO++done.flatMap tF) H' x) o2 (by simp(disch:=first|omega|assumption) only[go_sem]) (w2.cast (by simp)) ?_ ?_
   ·rintro o3 H3 J3 w3 hlt3
    have hc:=w3.here.cell
    simp only[zi9] at hc
    simp(disch:=first|omega|assumption) only[hcf,hlt3,hc,go_sem]
    exact hQ _ _ _ _ nofun rfl (by simp[ze,zd,AV.strip,AV.strip1,yN,hr,Y1])
   ·rintro done x rest o3 H3 J3 hd hlt3 hlt4 w3 hJ
    have hg:=zar hd
    have hbm:=zbp done x rest
    rw[← hd] at hbm
    have hfl:(frags.flatMap tF).length=(done.flatMap tF).length+(tF x).length+(rest.flatMap tF).length:=by rw[hd,zad]
    obtain⟨hwd,hws⟩:=hwf x (by rw[hd];simp)
    obtain⟨nm,on,dirs,sels⟩:=x
    simp only[bF] at hbm
    simp only at hwd hws
    have hlx:(tF ⟨nm,on,dirs,sels⟩).length=4+(tDs dirs).length+(tSl sels).length+2:=by simp[tF,tBl];omega
    have ef:cF ⟨nm,on,dirs,sels⟩=[.str nm,.str on,.sl .no 2 (cDs dirs),.sl .no 7 (cSs sels)]:=rfl
    rw[ef] at hg
    simp(disch:=first|omega|assumption) only[hcf,hlt3,hg,go_sem]
    refine zv fun b hb=>?_
    have hbw:b≠w:=fun e=>by subst e;rw[w3.here.cell] at hb;cases hb
    have w4:=w3.alloc (x:=.cells [.str nm,.str on,.sl .no 2 (cDs dirs),.sl .no 7 (cSs sels)]) hb
    have hb4:(H3.upd b (.cells [.str nm,.str on,.sl .no 2 (cDs dirs),.sl .no 7 (cSs sels)])) b=some (.cells [.str nm,.str on,.sl .no 2 (cDs dirs),.sl .no 7 (cSs sels)]):=upd_same ..
    simp(disch:=first|omega|assumption) only[go_sem]
    refine zq (wR [102,114,97,103,109,101,110,116]) w4 (by simp only[Lim,Al2,Al3,Al5];omega) fun o5 H5 w5 s5=>?_
    have hb5:=s5.box w4.here.own hb4 hbw
    simp(disch:=first|omega|assumption) only[hb5,go_sem]
    refine zq (wR nm) w5 (by simp only[Lim,Al2,Al3,Al5];omega) fun o6 H6 w6 s6=>?_
    have hb6:=s6.box w5.here.own hb5 hbw
    simp(disch:=first|omega|assumption) only[hb6,go_sem]
    refine zq (wR [111,110]) w6 (by simp only[Lim,Al2,Al3,Al5];omega) fun o7 H7 w7 s7=>?_
    have hb7:=s7.box w6.here.own hb6 hbw
    simp(disch:=first|omega|assumption) only[hb7,go_sem]
    refine zq (wR on) w7 (by simp only[Lim,Al2,Al3,Al5];omega) fun o8 H8 w8 s8=>?_
    have hb8:=s8.box w7.here.own hb7 hbw
    simp(disch:=first|omega|assumption) only[hb8,go_sem]
    refine zq (YZ dirs hwd (by simp only[Lim];omega)) w8 (by simp only[Lim,Al2,Al3,Al5];omega) fun o9 H9 w9 s9=>?_
    have hb9:=s9.box w8.here.own hb8 hbw
    simp(disch:=first|omega|assumption) only[hb9,go_sem]
    refine zq (pR [123]) w9 (by simp only[Lim,Al2,Al3,Al5];omega) fun oA HA wA sA=>?_
    have hbA:=sA.box w9.here.own hb9 hbw
    simp(disch:=first|omega|assumption) only[hbA,go_sem]
    refine zq (zdT (bSs sels) sels (Al4 _) hws (by simp only[Lim];omega)) wA (by simp only[Lim,Al2,Al3,Al5];omega) fun oB HB wB _=>?_
    simp(disch:=first|omega|assumption) only[go_sem]
    refine zq (pR [125]) wB (by simp only[Lim,Al2,Al3,Al5];omega) fun oC HC wC _=>?_
    simp(disch:=first|omega|assumption) only[wrap64,go_sem]
    exact goJ (hJ oC HC (wC.cast (by simp[tF,tBl]))) (by simp(disch:=first|omega|assumption) only[go_sem])
  ·rintro doneO x restO o2 H2 J2 hd hlt2 hlt4 w2 hJ
   have hg:=zaF hd
   have hbm:=zbn doneO x restO
   rw[← hd] at hbm
   have hmo:x∈ops:=by rw[hd];simp
   have hrx:=zaj.1 hro x hmo
   have hflO:(ops.flatMap tO).length=(doneO.flatMap tO).length+(tO x).length+(restO.flatMap tO).length:=by rw[hd,zad]
   obtain⟨hwv,hwd,hws⟩:=hwo x hmo
   have hkd:=zgd hrx
   have hvt:=zgh hrx
   obtain⟨tokD,htokD0⟩:∃ t,t=doneO.flatMap tO:=⟨_,rfl⟩
   have htokD:(doneO++[x]).flatMap tO=tokD++tO x:=by rw[htokD0];simp
   rw[← htokD0] at w2 hflO
   obtain⟨k,nm,vars,dirs,sels⟩:=x
   simp only[bO] at hbm
   simp only at hwv hwd hws hkd hvt
   have hcw:=zaz vars
   have hwl:=zbt vars
   obtain⟨T3,hT3⟩:∃ T3,T3=(wk (if k=0 then [113,117,101,114,121] else [109,117,116,97,116,105,111,110])::(if nm=[] then [] else [wk nm])):=⟨_,rfl⟩
   have eT:tO ⟨k,nm,vars,dirs,sels⟩=T3++(tWs vars++(tDs dirs++tBl sels)):=by rw[hT3];simp[tO]
   have hlop:(tO ⟨k,nm,vars,dirs,sels⟩).length=T3.length+(tWs vars).length+(tDs dirs).length+(tSl sels).length+2:=by rw[eT];simp[tBl];omega
   have hT3l:1≤T3.length:=by rw[hT3];simp
   rw[hlop] at hflO
   rw[zm6] at hg
   simp(disch:=first|omega|assumption) only[hco,hlt2,hg,go_sem]
   refine zv fun b hb=>?_
   have hbw:b≠w:=fun e=>by subst e;rw[w2.here.cell] at hb;cases hb
   have w4:=w2.alloc (x:=.cells [.int .i64 k,.str nm,.sl .no 10 (cWs vars),.sl .no 2 (cDs dirs),.sl .no 7 (cSs sels)]) hb
   have hb4:(H2.upd b (.cells [.int .i64 k,.str nm,.sl .no 10 (cWs vars),.sl .no 2 (cDs dirs),.sl .no 7 (cSs sels)])) b=some (.cells [.int .i64 k,.str nm,.sl .no 10 (cWs vars),.sl .no 2 (cDs dirs),.sl .no 7 (cSs sels)]):=upd_same ..
   have hlop:=hflO
   rcases hkd with hk|hk
   ·subst hk
    simp(disch:=first|omega|assumption) only[go_sem]
    refine zq (wR [113,117,101,114,121]) w4 (by simp only[Lim,Al2,Al3,Al5];omega) fun o1 H1 w1 s1=>?_
    have hb1:=s1.box w4.here.own hb4 hbw
    by_cases hnm:nm=[]
    ·subst hnm
     have w3:=w1.cast (tk':=tokD++T3) (by rw[hT3];simp)
     have hb3:=hb1
     simp(disch:=first|omega|assumption) only[hb1,hcw,go_sem]
     refine zm vars 7 (fun x:Own=>[]) (fun done rest x H'=>VR H0 .nil w [] (tokD++T3++tWd vars.length done) H' x∧H' b=some (.cells [.int .i64 0,.str [],.sl .no 10 (cWs vars),.sl .no 2 (cDs dirs),.sl .no 7 (cSs sels)])) o1 (by simp(disch:=first|omega|assumption) only[go_sem]) ⟨w3.cast (by simp[tWd]),hb3⟩ ?_ ?_
     case refine_1 =>
      rintro o5 H5 J5 ⟨w5,hb5⟩ hlt5
      rw[zdg] at w5
      simp(disch:=first|omega|assumption) only[hcw,hlt5,hb5,go_sem]
      refine zq (YZ dirs hwd (by simp only[Lim];omega)) w5 (by simp only[Lim,Al2,Al3,Al5];omega) fun o6 H6 w6 s6=>?_
      have hb6:=s6.box w5.here.own hb5 hbw
      simp(disch:=first|omega|assumption) only[hb6,go_sem]
      refine zq (pR [123]) w6 (by simp only[Lim,Al2,Al3,Al5];omega) fun o7 H7 w7 s7=>?_
      have hb7:=s7.box w6.here.own hb6 hbw
      simp(disch:=first|omega|assumption) only[hb7,go_sem]
      refine zq (zdT (bSs sels) sels (Al4 _) hws (by simp only[Lim];omega)) w7 (by simp only[Lim,Al2,Al3,Al5];omega) fun o8 H8 w8 _=>?_
      simp(disch:=first|omega|assumption) only[go_sem]
      refine zq (pR [125]) w8 (by simp only[Lim,Al2,Al3,Al5];omega) fun o9 H9 w9 _=>?_
      simp(disch:=first|omega|assumption) only[wrap64,go_sem]
      exact goJ (hJ o9 H9 (w9.cast (by rw[htokD,eT];simp[tBl]))) (by simp(disch:=first|omega|assumption) only[go_sem])
     case refine_2 =>
      rintro done x rest2 o5 H5 J2 hd2 hlt5 hlt6 ⟨w5,hb5⟩ hJ2
      have hg2:=yX hd2
      have hbw2:=y7 done x rest2
      rw[← hd2] at hbw2
      have hmx:x∈vars:=by rw[hd2];simp
      have hwvd:wfV x.d:=(hwv x hmx).2.2
      have hty:=hvt x hmx
      have hfl:(vars.flatMap tW).length=(done.flatMap tW).length+(tW x).length+(rest2.flatMap tW).length:=by rw[hd2,zad]
      have hvne:vars.length≠0:=by omega
      have hlw:(tWs vars).length=(vars.flatMap tW).length+2:=by rw[zca vars hvne];simp
      have hle:(tWd vars.length done).length≤(done.flatMap tW).length+1:=by
       unfold tWd
       rw[if_neg (by omega:¬ done.length=vars.length)]
       split<;>simp
      obtain⟨vn,⟨tn,tl,tm⟩,vh,vd⟩:=x
      simp only at hwvd hty
      have hbx:bW ⟨vn,⟨tn,tl,tm⟩,vh,vd⟩=vn.length+tn.length+bV vd:=rfl
      have hlx:(tW ⟨vn,⟨tn,tl,tm⟩,vh,vd⟩).length=3+(tTy ⟨tn,tl,tm⟩).length+(tDf vh vd).length:=by simp[tW];omega
      rw[Ye] at hg2
      simp only at hg2
      rw[hlw,hfl] at hlop
      by_cases hd0:done.length=0
      case pos =>
       have hd1:((done.length:Int)=0)=True:=eq_true (by omega)
       have hdn:=za7.1 hd0
       simp(disch:=first|omega|assumption) only[hcw,hlt5,hb5,hd1,go_sem]
       refine zq (pR [40]) w5 (by simp only[Lim,Al2,Al3,Al5];omega) fun oA HA wA sA=>?_
       have hbA:=sA.box w5.here.own hb5 hbw
       simp(disch:=first|omega|assumption) only[go_sem]
       refine zq (pR [36]) wA (by simp only[Lim,Al2,Al3,Al5];omega) fun oB HB wB sB=>?_
       have hbB:=sB.box wA.here.own hbA hbw
       simp(disch:=first|omega|assumption) only[zi,zf,zb,zj,zg,za,zk,hcw,hbB,hg2,go_sem]
       refine zq (wR vn) wB (by simp only[Lim,Al2,Al3,Al5];omega) fun oC HC wC sC=>?_
       have hbC:=sC.box wB.here.own hbB hbw
       simp(disch:=first|omega|assumption) only[zi,zf,zb,zj,zg,za,zk,hcw,hbC,hg2,go_sem]
       refine zq (pR [58]) wC (by simp only[Lim,Al2,Al3,Al5];omega) fun oD HD wD sD=>?_
       have hbD:=sD.box wC.here.own hbC hbw
       simp(disch:=first|omega|assumption) only[zi,zf,zb,zj,zg,za,zk,hcw,hbD,hg2,go_sem]
       refine zq (show VC _ [.agg [.str tn,.int .i64 tl,.int .i64 tm]] (tTy ⟨tn,tl,tm⟩) from tyR ⟨tn,tl,tm⟩ hty) wD (by simp only[Lim,Al2,Al3,Al5];omega) fun oF HF wF sF=>?_
       have hbF:=sF.box wD.here.own hbD hbw
       cases vh with
       | false =>
        have hhas:True:=trivial
        have wZ:=wF
        have hbZ:=hbF
        simp(disch:=first|omega|assumption) only[zi,zf,zb,zj,zg,za,zk,hcw,hbF,hg2,go_sem]
        by_cases hlast:done.length+1=vars.length
        case pos =>
         have hl1:((done.length:Int)=(vars.length:Int)-1)=True:=eq_true (by omega)
         have wl:IntKind.wrap .i64 ((vars.length:Int)-1)=(vars.length:Int)-1:=wrap64 (by omega) (by omega)
         simp(disch:=first|omega|assumption) only[zi,zf,zb,zj,zg,za,zk,hcw,hbZ,hg2,wl,hl1,go_sem]
         refine zq (pR [41]) wZ (by simp only[Lim,Al2,Al3,Al5];omega) fun oE HE wE sE=>?_
         have hbE:=sE.box wZ.here.own hbZ hbw
         simp(disch:=first|omega|assumption) only[wrap64,go_sem]
         exact goJ (hJ2 oE HE ⟨wE.cast (by rw[zW hlt6,if_pos hlast];simp[tW,tDf,hd0]),hbE⟩) (by simp(disch:=first|omega|assumption) only[go_sem])
        case neg =>
         have hl1:¬ ((done.length:Int)=(vars.length:Int)-1):=by omega
         have wl:IntKind.wrap .i64 ((vars.length:Int)-1)=(vars.length:Int)-1:=wrap64 (by omega) (by omega)
         simp(disch:=first|omega|assumption) only[zi,zf,zb,zj,zg,za,zk,hcw,hbZ,hg2,wl,hl1,wrap64,go_sem]
         exact goJ (hJ2 oF HF ⟨wZ.cast (by rw[zW hlt6,if_neg hlast];simp[tW,tDf,hd0]),hbZ⟩) (by simp(disch:=first|omega|assumption) only[go_sem])
       | true =>
        have hhas:True:=trivial
        simp only[tDf,if_true,Al2] at hlx
        simp(disch:=first|omega|assumption) only[zi,zf,zb,zj,zg,za,zk,hcw,hbF,hg2,go_sem]
        refine zq (pR [61]) wF (by simp only[Lim,Al2,Al3,Al5];omega) fun oG HG wG sG=>?_
        have hbG:=sG.box wF.here.own hbF hbw
        simp(disch:=first|omega|assumption) only[zi,zf,zb,zj,zg,za,zk,hcw,hbG,hg2,go_sem]
        refine zq (Yp vd hwvd (by simp only[Lim];omega)) wG (by simp only[Lim,Al2,Al3,Al5];omega) fun oZ HZ wZ sZ=>?_
        have hbZ:=sZ.box wG.here.own hbG hbw
        simp(disch:=first|omega|assumption) only[zi,zf,zb,zj,zg,za,zk,hcw,hbZ,hg2,go_sem]
        by_cases hlast:done.length+1=vars.length
        case pos =>
         have hl1:((done.length:Int)=(vars.length:Int)-1)=True:=eq_true (by omega)
         have wl:IntKind.wrap .i64 ((vars.length:Int)-1)=(vars.length:Int)-1:=wrap64 (by omega) (by omega)
         simp(disch:=first|omega|assumption) only[zi,zf,zb,zj,zg,za,zk,hcw,hbZ,hg2,wl,hl1,go_sem]
         refine zq (pR [41]) wZ (by simp only[Lim,Al2,Al3,Al5];omega) fun oE HE wE sE=>?_
         have hbE:=sE.box wZ.here.own hbZ hbw
         simp(disch:=first|omega|assumption) only[wrap64,go_sem]
         exact goJ (hJ2 oE HE ⟨wE.cast (by rw[zW hlt6,if_pos hlast];simp[tW,tDf,hd0]),hbE⟩) (by simp(disch:=first|omega|assumption) only[go_sem])
        case neg =>
         have hl1:¬ ((done.length:Int)=(vars.length:Int)-1):=by omega
         have wl:IntKind.wrap .i64 ((vars.length:Int)-1)=(vars.length:Int)-1:=wrap64 (by omega) (by omega)
         simp(disch:=first|omega|assumption) only[zi,zf,zb,zj,zg,za,zk,hcw,hbZ,hg2,wl,hl1,wrap64,go_sem]
         exact goJ (hJ2 oZ HZ ⟨wZ.cast (by rw[zW hlt6,if_neg hlast];simp[tW,tDf,hd0]),hbZ⟩) (by simp(disch:=first|omega|assumption) only[go_sem])
      case neg =>
       have hd1:¬ ((done.length:Int)=0):=by omega
       have wA:=w5
       have hbA:=hb5
       simp(disch:=first|omega|assumption) only[hcw,hlt5,hb5,hd1,go_sem]
       refine zq (pR [36]) wA (by simp only[Lim,Al2,Al3,Al5];omega) fun oB HB wB sB=>?_
       have hbB:=sB.box wA.here.own hbA hbw
       simp(disch:=first|omega|assumption) only[zi,zf,zb,zj,zg,za,zk,hcw,hbB,hg2,go_sem]
       refine zq (wR vn) wB (by simp only[Lim,Al2,Al3,Al5];omega) fun oC HC wC sC=>?_
       have hbC:=sC.box wB.here.own hbB hbw
       simp(disch:=first|omega|assumption) only[zi,zf,zb,zj,zg,za,zk,hcw,hbC,hg2,go_sem]
       refine zq (pR [58]) wC (by simp only[Lim,Al2,Al3,Al5];omega) fun oD HD wD sD=>?_
       have hbD:=sD.box wC.here.own hbC hbw
       simp(disch:=first|omega|assumption) only[zi,zf,zb,zj,zg,za,zk,hcw,hbD,hg2,go_sem]
       refine zq (show VC _ [.agg [.str tn,.int .i64 tl,.int .i64 tm]] (tTy ⟨tn,tl,tm⟩) from tyR ⟨tn,tl,tm⟩ hty) wD (by simp only[Lim,Al2,Al3,Al5];omega) fun oF HF wF sF=>?_
       have hbF:=sF.box wD.here.own hbD hbw
       cases vh with
       | false =>
        have hhas:True:=trivial
        have wZ:=wF
        have hbZ:=hbF
        simp(disch:=first|omega|assumption) only[zi,zf,zb,zj,zg,za,zk,hcw,hbF,hg2,go_sem]
        by_cases hlast:done.length+1=vars.length
        case pos =>
         have hl1:((done.length:Int)=(vars.length:Int)-1)=True:=eq_true (by omega)
         have wl:IntKind.wrap .i64 ((vars.length:Int)-1)=(vars.length:Int)-1:=wrap64 (by omega) (by omega)
         simp(disch:=first|omega|assumption) only[zi,zf,zb,zj,zg,za,zk,hcw,hbZ,hg2,wl,hl1,go_sem]
         refine zq (pR [41]) wZ (by simp only[Lim,Al2,Al3,Al5];omega) fun oE HE wE sE=>?_
         have hbE:=sE.box wZ.here.own hbZ hbw
         simp(disch:=first|omega|assumption) only[wrap64,go_sem]
         exact goJ (hJ2 oE HE ⟨wE.cast (by rw[zW hlt6,if_pos hlast];simp[tW,tDf,hd0]),hbE⟩) (by simp(disch:=first|omega|assumption) only[go_sem])
        case neg =>
         have hl1:¬ ((done.length:Int)=(vars.length:Int)-1):=by omega
         have wl:IntKind.wrap .i64 ((vars.length:Int)-1)=(vars.length:Int)-1:=wrap64 (by omega) (by omega)
         simp(disch:=first|omega|assumption) only[zi,zf,zb,zj,zg,za,zk,hcw,hbZ,hg2,wl,hl1,wrap64,go_sem]
         exact goJ (hJ2 oF HF ⟨wZ.cast (by rw[zW hlt6,if_neg hlast];simp[tW,tDf,hd0]),hbZ⟩) (by simp(disch:=first|omega|assumption) only[go_sem])
       | true =>
        have hhas:True:=trivial
        simp only[tDf,if_true,Al2] at hlx
        simp(disch:=first|omega|assumption) only[zi,zf,zb,zj,zg,za,zk,hcw,hbF,hg2,go_sem]
        refine zq (pR [61]) wF (by simp only[Lim,Al2,Al3,Al5];omega) fun oG HG wG sG=>?_
        have hbG:=sG.box wF.here.own hbF hbw
        simp(disch:=first|omega|assumption) only[zi,zf,zb,zj,zg,za,zk,hcw,hbG,hg2,go_sem]
        refine zq (Yp vd hwvd (by simp only[Lim];omega)) wG (by simp only[Lim,Al2,Al3,Al5];omega) fun oZ HZ wZ sZ=>?_
        have hbZ:=sZ.box wG.here.own hbG hbw
        simp(disch:=first|omega|assumption) only[zi,zf,zb,zj,zg,za,zk,hcw,hbZ,hg2,go_sem]
        by_cases hlast:done.length+1=vars.length
        case pos =>
         have hl1:((done.length:Int)=(vars.length:Int)-1)=True:=eq_true (by omega)
         have wl:IntKind.wrap .i64 ((vars.length:Int)-1)=(vars.length:Int)-1:=wrap64 (by omega) (by omega)
         simp(disch:=first|omega|assumption) only[zi,zf,zb,zj,zg,za,zk,hcw,hbZ,hg2,wl,hl1,go_sem]
         refine zq (pR [41]) wZ (by simp only[Lim,Al2,Al3,Al5];omega) fun oE HE wE sE=>?_
         have hbE:=sE.box wZ.here.own hbZ hbw
         simp(disch:=first|omega|assumption) only[wrap64,go_sem]
         exact goJ (hJ2 oE HE ⟨wE.cast (by rw[zW hlt6,if_pos hlast];simp[tW,tDf,hd0]),hbE⟩) (by simp(disch:=first|omega|assumption) only[go_sem])
        case neg =>
         have hl1:¬ ((done.length:Int)=(vars.length:Int)-1):=by omega
         have wl:IntKind.wrap .i64 ((vars.length:Int)-1)=(vars.length:Int)-1:=wrap64 (by omega) (by omega)
         simp(disch:=first|omega|assumption) only[zi,zf,zb,zj,zg,za,zk,hcw,hbZ,hg2,wl,hl1,wrap64,go_sem]
         exact goJ (hJ2 oZ HZ ⟨wZ.cast (by rw[zW hlt6,if_neg hlast];simp[tW,tDf,hd0]),hbZ⟩) (by simp(disch:=first|omega|assumption) only[go_sem])
    ·simp(disch:=first|omega|assumption) only[hb1,hnm,go_sem]
     refine zq (wR nm) w1 (by rw[hT3,if_neg hnm] at hlop;simp only[Lim,Al2,Al3,Al5] at hlop ⊢;omega) fun o3 H3 w3' s3=>?_
     have w3:=w3'.cast (tk':=tokD++T3) (by rw[hT3];simp[hnm])
     have hb3:=s3.box w1.here.own hb1 hbw
     simp(disch:=first|omega|assumption) only[hb3,hcw,go_sem]
     refine zm vars 7 (fun x:Own=>[]) (fun done rest x H'=>VR H0 .nil w [] (tokD++T3++tWd vars.length done) H' x∧H' b=some (.cells [.int .i64 0,.str nm,.sl .no 10 (cWs vars),.sl .no 2 (cDs dirs),.sl .no 7 (cSs sels)])) o3 (by simp(disch:=first|omega|assumption) only[go_sem]) ⟨w3.cast (by simp[tWd]),hb3⟩ ?_ ?_
     case refine_1 =>
      rintro o5 H5 J5 ⟨w5,hb5⟩ hlt5
      rw[zdg] at w5
      simp(disch:=first|omega|assumption) only[hcw,hlt5,hb5,go_sem]
      refine zq (YZ dirs hwd (by simp only[Lim];omega)) w5 (by simp only[Lim,Al2,Al3,Al5];omega) fun o6 H6 w6 s6=>?_
      have hb6:=s6.box w5.here.own hb5 hbw
      simp(disch:=first|omega|assumption) only[hb6,go_sem]
      refine zq (pR [123]) w6 (by simp only[Lim,Al2,Al3,Al5];omega) fun o7 H7 w7 s7=>?_
      have hb7:=s7.box w6.here.own hb6 hbw
      simp(disch:=first|omega|assumption) only[hb7,go_sem]
      refine zq (zdT (bSs sels) sels (Al4 _) hws (by simp only[Lim];omega)) w7 (by simp only[Lim,Al2,Al3,Al5];omega) fun o8 H8 w8 _=>?_
      simp(disch:=first|omega|assumption) only[go_sem]
      refine zq (pR [125]) w8 (by simp only[Lim,Al2,Al3,Al5];omega) fun o9 H9 w9 _=>?_
      simp(disch:=first|omega|assumption) only[wrap64,go_sem]
      exact goJ (hJ o9 H9 (w9.cast (by rw[htokD,eT];simp[tBl]))) (by simp(disch:=first|omega|assumption) only[go_sem])
     case refine_2 =>
      rintro done x rest2 o5 H5 J2 hd2 hlt5 hlt6 ⟨w5,hb5⟩ hJ2
      have hg2:=yX hd2
      have hbw2:=y7 done x rest2
      rw[← hd2] at hbw2
      have hmx:x∈vars:=by rw[hd2];simp
      have hwvd:wfV x.d:=(hwv x hmx).2.2
      have hty:=hvt x hmx
      have hfl:(vars.flatMap tW).length=(done.flatMap tW).length+(tW x).length+(rest2.flatMap tW).length:=by rw[hd2,zad]
      have hvne:vars.length≠0:=by omega
      have hlw:(tWs vars).length=(vars.flatMap tW).length+2:=by rw[zca vars hvne];simp
      have hle:(tWd vars.length done).length≤(done.flatMap tW).length+1:=by
       unfold tWd
       rw[if_neg (by omega:¬ done.length=vars.length)]
       split<;>simp
      obtain⟨vn,⟨tn,tl,tm⟩,vh,vd⟩:=x
      simp only at hwvd hty
      have hbx:bW ⟨vn,⟨tn,tl,tm⟩,vh,vd⟩=vn.length+tn.length+bV vd:=rfl
      have hlx:(tW ⟨vn,⟨tn,tl,tm⟩,vh,vd⟩).length=3+(tTy ⟨tn,tl,tm⟩).length+(tDf vh vd).length:=by simp[tW];omega
      rw[Ye] at hg2
      simp only at hg2
      rw[hlw,hfl] at hlop
      by_cases hd0:done.length=0
      case pos =>
       have hd1:((done.length:Int)=0)=True:=eq_true (by omega)
       have hdn:=za7.1 hd0
       simp(disch:=first|omega|assumption) only[hcw,hlt5,hb5,hd1,go_sem]
       refine zq (pR [40]) w5 (by simp only[Lim,Al2,Al3,Al5];omega) fun oA HA wA sA=>?_
       have hbA:=sA.box w5.here.own hb5 hbw
       simp(disch:=first|omega|assumption) only[go_sem]
       refine zq (pR [36]) wA (by simp only[Lim,Al2,Al3,Al5];omega) fun oB HB wB sB=>?_
       have hbB:=sB.box wA.here.own hbA hbw
       simp(disch:=first|omega|assumption) only[zi,zf,zb,zj,zg,za,zk,hcw,hbB,hg2,go_sem]
       refine zq (wR vn) wB (by simp only[Lim,Al2,Al3,Al5];omega) fun oC HC wC sC=>?_
       have hbC:=sC.box wB.here.own hbB hbw
       simp(disch:=first|omega|assumption) only[zi,zf,zb,zj,zg,za,zk,hcw,hbC,hg2,go_sem]
       refine zq (pR [58]) wC (by simp only[Lim,Al2,Al3,Al5];omega) fun oD HD wD sD=>?_
       have hbD:=sD.box wC.here.own hbC hbw
       simp(disch:=first|omega|assumption) only[zi,zf,zb,zj,zg,za,zk,hcw,hbD,hg2,go_sem]
       refine zq (show VC _ [.agg [.str tn,.int .i64 tl,.int .i64 tm]] (tTy ⟨tn,tl,tm⟩) from tyR ⟨tn,tl,tm⟩ hty) wD (by simp only[Lim,Al2,Al3,Al5];omega) fun oF HF wF sF=>?_
       have hbF:=sF.box wD.here.own hbD hbw
       cases vh with
       | false =>
        have hhas:True:=trivial
        have wZ:=wF
        have hbZ:=hbF
        simp(disch:=first|omega|assumption) only[zi,zf,zb,zj,zg,za,zk,hcw,hbF,hg2,go_sem]
        by_cases hlast:done.length+1=vars.length
        case pos =>
         have hl1:((done.length:Int)=(vars.length:Int)-1)=True:=eq_true (by omega)
         have wl:IntKind.wrap .i64 ((vars.length:Int)-1)=(vars.length:Int)-1:=wrap64 (by omega) (by omega)
         simp(disch:=first|omega|assumption) only[zi,zf,zb,zj,zg,za,zk,hcw,hbZ,hg2,wl,hl1,go_sem]
         refine zq (pR [41]) wZ (by simp only[Lim,Al2,Al3,Al5];omega) fun oE HE wE sE=>?_
         have hbE:=sE.box wZ.here.own hbZ hbw
         simp(disch:=first|omega|assumption) only[wrap64,go_sem]
         exact goJ (hJ2 oE HE ⟨wE.cast (by rw[zW hlt6,if_pos hlast];simp[tW,tDf,hd0]),hbE⟩) (by simp(disch:=first|omega|assumption) only[go_sem])
        case neg =>
         have hl1:¬ ((done.length:Int)=(vars.length:Int)-1):=by omega
         have wl:IntKind.wrap .i64 ((vars.length:Int)-1)=(vars.length:Int)-1:=wrap64 (by omega) (by omega)
         simp(disch:=first|omega|assumption) only[zi,zf,zb,zj,zg,za,zk,hcw,hbZ,hg2,wl,hl1,wrap64,go_sem]
         exact goJ (hJ2 oF HF ⟨wZ.cast (by rw[zW hlt6,if_neg hlast];simp[tW,tDf,hd0]),hbZ⟩) (by simp(disch:=first|omega|assumption) only[go_sem])
       | true =>
        have hhas:True:=trivial
        simp only[tDf,if_true,Al2] at hlx
        simp(disch:=first|omega|assumption) only[zi,zf,zb,zj,zg,za,zk,hcw,hbF,hg2,go_sem]
        refine zq (pR [61]) wF (by simp only[Lim,Al2,Al3,Al5];omega) fun oG HG wG sG=>?_
        have hbG:=sG.box wF.here.own hbF hbw
        simp(disch:=first|omega|assumption) only[zi,zf,zb,zj,zg,za,zk,hcw,hbG,hg2,go_sem]
        refine zq (Yp vd hwvd (by simp only[Lim];omega)) wG (by simp only[Lim,Al2,Al3,Al5];omega) fun oZ HZ wZ sZ=>?_
        have hbZ:=sZ.box wG.here.own hbG hbw
        simp(disch:=first|omega|assumption) only[zi,zf,zb,zj,zg,za,zk,hcw,hbZ,hg2,go_sem]
        by_cases hlast:done.length+1=vars.length
        case pos =>
         have hl1:((done.length:Int)=(vars.length:Int)-1)=True:=eq_true (by omega)
         have wl:IntKind.wrap .i64 ((vars.length:Int)-1)=(vars.length:Int)-1:=wrap64 (by omega) (by omega)
         simp(disch:=first|omega|assumption) only[zi,zf,zb,zj,zg,za,zk,hcw,hbZ,hg2,wl,hl1,go_sem]
         refine zq (pR [41]) wZ (by simp only[Lim,Al2,Al3,Al5];omega) fun oE HE wE sE=>?_
         have hbE:=sE.box wZ.here.own hbZ hbw
         simp(disch:=first|omega|assumption) only[wrap64,go_sem]
         exact goJ (hJ2 oE HE ⟨wE.cast (by rw[zW hlt6,if_pos hlast];simp[tW,tDf,hd0]),hbE⟩) (by simp(disch:=first|omega|assumption) only[go_sem])
        case neg =>
         have hl1:¬ ((done.length:Int)=(vars.length:Int)-1):=by omega
         have wl:IntKind.wrap .i64 ((vars.length:Int)-1)=(vars.length:Int)-1:=wrap64 (by omega) (by omega)
         simp(disch:=first|omega|assumption) only[zi,zf,zb,zj,zg,za,zk,hcw,hbZ,hg2,wl,hl1,wrap64,go_sem]
         exact goJ (hJ2 oZ HZ ⟨wZ.cast (by rw[zW hlt6,if_neg hlast];simp[tW,tDf,hd0]),hbZ⟩) (by simp(disch:=first|omega|assumption) only[go_sem])
      case neg =>
       have hd1:¬ ((done.length:Int)=0):=by omega
       have wA:=w5
       have hbA:=hb5
       simp(disch:=first|omega|assumption) only[hcw,hlt5,hb5,hd1,go_sem]
       refine zq (pR [36]) wA (by simp only[Lim,Al2,Al3,Al5];omega) fun oB HB wB sB=>?_
       have hbB:=sB.box wA.here.own hbA hbw
       simp(disch:=first|omega|assumption) only[zi,zf,zb,zj,zg,za,zk,hcw,hbB,hg2,go_sem]
       refine zq (wR vn) wB (by simp only[Lim,Al2,Al3,Al5];omega) fun oC HC wC sC=>?_
       have hbC:=sC.box wB.here.own hbB hbw
       simp(disch:=first|omega|assumption) only[zi,zf,zb,zj,zg,za,zk,hcw,hbC,hg2,go_sem]
       refine zq (pR [58]) wC (by simp only[Lim,Al2,Al3,Al5];omega) fun oD HD wD sD=>?_
       have hbD:=sD.box wC.here.own hbC hbw
       simp(disch:=first|omega|assumption) only[zi,zf,zb,zj,zg,za,zk,hcw,hbD,hg2,go_sem]
       refine zq (show VC _ [.agg [.str tn,.int .i64 tl,.int .i64 tm]] (tTy ⟨tn,tl,tm⟩) from tyR ⟨tn,tl,tm⟩ hty) wD (by simp only[Lim,Al2,Al3,Al5];omega) fun oF HF wF sF=>?_
       have hbF:=sF.box wD.here.own hbD hbw
       cases vh with
       | false =>
        have hhas:True:=trivial
        have wZ:=wF
        have hbZ:=hbF
        simp(disch:=first|omega|assumption) only[zi,zf,zb,zj,zg,za,zk,hcw,hbF,hg2,go_sem]
        by_cases hlast:done.length+1=vars.length
        case pos =>
         have hl1:((done.length:Int)=(vars.length:Int)-1)=True:=eq_true (by omega)
         have wl:IntKind.wrap .i64 ((vars.length:Int)-1)=(vars.length:Int)-1:=wrap64 (by omega) (by omega)
         simp(disch:=first|omega|assumption) only[zi,zf,zb,zj,zg,za,zk,hcw,hbZ,hg2,wl,hl1,go_sem]
         refine zq (pR [41]) wZ (by simp only[Lim,Al2,Al3,Al5];omega) fun oE HE wE sE=>?_
         have hbE:=sE.box wZ.here.own hbZ hbw
         simp(disch:=first|omega|assumption) only[wrap64,go_sem]
         exact goJ (hJ2 oE HE ⟨wE.cast (by rw[zW hlt6,if_pos hlast];simp[tW,tDf,hd0]),hbE⟩) (by simp(disch:=first|omega|assumption) only[go_sem])
        case neg =>
         have hl1:¬ ((done.length:Int)=(vars.length:Int)-1):=by omega
         have wl:IntKind.wrap .i64 ((vars.length:Int)-1)=(vars.length:Int)-1:=wrap64 (by omega) (by omega)
         simp(disch:=first|omega|assumption) only[zi,zf,zb,zj,zg,za,zk,hcw,hbZ,hg2,wl,hl1,wrap64,go_sem]
         exact goJ (hJ2 oF HF ⟨wZ.cast (by rw[zW hlt6,if_neg hlast];simp[tW,tDf,hd0]),hbZ⟩) (by simp(disch:=first|omega|assumption) only[go_sem])
       | true =>
        have hhas:True:=trivial
        simp only[tDf,if_true,Al2] at hlx
        simp(disch:=first|omega|assumption) only[zi,zf,zb,zj,zg,za,zk,hcw,hbF,hg2,go_sem]
        refine zq (pR [61]) wF (by simp only[Lim,Al2,Al3,Al5];omega) fun oG HG wG sG=>?_
        have hbG:=sG.box wF.here.own hbF hbw
        simp(disch:=first|omega|assumption) only[zi,zf,zb,zj,zg,za,zk,hcw,hbG,hg2,go_sem]
        refine zq (Yp vd hwvd (by simp only[Lim];omega)) wG (by simp only[Lim,Al2,Al3,Al5];omega) fun oZ HZ wZ sZ=>?_
        have hbZ:=sZ.box wG.here.own hbG hbw
        simp(disch:=first|omega|assumption) only[zi,zf,zb,zj,zg,za,zk,hcw,hbZ,hg2,go_sem]
        by_cases hlast:done.length+1=vars.length
        case pos =>
         have hl1:((done.length:Int)=(vars.length:Int)-1)=True:=eq_true (by omega)
         have wl:IntKind.wrap .i64 ((vars.length:Int)-1)=(vars.length:Int)-1:=wrap64 (by omega) (by omega)
         simp(disch:=first|omega|assumption) only[zi,zf,zb,zj,zg,za,zk,hcw,hbZ,hg2,wl,hl1,go_sem]
         refine zq (pR [41]) wZ (by simp only[Lim,Al2,Al3,Al5];omega) fun oE HE wE sE=>?_
         have hbE:=sE.box wZ.here.own hbZ hbw
         simp(disch:=first|omega|assumption) only[wrap64,go_sem]
         exact goJ (hJ2 oE HE ⟨wE.cast (by rw[zW hlt6,if_pos hlast];simp[tW,tDf,hd0]),hbE⟩) (by simp(disch:=first|omega|assumption) only[go_sem])
        case neg =>
         have hl1:¬ ((done.length:Int)=(vars.length:Int)-1):=by omega
         have wl:IntKind.wrap .i64 ((vars.length:Int)-1)=(vars.length:Int)-1:=wrap64 (by omega) (by omega)
         simp(disch:=first|omega|assumption) only[zi,zf,zb,zj,zg,za,zk,hcw,hbZ,hg2,wl,hl1,wrap64,go_sem]
         exact goJ (hJ2 oZ HZ ⟨wZ.cast (by rw[zW hlt6,if_neg hlast];simp[tW,tDf,hd0]),hbZ⟩) (by simp(disch:=first|omega|assumption) only[go_sem])
   ·subst hk
    simp(disch:=first|omega|assumption) only[go_sem]
    refine zq (wR [109,117,116,97,116,105,111,110]) w4 (by simp only[Lim,Al2,Al3,Al5];omega) fun o1 H1 w1 s1=>?_
    have hb1:=s1.box w4.here.own hb4 hbw
    by_cases hnm:nm=[]
    ·subst hnm
     have w3:=w1.cast (tk':=tokD++T3) (by rw[hT3];simp)
     have hb3:=hb1
     simp(disch:=first|omega|assumption) only[hb1,hcw,go_sem]
     refine zm vars 7 (fun x:Own=>[]) (fun done rest x H'=>VR H0 .nil w [] (tokD++T3++tWd vars.length done) H' x∧H' b=some (.cells [.int .i64 1,.str [],.sl .no 10 (cWs vars),.sl .no 2 (cDs dirs),.sl .no 7 (cSs sels)])) o1 (by simp(disch:=first|omega|assumption) only[go_sem]) ⟨w3.cast (by simp[tWd]),hb3⟩ ?_ ?_
     case refine_1 =>
      rintro o5 H5 J5 ⟨w5,hb5⟩ hlt5
      rw[zdg] at w5
      simp(disch:=first|omega|assumption) only[hcw,hlt5,hb5,go_sem]
      refine zq (YZ dirs hwd (by simp only[Lim];omega)) w5 (by simp only[Lim,Al2,Al3,Al5];omega) fun o6 H6 w6 s6=>?_
      have hb6:=s6.box w5.here.own hb5 hbw
      simp(disch:=first|omega|assumption) only[hb6,go_sem]
      refine zq (pR [123]) w6 (by simp only[Lim,Al2,Al3,Al5];omega) fun o7 H7 w7 s7=>?_
      have hb7:=s7.box w6.here.own hb6 hbw
      simp(disch:=first|omega|assumption) only[hb7,go_sem]
      refine zq (zdT (bSs sels) sels (Al4 _) hws (by simp only[Lim];omega)) w7 (by simp only[Lim,Al2,Al3,Al5];omega) fun o8 H8 w8 _=>?_
      simp(disch:=first|omega|assumption) only[go_sem]
      refine zq (pR [125]) w8 (by simp only[Lim,Al2,Al3,Al5];omega) fun o9 H9 w9 _=>?_
      simp(disch:=first|omega|assumption) only[wrap64,go_sem]
      exact goJ (hJ o9 H9 (w9.cast (by rw[htokD,eT];simp[tBl]))) (by simp(disch:=first|omega|assumption) only[go_sem])
     case refine_2 =>
      rintro done x rest2 o5 H5 J2 hd2 hlt5 hlt6 ⟨w5,hb5⟩ hJ2
      have hg2:=yX hd2
      have hbw2:=y7 done x rest2
      rw[← hd2] at hbw2
      have hmx:x∈vars:=by rw[hd2];simp
      have hwvd:wfV x.d:=(hwv x hmx).2.2
      have hty:=hvt x hmx
      have hfl:(vars.flatMap tW).length=(done.flatMap tW).length+(tW x).length+(rest2.flatMap tW).length:=by rw[hd2,zad]
      have hvne:vars.length≠0:=by omega
      have hlw:(tWs vars).length=(vars.flatMap tW).length+2:=by rw[zca vars hvne];simp
      have hle:(tWd vars.length done).length≤(done.flatMap tW).length+1:=by
       unfold tWd
       rw[if_neg (by omega:¬ done.length=vars.length)]
       split<;>simp
      obtain⟨vn,⟨tn,tl,tm⟩,vh,vd⟩:=x
      simp only at hwvd hty
      have hbx:bW ⟨vn,⟨tn,tl,tm⟩,vh,vd⟩=vn.length+tn.length+bV vd:=rfl
      have hlx:(tW ⟨vn,⟨tn,tl,tm⟩,vh,vd⟩).length=3+(tTy ⟨tn,tl,tm⟩).length+(tDf vh vd).length:=by simp[tW];omega
      rw[Ye] at hg2
      simp only at hg2
      rw[hlw,hfl] at hlop
      by_cases hd0:done.length=0
      case pos =>
       have hd1:((done.length:Int)=0)=True:=eq_true (by omega)
       have hdn:=za7.1 hd0
       simp(disch:=first|omega|assumption) only[hcw,hlt5,hb5,hd1,go_sem]
       refine zq (pR [40]) w5 (by simp only[Lim,Al2,Al3,Al5];omega) fun oA HA wA sA=>?_
       have hbA:=sA.box w5.here.own hb5 hbw
       simp(disch:=first|omega|assumption) only[go_sem]
       refine zq (pR [36]) wA (by simp only[Lim,Al2,Al3,Al5];omega) fun oB HB wB sB=>?_
       have hbB:=sB.box wA.here.own hbA hbw
       simp(disch:=first|omega|assumption) only[zi,zf,zb,zj,zg,za,zk,hcw,hbB,hg2,go_sem]
       refine zq (wR vn) wB (by simp only[Lim,Al2,Al3,Al5];omega) fun oC HC wC sC=>?_
       have hbC:=sC.box wB.here.own hbB hbw
       simp(disch:=first|omega|assumption) only[zi,zf,zb,zj,zg,za,zk,hcw,hbC,hg2,go_sem]
       refine zq (pR [58]) wC (by simp only[Lim,Al2,Al3,Al5];omega) fun oD HD wD sD=>?_
       have hbD:=sD.box wC.here.own hbC hbw
       simp(disch:=first|omega|assumption) only[zi,zf,zb,zj,zg,za,zk,hcw,hbD,hg2,go_sem]
       refine zq (show VC _ [.agg [.str tn,.int .i64 tl,.int .i64 tm]] (tTy ⟨tn,tl,tm⟩) from tyR ⟨tn,tl,tm⟩ hty) wD (by simp only[Lim,Al2,Al3,Al5];omega) fun oF HF wF sF=>?_
       have hbF:=sF.box wD.here.own hbD hbw
       cases vh with
       | false =>
        have hhas:True:=trivial
        have wZ:=wF
        have hbZ:=hbF
        simp(disch:=first|omega|assumption) only[zi,zf,zb,zj,zg,za,zk,hcw,hbF,hg2,go_sem]
        by_cases hlast:done.length+1=vars.length
        case pos =>
         have hl1:((done.length:Int)=(vars.length:Int)-1)=True:=eq_true (by omega)
         have wl:IntKind.wrap .i64 ((vars.length:Int)-1)=(vars.length:Int)-1:=wrap64 (by omega) (by omega)
         simp(disch:=first|omega|assumption) only[zi,zf,zb,zj,zg,za,zk,hcw,hbZ,hg2,wl,hl1,go_sem]
         refine zq (pR [41]) wZ (by simp only[Lim,Al2,Al3,Al5];omega) fun oE HE wE sE=>?_
         have hbE:=sE.box wZ.here.own hbZ hbw
         simp(disch:=first|omega|assumption) only[wrap64,go_sem]
         exact goJ (hJ2 oE HE ⟨wE.cast (by rw[zW hlt6,if_pos hlast];simp[tW,tDf,hd0]),hbE⟩) (by simp(disch:=first|omega|assumption) only[go_sem])
        case neg =>
         have hl1:¬ ((done.length:Int)=(vars.length:Int)-1):=by omega
         have wl:IntKind.wrap .i64 ((vars.length:Int)-1)=(vars.length:Int)-1:=wrap64 (by omega) (by omega)
         simp(disch:=first|omega|assumption) only[zi,zf,zb,zj,zg,za,zk,hcw,hbZ,hg2,wl,hl1,wrap64,go_sem]
         exact goJ (hJ2 oF HF ⟨wZ.cast (by rw[zW hlt6,if_neg hlast];simp[tW,tDf,hd0]),hbZ⟩) (by simp(disch:=first|omega|assumption) only[go_sem])
       | true =>
        have hhas:True:=trivial
        simp only[tDf,if_true,Al2] at hlx
        simp(disch:=first|omega|assumption) only[zi,zf,zb,zj,zg,za,zk,hcw,hbF,hg2,go_sem]
        refine zq (pR [61]) wF (by simp only[Lim,Al2,Al3,Al5];omega) fun oG HG wG sG=>?_
        have hbG:=sG.box wF.here.own hbF hbw
        simp(disch:=first|omega|assumption) only[zi,zf,zb,zj,zg,za,zk,hcw,hbG,hg2,go_sem]
        refine zq (Yp vd hwvd (by simp only[Lim];omega)) wG (by simp only[Lim,Al2,Al3,Al5];omega) fun oZ HZ wZ sZ=>?_
        have hbZ:=sZ.box wG.here.own hbG hbw
        simp(disch:=first|omega|assumption) only[zi,zf,zb,zj,zg,za,zk,hcw,hbZ,hg2,go_sem]
        by_cases hlast:done.length+1=vars.length
        case pos =>
         have hl1:((done.length:Int)=(vars.length:Int)-1)=True:=eq_true (by omega)
         have wl:IntKind.wrap .i64 ((vars.length:Int)-1)=(vars.length:Int)-1:=wrap64 (by omega) (by omega)
         simp(disch:=first|omega|assumption) only[zi,zf,zb,zj,zg,za,zk,hcw,hbZ,hg2,wl,hl1,go_sem]
         refine zq (pR [41]) wZ (by simp only[Lim,Al2,Al3,Al5];omega) fun oE HE wE sE=>?_
         have hbE:=sE.box wZ.here.own hbZ hbw
         simp(disch:=first|omega|assumption) only[wrap64,go_sem]
         exact goJ (hJ2 oE HE ⟨wE.cast (by rw[zW hlt6,if_pos hlast];simp[tW,tDf,hd0]),hbE⟩) (by simp(disch:=first|omega|assumption) only[go_sem])
        case neg =>
         have hl1:¬ ((done.length:Int)=(vars.length:Int)-1):=by omega
         have wl:IntKind.wrap .i64 ((vars.length:Int)-1)=(vars.length:Int)-1:=wrap64 (by omega) (by omega)
         simp(disch:=first|omega|assumption) only[zi,zf,zb,zj,zg,za,zk,hcw,hbZ,hg2,wl,hl1,wrap64,go_sem]
         exact goJ (hJ2 oZ HZ ⟨wZ.cast (by rw[zW hlt6,if_neg hlast];simp[tW,tDf,hd0]),hbZ⟩) (by simp(disch:=first|omega|assumption) only[go_sem])
      case neg =>
       have hd1:¬ ((done.length:Int)=0):=by omega
       have wA:=w5
       have hbA:=hb5
       simp(disch:=first|omega|assumption) only[hcw,hlt5,hb5,hd1,go_sem]
       refine zq (pR [36]) wA (by simp only[Lim,Al2,Al3,Al5];omega) fun oB HB wB sB=>?_
       have hbB:=sB.box wA.here.own hbA hbw
       simp(disch:=first|omega|assumption) only[zi,zf,zb,zj,zg,za,zk,hcw,hbB,hg2,go_sem]
       refine zq (wR vn) wB (by simp only[Lim,Al2,Al3,Al5];omega) fun oC HC wC sC=>?_
       have hbC:=sC.box wB.here.own hbB hbw
       simp(disch:=first|omega|assumption) only[zi,zf,zb,zj,zg,za,zk,hcw,hbC,hg2,go_sem]
       refine zq (pR [58]) wC (by simp only[Lim,Al2,Al3,Al5];omega) fun oD HD wD sD=>?_
       have hbD:=sD.box wC.here.own hbC hbw
       simp(disch:=first|omega|assumption) only[zi,zf,zb,zj,zg,za,zk,hcw,hbD,hg2,go_sem]
       refine zq (show VC _ [.agg [.str tn,.int .i64 tl,.int .i64 tm]] (tTy ⟨tn,tl,tm⟩) from tyR ⟨tn,tl,tm⟩ hty) wD (by simp only[Lim,Al2,Al3,Al5];omega) fun oF HF wF sF=>?_
       have hbF:=sF.box wD.here.own hbD hbw
       cases vh with
       | false =>
        have hhas:True:=trivial
        have wZ:=wF
        have hbZ:=hbF
        simp(disch:=first|omega|assumption) only[zi,zf,zb,zj,zg,za,zk,hcw,hbF,hg2,go_sem]
        by_cases hlast:done.length+1=vars.length
        case pos =>
         have hl1:((done.length:Int)=(vars.length:Int)-1)=True:=eq_true (by omega)
         have wl:IntKind.wrap .i64 ((vars.length:Int)-1)=(vars.length:Int)-1:=wrap64 (by omega) (by omega)
         simp(disch:=first|omega|assumption) only[zi,zf,zb,zj,zg,za,zk,hcw,hbZ,hg2,wl,hl1,go_sem]
         refine zq (pR [41]) wZ (by simp only[Lim,Al2,Al3,Al5];omega) fun oE HE wE sE=>?_
         have hbE:=sE.box wZ.here.own hbZ hbw
         simp(disch:=first|omega|assumption) only[wrap64,go_sem]
         exact goJ (hJ2 oE HE ⟨wE.cast (by rw[zW hlt6,if_pos hlast];simp[tW,tDf,hd0]),hbE⟩) (by simp(disch:=first|omega|assumption) only[go_sem])
        case neg =>
         have hl1:¬ ((done.length:Int)=(vars.length:Int)-1):=by omega
         have wl:IntKind.wrap .i64 ((vars.length:Int)-1)=(vars.length:Int)-1:=wrap64 (by omega) (by omega)
         simp(disch:=first|omega|assumption) only[zi,zf,zb,zj,zg,za,zk,hcw,hbZ,hg2,wl,hl1,wrap64,go_sem]
         exact goJ (hJ2 oF HF ⟨wZ.cast (by rw[zW hlt6,if_neg hlast];simp[tW,tDf,hd0]),hbZ⟩) (by simp(disch:=first|omega|assumption) only[go_sem])
       | true =>
        have hhas:True:=trivial
        simp only[tDf,if_true,Al2] at hlx
        simp(disch:=first|omega|assumption) only[zi,zf,zb,zj,zg,za,zk,hcw,hbF,hg2,go_sem]
        refine zq (pR [61]) wF (by simp only[Lim,Al2,Al3,Al5];omega) fun oG HG wG sG=>?_
        have hbG:=sG.box wF.here.own hbF hbw
        simp(disch:=first|omega|assumption) only[zi,zf,zb,zj,zg,za,zk,hcw,hbG,hg2,go_sem]
        refine zq (Yp vd hwvd (by simp only[Lim];omega)) wG (by simp only[Lim,Al2,Al3,Al5];omega) fun oZ HZ wZ sZ=>?_
        have hbZ:=sZ.box wG.here.own hbG hbw
        simp(disch:=first|omega|assumption) only[zi,zf,zb,zj,zg,za,zk,hcw,hbZ,hg2,go_sem]
        by_cases hlast:done.length+1=vars.length
        case pos =>
         have hl1:((done.length:Int)=(vars.length:Int)-1)=True:=eq_true (by omega)
         have wl:IntKind.wrap .i64 ((vars.length:Int)-1)=(vars.length:Int)-1:=wrap64 (by omega) (by omega)
         simp(disch:=first|omega|assumption) only[zi,zf,zb,zj,zg,za,zk,hcw,hbZ,hg2,wl,hl1,go_sem]
         refine zq (pR [41]) wZ (by simp only[Lim,Al2,Al3,Al5];omega) fun oE HE wE sE=>?_
         have hbE:=sE.box wZ.here.own hbZ hbw
         simp(disch:=first|omega|assumption) only[wrap64,go_sem]
         exact goJ (hJ2 oE HE ⟨wE.cast (by rw[zW hlt6,if_pos hlast];simp[tW,tDf,hd0]),hbE⟩) (by simp(disch:=first|omega|assumption) only[go_sem])
        case neg =>
         have hl1:¬ ((done.length:Int)=(vars.length:Int)-1):=by omega
         have wl:IntKind.wrap .i64 ((vars.length:Int)-1)=(vars.length:Int)-1:=wrap64 (by omega) (by omega)
         simp(disch:=first|omega|assumption) only[zi,zf,zb,zj,zg,za,zk,hcw,hbZ,hg2,wl,hl1,wrap64,go_sem]
         exact goJ (hJ2 oZ HZ ⟨wZ.cast (by rw[zW hlt6,if_neg hlast];simp[tW,tDf,hd0]),hbZ⟩) (by simp(disch:=first|omega|assumption) only[go_sem])
    ·simp(disch:=first|omega|assumption) only[hb1,hnm,go_sem]
     refine zq (wR nm) w1 (by rw[hT3,if_neg hnm] at hlop;simp only[Lim,Al2,Al3,Al5] at hlop ⊢;omega) fun o3 H3 w3' s3=>?_
     have w3:=w3'.cast (tk':=tokD++T3) (by rw[hT3];simp[hnm])
     have hb3:=s3.box w1.here.own hb1 hbw
     simp(disch:=first|omega|assumption) only[hb3,hcw,go_sem]
     refine zm vars 7 (fun x:Own=>[]) (fun done rest x H'=>VR H0 .nil w [] (tokD++T3++tWd vars.length done) H' x∧H' b=some (.cells [.int .i64 1,.str nm,.sl .no 10 (cWs vars),.sl .no 2 (cDs dirs),.sl .no 7 (cSs sels)])) o3 (by simp(disch:=first|omega|assumption) only[go_sem]) ⟨w3.cast (by simp[tWd]),hb3⟩ ?_ ?_
     case refine_1 =>
      rintro o5 H5 J5 ⟨w5,hb5⟩ hlt5
      rw[zdg] at w5
      simp(disch:=first|omega|assumption) only[hcw,hlt5,hb5,go_sem]
      refine zq (YZ dirs hwd (by simp only[Lim];omega)) w5 (by simp only[Lim,Al2,Al3,Al5];omega) fun o6 H6 w6 s6=>?_
      have hb6:=s6.box w5.here.own hb5 hbw
      simp(disch:=first|omega|assumption) only[hb6,go_sem]
      refine zq (pR [123]) w6 (by simp only[Lim,Al2,Al3,Al5];omega) fun o7 H7 w7 s7=>?_
      have hb7:=s7.box w6.here.own hb6 hbw
      simp(disch:=first|omega|assumption) only[hb7,go_sem]
      refine zq (zdT (bSs sels) sels (Al4 _) hws (by simp only[Lim];omega)) w7 (by simp only[Lim,Al2,Al3,Al5];omega) fun o8 H8 w8 _=>?_
      simp(disch:=first|omega|assumption) only[go_sem]
      refine zq (pR [125]) w8 (by simp only[Lim,Al2,Al3,Al5];omega) fun o9 H9 w9 _=>?_
      simp(disch:=first|omega|assumption) only[wrap64,go_sem]
      exact goJ (hJ o9 H9 (w9.cast (by rw[htokD,eT];simp[tBl]))) (by simp(disch:=first|omega|assumption) only[go_sem])
     case refine_2 =>
      rintro done x rest2 o5 H5 J2 hd2 hlt5 hlt6 ⟨w5,hb5⟩ hJ2
      have hg2:=yX hd2
      have hbw2:=y7 done x rest2
      rw[← hd2] at hbw2
      have hmx:x∈vars:=by rw[hd2];simp
      have hwvd:wfV x.d:=(hwv x hmx).2.2
      have hty:=hvt x hmx
      have hfl:(vars.flatMap tW).length=(done.flatMap tW).length+(tW x).length+(rest2.flatMap tW).length:=by rw[hd2,zad]
      have hvne:vars.length≠0:=by omega
      have hlw:(tWs vars).length=(vars.flatMap tW).length+2:=by rw[zca vars hvne];simp
      have hle:(tWd vars.length done).length≤(done.flatMap tW).length+1:=by
       unfold tWd
       rw[if_neg (by omega:¬ done.length=vars.length)]
       split<;>simp
      obtain⟨vn,⟨tn,tl,tm⟩,vh,vd⟩:=x
      simp only at hwvd hty
      have hbx:bW ⟨vn,⟨tn,tl,tm⟩,vh,vd⟩=vn.length+tn.length+bV vd:=rfl
      have hlx:(tW ⟨vn,⟨tn,tl,tm⟩,vh,vd⟩).length=3+(tTy ⟨tn,tl,tm⟩).length+(tDf vh vd).length:=by simp[tW];omega
      rw[Ye] at hg2
      simp only at hg2
      rw[hlw,hfl] at hlop
      by_cases hd0:done.length=0
      case pos =>
       have hd1:((done.length:Int)=0)=True:=eq_true (by omega)
       have hdn:=za7.1 hd0
       simp(disch:=first|omega|assumption) only[hcw,hlt5,hb5,hd1,go_sem]
       refine zq (pR [40]) w5 (by simp only[Lim,Al2,Al3,Al5];omega) fun oA HA wA sA=>?_
       have hbA:=sA.box w5.here.own hb5 hbw
       simp(disch:=first|omega|assumption) only[go_sem]
       refine zq (pR [36]) wA (by simp only[Lim,Al2,Al3,Al5];omega) fun oB HB wB sB=>?_
       have hbB:=sB.box wA.here.own hbA hbw
       simp(disch:=first|omega|assumption) only[zi,zf,zb,zj,zg,za,zk,hcw,hbB,hg2,go_sem]
       refine zq (wR vn) wB (by simp only[Lim,Al2,Al3,Al5];omega) fun oC HC wC sC=>?_
       have hbC:=sC.box wB.here.own hbB hbw
       simp(disch:=first|omega|assumption) only[zi,zf,zb,zj,zg,za,zk,hcw,hbC,hg2,go_sem]
       refine zq (pR [58]) wC (by simp only[Lim,Al2,Al3,Al5];omega) fun oD HD wD sD=>?_
       have hbD:=sD.box wC.here.own hbC hbw
       simp(disch:=first|omega|assumption) only[zi,zf,zb,zj,zg,za,zk,hcw,hbD,hg2,go_sem]
       refine zq (show VC _ [.agg [.str tn,.int .i64 tl,.int .i64 tm]] (tTy ⟨tn,tl,tm⟩) from tyR ⟨tn,tl,tm⟩ hty) wD (by simp only[Lim,Al2,Al3,Al5];omega) fun oF HF wF sF=>?_
       have hbF:=sF.box wD.here.own hbD hbw
       cases vh with
       | false =>
        have hhas:True:=trivial
        have wZ:=wF
        have hbZ:=hbF
        simp(disch:=first|omega|assumption) only[zi,zf,zb,zj,zg,za,zk,hcw,hbF,hg2,go_sem]
        by_cases hlast:done.length+1=vars.length
        case pos =>
         have hl1:((done.length:Int)=(vars.length:Int)-1)=True:=eq_true (by omega)
         have wl:IntKind.wrap .i64 ((vars.length:Int)-1)=(vars.length:Int)-1:=wrap64 (by omega) (by omega)
         simp(disch:=first|omega|assumption) only[zi,zf,zb,zj,zg,za,zk,hcw,hbZ,hg2,wl,hl1,go_sem]
         refine zq (pR [41]) wZ (by simp only[Lim,Al2,Al3,Al5];omega) fun oE HE wE sE=>?_
         have hbE:=sE.box wZ.here.own hbZ hbw
         simp(disch:=first|omega|assumption) only[wrap64,go_sem]
         exact goJ (hJ2 oE HE ⟨wE.cast (by rw[zW hlt6,if_pos hlast];simp[tW,tDf,hd0]),hbE⟩) (by simp(disch:=first|omega|assumption) only[go_sem])
        case neg =>
         have hl1:¬ ((done.length:Int)=(vars.length:Int)-1):=by omega
         have wl:IntKind.wrap .i64 ((vars.length:Int)-1)=(vars.length:Int)-1:=wrap64 (by omega) (by omega)
         simp(disch:=first|omega|assumption) only[zi,zf,zb,zj,zg,za,zk,hcw,hbZ,hg2,wl,hl1,wrap64,go_sem]
         exact goJ (hJ2 oF HF ⟨wZ.cast (by rw[zW hlt6,if_neg hlast];simp[tW,tDf,hd0]),hbZ⟩) (by simp(disch:=first|omega|assumption) only[go_sem])
       | true =>
        have hhas:True:=trivial
        simp only[tDf,if_true,Al2] at hlx
        simp(disch:=first|omega|assumption) only[zi,zf,zb,zj,zg,za,zk,hcw,hbF,hg2,go_sem]
        refine zq (pR [61]) wF (by simp only[Lim,Al2,Al3,Al5];omega) fun oG HG wG sG=>?_
        have hbG:=sG.box wF.here.own hbF hbw
        simp(disch:=first|omega|assumption) only[zi,zf,zb,zj,zg,za,zk,hcw,hbG,hg2,go_sem]
        refine zq (Yp vd hwvd (by simp only[Lim];omega)) wG (by simp only[Lim,Al2,Al3,Al5];omega) fun oZ HZ wZ sZ=>?_
        have hbZ:=sZ.box wG.here.own hbG hbw
        simp(disch:=first|omega|assumption) only[zi,zf,zb,zj,zg,za,zk,hcw,hbZ,hg2,go_sem]
        by_cases hlast:done.length+1=vars.length
        case pos =>
         have hl1:((done.length:Int)=(vars.length:Int)-1)=True:=eq_true (by omega)
         have wl:IntKind.wrap .i64 ((vars.length:Int)-1)=(vars.length:Int)-1:=wrap64 (by omega) (by omega)
         simp(disch:=first|omega|assumption) only[zi,zf,zb,zj,zg,za,zk,hcw,hbZ,hg2,wl,hl1,go_sem]
         refine zq (pR [41]) wZ (by simp only[Lim,Al2,Al3,Al5];omega) fun oE HE wE sE=>?_
         have hbE:=sE.box wZ.here.own hbZ hbw
         simp(disch:=first|omega|assumption) only[wrap64,go_sem]
         exact goJ (hJ2 oE HE ⟨wE.cast (by rw[zW hlt6,if_pos hlast];simp[tW,tDf,hd0]),hbE⟩) (by simp(disch:=first|omega|assumption) only[go_sem])
        case neg =>
         have hl1:¬ ((done.length:Int)=(vars.length:Int)-1):=by omega
         have wl:IntKind.wrap .i64 ((vars.length:Int)-1)=(vars.length:Int)-1:=wrap64 (by omega) (by omega)
         simp(disch:=first|omega|assumption) only[zi,zf,zb,zj,zg,za,zk,hcw,hbZ,hg2,wl,hl1,wrap64,go_sem]
         exact goJ (hJ2 oZ HZ ⟨wZ.cast (by rw[zW hlt6,if_neg hlast];simp[tW,tDf,hd0]),hbZ⟩) (by simp(disch:=first|omega|assumption) only[go_sem])
      case neg =>
       have hd1:¬ ((done.length:Int)=0):=by omega
       have wA:=w5
       have hbA:=hb5
       simp(disch:=first|omega|assumption) only[hcw,hlt5,hb5,hd1,go_sem]
       refine zq (pR [36]) wA (by simp only[Lim,Al2,Al3,Al5];omega) fun oB HB wB sB=>?_
       have hbB:=sB.box wA.here.own hbA hbw
       simp(disch:=first|omega|assumption) only[zi,zf,zb,zj,zg,za,zk,hcw,hbB,hg2,go_sem]
       refine zq (wR vn) wB (by simp only[Lim,Al2,Al3,Al5];omega) fun oC HC wC sC=>?_
       have hbC:=sC.box wB.here.own hbB hbw
       simp(disch:=first|omega|assumption) only[zi,zf,zb,zj,zg,za,zk,hcw,hbC,hg2,go_sem]
       refine zq (pR [58]) wC (by simp only[Lim,Al2,Al3,Al5];omega) fun oD HD wD sD=>?_
       have hbD:=sD.box wC.here.own hbC hbw
       simp(disch:=first|omega|assumption) only[zi,zf,zb,zj,zg,za,zk,hcw,hbD,hg2,go_sem]
       refine zq (show VC _ [.agg [.str tn,.int .i64 tl,.int .i64 tm]] (tTy ⟨tn,tl,tm⟩) from tyR ⟨tn,tl,tm⟩ hty) wD (by simp only[Lim,Al2,Al3,Al5];omega) fun oF HF wF sF=>?_
       have hbF:=sF.box wD.here.own hbD hbw
       cases vh with
       | false =>
        have hhas:True:=trivial
        have wZ:=wF
        have hbZ:=hbF
        simp(disch:=first|omega|assumption) only[zi,zf,zb,zj,zg,za,zk,hcw,hbF,hg2,go_sem]
        by_cases hlast:done.length+1=vars.length
        case pos =>
         have hl1:((done.length:Int)=(vars.length:Int)-1)=True:=eq_true (by omega)
         have wl:IntKind.wrap .i64 ((vars.length:Int)-1)=(vars.length:Int)-1:=wrap64 (by omega) (by omega)
         simp(disch:=first|omega|assumption) only[zi,zf,zb,zj,zg,za,zk,hcw,hbZ,hg2,wl,hl1,go_sem]
         refine zq (pR [41]) wZ (by simp only[Lim,Al2,Al3,Al5];omega) fun oE HE wE sE=>?_
         have hbE:=sE.box wZ.here.own hbZ hbw
         simp(disch:=first|omega|assumption) only[wrap64,go_sem]
         exact goJ (hJ2 oE HE ⟨wE.cast (by rw[zW hlt6,if_pos hlast];simp[tW,tDf,hd0]),hbE⟩) (by simp(disch:=first|omega|assumption) only[go_sem])
        case neg =>
         have hl1:¬ ((done.length:Int)=(vars.length:Int)-1):=by omega
         have wl:IntKind.wrap .i64 ((vars.length:Int)-1)=(vars.length:Int)-1:=wrap64 (by omega) (by omega)
         simp(disch:=first|omega|assumption) only[zi,zf,zb,zj,zg,za,zk,hcw,hbZ,hg2,wl,hl1,wrap64,go_sem]
         exact goJ (hJ2 oF HF ⟨wZ.cast (by rw[zW hlt6,if_neg hlast];simp[tW,tDf,hd0]),hbZ⟩) (by simp(disch:=first|omega|assumption) only[go_sem])
       | true =>
        have hhas:True:=trivial
        simp only[tDf,if_true,Al2] at hlx
        simp(disch:=first|omega|assumption) only[zi,zf,zb,zj,zg,za,zk,hcw,hbF,hg2,go_sem]
        refine zq (pR [61]) wF (by simp only[Lim,Al2,Al3,Al5];omega) fun oG HG wG sG=>?_
        have hbG:=sG.box wF.here.own hbF hbw
        simp(disch:=first|omega|assumption) only[zi,zf,zb,zj,zg,za,zk,hcw,hbG,hg2,go_sem]
        refine zq (Yp vd hwvd (by simp only[Lim];omega)) wG (by simp only[Lim,Al2,Al3,Al5];omega) fun oZ HZ wZ sZ=>?_
        have hbZ:=sZ.box wG.here.own hbG hbw
        simp(disch:=first|omega|assumption) only[zi,zf,zb,zj,zg,za,zk,hcw,hbZ,hg2,go_sem]
        by_cases hlast:done.length+1=vars.length
        case pos =>
         have hl1:((done.length:Int)=(vars.length:Int)-1)=True:=eq_true (by omega)
         have wl:IntKind.wrap .i64 ((vars.length:Int)-1)=(vars.length:Int)-1:=wrap64 (by omega) (by omega)
         simp(disch:=first|omega|assumption) only[zi,zf,zb,zj,zg,za,zk,hcw,hbZ,hg2,wl,hl1,go_sem]
         refine zq (pR [41]) wZ (by simp only[Lim,Al2,Al3,Al5];omega) fun oE HE wE sE=>?_
         have hbE:=sE.box wZ.here.own hbZ hbw
         simp(disch:=first|omega|assumption) only[wrap64,go_sem]
         exact goJ (hJ2 oE HE ⟨wE.cast (by rw[zW hlt6,if_pos hlast];simp[tW,tDf,hd0]),hbE⟩) (by simp(disch:=first|omega|assumption) only[go_sem])
        case neg =>
         have hl1:¬ ((done.length:Int)=(vars.length:Int)-1):=by omega
         have wl:IntKind.wrap .i64 ((vars.length:Int)-1)=(vars.length:Int)-1:=wrap64 (by omega) (by omega)
         simp(disch:=first|omega|assumption) only[zi,zf,zb,zj,zg,za,zk,hcw,hbZ,hg2,wl,hl1,wrap64,go_sem]
         exact goJ (hJ2 oZ HZ ⟨wZ.cast (by rw[zW hlt6,if_neg hlast];simp[tW,tDf,hd0]),hbZ⟩) (by simp(disch:=first|omega|assumption) only[go_sem])
theorem znr (d:DocD) (hw:YR d) (hb:16384*Yh d+64≤Lim):zo Tryz.prog 33 [.agg (ZN d)] (.tup [.str (Zt d).1,.bool (Zt d).2]):=by
 refine zo.go ir33 ck33 (Al4 _) fun KP Q hQ=>?_
 have ed:ZN d=[.sl .no 5 (cOs d.ops),.sl .no 4 (cFs d.frags)]:=rfl
 have hT:=zhG d hw (by simp only[Lim] at hb ⊢;omega)
 have hwt:=zfR d hw
 have hp:=zmh (yN d) (by simp only[Lim] at hb ⊢;omega)
 rw[ed] at hT ⊢
 simp(disch:=first|omega|assumption) only[ir33,go_sem]
 refine zc hT ?_
 cases hr:z1 d with
 | false =>
  simp(disch:=first|omega|assumption) only[go_sem]
  exact hQ _ _ _ _ nofun rfl (by simp[ze,zd,AV.strip,AV.strip1,Zt,hr])
 | true =>
  have e:yN d=Y1 d:=by unfold yN;rw[if_pos hr]
  rw[e] at hp ⊢
  simp(disch:=first|omega|assumption) only[go_sem]
  refine zc hp ?_
  simp(disch:=first|omega|assumption) only[go_sem]
  cases h2:(yF (Y1 d)).2&&decide ((yF (Y1 d)).1.length≤8192) with
  | false=>exact hQ _ _ _ _ nofun rfl (by simp[ze,zd,AV.strip,AV.strip1,Zt,hr,h2])
  | true=>exact hQ _ _ _ _ nofun rfl (by simp[ze,zd,AV.strip,AV.strip1,Zt,hr,h2])
def YD:DocD:=⟨[⟨0,[],[],[],[.mk 0 [] [97] [] [] [] [],.mk 0 [98] [99] [] [] [] []]⟩],[]⟩
def zgo:DocD:=⟨[],[]⟩
theorem zkF:zJ [97]=true:=by decide
theorem zkL:zJ [98]=true:=by decide
theorem zlm:zJ [99]=true:=by decide
theorem zcI:z1 YD=true:=by
 simp[z1,YD,yi,yf,zI,yx,zG,yK,zkF,zkL,zlm]
theorem zgS:z1 zgo=false:=by
 simp[z1,zgo]
theorem zhb:Y1 YD=[wk [113,117,101,114,121],pk [123],wk [97],wk [98],pk [58],wk [99],pk [125]]:=by simp[Y1,YD,tO,tWs,tDs,tBl,tSl,tS,YI]
theorem zgI:yF [wk [113,117,101,114,121],pk [123],wk [97],wk [98],pk [58],wk [99],pk [125]]=([113,117,101,114,121,32,123,32,97,32,98,32,58,32,99,32,125],true):=by decide
theorem zed:Zt YD=([113,117,101,114,121,32,123,32,97,32,98,32,58,32,99,32,125],true):=by
 unfold Zt
 rw[zcI,zhb,zgI]
 rfl
theorem zdM:zf2 []:=fun y hy=>nomatch hy
theorem zgv:YR YD:=by
 refine⟨fun x hx=>?_,fun x hx=>(nomatch hx)⟩
 simp only[YD,List.mem_singleton] at hx
 subst hx
 exact⟨fun y hy=>(nomatch hy),zdM,⟨trivial,zdM,trivial⟩,⟨trivial,zdM,trivial⟩,trivial⟩
theorem zk5:YR zgo:=⟨fun x hx=>(nomatch hx),fun x hx=>(nomatch hx)⟩
theorem zkh:Yh YD≤1000:=by decide
theorem zjz:ZN YD=[.sl .no 5 [[.int .i64 0,.str [],.sl .no 10 [],.sl .no 2 [],.sl .no 7 [[.int .i64 0,.str [],.str [97],.sl .no 6 [],.sl .no 2 [],.str [],.sl .no 7 []],[.int .i64 0,.str [98],.str [99],.sl .no 6 [],.sl .no 2 [],.str [],.sl .no 7 []]]]],.sl .no 4 []]:=by rfl
theorem znJ:ZN zgo=[.sl .no 5 [],.sl .no 4 []]:=by rfl
theorem zhC:zo Tryz.prog 25 [] (.bool true):=by
 refine zo.go ir25 ck25 (Al4 _) fun KP Q hQ=>?_
 have hT:=zkd YD zgv (by have:=zkh;simp only[Lim];omega)
 have hR:=zfa YD zgv (by have:=zkh;simp only[Lim];omega)
 have hN:=zfa zgo zk5 (by decide)
 rw[zed,zjz] at hT
 rw[zcI,zjz] at hR
 rw[zgS,znJ] at hN
 simp(disch:=first|omega|assumption) only[ir25,go_sem]
 refine zv fun b hb=>?_
 simp(disch:=first|omega|assumption) only[go_sem]
 refine zc (zo.low hT) ?_
 simp(disch:=first|omega|assumption) only[go_sem]
 refine zc (zo.low hR) ?_
 simp(disch:=first|omega|assumption) only[go_sem]
 refine zc (zo.low hN) ?_
 simp(disch:=first|omega|assumption) only[go_sem]
 exact hQ _ _ _ _ nofun rfl (by simp[ze,zd,AV.strip,AV.strip1])
def lD (x:DirD):Nat:=2+x.nm.length+bMs x.args
def lDs (l:List DirD):Nat:=(l.map lD).sum
mutual
def lS:SelD→Nat
 | .mk _ al nm args dirs on sels=>2+nm.length+al.length+on.length+bMs args+lDs dirs+lSs sels
def lSs:List SelD→Nat
 | []=>0
 | x::r=>lS x+lSs r
end
def lW (x:VarD):Nat:=1+bV x.d+x.nm.length
def lWs (l:List VarD):Nat:=(l.map lW).sum
def lO (x:OpD):Nat:=1+lDs x.dirs+lSs x.sels+x.nm.length+lWs x.vars
def lF (x:FragD):Nat:=1+lDs x.dirs+lSs x.sels+x.nm.length
def lOs (l:List OpD):Nat:=(l.map lO).sum
def lFs (l:List FragD):Nat:=(l.map lF).sum
def ze1 (d:DocD):Bool:=decide (lOs d.ops+lFs d.frags≤3200)
theorem zdJ {α:Type} {f g:α→Nat} {c:Nat} (h:∀ x,f x≤c*g x):∀ l:List α,(l.map f).sum≤c*(l.map g).sum
 | []=>Nat.zero_le _
 | x::r=>by have:=zdJ h r;have:=h x;simp only[List.map_cons,List.sum_cons,Nat.mul_add];omega
theorem zaT (l:List DirD):lDs l≤2*bDs l:=zdJ (fun x=>by simp only[lD,bD];omega) l
mutual
theorem znm:∀ x,lS x≤2*bS x
 | .mk k al nm args dirs on sels=>by
  have h1:=zaT dirs
  have h2:=zaX sels
  simp only[lS,bS];omega
theorem zaX:∀ l,lSs l≤2*bSs l
 | []=>by simp[lSs]
 | x::r=>by
  have h1:=znm x
  have h2:=zaX r
  simp only[lSs,bSs];omega
end
theorem zjy (l:List VarD):lWs l≤2*bWs l:=zdJ (fun x=>by have:=ZV x.d;simp only[lW,bW];omega) l
theorem znQ (x:OpD):lO x≤2*bO x:=by
 have h1:=zaT x.dirs
 have h2:=zaX x.sels
 have h3:=zjy x.vars
 simp only[lO,bO];omega
theorem znI (x:FragD):lF x≤2*bF x:=by
 have h1:=zaT x.dirs
 have h2:=zaX x.sels
 simp only[lF,bF];omega
theorem zmw (l:List OpD):lOs l≤2*bOs l:=zdJ znQ l
theorem zmH (l:List FragD):lFs l≤2*bFs l:=zdJ znI l
theorem zbK (l:List DirD) (hb:bDs l≤Lim):zo Tryz.prog 67 [.sl .no 2 (cDs l)] (.int .i64 (lDs l)):=by
 refine zo.go ir67 ck67 (Al4 _) fun KP Q hQ=>?_
 have h1:=YW l
 have hl:=zbi l
 have hle:=zaT l
 have hb':=hb
 simp only[Lim] at hb'
 simp(disch:=first|omega|assumption) only[ir67,h1,go_sem]
 refine zm l 4 (fun n:Int=>[(3,.int .i64 n)]) (fun done rest n H=>n+lDs rest=lDs l) 0 (by simp(disch:=first|omega|assumption) only[go_sem]) (by simp) ?_ ?_
 ·rintro n H J hn hlt
  simp only[lDs,List.map_nil,List.sum_nil] at hn
  simp(disch:=first|omega|assumption) only[h1,hlt,go_sem]
  have:n=((lDs l:Nat):Int):=by simp only[lDs];omega
  exact hQ _ _ _ _ nofun rfl (by simp[ze,zd,AV.strip,AV.strip1,this])
 ·rintro done x rest n H J hd hlt _ hn hJ
  have hg:=zah hd
  have hbm:=zbr done x rest
  rw[← hd] at hbm
  obtain⟨nm,args⟩:=x
  simp only[bD] at hbm
  have hn':n+(2+nm.length+bMs args+lDs rest:Nat)=lDs l:=by rw[← hn];simp[lDs,lD]
  have hsz:bV (.mk 0 0 [] [] args)=1+bMs args:=by simp[bV,bVs]
  have hp:(0:Int)≤n:=by
   have:=zaT rest
   have e:lDs l=lDs done+lDs (⟨nm,args⟩::rest):=by rw[hd];simp[lDs]
   omega
  simp(disch:=first|omega|assumption) only[h1,hlt,hg,cD,wrap64,go_sem]
  refine zc (zo.low (ziV (.mk 0 0 [] [] args) (by rw[hsz];simp only[Lim];omega))) ?_
  rw[hsz]
  simp(disch:=first|omega|assumption) only[h1,hlt,hg,cD,wrap64,go_sem]
  exact goJ (hJ (n+1+nm.length+((1+bMs args:Nat):Int)) _ (by omega)) (by simp(disch:=first|omega|assumption) only[wrap64,go_sem])
theorem zhn:∀ c:Nat,∀ l:List SelD,bSs l≤c→c≤Lim→zo Tryz.prog 35 [.sl .no 7 (cSs l)] (.int .i64 (lSs l)):=by
 intro c
 induction c using Nat.strongRecOn with
 | _ c ih =>
 intro l hb hc
 refine zo.go ir35 ck35 (Al4 _) fun KP Q hQ=>?_
 have h1:=ZD l
 have hl:=zav l
 have hle:=zaX l
 have hb':=hc
 simp only[Lim] at hb'
 simp(disch:=first|omega|assumption) only[ir35,h1,go_sem]
 refine zm l 4 (fun n:Int=>[(3,.int .i64 n)]) (fun done rest n H=>n+lSs rest=lSs l∧0≤n) 0 (by simp(disch:=first|omega|assumption) only[go_sem]) (by simp) ?_ ?_
 ·rintro n H J ⟨hn,_⟩ hlt
  simp only[lSs] at hn
  simp(disch:=first|omega|assumption) only[h1,hlt,go_sem]
  have:n=((lSs l:Nat):Int):=by omega
  exact hQ _ _ _ _ nofun rfl (by simp[ze,zd,AV.strip,AV.strip1,this])
 ·rintro done x rest n H J hd hlt _ ⟨hn,hp⟩ hJ
  have hg:=Yu hd
  have hbm:=zam done x rest
  rw[← hd] at hbm
  obtain⟨k,al,nm,args,dirs,on,sels⟩:=x
  have hdl:=zaT dirs
  have hsl:=zaX sels
  simp only[bS] at hbm
  rw[Zu] at hg
  simp only[lSs,lS] at hn
  have hsz:bV (.mk 0 0 [] [] args)=1+bMs args:=by simp[bV,bVs]
  simp(disch:=first|omega|assumption) only[h1,hlt,hg,wrap64,go_sem]
  refine zc (zo.low (ziV (.mk 0 0 [] [] args) (by rw[hsz];simp only[Lim];omega))) ?_
  rw[hsz]
  simp(disch:=first|omega|assumption) only[h1,hlt,hg,wrap64,go_sem]
  refine zc (zbK dirs (by simp only[Lim];omega)) ?_
  simp(disch:=first|omega|assumption) only[h1,hlt,hg,wrap64,go_sem]
  refine zc (ih (bSs sels) (by omega) sels (Al4 _) (by omega)) ?_
  simp(disch:=first|omega|assumption) only[h1,hlt,hg,wrap64,go_sem]
  exact goJ (hJ (n+1+nm.length+al.length+on.length+((1+bMs args:Nat):Int)+lDs dirs+lSs sels) _ ⟨by omega,by omega⟩) (by simp(disch:=first|omega|assumption) only[wrap64,go_sem])
theorem zdP (l:List SelD) (hb:bSs l≤Lim):zo Tryz.prog 35 [.sl .no 7 (cSs l)] (.int .i64 (lSs l)):=zhn (bSs l) l (Al4 _) hb
theorem zmu (d:DocD) (hb:Yh d≤Lim):zo Tryz.prog 24 [.agg (ZN d)] (.bool (ze1 d)):=by
 refine zo.go ir24 ck24 (Al4 _) fun KP Q hQ=>?_
 obtain⟨ops,frags⟩:=d
 simp only[Yh] at hb
 have h1:=YT ops
 have h2:=YP frags
 have hl1:=zbx ops
 have hl2:=zbs frags
 have hle1:=zmw ops
 have hle2:=zmH frags
 have hb':=hb
 simp only[Lim] at hb'
 simp(disch:=first|omega|assumption) only[ir24,ZN,go_sem]
 refine zm ops 4 (fun n:Int=>[(3,.int .i64 n)]) (fun done rest n H=>n+lOs rest=lOs ops∧0≤n) 0 (by simp(disch:=first|omega|assumption) only[go_sem]) (by simp) ?_ ?_
 ·rintro n H J ⟨hn,hp⟩ hlt
  simp only[lOs,List.map_nil,List.sum_nil] at hn
  have hn:n=((lOs ops:Nat):Int):=by simp only[lOs];omega
  subst hn
  simp(disch:=first|omega|assumption) only[h1,hlt,go_sem]
  refine zm frags 6 (fun n:Int=>[(3,.int .i64 n)]) (fun done rest n H=>n+lFs rest=(lOs ops+lFs frags:Nat)∧0≤n) (lOs ops:Nat) (by simp(disch:=first|omega|assumption) only[go_sem]) ⟨by omega,by omega⟩ ?_ ?_
  ·rintro n H J ⟨hn,_⟩ hlt
   simp only[lFs,List.map_nil,List.sum_nil] at hn
   have e:decide (n≤3200)=ze1 ⟨ops,frags⟩:=by simp only[ze1,lFs];exact decide_eq_decide.2 (by omega)
   simp(disch:=first|omega|assumption) only[h2,hlt,go_sem]
   exact hQ _ _ _ _ nofun rfl (by simp[ze,zd,AV.strip,AV.strip1,e])
  ·rintro done x rest n H J hd hlt _ ⟨hn,hp⟩ hJ
   have hg:=zar hd
   have hbm:=zbp done x rest
   rw[← hd] at hbm
   obtain⟨nm,on,dirs,sels⟩:=x
   simp only[bF] at hbm
   have hdl:=zaT dirs
   have hsl:=zaX sels
   have hn':n+(1+lDs dirs+lSs sels+nm.length+lFs rest:Nat)=(lOs ops+lFs frags:Nat):=by rw[← hn];simp[lFs,lF]
   simp(disch:=first|omega|assumption) only[h2,hlt,hg,cF,wrap64,go_sem]
   refine zc (zbK dirs (by simp only[Lim];omega)) ?_
   simp(disch:=first|omega|assumption) only[h2,hlt,hg,cF,wrap64,go_sem]
   refine zc (zdP sels (by simp only[Lim];omega)) ?_
   simp(disch:=first|omega|assumption) only[h2,hlt,hg,cF,wrap64,go_sem]
   exact goJ (hJ (n+1+lDs dirs+lSs sels+nm.length) _ ⟨by omega,by omega⟩) (by simp(disch:=first|omega|assumption) only[wrap64,go_sem])
 ·rintro done x rest n H J hd hlt _ ⟨hn,hp⟩ hJ
  have hg:=zaF hd
  have hbm:=zbn done x rest
  rw[← hd] at hbm
  obtain⟨k,nm,vars,dirs,sels⟩:=x
  simp only[bO] at hbm
  have hdl:=zaT dirs
  have hsl:=zaX sels
  have hwl:=zjy vars
  have h3:=zaz vars
  have h4:=zbt vars
  have hn':n+(1+lDs dirs+lSs sels+nm.length+lWs vars+lOs rest:Nat)=lOs ops:=by rw[← hn];simp[lOs,lO]
  simp(disch:=first|omega|assumption) only[h1,hlt,hg,cO,wrap64,go_sem]
  refine zc (zbK dirs (by simp only[Lim];omega)) ?_
  simp(disch:=first|omega|assumption) only[h1,hlt,hg,cO,wrap64,go_sem]
  refine zc (zdP sels (by simp only[Lim];omega)) ?_
  simp(disch:=first|omega|assumption) only[h1,hlt,hg,cO,wrap64,go_sem]
  refine zm vars 5 (fun n:Int=>[(3,.int .i64 n)]) (fun done' rest' n' H=>n'+lWs rest'=n+1+lDs dirs+lSs sels+nm.length+lWs vars∧0≤n') (n+1+lDs dirs+lSs sels+nm.length) (by simp(disch:=first|omega|assumption) only[go_sem]) ⟨by omega,by omega⟩ ?_ ?_
  ·rintro n2 H J' ⟨hn2,hp2⟩ hlt2
   simp only[lWs,List.map_nil,List.sum_nil] at hn2
   simp(disch:=first|omega|assumption) only[h1,h3,hlt,hg,hlt2,cO,wrap64,go_sem]
   exact goJ (hJ n2 _ ⟨by simp only[lWs] at hn';omega,by omega⟩) (by simp(disch:=first|omega|assumption) only[wrap64,go_sem])
  ·rintro done2 y rest2 n2 H J' hd2 hlt2 _ ⟨hn2,hp2⟩ hJ'
   have hg2:=yX hd2
   have hbm2:=y7 done2 y rest2
   rw[← hd2] at hbm2
   obtain⟨vn,⟨tn,tl,tm⟩,vh,⟨dk,dn,ds,dl,dm⟩⟩:=y
   rw[Ye,zE] at hg2
   simp only[bW] at hbm2
   have hn2':n2+(1+bV (.mk dk dn ds dl dm)+vn.length+lWs rest2:Nat)=n+1+lDs dirs+lSs sels+nm.length+lWs vars:=by rw[← hn2];simp[lWs,lW]
   simp(disch:=first|omega|assumption) only[h1,h3,hlt,hg,hg2,hlt2,cO,wrap64,go_sem]
   refine zc (ziV (.mk dk dn ds dl dm) (by simp only[Lim];omega)) ?_
   simp(disch:=first|omega|assumption) only[h1,h3,hlt,hg,hg2,hlt2,cO,wrap64,go_sem]
   exact goJ (hJ' (n2+1+bV (.mk dk dn ds dl dm)+vn.length) _ ⟨by omega,by omega⟩) (by simp(disch:=first|omega|assumption) only[wrap64,go_sem])
theorem zfK (d:DocD) (hw:YR d):(yN d).length≤64*Yh d:=by
 cases hr:z1 d with
 | false=>simp[yN,hr]
 | true=>have:=zjJ d hr hw;simp only[yN,hr,if_true];omega
structure DB (bo:Nat) (H:zh) (a:List OpD) (c:List FragD) (o1 o2:Own):Prop where
 box:H bo=some (.cells [.sl o1 5 (cOs a),.sl o2 4 (cFs c)])
 own1:yB H o1 a.length 5
 own2:yB H o2 c.length 4
 sep:∀ b x c y,o1=.tip b x→o2=.tip c y→b≠c
section
variable {bo:Nat} {H H':zh} {a:List OpD} {c:List FragD} {o1 o2 o':Own}
theorem DB.new {b:Nat} {x:AObj} (h:DB bo H a c o1 o2) (hb:H b=none):DB bo (H.upd b x) a c o1 o2 :=
 ⟨by rw[upd_ne (fun e=>by have:=h.box;rw[e,hb] at this;cases this)];exact h.box,h.own1.upd hb,h.own2.upd hb,h.sep⟩
theorem zfx {o:Own} {n sz:Nat} (h:yB H o n sz) (hk:∀ b x,H b=some x→H' b=some x):yB H' o n sz:=by
 cases o with
 | tip c d=>have h5:H c=some _:=h;exact hk c _ h5
 | no=>exact h
 | nil=>exact h
 | full=>exact h
theorem DB.kept (h:DB bo H a c o1 o2) (hk:∀ b x,H b=some x→H' b=some x):DB bo H' a c o1 o2 :=
 ⟨hk _ _ h.box,zfx h.own1 hk,zfx h.own2 hk,h.sep⟩
theorem zhv {oo o:Own} {n sz:Nat} (h:yB H oo n sz) (hk:Kept H o H') (hs:∀ b x c y,o=.tip b x→oo=.tip c y→b≠c):yB H' oo n sz:=by
 cases oo with
 | tip c y =>
  have h5:H c=some _:=h
  exact hk c _ h5 fun d e=>hs c d c y e rfl rfl
 | no=>exact h
 | nil=>exact h
 | full=>exact h
theorem DB.cell {b:Nat} {cs:List AV} (h:DB bo H a c o1 o2) (hb:H b=some (.cells cs)) (hn:bo≠b) (x:AObj):DB bo (H.upd b x) a c o1 o2 :=
 ⟨by rw[upd_ne hn];exact h.box,Ys h.own1 hb,Ys h.own2 hb,h.sep⟩
theorem DB.op {n:Nat} {xs:List (List AV)} (h:DB bo H a c o1 o2) (x:OpD) (hs:OwnS H o1 H' o' n 5) (hn:n=(a++[x]).length) (hx:xs=cOs (a++[x])) :
  DB bo (H'.upd bo (.cells [.sl o' 5 xs,.sl o2 4 (cFs c)])) (a++[x]) c o' o2:=by
 have hb:=Yc h.own1 h.box hs.kept
 subst hn;subst hx
 refine⟨upd_same ..,Ys hs.own hb,Ys (zhv h.own2 hs.kept h.sep) hb,fun b x c y e1 e2=>?_⟩
 rcases hs.new b x e1 with h2|⟨d0,h2⟩
 ·subst e2
  intro e
  have h5:H c=some _:=h.own2
  rw[← e,h2] at h5;cases h5
 ·exact h.sep b d0 c y h2 e2
theorem DB.frag {n:Nat} {xs:List (List AV)} (h:DB bo H a c o1 o2) (x:FragD) (hs:OwnS H o2 H' o' n 4) (hn:n=(c++[x]).length) (hx:xs=cFs (c++[x])) :
  DB bo (H'.upd bo (.cells [.sl o1 5 (cOs a),.sl o' 4 xs])) a (c++[x]) o1 o':=by
 have hb:=Yc h.own2 h.box hs.kept
 subst hn;subst hx
 refine⟨upd_same ..,Ys (zhv h.own1 hs.kept fun b x c y e1 e2=>Ne.symm (h.sep c y b x e2 e1)) hb,Ys hs.own hb,fun b x c y e1 e2=>?_⟩
 rcases hs.new c y e2 with h2|⟨d0,h2⟩
 ·subst e1
  intro e
  have h5:H b=some _:=h.own1
  rw[e,h2] at h5;cases h5
 ·exact h.sep b x c d0 e1 h2
end
theorem zlf (d:DocD) (hb:Yh d≤1048576):zo Tryz.prog 26 [.agg (ZN d)] (.agg (ZN d)):=by
 refine zo.go ir26 ck26 (Al4 _) fun KP Q hQ=>?_
 obtain⟨ops,frags⟩:=d
 have ed:ZN ⟨ops,frags⟩=[.sl .no 5 (cOs ops),.sl .no 4 (cFs frags)]:=rfl
 rw[ed] at hQ ⊢
 simp only[Yh] at hb
 have hlo:=zbx ops
 have hlf:=zbs frags
 have hco:=YT ops
 have hcf:=YP frags
 simp(disch:=first|omega|assumption) only[ir26,go_sem]
 refine zv fun b2 hb2=>?_
 simp(disch:=first|omega|assumption) only[go_sem]
 refine zv fun b3 hb3=>?_
 have h32:b3≠b2:=fun e=>by subst e;rw[upd_same] at hb3;cases hb3
 simp(disch:=first|omega|assumption) only[go_sem]
 obtain⟨H0,hH0⟩:∃ H0,H0=((zh.emp).upd b2 (.cells [.sl .nil 5 [],.sl .nil 4 []])).upd b3 (.cells [.sl .nil 5 [],.sl .nil 4 []]):=⟨_,rfl⟩
 have D0:DB b3 H0 [] [] .nil .nil:=⟨by rw[hH0,upd_same];rfl,rfl,rfl,nofun⟩
 have g20:H0 b2=some (.cells [.sl .nil 5 [],.sl .nil 4 []]):=by rw[hH0,upd_ne (Ne.symm h32),upd_same]
 try simp only[zce]
 rw[← hH0]
 clear hH0
 refine zm ops 4 (fun x:Own=>[]) (fun done rest x H=>DB b3 H done [] x .nil∧H b2=some (.cells [.sl .nil 5 [],.sl .nil 4 []])) .nil (by simp(disch:=first|omega|assumption) only[go_sem]) ⟨D0,g20⟩ ?_ ?_
 ·rintro o1 H1 J1 ⟨D1,g21⟩ hlt1
  simp(disch:=first|omega|assumption) only[hco,hlt1,go_sem]
  refine zm frags 6 (fun x:Own=>[]) (fun done rest x H=>DB b3 H ops done o1 x∧H b2=some (.cells [.sl .nil 5 [],.sl .nil 4 []])) .nil (by simp(disch:=first|omega|assumption) only[go_sem]) ⟨D1,g21⟩ ?_ ?_
  ·rintro o2 H2 J2 ⟨D2,g22⟩ hlt2
   have gb:=D2.box
   simp(disch:=first|omega|assumption) only[hcf,hlt2,gb,g22,h32,Ne.symm h32,go_sem]
   exact hQ _ _ _ [.agg [.sl o1 5 (cOs ops),.sl o2 4 (cFs frags)]] nofun (by simp(disch:=first|omega|assumption) only[ir26,yH,Yt,go_sem]) (by simp[ze,zd,AV.strip,AV.strip1])
  ·rintro done x rest o2 H2 J2 hd hlt2 hlt2' ⟨D2,g22⟩ hJ
   have hg:=zar hd
   have hbm:=zbp done x rest
   rw[← hd] at hbm
   obtain⟨nm,on,dirs,sels⟩:=x
   simp only[bF] at hbm
   rw[zjK] at hg
   have hdl:=congrArg List.length hd
   simp only[Al5,Al2] at hdl
   have hcd:=YP done
   simp(disch:=first|omega|assumption) only[hcf,hlt2,hg,go_sem]
   refine zv fun b5 hb5=>?_
   have h53:b5≠b3:=fun e=>by subst e;rw[D2.box] at hb5;cases hb5
   have h52:b5≠b2:=fun e=>by subst e;rw[g22] at hb5;cases hb5
   simp(disch:=first|omega|assumption) only[hg,go_sem]
   have D3:=D2.new (x:=.cells [.str nm,.str on,.sl .no 2 (cDs dirs),.sl .no 7 (cSs sels)]) hb5
   have g35:(H2.upd b5 (.cells [.str nm,.str on,.sl .no 2 (cDs dirs),.sl .no 7 (cSs sels)])) b5=some (.cells [.str nm,.str on,.sl .no 2 (cDs dirs),.sl .no 7 (cSs sels)]):=upd_same ..
   refine zc (zgO dirs (by simp only[Lim];omega)) ?_
   simp(disch:=first|omega|assumption) only[go_sem]
   refine zc (zhy sels (by simp only[Lim];omega)) ?_
   have gb3:=D2.box
   simp(disch:=first|omega|assumption) only[gb3,h53,Ne.symm h53,go_sem]
   refine zF (by rw[hcd];exact D3.own2) (by simp only[hcd,Al2,Al3];omega) (by simp only[hcd,Al2,Al3,maxLen];omega) fun o6 H6 hs6=>?_
   have gb6:=Yc D3.own2 D3.box hs6.kept
   have g62:=Yc D3.own2 (show _=some (.cells _) from (upd_ne (Ne.symm h52)).trans g22) hs6.kept
   simp(disch:=first|omega|assumption) only[gb6,wrap64,go_sem]
   refine goJ (hJ o6 _ ⟨D3.frag ⟨nm,on,dirs,sels⟩ (by simpa[hcd] using hs6) (by simp) (by simp[cFs,zjK,AV.strip1]),by rw[upd_ne (Ne.symm h32)];exact g62⟩) (by simp(disch:=first|omega|assumption) only[go_sem])
 ·rintro done x rest o1 H1 J1 hd hlt1 hlt1' ⟨D1,g21⟩ hJ
  have hg:=zaF hd
  have hbm:=zbn done x rest
  rw[← hd] at hbm
  have hcd:=YT done
  obtain⟨k,nm,vars,dirs,sels⟩:=x
  simp only[bO] at hbm
  have hvl:=zbt vars
  have hcv:=zaz vars
  have hdl:=congrArg List.length hd
  simp only[Al5,Al2] at hdl
  rw[zj2] at hg
  simp(disch:=first|omega|assumption) only[hco,hlt1,hg,go_sem]
  refine zv fun b5 hb5=>?_
  have h53:b5≠b3:=fun e=>by subst e;rw[D1.box] at hb5;cases hb5
  have h52:b5≠b2:=fun e=>by subst e;rw[g21] at hb5;cases hb5
  simp(disch:=first|omega|assumption) only[hg,go_sem]
  obtain⟨H2,hH2⟩:∃ H2,H2=H1.upd b5 (.cells [.int .i64 k,.str nm,.sl .no 10 (cWs vars),.sl .no 2 (cDs dirs),.sl .no 7 (cSs sels)]):=⟨_,rfl⟩
  have D2:DB b3 H2 done [] o1 .nil:=by rw[hH2];exact D1.new hb5
  have g22:H2 b2=some (.cells [.sl .nil 5 [],.sl .nil 4 []]):=by rw[hH2,upd_ne (Ne.symm h52)];exact g21
  have g25:H2 b5=some (.cells [.int .i64 k,.str nm,.sl .no 10 (cWs vars),.sl .no 2 (cDs dirs),.sl .no 7 (cSs sels)]):=by rw[hH2,upd_same]
  try simp only[zce]
  rw[← hH2]
  refine zF (o:=.nil) rfl (by simp only[hcv,Al3];omega) (by simp only[hcv,Al3,maxLen];omega) fun o3 H3 hs3=>?_
  have kp:∀ b x,H2 b=some x→H3 b=some x:=fun b x h=>hs3.kept b x h nofun
  have D3:=D2.kept kp
  have g32:=kp _ _ g22
  have g35:=kp _ _ g25
  simp(disch:=first|omega|assumption) only[g35,zi9,ziH,go_sem]
  refine zc (zgO dirs (by simp only[Lim];omega)) ?_
  simp(disch:=first|omega|assumption) only[go_sem]
  refine zc (zhy sels (by simp only[Lim];omega)) ?_
  have gb3:=D3.box
  simp(disch:=first|omega|assumption) only[gb3,h53,Ne.symm h53,go_sem]
  have D4:=D3.cell g35 (Ne.symm h53) (.cells [.int .i64 k,.str nm,.sl o3 10 (cWs vars),.sl .no 2 (cDs dirs),.sl .no 7 (cSs sels)])
  have gb4:=D4.box
  refine zF (by rw[hcd];exact D4.own1) (by simp only[hcd,Al2,Al3];omega) (by simp only[hcd,Al2,Al3,maxLen];omega) fun o6 H6 hs6=>?_
  have gb6:=Yc D4.own1 gb4 hs6.kept
  have g62:=Yc D4.own1 (show _=some (.cells _) from (upd_ne (Ne.symm h52)).trans g32) hs6.kept
  simp(disch:=first|omega|assumption) only[gb6,wrap64,go_sem]
  refine goJ (hJ o6 _ ⟨D4.op ⟨k,nm,vars,dirs,sels⟩ (by simpa[hcd] using hs6) (by simp) (by simp[cOs,zj2,AV.strip1]),by rw[upd_ne (Ne.symm h32)];exact g62⟩) (by simp(disch:=first|omega|assumption) only[go_sem])
theorem zgM (d:DocD) (hw:YR d) (hb:Yh d≤1048576):zo Tryz.prog 3 [.agg (ZN d)] (.bool true):=by
 refine zo.go ir3 ck3 (Al4 _) fun KP Q hQ=>?_
 have hL:=zmu d (by simp only[Lim];omega)
 have hC:=zlf d hb
 have hT:=zdz d hw (by simp only[Lim];omega)
 have hT2:=zhG d hw (by simp only[Lim];omega)
 have hR:=zfa d hw (by simp only[Lim];omega)
 have hR2:=zjv d (by simp only[Lim];omega)
 have hX:=zkd d hw (by simp only[Lim];omega)
 have hX2:=znr d hw (by simp only[Lim];omega)
 have hS:=zjH d d (by simp only[Lim];omega)
 rw[zN rfl] at hS
 have hdl:=zfK d hw
 have hK:=zfT (yN d) (yN d) (by simp only[Lim];omega)
 rw[zN rfl] at hK
 simp(disch:=first|omega|assumption) only[ir3,go_sem]
 refine zc hL ?_
 cases hlt:ze1 d with
 | false =>
  simp(disch:=first|omega|assumption) only[go_sem]
  refine zc zhC ?_
  simp(disch:=first|omega|assumption) only[go_sem]
  exact hQ _ _ _ _ nofun rfl (by simp[ze,zd,AV.strip,AV.strip1])
 | true =>
  simp(disch:=first|omega|assumption) only[go_sem]
  refine zc hC ?_
  simp(disch:=first|omega|assumption) only[go_sem]
  refine zv fun b3 hb3=>?_
  simp(disch:=first|omega|assumption) only[ZN,go_sem]
  refine zc hT ?_
  simp(disch:=first|omega|assumption) only[go_sem]
  refine zc hT2 ?_
  simp(disch:=first|omega|assumption) only[go_sem]
  refine zc hK ?_
  simp(disch:=first|omega|assumption) only[go_sem]
  refine zc hR ?_
  simp(disch:=first|omega|assumption) only[go_sem]
  refine zc hR2 ?_
  simp(disch:=first|omega|assumption) only[go_sem]
  refine zc hX ?_
  simp(disch:=first|omega|assumption) only[go_sem]
  refine zc hX2 ?_
  simp(disch:=first|omega|assumption) only[go_sem]
  refine zc hS ?_
  simp(disch:=first|omega|assumption) only[go_sem]
  refine zc zhC ?_
  simp(disch:=first|omega|assumption) only[go_sem]
  exact hQ _ _ _ _ nofun rfl (by simp[ze,zd,AV.strip,AV.strip1])
end Go.Proofs.YticbbfbpeimkbaaGreatDoor
