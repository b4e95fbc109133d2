import Derived.Test.YtbcocdloklbkjaaGreatDoorM1
import Derived.Test.YtbcocdloklbkjaaGreatDoorM2
import Derived.Test.YtbcocdloklbkjaaGreatDoorM3
import Derived.Test.YtbcocdloklbkjaaGreatDoorM4
import Derived.Test.YtbcocdloklbkjaaGreatDoorM5
import Derived.Test.YtbcocdloklbkjaaGreatDoorM6
import Derived.Test.YtbcocdloklbkjaaGreatDoorM7
import Derived.Test.YtbcocdloklbkjaaGreatDoorM8
import Derived.Test.YtbcocdloklbkjaaGreatDoorM9
set_option maxRecDepth 100000
set_option linter.all false
namespace Go.Proofs.YtbcocdloklbkjaaGreatDoor
open Go.Ab
theorem zaD (l:List VarD) (x:VarD):bWs (l++[x])=bWs l+bW x:=by simp[bWs]
theorem zti (f:FragD) (hw:wfF f) (hm:32*bF f≤Lim):WC 128 [.agg (cF f)] (32*bF f) 0 16 (fun dp=>decide (f.nm≠[111,110])&&(zP f.nm&&(zP f.on&&(Zf dp true f.dirs&&yp (dp+1) f.sels)))) (tF f):=by
 intro H w o l ok dp h h0 h1 hb
 obtain⟨nm,on,dirs,sels⟩:=f
 have hm':=hm
 simp only[Lim,bF] at hm'
 simp only[bF] at hb
 obtain⟨hwd,hws⟩:=hw
 have ef:cF ⟨nm,on,dirs,sels⟩=[.str nm,.str on,.sl .no 2 (cDs dirs),.sl .no 7 (cSs sels)]:=rfl
 refine zj.go ir128 ck128 (Al4 _) fun KP Q hQ=>?_
 have w0:=WR.refl h
 obtain⟨n,hn⟩:∃ n,n=decide (nm≠[111,110]):=⟨_,rfl⟩
 have nf:zP [102,114,97,103,109,101,110,116]=true:=by decide
 by_cases ho:nm=[111,110]
 case' pos =>
  have hbv:n=false:=by rw[hn];simp[ho]
  subst ho
  simp(disch:=first|omega|assumption) only[ir128,ef,go_sem]
  refine zn (ZH _) w0 (by omega) (by omega) (by omega) fun o1 l1 H1 w1 _=>?_
 case' neg =>
  have hbv:n=true:=by rw[hn];simp[ho]
  simp(disch:=first|omega|assumption) only[ir128,ef,ho,go_sem]
  refine zn (ZH _) w0 (by omega) (by omega) (by omega) fun o1 l1 H1 w1 _=>?_
 all_goals
  simp(disch:=first|omega|assumption) only[go_sem]
  refine zn (yu [102,114,97,103,109,101,110,116] (by simp[Lim])) w1 (by omega) (by omega) (by omega) fun o2 l2 H2 w2 _=>?_
  simp(disch:=first|omega|assumption) only[go_sem]
  refine zn (yu _ (by simp only[Lim];first|omega|simp)) w2 (by omega) (by omega) (by omega) fun o3 l3 H3 w3 _=>?_
  simp(disch:=first|omega|assumption) only[go_sem]
  refine zn (yu [111,110] (by simp[Lim])) w3 (by omega) (by omega) (by omega) fun o4 l4 H4 w4 _=>?_
  simp(disch:=first|omega|assumption) only[go_sem]
  refine zn (yu on (by simp only[Lim];omega)) w4 (by omega) (by omega) (by omega) fun o5 l5 H5 w5 _=>?_
  simp(disch:=first|omega|assumption) only[go_sem]
  refine zn (yP true dirs hwd (by simp only[Lim];omega)) w5 (by omega) (by omega) (by omega) fun o6 l6 H6 w6 _=>?_
  simp(disch:=first|omega|assumption) only[go_sem]
  refine zn (yL (zac (bSs sels)) sels (Al4 _) hws (by simp only[Lim];omega)) w6 (by omega) (by omega) (by omega) fun o7 l7 H7 w7 _=>?_
  simp(disch:=first|omega|assumption) only[go_sem]
  exact hQ _ _ H7 H7 [] nofun rfl (Low.refl _) ⟨rfl,w7.fin (by simp only[← hn,hbv,nf,zjt];simp[yg]) (fun _=>by simp[tF]) (by simp only[bF];omega)⟩
noncomputable def ZJ (dp:Int) (x:VarD):Bool:=zP x.nm&&(zG x.t&&(if x.has then z6 dp true x.d else eqd x.d zV))
noncomputable def yF (dp:Int) (x:OpD):Bool:=(decide (x.k=0)||decide (x.k=1))&&((decide (x.nm=[])||zP x.nm)&&(x.vars.all (ZJ dp)&&(Zf dp true x.dirs&&yp (dp+1) x.sels)))
theorem zvy (x:OpD) (hw:wfO x) (hm:64*bO x≤Lim):WC 127 [.agg (cO x)] (64*bO x) 0 16 (fun dp=>yF dp x) (tO x):=by
 intro H w o l ok dp h h0 h1 hb
 obtain⟨k,nm,vars,dirs,sels⟩:=x
 have hm':=hm
 simp only[Lim,bO] at hm'
 simp only[bO] at hb
 obtain⟨hwv,hwd,hws⟩:=hw
 have eo:cO ⟨k,nm,vars,dirs,sels⟩=[.int .i64 k,.str nm,.sl .no 10 (cWs vars),.sl .no 2 (cDs dirs),.sl .no 7 (cSs sels)]:=rfl
 have hcw:=Zr vars
 have hvl:=yS vars
 have nq:zP [113,117,101,114,121]=true:=by decide
 have nmu:zP [109,117,116,97,116,105,111,110]=true:=by decide
 refine zj.go ir127 ck127 (Al4 _) fun KP Q hQ=>?_
 have w0:=WR.refl h
 obtain⟨R3,hR3⟩:∃ R3,R3=((decide (k=0)||decide (k=1))&&(decide (nm=[])||zP nm)):=⟨_,rfl⟩
 obtain⟨T3,hT3⟩:∃ T3,T3=(wk (if k=0 then [113,117,101,114,121] else [109,117,116,97,116,105,111,110])::(if nm=[] then [] else [wk nm])):=⟨_,rfl⟩
 have er:yF dp ⟨k,nm,vars,dirs,sels⟩=(R3&&(vars.all (ZJ dp)&&(Zf dp true dirs&&yp (dp+1) sels))):=by
  rw[hR3];simp only[yF,yg]
 have et:R3=true→tO ⟨k,nm,vars,dirs,sels⟩=T3++(tWs vars++(tDs dirs++tBl sels)):=fun _=>by rw[hT3];simp[tO]
 by_cases hk0:k=0
 ·subst hk0
  have hk0:True:=trivial
  have hk1:True:=trivial
  simp(disch:=first|omega|assumption) only[ir127,eo,go_sem]
  refine zn (yu [113,117,101,114,121] (by simp[Lim])) w0 (by omega) (by omega) (by omega) fun o2 l2 H2 w2 _=>?_
  by_cases hnm:nm=[]
  case pos =>
   have w3:=(w2.castC (B':=2) (r':=R3) (tk':=T3) (by omega) (by rw[hR3];simp[hk0,hk1,hnm,nq,nmu]) (fun e=>by first|(rw[hT3];simp[hk0,hk1,hnm];done)|(exfalso;revert e;rw[hR3];simp[hk0,hk1])))
   by_cases hv0:vars.length=0
   case pos =>
    have hv1:¬ ((0:Int)<(vars.length:Int)):=by omega
    have hev:=zfh.1 hv0
    simp(disch:=first|omega|assumption) only[hnm,hcw,hv1,go_sem]
    refine zn (yP true dirs hwd (by simp only[Lim];omega)) w3 (by omega) (by omega) (by omega) fun oA lA HA wA _=>?_
    simp(disch:=first|omega|assumption) only[go_sem]
    refine zn (yL (zac (bSs sels)) sels (Al4 _) hws (by simp only[Lim];omega)) wA (by omega) (by omega) (by omega) fun oB lB HB wB _=>?_
    simp(disch:=first|omega|assumption) only[go_sem]
    exact hQ _ _ HB HB [] nofun rfl (Low.refl _) ⟨rfl,wB.fin (by show _=yF dp _;rw[er];simp[hev,yg]) (fun e=>by rw[et (by have e:yF dp _=true:=e;rw[er] at e;simp only[Al0] at e;exact e.1)];simp[tWs,hv0]) (by simp only[bO];omega)⟩
   case neg =>
    have hev:=hv0
    have hv1:((0:Int)<(vars.length:Int))=True:=eq_true (by omega)
    simp(disch:=first|omega|assumption) only[hnm,hcw,hv1,go_sem]
    refine zn (yD [40] _) w3 (by omega) (by omega) (by omega) fun o4 l4 H4 w4 _=>?_
    simp(disch:=first|omega|assumption) only[hcw,go_sem]
    refine zf vars 35 (fun x:Own×List Tok=>[]) (fun done rest x H'=>WR H o w l ok dp (3+32*bWs done) (R3&&done.all (ZJ dp)) (T3++(pk [40]::done.flatMap tW)) H' x.1 x.2) (o4,l4) (by simp(disch:=first|omega|assumption) only[go_sem]) (w4.cast (by omega) (by simp) (by simp)) ?_ ?_
    case refine_1 =>
     rintro⟨o5,l5⟩ H5 J5 w5 hlt
     simp only at w5
     simp(disch:=first|omega|assumption) only[hcw,hlt,go_sem]
     refine zn (yD [41] _) w5 (by omega) (by omega) (by omega) fun o6 l6 H6 w6 _=>?_
     simp(disch:=first|omega|assumption) only[go_sem]
     refine zn (yP true dirs hwd (by simp only[Lim];omega)) w6 (by omega) (by omega) (by omega) fun oA lA HA wA _=>?_
     simp(disch:=first|omega|assumption) only[go_sem]
     refine zn (yL (zac (bSs sels)) sels (Al4 _) hws (by simp only[Lim];omega)) wA (by omega) (by omega) (by omega) fun oB lB HB wB _=>?_
     simp(disch:=first|omega|assumption) only[go_sem]
     exact hQ _ _ HB HB [] nofun rfl (Low.refl _) ⟨rfl,wB.fin (by show _=yF dp _;rw[er];simp[hev,yg]) (fun e=>by rw[et (by have e:yF dp _=true:=e;rw[er] at e;simp only[Al0] at e;exact e.1)];simp[tWs,hv0]) (by simp only[bO];omega)⟩
    case refine_2 =>
     rintro done x rest ⟨o5,l5⟩ H5 J5 hd hlt hlt2 w5 hJ5
     simp only at w5
     have hg:=Zm hd
     have hbm:=zaY done x rest
     rw[← hd] at hbm
     have hwx:=hwv x (by rw[hd];simp)
     obtain⟨vn,⟨tn,tl,tm⟩,vh,vd⟩:=x
     have hwvd:wfV vd:=hwx.2.2
     have hvp:=YZ vd
     have hbx:bW ⟨vn,⟨tn,tl,tm⟩,vh,vd⟩=vn.length+tn.length+bV vd:=rfl
     rw[zdc] at hg
     simp only at hg
     simp(disch:=first|omega|assumption) only[zp,zl,zh,zo,zm,zi,zr,hcw,hlt,hg,go_sem]
     refine zb fun b hb=>?_
     have hbw:b≠w:=fun e=>by subst e;rw[w5.here.cell] at hb;cases hb
     have w6:=w5.alloc (x:=.cells (.str vn::.str tn::.int .i64 tl::.int .i64 tm::.bool vh::cV vd)) hb
     have hbc:(H5.upd b (.cells (.str vn::.str tn::.int .i64 tl::.int .i64 tm::.bool vh::cV vd))) b=some (.cells (.str vn::.str tn::.int .i64 tl::.int .i64 tm::.bool vh::cV vd)):=upd_same ..
     simp(disch:=first|omega|assumption) only[zp,zl,zh,zo,zm,zi,zr,go_sem]
     refine zn (yD [36] _) w6 (by omega) (by omega) (by omega) fun o7 l7 H7 w7 s7=>?_
     have hb7:=s7.box w6.here.own hbc hbw
     simp(disch:=first|omega|assumption) only[zp,zl,zh,zo,zm,zi,zr,hb7,go_sem]
     refine zn (yu vn (by simp only[Lim];omega)) w7 (by omega) (by omega) (by omega) fun o8 l8 H8 w8 s8=>?_
     have hb8:=s8.box w7.here.own hb7 hbw
     simp(disch:=first|omega|assumption) only[zp,zl,zh,zo,zm,zi,zr,hb8,go_sem]
     refine zn (yD [58] _) w8 (by omega) (by omega) (by omega) fun o9 l9 H9 w9 s9=>?_
     have hb9:=s9.box w8.here.own hb8 hbw
     simp(disch:=first|omega|assumption) only[zp,zl,zh,zo,zm,zi,zr,hb9,go_sem]
     refine zn (args:=[.agg [.str tn,.int .i64 tl,.int .i64 tm]]) (show WC _ [.agg [.str tn,.int .i64 tl,.int .i64 tm]] 20 (-1000) 1000 (fun _=>zG ⟨tn,tl,tm⟩) (tTy ⟨tn,tl,tm⟩) from zfg ⟨tn,tl,tm⟩ (by simp only[Lim];omega)) w9 (by omega) (by omega) (by omega) fun oC lC HC wC sC=>?_
     have hbC:=sC.box w9.here.own hb9 hbw
     simp(disch:=first|omega|assumption) only[zp,zl,zh,zo,zm,zi,zr,hbC,go_sem]
     refine zn (za3 vh vd hwvd (by simp only[Lim];omega)) wC (by omega) (by omega) (by omega) fun oD lD HD wD sD=>?_
     simp(disch:=first|omega|assumption) only[wrap64,go_sem]
     exact goJ (hJ5 (oD,lD) HD (wD.cast (by rw[zaD];omega) (by simp[ZJ,yg]) (by simp[tW]))) (by simp(disch:=first|omega|assumption) only[go_sem])
  case neg =>
   simp(disch:=first|omega|assumption) only[hnm,go_sem]
   refine zn (yu nm (by simp only[Lim];omega)) w2 (by omega) (by omega) (by omega) fun o3 l3 H3 w3' _=>?_
   have w3:=(w3'.castC (B':=2) (r':=R3) (tk':=T3) (by omega) (by rw[hR3];simp[hk0,hk1,hnm,nq,nmu]) (fun e=>by first|(rw[hT3];simp[hk0,hk1,hnm];done)|(exfalso;revert e;rw[hR3];simp[hk0,hk1])))
   by_cases hv0:vars.length=0
   case pos =>
    have hv1:¬ ((0:Int)<(vars.length:Int)):=by omega
    have hev:=zfh.1 hv0
    simp(disch:=first|omega|assumption) only[hnm,hcw,hv1,go_sem]
    refine zn (yP true dirs hwd (by simp only[Lim];omega)) w3 (by omega) (by omega) (by omega) fun oA lA HA wA _=>?_
    simp(disch:=first|omega|assumption) only[go_sem]
    refine zn (yL (zac (bSs sels)) sels (Al4 _) hws (by simp only[Lim];omega)) wA (by omega) (by omega) (by omega) fun oB lB HB wB _=>?_
    simp(disch:=first|omega|assumption) only[go_sem]
    exact hQ _ _ HB HB [] nofun rfl (Low.refl _) ⟨rfl,wB.fin (by show _=yF dp _;rw[er];simp[hev,yg]) (fun e=>by rw[et (by have e:yF dp _=true:=e;rw[er] at e;simp only[Al0] at e;exact e.1)];simp[tWs,hv0]) (by simp only[bO];omega)⟩
   case neg =>
    have hev:=hv0
    have hv1:((0:Int)<(vars.length:Int))=True:=eq_true (by omega)
    simp(disch:=first|omega|assumption) only[hnm,hcw,hv1,go_sem]
    refine zn (yD [40] _) w3 (by omega) (by omega) (by omega) fun o4 l4 H4 w4 _=>?_
    simp(disch:=first|omega|assumption) only[hcw,go_sem]
    refine zf vars 35 (fun x:Own×List Tok=>[]) (fun done rest x H'=>WR H o w l ok dp (3+32*bWs done) (R3&&done.all (ZJ dp)) (T3++(pk [40]::done.flatMap tW)) H' x.1 x.2) (o4,l4) (by simp(disch:=first|omega|assumption) only[go_sem]) (w4.cast (by omega) (by simp) (by simp)) ?_ ?_
    case refine_1 =>
     rintro⟨o5,l5⟩ H5 J5 w5 hlt
     simp only at w5
     simp(disch:=first|omega|assumption) only[hcw,hlt,go_sem]
     refine zn (yD [41] _) w5 (by omega) (by omega) (by omega) fun o6 l6 H6 w6 _=>?_
     simp(disch:=first|omega|assumption) only[go_sem]
     refine zn (yP true dirs hwd (by simp only[Lim];omega)) w6 (by omega) (by omega) (by omega) fun oA lA HA wA _=>?_
     simp(disch:=first|omega|assumption) only[go_sem]
     refine zn (yL (zac (bSs sels)) sels (Al4 _) hws (by simp only[Lim];omega)) wA (by omega) (by omega) (by omega) fun oB lB HB wB _=>?_
     simp(disch:=first|omega|assumption) only[go_sem]
     exact hQ _ _ HB HB [] nofun rfl (Low.refl _) ⟨rfl,wB.fin (by show _=yF dp _;rw[er];simp[hev,yg]) (fun e=>by rw[et (by have e:yF dp _=true:=e;rw[er] at e;simp only[Al0] at e;exact e.1)];simp[tWs,hv0]) (by simp only[bO];omega)⟩
    case refine_2 =>
     rintro done x rest ⟨o5,l5⟩ H5 J5 hd hlt hlt2 w5 hJ5
     simp only at w5
     have hg:=Zm hd
     have hbm:=zaY done x rest
     rw[← hd] at hbm
     have hwx:=hwv x (by rw[hd];simp)
     obtain⟨vn,⟨tn,tl,tm⟩,vh,vd⟩:=x
     have hwvd:wfV vd:=hwx.2.2
     have hvp:=YZ vd
     have hbx:bW ⟨vn,⟨tn,tl,tm⟩,vh,vd⟩=vn.length+tn.length+bV vd:=rfl
     rw[zdc] at hg
     simp only at hg
     simp(disch:=first|omega|assumption) only[zp,zl,zh,zo,zm,zi,zr,hcw,hlt,hg,go_sem]
     refine zb fun b hb=>?_
     have hbw:b≠w:=fun e=>by subst e;rw[w5.here.cell] at hb;cases hb
     have w6:=w5.alloc (x:=.cells (.str vn::.str tn::.int .i64 tl::.int .i64 tm::.bool vh::cV vd)) hb
     have hbc:(H5.upd b (.cells (.str vn::.str tn::.int .i64 tl::.int .i64 tm::.bool vh::cV vd))) b=some (.cells (.str vn::.str tn::.int .i64 tl::.int .i64 tm::.bool vh::cV vd)):=upd_same ..
     simp(disch:=first|omega|assumption) only[zp,zl,zh,zo,zm,zi,zr,go_sem]
     refine zn (yD [36] _) w6 (by omega) (by omega) (by omega) fun o7 l7 H7 w7 s7=>?_
     have hb7:=s7.box w6.here.own hbc hbw
     simp(disch:=first|omega|assumption) only[zp,zl,zh,zo,zm,zi,zr,hb7,go_sem]
     refine zn (yu vn (by simp only[Lim];omega)) w7 (by omega) (by omega) (by omega) fun o8 l8 H8 w8 s8=>?_
     have hb8:=s8.box w7.here.own hb7 hbw
     simp(disch:=first|omega|assumption) only[zp,zl,zh,zo,zm,zi,zr,hb8,go_sem]
     refine zn (yD [58] _) w8 (by omega) (by omega) (by omega) fun o9 l9 H9 w9 s9=>?_
     have hb9:=s9.box w8.here.own hb8 hbw
     simp(disch:=first|omega|assumption) only[zp,zl,zh,zo,zm,zi,zr,hb9,go_sem]
     refine zn (args:=[.agg [.str tn,.int .i64 tl,.int .i64 tm]]) (show WC _ [.agg [.str tn,.int .i64 tl,.int .i64 tm]] 20 (-1000) 1000 (fun _=>zG ⟨tn,tl,tm⟩) (tTy ⟨tn,tl,tm⟩) from zfg ⟨tn,tl,tm⟩ (by simp only[Lim];omega)) w9 (by omega) (by omega) (by omega) fun oC lC HC wC sC=>?_
     have hbC:=sC.box w9.here.own hb9 hbw
     simp(disch:=first|omega|assumption) only[zp,zl,zh,zo,zm,zi,zr,hbC,go_sem]
     refine zn (za3 vh vd hwvd (by simp only[Lim];omega)) wC (by omega) (by omega) (by omega) fun oD lD HD wD sD=>?_
     simp(disch:=first|omega|assumption) only[wrap64,go_sem]
     exact goJ (hJ5 (oD,lD) HD (wD.cast (by rw[zaD];omega) (by simp[ZJ,yg]) (by simp[tW]))) (by simp(disch:=first|omega|assumption) only[go_sem])
 by_cases hk1:k=1
 ·subst hk1
  have hk1:True:=trivial
  simp(disch:=first|omega|assumption) only[ir127,eo,go_sem]
  refine zn (yu [109,117,116,97,116,105,111,110] (by simp[Lim])) w0 (by omega) (by omega) (by omega) fun o2 l2 H2 w2 _=>?_
  by_cases hnm:nm=[]
  case pos =>
   have w3:=(w2.castC (B':=2) (r':=R3) (tk':=T3) (by omega) (by rw[hR3];simp[hk0,hk1,hnm,nq,nmu]) (fun e=>by first|(rw[hT3];simp[hk0,hk1,hnm];done)|(exfalso;revert e;rw[hR3];simp[hk0,hk1])))
   by_cases hv0:vars.length=0
   case pos =>
    have hv1:¬ ((0:Int)<(vars.length:Int)):=by omega
    have hev:=zfh.1 hv0
    simp(disch:=first|omega|assumption) only[hnm,hcw,hv1,go_sem]
    refine zn (yP true dirs hwd (by simp only[Lim];omega)) w3 (by omega) (by omega) (by omega) fun oA lA HA wA _=>?_
    simp(disch:=first|omega|assumption) only[go_sem]
    refine zn (yL (zac (bSs sels)) sels (Al4 _) hws (by simp only[Lim];omega)) wA (by omega) (by omega) (by omega) fun oB lB HB wB _=>?_
    simp(disch:=first|omega|assumption) only[go_sem]
    exact hQ _ _ HB HB [] nofun rfl (Low.refl _) ⟨rfl,wB.fin (by show _=yF dp _;rw[er];simp[hev,yg]) (fun e=>by rw[et (by have e:yF dp _=true:=e;rw[er] at e;simp only[Al0] at e;exact e.1)];simp[tWs,hv0]) (by simp only[bO];omega)⟩
   case neg =>
    have hev:=hv0
    have hv1:((0:Int)<(vars.length:Int))=True:=eq_true (by omega)
    simp(disch:=first|omega|assumption) only[hnm,hcw,hv1,go_sem]
    refine zn (yD [40] _) w3 (by omega) (by omega) (by omega) fun o4 l4 H4 w4 _=>?_
    simp(disch:=first|omega|assumption) only[hcw,go_sem]
    refine zf vars 35 (fun x:Own×List Tok=>[]) (fun done rest x H'=>WR H o w l ok dp (3+32*bWs done) (R3&&done.all (ZJ dp)) (T3++(pk [40]::done.flatMap tW)) H' x.1 x.2) (o4,l4) (by simp(disch:=first|omega|assumption) only[go_sem]) (w4.cast (by omega) (by simp) (by simp)) ?_ ?_
    case refine_1 =>
     rintro⟨o5,l5⟩ H5 J5 w5 hlt
     simp only at w5
     simp(disch:=first|omega|assumption) only[hcw,hlt,go_sem]
     refine zn (yD [41] _) w5 (by omega) (by omega) (by omega) fun o6 l6 H6 w6 _=>?_
     simp(disch:=first|omega|assumption) only[go_sem]
     refine zn (yP true dirs hwd (by simp only[Lim];omega)) w6 (by omega) (by omega) (by omega) fun oA lA HA wA _=>?_
     simp(disch:=first|omega|assumption) only[go_sem]
     refine zn (yL (zac (bSs sels)) sels (Al4 _) hws (by simp only[Lim];omega)) wA (by omega) (by omega) (by omega) fun oB lB HB wB _=>?_
     simp(disch:=first|omega|assumption) only[go_sem]
     exact hQ _ _ HB HB [] nofun rfl (Low.refl _) ⟨rfl,wB.fin (by show _=yF dp _;rw[er];simp[hev,yg]) (fun e=>by rw[et (by have e:yF dp _=true:=e;rw[er] at e;simp only[Al0] at e;exact e.1)];simp[tWs,hv0]) (by simp only[bO];omega)⟩
    case refine_2 =>
     rintro done x rest ⟨o5,l5⟩ H5 J5 hd hlt hlt2 w5 hJ5
     simp only at w5
     have hg:=Zm hd
     have hbm:=zaY done x rest
     rw[← hd] at hbm
     have hwx:=hwv x (by rw[hd];simp)
     obtain⟨vn,⟨tn,tl,tm⟩,vh,vd⟩:=x
     have hwvd:wfV vd:=hwx.2.2
     have hvp:=YZ vd
     have hbx:bW ⟨vn,⟨tn,tl,tm⟩,vh,vd⟩=vn.length+tn.length+bV vd:=rfl
     rw[zdc] at hg
     simp only at hg
     simp(disch:=first|omega|assumption) only[zp,zl,zh,zo,zm,zi,zr,hcw,hlt,hg,go_sem]
     refine zb fun b hb=>?_
     have hbw:b≠w:=fun e=>by subst e;rw[w5.here.cell] at hb;cases hb
     have w6:=w5.alloc (x:=.cells (.str vn::.str tn::.int .i64 tl::.int .i64 tm::.bool vh::cV vd)) hb
     have hbc:(H5.upd b (.cells (.str vn::.str tn::.int .i64 tl::.int .i64 tm::.bool vh::cV vd))) b=some (.cells (.str vn::.str tn::.int .i64 tl::.int .i64 tm::.bool vh::cV vd)):=upd_same ..
     simp(disch:=first|omega|assumption) only[zp,zl,zh,zo,zm,zi,zr,go_sem]
     refine zn (yD [36] _) w6 (by omega) (by omega) (by omega) fun o7 l7 H7 w7 s7=>?_
     have hb7:=s7.box w6.here.own hbc hbw
     simp(disch:=first|omega|assumption) only[zp,zl,zh,zo,zm,zi,zr,hb7,go_sem]
     refine zn (yu vn (by simp only[Lim];omega)) w7 (by omega) (by omega) (by omega) fun o8 l8 H8 w8 s8=>?_
     have hb8:=s8.box w7.here.own hb7 hbw
     simp(disch:=first|omega|assumption) only[zp,zl,zh,zo,zm,zi,zr,hb8,go_sem]
     refine zn (yD [58] _) w8 (by omega) (by omega) (by omega) fun o9 l9 H9 w9 s9=>?_
     have hb9:=s9.box w8.here.own hb8 hbw
     simp(disch:=first|omega|assumption) only[zp,zl,zh,zo,zm,zi,zr,hb9,go_sem]
     refine zn (args:=[.agg [.str tn,.int .i64 tl,.int .i64 tm]]) (show WC _ [.agg [.str tn,.int .i64 tl,.int .i64 tm]] 20 (-1000) 1000 (fun _=>zG ⟨tn,tl,tm⟩) (tTy ⟨tn,tl,tm⟩) from zfg ⟨tn,tl,tm⟩ (by simp only[Lim];omega)) w9 (by omega) (by omega) (by omega) fun oC lC HC wC sC=>?_
     have hbC:=sC.box w9.here.own hb9 hbw
     simp(disch:=first|omega|assumption) only[zp,zl,zh,zo,zm,zi,zr,hbC,go_sem]
     refine zn (za3 vh vd hwvd (by simp only[Lim];omega)) wC (by omega) (by omega) (by omega) fun oD lD HD wD sD=>?_
     simp(disch:=first|omega|assumption) only[wrap64,go_sem]
     exact goJ (hJ5 (oD,lD) HD (wD.cast (by rw[zaD];omega) (by simp[ZJ,yg]) (by simp[tW]))) (by simp(disch:=first|omega|assumption) only[go_sem])
  case neg =>
   simp(disch:=first|omega|assumption) only[hnm,go_sem]
   refine zn (yu nm (by simp only[Lim];omega)) w2 (by omega) (by omega) (by omega) fun o3 l3 H3 w3' _=>?_
   have w3:=(w3'.castC (B':=2) (r':=R3) (tk':=T3) (by omega) (by rw[hR3];simp[hk0,hk1,hnm,nq,nmu]) (fun e=>by first|(rw[hT3];simp[hk0,hk1,hnm];done)|(exfalso;revert e;rw[hR3];simp[hk0,hk1])))
   by_cases hv0:vars.length=0
   case pos =>
    have hv1:¬ ((0:Int)<(vars.length:Int)):=by omega
    have hev:=zfh.1 hv0
    simp(disch:=first|omega|assumption) only[hnm,hcw,hv1,go_sem]
    refine zn (yP true dirs hwd (by simp only[Lim];omega)) w3 (by omega) (by omega) (by omega) fun oA lA HA wA _=>?_
    simp(disch:=first|omega|assumption) only[go_sem]
    refine zn (yL (zac (bSs sels)) sels (Al4 _) hws (by simp only[Lim];omega)) wA (by omega) (by omega) (by omega) fun oB lB HB wB _=>?_
    simp(disch:=first|omega|assumption) only[go_sem]
    exact hQ _ _ HB HB [] nofun rfl (Low.refl _) ⟨rfl,wB.fin (by show _=yF dp _;rw[er];simp[hev,yg]) (fun e=>by rw[et (by have e:yF dp _=true:=e;rw[er] at e;simp only[Al0] at e;exact e.1)];simp[tWs,hv0]) (by simp only[bO];omega)⟩
   case neg =>
    have hev:=hv0
    have hv1:((0:Int)<(vars.length:Int))=True:=eq_true (by omega)
    simp(disch:=first|omega|assumption) only[hnm,hcw,hv1,go_sem]
    refine zn (yD [40] _) w3 (by omega) (by omega) (by omega) fun o4 l4 H4 w4 _=>?_
    simp(disch:=first|omega|assumption) only[hcw,go_sem]
    refine zf vars 35 (fun x:Own×List Tok=>[]) (fun done rest x H'=>WR H o w l ok dp (3+32*bWs done) (R3&&done.all (ZJ dp)) (T3++(pk [40]::done.flatMap tW)) H' x.1 x.2) (o4,l4) (by simp(disch:=first|omega|assumption) only[go_sem]) (w4.cast (by omega) (by simp) (by simp)) ?_ ?_
    case refine_1 =>
     rintro⟨o5,l5⟩ H5 J5 w5 hlt
     simp only at w5
     simp(disch:=first|omega|assumption) only[hcw,hlt,go_sem]
     refine zn (yD [41] _) w5 (by omega) (by omega) (by omega) fun o6 l6 H6 w6 _=>?_
     simp(disch:=first|omega|assumption) only[go_sem]
     refine zn (yP true dirs hwd (by simp only[Lim];omega)) w6 (by omega) (by omega) (by omega) fun oA lA HA wA _=>?_
     simp(disch:=first|omega|assumption) only[go_sem]
     refine zn (yL (zac (bSs sels)) sels (Al4 _) hws (by simp only[Lim];omega)) wA (by omega) (by omega) (by omega) fun oB lB HB wB _=>?_
     simp(disch:=first|omega|assumption) only[go_sem]
     exact hQ _ _ HB HB [] nofun rfl (Low.refl _) ⟨rfl,wB.fin (by show _=yF dp _;rw[er];simp[hev,yg]) (fun e=>by rw[et (by have e:yF dp _=true:=e;rw[er] at e;simp only[Al0] at e;exact e.1)];simp[tWs,hv0]) (by simp only[bO];omega)⟩
    case refine_2 =>
     rintro done x rest ⟨o5,l5⟩ H5 J5 hd hlt hlt2 w5 hJ5
     simp only at w5
     have hg:=Zm hd
     have hbm:=zaY done x rest
     rw[← hd] at hbm
     have hwx:=hwv x (by rw[hd];simp)
     obtain⟨vn,⟨tn,tl,tm⟩,vh,vd⟩:=x
     have hwvd:wfV vd:=hwx.2.2
     have hvp:=YZ vd
     have hbx:bW ⟨vn,⟨tn,tl,tm⟩,vh,vd⟩=vn.length+tn.length+bV vd:=rfl
     rw[zdc] at hg
     simp only at hg
     simp(disch:=first|omega|assumption) only[zp,zl,zh,zo,zm,zi,zr,hcw,hlt,hg,go_sem]
     refine zb fun b hb=>?_
     have hbw:b≠w:=fun e=>by subst e;rw[w5.here.cell] at hb;cases hb
     have w6:=w5.alloc (x:=.cells (.str vn::.str tn::.int .i64 tl::.int .i64 tm::.bool vh::cV vd)) hb
     have hbc:(H5.upd b (.cells (.str vn::.str tn::.int .i64 tl::.int .i64 tm::.bool vh::cV vd))) b=some (.cells (.str vn::.str tn::.int .i64 tl::.int .i64 tm::.bool vh::cV vd)):=upd_same ..
     simp(disch:=first|omega|assumption) only[zp,zl,zh,zo,zm,zi,zr,go_sem]
     refine zn (yD [36] _) w6 (by omega) (by omega) (by omega) fun o7 l7 H7 w7 s7=>?_
     have hb7:=s7.box w6.here.own hbc hbw
     simp(disch:=first|omega|assumption) only[zp,zl,zh,zo,zm,zi,zr,hb7,go_sem]
     refine zn (yu vn (by simp only[Lim];omega)) w7 (by omega) (by omega) (by omega) fun o8 l8 H8 w8 s8=>?_
     have hb8:=s8.box w7.here.own hb7 hbw
     simp(disch:=first|omega|assumption) only[zp,zl,zh,zo,zm,zi,zr,hb8,go_sem]
     refine zn (yD [58] _) w8 (by omega) (by omega) (by omega) fun o9 l9 H9 w9 s9=>?_
     have hb9:=s9.box w8.here.own hb8 hbw
     simp(disch:=first|omega|assumption) only[zp,zl,zh,zo,zm,zi,zr,hb9,go_sem]
     refine zn (args:=[.agg [.str tn,.int .i64 tl,.int .i64 tm]]) (show WC _ [.agg [.str tn,.int .i64 tl,.int .i64 tm]] 20 (-1000) 1000 (fun _=>zG ⟨tn,tl,tm⟩) (tTy ⟨tn,tl,tm⟩) from zfg ⟨tn,tl,tm⟩ (by simp only[Lim];omega)) w9 (by omega) (by omega) (by omega) fun oC lC HC wC sC=>?_
     have hbC:=sC.box w9.here.own hb9 hbw
     simp(disch:=first|omega|assumption) only[zp,zl,zh,zo,zm,zi,zr,hbC,go_sem]
     refine zn (za3 vh vd hwvd (by simp only[Lim];omega)) wC (by omega) (by omega) (by omega) fun oD lD HD wD sD=>?_
     simp(disch:=first|omega|assumption) only[wrap64,go_sem]
     exact goJ (hJ5 (oD,lD) HD (wD.cast (by rw[zaD];omega) (by simp[ZJ,yg]) (by simp[tW]))) (by simp(disch:=first|omega|assumption) only[go_sem])
 ·simp(disch:=first|omega|assumption) only[ir127,eo,hk0,hk1,go_sem]
  refine zn (ZH false) w0 (by omega) (by omega) (by omega) fun o2 l2 H2 w2 _=>?_
  by_cases hnm:nm=[]
  case pos =>
   have w3:=(w2.castC (B':=2) (r':=R3) (tk':=T3) (by omega) (by rw[hR3];simp[hk0,hk1,hnm,nq,nmu]) (fun e=>by first|(rw[hT3];simp[hk0,hk1,hnm];done)|(exfalso;revert e;rw[hR3];simp[hk0,hk1])))
   by_cases hv0:vars.length=0
   case pos =>
    have hv1:¬ ((0:Int)<(vars.length:Int)):=by omega
    have hev:=zfh.1 hv0
    simp(disch:=first|omega|assumption) only[hnm,hcw,hv1,go_sem]
    refine zn (yP true dirs hwd (by simp only[Lim];omega)) w3 (by omega) (by omega) (by omega) fun oA lA HA wA _=>?_
    simp(disch:=first|omega|assumption) only[go_sem]
    refine zn (yL (zac (bSs sels)) sels (Al4 _) hws (by simp only[Lim];omega)) wA (by omega) (by omega) (by omega) fun oB lB HB wB _=>?_
    simp(disch:=first|omega|assumption) only[go_sem]
    exact hQ _ _ HB HB [] nofun rfl (Low.refl _) ⟨rfl,wB.fin (by show _=yF dp _;rw[er];simp[hev,yg]) (fun e=>by rw[et (by have e:yF dp _=true:=e;rw[er] at e;simp only[Al0] at e;exact e.1)];simp[tWs,hv0]) (by simp only[bO];omega)⟩
   case neg =>
    have hev:=hv0
    have hv1:((0:Int)<(vars.length:Int))=True:=eq_true (by omega)
    simp(disch:=first|omega|assumption) only[hnm,hcw,hv1,go_sem]
    refine zn (yD [40] _) w3 (by omega) (by omega) (by omega) fun o4 l4 H4 w4 _=>?_
    simp(disch:=first|omega|assumption) only[hcw,go_sem]
    refine zf vars 35 (fun x:Own×List Tok=>[]) (fun done rest x H'=>WR H o w l ok dp (3+32*bWs done) (R3&&done.all (ZJ dp)) (T3++(pk [40]::done.flatMap tW)) H' x.1 x.2) (o4,l4) (by simp(disch:=first|omega|assumption) only[go_sem]) (w4.cast (by omega) (by simp) (by simp)) ?_ ?_
    case refine_1 =>
     rintro⟨o5,l5⟩ H5 J5 w5 hlt
     simp only at w5
     simp(disch:=first|omega|assumption) only[hcw,hlt,go_sem]
     refine zn (yD [41] _) w5 (by omega) (by omega) (by omega) fun o6 l6 H6 w6 _=>?_
     simp(disch:=first|omega|assumption) only[go_sem]
     refine zn (yP true dirs hwd (by simp only[Lim];omega)) w6 (by omega) (by omega) (by omega) fun oA lA HA wA _=>?_
     simp(disch:=first|omega|assumption) only[go_sem]
     refine zn (yL (zac (bSs sels)) sels (Al4 _) hws (by simp only[Lim];omega)) wA (by omega) (by omega) (by omega) fun oB lB HB wB _=>?_
     simp(disch:=first|omega|assumption) only[go_sem]
     exact hQ _ _ HB HB [] nofun rfl (Low.refl _) ⟨rfl,wB.fin (by show _=yF dp _;rw[er];simp[hev,yg]) (fun e=>by rw[et (by have e:yF dp _=true:=e;rw[er] at e;simp only[Al0] at e;exact e.1)];simp[tWs,hv0]) (by simp only[bO];omega)⟩
    case refine_2 =>
     rintro done x rest ⟨o5,l5⟩ H5 J5 hd hlt hlt2 w5 hJ5
     simp only at w5
     have hg:=Zm hd
     have hbm:=zaY done x rest
     rw[← hd] at hbm
     have hwx:=hwv x (by rw[hd];simp)
     obtain⟨vn,⟨tn,tl,tm⟩,vh,vd⟩:=x
     have hwvd:wfV vd:=hwx.2.2
     have hvp:=YZ vd
     have hbx:bW ⟨vn,⟨tn,tl,tm⟩,vh,vd⟩=vn.length+tn.length+bV vd:=rfl
     rw[zdc] at hg
     simp only at hg
     simp(disch:=first|omega|assumption) only[zp,zl,zh,zo,zm,zi,zr,hcw,hlt,hg,go_sem]
     refine zb fun b hb=>?_
     have hbw:b≠w:=fun e=>by subst e;rw[w5.here.cell] at hb;cases hb
     have w6:=w5.alloc (x:=.cells (.str vn::.str tn::.int .i64 tl::.int .i64 tm::.bool vh::cV vd)) hb
     have hbc:(H5.upd b (.cells (.str vn::.str tn::.int .i64 tl::.int .i64 tm::.bool vh::cV vd))) b=some (.cells (.str vn::.str tn::.int .i64 tl::.int .i64 tm::.bool vh::cV vd)):=upd_same ..
     simp(disch:=first|omega|assumption) only[zp,zl,zh,zo,zm,zi,zr,go_sem]
     refine zn (yD [36] _) w6 (by omega) (by omega) (by omega) fun o7 l7 H7 w7 s7=>?_
     have hb7:=s7.box w6.here.own hbc hbw
     simp(disch:=first|omega|assumption) only[zp,zl,zh,zo,zm,zi,zr,hb7,go_sem]
     refine zn (yu vn (by simp only[Lim];omega)) w7 (by omega) (by omega) (by omega) fun o8 l8 H8 w8 s8=>?_
     have hb8:=s8.box w7.here.own hb7 hbw
     simp(disch:=first|omega|assumption) only[zp,zl,zh,zo,zm,zi,zr,hb8,go_sem]
     refine zn (yD [58] _) w8 (by omega) (by omega) (by omega) fun o9 l9 H9 w9 s9=>?_
     have hb9:=s9.box w8.here.own hb8 hbw
     simp(disch:=first|omega|assumption) only[zp,zl,zh,zo,zm,zi,zr,hb9,go_sem]
     refine zn (args:=[.agg [.str tn,.int .i64 tl,.int .i64 tm]]) (show WC _ [.agg [.str tn,.int .i64 tl,.int .i64 tm]] 20 (-1000) 1000 (fun _=>zG ⟨tn,tl,tm⟩) (tTy ⟨tn,tl,tm⟩) from zfg ⟨tn,tl,tm⟩ (by simp only[Lim];omega)) w9 (by omega) (by omega) (by omega) fun oC lC HC wC sC=>?_
     have hbC:=sC.box w9.here.own hb9 hbw
     simp(disch:=first|omega|assumption) only[zp,zl,zh,zo,zm,zi,zr,hbC,go_sem]
     refine zn (za3 vh vd hwvd (by simp only[Lim];omega)) wC (by omega) (by omega) (by omega) fun oD lD HD wD sD=>?_
     simp(disch:=first|omega|assumption) only[wrap64,go_sem]
     exact goJ (hJ5 (oD,lD) HD (wD.cast (by rw[zaD];omega) (by simp[ZJ,yg]) (by simp[tW]))) (by simp(disch:=first|omega|assumption) only[go_sem])
  case neg =>
   simp(disch:=first|omega|assumption) only[hnm,go_sem]
   refine zn (yu nm (by simp only[Lim];omega)) w2 (by omega) (by omega) (by omega) fun o3 l3 H3 w3' _=>?_
   have w3:=(w3'.castC (B':=2) (r':=R3) (tk':=T3) (by omega) (by rw[hR3];simp[hk0,hk1,hnm,nq,nmu]) (fun e=>by first|(rw[hT3];simp[hk0,hk1,hnm];done)|(exfalso;revert e;rw[hR3];simp[hk0,hk1])))
   by_cases hv0:vars.length=0
   case pos =>
    have hv1:¬ ((0:Int)<(vars.length:Int)):=by omega
    have hev:=zfh.1 hv0
    simp(disch:=first|omega|assumption) only[hnm,hcw,hv1,go_sem]
    refine zn (yP true dirs hwd (by simp only[Lim];omega)) w3 (by omega) (by omega) (by omega) fun oA lA HA wA _=>?_
    simp(disch:=first|omega|assumption) only[go_sem]
    refine zn (yL (zac (bSs sels)) sels (Al4 _) hws (by simp only[Lim];omega)) wA (by omega) (by omega) (by omega) fun oB lB HB wB _=>?_
    simp(disch:=first|omega|assumption) only[go_sem]
    exact hQ _ _ HB HB [] nofun rfl (Low.refl _) ⟨rfl,wB.fin (by show _=yF dp _;rw[er];simp[hev,yg]) (fun e=>by rw[et (by have e:yF dp _=true:=e;rw[er] at e;simp only[Al0] at e;exact e.1)];simp[tWs,hv0]) (by simp only[bO];omega)⟩
   case neg =>
    have hev:=hv0
    have hv1:((0:Int)<(vars.length:Int))=True:=eq_true (by omega)
    simp(disch:=first|omega|assumption) only[hnm,hcw,hv1,go_sem]
    refine zn (yD [40] _) w3 (by omega) (by omega) (by omega) fun o4 l4 H4 w4 _=>?_
    simp(disch:=first|omega|assumption) only[hcw,go_sem]
    refine zf vars 35 (fun x:Own×List Tok=>[]) (fun done rest x H'=>WR H o w l ok dp (3+32*bWs done) (R3&&done.all (ZJ dp)) (T3++(pk [40]::done.flatMap tW)) H' x.1 x.2) (o4,l4) (by simp(disch:=first|omega|assumption) only[go_sem]) (w4.cast (by omega) (by simp) (by simp)) ?_ ?_
    case refine_1 =>
     rintro⟨o5,l5⟩ H5 J5 w5 hlt
     simp only at w5
     simp(disch:=first|omega|assumption) only[hcw,hlt,go_sem]
     refine zn (yD [41] _) w5 (by omega) (by omega) (by omega) fun o6 l6 H6 w6 _=>?_
     simp(disch:=first|omega|assumption) only[go_sem]
     refine zn (yP true dirs hwd (by simp only[Lim];omega)) w6 (by omega) (by omega) (by omega) fun oA lA HA wA _=>?_
     simp(disch:=first|omega|assumption) only[go_sem]
     refine zn (yL (zac (bSs sels)) sels (Al4 _) hws (by simp only[Lim];omega)) wA (by omega) (by omega) (by omega) fun oB lB HB wB _=>?_
     simp(disch:=first|omega|assumption) only[go_sem]
     exact hQ _ _ HB HB [] nofun rfl (Low.refl _) ⟨rfl,wB.fin (by show _=yF dp _;rw[er];simp[hev,yg]) (fun e=>by rw[et (by have e:yF dp _=true:=e;rw[er] at e;simp only[Al0] at e;exact e.1)];simp[tWs,hv0]) (by simp only[bO];omega)⟩
    case refine_2 =>
     rintro done x rest ⟨o5,l5⟩ H5 J5 hd hlt hlt2 w5 hJ5
     simp only at w5
     have hg:=Zm hd
     have hbm:=zaY done x rest
     rw[← hd] at hbm
     have hwx:=hwv x (by rw[hd];simp)
     obtain⟨vn,⟨tn,tl,tm⟩,vh,vd⟩:=x
     have hwvd:wfV vd:=hwx.2.2
     have hvp:=YZ vd
     have hbx:bW ⟨vn,⟨tn,tl,tm⟩,vh,vd⟩=vn.length+tn.length+bV vd:=rfl
     rw[zdc] at hg
     simp only at hg
     simp(disch:=first|omega|assumption) only[zp,zl,zh,zo,zm,zi,zr,hcw,hlt,hg,go_sem]
     refine zb fun b hb=>?_
     have hbw:b≠w:=fun e=>by subst e;rw[w5.here.cell] at hb;cases hb
     have w6:=w5.alloc (x:=.cells (.str vn::.str tn::.int .i64 tl::.int .i64 tm::.bool vh::cV vd)) hb
     have hbc:(H5.upd b (.cells (.str vn::.str tn::.int .i64 tl::.int .i64 tm::.bool vh::cV vd))) b=some (.cells (.str vn::.str tn::.int .i64 tl::.int .i64 tm::.bool vh::cV vd)):=upd_same ..
     simp(disch:=first|omega|assumption) only[zp,zl,zh,zo,zm,zi,zr,go_sem]
     refine zn (yD [36] _) w6 (by omega) (by omega) (by omega) fun o7 l7 H7 w7 s7=>?_
     have hb7:=s7.box w6.here.own hbc hbw
     simp(disch:=first|omega|assumption) only[zp,zl,zh,zo,zm,zi,zr,hb7,go_sem]
     refine zn (yu vn (by simp only[Lim];omega)) w7 (by omega) (by omega) (by omega) fun o8 l8 H8 w8 s8=>?_
     have hb8:=s8.box w7.here.own hb7 hbw
     simp(disch:=first|omega|assumption) only[zp,zl,zh,zo,zm,zi,zr,hb8,go_sem]
     refine zn (yD [58] _) w8 (by omega) (by omega) (by omega) fun o9 l9 H9 w9 s9=>?_
     have hb9:=s9.box w8.here.own hb8 hbw
     simp(disch:=first|omega|assumption) only[zp,zl,zh,zo,zm,zi,zr,hb9,go_sem]
     refine zn (args:=[.agg [.str tn,.int .i64 tl,.int .i64 tm]]) (show WC _ [.agg [.str tn,.int .i64 tl,.int .i64 tm]] 20 (-1000) 1000 (fun _=>zG ⟨tn,tl,tm⟩) (tTy ⟨tn,tl,tm⟩) from zfg ⟨tn,tl,tm⟩ (by simp only[Lim];omega)) w9 (by omega) (by omega) (by omega) fun oC lC HC wC sC=>?_
     have hbC:=sC.box w9.here.own hb9 hbw
     simp(disch:=first|omega|assumption) only[zp,zl,zh,zo,zm,zi,zr,hbC,go_sem]
     refine zn (za3 vh vd hwvd (by simp only[Lim];omega)) wC (by omega) (by omega) (by omega) fun oD lD HD wD sD=>?_
     simp(disch:=first|omega|assumption) only[wrap64,go_sem]
     exact goJ (hJ5 (oD,lD) HD (wD.cast (by rw[zaD];omega) (by simp[ZJ,yg]) (by simp[tW]))) (by simp(disch:=first|omega|assumption) only[go_sem])
section
variable {KP:AV→zc→Prop} {Q:AExit→Env→zc→Prop} {st:List Fr} {ρ:Env} {H:zc} {all items:List AItem} {d:Option Nat} {R:List Chk}
end
theorem yE (l:List (List UInt8)) (x:List UInt8):bT (l++[x])=bT l+(1+x.length):=by simp[bT]
theorem zez (l:List FldD) (x:FldD):bLs (l++[x])=bLs l+bL x:=by simp[bLs]
theorem zn0 (m:List UInt8) (l:List (List UInt8)) (x:List UInt8):tNs m (l++[x])=tNs m l++if l.length=0 then [wk x] else [pk m,wk x]:=by
 cases l with
 | nil=>rfl
 | cons a r=>simp[tNs]
theorem znz (x:OpD):yF 0 x=zgA x:=rfl
theorem znw (l:List OpD) (o:OpD):bOs (l++[o])=bOs l+bO o:=by simp[bOs]
theorem znb (l:List FragD) (o:FragD):bFs (l++[o])=bFs l+bF o:=by simp[bFs]
noncomputable def ziU (d:DocD):List Tok:=if Z6 d then zvb d else []
theorem zo9 (d:DocD) (hw:zcK d) (hb:64*zw d+64≤Lim):zg Tryz.prog 69 [.agg (zX d)] (.tup [.sl .no 2 (cKs (ziU d)),.bool (Z6 d)]):=by
 refine zg.go ir69 ck69 (Al4 _) fun KP Q hQ=>?_
 obtain⟨ops,frags⟩:=d
 obtain⟨hwo,hwf⟩:=hw
 have hlo:=Zo ops
 have hlf:=yM frags
 have hco:=Z2 ops
 have hcf:=Ye frags
 have hb':=hb
 simp only[zw,Lim] at hb'
 have ed:zX ⟨ops,frags⟩=[.sl .no 5 (cOs ops),.sl .no 4 (cFs frags)]:=rfl
 obtain⟨n,hn⟩:∃ n,n=decide (0<ops.length+frags.length):=⟨_,rfl⟩
 simp(disch:=first|omega|assumption) only[ir69,ed,go_sem]
 refine zdk zup fun v H1 ⟨w,hv,hW⟩=>?_
 subst hv
 have w0:=WR.refl hW
 have wl:IntKind.wrap .i64 ((ops.length:Int)+(frags.length:Int))=((ops.length+frags.length:Nat):Int):=by rw[wrap64 (by omega) (by omega)];omega
 by_cases hn0:0<ops.length+frags.length
 case' pos =>
  have hn1:((0:Int)<((ops.length+frags.length:Nat):Int))=True:=eq_true (by omega)
  have hnv:n=true:=by rw[hn];exact decide_eq_true hn0
  simp(disch:=first|omega|assumption) only[hco,hcf,wl,hn1,go_sem]
 case' neg =>
  have hn1:¬ ((0:Int)<((ops.length+frags.length:Nat):Int)):=by omega
  have hnv:n=false:=by rw[hn];exact decide_eq_false hn0
  simp(disch:=first|omega|assumption) only[hco,hcf,wl,hn1,go_sem]
 all_goals
  refine zn (ZH _) w0 (by omega) (by omega) (by simp only[Lim,Al3];omega) fun o2 l2 H2 w2 _=>?_
  simp(disch:=first|omega|assumption) only[hco,go_sem]
  refine zf ops 23 (fun x:Own×List Tok=>[]) (fun done rest x H'=>WR H1 .nil w [] true 0 (64*bOs done) (n&&done.all zgA) (done.flatMap tO) H' x.1 x.2) (o2,l2) (by simp(disch:=first|omega|assumption) only[go_sem]) (w2.cast (by simp) (by simp[hnv]) (by simp)) ?_ ?_
  ·rintro⟨o3,l3⟩ H3 J3 w3 hlt
   simp only at w3
   simp(disch:=first|omega|assumption) only[hco,hlt,hcf,go_sem]
   refine zf frags 34 (fun x:Own×List Tok=>[]) (fun done rest x H'=>WR H1 .nil w [] true 0 (64*bOs ops+32*bFs done) (n&&(ops.all zgA&&done.all zjb)) (ops.flatMap tO++done.flatMap tF) H' x.1 x.2) (o3,l3) (by simp(disch:=first|omega|assumption) only[go_sem]) (w3.cast (by simp[bFs]) (by simp) (by simp)) ?_ ?_
   ·rintro⟨o4,l4⟩ H4 J4 w4 hlt4
    simp only at w4
    have er:Z6 ⟨ops,frags⟩=(n&&(ops.all zgA&&frags.all zjb)):=by rw[hn];rfl
    have hc4:=w4.here.cell
    have e4:=w4.eq
    rw[← er,Bool.true_and] at hc4 e4
    cases hr:Z6 ⟨ops,frags⟩ with
    | false =>
     rw[hr] at hc4 hQ
     simp(disch:=first|omega|assumption) only[hcf,hlt4,hc4,go_sem]
     exact hQ _ _ _ _ nofun rfl (by simp[zd,ze,AV.strip,AV.strip1,ziU,hr,cKs])
    | true =>
     rw[hr] at hc4 hQ
     have e5:=e4 hr
     rw[zc8] at e5
     subst e5
     simp(disch:=first|omega|assumption) only[hcf,hlt4,hc4,go_sem]
     exact hQ _ _ _ _ nofun rfl (by simp[zd,ze,AV.strip,AV.strip1,ziU,hr,zvb])
   ·rintro done x rest ⟨o4,l4⟩ H4 J4 hd hlt4 hlt5 w4 hJ4
    simp only at w4
    have hg:=Yt hd
    have hbm:=ziR done x rest
    rw[← hd] at hbm
    have hwx:=hwf x (by rw[hd];simp)
    have hbx:32*bF x≤Lim:=by simp only[Lim];omega
    have hfw:=zti x hwx hbx
    obtain⟨nm,on,dirs,sels⟩:=x
    have ef:cF ⟨nm,on,dirs,sels⟩=[.str nm,.str on,.sl .no 2 (cDs dirs),.sl .no 7 (cSs sels)]:=rfl
    rw[ef] at hg hfw
    simp(disch:=first|omega|assumption) only[hcf,hlt4,hg,go_sem]
    refine zb fun b hb=>?_
    have w5:=w4.alloc (x:=.cells [.str nm,.str on,.sl .no 2 (cDs dirs),.sl .no 7 (cSs sels)]) hb
    simp(disch:=first|omega|assumption) only[go_sem]
    refine zn hfw w5 (by omega) (by omega) (by simp only[Lim,Al3];omega) fun o6 l6 H6 w6 _=>?_
    simp(disch:=first|omega|assumption) only[wrap64,go_sem]
    exact goJ (hJ4 (o6,l6) H6 (w6.cast (by rw[znb];omega) (by simp[zjb,yg]) (by simp))) (by simp(disch:=first|omega|assumption) only[go_sem])
  ·rintro done x rest ⟨o4,l4⟩ H4 J4 hd hlt4 hlt5 w4 hJ4
   simp only at w4
   have hg:=Yc hd
   have hbm:=YW done x rest
   rw[← hd] at hbm
   have hwx:=hwo x (by rw[hd];simp)
   have hbx:64*bO x≤Lim:=by simp only[Lim];omega
   have hfw:=zvy x hwx hbx
   have hrO:=znz x
   obtain⟨k,nm,vars,dirs,sels⟩:=x
   have ef:cO ⟨k,nm,vars,dirs,sels⟩=[.int .i64 k,.str nm,.sl .no 10 (cWs vars),.sl .no 2 (cDs dirs),.sl .no 7 (cSs sels)]:=rfl
   rw[ef] at hg hfw
   simp(disch:=first|omega|assumption) only[hco,hlt4,hg,go_sem]
   refine zb fun b hb=>?_
   have w5:=w4.alloc (x:=.cells [.int .i64 k,.str nm,.sl .no 10 (cWs vars),.sl .no 2 (cDs dirs),.sl .no 7 (cSs sels)]) hb
   simp(disch:=first|omega|assumption) only[go_sem]
   refine zn hfw w5 (by omega) (by omega) (by simp only[Lim,Al3];omega) fun o6 l6 H6 w6 _=>?_
   simp(disch:=first|omega|assumption) only[wrap64,go_sem]
   exact goJ (hJ4 (o6,l6) H6 (w6.cast (by rw[znw];omega) (by rw[hrO];simp[yg]) (by simp))) (by simp(disch:=first|omega|assumption) only[go_sem])
theorem zqB (d:DocD) (hw:zcK d) (hb:64*zw d+64≤Lim):zg Tryz.prog 25 [.agg (zX d)] (.bool (Z6 d)):=by
 refine zg.go ir25 ck25 (Al4 _) fun KP Q hQ=>?_
 have ed:zX d=[.sl .no 5 (cOs d.ops),.sl .no 4 (cFs d.frags)]:=rfl
 have hT:=zo9 d hw hb
 rw[ed] at hT ⊢
 simp(disch:=first|omega|assumption) only[ir25,go_sem]
 refine za hT ?_
 simp(disch:=first|omega|assumption) only[go_sem]
 exact hQ _ _ _ _ nofun rfl (by simp[zd,ze,AV.strip,AV.strip1])
theorem zfe (a b:List Tok):wT (a++b)=wT a+wT b:=by simp[wT]
theorem zuK (s:List UInt8):wK (pk s)=s.length+4:=rfl
theorem zuq (s:List UInt8):wK (wk s)=s.length+4:=rfl
theorem zgL:wT []=0:=rfl
mutual
theorem zps:∀ v,wfV v→wT (Yn v)+16≤64*bV v
 | .mk k n s l m,⟨hn,hl,hm⟩=>by
  have h1:=zoB l hl
  have h2:=zox m hm
  have h3:(Lib.itoa n).length≤21:=by
   have e:∀ u:Nat,u<18446744073709551616→(Lib.decDigits u).length≤20:=fun u hu=>by
    rw[Lib.decDigits_length];exact Lib.nDigits_le20 u hu
   unfold Lib.itoa;split
   ·have:=e n.natAbs (by have:=hn.1;omega)
    simp;omega
   ·have:=e n.toNat (by have:=hn.2;omega)
    omega
  have h4:(boolT (decide (n=1))).length≤5:=by unfold boolT;split<;>simp
  simp only[Yn,bV]
  repeat' split
  all_goals simp only[zf9,zfe,zgL,wK,Al2,Al3]
  all_goals omega
theorem zoB:∀ l,zlQ l→wT (zbX l)≤64*bVs l
 | [],_=>by simp[zbX,wT]
 | v::r,⟨h,hr⟩=>by
  have h1:=zps v h
  have h2:=zoB r hr
  simp only[zbX,bVs,zfe];omega
theorem zu8:∀ x,wfM x→wT (zj3 x)≤64*bM x
 | .mk s v,h=>by
  have h1:=zps v h
  simp only[zj3,bM,zf9,wK,Al2,Al3];omega
theorem zox:∀ l,zfU l→wT (Yf l)≤64*bMs l
 | [],_=>by simp[Yf,wT]
 | v::r,⟨h,hr⟩=>by
  have h1:=zu8 v h
  have h2:=zox r hr
  simp only[Yf,bMs,zfe];omega
end
theorem zro:zP [116,121,112,101]=true:=by decide
theorem zqJ:zP [105,110,116,101,114,102,97,99,101]=true:=by decide
theorem zgq:zP [117,110,105,111,110]=true:=by decide
theorem ziz:zP [101,110,117,109]=true:=by decide
theorem zhf:zP [105,110,112,117,116]=true:=by decide
theorem zdy:zP [105,109,112,108,101,109,101,110,116,115]=true:=by decide
theorem zhN:zP [115,99,104,101,109,97]=true:=by decide
theorem zkg:zP [113,117,101,114,121]=true:=by decide
theorem zo2:zP [109,117,116,97,116,105,111,110]=true:=by decide
noncomputable def YK (x:DefD):Bool:=zP x.nm&&(x.faces.all zP&&(x.flds.all zfk&&(decide (x.flds.length≠0)&&(decide (x.parts.length=0)&&decide (x.ps.length=0)))))
def ziE (w:List UInt8) (x:DefD):List Tok:=wk w::wk x.nm::((if x.faces.length=0 then [] else wk [105,109,112,108,101,109,101,110,116,115]::tNs [38] x.faces)++(pk [123]::(x.flds.flatMap tL++[pk [125]])))
noncomputable def zav (x:DefD):Bool:=decide (x.parts.length≠0)&&(decide (x.faces.length=0)&&(decide (x.flds.length=0)&&decide (x.ps.length=0)))
noncomputable def Y0 (x:DefD):Bool:=zP x.nm&&(if x.k=3 then x.parts.all zP&&zav x else (x.parts.all zP&&x.parts.all Yx)&&zav x)
def zjd (x:DefD):List Tok:=if x.k=3 then wk [117,110,105,111,110]::wk x.nm::pk [61]::tNs [124] x.parts else wk [101,110,117,109]::wk x.nm::pk [123]::(x.parts.map wk++[pk [125]])
theorem zi1 {α:Type} (p q:α→Bool) (l:List α):(l.all fun x=>q x&&p x)=(l.all p&&l.all q):=by
 induction l with
 | nil=>rfl
 | cons a r ih=>simp only[List.all_cons,ih];cases p a<;>cases q a<;>simp
theorem zdu (l:List DefD) (x:DefD):bEs (l++[x])=bEs l+bE x:=by simp[bEs]
def YC (f:FuncId) (args:List AV) (B W:Nat) (lo hi:Int) (r:Int→Bool) (tk:List Tok):Prop :=
 ∀(H:zc) (w:Nat) (o:Own) (l:List Tok) (ok:Bool) (dp:Int),WAt H w o l ok dp→lo≤dp→dp≤hi→l.length+B≤Lim →
  zj Tryz.prog f (.ptr w 0::args) H (zqg fun v H'=>v=.tup []∧∃ o' l',WAt H' w o' l' (ok&&r dp) dp∧WStep H o w H' o'∧l'.length≤l.length+B∧((ok&&r dp)=true→l'=l++tk)∧wT l'≤wT l+W)
structure YR (H0:zc) (o0:Own) (w:Nat) (l0:List Tok) (ok0:Bool) (dp:Int) (B W:Nat) (r:Bool) (tk:List Tok) (H:zc) (o:Own) (l:List Tok):Prop where
 here:WAt H w o l (ok0&&r) dp
 st:WStep H0 o0 w H o
 len:l.length≤l0.length+B
 eq:(ok0&&r)=true→l=l0++tk
 wt:wT l≤wT l0+W
theorem YR.refl {H:zc} {o:Own} {w:Nat} {l:List Tok} {ok:Bool} {dp:Int} (h:WAt H w o l ok dp):YR H o w l ok dp 0 0 true [] H o l :=
 ⟨by rw[Bool.and_true];exact h,.refl _ _ _,Al4 _,fun _=>by simp,Al4 _⟩
theorem YR.alloc {H0 H:zc} {o0 o:Own} {w b B W:Nat} {l0 l tk:List Tok} {ok0 r:Bool} {dp:Int} {x:AObj} (h:YR H0 o0 w l0 ok0 dp B W r tk H o l) (hb:H b=none):YR H0 o0 w l0 ok0 dp B W r tk (H.upd b x) o l :=
 ⟨h.here.alloc hb,h.st.alloc hb,h.len,h.eq,h.wt⟩
theorem YR.fin {H0 H:zc} {o0 o:Own} {w B B' W W':Nat} {l0 l tk tk':List Tok} {ok0 r r':Bool} {dp:Int} (h:YR H0 o0 w l0 ok0 dp B W r tk H o l) (hr:r=r') (ht:r'=true→tk=tk') (hB:B≤B') (hW:W≤W') :
  ∃ o' l',WAt H w o' l' (ok0&&r') dp∧WStep H0 o0 w H o'∧l'.length≤l0.length+B'∧((ok0&&r')=true→l'=l0++tk')∧wT l'≤wT l0+W':=by
 subst hr
 refine⟨o,l,h.here,h.st,by have:=h.len;omega,fun e=>?_,by have:=h.wt;omega⟩
 rw[h.eq e,ht (by simp only[Al0] at e;exact e.2)]
theorem YR.cast {H0 H:zc} {o0 o:Own} {w B B' W W':Nat} {l0 l tk tk':List Tok} {ok0 r r':Bool} {dp:Int} (h:YR H0 o0 w l0 ok0 dp B W r tk H o l) (hB:B≤B') (hW:W≤W') (hr:r=r') (ht:tk=tk'):YR H0 o0 w l0 ok0 dp B' W' r' tk' H o l:=by
 subst hr;subst ht
 exact⟨h.here,h.st,by have:=h.len;omega,h.eq,by have:=h.wt;omega⟩
theorem YR.castC {H0 H:zc} {o0 o:Own} {w B B' W W':Nat} {l0 l tk tk':List Tok} {ok0 r r':Bool} {dp:Int} (h:YR H0 o0 w l0 ok0 dp B W r tk H o l) (hB:B≤B') (hW:W≤W') (hr:r=r') (ht:r'=true→tk=tk'):YR H0 o0 w l0 ok0 dp B' W' r' tk' H o l:=by
 subst hr
 exact⟨h.here,h.st,by have:=h.len;omega,fun e=>by rw[h.eq e,ht (by simp only[Al0] at e;exact e.2)],by have:=h.wt;omega⟩
theorem YR.after {H0 H1 H:zc} {o0 o1 o:Own} {w B W:Nat} {l0 l tk:List Tok} {ok0 r:Bool} {dp:Int} (h:YR H1 o1 w l0 ok0 dp B W r tk H o l) (hs:WStep H0 o0 w H1 o1) {x:AObj} (hw:H1 w=some x):YR H0 o0 w l0 ok0 dp B W r tk H o l :=
 ⟨h.here,hs.trans hw h.st,h.len,h.eq,h.wt⟩
section
variable {KP:AV→zc→Prop} {Q:AExit→Env→zc→Prop} {st:List Fr} {ρ:Env} {H:zc} {all items:List AItem} {d:Option Nat} {R:List Chk}
theorem zc9 {f:FuncId} {args:List AV} {B W:Nat} {lo hi:Int} {r:Int→Bool} {tk:List Tok} (hc:YC f args B W lo hi r tk) {w:Nat} {o:Own} {l:List Tok} {ok:Bool} {dp:Int} (h:WAt H w o l ok dp) (h0:lo≤dp) (h1:dp≤hi) (hb:l.length+B≤Lim)
  (k:∀ o' l' H',WAt H' w o' l' (ok&&r dp) dp→WStep H o w H' o'→l'.length≤l.length+B→((ok&&r dp)=true→l'=l++tk)→wT l'≤wT l+W→goR Tryz.prog KP Q all items st R (ρ.set d (.tup [])) H') :
  goK Tryz.prog KP Q all items st d R ρ f (.ptr w 0::args) H:=by
 refine zdk (hc H w o l ok dp h h0 h1 hb) fun v H' ⟨hv,o',l',h2,h3,h4,h5,h6⟩=>?_
 subst hv
 exact k o' l' H' h2 h3 h4 h5 h6
theorem zt {f:FuncId} {args:List AV} {B' W':Nat} {lo hi:Int} {r':Int→Bool} {tk':List Tok} (hc:YC f args B' W' lo hi r' tk') {H0:zc} {o0 o:Own} {w B W:Nat} {l0 l tk:List Tok} {ok0 r:Bool} {dp:Int} (h:YR H0 o0 w l0 ok0 dp B W r tk H o l) (h0:lo≤dp) (h1:dp≤hi)
  (hb:l0.length+(B+B')≤Lim) (k:∀ o' l' H',YR H0 o0 w l0 ok0 dp (B+B') (W+W') (r&&r' dp) (tk++tk') H' o' l'→WStep H o w H' o'→goR Tryz.prog KP Q all items st R (ρ.set d (.tup [])) H') :
  goK Tryz.prog KP Q all items st d R ρ f (.ptr w 0::args) H:=by
 have hlen:=h.len
 have hwt:=h.wt
 refine zc9 hc h.here h0 h1 (by omega) fun o' l' H' h2 h3 h4 h5 h6=>k o' l' H' ⟨by rw[← yg];exact h2,h.st.trans h.here.cell h3,by omega,fun e=>?_,by omega⟩ h3
 rw[← yg] at e
 rw[h5 e,h.eq (by simp only[Al0] at e ⊢;exact e.1),zbM]
end
theorem Zw (b:Bool):YC 126 [.bool b] 0 0 (-1000) 1000 (fun _=>b) []:=by
 intro H w o l ok dp h h0 h1 hb
 refine zj.go ir126 ck126 (Al4 _) fun KP Q hQ=>?_
 have hc:=h.cell
 cases ok
 ·simp(disch:=omega) only[ir126,hc,go_sem]
  exact hQ _ _ _ _ [] nofun rfl (Low.refl _) ⟨rfl,o,l,h.put,(WStep.refl ..).upd,by simp,(fun _=>by simp),Al4 _⟩
 ·simp(disch:=omega) only[ir126,hc,go_sem]
  exact hQ _ _ _ _ [] nofun rfl (Low.refl _) ⟨rfl,o,l,by rw[Bool.true_and];exact h.put,(WStep.refl ..).upd,by simp,(fun _=>by simp),Al4 _⟩
theorem yy (s:List UInt8) (hs:s.length≤Lim):YC 189 [.str s] 1 (s.length+4) (-1000) 1000 (fun _=>zP s) [wk s]:=by
 intro H w o l ok dp h h0 h1 hb
 refine zj.go ir189 ck189 (Al4 _) fun KP Q hQ=>?_
 have hkl:=yz l
 simp only[Lim] at hb
 simp(disch:=omega) only[ir189,go_sem]
 refine za (zhF s hs) ?_
 simp(disch:=omega) only[go_sem]
 refine zc9 (Zw _) h h0 h1 (by simp only[Lim];omega) fun o1 l1 H1 h2 h3 h4 h5 h6=>?_
 have hkl1:=yz l1
 have hc:=h2.cell
 simp(disch:=omega) only[hc,go_sem]
 refine zu (by rw[hkl1];exact h2.own) (by simp only[hkl1,Al2,Al3];omega) (by simp only[hkl1,Al2,Al3,maxLen];omega) fun o2 H2 hs2=>?_
 obtain⟨g1,g2,g3⟩:=h2.app (ts:=[wk s]) hs2 (by simp[hkl1])
 have ek:cKs l1++[[AV.int .i64 2,AV.str s]]=cKs (l1++[wk s]):=zaZ l1 (wk s)
 simp(disch:=omega) only[g1,ek,go_sem]
 exact hQ _ _ _ _ [] nofun rfl (Low.refl _) ⟨rfl,o2,l1++[wk s],g2,h3.trans h2.cell g3,by simp;omega,(fun e=>by rw[h5 e];simp),by simp only[zfe,zf9,zgL,zuq];omega⟩
theorem yI (m:List UInt8) (o9:Own):YC 190 [.sl o9 1 [[.str m]]] 1 (m.length+4) (-1000) 1000 (fun _=>true) [pk m]:=by
 intro H w o l ok dp h h0 h1 hb
 refine zj.go ir190 ck190 (Al4 _) fun KP Q hQ=>?_
 simp only[Lim] at hb
 simp(disch:=omega) only[ir190,go_sem]
 refine zf [m] 8 (fun x:Own×List Tok=>[]) (fun done rest x H'=>WAt H' w x.1 x.2 ok dp∧WStep H o w H' x.1∧x.2=l++done.map pk) (o,l) (by simp(disch:=omega) only[go_sem]) ⟨h,.refl _ _ _,by simp⟩ ?_ ?_
 ·rintro⟨o1,l1⟩ H1 J ⟨h2,h3,h4⟩ hlt
  simp only at h2 h3 h4
  simp(disch:=omega) only[go_sem]
  refine hQ _ _ H1 H1 [] nofun rfl (Low.refl _) ⟨rfl,o1,l1,by simpa using h2,h3,by rw[h4];simp,(fun _=>by rw[h4];simp),by rw[h4];simp only[List.map_cons,List.map_nil,zfe,zf9,zgL,zuK];omega⟩
 ·rintro done x rest ⟨o1,l1⟩ H1 J hd hlt hlt2 ⟨h2,h3,h4⟩ hJ
  simp only at h2 h3 h4
  have hl1:l1.length≤l.length+1:=by rw[h4];simp only[Al5,List.length_map];have:=congrArg List.length hd;simp at this;omega
  have hg:([[AV.str m]]:List (List AV)).getD done.length []=[.str x]:=by
   have:([m].map fun k=>[AV.str k]).getD done.length []=[.str x]:=yQ hd
   exact this
  have hkl1:=yz l1
  have hc:=h2.cell
  have hlt1:((done.length:Int)<1)=True:=eq_true (by simpa using hlt)
  have hdl:done.length<1:=by simpa using hlt2
  simp(disch:=omega) only[hlt1,hg,hc,go_sem]
  refine zu (by rw[hkl1];exact h2.own) (by simp only[hkl1,Al2,Al3];omega) (by simp only[hkl1,Al2,Al3,maxLen];omega) fun o2 H2 hs2=>?_
  obtain⟨g1,g2,g3⟩:=h2.app (ts:=[pk x]) hs2 (by simp[hkl1])
  have ek:cKs l1++[[AV.int .i64 1,AV.str x]]=cKs (l1++[pk x]):=zaZ l1 (pk x)
  simp(disch:=omega) only[g1,ek,wrap64,go_sem]
  exact goJ (hJ (o2,l1++[pk x]) _ ⟨g2,h3.trans h2.cell g3,by rw[h4];simp⟩) (by simp(disch:=omega) only[go_sem])
theorem zoA (v:Val) (hw:wfV v) (hv:4*bV v≤Lim) (fixed:Bool):YC 222 [.agg (cV v),.bool fixed] (4*bV v) (64*bV v) 0 32 (fun dp=>z6 dp fixed v) (Yn v):=by
 intro H w o l ok dp h h0 h1 hb
 have hvb:bV v≤Lim:=by simp only[Lim] at hv ⊢;omega
 have htl:(YD v).length≤4*bV v:=by
  have:=zdn v
  rw[zb3];split
  ·omega
  ·simp
 have hwl:wT (YD v)≤64*bV v:=by
  have:=zps v hw
  rw[zb3];split
  ·omega
  ·simp[wT]
 have hkt:=yz (YD v)
 have hdv:=zdr v
 have hvl:=zbh v []
 have hcv:=zK (Zp v [])
 simp only[Lim] at hb hv
 refine zj.go ir222 ck222 (Al4 _) fun KP Q hQ=>?_
 have hc:=h.cell
 have fin:∀(b:Bool),b=z6 dp fixed v→∀(H2:zc) (o2:Own) (l2:List Tok),WAt H2 w o2 l2 (ok&&b) dp→WStep H o w H2 o2→l2.length≤l.length+0→((ok&&b)=true→l2=l++[])→wT l2≤wT l+0 →
   ∀(H3:zc) (o3:Own),OwnS H2 o2 H3 o3 ((cKs l2).length+(cKs (YD v)).length) 2 →
   H3 w=some (.cells [.sl o2 2 (cKs l2),.bool (ok&&b),.int .i64 dp])∧∃ o' l',WAt (H3.upd w (.cells [.sl o3 2 (cKs l2++cKs (YD v)),.bool (ok&&b),.int .i64 dp])) w o' l' (ok&&z6 dp fixed v) dp ∧
    WStep H o w (H3.upd w (.cells [.sl o3 2 (cKs l2++cKs (YD v)),.bool (ok&&b),.int .i64 dp])) o'∧l'.length≤l.length+4*bV v∧((ok&&z6 dp fixed v)=true→l'=l++Yn v)∧wT l'≤wT l+64*bV v:=by
  intro b hbr H2 o2 l2 h2 h3 h4 h5 h6 H3 o3 hs
  obtain⟨g1,g2,g3⟩:=h2.app (ts:=YD v) hs (by simp[yz])
  rw[zhb] at g2 g3
  refine⟨g1,o3,l2++YD v,by rw[← hbr];exact g2,h3.trans h2.cell g3,by simp only[Al5];omega,fun e=>?_,by simp only[zfe];omega⟩
  rw[← hbr] at e
  have er:z6 dp fixed v=true:=by rw[← hbr];simp only[Al0] at e;exact e.2
  have ep:zaL v=true:=by simp only[z6,Al0] at er;exact er.1
  rw[h5 e,zb3,ep];simp
 have d1:IntKind.wrap .i64 (dp+Zx v)=dp+Zx v:=wrap64 (by omega) (by omega)
 cases hp:zaL v with
 | false =>
  have hbr:false=z6 dp fixed v:=by simp[z6,hp]
  simp(disch:=omega) only[zp,zl,zh,zo,zm,zi,zr,ir222,go_sem]
  refine za (zbt v hw hv) ?_
  simp(disch:=omega) only[hp,go_sem]
  refine zc9 (Zw _) h (by omega) (by omega) (by simp only[Lim];omega) fun o2 l2 H2 h2 h3 h4 h5 h6=>?_
  have hk2:=yz l2
  have hc2:=h2.cell
  simp(disch:=omega) only[hc2,go_sem]
  refine zu (by rw[hk2];exact h2.own) (by rw[hk2,hkt];omega) (by rw[hk2,hkt];simp only[maxLen];omega) fun o3 H3 hs3=>?_
  obtain⟨g1,g2⟩:=fin _ hbr H2 o2 l2 h2 h3 h4 h5 h6 H3 o3 hs3
  simp(disch:=omega) only[g1,ZY,go_sem]
  exact hQ _ _ _ _ [] nofun rfl (Low.refl _) ⟨rfl,g2⟩
 | true =>
  by_cases hd:dp+Zx v≤16
  case neg =>
   have hbr:false=z6 dp fixed v:=by simp[z6,hd]
   simp(disch:=omega) only[zp,zl,zh,zo,zm,zi,zr,ir222,go_sem]
   refine za (zbt v hw hv) ?_
   simp(disch:=omega) only[zp,zl,zh,zo,zm,zi,zr,hp,hc,go_sem]
   refine za (zdM v hvb) ?_
   simp(disch:=omega) only[zp,zl,zh,zo,zm,zi,zr,d1,hd,hc,go_sem]
   refine zc9 (Zw _) h (by omega) (by omega) (by simp only[Lim];omega) fun o2 l2 H2 h2 h3 h4 h5 h6=>?_
   have hk2:=yz l2
   have hc2:=h2.cell
   simp(disch:=omega) only[hc2,go_sem]
   refine zu (by rw[hk2];exact h2.own) (by rw[hk2,hkt];omega) (by rw[hk2,hkt];simp only[maxLen];omega) fun o3 H3 hs3=>?_
   obtain⟨g1,g2⟩:=fin _ hbr H2 o2 l2 h2 h3 h4 h5 h6 H3 o3 hs3
   simp(disch:=omega) only[g1,ZY,go_sem]
   exact hQ _ _ _ _ [] nofun rfl (Low.refl _) ⟨rfl,g2⟩
  cases fixed with
  | false =>
   have hbr:true=z6 dp false v:=by simp[z6,hd,hp]
   simp(disch:=omega) only[zp,zl,zh,zo,zm,zi,zr,ir222,go_sem]
   refine za (zbt v hw hv) ?_
   simp(disch:=omega) only[zp,zl,zh,zo,zm,zi,zr,hp,hc,go_sem]
   refine za (zdM v hvb) ?_
   simp(disch:=omega) only[zp,zl,zh,zo,zm,zi,zr,d1,hd,hc,go_sem]
   refine zc9 (Zw _) h (by omega) (by omega) (by simp only[Lim];omega) fun o2 l2 H2 h2 h3 h4 h5 h6=>?_
   have hk2:=yz l2
   have hc2:=h2.cell
   simp(disch:=omega) only[hc2,go_sem]
   refine zu (by rw[hk2];exact h2.own) (by rw[hk2,hkt];omega) (by rw[hk2,hkt];simp only[maxLen];omega) fun o3 H3 hs3=>?_
   obtain⟨g1,g2⟩:=fin _ hbr H2 o2 l2 h2 h3 h4 h5 h6 H3 o3 hs3
   simp(disch:=omega) only[g1,ZY,go_sem]
   exact hQ _ _ _ _ [] nofun rfl (Low.refl _) ⟨rfl,g2⟩
  | true =>
   simp(disch:=omega) only[zp,zl,zh,zo,zm,zi,zr,ir222,go_sem]
   refine za (zbt v hw hv) ?_
   simp(disch:=omega) only[zp,zl,zh,zo,zm,zi,zr,hp,hc,go_sem]
   refine za (zdM v hvb) ?_
   simp(disch:=omega) only[zp,zl,zh,zo,zm,zi,zr,d1,hd,hc,go_sem]
   refine za (zk1 v hvb) ?_
   by_cases hz:(Zp v []).length=0
   ·have hbr:true=z6 dp true v:=by simp[z6,hd,hp,hz]
    have hz':¬ ((0:Int)<(Zp v []).length):=by omega
    simp(disch:=omega) only[zp,zl,zh,zo,zm,zi,zr,hcv,hz',go_sem]
    refine zc9 (Zw _) h (by omega) (by omega) (by simp only[Lim];omega) fun o2 l2 H2 h2 h3 h4 h5 h6=>?_
    have hk2:=yz l2
    have hc2:=h2.cell
    simp(disch:=omega) only[hc2,go_sem]
    refine zu (by rw[hk2];exact h2.own) (by rw[hk2,hkt];omega) (by rw[hk2,hkt];simp only[maxLen];omega) fun o3 H3 hs3=>?_
    obtain⟨g1,g2⟩:=fin _ hbr H2 o2 l2 h2 h3 h4 h5 h6 H3 o3 hs3
    simp(disch:=omega) only[g1,ZY,go_sem]
    exact hQ _ _ _ _ [] nofun rfl (Low.refl _) ⟨rfl,g2⟩
   ·have hbr:false=z6 dp true v:=by simp[z6,hd,hp,hz]
    have hz':((0:Int)<(Zp v []).length)=True:=eq_true (by omega)
    simp(disch:=omega) only[zp,zl,zh,zo,zm,zi,zr,hcv,hz',go_sem]
    refine zc9 (Zw _) h (by omega) (by omega) (by simp only[Lim];omega) fun o2 l2 H2 h2 h3 h4 h5 h6=>?_
    have hk2:=yz l2
    have hc2:=h2.cell
    simp(disch:=omega) only[hc2,go_sem]
    refine zu (by rw[hk2];exact h2.own) (by rw[hk2,hkt];omega) (by rw[hk2,hkt];simp only[maxLen];omega) fun o3 H3 hs3=>?_
    obtain⟨g1,g2⟩:=fin _ hbr H2 o2 l2 h2 h3 h4 h5 h6 H3 o3 hs3
    simp(disch:=omega) only[g1,ZY,go_sem]
    exact hQ _ _ _ _ [] nofun rfl (Low.refl _) ⟨rfl,g2⟩
theorem zoW (t:TyD) (hs:t.nm.length≤Lim):YC 191 [.agg (cTy t)] 20 (200+t.nm.length) (-1000) 1000 (fun _=>zG t) (tTy t):=by
 intro H w o l ok dp h h0 h1 hb
 have hb0:=hb
 simp only[Lim] at hb
 refine zj.go ir191 ck191 (Al4 _) fun KP Q hQ=>?_
 obtain⟨nm,ls,ms⟩:=t
 simp only at hs
 have et:cTy ⟨nm,ls,ms⟩=[.str nm,.int .i64 ls,.int .i64 ms]:=rfl
 simp(disch:=omega) only[ir191,et,steps,st2,pev,rev,oev,yj,yt,yB,yC,bound,zM,mm2,mk,zv,AV.cells,AV.boxable,AV.one,AV.strip1,AV.strip2,zL,zI,Nat.reduceEqDiff,reduceCtorEq,↓reduceIte,Nat.reduceAdd,Int.reduceNeg,Nat.reduceLeDiff,Int.reduceToNat,Int.reduceEq,Int.reduceLT,Int.reduceLE,Int.reduceAdd,Io,Im,If,Il,Jt,Jf,AC.rg,Jm,Jl,Ja,Fm,Fl,Fa,Imv,Imb,Iai,Iei,Igi,Isi,Ipf,Ipt,Ilb,Iia,Ilt,Iap,Ink,Iln,Ils,Iad,Iex,Ibx,Ing]
 refine za (show zg Tryz.prog 199 [.agg [.str nm,.int .i64 ls,.int .i64 ms]] (.bool (zG ⟨nm,ls,ms⟩)) from YG ⟨nm,ls,ms⟩ hs) ?_
 simp(disch:=omega) only[steps,st2,pev,rev,oev,yj,yt,yB,yC,bound,zM,mm2,mk,zv,AV.cells,AV.boxable,AV.one,AV.strip1,AV.strip2,zL,zI,Nat.reduceEqDiff,reduceCtorEq,↓reduceIte,Nat.reduceAdd,Int.reduceNeg,Nat.reduceLeDiff,Int.reduceToNat,Int.reduceEq,Int.reduceLT,Int.reduceLE,Int.reduceAdd]
 refine zc9 (Zw _) h (by omega) (by omega) (by simp only[Lim];omega) fun o2 l2 H2 h2 h3 h4 h5 h60=>?_
 have hc2:=h2.cell
 cases hok:ok&&zG ⟨nm,ls,ms⟩ with
 | false =>
  rw[hok] at h2 hc2
  simp(disch:=omega) only[hc2,steps,st2,pev,rev,oev,yj,yt,yB,yC,bound,zM,mm2,mk,zv,AV.cells,AV.boxable,AV.one,AV.strip1,AV.strip2,zL,zI,Nat.reduceEqDiff,reduceCtorEq,↓reduceIte,Nat.reduceAdd,Int.reduceNeg,Nat.reduceLeDiff,Int.reduceToNat,Int.reduceEq,Int.reduceLT,Int.reduceLE,Int.reduceAdd]
  exact hQ _ _ H2 H2 [] nofun rfl (Low.refl _) ⟨rfl,o2,l2,by rw[hok];exact h2,h3,by omega,(fun e=>by rw[hok] at e;cases e),by simp only;omega⟩
 | true =>
  rw[hok] at h2 hc2 h5
  have e2:l2=l:=by have:=h5 rfl;simpa using this
  subst e2
  have hrt:zG ⟨nm,ls,ms⟩=true:=by simp only[Al0] at hok;exact hok.2
  have hok1:ok=true:=by simp only[Al0] at hok;exact hok.1
  simp only[zG,Al0,yX] at hrt
  obtain⟨hnm,r1,r2,r3,r4⟩:=hrt
  obtain⟨n,rfl⟩:∃ n:Nat,ls=(n:Int):=⟨ls.toNat,by omega⟩
  have en:(n:Int).toNat=n:=by omega
  rw[en] at r4
  have hn4:n≤4:=by omega
  have hms:ms<64:=by
   have:(2:Int) ^ (n+1)≤2 ^ 5:=by exact_mod_cast Nat.pow_le_pow_right (by decide) (by omega:n+1≤5)
   omega
  have w0:=YR.refl h2
  simp(disch:=omega) only[hc2,steps,st2,pev,rev,oev,yj,yt,yB,yC,bound,zM,mm2,mk,zv,AV.cells,AV.boxable,AV.one,AV.strip1,AV.strip2,zL,zI,Nat.reduceEqDiff,reduceCtorEq,↓reduceIte,Nat.reduceAdd,Int.reduceNeg,Nat.reduceLeDiff,Int.reduceToNat,Int.reduceEq,Int.reduceLT,Int.reduceLE,Int.reduceAdd]
  refine zbF (fun x:Nat×Own×List Tok=>[(16,.int .i64 x.1)]) (fun x H'=>x.1≤n∧YR H2 o2 w l2 true dp x.1 (5*x.1) true (List.replicate x.1 (pk [91])) H' x.2.1 x.2.2) (fun x=>n-x.1) (0,o2,l2) (by simp(disch:=omega) only[steps,st2,pev,rev,oev,yj,yt,yB,yC,bound,zM,mm2,mk,zv,AV.cells,AV.boxable,AV.one,AV.strip1,AV.strip2,zL,zI,Nat.reduceEqDiff,reduceCtorEq,↓reduceIte,Nat.reduceAdd,Int.reduceNeg,Nat.reduceLeDiff,Int.reduceToNat,Int.reduceEq,Int.reduceLT,Int.reduceLE,Int.reduceAdd]) ⟨by simp,w0⟩ ?_
  rintro⟨i,o3,l3⟩ H3 J ⟨hi,w3⟩ hJ
  simp only at hi w3
  by_cases hlt:i<n
  ·have hlt':((i:Int)<n)=True:=eq_true (by omega)
   simp(disch:=omega) only[hlt',steps,st2,pev,rev,oev,yj,yt,yB,yC,bound,zM,mm2,mk,zv,AV.cells,AV.boxable,AV.one,AV.strip1,AV.strip2,zL,zI,Nat.reduceEqDiff,reduceCtorEq,↓reduceIte,Nat.reduceAdd,Int.reduceNeg,Nat.reduceLeDiff,Int.reduceToNat,Int.reduceEq,Int.reduceLT,Int.reduceLE,Int.reduceAdd]
   refine zt (yI [91] _) w3 (by omega) (by omega) (by simp only[Lim];omega) fun o4 l4 H4 w4 _=>?_
   simp(disch:=omega) only[wrap64,steps,st2,pev,rev,oev,yj,yt,yB,yC,bound,zM,mm2,mk,zv,AV.cells,AV.boxable,AV.one,AV.strip1,AV.strip2,zL,zI,Nat.reduceEqDiff,reduceCtorEq,↓reduceIte,Nat.reduceAdd,Int.reduceNeg,Nat.reduceLeDiff,Int.reduceToNat,Int.reduceEq,Int.reduceLT,Int.reduceLE,Int.reduceAdd]
   exact goJ (hJ (i+1,o4,l4) H4 (by simp only;omega) ⟨by simp only;omega,w4.cast (Al4 _) (by (try simp only[Al2,Al3]);omega) rfl (by rw[List.replicate_succ'])⟩) (by simp(disch:=omega) only[Int.natCast_add,steps,st2,pev,rev,oev,yj,yt,yB,yC,bound,zM,mm2,mk,zv,AV.cells,AV.boxable,AV.one,AV.strip1,AV.strip2,zL,zI,Nat.reduceEqDiff,reduceCtorEq,↓reduceIte,Nat.reduceAdd,Int.reduceNeg,Nat.reduceLeDiff,Int.reduceToNat,Int.reduceEq,Int.reduceLT,Int.reduceLE,Int.reduceAdd])
  ·have hlt':¬ ((i:Int)<n):=by omega
   obtain rfl:i=n:=by omega
   simp(disch:=omega) only[hlt',steps,st2,pev,rev,oev,yj,yt,yB,yC,bound,zM,mm2,mk,zv,AV.cells,AV.boxable,AV.one,AV.strip1,AV.strip2,zL,zI,Nat.reduceEqDiff,reduceCtorEq,↓reduceIte,Nat.reduceAdd,Int.reduceNeg,Nat.reduceLeDiff,Int.reduceToNat,Int.reduceEq,Int.reduceLT,Int.reduceLE,Int.reduceAdd]
   refine zt (yy nm hs) w3 (by omega) (by omega) (by simp only[Lim];omega) fun o4 l4 H4 w4 _=>?_
   rw[hnm] at w4
   simp(disch:=omega) only[steps,st2,pev,rev,oev,yj,yt,yB,yC,bound,zM,mm2,mk,zv,AV.cells,AV.boxable,AV.one,AV.strip1,AV.strip2,zL,zI,Nat.reduceEqDiff,reduceCtorEq,↓reduceIte,Nat.reduceAdd,Int.reduceNeg,Nat.reduceLeDiff,Int.reduceToNat,Int.reduceEq,Int.reduceLT,Int.reduceLE,Int.reduceAdd]
   refine zbF (fun x:Nat×Own×List Tok×Nat×List Tok=>[(4,.int .i64 ((x.1:Int)-1))]) (fun x H'=>x.1≤i+1∧x.2.2.2.1+2*x.1≤19∧x.2.2.2.2++zci i ms x.1=tTy ⟨nm,i,ms⟩∧YR H2 o2 w l2 true dp x.2.2.2.1 (nm.length+5*x.2.2.2.1) true x.2.2.2.2 H' x.2.1 x.2.2.1) (fun x=>x.1)
    (i+1,o4,l4,i+1,List.replicate i (pk [91])++[wk nm]) (by simp(disch:=omega) only[Int.natCast_add,Int.add_sub_cancel,steps,st2,pev,rev,oev,yj,yt,yB,yC,bound,zM,mm2,mk,zv,AV.cells,AV.boxable,AV.one,AV.strip1,AV.strip2,zL,zI,Nat.reduceEqDiff,reduceCtorEq,↓reduceIte,Nat.reduceAdd,Int.reduceNeg,Nat.reduceLeDiff,Int.reduceToNat,Int.reduceEq,Int.reduceLT,Int.reduceLE,Int.reduceAdd]) ⟨by simp,by simp only;omega,by simp only[tTy,en,zeR];simp,w4.cast (Al4 _) (by (try simp only);omega) rfl rfl⟩ ?_
   rintro⟨k,o5,l5,B,tk⟩ H5 J5 ⟨hk,hB,htk,w5⟩ hJ5
   simp only at hk hB htk w5
   cases k with
   | zero =>
    have hz:¬ ((0:Int)≤-1):=by omega
    have w6:=w5.after h3 h2.cell
    simp only[zci,List.append_nil] at htk
    simp(disch:=omega) only[hz,Int.reduceSub,steps,st2,pev,rev,oev,yj,yt,yB,yC,bound,zM,mm2,mk,zv,AV.cells,AV.boxable,AV.one,AV.strip1,AV.strip2,zL,zI,Nat.reduceEqDiff,reduceCtorEq,↓reduceIte,Nat.reduceAdd,Int.reduceNeg,Nat.reduceLeDiff,Int.reduceToNat,Int.reduceEq,Int.reduceLT,Int.reduceLE,Int.reduceAdd]
    refine hQ _ _ H5 H5 [] nofun rfl (Low.refl _) ⟨rfl,?_⟩
    obtain⟨o',l',g1,g2,g3,g4,g5⟩:=w6.fin (B':=20) (W':=200+nm.length) rfl (fun _=>htk) (by omega) (by omega)
    rw[hok]
    exact⟨o',l',by simpa using g1,g2,by omega,(fun _=>by simpa using g4 rfl),g5⟩
   | succ j =>
    have e0:((j+1:Nat):Int)-1=(j:Int):=by omega
    have hz:((0:Int)≤j)=True:=eq_true (by omega)
    have hbit:=zj8 ms j (by omega)
    have hq0:0≤ms / 2 ^ j:=Int.ediv_nonneg r3 (by exact_mod_cast Nat.zero_le _)
    have hq1:ms / 2 ^ j<64:=by
     have:ms / 2 ^ j≤ms:=Int.ediv_le_self _ r3
     omega
    have ha:=and1 hq0 hq1
    have hj0:¬ ((j:Int)<0):=by omega
    simp only[zci,zoP] at htk
    by_cases hji:j<i
    ·have hji':((j:Int)<i)=True:=eq_true (by omega)
     rw[if_pos hji] at htk
     simp(disch:=omega) only[e0,hz,hji',steps,st2,pev,rev,oev,yj,yt,yB,yC,bound,zM,mm2,mk,zv,AV.cells,AV.boxable,AV.one,AV.strip1,AV.strip2,zL,zI,Nat.reduceEqDiff,reduceCtorEq,↓reduceIte,Nat.reduceAdd,Int.reduceNeg,Nat.reduceLeDiff,Int.reduceToNat,Int.reduceEq,Int.reduceLT,Int.reduceLE,Int.reduceAdd]
     refine zt (yI [93] _) w5 (by omega) (by omega) (by simp only[Lim];omega) fun o6 l6 H6 w6 _=>?_
     by_cases hbt:ms / 2 ^ j % 2=1
     ·have hbb:zcP ms j=true:=by simp[zcP,hbt]
      rw[hbb] at htk
      simp(disch:=omega) only[hbit,hj0,ha,hbt,steps,st2,pev,rev,oev,yj,yt,yB,yC,bound,zM,mm2,mk,zv,AV.cells,AV.boxable,AV.one,AV.strip1,AV.strip2,zL,zI,Nat.reduceEqDiff,reduceCtorEq,↓reduceIte,Nat.reduceAdd,Int.reduceNeg,Nat.reduceLeDiff,Int.reduceToNat,Int.reduceEq,Int.reduceLT,Int.reduceLE,Int.reduceAdd]
      refine zt (yI [33] _) w6 (by omega) (by omega) (by simp only[Lim];omega) fun o7 l7 H7 w7 _=>?_
      simp(disch:=omega) only[wrap64,steps,st2,pev,rev,oev,yj,yt,yB,yC,bound,zM,mm2,mk,zv,AV.cells,AV.boxable,AV.one,AV.strip1,AV.strip2,zL,zI,Nat.reduceEqDiff,reduceCtorEq,↓reduceIte,Nat.reduceAdd,Int.reduceNeg,Nat.reduceLeDiff,Int.reduceToNat,Int.reduceEq,Int.reduceLT,Int.reduceLE,Int.reduceAdd]
      exact goJ (hJ5 (j,o7,l7,B+1+1,tk++[pk [93]]++[pk [33]]) H7 (Nat.lt_succ_self j) ⟨by simp only;omega,by simp only;omega,by rw[← htk];simp,w7.cast (Al4 _) (by (try simp only[Al2,Al3]);omega) rfl rfl⟩) (by simp(disch:=omega) only[steps,st2,pev,rev,oev,yj,yt,yB,yC,bound,zM,mm2,mk,zv,AV.cells,AV.boxable,AV.one,AV.strip1,AV.strip2,zL,zI,Nat.reduceEqDiff,reduceCtorEq,↓reduceIte,Nat.reduceAdd,Int.reduceNeg,Nat.reduceLeDiff,Int.reduceToNat,Int.reduceEq,Int.reduceLT,Int.reduceLE,Int.reduceAdd])
     ·have hbb:zcP ms j=false:=by simp[zcP,hbt]
      rw[hbb] at htk
      simp(disch:=omega) only[hbit,hj0,ha,hbt,wrap64,steps,st2,pev,rev,oev,yj,yt,yB,yC,bound,zM,mm2,mk,zv,AV.cells,AV.boxable,AV.one,AV.strip1,AV.strip2,zL,zI,Nat.reduceEqDiff,reduceCtorEq,↓reduceIte,Nat.reduceAdd,Int.reduceNeg,Nat.reduceLeDiff,Int.reduceToNat,Int.reduceEq,Int.reduceLT,Int.reduceLE,Int.reduceAdd]
      exact goJ (hJ5 (j,o6,l6,B+1,tk++[pk [93]]) H6 (Nat.lt_succ_self j) ⟨by simp only;omega,by simp only;omega,by rw[← htk];simp,w6.cast (Al4 _) (by (try simp only[Al2,Al3]);omega) rfl rfl⟩) (by simp(disch:=omega) only[steps,st2,pev,rev,oev,yj,yt,yB,yC,bound,zM,mm2,mk,zv,AV.cells,AV.boxable,AV.one,AV.strip1,AV.strip2,zL,zI,Nat.reduceEqDiff,reduceCtorEq,↓reduceIte,Nat.reduceAdd,Int.reduceNeg,Nat.reduceLeDiff,Int.reduceToNat,Int.reduceEq,Int.reduceLT,Int.reduceLE,Int.reduceAdd])
    ·have hji':¬ ((j:Int)<i):=by omega
     rw[if_neg hji] at htk
     by_cases hbt:ms / 2 ^ j % 2=1
     ·have hbb:zcP ms j=true:=by simp[zcP,hbt]
      rw[hbb] at htk
      simp(disch:=omega) only[e0,hz,hji',hbit,hj0,ha,hbt,steps,st2,pev,rev,oev,yj,yt,yB,yC,bound,zM,mm2,mk,zv,AV.cells,AV.boxable,AV.one,AV.strip1,AV.strip2,zL,zI,Nat.reduceEqDiff,reduceCtorEq,↓reduceIte,Nat.reduceAdd,Int.reduceNeg,Nat.reduceLeDiff,Int.reduceToNat,Int.reduceEq,Int.reduceLT,Int.reduceLE,Int.reduceAdd]
      refine zt (yI [33] _) w5 (by omega) (by omega) (by simp only[Lim];omega) fun o7 l7 H7 w7 _=>?_
      simp(disch:=omega) only[wrap64,steps,st2,pev,rev,oev,yj,yt,yB,yC,bound,zM,mm2,mk,zv,AV.cells,AV.boxable,AV.one,AV.strip1,AV.strip2,zL,zI,Nat.reduceEqDiff,reduceCtorEq,↓reduceIte,Nat.reduceAdd,Int.reduceNeg,Nat.reduceLeDiff,Int.reduceToNat,Int.reduceEq,Int.reduceLT,Int.reduceLE,Int.reduceAdd]
      exact goJ (hJ5 (j,o7,l7,B+1,tk++[pk [33]]) H7 (Nat.lt_succ_self j) ⟨by simp only;omega,by simp only;omega,by rw[← htk];simp,w7.cast (Al4 _) (by (try simp only[Al2,Al3]);omega) rfl rfl⟩) (by simp(disch:=omega) only[steps,st2,pev,rev,oev,yj,yt,yB,yC,bound,zM,mm2,mk,zv,AV.cells,AV.boxable,AV.one,AV.strip1,AV.strip2,zL,zI,Nat.reduceEqDiff,reduceCtorEq,↓reduceIte,Nat.reduceAdd,Int.reduceNeg,Nat.reduceLeDiff,Int.reduceToNat,Int.reduceEq,Int.reduceLT,Int.reduceLE,Int.reduceAdd])
     ·have hbb:zcP ms j=false:=by simp[zcP,hbt]
      rw[hbb] at htk
      simp(disch:=omega) only[e0,hz,hji',hbit,hj0,ha,hbt,wrap64,steps,st2,pev,rev,oev,yj,yt,yB,yC,bound,zM,mm2,mk,zv,AV.cells,AV.boxable,AV.one,AV.strip1,AV.strip2,zL,zI,Nat.reduceEqDiff,reduceCtorEq,↓reduceIte,Nat.reduceAdd,Int.reduceNeg,Nat.reduceLeDiff,Int.reduceToNat,Int.reduceEq,Int.reduceLT,Int.reduceLE,Int.reduceAdd]
      exact goJ (hJ5 (j,o5,l5,B,tk) H5 (Nat.lt_succ_self j) ⟨by simp only;omega,by simp only;omega,by rw[← htk];simp,w5⟩) (by simp(disch:=omega) only[steps,st2,pev,rev,oev,yj,yt,yB,yC,bound,zM,mm2,mk,zv,AV.cells,AV.boxable,AV.one,AV.strip1,AV.strip2,zL,zI,Nat.reduceEqDiff,reduceCtorEq,↓reduceIte,Nat.reduceAdd,Int.reduceNeg,Nat.reduceLeDiff,Int.reduceToNat,Int.reduceEq,Int.reduceLT,Int.reduceLE,Int.reduceAdd])
theorem zog (has:Bool) (v:Val) (hw:wfV v) (hv:4*bV v≤Lim):YC 192 [.bool has,.agg (cV v)] (1+4*bV v) (5+64*bV v) 0 32 (fun dp=>if has then z6 dp true v else eqd v zV) (tDf has v):=by
 intro H w o l ok dp h h0 h1 hb
 have hvb:bV v≤Lim:=by simp only[Lim] at hv ⊢;omega
 refine zj.go ir192 ck192 (Al4 _) fun KP Q hQ=>?_
 have w0:=YR.refl h
 cases has with
 | false =>
  simp(disch:=omega) only[zp,zl,zh,zo,zm,zi,zr,ir192,go_sem]
  refine za (zg.low (r:=.bool (eqd v zV)) (by
   have:=zn1 v hvb zV
   simpa[AV.strip,zgB,zmI,AV.strip1] using this)) ?_
  simp(disch:=omega) only[go_sem]
  refine zt (Zw _) w0 (by omega) (by omega) (by omega) fun o2 l2 H2 w2 _=>?_
  simp(disch:=omega) only[go_sem]
  exact hQ _ _ H2 H2 [] nofun rfl (Low.refl _) ⟨rfl,w2.fin (by simp) (fun _=>by simp[tDf]) (by omega) (by (try simp only[Al2,Al3]);omega)⟩
 | true =>
  simp(disch:=omega) only[zp,zl,zh,zo,zm,zi,zr,ir192,go_sem]
  refine zt (yI [61] _) w0 (by omega) (by omega) (by omega) fun o2 l2 H2 w2 _=>?_
  simp(disch:=omega) only[zp,zl,zh,zo,zm,zi,zr,go_sem]
  refine zt (zoA v hw hv true) w2 (by omega) (by omega) (by omega) fun o3 l3 H3 w3 _=>?_
  simp(disch:=omega) only[go_sem]
  exact hQ _ _ H3 H3 [] nofun rfl (Low.refl _) ⟨rfl,w3.fin (by simp) (fun _=>by simp[tDf]) (by omega) (by (try simp only[Al2,Al3]);omega)⟩
theorem zuh (fixed:Bool) (m:List Mem) (hw:zfU m) (hm:8*bMs m≤Lim):YC 223 [.bool fixed,.sl .no 6 (cMs m)] (2+6*bMs m) (10+80*bMs m) 0 32 (fun dp=>Y3 dp fixed m) (zgD m):=by
 intro H w o l ok dp h h0 h1 hb
 have hml:=Ze m
 have hcl:=Za m
 refine zj.go ir223 ck223 (Al4 _) fun KP Q hQ=>?_
 have w0:=YR.refl h
 by_cases hz:m.length=0
 ·have hz':((m.length:Int)=0)=True:=eq_true (by omega)
  simp(disch:=omega) only[ir223,hcl,hz',go_sem]
  have em:=zfh.1 hz
  subst em
  exact hQ _ _ H H [] nofun rfl (Low.refl _) ⟨rfl,w0.fin rfl (fun _=>rfl) (by omega) (by omega)⟩
 ·have hz':¬ ((m.length:Int)=0):=by omega
  simp(disch:=omega) only[ir223,hcl,hz',go_sem]
  refine zt (yI [40] _) w0 (by omega) (by omega) (by omega) fun o2 l2 H2 w2 _=>?_
  simp(disch:=omega) only[hcl,go_sem]
  refine zf m 16 (fun x:Own×List Tok=>[]) (fun done rest x H'=>YR H o w l ok dp (1+6*bMs done) (5+80*bMs done) (Y3 dp fixed done) (pk [40]::Yf done) H' x.1 x.2) (o2,l2) (by simp(disch:=omega) only[go_sem]) (w2.cast (by omega) (by simp[bMs]) rfl rfl) ?_ ?_
  ·rintro⟨o3,l3⟩ H3 J w3 hlt
   simp only at w3
   simp(disch:=omega) only[hcl,hlt,go_sem]
   refine zt (yI [41] _) w3 (by omega) (by omega) (by omega) fun o4 l4 H4 w4 _=>?_
   simp(disch:=omega) only[go_sem]
   exact hQ _ _ H4 H4 [] nofun rfl (Low.refl _) ⟨rfl,w4.fin (by simp) (fun _=>by unfold zgD;rw[if_neg hz];rfl) (by omega) (by (try simp only[Al2,Al3]);omega)⟩
  ·rintro done x rest ⟨o3,l3⟩ H3 J hd hlt hlt2 w3 hJ
   simp only at w3
   have hg:=Zs hd
   have hbm:=zat done x rest
   rw[← hd] at hbm
   have hmem:x∈m:=by rw[hd];simp
   obtain⟨s,v⟩:=x
   have hwv:=zeu hw s v hmem
   have hvp:=YZ v
   simp only[bM] at hbm
   have hm':=hm
   simp only[Lim] at hm'
   have hbw:b0 w=b0 w:=rfl
   simp(disch:=omega) only[zp,zl,zh,zo,zm,zi,zr,hcl,hlt,hg,go_sem]
   refine zb fun b hb=>?_
   have hbw:b≠w:=fun e=>by subst e;rw[w3.here.cell] at hb;cases hb
   have w4:=w3.alloc (x:=.cells (.str s::cV v)) hb
   have hbc:(H3.upd b (.cells (.str s::cV v))) b=some (.cells (.str s::cV v)):=upd_same ..
   simp(disch:=omega) only[zp,zl,zh,zo,zm,zi,zr,go_sem]
   refine zt (yy s (by simp only[Lim];omega)) w4 (by omega) (by omega) (by omega) fun o5 l5 H5 w5 s5=>?_
   have hb5:=s5.box w4.here.own hbc hbw
   simp(disch:=omega) only[zp,zl,zh,zo,zm,zi,zr,hb5,go_sem]
   refine zt (yI [58] _) w5 (by omega) (by omega) (by omega) fun o6 l6 H6 w6 s6=>?_
   have hb6:=s6.box w5.here.own hb5 hbw
   simp(disch:=omega) only[zp,zl,zh,zo,zm,zi,zr,hb6,go_sem]
   refine zt (zoA v hwv (by simp only[Lim];omega) fixed) w6 (by omega) (by omega) (by omega) fun o7 l7 H7 w7 s7=>?_
   simp(disch:=omega) only[wrap64,go_sem]
   exact goJ (hJ (o7,l7) H7 (w7.cast (by rw[zat done (.mk s v) []];simp only[bM,bMs];omega) (by rw[zat done (.mk s v) []];simp only[bM,bMs,Al2,Al3];omega) (by simp[Y3,zi6,yg]) (by rw[zfp];simp[Yf,zj3,wk,pk]))) (by simp(disch:=omega) only[go_sem])
theorem zsc (fixed:Bool) (m:List DirD) (hw:zlt m) (hm:8*bDs m≤Lim):YC 193 [.bool fixed,.sl .no 2 (cDs m)] (8*bDs m) (88*bDs m) 0 32 (fun dp=>Zf dp fixed m) (tDs m):=by
 intro H w o l ok dp h h0 h1 hb
 have hml:=zau m
 have hcl:=YP m
 have hm':=hm
 simp only[Lim] at hm'
 refine zj.go ir193 ck193 (Al4 _) fun KP Q hQ=>?_
 have w0:=YR.refl h
 simp(disch:=omega) only[ir193,hcl,go_sem]
 refine zf m 10 (fun x:Own×List Tok=>[]) (fun done rest x H'=>YR H o w l ok dp (8*bDs done) (88*bDs done) (Zf dp fixed done) (tDs done) H' x.1 x.2) (o,l) (by simp(disch:=omega) only[go_sem]) (w0.cast (by omega) (by omega) rfl rfl) ?_ ?_
 ·rintro⟨o3,l3⟩ H3 J w3 hlt
  simp only at w3
  simp(disch:=omega) only[hcl,hlt,go_sem]
  exact hQ _ _ H3 H3 [] nofun rfl (Low.refl _) ⟨rfl,w3.fin rfl (fun _=>rfl) (by omega) (by omega)⟩
 ·rintro done x rest ⟨o3,l3⟩ H3 J hd hlt hlt2 w3 hJ
  simp only at w3
  have hg:=zar hd
  have hbm:=zcp done x rest
  rw[← hd] at hbm
  have hmem:x∈m:=by rw[hd];simp
  have hwx:=hw x hmem
  obtain⟨s,args⟩:=x
  have hal:=Ze args
  simp only[bD] at hbm
  have ex:cD ⟨s,args⟩=[.str s,.sl .no 6 (cMs args)]:=rfl
  rw[ex] at hg
  simp(disch:=omega) only[hcl,hlt,hg,go_sem]
  refine zb fun b hb=>?_
  have hbw:b≠w:=fun e=>by subst e;rw[w3.here.cell] at hb;cases hb
  have w4:=w3.alloc (x:=.cells [.str s,.sl .no 6 (cMs args)]) hb
  have hbc:(H3.upd b (.cells [.str s,.sl .no 6 (cMs args)])) b=some (.cells [.str s,.sl .no 6 (cMs args)]):=upd_same ..
  simp(disch:=omega) only[go_sem]
  refine zt (yI [64] _) w4 (by omega) (by omega) (by omega) fun o5 l5 H5 w5 s5=>?_
  have hb5:=s5.box w4.here.own hbc hbw
  simp(disch:=omega) only[hb5,go_sem]
  refine zt (yy s (by simp only[Lim];omega)) w5 (by omega) (by omega) (by omega) fun o6 l6 H6 w6 s6=>?_
  have hb6:=s6.box w5.here.own hb5 hbw
  simp(disch:=omega) only[hb6,go_sem]
  refine zt (zuh fixed args hwx (by simp only[Lim];omega)) w6 (by omega) (by omega) (by omega) fun o7 l7 H7 w7 s7=>?_
  simp(disch:=omega) only[wrap64,go_sem]
  exact goJ (hJ (o7,l7) H7 (w7.cast (by rw[zg7];simp only[bD];omega) (by rw[zg7];simp only[bD,Al2,Al3];omega) (by rw[zen];simp[zf4,yg]) (by rw[zkE];simp[tD]))) (by simp(disch:=omega) only[go_sem])
def ZS (f:FuncId) (args:List AV) (B W:Nat) (r:Bool) (tk:List Tok):Prop :=
 ∀(H:zc) (w:Nat) (o:Own) (l:List Tok) (ok:Bool),WAt H w o l ok 0→l.length+B≤Lim →
  zj Tryz.prog f (.agg [.ptr w 0]::args) H (zqg fun v H'=>v=.tup []∧∃ o' l',WAt H' w o' l' (ok&&r) 0∧WStep H o w H' o'∧l'.length≤l.length+B∧((ok&&r)=true→l'=l++tk)∧wT l'≤wT l+W)
section
variable {KP:AV→zc→Prop} {Q:AExit→Env→zc→Prop} {st:List Fr} {ρ:Env} {H:zc} {all items:List AItem} {d:Option Nat} {R:List Chk}
theorem Yg {f:FuncId} {args:List AV} {B' W':Nat} {r':Bool} {tk':List Tok} (hc:ZS f args B' W' r' tk') {H0:zc} {o0 o:Own} {w B W:Nat} {l0 l tk:List Tok} {ok0 r:Bool} (h:YR H0 o0 w l0 ok0 0 B W r tk H o l)
  (hb:l0.length+(B+B')≤Lim) (k:∀ o' l' H',YR H0 o0 w l0 ok0 0 (B+B') (W+W') (r&&r') (tk++tk') H' o' l'→WStep H o w H' o'→goR Tryz.prog KP Q all items st R (ρ.set d (.tup [])) H') :
  goK Tryz.prog KP Q all items st d R ρ f (.agg [.ptr w 0]::args) H:=by
 have hlen:=h.len
 have hwt:=h.wt
 refine zdk (hc H w o l _ h.here (by omega)) fun v H' ⟨hv,o',l',h2,h3,h4,h5,h6⟩=>?_
 subst hv
 refine k o' l' H' ⟨by rw[← yg];exact h2,h.st.trans h.here.cell h3,by omega,fun e=>?_,by omega⟩ h3
 rw[← yg] at e
 rw[h5 e,h.eq (by simp only[Al0] at e ⊢;exact e.1),zbM]
end
theorem zf1 (m:List VarD) (hw:∀ y∈m,wfW y) (hm:32*bWs m≤Lim):ZS 254 [.sl .no 10 (cWs m)] (32*bWs m) (512*bWs m) (m.all zeX) (m.flatMap tPa):=by
 intro H w o l ok h hb
 have hml:=yS m
 have hcl:=Zr m
 have hm':=hm
 simp only[Lim] at hm'
 refine zj.go ir254 ck254 (Al4 _) fun KP Q hQ=>?_
 have w0:=YR.refl h
 simp(disch:=omega) only[ir254,hcl,go_sem]
 refine zf m 8 (fun x:Own×List Tok=>[]) (fun done rest x H'=>YR H o w l ok 0 (32*bWs done) (512*bWs done) (done.all zeX) (done.flatMap tPa) H' x.1 x.2) (o,l) (by simp(disch:=omega) only[go_sem]) (w0.cast (by omega) (by omega) rfl rfl) ?_ ?_
 ·rintro⟨o3,l3⟩ H3 J w3 hlt
  simp only at w3
  simp(disch:=omega) only[hcl,hlt,go_sem]
  exact hQ _ _ H3 H3 [] nofun rfl (Low.refl _) ⟨rfl,w3.fin rfl (fun _=>rfl) (by omega) (by omega)⟩
 ·rintro done x rest ⟨o5,l5⟩ H5 J5 hd hlt hlt2 w5 hJ5
  simp only at w5
  have hg:=Zm hd
  have hbm:=zaY done x rest
  rw[← hd] at hbm
  have hwx:=hw x (by rw[hd];simp)
  obtain⟨vn,⟨tn,tl,tm⟩,vh,vd⟩:=x
  have hwvd:wfV vd:=hwx.2.2
  have hvp:=YZ vd
  have hbx:bW ⟨vn,⟨tn,tl,tm⟩,vh,vd⟩=vn.length+tn.length+bV vd:=rfl
  rw[zdc] at hg
  simp only at hg
  simp(disch:=omega) only[zp,zl,zh,zo,zm,zi,zr,hcl,hlt,hg,go_sem]
  refine zb fun b hb=>?_
  have hbw:b≠w:=fun e=>by subst e;rw[w5.here.cell] at hb;cases hb
  have w6:=w5.alloc (x:=.cells (.str vn::.str tn::.int .i64 tl::.int .i64 tm::.bool vh::cV vd)) hb
  have hbc:(H5.upd b (.cells (.str vn::.str tn::.int .i64 tl::.int .i64 tm::.bool vh::cV vd))) b=some (.cells (.str vn::.str tn::.int .i64 tl::.int .i64 tm::.bool vh::cV vd)):=upd_same ..
  simp(disch:=omega) only[zp,zl,zh,zo,zm,zi,zr,go_sem]
  refine zt (yy vn (by simp only[Lim];omega)) w6 (by omega) (by omega) (by omega) fun o8 l8 H8 w8 s8=>?_
  have hb8:=s8.box w6.here.own hbc hbw
  simp(disch:=omega) only[zp,zl,zh,zo,zm,zi,zr,hb8,go_sem]
  refine zt (yI [58] _) w8 (by omega) (by omega) (by omega) fun o9 l9 H9 w9 s9=>?_
  have hb9:=s9.box w8.here.own hb8 hbw
  simp(disch:=omega) only[zp,zl,zh,zo,zm,zi,zr,hb9,go_sem]
  refine zt (args:=[.agg [.str tn,.int .i64 tl,.int .i64 tm]]) (show YC _ [.agg [.str tn,.int .i64 tl,.int .i64 tm]] 20 (200+tn.length) (-1000) 1000 (fun _=>zG ⟨tn,tl,tm⟩) (tTy ⟨tn,tl,tm⟩) from zoW ⟨tn,tl,tm⟩ (by simp only[Lim];omega)) w9 (by omega) (by omega) (by omega) fun oC lC HC wC sC=>?_
  have hbC:=sC.box w9.here.own hb9 hbw
  simp(disch:=omega) only[zp,zl,zh,zo,zm,zi,zr,hbC,go_sem]
  refine zt (zog vh vd hwvd (by simp only[Lim];omega)) wC (by omega) (by omega) (by omega) fun oD lD HD wD sD=>?_
  have er:zeX ⟨vn,⟨tn,tl,tm⟩,vh,vd⟩=ZJ 0 ⟨vn,⟨tn,tl,tm⟩,vh,vd⟩:=rfl
  simp(disch:=omega) only[wrap64,go_sem]
  exact goJ (hJ5 (oD,lD) HD (wD.cast (by rw[zaD];omega) (by rw[zaD];(try simp only[Al2,Al3]);omega) (by simp[er,ZJ,yg]) (by simp[tPa]))) (by simp(disch:=omega) only[go_sem])
theorem zft (m:List UInt8) (a:List (List UInt8)) (hml:m.length=1) (hm:2*bT a≤Lim):ZS 262 [.str m,.sl .no 1 (cT a)] (2*bT a) (16*bT a) (a.all zP) (tNs m a):=by
 intro H w o l ok h hb
 have hbl:=ZN a
 have hcl:=zK a
 have hm':=hm
 simp only[Lim] at hm'
 refine zj.go ir262 ck262 (Al4 _) fun KP Q hQ=>?_
 have w0:=YR.refl h
 simp(disch:=omega) only[ir262,hcl,go_sem]
 refine zf a 10 (fun x:Own×List Tok=>[]) (fun done rest x H'=>YR H o w l ok 0 (2*bT done) (16*bT done) (done.all zP) (tNs m done) H' x.1 x.2) (o,l) (by simp(disch:=omega) only[go_sem]) (w0.cast (by omega) (by omega) rfl rfl) ?_ ?_
 ·rintro⟨o3,l3⟩ H3 J w3 hlt
  simp only at w3
  simp(disch:=omega) only[hcl,hlt,go_sem]
  exact hQ _ _ H3 H3 [] nofun rfl (Low.refl _) ⟨rfl,w3.fin rfl (fun _=>rfl) (by omega) (by omega)⟩
 ·rintro done x rest ⟨o5,l5⟩ H5 J5 hd hlt hlt2 w5 hJ5
  simp only at w5
  have hg:=ZZ hd
  have hbm:=zgZ done x rest
  rw[← hd] at hbm
  have hsn:=zn0 m done x
  by_cases h0:done.length=0
  ·have h0':¬ ((0:Int)<(done.length:Int)):=by omega
   rw[if_pos h0] at hsn
   simp(disch:=omega) only[hcl,hlt,hg,h0',go_sem]
   refine zt (yy x (by simp only[Lim];omega)) w5 (by omega) (by omega) (by omega) fun o8 l8 H8 w8 s8=>?_
   simp(disch:=omega) only[wrap64,go_sem]
   exact goJ (hJ5 (o8,l8) H8 (w8.cast (by rw[yE];omega) (by rw[yE];omega) (by simp) (by rw[hsn]))) (by simp(disch:=omega) only[go_sem])
  ·have h0':((0:Int)<(done.length:Int))=True:=eq_true (by omega)
   rw[if_neg h0] at hsn
   simp(disch:=omega) only[hcl,hlt,hg,h0',go_sem]
   refine zt (yI m _) w5 (by omega) (by omega) (by omega) fun o6 l6 H6 w6 s6=>?_
   simp(disch:=omega) only[hcl,hlt,hg,go_sem]
   refine zt (yy x (by simp only[Lim];omega)) w6 (by omega) (by omega) (by omega) fun o8 l8 H8 w8 s8=>?_
   simp(disch:=omega) only[wrap64,go_sem]
   exact goJ (hJ5 (o8,l8) H8 (w8.cast (by rw[yE];omega) (by rw[yE];omega) (by simp) (by rw[hsn];simp))) (by simp(disch:=omega) only[go_sem])
theorem zdx (m:List FldD) (hw:∀ y∈m,wfL y) (hm:32*bLs m≤Lim):ZS 263 [.sl .no 6 (cLs m)] (32*bLs m) (512*bLs m) (m.all zfk) (m.flatMap tL):=by
 intro H w o l ok h hb
 have hml:=YV m
 have hcl:=zaX m
 have hm':=hm
 simp only[Lim] at hm'
 refine zj.go ir263 ck263 (Al4 _) fun KP Q hQ=>?_
 have w0:=YR.refl h
 simp(disch:=omega) only[ir263,hcl,go_sem]
 refine zf m 8 (fun x:Own×List Tok=>[]) (fun done rest x H'=>YR H o w l ok 0 (32*bLs done) (512*bLs done) (done.all zfk) (done.flatMap tL) H' x.1 x.2) (o,l) (by simp(disch:=omega) only[go_sem]) (w0.cast (by omega) (by omega) rfl rfl) ?_ ?_
 ·rintro⟨o3,l3⟩ H3 J w3 hlt
  simp only at w3
  simp(disch:=omega) only[hcl,hlt,go_sem]
  exact hQ _ _ H3 H3 [] nofun rfl (Low.refl _) ⟨rfl,w3.fin rfl (fun _=>rfl) (by omega) (by omega)⟩
 ·rintro done x rest ⟨o5,l5⟩ H5 J5 hd hlt hlt2 w5 hJ5
  simp only at w5
  have hg:=zdt hd
  have hbm:=zmD done x rest
  rw[← hd] at hbm
  have hwx:=hw x (by rw[hd];simp)
  obtain⟨fn,ps,⟨tn,tl,tm⟩,dirs⟩:=x
  simp only[wfL] at hwx
  have hbx:bL ⟨fn,ps,⟨tn,tl,tm⟩,dirs⟩=1+fn.length+bWs ps+tn.length+bDs dirs:=rfl
  have hpl:=Zr ps
  have hpb:=yS ps
  rw[zaB] at hg
  simp(disch:=omega) only[hcl,hlt,hg,go_sem]
  refine zb fun b hb=>?_
  have hbw:b≠w:=fun e=>by subst e;rw[w5.here.cell] at hb;cases hb
  obtain⟨cs,hcs⟩:∃ cs,cs=[AV.str fn,.sl .no 10 (cWs ps),.str tn,.int .i64 tl,.int .i64 tm,.sl .no 2 (cDs dirs)]:=⟨_,rfl⟩
  have w6:=w5.alloc (x:=.cells cs) hb
  have hbc:(H5.upd b (.cells cs)) b=some (.cells cs):=upd_same ..
  subst hcs
  simp(disch:=omega) only[go_sem]
  refine zt (yy fn (by simp only[Lim];omega)) w6 (by omega) (by omega) (by omega) fun o8 l8 H8 w8 s8=>?_
  have hb8:=s8.box w6.here.own hbc hbw
  by_cases hp0:ps.length=0
  ·have hp0':¬ ((0:Int)<(ps.length:Int)):=by omega
   have hps:=zfh.1 hp0
   simp(disch:=omega) only[hb8,hpl,hp0',go_sem]
   refine zt (yI [58] _) w8 (by omega) (by omega) (by omega) fun oB lB HB wB sB=>?_
   have hbB:=sB.box w8.here.own hb8 hbw
   simp(disch:=omega) only[hbB,go_sem]
   refine zt (args:=[.agg [.str tn,.int .i64 tl,.int .i64 tm]]) (show YC _ [.agg [.str tn,.int .i64 tl,.int .i64 tm]] 20 (200+tn.length) (-1000) 1000 (fun _=>zG ⟨tn,tl,tm⟩) (tTy ⟨tn,tl,tm⟩) from zoW ⟨tn,tl,tm⟩ (by simp only[Lim];omega)) wB (by omega) (by omega) (by omega) fun oC lC HC wC sC=>?_
   have hbC:=sC.box wB.here.own hbB hbw
   simp(disch:=omega) only[hbC,go_sem]
   refine zt (zsc true dirs hwx.2.2.2 (by simp only[Lim];omega)) wC (by omega) (by omega) (by omega) fun oD lD HD wD sD=>?_
   simp(disch:=omega) only[wrap64,go_sem]
   exact goJ (hJ5 (oD,lD) HD (wD.cast (by rw[zez];omega) (by rw[zez];(try simp only[Al2,Al3]);omega) (by simp[zfk,hps,yg]) (by simp[tL,tPb,hps]))) (by simp(disch:=omega) only[go_sem])
  ·have hp0':((0:Int)<(ps.length:Int))=True:=eq_true (by omega)
   have hps:=hp0
   simp(disch:=omega) only[hb8,hpl,hp0',go_sem]
   refine zt (yI [40] _) w8 (by omega) (by omega) (by omega) fun o9 l9 H9 w9 s9=>?_
   have hb9:=s9.box w8.here.own hb8 hbw
   simp(disch:=omega) only[hb9,go_sem]
   refine Yg (zf1 ps hwx.1 (by simp only[Lim];omega)) w9 (by omega) fun oE lE HE wE sE=>?_
   have hbE:=sE.box w9.here.own hb9 hbw
   simp(disch:=omega) only[hbE,go_sem]
   refine zt (yI [41] _) wE (by omega) (by omega) (by omega) fun oF lF HF wF sF=>?_
   have hbF:=sF.box wE.here.own hbE hbw
   simp(disch:=omega) only[hbF,go_sem]
   refine zt (yI [58] _) wF (by omega) (by omega) (by omega) fun oB lB HB wB sB=>?_
   have hbB:=sB.box wF.here.own hbF hbw
   simp(disch:=omega) only[hbB,go_sem]
   refine zt (args:=[.agg [.str tn,.int .i64 tl,.int .i64 tm]]) (show YC _ [.agg [.str tn,.int .i64 tl,.int .i64 tm]] 20 (200+tn.length) (-1000) 1000 (fun _=>zG ⟨tn,tl,tm⟩) (tTy ⟨tn,tl,tm⟩) from zoW ⟨tn,tl,tm⟩ (by simp only[Lim];omega)) wB (by omega) (by omega) (by omega) fun oC lC HC wC sC=>?_
   have hbC:=sC.box wB.here.own hbB hbw
   simp(disch:=omega) only[hbC,go_sem]
   refine zt (zsc true dirs hwx.2.2.2 (by simp only[Lim];omega)) wC (by omega) (by omega) (by omega) fun oD lD HD wD sD=>?_
   simp(disch:=omega) only[wrap64,go_sem]
   exact goJ (hJ5 (oD,lD) HD (wD.cast (by rw[zez];omega) (by rw[zez];(try simp only[Al2,Al3]);omega) (by simp[zfk,hps,yg]) (by simp[tL,tPb,hps]))) (by simp(disch:=omega) only[go_sem])
theorem zmA (wd:List UInt8) (x:DefD) (hnw:zP wd=true) (hwd:wd.length≤16) (hwx:wfE x) (hm:64*bE x≤Lim):ZS 252 [.str wd,.agg (cE x)] (64*bE x) (512*bE x) (YK x) (ziE wd x):=by
 intro H w o l ok h hb
 obtain⟨k,nm,faces,flds,parts,ps⟩:=x
 have hm':=hm
 simp only[Lim,bE] at hm'
 simp only[bE] at hb
 have h1:=ZN faces
 have h2:=YV flds
 have h3:=ZN parts
 have h4:=yS ps
 have hfc:=zK faces
 have hfl:=zaX flds
 have hfp:=zK parts
 have hfs:=Zr ps
 rw[ye]
 refine zj.go ir252 ck252 (Al4 _) fun KP Q hQ=>?_
 have w0:=YR.refl h
 obtain⟨n,hn⟩:∃ n,n=(decide (flds.length≠0)&&(decide (parts.length=0)&&decide (ps.length=0))):=⟨_,rfl⟩
 by_cases a1:flds.length=0
 ·have a1':¬ ((0:Int)<(flds.length:Int)):=by omega
  have hbv:n=false:=by rw[hn];simp[a1]
  simp(disch:=omega) only[ir252,hfl,a1',go_sem]
  refine zt (Zw _) w0 (by omega) (by omega) (by omega) fun o1 l1 H1 w1 _=>?_
  simp(disch:=omega) only[go_sem]
  refine zt (yy wd (by simp only[Lim];omega)) w1 (by omega) (by omega) (by omega) fun o2 l2 H2 w2 _=>?_
  simp(disch:=omega) only[go_sem]
  refine zt (yy nm (by simp only[Lim];omega)) w2 (by omega) (by omega) (by omega) fun o3 l3 H3 w3 _=>?_
  by_cases hf0:faces.length=0
  ·have hf1:¬ ((0:Int)<(faces.length:Int)):=by omega
   have hf:=zfh.1 hf0
   simp(disch:=omega) only[hfc,hf1,go_sem]
   refine zt (yI [123] _) w3 (by omega) (by omega) (by omega) fun oB lB HB wB sB=>?_
   simp(disch:=omega) only[go_sem]
   refine Yg (zdx flds hwx.1 (by simp only[Lim];omega)) wB (by omega) fun oC lC HC wC sC=>?_
   simp(disch:=omega) only[go_sem]
   refine zt (yI [125] _) wC (by omega) (by omega) (by omega) fun oD lD HD wD sD=>?_
   simp(disch:=omega) only[go_sem]
   exact hQ _ _ HD HD [] nofun rfl (Low.refl _) ⟨rfl,wD.fin (by simp only[YK,← hn,hbv,hnw,zdy,hf];simp[yg,Bool.and_comm,Bool.and_left_comm]) (fun _=>by simp[ziE,hf]) (by simp only[bE];omega) (by simp only[bE,Al2,Al3];omega)⟩
  ·have hf1:((0:Int)<(faces.length:Int))=True:=eq_true (by omega)
   have hf:=hf0
   simp(disch:=omega) only[hfc,hf1,go_sem]
   refine zt (yy [105,109,112,108,101,109,101,110,116,115] (by simp[Lim])) w3 (by omega) (by omega) (by omega) fun o4 l4 H4 w4 _=>?_
   simp(disch:=omega) only[go_sem]
   refine Yg (zft [38] faces rfl (by simp only[Lim];omega)) w4 (by omega) fun o5 l5 H5 w5 _=>?_
   simp(disch:=omega) only[go_sem]
   refine zt (yI [123] _) w5 (by omega) (by omega) (by omega) fun oB lB HB wB sB=>?_
   simp(disch:=omega) only[go_sem]
   refine Yg (zdx flds hwx.1 (by simp only[Lim];omega)) wB (by omega) fun oC lC HC wC sC=>?_
   simp(disch:=omega) only[go_sem]
   refine zt (yI [125] _) wC (by omega) (by omega) (by omega) fun oD lD HD wD sD=>?_
   simp(disch:=omega) only[go_sem]
   exact hQ _ _ HD HD [] nofun rfl (Low.refl _) ⟨rfl,wD.fin (by simp only[YK,← hn,hbv,hnw,zdy,hf];simp[yg,Bool.and_comm,Bool.and_left_comm]) (fun _=>by simp[ziE,hf]) (by simp only[bE];omega) (by simp only[bE,Al2,Al3];omega)⟩
 ·have a1':((0:Int)<(flds.length:Int))=True:=eq_true (by omega)
  have e1:IntKind.wrap .i64 ((parts.length:Int)+(ps.length:Int))=((parts.length+ps.length:Nat):Int):=by rw[wrap64 (by omega) (by omega)];omega
  by_cases a2:parts.length+ps.length=0
  ·have a2':(((parts.length+ps.length:Nat):Int)=0)=True:=eq_true (by omega)
   have hbv:n=true:=by rw[hn];simp only[ne_eq,Al0,yX];omega
   simp(disch:=omega) only[ir252,hfl,a1',hfp,hfs,e1,a2',go_sem]
   refine zt (Zw _) w0 (by omega) (by omega) (by omega) fun o1 l1 H1 w1 _=>?_
   simp(disch:=omega) only[go_sem]
   refine zt (yy wd (by simp only[Lim];omega)) w1 (by omega) (by omega) (by omega) fun o2 l2 H2 w2 _=>?_
   simp(disch:=omega) only[go_sem]
   refine zt (yy nm (by simp only[Lim];omega)) w2 (by omega) (by omega) (by omega) fun o3 l3 H3 w3 _=>?_
   by_cases hf0:faces.length=0
   ·have hf1:¬ ((0:Int)<(faces.length:Int)):=by omega
    have hf:=zfh.1 hf0
    simp(disch:=omega) only[hfc,hf1,go_sem]
    refine zt (yI [123] _) w3 (by omega) (by omega) (by omega) fun oB lB HB wB sB=>?_
    simp(disch:=omega) only[go_sem]
    refine Yg (zdx flds hwx.1 (by simp only[Lim];omega)) wB (by omega) fun oC lC HC wC sC=>?_
    simp(disch:=omega) only[go_sem]
    refine zt (yI [125] _) wC (by omega) (by omega) (by omega) fun oD lD HD wD sD=>?_
    simp(disch:=omega) only[go_sem]
    exact hQ _ _ HD HD [] nofun rfl (Low.refl _) ⟨rfl,wD.fin (by simp only[YK,← hn,hbv,hnw,zdy,hf];simp[yg,Bool.and_comm,Bool.and_left_comm]) (fun _=>by simp[ziE,hf]) (by simp only[bE];omega) (by simp only[bE,Al2,Al3];omega)⟩
   ·have hf1:((0:Int)<(faces.length:Int))=True:=eq_true (by omega)
    have hf:=hf0
    simp(disch:=omega) only[hfc,hf1,go_sem]
    refine zt (yy [105,109,112,108,101,109,101,110,116,115] (by simp[Lim])) w3 (by omega) (by omega) (by omega) fun o4 l4 H4 w4 _=>?_
    simp(disch:=omega) only[go_sem]
    refine Yg (zft [38] faces rfl (by simp only[Lim];omega)) w4 (by omega) fun o5 l5 H5 w5 _=>?_
    simp(disch:=omega) only[go_sem]
    refine zt (yI [123] _) w5 (by omega) (by omega) (by omega) fun oB lB HB wB sB=>?_
    simp(disch:=omega) only[go_sem]
    refine Yg (zdx flds hwx.1 (by simp only[Lim];omega)) wB (by omega) fun oC lC HC wC sC=>?_
    simp(disch:=omega) only[go_sem]
    refine zt (yI [125] _) wC (by omega) (by omega) (by omega) fun oD lD HD wD sD=>?_
    simp(disch:=omega) only[go_sem]
    exact hQ _ _ HD HD [] nofun rfl (Low.refl _) ⟨rfl,wD.fin (by simp only[YK,← hn,hbv,hnw,zdy,hf];simp[yg,Bool.and_comm,Bool.and_left_comm]) (fun _=>by simp[ziE,hf]) (by simp only[bE];omega) (by simp only[bE,Al2,Al3];omega)⟩
  ·have a2':¬ (((parts.length+ps.length:Nat):Int)=0):=by omega
   have hbv:n=false:=by rw[hn,Bool.eq_false_iff];simp only[ne_eq,Al0,yX];omega
   simp(disch:=omega) only[ir252,hfl,a1',hfp,hfs,e1,a2',go_sem]
   refine zt (Zw _) w0 (by omega) (by omega) (by omega) fun o1 l1 H1 w1 _=>?_
   simp(disch:=omega) only[go_sem]
   refine zt (yy wd (by simp only[Lim];omega)) w1 (by omega) (by omega) (by omega) fun o2 l2 H2 w2 _=>?_
   simp(disch:=omega) only[go_sem]
   refine zt (yy nm (by simp only[Lim];omega)) w2 (by omega) (by omega) (by omega) fun o3 l3 H3 w3 _=>?_
   by_cases hf0:faces.length=0
   ·have hf1:¬ ((0:Int)<(faces.length:Int)):=by omega
    have hf:=zfh.1 hf0
    simp(disch:=omega) only[hfc,hf1,go_sem]
    refine zt (yI [123] _) w3 (by omega) (by omega) (by omega) fun oB lB HB wB sB=>?_
    simp(disch:=omega) only[go_sem]
    refine Yg (zdx flds hwx.1 (by simp only[Lim];omega)) wB (by omega) fun oC lC HC wC sC=>?_
    simp(disch:=omega) only[go_sem]
    refine zt (yI [125] _) wC (by omega) (by omega) (by omega) fun oD lD HD wD sD=>?_
    simp(disch:=omega) only[go_sem]
    exact hQ _ _ HD HD [] nofun rfl (Low.refl _) ⟨rfl,wD.fin (by simp only[YK,← hn,hbv,hnw,zdy,hf];simp[yg,Bool.and_comm,Bool.and_left_comm]) (fun _=>by simp[ziE,hf]) (by simp only[bE];omega) (by simp only[bE,Al2,Al3];omega)⟩
   ·have hf1:((0:Int)<(faces.length:Int))=True:=eq_true (by omega)
    have hf:=hf0
    simp(disch:=omega) only[hfc,hf1,go_sem]
    refine zt (yy [105,109,112,108,101,109,101,110,116,115] (by simp[Lim])) w3 (by omega) (by omega) (by omega) fun o4 l4 H4 w4 _=>?_
    simp(disch:=omega) only[go_sem]
    refine Yg (zft [38] faces rfl (by simp only[Lim];omega)) w4 (by omega) fun o5 l5 H5 w5 _=>?_
    simp(disch:=omega) only[go_sem]
    refine zt (yI [123] _) w5 (by omega) (by omega) (by omega) fun oB lB HB wB sB=>?_
    simp(disch:=omega) only[go_sem]
    refine Yg (zdx flds hwx.1 (by simp only[Lim];omega)) wB (by omega) fun oC lC HC wC sC=>?_
    simp(disch:=omega) only[go_sem]
    refine zt (yI [125] _) wC (by omega) (by omega) (by omega) fun oD lD HD wD sD=>?_
    simp(disch:=omega) only[go_sem]
    exact hQ _ _ HD HD [] nofun rfl (Low.refl _) ⟨rfl,wD.fin (by simp only[YK,← hn,hbv,hnw,zdy,hf];simp[yg,Bool.and_comm,Bool.and_left_comm]) (fun _=>by simp[ziE,hf]) (by simp only[bE];omega) (by simp only[bE,Al2,Al3];omega)⟩
theorem ztz (x:DefD) (hm:64*bE x≤Lim):ZS 253 [.agg (cE x)] (64*bE x) (512*bE x) (Y0 x) (zjd x):=by
 intro H w o l ok h hb
 obtain⟨k,nm,faces,flds,parts,ps⟩:=x
 have hm':=hm
 simp only[Lim,bE] at hm'
 simp only[bE] at hb
 have h1:=ZN faces
 have h2:=YV flds
 have h3:=ZN parts
 have h4:=yS ps
 have hfc:=zK faces
 have hfl:=zaX flds
 have hfp:=zK parts
 have hfs:=Zr ps
 rw[ye]
 refine zj.go ir253 ck253 (Al4 _) fun KP Q hQ=>?_
 have w0:=YR.refl h
 obtain⟨n,hn⟩:∃ n,n=(decide (parts.length≠0)&&(decide (faces.length=0)&&(decide (flds.length=0)&&decide (ps.length=0)))):=⟨_,rfl⟩
 by_cases a1:parts.length=0
 ·have a1':¬ ((0:Int)<(parts.length:Int)):=by omega
  have hbv:n=false:=by rw[hn];simp[a1]
  simp(disch:=omega) only[ir253,hfp,a1',go_sem]
  refine zt (Zw _) w0 (by omega) (by omega) (by omega) fun o1 l1 H1 w1 _=>?_
  by_cases hk:k=3
  ·have hk':=eq_true hk
   simp(disch:=omega) only[hk',go_sem]
   refine zt (yy [117,110,105,111,110] (by simp[Lim])) w1 (by omega) (by omega) (by omega) fun o2 l2 H2 w2 _=>?_
   simp(disch:=omega) only[go_sem]
   refine zt (yy nm (by simp only[Lim];omega)) w2 (by omega) (by omega) (by omega) fun o3 l3 H3 w3 _=>?_
   simp(disch:=omega) only[go_sem]
   refine zt (yI [61] _) w3 (by omega) (by omega) (by omega) fun o4 l4 H4 w4 _=>?_
   simp(disch:=omega) only[go_sem]
   refine Yg (zft [124] parts rfl (by simp only[Lim];omega)) w4 (by omega) fun o5 l5 H5 w5 _=>?_
   simp(disch:=omega) only[go_sem]
   exact hQ _ _ H5 H5 [] nofun rfl (Low.refl _) ⟨rfl,w5.fin (by simp only[Y0,if_pos hk,zav,← hn,hbv,zgq];simp[yg,Bool.and_comm,Bool.and_left_comm]) (fun _=>by simp[zjd,hk]) (by simp only[bE];omega) (by simp only[bE,Al2,Al3];omega)⟩
  ·simp(disch:=omega) only[hk,go_sem]
   refine zt (yy [101,110,117,109] (by simp[Lim])) w1 (by omega) (by omega) (by omega) fun o2 l2 H2 w2 _=>?_
   simp(disch:=omega) only[go_sem]
   refine zt (yy nm (by simp only[Lim];omega)) w2 (by omega) (by omega) (by omega) fun o3 l3 H3 w3 _=>?_
   simp(disch:=omega) only[go_sem]
   refine zt (yI [123] _) w3 (by omega) (by omega) (by omega) fun o4 l4 H4 w4 _=>?_
   simp(disch:=omega) only[hfp,go_sem]
   refine zf parts 61 (fun x:Own×List Tok=>[]) (fun done rest x H'=>YR H o w l ok 0 (4+bT done) (32+nm.length+16*bT done) (n&&(zP nm&&done.all fun s=>Yx s&&zP s)) (wk [101,110,117,109]::wk nm::pk [123]::done.map wk) H' x.1 x.2) (o4,l4) (by simp(disch:=omega) only[go_sem]) (w4.cast (by omega) (by simp only[Al2,Al3];omega) (by simp[hbv,ziz]) (by simp)) ?_ ?_
   ·rintro⟨o5,l5⟩ H5 J5 w5 hlt
    simp only at w5
    simp(disch:=omega) only[hfp,hlt,go_sem]
    refine zt (yI [125] _) w5 (by omega) (by omega) (by omega) fun o6 l6 H6 w6 _=>?_
    simp(disch:=omega) only[go_sem]
    exact hQ _ _ H6 H6 [] nofun rfl (Low.refl _) ⟨rfl,w6.fin (by rw[zi1];simp only[Y0,if_neg hk,zav,← hn];simp[yg,Bool.and_comm,Bool.and_left_comm]) (fun _=>by simp[zjd,hk]) (by simp only[bE];omega) (by simp only[bE,Al2,Al3];omega)⟩
   ·rintro done x rest ⟨o5,l5⟩ H5 J5 hd hlt hlt2 w5 hJ5
    simp only at w5
    have hg:=ZZ hd
    have hbm:=zgZ done x rest
    rw[← hd] at hbm
    simp(disch:=omega) only[hfp,hlt,hg,go_sem]
    by_cases q1:x=[116,114,117,101]
    ·have q1':=eq_true q1
     have hno:Yx x=false:=by rw[q1];decide
     simp(disch:=omega) only[q1',go_sem]
     refine zt (Zw _) w5 (by omega) (by omega) (by omega) fun o6 l6 H6 w6 _=>?_
     simp(disch:=omega) only[go_sem]
     refine zt (yy x (by simp only[Lim];omega)) w6 (by omega) (by omega) (by omega) fun o7 l7 H7 w7 _=>?_
     simp(disch:=omega) only[wrap64,go_sem]
     exact goJ (hJ5 (o7,l7) H7 (w7.cast (by rw[yE];omega) (by rw[yE];omega) (by simp[hno,yg]) (by simp))) (by simp(disch:=omega) only[go_sem])
    by_cases q2:x=[102,97,108,115,101]
    ·have q2':=eq_true q2
     have hno:Yx x=false:=by rw[q2];decide
     simp(disch:=omega) only[q1,q2',go_sem]
     refine zt (Zw _) w5 (by omega) (by omega) (by omega) fun o6 l6 H6 w6 _=>?_
     simp(disch:=omega) only[go_sem]
     refine zt (yy x (by simp only[Lim];omega)) w6 (by omega) (by omega) (by omega) fun o7 l7 H7 w7 _=>?_
     simp(disch:=omega) only[wrap64,go_sem]
     exact goJ (hJ5 (o7,l7) H7 (w7.cast (by rw[yE];omega) (by rw[yE];omega) (by simp[hno,yg]) (by simp))) (by simp(disch:=omega) only[go_sem])
    by_cases q3:x=[110,117,108,108]
    ·have q3':=eq_true q3
     have hno:Yx x=false:=by rw[q3];decide
     simp(disch:=omega) only[q1,q2,q3',go_sem]
     refine zt (Zw _) w5 (by omega) (by omega) (by omega) fun o6 l6 H6 w6 _=>?_
     simp(disch:=omega) only[go_sem]
     refine zt (yy x (by simp only[Lim];omega)) w6 (by omega) (by omega) (by omega) fun o7 l7 H7 w7 _=>?_
     simp(disch:=omega) only[wrap64,go_sem]
     exact goJ (hJ5 (o7,l7) H7 (w7.cast (by rw[yE];omega) (by rw[yE];omega) (by simp[hno,yg]) (by simp))) (by simp(disch:=omega) only[go_sem])
    ·have hno:Yx x=true:=by simp[Yx,q1,q2,q3]
     simp(disch:=omega) only[q1,q2,q3,go_sem]
     refine zt (Zw _) w5 (by omega) (by omega) (by omega) fun o6 l6 H6 w6 _=>?_
     simp(disch:=omega) only[go_sem]
     refine zt (yy x (by simp only[Lim];omega)) w6 (by omega) (by omega) (by omega) fun o7 l7 H7 w7 _=>?_
     simp(disch:=omega) only[wrap64,go_sem]
     exact goJ (hJ5 (o7,l7) H7 (w7.cast (by rw[yE];omega) (by rw[yE];omega) (by simp[hno,yg]) (by simp))) (by simp(disch:=omega) only[go_sem])
 ·have a1':((0:Int)<(parts.length:Int))=True:=eq_true (by omega)
  have e1:IntKind.wrap .i64 ((faces.length:Int)+(flds.length:Int))=((faces.length+flds.length:Nat):Int):=by rw[wrap64 (by omega) (by omega)];omega
  have e2:IntKind.wrap .i64 (((faces.length+flds.length:Nat):Int)+(ps.length:Int))=((faces.length+flds.length+ps.length:Nat):Int):=by rw[wrap64 (by omega) (by omega)];omega
  by_cases a2:faces.length+flds.length+ps.length=0
  ·have a2':(((faces.length+flds.length+ps.length:Nat):Int)=0)=True:=eq_true (by omega)
   have hbv:n=true:=by rw[hn];simp only[ne_eq,Al0,yX];omega
   simp(disch:=omega) only[ir253,hfp,a1',hfc,hfl,hfs,e1,e2,a2',go_sem]
   refine zt (Zw _) w0 (by omega) (by omega) (by omega) fun o1 l1 H1 w1 _=>?_
   by_cases hk:k=3
   ·have hk':=eq_true hk
    simp(disch:=omega) only[hk',go_sem]
    refine zt (yy [117,110,105,111,110] (by simp[Lim])) w1 (by omega) (by omega) (by omega) fun o2 l2 H2 w2 _=>?_
    simp(disch:=omega) only[go_sem]
    refine zt (yy nm (by simp only[Lim];omega)) w2 (by omega) (by omega) (by omega) fun o3 l3 H3 w3 _=>?_
    simp(disch:=omega) only[go_sem]
    refine zt (yI [61] _) w3 (by omega) (by omega) (by omega) fun o4 l4 H4 w4 _=>?_
    simp(disch:=omega) only[go_sem]
    refine Yg (zft [124] parts rfl (by simp only[Lim];omega)) w4 (by omega) fun o5 l5 H5 w5 _=>?_
    simp(disch:=omega) only[go_sem]
    exact hQ _ _ H5 H5 [] nofun rfl (Low.refl _) ⟨rfl,w5.fin (by simp only[Y0,if_pos hk,zav,← hn,hbv,zgq];simp[yg,Bool.and_comm,Bool.and_left_comm]) (fun _=>by simp[zjd,hk]) (by simp only[bE];omega) (by simp only[bE,Al2,Al3];omega)⟩
   ·simp(disch:=omega) only[hk,go_sem]
    refine zt (yy [101,110,117,109] (by simp[Lim])) w1 (by omega) (by omega) (by omega) fun o2 l2 H2 w2 _=>?_
    simp(disch:=omega) only[go_sem]
    refine zt (yy nm (by simp only[Lim];omega)) w2 (by omega) (by omega) (by omega) fun o3 l3 H3 w3 _=>?_
    simp(disch:=omega) only[go_sem]
    refine zt (yI [123] _) w3 (by omega) (by omega) (by omega) fun o4 l4 H4 w4 _=>?_
    simp(disch:=omega) only[hfp,go_sem]
    refine zf parts 61 (fun x:Own×List Tok=>[]) (fun done rest x H'=>YR H o w l ok 0 (4+bT done) (32+nm.length+16*bT done) (n&&(zP nm&&done.all fun s=>Yx s&&zP s)) (wk [101,110,117,109]::wk nm::pk [123]::done.map wk) H' x.1 x.2) (o4,l4) (by simp(disch:=omega) only[go_sem]) (w4.cast (by omega) (by simp only[Al2,Al3];omega) (by simp[hbv,ziz]) (by simp)) ?_ ?_
    ·rintro⟨o5,l5⟩ H5 J5 w5 hlt
     simp only at w5
     simp(disch:=omega) only[hfp,hlt,go_sem]
     refine zt (yI [125] _) w5 (by omega) (by omega) (by omega) fun o6 l6 H6 w6 _=>?_
     simp(disch:=omega) only[go_sem]
     exact hQ _ _ H6 H6 [] nofun rfl (Low.refl _) ⟨rfl,w6.fin (by rw[zi1];simp only[Y0,if_neg hk,zav,← hn];simp[yg,Bool.and_comm,Bool.and_left_comm]) (fun _=>by simp[zjd,hk]) (by simp only[bE];omega) (by simp only[bE,Al2,Al3];omega)⟩
    ·rintro done x rest ⟨o5,l5⟩ H5 J5 hd hlt hlt2 w5 hJ5
     simp only at w5
     have hg:=ZZ hd
     have hbm:=zgZ done x rest
     rw[← hd] at hbm
     simp(disch:=omega) only[hfp,hlt,hg,go_sem]
     by_cases q1:x=[116,114,117,101]
     ·have q1':=eq_true q1
      have hno:Yx x=false:=by rw[q1];decide
      simp(disch:=omega) only[q1',go_sem]
      refine zt (Zw _) w5 (by omega) (by omega) (by omega) fun o6 l6 H6 w6 _=>?_
      simp(disch:=omega) only[go_sem]
      refine zt (yy x (by simp only[Lim];omega)) w6 (by omega) (by omega) (by omega) fun o7 l7 H7 w7 _=>?_
      simp(disch:=omega) only[wrap64,go_sem]
      exact goJ (hJ5 (o7,l7) H7 (w7.cast (by rw[yE];omega) (by rw[yE];omega) (by simp[hno,yg]) (by simp))) (by simp(disch:=omega) only[go_sem])
     by_cases q2:x=[102,97,108,115,101]
     ·have q2':=eq_true q2
      have hno:Yx x=false:=by rw[q2];decide
      simp(disch:=omega) only[q1,q2',go_sem]
      refine zt (Zw _) w5 (by omega) (by omega) (by omega) fun o6 l6 H6 w6 _=>?_
      simp(disch:=omega) only[go_sem]
      refine zt (yy x (by simp only[Lim];omega)) w6 (by omega) (by omega) (by omega) fun o7 l7 H7 w7 _=>?_
      simp(disch:=omega) only[wrap64,go_sem]
      exact goJ (hJ5 (o7,l7) H7 (w7.cast (by rw[yE];omega) (by rw[yE];omega) (by simp[hno,yg]) (by simp))) (by simp(disch:=omega) only[go_sem])
     by_cases q3:x=[110,117,108,108]
     ·have q3':=eq_true q3
      have hno:Yx x=false:=by rw[q3];decide
      simp(disch:=omega) only[q1,q2,q3',go_sem]
      refine zt (Zw _) w5 (by omega) (by omega) (by omega) fun o6 l6 H6 w6 _=>?_
      simp(disch:=omega) only[go_sem]
      refine zt (yy x (by simp only[Lim];omega)) w6 (by omega) (by omega) (by omega) fun o7 l7 H7 w7 _=>?_
      simp(disch:=omega) only[wrap64,go_sem]
      exact goJ (hJ5 (o7,l7) H7 (w7.cast (by rw[yE];omega) (by rw[yE];omega) (by simp[hno,yg]) (by simp))) (by simp(disch:=omega) only[go_sem])
     ·have hno:Yx x=true:=by simp[Yx,q1,q2,q3]
      simp(disch:=omega) only[q1,q2,q3,go_sem]
      refine zt (Zw _) w5 (by omega) (by omega) (by omega) fun o6 l6 H6 w6 _=>?_
      simp(disch:=omega) only[go_sem]
      refine zt (yy x (by simp only[Lim];omega)) w6 (by omega) (by omega) (by omega) fun o7 l7 H7 w7 _=>?_
      simp(disch:=omega) only[wrap64,go_sem]
      exact goJ (hJ5 (o7,l7) H7 (w7.cast (by rw[yE];omega) (by rw[yE];omega) (by simp[hno,yg]) (by simp))) (by simp(disch:=omega) only[go_sem])
  ·have a2':¬ (((faces.length+flds.length+ps.length:Nat):Int)=0):=by omega
   have hbv:n=false:=by rw[hn,Bool.eq_false_iff];simp only[ne_eq,Al0,yX];omega
   simp(disch:=omega) only[ir253,hfp,a1',hfc,hfl,hfs,e1,e2,a2',go_sem]
   refine zt (Zw _) w0 (by omega) (by omega) (by omega) fun o1 l1 H1 w1 _=>?_
   by_cases hk:k=3
   ·have hk':=eq_true hk
    simp(disch:=omega) only[hk',go_sem]
    refine zt (yy [117,110,105,111,110] (by simp[Lim])) w1 (by omega) (by omega) (by omega) fun o2 l2 H2 w2 _=>?_
    simp(disch:=omega) only[go_sem]
    refine zt (yy nm (by simp only[Lim];omega)) w2 (by omega) (by omega) (by omega) fun o3 l3 H3 w3 _=>?_
    simp(disch:=omega) only[go_sem]
    refine zt (yI [61] _) w3 (by omega) (by omega) (by omega) fun o4 l4 H4 w4 _=>?_
    simp(disch:=omega) only[go_sem]
    refine Yg (zft [124] parts rfl (by simp only[Lim];omega)) w4 (by omega) fun o5 l5 H5 w5 _=>?_
    simp(disch:=omega) only[go_sem]
    exact hQ _ _ H5 H5 [] nofun rfl (Low.refl _) ⟨rfl,w5.fin (by simp only[Y0,if_pos hk,zav,← hn,hbv,zgq];simp[yg,Bool.and_comm,Bool.and_left_comm]) (fun _=>by simp[zjd,hk]) (by simp only[bE];omega) (by simp only[bE,Al2,Al3];omega)⟩
   ·simp(disch:=omega) only[hk,go_sem]
    refine zt (yy [101,110,117,109] (by simp[Lim])) w1 (by omega) (by omega) (by omega) fun o2 l2 H2 w2 _=>?_
    simp(disch:=omega) only[go_sem]
    refine zt (yy nm (by simp only[Lim];omega)) w2 (by omega) (by omega) (by omega) fun o3 l3 H3 w3 _=>?_
    simp(disch:=omega) only[go_sem]
    refine zt (yI [123] _) w3 (by omega) (by omega) (by omega) fun o4 l4 H4 w4 _=>?_
    simp(disch:=omega) only[hfp,go_sem]
    refine zf parts 61 (fun x:Own×List Tok=>[]) (fun done rest x H'=>YR H o w l ok 0 (4+bT done) (32+nm.length+16*bT done) (n&&(zP nm&&done.all fun s=>Yx s&&zP s)) (wk [101,110,117,109]::wk nm::pk [123]::done.map wk) H' x.1 x.2) (o4,l4) (by simp(disch:=omega) only[go_sem]) (w4.cast (by omega) (by simp only[Al2,Al3];omega) (by simp[hbv,ziz]) (by simp)) ?_ ?_
    ·rintro⟨o5,l5⟩ H5 J5 w5 hlt
     simp only at w5
     simp(disch:=omega) only[hfp,hlt,go_sem]
     refine zt (yI [125] _) w5 (by omega) (by omega) (by omega) fun o6 l6 H6 w6 _=>?_
     simp(disch:=omega) only[go_sem]
     exact hQ _ _ H6 H6 [] nofun rfl (Low.refl _) ⟨rfl,w6.fin (by rw[zi1];simp only[Y0,if_neg hk,zav,← hn];simp[yg,Bool.and_comm,Bool.and_left_comm]) (fun _=>by simp[zjd,hk]) (by simp only[bE];omega) (by simp only[bE,Al2,Al3];omega)⟩
    ·rintro done x rest ⟨o5,l5⟩ H5 J5 hd hlt hlt2 w5 hJ5
     simp only at w5
     have hg:=ZZ hd
     have hbm:=zgZ done x rest
     rw[← hd] at hbm
     simp(disch:=omega) only[hfp,hlt,hg,go_sem]
     by_cases q1:x=[116,114,117,101]
     ·have q1':=eq_true q1
      have hno:Yx x=false:=by rw[q1];decide
      simp(disch:=omega) only[q1',go_sem]
      refine zt (Zw _) w5 (by omega) (by omega) (by omega) fun o6 l6 H6 w6 _=>?_
      simp(disch:=omega) only[go_sem]
      refine zt (yy x (by simp only[Lim];omega)) w6 (by omega) (by omega) (by omega) fun o7 l7 H7 w7 _=>?_
      simp(disch:=omega) only[wrap64,go_sem]
      exact goJ (hJ5 (o7,l7) H7 (w7.cast (by rw[yE];omega) (by rw[yE];omega) (by simp[hno,yg]) (by simp))) (by simp(disch:=omega) only[go_sem])
     by_cases q2:x=[102,97,108,115,101]
     ·have q2':=eq_true q2
      have hno:Yx x=false:=by rw[q2];decide
      simp(disch:=omega) only[q1,q2',go_sem]
      refine zt (Zw _) w5 (by omega) (by omega) (by omega) fun o6 l6 H6 w6 _=>?_
      simp(disch:=omega) only[go_sem]
      refine zt (yy x (by simp only[Lim];omega)) w6 (by omega) (by omega) (by omega) fun o7 l7 H7 w7 _=>?_
      simp(disch:=omega) only[wrap64,go_sem]
      exact goJ (hJ5 (o7,l7) H7 (w7.cast (by rw[yE];omega) (by rw[yE];omega) (by simp[hno,yg]) (by simp))) (by simp(disch:=omega) only[go_sem])
     by_cases q3:x=[110,117,108,108]
     ·have q3':=eq_true q3
      have hno:Yx x=false:=by rw[q3];decide
      simp(disch:=omega) only[q1,q2,q3',go_sem]
      refine zt (Zw _) w5 (by omega) (by omega) (by omega) fun o6 l6 H6 w6 _=>?_
      simp(disch:=omega) only[go_sem]
      refine zt (yy x (by simp only[Lim];omega)) w6 (by omega) (by omega) (by omega) fun o7 l7 H7 w7 _=>?_
      simp(disch:=omega) only[wrap64,go_sem]
      exact goJ (hJ5 (o7,l7) H7 (w7.cast (by rw[yE];omega) (by rw[yE];omega) (by simp[hno,yg]) (by simp))) (by simp(disch:=omega) only[go_sem])
     ·have hno:Yx x=true:=by simp[Yx,q1,q2,q3]
      simp(disch:=omega) only[q1,q2,q3,go_sem]
      refine zt (Zw _) w5 (by omega) (by omega) (by omega) fun o6 l6 H6 w6 _=>?_
      simp(disch:=omega) only[go_sem]
      refine zt (yy x (by simp only[Lim];omega)) w6 (by omega) (by omega) (by omega) fun o7 l7 H7 w7 _=>?_
      simp(disch:=omega) only[wrap64,go_sem]
      exact goJ (hJ5 (o7,l7) H7 (w7.cast (by rw[yE];omega) (by rw[yE];omega) (by simp[hno,yg]) (by simp))) (by simp(disch:=omega) only[go_sem])
end Go.Proofs.YtbcocdloklbkjaaGreatDoor
