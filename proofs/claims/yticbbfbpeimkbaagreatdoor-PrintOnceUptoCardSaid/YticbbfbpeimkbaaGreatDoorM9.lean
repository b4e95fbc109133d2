import Derived.Test.YticbbfbpeimkbaaGreatDoorM1
import Derived.Test.YticbbfbpeimkbaaGreatDoorM2
import Derived.Test.YticbbfbpeimkbaaGreatDoorM3
import Derived.Test.YticbbfbpeimkbaaGreatDoorM4
import Derived.Test.YticbbfbpeimkbaaGreatDoorM5
import Derived.Test.YticbbfbpeimkbaaGreatDoorM6
import Derived.Test.YticbbfbpeimkbaaGreatDoorM7
import Derived.Test.YticbbfbpeimkbaaGreatDoorM8
set_option maxRecDepth 100000
set_option linter.all false
namespace Go.Proofs.YticbbfbpeimkbaaGreatDoor
open Go.Ab
theorem zkR (dp:Int) (fixed:Bool) (l:List DirD) (x:DirD):yO dp fixed (l++[x])=(yO dp fixed l&&zbr dp fixed x):=by simp[yO]
theorem zq0 (l:List DirD) (x:DirD):tDs (l++[x])=tDs l++tD x:=by simp[tDs]
theorem zr7 (l:List DirD) (x:DirD):bDs (l++[x])=bDs l+bD x:=by simp[bDs]
theorem yC (fixed:Bool) (m:List DirD) (hw:zkn m) (hm:8*bDs m≤Lim):WC 143 [.bool fixed,.sl .no 2 (cDs m)] (8*bDs m) 0 32 (fun dp=>yO dp fixed m) (tDs m):=by
 intro H w o l ok dp h h0 h1 hb
 have hml:=zoy m
 have hcl:=zgX m
 have hm':=hm
 simp only[Lim] at hm'
 refine zj.go ir143 ck143 (Al4 _) fun KP Q hQ=>?_
 have w0:=WR.refl h
 simp(disch:=first|omega|assumption) only[ir143,hcl,go_sem]
 refine zG m 10 (fun x:Own×List Tok=>[]) (fun done rest x H'=>WR H o w l ok dp (8*bDs done) (yO dp fixed done) (tDs done) H' x.1 x.2) (o,l) (by simp(disch:=first|omega|assumption) only[go_sem]) (w0.cast (by omega) rfl rfl) ?_ ?_
 ·rintro⟨o3,l3⟩ H3 J w3 hlt
  simp only at w3
  simp(disch:=first|omega|assumption) only[hcl,hlt,go_sem]
  exact hQ _ _ H3 H3 [] nofun rfl (Low.refl _) ⟨rfl,w3.fin rfl (fun _=>rfl) (by omega)⟩
 ·rintro done x rest ⟨o3,l3⟩ H3 J hd hlt hlt2 w3 hJ
  simp only at w3
  have hg:=zkf hd
  have hbm:=zoG done x rest
  rw[← hd] at hbm
  have hmem:x∈m:=by rw[hd];simp
  have hwx:=hw x hmem
  obtain⟨s,args⟩:=x
  have hal:=YV args
  simp only[bD] at hbm
  have ex:cD ⟨s,args⟩=[.str s,.sl .no 6 (cMs args)]:=rfl
  rw[ex] at hg
  simp(disch:=first|omega|assumption) only[hcl,hlt,hg,go_sem]
  refine zm fun b hb=>?_
  have hbw:b≠w:=fun e=>by subst e;rw[w3.here.cell] at hb;cases hb
  have w4:=w3.alloc (x:=.cells [.str s,.sl .no 6 (cMs args)]) hb
  have hbc:(H3.upd b (.cells [.str s,.sl .no 6 (cMs args)])) b=some (.cells [.str s,.sl .no 6 (cMs args)]):=upd_same ..
  simp(disch:=first|omega|assumption) only[go_sem]
  refine zi (yq [64] _) w4 (by omega) (by omega) (by omega) fun o5 l5 H5 w5 s5=>?_
  have hb5:=s5.box w4.here.own hbc hbw
  simp(disch:=first|omega|assumption) only[hb5,go_sem]
  refine zi (yk s (by simp only[Lim];omega)) w5 (by omega) (by omega) (by omega) fun o6 l6 H6 w6 s6=>?_
  have hb6:=s6.box w5.here.own hb5 hbw
  simp(disch:=first|omega|assumption) only[hb6,go_sem]
  refine zi (zed fixed args hwx (by simp only[Lim];omega)) w6 (by omega) (by omega) (by omega) fun o7 l7 H7 w7 s7=>?_
  simp(disch:=first|omega|assumption) only[wrap64,go_sem]
  exact goJ (hJ (o7,l7) H7 (w7.cast (by rw[zr7];simp only[bD];omega) (by rw[zkR];simp[zbr,Za]) (by rw[zq0];simp[tD]))) (by simp(disch:=first|omega|assumption) only[go_sem])
def zqj (c:Nat):Prop:=∀ l:List SelD,bSs l≤c→zdc l→16*bSs l+2≤Lim→WC 87 [.sl .no 7 (cSs l)] (16*bSs l) 0 17 (fun dp=>zQ dp l) (tSl l)
theorem yv {c:Nat} (hL:zqj c) (l:List SelD) (hc:bSs l≤c) (hw:zdc l) (hm:16*bSs l+2≤Lim):WC 144 [.sl .no 7 (cSs l)] (16*bSs l+2) 0 16 (fun dp=>zQ (dp+1) l) (tBl l):=by
 intro H w o k ok dp h h0 h1 hb
 refine zj.go ir144 ck144 (Al4 _) fun KP Q hQ=>?_
 simp(disch:=first|omega|assumption) only[ir144,go_sem]
 refine zbh (yq [123] _) h (by omega) (by omega) (by omega) fun o2 l2 H2 h2 h3 h4 h5=>?_
 have c2:=h2.cell
 have w1:IntKind.wrap .i64 (dp+1)=dp+1:=wrap64 (by omega) (by omega)
 have w2:IntKind.wrap .i64 (dp+1-1)=dp:=by rw[wrap64 (by omega) (by omega)];omega
 simp(disch:=first|omega|assumption) only[c2,w1,go_sem]
 have g2:=h2.put (ok':=ok&&true) (dp':=dp+1)
 refine zbh (hL l hc hw hm) g2 (by omega) (by omega) (by omega) fun o3 l3 H3 h6 h7 h8 h9=>?_
 have c3:=h6.cell
 simp(disch:=first|omega|assumption) only[c3,w2,go_sem]
 have g3:=h6.put (ok':=(ok&&true)&&zQ (dp+1) l) (dp':=dp)
 refine zbh (yq [125] _) g3 (by omega) (by omega) (by omega) fun o4 l4 H4 h10 h11 h12 h13=>?_
 simp(disch:=first|omega|assumption) only[go_sem]
 refine hQ _ _ H4 H4 [] nofun rfl (Low.refl _) ⟨rfl,o4,l4,by simpa using h10,?_,by omega,fun e=>?_⟩
 ·exact((h3.upd.trans (upd_same ..) h7).upd).trans (upd_same ..) h11
 ·simp only[Bool.and_true] at h5 h9 h13
  rw[h13 e,h9 e,h5 (by simp only[Al0] at e;exact e.1)]
  simp[tBl]
theorem zr0 (k:Int) (al nm:List UInt8) (args:List Mem) (dirs:List DirD) (on:List UInt8) (sels:List SelD) (hk:k=1) (hw:wfS (.mk k al nm args dirs on sels)) (hm:16*bS (.mk k al nm args dirs on sels)≤Lim) :
  WC 155 [.agg (cS (.mk k al nm args dirs on sels))] (16*bS (.mk k al nm args dirs on sels)) 0 16 (fun dp=>z6 dp (.mk k al nm args dirs on sels)) (tS (.mk k al nm args dirs on sels)):=by
 intro H w o l ok dp h h0 h1 hb
 have hm':=hm
 simp only[Lim,bS] at hm'
 simp only[bS] at hb
 have hcm:=ZW args
 have hcs:=zdG sels
 obtain⟨_,hwd,_⟩:=hw
 subst hk
 refine zj.go ir155 ck155 (Al4 _) fun KP Q hQ=>?_
 have w0:=WR.refl h
 obtain⟨b,hbd⟩:∃ b,b=(decide (nm≠[111,110])&&(decide (al=[])&&(decide (on=[])&&(decide (args.length=0)&&decide (sels.length=0))))):=⟨_,rfl⟩
 have er:z6 dp (.mk 1 al nm args dirs on sels)=(b&&zZ nm&&yO dp false dirs):=by
  rw[hbd];simp only[z6,show ¬ ((1:Int)=0) by decide,if_false,if_true]
  cases zZ nm<;>cases yO dp false dirs<;>simp
 have et:b=true→tS (.mk 1 al nm args dirs on sels)=pk [46,46,46]::wk nm::tDs dirs:=fun e=>by
  rw[hbd] at e
  simp only[Al0,zL] at e
  simp[tS,e.2.2.2.2]
 by_cases h1:al=[]
 case neg =>
  have hbv:b=false:=by rw[hbd];simp[h1]
  simp(disch:=first|omega|assumption) only[ir155,zaP,h1,go_sem]
  refine zi (Zu _) w0 (by omega) (by omega) (by omega) fun o2 l2 H2 w2 _=>?_
  simp(disch:=first|omega|assumption) only[go_sem]
  refine zi (yq [46,46,46] _) w2 (by omega) (by omega) (by omega) fun o3 l3 H3 w3 _=>?_
  simp(disch:=first|omega|assumption) only[go_sem]
  refine zi (yk nm (by simp only[Lim];omega)) w3 (by omega) (by omega) (by omega) fun o4 l4 H4 w4 _=>?_
  simp(disch:=first|omega|assumption) only[go_sem]
  refine zi (yC false dirs hwd (by simp only[Lim];omega)) w4 (by omega) (by omega) (by omega) fun o5 l5 H5 w5 _=>?_
  simp(disch:=first|omega|assumption) only[go_sem]
  exact hQ _ _ H5 H5 [] nofun rfl (Low.refl _) ⟨rfl,w5.fin (by show _=z6 dp _;rw[er,hbv];simp) (fun e=>by have e:z6 dp (.mk 1 al nm args dirs on sels)=true:=e;rw[et (by rw[er] at e;simp only[Al0] at e;exact e.1.1)];simp) (by simp only[bS];omega)⟩
 by_cases h2:args.length=0
 case neg =>
  have hbv:b=false:=by rw[hbd];simp[h2]
  have h2':¬ ((args.length:Int)=0):=by omega
  simp(disch:=first|omega|assumption) only[ir155,zaP,h1,hcm,h2',go_sem]
  refine zi (Zu _) w0 (by omega) (by omega) (by omega) fun o2 l2 H2 w2 _=>?_
  simp(disch:=first|omega|assumption) only[go_sem]
  refine zi (yq [46,46,46] _) w2 (by omega) (by omega) (by omega) fun o3 l3 H3 w3 _=>?_
  simp(disch:=first|omega|assumption) only[go_sem]
  refine zi (yk nm (by simp only[Lim];omega)) w3 (by omega) (by omega) (by omega) fun o4 l4 H4 w4 _=>?_
  simp(disch:=first|omega|assumption) only[go_sem]
  refine zi (yC false dirs hwd (by simp only[Lim];omega)) w4 (by omega) (by omega) (by omega) fun o5 l5 H5 w5 _=>?_
  simp(disch:=first|omega|assumption) only[go_sem]
  exact hQ _ _ H5 H5 [] nofun rfl (Low.refl _) ⟨rfl,w5.fin (by show _=z6 dp _;rw[er,hbv];simp) (fun e=>by have e:z6 dp (.mk 1 al nm args dirs on sels)=true:=e;rw[et (by rw[er] at e;simp only[Al0] at e;exact e.1.1)];simp) (by simp only[bS];omega)⟩
 have h2':((args.length:Int)=0)=True:=eq_true (by omega)
 by_cases h3:on=[]
 case neg =>
  have hbv:b=false:=by rw[hbd];simp[h3]
  simp(disch:=first|omega|assumption) only[ir155,zaP,h1,hcm,h2',h3,go_sem]
  refine zi (Zu _) w0 (by omega) (by omega) (by omega) fun o2 l2 H2 w2 _=>?_
  simp(disch:=first|omega|assumption) only[go_sem]
  refine zi (yq [46,46,46] _) w2 (by omega) (by omega) (by omega) fun o3 l3 H3 w3 _=>?_
  simp(disch:=first|omega|assumption) only[go_sem]
  refine zi (yk nm (by simp only[Lim];omega)) w3 (by omega) (by omega) (by omega) fun o4 l4 H4 w4 _=>?_
  simp(disch:=first|omega|assumption) only[go_sem]
  refine zi (yC false dirs hwd (by simp only[Lim];omega)) w4 (by omega) (by omega) (by omega) fun o5 l5 H5 w5 _=>?_
  simp(disch:=first|omega|assumption) only[go_sem]
  exact hQ _ _ H5 H5 [] nofun rfl (Low.refl _) ⟨rfl,w5.fin (by show _=z6 dp _;rw[er,hbv];simp) (fun e=>by have e:z6 dp (.mk 1 al nm args dirs on sels)=true:=e;rw[et (by rw[er] at e;simp only[Al0] at e;exact e.1.1)];simp) (by simp only[bS];omega)⟩
 by_cases h4:sels.length=0
 case neg =>
  have hbv:b=false:=by rw[hbd];simp[h4]
  have h4':¬ ((sels.length:Int)=0):=by omega
  simp(disch:=first|omega|assumption) only[ir155,zaP,h1,hcm,h2',h3,hcs,h4',go_sem]
  refine zi (Zu _) w0 (by omega) (by omega) (by omega) fun o2 l2 H2 w2 _=>?_
  simp(disch:=first|omega|assumption) only[go_sem]
  refine zi (yq [46,46,46] _) w2 (by omega) (by omega) (by omega) fun o3 l3 H3 w3 _=>?_
  simp(disch:=first|omega|assumption) only[go_sem]
  refine zi (yk nm (by simp only[Lim];omega)) w3 (by omega) (by omega) (by omega) fun o4 l4 H4 w4 _=>?_
  simp(disch:=first|omega|assumption) only[go_sem]
  refine zi (yC false dirs hwd (by simp only[Lim];omega)) w4 (by omega) (by omega) (by omega) fun o5 l5 H5 w5 _=>?_
  simp(disch:=first|omega|assumption) only[go_sem]
  exact hQ _ _ H5 H5 [] nofun rfl (Low.refl _) ⟨rfl,w5.fin (by show _=z6 dp _;rw[er,hbv];simp) (fun e=>by have e:z6 dp (.mk 1 al nm args dirs on sels)=true:=e;rw[et (by rw[er] at e;simp only[Al0] at e;exact e.1.1)];simp) (by simp only[bS];omega)⟩
 have h4':((sels.length:Int)=0)=True:=eq_true (by omega)
 by_cases h5:nm=[111,110]
 case pos =>
  have hbv:b=false:=by rw[hbd];simp[h5]
  simp(disch:=first|omega|assumption) only[ir155,zaP,h1,hcm,h2',h3,hcs,h4',h5,go_sem]
  subst h5
  refine zi (Zu _) w0 (by omega) (by omega) (by omega) fun o2 l2 H2 w2 _=>?_
  simp(disch:=first|omega|assumption) only[go_sem]
  refine zi (yq [46,46,46] _) w2 (by omega) (by omega) (by omega) fun o3 l3 H3 w3 _=>?_
  simp(disch:=first|omega|assumption) only[go_sem]
  refine zi (yk [111,110] (by simp only[Lim];omega)) w3 (by omega) (by omega) (by omega) fun o4 l4 H4 w4 _=>?_
  simp(disch:=first|omega|assumption) only[go_sem]
  refine zi (yC false dirs hwd (by simp only[Lim];omega)) w4 (by omega) (by omega) (by omega) fun o5 l5 H5 w5 _=>?_
  simp(disch:=first|omega|assumption) only[go_sem]
  exact hQ _ _ H5 H5 [] nofun rfl (Low.refl _) ⟨rfl,w5.fin (by show _=z6 dp _;rw[er,hbv];simp) (fun e=>by have e:z6 dp (.mk 1 al [111,110] args dirs on sels)=true:=e;rw[et (by rw[er] at e;simp only[Al0] at e;exact e.1.1)];simp) (by simp only[bS];omega)⟩
 have hbv:b=true:=by rw[hbd];simp[h1,h2,h3,h4,h5]
 simp(disch:=first|omega|assumption) only[ir155,zaP,h1,hcm,h2',h3,hcs,h4',h5,go_sem]
 refine zi (Zu _) w0 (by omega) (by omega) (by omega) fun o2 l2 H2 w2 _=>?_
 simp(disch:=first|omega|assumption) only[go_sem]
 refine zi (yq [46,46,46] _) w2 (by omega) (by omega) (by omega) fun o3 l3 H3 w3 _=>?_
 simp(disch:=first|omega|assumption) only[go_sem]
 refine zi (yk nm (by simp only[Lim];omega)) w3 (by omega) (by omega) (by omega) fun o4 l4 H4 w4 _=>?_
 simp(disch:=first|omega|assumption) only[go_sem]
 refine zi (yC false dirs hwd (by simp only[Lim];omega)) w4 (by omega) (by omega) (by omega) fun o5 l5 H5 w5 _=>?_
 simp(disch:=first|omega|assumption) only[go_sem]
 exact hQ _ _ H5 H5 [] nofun rfl (Low.refl _) ⟨rfl,w5.fin (by show _=z6 dp _;rw[er,hbv];simp) (fun e=>by have e:z6 dp (.mk 1 al nm args dirs on sels)=true:=e;rw[et (by rw[er] at e;simp only[Al0] at e;exact e.1.1)];simp) (by simp only[bS];omega)⟩
theorem zmh:zZ [111,110]=true:=by decide
theorem zqf {c:Nat} (hL:zqj c) (k:Int) (al nm:List UInt8) (args:List Mem) (dirs:List DirD) (on:List UInt8) (sels:List SelD) (hk:k=2) (hc:bSs sels≤c) (hw:wfS (.mk k al nm args dirs on sels)) (hm:16*bS (.mk k al nm args dirs on sels)≤Lim) :
  WC 156 [.agg (cS (.mk k al nm args dirs on sels))] (16*bS (.mk k al nm args dirs on sels)) 0 16 (fun dp=>z6 dp (.mk k al nm args dirs on sels)) (tS (.mk k al nm args dirs on sels)):=by
 intro H w o l ok dp h h0 h1 hb
 have hm':=hm
 simp only[Lim,bS] at hm'
 simp only[bS] at hb
 have hcm:=ZW args
 obtain⟨_,hwd,hws⟩:=hw
 subst hk
 refine zj.go ir156 ck156 (Al4 _) fun KP Q hQ=>?_
 have w0:=WR.refl h
 obtain⟨b,hbd⟩:∃ b,b=(decide (nm=[])&&(decide (al=[])&&decide (args.length=0))):=⟨_,rfl⟩
 have er:z6 dp (.mk 2 al nm args dirs on sels)=(b&&(decide (on=[])||zZ on)&&yO dp false dirs&&zQ (dp+1) sels):=by
  rw[hbd];simp only[z6,zQ,show ¬ ((2:Int)=0) by decide,show ¬ ((2:Int)=1) by decide,if_false,if_true]
  cases yO dp false dirs<;>simp[Za]
 have et:b=true∧zQ (dp+1) sels=true→tS (.mk 2 al nm args dirs on sels)=pk [46,46,46]::((if on=[] then [] else [wk [111,110],wk on])++(tDs dirs++tBl sels)):=fun⟨e,e2⟩=>by
  simp only[zQ,Al0,zL] at e2
  simp[tS,e2.1,tBl]
 by_cases h1:al=[]
 case neg =>
  have hbv:b=false:=by rw[hbd];simp[h1]
  simp(disch:=first|omega|assumption) only[ir156,zaP,h1,go_sem]
  refine zi (Zu _) w0 (by omega) (by omega) (by omega) fun o2 l2 H2 w2 _=>?_
  simp(disch:=first|omega|assumption) only[go_sem]
  refine zi (yq [46,46,46] _) w2 (by omega) (by omega) (by omega) fun o3 l3 H3 w3 _=>?_
  by_cases ho:on=[]
  case pos =>
   simp(disch:=first|omega|assumption) only[ho,go_sem]
   refine zi (yC false dirs hwd (by simp only[Lim];omega)) w3 (by omega) (by omega) (by omega) fun o5 l5 H5 w5 _=>?_
   simp(disch:=first|omega|assumption) only[go_sem]
   refine zi (yv hL sels hc hws (by simp only[Lim];omega)) w5 (by omega) (by omega) (by omega) fun o6 l6 H6 w6 _=>?_
   simp(disch:=first|omega|assumption) only[go_sem]
   exact hQ _ _ H6 H6 [] nofun rfl (Low.refl _) ⟨rfl,w6.fin (by show _=z6 dp _;rw[er,hbv,ho];simp[Za]) (fun e=>by have e:z6 dp (.mk 2 al nm args dirs on sels)=true:=e;rw[et (by rw[er] at e;simp only[Al0] at e;exact⟨e.1.1.1,e.2⟩),if_pos ho];simp) (by simp only[bS];omega)⟩
  case neg =>
   simp(disch:=first|omega|assumption) only[ho,go_sem]
   refine zi (yk [111,110] (by simp[Lim])) w3 (by omega) (by omega) (by omega) fun o4 l4 H4 w4 _=>?_
   simp(disch:=first|omega|assumption) only[go_sem]
   refine zi (yk on (by simp only[Lim];omega)) w4 (by omega) (by omega) (by omega) fun o5 l5 H5 w5 _=>?_
   simp(disch:=first|omega|assumption) only[go_sem]
   refine zi (yC false dirs hwd (by simp only[Lim];omega)) w5 (by omega) (by omega) (by omega) fun o6 l6 H6 w6 _=>?_
   simp(disch:=first|omega|assumption) only[go_sem]
   refine zi (yv hL sels hc hws (by simp only[Lim];omega)) w6 (by omega) (by omega) (by omega) fun o7 l7 H7 w7 _=>?_
   simp(disch:=first|omega|assumption) only[go_sem]
   exact hQ _ _ H7 H7 [] nofun rfl (Low.refl _) ⟨rfl,w7.fin (by show _=z6 dp _;rw[er,hbv,zmh];simp[ho,Za]) (fun e=>by have e:z6 dp (.mk 2 al nm args dirs on sels)=true:=e;rw[et (by rw[er] at e;simp only[Al0] at e;exact⟨e.1.1.1,e.2⟩),if_neg ho];simp) (by simp only[bS];omega)⟩
 by_cases h2:nm=[]
 case neg =>
  have hbv:b=false:=by rw[hbd];simp[h2]
  simp(disch:=first|omega|assumption) only[ir156,zaP,h1,h2,go_sem]
  refine zi (Zu _) w0 (by omega) (by omega) (by omega) fun o2 l2 H2 w2 _=>?_
  simp(disch:=first|omega|assumption) only[go_sem]
  refine zi (yq [46,46,46] _) w2 (by omega) (by omega) (by omega) fun o3 l3 H3 w3 _=>?_
  by_cases ho:on=[]
  case pos =>
   simp(disch:=first|omega|assumption) only[ho,go_sem]
   refine zi (yC false dirs hwd (by simp only[Lim];omega)) w3 (by omega) (by omega) (by omega) fun o5 l5 H5 w5 _=>?_
   simp(disch:=first|omega|assumption) only[go_sem]
   refine zi (yv hL sels hc hws (by simp only[Lim];omega)) w5 (by omega) (by omega) (by omega) fun o6 l6 H6 w6 _=>?_
   simp(disch:=first|omega|assumption) only[go_sem]
   exact hQ _ _ H6 H6 [] nofun rfl (Low.refl _) ⟨rfl,w6.fin (by show _=z6 dp _;rw[er,hbv,ho];simp[Za]) (fun e=>by have e:z6 dp (.mk 2 al nm args dirs on sels)=true:=e;rw[et (by rw[er] at e;simp only[Al0] at e;exact⟨e.1.1.1,e.2⟩),if_pos ho];simp) (by simp only[bS];omega)⟩
  case neg =>
   simp(disch:=first|omega|assumption) only[ho,go_sem]
   refine zi (yk [111,110] (by simp[Lim])) w3 (by omega) (by omega) (by omega) fun o4 l4 H4 w4 _=>?_
   simp(disch:=first|omega|assumption) only[go_sem]
   refine zi (yk on (by simp only[Lim];omega)) w4 (by omega) (by omega) (by omega) fun o5 l5 H5 w5 _=>?_
   simp(disch:=first|omega|assumption) only[go_sem]
   refine zi (yC false dirs hwd (by simp only[Lim];omega)) w5 (by omega) (by omega) (by omega) fun o6 l6 H6 w6 _=>?_
   simp(disch:=first|omega|assumption) only[go_sem]
   refine zi (yv hL sels hc hws (by simp only[Lim];omega)) w6 (by omega) (by omega) (by omega) fun o7 l7 H7 w7 _=>?_
   simp(disch:=first|omega|assumption) only[go_sem]
   exact hQ _ _ H7 H7 [] nofun rfl (Low.refl _) ⟨rfl,w7.fin (by show _=z6 dp _;rw[er,hbv,zmh];simp[ho,Za]) (fun e=>by have e:z6 dp (.mk 2 al nm args dirs on sels)=true:=e;rw[et (by rw[er] at e;simp only[Al0] at e;exact⟨e.1.1.1,e.2⟩),if_neg ho];simp) (by simp only[bS];omega)⟩
 by_cases h3:args.length=0
 case neg =>
  have hbv:b=false:=by rw[hbd];simp[h3]
  have h3':¬ ((args.length:Int)=0):=by omega
  simp(disch:=first|omega|assumption) only[ir156,zaP,h1,h2,hcm,h3',go_sem]
  refine zi (Zu _) w0 (by omega) (by omega) (by omega) fun o2 l2 H2 w2 _=>?_
  simp(disch:=first|omega|assumption) only[go_sem]
  refine zi (yq [46,46,46] _) w2 (by omega) (by omega) (by omega) fun o3 l3 H3 w3 _=>?_
  by_cases ho:on=[]
  case pos =>
   simp(disch:=first|omega|assumption) only[ho,go_sem]
   refine zi (yC false dirs hwd (by simp only[Lim];omega)) w3 (by omega) (by omega) (by omega) fun o5 l5 H5 w5 _=>?_
   simp(disch:=first|omega|assumption) only[go_sem]
   refine zi (yv hL sels hc hws (by simp only[Lim];omega)) w5 (by omega) (by omega) (by omega) fun o6 l6 H6 w6 _=>?_
   simp(disch:=first|omega|assumption) only[go_sem]
   exact hQ _ _ H6 H6 [] nofun rfl (Low.refl _) ⟨rfl,w6.fin (by show _=z6 dp _;rw[er,hbv,ho];simp[Za]) (fun e=>by have e:z6 dp (.mk 2 al nm args dirs on sels)=true:=e;rw[et (by rw[er] at e;simp only[Al0] at e;exact⟨e.1.1.1,e.2⟩),if_pos ho];simp) (by simp only[bS];omega)⟩
  case neg =>
   simp(disch:=first|omega|assumption) only[ho,go_sem]
   refine zi (yk [111,110] (by simp[Lim])) w3 (by omega) (by omega) (by omega) fun o4 l4 H4 w4 _=>?_
   simp(disch:=first|omega|assumption) only[go_sem]
   refine zi (yk on (by simp only[Lim];omega)) w4 (by omega) (by omega) (by omega) fun o5 l5 H5 w5 _=>?_
   simp(disch:=first|omega|assumption) only[go_sem]
   refine zi (yC false dirs hwd (by simp only[Lim];omega)) w5 (by omega) (by omega) (by omega) fun o6 l6 H6 w6 _=>?_
   simp(disch:=first|omega|assumption) only[go_sem]
   refine zi (yv hL sels hc hws (by simp only[Lim];omega)) w6 (by omega) (by omega) (by omega) fun o7 l7 H7 w7 _=>?_
   simp(disch:=first|omega|assumption) only[go_sem]
   exact hQ _ _ H7 H7 [] nofun rfl (Low.refl _) ⟨rfl,w7.fin (by show _=z6 dp _;rw[er,hbv,zmh];simp[ho,Za]) (fun e=>by have e:z6 dp (.mk 2 al nm args dirs on sels)=true:=e;rw[et (by rw[er] at e;simp only[Al0] at e;exact⟨e.1.1.1,e.2⟩),if_neg ho];simp) (by simp only[bS];omega)⟩
 have h3':((args.length:Int)=0)=True:=eq_true (by omega)
 have hbv:b=true:=by rw[hbd];simp[h1,h2,h3]
 simp(disch:=first|omega|assumption) only[ir156,zaP,h1,h2,hcm,h3',go_sem]
 refine zi (Zu _) w0 (by omega) (by omega) (by omega) fun o2 l2 H2 w2 _=>?_
 simp(disch:=first|omega|assumption) only[go_sem]
 refine zi (yq [46,46,46] _) w2 (by omega) (by omega) (by omega) fun o3 l3 H3 w3 _=>?_
 by_cases ho:on=[]
 case pos =>
  simp(disch:=first|omega|assumption) only[ho,go_sem]
  refine zi (yC false dirs hwd (by simp only[Lim];omega)) w3 (by omega) (by omega) (by omega) fun o5 l5 H5 w5 _=>?_
  simp(disch:=first|omega|assumption) only[go_sem]
  refine zi (yv hL sels hc hws (by simp only[Lim];omega)) w5 (by omega) (by omega) (by omega) fun o6 l6 H6 w6 _=>?_
  simp(disch:=first|omega|assumption) only[go_sem]
  exact hQ _ _ H6 H6 [] nofun rfl (Low.refl _) ⟨rfl,w6.fin (by show _=z6 dp _;rw[er,hbv,ho];simp[Za]) (fun e=>by have e:z6 dp (.mk 2 al nm args dirs on sels)=true:=e;rw[et (by rw[er] at e;simp only[Al0] at e;exact⟨e.1.1.1,e.2⟩),if_pos ho];simp) (by simp only[bS];omega)⟩
 case neg =>
  simp(disch:=first|omega|assumption) only[ho,go_sem]
  refine zi (yk [111,110] (by simp[Lim])) w3 (by omega) (by omega) (by omega) fun o4 l4 H4 w4 _=>?_
  simp(disch:=first|omega|assumption) only[go_sem]
  refine zi (yk on (by simp only[Lim];omega)) w4 (by omega) (by omega) (by omega) fun o5 l5 H5 w5 _=>?_
  simp(disch:=first|omega|assumption) only[go_sem]
  refine zi (yC false dirs hwd (by simp only[Lim];omega)) w5 (by omega) (by omega) (by omega) fun o6 l6 H6 w6 _=>?_
  simp(disch:=first|omega|assumption) only[go_sem]
  refine zi (yv hL sels hc hws (by simp only[Lim];omega)) w6 (by omega) (by omega) (by omega) fun o7 l7 H7 w7 _=>?_
  simp(disch:=first|omega|assumption) only[go_sem]
  exact hQ _ _ H7 H7 [] nofun rfl (Low.refl _) ⟨rfl,w7.fin (by show _=z6 dp _;rw[er,hbv,zmh];simp[ho,Za]) (fun e=>by have e:z6 dp (.mk 2 al nm args dirs on sels)=true:=e;rw[et (by rw[er] at e;simp only[Al0] at e;exact⟨e.1.1.1,e.2⟩),if_neg ho];simp) (by simp only[bS];omega)⟩
theorem zM (dp:Int) (l:List SelD) (x:SelD):yw dp (l++[x])=(yw dp l&&z6 dp x):=by rw[zdf];simp[yw]
theorem Zy (l:List SelD) (x:SelD):tSl (l++[x])=tSl l++tS x:=by rw[zos];simp[tSl]
theorem ZE (l:List SelD) (x:SelD):bSs (l++[x])=bSs l+bS x:=by rw[zgZ];simp[bSs]
theorem zlC {dp:Int} {l a b:List SelD} {x:SelD} (h:l=a++x::b) (hr:yw dp a=false):yw dp l=false:=by
 rw[h,zdf,hr];rfl
theorem WR.castC {H0 H:za} {o0 o:Own} {w B B':Nat} {l0 l tk tk':List Tok} {ok0 r r':Bool} {dp:Int} (h:WR H0 o0 w l0 ok0 dp B r tk H o l) (hB:B≤B') (hr:r=r') (ht:r'=true→tk=tk'):WR H0 o0 w l0 ok0 dp B' r' tk' H o l:=by
 subst hr
 refine⟨h.here,h.st,by have:=h.len;omega,fun e=>?_⟩
 rw[h.eq e,ht (by simp only[Al0] at e;exact e.2)]
set_option maxHeartbeats 4000000 in
theorem Y6:∀ c,zqj c:=by
 intro c
 induction c using Nat.strongRecOn with
 | _ c ih =>
 intro L hc hwL hm H w o l ok dp h h0 h1 hb
 have hm':=hm
 simp only[Lim] at hm'
 have hcs:=zdG L
 have hLl:=zkS L
 refine zj.go ir87 ck87 (Al4 _) fun KP Q hQ=>?_
 have w0:=WR.refl h
 have hcell:=h.cell
 by_cases hl0:L.length=0
 ·have hl':¬ ((0:Int)<(L.length:Int)):=by omega
  have hneed:false=zQ dp L:=by simp[zQ,hl0]
  simp(disch:=first|omega|assumption) only[ir87,hcs,hl',go_sem]
  refine zi (Zu _) w0 (by omega) (by omega) (by omega) fun o2 l2 H2 w2 _=>?_
  have hf:(ok&&zQ dp L)=false:=by rw[← hneed];simp
  simp(disch:=first|omega|assumption) only[hcs,go_sem]
  refine zG L 20 (fun x:Unit=>[]) (fun done rest x H'=>H'=H2) () (by simp(disch:=first|omega|assumption) only[go_sem]) rfl ?_ ?_
  case refine_1 =>
   rintro _ H3 J rfl hlt
   simp(disch:=first|omega|assumption) only[hcs,hlt,go_sem]
   exact hQ _ _ H3 H3 [] nofun rfl (Low.refl _) ⟨rfl,w2.fin (by show _=zQ dp L;rw[← hneed];simp) (fun e=>by have e:zQ dp L=true:=e;rw[← hneed] at e;cases e) (by omega)⟩
  case refine_2 =>
   rintro done x rest _ H3 J hd hlt hlt2 rfl hJ
   have hg:=zfl hd
   obtain⟨k,al,nm,args,dirs,on,sels⟩:=x
   rw[zaP] at hg
   simp(disch:=first|omega|assumption) only[hcs,hlt,hg,go_sem]
   refine zm fun b hb=>?_
   have w5:=w2.alloc (x:=.cells [.int .i64 k,.str al,.str nm,.sl .no 6 (cMs args),.sl .no 2 (cDs dirs),.str on,.sl .no 7 (cSs sels)]) hb
   have hc5:=w5.here.cell
   simp only[Bool.true_and,Bool.and_false] at hc5
   simp(disch:=first|omega|assumption) only[hc5,go_sem]
   exact hQ _ _ _ _ [] nofun rfl (Low.refl _) ⟨rfl,w5.fin (by show _=zQ dp L;rw[← hneed];simp) (fun e=>by have e:zQ dp L=true:=e;rw[← hneed] at e;cases e) (by omega)⟩
 have hl':((0:Int)<(L.length:Int))=True:=eq_true (by omega)
 by_cases hdp:dp≤16
 case neg =>
  have hneed:false=zQ dp L:=by simp[zQ,hdp]
  simp(disch:=first|omega|assumption) only[ir87,hcs,hl',hcell,hdp,go_sem]
  refine zi (Zu _) w0 (by omega) (by omega) (by omega) fun o2 l2 H2 w2 _=>?_
  have hf:(ok&&zQ dp L)=false:=by rw[← hneed];simp
  simp(disch:=first|omega|assumption) only[hcs,go_sem]
  refine zG L 20 (fun x:Unit=>[]) (fun done rest x H'=>H'=H2) () (by simp(disch:=first|omega|assumption) only[go_sem]) rfl ?_ ?_
  case refine_1 =>
   rintro _ H3 J rfl hlt
   simp(disch:=first|omega|assumption) only[hcs,hlt,go_sem]
   exact hQ _ _ H3 H3 [] nofun rfl (Low.refl _) ⟨rfl,w2.fin (by show _=zQ dp L;rw[← hneed];simp) (fun e=>by have e:zQ dp L=true:=e;rw[← hneed] at e;cases e) (by omega)⟩
  case refine_2 =>
   rintro done x rest _ H3 J hd hlt hlt2 rfl hJ
   have hg:=zfl hd
   obtain⟨k,al,nm,args,dirs,on,sels⟩:=x
   rw[zaP] at hg
   simp(disch:=first|omega|assumption) only[hcs,hlt,hg,go_sem]
   refine zm fun b hb=>?_
   have w5:=w2.alloc (x:=.cells [.int .i64 k,.str al,.str nm,.sl .no 6 (cMs args),.sl .no 2 (cDs dirs),.str on,.sl .no 7 (cSs sels)]) hb
   have hc5:=w5.here.cell
   simp only[Bool.true_and,Bool.and_false] at hc5
   simp(disch:=first|omega|assumption) only[hc5,go_sem]
   exact hQ _ _ _ _ [] nofun rfl (Low.refl _) ⟨rfl,w5.fin (by show _=zQ dp L;rw[← hneed];simp) (fun e=>by have e:zQ dp L=true:=e;rw[← hneed] at e;cases e) (by omega)⟩
 have er0:zQ dp L=yw dp L:=by simp[zQ,hdp,hl0]
 simp(disch:=first|omega|assumption) only[ir87,hcs,hl',hcell,hdp,go_sem]
 refine zi (Zu _) w0 (by omega) (by omega) (by omega) fun o2 l2 H2 w2 _=>?_
 simp(disch:=first|omega|assumption) only[hcs,go_sem]
 refine zG L 20 (fun x:Own×List Tok=>[]) (fun done rest x H'=>WR H o w l ok dp (16*bSs done) (yw dp done) (tSl done) H' x.1 x.2) (o2,l2) (by simp(disch:=first|omega|assumption) only[go_sem]) (w2.cast (by simp[bSs]) (by simp[yw]) (by simp[tSl])) ?_ ?_
 ·rintro⟨o3,l3⟩ H3 J w3 hlt
  simp only at w3
  simp(disch:=first|omega|assumption) only[hcs,hlt,go_sem]
  exact hQ _ _ H3 H3 [] nofun rfl (Low.refl _) ⟨rfl,w3.fin er0.symm (fun _=>rfl) (by omega)⟩
 ·rintro done x rest ⟨o3,l3⟩ H3 J hd hlt hlt2 w3 hJ
  simp only at w3
  have hg:=zfl hd
  have hbm:=zgZ done x rest
  rw[← hd] at hbm
  have hmem:x∈L:=by rw[hd];simp
  have hwx:=zcS hwL x hmem
  obtain⟨k,al,nm,args,dirs,on,sels⟩:=x
  have hbx:bS (.mk k al nm args dirs on sels)=1+al.length+nm.length+on.length+bMs args+bDs dirs+bSs sels:=rfl
  have hcss:=zdG sels
  rw[zaP] at hg
  simp(disch:=first|omega|assumption) only[hcs,hlt,hg,go_sem]
  refine zm fun b hb=>?_
  have hbw:b≠w:=fun e=>by subst e;rw[w3.here.cell] at hb;cases hb
  have w5:=w3.alloc (x:=.cells [.int .i64 k,.str al,.str nm,.sl .no 6 (cMs args),.sl .no 2 (cDs dirs),.str on,.sl .no 7 (cSs sels)]) hb
  have hbc:(H3.upd b (.cells [.int .i64 k,.str al,.str nm,.sl .no 6 (cMs args),.sl .no 2 (cDs dirs),.str on,.sl .no 7 (cSs sels)])) b=some (.cells [.int .i64 k,.str al,.str nm,.sl .no 6 (cMs args),.sl .no 2 (cDs dirs),.str on,.sl .no 7 (cSs sels)]):=upd_same ..
  have hc5:=w5.here.cell
  cases hok:ok&&yw dp done with
  | false =>
   rw[hok] at hc5
   have hf:(ok&&zQ dp L)=false:=by
    cases ok
    ·rfl
    ·rw[Bool.true_and] at hok ⊢;rw[er0];exact zlC hd hok
   simp(disch:=first|omega|assumption) only[hc5,go_sem]
   refine hQ _ _ _ _ [] nofun rfl (Low.refl _) ⟨rfl,o3,l3,?_,w5.st,by have:=w5.len;omega,fun e=>?_⟩
   ·show WAt _ w o3 l3 (ok&&zQ dp L) dp
    rw[hf,← hok];exact w5.here
   ·have e:(ok&&zQ dp L)=true:=e
    rw[hf] at e;cases e
  | true =>
   rw[hok] at hc5
   have hstep:∀(o6:Own) (l6:List Tok) (H6:za),WR H o w l ok dp (16*bSs done+16*bS (.mk k al nm args dirs on sels)) (yw dp done&&z6 dp (.mk k al nm args dirs on sels)) (tSl done++tS (.mk k al nm args dirs on sels)) H6 o6 l6→J ((YT _ [(20,.int .i64 ((done.length:Int)+1))]).keep [0,18,19,20]) H6:=fun o6 l6 H6 w6 =>
    hJ (o6,l6) H6 (w6.cast (by rw[ZE];omega) (zM ..).symm (Zy ..).symm)
   by_cases k1:k=1
   ·have hsp:=zr0 k al nm args dirs on sels k1 hwx (by simp only[Lim];omega)
    rw[zaP] at hsp
    subst k1
    simp(disch:=first|omega|assumption) only[hc5,hbc,go_sem]
    refine zi hsp w5 (by omega) (by omega) (by omega) fun o6 l6 H6 w6 s6=>?_
    simp(disch:=first|omega|assumption) only[wrap64,go_sem]
    exact goJ (hstep o6 l6 H6 w6) (by simp(disch:=first|omega|assumption) only[go_sem])
   by_cases k2:k=2
   ·have hsp:=zqf (c:=bSs sels) (ih (bSs sels) (by omega)) k al nm args dirs on sels k2 (Al4 _) hwx (by simp only[Lim];omega)
    rw[zaP] at hsp
    subst k2
    simp(disch:=first|omega|assumption) only[hc5,hbc,go_sem]
    refine zi hsp w5 (by omega) (by omega) (by omega) fun o6 l6 H6 w6 s6=>?_
    simp(disch:=first|omega|assumption) only[wrap64,go_sem]
    exact goJ (hstep o6 l6 H6 w6) (by simp(disch:=first|omega|assumption) only[go_sem])
   have hLB:=ih (bSs sels) (by omega)
   obtain⟨hwa,hwd,hws⟩:=hwx
   obtain⟨n,hnd⟩:∃ n,n=(decide (k=0)&&decide (on=[])):=⟨_,rfl⟩
   have er:z6 dp (.mk k al nm args dirs on sels)=(n&&(decide (al=[])||zZ al)&&zZ nm&&ZH dp false args&&yO dp false dirs&&(decide (sels.length=0)||zQ (dp+1) sels)):=by
    rw[hnd];simp only[z6,k1,k2,if_false]
    by_cases k0:k=0
    ·simp only[k0,if_true,zQ]
     by_cases hz:sels.length=0
     ·simp only[hz,decide_true,Bool.true_or]
      cases yO dp false dirs<;>cases zZ nm<;>cases ZH dp false args<;>simp[Bool.and_comm]
     ·simp only[hz,decide_false,Bool.false_or,ne_eq,not_false_eq_true,decide_true,Bool.true_and]
      cases yO dp false dirs<;>cases zZ nm<;>cases ZH dp false args<;>simp[Bool.and_comm,Za,Bool.and_left_comm]
    ·simp[k0]
   have et:n=true→tS (.mk k al nm args dirs on sels)=(if al=[] then [] else [wk al,pk [58]])++(wk nm::ZU args)++(tDs dirs++(if sels.length=0 then [] else tBl sels)):=fun e=>by
    rw[hnd] at e;simp only[Al0,zL] at e
    simp only[tS,e.1,if_true,tBl]
   by_cases k0:k=0
   case neg =>
    have hbv:n=false:=by rw[hnd];simp[k0]
    simp(disch:=first|omega|assumption) only[hc5,hbc,k1,k2,k0,go_sem]
    refine zi (Zu _) w5 (by omega) (by omega) (by omega) fun o6 l6 H6 w6 s6=>?_
    have hb6:=s6.box w5.here.own hbc hbw
    by_cases hal:al=[]
    case pos =>
     simp(disch:=first|omega|assumption) only[hb6,hal,go_sem]
     refine zi (yk nm (by simp only[Lim];omega)) w6 (by omega) (by omega) (by omega) fun o9 l9 H9 w9 s9=>?_
     have hb9:=s9.box w6.here.own hb6 hbw
     simp(disch:=first|omega|assumption) only[hb9,go_sem]
     refine zi (zed false args hwa (by simp only[Lim];omega)) w9 (by omega) (by omega) (by omega) fun oY lY HY wY sY=>?_
     have hbY:=sY.box w9.here.own hb9 hbw
     simp(disch:=first|omega|assumption) only[hbY,go_sem]
     refine zi (yC false dirs hwd (by simp only[Lim];omega)) wY (by omega) (by omega) (by omega) fun oZ lZ HZ wZ sZ=>?_
     have hbZ:=sZ.box wY.here.own hbY hbw
     simp(disch:=first|omega|assumption) only[hbZ,go_sem]
     by_cases hz:sels.length=0
     case pos =>
      have hz':¬ ((0:Int)<(sels.length:Int)):=by omega
      simp(disch:=first|omega|assumption) only[hcss,hz',wrap64,go_sem]
      exact goJ (hJ (oZ,lZ) HZ (wZ.castC (by rw[ZE];simp only[bS];omega) (by rw[zM,er,hbv];simp[hz,hal,Za]) (fun e=>by rw[Zy,et (by rw[zM,er] at e;simp only[Al0] at e;exact e.2.1.1.1.1.1)];simp[hz,hal]))) (by simp(disch:=first|omega|assumption) only[go_sem])
     case neg =>
      have hz':((0:Int)<(sels.length:Int))=True:=eq_true (by omega)
      have hbox:=sZ.box wY.here.own hbY hbw
      simp(disch:=first|omega|assumption) only[hcss,hz',hbox,go_sem]
      refine zi (yv hLB sels (Al4 _) hws (by simp only[Lim];omega)) wZ (by omega) (by omega) (by omega) fun oU lU HU wU _=>?_
      simp(disch:=first|omega|assumption) only[wrap64,go_sem]
      exact goJ (hJ (oU,lU) HU (wU.castC (by rw[ZE];simp only[bS];omega) (by rw[zM,er,hbv];simp[hz,hal,Za]) (fun e=>by rw[Zy,et (by rw[zM,er] at e;simp only[Al0] at e;exact e.2.1.1.1.1.1)];simp[hz,hal,tBl]))) (by simp(disch:=first|omega|assumption) only[go_sem])
    case neg =>
     simp(disch:=first|omega|assumption) only[hb6,hal,go_sem]
     refine zi (yk al (by simp only[Lim];omega)) w6 (by omega) (by omega) (by omega) fun o7 l7 H7 w7 s7=>?_
     have hb7:=s7.box w6.here.own hb6 hbw
     simp(disch:=first|omega|assumption) only[hb7,go_sem]
     refine zi (yq [58] _) w7 (by omega) (by omega) (by omega) fun o8 l8 H8 w8 s8=>?_
     have hb8:=s8.box w7.here.own hb7 hbw
     simp(disch:=first|omega|assumption) only[hb8,go_sem]
     refine zi (yk nm (by simp only[Lim];omega)) w8 (by omega) (by omega) (by omega) fun o9 l9 H9 w9 s9=>?_
     have hb9:=s9.box w8.here.own hb8 hbw
     simp(disch:=first|omega|assumption) only[hb9,go_sem]
     refine zi (zed false args hwa (by simp only[Lim];omega)) w9 (by omega) (by omega) (by omega) fun oY lY HY wY sY=>?_
     have hbY:=sY.box w9.here.own hb9 hbw
     simp(disch:=first|omega|assumption) only[hbY,go_sem]
     refine zi (yC false dirs hwd (by simp only[Lim];omega)) wY (by omega) (by omega) (by omega) fun oZ lZ HZ wZ sZ=>?_
     have hbZ:=sZ.box wY.here.own hbY hbw
     simp(disch:=first|omega|assumption) only[hbZ,go_sem]
     by_cases hz:sels.length=0
     case pos =>
      have hz':¬ ((0:Int)<(sels.length:Int)):=by omega
      simp(disch:=first|omega|assumption) only[hcss,hz',wrap64,go_sem]
      exact goJ (hJ (oZ,lZ) HZ (wZ.castC (by rw[ZE];simp only[bS];omega) (by rw[zM,er,hbv];simp[hz,hal,Za]) (fun e=>by rw[Zy,et (by rw[zM,er] at e;simp only[Al0] at e;exact e.2.1.1.1.1.1)];simp[hz,hal]))) (by simp(disch:=first|omega|assumption) only[go_sem])
     case neg =>
      have hz':((0:Int)<(sels.length:Int))=True:=eq_true (by omega)
      have hbox:=sZ.box wY.here.own hbY hbw
      simp(disch:=first|omega|assumption) only[hcss,hz',hbox,go_sem]
      refine zi (yv hLB sels (Al4 _) hws (by simp only[Lim];omega)) wZ (by omega) (by omega) (by omega) fun oU lU HU wU _=>?_
      simp(disch:=first|omega|assumption) only[wrap64,go_sem]
      exact goJ (hJ (oU,lU) HU (wU.castC (by rw[ZE];simp only[bS];omega) (by rw[zM,er,hbv];simp[hz,hal,Za]) (fun e=>by rw[Zy,et (by rw[zM,er] at e;simp only[Al0] at e;exact e.2.1.1.1.1.1)];simp[hz,hal,tBl]))) (by simp(disch:=first|omega|assumption) only[go_sem])
   subst k0
   by_cases ho:on=[]
   case neg =>
    have hbv:n=false:=by rw[hnd];simp[ho]
    simp(disch:=first|omega|assumption) only[hc5,hbc,ho,go_sem]
    refine zi (Zu _) w5 (by omega) (by omega) (by omega) fun o6 l6 H6 w6 s6=>?_
    have hb6:=s6.box w5.here.own hbc hbw
    by_cases hal:al=[]
    case pos =>
     simp(disch:=first|omega|assumption) only[hb6,hal,go_sem]
     refine zi (yk nm (by simp only[Lim];omega)) w6 (by omega) (by omega) (by omega) fun o9 l9 H9 w9 s9=>?_
     have hb9:=s9.box w6.here.own hb6 hbw
     simp(disch:=first|omega|assumption) only[hb9,go_sem]
     refine zi (zed false args hwa (by simp only[Lim];omega)) w9 (by omega) (by omega) (by omega) fun oY lY HY wY sY=>?_
     have hbY:=sY.box w9.here.own hb9 hbw
     simp(disch:=first|omega|assumption) only[hbY,go_sem]
     refine zi (yC false dirs hwd (by simp only[Lim];omega)) wY (by omega) (by omega) (by omega) fun oZ lZ HZ wZ sZ=>?_
     have hbZ:=sZ.box wY.here.own hbY hbw
     simp(disch:=first|omega|assumption) only[hbZ,go_sem]
     by_cases hz:sels.length=0
     case pos =>
      have hz':¬ ((0:Int)<(sels.length:Int)):=by omega
      simp(disch:=first|omega|assumption) only[hcss,hz',wrap64,go_sem]
      exact goJ (hJ (oZ,lZ) HZ (wZ.castC (by rw[ZE];simp only[bS];omega) (by rw[zM,er,hbv];simp[hz,hal,Za]) (fun e=>by rw[Zy,et (by rw[zM,er] at e;simp only[Al0] at e;exact e.2.1.1.1.1.1)];simp[hz,hal]))) (by simp(disch:=first|omega|assumption) only[go_sem])
     case neg =>
      have hz':((0:Int)<(sels.length:Int))=True:=eq_true (by omega)
      have hbox:=sZ.box wY.here.own hbY hbw
      simp(disch:=first|omega|assumption) only[hcss,hz',hbox,go_sem]
      refine zi (yv hLB sels (Al4 _) hws (by simp only[Lim];omega)) wZ (by omega) (by omega) (by omega) fun oU lU HU wU _=>?_
      simp(disch:=first|omega|assumption) only[wrap64,go_sem]
      exact goJ (hJ (oU,lU) HU (wU.castC (by rw[ZE];simp only[bS];omega) (by rw[zM,er,hbv];simp[hz,hal,Za]) (fun e=>by rw[Zy,et (by rw[zM,er] at e;simp only[Al0] at e;exact e.2.1.1.1.1.1)];simp[hz,hal,tBl]))) (by simp(disch:=first|omega|assumption) only[go_sem])
    case neg =>
     simp(disch:=first|omega|assumption) only[hb6,hal,go_sem]
     refine zi (yk al (by simp only[Lim];omega)) w6 (by omega) (by omega) (by omega) fun o7 l7 H7 w7 s7=>?_
     have hb7:=s7.box w6.here.own hb6 hbw
     simp(disch:=first|omega|assumption) only[hb7,go_sem]
     refine zi (yq [58] _) w7 (by omega) (by omega) (by omega) fun o8 l8 H8 w8 s8=>?_
     have hb8:=s8.box w7.here.own hb7 hbw
     simp(disch:=first|omega|assumption) only[hb8,go_sem]
     refine zi (yk nm (by simp only[Lim];omega)) w8 (by omega) (by omega) (by omega) fun o9 l9 H9 w9 s9=>?_
     have hb9:=s9.box w8.here.own hb8 hbw
     simp(disch:=first|omega|assumption) only[hb9,go_sem]
     refine zi (zed false args hwa (by simp only[Lim];omega)) w9 (by omega) (by omega) (by omega) fun oY lY HY wY sY=>?_
     have hbY:=sY.box w9.here.own hb9 hbw
     simp(disch:=first|omega|assumption) only[hbY,go_sem]
     refine zi (yC false dirs hwd (by simp only[Lim];omega)) wY (by omega) (by omega) (by omega) fun oZ lZ HZ wZ sZ=>?_
     have hbZ:=sZ.box wY.here.own hbY hbw
     simp(disch:=first|omega|assumption) only[hbZ,go_sem]
     by_cases hz:sels.length=0
     case pos =>
      have hz':¬ ((0:Int)<(sels.length:Int)):=by omega
      simp(disch:=first|omega|assumption) only[hcss,hz',wrap64,go_sem]
      exact goJ (hJ (oZ,lZ) HZ (wZ.castC (by rw[ZE];simp only[bS];omega) (by rw[zM,er,hbv];simp[hz,hal,Za]) (fun e=>by rw[Zy,et (by rw[zM,er] at e;simp only[Al0] at e;exact e.2.1.1.1.1.1)];simp[hz,hal]))) (by simp(disch:=first|omega|assumption) only[go_sem])
     case neg =>
      have hz':((0:Int)<(sels.length:Int))=True:=eq_true (by omega)
      have hbox:=sZ.box wY.here.own hbY hbw
      simp(disch:=first|omega|assumption) only[hcss,hz',hbox,go_sem]
      refine zi (yv hLB sels (Al4 _) hws (by simp only[Lim];omega)) wZ (by omega) (by omega) (by omega) fun oU lU HU wU _=>?_
      simp(disch:=first|omega|assumption) only[wrap64,go_sem]
      exact goJ (hJ (oU,lU) HU (wU.castC (by rw[ZE];simp only[bS];omega) (by rw[zM,er,hbv];simp[hz,hal,Za]) (fun e=>by rw[Zy,et (by rw[zM,er] at e;simp only[Al0] at e;exact e.2.1.1.1.1.1)];simp[hz,hal,tBl]))) (by simp(disch:=first|omega|assumption) only[go_sem])
   subst ho
   have hbv:n=true:=by rw[hnd];simp
   simp(disch:=first|omega|assumption) only[hc5,hbc,go_sem]
   refine zi (Zu _) w5 (by omega) (by omega) (by omega) fun o6 l6 H6 w6 s6=>?_
   have hb6:=s6.box w5.here.own hbc hbw
   by_cases hal:al=[]
   case pos =>
    simp(disch:=first|omega|assumption) only[hb6,hal,go_sem]
    refine zi (yk nm (by simp only[Lim];omega)) w6 (by omega) (by omega) (by omega) fun o9 l9 H9 w9 s9=>?_
    have hb9:=s9.box w6.here.own hb6 hbw
    simp(disch:=first|omega|assumption) only[hb9,go_sem]
    refine zi (zed false args hwa (by simp only[Lim];omega)) w9 (by omega) (by omega) (by omega) fun oY lY HY wY sY=>?_
    have hbY:=sY.box w9.here.own hb9 hbw
    simp(disch:=first|omega|assumption) only[hbY,go_sem]
    refine zi (yC false dirs hwd (by simp only[Lim];omega)) wY (by omega) (by omega) (by omega) fun oZ lZ HZ wZ sZ=>?_
    have hbZ:=sZ.box wY.here.own hbY hbw
    simp(disch:=first|omega|assumption) only[hbZ,go_sem]
    by_cases hz:sels.length=0
    case pos =>
     have hz':¬ ((0:Int)<(sels.length:Int)):=by omega
     simp(disch:=first|omega|assumption) only[hcss,hz',wrap64,go_sem]
     exact goJ (hJ (oZ,lZ) HZ (wZ.castC (by rw[ZE];simp only[bS];omega) (by rw[zM,er,hbv];simp[hz,hal,Za]) (fun e=>by rw[Zy,et (by rw[zM,er] at e;simp only[Al0] at e;exact e.2.1.1.1.1.1)];simp[hz,hal]))) (by simp(disch:=first|omega|assumption) only[go_sem])
    case neg =>
     have hz':((0:Int)<(sels.length:Int))=True:=eq_true (by omega)
     have hbox:=sZ.box wY.here.own hbY hbw
     simp(disch:=first|omega|assumption) only[hcss,hz',hbox,go_sem]
     refine zi (yv hLB sels (Al4 _) hws (by simp only[Lim];omega)) wZ (by omega) (by omega) (by omega) fun oU lU HU wU _=>?_
     simp(disch:=first|omega|assumption) only[wrap64,go_sem]
     exact goJ (hJ (oU,lU) HU (wU.castC (by rw[ZE];simp only[bS];omega) (by rw[zM,er,hbv];simp[hz,hal,Za]) (fun e=>by rw[Zy,et (by rw[zM,er] at e;simp only[Al0] at e;exact e.2.1.1.1.1.1)];simp[hz,hal,tBl]))) (by simp(disch:=first|omega|assumption) only[go_sem])
   case neg =>
    simp(disch:=first|omega|assumption) only[hb6,hal,go_sem]
    refine zi (yk al (by simp only[Lim];omega)) w6 (by omega) (by omega) (by omega) fun o7 l7 H7 w7 s7=>?_
    have hb7:=s7.box w6.here.own hb6 hbw
    simp(disch:=first|omega|assumption) only[hb7,go_sem]
    refine zi (yq [58] _) w7 (by omega) (by omega) (by omega) fun o8 l8 H8 w8 s8=>?_
    have hb8:=s8.box w7.here.own hb7 hbw
    simp(disch:=first|omega|assumption) only[hb8,go_sem]
    refine zi (yk nm (by simp only[Lim];omega)) w8 (by omega) (by omega) (by omega) fun o9 l9 H9 w9 s9=>?_
    have hb9:=s9.box w8.here.own hb8 hbw
    simp(disch:=first|omega|assumption) only[hb9,go_sem]
    refine zi (zed false args hwa (by simp only[Lim];omega)) w9 (by omega) (by omega) (by omega) fun oY lY HY wY sY=>?_
    have hbY:=sY.box w9.here.own hb9 hbw
    simp(disch:=first|omega|assumption) only[hbY,go_sem]
    refine zi (yC false dirs hwd (by simp only[Lim];omega)) wY (by omega) (by omega) (by omega) fun oZ lZ HZ wZ sZ=>?_
    have hbZ:=sZ.box wY.here.own hbY hbw
    simp(disch:=first|omega|assumption) only[hbZ,go_sem]
    by_cases hz:sels.length=0
    case pos =>
     have hz':¬ ((0:Int)<(sels.length:Int)):=by omega
     simp(disch:=first|omega|assumption) only[hcss,hz',wrap64,go_sem]
     exact goJ (hJ (oZ,lZ) HZ (wZ.castC (by rw[ZE];simp only[bS];omega) (by rw[zM,er,hbv];simp[hz,hal,Za]) (fun e=>by rw[Zy,et (by rw[zM,er] at e;simp only[Al0] at e;exact e.2.1.1.1.1.1)];simp[hz,hal]))) (by simp(disch:=first|omega|assumption) only[go_sem])
    case neg =>
     have hz':((0:Int)<(sels.length:Int))=True:=eq_true (by omega)
     have hbox:=sZ.box wY.here.own hbY hbw
     simp(disch:=first|omega|assumption) only[hcss,hz',hbox,go_sem]
     refine zi (yv hLB sels (Al4 _) hws (by simp only[Lim];omega)) wZ (by omega) (by omega) (by omega) fun oU lU HU wU _=>?_
     simp(disch:=first|omega|assumption) only[wrap64,go_sem]
     exact goJ (hJ (oU,lU) HU (wU.castC (by rw[ZE];simp only[bS];omega) (by rw[zM,er,hbv];simp[hz,hal,Za]) (fun e=>by rw[Zy,et (by rw[zM,er] at e;simp only[Al0] at e;exact e.2.1.1.1.1.1)];simp[hz,hal,tBl]))) (by simp(disch:=first|omega|assumption) only[go_sem])
theorem zbU (l:List VarD) (x:VarD):bWs (l++[x])=bWs l+bW x:=by simp[bWs]
theorem zuH (f:FragD) (hw:wfF f) (hm:32*bF f≤Lim):WC 72 [.agg (cF f)] (32*bF f) 0 16 (fun dp=>decide (f.nm≠[111,110])&&(zZ f.nm&&(zZ f.on&&(yO dp true f.dirs&&zQ (dp+1) f.sels)))) (tF f):=by
 intro H w o l ok dp h h0 h1 hb
 obtain⟨nm,on,dirs,sels⟩:=f
 have hm':=hm
 simp only[Lim,bF] at hm'
 simp only[bF] at hb
 obtain⟨hwd,hws⟩:=hw
 have ef:cF ⟨nm,on,dirs,sels⟩=[.str nm,.str on,.sl .no 2 (cDs dirs),.sl .no 7 (cSs sels)]:=rfl
 refine zj.go ir72 ck72 (Al4 _) fun KP Q hQ=>?_
 have w0:=WR.refl h
 obtain⟨n,hn⟩:∃ n,n=decide (nm≠[111,110]):=⟨_,rfl⟩
 have nf:zZ [102,114,97,103,109,101,110,116]=true:=by decide
 by_cases ho:nm=[111,110]
 case' pos =>
  have hbv:n=false:=by rw[hn];simp[ho]
  subst ho
  simp(disch:=first|omega|assumption) only[ir72,ef,go_sem]
  refine zi (Zu _) w0 (by omega) (by omega) (by omega) fun o1 l1 H1 w1 _=>?_
 case' neg =>
  have hbv:n=true:=by rw[hn];simp[ho]
  simp(disch:=first|omega|assumption) only[ir72,ef,ho,go_sem]
  refine zi (Zu _) w0 (by omega) (by omega) (by omega) fun o1 l1 H1 w1 _=>?_
 all_goals
  simp(disch:=first|omega|assumption) only[go_sem]
  refine zi (yk [102,114,97,103,109,101,110,116] (by simp[Lim])) w1 (by omega) (by omega) (by omega) fun o2 l2 H2 w2 _=>?_
  simp(disch:=first|omega|assumption) only[go_sem]
  refine zi (yk _ (by simp only[Lim];first|omega|simp)) w2 (by omega) (by omega) (by omega) fun o3 l3 H3 w3 _=>?_
  simp(disch:=first|omega|assumption) only[go_sem]
  refine zi (yk [111,110] (by simp[Lim])) w3 (by omega) (by omega) (by omega) fun o4 l4 H4 w4 _=>?_
  simp(disch:=first|omega|assumption) only[go_sem]
  refine zi (yk on (by simp only[Lim];omega)) w4 (by omega) (by omega) (by omega) fun o5 l5 H5 w5 _=>?_
  simp(disch:=first|omega|assumption) only[go_sem]
  refine zi (yC true dirs hwd (by simp only[Lim];omega)) w5 (by omega) (by omega) (by omega) fun o6 l6 H6 w6 _=>?_
  simp(disch:=first|omega|assumption) only[go_sem]
  refine zi (yv (Y6 (bSs sels)) sels (Al4 _) hws (by simp only[Lim];omega)) w6 (by omega) (by omega) (by omega) fun o7 l7 H7 w7 _=>?_
  simp(disch:=first|omega|assumption) only[go_sem]
  exact hQ _ _ H7 H7 [] nofun rfl (Low.refl _) ⟨rfl,w7.fin (by simp only[← hn,hbv,nf,zmh];simp[Za]) (fun _=>by simp[tF]) (by simp only[bF];omega)⟩
noncomputable def ZV (dp:Int) (x:VarD):Bool:=zZ x.nm&&(yy x.t&&(if x.has then yz dp true x.d else eqd x.d zV))
noncomputable def yt (dp:Int) (x:OpD):Bool:=(decide (x.k=0)||decide (x.k=1))&&((decide (x.nm=[])||zZ x.nm)&&(x.vars.all (ZV dp)&&(yO dp true x.dirs&&zQ (dp+1) x.sels)))
theorem zxa (x:OpD) (hw:wfO x) (hm:64*bO x≤Lim):WC 71 [.agg (cO x)] (64*bO x) 0 16 (fun dp=>yt dp x) (tO x):=by
 intro H w o l ok dp h h0 h1 hb
 obtain⟨k,nm,vars,dirs,sels⟩:=x
 have hm':=hm
 simp only[Lim,bO] at hm'
 simp only[bO] at hb
 obtain⟨hwv,hwd,hws⟩:=hw
 have eo:cO ⟨k,nm,vars,dirs,sels⟩=[.int .i64 k,.str nm,.sl .no 10 (cWs vars),.sl .no 2 (cDs dirs),.sl .no 7 (cSs sels)]:=rfl
 have hcw:=zfj vars
 have hvl:=zof vars
 have nq:zZ [113,117,101,114,121]=true:=by decide
 have nmu:zZ [109,117,116,97,116,105,111,110]=true:=by decide
 refine zj.go ir71 ck71 (Al4 _) fun KP Q hQ=>?_
 have w0:=WR.refl h
 obtain⟨R3,hR3⟩:∃ R3,R3=((decide (k=0)||decide (k=1))&&(decide (nm=[])||zZ nm)):=⟨_,rfl⟩
 obtain⟨T3,hT3⟩:∃ T3,T3=(wk (if k=0 then [113,117,101,114,121] else [109,117,116,97,116,105,111,110])::(if nm=[] then [] else [wk nm])):=⟨_,rfl⟩
 have er:yt dp ⟨k,nm,vars,dirs,sels⟩=(R3&&(vars.all (ZV dp)&&(yO dp true dirs&&zQ (dp+1) sels))):=by
  rw[hR3];simp only[yt,Za]
 have et:R3=true→tO ⟨k,nm,vars,dirs,sels⟩=T3++(tWs vars++(tDs dirs++tBl sels)):=fun _=>by rw[hT3];simp[tO]
 by_cases hk0:k=0
 ·subst hk0
  have hk0:True:=trivial
  have hk1:True:=trivial
  simp(disch:=first|omega|assumption) only[ir71,eo,go_sem]
  refine zi (yk [113,117,101,114,121] (by simp[Lim])) w0 (by omega) (by omega) (by omega) fun o2 l2 H2 w2 _=>?_
  by_cases hnm:nm=[]
  case pos =>
   have w3:=(w2.castC (B':=2) (r':=R3) (tk':=T3) (by omega) (by rw[hR3];simp[hk0,hk1,hnm,nq,nmu]) (fun e=>by first|(rw[hT3];simp[hk0,hk1,hnm];done)|(exfalso;revert e;rw[hR3];simp[hk0,hk1])))
   by_cases hv0:vars.length=0
   case pos =>
    have hv1:¬ ((0:Int)<(vars.length:Int)):=by omega
    have hev:=zap.1 hv0
    simp(disch:=first|omega|assumption) only[hnm,hcw,hv1,go_sem]
    refine zi (yC true dirs hwd (by simp only[Lim];omega)) w3 (by omega) (by omega) (by omega) fun oA lA HA wA _=>?_
    simp(disch:=first|omega|assumption) only[go_sem]
    refine zi (yv (Y6 (bSs sels)) sels (Al4 _) hws (by simp only[Lim];omega)) wA (by omega) (by omega) (by omega) fun oB lB HB wB _=>?_
    simp(disch:=first|omega|assumption) only[go_sem]
    exact hQ _ _ HB HB [] nofun rfl (Low.refl _) ⟨rfl,wB.fin (by show _=yt dp _;rw[er];simp[hev,Za]) (fun e=>by rw[et (by have e:yt dp _=true:=e;rw[er] at e;simp only[Al0] at e;exact e.1)];simp[tWs,hv0]) (by simp only[bO];omega)⟩
   case neg =>
    have hev:=hv0
    have hv1:((0:Int)<(vars.length:Int))=True:=eq_true (by omega)
    simp(disch:=first|omega|assumption) only[hnm,hcw,hv1,go_sem]
    refine zi (yq [40] _) w3 (by omega) (by omega) (by omega) fun o4 l4 H4 w4 _=>?_
    simp(disch:=first|omega|assumption) only[hcw,go_sem]
    refine zG vars 35 (fun x:Own×List Tok=>[]) (fun done rest x H'=>WR H o w l ok dp (3+32*bWs done) (R3&&done.all (ZV dp)) (T3++(pk [40]::done.flatMap tW)) H' x.1 x.2) (o4,l4) (by simp(disch:=first|omega|assumption) only[go_sem]) (w4.cast (by omega) (by simp) (by simp)) ?_ ?_
    case refine_1 =>
     rintro⟨o5,l5⟩ H5 J5 w5 hlt
     simp only at w5
     simp(disch:=first|omega|assumption) only[hcw,hlt,go_sem]
     refine zi (yq [41] _) w5 (by omega) (by omega) (by omega) fun o6 l6 H6 w6 _=>?_
     simp(disch:=first|omega|assumption) only[go_sem]
     refine zi (yC true dirs hwd (by simp only[Lim];omega)) w6 (by omega) (by omega) (by omega) fun oA lA HA wA _=>?_
     simp(disch:=first|omega|assumption) only[go_sem]
     refine zi (yv (Y6 (bSs sels)) sels (Al4 _) hws (by simp only[Lim];omega)) wA (by omega) (by omega) (by omega) fun oB lB HB wB _=>?_
     simp(disch:=first|omega|assumption) only[go_sem]
     exact hQ _ _ HB HB [] nofun rfl (Low.refl _) ⟨rfl,wB.fin (by show _=yt dp _;rw[er];simp[hev,Za]) (fun e=>by rw[et (by have e:yt dp _=true:=e;rw[er] at e;simp only[Al0] at e;exact e.1)];simp[tWs,hv0]) (by simp only[bO];omega)⟩
    case refine_2 =>
     rintro done x rest ⟨o5,l5⟩ H5 J5 hd hlt hlt2 w5 hJ5
     simp only at w5
     have hg:=zbz hd
     have hbm:=zb7 done x rest
     rw[← hd] at hbm
     have hwx:=hwv x (by rw[hd];simp)
     obtain⟨vn,⟨tn,tl,tm⟩,vh,vd⟩:=x
     have hwvd:wfV vd:=hwx.2.2
     have hvp:=zaG vd
     have hbx:bW ⟨vn,⟨tn,tl,tm⟩,vh,vd⟩=vn.length+tn.length+bV vd:=rfl
     rw[ze2] at hg
     simp only at hg
     simp(disch:=first|omega|assumption) only[zl,zg,ze,zk,zh,zd,zr,hcw,hlt,hg,go_sem]
     refine zm fun b hb=>?_
     have hbw:b≠w:=fun e=>by subst e;rw[w5.here.cell] at hb;cases hb
     have w6:=w5.alloc (x:=.cells (.str vn::.str tn::.int .i64 tl::.int .i64 tm::.bool vh::cV vd)) hb
     have hbc:(H5.upd b (.cells (.str vn::.str tn::.int .i64 tl::.int .i64 tm::.bool vh::cV vd))) b=some (.cells (.str vn::.str tn::.int .i64 tl::.int .i64 tm::.bool vh::cV vd)):=upd_same ..
     simp(disch:=first|omega|assumption) only[zl,zg,ze,zk,zh,zd,zr,go_sem]
     refine zi (yq [36] _) w6 (by omega) (by omega) (by omega) fun o7 l7 H7 w7 s7=>?_
     have hb7:=s7.box w6.here.own hbc hbw
     simp(disch:=first|omega|assumption) only[zl,zg,ze,zk,zh,zd,zr,hb7,go_sem]
     refine zi (yk vn (by simp only[Lim];omega)) w7 (by omega) (by omega) (by omega) fun o8 l8 H8 w8 s8=>?_
     have hb8:=s8.box w7.here.own hb7 hbw
     simp(disch:=first|omega|assumption) only[zl,zg,ze,zk,zh,zd,zr,hb8,go_sem]
     refine zi (yq [58] _) w8 (by omega) (by omega) (by omega) fun o9 l9 H9 w9 s9=>?_
     have hb9:=s9.box w8.here.own hb8 hbw
     simp(disch:=first|omega|assumption) only[zl,zg,ze,zk,zh,zd,zr,hb9,go_sem]
     refine zi (args:=[.agg [.str tn,.int .i64 tl,.int .i64 tm]]) (show WC _ [.agg [.str tn,.int .i64 tl,.int .i64 tm]] 20 (-1000) 1000 (fun _=>yy ⟨tn,tl,tm⟩) (tTy ⟨tn,tl,tm⟩) from zfJ ⟨tn,tl,tm⟩ (by simp only[Lim];omega)) w9 (by omega) (by omega) (by omega) fun oC lC HC wC sC=>?_
     have hbC:=sC.box w9.here.own hb9 hbw
     simp(disch:=first|omega|assumption) only[zl,zg,ze,zk,zh,zd,zr,hbC,go_sem]
     refine zi (za1 vh vd hwvd (by simp only[Lim];omega)) wC (by omega) (by omega) (by omega) fun oD lD HD wD sD=>?_
     simp(disch:=first|omega|assumption) only[wrap64,go_sem]
     exact goJ (hJ5 (oD,lD) HD (wD.cast (by rw[zbU];omega) (by simp[ZV,Za]) (by simp[tW]))) (by simp(disch:=first|omega|assumption) only[go_sem])
  case neg =>
   simp(disch:=first|omega|assumption) only[hnm,go_sem]
   refine zi (yk nm (by simp only[Lim];omega)) w2 (by omega) (by omega) (by omega) fun o3 l3 H3 w3' _=>?_
   have w3:=(w3'.castC (B':=2) (r':=R3) (tk':=T3) (by omega) (by rw[hR3];simp[hk0,hk1,hnm,nq,nmu]) (fun e=>by first|(rw[hT3];simp[hk0,hk1,hnm];done)|(exfalso;revert e;rw[hR3];simp[hk0,hk1])))
   by_cases hv0:vars.length=0
   case pos =>
    have hv1:¬ ((0:Int)<(vars.length:Int)):=by omega
    have hev:=zap.1 hv0
    simp(disch:=first|omega|assumption) only[hnm,hcw,hv1,go_sem]
    refine zi (yC true dirs hwd (by simp only[Lim];omega)) w3 (by omega) (by omega) (by omega) fun oA lA HA wA _=>?_
    simp(disch:=first|omega|assumption) only[go_sem]
    refine zi (yv (Y6 (bSs sels)) sels (Al4 _) hws (by simp only[Lim];omega)) wA (by omega) (by omega) (by omega) fun oB lB HB wB _=>?_
    simp(disch:=first|omega|assumption) only[go_sem]
    exact hQ _ _ HB HB [] nofun rfl (Low.refl _) ⟨rfl,wB.fin (by show _=yt dp _;rw[er];simp[hev,Za]) (fun e=>by rw[et (by have e:yt dp _=true:=e;rw[er] at e;simp only[Al0] at e;exact e.1)];simp[tWs,hv0]) (by simp only[bO];omega)⟩
   case neg =>
    have hev:=hv0
    have hv1:((0:Int)<(vars.length:Int))=True:=eq_true (by omega)
    simp(disch:=first|omega|assumption) only[hnm,hcw,hv1,go_sem]
    refine zi (yq [40] _) w3 (by omega) (by omega) (by omega) fun o4 l4 H4 w4 _=>?_
    simp(disch:=first|omega|assumption) only[hcw,go_sem]
    refine zG vars 35 (fun x:Own×List Tok=>[]) (fun done rest x H'=>WR H o w l ok dp (3+32*bWs done) (R3&&done.all (ZV dp)) (T3++(pk [40]::done.flatMap tW)) H' x.1 x.2) (o4,l4) (by simp(disch:=first|omega|assumption) only[go_sem]) (w4.cast (by omega) (by simp) (by simp)) ?_ ?_
    case refine_1 =>
     rintro⟨o5,l5⟩ H5 J5 w5 hlt
     simp only at w5
     simp(disch:=first|omega|assumption) only[hcw,hlt,go_sem]
     refine zi (yq [41] _) w5 (by omega) (by omega) (by omega) fun o6 l6 H6 w6 _=>?_
     simp(disch:=first|omega|assumption) only[go_sem]
     refine zi (yC true dirs hwd (by simp only[Lim];omega)) w6 (by omega) (by omega) (by omega) fun oA lA HA wA _=>?_
     simp(disch:=first|omega|assumption) only[go_sem]
     refine zi (yv (Y6 (bSs sels)) sels (Al4 _) hws (by simp only[Lim];omega)) wA (by omega) (by omega) (by omega) fun oB lB HB wB _=>?_
     simp(disch:=first|omega|assumption) only[go_sem]
     exact hQ _ _ HB HB [] nofun rfl (Low.refl _) ⟨rfl,wB.fin (by show _=yt dp _;rw[er];simp[hev,Za]) (fun e=>by rw[et (by have e:yt dp _=true:=e;rw[er] at e;simp only[Al0] at e;exact e.1)];simp[tWs,hv0]) (by simp only[bO];omega)⟩
    case refine_2 =>
     rintro done x rest ⟨o5,l5⟩ H5 J5 hd hlt hlt2 w5 hJ5
     simp only at w5
     have hg:=zbz hd
     have hbm:=zb7 done x rest
     rw[← hd] at hbm
     have hwx:=hwv x (by rw[hd];simp)
     obtain⟨vn,⟨tn,tl,tm⟩,vh,vd⟩:=x
     have hwvd:wfV vd:=hwx.2.2
     have hvp:=zaG vd
     have hbx:bW ⟨vn,⟨tn,tl,tm⟩,vh,vd⟩=vn.length+tn.length+bV vd:=rfl
     rw[ze2] at hg
     simp only at hg
     simp(disch:=first|omega|assumption) only[zl,zg,ze,zk,zh,zd,zr,hcw,hlt,hg,go_sem]
     refine zm fun b hb=>?_
     have hbw:b≠w:=fun e=>by subst e;rw[w5.here.cell] at hb;cases hb
     have w6:=w5.alloc (x:=.cells (.str vn::.str tn::.int .i64 tl::.int .i64 tm::.bool vh::cV vd)) hb
     have hbc:(H5.upd b (.cells (.str vn::.str tn::.int .i64 tl::.int .i64 tm::.bool vh::cV vd))) b=some (.cells (.str vn::.str tn::.int .i64 tl::.int .i64 tm::.bool vh::cV vd)):=upd_same ..
     simp(disch:=first|omega|assumption) only[zl,zg,ze,zk,zh,zd,zr,go_sem]
     refine zi (yq [36] _) w6 (by omega) (by omega) (by omega) fun o7 l7 H7 w7 s7=>?_
     have hb7:=s7.box w6.here.own hbc hbw
     simp(disch:=first|omega|assumption) only[zl,zg,ze,zk,zh,zd,zr,hb7,go_sem]
     refine zi (yk vn (by simp only[Lim];omega)) w7 (by omega) (by omega) (by omega) fun o8 l8 H8 w8 s8=>?_
     have hb8:=s8.box w7.here.own hb7 hbw
     simp(disch:=first|omega|assumption) only[zl,zg,ze,zk,zh,zd,zr,hb8,go_sem]
     refine zi (yq [58] _) w8 (by omega) (by omega) (by omega) fun o9 l9 H9 w9 s9=>?_
     have hb9:=s9.box w8.here.own hb8 hbw
     simp(disch:=first|omega|assumption) only[zl,zg,ze,zk,zh,zd,zr,hb9,go_sem]
     refine zi (args:=[.agg [.str tn,.int .i64 tl,.int .i64 tm]]) (show WC _ [.agg [.str tn,.int .i64 tl,.int .i64 tm]] 20 (-1000) 1000 (fun _=>yy ⟨tn,tl,tm⟩) (tTy ⟨tn,tl,tm⟩) from zfJ ⟨tn,tl,tm⟩ (by simp only[Lim];omega)) w9 (by omega) (by omega) (by omega) fun oC lC HC wC sC=>?_
     have hbC:=sC.box w9.here.own hb9 hbw
     simp(disch:=first|omega|assumption) only[zl,zg,ze,zk,zh,zd,zr,hbC,go_sem]
     refine zi (za1 vh vd hwvd (by simp only[Lim];omega)) wC (by omega) (by omega) (by omega) fun oD lD HD wD sD=>?_
     simp(disch:=first|omega|assumption) only[wrap64,go_sem]
     exact goJ (hJ5 (oD,lD) HD (wD.cast (by rw[zbU];omega) (by simp[ZV,Za]) (by simp[tW]))) (by simp(disch:=first|omega|assumption) only[go_sem])
 by_cases hk1:k=1
 ·subst hk1
  have hk1:True:=trivial
  simp(disch:=first|omega|assumption) only[ir71,eo,go_sem]
  refine zi (yk [109,117,116,97,116,105,111,110] (by simp[Lim])) w0 (by omega) (by omega) (by omega) fun o2 l2 H2 w2 _=>?_
  by_cases hnm:nm=[]
  case pos =>
   have w3:=(w2.castC (B':=2) (r':=R3) (tk':=T3) (by omega) (by rw[hR3];simp[hk0,hk1,hnm,nq,nmu]) (fun e=>by first|(rw[hT3];simp[hk0,hk1,hnm];done)|(exfalso;revert e;rw[hR3];simp[hk0,hk1])))
   by_cases hv0:vars.length=0
   case pos =>
    have hv1:¬ ((0:Int)<(vars.length:Int)):=by omega
    have hev:=zap.1 hv0
    simp(disch:=first|omega|assumption) only[hnm,hcw,hv1,go_sem]
    refine zi (yC true dirs hwd (by simp only[Lim];omega)) w3 (by omega) (by omega) (by omega) fun oA lA HA wA _=>?_
    simp(disch:=first|omega|assumption) only[go_sem]
    refine zi (yv (Y6 (bSs sels)) sels (Al4 _) hws (by simp only[Lim];omega)) wA (by omega) (by omega) (by omega) fun oB lB HB wB _=>?_
    simp(disch:=first|omega|assumption) only[go_sem]
    exact hQ _ _ HB HB [] nofun rfl (Low.refl _) ⟨rfl,wB.fin (by show _=yt dp _;rw[er];simp[hev,Za]) (fun e=>by rw[et (by have e:yt dp _=true:=e;rw[er] at e;simp only[Al0] at e;exact e.1)];simp[tWs,hv0]) (by simp only[bO];omega)⟩
   case neg =>
    have hev:=hv0
    have hv1:((0:Int)<(vars.length:Int))=True:=eq_true (by omega)
    simp(disch:=first|omega|assumption) only[hnm,hcw,hv1,go_sem]
    refine zi (yq [40] _) w3 (by omega) (by omega) (by omega) fun o4 l4 H4 w4 _=>?_
    simp(disch:=first|omega|assumption) only[hcw,go_sem]
    refine zG vars 35 (fun x:Own×List Tok=>[]) (fun done rest x H'=>WR H o w l ok dp (3+32*bWs done) (R3&&done.all (ZV dp)) (T3++(pk [40]::done.flatMap tW)) H' x.1 x.2) (o4,l4) (by simp(disch:=first|omega|assumption) only[go_sem]) (w4.cast (by omega) (by simp) (by simp)) ?_ ?_
    case refine_1 =>
     rintro⟨o5,l5⟩ H5 J5 w5 hlt
     simp only at w5
     simp(disch:=first|omega|assumption) only[hcw,hlt,go_sem]
     refine zi (yq [41] _) w5 (by omega) (by omega) (by omega) fun o6 l6 H6 w6 _=>?_
     simp(disch:=first|omega|assumption) only[go_sem]
     refine zi (yC true dirs hwd (by simp only[Lim];omega)) w6 (by omega) (by omega) (by omega) fun oA lA HA wA _=>?_
     simp(disch:=first|omega|assumption) only[go_sem]
     refine zi (yv (Y6 (bSs sels)) sels (Al4 _) hws (by simp only[Lim];omega)) wA (by omega) (by omega) (by omega) fun oB lB HB wB _=>?_
     simp(disch:=first|omega|assumption) only[go_sem]
     exact hQ _ _ HB HB [] nofun rfl (Low.refl _) ⟨rfl,wB.fin (by show _=yt dp _;rw[er];simp[hev,Za]) (fun e=>by rw[et (by have e:yt dp _=true:=e;rw[er] at e;simp only[Al0] at e;exact e.1)];simp[tWs,hv0]) (by simp only[bO];omega)⟩
    case refine_2 =>
     rintro done x rest ⟨o5,l5⟩ H5 J5 hd hlt hlt2 w5 hJ5
     simp only at w5
     have hg:=zbz hd
     have hbm:=zb7 done x rest
     rw[← hd] at hbm
     have hwx:=hwv x (by rw[hd];simp)
     obtain⟨vn,⟨tn,tl,tm⟩,vh,vd⟩:=x
     have hwvd:wfV vd:=hwx.2.2
     have hvp:=zaG vd
     have hbx:bW ⟨vn,⟨tn,tl,tm⟩,vh,vd⟩=vn.length+tn.length+bV vd:=rfl
     rw[ze2] at hg
     simp only at hg
     simp(disch:=first|omega|assumption) only[zl,zg,ze,zk,zh,zd,zr,hcw,hlt,hg,go_sem]
     refine zm fun b hb=>?_
     have hbw:b≠w:=fun e=>by subst e;rw[w5.here.cell] at hb;cases hb
     have w6:=w5.alloc (x:=.cells (.str vn::.str tn::.int .i64 tl::.int .i64 tm::.bool vh::cV vd)) hb
     have hbc:(H5.upd b (.cells (.str vn::.str tn::.int .i64 tl::.int .i64 tm::.bool vh::cV vd))) b=some (.cells (.str vn::.str tn::.int .i64 tl::.int .i64 tm::.bool vh::cV vd)):=upd_same ..
     simp(disch:=first|omega|assumption) only[zl,zg,ze,zk,zh,zd,zr,go_sem]
     refine zi (yq [36] _) w6 (by omega) (by omega) (by omega) fun o7 l7 H7 w7 s7=>?_
     have hb7:=s7.box w6.here.own hbc hbw
     simp(disch:=first|omega|assumption) only[zl,zg,ze,zk,zh,zd,zr,hb7,go_sem]
     refine zi (yk vn (by simp only[Lim];omega)) w7 (by omega) (by omega) (by omega) fun o8 l8 H8 w8 s8=>?_
     have hb8:=s8.box w7.here.own hb7 hbw
     simp(disch:=first|omega|assumption) only[zl,zg,ze,zk,zh,zd,zr,hb8,go_sem]
     refine zi (yq [58] _) w8 (by omega) (by omega) (by omega) fun o9 l9 H9 w9 s9=>?_
     have hb9:=s9.box w8.here.own hb8 hbw
     simp(disch:=first|omega|assumption) only[zl,zg,ze,zk,zh,zd,zr,hb9,go_sem]
     refine zi (args:=[.agg [.str tn,.int .i64 tl,.int .i64 tm]]) (show WC _ [.agg [.str tn,.int .i64 tl,.int .i64 tm]] 20 (-1000) 1000 (fun _=>yy ⟨tn,tl,tm⟩) (tTy ⟨tn,tl,tm⟩) from zfJ ⟨tn,tl,tm⟩ (by simp only[Lim];omega)) w9 (by omega) (by omega) (by omega) fun oC lC HC wC sC=>?_
     have hbC:=sC.box w9.here.own hb9 hbw
     simp(disch:=first|omega|assumption) only[zl,zg,ze,zk,zh,zd,zr,hbC,go_sem]
     refine zi (za1 vh vd hwvd (by simp only[Lim];omega)) wC (by omega) (by omega) (by omega) fun oD lD HD wD sD=>?_
     simp(disch:=first|omega|assumption) only[wrap64,go_sem]
     exact goJ (hJ5 (oD,lD) HD (wD.cast (by rw[zbU];omega) (by simp[ZV,Za]) (by simp[tW]))) (by simp(disch:=first|omega|assumption) only[go_sem])
  case neg =>
   simp(disch:=first|omega|assumption) only[hnm,go_sem]
   refine zi (yk nm (by simp only[Lim];omega)) w2 (by omega) (by omega) (by omega) fun o3 l3 H3 w3' _=>?_
   have w3:=(w3'.castC (B':=2) (r':=R3) (tk':=T3) (by omega) (by rw[hR3];simp[hk0,hk1,hnm,nq,nmu]) (fun e=>by first|(rw[hT3];simp[hk0,hk1,hnm];done)|(exfalso;revert e;rw[hR3];simp[hk0,hk1])))
   by_cases hv0:vars.length=0
   case pos =>
    have hv1:¬ ((0:Int)<(vars.length:Int)):=by omega
    have hev:=zap.1 hv0
    simp(disch:=first|omega|assumption) only[hnm,hcw,hv1,go_sem]
    refine zi (yC true dirs hwd (by simp only[Lim];omega)) w3 (by omega) (by omega) (by omega) fun oA lA HA wA _=>?_
    simp(disch:=first|omega|assumption) only[go_sem]
    refine zi (yv (Y6 (bSs sels)) sels (Al4 _) hws (by simp only[Lim];omega)) wA (by omega) (by omega) (by omega) fun oB lB HB wB _=>?_
    simp(disch:=first|omega|assumption) only[go_sem]
    exact hQ _ _ HB HB [] nofun rfl (Low.refl _) ⟨rfl,wB.fin (by show _=yt dp _;rw[er];simp[hev,Za]) (fun e=>by rw[et (by have e:yt dp _=true:=e;rw[er] at e;simp only[Al0] at e;exact e.1)];simp[tWs,hv0]) (by simp only[bO];omega)⟩
   case neg =>
    have hev:=hv0
    have hv1:((0:Int)<(vars.length:Int))=True:=eq_true (by omega)
    simp(disch:=first|omega|assumption) only[hnm,hcw,hv1,go_sem]
    refine zi (yq [40] _) w3 (by omega) (by omega) (by omega) fun o4 l4 H4 w4 _=>?_
    simp(disch:=first|omega|assumption) only[hcw,go_sem]
    refine zG vars 35 (fun x:Own×List Tok=>[]) (fun done rest x H'=>WR H o w l ok dp (3+32*bWs done) (R3&&done.all (ZV dp)) (T3++(pk [40]::done.flatMap tW)) H' x.1 x.2) (o4,l4) (by simp(disch:=first|omega|assumption) only[go_sem]) (w4.cast (by omega) (by simp) (by simp)) ?_ ?_
    case refine_1 =>
     rintro⟨o5,l5⟩ H5 J5 w5 hlt
     simp only at w5
     simp(disch:=first|omega|assumption) only[hcw,hlt,go_sem]
     refine zi (yq [41] _) w5 (by omega) (by omega) (by omega) fun o6 l6 H6 w6 _=>?_
     simp(disch:=first|omega|assumption) only[go_sem]
     refine zi (yC true dirs hwd (by simp only[Lim];omega)) w6 (by omega) (by omega) (by omega) fun oA lA HA wA _=>?_
     simp(disch:=first|omega|assumption) only[go_sem]
     refine zi (yv (Y6 (bSs sels)) sels (Al4 _) hws (by simp only[Lim];omega)) wA (by omega) (by omega) (by omega) fun oB lB HB wB _=>?_
     simp(disch:=first|omega|assumption) only[go_sem]
     exact hQ _ _ HB HB [] nofun rfl (Low.refl _) ⟨rfl,wB.fin (by show _=yt dp _;rw[er];simp[hev,Za]) (fun e=>by rw[et (by have e:yt dp _=true:=e;rw[er] at e;simp only[Al0] at e;exact e.1)];simp[tWs,hv0]) (by simp only[bO];omega)⟩
    case refine_2 =>
     rintro done x rest ⟨o5,l5⟩ H5 J5 hd hlt hlt2 w5 hJ5
     simp only at w5
     have hg:=zbz hd
     have hbm:=zb7 done x rest
     rw[← hd] at hbm
     have hwx:=hwv x (by rw[hd];simp)
     obtain⟨vn,⟨tn,tl,tm⟩,vh,vd⟩:=x
     have hwvd:wfV vd:=hwx.2.2
     have hvp:=zaG vd
     have hbx:bW ⟨vn,⟨tn,tl,tm⟩,vh,vd⟩=vn.length+tn.length+bV vd:=rfl
     rw[ze2] at hg
     simp only at hg
     simp(disch:=first|omega|assumption) only[zl,zg,ze,zk,zh,zd,zr,hcw,hlt,hg,go_sem]
     refine zm fun b hb=>?_
     have hbw:b≠w:=fun e=>by subst e;rw[w5.here.cell] at hb;cases hb
     have w6:=w5.alloc (x:=.cells (.str vn::.str tn::.int .i64 tl::.int .i64 tm::.bool vh::cV vd)) hb
     have hbc:(H5.upd b (.cells (.str vn::.str tn::.int .i64 tl::.int .i64 tm::.bool vh::cV vd))) b=some (.cells (.str vn::.str tn::.int .i64 tl::.int .i64 tm::.bool vh::cV vd)):=upd_same ..
     simp(disch:=first|omega|assumption) only[zl,zg,ze,zk,zh,zd,zr,go_sem]
     refine zi (yq [36] _) w6 (by omega) (by omega) (by omega) fun o7 l7 H7 w7 s7=>?_
     have hb7:=s7.box w6.here.own hbc hbw
     simp(disch:=first|omega|assumption) only[zl,zg,ze,zk,zh,zd,zr,hb7,go_sem]
     refine zi (yk vn (by simp only[Lim];omega)) w7 (by omega) (by omega) (by omega) fun o8 l8 H8 w8 s8=>?_
     have hb8:=s8.box w7.here.own hb7 hbw
     simp(disch:=first|omega|assumption) only[zl,zg,ze,zk,zh,zd,zr,hb8,go_sem]
     refine zi (yq [58] _) w8 (by omega) (by omega) (by omega) fun o9 l9 H9 w9 s9=>?_
     have hb9:=s9.box w8.here.own hb8 hbw
     simp(disch:=first|omega|assumption) only[zl,zg,ze,zk,zh,zd,zr,hb9,go_sem]
     refine zi (args:=[.agg [.str tn,.int .i64 tl,.int .i64 tm]]) (show WC _ [.agg [.str tn,.int .i64 tl,.int .i64 tm]] 20 (-1000) 1000 (fun _=>yy ⟨tn,tl,tm⟩) (tTy ⟨tn,tl,tm⟩) from zfJ ⟨tn,tl,tm⟩ (by simp only[Lim];omega)) w9 (by omega) (by omega) (by omega) fun oC lC HC wC sC=>?_
     have hbC:=sC.box w9.here.own hb9 hbw
     simp(disch:=first|omega|assumption) only[zl,zg,ze,zk,zh,zd,zr,hbC,go_sem]
     refine zi (za1 vh vd hwvd (by simp only[Lim];omega)) wC (by omega) (by omega) (by omega) fun oD lD HD wD sD=>?_
     simp(disch:=first|omega|assumption) only[wrap64,go_sem]
     exact goJ (hJ5 (oD,lD) HD (wD.cast (by rw[zbU];omega) (by simp[ZV,Za]) (by simp[tW]))) (by simp(disch:=first|omega|assumption) only[go_sem])
 ·simp(disch:=first|omega|assumption) only[ir71,eo,hk0,hk1,go_sem]
  refine zi (Zu false) w0 (by omega) (by omega) (by omega) fun o2 l2 H2 w2 _=>?_
  by_cases hnm:nm=[]
  case pos =>
   have w3:=(w2.castC (B':=2) (r':=R3) (tk':=T3) (by omega) (by rw[hR3];simp[hk0,hk1,hnm,nq,nmu]) (fun e=>by first|(rw[hT3];simp[hk0,hk1,hnm];done)|(exfalso;revert e;rw[hR3];simp[hk0,hk1])))
   by_cases hv0:vars.length=0
   case pos =>
    have hv1:¬ ((0:Int)<(vars.length:Int)):=by omega
    have hev:=zap.1 hv0
    simp(disch:=first|omega|assumption) only[hnm,hcw,hv1,go_sem]
    refine zi (yC true dirs hwd (by simp only[Lim];omega)) w3 (by omega) (by omega) (by omega) fun oA lA HA wA _=>?_
    simp(disch:=first|omega|assumption) only[go_sem]
    refine zi (yv (Y6 (bSs sels)) sels (Al4 _) hws (by simp only[Lim];omega)) wA (by omega) (by omega) (by omega) fun oB lB HB wB _=>?_
    simp(disch:=first|omega|assumption) only[go_sem]
    exact hQ _ _ HB HB [] nofun rfl (Low.refl _) ⟨rfl,wB.fin (by show _=yt dp _;rw[er];simp[hev,Za]) (fun e=>by rw[et (by have e:yt dp _=true:=e;rw[er] at e;simp only[Al0] at e;exact e.1)];simp[tWs,hv0]) (by simp only[bO];omega)⟩
   case neg =>
    have hev:=hv0
    have hv1:((0:Int)<(vars.length:Int))=True:=eq_true (by omega)
    simp(disch:=first|omega|assumption) only[hnm,hcw,hv1,go_sem]
    refine zi (yq [40] _) w3 (by omega) (by omega) (by omega) fun o4 l4 H4 w4 _=>?_
    simp(disch:=first|omega|assumption) only[hcw,go_sem]
    refine zG vars 35 (fun x:Own×List Tok=>[]) (fun done rest x H'=>WR H o w l ok dp (3+32*bWs done) (R3&&done.all (ZV dp)) (T3++(pk [40]::done.flatMap tW)) H' x.1 x.2) (o4,l4) (by simp(disch:=first|omega|assumption) only[go_sem]) (w4.cast (by omega) (by simp) (by simp)) ?_ ?_
    case refine_1 =>
     rintro⟨o5,l5⟩ H5 J5 w5 hlt
     simp only at w5
     simp(disch:=first|omega|assumption) only[hcw,hlt,go_sem]
     refine zi (yq [41] _) w5 (by omega) (by omega) (by omega) fun o6 l6 H6 w6 _=>?_
     simp(disch:=first|omega|assumption) only[go_sem]
     refine zi (yC true dirs hwd (by simp only[Lim];omega)) w6 (by omega) (by omega) (by omega) fun oA lA HA wA _=>?_
     simp(disch:=first|omega|assumption) only[go_sem]
     refine zi (yv (Y6 (bSs sels)) sels (Al4 _) hws (by simp only[Lim];omega)) wA (by omega) (by omega) (by omega) fun oB lB HB wB _=>?_
     simp(disch:=first|omega|assumption) only[go_sem]
     exact hQ _ _ HB HB [] nofun rfl (Low.refl _) ⟨rfl,wB.fin (by show _=yt dp _;rw[er];simp[hev,Za]) (fun e=>by rw[et (by have e:yt dp _=true:=e;rw[er] at e;simp only[Al0] at e;exact e.1)];simp[tWs,hv0]) (by simp only[bO];omega)⟩
    case refine_2 =>
     rintro done x rest ⟨o5,l5⟩ H5 J5 hd hlt hlt2 w5 hJ5
     simp only at w5
     have hg:=zbz hd
     have hbm:=zb7 done x rest
     rw[← hd] at hbm
     have hwx:=hwv x (by rw[hd];simp)
     obtain⟨vn,⟨tn,tl,tm⟩,vh,vd⟩:=x
     have hwvd:wfV vd:=hwx.2.2
     have hvp:=zaG vd
     have hbx:bW ⟨vn,⟨tn,tl,tm⟩,vh,vd⟩=vn.length+tn.length+bV vd:=rfl
     rw[ze2] at hg
     simp only at hg
     simp(disch:=first|omega|assumption) only[zl,zg,ze,zk,zh,zd,zr,hcw,hlt,hg,go_sem]
     refine zm fun b hb=>?_
     have hbw:b≠w:=fun e=>by subst e;rw[w5.here.cell] at hb;cases hb
     have w6:=w5.alloc (x:=.cells (.str vn::.str tn::.int .i64 tl::.int .i64 tm::.bool vh::cV vd)) hb
     have hbc:(H5.upd b (.cells (.str vn::.str tn::.int .i64 tl::.int .i64 tm::.bool vh::cV vd))) b=some (.cells (.str vn::.str tn::.int .i64 tl::.int .i64 tm::.bool vh::cV vd)):=upd_same ..
     simp(disch:=first|omega|assumption) only[zl,zg,ze,zk,zh,zd,zr,go_sem]
     refine zi (yq [36] _) w6 (by omega) (by omega) (by omega) fun o7 l7 H7 w7 s7=>?_
     have hb7:=s7.box w6.here.own hbc hbw
     simp(disch:=first|omega|assumption) only[zl,zg,ze,zk,zh,zd,zr,hb7,go_sem]
     refine zi (yk vn (by simp only[Lim];omega)) w7 (by omega) (by omega) (by omega) fun o8 l8 H8 w8 s8=>?_
     have hb8:=s8.box w7.here.own hb7 hbw
     simp(disch:=first|omega|assumption) only[zl,zg,ze,zk,zh,zd,zr,hb8,go_sem]
     refine zi (yq [58] _) w8 (by omega) (by omega) (by omega) fun o9 l9 H9 w9 s9=>?_
     have hb9:=s9.box w8.here.own hb8 hbw
     simp(disch:=first|omega|assumption) only[zl,zg,ze,zk,zh,zd,zr,hb9,go_sem]
     refine zi (args:=[.agg [.str tn,.int .i64 tl,.int .i64 tm]]) (show WC _ [.agg [.str tn,.int .i64 tl,.int .i64 tm]] 20 (-1000) 1000 (fun _=>yy ⟨tn,tl,tm⟩) (tTy ⟨tn,tl,tm⟩) from zfJ ⟨tn,tl,tm⟩ (by simp only[Lim];omega)) w9 (by omega) (by omega) (by omega) fun oC lC HC wC sC=>?_
     have hbC:=sC.box w9.here.own hb9 hbw
     simp(disch:=first|omega|assumption) only[zl,zg,ze,zk,zh,zd,zr,hbC,go_sem]
     refine zi (za1 vh vd hwvd (by simp only[Lim];omega)) wC (by omega) (by omega) (by omega) fun oD lD HD wD sD=>?_
     simp(disch:=first|omega|assumption) only[wrap64,go_sem]
     exact goJ (hJ5 (oD,lD) HD (wD.cast (by rw[zbU];omega) (by simp[ZV,Za]) (by simp[tW]))) (by simp(disch:=first|omega|assumption) only[go_sem])
  case neg =>
   simp(disch:=first|omega|assumption) only[hnm,go_sem]
   refine zi (yk nm (by simp only[Lim];omega)) w2 (by omega) (by omega) (by omega) fun o3 l3 H3 w3' _=>?_
   have w3:=(w3'.castC (B':=2) (r':=R3) (tk':=T3) (by omega) (by rw[hR3];simp[hk0,hk1,hnm,nq,nmu]) (fun e=>by first|(rw[hT3];simp[hk0,hk1,hnm];done)|(exfalso;revert e;rw[hR3];simp[hk0,hk1])))
   by_cases hv0:vars.length=0
   case pos =>
    have hv1:¬ ((0:Int)<(vars.length:Int)):=by omega
    have hev:=zap.1 hv0
    simp(disch:=first|omega|assumption) only[hnm,hcw,hv1,go_sem]
    refine zi (yC true dirs hwd (by simp only[Lim];omega)) w3 (by omega) (by omega) (by omega) fun oA lA HA wA _=>?_
    simp(disch:=first|omega|assumption) only[go_sem]
    refine zi (yv (Y6 (bSs sels)) sels (Al4 _) hws (by simp only[Lim];omega)) wA (by omega) (by omega) (by omega) fun oB lB HB wB _=>?_
    simp(disch:=first|omega|assumption) only[go_sem]
    exact hQ _ _ HB HB [] nofun rfl (Low.refl _) ⟨rfl,wB.fin (by show _=yt dp _;rw[er];simp[hev,Za]) (fun e=>by rw[et (by have e:yt dp _=true:=e;rw[er] at e;simp only[Al0] at e;exact e.1)];simp[tWs,hv0]) (by simp only[bO];omega)⟩
   case neg =>
    have hev:=hv0
    have hv1:((0:Int)<(vars.length:Int))=True:=eq_true (by omega)
    simp(disch:=first|omega|assumption) only[hnm,hcw,hv1,go_sem]
    refine zi (yq [40] _) w3 (by omega) (by omega) (by omega) fun o4 l4 H4 w4 _=>?_
    simp(disch:=first|omega|assumption) only[hcw,go_sem]
    refine zG vars 35 (fun x:Own×List Tok=>[]) (fun done rest x H'=>WR H o w l ok dp (3+32*bWs done) (R3&&done.all (ZV dp)) (T3++(pk [40]::done.flatMap tW)) H' x.1 x.2) (o4,l4) (by simp(disch:=first|omega|assumption) only[go_sem]) (w4.cast (by omega) (by simp) (by simp)) ?_ ?_
    case refine_1 =>
     rintro⟨o5,l5⟩ H5 J5 w5 hlt
     simp only at w5
     simp(disch:=first|omega|assumption) only[hcw,hlt,go_sem]
     refine zi (yq [41] _) w5 (by omega) (by omega) (by omega) fun o6 l6 H6 w6 _=>?_
     simp(disch:=first|omega|assumption) only[go_sem]
     refine zi (yC true dirs hwd (by simp only[Lim];omega)) w6 (by omega) (by omega) (by omega) fun oA lA HA wA _=>?_
     simp(disch:=first|omega|assumption) only[go_sem]
     refine zi (yv (Y6 (bSs sels)) sels (Al4 _) hws (by simp only[Lim];omega)) wA (by omega) (by omega) (by omega) fun oB lB HB wB _=>?_
     simp(disch:=first|omega|assumption) only[go_sem]
     exact hQ _ _ HB HB [] nofun rfl (Low.refl _) ⟨rfl,wB.fin (by show _=yt dp _;rw[er];simp[hev,Za]) (fun e=>by rw[et (by have e:yt dp _=true:=e;rw[er] at e;simp only[Al0] at e;exact e.1)];simp[tWs,hv0]) (by simp only[bO];omega)⟩
    case refine_2 =>
     rintro done x rest ⟨o5,l5⟩ H5 J5 hd hlt hlt2 w5 hJ5
     simp only at w5
     have hg:=zbz hd
     have hbm:=zb7 done x rest
     rw[← hd] at hbm
     have hwx:=hwv x (by rw[hd];simp)
     obtain⟨vn,⟨tn,tl,tm⟩,vh,vd⟩:=x
     have hwvd:wfV vd:=hwx.2.2
     have hvp:=zaG vd
     have hbx:bW ⟨vn,⟨tn,tl,tm⟩,vh,vd⟩=vn.length+tn.length+bV vd:=rfl
     rw[ze2] at hg
     simp only at hg
     simp(disch:=first|omega|assumption) only[zl,zg,ze,zk,zh,zd,zr,hcw,hlt,hg,go_sem]
     refine zm fun b hb=>?_
     have hbw:b≠w:=fun e=>by subst e;rw[w5.here.cell] at hb;cases hb
     have w6:=w5.alloc (x:=.cells (.str vn::.str tn::.int .i64 tl::.int .i64 tm::.bool vh::cV vd)) hb
     have hbc:(H5.upd b (.cells (.str vn::.str tn::.int .i64 tl::.int .i64 tm::.bool vh::cV vd))) b=some (.cells (.str vn::.str tn::.int .i64 tl::.int .i64 tm::.bool vh::cV vd)):=upd_same ..
     simp(disch:=first|omega|assumption) only[zl,zg,ze,zk,zh,zd,zr,go_sem]
     refine zi (yq [36] _) w6 (by omega) (by omega) (by omega) fun o7 l7 H7 w7 s7=>?_
     have hb7:=s7.box w6.here.own hbc hbw
     simp(disch:=first|omega|assumption) only[zl,zg,ze,zk,zh,zd,zr,hb7,go_sem]
     refine zi (yk vn (by simp only[Lim];omega)) w7 (by omega) (by omega) (by omega) fun o8 l8 H8 w8 s8=>?_
     have hb8:=s8.box w7.here.own hb7 hbw
     simp(disch:=first|omega|assumption) only[zl,zg,ze,zk,zh,zd,zr,hb8,go_sem]
     refine zi (yq [58] _) w8 (by omega) (by omega) (by omega) fun o9 l9 H9 w9 s9=>?_
     have hb9:=s9.box w8.here.own hb8 hbw
     simp(disch:=first|omega|assumption) only[zl,zg,ze,zk,zh,zd,zr,hb9,go_sem]
     refine zi (args:=[.agg [.str tn,.int .i64 tl,.int .i64 tm]]) (show WC _ [.agg [.str tn,.int .i64 tl,.int .i64 tm]] 20 (-1000) 1000 (fun _=>yy ⟨tn,tl,tm⟩) (tTy ⟨tn,tl,tm⟩) from zfJ ⟨tn,tl,tm⟩ (by simp only[Lim];omega)) w9 (by omega) (by omega) (by omega) fun oC lC HC wC sC=>?_
     have hbC:=sC.box w9.here.own hb9 hbw
     simp(disch:=first|omega|assumption) only[zl,zg,ze,zk,zh,zd,zr,hbC,go_sem]
     refine zi (za1 vh vd hwvd (by simp only[Lim];omega)) wC (by omega) (by omega) (by omega) fun oD lD HD wD sD=>?_
     simp(disch:=first|omega|assumption) only[wrap64,go_sem]
     exact goJ (hJ5 (oD,lD) HD (wD.cast (by rw[zbU];omega) (by simp[ZV,Za]) (by simp[tW]))) (by simp(disch:=first|omega|assumption) only[go_sem])
theorem zpc (x:OpD):yt 0 x=ZC x:=rfl
theorem zpv (l:List OpD) (o:OpD):bOs (l++[o])=bOs l+bO o:=by simp[bOs]
theorem zp3 (l:List FragD) (o:FragD):bFs (l++[o])=bFs l+bF o:=by simp[bFs]
noncomputable def zak (d:DocD):List Tok:=if yQ d then Y3 d else []
theorem zhE (d:DocD) (hw:zaK d) (hb:64*zbk d+64≤Lim):zu Tryz.prog 27 [.agg (zdv d)] (.tup [.sl .no 2 (cKs (zak d)),.bool (yQ d)]):=by
 refine zu.go ir27 ck27 (Al4 _) fun KP Q hQ=>?_
 obtain⟨ops,frags⟩:=d
 obtain⟨hwo,hwf⟩:=hw
 have hlo:=zo7 ops
 have hlf:=zop frags
 have hco:=zgT ops
 have hcf:=zg5 frags
 have hb':=hb
 simp only[zbk,Lim] at hb'
 have ed:zdv ⟨ops,frags⟩=[.sl .no 5 (cOs ops),.sl .no 4 (cFs frags)]:=rfl
 obtain⟨n,hn⟩:∃ n,n=decide (0<ops.length+frags.length):=⟨_,rfl⟩
 simp(disch:=first|omega|assumption) only[ir27,ed,go_sem]
 refine zK zw3 fun v H1 ⟨w,hv,hW⟩=>?_
 subst hv
 have w0:=WR.refl hW
 have wl:IntKind.wrap .i64 ((ops.length:Int)+(frags.length:Int))=((ops.length+frags.length:Nat):Int):=by rw[wrap64 (by omega) (by omega)];omega
 by_cases hn0:0<ops.length+frags.length
 case' pos =>
  have hn1:((0:Int)<((ops.length+frags.length:Nat):Int))=True:=eq_true (by omega)
  have hnv:n=true:=by rw[hn];exact decide_eq_true hn0
  simp(disch:=first|omega|assumption) only[hco,hcf,wl,hn1,go_sem]
 case' neg =>
  have hn1:¬ ((0:Int)<((ops.length+frags.length:Nat):Int)):=by omega
  have hnv:n=false:=by rw[hn];exact decide_eq_false hn0
  simp(disch:=first|omega|assumption) only[hco,hcf,wl,hn1,go_sem]
 all_goals
  refine zi (Zu _) w0 (by omega) (by omega) (by simp only[Lim,Al3];omega) fun o2 l2 H2 w2 _=>?_
  simp(disch:=first|omega|assumption) only[hco,go_sem]
  refine zG ops 23 (fun x:Own×List Tok=>[]) (fun done rest x H'=>WR H1 .nil w [] true 0 (64*bOs done) (n&&done.all ZC) (done.flatMap tO) H' x.1 x.2) (o2,l2) (by simp(disch:=first|omega|assumption) only[go_sem]) (w2.cast (by simp) (by simp[hnv]) (by simp)) ?_ ?_
  ·rintro⟨o3,l3⟩ H3 J3 w3 hlt
   simp only at w3
   simp(disch:=first|omega|assumption) only[hco,hlt,hcf,go_sem]
   refine zG frags 34 (fun x:Own×List Tok=>[]) (fun done rest x H'=>WR H1 .nil w [] true 0 (64*bOs ops+32*bFs done) (n&&(ops.all ZC&&done.all Y7)) (ops.flatMap tO++done.flatMap tF) H' x.1 x.2) (o3,l3) (by simp(disch:=first|omega|assumption) only[go_sem]) (w3.cast (by simp[bFs]) (by simp) (by simp)) ?_ ?_
   ·rintro⟨o4,l4⟩ H4 J4 w4 hlt4
    simp only at w4
    have er:yQ ⟨ops,frags⟩=(n&&(ops.all ZC&&frags.all Y7)):=by rw[hn];rfl
    have hc4:=w4.here.cell
    have e4:=w4.eq
    rw[← er,Bool.true_and] at hc4 e4
    cases hr:yQ ⟨ops,frags⟩ with
    | false =>
     rw[hr] at hc4 hQ
     simp(disch:=first|omega|assumption) only[hcf,hlt4,hc4,go_sem]
     exact hQ _ _ _ _ nofun rfl (by simp[zc,zf,AV.strip,AV.strip1,zak,hr,cKs])
    | true =>
     rw[hr] at hc4 hQ
     have e5:=e4 hr
     rw[Zg] at e5
     subst e5
     simp(disch:=first|omega|assumption) only[hcf,hlt4,hc4,go_sem]
     exact hQ _ _ _ _ nofun rfl (by simp[zc,zf,AV.strip,AV.strip1,zak,hr,Y3])
   ·rintro done x rest ⟨o4,l4⟩ H4 J4 hd hlt4 hlt5 w4 hJ4
    simp only at w4
    have hg:=zkt hd
    have hbm:=zoM done x rest
    rw[← hd] at hbm
    have hwx:=hwf x (by rw[hd];simp)
    have hbx:32*bF x≤Lim:=by simp only[Lim];omega
    have hfw:=zuH x hwx hbx
    obtain⟨nm,on,dirs,sels⟩:=x
    have ef:cF ⟨nm,on,dirs,sels⟩=[.str nm,.str on,.sl .no 2 (cDs dirs),.sl .no 7 (cSs sels)]:=rfl
    rw[ef] at hg hfw
    simp(disch:=first|omega|assumption) only[hcf,hlt4,hg,go_sem]
    refine zm fun b hb=>?_
    have w5:=w4.alloc (x:=.cells [.str nm,.str on,.sl .no 2 (cDs dirs),.sl .no 7 (cSs sels)]) hb
    simp(disch:=first|omega|assumption) only[go_sem]
    refine zi hfw w5 (by omega) (by omega) (by simp only[Lim,Al3];omega) fun o6 l6 H6 w6 _=>?_
    simp(disch:=first|omega|assumption) only[wrap64,go_sem]
    exact goJ (hJ4 (o6,l6) H6 (w6.cast (by rw[zp3];omega) (by simp[Y7,Za]) (by simp))) (by simp(disch:=first|omega|assumption) only[go_sem])
  ·rintro done x rest ⟨o4,l4⟩ H4 J4 hd hlt4 hlt5 w4 hJ4
   simp only at w4
   have hg:=zkZ hd
   have hbm:=zo9 done x rest
   rw[← hd] at hbm
   have hwx:=hwo x (by rw[hd];simp)
   have hbx:64*bO x≤Lim:=by simp only[Lim];omega
   have hfw:=zxa x hwx hbx
   have hrO:=zpc x
   obtain⟨k,nm,vars,dirs,sels⟩:=x
   have ef:cO ⟨k,nm,vars,dirs,sels⟩=[.int .i64 k,.str nm,.sl .no 10 (cWs vars),.sl .no 2 (cDs dirs),.sl .no 7 (cSs sels)]:=rfl
   rw[ef] at hg hfw
   simp(disch:=first|omega|assumption) only[hco,hlt4,hg,go_sem]
   refine zm fun b hb=>?_
   have w5:=w4.alloc (x:=.cells [.int .i64 k,.str nm,.sl .no 10 (cWs vars),.sl .no 2 (cDs dirs),.sl .no 7 (cSs sels)]) hb
   simp(disch:=first|omega|assumption) only[go_sem]
   refine zi hfw w5 (by omega) (by omega) (by simp only[Lim,Al3];omega) fun o6 l6 H6 w6 _=>?_
   simp(disch:=first|omega|assumption) only[wrap64,go_sem]
   exact goJ (hJ4 (o6,l6) H6 (w6.cast (by rw[zpv];omega) (by rw[hrO];simp[Za]) (by simp))) (by simp(disch:=first|omega|assumption) only[go_sem])
theorem zkv (d:DocD) (hw:zaK d) (hb:64*zbk d+64≤Lim):zu Tryz.prog 30 [.agg (zdv d)] (.bool (yQ d)):=by
 refine zu.go ir30 ck30 (Al4 _) fun KP Q hQ=>?_
 have ed:zdv d=[.sl .no 5 (cOs d.ops),.sl .no 4 (cFs d.frags)]:=rfl
 have hT:=zhE d hw hb
 rw[ed] at hT ⊢
 simp(disch:=first|omega|assumption) only[ir30,go_sem]
 refine zb hT ?_
 simp(disch:=first|omega|assumption) only[go_sem]
 exact hQ _ _ _ _ nofun rfl (by simp[zc,zf,AV.strip,AV.strip1])
noncomputable def Yo (d:DocD):List UInt8×Bool:=if yQ d&&((YG (Y3 d)).2&&decide ((YG (Y3 d)).1.length≤8192)) then ((YG (Y3 d)).1,true) else ([],false)
theorem ZX (a b:List Tok):wT (a++b)=wT a+wT b:=by simp[wT]
theorem zd5 (s:List UInt8):wK (pk s)=s.length+4:=rfl
theorem zii (s:List UInt8):wK (wk s)=s.length+4:=rfl
theorem zez:wT []=0:=rfl
mutual
theorem zrz:∀ v,wfV v→wT (yD v)+16≤64*bV v
 | .mk k n s l m,⟨hn,hl,hm⟩=>by
  have h1:=zqW l hl
  have h2:=znv m hm
  have h3:(Lib.itoa n).length≤21:=by
   have e:∀ u:Nat,u<18446744073709551616→(Lib.decDigits u).length≤20:=fun u hu=>by
    rw[Lib.decDigits_length];exact Lib.nDigits_le20 u hu
   unfold Lib.itoa;split
   ·have:=e n.natAbs (by have:=hn.1;omega)
    simp;omega
   ·have:=e n.toNat (by have:=hn.2;omega)
    omega
  have h4:(boolT (decide (n=1))).length≤5:=by unfold boolT;split<;>simp
  simp only[yD,bV]
  repeat' split
  all_goals simp only[y0,ZX,zez,wK,Al2,Al3]
  all_goals omega
theorem zqW:∀ l,zpw l→wT (YI l)≤64*bVs l
 | [],_=>by simp[YI,wT]
 | v::r,⟨h,hr⟩=>by
  have h1:=zrz v h
  have h2:=zqW r hr
  simp only[YI,bVs,ZX];omega
theorem zwN:∀ x,wfM x→wT (zbi x)≤64*bM x
 | .mk s v,h=>by
  have h1:=zrz v h
  simp only[zbi,bM,y0,wK,Al2,Al3];omega
theorem znv:∀ l,zeY l→wT (Zc l)≤64*bMs l
 | [],_=>by simp[Zc,wT]
 | v::r,⟨h,hr⟩=>by
  have h1:=zwN v h
  have h2:=znv r hr
  simp only[Zc,bMs,ZX];omega
end
theorem zlh (l:List Mem) (h:zeY l):wT (ZU l)≤74*bMs l:=by
 have h1:=znv l h
 have h2:=YV l
 unfold ZU
 split
 ·simp[wT]
 ·simp only[y0,ZX,zez,zd5,Al2,Al3];omega
theorem zc3 {α:Type} {f:α→List Tok} {g:α→Nat} {c:Nat}:∀ l:List α,(∀ x∈l,wT (f x)≤c*g x)→wT (l.flatMap f)≤c*(l.map g).sum
 | [],_=>by simp[wT]
 | x::r,h=>by
  have h1:=h x (by simp)
  have h2:=zc3 r fun y hy=>h y (by simp[hy])
  simp only[List.flatMap_cons,ZX,List.map_cons,List.sum_cons,Nat.mul_add];omega
theorem zv2 (d:DirD) (h:wfD d):wT (tD d)≤80*bD d:=by
 have h1:=zlh d.args h
 simp only[tD,bD,y0,zd5,zii,Al2,Al3];omega
theorem znR (l:List DirD) (h:zkn l):wT (tDs l)≤80*bDs l:=zc3 l fun x hx=>zv2 x (h x hx)
mutual
theorem zwl:∀ x,wfS x→wT (tS x)≤80*bS x
 | .mk k al nm args dirs on sels,⟨h1,h2,h3⟩=>by
  have g1:=zlh args h1
  have g2:=znR dirs h2
  have g3:=znO sels h3
  simp only[tS,bS,ZX]
  have g4:wT (if sels.length=0 then [] else pk [123]::(tSl sels++[pk [125]]))≤10+wT (tSl sels):=by
   split
   ·simp[wT]
   ·simp only[y0,ZX,zez,zd5,Al2,Al3];omega
  have g5:wT (if k=0 then (if al=[] then [] else [wk al,pk [58]])++(wk nm::ZU args) else if k=1 then [pk [46,46,46],wk nm] else pk [46,46,46]::(if on=[] then [] else [wk [111,110],wk on]))≤24+al.length+nm.length+on.length+wT (ZU args):=by
   repeat' split
   all_goals simp only[y0,ZX,zez,zd5,zii,Al2,Al3]
   all_goals omega
  omega
theorem znO:∀ l,zdc l→wT (tSl l)≤80*bSs l
 | [],_=>by simp[tSl,wT]
 | x::r,⟨h,hr⟩=>by
  have h1:=zwl x h
  have h2:=znO r hr
  simp only[tSl,bSs,ZX];omega
end
theorem zoC (n:Nat) (m:Int):∀ j,wT (zcd n m j)≤10*j
 | 0=>by simp[zcd,wT]
 | j+1=>by
  have h:=zoC n m j
  have h2:wT (zdy n m j)≤10:=by
   unfold zdy
   repeat' split
   all_goals simp[wT,zd5]
  simp only[zcd,ZX];omega
theorem zvG (t:TyD) (h:yy t=true):wT (tTy t)≤80+t.nm.length:=by
 simp only[yy,Al0,zL] at h
 obtain⟨_,h1,h2,_,_⟩:=h
 have h3:=zoC t.lists.toNat t.musts (t.lists.toNat+1)
 have h4:∀ n,wT (List.replicate n (pk [91]))=5*n:=fun n=>by
  induction n with
  | zero=>rfl
  | succ n ih=>rw[List.replicate_succ,y0,ih,zd5];simp;omega
 simp only[tTy,ZX,y0,zii,h4,zfS]
 omega
theorem zww (x:VarD) (hr:zaF x=true) (hw:wfW x):wT (tW x)≤240*bW x:=by
 simp only[zaF,Al0] at hr
 have h1:=zvG x.t hr.2.1
 have h2:=zrz x.d hw.2.2
 have h3:=zaG x.d
 have h4:wT (tDf x.has x.d)≤5+wT (yD x.d):=by
  unfold tDf
  split
  ·simp only[y0,zd5,Al2,Al3];omega
  ·simp[wT]
 simp only[tW,bW,y0,ZX,zd5,zii,Al2,Al3]
 omega
theorem zry (l:List SelD) (h:zdc l):wT (tBl l)≤80*bSs l+10:=by
 have:=znO l h
 simp only[tBl,y0,ZX,zez,zd5,Al2,Al3];omega
theorem zv0 (x:OpD) (hr:ZC x=true) (hw:wfO x):wT (tO x)≤256*bO x:=by
 obtain⟨h1,h2,h3⟩:=hw
 simp only[ZC,Al0] at hr
 have g1:wT (x.vars.flatMap tW)≤240*bWs x.vars:=zc3 _ fun y hy=>zww y (Zk.1 hr.2.2.1 y hy) (h1 y hy)
 have g2:=znR x.dirs h2
 have g3:=zry x.sels h3
 have g4:wT (tWs x.vars)≤240*bWs x.vars+10:=by
  unfold tWs
  split
  ·simp[wT]
  ·simp only[y0,ZX,zez,zd5,Al2,Al3];omega
 have g5:wT (if x.nm=[] then [] else [wk x.nm])≤x.nm.length+4:=by
  split
  ·simp[wT]
  ·simp only[y0,zez,zii];omega
 have g6:wK (wk (if x.k=0 then [113,117,101,114,121] else [109,117,116,97,116,105,111,110]))≤12:=by rw[zii];split<;>simp
 simp only[tO,bO,y0,ZX]
 omega
theorem zwd (x:FragD) (hw:wfF x):wT (tF x)≤256*bF x:=by
 have g2:=znR x.dirs hw.1
 have g3:=zry x.sels hw.2
 simp only[tF,bF,y0,ZX,zii,Al2,Al3]
 omega
theorem zsL (d:DocD) (hr:yQ d=true) (hw:zaK d):wT (Y3 d)≤256*zbk d:=by
 simp only[yQ,Al0] at hr
 have g1:wT (d.ops.flatMap tO)≤256*bOs d.ops:=zc3 _ fun y hy=>zv0 y (Zk.1 hr.2.1 y hy) (hw.1 y hy)
 have g2:wT (d.frags.flatMap tF)≤256*bFs d.frags:=zc3 _ fun y hy=>zwd y (hw.2 y hy)
 simp only[Y3,zbk,ZX]
 omega
theorem zlg (d:DocD) (hw:zaK d):wT (zak d)≤256*zbk d:=by
 unfold zak
 split
 ·rename_i h;exact zsL d h hw
 ·simp[wT]
theorem zqm (d:DocD) (hw:zaK d) (hb:16384*zbk d+64≤Lim):zu Tryz.prog 32 [.agg (zdv d)] (.tup [.str (Yo d).1,.bool (Yo d).2]):=by
 refine zu.go ir32 ck32 (Al4 _) fun KP Q hQ=>?_
 have ed:zdv d=[.sl .no 5 (cOs d.ops),.sl .no 4 (cFs d.frags)]:=rfl
 have hT:=zhE d hw (by simp only[Lim] at hb ⊢;omega)
 have hwt:=zlg d hw
 have hp:=zot (zak d) (by simp only[Lim] at hb ⊢;omega)
 rw[ed] at hT ⊢
 simp(disch:=first|omega|assumption) only[ir32,go_sem]
 refine zb hT ?_
 simp(disch:=first|omega|assumption) only[go_sem]
 refine zb hp ?_
 cases hr:yQ d with
 | false =>
  simp(disch:=first|omega|assumption) only[go_sem]
  exact hQ _ _ _ _ nofun rfl (by simp[zc,zf,AV.strip,AV.strip1,Yo,hr])
 | true =>
  have e:zak d=Y3 d:=by unfold zak;rw[if_pos hr]
  rw[e]
  cases h2:(YG (Y3 d)).2 with
  | false =>
   simp(disch:=first|omega|assumption) only[go_sem]
   exact hQ _ _ _ _ nofun rfl (by simp[zc,zf,AV.strip,AV.strip1,Yo,hr,h2])
  | true =>
   by_cases hl:(YG (Y3 d)).1.length≤8192
   ·have hl':¬ ((8192:Int)<((YG (Y3 d)).1.length:Int)):=by omega
    simp(disch:=first|omega|assumption) only[hl',go_sem]
    exact hQ _ _ _ _ nofun rfl (by simp[zc,zf,AV.strip,AV.strip1,Yo,hr,h2,hl])
   ·have hl':((8192:Int)<((YG (Y3 d)).1.length:Int))=True:=eq_true (by omega)
    simp(disch:=first|omega|assumption) only[hl',go_sem]
    exact hQ _ _ _ _ nofun rfl (by simp[zc,zf,AV.strip,AV.strip1,Yo,hr,h2,hl])
theorem zmK {P:Tok→Prop} {a b:Tok} {l:List Tok} (ha:P a) (hb:P b) (hl:∀ x∈l,P x):∀ x∈a::(l++[b]),P x:=fun x hx=>by
 rcases List.mem_cons.1 hx with rfl|hx
 ·exact ha
 rcases List.mem_append.1 hx with hx|hx
 ·exact hl x hx
 ·rw[List.mem_singleton] at hx;subst hx;exact hb
mutual
theorem zkC:∀ v:Val,zaD zZ v=true→wfV v→∀ x∈yD v,zv x=true
 | .mk k n s l m,h,hw=>by
  simp only[zaD] at h
  simp only[yD]
  have rm:∀ c:UInt8,zfT [c]=true→zv ⟨1,[c]⟩=true:=fun c hc=>by simp[zv,hc]
  have rw2:∀ s:List UInt8,zZ s=true→zv ⟨2,s⟩=true:=fun s hs=>by simp[zv,hs]
  by_cases k6:k=6
  ·subst k6
   simp only[if_true,Al0] at h
   simp only[show ¬ ((6:Int)=0) by decide,show ¬ ((6:Int)=1) by decide,show ¬ ((6:Int)=2) by decide,show ¬ ((6:Int)=3) by decide,show ¬ ((6:Int)=4) by decide,show ¬ ((6:Int)=5) by decide,show ¬ ((6:Int)=8) by decide,if_true,if_false]
   exact zmK (P:=fun x=>zv x=true) (rm 91 (by decide)) (rm 93 (by decide)) (zmm l h.1 hw.2.1)
  by_cases k7:k=7
  ·subst k7
   simp only[show ¬ ((7:Int)=6) by decide,if_true,if_false,Al0] at h
   simp only[show ¬ ((7:Int)=0) by decide,show ¬ ((7:Int)=1) by decide,show ¬ ((7:Int)=2) by decide,show ¬ ((7:Int)=3) by decide,show ¬ ((7:Int)=4) by decide,show ¬ ((7:Int)=5) by decide,show ¬ ((7:Int)=8) by decide,show ¬ ((7:Int)=6) by decide,if_false]
   exact zmK (P:=fun x=>zv x=true) (rm 123 (by decide)) (rm 125 (by decide)) (zlY m h.1 hw.2.2)
  rw[if_neg k6,if_neg k7] at h
  simp only[yr,Al0] at h
  obtain⟨_,h⟩:=h
  by_cases k0:k=0
  ·rw[if_pos k0]
   intro x hx;rw[List.mem_singleton] at hx;subst hx;exact rw2 _ (by decide)
  rw[if_neg k0] at h ⊢
  by_cases k1:k=1
  ·rw[if_pos k1]
   intro x hx;rw[List.mem_singleton] at hx;subst hx
   cases decide (n=1)<;>exact rw2 _ (by decide)
  rw[if_neg k1] at h ⊢
  by_cases k2:k=2
  ·rw[if_pos k2]
   intro x hx;rw[List.mem_singleton] at hx;subst hx
   have h1:=(zey hw.1).1
   unfold ZS at h1
   simp only[Al0,zL] at h1
   simp[zv,h1.2]
  rw[if_neg k2] at h ⊢
  by_cases k3:k=3
  ·rw[if_pos k3] at h ⊢
   intro x hx;rw[List.mem_singleton] at hx;subst hx
   simp only[zet,Al0,Z0,zL] at h
   rcases h.2 with h4|h4
   ·simp[zv,h4]
   ·simp[zv,h4.1]
  rw[if_neg k3] at h ⊢
  by_cases k4:k=4
  ·rw[if_pos k4] at h ⊢
   intro x hx;rw[List.mem_singleton] at hx;subst hx
   simp only[Al0] at h
   simp[zv,h.2]
  rw[if_neg k4] at h ⊢
  by_cases k5:k=5
  ·rw[if_pos k5] at h ⊢
   intro x hx;rw[List.mem_singleton] at hx;subst hx
   simp only[Al0] at h
   exact rw2 _ h.2.1
  rw[if_neg k5] at h ⊢
  by_cases k8:k=8
  ·rw[if_pos k8] at h ⊢
   simp only[Al0] at h
   intro x hx
   rcases List.mem_cons.1 hx with rfl|hx
   ·exact rm 36 (by decide)
   ·rw[List.mem_singleton] at hx;subst hx;exact rw2 _ h.2
  ·rw[if_neg k8] at h;cases h
theorem zmm:∀ l:List Val,Y1 zZ l=true→zpw l→∀ x∈YI l,zv x=true
 | [],_,_=>fun x hx=>by cases hx
 | v::r,h,hw=>fun x hx=>by
  simp only[Y1,Al0] at h
  rcases List.mem_append.1 hx with hx|hx
  ·exact zkC v h.1 hw.1 x hx
  ·exact zmm r h.2 hw.2 x hx
theorem zsY:∀ v:Mem,zk0 zZ v=true→wfM v→∀ x∈zbi v,zv x=true
 | .mk s v,h,hw=>fun x hx=>by
  simp only[zk0,Al0] at h
  simp only[zbi] at hx
  rcases List.mem_cons.1 hx with rfl|hx
  ·simp[zv,h.1]
  rcases List.mem_cons.1 hx with rfl|hx
  ·have:zfT [58]=true:=by decide
   simp[zv,this]
  ·exact zkC v h.2 hw x hx
theorem zlY:∀ l:List Mem,zaO zZ l=true→zeY l→∀ x∈Zc l,zv x=true
 | [],_,_=>fun x hx=>by cases hx
 | v::r,h,hw=>fun x hx=>by
  simp only[zaO,Al0] at h
  rcases List.mem_append.1 hx with hx|hx
  ·exact zsY v h.1 hw.1 x hx
  ·exact zlY r h.2 hw.2 x hx
end
def zbd:DocD:=⟨[⟨0,[],[],[],[.mk 0 [] [97] [] [] [] [],.mk 0 [98] [99] [] [] [] []]⟩],[]⟩
def zlR:DocD:=⟨[],[]⟩
theorem ztv:zZ [97]=true:=by decide
theorem zsX:zZ [98]=true:=by decide
theorem zsF:zZ [99]=true:=by decide
theorem zgn:yQ zbd=true:=by
 simp[yQ,zbd,ZC,yO,zQ,yw,z6,ZH,ztv,zsX,zsF]
theorem zmT:yQ zlR=false:=by
 simp[yQ,zlR]
theorem zmV:Y3 zbd=[wk [113,117,101,114,121],pk [123],wk [97],wk [98],pk [58],wk [99],pk [125]]:=by simp[Y3,zbd,tO,tWs,tDs,tBl,tSl,tS,ZU]
theorem znx:YG [wk [113,117,101,114,121],pk [123],wk [97],wk [98],pk [58],wk [99],pk [125]]=([113,117,101,114,121,32,123,32,97,32,98,32,58,32,99,32,125],true):=by decide
theorem ziE:Yo zbd=([113,117,101,114,121,32,123,32,97,32,98,32,58,32,99,32,125],true):=by
 unfold Yo
 rw[zgn,zmV,znx]
 rfl
theorem zg6:zkn []:=fun y hy=>nomatch hy
theorem zl1:zaK zbd:=by
 refine⟨fun x hx=>?_,fun x hx=>(nomatch hx)⟩
 simp only[zbd,List.mem_singleton] at hx
 subst hx
 exact⟨fun y hy=>(nomatch hy),zg6,⟨trivial,zg6,trivial⟩,⟨trivial,zg6,trivial⟩,trivial⟩
theorem zsI:zaK zlR:=⟨fun x hx=>(nomatch hx),fun x hx=>(nomatch hx)⟩
theorem zrD:zbk zbd≤1000:=by decide
theorem zqh:zdv zbd=[.sl .no 5 [[.int .i64 0,.str [],.sl .no 10 [],.sl .no 2 [],.sl .no 7 [[.int .i64 0,.str [],.str [97],.sl .no 6 [],.sl .no 2 [],.str [],.sl .no 7 []],[.int .i64 0,.str [98],.str [99],.sl .no 6 [],.sl .no 2 [],.str [],.sl .no 7 []]]]],.sl .no 4 []]:=by rfl
theorem zwh:zdv zlR=[.sl .no 5 [],.sl .no 4 []]:=by rfl
theorem zg1:zu Tryz.prog 25 [] (.bool true):=by
 refine zu.go ir25 ck25 (Al4 _) fun KP Q hQ=>?_
 have hT:=zqm zbd zl1 (by have:=zrD;simp only[Lim];omega)
 have hR:=zkv zbd zl1 (by have:=zrD;simp only[Lim];omega)
 have hN:=zkv zlR zsI (by decide)
 rw[ziE,zqh] at hT
 rw[zgn,zqh] at hR
 rw[zmT,zwh] at hN
 simp(disch:=first|omega|assumption) only[ir25,go_sem]
 refine zm fun b hb=>?_
 simp(disch:=first|omega|assumption) only[go_sem]
 refine zb (zu.low hT) ?_
 simp(disch:=first|omega|assumption) only[go_sem]
 refine zb (zu.low hR) ?_
 simp(disch:=first|omega|assumption) only[go_sem]
 refine zb (zu.low hN) ?_
 simp(disch:=first|omega|assumption) only[go_sem]
 exact hQ _ _ _ _ nofun rfl (by simp[zc,zf,AV.strip,AV.strip1])
open Go.Lib
def RT (t:TS):Prop:=∀ x∈t,zv x=true
def GR {α:Type} (ok:α→Prop) (f:TS→PR α):Prop:=∀ t a t',RT t→f t=.ok (a,t')→ok a∧RT t'
theorem RT.tail {t:TS} (h:RT t):RT t.tail:=fun x hx=>h x (List.mem_of_mem_tail hx)
theorem RT.hd {t:TS} (h:RT t) (hk:(hdT t).k≠0):zv (hdT t)=true:=by
 cases t with
 | nil=>exact absurd rfl hk
 | cons x t=>exact h x (.head _)
theorem znU {t:TS} (h:RT t) (hk:(hdT t).k=2):zZ (hdT t).s=true:=by
 have:=h.hd (by rw[hk];decide)
 simpa[zv,hk] using this
theorem zuN {t:TS} (h:RT t) (hk:(hdT t).k=3∨(hdT t).k=4):Z1 (hdT t).s=(hdT t).k:=by
 have:=h.hd (by omega)
 unfold zv at this
 rw[if_neg (by omega),if_neg (by omega),if_pos hk] at this
 simpa using this
theorem zvp {t:TS} (h:RT t) (hk:(hdT t).k=5):validD (hdT t).s=true:=by
 have:=h.hd (by rw[hk];decide)
 simpa[zv,hk] using this
theorem zeO (m:List UInt8):GR T1 (ZY m):=fun t a t' hr h=>by
 unfold ZY at h
 split at h
 ·simp only[Zh,Al8] at h;obtain⟨_,rfl⟩:=h;exact⟨trivial,hr.tail⟩
 ·cases h
theorem Z9:GR (fun s=>zZ s=true) yT:=fun t a t' hr h=>by
 unfold yT at h
 split at h
 ·rename_i hk
  simp only[Zh,Al8] at h;obtain⟨rfl,rfl⟩:=h;exact⟨znU hr hk,hr.tail⟩
 ·cases h
theorem zg2 {α:Type} {ok:α→Prop} {m:List UInt8} {f:TS→PR α} (hf:GR ok f):∀(n:Nat) (l:List α) (t:TS) (l':List α) (t':TS),RT t→(∀ x∈l,ok x)→yA m f n l t=.ok (l',t')→(∀ x∈l',ok x)∧RT t'
 | 0,_,_,_,_,_,_,h=>by cases h
 | n+1,l,t,l',t',hr,hl,h=>by
  simp only[yA] at h
  split at h
  ·simp only[Zh,Al8] at h;obtain⟨rfl,rfl⟩:=h;exact⟨hl,hr.tail⟩
  ·obtain⟨x,t1,h1,h2⟩:=zq h
   have g:=hf _ _ _ hr h1
   exact zg2 hf n _ _ _ _ g.2 (zcz hl g.1) h2
theorem zmw {α:Type} {ok:α→Prop} {m:List UInt8} {f:TS→PR α} (hf:GR ok f):∀(n:Nat) (l:List α) (t:TS) (l':List α) (t':TS),RT t→(∀ x∈l,ok x)→Yu m f n l t=.ok (l',t')→(∀ x∈l',ok x)∧RT t'
 | 0,_,_,_,_,_,_,h=>by cases h
 | n+1,l,t,l',t',hr,hl,h=>by
  simp only[Yu] at h
  split at h
  ·obtain⟨x,t1,h1,h2⟩:=zq h
   have g:=hf _ _ _ hr.tail h1
   exact zmw hf n _ _ _ _ g.2 (zcz hl g.1) h2
  ·simp only[Zh,Al8] at h;obtain⟨rfl,rfl⟩:=h;exact⟨hl,hr⟩
theorem zhv {α:Type} {ok:α→Prop} {m:List UInt8} {f:TS→PR α} (hf:GR ok f):GR (fun l=>l.length≠0∧∀ x∈l,ok x) (zaA m f):=fun t l t' hr h=>by
 obtain⟨x,t1,h1,h2⟩:=zq h
 have g:=hf _ _ _ hr h1
 have g2:=zg2 hf _ [x] _ _ _ g.2 (fun y hy=>by simp at hy;subst hy;exact g.1) h2
 refine⟨⟨?_,g2.1⟩,g2.2⟩
 have:∀(n:Nat) (l:List α) (t:TS) (l':List α) (t':TS),yA m f n l t=.ok (l',t')→l.length≤l'.length:=by
  intro n
  induction n with
  | zero=>intro l t l' t' h;cases h
  | succ n ih =>
   intro l t l' t' h
   simp only[yA] at h
   split at h
   ·simp only[Zh,Al8] at h;obtain⟨rfl,rfl⟩:=h;exact Al4 _
   ·obtain⟨y,t2,h3,h4⟩:=zq h
    have:=ih _ _ _ _ h4
    simp at this;omega
 have:=this _ _ _ _ _ h2
 simp at this;omega
theorem zk1 {ty:TyD} {t:TS} {a:TyD} {t':TS} (hr:RT t) (h:zbM ty t=.ok (a,t')):a.nm=ty.nm∧RT t':=by
 unfold zbM at h
 split at h
 ·simp only[Zh,Al8] at h;obtain⟨rfl,rfl⟩:=h;exact⟨rfl,hr.tail⟩
 ·simp only[Zh,Al8] at h;obtain⟨rfl,rfl⟩:=h;exact⟨rfl,hr⟩
theorem zvM:∀ n,GR (fun ty=>zZ ty.nm=true) (zb1 n):=by
 intro n
 induction n with
 | zero =>
  intro t a t' hr h
  rw[YP,zeU.eq_def] at h
  split at h
  ·cases h
  ·obtain⟨s,t1,h1,h2⟩:=zq h
   have g:=Z9 _ _ _ hr h1
   have g2:=zk1 g.2 h2
   exact⟨by show zZ a.nm=true;rw[g2.1];exact g.1,g2.2⟩
 | succ n ih =>
  intro t a t' hr h
  rw[YP,zeU.eq_def] at h
  split at h
  ·obtain⟨ty,t1,h1,h2⟩:=zq h
   obtain⟨_,t2,h3,h4⟩:=zq h2
   have g:=ih _ _ _ hr.tail h1
   have g1:=zeO _ _ _ _ g.2 h3
   have g2:=zk1 g1.2 h4
   exact⟨by show zZ a.nm=true;rw[g2.1];exact g.1,g2.2⟩
  ·obtain⟨s,t1,h1,h2⟩:=zq h
   have g:=Z9 _ _ _ hr h1
   have g2:=zk1 g.2 h2
   exact⟨by show zZ a.nm=true;rw[g2.1];exact g.1,g2.2⟩
theorem zuY:GR (fun ty=>yy ty=true) (zb1 4):=fun t a t' hr h=>by
 have g:=zvM 4 _ _ _ hr h
 obtain⟨h1,h2,h3,h4⟩:=(zib 4 _ _ _ h).ok
 refine⟨?_,g.2⟩
 simp only[yy,Al0,zL]
 exact⟨g.1,h1,by omega,h3,h4⟩
def okV (fixed:Bool) (k:Nat) (v:Val):Prop:=pl v∧zN v≤k∧(fixed=true→yI v []=[])
def okM (fixed:Bool) (k:Nat):Mem→Prop
 | .mk s v=>zZ s=true∧okV fixed k v
theorem ziW {fixed:Bool} {k:Nat} {f:TS→PR Val} (hf:GR (okV fixed k) f):GR (okM fixed k) (yP f):=fun t x t' hr h=>by
 obtain⟨s,t1,h1,h2⟩:=zq h
 obtain⟨_,t2,h3,h4⟩:=zq h2
 obtain⟨v,t3,h5,h6⟩:=zq h4
 simp only[Zh,Al8] at h6
 obtain⟨rfl,rfl⟩:=h6
 have g1:=Z9 _ _ _ hr h1
 have g2:=zeO _ _ _ _ g1.2 h3
 have g3:=hf _ _ _ g2.2 h5
 exact⟨⟨g1.1,g3.1⟩,g3.2⟩
theorem zo1 {a b n:Int} (h1:a≤n) (h2:b≤n):mm2 true a b≤n:=by simp only[mm2,if_true];split<;>assumption
theorem zh0 {k:Nat}:∀ {l:List Val} {n:Int},n≤k→(∀ v∈l,zN v≤k)→yW l n≤k
 | [],n,h,_=>h
 | v::r,n,h,hl=>by
  simp only[yW]
  exact zh0 (zo1 h (hl v (.head _))) fun w hw=>hl w (.tail _ hw)
theorem zij {k:Nat}:∀ {l:List Mem} {n:Int},n≤k→(∀ v∈l,yZ v≤k)→yV l n≤k
 | [],n,h,_=>h
 | v::r,n,h,hl=>by
  simp only[yV]
  exact zij (zo1 h (hl v (.head _))) fun w hw=>hl w (.tail _ hw)
theorem zjg:∀ {l:List Val},(∀ v∈l,yI v []=[])→ZQ l []=[]
 | [],_=>rfl
 | v::r,h=>by simp only[ZQ];rw[h v (.head _)];exact zjg fun w hw=>h w (.tail _ hw)
theorem zjw:∀ {l:List Mem},(∀ v∈l,zbb v []=[])→ZR l []=[]
 | [],_=>rfl
 | v::r,h=>by simp only[ZR];rw[h v (.head _)];exact zjw fun w hw=>h w (.tail _ hw)
theorem zmu {may:List UInt8→Bool}:∀ {l:List Val},(∀ v∈l,zaD may v=true)→Y1 may l=true
 | [],_=>rfl
 | v::r,h=>by simp only[Y1,h v (.head _),Bool.true_and];exact zmu fun w hw=>h w (.tail _ hw)
theorem zmb {may:List UInt8→Bool}:∀ {l:List Mem},(∀ v∈l,zk0 may v=true)→zaO may l=true
 | [],_=>rfl
 | v::r,h=>by simp only[zaO,h v (.head _),Bool.true_and];exact zmb fun w hw=>h w (.tail _ hw)
theorem zhb:zbq 0 [] [] []=true:=rfl
theorem zvE {fixed:Bool} {k:Nat} {l:List Val} (h:∀ v∈l,okV fixed k v):okV fixed (k+1) (.mk 6 0 [] l []):=by
 refine⟨?_,?_,fun e=>?_⟩
 ·simp only[pl,zaD,if_true,zhb,Bool.and_true]
  exact zmu fun v hv=>(h v hv).1
 ·have:=zh0 (l:=l) (n:=0) (k:=k) (by omega) fun v hv=>(h v hv).2.1
  simp only[zN,if_true];omega
 ·simp only[yI]
  rw[if_neg (by decide),if_pos trivial]
  exact zjg fun v hv=>(h v hv).2.2 e
theorem zwc {fixed:Bool} {k:Nat} {l:List Mem} (h:∀ v∈l,okM fixed k v):okV fixed (k+1) (.mk 7 0 [] [] l):=by
 refine⟨?_,?_,fun e=>?_⟩
 ·simp only[pl,zaD,zhb,Bool.and_true]
  rw[if_neg (by decide),if_pos trivial]
  refine zmb fun x hx=>?_
  obtain⟨s,v⟩:=x
  have:=h _ hx
  simp only[zk0,Al0]
  exact⟨this.1,this.2.1⟩
 ·have:=zij (l:=l) (n:=0) (k:=k) (by omega) fun x hx=>by
   obtain⟨s,v⟩:=x
   exact(h _ hx).2.2.1
  simp only[zN]
  rw[if_neg (by decide),if_pos trivial];omega
 ·simp only[yI]
  rw[if_neg (by decide),if_neg (by decide),if_pos trivial]
  refine zjw fun x hx=>?_
  obtain⟨s,v⟩:=x
  exact(h _ hx).2.2.2 e
theorem zb8 {k:Int} (h6:k≠6) (h7:k≠7) (h8:k≠8) {n:Int} {s:List UInt8} (hs:yr k n s [] []=true) (fixed:Bool) (d:Nat):okV fixed d (.mk k n s [] []):=by
 refine⟨?_,?_,fun _=>?_⟩
 ·simp only[pl,zaD]
  rw[if_neg h6,if_neg h7];exact hs
 ·simp only[zN]
  rw[if_neg h6,if_neg h7];omega
 ·simp only[yI]
  rw[if_neg h8,if_neg h6,if_neg h7]
theorem zs1 {s:List UInt8} (h:zZ s=true) (fixed:Bool) (d:Nat):okV fixed d (zaM s):=by
 unfold zaM
 split
 ·exact zb8 (k:=0) (by decide) (by decide) (by decide) (by rfl) fixed d
 ·rename_i h1
  split
  ·exact zb8 (k:=1) (by decide) (by decide) (by decide) (by rfl) fixed d
  ·rename_i h2
   split
   ·exact zb8 (k:=1) (by decide) (by decide) (by decide) (by rfl) fixed d
   ·rename_i h3
    refine zb8 (k:=5) (by decide) (by decide) (by decide) ?_ fixed d
    simp[yr,zhb,zmN,h,h1,h2,h3]
theorem zvx {s:List UInt8} (h:Z1 s=3∨Z1 s=4) (fixed:Bool) (d:Nat):okV fixed d (zcL s):=by
 unfold zcL
 cases hw:ZS s with
 | true =>
  exact zb8 (k:=2) (by decide) (by decide) (by decide) (by simp[yr,zhb]) fixed d
 | false =>
  refine zb8 (k:=3) (by decide) (by decide) (by decide) ?_ fixed d
  have:zet s=true:=by
   simp only[zet,hw,Bool.not_false,Bool.and_true,Z0,zL]
   exact h.symm
  simp[yr,zhb,this]
theorem zoF (fixed:Bool) (k:Nat) (ih:∀ n,k=n+1→GR (okV fixed n) (Zq fixed n)):GR (okV fixed k) (Zq fixed k):=fun t v t' hr h=>by
 rw[yX,zaH.eq_def] at h
 split at h
 ·rename_i hk
  simp only[Zh,Al8] at h;obtain⟨rfl,rfl⟩:=h
  exact⟨zs1 (znU hr hk) _ _,hr.tail⟩
 split at h
 ·rename_i hk
  simp only[Zh,Al8] at h;obtain⟨rfl,rfl⟩:=h
  have:=zuN hr hk
  exact⟨zvx (by omega) _ _,hr.tail⟩
 split at h
 ·rename_i hk
  simp only[Zh,Al8] at h;obtain⟨rfl,rfl⟩:=h
  exact⟨zb8 (k:=4) (by decide) (by decide) (by decide) (by simp[yr,zhb,zvp hr hk]) _ _,hr.tail⟩
 split at h
 ·cases k with
  | zero=>cases h
  | succ n =>
   obtain⟨l,t1,h1,h2⟩:=zq h
   simp only[Zh,Al8] at h2;obtain⟨rfl,rfl⟩:=h2
   have g:=zg2 (ih n rfl) _ [] _ _ _ hr.tail (fun x hx=>nomatch hx) h1
   exact⟨zvE g.1,g.2⟩
 split at h
 ·cases k with
  | zero=>cases h
  | succ n =>
   obtain⟨l,t1,h1,h2⟩:=zq h
   simp only[Zh,Al8] at h2;obtain⟨rfl,rfl⟩:=h2
   have g:=zg2 (ziW (ih n rfl)) _ [] _ _ _ hr.tail (fun x hx=>nomatch hx) h1
   exact⟨zwc g.1,g.2⟩
 split at h
 ·cases h
 ·rename_i hf
  obtain⟨_,t1,h1,h2⟩:=zq h
  obtain⟨s,t2,h3,h4⟩:=zq h2
  simp only[Zh,Al8] at h4;obtain⟨rfl,rfl⟩:=h4
  have g1:=zeO _ _ _ _ hr h1
  have g2:=Z9 _ _ _ g1.2 h3
  refine⟨⟨?_,?_,fun e=>absurd e hf⟩,g2.2⟩
  ·simp[pl,zaD,yr,zhb,g2.1]
  ·simp only[zN];rw[if_neg (by decide),if_neg (by decide)];omega
theorem zm6 (fixed:Bool):∀ k,GR (okV fixed k) (Zq fixed k)
 | 0=>zoF fixed 0 fun n h=>by cases h
 | k+1=>zoF fixed (k+1) fun n h=>by cases h;exact zm6 fixed k
theorem zjk {fixed:Bool} {k:Nat} {dp:Int} (hk:dp+k=16) (h0:0≤dp) {v:Val} (h:okV fixed k v):yz dp fixed v=true:=by
 obtain⟨h1,h2,h3⟩:=h
 simp only[yz,zaf,Al0,Z0,Bool.not_eq_true',zL]
 refine⟨⟨h1,by omega⟩,by omega,?_⟩
 cases fixed with
 | false=>exact .inl rfl
 | true=>exact .inr (by rw[h3 rfl];rfl)
theorem zpk {fixed:Bool} {k:Nat} {dp:Int} (hk:dp+k=16) (h0:0≤dp) {l:List Mem} (h:∀ x∈l,okM fixed k x):ZH dp fixed l=true:=by
 refine Zk.2 fun x hx=>?_
 obtain⟨s,v⟩:=x
 have:=h _ hx
 simp only[zfk,Al0]
 exact⟨this.1,zjk hk h0 this.2⟩
theorem zog {fixed:Bool} {k:Nat} {dp:Int} (hk:dp+k=16) (h0:0≤dp):GR (fun l=>ZH dp fixed l=true) (Y0 fixed k):=fun t a t' hr h=>by
 unfold Y0 at h
 split at h
 ·have g:=zhv (ziW (zm6 fixed k)) _ _ _ hr.tail h
  exact⟨zpk hk h0 g.1.2,g.2⟩
 ·simp only[Zh,Al8] at h;obtain⟨rfl,rfl⟩:=h;exact⟨rfl,hr⟩
theorem zu7 {fixed:Bool} {k:Nat} {dp:Int} (hk:dp+k=16) (h0:0≤dp):GR (fun d=>zbr dp fixed d=true) (zfY fixed k):=fun t a t' hr h=>by
 obtain⟨s,t1,h1,h2⟩:=zq h
 obtain⟨l,t2,h3,h4⟩:=zq h2
 simp only[Zh,Al8] at h4;obtain⟨rfl,rfl⟩:=h4
 have g1:=Z9 _ _ _ hr h1
 have g2:=zog hk h0 _ _ _ g1.2 h3
 exact⟨by simp[zbr,g1.1,g2.1],g2.2⟩
theorem zfa {fixed:Bool} {k:Nat} {dp:Int} (hk:dp+k=16) (h0:0≤dp):GR (fun l=>yO dp fixed l=true) (Yx fixed k):=fun t a t' hr h=>by
 have g:=zmw (zu7 hk h0) _ [] _ _ _ hr (fun x hx=>nomatch hx) h
 exact⟨Zk.2 g.1,g.2⟩
theorem zuC {k:Nat} {dp:Int} (hk:dp+k=16) (h0:0≤dp) {sels:TS→PR (List SelD)} (hs:GR (fun l=>zQ (dp+1) l=true) sels):GR (fun x=>z6 dp x=true) (zay sels k):=fun t a t' hr h=>by
 unfold zay at h
 split at h
 ·unfold Zp at h
  have hr1:=hr.tail
  generalize t.tail=t0 at h hr1
  split at h
  ·rename_i hc
   obtain⟨s,t1,h1,h2⟩:=zq h
   obtain⟨d,t2,h3,h4⟩:=zq h2
   simp only[Zh,Al8] at h4;obtain⟨rfl,rfl⟩:=h4
   have g1:=Z9 _ _ _ hr1 h1
   have g2:=zfa hk h0 _ _ _ g1.2 h3
   have hon:s≠[111,110]:=fun e=>by
    unfold yT at h1
    rw[if_pos hc.1] at h1
    simp only[Zh,Al8] at h1
    have h5:=hc.2
    simp only[isW,hc.1,decide_true,Bool.true_and,decide_eq_false_iff_not] at h5
    exact h5 (h1.1.trans e)
   refine⟨?_,g2.2⟩
   simp only[z6,show ¬ ((1:Int)=0) by decide,if_false,if_true,g1.1,g2.1,hon]
   simp[hon]
  ·obtain⟨o,t1,h1,h2⟩:=zq h
   obtain⟨d,t2,h3,h4⟩:=zq h2
   obtain⟨l,t3,h5,h6⟩:=zq h4
   simp only[Zh,Al8] at h6;obtain⟨rfl,rfl⟩:=h6
   have g1:(o=[]∨zZ o=true)∧RT t1:=by
    split at h1
    ·have:=Z9 _ _ _ hr1.tail h1;exact⟨.inr this.1,this.2⟩
    ·simp only[Zh,Al8] at h1;obtain⟨rfl,rfl⟩:=h1;exact⟨.inl rfl,hr1⟩
   have g2:=zfa hk h0 _ _ _ g1.2 h3
   have g3:=hs _ _ _ g2.2 h5
   refine⟨?_,g3.2⟩
   have e3:=g3.1
   simp only[zQ,Al0,zL] at e3
   simp only[z6,show ¬ ((2:Int)=0) by decide,show ¬ ((2:Int)=1) by decide,if_false,if_true,g2.1]
   rcases g1.1 with rfl|g1
   ·simp[e3]
   ·simp[e3,g1]
 ·obtain⟨s,t1,h1,h2⟩:=zq h
  obtain⟨an,t2,h3,h4⟩:=zq h2
  obtain⟨ar,t3,h5,h6⟩:=zq h4
  obtain⟨d,t4,h7,h8⟩:=zq h6
  obtain⟨l,t5,h9,h10⟩:=zq h8
  simp only[Zh,Al8] at h10;obtain⟨rfl,rfl⟩:=h10
  have g1:=Z9 _ _ _ hr h1
  have g2:((an.1=[]∨zZ an.1=true)∧zZ an.2=true)∧RT t2:=by
   split at h3
   ·obtain⟨s2,t6,h11,h12⟩:=zq h3
    simp only[Zh,Al8] at h12;obtain⟨rfl,rfl⟩:=h12
    have:=Z9 _ _ _ g1.2.tail h11
    exact⟨⟨.inr g1.1,this.1⟩,this.2⟩
   ·simp only[Zh,Al8] at h3;obtain⟨rfl,rfl⟩:=h3
    exact⟨⟨.inl rfl,g1.1⟩,g1.2⟩
  have g3:=zog hk h0 _ _ _ g2.2 h5
  have g4:=zfa hk h0 _ _ _ g3.2 h7
  have g5:(l.length=0∨zQ (dp+1) l=true)∧RT t5:=by
   split at h9
   ·have:=hs _ _ _ g4.2 h9;exact⟨.inr this.1,this.2⟩
   ·simp only[Zh,Al8] at h9;obtain⟨rfl,rfl⟩:=h9;exact⟨.inl rfl,g4.2⟩
  refine⟨?_,g5.2⟩
  simp only[z6,if_true,g3.1,g4.1]
  have e5:=g5.1
  simp only[zQ,Al0,zL] at e5
  obtain⟨⟨e1,e2⟩,_⟩:=g2
  rcases e1 with e1|e1<;>rcases e5 with e5|e5<;>simp[e1,e2,e5]
theorem zgP:∀(k:Nat) (dp:Int),dp+k=17→1≤dp→GR (fun l=>zQ dp l=true) (yo k)
 | 0,dp,_,_=>fun t a t' hr h=>by simp only[yo] at h;split at h<;>cases h
 | k+1,dp,hk,h0=>fun t a t' hr h=>by
  simp only[yo] at h
  split at h
  ·have hk2:(dp+1)+(k:Int)=17:=by omega
   have g:=zhv (zuC (k:=k) (dp:=dp) (by omega) (by omega) (zgP k (dp+1) hk2 (by omega))) _ _ _ hr.tail h
   refine⟨?_,g.2⟩
   simp only[zQ,Al0,zL]
   refine⟨g.1.1,by omega,?_⟩
   have:∀ l:List SelD,(∀ x∈l,z6 dp x=true)→yw dp l=true:=by
    intro l
    induction l with
    | nil=>intro _;rfl
    | cons x r ih=>intro hh;simp only[yw,hh x (.head _),ih fun y hy=>hh y (.tail _ hy),Bool.and_self]
   exact this a g.1.2
  ·cases h
theorem zvj:GR (fun x=>zaF x=true) zaX:=fun t a t' hr h=>by
 obtain⟨_,t1,h1,h2⟩:=zq h
 obtain⟨s,t2,h3,h4⟩:=zq h2
 obtain⟨_,t3,h5,h6⟩:=zq h4
 obtain⟨ty,t4,h7,h8⟩:=zq h6
 have g1:=zeO _ _ _ _ hr h1
 have g2:=Z9 _ _ _ g1.2 h3
 have g3:=zeO _ _ _ _ g2.2 h5
 have g4:=zuY _ _ _ g3.2 h7
 split at h8
 ·obtain⟨v,t5,h9,h10⟩:=zq h8
  simp only[Zh,Al8] at h10;obtain⟨rfl,rfl⟩:=h10
  have g5:=zm6 true 16 _ _ _ g4.2.tail h9
  refine⟨?_,g5.2⟩
  simp only[zaF,g2.1,g4.1,zdM,if_true,Bool.true_and]
  exact zjk (by omega) (by omega) g5.1
 ·simp only[Zh,Al8] at h8;obtain⟨rfl,rfl⟩:=h8
  refine⟨?_,g4.2⟩
  simp only[zaF,g2.1,g4.1,zdM,Bool.true_and]
  exact yb rfl
theorem ztR (kind:Int) (hkd:kind=0∨kind=1):GR (fun o=>ZC o=true) (opP kind):=fun t a t' hr h=>by
 obtain⟨s,t1,h1,h2⟩:=zq h
 obtain⟨vs,t2,h3,h4⟩:=zq h2
 obtain⟨d,t3,h5,h6⟩:=zq h4
 obtain⟨l,t4,h7,h8⟩:=zq h6
 simp only[Zh,Al8] at h8;obtain⟨rfl,rfl⟩:=h8
 have g1:(s=[]∨zZ s=true)∧RT t1:=by
  split at h1
  ·have:=Z9 _ _ _ hr h1;exact⟨.inr this.1,this.2⟩
  ·simp only[Zh,Al8] at h1;obtain⟨rfl,rfl⟩:=h1;exact⟨.inl rfl,hr⟩
 have g2:vs.all zaF=true∧RT t2:=by
  split at h3
  ·have:=zhv zvj _ _ _ g1.2.tail h3;exact⟨Zk.2 this.1.2,this.2⟩
  ·simp only[Zh,Al8] at h3;obtain⟨rfl,rfl⟩:=h3;exact⟨rfl,g1.2⟩
 have g3:=zfa (fixed:=true) (k:=16) (dp:=0) (by omega) (by omega) _ _ _ g2.2 h5
 have g4:=zgP 16 1 (by omega) (by omega) _ _ _ g3.2 h7
 refine⟨?_,g4.2⟩
 simp only[ZC,g2.1,g3.1,g4.1,Bool.and_true,Al0,Z0,zL]
 exact⟨hkd,g1.1⟩
theorem zst:GR (fun f=>Y7 f=true) zcG:=fun t a t' hr h=>by
 obtain⟨s,t1,h1,h2⟩:=zq h
 obtain⟨_,t2,h3,h4⟩:=zq h2
 obtain⟨o,t3,h5,h6⟩:=zq h4
 obtain⟨d,t4,h7,h8⟩:=zq h6
 obtain⟨l,t5,h9,h10⟩:=zq h8
 simp only[Zh,Al8] at h10;obtain⟨rfl,rfl⟩:=h10
 split at h1
 ·cases h1
 rename_i hon
 have g1:=Z9 _ _ _ hr h1
 have hne:s≠[111,110]:=fun e=>by
  unfold yT at h1
  split at h1
  ·rename_i hk
   simp only[Zh,Al8] at h1
   exact hon (by simp[isW,hk,h1.1,e])
  ·cases h1
 have g2:RT t2:=by
  split at h3
  ·simp only[Zh,Al8] at h3;obtain⟨_,rfl⟩:=h3;exact g1.2.tail
  ·cases h3
 have g3:=Z9 _ _ _ g2 h5
 have g4:=zfa (fixed:=true) (k:=16) (dp:=0) (by omega) (by omega) _ _ _ g3.2 h7
 have g5:=zgP 16 1 (by omega) (by omega) _ _ _ g4.2 h9
 refine⟨?_,g5.2⟩
 simp[Y7,hne,g1.1,g3.1,g4.1,g5.1]
def okD (d:DocD):Prop:=d.ops.all ZC=true∧d.frags.all Y7=true
theorem zsy {l:List SelD} (h:zQ 1 l=true):ZC ⟨0,[],[],[],l⟩=true:=by simp[ZC,h,yO]
theorem zqr {d:DocD} {t:TS} {d':DocD} {t':TS} (hr:RT t) (hd:okD d) (h:Yj d t=.ok (d',t')):okD d'∧RT t'∧d'.ops.length+d'.frags.length=d.ops.length+d.frags.length+1:=by
 unfold Yj at h
 repeat' split at h
 ·obtain⟨l,t1,h1,h2⟩:=zq h
  simp only[Zh,Al8] at h2;obtain⟨rfl,rfl⟩:=h2
  have g:=zgP 16 1 (by omega) (by omega) _ _ _ hr h1
  exact⟨⟨by simp[hd.1,zsy g.1],hd.2⟩,g.2,by simp;omega⟩
 ·obtain⟨l,t1,h1,h2⟩:=zq h
  simp only[Zh,Al8] at h2;obtain⟨rfl,rfl⟩:=h2
  have g:=ztR 0 (.inl rfl) _ _ _ hr.tail h1
  exact⟨⟨by simp[hd.1,g.1],hd.2⟩,g.2,by simp;omega⟩
 ·obtain⟨l,t1,h1,h2⟩:=zq h
  simp only[Zh,Al8] at h2;obtain⟨rfl,rfl⟩:=h2
  have g:=ztR 1 (.inr rfl) _ _ _ hr.tail h1
  exact⟨⟨by simp[hd.1,g.1],hd.2⟩,g.2,by simp;omega⟩
 ·obtain⟨l,t1,h1,h2⟩:=zq h
  simp only[Zh,Al8] at h2;obtain⟨rfl,rfl⟩:=h2
  have g:=zst _ _ _ hr.tail h1
  exact⟨⟨hd.1,by simp[hd.2,g.1]⟩,g.2,by simp;omega⟩
 ·cases h
theorem zoE:∀(n:Nat) (d:DocD) (t:TS) (d':DocD) (t':TS),RT t→okD d→Yk n d t=.ok (d',t')→okD d'∧d.ops.length+d.frags.length≤d'.ops.length+d'.frags.length
 | 0,_,_,_,_,_,_,h=>by cases h
 | n+1,d,t,d',t',hr,hd,h=>by
  simp only[Yk] at h
  split at h
  ·simp only[Zh,Al8] at h;obtain⟨rfl,rfl⟩:=h;exact⟨hd,Al4 _⟩
  ·obtain⟨d1,t1,h1,h2⟩:=zq h
   have g:=zqr hr hd h1
   have g2:=zoE n _ _ _ _ g.2.1 g.1 h2
   exact⟨g2.1,by omega⟩
theorem zvI {t:TS} {d:DocD} {t':TS} (hr:RT t) (h:ze8 t=.ok (d,t')):yQ d=true:=by
 obtain⟨d1,t1,h1,h2⟩:=zq h
 have g:=zqr hr ⟨rfl,rfl⟩ h1
 have g2:=zoE _ _ _ _ _ g.2.1 g.1 h2
 have:=g.2.2
 simp only[yQ,g2.1.1,g2.1.2,Bool.and_self,Bool.and_true,zL]
 simp at this;omega
end Go.Proofs.YticbbfbpeimkbaaGreatDoor
namespace Go.Proofs.YticbbfbpeimkbaaGreatDoor
open Go.Ab
def lD (x:DirD):Nat:=2+x.nm.length+bMs x.args
theorem kMk:zv (pk [40])=true∧zv (pk [41])=true∧zv (pk [64])=true∧zv (pk [58])=true∧zv (pk [123])=true∧zv (pk [125])=true∧zv (pk [46,46,46])=true∧zv (pk [36])=true∧zv (pk [61])=true∧zv (pk [91])=true∧zv (pk [93])=true∧zv (pk [33])=true:=by decide +kernel
theorem kWk:zv (wk [113,117,101,114,121])=true∧zv (wk [109,117,116,97,116,105,111,110])=true∧zv (wk [102,114,97,103,109,101,110,116])=true∧zv (wk [111,110])=true:=by decide +kernel
theorem kNm (s:List UInt8):zv (wk s)=zZ s:=rfl
theorem zlH (v:Val) (h:pl v) (hw:wfV v):(yD v).all zv=true:=Zk.2 (zkC v h hw)
theorem zit {dp:Int} {fixed:Bool} {v:Val} (h:yz dp fixed v=true):pl v:=by
 simp only[yz,zaf,Al0] at h
 exact h.1.1
theorem ziF {dp:Int} {fixed:Bool}:∀ l:List Mem,ZH dp fixed l=true→zeY l→(Zc l).all zv=true
 | [],_,_=>rfl
 | .mk s v::l,h,hw=>by
  simp only[ZH,List.all_cons,Al0,zfk] at h
  have e:Zc (.mk s v::l)=wk s::pk [58]::(yD v++Zc l):=by simp[Zc,zbi,wk,pk]
  rw[e]
  simp only[List.all_cons,List.all_append,Al0,kNm]
  exact⟨h.1.1,kMk.2.2.2.1,zlH v (zit h.1.2) hw.1,ziF (dp:=dp) (fixed:=fixed) l h.2 hw.2⟩
theorem ziY {dp:Int} {fixed:Bool} (l:List Mem) (h:ZH dp fixed l=true) (hw:zeY l):(ZU l).all zv=true:=by
 unfold ZU
 split
 ·rfl
 ·simp only[List.all_cons,List.all_append,Al0,List.all_nil,and_true]
  exact⟨kMk.1,ziF l h hw,kMk.2.1⟩
theorem zkJ {dp:Int} {fixed:Bool} (l:List DirD) (h:yO dp fixed l=true) (hw:zkn l):(tDs l).all zv=true:=by
 refine Zk.2 fun x hx=>?_
 obtain⟨d,hd,hx⟩:=List.mem_flatMap.1 hx
 have h1:=Zk.1 h d hd
 simp only[zbr,Al0] at h1
 have:(tD d).all zv=true:=by
  simp only[tD,List.all_cons,Al0,kNm]
  exact⟨kMk.2.2.1,h1.1,ziY d.args h1.2 (hw d hd)⟩
 exact Zk.1 this x hx
theorem zmF {dp:Int} (l:List SelD) (h:∀ v∈l,(tS v).all zv=true):(tSl l).all zv=true:=by
 rw[zhT]
 refine Zk.2 fun x hx=>?_
 obtain⟨d,hd,hx⟩:=List.mem_flatMap.1 hx
 exact Zk.1 (h d hd) x hx
theorem zu6:∀ v:SelD,∀ dp:Int,z6 dp v=true→wfS v→(tS v).all zv=true:=by
 refine SelD.ind fun k al nm args dirs on sels ih dp h hw=>?_
 obtain⟨w1,w2,w3⟩:=hw
 simp only[z6,Al0] at h
 obtain⟨hd,h⟩:=h
 have hD:=zkJ dirs hd w2
 have hS:∀ q:Int,yw q sels=true→(tSl sels).all zv=true:=fun q hq=>zmF (dp:=q) sels fun v hv=>ih v hv q (zbn hq v hv) (zcS w3 v hv)
 have hB:(if sels.length=0 then True else (tSl sels).all zv=true)→(if sels.length=0 then ([]:List Tok) else pk [123]::(tSl sels++[pk [125]])).all zv=true:=by
  intro g
  split
  ·rfl
  ·rename_i hz
   rw[if_neg hz] at g
   simp only[List.all_cons,List.all_append,Al0,List.all_nil,and_true]
   exact⟨kMk.2.2.2.2.1,g,kMk.2.2.2.2.2.1⟩
 simp only[tS,List.all_append,Al0]
 by_cases k0:k=0
 ·simp only[if_pos k0,Al0,Z0,zL] at h ⊢
  obtain⟨h1,h2,h3,h4,h5⟩:=h
  refine⟨?_,hD,hB ?_⟩
  ·simp only[List.all_append,List.all_cons,Al0,kNm]
   refine⟨?_,h1,ziY args h4 w1⟩
   split
   ·rfl
   ·rename_i ha
    simp only[List.all_cons,List.all_nil,Al0,and_true,kNm]
    exact⟨h2.resolve_left ha,kMk.2.2.2.1⟩
  ·split
   ·trivial
   ·rename_i hz
    exact hS _ (h5.resolve_left hz).2
 ·by_cases k1:k=1
  ·simp only[if_neg k0,if_pos k1,Al0,zL] at h ⊢
   obtain⟨h1,h2,h3,h4,h5,h6⟩:=h
   refine⟨?_,hD,hB (by rw[if_pos h6];trivial)⟩
   simp only[List.all_cons,List.all_nil,Al0,and_true,kNm]
   exact⟨kMk.2.2.2.2.2.2.1,h1⟩
  ·by_cases k2:k=2
   ·simp only[if_neg k0,if_neg k1,if_pos k2,Al0,Z0,zL] at h ⊢
    obtain⟨h1,h2,h3,h4,h5,h6,h7⟩:=h
    refine⟨?_,hD,hB (by rw[if_neg h5];exact hS _ h7)⟩
    simp only[List.all_cons,Al0]
    refine⟨kMk.2.2.2.2.2.2.1,?_⟩
    split
    ·rfl
    ·rename_i ho
     simp only[List.all_cons,List.all_nil,Al0,and_true,kNm]
     exact⟨kWk.2.2.2,h4.resolve_left ho⟩
   ·simp only[if_neg k0,if_neg k1,if_neg k2] at h
    cases h
theorem zo4 {dp:Int} (l:List SelD) (h:zQ dp l=true) (hw:zdc l):(tBl l).all zv=true:=by
 simp only[zQ,Al0] at h
 simp only[tBl,List.all_cons,List.all_append,Al0,List.all_nil,and_true]
 exact⟨kMk.2.2.2.2.1,zmF (dp:=dp) l fun v hv=>zu6 v dp (zbn h.2.2 v hv) (zcS hw v hv),kMk.2.2.2.2.2.1⟩
theorem zq7 (n:Nat) (m:Int):∀ k,(zcv n m k).all zv=true:=by
 have hp:∀ i,(zdy n m i).all zv=true:=fun i=>by
  unfold zdy
  by_cases h1:i<n<;>cases h2:zcM m i<;>simp[h1,kMk]
 intro k
 induction k with
 | zero=>exact hp 0
 | succ k ih=>rw[zcv,List.all_append,hp,ih];rfl
theorem zsS (t:TyD) (h:yy t=true):(tTy t).all zv=true:=by
 simp only[yy,Al0] at h
 simp only[tTy,List.all_append,List.all_cons,Al0,kNm]
 refine⟨Zk.2 fun x hx=>?_,h.1,zq7 _ _ _⟩
 rw[List.eq_of_mem_replicate hx]
 exact kMk.2.2.2.2.2.2.2.2.2.1
theorem zty (l:List VarD) (h:l.all zaF=true) (hw:∀ y∈l,wfW y):(tWs l).all zv=true:=by
 unfold tWs
 split
 ·rfl
 ·simp only[List.all_cons,List.all_append,Al0,List.all_nil,and_true]
  refine⟨kMk.1,Zk.2 fun x hx=>?_,kMk.2.1⟩
  obtain⟨w,hm,hx⟩:=List.mem_flatMap.1 hx
  have h1:=Zk.1 h w hm
  simp only[zaF,Al0] at h1
  have:(tW w).all zv=true:=by
   simp only[tW,List.all_cons,List.all_append,Al0,kNm]
   refine⟨kMk.2.2.2.2.2.2.2.1,h1.1,kMk.2.2.2.1,zsS _ h1.2.1,?_⟩
   unfold tDf
   split
   ·rename_i hh
    have h2:=h1.2.2
    rw[zdM,if_pos hh] at h2
    simp only[List.all_cons,Al0]
    exact⟨kMk.2.2.2.2.2.2.2.2.1,zlH _ (zit h2) (hw w hm).2.2⟩
   ·rfl
  exact Zk.1 this x hx
theorem zqp (d:DocD) (h:yQ d=true) (hw:zaK d):(Y3 d).all zv=true:=by
 simp only[yQ,Al0] at h
 obtain⟨_,h1,h2⟩:=h
 simp only[Y3,List.all_append,Al0]
 refine⟨Zk.2 fun x hx=>?_,Zk.2 fun x hx=>?_⟩
 ·obtain⟨o,hm,hx⟩:=List.mem_flatMap.1 hx
  have g:=Zk.1 h1 o hm
  have w:=hw.1 o hm
  simp only[ZC,Al0,Z0,zL] at g
  have:(tO o).all zv=true:=by
   simp only[tO,List.all_cons,List.all_append,Al0]
   refine⟨by split;exact kWk.1;exact kWk.2.1,?_,zty _ g.2.2.1 w.1,zkJ _ g.2.2.2.1 w.2.1,zo4 _ g.2.2.2.2 w.2.2⟩
   split
   ·rfl
   ·rename_i hn
    simp only[List.all_cons,List.all_nil,Al0,and_true,kNm]
    exact g.2.1.resolve_left hn
  exact Zk.1 this x hx
 ·obtain⟨o,hm,hx⟩:=List.mem_flatMap.1 hx
  have g:=Zk.1 h2 o hm
  have w:=hw.2 o hm
  simp only[Y7,Al0,zL] at g
  have:(tF o).all zv=true:=by
   simp only[tF,List.all_cons,List.all_append,Al0,kNm]
   exact⟨kWk.2.2.1,g.2.1,kWk.2.2.2,g.2.2.1,zkJ _ g.2.2.2.1 w.1,zo4 _ g.2.2.2.2 w.2⟩
  exact Zk.1 this x hx
theorem zns (s:List UInt8) (hs:s.length≤zbH):zu Tryz.prog 19 [.str s] (.bool true):=by
 refine zu.go ir19 ck19 (Al4 _) fun KP Q hQ=>?_
 by_cases h1:(3000:Int)<(s.length:Int)
 ·simp(disch:=first|omega|assumption) only[zl,zg,ze,zk,zh,zd,zr,ir19,h1,go_sem]
  refine zb zg1 ?_
  simp(disch:=first|omega|assumption) only[go_sem]
  exact hQ _ _ _ _ nofun rfl (by simp[zc,zf,AV.strip,AV.strip1])
 have hp:=zhc s hs
 have hb:=(zrw s).1
 have hw:=(zrw s).2
 rcases zhH s with ⟨he,hd⟩|⟨L,d,hR,hP,hD⟩
 ·rw[hd] at hp
  generalize (zcW s).2=n at hp he
  have ez:zdv ⟨[],[]⟩=[.sl .no 5 [],.sl .no 4 []]:=rfl
  rw[ez] at hp
  simp(disch:=first|omega|assumption) only[zl,zg,ze,zk,zh,zd,zr,ir19,h1,go_sem]
  refine zb hp ?_
  simp(disch:=first|omega|assumption) only[zl,zg,ze,zk,zh,zd,zr,go_sem]
  refine zm fun b3 hb3=>?_
  simp(disch:=first|omega|assumption) only[zl,zg,ze,zk,zh,zd,zr,he,go_sem]
  refine zb zg1 ?_
  simp(disch:=first|omega|assumption) only[go_sem]
  exact hQ _ _ _ _ nofun rfl (by simp[zc,zf,AV.strip,AV.strip1])
 ·rw[hD] at hp hb hw
  simp only at hb hw
  simp only[yS] at hb
  have hbl:zbk d≤Lim:=by simp only[Lim];omega
  have hr:=zvI (Zk.1 (zlj hR)) hP
  have hall:=zqp d hr hw
  have htp:YG (Y3 d)=(ZT (Y3 d),true):=by unfold YG;rw[if_pos hall]
  have ed:zdv d=[.sl .no 5 (cOs d.ops),.sl .no 4 (cFs d.frags)]:=rfl
  have hT:=zqm d hw (by simp only[Lim];omega)
  have hk:=zhE d hw (by simp only[Lim];omega)
  have hg:=zkv d hw (by simp only[Lim];omega)
  have hsd:=zq1 d d hbl
  rw[ed] at hp hT hk hg hsd
  rw[hr] at hk hg
  simp(disch:=first|omega|assumption) only[zl,zg,ze,zk,zh,zd,zr,ir19,h1,go_sem]
  refine zb hp ?_
  simp(disch:=first|omega|assumption) only[zl,zg,ze,zk,zh,zd,zr,go_sem]
  refine zm fun b3 hb3=>?_
  simp(disch:=first|omega|assumption) only[zl,zg,ze,zk,zh,zd,zr,go_sem]
  refine zb hT ?_
  by_cases h3:(ZT (Y3 d)).length≤8192
  ·have hdt:Yo d=(ZT (Y3 d),true):=by unfold Yo;rw[if_pos (by rw[htp,hr];simpa using h3),htp]
   have hR2:=zm0 (Y3 d) hall h3
   have hD2:=zrH d hr hw
   have he:=zo5 hR2 hD2
   have hp2:=zhc (ZT (Y3 d)) (by simp only[zbH];omega)
   rw[he,ed] at hp2
   rw[hdt] at hT ⊢
   simp(disch:=first|omega|assumption) only[zl,zg,ze,zk,zh,zd,zr,go_sem]
   refine zb hp2 ?_
   simp(disch:=first|omega|assumption) only[zl,zg,ze,zk,zh,zd,zr,go_sem]
   refine zm fun b11 hb11=>?_
   have hne:b11≠b3:=fun e=>by subst e;rw[upd_same] at hb11;cases hb11
   simp(disch:=first|omega|assumption) only[zl,zg,ze,zk,zh,zd,zr,hne,Ne.symm hne,go_sem]
   refine zb hT ?_
   simp(disch:=first|omega|assumption) only[zl,zg,ze,zk,zh,zd,zr,hne,Ne.symm hne,go_sem]
   refine zb hg ?_
   simp(disch:=first|omega|assumption) only[zl,zg,ze,zk,zh,zd,zr,hne,Ne.symm hne,go_sem]
   refine zb (zu.low hsd) ?_
   have hee:eqd d d=true:=by simp[eqd]
   simp(disch:=first|omega|assumption) only[zl,zg,ze,zk,zh,zd,zr,hee,go_sem]
   refine zb zg1 ?_
   simp(disch:=first|omega|assumption) only[go_sem]
   exact hQ _ _ _ _ nofun rfl (by simp[zc,zf,AV.strip,AV.strip1])
  ·have hdt:Yo d=([],false):=by
    unfold Yo
    rw[if_neg]
    intro h
    rw[htp] at h
    simp only[Al0,zL] at h
    exact h3 h.2.2
   have hdk:zak d=Y3 d:=by unfold zak;rw[hr];rfl
   rw[hdt]
   rw[hdk] at hk
   have hwt:=zlg d hw
   rw[hdk] at hwt
   have hpt:=zot (Y3 d) (by simp only[Lim];omega)
   rw[htp] at hpt
   have h4:((8192:Int)<((ZT (Y3 d)).length:Int))=True:=eq_true (by omega)
   simp(disch:=first|omega|assumption) only[zl,zg,ze,zk,zh,zd,zr,go_sem]
   refine zb hk ?_
   simp(disch:=first|omega|assumption) only[zl,zg,ze,zk,zh,zd,zr,go_sem]
   refine zb hpt ?_
   simp(disch:=first|omega|assumption) only[zl,zg,ze,zk,zh,zd,zr,h4,go_sem]
   refine zb zg1 ?_
   simp(disch:=first|omega|assumption) only[go_sem]
   exact hQ _ _ _ _ nofun rfl (by simp[zc,zf,AV.strip,AV.strip1])
end Go.Proofs.YticbbfbpeimkbaaGreatDoor
