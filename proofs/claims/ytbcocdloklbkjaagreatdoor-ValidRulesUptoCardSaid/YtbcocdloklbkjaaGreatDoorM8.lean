import Derived.Test.YtbcocdloklbkjaaGreatDoorM1
import Derived.Test.YtbcocdloklbkjaaGreatDoorM2
import Derived.Test.YtbcocdloklbkjaaGreatDoorM3
import Derived.Test.YtbcocdloklbkjaaGreatDoorM4
import Derived.Test.YtbcocdloklbkjaaGreatDoorM5
import Derived.Test.YtbcocdloklbkjaaGreatDoorM6
import Derived.Test.YtbcocdloklbkjaaGreatDoorM7
set_option maxRecDepth 100000
set_option linter.all false
namespace Go.Proofs.YtbcocdloklbkjaaGreatDoor
open Go.Ab
def YC (f:FuncId) (args:List AV) (B W:Nat) (lo hi:Int) (r:Int→Bool) (tk:List Tok):Prop :=
 ∀(H:zb) (w:Nat) (o:Own) (l:List Tok) (ok:Bool) (dp:Int),WAt H w o l ok dp→lo≤dp→dp≤hi→l.length+B≤Lim →
  zj Tryz.prog f (.ptr w 0::args) H (zph fun v H'=>v=.tup []∧∃ o' l',WAt H' w o' l' (ok&&r dp) dp∧WStep H o w H' o'∧l'.length≤l.length+B∧((ok&&r dp)=true→l'=l++tk)∧wT l'≤wT l+W)
structure YR (H0:zb) (o0:Own) (w:Nat) (l0:List Tok) (ok0:Bool) (dp:Int) (B W:Nat) (r:Bool) (tk:List Tok) (H:zb) (o:Own) (l:List Tok):Prop where
 here:WAt H w o l (ok0&&r) dp
 st:WStep H0 o0 w H o
 len:l.length≤l0.length+B
 eq:(ok0&&r)=true→l=l0++tk
 wt:wT l≤wT l0+W
theorem YR.refl {H:zb} {o:Own} {w:Nat} {l:List Tok} {ok:Bool} {dp:Int} (h:WAt H w o l ok dp):YR H o w l ok dp 0 0 true [] H o l :=
 ⟨by rw[Bool.and_true];exact h,.refl _ _ _,Al4 _,fun _=>by simp,Al4 _⟩
theorem YR.alloc {H0 H:zb} {o0 o:Own} {w b B W:Nat} {l0 l tk:List Tok} {ok0 r:Bool} {dp:Int} {x:AObj} (h:YR H0 o0 w l0 ok0 dp B W r tk H o l) (hb:H b=none):YR H0 o0 w l0 ok0 dp B W r tk (H.upd b x) o l :=
 ⟨h.here.alloc hb,h.st.alloc hb,h.len,h.eq,h.wt⟩
theorem YR.fin {H0 H:zb} {o0 o:Own} {w B B' W W':Nat} {l0 l tk tk':List Tok} {ok0 r r':Bool} {dp:Int} (h:YR H0 o0 w l0 ok0 dp B W r tk H o l) (hr:r=r') (ht:r'=true→tk=tk') (hB:B≤B') (hW:W≤W') :
  ∃ o' l',WAt H w o' l' (ok0&&r') dp∧WStep H0 o0 w H o'∧l'.length≤l0.length+B'∧((ok0&&r')=true→l'=l0++tk')∧wT l'≤wT l0+W':=by
 subst hr
 refine⟨o,l,h.here,h.st,by have:=h.len;omega,fun e=>?_,by have:=h.wt;omega⟩
 rw[h.eq e,ht (by simp only[Al0] at e;exact e.2)]
theorem YR.cast {H0 H:zb} {o0 o:Own} {w B B' W W':Nat} {l0 l tk tk':List Tok} {ok0 r r':Bool} {dp:Int} (h:YR H0 o0 w l0 ok0 dp B W r tk H o l) (hB:B≤B') (hW:W≤W') (hr:r=r') (ht:tk=tk'):YR H0 o0 w l0 ok0 dp B' W' r' tk' H o l:=by
 subst hr;subst ht
 exact⟨h.here,h.st,by have:=h.len;omega,h.eq,by have:=h.wt;omega⟩
theorem YR.castC {H0 H:zb} {o0 o:Own} {w B B' W W':Nat} {l0 l tk tk':List Tok} {ok0 r r':Bool} {dp:Int} (h:YR H0 o0 w l0 ok0 dp B W r tk H o l) (hB:B≤B') (hW:W≤W') (hr:r=r') (ht:r'=true→tk=tk'):YR H0 o0 w l0 ok0 dp B' W' r' tk' H o l:=by
 subst hr
 exact⟨h.here,h.st,by have:=h.len;omega,fun e=>by rw[h.eq e,ht (by simp only[Al0] at e;exact e.2)],by have:=h.wt;omega⟩
theorem YR.after {H0 H1 H:zb} {o0 o1 o:Own} {w B W:Nat} {l0 l tk:List Tok} {ok0 r:Bool} {dp:Int} (h:YR H1 o1 w l0 ok0 dp B W r tk H o l) (hs:WStep H0 o0 w H1 o1) {x:AObj} (hw:H1 w=some x):YR H0 o0 w l0 ok0 dp B W r tk H o l :=
 ⟨h.here,hs.trans hw h.st,h.len,h.eq,h.wt⟩
section
variable {KP:AV→zb→Prop} {Q:AExit→Env→zb→Prop} {st:List Fr} {ρ:Env} {H:zb} {all items:List AItem} {d:Option Nat} {R:List Chk}
theorem zcE {f:FuncId} {args:List AV} {B W:Nat} {lo hi:Int} {r:Int→Bool} {tk:List Tok} (hc:YC f args B W lo hi r tk) {w:Nat} {o:Own} {l:List Tok} {ok:Bool} {dp:Int} (h:WAt H w o l ok dp) (h0:lo≤dp) (h1:dp≤hi) (hb:l.length+B≤Lim)
  (k:∀ o' l' H',WAt H' w o' l' (ok&&r dp) dp→WStep H o w H' o'→l'.length≤l.length+B→((ok&&r dp)=true→l'=l++tk)→wT l'≤wT l+W→goR Tryz.prog KP Q all items st R (ρ.set d (.tup [])) H') :
  goK Tryz.prog KP Q all items st d R ρ f (.ptr w 0::args) H:=by
 refine zdh (hc H w o l ok dp h h0 h1 hb) fun v H' ⟨hv,o',l',h2,h3,h4,h5,h6⟩=>?_
 subst hv
 exact k o' l' H' h2 h3 h4 h5 h6
theorem zv {f:FuncId} {args:List AV} {B' W':Nat} {lo hi:Int} {r':Int→Bool} {tk':List Tok} (hc:YC f args B' W' lo hi r' tk') {H0:zb} {o0 o:Own} {w B W:Nat} {l0 l tk:List Tok} {ok0 r:Bool} {dp:Int} (h:YR H0 o0 w l0 ok0 dp B W r tk H o l) (h0:lo≤dp) (h1:dp≤hi)
  (hb:l0.length+(B+B')≤Lim) (k:∀ o' l' H',YR H0 o0 w l0 ok0 dp (B+B') (W+W') (r&&r' dp) (tk++tk') H' o' l'→WStep H o w H' o'→goR Tryz.prog KP Q all items st R (ρ.set d (.tup [])) H') :
  goK Tryz.prog KP Q all items st d R ρ f (.ptr w 0::args) H:=by
 have hlen:=h.len
 have hwt:=h.wt
 refine zcE hc h.here h0 h1 (by omega) fun o' l' H' h2 h3 h4 h5 h6=>k o' l' H' ⟨by rw[← ye];exact h2,h.st.trans h.here.cell h3,by omega,fun e=>?_,by omega⟩ h3
 rw[← ye] at e
 rw[h5 e,h.eq (by simp only[Al0] at e ⊢;exact e.1),zdn]
end
theorem Zw (b:Bool):YC 126 [.bool b] 0 0 (-1000) 1000 (fun _=>b) []:=by
 intro H w o l ok dp h h0 h1 hb
 refine zj.go ir126 ck126 (Al4 _) fun KP Q hQ=>?_
 have hc:=h.cell
 cases ok
 ·simp(disch:=omega) only[ir126,hc,go_sem]
  exact hQ _ _ _ _ [] nofun rfl (Low.refl _) ⟨rfl,o,l,h.put,(WStep.refl ..).upd,by simp,(fun _=>by simp),Al4 _⟩
 ·simp(disch:=omega) only[ir126,hc,go_sem]
  exact hQ _ _ _ _ [] nofun rfl (Low.refl _) ⟨rfl,o,l,by rw[Bool.true_and];exact h.put,(WStep.refl ..).upd,by simp,(fun _=>by simp),Al4 _⟩
theorem yy (s:List UInt8) (hs:s.length≤Lim):YC 189 [.str s] 1 (s.length+4) (-1000) 1000 (fun _=>zR s) [wk s]:=by
 intro H w o l ok dp h h0 h1 hb
 refine zj.go ir189 ck189 (Al4 _) fun KP Q hQ=>?_
 have hkl:=yz l
 simp only[Lim] at hb
 simp(disch:=omega) only[ir189,go_sem]
 refine za (zhB s hs) ?_
 simp(disch:=omega) only[go_sem]
 refine zcE (Zw _) h h0 h1 (by simp only[Lim];omega) fun o1 l1 H1 h2 h3 h4 h5 h6=>?_
 have hkl1:=yz l1
 have hc:=h2.cell
 simp(disch:=omega) only[hc,go_sem]
 refine zw (by rw[hkl1];exact h2.own) (by simp only[hkl1,Al2,Al3];omega) (by simp only[hkl1,Al2,Al3,maxLen];omega) fun o2 H2 hs2=>?_
 obtain⟨g1,g2,g3⟩:=h2.app (ts:=[wk s]) hs2 (by simp[hkl1])
 have ek:cKs l1++[[AV.int .i64 2,AV.str s]]=cKs (l1++[wk s]):=zaM l1 (wk s)
 simp(disch:=omega) only[g1,ek,go_sem]
 exact hQ _ _ _ _ [] nofun rfl (Low.refl _) ⟨rfl,o2,l1++[wk s],g2,h3.trans h2.cell g3,by simp;omega,(fun e=>by rw[h5 e];simp),by simp only[zeD,zfM,zgk,zuq];omega⟩
theorem yI (m:List UInt8) (o9:Own):YC 190 [.sl o9 1 [[.str m]]] 1 (m.length+4) (-1000) 1000 (fun _=>true) [pk m]:=by
 intro H w o l ok dp h h0 h1 hb
 refine zj.go ir190 ck190 (Al4 _) fun KP Q hQ=>?_
 simp only[Lim] at hb
 simp(disch:=omega) only[ir190,go_sem]
 refine zf [m] 8 (fun x:Own×List Tok=>[]) (fun done rest x H'=>WAt H' w x.1 x.2 ok dp∧WStep H o w H' x.1∧x.2=l++done.map pk) (o,l) (by simp(disch:=omega) only[go_sem]) ⟨h,.refl _ _ _,by simp⟩ ?_ ?_
 ·rintro⟨o1,l1⟩ H1 J ⟨h2,h3,h4⟩ hlt
  simp only at h2 h3 h4
  simp(disch:=omega) only[go_sem]
  refine hQ _ _ H1 H1 [] nofun rfl (Low.refl _) ⟨rfl,o1,l1,by simpa using h2,h3,by rw[h4];simp,(fun _=>by rw[h4];simp),by rw[h4];simp only[List.map_cons,List.map_nil,zeD,zfM,zgk,ztU];omega⟩
 ·rintro done x rest ⟨o1,l1⟩ H1 J hd hlt hlt2 ⟨h2,h3,h4⟩ hJ
  simp only at h2 h3 h4
  have hl1:l1.length≤l.length+1:=by rw[h4];simp only[Al5,List.length_map];have:=congrArg List.length hd;simp at this;omega
  have hg:([[AV.str m]]:List (List AV)).getD done.length []=[.str x]:=by
   have:([m].map fun k=>[AV.str k]).getD done.length []=[.str x]:=yQ hd
   exact this
  have hkl1:=yz l1
  have hc:=h2.cell
  have hlt1:((done.length:Int)<1)=True:=eq_true (by simpa using hlt)
  have hdl:done.length<1:=by simpa using hlt2
  simp(disch:=omega) only[hlt1,hg,hc,go_sem]
  refine zw (by rw[hkl1];exact h2.own) (by simp only[hkl1,Al2,Al3];omega) (by simp only[hkl1,Al2,Al3,maxLen];omega) fun o2 H2 hs2=>?_
  obtain⟨g1,g2,g3⟩:=h2.app (ts:=[pk x]) hs2 (by simp[hkl1])
  have ek:cKs l1++[[AV.int .i64 1,AV.str x]]=cKs (l1++[pk x]):=zaM l1 (pk x)
  simp(disch:=omega) only[g1,ek,wrap64,go_sem]
  exact goJ (hJ (o2,l1++[pk x]) _ ⟨g2,h3.trans h2.cell g3,by rw[h4];simp⟩) (by simp(disch:=omega) only[go_sem])
theorem zoR (v:Val) (hw:wfV v) (hv:4*bV v≤Lim) (fixed:Bool):YC 222 [.agg (cV v),.bool fixed] (4*bV v) (64*bV v) 0 32 (fun dp=>zZ dp fixed v) (Yg v):=by
 intro H w o l ok dp h h0 h1 hb
 have hvb:bV v≤Lim:=by simp only[Lim] at hv ⊢;omega
 have htl:(Yw v).length≤4*bV v:=by
  have:=zc4 v
  rw[zbD];split
  ·omega
  ·simp
 have hwl:wT (Yw v)≤64*bV v:=by
  have:=zpi v hw
  rw[zbD];split
  ·omega
  ·simp[wT]
 have hkt:=yz (Yw v)
 have hdv:=zc7 v
 have hvl:=za4 v []
 have hcv:=zM (Zn v [])
 simp only[Lim] at hb hv
 refine zj.go ir222 ck222 (Al4 _) fun KP Q hQ=>?_
 have hc:=h.cell
 have fin:∀(b:Bool),b=zZ dp fixed v→∀(H2:zb) (o2:Own) (l2:List Tok),WAt H2 w o2 l2 (ok&&b) dp→WStep H o w H2 o2→l2.length≤l.length+0→((ok&&b)=true→l2=l++[])→wT l2≤wT l+0 →
   ∀(H3:zb) (o3:Own),OwnS H2 o2 H3 o3 ((cKs l2).length+(cKs (Yw v)).length) 2 →
   H3 w=some (.cells [.sl o2 2 (cKs l2),.bool (ok&&b),.int .i64 dp])∧∃ o' l',WAt (H3.upd w (.cells [.sl o3 2 (cKs l2++cKs (Yw v)),.bool (ok&&b),.int .i64 dp])) w o' l' (ok&&zZ dp fixed v) dp ∧
    WStep H o w (H3.upd w (.cells [.sl o3 2 (cKs l2++cKs (Yw v)),.bool (ok&&b),.int .i64 dp])) o'∧l'.length≤l.length+4*bV v∧((ok&&zZ dp fixed v)=true→l'=l++Yg v)∧wT l'≤wT l+64*bV v:=by
  intro b hbr H2 o2 l2 h2 h3 h4 h5 h6 H3 o3 hs
  obtain⟨g1,g2,g3⟩:=h2.app (ts:=Yw v) hs (by simp[yz])
  rw[zf8] at g2 g3
  refine⟨g1,o3,l2++Yw v,by rw[← hbr];exact g2,h3.trans h2.cell g3,by simp only[Al5];omega,fun e=>?_,by simp only[zeD];omega⟩
  rw[← hbr] at e
  have er:zZ dp fixed v=true:=by rw[← hbr];simp only[Al0] at e;exact e.2
  have ep:zaA v=true:=by simp only[zZ,Al0] at er;exact er.1
  rw[h5 e,zbD,ep];simp
 have d1:IntKind.wrap .i64 (dp+Zx v)=dp+Zx v:=wrap64 (by omega) (by omega)
 cases hp:zaA v with
 | false =>
  have hbr:false=zZ dp fixed v:=by simp[zZ,hp]
  simp(disch:=omega) only[zq,zl,zg,zp,zm,zh,zu,ir222,go_sem]
  refine za (zbn v hw hv) ?_
  simp(disch:=omega) only[hp,go_sem]
  refine zcE (Zw _) h (by omega) (by omega) (by simp only[Lim];omega) fun o2 l2 H2 h2 h3 h4 h5 h6=>?_
  have hk2:=yz l2
  have hc2:=h2.cell
  simp(disch:=omega) only[hc2,go_sem]
  refine zw (by rw[hk2];exact h2.own) (by rw[hk2,hkt];omega) (by rw[hk2,hkt];simp only[maxLen];omega) fun o3 H3 hs3=>?_
  obtain⟨g1,g2⟩:=fin _ hbr H2 o2 l2 h2 h3 h4 h5 h6 H3 o3 hs3
  simp(disch:=omega) only[g1,ZV,go_sem]
  exact hQ _ _ _ _ [] nofun rfl (Low.refl _) ⟨rfl,g2⟩
 | true =>
  by_cases hd:dp+Zx v≤16
  case neg =>
   have hbr:false=zZ dp fixed v:=by simp[zZ,hd]
   simp(disch:=omega) only[zq,zl,zg,zp,zm,zh,zu,ir222,go_sem]
   refine za (zbn v hw hv) ?_
   simp(disch:=omega) only[zq,zl,zg,zp,zm,zh,zu,hp,hc,go_sem]
   refine za (zdS v hvb) ?_
   simp(disch:=omega) only[zq,zl,zg,zp,zm,zh,zu,d1,hd,hc,go_sem]
   refine zcE (Zw _) h (by omega) (by omega) (by simp only[Lim];omega) fun o2 l2 H2 h2 h3 h4 h5 h6=>?_
   have hk2:=yz l2
   have hc2:=h2.cell
   simp(disch:=omega) only[hc2,go_sem]
   refine zw (by rw[hk2];exact h2.own) (by rw[hk2,hkt];omega) (by rw[hk2,hkt];simp only[maxLen];omega) fun o3 H3 hs3=>?_
   obtain⟨g1,g2⟩:=fin _ hbr H2 o2 l2 h2 h3 h4 h5 h6 H3 o3 hs3
   simp(disch:=omega) only[g1,ZV,go_sem]
   exact hQ _ _ _ _ [] nofun rfl (Low.refl _) ⟨rfl,g2⟩
  cases fixed with
  | false =>
   have hbr:true=zZ dp false v:=by simp[zZ,hd,hp]
   simp(disch:=omega) only[zq,zl,zg,zp,zm,zh,zu,ir222,go_sem]
   refine za (zbn v hw hv) ?_
   simp(disch:=omega) only[zq,zl,zg,zp,zm,zh,zu,hp,hc,go_sem]
   refine za (zdS v hvb) ?_
   simp(disch:=omega) only[zq,zl,zg,zp,zm,zh,zu,d1,hd,hc,go_sem]
   refine zcE (Zw _) h (by omega) (by omega) (by simp only[Lim];omega) fun o2 l2 H2 h2 h3 h4 h5 h6=>?_
   have hk2:=yz l2
   have hc2:=h2.cell
   simp(disch:=omega) only[hc2,go_sem]
   refine zw (by rw[hk2];exact h2.own) (by rw[hk2,hkt];omega) (by rw[hk2,hkt];simp only[maxLen];omega) fun o3 H3 hs3=>?_
   obtain⟨g1,g2⟩:=fin _ hbr H2 o2 l2 h2 h3 h4 h5 h6 H3 o3 hs3
   simp(disch:=omega) only[g1,ZV,go_sem]
   exact hQ _ _ _ _ [] nofun rfl (Low.refl _) ⟨rfl,g2⟩
  | true =>
   simp(disch:=omega) only[zq,zl,zg,zp,zm,zh,zu,ir222,go_sem]
   refine za (zbn v hw hv) ?_
   simp(disch:=omega) only[zq,zl,zg,zp,zm,zh,zu,hp,hc,go_sem]
   refine za (zdS v hvb) ?_
   simp(disch:=omega) only[zq,zl,zg,zp,zm,zh,zu,d1,hd,hc,go_sem]
   refine za (zkt v hvb) ?_
   by_cases hz:(Zn v []).length=0
   ·have hbr:true=zZ dp true v:=by simp[zZ,hd,hp,hz]
    have hz':¬ ((0:Int)<(Zn v []).length):=by omega
    simp(disch:=omega) only[zq,zl,zg,zp,zm,zh,zu,hcv,hz',go_sem]
    refine zcE (Zw _) h (by omega) (by omega) (by simp only[Lim];omega) fun o2 l2 H2 h2 h3 h4 h5 h6=>?_
    have hk2:=yz l2
    have hc2:=h2.cell
    simp(disch:=omega) only[hc2,go_sem]
    refine zw (by rw[hk2];exact h2.own) (by rw[hk2,hkt];omega) (by rw[hk2,hkt];simp only[maxLen];omega) fun o3 H3 hs3=>?_
    obtain⟨g1,g2⟩:=fin _ hbr H2 o2 l2 h2 h3 h4 h5 h6 H3 o3 hs3
    simp(disch:=omega) only[g1,ZV,go_sem]
    exact hQ _ _ _ _ [] nofun rfl (Low.refl _) ⟨rfl,g2⟩
   ·have hbr:false=zZ dp true v:=by simp[zZ,hd,hp,hz]
    have hz':((0:Int)<(Zn v []).length)=True:=eq_true (by omega)
    simp(disch:=omega) only[zq,zl,zg,zp,zm,zh,zu,hcv,hz',go_sem]
    refine zcE (Zw _) h (by omega) (by omega) (by simp only[Lim];omega) fun o2 l2 H2 h2 h3 h4 h5 h6=>?_
    have hk2:=yz l2
    have hc2:=h2.cell
    simp(disch:=omega) only[hc2,go_sem]
    refine zw (by rw[hk2];exact h2.own) (by rw[hk2,hkt];omega) (by rw[hk2,hkt];simp only[maxLen];omega) fun o3 H3 hs3=>?_
    obtain⟨g1,g2⟩:=fin _ hbr H2 o2 l2 h2 h3 h4 h5 h6 H3 o3 hs3
    simp(disch:=omega) only[g1,ZV,go_sem]
    exact hQ _ _ _ _ [] nofun rfl (Low.refl _) ⟨rfl,g2⟩
theorem zpk (t:TyD) (hs:t.nm.length≤Lim):YC 191 [.agg (cTy t)] 20 (200+t.nm.length) (-1000) 1000 (fun _=>zI t) (tTy t):=by
 intro H w o l ok dp h h0 h1 hb
 have hb0:=hb
 simp only[Lim] at hb
 refine zj.go ir191 ck191 (Al4 _) fun KP Q hQ=>?_
 obtain⟨nm,ls,ms⟩:=t
 simp only at hs
 have et:cTy ⟨nm,ls,ms⟩=[.str nm,.int .i64 ls,.int .i64 ms]:=rfl
 simp(disch:=omega) only[ir191,et,steps,st2,pev,rev,oev,yh,yp,yC,yB,bound,zP,mm2,mk,zx,AV.cells,AV.boxable,AV.one,AV.strip1,AV.strip2,zO,zK,Nat.reduceEqDiff,reduceCtorEq,↓reduceIte,Nat.reduceAdd,Int.reduceNeg,Nat.reduceLeDiff,Int.reduceToNat,Int.reduceEq,Int.reduceLT,Int.reduceLE,Int.reduceAdd,Io,Im,If,Il,Jt,Jf,AC.rg,Jm,Jl,Ja,Fm,Fl,Fa,Imv,Imb,Iai,Iei,Igi,Isi,Ipf,Ipt,Ilb,Iia,Ilt,Iap,Ink,Iln,Ils,Iad,Iex,Ibx,Ing]
 refine za (show zi Tryz.prog 199 [.agg [.str nm,.int .i64 ls,.int .i64 ms]] (.bool (zI ⟨nm,ls,ms⟩)) from YO ⟨nm,ls,ms⟩ hs) ?_
 simp(disch:=omega) only[steps,st2,pev,rev,oev,yh,yp,yC,yB,bound,zP,mm2,mk,zx,AV.cells,AV.boxable,AV.one,AV.strip1,AV.strip2,zO,zK,Nat.reduceEqDiff,reduceCtorEq,↓reduceIte,Nat.reduceAdd,Int.reduceNeg,Nat.reduceLeDiff,Int.reduceToNat,Int.reduceEq,Int.reduceLT,Int.reduceLE,Int.reduceAdd]
 refine zcE (Zw _) h (by omega) (by omega) (by simp only[Lim];omega) fun o2 l2 H2 h2 h3 h4 h5 h60=>?_
 have hc2:=h2.cell
 cases hok:ok&&zI ⟨nm,ls,ms⟩ with
 | false =>
  rw[hok] at h2 hc2
  simp(disch:=omega) only[hc2,steps,st2,pev,rev,oev,yh,yp,yC,yB,bound,zP,mm2,mk,zx,AV.cells,AV.boxable,AV.one,AV.strip1,AV.strip2,zO,zK,Nat.reduceEqDiff,reduceCtorEq,↓reduceIte,Nat.reduceAdd,Int.reduceNeg,Nat.reduceLeDiff,Int.reduceToNat,Int.reduceEq,Int.reduceLT,Int.reduceLE,Int.reduceAdd]
  exact hQ _ _ H2 H2 [] nofun rfl (Low.refl _) ⟨rfl,o2,l2,by rw[hok];exact h2,h3,by omega,(fun e=>by rw[hok] at e;cases e),by simp only;omega⟩
 | true =>
  rw[hok] at h2 hc2 h5
  have e2:l2=l:=by have:=h5 rfl;simpa using this
  subst e2
  have hrt:zI ⟨nm,ls,ms⟩=true:=by simp only[Al0] at hok;exact hok.2
  have hok1:ok=true:=by simp only[Al0] at hok;exact hok.1
  simp only[zI,Al0,yw] at hrt
  obtain⟨hnm,r1,r2,r3,r4⟩:=hrt
  obtain⟨n,rfl⟩:∃ n:Nat,ls=(n:Int):=⟨ls.toNat,by omega⟩
  have en:(n:Int).toNat=n:=by omega
  rw[en] at r4
  have hn4:n≤4:=by omega
  have hms:ms<64:=by
   have:(2:Int) ^ (n+1)≤2 ^ 5:=by exact_mod_cast Nat.pow_le_pow_right (by decide) (by omega:n+1≤5)
   omega
  have w0:=YR.refl h2
  simp(disch:=omega) only[hc2,steps,st2,pev,rev,oev,yh,yp,yC,yB,bound,zP,mm2,mk,zx,AV.cells,AV.boxable,AV.one,AV.strip1,AV.strip2,zO,zK,Nat.reduceEqDiff,reduceCtorEq,↓reduceIte,Nat.reduceAdd,Int.reduceNeg,Nat.reduceLeDiff,Int.reduceToNat,Int.reduceEq,Int.reduceLT,Int.reduceLE,Int.reduceAdd]
  refine zbp (fun x:Nat×Own×List Tok=>[(16,.int .i64 x.1)]) (fun x H'=>x.1≤n∧YR H2 o2 w l2 true dp x.1 (5*x.1) true (List.replicate x.1 (pk [91])) H' x.2.1 x.2.2) (fun x=>n-x.1) (0,o2,l2) (by simp(disch:=omega) only[steps,st2,pev,rev,oev,yh,yp,yC,yB,bound,zP,mm2,mk,zx,AV.cells,AV.boxable,AV.one,AV.strip1,AV.strip2,zO,zK,Nat.reduceEqDiff,reduceCtorEq,↓reduceIte,Nat.reduceAdd,Int.reduceNeg,Nat.reduceLeDiff,Int.reduceToNat,Int.reduceEq,Int.reduceLT,Int.reduceLE,Int.reduceAdd]) ⟨by simp,w0⟩ ?_
  rintro⟨i,o3,l3⟩ H3 J ⟨hi,w3⟩ hJ
  simp only at hi w3
  by_cases hlt:i<n
  ·have hlt':((i:Int)<n)=True:=eq_true (by omega)
   simp(disch:=omega) only[hlt',steps,st2,pev,rev,oev,yh,yp,yC,yB,bound,zP,mm2,mk,zx,AV.cells,AV.boxable,AV.one,AV.strip1,AV.strip2,zO,zK,Nat.reduceEqDiff,reduceCtorEq,↓reduceIte,Nat.reduceAdd,Int.reduceNeg,Nat.reduceLeDiff,Int.reduceToNat,Int.reduceEq,Int.reduceLT,Int.reduceLE,Int.reduceAdd]
   refine zv (yI [91] _) w3 (by omega) (by omega) (by simp only[Lim];omega) fun o4 l4 H4 w4 _=>?_
   simp(disch:=omega) only[wrap64,steps,st2,pev,rev,oev,yh,yp,yC,yB,bound,zP,mm2,mk,zx,AV.cells,AV.boxable,AV.one,AV.strip1,AV.strip2,zO,zK,Nat.reduceEqDiff,reduceCtorEq,↓reduceIte,Nat.reduceAdd,Int.reduceNeg,Nat.reduceLeDiff,Int.reduceToNat,Int.reduceEq,Int.reduceLT,Int.reduceLE,Int.reduceAdd]
   exact goJ (hJ (i+1,o4,l4) H4 (by simp only;omega) ⟨by simp only;omega,w4.cast (Al4 _) (by (try simp only[Al2,Al3]);omega) rfl (by rw[List.replicate_succ'])⟩) (by simp(disch:=omega) only[Int.natCast_add,steps,st2,pev,rev,oev,yh,yp,yC,yB,bound,zP,mm2,mk,zx,AV.cells,AV.boxable,AV.one,AV.strip1,AV.strip2,zO,zK,Nat.reduceEqDiff,reduceCtorEq,↓reduceIte,Nat.reduceAdd,Int.reduceNeg,Nat.reduceLeDiff,Int.reduceToNat,Int.reduceEq,Int.reduceLT,Int.reduceLE,Int.reduceAdd])
  ·have hlt':¬ ((i:Int)<n):=by omega
   obtain rfl:i=n:=by omega
   simp(disch:=omega) only[hlt',steps,st2,pev,rev,oev,yh,yp,yC,yB,bound,zP,mm2,mk,zx,AV.cells,AV.boxable,AV.one,AV.strip1,AV.strip2,zO,zK,Nat.reduceEqDiff,reduceCtorEq,↓reduceIte,Nat.reduceAdd,Int.reduceNeg,Nat.reduceLeDiff,Int.reduceToNat,Int.reduceEq,Int.reduceLT,Int.reduceLE,Int.reduceAdd]
   refine zv (yy nm hs) w3 (by omega) (by omega) (by simp only[Lim];omega) fun o4 l4 H4 w4 _=>?_
   rw[hnm] at w4
   simp(disch:=omega) only[steps,st2,pev,rev,oev,yh,yp,yC,yB,bound,zP,mm2,mk,zx,AV.cells,AV.boxable,AV.one,AV.strip1,AV.strip2,zO,zK,Nat.reduceEqDiff,reduceCtorEq,↓reduceIte,Nat.reduceAdd,Int.reduceNeg,Nat.reduceLeDiff,Int.reduceToNat,Int.reduceEq,Int.reduceLT,Int.reduceLE,Int.reduceAdd]
   refine zbp (fun x:Nat×Own×List Tok×Nat×List Tok=>[(4,.int .i64 ((x.1:Int)-1))]) (fun x H'=>x.1≤i+1∧x.2.2.2.1+2*x.1≤19∧x.2.2.2.2++zbV i ms x.1=tTy ⟨nm,i,ms⟩∧YR H2 o2 w l2 true dp x.2.2.2.1 (nm.length+5*x.2.2.2.1) true x.2.2.2.2 H' x.2.1 x.2.2.1) (fun x=>x.1)
    (i+1,o4,l4,i+1,List.replicate i (pk [91])++[wk nm]) (by simp(disch:=omega) only[Int.natCast_add,Int.add_sub_cancel,steps,st2,pev,rev,oev,yh,yp,yC,yB,bound,zP,mm2,mk,zx,AV.cells,AV.boxable,AV.one,AV.strip1,AV.strip2,zO,zK,Nat.reduceEqDiff,reduceCtorEq,↓reduceIte,Nat.reduceAdd,Int.reduceNeg,Nat.reduceLeDiff,Int.reduceToNat,Int.reduceEq,Int.reduceLT,Int.reduceLE,Int.reduceAdd]) ⟨by simp,by simp only;omega,by simp only[tTy,en,zeJ];simp,w4.cast (Al4 _) (by (try simp only);omega) rfl rfl⟩ ?_
   rintro⟨k,o5,l5,B,tk⟩ H5 J5 ⟨hk,hB,htk,w5⟩ hJ5
   simp only at hk hB htk w5
   cases k with
   | zero =>
    have hz:¬ ((0:Int)≤-1):=by omega
    have w6:=w5.after h3 h2.cell
    simp only[zbV,List.append_nil] at htk
    simp(disch:=omega) only[hz,Int.reduceSub,steps,st2,pev,rev,oev,yh,yp,yC,yB,bound,zP,mm2,mk,zx,AV.cells,AV.boxable,AV.one,AV.strip1,AV.strip2,zO,zK,Nat.reduceEqDiff,reduceCtorEq,↓reduceIte,Nat.reduceAdd,Int.reduceNeg,Nat.reduceLeDiff,Int.reduceToNat,Int.reduceEq,Int.reduceLT,Int.reduceLE,Int.reduceAdd]
    refine hQ _ _ H5 H5 [] nofun rfl (Low.refl _) ⟨rfl,?_⟩
    obtain⟨o',l',g1,g2,g3,g4,g5⟩:=w6.fin (B':=20) (W':=200+nm.length) rfl (fun _=>htk) (by omega) (by omega)
    rw[hok]
    exact⟨o',l',by simpa using g1,g2,by omega,(fun _=>by simpa using g4 rfl),g5⟩
   | succ j =>
    have e0:((j+1:Nat):Int)-1=(j:Int):=by omega
    have hz:((0:Int)≤j)=True:=eq_true (by omega)
    have hbit:=zjp ms j (by omega)
    have hq0:0≤ms / 2 ^ j:=Int.ediv_nonneg r3 (by exact_mod_cast Nat.zero_le _)
    have hq1:ms / 2 ^ j<64:=by
     have:ms / 2 ^ j≤ms:=Int.ediv_le_self _ r3
     omega
    have ha:=and1 hq0 hq1
    have hj0:¬ ((j:Int)<0):=by omega
    simp only[zbV,znQ] at htk
    by_cases hji:j<i
    ·have hji':((j:Int)<i)=True:=eq_true (by omega)
     rw[if_pos hji] at htk
     simp(disch:=omega) only[e0,hz,hji',steps,st2,pev,rev,oev,yh,yp,yC,yB,bound,zP,mm2,mk,zx,AV.cells,AV.boxable,AV.one,AV.strip1,AV.strip2,zO,zK,Nat.reduceEqDiff,reduceCtorEq,↓reduceIte,Nat.reduceAdd,Int.reduceNeg,Nat.reduceLeDiff,Int.reduceToNat,Int.reduceEq,Int.reduceLT,Int.reduceLE,Int.reduceAdd]
     refine zv (yI [93] _) w5 (by omega) (by omega) (by simp only[Lim];omega) fun o6 l6 H6 w6 _=>?_
     by_cases hbt:ms / 2 ^ j % 2=1
     ·have hbb:zcw ms j=true:=by simp[zcw,hbt]
      rw[hbb] at htk
      simp(disch:=omega) only[hbit,hj0,ha,hbt,steps,st2,pev,rev,oev,yh,yp,yC,yB,bound,zP,mm2,mk,zx,AV.cells,AV.boxable,AV.one,AV.strip1,AV.strip2,zO,zK,Nat.reduceEqDiff,reduceCtorEq,↓reduceIte,Nat.reduceAdd,Int.reduceNeg,Nat.reduceLeDiff,Int.reduceToNat,Int.reduceEq,Int.reduceLT,Int.reduceLE,Int.reduceAdd]
      refine zv (yI [33] _) w6 (by omega) (by omega) (by simp only[Lim];omega) fun o7 l7 H7 w7 _=>?_
      simp(disch:=omega) only[wrap64,steps,st2,pev,rev,oev,yh,yp,yC,yB,bound,zP,mm2,mk,zx,AV.cells,AV.boxable,AV.one,AV.strip1,AV.strip2,zO,zK,Nat.reduceEqDiff,reduceCtorEq,↓reduceIte,Nat.reduceAdd,Int.reduceNeg,Nat.reduceLeDiff,Int.reduceToNat,Int.reduceEq,Int.reduceLT,Int.reduceLE,Int.reduceAdd]
      exact goJ (hJ5 (j,o7,l7,B+1+1,tk++[pk [93]]++[pk [33]]) H7 (Nat.lt_succ_self j) ⟨by simp only;omega,by simp only;omega,by rw[← htk];simp,w7.cast (Al4 _) (by (try simp only[Al2,Al3]);omega) rfl rfl⟩) (by simp(disch:=omega) only[steps,st2,pev,rev,oev,yh,yp,yC,yB,bound,zP,mm2,mk,zx,AV.cells,AV.boxable,AV.one,AV.strip1,AV.strip2,zO,zK,Nat.reduceEqDiff,reduceCtorEq,↓reduceIte,Nat.reduceAdd,Int.reduceNeg,Nat.reduceLeDiff,Int.reduceToNat,Int.reduceEq,Int.reduceLT,Int.reduceLE,Int.reduceAdd])
     ·have hbb:zcw ms j=false:=by simp[zcw,hbt]
      rw[hbb] at htk
      simp(disch:=omega) only[hbit,hj0,ha,hbt,wrap64,steps,st2,pev,rev,oev,yh,yp,yC,yB,bound,zP,mm2,mk,zx,AV.cells,AV.boxable,AV.one,AV.strip1,AV.strip2,zO,zK,Nat.reduceEqDiff,reduceCtorEq,↓reduceIte,Nat.reduceAdd,Int.reduceNeg,Nat.reduceLeDiff,Int.reduceToNat,Int.reduceEq,Int.reduceLT,Int.reduceLE,Int.reduceAdd]
      exact goJ (hJ5 (j,o6,l6,B+1,tk++[pk [93]]) H6 (Nat.lt_succ_self j) ⟨by simp only;omega,by simp only;omega,by rw[← htk];simp,w6.cast (Al4 _) (by (try simp only[Al2,Al3]);omega) rfl rfl⟩) (by simp(disch:=omega) only[steps,st2,pev,rev,oev,yh,yp,yC,yB,bound,zP,mm2,mk,zx,AV.cells,AV.boxable,AV.one,AV.strip1,AV.strip2,zO,zK,Nat.reduceEqDiff,reduceCtorEq,↓reduceIte,Nat.reduceAdd,Int.reduceNeg,Nat.reduceLeDiff,Int.reduceToNat,Int.reduceEq,Int.reduceLT,Int.reduceLE,Int.reduceAdd])
    ·have hji':¬ ((j:Int)<i):=by omega
     rw[if_neg hji] at htk
     by_cases hbt:ms / 2 ^ j % 2=1
     ·have hbb:zcw ms j=true:=by simp[zcw,hbt]
      rw[hbb] at htk
      simp(disch:=omega) only[e0,hz,hji',hbit,hj0,ha,hbt,steps,st2,pev,rev,oev,yh,yp,yC,yB,bound,zP,mm2,mk,zx,AV.cells,AV.boxable,AV.one,AV.strip1,AV.strip2,zO,zK,Nat.reduceEqDiff,reduceCtorEq,↓reduceIte,Nat.reduceAdd,Int.reduceNeg,Nat.reduceLeDiff,Int.reduceToNat,Int.reduceEq,Int.reduceLT,Int.reduceLE,Int.reduceAdd]
      refine zv (yI [33] _) w5 (by omega) (by omega) (by simp only[Lim];omega) fun o7 l7 H7 w7 _=>?_
      simp(disch:=omega) only[wrap64,steps,st2,pev,rev,oev,yh,yp,yC,yB,bound,zP,mm2,mk,zx,AV.cells,AV.boxable,AV.one,AV.strip1,AV.strip2,zO,zK,Nat.reduceEqDiff,reduceCtorEq,↓reduceIte,Nat.reduceAdd,Int.reduceNeg,Nat.reduceLeDiff,Int.reduceToNat,Int.reduceEq,Int.reduceLT,Int.reduceLE,Int.reduceAdd]
      exact goJ (hJ5 (j,o7,l7,B+1,tk++[pk [33]]) H7 (Nat.lt_succ_self j) ⟨by simp only;omega,by simp only;omega,by rw[← htk];simp,w7.cast (Al4 _) (by (try simp only[Al2,Al3]);omega) rfl rfl⟩) (by simp(disch:=omega) only[steps,st2,pev,rev,oev,yh,yp,yC,yB,bound,zP,mm2,mk,zx,AV.cells,AV.boxable,AV.one,AV.strip1,AV.strip2,zO,zK,Nat.reduceEqDiff,reduceCtorEq,↓reduceIte,Nat.reduceAdd,Int.reduceNeg,Nat.reduceLeDiff,Int.reduceToNat,Int.reduceEq,Int.reduceLT,Int.reduceLE,Int.reduceAdd])
     ·have hbb:zcw ms j=false:=by simp[zcw,hbt]
      rw[hbb] at htk
      simp(disch:=omega) only[e0,hz,hji',hbit,hj0,ha,hbt,wrap64,steps,st2,pev,rev,oev,yh,yp,yC,yB,bound,zP,mm2,mk,zx,AV.cells,AV.boxable,AV.one,AV.strip1,AV.strip2,zO,zK,Nat.reduceEqDiff,reduceCtorEq,↓reduceIte,Nat.reduceAdd,Int.reduceNeg,Nat.reduceLeDiff,Int.reduceToNat,Int.reduceEq,Int.reduceLT,Int.reduceLE,Int.reduceAdd]
      exact goJ (hJ5 (j,o5,l5,B,tk) H5 (Nat.lt_succ_self j) ⟨by simp only;omega,by simp only;omega,by rw[← htk];simp,w5⟩) (by simp(disch:=omega) only[steps,st2,pev,rev,oev,yh,yp,yC,yB,bound,zP,mm2,mk,zx,AV.cells,AV.boxable,AV.one,AV.strip1,AV.strip2,zO,zK,Nat.reduceEqDiff,reduceCtorEq,↓reduceIte,Nat.reduceAdd,Int.reduceNeg,Nat.reduceLeDiff,Int.reduceToNat,Int.reduceEq,Int.reduceLT,Int.reduceLE,Int.reduceAdd])
theorem znE (has:Bool) (v:Val) (hw:wfV v) (hv:4*bV v≤Lim):YC 192 [.bool has,.agg (cV v)] (1+4*bV v) (5+64*bV v) 0 32 (fun dp=>if has then zZ dp true v else eqd v zV) (tDf has v):=by
 intro H w o l ok dp h h0 h1 hb
 have hvb:bV v≤Lim:=by simp only[Lim] at hv ⊢;omega
 refine zj.go ir192 ck192 (Al4 _) fun KP Q hQ=>?_
 have w0:=YR.refl h
 cases has with
 | false =>
  simp(disch:=omega) only[zq,zl,zg,zp,zm,zh,zu,ir192,go_sem]
  refine za (zi.low (r:=.bool (eqd v zV)) (by
   have:=znC v hvb zV
   simpa[AV.strip,zgn,zmq,AV.strip1] using this)) ?_
  simp(disch:=omega) only[go_sem]
  refine zv (Zw _) w0 (by omega) (by omega) (by omega) fun o2 l2 H2 w2 _=>?_
  simp(disch:=omega) only[go_sem]
  exact hQ _ _ H2 H2 [] nofun rfl (Low.refl _) ⟨rfl,w2.fin (by simp) (fun _=>by simp[tDf]) (by omega) (by (try simp only[Al2,Al3]);omega)⟩
 | true =>
  simp(disch:=omega) only[zq,zl,zg,zp,zm,zh,zu,ir192,go_sem]
  refine zv (yI [61] _) w0 (by omega) (by omega) (by omega) fun o2 l2 H2 w2 _=>?_
  simp(disch:=omega) only[zq,zl,zg,zp,zm,zh,zu,go_sem]
  refine zv (zoR v hw hv true) w2 (by omega) (by omega) (by omega) fun o3 l3 H3 w3 _=>?_
  simp(disch:=omega) only[go_sem]
  exact hQ _ _ H3 H3 [] nofun rfl (Low.refl _) ⟨rfl,w3.fin (by simp) (fun _=>by simp[tDf]) (by omega) (by (try simp only[Al2,Al3]);omega)⟩
theorem zum (fixed:Bool) (m:List Mem) (hw:zfB m) (hm:8*bMs m≤Lim):YC 223 [.bool fixed,.sl .no 6 (cMs m)] (2+6*bMs m) (10+80*bMs m) 0 32 (fun dp=>YI dp fixed m) (zf4 m):=by
 intro H w o l ok dp h h0 h1 hb
 have hml:=y9 m
 have hcl:=y0 m
 refine zj.go ir223 ck223 (Al4 _) fun KP Q hQ=>?_
 have w0:=YR.refl h
 by_cases hz:m.length=0
 ·have hz':((m.length:Int)=0)=True:=eq_true (by omega)
  simp(disch:=omega) only[ir223,hcl,hz',go_sem]
  have em:=zfs.1 hz
  subst em
  exact hQ _ _ H H [] nofun rfl (Low.refl _) ⟨rfl,w0.fin rfl (fun _=>rfl) (by omega) (by omega)⟩
 ·have hz':¬ ((m.length:Int)=0):=by omega
  simp(disch:=omega) only[ir223,hcl,hz',go_sem]
  refine zv (yI [40] _) w0 (by omega) (by omega) (by omega) fun o2 l2 H2 w2 _=>?_
  simp(disch:=omega) only[hcl,go_sem]
  refine zf m 16 (fun x:Own×List Tok=>[]) (fun done rest x H'=>YR H o w l ok dp (1+6*bMs done) (5+80*bMs done) (YI dp fixed done) (pk [40]::Z9 done) H' x.1 x.2) (o2,l2) (by simp(disch:=omega) only[go_sem]) (w2.cast (by omega) (by simp[bMs]) rfl rfl) ?_ ?_
  ·rintro⟨o3,l3⟩ H3 J w3 hlt
   simp only at w3
   simp(disch:=omega) only[hcl,hlt,go_sem]
   refine zv (yI [41] _) w3 (by omega) (by omega) (by omega) fun o4 l4 H4 w4 _=>?_
   simp(disch:=omega) only[go_sem]
   exact hQ _ _ H4 H4 [] nofun rfl (Low.refl _) ⟨rfl,w4.fin (by simp) (fun _=>by unfold zf4;rw[if_neg hz];rfl) (by omega) (by (try simp only[Al2,Al3]);omega)⟩
  ·rintro done x rest ⟨o3,l3⟩ H3 J hd hlt hlt2 w3 hJ
   simp only at w3
   have hg:=Zu hd
   have hbm:=zad done x rest
   rw[← hd] at hbm
   have hmem:x∈m:=by rw[hd];simp
   obtain⟨s,v⟩:=x
   have hwv:=zd3 hw s v hmem
   have hvp:=YY v
   simp only[bM] at hbm
   have hm':=hm
   simp only[Lim] at hm'
   have hbw:b0 w=b0 w:=rfl
   simp(disch:=omega) only[zq,zl,zg,zp,zm,zh,zu,hcl,hlt,hg,go_sem]
   refine zc fun b hb=>?_
   have hbw:b≠w:=fun e=>by subst e;rw[w3.here.cell] at hb;cases hb
   have w4:=w3.alloc (x:=.cells (.str s::cV v)) hb
   have hbc:(H3.upd b (.cells (.str s::cV v))) b=some (.cells (.str s::cV v)):=upd_same ..
   simp(disch:=omega) only[zq,zl,zg,zp,zm,zh,zu,go_sem]
   refine zv (yy s (by simp only[Lim];omega)) w4 (by omega) (by omega) (by omega) fun o5 l5 H5 w5 s5=>?_
   have hb5:=s5.box w4.here.own hbc hbw
   simp(disch:=omega) only[zq,zl,zg,zp,zm,zh,zu,hb5,go_sem]
   refine zv (yI [58] _) w5 (by omega) (by omega) (by omega) fun o6 l6 H6 w6 s6=>?_
   have hb6:=s6.box w5.here.own hb5 hbw
   simp(disch:=omega) only[zq,zl,zg,zp,zm,zh,zu,hb6,go_sem]
   refine zv (zoR v hwv (by simp only[Lim];omega) fixed) w6 (by omega) (by omega) (by omega) fun o7 l7 H7 w7 s7=>?_
   simp(disch:=omega) only[wrap64,go_sem]
   exact goJ (hJ (o7,l7) H7 (w7.cast (by rw[zad done (.mk s v) []];simp only[bM,bMs];omega) (by rw[zad done (.mk s v) []];simp only[bM,bMs,Al2,Al3];omega) (by simp[YI,ziB,ye]) (by rw[zeW];simp[Z9,zjA,wk,pk]))) (by simp(disch:=omega) only[go_sem])
theorem zrw (fixed:Bool) (m:List DirD) (hw:zk1 m) (hm:8*bDs m≤Lim):YC 193 [.bool fixed,.sl .no 2 (cDs m)] (8*bDs m) (88*bDs m) 0 32 (fun dp=>Za dp fixed m) (tDs m):=by
 intro H w o l ok dp h h0 h1 hb
 have hml:=zai m
 have hcl:=YQ m
 have hm':=hm
 simp only[Lim] at hm'
 refine zj.go ir193 ck193 (Al4 _) fun KP Q hQ=>?_
 have w0:=YR.refl h
 simp(disch:=omega) only[ir193,hcl,go_sem]
 refine zf m 10 (fun x:Own×List Tok=>[]) (fun done rest x H'=>YR H o w l ok dp (8*bDs done) (88*bDs done) (Za dp fixed done) (tDs done) H' x.1 x.2) (o,l) (by simp(disch:=omega) only[go_sem]) (w0.cast (by omega) (by omega) rfl rfl) ?_ ?_
 ·rintro⟨o3,l3⟩ H3 J w3 hlt
  simp only at w3
  simp(disch:=omega) only[hcl,hlt,go_sem]
  exact hQ _ _ H3 H3 [] nofun rfl (Low.refl _) ⟨rfl,w3.fin rfl (fun _=>rfl) (by omega) (by omega)⟩
 ·rintro done x rest ⟨o3,l3⟩ H3 J hd hlt hlt2 w3 hJ
  simp only at w3
  have hg:=zal hd
  have hbm:=zbX done x rest
  rw[← hd] at hbm
  have hmem:x∈m:=by rw[hd];simp
  have hwx:=hw x hmem
  obtain⟨s,args⟩:=x
  have hal:=y9 args
  simp only[bD] at hbm
  have ex:cD ⟨s,args⟩=[.str s,.sl .no 6 (cMs args)]:=rfl
  rw[ex] at hg
  simp(disch:=omega) only[hcl,hlt,hg,go_sem]
  refine zc fun b hb=>?_
  have hbw:b≠w:=fun e=>by subst e;rw[w3.here.cell] at hb;cases hb
  have w4:=w3.alloc (x:=.cells [.str s,.sl .no 6 (cMs args)]) hb
  have hbc:(H3.upd b (.cells [.str s,.sl .no 6 (cMs args)])) b=some (.cells [.str s,.sl .no 6 (cMs args)]):=upd_same ..
  simp(disch:=omega) only[go_sem]
  refine zv (yI [64] _) w4 (by omega) (by omega) (by omega) fun o5 l5 H5 w5 s5=>?_
  have hb5:=s5.box w4.here.own hbc hbw
  simp(disch:=omega) only[hb5,go_sem]
  refine zv (yy s (by simp only[Lim];omega)) w5 (by omega) (by omega) (by omega) fun o6 l6 H6 w6 s6=>?_
  have hb6:=s6.box w5.here.own hb5 hbw
  simp(disch:=omega) only[hb6,go_sem]
  refine zv (zum fixed args hwx (by simp only[Lim];omega)) w6 (by omega) (by omega) (by omega) fun o7 l7 H7 w7 s7=>?_
  simp(disch:=omega) only[wrap64,go_sem]
  exact goJ (hJ (o7,l7) H7 (w7.cast (by rw[zgQ];simp only[bD];omega) (by rw[zgQ];simp only[bD,Al2,Al3];omega) (by rw[zew];simp[zfN,ye]) (by rw[zju];simp[tD]))) (by simp(disch:=omega) only[go_sem])
def ZS (f:FuncId) (args:List AV) (B W:Nat) (r:Bool) (tk:List Tok):Prop :=
 ∀(H:zb) (w:Nat) (o:Own) (l:List Tok) (ok:Bool),WAt H w o l ok 0→l.length+B≤Lim →
  zj Tryz.prog f (.agg [.ptr w 0]::args) H (zph fun v H'=>v=.tup []∧∃ o' l',WAt H' w o' l' (ok&&r) 0∧WStep H o w H' o'∧l'.length≤l.length+B∧((ok&&r)=true→l'=l++tk)∧wT l'≤wT l+W)
section
variable {KP:AV→zb→Prop} {Q:AExit→Env→zb→Prop} {st:List Fr} {ρ:Env} {H:zb} {all items:List AItem} {d:Option Nat} {R:List Chk}
theorem Yb {f:FuncId} {args:List AV} {B' W':Nat} {r':Bool} {tk':List Tok} (hc:ZS f args B' W' r' tk') {H0:zb} {o0 o:Own} {w B W:Nat} {l0 l tk:List Tok} {ok0 r:Bool} (h:YR H0 o0 w l0 ok0 0 B W r tk H o l)
  (hb:l0.length+(B+B')≤Lim) (k:∀ o' l' H',YR H0 o0 w l0 ok0 0 (B+B') (W+W') (r&&r') (tk++tk') H' o' l'→WStep H o w H' o'→goR Tryz.prog KP Q all items st R (ρ.set d (.tup [])) H') :
  goK Tryz.prog KP Q all items st d R ρ f (.agg [.ptr w 0]::args) H:=by
 have hlen:=h.len
 have hwt:=h.wt
 refine zdh (hc H w o l _ h.here (by omega)) fun v H' ⟨hv,o',l',h2,h3,h4,h5,h6⟩=>?_
 subst hv
 refine k o' l' H' ⟨by rw[← ye];exact h2,h.st.trans h.here.cell h3,by omega,fun e=>?_,by omega⟩ h3
 rw[← ye] at e
 rw[h5 e,h.eq (by simp only[Al0] at e ⊢;exact e.1),zdn]
end
theorem zfF (m:List VarD) (hw:∀ y∈m,wfW y) (hm:32*bWs m≤Lim):ZS 254 [.sl .no 10 (cWs m)] (32*bWs m) (512*bWs m) (m.all zeB) (m.flatMap tPa):=by
 intro H w o l ok h hb
 have hml:=yS m
 have hcl:=Zs m
 have hm':=hm
 simp only[Lim] at hm'
 refine zj.go ir254 ck254 (Al4 _) fun KP Q hQ=>?_
 have w0:=YR.refl h
 simp(disch:=omega) only[ir254,hcl,go_sem]
 refine zf m 8 (fun x:Own×List Tok=>[]) (fun done rest x H'=>YR H o w l ok 0 (32*bWs done) (512*bWs done) (done.all zeB) (done.flatMap tPa) H' x.1 x.2) (o,l) (by simp(disch:=omega) only[go_sem]) (w0.cast (by omega) (by omega) rfl rfl) ?_ ?_
 ·rintro⟨o3,l3⟩ H3 J w3 hlt
  simp only at w3
  simp(disch:=omega) only[hcl,hlt,go_sem]
  exact hQ _ _ H3 H3 [] nofun rfl (Low.refl _) ⟨rfl,w3.fin rfl (fun _=>rfl) (by omega) (by omega)⟩
 ·rintro done x rest ⟨o5,l5⟩ H5 J5 hd hlt hlt2 w5 hJ5
  simp only at w5
  have hg:=Zm hd
  have hbm:=zaP done x rest
  rw[← hd] at hbm
  have hwx:=hw x (by rw[hd];simp)
  obtain⟨vn,⟨tn,tl,tm⟩,vh,vd⟩:=x
  have hwvd:wfV vd:=hwx.2.2
  have hvp:=YY vd
  have hbx:bW ⟨vn,⟨tn,tl,tm⟩,vh,vd⟩=vn.length+tn.length+bV vd:=rfl
  rw[zco] at hg
  simp only at hg
  simp(disch:=omega) only[zq,zl,zg,zp,zm,zh,zu,hcl,hlt,hg,go_sem]
  refine zc fun b hb=>?_
  have hbw:b≠w:=fun e=>by subst e;rw[w5.here.cell] at hb;cases hb
  have w6:=w5.alloc (x:=.cells (.str vn::.str tn::.int .i64 tl::.int .i64 tm::.bool vh::cV vd)) hb
  have hbc:(H5.upd b (.cells (.str vn::.str tn::.int .i64 tl::.int .i64 tm::.bool vh::cV vd))) b=some (.cells (.str vn::.str tn::.int .i64 tl::.int .i64 tm::.bool vh::cV vd)):=upd_same ..
  simp(disch:=omega) only[zq,zl,zg,zp,zm,zh,zu,go_sem]
  refine zv (yy vn (by simp only[Lim];omega)) w6 (by omega) (by omega) (by omega) fun o8 l8 H8 w8 s8=>?_
  have hb8:=s8.box w6.here.own hbc hbw
  simp(disch:=omega) only[zq,zl,zg,zp,zm,zh,zu,hb8,go_sem]
  refine zv (yI [58] _) w8 (by omega) (by omega) (by omega) fun o9 l9 H9 w9 s9=>?_
  have hb9:=s9.box w8.here.own hb8 hbw
  simp(disch:=omega) only[zq,zl,zg,zp,zm,zh,zu,hb9,go_sem]
  refine zv (args:=[.agg [.str tn,.int .i64 tl,.int .i64 tm]]) (show YC _ [.agg [.str tn,.int .i64 tl,.int .i64 tm]] 20 (200+tn.length) (-1000) 1000 (fun _=>zI ⟨tn,tl,tm⟩) (tTy ⟨tn,tl,tm⟩) from zpk ⟨tn,tl,tm⟩ (by simp only[Lim];omega)) w9 (by omega) (by omega) (by omega) fun oC lC HC wC sC=>?_
  have hbC:=sC.box w9.here.own hb9 hbw
  simp(disch:=omega) only[zq,zl,zg,zp,zm,zh,zu,hbC,go_sem]
  refine zv (znE vh vd hwvd (by simp only[Lim];omega)) wC (by omega) (by omega) (by omega) fun oD lD HD wD sD=>?_
  have er:zeB ⟨vn,⟨tn,tl,tm⟩,vh,vd⟩=ZE 0 ⟨vn,⟨tn,tl,tm⟩,vh,vd⟩:=rfl
  simp(disch:=omega) only[wrap64,go_sem]
  exact goJ (hJ5 (oD,lD) HD (wD.cast (by rw[zaw];omega) (by rw[zaw];(try simp only[Al2,Al3]);omega) (by simp[er,ZE,ye]) (by simp[tPa]))) (by simp(disch:=omega) only[go_sem])
theorem zeP (m:List UInt8) (a:List (List UInt8)) (hml:m.length=1) (hm:2*bT a≤Lim):ZS 262 [.str m,.sl .no 1 (cT a)] (2*bT a) (16*bT a) (a.all zR) (tNs m a):=by
 intro H w o l ok h hb
 have hbl:=ZF a
 have hcl:=zM a
 have hm':=hm
 simp only[Lim] at hm'
 refine zj.go ir262 ck262 (Al4 _) fun KP Q hQ=>?_
 have w0:=YR.refl h
 simp(disch:=omega) only[ir262,hcl,go_sem]
 refine zf a 10 (fun x:Own×List Tok=>[]) (fun done rest x H'=>YR H o w l ok 0 (2*bT done) (16*bT done) (done.all zR) (tNs m done) H' x.1 x.2) (o,l) (by simp(disch:=omega) only[go_sem]) (w0.cast (by omega) (by omega) rfl rfl) ?_ ?_
 ·rintro⟨o3,l3⟩ H3 J w3 hlt
  simp only at w3
  simp(disch:=omega) only[hcl,hlt,go_sem]
  exact hQ _ _ H3 H3 [] nofun rfl (Low.refl _) ⟨rfl,w3.fin rfl (fun _=>rfl) (by omega) (by omega)⟩
 ·rintro done x rest ⟨o5,l5⟩ H5 J5 hd hlt hlt2 w5 hJ5
  simp only at w5
  have hg:=Z0 hd
  have hbm:=zgI done x rest
  rw[← hd] at hbm
  have hsn:=zpq m done x
  by_cases h0:done.length=0
  ·have h0':¬ ((0:Int)<(done.length:Int)):=by omega
   rw[if_pos h0] at hsn
   simp(disch:=omega) only[hcl,hlt,hg,h0',go_sem]
   refine zv (yy x (by simp only[Lim];omega)) w5 (by omega) (by omega) (by omega) fun o8 l8 H8 w8 s8=>?_
   simp(disch:=omega) only[wrap64,go_sem]
   exact goJ (hJ5 (o8,l8) H8 (w8.cast (by rw[yF];omega) (by rw[yF];omega) (by simp) (by rw[hsn]))) (by simp(disch:=omega) only[go_sem])
  ·have h0':((0:Int)<(done.length:Int))=True:=eq_true (by omega)
   rw[if_neg h0] at hsn
   simp(disch:=omega) only[hcl,hlt,hg,h0',go_sem]
   refine zv (yI m _) w5 (by omega) (by omega) (by omega) fun o6 l6 H6 w6 s6=>?_
   simp(disch:=omega) only[hcl,hlt,hg,go_sem]
   refine zv (yy x (by simp only[Lim];omega)) w6 (by omega) (by omega) (by omega) fun o8 l8 H8 w8 s8=>?_
   simp(disch:=omega) only[wrap64,go_sem]
   exact goJ (hJ5 (o8,l8) H8 (w8.cast (by rw[yF];omega) (by rw[yF];omega) (by simp) (by rw[hsn];simp))) (by simp(disch:=omega) only[go_sem])
theorem zc6 (m:List FldD) (hw:∀ y∈m,wfL y) (hm:32*bLs m≤Lim):ZS 263 [.sl .no 6 (cLs m)] (32*bLs m) (512*bLs m) (m.all zeH) (m.flatMap tL):=by
 intro H w o l ok h hb
 have hml:=YW m
 have hcl:=zaN m
 have hm':=hm
 simp only[Lim] at hm'
 refine zj.go ir263 ck263 (Al4 _) fun KP Q hQ=>?_
 have w0:=YR.refl h
 simp(disch:=omega) only[ir263,hcl,go_sem]
 refine zf m 8 (fun x:Own×List Tok=>[]) (fun done rest x H'=>YR H o w l ok 0 (32*bLs done) (512*bLs done) (done.all zeH) (done.flatMap tL) H' x.1 x.2) (o,l) (by simp(disch:=omega) only[go_sem]) (w0.cast (by omega) (by omega) rfl rfl) ?_ ?_
 ·rintro⟨o3,l3⟩ H3 J w3 hlt
  simp only at w3
  simp(disch:=omega) only[hcl,hlt,go_sem]
  exact hQ _ _ H3 H3 [] nofun rfl (Low.refl _) ⟨rfl,w3.fin rfl (fun _=>rfl) (by omega) (by omega)⟩
 ·rintro done x rest ⟨o5,l5⟩ H5 J5 hd hlt hlt2 w5 hJ5
  simp only at w5
  have hg:=zdb hd
  have hbm:=zlN done x rest
  rw[← hd] at hbm
  have hwx:=hw x (by rw[hd];simp)
  obtain⟨fn,ps,⟨tn,tl,tm⟩,dirs⟩:=x
  simp only[wfL] at hwx
  have hbx:bL ⟨fn,ps,⟨tn,tl,tm⟩,dirs⟩=1+fn.length+bWs ps+tn.length+bDs dirs:=rfl
  have hpl:=Zs ps
  have hpb:=yS ps
  rw[zaq] at hg
  simp(disch:=omega) only[hcl,hlt,hg,go_sem]
  refine zc fun b hb=>?_
  have hbw:b≠w:=fun e=>by subst e;rw[w5.here.cell] at hb;cases hb
  obtain⟨cs,hcs⟩:∃ cs,cs=[AV.str fn,.sl .no 10 (cWs ps),.str tn,.int .i64 tl,.int .i64 tm,.sl .no 2 (cDs dirs)]:=⟨_,rfl⟩
  have w6:=w5.alloc (x:=.cells cs) hb
  have hbc:(H5.upd b (.cells cs)) b=some (.cells cs):=upd_same ..
  subst hcs
  simp(disch:=omega) only[go_sem]
  refine zv (yy fn (by simp only[Lim];omega)) w6 (by omega) (by omega) (by omega) fun o8 l8 H8 w8 s8=>?_
  have hb8:=s8.box w6.here.own hbc hbw
  by_cases hp0:ps.length=0
  ·have hp0':¬ ((0:Int)<(ps.length:Int)):=by omega
   have hps:=zfs.1 hp0
   simp(disch:=omega) only[hb8,hpl,hp0',go_sem]
   refine zv (yI [58] _) w8 (by omega) (by omega) (by omega) fun oB lB HB wB sB=>?_
   have hbB:=sB.box w8.here.own hb8 hbw
   simp(disch:=omega) only[hbB,go_sem]
   refine zv (args:=[.agg [.str tn,.int .i64 tl,.int .i64 tm]]) (show YC _ [.agg [.str tn,.int .i64 tl,.int .i64 tm]] 20 (200+tn.length) (-1000) 1000 (fun _=>zI ⟨tn,tl,tm⟩) (tTy ⟨tn,tl,tm⟩) from zpk ⟨tn,tl,tm⟩ (by simp only[Lim];omega)) wB (by omega) (by omega) (by omega) fun oC lC HC wC sC=>?_
   have hbC:=sC.box wB.here.own hbB hbw
   simp(disch:=omega) only[hbC,go_sem]
   refine zv (zrw true dirs hwx.2.2.2 (by simp only[Lim];omega)) wC (by omega) (by omega) (by omega) fun oD lD HD wD sD=>?_
   simp(disch:=omega) only[wrap64,go_sem]
   exact goJ (hJ5 (oD,lD) HD (wD.cast (by rw[zex];omega) (by rw[zex];(try simp only[Al2,Al3]);omega) (by simp[zeH,hps,ye]) (by simp[tL,tPb,hps]))) (by simp(disch:=omega) only[go_sem])
  ·have hp0':((0:Int)<(ps.length:Int))=True:=eq_true (by omega)
   have hps:=hp0
   simp(disch:=omega) only[hb8,hpl,hp0',go_sem]
   refine zv (yI [40] _) w8 (by omega) (by omega) (by omega) fun o9 l9 H9 w9 s9=>?_
   have hb9:=s9.box w8.here.own hb8 hbw
   simp(disch:=omega) only[hb9,go_sem]
   refine Yb (zfF ps hwx.1 (by simp only[Lim];omega)) w9 (by omega) fun oE lE HE wE sE=>?_
   have hbE:=sE.box w9.here.own hb9 hbw
   simp(disch:=omega) only[hbE,go_sem]
   refine zv (yI [41] _) wE (by omega) (by omega) (by omega) fun oF lF HF wF sF=>?_
   have hbF:=sF.box wE.here.own hbE hbw
   simp(disch:=omega) only[hbF,go_sem]
   refine zv (yI [58] _) wF (by omega) (by omega) (by omega) fun oB lB HB wB sB=>?_
   have hbB:=sB.box wF.here.own hbF hbw
   simp(disch:=omega) only[hbB,go_sem]
   refine zv (args:=[.agg [.str tn,.int .i64 tl,.int .i64 tm]]) (show YC _ [.agg [.str tn,.int .i64 tl,.int .i64 tm]] 20 (200+tn.length) (-1000) 1000 (fun _=>zI ⟨tn,tl,tm⟩) (tTy ⟨tn,tl,tm⟩) from zpk ⟨tn,tl,tm⟩ (by simp only[Lim];omega)) wB (by omega) (by omega) (by omega) fun oC lC HC wC sC=>?_
   have hbC:=sC.box wB.here.own hbB hbw
   simp(disch:=omega) only[hbC,go_sem]
   refine zv (zrw true dirs hwx.2.2.2 (by simp only[Lim];omega)) wC (by omega) (by omega) (by omega) fun oD lD HD wD sD=>?_
   simp(disch:=omega) only[wrap64,go_sem]
   exact goJ (hJ5 (oD,lD) HD (wD.cast (by rw[zex];omega) (by rw[zex];(try simp only[Al2,Al3]);omega) (by simp[zeH,hps,ye]) (by simp[tL,tPb,hps]))) (by simp(disch:=omega) only[go_sem])
theorem zlr (wd:List UInt8) (x:DefD) (hnw:zR wd=true) (hwd:wd.length≤16) (hwx:wfE x) (hm:64*bE x≤Lim):ZS 252 [.str wd,.agg (cE x)] (64*bE x) (512*bE x) (YZ x) (zil wd x):=by
 intro H w o l ok h hb
 obtain⟨k,nm,faces,flds,parts,ps⟩:=x
 have hm':=hm
 simp only[Lim,bE] at hm'
 simp only[bE] at hb
 have h1:=ZF faces
 have h2:=YW flds
 have h3:=ZF parts
 have h4:=yS ps
 have hfc:=zM faces
 have hfl:=zaN flds
 have hfp:=zM parts
 have hfs:=Zs ps
 rw[yg]
 refine zj.go ir252 ck252 (Al4 _) fun KP Q hQ=>?_
 have w0:=YR.refl h
 obtain⟨n,hn⟩:∃ n,n=(decide (flds.length≠0)&&(decide (parts.length=0)&&decide (ps.length=0))):=⟨_,rfl⟩
 by_cases a1:flds.length=0
 ·have a1':¬ ((0:Int)<(flds.length:Int)):=by omega
  have hbv:n=false:=by rw[hn];simp[a1]
  simp(disch:=omega) only[ir252,hfl,a1',go_sem]
  refine zv (Zw _) w0 (by omega) (by omega) (by omega) fun o1 l1 H1 w1 _=>?_
  simp(disch:=omega) only[go_sem]
  refine zv (yy wd (by simp only[Lim];omega)) w1 (by omega) (by omega) (by omega) fun o2 l2 H2 w2 _=>?_
  simp(disch:=omega) only[go_sem]
  refine zv (yy nm (by simp only[Lim];omega)) w2 (by omega) (by omega) (by omega) fun o3 l3 H3 w3 _=>?_
  by_cases hf0:faces.length=0
  ·have hf1:¬ ((0:Int)<(faces.length:Int)):=by omega
   have hf:=zfs.1 hf0
   simp(disch:=omega) only[hfc,hf1,go_sem]
   refine zv (yI [123] _) w3 (by omega) (by omega) (by omega) fun oB lB HB wB sB=>?_
   simp(disch:=omega) only[go_sem]
   refine Yb (zc6 flds hwx.1 (by simp only[Lim];omega)) wB (by omega) fun oC lC HC wC sC=>?_
   simp(disch:=omega) only[go_sem]
   refine zv (yI [125] _) wC (by omega) (by omega) (by omega) fun oD lD HD wD sD=>?_
   simp(disch:=omega) only[go_sem]
   exact hQ _ _ HD HD [] nofun rfl (Low.refl _) ⟨rfl,wD.fin (by simp only[YZ,← hn,hbv,hnw,zc8,hf];simp[ye,Bool.and_comm,Bool.and_left_comm]) (fun _=>by simp[zil,hf]) (by simp only[bE];omega) (by simp only[bE,Al2,Al3];omega)⟩
  ·have hf1:((0:Int)<(faces.length:Int))=True:=eq_true (by omega)
   have hf:=hf0
   simp(disch:=omega) only[hfc,hf1,go_sem]
   refine zv (yy [105,109,112,108,101,109,101,110,116,115] (by simp[Lim])) w3 (by omega) (by omega) (by omega) fun o4 l4 H4 w4 _=>?_
   simp(disch:=omega) only[go_sem]
   refine Yb (zeP [38] faces rfl (by simp only[Lim];omega)) w4 (by omega) fun o5 l5 H5 w5 _=>?_
   simp(disch:=omega) only[go_sem]
   refine zv (yI [123] _) w5 (by omega) (by omega) (by omega) fun oB lB HB wB sB=>?_
   simp(disch:=omega) only[go_sem]
   refine Yb (zc6 flds hwx.1 (by simp only[Lim];omega)) wB (by omega) fun oC lC HC wC sC=>?_
   simp(disch:=omega) only[go_sem]
   refine zv (yI [125] _) wC (by omega) (by omega) (by omega) fun oD lD HD wD sD=>?_
   simp(disch:=omega) only[go_sem]
   exact hQ _ _ HD HD [] nofun rfl (Low.refl _) ⟨rfl,wD.fin (by simp only[YZ,← hn,hbv,hnw,zc8,hf];simp[ye,Bool.and_comm,Bool.and_left_comm]) (fun _=>by simp[zil,hf]) (by simp only[bE];omega) (by simp only[bE,Al2,Al3];omega)⟩
 ·have a1':((0:Int)<(flds.length:Int))=True:=eq_true (by omega)
  have e1:IntKind.wrap .i64 ((parts.length:Int)+(ps.length:Int))=((parts.length+ps.length:Nat):Int):=by rw[wrap64 (by omega) (by omega)];omega
  by_cases a2:parts.length+ps.length=0
  ·have a2':(((parts.length+ps.length:Nat):Int)=0)=True:=eq_true (by omega)
   have hbv:n=true:=by rw[hn];simp only[ne_eq,Al0,yw];omega
   simp(disch:=omega) only[ir252,hfl,a1',hfp,hfs,e1,a2',go_sem]
   refine zv (Zw _) w0 (by omega) (by omega) (by omega) fun o1 l1 H1 w1 _=>?_
   simp(disch:=omega) only[go_sem]
   refine zv (yy wd (by simp only[Lim];omega)) w1 (by omega) (by omega) (by omega) fun o2 l2 H2 w2 _=>?_
   simp(disch:=omega) only[go_sem]
   refine zv (yy nm (by simp only[Lim];omega)) w2 (by omega) (by omega) (by omega) fun o3 l3 H3 w3 _=>?_
   by_cases hf0:faces.length=0
   ·have hf1:¬ ((0:Int)<(faces.length:Int)):=by omega
    have hf:=zfs.1 hf0
    simp(disch:=omega) only[hfc,hf1,go_sem]
    refine zv (yI [123] _) w3 (by omega) (by omega) (by omega) fun oB lB HB wB sB=>?_
    simp(disch:=omega) only[go_sem]
    refine Yb (zc6 flds hwx.1 (by simp only[Lim];omega)) wB (by omega) fun oC lC HC wC sC=>?_
    simp(disch:=omega) only[go_sem]
    refine zv (yI [125] _) wC (by omega) (by omega) (by omega) fun oD lD HD wD sD=>?_
    simp(disch:=omega) only[go_sem]
    exact hQ _ _ HD HD [] nofun rfl (Low.refl _) ⟨rfl,wD.fin (by simp only[YZ,← hn,hbv,hnw,zc8,hf];simp[ye,Bool.and_comm,Bool.and_left_comm]) (fun _=>by simp[zil,hf]) (by simp only[bE];omega) (by simp only[bE,Al2,Al3];omega)⟩
   ·have hf1:((0:Int)<(faces.length:Int))=True:=eq_true (by omega)
    have hf:=hf0
    simp(disch:=omega) only[hfc,hf1,go_sem]
    refine zv (yy [105,109,112,108,101,109,101,110,116,115] (by simp[Lim])) w3 (by omega) (by omega) (by omega) fun o4 l4 H4 w4 _=>?_
    simp(disch:=omega) only[go_sem]
    refine Yb (zeP [38] faces rfl (by simp only[Lim];omega)) w4 (by omega) fun o5 l5 H5 w5 _=>?_
    simp(disch:=omega) only[go_sem]
    refine zv (yI [123] _) w5 (by omega) (by omega) (by omega) fun oB lB HB wB sB=>?_
    simp(disch:=omega) only[go_sem]
    refine Yb (zc6 flds hwx.1 (by simp only[Lim];omega)) wB (by omega) fun oC lC HC wC sC=>?_
    simp(disch:=omega) only[go_sem]
    refine zv (yI [125] _) wC (by omega) (by omega) (by omega) fun oD lD HD wD sD=>?_
    simp(disch:=omega) only[go_sem]
    exact hQ _ _ HD HD [] nofun rfl (Low.refl _) ⟨rfl,wD.fin (by simp only[YZ,← hn,hbv,hnw,zc8,hf];simp[ye,Bool.and_comm,Bool.and_left_comm]) (fun _=>by simp[zil,hf]) (by simp only[bE];omega) (by simp only[bE,Al2,Al3];omega)⟩
  ·have a2':¬ (((parts.length+ps.length:Nat):Int)=0):=by omega
   have hbv:n=false:=by rw[hn,Bool.eq_false_iff];simp only[ne_eq,Al0,yw];omega
   simp(disch:=omega) only[ir252,hfl,a1',hfp,hfs,e1,a2',go_sem]
   refine zv (Zw _) w0 (by omega) (by omega) (by omega) fun o1 l1 H1 w1 _=>?_
   simp(disch:=omega) only[go_sem]
   refine zv (yy wd (by simp only[Lim];omega)) w1 (by omega) (by omega) (by omega) fun o2 l2 H2 w2 _=>?_
   simp(disch:=omega) only[go_sem]
   refine zv (yy nm (by simp only[Lim];omega)) w2 (by omega) (by omega) (by omega) fun o3 l3 H3 w3 _=>?_
   by_cases hf0:faces.length=0
   ·have hf1:¬ ((0:Int)<(faces.length:Int)):=by omega
    have hf:=zfs.1 hf0
    simp(disch:=omega) only[hfc,hf1,go_sem]
    refine zv (yI [123] _) w3 (by omega) (by omega) (by omega) fun oB lB HB wB sB=>?_
    simp(disch:=omega) only[go_sem]
    refine Yb (zc6 flds hwx.1 (by simp only[Lim];omega)) wB (by omega) fun oC lC HC wC sC=>?_
    simp(disch:=omega) only[go_sem]
    refine zv (yI [125] _) wC (by omega) (by omega) (by omega) fun oD lD HD wD sD=>?_
    simp(disch:=omega) only[go_sem]
    exact hQ _ _ HD HD [] nofun rfl (Low.refl _) ⟨rfl,wD.fin (by simp only[YZ,← hn,hbv,hnw,zc8,hf];simp[ye,Bool.and_comm,Bool.and_left_comm]) (fun _=>by simp[zil,hf]) (by simp only[bE];omega) (by simp only[bE,Al2,Al3];omega)⟩
   ·have hf1:((0:Int)<(faces.length:Int))=True:=eq_true (by omega)
    have hf:=hf0
    simp(disch:=omega) only[hfc,hf1,go_sem]
    refine zv (yy [105,109,112,108,101,109,101,110,116,115] (by simp[Lim])) w3 (by omega) (by omega) (by omega) fun o4 l4 H4 w4 _=>?_
    simp(disch:=omega) only[go_sem]
    refine Yb (zeP [38] faces rfl (by simp only[Lim];omega)) w4 (by omega) fun o5 l5 H5 w5 _=>?_
    simp(disch:=omega) only[go_sem]
    refine zv (yI [123] _) w5 (by omega) (by omega) (by omega) fun oB lB HB wB sB=>?_
    simp(disch:=omega) only[go_sem]
    refine Yb (zc6 flds hwx.1 (by simp only[Lim];omega)) wB (by omega) fun oC lC HC wC sC=>?_
    simp(disch:=omega) only[go_sem]
    refine zv (yI [125] _) wC (by omega) (by omega) (by omega) fun oD lD HD wD sD=>?_
    simp(disch:=omega) only[go_sem]
    exact hQ _ _ HD HD [] nofun rfl (Low.refl _) ⟨rfl,wD.fin (by simp only[YZ,← hn,hbv,hnw,zc8,hf];simp[ye,Bool.and_comm,Bool.and_left_comm]) (fun _=>by simp[zil,hf]) (by simp only[bE];omega) (by simp only[bE,Al2,Al3];omega)⟩
theorem zrV (x:DefD) (hm:64*bE x≤Lim):ZS 253 [.agg (cE x)] (64*bE x) (512*bE x) (YK x) (zh9 x):=by
 intro H w o l ok h hb
 obtain⟨k,nm,faces,flds,parts,ps⟩:=x
 have hm':=hm
 simp only[Lim,bE] at hm'
 simp only[bE] at hb
 have h1:=ZF faces
 have h2:=YW flds
 have h3:=ZF parts
 have h4:=yS ps
 have hfc:=zM faces
 have hfl:=zaN flds
 have hfp:=zM parts
 have hfs:=Zs ps
 rw[yg]
 refine zj.go ir253 ck253 (Al4 _) fun KP Q hQ=>?_
 have w0:=YR.refl h
 obtain⟨n,hn⟩:∃ n,n=(decide (parts.length≠0)&&(decide (faces.length=0)&&(decide (flds.length=0)&&decide (ps.length=0)))):=⟨_,rfl⟩
 by_cases a1:parts.length=0
 ·have a1':¬ ((0:Int)<(parts.length:Int)):=by omega
  have hbv:n=false:=by rw[hn];simp[a1]
  simp(disch:=omega) only[ir253,hfp,a1',go_sem]
  refine zv (Zw _) w0 (by omega) (by omega) (by omega) fun o1 l1 H1 w1 _=>?_
  by_cases hk:k=3
  ·have hk':=eq_true hk
   simp(disch:=omega) only[hk',go_sem]
   refine zv (yy [117,110,105,111,110] (by simp[Lim])) w1 (by omega) (by omega) (by omega) fun o2 l2 H2 w2 _=>?_
   simp(disch:=omega) only[go_sem]
   refine zv (yy nm (by simp only[Lim];omega)) w2 (by omega) (by omega) (by omega) fun o3 l3 H3 w3 _=>?_
   simp(disch:=omega) only[go_sem]
   refine zv (yI [61] _) w3 (by omega) (by omega) (by omega) fun o4 l4 H4 w4 _=>?_
   simp(disch:=omega) only[go_sem]
   refine Yb (zeP [124] parts rfl (by simp only[Lim];omega)) w4 (by omega) fun o5 l5 H5 w5 _=>?_
   simp(disch:=omega) only[go_sem]
   exact hQ _ _ H5 H5 [] nofun rfl (Low.refl _) ⟨rfl,w5.fin (by simp only[YK,if_pos hk,zah,← hn,hbv,zgS];simp[ye,Bool.and_comm,Bool.and_left_comm]) (fun _=>by simp[zh9,hk]) (by simp only[bE];omega) (by simp only[bE,Al2,Al3];omega)⟩
  ·simp(disch:=omega) only[hk,go_sem]
   refine zv (yy [101,110,117,109] (by simp[Lim])) w1 (by omega) (by omega) (by omega) fun o2 l2 H2 w2 _=>?_
   simp(disch:=omega) only[go_sem]
   refine zv (yy nm (by simp only[Lim];omega)) w2 (by omega) (by omega) (by omega) fun o3 l3 H3 w3 _=>?_
   simp(disch:=omega) only[go_sem]
   refine zv (yI [123] _) w3 (by omega) (by omega) (by omega) fun o4 l4 H4 w4 _=>?_
   simp(disch:=omega) only[hfp,go_sem]
   refine zf parts 61 (fun x:Own×List Tok=>[]) (fun done rest x H'=>YR H o w l ok 0 (4+bT done) (32+nm.length+16*bT done) (n&&(zR nm&&done.all fun s=>Yv s&&zR s)) (wk [101,110,117,109]::wk nm::pk [123]::done.map wk) H' x.1 x.2) (o4,l4) (by simp(disch:=omega) only[go_sem]) (w4.cast (by omega) (by simp only[Al2,Al3];omega) (by simp[hbv,ziH]) (by simp)) ?_ ?_
   ·rintro⟨o5,l5⟩ H5 J5 w5 hlt
    simp only at w5
    simp(disch:=omega) only[hfp,hlt,go_sem]
    refine zv (yI [125] _) w5 (by omega) (by omega) (by omega) fun o6 l6 H6 w6 _=>?_
    simp(disch:=omega) only[go_sem]
    exact hQ _ _ H6 H6 [] nofun rfl (Low.refl _) ⟨rfl,w6.fin (by rw[zhZ];simp only[YK,if_neg hk,zah,← hn];simp[ye,Bool.and_comm,Bool.and_left_comm]) (fun _=>by simp[zh9,hk]) (by simp only[bE];omega) (by simp only[bE,Al2,Al3];omega)⟩
   ·rintro done x rest ⟨o5,l5⟩ H5 J5 hd hlt hlt2 w5 hJ5
    simp only at w5
    have hg:=Z0 hd
    have hbm:=zgI done x rest
    rw[← hd] at hbm
    simp(disch:=omega) only[hfp,hlt,hg,go_sem]
    by_cases q1:x=[116,114,117,101]
    ·have q1':=eq_true q1
     have hno:Yv x=false:=by rw[q1];decide
     simp(disch:=omega) only[q1',go_sem]
     refine zv (Zw _) w5 (by omega) (by omega) (by omega) fun o6 l6 H6 w6 _=>?_
     simp(disch:=omega) only[go_sem]
     refine zv (yy x (by simp only[Lim];omega)) w6 (by omega) (by omega) (by omega) fun o7 l7 H7 w7 _=>?_
     simp(disch:=omega) only[wrap64,go_sem]
     exact goJ (hJ5 (o7,l7) H7 (w7.cast (by rw[yF];omega) (by rw[yF];omega) (by simp[hno,ye]) (by simp))) (by simp(disch:=omega) only[go_sem])
    by_cases q2:x=[102,97,108,115,101]
    ·have q2':=eq_true q2
     have hno:Yv x=false:=by rw[q2];decide
     simp(disch:=omega) only[q1,q2',go_sem]
     refine zv (Zw _) w5 (by omega) (by omega) (by omega) fun o6 l6 H6 w6 _=>?_
     simp(disch:=omega) only[go_sem]
     refine zv (yy x (by simp only[Lim];omega)) w6 (by omega) (by omega) (by omega) fun o7 l7 H7 w7 _=>?_
     simp(disch:=omega) only[wrap64,go_sem]
     exact goJ (hJ5 (o7,l7) H7 (w7.cast (by rw[yF];omega) (by rw[yF];omega) (by simp[hno,ye]) (by simp))) (by simp(disch:=omega) only[go_sem])
    by_cases q3:x=[110,117,108,108]
    ·have q3':=eq_true q3
     have hno:Yv x=false:=by rw[q3];decide
     simp(disch:=omega) only[q1,q2,q3',go_sem]
     refine zv (Zw _) w5 (by omega) (by omega) (by omega) fun o6 l6 H6 w6 _=>?_
     simp(disch:=omega) only[go_sem]
     refine zv (yy x (by simp only[Lim];omega)) w6 (by omega) (by omega) (by omega) fun o7 l7 H7 w7 _=>?_
     simp(disch:=omega) only[wrap64,go_sem]
     exact goJ (hJ5 (o7,l7) H7 (w7.cast (by rw[yF];omega) (by rw[yF];omega) (by simp[hno,ye]) (by simp))) (by simp(disch:=omega) only[go_sem])
    ·have hno:Yv x=true:=by simp[Yv,q1,q2,q3]
     simp(disch:=omega) only[q1,q2,q3,go_sem]
     refine zv (Zw _) w5 (by omega) (by omega) (by omega) fun o6 l6 H6 w6 _=>?_
     simp(disch:=omega) only[go_sem]
     refine zv (yy x (by simp only[Lim];omega)) w6 (by omega) (by omega) (by omega) fun o7 l7 H7 w7 _=>?_
     simp(disch:=omega) only[wrap64,go_sem]
     exact goJ (hJ5 (o7,l7) H7 (w7.cast (by rw[yF];omega) (by rw[yF];omega) (by simp[hno,ye]) (by simp))) (by simp(disch:=omega) only[go_sem])
 ·have a1':((0:Int)<(parts.length:Int))=True:=eq_true (by omega)
  have e1:IntKind.wrap .i64 ((faces.length:Int)+(flds.length:Int))=((faces.length+flds.length:Nat):Int):=by rw[wrap64 (by omega) (by omega)];omega
  have e2:IntKind.wrap .i64 (((faces.length+flds.length:Nat):Int)+(ps.length:Int))=((faces.length+flds.length+ps.length:Nat):Int):=by rw[wrap64 (by omega) (by omega)];omega
  by_cases a2:faces.length+flds.length+ps.length=0
  ·have a2':(((faces.length+flds.length+ps.length:Nat):Int)=0)=True:=eq_true (by omega)
   have hbv:n=true:=by rw[hn];simp only[ne_eq,Al0,yw];omega
   simp(disch:=omega) only[ir253,hfp,a1',hfc,hfl,hfs,e1,e2,a2',go_sem]
   refine zv (Zw _) w0 (by omega) (by omega) (by omega) fun o1 l1 H1 w1 _=>?_
   by_cases hk:k=3
   ·have hk':=eq_true hk
    simp(disch:=omega) only[hk',go_sem]
    refine zv (yy [117,110,105,111,110] (by simp[Lim])) w1 (by omega) (by omega) (by omega) fun o2 l2 H2 w2 _=>?_
    simp(disch:=omega) only[go_sem]
    refine zv (yy nm (by simp only[Lim];omega)) w2 (by omega) (by omega) (by omega) fun o3 l3 H3 w3 _=>?_
    simp(disch:=omega) only[go_sem]
    refine zv (yI [61] _) w3 (by omega) (by omega) (by omega) fun o4 l4 H4 w4 _=>?_
    simp(disch:=omega) only[go_sem]
    refine Yb (zeP [124] parts rfl (by simp only[Lim];omega)) w4 (by omega) fun o5 l5 H5 w5 _=>?_
    simp(disch:=omega) only[go_sem]
    exact hQ _ _ H5 H5 [] nofun rfl (Low.refl _) ⟨rfl,w5.fin (by simp only[YK,if_pos hk,zah,← hn,hbv,zgS];simp[ye,Bool.and_comm,Bool.and_left_comm]) (fun _=>by simp[zh9,hk]) (by simp only[bE];omega) (by simp only[bE,Al2,Al3];omega)⟩
   ·simp(disch:=omega) only[hk,go_sem]
    refine zv (yy [101,110,117,109] (by simp[Lim])) w1 (by omega) (by omega) (by omega) fun o2 l2 H2 w2 _=>?_
    simp(disch:=omega) only[go_sem]
    refine zv (yy nm (by simp only[Lim];omega)) w2 (by omega) (by omega) (by omega) fun o3 l3 H3 w3 _=>?_
    simp(disch:=omega) only[go_sem]
    refine zv (yI [123] _) w3 (by omega) (by omega) (by omega) fun o4 l4 H4 w4 _=>?_
    simp(disch:=omega) only[hfp,go_sem]
    refine zf parts 61 (fun x:Own×List Tok=>[]) (fun done rest x H'=>YR H o w l ok 0 (4+bT done) (32+nm.length+16*bT done) (n&&(zR nm&&done.all fun s=>Yv s&&zR s)) (wk [101,110,117,109]::wk nm::pk [123]::done.map wk) H' x.1 x.2) (o4,l4) (by simp(disch:=omega) only[go_sem]) (w4.cast (by omega) (by simp only[Al2,Al3];omega) (by simp[hbv,ziH]) (by simp)) ?_ ?_
    ·rintro⟨o5,l5⟩ H5 J5 w5 hlt
     simp only at w5
     simp(disch:=omega) only[hfp,hlt,go_sem]
     refine zv (yI [125] _) w5 (by omega) (by omega) (by omega) fun o6 l6 H6 w6 _=>?_
     simp(disch:=omega) only[go_sem]
     exact hQ _ _ H6 H6 [] nofun rfl (Low.refl _) ⟨rfl,w6.fin (by rw[zhZ];simp only[YK,if_neg hk,zah,← hn];simp[ye,Bool.and_comm,Bool.and_left_comm]) (fun _=>by simp[zh9,hk]) (by simp only[bE];omega) (by simp only[bE,Al2,Al3];omega)⟩
    ·rintro done x rest ⟨o5,l5⟩ H5 J5 hd hlt hlt2 w5 hJ5
     simp only at w5
     have hg:=Z0 hd
     have hbm:=zgI done x rest
     rw[← hd] at hbm
     simp(disch:=omega) only[hfp,hlt,hg,go_sem]
     by_cases q1:x=[116,114,117,101]
     ·have q1':=eq_true q1
      have hno:Yv x=false:=by rw[q1];decide
      simp(disch:=omega) only[q1',go_sem]
      refine zv (Zw _) w5 (by omega) (by omega) (by omega) fun o6 l6 H6 w6 _=>?_
      simp(disch:=omega) only[go_sem]
      refine zv (yy x (by simp only[Lim];omega)) w6 (by omega) (by omega) (by omega) fun o7 l7 H7 w7 _=>?_
      simp(disch:=omega) only[wrap64,go_sem]
      exact goJ (hJ5 (o7,l7) H7 (w7.cast (by rw[yF];omega) (by rw[yF];omega) (by simp[hno,ye]) (by simp))) (by simp(disch:=omega) only[go_sem])
     by_cases q2:x=[102,97,108,115,101]
     ·have q2':=eq_true q2
      have hno:Yv x=false:=by rw[q2];decide
      simp(disch:=omega) only[q1,q2',go_sem]
      refine zv (Zw _) w5 (by omega) (by omega) (by omega) fun o6 l6 H6 w6 _=>?_
      simp(disch:=omega) only[go_sem]
      refine zv (yy x (by simp only[Lim];omega)) w6 (by omega) (by omega) (by omega) fun o7 l7 H7 w7 _=>?_
      simp(disch:=omega) only[wrap64,go_sem]
      exact goJ (hJ5 (o7,l7) H7 (w7.cast (by rw[yF];omega) (by rw[yF];omega) (by simp[hno,ye]) (by simp))) (by simp(disch:=omega) only[go_sem])
     by_cases q3:x=[110,117,108,108]
     ·have q3':=eq_true q3
      have hno:Yv x=false:=by rw[q3];decide
      simp(disch:=omega) only[q1,q2,q3',go_sem]
      refine zv (Zw _) w5 (by omega) (by omega) (by omega) fun o6 l6 H6 w6 _=>?_
      simp(disch:=omega) only[go_sem]
      refine zv (yy x (by simp only[Lim];omega)) w6 (by omega) (by omega) (by omega) fun o7 l7 H7 w7 _=>?_
      simp(disch:=omega) only[wrap64,go_sem]
      exact goJ (hJ5 (o7,l7) H7 (w7.cast (by rw[yF];omega) (by rw[yF];omega) (by simp[hno,ye]) (by simp))) (by simp(disch:=omega) only[go_sem])
     ·have hno:Yv x=true:=by simp[Yv,q1,q2,q3]
      simp(disch:=omega) only[q1,q2,q3,go_sem]
      refine zv (Zw _) w5 (by omega) (by omega) (by omega) fun o6 l6 H6 w6 _=>?_
      simp(disch:=omega) only[go_sem]
      refine zv (yy x (by simp only[Lim];omega)) w6 (by omega) (by omega) (by omega) fun o7 l7 H7 w7 _=>?_
      simp(disch:=omega) only[wrap64,go_sem]
      exact goJ (hJ5 (o7,l7) H7 (w7.cast (by rw[yF];omega) (by rw[yF];omega) (by simp[hno,ye]) (by simp))) (by simp(disch:=omega) only[go_sem])
  ·have a2':¬ (((faces.length+flds.length+ps.length:Nat):Int)=0):=by omega
   have hbv:n=false:=by rw[hn,Bool.eq_false_iff];simp only[ne_eq,Al0,yw];omega
   simp(disch:=omega) only[ir253,hfp,a1',hfc,hfl,hfs,e1,e2,a2',go_sem]
   refine zv (Zw _) w0 (by omega) (by omega) (by omega) fun o1 l1 H1 w1 _=>?_
   by_cases hk:k=3
   ·have hk':=eq_true hk
    simp(disch:=omega) only[hk',go_sem]
    refine zv (yy [117,110,105,111,110] (by simp[Lim])) w1 (by omega) (by omega) (by omega) fun o2 l2 H2 w2 _=>?_
    simp(disch:=omega) only[go_sem]
    refine zv (yy nm (by simp only[Lim];omega)) w2 (by omega) (by omega) (by omega) fun o3 l3 H3 w3 _=>?_
    simp(disch:=omega) only[go_sem]
    refine zv (yI [61] _) w3 (by omega) (by omega) (by omega) fun o4 l4 H4 w4 _=>?_
    simp(disch:=omega) only[go_sem]
    refine Yb (zeP [124] parts rfl (by simp only[Lim];omega)) w4 (by omega) fun o5 l5 H5 w5 _=>?_
    simp(disch:=omega) only[go_sem]
    exact hQ _ _ H5 H5 [] nofun rfl (Low.refl _) ⟨rfl,w5.fin (by simp only[YK,if_pos hk,zah,← hn,hbv,zgS];simp[ye,Bool.and_comm,Bool.and_left_comm]) (fun _=>by simp[zh9,hk]) (by simp only[bE];omega) (by simp only[bE,Al2,Al3];omega)⟩
   ·simp(disch:=omega) only[hk,go_sem]
    refine zv (yy [101,110,117,109] (by simp[Lim])) w1 (by omega) (by omega) (by omega) fun o2 l2 H2 w2 _=>?_
    simp(disch:=omega) only[go_sem]
    refine zv (yy nm (by simp only[Lim];omega)) w2 (by omega) (by omega) (by omega) fun o3 l3 H3 w3 _=>?_
    simp(disch:=omega) only[go_sem]
    refine zv (yI [123] _) w3 (by omega) (by omega) (by omega) fun o4 l4 H4 w4 _=>?_
    simp(disch:=omega) only[hfp,go_sem]
    refine zf parts 61 (fun x:Own×List Tok=>[]) (fun done rest x H'=>YR H o w l ok 0 (4+bT done) (32+nm.length+16*bT done) (n&&(zR nm&&done.all fun s=>Yv s&&zR s)) (wk [101,110,117,109]::wk nm::pk [123]::done.map wk) H' x.1 x.2) (o4,l4) (by simp(disch:=omega) only[go_sem]) (w4.cast (by omega) (by simp only[Al2,Al3];omega) (by simp[hbv,ziH]) (by simp)) ?_ ?_
    ·rintro⟨o5,l5⟩ H5 J5 w5 hlt
     simp only at w5
     simp(disch:=omega) only[hfp,hlt,go_sem]
     refine zv (yI [125] _) w5 (by omega) (by omega) (by omega) fun o6 l6 H6 w6 _=>?_
     simp(disch:=omega) only[go_sem]
     exact hQ _ _ H6 H6 [] nofun rfl (Low.refl _) ⟨rfl,w6.fin (by rw[zhZ];simp only[YK,if_neg hk,zah,← hn];simp[ye,Bool.and_comm,Bool.and_left_comm]) (fun _=>by simp[zh9,hk]) (by simp only[bE];omega) (by simp only[bE,Al2,Al3];omega)⟩
    ·rintro done x rest ⟨o5,l5⟩ H5 J5 hd hlt hlt2 w5 hJ5
     simp only at w5
     have hg:=Z0 hd
     have hbm:=zgI done x rest
     rw[← hd] at hbm
     simp(disch:=omega) only[hfp,hlt,hg,go_sem]
     by_cases q1:x=[116,114,117,101]
     ·have q1':=eq_true q1
      have hno:Yv x=false:=by rw[q1];decide
      simp(disch:=omega) only[q1',go_sem]
      refine zv (Zw _) w5 (by omega) (by omega) (by omega) fun o6 l6 H6 w6 _=>?_
      simp(disch:=omega) only[go_sem]
      refine zv (yy x (by simp only[Lim];omega)) w6 (by omega) (by omega) (by omega) fun o7 l7 H7 w7 _=>?_
      simp(disch:=omega) only[wrap64,go_sem]
      exact goJ (hJ5 (o7,l7) H7 (w7.cast (by rw[yF];omega) (by rw[yF];omega) (by simp[hno,ye]) (by simp))) (by simp(disch:=omega) only[go_sem])
     by_cases q2:x=[102,97,108,115,101]
     ·have q2':=eq_true q2
      have hno:Yv x=false:=by rw[q2];decide
      simp(disch:=omega) only[q1,q2',go_sem]
      refine zv (Zw _) w5 (by omega) (by omega) (by omega) fun o6 l6 H6 w6 _=>?_
      simp(disch:=omega) only[go_sem]
      refine zv (yy x (by simp only[Lim];omega)) w6 (by omega) (by omega) (by omega) fun o7 l7 H7 w7 _=>?_
      simp(disch:=omega) only[wrap64,go_sem]
      exact goJ (hJ5 (o7,l7) H7 (w7.cast (by rw[yF];omega) (by rw[yF];omega) (by simp[hno,ye]) (by simp))) (by simp(disch:=omega) only[go_sem])
     by_cases q3:x=[110,117,108,108]
     ·have q3':=eq_true q3
      have hno:Yv x=false:=by rw[q3];decide
      simp(disch:=omega) only[q1,q2,q3',go_sem]
      refine zv (Zw _) w5 (by omega) (by omega) (by omega) fun o6 l6 H6 w6 _=>?_
      simp(disch:=omega) only[go_sem]
      refine zv (yy x (by simp only[Lim];omega)) w6 (by omega) (by omega) (by omega) fun o7 l7 H7 w7 _=>?_
      simp(disch:=omega) only[wrap64,go_sem]
      exact goJ (hJ5 (o7,l7) H7 (w7.cast (by rw[yF];omega) (by rw[yF];omega) (by simp[hno,ye]) (by simp))) (by simp(disch:=omega) only[go_sem])
     ·have hno:Yv x=true:=by simp[Yv,q1,q2,q3]
      simp(disch:=omega) only[q1,q2,q3,go_sem]
      refine zv (Zw _) w5 (by omega) (by omega) (by omega) fun o6 l6 H6 w6 _=>?_
      simp(disch:=omega) only[go_sem]
      refine zv (yy x (by simp only[Lim];omega)) w6 (by omega) (by omega) (by omega) fun o7 l7 H7 w7 _=>?_
      simp(disch:=omega) only[wrap64,go_sem]
      exact goJ (hJ5 (o7,l7) H7 (w7.cast (by rw[yF];omega) (by rw[yF];omega) (by simp[hno,ye]) (by simp))) (by simp(disch:=omega) only[go_sem])
theorem ztE (x:DefD) (hwx:wfE x) (hm:64*bE x≤Lim):ZS 236 [.agg (cE x)] (64*bE x) (512*bE x) (Yo x) (tE x):=by
 have hO1:=zlr [116,121,112,101] x zq8 (by decide) hwx hm
 have hO2:=zlr [105,110,116,101,114,102,97,99,101] x zql (by decide) hwx hm
 have hP:=zrV x hm
 intro H w o l ok h hb
 obtain⟨k,nm,faces,flds,parts,ps⟩:=x
 rw[yg] at hO1 hO2 hP ⊢
 have hm':=hm
 simp only[Lim,bE] at hm'
 have hb':=hb
 simp only[bE] at hb
 have h1:=ZF faces
 have h2:=YW flds
 have h3:=ZF parts
 have h4:=yS ps
 have hfc:=zM faces
 have hfl:=zaN flds
 have hfp:=zM parts
 have hfs:=Zs ps
 refine zj.go ir236 ck236 (Al4 _) fun KP Q hQ=>?_
 have w0:=YR.refl h
 by_cases k1:k=1
 ·have k1':=eq_true k1
  simp(disch:=omega) only[ir236,k1',go_sem]
  refine Yb hO1 w0 (by omega) fun o2 l2 H2 w2 _=>?_
  simp(disch:=omega) only[go_sem]
  exact hQ _ _ H2 H2 [] nofun rfl (Low.refl _) ⟨rfl,w2.fin (by subst k1;simp[Yo,YZ]) (fun _=>by subst k1;simp[tE,zil]) (by omega) (by omega)⟩
 by_cases k2:k=2
 ·have k2':=eq_true k2
  simp(disch:=omega) only[ir236,k1,k2',go_sem]
  refine Yb hO2 w0 (by omega) fun o2 l2 H2 w2 _=>?_
  simp(disch:=omega) only[go_sem]
  exact hQ _ _ H2 H2 [] nofun rfl (Low.refl _) ⟨rfl,w2.fin (by subst k2;simp[Yo,YZ]) (fun _=>by subst k2;simp[tE,zil]) (by omega) (by omega)⟩
 by_cases k3:k=3
 ·have k3':=eq_true k3
  simp(disch:=omega) only[ir236,k1,k2,k3',go_sem]
  refine Yb hP w0 (by omega) fun o2 l2 H2 w2 _=>?_
  simp(disch:=omega) only[go_sem]
  exact hQ _ _ H2 H2 [] nofun rfl (Low.refl _) ⟨rfl,w2.fin (by subst k3;simp[Yo,YK,zah]) (fun _=>by subst k3;simp[tE,zh9]) (by omega) (by omega)⟩
 by_cases k4:k=4
 ·have k4':=eq_true k4
  simp(disch:=omega) only[ir236,k1,k2,k3,k4',go_sem]
  refine Yb hP w0 (by omega) fun o2 l2 H2 w2 _=>?_
  simp(disch:=omega) only[go_sem]
  exact hQ _ _ H2 H2 [] nofun rfl (Low.refl _) ⟨rfl,w2.fin (by subst k4;simp[Yo,YK,zah]) (fun _=>by subst k4;simp[tE,zh9]) (by omega) (by omega)⟩
 by_cases k5:k=5
 ·have k5':=eq_true k5
  obtain⟨n,hn⟩:∃ n,n=(decide (ps.length≠0)&&(decide (faces.length=0)&&(decide (flds.length=0)&&decide (parts.length=0)))):=⟨_,rfl⟩
  by_cases a1:ps.length=0
  ·have a1':¬ ((0:Int)<(ps.length:Int)):=by omega
   have hbv:n=false:=by rw[hn];simp[a1]
   subst k5
   simp(disch:=omega) only[ir236,k1,k2,k3,k4,k5',hfs,a1',go_sem]
   refine zv (Zw _) w0 (by omega) (by omega) (by omega) fun o1 l1 H1 w1 _=>?_
   simp(disch:=omega) only[go_sem]
   refine zv (yy [105,110,112,117,116] (by simp[Lim])) w1 (by omega) (by omega) (by omega) fun o2 l2 H2 w2 _=>?_
   simp(disch:=omega) only[go_sem]
   refine zv (yy nm (by simp only[Lim];omega)) w2 (by omega) (by omega) (by omega) fun o3 l3 H3 w3 _=>?_
   simp(disch:=omega) only[go_sem]
   refine zv (yI [123] _) w3 (by omega) (by omega) (by omega) fun o4 l4 H4 w4 _=>?_
   simp(disch:=omega) only[go_sem]
   refine Yb (zfF ps hwx.2 (by simp only[Lim];omega)) w4 (by omega) fun o5 l5 H5 w5 _=>?_
   simp(disch:=omega) only[go_sem]
   refine zv (yI [125] _) w5 (by omega) (by omega) (by omega) fun o6 l6 H6 w6 _=>?_
   simp(disch:=omega) only[go_sem]
   exact hQ _ _ H6 H6 [] nofun rfl (Low.refl _) ⟨rfl,w6.fin (by simp only[Yo];rw[if_neg (by omega),if_neg (by omega),if_neg (by omega),if_pos trivial];simp only[← hn,hbv,zgH];simp[ye,Bool.and_comm,Bool.and_left_comm]) (fun _=>by simp only[tE];rw[if_neg (by omega),if_neg (by omega),if_neg (by omega)];simp) (by simp only[bE];omega) (by simp only[bE,Al2,Al3];omega)⟩
  ·have a1':((0:Int)<(ps.length:Int))=True:=eq_true (by omega)
   have e1:IntKind.wrap .i64 ((faces.length:Int)+(flds.length:Int))=((faces.length+flds.length:Nat):Int):=by rw[wrap64 (by omega) (by omega)];omega
   have e2:IntKind.wrap .i64 (((faces.length+flds.length:Nat):Int)+(parts.length:Int))=((faces.length+flds.length+parts.length:Nat):Int):=by rw[wrap64 (by omega) (by omega)];omega
   by_cases a2:faces.length+flds.length+parts.length=0
   ·have a2':(((faces.length+flds.length+parts.length:Nat):Int)=0)=True:=eq_true (by omega)
    have hbv:n=true:=by rw[hn];simp only[ne_eq,Al0,yw];omega
    subst k5
    simp(disch:=omega) only[ir236,k1,k2,k3,k4,k5',hfs,a1',hfc,hfl,hfp,e1,e2,a2',go_sem]
    refine zv (Zw _) w0 (by omega) (by omega) (by omega) fun o1 l1 H1 w1 _=>?_
    simp(disch:=omega) only[go_sem]
    refine zv (yy [105,110,112,117,116] (by simp[Lim])) w1 (by omega) (by omega) (by omega) fun o2 l2 H2 w2 _=>?_
    simp(disch:=omega) only[go_sem]
    refine zv (yy nm (by simp only[Lim];omega)) w2 (by omega) (by omega) (by omega) fun o3 l3 H3 w3 _=>?_
    simp(disch:=omega) only[go_sem]
    refine zv (yI [123] _) w3 (by omega) (by omega) (by omega) fun o4 l4 H4 w4 _=>?_
    simp(disch:=omega) only[go_sem]
    refine Yb (zfF ps hwx.2 (by simp only[Lim];omega)) w4 (by omega) fun o5 l5 H5 w5 _=>?_
    simp(disch:=omega) only[go_sem]
    refine zv (yI [125] _) w5 (by omega) (by omega) (by omega) fun o6 l6 H6 w6 _=>?_
    simp(disch:=omega) only[go_sem]
    exact hQ _ _ H6 H6 [] nofun rfl (Low.refl _) ⟨rfl,w6.fin (by simp only[Yo];rw[if_neg (by omega),if_neg (by omega),if_neg (by omega),if_pos trivial];simp only[← hn,hbv,zgH];simp[ye,Bool.and_comm,Bool.and_left_comm]) (fun _=>by simp only[tE];rw[if_neg (by omega),if_neg (by omega),if_neg (by omega)];simp) (by simp only[bE];omega) (by simp only[bE,Al2,Al3];omega)⟩
   ·have a2':¬ (((faces.length+flds.length+parts.length:Nat):Int)=0):=by omega
    have hbv:n=false:=by rw[hn,Bool.eq_false_iff];simp only[ne_eq,Al0,yw];omega
    subst k5
    simp(disch:=omega) only[ir236,k1,k2,k3,k4,k5',hfs,a1',hfc,hfl,hfp,e1,e2,a2',go_sem]
    refine zv (Zw _) w0 (by omega) (by omega) (by omega) fun o1 l1 H1 w1 _=>?_
    simp(disch:=omega) only[go_sem]
    refine zv (yy [105,110,112,117,116] (by simp[Lim])) w1 (by omega) (by omega) (by omega) fun o2 l2 H2 w2 _=>?_
    simp(disch:=omega) only[go_sem]
    refine zv (yy nm (by simp only[Lim];omega)) w2 (by omega) (by omega) (by omega) fun o3 l3 H3 w3 _=>?_
    simp(disch:=omega) only[go_sem]
    refine zv (yI [123] _) w3 (by omega) (by omega) (by omega) fun o4 l4 H4 w4 _=>?_
    simp(disch:=omega) only[go_sem]
    refine Yb (zfF ps hwx.2 (by simp only[Lim];omega)) w4 (by omega) fun o5 l5 H5 w5 _=>?_
    simp(disch:=omega) only[go_sem]
    refine zv (yI [125] _) w5 (by omega) (by omega) (by omega) fun o6 l6 H6 w6 _=>?_
    simp(disch:=omega) only[go_sem]
    exact hQ _ _ H6 H6 [] nofun rfl (Low.refl _) ⟨rfl,w6.fin (by simp only[Yo];rw[if_neg (by omega),if_neg (by omega),if_neg (by omega),if_pos trivial];simp only[← hn,hbv,zgH];simp[ye,Bool.and_comm,Bool.and_left_comm]) (fun _=>by simp only[tE];rw[if_neg (by omega),if_neg (by omega),if_neg (by omega)];simp) (by simp only[bE];omega) (by simp only[bE,Al2,Al3];omega)⟩
 ·simp(disch:=omega) only[ir236,k1,k2,k3,k4,k5,go_sem]
  refine zv (Zw false) w0 (by omega) (by omega) (by omega) fun o2 l2 H2 w2 _=>?_
  simp(disch:=omega) only[go_sem]
  exact hQ _ _ H2 H2 [] nofun rfl (Low.refl _) ⟨rfl,w2.fin (by simp[Yo,k1,k2,k3,k4,k5]) (fun e=>by simp[Yo,k1,k2,k3,k4,k5] at e) (by omega) (by omega)⟩
theorem zqx (s:SchD) (hw:zcr s) (hb:64*zN s+64≤Lim):zj Tryz.prog 210 [.agg (zr s)] zb.emp (zph fun v H'=>H'=zb.emp∧∃ L,v=.tup [.sl .no 2 (cKs L),.bool (za1 s)]∧wT L≤512*zN s+128∧(za1 s=true→L=zuP s)):=by
 refine zj.go ir210 ck210 (Al4 _) fun KP Q hQ=>?_
 obtain⟨defs,q,m⟩:=s
 have hle:=zeq defs
 have hce:=zev defs
 have hb':=hb
 simp only[zN,Lim] at hb'
 have ed:zr ⟨defs,q,m⟩=[.sl .no 6 (cEs defs),.str q,.str m]:=rfl
 obtain⟨R3,hR3⟩:∃ R3,R3=(zR q&&(decide (m=[])||zR m)):=⟨_,rfl⟩
 simp(disch:=omega) only[ir210,ed,go_sem]
 refine zdh zun fun v H1 ⟨w,hv,hW⟩=>?_
 subst hv
 simp(disch:=omega) only[go_sem]
 refine zc fun b hb=>?_
 have hbw:b≠w:=fun e=>by subst e;rw[hW.cell] at hb;cases hb
 have w0:=(YR.refl hW).alloc (x:=.cells [.ptr w 0]) hb
 have g0:(H1.upd b (.cells [.ptr w 0])) b=some (.cells [.ptr w 0]):=upd_same ..
 simp(disch:=omega) only[go_sem]
 refine zv (yy [115,99,104,101,109,97] (by simp[Lim])) w0 (by omega) (by omega) (by simp only[Lim,Al3];omega) fun o1 l1 H2 w1 s1=>?_
 have g1:=s1.box w0.here.own g0 hbw
 simp(disch:=omega) only[g1,go_sem]
 refine zv (yI [123] _) w1 (by omega) (by omega) (by simp only[Lim,Al3];omega) fun o2 l2 H3 w2 s2=>?_
 have g2:=s2.box w1.here.own g1 hbw
 simp(disch:=omega) only[g2,go_sem]
 refine zv (yy [113,117,101,114,121] (by simp[Lim])) w2 (by omega) (by omega) (by simp only[Lim,Al3];omega) fun o3 l3 H4 w3 s3=>?_
 have g3:=s3.box w2.here.own g2 hbw
 simp(disch:=omega) only[g3,go_sem]
 refine zv (yI [58] _) w3 (by omega) (by omega) (by simp only[Lim,Al3];omega) fun o4 l4 H5 w4 s4=>?_
 have g4:=s4.box w3.here.own g3 hbw
 simp(disch:=omega) only[g4,go_sem]
 refine zv (yy q (by simp only[Lim];omega)) w4 (by omega) (by omega) (by simp only[Lim,Al3];omega) fun o5 l5 H6 w5 s5=>?_
 have g5:=s5.box w4.here.own g4 hbw
 by_cases hm0:m=[]
 ·have hm1:=eq_true hm0
  simp(disch:=omega) only[hm1,g5,go_sem]
  refine zv (yI [125] _) w5 (by omega) (by omega) (by simp only[Lim,Al3];omega) fun oB lB HB wB sB=>?_
  have gB:=sB.box w5.here.own g5 hbw
  simp(disch:=omega) only[gB,hce,go_sem]
  refine zf defs 50 (fun x:Own×List Tok=>[]) (fun done rest x H'=>YR H1 .nil w [] true 0 (10+64*bEs done) (100+q.length+m.length+512*bEs done) (R3&&done.all Yo) (tRt q m++done.flatMap tE) H' x.1 x.2∧H' b=some (.cells [.ptr w 0])) (oB,lB) (by simp(disch:=omega) only[go_sem]) ⟨wB.castC (by omega) (by (try simp only[Al2,Al3]);omega) (by rw[hR3];simp[zht,zi1,zpg,hm0,ye]) (fun _=>by simp[tRt,hm0]),gB⟩ ?_ ?_
  ·rintro⟨o4,l4⟩ H4 J4 ⟨w4,g4⟩ hlt4
   simp only at w4 g4
   have er:za1 ⟨defs,q,m⟩=(R3&&defs.all Yo):=by rw[hR3,Bool.and_comm];rfl
   have hc4:=w4.here.cell
   have e4:=w4.eq
   rw[← er,Bool.true_and] at hc4 e4
   have hw4:=w4.wt
   simp(disch:=omega) only[hce,hlt4,g4,hc4,go_sem]
   exact hQ _ _ _ zb.emp [_,_] nofun rfl (Low.of_sub nofun) ⟨rfl,l4,rfl,by simp only[zgk,zN] at hw4 ⊢;omega,fun hr=>by have:=e4 hr;rw[zdC] at this;rw[this];rfl⟩
  ·rintro done x rest ⟨o4,l4⟩ H4 J4 hd hlt4 hlt5 ⟨w4,g4⟩ hJ4
   simp only at w4 g4
   have hg:=zc5 hd
   have hbm:=ziO done x rest
   rw[← hd] at hbm
   have hwx:=hw x (by rw[hd];simp)
   have hfw:=ztE x hwx (by simp only[Lim];omega)
   obtain⟨k,nm,faces,flds,parts,ps⟩:=x
   rw[yg] at hg hfw
   simp(disch:=omega) only[hce,hlt4,hg,go_sem]
   refine zc fun b6 hb6=>?_
   have h6:b6≠b:=fun e=>by subst e;rw[g4] at hb6;cases hb6
   have w5:=w4.alloc (x:=.cells [.int .i64 k,.str nm,.sl .no 1 (cT faces),.sl .no 6 (cLs flds),.sl .no 1 (cT parts),.sl .no 10 (cWs ps)]) hb6
   have g5:(H4.upd b6 (.cells [.int .i64 k,.str nm,.sl .no 1 (cT faces),.sl .no 6 (cLs flds),.sl .no 1 (cT parts),.sl .no 10 (cWs ps)])) b=some (.cells [.ptr w 0]):=by rw[upd_ne (Ne.symm h6)];exact g4
   simp(disch:=omega) only[g5,go_sem]
   refine Yb hfw w5 (by simp only[Lim,Al3];omega) fun o6 l6 H6 w6 s6=>?_
   have g6:=s6.box w5.here.own g5 hbw
   simp(disch:=omega) only[wrap64,go_sem]
   exact goJ (hJ4 (o6,l6) H6 ⟨w6.cast (by rw[zc1];omega) (by rw[zc1];omega) (by simp[ye]) (by simp),g6⟩) (by simp(disch:=omega) only[go_sem])
 ·simp(disch:=omega) only[hm0,g5,go_sem]
  refine zv (yy [109,117,116,97,116,105,111,110] (by simp[Lim])) w5 (by omega) (by omega) (by simp only[Lim,Al3];omega) fun o6 l6 H7 w6 s6=>?_
  have g6:=s6.box w5.here.own g5 hbw
  simp(disch:=omega) only[g6,go_sem]
  refine zv (yI [58] _) w6 (by omega) (by omega) (by simp only[Lim,Al3];omega) fun o7 l7 H8 w7 s7=>?_
  have g7:=s7.box w6.here.own g6 hbw
  simp(disch:=omega) only[g7,go_sem]
  refine zv (yy m (by simp only[Lim];omega)) w7 (by omega) (by omega) (by simp only[Lim,Al3];omega) fun o8 l8 H9 w8 s8=>?_
  have g8:=s8.box w7.here.own g7 hbw
  simp(disch:=omega) only[g8,go_sem]
  refine zv (yI [125] _) w8 (by omega) (by omega) (by simp only[Lim,Al3];omega) fun oB lB HB wB sB=>?_
  have gB:=sB.box w8.here.own g8 hbw
  simp(disch:=omega) only[gB,hce,go_sem]
  refine zf defs 50 (fun x:Own×List Tok=>[]) (fun done rest x H'=>YR H1 .nil w [] true 0 (10+64*bEs done) (100+q.length+m.length+512*bEs done) (R3&&done.all Yo) (tRt q m++done.flatMap tE) H' x.1 x.2∧H' b=some (.cells [.ptr w 0])) (oB,lB) (by simp(disch:=omega) only[go_sem]) ⟨wB.castC (by omega) (by (try simp only[Al2,Al3]);omega) (by rw[hR3];simp[zht,zi1,zpg,hm0,ye]) (fun _=>by simp[tRt,hm0]),gB⟩ ?_ ?_
  ·rintro⟨o4,l4⟩ H4 J4 ⟨w4,g4⟩ hlt4
   simp only at w4 g4
   have er:za1 ⟨defs,q,m⟩=(R3&&defs.all Yo):=by rw[hR3,Bool.and_comm];rfl
   have hc4:=w4.here.cell
   have e4:=w4.eq
   rw[← er,Bool.true_and] at hc4 e4
   have hw4:=w4.wt
   simp(disch:=omega) only[hce,hlt4,g4,hc4,go_sem]
   exact hQ _ _ _ zb.emp [_,_] nofun rfl (Low.of_sub nofun) ⟨rfl,l4,rfl,by simp only[zgk,zN] at hw4 ⊢;omega,fun hr=>by have:=e4 hr;rw[zdC] at this;rw[this];rfl⟩
  ·rintro done x rest ⟨o4,l4⟩ H4 J4 hd hlt4 hlt5 ⟨w4,g4⟩ hJ4
   simp only at w4 g4
   have hg:=zc5 hd
   have hbm:=ziO done x rest
   rw[← hd] at hbm
   have hwx:=hw x (by rw[hd];simp)
   have hfw:=ztE x hwx (by simp only[Lim];omega)
   obtain⟨k,nm,faces,flds,parts,ps⟩:=x
   rw[yg] at hg hfw
   simp(disch:=omega) only[hce,hlt4,hg,go_sem]
   refine zc fun b6 hb6=>?_
   have h6:b6≠b:=fun e=>by subst e;rw[g4] at hb6;cases hb6
   have w5:=w4.alloc (x:=.cells [.int .i64 k,.str nm,.sl .no 1 (cT faces),.sl .no 6 (cLs flds),.sl .no 1 (cT parts),.sl .no 10 (cWs ps)]) hb6
   have g5:(H4.upd b6 (.cells [.int .i64 k,.str nm,.sl .no 1 (cT faces),.sl .no 6 (cLs flds),.sl .no 1 (cT parts),.sl .no 10 (cWs ps)])) b=some (.cells [.ptr w 0]):=by rw[upd_ne (Ne.symm h6)];exact g4
   simp(disch:=omega) only[g5,go_sem]
   refine Yb hfw w5 (by simp only[Lim,Al3];omega) fun o6 l6 H6 w6 s6=>?_
   have g6:=s6.box w5.here.own g5 hbw
   simp(disch:=omega) only[wrap64,go_sem]
   exact goJ (hJ4 (o6,l6) H6 ⟨w6.cast (by rw[zc1];omega) (by rw[zc1];omega) (by simp[ye]) (by simp),g6⟩) (by simp(disch:=omega) only[go_sem])
theorem zsK (s:SchD) (hw:zcr s) (hb:64*zN s+64≤Lim):zi Tryz.prog 158 [.agg (zr s)] (.bool (za1 s)):=by
 refine zi.go ir158 ck158 (Al4 _) fun KP Q hQ=>?_
 have ed:zr s=[.sl .no 6 (cEs s.defs),.str s.q,.str s.m]:=rfl
 have hT:=zqx s hw hb
 rw[ed] at hT ⊢
 simp(disch:=omega) only[ir158,go_sem]
 refine zdh hT fun v H1 ⟨hH,L,hv,hL,hr⟩=>?_
 subst hv;subst hH
 simp(disch:=omega) only[go_sem]
 exact hQ _ _ _ _ nofun rfl (by simp[zd,ze,AV.strip,AV.strip1])
theorem zpt (s:SchD) (n:List UInt8) (hl:s.defs.length≤Lim):zi Tryz.prog 161 [.str n,.view (zr s)] (.bool (y8 s n [0])):=by
 have h1:=zcj s n [0] hl (by simp[Lim])
 generalize y8 s n [0]=x1 at *
 obtain⟨sd,sq,sm⟩:=s
 simp only[zr] at h1 ⊢
 refine zi.go ir161 ck161 (Al4 _) fun KP Q hQ=>?_
 simp(disch:=omega) only[ir161,go_sem]
 refine za (zi.low h1) ?_
 simp(disch:=omega) only[go_sem]
 exact hQ _ _ _ _ nofun rfl (by simp[zd,ze,AV.strip,AV.strip1])
noncomputable def zfO (s:SchD):Bool:=za1 s&&zaJ (s.defs.map (·.nm))&&zaY (s.defs.map (·.nm))&&!(s.defs.map (·.nm)).any fun n=>y8 s n [0]
theorem zq2 (s:SchD) (hw:zcr s) (hb:64*zN s+64≤Lim):zi Tryz.prog 116 [.agg (zr s)] (.bool (zfO s)):=by
 have hbs:zN s≤Lim:=by simp only[Lim] at hb ⊢;omega
 have hl:=yc hbs
 have hml:(s.defs.map (·.nm)).length≤Lim:=by rw[List.length_map];exact hl
 have h0:=zkM s.defs hl
 have h1:=zsK s hw hb
 have h2:=zlW (s.defs.map (·.nm)) hml
 have h3:=zjQ (s.defs.map (·.nm)) hml
 have h4:=zkX (fun n:List UInt8=>AV.str n) (s.defs.map (·.nm)) 161 [.view (zr s)] (fun n=>y8 s n [0]) hml (by kernel_rfl) fun n _=>zpt s n hl
 unfold zfO
 generalize za1 s=x1 at *
 generalize zaJ (s.defs.map (·.nm))=x2 at *
 generalize zaY (s.defs.map (·.nm))=x3 at *
 generalize (s.defs.map (·.nm)).any (fun n=>y8 s n [0])=x4 at *
 generalize s.defs.map (·.nm)=l at *
 obtain⟨sd,sq,sm⟩:=s
 simp only[zr] at h0 h1 h4 ⊢
 refine zi.go ir116 ck116 (Al4 _) fun KP Q hQ=>?_
 simp(disch:=omega) only[ir116,go_sem]
 refine za h0 ?_
 simp(disch:=omega) only[go_sem]
 refine za h1 ?_
 cases x1 with
 | false =>
  simp(disch:=omega) only[go_sem]
  exact hQ _ _ _ _ nofun rfl (by simp[zd,ze,AV.strip,AV.strip1])
 | true =>
 simp(disch:=omega) only[go_sem]
 refine za h2 ?_
 cases x2 with
 | false =>
  simp(disch:=omega) only[go_sem]
  exact hQ _ _ _ _ nofun rfl (by simp[zd,ze,AV.strip,AV.strip1])
 | true =>
 simp(disch:=omega) only[go_sem]
 refine za h3 ?_
 cases x3 with
 | false =>
  simp(disch:=omega) only[go_sem]
  exact hQ _ _ _ _ nofun rfl (by simp[zd,ze,AV.strip,AV.strip1])
 | true =>
 simp(disch:=omega) only[go_sem]
 refine za h4 ?_
 simp(disch:=omega) only[go_sem]
 exact hQ _ _ _ _ nofun rfl (by simp[zd,ze,AV.strip,AV.strip1])
noncomputable def zdx (s:SchD) (n:Int):Bool :=
 if n=1 then zfO s else if n=2 then ziF s else if n=3 then zeb s else if n=4 then ziM s else if n=5 then zif s
 else if n=6 then ziD s else if n=7 then ziG s else if n=8 then zlw s else if n=9 then zpS s else false
theorem zsv (s:SchD) (n:Int) (hw:zcr s) (hb:64*zN s+64≤Lim):zi Tryz.prog 68 [.agg (zr s),.int .i64 n] (.bool (zdx s n)):=by
 have hbs:zN s≤Lim:=by simp only[Lim] at hb ⊢;omega
 have r1:=zq2 s hw hb
 have r2:=zs9 s hbs
 have r3:=znm s hbs
 have r4:=ztn s hbs
 have r5:=zs6 s hbs
 have r6:=zsa s (by simp only[Lim] at hb ⊢;omega)
 have r7:=zsE s hbs
 have r8:=ztM s hbs
 have r9:=zmV s hbs
 have eR:zdx s n=zdx s n:=rfl
 conv at eR=>rhs;unfold zdx
 generalize zdx s n=F at *
 generalize zfO s=x1 at *
 generalize ziF s=x2 at *
 generalize zeb s=x3 at *
 generalize ziM s=x4 at *
 generalize zif s=x5 at *
 generalize ziD s=x6 at *
 generalize ziG s=x7 at *
 generalize zlw s=x8 at *
 generalize zpS s=x9 at *
 obtain⟨sd,sq,sm⟩:=s
 simp only[zr] at r1 r2 r3 r4 r5 r6 r7 r8 r9 ⊢
 refine zi.go ir68 ck68 (Al4 _) fun KP Q hQ=>?_
 by_cases h1:n=1
 ·subst h1
  rw[if_pos rfl] at eR
  subst eR
  simp(disch:=omega) only[ir68,go_sem]
  refine za r1 ?_
  simp(disch:=omega) only[go_sem]
  exact hQ _ _ _ _ nofun rfl (by simp[zd,ze,AV.strip,AV.strip1])
 rw[if_neg h1] at eR
 by_cases h2:n=2
 ·subst h2
  rw[if_pos rfl] at eR
  subst eR
  simp(disch:=omega) only[ir68,go_sem]
  refine za r2 ?_
  simp(disch:=omega) only[go_sem]
  exact hQ _ _ _ _ nofun rfl (by simp[zd,ze,AV.strip,AV.strip1])
 rw[if_neg h2] at eR
 by_cases h3:n=3
 ·subst h3
  rw[if_pos rfl] at eR
  subst eR
  simp(disch:=omega) only[ir68,go_sem]
  refine za r3 ?_
  simp(disch:=omega) only[go_sem]
  exact hQ _ _ _ _ nofun rfl (by simp[zd,ze,AV.strip,AV.strip1])
 rw[if_neg h3] at eR
 by_cases h4:n=4
 ·subst h4
  rw[if_pos rfl] at eR
  subst eR
  simp(disch:=omega) only[ir68,go_sem]
  refine za r4 ?_
  simp(disch:=omega) only[go_sem]
  exact hQ _ _ _ _ nofun rfl (by simp[zd,ze,AV.strip,AV.strip1])
 rw[if_neg h4] at eR
 by_cases h5:n=5
 ·subst h5
  rw[if_pos rfl] at eR
  subst eR
  simp(disch:=omega) only[ir68,go_sem]
  refine za r5 ?_
  simp(disch:=omega) only[go_sem]
  exact hQ _ _ _ _ nofun rfl (by simp[zd,ze,AV.strip,AV.strip1])
 rw[if_neg h5] at eR
 by_cases h6:n=6
 ·subst h6
  rw[if_pos rfl] at eR
  subst eR
  simp(disch:=omega) only[ir68,go_sem]
  refine za r6 ?_
  simp(disch:=omega) only[go_sem]
  exact hQ _ _ _ _ nofun rfl (by simp[zd,ze,AV.strip,AV.strip1])
 rw[if_neg h6] at eR
 by_cases h7:n=7
 ·subst h7
  rw[if_pos rfl] at eR
  subst eR
  simp(disch:=omega) only[ir68,go_sem]
  refine za r7 ?_
  simp(disch:=omega) only[go_sem]
  exact hQ _ _ _ _ nofun rfl (by simp[zd,ze,AV.strip,AV.strip1])
 rw[if_neg h7] at eR
 by_cases h8:n=8
 ·subst h8
  rw[if_pos rfl] at eR
  subst eR
  simp(disch:=omega) only[ir68,go_sem]
  refine za r8 ?_
  simp(disch:=omega) only[go_sem]
  exact hQ _ _ _ _ nofun rfl (by simp[zd,ze,AV.strip,AV.strip1])
 rw[if_neg h8] at eR
 by_cases h9:n=9
 ·subst h9
  rw[if_pos rfl] at eR
  subst eR
  simp(disch:=omega) only[ir68,go_sem]
  refine za r9 ?_
  simp(disch:=omega) only[go_sem]
  exact hQ _ _ _ _ nofun rfl (by simp[zd,ze,AV.strip,AV.strip1])
 rw[if_neg h9] at eR
 subst eR
 simp(disch:=omega) only[ir68,h1,h2,h3,h4,h5,h6,h7,h8,h9,go_sem]
 exact hQ _ _ _ _ nofun rfl (by simp[zd,ze,AV.strip,AV.strip1])
noncomputable def zec (s:SchD):Nat→Int→Int
 | 0,_=>0
 | k+1,n=>if zdx s n=true then zec s k (n+1) else n
theorem zq1 (s:SchD) (hw:zcr s) (hb:64*zN s+64≤Lim):zi Tryz.prog 24 [.agg (zr s)] (.int .i64 (zec s 9 1)):=by
 have hR:=fun n=>zsv s n hw hb
 generalize hF:zec s 9 1=F
 obtain⟨sd,sq,sm⟩:=s
 simp only[zr] at hR ⊢
 refine zi.go ir24 ck24 (Al4 _) fun KP Q hQ=>?_
 simp(disch:=omega) only[ir24,go_sem]
 refine zbp (fun x:Nat×Int=>[(3,.int .i64 x.2)]) (fun x _=>(x.1:Int)+x.2=10∧x.1≤9∧zec ⟨sd,sq,sm⟩ x.1 x.2=F) (fun x=>x.1) (9,1) (by simp(disch:=omega) only[go_sem]) ⟨by omega,by omega,hF⟩ ?_
 rintro⟨k,n⟩ H J ⟨hk,hn9,hn⟩ hJ
 simp only at hk hn9 hn
 cases k with
 | zero =>
  simp only[zec] at hn
  subst hn
  have hle:¬ (n≤9):=by omega
  simp(disch:=omega) only[hle,go_sem]
  exact hQ _ _ _ _ nofun rfl (by simp[zd,ze,AV.strip,AV.strip1])
 | succ k =>
  simp only[zec] at hn
  have hr:=hR n
  have hle:(n≤9)=True:=eq_true (by omega)
  generalize hx:zdx ⟨sd,sq,sm⟩ n=x at *
  simp(disch:=omega) only[hle,go_sem]
  refine za hr ?_
  cases x with
  | true =>
   rw[if_pos rfl] at hn
   simp(disch:=omega) only[wrap64,go_sem]
   exact goJ (hJ (k,n+1) _ (by simp only;omega) ⟨by simp only;omega,by simp only;omega,hn⟩) (by simp(disch:=omega) only[wrap64,go_sem])
  | false =>
   rw[if_neg (by simp)] at hn
   subst hn
   simp(disch:=omega) only[go_sem]
   exact hQ _ _ _ _ nofun rfl (by simp[zd,ze,AV.strip,AV.strip1])
mutual
def zfA:SelD→List (List UInt8)→List (List UInt8)
 | .mk k al nm args dirs on sels,l=>Zg sels (if k=1∧yu nm l=false then l++[nm] else l)
def Zg:List SelD→List (List UInt8)→List (List UInt8)
 | [],l=>l
 | x::r,l=>Zg r (zfA x l)
end
mutual
theorem zlB:∀(x:SelD) (l:List (List UInt8)),(zfA x l).length≤l.length+bS x
 | .mk k al nm args dirs on sels,l=>by
  have:=zek sels (if k=1∧yu nm l=false then l++[nm] else l)
  have h2:(if k=1∧yu nm l=false then l++[nm] else l).length≤l.length+1:=by split<;>simp
  simp only[zfA,bS];omega
theorem zek:∀(x:List SelD) (l:List (List UInt8)),(Zg x l).length≤l.length+bSs x
 | [],l=>by simp[Zg]
 | x::r,l=>by have:=zlB x l;have:=zek r (zfA x l);simp only[Zg,bSs];omega
end
def zpC (sels:List SelD):Prop:=∀(l:List (List UInt8)) (o:Own) (H:zb),l.length+bSs sels≤Lim→ya H o l.length 1→Y5 Tryz.prog 71 [.sl o 1 (cT l),.sl .no 7 (cSs sels)] H o 1 (cT (Zg sels l))
theorem zlZ (sels:List SelD) (ih:∀ k al nm args dirs on xs,SelD.mk k al nm args dirs on xs∈sels→zpC xs):zpC sels:=by
 intro l o H hb ho
 have hb':l.length+bSs sels≤1099511627776:=by simpa only[Lim] using hb
 have h1:=YJ sels
 have hsl:=YA sels
 refine zj.goO ir71 ck71 (Al4 _) fun KP Q hQ hP=>?_
 simp(disch:=omega) only[ir71,h1,go_sem]
 refine zf sels 9 (fun x:Own×List (List UInt8)=>[(0,.sl x.1 1 (cT x.2))]) (fun done rest x H'=>Zg rest x.2=Zg sels l∧x.2.length+bSs rest≤l.length+bSs sels∧OwnS H o H' x.1 x.2.length 1) (o,l) (by simp(disch:=omega) only[go_sem]) ⟨rfl,Al4 _,OwnS.refl ho⟩ ?_ ?_
 ·rintro⟨o1,a⟩ H' J ⟨hn,_,hs2⟩ hlt
  simp only[Zg] at hn
  simp(disch:=omega) only[h1,hlt,go_sem]
  refine hQ _ _ H' H' [.sl o1 1 (cT a)] nofun (by simp(disch:=omega) only[ir71,zQ,Zv,go_sem]) (Low.refl _) ⟨o1,by rw[← hn];rfl,by rw[← hn,zM];exact hs2⟩
 ·rintro done x rest ⟨o1,a⟩ H' J hd hlt _ ⟨hn,hle,hs2⟩ hJ
  have hg:=zab hd
  have hmem:x∈sels:=by rw[hd];simp
  have hx:=zlB x a
  simp only[Zg,bSs] at hn hle
  replace hs2:OwnS H o H' o1 a.length 1:=hs2
  obtain⟨k,al,nm,args,dirs,on,xs⟩:=x
  have hxs:=ih _ _ _ _ _ _ _ hmem
  have e0:zfA (.mk k al nm args dirs on xs) a=Zg xs (if k=1∧yu nm a=false then a++[nm] else a):=by simp only[zfA]
  have hbx:bSs xs+1≤bS (.mk k al nm args dirs on xs):=by simp only[bS];omega
  rw[y6] at hg
  have l1:=zM a
  have tail:∀(o2:Own) (a2:List (List UInt8)) (H2:zb),zfA (.mk k al nm args dirs on xs) a=Zg xs a2→a2.length≤a.length+1→OwnS H o H2 o2 a2.length 1→Y5 Tryz.prog 71 [.sl o2 1 (cT a2),.sl .no 7 (cSs xs)] H2 o2 1 (cT (Zg xs a2)):=fun o2 a2 H2 e h h'=>hxs a2 o2 H2 (by simp only[Lim];omega) h'.own
  simp(disch:=omega) only[h1,hlt,hg,go_sem]
  refine zc fun b6 hb6=>?_
  have hsu:=hs2.upd (x:=.cells [.int .i64 k,.str al,.str nm,.sl .no 6 (cMs args),.sl .no 2 (cDs dirs),.str on,.sl .no 7 (cSs xs)]) hb6
  by_cases hk:k=1
  case neg =>
   rw[if_neg (fun h=>hk h.1)] at e0
   simp(disch:=omega) only[hk,go_sem]
   refine zG (tail o1 a _ e0 (by omega) hsu) fun o2 H2 hs3=>?_
   rw[zM] at hs3
   simp(disch:=omega) only[wrap64,go_sem]
   exact goJ (hJ (o2,Zg xs a) H2 ⟨by rw[← hn,e0],by simp only;rw[e0] at hx;omega,hsu.trans hs3⟩) (by simp(disch:=omega) only[wrap64,go_sem])
  subst hk
  simp(disch:=omega) only[go_sem]
  refine za (zi.low (yP a nm (by simp only[Lim];omega))) ?_
  cases hh:yu nm a with
  | true =>
   rw[if_neg (fun h=>by rw[hh] at h;cases h.2)] at e0
   simp(disch:=omega) only[go_sem]
   refine zG (tail o1 a _ e0 (by omega) hsu) fun o2 H2 hs3=>?_
   rw[zM] at hs3
   simp(disch:=omega) only[wrap64,go_sem]
   exact goJ (hJ (o2,Zg xs a) H2 ⟨by rw[← hn,e0],by simp only;rw[e0] at hx;omega,hsu.trans hs3⟩) (by simp(disch:=omega) only[wrap64,go_sem])
  | false =>
   rw[if_pos ⟨rfl,hh⟩] at e0
   simp(disch:=omega) only[go_sem]
   refine zw (by rw[l1];exact hsu.own) ?_ ?_ fun o' H3 hs4=>?_
   ·simp only[l1,Al2,Al3];omega
   ·simp only[l1,Al2,Al3,maxLen];omega
   have e1:cT a++[[AV.str nm]]=cT (a++[nm]):=by simp[cT]
   have hs5:=hsu.trans hs4
   simp only[l1,Al2,Al3] at hs5
   have h6:H3 b6=some (.cells [.int .i64 1,.str al,.str nm,.sl .no 6 (cMs args),.sl .no 2 (cDs dirs),.str on,.sl .no 7 (cSs xs)]):=hs4.kept b6 _ (upd_same ..) fun d e=>by
    have:=hs2.own
    rw[e] at this
    have h7:H' b6=some (.tip (d+a.length) 1):=this
    rw[hb6] at h7
    cases h7
   simp(disch:=omega) only[e1,h6,go_sem]
   refine zG (tail o' (a++[nm]) _ e0 (by simp) (by simpa using hs5)) fun o2 H2 hs3=>?_
   rw[zM] at hs3
   simp(disch:=omega) only[wrap64,go_sem]
   exact goJ (hJ (o2,Zg xs (a++[nm])) H2 ⟨by rw[← hn,e0],by simp only;rw[e0] at hx;omega,(OwnS.trans (n:=a.length+1) (by simpa using hs5) hs3)⟩) (by simp(disch:=omega) only[wrap64,go_sem])
theorem zrZ (sels:List SelD):zpC sels:=by
 have h:∀ x:SelD,∀ k al nm args dirs on xs,x=.mk k al nm args dirs on xs→zpC xs:=SelD.ind fun k al nm args dirs on sels ih=>by
  intro k' al' nm' args' dirs' on' xs e
  cases e
  exact zlZ sels fun k al nm args dirs on xs hm=>ih _ hm _ _ _ _ _ _ _ rfl
 exact zlZ sels fun k al nm args dirs on xs _=>h _ k al nm args dirs on xs rfl
def zct (n:List UInt8) (f:FragD):Bool:=decide (f.nm=n)
def zFr:FragD:=⟨[],[],[],[]⟩
def yD (d:DocD) (n:List UInt8):Option FragD:=d.frags.find? (zct n)
theorem Ya (nm on:List UInt8) (dirs:List DirD) (sels:List SelD):cF ⟨nm,on,dirs,sels⟩=[.str nm,.str on,.sl .no 2 (cDs dirs),.sl .no 7 (cSs sels)]:=rfl
theorem zth (f:FragD) (n:List UInt8):zi Tryz.prog 131 [.agg (cF f),.view [.str n]] (.bool (zct n f)):=by
 obtain⟨nm,on,ds,ss⟩:=f
 refine zi.go ir131 ck131 (Al4 _) fun KP Q hQ=>?_
 simp(disch:=omega) only[ir131,Ya,go_sem]
 exact hQ _ _ _ _ nofun rfl (by simp[zd,ze,AV.strip,AV.strip1,zct])
theorem zjb (d:DocD) (n:List UInt8) (hl:d.frags.length≤Lim):zi Tryz.prog 72 [.agg (zX d),.str n] (.tup [.agg (cF ((yD d n).getD zFr)),.bool (yD d n).isSome]):=by
 have hlb:=hl
 simp only[Lim] at hlb
 have hx:=zp3 cF (fun _=>rfl) d.frags 131 [.view [.str n]] (zct n) hl (by kernel_rfl) fun x _=>zth x n
 have e0:yD d n=d.frags.find? (zct n):=rfl
 generalize yD d n=F at *
 obtain⟨ops,frags⟩:=d
 simp only[zX] at hx e0 ⊢
 have h6:=Y2 frags
 refine zi.go ir72 ck72 (Al4 _) fun KP Q hQ=>?_
 have fin:∀ o,F=o→∀ ρ H vs,zQ ρ H ir72.res=some vs→(zd vs).strip=.tup [.agg (cF (o.getD zFr)),.bool o.isSome]→Q .ret ρ H:=fun o e ρ H vs h1 h2=>hQ _ ρ H vs nofun h1 (by rw[h2,e])
 simp(disch:=omega) only[ir72,go_sem]
 refine zc fun b4 hb4=>?_
 simp(disch:=omega) only[go_sem]
 refine za hx ?_
 rcases Y6 (zct n) frags 0 with ⟨a,x,r,h1,h2,h3,h4⟩|⟨h1,h2⟩
 ·rw[h4,Int.zero_add]
  rw[h3] at e0
  have hg:=YX h1
  have h5:(a.length:Int)<frags.length:=by rw[h1,Al5,Al2];omega
  have h7:¬ ((a.length:Int)<0):=by omega
  obtain⟨nm,on,ds,ss⟩:=x
  rw[Ya] at hg
  simp(disch:=omega) only[hg,h6,h5,h7,go_sem]
  exact fin _ e0 _ _ [.agg (cF ⟨nm,on,ds,ss⟩),.bool true] (by simp(disch:=omega) only[ir72,zQ,Zv,Ya,go_sem]) rfl
 ·rw[h2]
  rw[h1] at e0
  simp(disch:=omega) only[go_sem]
  exact fin _ e0 _ _ [.agg [.str [],.str [],.sl .nil 2 [],.sl .nil 7 []],.bool false] (by simp(disch:=omega) only[ir72,zQ,Zv,go_sem]) rfl
mutual
def zm5:SelD→List (List UInt8)
 | .mk _ _ nm _ _ _ sels=>nm::zbN sels
def zbN:List SelD→List (List UInt8)
 | []=>[]
 | x::r=>zm5 x++zbN r
end
mutual
theorem zpw:∀ x:SelD,(zm5 x).length≤bS x
 | .mk _ _ nm _ _ _ sels=>by have:=zef sels;simp only[zm5,bS,Al2];omega
theorem zef:∀ l:List SelD,(zbN l).length≤bSs l
 | []=>by simp[zbN]
 | x::r=>by have:=zpw x;have:=zef r;simp only[zbN,bSs,Al5];omega
end
def OkN (U l:List (List UInt8)):Prop:=l.Nodup∧∀ x∈l,x∈U
theorem zp6 {U l:List (List UInt8)} {x:List UInt8} (h:OkN U l) (hx:yu x l=false) (hm:x∈U):OkN U (l++[x]):=by
 have hx':x ∉ l:=fun h=>by rw[(zgl x l).2 h] at hx;cases hx
 refine⟨List.nodup_append.2 ⟨h.1,by simp,fun a ha b hb e=>?_⟩,fun y hy=>?_⟩
 ·simp only[List.mem_singleton] at hb
  subst hb;subst e;exact hx' ha
 ·rcases List.mem_append.1 hy with h1|h1
  ·exact h.2 y h1
  ·simp only[List.mem_singleton] at h1
   subst h1;exact hm
theorem zly {U l:List (List UInt8)} (h:OkN U l):l.length≤U.length:=List.Nodup.length_le_of_subset h.1 (fun x hx=>h.2 x hx)
mutual
theorem zp2 {U:List (List UInt8)}:∀(x:SelD) (l:List (List UInt8)),(∀ y∈zm5 x,y∈U)→OkN U l→OkN U (zfA x l)
 | .mk k al nm args dirs on sels,l,hU,h=>by
  simp only[zfA]
  refine zbG sels _ (fun y hy=>hU y (by simp[zm5,hy])) ?_
  split
  ·rename_i hc;exact zp6 h hc.2 (hU nm (by simp[zm5]))
  ·exact h
theorem zbG {U:List (List UInt8)}:∀(x:List SelD) (l:List (List UInt8)),(∀ y∈zbN x,y∈U)→OkN U l→OkN U (Zg x l)
 | [],l,_,h=>by simpa[Zg] using h
 | x::r,l,hU,h=>by
  simp only[Zg]
  exact zbG r _ (fun y hy=>hU y (by simp[zbN,hy])) (zp2 x l (fun y hy=>hU y (by simp[zbN,hy])) h)
end
mutual
theorem zpZ:∀(x:SelD) (l:List (List UInt8)),l.length≤(zfA x l).length
 | .mk k al nm args dirs on sels,l=>by
  have:=zgV sels (if k=1∧yu nm l=false then l++[nm] else l)
  have h2:l.length≤(if k=1∧yu nm l=false then l++[nm] else l).length:=by split<;>simp
  simp only[zfA];omega
theorem zgV:∀(x:List SelD) (l:List (List UInt8)),l.length≤(Zg x l).length
 | [],l=>by simp[Zg]
 | x::r,l=>by have:=zpZ x l;have:=zgV r (zfA x l);simp only[Zg];omega
end
def zgY (d:DocD) (sels:List SelD):List (List UInt8):=zbN sels++d.frags.flatMap fun f=>zbN f.sels
theorem zag (f:FragD):bSs f.sels≤bF f:=by simp only[bF];omega
theorem zkf:∀ l:List FragD,(l.flatMap fun f=>zbN f.sels).length≤bFs l
 | []=>by simp
 | f::l=>by
  have h1:=zkf l
  have h2:=zef f.sels
  have h3:=zag f
  have e:bFs (f::l)=bF f+bFs l:=by simp[bFs]
  rw[List.flatMap_cons,Al5,e]
  omega
theorem zmf (d:DocD) (sels:List SelD):(zgY d sels).length≤bSs sels+bFs d.frags:=by
 have h1:=zef sels
 have h2:=zkf d.frags
 simp only[zgY,Al5]
 omega
def zbU (d:DocD):Nat→List (List UInt8)→Nat→List (List UInt8)
 | 0,l,_=>l
 | k+1,l,i=>match l[i]? with
  | none=>l
  | some x=>zbU d k (match yD d x with|none=>l|some f=>Zg f.sels l) (i+1)
def Zj (d:DocD) (sels:List SelD):List (List UInt8):=zbU d (bSs sels+bFs d.frags+1) (Zg sels []) 0
theorem zbw {f:FragD}:∀ {l:List FragD},f∈l→bF f≤bFs l
 | x::l,h=>by
  rcases List.mem_cons.1 h with rfl|h
  ·simp only[bFs,List.map_cons,List.sum_cons];omega
  ·have:=zbw h;simp only[bFs,List.map_cons,List.sum_cons] at this ⊢;omega
theorem zg9 {d:DocD} {U:List (List UInt8)} (hU:∀ f∈d.frags,∀ y∈zbN f.sels,y∈U):∀(k:Nat) (l:List (List UInt8)) (i:Nat),OkN U l→OkN U (zbU d k l i)
 | 0,l,i,h=>by simpa[zbU] using h
 | k+1,l,i,h=>by
  simp only[zbU]
  cases l[i]? with
  | none=>exact h
  | some x =>
   simp only
   refine zg9 hU k _ _ ?_
   cases hf:yD d x with
   | none=>exact h
   | some f=>exact zbG f.sels l (hU f (List.mem_of_find?_eq_some hf)) h
theorem zgu (d:DocD) (sels:List SelD) (H:zb) (hb:2*(bSs sels+bFs d.frags)≤Lim):Y5 Tryz.prog 28 [.agg (zX d),.sl .no 7 (cSs sels)] H .nil 1 (cT (Zj d sels)):=by
 have hb':2*(bSs sels+bFs d.frags)≤1099511627776:=by simpa only[Lim] using hb
 have hfl:=yO d.frags
 have hF:=fun n=>zjb d n (by simp only[Lim];omega)
 have hU0:∀ f∈d.frags,∀ y∈zbN f.sels,y∈zgY d sels:=fun f hf y hy=>by
  simp only[zgY,List.mem_append,List.mem_flatMap];exact .inr ⟨f,hf,hy⟩
 have hB:=zmf d sels
 have ok0:OkN (zgY d sels) (Zg sels []):=zbG sels [] (fun y hy=>by simp[zgY,hy]) ⟨List.nodup_nil,by simp⟩
 generalize hUe:zgY d sels=U at *
 have e0:Zj d sels=zbU d (bSs sels+bFs d.frags+1) (Zg sels []) 0:=rfl
 generalize hBe:bSs sels+bFs d.frags=B at *
 generalize Zj d sels=F at *
 have hmem:=fun n f (h:yD d n=some f)=>(show f∈d.frags from List.mem_of_find?_eq_some h)
 have hfb:=fun f (h:f∈d.frags)=>Nat.le_trans (zag f) (zbw h)
 have hS1:=zrZ sels [] .nil H (by simp only[Al3,Lim];omega) rfl
 have hcd:zX d=[.sl .no 5 (cOs d.ops),.sl .no 4 (cFs d.frags)]:=rfl
 simp only[hcd] at hF ⊢
 refine zj.goO ir28 ck28 (Al4 _) fun KP Q hQ hP=>?_
 simp(disch:=omega) only[ir28,go_sem]
 have hnil:cT []=[]:=rfl
 rw[hnil] at hS1
 refine zG hS1 fun o0 H0 hs0=>?_
 rw[zM] at hs0
 simp(disch:=omega) only[go_sem]
 refine zbp (fun x:Own×List (List UInt8)×Nat=>[(5,.sl x.1 1 (cT x.2.1)),(6,.int .i64 x.2.2)]) (fun x H'=>OwnS H .nil H' x.1 x.2.1.length 1∧OkN U x.2.1∧x.2.2≤x.2.1.length∧zbU d (B+1-x.2.2) x.2.1 x.2.2=F) (fun x=>B+1-x.2.2) (o0,Zg sels [],0) (by simp(disch:=omega) only[go_sem]) ⟨hs0,ok0,Nat.zero_le _,e0.symm⟩ ?_
 rintro⟨o,l,i⟩ H1 J ⟨ho,hk,hi,hr⟩ hJ
 replace ho:OwnS H .nil H1 o l.length 1:=ho
 simp only at hk hi hr
 have hlen:=zly hk
 have l1:=zM l
 have ek:B+1-i=(B-i)+1:=by omega
 rw[ek] at hr
 by_cases hil:i<l.length
 case neg =>
  have hg:l[i]?=none:=List.getElem?_eq_none (by omega)
  have hlt:(l.length:Int)≤i:=by omega
  simp only[zbU,hg] at hr
  simp(disch:=omega) only[l1,hlt,go_sem]
  refine hQ _ _ H1 H1 [.sl o 1 (cT l)] nofun (by simp(disch:=omega) only[ir28,zQ,Zv,go_sem]) (Low.refl _) ⟨o,by rw[← hr];rfl,by rw[← hr,zM];exact ho⟩
 obtain⟨a,x,r,hlx,hai⟩:∃ a x r,l=a++x::r∧a.length=i:=⟨l.take i,l[i],l.drop (i+1),by rw[List.getElem_cons_drop,List.take_append_drop],by rw[List.length_take];omega⟩
 subst hai
 have hgx:l[a.length]?=some x:=by rw[hlx];simp
 have hgt:(cT l).getD a.length []=[.str x]:=Z0 hlx
 have hlt:(a.length:Int)<l.length:=by omega
 have hge:¬ ((l.length:Int)≤a.length):=by omega
 have hFx:=hF x
 simp only[zbU,hgx] at hr
 simp(disch:=omega) only[l1,hlt,hge,hgt,go_sem]
 refine za hFx ?_
 cases hfe:yD d x with
 | none =>
  rw[hfe] at hr
  simp(disch:=omega) only[Option.getD,Option.isSome,zFr,Ya,go_sem]
  refine zc fun b7 hb7=>?_
  simp(disch:=omega) only[go_sem]
  exact goJ (hJ (o,l,a.length+1) _ (by simp only;omega) ⟨ho.upd hb7,hk,by simp only;omega,by simp only;rw[← hr];congr 1;omega⟩) (by simp(disch:=omega) only[wrap64,go_sem];simp)
 | some f =>
  rw[hfe] at hr
  have hfm:=hmem x f hfe
  have hfs:=hfb f hfm
  have hok2:=zbG f.sels l (hU0 f hfm) hk
  have hl2:=zek f.sels l
  have hS2:=fun H2 (h:ya H2 o l.length 1)=>zrZ f.sels l o H2 (by simp only[Lim];omega) h
  have hge2:l.length≤(Zg f.sels l).length:=zgV f.sels l
  obtain⟨fn,fo,fd,fs⟩:=f
  simp only at hS2 hok2 hl2 hr hge2
  simp(disch:=omega) only[Option.getD,Option.isSome,Ya,go_sem]
  refine zc fun b7 hb7=>?_
  simp(disch:=omega) only[go_sem]
  refine zG (hS2 _ (ho.own.upd hb7)) fun o2 H2 hs2=>?_
  rw[zM] at hs2
  simp(disch:=omega) only[go_sem]
  exact goJ (hJ (o2,Zg fs l,a.length+1) H2 (by simp only;omega) ⟨(ho.upd hb7).trans hs2,hok2,by simp only;omega,by simp only;rw[← hr];congr 1;omega⟩) (by simp(disch:=omega) only[wrap64,go_sem];simp)
theorem Y3 (k:Int) (nm:List UInt8) (vars:List VarD) (dirs:List DirD) (sels:List SelD):cO ⟨k,nm,vars,dirs,sels⟩=[.int .i64 k,.str nm,.sl .no 10 (cWs vars),.sl .no 2 (cDs dirs),.sl .no 7 (cSs sels)]:=rfl
def cLL (l:List (List SelD)):List (List AV):=l.map fun x=>[.sl .no 7 (cSs x)]
theorem zh4 (l:List (List SelD)):(cLL l).length=l.length:=by simp[cLL]
def Zb (d:DocD):List (List SelD):=d.ops.map (·.sels)++d.frags.map (·.sels)
theorem znU (d:DocD) (H:zb) (hb:zy d≤Lim):Y5 Tryz.prog 79 [.agg (zX d)] H .nil 1 (cLL (Zb d)):=by
 obtain⟨ops,frags⟩:=d
 have hb':bOs ops+bFs frags≤1099511627776:=by simpa only[Lim,zy] using hb
 have l1:=Z4 ops
 have l2:=Y2 frags
 have m1:=Zt ops
 have m2:=yO frags
 rw[show zX ⟨ops,frags⟩=[.sl .no 5 (cOs ops),.sl .no 4 (cFs frags)] from rfl]
 refine zj.goO ir79 ck79 (Al4 _) fun KP Q hQ hP=>?_
 simp(disch:=omega) only[ir79,l1,go_sem]
 refine zf ops 11 (fun x:Own×List (List SelD)=>[(3,.sl x.1 1 (cLL x.2))]) (fun done rest x H'=>x.2=done.map (·.sels)∧OwnS H .nil H' x.1 done.length 1) (.nil,[]) (by simp(disch:=omega) only[cLL,List.map,go_sem]) ⟨rfl,OwnS.refl (o:=.nil) (n:=0) rfl⟩ ?_ ?_
 ·rintro⟨o1,a⟩ H1 J ⟨hn,hs⟩ hlt
  simp only at hn
  subst hn
  replace hs:OwnS H .nil H1 o1 ops.length 1:=hs
  simp(disch:=omega) only[l1,hlt,l2,go_sem]
  refine zf frags 24 (fun x:Own×List (List SelD)=>[(3,.sl x.1 1 (cLL x.2))]) (fun done rest x H'=>x.2=ops.map (·.sels)++done.map (·.sels)∧OwnS H .nil H' x.1 (ops.length+done.length) 1) (o1,ops.map (·.sels)) (by simp(disch:=omega) only[go_sem]) ⟨by simp,hs⟩ ?_ ?_
  ·rintro⟨o2,a⟩ H2 J ⟨hn,hs⟩ hlt
   simp only at hn
   subst hn
   simp(disch:=omega) only[l2,hlt,go_sem]
   refine hQ _ _ H2 H2 [.sl o2 1 (cLL (Zb ⟨ops,frags⟩))] nofun (by simp(disch:=omega) only[ir79,zQ,Zv,Zb,go_sem]) (Low.refl _) ⟨o2,rfl,by rw[zh4];simpa[Zb] using hs⟩
  ·rintro done x rest ⟨o2,a⟩ H2 J hd hlt _ ⟨hn,hs⟩ hJ
   have hg:=YX hd
   simp only at hn
   subst hn
   have h3:=zh4 (ops.map (·.sels)++done.map (·.sels))
   simp only[Al5,List.length_map] at h3
   replace hs:OwnS H .nil H2 o2 (ops.length+done.length) 1:=hs
   obtain⟨nm,on,ds,ss⟩:=x
   rw[Ya] at hg
   simp(disch:=omega) only[l2,hlt,hg,go_sem]
   refine zc fun b7 hb7=>?_
   have hsu:=hs.upd (x:=.cells [.str nm,.str on,.sl .no 2 (cDs ds),.sl .no 7 (cSs ss)]) hb7
   simp(disch:=omega) only[go_sem]
   refine zw (by rw[h3];exact hsu.own) ?_ ?_ fun o' H3 hs2=>?_
   ·simp only[h3,Al2,Al3];omega
   ·simp only[h3,Al2,Al3,maxLen];omega
   have e1:cLL (ops.map (·.sels)++done.map (·.sels))++[[AV.sl .no 7 (cSs ss)]]=cLL (ops.map (·.sels)++(done.map (·.sels)++[ss])):=by simp[cLL]
   have hs3:=hsu.trans hs2
   simp only[h3,Al2,Al3] at hs3
   simp(disch:=omega) only[wrap64,e1,go_sem]
   exact goJ (hJ (o',ops.map (·.sels)++(done.map (·.sels)++[ss])) H3 ⟨by simp,by simpa[Nat.add_assoc] using hs3⟩) (by simp(disch:=omega) only[wrap64,go_sem])
 ·rintro done x rest ⟨o1,a⟩ H1 J hd hlt _ ⟨hn,hs⟩ hJ
  have hg:=Ym hd
  simp only at hn
  subst hn
  have h3:=zh4 (done.map (·.sels))
  simp only[List.length_map] at h3
  replace hs:OwnS H .nil H1 o1 done.length 1:=hs
  obtain⟨k,nm,vs,ds,ss⟩:=x
  rw[Y3] at hg
  simp(disch:=omega) only[l1,hlt,hg,go_sem]
  refine zc fun b5 hb5=>?_
  have hsu:=hs.upd (x:=.cells [.int .i64 k,.str nm,.sl .no 10 (cWs vs),.sl .no 2 (cDs ds),.sl .no 7 (cSs ss)]) hb5
  simp(disch:=omega) only[go_sem]
  refine zw (by rw[h3];exact hsu.own) ?_ ?_ fun o' H3 hs2=>?_
  ·simp only[h3,Al2,Al3];omega
  ·simp only[h3,Al2,Al3,maxLen];omega
  have e1:cLL (done.map (·.sels))++[[AV.sl .no 7 (cSs ss)]]=cLL (done.map (·.sels)++[ss]):=by simp[cLL]
  have hs3:=hsu.trans hs2
  simp only[h3,Al2,Al3] at hs3
  simp(disch:=omega) only[wrap64,e1,go_sem]
  exact goJ (hJ (o',done.map (·.sels)++[ss]) H3 ⟨by simp,by simpa using hs3⟩) (by simp(disch:=omega) only[wrap64,go_sem])
theorem znk (l:List (List UInt8)) (hl:l.length≤Lim):zi Tryz.prog 37 [.sl .no 1 (cT l)] (.bool (!zaJ l)):=by
 refine zi.go ir37 ck37 (Al4 _) fun KP Q hQ=>?_
 have h1:=zM l
 simp only[Lim] at hl
 simp(disch:=omega) only[ir37,h1,go_sem]
 refine zf l 7 (fun _:Unit=>[]) (fun done rest _ H=>zfk done rest=zaJ l) () (by simp(disch:=omega) only[go_sem]) rfl ?_ ?_
 ·rintro _ H J hn hlt
  simp(disch:=omega) only[h1,hlt,go_sem]
  exact hQ _ _ _ _ nofun rfl (by simp[zd,ze,AV.strip,AV.strip1,← hn,zfk])
 ·rintro done x rest _ H J hd hlt _ hn hJ
  have hg:=Z0 hd
  have htk:(cT l).take done.length=cT done:=by rw[hd];simp[cT]
  have hle:(done.length:Int)≤l.length:=by omega
  have hdl:done.length≤Lim:=by simp only[Lim];omega
  simp only[zfk] at hn
  simp(disch:=omega) only[h1,hlt,hg,htk,hle,go_sem]
  refine za (yP done x hdl) ?_
  cases hh:yu x done with
  | true =>
   rw[hh] at hn
   simp(disch:=omega) only[go_sem]
   exact hQ _ _ _ _ nofun rfl (by simp[zd,ze,AV.strip,AV.strip1,← hn])
  | false =>
   rw[hh] at hn
   simp(disch:=omega) only[go_sem]
   exact goJ (hJ () _ (by simpa using hn)) (by simp(disch:=omega) only[wrap64,go_sem])
theorem zuD (d:DocD) (H:zb) (hb:zy d≤Lim):Y5 Tryz.prog 39 [.agg (zX d)] H .nil 1 (cT (d.ops.map (·.nm))):=by
 obtain⟨ops,frags⟩:=d
 have hb':bOs ops+bFs frags≤1099511627776:=by simpa only[Lim,zy] using hb
 have l1:=Z4 ops
 have m1:=Zt ops
 have m2:=yO frags
 rw[show zX ⟨ops,frags⟩=[.sl .no 5 (cOs ops),.sl .no 4 (cFs frags)] from rfl]
 simp only
 refine zj.goO ir39 ck39 (Al4 _) fun KP Q hQ hP=>?_
 simp(disch:=omega) only[ir39,l1,go_sem]
 refine zf ops 9 (fun x:Own×List (List UInt8)=>[(3,.sl x.1 1 (cT x.2))]) (fun done rest x H'=>x.2=(done.map (·.nm))∧x.2.length≤done.length∧OwnS H .nil H' x.1 x.2.length 1) (.nil,[]) (by simp(disch:=omega) only[cT,List.map,go_sem]) ⟨rfl,Al4 _,OwnS.refl (o:=.nil) (n:=0) rfl⟩ ?_ ?_
 ·rintro⟨o1,a⟩ H1 J ⟨hn,hle,hs⟩ hlt
  simp only at hn
  subst hn
  simp(disch:=omega) only[l1,hlt,go_sem]
  refine hQ _ _ H1 H1 [.sl o1 1 (cT (ops.map (·.nm)))] nofun (by simp(disch:=omega) only[ir39,zQ,Zv,go_sem]) (Low.refl _) ⟨o1,rfl,by rw[zM];exact hs⟩
 ·rintro done x rest ⟨o1,a⟩ H1 J hd hlt _ ⟨hn,hle,hs⟩ hJ
  have hg:=Ym hd
  simp only at hn hle
  replace hs:OwnS H .nil H1 o1 a.length 1:=hs
  have h3:=zM a
  obtain⟨k,nm,vs,ds,ss⟩:=x
  rw[Y3] at hg
  simp(disch:=omega) only[l1,hlt,hg,go_sem]
  refine zc fun b5 hb5=>?_
  have hsu:=hs.upd (x:=.cells [.int .i64 k,.str nm,.sl .no 10 (cWs vs),.sl .no 2 (cDs ds),.sl .no 7 (cSs ss)]) hb5
  simp(disch:=omega) only[go_sem]
  refine zw (by rw[h3];exact hsu.own) ?_ ?_ fun o' H3 hs2=>?_
  ·simp only[h3,Al2,Al3];omega
  ·simp only[h3,Al2,Al3,maxLen];omega
  have e1:cT a++[[AV.str nm]]=cT (a++[nm]):=by simp[cT]
  have hs3:=hsu.trans hs2
  simp only[h3,Al2,Al3] at hs3
  simp(disch:=omega) only[wrap64,e1,go_sem]
  exact goJ (hJ (o',a++[nm]) H3 ⟨by rw[hn];simp,by simp only[Al5,Al2,Al3];omega,by simpa using hs3⟩) (by simp(disch:=omega) only[wrap64,go_sem])
theorem zsi (d:DocD) (H:zb) (hb:zy d≤Lim):Y5 Tryz.prog 42 [.agg (zX d)] H .nil 1 (cT (d.frags.map (·.nm))):=by
 obtain⟨ops,frags⟩:=d
 have hb':bOs ops+bFs frags≤1099511627776:=by simpa only[Lim,zy] using hb
 have l1:=Y2 frags
 have m1:=Zt ops
 have m2:=yO frags
 rw[show zX ⟨ops,frags⟩=[.sl .no 5 (cOs ops),.sl .no 4 (cFs frags)] from rfl]
 simp only
 refine zj.goO ir42 ck42 (Al4 _) fun KP Q hQ hP=>?_
 simp(disch:=omega) only[ir42,l1,go_sem]
 refine zf frags 9 (fun x:Own×List (List UInt8)=>[(3,.sl x.1 1 (cT x.2))]) (fun done rest x H'=>x.2=(done.map (·.nm))∧x.2.length≤done.length∧OwnS H .nil H' x.1 x.2.length 1) (.nil,[]) (by simp(disch:=omega) only[cT,List.map,go_sem]) ⟨rfl,Al4 _,OwnS.refl (o:=.nil) (n:=0) rfl⟩ ?_ ?_
 ·rintro⟨o1,a⟩ H1 J ⟨hn,hle,hs⟩ hlt
  simp only at hn
  subst hn
  simp(disch:=omega) only[l1,hlt,go_sem]
  refine hQ _ _ H1 H1 [.sl o1 1 (cT (frags.map (·.nm)))] nofun (by simp(disch:=omega) only[ir42,zQ,Zv,go_sem]) (Low.refl _) ⟨o1,rfl,by rw[zM];exact hs⟩
 ·rintro done x rest ⟨o1,a⟩ H1 J hd hlt _ ⟨hn,hle,hs⟩ hJ
  have hg:=YX hd
  simp only at hn hle
  replace hs:OwnS H .nil H1 o1 a.length 1:=hs
  have h3:=zM a
  obtain⟨nm,on,ds,ss⟩:=x
  rw[Ya] at hg
  simp(disch:=omega) only[l1,hlt,hg,go_sem]
  refine zc fun b5 hb5=>?_
  have hsu:=hs.upd (x:=.cells [.str nm,.str on,.sl .no 2 (cDs ds),.sl .no 7 (cSs ss)]) hb5
  simp(disch:=omega) only[go_sem]
  refine zw (by rw[h3];exact hsu.own) ?_ ?_ fun o' H3 hs2=>?_
  ·simp only[h3,Al2,Al3];omega
  ·simp only[h3,Al2,Al3,maxLen];omega
  have e1:cT a++[[AV.str nm]]=cT (a++[nm]):=by simp[cT]
  have hs3:=hsu.trans hs2
  simp only[h3,Al2,Al3] at hs3
  simp(disch:=omega) only[wrap64,e1,go_sem]
  exact goJ (hJ (o',a++[nm]) H3 ⟨by rw[hn];simp,by simp only[Al5,Al2,Al3];omega,by simpa using hs3⟩) (by simp(disch:=omega) only[wrap64,go_sem])
theorem zsU (d:DocD) (H:zb) (hb:zy d≤Lim):Y5 Tryz.prog 38 [.agg (zX d)] H .nil 1 (cT ((d.ops.map (·.nm)).filter (fun n=>!decide (n=[])))):=by
 obtain⟨ops,frags⟩:=d
 have hb':bOs ops+bFs frags≤1099511627776:=by simpa only[Lim,zy] using hb
 have l1:=Z4 ops
 have m1:=Zt ops
 have m2:=yO frags
 rw[show zX ⟨ops,frags⟩=[.sl .no 5 (cOs ops),.sl .no 4 (cFs frags)] from rfl]
 simp only
 refine zj.goO ir38 ck38 (Al4 _) fun KP Q hQ hP=>?_
 simp(disch:=omega) only[ir38,l1,go_sem]
 refine zf ops 9 (fun x:Own×List (List UInt8)=>[(3,.sl x.1 1 (cT x.2))]) (fun done rest x H'=>x.2=((done.map (·.nm)).filter (fun n=>!decide (n=[])))∧x.2.length≤done.length∧OwnS H .nil H' x.1 x.2.length 1) (.nil,[]) (by simp(disch:=omega) only[cT,List.map,go_sem]) ⟨rfl,Al4 _,OwnS.refl (o:=.nil) (n:=0) rfl⟩ ?_ ?_
 ·rintro⟨o1,a⟩ H1 J ⟨hn,hle,hs⟩ hlt
  simp only at hn
  subst hn
  simp(disch:=omega) only[l1,hlt,go_sem]
  refine hQ _ _ H1 H1 [.sl o1 1 (cT ((ops.map (·.nm)).filter (fun n=>!decide (n=[]))))] nofun (by simp(disch:=omega) only[ir38,zQ,Zv,go_sem]) (Low.refl _) ⟨o1,rfl,by rw[zM];exact hs⟩
 ·rintro done x rest ⟨o1,a⟩ H1 J hd hlt _ ⟨hn,hle,hs⟩ hJ
  have hg:=Ym hd
  simp only at hn hle
  replace hs:OwnS H .nil H1 o1 a.length 1:=hs
  have h3:=zM a
  obtain⟨k,nm,vs,ds,ss⟩:=x
  rw[Y3] at hg
  simp(disch:=omega) only[l1,hlt,hg,go_sem]
  refine zc fun b5 hb5=>?_
  have hsu:=hs.upd (x:=.cells [.int .i64 k,.str nm,.sl .no 10 (cWs vs),.sl .no 2 (cDs ds),.sl .no 7 (cSs ss)]) hb5
  by_cases hz:nm=[]
  ·subst hz
   simp(disch:=omega) only[go_sem]
   exact goJ (hJ (o1,a) _ ⟨by rw[hn];simp,by simp only[Al5,Al2,Al3];omega,hsu⟩) (by simp(disch:=omega) only[wrap64,go_sem])
  simp(disch:=omega) only[hz,go_sem]
  refine zw (by rw[h3];exact hsu.own) ?_ ?_ fun o' H3 hs2=>?_
  ·simp only[h3,Al2,Al3];omega
  ·simp only[h3,Al2,Al3,maxLen];omega
  have e1:cT a++[[AV.str nm]]=cT (a++[nm]):=by simp[cT]
  have hs3:=hsu.trans hs2
  simp only[h3,Al2,Al3] at hs3
  simp(disch:=omega) only[wrap64,e1,go_sem]
  exact goJ (hJ (o',a++[nm]) H3 ⟨by rw[hn];simp[hz],by simp only[Al5,Al2,Al3];omega,by simpa using hs3⟩) (by simp(disch:=omega) only[wrap64,go_sem])
mutual
def zkF (s:SchD):SelD→Bool
 | .mk k _ _ _ _ on sels=>(decide (k=2)&&(!decide (on=[])&&!ZT s on))||!zcW s sels
def zcW (s:SchD):List SelD→Bool
 | []=>true
 | x::r=>!zkF s x&&zcW s r
end
theorem zhP (s:SchD):∀ l,(!l.any (zkF s))=zcW s l
 | []=>rfl
 | x::r=>by rw[List.any_cons,zcW,← zhP s r];cases zkF s x<;>simp
def znS (s:SchD) (sels:List SelD):Prop:=bSs sels≤Lim→zi Tryz.prog 81 [.agg (zr s),.sl .no 7 (cSs sels)] (.bool (zcW s sels))
theorem ztX (s:SchD) (x:SelD) (hl:s.defs.length≤Lim) (hb:bS x≤Lim) (ih:∀ k al nm args dirs on xs,x=.mk k al nm args dirs on xs→znS s xs):zi Tryz.prog 135 [.agg (cS x),.view (zr s)] (.bool (zkF s x)):=by
 obtain⟨k,al,nm,args,dirs,on,xs⟩:=x
 have h1:=zfU s on hl
 have h2:=ih k al nm args dirs on xs rfl (by simp only[bS] at hb;omega)
 simp only[zkF]
 generalize ZT s on=x1 at *
 generalize zcW s xs=x2 at *
 obtain⟨sd,sq,sm⟩:=s
 simp only[zr] at h1 h2 ⊢
 refine zi.go ir135 ck135 (Al4 _) fun KP Q hQ=>?_
 by_cases hk:k=2
 case neg =>
  simp(disch:=omega) only[ir135,y6,hk,go_sem]
  refine za h2 ?_
  simp(disch:=omega) only[go_sem]
  exact hQ _ _ _ _ nofun rfl (by simp[zd,ze,AV.strip,AV.strip1,hk])
 subst hk
 by_cases ho:on=[]
 ·have ho':=eq_true ho
  simp(disch:=omega) only[ir135,y6,ho',go_sem]
  refine za h2 ?_
  simp(disch:=omega) only[go_sem]
  exact hQ _ _ _ _ nofun rfl (by simp[zd,ze,AV.strip,AV.strip1,ho])
 simp(disch:=omega) only[ir135,y6,ho,go_sem]
 refine za h1 ?_
 cases x1 with
 | false =>
  simp(disch:=omega) only[go_sem]
  exact hQ _ _ _ _ nofun rfl (by simp[zd,ze,AV.strip,AV.strip1,ho])
 | true =>
  simp(disch:=omega) only[go_sem]
  refine za h2 ?_
  simp(disch:=omega) only[go_sem]
  exact hQ _ _ _ _ nofun rfl (by simp[zd,ze,AV.strip,AV.strip1,ho])
theorem zlo {x:SelD} {l:List SelD} (h:x∈l):bS x≤bSs l:=by
 obtain⟨a,b,hd⟩:=List.append_of_mem h
 have:=zbf a x b
 rw[← hd] at this
 omega
theorem zk9 (s:SchD) (hl:s.defs.length≤Lim) (sels:List SelD) (ih:∀ k al nm args dirs on xs,SelD.mk k al nm args dirs on xs∈sels→znS s xs):znS s sels:=by
 intro hb
 have hsl:=YA sels
 have hx:=zs5 cS zsM sels 135 [.view (zr s)] (zkF s) (by omega) (by kernel_rfl) fun x hx=>ztX s x hl (by have:=zlo hx;omega) fun k al nm args dirs on xs e=>ih k al nm args dirs on xs (e▸hx)
 rw[← zd7] at hx
 rw[← zhP]
 generalize sels.any (zkF s)=x1 at *
 obtain⟨sd,sq,sm⟩:=s
 simp only[zr] at hx ⊢
 refine zi.go ir81 ck81 (Al4 _) fun KP Q hQ=>?_
 simp(disch:=omega) only[ir81,go_sem]
 refine za hx ?_
 simp(disch:=omega) only[go_sem]
 exact hQ _ _ _ _ nofun rfl (by simp[zd,ze,AV.strip,AV.strip1])
theorem zuz (s:SchD) (hl:s.defs.length≤Lim) (sels:List SelD):znS s sels:=by
 have h:∀ x:SelD,∀ k al nm args dirs on xs,x=.mk k al nm args dirs on xs→znS s xs:=SelD.ind fun k al nm args dirs on sels ih=>by
  intro k' al' nm' args' dirs' on' xs e
  cases e
  exact zk9 s hl sels fun k al nm args dirs on xs hm=>ih _ hm _ _ _ _ _ _ _ rfl
 exact zk9 s hl sels fun k al nm args dirs on xs _=>h _ k al nm args dirs on xs rfl
theorem zur (s:SchD) (f:FragD) (hl:s.defs.length≤Lim):zi Tryz.prog 76 [.agg (cF f),.view (zr s)] (.bool (!ZT s f.on)):=by
 have h1:=zfU s f.on hl
 obtain⟨nm,on,ds,ss⟩:=f
 simp only at h1 ⊢
 generalize ZT s on=x1 at *
 obtain⟨sd,sq,sm⟩:=s
 simp only[zr] at h1 ⊢
 refine zi.go ir76 ck76 (Al4 _) fun KP Q hQ=>?_
 simp(disch:=omega) only[ir76,Ya,go_sem]
 refine za h1 ?_
 simp(disch:=omega) only[go_sem]
 exact hQ _ _ _ _ nofun rfl (by simp[zd,ze,AV.strip,AV.strip1])
theorem zuM (s:SchD) (l:List SelD) (hl:s.defs.length≤Lim) (hb:bSs l≤Lim):zi Tryz.prog 80 [.sl .no 7 (cSs l),.view (zr s)] (.bool (!zcW s l)):=by
 have h1:=zuz s hl l hb
 generalize zcW s l=x1 at *
 obtain⟨sd,sq,sm⟩:=s
 simp only[zr] at h1 ⊢
 refine zi.go ir80 ck80 (Al4 _) fun KP Q hQ=>?_
 simp(disch:=omega) only[ir80,go_sem]
 refine za h1 ?_
 simp(disch:=omega) only[go_sem]
 exact hQ _ _ _ _ nofun rfl (by simp[zd,ze,AV.strip,AV.strip1])
def onM (s:SchD) (d:DocD):Bool:=!(d.frags.any fun f=>!ZT s f.on)&&!((Zb d).any fun l=>!zcW s l)
theorem zdU {d:DocD} {l:List SelD} (h:l∈Zb d):bSs l≤zy d:=by
 simp only[Zb,List.mem_append,List.mem_map] at h
 rcases h with ⟨o,ho,rfl⟩|⟨f,hf,rfl⟩
 ·obtain⟨a,b,hd⟩:=List.append_of_mem ho
  have:=Y1 a o b
  rw[← hd] at this
  simp only[bO,zy] at this ⊢;omega
 ·have:=zbw hf
  have:=zag f
  simp only[zy];omega
theorem zfW (d:DocD):(Zb d).length≤zy d:=by
 have:=Zt d.ops
 have:=yO d.frags
 simp only[Zb,Al5,List.length_map,zy];omega
theorem onC (s:SchD) (d:DocD) (hl:s.defs.length≤Lim) (hb:zy d≤Lim):zi Tryz.prog 43 [.agg (zr s),.agg (zX d)] (.bool (onM s d)):=by
 have hfl:=yO d.frags
 have hbd:bOs d.ops+bFs d.frags≤Lim:=hb
 have h1:=zlt cF (fun _=>rfl) d.frags 76 [.view (zr s)] (fun f=>!ZT s f.on) (by omega) (by kernel_rfl) fun f _=>zur s f hl
 have h2:=zpI (fun l:List SelD=>AV.sl .no 7 (cSs l)) (Zb d) 80 [.view (zr s)] (fun l=>!zcW s l) (by have:=zfW d;omega) (by kernel_rfl) fun l h=>zuM s l hl (by have:=zdU h;omega)
 have h3:=fun H=>znU d H hb
 unfold onM
 generalize (d.frags.any fun f=>!ZT s f.on)=x1 at *
 generalize ((Zb d).any fun l=>!zcW s l)=x2 at *
 obtain⟨sd,sq,sm⟩:=s
 obtain⟨ops,frags⟩:=d
 simp only[zr,zX] at h1 h2 h3 ⊢
 refine zi.go ir43 ck43 (Al4 _) fun KP Q hQ=>?_
 simp(disch:=omega) only[ir43,go_sem]
 refine za h1 ?_
 cases x1 with
 | true =>
  simp(disch:=omega) only[go_sem]
  exact hQ _ _ _ _ nofun rfl (by simp[zd,ze,AV.strip,AV.strip1])
 | false =>
  simp(disch:=omega) only[go_sem]
  refine zG (h3 _) fun o2 H2 hs2=>?_
  simp(disch:=omega) only[go_sem]
  refine za (zi.low h2) ?_
  simp(disch:=omega) only[go_sem]
  exact hQ _ _ _ _ nofun rfl (by simp[zd,ze,AV.strip,AV.strip1])
def Zc (d:DocD):Nat:=2*(zy d+zy d)
theorem zb0 (d:DocD) (sels:List SelD):(Zj d sels).length≤bSs sels+bFs d.frags:=by
 have h:=zg9 (d:=d) (U:=zgY d sels) (fun f hf y hy=>by simp only[zgY,List.mem_append,List.mem_flatMap];exact .inr ⟨f,hf,hy⟩) (bSs sels+bFs d.frags+1) (Zg sels []) 0 (zbG sels [] (fun y hy=>by simp[zgY,hy]) ⟨List.nodup_nil,by simp⟩)
 exact Nat.le_trans (zly h) (zmf d sels)
def zjr (d:DocD) (f:FragD):Bool:=yu f.nm (Zj d f.sels)
theorem zqG (d:DocD) (f:FragD) (hf:f∈d.frags) (hb:Zc d≤Lim):zi Tryz.prog 85 [.agg (cF f),.view (zX d)] (.bool (zjr d f)):=by
 have h1:=zbw hf
 have h2:=zag f
 have h0:bFs d.frags≤zy d:=by simp only[zy];omega
 have hb2:=hb
 simp only[Zc] at hb2
 have hR:=fun H=>zgu d f.sels H (by omega)
 have hlen:=zb0 d f.sels
 have hC:=yP (Zj d f.sels) f.nm (by omega)
 unfold zjr
 generalize Zj d f.sels=R at *
 generalize yu f.nm R=x1 at *
 obtain⟨nm,on,ds,ss⟩:=f
 obtain⟨ops,frags⟩:=d
 simp only[zX] at hR hC ⊢
 refine zi.go ir85 ck85 (Al4 _) fun KP Q hQ=>?_
 simp(disch:=omega) only[ir85,Ya,go_sem]
 refine zG (hR _) fun o2 H2 hs2=>?_
 simp(disch:=omega) only[go_sem]
 refine za (zi.low hC) ?_
 simp(disch:=omega) only[go_sem]
 exact hQ _ _ _ _ nofun rfl (by simp[zd,ze,AV.strip,AV.strip1])
def zdy (d:DocD):Bool:=d.frags.any (zjr d)
theorem zn1 (d:DocD) (hb:Zc d≤Lim):zi Tryz.prog 45 [.agg (zX d)] (.bool (zdy d)):=by
 have hfl:=yO d.frags
 have h0:bFs d.frags≤zy d:=by simp only[zy];omega
 have hb2:=hb
 simp only[Zc] at hb2
 have h1:=zlt cF (fun _=>rfl) d.frags 85 [.view (zX d)] (zjr d) (by omega) (by kernel_rfl) fun f hf=>zqG d f hf hb
 unfold zdy
 generalize d.frags.any (zjr d)=x1 at *
 obtain⟨ops,frags⟩:=d
 simp only[zX] at h1 ⊢
 refine zi.go ir45 ck45 (Al4 _) fun KP Q hQ=>?_
 simp(disch:=omega) only[ir45,go_sem]
 refine za h1 ?_
 simp(disch:=omega) only[go_sem]
 exact hQ _ _ _ _ nofun rfl (by simp[zd,ze,AV.strip,AV.strip1])
end Go.Proofs.YtbcocdloklbkjaaGreatDoor
