import Derived.Test.YtaielcdfcgpbiaaGreatDoorM1
import Derived.Test.YtaielcdfcgpbiaaGreatDoorM2
import Derived.Test.YtaielcdfcgpbiaaGreatDoorM3
import Derived.Test.YtaielcdfcgpbiaaGreatDoorM4
import Derived.Test.YtaielcdfcgpbiaaGreatDoorM5
import Derived.Test.YtaielcdfcgpbiaaGreatDoorM6
import Derived.Test.YtaielcdfcgpbiaaGreatDoorM7
set_option maxRecDepth 100000
set_option linter.all false
namespace Go.Proofs.YtaielcdfcgpbiaaGreatDoor
open Go.Ab
def YC (f:FuncId) (args:List AV) (B W:Nat) (lo hi:Int) (r:Int→Bool) (tk:List Tok):Prop :=
 ∀(H:Heap) (w:Nat) (o:Own) (l:List Tok) (ok:Bool) (dp:Int),WAt H w o l ok dp→lo≤dp→dp≤hi→l.length+B≤Lim →
  ACalls Tryz.prog f (.ptr w 0::args) H (ziR fun v H'=>v=.tup []∧∃ o' l',WAt H' w o' l' (ok&&r dp) dp∧WStep H o w H' o'∧l'.length≤l.length+B∧((ok&&r dp)=true→l'=l++tk)∧wT l'≤wT l+W)
structure YR (H0:Heap) (o0:Own) (w:Nat) (l0:List Tok) (ok0:Bool) (dp:Int) (B W:Nat) (r:Bool) (tk:List Tok) (H:Heap) (o:Own) (l:List Tok):Prop where
 here:WAt H w o l (ok0&&r) dp
 st:WStep H0 o0 w H o
 len:l.length≤l0.length+B
 eq:(ok0&&r)=true→l=l0++tk
 wt:wT l≤wT l0+W
theorem YR.refl {H:Heap} {o:Own} {w:Nat} {l:List Tok} {ok:Bool} {dp:Int} (h:WAt H w o l ok dp):YR H o w l ok dp 0 0 true [] H o l :=
 ⟨by rw[Bool.and_true];exact h,.refl _ _ _,Al4 _,fun _=>by simp,Al4 _⟩
theorem YR.alloc {H0 H:Heap} {o0 o:Own} {w b B W:Nat} {l0 l tk:List Tok} {ok0 r:Bool} {dp:Int} {x:AObj} (h:YR H0 o0 w l0 ok0 dp B W r tk H o l) (hb:H b=none):YR H0 o0 w l0 ok0 dp B W r tk (H.upd b x) o l :=
 ⟨h.here.alloc hb,h.st.alloc hb,h.len,h.eq,h.wt⟩
theorem YR.fin {H0 H:Heap} {o0 o:Own} {w B B' W W':Nat} {l0 l tk tk':List Tok} {ok0 r r':Bool} {dp:Int} (h:YR H0 o0 w l0 ok0 dp B W r tk H o l) (hr:r=r') (ht:r'=true→tk=tk') (hB:B≤B') (hW:W≤W') :
  ∃ o' l',WAt H w o' l' (ok0&&r') dp∧WStep H0 o0 w H o'∧l'.length≤l0.length+B'∧((ok0&&r')=true→l'=l0++tk')∧wT l'≤wT l0+W':=by
 subst hr
 refine⟨o,l,h.here,h.st,by have:=h.len;omega,fun e=>?_,by have:=h.wt;omega⟩
 rw[h.eq e,ht (by simp only[Al0] at e;exact e.2)]
theorem YR.cast {H0 H:Heap} {o0 o:Own} {w B B' W W':Nat} {l0 l tk tk':List Tok} {ok0 r r':Bool} {dp:Int} (h:YR H0 o0 w l0 ok0 dp B W r tk H o l) (hB:B≤B') (hW:W≤W') (hr:r=r') (ht:tk=tk'):YR H0 o0 w l0 ok0 dp B' W' r' tk' H o l:=by
 subst hr;subst ht
 exact⟨h.here,h.st,by have:=h.len;omega,h.eq,by have:=h.wt;omega⟩
theorem YR.castC {H0 H:Heap} {o0 o:Own} {w B B' W W':Nat} {l0 l tk tk':List Tok} {ok0 r r':Bool} {dp:Int} (h:YR H0 o0 w l0 ok0 dp B W r tk H o l) (hB:B≤B') (hW:W≤W') (hr:r=r') (ht:r'=true→tk=tk'):YR H0 o0 w l0 ok0 dp B' W' r' tk' H o l:=by
 subst hr
 exact⟨h.here,h.st,by have:=h.len;omega,fun e=>by rw[h.eq e,ht (by simp only[Al0] at e;exact e.2)],by have:=h.wt;omega⟩
theorem YR.after {H0 H1 H:Heap} {o0 o1 o:Own} {w B W:Nat} {l0 l tk:List Tok} {ok0 r:Bool} {dp:Int} (h:YR H1 o1 w l0 ok0 dp B W r tk H o l) (hs:WStep H0 o0 w H1 o1) {x:AObj} (hw:H1 w=some x):YR H0 o0 w l0 ok0 dp B W r tk H o l :=
 ⟨h.here,hs.trans hw h.st,h.len,h.eq,h.wt⟩
section
variable {KP:AV→Heap→Prop} {Q:AExit→Env→Heap→Prop} {st:List Fr} {ρ:Env} {H:Heap} {all items:List AItem} {d:Option Nat} {R:List Chk}
theorem zaG {f:FuncId} {args:List AV} {B W:Nat} {lo hi:Int} {r:Int→Bool} {tk:List Tok} (hc:YC f args B W lo hi r tk) {w:Nat} {o:Own} {l:List Tok} {ok:Bool} {dp:Int} (h:WAt H w o l ok dp) (h0:lo≤dp) (h1:dp≤hi) (hb:l.length+B≤Lim)
  (k:∀ o' l' H',WAt H' w o' l' (ok&&r dp) dp→WStep H o w H' o'→l'.length≤l.length+B→((ok&&r dp)=true→l'=l++tk)→wT l'≤wT l+W→goR Tryz.prog KP Q all items st R (ρ.set d (.tup [])) H') :
  goK Tryz.prog KP Q all items st d R ρ f (.ptr w 0::args) H:=by
 refine goK_ret (hc H w o l ok dp h h0 h1 hb) fun v H' ⟨hv,o',l',h2,h3,h4,h5,h6⟩=>?_
 subst hv
 exact k o' l' H' h2 h3 h4 h5 h6
theorem zg {f:FuncId} {args:List AV} {B' W':Nat} {lo hi:Int} {r':Int→Bool} {tk':List Tok} (hc:YC f args B' W' lo hi r' tk') {H0:Heap} {o0 o:Own} {w B W:Nat} {l0 l tk:List Tok} {ok0 r:Bool} {dp:Int} (h:YR H0 o0 w l0 ok0 dp B W r tk H o l) (h0:lo≤dp) (h1:dp≤hi)
  (hb:l0.length+(B+B')≤Lim) (k:∀ o' l' H',YR H0 o0 w l0 ok0 dp (B+B') (W+W') (r&&r' dp) (tk++tk') H' o' l'→WStep H o w H' o'→goR Tryz.prog KP Q all items st R (ρ.set d (.tup [])) H') :
  goK Tryz.prog KP Q all items st d R ρ f (.ptr w 0::args) H:=by
 have hlen:=h.len
 have hwt:=h.wt
 refine zaG hc h.here h0 h1 (by omega) fun o' l' H' h2 h3 h4 h5 h6=>k o' l' H' ⟨by rw[← yC];exact h2,h.st.trans h.here.cell h3,by omega,fun e=>?_,by omega⟩ h3
 rw[← yC] at e
 rw[h5 e,h.eq (by simp only[Al0] at e ⊢;exact e.1),Yj]
end
theorem yj (b:Bool):YC 165 [.bool b] 0 0 (-1000) 1000 (fun _=>b) []:=by
 intro H w o l ok dp h h0 h1 hb
 refine ACalls.go ir165 ck165 (Al4 _) fun KP Q hQ=>?_
 have hc:=h.cell
 cases ok
 ·simp(disch:=first|omega|assumption) only[ir165,hc,go_sem]
  exact hQ _ _ _ _ [] nofun rfl (Low.refl _) ⟨rfl,o,l,h.put,(WStep.refl ..).upd,by simp,(fun _=>by simp),Al4 _⟩
 ·simp(disch:=first|omega|assumption) only[ir165,hc,go_sem]
  exact hQ _ _ _ _ [] nofun rfl (Low.refl _) ⟨rfl,o,l,by rw[Bool.true_and];exact h.put,(WStep.refl ..).upd,by simp,(fun _=>by simp),Al4 _⟩
theorem zu (s:List UInt8) (hs:s.length≤Lim):YC 112 [.str s] 1 (s.length+4) (-1000) 1000 (fun _=>zq s) [wk s]:=by
 intro H w o l ok dp h h0 h1 hb
 refine ACalls.go ir112 ck112 (Al4 _) fun KP Q hQ=>?_
 have hkl:=zH l
 simp only[Lim] at hb
 simp(disch:=first|omega|assumption) only[ir112,go_sem]
 refine goK_pure (zeJ s hs) ?_
 simp(disch:=first|omega|assumption) only[go_sem]
 refine zaG (yj _) h h0 h1 (by simp only[Lim];omega) fun o1 l1 H1 h2 h3 h4 h5 h6=>?_
 have hkl1:=zH l1
 have hc:=h2.cell
 simp(disch:=first|omega|assumption) only[hc,go_sem]
 refine goP_ownS (by rw[hkl1];exact h2.own) (by simp only[hkl1,Al2,Al3];omega) (by simp only[hkl1,Al2,Al3,maxLen];omega) fun o2 H2 hs2=>?_
 obtain⟨g1,g2,g3⟩:=h2.app (ts:=[wk s]) hs2 (by simp[hkl1])
 have ek:cKs l1++[[AV.int .i64 2,AV.str s]]=cKs (l1++[wk s]):=YJ l1 (wk s)
 simp(disch:=first|omega|assumption) only[g1,ek,go_sem]
 exact hQ _ _ _ _ [] nofun rfl (Low.refl _) ⟨rfl,o2,l1++[wk s],g2,h3.trans h2.cell g3,by simp;omega,(fun e=>by rw[h5 e];simp),by simp only[yL,zw,Zz,Ym];omega⟩
theorem zy (m:List UInt8) (o9:Own):YC 113 [.sl o9 1 [[.str m]]] 1 (m.length+4) (-1000) 1000 (fun _=>true) [pk m]:=by
 intro H w o l ok dp h h0 h1 hb
 refine ACalls.go ir113 ck113 (Al4 _) fun KP Q hQ=>?_
 simp only[Lim] at hb
 simp(disch:=first|omega|assumption) only[ir113,go_sem]
 refine goL_range [m] 8 (fun x:Own×List Tok=>[]) (fun done rest x H'=>WAt H' w x.1 x.2 ok dp∧WStep H o w H' x.1∧x.2=l++done.map pk) (o,l) (by simp(disch:=first|omega|assumption) only[go_sem]) ⟨h,.refl _ _ _,by simp⟩ ?_ ?_
 ·rintro⟨o1,l1⟩ H1 J ⟨h2,h3,h4⟩ hlt
  simp only at h2 h3 h4
  simp(disch:=first|omega|assumption) only[go_sem]
  refine hQ _ _ H1 H1 [] nofun rfl (Low.refl _) ⟨rfl,o1,l1,by simpa using h2,h3,by rw[h4];simp,(fun _=>by rw[h4];simp),by rw[h4];simp only[List.map_cons,List.map_nil,yL,zw,Zz,ZW];omega⟩
 ·rintro done x rest ⟨o1,l1⟩ H1 J hd hlt hlt2 ⟨h2,h3,h4⟩ hJ
  simp only at h2 h3 h4
  have hl1:l1.length≤l.length+1:=by rw[h4];simp only[Al5,List.length_map];have:=congrArg List.length hd;simp at this;omega
  have hg:([[AV.str m]]:List (List AV)).getD done.length []=[.str x]:=by
   have:([m].map fun k=>[AV.str k]).getD done.length []=[.str x]:=getD_mid' hd
   exact this
  have hkl1:=zH l1
  have hc:=h2.cell
  have hlt1:((done.length:Int)<1)=True:=eq_true (by simpa using hlt)
  have hdl:done.length<1:=by simpa using hlt2
  simp(disch:=first|omega|assumption) only[hlt1,hg,hc,go_sem]
  refine goP_ownS (by rw[hkl1];exact h2.own) (by simp only[hkl1,Al2,Al3];omega) (by simp only[hkl1,Al2,Al3,maxLen];omega) fun o2 H2 hs2=>?_
  obtain⟨g1,g2,g3⟩:=h2.app (ts:=[pk x]) hs2 (by simp[hkl1])
  have ek:cKs l1++[[AV.int .i64 1,AV.str x]]=cKs (l1++[pk x]):=YJ l1 (pk x)
  simp(disch:=first|omega|assumption) only[g1,ek,wrap64,go_sem]
  exact goJ (hJ (o2,l1++[pk x]) _ ⟨g2,h3.trans h2.cell g3,by rw[h4];simp⟩) (by simp(disch:=first|omega|assumption) only[go_sem])
theorem zjv (v:Val) (hw:wfV v) (hv:4*bV v≤Lim) (fixed:Bool):YC 245 [.agg (cV v),.bool fixed] (4*bV v) (64*bV v) 0 32 (fun dp=>zI dp fixed v) (zF v):=by
 intro H w o l ok dp h h0 h1 hb
 have hvb:bV v≤Lim:=by simp only[Lim] at hv ⊢;omega
 have htl:(YV v).length≤4*bV v:=by
  have:=zbM v
  rw[zb2];split
  ·omega
  ·simp
 have hwl:wT (YV v)≤64*bV v:=by
  have:=zhy v hw
  rw[zb2];split
  ·omega
  ·simp[wT]
 have hkt:=zH (YV v)
 have hdv:=zb7 v
 have hvl:=zbC v []
 have hcv:=yg (zR v [])
 simp only[Lim] at hb hv
 refine ACalls.go ir245 ck245 (Al4 _) fun KP Q hQ=>?_
 have hc:=h.cell
 have fin:∀(b:Bool),b=zI dp fixed v→∀(H2:Heap) (o2:Own) (l2:List Tok),WAt H2 w o2 l2 (ok&&b) dp→WStep H o w H2 o2→l2.length≤l.length+0→((ok&&b)=true→l2=l++[])→wT l2≤wT l+0 →
   ∀(H3:Heap) (o3:Own),OwnS H2 o2 H3 o3 ((cKs l2).length+(cKs (YV v)).length) 2 →
   H3 w=some (.cells [.sl o2 2 (cKs l2),.bool (ok&&b),.int .i64 dp])∧∃ o' l',WAt (H3.upd w (.cells [.sl o3 2 (cKs l2++cKs (YV v)),.bool (ok&&b),.int .i64 dp])) w o' l' (ok&&zI dp fixed v) dp ∧
    WStep H o w (H3.upd w (.cells [.sl o3 2 (cKs l2++cKs (YV v)),.bool (ok&&b),.int .i64 dp])) o'∧l'.length≤l.length+4*bV v∧((ok&&zI dp fixed v)=true→l'=l++zF v)∧wT l'≤wT l+64*bV v:=by
  intro b hbr H2 o2 l2 h2 h3 h4 h5 h6 H3 o3 hs
  obtain⟨g1,g2,g3⟩:=h2.app (ts:=YV v) hs (by simp[zH])
  rw[zg1] at g2 g3
  refine⟨g1,o3,l2++YV v,by rw[← hbr];exact g2,h3.trans h2.cell g3,by simp only[Al5];omega,fun e=>?_,by simp only[yL];omega⟩
  rw[← hbr] at e
  have er:zI dp fixed v=true:=by rw[← hbr];simp only[Al0] at e;exact e.2
  have ep:ZQ v=true:=by simp only[zI,Al0] at er;exact er.1
  rw[h5 e,zb2,ep];simp
 have d1:IntKind.wrap .i64 (dp+zO v)=dp+zO v:=wrap64 (by omega) (by omega)
 cases hp:ZQ v with
 | false =>
  have hbr:false=zI dp fixed v:=by simp[zI,hp]
  simp(disch:=first|omega|assumption) only[zf,zc,za,ze,zd,zb,zh,ir245,go_sem]
  refine goK_pure (zcO v hw hv) ?_
  simp(disch:=first|omega|assumption) only[hp,go_sem]
  refine zaG (yj _) h (by omega) (by omega) (by simp only[Lim];omega) fun o2 l2 H2 h2 h3 h4 h5 h6=>?_
  have hk2:=zH l2
  have hc2:=h2.cell
  simp(disch:=first|omega|assumption) only[hc2,go_sem]
  refine goP_ownS (by rw[hk2];exact h2.own) (by rw[hk2,hkt];omega) (by rw[hk2,hkt];simp only[maxLen];omega) fun o3 H3 hs3=>?_
  obtain⟨g1,g2⟩:=fin _ hbr H2 o2 l2 h2 h3 h4 h5 h6 H3 o3 hs3
  simp(disch:=first|omega|assumption) only[g1,Z6,go_sem]
  exact hQ _ _ _ _ [] nofun rfl (Low.refl _) ⟨rfl,g2⟩
 | true =>
  by_cases hd:dp+zO v≤16
  case neg =>
   have hbr:false=zI dp fixed v:=by simp[zI,hd]
   simp(disch:=first|omega|assumption) only[zf,zc,za,ze,zd,zb,zh,ir245,go_sem]
   refine goK_pure (zcO v hw hv) ?_
   simp(disch:=first|omega|assumption) only[zf,zc,za,ze,zd,zb,zh,hp,hc,go_sem]
   refine goK_pure (zfh v hvb) ?_
   simp(disch:=first|omega|assumption) only[zf,zc,za,ze,zd,zb,zh,d1,hd,hc,go_sem]
   refine zaG (yj _) h (by omega) (by omega) (by simp only[Lim];omega) fun o2 l2 H2 h2 h3 h4 h5 h6=>?_
   have hk2:=zH l2
   have hc2:=h2.cell
   simp(disch:=first|omega|assumption) only[hc2,go_sem]
   refine goP_ownS (by rw[hk2];exact h2.own) (by rw[hk2,hkt];omega) (by rw[hk2,hkt];simp only[maxLen];omega) fun o3 H3 hs3=>?_
   obtain⟨g1,g2⟩:=fin _ hbr H2 o2 l2 h2 h3 h4 h5 h6 H3 o3 hs3
   simp(disch:=first|omega|assumption) only[g1,Z6,go_sem]
   exact hQ _ _ _ _ [] nofun rfl (Low.refl _) ⟨rfl,g2⟩
  cases fixed with
  | false =>
   have hbr:true=zI dp false v:=by simp[zI,hd,hp]
   simp(disch:=first|omega|assumption) only[zf,zc,za,ze,zd,zb,zh,ir245,go_sem]
   refine goK_pure (zcO v hw hv) ?_
   simp(disch:=first|omega|assumption) only[zf,zc,za,ze,zd,zb,zh,hp,hc,go_sem]
   refine goK_pure (zfh v hvb) ?_
   simp(disch:=first|omega|assumption) only[zf,zc,za,ze,zd,zb,zh,d1,hd,hc,go_sem]
   refine zaG (yj _) h (by omega) (by omega) (by simp only[Lim];omega) fun o2 l2 H2 h2 h3 h4 h5 h6=>?_
   have hk2:=zH l2
   have hc2:=h2.cell
   simp(disch:=first|omega|assumption) only[hc2,go_sem]
   refine goP_ownS (by rw[hk2];exact h2.own) (by rw[hk2,hkt];omega) (by rw[hk2,hkt];simp only[maxLen];omega) fun o3 H3 hs3=>?_
   obtain⟨g1,g2⟩:=fin _ hbr H2 o2 l2 h2 h3 h4 h5 h6 H3 o3 hs3
   simp(disch:=first|omega|assumption) only[g1,Z6,go_sem]
   exact hQ _ _ _ _ [] nofun rfl (Low.refl _) ⟨rfl,g2⟩
  | true =>
   simp(disch:=first|omega|assumption) only[zf,zc,za,ze,zd,zb,zh,ir245,go_sem]
   refine goK_pure (zcO v hw hv) ?_
   simp(disch:=first|omega|assumption) only[zf,zc,za,ze,zd,zb,zh,hp,hc,go_sem]
   refine goK_pure (zfh v hvb) ?_
   simp(disch:=first|omega|assumption) only[zf,zc,za,ze,zd,zb,zh,d1,hd,hc,go_sem]
   refine goK_pure (zly v hvb) ?_
   by_cases hz:(zR v []).length=0
   ·have hbr:true=zI dp true v:=by simp[zI,hd,hp,hz]
    have hz':¬ ((0:Int)<(zR v []).length):=by omega
    simp(disch:=first|omega|assumption) only[zf,zc,za,ze,zd,zb,zh,hcv,hz',go_sem]
    refine zaG (yj _) h (by omega) (by omega) (by simp only[Lim];omega) fun o2 l2 H2 h2 h3 h4 h5 h6=>?_
    have hk2:=zH l2
    have hc2:=h2.cell
    simp(disch:=first|omega|assumption) only[hc2,go_sem]
    refine goP_ownS (by rw[hk2];exact h2.own) (by rw[hk2,hkt];omega) (by rw[hk2,hkt];simp only[maxLen];omega) fun o3 H3 hs3=>?_
    obtain⟨g1,g2⟩:=fin _ hbr H2 o2 l2 h2 h3 h4 h5 h6 H3 o3 hs3
    simp(disch:=first|omega|assumption) only[g1,Z6,go_sem]
    exact hQ _ _ _ _ [] nofun rfl (Low.refl _) ⟨rfl,g2⟩
   ·have hbr:false=zI dp true v:=by simp[zI,hd,hp,hz]
    have hz':((0:Int)<(zR v []).length)=True:=eq_true (by omega)
    simp(disch:=first|omega|assumption) only[zf,zc,za,ze,zd,zb,zh,hcv,hz',go_sem]
    refine zaG (yj _) h (by omega) (by omega) (by simp only[Lim];omega) fun o2 l2 H2 h2 h3 h4 h5 h6=>?_
    have hk2:=zH l2
    have hc2:=h2.cell
    simp(disch:=first|omega|assumption) only[hc2,go_sem]
    refine goP_ownS (by rw[hk2];exact h2.own) (by rw[hk2,hkt];omega) (by rw[hk2,hkt];simp only[maxLen];omega) fun o3 H3 hs3=>?_
    obtain⟨g1,g2⟩:=fin _ hbr H2 o2 l2 h2 h3 h4 h5 h6 H3 o3 hs3
    simp(disch:=first|omega|assumption) only[g1,Z6,go_sem]
    exact hQ _ _ _ _ [] nofun rfl (Low.refl _) ⟨rfl,g2⟩
theorem zjh (t:TyD) (hs:t.nm.length≤Lim):YC 210 [.agg (cTy t)] 20 (200+t.nm.length) (-1000) 1000 (fun _=>zM t) (tTy t):=by
 intro H w o l ok dp h h0 h1 hb
 have hb0:=hb
 simp only[Lim] at hb
 refine ACalls.go ir210 ck210 (Al4 _) fun KP Q hQ=>?_
 obtain⟨nm,ls,ms⟩:=t
 simp only at hs
 have et:cTy ⟨nm,ls,ms⟩=[.str nm,.int .i64 ls,.int .i64 ms]:=rfl
 simp(disch:=first|omega|assumption) only[ir210,et,steps,st2,pev,rev,oev,optr,ibin,sbin,ishf,bound,mmAll,mm2,mk,mkArgs,AV.cells,AV.boxable,AV.one,AV.strip1,fillA,fillS,Nat.reduceEqDiff,reduceCtorEq,↓reduceIte,Nat.reduceAdd,Int.reduceNeg,Nat.reduceLeDiff,Int.reduceToNat,Int.reduceEq,Int.reduceLT,Int.reduceLE,Int.reduceAdd,Io,Im,If,Il,Jt,Jf,AC.rg,Jm,Jl,Ja,Fm,Fl,Fa,Imv,Imb,Iai,Iei,Igi,Isi,Ipf,Ipt,Ilb,Iia,Ilt,Iap,Ink,Iln,Ils,Iad,Iex,Ibx,Ing]
 refine goK_pure (show Pure Tryz.prog 243 [.agg [.str nm,.int .i64 ls,.int .i64 ms]] (.bool (zM ⟨nm,ls,ms⟩)) from zkb ⟨nm,ls,ms⟩ hs) ?_
 simp(disch:=first|omega|assumption) only[steps,st2,pev,rev,oev,optr,ibin,sbin,ishf,bound,mmAll,mm2,mk,mkArgs,AV.cells,AV.boxable,AV.one,AV.strip1,fillA,fillS,Nat.reduceEqDiff,reduceCtorEq,↓reduceIte,Nat.reduceAdd,Int.reduceNeg,Nat.reduceLeDiff,Int.reduceToNat,Int.reduceEq,Int.reduceLT,Int.reduceLE,Int.reduceAdd]
 refine zaG (yj _) h (by omega) (by omega) (by simp only[Lim];omega) fun o2 l2 H2 h2 h3 h4 h5 h60=>?_
 have hc2:=h2.cell
 cases hok:ok&&zM ⟨nm,ls,ms⟩ with
 | false =>
  rw[hok] at h2 hc2
  simp(disch:=first|omega|assumption) only[hc2,steps,st2,pev,rev,oev,optr,ibin,sbin,ishf,bound,mmAll,mm2,mk,mkArgs,AV.cells,AV.boxable,AV.one,AV.strip1,fillA,fillS,Nat.reduceEqDiff,reduceCtorEq,↓reduceIte,Nat.reduceAdd,Int.reduceNeg,Nat.reduceLeDiff,Int.reduceToNat,Int.reduceEq,Int.reduceLT,Int.reduceLE,Int.reduceAdd]
  exact hQ _ _ H2 H2 [] nofun rfl (Low.refl _) ⟨rfl,o2,l2,by rw[hok];exact h2,h3,by omega,(fun e=>by rw[hok] at e;cases e),by simp only;omega⟩
 | true =>
  rw[hok] at h2 hc2 h5
  have e2:l2=l:=by have:=h5 rfl;simpa using this
  subst e2
  have hrt:zM ⟨nm,ls,ms⟩=true:=by simp only[Al0] at hok;exact hok.2
  have hok1:ok=true:=by simp only[Al0] at hok;exact hok.1
  simp only[zM,Al0,zn] at hrt
  obtain⟨hnm,r1,r2,r3,r4⟩:=hrt
  obtain⟨n,rfl⟩:∃ n:Nat,ls=(n:Int):=⟨ls.toNat,by omega⟩
  have en:(n:Int).toNat=n:=by omega
  rw[en] at r4
  have hn4:n≤4:=by omega
  have hms:ms<64:=by
   have:(2:Int) ^ (n+1)≤2 ^ 5:=by exact_mod_cast Nat.pow_le_pow_right (by decide) (by omega:n+1≤5)
   omega
  have w0:=YR.refl h2
  simp(disch:=first|omega|assumption) only[hc2,steps,st2,pev,rev,oev,optr,ibin,sbin,ishf,bound,mmAll,mm2,mk,mkArgs,AV.cells,AV.boxable,AV.one,AV.strip1,fillA,fillS,Nat.reduceEqDiff,reduceCtorEq,↓reduceIte,Nat.reduceAdd,Int.reduceNeg,Nat.reduceLeDiff,Int.reduceToNat,Int.reduceEq,Int.reduceLT,Int.reduceLE,Int.reduceAdd]
  refine goL_st (fun x:Nat×Own×List Tok=>[(16,.int .i64 x.1)]) (fun x H'=>x.1≤n∧YR H2 o2 w l2 true dp x.1 (5*x.1) true (List.replicate x.1 (pk [91])) H' x.2.1 x.2.2) (fun x=>n-x.1) (0,o2,l2) (by simp(disch:=first|omega|assumption) only[steps,st2,pev,rev,oev,optr,ibin,sbin,ishf,bound,mmAll,mm2,mk,mkArgs,AV.cells,AV.boxable,AV.one,AV.strip1,fillA,fillS,Nat.reduceEqDiff,reduceCtorEq,↓reduceIte,Nat.reduceAdd,Int.reduceNeg,Nat.reduceLeDiff,Int.reduceToNat,Int.reduceEq,Int.reduceLT,Int.reduceLE,Int.reduceAdd]) ⟨by simp,w0⟩ ?_
  rintro⟨i,o3,l3⟩ H3 J ⟨hi,w3⟩ hJ
  simp only at hi w3
  by_cases hlt:i<n
  ·have hlt':((i:Int)<n)=True:=eq_true (by omega)
   simp(disch:=first|omega|assumption) only[hlt',steps,st2,pev,rev,oev,optr,ibin,sbin,ishf,bound,mmAll,mm2,mk,mkArgs,AV.cells,AV.boxable,AV.one,AV.strip1,fillA,fillS,Nat.reduceEqDiff,reduceCtorEq,↓reduceIte,Nat.reduceAdd,Int.reduceNeg,Nat.reduceLeDiff,Int.reduceToNat,Int.reduceEq,Int.reduceLT,Int.reduceLE,Int.reduceAdd]
   refine zg (zy [91] _) w3 (by omega) (by omega) (by simp only[Lim];omega) fun o4 l4 H4 w4 _=>?_
   simp(disch:=first|omega|assumption) only[wrap64,steps,st2,pev,rev,oev,optr,ibin,sbin,ishf,bound,mmAll,mm2,mk,mkArgs,AV.cells,AV.boxable,AV.one,AV.strip1,fillA,fillS,Nat.reduceEqDiff,reduceCtorEq,↓reduceIte,Nat.reduceAdd,Int.reduceNeg,Nat.reduceLeDiff,Int.reduceToNat,Int.reduceEq,Int.reduceLT,Int.reduceLE,Int.reduceAdd]
   exact goJ (hJ (i+1,o4,l4) H4 (by simp only;omega) ⟨by simp only;omega,w4.cast (Al4 _) (by (try simp only[Al2,Al3]);omega) rfl (by rw[List.replicate_succ'])⟩) (by simp(disch:=first|omega|assumption) only[Int.natCast_add,steps,st2,pev,rev,oev,optr,ibin,sbin,ishf,bound,mmAll,mm2,mk,mkArgs,AV.cells,AV.boxable,AV.one,AV.strip1,fillA,fillS,Nat.reduceEqDiff,reduceCtorEq,↓reduceIte,Nat.reduceAdd,Int.reduceNeg,Nat.reduceLeDiff,Int.reduceToNat,Int.reduceEq,Int.reduceLT,Int.reduceLE,Int.reduceAdd])
  ·have hlt':¬ ((i:Int)<n):=by omega
   obtain rfl:i=n:=by omega
   simp(disch:=first|omega|assumption) only[hlt',steps,st2,pev,rev,oev,optr,ibin,sbin,ishf,bound,mmAll,mm2,mk,mkArgs,AV.cells,AV.boxable,AV.one,AV.strip1,fillA,fillS,Nat.reduceEqDiff,reduceCtorEq,↓reduceIte,Nat.reduceAdd,Int.reduceNeg,Nat.reduceLeDiff,Int.reduceToNat,Int.reduceEq,Int.reduceLT,Int.reduceLE,Int.reduceAdd]
   refine zg (zu nm hs) w3 (by omega) (by omega) (by simp only[Lim];omega) fun o4 l4 H4 w4 _=>?_
   rw[hnm] at w4
   simp(disch:=first|omega|assumption) only[steps,st2,pev,rev,oev,optr,ibin,sbin,ishf,bound,mmAll,mm2,mk,mkArgs,AV.cells,AV.boxable,AV.one,AV.strip1,fillA,fillS,Nat.reduceEqDiff,reduceCtorEq,↓reduceIte,Nat.reduceAdd,Int.reduceNeg,Nat.reduceLeDiff,Int.reduceToNat,Int.reduceEq,Int.reduceLT,Int.reduceLE,Int.reduceAdd]
   refine goL_st (fun x:Nat×Own×List Tok×Nat×List Tok=>[(4,.int .i64 ((x.1:Int)-1))]) (fun x H'=>x.1≤i+1∧x.2.2.2.1+2*x.1≤19∧x.2.2.2.2++zaj i ms x.1=tTy ⟨nm,i,ms⟩∧YR H2 o2 w l2 true dp x.2.2.2.1 (nm.length+5*x.2.2.2.1) true x.2.2.2.2 H' x.2.1 x.2.2.1) (fun x=>x.1)
    (i+1,o4,l4,i+1,List.replicate i (pk [91])++[wk nm]) (by simp(disch:=first|omega|assumption) only[Int.natCast_add,Int.add_sub_cancel,steps,st2,pev,rev,oev,optr,ibin,sbin,ishf,bound,mmAll,mm2,mk,mkArgs,AV.cells,AV.boxable,AV.one,AV.strip1,fillA,fillS,Nat.reduceEqDiff,reduceCtorEq,↓reduceIte,Nat.reduceAdd,Int.reduceNeg,Nat.reduceLeDiff,Int.reduceToNat,Int.reduceEq,Int.reduceLT,Int.reduceLE,Int.reduceAdd]) ⟨by simp,by simp only;omega,by simp only[tTy,en,zcm];simp,w4.cast (Al4 _) (by (try simp only);omega) rfl rfl⟩ ?_
   rintro⟨k,o5,l5,B,tk⟩ H5 J5 ⟨hk,hB,htk,w5⟩ hJ5
   simp only at hk hB htk w5
   cases k with
   | zero =>
    have hz:¬ ((0:Int)≤-1):=by omega
    have w6:=w5.after h3 h2.cell
    simp only[zaj,List.append_nil] at htk
    simp(disch:=first|omega|assumption) only[hz,Int.reduceSub,steps,st2,pev,rev,oev,optr,ibin,sbin,ishf,bound,mmAll,mm2,mk,mkArgs,AV.cells,AV.boxable,AV.one,AV.strip1,fillA,fillS,Nat.reduceEqDiff,reduceCtorEq,↓reduceIte,Nat.reduceAdd,Int.reduceNeg,Nat.reduceLeDiff,Int.reduceToNat,Int.reduceEq,Int.reduceLT,Int.reduceLE,Int.reduceAdd]
    refine hQ _ _ H5 H5 [] nofun rfl (Low.refl _) ⟨rfl,?_⟩
    obtain⟨o',l',g1,g2,g3,g4,g5⟩:=w6.fin (B':=20) (W':=200+nm.length) rfl (fun _=>htk) (by omega) (by omega)
    rw[hok]
    exact⟨o',l',by simpa using g1,g2,by omega,(fun _=>by simpa using g4 rfl),g5⟩
   | succ j =>
    have e0:((j+1:Nat):Int)-1=(j:Int):=by omega
    have hz:((0:Int)≤j)=True:=eq_true (by omega)
    have hbit:=zle ms j (by omega)
    have hq0:0≤ms / 2 ^ j:=Int.ediv_nonneg r3 (by exact_mod_cast Nat.zero_le _)
    have hq1:ms / 2 ^ j<64:=by
     have:ms / 2 ^ j≤ms:=Int.ediv_le_self _ r3
     omega
    have ha:=and1 hq0 hq1
    have hj0:¬ ((j:Int)<0):=by omega
    simp only[zaj,zaJ] at htk
    by_cases hji:j<i
    ·have hji':((j:Int)<i)=True:=eq_true (by omega)
     rw[if_pos hji] at htk
     simp(disch:=first|omega|assumption) only[e0,hz,hji',steps,st2,pev,rev,oev,optr,ibin,sbin,ishf,bound,mmAll,mm2,mk,mkArgs,AV.cells,AV.boxable,AV.one,AV.strip1,fillA,fillS,Nat.reduceEqDiff,reduceCtorEq,↓reduceIte,Nat.reduceAdd,Int.reduceNeg,Nat.reduceLeDiff,Int.reduceToNat,Int.reduceEq,Int.reduceLT,Int.reduceLE,Int.reduceAdd]
     refine zg (zy [93] _) w5 (by omega) (by omega) (by simp only[Lim];omega) fun o6 l6 H6 w6 _=>?_
     by_cases hbt:ms / 2 ^ j % 2=1
     ·have hbb:zam ms j=true:=by simp[zam,hbt]
      rw[hbb] at htk
      simp(disch:=first|omega|assumption) only[hbit,hj0,ha,hbt,steps,st2,pev,rev,oev,optr,ibin,sbin,ishf,bound,mmAll,mm2,mk,mkArgs,AV.cells,AV.boxable,AV.one,AV.strip1,fillA,fillS,Nat.reduceEqDiff,reduceCtorEq,↓reduceIte,Nat.reduceAdd,Int.reduceNeg,Nat.reduceLeDiff,Int.reduceToNat,Int.reduceEq,Int.reduceLT,Int.reduceLE,Int.reduceAdd]
      refine zg (zy [33] _) w6 (by omega) (by omega) (by simp only[Lim];omega) fun o7 l7 H7 w7 _=>?_
      simp(disch:=first|omega|assumption) only[wrap64,steps,st2,pev,rev,oev,optr,ibin,sbin,ishf,bound,mmAll,mm2,mk,mkArgs,AV.cells,AV.boxable,AV.one,AV.strip1,fillA,fillS,Nat.reduceEqDiff,reduceCtorEq,↓reduceIte,Nat.reduceAdd,Int.reduceNeg,Nat.reduceLeDiff,Int.reduceToNat,Int.reduceEq,Int.reduceLT,Int.reduceLE,Int.reduceAdd]
      exact goJ (hJ5 (j,o7,l7,B+1+1,tk++[pk [93]]++[pk [33]]) H7 (Nat.lt_succ_self j) ⟨by simp only;omega,by simp only;omega,by rw[← htk];simp,w7.cast (Al4 _) (by (try simp only[Al2,Al3]);omega) rfl rfl⟩) (by simp(disch:=first|omega|assumption) only[steps,st2,pev,rev,oev,optr,ibin,sbin,ishf,bound,mmAll,mm2,mk,mkArgs,AV.cells,AV.boxable,AV.one,AV.strip1,fillA,fillS,Nat.reduceEqDiff,reduceCtorEq,↓reduceIte,Nat.reduceAdd,Int.reduceNeg,Nat.reduceLeDiff,Int.reduceToNat,Int.reduceEq,Int.reduceLT,Int.reduceLE,Int.reduceAdd])
     ·have hbb:zam ms j=false:=by simp[zam,hbt]
      rw[hbb] at htk
      simp(disch:=first|omega|assumption) only[hbit,hj0,ha,hbt,wrap64,steps,st2,pev,rev,oev,optr,ibin,sbin,ishf,bound,mmAll,mm2,mk,mkArgs,AV.cells,AV.boxable,AV.one,AV.strip1,fillA,fillS,Nat.reduceEqDiff,reduceCtorEq,↓reduceIte,Nat.reduceAdd,Int.reduceNeg,Nat.reduceLeDiff,Int.reduceToNat,Int.reduceEq,Int.reduceLT,Int.reduceLE,Int.reduceAdd]
      exact goJ (hJ5 (j,o6,l6,B+1,tk++[pk [93]]) H6 (Nat.lt_succ_self j) ⟨by simp only;omega,by simp only;omega,by rw[← htk];simp,w6.cast (Al4 _) (by (try simp only[Al2,Al3]);omega) rfl rfl⟩) (by simp(disch:=first|omega|assumption) only[steps,st2,pev,rev,oev,optr,ibin,sbin,ishf,bound,mmAll,mm2,mk,mkArgs,AV.cells,AV.boxable,AV.one,AV.strip1,fillA,fillS,Nat.reduceEqDiff,reduceCtorEq,↓reduceIte,Nat.reduceAdd,Int.reduceNeg,Nat.reduceLeDiff,Int.reduceToNat,Int.reduceEq,Int.reduceLT,Int.reduceLE,Int.reduceAdd])
    ·have hji':¬ ((j:Int)<i):=by omega
     rw[if_neg hji] at htk
     by_cases hbt:ms / 2 ^ j % 2=1
     ·have hbb:zam ms j=true:=by simp[zam,hbt]
      rw[hbb] at htk
      simp(disch:=first|omega|assumption) only[e0,hz,hji',hbit,hj0,ha,hbt,steps,st2,pev,rev,oev,optr,ibin,sbin,ishf,bound,mmAll,mm2,mk,mkArgs,AV.cells,AV.boxable,AV.one,AV.strip1,fillA,fillS,Nat.reduceEqDiff,reduceCtorEq,↓reduceIte,Nat.reduceAdd,Int.reduceNeg,Nat.reduceLeDiff,Int.reduceToNat,Int.reduceEq,Int.reduceLT,Int.reduceLE,Int.reduceAdd]
      refine zg (zy [33] _) w5 (by omega) (by omega) (by simp only[Lim];omega) fun o7 l7 H7 w7 _=>?_
      simp(disch:=first|omega|assumption) only[wrap64,steps,st2,pev,rev,oev,optr,ibin,sbin,ishf,bound,mmAll,mm2,mk,mkArgs,AV.cells,AV.boxable,AV.one,AV.strip1,fillA,fillS,Nat.reduceEqDiff,reduceCtorEq,↓reduceIte,Nat.reduceAdd,Int.reduceNeg,Nat.reduceLeDiff,Int.reduceToNat,Int.reduceEq,Int.reduceLT,Int.reduceLE,Int.reduceAdd]
      exact goJ (hJ5 (j,o7,l7,B+1,tk++[pk [33]]) H7 (Nat.lt_succ_self j) ⟨by simp only;omega,by simp only;omega,by rw[← htk];simp,w7.cast (Al4 _) (by (try simp only[Al2,Al3]);omega) rfl rfl⟩) (by simp(disch:=first|omega|assumption) only[steps,st2,pev,rev,oev,optr,ibin,sbin,ishf,bound,mmAll,mm2,mk,mkArgs,AV.cells,AV.boxable,AV.one,AV.strip1,fillA,fillS,Nat.reduceEqDiff,reduceCtorEq,↓reduceIte,Nat.reduceAdd,Int.reduceNeg,Nat.reduceLeDiff,Int.reduceToNat,Int.reduceEq,Int.reduceLT,Int.reduceLE,Int.reduceAdd])
     ·have hbb:zam ms j=false:=by simp[zam,hbt]
      rw[hbb] at htk
      simp(disch:=first|omega|assumption) only[e0,hz,hji',hbit,hj0,ha,hbt,wrap64,steps,st2,pev,rev,oev,optr,ibin,sbin,ishf,bound,mmAll,mm2,mk,mkArgs,AV.cells,AV.boxable,AV.one,AV.strip1,fillA,fillS,Nat.reduceEqDiff,reduceCtorEq,↓reduceIte,Nat.reduceAdd,Int.reduceNeg,Nat.reduceLeDiff,Int.reduceToNat,Int.reduceEq,Int.reduceLT,Int.reduceLE,Int.reduceAdd]
      exact goJ (hJ5 (j,o5,l5,B,tk) H5 (Nat.lt_succ_self j) ⟨by simp only;omega,by simp only;omega,by rw[← htk];simp,w5⟩) (by simp(disch:=first|omega|assumption) only[steps,st2,pev,rev,oev,optr,ibin,sbin,ishf,bound,mmAll,mm2,mk,mkArgs,AV.cells,AV.boxable,AV.one,AV.strip1,fillA,fillS,Nat.reduceEqDiff,reduceCtorEq,↓reduceIte,Nat.reduceAdd,Int.reduceNeg,Nat.reduceLeDiff,Int.reduceToNat,Int.reduceEq,Int.reduceLT,Int.reduceLE,Int.reduceAdd])
theorem ziY (has:Bool) (v:Val) (hw:wfV v) (hv:4*bV v≤Lim):YC 211 [.bool has,.agg (cV v)] (1+4*bV v) (5+64*bV v) 0 32 (fun dp=>if has then zI dp true v else eqd v zV) (tDf has v):=by
 intro H w o l ok dp h h0 h1 hb
 have hvb:bV v≤Lim:=by simp only[Lim] at hv ⊢;omega
 refine ACalls.go ir211 ck211 (Al4 _) fun KP Q hQ=>?_
 have w0:=YR.refl h
 cases has with
 | false =>
  simp(disch:=first|omega|assumption) only[zf,zc,za,ze,zd,zb,zh,ir211,go_sem]
  refine goK_pure (Pure.low (r:=.bool (eqd v zV)) (by
   have:=zmA v hvb zV
   simpa[AV.strip,ZK,zku,AV.strip1] using this)) ?_
  simp(disch:=first|omega|assumption) only[go_sem]
  refine zg (yj _) w0 (by omega) (by omega) (by omega) fun o2 l2 H2 w2 _=>?_
  simp(disch:=first|omega|assumption) only[go_sem]
  exact hQ _ _ H2 H2 [] nofun rfl (Low.refl _) ⟨rfl,w2.fin (by simp) (fun _=>by simp[tDf]) (by omega) (by (try simp only[Al2,Al3]);omega)⟩
 | true =>
  simp(disch:=first|omega|assumption) only[zf,zc,za,ze,zd,zb,zh,ir211,go_sem]
  refine zg (zy [61] _) w0 (by omega) (by omega) (by omega) fun o2 l2 H2 w2 _=>?_
  simp(disch:=first|omega|assumption) only[zf,zc,za,ze,zd,zb,zh,go_sem]
  refine zg (zjv v hw hv true) w2 (by omega) (by omega) (by omega) fun o3 l3 H3 w3 _=>?_
  simp(disch:=first|omega|assumption) only[go_sem]
  exact hQ _ _ H3 H3 [] nofun rfl (Low.refl _) ⟨rfl,w3.fin (by simp) (fun _=>by simp[tDf]) (by omega) (by (try simp only[Al2,Al3]);omega)⟩
theorem zmG (fixed:Bool) (m:List Mem) (hw:zaF m) (hm:8*bMs m≤Lim):YC 261 [.bool fixed,.sl .no 6 (cMs m)] (2+6*bMs m) (10+80*bMs m) 0 32 (fun dp=>Yw dp fixed m) (Yy m):=by
 intro H w o l ok dp h h0 h1 hb
 have hml:=Zc m
 have hcl:=yX m
 refine ACalls.go ir261 ck261 (Al4 _) fun KP Q hQ=>?_
 have w0:=YR.refl h
 by_cases hz:m.length=0
 ·have hz':((m.length:Int)=0)=True:=eq_true (by omega)
  simp(disch:=first|omega|assumption) only[ir261,hcl,hz',go_sem]
  have em:=Ze.1 hz
  subst em
  exact hQ _ _ H H [] nofun rfl (Low.refl _) ⟨rfl,w0.fin rfl (fun _=>rfl) (by omega) (by omega)⟩
 ·have hz':¬ ((m.length:Int)=0):=by omega
  simp(disch:=first|omega|assumption) only[ir261,hcl,hz',go_sem]
  refine zg (zy [40] _) w0 (by omega) (by omega) (by omega) fun o2 l2 H2 w2 _=>?_
  simp(disch:=first|omega|assumption) only[hcl,go_sem]
  refine goL_range m 16 (fun x:Own×List Tok=>[]) (fun done rest x H'=>YR H o w l ok dp (1+6*bMs done) (5+80*bMs done) (Yw dp fixed done) (pk [40]::yh done) H' x.1 x.2) (o2,l2) (by simp(disch:=first|omega|assumption) only[go_sem]) (w2.cast (by omega) (by simp[bMs]) rfl rfl) ?_ ?_
  ·rintro⟨o3,l3⟩ H3 J w3 hlt
   simp only at w3
   simp(disch:=first|omega|assumption) only[hcl,hlt,go_sem]
   refine zg (zy [41] _) w3 (by omega) (by omega) (by omega) fun o4 l4 H4 w4 _=>?_
   simp(disch:=first|omega|assumption) only[go_sem]
   exact hQ _ _ H4 H4 [] nofun rfl (Low.refl _) ⟨rfl,w4.fin (by simp) (fun _=>by unfold Yy;rw[if_neg hz];rfl) (by omega) (by (try simp only[Al2,Al3]);omega)⟩
  ·rintro done x rest ⟨o3,l3⟩ H3 J hd hlt hlt2 w3 hJ
   simp only at w3
   have hg:=ZG hd
   have hbm:=Z4 done x rest
   rw[← hd] at hbm
   have hmem:x∈m:=by rw[hd];simp
   obtain⟨s,v⟩:=x
   have hwv:=zav hw s v hmem
   have hvp:=zan v
   simp only[bM] at hbm
   have hm':=hm
   simp only[Lim] at hm'
   have hbw:b0 w=b0 w:=rfl
   simp(disch:=first|omega|assumption) only[zf,zc,za,ze,zd,zb,zh,hcl,hlt,hg,go_sem]
   refine goA_intro fun b hb=>?_
   have hbw:b≠w:=fun e=>by subst e;rw[w3.here.cell] at hb;cases hb
   have w4:=w3.alloc (x:=.cells (.str s::cV v)) hb
   have hbc:(H3.upd b (.cells (.str s::cV v))) b=some (.cells (.str s::cV v)):=upd_same ..
   simp(disch:=first|omega|assumption) only[zf,zc,za,ze,zd,zb,zh,go_sem]
   refine zg (zu s (by simp only[Lim];omega)) w4 (by omega) (by omega) (by omega) fun o5 l5 H5 w5 s5=>?_
   have hb5:=s5.box w4.here.own hbc hbw
   simp(disch:=first|omega|assumption) only[zf,zc,za,ze,zd,zb,zh,hb5,go_sem]
   refine zg (zy [58] _) w5 (by omega) (by omega) (by omega) fun o6 l6 H6 w6 s6=>?_
   have hb6:=s6.box w5.here.own hb5 hbw
   simp(disch:=first|omega|assumption) only[zf,zc,za,ze,zd,zb,zh,hb6,go_sem]
   refine zg (zjv v hwv (by simp only[Lim];omega) fixed) w6 (by omega) (by omega) (by omega) fun o7 l7 H7 w7 s7=>?_
   simp(disch:=first|omega|assumption) only[wrap64,go_sem]
   exact goJ (hJ (o7,l7) H7 (w7.cast (by rw[Z4 done (.mk s v) []];simp only[bM,bMs];omega) (by rw[Z4 done (.mk s v) []];simp only[bM,bMs,Al2,Al3];omega) (by simp[Yw,zcG,yC]) (by rw[zen];simp[yh,Yq,wk,pk]))) (by simp(disch:=first|omega|assumption) only[go_sem])
theorem zla (fixed:Bool) (m:List DirD) (hw:zg9 m) (hm:8*bDs m≤Lim):YC 242 [.bool fixed,.sl .no 2 (cDs m)] (8*bDs m) (88*bDs m) 0 32 (fun dp=>Yr dp fixed m) (tDs m):=by
 intro H w o l ok dp h h0 h1 hb
 have hml:=zeW m
 have hcl:=zbO m
 have hm':=hm
 simp only[Lim] at hm'
 refine ACalls.go ir242 ck242 (Al4 _) fun KP Q hQ=>?_
 have w0:=YR.refl h
 simp(disch:=first|omega|assumption) only[ir242,hcl,go_sem]
 refine goL_range m 10 (fun x:Own×List Tok=>[]) (fun done rest x H'=>YR H o w l ok dp (8*bDs done) (88*bDs done) (Yr dp fixed done) (tDs done) H' x.1 x.2) (o,l) (by simp(disch:=first|omega|assumption) only[go_sem]) (w0.cast (by omega) (by omega) rfl rfl) ?_ ?_
 ·rintro⟨o3,l3⟩ H3 J w3 hlt
  simp only at w3
  simp(disch:=first|omega|assumption) only[hcl,hlt,go_sem]
  exact hQ _ _ H3 H3 [] nofun rfl (Low.refl _) ⟨rfl,w3.fin rfl (fun _=>rfl) (by omega) (by omega)⟩
 ·rintro done x rest ⟨o3,l3⟩ H3 J hd hlt hlt2 w3 hJ
  simp only at w3
  have hg:=zcR hd
  have hbm:=zfc done x rest
  rw[← hd] at hbm
  have hmem:x∈m:=by rw[hd];simp
  have hwx:=hw x hmem
  obtain⟨s,args⟩:=x
  have hal:=Zc args
  simp only[bD] at hbm
  have ex:cD ⟨s,args⟩=[.str s,.sl .no 6 (cMs args)]:=rfl
  rw[ex] at hg
  simp(disch:=first|omega|assumption) only[hcl,hlt,hg,go_sem]
  refine goA_intro fun b hb=>?_
  have hbw:b≠w:=fun e=>by subst e;rw[w3.here.cell] at hb;cases hb
  have w4:=w3.alloc (x:=.cells [.str s,.sl .no 6 (cMs args)]) hb
  have hbc:(H3.upd b (.cells [.str s,.sl .no 6 (cMs args)])) b=some (.cells [.str s,.sl .no 6 (cMs args)]):=upd_same ..
  simp(disch:=first|omega|assumption) only[go_sem]
  refine zg (zy [64] _) w4 (by omega) (by omega) (by omega) fun o5 l5 H5 w5 s5=>?_
  have hb5:=s5.box w4.here.own hbc hbw
  simp(disch:=first|omega|assumption) only[hb5,go_sem]
  refine zg (zu s (by simp only[Lim];omega)) w5 (by omega) (by omega) (by omega) fun o6 l6 H6 w6 s6=>?_
  have hb6:=s6.box w5.here.own hb5 hbw
  simp(disch:=first|omega|assumption) only[hb6,go_sem]
  refine zg (zmG fixed args hwx (by simp only[Lim];omega)) w6 (by omega) (by omega) (by omega) fun o7 l7 H7 w7 s7=>?_
  simp(disch:=first|omega|assumption) only[wrap64,go_sem]
  exact goJ (hJ (o7,l7) H7 (w7.cast (by rw[zgk];simp only[bD];omega) (by rw[zgk];simp only[bD,Al2,Al3];omega) (by rw[zfr];simp[zaN,yC]) (by rw[zkj];simp[tD]))) (by simp(disch:=first|omega|assumption) only[go_sem])
def ZS (f:FuncId) (args:List AV) (B W:Nat) (r:Bool) (tk:List Tok):Prop :=
 ∀(H:Heap) (w:Nat) (o:Own) (l:List Tok) (ok:Bool),WAt H w o l ok 0→l.length+B≤Lim →
  ACalls Tryz.prog f (.agg [.ptr w 0]::args) H (ziR fun v H'=>v=.tup []∧∃ o' l',WAt H' w o' l' (ok&&r) 0∧WStep H o w H' o'∧l'.length≤l.length+B∧((ok&&r)=true→l'=l++tk)∧wT l'≤wT l+W)
section
variable {KP:AV→Heap→Prop} {Q:AExit→Env→Heap→Prop} {st:List Fr} {ρ:Env} {H:Heap} {all items:List AItem} {d:Option Nat} {R:List Chk}
theorem yY {f:FuncId} {args:List AV} {B' W':Nat} {r':Bool} {tk':List Tok} (hc:ZS f args B' W' r' tk') {H0:Heap} {o0 o:Own} {w B W:Nat} {l0 l tk:List Tok} {ok0 r:Bool} (h:YR H0 o0 w l0 ok0 0 B W r tk H o l)
  (hb:l0.length+(B+B')≤Lim) (k:∀ o' l' H',YR H0 o0 w l0 ok0 0 (B+B') (W+W') (r&&r') (tk++tk') H' o' l'→WStep H o w H' o'→goR Tryz.prog KP Q all items st R (ρ.set d (.tup [])) H') :
  goK Tryz.prog KP Q all items st d R ρ f (.agg [.ptr w 0]::args) H:=by
 have hlen:=h.len
 have hwt:=h.wt
 refine goK_ret (hc H w o l _ h.here (by omega)) fun v H' ⟨hv,o',l',h2,h3,h4,h5,h6⟩=>?_
 subst hv
 refine k o' l' H' ⟨by rw[← yC];exact h2,h.st.trans h.here.cell h3,by omega,fun e=>?_,by omega⟩ h3
 rw[← yC] at e
 rw[h5 e,h.eq (by simp only[Al0] at e ⊢;exact e.1),Yj]
end
theorem zcP (m:List VarD) (hw:∀ y∈m,wfW y) (hm:32*bWs m≤Lim):ZS 168 [.sl .no 10 (cWs m)] (32*bWs m) (512*bWs m) (m.all Zy) (m.flatMap tPa):=by
 intro H w o l ok h hb
 have hml:=zaa m
 have hcl:=Yx m
 have hm':=hm
 simp only[Lim] at hm'
 refine ACalls.go ir168 ck168 (Al4 _) fun KP Q hQ=>?_
 have w0:=YR.refl h
 simp(disch:=first|omega|assumption) only[ir168,hcl,go_sem]
 refine goL_range m 8 (fun x:Own×List Tok=>[]) (fun done rest x H'=>YR H o w l ok 0 (32*bWs done) (512*bWs done) (done.all Zy) (done.flatMap tPa) H' x.1 x.2) (o,l) (by simp(disch:=first|omega|assumption) only[go_sem]) (w0.cast (by omega) (by omega) rfl rfl) ?_ ?_
 ·rintro⟨o3,l3⟩ H3 J w3 hlt
  simp only at w3
  simp(disch:=first|omega|assumption) only[hcl,hlt,go_sem]
  exact hQ _ _ H3 H3 [] nofun rfl (Low.refl _) ⟨rfl,w3.fin rfl (fun _=>rfl) (by omega) (by omega)⟩
 ·rintro done x rest ⟨o5,l5⟩ H5 J5 hd hlt hlt2 w5 hJ5
  simp only at w5
  have hg:=zfs hd
  have hbm:=ze4 done x rest
  rw[← hd] at hbm
  have hwx:=hw x (by rw[hd];simp)
  obtain⟨vn,⟨tn,tl,tm⟩,vh,vd⟩:=x
  have hwvd:wfV vd:=hwx.2.2
  have hvp:=zan vd
  have hbx:bW ⟨vn,⟨tn,tl,tm⟩,vh,vd⟩=vn.length+tn.length+bV vd:=rfl
  rw[zeG] at hg
  simp only at hg
  simp(disch:=first|omega|assumption) only[zf,zc,za,ze,zd,zb,zh,hcl,hlt,hg,go_sem]
  refine goA_intro fun b hb=>?_
  have hbw:b≠w:=fun e=>by subst e;rw[w5.here.cell] at hb;cases hb
  have w6:=w5.alloc (x:=.cells (.str vn::.str tn::.int .i64 tl::.int .i64 tm::.bool vh::cV vd)) hb
  have hbc:(H5.upd b (.cells (.str vn::.str tn::.int .i64 tl::.int .i64 tm::.bool vh::cV vd))) b=some (.cells (.str vn::.str tn::.int .i64 tl::.int .i64 tm::.bool vh::cV vd)):=upd_same ..
  simp(disch:=first|omega|assumption) only[zf,zc,za,ze,zd,zb,zh,go_sem]
  refine zg (zu vn (by simp only[Lim];omega)) w6 (by omega) (by omega) (by omega) fun o8 l8 H8 w8 s8=>?_
  have hb8:=s8.box w6.here.own hbc hbw
  simp(disch:=first|omega|assumption) only[zf,zc,za,ze,zd,zb,zh,hb8,go_sem]
  refine zg (zy [58] _) w8 (by omega) (by omega) (by omega) fun o9 l9 H9 w9 s9=>?_
  have hb9:=s9.box w8.here.own hb8 hbw
  simp(disch:=first|omega|assumption) only[zf,zc,za,ze,zd,zb,zh,hb9,go_sem]
  refine zg (args:=[.agg [.str tn,.int .i64 tl,.int .i64 tm]]) (show YC _ [.agg [.str tn,.int .i64 tl,.int .i64 tm]] 20 (200+tn.length) (-1000) 1000 (fun _=>zM ⟨tn,tl,tm⟩) (tTy ⟨tn,tl,tm⟩) from zjh ⟨tn,tl,tm⟩ (by simp only[Lim];omega)) w9 (by omega) (by omega) (by omega) fun oC lC HC wC sC=>?_
  have hbC:=sC.box w9.here.own hb9 hbw
  simp(disch:=first|omega|assumption) only[zf,zc,za,ze,zd,zb,zh,hbC,go_sem]
  refine zg (ziY vh vd hwvd (by simp only[Lim];omega)) wC (by omega) (by omega) (by omega) fun oD lD HD wD sD=>?_
  have er:Zy ⟨vn,⟨tn,tl,tm⟩,vh,vd⟩=zhM 0 ⟨vn,⟨tn,tl,tm⟩,vh,vd⟩:=rfl
  simp(disch:=first|omega|assumption) only[wrap64,go_sem]
  exact goJ (hJ5 (oD,lD) HD (wD.cast (by rw[zgh];omega) (by rw[zgh];(try simp only[Al2,Al3]);omega) (by simp[er,zhM,yC]) (by simp[tPa]))) (by simp(disch:=first|omega|assumption) only[go_sem])
theorem zcb (m:List UInt8) (a:List (List UInt8)) (hml:m.length=1) (hm:2*bT a≤Lim):ZS 208 [.str m,.sl .no 1 (cT a)] (2*bT a) (16*bT a) (a.all zq) (tNs m a):=by
 intro H w o l ok h hb
 have hbl:=YP a
 have hcl:=yg a
 have hm':=hm
 simp only[Lim] at hm'
 refine ACalls.go ir208 ck208 (Al4 _) fun KP Q hQ=>?_
 have w0:=YR.refl h
 simp(disch:=first|omega|assumption) only[ir208,hcl,go_sem]
 refine goL_range a 10 (fun x:Own×List Tok=>[]) (fun done rest x H'=>YR H o w l ok 0 (2*bT done) (16*bT done) (done.all zq) (tNs m done) H' x.1 x.2) (o,l) (by simp(disch:=first|omega|assumption) only[go_sem]) (w0.cast (by omega) (by omega) rfl rfl) ?_ ?_
 ·rintro⟨o3,l3⟩ H3 J w3 hlt
  simp only at w3
  simp(disch:=first|omega|assumption) only[hcl,hlt,go_sem]
  exact hQ _ _ H3 H3 [] nofun rfl (Low.refl _) ⟨rfl,w3.fin rfl (fun _=>rfl) (by omega) (by omega)⟩
 ·rintro done x rest ⟨o5,l5⟩ H5 J5 hd hlt hlt2 w5 hJ5
  simp only at w5
  have hg:=zcr hd
  have hbm:=zds done x rest
  rw[← hd] at hbm
  have hsn:=zki m done x
  by_cases h0:done.length=0
  ·have h0':¬ ((0:Int)<(done.length:Int)):=by omega
   rw[if_pos h0] at hsn
   simp(disch:=first|omega|assumption) only[hcl,hlt,hg,h0',go_sem]
   refine zg (zu x (by simp only[Lim];omega)) w5 (by omega) (by omega) (by omega) fun o8 l8 H8 w8 s8=>?_
   simp(disch:=first|omega|assumption) only[wrap64,go_sem]
   exact goJ (hJ5 (o8,l8) H8 (w8.cast (by rw[zx];omega) (by rw[zx];omega) (by simp) (by rw[hsn]))) (by simp(disch:=first|omega|assumption) only[go_sem])
  ·have h0':((0:Int)<(done.length:Int))=True:=eq_true (by omega)
   rw[if_neg h0] at hsn
   simp(disch:=first|omega|assumption) only[hcl,hlt,hg,h0',go_sem]
   refine zg (zy m _) w5 (by omega) (by omega) (by omega) fun o6 l6 H6 w6 s6=>?_
   simp(disch:=first|omega|assumption) only[hcl,hlt,hg,go_sem]
   refine zg (zu x (by simp only[Lim];omega)) w6 (by omega) (by omega) (by omega) fun o8 l8 H8 w8 s8=>?_
   simp(disch:=first|omega|assumption) only[wrap64,go_sem]
   exact goJ (hJ5 (o8,l8) H8 (w8.cast (by rw[zx];omega) (by rw[zx];omega) (by simp) (by rw[hsn];simp))) (by simp(disch:=first|omega|assumption) only[go_sem])
theorem zaY (m:List FldD) (hw:∀ y∈m,wfL y) (hm:32*bLs m≤Lim):ZS 209 [.sl .no 6 (cLs m)] (32*bLs m) (512*bLs m) (m.all ZB) (m.flatMap tL):=by
 intro H w o l ok h hb
 have hml:=zaV m
 have hcl:=YE m
 have hm':=hm
 simp only[Lim] at hm'
 refine ACalls.go ir209 ck209 (Al4 _) fun KP Q hQ=>?_
 have w0:=YR.refl h
 simp(disch:=first|omega|assumption) only[ir209,hcl,go_sem]
 refine goL_range m 8 (fun x:Own×List Tok=>[]) (fun done rest x H'=>YR H o w l ok 0 (32*bLs done) (512*bLs done) (done.all ZB) (done.flatMap tL) H' x.1 x.2) (o,l) (by simp(disch:=first|omega|assumption) only[go_sem]) (w0.cast (by omega) (by omega) rfl rfl) ?_ ?_
 ·rintro⟨o3,l3⟩ H3 J w3 hlt
  simp only at w3
  simp(disch:=first|omega|assumption) only[hcl,hlt,go_sem]
  exact hQ _ _ H3 H3 [] nofun rfl (Low.refl _) ⟨rfl,w3.fin rfl (fun _=>rfl) (by omega) (by omega)⟩
 ·rintro done x rest ⟨o5,l5⟩ H5 J5 hd hlt hlt2 w5 hJ5
  simp only at w5
  have hg:=zft hd
  have hbm:=zfo done x rest
  rw[← hd] at hbm
  have hwx:=hw x (by rw[hd];simp)
  obtain⟨fn,ps,⟨tn,tl,tm⟩,dirs⟩:=x
  simp only[wfL] at hwx
  have hbx:bL ⟨fn,ps,⟨tn,tl,tm⟩,dirs⟩=1+fn.length+bWs ps+tn.length+bDs dirs:=rfl
  have hpl:=Yx ps
  have hpb:=zaa ps
  rw[zjX] at hg
  simp(disch:=first|omega|assumption) only[hcl,hlt,hg,go_sem]
  refine goA_intro fun b hb=>?_
  have hbw:b≠w:=fun e=>by subst e;rw[w5.here.cell] at hb;cases hb
  obtain⟨cs,hcs⟩:∃ cs,cs=[AV.str fn,.sl .no 10 (cWs ps),.str tn,.int .i64 tl,.int .i64 tm,.sl .no 2 (cDs dirs)]:=⟨_,rfl⟩
  have w6:=w5.alloc (x:=.cells cs) hb
  have hbc:(H5.upd b (.cells cs)) b=some (.cells cs):=upd_same ..
  subst hcs
  simp(disch:=first|omega|assumption) only[go_sem]
  refine zg (zu fn (by simp only[Lim];omega)) w6 (by omega) (by omega) (by omega) fun o8 l8 H8 w8 s8=>?_
  have hb8:=s8.box w6.here.own hbc hbw
  by_cases hp0:ps.length=0
  ·have hp0':¬ ((0:Int)<(ps.length:Int)):=by omega
   have hps:=Ze.1 hp0
   simp(disch:=first|omega|assumption) only[hb8,hpl,hp0',go_sem]
   refine zg (zy [58] _) w8 (by omega) (by omega) (by omega) fun oB lB HB wB sB=>?_
   have hbB:=sB.box w8.here.own hb8 hbw
   simp(disch:=first|omega|assumption) only[hbB,go_sem]
   refine zg (args:=[.agg [.str tn,.int .i64 tl,.int .i64 tm]]) (show YC _ [.agg [.str tn,.int .i64 tl,.int .i64 tm]] 20 (200+tn.length) (-1000) 1000 (fun _=>zM ⟨tn,tl,tm⟩) (tTy ⟨tn,tl,tm⟩) from zjh ⟨tn,tl,tm⟩ (by simp only[Lim];omega)) wB (by omega) (by omega) (by omega) fun oC lC HC wC sC=>?_
   have hbC:=sC.box wB.here.own hbB hbw
   simp(disch:=first|omega|assumption) only[hbC,go_sem]
   refine zg (zla true dirs hwx.2.2.2 (by simp only[Lim];omega)) wC (by omega) (by omega) (by omega) fun oD lD HD wD sD=>?_
   simp(disch:=first|omega|assumption) only[wrap64,go_sem]
   exact goJ (hJ5 (oD,lD) HD (wD.cast (by rw[zbB];omega) (by rw[zbB];(try simp only[Al2,Al3]);omega) (by simp[ZB,hps,yC]) (by simp[tL,tPb,hps]))) (by simp(disch:=first|omega|assumption) only[go_sem])
  ·have hp0':((0:Int)<(ps.length:Int))=True:=eq_true (by omega)
   have hps:=hp0
   simp(disch:=first|omega|assumption) only[hb8,hpl,hp0',go_sem]
   refine zg (zy [40] _) w8 (by omega) (by omega) (by omega) fun o9 l9 H9 w9 s9=>?_
   have hb9:=s9.box w8.here.own hb8 hbw
   simp(disch:=first|omega|assumption) only[hb9,go_sem]
   refine yY (zcP ps hwx.1 (by simp only[Lim];omega)) w9 (by omega) fun oE lE HE wE sE=>?_
   have hbE:=sE.box w9.here.own hb9 hbw
   simp(disch:=first|omega|assumption) only[hbE,go_sem]
   refine zg (zy [41] _) wE (by omega) (by omega) (by omega) fun oF lF HF wF sF=>?_
   have hbF:=sF.box wE.here.own hbE hbw
   simp(disch:=first|omega|assumption) only[hbF,go_sem]
   refine zg (zy [58] _) wF (by omega) (by omega) (by omega) fun oB lB HB wB sB=>?_
   have hbB:=sB.box wF.here.own hbF hbw
   simp(disch:=first|omega|assumption) only[hbB,go_sem]
   refine zg (args:=[.agg [.str tn,.int .i64 tl,.int .i64 tm]]) (show YC _ [.agg [.str tn,.int .i64 tl,.int .i64 tm]] 20 (200+tn.length) (-1000) 1000 (fun _=>zM ⟨tn,tl,tm⟩) (tTy ⟨tn,tl,tm⟩) from zjh ⟨tn,tl,tm⟩ (by simp only[Lim];omega)) wB (by omega) (by omega) (by omega) fun oC lC HC wC sC=>?_
   have hbC:=sC.box wB.here.own hbB hbw
   simp(disch:=first|omega|assumption) only[hbC,go_sem]
   refine zg (zla true dirs hwx.2.2.2 (by simp only[Lim];omega)) wC (by omega) (by omega) (by omega) fun oD lD HD wD sD=>?_
   simp(disch:=first|omega|assumption) only[wrap64,go_sem]
   exact goJ (hJ5 (oD,lD) HD (wD.cast (by rw[zbB];omega) (by rw[zbB];(try simp only[Al2,Al3]);omega) (by simp[ZB,hps,yC]) (by simp[tL,tPb,hps]))) (by simp(disch:=first|omega|assumption) only[go_sem])
theorem zhO (wd:List UInt8) (x:DefD) (hnw:zq wd=true) (hwd:wd.length≤16) (hwx:wfE x) (hm:64*bE x≤Lim):ZS 166 [.str wd,.agg (cE x)] (64*bE x) (512*bE x) (Zp x) (zfg wd x):=by
 intro H w o l ok h hb
 obtain⟨k,nm,faces,flds,parts,ps⟩:=x
 have hm':=hm
 simp only[Lim,bE] at hm'
 simp only[bE] at hb
 have h1:=YP faces
 have h2:=zaV flds
 have h3:=YP parts
 have h4:=zaa ps
 have hfc:=yg faces
 have hfl:=YE flds
 have hfp:=yg parts
 have hfs:=Yx ps
 rw[zbF]
 refine ACalls.go ir166 ck166 (Al4 _) fun KP Q hQ=>?_
 have w0:=YR.refl h
 obtain⟨n,hn⟩:∃ n,n=(decide (flds.length≠0)&&(decide (parts.length=0)&&decide (ps.length=0))):=⟨_,rfl⟩
 by_cases a1:flds.length=0
 ·have a1':¬ ((0:Int)<(flds.length:Int)):=by omega
  have hbv:n=false:=by rw[hn];simp[a1]
  simp(disch:=first|omega|assumption) only[ir166,hfl,a1',go_sem]
  refine zg (yj _) w0 (by omega) (by omega) (by omega) fun o1 l1 H1 w1 _=>?_
  simp(disch:=first|omega|assumption) only[go_sem]
  refine zg (zu wd (by simp only[Lim];omega)) w1 (by omega) (by omega) (by omega) fun o2 l2 H2 w2 _=>?_
  simp(disch:=first|omega|assumption) only[go_sem]
  refine zg (zu nm (by simp only[Lim];omega)) w2 (by omega) (by omega) (by omega) fun o3 l3 H3 w3 _=>?_
  by_cases hf0:faces.length=0
  ·have hf1:¬ ((0:Int)<(faces.length:Int)):=by omega
   have hf:=Ze.1 hf0
   simp(disch:=first|omega|assumption) only[hfc,hf1,go_sem]
   refine zg (zy [123] _) w3 (by omega) (by omega) (by omega) fun oB lB HB wB sB=>?_
   simp(disch:=first|omega|assumption) only[go_sem]
   refine yY (zaY flds hwx.1 (by simp only[Lim];omega)) wB (by omega) fun oC lC HC wC sC=>?_
   simp(disch:=first|omega|assumption) only[go_sem]
   refine zg (zy [125] _) wC (by omega) (by omega) (by omega) fun oD lD HD wD sD=>?_
   simp(disch:=first|omega|assumption) only[go_sem]
   exact hQ _ _ HD HD [] nofun rfl (Low.refl _) ⟨rfl,wD.fin (by simp only[Zp,← hn,hbv,hnw,Y5,hf];simp[yC,Bool.and_comm,Bool.and_left_comm]) (fun _=>by simp[zfg,hf]) (by simp only[bE];omega) (by simp only[bE,Al2,Al3];omega)⟩
  ·have hf1:((0:Int)<(faces.length:Int))=True:=eq_true (by omega)
   have hf:=hf0
   simp(disch:=first|omega|assumption) only[hfc,hf1,go_sem]
   refine zg (zu [105,109,112,108,101,109,101,110,116,115] (by simp[Lim])) w3 (by omega) (by omega) (by omega) fun o4 l4 H4 w4 _=>?_
   simp(disch:=first|omega|assumption) only[go_sem]
   refine yY (zcb [38] faces rfl (by simp only[Lim];omega)) w4 (by omega) fun o5 l5 H5 w5 _=>?_
   simp(disch:=first|omega|assumption) only[go_sem]
   refine zg (zy [123] _) w5 (by omega) (by omega) (by omega) fun oB lB HB wB sB=>?_
   simp(disch:=first|omega|assumption) only[go_sem]
   refine yY (zaY flds hwx.1 (by simp only[Lim];omega)) wB (by omega) fun oC lC HC wC sC=>?_
   simp(disch:=first|omega|assumption) only[go_sem]
   refine zg (zy [125] _) wC (by omega) (by omega) (by omega) fun oD lD HD wD sD=>?_
   simp(disch:=first|omega|assumption) only[go_sem]
   exact hQ _ _ HD HD [] nofun rfl (Low.refl _) ⟨rfl,wD.fin (by simp only[Zp,← hn,hbv,hnw,Y5,hf];simp[yC,Bool.and_comm,Bool.and_left_comm]) (fun _=>by simp[zfg,hf]) (by simp only[bE];omega) (by simp only[bE,Al2,Al3];omega)⟩
 ·have a1':((0:Int)<(flds.length:Int))=True:=eq_true (by omega)
  have e1:IntKind.wrap .i64 ((parts.length:Int)+(ps.length:Int))=((parts.length+ps.length:Nat):Int):=by rw[wrap64 (by omega) (by omega)];omega
  by_cases a2:parts.length+ps.length=0
  ·have a2':(((parts.length+ps.length:Nat):Int)=0)=True:=eq_true (by omega)
   have hbv:n=true:=by rw[hn];simp only[ne_eq,Al0,zn];omega
   simp(disch:=first|omega|assumption) only[ir166,hfl,a1',hfp,hfs,e1,a2',go_sem]
   refine zg (yj _) w0 (by omega) (by omega) (by omega) fun o1 l1 H1 w1 _=>?_
   simp(disch:=first|omega|assumption) only[go_sem]
   refine zg (zu wd (by simp only[Lim];omega)) w1 (by omega) (by omega) (by omega) fun o2 l2 H2 w2 _=>?_
   simp(disch:=first|omega|assumption) only[go_sem]
   refine zg (zu nm (by simp only[Lim];omega)) w2 (by omega) (by omega) (by omega) fun o3 l3 H3 w3 _=>?_
   by_cases hf0:faces.length=0
   ·have hf1:¬ ((0:Int)<(faces.length:Int)):=by omega
    have hf:=Ze.1 hf0
    simp(disch:=first|omega|assumption) only[hfc,hf1,go_sem]
    refine zg (zy [123] _) w3 (by omega) (by omega) (by omega) fun oB lB HB wB sB=>?_
    simp(disch:=first|omega|assumption) only[go_sem]
    refine yY (zaY flds hwx.1 (by simp only[Lim];omega)) wB (by omega) fun oC lC HC wC sC=>?_
    simp(disch:=first|omega|assumption) only[go_sem]
    refine zg (zy [125] _) wC (by omega) (by omega) (by omega) fun oD lD HD wD sD=>?_
    simp(disch:=first|omega|assumption) only[go_sem]
    exact hQ _ _ HD HD [] nofun rfl (Low.refl _) ⟨rfl,wD.fin (by simp only[Zp,← hn,hbv,hnw,Y5,hf];simp[yC,Bool.and_comm,Bool.and_left_comm]) (fun _=>by simp[zfg,hf]) (by simp only[bE];omega) (by simp only[bE,Al2,Al3];omega)⟩
   ·have hf1:((0:Int)<(faces.length:Int))=True:=eq_true (by omega)
    have hf:=hf0
    simp(disch:=first|omega|assumption) only[hfc,hf1,go_sem]
    refine zg (zu [105,109,112,108,101,109,101,110,116,115] (by simp[Lim])) w3 (by omega) (by omega) (by omega) fun o4 l4 H4 w4 _=>?_
    simp(disch:=first|omega|assumption) only[go_sem]
    refine yY (zcb [38] faces rfl (by simp only[Lim];omega)) w4 (by omega) fun o5 l5 H5 w5 _=>?_
    simp(disch:=first|omega|assumption) only[go_sem]
    refine zg (zy [123] _) w5 (by omega) (by omega) (by omega) fun oB lB HB wB sB=>?_
    simp(disch:=first|omega|assumption) only[go_sem]
    refine yY (zaY flds hwx.1 (by simp only[Lim];omega)) wB (by omega) fun oC lC HC wC sC=>?_
    simp(disch:=first|omega|assumption) only[go_sem]
    refine zg (zy [125] _) wC (by omega) (by omega) (by omega) fun oD lD HD wD sD=>?_
    simp(disch:=first|omega|assumption) only[go_sem]
    exact hQ _ _ HD HD [] nofun rfl (Low.refl _) ⟨rfl,wD.fin (by simp only[Zp,← hn,hbv,hnw,Y5,hf];simp[yC,Bool.and_comm,Bool.and_left_comm]) (fun _=>by simp[zfg,hf]) (by simp only[bE];omega) (by simp only[bE,Al2,Al3];omega)⟩
  ·have a2':¬ (((parts.length+ps.length:Nat):Int)=0):=by omega
   have hbv:n=false:=by rw[hn,Bool.eq_false_iff];simp only[ne_eq,Al0,zn];omega
   simp(disch:=first|omega|assumption) only[ir166,hfl,a1',hfp,hfs,e1,a2',go_sem]
   refine zg (yj _) w0 (by omega) (by omega) (by omega) fun o1 l1 H1 w1 _=>?_
   simp(disch:=first|omega|assumption) only[go_sem]
   refine zg (zu wd (by simp only[Lim];omega)) w1 (by omega) (by omega) (by omega) fun o2 l2 H2 w2 _=>?_
   simp(disch:=first|omega|assumption) only[go_sem]
   refine zg (zu nm (by simp only[Lim];omega)) w2 (by omega) (by omega) (by omega) fun o3 l3 H3 w3 _=>?_
   by_cases hf0:faces.length=0
   ·have hf1:¬ ((0:Int)<(faces.length:Int)):=by omega
    have hf:=Ze.1 hf0
    simp(disch:=first|omega|assumption) only[hfc,hf1,go_sem]
    refine zg (zy [123] _) w3 (by omega) (by omega) (by omega) fun oB lB HB wB sB=>?_
    simp(disch:=first|omega|assumption) only[go_sem]
    refine yY (zaY flds hwx.1 (by simp only[Lim];omega)) wB (by omega) fun oC lC HC wC sC=>?_
    simp(disch:=first|omega|assumption) only[go_sem]
    refine zg (zy [125] _) wC (by omega) (by omega) (by omega) fun oD lD HD wD sD=>?_
    simp(disch:=first|omega|assumption) only[go_sem]
    exact hQ _ _ HD HD [] nofun rfl (Low.refl _) ⟨rfl,wD.fin (by simp only[Zp,← hn,hbv,hnw,Y5,hf];simp[yC,Bool.and_comm,Bool.and_left_comm]) (fun _=>by simp[zfg,hf]) (by simp only[bE];omega) (by simp only[bE,Al2,Al3];omega)⟩
   ·have hf1:((0:Int)<(faces.length:Int))=True:=eq_true (by omega)
    have hf:=hf0
    simp(disch:=first|omega|assumption) only[hfc,hf1,go_sem]
    refine zg (zu [105,109,112,108,101,109,101,110,116,115] (by simp[Lim])) w3 (by omega) (by omega) (by omega) fun o4 l4 H4 w4 _=>?_
    simp(disch:=first|omega|assumption) only[go_sem]
    refine yY (zcb [38] faces rfl (by simp only[Lim];omega)) w4 (by omega) fun o5 l5 H5 w5 _=>?_
    simp(disch:=first|omega|assumption) only[go_sem]
    refine zg (zy [123] _) w5 (by omega) (by omega) (by omega) fun oB lB HB wB sB=>?_
    simp(disch:=first|omega|assumption) only[go_sem]
    refine yY (zaY flds hwx.1 (by simp only[Lim];omega)) wB (by omega) fun oC lC HC wC sC=>?_
    simp(disch:=first|omega|assumption) only[go_sem]
    refine zg (zy [125] _) wC (by omega) (by omega) (by omega) fun oD lD HD wD sD=>?_
    simp(disch:=first|omega|assumption) only[go_sem]
    exact hQ _ _ HD HD [] nofun rfl (Low.refl _) ⟨rfl,wD.fin (by simp only[Zp,← hn,hbv,hnw,Y5,hf];simp[yC,Bool.and_comm,Bool.and_left_comm]) (fun _=>by simp[zfg,hf]) (by simp only[bE];omega) (by simp only[bE,Al2,Al3];omega)⟩
theorem zlz (x:DefD) (hm:64*bE x≤Lim):ZS 167 [.agg (cE x)] (64*bE x) (512*bE x) (Zk x) (ze2 x):=by
 intro H w o l ok h hb
 obtain⟨k,nm,faces,flds,parts,ps⟩:=x
 have hm':=hm
 simp only[Lim,bE] at hm'
 simp only[bE] at hb
 have h1:=YP faces
 have h2:=zaV flds
 have h3:=YP parts
 have h4:=zaa ps
 have hfc:=yg faces
 have hfl:=YE flds
 have hfp:=yg parts
 have hfs:=Yx ps
 rw[zbF]
 refine ACalls.go ir167 ck167 (Al4 _) fun KP Q hQ=>?_
 have w0:=YR.refl h
 obtain⟨n,hn⟩:∃ n,n=(decide (parts.length≠0)&&(decide (faces.length=0)&&(decide (flds.length=0)&&decide (ps.length=0)))):=⟨_,rfl⟩
 by_cases a1:parts.length=0
 ·have a1':¬ ((0:Int)<(parts.length:Int)):=by omega
  have hbv:n=false:=by rw[hn];simp[a1]
  simp(disch:=first|omega|assumption) only[ir167,hfp,a1',go_sem]
  refine zg (yj _) w0 (by omega) (by omega) (by omega) fun o1 l1 H1 w1 _=>?_
  by_cases hk:k=3
  ·have hk':=eq_true hk
   simp(disch:=first|omega|assumption) only[hk',go_sem]
   refine zg (zu [117,110,105,111,110] (by simp[Lim])) w1 (by omega) (by omega) (by omega) fun o2 l2 H2 w2 _=>?_
   simp(disch:=first|omega|assumption) only[go_sem]
   refine zg (zu nm (by simp only[Lim];omega)) w2 (by omega) (by omega) (by omega) fun o3 l3 H3 w3 _=>?_
   simp(disch:=first|omega|assumption) only[go_sem]
   refine zg (zy [61] _) w3 (by omega) (by omega) (by omega) fun o4 l4 H4 w4 _=>?_
   simp(disch:=first|omega|assumption) only[go_sem]
   refine yY (zcb [124] parts rfl (by simp only[Lim];omega)) w4 (by omega) fun o5 l5 H5 w5 _=>?_
   simp(disch:=first|omega|assumption) only[go_sem]
   exact hQ _ _ H5 H5 [] nofun rfl (Low.refl _) ⟨rfl,w5.fin (by simp only[Zk,if_pos hk,ZI,← hn,hbv,zbY];simp[yC,Bool.and_comm,Bool.and_left_comm]) (fun _=>by simp[ze2,hk]) (by simp only[bE];omega) (by simp only[bE,Al2,Al3];omega)⟩
  ·simp(disch:=first|omega|assumption) only[hk,go_sem]
   refine zg (zu [101,110,117,109] (by simp[Lim])) w1 (by omega) (by omega) (by omega) fun o2 l2 H2 w2 _=>?_
   simp(disch:=first|omega|assumption) only[go_sem]
   refine zg (zu nm (by simp only[Lim];omega)) w2 (by omega) (by omega) (by omega) fun o3 l3 H3 w3 _=>?_
   simp(disch:=first|omega|assumption) only[go_sem]
   refine zg (zy [123] _) w3 (by omega) (by omega) (by omega) fun o4 l4 H4 w4 _=>?_
   simp(disch:=first|omega|assumption) only[hfp,go_sem]
   refine goL_range parts 61 (fun x:Own×List Tok=>[]) (fun done rest x H'=>YR H o w l ok 0 (4+bT done) (32+nm.length+16*bT done) (n&&(zq nm&&done.all fun s=>yP s&&zq s)) (wk [101,110,117,109]::wk nm::pk [123]::done.map wk) H' x.1 x.2) (o4,l4) (by simp(disch:=first|omega|assumption) only[go_sem]) (w4.cast (by omega) (by simp only[Al2,Al3];omega) (by simp[hbv,zcU]) (by simp)) ?_ ?_
   ·rintro⟨o5,l5⟩ H5 J5 w5 hlt
    simp only at w5
    simp(disch:=first|omega|assumption) only[hfp,hlt,go_sem]
    refine zg (zy [125] _) w5 (by omega) (by omega) (by omega) fun o6 l6 H6 w6 _=>?_
    simp(disch:=first|omega|assumption) only[go_sem]
    exact hQ _ _ H6 H6 [] nofun rfl (Low.refl _) ⟨rfl,w6.fin (by rw[zeY];simp only[Zk,if_neg hk,ZI,← hn];simp[yC,Bool.and_comm,Bool.and_left_comm]) (fun _=>by simp[ze2,hk]) (by simp only[bE];omega) (by simp only[bE,Al2,Al3];omega)⟩
   ·rintro done x rest ⟨o5,l5⟩ H5 J5 hd hlt hlt2 w5 hJ5
    simp only at w5
    have hg:=zcr hd
    have hbm:=zds done x rest
    rw[← hd] at hbm
    simp(disch:=first|omega|assumption) only[hfp,hlt,hg,go_sem]
    by_cases q1:x=[116,114,117,101]
    ·have q1':=eq_true q1
     have hno:yP x=false:=by rw[q1];decide
     simp(disch:=first|omega|assumption) only[q1',go_sem]
     refine zg (yj _) w5 (by omega) (by omega) (by omega) fun o6 l6 H6 w6 _=>?_
     simp(disch:=first|omega|assumption) only[go_sem]
     refine zg (zu x (by simp only[Lim];omega)) w6 (by omega) (by omega) (by omega) fun o7 l7 H7 w7 _=>?_
     simp(disch:=first|omega|assumption) only[wrap64,go_sem]
     exact goJ (hJ5 (o7,l7) H7 (w7.cast (by rw[zx];omega) (by rw[zx];omega) (by simp[hno,yC]) (by simp))) (by simp(disch:=first|omega|assumption) only[go_sem])
    by_cases q2:x=[102,97,108,115,101]
    ·have q2':=eq_true q2
     have hno:yP x=false:=by rw[q2];decide
     simp(disch:=first|omega|assumption) only[q1,q2',go_sem]
     refine zg (yj _) w5 (by omega) (by omega) (by omega) fun o6 l6 H6 w6 _=>?_
     simp(disch:=first|omega|assumption) only[go_sem]
     refine zg (zu x (by simp only[Lim];omega)) w6 (by omega) (by omega) (by omega) fun o7 l7 H7 w7 _=>?_
     simp(disch:=first|omega|assumption) only[wrap64,go_sem]
     exact goJ (hJ5 (o7,l7) H7 (w7.cast (by rw[zx];omega) (by rw[zx];omega) (by simp[hno,yC]) (by simp))) (by simp(disch:=first|omega|assumption) only[go_sem])
    by_cases q3:x=[110,117,108,108]
    ·have q3':=eq_true q3
     have hno:yP x=false:=by rw[q3];decide
     simp(disch:=first|omega|assumption) only[q1,q2,q3',go_sem]
     refine zg (yj _) w5 (by omega) (by omega) (by omega) fun o6 l6 H6 w6 _=>?_
     simp(disch:=first|omega|assumption) only[go_sem]
     refine zg (zu x (by simp only[Lim];omega)) w6 (by omega) (by omega) (by omega) fun o7 l7 H7 w7 _=>?_
     simp(disch:=first|omega|assumption) only[wrap64,go_sem]
     exact goJ (hJ5 (o7,l7) H7 (w7.cast (by rw[zx];omega) (by rw[zx];omega) (by simp[hno,yC]) (by simp))) (by simp(disch:=first|omega|assumption) only[go_sem])
    ·have hno:yP x=true:=by simp[yP,q1,q2,q3]
     simp(disch:=first|omega|assumption) only[q1,q2,q3,go_sem]
     refine zg (yj _) w5 (by omega) (by omega) (by omega) fun o6 l6 H6 w6 _=>?_
     simp(disch:=first|omega|assumption) only[go_sem]
     refine zg (zu x (by simp only[Lim];omega)) w6 (by omega) (by omega) (by omega) fun o7 l7 H7 w7 _=>?_
     simp(disch:=first|omega|assumption) only[wrap64,go_sem]
     exact goJ (hJ5 (o7,l7) H7 (w7.cast (by rw[zx];omega) (by rw[zx];omega) (by simp[hno,yC]) (by simp))) (by simp(disch:=first|omega|assumption) only[go_sem])
 ·have a1':((0:Int)<(parts.length:Int))=True:=eq_true (by omega)
  have e1:IntKind.wrap .i64 ((faces.length:Int)+(flds.length:Int))=((faces.length+flds.length:Nat):Int):=by rw[wrap64 (by omega) (by omega)];omega
  have e2:IntKind.wrap .i64 (((faces.length+flds.length:Nat):Int)+(ps.length:Int))=((faces.length+flds.length+ps.length:Nat):Int):=by rw[wrap64 (by omega) (by omega)];omega
  by_cases a2:faces.length+flds.length+ps.length=0
  ·have a2':(((faces.length+flds.length+ps.length:Nat):Int)=0)=True:=eq_true (by omega)
   have hbv:n=true:=by rw[hn];simp only[ne_eq,Al0,zn];omega
   simp(disch:=first|omega|assumption) only[ir167,hfp,a1',hfc,hfl,hfs,e1,e2,a2',go_sem]
   refine zg (yj _) w0 (by omega) (by omega) (by omega) fun o1 l1 H1 w1 _=>?_
   by_cases hk:k=3
   ·have hk':=eq_true hk
    simp(disch:=first|omega|assumption) only[hk',go_sem]
    refine zg (zu [117,110,105,111,110] (by simp[Lim])) w1 (by omega) (by omega) (by omega) fun o2 l2 H2 w2 _=>?_
    simp(disch:=first|omega|assumption) only[go_sem]
    refine zg (zu nm (by simp only[Lim];omega)) w2 (by omega) (by omega) (by omega) fun o3 l3 H3 w3 _=>?_
    simp(disch:=first|omega|assumption) only[go_sem]
    refine zg (zy [61] _) w3 (by omega) (by omega) (by omega) fun o4 l4 H4 w4 _=>?_
    simp(disch:=first|omega|assumption) only[go_sem]
    refine yY (zcb [124] parts rfl (by simp only[Lim];omega)) w4 (by omega) fun o5 l5 H5 w5 _=>?_
    simp(disch:=first|omega|assumption) only[go_sem]
    exact hQ _ _ H5 H5 [] nofun rfl (Low.refl _) ⟨rfl,w5.fin (by simp only[Zk,if_pos hk,ZI,← hn,hbv,zbY];simp[yC,Bool.and_comm,Bool.and_left_comm]) (fun _=>by simp[ze2,hk]) (by simp only[bE];omega) (by simp only[bE,Al2,Al3];omega)⟩
   ·simp(disch:=first|omega|assumption) only[hk,go_sem]
    refine zg (zu [101,110,117,109] (by simp[Lim])) w1 (by omega) (by omega) (by omega) fun o2 l2 H2 w2 _=>?_
    simp(disch:=first|omega|assumption) only[go_sem]
    refine zg (zu nm (by simp only[Lim];omega)) w2 (by omega) (by omega) (by omega) fun o3 l3 H3 w3 _=>?_
    simp(disch:=first|omega|assumption) only[go_sem]
    refine zg (zy [123] _) w3 (by omega) (by omega) (by omega) fun o4 l4 H4 w4 _=>?_
    simp(disch:=first|omega|assumption) only[hfp,go_sem]
    refine goL_range parts 61 (fun x:Own×List Tok=>[]) (fun done rest x H'=>YR H o w l ok 0 (4+bT done) (32+nm.length+16*bT done) (n&&(zq nm&&done.all fun s=>yP s&&zq s)) (wk [101,110,117,109]::wk nm::pk [123]::done.map wk) H' x.1 x.2) (o4,l4) (by simp(disch:=first|omega|assumption) only[go_sem]) (w4.cast (by omega) (by simp only[Al2,Al3];omega) (by simp[hbv,zcU]) (by simp)) ?_ ?_
    ·rintro⟨o5,l5⟩ H5 J5 w5 hlt
     simp only at w5
     simp(disch:=first|omega|assumption) only[hfp,hlt,go_sem]
     refine zg (zy [125] _) w5 (by omega) (by omega) (by omega) fun o6 l6 H6 w6 _=>?_
     simp(disch:=first|omega|assumption) only[go_sem]
     exact hQ _ _ H6 H6 [] nofun rfl (Low.refl _) ⟨rfl,w6.fin (by rw[zeY];simp only[Zk,if_neg hk,ZI,← hn];simp[yC,Bool.and_comm,Bool.and_left_comm]) (fun _=>by simp[ze2,hk]) (by simp only[bE];omega) (by simp only[bE,Al2,Al3];omega)⟩
    ·rintro done x rest ⟨o5,l5⟩ H5 J5 hd hlt hlt2 w5 hJ5
     simp only at w5
     have hg:=zcr hd
     have hbm:=zds done x rest
     rw[← hd] at hbm
     simp(disch:=first|omega|assumption) only[hfp,hlt,hg,go_sem]
     by_cases q1:x=[116,114,117,101]
     ·have q1':=eq_true q1
      have hno:yP x=false:=by rw[q1];decide
      simp(disch:=first|omega|assumption) only[q1',go_sem]
      refine zg (yj _) w5 (by omega) (by omega) (by omega) fun o6 l6 H6 w6 _=>?_
      simp(disch:=first|omega|assumption) only[go_sem]
      refine zg (zu x (by simp only[Lim];omega)) w6 (by omega) (by omega) (by omega) fun o7 l7 H7 w7 _=>?_
      simp(disch:=first|omega|assumption) only[wrap64,go_sem]
      exact goJ (hJ5 (o7,l7) H7 (w7.cast (by rw[zx];omega) (by rw[zx];omega) (by simp[hno,yC]) (by simp))) (by simp(disch:=first|omega|assumption) only[go_sem])
     by_cases q2:x=[102,97,108,115,101]
     ·have q2':=eq_true q2
      have hno:yP x=false:=by rw[q2];decide
      simp(disch:=first|omega|assumption) only[q1,q2',go_sem]
      refine zg (yj _) w5 (by omega) (by omega) (by omega) fun o6 l6 H6 w6 _=>?_
      simp(disch:=first|omega|assumption) only[go_sem]
      refine zg (zu x (by simp only[Lim];omega)) w6 (by omega) (by omega) (by omega) fun o7 l7 H7 w7 _=>?_
      simp(disch:=first|omega|assumption) only[wrap64,go_sem]
      exact goJ (hJ5 (o7,l7) H7 (w7.cast (by rw[zx];omega) (by rw[zx];omega) (by simp[hno,yC]) (by simp))) (by simp(disch:=first|omega|assumption) only[go_sem])
     by_cases q3:x=[110,117,108,108]
     ·have q3':=eq_true q3
      have hno:yP x=false:=by rw[q3];decide
      simp(disch:=first|omega|assumption) only[q1,q2,q3',go_sem]
      refine zg (yj _) w5 (by omega) (by omega) (by omega) fun o6 l6 H6 w6 _=>?_
      simp(disch:=first|omega|assumption) only[go_sem]
      refine zg (zu x (by simp only[Lim];omega)) w6 (by omega) (by omega) (by omega) fun o7 l7 H7 w7 _=>?_
      simp(disch:=first|omega|assumption) only[wrap64,go_sem]
      exact goJ (hJ5 (o7,l7) H7 (w7.cast (by rw[zx];omega) (by rw[zx];omega) (by simp[hno,yC]) (by simp))) (by simp(disch:=first|omega|assumption) only[go_sem])
     ·have hno:yP x=true:=by simp[yP,q1,q2,q3]
      simp(disch:=first|omega|assumption) only[q1,q2,q3,go_sem]
      refine zg (yj _) w5 (by omega) (by omega) (by omega) fun o6 l6 H6 w6 _=>?_
      simp(disch:=first|omega|assumption) only[go_sem]
      refine zg (zu x (by simp only[Lim];omega)) w6 (by omega) (by omega) (by omega) fun o7 l7 H7 w7 _=>?_
      simp(disch:=first|omega|assumption) only[wrap64,go_sem]
      exact goJ (hJ5 (o7,l7) H7 (w7.cast (by rw[zx];omega) (by rw[zx];omega) (by simp[hno,yC]) (by simp))) (by simp(disch:=first|omega|assumption) only[go_sem])
  ·have a2':¬ (((faces.length+flds.length+ps.length:Nat):Int)=0):=by omega
   have hbv:n=false:=by rw[hn,Bool.eq_false_iff];simp only[ne_eq,Al0,zn];omega
   simp(disch:=first|omega|assumption) only[ir167,hfp,a1',hfc,hfl,hfs,e1,e2,a2',go_sem]
   refine zg (yj _) w0 (by omega) (by omega) (by omega) fun o1 l1 H1 w1 _=>?_
   by_cases hk:k=3
   ·have hk':=eq_true hk
    simp(disch:=first|omega|assumption) only[hk',go_sem]
    refine zg (zu [117,110,105,111,110] (by simp[Lim])) w1 (by omega) (by omega) (by omega) fun o2 l2 H2 w2 _=>?_
    simp(disch:=first|omega|assumption) only[go_sem]
    refine zg (zu nm (by simp only[Lim];omega)) w2 (by omega) (by omega) (by omega) fun o3 l3 H3 w3 _=>?_
    simp(disch:=first|omega|assumption) only[go_sem]
    refine zg (zy [61] _) w3 (by omega) (by omega) (by omega) fun o4 l4 H4 w4 _=>?_
    simp(disch:=first|omega|assumption) only[go_sem]
    refine yY (zcb [124] parts rfl (by simp only[Lim];omega)) w4 (by omega) fun o5 l5 H5 w5 _=>?_
    simp(disch:=first|omega|assumption) only[go_sem]
    exact hQ _ _ H5 H5 [] nofun rfl (Low.refl _) ⟨rfl,w5.fin (by simp only[Zk,if_pos hk,ZI,← hn,hbv,zbY];simp[yC,Bool.and_comm,Bool.and_left_comm]) (fun _=>by simp[ze2,hk]) (by simp only[bE];omega) (by simp only[bE,Al2,Al3];omega)⟩
   ·simp(disch:=first|omega|assumption) only[hk,go_sem]
    refine zg (zu [101,110,117,109] (by simp[Lim])) w1 (by omega) (by omega) (by omega) fun o2 l2 H2 w2 _=>?_
    simp(disch:=first|omega|assumption) only[go_sem]
    refine zg (zu nm (by simp only[Lim];omega)) w2 (by omega) (by omega) (by omega) fun o3 l3 H3 w3 _=>?_
    simp(disch:=first|omega|assumption) only[go_sem]
    refine zg (zy [123] _) w3 (by omega) (by omega) (by omega) fun o4 l4 H4 w4 _=>?_
    simp(disch:=first|omega|assumption) only[hfp,go_sem]
    refine goL_range parts 61 (fun x:Own×List Tok=>[]) (fun done rest x H'=>YR H o w l ok 0 (4+bT done) (32+nm.length+16*bT done) (n&&(zq nm&&done.all fun s=>yP s&&zq s)) (wk [101,110,117,109]::wk nm::pk [123]::done.map wk) H' x.1 x.2) (o4,l4) (by simp(disch:=first|omega|assumption) only[go_sem]) (w4.cast (by omega) (by simp only[Al2,Al3];omega) (by simp[hbv,zcU]) (by simp)) ?_ ?_
    ·rintro⟨o5,l5⟩ H5 J5 w5 hlt
     simp only at w5
     simp(disch:=first|omega|assumption) only[hfp,hlt,go_sem]
     refine zg (zy [125] _) w5 (by omega) (by omega) (by omega) fun o6 l6 H6 w6 _=>?_
     simp(disch:=first|omega|assumption) only[go_sem]
     exact hQ _ _ H6 H6 [] nofun rfl (Low.refl _) ⟨rfl,w6.fin (by rw[zeY];simp only[Zk,if_neg hk,ZI,← hn];simp[yC,Bool.and_comm,Bool.and_left_comm]) (fun _=>by simp[ze2,hk]) (by simp only[bE];omega) (by simp only[bE,Al2,Al3];omega)⟩
    ·rintro done x rest ⟨o5,l5⟩ H5 J5 hd hlt hlt2 w5 hJ5
     simp only at w5
     have hg:=zcr hd
     have hbm:=zds done x rest
     rw[← hd] at hbm
     simp(disch:=first|omega|assumption) only[hfp,hlt,hg,go_sem]
     by_cases q1:x=[116,114,117,101]
     ·have q1':=eq_true q1
      have hno:yP x=false:=by rw[q1];decide
      simp(disch:=first|omega|assumption) only[q1',go_sem]
      refine zg (yj _) w5 (by omega) (by omega) (by omega) fun o6 l6 H6 w6 _=>?_
      simp(disch:=first|omega|assumption) only[go_sem]
      refine zg (zu x (by simp only[Lim];omega)) w6 (by omega) (by omega) (by omega) fun o7 l7 H7 w7 _=>?_
      simp(disch:=first|omega|assumption) only[wrap64,go_sem]
      exact goJ (hJ5 (o7,l7) H7 (w7.cast (by rw[zx];omega) (by rw[zx];omega) (by simp[hno,yC]) (by simp))) (by simp(disch:=first|omega|assumption) only[go_sem])
     by_cases q2:x=[102,97,108,115,101]
     ·have q2':=eq_true q2
      have hno:yP x=false:=by rw[q2];decide
      simp(disch:=first|omega|assumption) only[q1,q2',go_sem]
      refine zg (yj _) w5 (by omega) (by omega) (by omega) fun o6 l6 H6 w6 _=>?_
      simp(disch:=first|omega|assumption) only[go_sem]
      refine zg (zu x (by simp only[Lim];omega)) w6 (by omega) (by omega) (by omega) fun o7 l7 H7 w7 _=>?_
      simp(disch:=first|omega|assumption) only[wrap64,go_sem]
      exact goJ (hJ5 (o7,l7) H7 (w7.cast (by rw[zx];omega) (by rw[zx];omega) (by simp[hno,yC]) (by simp))) (by simp(disch:=first|omega|assumption) only[go_sem])
     by_cases q3:x=[110,117,108,108]
     ·have q3':=eq_true q3
      have hno:yP x=false:=by rw[q3];decide
      simp(disch:=first|omega|assumption) only[q1,q2,q3',go_sem]
      refine zg (yj _) w5 (by omega) (by omega) (by omega) fun o6 l6 H6 w6 _=>?_
      simp(disch:=first|omega|assumption) only[go_sem]
      refine zg (zu x (by simp only[Lim];omega)) w6 (by omega) (by omega) (by omega) fun o7 l7 H7 w7 _=>?_
      simp(disch:=first|omega|assumption) only[wrap64,go_sem]
      exact goJ (hJ5 (o7,l7) H7 (w7.cast (by rw[zx];omega) (by rw[zx];omega) (by simp[hno,yC]) (by simp))) (by simp(disch:=first|omega|assumption) only[go_sem])
     ·have hno:yP x=true:=by simp[yP,q1,q2,q3]
      simp(disch:=first|omega|assumption) only[q1,q2,q3,go_sem]
      refine zg (yj _) w5 (by omega) (by omega) (by omega) fun o6 l6 H6 w6 _=>?_
      simp(disch:=first|omega|assumption) only[go_sem]
      refine zg (zu x (by simp only[Lim];omega)) w6 (by omega) (by omega) (by omega) fun o7 l7 H7 w7 _=>?_
      simp(disch:=first|omega|assumption) only[wrap64,go_sem]
      exact goJ (hJ5 (o7,l7) H7 (w7.cast (by rw[zx];omega) (by rw[zx];omega) (by simp[hno,yC]) (by simp))) (by simp(disch:=first|omega|assumption) only[go_sem])
theorem zmm (x:DefD) (hwx:wfE x) (hm:64*bE x≤Lim):ZS 114 [.agg (cE x)] (64*bE x) (512*bE x) (yc x) (tE x):=by
 have hO1:=zhO [116,121,112,101] x zhJ (by decide) hwx hm
 have hO2:=zhO [105,110,116,101,114,102,97,99,101] x zhU (by decide) hwx hm
 have hP:=zlz x hm
 intro H w o l ok h hb
 obtain⟨k,nm,faces,flds,parts,ps⟩:=x
 rw[zbF] at hO1 hO2 hP ⊢
 have hm':=hm
 simp only[Lim,bE] at hm'
 have hb':=hb
 simp only[bE] at hb
 have h1:=YP faces
 have h2:=zaV flds
 have h3:=YP parts
 have h4:=zaa ps
 have hfc:=yg faces
 have hfl:=YE flds
 have hfp:=yg parts
 have hfs:=Yx ps
 refine ACalls.go ir114 ck114 (Al4 _) fun KP Q hQ=>?_
 have w0:=YR.refl h
 by_cases k1:k=1
 ·have k1':=eq_true k1
  simp(disch:=first|omega|assumption) only[ir114,k1',go_sem]
  refine yY hO1 w0 (by omega) fun o2 l2 H2 w2 _=>?_
  simp(disch:=first|omega|assumption) only[go_sem]
  exact hQ _ _ H2 H2 [] nofun rfl (Low.refl _) ⟨rfl,w2.fin (by subst k1;simp[yc,Zp]) (fun _=>by subst k1;simp[tE,zfg]) (by omega) (by omega)⟩
 by_cases k2:k=2
 ·have k2':=eq_true k2
  simp(disch:=first|omega|assumption) only[ir114,k1,k2',go_sem]
  refine yY hO2 w0 (by omega) fun o2 l2 H2 w2 _=>?_
  simp(disch:=first|omega|assumption) only[go_sem]
  exact hQ _ _ H2 H2 [] nofun rfl (Low.refl _) ⟨rfl,w2.fin (by subst k2;simp[yc,Zp]) (fun _=>by subst k2;simp[tE,zfg]) (by omega) (by omega)⟩
 by_cases k3:k=3
 ·have k3':=eq_true k3
  simp(disch:=first|omega|assumption) only[ir114,k1,k2,k3',go_sem]
  refine yY hP w0 (by omega) fun o2 l2 H2 w2 _=>?_
  simp(disch:=first|omega|assumption) only[go_sem]
  exact hQ _ _ H2 H2 [] nofun rfl (Low.refl _) ⟨rfl,w2.fin (by subst k3;simp[yc,Zk,ZI]) (fun _=>by subst k3;simp[tE,ze2]) (by omega) (by omega)⟩
 by_cases k4:k=4
 ·have k4':=eq_true k4
  simp(disch:=first|omega|assumption) only[ir114,k1,k2,k3,k4',go_sem]
  refine yY hP w0 (by omega) fun o2 l2 H2 w2 _=>?_
  simp(disch:=first|omega|assumption) only[go_sem]
  exact hQ _ _ H2 H2 [] nofun rfl (Low.refl _) ⟨rfl,w2.fin (by subst k4;simp[yc,Zk,ZI]) (fun _=>by subst k4;simp[tE,ze2]) (by omega) (by omega)⟩
 by_cases k5:k=5
 ·have k5':=eq_true k5
  obtain⟨n,hn⟩:∃ n,n=(decide (ps.length≠0)&&(decide (faces.length=0)&&(decide (flds.length=0)&&decide (parts.length=0)))):=⟨_,rfl⟩
  by_cases a1:ps.length=0
  ·have a1':¬ ((0:Int)<(ps.length:Int)):=by omega
   have hbv:n=false:=by rw[hn];simp[a1]
   subst k5
   simp(disch:=first|omega|assumption) only[ir114,k1,k2,k3,k4,k5',hfs,a1',go_sem]
   refine zg (yj _) w0 (by omega) (by omega) (by omega) fun o1 l1 H1 w1 _=>?_
   simp(disch:=first|omega|assumption) only[go_sem]
   refine zg (zu [105,110,112,117,116] (by simp[Lim])) w1 (by omega) (by omega) (by omega) fun o2 l2 H2 w2 _=>?_
   simp(disch:=first|omega|assumption) only[go_sem]
   refine zg (zu nm (by simp only[Lim];omega)) w2 (by omega) (by omega) (by omega) fun o3 l3 H3 w3 _=>?_
   simp(disch:=first|omega|assumption) only[go_sem]
   refine zg (zy [123] _) w3 (by omega) (by omega) (by omega) fun o4 l4 H4 w4 _=>?_
   simp(disch:=first|omega|assumption) only[go_sem]
   refine yY (zcP ps hwx.2 (by simp only[Lim];omega)) w4 (by omega) fun o5 l5 H5 w5 _=>?_
   simp(disch:=first|omega|assumption) only[go_sem]
   refine zg (zy [125] _) w5 (by omega) (by omega) (by omega) fun o6 l6 H6 w6 _=>?_
   simp(disch:=first|omega|assumption) only[go_sem]
   exact hQ _ _ H6 H6 [] nofun rfl (Low.refl _) ⟨rfl,w6.fin (by simp only[yc];rw[if_neg (by omega),if_neg (by omega),if_neg (by omega),if_pos trivial];simp only[← hn,hbv,zbP];simp[yC,Bool.and_comm,Bool.and_left_comm]) (fun _=>by simp only[tE];rw[if_neg (by omega),if_neg (by omega),if_neg (by omega)];simp) (by simp only[bE];omega) (by simp only[bE,Al2,Al3];omega)⟩
  ·have a1':((0:Int)<(ps.length:Int))=True:=eq_true (by omega)
   have e1:IntKind.wrap .i64 ((faces.length:Int)+(flds.length:Int))=((faces.length+flds.length:Nat):Int):=by rw[wrap64 (by omega) (by omega)];omega
   have e2:IntKind.wrap .i64 (((faces.length+flds.length:Nat):Int)+(parts.length:Int))=((faces.length+flds.length+parts.length:Nat):Int):=by rw[wrap64 (by omega) (by omega)];omega
   by_cases a2:faces.length+flds.length+parts.length=0
   ·have a2':(((faces.length+flds.length+parts.length:Nat):Int)=0)=True:=eq_true (by omega)
    have hbv:n=true:=by rw[hn];simp only[ne_eq,Al0,zn];omega
    subst k5
    simp(disch:=first|omega|assumption) only[ir114,k1,k2,k3,k4,k5',hfs,a1',hfc,hfl,hfp,e1,e2,a2',go_sem]
    refine zg (yj _) w0 (by omega) (by omega) (by omega) fun o1 l1 H1 w1 _=>?_
    simp(disch:=first|omega|assumption) only[go_sem]
    refine zg (zu [105,110,112,117,116] (by simp[Lim])) w1 (by omega) (by omega) (by omega) fun o2 l2 H2 w2 _=>?_
    simp(disch:=first|omega|assumption) only[go_sem]
    refine zg (zu nm (by simp only[Lim];omega)) w2 (by omega) (by omega) (by omega) fun o3 l3 H3 w3 _=>?_
    simp(disch:=first|omega|assumption) only[go_sem]
    refine zg (zy [123] _) w3 (by omega) (by omega) (by omega) fun o4 l4 H4 w4 _=>?_
    simp(disch:=first|omega|assumption) only[go_sem]
    refine yY (zcP ps hwx.2 (by simp only[Lim];omega)) w4 (by omega) fun o5 l5 H5 w5 _=>?_
    simp(disch:=first|omega|assumption) only[go_sem]
    refine zg (zy [125] _) w5 (by omega) (by omega) (by omega) fun o6 l6 H6 w6 _=>?_
    simp(disch:=first|omega|assumption) only[go_sem]
    exact hQ _ _ H6 H6 [] nofun rfl (Low.refl _) ⟨rfl,w6.fin (by simp only[yc];rw[if_neg (by omega),if_neg (by omega),if_neg (by omega),if_pos trivial];simp only[← hn,hbv,zbP];simp[yC,Bool.and_comm,Bool.and_left_comm]) (fun _=>by simp only[tE];rw[if_neg (by omega),if_neg (by omega),if_neg (by omega)];simp) (by simp only[bE];omega) (by simp only[bE,Al2,Al3];omega)⟩
   ·have a2':¬ (((faces.length+flds.length+parts.length:Nat):Int)=0):=by omega
    have hbv:n=false:=by rw[hn,Bool.eq_false_iff];simp only[ne_eq,Al0,zn];omega
    subst k5
    simp(disch:=first|omega|assumption) only[ir114,k1,k2,k3,k4,k5',hfs,a1',hfc,hfl,hfp,e1,e2,a2',go_sem]
    refine zg (yj _) w0 (by omega) (by omega) (by omega) fun o1 l1 H1 w1 _=>?_
    simp(disch:=first|omega|assumption) only[go_sem]
    refine zg (zu [105,110,112,117,116] (by simp[Lim])) w1 (by omega) (by omega) (by omega) fun o2 l2 H2 w2 _=>?_
    simp(disch:=first|omega|assumption) only[go_sem]
    refine zg (zu nm (by simp only[Lim];omega)) w2 (by omega) (by omega) (by omega) fun o3 l3 H3 w3 _=>?_
    simp(disch:=first|omega|assumption) only[go_sem]
    refine zg (zy [123] _) w3 (by omega) (by omega) (by omega) fun o4 l4 H4 w4 _=>?_
    simp(disch:=first|omega|assumption) only[go_sem]
    refine yY (zcP ps hwx.2 (by simp only[Lim];omega)) w4 (by omega) fun o5 l5 H5 w5 _=>?_
    simp(disch:=first|omega|assumption) only[go_sem]
    refine zg (zy [125] _) w5 (by omega) (by omega) (by omega) fun o6 l6 H6 w6 _=>?_
    simp(disch:=first|omega|assumption) only[go_sem]
    exact hQ _ _ H6 H6 [] nofun rfl (Low.refl _) ⟨rfl,w6.fin (by simp only[yc];rw[if_neg (by omega),if_neg (by omega),if_neg (by omega),if_pos trivial];simp only[← hn,hbv,zbP];simp[yC,Bool.and_comm,Bool.and_left_comm]) (fun _=>by simp only[tE];rw[if_neg (by omega),if_neg (by omega),if_neg (by omega)];simp) (by simp only[bE];omega) (by simp only[bE,Al2,Al3];omega)⟩
 ·simp(disch:=first|omega|assumption) only[ir114,k1,k2,k3,k4,k5,go_sem]
  refine zg (yj false) w0 (by omega) (by omega) (by omega) fun o2 l2 H2 w2 _=>?_
  simp(disch:=first|omega|assumption) only[go_sem]
  exact hQ _ _ H2 H2 [] nofun rfl (Low.refl _) ⟨rfl,w2.fin (by simp[yc,k1,k2,k3,k4,k5]) (fun e=>by simp[yc,k1,k2,k3,k4,k5] at e) (by omega) (by omega)⟩
theorem zkz (s:SchD) (hw:zbW s) (hb:64*Yp s+64≤Lim):ACalls Tryz.prog 57 [.agg (YN s)] Heap.emp (ziR fun v H'=>H'=Heap.emp∧∃ L,v=.tup [.sl .no 2 (cKs L),.bool (yz s)]∧wT L≤512*Yp s+128∧(yz s=true→L=YT s)):=by
 refine ACalls.go ir57 ck57 (Al4 _) fun KP Q hQ=>?_
 obtain⟨defs,q,m⟩:=s
 have hle:=zcL defs
 have hce:=zaU defs
 have hb':=hb
 simp only[Yp,Lim] at hb'
 have ed:YN ⟨defs,q,m⟩=[.sl .no 6 (cEs defs),.str q,.str m]:=rfl
 obtain⟨R3,hR3⟩:∃ R3,R3=(zq q&&(decide (m=[])||zq m)):=⟨_,rfl⟩
 simp(disch:=first|omega|assumption) only[ir57,ed,go_sem]
 refine goK_ret zm7 fun v H1 ⟨w,hv,hW⟩=>?_
 subst hv
 simp(disch:=first|omega|assumption) only[go_sem]
 refine goA_intro fun b hb=>?_
 have hbw:b≠w:=fun e=>by subst e;rw[hW.cell] at hb;cases hb
 have w0:=(YR.refl hW).alloc (x:=.cells [.ptr w 0]) hb
 have g0:(H1.upd b (.cells [.ptr w 0])) b=some (.cells [.ptr w 0]):=upd_same ..
 simp(disch:=first|omega|assumption) only[go_sem]
 refine zg (zu [115,99,104,101,109,97] (by simp[Lim])) w0 (by omega) (by omega) (by simp only[Lim,Al3];omega) fun o1 l1 H2 w1 s1=>?_
 have g1:=s1.box w0.here.own g0 hbw
 simp(disch:=first|omega|assumption) only[g1,go_sem]
 refine zg (zy [123] _) w1 (by omega) (by omega) (by simp only[Lim,Al3];omega) fun o2 l2 H3 w2 s2=>?_
 have g2:=s2.box w1.here.own g1 hbw
 simp(disch:=first|omega|assumption) only[g2,go_sem]
 refine zg (zu [113,117,101,114,121] (by simp[Lim])) w2 (by omega) (by omega) (by simp only[Lim,Al3];omega) fun o3 l3 H4 w3 s3=>?_
 have g3:=s3.box w2.here.own g2 hbw
 simp(disch:=first|omega|assumption) only[g3,go_sem]
 refine zg (zy [58] _) w3 (by omega) (by omega) (by simp only[Lim,Al3];omega) fun o4 l4 H5 w4 s4=>?_
 have g4:=s4.box w3.here.own g3 hbw
 simp(disch:=first|omega|assumption) only[g4,go_sem]
 refine zg (zu q (by simp only[Lim];omega)) w4 (by omega) (by omega) (by simp only[Lim,Al3];omega) fun o5 l5 H6 w5 s5=>?_
 have g5:=s5.box w4.here.own g4 hbw
 by_cases hm0:m=[]
 ·have hm1:=eq_true hm0
  simp(disch:=first|omega|assumption) only[hm1,g5,go_sem]
  refine zg (zy [125] _) w5 (by omega) (by omega) (by simp only[Lim,Al3];omega) fun oB lB HB wB sB=>?_
  have gB:=sB.box w5.here.own g5 hbw
  simp(disch:=first|omega|assumption) only[gB,hce,go_sem]
  refine goL_range defs 50 (fun x:Own×List Tok=>[]) (fun done rest x H'=>YR H1 .nil w [] true 0 (10+64*bEs done) (100+q.length+m.length+512*bEs done) (R3&&done.all yc) (tRt q m++done.flatMap tE) H' x.1 x.2∧H' b=some (.cells [.ptr w 0])) (oB,lB) (by simp(disch:=first|omega|assumption) only[go_sem]) ⟨wB.castC (by omega) (by (try simp only[Al2,Al3]);omega) (by rw[hR3];simp[zci,zdu,zgR,hm0,yC]) (fun _=>by simp[tRt,hm0]),gB⟩ ?_ ?_
  ·rintro⟨o4,l4⟩ H4 J4 ⟨w4,g4⟩ hlt4
   simp only at w4 g4
   have er:yz ⟨defs,q,m⟩=(R3&&defs.all yc):=by rw[hR3,Bool.and_comm];rfl
   have hc4:=w4.here.cell
   have e4:=w4.eq
   rw[← er,Bool.true_and] at hc4 e4
   have hw4:=w4.wt
   simp(disch:=first|omega|assumption) only[hce,hlt4,g4,hc4,go_sem]
   exact hQ _ _ _ Heap.emp [_,_] nofun rfl (Low.of_sub nofun) ⟨rfl,l4,rfl,by simp only[Zz,Yp] at hw4 ⊢;omega,fun hr=>by have:=e4 hr;rw[Zh] at this;rw[this];rfl⟩
  ·rintro done x rest ⟨o4,l4⟩ H4 J4 hd hlt4 hlt5 ⟨w4,g4⟩ hJ4
   simp only at w4 g4
   have hg:=za0 hd
   have hbm:=zcS done x rest
   rw[← hd] at hbm
   have hwx:=hw x (by rw[hd];simp)
   have hfw:=zmm x hwx (by simp only[Lim];omega)
   obtain⟨k,nm,faces,flds,parts,ps⟩:=x
   rw[zbF] at hg hfw
   simp(disch:=first|omega|assumption) only[hce,hlt4,hg,go_sem]
   refine goA_intro fun b6 hb6=>?_
   have h6:b6≠b:=fun e=>by subst e;rw[g4] at hb6;cases hb6
   have w5:=w4.alloc (x:=.cells [.int .i64 k,.str nm,.sl .no 1 (cT faces),.sl .no 6 (cLs flds),.sl .no 1 (cT parts),.sl .no 10 (cWs ps)]) hb6
   have g5:(H4.upd b6 (.cells [.int .i64 k,.str nm,.sl .no 1 (cT faces),.sl .no 6 (cLs flds),.sl .no 1 (cT parts),.sl .no 10 (cWs ps)])) b=some (.cells [.ptr w 0]):=by rw[upd_ne (Ne.symm h6)];exact g4
   simp(disch:=first|omega|assumption) only[g5,go_sem]
   refine yY hfw w5 (by simp only[Lim,Al3];omega) fun o6 l6 H6 w6 s6=>?_
   have g6:=s6.box w5.here.own g5 hbw
   simp(disch:=first|omega|assumption) only[wrap64,go_sem]
   exact goJ (hJ4 (o6,l6) H6 ⟨w6.cast (by rw[za1];omega) (by rw[za1];omega) (by simp[yC]) (by simp),g6⟩) (by simp(disch:=first|omega|assumption) only[go_sem])
 ·simp(disch:=first|omega|assumption) only[hm0,g5,go_sem]
  refine zg (zu [109,117,116,97,116,105,111,110] (by simp[Lim])) w5 (by omega) (by omega) (by simp only[Lim,Al3];omega) fun o6 l6 H7 w6 s6=>?_
  have g6:=s6.box w5.here.own g5 hbw
  simp(disch:=first|omega|assumption) only[g6,go_sem]
  refine zg (zy [58] _) w6 (by omega) (by omega) (by simp only[Lim,Al3];omega) fun o7 l7 H8 w7 s7=>?_
  have g7:=s7.box w6.here.own g6 hbw
  simp(disch:=first|omega|assumption) only[g7,go_sem]
  refine zg (zu m (by simp only[Lim];omega)) w7 (by omega) (by omega) (by simp only[Lim,Al3];omega) fun o8 l8 H9 w8 s8=>?_
  have g8:=s8.box w7.here.own g7 hbw
  simp(disch:=first|omega|assumption) only[g8,go_sem]
  refine zg (zy [125] _) w8 (by omega) (by omega) (by simp only[Lim,Al3];omega) fun oB lB HB wB sB=>?_
  have gB:=sB.box w8.here.own g8 hbw
  simp(disch:=first|omega|assumption) only[gB,hce,go_sem]
  refine goL_range defs 50 (fun x:Own×List Tok=>[]) (fun done rest x H'=>YR H1 .nil w [] true 0 (10+64*bEs done) (100+q.length+m.length+512*bEs done) (R3&&done.all yc) (tRt q m++done.flatMap tE) H' x.1 x.2∧H' b=some (.cells [.ptr w 0])) (oB,lB) (by simp(disch:=first|omega|assumption) only[go_sem]) ⟨wB.castC (by omega) (by (try simp only[Al2,Al3]);omega) (by rw[hR3];simp[zci,zdu,zgR,hm0,yC]) (fun _=>by simp[tRt,hm0]),gB⟩ ?_ ?_
  ·rintro⟨o4,l4⟩ H4 J4 ⟨w4,g4⟩ hlt4
   simp only at w4 g4
   have er:yz ⟨defs,q,m⟩=(R3&&defs.all yc):=by rw[hR3,Bool.and_comm];rfl
   have hc4:=w4.here.cell
   have e4:=w4.eq
   rw[← er,Bool.true_and] at hc4 e4
   have hw4:=w4.wt
   simp(disch:=first|omega|assumption) only[hce,hlt4,g4,hc4,go_sem]
   exact hQ _ _ _ Heap.emp [_,_] nofun rfl (Low.of_sub nofun) ⟨rfl,l4,rfl,by simp only[Zz,Yp] at hw4 ⊢;omega,fun hr=>by have:=e4 hr;rw[Zh] at this;rw[this];rfl⟩
  ·rintro done x rest ⟨o4,l4⟩ H4 J4 hd hlt4 hlt5 ⟨w4,g4⟩ hJ4
   simp only at w4 g4
   have hg:=za0 hd
   have hbm:=zcS done x rest
   rw[← hd] at hbm
   have hwx:=hw x (by rw[hd];simp)
   have hfw:=zmm x hwx (by simp only[Lim];omega)
   obtain⟨k,nm,faces,flds,parts,ps⟩:=x
   rw[zbF] at hg hfw
   simp(disch:=first|omega|assumption) only[hce,hlt4,hg,go_sem]
   refine goA_intro fun b6 hb6=>?_
   have h6:b6≠b:=fun e=>by subst e;rw[g4] at hb6;cases hb6
   have w5:=w4.alloc (x:=.cells [.int .i64 k,.str nm,.sl .no 1 (cT faces),.sl .no 6 (cLs flds),.sl .no 1 (cT parts),.sl .no 10 (cWs ps)]) hb6
   have g5:(H4.upd b6 (.cells [.int .i64 k,.str nm,.sl .no 1 (cT faces),.sl .no 6 (cLs flds),.sl .no 1 (cT parts),.sl .no 10 (cWs ps)])) b=some (.cells [.ptr w 0]):=by rw[upd_ne (Ne.symm h6)];exact g4
   simp(disch:=first|omega|assumption) only[g5,go_sem]
   refine yY hfw w5 (by simp only[Lim,Al3];omega) fun o6 l6 H6 w6 s6=>?_
   have g6:=s6.box w5.here.own g5 hbw
   simp(disch:=first|omega|assumption) only[wrap64,go_sem]
   exact goJ (hJ4 (o6,l6) H6 ⟨w6.cast (by rw[za1];omega) (by rw[za1];omega) (by simp[yC]) (by simp),g6⟩) (by simp(disch:=first|omega|assumption) only[go_sem])
noncomputable def yS (s:SchD):List UInt8×Bool:=if yz s then za7 s else ([],false)
theorem zlw (s:SchD) (hw:zbW s) (hb:8192*Yp s+8192≤Lim):Pure Tryz.prog 23 [.agg (YN s)] (.tup [.str (yS s).1,.bool (yS s).2]):=by
 refine Pure.go ir23 ck23 (Al4 _) fun KP Q hQ=>?_
 have ed:YN s=[.sl .no 6 (cEs s.defs),.str s.q,.str s.m]:=rfl
 have hT:=zkz s hw (by simp only[Lim] at hb ⊢;omega)
 rw[ed] at hT ⊢
 simp(disch:=first|omega|assumption) only[ir23,go_sem]
 refine goK_ret hT fun v H1 ⟨hH,L,hv,hL,hrL⟩=>?_
 subst hv;subst hH
 have hp:=zh5 L (by simp only[Lim] at hb ⊢;omega)
 simp(disch:=first|omega|assumption) only[go_sem]
 refine goK_pure hp ?_
 cases hr:yz s with
 | false =>
  simp(disch:=first|omega|assumption) only[go_sem]
  exact hQ _ _ _ _ nofun rfl (by simp[tupOf,envOf,AV.strip,AV.strip1,yS,hr])
 | true =>
  obtain rfl:=hrL hr
  cases h2:(Zg (YT s)).2 with
  | false =>
   simp(disch:=first|omega|assumption) only[go_sem]
   exact hQ _ _ _ _ nofun rfl (by simp[tupOf,envOf,AV.strip,AV.strip1,yS,hr,za7,h2])
  | true =>
   by_cases hl:(Zg (YT s)).1.length≤8192
   ·have hl':¬ ((8192:Int)<((Zg (YT s)).1.length:Int)):=by omega
    simp(disch:=first|omega|assumption) only[hl',go_sem]
    exact hQ _ _ _ _ nofun rfl (by simp[tupOf,envOf,AV.strip,AV.strip1,yS,hr,za7,h2,hl])
   ·have hl':((8192:Int)<((Zg (YT s)).1.length:Int))=True:=eq_true (by omega)
    simp(disch:=first|omega|assumption) only[hl',go_sem]
    exact hQ _ _ _ _ nofun rfl (by simp[tupOf,envOf,AV.strip,AV.strip1,yS,hr,za7,h2,hl])
def l8L (x:FldD):Nat:=1+x.nm.length+lWs x.ps+lDs x.dirs
def zg6 (l:List FldD):Nat:=(l.map l8L).sum
def l8E (x:DefD):Nat:=1+x.nm.length+bT x.faces+bT x.parts+lWs x.ps+zg6 x.flds
def zcE (l:List DefD):Nat:=(l.map l8E).sum
def zfj (s:SchD):Bool:=decide (zcE s.defs≤4000)
theorem zl8 (x:FldD):l8L x≤2*bL x:=by
 have h1:=ze0 x.dirs
 have h2:=zcn x.ps
 simp only[l8L,bL];omega
theorem zhu (l:List FldD):zg6 l≤2*bLs l:=zdU zl8 l
theorem ziW (x:DefD):l8E x≤2*bE x:=by
 have h1:=zhu x.flds
 have h2:=zcn x.ps
 simp only[l8E,bE];omega
theorem zhW (l:List DefD):zcE l≤2*bEs l:=zdU ziW l
theorem zgF (l:List DirD) (hb:bDs l≤Lim):Pure Tryz.prog 56 [.sl .no 2 (cDs l)] (.int .i64 (lDs l)):=by
 refine Pure.go ir56 ck56 (Al4 _) fun KP Q hQ=>?_
 have h1:=zbO l
 have hl:=zeW l
 have hle:=ze0 l
 have hb':=hb
 simp only[Lim] at hb'
 simp(disch:=first|omega|assumption) only[ir56,h1,go_sem]
 refine goL_range l 4 (fun n:Int=>[(3,.int .i64 n)]) (fun done rest n H=>n+lDs rest=lDs l) 0 (by simp(disch:=first|omega|assumption) only[go_sem]) (by simp) ?_ ?_
 ·rintro n H J hn hlt
  simp only[lDs,List.map_nil,List.sum_nil] at hn
  simp(disch:=first|omega|assumption) only[h1,hlt,go_sem]
  have:n=((lDs l:Nat):Int):=by simp only[lDs];omega
  exact hQ _ _ _ _ nofun rfl (by simp[tupOf,envOf,AV.strip,AV.strip1,this])
 ·rintro done x rest n H J hd hlt _ hn hJ
  have hg:=zcR hd
  have hbm:=zfc done x rest
  rw[← hd] at hbm
  obtain⟨nm,args⟩:=x
  simp only[bD] at hbm
  have hn':n+(2+nm.length+bMs args+lDs rest:Nat)=lDs l:=by rw[← hn];simp[lDs,lD]
  have hsz:bV (.mk 0 0 [] [] args)=1+bMs args:=by simp[bV,bVs]
  have hp:(0:Int)≤n:=by
   have:=ze0 rest
   have e:lDs l=lDs done+lDs (⟨nm,args⟩::rest):=by rw[hd];simp[lDs]
   omega
  simp(disch:=first|omega|assumption) only[h1,hlt,hg,cD,wrap64,go_sem]
  refine goK_pure (Pure.low (zk5 (.mk 0 0 [] [] args) (by rw[hsz];simp only[Lim];omega))) ?_
  rw[hsz]
  simp(disch:=first|omega|assumption) only[h1,hlt,hg,cD,wrap64,go_sem]
  exact goJ (hJ (n+1+nm.length+((1+bMs args:Nat):Int)) _ (by omega)) (by simp(disch:=first|omega|assumption) only[wrap64,go_sem])
theorem zcv (l:List (List UInt8)) (hb:bT l≤Lim):Pure Tryz.prog 54 [.sl .no 1 (cT l)] (.int .i64 (bT l)):=by
 refine Pure.go ir54 ck54 (Al4 _) fun KP Q hQ=>?_
 have h1:=yg l
 have hl:=YP l
 have hb':=hb
 simp only[Lim] at hb'
 simp(disch:=first|omega|assumption) only[ir54,h1,go_sem]
 refine goL_range l 4 (fun n:Int=>[(3,.int .i64 n)]) (fun done rest n H=>n=bT done) 0 (by simp(disch:=first|omega|assumption) only[go_sem]) (by simp[bT]) ?_ ?_
 ·rintro n H J hn hlt
  subst hn
  simp(disch:=first|omega|assumption) only[h1,hlt,go_sem]
  exact hQ _ _ _ _ nofun rfl (by simp[tupOf,envOf,AV.strip,AV.strip1])
 ·rintro done x rest n H J hd hlt _ hn hJ
  subst hn
  have hg:=zcr hd
  have hbm:=zds done x rest
  rw[← hd] at hbm
  simp(disch:=first|omega|assumption) only[h1,hlt,hg,wrap64,go_sem]
  exact goJ (hJ ((bT done:Int)+1+x.length) _ (by simp[bT];omega)) (by simp(disch:=first|omega|assumption) only[wrap64,go_sem])
theorem zbN (l:List VarD) (hb:bWs l≤Lim):Pure Tryz.prog 55 [.sl .no 10 (cWs l)] (.int .i64 (lWs l)):=by
 refine Pure.go ir55 ck55 (Al4 _) fun KP Q hQ=>?_
 have h1:=Yx l
 have hl:=zaa l
 have hle:=zcn l
 have hb':=hb
 simp only[Lim] at hb'
 simp(disch:=first|omega|assumption) only[ir55,h1,go_sem]
 refine goL_range l 4 (fun n:Int=>[(3,.int .i64 n)]) (fun done rest n H=>n=lWs done) 0 (by simp(disch:=first|omega|assumption) only[go_sem]) (by simp[lWs]) ?_ ?_
 ·rintro n H J hn hlt
  subst hn
  simp(disch:=first|omega|assumption) only[h1,hlt,go_sem]
  exact hQ _ _ _ _ nofun rfl (by simp[tupOf,envOf,AV.strip,AV.strip1])
 ·rintro done x rest n H J hd hlt _ hn hJ
  subst hn
  have hg:=zfs hd
  have hbm:=ze4 done x rest
  rw[← hd] at hbm
  have hld:=zcn done
  obtain⟨vn,⟨tn,tl,tm⟩,vh,vd⟩:=x
  have hbx:bW ⟨vn,⟨tn,tl,tm⟩,vh,vd⟩=vn.length+tn.length+bV vd:=rfl
  rw[zeG] at hg
  simp only at hg
  simp(disch:=first|omega|assumption) only[zf,zc,za,ze,zd,zb,zh,h1,hlt,hg,wrap64,go_sem]
  refine goK_pure (zk5 vd (by simp only[Lim];omega)) ?_
  simp(disch:=first|omega|assumption) only[zf,zc,za,ze,zd,zb,zh,h1,hlt,hg,wrap64,go_sem]
  exact goJ (hJ ((lWs done:Int)+1+vn.length+((bV vd:Nat):Int)) _ (by simp[lWs,lW];omega)) (by simp(disch:=first|omega|assumption) only[wrap64,go_sem])
theorem zkQ (s:SchD) (hb:Yp s≤Lim):Pure Tryz.prog 22 [.agg (YN s)] (.bool (zfj s)):=by
 refine Pure.go ir22 ck22 (Al4 _) fun KP Q hQ=>?_
 obtain⟨defs,q,m⟩:=s
 simp only[Yp] at hb
 have h1:=zaU defs
 have hl:=zcL defs
 have hle:=zhW defs
 have hb':=hb
 simp only[Lim] at hb'
 have ed:YN ⟨defs,q,m⟩=[.sl .no 6 (cEs defs),.str q,.str m]:=rfl
 simp(disch:=first|omega|assumption) only[ir22,ed,h1,go_sem]
 refine goL_range defs 4 (fun n:Int=>[(3,.int .i64 n)]) (fun done rest n H=>n=zcE done) 0 (by simp(disch:=first|omega|assumption) only[go_sem]) (by simp[zcE]) ?_ ?_
 ·rintro n H J hn hlt
  subst hn
  by_cases h4:zcE defs≤4000
  ·have h4':((zcE defs:Int)≤4000)=True:=eq_true (by omega)
   simp(disch:=first|omega|assumption) only[h1,hlt,h4',go_sem]
   exact hQ _ _ _ _ nofun rfl (by simp[tupOf,envOf,AV.strip,AV.strip1,zfj,h4])
  ·have h4':¬ ((zcE defs:Int)≤4000):=by omega
   simp(disch:=first|omega|assumption) only[h1,hlt,h4',go_sem]
   exact hQ _ _ _ _ nofun rfl (by simp[tupOf,envOf,AV.strip,AV.strip1,zfj,h4])
 ·rintro done x rest n H J hd hlt _ hn hJ
  subst hn
  have hg:=za0 hd
  have hbm:=zcS done x rest
  rw[← hd] at hbm
  have hld:=zhW done
  have hxe:=ziW x
  obtain⟨k,nm,faces,flds,parts,ps⟩:=x
  simp only[bE] at hbm
  simp only[l8E,bE] at hxe
  have hfl:=YE flds
  have hfb:=zaV flds
  have hpl:=zcn ps
  rw[zbF] at hg
  simp(disch:=first|omega|assumption) only[h1,hlt,hg,go_sem]
  refine goA_intro fun b5 hb5=>?_
  obtain⟨cs,hcs⟩:∃ cs,cs=[AV.int .i64 k,.str nm,.sl .no 1 (cT faces),.sl .no 6 (cLs flds),.sl .no 1 (cT parts),.sl .no 10 (cWs ps)]:=⟨_,rfl⟩
  simp(disch:=first|omega|assumption) only[wrap64,go_sem]
  refine goK_pure (zcv faces (by simp only[Lim];omega)) ?_
  simp(disch:=first|omega|assumption) only[wrap64,go_sem]
  refine goK_pure (zcv parts (by simp only[Lim];omega)) ?_
  simp(disch:=first|omega|assumption) only[wrap64,go_sem]
  refine goK_pure (zbN ps (by simp only[Lim];omega)) ?_
  simp(disch:=first|omega|assumption) only[wrap64,hfl,go_sem]
  refine goL_range flds 6 (fun n:Int=>[(3,.int .i64 n)]) (fun dn rs n H'=>n=(zcE done:Int)+1+nm.length+bT faces+bT parts+lWs ps+zg6 dn∧H' b5=some (.cells [AV.int .i64 k,.str nm,.sl .no 1 (cT faces),.sl .no 6 (cLs flds),.sl .no 1 (cT parts),.sl .no 10 (cWs ps)])) ((zcE done:Int)+1+nm.length+bT faces+bT parts+lWs ps) (by simp(disch:=first|omega|assumption) only[wrap64,go_sem]) ⟨by simp[zg6],upd_same ..⟩ ?_ ?_
  ·rintro n H4 J4 ⟨hn,g4⟩ hlt4
   subst hn
   simp(disch:=first|omega|assumption) only[hfl,hlt4,g4,wrap64,go_sem]
   exact goJ (hJ ((zcE done:Int)+1+nm.length+bT faces+bT parts+lWs ps+zg6 flds) _ (by simp[zcE,l8E];omega)) (by simp(disch:=first|omega|assumption) only[wrap64,go_sem])
  ·rintro dn y rs n H4 J4 hdn hlt4 _ ⟨hn,g4⟩ hJ4
   subst hn
   have hgy:=zft hdn
   have hby:=zfo dn y rs
   rw[← hdn] at hby
   have hldn:=zhu dn
   obtain⟨fn,fps,⟨tn,tl,tm⟩,dirs⟩:=y
   simp only[bL] at hby
   have hd1:=ze0 dirs
   have hd2:=zcn fps
   rw[zjX] at hgy
   simp(disch:=first|omega|assumption) only[hfl,hlt4,g4,hgy,wrap64,go_sem]
   refine goK_pure (zbN fps (by simp only[Lim];omega)) ?_
   simp(disch:=first|omega|assumption) only[hfl,hlt4,g4,hgy,wrap64,go_sem]
   refine goK_pure (zgF dirs (by simp only[Lim];omega)) ?_
   simp(disch:=first|omega|assumption) only[hfl,hlt4,g4,hgy,wrap64,go_sem]
   exact goJ (hJ4 ((zcE done:Int)+1+nm.length+bT faces+bT parts+lWs ps+zg6 dn+1+fn.length+lWs fps+lDs dirs) _ ⟨by simp[zg6,l8L];omega,g4⟩) (by simp(disch:=first|omega|assumption) only[wrap64,go_sem])
abbrev Y3 (H:Heap) (r:Nat) (L t:TS) (dp:Nat):Prop:=∃ p,p++t=L∧H r=some (prc L p dp)
section
variable {H:Heap} {r:Nat} {L t:TS} {dp:Nat}
theorem zbc (hl:wT L≤zG):L.length≤zG:=Nat.le_trans (zdQ L) hl
theorem zmf (h:Y3 H r L t dp) (m:List UInt8):ACalls Tryz.prog 158 [.ptr r 0,.str m] H (fun e H'=>∃ v,e=.ret v∧(v=.bool (isW m t)∧H'=H)) :=
 let ⟨_,hp,hr⟩:=h;zmP hp hr m
theorem zgw (h:Y3 H r L t dp) (hl:wT L≤zG) (m:List UInt8):ACalls Tryz.prog 98 [.ptr r 0,.str m] H (fun e H'=>∃ v,e=.ret v∧(v=.bool (isP m t)∧Pat H r L (y9 m t) dp H')) :=
 let ⟨_,hp,hr⟩:=h;zbf hp (zbc hl) hr m
theorem Z9 (h:Y3 H r L t dp) (hl:wT L≤zG) (m:List UInt8):ACalls Tryz.prog 100 [.ptr r 0,.str m] H (fun e H'=>∃ v,e=.ret v∧(v=.bool (isW m t)∧Pat H r L (zN m t) dp H')) :=
 let ⟨_,hp,hr⟩:=h;zmn hp (zbc hl) hr m
theorem Y0 (h:Y3 H r L t dp) (hl:wT L≤zG) (m:List UInt8):ACalls Tryz.prog 84 [.ptr r 0,.str m] H (RpE H r L dp (yt m t) fun _=>.tup []) :=
 let ⟨_,hp,hr⟩:=h;zfu hp (zbc hl) hr m
theorem zay (h:Y3 H r L t dp) (hl:wT L≤zG):ACalls Tryz.prog 85 [.ptr r 0] H (RpE H r L dp (z7 t) AV.str) :=
 let ⟨_,hp,hr⟩:=h;zc3 hp (zbc hl) hr
theorem zkg (h:Y3 H r L t dp) (hl:wT L≤zG):ACalls Tryz.prog 38 [.ptr r 0] H (RpE H r L dp (Y4 4 t) (fun x=>.agg (cTy x))) :=
 let ⟨_,hp,hr⟩:=h;zlP hp hl hr
theorem zlR (h:Y3 H r L t (16-16)) (hl:wT L≤zG):ACalls Tryz.prog 33 [.ptr r 0,.bool true] H (RpE H r L (16-16) (yA true 16 t) fun v=>.agg (cV v)) :=
 let ⟨p,hp,hr⟩:=h;zct true 16 (Al4 _) _ r L p t hp hl hr
theorem zlp (h:Y3 H r L t (16-16)) (hl:wT L≤zG):ACalls Tryz.prog 196 [.ptr r 0,.bool true] H (RpE H r L (16-16) (zaK true 16 t) (fun l=>.sl .no 2 (cDs l))) :=
 let ⟨_,hp,hr⟩:=h;zlT (Al4 _) hp hl hr
end
theorem Yz (s:List UInt8) (t:TS):zA (wk s::t)=wk s::t:=by simp[zA,yR,wk]
theorem zgI (x:VarD) (h:Zy x=true) (hw:wfW x) (t:TS) (h1:isP [33] t=false) (h2:isP [61] t=false):yp (tPa x++t)=.ok (x,t):=by
 obtain⟨nm,ty,has,d⟩:=x
 simp only[Zy,Al0] at h
 obtain⟨_,r1,r2⟩:=h
 cases has with
 | true =>
  simp only[zcI,if_true] at r2
  have e:tPa ⟨nm,ty,true,d⟩++t=wk nm::pk [58]::(tTy ty++(pk [61]::(zF d++t))):=by simp[tPa,tDf]
  rw[e]
  unfold yp
  simp only[Yz,yH,zj,yf,zbt ty r1 _ (show isP [33] (pk [61]::(zF d++t))=false by rw[yd];decide),yd,decide_true,if_true,List.tail_cons,zde (dp:=0) (k:=16) (by decide) r2 hw.2.2 t]
 | false =>
  simp only[zcI,Al7,if_false] at r2
  have e:tPa ⟨nm,ty,false,d⟩++t=wk nm::pk [58]::(tTy ty++t):=by simp[tPa,tDf]
  rw[e,zmp r2]
  unfold yp
  simp only[Yz,yH,zj,yf,zbt ty r1 _ h1,h2,Al7,if_false]
theorem zgG (x:VarD) (t:TS) (m:List UInt8):isP m (tPa x++t)=false:=by simp only[tPa,Al6,zco]
theorem zc6 (m:List UInt8) (hm:m≠[33]) (hm2:m≠[61]) (l:List VarD) (hl:l≠[]) (h:l.all Zy=true) (hw:∀ x∈l,wfW x) (t:TS):yx m yp (l.flatMap tPa++pk m::t)=.ok (l,t) :=
 YI (F:=fun t=>isP [33] t=false∧isP [61] t=false) (fun t=>by simp only[yd];exact⟨decide_eq_false hm,decide_eq_false hm2⟩) l hl (fun x _ t=>⟨zgG x t _,zgG x t _⟩) (fun x _ t=>zgG x t _)
  (fun x hx t ht=>zgI x (yD.1 h x hx) (hw x hx) t ht.1 ht.2) t
def zmk (t:TS):Prop:=isP [33] t=false∧isP [40] t=false∧isP [64] t=false
theorem zgY (x:FldD) (h:ZB x=true) (hw:wfL x) (t:TS) (ht:zmk t):yZ (tL x++t)=.ok (x,t):=by
 obtain⟨nm,ps,ty,dirs⟩:=x
 simp only[ZB,Al0] at h
 obtain⟨_,r1,r2,r3⟩:=h
 obtain⟨w1,_,_,w4⟩:=hw
 obtain⟨t1,t2,t3⟩:=ht
 have hd:=ziz (k:=16) (dp:=0) (by decide) dirs r3 w4 t t2 t3
 have hb:isP [33] (tDs dirs++t)=false:=zi6 _ (by decide) _ _ t1
 have hty:=zbt ty r2 (tDs dirs++t) hb
 have e:tL ⟨nm,ps,ty,dirs⟩++t=wk nm::(tPb ps++pk [58]::(tTy ty++(tDs dirs++t))):=by simp[tL]
 rw[e]
 unfold yZ
 simp only[Yz,yf,zj]
 unfold tPb
 by_cases hl:ps.length=0
 ·obtain rfl:ps=[]:=Ze.1 hl
  simp only[Al3,if_true,Zh,yd]
  rw[decide_eq_false (by decide)]
  simp only[Al7,if_false,zj,yH,hty,hd]
 ·have hne:ps≠[]:=fun e=>hl (by rw[e];rfl)
  rw[if_neg hl]
  simp only[Al6,yd,decide_true,if_true,List.tail_cons,Yj,Zh]
  rw[zc6 _ (by decide) (by decide) ps hne r1 w1]
  simp only[zj,yH,hty,hd]
theorem zhV (x:FldD) (t:TS) (m:List UInt8):isP m (tL x++t)=false:=by simp only[tL,Al6,zco]
theorem zhr (l:List FldD) (hl:l≠[]) (h:l.all ZB=true) (hw:∀ x∈l,wfL x) (t:TS):yx [125] yZ (l.flatMap tL++pk [125]::t)=.ok (l,t) :=
 YI (F:=zmk) (fun t=>by simp only[zmk,yd];decide) l hl (fun x _ t=>⟨zhV x t _,zhV x t _,zhV x t _⟩) (fun x _ t=>zhV x t _)
  (fun x hx t ht=>zgY x (yD.1 h x hx) (hw x hx) t ht) t
theorem zcz (m:List UInt8):∀(r:List (List UInt8)) (n:Nat) (l:List (List UInt8)) (t:TS),r.length<n→isP m t=false→yq m z7 n l ((r.flatMap fun s=>[pk m,wk s])++t)=.ok (l++r,t)
 | [],n,l,t,hn,ht=>by
  obtain⟨k,rfl⟩:∃ k,n=k+1:=⟨n-1,by omega⟩
  simp[yq,ht]
 | s::r,n,l,t,hn,ht=>by
  simp only[Al2] at hn
  obtain⟨k,rfl⟩:∃ k,n=k+1:=⟨n-1,by omega⟩
  simp only[List.flatMap_cons,Al6,Zh,yq,yd,decide_true,if_true,List.tail_cons,yf,zj]
  rw[zcz m r k _ t (by omega) ht]
  simp
theorem zc7 (m:List UInt8) (l:List (List UInt8)) (hl:l≠[]) (t:TS) (ht:isP m t=false):ZU m (tNs m l++t)=.ok (l,t):=by
 cases l with
 | nil=>exact absurd rfl hl
 | cons s r =>
  unfold ZU
  simp only[tNs,Al6,zco,Al7,if_false,yf,zj]
  have e:r.length≤(r.flatMap fun s=>[pk m,wk s]).length:=ZF r fun x _ e=>by simp at e
  rw[zcz m r _ _ t (by rw[Al5];omega) ht]
  simp
theorem ziE (s:List UInt8) (h:yP s=true) (t:TS):ZV (wk s::t)=.ok (s,t):=by
 unfold ZV
 simp only[yP,Al0,zn] at h
 simp only[Yz,zbx,h.1,h.2.1,h.2.2,decide_false,Al7,or_self,if_false,yf]
theorem zir (l:List (List UInt8)) (hl:l≠[]) (h:l.all yP=true) (t:TS):yx [125] ZV (l.map wk++pk [125]::t)=.ok (l,t):=by
 have e:l.map wk=l.flatMap fun s=>[wk s]:=by
  clear hl h
  induction l with
  | nil=>rfl
  | cons s r ih=>simp[ih]
 rw[e]
 exact YI (tk:=fun s=>[wk s]) (F:=fun _=>True) (fun t=>trivial) l hl (fun x _ t=>trivial) (fun x _ t=>by simp only[Al6,Zh,zco]) (fun x hx t ht=>ziE x (yD.1 h x hx) t) t
def zf4 (t:TS):Prop:=isP [124] t=false
theorem zgy (d:SR) (x:DefD) (h:yc x=true) (hw:wfE x) (t:TS) (ht:zf4 t):zC d (tE x++t)=.ok (Zw d x,t):=by
 obtain⟨k,nm,faces,flds,parts,ps⟩:=x
 simp only[yc,Al0] at h
 obtain⟨hn,h⟩:=h
 obtain⟨w1,w2⟩:=hw
 by_cases hk:k=1∨k=2
 ·rw[if_pos hk] at h
  simp only[Al0,zn] at h
  obtain⟨h1,h2,h3,h4,h5⟩:=h
  obtain rfl:parts=[]:=Ze.1 h4
  obtain rfl:ps=[]:=Ze.1 h5
  have hne:flds≠[]:=fun e=>h3 (by rw[e];rfl)
  have hf:=zhr flds hne h2 w1 t
  have ho:za8 k (wk nm::((if faces.length=0 then [] else wk [105,109,112,108,101,109,101,110,116,115]::tNs [38] faces)++(pk [123]::(flds.flatMap tL++pk [125]::t))))=.ok (⟨k,nm,faces,flds,[],[]⟩,t):=by
   unfold za8
   simp only[yf,zj]
   by_cases hl:faces.length=0
   ·obtain rfl:faces=[]:=Ze.1 hl
    simp only[Al3,if_true,Zh,zlu,Al7,if_false,zj,yH,hf]
   ·have hfn:faces≠[]:=fun e=>hl (by rw[e];rfl)
    rw[if_neg hl]
    simp only[Al6,zbx,decide_true,if_true,List.tail_cons]
    rw[zc7 [38] faces hfn (pk [123]::(flds.flatMap tL++pk [125]::t)) (by rw[yd];decide)]
    simp only[zj,yH,hf]
  have e:tE ⟨k,nm,faces,flds,[],[]⟩++t=wk (if k=1 then [116,121,112,101] else [105,110,116,101,114,102,97,99,101])::(wk nm::((if faces.length=0 then [] else wk [105,109,112,108,101,109,101,110,116,115]::tNs [38] faces)++(pk [123]::(flds.flatMap tL++pk [125]::t)))):=by
   simp only[tE];rw[if_pos hk];simp
  rw[e]
  unfold zC Yo
  rw[Yz]
  rcases hk with rfl|rfl
  ·simp only[if_true,zbx,List.tail_cons,ho,zj]
   rw[if_neg (by rintro⟨_,h⟩;revert h;decide),if_pos (by decide)]
  ·simp only[show ¬ ((2:Int)=1) by decide,if_false,zbx,List.tail_cons,ho,zj]
   rw[if_neg (by rintro⟨_,h⟩;revert h;decide),if_neg (by decide),if_pos (by decide)]
 rw[if_neg hk] at h
 by_cases h3:k=3
 ·subst h3
  simp only[if_true,Al0,zn] at h
  obtain⟨g1,g2,g3,g4,g5⟩:=h
  obtain rfl:faces=[]:=Ze.1 g3
  obtain rfl:flds=[]:=Ze.1 g4
  obtain rfl:ps=[]:=Ze.1 g5
  have hne:parts≠[]:=fun e=>g2 (by rw[e];rfl)
  have e:tE ⟨3,nm,[],[],parts,[]⟩++t=wk [117,110,105,111,110]::wk nm::pk [61]::(tNs [124] parts++t):=by
   simp only[tE];rw[if_neg (by decide),if_pos trivial];simp
  rw[e]
  unfold zC Yo ZT
  rw[Yz]
  simp only[zbx,List.tail_cons,yf,zj,yH,zc7 [124] parts hne t ht]
  rw[if_neg (by rintro⟨_,h⟩;revert h;decide),if_neg (by decide),if_neg (by decide),if_pos (by decide)]
 rw[if_neg h3] at h
 by_cases h4:k=4
 ·subst h4
  simp only[if_true,Al0,zn] at h
  obtain⟨⟨g1,g1'⟩,g2,g3,g4,g5⟩:=h
  obtain rfl:faces=[]:=Ze.1 g3
  obtain rfl:flds=[]:=Ze.1 g4
  obtain rfl:ps=[]:=Ze.1 g5
  have hne:parts≠[]:=fun e=>g2 (by rw[e];rfl)
  have e:tE ⟨4,nm,[],[],parts,[]⟩++t=wk [101,110,117,109]::wk nm::pk [123]::(parts.map wk++pk [125]::t):=by
   simp only[tE];rw[if_neg (by decide),if_neg (by decide),if_pos trivial];simp
  rw[e]
  unfold zC Yo zak
  rw[Yz]
  simp only[zbx,List.tail_cons,yf,zj,yH,zir parts hne g1' t]
  rw[if_neg (by rintro⟨_,h⟩;revert h;decide),if_neg (by decide),if_neg (by decide),if_neg (by decide),if_pos (by decide)]
 rw[if_neg h4] at h
 by_cases h5:k=5
 ·subst h5
  simp only[if_true,Al0,zn] at h
  obtain⟨g1,g2,g3,g4,g5⟩:=h
  obtain rfl:faces=[]:=Ze.1 g3
  obtain rfl:flds=[]:=Ze.1 g4
  obtain rfl:parts=[]:=Ze.1 g5
  have hne:ps≠[]:=fun e=>g2 (by rw[e];rfl)
  have e:tE ⟨5,nm,[],[],[],ps⟩++t=wk [105,110,112,117,116]::wk nm::pk [123]::(ps.flatMap tPa++pk [125]::t):=by
   simp only[tE];rw[if_neg (by decide),if_neg (by decide),if_neg (by decide)];simp
  rw[e]
  unfold zC Yo ZP
  rw[Yz]
  simp only[zbx,List.tail_cons,yf,zj,yH,zc6 [125] (by decide) (by decide) ps hne g1 w2 t]
  rw[if_neg (by rintro⟨_,h⟩;revert h;decide),if_neg (by decide),if_neg (by decide),if_neg (by decide),if_neg (by decide),if_pos (by decide)]
 ·rw[if_neg h5] at h;cases h
theorem zk8 (x:DefD) (t:TS):(hdT (tE x++t)).k=2:=by
 unfold tE
 repeat' split
 all_goals rfl
theorem zje (l:List DefD) (t:TS) (ht:zf4 t):zf4 (l.flatMap tE++t):=by
 cases l with
 | nil=>exact ht
 | cons x r =>
  have:=zk8 x (r.flatMap tE++t)
  simp only[zf4,List.flatMap_cons,Yj,isP,this]
  rfl
theorem zjT (x:DefD) (t:TS):tE x++t≠[]:=fun e=>by have:=zk8 x t;rw[e] at this;simp[hdT] at this
theorem zbo:∀(l:List DefD),l.all yc=true→(∀ x∈l,wfE x)→∀(n:Nat) (d:SR),l.length<n→YO n d (l.flatMap tE)=.ok (⟨d.defs++l,d.q,d.m,d.told⟩,[])
 | [],_,_,n,d,hn=>by
  obtain⟨k,rfl⟩:∃ k,n=k+1:=⟨n-1,by omega⟩
  simp[YO]
 | x::r,h,hw,n,d,hn=>by
  simp only[List.all_cons,Al0] at h
  simp only[Al2] at hn
  obtain⟨k,rfl⟩:∃ k,n=k+1:=⟨n-1,by omega⟩
  have hf:zf4 (r.flatMap tE):=by have:=zje r [] (by simp[zf4,isP,hdT]);simpa using this
  rw[List.flatMap_cons,YO,if_neg (zjT _ _),zgy d x h.1 (hw x (.head _)) _ hf,zj,zbo r h.2 (fun y hy=>hw y (.tail _ hy)) k _ (by omega)]
  simp[Zw]
theorem zif (l:List DefD) (hl:l≠[]) (h:l.all yc=true) (hw:∀ x∈l,wfE x):zfe (l.flatMap tE)=.ok (⟨l,[],[],false⟩,[]):=by
 cases l with
 | nil=>exact absurd rfl hl
 | cons x r =>
  have hs:=zbo (x::r) h hw
  simp only[List.all_cons,Al0] at h
  have hf:zf4 (r.flatMap tE):=by have:=zje r [] (by simp[zf4,isP,hdT]);simpa using this
  unfold zfe
  have hl2:r.length≤(r.flatMap tE).length:=ZF r fun x _ e=>by have:=zjT x [];rw[List.append_nil] at this;exact this e
  rw[List.flatMap_cons,zgy sr0 x h.1 (hw x (.head _)) _ hf,zj,zbo r h.2 (fun y hy=>hw y (.tail _ hy)) _ _ (by omega)]
  rfl
theorem Y2 (t:TS):zA t <:+ t∧wT (zA t)≤wT t:=by
 unfold zA
 split
 ·rename_i h
  have:=zbu (t:=t) (by rw[h];decide)
  exact⟨this.1,by omega⟩
 ·exact⟨List.suffix_refl _,Al4 _⟩
theorem ZA:GP bW wfW 1 yp:=fun t a t' h=>by
 obtain⟨s,t2,h3,h4⟩:=zm h
 obtain⟨_,t3,h5,h6⟩:=zm h4
 obtain⟨ty,t4,h7,h8⟩:=zm h6
 have g0:=Y2 t
 have g2:=zD _ _ _ h3
 have g3:=yb _ _ _ _ h5
 have g4:=zdS 4 _ _ _ h7
 have w2:=g2.w
 have w3:=g3.w
 have w4:=g4.w
 simp only[b0] at w3
 have hw:=zhB g4.ok
 split at h8
 ·rename_i hp
  have h0:=Ya hp
  obtain⟨v,t5,h9,h10⟩:=zm h8
  cases h10
  have g5:=Zn true 16 _ _ _ h9
  have w5:=g5.w
  exact⟨((((g5.suf.trans h0.1).trans g4.suf).trans g3.suf).trans g2.suf).trans g0.1,by simp only[bW];omega,hw.1,hw.2,g5.ok⟩
 ·cases h8
  exact⟨((g4.suf.trans g3.suf).trans g2.suf).trans g0.1,by simp only[bW,ze1.1];omega,hw.1,hw.2,ze1.2⟩
theorem ZE:GP bL wfL 1 yZ:=fun t a t' h=>by
 obtain⟨s,t1,h1,h2⟩:=zm h
 obtain⟨ps,t2,h3,h4⟩:=zm h2
 obtain⟨_,t3,h5,h6⟩:=zm h4
 obtain⟨ty,t4,h7,h8⟩:=zm h6
 obtain⟨ds,t5,h9,h10⟩:=zm h8
 cases h10
 have g0:=Y2 t
 have g1:=zD _ _ _ h1
 have g2:t2 <:+ t1∧bWs ps+wT t2≤wT t1∧∀ x∈ps,wfW x:=by
  split at h3
  ·rename_i hp
   have h0:=Ya hp
   have g:=Yh ZA _ _ _ h3
   have w:=g.w
   have e:=zju ps
   exact⟨g.suf.trans h0.1,by omega,g.ok⟩
  ·cases h3;exact⟨List.suffix_refl _,by simp[bWs],fun x hx=>(by cases hx)⟩
 have g3:=yb _ _ _ _ h5
 have g4:=zdS 4 _ _ _ h7
 have g5:=ziC true 16 _ _ _ h9
 have w1:=g1.w
 have w3:=g3.w
 have w4:=g4.w
 have w5:=g5.w
 simp only[b0] at w3
 have hw:=zhB g4.ok
 exact⟨((((g5.suf.trans g4.suf).trans g3.suf).trans g2.1).trans g1.suf).trans g0.1,by simp only[bL];omega,g2.2.2,hw.1,hw.2,g5.ok⟩
theorem zaO:GP List.length T1 4 ZV:=fun t a t' h=>by
 unfold ZV at h
 split at h
 ·cases h
 ·have g0:=Y2 t
  have g1:=zD _ _ _ h
  have w1:=g1.w
  exact⟨g1.suf.trans g0.1,by omega,trivial⟩
theorem GP.low {α:Type} {b:α→Nat} {ok:α→Prop} {c c':Nat} {f:TS→PR α} (h:GP b ok c f) (hc:c'≤c):GP b ok c' f:=fun t a t' e=>by
 have g:=h t a t' e
 have w:=g.w
 exact⟨g.suf,by omega,g.ok⟩
theorem zlc (l:List (List UInt8)):bT l=sm List.length l:=by
 unfold bT sm
 induction l with
 | nil=>rfl
 | cons s r ih=>simp only[List.map_cons,List.sum_cons,Al2];omega
theorem zlq (l:List FldD):bLs l+l.length=sm bL l:=rfl
theorem zda (m:List UInt8):GP bT T1 1 (ZU m):=fun t a t' h=>by
 obtain⟨s,t1,h1,h2⟩:=zm h
 have g0:(if isP m t then t.tail else t) <:+ t∧wT (if isP m t then t.tail else t)≤wT t:=by
  split
  ·rename_i hp;have:=Ya hp;exact⟨this.1,by omega⟩
  ·exact⟨List.suffix_refl _,Al4 _⟩
 have g1:=zD _ _ _ h1
 have w1:=g1.w
 have g2:=zbi (zD.low (by decide)) _ [s] _ _ _ (fun x hx=>trivial) h2
 have e:=zlc a
 have e1:sm List.length [s]=s.length+1:=by simp[sm]
 exact⟨(g2.1.trans g1.suf).trans g0.1,by omega,trivial⟩
theorem zbZ (k:Int):GP bE wfE 1 (za8 k):=fun t a t' h=>by
 obtain⟨s,t1,h1,h2⟩:=zm h
 obtain⟨fs,t2,h3,h4⟩:=zm h2
 obtain⟨_,t3,h5,h6⟩:=zm h4
 obtain⟨l,t4,h7,h8⟩:=zm h6
 cases h8
 have g1:=zD _ _ _ h1
 have g2:t2 <:+ t1∧bT fs+wT t2≤wT t1:=by
  split at h3
  ·rename_i hp
   have h0:=zaS hp
   have g:=zda _ _ _ _ h3
   have w:=g.w
   exact⟨g.suf.trans h0.1,by omega⟩
  ·cases h3;exact⟨List.suffix_refl _,by simp[bT]⟩
 have g3:=yb _ _ _ _ h5
 have g4:=Yh ZE _ _ _ h7
 have w1:=g1.w
 have w3:=g3.w
 have w4:=g4.w
 simp only[b0] at w3
 have e:=zlq l
 exact⟨((g4.suf.trans g3.suf).trans g2.1).trans g1.suf,by simp only[bE,bT,bWs,List.map_nil,List.sum_nil] at g2 ⊢;omega,g4.ok,fun y hy=>nomatch hy⟩
theorem zei:GP bE wfE 1 zak:=fun t a t' h=>by
 obtain⟨s,t1,h1,h2⟩:=zm h
 obtain⟨_,t3,h5,h6⟩:=zm h2
 obtain⟨l,t4,h7,h8⟩:=zm h6
 cases h8
 have g1:=zD _ _ _ h1
 have g3:=yb _ _ _ _ h5
 have g4:=Yh (zaO.low (by decide)) _ _ _ h7
 have w1:=g1.w
 have w3:=g3.w
 have w4:=g4.w
 simp only[b0] at w3
 have e:=zlc l
 exact⟨(g4.suf.trans g3.suf).trans g1.suf,by simp only[bE,bLs,bWs,List.map_nil,List.sum_nil,show bT []=0 from rfl] at e ⊢;omega,fun y hy=>(nomatch hy),fun y hy=>nomatch hy⟩
theorem zc5:GP bE wfE 1 ZT:=fun t a t' h=>by
 obtain⟨s,t1,h1,h2⟩:=zm h
 obtain⟨_,t3,h5,h6⟩:=zm h2
 obtain⟨l,t4,h7,h8⟩:=zm h6
 cases h8
 have g1:=zD _ _ _ h1
 have g3:=yb _ _ _ _ h5
 have g4:=zda _ _ _ _ h7
 have w1:=g1.w
 have w3:=g3.w
 have w4:=g4.w
 simp only[b0] at w3
 exact⟨(g4.suf.trans g3.suf).trans g1.suf,by simp only[bE,bLs,bWs,List.map_nil,List.sum_nil,show bT []=0 from rfl];omega,fun y hy=>(nomatch hy),fun y hy=>nomatch hy⟩
theorem zc9:GP bE wfE 1 ZP:=fun t a t' h=>by
 obtain⟨s,t1,h1,h2⟩:=zm h
 obtain⟨_,t3,h5,h6⟩:=zm h2
 obtain⟨l,t4,h7,h8⟩:=zm h6
 cases h8
 have g1:=zD _ _ _ h1
 have g3:=yb _ _ _ _ h5
 have g4:=Yh ZA _ _ _ h7
 have w1:=g1.w
 have w3:=g3.w
 have w4:=g4.w
 simp only[b0] at w3
 have e:=zju l
 exact⟨(g4.suf.trans g3.suf).trans g1.suf,by simp only[bE,bLs,List.map_nil,List.sum_nil,show bT []=0 from rfl];omega,fun y hy=>(nomatch hy),g4.ok⟩
def bSR (d:SR):Nat:=bEs d.defs+d.q.length+d.m.length
def zk0 (d:SR):Prop:=∀ x∈d.defs,wfE x
theorem zgp (l:List DefD) (x:DefD):bEs (l++[x])=bEs l+bE x:=by simp[bEs]
theorem zkc {d:SR} {x:DefD} (hw:zk0 d) (hx:wfE x):zk0 (Zw d x)∧bSR (Zw d x)=bSR d+bE x:=by
 refine⟨fun y hy=>?_,by simp only[bSR,Zw,zgp];omega⟩
 rcases List.mem_append.1 hy with h|h
 ·exact hw y h
 ·simp at h;subst h;exact hx
structure SchFit (d:SR) (t:TS) (d':SR) (t':TS):Prop where
 suf:t' <:+ t
 w:bSR d'+1+wT t'≤bSR d+wT t
 wf:zk0 d→zk0 d'
theorem zew {d:SR} {t:TS} {d':SR} {t':TS} (h:zbd d t=.ok (d',t')):SchFit d t d' t':=by
 obtain⟨_,t1,h1,h2⟩:=zm h
 obtain⟨_,t2,h3,h4⟩:=zm h2
 obtain⟨_,t3,h5,h6⟩:=zm h4
 obtain⟨q,t4,h7,h8⟩:=zm h6
 obtain⟨m,t5,h9,h10⟩:=zm h8
 obtain⟨_,t6,h11,h12⟩:=zm h10
 cases h12
 have g1:=yb _ _ _ _ h1
 have g2:t2 <:+ t1∧wT t2≤wT t1:=by
  split at h3
  ·rename_i hw;cases h3;have h0:=zaS hw;exact⟨h0.1,by omega⟩
  ·cases h3
 have g3:=yb _ _ _ _ h5
 have g4:=zD _ _ _ h7
 have g5:t5 <:+ t4∧m.length+wT t5≤wT t4:=by
  split at h9
  ·rename_i hw
   have h0:=zaS hw
   obtain⟨_,t7,h13,h14⟩:=zm h9
   have g6:=yb _ _ _ _ h13
   have g7:=zD _ _ _ h14
   have w6:=g6.w
   have w7:=g7.w
   exact⟨(g7.suf.trans g6.suf).trans h0.1,by simp only[b0] at w6;omega⟩
  ·cases h9;exact⟨List.suffix_refl _,by simp⟩
 have g6:=yb _ _ _ _ h11
 have w1:=g1.w
 have w3:=g3.w
 have w4:=g4.w
 have w6:=g6.w
 simp only[b0] at w1 w3 w6
 exact⟨((((g6.suf.trans g5.1).trans g4.suf).trans g3.suf).trans g2.1).trans g1.suf,by simp only[bSR];omega,fun hw=>hw⟩
theorem zaA {d:SR} {w:List UInt8} {t:TS} (hw:isW w t=true) {f:TS→PR DefD} (hf:GP bE wfE 1 f) {d':SR} {t':TS} (h:pb (f t.tail) (fun x t=>.ok (Zw d x,t))=.ok (d',t')):SchFit d t d' t':=by
 obtain⟨x,t1,h1,h2⟩:=zm h
 cases h2
 have h0:=zaS hw
 have g:=hf _ _ _ h1
 have w1:=g.w
 have e:bSR (Zw d x)=bSR d+bE x:=by simp only[bSR,Zw,zgp];omega
 exact⟨g.suf.trans h0.1,by omega,fun hw=>(zkc hw g.ok).1⟩
theorem zig {d:SR} {t:TS} {d':SR} {t':TS} (h:zC d t=.ok (d',t')):SchFit d t d' t':=by
 unfold zC at h
 have g0:=Y2 t
 generalize zA t=u at h g0
 suffices hs:SchFit d u d' t' from ⟨hs.suf.trans g0.1,by have:=hs.w;omega,hs.wf⟩
 unfold Yo at h
 split at h
 ·rename_i hc
  have h0:=zaS hc.2
  have g:=zew h
  have w:=g.w
  exact⟨g.suf.trans h0.1,by omega,g.wf⟩
 split at h
 ·rename_i hc;exact zaA hc (zbZ 1) h
 split at h
 ·rename_i hc;exact zaA hc (zbZ 2) h
 split at h
 ·rename_i hc;exact zaA hc zc5 h
 split at h
 ·rename_i hc;exact zaA hc zei h
 split at h
 ·rename_i hc;exact zaA hc zc9 h
 ·cases h
theorem zfM (d d':SR) (t:TS):¬ zC d t=.ok (d',t):=fun h=>by
 unfold zC at h
 have g0:=Y2 t
 generalize zA t=u at h g0
 have tl:∀ w,isW w u=true→wT u.tail<wT t:=fun w hw=>by have:=zaS hw;omega
 have put:∀ {f:TS→PR DefD},GP bE wfE 1 f→wT u.tail<wT t→pb (f u.tail) (fun x t=>(.ok (Zw d x,t):PR SR))=.ok (d',t)→False:=fun {f} hf hl h=>by
  obtain⟨x,t1,h1,h2⟩:=zm h
  cases h2
  have:=(hf _ _ _ h1).w
  omega
 unfold Yo at h
 split at h
 ·rename_i hc
  have h1:=tl _ hc.2
  have h2:=zlI (zew h).suf
  omega
 split at h
 ·rename_i hc;exact put (zbZ 1) (tl _ hc) h
 split at h
 ·rename_i hc;exact put (zbZ 2) (tl _ hc) h
 split at h
 ·rename_i hc;exact put zc5 (tl _ hc) h
 split at h
 ·rename_i hc;exact put zei (tl _ hc) h
 split at h
 ·rename_i hc;exact put zc9 (tl _ hc) h
 ·cases h
theorem SchFit.lt {d:SR} {t:TS} {d':SR} {t':TS} (h:SchFit d t d' t') (hd:bSR d≤bSR d'):t'.length<t.length:=by
 obtain⟨p,hp⟩:=h.suf
 have h2:=h.w
 cases p with
 | nil=>simp at hp;subst hp;omega
 | cons x p=>rw[← hp];simp;omega
theorem zaR {H:Heap} {r:Nat} {L t:TS} {dp:Nat} (h:Y3 H r L t dp) (hl:wT L≤zG):ACalls Tryz.prog 99 [.ptr r 0] H (fun e H'=>∃ v,e=.ret v∧(v=.tup []∧Pat H r L (zA t) dp H')):=by
 refine ACalls.go ir99 ck99 (Al4 _) fun KP Q hQ=>?_
 have hll:=zbc hl
 simp only[zG] at hll
 obtain⟨p,hs,hr⟩:=h
 have hlen:p.length+t.length=L.length:=by rw[← hs];simp
 have hr':=hr
 simp only[prc] at hr'
 simp(disch:=first|omega|assumption) only[ir99,go_sem]
 refine goK_ret (zgD hs hr) fun v H1 ⟨hv,hH⟩=>?_
 subst hv;subst hH
 by_cases hk:(hdT t).k=5
 ·have hk':=eq_true hk
  simp(disch:=first|omega|assumption) only[Zu,hk',hr',wrap64,go_sem]
  refine hQ _ _ _ _ [] nofun rfl (Low.refl _) ⟨rfl,?_⟩
  rw[show zA t=t.tail from if_pos hk]
  exact Yc hs (by rw[hk];decide) _
 ·simp(disch:=first|omega|assumption) only[Zu,hk,go_sem]
  refine hQ _ _ _ _ [] nofun rfl (Low.refl _) ⟨rfl,?_⟩
  rw[show zA t=t from if_neg hk]
  exact Pat.self hs hr
theorem zjS {H:Heap} {r q:Nat} {L t:TS} {A1 A2 A3 A4:AV} (hq:H q=some (.cells [.ptr r 0,A1,A2,A3,A4])) (hqr:q≠r) (h:Y3 H r L t (16-16)) (hl:wT L≤zG) :
  ACalls Tryz.prog 206 [.ptr q 0] H (RpE H r L (16-16) (yp t) (fun x=>.agg (cW x))):=by
 refine yn (ACalls.goO (R:=fun v H'=>zbb H r L (16-16) (yp t) (fun x=>.agg (cW x)) v.strip H') (RP:=fun v H'=>zbp (yp t) v H') ir206 ck206 (Al4 _) fun KP Q hQ hP=>?_)
 have pan:∀(v:AV) (H1:Heap) (n:Int),v=ye n→(yp t)=.error n→KP v H1:=fun v H1 n h1 h2=>hP v H1 H1 (Low.refl _) ⟨n,h2,h1⟩
 have fin:=KI.done hQ
 have hll:=zbc hl
 simp only[zG] at hll
 have K0:KI H r L t (16-16) H:=let ⟨_,hs,hr⟩:=h;KI.start hs hr
 have hx:=Eq.refl (yp t)
 have q0:=hq
 conv at hx=>rhs;unfold yp
 simp(disch:=first|omega|assumption) only[ir206,go_sem]
 refine goA_intro fun b2 hb2=>?_
 have hb2H:=hb2
 have n2:=K0.ne hb2H
 have n2s:=Ne.symm n2
 have nq2:q≠b2:=fun e=>by subst e;rw[q0] at hb2;cases hb2
 simp(disch:=first|omega|assumption) only[q0,nq2,go_sem]
 refine goK_ret (zaR (K0.box hb2H).here hl) fun v H1 ⟨hv1,a1⟩=>?_
 subst hv1
 have K1:=(K0.box hb2H).call a1
 have g1_2:=(a1.other n2s).trans (upd_same ..)
 have q1:=(a1.other hqr).trans ((upd_ne nq2).trans q0)
 simp(disch:=first|omega|assumption) only[q1,go_sem]
 refine goK_both (zay K1.here hl) (fun v H2 ⟨s,t2,e2,hv2,a2⟩=>?_) fun v H2 ⟨n,e2,hv2⟩=>pan v H2 n hv2 (by rw[hx,e2];rfl)
 subst hv2
 rw[e2,zj] at hx
 have K2:=K1.call a2
 have g2_2:=(a2.other n2s).trans g1_2
 have q2:=(a2.other hqr).trans q1
 simp(disch:=first|omega|assumption) only[go_sem]
 refine goA_intro fun b3 hb3=>?_
 have h32:b3≠b2:=fun e=>by subst e;rw[g2_2] at hb3;cases hb3
 have hb3H:=K2.none hb3
 have n3:=K0.ne hb3H
 have n3s:=Ne.symm n3
 have nq3:q≠b3:=fun e=>by subst e;rw[q2] at hb3;cases hb3
 simp(disch:=first|omega|assumption) only[q2,nq3,go_sem]
 refine goK_both (Y0 (K2.box hb3H).here hl _) (fun v H3 ⟨_,t3,e3,hv3,a3⟩=>?_) fun v H3 ⟨n,e3,hv3⟩=>pan v H3 n hv3 (by rw[hx,e3];rfl)
 subst hv3
 rw[e3,zj] at hx
 have K3:=(K2.box hb3H).call a3
 have g3_2:=(a3.other n2s).trans ((upd_ne (Ne.symm h32)).trans g2_2)
 have g3_3:=(a3.other n3s).trans (upd_same ..)
 have q3:=(a3.other hqr).trans ((upd_ne nq3).trans q2)
 simp(disch:=first|omega|assumption) only[q3,go_sem]
 refine goK_both (zkg K3.here hl) (fun v H4 ⟨ty,t4,e4,hv4,a4⟩=>?_) fun v H4 ⟨n,e4,hv4⟩=>pan v H4 n hv4 (by rw[hx,e4];rfl)
 subst hv4
 rw[e4,zj] at hx
 have K4:=K3.call a4
 have g4_2:=(a4.other n2s).trans g3_2
 have g4_3:=(a4.other n3s).trans g3_3
 have q4:=(a4.other hqr).trans q3
 simp(disch:=first|omega|assumption) only[cTy,g4_3,q4,nq3,go_sem]
 refine goK_ret (zgw (K4.box hb3H).here hl _) fun v H5 ⟨hv5,a5⟩=>?_
 subst hv5
 have K5:=(K4.box hb3H).call a5
 have g5_2:=(a5.other n2s).trans ((upd_ne (Ne.symm h32)).trans g4_2)
 have g5_3:=(a5.other n3s).trans (upd_same ..)
 have q5:=(a5.other hqr).trans ((upd_ne nq3).trans q4)
 unfold y9 at a5 K5
 cases hi:isP [61] t4 with
 | true =>
  rw[hi] at hx K5 a5
  simp only[if_true] at hx K5
  simp(disch:=first|omega|assumption) only[q5,go_sem]
  refine goK_both (zlR K5.here hl) (fun v H6 ⟨x,t6,e6,hv6,a6⟩=>?_) fun v H6 ⟨n,e6,hv6⟩=>pan v H6 n hv6 (by rw[hx,e6];rfl)
  subst hv6
  rw[e6,zj] at hx
  have K6:=K5.call a6
  have g6_2:=(a6.other n2s).trans g5_2
  have g6_3:=(a6.other n3s).trans g5_3
  have q6:=(a6.other hqr).trans q5
  try simp only[zW] at g6_2
  simp(disch:=first|omega|assumption) only[zf,zc,za,ze,zd,zb,zh,g6_3,g6_2,h32,Ne.symm h32,zfL,zls,zhg,zd2,go_sem]
  refine fin _ _ [.agg (cW ⟨s,ty,true,x⟩)] _ _ (by simp(disch:=first|omega|assumption) only[zf,zc,za,ze,zd,zb,zh,ir206,resvs,resv,zeG,go_sem]) hx ((K6.box hb3H).box hb2H) (by simp[tupOf,AV.strip,zbQ])
 | false =>
  rw[hi] at hx K5 a5
  simp only[Al7,if_false] at hx K5
  try simp only[zW] at g5_2
  simp(disch:=first|omega|assumption) only[g5_3,g5_2,h32,Ne.symm h32,go_sem]
  refine fin _ _ [.agg (.str s::.str ty.nm::.int .i64 ty.lists::.int .i64 ty.musts::.bool false::[.int .i64 0,.int .i64 0,.str [],.sl .nil 5 [],.sl .nil 6 []])] _ _ (by simp(disch:=first|omega|assumption) only[ir206,resvs,resv,go_sem]) hx (K5.box hb2H) (by simp[tupOf,AV.strip,AV.strip1,zeG,zV,cV,cVs,cMs])
theorem zhG {H:Heap} {r q:Nat} {L t:TS} {A1 A2 A3 A4:AV} (m:List UInt8) (hq:H q=some (.cells [.ptr r 0,A1,A2,A3,A4])) (hqr:q≠r) (h:Y3 H r L t (16-16)) (hl:wT L≤zG) :
  ACalls Tryz.prog 162 [.ptr q 0,.str m] H (RpE H r L (16-16) (yx m yp t) (fun l=>.sl .no 10 (cWs l))):=by
 refine yn (ACalls.goO (R:=fun v H'=>zbb H r L (16-16) (yx m yp t) (fun l=>.sl .no 10 (cWs l)) v.strip H') (RP:=fun v H'=>zbp (yx m yp t) v H') ir162 ck162 (Al4 _) fun KP Q hQ hP=>?_)
 have pan:∀(v:AV) (H1:Heap) (n:Int),v=ye n→(yx m yp t)=.error n→KP v H1:=fun v H1 n h1 h2=>hP v H1 H1 (Low.refl _) ⟨n,h2,h1⟩
 have fin:=KI.done hQ
 have hll:=zbc hl
 simp only[zG] at hll
 have K0:KI H r L t (16-16) H:=let ⟨_,hs,hr⟩:=h;KI.start hs hr
 have hx:=Eq.refl (yx m yp t)
 have q0:=hq
 conv at hx=>rhs;unfold yx
 simp(disch:=first|omega|assumption) only[ir162,q0,go_sem]
 refine goK_both (zjS q0 hqr K0.here hl) (fun v H1 ⟨x1,t1,e1,hv1,a1⟩=>?_) fun v H1 ⟨n,e1,hv1⟩=>pan v H1 n hv1 (by rw[hx,e1];rfl)
 subst hv1
 rw[e1,zj] at hx
 have K1:=K0.call a1
 have q1:=(a1.other hqr).trans q0
 have hlt1:=ZA.lt (by decide) _ _ _ e1
 have hsl:=let ⟨_,hp,_⟩:=h;Y9 hp
 obtain⟨R,hR⟩:∃ R,zJ m yp (t1.length+1) [x1] t1=R:=⟨_,rfl⟩
 rw[hR] at hx
 simp(disch:=first|omega|assumption) only[zf,zc,za,ze,zd,zb,zh,zhm,zfi,go_sem]
 refine goL_st (fun x:Own×List VarD×TS=>[(5,.sl x.1 10 (cWs x.2.1))]) (fun x H'=>KO H r L x.2.2 (16-16) H' x.1 x.2.1.length 10∧H' q=some (.cells [.ptr r 0,A1,A2,A3,A4])∧(∃ m',x.2.2.length<m'∧zJ m yp m' x.2.1 x.2.2=R)∧x.2.1.length+x.2.2.length≤L.length) (fun x=>x.2.2.length) (.full,[x1],t1) (by simp(disch:=first|omega|assumption) only[zf,zc,za,ze,zd,zb,zh,cWs,List.map_cons,List.map_nil,zbQ,go_sem]) ⟨⟨K1,Owned.full _ _ _,nofun⟩,q1,⟨_,Nat.lt_succ_self _,hR⟩,by simp only[List.length_singleton];omega⟩ ?_
 rintro⟨o,l,u⟩ H3 J ⟨K3,q3,⟨m',hm,hR3⟩,hlen⟩ hJ
 simp only at K3 q3 hm hR3 hlen
 obtain⟨m',rfl⟩:∃ j,m'=j+1:=⟨m'-1,by omega⟩
 have hcl:=Yx l
 simp(disch:=first|omega|assumption) only[q3,go_sem]
 refine goK_ret (zgw K3.here hl m) fun v H4 ⟨hv4,a4⟩=>?_
 subst hv4
 have q4:=(a4.other hqr).trans q3
 cases hj:isP m u with
 | true =>
  rw[y9,hj,if_pos rfl] at a4
  have e1:R=.ok (l,u.tail):=by rw[← hR3,zJ,hj];rfl
  rw[e1] at hx
  simp(disch:=first|omega|assumption) only[go_sem]
  refine fin _ _ [.sl o 10 (cWs l)] l u.tail (by simp(disch:=first|omega|assumption) only[ir162,resvs,resv,go_sem]) hx (K3.toKI.call a4) ?_
  simp[tupOf,AV.strip,AV.strip1,zib]
 | false =>
  rw[y9,hj] at a4
  have K4:=K3.call (by simpa using a4)
  rw[zJ,hj] at hR3
  simp only[Al7,if_false] at hR3
  simp(disch:=first|omega|assumption) only[q4,go_sem]
  refine goK_both (zjS q4 hqr K4.here hl) (fun v H5 ⟨x,t5,e5,hv5,a5⟩=>?_) fun v H5 ⟨n5,e5,hv5⟩=>pan v H5 n5 hv5 (by rw[hx,← hR3,e5];rfl)
  subst hv5
  rw[e5,zj] at hR3
  have hlt:=ZA.lt (by decide) _ _ _ e5
  have K5:=K4.call a5
  have q5:=(a5.other hqr).trans q4
  simp(disch:=first|omega|assumption) only[zf,zc,za,ze,zd,zb,zh,zhm,zfi,go_sem]
  refine goP_ownS (by rw[hcl];exact K5.own) (by simp only[hcl,Al2,Al3];omega) (by simp only[hcl,Al2,Al3,maxLen];omega) fun o6 H6 hs6=>?_
  have K6:=K5.app (by simpa[hcl] using hs6)
  have q6:=K5.stay hs6 q5
  simp(disch:=first|omega|assumption) only[zf,zc,za,ze,zd,zb,zh,zhm,zfi,go_sem]
  refine goJ (hJ (o6,l++[x],t5) _ (by simp only;omega) ⟨by simpa using K6,q6,⟨m',by simp only;omega,hR3⟩,by simp only[Al5,Al2,Al3];omega⟩) (by simp(disch:=first|omega|assumption) only[zf,zc,za,ze,zd,zb,zh,cWs,List.map_append,List.map_cons,List.map_nil,zbQ,go_sem])
theorem zeZ {H:Heap} {r q:Nat} {L t:TS} {A1 A2 A3 A4:AV} (hq:H q=some (.cells [.ptr r 0,A1,A2,A3,A4])) (hqr:q≠r) (h:Y3 H r L t (16-16)) (hl:wT L≤zG) :
  ACalls Tryz.prog 160 [.ptr q 0] H (RpE H r L (16-16) (yZ t) (fun x=>.agg (cL x))):=by
 refine yn (ACalls.goO (R:=fun v H'=>zbb H r L (16-16) (yZ t) (fun x=>.agg (cL x)) v.strip H') (RP:=fun v H'=>zbp (yZ t) v H') ir160 ck160 (Al4 _) fun KP Q hQ hP=>?_)
 have pan:∀(v:AV) (H1:Heap) (n:Int),v=ye n→(yZ t)=.error n→KP v H1:=fun v H1 n h1 h2=>hP v H1 H1 (Low.refl _) ⟨n,h2,h1⟩
 have fin:=KI.done hQ
 have hll:=zbc hl
 simp only[zG] at hll
 have K0:KI H r L t (16-16) H:=let ⟨_,hs,hr⟩:=h;KI.start hs hr
 have hx:=Eq.refl (yZ t)
 have q0:=hq
 conv at hx=>rhs;unfold yZ
 simp(disch:=first|omega|assumption) only[ir160,go_sem]
 refine goA_intro fun b2 hb2=>?_
 have hb2H:=hb2
 have n2:=K0.ne hb2H
 have n2s:=Ne.symm n2
 have nq2:q≠b2:=fun e=>by subst e;rw[q0] at hb2;cases hb2
 simp(disch:=first|omega|assumption) only[q0,nq2,go_sem]
 refine goK_ret (zaR (K0.box hb2H).here hl) fun v H1 ⟨hv1,a1⟩=>?_
 subst hv1
 have K1:=(K0.box hb2H).call a1
 have g1_2:=(a1.other n2s).trans (upd_same ..)
 have q1:=(a1.other hqr).trans ((upd_ne nq2).trans q0)
 simp(disch:=first|omega|assumption) only[q1,go_sem]
 refine goK_both (zay K1.here hl) (fun v H2 ⟨s,t2,e2,hv2,a2⟩=>?_) fun v H2 ⟨n,e2,hv2⟩=>pan v H2 n hv2 (by rw[hx,e2];rfl)
 subst hv2
 rw[e2,zj] at hx
 have K2:=K1.call a2
 have g2_2:=(a2.other n2s).trans g1_2
 have q2:=(a2.other hqr).trans q1
 simp(disch:=first|omega|assumption) only[go_sem]
 refine goA_intro fun b3 hb3=>?_
 have h32:b3≠b2:=fun e=>by subst e;rw[g2_2] at hb3;cases hb3
 have hb3H:=K2.none hb3
 have n3:=K0.ne hb3H
 have n3s:=Ne.symm n3
 have nq3:q≠b3:=fun e=>by subst e;rw[q2] at hb3;cases hb3
 simp(disch:=first|omega|assumption) only[q2,nq3,go_sem]
 refine goK_ret (zgw (K2.box hb3H).here hl _) fun v H3 ⟨hv3,a3⟩=>?_
 subst hv3
 have K3:=(K2.box hb3H).call a3
 have g3_2:=(a3.other n2s).trans ((upd_ne (Ne.symm h32)).trans g2_2)
 have g3_3:=(a3.other n3s).trans (upd_same ..)
 have q3:=(a3.other hqr).trans ((upd_ne nq3).trans q2)
 unfold y9 at a3 K3
 cases hi:isP [40] t2 with
 | true =>
  rw[hi] at hx K3 a3
  simp only[if_true] at hx K3
  simp(disch:=first|omega|assumption) only[q3,go_sem]
  refine goK_both (zhG [41] q3 hqr K3.here hl) (fun v H4 ⟨ps,t4,e4,hv4,a4⟩=>?_) fun v H4 ⟨n,e4,hv4⟩=>pan v H4 n hv4 (by rw[hx,e4];rfl)
  subst hv4
  rw[e4,zj] at hx
  have K4:=K3.call a4
  have g4_2:=(a4.other n2s).trans g3_2
  have g4_3:=(a4.other n3s).trans g3_3
  have q4:=(a4.other hqr).trans q3
  simp(disch:=first|omega|assumption) only[g4_3,q4,nq3,go_sem]
  refine goK_both (Y0 (K4.box hb3H).here hl _) (fun v H5 ⟨_,t5,e5,hv5,a5⟩=>?_) fun v H5 ⟨n,e5,hv5⟩=>pan v H5 n hv5 (by rw[hx,e5];rfl)
  subst hv5
  rw[e5,zj] at hx
  have K5:=(K4.box hb3H).call a5
  have g5_2:=(a5.other n2s).trans ((upd_ne (Ne.symm h32)).trans g4_2)
  have g5_3:=(a5.other n3s).trans (upd_same ..)
  have q5:=(a5.other hqr).trans ((upd_ne nq3).trans q4)
  simp(disch:=first|omega|assumption) only[q5,go_sem]
  refine goK_both (zkg K5.here hl) (fun v H6 ⟨ty,t6,e6,hv6,a6⟩=>?_) fun v H6 ⟨n,e6,hv6⟩=>pan v H6 n hv6 (by rw[hx,e6];rfl)
  subst hv6
  rw[e6,zj] at hx
  have K6:=K5.call a6
  have g6_2:=(a6.other n2s).trans g5_2
  have g6_3:=(a6.other n3s).trans g5_3
  have q6:=(a6.other hqr).trans q5
  simp(disch:=first|omega|assumption) only[cTy,g6_3,q6,nq3,go_sem]
  refine goK_both (zlp (K6.box hb3H).here hl) (fun v H7 ⟨d,t7,e7,hv7,a7⟩=>?_) fun v H7 ⟨n,e7,hv7⟩=>pan v H7 n hv7 (by rw[hx,e7];rfl)
  subst hv7
  rw[e7,zj] at hx
  have K7:=(K6.box hb3H).call a7
  have g7_2:=(a7.other n2s).trans ((upd_ne (Ne.symm h32)).trans g6_2)
  have g7_3:=(a7.other n3s).trans (upd_same ..)
  have q7:=(a7.other hqr).trans ((upd_ne nq3).trans q6)
  try simp only[] at g7_2
  simp(disch:=first|omega|assumption) only[g7_3,g7_2,h32,Ne.symm h32,go_sem]
  refine fin _ _ [.agg [.str s,.sl .no 10 (cWs ps),.str ty.nm,.int .i64 ty.lists,.int .i64 ty.musts,.sl .no 2 (cDs d)]] _ _ (by simp(disch:=first|omega|assumption) only[ir160,resvs,resv,go_sem]) hx ((K7.box hb3H).box hb2H) (by simp[tupOf,AV.strip,AV.strip1,cL,cWs])
 | false =>
  rw[hi] at hx K3 a3
  simp only[Al7,if_false,zj] at hx K3
  simp(disch:=first|omega|assumption) only[q3,go_sem]
  refine goK_both (Y0 K3.here hl _) (fun v H4 ⟨_,t4,e4,hv4,a4⟩=>?_) fun v H4 ⟨n,e4,hv4⟩=>pan v H4 n hv4 (by rw[hx,e4];rfl)
  subst hv4
  rw[e4,zj] at hx
  have K4:=K3.call a4
  have g4_2:=(a4.other n2s).trans g3_2
  have g4_3:=(a4.other n3s).trans g3_3
  have q4:=(a4.other hqr).trans q3
  simp(disch:=first|omega|assumption) only[q4,go_sem]
  refine goK_both (zkg K4.here hl) (fun v H5 ⟨ty,t5,e5,hv5,a5⟩=>?_) fun v H5 ⟨n,e5,hv5⟩=>pan v H5 n hv5 (by rw[hx,e5];rfl)
  subst hv5
  rw[e5,zj] at hx
  have K5:=K4.call a5
  have g5_2:=(a5.other n2s).trans g4_2
  have g5_3:=(a5.other n3s).trans g4_3
  have q5:=(a5.other hqr).trans q4
  simp(disch:=first|omega|assumption) only[cTy,g5_3,q5,nq3,go_sem]
  refine goK_both (zlp (K5.box hb3H).here hl) (fun v H6 ⟨d,t6,e6,hv6,a6⟩=>?_) fun v H6 ⟨n,e6,hv6⟩=>pan v H6 n hv6 (by rw[hx,e6];rfl)
  subst hv6
  rw[e6,zj] at hx
  have K6:=(K5.box hb3H).call a6
  have g6_2:=(a6.other n2s).trans ((upd_ne (Ne.symm h32)).trans g5_2)
  have g6_3:=(a6.other n3s).trans (upd_same ..)
  have q6:=(a6.other hqr).trans ((upd_ne nq3).trans q5)
  try simp only[] at g6_2
  simp(disch:=first|omega|assumption) only[g6_3,g6_2,h32,Ne.symm h32,go_sem]
  refine fin _ _ [.agg [.str s,.sl .nil 10 [],.str ty.nm,.int .i64 ty.lists,.int .i64 ty.musts,.sl .no 2 (cDs d)]] _ _ (by simp(disch:=first|omega|assumption) only[ir160,resvs,resv,go_sem]) hx ((K6.box hb3H).box hb2H) (by simp[tupOf,AV.strip,AV.strip1,cL,cWs])
theorem zj8 {H:Heap} {r q:Nat} {L t:TS} {A1 A2 A3 A4:AV} (m:List UInt8) (hq:H q=some (.cells [.ptr r 0,A1,A2,A3,A4])) (hqr:q≠r) (h:Y3 H r L t (16-16)) (hl:wT L≤zG) :
  ACalls Tryz.prog 159 [.ptr q 0,.str m] H (RpE H r L (16-16) (ZU m t) (fun l=>.sl .no 1 (cT l))):=by
 refine yn (ACalls.goO (R:=fun v H'=>zbb H r L (16-16) (ZU m t) (fun l=>.sl .no 1 (cT l)) v.strip H') (RP:=fun v H'=>zbp (ZU m t) v H') ir159 ck159 (Al4 _) fun KP Q hQ hP=>?_)
 have pan:∀(v:AV) (H1:Heap) (n:Int),v=ye n→(ZU m t)=.error n→KP v H1:=fun v H1 n h1 h2=>hP v H1 H1 (Low.refl _) ⟨n,h2,h1⟩
 have fin:=KI.done hQ
 have hll:=zbc hl
 simp only[zG] at hll
 have K0:KI H r L t (16-16) H:=let ⟨_,hs,hr⟩:=h;KI.start hs hr
 have hx:=Eq.refl (ZU m t)
 have q0:=hq
 conv at hx=>rhs;unfold ZU
 simp(disch:=first|omega|assumption) only[ir159,q0,go_sem]
 refine goK_ret (zgw K0.here hl m) fun v H1 ⟨hv1,a1⟩=>?_
 subst hv1
 have K1:=K0.call a1
 have q1:=(a1.other hqr).trans q0
 unfold y9 at K1
 simp(disch:=first|omega|assumption) only[q1,go_sem]
 refine goK_both (zay K1.here hl) (fun v H2 ⟨x1,t2,e2,hv2,a2⟩=>?_) fun v H2 ⟨n,e2,hv2⟩=>pan v H2 n hv2 (by rw[hx,e2];rfl)
 subst hv2
 rw[e2,zj] at hx
 have K2:=K1.call a2
 have q2:=(a2.other hqr).trans q1
 have hsl:=let ⟨_,hp,_⟩:=K1.here;Y9 hp
 have hlt1:=(zD).lt (by decide) _ _ _ e2
 obtain⟨R,hR⟩:∃ R,yq m z7 (t2.length+1) [x1] t2=R:=⟨_,rfl⟩
 rw[hR] at hx
 simp(disch:=first|omega|assumption) only[go_sem]
 refine goL_st (fun x:Own×List (List UInt8)×TS=>[(5,.sl x.1 1 (cT x.2.1))]) (fun x H'=>KO H r L x.2.2 (16-16) H' x.1 x.2.1.length 1∧H' q=some (.cells [.ptr r 0,A1,A2,A3,A4])∧(∃ m',x.2.2.length<m'∧yq m z7 m' x.2.1 x.2.2=R)∧x.2.1.length+x.2.2.length≤L.length) (fun x=>x.2.2.length) (.full,[x1],t2) (by simp(disch:=first|omega|assumption) only[cT,List.map_cons,List.map_nil,go_sem]) ⟨⟨K2,Owned.full _ _ _,nofun⟩,q2,⟨_,Nat.lt_succ_self _,hR⟩,by simp only[List.length_singleton];omega⟩ ?_
 rintro⟨o,l,u⟩ H3 J ⟨K3,q3,⟨m',hm,hR3⟩,hlen⟩ hJ
 simp only at K3 q3 hm hR3 hlen
 obtain⟨m',rfl⟩:∃ j,m'=j+1:=⟨m'-1,by omega⟩
 have hcl:=yg l
 simp(disch:=first|omega|assumption) only[q3,go_sem]
 refine goK_ret (zgw K3.here hl m) fun v H4 ⟨hv4,a4⟩=>?_
 subst hv4
 have q4:=(a4.other hqr).trans q3
 cases hj:isP m u with
 | false =>
  rw[y9,hj] at a4
  have e1:R=.ok (l,u):=by rw[← hR3,yq,hj];rfl
  rw[e1] at hx
  simp(disch:=first|omega|assumption) only[go_sem]
  refine fin _ _ [.sl o 1 (cT l)] l u (by simp(disch:=first|omega|assumption) only[ir159,resvs,resv,go_sem]) hx (K3.toKI.call (by simpa using a4)) ?_
  simp[tupOf,AV.strip,AV.strip1,zfX]
 | true =>
  rw[y9,hj,if_pos rfl] at a4
  have hlt0:=zcK hj
  have K4:=K3.call a4
  rw[yq,hj,if_pos rfl] at hR3
  simp(disch:=first|omega|assumption) only[q4,go_sem]
  refine goK_both (zay K4.here hl) (fun v H5 ⟨x,t5,e5,hv5,a5⟩=>?_) fun v H5 ⟨n5,e5,hv5⟩=>pan v H5 n5 hv5 (by rw[hx,← hR3,e5];rfl)
  subst hv5
  rw[e5,zj] at hR3
  have hlt:=(zD).lt (by decide) _ _ _ e5
  have K5:=K4.call a5
  have q5:=(a5.other hqr).trans q4
  simp(disch:=first|omega|assumption) only[go_sem]
  refine goP_ownS (by rw[hcl];exact K5.own) (by simp only[hcl,Al2,Al3];omega) (by simp only[hcl,Al2,Al3,maxLen];omega) fun o6 H6 hs6=>?_
  have K6:=K5.app (by simpa[hcl] using hs6)
  have q6:=K5.stay hs6 q5
  simp(disch:=first|omega|assumption) only[go_sem]
  refine goJ (hJ (o6,l++[x],t5) _ (by simp only;omega) ⟨by simpa using K6,q6,⟨m',by simp only;omega,hR3⟩,by simp only[Al5,Al2,Al3];omega⟩) (by simp(disch:=first|omega|assumption) only[cT,List.map_append,List.map_cons,List.map_nil,go_sem])
theorem zlf {H:Heap} {r q:Nat} {L t:TS} {A1 A2 A3 A4:AV} (hq:H q=some (.cells [.ptr r 0,A1,A2,A3,A4])) (hqr:q≠r) (h:Y3 H r L t (16-16)) (hl:wT L≤zG) :
  ACalls Tryz.prog 161 [.ptr q 0] H (RpE H r L (16-16) (ZV t) AV.str):=by
 refine yn (ACalls.goO (R:=fun v H'=>zbb H r L (16-16) (ZV t) AV.str v.strip H') (RP:=fun v H'=>zbp (ZV t) v H') ir161 ck161 (Al4 _) fun KP Q hQ hP=>?_)
 have pan:∀(v:AV) (H1:Heap) (n:Int),v=ye n→(ZV t)=.error n→KP v H1:=fun v H1 n h1 h2=>hP v H1 H1 (Low.refl _) ⟨n,h2,h1⟩
 have fin:=KI.done hQ
 have hll:=zbc hl
 simp only[zG] at hll
 have K0:KI H r L t (16-16) H:=let ⟨_,hs,hr⟩:=h;KI.start hs hr
 have hx:=Eq.refl (ZV t)
 have q0:=hq
 conv at hx=>rhs;unfold ZV
 simp(disch:=first|omega|assumption) only[ir161,q0,go_sem]
 refine goK_ret (zaR K0.here hl) fun v H1 ⟨hv1,a1⟩=>?_
 subst hv1
 have K1:=K0.call a1
 have q1:=(a1.other hqr).trans q0
 simp(disch:=first|omega|assumption) only[q1,go_sem]
 refine goK_ret (zmf K1.here [116,114,117,101]) fun v H2 ⟨hv2,hH⟩=>?_
 subst hv2;subst hH
 cases hw1:isW [116,114,117,101] (zA t) with
 | true =>
  rw[if_pos (.inl hw1)] at hx
  simp(disch:=first|omega|assumption) only[q1,go_sem]
  exact goK_both (zax _ r 2) (fun _ _ h=>h.elim) fun v H3 h=>pan v H3 2 h hx
 | false =>
  simp(disch:=first|omega|assumption) only[q1,go_sem]
  refine goK_ret (zmf K1.here [102,97,108,115,101]) fun v H2 ⟨hv2,hH⟩=>?_
  subst hv2;subst hH
  cases hw2:isW [102,97,108,115,101] (zA t) with
  | true =>
   rw[if_pos (.inr (.inl hw2))] at hx
   simp(disch:=first|omega|assumption) only[q1,go_sem]
   exact goK_both (zax _ r 2) (fun _ _ h=>h.elim) fun v H3 h=>pan v H3 2 h hx
  | false =>
   simp(disch:=first|omega|assumption) only[q1,go_sem]
   refine goK_ret (zmf K1.here [110,117,108,108]) fun v H2 ⟨hv2,hH⟩=>?_
   subst hv2;subst hH
   cases hw3:isW [110,117,108,108] (zA t) with
   | true =>
    rw[if_pos (.inr (.inr hw3))] at hx
    simp(disch:=first|omega|assumption) only[q1,go_sem]
    exact goK_both (zax _ r 2) (fun _ _ h=>h.elim) fun v H3 h=>pan v H3 2 h hx
   | false =>
    rw[if_neg (by rw[hw1,hw2,hw3];simp)] at hx
    simp(disch:=first|omega|assumption) only[q1,go_sem]
    refine goK_both (zay K1.here hl) (fun v H3 ⟨s,t3,e3,hv3,a3⟩=>?_) fun v H3 ⟨n,e3,hv3⟩=>pan v H3 n hv3 (by rw[hx,e3])
    subst hv3
    rw[e3] at hx
    simp(disch:=first|omega|assumption) only[go_sem]
    exact fin _ _ [.str s] s t3 (by simp(disch:=first|omega|assumption) only[ir161,resvs,resv,go_sem]) hx (K1.call a3) (by simp[tupOf,AV.strip,AV.strip1])
end Go.Proofs.YtaielcdfcgpbiaaGreatDoor
