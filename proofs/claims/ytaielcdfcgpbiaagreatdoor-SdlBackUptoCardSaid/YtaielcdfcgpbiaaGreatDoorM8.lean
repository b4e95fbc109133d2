import Derived.Test.YtaielcdfcgpbiaaGreatDoorM1
import Derived.Test.YtaielcdfcgpbiaaGreatDoorM2
import Derived.Test.YtaielcdfcgpbiaaGreatDoorM3
import Derived.Test.YtaielcdfcgpbiaaGreatDoorM4
import Derived.Test.YtaielcdfcgpbiaaGreatDoorM5
import Derived.Test.YtaielcdfcgpbiaaGreatDoorM6
import Derived.Test.YtaielcdfcgpbiaaGreatDoorM7
set_option maxRecDepth 100000
set_option linter.all false
namespace Go.Proofs.YtaielcdfcgpbiaaGreatDoor
open Go.Ab
def YC (f:FuncId) (args:List AV) (B W:Nat) (lo hi:Int) (r:Int→Bool) (tk:List Tok):Prop :=
 ∀(H:Heap) (w:Nat) (o:Own) (l:List Tok) (ok:Bool) (dp:Int),WAt H w o l ok dp→lo≤dp→dp≤hi→l.length+B≤Lim →
  ACalls Tryz.prog f (.ptr w 0::args) H (ziE fun v H'=>v=.tup []∧∃ o' l',WAt H' w o' l' (ok&&r dp) dp∧WStep H o w H' o'∧l'.length≤l.length+B∧((ok&&r dp)=true→l'=l++tk)∧wT l'≤wT l+W)
structure YR (H0:Heap) (o0:Own) (w:Nat) (l0:List Tok) (ok0:Bool) (dp:Int) (B W:Nat) (r:Bool) (tk:List Tok) (H:Heap) (o:Own) (l:List Tok):Prop where
 here:WAt H w o l (ok0&&r) dp
 st:WStep H0 o0 w H o
 len:l.length≤l0.length+B
 eq:(ok0&&r)=true→l=l0++tk
 wt:wT l≤wT l0+W
theorem YR.refl {H:Heap} {o:Own} {w:Nat} {l:List Tok} {ok:Bool} {dp:Int} (h:WAt H w o l ok dp):YR H o w l ok dp 0 0 true [] H o l :=
 ⟨by rw[Bool.and_true];exact h,.refl _ _ _,Al4 _,fun _=>by simp,Al4 _⟩
theorem YR.alloc {H0 H:Heap} {o0 o:Own} {w b B W:Nat} {l0 l tk:List Tok} {ok0 r:Bool} {dp:Int} {x:AObj} (h:YR H0 o0 w l0 ok0 dp B W r tk H o l) (hb:H b=none):YR H0 o0 w l0 ok0 dp B W r tk (H.upd b x) o l :=
 ⟨h.here.alloc hb,h.st.alloc hb,h.len,h.eq,h.wt⟩
theorem YR.fin {H0 H:Heap} {o0 o:Own} {w B B' W W':Nat} {l0 l tk tk':List Tok} {ok0 r r':Bool} {dp:Int} (h:YR H0 o0 w l0 ok0 dp B W r tk H o l) (hr:r=r') (ht:r'=true→tk=tk') (hB:B≤B') (hW:W≤W') :
  ∃ o' l',WAt H w o' l' (ok0&&r') dp∧WStep H0 o0 w H o'∧l'.length≤l0.length+B'∧((ok0&&r')=true→l'=l0++tk')∧wT l'≤wT l0+W':=by
 subst hr
 refine⟨o,l,h.here,h.st,by have:=h.len;omega,fun e=>?_,by have:=h.wt;omega⟩
 rw[h.eq e,ht (by simp only[Al0] at e;exact e.2)]
theorem YR.cast {H0 H:Heap} {o0 o:Own} {w B B' W W':Nat} {l0 l tk tk':List Tok} {ok0 r r':Bool} {dp:Int} (h:YR H0 o0 w l0 ok0 dp B W r tk H o l) (hB:B≤B') (hW:W≤W') (hr:r=r') (ht:tk=tk'):YR H0 o0 w l0 ok0 dp B' W' r' tk' H o l:=by
 subst hr;subst ht
 exact⟨h.here,h.st,by have:=h.len;omega,h.eq,by have:=h.wt;omega⟩
theorem YR.castC {H0 H:Heap} {o0 o:Own} {w B B' W W':Nat} {l0 l tk tk':List Tok} {ok0 r r':Bool} {dp:Int} (h:YR H0 o0 w l0 ok0 dp B W r tk H o l) (hB:B≤B') (hW:W≤W') (hr:r=r') (ht:r'=true→tk=tk'):YR H0 o0 w l0 ok0 dp B' W' r' tk' H o l:=by
 subst hr
 exact⟨h.here,h.st,by have:=h.len;omega,fun e=>by rw[h.eq e,ht (by simp only[Al0] at e;exact e.2)],by have:=h.wt;omega⟩
theorem YR.after {H0 H1 H:Heap} {o0 o1 o:Own} {w B W:Nat} {l0 l tk:List Tok} {ok0 r:Bool} {dp:Int} (h:YR H1 o1 w l0 ok0 dp B W r tk H o l) (hs:WStep H0 o0 w H1 o1) {x:AObj} (hw:H1 w=some x):YR H0 o0 w l0 ok0 dp B W r tk H o l :=
 ⟨h.here,hs.trans hw h.st,h.len,h.eq,h.wt⟩
section
variable {KP:AV→Heap→Prop} {Q:AExit→Env→Heap→Prop} {st:List Fr} {ρ:Env} {H:Heap} {all items:List AItem} {d:Option Nat} {R:List Chk}
theorem zaD {f:FuncId} {args:List AV} {B W:Nat} {lo hi:Int} {r:Int→Bool} {tk:List Tok} (hc:YC f args B W lo hi r tk) {w:Nat} {o:Own} {l:List Tok} {ok:Bool} {dp:Int} (h:WAt H w o l ok dp) (h0:lo≤dp) (h1:dp≤hi) (hb:l.length+B≤Lim)
  (k:∀ o' l' H',WAt H' w o' l' (ok&&r dp) dp→WStep H o w H' o'→l'.length≤l.length+B→((ok&&r dp)=true→l'=l++tk)→wT l'≤wT l+W→goR Tryz.prog KP Q all items st R (ρ.set d (.tup [])) H') :
  goK Tryz.prog KP Q all items st d R ρ f (.ptr w 0::args) H:=by
 refine goK_ret (hc H w o l ok dp h h0 h1 hb) fun v H' ⟨hv,o',l',h2,h3,h4,h5,h6⟩=>?_
 subst hv
 exact k o' l' H' h2 h3 h4 h5 h6
theorem zg {f:FuncId} {args:List AV} {B' W':Nat} {lo hi:Int} {r':Int→Bool} {tk':List Tok} (hc:YC f args B' W' lo hi r' tk') {H0:Heap} {o0 o:Own} {w B W:Nat} {l0 l tk:List Tok} {ok0 r:Bool} {dp:Int} (h:YR H0 o0 w l0 ok0 dp B W r tk H o l) (h0:lo≤dp) (h1:dp≤hi)
  (hb:l0.length+(B+B')≤Lim) (k:∀ o' l' H',YR H0 o0 w l0 ok0 dp (B+B') (W+W') (r&&r' dp) (tk++tk') H' o' l'→WStep H o w H' o'→goR Tryz.prog KP Q all items st R (ρ.set d (.tup [])) H') :
  goK Tryz.prog KP Q all items st d R ρ f (.ptr w 0::args) H:=by
 have hlen:=h.len
 have hwt:=h.wt
 refine zaD hc h.here h0 h1 (by omega) fun o' l' H' h2 h3 h4 h5 h6=>k o' l' H' ⟨by rw[← yC];exact h2,h.st.trans h.here.cell h3,by omega,fun e=>?_,by omega⟩ h3
 rw[← yC] at e
 rw[h5 e,h.eq (by simp only[Al0] at e ⊢;exact e.1),Yh]
end
theorem yj (b:Bool):YC 165 [.bool b] 0 0 (-1000) 1000 (fun _=>b) []:=by
 intro H w o l ok dp h h0 h1 hb
 refine ACalls.go ir165 ck165 (Al4 _) fun KP Q hQ=>?_
 have hc:=h.cell
 cases ok
 ·simp(disch:=first|omega|assumption) only[ir165,hc,go_sem]
  exact hQ _ _ _ _ [] nofun rfl (Low.refl _) ⟨rfl,o,l,h.put,(WStep.refl ..).upd,by simp,(fun _=>by simp),Al4 _⟩
 ·simp(disch:=first|omega|assumption) only[ir165,hc,go_sem]
  exact hQ _ _ _ _ [] nofun rfl (Low.refl _) ⟨rfl,o,l,by rw[Bool.true_and];exact h.put,(WStep.refl ..).upd,by simp,(fun _=>by simp),Al4 _⟩
theorem zu (s:List UInt8) (hs:s.length≤Lim):YC 112 [.str s] 1 (s.length+4) (-1000) 1000 (fun _=>zq s) [wk s]:=by
 intro H w o l ok dp h h0 h1 hb
 refine ACalls.go ir112 ck112 (Al4 _) fun KP Q hQ=>?_
 have hkl:=zJ l
 simp only[Lim] at hb
 simp(disch:=first|omega|assumption) only[ir112,go_sem]
 refine goK_pure (zep s hs) ?_
 simp(disch:=first|omega|assumption) only[go_sem]
 refine zaD (yj _) h h0 h1 (by simp only[Lim];omega) fun o1 l1 H1 h2 h3 h4 h5 h6=>?_
 have hkl1:=zJ l1
 have hc:=h2.cell
 simp(disch:=first|omega|assumption) only[hc,go_sem]
 refine goP_ownS (by rw[hkl1];exact h2.own) (by simp only[hkl1,Al2,Al3];omega) (by simp only[hkl1,Al2,Al3,maxLen];omega) fun o2 H2 hs2=>?_
 obtain⟨g1,g2,g3⟩:=h2.app (ts:=[wk s]) hs2 (by simp[hkl1])
 have ek:cKs l1++[[AV.int .i64 2,AV.str s]]=cKs (l1++[wk s]):=Yv l1 (wk s)
 simp(disch:=first|omega|assumption) only[g1,ek,go_sem]
 exact hQ _ _ _ _ [] nofun rfl (Low.refl _) ⟨rfl,o2,l1++[wk s],g2,h3.trans h2.cell g3,by simp;omega,(fun e=>by rw[h5 e];simp),by simp only[zcj,ZF,zdr,zmM];omega⟩
theorem zx (m:List UInt8) (o9:Own):YC 113 [.sl o9 1 [[.str m]]] 1 (m.length+4) (-1000) 1000 (fun _=>true) [pk m]:=by
 intro H w o l ok dp h h0 h1 hb
 refine ACalls.go ir113 ck113 (Al4 _) fun KP Q hQ=>?_
 simp only[Lim] at hb
 simp(disch:=first|omega|assumption) only[ir113,go_sem]
 refine goL_range [m] 8 (fun x:Own×List Tok=>[]) (fun done rest x H'=>WAt H' w x.1 x.2 ok dp∧WStep H o w H' x.1∧x.2=l++done.map pk) (o,l) (by simp(disch:=first|omega|assumption) only[go_sem]) ⟨h,.refl _ _ _,by simp⟩ ?_ ?_
 ·rintro⟨o1,l1⟩ H1 J ⟨h2,h3,h4⟩ hlt
  simp only at h2 h3 h4
  simp(disch:=first|omega|assumption) only[go_sem]
  refine hQ _ _ H1 H1 [] nofun rfl (Low.refl _) ⟨rfl,o1,l1,by simpa using h2,h3,by rw[h4];simp,(fun _=>by rw[h4];simp),by rw[h4];simp only[List.map_cons,List.map_nil,zcj,ZF,zdr,zmv];omega⟩
 ·rintro done x rest ⟨o1,l1⟩ H1 J hd hlt hlt2 ⟨h2,h3,h4⟩ hJ
  simp only at h2 h3 h4
  have hl1:l1.length≤l.length+1:=by rw[h4];simp only[Al5,List.length_map];have:=congrArg List.length hd;simp at this;omega
  have hg:([[AV.str m]]:List (List AV)).getD done.length []=[.str x]:=by
   have:([m].map fun k=>[AV.str k]).getD done.length []=[.str x]:=getD_mid' hd
   exact this
  have hkl1:=zJ l1
  have hc:=h2.cell
  have hlt1:((done.length:Int)<1)=True:=eq_true (by simpa using hlt)
  have hdl:done.length<1:=by simpa using hlt2
  simp(disch:=first|omega|assumption) only[hlt1,hg,hc,go_sem]
  refine goP_ownS (by rw[hkl1];exact h2.own) (by simp only[hkl1,Al2,Al3];omega) (by simp only[hkl1,Al2,Al3,maxLen];omega) fun o2 H2 hs2=>?_
  obtain⟨g1,g2,g3⟩:=h2.app (ts:=[pk x]) hs2 (by simp[hkl1])
  have ek:cKs l1++[[AV.int .i64 1,AV.str x]]=cKs (l1++[pk x]):=Yv l1 (pk x)
  simp(disch:=first|omega|assumption) only[g1,ek,wrap64,go_sem]
  exact goJ (hJ (o2,l1++[pk x]) _ ⟨g2,h3.trans h2.cell g3,by rw[h4];simp⟩) (by simp(disch:=first|omega|assumption) only[go_sem])
theorem zjv (v:Val) (hw:wfV v) (hv:4*bV v≤Lim) (fixed:Bool):YC 245 [.agg (cV v),.bool fixed] (4*bV v) (64*bV v) 0 32 (fun dp=>zG dp fixed v) (zF v):=by
 intro H w o l ok dp h h0 h1 hb
 have hvb:bV v≤Lim:=by simp only[Lim] at hv ⊢;omega
 have htl:(YW v).length≤4*bV v:=by
  have:=zbx v
  rw[zci];split
  ·omega
  ·simp
 have hwl:wT (YW v)≤64*bV v:=by
  have:=zjA v hw
  rw[zci];split
  ·omega
  ·simp[wT]
 have hkt:=zJ (YW v)
 have hdv:=zcn v
 have hvl:=zbC v []
 have hcv:=yd (zO v [])
 simp only[Lim] at hb hv
 refine ACalls.go ir245 ck245 (Al4 _) fun KP Q hQ=>?_
 have hc:=h.cell
 have fin:∀(b:Bool),b=zG dp fixed v→∀(H2:Heap) (o2:Own) (l2:List Tok),WAt H2 w o2 l2 (ok&&b) dp→WStep H o w H2 o2→l2.length≤l.length+0→((ok&&b)=true→l2=l++[])→wT l2≤wT l+0 →
   ∀(H3:Heap) (o3:Own),OwnS H2 o2 H3 o3 ((cKs l2).length+(cKs (YW v)).length) 2 →
   H3 w=some (.cells [.sl o2 2 (cKs l2),.bool (ok&&b),.int .i64 dp])∧∃ o' l',WAt (H3.upd w (.cells [.sl o3 2 (cKs l2++cKs (YW v)),.bool (ok&&b),.int .i64 dp])) w o' l' (ok&&zG dp fixed v) dp ∧
    WStep H o w (H3.upd w (.cells [.sl o3 2 (cKs l2++cKs (YW v)),.bool (ok&&b),.int .i64 dp])) o'∧l'.length≤l.length+4*bV v∧((ok&&zG dp fixed v)=true→l'=l++zF v)∧wT l'≤wT l+64*bV v:=by
  intro b hbr H2 o2 l2 h2 h3 h4 h5 h6 H3 o3 hs
  obtain⟨g1,g2,g3⟩:=h2.app (ts:=YW v) hs (by simp[zJ])
  rw[zhn] at g2 g3
  refine⟨g1,o3,l2++YW v,by rw[← hbr];exact g2,h3.trans h2.cell g3,by simp only[Al5];omega,fun e=>?_,by simp only[zcj];omega⟩
  rw[← hbr] at e
  have er:zG dp fixed v=true:=by rw[← hbr];simp only[Al0] at e;exact e.2
  have ep:ZO v=true:=by simp only[zG,Al0] at er;exact er.1
  rw[h5 e,zci,ep];simp
 have d1:IntKind.wrap .i64 (dp+zM v)=dp+zM v:=wrap64 (by omega) (by omega)
 cases hp:ZO v with
 | false =>
  have hbr:false=zG dp fixed v:=by simp[zG,hp]
  simp(disch:=first|omega|assumption) only[ze,zc,za,zf,zd,zb,zh,ir245,go_sem]
  refine goK_pure (zcN v hw hv) ?_
  simp(disch:=first|omega|assumption) only[hp,go_sem]
  refine zaD (yj _) h (by omega) (by omega) (by simp only[Lim];omega) fun o2 l2 H2 h2 h3 h4 h5 h6=>?_
  have hk2:=zJ l2
  have hc2:=h2.cell
  simp(disch:=first|omega|assumption) only[hc2,go_sem]
  refine goP_ownS (by rw[hk2];exact h2.own) (by rw[hk2,hkt];omega) (by rw[hk2,hkt];simp only[maxLen];omega) fun o3 H3 hs3=>?_
  obtain⟨g1,g2⟩:=fin _ hbr H2 o2 l2 h2 h3 h4 h5 h6 H3 o3 hs3
  simp(disch:=first|omega|assumption) only[g1,Z4,go_sem]
  exact hQ _ _ _ _ [] nofun rfl (Low.refl _) ⟨rfl,g2⟩
 | true =>
  by_cases hd:dp+zM v≤16
  case neg =>
   have hbr:false=zG dp fixed v:=by simp[zG,hd]
   simp(disch:=first|omega|assumption) only[ze,zc,za,zf,zd,zb,zh,ir245,go_sem]
   refine goK_pure (zcN v hw hv) ?_
   simp(disch:=first|omega|assumption) only[ze,zc,za,zf,zd,zb,zh,hp,hc,go_sem]
   refine goK_pure (ze4 v hvb) ?_
   simp(disch:=first|omega|assumption) only[ze,zc,za,zf,zd,zb,zh,d1,hd,hc,go_sem]
   refine zaD (yj _) h (by omega) (by omega) (by simp only[Lim];omega) fun o2 l2 H2 h2 h3 h4 h5 h6=>?_
   have hk2:=zJ l2
   have hc2:=h2.cell
   simp(disch:=first|omega|assumption) only[hc2,go_sem]
   refine goP_ownS (by rw[hk2];exact h2.own) (by rw[hk2,hkt];omega) (by rw[hk2,hkt];simp only[maxLen];omega) fun o3 H3 hs3=>?_
   obtain⟨g1,g2⟩:=fin _ hbr H2 o2 l2 h2 h3 h4 h5 h6 H3 o3 hs3
   simp(disch:=first|omega|assumption) only[g1,Z4,go_sem]
   exact hQ _ _ _ _ [] nofun rfl (Low.refl _) ⟨rfl,g2⟩
  cases fixed with
  | false =>
   have hbr:true=zG dp false v:=by simp[zG,hd,hp]
   simp(disch:=first|omega|assumption) only[ze,zc,za,zf,zd,zb,zh,ir245,go_sem]
   refine goK_pure (zcN v hw hv) ?_
   simp(disch:=first|omega|assumption) only[ze,zc,za,zf,zd,zb,zh,hp,hc,go_sem]
   refine goK_pure (ze4 v hvb) ?_
   simp(disch:=first|omega|assumption) only[ze,zc,za,zf,zd,zb,zh,d1,hd,hc,go_sem]
   refine zaD (yj _) h (by omega) (by omega) (by simp only[Lim];omega) fun o2 l2 H2 h2 h3 h4 h5 h6=>?_
   have hk2:=zJ l2
   have hc2:=h2.cell
   simp(disch:=first|omega|assumption) only[hc2,go_sem]
   refine goP_ownS (by rw[hk2];exact h2.own) (by rw[hk2,hkt];omega) (by rw[hk2,hkt];simp only[maxLen];omega) fun o3 H3 hs3=>?_
   obtain⟨g1,g2⟩:=fin _ hbr H2 o2 l2 h2 h3 h4 h5 h6 H3 o3 hs3
   simp(disch:=first|omega|assumption) only[g1,Z4,go_sem]
   exact hQ _ _ _ _ [] nofun rfl (Low.refl _) ⟨rfl,g2⟩
  | true =>
   simp(disch:=first|omega|assumption) only[ze,zc,za,zf,zd,zb,zh,ir245,go_sem]
   refine goK_pure (zcN v hw hv) ?_
   simp(disch:=first|omega|assumption) only[ze,zc,za,zf,zd,zb,zh,hp,hc,go_sem]
   refine goK_pure (ze4 v hvb) ?_
   simp(disch:=first|omega|assumption) only[ze,zc,za,zf,zd,zb,zh,d1,hd,hc,go_sem]
   refine goK_pure (zlU v hvb) ?_
   by_cases hz:(zO v []).length=0
   ·have hbr:true=zG dp true v:=by simp[zG,hd,hp,hz]
    have hz':¬ ((0:Int)<(zO v []).length):=by omega
    simp(disch:=first|omega|assumption) only[ze,zc,za,zf,zd,zb,zh,hcv,hz',go_sem]
    refine zaD (yj _) h (by omega) (by omega) (by simp only[Lim];omega) fun o2 l2 H2 h2 h3 h4 h5 h6=>?_
    have hk2:=zJ l2
    have hc2:=h2.cell
    simp(disch:=first|omega|assumption) only[hc2,go_sem]
    refine goP_ownS (by rw[hk2];exact h2.own) (by rw[hk2,hkt];omega) (by rw[hk2,hkt];simp only[maxLen];omega) fun o3 H3 hs3=>?_
    obtain⟨g1,g2⟩:=fin _ hbr H2 o2 l2 h2 h3 h4 h5 h6 H3 o3 hs3
    simp(disch:=first|omega|assumption) only[g1,Z4,go_sem]
    exact hQ _ _ _ _ [] nofun rfl (Low.refl _) ⟨rfl,g2⟩
   ·have hbr:false=zG dp true v:=by simp[zG,hd,hp,hz]
    have hz':((0:Int)<(zO v []).length)=True:=eq_true (by omega)
    simp(disch:=first|omega|assumption) only[ze,zc,za,zf,zd,zb,zh,hcv,hz',go_sem]
    refine zaD (yj _) h (by omega) (by omega) (by simp only[Lim];omega) fun o2 l2 H2 h2 h3 h4 h5 h6=>?_
    have hk2:=zJ l2
    have hc2:=h2.cell
    simp(disch:=first|omega|assumption) only[hc2,go_sem]
    refine goP_ownS (by rw[hk2];exact h2.own) (by rw[hk2,hkt];omega) (by rw[hk2,hkt];simp only[maxLen];omega) fun o3 H3 hs3=>?_
    obtain⟨g1,g2⟩:=fin _ hbr H2 o2 l2 h2 h3 h4 h5 h6 H3 o3 hs3
    simp(disch:=first|omega|assumption) only[g1,Z4,go_sem]
    exact hQ _ _ _ _ [] nofun rfl (Low.refl _) ⟨rfl,g2⟩
theorem zjk (t:TyD) (hs:t.nm.length≤Lim):YC 210 [.agg (cTy t)] 20 (200+t.nm.length) (-1000) 1000 (fun _=>zS t) (tTy t):=by
 intro H w o l ok dp h h0 h1 hb
 have hb0:=hb
 simp only[Lim] at hb
 refine ACalls.go ir210 ck210 (Al4 _) fun KP Q hQ=>?_
 obtain⟨nm,ls,ms⟩:=t
 simp only at hs
 have et:cTy ⟨nm,ls,ms⟩=[.str nm,.int .i64 ls,.int .i64 ms]:=rfl
 simp(disch:=first|omega|assumption) only[ir210,et,steps,st2,pev,rev,oev,optr,ibin,sbin,ishf,bound,mmAll,mm2,mk,mkArgs,AV.cells,AV.boxable,AV.one,AV.strip1,fillA,fillS,Nat.reduceEqDiff,reduceCtorEq,↓reduceIte,Nat.reduceAdd,Int.reduceNeg,Nat.reduceLeDiff,Int.reduceToNat,Int.reduceEq,Int.reduceLT,Int.reduceLE,Int.reduceAdd,Io,Im,If,Il,Jt,Jf,AC.rg,Jm,Jl,Ja,Fm,Fl,Fa,Imv,Imb,Iai,Iei,Igi,Isi,Ipf,Ipt,Ilb,Iia,Ilt,Iap,Ink,Iln,Ils,Iad,Iex,Ibx,Ing]
 refine goK_pure (show Pure Tryz.prog 243 [.agg [.str nm,.int .i64 ls,.int .i64 ms]] (.bool (zS ⟨nm,ls,ms⟩)) from zji ⟨nm,ls,ms⟩ hs) ?_
 simp(disch:=first|omega|assumption) only[steps,st2,pev,rev,oev,optr,ibin,sbin,ishf,bound,mmAll,mm2,mk,mkArgs,AV.cells,AV.boxable,AV.one,AV.strip1,fillA,fillS,Nat.reduceEqDiff,reduceCtorEq,↓reduceIte,Nat.reduceAdd,Int.reduceNeg,Nat.reduceLeDiff,Int.reduceToNat,Int.reduceEq,Int.reduceLT,Int.reduceLE,Int.reduceAdd]
 refine zaD (yj _) h (by omega) (by omega) (by simp only[Lim];omega) fun o2 l2 H2 h2 h3 h4 h5 h60=>?_
 have hc2:=h2.cell
 cases hok:ok&&zS ⟨nm,ls,ms⟩ with
 | false =>
  rw[hok] at h2 hc2
  simp(disch:=first|omega|assumption) only[hc2,steps,st2,pev,rev,oev,optr,ibin,sbin,ishf,bound,mmAll,mm2,mk,mkArgs,AV.cells,AV.boxable,AV.one,AV.strip1,fillA,fillS,Nat.reduceEqDiff,reduceCtorEq,↓reduceIte,Nat.reduceAdd,Int.reduceNeg,Nat.reduceLeDiff,Int.reduceToNat,Int.reduceEq,Int.reduceLT,Int.reduceLE,Int.reduceAdd]
  exact hQ _ _ H2 H2 [] nofun rfl (Low.refl _) ⟨rfl,o2,l2,by rw[hok];exact h2,h3,by omega,(fun e=>by rw[hok] at e;cases e),by simp only;omega⟩
 | true =>
  rw[hok] at h2 hc2 h5
  have e2:l2=l:=by have:=h5 rfl;simpa using this
  subst e2
  have hrt:zS ⟨nm,ls,ms⟩=true:=by simp only[Al0] at hok;exact hok.2
  have hok1:ok=true:=by simp only[Al0] at hok;exact hok.1
  simp only[zS,Al0,zn] at hrt
  obtain⟨hnm,r1,r2,r3,r4⟩:=hrt
  obtain⟨n,rfl⟩:∃ n:Nat,ls=(n:Int):=⟨ls.toNat,by omega⟩
  have en:(n:Int).toNat=n:=by omega
  rw[en] at r4
  have hn4:n≤4:=by omega
  have hms:ms<64:=by
   have:(2:Int) ^ (n+1)≤2 ^ 5:=by exact_mod_cast Nat.pow_le_pow_right (by decide) (by omega:n+1≤5)
   omega
  have w0:=YR.refl h2
  simp(disch:=first|omega|assumption) only[hc2,steps,st2,pev,rev,oev,optr,ibin,sbin,ishf,bound,mmAll,mm2,mk,mkArgs,AV.cells,AV.boxable,AV.one,AV.strip1,fillA,fillS,Nat.reduceEqDiff,reduceCtorEq,↓reduceIte,Nat.reduceAdd,Int.reduceNeg,Nat.reduceLeDiff,Int.reduceToNat,Int.reduceEq,Int.reduceLT,Int.reduceLE,Int.reduceAdd]
  refine goL_st (fun x:Nat×Own×List Tok=>[(16,.int .i64 x.1)]) (fun x H'=>x.1≤n∧YR H2 o2 w l2 true dp x.1 (5*x.1) true (List.replicate x.1 (pk [91])) H' x.2.1 x.2.2) (fun x=>n-x.1) (0,o2,l2) (by simp(disch:=first|omega|assumption) only[steps,st2,pev,rev,oev,optr,ibin,sbin,ishf,bound,mmAll,mm2,mk,mkArgs,AV.cells,AV.boxable,AV.one,AV.strip1,fillA,fillS,Nat.reduceEqDiff,reduceCtorEq,↓reduceIte,Nat.reduceAdd,Int.reduceNeg,Nat.reduceLeDiff,Int.reduceToNat,Int.reduceEq,Int.reduceLT,Int.reduceLE,Int.reduceAdd]) ⟨by simp,w0⟩ ?_
  rintro⟨i,o3,l3⟩ H3 J ⟨hi,w3⟩ hJ
  simp only at hi w3
  by_cases hlt:i<n
  ·have hlt':((i:Int)<n)=True:=eq_true (by omega)
   simp(disch:=first|omega|assumption) only[hlt',steps,st2,pev,rev,oev,optr,ibin,sbin,ishf,bound,mmAll,mm2,mk,mkArgs,AV.cells,AV.boxable,AV.one,AV.strip1,fillA,fillS,Nat.reduceEqDiff,reduceCtorEq,↓reduceIte,Nat.reduceAdd,Int.reduceNeg,Nat.reduceLeDiff,Int.reduceToNat,Int.reduceEq,Int.reduceLT,Int.reduceLE,Int.reduceAdd]
   refine zg (zx [91] _) w3 (by omega) (by omega) (by simp only[Lim];omega) fun o4 l4 H4 w4 _=>?_
   simp(disch:=first|omega|assumption) only[wrap64,steps,st2,pev,rev,oev,optr,ibin,sbin,ishf,bound,mmAll,mm2,mk,mkArgs,AV.cells,AV.boxable,AV.one,AV.strip1,fillA,fillS,Nat.reduceEqDiff,reduceCtorEq,↓reduceIte,Nat.reduceAdd,Int.reduceNeg,Nat.reduceLeDiff,Int.reduceToNat,Int.reduceEq,Int.reduceLT,Int.reduceLE,Int.reduceAdd]
   exact goJ (hJ (i+1,o4,l4) H4 (by simp only;omega) ⟨by simp only;omega,w4.cast (Al4 _) (by (try simp only[Al2,Al3]);omega) rfl (by rw[List.replicate_succ'])⟩) (by simp(disch:=first|omega|assumption) only[Int.natCast_add,steps,st2,pev,rev,oev,optr,ibin,sbin,ishf,bound,mmAll,mm2,mk,mkArgs,AV.cells,AV.boxable,AV.one,AV.strip1,fillA,fillS,Nat.reduceEqDiff,reduceCtorEq,↓reduceIte,Nat.reduceAdd,Int.reduceNeg,Nat.reduceLeDiff,Int.reduceToNat,Int.reduceEq,Int.reduceLT,Int.reduceLE,Int.reduceAdd])
  ·have hlt':¬ ((i:Int)<n):=by omega
   obtain rfl:i=n:=by omega
   simp(disch:=first|omega|assumption) only[hlt',steps,st2,pev,rev,oev,optr,ibin,sbin,ishf,bound,mmAll,mm2,mk,mkArgs,AV.cells,AV.boxable,AV.one,AV.strip1,fillA,fillS,Nat.reduceEqDiff,reduceCtorEq,↓reduceIte,Nat.reduceAdd,Int.reduceNeg,Nat.reduceLeDiff,Int.reduceToNat,Int.reduceEq,Int.reduceLT,Int.reduceLE,Int.reduceAdd]
   refine zg (zu nm hs) w3 (by omega) (by omega) (by simp only[Lim];omega) fun o4 l4 H4 w4 _=>?_
   rw[hnm] at w4
   simp(disch:=first|omega|assumption) only[steps,st2,pev,rev,oev,optr,ibin,sbin,ishf,bound,mmAll,mm2,mk,mkArgs,AV.cells,AV.boxable,AV.one,AV.strip1,fillA,fillS,Nat.reduceEqDiff,reduceCtorEq,↓reduceIte,Nat.reduceAdd,Int.reduceNeg,Nat.reduceLeDiff,Int.reduceToNat,Int.reduceEq,Int.reduceLT,Int.reduceLE,Int.reduceAdd]
   refine goL_st (fun x:Nat×Own×List Tok×Nat×List Tok=>[(4,.int .i64 ((x.1:Int)-1))]) (fun x H'=>x.1≤i+1∧x.2.2.2.1+2*x.1≤19∧x.2.2.2.2++zcb i ms x.1=tTy ⟨nm,i,ms⟩∧YR H2 o2 w l2 true dp x.2.2.2.1 (nm.length+5*x.2.2.2.1) true x.2.2.2.2 H' x.2.1 x.2.2.1) (fun x=>x.1)
    (i+1,o4,l4,i+1,List.replicate i (pk [91])++[wk nm]) (by simp(disch:=first|omega|assumption) only[Int.natCast_add,Int.add_sub_cancel,steps,st2,pev,rev,oev,optr,ibin,sbin,ishf,bound,mmAll,mm2,mk,mkArgs,AV.cells,AV.boxable,AV.one,AV.strip1,fillA,fillS,Nat.reduceEqDiff,reduceCtorEq,↓reduceIte,Nat.reduceAdd,Int.reduceNeg,Nat.reduceLeDiff,Int.reduceToNat,Int.reduceEq,Int.reduceLT,Int.reduceLE,Int.reduceAdd]) ⟨by simp,by simp only;omega,by simp only[tTy,en,zea];simp,w4.cast (Al4 _) (by (try simp only);omega) rfl rfl⟩ ?_
   rintro⟨k,o5,l5,B,tk⟩ H5 J5 ⟨hk,hB,htk,w5⟩ hJ5
   simp only at hk hB htk w5
   cases k with
   | zero =>
    have hz:¬ ((0:Int)≤-1):=by omega
    have w6:=w5.after h3 h2.cell
    simp only[zcb,List.append_nil] at htk
    simp(disch:=first|omega|assumption) only[hz,Int.reduceSub,steps,st2,pev,rev,oev,optr,ibin,sbin,ishf,bound,mmAll,mm2,mk,mkArgs,AV.cells,AV.boxable,AV.one,AV.strip1,fillA,fillS,Nat.reduceEqDiff,reduceCtorEq,↓reduceIte,Nat.reduceAdd,Int.reduceNeg,Nat.reduceLeDiff,Int.reduceToNat,Int.reduceEq,Int.reduceLT,Int.reduceLE,Int.reduceAdd]
    refine hQ _ _ H5 H5 [] nofun rfl (Low.refl _) ⟨rfl,?_⟩
    obtain⟨o',l',g1,g2,g3,g4,g5⟩:=w6.fin (B':=20) (W':=200+nm.length) rfl (fun _=>htk) (by omega) (by omega)
    rw[hok]
    exact⟨o',l',by simpa using g1,g2,by omega,(fun _=>by simpa using g4 rfl),g5⟩
   | succ j =>
    have e0:((j+1:Nat):Int)-1=(j:Int):=by omega
    have hz:((0:Int)≤j)=True:=eq_true (by omega)
    have hbit:=zk9 ms j (by omega)
    have hq0:0≤ms / 2 ^ j:=Int.ediv_nonneg r3 (by exact_mod_cast Nat.zero_le _)
    have hq1:ms / 2 ^ j<64:=by
     have:ms / 2 ^ j≤ms:=Int.ediv_le_self _ r3
     omega
    have ha:=and1 hq0 hq1
    have hj0:¬ ((j:Int)<0):=by omega
    simp only[zcb,zbq] at htk
    by_cases hji:j<i
    ·have hji':((j:Int)<i)=True:=eq_true (by omega)
     rw[if_pos hji] at htk
     simp(disch:=first|omega|assumption) only[e0,hz,hji',steps,st2,pev,rev,oev,optr,ibin,sbin,ishf,bound,mmAll,mm2,mk,mkArgs,AV.cells,AV.boxable,AV.one,AV.strip1,fillA,fillS,Nat.reduceEqDiff,reduceCtorEq,↓reduceIte,Nat.reduceAdd,Int.reduceNeg,Nat.reduceLeDiff,Int.reduceToNat,Int.reduceEq,Int.reduceLT,Int.reduceLE,Int.reduceAdd]
     refine zg (zx [93] _) w5 (by omega) (by omega) (by simp only[Lim];omega) fun o6 l6 H6 w6 _=>?_
     by_cases hbt:ms / 2 ^ j % 2=1
     ·have hbb:zag ms j=true:=by simp[zag,hbt]
      rw[hbb] at htk
      simp(disch:=first|omega|assumption) only[hbit,hj0,ha,hbt,steps,st2,pev,rev,oev,optr,ibin,sbin,ishf,bound,mmAll,mm2,mk,mkArgs,AV.cells,AV.boxable,AV.one,AV.strip1,fillA,fillS,Nat.reduceEqDiff,reduceCtorEq,↓reduceIte,Nat.reduceAdd,Int.reduceNeg,Nat.reduceLeDiff,Int.reduceToNat,Int.reduceEq,Int.reduceLT,Int.reduceLE,Int.reduceAdd]
      refine zg (zx [33] _) w6 (by omega) (by omega) (by simp only[Lim];omega) fun o7 l7 H7 w7 _=>?_
      simp(disch:=first|omega|assumption) only[wrap64,steps,st2,pev,rev,oev,optr,ibin,sbin,ishf,bound,mmAll,mm2,mk,mkArgs,AV.cells,AV.boxable,AV.one,AV.strip1,fillA,fillS,Nat.reduceEqDiff,reduceCtorEq,↓reduceIte,Nat.reduceAdd,Int.reduceNeg,Nat.reduceLeDiff,Int.reduceToNat,Int.reduceEq,Int.reduceLT,Int.reduceLE,Int.reduceAdd]
      exact goJ (hJ5 (j,o7,l7,B+1+1,tk++[pk [93]]++[pk [33]]) H7 (Nat.lt_succ_self j) ⟨by simp only;omega,by simp only;omega,by rw[← htk];simp,w7.cast (Al4 _) (by (try simp only[Al2,Al3]);omega) rfl rfl⟩) (by simp(disch:=first|omega|assumption) only[steps,st2,pev,rev,oev,optr,ibin,sbin,ishf,bound,mmAll,mm2,mk,mkArgs,AV.cells,AV.boxable,AV.one,AV.strip1,fillA,fillS,Nat.reduceEqDiff,reduceCtorEq,↓reduceIte,Nat.reduceAdd,Int.reduceNeg,Nat.reduceLeDiff,Int.reduceToNat,Int.reduceEq,Int.reduceLT,Int.reduceLE,Int.reduceAdd])
     ·have hbb:zag ms j=false:=by simp[zag,hbt]
      rw[hbb] at htk
      simp(disch:=first|omega|assumption) only[hbit,hj0,ha,hbt,wrap64,steps,st2,pev,rev,oev,optr,ibin,sbin,ishf,bound,mmAll,mm2,mk,mkArgs,AV.cells,AV.boxable,AV.one,AV.strip1,fillA,fillS,Nat.reduceEqDiff,reduceCtorEq,↓reduceIte,Nat.reduceAdd,Int.reduceNeg,Nat.reduceLeDiff,Int.reduceToNat,Int.reduceEq,Int.reduceLT,Int.reduceLE,Int.reduceAdd]
      exact goJ (hJ5 (j,o6,l6,B+1,tk++[pk [93]]) H6 (Nat.lt_succ_self j) ⟨by simp only;omega,by simp only;omega,by rw[← htk];simp,w6.cast (Al4 _) (by (try simp only[Al2,Al3]);omega) rfl rfl⟩) (by simp(disch:=first|omega|assumption) only[steps,st2,pev,rev,oev,optr,ibin,sbin,ishf,bound,mmAll,mm2,mk,mkArgs,AV.cells,AV.boxable,AV.one,AV.strip1,fillA,fillS,Nat.reduceEqDiff,reduceCtorEq,↓reduceIte,Nat.reduceAdd,Int.reduceNeg,Nat.reduceLeDiff,Int.reduceToNat,Int.reduceEq,Int.reduceLT,Int.reduceLE,Int.reduceAdd])
    ·have hji':¬ ((j:Int)<i):=by omega
     rw[if_neg hji] at htk
     by_cases hbt:ms / 2 ^ j % 2=1
     ·have hbb:zag ms j=true:=by simp[zag,hbt]
      rw[hbb] at htk
      simp(disch:=first|omega|assumption) only[e0,hz,hji',hbit,hj0,ha,hbt,steps,st2,pev,rev,oev,optr,ibin,sbin,ishf,bound,mmAll,mm2,mk,mkArgs,AV.cells,AV.boxable,AV.one,AV.strip1,fillA,fillS,Nat.reduceEqDiff,reduceCtorEq,↓reduceIte,Nat.reduceAdd,Int.reduceNeg,Nat.reduceLeDiff,Int.reduceToNat,Int.reduceEq,Int.reduceLT,Int.reduceLE,Int.reduceAdd]
      refine zg (zx [33] _) w5 (by omega) (by omega) (by simp only[Lim];omega) fun o7 l7 H7 w7 _=>?_
      simp(disch:=first|omega|assumption) only[wrap64,steps,st2,pev,rev,oev,optr,ibin,sbin,ishf,bound,mmAll,mm2,mk,mkArgs,AV.cells,AV.boxable,AV.one,AV.strip1,fillA,fillS,Nat.reduceEqDiff,reduceCtorEq,↓reduceIte,Nat.reduceAdd,Int.reduceNeg,Nat.reduceLeDiff,Int.reduceToNat,Int.reduceEq,Int.reduceLT,Int.reduceLE,Int.reduceAdd]
      exact goJ (hJ5 (j,o7,l7,B+1,tk++[pk [33]]) H7 (Nat.lt_succ_self j) ⟨by simp only;omega,by simp only;omega,by rw[← htk];simp,w7.cast (Al4 _) (by (try simp only[Al2,Al3]);omega) rfl rfl⟩) (by simp(disch:=first|omega|assumption) only[steps,st2,pev,rev,oev,optr,ibin,sbin,ishf,bound,mmAll,mm2,mk,mkArgs,AV.cells,AV.boxable,AV.one,AV.strip1,fillA,fillS,Nat.reduceEqDiff,reduceCtorEq,↓reduceIte,Nat.reduceAdd,Int.reduceNeg,Nat.reduceLeDiff,Int.reduceToNat,Int.reduceEq,Int.reduceLT,Int.reduceLE,Int.reduceAdd])
     ·have hbb:zag ms j=false:=by simp[zag,hbt]
      rw[hbb] at htk
      simp(disch:=first|omega|assumption) only[e0,hz,hji',hbit,hj0,ha,hbt,wrap64,steps,st2,pev,rev,oev,optr,ibin,sbin,ishf,bound,mmAll,mm2,mk,mkArgs,AV.cells,AV.boxable,AV.one,AV.strip1,fillA,fillS,Nat.reduceEqDiff,reduceCtorEq,↓reduceIte,Nat.reduceAdd,Int.reduceNeg,Nat.reduceLeDiff,Int.reduceToNat,Int.reduceEq,Int.reduceLT,Int.reduceLE,Int.reduceAdd]
      exact goJ (hJ5 (j,o5,l5,B,tk) H5 (Nat.lt_succ_self j) ⟨by simp only;omega,by simp only;omega,by rw[← htk];simp,w5⟩) (by simp(disch:=first|omega|assumption) only[steps,st2,pev,rev,oev,optr,ibin,sbin,ishf,bound,mmAll,mm2,mk,mkArgs,AV.cells,AV.boxable,AV.one,AV.strip1,fillA,fillS,Nat.reduceEqDiff,reduceCtorEq,↓reduceIte,Nat.reduceAdd,Int.reduceNeg,Nat.reduceLeDiff,Int.reduceToNat,Int.reduceEq,Int.reduceLT,Int.reduceLE,Int.reduceAdd])
theorem zja (has:Bool) (v:Val) (hw:wfV v) (hv:4*bV v≤Lim):YC 211 [.bool has,.agg (cV v)] (1+4*bV v) (5+64*bV v) 0 32 (fun dp=>if has then zG dp true v else eqd v zV) (tDf has v):=by
 intro H w o l ok dp h h0 h1 hb
 have hvb:bV v≤Lim:=by simp only[Lim] at hv ⊢;omega
 refine ACalls.go ir211 ck211 (Al4 _) fun KP Q hQ=>?_
 have w0:=YR.refl h
 cases has with
 | false =>
  simp(disch:=first|omega|assumption) only[ze,zc,za,zf,zd,zb,zh,ir211,go_sem]
  refine goK_pure (Pure.low (r:=.bool (eqd v zV)) (by
   have:=zmu v hvb zV
   simpa[AV.strip,ZL,zkq,AV.strip1] using this)) ?_
  simp(disch:=first|omega|assumption) only[go_sem]
  refine zg (yj _) w0 (by omega) (by omega) (by omega) fun o2 l2 H2 w2 _=>?_
  simp(disch:=first|omega|assumption) only[go_sem]
  exact hQ _ _ H2 H2 [] nofun rfl (Low.refl _) ⟨rfl,w2.fin (by simp) (fun _=>by simp[tDf]) (by omega) (by (try simp only[Al2,Al3]);omega)⟩
 | true =>
  simp(disch:=first|omega|assumption) only[ze,zc,za,zf,zd,zb,zh,ir211,go_sem]
  refine zg (zx [61] _) w0 (by omega) (by omega) (by omega) fun o2 l2 H2 w2 _=>?_
  simp(disch:=first|omega|assumption) only[ze,zc,za,zf,zd,zb,zh,go_sem]
  refine zg (zjv v hw hv true) w2 (by omega) (by omega) (by omega) fun o3 l3 H3 w3 _=>?_
  simp(disch:=first|omega|assumption) only[go_sem]
  exact hQ _ _ H3 H3 [] nofun rfl (Low.refl _) ⟨rfl,w3.fin (by simp) (fun _=>by simp[tDf]) (by omega) (by (try simp only[Al2,Al3]);omega)⟩
theorem zmP (fixed:Bool) (m:List Mem) (hw:za1 m) (hm:8*bMs m≤Lim):YC 261 [.bool fixed,.sl .no 6 (cMs m)] (2+6*bMs m) (10+80*bMs m) 0 32 (fun dp=>YD dp fixed m) (zaf m):=by
 intro H w o l ok dp h h0 h1 hb
 have hml:=Zp m
 have hcl:=yU m
 refine ACalls.go ir261 ck261 (Al4 _) fun KP Q hQ=>?_
 have w0:=YR.refl h
 by_cases hz:m.length=0
 ·have hz':((m.length:Int)=0)=True:=eq_true (by omega)
  simp(disch:=first|omega|assumption) only[ir261,hcl,hz',go_sem]
  have em:=Za.1 hz
  subst em
  exact hQ _ _ H H [] nofun rfl (Low.refl _) ⟨rfl,w0.fin rfl (fun _=>rfl) (by omega) (by omega)⟩
 ·have hz':¬ ((m.length:Int)=0):=by omega
  simp(disch:=first|omega|assumption) only[ir261,hcl,hz',go_sem]
  refine zg (zx [40] _) w0 (by omega) (by omega) (by omega) fun o2 l2 H2 w2 _=>?_
  simp(disch:=first|omega|assumption) only[hcl,go_sem]
  refine goL_range m 16 (fun x:Own×List Tok=>[]) (fun done rest x H'=>YR H o w l ok dp (1+6*bMs done) (5+80*bMs done) (YD dp fixed done) (pk [40]::yg done) H' x.1 x.2) (o2,l2) (by simp(disch:=first|omega|assumption) only[go_sem]) (w2.cast (by omega) (by simp[bMs]) rfl rfl) ?_ ?_
  ·rintro⟨o3,l3⟩ H3 J w3 hlt
   simp only at w3
   simp(disch:=first|omega|assumption) only[hcl,hlt,go_sem]
   refine zg (zx [41] _) w3 (by omega) (by omega) (by omega) fun o4 l4 H4 w4 _=>?_
   simp(disch:=first|omega|assumption) only[go_sem]
   exact hQ _ _ H4 H4 [] nofun rfl (Low.refl _) ⟨rfl,w4.fin (by simp) (fun _=>by unfold zaf;rw[if_neg hz];rfl) (by omega) (by (try simp only[Al2,Al3]);omega)⟩
  ·rintro done x rest ⟨o3,l3⟩ H3 J hd hlt hlt2 w3 hJ
   simp only at w3
   have hg:=ZD hd
   have hbm:=Z3 done x rest
   rw[← hd] at hbm
   have hmem:x∈m:=by rw[hd];simp
   obtain⟨s,v⟩:=x
   have hwv:=zaA hw s v hmem
   have hvp:=zbk v
   simp only[bM] at hbm
   have hm':=hm
   simp only[Lim] at hm'
   have hbw:b0 w=b0 w:=rfl
   simp(disch:=first|omega|assumption) only[ze,zc,za,zf,zd,zb,zh,hcl,hlt,hg,go_sem]
   refine goA_intro fun b hb=>?_
   have hbw:b≠w:=fun e=>by subst e;rw[w3.here.cell] at hb;cases hb
   have w4:=w3.alloc (x:=.cells (.str s::cV v)) hb
   have hbc:(H3.upd b (.cells (.str s::cV v))) b=some (.cells (.str s::cV v)):=upd_same ..
   simp(disch:=first|omega|assumption) only[ze,zc,za,zf,zd,zb,zh,go_sem]
   refine zg (zu s (by simp only[Lim];omega)) w4 (by omega) (by omega) (by omega) fun o5 l5 H5 w5 s5=>?_
   have hb5:=s5.box w4.here.own hbc hbw
   simp(disch:=first|omega|assumption) only[ze,zc,za,zf,zd,zb,zh,hb5,go_sem]
   refine zg (zx [58] _) w5 (by omega) (by omega) (by omega) fun o6 l6 H6 w6 s6=>?_
   have hb6:=s6.box w5.here.own hb5 hbw
   simp(disch:=first|omega|assumption) only[ze,zc,za,zf,zd,zb,zh,hb6,go_sem]
   refine zg (zjv v hwv (by simp only[Lim];omega) fixed) w6 (by omega) (by omega) (by omega) fun o7 l7 H7 w7 s7=>?_
   simp(disch:=first|omega|assumption) only[wrap64,go_sem]
   exact goJ (hJ (o7,l7) H7 (w7.cast (by rw[Z3 done (.mk s v) []];simp only[bM,bMs];omega) (by rw[Z3 done (.mk s v) []];simp only[bM,bMs,Al2,Al3];omega) (by simp[YD,zcL,yC]) (by rw[zeA];simp[yg,Ym,wk,pk]))) (by simp(disch:=first|omega|assumption) only[go_sem])
theorem zlf (fixed:Bool) (m:List DirD) (hw:ziu m) (hm:8*bDs m≤Lim):YC 242 [.bool fixed,.sl .no 2 (cDs m)] (8*bDs m) (88*bDs m) 0 32 (fun dp=>Yp dp fixed m) (tDs m):=by
 intro H w o l ok dp h h0 h1 hb
 have hml:=zeP m
 have hcl:=zbE m
 have hm':=hm
 simp only[Lim] at hm'
 refine ACalls.go ir242 ck242 (Al4 _) fun KP Q hQ=>?_
 have w0:=YR.refl h
 simp(disch:=first|omega|assumption) only[ir242,hcl,go_sem]
 refine goL_range m 10 (fun x:Own×List Tok=>[]) (fun done rest x H'=>YR H o w l ok dp (8*bDs done) (88*bDs done) (Yp dp fixed done) (tDs done) H' x.1 x.2) (o,l) (by simp(disch:=first|omega|assumption) only[go_sem]) (w0.cast (by omega) (by omega) rfl rfl) ?_ ?_
 ·rintro⟨o3,l3⟩ H3 J w3 hlt
  simp only at w3
  simp(disch:=first|omega|assumption) only[hcl,hlt,go_sem]
  exact hQ _ _ H3 H3 [] nofun rfl (Low.refl _) ⟨rfl,w3.fin rfl (fun _=>rfl) (by omega) (by omega)⟩
 ·rintro done x rest ⟨o3,l3⟩ H3 J hd hlt hlt2 w3 hJ
  simp only at w3
  have hg:=zcB hd
  have hbm:=zfe done x rest
  rw[← hd] at hbm
  have hmem:x∈m:=by rw[hd];simp
  have hwx:=hw x hmem
  obtain⟨s,args⟩:=x
  have hal:=Zp args
  simp only[bD] at hbm
  have ex:cD ⟨s,args⟩=[.str s,.sl .no 6 (cMs args)]:=rfl
  rw[ex] at hg
  simp(disch:=first|omega|assumption) only[hcl,hlt,hg,go_sem]
  refine goA_intro fun b hb=>?_
  have hbw:b≠w:=fun e=>by subst e;rw[w3.here.cell] at hb;cases hb
  have w4:=w3.alloc (x:=.cells [.str s,.sl .no 6 (cMs args)]) hb
  have hbc:(H3.upd b (.cells [.str s,.sl .no 6 (cMs args)])) b=some (.cells [.str s,.sl .no 6 (cMs args)]):=upd_same ..
  simp(disch:=first|omega|assumption) only[go_sem]
  refine zg (zx [64] _) w4 (by omega) (by omega) (by omega) fun o5 l5 H5 w5 s5=>?_
  have hb5:=s5.box w4.here.own hbc hbw
  simp(disch:=first|omega|assumption) only[hb5,go_sem]
  refine zg (zu s (by simp only[Lim];omega)) w5 (by omega) (by omega) (by omega) fun o6 l6 H6 w6 s6=>?_
  have hb6:=s6.box w5.here.own hb5 hbw
  simp(disch:=first|omega|assumption) only[hb6,go_sem]
  refine zg (zmP fixed args hwx (by simp only[Lim];omega)) w6 (by omega) (by omega) (by omega) fun o7 l7 H7 w7 s7=>?_
  simp(disch:=first|omega|assumption) only[wrap64,go_sem]
  exact goJ (hJ (o7,l7) H7 (w7.cast (by rw[zge];simp only[bD];omega) (by rw[zge];simp only[bD,Al2,Al3];omega) (by rw[zfo];simp[zaR,yC]) (by rw[zjf];simp[tD]))) (by simp(disch:=first|omega|assumption) only[go_sem])
def ZS (f:FuncId) (args:List AV) (B W:Nat) (r:Bool) (tk:List Tok):Prop :=
 ∀(H:Heap) (w:Nat) (o:Own) (l:List Tok) (ok:Bool),WAt H w o l ok 0→l.length+B≤Lim →
  ACalls Tryz.prog f (.agg [.ptr w 0]::args) H (ziE fun v H'=>v=.tup []∧∃ o' l',WAt H' w o' l' (ok&&r) 0∧WStep H o w H' o'∧l'.length≤l.length+B∧((ok&&r)=true→l'=l++tk)∧wT l'≤wT l+W)
section
variable {KP:AV→Heap→Prop} {Q:AExit→Env→Heap→Prop} {st:List Fr} {ρ:Env} {H:Heap} {all items:List AItem} {d:Option Nat} {R:List Chk}
theorem yY {f:FuncId} {args:List AV} {B' W':Nat} {r':Bool} {tk':List Tok} (hc:ZS f args B' W' r' tk') {H0:Heap} {o0 o:Own} {w B W:Nat} {l0 l tk:List Tok} {ok0 r:Bool} (h:YR H0 o0 w l0 ok0 0 B W r tk H o l)
  (hb:l0.length+(B+B')≤Lim) (k:∀ o' l' H',YR H0 o0 w l0 ok0 0 (B+B') (W+W') (r&&r') (tk++tk') H' o' l'→WStep H o w H' o'→goR Tryz.prog KP Q all items st R (ρ.set d (.tup [])) H') :
  goK Tryz.prog KP Q all items st d R ρ f (.agg [.ptr w 0]::args) H:=by
 have hlen:=h.len
 have hwt:=h.wt
 refine goK_ret (hc H w o l _ h.here (by omega)) fun v H' ⟨hv,o',l',h2,h3,h4,h5,h6⟩=>?_
 subst hv
 refine k o' l' H' ⟨by rw[← yC];exact h2,h.st.trans h.here.cell h3,by omega,fun e=>?_,by omega⟩ h3
 rw[← yC] at e
 rw[h5 e,h.eq (by simp only[Al0] at e ⊢;exact e.1),Yh]
end
theorem zcE (m:List VarD) (hw:∀ y∈m,wfW y) (hm:32*bWs m≤Lim):ZS 168 [.sl .no 10 (cWs m)] (32*bWs m) (512*bWs m) (m.all YN) (m.flatMap tPa):=by
 intro H w o l ok h hb
 have hml:=Y0 m
 have hcl:=Yx m
 have hm':=hm
 simp only[Lim] at hm'
 refine ACalls.go ir168 ck168 (Al4 _) fun KP Q hQ=>?_
 have w0:=YR.refl h
 simp(disch:=first|omega|assumption) only[ir168,hcl,go_sem]
 refine goL_range m 8 (fun x:Own×List Tok=>[]) (fun done rest x H'=>YR H o w l ok 0 (32*bWs done) (512*bWs done) (done.all YN) (done.flatMap tPa) H' x.1 x.2) (o,l) (by simp(disch:=first|omega|assumption) only[go_sem]) (w0.cast (by omega) (by omega) rfl rfl) ?_ ?_
 ·rintro⟨o3,l3⟩ H3 J w3 hlt
  simp only at w3
  simp(disch:=first|omega|assumption) only[hcl,hlt,go_sem]
  exact hQ _ _ H3 H3 [] nofun rfl (Low.refl _) ⟨rfl,w3.fin rfl (fun _=>rfl) (by omega) (by omega)⟩
 ·rintro done x rest ⟨o5,l5⟩ H5 J5 hd hlt hlt2 w5 hJ5
  simp only at w5
  have hg:=zfs hd
  have hbm:=zfa done x rest
  rw[← hd] at hbm
  have hwx:=hw x (by rw[hd];simp)
  obtain⟨vn,⟨tn,tl,tm⟩,vh,vd⟩:=x
  have hwvd:wfV vd:=hwx.2.2
  have hvp:=zbk vd
  have hbx:bW ⟨vn,⟨tn,tl,tm⟩,vh,vd⟩=vn.length+tn.length+bV vd:=rfl
  rw[zeB] at hg
  simp only at hg
  simp(disch:=first|omega|assumption) only[ze,zc,za,zf,zd,zb,zh,hcl,hlt,hg,go_sem]
  refine goA_intro fun b hb=>?_
  have hbw:b≠w:=fun e=>by subst e;rw[w5.here.cell] at hb;cases hb
  have w6:=w5.alloc (x:=.cells (.str vn::.str tn::.int .i64 tl::.int .i64 tm::.bool vh::cV vd)) hb
  have hbc:(H5.upd b (.cells (.str vn::.str tn::.int .i64 tl::.int .i64 tm::.bool vh::cV vd))) b=some (.cells (.str vn::.str tn::.int .i64 tl::.int .i64 tm::.bool vh::cV vd)):=upd_same ..
  simp(disch:=first|omega|assumption) only[ze,zc,za,zf,zd,zb,zh,go_sem]
  refine zg (zu vn (by simp only[Lim];omega)) w6 (by omega) (by omega) (by omega) fun o8 l8 H8 w8 s8=>?_
  have hb8:=s8.box w6.here.own hbc hbw
  simp(disch:=first|omega|assumption) only[ze,zc,za,zf,zd,zb,zh,hb8,go_sem]
  refine zg (zx [58] _) w8 (by omega) (by omega) (by omega) fun o9 l9 H9 w9 s9=>?_
  have hb9:=s9.box w8.here.own hb8 hbw
  simp(disch:=first|omega|assumption) only[ze,zc,za,zf,zd,zb,zh,hb9,go_sem]
  refine zg (args:=[.agg [.str tn,.int .i64 tl,.int .i64 tm]]) (show YC _ [.agg [.str tn,.int .i64 tl,.int .i64 tm]] 20 (200+tn.length) (-1000) 1000 (fun _=>zS ⟨tn,tl,tm⟩) (tTy ⟨tn,tl,tm⟩) from zjk ⟨tn,tl,tm⟩ (by simp only[Lim];omega)) w9 (by omega) (by omega) (by omega) fun oC lC HC wC sC=>?_
  have hbC:=sC.box w9.here.own hb9 hbw
  simp(disch:=first|omega|assumption) only[ze,zc,za,zf,zd,zb,zh,hbC,go_sem]
  refine zg (zja vh vd hwvd (by simp only[Lim];omega)) wC (by omega) (by omega) (by omega) fun oD lD HD wD sD=>?_
  have er:YN ⟨vn,⟨tn,tl,tm⟩,vh,vd⟩=zhH 0 ⟨vn,⟨tn,tl,tm⟩,vh,vd⟩:=rfl
  simp(disch:=first|omega|assumption) only[wrap64,go_sem]
  exact goJ (hJ5 (oD,lD) HD (wD.cast (by rw[zgz];omega) (by rw[zgz];(try simp only[Al2,Al3]);omega) (by simp[er,zhH,yC]) (by simp[tPa]))) (by simp(disch:=first|omega|assumption) only[go_sem])
theorem zca (m:List UInt8) (a:List (List UInt8)) (hml:m.length=1) (hm:2*bT a≤Lim):ZS 208 [.str m,.sl .no 1 (cT a)] (2*bT a) (16*bT a) (a.all zq) (tNs m a):=by
 intro H w o l ok h hb
 have hbl:=YL a
 have hcl:=yd a
 have hm':=hm
 simp only[Lim] at hm'
 refine ACalls.go ir208 ck208 (Al4 _) fun KP Q hQ=>?_
 have w0:=YR.refl h
 simp(disch:=first|omega|assumption) only[ir208,hcl,go_sem]
 refine goL_range a 10 (fun x:Own×List Tok=>[]) (fun done rest x H'=>YR H o w l ok 0 (2*bT done) (16*bT done) (done.all zq) (tNs m done) H' x.1 x.2) (o,l) (by simp(disch:=first|omega|assumption) only[go_sem]) (w0.cast (by omega) (by omega) rfl rfl) ?_ ?_
 ·rintro⟨o3,l3⟩ H3 J w3 hlt
  simp only at w3
  simp(disch:=first|omega|assumption) only[hcl,hlt,go_sem]
  exact hQ _ _ H3 H3 [] nofun rfl (Low.refl _) ⟨rfl,w3.fin rfl (fun _=>rfl) (by omega) (by omega)⟩
 ·rintro done x rest ⟨o5,l5⟩ H5 J5 hd hlt hlt2 w5 hJ5
  simp only at w5
  have hg:=zb0 hd
  have hbm:=zcW done x rest
  rw[← hd] at hbm
  have hsn:=zjE m done x
  by_cases h0:done.length=0
  ·have h0':¬ ((0:Int)<(done.length:Int)):=by omega
   rw[if_pos h0] at hsn
   simp(disch:=first|omega|assumption) only[hcl,hlt,hg,h0',go_sem]
   refine zg (zu x (by simp only[Lim];omega)) w5 (by omega) (by omega) (by omega) fun o8 l8 H8 w8 s8=>?_
   simp(disch:=first|omega|assumption) only[wrap64,go_sem]
   exact goJ (hJ5 (o8,l8) H8 (w8.cast (by rw[zw];omega) (by rw[zw];omega) (by simp) (by rw[hsn]))) (by simp(disch:=first|omega|assumption) only[go_sem])
  ·have h0':((0:Int)<(done.length:Int))=True:=eq_true (by omega)
   rw[if_neg h0] at hsn
   simp(disch:=first|omega|assumption) only[hcl,hlt,hg,h0',go_sem]
   refine zg (zx m _) w5 (by omega) (by omega) (by omega) fun o6 l6 H6 w6 s6=>?_
   simp(disch:=first|omega|assumption) only[hcl,hlt,hg,go_sem]
   refine zg (zu x (by simp only[Lim];omega)) w6 (by omega) (by omega) (by omega) fun o8 l8 H8 w8 s8=>?_
   simp(disch:=first|omega|assumption) only[wrap64,go_sem]
   exact goJ (hJ5 (o8,l8) H8 (w8.cast (by rw[zw];omega) (by rw[zw];omega) (by simp) (by rw[hsn];simp))) (by simp(disch:=first|omega|assumption) only[go_sem])
theorem zaU (m:List FldD) (hw:∀ y∈m,wfL y) (hm:32*bLs m≤Lim):ZS 209 [.sl .no 6 (cLs m)] (32*bLs m) (512*bLs m) (m.all Z6) (m.flatMap tL):=by
 intro H w o l ok h hb
 have hml:=zaS m
 have hcl:=YA m
 have hm':=hm
 simp only[Lim] at hm'
 refine ACalls.go ir209 ck209 (Al4 _) fun KP Q hQ=>?_
 have w0:=YR.refl h
 simp(disch:=first|omega|assumption) only[ir209,hcl,go_sem]
 refine goL_range m 8 (fun x:Own×List Tok=>[]) (fun done rest x H'=>YR H o w l ok 0 (32*bLs done) (512*bLs done) (done.all Z6) (done.flatMap tL) H' x.1 x.2) (o,l) (by simp(disch:=first|omega|assumption) only[go_sem]) (w0.cast (by omega) (by omega) rfl rfl) ?_ ?_
 ·rintro⟨o3,l3⟩ H3 J w3 hlt
  simp only at w3
  simp(disch:=first|omega|assumption) only[hcl,hlt,go_sem]
  exact hQ _ _ H3 H3 [] nofun rfl (Low.refl _) ⟨rfl,w3.fin rfl (fun _=>rfl) (by omega) (by omega)⟩
 ·rintro done x rest ⟨o5,l5⟩ H5 J5 hd hlt hlt2 w5 hJ5
  simp only at w5
  have hg:=zft hd
  have hbm:=ze2 done x rest
  rw[← hd] at hbm
  have hwx:=hw x (by rw[hd];simp)
  obtain⟨fn,ps,⟨tn,tl,tm⟩,dirs⟩:=x
  simp only[wfL] at hwx
  have hbx:bL ⟨fn,ps,⟨tn,tl,tm⟩,dirs⟩=1+fn.length+bWs ps+tn.length+bDs dirs:=rfl
  have hpl:=Yx ps
  have hpb:=Y0 ps
  rw[zjc] at hg
  simp(disch:=first|omega|assumption) only[hcl,hlt,hg,go_sem]
  refine goA_intro fun b hb=>?_
  have hbw:b≠w:=fun e=>by subst e;rw[w5.here.cell] at hb;cases hb
  obtain⟨cs,hcs⟩:∃ cs,cs=[AV.str fn,.sl .no 10 (cWs ps),.str tn,.int .i64 tl,.int .i64 tm,.sl .no 2 (cDs dirs)]:=⟨_,rfl⟩
  have w6:=w5.alloc (x:=.cells cs) hb
  have hbc:(H5.upd b (.cells cs)) b=some (.cells cs):=upd_same ..
  subst hcs
  simp(disch:=first|omega|assumption) only[go_sem]
  refine zg (zu fn (by simp only[Lim];omega)) w6 (by omega) (by omega) (by omega) fun o8 l8 H8 w8 s8=>?_
  have hb8:=s8.box w6.here.own hbc hbw
  by_cases hp0:ps.length=0
  ·have hp0':¬ ((0:Int)<(ps.length:Int)):=by omega
   have hps:=Za.1 hp0
   simp(disch:=first|omega|assumption) only[hb8,hpl,hp0',go_sem]
   refine zg (zx [58] _) w8 (by omega) (by omega) (by omega) fun oB lB HB wB sB=>?_
   have hbB:=sB.box w8.here.own hb8 hbw
   simp(disch:=first|omega|assumption) only[hbB,go_sem]
   refine zg (args:=[.agg [.str tn,.int .i64 tl,.int .i64 tm]]) (show YC _ [.agg [.str tn,.int .i64 tl,.int .i64 tm]] 20 (200+tn.length) (-1000) 1000 (fun _=>zS ⟨tn,tl,tm⟩) (tTy ⟨tn,tl,tm⟩) from zjk ⟨tn,tl,tm⟩ (by simp only[Lim];omega)) wB (by omega) (by omega) (by omega) fun oC lC HC wC sC=>?_
   have hbC:=sC.box wB.here.own hbB hbw
   simp(disch:=first|omega|assumption) only[hbC,go_sem]
   refine zg (zlf true dirs hwx.2.2.2 (by simp only[Lim];omega)) wC (by omega) (by omega) (by omega) fun oD lD HD wD sD=>?_
   simp(disch:=first|omega|assumption) only[wrap64,go_sem]
   exact goJ (hJ5 (oD,lD) HD (wD.cast (by rw[zbU];omega) (by rw[zbU];(try simp only[Al2,Al3]);omega) (by simp[Z6,hps,yC]) (by simp[tL,tPb,hps]))) (by simp(disch:=first|omega|assumption) only[go_sem])
  ·have hp0':((0:Int)<(ps.length:Int))=True:=eq_true (by omega)
   have hps:=hp0
   simp(disch:=first|omega|assumption) only[hb8,hpl,hp0',go_sem]
   refine zg (zx [40] _) w8 (by omega) (by omega) (by omega) fun o9 l9 H9 w9 s9=>?_
   have hb9:=s9.box w8.here.own hb8 hbw
   simp(disch:=first|omega|assumption) only[hb9,go_sem]
   refine yY (zcE ps hwx.1 (by simp only[Lim];omega)) w9 (by omega) fun oE lE HE wE sE=>?_
   have hbE:=sE.box w9.here.own hb9 hbw
   simp(disch:=first|omega|assumption) only[hbE,go_sem]
   refine zg (zx [41] _) wE (by omega) (by omega) (by omega) fun oF lF HF wF sF=>?_
   have hbF:=sF.box wE.here.own hbE hbw
   simp(disch:=first|omega|assumption) only[hbF,go_sem]
   refine zg (zx [58] _) wF (by omega) (by omega) (by omega) fun oB lB HB wB sB=>?_
   have hbB:=sB.box wF.here.own hbF hbw
   simp(disch:=first|omega|assumption) only[hbB,go_sem]
   refine zg (args:=[.agg [.str tn,.int .i64 tl,.int .i64 tm]]) (show YC _ [.agg [.str tn,.int .i64 tl,.int .i64 tm]] 20 (200+tn.length) (-1000) 1000 (fun _=>zS ⟨tn,tl,tm⟩) (tTy ⟨tn,tl,tm⟩) from zjk ⟨tn,tl,tm⟩ (by simp only[Lim];omega)) wB (by omega) (by omega) (by omega) fun oC lC HC wC sC=>?_
   have hbC:=sC.box wB.here.own hbB hbw
   simp(disch:=first|omega|assumption) only[hbC,go_sem]
   refine zg (zlf true dirs hwx.2.2.2 (by simp only[Lim];omega)) wC (by omega) (by omega) (by omega) fun oD lD HD wD sD=>?_
   simp(disch:=first|omega|assumption) only[wrap64,go_sem]
   exact goJ (hJ5 (oD,lD) HD (wD.cast (by rw[zbU];omega) (by rw[zbU];(try simp only[Al2,Al3]);omega) (by simp[Z6,hps,yC]) (by simp[tL,tPb,hps]))) (by simp(disch:=first|omega|assumption) only[go_sem])
theorem zhC (wd:List UInt8) (x:DefD) (hnw:zq wd=true) (hwd:wd.length≤16) (hwx:wfE x) (hm:64*bE x≤Lim):ZS 166 [.str wd,.agg (cE x)] (64*bE x) (512*bE x) (Zg x) (zeO wd x):=by
 intro H w o l ok h hb
 obtain⟨k,nm,faces,flds,parts,ps⟩:=x
 have hm':=hm
 simp only[Lim,bE] at hm'
 simp only[bE] at hb
 have h1:=YL faces
 have h2:=zaS flds
 have h3:=YL parts
 have h4:=Y0 ps
 have hfc:=yd faces
 have hfl:=YA flds
 have hfp:=yd parts
 have hfs:=Yx ps
 rw[zcr]
 refine ACalls.go ir166 ck166 (Al4 _) fun KP Q hQ=>?_
 have w0:=YR.refl h
 obtain⟨n,hn⟩:∃ n,n=(decide (flds.length≠0)&&(decide (parts.length=0)&&decide (ps.length=0))):=⟨_,rfl⟩
 by_cases a1:flds.length=0
 ·have a1':¬ ((0:Int)<(flds.length:Int)):=by omega
  have hbv:n=false:=by rw[hn];simp[a1]
  simp(disch:=first|omega|assumption) only[ir166,hfl,a1',go_sem]
  refine zg (yj _) w0 (by omega) (by omega) (by omega) fun o1 l1 H1 w1 _=>?_
  simp(disch:=first|omega|assumption) only[go_sem]
  refine zg (zu wd (by simp only[Lim];omega)) w1 (by omega) (by omega) (by omega) fun o2 l2 H2 w2 _=>?_
  simp(disch:=first|omega|assumption) only[go_sem]
  refine zg (zu nm (by simp only[Lim];omega)) w2 (by omega) (by omega) (by omega) fun o3 l3 H3 w3 _=>?_
  by_cases hf0:faces.length=0
  ·have hf1:¬ ((0:Int)<(faces.length:Int)):=by omega
   have hf:=Za.1 hf0
   simp(disch:=first|omega|assumption) only[hfc,hf1,go_sem]
   refine zg (zx [123] _) w3 (by omega) (by omega) (by omega) fun oB lB HB wB sB=>?_
   simp(disch:=first|omega|assumption) only[go_sem]
   refine yY (zaU flds hwx.1 (by simp only[Lim];omega)) wB (by omega) fun oC lC HC wC sC=>?_
   simp(disch:=first|omega|assumption) only[go_sem]
   refine zg (zx [125] _) wC (by omega) (by omega) (by omega) fun oD lD HD wD sD=>?_
   simp(disch:=first|omega|assumption) only[go_sem]
   exact hQ _ _ HD HD [] nofun rfl (Low.refl _) ⟨rfl,wD.fin (by simp only[Zg,← hn,hbv,hnw,zab,hf];simp[yC,Bool.and_comm,Bool.and_left_comm]) (fun _=>by simp[zeO,hf]) (by simp only[bE];omega) (by simp only[bE,Al2,Al3];omega)⟩
  ·have hf1:((0:Int)<(faces.length:Int))=True:=eq_true (by omega)
   have hf:=hf0
   simp(disch:=first|omega|assumption) only[hfc,hf1,go_sem]
   refine zg (zu [105,109,112,108,101,109,101,110,116,115] (by simp[Lim])) w3 (by omega) (by omega) (by omega) fun o4 l4 H4 w4 _=>?_
   simp(disch:=first|omega|assumption) only[go_sem]
   refine yY (zca [38] faces rfl (by simp only[Lim];omega)) w4 (by omega) fun o5 l5 H5 w5 _=>?_
   simp(disch:=first|omega|assumption) only[go_sem]
   refine zg (zx [123] _) w5 (by omega) (by omega) (by omega) fun oB lB HB wB sB=>?_
   simp(disch:=first|omega|assumption) only[go_sem]
   refine yY (zaU flds hwx.1 (by simp only[Lim];omega)) wB (by omega) fun oC lC HC wC sC=>?_
   simp(disch:=first|omega|assumption) only[go_sem]
   refine zg (zx [125] _) wC (by omega) (by omega) (by omega) fun oD lD HD wD sD=>?_
   simp(disch:=first|omega|assumption) only[go_sem]
   exact hQ _ _ HD HD [] nofun rfl (Low.refl _) ⟨rfl,wD.fin (by simp only[Zg,← hn,hbv,hnw,zab,hf];simp[yC,Bool.and_comm,Bool.and_left_comm]) (fun _=>by simp[zeO,hf]) (by simp only[bE];omega) (by simp only[bE,Al2,Al3];omega)⟩
 ·have a1':((0:Int)<(flds.length:Int))=True:=eq_true (by omega)
  have e1:IntKind.wrap .i64 ((parts.length:Int)+(ps.length:Int))=((parts.length+ps.length:Nat):Int):=by rw[wrap64 (by omega) (by omega)];omega
  by_cases a2:parts.length+ps.length=0
  ·have a2':(((parts.length+ps.length:Nat):Int)=0)=True:=eq_true (by omega)
   have hbv:n=true:=by rw[hn];simp only[ne_eq,Al0,zn];omega
   simp(disch:=first|omega|assumption) only[ir166,hfl,a1',hfp,hfs,e1,a2',go_sem]
   refine zg (yj _) w0 (by omega) (by omega) (by omega) fun o1 l1 H1 w1 _=>?_
   simp(disch:=first|omega|assumption) only[go_sem]
   refine zg (zu wd (by simp only[Lim];omega)) w1 (by omega) (by omega) (by omega) fun o2 l2 H2 w2 _=>?_
   simp(disch:=first|omega|assumption) only[go_sem]
   refine zg (zu nm (by simp only[Lim];omega)) w2 (by omega) (by omega) (by omega) fun o3 l3 H3 w3 _=>?_
   by_cases hf0:faces.length=0
   ·have hf1:¬ ((0:Int)<(faces.length:Int)):=by omega
    have hf:=Za.1 hf0
    simp(disch:=first|omega|assumption) only[hfc,hf1,go_sem]
    refine zg (zx [123] _) w3 (by omega) (by omega) (by omega) fun oB lB HB wB sB=>?_
    simp(disch:=first|omega|assumption) only[go_sem]
    refine yY (zaU flds hwx.1 (by simp only[Lim];omega)) wB (by omega) fun oC lC HC wC sC=>?_
    simp(disch:=first|omega|assumption) only[go_sem]
    refine zg (zx [125] _) wC (by omega) (by omega) (by omega) fun oD lD HD wD sD=>?_
    simp(disch:=first|omega|assumption) only[go_sem]
    exact hQ _ _ HD HD [] nofun rfl (Low.refl _) ⟨rfl,wD.fin (by simp only[Zg,← hn,hbv,hnw,zab,hf];simp[yC,Bool.and_comm,Bool.and_left_comm]) (fun _=>by simp[zeO,hf]) (by simp only[bE];omega) (by simp only[bE,Al2,Al3];omega)⟩
   ·have hf1:((0:Int)<(faces.length:Int))=True:=eq_true (by omega)
    have hf:=hf0
    simp(disch:=first|omega|assumption) only[hfc,hf1,go_sem]
    refine zg (zu [105,109,112,108,101,109,101,110,116,115] (by simp[Lim])) w3 (by omega) (by omega) (by omega) fun o4 l4 H4 w4 _=>?_
    simp(disch:=first|omega|assumption) only[go_sem]
    refine yY (zca [38] faces rfl (by simp only[Lim];omega)) w4 (by omega) fun o5 l5 H5 w5 _=>?_
    simp(disch:=first|omega|assumption) only[go_sem]
    refine zg (zx [123] _) w5 (by omega) (by omega) (by omega) fun oB lB HB wB sB=>?_
    simp(disch:=first|omega|assumption) only[go_sem]
    refine yY (zaU flds hwx.1 (by simp only[Lim];omega)) wB (by omega) fun oC lC HC wC sC=>?_
    simp(disch:=first|omega|assumption) only[go_sem]
    refine zg (zx [125] _) wC (by omega) (by omega) (by omega) fun oD lD HD wD sD=>?_
    simp(disch:=first|omega|assumption) only[go_sem]
    exact hQ _ _ HD HD [] nofun rfl (Low.refl _) ⟨rfl,wD.fin (by simp only[Zg,← hn,hbv,hnw,zab,hf];simp[yC,Bool.and_comm,Bool.and_left_comm]) (fun _=>by simp[zeO,hf]) (by simp only[bE];omega) (by simp only[bE,Al2,Al3];omega)⟩
  ·have a2':¬ (((parts.length+ps.length:Nat):Int)=0):=by omega
   have hbv:n=false:=by rw[hn,Bool.eq_false_iff];simp only[ne_eq,Al0,zn];omega
   simp(disch:=first|omega|assumption) only[ir166,hfl,a1',hfp,hfs,e1,a2',go_sem]
   refine zg (yj _) w0 (by omega) (by omega) (by omega) fun o1 l1 H1 w1 _=>?_
   simp(disch:=first|omega|assumption) only[go_sem]
   refine zg (zu wd (by simp only[Lim];omega)) w1 (by omega) (by omega) (by omega) fun o2 l2 H2 w2 _=>?_
   simp(disch:=first|omega|assumption) only[go_sem]
   refine zg (zu nm (by simp only[Lim];omega)) w2 (by omega) (by omega) (by omega) fun o3 l3 H3 w3 _=>?_
   by_cases hf0:faces.length=0
   ·have hf1:¬ ((0:Int)<(faces.length:Int)):=by omega
    have hf:=Za.1 hf0
    simp(disch:=first|omega|assumption) only[hfc,hf1,go_sem]
    refine zg (zx [123] _) w3 (by omega) (by omega) (by omega) fun oB lB HB wB sB=>?_
    simp(disch:=first|omega|assumption) only[go_sem]
    refine yY (zaU flds hwx.1 (by simp only[Lim];omega)) wB (by omega) fun oC lC HC wC sC=>?_
    simp(disch:=first|omega|assumption) only[go_sem]
    refine zg (zx [125] _) wC (by omega) (by omega) (by omega) fun oD lD HD wD sD=>?_
    simp(disch:=first|omega|assumption) only[go_sem]
    exact hQ _ _ HD HD [] nofun rfl (Low.refl _) ⟨rfl,wD.fin (by simp only[Zg,← hn,hbv,hnw,zab,hf];simp[yC,Bool.and_comm,Bool.and_left_comm]) (fun _=>by simp[zeO,hf]) (by simp only[bE];omega) (by simp only[bE,Al2,Al3];omega)⟩
   ·have hf1:((0:Int)<(faces.length:Int))=True:=eq_true (by omega)
    have hf:=hf0
    simp(disch:=first|omega|assumption) only[hfc,hf1,go_sem]
    refine zg (zu [105,109,112,108,101,109,101,110,116,115] (by simp[Lim])) w3 (by omega) (by omega) (by omega) fun o4 l4 H4 w4 _=>?_
    simp(disch:=first|omega|assumption) only[go_sem]
    refine yY (zca [38] faces rfl (by simp only[Lim];omega)) w4 (by omega) fun o5 l5 H5 w5 _=>?_
    simp(disch:=first|omega|assumption) only[go_sem]
    refine zg (zx [123] _) w5 (by omega) (by omega) (by omega) fun oB lB HB wB sB=>?_
    simp(disch:=first|omega|assumption) only[go_sem]
    refine yY (zaU flds hwx.1 (by simp only[Lim];omega)) wB (by omega) fun oC lC HC wC sC=>?_
    simp(disch:=first|omega|assumption) only[go_sem]
    refine zg (zx [125] _) wC (by omega) (by omega) (by omega) fun oD lD HD wD sD=>?_
    simp(disch:=first|omega|assumption) only[go_sem]
    exact hQ _ _ HD HD [] nofun rfl (Low.refl _) ⟨rfl,wD.fin (by simp only[Zg,← hn,hbv,hnw,zab,hf];simp[yC,Bool.and_comm,Bool.and_left_comm]) (fun _=>by simp[zeO,hf]) (by simp only[bE];omega) (by simp only[bE,Al2,Al3];omega)⟩
theorem zlQ (x:DefD) (hm:64*bE x≤Lim):ZS 167 [.agg (cE x)] (64*bE x) (512*bE x) (Zn x) (zeN x):=by
 intro H w o l ok h hb
 obtain⟨k,nm,faces,flds,parts,ps⟩:=x
 have hm':=hm
 simp only[Lim,bE] at hm'
 simp only[bE] at hb
 have h1:=YL faces
 have h2:=zaS flds
 have h3:=YL parts
 have h4:=Y0 ps
 have hfc:=yd faces
 have hfl:=YA flds
 have hfp:=yd parts
 have hfs:=Yx ps
 rw[zcr]
 refine ACalls.go ir167 ck167 (Al4 _) fun KP Q hQ=>?_
 have w0:=YR.refl h
 obtain⟨n,hn⟩:∃ n,n=(decide (parts.length≠0)&&(decide (faces.length=0)&&(decide (flds.length=0)&&decide (ps.length=0)))):=⟨_,rfl⟩
 by_cases a1:parts.length=0
 ·have a1':¬ ((0:Int)<(parts.length:Int)):=by omega
  have hbv:n=false:=by rw[hn];simp[a1]
  simp(disch:=first|omega|assumption) only[ir167,hfp,a1',go_sem]
  refine zg (yj _) w0 (by omega) (by omega) (by omega) fun o1 l1 H1 w1 _=>?_
  by_cases hk:k=3
  ·have hk':=eq_true hk
   simp(disch:=first|omega|assumption) only[hk',go_sem]
   refine zg (zu [117,110,105,111,110] (by simp[Lim])) w1 (by omega) (by omega) (by omega) fun o2 l2 H2 w2 _=>?_
   simp(disch:=first|omega|assumption) only[go_sem]
   refine zg (zu nm (by simp only[Lim];omega)) w2 (by omega) (by omega) (by omega) fun o3 l3 H3 w3 _=>?_
   simp(disch:=first|omega|assumption) only[go_sem]
   refine zg (zx [61] _) w3 (by omega) (by omega) (by omega) fun o4 l4 H4 w4 _=>?_
   simp(disch:=first|omega|assumption) only[go_sem]
   refine yY (zca [124] parts rfl (by simp only[Lim];omega)) w4 (by omega) fun o5 l5 H5 w5 _=>?_
   simp(disch:=first|omega|assumption) only[go_sem]
   exact hQ _ _ H5 H5 [] nofun rfl (Low.refl _) ⟨rfl,w5.fin (by simp only[Zn,if_pos hk,ZC,← hn,hbv,zbM];simp[yC,Bool.and_comm,Bool.and_left_comm]) (fun _=>by simp[zeN,hk]) (by simp only[bE];omega) (by simp only[bE,Al2,Al3];omega)⟩
  ·simp(disch:=first|omega|assumption) only[hk,go_sem]
   refine zg (zu [101,110,117,109] (by simp[Lim])) w1 (by omega) (by omega) (by omega) fun o2 l2 H2 w2 _=>?_
   simp(disch:=first|omega|assumption) only[go_sem]
   refine zg (zu nm (by simp only[Lim];omega)) w2 (by omega) (by omega) (by omega) fun o3 l3 H3 w3 _=>?_
   simp(disch:=first|omega|assumption) only[go_sem]
   refine zg (zx [123] _) w3 (by omega) (by omega) (by omega) fun o4 l4 H4 w4 _=>?_
   simp(disch:=first|omega|assumption) only[hfp,go_sem]
   refine goL_range parts 61 (fun x:Own×List Tok=>[]) (fun done rest x H'=>YR H o w l ok 0 (4+bT done) (32+nm.length+16*bT done) (n&&(zq nm&&done.all fun s=>yS s&&zq s)) (wk [101,110,117,109]::wk nm::pk [123]::done.map wk) H' x.1 x.2) (o4,l4) (by simp(disch:=first|omega|assumption) only[go_sem]) (w4.cast (by omega) (by simp only[Al2,Al3];omega) (by simp[hbv,zcH]) (by simp)) ?_ ?_
   ·rintro⟨o5,l5⟩ H5 J5 w5 hlt
    simp only at w5
    simp(disch:=first|omega|assumption) only[hfp,hlt,go_sem]
    refine zg (zx [125] _) w5 (by omega) (by omega) (by omega) fun o6 l6 H6 w6 _=>?_
    simp(disch:=first|omega|assumption) only[go_sem]
    exact hQ _ _ H6 H6 [] nofun rfl (Low.refl _) ⟨rfl,w6.fin (by rw[ze5];simp only[Zn,if_neg hk,ZC,← hn];simp[yC,Bool.and_comm,Bool.and_left_comm]) (fun _=>by simp[zeN,hk]) (by simp only[bE];omega) (by simp only[bE,Al2,Al3];omega)⟩
   ·rintro done x rest ⟨o5,l5⟩ H5 J5 hd hlt hlt2 w5 hJ5
    simp only at w5
    have hg:=zb0 hd
    have hbm:=zcW done x rest
    rw[← hd] at hbm
    simp(disch:=first|omega|assumption) only[hfp,hlt,hg,go_sem]
    by_cases q1:x=[116,114,117,101]
    ·have q1':=eq_true q1
     have hno:yS x=false:=by rw[q1];decide
     simp(disch:=first|omega|assumption) only[q1',go_sem]
     refine zg (yj _) w5 (by omega) (by omega) (by omega) fun o6 l6 H6 w6 _=>?_
     simp(disch:=first|omega|assumption) only[go_sem]
     refine zg (zu x (by simp only[Lim];omega)) w6 (by omega) (by omega) (by omega) fun o7 l7 H7 w7 _=>?_
     simp(disch:=first|omega|assumption) only[wrap64,go_sem]
     exact goJ (hJ5 (o7,l7) H7 (w7.cast (by rw[zw];omega) (by rw[zw];omega) (by simp[hno,yC]) (by simp))) (by simp(disch:=first|omega|assumption) only[go_sem])
    by_cases q2:x=[102,97,108,115,101]
    ·have q2':=eq_true q2
     have hno:yS x=false:=by rw[q2];decide
     simp(disch:=first|omega|assumption) only[q1,q2',go_sem]
     refine zg (yj _) w5 (by omega) (by omega) (by omega) fun o6 l6 H6 w6 _=>?_
     simp(disch:=first|omega|assumption) only[go_sem]
     refine zg (zu x (by simp only[Lim];omega)) w6 (by omega) (by omega) (by omega) fun o7 l7 H7 w7 _=>?_
     simp(disch:=first|omega|assumption) only[wrap64,go_sem]
     exact goJ (hJ5 (o7,l7) H7 (w7.cast (by rw[zw];omega) (by rw[zw];omega) (by simp[hno,yC]) (by simp))) (by simp(disch:=first|omega|assumption) only[go_sem])
    by_cases q3:x=[110,117,108,108]
    ·have q3':=eq_true q3
     have hno:yS x=false:=by rw[q3];decide
     simp(disch:=first|omega|assumption) only[q1,q2,q3',go_sem]
     refine zg (yj _) w5 (by omega) (by omega) (by omega) fun o6 l6 H6 w6 _=>?_
     simp(disch:=first|omega|assumption) only[go_sem]
     refine zg (zu x (by simp only[Lim];omega)) w6 (by omega) (by omega) (by omega) fun o7 l7 H7 w7 _=>?_
     simp(disch:=first|omega|assumption) only[wrap64,go_sem]
     exact goJ (hJ5 (o7,l7) H7 (w7.cast (by rw[zw];omega) (by rw[zw];omega) (by simp[hno,yC]) (by simp))) (by simp(disch:=first|omega|assumption) only[go_sem])
    ·have hno:yS x=true:=by simp[yS,q1,q2,q3]
     simp(disch:=first|omega|assumption) only[q1,q2,q3,go_sem]
     refine zg (yj _) w5 (by omega) (by omega) (by omega) fun o6 l6 H6 w6 _=>?_
     simp(disch:=first|omega|assumption) only[go_sem]
     refine zg (zu x (by simp only[Lim];omega)) w6 (by omega) (by omega) (by omega) fun o7 l7 H7 w7 _=>?_
     simp(disch:=first|omega|assumption) only[wrap64,go_sem]
     exact goJ (hJ5 (o7,l7) H7 (w7.cast (by rw[zw];omega) (by rw[zw];omega) (by simp[hno,yC]) (by simp))) (by simp(disch:=first|omega|assumption) only[go_sem])
 ·have a1':((0:Int)<(parts.length:Int))=True:=eq_true (by omega)
  have e1:IntKind.wrap .i64 ((faces.length:Int)+(flds.length:Int))=((faces.length+flds.length:Nat):Int):=by rw[wrap64 (by omega) (by omega)];omega
  have e2:IntKind.wrap .i64 (((faces.length+flds.length:Nat):Int)+(ps.length:Int))=((faces.length+flds.length+ps.length:Nat):Int):=by rw[wrap64 (by omega) (by omega)];omega
  by_cases a2:faces.length+flds.length+ps.length=0
  ·have a2':(((faces.length+flds.length+ps.length:Nat):Int)=0)=True:=eq_true (by omega)
   have hbv:n=true:=by rw[hn];simp only[ne_eq,Al0,zn];omega
   simp(disch:=first|omega|assumption) only[ir167,hfp,a1',hfc,hfl,hfs,e1,e2,a2',go_sem]
   refine zg (yj _) w0 (by omega) (by omega) (by omega) fun o1 l1 H1 w1 _=>?_
   by_cases hk:k=3
   ·have hk':=eq_true hk
    simp(disch:=first|omega|assumption) only[hk',go_sem]
    refine zg (zu [117,110,105,111,110] (by simp[Lim])) w1 (by omega) (by omega) (by omega) fun o2 l2 H2 w2 _=>?_
    simp(disch:=first|omega|assumption) only[go_sem]
    refine zg (zu nm (by simp only[Lim];omega)) w2 (by omega) (by omega) (by omega) fun o3 l3 H3 w3 _=>?_
    simp(disch:=first|omega|assumption) only[go_sem]
    refine zg (zx [61] _) w3 (by omega) (by omega) (by omega) fun o4 l4 H4 w4 _=>?_
    simp(disch:=first|omega|assumption) only[go_sem]
    refine yY (zca [124] parts rfl (by simp only[Lim];omega)) w4 (by omega) fun o5 l5 H5 w5 _=>?_
    simp(disch:=first|omega|assumption) only[go_sem]
    exact hQ _ _ H5 H5 [] nofun rfl (Low.refl _) ⟨rfl,w5.fin (by simp only[Zn,if_pos hk,ZC,← hn,hbv,zbM];simp[yC,Bool.and_comm,Bool.and_left_comm]) (fun _=>by simp[zeN,hk]) (by simp only[bE];omega) (by simp only[bE,Al2,Al3];omega)⟩
   ·simp(disch:=first|omega|assumption) only[hk,go_sem]
    refine zg (zu [101,110,117,109] (by simp[Lim])) w1 (by omega) (by omega) (by omega) fun o2 l2 H2 w2 _=>?_
    simp(disch:=first|omega|assumption) only[go_sem]
    refine zg (zu nm (by simp only[Lim];omega)) w2 (by omega) (by omega) (by omega) fun o3 l3 H3 w3 _=>?_
    simp(disch:=first|omega|assumption) only[go_sem]
    refine zg (zx [123] _) w3 (by omega) (by omega) (by omega) fun o4 l4 H4 w4 _=>?_
    simp(disch:=first|omega|assumption) only[hfp,go_sem]
    refine goL_range parts 61 (fun x:Own×List Tok=>[]) (fun done rest x H'=>YR H o w l ok 0 (4+bT done) (32+nm.length+16*bT done) (n&&(zq nm&&done.all fun s=>yS s&&zq s)) (wk [101,110,117,109]::wk nm::pk [123]::done.map wk) H' x.1 x.2) (o4,l4) (by simp(disch:=first|omega|assumption) only[go_sem]) (w4.cast (by omega) (by simp only[Al2,Al3];omega) (by simp[hbv,zcH]) (by simp)) ?_ ?_
    ·rintro⟨o5,l5⟩ H5 J5 w5 hlt
     simp only at w5
     simp(disch:=first|omega|assumption) only[hfp,hlt,go_sem]
     refine zg (zx [125] _) w5 (by omega) (by omega) (by omega) fun o6 l6 H6 w6 _=>?_
     simp(disch:=first|omega|assumption) only[go_sem]
     exact hQ _ _ H6 H6 [] nofun rfl (Low.refl _) ⟨rfl,w6.fin (by rw[ze5];simp only[Zn,if_neg hk,ZC,← hn];simp[yC,Bool.and_comm,Bool.and_left_comm]) (fun _=>by simp[zeN,hk]) (by simp only[bE];omega) (by simp only[bE,Al2,Al3];omega)⟩
    ·rintro done x rest ⟨o5,l5⟩ H5 J5 hd hlt hlt2 w5 hJ5
     simp only at w5
     have hg:=zb0 hd
     have hbm:=zcW done x rest
     rw[← hd] at hbm
     simp(disch:=first|omega|assumption) only[hfp,hlt,hg,go_sem]
     by_cases q1:x=[116,114,117,101]
     ·have q1':=eq_true q1
      have hno:yS x=false:=by rw[q1];decide
      simp(disch:=first|omega|assumption) only[q1',go_sem]
      refine zg (yj _) w5 (by omega) (by omega) (by omega) fun o6 l6 H6 w6 _=>?_
      simp(disch:=first|omega|assumption) only[go_sem]
      refine zg (zu x (by simp only[Lim];omega)) w6 (by omega) (by omega) (by omega) fun o7 l7 H7 w7 _=>?_
      simp(disch:=first|omega|assumption) only[wrap64,go_sem]
      exact goJ (hJ5 (o7,l7) H7 (w7.cast (by rw[zw];omega) (by rw[zw];omega) (by simp[hno,yC]) (by simp))) (by simp(disch:=first|omega|assumption) only[go_sem])
     by_cases q2:x=[102,97,108,115,101]
     ·have q2':=eq_true q2
      have hno:yS x=false:=by rw[q2];decide
      simp(disch:=first|omega|assumption) only[q1,q2',go_sem]
      refine zg (yj _) w5 (by omega) (by omega) (by omega) fun o6 l6 H6 w6 _=>?_
      simp(disch:=first|omega|assumption) only[go_sem]
      refine zg (zu x (by simp only[Lim];omega)) w6 (by omega) (by omega) (by omega) fun o7 l7 H7 w7 _=>?_
      simp(disch:=first|omega|assumption) only[wrap64,go_sem]
      exact goJ (hJ5 (o7,l7) H7 (w7.cast (by rw[zw];omega) (by rw[zw];omega) (by simp[hno,yC]) (by simp))) (by simp(disch:=first|omega|assumption) only[go_sem])
     by_cases q3:x=[110,117,108,108]
     ·have q3':=eq_true q3
      have hno:yS x=false:=by rw[q3];decide
      simp(disch:=first|omega|assumption) only[q1,q2,q3',go_sem]
      refine zg (yj _) w5 (by omega) (by omega) (by omega) fun o6 l6 H6 w6 _=>?_
      simp(disch:=first|omega|assumption) only[go_sem]
      refine zg (zu x (by simp only[Lim];omega)) w6 (by omega) (by omega) (by omega) fun o7 l7 H7 w7 _=>?_
      simp(disch:=first|omega|assumption) only[wrap64,go_sem]
      exact goJ (hJ5 (o7,l7) H7 (w7.cast (by rw[zw];omega) (by rw[zw];omega) (by simp[hno,yC]) (by simp))) (by simp(disch:=first|omega|assumption) only[go_sem])
     ·have hno:yS x=true:=by simp[yS,q1,q2,q3]
      simp(disch:=first|omega|assumption) only[q1,q2,q3,go_sem]
      refine zg (yj _) w5 (by omega) (by omega) (by omega) fun o6 l6 H6 w6 _=>?_
      simp(disch:=first|omega|assumption) only[go_sem]
      refine zg (zu x (by simp only[Lim];omega)) w6 (by omega) (by omega) (by omega) fun o7 l7 H7 w7 _=>?_
      simp(disch:=first|omega|assumption) only[wrap64,go_sem]
      exact goJ (hJ5 (o7,l7) H7 (w7.cast (by rw[zw];omega) (by rw[zw];omega) (by simp[hno,yC]) (by simp))) (by simp(disch:=first|omega|assumption) only[go_sem])
  ·have a2':¬ (((faces.length+flds.length+ps.length:Nat):Int)=0):=by omega
   have hbv:n=false:=by rw[hn,Bool.eq_false_iff];simp only[ne_eq,Al0,zn];omega
   simp(disch:=first|omega|assumption) only[ir167,hfp,a1',hfc,hfl,hfs,e1,e2,a2',go_sem]
   refine zg (yj _) w0 (by omega) (by omega) (by omega) fun o1 l1 H1 w1 _=>?_
   by_cases hk:k=3
   ·have hk':=eq_true hk
    simp(disch:=first|omega|assumption) only[hk',go_sem]
    refine zg (zu [117,110,105,111,110] (by simp[Lim])) w1 (by omega) (by omega) (by omega) fun o2 l2 H2 w2 _=>?_
    simp(disch:=first|omega|assumption) only[go_sem]
    refine zg (zu nm (by simp only[Lim];omega)) w2 (by omega) (by omega) (by omega) fun o3 l3 H3 w3 _=>?_
    simp(disch:=first|omega|assumption) only[go_sem]
    refine zg (zx [61] _) w3 (by omega) (by omega) (by omega) fun o4 l4 H4 w4 _=>?_
    simp(disch:=first|omega|assumption) only[go_sem]
    refine yY (zca [124] parts rfl (by simp only[Lim];omega)) w4 (by omega) fun o5 l5 H5 w5 _=>?_
    simp(disch:=first|omega|assumption) only[go_sem]
    exact hQ _ _ H5 H5 [] nofun rfl (Low.refl _) ⟨rfl,w5.fin (by simp only[Zn,if_pos hk,ZC,← hn,hbv,zbM];simp[yC,Bool.and_comm,Bool.and_left_comm]) (fun _=>by simp[zeN,hk]) (by simp only[bE];omega) (by simp only[bE,Al2,Al3];omega)⟩
   ·simp(disch:=first|omega|assumption) only[hk,go_sem]
    refine zg (zu [101,110,117,109] (by simp[Lim])) w1 (by omega) (by omega) (by omega) fun o2 l2 H2 w2 _=>?_
    simp(disch:=first|omega|assumption) only[go_sem]
    refine zg (zu nm (by simp only[Lim];omega)) w2 (by omega) (by omega) (by omega) fun o3 l3 H3 w3 _=>?_
    simp(disch:=first|omega|assumption) only[go_sem]
    refine zg (zx [123] _) w3 (by omega) (by omega) (by omega) fun o4 l4 H4 w4 _=>?_
    simp(disch:=first|omega|assumption) only[hfp,go_sem]
    refine goL_range parts 61 (fun x:Own×List Tok=>[]) (fun done rest x H'=>YR H o w l ok 0 (4+bT done) (32+nm.length+16*bT done) (n&&(zq nm&&done.all fun s=>yS s&&zq s)) (wk [101,110,117,109]::wk nm::pk [123]::done.map wk) H' x.1 x.2) (o4,l4) (by simp(disch:=first|omega|assumption) only[go_sem]) (w4.cast (by omega) (by simp only[Al2,Al3];omega) (by simp[hbv,zcH]) (by simp)) ?_ ?_
    ·rintro⟨o5,l5⟩ H5 J5 w5 hlt
     simp only at w5
     simp(disch:=first|omega|assumption) only[hfp,hlt,go_sem]
     refine zg (zx [125] _) w5 (by omega) (by omega) (by omega) fun o6 l6 H6 w6 _=>?_
     simp(disch:=first|omega|assumption) only[go_sem]
     exact hQ _ _ H6 H6 [] nofun rfl (Low.refl _) ⟨rfl,w6.fin (by rw[ze5];simp only[Zn,if_neg hk,ZC,← hn];simp[yC,Bool.and_comm,Bool.and_left_comm]) (fun _=>by simp[zeN,hk]) (by simp only[bE];omega) (by simp only[bE,Al2,Al3];omega)⟩
    ·rintro done x rest ⟨o5,l5⟩ H5 J5 hd hlt hlt2 w5 hJ5
     simp only at w5
     have hg:=zb0 hd
     have hbm:=zcW done x rest
     rw[← hd] at hbm
     simp(disch:=first|omega|assumption) only[hfp,hlt,hg,go_sem]
     by_cases q1:x=[116,114,117,101]
     ·have q1':=eq_true q1
      have hno:yS x=false:=by rw[q1];decide
      simp(disch:=first|omega|assumption) only[q1',go_sem]
      refine zg (yj _) w5 (by omega) (by omega) (by omega) fun o6 l6 H6 w6 _=>?_
      simp(disch:=first|omega|assumption) only[go_sem]
      refine zg (zu x (by simp only[Lim];omega)) w6 (by omega) (by omega) (by omega) fun o7 l7 H7 w7 _=>?_
      simp(disch:=first|omega|assumption) only[wrap64,go_sem]
      exact goJ (hJ5 (o7,l7) H7 (w7.cast (by rw[zw];omega) (by rw[zw];omega) (by simp[hno,yC]) (by simp))) (by simp(disch:=first|omega|assumption) only[go_sem])
     by_cases q2:x=[102,97,108,115,101]
     ·have q2':=eq_true q2
      have hno:yS x=false:=by rw[q2];decide
      simp(disch:=first|omega|assumption) only[q1,q2',go_sem]
      refine zg (yj _) w5 (by omega) (by omega) (by omega) fun o6 l6 H6 w6 _=>?_
      simp(disch:=first|omega|assumption) only[go_sem]
      refine zg (zu x (by simp only[Lim];omega)) w6 (by omega) (by omega) (by omega) fun o7 l7 H7 w7 _=>?_
      simp(disch:=first|omega|assumption) only[wrap64,go_sem]
      exact goJ (hJ5 (o7,l7) H7 (w7.cast (by rw[zw];omega) (by rw[zw];omega) (by simp[hno,yC]) (by simp))) (by simp(disch:=first|omega|assumption) only[go_sem])
     by_cases q3:x=[110,117,108,108]
     ·have q3':=eq_true q3
      have hno:yS x=false:=by rw[q3];decide
      simp(disch:=first|omega|assumption) only[q1,q2,q3',go_sem]
      refine zg (yj _) w5 (by omega) (by omega) (by omega) fun o6 l6 H6 w6 _=>?_
      simp(disch:=first|omega|assumption) only[go_sem]
      refine zg (zu x (by simp only[Lim];omega)) w6 (by omega) (by omega) (by omega) fun o7 l7 H7 w7 _=>?_
      simp(disch:=first|omega|assumption) only[wrap64,go_sem]
      exact goJ (hJ5 (o7,l7) H7 (w7.cast (by rw[zw];omega) (by rw[zw];omega) (by simp[hno,yC]) (by simp))) (by simp(disch:=first|omega|assumption) only[go_sem])
     ·have hno:yS x=true:=by simp[yS,q1,q2,q3]
      simp(disch:=first|omega|assumption) only[q1,q2,q3,go_sem]
      refine zg (yj _) w5 (by omega) (by omega) (by omega) fun o6 l6 H6 w6 _=>?_
      simp(disch:=first|omega|assumption) only[go_sem]
      refine zg (zu x (by simp only[Lim];omega)) w6 (by omega) (by omega) (by omega) fun o7 l7 H7 w7 _=>?_
      simp(disch:=first|omega|assumption) only[wrap64,go_sem]
      exact goJ (hJ5 (o7,l7) H7 (w7.cast (by rw[zw];omega) (by rw[zw];omega) (by simp[hno,yC]) (by simp))) (by simp(disch:=first|omega|assumption) only[go_sem])
theorem zmr (x:DefD) (hwx:wfE x) (hm:64*bE x≤Lim):ZS 114 [.agg (cE x)] (64*bE x) (512*bE x) (yB x) (tE x):=by
 have hO1:=zhC [116,121,112,101] x zhT (by decide) hwx hm
 have hO2:=zhC [105,110,116,101,114,102,97,99,101] x zhU (by decide) hwx hm
 have hP:=zlQ x hm
 intro H w o l ok h hb
 obtain⟨k,nm,faces,flds,parts,ps⟩:=x
 rw[zcr] at hO1 hO2 hP ⊢
 have hm':=hm
 simp only[Lim,bE] at hm'
 have hb':=hb
 simp only[bE] at hb
 have h1:=YL faces
 have h2:=zaS flds
 have h3:=YL parts
 have h4:=Y0 ps
 have hfc:=yd faces
 have hfl:=YA flds
 have hfp:=yd parts
 have hfs:=Yx ps
 refine ACalls.go ir114 ck114 (Al4 _) fun KP Q hQ=>?_
 have w0:=YR.refl h
 by_cases k1:k=1
 ·have k1':=eq_true k1
  simp(disch:=first|omega|assumption) only[ir114,k1',go_sem]
  refine yY hO1 w0 (by omega) fun o2 l2 H2 w2 _=>?_
  simp(disch:=first|omega|assumption) only[go_sem]
  exact hQ _ _ H2 H2 [] nofun rfl (Low.refl _) ⟨rfl,w2.fin (by subst k1;simp[yB,Zg]) (fun _=>by subst k1;simp[tE,zeO]) (by omega) (by omega)⟩
 by_cases k2:k=2
 ·have k2':=eq_true k2
  simp(disch:=first|omega|assumption) only[ir114,k1,k2',go_sem]
  refine yY hO2 w0 (by omega) fun o2 l2 H2 w2 _=>?_
  simp(disch:=first|omega|assumption) only[go_sem]
  exact hQ _ _ H2 H2 [] nofun rfl (Low.refl _) ⟨rfl,w2.fin (by subst k2;simp[yB,Zg]) (fun _=>by subst k2;simp[tE,zeO]) (by omega) (by omega)⟩
 by_cases k3:k=3
 ·have k3':=eq_true k3
  simp(disch:=first|omega|assumption) only[ir114,k1,k2,k3',go_sem]
  refine yY hP w0 (by omega) fun o2 l2 H2 w2 _=>?_
  simp(disch:=first|omega|assumption) only[go_sem]
  exact hQ _ _ H2 H2 [] nofun rfl (Low.refl _) ⟨rfl,w2.fin (by subst k3;simp[yB,Zn,ZC]) (fun _=>by subst k3;simp[tE,zeN]) (by omega) (by omega)⟩
 by_cases k4:k=4
 ·have k4':=eq_true k4
  simp(disch:=first|omega|assumption) only[ir114,k1,k2,k3,k4',go_sem]
  refine yY hP w0 (by omega) fun o2 l2 H2 w2 _=>?_
  simp(disch:=first|omega|assumption) only[go_sem]
  exact hQ _ _ H2 H2 [] nofun rfl (Low.refl _) ⟨rfl,w2.fin (by subst k4;simp[yB,Zn,ZC]) (fun _=>by subst k4;simp[tE,zeN]) (by omega) (by omega)⟩
 by_cases k5:k=5
 ·have k5':=eq_true k5
  obtain⟨n,hn⟩:∃ n,n=(decide (ps.length≠0)&&(decide (faces.length=0)&&(decide (flds.length=0)&&decide (parts.length=0)))):=⟨_,rfl⟩
  by_cases a1:ps.length=0
  ·have a1':¬ ((0:Int)<(ps.length:Int)):=by omega
   have hbv:n=false:=by rw[hn];simp[a1]
   subst k5
   simp(disch:=first|omega|assumption) only[ir114,k1,k2,k3,k4,k5',hfs,a1',go_sem]
   refine zg (yj _) w0 (by omega) (by omega) (by omega) fun o1 l1 H1 w1 _=>?_
   simp(disch:=first|omega|assumption) only[go_sem]
   refine zg (zu [105,110,112,117,116] (by simp[Lim])) w1 (by omega) (by omega) (by omega) fun o2 l2 H2 w2 _=>?_
   simp(disch:=first|omega|assumption) only[go_sem]
   refine zg (zu nm (by simp only[Lim];omega)) w2 (by omega) (by omega) (by omega) fun o3 l3 H3 w3 _=>?_
   simp(disch:=first|omega|assumption) only[go_sem]
   refine zg (zx [123] _) w3 (by omega) (by omega) (by omega) fun o4 l4 H4 w4 _=>?_
   simp(disch:=first|omega|assumption) only[go_sem]
   refine yY (zcE ps hwx.2 (by simp only[Lim];omega)) w4 (by omega) fun o5 l5 H5 w5 _=>?_
   simp(disch:=first|omega|assumption) only[go_sem]
   refine zg (zx [125] _) w5 (by omega) (by omega) (by omega) fun o6 l6 H6 w6 _=>?_
   simp(disch:=first|omega|assumption) only[go_sem]
   exact hQ _ _ H6 H6 [] nofun rfl (Low.refl _) ⟨rfl,w6.fin (by simp only[yB];rw[if_neg (by omega),if_neg (by omega),if_neg (by omega),if_pos trivial];simp only[← hn,hbv,zbJ];simp[yC,Bool.and_comm,Bool.and_left_comm]) (fun _=>by simp only[tE];rw[if_neg (by omega),if_neg (by omega),if_neg (by omega)];simp) (by simp only[bE];omega) (by simp only[bE,Al2,Al3];omega)⟩
  ·have a1':((0:Int)<(ps.length:Int))=True:=eq_true (by omega)
   have e1:IntKind.wrap .i64 ((faces.length:Int)+(flds.length:Int))=((faces.length+flds.length:Nat):Int):=by rw[wrap64 (by omega) (by omega)];omega
   have e2:IntKind.wrap .i64 (((faces.length+flds.length:Nat):Int)+(parts.length:Int))=((faces.length+flds.length+parts.length:Nat):Int):=by rw[wrap64 (by omega) (by omega)];omega
   by_cases a2:faces.length+flds.length+parts.length=0
   ·have a2':(((faces.length+flds.length+parts.length:Nat):Int)=0)=True:=eq_true (by omega)
    have hbv:n=true:=by rw[hn];simp only[ne_eq,Al0,zn];omega
    subst k5
    simp(disch:=first|omega|assumption) only[ir114,k1,k2,k3,k4,k5',hfs,a1',hfc,hfl,hfp,e1,e2,a2',go_sem]
    refine zg (yj _) w0 (by omega) (by omega) (by omega) fun o1 l1 H1 w1 _=>?_
    simp(disch:=first|omega|assumption) only[go_sem]
    refine zg (zu [105,110,112,117,116] (by simp[Lim])) w1 (by omega) (by omega) (by omega) fun o2 l2 H2 w2 _=>?_
    simp(disch:=first|omega|assumption) only[go_sem]
    refine zg (zu nm (by simp only[Lim];omega)) w2 (by omega) (by omega) (by omega) fun o3 l3 H3 w3 _=>?_
    simp(disch:=first|omega|assumption) only[go_sem]
    refine zg (zx [123] _) w3 (by omega) (by omega) (by omega) fun o4 l4 H4 w4 _=>?_
    simp(disch:=first|omega|assumption) only[go_sem]
    refine yY (zcE ps hwx.2 (by simp only[Lim];omega)) w4 (by omega) fun o5 l5 H5 w5 _=>?_
    simp(disch:=first|omega|assumption) only[go_sem]
    refine zg (zx [125] _) w5 (by omega) (by omega) (by omega) fun o6 l6 H6 w6 _=>?_
    simp(disch:=first|omega|assumption) only[go_sem]
    exact hQ _ _ H6 H6 [] nofun rfl (Low.refl _) ⟨rfl,w6.fin (by simp only[yB];rw[if_neg (by omega),if_neg (by omega),if_neg (by omega),if_pos trivial];simp only[← hn,hbv,zbJ];simp[yC,Bool.and_comm,Bool.and_left_comm]) (fun _=>by simp only[tE];rw[if_neg (by omega),if_neg (by omega),if_neg (by omega)];simp) (by simp only[bE];omega) (by simp only[bE,Al2,Al3];omega)⟩
   ·have a2':¬ (((faces.length+flds.length+parts.length:Nat):Int)=0):=by omega
    have hbv:n=false:=by rw[hn,Bool.eq_false_iff];simp only[ne_eq,Al0,zn];omega
    subst k5
    simp(disch:=first|omega|assumption) only[ir114,k1,k2,k3,k4,k5',hfs,a1',hfc,hfl,hfp,e1,e2,a2',go_sem]
    refine zg (yj _) w0 (by omega) (by omega) (by omega) fun o1 l1 H1 w1 _=>?_
    simp(disch:=first|omega|assumption) only[go_sem]
    refine zg (zu [105,110,112,117,116] (by simp[Lim])) w1 (by omega) (by omega) (by omega) fun o2 l2 H2 w2 _=>?_
    simp(disch:=first|omega|assumption) only[go_sem]
    refine zg (zu nm (by simp only[Lim];omega)) w2 (by omega) (by omega) (by omega) fun o3 l3 H3 w3 _=>?_
    simp(disch:=first|omega|assumption) only[go_sem]
    refine zg (zx [123] _) w3 (by omega) (by omega) (by omega) fun o4 l4 H4 w4 _=>?_
    simp(disch:=first|omega|assumption) only[go_sem]
    refine yY (zcE ps hwx.2 (by simp only[Lim];omega)) w4 (by omega) fun o5 l5 H5 w5 _=>?_
    simp(disch:=first|omega|assumption) only[go_sem]
    refine zg (zx [125] _) w5 (by omega) (by omega) (by omega) fun o6 l6 H6 w6 _=>?_
    simp(disch:=first|omega|assumption) only[go_sem]
    exact hQ _ _ H6 H6 [] nofun rfl (Low.refl _) ⟨rfl,w6.fin (by simp only[yB];rw[if_neg (by omega),if_neg (by omega),if_neg (by omega),if_pos trivial];simp only[← hn,hbv,zbJ];simp[yC,Bool.and_comm,Bool.and_left_comm]) (fun _=>by simp only[tE];rw[if_neg (by omega),if_neg (by omega),if_neg (by omega)];simp) (by simp only[bE];omega) (by simp only[bE,Al2,Al3];omega)⟩
 ·simp(disch:=first|omega|assumption) only[ir114,k1,k2,k3,k4,k5,go_sem]
  refine zg (yj false) w0 (by omega) (by omega) (by omega) fun o2 l2 H2 w2 _=>?_
  simp(disch:=first|omega|assumption) only[go_sem]
  exact hQ _ _ H2 H2 [] nofun rfl (Low.refl _) ⟨rfl,w2.fin (by simp[yB,k1,k2,k3,k4,k5]) (fun e=>by simp[yB,k1,k2,k3,k4,k5] at e) (by omega) (by omega)⟩
theorem zhN (s:SchD) (hw:zbu s) (hb:64*za8 s+64≤Lim):ACalls Tryz.prog 57 [.agg (YJ s)] Heap.emp (ziE fun v H'=>H'=Heap.emp∧∃ L,v=.tup [.sl .no 2 (cKs L),.bool (yu s)]∧wT L≤512*za8 s+128∧(yu s=true→L=YF s)):=by
 refine ACalls.go ir57 ck57 (Al4 _) fun KP Q hQ=>?_
 obtain⟨defs,q,m⟩:=s
 have hle:=zeV defs
 have hce:=zbz defs
 have hb':=hb
 simp only[za8,Lim] at hb'
 have ed:YJ ⟨defs,q,m⟩=[.sl .no 6 (cEs defs),.str q,.str m]:=rfl
 obtain⟨R3,hR3⟩:∃ R3,R3=(zq q&&(decide (m=[])||zq m)):=⟨_,rfl⟩
 simp(disch:=first|omega|assumption) only[ir57,ed,go_sem]
 refine goK_ret zmW fun v H1 ⟨w,hv,hW⟩=>?_
 subst hv
 simp(disch:=first|omega|assumption) only[go_sem]
 refine goA_intro fun b hb=>?_
 have hbw:b≠w:=fun e=>by subst e;rw[hW.cell] at hb;cases hb
 have w0:=(YR.refl hW).alloc (x:=.cells [.ptr w 0]) hb
 have g0:(H1.upd b (.cells [.ptr w 0])) b=some (.cells [.ptr w 0]):=upd_same ..
 simp(disch:=first|omega|assumption) only[go_sem]
 refine zg (zu [115,99,104,101,109,97] (by simp[Lim])) w0 (by omega) (by omega) (by simp only[Lim,Al3];omega) fun o1 l1 H2 w1 s1=>?_
 have g1:=s1.box w0.here.own g0 hbw
 simp(disch:=first|omega|assumption) only[g1,go_sem]
 refine zg (zx [123] _) w1 (by omega) (by omega) (by simp only[Lim,Al3];omega) fun o2 l2 H3 w2 s2=>?_
 have g2:=s2.box w1.here.own g1 hbw
 simp(disch:=first|omega|assumption) only[g2,go_sem]
 refine zg (zu [113,117,101,114,121] (by simp[Lim])) w2 (by omega) (by omega) (by simp only[Lim,Al3];omega) fun o3 l3 H4 w3 s3=>?_
 have g3:=s3.box w2.here.own g2 hbw
 simp(disch:=first|omega|assumption) only[g3,go_sem]
 refine zg (zx [58] _) w3 (by omega) (by omega) (by simp only[Lim,Al3];omega) fun o4 l4 H5 w4 s4=>?_
 have g4:=s4.box w3.here.own g3 hbw
 simp(disch:=first|omega|assumption) only[g4,go_sem]
 refine zg (zu q (by simp only[Lim];omega)) w4 (by omega) (by omega) (by simp only[Lim,Al3];omega) fun o5 l5 H6 w5 s5=>?_
 have g5:=s5.box w4.here.own g4 hbw
 by_cases hm0:m=[]
 ·have hm1:=eq_true hm0
  simp(disch:=first|omega|assumption) only[hm1,g5,go_sem]
  refine zg (zx [125] _) w5 (by omega) (by omega) (by simp only[Lim,Al3];omega) fun oB lB HB wB sB=>?_
  have gB:=sB.box w5.here.own g5 hbw
  simp(disch:=first|omega|assumption) only[gB,hce,go_sem]
  refine goL_range defs 50 (fun x:Own×List Tok=>[]) (fun done rest x H'=>YR H1 .nil w [] true 0 (10+64*bEs done) (100+q.length+m.length+512*bEs done) (R3&&done.all yB) (tRt q m++done.flatMap tE) H' x.1 x.2∧H' b=some (.cells [.ptr w 0])) (oB,lB) (by simp(disch:=first|omega|assumption) only[go_sem]) ⟨wB.castC (by omega) (by (try simp only[Al2,Al3]);omega) (by rw[hR3];simp[zcd,zdJ,zg4,hm0,yC]) (fun _=>by simp[tRt,hm0]),gB⟩ ?_ ?_
  ·rintro⟨o4,l4⟩ H4 J4 ⟨w4,g4⟩ hlt4
   simp only at w4 g4
   have er:yu ⟨defs,q,m⟩=(R3&&defs.all yB):=by rw[hR3,Bool.and_comm];rfl
   have hc4:=w4.here.cell
   have e4:=w4.eq
   rw[← er,Bool.true_and] at hc4 e4
   have hw4:=w4.wt
   simp(disch:=first|omega|assumption) only[hce,hlt4,g4,hc4,go_sem]
   exact hQ _ _ _ Heap.emp [_,_] nofun rfl (Low.of_sub nofun) ⟨rfl,l4,rfl,by simp only[zdr,za8] at hw4 ⊢;omega,fun hr=>by have:=e4 hr;rw[yW] at this;rw[this];rfl⟩
  ·rintro done x rest ⟨o4,l4⟩ H4 J4 hd hlt4 hlt5 ⟨w4,g4⟩ hJ4
   simp only at w4 g4
   have hg:=zbw hd
   have hbm:=zcC done x rest
   rw[← hd] at hbm
   have hwx:=hw x (by rw[hd];simp)
   have hfw:=zmr x hwx (by simp only[Lim];omega)
   obtain⟨k,nm,faces,flds,parts,ps⟩:=x
   rw[zcr] at hg hfw
   simp(disch:=first|omega|assumption) only[hce,hlt4,hg,go_sem]
   refine goA_intro fun b6 hb6=>?_
   have h6:b6≠b:=fun e=>by subst e;rw[g4] at hb6;cases hb6
   have w5:=w4.alloc (x:=.cells [.int .i64 k,.str nm,.sl .no 1 (cT faces),.sl .no 6 (cLs flds),.sl .no 1 (cT parts),.sl .no 10 (cWs ps)]) hb6
   have g5:(H4.upd b6 (.cells [.int .i64 k,.str nm,.sl .no 1 (cT faces),.sl .no 6 (cLs flds),.sl .no 1 (cT parts),.sl .no 10 (cWs ps)])) b=some (.cells [.ptr w 0]):=by rw[upd_ne (Ne.symm h6)];exact g4
   simp(disch:=first|omega|assumption) only[g5,go_sem]
   refine yY hfw w5 (by simp only[Lim,Al3];omega) fun o6 l6 H6 w6 s6=>?_
   have g6:=s6.box w5.here.own g5 hbw
   simp(disch:=first|omega|assumption) only[wrap64,go_sem]
   exact goJ (hJ4 (o6,l6) H6 ⟨w6.cast (by rw[zaX];omega) (by rw[zaX];omega) (by simp[yC]) (by simp),g6⟩) (by simp(disch:=first|omega|assumption) only[go_sem])
 ·simp(disch:=first|omega|assumption) only[hm0,g5,go_sem]
  refine zg (zu [109,117,116,97,116,105,111,110] (by simp[Lim])) w5 (by omega) (by omega) (by simp only[Lim,Al3];omega) fun o6 l6 H7 w6 s6=>?_
  have g6:=s6.box w5.here.own g5 hbw
  simp(disch:=first|omega|assumption) only[g6,go_sem]
  refine zg (zx [58] _) w6 (by omega) (by omega) (by simp only[Lim,Al3];omega) fun o7 l7 H8 w7 s7=>?_
  have g7:=s7.box w6.here.own g6 hbw
  simp(disch:=first|omega|assumption) only[g7,go_sem]
  refine zg (zu m (by simp only[Lim];omega)) w7 (by omega) (by omega) (by simp only[Lim,Al3];omega) fun o8 l8 H9 w8 s8=>?_
  have g8:=s8.box w7.here.own g7 hbw
  simp(disch:=first|omega|assumption) only[g8,go_sem]
  refine zg (zx [125] _) w8 (by omega) (by omega) (by simp only[Lim,Al3];omega) fun oB lB HB wB sB=>?_
  have gB:=sB.box w8.here.own g8 hbw
  simp(disch:=first|omega|assumption) only[gB,hce,go_sem]
  refine goL_range defs 50 (fun x:Own×List Tok=>[]) (fun done rest x H'=>YR H1 .nil w [] true 0 (10+64*bEs done) (100+q.length+m.length+512*bEs done) (R3&&done.all yB) (tRt q m++done.flatMap tE) H' x.1 x.2∧H' b=some (.cells [.ptr w 0])) (oB,lB) (by simp(disch:=first|omega|assumption) only[go_sem]) ⟨wB.castC (by omega) (by (try simp only[Al2,Al3]);omega) (by rw[hR3];simp[zcd,zdJ,zg4,hm0,yC]) (fun _=>by simp[tRt,hm0]),gB⟩ ?_ ?_
  ·rintro⟨o4,l4⟩ H4 J4 ⟨w4,g4⟩ hlt4
   simp only at w4 g4
   have er:yu ⟨defs,q,m⟩=(R3&&defs.all yB):=by rw[hR3,Bool.and_comm];rfl
   have hc4:=w4.here.cell
   have e4:=w4.eq
   rw[← er,Bool.true_and] at hc4 e4
   have hw4:=w4.wt
   simp(disch:=first|omega|assumption) only[hce,hlt4,g4,hc4,go_sem]
   exact hQ _ _ _ Heap.emp [_,_] nofun rfl (Low.of_sub nofun) ⟨rfl,l4,rfl,by simp only[zdr,za8] at hw4 ⊢;omega,fun hr=>by have:=e4 hr;rw[yW] at this;rw[this];rfl⟩
  ·rintro done x rest ⟨o4,l4⟩ H4 J4 hd hlt4 hlt5 ⟨w4,g4⟩ hJ4
   simp only at w4 g4
   have hg:=zbw hd
   have hbm:=zcC done x rest
   rw[← hd] at hbm
   have hwx:=hw x (by rw[hd];simp)
   have hfw:=zmr x hwx (by simp only[Lim];omega)
   obtain⟨k,nm,faces,flds,parts,ps⟩:=x
   rw[zcr] at hg hfw
   simp(disch:=first|omega|assumption) only[hce,hlt4,hg,go_sem]
   refine goA_intro fun b6 hb6=>?_
   have h6:b6≠b:=fun e=>by subst e;rw[g4] at hb6;cases hb6
   have w5:=w4.alloc (x:=.cells [.int .i64 k,.str nm,.sl .no 1 (cT faces),.sl .no 6 (cLs flds),.sl .no 1 (cT parts),.sl .no 10 (cWs ps)]) hb6
   have g5:(H4.upd b6 (.cells [.int .i64 k,.str nm,.sl .no 1 (cT faces),.sl .no 6 (cLs flds),.sl .no 1 (cT parts),.sl .no 10 (cWs ps)])) b=some (.cells [.ptr w 0]):=by rw[upd_ne (Ne.symm h6)];exact g4
   simp(disch:=first|omega|assumption) only[g5,go_sem]
   refine yY hfw w5 (by simp only[Lim,Al3];omega) fun o6 l6 H6 w6 s6=>?_
   have g6:=s6.box w5.here.own g5 hbw
   simp(disch:=first|omega|assumption) only[wrap64,go_sem]
   exact goJ (hJ4 (o6,l6) H6 ⟨w6.cast (by rw[zaX];omega) (by rw[zaX];omega) (by simp[yC]) (by simp),g6⟩) (by simp(disch:=first|omega|assumption) only[go_sem])
theorem zlz (s:SchD) (hw:zbu s) (hb:64*za8 s+64≤Lim):Pure Tryz.prog 28 [.agg (YJ s)] (.bool (yu s)):=by
 refine Pure.go ir28 ck28 (Al4 _) fun KP Q hQ=>?_
 have ed:YJ s=[.sl .no 6 (cEs s.defs),.str s.q,.str s.m]:=rfl
 have hT:=zhN s hw hb
 rw[ed] at hT ⊢
 simp(disch:=first|omega|assumption) only[ir28,go_sem]
 refine goK_ret hT fun v H1 ⟨hH,L,hv,hL,hr⟩=>?_
 subst hv;subst hH
 simp(disch:=first|omega|assumption) only[go_sem]
 exact hQ _ _ _ _ nofun rfl (by simp[tupOf,envOf,AV.strip,AV.strip1])
noncomputable def yQ (s:SchD):List UInt8×Bool:=if yu s then zaZ s else ([],false)
theorem zlV (s:SchD) (hw:zbu s) (hb:8192*za8 s+8192≤Lim):Pure Tryz.prog 23 [.agg (YJ s)] (.tup [.str (yQ s).1,.bool (yQ s).2]):=by
 refine Pure.go ir23 ck23 (Al4 _) fun KP Q hQ=>?_
 have ed:YJ s=[.sl .no 6 (cEs s.defs),.str s.q,.str s.m]:=rfl
 have hT:=zhN s hw (by simp only[Lim] at hb ⊢;omega)
 rw[ed] at hT ⊢
 simp(disch:=first|omega|assumption) only[ir23,go_sem]
 refine goK_ret hT fun v H1 ⟨hH,L,hv,hL,hrL⟩=>?_
 subst hv;subst hH
 have hp:=zkD L (by simp only[Lim] at hb ⊢;omega)
 simp(disch:=first|omega|assumption) only[go_sem]
 refine goK_pure hp ?_
 cases hr:yu s with
 | false =>
  simp(disch:=first|omega|assumption) only[go_sem]
  exact hQ _ _ _ _ nofun rfl (by simp[tupOf,envOf,AV.strip,AV.strip1,yQ,hr])
 | true =>
  obtain rfl:=hrL hr
  cases h2:(Zz (YF s)).2 with
  | false =>
   simp(disch:=first|omega|assumption) only[go_sem]
   exact hQ _ _ _ _ nofun rfl (by simp[tupOf,envOf,AV.strip,AV.strip1,yQ,hr,zaZ,h2])
  | true =>
   by_cases hl:(Zz (YF s)).1.length≤8192
   ·have hl':¬ ((8192:Int)<((Zz (YF s)).1.length:Int)):=by omega
    simp(disch:=first|omega|assumption) only[hl',go_sem]
    exact hQ _ _ _ _ nofun rfl (by simp[tupOf,envOf,AV.strip,AV.strip1,yQ,hr,zaZ,h2,hl])
   ·have hl':((8192:Int)<((Zz (YF s)).1.length:Int))=True:=eq_true (by omega)
    simp(disch:=first|omega|assumption) only[hl',go_sem]
    exact hQ _ _ _ _ nofun rfl (by simp[tupOf,envOf,AV.strip,AV.strip1,yQ,hr,zaZ,h2,hl])
def l8L (x:FldD):Nat:=1+x.nm.length+lWs x.ps+lDs x.dirs
def zgV (l:List FldD):Nat:=(l.map l8L).sum
def l8E (x:DefD):Nat:=1+x.nm.length+bT x.faces+bT x.parts+lWs x.ps+zgV x.flds
def zcx (l:List DefD):Nat:=(l.map l8E).sum
def zfd (s:SchD):Bool:=decide (zcx s.defs≤4000)
theorem zlD (x:FldD):l8L x≤2*bL x:=by
 have h1:=zeL x.dirs
 have h2:=zck x.ps
 simp only[l8L,bL];omega
theorem zhR (l:List FldD):zgV l≤2*bLs l:=zdc zlD l
theorem zj9 (x:DefD):l8E x≤2*bE x:=by
 have h1:=zhR x.flds
 have h2:=zck x.ps
 simp only[l8E,bE];omega
theorem zhQ (l:List DefD):zcx l≤2*bEs l:=zdc zj9 l
theorem zg7 (l:List DirD) (hb:bDs l≤Lim):Pure Tryz.prog 56 [.sl .no 2 (cDs l)] (.int .i64 (lDs l)):=by
 refine Pure.go ir56 ck56 (Al4 _) fun KP Q hQ=>?_
 have h1:=zbE l
 have hl:=zeP l
 have hle:=zeL l
 have hb':=hb
 simp only[Lim] at hb'
 simp(disch:=first|omega|assumption) only[ir56,h1,go_sem]
 refine goL_range l 4 (fun n:Int=>[(3,.int .i64 n)]) (fun done rest n H=>n+lDs rest=lDs l) 0 (by simp(disch:=first|omega|assumption) only[go_sem]) (by simp) ?_ ?_
 ·rintro n H J hn hlt
  simp only[lDs,List.map_nil,List.sum_nil] at hn
  simp(disch:=first|omega|assumption) only[h1,hlt,go_sem]
  have:n=((lDs l:Nat):Int):=by simp only[lDs];omega
  exact hQ _ _ _ _ nofun rfl (by simp[tupOf,envOf,AV.strip,AV.strip1,this])
 ·rintro done x rest n H J hd hlt _ hn hJ
  have hg:=zcB hd
  have hbm:=zfe done x rest
  rw[← hd] at hbm
  obtain⟨nm,args⟩:=x
  simp only[bD] at hbm
  have hn':n+(2+nm.length+bMs args+lDs rest:Nat)=lDs l:=by rw[← hn];simp[lDs,lD]
  have hsz:bV (.mk 0 0 [] [] args)=1+bMs args:=by simp[bV,bVs]
  have hp:(0:Int)≤n:=by
   have:=zeL rest
   have e:lDs l=lDs done+lDs (⟨nm,args⟩::rest):=by rw[hd];simp[lDs]
   omega
  simp(disch:=first|omega|assumption) only[h1,hlt,hg,cD,wrap64,go_sem]
  refine goK_pure (Pure.low (zk1 (.mk 0 0 [] [] args) (by rw[hsz];simp only[Lim];omega))) ?_
  rw[hsz]
  simp(disch:=first|omega|assumption) only[h1,hlt,hg,cD,wrap64,go_sem]
  exact goJ (hJ (n+1+nm.length+((1+bMs args:Nat):Int)) _ (by omega)) (by simp(disch:=first|omega|assumption) only[wrap64,go_sem])
theorem zcq (l:List (List UInt8)) (hb:bT l≤Lim):Pure Tryz.prog 54 [.sl .no 1 (cT l)] (.int .i64 (bT l)):=by
 refine Pure.go ir54 ck54 (Al4 _) fun KP Q hQ=>?_
 have h1:=yd l
 have hl:=YL l
 have hb':=hb
 simp only[Lim] at hb'
 simp(disch:=first|omega|assumption) only[ir54,h1,go_sem]
 refine goL_range l 4 (fun n:Int=>[(3,.int .i64 n)]) (fun done rest n H=>n=bT done) 0 (by simp(disch:=first|omega|assumption) only[go_sem]) (by simp[bT]) ?_ ?_
 ·rintro n H J hn hlt
  subst hn
  simp(disch:=first|omega|assumption) only[h1,hlt,go_sem]
  exact hQ _ _ _ _ nofun rfl (by simp[tupOf,envOf,AV.strip,AV.strip1])
 ·rintro done x rest n H J hd hlt _ hn hJ
  subst hn
  have hg:=zb0 hd
  have hbm:=zcW done x rest
  rw[← hd] at hbm
  simp(disch:=first|omega|assumption) only[h1,hlt,hg,wrap64,go_sem]
  exact goJ (hJ ((bT done:Int)+1+x.length) _ (by simp[bT];omega)) (by simp(disch:=first|omega|assumption) only[wrap64,go_sem])
theorem zbA (l:List VarD) (hb:bWs l≤Lim):Pure Tryz.prog 55 [.sl .no 10 (cWs l)] (.int .i64 (lWs l)):=by
 refine Pure.go ir55 ck55 (Al4 _) fun KP Q hQ=>?_
 have h1:=Yx l
 have hl:=Y0 l
 have hle:=zck l
 have hb':=hb
 simp only[Lim] at hb'
 simp(disch:=first|omega|assumption) only[ir55,h1,go_sem]
 refine goL_range l 4 (fun n:Int=>[(3,.int .i64 n)]) (fun done rest n H=>n=lWs done) 0 (by simp(disch:=first|omega|assumption) only[go_sem]) (by simp[lWs]) ?_ ?_
 ·rintro n H J hn hlt
  subst hn
  simp(disch:=first|omega|assumption) only[h1,hlt,go_sem]
  exact hQ _ _ _ _ nofun rfl (by simp[tupOf,envOf,AV.strip,AV.strip1])
 ·rintro done x rest n H J hd hlt _ hn hJ
  subst hn
  have hg:=zfs hd
  have hbm:=zfa done x rest
  rw[← hd] at hbm
  have hld:=zck done
  obtain⟨vn,⟨tn,tl,tm⟩,vh,vd⟩:=x
  have hbx:bW ⟨vn,⟨tn,tl,tm⟩,vh,vd⟩=vn.length+tn.length+bV vd:=rfl
  rw[zeB] at hg
  simp only at hg
  simp(disch:=first|omega|assumption) only[ze,zc,za,zf,zd,zb,zh,h1,hlt,hg,wrap64,go_sem]
  refine goK_pure (zk1 vd (by simp only[Lim];omega)) ?_
  simp(disch:=first|omega|assumption) only[ze,zc,za,zf,zd,zb,zh,h1,hlt,hg,wrap64,go_sem]
  exact goJ (hJ ((lWs done:Int)+1+vn.length+((bV vd:Nat):Int)) _ (by simp[lWs,lW];omega)) (by simp(disch:=first|omega|assumption) only[wrap64,go_sem])
theorem zkT (s:SchD) (hb:za8 s≤Lim):Pure Tryz.prog 22 [.agg (YJ s)] (.bool (zfd s)):=by
 refine Pure.go ir22 ck22 (Al4 _) fun KP Q hQ=>?_
 obtain⟨defs,q,m⟩:=s
 simp only[za8] at hb
 have h1:=zbz defs
 have hl:=zeV defs
 have hle:=zhQ defs
 have hb':=hb
 simp only[Lim] at hb'
 have ed:YJ ⟨defs,q,m⟩=[.sl .no 6 (cEs defs),.str q,.str m]:=rfl
 simp(disch:=first|omega|assumption) only[ir22,ed,h1,go_sem]
 refine goL_range defs 4 (fun n:Int=>[(3,.int .i64 n)]) (fun done rest n H=>n=zcx done) 0 (by simp(disch:=first|omega|assumption) only[go_sem]) (by simp[zcx]) ?_ ?_
 ·rintro n H J hn hlt
  subst hn
  by_cases h4:zcx defs≤4000
  ·have h4':((zcx defs:Int)≤4000)=True:=eq_true (by omega)
   simp(disch:=first|omega|assumption) only[h1,hlt,h4',go_sem]
   exact hQ _ _ _ _ nofun rfl (by simp[tupOf,envOf,AV.strip,AV.strip1,zfd,h4])
  ·have h4':¬ ((zcx defs:Int)≤4000):=by omega
   simp(disch:=first|omega|assumption) only[h1,hlt,h4',go_sem]
   exact hQ _ _ _ _ nofun rfl (by simp[tupOf,envOf,AV.strip,AV.strip1,zfd,h4])
 ·rintro done x rest n H J hd hlt _ hn hJ
  subst hn
  have hg:=zbw hd
  have hbm:=zcC done x rest
  rw[← hd] at hbm
  have hld:=zhQ done
  have hxe:=zj9 x
  obtain⟨k,nm,faces,flds,parts,ps⟩:=x
  simp only[bE] at hbm
  simp only[l8E,bE] at hxe
  have hfl:=YA flds
  have hfb:=zaS flds
  have hpl:=zck ps
  rw[zcr] at hg
  simp(disch:=first|omega|assumption) only[h1,hlt,hg,go_sem]
  refine goA_intro fun b5 hb5=>?_
  obtain⟨cs,hcs⟩:∃ cs,cs=[AV.int .i64 k,.str nm,.sl .no 1 (cT faces),.sl .no 6 (cLs flds),.sl .no 1 (cT parts),.sl .no 10 (cWs ps)]:=⟨_,rfl⟩
  simp(disch:=first|omega|assumption) only[wrap64,go_sem]
  refine goK_pure (zcq faces (by simp only[Lim];omega)) ?_
  simp(disch:=first|omega|assumption) only[wrap64,go_sem]
  refine goK_pure (zcq parts (by simp only[Lim];omega)) ?_
  simp(disch:=first|omega|assumption) only[wrap64,go_sem]
  refine goK_pure (zbA ps (by simp only[Lim];omega)) ?_
  simp(disch:=first|omega|assumption) only[wrap64,hfl,go_sem]
  refine goL_range flds 6 (fun n:Int=>[(3,.int .i64 n)]) (fun dn rs n H'=>n=(zcx done:Int)+1+nm.length+bT faces+bT parts+lWs ps+zgV dn∧H' b5=some (.cells [AV.int .i64 k,.str nm,.sl .no 1 (cT faces),.sl .no 6 (cLs flds),.sl .no 1 (cT parts),.sl .no 10 (cWs ps)])) ((zcx done:Int)+1+nm.length+bT faces+bT parts+lWs ps) (by simp(disch:=first|omega|assumption) only[wrap64,go_sem]) ⟨by simp[zgV],upd_same ..⟩ ?_ ?_
  ·rintro n H4 J4 ⟨hn,g4⟩ hlt4
   subst hn
   simp(disch:=first|omega|assumption) only[hfl,hlt4,g4,wrap64,go_sem]
   exact goJ (hJ ((zcx done:Int)+1+nm.length+bT faces+bT parts+lWs ps+zgV flds) _ (by simp[zcx,l8E];omega)) (by simp(disch:=first|omega|assumption) only[wrap64,go_sem])
  ·rintro dn y rs n H4 J4 hdn hlt4 _ ⟨hn,g4⟩ hJ4
   subst hn
   have hgy:=zft hdn
   have hby:=ze2 dn y rs
   rw[← hdn] at hby
   have hldn:=zhR dn
   obtain⟨fn,fps,⟨tn,tl,tm⟩,dirs⟩:=y
   simp only[bL] at hby
   have hd1:=zeL dirs
   have hd2:=zck fps
   rw[zjc] at hgy
   simp(disch:=first|omega|assumption) only[hfl,hlt4,g4,hgy,wrap64,go_sem]
   refine goK_pure (zbA fps (by simp only[Lim];omega)) ?_
   simp(disch:=first|omega|assumption) only[hfl,hlt4,g4,hgy,wrap64,go_sem]
   refine goK_pure (zg7 dirs (by simp only[Lim];omega)) ?_
   simp(disch:=first|omega|assumption) only[hfl,hlt4,g4,hgy,wrap64,go_sem]
   exact goJ (hJ4 ((zcx done:Int)+1+nm.length+bT faces+bT parts+lWs ps+zgV dn+1+fn.length+lWs fps+lDs dirs) _ ⟨by simp[zgV,l8L];omega,g4⟩) (by simp(disch:=first|omega|assumption) only[wrap64,go_sem])
abbrev Y6 (H:Heap) (r:Nat) (L t:TS) (dp:Nat):Prop:=∃ p,p++t=L∧H r=some (prc L p dp)
section
variable {H:Heap} {r:Nat} {L t:TS} {dp:Nat}
theorem za2 (hl:wT L≤zH):L.length≤zH:=Nat.le_trans (zdy L) hl
theorem zlr (h:Y6 H r L t dp) (m:List UInt8):ACalls Tryz.prog 158 [.ptr r 0,.str m] H (fun e H'=>∃ v,e=.ret v∧(v=.bool (isW m t)∧H'=H)) :=
 let ⟨_,hp,hr⟩:=h;zmj hp hr m
theorem zfX (h:Y6 H r L t dp) (hl:wT L≤zH) (m:List UInt8):ACalls Tryz.prog 98 [.ptr r 0,.str m] H (fun e H'=>∃ v,e=.ret v∧(v=.bool (isP m t)∧Pat H r L (Zb m t) dp H')) :=
 let ⟨_,hp,hr⟩:=h;zbb hp (za2 hl) hr m
theorem Ya (h:Y6 H r L t dp) (hl:wT L≤zH) (m:List UInt8):ACalls Tryz.prog 100 [.ptr r 0,.str m] H (fun e H'=>∃ v,e=.ret v∧(v=.bool (isW m t)∧Pat H r L (zL m t) dp H')) :=
 let ⟨_,hp,hr⟩:=h;zmz hp (za2 hl) hr m
theorem YV (h:Y6 H r L t dp) (hl:wT L≤zH) (m:List UInt8):ACalls Tryz.prog 84 [.ptr r 0,.str m] H (RpE H r L dp (yr m t) fun _=>.tup []) :=
 let ⟨_,hp,hr⟩:=h;zff hp (za2 hl) hr m
theorem zaj (h:Y6 H r L t dp) (hl:wT L≤zH):ACalls Tryz.prog 85 [.ptr r 0] H (RpE H r L dp (z8 t) AV.str) :=
 let ⟨_,hp,hr⟩:=h;zdB hp (za2 hl) hr
theorem zi4 (h:Y6 H r L t dp) (hl:wT L≤zH):ACalls Tryz.prog 38 [.ptr r 0] H (RpE H r L dp (zac 4 t) (fun x=>.agg (cTy x))) :=
 let ⟨_,hp,hr⟩:=h;zl4 hp hl hr
theorem zlK (h:Y6 H r L t (16-16)) (hl:wT L≤zH):ACalls Tryz.prog 33 [.ptr r 0,.bool true] H (RpE H r L (16-16) (yA true 16 t) fun v=>.agg (cV v)) :=
 let ⟨p,hp,hr⟩:=h;zcg true 16 (Al4 _) _ r L p t hp hl hr
theorem zld (h:Y6 H r L t (16-16)) (hl:wT L≤zH):ACalls Tryz.prog 196 [.ptr r 0,.bool true] H (RpE H r L (16-16) (zay true 16 t) (fun l=>.sl .no 2 (cDs l))) :=
 let ⟨_,hp,hr⟩:=h;zlN (Al4 _) hp hl hr
end
theorem ZU (s:List UInt8) (t:TS):zy (wk s::t)=wk s::t:=by simp[zy,yP,wk]
theorem zha (x:VarD) (h:YN x=true) (hw:wfW x) (t:TS) (h1:isP [33] t=false) (h2:isP [61] t=false):yo (tPa x++t)=.ok (x,t):=by
 obtain⟨nm,ty,has,d⟩:=x
 simp only[YN,Al0] at h
 obtain⟨_,r1,r2⟩:=h
 cases has with
 | true =>
  simp only[zcM,if_true] at r2
  have e:tPa ⟨nm,ty,true,d⟩++t=wk nm::pk [58]::(tTy ty++(pk [61]::(zF d++t))):=by simp[tPa,tDf]
  rw[e]
  unfold yo
  simp only[ZU,ye,zi,zY,zbr ty r1 _ (show isP [33] (pk [61]::(zF d++t))=false by rw[yf];decide),yf,decide_true,if_true,List.tail_cons,zdf (dp:=0) (k:=16) (by decide) r2 hw.2.2 t]
 | false =>
  simp only[zcM,Al7,if_false] at r2
  have e:tPa ⟨nm,ty,false,d⟩++t=wk nm::pk [58]::(tTy ty++t):=by simp[tPa,tDf]
  rw[e,zmy r2]
  unfold yo
  simp only[ZU,ye,zi,zY,zbr ty r1 _ h1,h2,Al7,if_false]
theorem zg8 (x:VarD) (t:TS) (m:List UInt8):isP m (tPa x++t)=false:=by simp only[tPa,Al6,zbV]
theorem zdE (m:List UInt8) (hm:m≠[33]) (hm2:m≠[61]) (l:List VarD) (hl:l≠[]) (h:l.all YN=true) (hw:∀ x∈l,wfW x) (t:TS):yw m yo (l.flatMap tPa++pk m::t)=.ok (l,t) :=
 Yy (F:=fun t=>isP [33] t=false∧isP [61] t=false) (fun t=>by simp only[yf];exact⟨decide_eq_false hm,decide_eq_false hm2⟩) l hl (fun x _ t=>⟨zg8 x t _,zg8 x t _⟩) (fun x _ t=>zg8 x t _)
  (fun x hx t ht=>zha x (yJ.1 h x hx) (hw x hx) t ht.1 ht.2) t
def zl8 (t:TS):Prop:=isP [33] t=false∧isP [40] t=false∧isP [64] t=false
theorem zhq (x:FldD) (h:Z6 x=true) (hw:wfL x) (t:TS) (ht:zl8 t):yZ (tL x++t)=.ok (x,t):=by
 obtain⟨nm,ps,ty,dirs⟩:=x
 simp only[Z6,Al0] at h
 obtain⟨_,r1,r2,r3⟩:=h
 obtain⟨w1,_,_,w4⟩:=hw
 obtain⟨t1,t2,t3⟩:=ht
 have hd:=zih (k:=16) (dp:=0) (by decide) dirs r3 w4 t t2 t3
 have hb:isP [33] (tDs dirs++t)=false:=zj6 _ (by decide) _ _ t1
 have hty:=zbr ty r2 (tDs dirs++t) hb
 have e:tL ⟨nm,ps,ty,dirs⟩++t=wk nm::(tPb ps++pk [58]::(tTy ty++(tDs dirs++t))):=by simp[tL]
 rw[e]
 unfold yZ
 simp only[ZU,zY,zi]
 unfold tPb
 by_cases hl:ps.length=0
 ·obtain rfl:ps=[]:=Za.1 hl
  simp only[Al3,if_true,yW,yf]
  rw[decide_eq_false (by decide)]
  simp only[Al7,if_false,zi,ye,hty,hd]
 ·have hne:ps≠[]:=fun e=>hl (by rw[e];rfl)
  rw[if_neg hl]
  simp only[Al6,yf,decide_true,if_true,List.tail_cons,Yh,yW]
  rw[zdE _ (by decide) (by decide) ps hne r1 w1]
  simp only[zi,ye,hty,hd]
theorem zht (x:FldD) (t:TS) (m:List UInt8):isP m (tL x++t)=false:=by simp only[tL,Al6,zbV]
theorem zg6 (l:List FldD) (hl:l≠[]) (h:l.all Z6=true) (hw:∀ x∈l,wfL x) (t:TS):yw [125] yZ (l.flatMap tL++pk [125]::t)=.ok (l,t) :=
 Yy (F:=zl8) (fun t=>by simp only[zl8,yf];decide) l hl (fun x _ t=>⟨zht x t _,zht x t _,zht x t _⟩) (fun x _ t=>zht x t _)
  (fun x hx t ht=>zhq x (yJ.1 h x hx) (hw x hx) t ht) t
theorem zcs (m:List UInt8):∀(r:List (List UInt8)) (n:Nat) (l:List (List UInt8)) (t:TS),r.length<n→isP m t=false→yn m z8 n l ((r.flatMap fun s=>[pk m,wk s])++t)=.ok (l++r,t)
 | [],n,l,t,hn,ht=>by
  obtain⟨k,rfl⟩:∃ k,n=k+1:=⟨n-1,by omega⟩
  simp[yn,ht]
 | s::r,n,l,t,hn,ht=>by
  simp only[Al2] at hn
  obtain⟨k,rfl⟩:∃ k,n=k+1:=⟨n-1,by omega⟩
  simp only[List.flatMap_cons,Al6,yW,yn,yf,decide_true,if_true,List.tail_cons,zY,zi]
  rw[zcs m r k _ t (by omega) ht]
  simp
theorem zcX (m:List UInt8) (l:List (List UInt8)) (hl:l≠[]) (t:TS) (ht:isP m t=false):ZP m (tNs m l++t)=.ok (l,t):=by
 cases l with
 | nil=>exact absurd rfl hl
 | cons s r =>
  unfold ZP
  simp only[tNs,Al6,zbV,Al7,if_false,zY,zi]
  have e:r.length≤(r.flatMap fun s=>[pk m,wk s]).length:=Zx r fun x _ e=>by simp at e
  rw[zcs m r _ _ t (by rw[Al5];omega) ht]
  simp
theorem ziJ (s:List UInt8) (h:yS s=true) (t:TS):ZR (wk s::t)=.ok (s,t):=by
 unfold ZR
 simp only[yS,Al0,zn] at h
 simp only[ZU,YM,h.1,h.2.1,h.2.2,decide_false,Al7,or_self,if_false,zY]
theorem ziz (l:List (List UInt8)) (hl:l≠[]) (h:l.all yS=true) (t:TS):yw [125] ZR (l.map wk++pk [125]::t)=.ok (l,t):=by
 have e:l.map wk=l.flatMap fun s=>[wk s]:=by
  clear hl h
  induction l with
  | nil=>rfl
  | cons s r ih=>simp[ih]
 rw[e]
 exact Yy (tk:=fun s=>[wk s]) (F:=fun _=>True) (fun t=>trivial) l hl (fun x _ t=>trivial) (fun x _ t=>by simp only[Al6,yW,zbV]) (fun x hx t ht=>ziJ x (yJ.1 h x hx) t) t
def zif (t:TS):Prop:=isP [124] t=false
theorem zjm (d:SR) (x:DefD) (h:yB x=true) (hw:wfE x) (t:TS) (ht:zif t):zz d (tE x++t)=.ok (Zt d x,t):=by
 obtain⟨k,nm,faces,flds,parts,ps⟩:=x
 simp only[yB,Al0] at h
 obtain⟨hn,h⟩:=h
 obtain⟨w1,w2⟩:=hw
 by_cases hk:k=1∨k=2
 ·rw[if_pos hk] at h
  simp only[Al0,zn] at h
  obtain⟨h1,h2,h3,h4,h5⟩:=h
  obtain rfl:parts=[]:=Za.1 h4
  obtain rfl:ps=[]:=Za.1 h5
  have hne:flds≠[]:=fun e=>h3 (by rw[e];rfl)
  have hf:=zg6 flds hne h2 w1 t
  have ho:za3 k (wk nm::((if faces.length=0 then [] else wk [105,109,112,108,101,109,101,110,116,115]::tNs [38] faces)++(pk [123]::(flds.flatMap tL++pk [125]::t))))=.ok (⟨k,nm,faces,flds,[],[]⟩,t):=by
   unfold za3
   simp only[zY,zi]
   by_cases hl:faces.length=0
   ·obtain rfl:faces=[]:=Za.1 hl
    simp only[Al3,if_true,yW,zjW,Al7,if_false,zi,ye,hf]
   ·have hfn:faces≠[]:=fun e=>hl (by rw[e];rfl)
    rw[if_neg hl]
    simp only[Al6,YM,decide_true,if_true,List.tail_cons]
    rw[zcX [38] faces hfn (pk [123]::(flds.flatMap tL++pk [125]::t)) (by rw[yf];decide)]
    simp only[zi,ye,hf]
  have e:tE ⟨k,nm,faces,flds,[],[]⟩++t=wk (if k=1 then [116,121,112,101] else [105,110,116,101,114,102,97,99,101])::(wk nm::((if faces.length=0 then [] else wk [105,109,112,108,101,109,101,110,116,115]::tNs [38] faces)++(pk [123]::(flds.flatMap tL++pk [125]::t)))):=by
   simp only[tE];rw[if_pos hk];simp
  rw[e]
  unfold zz Yi
  rw[ZU]
  rcases hk with rfl|rfl
  ·simp only[if_true,YM,List.tail_cons,ho,zi]
   rw[if_neg (by rintro⟨_,h⟩;revert h;decide),if_pos (by decide)]
  ·simp only[show ¬ ((2:Int)=1) by decide,if_false,YM,List.tail_cons,ho,zi]
   rw[if_neg (by rintro⟨_,h⟩;revert h;decide),if_neg (by decide),if_pos (by decide)]
 rw[if_neg hk] at h
 by_cases h3:k=3
 ·subst h3
  simp only[if_true,Al0,zn] at h
  obtain⟨g1,g2,g3,g4,g5⟩:=h
  obtain rfl:faces=[]:=Za.1 g3
  obtain rfl:flds=[]:=Za.1 g4
  obtain rfl:ps=[]:=Za.1 g5
  have hne:parts≠[]:=fun e=>g2 (by rw[e];rfl)
  have e:tE ⟨3,nm,[],[],parts,[]⟩++t=wk [117,110,105,111,110]::wk nm::pk [61]::(tNs [124] parts++t):=by
   simp only[tE];rw[if_neg (by decide),if_pos trivial];simp
  rw[e]
  unfold zz Yi ZQ
  rw[ZU]
  simp only[YM,List.tail_cons,zY,zi,ye,zcX [124] parts hne t ht]
  rw[if_neg (by rintro⟨_,h⟩;revert h;decide),if_neg (by decide),if_neg (by decide),if_pos (by decide)]
 rw[if_neg h3] at h
 by_cases h4:k=4
 ·subst h4
  simp only[if_true,Al0,zn] at h
  obtain⟨⟨g1,g1'⟩,g2,g3,g4,g5⟩:=h
  obtain rfl:faces=[]:=Za.1 g3
  obtain rfl:flds=[]:=Za.1 g4
  obtain rfl:ps=[]:=Za.1 g5
  have hne:parts≠[]:=fun e=>g2 (by rw[e];rfl)
  have e:tE ⟨4,nm,[],[],parts,[]⟩++t=wk [101,110,117,109]::wk nm::pk [123]::(parts.map wk++pk [125]::t):=by
   simp only[tE];rw[if_neg (by decide),if_neg (by decide),if_pos trivial];simp
  rw[e]
  unfold zz Yi zae
  rw[ZU]
  simp only[YM,List.tail_cons,zY,zi,ye,ziz parts hne g1' t]
  rw[if_neg (by rintro⟨_,h⟩;revert h;decide),if_neg (by decide),if_neg (by decide),if_neg (by decide),if_pos (by decide)]
 rw[if_neg h4] at h
 by_cases h5:k=5
 ·subst h5
  simp only[if_true,Al0,zn] at h
  obtain⟨g1,g2,g3,g4,g5⟩:=h
  obtain rfl:faces=[]:=Za.1 g3
  obtain rfl:flds=[]:=Za.1 g4
  obtain rfl:parts=[]:=Za.1 g5
  have hne:ps≠[]:=fun e=>g2 (by rw[e];rfl)
  have e:tE ⟨5,nm,[],[],[],ps⟩++t=wk [105,110,112,117,116]::wk nm::pk [123]::(ps.flatMap tPa++pk [125]::t):=by
   simp only[tE];rw[if_neg (by decide),if_neg (by decide),if_neg (by decide)];simp
  rw[e]
  unfold zz Yi ZN
  rw[ZU]
  simp only[YM,List.tail_cons,zY,zi,ye,zdE [125] (by decide) (by decide) ps hne g1 w2 t]
  rw[if_neg (by rintro⟨_,h⟩;revert h;decide),if_neg (by decide),if_neg (by decide),if_neg (by decide),if_neg (by decide),if_pos (by decide)]
 ·rw[if_neg h5] at h;cases h
theorem zla (x:DefD) (t:TS):(hdT (tE x++t)).k=2:=by
 unfold tE
 repeat' split
 all_goals rfl
theorem zl7 (l:List DefD) (t:TS) (ht:zif t):zif (l.flatMap tE++t):=by
 cases l with
 | nil=>exact ht
 | cons x r =>
  have:=zla x (r.flatMap tE++t)
  simp only[zif,List.flatMap_cons,Yh,isP,this]
  rfl
theorem zk2 (x:DefD) (t:TS):tE x++t≠[]:=fun e=>by have:=zla x t;rw[e] at this;simp[hdT] at this
theorem zc4:∀(l:List DefD),l.all yB=true→(∀ x∈l,wfE x)→∀(n:Nat) (d:SR),l.length<n→YI n d (l.flatMap tE)=.ok (⟨d.defs++l,d.q,d.m,d.told⟩,[])
 | [],_,_,n,d,hn=>by
  obtain⟨k,rfl⟩:∃ k,n=k+1:=⟨n-1,by omega⟩
  simp[YI]
 | x::r,h,hw,n,d,hn=>by
  simp only[List.all_cons,Al0] at h
  simp only[Al2] at hn
  obtain⟨k,rfl⟩:∃ k,n=k+1:=⟨n-1,by omega⟩
  have hf:zif (r.flatMap tE):=by have:=zl7 r [] (by simp[zif,isP,hdT]);simpa using this
  rw[List.flatMap_cons,YI,if_neg (zk2 _ _),zjm d x h.1 (hw x (.head _)) _ hf,zi,zc4 r h.2 (fun y hy=>hw y (.tail _ hy)) k _ (by omega)]
  simp[Zt]
theorem ziP (d:SR) (q m:List UInt8) (hd:d.told=false) (t:TS):zz d (tRt q m++t)=.ok (⟨d.defs,q,m,true⟩,t):=by
 unfold zz Yi
 have e:tRt q m++t=wk [115,99,104,101,109,97]::pk [123]::wk [113,117,101,114,121]::pk [58]::wk q::((if m=[] then [] else [wk [109,117,116,97,116,105,111,110],pk [58],wk m])++(pk [125]::t)):=by simp[tRt]
 rw[e,ZU,if_pos ⟨hd,by rw[YM];decide⟩]
 unfold zaF
 simp only[List.tail_cons,ye,zi,YM,decide_true,if_true,zY]
 by_cases hm:m=[]
 ·subst hm
  simp only[if_true,yW,zjW,Al7,if_false,zi,ye]
 ·simp only[hm,if_false,Al6,yW,YM,decide_true,if_true,List.tail_cons,ye,zi,zY]
theorem zj7 (s:SchD) (h:yu s=true) (hw:zbu s):zcA (YF s)=.ok (⟨s.defs,s.q,s.m,true⟩,[]):=by
 simp only[yu,Al0] at h
 unfold zcA YF
 rw[ziP sr0 s.q s.m rfl,zi]
 have hl:s.defs.length≤(s.defs.flatMap tE).length:=Zx s.defs fun x _ e=>by have:=zk2 x [];rw[List.append_nil] at this;exact this e
 rw[zc4 s.defs h.1 hw _ _ (by omega)]
 rfl
theorem zgW (s:List UInt8) (t:TS) (ht:(hdT t).k≠5):zcA (⟨5,s⟩::t)=zcA t:=by
 unfold zcA zz
 have e:zy t=t:=by unfold zy;rw[if_neg ht]
 rw[e]
 rfl
theorem YX (t:TS):zy t <:+ t∧wT (zy t)≤wT t:=by
 unfold zy
 split
 ·rename_i h
  have:=zbn (t:=t) (by rw[h];decide)
  exact⟨this.1,by omega⟩
 ·exact⟨List.suffix_refl _,Al4 _⟩
theorem Zw:GP bW wfW 1 yo:=fun t a t' h=>by
 obtain⟨s,t2,h3,h4⟩:=zm h
 obtain⟨_,t3,h5,h6⟩:=zm h4
 obtain⟨ty,t4,h7,h8⟩:=zm h6
 have g0:=YX t
 have g2:=zC _ _ _ h3
 have g3:=yc _ _ _ _ h5
 have g4:=zc3 4 _ _ _ h7
 have w2:=g2.w
 have w3:=g3.w
 have w4:=g4.w
 simp only[b0] at w3
 have hw:=zhz g4.ok
 split at h8
 ·rename_i hp
  have h0:=Yc hp
  obtain⟨v,t5,h9,h10⟩:=zm h8
  cases h10
  have g5:=Zk true 16 _ _ _ h9
  have w5:=g5.w
  exact⟨((((g5.suf.trans h0.1).trans g4.suf).trans g3.suf).trans g2.suf).trans g0.1,by simp only[bW];omega,hw.1,hw.2,g5.ok⟩
 ·cases h8
  exact⟨((g4.suf.trans g3.suf).trans g2.suf).trans g0.1,by simp only[bW,zeQ.1];omega,hw.1,hw.2,zeQ.2⟩
theorem Zy:GP bL wfL 1 yZ:=fun t a t' h=>by
 obtain⟨s,t1,h1,h2⟩:=zm h
 obtain⟨ps,t2,h3,h4⟩:=zm h2
 obtain⟨_,t3,h5,h6⟩:=zm h4
 obtain⟨ty,t4,h7,h8⟩:=zm h6
 obtain⟨ds,t5,h9,h10⟩:=zm h8
 cases h10
 have g0:=YX t
 have g1:=zC _ _ _ h1
 have g2:t2 <:+ t1∧bWs ps+wT t2≤wT t1∧∀ x∈ps,wfW x:=by
  split at h3
  ·rename_i hp
   have h0:=Yc hp
   have g:=Yg Zw _ _ _ h3
   have w:=g.w
   have e:=zkh ps
   exact⟨g.suf.trans h0.1,by omega,g.ok⟩
  ·cases h3;exact⟨List.suffix_refl _,by simp[bWs],fun x hx=>(by cases hx)⟩
 have g3:=yc _ _ _ _ h5
 have g4:=zc3 4 _ _ _ h7
 have g5:=zir true 16 _ _ _ h9
 have w1:=g1.w
 have w3:=g3.w
 have w4:=g4.w
 have w5:=g5.w
 simp only[b0] at w3
 have hw:=zhz g4.ok
 exact⟨((((g5.suf.trans g4.suf).trans g3.suf).trans g2.1).trans g1.suf).trans g0.1,by simp only[bL];omega,g2.2.2,hw.1,hw.2,g5.ok⟩
theorem zaJ:GP List.length T1 4 ZR:=fun t a t' h=>by
 unfold ZR at h
 split at h
 ·cases h
 ·have g0:=YX t
  have g1:=zC _ _ _ h
  have w1:=g1.w
  exact⟨g1.suf.trans g0.1,by omega,trivial⟩
theorem GP.low {α:Type} {b:α→Nat} {ok:α→Prop} {c c':Nat} {f:TS→PR α} (h:GP b ok c f) (hc:c'≤c):GP b ok c' f:=fun t a t' e=>by
 have g:=h t a t' e
 have w:=g.w
 exact⟨g.suf,by omega,g.ok⟩
theorem zk8 (l:List (List UInt8)):bT l=sm List.length l:=by
 unfold bT sm
 induction l with
 | nil=>rfl
 | cons s r ih=>simp only[List.map_cons,List.sum_cons,Al2];omega
theorem zlo (l:List FldD):bLs l+l.length=sm bL l:=rfl
theorem zc6 (m:List UInt8):GP bT T1 1 (ZP m):=fun t a t' h=>by
 obtain⟨s,t1,h1,h2⟩:=zm h
 have g0:(if isP m t then t.tail else t) <:+ t∧wT (if isP m t then t.tail else t)≤wT t:=by
  split
  ·rename_i hp;have:=Yc hp;exact⟨this.1,by omega⟩
  ·exact⟨List.suffix_refl _,Al4 _⟩
 have g1:=zC _ _ _ h1
 have w1:=g1.w
 have g2:=zbt (zC.low (by decide)) _ [s] _ _ _ (fun x hx=>trivial) h2
 have e:=zk8 a
 have e1:sm List.length [s]=s.length+1:=by simp[sm]
 exact⟨(g2.1.trans g1.suf).trans g0.1,by omega,trivial⟩
theorem zbB (k:Int):GP bE wfE 1 (za3 k):=fun t a t' h=>by
 obtain⟨s,t1,h1,h2⟩:=zm h
 obtain⟨fs,t2,h3,h4⟩:=zm h2
 obtain⟨_,t3,h5,h6⟩:=zm h4
 obtain⟨l,t4,h7,h8⟩:=zm h6
 cases h8
 have g1:=zC _ _ _ h1
 have g2:t2 <:+ t1∧bT fs+wT t2≤wT t1:=by
  split at h3
  ·rename_i hp
   have h0:=zaL hp
   have g:=zc6 _ _ _ _ h3
   have w:=g.w
   exact⟨g.suf.trans h0.1,by omega⟩
  ·cases h3;exact⟨List.suffix_refl _,by simp[bT]⟩
 have g3:=yc _ _ _ _ h5
 have g4:=Yg Zy _ _ _ h7
 have w1:=g1.w
 have w3:=g3.w
 have w4:=g4.w
 simp only[b0] at w3
 have e:=zlo l
 exact⟨((g4.suf.trans g3.suf).trans g2.1).trans g1.suf,by simp only[bE,bT,bWs,List.map_nil,List.sum_nil] at g2 ⊢;omega,g4.ok,fun y hy=>nomatch hy⟩
theorem zef:GP bE wfE 1 zae:=fun t a t' h=>by
 obtain⟨s,t1,h1,h2⟩:=zm h
 obtain⟨_,t3,h5,h6⟩:=zm h2
 obtain⟨l,t4,h7,h8⟩:=zm h6
 cases h8
 have g1:=zC _ _ _ h1
 have g3:=yc _ _ _ _ h5
 have g4:=Yg (zaJ.low (by decide)) _ _ _ h7
 have w1:=g1.w
 have w3:=g3.w
 have w4:=g4.w
 simp only[b0] at w3
 have e:=zk8 l
 exact⟨(g4.suf.trans g3.suf).trans g1.suf,by simp only[bE,bLs,bWs,List.map_nil,List.sum_nil,show bT []=0 from rfl] at e ⊢;omega,fun y hy=>(nomatch hy),fun y hy=>nomatch hy⟩
theorem zde:GP bE wfE 1 ZQ:=fun t a t' h=>by
 obtain⟨s,t1,h1,h2⟩:=zm h
 obtain⟨_,t3,h5,h6⟩:=zm h2
 obtain⟨l,t4,h7,h8⟩:=zm h6
 cases h8
 have g1:=zC _ _ _ h1
 have g3:=yc _ _ _ _ h5
 have g4:=zc6 _ _ _ _ h7
 have w1:=g1.w
 have w3:=g3.w
 have w4:=g4.w
 simp only[b0] at w3
 exact⟨(g4.suf.trans g3.suf).trans g1.suf,by simp only[bE,bLs,bWs,List.map_nil,List.sum_nil,show bT []=0 from rfl];omega,fun y hy=>(nomatch hy),fun y hy=>nomatch hy⟩
theorem zcQ:GP bE wfE 1 ZN:=fun t a t' h=>by
 obtain⟨s,t1,h1,h2⟩:=zm h
 obtain⟨_,t3,h5,h6⟩:=zm h2
 obtain⟨l,t4,h7,h8⟩:=zm h6
 cases h8
 have g1:=zC _ _ _ h1
 have g3:=yc _ _ _ _ h5
 have g4:=Yg Zw _ _ _ h7
 have w1:=g1.w
 have w3:=g3.w
 have w4:=g4.w
 simp only[b0] at w3
 have e:=zkh l
 exact⟨(g4.suf.trans g3.suf).trans g1.suf,by simp only[bE,bLs,List.map_nil,List.sum_nil,show bT []=0 from rfl];omega,fun y hy=>(nomatch hy),g4.ok⟩
def bSR (d:SR):Nat:=bEs d.defs+d.q.length+d.m.length
def zkv (d:SR):Prop:=∀ x∈d.defs,wfE x
theorem zfD (l:List DefD) (x:DefD):bEs (l++[x])=bEs l+bE x:=by simp[bEs]
theorem zjs {d:SR} {x:DefD} (hw:zkv d) (hx:wfE x):zkv (Zt d x)∧bSR (Zt d x)=bSR d+bE x:=by
 refine⟨fun y hy=>?_,by simp only[bSR,Zt,zfD];omega⟩
 rcases List.mem_append.1 hy with h|h
 ·exact hw y h
 ·simp at h;subst h;exact hx
structure SchFit (d:SR) (t:TS) (d':SR) (t':TS):Prop where
 suf:t' <:+ t
 w:bSR d'+1+wT t'≤bSR d+wT t
 wf:zkv d→zkv d'
theorem zeo {d:SR} {t:TS} {d':SR} {t':TS} (h:zaF d t=.ok (d',t')):SchFit d t d' t':=by
 obtain⟨_,t1,h1,h2⟩:=zm h
 obtain⟨_,t2,h3,h4⟩:=zm h2
 obtain⟨_,t3,h5,h6⟩:=zm h4
 obtain⟨q,t4,h7,h8⟩:=zm h6
 obtain⟨m,t5,h9,h10⟩:=zm h8
 obtain⟨_,t6,h11,h12⟩:=zm h10
 cases h12
 have g1:=yc _ _ _ _ h1
 have g2:t2 <:+ t1∧wT t2≤wT t1:=by
  split at h3
  ·rename_i hw;cases h3;have h0:=zaL hw;exact⟨h0.1,by omega⟩
  ·cases h3
 have g3:=yc _ _ _ _ h5
 have g4:=zC _ _ _ h7
 have g5:t5 <:+ t4∧m.length+wT t5≤wT t4:=by
  split at h9
  ·rename_i hw
   have h0:=zaL hw
   obtain⟨_,t7,h13,h14⟩:=zm h9
   have g6:=yc _ _ _ _ h13
   have g7:=zC _ _ _ h14
   have w6:=g6.w
   have w7:=g7.w
   exact⟨(g7.suf.trans g6.suf).trans h0.1,by simp only[b0] at w6;omega⟩
  ·cases h9;exact⟨List.suffix_refl _,by simp⟩
 have g6:=yc _ _ _ _ h11
 have w1:=g1.w
 have w3:=g3.w
 have w4:=g4.w
 have w6:=g6.w
 simp only[b0] at w1 w3 w6
 exact⟨((((g6.suf.trans g5.1).trans g4.suf).trans g3.suf).trans g2.1).trans g1.suf,by simp only[bSR];omega,fun hw=>hw⟩
theorem zaq {d:SR} {w:List UInt8} {t:TS} (hw:isW w t=true) {f:TS→PR DefD} (hf:GP bE wfE 1 f) {d':SR} {t':TS} (h:pb (f t.tail) (fun x t=>.ok (Zt d x,t))=.ok (d',t')):SchFit d t d' t':=by
 obtain⟨x,t1,h1,h2⟩:=zm h
 cases h2
 have h0:=zaL hw
 have g:=hf _ _ _ h1
 have w1:=g.w
 have e:bSR (Zt d x)=bSR d+bE x:=by simp only[bSR,Zt,zfD];omega
 exact⟨g.suf.trans h0.1,by omega,fun hw=>(zjs hw g.ok).1⟩
theorem zit {d:SR} {t:TS} {d':SR} {t':TS} (h:zz d t=.ok (d',t')):SchFit d t d' t':=by
 unfold zz at h
 have g0:=YX t
 generalize zy t=u at h g0
 suffices hs:SchFit d u d' t' from ⟨hs.suf.trans g0.1,by have:=hs.w;omega,hs.wf⟩
 unfold Yi at h
 split at h
 ·rename_i hc
  have h0:=zaL hc.2
  have g:=zeo h
  have w:=g.w
  exact⟨g.suf.trans h0.1,by omega,g.wf⟩
 split at h
 ·rename_i hc;exact zaq hc (zbB 1) h
 split at h
 ·rename_i hc;exact zaq hc (zbB 2) h
 split at h
 ·rename_i hc;exact zaq hc zde h
 split at h
 ·rename_i hc;exact zaq hc zef h
 split at h
 ·rename_i hc;exact zaq hc zcQ h
 ·cases h
theorem zgy (d d':SR) (t:TS):¬ zz d t=.ok (d',t):=fun h=>by
 unfold zz at h
 have g0:=YX t
 generalize zy t=u at h g0
 have tl:∀ w,isW w u=true→wT u.tail<wT t:=fun w hw=>by have:=zaL hw;omega
 have put:∀ {f:TS→PR DefD},GP bE wfE 1 f→wT u.tail<wT t→pb (f u.tail) (fun x t=>(.ok (Zt d x,t):PR SR))=.ok (d',t)→False:=fun {f} hf hl h=>by
  obtain⟨x,t1,h1,h2⟩:=zm h
  cases h2
  have:=(hf _ _ _ h1).w
  omega
 unfold Yi at h
 split at h
 ·rename_i hc
  have h1:=tl _ hc.2
  have h2:=zmc (zeo h).suf
  omega
 split at h
 ·rename_i hc;exact put (zbB 1) (tl _ hc) h
 split at h
 ·rename_i hc;exact put (zbB 2) (tl _ hc) h
 split at h
 ·rename_i hc;exact put zde (tl _ hc) h
 split at h
 ·rename_i hc;exact put zef (tl _ hc) h
 split at h
 ·rename_i hc;exact put zcQ (tl _ hc) h
 ·cases h
theorem SchFit.lt {d:SR} {t:TS} {d':SR} {t':TS} (h:SchFit d t d' t') (hd:bSR d≤bSR d'):t'.length<t.length:=by
 obtain⟨p,hp⟩:=h.suf
 have h2:=h.w
 cases p with
 | nil=>simp at hp;subst hp;omega
 | cons x p=>rw[← hp];simp;omega
theorem zaK {H:Heap} {r:Nat} {L t:TS} {dp:Nat} (h:Y6 H r L t dp) (hl:wT L≤zH):ACalls Tryz.prog 99 [.ptr r 0] H (fun e H'=>∃ v,e=.ret v∧(v=.tup []∧Pat H r L (zy t) dp H')):=by
 refine ACalls.go ir99 ck99 (Al4 _) fun KP Q hQ=>?_
 have hll:=za2 hl
 simp only[zH] at hll
 obtain⟨p,hs,hr⟩:=h
 have hlen:p.length+t.length=L.length:=by rw[← hs];simp
 have hr':=hr
 simp only[prc] at hr'
 simp(disch:=first|omega|assumption) only[ir99,go_sem]
 refine goK_ret (zfC hs hr) fun v H1 ⟨hv,hH⟩=>?_
 subst hv;subst hH
 by_cases hk:(hdT t).k=5
 ·have hk':=eq_true hk
  simp(disch:=first|omega|assumption) only[Zs,hk',hr',wrap64,go_sem]
  refine hQ _ _ _ _ [] nofun rfl (Low.refl _) ⟨rfl,?_⟩
  rw[show zy t=t.tail from if_pos hk]
  exact Yb hs (by rw[hk];decide) _
 ·simp(disch:=first|omega|assumption) only[Zs,hk,go_sem]
  refine hQ _ _ _ _ [] nofun rfl (Low.refl _) ⟨rfl,?_⟩
  rw[show zy t=t from if_neg hk]
  exact Pat.self hs hr
theorem zke {H:Heap} {r q:Nat} {L t:TS} {A1 A2 A3 A4:AV} (hq:H q=some (.cells [.ptr r 0,A1,A2,A3,A4])) (hqr:q≠r) (h:Y6 H r L t (16-16)) (hl:wT L≤zH) :
  ACalls Tryz.prog 206 [.ptr q 0] H (RpE H r L (16-16) (yo t) (fun x=>.agg (cW x))):=by
 refine ym (ACalls.goO (R:=fun v H'=>za5 H r L (16-16) (yo t) (fun x=>.agg (cW x)) v.strip H') (RP:=fun v H'=>zbl (yo t) v H') ir206 ck206 (Al4 _) fun KP Q hQ hP=>?_)
 have pan:∀(v:AV) (H1:Heap) (n:Int),v=yh n→(yo t)=.error n→KP v H1:=fun v H1 n h1 h2=>hP v H1 H1 (Low.refl _) ⟨n,h2,h1⟩
 have fin:=KI.done hQ
 have hll:=za2 hl
 simp only[zH] at hll
 have K0:KI H r L t (16-16) H:=let ⟨_,hs,hr⟩:=h;KI.start hs hr
 have hx:=Eq.refl (yo t)
 have q0:=hq
 conv at hx=>rhs;unfold yo
 simp(disch:=first|omega|assumption) only[ir206,go_sem]
 refine goA_intro fun b2 hb2=>?_
 have hb2H:=hb2
 have n2:=K0.ne hb2H
 have n2s:=Ne.symm n2
 have nq2:q≠b2:=fun e=>by subst e;rw[q0] at hb2;cases hb2
 simp(disch:=first|omega|assumption) only[q0,nq2,go_sem]
 refine goK_ret (zaK (K0.box hb2H).here hl) fun v H1 ⟨hv1,a1⟩=>?_
 subst hv1
 have K1:=(K0.box hb2H).call a1
 have g1_2:=(a1.other n2s).trans (upd_same ..)
 have q1:=(a1.other hqr).trans ((upd_ne nq2).trans q0)
 simp(disch:=first|omega|assumption) only[q1,go_sem]
 refine goK_both (zaj K1.here hl) (fun v H2 ⟨s,t2,e2,hv2,a2⟩=>?_) fun v H2 ⟨n,e2,hv2⟩=>pan v H2 n hv2 (by rw[hx,e2];rfl)
 subst hv2
 rw[e2,zi] at hx
 have K2:=K1.call a2
 have g2_2:=(a2.other n2s).trans g1_2
 have q2:=(a2.other hqr).trans q1
 simp(disch:=first|omega|assumption) only[go_sem]
 refine goA_intro fun b3 hb3=>?_
 have h32:b3≠b2:=fun e=>by subst e;rw[g2_2] at hb3;cases hb3
 have hb3H:=K2.none hb3
 have n3:=K0.ne hb3H
 have n3s:=Ne.symm n3
 have nq3:q≠b3:=fun e=>by subst e;rw[q2] at hb3;cases hb3
 simp(disch:=first|omega|assumption) only[q2,nq3,go_sem]
 refine goK_both (YV (K2.box hb3H).here hl _) (fun v H3 ⟨_,t3,e3,hv3,a3⟩=>?_) fun v H3 ⟨n,e3,hv3⟩=>pan v H3 n hv3 (by rw[hx,e3];rfl)
 subst hv3
 rw[e3,zi] at hx
 have K3:=(K2.box hb3H).call a3
 have g3_2:=(a3.other n2s).trans ((upd_ne (Ne.symm h32)).trans g2_2)
 have g3_3:=(a3.other n3s).trans (upd_same ..)
 have q3:=(a3.other hqr).trans ((upd_ne nq3).trans q2)
 simp(disch:=first|omega|assumption) only[q3,go_sem]
 refine goK_both (zi4 K3.here hl) (fun v H4 ⟨ty,t4,e4,hv4,a4⟩=>?_) fun v H4 ⟨n,e4,hv4⟩=>pan v H4 n hv4 (by rw[hx,e4];rfl)
 subst hv4
 rw[e4,zi] at hx
 have K4:=K3.call a4
 have g4_2:=(a4.other n2s).trans g3_2
 have g4_3:=(a4.other n3s).trans g3_3
 have q4:=(a4.other hqr).trans q3
 simp(disch:=first|omega|assumption) only[cTy,g4_3,q4,nq3,go_sem]
 refine goK_ret (zfX (K4.box hb3H).here hl _) fun v H5 ⟨hv5,a5⟩=>?_
 subst hv5
 have K5:=(K4.box hb3H).call a5
 have g5_2:=(a5.other n2s).trans ((upd_ne (Ne.symm h32)).trans g4_2)
 have g5_3:=(a5.other n3s).trans (upd_same ..)
 have q5:=(a5.other hqr).trans ((upd_ne nq3).trans q4)
 unfold Zb at a5 K5
 cases hi:isP [61] t4 with
 | true =>
  rw[hi] at hx K5 a5
  simp only[if_true] at hx K5
  simp(disch:=first|omega|assumption) only[q5,go_sem]
  refine goK_both (zlK K5.here hl) (fun v H6 ⟨x,t6,e6,hv6,a6⟩=>?_) fun v H6 ⟨n,e6,hv6⟩=>pan v H6 n hv6 (by rw[hx,e6];rfl)
  subst hv6
  rw[e6,zi] at hx
  have K6:=K5.call a6
  have g6_2:=(a6.other n2s).trans g5_2
  have g6_3:=(a6.other n3s).trans g5_3
  have q6:=(a6.other hqr).trans q5
  try simp only[zW] at g6_2
  simp(disch:=first|omega|assumption) only[ze,zc,za,zf,zd,zb,zh,g6_3,g6_2,h32,Ne.symm h32,zga,zlA,zg5,zdW,go_sem]
  refine fin _ _ [.agg (cW ⟨s,ty,true,x⟩)] _ _ (by simp(disch:=first|omega|assumption) only[ze,zc,za,zf,zd,zb,zh,ir206,resvs,resv,zeB,go_sem]) hx ((K6.box hb3H).box hb2H) (by simp[tupOf,AV.strip,zbR])
 | false =>
  rw[hi] at hx K5 a5
  simp only[Al7,if_false] at hx K5
  try simp only[zW] at g5_2
  simp(disch:=first|omega|assumption) only[g5_3,g5_2,h32,Ne.symm h32,go_sem]
  refine fin _ _ [.agg (.str s::.str ty.nm::.int .i64 ty.lists::.int .i64 ty.musts::.bool false::[.int .i64 0,.int .i64 0,.str [],.sl .nil 5 [],.sl .nil 6 []])] _ _ (by simp(disch:=first|omega|assumption) only[ir206,resvs,resv,go_sem]) hx (K5.box hb2H) (by simp[tupOf,AV.strip,AV.strip1,zeB,zV,cV,cVs,cMs])
theorem zh0 {H:Heap} {r q:Nat} {L t:TS} {A1 A2 A3 A4:AV} (m:List UInt8) (hq:H q=some (.cells [.ptr r 0,A1,A2,A3,A4])) (hqr:q≠r) (h:Y6 H r L t (16-16)) (hl:wT L≤zH) :
  ACalls Tryz.prog 162 [.ptr q 0,.str m] H (RpE H r L (16-16) (yw m yo t) (fun l=>.sl .no 10 (cWs l))):=by
 refine ym (ACalls.goO (R:=fun v H'=>za5 H r L (16-16) (yw m yo t) (fun l=>.sl .no 10 (cWs l)) v.strip H') (RP:=fun v H'=>zbl (yw m yo t) v H') ir162 ck162 (Al4 _) fun KP Q hQ hP=>?_)
 have pan:∀(v:AV) (H1:Heap) (n:Int),v=yh n→(yw m yo t)=.error n→KP v H1:=fun v H1 n h1 h2=>hP v H1 H1 (Low.refl _) ⟨n,h2,h1⟩
 have fin:=KI.done hQ
 have hll:=za2 hl
 simp only[zH] at hll
 have K0:KI H r L t (16-16) H:=let ⟨_,hs,hr⟩:=h;KI.start hs hr
 have hx:=Eq.refl (yw m yo t)
 have q0:=hq
 conv at hx=>rhs;unfold yw
 simp(disch:=first|omega|assumption) only[ir162,q0,go_sem]
 refine goK_both (zke q0 hqr K0.here hl) (fun v H1 ⟨x1,t1,e1,hv1,a1⟩=>?_) fun v H1 ⟨n,e1,hv1⟩=>pan v H1 n hv1 (by rw[hx,e1];rfl)
 subst hv1
 rw[e1,zi] at hx
 have K1:=K0.call a1
 have q1:=(a1.other hqr).trans q0
 have hlt1:=Zw.lt (by decide) _ _ _ e1
 have hsl:=let ⟨_,hp,_⟩:=h;Y4 hp
 obtain⟨R,hR⟩:∃ R,zI m yo (t1.length+1) [x1] t1=R:=⟨_,rfl⟩
 rw[hR] at hx
 simp(disch:=first|omega|assumption) only[ze,zc,za,zf,zd,zb,zh,zhk,ze6,go_sem]
 refine goL_st (fun x:Own×List VarD×TS=>[(5,.sl x.1 10 (cWs x.2.1))]) (fun x H'=>KO H r L x.2.2 (16-16) H' x.1 x.2.1.length 10∧H' q=some (.cells [.ptr r 0,A1,A2,A3,A4])∧(∃ m',x.2.2.length<m'∧zI m yo m' x.2.1 x.2.2=R)∧x.2.1.length+x.2.2.length≤L.length) (fun x=>x.2.2.length) (.full,[x1],t1) (by simp(disch:=first|omega|assumption) only[ze,zc,za,zf,zd,zb,zh,cWs,List.map_cons,List.map_nil,zbR,go_sem]) ⟨⟨K1,Owned.full _ _ _,nofun⟩,q1,⟨_,Nat.lt_succ_self _,hR⟩,by simp only[List.length_singleton];omega⟩ ?_
 rintro⟨o,l,u⟩ H3 J ⟨K3,q3,⟨m',hm,hR3⟩,hlen⟩ hJ
 simp only at K3 q3 hm hR3 hlen
 obtain⟨m',rfl⟩:∃ j,m'=j+1:=⟨m'-1,by omega⟩
 have hcl:=Yx l
 simp(disch:=first|omega|assumption) only[q3,go_sem]
 refine goK_ret (zfX K3.here hl m) fun v H4 ⟨hv4,a4⟩=>?_
 subst hv4
 have q4:=(a4.other hqr).trans q3
 cases hj:isP m u with
 | true =>
  rw[Zb,hj,if_pos rfl] at a4
  have e1:R=.ok (l,u.tail):=by rw[← hR3,zI,hj];rfl
  rw[e1] at hx
  simp(disch:=first|omega|assumption) only[go_sem]
  refine fin _ _ [.sl o 10 (cWs l)] l u.tail (by simp(disch:=first|omega|assumption) only[ir162,resvs,resv,go_sem]) hx (K3.toKI.call a4) ?_
  simp[tupOf,AV.strip,AV.strip1,zim]
 | false =>
  rw[Zb,hj] at a4
  have K4:=K3.call (by simpa using a4)
  rw[zI,hj] at hR3
  simp only[Al7,if_false] at hR3
  simp(disch:=first|omega|assumption) only[q4,go_sem]
  refine goK_both (zke q4 hqr K4.here hl) (fun v H5 ⟨x,t5,e5,hv5,a5⟩=>?_) fun v H5 ⟨n5,e5,hv5⟩=>pan v H5 n5 hv5 (by rw[hx,← hR3,e5];rfl)
  subst hv5
  rw[e5,zi] at hR3
  have hlt:=Zw.lt (by decide) _ _ _ e5
  have K5:=K4.call a5
  have q5:=(a5.other hqr).trans q4
  simp(disch:=first|omega|assumption) only[ze,zc,za,zf,zd,zb,zh,zhk,ze6,go_sem]
  refine goP_ownS (by rw[hcl];exact K5.own) (by simp only[hcl,Al2,Al3];omega) (by simp only[hcl,Al2,Al3,maxLen];omega) fun o6 H6 hs6=>?_
  have K6:=K5.app (by simpa[hcl] using hs6)
  have q6:=K5.stay hs6 q5
  simp(disch:=first|omega|assumption) only[ze,zc,za,zf,zd,zb,zh,zhk,ze6,go_sem]
  refine goJ (hJ (o6,l++[x],t5) _ (by simp only;omega) ⟨by simpa using K6,q6,⟨m',by simp only;omega,hR3⟩,by simp only[Al5,Al2,Al3];omega⟩) (by simp(disch:=first|omega|assumption) only[ze,zc,za,zf,zd,zb,zh,cWs,List.map_append,List.map_cons,List.map_nil,zbR,go_sem])
theorem zfc {H:Heap} {r q:Nat} {L t:TS} {A1 A2 A3 A4:AV} (hq:H q=some (.cells [.ptr r 0,A1,A2,A3,A4])) (hqr:q≠r) (h:Y6 H r L t (16-16)) (hl:wT L≤zH) :
  ACalls Tryz.prog 160 [.ptr q 0] H (RpE H r L (16-16) (yZ t) (fun x=>.agg (cL x))):=by
 refine ym (ACalls.goO (R:=fun v H'=>za5 H r L (16-16) (yZ t) (fun x=>.agg (cL x)) v.strip H') (RP:=fun v H'=>zbl (yZ t) v H') ir160 ck160 (Al4 _) fun KP Q hQ hP=>?_)
 have pan:∀(v:AV) (H1:Heap) (n:Int),v=yh n→(yZ t)=.error n→KP v H1:=fun v H1 n h1 h2=>hP v H1 H1 (Low.refl _) ⟨n,h2,h1⟩
 have fin:=KI.done hQ
 have hll:=za2 hl
 simp only[zH] at hll
 have K0:KI H r L t (16-16) H:=let ⟨_,hs,hr⟩:=h;KI.start hs hr
 have hx:=Eq.refl (yZ t)
 have q0:=hq
 conv at hx=>rhs;unfold yZ
 simp(disch:=first|omega|assumption) only[ir160,go_sem]
 refine goA_intro fun b2 hb2=>?_
 have hb2H:=hb2
 have n2:=K0.ne hb2H
 have n2s:=Ne.symm n2
 have nq2:q≠b2:=fun e=>by subst e;rw[q0] at hb2;cases hb2
 simp(disch:=first|omega|assumption) only[q0,nq2,go_sem]
 refine goK_ret (zaK (K0.box hb2H).here hl) fun v H1 ⟨hv1,a1⟩=>?_
 subst hv1
 have K1:=(K0.box hb2H).call a1
 have g1_2:=(a1.other n2s).trans (upd_same ..)
 have q1:=(a1.other hqr).trans ((upd_ne nq2).trans q0)
 simp(disch:=first|omega|assumption) only[q1,go_sem]
 refine goK_both (zaj K1.here hl) (fun v H2 ⟨s,t2,e2,hv2,a2⟩=>?_) fun v H2 ⟨n,e2,hv2⟩=>pan v H2 n hv2 (by rw[hx,e2];rfl)
 subst hv2
 rw[e2,zi] at hx
 have K2:=K1.call a2
 have g2_2:=(a2.other n2s).trans g1_2
 have q2:=(a2.other hqr).trans q1
 simp(disch:=first|omega|assumption) only[go_sem]
 refine goA_intro fun b3 hb3=>?_
 have h32:b3≠b2:=fun e=>by subst e;rw[g2_2] at hb3;cases hb3
 have hb3H:=K2.none hb3
 have n3:=K0.ne hb3H
 have n3s:=Ne.symm n3
 have nq3:q≠b3:=fun e=>by subst e;rw[q2] at hb3;cases hb3
 simp(disch:=first|omega|assumption) only[q2,nq3,go_sem]
 refine goK_ret (zfX (K2.box hb3H).here hl _) fun v H3 ⟨hv3,a3⟩=>?_
 subst hv3
 have K3:=(K2.box hb3H).call a3
 have g3_2:=(a3.other n2s).trans ((upd_ne (Ne.symm h32)).trans g2_2)
 have g3_3:=(a3.other n3s).trans (upd_same ..)
 have q3:=(a3.other hqr).trans ((upd_ne nq3).trans q2)
 unfold Zb at a3 K3
 cases hi:isP [40] t2 with
 | true =>
  rw[hi] at hx K3 a3
  simp only[if_true] at hx K3
  simp(disch:=first|omega|assumption) only[q3,go_sem]
  refine goK_both (zh0 [41] q3 hqr K3.here hl) (fun v H4 ⟨ps,t4,e4,hv4,a4⟩=>?_) fun v H4 ⟨n,e4,hv4⟩=>pan v H4 n hv4 (by rw[hx,e4];rfl)
  subst hv4
  rw[e4,zi] at hx
  have K4:=K3.call a4
  have g4_2:=(a4.other n2s).trans g3_2
  have g4_3:=(a4.other n3s).trans g3_3
  have q4:=(a4.other hqr).trans q3
  simp(disch:=first|omega|assumption) only[g4_3,q4,nq3,go_sem]
  refine goK_both (YV (K4.box hb3H).here hl _) (fun v H5 ⟨_,t5,e5,hv5,a5⟩=>?_) fun v H5 ⟨n,e5,hv5⟩=>pan v H5 n hv5 (by rw[hx,e5];rfl)
  subst hv5
  rw[e5,zi] at hx
  have K5:=(K4.box hb3H).call a5
  have g5_2:=(a5.other n2s).trans ((upd_ne (Ne.symm h32)).trans g4_2)
  have g5_3:=(a5.other n3s).trans (upd_same ..)
  have q5:=(a5.other hqr).trans ((upd_ne nq3).trans q4)
  simp(disch:=first|omega|assumption) only[q5,go_sem]
  refine goK_both (zi4 K5.here hl) (fun v H6 ⟨ty,t6,e6,hv6,a6⟩=>?_) fun v H6 ⟨n,e6,hv6⟩=>pan v H6 n hv6 (by rw[hx,e6];rfl)
  subst hv6
  rw[e6,zi] at hx
  have K6:=K5.call a6
  have g6_2:=(a6.other n2s).trans g5_2
  have g6_3:=(a6.other n3s).trans g5_3
  have q6:=(a6.other hqr).trans q5
  simp(disch:=first|omega|assumption) only[cTy,g6_3,q6,nq3,go_sem]
  refine goK_both (zld (K6.box hb3H).here hl) (fun v H7 ⟨d,t7,e7,hv7,a7⟩=>?_) fun v H7 ⟨n,e7,hv7⟩=>pan v H7 n hv7 (by rw[hx,e7];rfl)
  subst hv7
  rw[e7,zi] at hx
  have K7:=(K6.box hb3H).call a7
  have g7_2:=(a7.other n2s).trans ((upd_ne (Ne.symm h32)).trans g6_2)
  have g7_3:=(a7.other n3s).trans (upd_same ..)
  have q7:=(a7.other hqr).trans ((upd_ne nq3).trans q6)
  try simp only[] at g7_2
  simp(disch:=first|omega|assumption) only[g7_3,g7_2,h32,Ne.symm h32,go_sem]
  refine fin _ _ [.agg [.str s,.sl .no 10 (cWs ps),.str ty.nm,.int .i64 ty.lists,.int .i64 ty.musts,.sl .no 2 (cDs d)]] _ _ (by simp(disch:=first|omega|assumption) only[ir160,resvs,resv,go_sem]) hx ((K7.box hb3H).box hb2H) (by simp[tupOf,AV.strip,AV.strip1,cL,cWs])
 | false =>
  rw[hi] at hx K3 a3
  simp only[Al7,if_false,zi] at hx K3
  simp(disch:=first|omega|assumption) only[q3,go_sem]
  refine goK_both (YV K3.here hl _) (fun v H4 ⟨_,t4,e4,hv4,a4⟩=>?_) fun v H4 ⟨n,e4,hv4⟩=>pan v H4 n hv4 (by rw[hx,e4];rfl)
  subst hv4
  rw[e4,zi] at hx
  have K4:=K3.call a4
  have g4_2:=(a4.other n2s).trans g3_2
  have g4_3:=(a4.other n3s).trans g3_3
  have q4:=(a4.other hqr).trans q3
  simp(disch:=first|omega|assumption) only[q4,go_sem]
  refine goK_both (zi4 K4.here hl) (fun v H5 ⟨ty,t5,e5,hv5,a5⟩=>?_) fun v H5 ⟨n,e5,hv5⟩=>pan v H5 n hv5 (by rw[hx,e5];rfl)
  subst hv5
  rw[e5,zi] at hx
  have K5:=K4.call a5
  have g5_2:=(a5.other n2s).trans g4_2
  have g5_3:=(a5.other n3s).trans g4_3
  have q5:=(a5.other hqr).trans q4
  simp(disch:=first|omega|assumption) only[cTy,g5_3,q5,nq3,go_sem]
  refine goK_both (zld (K5.box hb3H).here hl) (fun v H6 ⟨d,t6,e6,hv6,a6⟩=>?_) fun v H6 ⟨n,e6,hv6⟩=>pan v H6 n hv6 (by rw[hx,e6];rfl)
  subst hv6
  rw[e6,zi] at hx
  have K6:=(K5.box hb3H).call a6
  have g6_2:=(a6.other n2s).trans ((upd_ne (Ne.symm h32)).trans g5_2)
  have g6_3:=(a6.other n3s).trans (upd_same ..)
  have q6:=(a6.other hqr).trans ((upd_ne nq3).trans q5)
  try simp only[] at g6_2
  simp(disch:=first|omega|assumption) only[g6_3,g6_2,h32,Ne.symm h32,go_sem]
  refine fin _ _ [.agg [.str s,.sl .nil 10 [],.str ty.nm,.int .i64 ty.lists,.int .i64 ty.musts,.sl .no 2 (cDs d)]] _ _ (by simp(disch:=first|omega|assumption) only[ir160,resvs,resv,go_sem]) hx ((K6.box hb3H).box hb2H) (by simp[tupOf,AV.strip,AV.strip1,cL,cWs])
theorem zjw {H:Heap} {r q:Nat} {L t:TS} {A1 A2 A3 A4:AV} (m:List UInt8) (hq:H q=some (.cells [.ptr r 0,A1,A2,A3,A4])) (hqr:q≠r) (h:Y6 H r L t (16-16)) (hl:wT L≤zH) :
  ACalls Tryz.prog 159 [.ptr q 0,.str m] H (RpE H r L (16-16) (ZP m t) (fun l=>.sl .no 1 (cT l))):=by
 refine ym (ACalls.goO (R:=fun v H'=>za5 H r L (16-16) (ZP m t) (fun l=>.sl .no 1 (cT l)) v.strip H') (RP:=fun v H'=>zbl (ZP m t) v H') ir159 ck159 (Al4 _) fun KP Q hQ hP=>?_)
 have pan:∀(v:AV) (H1:Heap) (n:Int),v=yh n→(ZP m t)=.error n→KP v H1:=fun v H1 n h1 h2=>hP v H1 H1 (Low.refl _) ⟨n,h2,h1⟩
 have fin:=KI.done hQ
 have hll:=za2 hl
 simp only[zH] at hll
 have K0:KI H r L t (16-16) H:=let ⟨_,hs,hr⟩:=h;KI.start hs hr
 have hx:=Eq.refl (ZP m t)
 have q0:=hq
 conv at hx=>rhs;unfold ZP
 simp(disch:=first|omega|assumption) only[ir159,q0,go_sem]
 refine goK_ret (zfX K0.here hl m) fun v H1 ⟨hv1,a1⟩=>?_
 subst hv1
 have K1:=K0.call a1
 have q1:=(a1.other hqr).trans q0
 unfold Zb at K1
 simp(disch:=first|omega|assumption) only[q1,go_sem]
 refine goK_both (zaj K1.here hl) (fun v H2 ⟨x1,t2,e2,hv2,a2⟩=>?_) fun v H2 ⟨n,e2,hv2⟩=>pan v H2 n hv2 (by rw[hx,e2];rfl)
 subst hv2
 rw[e2,zi] at hx
 have K2:=K1.call a2
 have q2:=(a2.other hqr).trans q1
 have hsl:=let ⟨_,hp,_⟩:=K1.here;Y4 hp
 have hlt1:=(zC).lt (by decide) _ _ _ e2
 obtain⟨R,hR⟩:∃ R,yn m z8 (t2.length+1) [x1] t2=R:=⟨_,rfl⟩
 rw[hR] at hx
 simp(disch:=first|omega|assumption) only[go_sem]
 refine goL_st (fun x:Own×List (List UInt8)×TS=>[(5,.sl x.1 1 (cT x.2.1))]) (fun x H'=>KO H r L x.2.2 (16-16) H' x.1 x.2.1.length 1∧H' q=some (.cells [.ptr r 0,A1,A2,A3,A4])∧(∃ m',x.2.2.length<m'∧yn m z8 m' x.2.1 x.2.2=R)∧x.2.1.length+x.2.2.length≤L.length) (fun x=>x.2.2.length) (.full,[x1],t2) (by simp(disch:=first|omega|assumption) only[cT,List.map_cons,List.map_nil,go_sem]) ⟨⟨K2,Owned.full _ _ _,nofun⟩,q2,⟨_,Nat.lt_succ_self _,hR⟩,by simp only[List.length_singleton];omega⟩ ?_
 rintro⟨o,l,u⟩ H3 J ⟨K3,q3,⟨m',hm,hR3⟩,hlen⟩ hJ
 simp only at K3 q3 hm hR3 hlen
 obtain⟨m',rfl⟩:∃ j,m'=j+1:=⟨m'-1,by omega⟩
 have hcl:=yd l
 simp(disch:=first|omega|assumption) only[q3,go_sem]
 refine goK_ret (zfX K3.here hl m) fun v H4 ⟨hv4,a4⟩=>?_
 subst hv4
 have q4:=(a4.other hqr).trans q3
 cases hj:isP m u with
 | false =>
  rw[Zb,hj] at a4
  have e1:R=.ok (l,u):=by rw[← hR3,yn,hj];rfl
  rw[e1] at hx
  simp(disch:=first|omega|assumption) only[go_sem]
  refine fin _ _ [.sl o 1 (cT l)] l u (by simp(disch:=first|omega|assumption) only[ir159,resvs,resv,go_sem]) hx (K3.toKI.call (by simpa using a4)) ?_
  simp[tupOf,AV.strip,AV.strip1,zfV]
 | true =>
  rw[Zb,hj,if_pos rfl] at a4
  have hlt0:=zcJ hj
  have K4:=K3.call a4
  rw[yn,hj,if_pos rfl] at hR3
  simp(disch:=first|omega|assumption) only[q4,go_sem]
  refine goK_both (zaj K4.here hl) (fun v H5 ⟨x,t5,e5,hv5,a5⟩=>?_) fun v H5 ⟨n5,e5,hv5⟩=>pan v H5 n5 hv5 (by rw[hx,← hR3,e5];rfl)
  subst hv5
  rw[e5,zi] at hR3
  have hlt:=(zC).lt (by decide) _ _ _ e5
  have K5:=K4.call a5
  have q5:=(a5.other hqr).trans q4
  simp(disch:=first|omega|assumption) only[go_sem]
  refine goP_ownS (by rw[hcl];exact K5.own) (by simp only[hcl,Al2,Al3];omega) (by simp only[hcl,Al2,Al3,maxLen];omega) fun o6 H6 hs6=>?_
  have K6:=K5.app (by simpa[hcl] using hs6)
  have q6:=K5.stay hs6 q5
  simp(disch:=first|omega|assumption) only[go_sem]
  refine goJ (hJ (o6,l++[x],t5) _ (by simp only;omega) ⟨by simpa using K6,q6,⟨m',by simp only;omega,hR3⟩,by simp only[Al5,Al2,Al3];omega⟩) (by simp(disch:=first|omega|assumption) only[cT,List.map_append,List.map_cons,List.map_nil,go_sem])
theorem zkZ {H:Heap} {r q:Nat} {L t:TS} {A1 A2 A3 A4:AV} (hq:H q=some (.cells [.ptr r 0,A1,A2,A3,A4])) (hqr:q≠r) (h:Y6 H r L t (16-16)) (hl:wT L≤zH) :
  ACalls Tryz.prog 161 [.ptr q 0] H (RpE H r L (16-16) (ZR t) AV.str):=by
 refine ym (ACalls.goO (R:=fun v H'=>za5 H r L (16-16) (ZR t) AV.str v.strip H') (RP:=fun v H'=>zbl (ZR t) v H') ir161 ck161 (Al4 _) fun KP Q hQ hP=>?_)
 have pan:∀(v:AV) (H1:Heap) (n:Int),v=yh n→(ZR t)=.error n→KP v H1:=fun v H1 n h1 h2=>hP v H1 H1 (Low.refl _) ⟨n,h2,h1⟩
 have fin:=KI.done hQ
 have hll:=za2 hl
 simp only[zH] at hll
 have K0:KI H r L t (16-16) H:=let ⟨_,hs,hr⟩:=h;KI.start hs hr
 have hx:=Eq.refl (ZR t)
 have q0:=hq
 conv at hx=>rhs;unfold ZR
 simp(disch:=first|omega|assumption) only[ir161,q0,go_sem]
 refine goK_ret (zaK K0.here hl) fun v H1 ⟨hv1,a1⟩=>?_
 subst hv1
 have K1:=K0.call a1
 have q1:=(a1.other hqr).trans q0
 simp(disch:=first|omega|assumption) only[q1,go_sem]
 refine goK_ret (zlr K1.here [116,114,117,101]) fun v H2 ⟨hv2,hH⟩=>?_
 subst hv2;subst hH
 cases hw1:isW [116,114,117,101] (zy t) with
 | true =>
  rw[if_pos (.inl hw1)] at hx
  simp(disch:=first|omega|assumption) only[q1,go_sem]
  exact goK_both (zak _ r 2) (fun _ _ h=>h.elim) fun v H3 h=>pan v H3 2 h hx
 | false =>
  simp(disch:=first|omega|assumption) only[q1,go_sem]
  refine goK_ret (zlr K1.here [102,97,108,115,101]) fun v H2 ⟨hv2,hH⟩=>?_
  subst hv2;subst hH
  cases hw2:isW [102,97,108,115,101] (zy t) with
  | true =>
   rw[if_pos (.inr (.inl hw2))] at hx
   simp(disch:=first|omega|assumption) only[q1,go_sem]
   exact goK_both (zak _ r 2) (fun _ _ h=>h.elim) fun v H3 h=>pan v H3 2 h hx
  | false =>
   simp(disch:=first|omega|assumption) only[q1,go_sem]
   refine goK_ret (zlr K1.here [110,117,108,108]) fun v H2 ⟨hv2,hH⟩=>?_
   subst hv2;subst hH
   cases hw3:isW [110,117,108,108] (zy t) with
   | true =>
    rw[if_pos (.inr (.inr hw3))] at hx
    simp(disch:=first|omega|assumption) only[q1,go_sem]
    exact goK_both (zak _ r 2) (fun _ _ h=>h.elim) fun v H3 h=>pan v H3 2 h hx
   | false =>
    rw[if_neg (by rw[hw1,hw2,hw3];simp)] at hx
    simp(disch:=first|omega|assumption) only[q1,go_sem]
    refine goK_both (zaj K1.here hl) (fun v H3 ⟨s,t3,e3,hv3,a3⟩=>?_) fun v H3 ⟨n,e3,hv3⟩=>pan v H3 n hv3 (by rw[hx,e3])
    subst hv3
    rw[e3] at hx
    simp(disch:=first|omega|assumption) only[go_sem]
    exact fin _ _ [.str s] s t3 (by simp(disch:=first|omega|assumption) only[ir161,resvs,resv,go_sem]) hx (K1.call a3) (by simp[tupOf,AV.strip,AV.strip1])
end Go.Proofs.YtaielcdfcgpbiaaGreatDoor
