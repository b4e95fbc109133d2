import Derived.Test.YticbbfbpeimkbaaGreatDoorM1
import Derived.Test.YticbbfbpeimkbaaGreatDoorM2
import Derived.Test.YticbbfbpeimkbaaGreatDoorM3
import Derived.Test.YticbbfbpeimkbaaGreatDoorM4
import Derived.Test.YticbbfbpeimkbaaGreatDoorM5
import Derived.Test.YticbbfbpeimkbaaGreatDoorM6
set_option maxRecDepth 100000
set_option linter.all false
namespace Go.Proofs.YticbbfbpeimkbaaGreatDoor
open Go.Ab
structure WAt (H:zh) (w:Nat) (o:Own) (l:List Tok) (ok:Bool) (dp:Int):Prop where
 cell:H w=some (.cells [.sl o 2 (cKs l),.bool ok,.int .i64 dp])
 own:yB H o l.length 2
structure WStep (H:zh) (o:Own) (w:Nat) (H':zh) (o':Own):Prop where
 keep:∀ c x,c≠w→(∀ d,o≠.tip c d)→H c=some x→H' c=some x
 new:∀ b d,o'=.tip b d→H b=none∨∃ d0,o=.tip b d0
theorem WStep.refl (H:zh) (o:Own) (w:Nat):WStep H o w H o:=⟨fun _ _ _ _ h=>h,fun b d e=>.inr ⟨d,e⟩⟩
theorem WStep.trans {H H1 H2:zh} {o o1 o2:Own} {w:Nat} {x:AObj} (h:WStep H o w H1 o1) (hw:H1 w=some x) (h':WStep H1 o1 w H2 o2):WStep H o w H2 o2:=by
 refine⟨fun c y hc hn hy=>h'.keep c y hc (fun d e=>?_) (h.keep c y hc hn hy),fun b d e=>?_⟩
 ·rcases h.new c d e with h1|⟨d0,h1⟩
  ·rw[hy] at h1;cases h1
  ·exact hn d0 h1
 ·rcases h'.new b d e with h1|⟨d0,h1⟩
  ·cases hb:H b with
   | none=>exact .inl rfl
   | some y =>
    by_cases e2:∃ d,o=.tip b d
    ·exact .inr e2
    ·have hbw:b≠w:=fun e3=>by subst e3;rw[hw] at h1;cases h1
     have:=h.keep b y hbw (fun d e3=>e2 ⟨d,e3⟩) hb
     rw[h1] at this;cases this
  ·exact h.new b d0 h1
theorem WStep.box {H H':zh} {o o':Own} {w b n:Nat} {cs:List AV} (h:WStep H o w H' o') (ho:yB H o n 2) (hb:H b=some (.cells cs)) (hw:b≠w):H' b=some (.cells cs) :=
 h.keep b _ hw (fun d e=>by subst e;exact own_ne ho hb rfl) hb
theorem WStep.upd {H H':zh} {o o':Own} {w:Nat} {x:AObj} (h:WStep H o w H' o'):WStep H o w (H'.upd w x) o' :=
 ⟨fun c y hc hn hy=>by rw[upd_ne hc];exact h.keep c y hc hn hy,h.new⟩
theorem WStep.alloc {H H':zh} {o o':Own} {w b:Nat} {x:AObj} (h:WStep H o w H' o') (hb:H' b=none):WStep H o w (H'.upd b x) o' :=
 ⟨fun c y hc hn hy=>by have:=h.keep c y hc hn hy;rw[upd_ne (fun e=>by subst e;rw[hb] at this;cases this)];exact this,h.new⟩
theorem WAt.alloc {H:zh} {w b:Nat} {o:Own} {l:List Tok} {ok:Bool} {dp:Int} {x:AObj} (h:WAt H w o l ok dp) (hb:H b=none):WAt (H.upd b x) w o l ok dp :=
 ⟨by rw[upd_ne (fun e=>by subst e;rw[h.cell] at hb;cases hb)];exact h.cell,h.own.upd hb⟩
theorem WAt.put {H:zh} {w:Nat} {o:Own} {l:List Tok} {ok ok':Bool} {dp dp':Int} (h:WAt H w o l ok dp):WAt (H.upd w (.cells [.sl o 2 (cKs l),.bool ok',.int .i64 dp'])) w o l ok' dp' :=
 ⟨upd_same ..,Ys h.own h.cell⟩
theorem WAt.app {H H1:zh} {w:Nat} {o o1:Own} {l ts:List Tok} {ok:Bool} {dp:Int} {n:Nat} (h:WAt H w o l ok dp) (hs:OwnS H o H1 o1 n 2) (hn:n=(l++ts).length) :
  H1 w=some (.cells [.sl o 2 (cKs l),.bool ok,.int .i64 dp])∧WAt (H1.upd w (.cells [.sl o1 2 (cKs (l++ts)),.bool ok,.int .i64 dp])) w o1 (l++ts) ok dp∧WStep H o w (H1.upd w (.cells [.sl o1 2 (cKs (l++ts)),.bool ok,.int .i64 dp])) o1:=by
 subst hn
 have hc:=Yc h.own h.cell hs.kept
 exact⟨hc,⟨upd_same ..,Ys hs.own hc⟩,fun c y hcw hn hy=>by rw[upd_ne hcw];exact hs.kept c y hy hn,hs.new⟩
abbrev zmS (R:AV→zh→Prop):AEnd→zh→Prop:=fun e H'=>∃ v,e=.ret v∧R v H'
def WC (f:FuncId) (args:List AV) (B:Nat) (lo hi:Int) (r:Int→Bool) (tk:List Tok):Prop :=
 ∀(H:zh) (w:Nat) (o:Own) (l:List Tok) (ok:Bool) (dp:Int),WAt H w o l ok dp→lo≤dp→dp≤hi→l.length+B≤Lim →
  zC Tryz.prog f (.ptr w 0::args) H (zmS fun v H'=>v=.tup []∧∃ o' l',WAt H' w o' l' (ok&&r dp) dp∧WStep H o w H' o'∧l'.length≤l.length+B∧((ok&&r dp)=true→l'=l++tk))
structure WR (H0:zh) (o0:Own) (w:Nat) (l0:List Tok) (ok0:Bool) (dp:Int) (B:Nat) (r:Bool) (tk:List Tok) (H:zh) (o:Own) (l:List Tok):Prop where
 here:WAt H w o l (ok0&&r) dp
 st:WStep H0 o0 w H o
 len:l.length≤l0.length+B
 eq:(ok0&&r)=true→l=l0++tk
theorem WR.refl {H:zh} {o:Own} {w:Nat} {l:List Tok} {ok:Bool} {dp:Int} (h:WAt H w o l ok dp):WR H o w l ok dp 0 true [] H o l :=
 ⟨by rw[Bool.and_true];exact h,.refl _ _ _,Al4 _,fun _=>by simp⟩
theorem WR.alloc {H0 H:zh} {o0 o:Own} {w b B:Nat} {l0 l tk:List Tok} {ok0 r:Bool} {dp:Int} {x:AObj} (h:WR H0 o0 w l0 ok0 dp B r tk H o l) (hb:H b=none):WR H0 o0 w l0 ok0 dp B r tk (H.upd b x) o l :=
 ⟨h.here.alloc hb,h.st.alloc hb,h.len,h.eq⟩
theorem WR.fin {H0 H:zh} {o0 o:Own} {w B B':Nat} {l0 l tk tk':List Tok} {ok0 r r':Bool} {dp:Int} (h:WR H0 o0 w l0 ok0 dp B r tk H o l) (hr:r=r') (ht:r'=true→tk=tk') (hB:B≤B') :
  ∃ o' l',WAt H w o' l' (ok0&&r') dp∧WStep H0 o0 w H o'∧l'.length≤l0.length+B'∧((ok0&&r')=true→l'=l0++tk'):=by
 subst hr
 refine⟨o,l,h.here,h.st,by have:=h.len;omega,fun e=>?_⟩
 rw[h.eq e,ht (by simp only[Al0] at e;exact e.2)]
section
variable {KP:AV→zh→Prop} {Q:AExit→Env→zh→Prop} {st:List Fr} {ρ:Env} {H:zh} {all items:List AItem} {d:Option Nat} {R:List Chk}
theorem YK {f:FuncId} {args:List AV} {B:Nat} {lo hi:Int} {r:Int→Bool} {tk:List Tok} (hc:WC f args B lo hi r tk) {w:Nat} {o:Own} {l:List Tok} {ok:Bool} {dp:Int} (h:WAt H w o l ok dp) (h0:lo≤dp) (h1:dp≤hi) (hb:l.length+B≤Lim)
  (k:∀ o' l' H',WAt H' w o' l' (ok&&r dp) dp→WStep H o w H' o'→l'.length≤l.length+B→((ok&&r dp)=true→l'=l++tk)→goR Tryz.prog KP Q all items st R (ρ.set d (.tup [])) H') :
  goK Tryz.prog KP Q all items st d R ρ f (.ptr w 0::args) H:=by
 refine zfj (hc H w o l ok dp h h0 h1 hb) fun v H' ⟨hv,o',l',h2,h3,h4,h5⟩=>?_
 subst hv
 exact k o' l' H' h2 h3 h4 h5
theorem zl {f:FuncId} {args:List AV} {B':Nat} {lo hi:Int} {r':Int→Bool} {tk':List Tok} (hc:WC f args B' lo hi r' tk') {H0:zh} {o0 o:Own} {w B:Nat} {l0 l tk:List Tok} {ok0 r:Bool} {dp:Int} (h:WR H0 o0 w l0 ok0 dp B r tk H o l) (h0:lo≤dp) (h1:dp≤hi)
  (hb:l0.length+(B+B')≤Lim) (k:∀ o' l' H',WR H0 o0 w l0 ok0 dp (B+B') (r&&r' dp) (tk++tk') H' o' l'→WStep H o w H' o'→goR Tryz.prog KP Q all items st R (ρ.set d (.tup [])) H') :
  goK Tryz.prog KP Q all items st d R ρ f (.ptr w 0::args) H:=by
 have hlen:=h.len
 refine YK hc h.here h0 h1 (by omega) fun o' l' H' h2 h3 h4 h5=>k o' l' H' ⟨by rw[← yM];exact h2,h.st.trans h.here.cell h3,by omega,fun e=>?_⟩ h3
 rw[← yM] at e
 rw[h5 e,h.eq (by simp only[Al0] at e ⊢;exact e.1),zd9]
end
theorem znW:zC Tryz.prog 69 [] zh.emp (zmS fun v H'=>∃ w,v=.ptr w 0∧WAt H' w .nil [] true 0):=by
 refine zC.go ir69 ck69 (Al4 _) fun KP Q hQ=>?_
 simp(disch:=first|omega|assumption) only[ir69,go_sem]
 refine zv fun b hb=>?_
 simp(disch:=first|omega|assumption) only[go_sem]
 exact hQ _ _ _ _ [_] nofun rfl (Low.refl _) ⟨b,rfl,upd_same ..,rfl⟩
theorem y1 (b:Bool):WC 70 [.bool b] 0 (-1000) 1000 (fun _=>b) []:=by
 intro H w o l ok dp h h0 h1 hb
 refine zC.go ir70 ck70 (Al4 _) fun KP Q hQ=>?_
 have hc:=h.cell
 cases ok
 ·simp(disch:=first|omega|assumption) only[ir70,hc,go_sem]
  exact hQ _ _ _ _ [] nofun rfl (Low.refl _) ⟨rfl,o,l,h.put,(WStep.refl ..).upd,by simp,fun _=>by simp⟩
 ·simp(disch:=first|omega|assumption) only[ir70,hc,go_sem]
  exact hQ _ _ _ _ [] nofun rfl (Low.refl _) ⟨rfl,o,l,by rw[Bool.true_and];exact h.put,(WStep.refl ..).upd,by simp,fun _=>by simp⟩
theorem yd (s:List UInt8) (hs:s.length≤Lim):WC 139 [.str s] 1 (-1000) 1000 (fun _=>zJ s) [wk s]:=by
 intro H w o l ok dp h h0 h1 hb
 refine zC.go ir139 ck139 (Al4 _) fun KP Q hQ=>?_
 have hkl:=z8 l
 simp only[Lim] at hb
 simp(disch:=first|omega|assumption) only[ir139,go_sem]
 refine zc (zeH s hs) ?_
 simp(disch:=first|omega|assumption) only[go_sem]
 refine YK (y1 _) h h0 h1 (by simp only[Lim];omega) fun o1 l1 H1 h2 h3 h4 h5=>?_
 have hkl1:=z8 l1
 have hc:=h2.cell
 simp(disch:=first|omega|assumption) only[hc,go_sem]
 refine zF (by rw[hkl1];exact h2.own) (by simp only[hkl1,Al2,Al3];omega) (by simp only[hkl1,Al2,Al3,maxLen];omega) fun o2 H2 hs2=>?_
 obtain⟨g1,g2,g3⟩:=h2.app (ts:=[wk s]) hs2 (by simp[hkl1])
 have ek:cKs l1++[[AV.int .i64 2,AV.str s]]=cKs (l1++[wk s]):=Yn l1 (wk s)
 simp(disch:=first|omega|assumption) only[g1,ek,go_sem]
 exact hQ _ _ _ _ [] nofun rfl (Low.refl _) ⟨rfl,o2,l1++[wk s],g2,h3.trans h2.cell g3,by simp;omega,fun e=>by rw[h5 e];simp⟩
theorem yn (m:List UInt8) (o9:Own):WC 140 [.sl o9 1 [[.str m]]] 1 (-1000) 1000 (fun _=>true) [pk m]:=by
 intro H w o l ok dp h h0 h1 hb
 refine zC.go ir140 ck140 (Al4 _) fun KP Q hQ=>?_
 simp only[Lim] at hb
 simp(disch:=first|omega|assumption) only[ir140,go_sem]
 refine zm [m] 8 (fun x:Own×List Tok=>[]) (fun done rest x H'=>WAt H' w x.1 x.2 ok dp∧WStep H o w H' x.1∧x.2=l++done.map pk) (o,l) (by simp(disch:=first|omega|assumption) only[go_sem]) ⟨h,.refl _ _ _,by simp⟩ ?_ ?_
 ·rintro⟨o1,l1⟩ H1 J ⟨h2,h3,h4⟩ hlt
  simp only at h2 h3 h4
  simp(disch:=first|omega|assumption) only[go_sem]
  refine hQ _ _ H1 H1 [] nofun rfl (Low.refl _) ⟨rfl,o1,l1,by simpa using h2,h3,by rw[h4];simp,fun _=>by rw[h4];simp⟩
 ·rintro done x rest ⟨o1,l1⟩ H1 J hd hlt hlt2 ⟨h2,h3,h4⟩ hJ
  simp only at h2 h3 h4
  have hl1:l1.length≤l.length+1:=by rw[h4];simp only[Al5,List.length_map];have:=congrArg List.length hd;simp at this;omega
  have hg:([[AV.str m]]:List (List AV)).getD done.length []=[.str x]:=by
   have:([m].map fun k=>[AV.str k]).getD done.length []=[.str x]:=yW hd
   exact this
  have hkl1:=z8 l1
  have hc:=h2.cell
  have hlt1:((done.length:Int)<1)=True:=eq_true (by simpa using hlt)
  have hdl:done.length<1:=by simpa using hlt2
  simp(disch:=first|omega|assumption) only[hlt1,hg,hc,go_sem]
  refine zF (by rw[hkl1];exact h2.own) (by simp only[hkl1,Al2,Al3];omega) (by simp only[hkl1,Al2,Al3,maxLen];omega) fun o2 H2 hs2=>?_
  obtain⟨g1,g2,g3⟩:=h2.app (ts:=[pk x]) hs2 (by simp[hkl1])
  have ek:cKs l1++[[AV.int .i64 1,AV.str x]]=cKs (l1++[pk x]):=Yn l1 (pk x)
  simp(disch:=first|omega|assumption) only[g1,ek,wrap64,go_sem]
  exact goJ (hJ (o2,l1++[pk x]) _ ⟨g2,h3.trans h2.cell g3,by rw[h4];simp⟩) (by simp(disch:=first|omega|assumption) only[go_sem])
theorem zel (v:Val):zaH v=if ZE v then yD v else []:=by unfold zaH;rfl
theorem zhu (v:Val) (hw:wfV v) (hv:4*bV v≤Lim) (fixed:Bool):WC 237 [.agg (cV v),.bool fixed] (4*bV v) 0 32 (fun dp=>yo dp fixed v) (yD v):=by
 intro H w o l ok dp h h0 h1 hb
 have hvb:bV v≤Lim:=by simp only[Lim] at hv ⊢;omega
 have htl:(zaH v).length≤4*bV v:=by
  have:=zbm v
  rw[zel];split
  ·omega
  ·simp
 have hkt:=z8 (zaH v)
 have hdv:=zbl v
 have hvl:=zbe v []
 have hcv:=y0 (ym v [])
 simp only[Lim] at hb hv
 refine zC.go ir237 ck237 (Al4 _) fun KP Q hQ=>?_
 have hc:=h.cell
 have fin:∀(b:Bool),b=yo dp fixed v→∀(H2:zh) (o2:Own) (l2:List Tok),WAt H2 w o2 l2 (ok&&b) dp→WStep H o w H2 o2→l2.length≤l.length+0→((ok&&b)=true→l2=l++[]) →
   ∀(H3:zh) (o3:Own),OwnS H2 o2 H3 o3 ((cKs l2).length+(cKs (zaH v)).length) 2 →
   H3 w=some (.cells [.sl o2 2 (cKs l2),.bool (ok&&b),.int .i64 dp])∧∃ o' l',WAt (H3.upd w (.cells [.sl o3 2 (cKs l2++cKs (zaH v)),.bool (ok&&b),.int .i64 dp])) w o' l' (ok&&yo dp fixed v) dp ∧
    WStep H o w (H3.upd w (.cells [.sl o3 2 (cKs l2++cKs (zaH v)),.bool (ok&&b),.int .i64 dp])) o'∧l'.length≤l.length+4*bV v∧((ok&&yo dp fixed v)=true→l'=l++yD v):=by
  intro b hbr H2 o2 l2 h2 h3 h4 h5 H3 o3 hs
  obtain⟨g1,g2,g3⟩:=h2.app (ts:=zaH v) hs (by simp[z8])
  rw[zbV] at g2 g3
  refine⟨g1,o3,l2++zaH v,by rw[← hbr];exact g2,h3.trans h2.cell g3,by simp only[Al5];omega,fun e=>?_⟩
  rw[← hbr] at e
  have er:yo dp fixed v=true:=by rw[← hbr];simp only[Al0] at e;exact e.2
  have ep:ZE v=true:=by simp only[yo,Al0] at er;exact er.1
  rw[h5 e,zel,ep];simp
 have d1:IntKind.wrap .i64 (dp+yG v)=dp+yG v:=wrap64 (by omega) (by omega)
 cases hp:ZE v with
 | false =>
  have hbr:false=yo dp fixed v:=by simp[yo,hp]
  simp(disch:=first|omega|assumption) only[zi,zf,zb,zj,zg,za,zk,ir237,go_sem]
  refine zc (zdd v hw hv) ?_
  simp(disch:=first|omega|assumption) only[hp,go_sem]
  refine YK (y1 _) h (by omega) (by omega) (by simp only[Lim];omega) fun o2 l2 H2 h2 h3 h4 h5=>?_
  have hk2:=z8 l2
  have hc2:=h2.cell
  simp(disch:=first|omega|assumption) only[hc2,go_sem]
  refine zF (by rw[hk2];exact h2.own) (by rw[hk2,hkt];omega) (by rw[hk2,hkt];simp only[maxLen];omega) fun o3 H3 hs3=>?_
  obtain⟨g1,g2⟩:=fin _ hbr H2 o2 l2 h2 h3 h4 h5 H3 o3 hs3
  simp(disch:=first|omega|assumption) only[g1,ZK,go_sem]
  exact hQ _ _ _ _ [] nofun rfl (Low.refl _) ⟨rfl,g2⟩
 | true =>
  by_cases hd:dp+yG v≤16
  case neg =>
   have hbr:false=yo dp fixed v:=by simp[yo,hd]
   simp(disch:=first|omega|assumption) only[zi,zf,zb,zj,zg,za,zk,ir237,go_sem]
   refine zc (zdd v hw hv) ?_
   simp(disch:=first|omega|assumption) only[zi,zf,zb,zj,zg,za,zk,hp,hc,go_sem]
   refine zc (zfi v hvb) ?_
   simp(disch:=first|omega|assumption) only[zi,zf,zb,zj,zg,za,zk,d1,hd,hc,go_sem]
   refine YK (y1 _) h (by omega) (by omega) (by simp only[Lim];omega) fun o2 l2 H2 h2 h3 h4 h5=>?_
   have hk2:=z8 l2
   have hc2:=h2.cell
   simp(disch:=first|omega|assumption) only[hc2,go_sem]
   refine zF (by rw[hk2];exact h2.own) (by rw[hk2,hkt];omega) (by rw[hk2,hkt];simp only[maxLen];omega) fun o3 H3 hs3=>?_
   obtain⟨g1,g2⟩:=fin _ hbr H2 o2 l2 h2 h3 h4 h5 H3 o3 hs3
   simp(disch:=first|omega|assumption) only[g1,ZK,go_sem]
   exact hQ _ _ _ _ [] nofun rfl (Low.refl _) ⟨rfl,g2⟩
  cases fixed with
  | false =>
   have hbr:true=yo dp false v:=by simp[yo,hd,hp]
   simp(disch:=first|omega|assumption) only[zi,zf,zb,zj,zg,za,zk,ir237,go_sem]
   refine zc (zdd v hw hv) ?_
   simp(disch:=first|omega|assumption) only[zi,zf,zb,zj,zg,za,zk,hp,hc,go_sem]
   refine zc (zfi v hvb) ?_
   simp(disch:=first|omega|assumption) only[zi,zf,zb,zj,zg,za,zk,d1,hd,hc,go_sem]
   refine YK (y1 _) h (by omega) (by omega) (by simp only[Lim];omega) fun o2 l2 H2 h2 h3 h4 h5=>?_
   have hk2:=z8 l2
   have hc2:=h2.cell
   simp(disch:=first|omega|assumption) only[hc2,go_sem]
   refine zF (by rw[hk2];exact h2.own) (by rw[hk2,hkt];omega) (by rw[hk2,hkt];simp only[maxLen];omega) fun o3 H3 hs3=>?_
   obtain⟨g1,g2⟩:=fin _ hbr H2 o2 l2 h2 h3 h4 h5 H3 o3 hs3
   simp(disch:=first|omega|assumption) only[g1,ZK,go_sem]
   exact hQ _ _ _ _ [] nofun rfl (Low.refl _) ⟨rfl,g2⟩
  | true =>
   simp(disch:=first|omega|assumption) only[zi,zf,zb,zj,zg,za,zk,ir237,go_sem]
   refine zc (zdd v hw hv) ?_
   simp(disch:=first|omega|assumption) only[zi,zf,zb,zj,zg,za,zk,hp,hc,go_sem]
   refine zc (zfi v hvb) ?_
   simp(disch:=first|omega|assumption) only[zi,zf,zb,zj,zg,za,zk,d1,hd,hc,go_sem]
   refine zc (zmQ v hvb) ?_
   by_cases hz:(ym v []).length=0
   ·have hbr:true=yo dp true v:=by simp[yo,hd,hp,hz]
    have hz':¬ ((0:Int)<(ym v []).length):=by omega
    simp(disch:=first|omega|assumption) only[zi,zf,zb,zj,zg,za,zk,hcv,hz',go_sem]
    refine YK (y1 _) h (by omega) (by omega) (by simp only[Lim];omega) fun o2 l2 H2 h2 h3 h4 h5=>?_
    have hk2:=z8 l2
    have hc2:=h2.cell
    simp(disch:=first|omega|assumption) only[hc2,go_sem]
    refine zF (by rw[hk2];exact h2.own) (by rw[hk2,hkt];omega) (by rw[hk2,hkt];simp only[maxLen];omega) fun o3 H3 hs3=>?_
    obtain⟨g1,g2⟩:=fin _ hbr H2 o2 l2 h2 h3 h4 h5 H3 o3 hs3
    simp(disch:=first|omega|assumption) only[g1,ZK,go_sem]
    exact hQ _ _ _ _ [] nofun rfl (Low.refl _) ⟨rfl,g2⟩
   ·have hbr:false=yo dp true v:=by simp[yo,hd,hp,hz]
    have hz':((0:Int)<(ym v []).length)=True:=eq_true (by omega)
    simp(disch:=first|omega|assumption) only[zi,zf,zb,zj,zg,za,zk,hcv,hz',go_sem]
    refine YK (y1 _) h (by omega) (by omega) (by simp only[Lim];omega) fun o2 l2 H2 h2 h3 h4 h5=>?_
    have hk2:=z8 l2
    have hc2:=h2.cell
    simp(disch:=first|omega|assumption) only[hc2,go_sem]
    refine zF (by rw[hk2];exact h2.own) (by rw[hk2,hkt];omega) (by rw[hk2,hkt];simp only[maxLen];omega) fun o3 H3 hs3=>?_
    obtain⟨g1,g2⟩:=fin _ hbr H2 o2 l2 h2 h3 h4 h5 H3 o3 hs3
    simp(disch:=first|omega|assumption) only[g1,ZK,go_sem]
    exact hQ _ _ _ _ [] nofun rfl (Low.refl _) ⟨rfl,g2⟩
theorem zkp (m:Int) (k:Nat) (hk:k≤64):m.fdiv (2 ^ min k IntKind.i64.bits)=m / 2 ^ k:=by
 have e:min k IntKind.i64.bits=k:=by show min k 64=k;omega
 have hp:(0:Int)≤2 ^ k:=by exact_mod_cast Nat.zero_le _
 rw[e,Int.fdiv_eq_ediv_of_nonneg _ hp]
theorem zjY (t:TyD) (hs:t.nm.length≤Lim):zo Tryz.prog 125 [.agg (cTy t)] (.bool (zT t)):=by
 refine zo.go ir125 ck125 (Al4 _) fun KP Q hQ=>?_
 obtain⟨nm,ls,ms⟩:=t
 simp only at hs
 simp(disch:=first|omega|assumption) only[ir125,cTy,steps,st2,pev,rev,oev,zL,zQ,zX,zY,bound,zx,mm2,mk,zr,AV.cells,AV.boxable,AV.one,AV.strip1,zy,zw,Nat.reduceEqDiff,reduceCtorEq,↓reduceIte,Nat.reduceAdd,Int.reduceNeg,Nat.reduceLeDiff,Int.reduceToNat,Int.reduceEq,Int.reduceLT,Int.reduceLE,Int.reduceAdd,Io,Im,If,Il,Jt,Jf,AC.rg,Jm,Jl,Ja,Fm,Fl,Fa,Imv,Imb,Iai,Iei,Igi,Isi,Ipf,Ipt,Ilb,Iia,Ilt,Iap,Ink,Iln,Ils,Iad,Iex,Ibx,Ing]
 refine zc (zeH nm hs) ?_
 cases h1:zJ nm with
 | false =>
  simp(disch:=first|omega|assumption) only[steps,st2,pev,rev,oev,zL,zQ,zX,zY,bound,zx,mm2,mk,zr,AV.cells,AV.boxable,AV.one,AV.strip1,zy,zw,Nat.reduceEqDiff,reduceCtorEq,↓reduceIte,Nat.reduceAdd,Int.reduceNeg,Nat.reduceLeDiff,Int.reduceToNat,Int.reduceEq,Int.reduceLT,Int.reduceLE,Int.reduceAdd]
  exact hQ _ _ _ _ nofun rfl (by simp[ze,zd,AV.strip,AV.strip1,zT,h1])
 | true =>
  by_cases h2:0≤ls
  case neg =>
   simp(disch:=first|omega|assumption) only[h2,steps,st2,pev,rev,oev,zL,zQ,zX,zY,bound,zx,mm2,mk,zr,AV.cells,AV.boxable,AV.one,AV.strip1,zy,zw,Nat.reduceEqDiff,reduceCtorEq,↓reduceIte,Nat.reduceAdd,Int.reduceNeg,Nat.reduceLeDiff,Int.reduceToNat,Int.reduceEq,Int.reduceLT,Int.reduceLE,Int.reduceAdd]
   exact hQ _ _ _ _ nofun rfl (by simp[ze,zd,AV.strip,AV.strip1,zT,h1,h2])
  by_cases h3:ls≤4
  case neg =>
   simp(disch:=first|omega|assumption) only[h2,h3,steps,st2,pev,rev,oev,zL,zQ,zX,zY,bound,zx,mm2,mk,zr,AV.cells,AV.boxable,AV.one,AV.strip1,zy,zw,Nat.reduceEqDiff,reduceCtorEq,↓reduceIte,Nat.reduceAdd,Int.reduceNeg,Nat.reduceLeDiff,Int.reduceToNat,Int.reduceEq,Int.reduceLT,Int.reduceLE,Int.reduceAdd]
   exact hQ _ _ _ _ nofun rfl (by simp[ze,zd,AV.strip,AV.strip1,zT,h1,h2,h3])
  by_cases h4:0≤ms
  case neg =>
   simp(disch:=first|omega|assumption) only[h2,h3,h4,steps,st2,pev,rev,oev,zL,zQ,zX,zY,bound,zx,mm2,mk,zr,AV.cells,AV.boxable,AV.one,AV.strip1,zy,zw,Nat.reduceEqDiff,reduceCtorEq,↓reduceIte,Nat.reduceAdd,Int.reduceNeg,Nat.reduceLeDiff,Int.reduceToNat,Int.reduceEq,Int.reduceLT,Int.reduceLE,Int.reduceAdd]
   exact hQ _ _ _ _ nofun rfl (by simp[ze,zd,AV.strip,AV.strip1,zT,h1,h2,h3,h4])
  have w1:IntKind.wrap .i64 (ls+1)=ls+1:=wrap64 (by omega) (by omega)
  have w2:¬ (ls+1<0):=by omega
  have e1:(ls+1).toNat=ls.toNat+1:=by omega
  have e2:=zkp ms (ls.toNat+1) (by omega)
  have hpow:(0:Int)<2 ^ (ls.toNat+1):=by exact_mod_cast Nat.pos_of_ne_zero (by simp)
  have e3:(ms / 2 ^ (ls.toNat+1)=0)=(ms<2 ^ (ls.toNat+1)):=propext ⟨fun h=>by
   by_cases hlt:ms<2 ^ (ls.toNat+1)
   ·exact hlt
   ·have:=(Int.le_ediv_iff_mul_le hpow).2 (show 1*2 ^ (ls.toNat+1)≤ms by omega)
    omega,fun h=>Int.ediv_eq_zero_of_lt h4 h⟩
  simp(disch:=first|omega|assumption) only[h2,h3,h4,w1,w2,e1,e2,e3,steps,st2,pev,rev,oev,zL,zQ,zX,zY,bound,zx,mm2,mk,zr,AV.cells,AV.boxable,AV.one,AV.strip1,zy,zw,Nat.reduceEqDiff,reduceCtorEq,↓reduceIte,Nat.reduceAdd,Int.reduceNeg,Nat.reduceLeDiff,Int.reduceToNat,Int.reduceEq,Int.reduceLT,Int.reduceLE,Int.reduceAdd]
  exact hQ _ _ _ _ nofun rfl (by simp[ze,zd,AV.strip,AV.strip1,zT,h1,h2,h3,h4])
theorem WR.cast {H0 H:zh} {o0 o:Own} {w B B':Nat} {l0 l tk tk':List Tok} {ok0 r r':Bool} {dp:Int} (h:WR H0 o0 w l0 ok0 dp B r tk H o l) (hB:B≤B') (hr:r=r') (ht:tk=tk'):WR H0 o0 w l0 ok0 dp B' r' tk' H o l:=by
 subst hr;subst ht
 exact⟨h.here,h.st,by have:=h.len;omega,h.eq⟩
theorem WR.after {H0 H1 H:zh} {o0 o1 o:Own} {w B:Nat} {l0 l tk:List Tok} {ok0 r:Bool} {dp:Int} (h:WR H1 o1 w l0 ok0 dp B r tk H o l) (hs:WStep H0 o0 w H1 o1) {x:AObj} (hw:H1 w=some x):WR H0 o0 w l0 ok0 dp B r tk H o l :=
 ⟨h.here,hs.trans hw h.st,h.len,h.eq⟩
def ZO (n:Nat) (m:Int):Nat→List Tok
 | 0=>[]
 | j+1=>zgW n m j++ZO n m j
theorem zbo (n:Nat) (m:Int):∀ j,zjp n m j=ZO n m (j+1)
 | 0=>by simp[zjp,ZO]
 | j+1=>by rw[zjp,zbo n m j];rfl
theorem and1 {x:Int} (h0:0≤x) (h1:x<64):IntKind.wrap .i64 ((BitVec.ofInt IntKind.i64.bits x &&& BitVec.ofInt IntKind.i64.bits 1).toNat:Int)=x % 2:=by
 have:∀ y:Fin 64,IntKind.wrap .i64 ((BitVec.ofInt IntKind.i64.bits (y.val:Int) &&& BitVec.ofInt IntKind.i64.bits 1).toNat:Int)=(y.val:Int) % 2:=by decide +kernel
 have:=this ⟨x.toNat,by omega⟩
 simp only[Int.toNat_of_nonneg h0] at this
 exact this
theorem zcl (t:TyD) (hs:t.nm.length≤Lim):WC 141 [.agg (cTy t)] 20 (-1000) 1000 (fun _=>zT t) (tTy t):=by
 intro H w o l ok dp h h0 h1 hb
 have hb0:=hb
 simp only[Lim] at hb
 refine zC.go ir141 ck141 (Al4 _) fun KP Q hQ=>?_
 obtain⟨nm,ls,ms⟩:=t
 simp only at hs
 have et:cTy ⟨nm,ls,ms⟩=[.str nm,.int .i64 ls,.int .i64 ms]:=rfl
 simp(disch:=first|omega|assumption) only[ir141,et,steps,st2,pev,rev,oev,zL,zQ,zX,zY,bound,zx,mm2,mk,zr,AV.cells,AV.boxable,AV.one,AV.strip1,zy,zw,Nat.reduceEqDiff,reduceCtorEq,↓reduceIte,Nat.reduceAdd,Int.reduceNeg,Nat.reduceLeDiff,Int.reduceToNat,Int.reduceEq,Int.reduceLT,Int.reduceLE,Int.reduceAdd,Io,Im,If,Il,Jt,Jf,AC.rg,Jm,Jl,Ja,Fm,Fl,Fa,Imv,Imb,Iai,Iei,Igi,Isi,Ipf,Ipt,Ilb,Iia,Ilt,Iap,Ink,Iln,Ils,Iad,Iex,Ibx,Ing]
 refine zc (show zo Tryz.prog 125 [.agg [.str nm,.int .i64 ls,.int .i64 ms]] (.bool (zT ⟨nm,ls,ms⟩)) from zjY ⟨nm,ls,ms⟩ hs) ?_
 simp(disch:=first|omega|assumption) only[steps,st2,pev,rev,oev,zL,zQ,zX,zY,bound,zx,mm2,mk,zr,AV.cells,AV.boxable,AV.one,AV.strip1,zy,zw,Nat.reduceEqDiff,reduceCtorEq,↓reduceIte,Nat.reduceAdd,Int.reduceNeg,Nat.reduceLeDiff,Int.reduceToNat,Int.reduceEq,Int.reduceLT,Int.reduceLE,Int.reduceAdd]
 refine YK (y1 _) h (by omega) (by omega) (by simp only[Lim];omega) fun o2 l2 H2 h2 h3 h4 h5=>?_
 have hc2:=h2.cell
 cases hok:ok&&zT ⟨nm,ls,ms⟩ with
 | false =>
  rw[hok] at h2 hc2
  simp(disch:=first|omega|assumption) only[hc2,steps,st2,pev,rev,oev,zL,zQ,zX,zY,bound,zx,mm2,mk,zr,AV.cells,AV.boxable,AV.one,AV.strip1,zy,zw,Nat.reduceEqDiff,reduceCtorEq,↓reduceIte,Nat.reduceAdd,Int.reduceNeg,Nat.reduceLeDiff,Int.reduceToNat,Int.reduceEq,Int.reduceLT,Int.reduceLE,Int.reduceAdd]
  exact hQ _ _ H2 H2 [] nofun rfl (Low.refl _) ⟨rfl,o2,l2,by rw[hok];exact h2,h3,by omega,fun e=>by rw[hok] at e;cases e⟩
 | true =>
  rw[hok] at h2 hc2 h5
  have e2:l2=l:=by have:=h5 rfl;simpa using this
  subst e2
  have hrt:zT ⟨nm,ls,ms⟩=true:=by simp only[Al0] at hok;exact hok.2
  have hok1:ok=true:=by simp only[Al0] at hok;exact hok.1
  simp only[zT,Al0,yv] at hrt
  obtain⟨hnm,r1,r2,r3,r4⟩:=hrt
  obtain⟨n,rfl⟩:∃ n:Nat,ls=(n:Int):=⟨ls.toNat,by omega⟩
  have en:(n:Int).toNat=n:=by omega
  rw[en] at r4
  have hn4:n≤4:=by omega
  have hms:ms<64:=by
   have:(2:Int) ^ (n+1)≤2 ^ 5:=by exact_mod_cast Nat.pow_le_pow_right (by decide) (by omega:n+1≤5)
   omega
  have w0:=WR.refl h2
  simp(disch:=first|omega|assumption) only[hc2,steps,st2,pev,rev,oev,zL,zQ,zX,zY,bound,zx,mm2,mk,zr,AV.cells,AV.boxable,AV.one,AV.strip1,zy,zw,Nat.reduceEqDiff,reduceCtorEq,↓reduceIte,Nat.reduceAdd,Int.reduceNeg,Nat.reduceLeDiff,Int.reduceToNat,Int.reduceEq,Int.reduceLT,Int.reduceLE,Int.reduceAdd]
  refine yO (fun x:Nat×Own×List Tok=>[(16,.int .i64 x.1)]) (fun x H'=>x.1≤n∧WR H2 o2 w l2 true dp x.1 true (List.replicate x.1 (pk [91])) H' x.2.1 x.2.2) (fun x=>n-x.1) (0,o2,l2) (by simp(disch:=first|omega|assumption) only[steps,st2,pev,rev,oev,zL,zQ,zX,zY,bound,zx,mm2,mk,zr,AV.cells,AV.boxable,AV.one,AV.strip1,zy,zw,Nat.reduceEqDiff,reduceCtorEq,↓reduceIte,Nat.reduceAdd,Int.reduceNeg,Nat.reduceLeDiff,Int.reduceToNat,Int.reduceEq,Int.reduceLT,Int.reduceLE,Int.reduceAdd]) ⟨by simp,w0⟩ ?_
  rintro⟨i,o3,l3⟩ H3 J ⟨hi,w3⟩ hJ
  simp only at hi w3
  by_cases hlt:i<n
  ·have hlt':((i:Int)<n)=True:=eq_true (by omega)
   simp(disch:=first|omega|assumption) only[hlt',steps,st2,pev,rev,oev,zL,zQ,zX,zY,bound,zx,mm2,mk,zr,AV.cells,AV.boxable,AV.one,AV.strip1,zy,zw,Nat.reduceEqDiff,reduceCtorEq,↓reduceIte,Nat.reduceAdd,Int.reduceNeg,Nat.reduceLeDiff,Int.reduceToNat,Int.reduceEq,Int.reduceLT,Int.reduceLE,Int.reduceAdd]
   refine zl (yn [91] _) w3 (by omega) (by omega) (by simp only[Lim];omega) fun o4 l4 H4 w4 _=>?_
   simp(disch:=first|omega|assumption) only[wrap64,steps,st2,pev,rev,oev,zL,zQ,zX,zY,bound,zx,mm2,mk,zr,AV.cells,AV.boxable,AV.one,AV.strip1,zy,zw,Nat.reduceEqDiff,reduceCtorEq,↓reduceIte,Nat.reduceAdd,Int.reduceNeg,Nat.reduceLeDiff,Int.reduceToNat,Int.reduceEq,Int.reduceLT,Int.reduceLE,Int.reduceAdd]
   exact goJ (hJ (i+1,o4,l4) H4 (by simp only;omega) ⟨by simp only;omega,w4.cast (Al4 _) rfl (by rw[List.replicate_succ'])⟩) (by simp(disch:=first|omega|assumption) only[Int.natCast_add,steps,st2,pev,rev,oev,zL,zQ,zX,zY,bound,zx,mm2,mk,zr,AV.cells,AV.boxable,AV.one,AV.strip1,zy,zw,Nat.reduceEqDiff,reduceCtorEq,↓reduceIte,Nat.reduceAdd,Int.reduceNeg,Nat.reduceLeDiff,Int.reduceToNat,Int.reduceEq,Int.reduceLT,Int.reduceLE,Int.reduceAdd])
  ·have hlt':¬ ((i:Int)<n):=by omega
   obtain rfl:i=n:=by omega
   simp(disch:=first|omega|assumption) only[hlt',steps,st2,pev,rev,oev,zL,zQ,zX,zY,bound,zx,mm2,mk,zr,AV.cells,AV.boxable,AV.one,AV.strip1,zy,zw,Nat.reduceEqDiff,reduceCtorEq,↓reduceIte,Nat.reduceAdd,Int.reduceNeg,Nat.reduceLeDiff,Int.reduceToNat,Int.reduceEq,Int.reduceLT,Int.reduceLE,Int.reduceAdd]
   refine zl (yd nm hs) w3 (by omega) (by omega) (by simp only[Lim];omega) fun o4 l4 H4 w4 _=>?_
   rw[hnm] at w4
   simp(disch:=first|omega|assumption) only[steps,st2,pev,rev,oev,zL,zQ,zX,zY,bound,zx,mm2,mk,zr,AV.cells,AV.boxable,AV.one,AV.strip1,zy,zw,Nat.reduceEqDiff,reduceCtorEq,↓reduceIte,Nat.reduceAdd,Int.reduceNeg,Nat.reduceLeDiff,Int.reduceToNat,Int.reduceEq,Int.reduceLT,Int.reduceLE,Int.reduceAdd]
   refine yO (fun x:Nat×Own×List Tok×Nat×List Tok=>[(4,.int .i64 ((x.1:Int)-1))]) (fun x H'=>x.1≤i+1∧x.2.2.2.1+2*x.1≤19∧x.2.2.2.2++ZO i ms x.1=tTy ⟨nm,i,ms⟩∧WR H2 o2 w l2 true dp x.2.2.2.1 true x.2.2.2.2 H' x.2.1 x.2.2.1) (fun x=>x.1)
    (i+1,o4,l4,i+1,List.replicate i (pk [91])++[wk nm]) (by simp(disch:=first|omega|assumption) only[Int.natCast_add,Int.add_sub_cancel,steps,st2,pev,rev,oev,zL,zQ,zX,zY,bound,zx,mm2,mk,zr,AV.cells,AV.boxable,AV.one,AV.strip1,zy,zw,Nat.reduceEqDiff,reduceCtorEq,↓reduceIte,Nat.reduceAdd,Int.reduceNeg,Nat.reduceLeDiff,Int.reduceToNat,Int.reduceEq,Int.reduceLT,Int.reduceLE,Int.reduceAdd]) ⟨by simp,by simp only;omega,by simp only[tTy,en,zbo];simp,w4.cast (Al4 _) rfl rfl⟩ ?_
   rintro⟨k,o5,l5,B,tk⟩ H5 J5 ⟨hk,hB,htk,w5⟩ hJ5
   simp only at hk hB htk w5
   cases k with
   | zero =>
    have hz:¬ ((0:Int)≤-1):=by omega
    have w6:=w5.after h3 h2.cell
    simp only[ZO,List.append_nil] at htk
    simp(disch:=first|omega|assumption) only[hz,Int.reduceSub,steps,st2,pev,rev,oev,zL,zQ,zX,zY,bound,zx,mm2,mk,zr,AV.cells,AV.boxable,AV.one,AV.strip1,zy,zw,Nat.reduceEqDiff,reduceCtorEq,↓reduceIte,Nat.reduceAdd,Int.reduceNeg,Nat.reduceLeDiff,Int.reduceToNat,Int.reduceEq,Int.reduceLT,Int.reduceLE,Int.reduceAdd]
    refine hQ _ _ H5 H5 [] nofun rfl (Low.refl _) ⟨rfl,?_⟩
    obtain⟨o',l',g1,g2,g3,g4⟩:=w6.fin (B':=20) rfl (fun _=>htk) (by omega)
    rw[hok]
    exact⟨o',l',by simpa using g1,g2,by omega,fun _=>by simpa using g4 rfl⟩
   | succ j =>
    have e0:((j+1:Nat):Int)-1=(j:Int):=by omega
    have hz:((0:Int)≤j)=True:=eq_true (by omega)
    have hbit:=zkp ms j (by omega)
    have hq0:0≤ms / 2 ^ j:=Int.ediv_nonneg r3 (by exact_mod_cast Nat.zero_le _)
    have hq1:ms / 2 ^ j<64:=by
     have:ms / 2 ^ j≤ms:=Int.ediv_le_self _ r3
     omega
    have ha:=and1 hq0 hq1
    have hj0:¬ ((j:Int)<0):=by omega
    simp only[ZO,zgW] at htk
    by_cases hji:j<i
    ·have hji':((j:Int)<i)=True:=eq_true (by omega)
     rw[if_pos hji] at htk
     simp(disch:=first|omega|assumption) only[e0,hz,hji',steps,st2,pev,rev,oev,zL,zQ,zX,zY,bound,zx,mm2,mk,zr,AV.cells,AV.boxable,AV.one,AV.strip1,zy,zw,Nat.reduceEqDiff,reduceCtorEq,↓reduceIte,Nat.reduceAdd,Int.reduceNeg,Nat.reduceLeDiff,Int.reduceToNat,Int.reduceEq,Int.reduceLT,Int.reduceLE,Int.reduceAdd]
     refine zl (yn [93] _) w5 (by omega) (by omega) (by simp only[Lim];omega) fun o6 l6 H6 w6 _=>?_
     by_cases hbt:ms / 2 ^ j % 2=1
     ·have hbb:zaN ms j=true:=by simp[zaN,hbt]
      rw[hbb] at htk
      simp(disch:=first|omega|assumption) only[hbit,hj0,ha,hbt,steps,st2,pev,rev,oev,zL,zQ,zX,zY,bound,zx,mm2,mk,zr,AV.cells,AV.boxable,AV.one,AV.strip1,zy,zw,Nat.reduceEqDiff,reduceCtorEq,↓reduceIte,Nat.reduceAdd,Int.reduceNeg,Nat.reduceLeDiff,Int.reduceToNat,Int.reduceEq,Int.reduceLT,Int.reduceLE,Int.reduceAdd]
      refine zl (yn [33] _) w6 (by omega) (by omega) (by simp only[Lim];omega) fun o7 l7 H7 w7 _=>?_
      simp(disch:=first|omega|assumption) only[wrap64,steps,st2,pev,rev,oev,zL,zQ,zX,zY,bound,zx,mm2,mk,zr,AV.cells,AV.boxable,AV.one,AV.strip1,zy,zw,Nat.reduceEqDiff,reduceCtorEq,↓reduceIte,Nat.reduceAdd,Int.reduceNeg,Nat.reduceLeDiff,Int.reduceToNat,Int.reduceEq,Int.reduceLT,Int.reduceLE,Int.reduceAdd]
      exact goJ (hJ5 (j,o7,l7,B+1+1,tk++[pk [93]]++[pk [33]]) H7 (Nat.lt_succ_self j) ⟨by simp only;omega,by simp only;omega,by rw[← htk];simp,w7.cast (Al4 _) rfl rfl⟩) (by simp(disch:=first|omega|assumption) only[steps,st2,pev,rev,oev,zL,zQ,zX,zY,bound,zx,mm2,mk,zr,AV.cells,AV.boxable,AV.one,AV.strip1,zy,zw,Nat.reduceEqDiff,reduceCtorEq,↓reduceIte,Nat.reduceAdd,Int.reduceNeg,Nat.reduceLeDiff,Int.reduceToNat,Int.reduceEq,Int.reduceLT,Int.reduceLE,Int.reduceAdd])
     ·have hbb:zaN ms j=false:=by simp[zaN,hbt]
      rw[hbb] at htk
      simp(disch:=first|omega|assumption) only[hbit,hj0,ha,hbt,wrap64,steps,st2,pev,rev,oev,zL,zQ,zX,zY,bound,zx,mm2,mk,zr,AV.cells,AV.boxable,AV.one,AV.strip1,zy,zw,Nat.reduceEqDiff,reduceCtorEq,↓reduceIte,Nat.reduceAdd,Int.reduceNeg,Nat.reduceLeDiff,Int.reduceToNat,Int.reduceEq,Int.reduceLT,Int.reduceLE,Int.reduceAdd]
      exact goJ (hJ5 (j,o6,l6,B+1,tk++[pk [93]]) H6 (Nat.lt_succ_self j) ⟨by simp only;omega,by simp only;omega,by rw[← htk];simp,w6.cast (Al4 _) rfl rfl⟩) (by simp(disch:=first|omega|assumption) only[steps,st2,pev,rev,oev,zL,zQ,zX,zY,bound,zx,mm2,mk,zr,AV.cells,AV.boxable,AV.one,AV.strip1,zy,zw,Nat.reduceEqDiff,reduceCtorEq,↓reduceIte,Nat.reduceAdd,Int.reduceNeg,Nat.reduceLeDiff,Int.reduceToNat,Int.reduceEq,Int.reduceLT,Int.reduceLE,Int.reduceAdd])
    ·have hji':¬ ((j:Int)<i):=by omega
     rw[if_neg hji] at htk
     by_cases hbt:ms / 2 ^ j % 2=1
     ·have hbb:zaN ms j=true:=by simp[zaN,hbt]
      rw[hbb] at htk
      simp(disch:=first|omega|assumption) only[e0,hz,hji',hbit,hj0,ha,hbt,steps,st2,pev,rev,oev,zL,zQ,zX,zY,bound,zx,mm2,mk,zr,AV.cells,AV.boxable,AV.one,AV.strip1,zy,zw,Nat.reduceEqDiff,reduceCtorEq,↓reduceIte,Nat.reduceAdd,Int.reduceNeg,Nat.reduceLeDiff,Int.reduceToNat,Int.reduceEq,Int.reduceLT,Int.reduceLE,Int.reduceAdd]
      refine zl (yn [33] _) w5 (by omega) (by omega) (by simp only[Lim];omega) fun o7 l7 H7 w7 _=>?_
      simp(disch:=first|omega|assumption) only[wrap64,steps,st2,pev,rev,oev,zL,zQ,zX,zY,bound,zx,mm2,mk,zr,AV.cells,AV.boxable,AV.one,AV.strip1,zy,zw,Nat.reduceEqDiff,reduceCtorEq,↓reduceIte,Nat.reduceAdd,Int.reduceNeg,Nat.reduceLeDiff,Int.reduceToNat,Int.reduceEq,Int.reduceLT,Int.reduceLE,Int.reduceAdd]
      exact goJ (hJ5 (j,o7,l7,B+1,tk++[pk [33]]) H7 (Nat.lt_succ_self j) ⟨by simp only;omega,by simp only;omega,by rw[← htk];simp,w7.cast (Al4 _) rfl rfl⟩) (by simp(disch:=first|omega|assumption) only[steps,st2,pev,rev,oev,zL,zQ,zX,zY,bound,zx,mm2,mk,zr,AV.cells,AV.boxable,AV.one,AV.strip1,zy,zw,Nat.reduceEqDiff,reduceCtorEq,↓reduceIte,Nat.reduceAdd,Int.reduceNeg,Nat.reduceLeDiff,Int.reduceToNat,Int.reduceEq,Int.reduceLT,Int.reduceLE,Int.reduceAdd])
     ·have hbb:zaN ms j=false:=by simp[zaN,hbt]
      rw[hbb] at htk
      simp(disch:=first|omega|assumption) only[e0,hz,hji',hbit,hj0,ha,hbt,wrap64,steps,st2,pev,rev,oev,zL,zQ,zX,zY,bound,zx,mm2,mk,zr,AV.cells,AV.boxable,AV.one,AV.strip1,zy,zw,Nat.reduceEqDiff,reduceCtorEq,↓reduceIte,Nat.reduceAdd,Int.reduceNeg,Nat.reduceLeDiff,Int.reduceToNat,Int.reduceEq,Int.reduceLT,Int.reduceLE,Int.reduceAdd]
      exact goJ (hJ5 (j,o5,l5,B,tk) H5 (Nat.lt_succ_self j) ⟨by simp only;omega,by simp only;omega,by rw[← htk];simp,w5⟩) (by simp(disch:=first|omega|assumption) only[steps,st2,pev,rev,oev,zL,zQ,zX,zY,bound,zx,mm2,mk,zr,AV.cells,AV.boxable,AV.one,AV.strip1,zy,zw,Nat.reduceEqDiff,reduceCtorEq,↓reduceIte,Nat.reduceAdd,Int.reduceNeg,Nat.reduceLeDiff,Int.reduceToNat,Int.reduceEq,Int.reduceLT,Int.reduceLE,Int.reduceAdd])
theorem Yw (has:Bool) (v:Val) (hw:wfV v) (hv:4*bV v≤Lim):WC 142 [.bool has,.agg (cV v)] (1+4*bV v) 0 32 (fun dp=>if has then yo dp true v else eqd v zV) (tDf has v):=by
 intro H w o l ok dp h h0 h1 hb
 have hvb:bV v≤Lim:=by simp only[Lim] at hv ⊢;omega
 refine zC.go ir142 ck142 (Al4 _) fun KP Q hQ=>?_
 have w0:=WR.refl h
 cases has with
 | false =>
  simp(disch:=first|omega|assumption) only[zi,zf,zb,zj,zg,za,zk,ir142,go_sem]
  refine zc (zo.low (r:=.bool (eqd v zV)) (by
   have:=zm3 v hvb zV
   simpa[AV.strip,zb4,zhK,AV.strip1] using this)) ?_
  simp(disch:=first|omega|assumption) only[go_sem]
  refine zl (y1 _) w0 (by omega) (by omega) (by omega) fun o2 l2 H2 w2 _=>?_
  simp(disch:=first|omega|assumption) only[go_sem]
  exact hQ _ _ H2 H2 [] nofun rfl (Low.refl _) ⟨rfl,w2.fin (by simp) (fun _=>by simp[tDf]) (by omega)⟩
 | true =>
  simp(disch:=first|omega|assumption) only[zi,zf,zb,zj,zg,za,zk,ir142,go_sem]
  refine zl (yn [61] _) w0 (by omega) (by omega) (by omega) fun o2 l2 H2 w2 _=>?_
  simp(disch:=first|omega|assumption) only[zi,zf,zb,zj,zg,za,zk,go_sem]
  refine zl (zhu v hw hv true) w2 (by omega) (by omega) (by omega) fun o3 l3 H3 w3 _=>?_
  simp(disch:=first|omega|assumption) only[go_sem]
  exact hQ _ _ H3 H3 [] nofun rfl (Low.refl _) ⟨rfl,w3.fin (by simp) (fun _=>by simp[tDf]) (by omega)⟩
theorem zbN (fixed:Bool) (m:List Mem) (hw:zco m) (hm:8*bMs m≤Lim):WC 157 [.bool fixed,.sl .no 6 (cMs m)] (2+6*bMs m) 0 32 (fun dp=>yK dp fixed m) (YI m):=by
 intro H w o l ok dp h h0 h1 hb
 have hml:=yI m
 have hcl:=yC m
 refine zC.go ir157 ck157 (Al4 _) fun KP Q hQ=>?_
 have w0:=WR.refl h
 by_cases hz:m.length=0
 ·have hz':((m.length:Int)=0)=True:=eq_true (by omega)
  simp(disch:=first|omega|assumption) only[ir157,hcl,hz',go_sem]
  have em:=za7.1 hz
  subst em
  exact hQ _ _ H H [] nofun rfl (Low.refl _) ⟨rfl,w0.fin rfl (fun _=>rfl) (by omega)⟩
 ·have hz':¬ ((m.length:Int)=0):=by omega
  simp(disch:=first|omega|assumption) only[ir157,hcl,hz',go_sem]
  refine zl (yn [40] _) w0 (by omega) (by omega) (by omega) fun o2 l2 H2 w2 _=>?_
  simp(disch:=first|omega|assumption) only[hcl,go_sem]
  refine zm m 16 (fun x:Own×List Tok=>[]) (fun done rest x H'=>WR H o w l ok dp (1+6*bMs done) (yK dp fixed done) (pk [40]::yQ done) H' x.1 x.2) (o2,l2) (by simp(disch:=first|omega|assumption) only[go_sem]) (w2.cast (by omega) rfl rfl) ?_ ?_
  ·rintro⟨o3,l3⟩ H3 J w3 hlt
   simp only at w3
   simp(disch:=first|omega|assumption) only[hcl,hlt,go_sem]
   refine zl (yn [41] _) w3 (by omega) (by omega) (by omega) fun o4 l4 H4 w4 _=>?_
   simp(disch:=first|omega|assumption) only[go_sem]
   exact hQ _ _ H4 H4 [] nofun rfl (Low.refl _) ⟨rfl,w4.fin (by simp) (fun _=>by unfold YI;rw[if_neg hz];rfl) (by omega)⟩
  ·rintro done x rest ⟨o3,l3⟩ H3 J hd hlt hlt2 w3 hJ
   simp only at w3
   have hg:=yT hd
   have hbm:=y6 done x rest
   rw[← hd] at hbm
   have hmem:x∈m:=by rw[hd];simp
   obtain⟨s,v⟩:=x
   have hwv:=zaP hw s v hmem
   have hvp:=ZV v
   simp only[bM] at hbm
   have hm':=hm
   simp only[Lim] at hm'
   have hbw:b0 w=b0 w:=rfl
   simp(disch:=first|omega|assumption) only[zi,zf,zb,zj,zg,za,zk,hcl,hlt,hg,go_sem]
   refine zv fun b hb=>?_
   have hbw:b≠w:=fun e=>by subst e;rw[w3.here.cell] at hb;cases hb
   have w4:=w3.alloc (x:=.cells (.str s::cV v)) hb
   have hbc:(H3.upd b (.cells (.str s::cV v))) b=some (.cells (.str s::cV v)):=upd_same ..
   simp(disch:=first|omega|assumption) only[zi,zf,zb,zj,zg,za,zk,go_sem]
   refine zl (yd s (by simp only[Lim];omega)) w4 (by omega) (by omega) (by omega) fun o5 l5 H5 w5 s5=>?_
   have hb5:=s5.box w4.here.own hbc hbw
   simp(disch:=first|omega|assumption) only[zi,zf,zb,zj,zg,za,zk,hb5,go_sem]
   refine zl (yn [58] _) w5 (by omega) (by omega) (by omega) fun o6 l6 H6 w6 s6=>?_
   have hb6:=s6.box w5.here.own hb5 hbw
   simp(disch:=first|omega|assumption) only[zi,zf,zb,zj,zg,za,zk,hb6,go_sem]
   refine zl (zhu v hwv (by simp only[Lim];omega) fixed) w6 (by omega) (by omega) (by omega) fun o7 l7 H7 w7 s7=>?_
   simp(disch:=first|omega|assumption) only[wrap64,go_sem]
   exact goJ (hJ (o7,l7) H7 (w7.cast (by rw[y6 done (.mk s v) []];simp only[bM,bMs];omega) (by simp[yK,ze2,yM]) (by rw[zbk];simp[yQ,zcA,wk,pk]))) (by simp(disch:=first|omega|assumption) only[go_sem])
abbrev pl (v:Val):Prop:=yl zJ v=true
inductive Shape:Val→Prop
 | null:Shape (.mk 0 0 [] [] [])
 | bool (n:Int) (h:n=0∨n=1):Shape (.mk 1 n [] [] [])
 | int (n:Int):Shape (.mk 2 n [] [] [])
 | num (s:List UInt8) (h:zf8 s=true):Shape (.mk 3 0 s [] [])
 | text (s:List UInt8):Shape (.mk 4 0 s [] [])
 | word (s:List UInt8) (h:zeb s=false):Shape (.mk 5 0 s [] [])
 | var (s:List UInt8):Shape (.mk 8 0 s [] [])
 | list (l:List Val) (h:YF zJ l=true):Shape (.mk 6 0 [] l [])
 | obj (m:List Mem) (h:YC zJ m=true):Shape (.mk 7 0 [] [] m)
theorem Yy {n:Int} {s:List UInt8} {l:List Val} {m:List Mem}:zS n s l m=true↔n=0∧s=[]∧l=[]∧m=[]:=by
 simp[zS]
theorem shape:∀ v,pl v→Shape v
 | .mk k n s l m,h=>by
  simp only[pl,yl] at h
  split at h
  ·rename_i k6
   subst k6
   simp only[Al0,Yy] at h
   obtain⟨h1,rfl,rfl,_,rfl⟩:=h
   exact .list l h1
  ·split at h
   ·rename_i k7
    subst k7
    simp only[Al0,Yy] at h
    obtain⟨h1,rfl,rfl,rfl,_⟩:=h
    exact .obj m h1
   ·simp only[zu,Al0,Yy] at h
    obtain⟨⟨_,_,rfl,rfl⟩,h⟩:=h
    split at h
    ·rename_i k0
     subst k0
     simp only[Al0,yv] at h
     obtain⟨rfl,rfl⟩:=h
     exact .null
    split at h
    ·rename_i k0
     subst k0
     simp only[Al0,zdt,yv] at h
     obtain⟨h,rfl⟩:=h
     exact .bool n h
    split at h
    ·rename_i k0
     subst k0
     simp only[yv] at h
     subst h
     exact .int n
    split at h
    ·rename_i k0
     subst k0
     simp only[Al0,yv] at h
     obtain⟨rfl,h⟩:=h
     exact .num s h
    split at h
    ·rename_i k0
     subst k0
     simp only[Al0,yv] at h
     obtain⟨rfl,h⟩:=h
     exact .text s
    split at h
    ·rename_i k0
     subst k0
     simp only[Al0,yv,Bool.not_eq_true'] at h
     obtain⟨rfl,_,h⟩:=h
     exact .word s h
    split at h
    ·rename_i k0
     subst k0
     simp only[Al0,yv] at h
     obtain⟨rfl,_⟩:=h
     exact .var s
    ·cases h
theorem zdm:∀ {l:List SelD},zb7 l→∀ v∈l,wfS v
 | _::_,h,v,hv=>(List.mem_cons.1 hv).elim (fun e=>e▸h.1) (zdm h.2 v)
theorem ze4 (dp:Int) (fixed:Bool) (l:List DirD) (x:DirD):yf dp fixed (l++[x])=(yf dp fixed l&&zda dp fixed x):=by simp[yf]
theorem zfq (l:List DirD) (x:DirD):tDs (l++[x])=tDs l++tD x:=by simp[tDs]
theorem zky (l:List DirD) (x:DirD):bDs (l++[x])=bDs l+bD x:=by simp[bDs]
theorem yw (fixed:Bool) (m:List DirD) (hw:zf2 m) (hm:8*bDs m≤Lim):WC 143 [.bool fixed,.sl .no 2 (cDs m)] (8*bDs m) 0 32 (fun dp=>yf dp fixed m) (tDs m):=by
 intro H w o l ok dp h h0 h1 hb
 have hml:=zbi m
 have hcl:=YW m
 have hm':=hm
 simp only[Lim] at hm'
 refine zC.go ir143 ck143 (Al4 _) fun KP Q hQ=>?_
 have w0:=WR.refl h
 simp(disch:=first|omega|assumption) only[ir143,hcl,go_sem]
 refine zm m 10 (fun x:Own×List Tok=>[]) (fun done rest x H'=>WR H o w l ok dp (8*bDs done) (yf dp fixed done) (tDs done) H' x.1 x.2) (o,l) (by simp(disch:=first|omega|assumption) only[go_sem]) (w0.cast (by omega) rfl rfl) ?_ ?_
 ·rintro⟨o3,l3⟩ H3 J w3 hlt
  simp only at w3
  simp(disch:=first|omega|assumption) only[hcl,hlt,go_sem]
  exact hQ _ _ H3 H3 [] nofun rfl (Low.refl _) ⟨rfl,w3.fin rfl (fun _=>rfl) (by omega)⟩
 ·rintro done x rest ⟨o3,l3⟩ H3 J hd hlt hlt2 w3 hJ
  simp only at w3
  have hg:=zah hd
  have hbm:=zbr done x rest
  rw[← hd] at hbm
  have hmem:x∈m:=by rw[hd];simp
  have hwx:=hw x hmem
  obtain⟨s,args⟩:=x
  have hal:=yI args
  simp only[bD] at hbm
  have ex:cD ⟨s,args⟩=[.str s,.sl .no 6 (cMs args)]:=rfl
  rw[ex] at hg
  simp(disch:=first|omega|assumption) only[hcl,hlt,hg,go_sem]
  refine zv fun b hb=>?_
  have hbw:b≠w:=fun e=>by subst e;rw[w3.here.cell] at hb;cases hb
  have w4:=w3.alloc (x:=.cells [.str s,.sl .no 6 (cMs args)]) hb
  have hbc:(H3.upd b (.cells [.str s,.sl .no 6 (cMs args)])) b=some (.cells [.str s,.sl .no 6 (cMs args)]):=upd_same ..
  simp(disch:=first|omega|assumption) only[go_sem]
  refine zl (yn [64] _) w4 (by omega) (by omega) (by omega) fun o5 l5 H5 w5 s5=>?_
  have hb5:=s5.box w4.here.own hbc hbw
  simp(disch:=first|omega|assumption) only[hb5,go_sem]
  refine zl (yd s (by simp only[Lim];omega)) w5 (by omega) (by omega) (by omega) fun o6 l6 H6 w6 s6=>?_
  have hb6:=s6.box w5.here.own hb5 hbw
  simp(disch:=first|omega|assumption) only[hb6,go_sem]
  refine zl (zbN fixed args hwx (by simp only[Lim];omega)) w6 (by omega) (by omega) (by omega) fun o7 l7 H7 w7 s7=>?_
  simp(disch:=first|omega|assumption) only[wrap64,go_sem]
  exact goJ (hJ (o7,l7) H7 (w7.cast (by rw[zky];simp only[bD];omega) (by rw[ze4];simp[zda,yM]) (by rw[zfq];simp[tD]))) (by simp(disch:=first|omega|assumption) only[go_sem])
def zkn (c:Nat):Prop:=∀ l:List SelD,bSs l≤c→zb7 l→16*bSs l+2≤Lim→WC 87 [.sl .no 7 (cSs l)] (16*bSs l) 0 17 (fun dp=>zI dp l) (tSl l)
theorem yu {c:Nat} (hL:zkn c) (l:List SelD) (hc:bSs l≤c) (hw:zb7 l) (hm:16*bSs l+2≤Lim):WC 144 [.sl .no 7 (cSs l)] (16*bSs l+2) 0 16 (fun dp=>zI (dp+1) l) (tBl l):=by
 intro H w o k ok dp h h0 h1 hb
 refine zC.go ir144 ck144 (Al4 _) fun KP Q hQ=>?_
 simp(disch:=first|omega|assumption) only[ir144,go_sem]
 refine YK (yn [123] _) h (by omega) (by omega) (by omega) fun o2 l2 H2 h2 h3 h4 h5=>?_
 have c2:=h2.cell
 have w1:IntKind.wrap .i64 (dp+1)=dp+1:=wrap64 (by omega) (by omega)
 have w2:IntKind.wrap .i64 (dp+1-1)=dp:=by rw[wrap64 (by omega) (by omega)];omega
 simp(disch:=first|omega|assumption) only[c2,w1,go_sem]
 have g2:=h2.put (ok':=ok&&true) (dp':=dp+1)
 refine YK (hL l hc hw hm) g2 (by omega) (by omega) (by omega) fun o3 l3 H3 h6 h7 h8 h9=>?_
 have c3:=h6.cell
 simp(disch:=first|omega|assumption) only[c3,w2,go_sem]
 have g3:=h6.put (ok':=(ok&&true)&&zI (dp+1) l) (dp':=dp)
 refine YK (yn [125] _) g3 (by omega) (by omega) (by omega) fun o4 l4 H4 h10 h11 h12 h13=>?_
 simp(disch:=first|omega|assumption) only[go_sem]
 refine hQ _ _ H4 H4 [] nofun rfl (Low.refl _) ⟨rfl,o4,l4,by simpa using h10,?_,by omega,fun e=>?_⟩
 ·exact((h3.upd.trans (upd_same ..) h7).upd).trans (upd_same ..) h11
 ·simp only[Bool.and_true] at h5 h9 h13
  rw[h13 e,h9 e,h5 (by simp only[Al0] at e;exact e.1)]
  simp[tBl]
theorem zj6 (k:Int) (al nm:List UInt8) (args:List Mem) (dirs:List DirD) (on:List UInt8) (sels:List SelD) (hk:k=1) (hw:wfS (.mk k al nm args dirs on sels)) (hm:16*bS (.mk k al nm args dirs on sels)≤Lim) :
  WC 155 [.agg (cS (.mk k al nm args dirs on sels))] (16*bS (.mk k al nm args dirs on sels)) 0 16 (fun dp=>zG dp (.mk k al nm args dirs on sels)) (tS (.mk k al nm args dirs on sels)):=by
 intro H w o l ok dp h h0 h1 hb
 have hm':=hm
 simp only[Lim,bS] at hm'
 simp only[bS] at hb
 have hcm:=yC args
 have hcs:=ZD sels
 obtain⟨_,hwd,_⟩:=hw
 subst hk
 refine zC.go ir155 ck155 (Al4 _) fun KP Q hQ=>?_
 have w0:=WR.refl h
 obtain⟨b,hbd⟩:∃ b,b=(decide (nm≠[111,110])&&(decide (al=[])&&(decide (on=[])&&(decide (args.length=0)&&decide (sels.length=0))))):=⟨_,rfl⟩
 have er:zG dp (.mk 1 al nm args dirs on sels)=(b&&zJ nm&&yf dp false dirs):=by
  rw[hbd];simp only[zG,show ¬ ((1:Int)=0) by decide,if_false,if_true]
  cases zJ nm<;>cases yf dp false dirs<;>simp
 have et:b=true→tS (.mk 1 al nm args dirs on sels)=pk [46,46,46]::wk nm::tDs dirs:=fun e=>by
  rw[hbd] at e
  simp only[Al0,yv] at e
  simp[tS,e.2.2.2.2]
 by_cases h1:al=[]
 case neg =>
  have hbv:b=false:=by rw[hbd];simp[h1]
  simp(disch:=first|omega|assumption) only[ir155,Zu,h1,go_sem]
  refine zl (y1 _) w0 (by omega) (by omega) (by omega) fun o2 l2 H2 w2 _=>?_
  simp(disch:=first|omega|assumption) only[go_sem]
  refine zl (yn [46,46,46] _) w2 (by omega) (by omega) (by omega) fun o3 l3 H3 w3 _=>?_
  simp(disch:=first|omega|assumption) only[go_sem]
  refine zl (yd nm (by simp only[Lim];omega)) w3 (by omega) (by omega) (by omega) fun o4 l4 H4 w4 _=>?_
  simp(disch:=first|omega|assumption) only[go_sem]
  refine zl (yw false dirs hwd (by simp only[Lim];omega)) w4 (by omega) (by omega) (by omega) fun o5 l5 H5 w5 _=>?_
  simp(disch:=first|omega|assumption) only[go_sem]
  exact hQ _ _ H5 H5 [] nofun rfl (Low.refl _) ⟨rfl,w5.fin (by show _=zG dp _;rw[er,hbv];simp) (fun e=>by have e:zG dp (.mk 1 al nm args dirs on sels)=true:=e;rw[et (by rw[er] at e;simp only[Al0] at e;exact e.1.1)];simp) (by simp only[bS];omega)⟩
 by_cases h2:args.length=0
 case neg =>
  have hbv:b=false:=by rw[hbd];simp[h2]
  have h2':¬ ((args.length:Int)=0):=by omega
  simp(disch:=first|omega|assumption) only[ir155,Zu,h1,hcm,h2',go_sem]
  refine zl (y1 _) w0 (by omega) (by omega) (by omega) fun o2 l2 H2 w2 _=>?_
  simp(disch:=first|omega|assumption) only[go_sem]
  refine zl (yn [46,46,46] _) w2 (by omega) (by omega) (by omega) fun o3 l3 H3 w3 _=>?_
  simp(disch:=first|omega|assumption) only[go_sem]
  refine zl (yd nm (by simp only[Lim];omega)) w3 (by omega) (by omega) (by omega) fun o4 l4 H4 w4 _=>?_
  simp(disch:=first|omega|assumption) only[go_sem]
  refine zl (yw false dirs hwd (by simp only[Lim];omega)) w4 (by omega) (by omega) (by omega) fun o5 l5 H5 w5 _=>?_
  simp(disch:=first|omega|assumption) only[go_sem]
  exact hQ _ _ H5 H5 [] nofun rfl (Low.refl _) ⟨rfl,w5.fin (by show _=zG dp _;rw[er,hbv];simp) (fun e=>by have e:zG dp (.mk 1 al nm args dirs on sels)=true:=e;rw[et (by rw[er] at e;simp only[Al0] at e;exact e.1.1)];simp) (by simp only[bS];omega)⟩
 have h2':((args.length:Int)=0)=True:=eq_true (by omega)
 by_cases h3:on=[]
 case neg =>
  have hbv:b=false:=by rw[hbd];simp[h3]
  simp(disch:=first|omega|assumption) only[ir155,Zu,h1,hcm,h2',h3,go_sem]
  refine zl (y1 _) w0 (by omega) (by omega) (by omega) fun o2 l2 H2 w2 _=>?_
  simp(disch:=first|omega|assumption) only[go_sem]
  refine zl (yn [46,46,46] _) w2 (by omega) (by omega) (by omega) fun o3 l3 H3 w3 _=>?_
  simp(disch:=first|omega|assumption) only[go_sem]
  refine zl (yd nm (by simp only[Lim];omega)) w3 (by omega) (by omega) (by omega) fun o4 l4 H4 w4 _=>?_
  simp(disch:=first|omega|assumption) only[go_sem]
  refine zl (yw false dirs hwd (by simp only[Lim];omega)) w4 (by omega) (by omega) (by omega) fun o5 l5 H5 w5 _=>?_
  simp(disch:=first|omega|assumption) only[go_sem]
  exact hQ _ _ H5 H5 [] nofun rfl (Low.refl _) ⟨rfl,w5.fin (by show _=zG dp _;rw[er,hbv];simp) (fun e=>by have e:zG dp (.mk 1 al nm args dirs on sels)=true:=e;rw[et (by rw[er] at e;simp only[Al0] at e;exact e.1.1)];simp) (by simp only[bS];omega)⟩
 by_cases h4:sels.length=0
 case neg =>
  have hbv:b=false:=by rw[hbd];simp[h4]
  have h4':¬ ((sels.length:Int)=0):=by omega
  simp(disch:=first|omega|assumption) only[ir155,Zu,h1,hcm,h2',h3,hcs,h4',go_sem]
  refine zl (y1 _) w0 (by omega) (by omega) (by omega) fun o2 l2 H2 w2 _=>?_
  simp(disch:=first|omega|assumption) only[go_sem]
  refine zl (yn [46,46,46] _) w2 (by omega) (by omega) (by omega) fun o3 l3 H3 w3 _=>?_
  simp(disch:=first|omega|assumption) only[go_sem]
  refine zl (yd nm (by simp only[Lim];omega)) w3 (by omega) (by omega) (by omega) fun o4 l4 H4 w4 _=>?_
  simp(disch:=first|omega|assumption) only[go_sem]
  refine zl (yw false dirs hwd (by simp only[Lim];omega)) w4 (by omega) (by omega) (by omega) fun o5 l5 H5 w5 _=>?_
  simp(disch:=first|omega|assumption) only[go_sem]
  exact hQ _ _ H5 H5 [] nofun rfl (Low.refl _) ⟨rfl,w5.fin (by show _=zG dp _;rw[er,hbv];simp) (fun e=>by have e:zG dp (.mk 1 al nm args dirs on sels)=true:=e;rw[et (by rw[er] at e;simp only[Al0] at e;exact e.1.1)];simp) (by simp only[bS];omega)⟩
 have h4':((sels.length:Int)=0)=True:=eq_true (by omega)
 by_cases h5:nm=[111,110]
 case pos =>
  have hbv:b=false:=by rw[hbd];simp[h5]
  simp(disch:=first|omega|assumption) only[ir155,Zu,h1,hcm,h2',h3,hcs,h4',h5,go_sem]
  subst h5
  refine zl (y1 _) w0 (by omega) (by omega) (by omega) fun o2 l2 H2 w2 _=>?_
  simp(disch:=first|omega|assumption) only[go_sem]
  refine zl (yn [46,46,46] _) w2 (by omega) (by omega) (by omega) fun o3 l3 H3 w3 _=>?_
  simp(disch:=first|omega|assumption) only[go_sem]
  refine zl (yd [111,110] (by simp only[Lim];omega)) w3 (by omega) (by omega) (by omega) fun o4 l4 H4 w4 _=>?_
  simp(disch:=first|omega|assumption) only[go_sem]
  refine zl (yw false dirs hwd (by simp only[Lim];omega)) w4 (by omega) (by omega) (by omega) fun o5 l5 H5 w5 _=>?_
  simp(disch:=first|omega|assumption) only[go_sem]
  exact hQ _ _ H5 H5 [] nofun rfl (Low.refl _) ⟨rfl,w5.fin (by show _=zG dp _;rw[er,hbv];simp) (fun e=>by have e:zG dp (.mk 1 al [111,110] args dirs on sels)=true:=e;rw[et (by rw[er] at e;simp only[Al0] at e;exact e.1.1)];simp) (by simp only[bS];omega)⟩
 have hbv:b=true:=by rw[hbd];simp[h1,h2,h3,h4,h5]
 simp(disch:=first|omega|assumption) only[ir155,Zu,h1,hcm,h2',h3,hcs,h4',h5,go_sem]
 refine zl (y1 _) w0 (by omega) (by omega) (by omega) fun o2 l2 H2 w2 _=>?_
 simp(disch:=first|omega|assumption) only[go_sem]
 refine zl (yn [46,46,46] _) w2 (by omega) (by omega) (by omega) fun o3 l3 H3 w3 _=>?_
 simp(disch:=first|omega|assumption) only[go_sem]
 refine zl (yd nm (by simp only[Lim];omega)) w3 (by omega) (by omega) (by omega) fun o4 l4 H4 w4 _=>?_
 simp(disch:=first|omega|assumption) only[go_sem]
 refine zl (yw false dirs hwd (by simp only[Lim];omega)) w4 (by omega) (by omega) (by omega) fun o5 l5 H5 w5 _=>?_
 simp(disch:=first|omega|assumption) only[go_sem]
 exact hQ _ _ H5 H5 [] nofun rfl (Low.refl _) ⟨rfl,w5.fin (by show _=zG dp _;rw[er,hbv];simp) (fun e=>by have e:zG dp (.mk 1 al nm args dirs on sels)=true:=e;rw[et (by rw[er] at e;simp only[Al0] at e;exact e.1.1)];simp) (by simp only[bS];omega)⟩
theorem zfY:zJ [111,110]=true:=by decide
theorem zkt {c:Nat} (hL:zkn c) (k:Int) (al nm:List UInt8) (args:List Mem) (dirs:List DirD) (on:List UInt8) (sels:List SelD) (hk:k=2) (hc:bSs sels≤c) (hw:wfS (.mk k al nm args dirs on sels)) (hm:16*bS (.mk k al nm args dirs on sels)≤Lim) :
  WC 156 [.agg (cS (.mk k al nm args dirs on sels))] (16*bS (.mk k al nm args dirs on sels)) 0 16 (fun dp=>zG dp (.mk k al nm args dirs on sels)) (tS (.mk k al nm args dirs on sels)):=by
 intro H w o l ok dp h h0 h1 hb
 have hm':=hm
 simp only[Lim,bS] at hm'
 simp only[bS] at hb
 have hcm:=yC args
 obtain⟨_,hwd,hws⟩:=hw
 subst hk
 refine zC.go ir156 ck156 (Al4 _) fun KP Q hQ=>?_
 have w0:=WR.refl h
 obtain⟨b,hbd⟩:∃ b,b=(decide (nm=[])&&(decide (al=[])&&decide (args.length=0))):=⟨_,rfl⟩
 have er:zG dp (.mk 2 al nm args dirs on sels)=(b&&(decide (on=[])||zJ on)&&yf dp false dirs&&zI (dp+1) sels):=by
  rw[hbd];simp only[zG,zI,show ¬ ((2:Int)=0) by decide,show ¬ ((2:Int)=1) by decide,if_false,if_true]
  cases yf dp false dirs<;>simp[yM]
 have et:b=true∧zI (dp+1) sels=true→tS (.mk 2 al nm args dirs on sels)=pk [46,46,46]::((if on=[] then [] else [wk [111,110],wk on])++(tDs dirs++tBl sels)):=fun⟨e,e2⟩=>by
  simp only[zI,Al0,yv] at e2
  simp[tS,e2.1,tBl]
 by_cases h1:al=[]
 case neg =>
  have hbv:b=false:=by rw[hbd];simp[h1]
  simp(disch:=first|omega|assumption) only[ir156,Zu,h1,go_sem]
  refine zl (y1 _) w0 (by omega) (by omega) (by omega) fun o2 l2 H2 w2 _=>?_
  simp(disch:=first|omega|assumption) only[go_sem]
  refine zl (yn [46,46,46] _) w2 (by omega) (by omega) (by omega) fun o3 l3 H3 w3 _=>?_
  by_cases ho:on=[]
  case pos =>
   simp(disch:=first|omega|assumption) only[ho,go_sem]
   refine zl (yw false dirs hwd (by simp only[Lim];omega)) w3 (by omega) (by omega) (by omega) fun o5 l5 H5 w5 _=>?_
   simp(disch:=first|omega|assumption) only[go_sem]
   refine zl (yu hL sels hc hws (by simp only[Lim];omega)) w5 (by omega) (by omega) (by omega) fun o6 l6 H6 w6 _=>?_
   simp(disch:=first|omega|assumption) only[go_sem]
   exact hQ _ _ H6 H6 [] nofun rfl (Low.refl _) ⟨rfl,w6.fin (by show _=zG dp _;rw[er,hbv,ho];simp[yM]) (fun e=>by have e:zG dp (.mk 2 al nm args dirs on sels)=true:=e;rw[et (by rw[er] at e;simp only[Al0] at e;exact⟨e.1.1.1,e.2⟩),if_pos ho];simp) (by simp only[bS];omega)⟩
  case neg =>
   simp(disch:=first|omega|assumption) only[ho,go_sem]
   refine zl (yd [111,110] (by simp[Lim])) w3 (by omega) (by omega) (by omega) fun o4 l4 H4 w4 _=>?_
   simp(disch:=first|omega|assumption) only[go_sem]
   refine zl (yd on (by simp only[Lim];omega)) w4 (by omega) (by omega) (by omega) fun o5 l5 H5 w5 _=>?_
   simp(disch:=first|omega|assumption) only[go_sem]
   refine zl (yw false dirs hwd (by simp only[Lim];omega)) w5 (by omega) (by omega) (by omega) fun o6 l6 H6 w6 _=>?_
   simp(disch:=first|omega|assumption) only[go_sem]
   refine zl (yu hL sels hc hws (by simp only[Lim];omega)) w6 (by omega) (by omega) (by omega) fun o7 l7 H7 w7 _=>?_
   simp(disch:=first|omega|assumption) only[go_sem]
   exact hQ _ _ H7 H7 [] nofun rfl (Low.refl _) ⟨rfl,w7.fin (by show _=zG dp _;rw[er,hbv,zfY];simp[ho,yM]) (fun e=>by have e:zG dp (.mk 2 al nm args dirs on sels)=true:=e;rw[et (by rw[er] at e;simp only[Al0] at e;exact⟨e.1.1.1,e.2⟩),if_neg ho];simp) (by simp only[bS];omega)⟩
 by_cases h2:nm=[]
 case neg =>
  have hbv:b=false:=by rw[hbd];simp[h2]
  simp(disch:=first|omega|assumption) only[ir156,Zu,h1,h2,go_sem]
  refine zl (y1 _) w0 (by omega) (by omega) (by omega) fun o2 l2 H2 w2 _=>?_
  simp(disch:=first|omega|assumption) only[go_sem]
  refine zl (yn [46,46,46] _) w2 (by omega) (by omega) (by omega) fun o3 l3 H3 w3 _=>?_
  by_cases ho:on=[]
  case pos =>
   simp(disch:=first|omega|assumption) only[ho,go_sem]
   refine zl (yw false dirs hwd (by simp only[Lim];omega)) w3 (by omega) (by omega) (by omega) fun o5 l5 H5 w5 _=>?_
   simp(disch:=first|omega|assumption) only[go_sem]
   refine zl (yu hL sels hc hws (by simp only[Lim];omega)) w5 (by omega) (by omega) (by omega) fun o6 l6 H6 w6 _=>?_
   simp(disch:=first|omega|assumption) only[go_sem]
   exact hQ _ _ H6 H6 [] nofun rfl (Low.refl _) ⟨rfl,w6.fin (by show _=zG dp _;rw[er,hbv,ho];simp[yM]) (fun e=>by have e:zG dp (.mk 2 al nm args dirs on sels)=true:=e;rw[et (by rw[er] at e;simp only[Al0] at e;exact⟨e.1.1.1,e.2⟩),if_pos ho];simp) (by simp only[bS];omega)⟩
  case neg =>
   simp(disch:=first|omega|assumption) only[ho,go_sem]
   refine zl (yd [111,110] (by simp[Lim])) w3 (by omega) (by omega) (by omega) fun o4 l4 H4 w4 _=>?_
   simp(disch:=first|omega|assumption) only[go_sem]
   refine zl (yd on (by simp only[Lim];omega)) w4 (by omega) (by omega) (by omega) fun o5 l5 H5 w5 _=>?_
   simp(disch:=first|omega|assumption) only[go_sem]
   refine zl (yw false dirs hwd (by simp only[Lim];omega)) w5 (by omega) (by omega) (by omega) fun o6 l6 H6 w6 _=>?_
   simp(disch:=first|omega|assumption) only[go_sem]
   refine zl (yu hL sels hc hws (by simp only[Lim];omega)) w6 (by omega) (by omega) (by omega) fun o7 l7 H7 w7 _=>?_
   simp(disch:=first|omega|assumption) only[go_sem]
   exact hQ _ _ H7 H7 [] nofun rfl (Low.refl _) ⟨rfl,w7.fin (by show _=zG dp _;rw[er,hbv,zfY];simp[ho,yM]) (fun e=>by have e:zG dp (.mk 2 al nm args dirs on sels)=true:=e;rw[et (by rw[er] at e;simp only[Al0] at e;exact⟨e.1.1.1,e.2⟩),if_neg ho];simp) (by simp only[bS];omega)⟩
 by_cases h3:args.length=0
 case neg =>
  have hbv:b=false:=by rw[hbd];simp[h3]
  have h3':¬ ((args.length:Int)=0):=by omega
  simp(disch:=first|omega|assumption) only[ir156,Zu,h1,h2,hcm,h3',go_sem]
  refine zl (y1 _) w0 (by omega) (by omega) (by omega) fun o2 l2 H2 w2 _=>?_
  simp(disch:=first|omega|assumption) only[go_sem]
  refine zl (yn [46,46,46] _) w2 (by omega) (by omega) (by omega) fun o3 l3 H3 w3 _=>?_
  by_cases ho:on=[]
  case pos =>
   simp(disch:=first|omega|assumption) only[ho,go_sem]
   refine zl (yw false dirs hwd (by simp only[Lim];omega)) w3 (by omega) (by omega) (by omega) fun o5 l5 H5 w5 _=>?_
   simp(disch:=first|omega|assumption) only[go_sem]
   refine zl (yu hL sels hc hws (by simp only[Lim];omega)) w5 (by omega) (by omega) (by omega) fun o6 l6 H6 w6 _=>?_
   simp(disch:=first|omega|assumption) only[go_sem]
   exact hQ _ _ H6 H6 [] nofun rfl (Low.refl _) ⟨rfl,w6.fin (by show _=zG dp _;rw[er,hbv,ho];simp[yM]) (fun e=>by have e:zG dp (.mk 2 al nm args dirs on sels)=true:=e;rw[et (by rw[er] at e;simp only[Al0] at e;exact⟨e.1.1.1,e.2⟩),if_pos ho];simp) (by simp only[bS];omega)⟩
  case neg =>
   simp(disch:=first|omega|assumption) only[ho,go_sem]
   refine zl (yd [111,110] (by simp[Lim])) w3 (by omega) (by omega) (by omega) fun o4 l4 H4 w4 _=>?_
   simp(disch:=first|omega|assumption) only[go_sem]
   refine zl (yd on (by simp only[Lim];omega)) w4 (by omega) (by omega) (by omega) fun o5 l5 H5 w5 _=>?_
   simp(disch:=first|omega|assumption) only[go_sem]
   refine zl (yw false dirs hwd (by simp only[Lim];omega)) w5 (by omega) (by omega) (by omega) fun o6 l6 H6 w6 _=>?_
   simp(disch:=first|omega|assumption) only[go_sem]
   refine zl (yu hL sels hc hws (by simp only[Lim];omega)) w6 (by omega) (by omega) (by omega) fun o7 l7 H7 w7 _=>?_
   simp(disch:=first|omega|assumption) only[go_sem]
   exact hQ _ _ H7 H7 [] nofun rfl (Low.refl _) ⟨rfl,w7.fin (by show _=zG dp _;rw[er,hbv,zfY];simp[ho,yM]) (fun e=>by have e:zG dp (.mk 2 al nm args dirs on sels)=true:=e;rw[et (by rw[er] at e;simp only[Al0] at e;exact⟨e.1.1.1,e.2⟩),if_neg ho];simp) (by simp only[bS];omega)⟩
 have h3':((args.length:Int)=0)=True:=eq_true (by omega)
 have hbv:b=true:=by rw[hbd];simp[h1,h2,h3]
 simp(disch:=first|omega|assumption) only[ir156,Zu,h1,h2,hcm,h3',go_sem]
 refine zl (y1 _) w0 (by omega) (by omega) (by omega) fun o2 l2 H2 w2 _=>?_
 simp(disch:=first|omega|assumption) only[go_sem]
 refine zl (yn [46,46,46] _) w2 (by omega) (by omega) (by omega) fun o3 l3 H3 w3 _=>?_
 by_cases ho:on=[]
 case pos =>
  simp(disch:=first|omega|assumption) only[ho,go_sem]
  refine zl (yw false dirs hwd (by simp only[Lim];omega)) w3 (by omega) (by omega) (by omega) fun o5 l5 H5 w5 _=>?_
  simp(disch:=first|omega|assumption) only[go_sem]
  refine zl (yu hL sels hc hws (by simp only[Lim];omega)) w5 (by omega) (by omega) (by omega) fun o6 l6 H6 w6 _=>?_
  simp(disch:=first|omega|assumption) only[go_sem]
  exact hQ _ _ H6 H6 [] nofun rfl (Low.refl _) ⟨rfl,w6.fin (by show _=zG dp _;rw[er,hbv,ho];simp[yM]) (fun e=>by have e:zG dp (.mk 2 al nm args dirs on sels)=true:=e;rw[et (by rw[er] at e;simp only[Al0] at e;exact⟨e.1.1.1,e.2⟩),if_pos ho];simp) (by simp only[bS];omega)⟩
 case neg =>
  simp(disch:=first|omega|assumption) only[ho,go_sem]
  refine zl (yd [111,110] (by simp[Lim])) w3 (by omega) (by omega) (by omega) fun o4 l4 H4 w4 _=>?_
  simp(disch:=first|omega|assumption) only[go_sem]
  refine zl (yd on (by simp only[Lim];omega)) w4 (by omega) (by omega) (by omega) fun o5 l5 H5 w5 _=>?_
  simp(disch:=first|omega|assumption) only[go_sem]
  refine zl (yw false dirs hwd (by simp only[Lim];omega)) w5 (by omega) (by omega) (by omega) fun o6 l6 H6 w6 _=>?_
  simp(disch:=first|omega|assumption) only[go_sem]
  refine zl (yu hL sels hc hws (by simp only[Lim];omega)) w6 (by omega) (by omega) (by omega) fun o7 l7 H7 w7 _=>?_
  simp(disch:=first|omega|assumption) only[go_sem]
  exact hQ _ _ H7 H7 [] nofun rfl (Low.refl _) ⟨rfl,w7.fin (by show _=zG dp _;rw[er,hbv,zfY];simp[ho,yM]) (fun e=>by have e:zG dp (.mk 2 al nm args dirs on sels)=true:=e;rw[et (by rw[er] at e;simp only[Al0] at e;exact⟨e.1.1.1,e.2⟩),if_neg ho];simp) (by simp only[bS];omega)⟩
theorem zH (dp:Int) (l:List SelD) (x:SelD):yx dp (l++[x])=(yx dp l&&zG dp x):=by rw[za3];simp[yx]
theorem yt (l:List SelD) (x:SelD):tSl (l++[x])=tSl l++tS x:=by rw[ze5];simp[tSl]
theorem y8 (l:List SelD) (x:SelD):bSs (l++[x])=bSs l+bS x:=by rw[zam];simp[bSs]
theorem zfW {dp:Int} {l a b:List SelD} {x:SelD} (h:l=a++x::b) (hr:yx dp a=false):yx dp l=false:=by
 rw[h,za3,hr];rfl
theorem WR.castC {H0 H:zh} {o0 o:Own} {w B B':Nat} {l0 l tk tk':List Tok} {ok0 r r':Bool} {dp:Int} (h:WR H0 o0 w l0 ok0 dp B r tk H o l) (hB:B≤B') (hr:r=r') (ht:r'=true→tk=tk'):WR H0 o0 w l0 ok0 dp B' r' tk' H o l:=by
 subst hr
 refine⟨h.here,h.st,by have:=h.len;omega,fun e=>?_⟩
 rw[h.eq e,ht (by simp only[Al0] at e;exact e.2)]
set_option maxHeartbeats 4000000 in
theorem ZU:∀ c,zkn c:=by
 intro c
 induction c using Nat.strongRecOn with
 | _ c ih =>
 intro L hc hwL hm H w o l ok dp h h0 h1 hb
 have hm':=hm
 simp only[Lim] at hm'
 have hcs:=ZD L
 have hLl:=zav L
 refine zC.go ir87 ck87 (Al4 _) fun KP Q hQ=>?_
 have w0:=WR.refl h
 have hcell:=h.cell
 by_cases hl0:L.length=0
 ·have hl':¬ ((0:Int)<(L.length:Int)):=by omega
  have hneed:false=zI dp L:=by simp[zI,hl0]
  simp(disch:=first|omega|assumption) only[ir87,hcs,hl',go_sem]
  refine zl (y1 _) w0 (by omega) (by omega) (by omega) fun o2 l2 H2 w2 _=>?_
  have hf:(ok&&zI dp L)=false:=by rw[← hneed];simp
  simp(disch:=first|omega|assumption) only[hcs,go_sem]
  refine zm L 20 (fun x:Unit=>[]) (fun done rest x H'=>H'=H2) () (by simp(disch:=first|omega|assumption) only[go_sem]) rfl ?_ ?_
  case refine_1 =>
   rintro _ H3 J rfl hlt
   simp(disch:=first|omega|assumption) only[hcs,hlt,go_sem]
   exact hQ _ _ H3 H3 [] nofun rfl (Low.refl _) ⟨rfl,w2.fin (by show _=zI dp L;rw[← hneed];simp) (fun e=>by have e:zI dp L=true:=e;rw[← hneed] at e;cases e) (by omega)⟩
  case refine_2 =>
   rintro done x rest _ H3 J hd hlt hlt2 rfl hJ
   have hg:=Yu hd
   obtain⟨k,al,nm,args,dirs,on,sels⟩:=x
   rw[Zu] at hg
   simp(disch:=first|omega|assumption) only[hcs,hlt,hg,go_sem]
   refine zv fun b hb=>?_
   have w5:=w2.alloc (x:=.cells [.int .i64 k,.str al,.str nm,.sl .no 6 (cMs args),.sl .no 2 (cDs dirs),.str on,.sl .no 7 (cSs sels)]) hb
   have hc5:=w5.here.cell
   simp only[Bool.true_and,Bool.and_false] at hc5
   simp(disch:=first|omega|assumption) only[hc5,go_sem]
   exact hQ _ _ _ _ [] nofun rfl (Low.refl _) ⟨rfl,w5.fin (by show _=zI dp L;rw[← hneed];simp) (fun e=>by have e:zI dp L=true:=e;rw[← hneed] at e;cases e) (by omega)⟩
 have hl':((0:Int)<(L.length:Int))=True:=eq_true (by omega)
 by_cases hdp:dp≤16
 case neg =>
  have hneed:false=zI dp L:=by simp[zI,hdp]
  simp(disch:=first|omega|assumption) only[ir87,hcs,hl',hcell,hdp,go_sem]
  refine zl (y1 _) w0 (by omega) (by omega) (by omega) fun o2 l2 H2 w2 _=>?_
  have hf:(ok&&zI dp L)=false:=by rw[← hneed];simp
  simp(disch:=first|omega|assumption) only[hcs,go_sem]
  refine zm L 20 (fun x:Unit=>[]) (fun done rest x H'=>H'=H2) () (by simp(disch:=first|omega|assumption) only[go_sem]) rfl ?_ ?_
  case refine_1 =>
   rintro _ H3 J rfl hlt
   simp(disch:=first|omega|assumption) only[hcs,hlt,go_sem]
   exact hQ _ _ H3 H3 [] nofun rfl (Low.refl _) ⟨rfl,w2.fin (by show _=zI dp L;rw[← hneed];simp) (fun e=>by have e:zI dp L=true:=e;rw[← hneed] at e;cases e) (by omega)⟩
  case refine_2 =>
   rintro done x rest _ H3 J hd hlt hlt2 rfl hJ
   have hg:=Yu hd
   obtain⟨k,al,nm,args,dirs,on,sels⟩:=x
   rw[Zu] at hg
   simp(disch:=first|omega|assumption) only[hcs,hlt,hg,go_sem]
   refine zv fun b hb=>?_
   have w5:=w2.alloc (x:=.cells [.int .i64 k,.str al,.str nm,.sl .no 6 (cMs args),.sl .no 2 (cDs dirs),.str on,.sl .no 7 (cSs sels)]) hb
   have hc5:=w5.here.cell
   simp only[Bool.true_and,Bool.and_false] at hc5
   simp(disch:=first|omega|assumption) only[hc5,go_sem]
   exact hQ _ _ _ _ [] nofun rfl (Low.refl _) ⟨rfl,w5.fin (by show _=zI dp L;rw[← hneed];simp) (fun e=>by have e:zI dp L=true:=e;rw[← hneed] at e;cases e) (by omega)⟩
 have er0:zI dp L=yx dp L:=by simp[zI,hdp,hl0]
 simp(disch:=first|omega|assumption) only[ir87,hcs,hl',hcell,hdp,go_sem]
 refine zl (y1 _) w0 (by omega) (by omega) (by omega) fun o2 l2 H2 w2 _=>?_
 simp(disch:=first|omega|assumption) only[hcs,go_sem]
 refine zm L 20 (fun x:Own×List Tok=>[]) (fun done rest x H'=>WR H o w l ok dp (16*bSs done) (yx dp done) (tSl done) H' x.1 x.2) (o2,l2) (by simp(disch:=first|omega|assumption) only[go_sem]) (w2.cast (by simp[bSs]) (by simp[yx]) (by simp[tSl])) ?_ ?_
 ·rintro⟨o3,l3⟩ H3 J w3 hlt
  simp only at w3
  simp(disch:=first|omega|assumption) only[hcs,hlt,go_sem]
  exact hQ _ _ H3 H3 [] nofun rfl (Low.refl _) ⟨rfl,w3.fin er0.symm (fun _=>rfl) (by omega)⟩
 ·rintro done x rest ⟨o3,l3⟩ H3 J hd hlt hlt2 w3 hJ
  simp only at w3
  have hg:=Yu hd
  have hbm:=zam done x rest
  rw[← hd] at hbm
  have hmem:x∈L:=by rw[hd];simp
  have hwx:=zdm hwL x hmem
  obtain⟨k,al,nm,args,dirs,on,sels⟩:=x
  have hbx:bS (.mk k al nm args dirs on sels)=1+al.length+nm.length+on.length+bMs args+bDs dirs+bSs sels:=rfl
  have hcss:=ZD sels
  rw[Zu] at hg
  simp(disch:=first|omega|assumption) only[hcs,hlt,hg,go_sem]
  refine zv fun b hb=>?_
  have hbw:b≠w:=fun e=>by subst e;rw[w3.here.cell] at hb;cases hb
  have w5:=w3.alloc (x:=.cells [.int .i64 k,.str al,.str nm,.sl .no 6 (cMs args),.sl .no 2 (cDs dirs),.str on,.sl .no 7 (cSs sels)]) hb
  have hbc:(H3.upd b (.cells [.int .i64 k,.str al,.str nm,.sl .no 6 (cMs args),.sl .no 2 (cDs dirs),.str on,.sl .no 7 (cSs sels)])) b=some (.cells [.int .i64 k,.str al,.str nm,.sl .no 6 (cMs args),.sl .no 2 (cDs dirs),.str on,.sl .no 7 (cSs sels)]):=upd_same ..
  have hc5:=w5.here.cell
  cases hok:ok&&yx dp done with
  | false =>
   rw[hok] at hc5
   have hf:(ok&&zI dp L)=false:=by
    cases ok
    ·rfl
    ·rw[Bool.true_and] at hok ⊢;rw[er0];exact zfW hd hok
   simp(disch:=first|omega|assumption) only[hc5,go_sem]
   refine hQ _ _ _ _ [] nofun rfl (Low.refl _) ⟨rfl,o3,l3,?_,w5.st,by have:=w5.len;omega,fun e=>?_⟩
   ·show WAt _ w o3 l3 (ok&&zI dp L) dp
    rw[hf,← hok];exact w5.here
   ·have e:(ok&&zI dp L)=true:=e
    rw[hf] at e;cases e
  | true =>
   rw[hok] at hc5
   have hstep:∀(o6:Own) (l6:List Tok) (H6:zh),WR H o w l ok dp (16*bSs done+16*bS (.mk k al nm args dirs on sels)) (yx dp done&&zG dp (.mk k al nm args dirs on sels)) (tSl done++tS (.mk k al nm args dirs on sels)) H6 o6 l6→J ((Ze _ [(20,.int .i64 ((done.length:Int)+1))]).keep [0,18,19,20]) H6:=fun o6 l6 H6 w6 =>
    hJ (o6,l6) H6 (w6.cast (by rw[y8];omega) (zH ..).symm (yt ..).symm)
   by_cases k1:k=1
   ·have hsp:=zj6 k al nm args dirs on sels k1 hwx (by simp only[Lim];omega)
    rw[Zu] at hsp
    subst k1
    simp(disch:=first|omega|assumption) only[hc5,hbc,go_sem]
    refine zl hsp w5 (by omega) (by omega) (by omega) fun o6 l6 H6 w6 s6=>?_
    simp(disch:=first|omega|assumption) only[wrap64,go_sem]
    exact goJ (hstep o6 l6 H6 w6) (by simp(disch:=first|omega|assumption) only[go_sem])
   by_cases k2:k=2
   ·have hsp:=zkt (c:=bSs sels) (ih (bSs sels) (by omega)) k al nm args dirs on sels k2 (Al4 _) hwx (by simp only[Lim];omega)
    rw[Zu] at hsp
    subst k2
    simp(disch:=first|omega|assumption) only[hc5,hbc,go_sem]
    refine zl hsp w5 (by omega) (by omega) (by omega) fun o6 l6 H6 w6 s6=>?_
    simp(disch:=first|omega|assumption) only[wrap64,go_sem]
    exact goJ (hstep o6 l6 H6 w6) (by simp(disch:=first|omega|assumption) only[go_sem])
   have hLB:=ih (bSs sels) (by omega)
   obtain⟨hwa,hwd,hws⟩:=hwx
   obtain⟨n,hnd⟩:∃ n,n=(decide (k=0)&&decide (on=[])):=⟨_,rfl⟩
   have er:zG dp (.mk k al nm args dirs on sels)=(n&&(decide (al=[])||zJ al)&&zJ nm&&yK dp false args&&yf dp false dirs&&(decide (sels.length=0)||zI (dp+1) sels)):=by
    rw[hnd];simp only[zG,k1,k2,if_false]
    by_cases k0:k=0
    ·simp only[k0,if_true,zI]
     by_cases hz:sels.length=0
     ·simp only[hz,decide_true,Bool.true_or]
      cases yf dp false dirs<;>cases zJ nm<;>cases yK dp false args<;>simp[Bool.and_comm]
     ·simp only[hz,decide_false,Bool.false_or,ne_eq,not_false_eq_true,decide_true,Bool.true_and]
      cases yf dp false dirs<;>cases zJ nm<;>cases yK dp false args<;>simp[Bool.and_comm,yM,Bool.and_left_comm]
    ·simp[k0]
   have et:n=true→tS (.mk k al nm args dirs on sels)=(if al=[] then [] else [wk al,pk [58]])++(wk nm::YI args)++(tDs dirs++(if sels.length=0 then [] else tBl sels)):=fun e=>by
    rw[hnd] at e;simp only[Al0,yv] at e
    simp only[tS,e.1,if_true,tBl]
   by_cases k0:k=0
   case neg =>
    have hbv:n=false:=by rw[hnd];simp[k0]
    simp(disch:=first|omega|assumption) only[hc5,hbc,k1,k2,k0,go_sem]
    refine zl (y1 _) w5 (by omega) (by omega) (by omega) fun o6 l6 H6 w6 s6=>?_
    have hb6:=s6.box w5.here.own hbc hbw
    by_cases hal:al=[]
    case pos =>
     simp(disch:=first|omega|assumption) only[hb6,hal,go_sem]
     refine zl (yd nm (by simp only[Lim];omega)) w6 (by omega) (by omega) (by omega) fun o9 l9 H9 w9 s9=>?_
     have hb9:=s9.box w6.here.own hb6 hbw
     simp(disch:=first|omega|assumption) only[hb9,go_sem]
     refine zl (zbN false args hwa (by simp only[Lim];omega)) w9 (by omega) (by omega) (by omega) fun oY lY HY wY sY=>?_
     have hbY:=sY.box w9.here.own hb9 hbw
     simp(disch:=first|omega|assumption) only[hbY,go_sem]
     refine zl (yw false dirs hwd (by simp only[Lim];omega)) wY (by omega) (by omega) (by omega) fun oZ lZ HZ wZ sZ=>?_
     have hbZ:=sZ.box wY.here.own hbY hbw
     simp(disch:=first|omega|assumption) only[hbZ,go_sem]
     by_cases hz:sels.length=0
     case pos =>
      have hz':¬ ((0:Int)<(sels.length:Int)):=by omega
      simp(disch:=first|omega|assumption) only[hcss,hz',wrap64,go_sem]
      exact goJ (hJ (oZ,lZ) HZ (wZ.castC (by rw[y8];simp only[bS];omega) (by rw[zH,er,hbv];simp[hz,hal,yM]) (fun e=>by rw[yt,et (by rw[zH,er] at e;simp only[Al0] at e;exact e.2.1.1.1.1.1)];simp[hz,hal]))) (by simp(disch:=first|omega|assumption) only[go_sem])
     case neg =>
      have hz':((0:Int)<(sels.length:Int))=True:=eq_true (by omega)
      have hbox:=sZ.box wY.here.own hbY hbw
      simp(disch:=first|omega|assumption) only[hcss,hz',hbox,go_sem]
      refine zl (yu hLB sels (Al4 _) hws (by simp only[Lim];omega)) wZ (by omega) (by omega) (by omega) fun oU lU HU wU _=>?_
      simp(disch:=first|omega|assumption) only[wrap64,go_sem]
      exact goJ (hJ (oU,lU) HU (wU.castC (by rw[y8];simp only[bS];omega) (by rw[zH,er,hbv];simp[hz,hal,yM]) (fun e=>by rw[yt,et (by rw[zH,er] at e;simp only[Al0] at e;exact e.2.1.1.1.1.1)];simp[hz,hal,tBl]))) (by simp(disch:=first|omega|assumption) only[go_sem])
    case neg =>
     simp(disch:=first|omega|assumption) only[hb6,hal,go_sem]
     refine zl (yd al (by simp only[Lim];omega)) w6 (by omega) (by omega) (by omega) fun o7 l7 H7 w7 s7=>?_
     have hb7:=s7.box w6.here.own hb6 hbw
     simp(disch:=first|omega|assumption) only[hb7,go_sem]
     refine zl (yn [58] _) w7 (by omega) (by omega) (by omega) fun o8 l8 H8 w8 s8=>?_
     have hb8:=s8.box w7.here.own hb7 hbw
     simp(disch:=first|omega|assumption) only[hb8,go_sem]
     refine zl (yd nm (by simp only[Lim];omega)) w8 (by omega) (by omega) (by omega) fun o9 l9 H9 w9 s9=>?_
     have hb9:=s9.box w8.here.own hb8 hbw
     simp(disch:=first|omega|assumption) only[hb9,go_sem]
     refine zl (zbN false args hwa (by simp only[Lim];omega)) w9 (by omega) (by omega) (by omega) fun oY lY HY wY sY=>?_
     have hbY:=sY.box w9.here.own hb9 hbw
     simp(disch:=first|omega|assumption) only[hbY,go_sem]
     refine zl (yw false dirs hwd (by simp only[Lim];omega)) wY (by omega) (by omega) (by omega) fun oZ lZ HZ wZ sZ=>?_
     have hbZ:=sZ.box wY.here.own hbY hbw
     simp(disch:=first|omega|assumption) only[hbZ,go_sem]
     by_cases hz:sels.length=0
     case pos =>
      have hz':¬ ((0:Int)<(sels.length:Int)):=by omega
      simp(disch:=first|omega|assumption) only[hcss,hz',wrap64,go_sem]
      exact goJ (hJ (oZ,lZ) HZ (wZ.castC (by rw[y8];simp only[bS];omega) (by rw[zH,er,hbv];simp[hz,hal,yM]) (fun e=>by rw[yt,et (by rw[zH,er] at e;simp only[Al0] at e;exact e.2.1.1.1.1.1)];simp[hz,hal]))) (by simp(disch:=first|omega|assumption) only[go_sem])
     case neg =>
      have hz':((0:Int)<(sels.length:Int))=True:=eq_true (by omega)
      have hbox:=sZ.box wY.here.own hbY hbw
      simp(disch:=first|omega|assumption) only[hcss,hz',hbox,go_sem]
      refine zl (yu hLB sels (Al4 _) hws (by simp only[Lim];omega)) wZ (by omega) (by omega) (by omega) fun oU lU HU wU _=>?_
      simp(disch:=first|omega|assumption) only[wrap64,go_sem]
      exact goJ (hJ (oU,lU) HU (wU.castC (by rw[y8];simp only[bS];omega) (by rw[zH,er,hbv];simp[hz,hal,yM]) (fun e=>by rw[yt,et (by rw[zH,er] at e;simp only[Al0] at e;exact e.2.1.1.1.1.1)];simp[hz,hal,tBl]))) (by simp(disch:=first|omega|assumption) only[go_sem])
   subst k0
   by_cases ho:on=[]
   case neg =>
    have hbv:n=false:=by rw[hnd];simp[ho]
    simp(disch:=first|omega|assumption) only[hc5,hbc,ho,go_sem]
    refine zl (y1 _) w5 (by omega) (by omega) (by omega) fun o6 l6 H6 w6 s6=>?_
    have hb6:=s6.box w5.here.own hbc hbw
    by_cases hal:al=[]
    case pos =>
     simp(disch:=first|omega|assumption) only[hb6,hal,go_sem]
     refine zl (yd nm (by simp only[Lim];omega)) w6 (by omega) (by omega) (by omega) fun o9 l9 H9 w9 s9=>?_
     have hb9:=s9.box w6.here.own hb6 hbw
     simp(disch:=first|omega|assumption) only[hb9,go_sem]
     refine zl (zbN false args hwa (by simp only[Lim];omega)) w9 (by omega) (by omega) (by omega) fun oY lY HY wY sY=>?_
     have hbY:=sY.box w9.here.own hb9 hbw
     simp(disch:=first|omega|assumption) only[hbY,go_sem]
     refine zl (yw false dirs hwd (by simp only[Lim];omega)) wY (by omega) (by omega) (by omega) fun oZ lZ HZ wZ sZ=>?_
     have hbZ:=sZ.box wY.here.own hbY hbw
     simp(disch:=first|omega|assumption) only[hbZ,go_sem]
     by_cases hz:sels.length=0
     case pos =>
      have hz':¬ ((0:Int)<(sels.length:Int)):=by omega
      simp(disch:=first|omega|assumption) only[hcss,hz',wrap64,go_sem]
      exact goJ (hJ (oZ,lZ) HZ (wZ.castC (by rw[y8];simp only[bS];omega) (by rw[zH,er,hbv];simp[hz,hal,yM]) (fun e=>by rw[yt,et (by rw[zH,er] at e;simp only[Al0] at e;exact e.2.1.1.1.1.1)];simp[hz,hal]))) (by simp(disch:=first|omega|assumption) only[go_sem])
     case neg =>
      have hz':((0:Int)<(sels.length:Int))=True:=eq_true (by omega)
      have hbox:=sZ.box wY.here.own hbY hbw
      simp(disch:=first|omega|assumption) only[hcss,hz',hbox,go_sem]
      refine zl (yu hLB sels (Al4 _) hws (by simp only[Lim];omega)) wZ (by omega) (by omega) (by omega) fun oU lU HU wU _=>?_
      simp(disch:=first|omega|assumption) only[wrap64,go_sem]
      exact goJ (hJ (oU,lU) HU (wU.castC (by rw[y8];simp only[bS];omega) (by rw[zH,er,hbv];simp[hz,hal,yM]) (fun e=>by rw[yt,et (by rw[zH,er] at e;simp only[Al0] at e;exact e.2.1.1.1.1.1)];simp[hz,hal,tBl]))) (by simp(disch:=first|omega|assumption) only[go_sem])
    case neg =>
     simp(disch:=first|omega|assumption) only[hb6,hal,go_sem]
     refine zl (yd al (by simp only[Lim];omega)) w6 (by omega) (by omega) (by omega) fun o7 l7 H7 w7 s7=>?_
     have hb7:=s7.box w6.here.own hb6 hbw
     simp(disch:=first|omega|assumption) only[hb7,go_sem]
     refine zl (yn [58] _) w7 (by omega) (by omega) (by omega) fun o8 l8 H8 w8 s8=>?_
     have hb8:=s8.box w7.here.own hb7 hbw
     simp(disch:=first|omega|assumption) only[hb8,go_sem]
     refine zl (yd nm (by simp only[Lim];omega)) w8 (by omega) (by omega) (by omega) fun o9 l9 H9 w9 s9=>?_
     have hb9:=s9.box w8.here.own hb8 hbw
     simp(disch:=first|omega|assumption) only[hb9,go_sem]
     refine zl (zbN false args hwa (by simp only[Lim];omega)) w9 (by omega) (by omega) (by omega) fun oY lY HY wY sY=>?_
     have hbY:=sY.box w9.here.own hb9 hbw
     simp(disch:=first|omega|assumption) only[hbY,go_sem]
     refine zl (yw false dirs hwd (by simp only[Lim];omega)) wY (by omega) (by omega) (by omega) fun oZ lZ HZ wZ sZ=>?_
     have hbZ:=sZ.box wY.here.own hbY hbw
     simp(disch:=first|omega|assumption) only[hbZ,go_sem]
     by_cases hz:sels.length=0
     case pos =>
      have hz':¬ ((0:Int)<(sels.length:Int)):=by omega
      simp(disch:=first|omega|assumption) only[hcss,hz',wrap64,go_sem]
      exact goJ (hJ (oZ,lZ) HZ (wZ.castC (by rw[y8];simp only[bS];omega) (by rw[zH,er,hbv];simp[hz,hal,yM]) (fun e=>by rw[yt,et (by rw[zH,er] at e;simp only[Al0] at e;exact e.2.1.1.1.1.1)];simp[hz,hal]))) (by simp(disch:=first|omega|assumption) only[go_sem])
     case neg =>
      have hz':((0:Int)<(sels.length:Int))=True:=eq_true (by omega)
      have hbox:=sZ.box wY.here.own hbY hbw
      simp(disch:=first|omega|assumption) only[hcss,hz',hbox,go_sem]
      refine zl (yu hLB sels (Al4 _) hws (by simp only[Lim];omega)) wZ (by omega) (by omega) (by omega) fun oU lU HU wU _=>?_
      simp(disch:=first|omega|assumption) only[wrap64,go_sem]
      exact goJ (hJ (oU,lU) HU (wU.castC (by rw[y8];simp only[bS];omega) (by rw[zH,er,hbv];simp[hz,hal,yM]) (fun e=>by rw[yt,et (by rw[zH,er] at e;simp only[Al0] at e;exact e.2.1.1.1.1.1)];simp[hz,hal,tBl]))) (by simp(disch:=first|omega|assumption) only[go_sem])
   subst ho
   have hbv:n=true:=by rw[hnd];simp
   simp(disch:=first|omega|assumption) only[hc5,hbc,go_sem]
   refine zl (y1 _) w5 (by omega) (by omega) (by omega) fun o6 l6 H6 w6 s6=>?_
   have hb6:=s6.box w5.here.own hbc hbw
   by_cases hal:al=[]
   case pos =>
    simp(disch:=first|omega|assumption) only[hb6,hal,go_sem]
    refine zl (yd nm (by simp only[Lim];omega)) w6 (by omega) (by omega) (by omega) fun o9 l9 H9 w9 s9=>?_
    have hb9:=s9.box w6.here.own hb6 hbw
    simp(disch:=first|omega|assumption) only[hb9,go_sem]
    refine zl (zbN false args hwa (by simp only[Lim];omega)) w9 (by omega) (by omega) (by omega) fun oY lY HY wY sY=>?_
    have hbY:=sY.box w9.here.own hb9 hbw
    simp(disch:=first|omega|assumption) only[hbY,go_sem]
    refine zl (yw false dirs hwd (by simp only[Lim];omega)) wY (by omega) (by omega) (by omega) fun oZ lZ HZ wZ sZ=>?_
    have hbZ:=sZ.box wY.here.own hbY hbw
    simp(disch:=first|omega|assumption) only[hbZ,go_sem]
    by_cases hz:sels.length=0
    case pos =>
     have hz':¬ ((0:Int)<(sels.length:Int)):=by omega
     simp(disch:=first|omega|assumption) only[hcss,hz',wrap64,go_sem]
     exact goJ (hJ (oZ,lZ) HZ (wZ.castC (by rw[y8];simp only[bS];omega) (by rw[zH,er,hbv];simp[hz,hal,yM]) (fun e=>by rw[yt,et (by rw[zH,er] at e;simp only[Al0] at e;exact e.2.1.1.1.1.1)];simp[hz,hal]))) (by simp(disch:=first|omega|assumption) only[go_sem])
    case neg =>
     have hz':((0:Int)<(sels.length:Int))=True:=eq_true (by omega)
     have hbox:=sZ.box wY.here.own hbY hbw
     simp(disch:=first|omega|assumption) only[hcss,hz',hbox,go_sem]
     refine zl (yu hLB sels (Al4 _) hws (by simp only[Lim];omega)) wZ (by omega) (by omega) (by omega) fun oU lU HU wU _=>?_
     simp(disch:=first|omega|assumption) only[wrap64,go_sem]
     exact goJ (hJ (oU,lU) HU (wU.castC (by rw[y8];simp only[bS];omega) (by rw[zH,er,hbv];simp[hz,hal,yM]) (fun e=>by rw[yt,et (by rw[zH,er] at e;simp only[Al0] at e;exact e.2.1.1.1.1.1)];simp[hz,hal,tBl]))) (by simp(disch:=first|omega|assumption) only[go_sem])
   case neg =>
    simp(disch:=first|omega|assumption) only[hb6,hal,go_sem]
    refine zl (yd al (by simp only[Lim];omega)) w6 (by omega) (by omega) (by omega) fun o7 l7 H7 w7 s7=>?_
    have hb7:=s7.box w6.here.own hb6 hbw
    simp(disch:=first|omega|assumption) only[hb7,go_sem]
    refine zl (yn [58] _) w7 (by omega) (by omega) (by omega) fun o8 l8 H8 w8 s8=>?_
    have hb8:=s8.box w7.here.own hb7 hbw
    simp(disch:=first|omega|assumption) only[hb8,go_sem]
    refine zl (yd nm (by simp only[Lim];omega)) w8 (by omega) (by omega) (by omega) fun o9 l9 H9 w9 s9=>?_
    have hb9:=s9.box w8.here.own hb8 hbw
    simp(disch:=first|omega|assumption) only[hb9,go_sem]
    refine zl (zbN false args hwa (by simp only[Lim];omega)) w9 (by omega) (by omega) (by omega) fun oY lY HY wY sY=>?_
    have hbY:=sY.box w9.here.own hb9 hbw
    simp(disch:=first|omega|assumption) only[hbY,go_sem]
    refine zl (yw false dirs hwd (by simp only[Lim];omega)) wY (by omega) (by omega) (by omega) fun oZ lZ HZ wZ sZ=>?_
    have hbZ:=sZ.box wY.here.own hbY hbw
    simp(disch:=first|omega|assumption) only[hbZ,go_sem]
    by_cases hz:sels.length=0
    case pos =>
     have hz':¬ ((0:Int)<(sels.length:Int)):=by omega
     simp(disch:=first|omega|assumption) only[hcss,hz',wrap64,go_sem]
     exact goJ (hJ (oZ,lZ) HZ (wZ.castC (by rw[y8];simp only[bS];omega) (by rw[zH,er,hbv];simp[hz,hal,yM]) (fun e=>by rw[yt,et (by rw[zH,er] at e;simp only[Al0] at e;exact e.2.1.1.1.1.1)];simp[hz,hal]))) (by simp(disch:=first|omega|assumption) only[go_sem])
    case neg =>
     have hz':((0:Int)<(sels.length:Int))=True:=eq_true (by omega)
     have hbox:=sZ.box wY.here.own hbY hbw
     simp(disch:=first|omega|assumption) only[hcss,hz',hbox,go_sem]
     refine zl (yu hLB sels (Al4 _) hws (by simp only[Lim];omega)) wZ (by omega) (by omega) (by omega) fun oU lU HU wU _=>?_
     simp(disch:=first|omega|assumption) only[wrap64,go_sem]
     exact goJ (hJ (oU,lU) HU (wU.castC (by rw[y8];simp only[bS];omega) (by rw[zH,er,hbv];simp[hz,hal,yM]) (fun e=>by rw[yt,et (by rw[zH,er] at e;simp only[Al0] at e;exact e.2.1.1.1.1.1)];simp[hz,hal,tBl]))) (by simp(disch:=first|omega|assumption) only[go_sem])
theorem Y8 (l:List VarD) (x:VarD):bWs (l++[x])=bWs l+bW x:=by simp[bWs]
theorem zmg (f:FragD) (hw:wfF f) (hm:32*bF f≤Lim):WC 72 [.agg (cF f)] (32*bF f) 0 16 (fun dp=>decide (f.nm≠[111,110])&&(zJ f.nm&&(zJ f.on&&(yf dp true f.dirs&&zI (dp+1) f.sels)))) (tF f):=by
 intro H w o l ok dp h h0 h1 hb
 obtain⟨nm,on,dirs,sels⟩:=f
 have hm':=hm
 simp only[Lim,bF] at hm'
 simp only[bF] at hb
 obtain⟨hwd,hws⟩:=hw
 have ef:cF ⟨nm,on,dirs,sels⟩=[.str nm,.str on,.sl .no 2 (cDs dirs),.sl .no 7 (cSs sels)]:=rfl
 refine zC.go ir72 ck72 (Al4 _) fun KP Q hQ=>?_
 have w0:=WR.refl h
 obtain⟨n,hn⟩:∃ n,n=decide (nm≠[111,110]):=⟨_,rfl⟩
 have nf:zJ [102,114,97,103,109,101,110,116]=true:=by decide
 by_cases ho:nm=[111,110]
 case' pos =>
  have hbv:n=false:=by rw[hn];simp[ho]
  subst ho
  simp(disch:=first|omega|assumption) only[ir72,ef,go_sem]
  refine zl (y1 _) w0 (by omega) (by omega) (by omega) fun o1 l1 H1 w1 _=>?_
 case' neg =>
  have hbv:n=true:=by rw[hn];simp[ho]
  simp(disch:=first|omega|assumption) only[ir72,ef,ho,go_sem]
  refine zl (y1 _) w0 (by omega) (by omega) (by omega) fun o1 l1 H1 w1 _=>?_
 all_goals
  simp(disch:=first|omega|assumption) only[go_sem]
  refine zl (yd [102,114,97,103,109,101,110,116] (by simp[Lim])) w1 (by omega) (by omega) (by omega) fun o2 l2 H2 w2 _=>?_
  simp(disch:=first|omega|assumption) only[go_sem]
  refine zl (yd _ (by simp only[Lim];first|omega|simp)) w2 (by omega) (by omega) (by omega) fun o3 l3 H3 w3 _=>?_
  simp(disch:=first|omega|assumption) only[go_sem]
  refine zl (yd [111,110] (by simp[Lim])) w3 (by omega) (by omega) (by omega) fun o4 l4 H4 w4 _=>?_
  simp(disch:=first|omega|assumption) only[go_sem]
  refine zl (yd on (by simp only[Lim];omega)) w4 (by omega) (by omega) (by omega) fun o5 l5 H5 w5 _=>?_
  simp(disch:=first|omega|assumption) only[go_sem]
  refine zl (yw true dirs hwd (by simp only[Lim];omega)) w5 (by omega) (by omega) (by omega) fun o6 l6 H6 w6 _=>?_
  simp(disch:=first|omega|assumption) only[go_sem]
  refine zl (yu (ZU (bSs sels)) sels (Al4 _) hws (by simp only[Lim];omega)) w6 (by omega) (by omega) (by omega) fun o7 l7 H7 w7 _=>?_
  simp(disch:=first|omega|assumption) only[go_sem]
  exact hQ _ _ H7 H7 [] nofun rfl (Low.refl _) ⟨rfl,w7.fin (by simp only[← hn,hbv,nf,zfY];simp[yM]) (fun _=>by simp[tF]) (by simp only[bF];omega)⟩
noncomputable def Zl (dp:Int) (x:VarD):Bool:=zJ x.nm&&(zT x.t&&(if x.has then yo dp true x.d else eqd x.d zV))
noncomputable def yp (dp:Int) (x:OpD):Bool:=(decide (x.k=0)||decide (x.k=1))&&((decide (x.nm=[])||zJ x.nm)&&(x.vars.all (Zl dp)&&(yf dp true x.dirs&&zI (dp+1) x.sels)))
theorem znS (x:OpD) (hw:wfO x) (hm:64*bO x≤Lim):WC 71 [.agg (cO x)] (64*bO x) 0 16 (fun dp=>yp dp x) (tO x):=by
 intro H w o l ok dp h h0 h1 hb
 obtain⟨k,nm,vars,dirs,sels⟩:=x
 have hm':=hm
 simp only[Lim,bO] at hm'
 simp only[bO] at hb
 obtain⟨hwv,hwd,hws⟩:=hw
 have eo:cO ⟨k,nm,vars,dirs,sels⟩=[.int .i64 k,.str nm,.sl .no 10 (cWs vars),.sl .no 2 (cDs dirs),.sl .no 7 (cSs sels)]:=rfl
 have hcw:=zaz vars
 have hvl:=zbt vars
 have nq:zJ [113,117,101,114,121]=true:=by decide
 have nmu:zJ [109,117,116,97,116,105,111,110]=true:=by decide
 refine zC.go ir71 ck71 (Al4 _) fun KP Q hQ=>?_
 have w0:=WR.refl h
 obtain⟨R3,hR3⟩:∃ R3,R3=((decide (k=0)||decide (k=1))&&(decide (nm=[])||zJ nm)):=⟨_,rfl⟩
 obtain⟨T3,hT3⟩:∃ T3,T3=(wk (if k=0 then [113,117,101,114,121] else [109,117,116,97,116,105,111,110])::(if nm=[] then [] else [wk nm])):=⟨_,rfl⟩
 have er:yp dp ⟨k,nm,vars,dirs,sels⟩=(R3&&(vars.all (Zl dp)&&(yf dp true dirs&&zI (dp+1) sels))):=by
  rw[hR3];simp only[yp,yM]
 have et:R3=true→tO ⟨k,nm,vars,dirs,sels⟩=T3++(tWs vars++(tDs dirs++tBl sels)):=fun _=>by rw[hT3];simp[tO]
 by_cases hk0:k=0
 ·subst hk0
  have hk0:True:=trivial
  have hk1:True:=trivial
  simp(disch:=first|omega|assumption) only[ir71,eo,go_sem]
  refine zl (yd [113,117,101,114,121] (by simp[Lim])) w0 (by omega) (by omega) (by omega) fun o2 l2 H2 w2 _=>?_
  by_cases hnm:nm=[]
  case pos =>
   have w3:=(w2.castC (B':=2) (r':=R3) (tk':=T3) (by omega) (by rw[hR3];simp[hk0,hk1,hnm,nq,nmu]) (fun e=>by first|(rw[hT3];simp[hk0,hk1,hnm];done)|(exfalso;revert e;rw[hR3];simp[hk0,hk1])))
   by_cases hv0:vars.length=0
   case pos =>
    have hv1:¬ ((0:Int)<(vars.length:Int)):=by omega
    have hev:=za7.1 hv0
    simp(disch:=first|omega|assumption) only[hnm,hcw,hv1,go_sem]
    refine zl (yw true dirs hwd (by simp only[Lim];omega)) w3 (by omega) (by omega) (by omega) fun oA lA HA wA _=>?_
    simp(disch:=first|omega|assumption) only[go_sem]
    refine zl (yu (ZU (bSs sels)) sels (Al4 _) hws (by simp only[Lim];omega)) wA (by omega) (by omega) (by omega) fun oB lB HB wB _=>?_
    simp(disch:=first|omega|assumption) only[go_sem]
    exact hQ _ _ HB HB [] nofun rfl (Low.refl _) ⟨rfl,wB.fin (by show _=yp dp _;rw[er];simp[hev,yM]) (fun e=>by rw[et (by have e:yp dp _=true:=e;rw[er] at e;simp only[Al0] at e;exact e.1)];simp[tWs,hv0]) (by simp only[bO];omega)⟩
   case neg =>
    have hev:=hv0
    have hv1:((0:Int)<(vars.length:Int))=True:=eq_true (by omega)
    simp(disch:=first|omega|assumption) only[hnm,hcw,hv1,go_sem]
    refine zl (yn [40] _) w3 (by omega) (by omega) (by omega) fun o4 l4 H4 w4 _=>?_
    simp(disch:=first|omega|assumption) only[hcw,go_sem]
    refine zm vars 35 (fun x:Own×List Tok=>[]) (fun done rest x H'=>WR H o w l ok dp (3+32*bWs done) (R3&&done.all (Zl dp)) (T3++(pk [40]::done.flatMap tW)) H' x.1 x.2) (o4,l4) (by simp(disch:=first|omega|assumption) only[go_sem]) (w4.cast (by omega) (by simp) (by simp)) ?_ ?_
    case refine_1 =>
     rintro⟨o5,l5⟩ H5 J5 w5 hlt
     simp only at w5
     simp(disch:=first|omega|assumption) only[hcw,hlt,go_sem]
     refine zl (yn [41] _) w5 (by omega) (by omega) (by omega) fun o6 l6 H6 w6 _=>?_
     simp(disch:=first|omega|assumption) only[go_sem]
     refine zl (yw true dirs hwd (by simp only[Lim];omega)) w6 (by omega) (by omega) (by omega) fun oA lA HA wA _=>?_
     simp(disch:=first|omega|assumption) only[go_sem]
     refine zl (yu (ZU (bSs sels)) sels (Al4 _) hws (by simp only[Lim];omega)) wA (by omega) (by omega) (by omega) fun oB lB HB wB _=>?_
     simp(disch:=first|omega|assumption) only[go_sem]
     exact hQ _ _ HB HB [] nofun rfl (Low.refl _) ⟨rfl,wB.fin (by show _=yp dp _;rw[er];simp[hev,yM]) (fun e=>by rw[et (by have e:yp dp _=true:=e;rw[er] at e;simp only[Al0] at e;exact e.1)];simp[tWs,hv0]) (by simp only[bO];omega)⟩
    case refine_2 =>
     rintro done x rest ⟨o5,l5⟩ H5 J5 hd hlt hlt2 w5 hJ5
     simp only at w5
     have hg:=yX hd
     have hbm:=y7 done x rest
     rw[← hd] at hbm
     have hwx:=hwv x (by rw[hd];simp)
     obtain⟨vn,⟨tn,tl,tm⟩,vh,vd⟩:=x
     have hwvd:wfV vd:=hwx.2.2
     have hvp:=ZV vd
     have hbx:bW ⟨vn,⟨tn,tl,tm⟩,vh,vd⟩=vn.length+tn.length+bV vd:=rfl
     rw[Ye] at hg
     simp only at hg
     simp(disch:=first|omega|assumption) only[zi,zf,zb,zj,zg,za,zk,hcw,hlt,hg,go_sem]
     refine zv fun b hb=>?_
     have hbw:b≠w:=fun e=>by subst e;rw[w5.here.cell] at hb;cases hb
     have w6:=w5.alloc (x:=.cells (.str vn::.str tn::.int .i64 tl::.int .i64 tm::.bool vh::cV vd)) hb
     have hbc:(H5.upd b (.cells (.str vn::.str tn::.int .i64 tl::.int .i64 tm::.bool vh::cV vd))) b=some (.cells (.str vn::.str tn::.int .i64 tl::.int .i64 tm::.bool vh::cV vd)):=upd_same ..
     simp(disch:=first|omega|assumption) only[zi,zf,zb,zj,zg,za,zk,go_sem]
     refine zl (yn [36] _) w6 (by omega) (by omega) (by omega) fun o7 l7 H7 w7 s7=>?_
     have hb7:=s7.box w6.here.own hbc hbw
     simp(disch:=first|omega|assumption) only[zi,zf,zb,zj,zg,za,zk,hb7,go_sem]
     refine zl (yd vn (by simp only[Lim];omega)) w7 (by omega) (by omega) (by omega) fun o8 l8 H8 w8 s8=>?_
     have hb8:=s8.box w7.here.own hb7 hbw
     simp(disch:=first|omega|assumption) only[zi,zf,zb,zj,zg,za,zk,hb8,go_sem]
     refine zl (yn [58] _) w8 (by omega) (by omega) (by omega) fun o9 l9 H9 w9 s9=>?_
     have hb9:=s9.box w8.here.own hb8 hbw
     simp(disch:=first|omega|assumption) only[zi,zf,zb,zj,zg,za,zk,hb9,go_sem]
     refine zl (args:=[.agg [.str tn,.int .i64 tl,.int .i64 tm]]) (show WC _ [.agg [.str tn,.int .i64 tl,.int .i64 tm]] 20 (-1000) 1000 (fun _=>zT ⟨tn,tl,tm⟩) (tTy ⟨tn,tl,tm⟩) from zcl ⟨tn,tl,tm⟩ (by simp only[Lim];omega)) w9 (by omega) (by omega) (by omega) fun oC lC HC wC sC=>?_
     have hbC:=sC.box w9.here.own hb9 hbw
     simp(disch:=first|omega|assumption) only[zi,zf,zb,zj,zg,za,zk,hbC,go_sem]
     refine zl (Yw vh vd hwvd (by simp only[Lim];omega)) wC (by omega) (by omega) (by omega) fun oD lD HD wD sD=>?_
     simp(disch:=first|omega|assumption) only[wrap64,go_sem]
     exact goJ (hJ5 (oD,lD) HD (wD.cast (by rw[Y8];omega) (by simp[Zl,yM]) (by simp[tW]))) (by simp(disch:=first|omega|assumption) only[go_sem])
  case neg =>
   simp(disch:=first|omega|assumption) only[hnm,go_sem]
   refine zl (yd nm (by simp only[Lim];omega)) w2 (by omega) (by omega) (by omega) fun o3 l3 H3 w3' _=>?_
   have w3:=(w3'.castC (B':=2) (r':=R3) (tk':=T3) (by omega) (by rw[hR3];simp[hk0,hk1,hnm,nq,nmu]) (fun e=>by first|(rw[hT3];simp[hk0,hk1,hnm];done)|(exfalso;revert e;rw[hR3];simp[hk0,hk1])))
   by_cases hv0:vars.length=0
   case pos =>
    have hv1:¬ ((0:Int)<(vars.length:Int)):=by omega
    have hev:=za7.1 hv0
    simp(disch:=first|omega|assumption) only[hnm,hcw,hv1,go_sem]
    refine zl (yw true dirs hwd (by simp only[Lim];omega)) w3 (by omega) (by omega) (by omega) fun oA lA HA wA _=>?_
    simp(disch:=first|omega|assumption) only[go_sem]
    refine zl (yu (ZU (bSs sels)) sels (Al4 _) hws (by simp only[Lim];omega)) wA (by omega) (by omega) (by omega) fun oB lB HB wB _=>?_
    simp(disch:=first|omega|assumption) only[go_sem]
    exact hQ _ _ HB HB [] nofun rfl (Low.refl _) ⟨rfl,wB.fin (by show _=yp dp _;rw[er];simp[hev,yM]) (fun e=>by rw[et (by have e:yp dp _=true:=e;rw[er] at e;simp only[Al0] at e;exact e.1)];simp[tWs,hv0]) (by simp only[bO];omega)⟩
   case neg =>
    have hev:=hv0
    have hv1:((0:Int)<(vars.length:Int))=True:=eq_true (by omega)
    simp(disch:=first|omega|assumption) only[hnm,hcw,hv1,go_sem]
    refine zl (yn [40] _) w3 (by omega) (by omega) (by omega) fun o4 l4 H4 w4 _=>?_
    simp(disch:=first|omega|assumption) only[hcw,go_sem]
    refine zm vars 35 (fun x:Own×List Tok=>[]) (fun done rest x H'=>WR H o w l ok dp (3+32*bWs done) (R3&&done.all (Zl dp)) (T3++(pk [40]::done.flatMap tW)) H' x.1 x.2) (o4,l4) (by simp(disch:=first|omega|assumption) only[go_sem]) (w4.cast (by omega) (by simp) (by simp)) ?_ ?_
    case refine_1 =>
     rintro⟨o5,l5⟩ H5 J5 w5 hlt
     simp only at w5
     simp(disch:=first|omega|assumption) only[hcw,hlt,go_sem]
     refine zl (yn [41] _) w5 (by omega) (by omega) (by omega) fun o6 l6 H6 w6 _=>?_
     simp(disch:=first|omega|assumption) only[go_sem]
     refine zl (yw true dirs hwd (by simp only[Lim];omega)) w6 (by omega) (by omega) (by omega) fun oA lA HA wA _=>?_
     simp(disch:=first|omega|assumption) only[go_sem]
     refine zl (yu (ZU (bSs sels)) sels (Al4 _) hws (by simp only[Lim];omega)) wA (by omega) (by omega) (by omega) fun oB lB HB wB _=>?_
     simp(disch:=first|omega|assumption) only[go_sem]
     exact hQ _ _ HB HB [] nofun rfl (Low.refl _) ⟨rfl,wB.fin (by show _=yp dp _;rw[er];simp[hev,yM]) (fun e=>by rw[et (by have e:yp dp _=true:=e;rw[er] at e;simp only[Al0] at e;exact e.1)];simp[tWs,hv0]) (by simp only[bO];omega)⟩
    case refine_2 =>
     rintro done x rest ⟨o5,l5⟩ H5 J5 hd hlt hlt2 w5 hJ5
     simp only at w5
     have hg:=yX hd
     have hbm:=y7 done x rest
     rw[← hd] at hbm
     have hwx:=hwv x (by rw[hd];simp)
     obtain⟨vn,⟨tn,tl,tm⟩,vh,vd⟩:=x
     have hwvd:wfV vd:=hwx.2.2
     have hvp:=ZV vd
     have hbx:bW ⟨vn,⟨tn,tl,tm⟩,vh,vd⟩=vn.length+tn.length+bV vd:=rfl
     rw[Ye] at hg
     simp only at hg
     simp(disch:=first|omega|assumption) only[zi,zf,zb,zj,zg,za,zk,hcw,hlt,hg,go_sem]
     refine zv fun b hb=>?_
     have hbw:b≠w:=fun e=>by subst e;rw[w5.here.cell] at hb;cases hb
     have w6:=w5.alloc (x:=.cells (.str vn::.str tn::.int .i64 tl::.int .i64 tm::.bool vh::cV vd)) hb
     have hbc:(H5.upd b (.cells (.str vn::.str tn::.int .i64 tl::.int .i64 tm::.bool vh::cV vd))) b=some (.cells (.str vn::.str tn::.int .i64 tl::.int .i64 tm::.bool vh::cV vd)):=upd_same ..
     simp(disch:=first|omega|assumption) only[zi,zf,zb,zj,zg,za,zk,go_sem]
     refine zl (yn [36] _) w6 (by omega) (by omega) (by omega) fun o7 l7 H7 w7 s7=>?_
     have hb7:=s7.box w6.here.own hbc hbw
     simp(disch:=first|omega|assumption) only[zi,zf,zb,zj,zg,za,zk,hb7,go_sem]
     refine zl (yd vn (by simp only[Lim];omega)) w7 (by omega) (by omega) (by omega) fun o8 l8 H8 w8 s8=>?_
     have hb8:=s8.box w7.here.own hb7 hbw
     simp(disch:=first|omega|assumption) only[zi,zf,zb,zj,zg,za,zk,hb8,go_sem]
     refine zl (yn [58] _) w8 (by omega) (by omega) (by omega) fun o9 l9 H9 w9 s9=>?_
     have hb9:=s9.box w8.here.own hb8 hbw
     simp(disch:=first|omega|assumption) only[zi,zf,zb,zj,zg,za,zk,hb9,go_sem]
     refine zl (args:=[.agg [.str tn,.int .i64 tl,.int .i64 tm]]) (show WC _ [.agg [.str tn,.int .i64 tl,.int .i64 tm]] 20 (-1000) 1000 (fun _=>zT ⟨tn,tl,tm⟩) (tTy ⟨tn,tl,tm⟩) from zcl ⟨tn,tl,tm⟩ (by simp only[Lim];omega)) w9 (by omega) (by omega) (by omega) fun oC lC HC wC sC=>?_
     have hbC:=sC.box w9.here.own hb9 hbw
     simp(disch:=first|omega|assumption) only[zi,zf,zb,zj,zg,za,zk,hbC,go_sem]
     refine zl (Yw vh vd hwvd (by simp only[Lim];omega)) wC (by omega) (by omega) (by omega) fun oD lD HD wD sD=>?_
     simp(disch:=first|omega|assumption) only[wrap64,go_sem]
     exact goJ (hJ5 (oD,lD) HD (wD.cast (by rw[Y8];omega) (by simp[Zl,yM]) (by simp[tW]))) (by simp(disch:=first|omega|assumption) only[go_sem])
 by_cases hk1:k=1
 ·subst hk1
  have hk1:True:=trivial
  simp(disch:=first|omega|assumption) only[ir71,eo,go_sem]
  refine zl (yd [109,117,116,97,116,105,111,110] (by simp[Lim])) w0 (by omega) (by omega) (by omega) fun o2 l2 H2 w2 _=>?_
  by_cases hnm:nm=[]
  case pos =>
   have w3:=(w2.castC (B':=2) (r':=R3) (tk':=T3) (by omega) (by rw[hR3];simp[hk0,hk1,hnm,nq,nmu]) (fun e=>by first|(rw[hT3];simp[hk0,hk1,hnm];done)|(exfalso;revert e;rw[hR3];simp[hk0,hk1])))
   by_cases hv0:vars.length=0
   case pos =>
    have hv1:¬ ((0:Int)<(vars.length:Int)):=by omega
    have hev:=za7.1 hv0
    simp(disch:=first|omega|assumption) only[hnm,hcw,hv1,go_sem]
    refine zl (yw true dirs hwd (by simp only[Lim];omega)) w3 (by omega) (by omega) (by omega) fun oA lA HA wA _=>?_
    simp(disch:=first|omega|assumption) only[go_sem]
    refine zl (yu (ZU (bSs sels)) sels (Al4 _) hws (by simp only[Lim];omega)) wA (by omega) (by omega) (by omega) fun oB lB HB wB _=>?_
    simp(disch:=first|omega|assumption) only[go_sem]
    exact hQ _ _ HB HB [] nofun rfl (Low.refl _) ⟨rfl,wB.fin (by show _=yp dp _;rw[er];simp[hev,yM]) (fun e=>by rw[et (by have e:yp dp _=true:=e;rw[er] at e;simp only[Al0] at e;exact e.1)];simp[tWs,hv0]) (by simp only[bO];omega)⟩
   case neg =>
    have hev:=hv0
    have hv1:((0:Int)<(vars.length:Int))=True:=eq_true (by omega)
    simp(disch:=first|omega|assumption) only[hnm,hcw,hv1,go_sem]
    refine zl (yn [40] _) w3 (by omega) (by omega) (by omega) fun o4 l4 H4 w4 _=>?_
    simp(disch:=first|omega|assumption) only[hcw,go_sem]
    refine zm vars 35 (fun x:Own×List Tok=>[]) (fun done rest x H'=>WR H o w l ok dp (3+32*bWs done) (R3&&done.all (Zl dp)) (T3++(pk [40]::done.flatMap tW)) H' x.1 x.2) (o4,l4) (by simp(disch:=first|omega|assumption) only[go_sem]) (w4.cast (by omega) (by simp) (by simp)) ?_ ?_
    case refine_1 =>
     rintro⟨o5,l5⟩ H5 J5 w5 hlt
     simp only at w5
     simp(disch:=first|omega|assumption) only[hcw,hlt,go_sem]
     refine zl (yn [41] _) w5 (by omega) (by omega) (by omega) fun o6 l6 H6 w6 _=>?_
     simp(disch:=first|omega|assumption) only[go_sem]
     refine zl (yw true dirs hwd (by simp only[Lim];omega)) w6 (by omega) (by omega) (by omega) fun oA lA HA wA _=>?_
     simp(disch:=first|omega|assumption) only[go_sem]
     refine zl (yu (ZU (bSs sels)) sels (Al4 _) hws (by simp only[Lim];omega)) wA (by omega) (by omega) (by omega) fun oB lB HB wB _=>?_
     simp(disch:=first|omega|assumption) only[go_sem]
     exact hQ _ _ HB HB [] nofun rfl (Low.refl _) ⟨rfl,wB.fin (by show _=yp dp _;rw[er];simp[hev,yM]) (fun e=>by rw[et (by have e:yp dp _=true:=e;rw[er] at e;simp only[Al0] at e;exact e.1)];simp[tWs,hv0]) (by simp only[bO];omega)⟩
    case refine_2 =>
     rintro done x rest ⟨o5,l5⟩ H5 J5 hd hlt hlt2 w5 hJ5
     simp only at w5
     have hg:=yX hd
     have hbm:=y7 done x rest
     rw[← hd] at hbm
     have hwx:=hwv x (by rw[hd];simp)
     obtain⟨vn,⟨tn,tl,tm⟩,vh,vd⟩:=x
     have hwvd:wfV vd:=hwx.2.2
     have hvp:=ZV vd
     have hbx:bW ⟨vn,⟨tn,tl,tm⟩,vh,vd⟩=vn.length+tn.length+bV vd:=rfl
     rw[Ye] at hg
     simp only at hg
     simp(disch:=first|omega|assumption) only[zi,zf,zb,zj,zg,za,zk,hcw,hlt,hg,go_sem]
     refine zv fun b hb=>?_
     have hbw:b≠w:=fun e=>by subst e;rw[w5.here.cell] at hb;cases hb
     have w6:=w5.alloc (x:=.cells (.str vn::.str tn::.int .i64 tl::.int .i64 tm::.bool vh::cV vd)) hb
     have hbc:(H5.upd b (.cells (.str vn::.str tn::.int .i64 tl::.int .i64 tm::.bool vh::cV vd))) b=some (.cells (.str vn::.str tn::.int .i64 tl::.int .i64 tm::.bool vh::cV vd)):=upd_same ..
     simp(disch:=first|omega|assumption) only[zi,zf,zb,zj,zg,za,zk,go_sem]
     refine zl (yn [36] _) w6 (by omega) (by omega) (by omega) fun o7 l7 H7 w7 s7=>?_
     have hb7:=s7.box w6.here.own hbc hbw
     simp(disch:=first|omega|assumption) only[zi,zf,zb,zj,zg,za,zk,hb7,go_sem]
     refine zl (yd vn (by simp only[Lim];omega)) w7 (by omega) (by omega) (by omega) fun o8 l8 H8 w8 s8=>?_
     have hb8:=s8.box w7.here.own hb7 hbw
     simp(disch:=first|omega|assumption) only[zi,zf,zb,zj,zg,za,zk,hb8,go_sem]
     refine zl (yn [58] _) w8 (by omega) (by omega) (by omega) fun o9 l9 H9 w9 s9=>?_
     have hb9:=s9.box w8.here.own hb8 hbw
     simp(disch:=first|omega|assumption) only[zi,zf,zb,zj,zg,za,zk,hb9,go_sem]
     refine zl (args:=[.agg [.str tn,.int .i64 tl,.int .i64 tm]]) (show WC _ [.agg [.str tn,.int .i64 tl,.int .i64 tm]] 20 (-1000) 1000 (fun _=>zT ⟨tn,tl,tm⟩) (tTy ⟨tn,tl,tm⟩) from zcl ⟨tn,tl,tm⟩ (by simp only[Lim];omega)) w9 (by omega) (by omega) (by omega) fun oC lC HC wC sC=>?_
     have hbC:=sC.box w9.here.own hb9 hbw
     simp(disch:=first|omega|assumption) only[zi,zf,zb,zj,zg,za,zk,hbC,go_sem]
     refine zl (Yw vh vd hwvd (by simp only[Lim];omega)) wC (by omega) (by omega) (by omega) fun oD lD HD wD sD=>?_
     simp(disch:=first|omega|assumption) only[wrap64,go_sem]
     exact goJ (hJ5 (oD,lD) HD (wD.cast (by rw[Y8];omega) (by simp[Zl,yM]) (by simp[tW]))) (by simp(disch:=first|omega|assumption) only[go_sem])
  case neg =>
   simp(disch:=first|omega|assumption) only[hnm,go_sem]
   refine zl (yd nm (by simp only[Lim];omega)) w2 (by omega) (by omega) (by omega) fun o3 l3 H3 w3' _=>?_
   have w3:=(w3'.castC (B':=2) (r':=R3) (tk':=T3) (by omega) (by rw[hR3];simp[hk0,hk1,hnm,nq,nmu]) (fun e=>by first|(rw[hT3];simp[hk0,hk1,hnm];done)|(exfalso;revert e;rw[hR3];simp[hk0,hk1])))
   by_cases hv0:vars.length=0
   case pos =>
    have hv1:¬ ((0:Int)<(vars.length:Int)):=by omega
    have hev:=za7.1 hv0
    simp(disch:=first|omega|assumption) only[hnm,hcw,hv1,go_sem]
    refine zl (yw true dirs hwd (by simp only[Lim];omega)) w3 (by omega) (by omega) (by omega) fun oA lA HA wA _=>?_
    simp(disch:=first|omega|assumption) only[go_sem]
    refine zl (yu (ZU (bSs sels)) sels (Al4 _) hws (by simp only[Lim];omega)) wA (by omega) (by omega) (by omega) fun oB lB HB wB _=>?_
    simp(disch:=first|omega|assumption) only[go_sem]
    exact hQ _ _ HB HB [] nofun rfl (Low.refl _) ⟨rfl,wB.fin (by show _=yp dp _;rw[er];simp[hev,yM]) (fun e=>by rw[et (by have e:yp dp _=true:=e;rw[er] at e;simp only[Al0] at e;exact e.1)];simp[tWs,hv0]) (by simp only[bO];omega)⟩
   case neg =>
    have hev:=hv0
    have hv1:((0:Int)<(vars.length:Int))=True:=eq_true (by omega)
    simp(disch:=first|omega|assumption) only[hnm,hcw,hv1,go_sem]
    refine zl (yn [40] _) w3 (by omega) (by omega) (by omega) fun o4 l4 H4 w4 _=>?_
    simp(disch:=first|omega|assumption) only[hcw,go_sem]
    refine zm vars 35 (fun x:Own×List Tok=>[]) (fun done rest x H'=>WR H o w l ok dp (3+32*bWs done) (R3&&done.all (Zl dp)) (T3++(pk [40]::done.flatMap tW)) H' x.1 x.2) (o4,l4) (by simp(disch:=first|omega|assumption) only[go_sem]) (w4.cast (by omega) (by simp) (by simp)) ?_ ?_
    case refine_1 =>
     rintro⟨o5,l5⟩ H5 J5 w5 hlt
     simp only at w5
     simp(disch:=first|omega|assumption) only[hcw,hlt,go_sem]
     refine zl (yn [41] _) w5 (by omega) (by omega) (by omega) fun o6 l6 H6 w6 _=>?_
     simp(disch:=first|omega|assumption) only[go_sem]
     refine zl (yw true dirs hwd (by simp only[Lim];omega)) w6 (by omega) (by omega) (by omega) fun oA lA HA wA _=>?_
     simp(disch:=first|omega|assumption) only[go_sem]
     refine zl (yu (ZU (bSs sels)) sels (Al4 _) hws (by simp only[Lim];omega)) wA (by omega) (by omega) (by omega) fun oB lB HB wB _=>?_
     simp(disch:=first|omega|assumption) only[go_sem]
     exact hQ _ _ HB HB [] nofun rfl (Low.refl _) ⟨rfl,wB.fin (by show _=yp dp _;rw[er];simp[hev,yM]) (fun e=>by rw[et (by have e:yp dp _=true:=e;rw[er] at e;simp only[Al0] at e;exact e.1)];simp[tWs,hv0]) (by simp only[bO];omega)⟩
    case refine_2 =>
     rintro done x rest ⟨o5,l5⟩ H5 J5 hd hlt hlt2 w5 hJ5
     simp only at w5
     have hg:=yX hd
     have hbm:=y7 done x rest
     rw[← hd] at hbm
     have hwx:=hwv x (by rw[hd];simp)
     obtain⟨vn,⟨tn,tl,tm⟩,vh,vd⟩:=x
     have hwvd:wfV vd:=hwx.2.2
     have hvp:=ZV vd
     have hbx:bW ⟨vn,⟨tn,tl,tm⟩,vh,vd⟩=vn.length+tn.length+bV vd:=rfl
     rw[Ye] at hg
     simp only at hg
     simp(disch:=first|omega|assumption) only[zi,zf,zb,zj,zg,za,zk,hcw,hlt,hg,go_sem]
     refine zv fun b hb=>?_
     have hbw:b≠w:=fun e=>by subst e;rw[w5.here.cell] at hb;cases hb
     have w6:=w5.alloc (x:=.cells (.str vn::.str tn::.int .i64 tl::.int .i64 tm::.bool vh::cV vd)) hb
     have hbc:(H5.upd b (.cells (.str vn::.str tn::.int .i64 tl::.int .i64 tm::.bool vh::cV vd))) b=some (.cells (.str vn::.str tn::.int .i64 tl::.int .i64 tm::.bool vh::cV vd)):=upd_same ..
     simp(disch:=first|omega|assumption) only[zi,zf,zb,zj,zg,za,zk,go_sem]
     refine zl (yn [36] _) w6 (by omega) (by omega) (by omega) fun o7 l7 H7 w7 s7=>?_
     have hb7:=s7.box w6.here.own hbc hbw
     simp(disch:=first|omega|assumption) only[zi,zf,zb,zj,zg,za,zk,hb7,go_sem]
     refine zl (yd vn (by simp only[Lim];omega)) w7 (by omega) (by omega) (by omega) fun o8 l8 H8 w8 s8=>?_
     have hb8:=s8.box w7.here.own hb7 hbw
     simp(disch:=first|omega|assumption) only[zi,zf,zb,zj,zg,za,zk,hb8,go_sem]
     refine zl (yn [58] _) w8 (by omega) (by omega) (by omega) fun o9 l9 H9 w9 s9=>?_
     have hb9:=s9.box w8.here.own hb8 hbw
     simp(disch:=first|omega|assumption) only[zi,zf,zb,zj,zg,za,zk,hb9,go_sem]
     refine zl (args:=[.agg [.str tn,.int .i64 tl,.int .i64 tm]]) (show WC _ [.agg [.str tn,.int .i64 tl,.int .i64 tm]] 20 (-1000) 1000 (fun _=>zT ⟨tn,tl,tm⟩) (tTy ⟨tn,tl,tm⟩) from zcl ⟨tn,tl,tm⟩ (by simp only[Lim];omega)) w9 (by omega) (by omega) (by omega) fun oC lC HC wC sC=>?_
     have hbC:=sC.box w9.here.own hb9 hbw
     simp(disch:=first|omega|assumption) only[zi,zf,zb,zj,zg,za,zk,hbC,go_sem]
     refine zl (Yw vh vd hwvd (by simp only[Lim];omega)) wC (by omega) (by omega) (by omega) fun oD lD HD wD sD=>?_
     simp(disch:=first|omega|assumption) only[wrap64,go_sem]
     exact goJ (hJ5 (oD,lD) HD (wD.cast (by rw[Y8];omega) (by simp[Zl,yM]) (by simp[tW]))) (by simp(disch:=first|omega|assumption) only[go_sem])
 ·simp(disch:=first|omega|assumption) only[ir71,eo,hk0,hk1,go_sem]
  refine zl (y1 false) w0 (by omega) (by omega) (by omega) fun o2 l2 H2 w2 _=>?_
  by_cases hnm:nm=[]
  case pos =>
   have w3:=(w2.castC (B':=2) (r':=R3) (tk':=T3) (by omega) (by rw[hR3];simp[hk0,hk1,hnm,nq,nmu]) (fun e=>by first|(rw[hT3];simp[hk0,hk1,hnm];done)|(exfalso;revert e;rw[hR3];simp[hk0,hk1])))
   by_cases hv0:vars.length=0
   case pos =>
    have hv1:¬ ((0:Int)<(vars.length:Int)):=by omega
    have hev:=za7.1 hv0
    simp(disch:=first|omega|assumption) only[hnm,hcw,hv1,go_sem]
    refine zl (yw true dirs hwd (by simp only[Lim];omega)) w3 (by omega) (by omega) (by omega) fun oA lA HA wA _=>?_
    simp(disch:=first|omega|assumption) only[go_sem]
    refine zl (yu (ZU (bSs sels)) sels (Al4 _) hws (by simp only[Lim];omega)) wA (by omega) (by omega) (by omega) fun oB lB HB wB _=>?_
    simp(disch:=first|omega|assumption) only[go_sem]
    exact hQ _ _ HB HB [] nofun rfl (Low.refl _) ⟨rfl,wB.fin (by show _=yp dp _;rw[er];simp[hev,yM]) (fun e=>by rw[et (by have e:yp dp _=true:=e;rw[er] at e;simp only[Al0] at e;exact e.1)];simp[tWs,hv0]) (by simp only[bO];omega)⟩
   case neg =>
    have hev:=hv0
    have hv1:((0:Int)<(vars.length:Int))=True:=eq_true (by omega)
    simp(disch:=first|omega|assumption) only[hnm,hcw,hv1,go_sem]
    refine zl (yn [40] _) w3 (by omega) (by omega) (by omega) fun o4 l4 H4 w4 _=>?_
    simp(disch:=first|omega|assumption) only[hcw,go_sem]
    refine zm vars 35 (fun x:Own×List Tok=>[]) (fun done rest x H'=>WR H o w l ok dp (3+32*bWs done) (R3&&done.all (Zl dp)) (T3++(pk [40]::done.flatMap tW)) H' x.1 x.2) (o4,l4) (by simp(disch:=first|omega|assumption) only[go_sem]) (w4.cast (by omega) (by simp) (by simp)) ?_ ?_
    case refine_1 =>
     rintro⟨o5,l5⟩ H5 J5 w5 hlt
     simp only at w5
     simp(disch:=first|omega|assumption) only[hcw,hlt,go_sem]
     refine zl (yn [41] _) w5 (by omega) (by omega) (by omega) fun o6 l6 H6 w6 _=>?_
     simp(disch:=first|omega|assumption) only[go_sem]
     refine zl (yw true dirs hwd (by simp only[Lim];omega)) w6 (by omega) (by omega) (by omega) fun oA lA HA wA _=>?_
     simp(disch:=first|omega|assumption) only[go_sem]
     refine zl (yu (ZU (bSs sels)) sels (Al4 _) hws (by simp only[Lim];omega)) wA (by omega) (by omega) (by omega) fun oB lB HB wB _=>?_
     simp(disch:=first|omega|assumption) only[go_sem]
     exact hQ _ _ HB HB [] nofun rfl (Low.refl _) ⟨rfl,wB.fin (by show _=yp dp _;rw[er];simp[hev,yM]) (fun e=>by rw[et (by have e:yp dp _=true:=e;rw[er] at e;simp only[Al0] at e;exact e.1)];simp[tWs,hv0]) (by simp only[bO];omega)⟩
    case refine_2 =>
     rintro done x rest ⟨o5,l5⟩ H5 J5 hd hlt hlt2 w5 hJ5
     simp only at w5
     have hg:=yX hd
     have hbm:=y7 done x rest
     rw[← hd] at hbm
     have hwx:=hwv x (by rw[hd];simp)
     obtain⟨vn,⟨tn,tl,tm⟩,vh,vd⟩:=x
     have hwvd:wfV vd:=hwx.2.2
     have hvp:=ZV vd
     have hbx:bW ⟨vn,⟨tn,tl,tm⟩,vh,vd⟩=vn.length+tn.length+bV vd:=rfl
     rw[Ye] at hg
     simp only at hg
     simp(disch:=first|omega|assumption) only[zi,zf,zb,zj,zg,za,zk,hcw,hlt,hg,go_sem]
     refine zv fun b hb=>?_
     have hbw:b≠w:=fun e=>by subst e;rw[w5.here.cell] at hb;cases hb
     have w6:=w5.alloc (x:=.cells (.str vn::.str tn::.int .i64 tl::.int .i64 tm::.bool vh::cV vd)) hb
     have hbc:(H5.upd b (.cells (.str vn::.str tn::.int .i64 tl::.int .i64 tm::.bool vh::cV vd))) b=some (.cells (.str vn::.str tn::.int .i64 tl::.int .i64 tm::.bool vh::cV vd)):=upd_same ..
     simp(disch:=first|omega|assumption) only[zi,zf,zb,zj,zg,za,zk,go_sem]
     refine zl (yn [36] _) w6 (by omega) (by omega) (by omega) fun o7 l7 H7 w7 s7=>?_
     have hb7:=s7.box w6.here.own hbc hbw
     simp(disch:=first|omega|assumption) only[zi,zf,zb,zj,zg,za,zk,hb7,go_sem]
     refine zl (yd vn (by simp only[Lim];omega)) w7 (by omega) (by omega) (by omega) fun o8 l8 H8 w8 s8=>?_
     have hb8:=s8.box w7.here.own hb7 hbw
     simp(disch:=first|omega|assumption) only[zi,zf,zb,zj,zg,za,zk,hb8,go_sem]
     refine zl (yn [58] _) w8 (by omega) (by omega) (by omega) fun o9 l9 H9 w9 s9=>?_
     have hb9:=s9.box w8.here.own hb8 hbw
     simp(disch:=first|omega|assumption) only[zi,zf,zb,zj,zg,za,zk,hb9,go_sem]
     refine zl (args:=[.agg [.str tn,.int .i64 tl,.int .i64 tm]]) (show WC _ [.agg [.str tn,.int .i64 tl,.int .i64 tm]] 20 (-1000) 1000 (fun _=>zT ⟨tn,tl,tm⟩) (tTy ⟨tn,tl,tm⟩) from zcl ⟨tn,tl,tm⟩ (by simp only[Lim];omega)) w9 (by omega) (by omega) (by omega) fun oC lC HC wC sC=>?_
     have hbC:=sC.box w9.here.own hb9 hbw
     simp(disch:=first|omega|assumption) only[zi,zf,zb,zj,zg,za,zk,hbC,go_sem]
     refine zl (Yw vh vd hwvd (by simp only[Lim];omega)) wC (by omega) (by omega) (by omega) fun oD lD HD wD sD=>?_
     simp(disch:=first|omega|assumption) only[wrap64,go_sem]
     exact goJ (hJ5 (oD,lD) HD (wD.cast (by rw[Y8];omega) (by simp[Zl,yM]) (by simp[tW]))) (by simp(disch:=first|omega|assumption) only[go_sem])
  case neg =>
   simp(disch:=first|omega|assumption) only[hnm,go_sem]
   refine zl (yd nm (by simp only[Lim];omega)) w2 (by omega) (by omega) (by omega) fun o3 l3 H3 w3' _=>?_
   have w3:=(w3'.castC (B':=2) (r':=R3) (tk':=T3) (by omega) (by rw[hR3];simp[hk0,hk1,hnm,nq,nmu]) (fun e=>by first|(rw[hT3];simp[hk0,hk1,hnm];done)|(exfalso;revert e;rw[hR3];simp[hk0,hk1])))
   by_cases hv0:vars.length=0
   case pos =>
    have hv1:¬ ((0:Int)<(vars.length:Int)):=by omega
    have hev:=za7.1 hv0
    simp(disch:=first|omega|assumption) only[hnm,hcw,hv1,go_sem]
    refine zl (yw true dirs hwd (by simp only[Lim];omega)) w3 (by omega) (by omega) (by omega) fun oA lA HA wA _=>?_
    simp(disch:=first|omega|assumption) only[go_sem]
    refine zl (yu (ZU (bSs sels)) sels (Al4 _) hws (by simp only[Lim];omega)) wA (by omega) (by omega) (by omega) fun oB lB HB wB _=>?_
    simp(disch:=first|omega|assumption) only[go_sem]
    exact hQ _ _ HB HB [] nofun rfl (Low.refl _) ⟨rfl,wB.fin (by show _=yp dp _;rw[er];simp[hev,yM]) (fun e=>by rw[et (by have e:yp dp _=true:=e;rw[er] at e;simp only[Al0] at e;exact e.1)];simp[tWs,hv0]) (by simp only[bO];omega)⟩
   case neg =>
    have hev:=hv0
    have hv1:((0:Int)<(vars.length:Int))=True:=eq_true (by omega)
    simp(disch:=first|omega|assumption) only[hnm,hcw,hv1,go_sem]
    refine zl (yn [40] _) w3 (by omega) (by omega) (by omega) fun o4 l4 H4 w4 _=>?_
    simp(disch:=first|omega|assumption) only[hcw,go_sem]
    refine zm vars 35 (fun x:Own×List Tok=>[]) (fun done rest x H'=>WR H o w l ok dp (3+32*bWs done) (R3&&done.all (Zl dp)) (T3++(pk [40]::done.flatMap tW)) H' x.1 x.2) (o4,l4) (by simp(disch:=first|omega|assumption) only[go_sem]) (w4.cast (by omega) (by simp) (by simp)) ?_ ?_
    case refine_1 =>
     rintro⟨o5,l5⟩ H5 J5 w5 hlt
     simp only at w5
     simp(disch:=first|omega|assumption) only[hcw,hlt,go_sem]
     refine zl (yn [41] _) w5 (by omega) (by omega) (by omega) fun o6 l6 H6 w6 _=>?_
     simp(disch:=first|omega|assumption) only[go_sem]
     refine zl (yw true dirs hwd (by simp only[Lim];omega)) w6 (by omega) (by omega) (by omega) fun oA lA HA wA _=>?_
     simp(disch:=first|omega|assumption) only[go_sem]
     refine zl (yu (ZU (bSs sels)) sels (Al4 _) hws (by simp only[Lim];omega)) wA (by omega) (by omega) (by omega) fun oB lB HB wB _=>?_
     simp(disch:=first|omega|assumption) only[go_sem]
     exact hQ _ _ HB HB [] nofun rfl (Low.refl _) ⟨rfl,wB.fin (by show _=yp dp _;rw[er];simp[hev,yM]) (fun e=>by rw[et (by have e:yp dp _=true:=e;rw[er] at e;simp only[Al0] at e;exact e.1)];simp[tWs,hv0]) (by simp only[bO];omega)⟩
    case refine_2 =>
     rintro done x rest ⟨o5,l5⟩ H5 J5 hd hlt hlt2 w5 hJ5
     simp only at w5
     have hg:=yX hd
     have hbm:=y7 done x rest
     rw[← hd] at hbm
     have hwx:=hwv x (by rw[hd];simp)
     obtain⟨vn,⟨tn,tl,tm⟩,vh,vd⟩:=x
     have hwvd:wfV vd:=hwx.2.2
     have hvp:=ZV vd
     have hbx:bW ⟨vn,⟨tn,tl,tm⟩,vh,vd⟩=vn.length+tn.length+bV vd:=rfl
     rw[Ye] at hg
     simp only at hg
     simp(disch:=first|omega|assumption) only[zi,zf,zb,zj,zg,za,zk,hcw,hlt,hg,go_sem]
     refine zv fun b hb=>?_
     have hbw:b≠w:=fun e=>by subst e;rw[w5.here.cell] at hb;cases hb
     have w6:=w5.alloc (x:=.cells (.str vn::.str tn::.int .i64 tl::.int .i64 tm::.bool vh::cV vd)) hb
     have hbc:(H5.upd b (.cells (.str vn::.str tn::.int .i64 tl::.int .i64 tm::.bool vh::cV vd))) b=some (.cells (.str vn::.str tn::.int .i64 tl::.int .i64 tm::.bool vh::cV vd)):=upd_same ..
     simp(disch:=first|omega|assumption) only[zi,zf,zb,zj,zg,za,zk,go_sem]
     refine zl (yn [36] _) w6 (by omega) (by omega) (by omega) fun o7 l7 H7 w7 s7=>?_
     have hb7:=s7.box w6.here.own hbc hbw
     simp(disch:=first|omega|assumption) only[zi,zf,zb,zj,zg,za,zk,hb7,go_sem]
     refine zl (yd vn (by simp only[Lim];omega)) w7 (by omega) (by omega) (by omega) fun o8 l8 H8 w8 s8=>?_
     have hb8:=s8.box w7.here.own hb7 hbw
     simp(disch:=first|omega|assumption) only[zi,zf,zb,zj,zg,za,zk,hb8,go_sem]
     refine zl (yn [58] _) w8 (by omega) (by omega) (by omega) fun o9 l9 H9 w9 s9=>?_
     have hb9:=s9.box w8.here.own hb8 hbw
     simp(disch:=first|omega|assumption) only[zi,zf,zb,zj,zg,za,zk,hb9,go_sem]
     refine zl (args:=[.agg [.str tn,.int .i64 tl,.int .i64 tm]]) (show WC _ [.agg [.str tn,.int .i64 tl,.int .i64 tm]] 20 (-1000) 1000 (fun _=>zT ⟨tn,tl,tm⟩) (tTy ⟨tn,tl,tm⟩) from zcl ⟨tn,tl,tm⟩ (by simp only[Lim];omega)) w9 (by omega) (by omega) (by omega) fun oC lC HC wC sC=>?_
     have hbC:=sC.box w9.here.own hb9 hbw
     simp(disch:=first|omega|assumption) only[zi,zf,zb,zj,zg,za,zk,hbC,go_sem]
     refine zl (Yw vh vd hwvd (by simp only[Lim];omega)) wC (by omega) (by omega) (by omega) fun oD lD HD wD sD=>?_
     simp(disch:=first|omega|assumption) only[wrap64,go_sem]
     exact goJ (hJ5 (oD,lD) HD (wD.cast (by rw[Y8];omega) (by simp[Zl,yM]) (by simp[tW]))) (by simp(disch:=first|omega|assumption) only[go_sem])
theorem ziM (x:OpD):yp 0 x=yi x:=rfl
theorem ziv (l:List OpD) (o:OpD):bOs (l++[o])=bOs l+bO o:=by simp[bOs]
theorem ziO (l:List FragD) (o:FragD):bFs (l++[o])=bFs l+bF o:=by simp[bFs]
noncomputable def yN (d:DocD):List Tok:=if z1 d then Y1 d else []
theorem zdz (d:DocD) (hw:YR d) (hb:64*Yh d+64≤Lim):zo Tryz.prog 27 [.agg (ZN d)] (.tup [.sl .no 2 (cKs (yN d)),.bool (z1 d)]):=by
 refine zo.go ir27 ck27 (Al4 _) fun KP Q hQ=>?_
 obtain⟨ops,frags⟩:=d
 obtain⟨hwo,hwf⟩:=hw
 have hlo:=zbx ops
 have hlf:=zbs frags
 have hco:=YT ops
 have hcf:=YP frags
 have hb':=hb
 simp only[Yh,Lim] at hb'
 have ed:ZN ⟨ops,frags⟩=[.sl .no 5 (cOs ops),.sl .no 4 (cFs frags)]:=rfl
 obtain⟨n,hn⟩:∃ n,n=decide (0<ops.length+frags.length):=⟨_,rfl⟩
 simp(disch:=first|omega|assumption) only[ir27,ed,go_sem]
 refine zfj znW fun v H1 ⟨w,hv,hW⟩=>?_
 subst hv
 have w0:=WR.refl hW
 have wl:IntKind.wrap .i64 ((ops.length:Int)+(frags.length:Int))=((ops.length+frags.length:Nat):Int):=by rw[wrap64 (by omega) (by omega)];omega
 by_cases hn0:0<ops.length+frags.length
 case' pos =>
  have hn1:((0:Int)<((ops.length+frags.length:Nat):Int))=True:=eq_true (by omega)
  have hnv:n=true:=by rw[hn];exact decide_eq_true hn0
  simp(disch:=first|omega|assumption) only[hco,hcf,wl,hn1,go_sem]
 case' neg =>
  have hn1:¬ ((0:Int)<((ops.length+frags.length:Nat):Int)):=by omega
  have hnv:n=false:=by rw[hn];exact decide_eq_false hn0
  simp(disch:=first|omega|assumption) only[hco,hcf,wl,hn1,go_sem]
 all_goals
  refine zl (y1 _) w0 (by omega) (by omega) (by simp only[Lim,Al3];omega) fun o2 l2 H2 w2 _=>?_
  simp(disch:=first|omega|assumption) only[hco,go_sem]
  refine zm ops 23 (fun x:Own×List Tok=>[]) (fun done rest x H'=>WR H1 .nil w [] true 0 (64*bOs done) (n&&done.all yi) (done.flatMap tO) H' x.1 x.2) (o2,l2) (by simp(disch:=first|omega|assumption) only[go_sem]) (w2.cast (by simp) (by simp[hnv]) (by simp)) ?_ ?_
  ·rintro⟨o3,l3⟩ H3 J3 w3 hlt
   simp only at w3
   simp(disch:=first|omega|assumption) only[hco,hlt,hcf,go_sem]
   refine zm frags 34 (fun x:Own×List Tok=>[]) (fun done rest x H'=>WR H1 .nil w [] true 0 (64*bOs ops+32*bFs done) (n&&(ops.all yi&&done.all Zi)) (ops.flatMap tO++done.flatMap tF) H' x.1 x.2) (o3,l3) (by simp(disch:=first|omega|assumption) only[go_sem]) (w3.cast (by simp[bFs]) (by simp) (by simp)) ?_ ?_
   ·rintro⟨o4,l4⟩ H4 J4 w4 hlt4
    simp only at w4
    have er:z1 ⟨ops,frags⟩=(n&&(ops.all yi&&frags.all Zi)):=by rw[hn];rfl
    have hc4:=w4.here.cell
    have e4:=w4.eq
    rw[← er,Bool.true_and] at hc4 e4
    cases hr:z1 ⟨ops,frags⟩ with
    | false =>
     rw[hr] at hc4 hQ
     simp(disch:=first|omega|assumption) only[hcf,hlt4,hc4,go_sem]
     exact hQ _ _ _ _ nofun rfl (by simp[ze,zd,AV.strip,AV.strip1,yN,hr,cKs])
    | true =>
     rw[hr] at hc4 hQ
     have e5:=e4 hr
     rw[zi9] at e5
     subst e5
     simp(disch:=first|omega|assumption) only[hcf,hlt4,hc4,go_sem]
     exact hQ _ _ _ _ nofun rfl (by simp[ze,zd,AV.strip,AV.strip1,yN,hr,Y1])
   ·rintro done x rest ⟨o4,l4⟩ H4 J4 hd hlt4 hlt5 w4 hJ4
    simp only at w4
    have hg:=zar hd
    have hbm:=zbp done x rest
    rw[← hd] at hbm
    have hwx:=hwf x (by rw[hd];simp)
    have hbx:32*bF x≤Lim:=by simp only[Lim];omega
    have hfw:=zmg x hwx hbx
    obtain⟨nm,on,dirs,sels⟩:=x
    have ef:cF ⟨nm,on,dirs,sels⟩=[.str nm,.str on,.sl .no 2 (cDs dirs),.sl .no 7 (cSs sels)]:=rfl
    rw[ef] at hg hfw
    simp(disch:=first|omega|assumption) only[hcf,hlt4,hg,go_sem]
    refine zv fun b hb=>?_
    have w5:=w4.alloc (x:=.cells [.str nm,.str on,.sl .no 2 (cDs dirs),.sl .no 7 (cSs sels)]) hb
    simp(disch:=first|omega|assumption) only[go_sem]
    refine zl hfw w5 (by omega) (by omega) (by simp only[Lim,Al3];omega) fun o6 l6 H6 w6 _=>?_
    simp(disch:=first|omega|assumption) only[wrap64,go_sem]
    exact goJ (hJ4 (o6,l6) H6 (w6.cast (by rw[ziO];omega) (by simp[Zi,yM]) (by simp))) (by simp(disch:=first|omega|assumption) only[go_sem])
  ·rintro done x rest ⟨o4,l4⟩ H4 J4 hd hlt4 hlt5 w4 hJ4
   simp only at w4
   have hg:=zaF hd
   have hbm:=zbn done x rest
   rw[← hd] at hbm
   have hwx:=hwo x (by rw[hd];simp)
   have hbx:64*bO x≤Lim:=by simp only[Lim];omega
   have hfw:=znS x hwx hbx
   have hrO:=ziM x
   obtain⟨k,nm,vars,dirs,sels⟩:=x
   have ef:cO ⟨k,nm,vars,dirs,sels⟩=[.int .i64 k,.str nm,.sl .no 10 (cWs vars),.sl .no 2 (cDs dirs),.sl .no 7 (cSs sels)]:=rfl
   rw[ef] at hg hfw
   simp(disch:=first|omega|assumption) only[hco,hlt4,hg,go_sem]
   refine zv fun b hb=>?_
   have w5:=w4.alloc (x:=.cells [.int .i64 k,.str nm,.sl .no 10 (cWs vars),.sl .no 2 (cDs dirs),.sl .no 7 (cSs sels)]) hb
   simp(disch:=first|omega|assumption) only[go_sem]
   refine zl hfw w5 (by omega) (by omega) (by simp only[Lim,Al3];omega) fun o6 l6 H6 w6 _=>?_
   simp(disch:=first|omega|assumption) only[wrap64,go_sem]
   exact goJ (hJ4 (o6,l6) H6 (w6.cast (by rw[ziv];omega) (by rw[hrO];simp[yM]) (by simp))) (by simp(disch:=first|omega|assumption) only[go_sem])
theorem zfa (d:DocD) (hw:YR d) (hb:64*Yh d+64≤Lim):zo Tryz.prog 30 [.agg (ZN d)] (.bool (z1 d)):=by
 refine zo.go ir30 ck30 (Al4 _) fun KP Q hQ=>?_
 have ed:ZN d=[.sl .no 5 (cOs d.ops),.sl .no 4 (cFs d.frags)]:=rfl
 have hT:=zdz d hw hb
 rw[ed] at hT ⊢
 simp(disch:=first|omega|assumption) only[ir30,go_sem]
 refine zc hT ?_
 simp(disch:=first|omega|assumption) only[go_sem]
 exact hQ _ _ _ _ nofun rfl (by simp[ze,zd,AV.strip,AV.strip1])
noncomputable def Zt (d:DocD):List UInt8×Bool:=if z1 d&&((yF (Y1 d)).2&&decide ((yF (Y1 d)).1.length≤8192)) then ((yF (Y1 d)).1,true) else ([],false)
theorem Zn (a b:List Tok):wT (a++b)=wT a+wT b:=by simp[wT]
theorem zbE (s:List UInt8):wK (pk s)=s.length+4:=rfl
theorem zdo (s:List UInt8):wK (wk s)=s.length+4:=rfl
theorem zbT:wT []=0:=rfl
mutual
theorem zki:∀ v,wfV v→wT (yD v)+16≤64*bV v
 | .mk k n s l m,⟨hn,hl,hm⟩=>by
  have h1:=zkl l hl
  have h2:=zg8 m hm
  have h3:(Lib.itoa n).length≤21:=by
   have e:∀ u:Nat,u<18446744073709551616→(Lib.decDigits u).length≤20:=fun u hu=>by
    rw[Lib.decDigits_length];exact Lib.nDigits_le20 u hu
   unfold Lib.itoa;split
   ·have:=e n.natAbs (by have:=hn.1;omega)
    simp;omega
   ·have:=e n.toNat (by have:=hn.2;omega)
    omega
  have h4:(boolT (decide (n=1))).length≤5:=by unfold boolT;split<;>simp
  simp only[yD,bV]
  repeat' split
  all_goals simp only[yU,Zn,zbT,wK,Al2,Al3]
  all_goals omega
theorem zkl:∀ l,zgG l→wT (Yf l)≤64*bVs l
 | [],_=>by simp[Yf,wT]
 | v::r,⟨h,hr⟩=>by
  have h1:=zki v h
  have h2:=zkl r hr
  simp only[Yf,bVs,Zn];omega
theorem znK:∀ x,wfM x→wT (zcA x)≤64*bM x
 | .mk s v,h=>by
  have h1:=zki v h
  simp only[zcA,bM,yU,wK,Al2,Al3];omega
theorem zg8:∀ l,zco l→wT (yQ l)≤64*bMs l
 | [],_=>by simp[yQ,wT]
 | v::r,⟨h,hr⟩=>by
  have h1:=znK v h
  have h2:=zg8 r hr
  simp only[yQ,bMs,Zn];omega
end
theorem zgt (l:List Mem) (h:zco l):wT (YI l)≤74*bMs l:=by
 have h1:=zg8 l h
 have h2:=yI l
 unfold YI
 split
 ·simp[wT]
 ·simp only[yU,Zn,zbT,zbE,Al2,Al3];omega
theorem zbb {α:Type} {f:α→List Tok} {g:α→Nat} {c:Nat}:∀ l:List α,(∀ x∈l,wT (f x)≤c*g x)→wT (l.flatMap f)≤c*(l.map g).sum
 | [],_=>by simp[wT]
 | x::r,h=>by
  have h1:=h x (by simp)
  have h2:=zbb r fun y hy=>h y (by simp[hy])
  simp only[List.flatMap_cons,Zn,List.map_cons,List.sum_cons,Nat.mul_add];omega
theorem znz (d:DirD) (h:wfD d):wT (tD d)≤80*bD d:=by
 have h1:=zgt d.args h
 simp only[tD,bD,yU,zbE,zdo,Al2,Al3];omega
theorem zg7 (l:List DirD) (h:zf2 l):wT (tDs l)≤80*bDs l:=zbb l fun x hx=>znz x (h x hx)
mutual
theorem zm4:∀ x,wfS x→wT (tS x)≤80*bS x
 | .mk k al nm args dirs on sels,⟨h1,h2,h3⟩=>by
  have g1:=zgt args h1
  have g2:=zg7 dirs h2
  have g3:=zgF sels h3
  simp only[tS,bS,Zn]
  have g4:wT (if sels.length=0 then [] else pk [123]::(tSl sels++[pk [125]]))≤10+wT (tSl sels):=by
   split
   ·simp[wT]
   ·simp only[yU,Zn,zbT,zbE,Al2,Al3];omega
  have g5:wT (if k=0 then (if al=[] then [] else [wk al,pk [58]])++(wk nm::YI args) else if k=1 then [pk [46,46,46],wk nm] else pk [46,46,46]::(if on=[] then [] else [wk [111,110],wk on]))≤24+al.length+nm.length+on.length+wT (YI args):=by
   repeat' split
   all_goals simp only[yU,Zn,zbT,zbE,zdo,Al2,Al3]
   all_goals omega
  omega
theorem zgF:∀ l,zb7 l→wT (tSl l)≤80*bSs l
 | [],_=>by simp[tSl,wT]
 | x::r,⟨h,hr⟩=>by
  have h1:=zm4 x h
  have h2:=zgF r hr
  simp only[tSl,bSs,Zn];omega
end
theorem zh1 (n:Nat) (m:Int):∀ j,wT (ZO n m j)≤10*j
 | 0=>by simp[ZO,wT]
 | j+1=>by
  have h:=zh1 n m j
  have h2:wT (zgW n m j)≤10:=by
   unfold zgW
   repeat' split
   all_goals simp[wT,zbE]
  simp only[ZO,Zn];omega
theorem zmZ (t:TyD) (h:zT t=true):wT (tTy t)≤80+t.nm.length:=by
 simp only[zT,Al0,yv] at h
 obtain⟨_,h1,h2,_,_⟩:=h
 have h3:=zh1 t.lists.toNat t.musts (t.lists.toNat+1)
 have h4:∀ n,wT (List.replicate n (pk [91]))=5*n:=fun n=>by
  induction n with
  | zero=>rfl
  | succ n ih=>rw[List.replicate_succ,yU,ih,zbE];simp;omega
 simp only[tTy,Zn,yU,zdo,h4,zbo]
 omega
theorem znL (x:VarD) (hr:yk x=true) (hw:wfW x):wT (tW x)≤240*bW x:=by
 simp only[yk,Al0] at hr
 have h1:=zmZ x.t hr.2.1
 have h2:=zki x.d hw.2.2
 have h3:=ZV x.d
 have h4:wT (tDf x.has x.d)≤5+wT (yD x.d):=by
  unfold tDf
  split
  ·simp only[yU,zbE,Al2,Al3];omega
  ·simp[wT]
 simp only[tW,bW,yU,Zn,zbE,zdo,Al2,Al3]
 omega
theorem zjF (l:List SelD) (h:zb7 l):wT (tBl l)≤80*bSs l+10:=by
 have:=zgF l h
 simp only[tBl,yU,Zn,zbT,zbE,Al2,Al3];omega
theorem zna (x:OpD) (hr:yi x=true) (hw:wfO x):wT (tO x)≤256*bO x:=by
 obtain⟨h1,h2,h3⟩:=hw
 simp only[yi,Al0] at hr
 have g1:wT (x.vars.flatMap tW)≤240*bWs x.vars:=zbb _ fun y hy=>znL y (zaj.1 hr.2.2.1 y hy) (h1 y hy)
 have g2:=zg7 x.dirs h2
 have g3:=zjF x.sels h3
 have g4:wT (tWs x.vars)≤240*bWs x.vars+10:=by
  unfold tWs
  split
  ·simp[wT]
  ·simp only[yU,Zn,zbT,zbE,Al2,Al3];omega
 have g5:wT (if x.nm=[] then [] else [wk x.nm])≤x.nm.length+4:=by
  split
  ·simp[wT]
  ·simp only[yU,zbT,zdo];omega
 have g6:wK (wk (if x.k=0 then [113,117,101,114,121] else [109,117,116,97,116,105,111,110]))≤12:=by rw[zdo];split<;>simp
 simp only[tO,bO,yU,Zn]
 omega
theorem zns (x:FragD) (hw:wfF x):wT (tF x)≤256*bF x:=by
 have g2:=zg7 x.dirs hw.1
 have g3:=zjF x.sels hw.2
 simp only[tF,bF,yU,Zn,zdo,Al2,Al3]
 omega
theorem zhY (d:DocD) (hr:z1 d=true) (hw:YR d):wT (Y1 d)≤256*Yh d:=by
 simp only[z1,Al0] at hr
 have g1:wT (d.ops.flatMap tO)≤256*bOs d.ops:=zbb _ fun y hy=>zna y (zaj.1 hr.2.1 y hy) (hw.1 y hy)
 have g2:wT (d.frags.flatMap tF)≤256*bFs d.frags:=zbb _ fun y hy=>zns y (hw.2 y hy)
 simp only[Y1,Yh,Zn]
 omega
theorem zfR (d:DocD) (hw:YR d):wT (yN d)≤256*Yh d:=by
 unfold yN
 split
 ·rename_i h;exact zhY d h hw
 ·simp[wT]
theorem zkd (d:DocD) (hw:YR d) (hb:16384*Yh d+64≤Lim):zo Tryz.prog 32 [.agg (ZN d)] (.tup [.str (Zt d).1,.bool (Zt d).2]):=by
 refine zo.go ir32 ck32 (Al4 _) fun KP Q hQ=>?_
 have ed:ZN d=[.sl .no 5 (cOs d.ops),.sl .no 4 (cFs d.frags)]:=rfl
 have hT:=zdz d hw (by simp only[Lim] at hb ⊢;omega)
 have hwt:=zfR d hw
 have hp:=zkA (yN d) (by simp only[Lim] at hb ⊢;omega)
 rw[ed] at hT ⊢
 simp(disch:=first|omega|assumption) only[ir32,go_sem]
 refine zc hT ?_
 simp(disch:=first|omega|assumption) only[go_sem]
 refine zc hp ?_
 cases hr:z1 d with
 | false =>
  simp(disch:=first|omega|assumption) only[go_sem]
  exact hQ _ _ _ _ nofun rfl (by simp[ze,zd,AV.strip,AV.strip1,Zt,hr])
 | true =>
  have e:yN d=Y1 d:=by unfold yN;rw[if_pos hr]
  rw[e]
  cases h2:(yF (Y1 d)).2 with
  | false =>
   simp(disch:=first|omega|assumption) only[go_sem]
   exact hQ _ _ _ _ nofun rfl (by simp[ze,zd,AV.strip,AV.strip1,Zt,hr,h2])
  | true =>
   by_cases hl:(yF (Y1 d)).1.length≤8192
   ·have hl':¬ ((8192:Int)<((yF (Y1 d)).1.length:Int)):=by omega
    simp(disch:=first|omega|assumption) only[hl',go_sem]
    exact hQ _ _ _ _ nofun rfl (by simp[ze,zd,AV.strip,AV.strip1,Zt,hr,h2,hl])
   ·have hl':((8192:Int)<((yF (Y1 d)).1.length:Int))=True:=eq_true (by omega)
    simp(disch:=first|omega|assumption) only[hl',go_sem]
    exact hQ _ _ _ _ nofun rfl (by simp[ze,zd,AV.strip,AV.strip1,Zt,hr,h2,hl])
end Go.Proofs.YticbbfbpeimkbaaGreatDoor
