import Derived.Test.YtaielcdfcgpbiaaGreatDoorM1
import Derived.Test.YtaielcdfcgpbiaaGreatDoorM2
import Derived.Test.YtaielcdfcgpbiaaGreatDoorM3
import Derived.Test.YtaielcdfcgpbiaaGreatDoorM4
import Derived.Test.YtaielcdfcgpbiaaGreatDoorM5
import Derived.Test.YtaielcdfcgpbiaaGreatDoorM6
import Derived.Test.YtaielcdfcgpbiaaGreatDoorM7
import Derived.Test.YtaielcdfcgpbiaaGreatDoorM8
set_option maxRecDepth 100000
set_option linter.all false
namespace Go.Proofs.YtaielcdfcgpbiaaGreatDoor
open Go.Ab
def ZS (f:FuncId) (args:List AV) (B W:Nat) (r:Bool) (tk:List Tok):Prop :=
 ∀(H:Heap) (w:Nat) (o:Own) (l:List Tok) (ok:Bool),WAt H w o l ok 0→l.length+B≤Lim →
  ACalls Tryz.prog f (.agg [.ptr w 0]::args) H (zdW fun v H'=>v=.tup []∧∃ o' l',WAt H' w o' l' (ok&&r) 0∧WStep H o w H' o'∧l'.length≤l.length+B∧((ok&&r)=true→l'=l++tk)∧wT l'≤wT l+W)
section
variable {KP:AV→Heap→Prop} {Q:AExit→Env→Heap→Prop} {st:List Fr} {ρ:Env} {H:Heap} {all items:List AItem} {d:Option Nat} {R:List Chk}
theorem yn {f:FuncId} {args:List AV} {B' W':Nat} {r':Bool} {tk':List Tok} (hc:ZS f args B' W' r' tk') {H0:Heap} {o0 o:Own} {w B W:Nat} {l0 l tk:List Tok} {ok0 r:Bool} (h:YR H0 o0 w l0 ok0 0 B W r tk H o l)
  (hb:l0.length+(B+B')≤Lim) (k:∀ o' l' H',YR H0 o0 w l0 ok0 0 (B+B') (W+W') (r&&r') (tk++tk') H' o' l'→WStep H o w H' o'→goR Tryz.prog KP Q all items st R (ρ.set d (.tup [])) H') :
  goK Tryz.prog KP Q all items st d R ρ f (.agg [.ptr w 0]::args) H:=by
 have hlen:=h.len
 have hwt:=h.wt
 refine goK_ret (hc H w o l _ h.here (by omega)) fun v H' ⟨hv,o',l',h2,h3,h4,h5,h6⟩=>?_
 subst hv
 refine k o' l' H' ⟨by rw[← zY];exact h2,h.st.trans h.here.cell h3,by omega,fun e=>?_,by omega⟩ h3
 rw[← zY] at e
 rw[h5 e,h.eq (by simp only[Al0] at e ⊢;exact e.1),zay]
end
theorem zac (m:List VarD) (hw:∀ y∈m,wfW y) (hm:32*bWs m≤Lim):ZS 168 [.sl .no 10 (cWs m)] (32*bWs m) (512*bWs m) (m.all zM) (m.flatMap tPa):=by
 intro H w o l ok h hb
 have hml:=yD m
 have hcl:=yl m
 have hm':=hm
 simp only[Lim] at hm'
 refine ACalls.go ir168 ck168 (Al4 _) fun KP Q hQ=>?_
 have w0:=YR.refl h
 simp(disch:=omega) only[ir168,hcl,go_sem]
 refine goL_range m 8 (fun x:Own×List Tok=>[]) (fun done rest x H'=>YR H o w l ok 0 (32*bWs done) (512*bWs done) (done.all zM) (done.flatMap tPa) H' x.1 x.2) (o,l) (by simp(disch:=omega) only[go_sem]) (w0.cast (by omega) (by omega) rfl rfl) ?_ ?_
 ·rintro⟨o3,l3⟩ H3 J w3 hlt
  simp only at w3
  simp(disch:=omega) only[hcl,hlt,go_sem]
  exact hQ _ _ H3 H3 [] nofun rfl (Low.refl _) ⟨rfl,w3.fin rfl (fun _=>rfl) (by omega) (by omega)⟩
 ·rintro done x rest ⟨o5,l5⟩ H5 J5 hd hlt hlt2 w5 hJ5
  simp only at w5
  have hg:=Yk hd
  have hbm:=Yv done x rest
  rw[← hd] at hbm
  have hwx:=hw x (by rw[hd];simp)
  obtain⟨vn,⟨tn,tl,tm⟩,vh,vd⟩:=x
  have hwvd:wfV vd:=hwx.2.2
  have hvp:=ZD vd
  have hbx:bW ⟨vn,⟨tn,tl,tm⟩,vh,vd⟩=vn.length+tn.length+bV vd:=rfl
  rw[zaJ] at hg
  simp only at hg
  simp(disch:=omega) only[zf,zc,za,ze,zd,zb,zi,hcl,hlt,hg,go_sem]
  refine goA_intro fun b hb=>?_
  have hbw:b≠w:=fun e=>by subst e;rw[w5.here.cell] at hb;cases hb
  have w6:=w5.alloc (x:=.cells (.str vn::.str tn::.int .i64 tl::.int .i64 tm::.bool vh::cV vd)) hb
  have hbc:(H5.upd b (.cells (.str vn::.str tn::.int .i64 tl::.int .i64 tm::.bool vh::cV vd))) b=some (.cells (.str vn::.str tn::.int .i64 tl::.int .i64 tm::.bool vh::cV vd)):=upd_same ..
  simp(disch:=omega) only[zf,zc,za,ze,zd,zb,zi,go_sem]
  refine zg (zz vn (by simp only[Lim];omega)) w6 (by omega) (by omega) (by omega) fun o8 l8 H8 w8 s8=>?_
  have hb8:=s8.box w6.here.own hbc hbw
  simp(disch:=omega) only[zf,zc,za,ze,zd,zb,zi,hb8,go_sem]
  refine zg (zE [58] _) w8 (by omega) (by omega) (by omega) fun o9 l9 H9 w9 s9=>?_
  have hb9:=s9.box w8.here.own hb8 hbw
  simp(disch:=omega) only[zf,zc,za,ze,zd,zb,zi,hb9,go_sem]
  refine zg (args:=[.agg [.str tn,.int .i64 tl,.int .i64 tm]]) (show YC _ [.agg [.str tn,.int .i64 tl,.int .i64 tm]] 20 (200+tn.length) (-1000) 1000 (fun _=>zt ⟨tn,tl,tm⟩) (tTy ⟨tn,tl,tm⟩) from zdn ⟨tn,tl,tm⟩ (by simp only[Lim];omega)) w9 (by omega) (by omega) (by omega) fun oC lC HC wC sC=>?_
  have hbC:=sC.box w9.here.own hb9 hbw
  simp(disch:=omega) only[zf,zc,za,ze,zd,zb,zi,hbC,go_sem]
  refine zg (zdR vh vd hwvd (by simp only[Lim];omega)) wC (by omega) (by omega) (by omega) fun oD lD HD wD sD=>?_
  have er:zM ⟨vn,⟨tn,tl,tm⟩,vh,vd⟩=zcU 0 ⟨vn,⟨tn,tl,tm⟩,vh,vd⟩:=rfl
  simp(disch:=omega) only[wrap64,go_sem]
  exact goJ (hJ5 (oD,lD) HD (wD.cast (by rw[zbT];omega) (by rw[zbT];(try simp only[Al2,Al3]);omega) (by simp[er,zcU,zY]) (by simp[tPa]))) (by simp(disch:=omega) only[go_sem])
theorem YK (m:List UInt8) (a:List (List UInt8)) (hml:m.length=1) (hm:2*bT a≤Lim):ZS 208 [.str m,.sl .no 1 (cT a)] (2*bT a) (16*bT a) (a.all zj) (tNs m a):=by
 intro H w o l ok h hb
 have hbl:=yp a
 have hcl:=zA a
 have hm':=hm
 simp only[Lim] at hm'
 refine ACalls.go ir208 ck208 (Al4 _) fun KP Q hQ=>?_
 have w0:=YR.refl h
 simp(disch:=omega) only[ir208,hcl,go_sem]
 refine goL_range a 10 (fun x:Own×List Tok=>[]) (fun done rest x H'=>YR H o w l ok 0 (2*bT done) (16*bT done) (done.all zj) (tNs m done) H' x.1 x.2) (o,l) (by simp(disch:=omega) only[go_sem]) (w0.cast (by omega) (by omega) rfl rfl) ?_ ?_
 ·rintro⟨o3,l3⟩ H3 J w3 hlt
  simp only at w3
  simp(disch:=omega) only[hcl,hlt,go_sem]
  exact hQ _ _ H3 H3 [] nofun rfl (Low.refl _) ⟨rfl,w3.fin rfl (fun _=>rfl) (by omega) (by omega)⟩
 ·rintro done x rest ⟨o5,l5⟩ H5 J5 hd hlt hlt2 w5 hJ5
  simp only at w5
  have hg:=Zt hd
  have hbm:=Yy done x rest
  rw[← hd] at hbm
  have hsn:=zbP m done x
  by_cases h0:done.length=0
  ·have h0':¬ ((0:Int)<(done.length:Int)):=by omega
   rw[if_pos h0] at hsn
   simp(disch:=omega) only[hcl,hlt,hg,h0',go_sem]
   refine zg (zz x (by simp only[Lim];omega)) w5 (by omega) (by omega) (by omega) fun o8 l8 H8 w8 s8=>?_
   simp(disch:=omega) only[wrap64,go_sem]
   exact goJ (hJ5 (o8,l8) H8 (w8.cast (by rw[zC];omega) (by rw[zC];omega) (by simp) (by rw[hsn]))) (by simp(disch:=omega) only[go_sem])
  ·have h0':((0:Int)<(done.length:Int))=True:=eq_true (by omega)
   rw[if_neg h0] at hsn
   simp(disch:=omega) only[hcl,hlt,hg,h0',go_sem]
   refine zg (zE m _) w5 (by omega) (by omega) (by omega) fun o6 l6 H6 w6 s6=>?_
   simp(disch:=omega) only[hcl,hlt,hg,go_sem]
   refine zg (zz x (by simp only[Lim];omega)) w6 (by omega) (by omega) (by omega) fun o8 l8 H8 w8 s8=>?_
   simp(disch:=omega) only[wrap64,go_sem]
   exact goJ (hJ5 (o8,l8) H8 (w8.cast (by rw[zC];omega) (by rw[zC];omega) (by simp) (by rw[hsn];simp))) (by simp(disch:=omega) only[go_sem])
theorem Z3 (m:List FldD) (hw:∀ y∈m,wfL y) (hm:32*bLs m≤Lim):ZS 209 [.sl .no 6 (cLs m)] (32*bLs m) (512*bLs m) (m.all zR) (m.flatMap tL):=by
 intro H w o l ok h hb
 have hml:=yN m
 have hcl:=yB m
 have hm':=hm
 simp only[Lim] at hm'
 refine ACalls.go ir209 ck209 (Al4 _) fun KP Q hQ=>?_
 have w0:=YR.refl h
 simp(disch:=omega) only[ir209,hcl,go_sem]
 refine goL_range m 8 (fun x:Own×List Tok=>[]) (fun done rest x H'=>YR H o w l ok 0 (32*bLs done) (512*bLs done) (done.all zR) (done.flatMap tL) H' x.1 x.2) (o,l) (by simp(disch:=omega) only[go_sem]) (w0.cast (by omega) (by omega) rfl rfl) ?_ ?_
 ·rintro⟨o3,l3⟩ H3 J w3 hlt
  simp only at w3
  simp(disch:=omega) only[hcl,hlt,go_sem]
  exact hQ _ _ H3 H3 [] nofun rfl (Low.refl _) ⟨rfl,w3.fin rfl (fun _=>rfl) (by omega) (by omega)⟩
 ·rintro done x rest ⟨o5,l5⟩ H5 J5 hd hlt hlt2 w5 hJ5
  simp only at w5
  have hg:=Zw hd
  have hbm:=Zu done x rest
  rw[← hd] at hbm
  have hwx:=hw x (by rw[hd];simp)
  obtain⟨fn,ps,⟨tn,tl,tm⟩,dirs⟩:=x
  simp only[wfL] at hwx
  have hbx:bL ⟨fn,ps,⟨tn,tl,tm⟩,dirs⟩=1+fn.length+bWs ps+tn.length+bDs dirs:=rfl
  have hpl:=yl ps
  have hpb:=yD ps
  rw[YW] at hg
  simp(disch:=omega) only[hcl,hlt,hg,go_sem]
  refine goA_intro fun b hb=>?_
  have hbw:b≠w:=fun e=>by subst e;rw[w5.here.cell] at hb;cases hb
  obtain⟨cs,hcs⟩:∃ cs,cs=[AV.str fn,.sl .no 10 (cWs ps),.str tn,.int .i64 tl,.int .i64 tm,.sl .no 2 (cDs dirs)]:=⟨_,rfl⟩
  have w6:=w5.alloc (x:=.cells cs) hb
  have hbc:(H5.upd b (.cells cs)) b=some (.cells cs):=upd_same ..
  subst hcs
  simp(disch:=omega) only[go_sem]
  refine zg (zz fn (by simp only[Lim];omega)) w6 (by omega) (by omega) (by omega) fun o8 l8 H8 w8 s8=>?_
  have hb8:=s8.box w6.here.own hbc hbw
  by_cases hp0:ps.length=0
  ·have hp0':¬ ((0:Int)<(ps.length:Int)):=by omega
   have hps:=y5.1 hp0
   simp(disch:=omega) only[hb8,hpl,hp0',go_sem]
   refine zg (zE [58] _) w8 (by omega) (by omega) (by omega) fun oB lB HB wB sB=>?_
   have hbB:=sB.box w8.here.own hb8 hbw
   simp(disch:=omega) only[hbB,go_sem]
   refine zg (args:=[.agg [.str tn,.int .i64 tl,.int .i64 tm]]) (show YC _ [.agg [.str tn,.int .i64 tl,.int .i64 tm]] 20 (200+tn.length) (-1000) 1000 (fun _=>zt ⟨tn,tl,tm⟩) (tTy ⟨tn,tl,tm⟩) from zdn ⟨tn,tl,tm⟩ (by simp only[Lim];omega)) wB (by omega) (by omega) (by omega) fun oC lC HC wC sC=>?_
   have hbC:=sC.box wB.here.own hbB hbw
   simp(disch:=omega) only[hbC,go_sem]
   refine zg (zeX true dirs hwx.2.2.2 (by simp only[Lim];omega)) wC (by omega) (by omega) (by omega) fun oD lD HD wD sD=>?_
   simp(disch:=omega) only[wrap64,go_sem]
   exact goJ (hJ5 (oD,lD) HD (wD.cast (by rw[Yu];omega) (by rw[Yu];(try simp only[Al2,Al3]);omega) (by simp[zR,hps,zY]) (by simp[tL,tPb,hps]))) (by simp(disch:=omega) only[go_sem])
  ·have hp0':((0:Int)<(ps.length:Int))=True:=eq_true (by omega)
   have hps:=hp0
   simp(disch:=omega) only[hb8,hpl,hp0',go_sem]
   refine zg (zE [40] _) w8 (by omega) (by omega) (by omega) fun o9 l9 H9 w9 s9=>?_
   have hb9:=s9.box w8.here.own hb8 hbw
   simp(disch:=omega) only[hb9,go_sem]
   refine yn (zac ps hwx.1 (by simp only[Lim];omega)) w9 (by omega) fun oE lE HE wE sE=>?_
   have hbE:=sE.box w9.here.own hb9 hbw
   simp(disch:=omega) only[hbE,go_sem]
   refine zg (zE [41] _) wE (by omega) (by omega) (by omega) fun oF lF HF wF sF=>?_
   have hbF:=sF.box wE.here.own hbE hbw
   simp(disch:=omega) only[hbF,go_sem]
   refine zg (zE [58] _) wF (by omega) (by omega) (by omega) fun oB lB HB wB sB=>?_
   have hbB:=sB.box wF.here.own hbF hbw
   simp(disch:=omega) only[hbB,go_sem]
   refine zg (args:=[.agg [.str tn,.int .i64 tl,.int .i64 tm]]) (show YC _ [.agg [.str tn,.int .i64 tl,.int .i64 tm]] 20 (200+tn.length) (-1000) 1000 (fun _=>zt ⟨tn,tl,tm⟩) (tTy ⟨tn,tl,tm⟩) from zdn ⟨tn,tl,tm⟩ (by simp only[Lim];omega)) wB (by omega) (by omega) (by omega) fun oC lC HC wC sC=>?_
   have hbC:=sC.box wB.here.own hbB hbw
   simp(disch:=omega) only[hbC,go_sem]
   refine zg (zeX true dirs hwx.2.2.2 (by simp only[Lim];omega)) wC (by omega) (by omega) (by omega) fun oD lD HD wD sD=>?_
   simp(disch:=omega) only[wrap64,go_sem]
   exact goJ (hJ5 (oD,lD) HD (wD.cast (by rw[Yu];omega) (by rw[Yu];(try simp only[Al2,Al3]);omega) (by simp[zR,hps,zY]) (by simp[tL,tPb,hps]))) (by simp(disch:=omega) only[go_sem])
theorem zcK (wd:List UInt8) (x:DefD) (hnw:zj wd=true) (hwd:wd.length≤16) (hwx:wfE x) (hm:64*bE x≤Lim):ZS 166 [.str wd,.agg (cE x)] (64*bE x) (512*bE x) (yE x) (za9 wd x):=by
 intro H w o l ok h hb
 obtain⟨k,nm,faces,flds,parts,ps⟩:=x
 have hm':=hm
 simp only[Lim,bE] at hm'
 simp only[bE] at hb
 have h1:=yp faces
 have h2:=yN flds
 have h3:=yp parts
 have h4:=yD ps
 have hfc:=zA faces
 have hfl:=yB flds
 have hfp:=zA parts
 have hfs:=yl ps
 rw[ZE]
 refine ACalls.go ir166 ck166 (Al4 _) fun KP Q hQ=>?_
 have w0:=YR.refl h
 obtain⟨n,hn⟩:∃ n,n=(decide (flds.length≠0)&&(decide (parts.length=0)&&decide (ps.length=0))):=⟨_,rfl⟩
 by_cases a1:flds.length=0
 ·have a1':¬ ((0:Int)<(flds.length:Int)):=by omega
  have hbv:n=false:=by rw[hn];simp[a1]
  simp(disch:=omega) only[ir166,hfl,a1',go_sem]
  refine zg (zQ _) w0 (by omega) (by omega) (by omega) fun o1 l1 H1 w1 _=>?_
  simp(disch:=omega) only[go_sem]
  refine zg (zz wd (by simp only[Lim];omega)) w1 (by omega) (by omega) (by omega) fun o2 l2 H2 w2 _=>?_
  simp(disch:=omega) only[go_sem]
  refine zg (zz nm (by simp only[Lim];omega)) w2 (by omega) (by omega) (by omega) fun o3 l3 H3 w3 _=>?_
  by_cases hf0:faces.length=0
  ·have hf1:¬ ((0:Int)<(faces.length:Int)):=by omega
   have hf:=y5.1 hf0
   simp(disch:=omega) only[hfc,hf1,go_sem]
   refine zg (zE [123] _) w3 (by omega) (by omega) (by omega) fun oB lB HB wB sB=>?_
   simp(disch:=omega) only[go_sem]
   refine yn (Z3 flds hwx.1 (by simp only[Lim];omega)) wB (by omega) fun oC lC HC wC sC=>?_
   simp(disch:=omega) only[go_sem]
   refine zg (zE [125] _) wC (by omega) (by omega) (by omega) fun oD lD HD wD sD=>?_
   simp(disch:=omega) only[go_sem]
   exact hQ _ _ HD HD [] nofun rfl (Low.refl _) ⟨rfl,wD.fin (by simp only[yE,← hn,hbv,hnw,ZZ,hf];simp[zY,Bool.and_comm,Bool.and_left_comm]) (fun _=>by simp[za9,hf]) (by simp only[bE];omega) (by simp only[bE,Al2,Al3];omega)⟩
  ·have hf1:((0:Int)<(faces.length:Int))=True:=eq_true (by omega)
   have hf:=hf0
   simp(disch:=omega) only[hfc,hf1,go_sem]
   refine zg (zz [105,109,112,108,101,109,101,110,116,115] (by simp[Lim])) w3 (by omega) (by omega) (by omega) fun o4 l4 H4 w4 _=>?_
   simp(disch:=omega) only[go_sem]
   refine yn (YK [38] faces rfl (by simp only[Lim];omega)) w4 (by omega) fun o5 l5 H5 w5 _=>?_
   simp(disch:=omega) only[go_sem]
   refine zg (zE [123] _) w5 (by omega) (by omega) (by omega) fun oB lB HB wB sB=>?_
   simp(disch:=omega) only[go_sem]
   refine yn (Z3 flds hwx.1 (by simp only[Lim];omega)) wB (by omega) fun oC lC HC wC sC=>?_
   simp(disch:=omega) only[go_sem]
   refine zg (zE [125] _) wC (by omega) (by omega) (by omega) fun oD lD HD wD sD=>?_
   simp(disch:=omega) only[go_sem]
   exact hQ _ _ HD HD [] nofun rfl (Low.refl _) ⟨rfl,wD.fin (by simp only[yE,← hn,hbv,hnw,ZZ,hf];simp[zY,Bool.and_comm,Bool.and_left_comm]) (fun _=>by simp[za9,hf]) (by simp only[bE];omega) (by simp only[bE,Al2,Al3];omega)⟩
 ·have a1':((0:Int)<(flds.length:Int))=True:=eq_true (by omega)
  have e1:IntKind.wrap .i64 ((parts.length:Int)+(ps.length:Int))=((parts.length+ps.length:Nat):Int):=by rw[wrap64 (by omega) (by omega)];omega
  by_cases a2:parts.length+ps.length=0
  ·have a2':(((parts.length+ps.length:Nat):Int)=0)=True:=eq_true (by omega)
   have hbv:n=true:=by rw[hn];simp only[ne_eq,Al0,zp];omega
   simp(disch:=omega) only[ir166,hfl,a1',hfp,hfs,e1,a2',go_sem]
   refine zg (zQ _) w0 (by omega) (by omega) (by omega) fun o1 l1 H1 w1 _=>?_
   simp(disch:=omega) only[go_sem]
   refine zg (zz wd (by simp only[Lim];omega)) w1 (by omega) (by omega) (by omega) fun o2 l2 H2 w2 _=>?_
   simp(disch:=omega) only[go_sem]
   refine zg (zz nm (by simp only[Lim];omega)) w2 (by omega) (by omega) (by omega) fun o3 l3 H3 w3 _=>?_
   by_cases hf0:faces.length=0
   ·have hf1:¬ ((0:Int)<(faces.length:Int)):=by omega
    have hf:=y5.1 hf0
    simp(disch:=omega) only[hfc,hf1,go_sem]
    refine zg (zE [123] _) w3 (by omega) (by omega) (by omega) fun oB lB HB wB sB=>?_
    simp(disch:=omega) only[go_sem]
    refine yn (Z3 flds hwx.1 (by simp only[Lim];omega)) wB (by omega) fun oC lC HC wC sC=>?_
    simp(disch:=omega) only[go_sem]
    refine zg (zE [125] _) wC (by omega) (by omega) (by omega) fun oD lD HD wD sD=>?_
    simp(disch:=omega) only[go_sem]
    exact hQ _ _ HD HD [] nofun rfl (Low.refl _) ⟨rfl,wD.fin (by simp only[yE,← hn,hbv,hnw,ZZ,hf];simp[zY,Bool.and_comm,Bool.and_left_comm]) (fun _=>by simp[za9,hf]) (by simp only[bE];omega) (by simp only[bE,Al2,Al3];omega)⟩
   ·have hf1:((0:Int)<(faces.length:Int))=True:=eq_true (by omega)
    have hf:=hf0
    simp(disch:=omega) only[hfc,hf1,go_sem]
    refine zg (zz [105,109,112,108,101,109,101,110,116,115] (by simp[Lim])) w3 (by omega) (by omega) (by omega) fun o4 l4 H4 w4 _=>?_
    simp(disch:=omega) only[go_sem]
    refine yn (YK [38] faces rfl (by simp only[Lim];omega)) w4 (by omega) fun o5 l5 H5 w5 _=>?_
    simp(disch:=omega) only[go_sem]
    refine zg (zE [123] _) w5 (by omega) (by omega) (by omega) fun oB lB HB wB sB=>?_
    simp(disch:=omega) only[go_sem]
    refine yn (Z3 flds hwx.1 (by simp only[Lim];omega)) wB (by omega) fun oC lC HC wC sC=>?_
    simp(disch:=omega) only[go_sem]
    refine zg (zE [125] _) wC (by omega) (by omega) (by omega) fun oD lD HD wD sD=>?_
    simp(disch:=omega) only[go_sem]
    exact hQ _ _ HD HD [] nofun rfl (Low.refl _) ⟨rfl,wD.fin (by simp only[yE,← hn,hbv,hnw,ZZ,hf];simp[zY,Bool.and_comm,Bool.and_left_comm]) (fun _=>by simp[za9,hf]) (by simp only[bE];omega) (by simp only[bE,Al2,Al3];omega)⟩
  ·have a2':¬ (((parts.length+ps.length:Nat):Int)=0):=by omega
   have hbv:n=false:=by rw[hn,Bool.eq_false_iff];simp only[ne_eq,Al0,zp];omega
   simp(disch:=omega) only[ir166,hfl,a1',hfp,hfs,e1,a2',go_sem]
   refine zg (zQ _) w0 (by omega) (by omega) (by omega) fun o1 l1 H1 w1 _=>?_
   simp(disch:=omega) only[go_sem]
   refine zg (zz wd (by simp only[Lim];omega)) w1 (by omega) (by omega) (by omega) fun o2 l2 H2 w2 _=>?_
   simp(disch:=omega) only[go_sem]
   refine zg (zz nm (by simp only[Lim];omega)) w2 (by omega) (by omega) (by omega) fun o3 l3 H3 w3 _=>?_
   by_cases hf0:faces.length=0
   ·have hf1:¬ ((0:Int)<(faces.length:Int)):=by omega
    have hf:=y5.1 hf0
    simp(disch:=omega) only[hfc,hf1,go_sem]
    refine zg (zE [123] _) w3 (by omega) (by omega) (by omega) fun oB lB HB wB sB=>?_
    simp(disch:=omega) only[go_sem]
    refine yn (Z3 flds hwx.1 (by simp only[Lim];omega)) wB (by omega) fun oC lC HC wC sC=>?_
    simp(disch:=omega) only[go_sem]
    refine zg (zE [125] _) wC (by omega) (by omega) (by omega) fun oD lD HD wD sD=>?_
    simp(disch:=omega) only[go_sem]
    exact hQ _ _ HD HD [] nofun rfl (Low.refl _) ⟨rfl,wD.fin (by simp only[yE,← hn,hbv,hnw,ZZ,hf];simp[zY,Bool.and_comm,Bool.and_left_comm]) (fun _=>by simp[za9,hf]) (by simp only[bE];omega) (by simp only[bE,Al2,Al3];omega)⟩
   ·have hf1:((0:Int)<(faces.length:Int))=True:=eq_true (by omega)
    have hf:=hf0
    simp(disch:=omega) only[hfc,hf1,go_sem]
    refine zg (zz [105,109,112,108,101,109,101,110,116,115] (by simp[Lim])) w3 (by omega) (by omega) (by omega) fun o4 l4 H4 w4 _=>?_
    simp(disch:=omega) only[go_sem]
    refine yn (YK [38] faces rfl (by simp only[Lim];omega)) w4 (by omega) fun o5 l5 H5 w5 _=>?_
    simp(disch:=omega) only[go_sem]
    refine zg (zE [123] _) w5 (by omega) (by omega) (by omega) fun oB lB HB wB sB=>?_
    simp(disch:=omega) only[go_sem]
    refine yn (Z3 flds hwx.1 (by simp only[Lim];omega)) wB (by omega) fun oC lC HC wC sC=>?_
    simp(disch:=omega) only[go_sem]
    refine zg (zE [125] _) wC (by omega) (by omega) (by omega) fun oD lD HD wD sD=>?_
    simp(disch:=omega) only[go_sem]
    exact hQ _ _ HD HD [] nofun rfl (Low.refl _) ⟨rfl,wD.fin (by simp only[yE,← hn,hbv,hnw,ZZ,hf];simp[zY,Bool.and_comm,Bool.and_left_comm]) (fun _=>by simp[za9,hf]) (by simp only[bE];omega) (by simp only[bE,Al2,Al3];omega)⟩
theorem zfA (x:DefD) (hm:64*bE x≤Lim):ZS 167 [.agg (cE x)] (64*bE x) (512*bE x) (yA x) (zbh x):=by
 intro H w o l ok h hb
 obtain⟨k,nm,faces,flds,parts,ps⟩:=x
 have hm':=hm
 simp only[Lim,bE] at hm'
 simp only[bE] at hb
 have h1:=yp faces
 have h2:=yN flds
 have h3:=yp parts
 have h4:=yD ps
 have hfc:=zA faces
 have hfl:=yB flds
 have hfp:=zA parts
 have hfs:=yl ps
 rw[ZE]
 refine ACalls.go ir167 ck167 (Al4 _) fun KP Q hQ=>?_
 have w0:=YR.refl h
 obtain⟨n,hn⟩:∃ n,n=(decide (parts.length≠0)&&(decide (faces.length=0)&&(decide (flds.length=0)&&decide (ps.length=0)))):=⟨_,rfl⟩
 by_cases a1:parts.length=0
 ·have a1':¬ ((0:Int)<(parts.length:Int)):=by omega
  have hbv:n=false:=by rw[hn];simp[a1]
  simp(disch:=omega) only[ir167,hfp,a1',go_sem]
  refine zg (zQ _) w0 (by omega) (by omega) (by omega) fun o1 l1 H1 w1 _=>?_
  by_cases hk:k=3
  ·have hk':=eq_true hk
   simp(disch:=omega) only[hk',go_sem]
   refine zg (zz [117,110,105,111,110] (by simp[Lim])) w1 (by omega) (by omega) (by omega) fun o2 l2 H2 w2 _=>?_
   simp(disch:=omega) only[go_sem]
   refine zg (zz nm (by simp only[Lim];omega)) w2 (by omega) (by omega) (by omega) fun o3 l3 H3 w3 _=>?_
   simp(disch:=omega) only[go_sem]
   refine zg (zE [61] _) w3 (by omega) (by omega) (by omega) fun o4 l4 H4 w4 _=>?_
   simp(disch:=omega) only[go_sem]
   refine yn (YK [124] parts rfl (by simp only[Lim];omega)) w4 (by omega) fun o5 l5 H5 w5 _=>?_
   simp(disch:=omega) only[go_sem]
   exact hQ _ _ H5 H5 [] nofun rfl (Low.refl _) ⟨rfl,w5.fin (by simp only[yA,if_pos hk,yO,← hn,hbv,zaf];simp[zY,Bool.and_comm,Bool.and_left_comm]) (fun _=>by simp[zbh,hk]) (by simp only[bE];omega) (by simp only[bE,Al2,Al3];omega)⟩
  ·simp(disch:=omega) only[hk,go_sem]
   refine zg (zz [101,110,117,109] (by simp[Lim])) w1 (by omega) (by omega) (by omega) fun o2 l2 H2 w2 _=>?_
   simp(disch:=omega) only[go_sem]
   refine zg (zz nm (by simp only[Lim];omega)) w2 (by omega) (by omega) (by omega) fun o3 l3 H3 w3 _=>?_
   simp(disch:=omega) only[go_sem]
   refine zg (zE [123] _) w3 (by omega) (by omega) (by omega) fun o4 l4 H4 w4 _=>?_
   simp(disch:=omega) only[hfp,go_sem]
   refine goL_range parts 61 (fun x:Own×List Tok=>[]) (fun done rest x H'=>YR H o w l ok 0 (4+bT done) (32+nm.length+16*bT done) (n&&(zj nm&&done.all fun s=>yf s&&zj s)) (wk [101,110,117,109]::wk nm::pk [123]::done.map wk) H' x.1 x.2) (o4,l4) (by simp(disch:=omega) only[go_sem]) (w4.cast (by omega) (by simp only[Al2,Al3];omega) (by simp[hbv,za5]) (by simp)) ?_ ?_
   ·rintro⟨o5,l5⟩ H5 J5 w5 hlt
    simp only at w5
    simp(disch:=omega) only[hfp,hlt,go_sem]
    refine zg (zE [125] _) w5 (by omega) (by omega) (by omega) fun o6 l6 H6 w6 _=>?_
    simp(disch:=omega) only[go_sem]
    exact hQ _ _ H6 H6 [] nofun rfl (Low.refl _) ⟨rfl,w6.fin (by rw[za7];simp only[yA,if_neg hk,yO,← hn];simp[zY,Bool.and_comm,Bool.and_left_comm]) (fun _=>by simp[zbh,hk]) (by simp only[bE];omega) (by simp only[bE,Al2,Al3];omega)⟩
   ·rintro done x rest ⟨o5,l5⟩ H5 J5 hd hlt hlt2 w5 hJ5
    simp only at w5
    have hg:=Zt hd
    have hbm:=Yy done x rest
    rw[← hd] at hbm
    simp(disch:=omega) only[hfp,hlt,hg,go_sem]
    by_cases q1:x=[116,114,117,101]
    ·have q1':=eq_true q1
     have hno:yf x=false:=by rw[q1];decide
     simp(disch:=omega) only[q1',go_sem]
     refine zg (zQ _) w5 (by omega) (by omega) (by omega) fun o6 l6 H6 w6 _=>?_
     simp(disch:=omega) only[go_sem]
     refine zg (zz x (by simp only[Lim];omega)) w6 (by omega) (by omega) (by omega) fun o7 l7 H7 w7 _=>?_
     simp(disch:=omega) only[wrap64,go_sem]
     exact goJ (hJ5 (o7,l7) H7 (w7.cast (by rw[zC];omega) (by rw[zC];omega) (by simp[hno,zY]) (by simp))) (by simp(disch:=omega) only[go_sem])
    by_cases q2:x=[102,97,108,115,101]
    ·have q2':=eq_true q2
     have hno:yf x=false:=by rw[q2];decide
     simp(disch:=omega) only[q1,q2',go_sem]
     refine zg (zQ _) w5 (by omega) (by omega) (by omega) fun o6 l6 H6 w6 _=>?_
     simp(disch:=omega) only[go_sem]
     refine zg (zz x (by simp only[Lim];omega)) w6 (by omega) (by omega) (by omega) fun o7 l7 H7 w7 _=>?_
     simp(disch:=omega) only[wrap64,go_sem]
     exact goJ (hJ5 (o7,l7) H7 (w7.cast (by rw[zC];omega) (by rw[zC];omega) (by simp[hno,zY]) (by simp))) (by simp(disch:=omega) only[go_sem])
    by_cases q3:x=[110,117,108,108]
    ·have q3':=eq_true q3
     have hno:yf x=false:=by rw[q3];decide
     simp(disch:=omega) only[q1,q2,q3',go_sem]
     refine zg (zQ _) w5 (by omega) (by omega) (by omega) fun o6 l6 H6 w6 _=>?_
     simp(disch:=omega) only[go_sem]
     refine zg (zz x (by simp only[Lim];omega)) w6 (by omega) (by omega) (by omega) fun o7 l7 H7 w7 _=>?_
     simp(disch:=omega) only[wrap64,go_sem]
     exact goJ (hJ5 (o7,l7) H7 (w7.cast (by rw[zC];omega) (by rw[zC];omega) (by simp[hno,zY]) (by simp))) (by simp(disch:=omega) only[go_sem])
    ·have hno:yf x=true:=by simp[yf,q1,q2,q3]
     simp(disch:=omega) only[q1,q2,q3,go_sem]
     refine zg (zQ _) w5 (by omega) (by omega) (by omega) fun o6 l6 H6 w6 _=>?_
     simp(disch:=omega) only[go_sem]
     refine zg (zz x (by simp only[Lim];omega)) w6 (by omega) (by omega) (by omega) fun o7 l7 H7 w7 _=>?_
     simp(disch:=omega) only[wrap64,go_sem]
     exact goJ (hJ5 (o7,l7) H7 (w7.cast (by rw[zC];omega) (by rw[zC];omega) (by simp[hno,zY]) (by simp))) (by simp(disch:=omega) only[go_sem])
 ·have a1':((0:Int)<(parts.length:Int))=True:=eq_true (by omega)
  have e1:IntKind.wrap .i64 ((faces.length:Int)+(flds.length:Int))=((faces.length+flds.length:Nat):Int):=by rw[wrap64 (by omega) (by omega)];omega
  have e2:IntKind.wrap .i64 (((faces.length+flds.length:Nat):Int)+(ps.length:Int))=((faces.length+flds.length+ps.length:Nat):Int):=by rw[wrap64 (by omega) (by omega)];omega
  by_cases a2:faces.length+flds.length+ps.length=0
  ·have a2':(((faces.length+flds.length+ps.length:Nat):Int)=0)=True:=eq_true (by omega)
   have hbv:n=true:=by rw[hn];simp only[ne_eq,Al0,zp];omega
   simp(disch:=omega) only[ir167,hfp,a1',hfc,hfl,hfs,e1,e2,a2',go_sem]
   refine zg (zQ _) w0 (by omega) (by omega) (by omega) fun o1 l1 H1 w1 _=>?_
   by_cases hk:k=3
   ·have hk':=eq_true hk
    simp(disch:=omega) only[hk',go_sem]
    refine zg (zz [117,110,105,111,110] (by simp[Lim])) w1 (by omega) (by omega) (by omega) fun o2 l2 H2 w2 _=>?_
    simp(disch:=omega) only[go_sem]
    refine zg (zz nm (by simp only[Lim];omega)) w2 (by omega) (by omega) (by omega) fun o3 l3 H3 w3 _=>?_
    simp(disch:=omega) only[go_sem]
    refine zg (zE [61] _) w3 (by omega) (by omega) (by omega) fun o4 l4 H4 w4 _=>?_
    simp(disch:=omega) only[go_sem]
    refine yn (YK [124] parts rfl (by simp only[Lim];omega)) w4 (by omega) fun o5 l5 H5 w5 _=>?_
    simp(disch:=omega) only[go_sem]
    exact hQ _ _ H5 H5 [] nofun rfl (Low.refl _) ⟨rfl,w5.fin (by simp only[yA,if_pos hk,yO,← hn,hbv,zaf];simp[zY,Bool.and_comm,Bool.and_left_comm]) (fun _=>by simp[zbh,hk]) (by simp only[bE];omega) (by simp only[bE,Al2,Al3];omega)⟩
   ·simp(disch:=omega) only[hk,go_sem]
    refine zg (zz [101,110,117,109] (by simp[Lim])) w1 (by omega) (by omega) (by omega) fun o2 l2 H2 w2 _=>?_
    simp(disch:=omega) only[go_sem]
    refine zg (zz nm (by simp only[Lim];omega)) w2 (by omega) (by omega) (by omega) fun o3 l3 H3 w3 _=>?_
    simp(disch:=omega) only[go_sem]
    refine zg (zE [123] _) w3 (by omega) (by omega) (by omega) fun o4 l4 H4 w4 _=>?_
    simp(disch:=omega) only[hfp,go_sem]
    refine goL_range parts 61 (fun x:Own×List Tok=>[]) (fun done rest x H'=>YR H o w l ok 0 (4+bT done) (32+nm.length+16*bT done) (n&&(zj nm&&done.all fun s=>yf s&&zj s)) (wk [101,110,117,109]::wk nm::pk [123]::done.map wk) H' x.1 x.2) (o4,l4) (by simp(disch:=omega) only[go_sem]) (w4.cast (by omega) (by simp only[Al2,Al3];omega) (by simp[hbv,za5]) (by simp)) ?_ ?_
    ·rintro⟨o5,l5⟩ H5 J5 w5 hlt
     simp only at w5
     simp(disch:=omega) only[hfp,hlt,go_sem]
     refine zg (zE [125] _) w5 (by omega) (by omega) (by omega) fun o6 l6 H6 w6 _=>?_
     simp(disch:=omega) only[go_sem]
     exact hQ _ _ H6 H6 [] nofun rfl (Low.refl _) ⟨rfl,w6.fin (by rw[za7];simp only[yA,if_neg hk,yO,← hn];simp[zY,Bool.and_comm,Bool.and_left_comm]) (fun _=>by simp[zbh,hk]) (by simp only[bE];omega) (by simp only[bE,Al2,Al3];omega)⟩
    ·rintro done x rest ⟨o5,l5⟩ H5 J5 hd hlt hlt2 w5 hJ5
     simp only at w5
     have hg:=Zt hd
     have hbm:=Yy done x rest
     rw[← hd] at hbm
     simp(disch:=omega) only[hfp,hlt,hg,go_sem]
     by_cases q1:x=[116,114,117,101]
     ·have q1':=eq_true q1
      have hno:yf x=false:=by rw[q1];decide
      simp(disch:=omega) only[q1',go_sem]
      refine zg (zQ _) w5 (by omega) (by omega) (by omega) fun o6 l6 H6 w6 _=>?_
      simp(disch:=omega) only[go_sem]
      refine zg (zz x (by simp only[Lim];omega)) w6 (by omega) (by omega) (by omega) fun o7 l7 H7 w7 _=>?_
      simp(disch:=omega) only[wrap64,go_sem]
      exact goJ (hJ5 (o7,l7) H7 (w7.cast (by rw[zC];omega) (by rw[zC];omega) (by simp[hno,zY]) (by simp))) (by simp(disch:=omega) only[go_sem])
     by_cases q2:x=[102,97,108,115,101]
     ·have q2':=eq_true q2
      have hno:yf x=false:=by rw[q2];decide
      simp(disch:=omega) only[q1,q2',go_sem]
      refine zg (zQ _) w5 (by omega) (by omega) (by omega) fun o6 l6 H6 w6 _=>?_
      simp(disch:=omega) only[go_sem]
      refine zg (zz x (by simp only[Lim];omega)) w6 (by omega) (by omega) (by omega) fun o7 l7 H7 w7 _=>?_
      simp(disch:=omega) only[wrap64,go_sem]
      exact goJ (hJ5 (o7,l7) H7 (w7.cast (by rw[zC];omega) (by rw[zC];omega) (by simp[hno,zY]) (by simp))) (by simp(disch:=omega) only[go_sem])
     by_cases q3:x=[110,117,108,108]
     ·have q3':=eq_true q3
      have hno:yf x=false:=by rw[q3];decide
      simp(disch:=omega) only[q1,q2,q3',go_sem]
      refine zg (zQ _) w5 (by omega) (by omega) (by omega) fun o6 l6 H6 w6 _=>?_
      simp(disch:=omega) only[go_sem]
      refine zg (zz x (by simp only[Lim];omega)) w6 (by omega) (by omega) (by omega) fun o7 l7 H7 w7 _=>?_
      simp(disch:=omega) only[wrap64,go_sem]
      exact goJ (hJ5 (o7,l7) H7 (w7.cast (by rw[zC];omega) (by rw[zC];omega) (by simp[hno,zY]) (by simp))) (by simp(disch:=omega) only[go_sem])
     ·have hno:yf x=true:=by simp[yf,q1,q2,q3]
      simp(disch:=omega) only[q1,q2,q3,go_sem]
      refine zg (zQ _) w5 (by omega) (by omega) (by omega) fun o6 l6 H6 w6 _=>?_
      simp(disch:=omega) only[go_sem]
      refine zg (zz x (by simp only[Lim];omega)) w6 (by omega) (by omega) (by omega) fun o7 l7 H7 w7 _=>?_
      simp(disch:=omega) only[wrap64,go_sem]
      exact goJ (hJ5 (o7,l7) H7 (w7.cast (by rw[zC];omega) (by rw[zC];omega) (by simp[hno,zY]) (by simp))) (by simp(disch:=omega) only[go_sem])
  ·have a2':¬ (((faces.length+flds.length+ps.length:Nat):Int)=0):=by omega
   have hbv:n=false:=by rw[hn,Bool.eq_false_iff];simp only[ne_eq,Al0,zp];omega
   simp(disch:=omega) only[ir167,hfp,a1',hfc,hfl,hfs,e1,e2,a2',go_sem]
   refine zg (zQ _) w0 (by omega) (by omega) (by omega) fun o1 l1 H1 w1 _=>?_
   by_cases hk:k=3
   ·have hk':=eq_true hk
    simp(disch:=omega) only[hk',go_sem]
    refine zg (zz [117,110,105,111,110] (by simp[Lim])) w1 (by omega) (by omega) (by omega) fun o2 l2 H2 w2 _=>?_
    simp(disch:=omega) only[go_sem]
    refine zg (zz nm (by simp only[Lim];omega)) w2 (by omega) (by omega) (by omega) fun o3 l3 H3 w3 _=>?_
    simp(disch:=omega) only[go_sem]
    refine zg (zE [61] _) w3 (by omega) (by omega) (by omega) fun o4 l4 H4 w4 _=>?_
    simp(disch:=omega) only[go_sem]
    refine yn (YK [124] parts rfl (by simp only[Lim];omega)) w4 (by omega) fun o5 l5 H5 w5 _=>?_
    simp(disch:=omega) only[go_sem]
    exact hQ _ _ H5 H5 [] nofun rfl (Low.refl _) ⟨rfl,w5.fin (by simp only[yA,if_pos hk,yO,← hn,hbv,zaf];simp[zY,Bool.and_comm,Bool.and_left_comm]) (fun _=>by simp[zbh,hk]) (by simp only[bE];omega) (by simp only[bE,Al2,Al3];omega)⟩
   ·simp(disch:=omega) only[hk,go_sem]
    refine zg (zz [101,110,117,109] (by simp[Lim])) w1 (by omega) (by omega) (by omega) fun o2 l2 H2 w2 _=>?_
    simp(disch:=omega) only[go_sem]
    refine zg (zz nm (by simp only[Lim];omega)) w2 (by omega) (by omega) (by omega) fun o3 l3 H3 w3 _=>?_
    simp(disch:=omega) only[go_sem]
    refine zg (zE [123] _) w3 (by omega) (by omega) (by omega) fun o4 l4 H4 w4 _=>?_
    simp(disch:=omega) only[hfp,go_sem]
    refine goL_range parts 61 (fun x:Own×List Tok=>[]) (fun done rest x H'=>YR H o w l ok 0 (4+bT done) (32+nm.length+16*bT done) (n&&(zj nm&&done.all fun s=>yf s&&zj s)) (wk [101,110,117,109]::wk nm::pk [123]::done.map wk) H' x.1 x.2) (o4,l4) (by simp(disch:=omega) only[go_sem]) (w4.cast (by omega) (by simp only[Al2,Al3];omega) (by simp[hbv,za5]) (by simp)) ?_ ?_
    ·rintro⟨o5,l5⟩ H5 J5 w5 hlt
     simp only at w5
     simp(disch:=omega) only[hfp,hlt,go_sem]
     refine zg (zE [125] _) w5 (by omega) (by omega) (by omega) fun o6 l6 H6 w6 _=>?_
     simp(disch:=omega) only[go_sem]
     exact hQ _ _ H6 H6 [] nofun rfl (Low.refl _) ⟨rfl,w6.fin (by rw[za7];simp only[yA,if_neg hk,yO,← hn];simp[zY,Bool.and_comm,Bool.and_left_comm]) (fun _=>by simp[zbh,hk]) (by simp only[bE];omega) (by simp only[bE,Al2,Al3];omega)⟩
    ·rintro done x rest ⟨o5,l5⟩ H5 J5 hd hlt hlt2 w5 hJ5
     simp only at w5
     have hg:=Zt hd
     have hbm:=Yy done x rest
     rw[← hd] at hbm
     simp(disch:=omega) only[hfp,hlt,hg,go_sem]
     by_cases q1:x=[116,114,117,101]
     ·have q1':=eq_true q1
      have hno:yf x=false:=by rw[q1];decide
      simp(disch:=omega) only[q1',go_sem]
      refine zg (zQ _) w5 (by omega) (by omega) (by omega) fun o6 l6 H6 w6 _=>?_
      simp(disch:=omega) only[go_sem]
      refine zg (zz x (by simp only[Lim];omega)) w6 (by omega) (by omega) (by omega) fun o7 l7 H7 w7 _=>?_
      simp(disch:=omega) only[wrap64,go_sem]
      exact goJ (hJ5 (o7,l7) H7 (w7.cast (by rw[zC];omega) (by rw[zC];omega) (by simp[hno,zY]) (by simp))) (by simp(disch:=omega) only[go_sem])
     by_cases q2:x=[102,97,108,115,101]
     ·have q2':=eq_true q2
      have hno:yf x=false:=by rw[q2];decide
      simp(disch:=omega) only[q1,q2',go_sem]
      refine zg (zQ _) w5 (by omega) (by omega) (by omega) fun o6 l6 H6 w6 _=>?_
      simp(disch:=omega) only[go_sem]
      refine zg (zz x (by simp only[Lim];omega)) w6 (by omega) (by omega) (by omega) fun o7 l7 H7 w7 _=>?_
      simp(disch:=omega) only[wrap64,go_sem]
      exact goJ (hJ5 (o7,l7) H7 (w7.cast (by rw[zC];omega) (by rw[zC];omega) (by simp[hno,zY]) (by simp))) (by simp(disch:=omega) only[go_sem])
     by_cases q3:x=[110,117,108,108]
     ·have q3':=eq_true q3
      have hno:yf x=false:=by rw[q3];decide
      simp(disch:=omega) only[q1,q2,q3',go_sem]
      refine zg (zQ _) w5 (by omega) (by omega) (by omega) fun o6 l6 H6 w6 _=>?_
      simp(disch:=omega) only[go_sem]
      refine zg (zz x (by simp only[Lim];omega)) w6 (by omega) (by omega) (by omega) fun o7 l7 H7 w7 _=>?_
      simp(disch:=omega) only[wrap64,go_sem]
      exact goJ (hJ5 (o7,l7) H7 (w7.cast (by rw[zC];omega) (by rw[zC];omega) (by simp[hno,zY]) (by simp))) (by simp(disch:=omega) only[go_sem])
     ·have hno:yf x=true:=by simp[yf,q1,q2,q3]
      simp(disch:=omega) only[q1,q2,q3,go_sem]
      refine zg (zQ _) w5 (by omega) (by omega) (by omega) fun o6 l6 H6 w6 _=>?_
      simp(disch:=omega) only[go_sem]
      refine zg (zz x (by simp only[Lim];omega)) w6 (by omega) (by omega) (by omega) fun o7 l7 H7 w7 _=>?_
      simp(disch:=omega) only[wrap64,go_sem]
      exact goJ (hJ5 (o7,l7) H7 (w7.cast (by rw[zC];omega) (by rw[zC];omega) (by simp[hno,zY]) (by simp))) (by simp(disch:=omega) only[go_sem])
theorem zfT (x:DefD) (hwx:wfE x) (hm:64*bE x≤Lim):ZS 114 [.agg (cE x)] (64*bE x) (512*bE x) (zr x) (tE x):=by
 have hO1:=zcK [116,121,112,101] x zek (by decide) hwx hm
 have hO2:=zcK [105,110,116,101,114,102,97,99,101] x zeB (by decide) hwx hm
 have hP:=zfA x hm
 intro H w o l ok h hb
 obtain⟨k,nm,faces,flds,parts,ps⟩:=x
 rw[ZE] at hO1 hO2 hP ⊢
 have hm':=hm
 simp only[Lim,bE] at hm'
 have hb':=hb
 simp only[bE] at hb
 have h1:=yp faces
 have h2:=yN flds
 have h3:=yp parts
 have h4:=yD ps
 have hfc:=zA faces
 have hfl:=yB flds
 have hfp:=zA parts
 have hfs:=yl ps
 refine ACalls.go ir114 ck114 (Al4 _) fun KP Q hQ=>?_
 have w0:=YR.refl h
 by_cases k1:k=1
 ·have k1':=eq_true k1
  simp(disch:=omega) only[ir114,k1',go_sem]
  refine yn hO1 w0 (by omega) fun o2 l2 H2 w2 _=>?_
  simp(disch:=omega) only[go_sem]
  exact hQ _ _ H2 H2 [] nofun rfl (Low.refl _) ⟨rfl,w2.fin (by subst k1;simp[zr,yE]) (fun _=>by subst k1;simp[tE,za9]) (by omega) (by omega)⟩
 by_cases k2:k=2
 ·have k2':=eq_true k2
  simp(disch:=omega) only[ir114,k1,k2',go_sem]
  refine yn hO2 w0 (by omega) fun o2 l2 H2 w2 _=>?_
  simp(disch:=omega) only[go_sem]
  exact hQ _ _ H2 H2 [] nofun rfl (Low.refl _) ⟨rfl,w2.fin (by subst k2;simp[zr,yE]) (fun _=>by subst k2;simp[tE,za9]) (by omega) (by omega)⟩
 by_cases k3:k=3
 ·have k3':=eq_true k3
  simp(disch:=omega) only[ir114,k1,k2,k3',go_sem]
  refine yn hP w0 (by omega) fun o2 l2 H2 w2 _=>?_
  simp(disch:=omega) only[go_sem]
  exact hQ _ _ H2 H2 [] nofun rfl (Low.refl _) ⟨rfl,w2.fin (by subst k3;simp[zr,yA,yO]) (fun _=>by subst k3;simp[tE,zbh]) (by omega) (by omega)⟩
 by_cases k4:k=4
 ·have k4':=eq_true k4
  simp(disch:=omega) only[ir114,k1,k2,k3,k4',go_sem]
  refine yn hP w0 (by omega) fun o2 l2 H2 w2 _=>?_
  simp(disch:=omega) only[go_sem]
  exact hQ _ _ H2 H2 [] nofun rfl (Low.refl _) ⟨rfl,w2.fin (by subst k4;simp[zr,yA,yO]) (fun _=>by subst k4;simp[tE,zbh]) (by omega) (by omega)⟩
 by_cases k5:k=5
 ·have k5':=eq_true k5
  obtain⟨n,hn⟩:∃ n,n=(decide (ps.length≠0)&&(decide (faces.length=0)&&(decide (flds.length=0)&&decide (parts.length=0)))):=⟨_,rfl⟩
  by_cases a1:ps.length=0
  ·have a1':¬ ((0:Int)<(ps.length:Int)):=by omega
   have hbv:n=false:=by rw[hn];simp[a1]
   subst k5
   simp(disch:=omega) only[ir114,k1,k2,k3,k4,k5',hfs,a1',go_sem]
   refine zg (zQ _) w0 (by omega) (by omega) (by omega) fun o1 l1 H1 w1 _=>?_
   simp(disch:=omega) only[go_sem]
   refine zg (zz [105,110,112,117,116] (by simp[Lim])) w1 (by omega) (by omega) (by omega) fun o2 l2 H2 w2 _=>?_
   simp(disch:=omega) only[go_sem]
   refine zg (zz nm (by simp only[Lim];omega)) w2 (by omega) (by omega) (by omega) fun o3 l3 H3 w3 _=>?_
   simp(disch:=omega) only[go_sem]
   refine zg (zE [123] _) w3 (by omega) (by omega) (by omega) fun o4 l4 H4 w4 _=>?_
   simp(disch:=omega) only[go_sem]
   refine yn (zac ps hwx.2 (by simp only[Lim];omega)) w4 (by omega) fun o5 l5 H5 w5 _=>?_
   simp(disch:=omega) only[go_sem]
   refine zg (zE [125] _) w5 (by omega) (by omega) (by omega) fun o6 l6 H6 w6 _=>?_
   simp(disch:=omega) only[go_sem]
   exact hQ _ _ H6 H6 [] nofun rfl (Low.refl _) ⟨rfl,w6.fin (by simp only[zr];rw[if_neg (by omega),if_neg (by omega),if_neg (by omega),if_pos trivial];simp only[← hn,hbv,zak];simp[zY,Bool.and_comm,Bool.and_left_comm]) (fun _=>by simp only[tE];rw[if_neg (by omega),if_neg (by omega),if_neg (by omega)];simp) (by simp only[bE];omega) (by simp only[bE,Al2,Al3];omega)⟩
  ·have a1':((0:Int)<(ps.length:Int))=True:=eq_true (by omega)
   have e1:IntKind.wrap .i64 ((faces.length:Int)+(flds.length:Int))=((faces.length+flds.length:Nat):Int):=by rw[wrap64 (by omega) (by omega)];omega
   have e2:IntKind.wrap .i64 (((faces.length+flds.length:Nat):Int)+(parts.length:Int))=((faces.length+flds.length+parts.length:Nat):Int):=by rw[wrap64 (by omega) (by omega)];omega
   by_cases a2:faces.length+flds.length+parts.length=0
   ·have a2':(((faces.length+flds.length+parts.length:Nat):Int)=0)=True:=eq_true (by omega)
    have hbv:n=true:=by rw[hn];simp only[ne_eq,Al0,zp];omega
    subst k5
    simp(disch:=omega) only[ir114,k1,k2,k3,k4,k5',hfs,a1',hfc,hfl,hfp,e1,e2,a2',go_sem]
    refine zg (zQ _) w0 (by omega) (by omega) (by omega) fun o1 l1 H1 w1 _=>?_
    simp(disch:=omega) only[go_sem]
    refine zg (zz [105,110,112,117,116] (by simp[Lim])) w1 (by omega) (by omega) (by omega) fun o2 l2 H2 w2 _=>?_
    simp(disch:=omega) only[go_sem]
    refine zg (zz nm (by simp only[Lim];omega)) w2 (by omega) (by omega) (by omega) fun o3 l3 H3 w3 _=>?_
    simp(disch:=omega) only[go_sem]
    refine zg (zE [123] _) w3 (by omega) (by omega) (by omega) fun o4 l4 H4 w4 _=>?_
    simp(disch:=omega) only[go_sem]
    refine yn (zac ps hwx.2 (by simp only[Lim];omega)) w4 (by omega) fun o5 l5 H5 w5 _=>?_
    simp(disch:=omega) only[go_sem]
    refine zg (zE [125] _) w5 (by omega) (by omega) (by omega) fun o6 l6 H6 w6 _=>?_
    simp(disch:=omega) only[go_sem]
    exact hQ _ _ H6 H6 [] nofun rfl (Low.refl _) ⟨rfl,w6.fin (by simp only[zr];rw[if_neg (by omega),if_neg (by omega),if_neg (by omega),if_pos trivial];simp only[← hn,hbv,zak];simp[zY,Bool.and_comm,Bool.and_left_comm]) (fun _=>by simp only[tE];rw[if_neg (by omega),if_neg (by omega),if_neg (by omega)];simp) (by simp only[bE];omega) (by simp only[bE,Al2,Al3];omega)⟩
   ·have a2':¬ (((faces.length+flds.length+parts.length:Nat):Int)=0):=by omega
    have hbv:n=false:=by rw[hn,Bool.eq_false_iff];simp only[ne_eq,Al0,zp];omega
    subst k5
    simp(disch:=omega) only[ir114,k1,k2,k3,k4,k5',hfs,a1',hfc,hfl,hfp,e1,e2,a2',go_sem]
    refine zg (zQ _) w0 (by omega) (by omega) (by omega) fun o1 l1 H1 w1 _=>?_
    simp(disch:=omega) only[go_sem]
    refine zg (zz [105,110,112,117,116] (by simp[Lim])) w1 (by omega) (by omega) (by omega) fun o2 l2 H2 w2 _=>?_
    simp(disch:=omega) only[go_sem]
    refine zg (zz nm (by simp only[Lim];omega)) w2 (by omega) (by omega) (by omega) fun o3 l3 H3 w3 _=>?_
    simp(disch:=omega) only[go_sem]
    refine zg (zE [123] _) w3 (by omega) (by omega) (by omega) fun o4 l4 H4 w4 _=>?_
    simp(disch:=omega) only[go_sem]
    refine yn (zac ps hwx.2 (by simp only[Lim];omega)) w4 (by omega) fun o5 l5 H5 w5 _=>?_
    simp(disch:=omega) only[go_sem]
    refine zg (zE [125] _) w5 (by omega) (by omega) (by omega) fun o6 l6 H6 w6 _=>?_
    simp(disch:=omega) only[go_sem]
    exact hQ _ _ H6 H6 [] nofun rfl (Low.refl _) ⟨rfl,w6.fin (by simp only[zr];rw[if_neg (by omega),if_neg (by omega),if_neg (by omega),if_pos trivial];simp only[← hn,hbv,zak];simp[zY,Bool.and_comm,Bool.and_left_comm]) (fun _=>by simp only[tE];rw[if_neg (by omega),if_neg (by omega),if_neg (by omega)];simp) (by simp only[bE];omega) (by simp only[bE,Al2,Al3];omega)⟩
 ·simp(disch:=omega) only[ir114,k1,k2,k3,k4,k5,go_sem]
  refine zg (zQ false) w0 (by omega) (by omega) (by omega) fun o2 l2 H2 w2 _=>?_
  simp(disch:=omega) only[go_sem]
  exact hQ _ _ H2 H2 [] nofun rfl (Low.refl _) ⟨rfl,w2.fin (by simp[zr,k1,k2,k3,k4,k5]) (fun e=>by simp[zr,k1,k2,k3,k4,k5] at e) (by omega) (by omega)⟩
theorem zcx (s:SchD) (hw:YS s) (hb:64*yV s+64≤Lim):ACalls Tryz.prog 57 [.agg (y8 s)] Heap.emp (zdW fun v H'=>H'=Heap.emp∧∃ L,v=.tup [.sl .no 2 (cKs L),.bool (zS s)]∧wT L≤512*yV s+128∧(zS s=true→L=y1 s)):=by
 refine ACalls.go ir57 ck57 (Al4 _) fun KP Q hQ=>?_
 obtain⟨defs,q,m⟩:=s
 have hle:=ZV defs
 have hce:=ZB defs
 have hb':=hb
 simp only[yV,Lim] at hb'
 have ed:y8 ⟨defs,q,m⟩=[.sl .no 6 (cEs defs),.str q,.str m]:=rfl
 obtain⟨R3,hR3⟩:∃ R3,R3=(zj q&&(decide (m=[])||zj m)):=⟨_,rfl⟩
 simp(disch:=omega) only[ir57,ed,go_sem]
 refine goK_ret zgf fun v H1 ⟨w,hv,hW⟩=>?_
 subst hv
 simp(disch:=omega) only[go_sem]
 refine goA_intro fun b hb=>?_
 have hbw:b≠w:=fun e=>by subst e;rw[hW.cell] at hb;cases hb
 have w0:=(YR.refl hW).alloc (x:=.cells [.ptr w 0]) hb
 have g0:(H1.upd b (.cells [.ptr w 0])) b=some (.cells [.ptr w 0]):=upd_same ..
 simp(disch:=omega) only[go_sem]
 refine zg (zz [115,99,104,101,109,97] (by simp[Lim])) w0 (by omega) (by omega) (by simp only[Lim,Al3];omega) fun o1 l1 H2 w1 s1=>?_
 have g1:=s1.box w0.here.own g0 hbw
 simp(disch:=omega) only[g1,go_sem]
 refine zg (zE [123] _) w1 (by omega) (by omega) (by simp only[Lim,Al3];omega) fun o2 l2 H3 w2 s2=>?_
 have g2:=s2.box w1.here.own g1 hbw
 simp(disch:=omega) only[g2,go_sem]
 refine zg (zz [113,117,101,114,121] (by simp[Lim])) w2 (by omega) (by omega) (by simp only[Lim,Al3];omega) fun o3 l3 H4 w3 s3=>?_
 have g3:=s3.box w2.here.own g2 hbw
 simp(disch:=omega) only[g3,go_sem]
 refine zg (zE [58] _) w3 (by omega) (by omega) (by simp only[Lim,Al3];omega) fun o4 l4 H5 w4 s4=>?_
 have g4:=s4.box w3.here.own g3 hbw
 simp(disch:=omega) only[g4,go_sem]
 refine zg (zz q (by simp only[Lim];omega)) w4 (by omega) (by omega) (by simp only[Lim,Al3];omega) fun o5 l5 H6 w5 s5=>?_
 have g5:=s5.box w4.here.own g4 hbw
 by_cases hm0:m=[]
 ·have hm1:=eq_true hm0
  simp(disch:=omega) only[hm1,g5,go_sem]
  refine zg (zE [125] _) w5 (by omega) (by omega) (by simp only[Lim,Al3];omega) fun oB lB HB wB sB=>?_
  have gB:=sB.box w5.here.own g5 hbw
  simp(disch:=omega) only[gB,hce,go_sem]
  refine goL_range defs 50 (fun x:Own×List Tok=>[]) (fun done rest x H'=>YR H1 .nil w [] true 0 (10+64*bEs done) (100+q.length+m.length+512*bEs done) (R3&&done.all zr) (tRt q m++done.flatMap tE) H' x.1 x.2∧H' b=some (.cells [.ptr w 0])) (oB,lB) (by simp(disch:=omega) only[go_sem]) ⟨wB.castC (by omega) (by (try simp only[Al2,Al3]);omega) (by rw[hR3];simp[zaY,zbF,zdi,hm0,zY]) (fun _=>by simp[tRt,hm0]),gB⟩ ?_ ?_
  ·rintro⟨o4,l4⟩ H4 J4 ⟨w4,g4⟩ hlt4
   simp only at w4 g4
   have er:zS ⟨defs,q,m⟩=(R3&&defs.all zr):=by rw[hR3,Bool.and_comm];rfl
   have hc4:=w4.here.cell
   have e4:=w4.eq
   rw[← er,Bool.true_and] at hc4 e4
   have hw4:=w4.wt
   simp(disch:=omega) only[hce,hlt4,g4,hc4,go_sem]
   exact hQ _ _ _ Heap.emp [_,_] nofun rfl (Low.of_sub nofun) ⟨rfl,l4,rfl,by simp only[yG,yV] at hw4 ⊢;omega,fun hr=>by have:=e4 hr;rw[zbH] at this;rw[this];rfl⟩
  ·rintro done x rest ⟨o4,l4⟩ H4 J4 hd hlt4 hlt5 ⟨w4,g4⟩ hJ4
   simp only at w4 g4
   have hg:=Zk hd
   have hbm:=Zh done x rest
   rw[← hd] at hbm
   have hwx:=hw x (by rw[hd];simp)
   have hfw:=zfT x hwx (by simp only[Lim];omega)
   obtain⟨k,nm,faces,flds,parts,ps⟩:=x
   rw[ZE] at hg hfw
   simp(disch:=omega) only[hce,hlt4,hg,go_sem]
   refine goA_intro fun b6 hb6=>?_
   have h6:b6≠b:=fun e=>by subst e;rw[g4] at hb6;cases hb6
   have w5:=w4.alloc (x:=.cells [.int .i64 k,.str nm,.sl .no 1 (cT faces),.sl .no 6 (cLs flds),.sl .no 1 (cT parts),.sl .no 10 (cWs ps)]) hb6
   have g5:(H4.upd b6 (.cells [.int .i64 k,.str nm,.sl .no 1 (cT faces),.sl .no 6 (cLs flds),.sl .no 1 (cT parts),.sl .no 10 (cWs ps)])) b=some (.cells [.ptr w 0]):=by rw[upd_ne (Ne.symm h6)];exact g4
   simp(disch:=omega) only[g5,go_sem]
   refine yn hfw w5 (by simp only[Lim,Al3];omega) fun o6 l6 H6 w6 s6=>?_
   have g6:=s6.box w5.here.own g5 hbw
   simp(disch:=omega) only[wrap64,go_sem]
   exact goJ (hJ4 (o6,l6) H6 ⟨w6.cast (by rw[Z1];omega) (by rw[Z1];omega) (by simp[zY]) (by simp),g6⟩) (by simp(disch:=omega) only[go_sem])
 ·simp(disch:=omega) only[hm0,g5,go_sem]
  refine zg (zz [109,117,116,97,116,105,111,110] (by simp[Lim])) w5 (by omega) (by omega) (by simp only[Lim,Al3];omega) fun o6 l6 H7 w6 s6=>?_
  have g6:=s6.box w5.here.own g5 hbw
  simp(disch:=omega) only[g6,go_sem]
  refine zg (zE [58] _) w6 (by omega) (by omega) (by simp only[Lim,Al3];omega) fun o7 l7 H8 w7 s7=>?_
  have g7:=s7.box w6.here.own g6 hbw
  simp(disch:=omega) only[g7,go_sem]
  refine zg (zz m (by simp only[Lim];omega)) w7 (by omega) (by omega) (by simp only[Lim,Al3];omega) fun o8 l8 H9 w8 s8=>?_
  have g8:=s8.box w7.here.own g7 hbw
  simp(disch:=omega) only[g8,go_sem]
  refine zg (zE [125] _) w8 (by omega) (by omega) (by simp only[Lim,Al3];omega) fun oB lB HB wB sB=>?_
  have gB:=sB.box w8.here.own g8 hbw
  simp(disch:=omega) only[gB,hce,go_sem]
  refine goL_range defs 50 (fun x:Own×List Tok=>[]) (fun done rest x H'=>YR H1 .nil w [] true 0 (10+64*bEs done) (100+q.length+m.length+512*bEs done) (R3&&done.all zr) (tRt q m++done.flatMap tE) H' x.1 x.2∧H' b=some (.cells [.ptr w 0])) (oB,lB) (by simp(disch:=omega) only[go_sem]) ⟨wB.castC (by omega) (by (try simp only[Al2,Al3]);omega) (by rw[hR3];simp[zaY,zbF,zdi,hm0,zY]) (fun _=>by simp[tRt,hm0]),gB⟩ ?_ ?_
  ·rintro⟨o4,l4⟩ H4 J4 ⟨w4,g4⟩ hlt4
   simp only at w4 g4
   have er:zS ⟨defs,q,m⟩=(R3&&defs.all zr):=by rw[hR3,Bool.and_comm];rfl
   have hc4:=w4.here.cell
   have e4:=w4.eq
   rw[← er,Bool.true_and] at hc4 e4
   have hw4:=w4.wt
   simp(disch:=omega) only[hce,hlt4,g4,hc4,go_sem]
   exact hQ _ _ _ Heap.emp [_,_] nofun rfl (Low.of_sub nofun) ⟨rfl,l4,rfl,by simp only[yG,yV] at hw4 ⊢;omega,fun hr=>by have:=e4 hr;rw[zbH] at this;rw[this];rfl⟩
  ·rintro done x rest ⟨o4,l4⟩ H4 J4 hd hlt4 hlt5 ⟨w4,g4⟩ hJ4
   simp only at w4 g4
   have hg:=Zk hd
   have hbm:=Zh done x rest
   rw[← hd] at hbm
   have hwx:=hw x (by rw[hd];simp)
   have hfw:=zfT x hwx (by simp only[Lim];omega)
   obtain⟨k,nm,faces,flds,parts,ps⟩:=x
   rw[ZE] at hg hfw
   simp(disch:=omega) only[hce,hlt4,hg,go_sem]
   refine goA_intro fun b6 hb6=>?_
   have h6:b6≠b:=fun e=>by subst e;rw[g4] at hb6;cases hb6
   have w5:=w4.alloc (x:=.cells [.int .i64 k,.str nm,.sl .no 1 (cT faces),.sl .no 6 (cLs flds),.sl .no 1 (cT parts),.sl .no 10 (cWs ps)]) hb6
   have g5:(H4.upd b6 (.cells [.int .i64 k,.str nm,.sl .no 1 (cT faces),.sl .no 6 (cLs flds),.sl .no 1 (cT parts),.sl .no 10 (cWs ps)])) b=some (.cells [.ptr w 0]):=by rw[upd_ne (Ne.symm h6)];exact g4
   simp(disch:=omega) only[g5,go_sem]
   refine yn hfw w5 (by simp only[Lim,Al3];omega) fun o6 l6 H6 w6 s6=>?_
   have g6:=s6.box w5.here.own g5 hbw
   simp(disch:=omega) only[wrap64,go_sem]
   exact goJ (hJ4 (o6,l6) H6 ⟨w6.cast (by rw[Z1];omega) (by rw[Z1];omega) (by simp[zY]) (by simp),g6⟩) (by simp(disch:=omega) only[go_sem])
theorem zfz (s:SchD) (hw:YS s) (hb:64*yV s+64≤Lim):Pure Tryz.prog 28 [.agg (y8 s)] (.bool (zS s)):=by
 refine Pure.go ir28 ck28 (Al4 _) fun KP Q hQ=>?_
 have ed:y8 s=[.sl .no 6 (cEs s.defs),.str s.q,.str s.m]:=rfl
 have hT:=zcx s hw hb
 rw[ed] at hT ⊢
 simp(disch:=omega) only[ir28,go_sem]
 refine goK_ret hT fun v H1 ⟨hH,L,hv,hL,hr⟩=>?_
 subst hv;subst hH
 simp(disch:=omega) only[go_sem]
 exact hQ _ _ _ _ nofun rfl (by simp[tupOf,envOf,AV.strip,AV.strip1])
noncomputable def ya (s:SchD):List UInt8×Bool:=if zS s then Ys s else ([],false)
theorem ze9 (s:SchD) (hw:YS s) (hb:8192*yV s+8192≤Lim):Pure Tryz.prog 23 [.agg (y8 s)] (.tup [.str (ya s).1,.bool (ya s).2]):=by
 refine Pure.go ir23 ck23 (Al4 _) fun KP Q hQ=>?_
 have ed:y8 s=[.sl .no 6 (cEs s.defs),.str s.q,.str s.m]:=rfl
 have hT:=zcx s hw (by simp only[Lim] at hb ⊢;omega)
 rw[ed] at hT ⊢
 simp(disch:=omega) only[ir23,go_sem]
 refine goK_ret hT fun v H1 ⟨hH,L,hv,hL,hrL⟩=>?_
 subst hv;subst hH
 have hp:=zeJ L (by simp only[Lim] at hb ⊢;omega)
 simp(disch:=omega) only[go_sem]
 refine goK_pure hp ?_
 cases hr:zS s with
 | false =>
  simp(disch:=omega) only[go_sem]
  exact hQ _ _ _ _ nofun rfl (by simp[tupOf,envOf,AV.strip,AV.strip1,ya,hr])
 | true =>
  obtain rfl:=hrL hr
  cases h2:(zG (y1 s)).2 with
  | false =>
   simp(disch:=omega) only[go_sem]
   exact hQ _ _ _ _ nofun rfl (by simp[tupOf,envOf,AV.strip,AV.strip1,ya,hr,Ys,h2])
  | true =>
   by_cases hl:(zG (y1 s)).1.length≤8192
   ·have hl':¬ ((8192:Int)<((zG (y1 s)).1.length:Int)):=by omega
    simp(disch:=omega) only[hl',go_sem]
    exact hQ _ _ _ _ nofun rfl (by simp[tupOf,envOf,AV.strip,AV.strip1,ya,hr,Ys,h2,hl])
   ·have hl':((8192:Int)<((zG (y1 s)).1.length:Int))=True:=eq_true (by omega)
    simp(disch:=omega) only[hl',go_sem]
    exact hQ _ _ _ _ nofun rfl (by simp[tupOf,envOf,AV.strip,AV.strip1,ya,hr,Ys,h2,hl])
end Go.Proofs.YtaielcdfcgpbiaaGreatDoor
set_option maxHeartbeats 1600000
namespace Go.Proofs.YtaielcdfcgpbiaaGreatDoor
open Go.Ab
noncomputable def z6 (x:DefD):Bool :=
 if x.k=1∨x.k=2 then decide (x.flds.length≠0)&&(decide (x.parts.length=0)&&decide (x.ps.length=0))
 else if x.k=3 then decide (x.parts.length≠0)&&(decide (x.faces.length=0)&&(decide (x.flds.length=0)&&decide (x.ps.length=0)))
 else if x.k=4 then decide (x.parts.length≠0)&&(decide (x.faces.length=0)&&(decide (x.flds.length=0)&&(decide (x.ps.length=0)&&x.parts.all yf)))
 else if x.k=5 then decide (x.ps.length≠0)&&(decide (x.faces.length=0)&&(decide (x.flds.length=0)&&decide (x.parts.length=0)))
 else false
theorem zc1 (x:DefD):zr x=(Z5 x&&z6 x):=by
 cases h3:Z5 x with
 | false =>
  cases h:zr x with
  | false=>rfl
  | true=>rw[zci h] at h3;cases h3
 | true =>
  simp only[Z5,Al0] at h3
  obtain⟨h0,h1,h2,h4,h5⟩:=h3
  simp only[zr,z6,h0,h1,h2,h4,h5,Bool.true_and]
  split
  ·rfl
  split
  ·rfl
  split
  ·cases x.parts.all yf<;>simp
  ·rfl
theorem zdA:∀ l:List (List UInt8),l.all yf=(!Zr [116,114,117,101] l&&(!Zr [102,97,108,115,101] l&&!Zr [110,117,108,108] l))
 | []=>rfl
 | x::r=>by
  have ih:=zdA r
  simp only[List.all_cons,ih,yf,Zr]
  by_cases h1:x=[116,114,117,101]
  ·simp[h1]
  by_cases h2:x=[102,97,108,115,101]
  ·simp[h2]
  by_cases h3:x=[110,117,108,108]
  ·simp[h3]
  ·simp[h1,h2,h3]
theorem ZH (n:Nat):((((n:Int)=0)=True)∧(((0:Int)<(n:Int))=False)∧n=0)∨((((n:Int)=0)=False)∧(((0:Int)<(n:Int))=True)∧n≠0):=by
 by_cases h:n=0
 ·left;exact⟨eq_true (by omega),eq_false (by omega),h⟩
 ·right;exact⟨eq_false (by omega),eq_true (by omega),h⟩
theorem zej (x:DefD) (hm:bE x≤Lim):Pure Tryz.prog 70 [.agg (cE x)] (.bool (zr x)):=by
 refine Pure.go ir70 ck70 (Al4 _) fun KP Q hQ=>?_
 rw[zc1] at hQ
 obtain⟨k,nm,faces,flds,parts,ps⟩:=x
 simp only[bE] at hm
 have h1:=yp faces
 have h2:=yN flds
 have h3:=yp parts
 have h4:=yD ps
 have hfc:=zA faces
 have hfl:=yB flds
 have hfp:=zA parts
 have hfs:=yl ps
 have hm':=hm
 simp only[Lim] at hm'
 rw[ZE]
 have e3:Z5 ⟨k,nm,faces,flds,parts,ps⟩=(zj nm&&(faces.all zj&&(flds.all zR&&(parts.all zj&&ps.all zM)))):=rfl
 rw[e3] at hQ
 simp(disch:=omega) only[ir70,hfc,hfl,hfp,hfs,go_sem]
 refine goK_pure (Zp nm (by simp only[Lim];omega)) ?_
 cases n1:zj nm with
 | false =>
  simp(disch:=omega) only[go_sem]
  exact hQ _ _ _ _ nofun rfl (by simp[tupOf,envOf,AV.strip,AV.strip1,n1])
 | true =>
 simp(disch:=omega) only[go_sem]
 refine goK_pure (zbw faces (by simp only[Lim];omega)) ?_
 cases n2:faces.all zj with
 | false =>
  simp(disch:=omega) only[go_sem]
  exact hQ _ _ _ _ nofun rfl (by simp[tupOf,envOf,AV.strip,AV.strip1,n1,n2])
 | true =>
 simp(disch:=omega) only[go_sem]
 refine goK_pure (zd4 flds (by simp only[Lim];omega)) ?_
 cases n3:flds.all zR with
 | false =>
  simp(disch:=omega) only[go_sem]
  exact hQ _ _ _ _ nofun rfl (by simp[tupOf,envOf,AV.strip,AV.strip1,n1,n2,n3])
 | true =>
 simp(disch:=omega) only[go_sem]
 refine goK_pure (zbw parts (by simp only[Lim];omega)) ?_
 cases n4:parts.all zj with
 | false =>
  simp(disch:=omega) only[go_sem]
  exact hQ _ _ _ _ nofun rfl (by simp[tupOf,envOf,AV.strip,AV.strip1,n1,n2,n3,n4])
 | true =>
 simp(disch:=omega) only[go_sem]
 refine goK_pure (zbn ps (by simp only[Lim];omega)) ?_
 cases n5:ps.all zM with
 | false =>
  simp(disch:=omega) only[go_sem]
  exact hQ _ _ _ _ nofun rfl (by simp[tupOf,envOf,AV.strip,AV.strip1,n1,n2,n3,n4,n5])
 | true =>
 rw[n1,n2,n3,n4,n5,Bool.true_and,Bool.true_and,Bool.true_and,Bool.true_and,Bool.true_and] at hQ
 by_cases k1:k=1
 ·have k1':=eq_true k1
  rcases ZH flds.length with ⟨a1,b1,c1⟩|⟨a1,b1,c1⟩<;>rcases ZH parts.length with ⟨a2,b2,c2⟩|⟨a2,b2,c2⟩<;>rcases ZH ps.length with ⟨a3,b3,c3⟩|⟨a3,b3,c3⟩ <;>
  ·simp(disch:=omega) only[k1',b1,a2,a3,go_sem]
   exact hQ _ _ _ _ nofun rfl (by simp[tupOf,envOf,AV.strip,AV.strip1,z6,k1,c1,c2,c3])
 by_cases k2:k=2
 ·have k2':=eq_true k2
  rcases ZH flds.length with ⟨a1,b1,c1⟩|⟨a1,b1,c1⟩<;>rcases ZH parts.length with ⟨a2,b2,c2⟩|⟨a2,b2,c2⟩<;>rcases ZH ps.length with ⟨a3,b3,c3⟩|⟨a3,b3,c3⟩ <;>
  ·simp(disch:=omega) only[k1,k2',b1,a2,a3,go_sem]
   exact hQ _ _ _ _ nofun rfl (by simp[tupOf,envOf,AV.strip,AV.strip1,z6,k2,c1,c2,c3])
 by_cases k3:k=3
 ·have k3':=eq_true k3
  rcases ZH parts.length with ⟨a1,b1,c1⟩|⟨a1,b1,c1⟩<;>rcases ZH faces.length with ⟨a2,b2,c2⟩|⟨a2,b2,c2⟩<;>rcases ZH flds.length with ⟨a3,b3,c3⟩|⟨a3,b3,c3⟩<;>rcases ZH ps.length with ⟨a4,b4,c4⟩|⟨a4,b4,c4⟩ <;>
  ·simp(disch:=omega) only[k1,k2,k3',b1,a2,a3,a4,go_sem]
   exact hQ _ _ _ _ nofun rfl (by simp[tupOf,envOf,AV.strip,AV.strip1,z6,k3,c1,c2,c3,c4])
 by_cases k5:k=5
 ·have k5':=eq_true k5
  have k4:¬ k=4:=by omega
  rcases ZH ps.length with ⟨a1,b1,c1⟩|⟨a1,b1,c1⟩<;>rcases ZH faces.length with ⟨a2,b2,c2⟩|⟨a2,b2,c2⟩<;>rcases ZH flds.length with ⟨a3,b3,c3⟩|⟨a3,b3,c3⟩<;>rcases ZH parts.length with ⟨a4,b4,c4⟩|⟨a4,b4,c4⟩ <;>
  ·simp(disch:=omega) only[k1,k2,k3,k4,k5',b1,a2,a3,a4,go_sem]
   exact hQ _ _ _ _ nofun rfl (by simp[tupOf,envOf,AV.strip,AV.strip1,z6,k5,c1,c2,c3,c4])
 by_cases k4:k=4
 ·have k4':=eq_true k4
  rcases ZH parts.length with ⟨a1,b1,c1⟩|⟨a1,b1,c1⟩
  ·simp(disch:=omega) only[k1,k2,k3,k4',b1,go_sem]
   exact hQ _ _ _ _ nofun rfl (by simp[tupOf,envOf,AV.strip,AV.strip1,z6,k4,c1])
  rcases ZH faces.length with ⟨a2,b2,c2⟩|⟨a2,b2,c2⟩
  case inr =>
   simp(disch:=omega) only[k1,k2,k3,k4',b1,a2,go_sem]
   exact hQ _ _ _ _ nofun rfl (by simp[tupOf,envOf,AV.strip,AV.strip1,z6,k4,c1,c2])
  rcases ZH flds.length with ⟨a3,b3,c3⟩|⟨a3,b3,c3⟩
  case inr =>
   simp(disch:=omega) only[k1,k2,k3,k4',b1,a2,a3,go_sem]
   exact hQ _ _ _ _ nofun rfl (by simp[tupOf,envOf,AV.strip,AV.strip1,z6,k4,c1,c2,c3])
  rcases ZH ps.length with ⟨a4,b4,c4⟩|⟨a4,b4,c4⟩
  case inr =>
   simp(disch:=omega) only[k1,k2,k3,k4',b1,a2,a3,a4,go_sem]
   exact hQ _ _ _ _ nofun rfl (by simp[tupOf,envOf,AV.strip,AV.strip1,z6,k4,c1,c2,c3,c4])
  have hl:=zdA parts
  simp(disch:=omega) only[k1,k2,k3,k4',b1,a2,a3,a4,go_sem]
  refine goK_pure (zeu parts [116,114,117,101] (by simp only[Lim];omega)) ?_
  cases t1:Zr [116,114,117,101] parts with
  | true =>
   simp(disch:=omega) only[go_sem]
   exact hQ _ _ _ _ nofun rfl (by simp[tupOf,envOf,AV.strip,AV.strip1,z6,k4,c1,c2,c3,c4,hl,t1])
  | false =>
  simp(disch:=omega) only[go_sem]
  refine goK_pure (zeu parts [102,97,108,115,101] (by simp only[Lim];omega)) ?_
  cases t2:Zr [102,97,108,115,101] parts with
  | true =>
   simp(disch:=omega) only[go_sem]
   exact hQ _ _ _ _ nofun rfl (by simp[tupOf,envOf,AV.strip,AV.strip1,z6,k4,c1,c2,c3,c4,hl,t1,t2])
  | false =>
  simp(disch:=omega) only[go_sem]
  refine goK_pure (zeu parts [110,117,108,108] (by simp only[Lim];omega)) ?_
  cases t3:Zr [110,117,108,108] parts with
  | true =>
   simp(disch:=omega) only[go_sem]
   exact hQ _ _ _ _ nofun rfl (by simp[tupOf,envOf,AV.strip,AV.strip1,z6,k4,c1,c2,c3,c4,hl,t1,t2,t3])
  | false =>
   simp(disch:=omega) only[go_sem]
   exact hQ _ _ _ _ nofun rfl (by simp[tupOf,envOf,AV.strip,AV.strip1,z6,k4,c1,c2,c3,c4,hl,t1,t2,t3])
 ·simp(disch:=omega) only[k1,k2,k3,k4,k5,go_sem]
  exact hQ _ _ _ _ nofun rfl (by simp[tupOf,envOf,AV.strip,AV.strip1,z6,k1,k2,k3,k4,k5])
end Go.Proofs.YtaielcdfcgpbiaaGreatDoor
set_option maxHeartbeats 1600000
namespace Go.Proofs.YtaielcdfcgpbiaaGreatDoor
open Go.Ab
theorem zaK (s:SchD) (hm:yV s≤Lim):Pure Tryz.prog 29 [.agg (y8 s)] (.bool (zS s)):=by
 refine Pure.go ir29 ck29 (Al4 _) fun KP Q hQ=>?_
 obtain⟨defs,q,m⟩:=s
 simp only[yV] at hm
 have ed:y8 ⟨defs,q,m⟩=[.sl .no 6 (cEs defs),.str q,.str m]:=rfl
 have er:zS ⟨defs,q,m⟩=(defs.all zr&&(zj q&&(decide (m=[])||zj m))):=rfl
 have hcl:=ZB defs
 have hlf:=ZV defs
 have hl':=hm
 simp only[Lim] at hl'
 rw[ed]
 rw[er] at hQ
 simp(disch:=omega) only[ir29,hcl,go_sem]
 refine goL_range defs 3 (fun x:Unit=>[]) (fun done rest x H=>defs.all zr=rest.all zr) () (by simp(disch:=omega) only[go_sem]) rfl ?_ ?_
 ·rintro _ H J hx hlt
  have e:defs.all zr=true:=hx
  rw[e,Bool.true_and] at hQ
  simp(disch:=omega) only[hcl,hlt,go_sem]
  refine goK_pure (Zp q (by simp only[Lim];omega)) ?_
  cases n1:zj q with
  | false =>
   simp(disch:=omega) only[go_sem]
   exact hQ _ _ _ _ nofun rfl (by simp[tupOf,envOf,AV.strip,AV.strip1,n1])
  | true =>
  by_cases hm0:m=[]
  ·have hm1:=eq_true hm0
   simp(disch:=omega) only[hm1,go_sem]
   exact hQ _ _ _ _ nofun rfl (by simp[tupOf,envOf,AV.strip,AV.strip1,n1,hm0])
  ·simp(disch:=omega) only[hm0,go_sem]
   refine goK_pure (Zp m (by simp only[Lim];omega)) ?_
   cases n2:zj m with
   | false =>
    simp(disch:=omega) only[go_sem]
    exact hQ _ _ _ _ nofun rfl (by simp[tupOf,envOf,AV.strip,AV.strip1,n1,hm0,n2])
   | true =>
    simp(disch:=omega) only[go_sem]
    exact hQ _ _ _ _ nofun rfl (by simp[tupOf,envOf,AV.strip,AV.strip1,n1,hm0,n2])
 ·rintro done x rest _ H J hd hlt hlt' hx hJ
  have hg:=Zk hd
  have hbm:=Zh done x rest
  rw[← hd] at hbm
  have hst:defs.all zr=(zr x&&rest.all zr):=by rw[hx];rfl
  have hf:=zej x (by simp only[Lim];omega)
  have h6:(cE x).length=6:=rfl
  have t6:(cE x).take 6=cE x:=rfl
  simp(disch:=omega) only[hcl,hlt,hg,h6,t6,go_sem]
  refine goK_pure hf ?_
  cases hn:zr x with
  | false =>
   simp(disch:=omega) only[go_sem]
   exact hQ _ _ _ _ nofun rfl (by simp[tupOf,envOf,AV.strip,AV.strip1,hst,hn])
  | true =>
   simp(disch:=omega) only[wrap64,go_sem]
   exact goJ (hJ () _ (by rw[hst,hn,Bool.true_and])) (by simp(disch:=omega) only[go_sem])
theorem zbL {P:Program} {f:FuncId} {o:Own} {sz:Nat} {xs:List (List AV)} {r:AV} (h:Pure P f [.sl .no sz xs] r):Pure P f [.sl o sz xs] r :=
 fun γ w vs ht hs hv=>h γ w vs ht hs (by
  cases vs with
  | nil=>exact absurd hv.1 (by simp)
  | cons v r =>
   cases r with
   | nil=>exact RepAll.cons (hv.2 0 _ v rfl rfl).strip1 RepAll.nil
   | cons _ _=>exact absurd hv.1 (by simp))
theorem YU (s:SchD) (hr:zS s=true):ya s=(if (zG (y1 s)).2&&decide ((zG (y1 s)).1.length≤8192) then (zG (y1 s)).1 else [],(zG (y1 s)).2&&decide ((zG (y1 s)).1.length≤8192)):=by
 unfold ya Ys
 rw[if_pos hr]
 cases (zG (y1 s)).2&&decide ((zG (y1 s)).1.length≤8192)<;>rfl
theorem zdP (s:SchD) (hwf:YS s) (hb:16384*yV s+8192≤Lim):Pure Tryz.prog 27 [.agg (y8 s)] (.tup [.str (ya s).1,.bool (ya s).2]):=by
 refine Pure.go ir27 ck27 (Al4 _) fun KP Q hQ=>?_
 have hR:=zaK s (by simp only[Lim] at hb ⊢;omega)
 have ed:y8 s=[.sl .no 6 (cEs s.defs),.str s.q,.str s.m]:=rfl
 cases hr:zS s with
 | false =>
  have e2:ya s=([],false):=by simp[ya,hr]
  rw[hr] at hR
  rw[e2] at hQ
  rw[ed] at hR ⊢
  simp(disch:=omega) only[ir27,go_sem]
  refine goK_pure hR ?_
  simp(disch:=omega) only[go_sem]
  exact hQ _ _ _ _ nofun rfl (by simp[tupOf,envOf,AV.strip,AV.strip1])
 | true =>
  have hwt:=zeh s hr hwf
  have hT:=zft (y1 s) (by simp only[Lim] at hb ⊢;omega)
  have hle:4*(y1 s).length≤256*yV s+64:=Nat.le_trans (zcg _) hwt
  have hre:s.defs.all zr=true:=by simp only[zS,Al0] at hr;exact hr.1
  rw[hr] at hR
  obtain⟨defs,q,m⟩:=s
  have hlen:(y1 ⟨defs,q,m⟩).length=(tRt q m).length+(defs.flatMap tE).length:=by simp[y1]
  have hrt:(tRt q m).length=6+(if m=[] then 0 else 3):=by unfold tRt;split<;>simp
  have hb':=hb
  simp only[yV,Lim] at hb' hle
  have hce:=ZB defs
  have hlf:=ZV defs
  simp only at ed hre
  rw[hlen,hrt] at hle
  rw[ed] at hR ⊢
  simp(disch:=omega) only[ir27,go_sem]
  refine goK_pure hR ?_
  simp(disch:=omega) only[go_sem]
  refine goA_intro fun w hw=>?_
  have w0:=VR.refl (zeN (H:=Heap.emp) (b:=w))
  generalize Heap.emp.upd w (.cells [.sl .nil 2 []])=H0 at w0
  simp(disch:=omega) only[go_sem]
  refine zm (wR [115,99,104,101,109,97]) w0 (by simp only[Lim,Al2,Al3,Al5];omega) fun o1 H1 w1 _=>?_
  simp(disch:=omega) only[go_sem]
  refine zm (pR [123]) w1 (by simp only[Lim,Al2,Al3,Al5];omega) fun o2 H2 w2 _=>?_
  simp(disch:=omega) only[go_sem]
  refine zm (wR [113,117,101,114,121]) w2 (by simp only[Lim,Al2,Al3,Al5];omega) fun o3 H3 w3 _=>?_
  simp(disch:=omega) only[go_sem]
  refine zm (pR [58]) w3 (by simp only[Lim,Al2,Al3,Al5];omega) fun o4 H4 w4 _=>?_
  simp(disch:=omega) only[go_sem]
  refine zm (wR q) w4 (by simp only[Lim,Al2,Al3,Al5];omega) fun o5 H5 w5 _=>?_
  by_cases hm0:m=[]
  ·have hm1:=eq_true hm0
   rw[if_pos hm0] at hle hrt
   simp(disch:=omega) only[hm1,go_sem]
   refine zm (pR [125]) w5 (by simp only[Lim,Al2,Al3,Al5];omega) fun oB HB wB _=>?_
   simp(disch:=omega) only[hce,go_sem]
   refine goL_range defs 5 (fun x:Own=>[]) (fun done rest x H'=>VR H0 .nil w [] (tRt q m++done.flatMap tE) H' x) oB (by simp(disch:=omega) only[go_sem]) (wB.cast (by simp[tRt,hm0])) ?_ ?_
   ·rintro o4 H4 J4 w4 hlt4
    have hc4:=w4.here.cell
    simp only[zbH] at hc4
    have e4:tRt q m++defs.flatMap tE=y1 ⟨defs,q,m⟩:=rfl
    rw[e4] at hc4
    simp(disch:=omega) only[hce,hlt4,hc4,go_sem]
    refine goK_pure (zbL hT) ?_
    rw[YU _ hr] at hQ
    simp(disch:=omega) only[go_sem]
    exact hQ _ _ _ _ nofun rfl (by simp[tupOf,envOf,AV.strip,AV.strip1])
   ·rintro done x rest o4 H4 J4 hd hlt4 hlt5 w4 hJ4
    have hg:=Zk hd
    have hbm:=Zh done x rest
    rw[← hd] at hbm
    have hmx:x∈defs:=by rw[hd];simp
    have hfl:(defs.flatMap tE).length=(done.flatMap tE).length+(tE x).length+(rest.flatMap tE).length:=by rw[hd,ZJ]
    have h6:(cE x).length=6:=rfl
    have t6:(cE x).take 6=cE x:=rfl
    simp(disch:=omega) only[hce,hlt4,hg,h6,t6,go_sem]
    refine zm (zeV x (hwf x hmx) (yx.1 hre x hmx) (by simp only[Lim];omega)) w4 (by simp only[Lim,Al3,Al5];omega) fun o5 H5 w5 _=>?_
    simp(disch:=omega) only[wrap64,go_sem]
    exact goJ (hJ4 o5 H5 (w5.cast (by simp))) (by simp(disch:=omega) only[go_sem])
  ·rw[if_neg hm0] at hle hrt
   simp(disch:=omega) only[hm0,go_sem]
   refine zm (wR [109,117,116,97,116,105,111,110]) w5 (by simp only[Lim,Al2,Al3,Al5];omega) fun o6 H6 w6 _=>?_
   simp(disch:=omega) only[go_sem]
   refine zm (pR [58]) w6 (by simp only[Lim,Al2,Al3,Al5];omega) fun o7 H7 w7 _=>?_
   simp(disch:=omega) only[go_sem]
   refine zm (wR m) w7 (by simp only[Lim,Al2,Al3,Al5];omega) fun o8 H8 w8 _=>?_
   simp(disch:=omega) only[go_sem]
   refine zm (pR [125]) w8 (by simp only[Lim,Al2,Al3,Al5];omega) fun oB HB wB _=>?_
   simp(disch:=omega) only[hce,go_sem]
   refine goL_range defs 5 (fun x:Own=>[]) (fun done rest x H'=>VR H0 .nil w [] (tRt q m++done.flatMap tE) H' x) oB (by simp(disch:=omega) only[go_sem]) (wB.cast (by simp[tRt,hm0])) ?_ ?_
   ·rintro o4 H4 J4 w4 hlt4
    have hc4:=w4.here.cell
    simp only[zbH] at hc4
    have e4:tRt q m++defs.flatMap tE=y1 ⟨defs,q,m⟩:=rfl
    rw[e4] at hc4
    simp(disch:=omega) only[hce,hlt4,hc4,go_sem]
    refine goK_pure (zbL hT) ?_
    rw[YU _ hr] at hQ
    simp(disch:=omega) only[go_sem]
    exact hQ _ _ _ _ nofun rfl (by simp[tupOf,envOf,AV.strip,AV.strip1])
   ·rintro done x rest o4 H4 J4 hd hlt4 hlt5 w4 hJ4
    have hg:=Zk hd
    have hbm:=Zh done x rest
    rw[← hd] at hbm
    have hmx:x∈defs:=by rw[hd];simp
    have hfl:(defs.flatMap tE).length=(done.flatMap tE).length+(tE x).length+(rest.flatMap tE).length:=by rw[hd,ZJ]
    have h6:(cE x).length=6:=rfl
    have t6:(cE x).take 6=cE x:=rfl
    simp(disch:=omega) only[hce,hlt4,hg,h6,t6,go_sem]
    refine zm (zeV x (hwf x hmx) (yx.1 hre x hmx) (by simp only[Lim];omega)) w4 (by simp only[Lim,Al3,Al5];omega) fun o5 H5 w5 _=>?_
    simp(disch:=omega) only[wrap64,go_sem]
    exact goJ (hJ4 o5 H5 (w5.cast (by simp))) (by simp(disch:=omega) only[go_sem])
theorem zeg (m:List Mem) (hm:bMs m≤Lim):Pure Tryz.prog 136 [.sl .no 6 (cMs m)] (.sl .no 6 (cMs m)) :=
 zdl m hm fun s v hx=>copyV v (by
  obtain⟨a,b,hd⟩:=List.append_of_mem hx
  have:=zW a (.mk s v) b
  rw[← hd] at this
  simp only[bM] at this
  omega)
theorem zfr (l:List DirD) (hm:bDs l≤Lim):Pure Tryz.prog 65 [.sl .no 2 (cDs l)] (.sl .no 2 (cDs l)):=by
 refine Pure.go ir65 ck65 (Al4 _) fun KP Q hQ=>?_
 have h1:=Zf l
 have hml:=ZY l
 have hm':=hm
 simp only[Lim] at hm'
 simp(disch:=omega) only[ir65,go_sem]
 refine goL_range l 4 (fun x:Own×List DirD=>[(3,.sl x.1 2 (cDs x.2))]) (fun done rest x H=>x.2=done∧OwnF Heap.emp H x.1 done.length 2) (.nil,[]) (by simp(disch:=omega) only[cDs,go_sem]) ⟨rfl,OwnF.nil _ _⟩ ?_ ?_
 ·rintro⟨o,done⟩ H J ⟨rfl,ho⟩ hlt
  simp(disch:=omega) only[h1,hlt,go_sem]
  exact hQ _ _ _ _ nofun rfl (by simp[tupOf,envOf,AV.strip,AV.strip1])
 ·rintro done x rest ⟨o,ds⟩ H J hd hlt hlt' ⟨hds,ho⟩ hJ
  simp only at hds ho hJ ⊢
  obtain rfl:done=ds:=hds.symm
  have hg:=Zv hd
  have hbm:=Z7 done x rest
  rw[← hd] at hbm
  have h2:=Zf done
  obtain⟨s,v⟩:=x
  simp only[bD] at hbm
  have ec:cD ⟨s,v⟩=[.str s,.sl .no 6 (cMs v)]:=rfl
  rw[ec] at hg
  simp(disch:=omega) only[zf,zc,za,ze,zd,zb,zi,h1,hlt,hg,go_sem]
  refine goK_pure (zeg v (by simp only[Lim];omega)) ?_
  simp(disch:=omega) only[zf,zc,za,ze,zd,zb,zi,h1,hlt,hg,go_sem]
  refine goP_ownS (by rw[h2];exact ho.own) ?_ ?_ fun o' H' hs=>?_
  ·simp only[h2,Al2,Al3];omega
  ·simp only[h2,Al2,Al3,maxLen];omega
  rw[h2] at hs
  simp(disch:=omega) only[wrap64,go_sem]
  refine goJ (hJ (o',done++[⟨s,v⟩]) H' ⟨rfl,(ho.stepS hs).cast (by simp)⟩) (by simp(disch:=omega) only[cDs,List.map_append,List.map_cons,cD,AV.strip1,go_sem])
section
variable {bo:Nat} {H H':Heap} {a:List OpD} {c:List FragD} {o1 o2 o':Own}
theorem zdS {o:Own} {n sz:Nat} (h:Owned H o n sz) (hk:∀ b x,H b=some x→H' b=some x):Owned H' o n sz:=by
 cases o with
 | tip c d=>have h5:H c=some _:=h;exact hk c _ h5
 | no=>exact h
 | nil=>exact h
 | full=>exact h
end
theorem zc7 {H0 H:Heap} {o:Own} {n sz b:Nat} {x:AObj} (h:OwnF H0 H o n sz) (hb:H b=none):OwnF H0 (H.upd b x) o n sz :=
 ⟨fun c y hc=>by rw[upd_ne (fun e=>by subst e;have:=h.sub _ _ hc;rw[hb] at this;cases this)];exact h.sub c y hc,h.own.upd hb,h.new⟩
structure SB (q m:List UInt8) (bo:Nat) (H:Heap) (a:List DefD) (o:Own):Prop where
 box:H bo=some (.cells [.sl o 6 (cEs a),.str q,.str m])
 own:Owned H o a.length 6
section
variable {q m:List UInt8} {bo:Nat} {H H':Heap} {a:List DefD} {o o':Own}
theorem SB.new {b:Nat} {x:AObj} (h:SB q m bo H a o) (hb:H b=none):SB q m bo (H.upd b x) a o :=
 ⟨by rw[upd_ne (fun e=>by have:=h.box;rw[e,hb] at this;cases this)];exact h.box,h.own.upd hb⟩
theorem SB.kept (h:SB q m bo H a o) (hk:∀ b x,H b=some x→H' b=some x):SB q m bo H' a o:=⟨hk _ _ h.box,zdS h.own hk⟩
theorem SB.cell {b:Nat} {cs:List AV} (h:SB q m bo H a o) (hb:H b=some (.cells cs)) (hn:bo≠b) (x:AObj):SB q m bo (H.upd b x) a o :=
 ⟨by rw[upd_ne hn];exact h.box,Yo h.own hb⟩
theorem SB.def {n:Nat} {xs:List (List AV)} (h:SB q m bo H a o) (x:DefD) (hs:OwnS H o H' o' n 6) (hn:n=(a++[x]).length) (hx:xs=cEs (a++[x])) :
  SB q m bo (H'.upd bo (.cells [.sl o' 6 xs,.str q,.str m])) (a++[x]) o':=by
 have hb:=ZM h.own h.box hs.kept
 subst hn;subst hx
 exact⟨upd_same ..,Yo hs.own hb⟩
end
theorem zdo (l:List VarD) (hm:bWs l≤1048576):Pure Tryz.prog 64 [.sl .no 10 (cWs l)] (.sl .no 10 (cWs l)):=by
 refine Pure.go ir64 ck64 (Al4 _) fun KP Q hQ=>?_
 have h1:=yl l
 have hml:=yD l
 simp(disch:=omega) only[ir64,go_sem]
 refine goP_ownS (o:=.nil) rfl (by simp only[h1,Al3];omega) (by simp only[h1,Al3,maxLen];omega) fun o3 H3 hs3=>?_
 simp(disch:=omega) only[zbH,zc2,go_sem]
 exact hQ _ _ _ _ nofun rfl (by simp[tupOf,envOf,AV.strip,AV.strip1])
theorem zep (s:SchD) (hb:yV s≤1048576):Pure Tryz.prog 26 [.agg (y8 s)] (.agg (y8 s)):=by
 refine Pure.go ir26 ck26 (Al4 _) fun KP Q hQ=>?_
 obtain⟨defs,q,m⟩:=s
 have ed:y8 ⟨defs,q,m⟩=[.sl .no 6 (cEs defs),.str q,.str m]:=rfl
 rw[ed] at hQ ⊢
 simp only[yV] at hb
 have hld:=ZV defs
 have hcd:=ZB defs
 simp(disch:=omega) only[ir26,go_sem]
 refine goA_intro fun b2 hb2=>?_
 simp(disch:=omega) only[go_sem]
 refine goA_intro fun b3 hb3=>?_
 have h32:b3≠b2:=fun e=>by subst e;rw[upd_same] at hb3;cases hb3
 simp(disch:=omega) only[go_sem]
 obtain⟨H0,hH0⟩:∃ H0,H0=((Heap.emp).upd b2 (.cells [.sl .nil 6 [],.str [],.str []])).upd b3 (.cells [.sl .nil 6 [],.str q,.str m]):=⟨_,rfl⟩
 have D0:SB q m b3 H0 [] .nil:=⟨by rw[hH0,upd_same];rfl,rfl⟩
 have g20:H0 b2=some (.cells [.sl .nil 6 [],.str [],.str []]):=by rw[hH0,upd_ne (Ne.symm h32),upd_same]
 try simp only[upd_upd]
 rw[← hH0]
 clear hH0
 refine goL_range defs 4 (fun x:Own=>[]) (fun done rest x H=>SB q m b3 H done x∧H b2=some (.cells [.sl .nil 6 [],.str [],.str []])) .nil (by simp(disch:=omega) only[go_sem]) ⟨D0,g20⟩ ?_ ?_
 ·rintro o1 H1 J1 ⟨D1,g21⟩ hlt1
  have gb:=D1.box
  simp(disch:=omega) only[hcd,hlt1,gb,g21,h32,Ne.symm h32,go_sem]
  exact hQ _ _ _ [.agg [.sl o1 6 (cEs defs),.str q,.str m]] nofun (by simp(disch:=omega) only[ir26,resvs,resv,go_sem]) (by simp[tupOf,envOf,AV.strip,AV.strip1])
 ·rintro done x rest o1 H1 J1 hd hlt1 hlt1' ⟨D1,g21⟩ hJ
  have hg:=Zk hd
  have hbm:=Zh done x rest
  rw[← hd] at hbm
  have hcn:=ZB done
  have hdl:=congrArg List.length hd
  simp only[Al5,Al2] at hdl
  obtain⟨k,nm,faces,flds,parts,ps⟩:=x
  simp only[bE] at hbm
  have hfl:=yB flds
  have hfb:=yN flds
  have htf:=zA faces
  have hbf:=yp faces
  have htp:=zA parts
  have hbp:=yp parts
  rw[ZE] at hg
  simp(disch:=omega) only[hcd,hlt1,hg,go_sem]
  refine goA_intro fun b5 hb5=>?_
  have h53:b5≠b3:=fun e=>by subst e;rw[D1.box] at hb5;cases hb5
  have h52:b5≠b2:=fun e=>by subst e;rw[g21] at hb5;cases hb5
  simp(disch:=omega) only[hg,go_sem]
  obtain⟨H2,hH2⟩:∃ H2,H2=H1.upd b5 (.cells [.int .i64 k,.str nm,.sl .no 1 (cT faces),.sl .no 6 (cLs flds),.sl .no 1 (cT parts),.sl .no 10 (cWs ps)]):=⟨_,rfl⟩
  have D2:SB q m b3 H2 done o1:=by rw[hH2];exact D1.new hb5
  have g22:H2 b2=some (.cells [.sl .nil 6 [],.str [],.str []]):=by rw[hH2,upd_ne (Ne.symm h52)];exact g21
  have g25:H2 b5=some (.cells [.int .i64 k,.str nm,.sl .no 1 (cT faces),.sl .no 6 (cLs flds),.sl .no 1 (cT parts),.sl .no 10 (cWs ps)]):=by rw[hH2,upd_same]
  try simp only[upd_upd]
  rw[← hH2]
  clear hH2
  refine goL_range flds 7 (fun x:Own×List FldD=>[(6,.sl x.1 6 (cLs x.2))]) (fun dn rs x H=>x.2=dn∧OwnF H2 H x.1 dn.length 6) (.nil,[]) (by simp(disch:=omega) only[cLs,go_sem]) ⟨rfl,OwnF.nil _ _⟩ ?_ ?_
  ·rintro⟨o4,ds⟩ H4 J4 ⟨rfl,ho4⟩ hlt4
   have D4:=D2.kept ho4.sub
   have g42:=ho4.sub _ _ g22
   have g45:=ho4.sub _ _ g25
   simp(disch:=omega) only[hfl,hlt4,g45,go_sem]
   refine goK_pure (zdo ps (by omega)) ?_
   simp(disch:=omega) only[g45,go_sem]
   have D5:=D4.cell g45 (Ne.symm h53) (.cells [.int .i64 k,.str nm,.sl .no 1 (cT faces),.sl o4 6 (cLs ds),.sl .no 1 (cT parts),.sl .no 10 (cWs ps)])
   obtain⟨H5,hH5⟩:∃ H5,H5=H4.upd b5 (.cells [.int .i64 k,.str nm,.sl .no 1 (cT faces),.sl o4 6 (cLs ds),.sl .no 1 (cT parts),.sl .no 10 (cWs ps)]):=⟨_,rfl⟩
   have g52:H5 b2=some (.cells [.sl .nil 6 [],.str [],.str []]):=by rw[hH5,upd_ne (Ne.symm h52)];exact g42
   have g55:H5 b5=some (.cells [.int .i64 k,.str nm,.sl .no 1 (cT faces),.sl o4 6 (cLs ds),.sl .no 1 (cT parts),.sl .no 10 (cWs ps)]):=by rw[hH5,upd_same]
   try simp only[upd_upd]
   rw[← hH5] at D5 ⊢
   refine goP_ownS (o:=.nil) rfl (by simp only[htf,Al3];omega) (by simp only[htf,Al3,maxLen];omega) fun o6 H6 hs6=>?_
   have kp6:∀ b x,H5 b=some x→H6 b=some x:=fun b x h=>hs6.kept b x h nofun
   have D6:=D5.kept kp6
   have g62:=kp6 _ _ g52
   have g65:=kp6 _ _ g55
   simp(disch:=omega) only[g65,g55,go_sem]
   refine goP_ownS (o:=.nil) rfl (by simp only[htp,Al3];omega) (by simp only[htp,Al3,maxLen];omega) fun o7 H7 hs7=>?_
   have kp7:∀ b x,H6 b=some x→H7 b=some x:=fun b x h=>hs7.kept b x h nofun
   have D7:=D6.kept kp7
   have g72:=kp7 _ _ g62
   have g75:=kp7 _ _ g65
   have gb7:=D7.box
   simp(disch:=omega) only[g75,zbH,zdH,h53,Ne.symm h53,gb7,go_sem]
   have D8:=D7.cell g75 (Ne.symm h53) (.cells [.int .i64 k,.str nm,.sl o6 1 (cT faces),.sl o4 6 (cLs ds),.sl o7 1 (cT parts),.sl .no 10 (cWs ps)])
   have gb8:=D8.box
   refine goP_ownS (by rw[hcn];exact D8.own) (by simp only[hcn,Al2,Al3];omega) (by simp only[hcn,Al2,Al3,maxLen];omega) fun o9 H9 hs9=>?_
   have gb9:=ZM D8.own gb8 hs9.kept
   have g92:=ZM D8.own (show _=some (.cells _) from (upd_ne (Ne.symm h52)).trans g72) hs9.kept
   simp(disch:=omega) only[gb9,wrap64,go_sem]
   refine goJ (hJ o9 _ ⟨D8.def ⟨k,nm,faces,ds,parts,ps⟩ (by simpa[hcn] using hs9) (by simp) (by simp[cEs,ZE,AV.strip1]),by rw[upd_ne (Ne.symm h32)];exact g92⟩) (by simp(disch:=omega) only[go_sem])
  ·rintro dn y rs ⟨o4,ds⟩ H4 J4 hd2 hlt4 hlt4' ⟨hds,ho4⟩ hJ4
   simp only at hds ho4 hJ4 ⊢
   obtain rfl:dn=ds:=hds.symm
   have g45:=ho4.sub _ _ g25
   have hg2:=Zw hd2
   have hbm2:=Zu dn y rs
   rw[← hd2] at hbm2
   have hcd2:=yB dn
   obtain⟨fn,fps,⟨tn,tl,tm⟩,fd⟩:=y
   simp only[bL] at hbm2
   rw[YW] at hg2
   simp(disch:=omega) only[hfl,hlt4,g45,hg2,go_sem]
   refine goA_intro fun b8 hb8=>?_
   have h85:b8≠b5:=fun e=>by subst e;rw[g45] at hb8;cases hb8
   simp(disch:=omega) only[hg2,g45,h85,Ne.symm h85,go_sem]
   obtain⟨H5,hH5⟩:∃ H5,H5=H4.upd b8 (.cells [.str fn,.sl .no 10 (cWs fps),.str tn,.int .i64 tl,.int .i64 tm,.sl .no 2 (cDs fd)]):=⟨_,rfl⟩
   have ho5:OwnF H2 H5 o4 dn.length 6:=by rw[hH5];exact zc7 ho4 hb8
   have g58:H5 b8=some (.cells [.str fn,.sl .no 10 (cWs fps),.str tn,.int .i64 tl,.int .i64 tm,.sl .no 2 (cDs fd)]):=by rw[hH5,upd_same]
   try simp only[upd_upd]
   rw[← hH5]
   refine goK_pure (zdo fps (by omega)) ?_
   simp(disch:=omega) only[g58,go_sem]
   refine goK_pure (zfr fd (by simp only[Lim];omega)) ?_
   have e5:H5.upd b8 (.cells [.str fn,.sl .no 10 (cWs fps),.str tn,.int .i64 tl,.int .i64 tm,.sl .no 2 (cDs fd)])=H5:=by rw[hH5,upd_upd]
   simp(disch:=omega) only[g58,e5,go_sem]
   refine goP_ownS (by rw[hcd2];exact ho5.own) ?_ ?_ fun o6 H6 hs=>?_
   ·simp only[hcd2,Al2,Al3];omega
   ·simp only[hcd2,Al2,Al3,maxLen];omega
   rw[hcd2] at hs
   simp(disch:=omega) only[wrap64,go_sem]
   refine goJ (hJ4 (o6,dn++[⟨fn,fps,⟨tn,tl,tm⟩,fd⟩]) H6 ⟨rfl,(ho5.stepS hs).cast (by simp)⟩) (by simp(disch:=omega) only[cLs,List.map_append,List.map_cons,YW,AV.strip1,go_sem])
def l8L (x:FldD):Nat:=1+x.nm.length+lWs x.ps+lDs x.dirs
def zce (l:List FldD):Nat:=(l.map l8L).sum
def l8E (x:DefD):Nat:=1+x.nm.length+bT x.faces+bT x.parts+lWs x.ps+zce x.flds
def Y1 (l:List DefD):Nat:=(l.map l8E).sum
def za8 (s:SchD):Bool:=decide (Y1 s.defs≤4000)
theorem zff (x:FldD):l8L x≤2*bL x:=by
 have h1:=zba x.dirs
 have h2:=YF x.ps
 simp only[l8L,bL];omega
theorem zcI (l:List FldD):zce l≤2*bLs l:=zan zff l
theorem zed (x:DefD):l8E x≤2*bE x:=by
 have h1:=zcI x.flds
 have h2:=YF x.ps
 simp only[l8E,bE];omega
theorem zcS (l:List DefD):Y1 l≤2*bEs l:=zan zed l
theorem zca (l:List DirD) (hb:bDs l≤Lim):Pure Tryz.prog 56 [.sl .no 2 (cDs l)] (.int .i64 (lDs l)):=by
 refine Pure.go ir56 ck56 (Al4 _) fun KP Q hQ=>?_
 have h1:=Zf l
 have hl:=ZY l
 have hle:=zba l
 have hb':=hb
 simp only[Lim] at hb'
 simp(disch:=omega) only[ir56,h1,go_sem]
 refine goL_range l 4 (fun n:Int=>[(3,.int .i64 n)]) (fun done rest n H=>n+lDs rest=lDs l) 0 (by simp(disch:=omega) only[go_sem]) (by simp) ?_ ?_
 ·rintro n H J hn hlt
  simp only[lDs,List.map_nil,List.sum_nil] at hn
  simp(disch:=omega) only[h1,hlt,go_sem]
  have:n=((lDs l:Nat):Int):=by simp only[lDs];omega
  exact hQ _ _ _ _ nofun rfl (by simp[tupOf,envOf,AV.strip,AV.strip1,this])
 ·rintro done x rest n H J hd hlt _ hn hJ
  have hg:=Zv hd
  have hbm:=Z7 done x rest
  rw[← hd] at hbm
  obtain⟨nm,args⟩:=x
  simp only[bD] at hbm
  have hn':n+(2+nm.length+bMs args+lDs rest:Nat)=lDs l:=by rw[← hn];simp[lDs,lD]
  have hsz:bV (.mk 0 0 [] [] args)=1+bMs args:=by simp[bV,bVs]
  have hp:(0:Int)≤n:=by
   have:=zba rest
   have e:lDs l=lDs done+lDs (⟨nm,args⟩::rest):=by rw[hd];simp[lDs]
   omega
  simp(disch:=omega) only[h1,hlt,hg,cD,wrap64,go_sem]
  refine goK_pure (Pure.low (ze3 (.mk 0 0 [] [] args) (by rw[hsz];simp only[Lim];omega))) ?_
  rw[hsz]
  simp(disch:=omega) only[h1,hlt,hg,cD,wrap64,go_sem]
  exact goJ (hJ (n+1+nm.length+((1+bMs args:Nat):Int)) _ (by omega)) (by simp(disch:=omega) only[wrap64,go_sem])
theorem YQ (l:List (List UInt8)) (hb:bT l≤Lim):Pure Tryz.prog 54 [.sl .no 1 (cT l)] (.int .i64 (bT l)):=by
 refine Pure.go ir54 ck54 (Al4 _) fun KP Q hQ=>?_
 have h1:=zA l
 have hl:=yp l
 have hb':=hb
 simp only[Lim] at hb'
 simp(disch:=omega) only[ir54,h1,go_sem]
 refine goL_range l 4 (fun n:Int=>[(3,.int .i64 n)]) (fun done rest n H=>n=bT done) 0 (by simp(disch:=omega) only[go_sem]) (by simp[bT]) ?_ ?_
 ·rintro n H J hn hlt
  subst hn
  simp(disch:=omega) only[h1,hlt,go_sem]
  exact hQ _ _ _ _ nofun rfl (by simp[tupOf,envOf,AV.strip,AV.strip1])
 ·rintro done x rest n H J hd hlt _ hn hJ
  subst hn
  have hg:=Zt hd
  have hbm:=Yy done x rest
  rw[← hd] at hbm
  simp(disch:=omega) only[h1,hlt,hg,wrap64,go_sem]
  exact goJ (hJ ((bT done:Int)+1+x.length) _ (by simp[bT];omega)) (by simp(disch:=omega) only[wrap64,go_sem])
theorem Yj (l:List VarD) (hb:bWs l≤Lim):Pure Tryz.prog 55 [.sl .no 10 (cWs l)] (.int .i64 (lWs l)):=by
 refine Pure.go ir55 ck55 (Al4 _) fun KP Q hQ=>?_
 have h1:=yl l
 have hl:=yD l
 have hle:=YF l
 have hb':=hb
 simp only[Lim] at hb'
 simp(disch:=omega) only[ir55,h1,go_sem]
 refine goL_range l 4 (fun n:Int=>[(3,.int .i64 n)]) (fun done rest n H=>n=lWs done) 0 (by simp(disch:=omega) only[go_sem]) (by simp[lWs]) ?_ ?_
 ·rintro n H J hn hlt
  subst hn
  simp(disch:=omega) only[h1,hlt,go_sem]
  exact hQ _ _ _ _ nofun rfl (by simp[tupOf,envOf,AV.strip,AV.strip1])
 ·rintro done x rest n H J hd hlt _ hn hJ
  subst hn
  have hg:=Yk hd
  have hbm:=Yv done x rest
  rw[← hd] at hbm
  have hld:=YF done
  obtain⟨vn,⟨tn,tl,tm⟩,vh,vd⟩:=x
  have hbx:bW ⟨vn,⟨tn,tl,tm⟩,vh,vd⟩=vn.length+tn.length+bV vd:=rfl
  rw[zaJ] at hg
  simp only at hg
  simp(disch:=omega) only[zf,zc,za,ze,zd,zb,zi,h1,hlt,hg,wrap64,go_sem]
  refine goK_pure (ze3 vd (by simp only[Lim];omega)) ?_
  simp(disch:=omega) only[zf,zc,za,ze,zd,zb,zi,h1,hlt,hg,wrap64,go_sem]
  exact goJ (hJ ((lWs done:Int)+1+vn.length+((bV vd:Nat):Int)) _ (by simp[lWs,lW];omega)) (by simp(disch:=omega) only[wrap64,go_sem])
theorem zeO (s:SchD) (hb:yV s≤Lim):Pure Tryz.prog 22 [.agg (y8 s)] (.bool (za8 s)):=by
 refine Pure.go ir22 ck22 (Al4 _) fun KP Q hQ=>?_
 obtain⟨defs,q,m⟩:=s
 simp only[yV] at hb
 have h1:=ZB defs
 have hl:=ZV defs
 have hle:=zcS defs
 have hb':=hb
 simp only[Lim] at hb'
 have ed:y8 ⟨defs,q,m⟩=[.sl .no 6 (cEs defs),.str q,.str m]:=rfl
 simp(disch:=omega) only[ir22,ed,h1,go_sem]
 refine goL_range defs 4 (fun n:Int=>[(3,.int .i64 n)]) (fun done rest n H=>n=Y1 done) 0 (by simp(disch:=omega) only[go_sem]) (by simp[Y1]) ?_ ?_
 ·rintro n H J hn hlt
  subst hn
  by_cases h4:Y1 defs≤4000
  ·have h4':((Y1 defs:Int)≤4000)=True:=eq_true (by omega)
   simp(disch:=omega) only[h1,hlt,h4',go_sem]
   exact hQ _ _ _ _ nofun rfl (by simp[tupOf,envOf,AV.strip,AV.strip1,za8,h4])
  ·have h4':¬ ((Y1 defs:Int)≤4000):=by omega
   simp(disch:=omega) only[h1,hlt,h4',go_sem]
   exact hQ _ _ _ _ nofun rfl (by simp[tupOf,envOf,AV.strip,AV.strip1,za8,h4])
 ·rintro done x rest n H J hd hlt _ hn hJ
  subst hn
  have hg:=Zk hd
  have hbm:=Zh done x rest
  rw[← hd] at hbm
  have hld:=zcS done
  have hxe:=zed x
  obtain⟨k,nm,faces,flds,parts,ps⟩:=x
  simp only[bE] at hbm
  simp only[l8E,bE] at hxe
  have hfl:=yB flds
  have hfb:=yN flds
  have hpl:=YF ps
  rw[ZE] at hg
  simp(disch:=omega) only[h1,hlt,hg,go_sem]
  refine goA_intro fun b5 hb5=>?_
  obtain⟨cs,hcs⟩:∃ cs,cs=[AV.int .i64 k,.str nm,.sl .no 1 (cT faces),.sl .no 6 (cLs flds),.sl .no 1 (cT parts),.sl .no 10 (cWs ps)]:=⟨_,rfl⟩
  simp(disch:=omega) only[wrap64,go_sem]
  refine goK_pure (YQ faces (by simp only[Lim];omega)) ?_
  simp(disch:=omega) only[wrap64,go_sem]
  refine goK_pure (YQ parts (by simp only[Lim];omega)) ?_
  simp(disch:=omega) only[wrap64,go_sem]
  refine goK_pure (Yj ps (by simp only[Lim];omega)) ?_
  simp(disch:=omega) only[wrap64,hfl,go_sem]
  refine goL_range flds 6 (fun n:Int=>[(3,.int .i64 n)]) (fun dn rs n H'=>n=(Y1 done:Int)+1+nm.length+bT faces+bT parts+lWs ps+zce dn∧H' b5=some (.cells [AV.int .i64 k,.str nm,.sl .no 1 (cT faces),.sl .no 6 (cLs flds),.sl .no 1 (cT parts),.sl .no 10 (cWs ps)])) ((Y1 done:Int)+1+nm.length+bT faces+bT parts+lWs ps) (by simp(disch:=omega) only[wrap64,go_sem]) ⟨by simp[zce],upd_same ..⟩ ?_ ?_
  ·rintro n H4 J4 ⟨hn,g4⟩ hlt4
   subst hn
   simp(disch:=omega) only[hfl,hlt4,g4,wrap64,go_sem]
   exact goJ (hJ ((Y1 done:Int)+1+nm.length+bT faces+bT parts+lWs ps+zce flds) _ (by simp[Y1,l8E];omega)) (by simp(disch:=omega) only[wrap64,go_sem])
  ·rintro dn y rs n H4 J4 hdn hlt4 _ ⟨hn,g4⟩ hJ4
   subst hn
   have hgy:=Zw hdn
   have hby:=Zu dn y rs
   rw[← hdn] at hby
   have hldn:=zcI dn
   obtain⟨fn,fps,⟨tn,tl,tm⟩,dirs⟩:=y
   simp only[bL] at hby
   have hd1:=zba dirs
   have hd2:=YF fps
   rw[YW] at hgy
   simp(disch:=omega) only[hfl,hlt4,g4,hgy,wrap64,go_sem]
   refine goK_pure (Yj fps (by simp only[Lim];omega)) ?_
   simp(disch:=omega) only[hfl,hlt4,g4,hgy,wrap64,go_sem]
   refine goK_pure (zca dirs (by simp only[Lim];omega)) ?_
   simp(disch:=omega) only[hfl,hlt4,g4,hgy,wrap64,go_sem]
   exact goJ (hJ4 ((Y1 done:Int)+1+nm.length+bT faces+bT parts+lWs ps+zce dn+1+fn.length+lWs fps+lDs dirs) _ ⟨by simp[zce,l8L];omega,g4⟩) (by simp(disch:=omega) only[wrap64,go_sem])
theorem zd9 (l:List (List UInt8)) (hl:l.length≤Lim):Pure Tryz.prog 51 [.sl .no 1 (cT l),.sl .no 1 (cT l)] (.bool true):=by
 refine Pure.go ir51 ck51 (Al4 _) fun KP Q hQ=>?_
 have hcl:=zA l
 simp only[Lim] at hl
 simp(disch:=omega) only[ir51,hcl,go_sem]
 refine goL_range l 5 (fun x:Unit=>[]) (fun done rest x H=>True) () (by simp(disch:=omega) only[go_sem]) trivial ?_ ?_
 ·rintro _ H J _ hlt
  simp(disch:=omega) only[hcl,hlt,go_sem]
  exact hQ _ _ _ _ nofun rfl (by simp[tupOf,envOf,AV.strip,AV.strip1])
 ·rintro done x rest _ H J hd hlt hlt' _ hJ
  have hg:(cT l).getD done.length []=[.str x]:=by rw[hd];simp[cT]
  simp(disch:=omega) only[hcl,hlt,hg,wrap64,go_sem]
  exact goJ (hJ () H trivial) (by simp(disch:=omega) only[go_sem])
theorem zcO (l:List VarD) (hl:bWs l≤Lim):Pure Tryz.prog 52 [.sl .no 10 (cWs l),.sl .no 10 (cWs l)] (.bool true):=by
 refine Pure.go ir52 ck52 (Al4 _) fun KP Q hQ=>?_
 have hcl:=yl l
 have hml:=yD l
 have hl':=hl
 simp only[Lim] at hl'
 simp(disch:=omega) only[ir52,hcl,go_sem]
 refine goL_range l 5 (fun x:Unit=>[]) (fun done rest x H=>True) () (by simp(disch:=omega) only[go_sem]) trivial ?_ ?_
 ·rintro _ H J _ hlt
  simp(disch:=omega) only[hcl,hlt,go_sem]
  exact hQ _ _ _ _ nofun rfl (by simp[tupOf,envOf,AV.strip,AV.strip1])
 ·rintro done x rest _ H J hd hlt hlt' _ hJ
  have hg:=Yk hd
  have hbm:=Yv done x rest
  rw[← hd] at hbm
  obtain⟨nm,⟨tn,tl,tm⟩,h,v⟩:=x
  simp only[bW] at hbm
  rw[zaJ] at hg
  have hs:=zdw v (by simp only[Lim];omega) v
  rw[zI rfl] at hs
  simp(disch:=omega) only[zf,zc,za,ze,zd,zb,zi,hcl,hlt,hg,fitsAll,K1.fits,keqs,AV.keq1,Bool.and_true,go_sem]
  refine goK_pure hs ?_
  simp(disch:=omega) only[zf,zc,za,ze,zd,zb,zi,hcl,hlt,hg,wrap64,go_sem]
  exact goJ (hJ () H trivial) (by simp(disch:=omega) only[go_sem])
theorem zfh (x:FldD) (hl:bL x≤Lim):Pure Tryz.prog 53 [.agg (cL x),.agg (cL x)] (.bool true):=by
 refine Pure.go ir53 ck53 (Al4 _) fun KP Q hQ=>?_
 obtain⟨nm,ps,⟨tn,tl,tm⟩,dirs⟩:=x
 simp only[bL] at hl
 have h1:=zc5 dirs dirs (by omega)
 rw[zI rfl] at h1
 simp(disch:=omega) only[ir53,YW,fitsAll,K1.fits,keqs,AV.keq1,Bool.and_true,go_sem]
 refine goK_pure (zcO ps (by omega)) ?_
 simp(disch:=omega) only[go_sem]
 refine goK_pure h1 ?_
 simp(disch:=omega) only[go_sem]
 exact hQ _ _ _ _ nofun rfl (by simp[tupOf,envOf,AV.strip,AV.strip1])
theorem zf7 (x:DefD) (hl:bE x≤Lim):Pure Tryz.prog 21 [.agg (cE x),.agg (cE x)] (.bool true):=by
 refine Pure.go ir21 ck21 (Al4 _) fun KP Q hQ=>?_
 obtain⟨k,nm,faces,flds,parts,ps⟩:=x
 simp only[bE] at hl
 have hcl:=yB flds
 have hlf:=yN flds
 have htf:=yp faces
 have htp:=yp parts
 have hl':=hl
 simp only[Lim] at hl'
 simp(disch:=omega) only[ir21,ZE,go_sem]
 refine goK_pure (zd9 faces (by omega)) ?_
 simp(disch:=omega) only[go_sem]
 refine goK_pure (zd9 parts (by omega)) ?_
 simp(disch:=omega) only[go_sem]
 refine goK_pure (zcO ps (by omega)) ?_
 simp(disch:=omega) only[hcl,go_sem]
 refine goL_range flds 5 (fun x:Unit=>[]) (fun done rest x H=>True) () (by simp(disch:=omega) only[go_sem]) trivial ?_ ?_
 ·rintro _ H J _ hlt
  simp(disch:=omega) only[hcl,hlt,go_sem]
  exact hQ _ _ _ _ nofun rfl (by simp[tupOf,envOf,AV.strip,AV.strip1])
 ·rintro done x rest _ H J hd hlt hlt' _ hJ
  have hg:=Zw hd
  have hbm:=Zu done x rest
  rw[← hd] at hbm
  have hf:=zfh x (by omega)
  have h6:(cL x).length=6:=rfl
  have t6:(cL x).take 6=cL x:=rfl
  simp(disch:=omega) only[hcl,hlt,hg,h6,t6,go_sem]
  refine goK_pure hf ?_
  simp(disch:=omega) only[wrap64,go_sem]
  exact goJ (hJ () H trivial) (by simp(disch:=omega) only[go_sem])
theorem zf8 (s:SchD) (hl:yV s≤Lim):Pure Tryz.prog 19 [.agg (y8 s),.agg (y8 s)] (.bool true):=by
 refine Pure.go ir19 ck19 (Al4 _) fun KP Q hQ=>?_
 obtain⟨defs,q,m⟩:=s
 simp only[yV] at hl
 have ed:y8 ⟨defs,q,m⟩=[.sl .no 6 (cEs defs),.str q,.str m]:=rfl
 have hcl:=ZB defs
 have hlf:=ZV defs
 have hl':=hl
 simp only[Lim] at hl'
 rw[ed]
 simp(disch:=omega) only[ir19,hcl,go_sem]
 refine goL_range defs 5 (fun x:Unit=>[]) (fun done rest x H=>True) () (by simp(disch:=omega) only[go_sem]) trivial ?_ ?_
 ·rintro _ H J _ hlt
  simp(disch:=omega) only[hcl,hlt,go_sem]
  exact hQ _ _ _ _ nofun rfl (by simp[tupOf,envOf,AV.strip,AV.strip1])
 ·rintro done x rest _ H J hd hlt hlt' _ hJ
  have hg:=Zk hd
  have hbm:=Zh done x rest
  rw[← hd] at hbm
  have hf:=zf7 x (by omega)
  have h6:(cE x).length=6:=rfl
  have t6:(cE x).take 6=cE x:=rfl
  simp(disch:=omega) only[hcl,hlt,hg,h6,t6,go_sem]
  refine goK_pure hf ?_
  simp(disch:=omega) only[wrap64,go_sem]
  exact goJ (hJ () H trivial) (by simp(disch:=omega) only[go_sem])
open Go.Lib
def txts:List (List AV)→Option (List (List UInt8))
 | []=>some []
 | [.str s]::r=>match txts r with
  | some l=>some (s::l)
  | none=>none
 | _=>none
theorem zcv:∀ {xs:List (List AV)} {l:List (List UInt8)},txts xs=some l→xs=cT l
 | [],l,h=>by simp only[txts,Al1] at h;subst h;rfl
 | x::r,l,h=>by
  unfold txts at h
  split at h
  ·rename_i h0;cases h0
  ·rename_i s r' h0
   cases h0
   split at h
   ·rename_i m hm
    simp only[Al1] at h
    subst h
    rw[zcv hm]
    rfl
   ·cases h
  ·cases h
def oDecode (xs:List AV):Option AV:=match xs with
 | [.str s]=>some (.tup [.int .i32 ((if s=[] then (65533,0) else decodeL s:Nat×Nat).1),.int .i64 ((if s=[] then (65533,0) else decodeL s:Nat×Nat).2)])
 | _=>none
def oIdx (xs:List AV):Option AV:=match xs with
 | [.str s,.int .u8 n]=>if n=((UInt8.ofNat n.toNat).toNat:Int) then some (.int .i64 (Lib.indexByte s (UInt8.ofNat n.toNat))) else none
 | _=>none
def oCont (xs:List AV):Option AV:=match xs with
 | [.str s,.str [c]]=>some (.bool (decide (0≤Lib.indexByte s c)))
 | _=>none
def oPre (xs:List AV):Option AV:=match xs with
 | [.str s,.str p]=>some (.bool (p.isPrefixOf s))
 | _=>none
def oJoin (xs:List AV):Option AV:=match xs with
 | [.sl .no 1 l,.str sep]=>match txts l with
  | some l=>if (Lib.join l sep).length≤140737488355328∧l.length≤140737488355328 then some (.str (Lib.join l sep)) else none
  | none=>none
 | _=>none
def oFmt (xs:List AV):Option AV:=match xs with
 | [.int .i64 n,.int .i64 10]=>if -9223372036854775808≤n∧n≤9223372036854775807 then some (.str (Lib.itoa n)) else none
 | _=>none
def oParse (xs:List AV):Option AV:=match xs with
 | [.str s,.int .i64 10,.int .i64 64]=>if s.length≤281474976710656∧(parseA s).free=true then some (parseA s) else none
 | _=>none
def oEol (xs:List AV):Option AV:=match xs with
 | [.str s,.str [13,10]]=>if s.length≤4294967000 then some (.int .i64 (Lib.indexAny s [13,10])) else none
 | _=>none
def oValid (xs:List AV):Option AV:=match xs with
 | [.str s]=>if s.length≤9223372036854775807 then some (.bool (Lib.validD s)) else none
 | _=>none
def orcD (f:FuncId) (xs:List AV):Option AV :=
 if f=169 then oDecode xs
 else if f=122 then oIdx xs
 else if f=127 then oCont xs
 else if f=117 then oPre xs
 else if f=63 then oJoin xs
 else if f=281 then oFmt xs
 else if f=151 then oParse xs
 else if f=118 then oEol xs
 else if f=183 then oValid xs
 else none
def OrcOk (f:FuncId) (xs:List AV) (r:AV):Prop:=AV.frees xs=true∧r.free=true∧Pure Tryz.prog f xs r
theorem zbx:∀ l:List (List UInt8),AV.freess (cT l)=true
 | []=>rfl
 | s::r=>by
  have:=zbx r
  simp only[cT,List.map_cons,AV.freess,AV.frees,AV.free,Bool.and_true,Bool.true_and] at this ⊢
  exact this
theorem zeI (f:FuncId) (xs:List AV) (r:AV) (h:orcD f xs=some r):OrcOk f xs r:=by
 unfold orcD at h
 split at h
 ·rename_i e;subst e
  unfold oDecode at h
  split at h
  ·rename_i s
   simp only[Al1] at h;subst h
   exact⟨rfl,rfl,zcy s⟩
  ·cases h
 split at h
 ·rename_i e;subst e
  unfold oIdx at h
  split at h
  ·rename_i s n
   split at h
   ·rename_i hn
    simp only[Al1] at h;subst h
    have:=zdx s (UInt8.ofNat n.toNat)
    rw[← hn] at this
    exact⟨rfl,rfl,this⟩
   ·cases h
  ·cases h
 split at h
 ·rename_i e;subst e
  unfold oCont at h
  split at h
  ·rename_i s c
   simp only[Al1] at h;subst h
   exact⟨rfl,rfl,zaw s c⟩
  ·cases h
 split at h
 ·rename_i e;subst e
  unfold oPre at h
  split at h
  ·rename_i s p
   simp only[Al1] at h;subst h
   exact⟨rfl,rfl,zbd s p⟩
  ·cases h
 split at h
 ·rename_i e;subst e
  unfold oJoin at h
  split at h
  ·rename_i l sep
   split at h
   ·rename_i m hm
    split at h
    ·rename_i hc
     simp only[Al1] at h;subst h
     rw[zcv hm]
     exact⟨by simp[AV.frees,AV.free,zbx],rfl,zbN m sep hc.1 hc.2⟩
    ·cases h
   ·cases h
  ·cases h
 split at h
 ·rename_i e;subst e
  unfold oFmt at h
  split at h
  ·rename_i n
   split at h
   ·rename_i hc
    simp only[Al1] at h;subst h
    exact⟨rfl,rfl,zaA n hc.1 hc.2⟩
   ·cases h
  ·cases h
 split at h
 ·rename_i e;subst e
  unfold oParse at h
  split at h
  ·rename_i s
   split at h
   ·rename_i hc
    simp only[Al1] at h;subst h
    exact⟨rfl,hc.2,zaZ s hc.1⟩
   ·cases h
  ·cases h
 split at h
 ·rename_i e;subst e
  unfold oEol at h
  split at h
  ·rename_i s
   split at h
   ·rename_i hc
    simp only[Al1] at h;subst h
    exact⟨rfl,rfl,zex s hc⟩
   ·cases h
  ·cases h
 split at h
 ·rename_i e;subst e
  unfold oValid at h
  split at h
  ·rename_i s
   split at h
   ·rename_i hc
    simp only[Al1] at h;subst h
    exact⟨rfl,rfl,zdJ s hc⟩
   ·cases h
  ·cases h
 ·cases h
end Go.Proofs.YtaielcdfcgpbiaaGreatDoor
namespace Go.Proofs.YtaielcdfcgpbiaaGreatDoor
open Go.Ab
noncomputable def zgb:Tr:=(.node 115 (.fn ir115 false) (.node 79 (.fn ir79 false) (.node 43 (.fn ir43 false) (.node 33 (.fn ir33 false) (.node 24 (.fn ir24 false) (.node 17 (.fn ir17 false) (.node 16 (.fn ir16 false) .leaf .leaf) .leaf) (.node 31 (.sp sp31 74 df74 false) .leaf .leaf)) (.node 41 (.fn ir41 false) (.node 38 (.fn ir38 false) .leaf .leaf) (.node 42 (.fn ir42 false) .leaf .leaf))) (.node 75 (.fn ir75 false) (.node 59 (.fn ir59 false) (.node 58 (.fn ir58 false) .leaf .leaf) (.node 60 (.fn ir60 false) .leaf .leaf)) (.node 77 (.fn ir77 false) (.node 76 (.fn ir76 false) .leaf .leaf) (.node 78 (.fn ir78 false) .leaf .leaf)))) (.node 98 (.fn ir98 false) (.node 83 (.fn ir83 false) (.node 81 (.fn ir81 false) (.node 80 (.fn ir80 false) .leaf .leaf) (.node 82 (.fn ir82 false) .leaf .leaf)) (.node 85 (.fn ir85 false) (.node 84 (.fn ir84 false) .leaf .leaf) (.node 97 (.fn ir97 false) .leaf .leaf))) (.node 102 (.fn ir102 false) (.node 100 (.fn ir100 false) (.node 99 (.fn ir99 false) .leaf .leaf) (.node 101 (.fn ir101 false) .leaf .leaf)) (.node 104 (.fn ir104 false) (.node 103 (.fn ir103 false) .leaf .leaf) (.node 105 (.fn ir105 false) .leaf .leaf))))) (.node 176 (.fn ir176 false) (.node 126 (.fn ir126 false) (.node 121 (.fn ir121 false) (.node 119 (.fn ir119 false) (.node 116 (.fn ir116 false) .leaf .leaf) (.node 120 (.fn ir120 false) .leaf .leaf)) (.node 124 (.fn ir124 false) (.node 123 (.fn ir123 false) .leaf .leaf) (.node 125 (.fn ir125 false) .leaf .leaf))) (.node 160 (.fn ir160 false) (.node 158 (.fn ir158 false) (.node 129 (.fn ir129 false) .leaf .leaf) (.node 159 (.fn ir159 false) .leaf .leaf)) (.node 162 (.fn ir162 false) (.node 161 (.fn ir161 false) .leaf .leaf) (.node 175 (.fn ir175 false) .leaf .leaf)))) (.node 217 (.fn ir217 false) (.node 181 (.fn ir181 false) (.node 179 (.fn ir179 false) (.node 177 (.fn ir177 false) .leaf .leaf) (.node 180 (.fn ir180 false) .leaf .leaf)) (.node 206 (.fn ir206 false) (.node 196 (.fn ir196 false) .leaf .leaf) (.node 216 (.fn ir216 false) .leaf .leaf))) (.node 233 (.fn ir233 false) (.node 219 (.fn ir219 false) (.node 218 (.fn ir218 false) .leaf .leaf) (.node 220 (.fn ir220 false) .leaf .leaf)) (.node 247 (.fn ir247 false) (.node 246 (.fn ir246 false) .leaf .leaf) (.node 268 (.fn ir268 false) .leaf .leaf))))))
theorem zet:TrOk Tryz.prog zgb:=⟨⟨ck115,by kernel_rfl⟩,⟨⟨ck79,by kernel_rfl⟩,⟨⟨ck43,by kernel_rfl⟩,⟨⟨ck33,by kernel_rfl⟩,⟨⟨ck24,by kernel_rfl⟩,⟨⟨ck17,by kernel_rfl⟩,⟨⟨ck16,by kernel_rfl⟩,trivial,trivial⟩,trivial⟩,⟨⟨⟨ckS31,ckD74⟩,by kernel_rfl⟩,trivial,trivial⟩⟩,⟨⟨ck41,by kernel_rfl⟩,⟨⟨ck38,by kernel_rfl⟩,trivial,trivial⟩,⟨⟨ck42,by kernel_rfl⟩,trivial,trivial⟩⟩⟩,⟨⟨ck75,by kernel_rfl⟩,⟨⟨ck59,by kernel_rfl⟩,⟨⟨ck58,by kernel_rfl⟩,trivial,trivial⟩,⟨⟨ck60,by kernel_rfl⟩,trivial,trivial⟩⟩,⟨⟨ck77,by kernel_rfl⟩,⟨⟨ck76,by kernel_rfl⟩,trivial,trivial⟩,⟨⟨ck78,by kernel_rfl⟩,trivial,trivial⟩⟩⟩⟩,⟨⟨ck98,by kernel_rfl⟩,⟨⟨ck83,by kernel_rfl⟩,⟨⟨ck81,by kernel_rfl⟩,⟨⟨ck80,by kernel_rfl⟩,trivial,trivial⟩,⟨⟨ck82,by kernel_rfl⟩,trivial,trivial⟩⟩,⟨⟨ck85,by kernel_rfl⟩,⟨⟨ck84,by kernel_rfl⟩,trivial,trivial⟩,⟨⟨ck97,by kernel_rfl⟩,trivial,trivial⟩⟩⟩,⟨⟨ck102,by kernel_rfl⟩,⟨⟨ck100,by kernel_rfl⟩,⟨⟨ck99,by kernel_rfl⟩,trivial,trivial⟩,⟨⟨ck101,by kernel_rfl⟩,trivial,trivial⟩⟩,⟨⟨ck104,by kernel_rfl⟩,⟨⟨ck103,by kernel_rfl⟩,trivial,trivial⟩,⟨⟨ck105,by kernel_rfl⟩,trivial,trivial⟩⟩⟩⟩⟩,⟨⟨ck176,by kernel_rfl⟩,⟨⟨ck126,by kernel_rfl⟩,⟨⟨ck121,by kernel_rfl⟩,⟨⟨ck119,by kernel_rfl⟩,⟨⟨ck116,by kernel_rfl⟩,trivial,trivial⟩,⟨⟨ck120,by kernel_rfl⟩,trivial,trivial⟩⟩,⟨⟨ck124,by kernel_rfl⟩,⟨⟨ck123,by kernel_rfl⟩,trivial,trivial⟩,⟨⟨ck125,by kernel_rfl⟩,trivial,trivial⟩⟩⟩,⟨⟨ck160,by kernel_rfl⟩,⟨⟨ck158,by kernel_rfl⟩,⟨⟨ck129,by kernel_rfl⟩,trivial,trivial⟩,⟨⟨ck159,by kernel_rfl⟩,trivial,trivial⟩⟩,⟨⟨ck162,by kernel_rfl⟩,⟨⟨ck161,by kernel_rfl⟩,trivial,trivial⟩,⟨⟨ck175,by kernel_rfl⟩,trivial,trivial⟩⟩⟩⟩,⟨⟨ck217,by kernel_rfl⟩,⟨⟨ck181,by kernel_rfl⟩,⟨⟨ck179,by kernel_rfl⟩,⟨⟨ck177,by kernel_rfl⟩,trivial,trivial⟩,⟨⟨ck180,by kernel_rfl⟩,trivial,trivial⟩⟩,⟨⟨ck206,by kernel_rfl⟩,⟨⟨ck196,by kernel_rfl⟩,trivial,trivial⟩,⟨⟨ck216,by kernel_rfl⟩,trivial,trivial⟩⟩⟩,⟨⟨ck233,by kernel_rfl⟩,⟨⟨ck219,by kernel_rfl⟩,⟨⟨ck218,by kernel_rfl⟩,trivial,trivial⟩,⟨⟨ck220,by kernel_rfl⟩,trivial,trivial⟩⟩,⟨⟨ck247,by kernel_rfl⟩,⟨⟨ck246,by kernel_rfl⟩,trivial,trivial⟩,⟨⟨ck268,by kernel_rfl⟩,trivial,trivial⟩⟩⟩⟩⟩⟩
theorem zcV:Pure Tryz.prog 16 [] (.bool true) :=
 Pure.of_ev2 (TrOk.tab zet zeI) 100000 1000 rfl rfl (by decide +kernel)
theorem zb3 (s:SchD) (hw:YS s) (hb:yV s≤1048576):Pure Tryz.prog 7 [.agg (y8 s)] (.bool true):=by
 refine Pure.go ir7 ck7 (Al4 _) fun KP Q hQ=>?_
 have ed:y8 s=[.sl .no 6 (cEs s.defs),.str s.q,.str s.m]:=rfl
 have hL:=zeO s (by simp only[Lim];omega)
 have hC:=zep s hb
 have hP:=ze9 s hw (by simp only[Lim];omega)
 have hP2:=zdP s hw (by simp only[Lim];omega)
 have hg:=zfz s hw (by simp only[Lim];omega)
 have hg2:=zaK s (by simp only[Lim];omega)
 have hS:=zf8 s (by simp only[Lim];omega)
 rw[ed] at hL hC hP hP2 hg hg2 hS ⊢
 simp(disch:=omega) only[ir7,go_sem]
 refine goK_pure hL ?_
 cases hl:za8 s with
 | false =>
  simp(disch:=omega) only[go_sem]
  refine goK_pure zcV ?_
  simp(disch:=omega) only[go_sem]
  exact hQ _ _ _ _ nofun rfl (by simp[tupOf,envOf,AV.strip,AV.strip1])
 | true =>
  simp(disch:=omega) only[go_sem]
  refine goK_pure hC ?_
  simp(disch:=omega) only[go_sem]
  refine goA_intro fun b3 hb3=>?_
  simp(disch:=omega) only[go_sem]
  refine goK_pure hP ?_
  simp(disch:=omega) only[go_sem]
  refine goK_pure hP2 ?_
  simp(disch:=omega) only[go_sem]
  refine goK_pure hg ?_
  simp(disch:=omega) only[go_sem]
  refine goK_pure hg2 ?_
  simp(disch:=omega) only[go_sem]
  refine goK_pure hS ?_
  simp(disch:=omega) only[go_sem]
  refine goK_pure zcV ?_
  simp(disch:=omega) only[go_sem]
  exact hQ _ _ _ _ nofun rfl (by simp[tupOf,envOf,AV.strip,AV.strip1])
end Go.Proofs.YtaielcdfcgpbiaaGreatDoor
