import Derived.Test.YtbjofkamhijjlaaGreatDoorM1
import Derived.Test.YtbjofkamhijjlaaGreatDoorM2
import Derived.Test.YtbjofkamhijjlaaGreatDoorM3
import Derived.Test.YtbjofkamhijjlaaGreatDoorM4
import Derived.Test.YtbjofkamhijjlaaGreatDoorM5
import Derived.Test.YtbjofkamhijjlaaGreatDoorM6
import Derived.Test.YtbjofkamhijjlaaGreatDoorM7
import Derived.Test.YtbjofkamhijjlaaGreatDoorM8
import Derived.Test.YtbjofkamhijjlaaGreatDoorM9
set_option maxRecDepth 100000
set_option linter.all false
namespace Go.Proofs.YtbjofkamhijjlaaGreatDoor
open Go.Ab
def WS (f:FuncId) (args:List AV) (B:Nat) (r:Bool) (tk:List Tok):Prop :=
 ∀(H:zb) (w:Nat) (o:Own) (l:List Tok) (ok:Bool),WAt H w o l ok 0→l.length+B≤Lim →
  zi Tryz.prog f (.agg [.ptr w 0]::args) H (ztD fun v H'=>v=.tup []∧∃ o' l',WAt H' w o' l' (ok&&r) 0∧WStep H o w H' o'∧l'.length≤l.length+B∧((ok&&r)=true→l'=l++tk))
section
variable {KP:AV→zb→Prop} {Q:AExit→Env→zb→Prop} {st:List Fr} {ρ:Env} {H:zb} {all items:List AItem} {d:Option Nat} {R:List Chk}
theorem zdV {f:FuncId} {args:List AV} {B':Nat} {r':Bool} {tk':List Tok} (hc:WS f args B' r' tk') {H0:zb} {o0 o:Own} {w B:Nat} {l0 l tk:List Tok} {ok0 r:Bool} (h:WR H0 o0 w l0 ok0 0 B r tk H o l)
  (hb:l0.length+(B+B')≤Lim) (k:∀ o' l' H',WR H0 o0 w l0 ok0 0 (B+B') (r&&r') (tk++tk') H' o' l'→WStep H o w H' o'→goR Tryz.prog KP Q all items st R (ρ.set d (.tup [])) H') :
  goK Tryz.prog KP Q all items st d R ρ f (.agg [.ptr w 0]::args) H:=by
 have hlen:=h.len
 refine zfa (hc H w o l _ h.here (by omega)) fun v H' ⟨hv,o',l',h2,h3,h4,h5⟩=>?_
 subst hv
 refine k o' l' H' ⟨by rw[← YU];exact h2,h.st.trans h.here.cell h3,by omega,fun e=>?_⟩ h3
 rw[← YU] at e
 rw[h5 e,h.eq (by simp only[Al0] at e ⊢;exact e.1),zb0]
end
theorem zjO (l:List (List UInt8)) (x:List UInt8):bT (l++[x])=bT l+(1+x.length):=by simp[bT]
theorem zkM (l:List FldD) (x:FldD):bLs (l++[x])=bLs l+bL x:=by simp[bLs]
theorem zkv (m:List VarD) (hw:∀ y∈m,wfW y) (hm:32*bWs m≤Lim):WS 242 [.sl .no 10 (cWs m)] (32*bWs m) (m.all zfL) (m.flatMap tPa):=by
 intro H w o l ok h hb
 have hml:=yD m
 have hcl:=Zj m
 have hm':=hm
 simp only[Lim] at hm'
 refine zi.go ir242 ck242 (Al4 _) fun KP Q hQ=>?_
 have w0:=WR.refl h
 simp(disch:=omega) only[ir242,hcl,go_sem]
 refine zf m 8 (fun x:Own×List Tok=>[]) (fun done rest x H'=>WR H o w l ok 0 (32*bWs done) (done.all zfL) (done.flatMap tPa) H' x.1 x.2) (o,l) (by simp(disch:=omega) only[go_sem]) (w0.cast (by omega) rfl rfl) ?_ ?_
 ·rintro⟨o3,l3⟩ H3 J w3 hlt
  simp only at w3
  simp(disch:=omega) only[hcl,hlt,go_sem]
  exact hQ _ _ H3 H3 [] nofun rfl (Low.refl _) ⟨rfl,w3.fin rfl (fun _=>rfl) (by omega)⟩
 ·rintro done x rest ⟨o5,l5⟩ H5 J5 hd hlt hlt2 w5 hJ5
  simp only at w5
  have hg:=Z9 hd
  have hbm:=zgD done x rest
  rw[← hd] at hbm
  have hwx:=hw x (by rw[hd];simp)
  obtain⟨vn,⟨tn,tl,tm⟩,vh,vd⟩:=x
  have hwvd:wfV vd:=hwx.2.2
  have hvp:=zcY vd
  have hbx:bW ⟨vn,⟨tn,tl,tm⟩,vh,vd⟩=vn.length+tn.length+bV vd:=rfl
  rw[ziU] at hg
  simp only at hg
  simp(disch:=omega) only[zx,zm,zj,zv,zn,zk,zA,hcl,hlt,hg,go_sem]
  refine zc fun b hb=>?_
  have hbw:b≠w:=fun e=>by subst e;rw[w5.here.cell] at hb;cases hb
  have w6:=w5.alloc (x:=.cells (.str vn::.str tn::.int .i64 tl::.int .i64 tm::.bool vh::cV vd)) hb
  have hbc:(H5.upd b (.cells (.str vn::.str tn::.int .i64 tl::.int .i64 tm::.bool vh::cV vd))) b=some (.cells (.str vn::.str tn::.int .i64 tl::.int .i64 tm::.bool vh::cV vd)):=upd_same ..
  simp(disch:=omega) only[zx,zm,zj,zv,zn,zk,zA,go_sem]
  refine zu (yA vn (by simp only[Lim];omega)) w6 (by omega) (by omega) (by omega) fun o8 l8 H8 w8 s8=>?_
  have hb8:=s8.box w6.here.own hbc hbw
  simp(disch:=omega) only[zx,zm,zj,zv,zn,zk,zA,hb8,go_sem]
  refine zu (y8 [58] _) w8 (by omega) (by omega) (by omega) fun o9 l9 H9 w9 s9=>?_
  have hb9:=s9.box w8.here.own hb8 hbw
  simp(disch:=omega) only[zx,zm,zj,zv,zn,zk,zA,hb9,go_sem]
  refine zu (args:=[.agg [.str tn,.int .i64 tl,.int .i64 tm]]) (show WC _ [.agg [.str tn,.int .i64 tl,.int .i64 tm]] 20 (-1000) 1000 (fun _=>zO ⟨tn,tl,tm⟩) (tTy ⟨tn,tl,tm⟩) from zjp ⟨tn,tl,tm⟩ (by simp only[Lim];omega)) w9 (by omega) (by omega) (by omega) fun oC lC HC wC sC=>?_
  have hbC:=sC.box w9.here.own hb9 hbw
  simp(disch:=omega) only[zx,zm,zj,zv,zn,zk,zA,hbC,go_sem]
  refine zu (zjc vh vd hwvd (by simp only[Lim];omega)) wC (by omega) (by omega) (by omega) fun oD lD HD wD sD=>?_
  have er:zfL ⟨vn,⟨tn,tl,tm⟩,vh,vd⟩=zdC 0 ⟨vn,⟨tn,tl,tm⟩,vh,vd⟩:=rfl
  simp(disch:=omega) only[wrap64,go_sem]
  exact goJ (hJ5 (oD,lD) HD (wD.cast (by rw[zkH];omega) (by simp[er,zdC,YU]) (by simp[tPa]))) (by simp(disch:=omega) only[go_sem])
theorem zqp (m:List UInt8) (l:List (List UInt8)) (x:List UInt8):tNs m (l++[x])=tNs m l++if l.length=0 then [wk x] else [pk m,wk x]:=by
 cases l with
 | nil=>rfl
 | cons a r=>simp[tNs]
theorem znS (m:List UInt8) (a:List (List UInt8)) (hm:2*bT a≤Lim):WS 254 [.str m,.sl .no 1 (cT a)] (2*bT a) (a.all zN) (tNs m a):=by
 intro H w o l ok h hb
 have hml:=ZS a
 have hcl:=zD a
 have hm':=hm
 simp only[Lim] at hm'
 refine zi.go ir254 ck254 (Al4 _) fun KP Q hQ=>?_
 have w0:=WR.refl h
 simp(disch:=omega) only[ir254,hcl,go_sem]
 refine zf a 10 (fun x:Own×List Tok=>[]) (fun done rest x H'=>WR H o w l ok 0 (2*bT done) (done.all zN) (tNs m done) H' x.1 x.2) (o,l) (by simp(disch:=omega) only[go_sem]) (w0.cast (by omega) rfl rfl) ?_ ?_
 ·rintro⟨o3,l3⟩ H3 J w3 hlt
  simp only at w3
  simp(disch:=omega) only[hcl,hlt,go_sem]
  exact hQ _ _ H3 H3 [] nofun rfl (Low.refl _) ⟨rfl,w3.fin rfl (fun _=>rfl) (by omega)⟩
 ·rintro done x rest ⟨o5,l5⟩ H5 J5 hd hlt hlt2 w5 hJ5
  simp only at w5
  have hg:=Yr hd
  have hbm:=zmg done x rest
  rw[← hd] at hbm
  have hsn:=zqp m done x
  by_cases h0:done.length=0
  ·have h0':¬ ((0:Int)<(done.length:Int)):=by omega
   rw[if_pos h0] at hsn
   simp(disch:=omega) only[hcl,hlt,hg,h0',go_sem]
   refine zu (yA x (by simp only[Lim];omega)) w5 (by omega) (by omega) (by omega) fun o8 l8 H8 w8 s8=>?_
   simp(disch:=omega) only[wrap64,go_sem]
   exact goJ (hJ5 (o8,l8) H8 (w8.cast (by rw[zjO];omega) (by simp) (by rw[hsn]))) (by simp(disch:=omega) only[go_sem])
  ·have h0':((0:Int)<(done.length:Int))=True:=eq_true (by omega)
   rw[if_neg h0] at hsn
   simp(disch:=omega) only[hcl,hlt,hg,h0',go_sem]
   refine zu (y8 m _) w5 (by omega) (by omega) (by omega) fun o6 l6 H6 w6 s6=>?_
   simp(disch:=omega) only[hcl,hlt,hg,go_sem]
   refine zu (yA x (by simp only[Lim];omega)) w6 (by omega) (by omega) (by omega) fun o8 l8 H8 w8 s8=>?_
   simp(disch:=omega) only[wrap64,go_sem]
   exact goJ (hJ5 (o8,l8) H8 (w8.cast (by rw[zjO];omega) (by simp) (by rw[hsn];simp))) (by simp(disch:=omega) only[go_sem])
theorem zqF (m:List FldD) (hw:∀ y∈m,wfL y) (hm:32*bLs m≤Lim):WS 255 [.sl .no 6 (cLs m)] (32*bLs m) (m.all zfV) (m.flatMap tL):=by
 intro H w o l ok h hb
 have hml:=zah m
 have hcl:=za3 m
 have hm':=hm
 simp only[Lim] at hm'
 refine zi.go ir255 ck255 (Al4 _) fun KP Q hQ=>?_
 have w0:=WR.refl h
 simp(disch:=omega) only[ir255,hcl,go_sem]
 refine zf m 8 (fun x:Own×List Tok=>[]) (fun done rest x H'=>WR H o w l ok 0 (32*bLs done) (done.all zfV) (done.flatMap tL) H' x.1 x.2) (o,l) (by simp(disch:=omega) only[go_sem]) (w0.cast (by omega) rfl rfl) ?_ ?_
 ·rintro⟨o3,l3⟩ H3 J w3 hlt
  simp only at w3
  simp(disch:=omega) only[hcl,hlt,go_sem]
  exact hQ _ _ H3 H3 [] nofun rfl (Low.refl _) ⟨rfl,w3.fin rfl (fun _=>rfl) (by omega)⟩
 ·rintro done x rest ⟨o5,l5⟩ H5 J5 hd hlt hlt2 w5 hJ5
  simp only at w5
  have hg:=zdH hd
  have hbm:=zmZ done x rest
  rw[← hd] at hbm
  have hwx:=hw x (by rw[hd];simp)
  obtain⟨fn,ps,⟨tn,tl,tm⟩,dirs⟩:=x
  simp only[wfL] at hwx
  have hbx:bL ⟨fn,ps,⟨tn,tl,tm⟩,dirs⟩=1+fn.length+bWs ps+tn.length+bDs dirs:=rfl
  have hpl:=Zj ps
  have hpb:=yD ps
  rw[zaL] at hg
  simp(disch:=omega) only[hcl,hlt,hg,go_sem]
  refine zc fun b hb=>?_
  have hbw:b≠w:=fun e=>by subst e;rw[w5.here.cell] at hb;cases hb
  obtain⟨cs,hcs⟩:∃ cs,cs=[AV.str fn,.sl .no 10 (cWs ps),.str tn,.int .i64 tl,.int .i64 tm,.sl .no 2 (cDs dirs)]:=⟨_,rfl⟩
  have w6:=w5.alloc (x:=.cells cs) hb
  have hbc:(H5.upd b (.cells cs)) b=some (.cells cs):=upd_same ..
  subst hcs
  simp(disch:=omega) only[go_sem]
  refine zu (yA fn (by simp only[Lim];omega)) w6 (by omega) (by omega) (by omega) fun o8 l8 H8 w8 s8=>?_
  have hb8:=s8.box w6.here.own hbc hbw
  by_cases hp0:ps.length=0
  ·have hp0':¬ ((0:Int)<(ps.length:Int)):=by omega
   have hps:=zib.1 hp0
   simp(disch:=omega) only[hb8,hpl,hp0',go_sem]
   refine zu (y8 [58] _) w8 (by omega) (by omega) (by omega) fun oB lB HB wB sB=>?_
   have hbB:=sB.box w8.here.own hb8 hbw
   simp(disch:=omega) only[hbB,go_sem]
   refine zu (args:=[.agg [.str tn,.int .i64 tl,.int .i64 tm]]) (show WC _ [.agg [.str tn,.int .i64 tl,.int .i64 tm]] 20 (-1000) 1000 (fun _=>zO ⟨tn,tl,tm⟩) (tTy ⟨tn,tl,tm⟩) from zjp ⟨tn,tl,tm⟩ (by simp only[Lim];omega)) wB (by omega) (by omega) (by omega) fun oC lC HC wC sC=>?_
   have hbC:=sC.box wB.here.own hbB hbw
   simp(disch:=omega) only[hbC,go_sem]
   refine zu (zc9 true dirs hwx.2.2.2 (by simp only[Lim];omega)) wC (by omega) (by omega) (by omega) fun oD lD HD wD sD=>?_
   simp(disch:=omega) only[wrap64,go_sem]
   exact goJ (hJ5 (oD,lD) HD (wD.cast (by rw[zkM];omega) (by simp[zfV,hps,YU]) (by simp[tL,tPb,hps]))) (by simp(disch:=omega) only[go_sem])
  ·have hp0':((0:Int)<(ps.length:Int))=True:=eq_true (by omega)
   have hps:=hp0
   simp(disch:=omega) only[hb8,hpl,hp0',go_sem]
   refine zu (y8 [40] _) w8 (by omega) (by omega) (by omega) fun o9 l9 H9 w9 s9=>?_
   have hb9:=s9.box w8.here.own hb8 hbw
   simp(disch:=omega) only[hb9,go_sem]
   refine zdV (zkv ps hwx.1 (by simp only[Lim];omega)) w9 (by omega) fun oE lE HE wE sE=>?_
   have hbE:=sE.box w9.here.own hb9 hbw
   simp(disch:=omega) only[hbE,go_sem]
   refine zu (y8 [41] _) wE (by omega) (by omega) (by omega) fun oF lF HF wF sF=>?_
   have hbF:=sF.box wE.here.own hbE hbw
   simp(disch:=omega) only[hbF,go_sem]
   refine zu (y8 [58] _) wF (by omega) (by omega) (by omega) fun oB lB HB wB sB=>?_
   have hbB:=sB.box wF.here.own hbF hbw
   simp(disch:=omega) only[hbB,go_sem]
   refine zu (args:=[.agg [.str tn,.int .i64 tl,.int .i64 tm]]) (show WC _ [.agg [.str tn,.int .i64 tl,.int .i64 tm]] 20 (-1000) 1000 (fun _=>zO ⟨tn,tl,tm⟩) (tTy ⟨tn,tl,tm⟩) from zjp ⟨tn,tl,tm⟩ (by simp only[Lim];omega)) wB (by omega) (by omega) (by omega) fun oC lC HC wC sC=>?_
   have hbC:=sC.box wB.here.own hbB hbw
   simp(disch:=omega) only[hbC,go_sem]
   refine zu (zc9 true dirs hwx.2.2.2 (by simp only[Lim];omega)) wC (by omega) (by omega) (by omega) fun oD lD HD wD sD=>?_
   simp(disch:=omega) only[wrap64,go_sem]
   exact goJ (hJ5 (oD,lD) HD (wD.cast (by rw[zkM];omega) (by simp[zfV,hps,YU]) (by simp[tL,tPb,hps]))) (by simp(disch:=omega) only[go_sem])
theorem zoo (x:OpD):zdG 0 x=zel x:=rfl
theorem zoS (l:List OpD) (o:OpD):bOs (l++[o])=bOs l+bO o:=by simp[bOs]
theorem zpd (l:List FragD) (o:FragD):bFs (l++[o])=bFs l+bF o:=by simp[bFs]
noncomputable def zjt (d:DocD):List Tok:=if Zx d then zwH d else []
theorem zqw (d:DocD) (hw:zcc d) (hb:64*zq d+64≤Lim):zg Tryz.prog 25 [.agg (zP d)] (.tup [.sl .no 2 (cKs (zjt d)),.bool (Zx d)]):=by
 refine zg.go ir25 ck25 (Al4 _) fun KP Q hQ=>?_
 obtain⟨ops,frags⟩:=d
 obtain⟨hwo,hwf⟩:=hw
 have hlo:=y9 ops
 have hlf:=yx frags
 have hco:=Z8 ops
 have hcf:=ZW frags
 have hb':=hb
 simp only[zq,Lim] at hb'
 have ed:zP ⟨ops,frags⟩=[.sl .no 5 (cOs ops),.sl .no 4 (cFs frags)]:=rfl
 obtain⟨n,hn⟩:∃ n,n=decide (0<ops.length+frags.length):=⟨_,rfl⟩
 simp(disch:=first|omega|assumption) only[ir25,ed,go_sem]
 refine zfa zxk fun v H1 ⟨w,hv,hW⟩=>?_
 subst hv
 have w0:=WR.refl hW
 have wl:IntKind.wrap .i64 ((ops.length:Int)+(frags.length:Int))=((ops.length+frags.length:Nat):Int):=by rw[wrap64 (by omega) (by omega)];omega
 by_cases hn0:0<ops.length+frags.length
 case' pos =>
  have hn1:((0:Int)<((ops.length+frags.length:Nat):Int))=True:=eq_true (by omega)
  have hnv:n=true:=by rw[hn];exact decide_eq_true hn0
  simp(disch:=first|omega|assumption) only[hco,hcf,wl,hn1,go_sem]
 case' neg =>
  have hn1:¬ ((0:Int)<((ops.length+frags.length:Nat):Int)):=by omega
  have hnv:n=false:=by rw[hn];exact decide_eq_false hn0
  simp(disch:=first|omega|assumption) only[hco,hcf,wl,hn1,go_sem]
 all_goals
  refine zu (Yn _) w0 (by omega) (by omega) (by simp only[Lim,Al3];omega) fun o2 l2 H2 w2 _=>?_
  simp(disch:=first|omega|assumption) only[hco,go_sem]
  refine zf ops 23 (fun x:Own×List Tok=>[]) (fun done rest x H'=>WR H1 .nil w [] true 0 (64*bOs done) (n&&done.all zel) (done.flatMap tO) H' x.1 x.2) (o2,l2) (by simp(disch:=first|omega|assumption) only[go_sem]) (w2.cast (by simp) (by simp[hnv]) (by simp)) ?_ ?_
  ·rintro⟨o3,l3⟩ H3 J3 w3 hlt
   simp only at w3
   simp(disch:=first|omega|assumption) only[hco,hlt,hcf,go_sem]
   refine zf frags 34 (fun x:Own×List Tok=>[]) (fun done rest x H'=>WR H1 .nil w [] true 0 (64*bOs ops+32*bFs done) (n&&(ops.all zel&&done.all zhT)) (ops.flatMap tO++done.flatMap tF) H' x.1 x.2) (o3,l3) (by simp(disch:=first|omega|assumption) only[go_sem]) (w3.cast (by simp[bFs]) (by simp) (by simp)) ?_ ?_
   ·rintro⟨o4,l4⟩ H4 J4 w4 hlt4
    simp only at w4
    have er:Zx ⟨ops,frags⟩=(n&&(ops.all zel&&frags.all zhT)):=by rw[hn];rfl
    have hc4:=w4.here.cell
    have e4:=w4.eq
    rw[← er,Bool.true_and] at hc4 e4
    cases hr:Zx ⟨ops,frags⟩ with
    | false =>
     rw[hr] at hc4 hQ
     simp(disch:=first|omega|assumption) only[hcf,hlt4,hc4,go_sem]
     exact hQ _ _ _ _ nofun rfl (by simp[zd,ze,AV.strip,AV.strip1,zjt,hr,cKs])
    | true =>
     rw[hr] at hc4 hQ
     have e5:=e4 hr
     rw[zcU] at e5
     subst e5
     simp(disch:=first|omega|assumption) only[hcf,hlt4,hc4,go_sem]
     exact hQ _ _ _ _ nofun rfl (by simp[zd,ze,AV.strip,AV.strip1,zjt,hr,zwH])
   ·rintro done x rest ⟨o4,l4⟩ H4 J4 hd hlt4 hlt5 w4 hJ4
    simp only at w4
    have hg:=Yl hd
    have hbm:=zgB done x rest
    rw[← hd] at hbm
    have hwx:=hwf x (by rw[hd];simp)
    have hbx:32*bF x≤Lim:=by simp only[Lim];omega
    have hfw:=zwk x hwx hbx
    obtain⟨nm,on,dirs,sels⟩:=x
    have ef:cF ⟨nm,on,dirs,sels⟩=[.str nm,.str on,.sl .no 2 (cDs dirs),.sl .no 7 (cSs sels)]:=rfl
    rw[ef] at hg hfw
    simp(disch:=first|omega|assumption) only[hcf,hlt4,hg,go_sem]
    refine zc fun b hb=>?_
    have w5:=w4.alloc (x:=.cells [.str nm,.str on,.sl .no 2 (cDs dirs),.sl .no 7 (cSs sels)]) hb
    simp(disch:=first|omega|assumption) only[go_sem]
    refine zu hfw w5 (by omega) (by omega) (by simp only[Lim,Al3];omega) fun o6 l6 H6 w6 _=>?_
    simp(disch:=first|omega|assumption) only[wrap64,go_sem]
    exact goJ (hJ4 (o6,l6) H6 (w6.cast (by rw[zpd];omega) (by simp[zhT,YU]) (by simp))) (by simp(disch:=first|omega|assumption) only[go_sem])
  ·rintro done x rest ⟨o4,l4⟩ H4 J4 hd hlt4 hlt5 w4 hJ4
   simp only at w4
   have hg:=Yk hd
   have hbm:=YE done x rest
   rw[← hd] at hbm
   have hwx:=hwo x (by rw[hd];simp)
   have hbx:64*bO x≤Lim:=by simp only[Lim];omega
   have hfw:=zxS x hwx hbx
   have hrO:=zoo x
   obtain⟨k,nm,vars,dirs,sels⟩:=x
   have ef:cO ⟨k,nm,vars,dirs,sels⟩=[.int .i64 k,.str nm,.sl .no 10 (cWs vars),.sl .no 2 (cDs dirs),.sl .no 7 (cSs sels)]:=rfl
   rw[ef] at hg hfw
   simp(disch:=first|omega|assumption) only[hco,hlt4,hg,go_sem]
   refine zc fun b hb=>?_
   have w5:=w4.alloc (x:=.cells [.int .i64 k,.str nm,.sl .no 10 (cWs vars),.sl .no 2 (cDs dirs),.sl .no 7 (cSs sels)]) hb
   simp(disch:=first|omega|assumption) only[go_sem]
   refine zu hfw w5 (by omega) (by omega) (by simp only[Lim,Al3];omega) fun o6 l6 H6 w6 _=>?_
   simp(disch:=first|omega|assumption) only[wrap64,go_sem]
   exact goJ (hJ4 (o6,l6) H6 (w6.cast (by rw[zoS];omega) (by rw[hrO];simp[YU]) (by simp))) (by simp(disch:=first|omega|assumption) only[go_sem])
theorem znW (d:DocD) (hw:zcc d) (hb:64*zq d+64≤Lim):zg Tryz.prog 12 [.agg (zP d)] (.bool (Zx d)):=by
 refine zg.go ir12 ck12 (Al4 _) fun KP Q hQ=>?_
 have ed:zP d=[.sl .no 5 (cOs d.ops),.sl .no 4 (cFs d.frags)]:=rfl
 have hT:=zqw d hw hb
 rw[ed] at hT ⊢
 simp(disch:=first|omega|assumption) only[ir12,go_sem]
 refine za hT ?_
 simp(disch:=first|omega|assumption) only[go_sem]
 exact hQ _ _ _ _ nofun rfl (by simp[zd,ze,AV.strip,AV.strip1])
theorem ztm:zN [116,121,112,101]=true:=by decide
theorem zsp:zN [105,110,116,101,114,102,97,99,101]=true:=by decide
theorem zrF:zN [117,110,105,111,110]=true:=by decide
theorem zsw:zN [101,110,117,109]=true:=by decide
theorem zq6:zN [105,110,112,117,116]=true:=by decide
theorem ztn:zN [105,109,112,108,101,109,101,110,116,115]=true:=by decide
theorem zoj:zN [115,99,104,101,109,97]=true:=by decide
theorem zpM:zN [113,117,101,114,121]=true:=by decide
theorem zvZ:zN [109,117,116,97,116,105,111,110]=true:=by decide
noncomputable def zeC (x:DefD):Bool:=zN x.nm&&(x.faces.all zN&&(x.flds.all zfV&&(decide (x.flds.length≠0)&&(decide (x.parts.length=0)&&decide (x.ps.length=0)))))
def zsk (w:List UInt8) (x:DefD):List Tok:=wk w::wk x.nm::((if x.faces.length=0 then [] else wk [105,109,112,108,101,109,101,110,116,115]::tNs [38] x.faces)++(pk [123]::(x.flds.flatMap tL++[pk [125]])))
theorem zkp (wd:List UInt8) (x:DefD) (hnw:zN wd=true) (hwd:wd.length≤Lim) (hwx:wfE x) (hm:64*bE x≤Lim):WS 240 [.str wd,.agg (cE x)] (64*bE x) (zeC x) (zsk wd x):=by
 intro H w o l ok h hb
 obtain⟨k,nm,faces,flds,parts,ps⟩:=x
 have hm':=hm
 simp only[Lim,bE] at hm'
 simp only[bE] at hb
 have h1:=ZS faces
 have h2:=zah flds
 have h3:=ZS parts
 have h4:=yD ps
 have hfc:=zD faces
 have hfl:=za3 flds
 have hfp:=zD parts
 have hfs:=Zj ps
 rw[yf]
 refine zi.go ir240 ck240 (Al4 _) fun KP Q hQ=>?_
 have w0:=WR.refl h
 obtain⟨n,hn⟩:∃ n,n=(decide (flds.length≠0)&&(decide (parts.length=0)&&decide (ps.length=0))):=⟨_,rfl⟩
 by_cases a1:flds.length=0
 case' pos =>
  have a1':¬ ((0:Int)<(flds.length:Int)):=by omega
  have hbv:n=false:=by rw[hn];simp[a1]
  simp(disch:=omega) only[ir240,hfl,a1',go_sem]
 case' neg =>
  have a1':((0:Int)<(flds.length:Int))=True:=eq_true (by omega)
  have e1:IntKind.wrap .i64 ((parts.length:Int)+(ps.length:Int))=((parts.length+ps.length:Nat):Int):=by rw[wrap64 (by omega) (by omega)];omega
  by_cases a2:parts.length+ps.length=0
  case' pos =>
   have a2':(((parts.length+ps.length:Nat):Int)=0)=True:=eq_true (by omega)
   have hbv:n=true:=by rw[hn];simp only[ne_eq,Al0,yH];omega
   simp(disch:=omega) only[ir240,hfl,a1',hfp,hfs,e1,a2',go_sem]
  case' neg =>
   have a2':¬ (((parts.length+ps.length:Nat):Int)=0):=by omega
   have hbv:n=false:=by rw[hn,Bool.eq_false_iff];simp only[ne_eq,Al0,yH];omega
   simp(disch:=omega) only[ir240,hfl,a1',hfp,hfs,e1,a2',go_sem]
 all_goals
  refine zu (Yn _) w0 (by omega) (by omega) (by omega) fun o1 l1 H1 w1 _=>?_
  simp(disch:=omega) only[go_sem]
  refine zu (yA wd hwd) w1 (by omega) (by omega) (by omega) fun o2 l2 H2 w2 _=>?_
  simp(disch:=omega) only[go_sem]
  refine zu (yA nm (by simp only[Lim];omega)) w2 (by omega) (by omega) (by omega) fun o3 l3 H3 w3 _=>?_
  by_cases hf0:faces.length=0
  case' pos =>
   have hf1:¬ ((0:Int)<(faces.length:Int)):=by omega
   have hf:=zib.1 hf0
   have w5:=w3
   simp(disch:=omega) only[hfc,hf1,go_sem]
  case' neg =>
   have hf1:((0:Int)<(faces.length:Int))=True:=eq_true (by omega)
   have hf:=hf0
   simp(disch:=omega) only[hfc,hf1,go_sem]
   refine zu (yA [105,109,112,108,101,109,101,110,116,115] (by simp[Lim])) w3 (by omega) (by omega) (by omega) fun o4 l4 H4 w4 _=>?_
   simp(disch:=omega) only[go_sem]
   refine zdV (znS [38] faces (by simp only[Lim];omega)) w4 (by omega) fun o5 l5 H5 w5 _=>?_
   simp(disch:=omega) only[go_sem]
  all_goals
   refine zu (y8 [123] _) w5 (by omega) (by omega) (by omega) fun oB lB HB wB sB=>?_
   simp(disch:=omega) only[go_sem]
   refine zdV (zqF flds hwx.1 (by simp only[Lim];omega)) wB (by omega) fun oC lC HC wC sC=>?_
   simp(disch:=omega) only[go_sem]
   refine zu (y8 [125] _) wC (by omega) (by omega) (by omega) fun oD lD HD wD sD=>?_
   simp(disch:=omega) only[go_sem]
   exact hQ _ _ HD HD [] nofun rfl (Low.refl _) ⟨rfl,wD.fin (by simp only[zeC,← hn,hbv,hnw,ztn,hf];simp[YU,Bool.and_comm,Bool.and_left_comm]) (fun _=>by simp[zsk,hf]) (by simp only[bE];omega)⟩
noncomputable def zdK (x:DefD):Bool:=decide (x.parts.length≠0)&&(decide (x.faces.length=0)&&(decide (x.flds.length=0)&&decide (x.ps.length=0)))
noncomputable def zdt (x:DefD):Bool:=zN x.nm&&(if x.k=3 then x.parts.all zN&&zdK x else (x.parts.all zN&&x.parts.all zgb)&&zdK x)
def zqm (x:DefD):List Tok:=if x.k=3 then wk [117,110,105,111,110]::wk x.nm::pk [61]::tNs [124] x.parts else wk [101,110,117,109]::wk x.nm::pk [123]::(x.parts.map wk++[pk [125]])
theorem zsW {α:Type} (p q:α→Bool) (l:List α):(l.all fun x=>q x&&p x)=(l.all p&&l.all q):=by
 induction l with
 | nil=>rfl
 | cons a r ih=>simp only[List.all_cons,ih];cases p a<;>cases q a<;>simp
theorem ztu (x:DefD) (hm:64*bE x≤Lim):WS 241 [.agg (cE x)] (64*bE x) (zdt x) (zqm x):=by
 intro H w o l ok h hb
 obtain⟨k,nm,faces,flds,parts,ps⟩:=x
 have hm':=hm
 simp only[Lim,bE] at hm'
 simp only[bE] at hb
 have h1:=ZS faces
 have h2:=zah flds
 have h3:=ZS parts
 have h4:=yD ps
 have hfc:=zD faces
 have hfl:=za3 flds
 have hfp:=zD parts
 have hfs:=Zj ps
 rw[yf]
 refine zi.go ir241 ck241 (Al4 _) fun KP Q hQ=>?_
 have w0:=WR.refl h
 obtain⟨n,hn⟩:∃ n,n=(decide (parts.length≠0)&&(decide (faces.length=0)&&(decide (flds.length=0)&&decide (ps.length=0)))):=⟨_,rfl⟩
 by_cases a1:parts.length=0
 case' pos =>
  have a1':¬ ((0:Int)<(parts.length:Int)):=by omega
  have hbv:n=false:=by rw[hn];simp[a1]
  simp(disch:=omega) only[ir241,hfp,a1',go_sem]
 case' neg =>
  have a1':((0:Int)<(parts.length:Int))=True:=eq_true (by omega)
  have e1:IntKind.wrap .i64 ((faces.length:Int)+(flds.length:Int))=((faces.length+flds.length:Nat):Int):=by rw[wrap64 (by omega) (by omega)];omega
  have e2:IntKind.wrap .i64 (((faces.length+flds.length:Nat):Int)+(ps.length:Int))=((faces.length+flds.length+ps.length:Nat):Int):=by rw[wrap64 (by omega) (by omega)];omega
  by_cases a2:faces.length+flds.length+ps.length=0
  case' pos =>
   have a2':(((faces.length+flds.length+ps.length:Nat):Int)=0)=True:=eq_true (by omega)
   have hbv:n=true:=by rw[hn];simp only[ne_eq,Al0,yH];omega
   simp(disch:=omega) only[ir241,hfp,a1',hfc,hfl,hfs,e1,e2,a2',go_sem]
  case' neg =>
   have a2':¬ (((faces.length+flds.length+ps.length:Nat):Int)=0):=by omega
   have hbv:n=false:=by rw[hn,Bool.eq_false_iff];simp only[ne_eq,Al0,yH];omega
   simp(disch:=omega) only[ir241,hfp,a1',hfc,hfl,hfs,e1,e2,a2',go_sem]
 all_goals
  refine zu (Yn _) w0 (by omega) (by omega) (by omega) fun o1 l1 H1 w1 _=>?_
  by_cases hk:k=3
  ·have hk':=eq_true hk
   simp(disch:=omega) only[hk',go_sem]
   refine zu (yA [117,110,105,111,110] (by simp[Lim])) w1 (by omega) (by omega) (by omega) fun o2 l2 H2 w2 _=>?_
   simp(disch:=omega) only[go_sem]
   refine zu (yA nm (by simp only[Lim];omega)) w2 (by omega) (by omega) (by omega) fun o3 l3 H3 w3 _=>?_
   simp(disch:=omega) only[go_sem]
   refine zu (y8 [61] _) w3 (by omega) (by omega) (by omega) fun o4 l4 H4 w4 _=>?_
   simp(disch:=omega) only[go_sem]
   refine zdV (znS [124] parts (by simp only[Lim];omega)) w4 (by omega) fun o5 l5 H5 w5 _=>?_
   simp(disch:=omega) only[go_sem]
   exact hQ _ _ H5 H5 [] nofun rfl (Low.refl _) ⟨rfl,w5.fin (by simp only[zdt,if_pos hk,zdK,← hn,hbv,zrF];simp[YU,Bool.and_comm,Bool.and_left_comm]) (fun _=>by simp[zqm,hk]) (by simp only[bE];omega)⟩
  ·simp(disch:=omega) only[hk,go_sem]
   refine zu (yA [101,110,117,109] (by simp[Lim])) w1 (by omega) (by omega) (by omega) fun o2 l2 H2 w2 _=>?_
   simp(disch:=omega) only[go_sem]
   refine zu (yA nm (by simp only[Lim];omega)) w2 (by omega) (by omega) (by omega) fun o3 l3 H3 w3 _=>?_
   simp(disch:=omega) only[go_sem]
   refine zu (y8 [123] _) w3 (by omega) (by omega) (by omega) fun o4 l4 H4 w4 _=>?_
   simp(disch:=omega) only[hfp,go_sem]
   refine zf parts 61 (fun x:Own×List Tok=>[]) (fun done rest x H'=>WR H o w l ok 0 (4+bT done) (n&&(zN nm&&done.all fun s=>zgb s&&zN s)) (wk [101,110,117,109]::wk nm::pk [123]::done.map wk) H' x.1 x.2) (o4,l4) (by simp(disch:=omega) only[go_sem]) (w4.cast (by omega) (by simp[hbv,zsw]) (by simp)) ?_ ?_
   ·rintro⟨o5,l5⟩ H5 J5 w5 hlt
    simp only at w5
    simp(disch:=omega) only[hfp,hlt,go_sem]
    refine zu (y8 [125] _) w5 (by omega) (by omega) (by omega) fun o6 l6 H6 w6 _=>?_
    simp(disch:=omega) only[go_sem]
    exact hQ _ _ H6 H6 [] nofun rfl (Low.refl _) ⟨rfl,w6.fin (by rw[zsW];simp only[zdt,if_neg hk,zdK,← hn];simp[YU,Bool.and_comm,Bool.and_left_comm]) (fun _=>by simp[zqm,hk]) (by simp only[bE];omega)⟩
   ·rintro done x rest ⟨o5,l5⟩ H5 J5 hd hlt hlt2 w5 hJ5
    simp only at w5
    have hg:=Yr hd
    have hbm:=zmg done x rest
    rw[← hd] at hbm
    simp(disch:=omega) only[hfp,hlt,hg,go_sem]
    by_cases q1:x=[116,114,117,101]
    case' pos =>
     have q1':=eq_true q1
     have hno:zgb x=false:=by rw[q1];decide
     simp(disch:=omega) only[q1',go_sem]
    case' neg =>
     by_cases q2:x=[102,97,108,115,101]
     case' pos =>
      have q2':=eq_true q2
      have hno:zgb x=false:=by rw[q2];decide
      simp(disch:=omega) only[q1,q2',go_sem]
     case' neg =>
      by_cases q3:x=[110,117,108,108]
      case' pos =>
       have q3':=eq_true q3
       have hno:zgb x=false:=by rw[q3];decide
       simp(disch:=omega) only[q1,q2,q3',go_sem]
      case' neg =>
       have hno:zgb x=true:=by simp[zgb,q1,q2,q3]
       simp(disch:=omega) only[q1,q2,q3,go_sem]
    all_goals
     refine zu (Yn _) w5 (by omega) (by omega) (by omega) fun o6 l6 H6 w6 _=>?_
     simp(disch:=omega) only[go_sem]
     refine zu (yA x (by simp only[Lim];omega)) w6 (by omega) (by omega) (by omega) fun o7 l7 H7 w7 _=>?_
     simp(disch:=omega) only[wrap64,go_sem]
     exact goJ (hJ5 (o7,l7) H7 (w7.cast (by rw[zjO];omega) (by simp[hno,YU]) (by simp))) (by simp(disch:=omega) only[go_sem])
theorem zoi (l:List DefD) (x:DefD):bEs (l++[x])=bEs l+bE x:=by simp[bEs]
theorem zxm (x:DefD) (hwx:wfE x) (hm:64*bE x≤Lim):WS 222 [.agg (cE x)] (64*bE x) (zbr x) (tE x):=by
 have hO1:=zkp [116,121,112,101] x ztm (by simp[Lim]) hwx hm
 have hO2:=zkp [105,110,116,101,114,102,97,99,101] x zsp (by simp[Lim]) hwx hm
 have hP:=ztu x hm
 intro H w o l ok h hb
 obtain⟨k,nm,faces,flds,parts,ps⟩:=x
 rw[yf] at hO1 hO2 hP ⊢
 have hm':=hm
 simp only[Lim,bE] at hm'
 have hb':=hb
 simp only[bE] at hb
 have h1:=ZS faces
 have h2:=zah flds
 have h3:=ZS parts
 have h4:=yD ps
 have hfc:=zD faces
 have hfl:=za3 flds
 have hfp:=zD parts
 have hfs:=Zj ps
 refine zi.go ir222 ck222 (Al4 _) fun KP Q hQ=>?_
 have w0:=WR.refl h
 by_cases k1:k=1
 ·have k1':=eq_true k1
  simp(disch:=omega) only[ir222,k1',go_sem]
  refine zdV hO1 w0 (by omega) fun o2 l2 H2 w2 _=>?_
  simp(disch:=omega) only[go_sem]
  exact hQ _ _ H2 H2 [] nofun rfl (Low.refl _) ⟨rfl,w2.fin (by subst k1;simp[zbr,zeC]) (fun _=>by subst k1;simp[tE,zsk]) (by omega)⟩
 by_cases k2:k=2
 ·have k2':=eq_true k2
  simp(disch:=omega) only[ir222,k1,k2',go_sem]
  refine zdV hO2 w0 (by omega) fun o2 l2 H2 w2 _=>?_
  simp(disch:=omega) only[go_sem]
  exact hQ _ _ H2 H2 [] nofun rfl (Low.refl _) ⟨rfl,w2.fin (by subst k2;simp[zbr,zeC]) (fun _=>by subst k2;simp[tE,zsk]) (by omega)⟩
 by_cases k3:k=3
 ·have k3':=eq_true k3
  simp(disch:=omega) only[ir222,k1,k2,k3',go_sem]
  refine zdV hP w0 (by omega) fun o2 l2 H2 w2 _=>?_
  simp(disch:=omega) only[go_sem]
  exact hQ _ _ H2 H2 [] nofun rfl (Low.refl _) ⟨rfl,w2.fin (by subst k3;simp[zbr,zdt,zdK]) (fun _=>by subst k3;simp[tE,zqm]) (by omega)⟩
 by_cases k4:k=4
 ·have k4':=eq_true k4
  simp(disch:=omega) only[ir222,k1,k2,k3,k4',go_sem]
  refine zdV hP w0 (by omega) fun o2 l2 H2 w2 _=>?_
  simp(disch:=omega) only[go_sem]
  exact hQ _ _ H2 H2 [] nofun rfl (Low.refl _) ⟨rfl,w2.fin (by subst k4;simp[zbr,zdt,zdK]) (fun _=>by subst k4;simp[tE,zqm]) (by omega)⟩
 by_cases k5:k=5
 ·have k5':=eq_true k5
  obtain⟨n,hn⟩:∃ n,n=(decide (ps.length≠0)&&(decide (faces.length=0)&&(decide (flds.length=0)&&decide (parts.length=0)))):=⟨_,rfl⟩
  subst k5
  by_cases a1:ps.length=0
  case' pos =>
   have a1':¬ ((0:Int)<(ps.length:Int)):=by omega
   have hbv:n=false:=by rw[hn];simp[a1]
   simp(disch:=omega) only[ir222,k1,k2,k3,k4,k5',hfs,a1',go_sem]
  case' neg =>
   have a1':((0:Int)<(ps.length:Int))=True:=eq_true (by omega)
   have e1:IntKind.wrap .i64 ((faces.length:Int)+(flds.length:Int))=((faces.length+flds.length:Nat):Int):=by rw[wrap64 (by omega) (by omega)];omega
   have e2:IntKind.wrap .i64 (((faces.length+flds.length:Nat):Int)+(parts.length:Int))=((faces.length+flds.length+parts.length:Nat):Int):=by rw[wrap64 (by omega) (by omega)];omega
   by_cases a2:faces.length+flds.length+parts.length=0
   case' pos =>
    have a2':(((faces.length+flds.length+parts.length:Nat):Int)=0)=True:=eq_true (by omega)
    have hbv:n=true:=by rw[hn];simp only[ne_eq,Al0,yH];omega
    simp(disch:=omega) only[ir222,k1,k2,k3,k4,k5',hfs,a1',hfc,hfl,hfp,e1,e2,a2',go_sem]
   case' neg =>
    have a2':¬ (((faces.length+flds.length+parts.length:Nat):Int)=0):=by omega
    have hbv:n=false:=by rw[hn,Bool.eq_false_iff];simp only[ne_eq,Al0,yH];omega
    simp(disch:=omega) only[ir222,k1,k2,k3,k4,k5',hfs,a1',hfc,hfl,hfp,e1,e2,a2',go_sem]
  all_goals
   refine zu (Yn _) w0 (by omega) (by omega) (by omega) fun o1 l1 H1 w1 _=>?_
   simp(disch:=omega) only[go_sem]
   refine zu (yA [105,110,112,117,116] (by simp[Lim])) w1 (by omega) (by omega) (by omega) fun o2 l2 H2 w2 _=>?_
   simp(disch:=omega) only[go_sem]
   refine zu (yA nm (by simp only[Lim];omega)) w2 (by omega) (by omega) (by omega) fun o3 l3 H3 w3 _=>?_
   simp(disch:=omega) only[go_sem]
   refine zu (y8 [123] _) w3 (by omega) (by omega) (by omega) fun o4 l4 H4 w4 _=>?_
   simp(disch:=omega) only[go_sem]
   refine zdV (zkv ps hwx.2 (by simp only[Lim];omega)) w4 (by omega) fun o5 l5 H5 w5 _=>?_
   simp(disch:=omega) only[go_sem]
   refine zu (y8 [125] _) w5 (by omega) (by omega) (by omega) fun o6 l6 H6 w6 _=>?_
   simp(disch:=omega) only[go_sem]
   exact hQ _ _ H6 H6 [] nofun rfl (Low.refl _) ⟨rfl,w6.fin (by simp only[zbr];rw[if_neg (by omega),if_neg (by omega),if_neg (by omega),if_pos trivial];simp only[← hn,hbv,zq6];simp[YU,Bool.and_comm,Bool.and_left_comm]) (fun _=>by simp only[tE];rw[if_neg (by omega),if_neg (by omega),if_neg (by omega)];simp) (by simp only[bE];omega)⟩
 ·simp(disch:=omega) only[ir222,k1,k2,k3,k4,k5,go_sem]
  refine zu (Yn false) w0 (by omega) (by omega) (by omega) fun o2 l2 H2 w2 _=>?_
  simp(disch:=omega) only[go_sem]
  exact hQ _ _ H2 H2 [] nofun rfl (Low.refl _) ⟨rfl,w2.fin (by simp[zbr,k1,k2,k3,k4,k5]) (fun e=>by simp[zbr,k1,k2,k3,k4,k5] at e) (by omega)⟩
theorem zs3 (s:SchD) (hw:zch s) (hb:64*zI s+64≤Lim):zi Tryz.prog 177 [.agg (zl s)] zb.emp (ztD fun v H'=>H'=zb.emp∧∃ L,v=.tup [.sl .no 2 (cKs L),.bool (zdl s)]):=by
 refine zi.go ir177 ck177 (Al4 _) fun KP Q hQ=>?_
 obtain⟨defs,q,m⟩:=s
 have hle:=ze2 defs
 have hce:=zff defs
 have hb':=hb
 simp only[zI,Lim] at hb'
 have ed:zl ⟨defs,q,m⟩=[.sl .no 6 (cEs defs),.str q,.str m]:=rfl
 obtain⟨R3,hR3⟩:∃ R3,R3=(zN q&&(decide (m=[])||zN m)):=⟨_,rfl⟩
 simp(disch:=first|omega|assumption) only[ir177,ed,go_sem]
 refine zfa zxk fun v H1 ⟨w,hv,hW⟩=>?_
 subst hv
 simp(disch:=first|omega|assumption) only[go_sem]
 refine zc fun b hb=>?_
 have hbw:b≠w:=fun e=>by subst e;rw[hW.cell] at hb;cases hb
 have w0:=(WR.refl hW).alloc (x:=.cells [.ptr w 0]) hb
 have g0:(H1.upd b (.cells [.ptr w 0])) b=some (.cells [.ptr w 0]):=upd_same ..
 simp(disch:=first|omega|assumption) only[go_sem]
 refine zu (yA [115,99,104,101,109,97] (by simp[Lim])) w0 (by omega) (by omega) (by simp only[Lim,Al3];omega) fun o1 l1 H2 w1 s1=>?_
 have g1:=s1.box w0.here.own g0 hbw
 simp(disch:=first|omega|assumption) only[g1,go_sem]
 refine zu (y8 [123] _) w1 (by omega) (by omega) (by simp only[Lim,Al3];omega) fun o2 l2 H3 w2 s2=>?_
 have g2:=s2.box w1.here.own g1 hbw
 simp(disch:=first|omega|assumption) only[g2,go_sem]
 refine zu (yA [113,117,101,114,121] (by simp[Lim])) w2 (by omega) (by omega) (by simp only[Lim,Al3];omega) fun o3 l3 H4 w3 s3=>?_
 have g3:=s3.box w2.here.own g2 hbw
 simp(disch:=first|omega|assumption) only[g3,go_sem]
 refine zu (y8 [58] _) w3 (by omega) (by omega) (by simp only[Lim,Al3];omega) fun o4 l4 H5 w4 s4=>?_
 have g4:=s4.box w3.here.own g3 hbw
 simp(disch:=first|omega|assumption) only[g4,go_sem]
 refine zu (yA q (by simp only[Lim];omega)) w4 (by omega) (by omega) (by simp only[Lim,Al3];omega) fun o5 l5 H6 w5 s5=>?_
 have g5:=s5.box w4.here.own g4 hbw
 by_cases hm0:m=[]
 case' pos =>
  have hm1:=eq_true hm0
  have w8:=w5
  have g8:=g5
  simp(disch:=first|omega|assumption) only[hm1,g5,go_sem]
 case' neg =>
  simp(disch:=first|omega|assumption) only[hm0,g5,go_sem]
  refine zu (yA [109,117,116,97,116,105,111,110] (by simp[Lim])) w5 (by omega) (by omega) (by simp only[Lim,Al3];omega) fun o6 l6 H7 w6 s6=>?_
  have g6:=s6.box w5.here.own g5 hbw
  simp(disch:=first|omega|assumption) only[g6,go_sem]
  refine zu (y8 [58] _) w6 (by omega) (by omega) (by simp only[Lim,Al3];omega) fun o7 l7 H8 w7 s7=>?_
  have g7:=s7.box w6.here.own g6 hbw
  simp(disch:=first|omega|assumption) only[g7,go_sem]
  refine zu (yA m (by simp only[Lim];omega)) w7 (by omega) (by omega) (by simp only[Lim,Al3];omega) fun o8 l8 H9 w8 s8=>?_
  have g8:=s8.box w7.here.own g7 hbw
  simp(disch:=first|omega|assumption) only[g8,go_sem]
 all_goals
  refine zu (y8 [125] _) w8 (by omega) (by omega) (by simp only[Lim,Al3];omega) fun oB lB HB wB sB=>?_
  have gB:=sB.box w8.here.own g8 hbw
  simp(disch:=first|omega|assumption) only[gB,hce,go_sem]
  refine zf defs 50 (fun x:Own×List Tok=>[]) (fun done rest x H'=>WR H1 .nil w [] true 0 (10+64*bEs done) (R3&&done.all zbr) (tRt q m++done.flatMap tE) H' x.1 x.2∧H' b=some (.cells [.ptr w 0])) (oB,lB) (by simp(disch:=first|omega|assumption) only[go_sem]) ⟨wB.castC (by omega) (by rw[hR3];simp[zoj,zpM,zvZ,hm0,YU]) (fun _=>by simp[tRt,hm0]),gB⟩ ?_ ?_
  ·rintro⟨o4,l4⟩ H4 J4 ⟨w4,g4⟩ hlt4
   simp only at w4 g4
   have er:zdl ⟨defs,q,m⟩=(R3&&defs.all zbr):=by rw[hR3,Bool.and_comm];rfl
   have hc4:=w4.here.cell
   rw[← er,Bool.true_and] at hc4
   simp(disch:=first|omega|assumption) only[hce,hlt4,g4,hc4,go_sem]
   exact hQ _ _ _ zb.emp [_,_] nofun rfl (Low.of_sub nofun) ⟨rfl,l4,rfl⟩
  ·rintro done x rest ⟨o4,l4⟩ H4 J4 hd hlt4 hlt5 ⟨w4,g4⟩ hJ4
   simp only at w4 g4
   have hg:=zeV hd
   have hbm:=zmY done x rest
   rw[← hd] at hbm
   have hwx:=hw x (by rw[hd];simp)
   have hfw:=zxm x hwx (by simp only[Lim];omega)
   obtain⟨k,nm,faces,flds,parts,ps⟩:=x
   rw[yf] at hg hfw
   simp(disch:=first|omega|assumption) only[hce,hlt4,hg,go_sem]
   refine zc fun b6 hb6=>?_
   have h6:b6≠b:=fun e=>by subst e;rw[g4] at hb6;cases hb6
   have w5:=w4.alloc (x:=.cells [.int .i64 k,.str nm,.sl .no 1 (cT faces),.sl .no 6 (cLs flds),.sl .no 1 (cT parts),.sl .no 10 (cWs ps)]) hb6
   have g5:(H4.upd b6 (.cells [.int .i64 k,.str nm,.sl .no 1 (cT faces),.sl .no 6 (cLs flds),.sl .no 1 (cT parts),.sl .no 10 (cWs ps)])) b=some (.cells [.ptr w 0]):=by rw[upd_ne (Ne.symm h6)];exact g4
   simp(disch:=first|omega|assumption) only[g5,go_sem]
   refine zdV hfw w5 (by simp only[Lim,Al3];omega) fun o6 l6 H6 w6 s6=>?_
   have g6:=s6.box w5.here.own g5 hbw
   simp(disch:=first|omega|assumption) only[wrap64,go_sem]
   exact goJ (hJ4 (o6,l6) H6 ⟨w6.cast (by rw[zoi];omega) (by simp[YU]) (by simp),g6⟩) (by simp(disch:=first|omega|assumption) only[go_sem])
theorem ztT (s:SchD) (hw:zch s) (hb:64*zI s+64≤Lim):zg Tryz.prog 96 [.agg (zl s)] (.bool (zdl s)):=by
 refine zg.go ir96 ck96 (Al4 _) fun KP Q hQ=>?_
 have ed:zl s=[.sl .no 6 (cEs s.defs),.str s.q,.str s.m]:=rfl
 have hT:=zs3 s hw hb
 rw[ed] at hT ⊢
 simp(disch:=first|omega|assumption) only[ir96,go_sem]
 refine zfa hT fun v H1 ⟨hH,L,hv⟩=>?_
 subst hv;subst hH
 simp(disch:=first|omega|assumption) only[go_sem]
 exact hQ _ _ _ _ nofun rfl (by simp[zd,ze,AV.strip,AV.strip1])
theorem ztR (s:SchD) (n:List UInt8) (hl:s.defs.length≤Lim):zg Tryz.prog 100 [.str n,.view (zl s)] (.bool (yQ s n [0])):=by
 have h1:=zcM s n [0] hl (by simp[Lim])
 generalize yQ s n [0]=x1 at *
 obtain⟨sd,sq,sm⟩:=s
 simp only[zl] at h1 ⊢
 refine zg.go ir100 ck100 (Al4 _) fun KP Q hQ=>?_
 simp(disch:=omega) only[ir100,go_sem]
 refine za (zg.low h1) ?_
 simp(disch:=omega) only[go_sem]
 exact hQ _ _ _ _ nofun rfl (by simp[zd,ze,AV.strip,AV.strip1])
noncomputable def zgy (s:SchD):Bool:=zdl s&&zan (s.defs.map (·.nm))&&zbi (s.defs.map (·.nm))&&!(s.defs.map (·.nm)).any fun n=>yQ s n [0]
theorem zsB (s:SchD) (hw:zch s) (hb:64*zI s+64≤Lim):zg Tryz.prog 48 [.agg (zl s)] (.bool (zgy s)):=by
 have hbs:zI s≤Lim:=by simp only[Lim] at hb ⊢;omega
 have hl:=z7 hbs
 have hml:(s.defs.map (·.nm)).length≤Lim:=by rw[List.length_map];exact hl
 have h0:=zlZ s.defs hl
 have h1:=ztT s hw hb
 have h2:=zod (s.defs.map (·.nm)) hml
 have h3:=zlL (s.defs.map (·.nm)) hml
 have h4:=zl7 (fun n:List UInt8=>AV.str n) (s.defs.map (·.nm)) 100 [.view (zl s)] (fun n=>yQ s n [0]) hml (by kernel_rfl) fun n _=>ztR s n hl
 unfold zgy
 generalize zdl s=x1 at *
 generalize zan (s.defs.map (·.nm))=x2 at *
 generalize zbi (s.defs.map (·.nm))=x3 at *
 generalize (s.defs.map (·.nm)).any (fun n=>yQ s n [0])=x4 at *
 generalize s.defs.map (·.nm)=l at *
 obtain⟨sd,sq,sm⟩:=s
 simp only[zl] at h0 h1 h4 ⊢
 refine zg.go ir48 ck48 (Al4 _) fun KP Q hQ=>?_
 simp(disch:=omega) only[ir48,go_sem]
 refine za h0 ?_
 simp(disch:=omega) only[go_sem]
 refine za h1 ?_
 cases x1 with
 | false =>
  simp(disch:=omega) only[go_sem]
  exact hQ _ _ _ _ nofun rfl (by simp[zd,ze,AV.strip,AV.strip1])
 | true =>
 simp(disch:=omega) only[go_sem]
 refine za h2 ?_
 cases x2 with
 | false =>
  simp(disch:=omega) only[go_sem]
  exact hQ _ _ _ _ nofun rfl (by simp[zd,ze,AV.strip,AV.strip1])
 | true =>
 simp(disch:=omega) only[go_sem]
 refine za h3 ?_
 cases x3 with
 | false =>
  simp(disch:=omega) only[go_sem]
  exact hQ _ _ _ _ nofun rfl (by simp[zd,ze,AV.strip,AV.strip1])
 | true =>
 simp(disch:=omega) only[go_sem]
 refine za h4 ?_
 simp(disch:=omega) only[go_sem]
 exact hQ _ _ _ _ nofun rfl (by simp[zd,ze,AV.strip,AV.strip1])
noncomputable def zcF (s:SchD) (n:Int):Bool :=
 if n=1 then zgy s else if n=2 then zjT s else if n=3 then zeG s else if n=4 then zdr s else if n=5 then zjK s
 else if n=6 then zjn s else if n=7 then zj5 s else if n=8 then zm9 s else if n=9 then ztF s else false
theorem zvP (s:SchD) (n:Int) (hw:zch s) (hb:64*zI s+64≤Lim):zg Tryz.prog 33 [.agg (zl s),.int .i64 n] (.bool (zcF s n)):=by
 have hbs:zI s≤Lim:=by simp only[Lim] at hb ⊢;omega
 have r1:=zsB s hw hb
 have r2:=zvc s hbs
 have r3:=zqi s hbs
 have r4:=zwg s hbs
 have r5:=zvE s hbs
 have r6:=zvW s (by simp only[Lim] at hb ⊢;omega)
 have r7:=zvS s hbs
 have r8:=zxa s hbs
 have r9:=zoZ s hbs
 have eR:zcF s n=zcF s n:=rfl
 conv at eR=>rhs;unfold zcF
 generalize zcF s n=F at *
 generalize zgy s=x1 at *
 generalize zjT s=x2 at *
 generalize zeG s=x3 at *
 generalize zdr s=x4 at *
 generalize zjK s=x5 at *
 generalize zjn s=x6 at *
 generalize zj5 s=x7 at *
 generalize zm9 s=x8 at *
 generalize ztF s=x9 at *
 obtain⟨sd,sq,sm⟩:=s
 simp only[zl] at r1 r2 r3 r4 r5 r6 r7 r8 r9 ⊢
 refine zg.go ir33 ck33 (Al4 _) fun KP Q hQ=>?_
 by_cases h1:n=1
 ·subst h1
  rw[if_pos rfl] at eR
  subst eR
  simp(disch:=omega) only[ir33,go_sem]
  refine za r1 ?_
  simp(disch:=omega) only[go_sem]
  exact hQ _ _ _ _ nofun rfl (by simp[zd,ze,AV.strip,AV.strip1])
 rw[if_neg h1] at eR
 by_cases h2:n=2
 ·subst h2
  rw[if_pos rfl] at eR
  subst eR
  simp(disch:=omega) only[ir33,go_sem]
  refine za r2 ?_
  simp(disch:=omega) only[go_sem]
  exact hQ _ _ _ _ nofun rfl (by simp[zd,ze,AV.strip,AV.strip1])
 rw[if_neg h2] at eR
 by_cases h3:n=3
 ·subst h3
  rw[if_pos rfl] at eR
  subst eR
  simp(disch:=omega) only[ir33,go_sem]
  refine za r3 ?_
  simp(disch:=omega) only[go_sem]
  exact hQ _ _ _ _ nofun rfl (by simp[zd,ze,AV.strip,AV.strip1])
 rw[if_neg h3] at eR
 by_cases h4:n=4
 ·subst h4
  rw[if_pos rfl] at eR
  subst eR
  simp(disch:=omega) only[ir33,go_sem]
  refine za r4 ?_
  simp(disch:=omega) only[go_sem]
  exact hQ _ _ _ _ nofun rfl (by simp[zd,ze,AV.strip,AV.strip1])
 rw[if_neg h4] at eR
 by_cases h5:n=5
 ·subst h5
  rw[if_pos rfl] at eR
  subst eR
  simp(disch:=omega) only[ir33,go_sem]
  refine za r5 ?_
  simp(disch:=omega) only[go_sem]
  exact hQ _ _ _ _ nofun rfl (by simp[zd,ze,AV.strip,AV.strip1])
 rw[if_neg h5] at eR
 by_cases h6:n=6
 ·subst h6
  rw[if_pos rfl] at eR
  subst eR
  simp(disch:=omega) only[ir33,go_sem]
  refine za r6 ?_
  simp(disch:=omega) only[go_sem]
  exact hQ _ _ _ _ nofun rfl (by simp[zd,ze,AV.strip,AV.strip1])
 rw[if_neg h6] at eR
 by_cases h7:n=7
 ·subst h7
  rw[if_pos rfl] at eR
  subst eR
  simp(disch:=omega) only[ir33,go_sem]
  refine za r7 ?_
  simp(disch:=omega) only[go_sem]
  exact hQ _ _ _ _ nofun rfl (by simp[zd,ze,AV.strip,AV.strip1])
 rw[if_neg h7] at eR
 by_cases h8:n=8
 ·subst h8
  rw[if_pos rfl] at eR
  subst eR
  simp(disch:=omega) only[ir33,go_sem]
  refine za r8 ?_
  simp(disch:=omega) only[go_sem]
  exact hQ _ _ _ _ nofun rfl (by simp[zd,ze,AV.strip,AV.strip1])
 rw[if_neg h8] at eR
 by_cases h9:n=9
 ·subst h9
  rw[if_pos rfl] at eR
  subst eR
  simp(disch:=omega) only[ir33,go_sem]
  refine za r9 ?_
  simp(disch:=omega) only[go_sem]
  exact hQ _ _ _ _ nofun rfl (by simp[zd,ze,AV.strip,AV.strip1])
 rw[if_neg h9] at eR
 subst eR
 simp(disch:=omega) only[ir33,h1,h2,h3,h4,h5,h6,h7,h8,h9,go_sem]
 exact hQ _ _ _ _ nofun rfl (by simp[zd,ze,AV.strip,AV.strip1])
noncomputable def zcJ (s:SchD):Nat→Int→Int
 | 0,_=>0
 | k+1,n=>if zcF s n=true then zcJ s k (n+1) else n
theorem ztM (s:SchD) (hw:zch s) (hb:64*zI s+64≤Lim):zg Tryz.prog 16 [.agg (zl s)] (.int .i64 (zcJ s 9 1)):=by
 have hR:=fun n=>zvP s n hw hb
 generalize hF:zcJ s 9 1=F
 obtain⟨sd,sq,sm⟩:=s
 simp only[zl] at hR ⊢
 refine zg.go ir16 ck16 (Al4 _) fun KP Q hQ=>?_
 simp(disch:=omega) only[ir16,go_sem]
 refine zcZ (fun x:Nat×Int=>[(3,.int .i64 x.2)]) (fun x _=>(x.1:Int)+x.2=10∧x.1≤9∧zcJ ⟨sd,sq,sm⟩ x.1 x.2=F) (fun x=>x.1) (9,1) (by simp(disch:=omega) only[go_sem]) ⟨by omega,by omega,hF⟩ ?_
 rintro⟨k,n⟩ H J ⟨hk,hn9,hn⟩ hJ
 simp only at hk hn9 hn
 cases k with
 | zero =>
  simp only[zcJ] at hn
  subst hn
  have hle:¬ (n≤9):=by omega
  simp(disch:=omega) only[hle,go_sem]
  exact hQ _ _ _ _ nofun rfl (by simp[zd,ze,AV.strip,AV.strip1])
 | succ k =>
  simp only[zcJ] at hn
  have hr:=hR n
  have hle:(n≤9)=True:=eq_true (by omega)
  generalize hx:zcF ⟨sd,sq,sm⟩ n=x at *
  simp(disch:=omega) only[hle,go_sem]
  refine za hr ?_
  cases x with
  | true =>
   rw[if_pos rfl] at hn
   simp(disch:=omega) only[wrap64,go_sem]
   exact goJ (hJ (k,n+1) _ (by simp only;omega) ⟨by simp only;omega,by simp only;omega,hn⟩) (by simp(disch:=omega) only[wrap64,go_sem])
  | false =>
   rw[if_neg (by simp)] at hn
   subst hn
   simp(disch:=omega) only[go_sem]
   exact hQ _ _ _ _ nofun rfl (by simp[zd,ze,AV.strip,AV.strip1])
theorem zu2 (f:FragD) (l:List (List UInt8)) (b:Nat) (o:Own) (H:zb) (hb:H b=some (.cells [.sl o 1 (cT l)])) (hl:l.length≤Lim):zi Tryz.prog 142 [.agg (cF f),.ptr b 0] H (At (.bool (!zL f.nm l)) H):=by
 have h1:=yE l f.nm hl
 obtain⟨nm,on,ds,ss⟩:=f
 simp only at h1 ⊢
 generalize zL nm l=x1 at *
 refine zi.go ir142 ck142 (Al4 _) fun KP Q hQ=>?_
 simp(disch:=omega) only[ir142,Z7,hb,go_sem]
 refine za (zg.low h1) ?_
 simp(disch:=omega) only[go_sem]
 exact hQ _ _ _ _ _ nofun rfl (Low.refl _) ⟨by simp[zd,ze,AV.strip,AV.strip1],rfl⟩
theorem zse {H:zb} {o:Own} {n sz b:Nat} {cs cs':List AV} (h:zK H o n sz) (hb:H b=some (.cells cs)):zK (H.upd b (.cells cs')) o n sz:=by
 cases o with
 | tip c d =>
  have hc:H c=some (.tip (d+n) sz):=h
  have hne:c≠b:=fun e=>by subst e;rw[hb] at hc;cases hc
  show (H.upd b _) c=_
  simp[zb.upd,hne,hc]
 | no=>exact h
 | nil=>exact h
 | full=>exact h
def zxt (d:DocD):List (List UInt8):=d.ops.foldl (fun l o=>l++zT d o.sels) []
def zhq (d:DocD):Bool:=!d.frags.any fun f=>!zL f.nm (zxt d)
theorem zxd (d:DocD) (hb:yW d≤Lim) (hb2:lenD d*zq d+zq d≤1099511627776):zg Tryz.prog 66 [.agg (zP d)] (.bool (zhq d)):=by
 have hb3:=hb
 simp only[yW] at hb3
 have hb4:2*(zq d+zq d)≤1099511627776:=by simpa only[Lim] using hb3
 have h0:bOs d.ops+bFs d.frags=zq d:=rfl
 have hfl:=yx d.frags
 have hol:=y9 d.ops
 have hR:=fun(o:OpD) (H:zb) (ho:bSs o.sels+bFs d.frags≤zq d)=>zgL d o.sels H (by omega)
 have hRl:=fun o:OpD=>zcr d o.sels
 have hop:=fun(o:OpD) (ho:o∈d.ops)=>(by
  obtain⟨a,b,hd⟩:=List.append_of_mem ho
  have:=YE a o b
  rw[← hd] at this
  simp only[bO] at this;omega:bSs o.sels+bFs d.frags≤zq d)
 have hany:=fun(l:List (List UInt8)) (b:Nat) (o:Own) (H:zb) (hb:H b=some (.cells [.sl o 1 (cT l)])) (hl:l.length≤Lim)=>zrb cF (fun _=>rfl) d.frags 142 [.ptr b 0] (fun f=>!zL f.nm l) H (by omega) (by kernel_rfl) fun f _=>zu2 f l b o H hb hl
 have e0:zhq d=!d.frags.any fun f=>!zL f.nm (d.ops.foldl (fun l o=>l++zT d o.sels) []):=rfl
 generalize zhq d=F at *
 generalize hRe:zT d=R at *
 generalize hB:zq d=B at *
 have l1:=Z8 d.ops
 have hmul:d.ops.length*B≤lenD d*B:=Nat.mul_le_mul_right _ (by simp only[lenD];omega)
 have hcd:zP d=[.sl .no 5 (cOs d.ops),.sl .no 4 (cFs d.frags)]:=rfl
 rw[hcd] at hR ⊢
 refine zg.go ir66 ck66 (Al4 _) fun KP Q hQ=>?_
 simp(disch:=omega) only[ir66,go_sem]
 refine zc fun b3 hb3=>?_
 simp(disch:=omega) only[l1,go_sem]
 refine zf d.ops 9 (fun _:Unit=>[]) (fun done rest _ H'=>∃ o l,rest.foldl (fun l o=>l++R o.sels) l=d.ops.foldl (fun l o=>l++R o.sels) []∧H' b3=some (.cells [.sl o 1 (cT l)])∧zK H' o l.length 1∧l.length≤done.length*B) () (by simp(disch:=omega) only[go_sem]) ⟨.nil,[],rfl,by simp[zb.upd,cT],rfl,by simp⟩ ?_ ?_
 ·rintro _ H1 J ⟨o,l,hn,g3,ho,hle⟩ hlt
  simp only[List.foldl] at hn
  rw[← hn] at e0
  have h5:=zi.low (args:=[.sl .no 4 (cFs d.frags),.clo 142 [] [.ptr b3 0]]) (hany l b3 o H1 g3 (by simp only[Lim];omega))
  simp(disch:=omega) only[l1,hlt,g3,go_sem]
  refine zY h5 ?_
  rintro _ _ ⟨_,rfl,rfl,rfl⟩
  simp(disch:=omega) only[ZU,go_sem]
  exact hQ _ _ _ _ nofun rfl (by simp[zd,ze,AV.strip,AV.strip1,e0])
 ·rintro done x rest _ H1 J hd hlt hlt2 ⟨o,l,hn,g3,ho,hle⟩ hJ
  have hg:=Yk hd
  have hxm:x∈d.ops:=by rw[hd];simp
  have hxs:=hop x hxm
  have hRx:=fun H=>hR x H hxs
  have hRlx:=hRl x
  have hml:(done.length+1)*B≤d.ops.length*B:=Nat.mul_le_mul_right _ (by omega)
  rw[Nat.add_mul,Nat.one_mul] at hml
  simp only[List.foldl] at hn
  obtain⟨k,nm,vs,ds,ss⟩:=x
  simp only at hRx hRlx hn hxs
  have h3:=zD l
  have h4:=zD (R ss)
  have hRl':(R ss).length≤B:=by omega
  rw[zap] at hg
  simp(disch:=omega) only[l1,hlt,hg,go_sem]
  refine zc fun b5 hb5=>?_
  have hb53:b5≠b3:=fun e=>by subst e;rw[g3] at hb5;cases hb5
  simp(disch:=omega) only[g3,hb53,Ne.symm hb53,go_sem]
  refine zB (hRx _) fun o2 H2 hs2=>?_
  have k3:=hs2.kept b3 _ (by simp only[zb.upd,Ne.symm hb53,if_false];exact g3) (fun d e=>by cases e)
  have k5:=hs2.kept b5 _ (upd_same ..) (fun d e=>by cases e)
  have ko:zK H2 o l.length 1:=zK.ofKept (ho.upd hb5) hs2.kept fun _ _ _ _ e=>by cases e
  simp(disch:=omega) only[g3,k3,k5,hb53,Ne.symm hb53,go_sem]
  refine zp (by rw[h3];exact ko) ?_ ?_ fun o' H3 hs3=>?_
  ·simp only[h3,h4];omega
  ·simp only[h3,h4,maxLen];omega
  have e1:cT l++(cT (R ss)).map (·.map AV.strip1)=cT (l++R ss):=by simp[cT];intro a _;rfl
  have hs4:=hs3
  simp only[h3,h4] at hs4
  have nt:∀ b c,H2 b=some (.cells c)→∀ d,o≠.tip b d:=fun b c hc d e=>by subst e;simp only[zK] at ko;rw[hc] at ko;cases ko
  have j3:=hs4.kept b3 _ k3 (nt b3 _ k3)
  simp(disch:=omega) only[wrap64,j3,e1,go_sem]
  have hol3:zK (H3.upd b3 (.cells [.sl o' 1 (cT (l++R ss))])) o' (l++R ss).length 1:=zse (by simpa using hs4.own) j3
  exact goJ (hJ () _ ⟨o',l++R ss,hn,upd_same ..,hol3,by simp only[Al5,Al2,Al3,Nat.add_mul,Nat.one_mul];omega⟩) (by simp(disch:=omega) only[wrap64,go_sem])
noncomputable def ZT (s:SchD) (d:DocD) (n:Int):Bool :=
 if n=1 then zan ((d.ops.map (·.nm)).filter (fun n=>!decide (n=[])))
 else if n=2 then decide (0<d.ops.length)&&(decide (d.ops.length=1)||!zL [] (d.ops.map (·.nm)))
 else if n=3 then !decide (s.m=[])||!d.ops.any fun o=>decide (o.k=1)
 else if n=4 then zan (d.frags.map (·.nm))
 else if n=5 then onM s d
 else if n=6 then zc1 d
 else if n=7 then !zav d
 else if n=8 then zhq d
 else false
theorem zxB (o:OpD):zg Tryz.prog 61 [.agg (cO o)] (.bool (decide (o.k=1))):=by
 obtain⟨k,nm,vs,ds,ss⟩:=o
 rw[zap]
 refine zg.go ir61 ck61 (Al4 _) fun KP Q hQ=>?_
 simp(disch:=omega) only[ir61,go_sem]
 exact hQ _ _ _ _ nofun rfl (by simp[zd,ze,AV.strip,AV.strip1])
theorem zvh (s:SchD) (d:DocD) (n:Int) (hs:zI s≤Lim) (hb:yW d≤Lim) (hb2:lenD d*zq d+zq d≤1099511627776):zg Tryz.prog 34 [.agg (zl s),.agg (zP d),.int .i64 n] (.bool (ZT s d n)):=by
 have hb3:=hb
 simp only[yW,Lim] at hb3
 have hbd:zq d≤Lim:=by simp only[Lim];omega
 have hd1:=y9 d.ops
 have hd2:=yx d.frags
 have h0:bOs d.ops+bFs d.frags=zq d:=rfl
 have r1:=fun H=>zvd d H hbd
 have r1':=fun o:Own=>zg.low (args:=[.sl o 1 (cT ((d.ops.map (·.nm)).filter (fun n=>!decide (n=[]))))]) (zqj ((d.ops.map (·.nm)).filter (fun n=>!decide (n=[]))) (by
  have:=List.length_filter_le (fun n:List UInt8=>!decide (n=[])) (d.ops.map (·.nm))
  rw[List.length_map] at this
  simp only[Lim];omega))
 have r2:=fun H=>zxT d H hbd
 have r2':=fun o:Own=>zg.low (args:=[.sl o 1 (cT (d.ops.map (·.nm))),.str []]) (yE (d.ops.map (·.nm)) [] (by rw[List.length_map];simp only[Lim];omega))
 have r3:=anyOp cO (fun _=>rfl) d.ops 61 [] (fun o=>decide (o.k=1)) (by simp only[Lim];omega) (by kernel_rfl) fun o _=>zxB o
 have r4:=fun H=>zvu d H hbd
 have r4':=fun o:Own=>zg.low (args:=[.sl o 1 (cT (d.frags.map (·.nm)))]) (zqj (d.frags.map (·.nm)) (by rw[List.length_map];simp only[Lim];omega))
 have r5:=onC s d (z7 hs) hbd
 have r6:=zvx d hbd
 have r7:=zqJ d hb
 have r8:=zxd d hb hb2
 have l1:=Z8 d.ops
 have hol:d.ops.length≤1099511627776:=by omega
 have eR:ZT s d n=ZT s d n:=rfl
 conv at eR=>rhs;unfold ZT
 generalize ZT s d n=F at *
 generalize zan ((d.ops.map (·.nm)).filter (fun n=>!decide (n=[])))=x1 at *
 generalize zL [] (d.ops.map (·.nm))=x2 at *
 generalize d.ops.any (fun o=>decide (o.k=1))=x3 at *
 generalize zan (d.frags.map (·.nm))=x4 at *
 generalize onM s d=x5 at *
 generalize zc1 d=x6 at *
 generalize zav d=x7 at *
 generalize zhq d=x8 at *
 obtain⟨ops,frags⟩:=d
 obtain⟨sd,sq,sm⟩:=s
 have hcd:zP ⟨ops,frags⟩=[.sl .no 5 (cOs ops),.sl .no 4 (cFs frags)]:=rfl
 simp only[zl,hcd] at r1 r2 r3 r4 r5 r6 r7 r8 eR l1 hol ⊢
 refine zg.go ir34 ck34 (Al4 _) fun KP Q hQ=>?_
 by_cases h1:n=1
 ·subst h1
  rw[if_pos rfl] at eR
  subst eR
  simp(disch:=omega) only[ir34,go_sem]
  refine zB (r1 _) fun o1 H1 _=>?_
  simp(disch:=omega) only[go_sem]
  refine za (r1' o1) ?_
  simp(disch:=omega) only[go_sem]
  exact hQ _ _ _ _ nofun rfl (by simp[zd,ze,AV.strip,AV.strip1])
 rw[if_neg h1] at eR
 by_cases h2:n=2
 ·subst h2
  rw[if_pos rfl] at eR
  subst eR
  by_cases z0:0<ops.length
  case neg =>
   have z1:¬ ((0:Int)<ops.length):=by omega
   simp(disch:=omega) only[ir34,l1,z1,go_sem]
   exact hQ _ _ _ _ nofun rfl (by simp[zd,ze,AV.strip,AV.strip1,z0])
  have z1:(0:Int)<ops.length:=by omega
  have z1':((0:Int)<ops.length)=True:=eq_true z1
  by_cases y:ops.length=1
  ·have y':((ops.length:Int)=1)=True:=eq_true (by omega)
   simp(disch:=omega) only[ir34,l1,z1',y',go_sem]
   exact hQ _ _ _ _ nofun rfl (by simp[zd,ze,AV.strip,AV.strip1,z0,y])
  ·have y':¬ ((ops.length:Int)=1):=by omega
   simp(disch:=omega) only[ir34,l1,z1',y',go_sem]
   refine zB (r2 _) fun o1 H1 _=>?_
   simp(disch:=omega) only[go_sem]
   refine za (r2' o1) ?_
   simp(disch:=omega) only[go_sem]
   exact hQ _ _ _ _ nofun rfl (by simp[zd,ze,AV.strip,AV.strip1,z0,y])
 rw[if_neg h2] at eR
 by_cases h3:n=3
 ·subst h3
  rw[if_pos rfl] at eR
  subst eR
  by_cases z:sm=[]
  ·have z':=eq_true z
   simp(disch:=omega) only[ir34,z',go_sem]
   refine za r3 ?_
   simp(disch:=omega) only[go_sem]
   exact hQ _ _ _ _ nofun rfl (by simp[zd,ze,AV.strip,AV.strip1,z])
  ·simp(disch:=omega) only[ir34,z,go_sem]
   exact hQ _ _ _ _ nofun rfl (by simp[zd,ze,AV.strip,AV.strip1,z])
 rw[if_neg h3] at eR
 by_cases h4:n=4
 ·subst h4
  rw[if_pos rfl] at eR
  subst eR
  simp(disch:=omega) only[ir34,go_sem]
  refine zB (r4 _) fun o1 H1 _=>?_
  simp(disch:=omega) only[go_sem]
  refine za (r4' o1) ?_
  simp(disch:=omega) only[go_sem]
  exact hQ _ _ _ _ nofun rfl (by simp[zd,ze,AV.strip,AV.strip1])
 rw[if_neg h4] at eR
 by_cases h5:n=5
 ·subst h5
  rw[if_pos rfl] at eR
  subst eR
  simp(disch:=omega) only[ir34,go_sem]
  refine za r5 ?_
  simp(disch:=omega) only[go_sem]
  exact hQ _ _ _ _ nofun rfl (by simp[zd,ze,AV.strip,AV.strip1])
 rw[if_neg h5] at eR
 by_cases h6:n=6
 ·subst h6
  rw[if_pos rfl] at eR
  subst eR
  simp(disch:=omega) only[ir34,go_sem]
  refine za r6 ?_
  simp(disch:=omega) only[go_sem]
  exact hQ _ _ _ _ nofun rfl (by simp[zd,ze,AV.strip,AV.strip1])
 rw[if_neg h6] at eR
 by_cases h7:n=7
 ·subst h7
  rw[if_pos rfl] at eR
  subst eR
  simp(disch:=omega) only[ir34,go_sem]
  refine za r7 ?_
  simp(disch:=omega) only[go_sem]
  exact hQ _ _ _ _ nofun rfl (by simp[zd,ze,AV.strip,AV.strip1])
 rw[if_neg h7] at eR
 by_cases h8:n=8
 ·subst h8
  rw[if_pos rfl] at eR
  subst eR
  simp(disch:=omega) only[ir34,go_sem]
  refine za r8 ?_
  simp(disch:=omega) only[go_sem]
  exact hQ _ _ _ _ nofun rfl (by simp[zd,ze,AV.strip,AV.strip1])
 rw[if_neg h8] at eR
 subst eR
 simp(disch:=omega) only[ir34,h1,h2,h3,h4,h5,h6,h7,h8,go_sem]
 exact hQ _ _ _ _ nofun rfl (by simp[zd,ze,AV.strip,AV.strip1])
theorem zmk (t:TyD):(zaF t).nm=t.nm:=by unfold zaF;split<;>rfl
def zxC:Val→Int
 | .mk k _ _ _ _=>k
def zfn (v:VarD) (t:TyD) (has:Bool):Bool:=if !isM t||isM v.t then za2 v.t t else (has||(v.has&&!decide (zxC v.d=0)))&&za2 v.t (zaF t)
theorem zv9 (v:VarD) (t:TyD) (has:Bool) (hv:v.t.nm.length≤Lim) (ht:t.nm.length≤Lim):zg Tryz.prog 167 [.agg (cW v),.agg (cTy t),.bool has] (.bool (zfn v t has)):=by
 have h1:=isC t ht
 have h2:=isC v.t hv
 have h3:=zmb v.t t hv ht
 have h4:=zsx t ht
 have h5:=zmb v.t (zaF t) hv (by rw[zmk];exact ht)
 obtain⟨nm,⟨v1,v2,v3⟩,vh,⟨k,q,st,l,m⟩⟩:=v
 have e0:zfn ⟨nm,⟨v1,v2,v3⟩,vh,.mk k q st l m⟩ t has=if !isM t||isM ⟨v1,v2,v3⟩ then za2 ⟨v1,v2,v3⟩ t else (has||(vh&&!decide (k=0)))&&za2 ⟨v1,v2,v3⟩ (zaF t):=rfl
 generalize zfn ⟨nm,⟨v1,v2,v3⟩,vh,.mk k q st l m⟩ t has=F at *
 simp only at h2 h3 h5
 generalize isM t=x1 at *
 generalize isM ⟨v1,v2,v3⟩=x2 at *
 generalize za2 ⟨v1,v2,v3⟩ t=x3 at *
 generalize za2 ⟨v1,v2,v3⟩ (zaF t)=x5 at *
 generalize zaF t=t' at *
 obtain⟨t1,t2,t3⟩:=t
 obtain⟨u1,u2,u3⟩:=t'
 simp only[cTy] at h1 h2 h3 h4 h5 ⊢
 rw[zZ]
 refine zg.go ir167 ck167 (Al4 _) fun KP Q hQ=>?_
 simp(disch:=omega) only[ir167,go_sem]
 refine za h1 ?_
 cases x1 with
 | false =>
  simp(disch:=omega) only[go_sem]
  refine za h3 ?_
  simp(disch:=omega) only[go_sem]
  exact hQ _ _ _ _ nofun rfl (by simp[zd,ze,AV.strip,AV.strip1,e0])
 | true =>
 simp(disch:=omega) only[go_sem]
 refine za h2 ?_
 cases x2 with
 | true =>
  simp(disch:=omega) only[go_sem]
  refine za h3 ?_
  simp(disch:=omega) only[go_sem]
  exact hQ _ _ _ _ nofun rfl (by simp[zd,ze,AV.strip,AV.strip1,e0])
 | false =>
 simp only[Bool.not_true,Bool.or_self,Al7,if_false] at e0
 cases has with
 | true =>
  simp(disch:=omega) only[go_sem]
  refine za h4 ?_
  simp(disch:=omega) only[go_sem]
  refine za h5 ?_
  simp(disch:=omega) only[go_sem]
  exact hQ _ _ _ _ nofun rfl (by simp[zd,ze,AV.strip,AV.strip1,e0])
 | false =>
 cases vh with
 | false =>
  simp(disch:=omega) only[go_sem]
  exact hQ _ _ _ _ nofun rfl (by simp[zd,ze,AV.strip,AV.strip1,e0])
 | true =>
 by_cases hk:k=0
 ·have hk':=eq_true hk
  simp(disch:=omega) only[hk',go_sem]
  exact hQ _ _ _ _ nofun rfl (by simp[zd,ze,AV.strip,AV.strip1,e0,hk])
 ·simp(disch:=omega) only[hk,go_sem]
  refine za h4 ?_
  simp(disch:=omega) only[go_sem]
  refine za h5 ?_
  simp(disch:=omega) only[go_sem]
  exact hQ _ _ _ _ nofun rfl (by simp[zd,ze,AV.strip,AV.strip1,e0,hk])
theorem ziA (d:DocD) (sels:List SelD):(yj d sels).length≤d.frags.length:=by
 have h:∀(R:List (List UInt8)) (fs:List FragD) (a:List (List UInt8)),(fs.foldl (yU R) a).length≤a.length+fs.length:=by
  intro R fs
  induction fs with
  | nil=>simp
  | cons f fs ih =>
   intro a
   have:=ih (yU R a f)
   have h2:(yU R a f).length≤a.length+1:=by unfold yU;split<;>simp
   simp only[List.foldl_cons,Al2];omega
 have:=h (zT d sels) d.frags []
 simpa[yj] using this
noncomputable def zgn (s:SchD) (d:DocD) (n:List UInt8):List SpotD:=Yx s ((zw d n).getD zFr).sels ((zw d n).getD zFr).on
noncomputable def zdN (s:SchD) (d:DocD) (o:OpD):List SpotD:=Yx s o.sels (yY s o)++(yj d o.sels).flatMap (zgn s d)
theorem zrA (d:DocD) (n:List UInt8):bSs ((zw d n).getD zFr).sels≤bFs d.frags:=by
 cases h:zw d n with
 | none=>simp[zFr,bSs]
 | some f=>exact Nat.le_trans (zai f) (zaY (List.mem_of_find?_eq_some h))
theorem zjo (s:SchD) (d:DocD) (hs:zI s≤Lim) (hb:zq d≤Lim):∀ l:List (List UInt8),(l.flatMap (zgn s d)).length≤l.length*zq d∧∀ y∈l.flatMap (zgn s d),y.t.nm.length≤Lim
 | []=>by simp
 | n::r=>by
  have h1:=zrA d n
  have h0:bFs d.frags≤zq d:=by simp only[zq];omega
  have h2:=zdF s hs ((zw d n).getD zFr).sels ((zw d n).getD zFr).on (by omega)
  have h3:=zjo s d hs hb r
  rw[List.flatMap_cons,Al2,Nat.add_mul,Nat.one_mul]
  refine⟨by rw[Al5];simp only[zgn] at h3 ⊢;omega,fun y hy=>?_⟩
  rcases List.mem_append.1 hy with h|h
  ·exact h2.2 y h
  ·exact h3.2 y h
theorem ztK (s:SchD) (d:DocD) (o:OpD) (hs:zI s≤Lim) (hb:zq d≤Lim) (ho:bSs o.sels≤zq d):(zdN s d o).length≤zq d+lenD d*zq d∧∀ y∈zdN s d o,y.t.nm.length≤Lim:=by
 have h1:=zdF s hs o.sels (yY s o) (by omega)
 have h2:=zjo s d hs hb (yj d o.sels)
 have h3:=ziA d o.sels
 have h4:=yx d.frags
 have h0:bFs d.frags≤zq d:=by simp only[zq];omega
 have h5:(yj d o.sels).length*zq d≤lenD d*zq d:=Nat.mul_le_mul_right _ (by simp only[lenD];omega)
 refine⟨by rw[zdN,Al5];omega,fun y hy=>?_⟩
 rcases List.mem_append.1 hy with h|h
 ·exact h1.2 y h
 ·exact h2.2 y h
theorem zwM (s:SchD) (d:DocD) (o:OpD) (H:zb) (hs:zI s≤Lim) (hb:yW d≤Lim) (hb2:lenD d*zq d+zq d≤1099511627776) (ho:bSs o.sels≤zq d):zae Tryz.prog 166 [.agg (zl s),.agg (zP d),.agg (cO o)] H .nil 5 (cPs (zdN s d o)):=by
 have hb3:=hb
 simp only[yW,Lim] at hb3
 have hbd:zq d≤Lim:=by simp only[Lim];omega
 have h0:bFs d.frags≤zq d:=by simp only[zq];omega
 have hfl:=yx d.frags
 have hroot:=zp9 s o
 have hsp:=fun l typ H (h:bSs l≤zq d)=>zuJ s hs (zq d) l typ H h hbd
 have hrch:=fun H=>zrv d o.sels H hb ho
 have hrl:=ziA d o.sels
 have hfr:=fun n=>zi3 d n (by simp only[Lim];omega)
 have hfs:=fun n=>zrA d n
 have hokA:=zjo s d hs hbd
 have hok1:=(zdF s hs o.sels (yY s o) (by omega)).1
 have e0:zdN s d o=Yx s o.sels (yY s o)++(yj d o.sels).flatMap (zgn s d):=rfl
 have eS:∀ n,zgn s d n=Yx s ((zw d n).getD zFr).sels ((zw d n).getD zFr).on:=fun _=>rfl
 have hmulA:(yj d o.sels).length*zq d≤lenD d*zq d:=Nat.mul_le_mul_right _ (by simp only[lenD];omega)
 generalize zdN s d o=F at *
 generalize yY s o=rt at *
 generalize yj d o.sels=R at *
 obtain⟨k,nm,vs,ds,sels⟩:=o
 simp only at hok1 e0 ho hrch
 generalize hU0:Yx s sels rt=U0 at *
 generalize hB:zq d=B at *
 have hcd:zP d=[.sl .no 5 (cOs d.ops),.sl .no 4 (cFs d.frags)]:=rfl
 obtain⟨sd,sq,sm⟩:=s
 generalize hS:(⟨sd,sq,sm⟩:SchD)=s at *
 have hcs:zl s=[.sl .no 6 (cEs sd),.str sq,.str sm]:=by rw[← hS];rfl
 simp only[hcs,hcd,zap] at hroot hsp hrch hfr ⊢
 have l1:=zD R
 refine zi.goO ir166 ck166 (Al4 _) fun KP Q hQ hP=>?_
 have fin:∀ r o,F=r→∀ ρ H1,zG ρ H1 ir166.res=some [.sl o 5 (cPs r)]→OwnS H .nil H1 o r.length 5→Q .ret ρ H1:=fun r o e ρ H1 h1 h2=>hQ _ ρ H1 H1 _ nofun h1 (Low.refl _) ⟨o,by rw[e];rfl,by rw[e,ya];exact h2⟩
 simp(disch:=omega) only[ir166,go_sem]
 refine za hroot ?_
 simp(disch:=omega) only[go_sem]
 refine zB (hsp sels rt _ ho) fun o1 H1 hs1=>?_
 rw[hU0] at hs1 ⊢
 rw[ya] at hs1
 simp(disch:=omega) only[go_sem]
 refine zB (hrch _) fun oR H2 hs2=>?_
 have hu:=YN hs1 hs2
 simp(disch:=omega) only[l1,go_sem]
 refine zf R 24 (fun x:Own×List SpotD=>[(7,.sl x.1 5 (cPs x.2))]) (fun done rest x H'=>x.2=U0++done.flatMap (zgn s d)∧OwnS H .nil H' x.1 x.2.length 5) (o1,U0) (by simp(disch:=omega) only[go_sem]) ⟨by simp,hu⟩ ?_ ?_
 ·rintro⟨o3,a⟩ H3 J ⟨hn,hs3⟩ hlt
  simp only at hn
  subst hn
  simp(disch:=omega) only[l1,hlt,go_sem]
  exact fin _ o3 e0 _ _ rfl hs3
 ·rintro done x rest ⟨o3,a⟩ H3 J hd hlt _ ⟨hn,hs3⟩ hJ
  have hg:=Yr hd
  have hfx:=hfr x
  have hfsx:=hfs x
  have eSx:=eS x
  simp only at hn
  replace hs3:OwnS H .nil H3 o3 a.length 5:=hs3
  have hal:=(hokA done).1
  have hdl:done.length*B≤R.length*B:=Nat.mul_le_mul_right _ (by omega)
  have hal1:=(hokA [x]).1
  simp only[List.flatMap_cons,List.flatMap_nil,List.append_nil,Al2,Al3,Nat.zero_add,Nat.one_mul] at hal1
  have hnx:U0++(done++[x]).flatMap (zgn s d)=a++zgn s d x:=by rw[List.flatMap_append,hn];simp[zb0]
  have hale:a.length=U0.length+(done.flatMap (zgn s d)).length:=by rw[hn,Al5]
  rw[eSx] at hal1 hnx
  generalize (zw d x).isSome=fs at *
  generalize (zw d x).getD zFr=f at *
  obtain⟨fn,fo,fd,fss⟩:=f
  rw[Z7] at hfx
  simp only at hfsx hal1 hnx
  have hsx:=fun H=>hsp fss fo H (by omega)
  generalize Yx s fss fo=U at *
  simp(disch:=omega) only[l1,hlt,hg,go_sem]
  refine za hfx ?_
  simp(disch:=omega) only[go_sem]
  refine zc fun b10 hb10=>?_
  have hu1:=hs3.upd (x:=.cells [.str fn,.str fo,.sl .no 2 (cDs fd),.sl .no 7 (cSs fss)]) hb10
  simp(disch:=omega) only[go_sem]
  refine zB (hsx _) fun o4 H4 hs4=>?_
  have hu4:=YN hu1 hs4
  simp(disch:=omega) only[go_sem]
  refine zp (by rw[ya];exact hu4.own) ?_ ?_ fun o5 H5 hs5=>?_
  ·simp only[ya];omega
  ·simp only[ya,maxLen];omega
  simp only[ya] at hs5
  simp(disch:=omega) only[wrap64,zci,go_sem]
  exact goJ (hJ (o5,a++U) H5 ⟨hnx.symm,by rw[Al5];exact hu4.trans hs5⟩) (by simp(disch:=omega) only[wrap64,go_sem])
noncomputable def zid (s:SchD) (ps:List VarD) (l:List Mem):Bool:=l.all fun m=>match m with|.mk n v=>match z6 ps n with|none=>true|some p=>ZR s p.t v
theorem zwZ (s:SchD) (ps:List VarD) (l:List Mem) (hs:zI s≤Lim) (hp:bWs ps≤Lim) (hb:bMs l≤Lim):zg Tryz.prog 165 [.sl .no 10 (cWs ps),.sl .no 6 (cMs l),.view (zl s)] (.bool (zid s ps l)):=by
 have hml:=y5 l
 have h1m:=yS l
 have hEl:=yD ps
 have hb':=hb
 simp only[Lim] at hb'
 have hpar:=fun n=>zeb ps n (by omega)
 have hmem:∀ n x,Mem.mk n x∈l→∀ p,z6 ps n=some p→zg Tryz.prog 164 [.agg (zl s),.agg (cTy p.t),.agg (cV x)] (.bool (ZR s p.t x)):=fun n x hx p hp=>by
  have hxb:bV x≤Lim:=by have:=ze4 hx;omega
  have hpm:p∈ps:=List.mem_of_find?_eq_some hp
  have hpt:p.t.nm.length≤Lim:=by have:=YD hpm;simp only[bW] at this;omega
  exact zfJ s p.t x hs hxb hpt
 have hst:∀ n v r,zid s ps (.mk n v::r)=((match z6 ps n with|none=>true|some p=>ZR s p.t v)&&zid s ps r):=fun n v r=>by simp only[zid,List.all_cons]
 have h00:zid s ps []=true:=rfl
 generalize hR:zid s ps=R at *
 obtain⟨sd,sq,sm⟩:=s
 generalize hS:(⟨sd,sq,sm⟩:SchD)=s at *
 have hcs:zl s=[.sl .no 6 (cEs sd),.str sq,.str sm]:=by rw[← hS];rfl
 simp only[hcs] at hmem ⊢
 refine zg.go ir165 ck165 (Al4 _) fun KP Q hQ=>?_
 simp(disch:=omega) only[ir165,h1m,go_sem]
 refine zf l 12 (fun _:Unit=>[]) (fun done rest _ H=>R rest=R l) () (by simp(disch:=omega) only[go_sem]) rfl ?_ ?_
 ·rintro _ H J hn hlt
  rw[h00] at hn
  simp(disch:=omega) only[h1m,hlt,go_sem]
  exact hQ _ _ _ _ nofun rfl (by simp[zd,ze,AV.strip,AV.strip1,← hn])
 ·rintro done x rest _ H J hd hlt _ hn hJ
  have hg:=Zy hd
  have hxm:x∈l:=by rw[hd];simp
  obtain⟨xn,⟨xk,xq,xs,xl,xml⟩⟩:=x
  have hp:=hpar xn
  have hme:=hmem xn _ hxm
  rw[hst] at hn
  rw[zA,ye] at hg
  simp(disch:=omega) only[h1m,hlt,hg,go_sem]
  refine zc fun b7 hb7=>?_
  simp(disch:=omega) only[go_sem]
  refine za hp ?_
  cases hpm:z6 ps xn with
  | none =>
   rw[hpm] at hn
   simp(disch:=omega) only[Option.getD,Option.isSome,zW,zV,zZ,go_sem]
   refine zc fun b8 hb8=>?_
   simp(disch:=omega) only[go_sem]
   exact goJ (hJ () _ (by simpa using hn)) (by simp(disch:=omega) only[wrap64,go_sem])
  | some p =>
   rw[hpm] at hn
   replace hme:=hme p hpm
   obtain⟨pn,⟨p1,p2,p3⟩,ph,⟨yk,yq,ys,yl,ym⟩⟩:=p
   simp only[cTy,ye] at hme hn
   generalize ZR s ⟨p1,p2,p3⟩ (.mk xk xq xs xl xml)=x1 at *
   simp(disch:=omega) only[Option.getD,Option.isSome,zZ,go_sem]
   refine zc fun b8 hb8=>?_
   have hne3:b7≠b8:=fun e=>by subst e;simp[zb.upd] at hb8
   simp(disch:=omega) only[hne3,Ne.symm hne3,go_sem]
   refine za hme ?_
   cases x1 with
   | false =>
    simp(disch:=omega) only[go_sem]
    exact hQ _ _ _ _ nofun rfl (by simp[zd,ze,AV.strip,AV.strip1,← hn])
   | true =>
    simp(disch:=omega) only[go_sem]
    exact goJ (hJ () _ (by simpa using hn)) (by simp(disch:=omega) only[wrap64,go_sem])
noncomputable def zmB (s:SchD) (l:List VarD):Bool:=l.all fun v=>!v.has||ZR s v.t v.d
noncomputable def zcn (s:SchD) (d:DocD):Bool:=(d.ops.all fun o=>zmB s o.vars)&&yZ s d (zbO s (zid s))
theorem zpS (s:SchD) (d:DocD) (hs:zI s≤Lim) (hb:zq d≤Lim):zg Tryz.prog 83 [.agg (zl s),.agg (zP d)] (.bool (zcn s d)):=by
 have hw:=zeH s d 165 [.view (zl s)] (zid s) hs hb ⟨by kernel_rfl,fun ps l hp hl=>zwZ s ps l hs hp hl⟩
 have hb':=hb
 simp only[Lim,zq] at hb'
 have hol:=y9 d.ops
 have l1:=Z8 d.ops
 have hlit:∀ o∈d.ops,∀ v∈o.vars,zg Tryz.prog 164 [.agg (zl s),.agg (cTy v.t),.agg (cV v.d)] (.bool (ZR s v.t v.d)):=fun o ho v hv=>by
  obtain⟨a,b,hd⟩:=List.append_of_mem ho
  have:=YE a o b
  rw[← hd] at this
  have h2:=YD hv
  simp only[bO] at this
  simp only[bW] at h2
  exact zfJ s v.t v.d hs (by simp only[Lim];omega) (by simp only[Lim];omega)
 have hvl:∀ o∈d.ops,o.vars.length≤1099511627776:=fun o ho=>by
  obtain⟨a,b,hd⟩:=List.append_of_mem ho
  have:=YE a o b
  rw[← hd] at this
  have h2:=yD o.vars
  simp only[bO] at this
  omega
 have e0:zcn s d=((d.ops.all fun o=>zmB s o.vars)&&yZ s d (zbO s (zid s))):=rfl
 have hV:∀ v r,zmB s (v::r)=((!v.has||ZR s v.t v.d)&&zmB s r):=fun v r=>by simp only[zmB,List.all_cons]
 have hV0:zmB s []=true:=rfl
 generalize zcn s d=F at *
 generalize yZ s d (zbO s (zid s))=x1 at *
 generalize zmB s=R at *
 obtain⟨ops,frags⟩:=d
 obtain⟨sd,sq,sm⟩:=s
 generalize hS:(⟨sd,sq,sm⟩:SchD)=s at *
 have hcs:zl s=[.sl .no 6 (cEs sd),.str sq,.str sm]:=by rw[← hS];rfl
 have hcd:zP ⟨ops,frags⟩=[.sl .no 5 (cOs ops),.sl .no 4 (cFs frags)]:=rfl
 simp only[hcs,hcd] at hw hlit l1 hvl e0 hol hb' ⊢
 refine zg.go ir83 ck83 (Al4 _) fun KP Q hQ=>?_
 simp(disch:=omega) only[ir83,l1,go_sem]
 refine zf ops 12 (fun _:Unit=>[]) (fun done rest _ H=>(rest.all fun o=>R o.vars)=ops.all fun o=>R o.vars) () (by simp(disch:=omega) only[go_sem]) rfl ?_ ?_
 ·rintro _ H J hn hlt
  rw[← hn] at e0
  simp(disch:=omega) only[l1,hlt,go_sem]
  refine za hw ?_
  simp(disch:=omega) only[go_sem]
  exact hQ _ _ _ _ nofun rfl (by simp[zd,ze,AV.strip,AV.strip1,e0])
 ·rintro done x rest _ H J hd hlt _ hn hJ
  have hg:=Yk hd
  have hxm:x∈ops:=by rw[hd];simp
  have hlx:=hlit x hxm
  have hvx:=hvl x hxm
  rw[List.all_cons] at hn
  obtain⟨k,nm,vs,ds,ss⟩:=x
  simp only at hlx hn hvx
  have l2:=Zj vs
  rw[zap] at hg
  simp(disch:=omega) only[l1,hlt,hg,go_sem]
  refine zc fun b6 hb6=>?_
  simp(disch:=omega) only[l2,go_sem]
  refine zf vs 19 (fun _:Unit=>[]) (fun done rest _ H=>R rest=R vs) () (by simp(disch:=omega) only[go_sem]) rfl ?_ ?_
  ·rintro _ H2 J2 hn2 hlt2
   rw[hV0] at hn2
   rw[← hn2,Bool.true_and] at hn
   simp(disch:=omega) only[l2,hlt2,go_sem]
   exact goJ (hJ () _ hn) (by simp(disch:=omega) only[wrap64,go_sem])
  ·rintro done2 x2 rest2 _ H2 J2 hd2 hlt2 _ hn2 hJ2
   have hg2:=Z9 hd2
   have hx2:=hlx x2 (by rw[hd2];simp)
   rw[hV] at hn2
   obtain⟨vn,⟨v1,v2,v3⟩,vh,⟨yk,yq,ys,yl,ym⟩⟩:=x2
   simp only[cTy,ye] at hx2 hn2
   generalize ZR s ⟨v1,v2,v3⟩ (.mk yk yq ys yl ym)=x3 at *
   rw[zZ] at hg2
   simp(disch:=omega) only[l2,hlt2,hg2,go_sem]
   refine zc fun b8 hb8=>?_
   cases vh with
   | false =>
    simp(disch:=omega) only[go_sem]
    exact goJ (hJ2 () _ (by simpa using hn2)) (by simp(disch:=omega) only[wrap64,go_sem])
   | true =>
    simp(disch:=omega) only[go_sem]
    refine za hx2 ?_
    cases x3 with
    | true =>
     simp(disch:=omega) only[go_sem]
     exact goJ (hJ2 () _ (by simpa using hn2)) (by simp(disch:=omega) only[wrap64,go_sem])
    | false =>
     have hf:R vs=false:=by rw[← hn2];rfl
     rw[hf,Bool.false_and] at hn
     rw[← hn] at e0
     simp(disch:=omega) only[go_sem]
     exact hQ _ _ _ _ nofun rfl (by simp[zd,ze,AV.strip,AV.strip1,e0])
def zon (vs:List VarD) (x:SpotD):Bool:=match z6 vs x.nm with|none=>false|some v=>zfn v x.t x.has
noncomputable def zoK (s:SchD) (d:DocD) (o:OpD):Bool:=(zdN s d o).all (zon o.vars)
noncomputable def zmI (s:SchD) (d:DocD):Bool:=d.ops.all (zoK s d)
theorem zxy (s:SchD) (d:DocD) (hs:zI s≤Lim) (hb:yW d≤Lim) (hb2:lenD d*zq d+zq d≤1099511627776):zg Tryz.prog 84 [.agg (zl s),.agg (zP d)] (.bool (zmI s d)):=by
 have hb3:=hb
 simp only[yW,Lim] at hb3
 have hbd:zq d≤Lim:=by simp only[Lim];omega
 have hb0:bOs d.ops≤zq d:=by simp only[zq];omega
 have hol:=y9 d.ops
 have l1:=Z8 d.ops
 have hop:∀ o∈d.ops,bO o≤zq d:=fun o ho=>by
  obtain⟨a,b,hd⟩:=List.append_of_mem ho
  have:=YE a o b
  rw[← hd] at this
  omega
 have hsp:=fun(o:OpD) (ho:o∈d.ops) (H:zb)=>zwM s d o H hs hb hb2 (by have:=hop o ho;simp only[bO] at this;omega)
 have hok:=fun(o:OpD) (ho:o∈d.ops)=>ztK s d o hs hbd (by have:=hop o ho;simp only[bO] at this;omega)
 have hdef:=fun(o:OpD) (ho:o∈d.ops) n=>zn4 o n (by have:=hop o ho;have:=yD o.vars;simp only[bO] at *;omega)
 have hall:∀ o∈d.ops,∀ x∈zdN s d o,∀ v,z6 o.vars x.nm=some v→zg Tryz.prog 167 [.agg (cW v),.agg (cTy x.t),.bool x.has] (.bool (zfn v x.t x.has)):=fun o ho x hx v hv=>by
  have hvm:v∈o.vars:=List.mem_of_find?_eq_some hv
  have h2:=YD hvm
  have h3:=hop o ho
  simp only[bO] at h3
  simp only[bW] at h2
  exact zv9 v x.t x.has (by omega) ((hok o ho).2 x hx)
 have e0:zmI s d=d.ops.all (zoK s d):=rfl
 have eO:∀ o,zoK s d o=(zdN s d o).all (zon o.vars):=fun _=>rfl
 generalize zmI s d=F at *
 generalize zoK s d=A at *
 generalize zdN s d=U at *
 generalize hB:zq d=B at *
 have hcd:zP d=[.sl .no 5 (cOs d.ops),.sl .no 4 (cFs d.frags)]:=rfl
 obtain⟨sd,sq,sm⟩:=s
 generalize hS:(⟨sd,sq,sm⟩:SchD)=s at *
 have hcs:zl s=[.sl .no 6 (cEs sd),.str sq,.str sm]:=by rw[← hS];rfl
 simp only[hcs,hcd] at hsp ⊢
 refine zg.go ir84 ck84 (Al4 _) fun KP Q hQ=>?_
 simp(disch:=omega) only[ir84,l1,go_sem]
 refine zf d.ops 15 (fun _:Unit=>[(5,.bool true)]) (fun done rest _ H=>rest.all A=d.ops.all A) () (by simp(disch:=omega) only[go_sem]) rfl ?_ ?_
 ·rintro _ H J hn hlt
  rw[← hn] at e0
  simp(disch:=omega) only[l1,hlt,go_sem]
  exact hQ _ _ _ _ nofun rfl (by simp[zd,ze,AV.strip,AV.strip1,e0])
 ·rintro done x rest _ H J hd hlt _ hn hJ
  have hg:=Yk hd
  have hxm:x∈d.ops:=by rw[hd];simp
  have hsx:=hsp x hxm
  have hokx:=(hok x hxm).1
  have hdx:=hdef x hxm
  have hax:=hall x hxm
  have eOx:=eO x
  rw[List.all_cons] at hn
  generalize U x=L at *
  have l2:=ya L
  obtain⟨k,nm,vs,ds,ss⟩:=x
  simp only at hax eOx hdx
  generalize A ⟨k,nm,vs,ds,ss⟩=a at *
  rw[zap] at hg hdx hsx
  simp(disch:=omega) only[l1,hlt,hg,go_sem]
  refine zc fun b7 hb7=>?_
  simp(disch:=omega) only[go_sem]
  refine zB (hsx _) fun o2 H2 hs2=>?_
  have c7:H2 b7=some (.cells [.int .i64 k,.str nm,.sl .no 10 (cWs vs),.sl .no 2 (cDs ds),.sl .no 7 (cSs ss)]):=hs2.kept b7 _ (upd_same ..) (fun d e=>by cases e)
  simp(disch:=omega) only[l2,go_sem]
  refine zf L 24 (fun _:Unit=>[(5,.bool true)]) (fun done rest _ H=>rest.all (zon vs)=L.all (zon vs)∧H b7=some (.cells [.int .i64 k,.str nm,.sl .no 10 (cWs vs),.sl .no 2 (cDs ds),.sl .no 7 (cSs ss)])) () (by simp(disch:=omega) only[go_sem]) ⟨rfl,c7⟩ ?_ ?_
  ·rintro _ H3 J2 ⟨hn2,c7⟩ hlt2
   have ha:a=true:=by rw[eOx,← hn2];rfl
   rw[ha,Bool.true_and] at hn
   simp(disch:=omega) only[l2,hlt2,go_sem]
   exact goJ (hJ () _ hn) (by simp(disch:=omega) only[wrap64,go_sem])
  ·rintro done2 x2 rest2 _ H3 J2 hd2 hlt2 _ ⟨hn2,c7⟩ hJ2
   have hg2:=zsU hd2
   have hax2:=hax x2 (by rw[hd2];simp)
   rw[List.all_cons] at hn2
   have e2:zon vs x2=match z6 vs x2.nm with|none=>false|some v=>zfn v x2.t x2.has:=rfl
   generalize zon vs x2=y at *
   obtain⟨pn,⟨p1,p2,p3⟩,ph⟩:=x2
   simp only[cP] at hg2
   simp only[cTy] at hax2 e2
   have hdn:=hdx pn
   simp(disch:=omega) only[l2,hlt2,hg2,go_sem]
   refine zc fun b9 hb9=>?_
   have hne:b7≠b9:=fun e=>by subst e;rw[c7] at hb9;cases hb9
   simp(disch:=omega) only[c7,hne,Ne.symm hne,go_sem]
   refine za hdn ?_
   cases hpm:z6 vs pn with
   | none =>
    rw[hpm] at e2
    simp only at e2
    rw[e2,Bool.false_and] at hn2
    rw[← hn2] at eOx
    rw[eOx,Bool.false_and] at hn
    rw[← hn] at e0
    simp(disch:=omega) only[Option.getD,Option.isSome,zW,zV,zZ,go_sem]
    refine zc fun b10 hb10=>?_
    simp(disch:=omega) only[go_sem]
    exact hQ _ _ _ _ nofun rfl (by simp[zd,ze,AV.strip,AV.strip1,e0])
   | some v =>
    rw[hpm] at e2
    replace hax2:=hax2 v hpm
    simp only at e2
    rw[← e2] at hax2
    obtain⟨vn,⟨v1,v2,v3⟩,vh,⟨yk,yq,ys,yl,ym⟩⟩:=v
    rw[zZ] at hax2
    simp(disch:=omega) only[Option.getD,Option.isSome,zZ,go_sem]
    refine zc fun b10 hb10=>?_
    have hne2:b7≠b10:=fun e=>by subst e;simp[zb.upd,hne,c7] at hb10
    have hne3:b9≠b10:=fun e=>by subst e;simp[zb.upd] at hb10
    simp(disch:=omega) only[c7,hne,Ne.symm hne,hne2,Ne.symm hne2,hne3,Ne.symm hne3,go_sem]
    refine za hax2 ?_
    cases y with
    | true =>
     simp(disch:=omega) only[go_sem]
     exact goJ (hJ2 () _ ⟨by simpa using hn2,by simp(disch:=omega) only[c7,hne,Ne.symm hne,hne2,Ne.symm hne2,go_sem]⟩) (by simp(disch:=omega) only[wrap64,go_sem])
    | false =>
     rw[Bool.false_and] at hn2
     rw[← hn2] at eOx
     rw[eOx,Bool.false_and] at hn
     rw[← hn] at e0
     simp(disch:=omega) only[go_sem]
     exact hQ _ _ _ _ nofun rfl (by simp[zd,ze,AV.strip,AV.strip1,e0])
noncomputable def zab (s:SchD) (d:DocD) (n:Int):Bool:=if n=22 then zcn s d else if n=23 then zmI s d else false
theorem zsn (s:SchD) (d:DocD) (n:Int) (hs:zI s≤Lim) (hb:yW d≤Lim) (hb2:lenD d*zq d+zq d≤1099511627776):zg Tryz.prog 39 [.agg (zl s),.agg (zP d),.int .i64 n] (.bool (zab s d n)):=by
 have hb3:=hb
 simp only[yW,Lim] at hb3
 have r1:=zpS s d hs (by simp only[Lim];omega)
 have r2:=zxy s d hs hb hb2
 unfold zab
 generalize zcn s d=x1 at *
 generalize zmI s d=x2 at *
 have hcd:zP d=[.sl .no 5 (cOs d.ops),.sl .no 4 (cFs d.frags)]:=rfl
 obtain⟨sd,sq,sm⟩:=s
 simp only[zl,hcd] at r1 r2 ⊢
 refine zg.go ir39 ck39 (Al4 _) fun KP Q hQ=>?_
 by_cases h1:n=22
 ·subst h1
  simp(disch:=omega) only[ir39,go_sem]
  refine za r1 ?_
  simp(disch:=omega) only[go_sem]
  exact hQ _ _ _ _ nofun rfl (by simp[zd,ze,AV.strip,AV.strip1])
 by_cases h2:n=23
 ·subst h2
  simp(disch:=omega) only[ir39,go_sem]
  refine za r2 ?_
  simp(disch:=omega) only[go_sem]
  exact hQ _ _ _ _ nofun rfl (by simp[zd,ze,AV.strip,AV.strip1])
 simp(disch:=omega) only[ir39,h1,h2,go_sem]
 exact hQ _ _ _ _ nofun rfl (by simp[zd,ze,AV.strip,AV.strip1,h1,h2])
noncomputable def yX (s:SchD) (d:DocD) (n:Int):Bool :=
 if n<9 then ZT s d n else if n<12 then ZY s d n else if n<15 then Yg s d n else if n<18 then Z0 s d n
 else if n<22 then zbk s d n else if n<24 then zab s d n else zaa s d n
structure ValH (s:SchD) (d:DocD):Prop where
 sw:zch s
 dw:zcc d
 sb:zI s≤1048576
 db:zq d≤67108864
 ln:lenD d≤3200
 sz:∀ x∈zJ d,Sz d 40 x
theorem zpT {s:SchD} {d:DocD} (h1:zch s) (h2:zcc d) (h3:zI s≤1048576) (h4:zq d≤1048576) (h:Y8 s d=true):ValH s d:=by
 refine⟨h1,h2,h3,by omega,?_,zmE h⟩
 simp only[Y8,zd7,Al0,yH] at h
 have o1:=zaE (f:=lO) (fun x=>by simp only[lO];omega) d.ops
 have o2:=zaE (f:=lF) (fun x=>by simp only[lF];omega) d.frags
 simp only[lOs,lFs,lenD] at *
 omega
theorem zvm (s:SchD) (d:DocD) (n:Int) (h:ValH s d):zg Tryz.prog 17 [.agg (zl s),.agg (zP d),.int .i64 n] (.bool (yX s d n)):=by
 have hsb:=h.sb
 have hdb:=h.db
 have hs1:zI s≤Lim:=by simp only[Lim];omega
 have hs2:zI s+1≤Lim:=by simp only[Lim];omega
 have hd1:zq d≤Lim:=by simp only[Lim];omega
 have hr:yW d≤Lim:=by simp only[yW,Lim];omega
 have hb2:lenD d*zq d+zq d≤1099511627776:=by
  have:lenD d*zq d≤3200*67108864:=Nat.mul_le_mul h.ln hdb
  omega
 have r1:=zvh s d n hs1 hr hb2
 have r2:=zra s d n hs2 hd1
 have r3:=zrD s d n hs1 hd1
 have r4:=zrT s d n hs1 hd1
 have r5:=zvj s d n hs1 hr hb2
 have r6:=zsn s d n hs1 hr hb2
 have r7:=mgC s d n hs1 hr (by omega) h.sz
 have e0:yX s d n=if n<9 then ZT s d n else if n<12 then ZY s d n else if n<15 then Yg s d n else if n<18 then Z0 s d n
  else if n<22 then zbk s d n else if n<24 then zab s d n else zaa s d n:=rfl
 generalize yX s d n=F at *
 generalize ZT s d n=x1 at *
 generalize ZY s d n=x2 at *
 generalize Yg s d n=x3 at *
 generalize Z0 s d n=x4 at *
 generalize zbk s d n=x5 at *
 generalize zab s d n=x6 at *
 generalize zaa s d n=x7 at *
 have hcd:zP d=[.sl .no 5 (cOs d.ops),.sl .no 4 (cFs d.frags)]:=rfl
 have hcs:zl s=[.sl .no 6 (cEs s.defs),.str s.q,.str s.m]:=rfl
 simp only[hcs,hcd] at r1 r2 r3 r4 r5 r6 r7 ⊢
 refine zg.go ir17 ck17 (Al4 _) fun KP Q hQ=>?_
 by_cases h1:n<9
 ·rw[if_pos h1] at e0
  have h1':=eq_true h1
  simp(disch:=omega) only[ir17,h1',go_sem]
  refine za r1 ?_
  simp(disch:=omega) only[go_sem]
  exact hQ _ _ _ _ nofun rfl (by simp[zd,ze,AV.strip,AV.strip1,e0])
 rw[if_neg h1] at e0
 by_cases h2:n<12
 ·rw[if_pos h2] at e0
  have h2':=eq_true h2
  simp(disch:=omega) only[ir17,h1,h2',go_sem]
  refine za r2 ?_
  simp(disch:=omega) only[go_sem]
  exact hQ _ _ _ _ nofun rfl (by simp[zd,ze,AV.strip,AV.strip1,e0])
 rw[if_neg h2] at e0
 by_cases h3:n<15
 ·rw[if_pos h3] at e0
  have h3':=eq_true h3
  simp(disch:=omega) only[ir17,h1,h2,h3',go_sem]
  refine za r3 ?_
  simp(disch:=omega) only[go_sem]
  exact hQ _ _ _ _ nofun rfl (by simp[zd,ze,AV.strip,AV.strip1,e0])
 rw[if_neg h3] at e0
 by_cases h4:n<18
 ·rw[if_pos h4] at e0
  have h4':=eq_true h4
  simp(disch:=omega) only[ir17,h1,h2,h3,h4',go_sem]
  refine za r4 ?_
  simp(disch:=omega) only[go_sem]
  exact hQ _ _ _ _ nofun rfl (by simp[zd,ze,AV.strip,AV.strip1,e0])
 rw[if_neg h4] at e0
 by_cases h5:n<22
 ·rw[if_pos h5] at e0
  have h5':=eq_true h5
  simp(disch:=omega) only[ir17,h1,h2,h3,h4,h5',go_sem]
  refine za r5 ?_
  simp(disch:=omega) only[go_sem]
  exact hQ _ _ _ _ nofun rfl (by simp[zd,ze,AV.strip,AV.strip1,e0])
 rw[if_neg h5] at e0
 by_cases h6:n<24
 ·rw[if_pos h6] at e0
  have h6':=eq_true h6
  simp(disch:=omega) only[ir17,h1,h2,h3,h4,h5,h6',go_sem]
  refine za r6 ?_
  simp(disch:=omega) only[go_sem]
  exact hQ _ _ _ _ nofun rfl (by simp[zd,ze,AV.strip,AV.strip1,e0])
 rw[if_neg h6] at e0
 simp(disch:=omega) only[ir17,h1,h2,h3,h4,h5,h6,go_sem]
 refine za r7 ?_
 simp(disch:=omega) only[go_sem]
 exact hQ _ _ _ _ nofun rfl (by simp[zd,ze,AV.strip,AV.strip1,e0])
noncomputable def zg4 (s:SchD) (d:DocD):Nat→Int→Int
 | 0,_=>0
 | k+1,n=>if yX s d n=true then zg4 s d k (n+1) else n
noncomputable def ZB (s:SchD) (d:DocD):Int:=if zcJ s 9 1≠0∨Zx d=false then 25 else zg4 s d 24 1
theorem zhw (s:SchD) (d:DocD) (h:ValH s d):zg Tryz.prog 5 [.agg (zl s),.agg (zP d)] (.int .i64 (ZB s d)):=by
 have hsb:=h.sb
 have hdb:=h.db
 have hR:=fun n=>zvm s d n h
 have hs:=ztM s h.sw (by simp only[Lim];omega)
 have hd:=znW d h.dw (by simp only[Lim];omega)
 have e0:ZB s d=if zcJ s 9 1≠0∨Zx d=false then 25 else zg4 s d 24 1:=rfl
 have eC:∀ k n,zg4 s d (k+1) n=if yX s d n=true then zg4 s d k (n+1) else n:=fun _ _=>rfl
 have eC0:∀ n,zg4 s d 0 n=0:=fun _=>rfl
 generalize ZB s d=F at *
 generalize zg4 s d=C at *
 generalize yX s d=V at *
 generalize zcJ s 9 1=x1 at *
 generalize Zx d=x2 at *
 have hcd:zP d=[.sl .no 5 (cOs d.ops),.sl .no 4 (cFs d.frags)]:=rfl
 have hcs:zl s=[.sl .no 6 (cEs s.defs),.str s.q,.str s.m]:=rfl
 simp only[hcs,hcd] at hR hs hd ⊢
 refine zg.go ir5 ck5 (Al4 _) fun KP Q hQ=>?_
 simp(disch:=omega) only[ir5,go_sem]
 refine za hs ?_
 by_cases hx:x1=0
 case neg =>
  rw[if_pos (.inl hx)] at e0
  simp(disch:=omega) only[hx,go_sem]
  exact hQ _ _ _ _ nofun rfl (by simp[zd,ze,AV.strip,AV.strip1,e0])
 have hx':=eq_true hx
 simp(disch:=omega) only[hx',go_sem]
 refine za hd ?_
 cases x2 with
 | false =>
  rw[if_pos (.inr rfl)] at e0
  simp(disch:=omega) only[go_sem]
  exact hQ _ _ _ _ nofun rfl (by simp[zd,ze,AV.strip,AV.strip1,e0])
 | true =>
 rw[if_neg (by simp[hx])] at e0
 simp(disch:=omega) only[go_sem]
 refine zcZ (fun x:Nat×Int=>[(5,.int .i64 0),(6,.int .i64 x.2)]) (fun x _=>(x.1:Int)+x.2=25∧x.1≤24∧C x.1 x.2=F) (fun x=>x.1) (24,1) (by simp(disch:=omega) only[go_sem]) ⟨by omega,by omega,e0.symm⟩ ?_
 rintro⟨k,n⟩ H J ⟨hk,hn9,hn⟩ hJ
 simp only at hk hn9 hn
 cases k with
 | zero =>
  rw[eC0] at hn
  subst hn
  have hle:¬ (n≤24):=by omega
  simp(disch:=omega) only[hle,go_sem]
  exact hQ _ _ _ _ nofun rfl (by simp[zd,ze,AV.strip,AV.strip1])
 | succ k =>
  rw[eC] at hn
  have hr:=hR n
  have hle:(n≤24)=True:=eq_true (by omega)
  generalize hx:V n=x at *
  simp(disch:=omega) only[hle,go_sem]
  refine za hr ?_
  cases x with
  | true =>
   rw[if_pos rfl] at hn
   simp(disch:=omega) only[wrap64,go_sem]
   exact goJ (hJ (k,n+1) _ (by simp only;omega) ⟨by simp only;omega,by simp only;omega,hn⟩) (by simp(disch:=omega) only[wrap64,go_sem])
  | false =>
   rw[if_neg (by simp)] at hn
   subst hn
   simp(disch:=omega) only[go_sem]
   exact hQ _ _ _ _ nofun rfl (by simp[zd,ze,AV.strip,AV.strip1])
mutual
def zcS (n:List UInt8):SelD→Prop
 | .mk k _ nm _ _ _ sels=>(k=1∧nm=n)∨Zn n sels
def Zn (n:List UInt8):List SelD→Prop
 | []=>False
 | x::r=>zcS n x∨Zn n r
end
theorem zho {x:List UInt8} {l:List (List UInt8)}:zL x l=false↔x ∉ l:=by
 rw[← y7];cases zL x l<;>simp
mutual
theorem zpQ (x:List UInt8):∀(y:SelD) (l:List (List UInt8)),x∈zda y l↔x∈l∨zcS x y
 | .mk k al nm args dirs on sels,l=>by
  simp only[zda,zcS]
  rw[Zs x sels]
  by_cases hk:k=1
  ·cases hh:zL nm l with
   | true =>
    have hm:=(y7 nm l).1 hh
    simp only[hk,true_and,Bool.true_eq_false,if_false]
    constructor
    ·rintro(h|h)
     ·exact .inl h
     ·exact .inr (.inr h)
    ·rintro(h|rfl|h)
     ·exact .inl h
     ·exact .inl hm
     ·exact .inr h
   | false =>
    simp only[hk,true_and,if_true,List.mem_append,List.mem_singleton]
    constructor
    ·rintro((h|h)|h)
     ·exact .inl h
     ·exact .inr (.inl h.symm)
     ·exact .inr (.inr h)
    ·rintro(h|h|h)
     ·exact .inl (.inl h)
     ·exact .inl (.inr h.symm)
     ·exact .inr h
  ·simp[hk]
theorem Zs (x:List UInt8):∀(r:List SelD) (l:List (List UInt8)),x∈yC r l↔x∈l∨Zn x r
 | [],l=>by simp[yC,Zn]
 | y::r,l=>by
  simp only[yC,Zn]
  rw[Zs x r,zpQ x y,or_assoc]
end
theorem Yh {n:List UInt8} {x:SelD}:∀ {l:List SelD},x∈l→zcS n x→Zn n l
 | y::l,h,hn=>by
  simp only[Zn]
  rcases List.mem_cons.1 h with rfl|h
  ·exact .inl hn
  ·exact .inr (Yh h hn)
structure PartD (a d:DocD):Prop where
 ops:∀ o∈a.ops,o∈d.ops
 frs:∀ f∈a.frags,f∈d.frags
 nd:(d.frags.map (·.nm)).Nodup
 nda:(a.frags.map (·.nm)).Nodup
 cl:∀ l∈zJ a,∀ n,Zn n l→zw a n=zw d n
theorem zkB {d:DocD} (h:(d.frags.map (·.nm)).Nodup) {f:FragD} (hf:f∈d.frags):zw d f.nm=some f:=by
 have:∀ l:List FragD,(l.map (·.nm)).Nodup→f∈l→l.find? (YL f.nm)=some f:=by
  intro l
  induction l with
  | nil=>intro _ h;cases h
  | cons g l ih =>
   intro hn hm
   simp only[List.map_cons,List.nodup_cons] at hn
   rw[List.find?_cons]
   rcases List.mem_cons.1 hm with rfl|hm
   ·simp[YL]
   ·have:¬ g.nm=f.nm:=fun e=>hn.1 (List.mem_map.2 ⟨f,hm,e.symm⟩)
    simp[YL,this]
    simpa[YL] using ih hn.2 hm
 exact this d.frags h hf
def ClL (a d:DocD) (l:List SelD):Prop:=∀ n,Zn n l→zw a n=zw d n
section
variable {a d:DocD} (P:PartD a d)
include P
theorem zk2 {o:OpD} (h:o∈a.ops):ClL a d o.sels:=P.cl _ (by simp only[zJ,List.mem_append,List.mem_map];exact .inl ⟨o,h,rfl⟩)
theorem zja {f:FragD} (h:f∈a.frags):ClL a d f.sels:=P.cl _ (by simp only[zJ,List.mem_append,List.mem_map];exact .inr ⟨f,h,rfl⟩)
theorem zqB (n:List UInt8):ClL a d (frS a n):=by
 unfold frS
 cases hf:zw a n with
 | none=>intro m hm;simp[zFr,Zn] at hm
 | some f=>exact zja P (List.mem_of_find?_eq_some hf)
omit P in
theorem zpE {l:List SelD} (h:ClL a d l) {x:SelD} (hx:x∈l):ClL a d x.sels:=fun n hn=>h n (Yh hx (by obtain⟨k,al,nm,args,dirs,on,sels⟩:=x;exact .inr hn))
theorem zjI {n:List UInt8} (h:zw a n=zw d n):frS a n=frS d n∧zcT a n=zcT d n:=by simp only[frS,zcT,h,and_self]
theorem zdu:∀(k:Nat) (l:List (List UInt8)) (i:Nat),(∀ n∈l,zw a n=zw d n)→yO a k l i=yO d k l i∧∀ n∈yO a k l i,zw a n=zw d n
 | 0,l,i,h=>⟨rfl,h⟩
 | k+1,l,i,h=>by
  simp only[yO]
  cases hl:l[i]? with
  | none=>exact⟨rfl,h⟩
  | some x =>
   have hx:=h x (List.mem_of_getElem? hl)
   simp only
   rw[← hx]
   cases hf:zw a x with
   | none=>exact zdu k l (i+1) h
   | some f =>
    have hm:f∈a.frags:=List.mem_of_find?_eq_some hf
    refine zdu k (yC f.sels l) (i+1) fun n hn=>?_
    rcases(Zs n f.sels l).1 hn with h1|h1
    ·exact h n h1
    ·exact zja P hm n h1
omit P in
theorem zgf {U:List (List UInt8)} (hU:∀ f∈a.frags,∀ y∈zaq f.sels,y∈U):∀(k:Nat) (l:List (List UInt8)) (i:Nat),OkN U l→U.length+1≤k+i→yO a (k+1) l i=yO a k l i
 | 0,l,i,h,hk=>by
  have:=zgz h
  have hn:l[i]?=none:=List.getElem?_eq_none (by omega)
  simp only[yO,hn]
 | k+1,l,i,h,hk=>by
  rw[yO]
  conv=>rhs;rw[yO]
  cases hl:l[i]? with
  | none=>rfl
  | some x =>
   simp only
   refine zgf hU k _ (i+1) ?_ (by omega)
   cases hf:zw a x with
   | none=>exact h
   | some f=>exact Yt f.sels l (hU f (List.mem_of_find?_eq_some hf)) h
omit P in
theorem zep {U:List (List UInt8)} (hU:∀ f∈a.frags,∀ y∈zaq f.sels,y∈U) {l:List (List UInt8)} (h:OkN U l) {k:Nat} (hk:U.length+1≤k):∀ j,yO a (k+j) l 0=yO a k l 0
 | 0=>rfl
 | j+1=>by rw[← Nat.add_assoc,zgf hU (k+j) l 0 h (by omega),zep hU h hk j]
theorem zad (hb:bFs a.frags≤bFs d.frags) {sels:List SelD} (h:ClL a d sels):zT a sels=zT d sels∧∀ n∈zT a sels,zw a n=zw d n:=by
 have h0:∀ n∈yC sels [],zw a n=zw d n:=fun n hn=>by
  rcases(Zs n sels []).1 hn with h1|h1
  ·cases h1
  ·exact h n h1
 have hU:∀ f∈a.frags,∀ y∈zaq f.sels,y∈zcV a sels:=fun f hf y hy=>by
  simp only[zcV,List.mem_append,List.mem_flatMap];exact .inr ⟨f,hf,hy⟩
 have ok0:OkN (zcV a sels) (yC sels []):=Yt sels [] (fun y hy=>by simp[zcV,hy]) ⟨List.nodup_nil,by simp⟩
 have hfu:=zep hU ok0 (k:=bSs sels+bFs a.frags+1) (by have:=zgw a sels;omega) (bFs d.frags-bFs a.frags)
 have e:bSs sels+bFs a.frags+1+(bFs d.frags-bFs a.frags)=bSs sels+bFs d.frags+1:=by omega
 rw[e] at hfu
 obtain⟨h1,h2⟩:=zdu P (bSs sels+bFs d.frags+1) (yC sels []) 0 h0
 exact⟨by rw[zT,← hfu,h1];rfl,by rw[zT,← hfu];exact h2⟩
theorem ze0 (s:SchD):∀(n:Nat) (typ:List UInt8) (l:List SelD) (seen:List (List UInt8)),ClL a d l→flq s a n typ l seen=flq s d n typ l seen∧∀ y∈(flq s a n typ l seen).1,ClL a d y.2.sels
 | 0,typ,l,seen,h=>⟨rfl,fun y hy=>by cases hy⟩
 | n+1,typ,l,seen,h=>by
  have key:∀(l:List SelD) (acc:List TSe×List (List UInt8)),ClL a d l→(∀ y∈acc.1,ClL a d y.2.sels)→l.foldl (yG s a (flq s a n) typ) acc=l.foldl (yG s d (flq s d n) typ) acc∧∀ y∈(l.foldl (yG s a (flq s a n) typ) acc).1,ClL a d y.2.sels:=by
   intro l
   induction l with
   | nil=>intro acc _ h;exact⟨rfl,h⟩
   | cons x r ih =>
    intro acc hcl hacc
    have hsub:=zpE hcl (Zr ..)
    have hst:yG s a (flq s a n) typ acc x=yG s d (flq s d n) typ acc x∧∀ y∈(yG s a (flq s a n) typ acc x).1,ClL a d y.2.sels:=by
     obtain⟨k,al,nm,args,dirs,on,sels⟩:=x
     simp only[SelD.sels] at hsub
     obtain⟨h1,h2⟩:=ze0 s n (zy s typ (.mk k al nm args dirs on sels)) sels acc.2 hsub
     simp only[yG]
     split
     ·refine⟨rfl,fun y hy=>?_⟩
      rcases List.mem_append.1 hy with h3|h3
      ·exact hacc y h3
      ·simp only[List.mem_singleton] at h3
       subst h3;exact hsub
     ·split
      ·rw[← h1]
       refine⟨rfl,fun y hy=>?_⟩
       rcases List.mem_append.1 hy with h3|h3
       ·exact hacc y h3
       ·exact h2 y h3
      ·split
       ·rename_i hk
        have hc:=hcl nm (by simp only[Zn,zcS];exact .inl (.inl ⟨hk.1,trivial⟩))
        obtain⟨e1,e2⟩:=zjI P hc
        obtain⟨h3,h4⟩:=ze0 s n (zcT a nm) (frS a nm) (acc.2++[nm]) (zqB P nm)
        rw[← e1,← e2,← h3]
        refine⟨rfl,fun y hy=>?_⟩
        rcases List.mem_append.1 hy with h5|h5
        ·exact hacc y h5
        ·exact h4 y h5
       ·exact⟨rfl,hacc⟩
    simp only[List.foldl_cons]
    rw[← hst.1]
    exact ih _ (fun m hm=>hcl m (by simp only[Zn];exact .inr hm)) hst.2
  exact key l ([],seen) h fun y hy=>by cases hy
theorem zaQ (s:SchD) {x:TSe} (h:ClL a d x.2.sels):blq s a x=blq s d x∧∀ y∈blq s a x,ClL a d y.2.sels:=by
 obtain⟨h1,h2⟩:=ze0 P s 64 (zy s x.1 x.2) x.2.sels [] h
 exact⟨by simp only[blq,h1],h2⟩
theorem zht (s:SchD):∀(n:Nat) (x y:TSe),ClL a d x.2.sels→ClL a d y.2.sels→shq s a n x y=shq s d n x y
 | 0,x,y,hx,hy=>by simp only[shq,zcR,(zaQ P s hx).1,(zaQ P s hy).1]
 | n+1,x,y,hx,hy=>by
  obtain⟨h1,h2⟩:=zaQ P s hx
  obtain⟨h3,h4⟩:=zaQ P s hy
  simp only[shq,zcR]
  rw[← h1,← h3,zdh fun u hu v hv=>zht s n u v (h2 u hu) (h4 v hv)]
theorem zln (s:SchD):∀(n:Nat) (x y:TSe),ClL a d x.2.sels→ClL a d y.2.sels→tgq s a n x y=tgq s d n x y
 | 0,x,y,hx,hy=>by simp only[tgq,zcA,(zaQ P s hx).1,(zaQ P s hy).1,zht P s 64 x y hx hy]
 | n+1,x,y,hx,hy=>by
  obtain⟨h1,h2⟩:=zaQ P s hx
  obtain⟨h3,h4⟩:=zaQ P s hy
  simp only[tgq,zcA]
  rw[← h1,← h3,zdh fun u hu v hv=>zln s n u v (h2 u hu) (h4 v hv),zht P s 64 x y hx hy]
omit P in
theorem zeM {g h:TSe→TSe→Bool}:∀(r acc:List TSe),(∀ u∈acc++r,∀ v∈acc++r,g u v=h u v)→Ys g acc r=Ys h acc r
 | [],acc,_=>rfl
 | x::r,acc,e=>by
  simp only[Ys]
  have ih:=zeM r (acc++[x]) (fun u hu v hv=>e u (by simpa[zb0] using hu) v (by simpa[zb0] using hv))
  have h1:zjg g x acc=zjg h x acc:=by
   have e1:∀ y∈acc,g y x=h y x:=fun y hy=>e y (ZZ _ hy) x (by simp)
   clear ih e
   unfold zjg
   induction acc with
   | nil=>rfl
   | cons y acc ih=>rw[List.all_cons,List.all_cons,e1 y (Zr ..),ih fun z hz=>e1 z (Zm _ hz)]
  rw[ih,h1]
theorem ziO (s:SchD) {h h':List UInt8→List SelD→Bool} {typ:List UInt8} {l:List SelD} (hc:ClL a d l) (hh:∀ x∈l,∀ t,h t x.sels=h' t x.sels):zek s a h typ l=zek s d h' typ l:=by
 obtain⟨h1,h2⟩:=ze0 P s 64 typ l [] hc
 have e2:(l.all fun x=>h (zy s typ x) x.sels)=l.all fun x=>h' (zy s typ x) x.sels:=by
  clear h1 h2 hc
  induction l with
  | nil=>rfl
  | cons x r ih=>rw[List.all_cons,List.all_cons,hh x (Zr ..),ih fun y hy=>hh y (Zm _ hy)]
 simp only[zek]
 rw[← h1,e2,zeM _ _ fun u hu v hv=>zln P s 64 u v (h2 u hu) (h2 v hv)]
theorem zh3 (s:SchD):∀(n:Nat) (typ:List UInt8) (l:List SelD),ClL a d l→lsq s a n typ l=lsq s d n typ l
 | 0,typ,l,h=>ziO P s h fun _ _ _=>rfl
 | n+1,typ,l,h=>ziO P s h fun x hx t=>zh3 s n t x.sels (zpE h hx)
end
theorem ztQ (d:DocD) (n:List UInt8) (hl:d.frags.length≤Lim):zg Tryz.prog 32 [.agg (zP d),.str n] (.tup [.agg (cF ((zw d n).getD zFr)),.bool (zw d n).isSome]):=by
 have l1:=ZW d.frags
 simp only[Lim] at hl
 have hF:∀ done rest,d.frags=done++rest→(∀ f∈done,f.nm≠n)→zw d n=rest.find? (YL n):=fun done rest e h=>by
  rw[zw,e,List.find?_append,List.find?_eq_none.2 (fun f hf=>by simp[YL,h f hf])]
  rfl
 have hcd:zP d=[.sl .no 5 (cOs d.ops),.sl .no 4 (cFs d.frags)]:=rfl
 rw[hcd]
 generalize zw d n=F at *
 refine zg.go ir32 ck32 (Al4 _) fun KP Q hQ=>?_
 simp(disch:=omega) only[ir32,go_sem]
 refine zc fun b4 hb4=>?_
 simp(disch:=omega) only[l1,go_sem]
 refine zf d.frags 6 (fun _:Unit=>[]) (fun done rest _ H'=>(∀ f∈done,f.nm≠n)∧H' b4=some (.cells [.str [],.str [],.sl .nil 2 [],.sl .nil 7 []])) () (by simp(disch:=omega) only[go_sem]) ⟨by simp,upd_same ..⟩ ?_ ?_
 ·rintro _ H1 J ⟨hn,c4⟩ hlt
  have e:=hF d.frags [] (by simp) hn
  simp only[List.find?_nil] at e
  simp(disch:=omega) only[l1,hlt,c4,go_sem]
  refine hQ _ _ _ [.agg [.str [],.str [],.sl .nil 2 [],.sl .nil 7 []],.bool false] nofun (by simp(disch:=omega) only[ir32,zG,Zk,go_sem]) (by rw[e];rfl)
 ·rintro done x rest _ H1 J hd hlt _ ⟨hn,c4⟩ hJ
  have hg:=Yl hd
  have e:=hF done (x::rest) hd hn
  obtain⟨fn,fo,fd,fs⟩:=x
  rw[Z7] at hg
  by_cases hx:fn=n
  ·have hx':=eq_true hx
   have e2:F=some ⟨fn,fo,fd,fs⟩:=by rw[e];simp[YL,hx]
   simp(disch:=omega) only[l1,hlt,hg,hx',c4,go_sem]
   refine hQ _ _ _ [.agg [.str fn,.str fo,.sl .no 2 (cDs fd),.sl .no 7 (cSs fs)],.bool true] nofun (by simp(disch:=omega) only[ir32,zG,Zk,go_sem]) (by rw[e2];rfl)
  ·simp(disch:=omega) only[l1,hlt,hg,hx,c4,go_sem]
   exact goJ (hJ () _ ⟨fun f hf=>by
    rcases List.mem_append.1 hf with h|h
    ·exact hn f h
    ·simp only[List.mem_singleton] at h;subst h;exact hx,c4⟩) (by simp(disch:=omega) only[wrap64,go_sem])
mutual
theorem ztS {d:DocD} {g:Nat→List SelD→Nat} {Z:Nat} (hg:∀ m n,g m (frS d n)≤m+Z):∀(x:SelD) (r:Nat),zhW d g x r≤r+bS x+Z
 | .mk k al nm args dirs on sels,r=>by
  have h1:=zhk hg sels r 0
  simp only[zhW,bS]
  split
  ·rename_i hc
   have h2:=hg (r-(1+Zp d g sels r 0)) nm
   omega
  ·omega
theorem zhk {d:DocD} {g:Nat→List SelD→Nat} {Z:Nat} (hg:∀ m n,g m (frS d n)≤m+Z):∀(l:List SelD) (most n:Nat),Zp d g l most n≤n∨Zp d g l most n≤most+bSs l+Z
 | [],most,n=>.inl (by simp[Zp])
 | x::xs,most,n=>by
  simp only[Zp,bSs]
  split
  ·have h1:=ztS hg x (most-n)
   rcases zhk hg xs most (n+zhW d g x (most-n)) with h|h
   ·right;omega
   ·right;omega
  ·left;omega
end
theorem zml {d:DocD} {D:Nat} (hD:∀ n,bSs (frS d n)≤D):∀(k m:Nat) (l:List SelD),few d k m l≤m+bSs l+1+k*D
 | 0,m,l=>by simp only[few];omega
 | k+1,m,l=>by
  have h:=zhk (d:=d) (g:=few d k) (Z:=1+D+k*D) (fun m n=>by
   have h1:=zml hD k m (frS d n)
   have h2:=hD n
   omega) l m 0
  simp only[few,Nat.add_mul,Nat.one_mul]
  omega
theorem zt1 (d:DocD) (n:List UInt8):bSs (frS d n)≤zq d:=by
 cases hf:zw d n with
 | none=>simp[frS,hf,zFr,bSs]
 | some f =>
  have hm:f∈d.frags:=List.mem_of_find?_eq_some hf
  have h1:=zai f
  have h2:=zaY hm
  simp only[frS,hf,Option.getD_some,zq]
  omega
theorem zxG (d:DocD) (hdb:zq d≤1048576):∀(k c:Nat) (l:List SelD) (most:Nat),bSs l≤c→c≤1048576→most<k→k≤41→zg Tryz.prog 15 [.agg (zP d),.sl .no 7 (cSs l),.int .i64 most] (.int .i64 (few d k most l)):=by
 have hfl:=yx d.frags
 have h0:bFs d.frags≤zq d:=by simp only[zq];omega
 have hfr:=fun n=>ztQ d n (by simp only[Lim];omega)
 have hD:=zt1 d
 have hcd:zP d=[.sl .no 5 (cOs d.ops),.sl .no 4 (cFs d.frags)]:=rfl
 intro k
 induction k with
 | zero=>intro c l most h1 h2 h3;omega
 | succ k ihk =>
 intro c
 induction c using Nat.strongRecOn with
 | _ c ihc =>
 intro l most hb hc hm hk
 have hg:∀ nm m,m<k→zg Tryz.prog 15 [.agg (zP d),.sl .no 7 (cSs (frS d nm)),.int .i64 m] (.int .i64 (few d k m (frS d nm))):=fun nm m hm=>ihk (zq d) (frS d nm) m (hD nm) hdb hm (by omega)
 have hs:∀ sels,bSs sels<c→∀ m,m<k+1→zg Tryz.prog 15 [.agg (zP d),.sl .no 7 (cSs sels),.int .i64 m] (.int .i64 (Zp d (few d k) sels m 0)):=fun sels h m hm=>ihc (bSs sels) h sels m (Al4 _) (by omega) hm hk
 have hup:=zml hD (k+1) most l
 have hge:=zg5 d (few d k)
 have e0:few d (k+1) most l=Zp d (few d k) l most 0:=rfl
 have eC:∀ x xs n,Zp d (few d k) (x::xs) most n=if n≤most then Zp d (few d k) xs most (n+zhW d (few d k) x (most-n)) else n:=fun x xs n=>by simp only[Zp]
 have eN:∀ n,Zp d (few d k) [] most n=n:=fun n=>by simp only[Zp]
 have eX:∀ kk al nm args dirs on sels r,zhW d (few d k) (.mk kk al nm args dirs on sels) r=if kk=1∧1+Zp d (few d k) sels r 0≤r then 1+Zp d (few d k) sels r 0+few d k (r-(1+Zp d (few d k) sels r 0)) (frS d nm) else 1+Zp d (few d k) sels r 0:=fun kk al nm args dirs on sels r=>by simp only[zhW]
 have hmul:(k+1)*zq d≤41*1048576:=Nat.mul_le_mul hk hdb
 have l1:=ZI l
 have hll:=Z6 l
 generalize hF:few d (k+1) most l=F at *
 generalize hgk:few d k=gk at *
 simp only[hcd] at hfr hs hg ⊢
 refine zg.go ir15 ck15 (Al4 _) fun KP Q hQ=>?_
 simp(disch:=omega) only[ir15,go_sem]
 refine zf l 8 (fun n:Nat=>[(7,.int .i64 n)]) (fun done rest n _=>Zp d gk rest most n=F) 0 (by simp(disch:=omega) only[go_sem]) e0.symm ?_ ?_
 ·rintro n H J hn hlt
  rw[eN] at hn
  subst hn
  simp(disch:=omega) only[l1,hlt,go_sem]
  exact hQ _ _ _ _ nofun rfl (by simp[zd,ze,AV.strip,AV.strip1])
 ·rintro done x rest n H J hd hlt _ hn hJ
  have hg2:=Y4 hd
  have hbm:=zaH done x rest
  rw[← hd] at hbm
  rw[eC] at hn
  obtain⟨kk,al,nm,args,dirs,on,sels⟩:=x
  rw[eX] at hn
  simp only[bS] at hbm
  rw[yM] at hg2
  by_cases hnm:n≤most
  case neg =>
   rw[if_neg hnm] at hn
   subst hn
   have hnm':¬ ((n:Int)≤most):=by omega
   simp(disch:=omega) only[l1,hlt,hnm',go_sem]
   exact hQ _ _ _ _ nofun rfl (by simp[zd,ze,AV.strip,AV.strip1])
  rw[if_pos hnm] at hn
  have hnm':((n:Int)≤most)=True:=eq_true (by omega)
  have hin:=hs sels (by omega) (most-n) (by omega)
  have ecast:((most-n:Nat):Int)=most-n:=by omega
  rw[ecast] at hin
  generalize hA:Zp d gk sels (most-n) 0=A at *
  by_cases hc1:kk=1∧1+A≤most-n
  ·rw[if_pos hc1] at hn
   have hge2:=hge rest most (n+(1+A+gk (most-n-(1+A)) (frS d nm)))
   rw[hn] at hge2
   have hk1:=eq_true hc1.1
   have hle2:((n:Int)+1+A≤most)=True:=eq_true (by omega)
   have hfx:=hfr nm
   have hfn:=hg nm (most-n-(1+A)) (by omega)
   have ecast2:((most-n-(1+A):Nat):Int)=most-(n+1+A):=by omega
   rw[ecast2] at hfn
   generalize hG:gk (most-n-(1+A)) (frS d nm)=G at *
   have efs:frS d nm=((zw d nm).getD zFr).sels:=rfl
   rw[efs] at hfn
   generalize (zw d nm).isSome=fs at *
   generalize (zw d nm).getD zFr=f at *
   obtain⟨fn,fo,fd,fss⟩:=f
   rw[Z7] at hfx
   simp only at hfn
   simp(disch:=omega) only[l1,hlt,hnm',hg2,wrap64,go_sem]
   refine za hin ?_
   simp(disch:=omega) only[l1,hlt,hnm',hg2,wrap64,hk1,hle2,go_sem]
   refine za hfx ?_
   simp(disch:=omega) only[go_sem]
   refine zc fun b9 hb9=>?_
   simp(disch:=omega) only[wrap64,go_sem]
   refine za hfn ?_
   simp(disch:=omega) only[wrap64,go_sem]
   have ec:((n+(1+A+G):Nat):Int)=n+1+A+G:=by omega
   exact goJ (hJ (n+(1+A+G)) _ hn) (by simp(disch:=omega) only[wrap64,ec,go_sem])
  ·rw[if_neg hc1] at hn
   have hge2:=hge rest most (n+(1+A))
   rw[hn] at hge2
   by_cases hk1:kk=1
   ·have hk1':=eq_true hk1
    have hle2:¬ ((n:Int)+1+A≤most):=fun h=>hc1 ⟨hk1,by omega⟩
    simp(disch:=omega) only[l1,hlt,hnm',hg2,wrap64,go_sem]
    refine za hin ?_
    simp(disch:=omega) only[l1,hlt,hnm',hg2,wrap64,hk1',hle2,go_sem]
    have ec:((n+(1+A):Nat):Int)=n+1+A:=by omega
    exact goJ (hJ (n+(1+A)) _ hn) (by simp(disch:=omega) only[wrap64,ec,go_sem])
   ·simp(disch:=omega) only[l1,hlt,hnm',hg2,wrap64,go_sem]
    refine za hin ?_
    simp(disch:=omega) only[l1,hlt,hnm',hg2,wrap64,hk1,go_sem]
    have ec:((n+(1+A):Nat):Int)=n+1+A:=by omega
    exact goJ (hJ (n+(1+A)) _ hn) (by simp(disch:=omega) only[wrap64,ec,go_sem])
theorem zfF (d:DocD) {Z:Nat}:∀(l:List (List SelD)) (n:Nat),(∀ x∈l,few d 41 40 x≤Z)→Zv d l n≤n∨Zv d l n≤40+Z
 | [],n,_=>.inl (Al4 _)
 | x::r,n,h=>by
  simp only[Zv]
  split
  ·have h1:=h x (Zr ..)
   rcases zfF d r (n+few d 41 40 x) (fun y hy=>h y (Zm _ hy)) with h2|h2
   ·right;omega
   ·exact .inr h2
  ·exact .inl (Al4 _)
theorem zqX (s:SchD) (d:DocD) (hsb:zI s≤1048576) (hdb:zq d≤1048576):zg Tryz.prog 4 [.agg (zl s),.agg (zP d)] (.bool (Y8 s d)):=by
 have r1:=zr9 s (by simp only[Lim];omega)
 have r2:=zvH d (by simp only[Lim];omega)
 have hbl:=@zi7 d
 have hmo:∀ o∈d.ops,o.sels∈zJ d:=fun o ho=>by simp only[zJ,List.mem_append,List.mem_map];exact .inl ⟨o,ho,rfl⟩
 have hmf:∀ f∈d.frags,f.sels∈zJ d:=fun f hf=>by simp only[zJ,List.mem_append,List.mem_map];exact .inr ⟨f,hf,rfl⟩
 have hfew:=fun x (h:x∈zJ d)=>zxG d hdb 41 (zq d) x 40 (hbl h) hdb (by omega) (Al4 _)
 have hup:=fun x (h:x∈zJ d)=>(by
  have:=zml (zt1 d) 41 40 x
  have:=hbl h
  omega:few d 41 40 x≤50000000)
 have hol:=y9 d.ops
 have hfl:=yx d.frags
 have h0:bOs d.ops+bFs d.frags=zq d:=rfl
 have l1:=Z8 d.ops
 have l2:=ZW d.frags
 have u1:=zfF d (d.ops.map (·.sels)) 0 (Z:=50000000) (fun x hx=>hup x (by obtain⟨o,ho,rfl⟩:=List.mem_map.1 hx;exact hmo o ho))
 have u2:=zfF d (d.frags.map (·.sels)) (Zv d (d.ops.map (·.sels)) 0) (Z:=50000000) (fun x hx=>hup x (by obtain⟨o,ho,rfl⟩:=List.mem_map.1 hx;exact hmf o ho))
 have hge:=za6 d
 have e0:Y8 s d=(zfN s&&zd7 d&&decide (Zv d (d.frags.map (·.sels)) (Zv d (d.ops.map (·.sels)) 0)≤40)):=rfl
 have eC:∀ x r n,Zv d (x::r) n=if n≤40 then Zv d r (n+few d 41 40 x) else n:=fun _ _ _=>rfl
 have eN:∀ n,Zv d [] n=n:=fun _=>rfl
 have eX:∀(l:List (List SelD)) n,¬ n≤40→Zv d l n=n:=fun l n h=>by cases l with|nil=>rfl|cons x r=>rw[eC,if_neg h]
 generalize Y8 s d=F at *
 generalize zfN s=x1 at *
 generalize zd7 d=x2 at *
 have hcd:zP d=[.sl .no 5 (cOs d.ops),.sl .no 4 (cFs d.frags)]:=rfl
 have hcs:zl s=[.sl .no 6 (cEs s.defs),.str s.q,.str s.m]:=rfl
 simp only[hcs,hcd] at r1 r2 hfew ⊢
 generalize hA:Zv d=A at *
 refine zg.go ir4 ck4 (Al4 _) fun KP Q hQ=>?_
 simp(disch:=omega) only[ir4,go_sem]
 refine za r1 ?_
 cases x1 with
 | false =>
  simp(disch:=omega) only[go_sem]
  exact hQ _ _ _ _ nofun rfl (by simp[zd,ze,AV.strip,AV.strip1,e0])
 | true =>
 simp(disch:=omega) only[go_sem]
 refine za r2 ?_
 cases x2 with
 | false =>
  simp(disch:=omega) only[go_sem]
  exact hQ _ _ _ _ nofun rfl (by simp[zd,ze,AV.strip,AV.strip1,e0])
 | true =>
 simp only[Bool.true_and] at e0
 generalize hT:A (d.frags.map (·.sels)) (A (d.ops.map (·.sels)) 0)=T at *
 have second:True:=trivial
 simp(disch:=omega) only[go_sem]
 refine zf d.ops 6 (fun n:Nat=>[(5,.int .i64 n)]) (fun done rest n _=>A (rest.map (·.sels)) n=A (d.ops.map (·.sels)) 0) 0 (by simp(disch:=omega) only[go_sem]) rfl ?_ ?_
 ·rintro n H J hn hlt
  simp only[List.map_nil] at hn
  rw[eN] at hn
  rw[← hn] at hT u1
  simp(disch:=omega) only[l1,hlt,go_sem]
  refine zf d.frags 7 (fun n:Nat=>[(5,.int .i64 n)]) (fun done rest n _=>A (rest.map (·.sels)) n=T) n (by simp(disch:=omega) only[go_sem]) hT ?_ ?_
  ·rintro n2 H2 J2 hn2 hlt2
   simp only[List.map_nil] at hn2
   rw[eN] at hn2
   subst hn2
   have ed:decide ((n2:Int)≤40)=decide (n2≤40):=decide_eq_decide.2 (by omega)
   simp(disch:=omega) only[l2,hlt2,go_sem]
   exact hQ _ _ _ _ nofun rfl (by simp[zd,ze,AV.strip,AV.strip1,e0,ed])
  ·rintro done x rest n2 H2 J2 hd hlt2 _ hn2 hJ2
   have hg:=Yl hd
   have hxm:=hmf x (by rw[hd];simp)
   have hfx:=hfew x.sels hxm
   have hux:=hup x.sels hxm
   rw[List.map_cons,eC] at hn2
   obtain⟨fn,fo,fd,fs⟩:=x
   rw[Z7] at hg
   simp only at hfx hux hn2
   by_cases h4:n2≤40
   case neg =>
    rw[if_neg h4] at hn2
    subst hn2
    have ed:decide ((n2:Int)≤40)=decide (n2≤40):=decide_eq_decide.2 (by omega)
    have h4':¬ ((n2:Int)≤40):=by omega
    simp(disch:=omega) only[l2,hlt2,h4',go_sem]
    exact hQ _ _ _ _ nofun rfl (by simp[zd,ze,AV.strip,AV.strip1,e0,h4])
   rw[if_pos h4] at hn2
   have h4':((n2:Int)≤40)=True:=eq_true (by omega)
   generalize few d 41 40 fs=w at *
   have ec:((n2+w:Nat):Int)=n2+w:=by omega
   simp(disch:=omega) only[l2,hlt2,h4',hg,go_sem]
   refine za hfx ?_
   simp(disch:=omega) only[wrap64,go_sem]
   exact goJ (hJ2 (n2+w) _ hn2) (by simp(disch:=omega) only[wrap64,ec,go_sem])
 ·rintro done x rest n H J hd hlt _ hn hJ
  have hg:=Yk hd
  have hxm:=hmo x (by rw[hd];simp)
  have hfx:=hfew x.sels hxm
  have hux:=hup x.sels hxm
  rw[List.map_cons,eC] at hn
  obtain⟨ok,onm,vs,ds,ss⟩:=x
  rw[zap] at hg
  simp only at hfx hux hn
  by_cases h4:n≤40
  case neg =>
   rw[if_neg h4] at hn
   rw[← hn,eX _ n h4] at hT
   subst hT
   have h4':¬ ((n:Int)≤40):=by omega
   simp(disch:=omega) only[l1,hlt,h4',l2,go_sem]
   refine zf d.frags 7 (fun _:Unit=>[(5,.int .i64 n)]) (fun _ _ _ _=>True) () (by simp(disch:=omega) only[go_sem]) trivial ?_ ?_
   ·rintro _ H2 J2 _ hlt2
    simp(disch:=omega) only[l2,hlt2,h4',go_sem]
    exact hQ _ _ _ _ nofun rfl (by simp[zd,ze,AV.strip,AV.strip1,e0,h4])
   ·rintro done2 x2 rest2 _ H2 J2 hd2 hlt2 _ _ hJ2
    simp(disch:=omega) only[l2,hlt2,h4',go_sem]
    exact hQ _ _ _ _ nofun rfl (by simp[zd,ze,AV.strip,AV.strip1,e0,h4])
  rw[if_pos h4] at hn
  have h4':((n:Int)≤40)=True:=eq_true (by omega)
  generalize few d 41 40 ss=w at *
  have ec:((n+w:Nat):Int)=n+w:=by omega
  simp(disch:=omega) only[l1,hlt,h4',hg,go_sem]
  refine za hfx ?_
  simp(disch:=omega) only[wrap64,go_sem]
  exact goJ (hJ (n+w) _ hn) (by simp(disch:=omega) only[wrap64,ec,go_sem])
theorem zik:∀(l a:List (List UInt8)),zc7 a l=true↔l.Nodup∧∀ x∈l,x ∉ a
 | [],a=>by simp[zc7]
 | x::r,a=>by
  simp only[zc7,Al0,Bool.not_eq_true',zho]
  rw[zik r (a++[x]),List.nodup_cons]
  constructor
  ·rintro⟨h1,h2,h3⟩
   refine⟨⟨fun h=>h3 x h (by simp),h2⟩,fun y hy=>?_⟩
   rcases List.mem_cons.1 hy with rfl|hy
   ·exact h1
   ·exact fun h=>h3 y hy (ZZ _ h)
  ·rintro⟨⟨h1,h2⟩,h3⟩
   refine⟨h3 x (Zr ..),h2,fun y hy h=>?_⟩
   rcases List.mem_append.1 h with h|h
   ·exact h3 y (Zm _ hy) h
   ·simp only[List.mem_singleton] at h;subst h;exact h1 hy
theorem zb6 (l:List (List UInt8)):zan l=true↔l.Nodup:=by
 unfold zan;rw[zik];simp
def Sub {α:Type} (l m:List α):Prop:=∃ t,l.Perm t∧t.Sublist m
section
variable {α β:Type} {l m:List α}
theorem Sub.mem (h:Sub l m) {x:α} (hx:x∈l):x∈m:=by obtain⟨t,h1,h2⟩:=h;exact h2.subset (h1.mem_iff.1 hx)
theorem Sub.map (f:α→β) (h:Sub l m):Sub (l.map f) (m.map f):=by obtain⟨t,h1,h2⟩:=h;exact⟨t.map f,h1.map f,h2.map f⟩
theorem Sub.filter (p:α→Bool) (h:Sub l m):Sub (l.filter p) (m.filter p):=by obtain⟨t,h1,h2⟩:=h;exact⟨t.filter p,h1.filter p,h2.filter p⟩
theorem Sub.nodup (h:Sub l m) (hm:m.Nodup):l.Nodup:=by obtain⟨t,h1,h2⟩:=h;exact h1.nodup_iff.2 (hm.sublist h2)
theorem Sub.len (h:Sub l m):l.length≤m.length:=by obtain⟨t,h1,h2⟩:=h;rw[h1.length_eq];exact h2.length_le
theorem Sub.all {p:α→Bool} (h:Sub l m) (hm:m.all p=true):l.all p=true:=by
 rw[YV] at hm ⊢;exact fun x hx=>hm x (h.mem hx)
theorem ztL {l m:List Nat} (h:l.Sublist m):l.sum≤m.sum:=by
 induction h with
 | slnil=>exact Al4 _
 | cons a _ ih=>simp only[List.sum_cons];omega
 | cons_cons a _ ih=>simp only[List.sum_cons];omega
theorem zqD {l m:List Nat} (h:l.Perm m):l.sum=m.sum:=by
 induction h with
 | nil=>rfl
 | cons a _ ih=>simp only[List.sum_cons,ih]
 | swap a b l=>simp only[List.sum_cons];omega
 | trans _ _ i1 i2=>exact i1.trans i2
theorem Sub.sum (g:α→Nat) (h:Sub l m):(l.map g).sum≤(m.map g).sum:=by
 obtain⟨t,h1,h2⟩:=h.map g
 rw[zqD h1];exact ztL h2
end
structure PartV (a d:DocD):Prop where
 so:Sub a.ops d.ops
 sf:Sub a.frags d.frags
 nd:(d.frags.map (·.nm)).Nodup
 ne:0<a.ops.length
 cl:∀ l∈zJ a,∀ n,Zn n l→zw a n=zw d n
 us:∀ f∈a.frags,∃ o∈a.ops,f.nm∈zT d o.sels
section
variable {a d:DocD} (V:PartV a d)
include V
theorem Za:PartD a d:=⟨fun o h=>V.so.mem h,fun f h=>V.sf.mem h,V.nd,(V.sf.map _).nodup V.nd,V.cl⟩
theorem zhP:bFs a.frags≤bFs d.frags:=V.sf.sum bF
theorem znI:zq a≤zq d:=by
 have h1:=V.sf.sum bF
 have h2:=V.so.sum bO
 simp only[zq,bOs,bFs] at *;omega
theorem zxp (h:zcc d):zcc a:=⟨fun x hx=>h.1 x (V.so.mem hx),fun x hx=>h.2 x (V.sf.mem hx)⟩
theorem zvJ:lenD a≤lenD d:=by have h1:=V.so.len;have h2:=V.sf.len;simp only[lenD];omega
omit V in
theorem zsM (P:PartD a d) {n:Nat} {l:List SelD} (h:Sz d n l):ClL a d l→Sz a n l:=by
 induction h with
 | nil=>exact fun _=>.nil _
 | @cons n i j m k al nm args dirs on sels r hle h1 h2 h3 i1 i2 i3 =>
  intro hc
  refine .cons hle (i1 fun y hy=>hc y (by simp only[Zn,zcS];exact .inl (.inr hy))) (fun hk=>?_) (i3 fun y hy=>hc y (by simp only[Zn];exact .inr hy))
  have e:=hc nm (by simp only[Zn,zcS];exact .inl (.inl ⟨hk,trivial⟩))
  have h4:=i2 hk
  rw[← (zjI P e).1] at h4
  exact h4 (zqB P nm)
theorem zuu (h:∀ x∈zJ d,Sz d 40 x):∀ x∈zJ a,Sz a 40 x:=fun x hx=>by
 refine zsM (Za V) (h x ?_) (V.cl x hx)
 simp only[zJ,List.mem_append,List.mem_map] at hx ⊢
 rcases hx with ⟨o,ho,e⟩|⟨f,hf,e⟩
 ·exact .inl ⟨o,V.so.mem ho,e⟩
 ·exact .inr ⟨f,V.sf.mem hf,e⟩
end
theorem zdW (R:List (List UInt8)) (x:List UInt8):∀(fs:List FragD) (l:List (List UInt8)),x∈fs.foldl (yU R) l↔x∈l∨(x∈R∧x∈fs.map (·.nm))
 | [],l=>by simp
 | f::fs,l=>by
  rw[List.foldl_cons,zdW R x fs]
  have h1:x∈yU R l f↔x∈l∨(x=f.nm∧x∈R):=by
   unfold yU
   by_cases hx:zL f.nm R=true∧zL f.nm l=false
   ·rw[if_pos hx,List.mem_append,List.mem_singleton]
    have:=(y7 _ _).1 hx.1
    constructor
    ·rintro(h|rfl)
     ·exact .inl h
     ·exact .inr ⟨rfl,this⟩
    ·rintro(h|⟨h,_⟩)
     ·exact .inl h
     ·exact .inr h
   ·rw[if_neg hx]
    constructor
    ·exact .inl
    ·rintro(h|⟨rfl,h⟩)
     ·exact h
     ·have h2:=(y7 _ _).2 h
      cases h3:zL f.nm l with
      | true=>exact(y7 _ _).1 h3
      | false=>exact absurd ⟨h2,h3⟩ hx
  rw[h1,List.map_cons,List.mem_cons]
  constructor
  ·rintro((h|⟨h,h2⟩)|⟨h,h2⟩)
   ·exact .inl h
   ·exact .inr ⟨h2,.inl h⟩
   ·exact .inr ⟨h,.inr h2⟩
  ·rintro(h|⟨h,h2|h2⟩)
   ·exact .inl (.inl h)
   ·exact .inl (.inr ⟨h2,h⟩)
   ·exact .inr ⟨h,h2⟩
theorem Zu (d:DocD) (sels:List SelD) (x:List UInt8):x∈yj d sels↔x∈zT d sels∧x∈d.frags.map (·.nm):=by
 unfold yj;rw[zdW];simp
theorem zay (d:DocD) (n:List UInt8):(zw d n).isSome=true↔n∈d.frags.map (·.nm):=by
 unfold zw
 rw[List.find?_isSome]
 simp only[YL,yH,List.mem_map]
abbrev NmF:=List (List UInt8)→List (List UInt8)
def Grow (f:NmF):Prop:=∀ l x,x∈f l↔x∈l∨x∈f []
theorem Grow.comp {f g:NmF} (hf:Grow f) (hg:Grow g):Grow fun l=>f (g l):=fun l x=>by
 rw[hf (g l),hf (g []),hg l,or_assoc]
theorem Grow.foldl {α:Type} {f:List (List UInt8)→α→List (List UInt8)} (h:∀ y,Grow fun l=>f l y):∀ r:List α,Grow fun l=>r.foldl f l
 | []=>fun l x=>by simp
 | y::r=>(Grow.foldl h r).comp (h y)
theorem zio {α:Type} {f:List (List UInt8)→α→List (List UInt8)} (h:∀ y,Grow fun l=>f l y) (x:List UInt8):∀(r:List α) (l:List (List UInt8)),x∈r.foldl f l↔x∈l∨∃ y∈r,x∈f [] y
 | [],l=>by simp
 | y::r,l=>by
  rw[List.foldl_cons,zio h x r,h y l x,or_assoc]
  simp
theorem zg6 (n:List UInt8):∀(l:List (List UInt8)) (k:Nat),zbF n l k=none→n∈l
 | [],k,h=>by simp[zbF] at h
 | y::r,k,h=>by
  simp only[zbF] at h
  split at h
  ·exact Zm _ (zg6 n r _ h)
  ·split at h
   ·rename_i e;rw[e];exact Zr ..
   ·cases h
theorem zlo (l:List (List UInt8)) (n x:List UInt8):x∈zeu l n↔x∈l∨x=n:=by
 unfold zeu
 split
 ·rename_i h
  have:=zg6 n l 0 h
  constructor
  ·exact .inl
  ·rintro(h|rfl)
   ·exact h
   ·exact this
 ·rename_i k h
  have e:x∈l↔x∈l.take k∨x∈l.drop k:=by rw[← List.mem_append,List.take_append_drop]
  rw[List.mem_append,List.mem_cons,e]
  constructor
  ·rintro(h|h|h)
   ·exact .inl (.inl h)
   ·exact .inr h
   ·exact .inl (.inr h)
  ·rintro((h|h)|h)
   ·exact .inl h
   ·exact .inr (.inr h)
   ·exact .inr (.inl h)
theorem zpb (n:List UInt8):Grow fun l=>zeu l n:=fun l x=>by rw[zlo,zlo];simp
theorem zkZ (m:Mem):Grow fun l=>ofM l m:=Grow.foldl zpb _
theorem zqV (d:DirD):Grow fun l=>ofD l d:=Grow.foldl zkZ _
mutual
theorem zqb:∀ x:SelD,Grow (wrS x)
 | .mk k al nm args dirs on sels=>by
  have:=(zbX sels).comp ((Grow.foldl zqV dirs).comp (Grow.foldl zkZ args))
  intro l x
  simpa only[wrS] using this l x
theorem zbX:∀ r:List SelD,Grow (YB r)
 | []=>fun l x=>by simp[YB]
 | y::r=>by
  have:=(zbX r).comp (zqb y)
  intro l x
  simpa only[YB] using this l x
end
theorem zdJ (d:DocD) (sels:List SelD) (x:List UInt8):x∈ZD d sels↔x∈YB sels []∨∃ n∈yj d sels,x∈YB (frS d n) []:=by
 unfold ZD
 rw[zio (f:=fun l n=>YB ((zw d n).getD zFr).sels l) fun n=>zbX _]
 rfl
section
variable {a d:DocD} (s:SchD)
mutual
theorem zoz:∀(x:SelD) (typ:List UInt8),(∀ n,zcS n x→zw a n=zw d n)→zgP s (zbm s a) typ x=zgP s (zbm s d) typ x
 | .mk k al nm args dirs on sels,typ,h=>by
  simp only[zgP]
  rw[zcu sels _ fun n hn=>h n (by simp only[zcS];exact .inr hn)]
  have:zbm s a typ (.mk k al nm args dirs on sels)=zbm s d typ (.mk k al nm args dirs on sels):=by
   simp only[zbm]
   by_cases hk:k=1
   ·rw[h nm (by simp only[zcS];exact .inl ⟨hk,trivial⟩)]
   ·simp[hk]
  rw[this]
theorem zcu:∀(l:List SelD) (typ:List UInt8),ClL a d l→ZK s (zbm s a) typ l=ZK s (zbm s d) typ l
 | [],_,_=>rfl
 | x::r,typ,h=>by
  simp only[ZK]
  rw[zoz x typ fun n hn=>h n (by simp only[Zn];exact .inl hn),zcu r typ fun n hn=>h n (by simp only[Zn];exact .inr hn)]
end
end
section
variable {a d:DocD} (V:PartV a d) (s:SchD)
include V
theorem zbv {p:List UInt8→SelD→Bool} (h:yZ s d p=true):yZ s a p=true:=by
 simp only[yZ,Al0] at h ⊢
 exact⟨V.so.all h.1,V.sf.all h.2⟩
theorem zsd (h:yZ s d (zbm s d)=true):yZ s a (zbm s a)=true:=by
 have h1:=zbv V s h
 simp only[yZ,Al0,YV] at h1 ⊢
 exact⟨fun o ho=>by rw[zcu s _ _ (zk2 (Za V) ho)];exact h1.1 o ho,fun f hf=>by rw[zcu s _ _ (zja (Za V) hf)];exact h1.2 f hf⟩
theorem zmf {p:List DirD→Bool} (h:(zbd d).all p=true):(zbd a).all p=true:=by
 simp only[zbd,List.all_append,Al0,List.all_map] at h ⊢
 exact⟨V.so.all h.1,V.sf.all h.2⟩
theorem ziY {l:List SelD} (h:l∈zJ a):l∈zJ d:=by
 simp only[zJ,List.mem_append,List.mem_map] at h ⊢
 rcases h with ⟨o,ho,e⟩|⟨f,hf,e⟩
 ·exact .inl ⟨o,V.so.mem ho,e⟩
 ·exact .inr ⟨f,V.sf.mem hf,e⟩
theorem zhB {sels:List SelD} (h:ClL a d sels) (n:List UInt8):n∈yj a sels↔n∈yj d sels:=by
 obtain⟨h1,h2⟩:=zad (Za V) (zhP V) h
 rw[Zu,Zu,← h1]
 constructor
 ·rintro⟨h3,h4⟩
  exact⟨h3,by rw[← zay] at h4 ⊢;rwa [← h2 n h3]⟩
 ·rintro⟨h3,h4⟩
  exact⟨h3,by rw[← zay] at h4 ⊢;rwa [h2 n h3]⟩
theorem zfP {sels:List SelD} (h:ClL a d sels) {n:List UInt8} (hn:n∈yj d sels):zw a n=zw d n:=by
 obtain⟨h1,h2⟩:=zad (Za V) (zhP V) h
 exact h2 n (by rw[h1];exact((Zu d sels n).1 hn).1)
theorem ztV {sels:List SelD} (h:ClL a d sels) (x:List UInt8):x∈ZD a sels↔x∈ZD d sels:=by
 rw[zdJ,zdJ]
 constructor
 ·rintro(h1|⟨n,h1,h2⟩)
  ·exact .inl h1
  ·have h3:=(zhB V h n).1 h1
   exact .inr ⟨n,h3,by rw[← (zjI (Za V) (zfP V h h3)).1];exact h2⟩
 ·rintro(h1|⟨n,h1,h2⟩)
  ·exact .inl h1
  ·exact .inr ⟨n,(zhB V h n).2 h1,by rw[(zjI (Za V) (zfP V h h1)).1];exact h2⟩
theorem zpL {o:OpD} (ho:o∈a.ops) {x:SpotD} (h:x∈zdN s a o):x∈zdN s d o:=by
 have hc:=zk2 (Za V) ho
 simp only[zdN,List.mem_append,List.mem_flatMap] at h ⊢
 rcases h with h|⟨n,h1,h2⟩
 ·exact .inl h
 ·have h3:=(zhB V hc n).1 h1
  refine .inr ⟨n,h3,?_⟩
  simpa only[zgn,zfP V hc h3] using h2
theorem zsZ:zhq a=true:=by
 simp only[zhq,Bool.not_eq_true',List.any_eq_false]
 intro f hf
 obtain⟨o,ho,hr⟩:=V.us f hf
 have hm:∀(ops:List OpD) (l:List (List UInt8)),(f.nm∈l∨∃ o∈ops,f.nm∈zT a o.sels)→f.nm∈ops.foldl (fun l o=>l++zT a o.sels) l:=by
  intro ops
  induction ops with
  | nil=>rintro l (h|⟨o,h,_⟩);exact h;cases h
  | cons o ops ih =>
   rintro l (h|⟨p,h,h2⟩)
   ·exact ih _ (.inl (ZZ _ h))
   ·rcases List.mem_cons.1 h with rfl|h
    ·exact ih _ (.inl (List.mem_append_right _ h2))
    ·exact ih _ (.inr ⟨p,h,h2⟩)
 have:=hm a.ops [] (.inr ⟨o,ho,by rw[(zad (Za V) (zhP V) (zk2 (Za V) ho)).1];exact hr⟩)
 rw[(y7 _ _).2 (by exact this)]
 simp
theorem zxM (n:Int) (h:n=8∨ZT s d n=true):ZT s a n=true:=by
 by_cases n8:n=8
 ·subst n8
  have hu:=zsZ V
  simpa[ZT] using hu
 replace h:=h.resolve_left n8
 unfold ZT at h ⊢
 have hne:=V.ne
 have hlen:=V.so.len
 split at h
 ·rename_i hp;rw[if_pos hp]
  exact(zb6 _).2 (((V.so.map _).filter _).nodup ((zb6 _).1 h))
 rename_i h1
 rw[if_neg h1]
 split at h
 ·rename_i hp;rw[if_pos hp]
  simp only[Al0,zc6,yH,Bool.not_eq_true',zho] at h ⊢
  refine⟨hne,?_⟩
  rcases h.2 with h3|h3
  ·exact .inl (by omega)
  ·exact .inr fun hm=>h3 ((V.so.map (·.nm)).mem hm)
 rename_i h2
 rw[if_neg h2]
 split at h
 ·rename_i hp;rw[if_pos hp]
  simp only[zc6,Bool.not_eq_true',decide_eq_false_iff_not,List.any_eq_false,yH] at h ⊢
  rcases h with h|h
  ·exact .inl h
  ·exact .inr fun o ho=>h o (V.so.mem ho)
 rename_i h3
 rw[if_neg h3]
 split at h
 ·rename_i hp;rw[if_pos hp]
  exact(zb6 _).2 ((V.sf.map _).nodup ((zb6 _).1 h))
 rename_i h4
 rw[if_neg h4]
 split at h
 ·rename_i hp;rw[if_pos hp]
  simp only[onM,Al0,Bool.not_eq_true',List.any_eq_false] at h ⊢
  exact⟨fun f hf=>h.1 f (V.sf.mem hf),fun l hl=>h.2 l (ziY V hl)⟩
 rename_i h5
 rw[if_neg h5]
 split at h
 ·rename_i hp;rw[if_pos hp]
  simp only[zc1,Bool.not_eq_true',List.any_eq_false] at h ⊢
  intro l hl
  have:=h l (ziY V hl)
  have hc:ClL a d l:=V.cl l hl
  simp only[zf3,List.any_eq_true,not_exists,not_and] at this ⊢
  intro n hn
  rw[hc n (by rcases(Zs n l []).1 hn with h6|h6;cases h6;exact h6)]
  exact this n hn
 rename_i h6
 rw[if_neg h6]
 split at h
 ·rename_i hp;rw[if_pos hp]
  simp only[zav,Bool.not_eq_true',List.any_eq_false] at h ⊢
  intro f hf
  have:=h f (V.sf.mem hf)
  simp only[zgk] at this ⊢
  rwa [(zad (Za V) (zhP V) (zja (Za V) hf)).1]
 rename_i h7
 cases h
theorem zuZ (n:Int) (h:ZY s d n=true):ZY s a n=true:=by
 simp only[ZY,Al0] at h ⊢
 refine⟨?_,h.2⟩
 by_cases h3:n=11
 ·subst h3
  have e:∀ d,zd4 s d 11=zbm s d:=fun d=>by funext typ x;simp[zd4]
  rw[e] at h ⊢
  exact zsd V s h.1
 ·have e:zd4 s a n=zd4 s d n:=by funext typ x;simp[zd4,h3]
  rw[e];exact zbv V s h.1
theorem zv1 (n:Int) (h:Yg s d n=true):Yg s a n=true:=by
 unfold Yg at h ⊢
 split at h
 ·rename_i hp;rw[if_pos hp]
  simp only[Al0] at h ⊢
  exact⟨zmf V h.1,zbv V s h.2⟩
 rename_i h1
 rw[if_neg h1]
 split at h
 ·rename_i hp;rw[if_pos hp]
  exact zmf V h
 rename_i h2
 rw[if_neg h2]
 split at h
 ·rename_i hp;rw[if_pos hp]
  simp only[Al0] at h ⊢
  exact⟨zmf V h.1,zbv V s h.2⟩
 ·rename_i hp;rw[if_neg hp]
  exact h
theorem zv5 (n:Int) (h:Z0 s d n=true):Z0 s a n=true:=by
 unfold Z0 at h ⊢
 by_cases h1:n=15
 ·rw[if_pos h1] at h ⊢;exact zbv V s h
 rw[if_neg h1] at h ⊢
 by_cases h2:n=16
 ·rw[if_pos h2] at h ⊢;exact zbv V s h
 rw[if_neg h2] at h ⊢
 by_cases h3:n=17
 ·rw[if_pos h3] at h ⊢;exact zbv V s h
 rw[if_neg h3] at h;cases h
theorem zvG (n:Int) (h:zbk s d n=true):zbk s a n=true:=by
 simp only[zbk,Al0,Bool.not_eq_true',List.any_eq_false] at h ⊢
 refine⟨h.1,fun o ho=>?_⟩
 have:=h.2 o (V.so.mem ho)
 have hu:=ztV V (zk2 (Za V) ho)
 have e:YX s a n o=YX s d n o:=by
  unfold YX
  have e1:∀ p:List UInt8→Bool,(ZD a o.sels).any p=(ZD d o.sels).any p:=fun p=>by
   rw[Bool.eq_iff_iff,List.any_eq_true,List.any_eq_true]
   exact⟨fun⟨x,h1,h2⟩=>⟨x,(hu x).1 h1,h2⟩,fun⟨x,h1,h2⟩=>⟨x,(hu x).2 h1,h2⟩⟩
  have e2:∀ x,zL x (ZD a o.sels)=zL x (ZD d o.sels):=fun x=>by
   rw[Bool.eq_iff_iff,y7,y7];exact hu x
  rw[e1]
  simp only[e2]
 rw[e];exact this
theorem zw0 (n:Int) (h:zab s d n=true):zab s a n=true:=by
 unfold zab at h ⊢
 split at h
 ·rename_i hp;rw[if_pos hp]
  simp only[zcn,Al0] at h ⊢
  exact⟨V.so.all h.1,zbv V s h.2⟩
 rename_i h1
 rw[if_neg h1]
 split at h
 ·rename_i hp;rw[if_pos hp]
  simp only[zmI,zoK,YV] at h ⊢
  exact fun o ho x hx=>h o (V.so.mem ho) x (zpL V s ho hx)
 ·rename_i hp;rw[if_neg hp]
  exact h
theorem zw2 (n:Int) (hl:∀ x∈zJ d,Sz d 40 x) (hb:zq d≤Lim) (h:zaa s d n=true):zaa s a n=true:=by
 simp only[zaa,Al0] at h ⊢
 refine⟨h.1,?_⟩
 have hbV:=znI V
 rw[zgu (zuu V hl) (by omega) (Za V).nda]
 obtain⟨h1,h2,h3⟩:=(zgu hl hb V.nd).1 h.2
 refine⟨?_,fun f hf=>?_,fun o ho=>?_⟩
 ·simp only[zav,List.any_eq_false] at h1 ⊢
  intro f hf
  have:=h1 f (V.sf.mem hf)
  simp only[zgk] at this ⊢
  rwa [(zad (Za V) (zhP V) (zja (Za V) hf)).1]
 ·rw[zh3 (Za V) s 64 _ _ (zja (Za V) hf)];exact h2 f (V.sf.mem hf)
 ·rw[zh3 (Za V) s 64 _ _ (zk2 (Za V) ho)];exact h3 o (V.so.mem ho)
end
theorem zo1 {a d:DocD} (hs:Sub a.frags d.frags) (hn:(d.frags.map (·.nm)).Nodup) {n:List UInt8} (h:n∈d.frags.map (·.nm)→n∈a.frags.map (·.nm)):zw a n=zw d n:=by
 cases ha:zw a n with
 | some g =>
  have h1:=zkB hn (hs.mem (List.mem_of_find?_eq_some ha))
  have h2:g.nm=n:=by have:=List.find?_some ha;simpa[YL] using this
  rw[h2] at h1;exact h1.symm
 | none =>
  cases hd:zw d n with
  | none=>rfl
  | some f =>
   have h1:=(zay a n).2 (h ((zay d n).1 (by rw[hd];rfl)))
   rw[ha] at h1;cases h1
theorem zec {s:SchD} {d:DocD} (h:ZB s d=0):∀ i:Int,1≤i→i<25→yX s d i=true:=by
 unfold ZB at h
 split at h
 ·cases h
 have hc:∀(k:Nat) (n:Int),1≤n→zg4 s d k n=0→∀ i,n≤i→i<n+k→yX s d i=true:=by
  intro k
  induction k with
  | zero=>intro n _ _ i h1 h2;omega
  | succ k ih =>
   intro n hn h i h1 h2
   simp only[zg4] at h
   split at h
   ·rename_i hv
    by_cases e:i=n
    ·rw[e];exact hv
    ·exact ih (n+1) (by omega) h i (by omega) (by omega)
   ·omega
 exact hc 24 1 (by omega) h
theorem zoE {s:SchD} {d:DocD} (h:ZB s d=0):0<d.ops.length:=by
 have h2:=zec h 2 (by omega) (by omega)
 simp only[yX,ZT] at h2
 simp at h2
 exact h2.1
theorem zeR {s:SchD} {d:DocD} (h:ZB s d=0):(d.frags.map (·.nm)).Nodup:=by
 have h2:=zec h 4 (by omega) (by omega)
 exact(zb6 _).1 (by simpa[yX,ZT] using h2)
mutual
theorem zrM:∀(x:SelD) (l:List (List UInt8)),∃ t,zda x l=l++t
 | .mk k al nm args dirs on sels,l=>by
  simp only[zda]
  obtain⟨t,h⟩:=zfD sels (if k=1∧zL nm l=false then l++[nm] else l)
  rw[h]
  split
  ·exact⟨[nm]++t,by simp⟩
  ·exact⟨t,rfl⟩
theorem zfD:∀(r:List SelD) (l:List (List UInt8)),∃ t,yC r l=l++t
 | [],l=>⟨[],by simp[yC]⟩
 | x::r,l=>by
  obtain⟨t,h⟩:=zrM x l
  obtain⟨u,h2⟩:=zfD r (zda x l)
  exact⟨t++u,by rw[yC,h2,h,zb0]⟩
end
theorem zgV {d:DocD}:∀(k:Nat) (l:List (List UInt8)) (i:Nat) (x:List UInt8),x∈l→x∈yO d k l i
 | 0,l,i,x,h=>h
 | k+1,l,i,x,h=>by
  simp only[yO]
  cases l[i]? with
  | none=>exact h
  | some y =>
   simp only
   refine zgV k _ _ x ?_
   cases zw d y with
   | none=>exact h
   | some f=>exact(Zs x f.sels l).2 (.inl h)
theorem zbU {d:DocD} {U:List (List UInt8)} (hU:∀ f∈d.frags,∀ y∈zaq f.sels,y∈U):∀(k:Nat) (l:List (List UInt8)) (i:Nat),OkN U l→U.length+1≤k+i →
  (∀ j x f,j<i→l[j]?=some x→zw d x=some f→∀ n,Zn n f.sels→n∈l)→∀ x∈yO d k l i,∀ f,zw d x=some f→∀ n,Zn n f.sels→n∈yO d k l i
 | 0,l,i,h,hk,hc=>by
  intro x hx f hf n hn
  have:=zgz h
  obtain⟨j,hj,e⟩:=List.getElem_of_mem (show x∈l from hx)
  exact hc j x f (by omega) (by rw[Al9 hj,e]) hf n hn
 | k+1,l,i,h,hk,hc=>by
  simp only[yO]
  cases hl:l[i]? with
  | none =>
   intro x hx f hf n hn
   have h1:=List.getElem?_eq_none_iff.1 hl
   obtain⟨j,hj,e⟩:=List.getElem_of_mem (show x∈l from hx)
   exact hc j x f (by omega) (by rw[Al9 hj,e]) hf n hn
  | some y =>
   simp only
   cases hf:zw d y with
   | none =>
    refine zbU hU k l (i+1) h (by omega) fun j x f hj hx hf2 n hn=>?_
    by_cases e:j=i
    ·subst e;rw[hl] at hx;cases hx;rw[hf] at hf2;cases hf2
    ·exact hc j x f (by omega) hx hf2 n hn
   | some g =>
    obtain⟨t,ht⟩:=zfD g.sels l
    refine zbU hU k _ (i+1) (Yt g.sels l (hU g (List.mem_of_find?_eq_some hf)) h) (by omega) fun j x f hj hx hf2 n hn=>?_
    have hil:i<l.length:=(Z4.1 hl).1
    simp only at hx ⊢
    rw[ht,zb8 (by omega)] at hx
    by_cases e:j=i
    ·subst e;rw[hl] at hx;cases hx;rw[hf] at hf2;cases hf2
     exact(Zs n g.sels l).2 (.inr hn)
    ·exact(Zs n g.sels l).2 (.inl (hc j x f (by omega) hx hf2 n hn))
theorem zdZ (d:DocD) (sels:List SelD) {n:List UInt8} (h:Zn n sels):n∈zT d sels :=
 zgV _ _ _ n ((Zs n sels []).2 (.inr h))
theorem zes (d:DocD) (sels:List SelD) {x:List UInt8} (hx:x∈zT d sels) {f:FragD} (hf:zw d x=some f) {n:List UInt8} (h:Zn n f.sels):n∈zT d sels:=by
 have hU:∀ f∈d.frags,∀ y∈zaq f.sels,y∈zcV d sels:=fun f hf y hy=>by
  simp only[zcV,List.mem_append,List.mem_flatMap];exact .inr ⟨f,hf,hy⟩
 have ok0:OkN (zcV d sels) (yC sels []):=Yt sels [] (fun y hy=>by simp[zcV,hy]) ⟨List.nodup_nil,by simp⟩
 exact zbU hU (bSs sels+bFs d.frags+1) (yC sels []) 0 ok0 (by have:=zgw d sels;omega) (fun j x f hj=>by omega) x hx f hf n h
def inl (d:DocD):SelD→SelD
 | .mk k al nm args dirs on sels=>match zw d nm with
  | some f=>if k=1 then .mk 2 [] [] [] dirs f.on f.sels else .mk k al nm args dirs on sels
  | none=>.mk k al nm args dirs on sels
def Yc (d:DocD) (l:List SelD):List SelD:=l.map (inl d)
def zbt (d:DocD) (o:OpD):OpD:=⟨o.k,o.nm,o.vars,o.dirs,Yc d o.sels⟩
def yt (d:DocD):DocD:=⟨d.ops.map (zbt d),d.frags⟩
theorem ZF (d:DocD) (x:SelD):(inl d x=x∧(x.k=1→zw d x.nm=none))∨∃ f al nm args dirs on sels,x=.mk 1 al nm args dirs on sels∧zw d nm=some f∧f∈d.frags∧inl d x=.mk 2 [] [] [] dirs f.on f.sels:=by
 obtain⟨k,al,nm,args,dirs,on,sels⟩:=x
 cases hf:zw d nm with
 | none=>exact .inl ⟨by simp[inl,hf],fun _=>hf⟩
 | some f =>
  by_cases hk:k=1
  ·subst hk
   exact .inr ⟨f,al,nm,args,dirs,on,sels,rfl,hf,List.mem_of_find?_eq_some hf,by simp[inl,hf]⟩
  ·exact .inl ⟨by simp[inl,hf,hk],fun h=>absurd h hk⟩
theorem za8 (d:DocD) (x:SelD) (r:List SelD):Yc d (x::r)=inl d x::Yc d r:=rfl
theorem zhA (d:DocD):∀(k:Nat) (l:List (List UInt8)) (i:Nat),yO (yt d) k l i=yO d k l i
 | 0,_,_=>rfl
 | k+1,l,i=>by
  simp only[yO]
  cases l[i]? with
  | none=>rfl
  | some x=>exact zhA d k _ _
theorem zeX (d:DocD) (sels:List SelD):zT (yt d) sels=zT d sels:=zhA d _ _ _
theorem zg9 (d:DocD) (sels:List SelD):yj (yt d) sels=yj d sels:=by
 unfold yj;rw[zeX];rfl
inductive Rch (d:DocD) (sels:List SelD):List UInt8→Prop
 | first {n:List UInt8} (h:Zn n sels):Rch d sels n
 | next {m n:List UInt8} {f:FragD} (h:Rch d sels m) (hf:zw d m=some f) (hn:Zn n f.sels):Rch d sels n
theorem zhs {d:DocD} {sels:List SelD}:∀(k:Nat) (l:List (List UInt8)) (i:Nat),(∀ n∈l,Rch d sels n)→∀ n∈yO d k l i,Rch d sels n
 | 0,l,i,h=>h
 | k+1,l,i,h=>by
  simp only[yO]
  cases hl:l[i]? with
  | none=>exact h
  | some x =>
   simp only
   refine zhs k _ _ fun n hn=>?_
   cases hf:zw d x with
   | none=>rw[hf] at hn;exact h n hn
   | some f =>
    rw[hf] at hn
    rcases(Zs n f.sels l).1 hn with h1|h1
    ·exact h n h1
    ·exact .next (h x (List.mem_of_getElem? hl)) hf h1
theorem zaM (d:DocD) (sels:List SelD) (n:List UInt8):n∈zT d sels↔Rch d sels n:=by
 constructor
 ·exact zhs _ _ _ (fun m hm=>.first (by
   rcases(Zs m sels []).1 hm with h|h
   ·cases h
   ·exact h)) n
 ·intro h
  induction h with
  | first h=>exact zdZ d sels h
  | next _ hf hn ih=>exact zes d sels ih hf hn
theorem zeF {n:List UInt8}:∀ {l:List SelD},Zn n l→∃ x∈l,zcS n x
 | x::r,h=>by
  simp only[Zn] at h
  rcases h with h|h
  ·exact⟨x,Zr ..,h⟩
  ·obtain⟨y,hy,h⟩:=zeF h
   exact⟨y,Zm _ hy,h⟩
def zt7 (l:List SelD):Prop:=∀ x∈l,x.k=1→x.sels=[]∧Z5 x=[]
theorem zm5 {d:DocD} {l:List SelD} {n:List UInt8} (h:Rch d (Yc d l) n):Rch d l n:=by
 induction h with
 | first h =>
  obtain⟨y,hy,h⟩:=zeF h
  obtain⟨x,hx,rfl⟩:=List.mem_map.1 hy
  rcases ZF d x with ⟨e,_⟩|⟨f,al,nm,args,dirs,on,sels,rfl,hf,hm,e⟩
  ·rw[e] at h;exact .first (Yh hx h)
  ·rw[e] at h
   simp only[zcS] at h
   rcases h with ⟨h,_⟩|h
   ·cases h
   ·exact .next (.first (Yh hx (by simp[zcS]))) hf h
 | next _ hf hn ih=>exact .next ih hf hn
theorem zs1 {d:DocD} {l:List SelD} (hb:zt7 l) {n:List UInt8} (h:Rch d l n):Rch d (Yc d l) n∨∃ f,zw d n=some f∧∃ x∈l,x.k=1∧x.nm=n:=by
 induction h with
 | first h =>
  obtain⟨x,hx,h⟩:=zeF h
  rcases ZF d x with ⟨e,_⟩|⟨f,al,nm,args,dirs,on,sels,rfl,hf,hm,e⟩
  ·exact .inl (.first (Yh (List.mem_map.2 ⟨x,hx,rfl⟩) (by rw[e];exact h)))
  ·simp only[zcS] at h
   rcases h with ⟨_,rfl⟩|h
   ·exact .inr ⟨f,hf,_,hx,rfl,rfl⟩
   ·have:=(hb _ hx rfl).1
    simp only[SelD.sels] at this
    subst this
    simp[Zn] at h
 | @next m n f _ hf hn ih =>
  rcases ih with h|⟨g,hg,x,hx,hk,hnm⟩
  ·exact .inl (.next h hf hn)
  ·rw[hf] at hg;cases hg
   refine .inl (.first (Yh (List.mem_map.2 ⟨x,hx,rfl⟩) ?_))
   obtain⟨k,al,nm,args,dirs,on,sels⟩:=x
   simp only[SelD.k,SelD.nm] at hk hnm
   subst hk;subst hnm
   simp only[inl,hf,if_true,zcS]
   exact .inr hn
structure FitD (s:SchD) (d:DocD):Prop where
 ck:ZB s d=0
 rd:Zx d=true
section
variable {s:SchD} {d:DocD} (F:FitD s d)
include F
theorem Y1 (i:Int) (h1:1≤i) (h2:i<25):yX s d i=true:=zec F.ck i h1 h2
theorem zjx {f:FragD} (h:f∈d.frags):f.on≠[]:=fun e=>by
 have h1:=F.rd
 simp only[Zx,Al0,YV] at h1
 have h2:=h1.2.2 f h
 simp only[zhT,Al0] at h2
 rw[e] at h2
 have h3:zN []=false:=by decide
 rw[h3] at h2
 cases h2.2.2.1
theorem zpO {o:OpD} (h:o∈d.ops):zt7 o.sels:=fun x hx hk=>by
 have h1:=F.rd
 simp only[Zx,Al0,YV] at h1
 have h2:=h1.2.1 o h
 simp only[zel,Al0] at h2
 have h3:=h2.2.2.2.2
 simp only[yy,Al0] at h3
 obtain⟨a,b,e⟩:=List.append_of_mem hx
 have h4:y6 1 o.sels=true:=h3.2.2
 rw[e,zbw] at h4
 simp only[y6,Al0] at h4
 have h5:=h4.2.1
 obtain⟨k,al,nm,args,dirs,on,sels⟩:=x
 simp only[SelD.k] at hk
 subst hk
 simp only[Yp,show ¬ ((1:Int)=0) by decide,if_false,if_true,Al0,yH] at h5
 simp only[SelD.sels,Z5]
 exact⟨zib.1 (by omega),zib.1 (by omega)⟩
end
end Go.Proofs.YtbjofkamhijjlaaGreatDoor
