import Derived.Lib.ItoaMem
import Derived.Lib.ParseIntBTie
import Derived.Lib.ValidLaws
import Derived.Test.YticbbfbpeimkbaaGreatDoorM1
import Derived.Test.YticbbfbpeimkbaaGreatDoorM2
import Derived.Test.YticbbfbpeimkbaaGreatDoorM3
import Derived.Test.YticbbfbpeimkbaaGreatDoorM4
import Derived.Test.YticbbfbpeimkbaaGreatDoorM5
set_option maxRecDepth 100000
set_option linter.all false
namespace Go.Proofs.YticbbfbpeimkbaaGreatDoor
open Go.Ab
def Ze (n:Int):AV:=.ifc 186 (.agg [.int .i64 n])
def prc (L p:TS) (dp:Nat):AObj:=.cells [.sl .no 2 (cKs L),.int .i64 (p.length:Int),.int .i64 (dp:Int)]
def Pat (H:za) (r:Nat) (L t:TS) (dp:Nat) (H':za):Prop:=∃ p,p++t=L∧H'=H.upd r (prc L p dp)
def zdJ {α:Type} (H:za) (r:Nat) (L:TS) (dp:Nat) (x:PR α) (f:α→AV) (v:AV) (H':za):Prop:=∃ a t',x=.ok (a,t')∧v=f a∧Pat H r L t' dp H'
def zeG {α:Type} (x:PR α) (v:AV) (_:za):Prop:=∃ n,x=.error n∧v=Ze n
abbrev yN:Nat:=1000000
abbrev RpE {α:Type} (H:za) (r:Nat) (L:TS) (dp:Nat) (x:PR α) (f:α→AV):AEnd→za→Prop:=fun e H'=>match e with|.ret v=>zdJ H r L dp x f v H'|.pan v=>zeG x v H'
theorem Pat.again {H H1 H2:za} {r:Nat} {L t t':TS} {dp dp':Nat} (h:Pat H r L t dp H1) (h':Pat H1 r L t' dp' H2):Pat H r L t' dp' H2:=by
 obtain⟨p,_,rfl⟩:=h
 obtain⟨q,hq,rfl⟩:=h'
 exact⟨q,hq,zf6 ..⟩
theorem Pat.at {H H1:za} {r:Nat} {L t:TS} {dp:Nat} (h:Pat H r L t dp H1):∃ p,p++t=L∧H1 r=some (prc L p dp):=by
 obtain⟨p,hp,rfl⟩:=h
 exact⟨p,hp,upd_same ..⟩
theorem Pat.self {H:za} {r:Nat} {L p t:TS} {dp:Nat} (hs:p++t=L) (hr:H r=some (prc L p dp)):Pat H r L t dp H :=
 ⟨p,hs,by funext c;by_cases e:c=r<;>simp[za.upd,e,hr]⟩
structure KI (H:za) (r:Nat) (L t:TS) (dp:Nat) (H1:za):Prop where
 keep:∀ c x,c≠r→H c=some x→H1 c=some x
 here:∃ p,p++t=L∧H1 r=some (prc L p dp)
 hr:∃ x,H r=some x
theorem KI.start {H:za} {r:Nat} {L p t:TS} {dp:Nat} (hs:p++t=L) (hr:H r=some (prc L p dp)):KI H r L t dp H:=⟨fun _ _ _ h=>h,⟨p,hs,hr⟩,⟨_,hr⟩⟩
theorem KI.call {H H1 H2:za} {r:Nat} {L t t':TS} {dp dp':Nat} (h:KI H r L t dp H1) (ha:Pat H1 r L t' dp' H2):KI H r L t' dp' H2:=by
 obtain⟨q,hq,rfl⟩:=ha
 exact⟨fun c x hc hx=>by rw[upd_ne hc];exact h.keep c x hc hx,⟨q,hq,upd_same ..⟩,h.hr⟩
theorem KI.ne {H H1:za} {r b:Nat} {L t:TS} {dp:Nat} (h:KI H r L t dp H1) (hb:H b=none):r≠b:=fun e=>by
 subst e;obtain⟨x,hx⟩:=h.hr;rw[hb] at hx;cases hx
theorem KI.none {H H1:za} {r b:Nat} {L t:TS} {dp:Nat} (h:KI H r L t dp H1) (hb:H1 b=.none):H b=.none:=by
 cases hx:H b with
 | none=>rfl
 | some x =>
  by_cases e:b=r
  ·subst e;obtain⟨p,_,h2⟩:=h.here;rw[hb] at h2;cases h2
  ·have:=h.keep b x e hx;rw[hb] at this;cases this
theorem KI.box {H H1:za} {r b:Nat} {L t:TS} {dp:Nat} {x:AObj} (h:KI H r L t dp H1) (hb:H b=.none):KI H r L t dp (H1.upd b x):=by
 obtain⟨p,hp,h2⟩:=h.here
 exact⟨fun c y hc hy=>by rw[upd_ne (fun e=>by subst e;rw[hb] at hy;cases hy)];exact h.keep c y hc hy,⟨p,hp,by rw[upd_ne (h.ne hb)];exact h2⟩,h.hr⟩
theorem KI.low {H H1:za} {r:Nat} {L t:TS} {dp:Nat} (h:KI H r L t dp H1):∃ H2,Low H2 H1∧Pat H r L t dp H2:=by
 obtain⟨p,hp,h1⟩:=h.here
 refine⟨_,Low.of_sub fun c x hc=>?_,p,hp,rfl⟩
 by_cases e:c=r
 ·subst e;rw[upd_same] at hc;rw[← hc];exact h1
 ·rw[upd_ne e] at hc;exact h.keep c x e hc
structure KO (H:za) (r:Nat) (L t:TS) (dp:Nat) (H1:za) (o:Own) (n sz:Nat):Prop extends KI H r L t dp H1 where
 own:yg H1 o n sz
 tip:∀ b d,o=.tip b d→H b=.none
theorem KO.call {H H1 H2:za} {r:Nat} {L t t':TS} {dp dp':Nat} {o:Own} {n sz:Nat} (h:KO H r L t dp H1 o n sz) (ha:Pat H1 r L t' dp' H2):KO H r L t' dp' H2 o n sz:=by
 obtain⟨p,hp,h1⟩:=h.here
 refine⟨h.toKI.call ha,?_,h.tip⟩
 obtain⟨q,hq,rfl⟩:=ha
 exact Zn h.own h1
theorem KO.box {H H1:za} {r b:Nat} {L t:TS} {dp:Nat} {o:Own} {n sz:Nat} {cs cs':List AV} (h:KO H r L t dp H1 o n sz) (hb:H b=.none) (h1:H1 b=some (.cells cs)):KO H r L t dp (H1.upd b (.cells cs')) o n sz :=
 ⟨h.toKI.box hb,Zn h.own h1,h.tip⟩
theorem KO.app {H H1 H2:za} {r:Nat} {L t:TS} {dp:Nat} {o o':Own} {n n' sz:Nat} (h:KO H r L t dp H1 o n sz) (hs:OwnS H1 o H2 o' n' sz):KO H r L t dp H2 o' n' sz:=by
 obtain⟨p,hp,h1⟩:=h.here
 refine⟨⟨fun c x hc hx=>hs.kept c x (h.keep c x hc hx) fun d e=>?_,⟨p,hp,Za h.own h1 hs.kept⟩,h.hr⟩,hs.own,fun b d e=>?_⟩
 ·have:=h.tip c d e;rw[hx] at this;cases this
 ·rcases hs.new b d e with h2|⟨d0,e2⟩
  ·exact h.toKI.none h2
  ·exact h.tip b d0 e2
theorem KO.stay {H H1 H2:za} {r b:Nat} {L t:TS} {dp:Nat} {o o':Own} {n n' sz:Nat} {cs:List AV} (h:KO H r L t dp H1 o n sz) (hs:OwnS H1 o H2 o' n' sz) (hb:H1 b=some (.cells cs)):H2 b=some (.cells cs) :=
 Za h.own hb hs.kept
theorem KI.done {α:Type} {H:za} {r:Nat} {L:TS} {dp:Nat} {x:PR α} {f:α→AV} {Q:AExit→Env→za→Prop} {res:List ARes}
  (hQ:∀ e ρ H1 H2 vs,(∀ i,e≠.exit i)→zK ρ H1 res=some vs→Low H2 H1→zdJ H r L dp x f (zc vs).strip H2→Q e ρ H1)
  (ρ1:Env) (H1:za) (vs:List AV) (a:α) (t':TS) (h1:zK ρ1 H1 res=some vs) (h2:x=.ok (a,t')) (h3:KI H r L t' dp H1) (h4:(zc vs).strip=f a):Q .ret ρ1 H1:=by
 obtain⟨H2,hl,ha⟩:=h3.low
 exact hQ .ret ρ1 H1 H2 vs nofun h1 hl ⟨a,t',h2,h4,ha⟩
theorem zaO:∀ L:TS,L.length≤wT L
 | []=>Al4 _
 | x::L=>by have:=zaO L;rw[yS];simp only[Al2,wK];omega
theorem zvN {p t L:TS} (h:p++t=L):(hdT t).s.length≤wT L:=by
 subst h
 cases t with
 | nil=>simp[hdT]
 | cons x t =>
  have:wT (p++x::t)=wT p+wT (x::t):=by simp[wT]
  rw[this,yS];simp only[hdT,List.headD_cons,wK];omega
theorem Pat.other {H H1:za} {r c:Nat} {L t:TS} {dp:Nat} (h:Pat H r L t dp H1) (hc:c≠r):H1 c=H c:=by
 obtain⟨p,_,rfl⟩:=h
 exact upd_ne hc
theorem zdB (H:za) (r:Nat) (n:Int):zj Tryz.prog 160 [.ptr r 0,.int .i64 n] H (fun e H'=>match e with|.ret v=>False|.pan v=>v=Ze n):=by
 refine zj.goO (R:=fun _ _=>False) (RP:=fun v _=>v=Ze n) ir160 ck160 (Al4 _) fun KP Q hQ hP=>?_
 simp(disch:=first|omega|assumption) only[ir160,go_sem]
 exact hP _ _ H (Low.refl _) rfl
section
variable {H:za} {r:Nat} {L p t:TS} {dp:Nat}
theorem zpZ (hs:p++t=L) (hr:H r=some (prc L p dp)):zj Tryz.prog 92 [.ptr r 0] H (fun e H'=>∃ v,e=.ret v∧(v=.bool (decide (t≠[]))∧H'=H)):=by
 refine zj.go ir92 ck92 (Al4 _) fun KP Q hQ=>?_
 simp only[prc] at hr
 have hcl:=yF L
 have hlen:p.length+t.length=L.length:=by rw[← hs];simp
 simp(disch:=first|omega|assumption) only[ir92,hr,hcl,go_sem]
 cases t with
 | nil =>
  have h1:¬ ((p.length:Int)<(L.length:Int)):=by simp at hlen;omega
  simp(disch:=first|omega|assumption) only[h1,go_sem]
  exact hQ _ _ _ _ [_] nofun rfl (Low.refl _) ⟨(by simp[zc,zd,AV.strip,AV.strip1]),rfl⟩
 | cons c u =>
  have h1:((p.length:Int)<(L.length:Int))=True:=eq_true (by simp at hlen;omega)
  simp(disch:=first|omega|assumption) only[h1,go_sem]
  exact hQ _ _ _ _ [_] nofun rfl (Low.refl _) ⟨(by simp[zc,zd,AV.strip,AV.strip1]),rfl⟩
theorem zi4 (hs:p++t=L) (hr:H r=some (prc L p dp)):zj Tryz.prog 174 [.ptr r 0] H (fun e H'=>∃ v,e=.ret v∧(v=Yf (hdT t)∧H'=H)):=by
 refine zj.go ir174 ck174 (Al4 _) fun KP Q hQ=>?_
 have hcl:=yF L
 have hlen:p.length+t.length=L.length:=by rw[← hs];simp
 simp(disch:=first|omega|assumption) only[ir174,go_sem]
 refine zl fun b hb=>?_
 have hbr:r≠b:=fun e=>by subst e;rw[hb] at hr;cases hr
 have hr2:(H.upd b (.cells [.int .i64 0,.str []])) r=some (prc L p dp):=by rw[upd_ne hbr];exact hr
 simp(disch:=first|omega|assumption) only[go_sem]
 refine zI (zpZ hs hr2) fun v H1 ⟨hv,hH⟩=>?_
 subst hv;subst hH
 have hlow:∀ x,Low H (H.upd b x):=fun x=>(Low.refl _).upd hb
 cases t with
 | nil =>
  simp(disch:=first|omega|assumption) only[go_sem]
  exact hQ _ _ _ H [.agg [.int .i64 0,.str []]] nofun (by simp(disch:=first|omega|assumption) only[ir174,zK,yK,go_sem]) (hlow _) ⟨rfl,rfl⟩
 | cons c u =>
  simp only[prc] at hr2
  have h1:((p.length:Int)<(L.length:Int))=True:=eq_true (by simp at hlen;omega)
  have hg:(cKs L).getD p.length []=[.int .i64 c.k,.str c.s]:=by rw[← hs];simp[cKs,cK]
  simp(disch:=first|omega|assumption) only[hr2,hcl,h1,hg,go_sem]
  exact hQ _ _ _ H [.agg [.int .i64 c.k,.str c.s]] nofun (by simp(disch:=first|omega|assumption) only[ir174,zK,yK,go_sem]) (hlow _) ⟨rfl,rfl⟩
theorem zoj (hs:p++t=L) (hr:H r=some (prc L p dp)) (m:List UInt8):zj Tryz.prog 161 [.ptr r 0,.str m] H (fun e H'=>∃ v,e=.ret v∧(v=.bool (isP m t)∧H'=H)):=by
 refine zj.go ir161 ck161 (Al4 _) fun KP Q hQ=>?_
 simp(disch:=first|omega|assumption) only[ir161,go_sem]
 refine zI (zi4 hs hr) fun v H1 ⟨hv,hH⟩=>?_
 subst hv;subst hH
 simp(disch:=first|omega|assumption) only[Yf,yl,K1.fits,zb3,AV.keq1,Bool.and_true,go_sem]
 exact hQ _ _ _ _ [_] nofun rfl (Low.refl _) ⟨by simp[zc,zd,AV.strip,AV.strip1,isP],rfl⟩
theorem zrR (hs:p++t=L) (hr:H r=some (prc L p dp)) (m:List UInt8):zj Tryz.prog 248 [.ptr r 0,.str m] H (fun e H'=>∃ v,e=.ret v∧(v=.bool (isW m t)∧H'=H)):=by
 refine zj.go ir248 ck248 (Al4 _) fun KP Q hQ=>?_
 simp(disch:=first|omega|assumption) only[ir248,go_sem]
 refine zI (zi4 hs hr) fun v H1 ⟨hv,hH⟩=>?_
 subst hv;subst hH
 simp(disch:=first|omega|assumption) only[Yf,yl,K1.fits,zb3,AV.keq1,Bool.and_true,go_sem]
 exact hQ _ _ _ _ [_] nofun rfl (Low.refl _) ⟨by simp[zc,zd,AV.strip,AV.strip1,isW],rfl⟩
theorem zot (hs:p++t=L) (hk:(hdT t).k≠0):(p++[hdT t])++t.tail=L:=by
 rw[Z6,List.singleton_append,← YX hk];exact hs
theorem zbg (hs:p++t=L) (hk:(hdT t).k≠0) (H:za):Pat H r L t.tail dp (H.upd r (.cells [.sl .no 2 (cKs L),.int .i64 ((p.length:Int)+1),.int .i64 (dp:Int)])) :=
 ⟨p++[hdT t],zot hs hk,by simp[prc]⟩
def YL (m:List UInt8) (t:TS):TS:=if isP m t then t.tail else t
theorem zal (hs:p++t=L) (hl:L.length≤yN) (hr:H r=some (prc L p dp)) (m:List UInt8):zj Tryz.prog 191 [.ptr r 0,.str m] H (fun e H'=>∃ v,e=.ret v∧(v=.bool (isP m t)∧Pat H r L (YL m t) dp H')):=by
 refine zj.go ir191 ck191 (Al4 _) fun KP Q hQ=>?_
 simp only[yN] at hl
 have hlen:p.length+t.length=L.length:=by rw[← hs];simp
 simp(disch:=first|omega|assumption) only[ir191,go_sem]
 refine zI (zoj hs hr m) fun v H1 ⟨hv,hH⟩=>?_
 subst hv;subst hH
 have hr':=hr
 simp only[prc] at hr'
 cases hi:isP m t with
 | true =>
  simp(disch:=first|omega|assumption) only[hr',wrap64,go_sem]
  refine hQ _ _ _ _ [_] nofun rfl (Low.refl _) ⟨(by simp[zc,zd,AV.strip,AV.strip1,hi]),?_⟩
  simp only[YL,hi,if_true]
  exact zbg hs (zgq hi) _
 | false =>
  simp(disch:=first|omega|assumption) only[go_sem]
  refine hQ _ _ _ _ [_] nofun rfl (Low.refl _) ⟨(by simp[zc,zd,AV.strip,AV.strip1,hi]),?_⟩
  simp only[YL,hi,Al7,if_false]
  exact Pat.self hs hr
theorem zh7 (hs:p++t=L) (hl:L.length≤yN) (hr:H r=some (prc L p dp)) (m:List UInt8):zj Tryz.prog 163 [.ptr r 0,.str m] H (fun e H'=>∃ v,e=.ret v∧(v=.bool (isW m t)∧Pat H r L (Yu m t) dp H')):=by
 refine zj.go ir163 ck163 (Al4 _) fun KP Q hQ=>?_
 simp only[yN] at hl
 have hlen:p.length+t.length=L.length:=by rw[← hs];simp
 simp(disch:=first|omega|assumption) only[ir163,go_sem]
 refine zI (zrR hs hr m) fun v H1 ⟨hv,hH⟩=>?_
 subst hv;subst hH
 have hr':=hr
 simp only[prc] at hr'
 cases hi:isW m t with
 | true =>
  simp(disch:=first|omega|assumption) only[hr',wrap64,go_sem]
  refine hQ _ _ _ _ [_] nofun rfl (Low.refl _) ⟨(by simp[zc,zd,AV.strip,AV.strip1,hi]),?_⟩
  simp only[Yu,hi,if_true]
  exact zbg hs (zcR hi) _
 | false =>
  simp(disch:=first|omega|assumption) only[go_sem]
  refine hQ _ _ _ _ [_] nofun rfl (Low.refl _) ⟨(by simp[zc,zd,AV.strip,AV.strip1,hi]),?_⟩
  simp only[Yu,hi,Al7,if_false]
  exact Pat.self hs hr
theorem zhy (hs:p++t=L) (hl:L.length≤yN) (hr:H r=some (prc L p dp)) (m:List UInt8):zj Tryz.prog 182 [.ptr r 0,.str m] H (RpE H r L dp (Z4 m t) fun _=>.tup []):=by
 refine zj.goO ir182 ck182 (Al4 _) fun KP Q hQ hP=>?_
 simp(disch:=first|omega|assumption) only[ir182,go_sem]
 refine zI (zal hs hl hr m) fun v H1 ⟨hv,hH⟩=>?_
 subst hv
 cases hi:isP m t with
 | true =>
  rw[YL,hi] at hH
  simp(disch:=first|omega|assumption) only[go_sem]
  exact hQ _ _ _ _ [] nofun rfl (Low.refl _) ⟨(),t.tail,by unfold Z4;rw[hi];rfl,rfl,hH⟩
 | false =>
  simp(disch:=first|omega|assumption) only[go_sem]
  exact zp (zdB H1 r 2) (fun _ _ h=>h.elim) fun v H2 h=>hP v H2 H2 (Low.refl _) ⟨2,by unfold Z4;rw[hi];rfl,h⟩
theorem zah (hs:p++t=L) (hl:L.length≤yN) (hr:H r=some (prc L p dp)):zj Tryz.prog 183 [.ptr r 0] H (RpE H r L dp (y0 t) AV.str):=by
 refine zj.goO ir183 ck183 (Al4 _) fun KP Q hQ hP=>?_
 simp only[yN] at hl
 have hlen:p.length+t.length=L.length:=by rw[← hs];simp
 simp(disch:=first|omega|assumption) only[ir183,go_sem]
 refine zI (zi4 hs hr) fun v H1 ⟨hv,hH⟩=>?_
 subst hv;subst hH
 simp(disch:=first|omega|assumption) only[go_sem]
 refine zl fun b hb=>?_
 have hbr:r≠b:=fun e=>by subst e;rw[hb] at hr;cases hr
 have hr':=hr
 simp only[prc] at hr'
 by_cases hk:(hdT t).k=2
 ·have hk':((hdT t).k=2)=True:=eq_true hk
  simp(disch:=first|omega|assumption) only[Yf,hk',hr',hbr,Ne.symm hbr,wrap64,go_sem]
  refine hQ _ _ _ (H1.upd r (.cells [.sl .no 2 (cKs L),.int .i64 ((p.length:Int)+1),.int .i64 (dp:Int)])) [_] nofun rfl ?_ ⟨(hdT t).s,t.tail,by unfold y0;rw[if_pos hk],(by simp[zc,zd,AV.strip,AV.strip1]),zbg hs (by rw[hk];decide) _⟩
  refine Low.of_sub fun c x hc=>?_
  by_cases e:c=r
  ·subst e;rw[upd_same] at hc ⊢;exact hc
  ·rw[upd_ne e] at hc ⊢
   rw[upd_ne (fun e2=>by subst e2;rw[hb] at hc;cases hc)];exact hc
 ·simp(disch:=first|omega|assumption) only[Yf,hk,go_sem]
  exact zp (zdB _ r 2) (fun _ _ h=>h.elim) fun v H2 h=>hP v H2 H2 (Low.refl _) ⟨2,by unfold y0;rw[if_neg hk],h⟩
theorem zjX (hs:p++t=L) (hl:L.length≤yN) (hd:dp≤16) (hr:H r=some (prc L p dp)) (m:List UInt8):zj Tryz.prog 179 [.ptr r 0,.str m] H
  (fun e H'=>match e with
   | .ret v=>v=.bool (isP m t)∧(isP m t=true→dp<16∧Pat H r L t.tail (dp+1) H')∧(isP m t=false→Pat H r L t dp H')
   | .pan v=>isP m t=true∧dp=16∧v=Ze 4):=by
 refine zj.goO (R:=fun v H'=>v=.bool (isP m t)∧(isP m t=true→dp<16∧Pat H r L t.tail (dp+1) H')∧(isP m t=false→Pat H r L t dp H')) (RP:=fun v _=>isP m t=true∧dp=16∧v=Ze 4) ir179 ck179 (Al4 _) fun KP Q hQ hP=>?_
 have hlen:p.length+t.length=L.length:=by rw[← hs];simp
 simp(disch:=first|omega|assumption) only[ir179,go_sem]
 refine zI (zoj hs hr m) fun v H1 ⟨hv,hH⟩=>?_
 subst hv;subst hH
 have hr':=hr
 simp only[prc] at hr'
 cases hi:isP m t with
 | true =>
  by_cases h16:(16:Int)≤(dp:Int)
  ·simp(disch:=first|omega|assumption) only[hr',h16,go_sem]
   exact zp (zdB _ r 4) (fun _ _ h=>h.elim) fun v H2 h=>hP v H2 H2 (Low.refl _) ⟨hi,by omega,h⟩
  ·simp(disch:=first|omega|assumption) only[hr',h16,go_sem]
   refine zI (zal hs hl hr m) fun v H2 ⟨hv,hH⟩=>?_
   subst hv
   rw[YL,hi] at hH
   obtain⟨q,hq,h2⟩:=hH.at
   simp only[prc] at h2
   rw[hi]
   simp(disch:=first|omega|assumption) only[h2,wrap64,go_sem]
   exact hQ _ _ _ _ [_] nofun rfl (Low.refl _) ⟨(by simp[zc,zd,AV.strip,AV.strip1,hi]),fun _=>⟨by omega,hH.again ⟨q,hq,by simp[prc]⟩⟩,fun h=>(by rw[hi] at h;cases h)⟩
 | false =>
  simp(disch:=first|omega|assumption) only[go_sem]
  refine zI (zal hs hl hr m) fun v H2 ⟨hv,hH⟩=>?_
  subst hv
  rw[YL,hi] at hH
  rw[hi]
  simp(disch:=first|omega|assumption) only[go_sem]
  exact hQ _ _ _ _ [_] nofun rfl (Low.refl _) ⟨(by simp[zc,zd,AV.strip,AV.strip1,hi]),fun h=>(by rw[hi] at h;cases h),fun _=>by simpa using hH⟩
theorem zjV (hs:p++t=L) (hl:L.length≤yN) (hd:1≤dp∧dp≤16) (hr:H r=some (prc L p dp)) (m:List UInt8):zj Tryz.prog 180 [.ptr r 0,.str m] H
  (fun e H'=>∃ v,e=.ret v∧(v=.bool (isP m t)∧(isP m t=true→Pat H r L t.tail (dp-1) H')∧(isP m t=false→Pat H r L t dp H'))):=by
 refine zj.go ir180 ck180 (Al4 _) fun KP Q hQ=>?_
 simp(disch:=first|omega|assumption) only[ir180,go_sem]
 refine zI (zal hs hl hr m) fun v H2 ⟨hv,hH⟩=>?_
 subst hv
 cases hi:isP m t with
 | true =>
  rw[YL,hi] at hH
  obtain⟨q,hq,h2⟩:=hH.at
  simp only[prc] at h2
  simp(disch:=first|omega|assumption) only[h2,wrap64,go_sem]
  refine hQ _ _ _ _ [_] nofun rfl (Low.refl _) ⟨(by simp[zc,zd,AV.strip,AV.strip1,hi]),fun _=>hH.again ⟨q,hq,?_⟩,fun h=>(by rw[hi] at h;cases h)⟩
  have e:((dp-1:Nat):Int)=(dp:Int)-1:=by omega
  simp only[prc,e]
 | false =>
  rw[YL,hi] at hH
  simp(disch:=first|omega|assumption) only[go_sem]
  exact hQ _ _ _ _ [_] nofun rfl (Low.refl _) ⟨(by simp[zc,zd,AV.strip,AV.strip1,hi]),fun h=>(by rw[hi] at h;cases h),fun _=>by simpa using hH⟩
end
def wfD (x:DirD):Prop:=zdT x.args
def zjH (l:List DirD):Prop:=∀ x∈l,wfD x
mutual
def wfS:SelD→Prop
 | .mk _ _ _ args dirs _ sels=>zdT args∧zjH dirs∧zbv sels
def zbv:List SelD→Prop
 | []=>True
 | x::r=>wfS x∧zbv r
end
theorem zkH:∀ {l:List SelD},(∀ v∈l,wfS v)→zbv l
 | [],_=>trivial
 | v::r,h=>⟨h v (.head _),zkH fun x hx=>h x (.tail _ hx)⟩
def wfW (x:VarD):Prop:=inR x.t.lists∧inR x.t.musts∧wfV x.d
def wfO (x:OpD):Prop:=(∀ y∈x.vars,wfW y)∧zjH x.dirs∧zbv x.sels
def wfF (x:FragD):Prop:=zjH x.dirs∧zbv x.sels
def zcl (d:DocD):Prop:=(∀ x∈d.ops,wfO x)∧∀ x∈d.frags,wfF x
def pk (s:List UInt8):Tok:=⟨1,s⟩
def wk (s:List UInt8):Tok:=⟨2,s⟩
def yJ (dp:Int) (fixed:Bool) (v:Val):Bool:=zaT v&&(decide (dp+zM v≤16)&&(!fixed||decide ((yM v []).length=0)))
def zjM (dp:Int) (fixed:Bool):Mem→Bool
 | .mk s v=>ym s&&yJ dp fixed v
def YY (dp:Int) (fixed:Bool) (l:List Mem):Bool:=l.all (zjM dp fixed)
def zeD (dp:Int) (fixed:Bool) (d:DirD):Bool:=ym d.nm&&YY dp fixed d.args
def yZ (dp:Int) (fixed:Bool) (l:List DirD):Bool:=l.all (zeD dp fixed)
mutual
def ye (dp : Int) : SelD → Bool
  | .mk k al nm args dirs on sels => yZ dp false dirs &&
    (if k = 0 then ym nm && ((decide (al = []) || ym al) && (decide (on = []) && (YY dp false args && (decide (sels.length = 0) || (decide (dp + 1 ≤ 16) && yE (dp + 1) sels)))))
     else if k = 1 then ym nm && (decide (nm ≠ [111, 110]) && (decide (al = []) && (decide (on = []) && (decide (args.length = 0) && decide (sels.length = 0)))))
     else if k = 2 then decide (nm = []) && (decide (al = []) && (decide (args.length = 0) && ((decide (on = []) || ym on) && (decide (sels.length ≠ 0) && (decide (dp + 1 ≤ 16) && yE (dp + 1) sels)))))
     else false)
def yE (dp:Int):List SelD→Bool
 | []=>true
 | x::r=>ye dp x&&yE dp r
end
def yc (dp:Int) (l:List SelD):Bool:=decide (l.length≠0)&&(decide (dp≤16)&&yE dp l)
def yH (t:TyD):Bool:=ym t.nm&&(decide (0≤t.lists)&&(decide (t.lists≤4)&&(decide (0≤t.musts)&&decide (t.musts<2 ^ (t.lists.toNat+1)))))
noncomputable def zjt (has:Bool) (v:Val):Bool:=if has then yJ 0 true v else eqd v zV
noncomputable def zfn (x:VarD):Bool:=ym x.nm&&(yH x.t&&zjt x.has x.d)
noncomputable def Yv (o:OpD):Bool:=(decide (o.k=0)||decide (o.k=1))&&((decide (o.nm=[])||ym o.nm)&&(o.vars.all zfn&&(yZ 0 true o.dirs&&yc 1 o.sels)))
def zbX (f:FragD):Bool:=decide (f.nm≠[111,110])&&(ym f.nm&&(ym f.on&&(yZ 0 true f.dirs&&yc 1 f.sels)))
noncomputable def y7 (d:DocD):Bool:=decide (0<d.ops.length+d.frags.length)&&(d.ops.all Yv&&d.frags.all zbX)
def ZV (l:List Mem):List Tok:=if l.length=0 then [] else pk [40]::(ZA l++[pk [41]])
def tD (d:DirD):List Tok:=pk [64]::wk d.nm::ZV d.args
def tDs (l:List DirD):List Tok:=l.flatMap tD
mutual
def tS:SelD→List Tok
 | .mk k al nm args dirs on sels=>(if k=0 then (if al=[] then [] else [wk al,pk [58]])++(wk nm::ZV args) else if k=1 then [pk [46,46,46],wk nm] else pk [46,46,46]::(if on=[] then [] else [wk [111,110],wk on])) ++
  (tDs dirs++(if sels.length=0 then [] else pk [123]::(tSl sels++[pk [125]])))
def tSl:List SelD→List Tok
 | []=>[]
 | x::r=>tS x++tSl r
end
def tBl (l:List SelD):List Tok:=pk [123]::(tSl l++[pk [125]])
def zcE (m:Int) (i:Nat):Bool:=decide (m / 2 ^ i % 2=1)
def zdV (n:Nat) (m:Int) (i:Nat):List Tok:=(if i<n then [pk [93]] else [])++(if zcE m i then [pk [33]] else [])
def zcW (n:Nat) (m:Int):Nat→List Tok
 | 0=>zdV n m 0
 | i+1=>zdV n m (i+1)++zcW n m i
def tTy (t:TyD):List Tok:=List.replicate t.lists.toNat (pk [91])++(wk t.nm::zcW t.lists.toNat t.musts t.lists.toNat)
def tDf (has:Bool) (v:Val):List Tok:=if has then pk [61]::yG v else []
def tW (x:VarD):List Tok:=pk [36]::wk x.nm::pk [58]::(tTy x.t++tDf x.has x.d)
def tWs (l:List VarD):List Tok:=if l.length=0 then [] else pk [40]::(l.flatMap tW++[pk [41]])
def tO (o:OpD):List Tok:=wk (if o.k=0 then [113,117,101,114,121] else [109,117,116,97,116,105,111,110])::((if o.nm=[] then [] else [wk o.nm])++(tWs o.vars++(tDs o.dirs++tBl o.sels)))
def tF (f:FragD):List Tok:=wk [102,114,97,103,109,101,110,116]::wk f.nm::wk [111,110]::wk f.on::(tDs f.dirs++tBl f.sels)
def zay (d:DocD):List Tok:=d.ops.flatMap tO++d.frags.flatMap tF
theorem znF:∀ a b,tSl (a++b)=tSl a++tSl b
 | [],b=>rfl
 | x::a,b=>by simp[tSl,znF a b]
theorem zcA (dp:Int):∀ a b,yE dp (a++b)=(yE dp a&&yE dp b)
 | [],b=>by simp[yE]
 | x::a,b=>by simp[yE,zcA dp a b,y9]
theorem zix:∀ a b,ZA (a++b)=ZA a++ZA b
 | [],b=>rfl
 | x::a,b=>by simp[ZA,zix a b]
theorem zjw:bV zV=1∧wfV zV:=⟨rfl,zi8,trivial,trivial⟩
theorem zof (s:List UInt8):bV (zbe s)≤1+s.length∧wfV (zbe s):=by
 unfold zbe
 split
 ·exact⟨by rw[zjw.1];omega,zjw.2⟩
 split
 ·exact⟨by simp only[bV,bVs,bMs,Al3];omega,by simp[inR],trivial,trivial⟩
 split
 ·exact⟨by simp only[bV,bVs,bMs,Al3];omega,zi8,trivial,trivial⟩
 ·exact⟨by simp only[bV,bVs,bMs];omega,zi8,trivial,trivial⟩
theorem ZN {f:TS→PR Val} (hf:GP bV wfV 1 f):GP bM wfM 1 (yL f):=fun t x t' h=>by
 obtain⟨s,t1,h1,h2⟩:=zZ h
 obtain⟨_,t2,h3,h4⟩:=zZ h2
 obtain⟨v,t3,h5,h6⟩:=zZ h4
 cases h6
 have g1:=Zh _ _ _ h1
 have g2:=zbo _ _ _ _ h3
 have g3:=hf _ _ _ h5
 have w1:=g1.w
 have w2:=g2.w
 have w3:=g3.w
 simp only[b0] at w2
 exact⟨(g3.suf.trans g2.suf).trans g1.suf,by simp only[bM];omega,g3.ok⟩
theorem zpq:∀ l:List Val,bVs l+l.length=sm bV l
 | []=>rfl
 | v::r=>by have:=zpq r;simp only[sm,bVs,Al2,List.map_cons,List.sum_cons] at *;omega
theorem zlW:∀ l:List Mem,bMs l+l.length=sm bM l
 | []=>rfl
 | v::r=>by have:=zlW r;simp only[sm,bMs,Al2,List.map_cons,List.sum_cons] at *;omega
theorem znL:∀ {l:List Val},(∀ v∈l,wfV v)→zlg l
 | [],_=>trivial
 | v::r,h=>⟨h v (.head _),znL fun x hx=>h x (.tail _ hx)⟩
theorem zjb:∀ {l:List Mem},(∀ v∈l,wfM v)→zdT l
 | [],_=>trivial
 | v::r,h=>⟨h v (.head _),zjb fun x hx=>h x (.tail _ hx)⟩
theorem zh2 (fixed:Bool) (k:Nat) (ih:∀ n,k=n+1→GP bV wfV 1 (Zo fixed n)):GP bV wfV 1 (Zo fixed k):=fun t v t' h=>by
 rw[yT,zax.eq_def] at h
 split at h
 ·rename_i hk
  cases h
  have h0:=zeT (t:=t) (by omega)
  have h1:=zof (hdT t).s
  exact⟨h0.1,by omega,h1.2⟩
 split at h
 ·rename_i hk
  cases h
  have h0:=zeT (t:=t) (by omega)
  have h1:=zqy (hdT t).s
  exact⟨h0.1,by omega,h1.2⟩
 split at h
 ·rename_i hk
  cases h
  have h0:=zeT (t:=t) (by omega)
  exact⟨h0.1,by simp only[bV,bVs,bMs];omega,zi8,trivial,trivial⟩
 split at h
 ·rename_i hp
  have h0:=YI hp
  cases k with
  | zero=>cases h
  | succ n =>
   obtain⟨l,t1,h1,h2⟩:=zZ h
   cases h2
   have g:=zds (ih n rfl) _ [] _ _ _ (fun x hx=>by cases hx) h1
   have e:=zpq l
   have e0:sm bV []=0:=rfl
   exact⟨g.1.trans h0.1,by simp only[bV,bMs,Al3];omega,zi8,znL g.2.2,trivial⟩
 split at h
 ·rename_i hp
  have h0:=YI hp
  cases k with
  | zero=>cases h
  | succ n =>
   obtain⟨l,t1,h1,h2⟩:=zZ h
   cases h2
   have g:=zds (ZN (ih n rfl)) _ [] _ _ _ (fun x hx=>by cases hx) h1
   have e:=zlW l
   have e0:sm bM []=0:=rfl
   exact⟨g.1.trans h0.1,by simp only[bV,bVs,Al3];omega,zi8,trivial,zjb g.2.2⟩
 split at h
 ·cases h
 ·obtain⟨_,t1,h1,h2⟩:=zZ h
  obtain⟨s,t2,h3,h4⟩:=zZ h2
  cases h4
  have g1:=zbo _ _ _ _ h1
  have g2:=Zh _ _ _ h3
  have w1:=g1.w
  have w2:=g2.w
  simp only[b0] at w1
  exact⟨g2.suf.trans g1.suf,by simp only[bV,bVs,bMs];omega,zi8,trivial,trivial⟩
theorem Ys (fixed:Bool):∀ k,GP bV wfV 1 (Zo fixed k)
 | 0=>zh2 fixed 0 fun n h=>by cases h
 | k+1=>zh2 fixed (k+1) fun n h=>by cases h;exact Ys fixed k
theorem ziR (fixed:Bool) (k:Nat):GP bMs zdT 0 (zan fixed k):=fun t a t' h=>by
 unfold zan at h
 split at h
 ·rename_i hp
  have h0:=YI hp
  have g:=zd4 (ZN (Ys fixed k)) _ _ _ h
  have e:=zlW a
  have w:=g.w
  exact⟨g.suf.trans h0.1,by omega,zjb g.ok⟩
 ·cases h
  exact⟨List.suffix_refl t,by simp[bMs],trivial⟩
theorem zhc (fixed:Bool) (k:Nat):GP bD wfD 1 (zfU fixed k):=fun t a t' h=>by
 obtain⟨s,t1,h1,h2⟩:=zZ h
 obtain⟨l,t2,h3,h4⟩:=zZ h2
 cases h4
 have g1:=Zh _ _ _ h1
 have g2:=ziR fixed k _ _ _ h3
 have w1:=g1.w
 have w2:=g2.w
 exact⟨g2.suf.trans g1.suf,by simp only[bD];omega,g2.ok⟩
theorem ztY (l:List DirD):bDs l+l.length=sm bD l:=rfl
theorem zbw (fixed:Bool) (k:Nat):GP bDs zjH 0 (Yy fixed k):=fun t a t' h=>by
 have g:=zgW (zhc fixed k) _ [] _ _ _ (fun x hx=>by cases hx) h
 have e:=ztY a
 have e0:sm bD []=0:=rfl
 exact⟨g.1,by omega,g.2.2⟩
theorem zqV:∀ l:List SelD,bSs l+l.length=sm bS l
 | []=>rfl
 | v::r=>by have:=zqV r;simp only[sm,bSs,Al2,List.map_cons,List.sum_cons] at *;omega
theorem zm0:∀ {l:List SelD},(∀ v∈l,wfS v)→zbv l
 | [],_=>trivial
 | v::r,h=>⟨h v (.head _),zm0 fun x hx=>h x (.tail _ hx)⟩
theorem zee {k:Nat} {sels:TS→PR (List SelD)} (hs:GP bSs zbv 4 sels):GP bS wfS 1 (zaM sels k):=fun t a t' h=>by
 unfold zaM at h
 split at h
 ·rename_i hp
  have h0:=YI hp
  unfold Zm at h
  split at h
  ·obtain⟨s,t1,h1,h2⟩:=zZ h
   obtain⟨d,t2,h3,h4⟩:=zZ h2
   cases h4
   have g1:=Zh _ _ _ h1
   have g2:=zbw false k _ _ _ h3
   have w1:=g1.w
   have w2:=g2.w
   exact⟨(g2.suf.trans g1.suf).trans h0.1,by simp only[bS,bMs,bSs,Al3];omega,trivial,g2.ok,trivial⟩
  ·obtain⟨o,t1,h1,h2⟩:=zZ h
   obtain⟨d,t2,h3,h4⟩:=zZ h2
   obtain⟨l,t3,h5,h6⟩:=zZ h4
   cases h6
   have g1:t1 <:+ t.tail∧o.length+wT t1≤wT t.tail:=by
    split at h1
    ·rename_i hw
     have h7:=zi9 hw
     have g:=Zh _ _ _ h1
     have w:=g.w
     exact⟨g.suf.trans h7.1,by omega⟩
    ·cases h1;exact⟨List.suffix_refl _,by simp⟩
   have g2:=zbw false k _ _ _ h3
   have g3:=hs _ _ _ h5
   have w2:=g2.w
   have w3:=g3.w
   exact⟨((g3.suf.trans g2.suf).trans g1.1).trans h0.1,by simp only[bS,bMs,Al3];omega,trivial,g2.ok,g3.ok⟩
 ·obtain⟨s,t1,h1,h2⟩:=zZ h
  obtain⟨an,t2,h3,h4⟩:=zZ h2
  obtain⟨l,t3,h5,h6⟩:=zZ h4
  obtain⟨d,t4,h7,h8⟩:=zZ h6
  obtain⟨ss,t5,h9,h10⟩:=zZ h8
  cases h10
  have g1:=Zh _ _ _ h1
  have g2:t2 <:+ t1∧an.1.length+an.2.length+wT t2≤s.length+wT t1:=by
   split at h3
   ·rename_i hw
    have h7:=YI hw
    obtain⟨s2,t6,h11,h12⟩:=zZ h3
    cases h12
    have g:=Zh _ _ _ h11
    have w:=g.w
    exact⟨g.suf.trans h7.1,by simp only;omega⟩
   ·cases h3;exact⟨List.suffix_refl _,by simp⟩
  have g3:=ziR false k _ _ _ h5
  have g4:=zbw false k _ _ _ h7
  have g5:t' <:+ t4∧bSs ss+wT t'≤wT t4∧zbv ss:=by
   split at h9
   ·have g:=hs _ _ _ h9
    have w:=g.w
    exact⟨g.suf,by omega,g.ok⟩
   ·cases h9;exact⟨List.suffix_refl _,by simp[bSs],trivial⟩
  have w1:=g1.w
  have w3:=g3.w
  have w4:=g4.w
  exact⟨(((g5.1.trans g4.suf).trans g3.suf).trans g2.1).trans g1.suf,by simp only[bS,Al3];omega,g3.ok,g4.ok,g5.2.2⟩
theorem Yj:∀ k,GP bSs zbv 4 (yn k)
 | 0=>fun t a t' h=>by rw[yn] at h;split at h<;>cases h
 | k+1=>fun t a t' h=>by
  rw[yn] at h
  split at h
  ·rename_i hp
   have h0:=YI hp
   have g:=zd4 (zee (k:=k) (Yj k)) _ _ _ h
   have e:=zqV a
   have w:=g.w
   exact⟨g.suf.trans h0.1,by omega,zm0 g.ok⟩
  ·cases h
theorem ziJ {n:Int} (h0:0≤n) (h1:n<64):inR n:=by simp only[inR];omega
theorem zrq {ty:TyD} (h:zkv 4 ty):inR ty.lists∧inR ty.musts:=by
 obtain⟨h1,h2,h3,h4⟩:=h
 refine⟨ziJ h1 (by omega),ziJ h3 ?_⟩
 have:ty.lists.toNat+1≤5:=by omega
 have h5:(2:Int) ^ (ty.lists.toNat+1)≤2 ^ 5:=by exact_mod_cast Nat.pow_le_pow_right (by decide) this
 omega
theorem zbn:GP bW wfW 1 zaK:=fun t a t' h=>by
 obtain⟨_,t1,h1,h2⟩:=zZ h
 obtain⟨s,t2,h3,h4⟩:=zZ h2
 obtain⟨_,t3,h5,h6⟩:=zZ h4
 obtain⟨ty,t4,h7,h8⟩:=zZ h6
 have g1:=zbo _ _ _ _ h1
 have g2:=Zh _ _ _ h3
 have g3:=zbo _ _ _ _ h5
 have g4:=zlr 4 _ _ _ h7
 have w1:=g1.w
 have w2:=g2.w
 have w3:=g3.w
 have w4:=g4.w
 simp only[b0] at w1 w3
 have hw:=zrq g4.ok
 split at h8
 ·rename_i hp
  have h0:=YI hp
  obtain⟨v,t5,h9,h10⟩:=zZ h8
  cases h10
  have g5:=Ys true 16 _ _ _ h9
  have w5:=g5.w
  exact⟨((((g5.suf.trans h0.1).trans g4.suf).trans g3.suf).trans g2.suf).trans g1.suf,by simp only[bW];omega,hw.1,hw.2,g5.ok⟩
 ·cases h8
  exact⟨((g4.suf.trans g3.suf).trans g2.suf).trans g1.suf,by simp only[bW,zjw.1];omega,hw.1,hw.2,zjw.2⟩
theorem ztk (l:List VarD):bWs l+l.length=sm bW l:=rfl
theorem zgc (kind:Int):GP bO wfO 1 (opP kind):=fun t a t' h=>by
 obtain⟨s,t1,h1,h2⟩:=zZ h
 obtain⟨vs,t2,h3,h4⟩:=zZ h2
 obtain⟨d,t3,h5,h6⟩:=zZ h4
 obtain⟨l,t4,h7,h8⟩:=zZ h6
 cases h8
 have g1:t1 <:+ t∧s.length+wT t1≤wT t:=by
  split at h1
  ·have g:=Zh _ _ _ h1
   have w:=g.w
   exact⟨g.suf,by omega⟩
  ·cases h1;exact⟨List.suffix_refl _,by simp⟩
 have g2:t2 <:+ t1∧bWs vs+wT t2≤wT t1∧∀ x∈vs,wfW x:=by
  split at h3
  ·rename_i hp
   have h0:=YI hp
   have g:=zd4 zbn _ _ _ h3
   have w:=g.w
   have e:=ztk vs
   exact⟨g.suf.trans h0.1,by omega,g.ok⟩
  ·cases h3;exact⟨List.suffix_refl _,by simp[bWs],fun x hx=>(by cases hx)⟩
 have g3:=zbw true 16 _ _ _ h5
 have g4:=Yj 16 _ _ _ h7
 have w3:=g3.w
 have w4:=g4.w
 exact⟨((g4.suf.trans g3.suf).trans g2.1).trans g1.1,by simp only[bO];omega,g2.2.2,g3.ok,g4.ok⟩
theorem ziQ:GP bF wfF 1 zct:=fun t a t' h=>by
 obtain⟨s,t1,h1,h2⟩:=zZ h
 obtain⟨_,t2,h3,h4⟩:=zZ h2
 obtain⟨o,t3,h5,h6⟩:=zZ h4
 obtain⟨d,t4,h7,h8⟩:=zZ h6
 obtain⟨l,t5,h9,h10⟩:=zZ h8
 cases h10
 have g1:Fp List.length T1 4 t s t1:=by
  split at h1
  ·cases h1
  ·exact Zh _ _ _ h1
 have g2:t2 <:+ t1∧wT t2≤wT t1:=by
  split at h3
  ·rename_i hw
   cases h3
   have h0:=zi9 hw
   exact⟨h0.1,by omega⟩
  ·cases h3
 have g3:=Zh _ _ _ h5
 have g4:=zbw true 16 _ _ _ h7
 have g5:=Yj 16 _ _ _ h9
 have w1:=g1.w
 have w3:=g3.w
 have w4:=g4.w
 have w5:=g5.w
 exact⟨(((g5.suf.trans g4.suf).trans g3.suf).trans g2.1).trans g1.suf,by simp only[bF];omega,g4.ok,g5.ok⟩
theorem ztq (s:List UInt8):zq Tryz.prog 175 [.str s] (.agg (cV (zbe s))):=by
 refine zq.go ir175 ck175 (Al4 _) fun KP Q hQ=>?_
 simp(disch:=first|omega|assumption) only[ir175,go_sem]
 refine zl fun b hb=>?_
 by_cases h1:s=[110,117,108,108]
 ·have h1':(s=[110,117,108,108])=True:=eq_true h1
  simp(disch:=first|omega|assumption) only[h1',go_sem]
  exact hQ _ _ _ [.agg [.int .i64 0,.int .i64 0,.str [],.sl .nil 5 [],.sl .nil 6 []]] nofun (by simp(disch:=first|omega|assumption) only[ir175,zK,yK,go_sem]) (by rw[zbe,if_pos h1];rfl)
 by_cases h2:s=[116,114,117,101]
 ·have h2':(s=[116,114,117,101])=True:=eq_true h2
  simp(disch:=first|omega|assumption) only[h1,h2',go_sem]
  exact hQ _ _ _ [.agg [.int .i64 1,.int .i64 1,.str [],.sl .nil 5 [],.sl .nil 6 []]] nofun (by simp(disch:=first|omega|assumption) only[ir175,zK,yK,go_sem]) (by rw[zbe,if_neg h1,if_pos h2];rfl)
 by_cases h3:s=[102,97,108,115,101]
 ·have h3':(s=[102,97,108,115,101])=True:=eq_true h3
  simp(disch:=first|omega|assumption) only[h1,h2,h3',go_sem]
  exact hQ _ _ _ [.agg [.int .i64 1,.int .i64 0,.str [],.sl .nil 5 [],.sl .nil 6 []]] nofun (by simp(disch:=first|omega|assumption) only[ir175,zK,yK,go_sem]) (by rw[zbe,if_neg h1,if_neg h2,if_pos h3];rfl)
 simp(disch:=first|omega|assumption) only[h1,h2,h3,go_sem]
 exact hQ _ _ _ [.agg [.int .i64 5,.int .i64 0,.str s,.sl .nil 5 [],.sl .nil 6 []]] nofun (by simp(disch:=first|omega|assumption) only[ir175,zK,yK,go_sem]) (by rw[zbe,if_neg h1,if_neg h2,if_neg h3];rfl)
def znI (fixed:Bool) (k:Nat):Prop:=∀(H:za) (r:Nat) (L p t:TS),p++t=L→wT L≤yN→H r=some (prc L p (16-k)) →
 zj Tryz.prog 96 [.ptr r 0,.bool fixed] H (RpE H r L (16-k) (Zo fixed k t) fun v=>.agg (cV v))
theorem zgG {fixed:Bool} {k:Nat} (hv:znI fixed k) {H:za} {r:Nat} {L p t:TS} (hs:p++t=L) (hl:wT L≤yN) (hr:H r=some (prc L p (16-k))) :
  zj Tryz.prog 181 [.ptr r 0,.bool fixed] H (RpE H r L (16-k) (yL (Zo fixed k) t) fun m=>.agg (cM m)):=by
 refine ZG (zj.goO (R:=fun v H'=>zdJ H r L (16-k) (yL (Zo fixed k) t) (fun m=>.agg (cM m)) v.strip H') (RP:=fun v H'=>zeG (yL (Zo fixed k) t) v H') ir181 ck181 (Al4 _) fun KP Q hQ hP=>?_)
 have hll:L.length≤yN:=Nat.le_trans (zaO L) hl
 have pan:∀(v:AV) (H1:za) (n:Int),v=Ze n→yL (Zo fixed k) t=.error n→KP v H1:=fun v H1 n h1 h2=>hP v H1 H1 (Low.refl _) ⟨n,h2,h1⟩
 have fin:=KI.done hQ
 have K0:=KI.start hs hr
 simp(disch:=first|omega|assumption) only[ir181,go_sem]
 refine zl fun b4 hb4=>?_
 have n4:=K0.ne hb4
 have K1:=K0.box (x:=.cells [.str [],.int .i64 0,.int .i64 0,.str [],.sl .nil 5 [],.sl .nil 6 []]) hb4
 simp(disch:=first|omega|assumption) only[go_sem]
 refine zp (zah (dp:=16-k) hs hll (by rw[upd_ne n4];exact hr)) (fun v H1 ⟨nm,t1,e1,hv1,ha1⟩=>?_) fun v H1 ⟨n,e1,hv1⟩=>pan v H1 n hv1 (by rw[yL,e1];rfl)
 subst hv1
 have K2:=K1.call ha1
 obtain⟨p1,hp1,hr1⟩:=K2.here
 have g1:H1 b4=some (.cells [.str [],.int .i64 0,.int .i64 0,.str [],.sl .nil 5 [],.sl .nil 6 []]):=by rw[ha1.other (Ne.symm n4),upd_same]
 simp(disch:=first|omega|assumption) only[go_sem]
 refine zp (zhy (dp:=16-k) hp1 hll hr1 [58]) (fun v H2 ⟨_,t2,e2,hv2,ha2⟩=>?_) fun v H2 ⟨n,e2,hv2⟩=>pan v H2 n hv2 (by rw[yL,e1,zE,e2];rfl)
 subst hv2
 have K3:=K2.call ha2
 obtain⟨p2,hp2,hr2⟩:=K3.here
 have g2:H2 b4=some (.cells [.str [],.int .i64 0,.int .i64 0,.str [],.sl .nil 5 [],.sl .nil 6 []]):=by rw[ha2.other (Ne.symm n4),g1]
 simp(disch:=first|omega|assumption) only[go_sem]
 refine zp (hv _ r L p2 t2 hp2 hl hr2) (fun v H3 ⟨x,t3,e3,hv3,ha3⟩=>?_) fun v H3 ⟨n,e3,hv3⟩=>pan v H3 n hv3 (by rw[yL,e1,zE,e2,zE,e3];rfl)
 subst hv3
 have K4:=K3.call ha3
 have g3:H3 b4=some (.cells [.str [],.int .i64 0,.int .i64 0,.str [],.sl .nil 5 [],.sl .nil 6 []]):=by rw[ha3.other (Ne.symm n4),g2]
 simp(disch:=first|omega|assumption) only[zo,zg,zf,zn,zh,ze,zu,g3,go_sem]
 refine fin _ _ [.agg (.str nm::cV x)] (.mk nm x) t3 (by simp(disch:=first|omega|assumption) only[zo,zg,zf,zn,zh,ze,zu,ir181,zK,yK,go_sem]) (by rw[yL,e1,zE,e2,zE,e3];rfl) (K4.box hb4) ?_
 simp[zc,AV.strip,AV.strip1,zu,zad]
abbrev zB:List AV:=[.int .i64 0,.int .i64 0,.str [],.sl .nil 5 [],.sl .nil 6 []]
theorem zmU (fixed:Bool) (k:Nat) (hk:k≤16) (ih:∀ n,k=n+1→znI fixed n):znI fixed k:=by
 intro H r L p t hs hl hr
 refine ZG (zj.goO (R:=fun v H'=>zdJ H r L (16-k) (Zo fixed k t) (fun v=>.agg (cV v)) v.strip H') (RP:=fun v H'=>zeG (Zo fixed k t) v H') ir96 ck96 (Al4 _) fun KP Q hQ hP=>?_)
 have hll:L.length≤yN:=Nat.le_trans (zaO L) hl
 have hsl:(hdT t).s.length≤yN:=Nat.le_trans (zvN hs) hl
 have hplen:p.length+t.length=L.length:=by rw[← hs];simp
 have pan:∀(v:AV) (H1:za) (n:Int),v=Ze n→Zo fixed k t=.error n→KP v H1:=fun v H1 n h1 h2=>hP v H1 H1 (Low.refl _) ⟨n,h2,h1⟩
 have fin:=KI.done hQ
 have K0:=KI.start hs hr
 simp(disch:=first|omega|assumption) only[ir96,go_sem]
 refine zl fun b4 hb4=>?_
 have n4:=K0.ne hb4
 simp(disch:=first|omega|assumption) only[go_sem]
 refine zI (zi4 (dp:=16-k) hs (by rw[upd_ne n4];exact hr)) fun v H1 ⟨hv,hH⟩=>?_
 subst hv;subst hH
 simp(disch:=first|omega|assumption) only[Yf,go_sem]
 refine zl fun b5 hb5=>?_
 have h54:b5≠b4:=fun e=>by subst e;rw[upd_same] at hb5;cases hb5
 have hb5H:H b5=none:=by rw[upd_ne h54] at hb5;exact hb5
 have n5:=K0.ne hb5H
 simp(disch:=first|omega|assumption) only[go_sem]
 generalize hHa:za.upd (za.upd H b4 _) b5 _=Ha
 have g5:Ha b5=some (.cells [.int .i64 (hdT t).k,.str (hdT t).s]):=by rw[← hHa,upd_same]
 have g4:Ha b4=some (.cells zB):=by rw[← hHa,upd_ne (Ne.symm h54),upd_same]
 have gr:Ha r=some (prc L p (16-k)):=by rw[← hHa,upd_ne n5,upd_ne n4];exact hr
 have KA:KI H r L t (16-k) Ha:=by rw[← hHa];exact(K0.box hb4).box hb5H
 clear hHa
 have gr':=gr
 simp only[prc] at gr'
 simp only[zB] at g4
 have n5s:=Ne.symm n5
 have n4s:=Ne.symm n4
 simp only[yN] at hsl
 have hll2:=hll
 simp only[yN] at hll2
 by_cases hk2:(hdT t).k=2
 ·have hk2':((hdT t).k=2)=True:=eq_true hk2
  have e1:Zo fixed k t=.ok (zbe (hdT t).s,t.tail):=by rw[yT,zax.eq_def,if_pos hk2]
  simp(disch:=first|omega|assumption) only[hk2',g5,gr',wrap64,n5s,n4s,go_sem]
  refine zb (ztq _) ?_
  simp(disch:=first|omega|assumption) only[zo,zg,zf,zn,zh,ze,zu,g4,n4s,go_sem]
  exact fin _ _ [.agg (cV (zbe (hdT t).s))] _ _ (by simp(disch:=first|omega|assumption) only[zo,zg,zf,zn,zh,ze,zu,ir96,zK,yK,go_sem]) e1 ((KA.call (zbg hs (by rw[hk2];decide) _)).box hb4) (by simp[zc,AV.strip,zad])
 by_cases hk34:(hdT t).k=3∨(hdT t).k=4
 ·have e1:Zo fixed k t=.ok (zdx (hdT t).s,t.tail):=by rw[yT,zax.eq_def,if_neg hk2,if_pos hk34]
  have hk0:(hdT t).k≠0:=by omega
  have hd3:(decide ((hdT t).k=3)||decide ((hdT t).k=4))=true:=by simpa using hk34
  rcases Classical.em ((hdT t).k=3) with hk3|hk3
  ·have hk3':((hdT t).k=3)=True:=eq_true hk3
   simp(disch:=first|omega|assumption) only[hk2,hk3',g5,gr',wrap64,n5s,n4s,go_sem]
   refine zb (zl8 _ (by simp only[Lim];omega)) ?_
   cases hw:ZX (hdT t).s with
   | true =>
    simp(disch:=first|omega|assumption) only[go_sem]
    refine zb (zvg _) ?_
    simp(disch:=first|omega|assumption) only[zo,zg,zf,zn,zh,ze,zu,g4,n4s,go_sem]
    refine fin _ _ [.agg (cV (.mk 2 (zhH (hdT t).s) [] [] []))] _ _ (by simp(disch:=first|omega|assumption) only[zo,zg,zf,zn,zh,ze,zu,ir96,zK,yK,go_sem]) e1 ((KA.call (zbg hs hk0 _)).box hb4) ?_
    simp[zc,AV.strip,zad,zdx,hw]
   | false =>
    simp(disch:=first|omega|assumption) only[g5,g4,n5s,n4s,go_sem]
    refine fin _ _ [.agg [.int .i64 3,.int .i64 0,.str (hdT t).s,.sl .nil 5 [],.sl .nil 6 []]] _ _ (by simp(disch:=first|omega|assumption) only[zo,zg,zf,zn,zh,ze,zu,ir96,zK,yK,go_sem]) e1 ((KA.call (zbg hs hk0 _)).box hb4) ?_
    simp[zc,AV.strip,AV.strip1,zdx,hw,cV,cVs,cMs]
  ·have hk4':((hdT t).k=4)=True:=eq_true (by omega)
   simp(disch:=first|omega|assumption) only[hk2,hk3,hk4',g5,gr',wrap64,n5s,n4s,go_sem]
   refine zb (zl8 _ (by simp only[Lim];omega)) ?_
   cases hw:ZX (hdT t).s with
   | true =>
    simp(disch:=first|omega|assumption) only[go_sem]
    refine zb (zvg _) ?_
    simp(disch:=first|omega|assumption) only[zo,zg,zf,zn,zh,ze,zu,g4,n4s,go_sem]
    refine fin _ _ [.agg (cV (.mk 2 (zhH (hdT t).s) [] [] []))] _ _ (by simp(disch:=first|omega|assumption) only[zo,zg,zf,zn,zh,ze,zu,ir96,zK,yK,go_sem]) e1 ((KA.call (zbg hs hk0 _)).box hb4) ?_
    simp[zc,AV.strip,zad,zdx,hw]
   | false =>
    simp(disch:=first|omega|assumption) only[g5,g4,n5s,n4s,go_sem]
    refine fin _ _ [.agg [.int .i64 3,.int .i64 0,.str (hdT t).s,.sl .nil 5 [],.sl .nil 6 []]] _ _ (by simp(disch:=first|omega|assumption) only[zo,zg,zf,zn,zh,ze,zu,ir96,zK,yK,go_sem]) e1 ((KA.call (zbg hs hk0 _)).box hb4) ?_
    simp[zc,AV.strip,AV.strip1,zdx,hw,cV,cVs,cMs]
 by_cases hk5:(hdT t).k=5
 ·have hk5':((hdT t).k=5)=True:=eq_true hk5
  have hk3:¬ ((hdT t).k=3):=by omega
  have hk4:¬ ((hdT t).k=4):=by omega
  have e1:Zo fixed k t=.ok (.mk 4 0 (hdT t).s [] [],t.tail):=by rw[yT,zax.eq_def,if_neg hk2,if_neg hk34,if_pos hk5]
  simp(disch:=first|omega|assumption) only[hk2,hk3,hk4,hk5',g5,gr',wrap64,n5s,n4s,go_sem]
  refine zb (zu9 _) ?_
  simp(disch:=first|omega|assumption) only[zo,zg,zf,zn,zh,ze,zu,g4,n4s,go_sem]
  exact fin _ _ [.agg (cV (.mk 4 0 (hdT t).s [] []))] _ _ (by simp(disch:=first|omega|assumption) only[zo,zg,zf,zn,zh,ze,zu,ir96,zK,yK,go_sem]) e1 ((KA.call (zbg hs (by rw[hk5];decide) _)).box hb4) (by simp[zc,AV.strip,zad])
 have hk3:¬ ((hdT t).k=3):=fun e=>hk34 (.inl e)
 have hk4:¬ ((hdT t).k=4):=fun e=>hk34 (.inr e)
 have bad1:isP [91] t=true→k=0→Zo fixed k t=.error 4:=fun hi h=>by
  subst h
  rw[yT,zax.eq_def,if_neg hk2,if_neg hk34,if_neg hk5,if_pos hi];rfl
 have bad2:¬ (isP [91] t=true)→isP [123] t=true→k=0→Zo fixed k t=.error 4:=fun h0 hi h=>by
  subst h
  rw[yT,zax.eq_def,if_neg hk2,if_neg hk34,if_neg hk5,if_neg h0,if_pos hi];rfl
 simp(disch:=first|omega|assumption) only[hk2,hk3,hk4,hk5,g5,go_sem]
 refine zp (zjX (dp:=16-k) hs hll (by omega) gr [91]) (fun v H1 ⟨hv,hat,haf⟩=>?_) fun v H1 ⟨hi,h16,hv⟩=>pan v H1 4 hv (bad1 hi (by omega))
 subst hv
 cases hi:isP [91] t with
 | true =>
  obtain⟨hd16,ha1⟩:=hat hi
  obtain⟨n,rfl⟩:∃ n,k=n+1:=⟨k-1,by omega⟩
  rw[show 16-(n+1)+1=16-n by omega] at ha1
  have K1:=KA.call ha1
  have g41:H1 b4=some (.cells zB):=by rw[ha1.other n4s,g4]
  have hi0:isP [91] t=true:=hi
  have hi2:isP [91] t=true:=hi
  simp(disch:=first|omega|assumption) only[go_sem]
  refine zl fun b8 hb8=>?_
  have hb8':=hb8
  have hb8H:H b8=none:=K1.none hb8
  have n8:=K1.ne hb8H
  have h84:b8≠b4:=fun e=>by subst e;rw[g41] at hb8;cases hb8
  have K2:KO H r L t.tail (16-n) (H1.upd b8 (.cells [.int .i64 6,.int .i64 0,.str [],.sl .nil 5 [],.sl .nil 6 []])) .nil 0 5:=⟨K1.box hb8H,rfl,nofun⟩
  obtain⟨R,hR⟩:∃ R,yC [93] (Zo fixed n) (t.tail.length+1) [] t.tail=R:=⟨_,rfl⟩
  have hx:Zo fixed (n+1) t=pb R fun l t=>.ok (Val.mk 6 0 [] l [],t):=by rw[← hR,yT,zax.eq_def,if_neg hk2,if_neg hk34,if_neg hk5,if_pos hi2];rfl
  simp(disch:=first|omega|assumption) only[List.map_nil,go_sem]
  refine yB (fun x:Own×List Val×TS=>[]) (fun x H'=>KO H r L x.2.2 (16-n) H' x.1 x.2.1.length 5∧H' b8=some (.cells [.int .i64 6,.int .i64 0,.str [],.sl x.1 5 (cVs x.2.1),.sl .nil 6 []])∧H' b4=some (.cells zB)∧(∃ m,x.2.2.length<m∧yC [93] (Zo fixed n) m x.2.1 x.2.2=R)∧x.2.1.length+x.2.2.length≤L.length) (fun x=>x.2.2.length) (.nil,[],t.tail) (by simp(disch:=first|omega|assumption) only[go_sem]) ⟨K2,upd_same ..,by rw[upd_ne (Ne.symm h84)];exact g41,⟨_,Nat.lt_succ_self _,hR⟩,by have:=K1.here;obtain⟨q,hq,_⟩:=this;rw[← hq];simp⟩ ?_
  rintro⟨o,l,u⟩ H3 J ⟨K3,g8,g4,⟨m,hm,hR3⟩,hlen⟩ hJ
  simp only at K3 g8 g4 hm hR3 hlen
  obtain⟨m,rfl⟩:∃ j,m=j+1:=⟨m-1,by omega⟩
  obtain⟨p3,hp3,hr3⟩:=K3.here
  have hcl:=Yx l
  simp(disch:=first|omega|assumption) only[go_sem]
  refine zI (zjV hp3 hll (by omega) hr3 [93]) fun v H4 ⟨hv4,hat,haf⟩=>?_
  subst hv4
  cases hj:isP [93] u with
  | true =>
   have ha4:=hat hj
   have K4:=K3.call ha4
   rw[show 16-n-1=16-(n+1) by omega] at K4
   have g84:H4 b8=some (.cells [.int .i64 6,.int .i64 0,.str [],.sl o 5 (cVs l),.sl .nil 6 []]):=by rw[ha4.other (Ne.symm n8),g8]
   have g44:H4 b4=some (.cells zB):=by rw[ha4.other (Ne.symm n4),g4]
   simp only[zB] at g44
   have e1:R=.ok (l,u.tail):=by rw[← hR3,yC,hj];rfl
   simp(disch:=first|omega|assumption) only[g84,g44,Ne.symm h84,h84,go_sem]
   refine fin _ _ [.agg [.int .i64 6,.int .i64 0,.str [],.sl o 5 (cVs l),.sl .nil 6 []]] (Val.mk 6 0 [] l []) u.tail (by simp(disch:=first|omega|assumption) only[ir96,zK,yK,go_sem]) (by rw[hx,e1];rfl) (K4.toKI.box hb4) ?_
   simp[zc,AV.strip,AV.strip1,cV,cVs,cMs,zoF]
  | false =>
   have ha4:=haf hj
   have K4:=K3.call ha4
   obtain⟨p4,hp4,hr4⟩:=K4.here
   have g84:H4 b8=some (.cells [.int .i64 6,.int .i64 0,.str [],.sl o 5 (cVs l),.sl .nil 6 []]):=by rw[ha4.other (Ne.symm n8),g8]
   have g44:H4 b4=some (.cells zB):=by rw[ha4.other (Ne.symm n4),g4]
   rw[yC,hj] at hR3
   simp only[Al7,if_false] at hR3
   simp(disch:=first|omega|assumption) only[g84,go_sem]
   refine zp (ih n rfl _ r L p4 u hp4 hl hr4) (fun v H5 ⟨x,t5,e5,hv5,ha5⟩=>?_) fun v H5 ⟨n5,e5,hv5⟩=>pan v H5 n5 hv5 (by rw[hx,← hR3,e5];rfl)
   subst hv5
   rw[e5,zE] at hR3
   have hlt:=(Ys fixed n).lt (by decide) _ _ _ e5
   have K5:=K4.call ha5
   have g85:H5 b8=some (.cells [.int .i64 6,.int .i64 0,.str [],.sl o 5 (cVs l),.sl .nil 6 []]):=by rw[ha5.other (Ne.symm n8),g84]
   have g45:H5 b4=some (.cells zB):=by rw[ha5.other (Ne.symm n4),g44]
   simp(disch:=first|omega|assumption) only[zo,zg,zf,zn,zh,ze,zu,g85,go_sem]
   refine zv (by rw[hcl];exact K5.own) (by simp only[hcl,Al2,Al3];simp only[yN] at hll;omega) (by simp only[hcl,Al2,Al3,maxLen];simp only[yN] at hll;omega) fun o6 H6 hs6=>?_
   have K6:=K5.app (by simpa[hcl] using hs6)
   have g86:=K5.stay hs6 g85
   have g46:=K5.stay hs6 g45
   simp(disch:=first|omega|assumption) only[zo,zg,zf,zn,zh,ze,zu,g86,go_sem]
   refine goJ (hJ (o6,l++[x],t5) _ (by simp only;omega) ⟨by simpa using K6.box hb8H g86,by rw[upd_same];simp[zdm,zad],by rw[upd_ne (Ne.symm h84)];exact g46,⟨m,by simp only;omega,hR3⟩,by simp only[Al5,Al2,Al3];omega⟩) (by simp(disch:=first|omega|assumption) only[go_sem])
 | false =>
  have ha1:=haf hi
  have K1:=KA.call ha1
  have g41:H1 b4=some (.cells zB):=by rw[ha1.other n4s,g4]
  obtain⟨p1,hp1,hr1⟩:=K1.here
  have hi0:¬ (isP [91] t=true):=by rw[hi];decide
  clear hat haf
  simp(disch:=first|omega|assumption) only[go_sem]
  refine zp (zjX (dp:=16-k) hp1 hll (by omega) hr1 [123]) (fun v H2 ⟨hv,hat,haf⟩=>?_) fun v H2 ⟨hi,h16,hv⟩=>pan v H2 4 hv (bad2 hi0 hi (by omega))
  subst hv
  cases hi:isP [123] t with
  | true =>
   obtain⟨hd16,ha2⟩:=hat hi
   obtain⟨n,rfl⟩:∃ n,k=n+1:=⟨k-1,by omega⟩
   rw[show 16-(n+1)+1=16-n by omega] at ha2
   have K1:=K1.call ha2
   have g41:H2 b4=some (.cells zB):=by rw[ha2.other n4s,g41]
   clear hat haf
   have hi2:isP [123] t=true:=hi
   simp(disch:=first|omega|assumption) only[go_sem]
   refine zl fun b8 hb8=>?_
   have hb8':=hb8
   have hb8H:H b8=none:=K1.none hb8
   have n8:=K1.ne hb8H
   have h84:b8≠b4:=fun e=>by subst e;rw[g41] at hb8;cases hb8
   have K2:KO H r L t.tail (16-n) (H2.upd b8 (.cells [.int .i64 7,.int .i64 0,.str [],.sl .nil 5 [],.sl .nil 6 []])) .nil 0 6:=⟨K1.box hb8H,rfl,nofun⟩
   obtain⟨R,hR⟩:∃ R,yC [125] (yL (Zo fixed n)) (t.tail.length+1) [] t.tail=R:=⟨_,rfl⟩
   have hx:Zo fixed (n+1) t=pb R fun l t=>.ok (Val.mk 7 0 [] [] l,t):=by rw[← hR,yT,zax.eq_def,if_neg hk2,if_neg hk34,if_neg hk5,if_neg hi0,if_pos hi2];rfl
   simp(disch:=first|omega|assumption) only[List.map_nil,go_sem]
   refine yB (fun x:Own×List Mem×TS=>[]) (fun x H'=>KO H r L x.2.2 (16-n) H' x.1 x.2.1.length 6∧H' b8=some (.cells [.int .i64 7,.int .i64 0,.str [],.sl .nil 5 [],.sl x.1 6 (cMs x.2.1)])∧H' b4=some (.cells zB)∧(∃ m,x.2.2.length<m∧yC [125] (yL (Zo fixed n)) m x.2.1 x.2.2=R)∧x.2.1.length+x.2.2.length≤L.length) (fun x=>x.2.2.length) (.nil,[],t.tail) (by simp(disch:=first|omega|assumption) only[go_sem]) ⟨K2,upd_same ..,by rw[upd_ne (Ne.symm h84)];exact g41,⟨_,Nat.lt_succ_self _,hR⟩,by have:=K1.here;obtain⟨q,hq,_⟩:=this;rw[← hq];simp⟩ ?_
   rintro⟨o,l,u⟩ H3 J ⟨K3,g8,g4,⟨m,hm,hR3⟩,hlen⟩ hJ
   simp only at K3 g8 g4 hm hR3 hlen
   obtain⟨m,rfl⟩:∃ j,m=j+1:=⟨m-1,by omega⟩
   obtain⟨p3,hp3,hr3⟩:=K3.here
   have hcl:=ZC l
   simp(disch:=first|omega|assumption) only[go_sem]
   refine zI (zjV hp3 hll (by omega) hr3 [125]) fun v H4 ⟨hv4,hat,haf⟩=>?_
   subst hv4
   cases hj:isP [125] u with
   | true =>
    have ha4:=hat hj
    have K4:=K3.call ha4
    rw[show 16-n-1=16-(n+1) by omega] at K4
    have g84:H4 b8=some (.cells [.int .i64 7,.int .i64 0,.str [],.sl .nil 5 [],.sl o 6 (cMs l)]):=by rw[ha4.other (Ne.symm n8),g8]
    have g44:H4 b4=some (.cells zB):=by rw[ha4.other (Ne.symm n4),g4]
    simp only[zB] at g44
    have e1:R=.ok (l,u.tail):=by rw[← hR3,yC,hj];rfl
    simp(disch:=first|omega|assumption) only[g84,g44,Ne.symm h84,h84,go_sem]
    refine fin _ _ [.agg [.int .i64 7,.int .i64 0,.str [],.sl .nil 5 [],.sl o 6 (cMs l)]] (Val.mk 7 0 [] [] l) u.tail (by simp(disch:=first|omega|assumption) only[ir96,zK,yK,go_sem]) (by rw[hx,e1];rfl) (K4.toKI.box hb4) ?_
    simp[zc,AV.strip,AV.strip1,cV,cVs,cMs,ziz]
   | false =>
    have ha4:=haf hj
    have K4:=K3.call ha4
    obtain⟨p4,hp4,hr4⟩:=K4.here
    have g84:H4 b8=some (.cells [.int .i64 7,.int .i64 0,.str [],.sl .nil 5 [],.sl o 6 (cMs l)]):=by rw[ha4.other (Ne.symm n8),g8]
    have g44:H4 b4=some (.cells zB):=by rw[ha4.other (Ne.symm n4),g4]
    rw[yC,hj] at hR3
    simp only[Al7,if_false] at hR3
    simp(disch:=first|omega|assumption) only[g84,go_sem]
    refine zp (zgG (ih n rfl) hp4 hl hr4) (fun v H5 ⟨x,t5,e5,hv5,ha5⟩=>?_) fun v H5 ⟨n5,e5,hv5⟩=>pan v H5 n5 hv5 (by rw[hx,← hR3,e5];rfl)
    subst hv5
    rw[e5,zE] at hR3
    have hlt:=(ZN (Ys fixed n)).lt (by decide) _ _ _ e5
    have K5:=K4.call ha5
    have g85:H5 b8=some (.cells [.int .i64 7,.int .i64 0,.str [],.sl .nil 5 [],.sl o 6 (cMs l)]):=by rw[ha5.other (Ne.symm n8),g84]
    have g45:H5 b4=some (.cells zB):=by rw[ha5.other (Ne.symm n4),g44]
    simp(disch:=first|omega|assumption) only[zo,zg,zf,zn,zh,ze,zu,g85,go_sem]
    refine zv (by rw[hcl];exact K5.own) (by simp only[hcl,Al2,Al3];simp only[yN] at hll;omega) (by simp only[hcl,Al2,Al3,maxLen];simp only[yN] at hll;omega) fun o6 H6 hs6=>?_
    have K6:=K5.app (by simpa[hcl] using hs6)
    have g86:=K5.stay hs6 g85
    have g46:=K5.stay hs6 g45
    simp(disch:=first|omega|assumption) only[zo,zg,zf,zn,zh,ze,zu,g86,go_sem]
    refine goJ (hJ (o6,l++[x],t5) _ (by simp only;omega) ⟨by simpa using K6.box hb8H g86,by rw[upd_same];simp[zbR,zeJ],by rw[upd_ne (Ne.symm h84)];exact g46,⟨m,by simp only;omega,hR3⟩,by simp only[Al5,Al2,Al3];omega⟩) (by simp(disch:=first|omega|assumption) only[go_sem])
  | false =>
   have ha2:=haf hi
   have K2:=K1.call ha2
   have g42:H2 b4=some (.cells zB):=by rw[ha2.other n4s,g41]
   obtain⟨p2,hp2,hr2⟩:=K2.here
   have hi1:¬ (isP [123] t=true):=by rw[hi];decide
   cases hfx:fixed with
   | true =>
    subst hfx
    simp(disch:=first|omega|assumption) only[go_sem]
    exact zp (zdB _ r 2) (fun _ _ h=>h.elim) fun v H3 h=>pan v H3 2 h (by rw[yT,zax.eq_def,if_neg hk2,if_neg hk34,if_neg hk5,if_neg hi0,if_neg hi1];rfl)
   | false =>
    subst hfx
    have hx:Zo false k t=pb (Z4 [36] t) fun _ t=>pb (y0 t) fun s t=>.ok (.mk 8 0 s [] [],t):=by rw[yT,zax.eq_def,if_neg hk2,if_neg hk34,if_neg hk5,if_neg hi0,if_neg hi1];rfl
    simp(disch:=first|omega|assumption) only[go_sem]
    refine zp (zhy (dp:=16-k) hp2 hll hr2 [36]) (fun v H3 ⟨_,t3,e3,hv3,ha3⟩=>?_) fun v H3 ⟨n,e3,hv3⟩=>pan v H3 n hv3 (by rw[hx,e3];rfl)
    subst hv3
    have K3:=K2.call ha3
    obtain⟨p3,hp3,hr3⟩:=K3.here
    have g43:H3 b4=some (.cells zB):=by rw[ha3.other n4s,g42]
    simp(disch:=first|omega|assumption) only[go_sem]
    refine zp (zah (dp:=16-k) hp3 hll hr3) (fun v H4 ⟨s,t4,e4,hv4,ha4⟩=>?_) fun v H4 ⟨n,e4,hv4⟩=>pan v H4 n hv4 (by rw[hx,e3,zE,e4];rfl)
    subst hv4
    have K4:=K3.call ha4
    have g44:H4 b4=some (.cells zB):=by rw[ha4.other n4s,g43]
    simp only[zB] at g44
    simp(disch:=first|omega|assumption) only[g44,go_sem]
    exact fin _ _ [.agg [.int .i64 8,.int .i64 0,.str s,.sl .nil 5 [],.sl .nil 6 []]] (.mk 8 0 s [] []) t4 (by simp(disch:=first|omega|assumption) only[ir96,zK,yK,go_sem]) (by rw[hx,e3,zE,e4];rfl) (K4.box hb4) rfl
theorem zeZ (fixed:Bool):∀ k,k≤16→znI fixed k
 | 0,h=>zmU fixed 0 h fun n e=>by cases e
 | k+1,h=>zmU fixed (k+1) h fun n e=>by cases e;exact zeZ fixed k (by omega)
theorem zes {p t L:TS} (h:p++t=L):t.length≤L.length:=by rw[← h];simp
theorem zmF (l:List DirD):cDs l=l.map cD:=rfl
theorem zl6 {fixed:Bool} {k:Nat} (hk:k≤16) {H:za} {r:Nat} {L p t:TS} (hs:p++t=L) (hl:wT L≤yN) (hr:H r=some (prc L p (16-k))) :
  zj Tryz.prog 300 [.ptr r 0,.bool fixed] H (RpE H r L (16-k) (zan fixed k t) (fun l=>.sl .no 6 (cMs l))):=by
 refine ZG (zj.goO (R:=fun v H'=>zdJ H r L (16-k) (zan fixed k t) (fun l=>.sl .no 6 (cMs l)) v.strip H') (RP:=fun v H'=>zeG (zan fixed k t) v H') ir300 ck300 (Al4 _) fun KP Q hQ hP=>?_)
 have hll:L.length≤yN:=Nat.le_trans (zaO L) hl
 have hll2:=hll
 simp only[yN] at hll2
 have pan:∀(v:AV) (H1:za) (n:Int),v=Ze n→(zan fixed k t)=.error n→KP v H1:=fun v H1 n h1 h2=>hP v H1 H1 (Low.refl _) ⟨n,h2,h1⟩
 have fin:=KI.done hQ
 have K0:=KI.start hs hr
 have hv:=zeZ fixed k hk
 simp(disch:=first|omega|assumption) only[ir300,go_sem]
 refine zI (zal (dp:=16-k) hs hll hr [40]) fun v H1 ⟨hv1,ha1⟩=>?_
 subst hv1
 cases hi:isP [40] t with
 | false =>
  rw[YL,hi] at ha1
  simp(disch:=first|omega|assumption) only[go_sem]
  exact fin _ _ [.sl .nil 6 []] [] t (by simp(disch:=first|omega|assumption) only[ir300,zK,yK,go_sem]) (by unfold zan;rw[hi];rfl) (K0.call (by simpa using ha1)) (by simp[zc,AV.strip,AV.strip1,cMs])
 | true =>
  rw[YL,hi,if_pos rfl] at ha1
  have K1:=K0.call ha1
  obtain⟨p1,hp1,hr1⟩:=K1.here
  have hx:zan fixed k t=pb (yL (Zo fixed k) t.tail) fun x t=>yC [41] (yL (Zo fixed k)) (t.length+1) [x] t:=by
   unfold zan;rw[hi]
   rfl
  simp(disch:=first|omega|assumption) only[go_sem]
  refine zp (zgG hv hp1 hl hr1) (fun v H2 ⟨x1,t2,e2,hv2,ha2⟩=>?_) fun v H2 ⟨n,e2,hv2⟩=>pan v H2 n hv2 (by rw[hx,e2];rfl)
  subst hv2
  have K2:=K1.call ha2
  have hlt1:=(ZN (Ys fixed k)).lt (by decide) _ _ _ e2
  have hsl:=zes hp1
  rw[e2,zE] at hx
  obtain⟨R,hR⟩:∃ R,yC [41] (yL (Zo fixed k)) (t2.length+1) [x1] t2=R:=⟨_,rfl⟩
  rw[hR] at hx
  simp(disch:=first|omega|assumption) only[zo,zg,zf,zn,zh,ze,zu,go_sem]
  refine yB (fun x:Own×List Mem×TS=>[(5,.sl x.1 6 (cMs x.2.1))]) (fun x H'=>KO H r L x.2.2 (16-k) H' x.1 x.2.1.length 6∧(∃ m,x.2.2.length<m∧yC [41] (yL (Zo fixed k)) m x.2.1 x.2.2=R)∧x.2.1.length+x.2.2.length≤L.length) (fun x=>x.2.2.length) (.full,[x1],t2) (by simp(disch:=first|omega|assumption) only[zo,zg,zf,zn,zh,ze,zu,cMs,zeJ,go_sem]) ⟨⟨K2,yg.full _ _ _,nofun⟩,⟨_,Nat.lt_succ_self _,hR⟩,by simp only[List.length_singleton];omega⟩ ?_
  rintro⟨o,l,u⟩ H3 J ⟨K3,⟨m,hm,hR3⟩,hlen⟩ hJ
  simp only at K3 hm hR3 hlen
  obtain⟨m,rfl⟩:∃ j,m=j+1:=⟨m-1,by omega⟩
  obtain⟨p3,hp3,hr3⟩:=K3.here
  have hcl:=ZC l
  simp(disch:=first|omega|assumption) only[go_sem]
  refine zI (zal (dp:=16-k) hp3 hll hr3 [41]) fun v H4 ⟨hv4,ha4⟩=>?_
  subst hv4
  cases hj:isP [41] u with
  | true =>
   rw[YL,hj,if_pos rfl] at ha4
   have e1:R=.ok (l,u.tail):=by rw[← hR3,yC,hj];rfl
   simp(disch:=first|omega|assumption) only[go_sem]
   refine fin _ _ [.sl o 6 (cMs l)] l u.tail (by simp(disch:=first|omega|assumption) only[ir300,zK,yK,go_sem]) (by rw[hx,e1]) (K3.toKI.call ha4) ?_
   simp[zc,AV.strip,AV.strip1,ziz]
  | false =>
   rw[YL,hj] at ha4
   have K4:=K3.call (by simpa using ha4)
   obtain⟨p4,hp4,hr4⟩:=K4.here
   rw[yC,hj] at hR3
   simp only[Al7,if_false] at hR3
   simp(disch:=first|omega|assumption) only[go_sem]
   refine zp (zgG hv hp4 hl hr4) (fun v H5 ⟨x,t5,e5,hv5,ha5⟩=>?_) fun v H5 ⟨n5,e5,hv5⟩=>pan v H5 n5 hv5 (by rw[hx,← hR3,e5];rfl)
   subst hv5
   rw[e5,zE] at hR3
   have hlt:=(ZN (Ys fixed k)).lt (by decide) _ _ _ e5
   have K5:=K4.call ha5
   simp(disch:=first|omega|assumption) only[zo,zg,zf,zn,zh,ze,zu,go_sem]
   refine zv (by rw[hcl];exact K5.own) (by simp only[hcl,Al2,Al3];omega) (by simp only[hcl,Al2,Al3,maxLen];omega) fun o6 H6 hs6=>?_
   have K6:=K5.app (by simpa[hcl] using hs6)
   simp(disch:=first|omega|assumption) only[zo,zg,zf,zn,zh,ze,zu,go_sem]
   refine goJ (hJ (o6,l++[x],t5) _ (by simp only;omega) ⟨by simpa using K6,⟨m,by simp only;omega,hR3⟩,by simp only[Al5,Al2,Al3];omega⟩) (by simp(disch:=first|omega|assumption) only[zbR,List.map_append,List.map_cons,List.map_nil,zeJ,go_sem])
theorem zbj {fixed:Bool} {k:Nat} (hk:k≤16) {H:za} {r:Nat} {L p t:TS} (hs:p++t=L) (hl:wT L≤yN) (hr:H r=some (prc L p (16-k))) :
  zj Tryz.prog 250 [.ptr r 0,.bool fixed] H (RpE H r L (16-k) (Yy fixed k t) (fun l=>.sl .no 2 (cDs l))):=by
 refine ZG (zj.goO (R:=fun v H'=>zdJ H r L (16-k) (Yy fixed k t) (fun l=>.sl .no 2 (cDs l)) v.strip H') (RP:=fun v H'=>zeG (Yy fixed k t) v H') ir250 ck250 (Al4 _) fun KP Q hQ hP=>?_)
 have hll:L.length≤yN:=Nat.le_trans (zaO L) hl
 have hll2:=hll
 simp only[yN] at hll2
 have pan:∀(v:AV) (H1:za) (n:Int),v=Ze n→(Yy fixed k t)=.error n→KP v H1:=fun v H1 n h1 h2=>hP v H1 H1 (Low.refl _) ⟨n,h2,h1⟩
 have fin:=KI.done hQ
 have K0:=KI.start hs hr
 obtain⟨R,hR⟩:∃ R,YP [64] (zfU fixed k) (t.length+1) [] t=R:=⟨_,rfl⟩
 have hx:Yy fixed k t=R:=hR
 have hsl:=zes hs
 simp(disch:=first|omega|assumption) only[ir250,go_sem]
 refine yB (fun x:Own×List DirD×TS=>[(5,.sl x.1 2 (cDs x.2.1))]) (fun x H'=>KO H r L x.2.2 (16-k) H' x.1 x.2.1.length 2∧(∃ m,x.2.2.length<m∧YP [64] (zfU fixed k) m x.2.1 x.2.2=R)∧x.2.1.length+x.2.2.length≤L.length) (fun x=>x.2.2.length) (.nil,[],t) (by simp(disch:=first|omega|assumption) only[zmF,List.map_nil,go_sem]) ⟨⟨K0,rfl,nofun⟩,⟨_,Nat.lt_succ_self _,hR⟩,by simp only[Al3];omega⟩ ?_
 rintro⟨o,l,u⟩ H3 J ⟨K3,⟨m,hm,hR3⟩,hlen⟩ hJ
 simp only at K3 hm hR3 hlen
 obtain⟨m,rfl⟩:∃ j,m=j+1:=⟨m-1,by omega⟩
 obtain⟨p3,hp3,hr3⟩:=K3.here
 have hcl:=zev l
 simp(disch:=first|omega|assumption) only[go_sem]
 refine zI (zal (dp:=16-k) hp3 hll hr3 [64]) fun v H4 ⟨hv4,ha4⟩=>?_
 subst hv4
 cases hj:isP [64] u with
 | false =>
  rw[YL,hj] at ha4
  have e1:R=.ok (l,u):=by rw[← hR3,YP,hj];rfl
  simp(disch:=first|omega|assumption) only[go_sem]
  refine fin _ _ [.sl o 2 (cDs l)] l u (by simp(disch:=first|omega|assumption) only[ir250,zK,yK,go_sem]) (by rw[hx,e1]) (K3.toKI.call (by simpa using ha4)) ?_
  simp[zc,AV.strip,AV.strip1,zmF,zoP]
 | true =>
  rw[YL,hj,if_pos rfl] at ha4
  have hlt0:=zjo hj
  have K4:=K3.call ha4
  obtain⟨p4,hp4,hr4⟩:=K4.here
  rw[YP,hj,if_pos rfl] at hR3
  simp(disch:=first|omega|assumption) only[go_sem]
  refine zp (zah (dp:=16-k) hp4 hll hr4) (fun v H5 ⟨nm,t5,e5,hv5,ha5⟩=>?_) fun v H5 ⟨n5,e5,hv5⟩=>pan v H5 n5 hv5 (by rw[hx,← hR3,zfU,e5];rfl)
  subst hv5
  have K5:=K4.call ha5
  obtain⟨p5,hp5,hr5⟩:=K5.here
  simp(disch:=first|omega|assumption) only[go_sem]
  refine zp (zl6 hk hp5 hl hr5) (fun v H6 ⟨a,t6,e6,hv6,ha6⟩=>?_) fun v H6 ⟨n6,e6,hv6⟩=>pan v H6 n6 hv6 (by rw[hx,← hR3,zfU,e5,zE,e6];rfl)
  subst hv6
  have K6:=K5.call ha6
  have e7:zfU fixed k u.tail=.ok (⟨nm,a⟩,t6):=by rw[zfU,e5,zE,e6];rfl
  rw[e7,zE] at hR3
  have hlt:=(zhc fixed k).lt (by decide) _ _ _ e7
  simp(disch:=first|omega|assumption) only[zo,zg,zf,zn,zh,ze,zu,go_sem]
  refine zv (by rw[hcl];exact K6.own) (by simp only[hcl,Al2,Al3];omega) (by simp only[hcl,Al2,Al3,maxLen];omega) fun o7 H7 hs7=>?_
  have K7:=K6.app (by simpa[hcl] using hs7)
  simp(disch:=first|omega|assumption) only[zo,zg,zf,zn,zh,ze,zu,go_sem]
  refine goJ (hJ (o7,l++[⟨nm,a⟩],t6) _ (by simp only;omega) ⟨by simpa using K7,⟨m,by simp only;omega,hR3⟩,by simp only[Al5,Al2,Al3];omega⟩) (by simp(disch:=first|omega|assumption) only[zmF,cD,List.map_append,List.map_cons,List.map_nil,go_sem])
def zeO (k:Nat):Prop:=∀(H:za) (r:Nat) (L p t:TS),p++t=L→wT L≤yN→H r=some (prc L p (16-k)) →
 zj Tryz.prog 162 [.ptr r 0] H (RpE H r L (16-k) (yn k t) fun l=>.sl .no 7 (cSs l))
abbrev zS:List AV:=[.int .i64 0,.str [],.str [],.sl .nil 6 [],.sl .nil 2 [],.str [],.sl .nil 7 []]
theorem zvO {m:List UInt8} {t:TS} (h:isW m t=true):(hdT t).k=2:=by
 simp only[isW,Al0,decide_eq_true_eq] at h;exact h.1
theorem zoV {k:Nat} (hk:k≤16) (hv:zeO k) {H:za} {r:Nat} {L p t:TS} (hs:p++t=L) (hl:wT L≤yN) (hr:H r=some (prc L p (16-k))) :
  zj Tryz.prog 299 [.ptr r 0] H (RpE H r L (16-k) (Zm (yn k) k t) (fun x=>.agg (cS x))):=by
 refine ZG (zj.goO (R:=fun v H'=>zdJ H r L (16-k) (Zm (yn k) k t) (fun x=>.agg (cS x)) v.strip H') (RP:=fun v H'=>zeG (Zm (yn k) k t) v H') ir299 ck299 (Al4 _) fun KP Q hQ hP=>?_)
 have hll:L.length≤yN:=Nat.le_trans (zaO L) hl
 have hll2:=hll
 simp only[yN] at hll2
 have pan:∀(v:AV) (H1:za) (n:Int),v=Ze n→(Zm (yn k) k t)=.error n→KP v H1:=fun v H1 n h1 h2=>hP v H1 H1 (Low.refl _) ⟨n,h2,h1⟩
 have fin:=KI.done hQ
 have K0:=KI.start hs hr
 simp(disch:=first|omega|assumption) only[ir299,go_sem]
 refine zl fun b2 hb2=>?_
 have n2:=K0.ne hb2
 have n2s:=Ne.symm n2
 have K1:=K0.box (x:=.cells zS) hb2
 simp(disch:=first|omega|assumption) only[go_sem]
 refine zI (zi4 (dp:=16-k) hs (by rw[upd_ne n2];exact hr)) fun v H1 ⟨hv1,hH⟩=>?_
 subst hv1;subst hH
 obtain⟨p1,hp1,hr1⟩:=K1.here
 simp only[zS] at K1 hr1
 by_cases hsp:(hdT t).k=2∧isW [111,110] t=false
 ·obtain⟨hk2,hw⟩:=hsp
  have hk2':((hdT t).k=2)=True:=eq_true hk2
  have hx:Zm (yn k) k t=pb (y0 t) fun s t=>pb (Yy false k t) fun d t=>.ok (.mk 1 [] s [] d [] [],t):=by
   unfold Zm;rw[if_pos ⟨hk2,hw⟩]
  simp(disch:=first|omega|assumption) only[Yf,hk2',go_sem]
  refine zI (zrR (dp:=16-k) hp1 hr1 [111,110]) fun v H2 ⟨hv2,hH⟩=>?_
  subst hv2;subst hH
  rw[hw]
  simp(disch:=first|omega|assumption) only[go_sem]
  refine zp (zah (dp:=16-k) hp1 hll hr1) (fun v H3 ⟨s,t3,e3,hv3,ha3⟩=>?_) fun v H3 ⟨n,e3,hv3⟩=>pan v H3 n hv3 (by rw[hx,e3];rfl)
  subst hv3
  rw[e3,zE] at hx
  have K3:=K1.call ha3
  obtain⟨p3,hp3,hr3⟩:=K3.here
  have g3:H3 b2=some (.cells zS):=by rw[ha3.other n2s,upd_same]
  simp(disch:=first|omega|assumption) only[go_sem]
  refine zp (zbj hk hp3 hl hr3) (fun v H4 ⟨d,t4,e4,hv4,ha4⟩=>?_) fun v H4 ⟨n,e4,hv4⟩=>pan v H4 n hv4 (by rw[hx,e4];rfl)
  subst hv4
  rw[e4,zE] at hx
  have K4:=K3.call ha4
  have g4:H4 b2=some (.cells zS):=by rw[ha4.other n2s,g3]
  simp only[zS] at g4
  simp(disch:=first|omega|assumption) only[g4,go_sem]
  exact fin _ _ [.agg [.int .i64 1,.str [],.str s,.sl .nil 6 [],.sl .no 2 (cDs d),.str [],.sl .nil 7 []]] _ _ (by simp(disch:=first|omega|assumption) only[ir299,zK,yK,go_sem]) hx (K4.box hb2) (by simp[zc,AV.strip,AV.strip1,cS,cMs,cSs])
 have hx:Zm (yn k) k t=pb (if isW [111,110] t then y0 t.tail else .ok ([],t)) fun o t=>pb (Yy false k t) fun d t=>pb (yn k t) fun l t=>.ok (.mk 2 [] [] [] d o l,t):=by
  unfold Zm;rw[if_neg hsp]
 cases hw:isW [111,110] t with
 | true =>
  have hk2:=zvO hw
  have hk2':((hdT t).k=2)=True:=eq_true hk2
  rw[hw,if_pos rfl] at hx
  simp(disch:=first|omega|assumption) only[Yf,hk2',go_sem]
  refine zI (zrR (dp:=16-k) hp1 hr1 [111,110]) fun v H2 ⟨hv2,hH⟩=>?_
  subst hv2;subst hH
  rw[hw]
  simp(disch:=first|omega|assumption) only[go_sem]
  refine zl fun b3 hb3=>?_
  have h32:b3≠b2:=fun e=>by subst e;rw[upd_same] at hb3;cases hb3
  have hb3H:H b3=none:=by rw[upd_ne h32] at hb3;exact hb3
  have n3:=K0.ne hb3H
  have n3s:=Ne.symm n3
  have K2:=K1.box (x:=.cells [.int .i64 2,.str [],.str [],.sl .nil 6 [],.sl .nil 2 [],.str [],.sl .nil 7 []]) hb3H
  obtain⟨p2,hp2,hr2⟩:=K2.here
  simp(disch:=first|omega|assumption) only[go_sem]
  refine zI (zh7 (dp:=16-k) hp2 hll hr2 [111,110]) fun v H5 ⟨hv5,ha5⟩=>?_
  subst hv5
  have g53:H5 b3=some (.cells [.int .i64 2,.str [],.str [],.sl .nil 6 [],.sl .nil 2 [],.str [],.sl .nil 7 []]):=by rw[ha5.other n3s,upd_same]
  have g52:H5 b2=some (.cells zS):=by rw[ha5.other n2s,upd_ne (Ne.symm h32),upd_same]
  unfold Yu at ha5
  rw[hw] at ha5
  simp only[if_true,Al7,if_false] at ha5
  rw[hw]
  have K5:=K2.call ha5
  obtain⟨p5,hp5,hr5⟩:=K5.here
  simp(disch:=first|omega|assumption) only[go_sem]
  refine zp (zah (dp:=16-k) hp5 hll hr5) (fun v H3 ⟨o,t3,e3,hv3,ha3⟩=>?_) fun v H3 ⟨n,e3,hv3⟩=>pan v H3 n hv3 (by rw[hx,e3];rfl)
  subst hv3
  rw[e3,zE] at hx
  have K6:=K5.call ha3
  have g33:H3 b3=some (.cells [.int .i64 2,.str [],.str [],.sl .nil 6 [],.sl .nil 2 [],.str [],.sl .nil 7 []]):=by rw[ha3.other n3s,g53]
  have g32:H3 b2=some (.cells zS):=by rw[ha3.other n2s,g52]
  simp(disch:=first|omega|assumption) only[g33,go_sem]
  have K7:=K6.box (x:=.cells [.int .i64 2,.str [],.str [],.sl .nil 6 [],.sl .nil 2 [],.str o,.sl .nil 7 []]) hb3H
  have hHe:H3.upd b3 (.cells [.int .i64 2,.str [],.str [],.sl .nil 6 [],.sl .nil 2 [],.str o,.sl .nil 7 []])=H3.upd b3 (.cells [.int .i64 2,.str [],.str [],.sl .nil 6 [],.sl .nil 2 [],.str o,.sl .nil 7 []]):=rfl
  obtain⟨p7,hp7,hr7⟩:=K7.here
  refine zp (zbj hk hp7 hl hr7) (fun v H8 ⟨d,t8,e8,hv8,ha8⟩=>?_) fun v H8 ⟨n,e8,hv8⟩=>pan v H8 n hv8 (by rw[hx,e8];rfl)
  subst hv8
  rw[e8,zE] at hx
  have K8:=K7.call ha8
  have g83:H8 b3=some (.cells [.int .i64 2,.str [],.str [],.sl .nil 6 [],.sl .nil 2 [],.str o,.sl .nil 7 []]):=by rw[ha8.other n3s];(exact upd_same ..)
  have g82:H8 b2=some (.cells zS):=by rw[ha8.other n2s];(rw[upd_ne (Ne.symm h32)];exact g32)
  simp(disch:=first|omega|assumption) only[g83,go_sem]
  have K9:=K8.box (x:=.cells [.int .i64 2,.str [],.str [],.sl .nil 6 [],.sl .no 2 (cDs d),.str o,.sl .nil 7 []]) hb3H
  obtain⟨p9,hp9,hr9⟩:=K9.here
  refine zp (hv _ r L p9 t8 hp9 hl hr9) (fun v H9 ⟨l,t9,e9,hv9,ha9⟩=>?_) fun v H9 ⟨n,e9,hv9⟩=>pan v H9 n hv9 (by rw[hx,e9];rfl)
  subst hv9
  rw[e9,zE] at hx
  have KA:=K9.call ha9
  have g93:H9 b3=some (.cells [.int .i64 2,.str [],.str [],.sl .nil 6 [],.sl .no 2 (cDs d),.str o,.sl .nil 7 []]):=by rw[ha9.other n3s,upd_same]
  have g92:H9 b2=some (.cells zS):=by rw[ha9.other n2s,upd_ne (Ne.symm h32),g82]
  simp only[zS] at g92
  simp(disch:=first|omega|assumption) only[g93,g92,h32,Ne.symm h32,go_sem]
  exact fin _ _ [.agg [.int .i64 2,.str [],.str [],.sl .nil 6 [],.sl .no 2 (cDs d),.str o,.sl .no 7 (cSs l)]] _ _ (by simp(disch:=first|omega|assumption) only[ir299,zK,yK,go_sem]) hx ((KA.box hb3H).box hb2) (by simp[zc,AV.strip,AV.strip1,cS,cMs,cSs])
 | false =>
  have hk2:¬ ((hdT t).k=2):=fun h=>hsp ⟨h,hw⟩
  rw[hw] at hx
  simp only[Al7,if_false,zE] at hx
  simp(disch:=first|omega|assumption) only[Yf,hk2,go_sem]
  refine zl fun b3 hb3=>?_
  have h32:b3≠b2:=fun e=>by subst e;rw[upd_same] at hb3;cases hb3
  have hb3H:H b3=none:=by rw[upd_ne h32] at hb3;exact hb3
  have n3:=K0.ne hb3H
  have n3s:=Ne.symm n3
  have K2:=K1.box (x:=.cells [.int .i64 2,.str [],.str [],.sl .nil 6 [],.sl .nil 2 [],.str [],.sl .nil 7 []]) hb3H
  obtain⟨p2,hp2,hr2⟩:=K2.here
  simp(disch:=first|omega|assumption) only[go_sem]
  refine zI (zh7 (dp:=16-k) hp2 hll hr2 [111,110]) fun v H5 ⟨hv5,ha5⟩=>?_
  subst hv5
  have g53:H5 b3=some (.cells [.int .i64 2,.str [],.str [],.sl .nil 6 [],.sl .nil 2 [],.str [],.sl .nil 7 []]):=by rw[ha5.other n3s,upd_same]
  have g52:H5 b2=some (.cells zS):=by rw[ha5.other n2s,upd_ne (Ne.symm h32),upd_same]
  unfold Yu at ha5
  rw[hw] at ha5
  simp only[if_true,Al7,if_false] at ha5
  rw[hw]
  have K5:=K2.call ha5
  obtain⟨p5,hp5,hr5⟩:=K5.here
  simp(disch:=first|omega|assumption) only[go_sem]
  have K7:=K5.box (x:=.cells [.int .i64 2,.str [],.str [],.sl .nil 6 [],.sl .nil 2 [],.str [],.sl .nil 7 []]) hb3H
  have hHe:H5.upd b3 (.cells [.int .i64 2,.str [],.str [],.sl .nil 6 [],.sl .nil 2 [],.str [],.sl .nil 7 []])=H5.upd b3 (.cells [.int .i64 2,.str [],.str [],.sl .nil 6 [],.sl .nil 2 [],.str [],.sl .nil 7 []]):=rfl
  obtain⟨p7,hp7,hr7⟩:=K5.here
  refine zp (zbj hk hp7 hl hr7) (fun v H8 ⟨d,t8,e8,hv8,ha8⟩=>?_) fun v H8 ⟨n,e8,hv8⟩=>pan v H8 n hv8 (by rw[hx,e8];rfl)
  subst hv8
  rw[e8,zE] at hx
  have K8:=K5.call ha8
  have g83:H8 b3=some (.cells [.int .i64 2,.str [],.str [],.sl .nil 6 [],.sl .nil 2 [],.str [],.sl .nil 7 []]):=by rw[ha8.other n3s];(exact g53)
  have g82:H8 b2=some (.cells zS):=by rw[ha8.other n2s];(exact g52)
  simp(disch:=first|omega|assumption) only[g83,go_sem]
  have K9:=K8.box (x:=.cells [.int .i64 2,.str [],.str [],.sl .nil 6 [],.sl .no 2 (cDs d),.str [],.sl .nil 7 []]) hb3H
  obtain⟨p9,hp9,hr9⟩:=K9.here
  refine zp (hv _ r L p9 t8 hp9 hl hr9) (fun v H9 ⟨l,t9,e9,hv9,ha9⟩=>?_) fun v H9 ⟨n,e9,hv9⟩=>pan v H9 n hv9 (by rw[hx,e9];rfl)
  subst hv9
  rw[e9,zE] at hx
  have KA:=K9.call ha9
  have g93:H9 b3=some (.cells [.int .i64 2,.str [],.str [],.sl .nil 6 [],.sl .no 2 (cDs d),.str [],.sl .nil 7 []]):=by rw[ha9.other n3s,upd_same]
  have g92:H9 b2=some (.cells zS):=by rw[ha9.other n2s,upd_ne (Ne.symm h32),g82]
  simp only[zS] at g92
  simp(disch:=first|omega|assumption) only[g93,g92,h32,Ne.symm h32,go_sem]
  exact fin _ _ [.agg [.int .i64 2,.str [],.str [],.sl .nil 6 [],.sl .no 2 (cDs d),.str [],.sl .no 7 (cSs l)]] _ _ (by simp(disch:=first|omega|assumption) only[ir299,zK,yK,go_sem]) hx ((KA.box hb3H).box hb2) (by simp[zc,AV.strip,AV.strip1,cS,cMs,cSs])
theorem zs1 {k:Nat} (hk:k≤16) (hv:zeO k) {H:za} {r:Nat} {L p t:TS} (hs:p++t=L) (hl:wT L≤yN) (hr:H r=some (prc L p (16-k))) :
  zj Tryz.prog 247 [.ptr r 0] H (RpE H r L (16-k) (zaM (yn k) k t) (fun x=>.agg (cS x))):=by
 refine ZG (zj.goO (R:=fun v H'=>zdJ H r L (16-k) (zaM (yn k) k t) (fun x=>.agg (cS x)) v.strip H') (RP:=fun v H'=>zeG (zaM (yn k) k t) v H') ir247 ck247 (Al4 _) fun KP Q hQ hP=>?_)
 have hll:L.length≤yN:=Nat.le_trans (zaO L) hl
 have hll2:=hll
 simp only[yN] at hll2
 have pan:∀(v:AV) (H1:za) (n:Int),v=Ze n→(zaM (yn k) k t)=.error n→KP v H1:=fun v H1 n h1 h2=>hP v H1 H1 (Low.refl _) ⟨n,h2,h1⟩
 have fin:=KI.done hQ
 have K0:=KI.start hs hr
 simp(disch:=first|omega|assumption) only[ir247,go_sem]
 refine zl fun b2 hb2=>?_
 have n2:=K0.ne hb2
 have n2s:=Ne.symm n2
 have K1:=K0.box (x:=.cells zS) hb2
 obtain⟨p1,hp1,hr1⟩:=K1.here
 simp only[zS] at K1 hr1
 simp(disch:=first|omega|assumption) only[go_sem]
 refine zI (zal (dp:=16-k) hp1 hll hr1 [46,46,46]) fun v H2 ⟨hv2,ha2⟩=>?_
 subst hv2
 have g22:H2 b2=some (.cells zS):=by rw[ha2.other n2s,upd_same]
 have K2:=K1.call ha2
 unfold YL at K2
 obtain⟨p2,hp2,hr2⟩:=K2.here
 cases hi:isP [46,46,46] t with
 | true =>
  rw[hi] at K2 hp2
  simp only[if_true] at K2 hp2
  have hx:zaM (yn k) k t=Zm (yn k) k t.tail:=by unfold zaM;rw[hi];rfl
  simp(disch:=first|omega|assumption) only[go_sem]
  refine zp (zoV hk hv hp2 hl hr2) (fun v H3 ⟨x,t3,e3,hv3,ha3⟩=>?_) fun v H3 ⟨n,e3,hv3⟩=>pan v H3 n hv3 (by rw[hx,e3])
  subst hv3
  have K3:=K2.call ha3
  have g3:H3 b2=some (.cells zS):=by rw[ha3.other n2s,g22]
  simp only[zS] at g3
  simp(disch:=first|omega|assumption) only[g3,zgV,zeK,zbs,go_sem]
  exact fin _ _ [.agg (cS x)] _ _ (by simp(disch:=first|omega|assumption) only[ir247,zK,yK,zgV,zeK,zbs,go_sem]) (by rw[hx,e3]) (K3.box hb2) (by simp[zc,AV.strip,zeo])
 | false =>
  rw[hi] at K2 hp2
  simp only[Al7,if_false] at K2 hp2
  have hx:zaM (yn k) k t=pb (y0 t) fun s t=>pb (if isP [58] t then pb (y0 t.tail) fun s2 t=>.ok ((s,s2),t) else .ok (([],s),t)) fun an t =>
   pb (zan false k t) fun a t=>pb (Yy false k t) fun d t=>pb (if isP [123] t then yn k t else .ok ([],t)) fun l t=>.ok (.mk 0 an.1 an.2 a d [] l,t):=by unfold zaM;rw[hi];rfl
  simp(disch:=first|omega|assumption) only[go_sem]
  refine zp (zah (dp:=16-k) hp2 hll hr2) (fun v H3 ⟨s,t3,e3,hv3,ha3⟩=>?_) fun v H3 ⟨n,e3,hv3⟩=>pan v H3 n hv3 (by rw[hx,e3];rfl)
  subst hv3
  rw[e3,zE] at hx
  have K3:=K2.call ha3
  have g32:H3 b2=some (.cells zS):=by rw[ha3.other n2s,g22]
  simp(disch:=first|omega|assumption) only[go_sem]
  refine zl fun b3 hb3=>?_
  have h32:b3≠b2:=fun e=>by subst e;rw[g32] at hb3;cases hb3
  have hb3H:H b3=none:=K3.none hb3
  have n3:=K0.ne hb3H
  have n3s:=Ne.symm n3
  have K4:=K3.box (x:=.cells [.int .i64 0,.str [],.str s,.sl .nil 6 [],.sl .nil 2 [],.str [],.sl .nil 7 []]) hb3H
  obtain⟨p4,hp4,hr4⟩:=K4.here
  simp(disch:=first|omega|assumption) only[go_sem]
  refine zI (zal (dp:=16-k) hp4 hll hr4 [58]) fun v H5 ⟨hv5,ha5⟩=>?_
  subst hv5
  have g53:H5 b3=some (.cells [.int .i64 0,.str [],.str s,.sl .nil 6 [],.sl .nil 2 [],.str [],.sl .nil 7 []]):=by rw[ha5.other n3s,upd_same]
  have g52:H5 b2=some (.cells zS):=by rw[ha5.other n2s,upd_ne (Ne.symm h32),g32]
  have K5:=K4.call ha5
  unfold YL at K5
  obtain⟨p5,hp5,hr5⟩:=K5.here
  cases hc:isP [58] t3 with
  | true =>
   rw[hc] at hx K5 hp5
   simp only[if_true] at hx K5 hp5
   simp(disch:=first|omega|assumption) only[g53,go_sem]
   refine zp (zah (dp:=16-k) hp5 hll hr5) (fun v H6 ⟨s2,t6,e6,hv6,ha6⟩=>?_) fun v H6 ⟨n,e6,hv6⟩=>pan v H6 n hv6 (by rw[hx,e6];rfl)
   subst hv6
   rw[e6,zE,zE] at hx
   have K6:=K5.call ha6
   have g63:H6 b3=some (.cells [.int .i64 0,.str [],.str s,.sl .nil 6 [],.sl .nil 2 [],.str [],.sl .nil 7 []]):=by rw[ha6.other n3s,g53]
   have g62:H6 b2=some (.cells zS):=by rw[ha6.other n2s,g52]
   simp(disch:=first|omega|assumption) only[g63,go_sem]
   have K7:=K6.box (x:=.cells [.int .i64 0,.str s,.str s2,.sl .nil 6 [],.sl .nil 2 [],.str [],.sl .nil 7 []]) hb3H
   obtain⟨p7,hp7,hr7⟩:=K7.here
   refine zp (zl6 hk hp7 hl hr7) (fun v H8 ⟨a,t8,e8,hv8,ha8⟩=>?_) fun v H8 ⟨n,e8,hv8⟩=>pan v H8 n hv8 (by rw[hx,e8];rfl)
   subst hv8
   rw[e8,zE] at hx
   have K8:=K7.call ha8
   have g83:H8 b3=some (.cells [.int .i64 0,.str s,.str s2,.sl .nil 6 [],.sl .nil 2 [],.str [],.sl .nil 7 []]):=by rw[ha8.other n3s];(exact upd_same ..)
   have g82:H8 b2=some (.cells zS):=by rw[ha8.other n2s];(rw[upd_ne (Ne.symm h32)];exact g62)
   simp(disch:=first|omega|assumption) only[g83,go_sem]
   have K9:=K8.box (x:=.cells [.int .i64 0,.str s,.str s2,.sl .no 6 (cMs a),.sl .nil 2 [],.str [],.sl .nil 7 []]) hb3H
   obtain⟨p9,hp9,hr9⟩:=K9.here
   refine zp (zbj hk hp9 hl hr9) (fun v HA ⟨d,tA,eA,hvA,haA⟩=>?_) fun v HA ⟨n,eA,hvA⟩=>pan v HA n hvA (by rw[hx,eA];rfl)
   subst hvA
   rw[eA,zE] at hx
   have KA:=K9.call haA
   have gA3:HA b3=some (.cells [.int .i64 0,.str s,.str s2,.sl .no 6 (cMs a),.sl .nil 2 [],.str [],.sl .nil 7 []]):=by rw[haA.other n3s,upd_same]
   have gA2:HA b2=some (.cells zS):=by rw[haA.other n2s,upd_ne (Ne.symm h32),g82]
   simp(disch:=first|omega|assumption) only[gA3,go_sem]
   have KB:=KA.box (x:=.cells [.int .i64 0,.str s,.str s2,.sl .no 6 (cMs a),.sl .no 2 (cDs d),.str [],.sl .nil 7 []]) hb3H
   obtain⟨pB,hpB,hrB⟩:=KB.here
   refine zI (zoj (dp:=16-k) hpB hrB [123]) fun v HC ⟨hvC,hHC⟩=>?_
   subst hvC;subst hHC
   have gC2:(HA.upd b3 (.cells [.int .i64 0,.str s,.str s2,.sl .no 6 (cMs a),.sl .no 2 (cDs d),.str [],.sl .nil 7 []])) b2=some (.cells zS):=by rw[upd_ne (Ne.symm h32),gA2]
   cases hb:isP [123] tA with
   | true =>
    rw[hb] at hx
    simp only[if_true] at hx
    simp(disch:=first|omega|assumption) only[go_sem]
    refine zp (hv _ r L pB tA hpB hl hrB) (fun v HD ⟨l,tD,eD,hvD,haD⟩=>?_) fun v HD ⟨n,eD,hvD⟩=>pan v HD n hvD (by rw[hx,eD];rfl)
    subst hvD
    rw[eD,zE] at hx
    have KD:=KB.call haD
    have gD3:HD b3=some (.cells [.int .i64 0,.str s,.str s2,.sl .no 6 (cMs a),.sl .no 2 (cDs d),.str [],.sl .nil 7 []]):=by rw[haD.other n3s,upd_same]
    have gD2:HD b2=some (.cells zS):=by rw[haD.other n2s,gC2]
    simp only[zS] at gD2
    simp(disch:=first|omega|assumption) only[gD3,gD2,h32,Ne.symm h32,go_sem]
    exact fin _ _ [.agg [.int .i64 0,.str s,.str s2,.sl .no 6 (cMs a),.sl .no 2 (cDs d),.str [],.sl .no 7 (cSs l)]] _ _ (by simp(disch:=first|omega|assumption) only[ir247,zK,yK,go_sem]) hx ((KD.box hb3H).box hb2) (by simp[zc,AV.strip,AV.strip1,cS,cMs,cSs])
   | false =>
    rw[hb] at hx
    simp only[Al7,if_false,zE] at hx
    simp only[zS] at gA2
    simp(disch:=first|omega|assumption) only[gA2,h32,Ne.symm h32,go_sem]
    exact fin _ _ [.agg [.int .i64 0,.str s,.str s2,.sl .no 6 (cMs a),.sl .no 2 (cDs d),.str [],.sl .nil 7 []]] _ _ (by simp(disch:=first|omega|assumption) only[ir247,zK,yK,go_sem]) hx (KB.box hb2) (by simp[zc,AV.strip,AV.strip1,cS,cMs,cSs])
  | false =>
   rw[hc] at hx K5 hp5
   simp only[Al7,if_false,zE] at hx K5 hp5
   simp(disch:=first|omega|assumption) only[go_sem]
   refine zp (zl6 hk hp5 hl hr5) (fun v H8 ⟨a,t8,e8,hv8,ha8⟩=>?_) fun v H8 ⟨n,e8,hv8⟩=>pan v H8 n hv8 (by rw[hx,e8];rfl)
   subst hv8
   rw[e8,zE] at hx
   have K8:=K5.call ha8
   have g83:H8 b3=some (.cells [.int .i64 0,.str [],.str s,.sl .nil 6 [],.sl .nil 2 [],.str [],.sl .nil 7 []]):=by rw[ha8.other n3s];(exact g53)
   have g82:H8 b2=some (.cells zS):=by rw[ha8.other n2s];(exact g52)
   simp(disch:=first|omega|assumption) only[g83,go_sem]
   have K9:=K8.box (x:=.cells [.int .i64 0,.str [],.str s,.sl .no 6 (cMs a),.sl .nil 2 [],.str [],.sl .nil 7 []]) hb3H
   obtain⟨p9,hp9,hr9⟩:=K9.here
   refine zp (zbj hk hp9 hl hr9) (fun v HA ⟨d,tA,eA,hvA,haA⟩=>?_) fun v HA ⟨n,eA,hvA⟩=>pan v HA n hvA (by rw[hx,eA];rfl)
   subst hvA
   rw[eA,zE] at hx
   have KA:=K9.call haA
   have gA3:HA b3=some (.cells [.int .i64 0,.str [],.str s,.sl .no 6 (cMs a),.sl .nil 2 [],.str [],.sl .nil 7 []]):=by rw[haA.other n3s,upd_same]
   have gA2:HA b2=some (.cells zS):=by rw[haA.other n2s,upd_ne (Ne.symm h32),g82]
   simp(disch:=first|omega|assumption) only[gA3,go_sem]
   have KB:=KA.box (x:=.cells [.int .i64 0,.str [],.str s,.sl .no 6 (cMs a),.sl .no 2 (cDs d),.str [],.sl .nil 7 []]) hb3H
   obtain⟨pB,hpB,hrB⟩:=KB.here
   refine zI (zoj (dp:=16-k) hpB hrB [123]) fun v HC ⟨hvC,hHC⟩=>?_
   subst hvC;subst hHC
   have gC2:(HA.upd b3 (.cells [.int .i64 0,.str [],.str s,.sl .no 6 (cMs a),.sl .no 2 (cDs d),.str [],.sl .nil 7 []])) b2=some (.cells zS):=by rw[upd_ne (Ne.symm h32),gA2]
   cases hb:isP [123] tA with
   | true =>
    rw[hb] at hx
    simp only[if_true] at hx
    simp(disch:=first|omega|assumption) only[go_sem]
    refine zp (hv _ r L pB tA hpB hl hrB) (fun v HD ⟨l,tD,eD,hvD,haD⟩=>?_) fun v HD ⟨n,eD,hvD⟩=>pan v HD n hvD (by rw[hx,eD];rfl)
    subst hvD
    rw[eD,zE] at hx
    have KD:=KB.call haD
    have gD3:HD b3=some (.cells [.int .i64 0,.str [],.str s,.sl .no 6 (cMs a),.sl .no 2 (cDs d),.str [],.sl .nil 7 []]):=by rw[haD.other n3s,upd_same]
    have gD2:HD b2=some (.cells zS):=by rw[haD.other n2s,gC2]
    simp only[zS] at gD2
    simp(disch:=first|omega|assumption) only[gD3,gD2,h32,Ne.symm h32,go_sem]
    exact fin _ _ [.agg [.int .i64 0,.str [],.str s,.sl .no 6 (cMs a),.sl .no 2 (cDs d),.str [],.sl .no 7 (cSs l)]] _ _ (by simp(disch:=first|omega|assumption) only[ir247,zK,yK,go_sem]) hx ((KD.box hb3H).box hb2) (by simp[zc,AV.strip,AV.strip1,cS,cMs,cSs])
   | false =>
    rw[hb] at hx
    simp only[Al7,if_false,zE] at hx
    simp only[zS] at gA2
    simp(disch:=first|omega|assumption) only[gA2,h32,Ne.symm h32,go_sem]
    exact fin _ _ [.agg [.int .i64 0,.str [],.str s,.sl .no 6 (cMs a),.sl .no 2 (cDs d),.str [],.sl .nil 7 []]] _ _ (by simp(disch:=first|omega|assumption) only[ir247,zK,yK,go_sem]) hx (KB.box hb2) (by simp[zc,AV.strip,AV.strip1,cS,cMs,cSs])
theorem zro:zeO 0:=by
 intro H r L p t hs hl hr
 refine zj.goO (R:=fun v H'=>zdJ H r L (16-0) (yn 0 t) (fun l=>.sl .no 7 (cSs l)) v H') (RP:=fun v H'=>zeG (yn 0 t) v H') ir162 ck162 (Al4 _) fun KP Q hQ hP=>?_
 have hll:L.length≤yN:=Nat.le_trans (zaO L) hl
 have pan:∀(v:AV) (H1:za) (n:Int),v=Ze n→yn 0 t=.error n→KP v H1:=fun v H1 n h1 h2=>hP v H1 H1 (Low.refl _) ⟨n,h2,h1⟩
 simp(disch:=first|omega|assumption) only[ir162,go_sem]
 refine zp (zjX (dp:=16-0) hs hll (by omega) hr [123]) (fun v H1 ⟨hv,hat,haf⟩=>?_) fun v H1 ⟨hi,h16,hv⟩=>pan v H1 4 hv (by rw[yn,if_pos hi])
 subst hv
 cases hi:isP [123] t with
 | true=>exact absurd (hat hi).1 (by decide)
 | false =>
  simp(disch:=first|omega|assumption) only[go_sem]
  exact zp (zdB _ r 2) (fun _ _ h=>h.elim) fun v H3 h=>pan v H3 2 h (by rw[yn,hi];rfl)
theorem zqY {k:Nat} (hk:k<16) (hv:zeO k):zeO (k+1):=by
 intro H r L p t hs hl hr
 refine ZG (zj.goO (R:=fun v H'=>zdJ H r L (16-(k+1)) (yn (k+1) t) (fun l=>.sl .no 7 (cSs l)) v.strip H') (RP:=fun v H'=>zeG (yn (k+1) t) v H') ir162 ck162 (Al4 _) fun KP Q hQ hP=>?_)
 have hll:L.length≤yN:=Nat.le_trans (zaO L) hl
 have hll2:=hll
 simp only[yN] at hll2
 have pan:∀(v:AV) (H1:za) (n:Int),v=Ze n→(yn (k+1) t)=.error n→KP v H1:=fun v H1 n h1 h2=>hP v H1 H1 (Low.refl _) ⟨n,h2,h1⟩
 have fin:=KI.done hQ
 have K0:=KI.start hs hr
 simp(disch:=first|omega|assumption) only[ir162,go_sem]
 refine zp (zjX (dp:=16-(k+1)) hs hll (by omega) hr [123]) (fun v H1 ⟨hv1,hat,haf⟩=>?_) fun v H1 ⟨hi,h16,hv1⟩=>by exfalso;omega
 subst hv1
 cases hi:isP [123] t with
 | false =>
  simp(disch:=first|omega|assumption) only[go_sem]
  exact zp (zdB _ r 2) (fun _ _ h=>h.elim) fun v H3 h=>pan v H3 2 h (by rw[yn,hi];rfl)
 | true =>
  have ha1:=(hat hi).2
  rw[show 16-(k+1)+1=16-k by omega] at ha1
  have K1:=K0.call ha1
  obtain⟨p1,hp1,hr1⟩:=K1.here
  have hx:yn (k+1) t=pb (zaM (yn k) k t.tail) fun x t=>yC [125] (zaM (yn k) k) (t.length+1) [x] t:=by
   rw[yn,hi];rfl
  clear hat haf
  simp(disch:=first|omega|assumption) only[go_sem]
  refine zp (zs1 (by omega) hv hp1 hl hr1) (fun v H2 ⟨x1,t2,e2,hv2,ha2⟩=>?_) fun v H2 ⟨n,e2,hv2⟩=>pan v H2 n hv2 (by rw[hx,e2];rfl)
  subst hv2
  have K2:=K1.call ha2
  have hlt1:=(zee (Yj k)).lt (by decide) _ _ _ e2
  have hsl:=zes hp1
  rw[e2,zE] at hx
  obtain⟨R,hR⟩:∃ R,yC [125] (zaM (yn k) k) (t2.length+1) [x1] t2=R:=⟨_,rfl⟩
  rw[hR] at hx
  simp(disch:=first|omega|assumption) only[zgV,zeK,zbs,go_sem]
  refine yB (fun x:Own×List SelD×TS=>[(3,.sl x.1 7 (cSs x.2.1))]) (fun x H'=>KO H r L x.2.2 (16-k) H' x.1 x.2.1.length 7∧(∃ m,x.2.2.length<m∧yC [125] (zaM (yn k) k) m x.2.1 x.2.2=R)∧x.2.1.length+x.2.2.length≤L.length) (fun x=>x.2.2.length) (.full,[x1],t2) (by simp(disch:=first|omega|assumption) only[cSs,zeo,go_sem]) ⟨⟨K2,yg.full _ _ _,nofun⟩,⟨_,Nat.lt_succ_self _,hR⟩,by simp only[List.length_singleton];omega⟩ ?_
  rintro⟨o,l,u⟩ H3 J ⟨K3,⟨m,hm,hR3⟩,hlen⟩ hJ
  simp only at K3 hm hR3 hlen
  obtain⟨m,rfl⟩:∃ j,m=j+1:=⟨m-1,by omega⟩
  obtain⟨p3,hp3,hr3⟩:=K3.here
  have hcl:=zb7 l
  simp(disch:=first|omega|assumption) only[go_sem]
  refine zI (zjV (dp:=16-k) hp3 hll (by omega) hr3 [125]) fun v H4 ⟨hv4,hat,haf⟩=>?_
  subst hv4
  cases hj:isP [125] u with
  | true =>
   have ha4:=hat hj
   rw[show 16-k-1=16-(k+1) by omega] at ha4
   have e1:R=.ok (l,u.tail):=by rw[← hR3,yC,hj];rfl
   simp(disch:=first|omega|assumption) only[go_sem]
   refine fin _ _ [.sl o 7 (cSs l)] l u.tail (by simp(disch:=first|omega|assumption) only[ir162,zK,yK,go_sem]) (by rw[hx,e1]) (K3.toKI.call ha4) ?_
   simp[zc,AV.strip,AV.strip1,zdo,zeo]
  | false =>
   have K4:=K3.call (haf hj)
   obtain⟨p4,hp4,hr4⟩:=K4.here
   rw[yC,hj] at hR3
   simp only[Al7,if_false] at hR3
   simp(disch:=first|omega|assumption) only[go_sem]
   refine zp (zs1 (by omega) hv hp4 hl hr4) (fun v H5 ⟨x,t5,e5,hv5,ha5⟩=>?_) fun v H5 ⟨n5,e5,hv5⟩=>pan v H5 n5 hv5 (by rw[hx,← hR3,e5];rfl)
   subst hv5
   rw[e5,zE] at hR3
   have hlt:=(zee (Yj k)).lt (by decide) _ _ _ e5
   have K5:=K4.call ha5
   simp(disch:=first|omega|assumption) only[zgV,zeK,zbs,go_sem]
   refine zv (by rw[hcl];exact K5.own) (by simp only[hcl,Al2,Al3];omega) (by simp only[hcl,Al2,Al3,maxLen];omega) fun o6 H6 hs6=>?_
   have K6:=K5.app (by simpa[hcl] using hs6)
   simp(disch:=first|omega|assumption) only[zgV,zeK,zbs,go_sem]
   refine goJ (hJ (o6,l++[x],t5) _ (by simp only;omega) ⟨by simpa using K6,⟨m,by simp only;omega,hR3⟩,by simp only[Al5,Al2,Al3];omega⟩) (by simp(disch:=first|omega|assumption) only[zdo,List.map_append,List.map_cons,List.map_nil,zeo,go_sem])
theorem zaS:∀ k,k≤16→zeO k
 | 0,_=>zro
 | k+1,h=>zqY (by omega) (zaS k (by omega))
end Go.Proofs.YticbbfbpeimkbaaGreatDoor
namespace Go.Proofs.YticbbfbpeimkbaaGreatDoor
open Go.Lib
theorem zkT {d:Nat} (h:d<10):(UInt8.ofNat (48+d)).toNat=48+d:=by
 rw[UInt8.toNat_ofNat'];omega
theorem zn2 (u:Nat) (hu:u<18446744073709551616) (r:List UInt8):parseUint10 0 (decDigits u++r)=parseUint10 u r:=by
 induction u using Nat.strongRecOn generalizing r with
 | _ u ih =>
  rw[decDigits]
  split
  ·rename_i h
   simp only[Al6,Zy,parseUint10,zkT h]
   rw[if_pos (by omega),if_neg (by omega),if_neg (by omega)]
   congr 1
   omega
  ·rename_i h
   have hd:u % 10<10:=Nat.mod_lt _ (by omega)
   rw[Z6,ih (u / 10) (by omega) (by omega)]
   simp only[Al6,Zy,parseUint10,zkT hd]
   rw[if_pos (by omega),if_neg (by omega),if_neg (by omega)]
   congr 1
   omega
theorem zaA (u:Nat):decDigits u≠[]:=by
 rw[decDigits];split<;>simp
theorem zbi (u:Nat):∀ c∈decDigits u,48≤c.toNat∧c.toNat≤57:=by
 induction u using Nat.strongRecOn with
 | _ u ih =>
  intro c hc
  rw[decDigits] at hc
  split at hc
  ·rename_i h
   rw[List.mem_singleton] at hc
   subst hc
   rw[zkT h];omega
  ·rename_i h
   rcases List.mem_append.1 hc with e|e
   ·exact ih (u / 10) (by omega) c e
   ·rw[List.mem_singleton] at e
    subst e
    rw[zkT (Nat.mod_lt _ (by omega))];omega
theorem zh9 (u:Nat) (hu:u<18446744073709551616):parseMag (decDigits u)=.ok u:=by
 unfold parseMag
 rw[if_neg (zaA u)]
 have:=zn2 u hu []
 rw[List.append_nil] at this
 rw[this];rfl
theorem zhb (n:Int) (h1:-9223372036854775808≤n) (h2:n≤9223372036854775807):parseIntB 64 (itoa n)=.ok n:=by
 rw[parseIntB_64]
 unfold itoa
 split
 ·rename_i h
  rw[atoiAll_minus,zh9 _ (by omega)]
  simp only[signed]
  rw[if_neg (by omega)]
  congr 1
  omega
 ·rename_i h
  cases hd:decDigits n.toNat with
  | nil=>exact absurd hd (zaA _)
  | cons c r =>
   have hc:=zbi n.toNat c (by rw[hd];simp)
   rw[atoiAll_plain c r (by omega) (by omega),← hd,zh9 _ (by omega)]
   simp only[signless]
   rw[if_neg (by omega)]
   congr 1
   omega
end Go.Proofs.YticbbfbpeimkbaaGreatDoor
namespace Go.Proofs.YticbbfbpeimkbaaGreatDoor
open Go.Ab
abbrev pl (v:Val):Prop:=zci ym v=true
inductive Shape:Val→Prop
 | null:Shape (.mk 0 0 [] [] [])
 | bool (n:Int) (h:n=0∨n=1):Shape (.mk 1 n [] [] [])
 | int (n:Int):Shape (.mk 2 n [] [] [])
 | num (s:List UInt8) (h:zfV s=true):Shape (.mk 3 0 s [] [])
 | text (s:List UInt8):Shape (.mk 4 0 s [] [])
 | word (s:List UInt8) (h:zmm s=false):Shape (.mk 5 0 s [] [])
 | var (s:List UInt8):Shape (.mk 8 0 s [] [])
 | list (l:List Val) (h:za5 ym l=true):Shape (.mk 6 0 [] l [])
 | obj (m:List Mem) (h:zcd ym m=true):Shape (.mk 7 0 [] [] m)
theorem ze8 {n:Int} {s:List UInt8} {l:List Val} {m:List Mem}:zbu n s l m=true↔n=0∧s=[]∧l=[]∧m=[]:=by
 simp[zbu]
theorem shape:∀ v,pl v→Shape v
 | .mk k n s l m,h=>by
  simp only[pl,zci] at h
  split at h
  ·rename_i k6
   subst k6
   simp only[Al0,ze8] at h
   obtain⟨h1,rfl,rfl,_,rfl⟩:=h
   exact .list l h1
  ·split at h
   ·rename_i k7
    subst k7
    simp only[Al0,ze8] at h
    obtain⟨h1,rfl,rfl,rfl,_⟩:=h
    exact .obj m h1
   ·simp only[yR,Al0,ze8] at h
    obtain⟨⟨_,_,rfl,rfl⟩,h⟩:=h
    split at h
    ·rename_i k0
     subst k0
     simp only[Al0,decide_eq_true_eq] at h
     obtain⟨rfl,rfl⟩:=h
     exact .null
    split at h
    ·rename_i k0
     subst k0
     simp only[Al0,Bool.or_eq_true,decide_eq_true_eq] at h
     obtain⟨h,rfl⟩:=h
     exact .bool n h
    split at h
    ·rename_i k0
     subst k0
     simp only[decide_eq_true_eq] at h
     subst h
     exact .int n
    split at h
    ·rename_i k0
     subst k0
     simp only[Al0,decide_eq_true_eq] at h
     obtain⟨rfl,h⟩:=h
     exact .num s h
    split at h
    ·rename_i k0
     subst k0
     simp only[Al0,decide_eq_true_eq] at h
     obtain⟨rfl,h⟩:=h
     exact .text s
    split at h
    ·rename_i k0
     subst k0
     simp only[Al0,decide_eq_true_eq,Bool.not_eq_true'] at h
     obtain⟨rfl,_,h⟩:=h
     exact .word s h
    split at h
    ·rename_i k0
     subst k0
     simp only[Al0,decide_eq_true_eq] at h
     obtain⟨rfl,_⟩:=h
     exact .var s
    ·cases h
theorem zqI (n s l m):yG (.mk 0 n s l m)=[⟨2,[110,117,108,108]⟩]:=by simp[yG]
theorem zpk (n s l m):yG (.mk 1 n s l m)=[⟨2,boolT (decide (n=1))⟩]:=by simp[yG]
theorem zs2 (n s l m):yG (.mk 2 n s l m)=[⟨3,Lib.itoa n⟩]:=by simp[yG]
theorem zsD (n s l m):yG (.mk 3 n s l m)=[⟨Yt s,s⟩]:=by simp[yG]
theorem t_text (n s l m):yG (.mk 4 n s l m)=[⟨5,s⟩]:=by simp[yG]
theorem zpX (n s l m):yG (.mk 5 n s l m)=[⟨2,s⟩]:=by simp[yG]
theorem zsw (n s l m):yG (.mk 8 n s l m)=[⟨1,[36]⟩,⟨2,s⟩]:=by simp[yG]
theorem zqt (n s l m):yG (.mk 6 n s l m)=⟨1,[91]⟩::(YH l++[⟨1,[93]⟩]):=by simp[yG]
theorem zsU (n s l m):yG (.mk 7 n s l m)=⟨1,[123]⟩::(ZA m++[⟨1,[125]⟩]):=by simp[yG]
theorem zij {s:List UInt8} (h:zfV s=true):(Yt s=4∨Yt s=3)∧∀ n,inR n→Yt s=3→Lib.itoa n≠s:=by
 simp only[zfV,Bool.or_eq_true,decide_eq_true_eq,Al0,Bool.not_eq_true'] at h
 refine⟨h.imp id (·.1),fun n hn h3 e=>?_⟩
 rcases h with h|⟨_,h⟩
 ·omega
 ·rw[ZX,← e,zhb n hn.1 hn.2,e,h3] at h
  simp[okI] at h
theorem zo7 (v:Val) (h:pl v):∃ t r,yG v=t::r∧t≠⟨1,[93]⟩∧t≠⟨1,[125]⟩:=by
 cases shape v h with
 | null=>exact⟨_,_,zqI ..,by simp,by simp⟩
 | bool n h=>exact⟨_,_,zpk ..,by simp,by simp⟩
 | int n=>exact⟨_,_,zs2 ..,by simp,by simp⟩
 | num s h =>
  have:=(zij h).1
  refine⟨_,_,zsD ..,fun e=>?_,fun e=>?_⟩<;>(injection e with e _;omega)
 | text s=>exact⟨_,_,t_text ..,by simp,by simp⟩
 | word s h=>exact⟨_,_,zpX ..,by simp,by simp⟩
 | var s=>exact⟨_,_,zsw ..,by simp,by simp⟩
 | list l h=>exact⟨_,_,zqt ..,by simp,by simp⟩
 | obj m h=>exact⟨_,_,zsU ..,by simp,by simp⟩
open Go.Lib
theorem zgP {P:UInt8→Prop} (h:∀ x:Fin 256,P (UInt8.ofNat x.val)) (c:UInt8):P c:=by
 have:=h ⟨c.toNat,c.toNat_lt⟩
 simpa using this
theorem Y3 {a b:List UInt8} {i:Nat} (h:i<a.length):(a++b).getD i 0=a.getD i 0:=by
 simp[List.getD,List.getElem?_append_left h]
theorem getD_at (a:List UInt8) (c:UInt8) (b:List UInt8):(a++c::b).getD a.length 0=c:=by simp
theorem zgv {n b1 b2 b3 sz lo hi k:Nat} (h:checkN n b1 b2 b3 sz lo hi=some k) :
  2≤k∧k≤4∧k≤n∧k=sz∧lo≤b1∧(3≤k→128≤b2)∧(4≤k→128≤b3)∧∀ n' c2 c3,k≤n'→(3≤k→c2=b2)→(4≤k→c3=b3)→checkN n' b1 c2 c3 sz lo hi=some k:=by
 unfold checkN at h
 split at h
 ·rename_i hs
  split at h
  ·cases h
  ·rename_i hc
   cases h
   refine⟨by omega,by omega,by omega,hs.symm,by omega,by omega,by omega,fun n' c2 c3 h1 _ _=>?_⟩
   unfold checkN;rw[if_pos hs,if_neg (by omega)]
 ·rename_i hs2
  split at h
  ·rename_i hs
   split at h
   ·cases h
   ·rename_i hc
    cases h
    refine⟨by omega,by omega,by omega,hs.symm,by omega,by omega,by omega,fun n' c2 c3 h1 h2 _=>?_⟩
    have:=h2 (by omega)
    unfold checkN;rw[if_neg hs2,if_pos hs,if_neg (by omega)]
  ·rename_i hs3
   split at h
   ·rename_i hs
    split at h
    ·cases h
    ·rename_i hc
     cases h
     refine⟨by omega,by omega,by omega,hs.symm,by omega,by omega,by omega,fun n' c2 c3 h1 h2 h3=>?_⟩
     have:=h2 (by omega)
     have:=h3 (by omega)
     unfold checkN;rw[if_neg hs2,if_neg hs3,if_pos hs,if_neg (by omega)]
   ·cases h
theorem zvI:∀ x:Fin 256,2≤firstT x.val % 8→firstT x.val % 8≤4→128≤accLo (firstT x.val / 16):=by decide +kernel
theorem zut {b:Nat} (h:b<256) (h1:2≤firstT b % 8) (h2:firstT b % 8≤4):128≤accLo (firstT b / 16):=zvI ⟨b,h⟩ h1 h2
theorem zd0:∀(n:Nat) (a b:List UInt8),a.length≤n→validD a=true→validD (a++b)=validD b
 | n,[],b,_,_=>by simp
 | 0,x::t,b,h,_=>by simp at h
 | n+1,x::t,b,h,hv=>by
  by_cases hx:x.toNat<128
  ·rw[validD_cons x t hx] at hv
   rw[Al6,validD_cons x _ hx]
   exact zd0 n t b (by simpa using h) hv
  ·have h0:128≤((x::t).getD 0 0).toNat:=by simp;omega
   rw[validD_lead (x::t) (by simp) h0] at hv
   split at hv
   ·cases hv
   ·rename_i k hk
    obtain⟨k2,k4,kl,ks,klo,_,_,kall⟩:=zgv hk
    have hkl:k≤(x::t).length:=kl
    have e1:((x::t++b).getD 1 0)=(x::t).getD 1 0:=Y3 (by omega)
    have e0:((x::t++b).getD 0 0)=(x::t).getD 0 0:=Y3 (by omega)
    rw[validD_lead (x::t++b) (by simp) (by rw[e0];exact h0),e0,e1]
    rw[kall (x::t++b).length _ _ (by simp only[Al5];omega) (fun h3=>by rw[Y3 (by omega)]) (fun h3=>by rw[Y3 (by omega)])]
    simp only
    rw[List.drop_append_of_le_length hkl]
    exact zd0 n _ b (by rw[List.length_drop];omega) hv
theorem ztw {a b:List UInt8} (h:validD a=true):validD (a++b)=validD b:=zd0 a.length a b (Al4 _) h
theorem zga {a b:List UInt8} (h:validD a=true) (h':validD b=true):validD (a++b)=true:=(ztw h).trans h'
theorem zbY (c:UInt8) (hc:c.toNat<128):∀(n:Nat) (a b:List UInt8),a.length≤n→validD (a++c::b)=true→validD a=true∧validD b=true
 | n,[],b,_,hv=>by
  rw[Zy,validD_cons c b hc] at hv
  exact⟨validD_nil,hv⟩
 | 0,x::t,b,h,_=>by simp at h
 | n+1,x::t,b,h,hv=>by
  by_cases hx:x.toNat<128
  ·rw[Al6,validD_cons x _ hx] at hv
   rw[validD_cons x t hx]
   exact zbY c hc n t b (by simpa using h) hv
  ·have h0:128≤((x::t++c::b).getD 0 0).toNat:=by simp;omega
   have e0:((x::t++c::b).getD 0 0)=(x::t).getD 0 0:=Y3 (by simp)
   have ec:((x::t++c::b).getD (x::t).length 0)=c:=getD_at ..
   rw[validD_lead (x::t++c::b) (by simp) h0] at hv
   split at hv
   ·cases hv
   ·rename_i k hk
    obtain⟨k2,k4,kl,ks,klo,k3,k4',kall⟩:=zgv hk
    have hlo:=zut ((x::t++c::b).getD 0 0).toNat_lt (by omega) (by omega)
    have hkl:k≤(x::t).length:=by
     rcases Nat.lt_or_ge (x::t).length k with h1|h1
     ·exfalso
      have hl:(x::t).length=1∨(x::t).length=2∨(x::t).length=3:=by simp only[Al2] at h1 ⊢;omega
      rcases hl with e|e|e
      ·rw[e] at ec h1;rw[ec] at klo;omega
      ·rw[e] at ec h1;rw[ec] at k3;have:=k3 (by omega);omega
      ·rw[e] at ec h1;rw[ec] at k4';have:=k4' (by omega);omega
     ·exact h1
    have e1:((x::t++c::b).getD 1 0)=(x::t).getD 1 0:=Y3 (by omega)
    rw[List.drop_append_of_le_length hkl] at hv
    obtain⟨g1,g2⟩:=zbY c hc n _ b (by rw[List.length_drop];omega) hv
    refine⟨?_,g2⟩
    rw[validD_lead (x::t) (by simp) (by rw[← e0];exact h0),← e0,← e1]
    rw[kall (x::t).length _ _ hkl (fun h3=>by rw[Y3 (by omega)]) (fun h3=>by rw[Y3 (by omega)])]
    exact g1
theorem ztD {c:UInt8} (hc:c.toNat<128) {a b:List UInt8} (hv:validD (a++c::b)=true):validD a=true∧validD b=true:=zbY c hc a.length a b (Al4 _) hv
theorem ofN {n:Nat} (h:n<256):(UInt8.ofNat n).toNat=n:=by rw[UInt8.toNat_ofNat'];omega
theorem zeM {n:Nat} (h1:n≤1114111) (h2:¬ (55296≤n∧n≤57343)):validD (Zx n)=true:=by
 unfold Zx
 split
 ·rename_i h
  rw[validD_cons _ _ (by rw[ofN (by omega)];omega)];rfl
 ·split
  ·rename_i h0 h
   rw[validD_lead _ (by simp) (by simp only[List.getD_cons_zero];rw[ofN (by omega)];omega)]
   simp only[List.getD_cons_zero,List.getD_cons_succ,List.getD_nil,Al2,Al3]
   rw[ofN (show 192+n / 64<256 by omega),ofN (show 128+n % 64<256 by omega)]
   have e:firstT (192+n / 64)=2:=by unfold firstT;rw[if_neg (by omega),if_neg (by omega),if_pos (by omega)]
   rw[e]
   have e2:checkN (0+1+1) (128+n % 64) (0:UInt8).toNat (0:UInt8).toNat (2 % 8) (accLo (2 / 16)) (accHi (2 / 16))=some 2:=by
    unfold checkN accLo accHi;simp;omega
   rw[e2];rfl
  ·split
   ·rename_i h0 h1' h
    rw[validD_lead _ (by simp) (by simp only[List.getD_cons_zero];rw[ofN (by omega)];omega)]
    simp only[List.getD_cons_zero,List.getD_cons_succ,List.getD_nil,Al2,Al3]
    rw[ofN (show 224+n / 4096<256 by omega),ofN (show 128+n / 64 % 64<256 by omega),ofN (show 128+n % 64<256 by omega)]
    have e2:checkN (0+1+1+1) (128+n / 64 % 64) (128+n % 64) (0:UInt8).toNat (firstT (224+n / 4096) % 8) (accLo (firstT (224+n / 4096) / 16)) (accHi (firstT (224+n / 4096) / 16))=some 3:=by
     have c:n / 4096=0∨(1≤n / 4096∧n / 4096<13)∨n / 4096=13∨(14≤n / 4096∧n / 4096<16):=by omega
     rcases c with c|c|c|c
     ·rw[c];unfold checkN;simp[firstT,accLo,accHi];omega
     ·have e:firstT (224+n / 4096)=3:=by unfold firstT;rw[if_neg (by omega),if_neg (by omega),if_neg (by omega),if_neg (by omega),if_pos (by omega)]
      rw[e];unfold checkN;simp[accLo,accHi];omega
     ·rw[c];unfold checkN;simp[firstT,accLo,accHi];omega
     ·have e:firstT (224+n / 4096)=3:=by unfold firstT;rw[if_neg (by omega),if_neg (by omega),if_neg (by omega),if_neg (by omega),if_neg (by omega),if_neg (by omega),if_pos (by omega)]
      rw[e];unfold checkN;simp[accLo,accHi];omega
    rw[e2];rfl
   ·rename_i h0 h1' h
    rw[validD_lead _ (by simp) (by simp only[List.getD_cons_zero];rw[ofN (by omega)];omega)]
    simp only[List.getD_cons_zero,List.getD_cons_succ,List.getD_nil,Al2,Al3]
    rw[ofN (show 240+n / 262144<256 by omega),ofN (show 128+n / 4096 % 64<256 by omega),ofN (show 128+n / 64 % 64<256 by omega),ofN (show 128+n % 64<256 by omega)]
    have e2:checkN (0+1+1+1+1) (128+n / 4096 % 64) (128+n / 64 % 64) (128+n % 64) (firstT (240+n / 262144) % 8) (accLo (firstT (240+n / 262144) / 16)) (accHi (firstT (240+n / 262144) / 16))=some 4:=by
     have c:n / 262144=0∨(1≤n / 262144∧n / 262144<4)∨n / 262144=4:=by omega
     rcases c with c|c|c
     ·rw[c];unfold checkN;simp[firstT,accLo,accHi];omega
     ·have e:firstT (240+n / 262144)=4:=by unfold firstT;rw[if_neg (by omega),if_neg (by omega),if_neg (by omega),if_neg (by omega),if_neg (by omega),if_neg (by omega),if_neg (by omega),if_neg (by omega),if_pos (by omega)]
      rw[e];unfold checkN;simp[accLo,accHi];omega
     ·rw[c];unfold checkN;simp[firstT,accLo,accHi];omega
    rw[e2];rfl
theorem zdU:∀(u:List Nat) (s:List UInt8),zQ u=some s→validD s=true
 | [],s,h=>by cases h;rfl
 | u::[],s,h=>by
  simp only[zQ] at h
  split at h
  ·cases h
  ·rename_i h1
   split at h
   ·cases h
   ·simp only[zas,Al1] at h
    subst h
    rw[List.append_nil]
    exact zeM (by omega) (by omega)
 | u::v::r,s,h=>by
  rw[zQ] at h
  split at h
  ·cases h
  ·rename_i h1
   split at h
   ·rename_i h2
    split at h
    ·cases h
    ·rename_i h3
     cases hr:zQ r with
     | none=>simp[hr] at h
     | some x =>
      simp only[hr,zas,Al1] at h
      subst h
      exact zga (zeM (by omega) (by omega)) (zdU r x hr)
   ·rename_i h2
    cases hr:zQ (v::r) with
    | none=>simp[hr] at h
    | some x =>
     simp only[hr,zas,Al1] at h
     subst h
     exact zga (zeM (by omega) (by omega)) (zdU (v::r) x hr)
end Go.Proofs.YticbbfbpeimkbaaGreatDoor
namespace Go.Proofs.YticbbfbpeimkbaaGreatDoor
open Go.Ab
def qB (c:UInt8):List UInt8:=if c=34∨c=92 then [92,c] else if c.toNat<32 then [92,117,48,48,hexL.getD (c.toNat / 16) 0,hexL.getD (c.toNat % 16) 0] else [c]
def zb5 (s:List UInt8):List UInt8:=34::(s.flatMap qB++[34])
mutual
def Yl:Val→List UInt8
 | .mk k n s l m=>if k=0 then [110,117,108,108] else if k=1 then boolT (decide (n=1)) else if k=2 then Lib.itoa n else if k=3 then s else if k=4 then zb5 s
  else if k=6 then 91::(Yh true l++[93]) else 123::(Yi true m++[125])
def Yh:Bool→List Val→List UInt8
 | _,[]=>[]
 | f,v::r=>(if f then [] else [44])++(Yl v++Yh false r)
def zlJ:Mem→List UInt8
 | .mk s v=>zb5 s++(58::Yl v)
def Yi:Bool→List Mem→List UInt8
 | _,[]=>[]
 | f,x::r=>(if f then [] else [44])++(zlJ x++Yi false r)
end
mutual
def zm3:Val→Bool
 | .mk k _ _ l m=>!(decide (k=5)||decide (k=8))&&(zd2 l&&zbK [] m)
def zd2:List Val→Bool
 | []=>true
 | v::r=>zm3 v&&zd2 r
def zsH:Mem→Bool
 | .mk _ v=>zm3 v
def zbK:List (List UInt8)→List Mem→Bool
 | _,[]=>true
 | ns,x::r=>!(ns.contains (nmM x))&&(zsH x&&zbK (ns++[nmM x]) r)
def nmM:Mem→List UInt8
 | .mk s _=>s
end
def zaL (v:Val):Bool:=zk0 v&&zm3 v
theorem zbW (t:List UInt8):zX (45::t)=if yu t=0 then 0 else 1+Y5 t:=by
 unfold zX;exact if_pos rfl
theorem YQ {s:List UInt8} (h:¬ s.head?=some 45):zX s=Y5 s:=by
 unfold zX;exact if_neg h
open Go.Lib
structure SdOk (q:Sd) (acc:List UInt8):Prop where
 ok:q.ok=true
 small:∀ u∈q.u,u<128
 eq:acc=q.b++q.u.map UInt8.ofNat
theorem join_small:∀ u:List Nat,(∀ x∈u,x<128)→zQ u=some (u.map UInt8.ofNat)
 | [],_=>rfl
 | u::r,h=>by
  have h1:=h u (.head _)
  have h2:=join_small r fun x hx=>h x (.tail _ hx)
  have e:Zx u=[UInt8.ofNat u]:=by unfold Zx;rw[if_pos (by omega)]
  cases r with
  | nil=>simp only[zQ];rw[if_neg (by omega),if_neg (by omega),e];rfl
  | cons v r=>rw[zQ,if_neg (by omega),if_neg (by omega),h2,e];rfl
theorem SdOk.flush {q:Sd} {acc:List UInt8} (h:SdOk q acc):yI q=⟨acc,[],true⟩:=by
 unfold yI;rw[join_small _ h.small,h.ok,h.eq];rfl
theorem SdOk.put {q:Sd} {acc:List UInt8} (h:SdOk q acc) (c:UInt8):SdOk (q.put c) (acc++[c]):=by
 unfold Sd.put;rw[h.flush];exact⟨rfl,by simp,by simp⟩
theorem SdOk.unit {q:Sd} {acc:List UInt8} (h:SdOk q acc) {u:Nat} (hu:u<128):SdOk ⟨q.b,q.u++[u],q.ok⟩ (acc++[UInt8.ofNat u]) :=
 ⟨h.ok,fun x hx=>by rcases List.mem_append.1 hx with e|e;exact h.small x e;simp at e;omega,by rw[h.eq];simp⟩
theorem zoW:∀ x:Fin 32,∀ t,Y9 (48::48::hexL.getD (x.val / 16) 0::hexL.getD (x.val % 16) 0::t)=some x.val:=by
 intro x t
 have h0:hexD 48=some 0:=by decide
 have h1:∀ y:Fin 32,hexD (hexL.getD (y.val / 16) 0)=some (y.val / 16):=by decide
 have h2:∀ y:Fin 32,hexD (hexL.getD (y.val % 16) 0)=some (y.val % 16):=by decide
 unfold Y9
 simp only[Y8,h0,h1 x,h2 x]
 congr 1;omega
theorem zuu {q:Sd} {acc:List UInt8} (h:SdOk q acc) (c:UInt8) (hc:c=34∨c=92) (t:List UInt8):YF q (c::t)=some (q.put c,t):=by
 rcases hc with rfl|rfl
 ·simp only[YF];rw[if_neg (by decide),if_neg (by decide)];rfl
 ·simp only[YF];rw[if_neg (by decide),if_neg (by decide)];rfl
theorem zvb (q:Sd) (c:UInt8) (hc:c.toNat<32) (t:List UInt8):YF q (117::48::48::hexL.getD (c.toNat / 16) 0::hexL.getD (c.toNat % 16) 0::t)=some (⟨q.b,q.u++[c.toNat],q.ok⟩,t):=by
 simp only[YF]
 rw[if_pos trivial]
 have:=zoW ⟨c.toNat,hc⟩ t
 simp only at this
 rw[this];rfl
theorem zjf (may:UInt8→Bool) (hm:∀ c:UInt8,32≤c.toNat→may c=true):∀(s:List UInt8) (n:Nat) (q:Sd) (acc t:List UInt8),SdOk q acc→(s.flatMap qB).length<n→∃ q',zae may n (s.flatMap qB++34::t) q=some (q',t)∧q'.ok=true∧q'.b=acc++s
 | [],n+1,q,acc,t,h,_=>⟨yI q,by simp[zae],by rw[h.flush],by rw[h.flush];simp⟩
 | [],0,q,acc,t,h,hn=>by simp at hn
 | c::s,0,q,acc,t,h,hn=>by simp at hn
 | c::s,n+1,q,acc,t,h,hn=>by
  rw[List.flatMap_cons] at hn ⊢
  rw[Z6]
  rw[Al5] at hn
  by_cases h1:c=34∨c=92
  ·have e:qB c=[92,c]:=by unfold qB;rw[if_pos h1]
   rw[e] at hn ⊢
   simp only[Al2,Al3] at hn
   simp only[Al6,Zy,zae]
   rw[if_neg (by decide),if_pos trivial,zuu h c h1]
   obtain⟨q',h2,h3,h4⟩:=zjf may hm s n (q.put c) (acc++[c]) t (h.put c) (by omega)
   exact⟨q',h2,h3,by rw[h4];simp⟩
  ·by_cases h2:c.toNat<32
   ·have e:qB c=[92,117,48,48,hexL.getD (c.toNat / 16) 0,hexL.getD (c.toNat % 16) 0]:=by unfold qB;rw[if_neg h1,if_pos h2]
    rw[e] at hn ⊢
    simp only[Al2,Al3] at hn
    simp only[Al6,Zy,zae]
    rw[if_neg (by decide),if_pos trivial,zvb q c h2]
    obtain⟨q',h2',h3,h4⟩:=zjf may hm s n _ (acc++[UInt8.ofNat c.toNat]) t (h.unit (by omega)) (by omega)
    exact⟨q',h2',h3,by rw[h4];simp⟩
   ·have e:qB c=[c]:=by unfold qB;rw[if_neg h1,if_neg h2]
    rw[e] at hn ⊢
    simp only[Al2,Al3] at hn
    simp only[Al6,Zy,zae]
    rw[if_neg (fun e=>h1 (.inl e)),if_neg (fun e=>h1 (.inr e)),if_pos (hm c (by omega))]
    obtain⟨q',h2',h3,h4⟩:=zjf may hm s n (q.put c) (acc++[c]) t (h.put c) (by omega)
    exact⟨q',h2',h3,by rw[h4];simp⟩
theorem zuf (s t:List UInt8):Y7 hiB (s.flatMap qB++34::t)=some (s,t):=by
 unfold Y7
 obtain⟨q',h1,h2,h3⟩:=zjf hiB (fun c h=>by simp[hiB,h]) s ((s.flatMap qB++34::t).length+1) ⟨[],[],true⟩ [] t ⟨rfl,by simp,rfl⟩ (by simp only[Al5,Al2];omega)
 rw[h1]
 simp only[h2,if_true,h3,Zy]
theorem zvJ:bk 34=false:=by decide
theorem zaf {c:UInt8} {t:List UInt8} (h:bk c=false):skB (c::t)=c::t:=by rw[skB,h];rfl
theorem znb (s t:List UInt8):znr (zb5 s++t)=.ok (s,t):=by
 unfold znr zb5
 rw[Al6,zaf zvJ,Z6,if_pos (by simp[List.isPrefixOf])]
 simp only[List.tail_cons,Al6,Zy]
 rw[zuf]
theorem znv (c:UInt8):isD c=true→nch c=true:=zgP (P:=fun c=>isD c=true→nch c=true) (by decide +kernel) c
theorem zu6 (c:UInt8):isE c=true→nch c=true:=zgP (P:=fun c=>isE c=true→nch c=true) (by decide +kernel) c
theorem zu4 (c:UInt8):isD c=true→nst c=true:=zgP (P:=fun c=>isD c=true→nst c=true) (by decide +kernel) c
theorem zbm (c:UInt8):nst c=true→bk c=false∧c≠123∧c≠91∧c≠34∧c≠93∧c≠125∧c.toNat<128:=zgP (P:=fun c=>nst c=true→bk c=false∧c≠123∧c≠91∧c≠34∧c≠93∧c≠125∧c.toNat<128) (by decide +kernel) c
theorem zdi:∀(l:List UInt8) (c:UInt8),c∈l.take (yu l)→isD c=true
 | [],c,h=>by simp at h
 | x::l,c,h=>by
  rw[yu] at h
  split at h
  ·rename_i hx
   rw[List.take_succ_cons] at h
   rcases List.mem_cons.1 h with e|e
   ·rw[e];exact hx
   ·exact zdi l c e
  ·simp at h
theorem zos {l:List UInt8} {a b:Nat} (h:a≤b) {c:UInt8} (hc:c∈l.take a):c∈l.take b :=
 (List.take_prefix_take_left h).subset hc
theorem zpG (s:List UInt8):Y5 s≤yu s:=by unfold Y5;split<;>(try split)<;>omega
theorem ziX {l:List UInt8} {c:UInt8} (h:c∈l.take (Y5 l)):isD c=true:=zdi l c (zos (zpG l) h)
theorem zj9 {s:List UInt8} {c:UInt8} (h:c∈s.take (zX s)):nch c=true:=by
 by_cases h45:s.head?=some 45
 ·cases s with
  | nil=>simp at h
  | cons x t =>
   have hx:x=45:=by simpa using h45
   subst hx
   rw[zbW] at h
   by_cases h0:yu t=0
   ·rw[if_pos h0] at h;simp at h
   ·rw[if_neg h0,Nat.add_comm,List.take_succ_cons] at h
    rcases List.mem_cons.1 h with e|e
    ·rw[e];decide
    ·exact znv c (ziX e)
 ·rw[YQ h45] at h
  exact znv c (ziX h)
theorem zmq {s:List UInt8} {c:UInt8} (h:c∈s.take (ZL s)):nch c=true:=by
 unfold ZL at h
 split at h
 ·rename_i h46
  cases s with
  | nil=>simp at h
  | cons x t =>
   have hx:x=46:=by simpa using h46.1
   subst hx
   simp only[List.tail_cons] at h
   rw[Nat.add_comm,List.take_succ_cons] at h
   rcases List.mem_cons.1 h with e|e
   ·rw[e];decide
   ·exact znv c (zdi _ c e)
 ·simp at h
theorem zmg {s:List UInt8} (h:zX s≠0):∃ c t,s=c::t∧nst c=true:=by
 cases s with
 | nil=>exact absurd (by decide) h
 | cons c t =>
  refine⟨c,t,rfl,?_⟩
  by_cases hc:c=45
  ·rw[hc];decide
  ·rw[YQ (by simpa using hc)] at h
   apply zu4
   cases hd:isD c with
   | true=>rfl
   | false=>exact absurd (by simp[Y5,yu,hd]) h
theorem zqc {r:List UInt8} {c:UInt8} (h:c∈r.take (sgN r)):nch c=true:=by
 unfold sgN at h
 split at h
 ·rename_i hs
  cases r with
  | nil=>simp at h
  | cons x t =>
   simp only[List.head?_cons,Al1] at hs
   simp at h
   subst h
   rcases hs with rfl|rfl<;>decide
 ·simp at h
theorem zoG:∀(s:List UInt8) (c:UInt8),c∈s.take (zaX s)→nch c=true
 | [],c,h=>by simp at h
 | x::r,c,h=>by
  rw[zaX] at h
  split at h
  ·rename_i hx
   split at h
   ·simp at h
   ·rw[Nat.add_assoc,Nat.add_comm,List.take_succ_cons] at h
    rcases List.mem_cons.1 h with e|e
    ·rw[e];exact zu6 x hx
    ·rw[List.take_add] at e
     rcases List.mem_append.1 e with e|e
     ·exact zqc e
     ·exact znv c (zdi _ c e)
  ·simp at h
theorem zbB {s:List UInt8} (h:Yt s≠0):(∀ c∈s,nch c=true)∧∃ c t,s=c::t∧nst c=true:=by
 unfold Yt at h
 split at h
 ·rename_i hl
  unfold y5 at h hl
  split at h
  ·exact absurd rfl h
  ·rename_i hw
   rw[if_neg hw] at hl
   simp only at hl
   refine⟨fun c hc=>?_,zmg hw⟩
   have e:s=s.take (zX s+ZL (s.drop (zX s))+zaX (s.drop (zX s+ZL (s.drop (zX s))))):=by rw[hl,List.take_length]
   rw[e,List.take_add,List.take_add] at hc
   rcases List.mem_append.1 hc with hc|hc
   ·rcases List.mem_append.1 hc with hc|hc
    ·exact zj9 hc
    ·exact zmq hc
   ·exact zoG _ _ hc
 ·exact absurd rfl h
def NoN (r:List UInt8):Prop:=∀ c,r.head?=some c→nch c=false
theorem takeN:∀(s r:List UInt8),(∀ c∈s,nch c=true)→NoN r→(s++r).takeWhile nch=s∧(s++r).dropWhile nch=r
 | [],[],_,_=>⟨rfl,rfl⟩
 | [],c::r,_,h=>by
  have:=h c rfl
  simp[this]
 | c::s,r,h,hr=>by
  have h1:=takeN s r (fun x hx=>h x (.tail _ hx)) hr
  have h2:=h c (.head _)
  simp[h2,h1]
theorem zpS {s r:List UInt8} (h:Yt s≠0) (hr:NoN r):zr1 (s++r)=.ok (zdx s,r):=by
 have h1:=takeN s r (zbB h).1 hr
 unfold zr1
 rw[h1.1,h1.2,if_neg h]
theorem zr5 {u:Nat} {c:UInt8} (h:c∈decDigits u):isD c=true:=by
 have:=zbi u c h
 simp[isD,this]
theorem zkZ:∀ l:List UInt8,(∀ c∈l,isD c=true)→yu l=l.length
 | [],_=>rfl
 | c::l,h=>by
  rw[yu,if_pos (h c (.head _)),zkZ l fun x hx=>h x (.tail _ hx)];rfl
theorem zke (u:Nat):∃ c t,decDigits u=c::t∧(c=48→t=[]):=by
 induction u using Nat.strongRecOn with
 | _ u ih =>
  rw[decDigits]
  split
  ·exact⟨_,[],rfl,fun _=>rfl⟩
  ·rename_i h
   obtain⟨c,t,h1,h2⟩:=ih (u / 10) (by omega)
   refine⟨c,t++[UInt8.ofNat (48+u % 10)],by rw[h1];rfl,fun e=>?_⟩
   have ht:=h2 e
   subst e;subst ht
   rw[decDigits] at h1
   split at h1
   ·rename_i h3
    have h4:=congrArg UInt8.toNat (List.cons.inj h1).1
    rw[zkT h3] at h4
    have:(48:UInt8).toNat=48:=rfl
    omega
   ·have:=congrArg List.length h1
    have h5:=zaA (u / 10 / 10)
    cases hd:decDigits (u / 10 / 10) with
    | nil=>exact absurd hd h5
    | cons a b=>rw[hd] at this;simp at this
theorem zhz (u:Nat):Y5 (decDigits u)=(decDigits u).length∧yu (decDigits u)≠0:=by
 have h1:=zkZ (decDigits u) fun c hc=>zr5 hc
 obtain⟨c,t,h2,h3⟩:=zke u
 have h4:yu (decDigits u)≠0:=by rw[h1,h2];simp
 refine⟨?_,h4⟩
 unfold Y5
 rw[if_neg h4]
 split
 ·rename_i h5
  rw[h2] at h5 ⊢
  rw[h3 (by simpa using h5)];rfl
 ·exact h1
theorem zeQ (n:Int):Yt (itoa n)=3:=by
 have key:∀ s:List UInt8,zX s=s.length→s≠[]→Yt s=3:=fun s h h0=>by
  have hl:s.length≠0:=fun e=>h0 (List.length_eq_zero_iff.1 e)
  have e1:ZL ([]:List UInt8)=0:=by decide
  have hn:y5 s=(s.length,3):=by
   unfold y5
   rw[if_neg (by omega)]
   simp[h,e1,zaX]
  unfold Yt;rw[hn];simp
 unfold itoa
 split
 ·refine key _ ?_ (by simp)
  rw[zbW,if_neg (zhz _).2,(zhz _).1];simp;omega
 ·refine key _ ?_ (zaA _)
  obtain⟨c,t,h2,h3⟩:=zke n.toNat
  have h5:¬ (decDigits n.toNat).head?=some 45:=by
   rw[h2];simp
   intro e;subst e
   have:=zbi n.toNat 45 (by rw[h2];simp)
   have e:(45:UInt8).toNat=45:=rfl
   omega
  rw[YQ h5,(zhz _).1]
theorem zea {n:Int} {s:List UInt8} {l:List Val} {m:List Mem}:zbu n s l m=true↔n=0∧s=[]∧l=[]∧m=[]:=by
 simp[zbu]
inductive JS:Val→Prop
 | null:JS (.mk 0 0 [] [] [])
 | bool (n:Int) (h:n=0∨n=1):JS (.mk 1 n [] [] [])
 | int (n:Int):JS (.mk 2 n [] [] [])
 | num (s:List UInt8) (h:zfV s=true):JS (.mk 3 0 s [] [])
 | text (s:List UInt8) (h:validD s=true):JS (.mk 4 0 s [] [])
 | list (l:List Val) (h:za5 validD l=true) (h':zd2 l=true):JS (.mk 6 0 [] l [])
 | obj (m:List Mem) (h:zcd validD m=true) (h':zbK [] m=true):JS (.mk 7 0 [] [] m)
theorem zqG:∀ v,zaL v=true→JS v
 | .mk k n s l m,h=>by
  simp only[zaL,zk0,zci,zm3,Al0,Bool.not_eq_true',Bool.or_eq_false_iff,decide_eq_false_iff_not] at h
  obtain⟨h,⟨h5,h8⟩,hl,hm⟩:=h
  split at h
  ·rename_i k6
   subst k6
   simp only[Al0,zea] at h
   obtain⟨h1,rfl,rfl,_,rfl⟩:=h
   exact .list l h1 hl
  ·split at h
   ·rename_i k7
    subst k7
    simp only[Al0,zea] at h
    obtain⟨h1,rfl,rfl,rfl,_⟩:=h
    exact .obj m h1 hm
   ·simp only[yR,Al0,zea] at h
    obtain⟨⟨_,_,rfl,rfl⟩,h⟩:=h
    split at h
    ·rename_i k0
     subst k0
     simp only[Al0,decide_eq_true_eq] at h
     obtain⟨rfl,rfl⟩:=h
     exact .null
    split at h
    ·rename_i k0
     subst k0
     simp only[Al0,Bool.or_eq_true,decide_eq_true_eq] at h
     obtain⟨h,rfl⟩:=h
     exact .bool n h
    split at h
    ·rename_i k0
     subst k0
     simp only[decide_eq_true_eq] at h
     subst h
     exact .int n
    split at h
    ·rename_i k0
     subst k0
     simp only[Al0,decide_eq_true_eq] at h
     obtain⟨rfl,h⟩:=h
     exact .num s h
    split at h
    ·rename_i k0
     subst k0
     simp only[Al0,decide_eq_true_eq] at h
     obtain⟨rfl,h⟩:=h
     exact .text s h
    ·cases h
theorem zmP {s:List UInt8} (h:zfV s=true):Yt s≠0∧ZX s=false:=by
 simp only[zfV,Bool.or_eq_true,decide_eq_true_eq,Al0,Bool.not_eq_true'] at h
 rcases h with h|⟨h,h2⟩
 ·exact⟨by omega,by simp[ZX,h]⟩
 ·exact⟨by omega,h2⟩
theorem zhe {n:Int} (h:inR n):ZX (itoa n)=true∧zhH (itoa n)=n:=by
 have h1:=zhb n h.1 h.2
 exact⟨by simp[ZX,h1,okI,zeQ],by simp[zhH,h1]⟩
theorem zde {k:Nat} {c:UInt8} {t:List UInt8} (h0:bk c=false) (h1:c≠123) (h2:c≠91):∃ p,zdX k (c::t)=zbz (c::t) p:=by
 cases k with
 | zero=>exact⟨zsN,by simp only[zdX,zaf h0];rw[if_neg (by simp[h1,h2])]⟩
 | succ n=>exact⟨zdX n,by simp only[zdX,zaf h0]⟩
theorem zpa {v:Val} (h:zaL v=true):∃ c t,Yl v=c::t∧bk c=false∧c≠93∧c≠125∧c≠44:=by
 cases zqG v h with
 | null=>exact⟨110,[117,108,108],by simp[Yl],by decide,by decide,by decide,by decide⟩
 | bool n h1 =>
  rcases h1 with rfl|rfl
  ·exact⟨102,[97,108,115,101],by simp[Yl,boolT],by decide,by decide,by decide,by decide⟩
  ·exact⟨116,[114,117,101],by simp[Yl,boolT],by decide,by decide,by decide,by decide⟩
 | int n =>
  obtain⟨c,t,h1,h2⟩:=(zbB (s:=itoa n) (by rw[zeQ];decide)).2
  have h3:=zbm c h2
  refine⟨c,t,by simpa[Yl] using h1,h3.1,h3.2.2.2.2.1,h3.2.2.2.2.2.1,fun e=>?_⟩
  subst e;revert h2;decide
 | num s hb =>
  obtain⟨c,t,h1,h2⟩:=(zbB (zmP hb).1).2
  have h3:=zbm c h2
  refine⟨c,t,by simpa[Yl] using h1,h3.1,h3.2.2.2.2.1,h3.2.2.2.2.2.1,fun e=>?_⟩
  subst e;revert h2;decide
 | text s hb=>exact⟨34,s.flatMap qB++[34],by simp[Yl,zb5],by decide,by decide,by decide,by decide⟩
 | list l h1 h2=>exact⟨91,Yh true l++[93],by simp[Yl],by decide,by decide,by decide,by decide⟩
 | obj m h1 h2=>exact⟨123,Yi true m++[125],by simp[Yl],by decide,by decide,by decide,by decide⟩
theorem zf5 {x c:UInt8} {t:List UInt8} (h:bk c=false) (hx:x≠c):zdw [x] (c::t)=none:=by
 unfold zdw;rw[zaf h,if_neg (by simp[List.isPrefixOf,hx])]
theorem zcs {c:UInt8} {t:List UInt8} (h:bk c=false):zdw [c] (c::t)=some t:=by
 unfold zdw;rw[zaf h,if_pos (by simp[List.isPrefixOf])];rfl
theorem zfd {c:UInt8} {t:List UInt8} (h:bk c=false):zfK [c] (c::t)=.ok ((),t):=by
 unfold zfK;rw[zcs h]
theorem zcx (n:Int):∀(l:List Val) (a:Int),(y1 l a≤n↔a≤n∧∀ v∈l,zM v≤n)
 | [],a=>by simp[y1]
 | v::l,a=>by
  rw[y1,zcx n l]
  have:mm2 true a (zM v)≤n↔a≤n∧zM v≤n:=by simp only[mm2,if_true];split<;>omega
  rw[this];simp[and_assoc]
theorem zfA (n:Int):∀(l:List Mem) (a:Int),(yX l a≤n↔a≤n∧∀ v∈l,yU v≤n)
 | [],a=>by simp[yX]
 | v::l,a=>by
  rw[yX,zfA n l]
  have:mm2 true a (yU v)≤n↔a≤n∧yU v≤n:=by simp only[mm2,if_true];split<;>omega
  rw[this];simp[and_assoc]
theorem zab {c:UInt8} {t:List UInt8} (h:nch c=false):NoN (c::t):=fun x hx=>by
 cases hx;exact h
theorem zlB (s:List UInt8):∀ l:List Mem,zrj s l=(l.map nmM).contains s
 | []=>rfl
 | .mk t v::l=>by
  rw[zrj,zlB s l]
  by_cases h:t=s
  ·simp[h,nmM]
  ·simp[h,nmM,Ne.symm h]
def zh4 (n:Nat) (v:Val):Prop:=∀ r,NoN r→zdX n (Yl v++r)=if zM v≤n then .ok (v,r) else .error 4
theorem zgJ (n:Nat):∀(l acc:List Val) (fuel:Nat) (r:List UInt8),(∀ v∈l,zh4 n v)→(Yh false l).length<fuel →
  zgR (zdX n) fuel acc (Yh false l++93::r)=if (∀ v∈l,zM v≤n) then .ok (acc++l,r) else .error 4
 | _,_,0,_,_,h=>by omega
 | [],acc,fuel+1,r,_,_=>by
  simp only[Yh,Zy,zgR,zcs (show bk 93=false by decide)]
  simp
 | v::l,acc,fuel+1,r,hv,hf=>by
  have hf':(Yh false l).length<fuel:=by
   simp only[Yh,Al7,if_false,Al5,Al2,Al3] at hf;omega
  have e:Yh false (v::l)++93::r=44::(Yl v++(Yh false l++93::r)):=by simp[Yh]
  have hN:NoN (Yh false l++93::r):=by
   cases l with
   | nil=>exact zab (by decide)
   | cons w l=>exact zab (by decide)
  rw[e,zgR,zf5 (show bk 44=false by decide) (by decide)]
  simp only[zfd (show bk 44=false by decide),RR.bind,hv v (.head _) _ hN]
  by_cases hd:zM v≤n
  ·rw[if_pos hd]
   simp only
   rw[zgJ n l (acc++[v]) fuel r (fun x hx=>hv x (.tail _ hx)) hf']
   simp[hd]
  ·rw[if_neg hd]
   rw[if_neg (fun h=>hd (h v (.head _)))]
theorem zob (n:Nat) (l:List Val) (r:List UInt8) (hv:∀ v∈l,zh4 n v) (hh:∀ v∈l,zaL v=true) :
  znw (zdX n) (Yh true l++93::r)=if (∀ v∈l,zM v≤n) then .ok (.mk 6 0 [] l [],r) else .error 4:=by
 cases l with
 | nil=>simp only[Yh,Zy,znw,zcs (show bk 93=false by decide)];simp
 | cons v l =>
  have e:Yh true (v::l)++93::r=Yl v++(Yh false l++93::r):=by simp[Yh]
  have hN:NoN (Yh false l++93::r):=by
   cases l with
   | nil=>exact zab (by decide)
   | cons w l=>exact zab (by decide)
  obtain⟨c,t,h1,h2,h3,h4⟩:=zpa (hh v (.head _))
  have hm:zdw [93] (Yl v++(Yh false l++93::r))=none:=by rw[h1];exact zf5 h2 (Ne.symm h3)
  rw[e,znw,hm]
  simp only[RR.bind,hv v (.head _) _ hN]
  by_cases hd:zM v≤n
  ·rw[if_pos hd]
   simp only
   rw[zgJ n l [v] _ r (fun x hx=>hv x (.tail _ hx)) (by simp only[Al5,Al2];omega)]
   by_cases ha:∀ v∈l,zM v≤n
   ·rw[if_pos ha,if_pos (fun x hx=>by rcases List.mem_cons.1 hx with e|e;exact e▸hd;exact ha x e)]
    rfl
   ·rw[if_neg ha,if_neg (fun h=>ha fun x hx=>h x (.tail _ hx))]
  ·rw[if_neg hd]
   rw[if_neg (fun h=>hd (h v (.head _)))]
theorem zfQ {n:Nat} {s:List UInt8} {v:Val} {acc:List Mem} {r:List UInt8} (hv:zh4 n v) (hr:NoN r) (hs:(acc.map nmM).contains s=false) :
  zgj (zdX n) acc (zlJ (.mk s v)++r)=if zM v≤n then .ok (acc++[.mk s v],r) else .error 4:=by
 have e:zlJ (.mk s v)++r=zb5 s++(58::(Yl v++r)):=by simp[zlJ]
 rw[e,zgj,znb]
 simp only[RR.bind]
 rw[zlB,hs]
 simp only[Al7,if_false,zfd (show bk 58=false by decide),hv r hr]
 by_cases hd:zM v≤n
 ·rw[if_pos hd,if_pos hd]
 ·rw[if_neg hd,if_neg hd]
theorem zec (n:Nat):∀(l acc:List Mem) (fuel:Nat) (r:List UInt8),(∀ s v,Mem.mk s v∈l→zh4 n v)→zbK (acc.map nmM) l=true→(Yi false l).length<fuel →
  zcK (zdX n) fuel acc (Yi false l++125::r)=if (∀ x∈l,yU x≤n) then .ok (acc++l,r) else .error 4
 | _,_,0,_,_,_,h=>by omega
 | [],acc,fuel+1,r,_,_,_=>by
  simp only[Yi,Zy,zcK,zcs (show bk 125=false by decide)]
  simp
 | .mk s v::l,acc,fuel+1,r,hv,hs,hf=>by
  have hf':(Yi false l).length<fuel:=by
   simp only[Yi,Al7,if_false,Al5,Al2,Al3] at hf;omega
  have e:Yi false (.mk s v::l)++125::r=44::(zlJ (.mk s v)++(Yi false l++125::r)):=by simp[Yi]
  have hN:NoN (Yi false l++125::r):=by
   cases l with
   | nil=>exact zab (by decide)
   | cons w l=>exact zab (by decide)
  simp only[zbK,nmM,Al0,Bool.not_eq_true'] at hs
  obtain⟨hs1,_,hs2⟩:=hs
  rw[e,zcK,zf5 (show bk 44=false by decide) (by decide)]
  simp only[zfd (show bk 44=false by decide),RR.bind,zfQ (hv s v (.head _)) hN hs1]
  by_cases hd:zM v≤n
  ·rw[if_pos hd]
   simp only
   rw[zec n l (acc++[Mem.mk s v]) fuel r (fun s v hx=>hv s v (.tail _ hx)) (by simpa[nmM] using hs2) hf']
   simp[hd,yU]
  ·rw[if_neg hd]
   rw[if_neg (fun h=>hd (by have:=h _ (.head _);simpa[yU] using this))]
theorem zqW (n:Nat) (l:List Mem) (r:List UInt8) (hv:∀ s v,Mem.mk s v∈l→zh4 n v) (hs:zbK [] l=true) :
  mapM (zdX n) (Yi true l++125::r)=if (∀ x∈l,yU x≤n) then .ok (.mk 7 0 [] [] l,r) else .error 4:=by
 cases l with
 | nil=>simp only[Yi,Zy,mapM,zcs (show bk 125=false by decide)];simp
 | cons x l =>
  obtain⟨s,v⟩:=x
  have e:Yi true (.mk s v::l)++125::r=zlJ (.mk s v)++(Yi false l++125::r):=by simp[Yi]
  have hN:NoN (Yi false l++125::r):=by
   cases l with
   | nil=>exact zab (by decide)
   | cons w l=>exact zab (by decide)
  simp only[zbK,nmM,Al0,Bool.not_eq_true',Zy] at hs
  obtain⟨hs1,_,hs2⟩:=hs
  have hm:zdw [125] (zlJ (.mk s v)++(Yi false l++125::r))=none:=zf5 (c:=34) (by decide) (by decide)
  rw[e,mapM,hm]
  simp only[RR.bind,zfQ (acc:=[]) (hv s v (.head _)) hN rfl]
  by_cases hd:zM v≤n
  ·rw[if_pos hd]
   simp only
   rw[zec n l ([]++[Mem.mk s v]) _ r (fun s v hx=>hv s v (.tail _ hx)) (by simpa[nmM] using hs2) (by simp only[Al5,Al2];omega)]
   by_cases ha:∀ v∈l,yU v≤n
   ·rw[if_pos ha,if_pos (fun x hx=>by rcases List.mem_cons.1 hx with e|e;rw[e];exact hd;exact ha x e)]
    rfl
   ·rw[if_neg ha,if_neg (fun h=>ha fun x hx=>h x (.tail _ hx))]
  ·rw[if_neg hd]
   rw[if_neg (fun h=>hd (by have:=h _ (.head _);simpa[yU] using this))]
theorem zft:∀ {l:List Val},za5 validD l=true→zd2 l=true→∀ v∈l,zaL v=true
 | v::l,h,h',x,hx=>by
  simp only[za5,zd2,Al0] at h h'
  rcases List.mem_cons.1 hx with e|e
  ·subst e;simp[zaL,zk0,h.1,h'.1]
  ·exact zft h.2 h'.2 x e
theorem zgu:∀ {l:List Mem} {ns:List (List UInt8)},zcd validD l=true→zbK ns l=true→∀ s v,Mem.mk s v∈l→validD s=true∧zaL v=true
 | .mk t w::l,ns,h,h',s,v,hx=>by
  simp only[zcd,zpd,zbK,zsH,nmM,Al0] at h h'
  rcases List.mem_cons.1 hx with e|e
  ·cases e;exact⟨h.1.1,by simp[zaL,zk0,h.1.2,h'.2.1]⟩
  ·exact zgu h.2 h'.2.2 s v e
theorem znZ (r:List UInt8) (p):zbz (110::117::108::108::r) p=.ok (zsx,r):=by
 simp only[zbz]
 rw[if_neg (by decide),if_neg (by decide),if_neg (by decide),if_neg (by decide)]
 simp only[zkE,zdw,zaf (show bk 110=false by decide)]
 rw[if_pos (by simp[List.isPrefixOf])];rfl
theorem zoI (b:Bool) (r:List UInt8) (p):zbz (boolT b++r) p=.ok (.mk 1 (if b then 1 else 0) [] [] [],r):=by
 cases b
 ·simp only[boolT,Al7,if_false,Al6,Zy,zbz]
  rw[if_neg (by decide),if_neg (by decide),if_neg (by decide),if_neg (by decide)]
  simp only[zkE,zfK,zdw,zaf (show bk 102=false by decide)]
  rw[if_neg (by simp[List.isPrefixOf]),if_neg (by simp[List.isPrefixOf]),if_pos (by simp[List.isPrefixOf])];rfl
 ·simp only[boolT,if_true,Al6,Zy,zbz]
  rw[if_neg (by decide),if_neg (by decide),if_neg (by decide),if_neg (by decide)]
  simp only[zkE,zfK,zdw,zaf (show bk 116=false by decide)]
  rw[if_neg (by simp[List.isPrefixOf]),if_pos (by simp[List.isPrefixOf])];rfl
theorem zia {c:UInt8} {t:List UInt8} (h:nst c=true) (p):zbz (c::t) p=zr1 (c::t):=by
 have h3:=zbm c h
 simp only[zbz]
 rw[if_neg h3.2.1,if_neg h3.2.2.1,if_neg h3.2.2.2.1,if_pos h]
theorem back:∀ v,zaL v=true→wfV v→∀ n,zh4 n v:=by
 refine Val.ind fun k n s l m ihl ihm h hwf q r hr=>?_
 obtain⟨hn,hwl,hwm⟩:=hwf
 have flat:∀ {v:Val},zM v=0→zM v≤(q:Int):=fun e=>by rw[e];omega
 generalize hv:Val.mk k n s l m=v at h
 cases zqG v h with
 | null =>
  rw[if_pos (flat (by simp[zM]))]
  have e:Yl (.mk 0 0 [] [] [])++r=110::117::108::108::r:=by simp[Yl]
  rw[e]
  obtain⟨p,hp⟩:=zde (k:=q) (c:=110) (t:=117::108::108::r) (by decide) (by decide) (by decide)
  rw[hp,znZ];rfl
 | bool b hb =>
  rw[if_pos (flat (by simp[zM]))]
  have e:Yl (.mk 1 b [] [] [])++r=boolT (decide (b=1))++r:=by simp[Yl]
  rw[e]
  have h1:=zoI (decide (b=1)) r
  have e1:(if decide (b=1)=true then (1:Int) else 0)=b:=by rcases hb with rfl|rfl<;>decide
  rw[e1] at h1
  rcases hb with rfl|rfl
  ·obtain⟨p,hp⟩:=zde (k:=q) (c:=102) (t:=97::108::115::101::r) (by decide) (by decide) (by decide)
   exact hp.trans (h1 p)
  ·obtain⟨p,hp⟩:=zde (k:=q) (c:=116) (t:=114::117::101::r) (by decide) (by decide) (by decide)
   exact hp.trans (h1 p)
 | int b =>
  rw[if_pos (flat (by simp[zM]))]
  have e:Yl (.mk 2 b [] [] [])++r=itoa b++r:=by simp[Yl]
  rw[e]
  have hb:inR b:=by cases hv;exact hn
  have h0:Yt (itoa b)≠0:=by rw[zeQ];decide
  have h1:=zpS h0 hr
  obtain⟨c,t,h2,h3⟩:=(zbB h0).2
  have h4:=zbm c h3
  rw[h2] at h1 ⊢
  obtain⟨p,hp⟩:=zde (k:=q) (c:=c) (t:=t++r) h4.1 h4.2.1 h4.2.2.1
  rw[Al6] at h1 ⊢
  rw[hp,zia h3,h1,← h2]
  simp[zdx,zhe hb]
 | num s hs =>
  rw[if_pos (flat (by simp[zM]))]
  have e:Yl (.mk 3 0 s [] [])++r=s++r:=by simp[Yl]
  rw[e]
  have h0:=zmP hs
  have h1:=zpS h0.1 hr
  obtain⟨c,t,h2,h3⟩:=(zbB h0.1).2
  have h4:=zbm c h3
  have e2:zdx s=.mk 3 0 s [] []:=by simp[zdx,h0.2]
  rw[e2] at h1
  subst h2
  obtain⟨p,hp⟩:=zde (k:=q) (c:=c) (t:=t++r) h4.1 h4.2.1 h4.2.2.1
  rw[Al6] at h1 ⊢
  rw[hp,zia h3,h1]
 | text s hs =>
  rw[if_pos (flat (by simp[zM]))]
  have e:Yl (.mk 4 0 s [] [])++r=zb5 s++r:=by simp[Yl]
  rw[e]
  have h1:=znb s r
  have e2:zb5 s++r=34::(s.flatMap qB++[34]++r):=by simp[zb5]
  rw[e2] at h1 ⊢
  obtain⟨p,hp⟩:=zde (k:=q) (c:=34) (t:=s.flatMap qB++[34]++r) (by decide) (by decide) (by decide)
  rw[hp]
  simp only[zbz]
  rw[if_neg (by decide),if_neg (by decide),if_pos trivial,h1];rfl
 | list l' h1 h2 =>
  cases hv
  have e:Yl (.mk 6 0 [] l [])++r=91::(Yh true l++93::r):=by simp[Yl]
  have ed:zM (.mk 6 0 [] l [])=y1 l 0+1:=by simp[zM]
  rw[e,ed]
  have h3:=zft h1 h2
  have h4:=(zcx 0 l 0)
  cases q with
  | zero =>
   have h5:(0:Int)≤y1 l 0:=(zbH l 0).1
   rw[if_neg (by simp;omega)]
   simp only[zdX,zaf (show bk 91=false by decide)]
   rw[if_pos (by simp)]
  | succ q =>
   simp only[zdX,zaf (show bk 91=false by decide),zbz]
   rw[if_neg (by decide),if_pos trivial,zob q l r (fun v hx=>ihl v hx (h3 v hx) (zek hwl v hx) q) h3]
   have h5:=zcx (q:Int) l 0
   by_cases ha:∀ v∈l,zM v≤(q:Int)
   ·rw[if_pos ha,if_pos (by have:=h5.2 ⟨by omega,ha⟩;simp;omega)]
   ·rw[if_neg ha,if_neg (fun h6=>ha (h5.1 (by simp at h6;omega)).2)]
 | obj l' h1 h2 =>
  cases hv
  have e:Yl (.mk 7 0 [] [] m)++r=123::(Yi true m++125::r):=by simp[Yl]
  have ed:zM (.mk 7 0 [] [] m)=yX m 0+1:=by simp[zM]
  rw[e,ed]
  have h3:=zgu h1 h2
  cases q with
  | zero =>
   have h5:(0:Int)≤yX m 0:=(zb1 m 0).1
   rw[if_neg (by simp;omega)]
   simp only[zdX,zaf (show bk 123=false by decide)]
   rw[if_pos (by simp)]
  | succ q =>
   simp only[zdX,zaf (show bk 123=false by decide),zbz]
   rw[if_pos trivial,zqW q m r (fun s v hx=>ihm s v hx (h3 s v hx).2 (zbE hwm s v hx) q) h2]
   have h5:=zfA (q:Int) m 0
   by_cases ha:∀ v∈m,yU v≤(q:Int)
   ·rw[if_pos ha,if_pos (by have:=h5.2 ⟨by omega,ha⟩;simp;omega)]
   ·rw[if_neg ha,if_neg (fun h6=>ha (h5.1 (by simp at h6;omega)).2)]
end Go.Proofs.YticbbfbpeimkbaaGreatDoor
namespace Go.Proofs.YticbbfbpeimkbaaGreatDoor
open Go.Ab
theorem Z5 (x:Tok) (t:TS):hdT (x::t)=x:=rfl
theorem Y0 (m:List UInt8) (x:Tok) (t:TS):isP m (x::t)=(decide (x.k=1)&&decide (x.s=m)):=rfl
theorem zp4 (m:List UInt8) (x:Tok) (t:TS):isW m (x::t)=(decide (x.k=2)&&decide (x.s=m)):=rfl
theorem yw (m n:List UInt8) (t:TS):isP m (pk n::t)=decide (n=m):=by simp[Y0,pk]
theorem zbI (m n:List UInt8) (t:TS):isP m (wk n::t)=false:=by simp[Y0,wk]
theorem zfb (m n:List UInt8) (t:TS):isW m (wk n::t)=decide (n=m):=by simp[zp4,wk]
theorem zcZ (m:List UInt8) (t:TS):Z4 m (pk m::t)=.ok ((),t):=by simp[Z4,yw]
theorem Zj (s:List UInt8) (t:TS):y0 (wk s::t)=.ok (s,t):=by simp[y0,Z5,wk]
theorem zbS {α:Type} {tk:α→List Tok} {m:List UInt8} {f:TS→PR α} {F:TS→Prop} (hF2:∀ t,F (pk m::t)):∀(l:List α),(∀ x∈l,∀ t,F (tk x++t))→(∀ x∈l,∀ t,isP m (tk x++t)=false)→(∀ x∈l,∀ t,F t→f (tk x++t)=.ok (x,t)) →
  ∀(n:Nat) (acc:List α) (t:TS),l.length<n→yC m f n acc (l.flatMap tk++pk m::t)=.ok (acc++l,t)
 | [],_,_,_,n+1,acc,t,_=>by simp[yC,yw]
 | x::l,h1,h2,h3,n+1,acc,t,hn=>by
  have e:(x::l).flatMap tk++pk m::t=tk x++(l.flatMap tk++pk m::t):=by simp
  have hF:F (l.flatMap tk++pk m::t):=by
   cases l with
   | nil=>exact hF2 t
   | cons y l=>simp only[List.flatMap_cons,Z6];exact h1 y (by simp) _
  rw[e,yC,h2 x (by simp),h3 x (by simp) _ hF]
  simp only[Al7,if_false,pb]
  rw[zbS hF2 l (fun y hy=>h1 y (by simp[hy])) (fun y hy=>h2 y (by simp[hy])) (fun y hy=>h3 y (by simp[hy])) n _ t (by simpa using hn)]
  simp
theorem YM {α:Type} {tk:α→List Tok}:∀(l:List α),(∀ x∈l,tk x≠[])→l.length≤(l.flatMap tk).length
 | [],_=>by simp
 | x::l,h=>by
  have h1:=List.length_pos_iff.2 (h x (by simp))
  have h2:=YM l fun y hy=>h y (by simp[hy])
  simp only[List.flatMap_cons,Al5,Al2];omega
theorem zcD {α:Type} {tk:α→List Tok} {m:List UInt8} {f:TS→PR α} {F:TS→Prop} (hF2:∀ t,F (pk m::t)) (l:List α) (hl:l≠[]) (h1:∀ x∈l,∀ t,F (tk x++t)) (h2:∀ x∈l,∀ t,isP m (tk x++t)=false) (h3:∀ x∈l,∀ t,F t→f (tk x++t)=.ok (x,t))
  (t:TS):zaU m f (l.flatMap tk++pk m::t)=.ok (l,t):=by
 cases l with
 | nil=>exact absurd rfl hl
 | cons x l =>
  have e:(x::l).flatMap tk++pk m::t=tk x++(l.flatMap tk++pk m::t):=by simp
  have hF:F (l.flatMap tk++pk m::t):=by
   cases l with
   | nil=>exact hF2 t
   | cons y l=>simp only[List.flatMap_cons,Z6];exact h1 y (by simp) _
  have hne:∀ y∈l,tk y≠[]:=fun y hy h=>by have:=h2 y (by simp[hy]) (pk m::t);rw[h] at this;simp[yw] at this
  have:=YM l hne
  rw[e,zaU,h3 x (by simp) _ hF]
  simp only[pb]
  rw[zbS hF2 l (fun y hy=>h1 y (by simp[hy])) (fun y hy=>h2 y (by simp[hy])) (fun y hy=>h3 y (by simp[hy])) _ _ t (by simp only[Al5];omega)]
  simp
theorem zfC {α:Type} {tk:α→List Tok} {m:List UInt8} {f:TS→PR α} {F:TS→Prop} (hF1:∀ t,F (pk m::t)):∀(l:List α),(∀ x∈l,∀ t,F t→f (tk x++t)=.ok (x,t)) →
  ∀(n:Nat) (acc:List α) (t:TS),F t→isP m t=false→l.length<n→YP m f n acc (l.flatMap (fun x=>pk m::tk x)++t)=.ok (acc++l,t)
 | [],_,n+1,acc,t,_,ht,_=>by simp[YP,ht]
 | x::l,h3,n+1,acc,t,hFt,ht,hn=>by
  have e:(x::l).flatMap (fun x=>pk m::tk x)++t=pk m::(tk x++(l.flatMap (fun x=>pk m::tk x)++t)):=by simp
  have hF:F (l.flatMap (fun x=>pk m::tk x)++t):=by
   cases l with
   | nil=>exact hFt
   | cons y l=>simp only[List.flatMap_cons,Al6];exact hF1 _
  rw[e,YP,yw]
  simp only[decide_true,if_true,List.tail_cons]
  rw[h3 x (by simp) _ hF]
  simp only[pb]
  rw[zfC hF1 l (fun y hy=>h3 y (by simp[hy])) n _ t hFt ht (by simpa using hn)]
  simp
theorem zih (n:Nat) (m:Int) (i:Nat):zdV (n+1) m (i+1)=zdV n (m / 2) i:=by
 have e:zcE m (i+1)=zcE (m / 2) i:=by
  unfold zcE
  rw[Int.pow_succ,Int.mul_comm,← Int.ediv_ediv_of_nonneg (by decide)]
 unfold zdV
 rw[e]
 simp
theorem zit (n:Nat) (m:Int):∀ i,zcW (n+1) m (i+1)=zcW n (m / 2) i++zdV (n+1) m 0
 | 0=>by rw[zcW,zcW,zcW,zih]
 | i+1=>by rw[zcW,zit n m i,zih];simp[zcW]
theorem zlx (s:List UInt8):∀(n k:Nat) (m:Int) (t:TS),n≤k→0≤m→m<2 ^ (n+1)→isP [33] t=false→zcj k (List.replicate n (pk [91])++(wk s::zcW n m n)++t)=.ok (⟨s,n,m⟩,t)
 | 0,k,m,t,_,h0,h1,ht=>by
  have hm:m=0∨m=1:=by omega
  rw[zau,zf2.eq_def]
  rcases hm with rfl|rfl
  ·simp[zbI,Zj,pb,zcW,zdV,zcE,zcM,ht]
  ·simp[zbI,Zj,pb,zcW,zdV,zcE,zcM,yw]
 | n+1,0,_,_,h,_,_,_=>by omega
 | n+1,k+1,m,t,hk,h0,h1,ht=>by
  have e:List.replicate (n+1) (pk [91])++(wk s::zcW (n+1) m (n+1))++t=pk [91]::(List.replicate n (pk [91])++(wk s::zcW n (m / 2) n)++(zdV (n+1) m 0++t)):=by
   rw[zit];simp[List.replicate_succ]
  have e2:zdV (n+1) m 0++t=pk [93]::((if zcE m 0 then [pk [33]] else [])++t):=by simp[zdV]
  rw[e,zau,zf2.eq_def,yw,zjT]
  simp only[decide_true,if_true,List.tail_cons]
  rw[zlx s n k (m / 2) _ (by omega) (by omega) (by rw[Int.pow_succ] at h1;omega) (by rw[e2,yw];decide),e2]
  simp only[pb,zcZ]
  unfold zcM
  have hb:zcE m 0=decide (m % 2=1):=by simp[zcE]
  rw[hb]
  by_cases h2:m % 2=1
  ·simp[h2,yw];omega
  ·simp[h2,ht];omega
theorem zgp:∀ l,YH l=l.flatMap yG
 | []=>rfl
 | v::r=>by rw[YH,zgp r];rfl
theorem zeb:∀ l,ZA l=l.flatMap zca
 | []=>rfl
 | v::r=>by rw[ZA,zeb r];rfl
theorem zdh {may:List UInt8→Bool}:∀ {l:List Val},za5 may l=true→∀ v∈l,zci may v=true
 | _::_,h,v,hv=>by
  simp only[za5,Al0] at h
  exact(List.mem_cons.1 hv).elim (fun e=>e▸h.1) (zdh h.2 v)
theorem zhY {may:List UInt8→Bool}:∀ {l:List Mem},zcd may l=true→∀ v∈l,zpd may v=true
 | _::_,h,v,hv=>by
  simp only[zcd,Al0] at h
  exact(List.mem_cons.1 hv).elim (fun e=>e▸h.1) (zhY h.2 v)
theorem zcY:∀ {l:List Val} {n:Int},n≤y1 l n∧∀ v∈l,zM v≤y1 l n
 | [],n=>⟨Int.le_refl _,fun v hv=>by cases hv⟩
 | x::l,n=>by
  have h1:=zcY (l:=l) (n:=mm2 true n (zM x))
  have h2:=zjL n (zM x)
  have h3:zM x≤mm2 true n (zM x):=by simp only[mm2,if_true];split<;>omega
  simp only[y1]
  refine⟨by omega,fun v hv=>?_⟩
  rcases List.mem_cons.1 hv with rfl|h
  ·omega
  ·exact h1.2 v h
theorem zc0:∀ {l:List Mem} {n:Int},n≤yX l n∧∀ v∈l,yU v≤yX l n
 | [],n=>⟨Int.le_refl _,fun v hv=>by cases hv⟩
 | x::l,n=>by
  have h1:=zc0 (l:=l) (n:=mm2 true n (yU x))
  have h2:=zjL n (yU x)
  have h3:yU x≤mm2 true n (yU x):=by simp only[mm2,if_true];split<;>omega
  simp only[yX]
  refine⟨by omega,fun v hv=>?_⟩
  rcases List.mem_cons.1 hv with rfl|h
  ·omega
  ·exact h1.2 v h
mutual
theorem zdK:∀ v acc,acc.length≤(yM v acc).length∧(yM v acc=acc∨acc.length<(yM v acc).length)
 | .mk k n s l m,acc=>by
  have h1:=zc5 l acc
  have h2:=zck m acc
  simp only[yM]
  split
  ·split
   ·exact⟨Al4 _,.inl rfl⟩
   ·simp
  ·split
   ·exact h1
   ·split
    ·exact h2
    ·exact⟨Al4 _,.inl rfl⟩
theorem zc5:∀ l acc,acc.length≤(ZZ l acc).length∧(ZZ l acc=acc∨acc.length<(ZZ l acc).length)
 | [],acc=>⟨Al4 _,.inl rfl⟩
 | v::r,acc=>by
  have h1:=zdK v acc
  have h2:=zc5 r (yM v acc)
  simp only[ZZ]
  refine⟨by omega,?_⟩
  rcases h1.2 with e|h
  ·rw[e] at h2 ⊢;exact h2.2
  ·exact .inr (by omega)
theorem zgz:∀ x acc,acc.length≤(za4 x acc).length∧(za4 x acc=acc∨acc.length<(za4 x acc).length)
 | .mk s v,acc=>by simpa only[za4] using zdK v acc
theorem zck:∀ l acc,acc.length≤(Z1 l acc).length∧(Z1 l acc=acc∨acc.length<(Z1 l acc).length)
 | [],acc=>⟨Al4 _,.inl rfl⟩
 | v::r,acc=>by
  have h1:=zgz v acc
  have h2:=zck r (za4 v acc)
  simp only[Z1]
  refine⟨by omega,?_⟩
  rcases h1.2 with e|h
  ·rw[e] at h2 ⊢;exact h2.2
  ·exact .inr (by omega)
end
theorem zgt:∀ {l:List Val},ZZ l []=[]→∀ v∈l,yM v []=[]
 | x::l,h,v,hv=>by
  simp only[ZZ] at h
  have h1:=zdK x []
  have h2:=zc5 l (yM x [])
  rw[h] at h2
  have e:yM x []=[]:=by
   rcases h1.2 with e|e
   ·exact e
   ·simp at h2 e;omega
  rcases List.mem_cons.1 hv with rfl|hm
  ·exact e
  ·rw[e] at h;exact zgt h v hm
theorem zgK:∀ {l:List Mem},Z1 l []=[]→∀ v∈l,za4 v []=[]
 | x::l,h,v,hv=>by
  simp only[Z1] at h
  have h1:=zgz x []
  have h2:=zck l (za4 x [])
  rw[h] at h2
  have e:za4 x []=[]:=by
   rcases h1.2 with e|e
   ·exact e
   ·simp at h2 e;omega
  rcases List.mem_cons.1 hv with rfl|hm
  ·exact e
  ·rw[e] at h;exact zgK h v hm
theorem zlq (v:Val) (h:pl v) (t:TS):isP [93] (yG v++t)=false:=by
 obtain⟨x,r,e,h1,_⟩:=zo7 v h
 rw[e,Al6,Y0]
 cases hx:decide (x.k=1)&&decide (x.s=[93]) with
 | false=>rfl
 | true =>
  simp only[Al0,decide_eq_true_eq] at hx
  exact absurd (by cases x;simp_all) h1
theorem zfs {f:TS→PR Val} {s:List UInt8} {v:Val} (hf:∀ t,f (yG v++t)=.ok (v,t)) (t:TS):yL f (zca (.mk s v)++t)=.ok (.mk s v,t):=by
 have e:zca (.mk s v)++t=wk s::pk [58]::(yG v++t):=by simp[zca,wk,pk]
 rw[e,yL,Zj]
 simp only[pb,zcZ,hf]
theorem zpj (fixed:Bool):∀ v,pl v→wfV v→∀(k:Nat) (t:TS),zM v≤k→(fixed=true→yM v []=[])→Zo fixed k (yG v++t)=.ok (v,t):=by
 refine Val.ind fun k n s l m ihl ihm hp hw d t hd hv=>?_
 cases shape _ hp with
 | null=>rw[zqI,yT,zax.eq_def];simp[Z5,zbe,zV]
 | bool n h =>
  rw[zpk,yT,zax.eq_def]
  rcases h with rfl|rfl<;>simp[Z5,zbe,boolT]
 | int n =>
  have h:=zhe hw.1
  rw[zs2,yT,zax.eq_def];simp[Z5,zdx,h.1,h.2]
 | num s h =>
  have h1:=(zij h).1
  have h2:ZX s=false:=by
   simp only[zfV,Bool.or_eq_true,decide_eq_true_eq,Al0,Bool.not_eq_true'] at h
   rcases h with h|h
   ·simp[ZX,h]
   ·exact h.2
  have h3:¬ (Yt s=2):=by omega
  have h4:Yt s=3∨Yt s=4:=by omega
  rw[zsD,yT,zax.eq_def];simp[Z5,zdx,h2,h3,h4]
 | text s=>rw[t_text,yT,zax.eq_def];simp[Z5]
 | word s h =>
  rw[zpX,yT,zax.eq_def]
  have h1:s≠[110,117,108,108]∧s≠[116,114,117,101]∧s≠[102,97,108,115,101]:=by
   simp only[zmm,Bool.or_eq_false_iff,decide_eq_false_iff_not] at h
   exact⟨h.2.2,h.1,h.2.1⟩
  simp[Z5,zbe,h1.1,h1.2.1,h1.2.2]
 | var s =>
  cases fixed with
  | true=>have:=hv rfl;simp[yM,zkP] at this
  | false =>
   rw[zsw,yT,zax.eq_def]
   have e:=zcZ [36] (⟨2,s⟩::t)
   have e2:=Zj s t
   simp only[pk,wk] at e e2
   simp[Z5,Y0,e,e2,pb]
 | list l h =>
  have hd':y1 l 0+1≤d:=by simpa[zM] using hd
  have h0:=(zcY (l:=l) (n:=0)).1
  obtain⟨d,rfl⟩:∃ e,d=e+1:=⟨d-1,by omega⟩
  have hv':fixed=true→ZZ l []=[]:=fun e=>by simpa[yM] using hv e
  rw[zqt,yT,zax.eq_def]
  have hm:=zbS (tk:=yG) (m:=[93]) (f:=Zo fixed d) (F:=fun _=>True) (fun _=>trivial) l (fun _ _ _=>trivial) (fun x hx t=>zlq x (zdh h x hx) t)
   (fun x hx t _=>ihl x hx (zdh h x hx) (zek hw.2.1 x hx) d t (by have:=(zcY (l:=l) (n:=0)).2 x hx;omega) fun e=>zgt (hv' e) x hx)
  have e2:yC [93] (Zo fixed d) ((YH l).length+(t.length+1)+1) [] (YH l++⟨1,[93]⟩::t)=.ok (l,t):=by
   have e4:=YM (tk:=yG) l fun x hx e=>by have:=zlq x (zdh h x hx) (pk [93]::[]);rw[e] at this;simp[yw] at this
   rw[zgp]
   have e5:=hm ((l.flatMap yG).length+(t.length+1)+1) [] t (by omega)
   rw[Zy] at e5
   exact e5
  simp[Z5,Y0,e2,pb,zlC]
 | obj m h =>
  have hd':yX m 0+1≤d:=by simpa[zM] using hd
  have h0:=(zc0 (l:=m) (n:=0)).1
  obtain⟨d,rfl⟩:∃ e,d=e+1:=⟨d-1,by omega⟩
  have hv':fixed=true→Z1 m []=[]:=fun e=>by simpa[yM] using hv e
  have hst:∀(x:Mem) (t:TS),isP [125] (zca x++t)=false:=fun x t=>by cases x;simp[zca,Y0]
  rw[zsU,yT,zax.eq_def]
  have hm:=zbS (tk:=zca) (m:=[125]) (f:=yL (Zo fixed d)) (F:=fun _=>True) (fun _=>trivial) m (fun _ _ _=>trivial) (fun x hx t=>hst x t)
   (fun x hx t _=>by
    obtain⟨s,v⟩:=x
    have h1:=zhY h _ hx
    simp only[zpd,Al0] at h1
    exact zfs (fun t=>ihm s v hx h1.2 (zbE hw.2.2 s v hx) d t (by have:=(zc0 (l:=m) (n:=0)).2 _ hx;simp only[yU] at this;omega) fun e=>by simpa[za4] using zgK (hv' e) _ hx) t)
  have e2:yC [125] (yL (Zo fixed d)) ((ZA m).length+(t.length+1)+1) [] (ZA m++⟨1,[125]⟩::t)=.ok (m,t):=by
   have e4:=YM (tk:=zca) m fun x hx e=>by have:=hst x (pk [125]::[]);rw[e] at this;simp[yw] at this
   rw[zeb]
   have e5:=hm ((m.flatMap zca).length+(t.length+1)+1) [] t (by omega)
   rw[Zy] at e5
   exact e5
  simp[Z5,Y0,e2,pb,zlC]
def zav (i:Nat) (m:Int) (t:TS):Int×TS:=if isP [33] t then (m+2 ^ i,t.tail) else (m,t)
def zd9 (n i:Nat) (t:TS):PR Unit:=if i<n then Z4 [93] t else .ok ((),t)
def tyL (n:Nat):Nat→Int→TS→PR Int
 | 0,m,t=>pb (zd9 n 0 t) fun _ t=>.ok (zav 0 m t)
 | i+1,m,t=>pb (zd9 n (i+1) t) fun _ t=>tyL n i (zav (i+1) m t).1 (zav (i+1) m t).2
theorem zqL (n i:Nat) (t:TS):zd9 (n+1) (i+1) t=zd9 n i t:=by
 unfold zd9
 by_cases h:i<n
 ·rw[if_pos h,if_pos (by omega)]
 ·rw[if_neg h,if_neg (by omega)]
theorem zqK (i:Nat) (m:Int) (t:TS):zav (i+1) (m*2) t=((zav i m t).1*2,(zav i m t).2):=by
 unfold zav
 split
 ·simp only[Al8,and_true];rw[Int.pow_succ];omega
 ·rfl
theorem zsW (n:Nat):∀(i:Nat) (m:Int) (t:TS),tyL (n+1) (i+1) (m*2) t=pb (tyL n i m t) fun m t=>pb (Z4 [93] t) fun _ t=>.ok (zav 0 (m*2) t)
 | 0,m,t=>by
  have e:∀(m:Int) (t:TS),tyL (n+1) 0 m t=pb (Z4 [93] t) fun _ t=>.ok (zav 0 m t):=fun m t=>by rw[tyL,zd9,if_pos (Nat.succ_pos n)]
  have e1:tyL (n+1) (0+1) (m*2) t=pb (zd9 n 0 t) fun _ t=>tyL (n+1) 0 (zav (0+1) (m*2) t).1 (zav (0+1) (m*2) t).2:=by conv=>lhs;rw[tyL,zqL]
  have e2:tyL n 0 m t=pb (zd9 n 0 t) fun _ t=>.ok (zav 0 m t):=by rw[tyL]
  rw[e1,e2]
  rcases zd9 n 0 t with x|⟨_,t1⟩
  ·rfl
  ·simp only[zE]
   rw[zqK,e]
   rfl
 | i+1,m,t=>by
  have e1:tyL (n+1) (i+1+1) (m*2) t=pb (zd9 n (i+1) t) fun _ t=>tyL (n+1) (i+1) (zav (i+1+1) (m*2) t).1 (zav (i+1+1) (m*2) t).2:=by conv=>lhs;rw[tyL,zqL]
  have e2:tyL n (i+1) m t=pb (zd9 n (i+1) t) fun _ t=>tyL n i (zav (i+1) m t).1 (zav (i+1) m t).2:=by rw[tyL]
  rw[e1,e2]
  rcases zd9 n (i+1) t with x|⟨_,t1⟩
  ·rfl
  ·simp only[zE]
   rw[zqK,zsW n i]
theorem ziW:∀(n k:Nat) (u:TS),n≤k→isP [91] u=false→zcj k (List.replicate n (pk [91])++u)=pb (y0 u) fun s t=>pb (tyL n n 0 t) fun m t=>.ok (⟨s,n,m⟩,t)
 | 0,k,u,_,hu=>by
  rw[List.replicate_zero,Zy,zau,zf2.eq_def,hu]
  simp only[Al7,if_false]
  rcases y0 u with x|⟨s,t⟩
  ·rfl
  ·simp only[zE,tyL,zd9,Nat.lt_irrefl,if_false]
   unfold zcM zav
   cases isP [33] t<;>simp[pb]
 | n+1,0,u,h,_=>by omega
 | n+1,k+1,u,h,hu=>by
  rw[List.replicate_succ,Al6,zau,zf2.eq_def,yw,zjT]
  simp only[decide_true,if_true,List.tail_cons]
  rw[ziW n k u (by omega) hu]
  rcases y0 u with x|⟨s,t⟩
  ·rfl
  ·simp only[zE]
   have e:=zsW n n 0 t
   rw[Int.zero_mul] at e
   rw[e]
   rcases tyL n n 0 t with x|⟨m,t1⟩
   ·rfl
   ·simp only[zE]
    rcases Z4 [93] t1 with x|⟨_,t2⟩
    ·rfl
    ·simp only[zE]
     unfold zcM zav
     cases isP [33] t2<;>simp[pb]
def tyN (n:Nat):Nat→Int→TS→PR Int
 | 0,m,t=>.ok (m,t)
 | i+1,m,t=>tyL n i m t
theorem ztu (n i:Nat) (m:Int) (t:TS):tyL n i m t=pb (zd9 n i t) fun _ t=>tyN n i (zav i m t).1 (zav i m t).2:=by cases i<;>rfl
theorem ziM:∀(k:Nat) (u:TS),isP [91] u=true→zcj k (List.replicate k (pk [91])++u)=.error 4
 | 0,u,hu=>by rw[List.replicate_zero,Zy,zau,zf2.eq_def,hu];rfl
 | k+1,u,hu=>by
  rw[List.replicate_succ,Al6,zau,zf2.eq_def,yw,zjT]
  simp only[decide_true,if_true,List.tail_cons]
  rw[ziM k u hu];rfl
theorem zuc {m:List UInt8} {t:TS} (h:isP m t=true):t=pk m::t.tail:=by
 have h2:=YX (zgq h)
 simp only[isP,Al0,decide_eq_true_eq] at h
 rw[h2]
 congr 1
 cases hx:hdT t with|mk k s=>rw[hx] at h;simp only at h;rw[h.1,h.2];rfl
theorem zoX (n:Nat) (x:Tok) (u:TS):List.replicate n x++x::u=List.replicate (n+1) x++u:=by
 rw[List.replicate_succ',Z6];rfl
theorem zu0:∀ i:Fin 5,∀ m:Fin 32,m.val % 2 ^ (i.val+1)=0→IntKind.wrap .i64 ((BitVec.ofInt IntKind.i64.bits ((m.val:Nat):Int) ||| BitVec.ofInt IntKind.i64.bits (((2 ^ i.val:Nat)):Int)).toNat:Int)=((m.val+2 ^ i.val:Nat):Int):=by decide +kernel
theorem zvn:∀ i:Fin 5,IntKind.wrap .i64 (1*2 ^ min i.val IntKind.i64.bits)=((2 ^ i.val:Nat):Int):=by decide +kernel
theorem zsn:∀ i:Fin 5,∀ m:Fin 32,m.val % 2 ^ (i.val+1)=0→m.val+2 ^ i.val<32∧(m.val+2 ^ i.val) % 2 ^ i.val=0:=by decide +kernel
abbrev zT:List AV:=[.str [],.int .i64 0,.int .i64 0]
theorem ztM {H:za} {r:Nat} {L p t:TS} {dp:Nat} (hs:p++t=L) (hl:wT L≤yN) (hr:H r=some (prc L p dp)) :
  zj Tryz.prog 100 [.ptr r 0] H (RpE H r L dp (zcj 4 t) (fun x=>.agg (cTy x))):=by
 refine ZG (zj.goO (R:=fun v H'=>zdJ H r L dp (zcj 4 t) (fun x=>.agg (cTy x)) v.strip H') (RP:=fun v H'=>zeG (zcj 4 t) v H') ir100 ck100 (Al4 _) fun KP Q hQ hP=>?_)
 have hll:L.length≤yN:=Nat.le_trans (zaO L) hl
 have hll2:=hll
 simp only[yN] at hll2
 have pan:∀(v:AV) (H1:za) (n:Int),v=Ze n→zcj 4 t=.error n→KP v H1:=fun v H1 n h1 h2=>hP v H1 H1 (Low.refl _) ⟨n,h2,h1⟩
 have fin:=KI.done hQ
 have K0:=KI.start hs hr
 simp(disch:=first|omega|assumption) only[ir100,steps,st2,pev,rev,oev,zY,ya,yk,yi,bound,zF,mm2,mk,zr,AV.cells,AV.boxable,AV.one,AV.strip1,zG,zD,Nat.reduceEqDiff,reduceCtorEq,↓reduceIte,Nat.reduceAdd,Int.reduceNeg,Nat.reduceLeDiff,Int.reduceToNat,Int.reduceEq,Int.reduceLT,Int.reduceLE,Int.reduceAdd,Io,Im,If,Il,Jt,Jf,AC.rg,Jm,Jl,Ja,Fm,Fl,Fa,Imv,Imb,Iai,Iei,Igi,Isi,Ipf,Ipt,Ilb,Iia,Ilt,Iap,Ink,Iln,Ils,Iad,Iex,Ibx,Ing]
 refine zl fun b2 hb2=>?_
 have n2:=K0.ne hb2
 have n2s:=Ne.symm n2
 have K1:=K0.box (x:=.cells zT) hb2
 simp(disch:=first|omega|assumption) only[steps,st2,pev,rev,oev,zY,ya,yk,yi,bound,zF,mm2,mk,zr,AV.cells,AV.boxable,AV.one,AV.strip1,zG,zD,Nat.reduceEqDiff,reduceCtorEq,↓reduceIte,Nat.reduceAdd,Int.reduceNeg,Nat.reduceLeDiff,Int.reduceToNat,Int.reduceEq,Int.reduceLT,Int.reduceLE,Int.reduceAdd]
 refine yB (fun x:Nat×TS=>[(3,.int .i64 (x.1:Int))]) (fun x H'=>KI H r L x.2 dp H'∧H' b2=some (.cells zT)∧x.1≤4∧t=List.replicate x.1 (pk [91])++x.2) (fun x=>x.2.length) (0,t) (by simp(disch:=first|omega|assumption) only[steps,st2,pev,rev,oev,zY,ya,yk,yi,bound,zF,mm2,mk,zr,AV.cells,AV.boxable,AV.one,AV.strip1,zG,zD,Nat.reduceEqDiff,reduceCtorEq,↓reduceIte,Nat.reduceAdd,Int.reduceNeg,Nat.reduceLeDiff,Int.reduceToNat,Int.reduceEq,Int.reduceLT,Int.reduceLE,Int.reduceAdd]) ⟨K1,upd_same ..,Nat.zero_le _,rfl⟩ ?_
 rintro⟨n,u⟩ H1 J ⟨K2,g2,hn4,htu⟩ hJ
 simp only at K2 g2 hn4 htu
 obtain⟨p2,hp2,hr2⟩:=K2.here
 have hpl2:p2.length+u.length=L.length:=by rw[← hp2];simp
 have hr2':=hr2
 simp only[prc] at hr2'
 simp(disch:=first|omega|assumption) only[steps,st2,pev,rev,oev,zY,ya,yk,yi,bound,zF,mm2,mk,zr,AV.cells,AV.boxable,AV.one,AV.strip1,zG,zD,Nat.reduceEqDiff,reduceCtorEq,↓reduceIte,Nat.reduceAdd,Int.reduceNeg,Nat.reduceLeDiff,Int.reduceToNat,Int.reduceEq,Int.reduceLT,Int.reduceLE,Int.reduceAdd]
 refine zI (zoj hp2 hr2 [91]) fun v H2 ⟨hv2,hH⟩=>?_
 subst hv2;subst hH
 cases hi:isP [91] u with
 | true =>
  by_cases h4:n=4
  ·have h4':((n:Int)=4)=True:=eq_true (by omega)
   simp(disch:=first|omega|assumption) only[h4',steps,st2,pev,rev,oev,zY,ya,yk,yi,bound,zF,mm2,mk,zr,AV.cells,AV.boxable,AV.one,AV.strip1,zG,zD,Nat.reduceEqDiff,reduceCtorEq,↓reduceIte,Nat.reduceAdd,Int.reduceNeg,Nat.reduceLeDiff,Int.reduceToNat,Int.reduceEq,Int.reduceLT,Int.reduceLE,Int.reduceAdd]
   exact zp (zdB _ r 4) (fun _ _ h=>h.elim) fun v H3 h=>pan v H3 4 h (by rw[htu,h4];exact ziM 4 u hi)
  ·have h4':¬ ((n:Int)=4):=by omega
   have hlt:=zjo hi
   simp(disch:=first|omega|assumption) only[h4',hr2',wrap64,steps,st2,pev,rev,oev,zY,ya,yk,yi,bound,zF,mm2,mk,zr,AV.cells,AV.boxable,AV.one,AV.strip1,zG,zD,Nat.reduceEqDiff,reduceCtorEq,↓reduceIte,Nat.reduceAdd,Int.reduceNeg,Nat.reduceLeDiff,Int.reduceToNat,Int.reduceEq,Int.reduceLT,Int.reduceLE,Int.reduceAdd]
   refine goJ (hJ (n+1,u.tail) _ hlt ⟨K2.call (zbg hp2 (zgq hi) _),by rw[upd_ne n2s];exact g2,by simp only;omega,?_⟩) (by simp(disch:=first|omega|assumption) only[Int.natCast_add,steps,st2,pev,rev,oev,zY,ya,yk,yi,bound,zF,mm2,mk,zr,AV.cells,AV.boxable,AV.one,AV.strip1,zG,zD,Nat.reduceEqDiff,reduceCtorEq,↓reduceIte,Nat.reduceAdd,Int.reduceNeg,Nat.reduceLeDiff,Int.reduceToNat,Int.reduceEq,Int.reduceLT,Int.reduceLE,Int.reduceAdd])
   simp only
   rw[← zoX,← zuc hi];exact htu
 | false =>
  have hx:zcj 4 t=pb (y0 u) fun s t=>pb (tyL n n 0 t) fun m t=>.ok (⟨s,n,m⟩,t):=by rw[htu];exact ziW n 4 u hn4 hi
  simp(disch:=first|omega|assumption) only[steps,st2,pev,rev,oev,zY,ya,yk,yi,bound,zF,mm2,mk,zr,AV.cells,AV.boxable,AV.one,AV.strip1,zG,zD,Nat.reduceEqDiff,reduceCtorEq,↓reduceIte,Nat.reduceAdd,Int.reduceNeg,Nat.reduceLeDiff,Int.reduceToNat,Int.reduceEq,Int.reduceLT,Int.reduceLE,Int.reduceAdd]
  refine zp (zah hp2 hll hr2) (fun v H3 ⟨s,t3,e3,hv3,ha3⟩=>?_) fun v H3 ⟨n3,e3,hv3⟩=>pan v H3 n3 hv3 (by rw[hx,e3];rfl)
  subst hv3
  rw[e3,zE] at hx
  have K3:=K2.call ha3
  have g32:H3 b2=some (.cells zT):=by rw[ha3.other n2s,g2]
  simp(disch:=first|omega|assumption) only[steps,st2,pev,rev,oev,zY,ya,yk,yi,bound,zF,mm2,mk,zr,AV.cells,AV.boxable,AV.one,AV.strip1,zG,zD,Nat.reduceEqDiff,reduceCtorEq,↓reduceIte,Nat.reduceAdd,Int.reduceNeg,Nat.reduceLeDiff,Int.reduceToNat,Int.reduceEq,Int.reduceLT,Int.reduceLE,Int.reduceAdd]
  refine zl fun b4 hb4=>?_
  have h42:b4≠b2:=fun e=>by subst e;rw[g32] at hb4;cases hb4
  have hb4H:H b4=none:=K3.none hb4
  have n4:=K0.ne hb4H
  have n4s:=Ne.symm n4
  have K4:=K3.box (x:=.cells [.str s,.int .i64 (n:Int),.int .i64 0]) hb4H
  obtain⟨R,hR⟩:∃ R,tyL n n 0 t3=R:=⟨_,rfl⟩
  rw[hR] at hx
  simp(disch:=first|omega|assumption) only[steps,st2,pev,rev,oev,zY,ya,yk,yi,bound,zF,mm2,mk,zr,AV.cells,AV.boxable,AV.one,AV.strip1,zG,zD,Nat.reduceEqDiff,reduceCtorEq,↓reduceIte,Nat.reduceAdd,Int.reduceNeg,Nat.reduceLeDiff,Int.reduceToNat,Int.reduceEq,Int.reduceLT,Int.reduceLE,Int.reduceAdd]
  have hj0:((n:Int):Int)=(((n+1:Nat):Int)-1):=by omega
  refine yB (fun x:Nat×Nat×TS=>[(5,.int .i64 ((x.1:Int)-1))]) (fun x H'=>KI H r L x.2.2 dp H'∧H' b2=some (.cells zT)∧H' b4=some (.cells [.str s,.int .i64 (n:Int),.int .i64 (x.2.1:Int)])∧x.1≤n+1∧x.2.1<32∧x.2.1 % 2 ^ x.1=0∧tyN n x.1 (x.2.1:Int) x.2.2=R) (fun x=>x.1) (n+1,0,t3) (by rw[← hj0];simp(disch:=first|omega|assumption) only[steps,st2,pev,rev,oev,zY,ya,yk,yi,bound,zF,mm2,mk,zr,AV.cells,AV.boxable,AV.one,AV.strip1,zG,zD,Nat.reduceEqDiff,reduceCtorEq,↓reduceIte,Nat.reduceAdd,Int.reduceNeg,Nat.reduceLeDiff,Int.reduceToNat,Int.reduceEq,Int.reduceLT,Int.reduceLE,Int.reduceAdd]) ⟨K4,by rw[upd_ne (Ne.symm h42)];exact g32,upd_same ..,Al4 _,by show 0<32;decide,Nat.zero_mod _,hR⟩ ?_
  rintro⟨j,m,u5⟩ H5 J5 ⟨K5,g52,g54,hj,hm,hmd,he⟩ hJ5
  simp only at K5 g52 g54 hj hm hmd he
  obtain⟨p5,hp5,hr5⟩:=K5.here
  cases j with
  | zero =>
   have hneg:¬ ((0:Int)≤-1):=by decide
   have hz1:(0:Int)-1=-1:=rfl
   have e1:R=.ok ((m:Int),u5):=he.symm
   simp only[zT] at g52
   simp(disch:=first|omega|assumption) only[hz1,hneg,g52,g54,h42,Ne.symm h42,steps,st2,pev,rev,oev,zY,ya,yk,yi,bound,zF,mm2,mk,zr,AV.cells,AV.boxable,AV.one,AV.strip1,zG,zD,Nat.reduceEqDiff,reduceCtorEq,↓reduceIte,Nat.reduceAdd,Int.reduceNeg,Nat.reduceLeDiff,Int.reduceToNat,Int.reduceEq,Int.reduceLT,Int.reduceLE,Int.reduceAdd]
   exact fin _ _ [.agg [.str s,.int .i64 (n:Int),.int .i64 (m:Int)]] ⟨s,n,m⟩ u5 (by simp(disch:=first|omega|assumption) only[ir100,zK,yK,steps,st2,pev,rev,oev,zY,ya,yk,yi,bound,zF,mm2,mk,zr,AV.cells,AV.boxable,AV.one,AV.strip1,zG,zD,Nat.reduceEqDiff,reduceCtorEq,↓reduceIte,Nat.reduceAdd,Int.reduceNeg,Nat.reduceLeDiff,Int.reduceToNat,Int.reduceEq,Int.reduceLT,Int.reduceLE,Int.reduceAdd,Io,Im,If,Il,Jt,Jf,AC.rg,Jm,Jl,Ja,Fm,Fl,Fa,Imv,Imb,Iai,Iei,Igi,Isi,Ipf,Ipt,Ilb,Iia,Ilt,Iap,Ink,Iln,Ils,Iad,Iex,Ibx,Ing]) (by rw[hx,e1];rfl) (K5.box hb2) (by simp[zc,AV.strip,AV.strip1,cTy])
  | succ i =>
   have hge:((0:Int)≤(((i+1:Nat):Int)-1))=True:=eq_true (by omega)
   have hi5:(((i+1:Nat):Int)-1)=(i:Int):=by omega
   have e1:tyL n i (m:Int) u5=R:=he
   rw[ztu,zd9] at e1
   by_cases hin:i<n
   ·have hin':((i:Int)<(n:Int))=True:=eq_true (by omega)
    rw[if_pos hin] at e1
    simp(disch:=first|omega|assumption) only[hge,hi5,hin',steps,st2,pev,rev,oev,zY,ya,yk,yi,bound,zF,mm2,mk,zr,AV.cells,AV.boxable,AV.one,AV.strip1,zG,zD,Nat.reduceEqDiff,reduceCtorEq,↓reduceIte,Nat.reduceAdd,Int.reduceNeg,Nat.reduceLeDiff,Int.reduceToNat,Int.reduceEq,Int.reduceLT,Int.reduceLE,Int.reduceAdd]
    refine zp (zhy hp5 hll hr5 [93]) (fun v H6 ⟨_,t6,e6,hv6,ha6⟩=>?_) fun v H6 ⟨n6,e6,hv6⟩=>pan v H6 n6 hv6 (by rw[hx,← e1,e6];rfl)
    subst hv6
    rw[e6,zE] at e1
    have K6:=K5.call ha6
    have g62:H6 b2=some (.cells zT):=by rw[ha6.other n2s,g52]
    have g64:H6 b4=some (.cells [.str s,.int .i64 (n:Int),.int .i64 (m:Int)]):=by rw[ha6.other n4s,g54]
    obtain⟨p6,hp6,hr6⟩:=K6.here
    simp(disch:=first|omega|assumption) only[steps,st2,pev,rev,oev,zY,ya,yk,yi,bound,zF,mm2,mk,zr,AV.cells,AV.boxable,AV.one,AV.strip1,zG,zD,Nat.reduceEqDiff,reduceCtorEq,↓reduceIte,Nat.reduceAdd,Int.reduceNeg,Nat.reduceLeDiff,Int.reduceToNat,Int.reduceEq,Int.reduceLT,Int.reduceLE,Int.reduceAdd]
    refine zI (zal hp6 hll hr6 [33]) fun v H7 ⟨hv7,ha7⟩=>?_
    subst hv7
    have g72:H7 b2=some (.cells zT):=by rw[ha7.other n2s,g62]
    have g74:H7 b4=some (.cells [.str s,.int .i64 (n:Int),.int .i64 (m:Int)]):=by rw[ha7.other n4s,g64]
    have K7:=K6.call ha7
    cases hb:isP [33] t6 with
    | true =>
     simp only[zav,hb,if_true] at e1
     rw[YL,hb,if_pos rfl] at K7
     have ho:=zu0 ⟨i,by omega⟩ ⟨m,hm⟩ hmd
     have hob:=zsn ⟨i,by omega⟩ ⟨m,hm⟩ hmd
     have hsh:=zvn ⟨i,by omega⟩
     simp only at ho hob hsh
     have hi0:¬ ((i:Int)<0):=by omega
     simp(disch:=first|omega|assumption) only[g74,hi0,hsh,ho,steps,st2,pev,rev,oev,zY,ya,yk,yi,bound,zF,mm2,mk,zr,AV.cells,AV.boxable,AV.one,AV.strip1,zG,zD,Nat.reduceEqDiff,reduceCtorEq,↓reduceIte,Nat.reduceAdd,Int.reduceNeg,Nat.reduceLeDiff,Int.reduceToNat,Int.reduceEq,Int.reduceLT,Int.reduceLE,Int.reduceAdd]
     refine goJ (hJ5 (i,m+2 ^ i,t6.tail) _ (Nat.lt_succ_self _) ⟨K7.box hb4H,by rw[upd_ne (Ne.symm h42)];exact g72,upd_same ..,by simp only;omega,hob.1,hob.2,by simp only;rw[← e1];simp⟩) (by simp(disch:=first|omega|assumption) only[wrap64,steps,st2,pev,rev,oev,zY,ya,yk,yi,bound,zF,mm2,mk,zr,AV.cells,AV.boxable,AV.one,AV.strip1,zG,zD,Nat.reduceEqDiff,reduceCtorEq,↓reduceIte,Nat.reduceAdd,Int.reduceNeg,Nat.reduceLeDiff,Int.reduceToNat,Int.reduceEq,Int.reduceLT,Int.reduceLE,Int.reduceAdd])
    | false =>
     simp only[zav,hb,Al7,if_false] at e1
     rw[YL,hb] at K7
     simp only[Al7,if_false] at K7
     have hmd2:m % 2 ^ i=0:=by
      have h3:2 ^ i∣2 ^ (i+1):=⟨2,by rw[Nat.pow_succ]⟩
      exact Nat.mod_eq_zero_of_dvd (Nat.dvd_trans h3 (Nat.dvd_of_mod_eq_zero hmd))
     simp(disch:=first|omega|assumption) only[steps,st2,pev,rev,oev,zY,ya,yk,yi,bound,zF,mm2,mk,zr,AV.cells,AV.boxable,AV.one,AV.strip1,zG,zD,Nat.reduceEqDiff,reduceCtorEq,↓reduceIte,Nat.reduceAdd,Int.reduceNeg,Nat.reduceLeDiff,Int.reduceToNat,Int.reduceEq,Int.reduceLT,Int.reduceLE,Int.reduceAdd]
     refine goJ (hJ5 (i,m,t6) _ (Nat.lt_succ_self _) ⟨K7,g72,g74,by simp only;omega,hm,hmd2,e1⟩) (by simp(disch:=first|omega|assumption) only[wrap64,steps,st2,pev,rev,oev,zY,ya,yk,yi,bound,zF,mm2,mk,zr,AV.cells,AV.boxable,AV.one,AV.strip1,zG,zD,Nat.reduceEqDiff,reduceCtorEq,↓reduceIte,Nat.reduceAdd,Int.reduceNeg,Nat.reduceLeDiff,Int.reduceToNat,Int.reduceEq,Int.reduceLT,Int.reduceLE,Int.reduceAdd])
   ·have hin':¬ ((i:Int)<(n:Int)):=by omega
    rw[if_neg hin,zE] at e1
    simp(disch:=first|omega|assumption) only[hge,hi5,hin',steps,st2,pev,rev,oev,zY,ya,yk,yi,bound,zF,mm2,mk,zr,AV.cells,AV.boxable,AV.one,AV.strip1,zG,zD,Nat.reduceEqDiff,reduceCtorEq,↓reduceIte,Nat.reduceAdd,Int.reduceNeg,Nat.reduceLeDiff,Int.reduceToNat,Int.reduceEq,Int.reduceLT,Int.reduceLE,Int.reduceAdd]
    refine zI (zal hp5 hll hr5 [33]) fun v H7 ⟨hv7,ha7⟩=>?_
    subst hv7
    have g72:H7 b2=some (.cells zT):=by rw[ha7.other n2s,g52]
    have g74:H7 b4=some (.cells [.str s,.int .i64 (n:Int),.int .i64 (m:Int)]):=by rw[ha7.other n4s,g54]
    have K7:=K5.call ha7
    cases hb:isP [33] u5 with
    | true =>
     simp only[zav,hb,if_true] at e1
     rw[YL,hb,if_pos rfl] at K7
     have ho:=zu0 ⟨i,by omega⟩ ⟨m,hm⟩ hmd
     have hob:=zsn ⟨i,by omega⟩ ⟨m,hm⟩ hmd
     have hsh:=zvn ⟨i,by omega⟩
     simp only at ho hob hsh
     have hi0:¬ ((i:Int)<0):=by omega
     simp(disch:=first|omega|assumption) only[g74,hi0,hsh,ho,steps,st2,pev,rev,oev,zY,ya,yk,yi,bound,zF,mm2,mk,zr,AV.cells,AV.boxable,AV.one,AV.strip1,zG,zD,Nat.reduceEqDiff,reduceCtorEq,↓reduceIte,Nat.reduceAdd,Int.reduceNeg,Nat.reduceLeDiff,Int.reduceToNat,Int.reduceEq,Int.reduceLT,Int.reduceLE,Int.reduceAdd]
     refine goJ (hJ5 (i,m+2 ^ i,u5.tail) _ (Nat.lt_succ_self _) ⟨K7.box hb4H,by rw[upd_ne (Ne.symm h42)];exact g72,upd_same ..,by simp only;omega,hob.1,hob.2,by simp only;rw[← e1];simp⟩) (by simp(disch:=first|omega|assumption) only[wrap64,steps,st2,pev,rev,oev,zY,ya,yk,yi,bound,zF,mm2,mk,zr,AV.cells,AV.boxable,AV.one,AV.strip1,zG,zD,Nat.reduceEqDiff,reduceCtorEq,↓reduceIte,Nat.reduceAdd,Int.reduceNeg,Nat.reduceLeDiff,Int.reduceToNat,Int.reduceEq,Int.reduceLT,Int.reduceLE,Int.reduceAdd])
    | false =>
     simp only[zav,hb,Al7,if_false] at e1
     rw[YL,hb] at K7
     simp only[Al7,if_false] at K7
     have hmd2:m % 2 ^ i=0:=by
      have h3:2 ^ i∣2 ^ (i+1):=⟨2,by rw[Nat.pow_succ]⟩
      exact Nat.mod_eq_zero_of_dvd (Nat.dvd_trans h3 (Nat.dvd_of_mod_eq_zero hmd))
     simp(disch:=first|omega|assumption) only[steps,st2,pev,rev,oev,zY,ya,yk,yi,bound,zF,mm2,mk,zr,AV.cells,AV.boxable,AV.one,AV.strip1,zG,zD,Nat.reduceEqDiff,reduceCtorEq,↓reduceIte,Nat.reduceAdd,Int.reduceNeg,Nat.reduceLeDiff,Int.reduceToNat,Int.reduceEq,Int.reduceLT,Int.reduceLE,Int.reduceAdd]
     refine goJ (hJ5 (i,m,u5) _ (Nat.lt_succ_self _) ⟨K7,g72,g74,by simp only;omega,hm,hmd2,e1⟩) (by simp(disch:=first|omega|assumption) only[wrap64,steps,st2,pev,rev,oev,zY,ya,yk,yi,bound,zF,mm2,mk,zr,AV.cells,AV.boxable,AV.one,AV.strip1,zG,zD,Nat.reduceEqDiff,reduceCtorEq,↓reduceIte,Nat.reduceAdd,Int.reduceNeg,Nat.reduceLeDiff,Int.reduceToNat,Int.reduceEq,Int.reduceLT,Int.reduceLE,Int.reduceAdd])
end Go.Proofs.YticbbfbpeimkbaaGreatDoor
