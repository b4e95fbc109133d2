import Derived.Lib.ValidLaws
import Derived.Test.YtaielcdfcgpbiaaGreatDoorM1
import Derived.Test.YtaielcdfcgpbiaaGreatDoorM2
import Derived.Test.YtaielcdfcgpbiaaGreatDoorM3
import Derived.Test.YtaielcdfcgpbiaaGreatDoorM4
set_option maxRecDepth 100000
set_option linter.all false
namespace Go.Proofs.YtaielcdfcgpbiaaGreatDoor
open Go.Ab
def zN (n:Int):AV:=.ifc 120 (.agg [.int .i64 n])
def prc (L p:TS) (dp:Nat):AObj:=.cells [.sl .no 2 (cKs L),.int .i64 (p.length:Int),.int .i64 (dp:Int)]
def Pat (H:Heap) (r:Nat) (L t:TS) (dp:Nat) (H':Heap):Prop:=∃ p,p++t=L∧H'=H.upd r (prc L p dp)
def Y7 {α:Type} (H:Heap) (r:Nat) (L:TS) (dp:Nat) (x:PR α) (f:α→AV) (v:AV) (H':Heap):Prop:=∃ a t',x=.ok (a,t')∧v=f a∧Pat H r L t' dp H'
def zaY {α:Type} (x:PR α) (v:AV) (_:Heap):Prop:=∃ n,x=.error n∧v=zN n
abbrev zp:Nat:=1000000
abbrev RpE {α:Type} (H:Heap) (r:Nat) (L:TS) (dp:Nat) (x:PR α) (f:α→AV):AEnd→Heap→Prop:=fun e H'=>match e with|.ret v=>Y7 H r L dp x f v H'|.pan v=>zaY x v H'
theorem Pat.again {H H1 H2:Heap} {r:Nat} {L t t':TS} {dp dp':Nat} (h:Pat H r L t dp H1) (h':Pat H1 r L t' dp' H2):Pat H r L t' dp' H2:=by
 obtain⟨p,_,rfl⟩:=h
 obtain⟨q,hq,rfl⟩:=h'
 exact⟨q,hq,upd_upd ..⟩
theorem Pat.at {H H1:Heap} {r:Nat} {L t:TS} {dp:Nat} (h:Pat H r L t dp H1):∃ p,p++t=L∧H1 r=some (prc L p dp):=by
 obtain⟨p,hp,rfl⟩:=h
 exact⟨p,hp,upd_same ..⟩
theorem Pat.self {H:Heap} {r:Nat} {L p t:TS} {dp:Nat} (hs:p++t=L) (hr:H r=some (prc L p dp)):Pat H r L t dp H :=
 ⟨p,hs,by funext c;by_cases e:c=r<;>simp[Heap.upd,e,hr]⟩
structure KI (H:Heap) (r:Nat) (L t:TS) (dp:Nat) (H1:Heap):Prop where
 keep:∀ c x,c≠r→H c=some x→H1 c=some x
 here:∃ p,p++t=L∧H1 r=some (prc L p dp)
 hr:∃ x,H r=some x
theorem KI.start {H:Heap} {r:Nat} {L p t:TS} {dp:Nat} (hs:p++t=L) (hr:H r=some (prc L p dp)):KI H r L t dp H:=⟨fun _ _ _ h=>h,⟨p,hs,hr⟩,⟨_,hr⟩⟩
theorem KI.call {H H1 H2:Heap} {r:Nat} {L t t':TS} {dp dp':Nat} (h:KI H r L t dp H1) (ha:Pat H1 r L t' dp' H2):KI H r L t' dp' H2:=by
 obtain⟨q,hq,rfl⟩:=ha
 exact⟨fun c x hc hx=>by rw[upd_ne hc];exact h.keep c x hc hx,⟨q,hq,upd_same ..⟩,h.hr⟩
theorem KI.ne {H H1:Heap} {r b:Nat} {L t:TS} {dp:Nat} (h:KI H r L t dp H1) (hb:H b=none):r≠b:=fun e=>by
 subst e;obtain⟨x,hx⟩:=h.hr;rw[hb] at hx;cases hx
theorem KI.none {H H1:Heap} {r b:Nat} {L t:TS} {dp:Nat} (h:KI H r L t dp H1) (hb:H1 b=.none):H b=.none:=by
 cases hx:H b with
 | none=>rfl
 | some x =>
  by_cases e:b=r
  ·subst e;obtain⟨p,_,h2⟩:=h.here;rw[hb] at h2;cases h2
  ·have:=h.keep b x e hx;rw[hb] at this;cases this
theorem KI.box {H H1:Heap} {r b:Nat} {L t:TS} {dp:Nat} {x:AObj} (h:KI H r L t dp H1) (hb:H b=.none):KI H r L t dp (H1.upd b x):=by
 obtain⟨p,hp,h2⟩:=h.here
 exact⟨fun c y hc hy=>by rw[upd_ne (fun e=>by subst e;rw[hb] at hy;cases hy)];exact h.keep c y hc hy,⟨p,hp,by rw[upd_ne (h.ne hb)];exact h2⟩,h.hr⟩
theorem KI.low {H H1:Heap} {r:Nat} {L t:TS} {dp:Nat} (h:KI H r L t dp H1):∃ H2,Low H2 H1∧Pat H r L t dp H2:=by
 obtain⟨p,hp,h1⟩:=h.here
 refine⟨_,Low.of_sub fun c x hc=>?_,p,hp,rfl⟩
 by_cases e:c=r
 ·subst e;rw[upd_same] at hc;rw[← hc];exact h1
 ·rw[upd_ne e] at hc;exact h.keep c x e hc
structure KO (H:Heap) (r:Nat) (L t:TS) (dp:Nat) (H1:Heap) (o:Own) (n sz:Nat):Prop extends KI H r L t dp H1 where
 own:Owned H1 o n sz
 tip:∀ b d,o=.tip b d→H b=.none
theorem KO.call {H H1 H2:Heap} {r:Nat} {L t t':TS} {dp dp':Nat} {o:Own} {n sz:Nat} (h:KO H r L t dp H1 o n sz) (ha:Pat H1 r L t' dp' H2):KO H r L t' dp' H2 o n sz:=by
 obtain⟨p,hp,h1⟩:=h.here
 refine⟨h.toKI.call ha,?_,h.tip⟩
 obtain⟨q,hq,rfl⟩:=ha
 exact yf h.own h1
theorem KO.box {H H1:Heap} {r b:Nat} {L t:TS} {dp:Nat} {o:Own} {n sz:Nat} {cs cs':List AV} (h:KO H r L t dp H1 o n sz) (hb:H b=.none) (h1:H1 b=some (.cells cs)):KO H r L t dp (H1.upd b (.cells cs')) o n sz :=
 ⟨h.toKI.box hb,yf h.own h1,h.tip⟩
theorem KO.app {H H1 H2:Heap} {r:Nat} {L t:TS} {dp:Nat} {o o':Own} {n n' sz:Nat} (h:KO H r L t dp H1 o n sz) (hs:OwnS H1 o H2 o' n' sz):KO H r L t dp H2 o' n' sz:=by
 obtain⟨p,hp,h1⟩:=h.here
 refine⟨⟨fun c x hc hx=>hs.kept c x (h.keep c x hc hx) fun d e=>?_,⟨p,hp,zR h.own h1 hs.kept⟩,h.hr⟩,hs.own,fun b d e=>?_⟩
 ·have:=h.tip c d e;rw[hx] at this;cases this
 ·rcases hs.new b d e with h2|⟨d0,e2⟩
  ·exact h.toKI.none h2
  ·exact h.tip b d0 e2
theorem KO.stay {H H1 H2:Heap} {r b:Nat} {L t:TS} {dp:Nat} {o o':Own} {n n' sz:Nat} {cs:List AV} (h:KO H r L t dp H1 o n sz) (hs:OwnS H1 o H2 o' n' sz) (hb:H1 b=some (.cells cs)):H2 b=some (.cells cs) :=
 zR h.own hb hs.kept
theorem KI.done {α:Type} {H:Heap} {r:Nat} {L:TS} {dp:Nat} {x:PR α} {f:α→AV} {Q:AExit→Env→Heap→Prop} {res:List ARes}
  (hQ:∀ e ρ H1 H2 vs,(∀ i,e≠.exit i)→resvs ρ H1 res=some vs→Low H2 H1→Y7 H r L dp x f (tupOf vs).strip H2→Q e ρ H1)
  (ρ1:Env) (H1:Heap) (vs:List AV) (a:α) (t':TS) (h1:resvs ρ1 H1 res=some vs) (h2:x=.ok (a,t')) (h3:KI H r L t' dp H1) (h4:(tupOf vs).strip=f a):Q .ret ρ1 H1:=by
 obtain⟨H2,hl,ha⟩:=h3.low
 exact hQ .ret ρ1 H1 H2 vs nofun h1 hl ⟨a,t',h2,h4,ha⟩
theorem yY:∀ L:TS,L.length≤wT L
 | []=>Al4 _
 | x::L=>by have:=yY L;rw[zc4];simp only[Al2,wK];omega
theorem zjN {p t L:TS} (h:p++t=L):(hdT t).s.length≤wT L:=by
 subst h
 cases t with
 | nil=>simp[hdT]
 | cons x t =>
  have:wT (p++x::t)=wT p+wT (x::t):=by simp[wT]
  rw[this,zc4];simp only[hdT,List.headD_cons,wK];omega
theorem Pat.other {H H1:Heap} {r c:Nat} {L t:TS} {dp:Nat} (h:Pat H r L t dp H1) (hc:c≠r):H1 c=H c:=by
 obtain⟨p,_,rfl⟩:=h
 exact upd_ne hc
theorem Y5 (H:Heap) (r:Nat) (n:Int):ACalls Tryz.prog 75 [.ptr r 0,.int .i64 n] H (fun e H'=>match e with|.ret v=>False|.pan v=>v=zN n):=by
 refine ACalls.goO (R:=fun _ _=>False) (RP:=fun v _=>v=zN n) ir75 ck75 (Al4 _) fun KP Q hQ hP=>?_
 simp(disch:=first|omega|assumption) only[ir75,go_sem]
 exact hP _ _ H (Low.refl _) rfl
section
variable {H:Heap} {r:Nat} {L p t:TS} {dp:Nat}
theorem zgB (hs:p++t=L) (hr:H r=some (prc L p dp)):ACalls Tryz.prog 43 [.ptr r 0] H (fun e H'=>∃ v,e=.ret v∧(v=.bool (decide (t≠[]))∧H'=H)):=by
 refine ACalls.go ir43 ck43 (Al4 _) fun KP Q hQ=>?_
 simp only[prc] at hr
 have hcl:=YX L
 have hlen:p.length+t.length=L.length:=by rw[← hs];simp
 simp(disch:=first|omega|assumption) only[ir43,hr,hcl,go_sem]
 cases t with
 | nil =>
  have h1:¬ ((p.length:Int)<(L.length:Int)):=by simp at hlen;omega
  simp(disch:=first|omega|assumption) only[h1,go_sem]
  exact hQ _ _ _ _ [_] nofun rfl (Low.refl _) ⟨(by simp[tupOf,envOf,AV.strip,AV.strip1]),rfl⟩
 | cons c u =>
  have h1:((p.length:Int)<(L.length:Int))=True:=eq_true (by simp at hlen;omega)
  simp(disch:=first|omega|assumption) only[h1,go_sem]
  exact hQ _ _ _ _ [_] nofun rfl (Low.refl _) ⟨(by simp[tupOf,envOf,AV.strip,AV.strip1]),rfl⟩
theorem zcP (hs:p++t=L) (hr:H r=some (prc L p dp)):ACalls Tryz.prog 76 [.ptr r 0] H (fun e H'=>∃ v,e=.ret v∧(v=zv (hdT t)∧H'=H)):=by
 refine ACalls.go ir76 ck76 (Al4 _) fun KP Q hQ=>?_
 have hcl:=YX L
 have hlen:p.length+t.length=L.length:=by rw[← hs];simp
 simp(disch:=first|omega|assumption) only[ir76,go_sem]
 refine goA_intro fun b hb=>?_
 have hbr:r≠b:=fun e=>by subst e;rw[hb] at hr;cases hr
 have hr2:(H.upd b (.cells [.int .i64 0,.str []])) r=some (prc L p dp):=by rw[upd_ne hbr];exact hr
 simp(disch:=first|omega|assumption) only[go_sem]
 refine goK_ret (zgB hs hr2) fun v H1 ⟨hv,hH⟩=>?_
 subst hv;subst hH
 have hlow:∀ x,Low H (H.upd b x):=fun x=>(Low.refl _).upd hb
 cases t with
 | nil =>
  simp(disch:=first|omega|assumption) only[go_sem]
  exact hQ _ _ _ H [.agg [.int .i64 0,.str []]] nofun (by simp(disch:=first|omega|assumption) only[ir76,resvs,resv,go_sem]) (hlow _) ⟨rfl,rfl⟩
 | cons c u =>
  simp only[prc] at hr2
  have h1:((p.length:Int)<(L.length:Int))=True:=eq_true (by simp at hlen;omega)
  have hg:(cKs L).getD p.length []=[.int .i64 c.k,.str c.s]:=by rw[← hs];simp[cKs,cK]
  simp(disch:=first|omega|assumption) only[hr2,hcl,h1,hg,go_sem]
  exact hQ _ _ _ H [.agg [.int .i64 c.k,.str c.s]] nofun (by simp(disch:=first|omega|assumption) only[ir76,resvs,resv,go_sem]) (hlow _) ⟨rfl,rfl⟩
theorem zfW (hs:p++t=L) (hr:H r=some (prc L p dp)) (m:List UInt8):ACalls Tryz.prog 97 [.ptr r 0,.str m] H (fun e H'=>∃ v,e=.ret v∧(v=.bool (isP m t)∧H'=H)):=by
 refine ACalls.go ir97 ck97 (Al4 _) fun KP Q hQ=>?_
 simp(disch:=first|omega|assumption) only[ir97,go_sem]
 refine goK_ret (zcP hs hr) fun v H1 ⟨hv,hH⟩=>?_
 subst hv;subst hH
 simp(disch:=first|omega|assumption) only[zv,fitsAll,K1.fits,keqs,AV.keq1,Bool.and_true,go_sem]
 exact hQ _ _ _ _ [_] nofun rfl (Low.refl _) ⟨by simp[tupOf,envOf,AV.strip,AV.strip1,isP],rfl⟩
theorem zia (hs:p++t=L) (hr:H r=some (prc L p dp)) (m:List UInt8):ACalls Tryz.prog 158 [.ptr r 0,.str m] H (fun e H'=>∃ v,e=.ret v∧(v=.bool (isW m t)∧H'=H)):=by
 refine ACalls.go ir158 ck158 (Al4 _) fun KP Q hQ=>?_
 simp(disch:=first|omega|assumption) only[ir158,go_sem]
 refine goK_ret (zcP hs hr) fun v H1 ⟨hv,hH⟩=>?_
 subst hv;subst hH
 simp(disch:=first|omega|assumption) only[zv,fitsAll,K1.fits,keqs,AV.keq1,Bool.and_true,go_sem]
 exact hQ _ _ _ _ [_] nofun rfl (Low.refl _) ⟨by simp[tupOf,envOf,AV.strip,AV.strip1,isW],rfl⟩
theorem zfD (hs:p++t=L) (hk:(hdT t).k≠0):(p++[hdT t])++t.tail=L:=by
 rw[zbw,List.singleton_append,← y9 hk];exact hs
theorem ZV (hs:p++t=L) (hk:(hdT t).k≠0) (H:Heap):Pat H r L t.tail dp (H.upd r (.cells [.sl .no 2 (cKs L),.int .i64 ((p.length:Int)+1),.int .i64 (dp:Int)])) :=
 ⟨p++[hdT t],zfD hs hk,by simp[prc]⟩
def y6 (m:List UInt8) (t:TS):TS:=if isP m t then t.tail else t
theorem Zk (hs:p++t=L) (hl:L.length≤zp) (hr:H r=some (prc L p dp)) (m:List UInt8):ACalls Tryz.prog 98 [.ptr r 0,.str m] H (fun e H'=>∃ v,e=.ret v∧(v=.bool (isP m t)∧Pat H r L (y6 m t) dp H')):=by
 refine ACalls.go ir98 ck98 (Al4 _) fun KP Q hQ=>?_
 simp only[zp] at hl
 have hlen:p.length+t.length=L.length:=by rw[← hs];simp
 simp(disch:=first|omega|assumption) only[ir98,go_sem]
 refine goK_ret (zfW hs hr m) fun v H1 ⟨hv,hH⟩=>?_
 subst hv;subst hH
 have hr':=hr
 simp only[prc] at hr'
 cases hi:isP m t with
 | true =>
  simp(disch:=first|omega|assumption) only[hr',wrap64,go_sem]
  refine hQ _ _ _ _ [_] nofun rfl (Low.refl _) ⟨(by simp[tupOf,envOf,AV.strip,AV.strip1,hi]),?_⟩
  simp only[y6,hi,if_true]
  exact ZV hs (zb9 hi) _
 | false =>
  simp(disch:=first|omega|assumption) only[go_sem]
  refine hQ _ _ _ _ [_] nofun rfl (Low.refl _) ⟨(by simp[tupOf,envOf,AV.strip,AV.strip1,hi]),?_⟩
  simp only[y6,hi,Al7,if_false]
  exact Pat.self hs hr
theorem zcU (hs:p++t=L) (hl:L.length≤zp) (hr:H r=some (prc L p dp)) (m:List UInt8):ACalls Tryz.prog 100 [.ptr r 0,.str m] H (fun e H'=>∃ v,e=.ret v∧(v=.bool (isW m t)∧Pat H r L (yT m t) dp H')):=by
 refine ACalls.go ir100 ck100 (Al4 _) fun KP Q hQ=>?_
 simp only[zp] at hl
 have hlen:p.length+t.length=L.length:=by rw[← hs];simp
 simp(disch:=first|omega|assumption) only[ir100,go_sem]
 refine goK_ret (zia hs hr m) fun v H1 ⟨hv,hH⟩=>?_
 subst hv;subst hH
 have hr':=hr
 simp only[prc] at hr'
 cases hi:isW m t with
 | true =>
  simp(disch:=first|omega|assumption) only[hr',wrap64,go_sem]
  refine hQ _ _ _ _ [_] nofun rfl (Low.refl _) ⟨(by simp[tupOf,envOf,AV.strip,AV.strip1,hi]),?_⟩
  simp only[yT,hi,if_true]
  exact ZV hs (YB hi) _
 | false =>
  simp(disch:=first|omega|assumption) only[go_sem]
  refine hQ _ _ _ _ [_] nofun rfl (Low.refl _) ⟨(by simp[tupOf,envOf,AV.strip,AV.strip1,hi]),?_⟩
  simp only[yT,hi,Al7,if_false]
  exact Pat.self hs hr
theorem zbM (hs:p++t=L) (hl:L.length≤zp) (hr:H r=some (prc L p dp)) (m:List UInt8):ACalls Tryz.prog 84 [.ptr r 0,.str m] H (RpE H r L dp (yA m t) fun _=>.tup []):=by
 refine ACalls.goO ir84 ck84 (Al4 _) fun KP Q hQ hP=>?_
 simp(disch:=first|omega|assumption) only[ir84,go_sem]
 refine goK_ret (Zk hs hl hr m) fun v H1 ⟨hv,hH⟩=>?_
 subst hv
 cases hi:isP m t with
 | true =>
  rw[y6,hi] at hH
  simp(disch:=first|omega|assumption) only[go_sem]
  exact hQ _ _ _ _ [] nofun rfl (Low.refl _) ⟨(),t.tail,by unfold yA;rw[hi];rfl,rfl,hH⟩
 | false =>
  simp(disch:=first|omega|assumption) only[go_sem]
  exact goK_both (Y5 H1 r 2) (fun _ _ h=>h.elim) fun v H2 h=>hP v H2 H2 (Low.refl _) ⟨2,by unfold yA;rw[hi];rfl,h⟩
theorem Zi (hs:p++t=L) (hl:L.length≤zp) (hr:H r=some (prc L p dp)):ACalls Tryz.prog 85 [.ptr r 0] H (RpE H r L dp (zL t) AV.str):=by
 refine ACalls.goO ir85 ck85 (Al4 _) fun KP Q hQ hP=>?_
 simp only[zp] at hl
 have hlen:p.length+t.length=L.length:=by rw[← hs];simp
 simp(disch:=first|omega|assumption) only[ir85,go_sem]
 refine goK_ret (zcP hs hr) fun v H1 ⟨hv,hH⟩=>?_
 subst hv;subst hH
 simp(disch:=first|omega|assumption) only[go_sem]
 refine goA_intro fun b hb=>?_
 have hbr:r≠b:=fun e=>by subst e;rw[hb] at hr;cases hr
 have hr':=hr
 simp only[prc] at hr'
 by_cases hk:(hdT t).k=2
 ·have hk':((hdT t).k=2)=True:=eq_true hk
  simp(disch:=first|omega|assumption) only[zv,hk',hr',hbr,Ne.symm hbr,wrap64,go_sem]
  refine hQ _ _ _ (H1.upd r (.cells [.sl .no 2 (cKs L),.int .i64 ((p.length:Int)+1),.int .i64 (dp:Int)])) [_] nofun rfl ?_ ⟨(hdT t).s,t.tail,by unfold zL;rw[if_pos hk],(by simp[tupOf,envOf,AV.strip,AV.strip1]),ZV hs (by rw[hk];decide) _⟩
  refine Low.of_sub fun c x hc=>?_
  by_cases e:c=r
  ·subst e;rw[upd_same] at hc ⊢;exact hc
  ·rw[upd_ne e] at hc ⊢
   rw[upd_ne (fun e2=>by subst e2;rw[hb] at hc;cases hc)];exact hc
 ·simp(disch:=first|omega|assumption) only[zv,hk,go_sem]
  exact goK_both (Y5 _ r 2) (fun _ _ h=>h.elim) fun v H2 h=>hP v H2 H2 (Low.refl _) ⟨2,by unfold zL;rw[if_neg hk],h⟩
theorem zdo (hs:p++t=L) (hl:L.length≤zp) (hd:dp≤16) (hr:H r=some (prc L p dp)) (m:List UInt8):ACalls Tryz.prog 81 [.ptr r 0,.str m] H
  (fun e H'=>match e with
   | .ret v=>v=.bool (isP m t)∧(isP m t=true→dp<16∧Pat H r L t.tail (dp+1) H')∧(isP m t=false→Pat H r L t dp H')
   | .pan v=>isP m t=true∧dp=16∧v=zN 4):=by
 refine ACalls.goO (R:=fun v H'=>v=.bool (isP m t)∧(isP m t=true→dp<16∧Pat H r L t.tail (dp+1) H')∧(isP m t=false→Pat H r L t dp H')) (RP:=fun v _=>isP m t=true∧dp=16∧v=zN 4) ir81 ck81 (Al4 _) fun KP Q hQ hP=>?_
 have hlen:p.length+t.length=L.length:=by rw[← hs];simp
 simp(disch:=first|omega|assumption) only[ir81,go_sem]
 refine goK_ret (zfW hs hr m) fun v H1 ⟨hv,hH⟩=>?_
 subst hv;subst hH
 have hr':=hr
 simp only[prc] at hr'
 cases hi:isP m t with
 | true =>
  by_cases h16:(16:Int)≤(dp:Int)
  ·simp(disch:=first|omega|assumption) only[hr',h16,go_sem]
   exact goK_both (Y5 _ r 4) (fun _ _ h=>h.elim) fun v H2 h=>hP v H2 H2 (Low.refl _) ⟨hi,by omega,h⟩
  ·simp(disch:=first|omega|assumption) only[hr',h16,go_sem]
   refine goK_ret (Zk hs hl hr m) fun v H2 ⟨hv,hH⟩=>?_
   subst hv
   rw[y6,hi] at hH
   obtain⟨q,hq,h2⟩:=hH.at
   simp only[prc] at h2
   rw[hi]
   simp(disch:=first|omega|assumption) only[h2,wrap64,go_sem]
   exact hQ _ _ _ _ [_] nofun rfl (Low.refl _) ⟨(by simp[tupOf,envOf,AV.strip,AV.strip1,hi]),fun _=>⟨by omega,hH.again ⟨q,hq,by simp[prc]⟩⟩,fun h=>(by rw[hi] at h;cases h)⟩
 | false =>
  simp(disch:=first|omega|assumption) only[go_sem]
  refine goK_ret (Zk hs hl hr m) fun v H2 ⟨hv,hH⟩=>?_
  subst hv
  rw[y6,hi] at hH
  rw[hi]
  simp(disch:=first|omega|assumption) only[go_sem]
  exact hQ _ _ _ _ [_] nofun rfl (Low.refl _) ⟨(by simp[tupOf,envOf,AV.strip,AV.strip1,hi]),fun h=>(by rw[hi] at h;cases h),fun _=>by simpa using hH⟩
theorem zdv (hs:p++t=L) (hl:L.length≤zp) (hd:1≤dp∧dp≤16) (hr:H r=some (prc L p dp)) (m:List UInt8):ACalls Tryz.prog 82 [.ptr r 0,.str m] H
  (fun e H'=>∃ v,e=.ret v∧(v=.bool (isP m t)∧(isP m t=true→Pat H r L t.tail (dp-1) H')∧(isP m t=false→Pat H r L t dp H'))):=by
 refine ACalls.go ir82 ck82 (Al4 _) fun KP Q hQ=>?_
 simp(disch:=first|omega|assumption) only[ir82,go_sem]
 refine goK_ret (Zk hs hl hr m) fun v H2 ⟨hv,hH⟩=>?_
 subst hv
 cases hi:isP m t with
 | true =>
  rw[y6,hi] at hH
  obtain⟨q,hq,h2⟩:=hH.at
  simp only[prc] at h2
  simp(disch:=first|omega|assumption) only[h2,wrap64,go_sem]
  refine hQ _ _ _ _ [_] nofun rfl (Low.refl _) ⟨(by simp[tupOf,envOf,AV.strip,AV.strip1,hi]),fun _=>hH.again ⟨q,hq,?_⟩,fun h=>(by rw[hi] at h;cases h)⟩
  have e:((dp-1:Nat):Int)=(dp:Int)-1:=by omega
  simp only[prc,e]
 | false =>
  rw[y6,hi] at hH
  simp(disch:=first|omega|assumption) only[go_sem]
  exact hQ _ _ _ _ [_] nofun rfl (Low.refl _) ⟨(by simp[tupOf,envOf,AV.strip,AV.strip1,hi]),fun h=>(by rw[hi] at h;cases h),fun _=>by simpa using hH⟩
end
theorem ziE (s:List UInt8):Pure Tryz.prog 77 [.str s] (.agg (cV (yE s))):=by
 refine Pure.go ir77 ck77 (Al4 _) fun KP Q hQ=>?_
 simp(disch:=first|omega|assumption) only[ir77,go_sem]
 refine goA_intro fun b hb=>?_
 by_cases h1:s=[110,117,108,108]
 ·have h1':(s=[110,117,108,108])=True:=eq_true h1
  simp(disch:=first|omega|assumption) only[h1',go_sem]
  exact hQ _ _ _ [.agg [.int .i64 0,.int .i64 0,.str [],.sl .nil 5 [],.sl .nil 6 []]] nofun (by simp(disch:=first|omega|assumption) only[ir77,resvs,resv,go_sem]) (by rw[yE,if_pos h1];rfl)
 by_cases h2:s=[116,114,117,101]
 ·have h2':(s=[116,114,117,101])=True:=eq_true h2
  simp(disch:=first|omega|assumption) only[h1,h2',go_sem]
  exact hQ _ _ _ [.agg [.int .i64 1,.int .i64 1,.str [],.sl .nil 5 [],.sl .nil 6 []]] nofun (by simp(disch:=first|omega|assumption) only[ir77,resvs,resv,go_sem]) (by rw[yE,if_neg h1,if_pos h2];rfl)
 by_cases h3:s=[102,97,108,115,101]
 ·have h3':(s=[102,97,108,115,101])=True:=eq_true h3
  simp(disch:=first|omega|assumption) only[h1,h2,h3',go_sem]
  exact hQ _ _ _ [.agg [.int .i64 1,.int .i64 0,.str [],.sl .nil 5 [],.sl .nil 6 []]] nofun (by simp(disch:=first|omega|assumption) only[ir77,resvs,resv,go_sem]) (by rw[yE,if_neg h1,if_neg h2,if_pos h3];rfl)
 simp(disch:=first|omega|assumption) only[h1,h2,h3,go_sem]
 exact hQ _ _ _ [.agg [.int .i64 5,.int .i64 0,.str s,.sl .nil 5 [],.sl .nil 6 []]] nofun (by simp(disch:=first|omega|assumption) only[ir77,resvs,resv,go_sem]) (by rw[yE,if_neg h1,if_neg h2,if_neg h3];rfl)
def zfl (fixed:Bool) (k:Nat):Prop:=∀(H:Heap) (r:Nat) (L p t:TS),p++t=L→wT L≤zp→H r=some (prc L p (16-k)) →
 ACalls Tryz.prog 33 [.ptr r 0,.bool fixed] H (RpE H r L (16-k) (yc fixed k t) fun v=>.agg (cV v))
theorem zbL {fixed:Bool} {k:Nat} (hv:zfl fixed k) {H:Heap} {r:Nat} {L p t:TS} (hs:p++t=L) (hl:wT L≤zp) (hr:H r=some (prc L p (16-k))) :
  ACalls Tryz.prog 83 [.ptr r 0,.bool fixed] H (RpE H r L (16-k) (zP (yc fixed k) t) fun m=>.agg (cM m)):=by
 refine yn (ACalls.goO (R:=fun v H'=>Y7 H r L (16-k) (zP (yc fixed k) t) (fun m=>.agg (cM m)) v.strip H') (RP:=fun v H'=>zaY (zP (yc fixed k) t) v H') ir83 ck83 (Al4 _) fun KP Q hQ hP=>?_)
 have hll:L.length≤zp:=Nat.le_trans (yY L) hl
 have pan:∀(v:AV) (H1:Heap) (n:Int),v=zN n→zP (yc fixed k) t=.error n→KP v H1:=fun v H1 n h1 h2=>hP v H1 H1 (Low.refl _) ⟨n,h2,h1⟩
 have fin:=KI.done hQ
 have K0:=KI.start hs hr
 simp(disch:=first|omega|assumption) only[ir83,go_sem]
 refine goA_intro fun b4 hb4=>?_
 have n4:=K0.ne hb4
 have K1:=K0.box (x:=.cells [.str [],.int .i64 0,.int .i64 0,.str [],.sl .nil 5 [],.sl .nil 6 []]) hb4
 simp(disch:=first|omega|assumption) only[go_sem]
 refine goK_both (Zi (dp:=16-k) hs hll (by rw[upd_ne n4];exact hr)) (fun v H1 ⟨nm,t1,e1,hv1,ha1⟩=>?_) fun v H1 ⟨n,e1,hv1⟩=>pan v H1 n hv1 (by rw[zP,e1];rfl)
 subst hv1
 have K2:=K1.call ha1
 obtain⟨p1,hp1,hr1⟩:=K2.here
 have g1:H1 b4=some (.cells [.str [],.int .i64 0,.int .i64 0,.str [],.sl .nil 5 [],.sl .nil 6 []]):=by rw[ha1.other (Ne.symm n4),upd_same]
 simp(disch:=first|omega|assumption) only[go_sem]
 refine goK_both (zbM (dp:=16-k) hp1 hll hr1 [58]) (fun v H2 ⟨_,t2,e2,hv2,ha2⟩=>?_) fun v H2 ⟨n,e2,hv2⟩=>pan v H2 n hv2 (by rw[zP,e1,zf,e2];rfl)
 subst hv2
 have K3:=K2.call ha2
 obtain⟨p2,hp2,hr2⟩:=K3.here
 have g2:H2 b4=some (.cells [.str [],.int .i64 0,.int .i64 0,.str [],.sl .nil 5 [],.sl .nil 6 []]):=by rw[ha2.other (Ne.symm n4),g1]
 simp(disch:=first|omega|assumption) only[go_sem]
 refine goK_both (hv _ r L p2 t2 hp2 hl hr2) (fun v H3 ⟨x,t3,e3,hv3,ha3⟩=>?_) fun v H3 ⟨n,e3,hv3⟩=>pan v H3 n hv3 (by rw[zP,e1,zf,e2,zf,e3];rfl)
 subst hv3
 have K4:=K3.call ha3
 have g3:H3 b4=some (.cells [.str [],.int .i64 0,.int .i64 0,.str [],.sl .nil 5 [],.sl .nil 6 []]):=by rw[ha3.other (Ne.symm n4),g2]
 simp(disch:=first|omega|assumption) only[zi,zd,zb,zj,ze,za,zq,g3,go_sem]
 refine fin _ _ [.agg (.str nm::cV x)] (.mk nm x) t3 (by simp(disch:=first|omega|assumption) only[zi,zd,zb,zj,ze,za,zq,ir83,resvs,resv,go_sem]) (by rw[zP,e1,zf,e2,zf,e3];rfl) (K4.box hb4) ?_
 simp[tupOf,AV.strip,AV.strip1,zq,yk]
abbrev zB:List AV:=[.int .i64 0,.int .i64 0,.str [],.sl .nil 5 [],.sl .nil 6 []]
theorem zeX (fixed:Bool) (k:Nat) (hk:k≤16) (ih:∀ n,k=n+1→zfl fixed n):zfl fixed k:=by
 intro H r L p t hs hl hr
 refine yn (ACalls.goO (R:=fun v H'=>Y7 H r L (16-k) (yc fixed k t) (fun v=>.agg (cV v)) v.strip H') (RP:=fun v H'=>zaY (yc fixed k t) v H') ir33 ck33 (Al4 _) fun KP Q hQ hP=>?_)
 have hll:L.length≤zp:=Nat.le_trans (yY L) hl
 have hsl:(hdT t).s.length≤zp:=Nat.le_trans (zjN hs) hl
 have hplen:p.length+t.length=L.length:=by rw[← hs];simp
 have pan:∀(v:AV) (H1:Heap) (n:Int),v=zN n→yc fixed k t=.error n→KP v H1:=fun v H1 n h1 h2=>hP v H1 H1 (Low.refl _) ⟨n,h2,h1⟩
 have fin:=KI.done hQ
 have K0:=KI.start hs hr
 simp(disch:=first|omega|assumption) only[ir33,go_sem]
 refine goA_intro fun b4 hb4=>?_
 have n4:=K0.ne hb4
 simp(disch:=first|omega|assumption) only[go_sem]
 refine goK_ret (zcP (dp:=16-k) hs (by rw[upd_ne n4];exact hr)) fun v H1 ⟨hv,hH⟩=>?_
 subst hv;subst hH
 simp(disch:=first|omega|assumption) only[zv,go_sem]
 refine goA_intro fun b5 hb5=>?_
 have h54:b5≠b4:=fun e=>by subst e;rw[upd_same] at hb5;cases hb5
 have hb5H:H b5=none:=by rw[upd_ne h54] at hb5;exact hb5
 have n5:=K0.ne hb5H
 simp(disch:=first|omega|assumption) only[go_sem]
 generalize hHa:Heap.upd (Heap.upd H b4 _) b5 _=Ha
 have g5:Ha b5=some (.cells [.int .i64 (hdT t).k,.str (hdT t).s]):=by rw[← hHa,upd_same]
 have g4:Ha b4=some (.cells zB):=by rw[← hHa,upd_ne (Ne.symm h54),upd_same]
 have gr:Ha r=some (prc L p (16-k)):=by rw[← hHa,upd_ne n5,upd_ne n4];exact hr
 have KA:KI H r L t (16-k) Ha:=by rw[← hHa];exact(K0.box hb4).box hb5H
 clear hHa
 have gr':=gr
 simp only[prc] at gr'
 simp only[zB] at g4
 have n5s:=Ne.symm n5
 have n4s:=Ne.symm n4
 simp only[zp] at hsl
 have hll2:=hll
 simp only[zp] at hll2
 by_cases hk2:(hdT t).k=2
 ·have hk2':((hdT t).k=2)=True:=eq_true hk2
  have e1:yc fixed k t=.ok (yE (hdT t).s,t.tail):=by rw[zZ,ZR.eq_def,if_pos hk2]
  simp(disch:=first|omega|assumption) only[hk2',g5,gr',wrap64,n5s,n4s,go_sem]
  refine goK_pure (ziE _) ?_
  simp(disch:=first|omega|assumption) only[zi,zd,zb,zj,ze,za,zq,g4,n4s,go_sem]
  exact fin _ _ [.agg (cV (yE (hdT t).s))] _ _ (by simp(disch:=first|omega|assumption) only[zi,zd,zb,zj,ze,za,zq,ir33,resvs,resv,go_sem]) e1 ((KA.call (ZV hs (by rw[hk2];decide) _)).box hb4) (by simp[tupOf,AV.strip,yk])
 by_cases hk34:(hdT t).k=3∨(hdT t).k=4
 ·have e1:yc fixed k t=.ok (zcd (hdT t).s,t.tail):=by rw[zZ,ZR.eq_def,if_neg hk2,if_pos hk34]
  have hk0:(hdT t).k≠0:=by omega
  have hd3:(decide ((hdT t).k=3)||decide ((hdT t).k=4))=true:=by simpa using hk34
  rcases Classical.em ((hdT t).k=3) with hk3|hk3
  ·have hk3':((hdT t).k=3)=True:=eq_true hk3
   simp(disch:=first|omega|assumption) only[hk2,hk3',g5,gr',wrap64,n5s,n4s,go_sem]
   refine goK_pure (zhg _ (by simp only[Lim];omega)) ?_
   cases hw:ZF (hdT t).s with
   | true =>
    simp(disch:=first|omega|assumption) only[go_sem]
    refine goK_pure (zjF _) ?_
    simp(disch:=first|omega|assumption) only[zi,zd,zb,zj,ze,za,zq,g4,n4s,go_sem]
    refine fin _ _ [.agg (cV (.mk 2 (zco (hdT t).s) [] [] []))] _ _ (by simp(disch:=first|omega|assumption) only[zi,zd,zb,zj,ze,za,zq,ir33,resvs,resv,go_sem]) e1 ((KA.call (ZV hs hk0 _)).box hb4) ?_
    simp[tupOf,AV.strip,yk,zcd,hw]
   | false =>
    simp(disch:=first|omega|assumption) only[g5,g4,n5s,n4s,go_sem]
    refine fin _ _ [.agg [.int .i64 3,.int .i64 0,.str (hdT t).s,.sl .nil 5 [],.sl .nil 6 []]] _ _ (by simp(disch:=first|omega|assumption) only[zi,zd,zb,zj,ze,za,zq,ir33,resvs,resv,go_sem]) e1 ((KA.call (ZV hs hk0 _)).box hb4) ?_
    simp[tupOf,AV.strip,AV.strip1,zcd,hw,cV,cVs,cMs]
  ·have hk4':((hdT t).k=4)=True:=eq_true (by omega)
   simp(disch:=first|omega|assumption) only[hk2,hk3,hk4',g5,gr',wrap64,n5s,n4s,go_sem]
   refine goK_pure (zhg _ (by simp only[Lim];omega)) ?_
   cases hw:ZF (hdT t).s with
   | true =>
    simp(disch:=first|omega|assumption) only[go_sem]
    refine goK_pure (zjF _) ?_
    simp(disch:=first|omega|assumption) only[zi,zd,zb,zj,ze,za,zq,g4,n4s,go_sem]
    refine fin _ _ [.agg (cV (.mk 2 (zco (hdT t).s) [] [] []))] _ _ (by simp(disch:=first|omega|assumption) only[zi,zd,zb,zj,ze,za,zq,ir33,resvs,resv,go_sem]) e1 ((KA.call (ZV hs hk0 _)).box hb4) ?_
    simp[tupOf,AV.strip,yk,zcd,hw]
   | false =>
    simp(disch:=first|omega|assumption) only[g5,g4,n5s,n4s,go_sem]
    refine fin _ _ [.agg [.int .i64 3,.int .i64 0,.str (hdT t).s,.sl .nil 5 [],.sl .nil 6 []]] _ _ (by simp(disch:=first|omega|assumption) only[zi,zd,zb,zj,ze,za,zq,ir33,resvs,resv,go_sem]) e1 ((KA.call (ZV hs hk0 _)).box hb4) ?_
    simp[tupOf,AV.strip,AV.strip1,zcd,hw,cV,cVs,cMs]
 by_cases hk5:(hdT t).k=5
 ·have hk5':((hdT t).k=5)=True:=eq_true hk5
  have hk3:¬ ((hdT t).k=3):=by omega
  have hk4:¬ ((hdT t).k=4):=by omega
  have e1:yc fixed k t=.ok (.mk 4 0 (hdT t).s [] [],t.tail):=by rw[zZ,ZR.eq_def,if_neg hk2,if_neg hk34,if_pos hk5]
  simp(disch:=first|omega|assumption) only[hk2,hk3,hk4,hk5',g5,gr',wrap64,n5s,n4s,go_sem]
  refine goK_pure (zjI _) ?_
  simp(disch:=first|omega|assumption) only[zi,zd,zb,zj,ze,za,zq,g4,n4s,go_sem]
  exact fin _ _ [.agg (cV (.mk 4 0 (hdT t).s [] []))] _ _ (by simp(disch:=first|omega|assumption) only[zi,zd,zb,zj,ze,za,zq,ir33,resvs,resv,go_sem]) e1 ((KA.call (ZV hs (by rw[hk5];decide) _)).box hb4) (by simp[tupOf,AV.strip,yk])
 have hk3:¬ ((hdT t).k=3):=fun e=>hk34 (.inl e)
 have hk4:¬ ((hdT t).k=4):=fun e=>hk34 (.inr e)
 have bad1:isP [91] t=true→k=0→yc fixed k t=.error 4:=fun hi h=>by
  subst h
  rw[zZ,ZR.eq_def,if_neg hk2,if_neg hk34,if_neg hk5,if_pos hi];rfl
 have bad2:¬ (isP [91] t=true)→isP [123] t=true→k=0→yc fixed k t=.error 4:=fun h0 hi h=>by
  subst h
  rw[zZ,ZR.eq_def,if_neg hk2,if_neg hk34,if_neg hk5,if_neg h0,if_pos hi];rfl
 simp(disch:=first|omega|assumption) only[hk2,hk3,hk4,hk5,g5,go_sem]
 refine goK_both (zdo (dp:=16-k) hs hll (by omega) gr [91]) (fun v H1 ⟨hv,hat,haf⟩=>?_) fun v H1 ⟨hi,h16,hv⟩=>pan v H1 4 hv (bad1 hi (by omega))
 subst hv
 cases hi:isP [91] t with
 | true =>
  obtain⟨hd16,ha1⟩:=hat hi
  obtain⟨n,rfl⟩:∃ n,k=n+1:=⟨k-1,by omega⟩
  rw[show 16-(n+1)+1=16-n by omega] at ha1
  have K1:=KA.call ha1
  have g41:H1 b4=some (.cells zB):=by rw[ha1.other n4s,g4]
  have hi0:isP [91] t=true:=hi
  have hi2:isP [91] t=true:=hi
  simp(disch:=first|omega|assumption) only[go_sem]
  refine goA_intro fun b8 hb8=>?_
  have hb8':=hb8
  have hb8H:H b8=none:=K1.none hb8
  have n8:=K1.ne hb8H
  have h84:b8≠b4:=fun e=>by subst e;rw[g41] at hb8;cases hb8
  have K2:KO H r L t.tail (16-n) (H1.upd b8 (.cells [.int .i64 6,.int .i64 0,.str [],.sl .nil 5 [],.sl .nil 6 []])) .nil 0 5:=⟨K1.box hb8H,rfl,nofun⟩
  obtain⟨R,hR⟩:∃ R,zG [93] (yc fixed n) (t.tail.length+1) [] t.tail=R:=⟨_,rfl⟩
  have hx:yc fixed (n+1) t=pb R fun l t=>.ok (Val.mk 6 0 [] l [],t):=by rw[← hR,zZ,ZR.eq_def,if_neg hk2,if_neg hk34,if_neg hk5,if_pos hi2];rfl
  simp(disch:=first|omega|assumption) only[List.map_nil,go_sem]
  refine goL_st (fun x:Own×List Val×TS=>[]) (fun x H'=>KO H r L x.2.2 (16-n) H' x.1 x.2.1.length 5∧H' b8=some (.cells [.int .i64 6,.int .i64 0,.str [],.sl x.1 5 (cVs x.2.1),.sl .nil 6 []])∧H' b4=some (.cells zB)∧(∃ m,x.2.2.length<m∧zG [93] (yc fixed n) m x.2.1 x.2.2=R)∧x.2.1.length+x.2.2.length≤L.length) (fun x=>x.2.2.length) (.nil,[],t.tail) (by simp(disch:=first|omega|assumption) only[go_sem]) ⟨K2,upd_same ..,by rw[upd_ne (Ne.symm h84)];exact g41,⟨_,Nat.lt_succ_self _,hR⟩,by have:=K1.here;obtain⟨q,hq,_⟩:=this;rw[← hq];simp⟩ ?_
  rintro⟨o,l,u⟩ H3 J ⟨K3,g8,g4,⟨m,hm,hR3⟩,hlen⟩ hJ
  simp only at K3 g8 g4 hm hR3 hlen
  obtain⟨m,rfl⟩:∃ j,m=j+1:=⟨m-1,by omega⟩
  obtain⟨p3,hp3,hr3⟩:=K3.here
  have hcl:=zbC l
  simp(disch:=first|omega|assumption) only[go_sem]
  refine goK_ret (zdv hp3 hll (by omega) hr3 [93]) fun v H4 ⟨hv4,hat,haf⟩=>?_
  subst hv4
  cases hj:isP [93] u with
  | true =>
   have ha4:=hat hj
   have K4:=K3.call ha4
   rw[show 16-n-1=16-(n+1) by omega] at K4
   have g84:H4 b8=some (.cells [.int .i64 6,.int .i64 0,.str [],.sl o 5 (cVs l),.sl .nil 6 []]):=by rw[ha4.other (Ne.symm n8),g8]
   have g44:H4 b4=some (.cells zB):=by rw[ha4.other (Ne.symm n4),g4]
   simp only[zB] at g44
   have e1:R=.ok (l,u.tail):=by rw[← hR3,zG,hj];rfl
   simp(disch:=first|omega|assumption) only[g84,g44,Ne.symm h84,h84,go_sem]
   refine fin _ _ [.agg [.int .i64 6,.int .i64 0,.str [],.sl o 5 (cVs l),.sl .nil 6 []]] (Val.mk 6 0 [] l []) u.tail (by simp(disch:=first|omega|assumption) only[ir33,resvs,resv,go_sem]) (by rw[hx,e1];rfl) (K4.toKI.box hb4) ?_
   simp[tupOf,AV.strip,AV.strip1,cV,cVs,cMs,zbs]
  | false =>
   have ha4:=haf hj
   have K4:=K3.call ha4
   obtain⟨p4,hp4,hr4⟩:=K4.here
   have g84:H4 b8=some (.cells [.int .i64 6,.int .i64 0,.str [],.sl o 5 (cVs l),.sl .nil 6 []]):=by rw[ha4.other (Ne.symm n8),g8]
   have g44:H4 b4=some (.cells zB):=by rw[ha4.other (Ne.symm n4),g4]
   rw[zG,hj] at hR3
   simp only[Al7,if_false] at hR3
   simp(disch:=first|omega|assumption) only[g84,go_sem]
   refine goK_both (ih n rfl _ r L p4 u hp4 hl hr4) (fun v H5 ⟨x,t5,e5,hv5,ha5⟩=>?_) fun v H5 ⟨n5,e5,hv5⟩=>pan v H5 n5 hv5 (by rw[hx,← hR3,e5];rfl)
   subst hv5
   rw[e5,zf] at hR3
   have hlt:=(yb fixed n).lt (by decide) _ _ _ e5
   have K5:=K4.call ha5
   have g85:H5 b8=some (.cells [.int .i64 6,.int .i64 0,.str [],.sl o 5 (cVs l),.sl .nil 6 []]):=by rw[ha5.other (Ne.symm n8),g84]
   have g45:H5 b4=some (.cells zB):=by rw[ha5.other (Ne.symm n4),g44]
   simp(disch:=first|omega|assumption) only[zi,zd,zb,zj,ze,za,zq,g85,go_sem]
   refine goP_ownS (by rw[hcl];exact K5.own) (by simp only[hcl,Al2,Al3];simp only[zp] at hll;omega) (by simp only[hcl,Al2,Al3,maxLen];simp only[zp] at hll;omega) fun o6 H6 hs6=>?_
   have K6:=K5.app (by simpa[hcl] using hs6)
   have g86:=K5.stay hs6 g85
   have g46:=K5.stay hs6 g45
   simp(disch:=first|omega|assumption) only[zi,zd,zb,zj,ze,za,zq,g86,go_sem]
   refine goJ (hJ (o6,l++[x],t5) _ (by simp only;omega) ⟨by simpa using K6.box hb8H g86,by rw[upd_same];simp[YZ,yk],by rw[upd_ne (Ne.symm h84)];exact g46,⟨m,by simp only;omega,hR3⟩,by simp only[Al5,Al2,Al3];omega⟩) (by simp(disch:=first|omega|assumption) only[go_sem])
 | false =>
  have ha1:=haf hi
  have K1:=KA.call ha1
  have g41:H1 b4=some (.cells zB):=by rw[ha1.other n4s,g4]
  obtain⟨p1,hp1,hr1⟩:=K1.here
  have hi0:¬ (isP [91] t=true):=by rw[hi];decide
  clear hat haf
  simp(disch:=first|omega|assumption) only[go_sem]
  refine goK_both (zdo (dp:=16-k) hp1 hll (by omega) hr1 [123]) (fun v H2 ⟨hv,hat,haf⟩=>?_) fun v H2 ⟨hi,h16,hv⟩=>pan v H2 4 hv (bad2 hi0 hi (by omega))
  subst hv
  cases hi:isP [123] t with
  | true =>
   obtain⟨hd16,ha2⟩:=hat hi
   obtain⟨n,rfl⟩:∃ n,k=n+1:=⟨k-1,by omega⟩
   rw[show 16-(n+1)+1=16-n by omega] at ha2
   have K1:=K1.call ha2
   have g41:H2 b4=some (.cells zB):=by rw[ha2.other n4s,g41]
   clear hat haf
   have hi2:isP [123] t=true:=hi
   simp(disch:=first|omega|assumption) only[go_sem]
   refine goA_intro fun b8 hb8=>?_
   have hb8':=hb8
   have hb8H:H b8=none:=K1.none hb8
   have n8:=K1.ne hb8H
   have h84:b8≠b4:=fun e=>by subst e;rw[g41] at hb8;cases hb8
   have K2:KO H r L t.tail (16-n) (H2.upd b8 (.cells [.int .i64 7,.int .i64 0,.str [],.sl .nil 5 [],.sl .nil 6 []])) .nil 0 6:=⟨K1.box hb8H,rfl,nofun⟩
   obtain⟨R,hR⟩:∃ R,zG [125] (zP (yc fixed n)) (t.tail.length+1) [] t.tail=R:=⟨_,rfl⟩
   have hx:yc fixed (n+1) t=pb R fun l t=>.ok (Val.mk 7 0 [] [] l,t):=by rw[← hR,zZ,ZR.eq_def,if_neg hk2,if_neg hk34,if_neg hk5,if_neg hi0,if_pos hi2];rfl
   simp(disch:=first|omega|assumption) only[List.map_nil,go_sem]
   refine goL_st (fun x:Own×List Mem×TS=>[]) (fun x H'=>KO H r L x.2.2 (16-n) H' x.1 x.2.1.length 6∧H' b8=some (.cells [.int .i64 7,.int .i64 0,.str [],.sl .nil 5 [],.sl x.1 6 (cMs x.2.1)])∧H' b4=some (.cells zB)∧(∃ m,x.2.2.length<m∧zG [125] (zP (yc fixed n)) m x.2.1 x.2.2=R)∧x.2.1.length+x.2.2.length≤L.length) (fun x=>x.2.2.length) (.nil,[],t.tail) (by simp(disch:=first|omega|assumption) only[go_sem]) ⟨K2,upd_same ..,by rw[upd_ne (Ne.symm h84)];exact g41,⟨_,Nat.lt_succ_self _,hR⟩,by have:=K1.here;obtain⟨q,hq,_⟩:=this;rw[← hq];simp⟩ ?_
   rintro⟨o,l,u⟩ H3 J ⟨K3,g8,g4,⟨m,hm,hR3⟩,hlen⟩ hJ
   simp only at K3 g8 g4 hm hR3 hlen
   obtain⟨m,rfl⟩:∃ j,m=j+1:=⟨m-1,by omega⟩
   obtain⟨p3,hp3,hr3⟩:=K3.here
   have hcl:=zaM l
   simp(disch:=first|omega|assumption) only[go_sem]
   refine goK_ret (zdv hp3 hll (by omega) hr3 [125]) fun v H4 ⟨hv4,hat,haf⟩=>?_
   subst hv4
   cases hj:isP [125] u with
   | true =>
    have ha4:=hat hj
    have K4:=K3.call ha4
    rw[show 16-n-1=16-(n+1) by omega] at K4
    have g84:H4 b8=some (.cells [.int .i64 7,.int .i64 0,.str [],.sl .nil 5 [],.sl o 6 (cMs l)]):=by rw[ha4.other (Ne.symm n8),g8]
    have g44:H4 b4=some (.cells zB):=by rw[ha4.other (Ne.symm n4),g4]
    simp only[zB] at g44
    have e1:R=.ok (l,u.tail):=by rw[← hR3,zG,hj];rfl
    simp(disch:=first|omega|assumption) only[g84,g44,Ne.symm h84,h84,go_sem]
    refine fin _ _ [.agg [.int .i64 7,.int .i64 0,.str [],.sl .nil 5 [],.sl o 6 (cMs l)]] (Val.mk 7 0 [] [] l) u.tail (by simp(disch:=first|omega|assumption) only[ir33,resvs,resv,go_sem]) (by rw[hx,e1];rfl) (K4.toKI.box hb4) ?_
    simp[tupOf,AV.strip,AV.strip1,cV,cVs,cMs,YM]
   | false =>
    have ha4:=haf hj
    have K4:=K3.call ha4
    obtain⟨p4,hp4,hr4⟩:=K4.here
    have g84:H4 b8=some (.cells [.int .i64 7,.int .i64 0,.str [],.sl .nil 5 [],.sl o 6 (cMs l)]):=by rw[ha4.other (Ne.symm n8),g8]
    have g44:H4 b4=some (.cells zB):=by rw[ha4.other (Ne.symm n4),g4]
    rw[zG,hj] at hR3
    simp only[Al7,if_false] at hR3
    simp(disch:=first|omega|assumption) only[g84,go_sem]
    refine goK_both (zbL (ih n rfl) hp4 hl hr4) (fun v H5 ⟨x,t5,e5,hv5,ha5⟩=>?_) fun v H5 ⟨n5,e5,hv5⟩=>pan v H5 n5 hv5 (by rw[hx,← hR3,e5];rfl)
    subst hv5
    rw[e5,zf] at hR3
    have hlt:=(z8 (yb fixed n)).lt (by decide) _ _ _ e5
    have K5:=K4.call ha5
    have g85:H5 b8=some (.cells [.int .i64 7,.int .i64 0,.str [],.sl .nil 5 [],.sl o 6 (cMs l)]):=by rw[ha5.other (Ne.symm n8),g84]
    have g45:H5 b4=some (.cells zB):=by rw[ha5.other (Ne.symm n4),g44]
    simp(disch:=first|omega|assumption) only[zi,zd,zb,zj,ze,za,zq,g85,go_sem]
    refine goP_ownS (by rw[hcl];exact K5.own) (by simp only[hcl,Al2,Al3];simp only[zp] at hll;omega) (by simp only[hcl,Al2,Al3,maxLen];simp only[zp] at hll;omega) fun o6 H6 hs6=>?_
    have K6:=K5.app (by simpa[hcl] using hs6)
    have g86:=K5.stay hs6 g85
    have g46:=K5.stay hs6 g45
    simp(disch:=first|omega|assumption) only[zi,zd,zb,zj,ze,za,zq,g86,go_sem]
    refine goJ (hJ (o6,l++[x],t5) _ (by simp only;omega) ⟨by simpa using K6.box hb8H g86,by rw[upd_same];simp[Yc,Yu],by rw[upd_ne (Ne.symm h84)];exact g46,⟨m,by simp only;omega,hR3⟩,by simp only[Al5,Al2,Al3];omega⟩) (by simp(disch:=first|omega|assumption) only[go_sem])
  | false =>
   have ha2:=haf hi
   have K2:=K1.call ha2
   have g42:H2 b4=some (.cells zB):=by rw[ha2.other n4s,g41]
   obtain⟨p2,hp2,hr2⟩:=K2.here
   have hi1:¬ (isP [123] t=true):=by rw[hi];decide
   cases hfx:fixed with
   | true =>
    subst hfx
    simp(disch:=first|omega|assumption) only[go_sem]
    exact goK_both (Y5 _ r 2) (fun _ _ h=>h.elim) fun v H3 h=>pan v H3 2 h (by rw[zZ,ZR.eq_def,if_neg hk2,if_neg hk34,if_neg hk5,if_neg hi0,if_neg hi1];rfl)
   | false =>
    subst hfx
    have hx:yc false k t=pb (yA [36] t) fun _ t=>pb (zL t) fun s t=>.ok (.mk 8 0 s [] [],t):=by rw[zZ,ZR.eq_def,if_neg hk2,if_neg hk34,if_neg hk5,if_neg hi0,if_neg hi1];rfl
    simp(disch:=first|omega|assumption) only[go_sem]
    refine goK_both (zbM (dp:=16-k) hp2 hll hr2 [36]) (fun v H3 ⟨_,t3,e3,hv3,ha3⟩=>?_) fun v H3 ⟨n,e3,hv3⟩=>pan v H3 n hv3 (by rw[hx,e3];rfl)
    subst hv3
    have K3:=K2.call ha3
    obtain⟨p3,hp3,hr3⟩:=K3.here
    have g43:H3 b4=some (.cells zB):=by rw[ha3.other n4s,g42]
    simp(disch:=first|omega|assumption) only[go_sem]
    refine goK_both (Zi (dp:=16-k) hp3 hll hr3) (fun v H4 ⟨s,t4,e4,hv4,ha4⟩=>?_) fun v H4 ⟨n,e4,hv4⟩=>pan v H4 n hv4 (by rw[hx,e3,zf,e4];rfl)
    subst hv4
    have K4:=K3.call ha4
    have g44:H4 b4=some (.cells zB):=by rw[ha4.other n4s,g43]
    simp only[zB] at g44
    simp(disch:=first|omega|assumption) only[g44,go_sem]
    exact fin _ _ [.agg [.int .i64 8,.int .i64 0,.str s,.sl .nil 5 [],.sl .nil 6 []]] (.mk 8 0 s [] []) t4 (by simp(disch:=first|omega|assumption) only[ir33,resvs,resv,go_sem]) (by rw[hx,e3,zf,e4];rfl) (K4.box hb4) rfl
theorem YO (fixed:Bool):∀ k,k≤16→zfl fixed k
 | 0,h=>zeX fixed 0 h fun n e=>by cases e
 | k+1,h=>zeX fixed (k+1) h fun n e=>by cases e;exact YO fixed k (by omega)
theorem zat {p t L:TS} (h:p++t=L):t.length≤L.length:=by rw[← h];simp
theorem zeq (l:List DirD):cDs l=l.map cD:=rfl
theorem zeD {fixed:Bool} {k:Nat} (hk:k≤16) {H:Heap} {r:Nat} {L p t:TS} (hs:p++t=L) (hl:wT L≤zp) (hr:H r=some (prc L p (16-k))) :
  ACalls Tryz.prog 233 [.ptr r 0,.bool fixed] H (RpE H r L (16-k) (ZI fixed k t) (fun l=>.sl .no 6 (cMs l))):=by
 refine yn (ACalls.goO (R:=fun v H'=>Y7 H r L (16-k) (ZI fixed k t) (fun l=>.sl .no 6 (cMs l)) v.strip H') (RP:=fun v H'=>zaY (ZI fixed k t) v H') ir233 ck233 (Al4 _) fun KP Q hQ hP=>?_)
 have hll:L.length≤zp:=Nat.le_trans (yY L) hl
 have hll2:=hll
 simp only[zp] at hll2
 have pan:∀(v:AV) (H1:Heap) (n:Int),v=zN n→(ZI fixed k t)=.error n→KP v H1:=fun v H1 n h1 h2=>hP v H1 H1 (Low.refl _) ⟨n,h2,h1⟩
 have fin:=KI.done hQ
 have K0:=KI.start hs hr
 have hv:=YO fixed k hk
 simp(disch:=first|omega|assumption) only[ir233,go_sem]
 refine goK_ret (Zk (dp:=16-k) hs hll hr [40]) fun v H1 ⟨hv1,ha1⟩=>?_
 subst hv1
 cases hi:isP [40] t with
 | false =>
  rw[y6,hi] at ha1
  simp(disch:=first|omega|assumption) only[go_sem]
  exact fin _ _ [.sl .nil 6 []] [] t (by simp(disch:=first|omega|assumption) only[ir233,resvs,resv,go_sem]) (by unfold ZI;rw[hi];rfl) (K0.call (by simpa using ha1)) (by simp[tupOf,AV.strip,AV.strip1,cMs])
 | true =>
  rw[y6,hi,if_pos rfl] at ha1
  have K1:=K0.call ha1
  obtain⟨p1,hp1,hr1⟩:=K1.here
  have hx:ZI fixed k t=pb (zP (yc fixed k) t.tail) fun x t=>zG [41] (zP (yc fixed k)) (t.length+1) [x] t:=by
   unfold ZI;rw[hi]
   rfl
  simp(disch:=first|omega|assumption) only[go_sem]
  refine goK_both (zbL hv hp1 hl hr1) (fun v H2 ⟨x1,t2,e2,hv2,ha2⟩=>?_) fun v H2 ⟨n,e2,hv2⟩=>pan v H2 n hv2 (by rw[hx,e2];rfl)
  subst hv2
  have K2:=K1.call ha2
  have hlt1:=(z8 (yb fixed k)).lt (by decide) _ _ _ e2
  have hsl:=zat hp1
  rw[e2,zf] at hx
  obtain⟨R,hR⟩:∃ R,zG [41] (zP (yc fixed k)) (t2.length+1) [x1] t2=R:=⟨_,rfl⟩
  rw[hR] at hx
  simp(disch:=first|omega|assumption) only[zi,zd,zb,zj,ze,za,zq,go_sem]
  refine goL_st (fun x:Own×List Mem×TS=>[(5,.sl x.1 6 (cMs x.2.1))]) (fun x H'=>KO H r L x.2.2 (16-k) H' x.1 x.2.1.length 6∧(∃ m,x.2.2.length<m∧zG [41] (zP (yc fixed k)) m x.2.1 x.2.2=R)∧x.2.1.length+x.2.2.length≤L.length) (fun x=>x.2.2.length) (.full,[x1],t2) (by simp(disch:=first|omega|assumption) only[zi,zd,zb,zj,ze,za,zq,cMs,Yu,go_sem]) ⟨⟨K2,Owned.full _ _ _,nofun⟩,⟨_,Nat.lt_succ_self _,hR⟩,by simp only[List.length_singleton];omega⟩ ?_
  rintro⟨o,l,u⟩ H3 J ⟨K3,⟨m,hm,hR3⟩,hlen⟩ hJ
  simp only at K3 hm hR3 hlen
  obtain⟨m,rfl⟩:∃ j,m=j+1:=⟨m-1,by omega⟩
  obtain⟨p3,hp3,hr3⟩:=K3.here
  have hcl:=zaM l
  simp(disch:=first|omega|assumption) only[go_sem]
  refine goK_ret (Zk (dp:=16-k) hp3 hll hr3 [41]) fun v H4 ⟨hv4,ha4⟩=>?_
  subst hv4
  cases hj:isP [41] u with
  | true =>
   rw[y6,hj,if_pos rfl] at ha4
   have e1:R=.ok (l,u.tail):=by rw[← hR3,zG,hj];rfl
   simp(disch:=first|omega|assumption) only[go_sem]
   refine fin _ _ [.sl o 6 (cMs l)] l u.tail (by simp(disch:=first|omega|assumption) only[ir233,resvs,resv,go_sem]) (by rw[hx,e1]) (K3.toKI.call ha4) ?_
   simp[tupOf,AV.strip,AV.strip1,YM]
  | false =>
   rw[y6,hj] at ha4
   have K4:=K3.call (by simpa using ha4)
   obtain⟨p4,hp4,hr4⟩:=K4.here
   rw[zG,hj] at hR3
   simp only[Al7,if_false] at hR3
   simp(disch:=first|omega|assumption) only[go_sem]
   refine goK_both (zbL hv hp4 hl hr4) (fun v H5 ⟨x,t5,e5,hv5,ha5⟩=>?_) fun v H5 ⟨n5,e5,hv5⟩=>pan v H5 n5 hv5 (by rw[hx,← hR3,e5];rfl)
   subst hv5
   rw[e5,zf] at hR3
   have hlt:=(z8 (yb fixed k)).lt (by decide) _ _ _ e5
   have K5:=K4.call ha5
   simp(disch:=first|omega|assumption) only[zi,zd,zb,zj,ze,za,zq,go_sem]
   refine goP_ownS (by rw[hcl];exact K5.own) (by simp only[hcl,Al2,Al3];omega) (by simp only[hcl,Al2,Al3,maxLen];omega) fun o6 H6 hs6=>?_
   have K6:=K5.app (by simpa[hcl] using hs6)
   simp(disch:=first|omega|assumption) only[zi,zd,zb,zj,ze,za,zq,go_sem]
   refine goJ (hJ (o6,l++[x],t5) _ (by simp only;omega) ⟨by simpa using K6,⟨m,by simp only;omega,hR3⟩,by simp only[Al5,Al2,Al3];omega⟩) (by simp(disch:=first|omega|assumption) only[Yc,List.map_append,List.map_cons,List.map_nil,Yu,go_sem])
theorem ZQ {fixed:Bool} {k:Nat} (hk:k≤16) {H:Heap} {r:Nat} {L p t:TS} (hs:p++t=L) (hl:wT L≤zp) (hr:H r=some (prc L p (16-k))) :
  ACalls Tryz.prog 196 [.ptr r 0,.bool fixed] H (RpE H r L (16-k) (Zd fixed k t) (fun l=>.sl .no 2 (cDs l))):=by
 refine yn (ACalls.goO (R:=fun v H'=>Y7 H r L (16-k) (Zd fixed k t) (fun l=>.sl .no 2 (cDs l)) v.strip H') (RP:=fun v H'=>zaY (Zd fixed k t) v H') ir196 ck196 (Al4 _) fun KP Q hQ hP=>?_)
 have hll:L.length≤zp:=Nat.le_trans (yY L) hl
 have hll2:=hll
 simp only[zp] at hll2
 have pan:∀(v:AV) (H1:Heap) (n:Int),v=zN n→(Zd fixed k t)=.error n→KP v H1:=fun v H1 n h1 h2=>hP v H1 H1 (Low.refl _) ⟨n,h2,h1⟩
 have fin:=KI.done hQ
 have K0:=KI.start hs hr
 obtain⟨R,hR⟩:∃ R,ZX [64] (zc6 fixed k) (t.length+1) [] t=R:=⟨_,rfl⟩
 have hx:Zd fixed k t=R:=hR
 have hsl:=zat hs
 simp(disch:=first|omega|assumption) only[ir196,go_sem]
 refine goL_st (fun x:Own×List DirD×TS=>[(5,.sl x.1 2 (cDs x.2.1))]) (fun x H'=>KO H r L x.2.2 (16-k) H' x.1 x.2.1.length 2∧(∃ m,x.2.2.length<m∧ZX [64] (zc6 fixed k) m x.2.1 x.2.2=R)∧x.2.1.length+x.2.2.length≤L.length) (fun x=>x.2.2.length) (.nil,[],t) (by simp(disch:=first|omega|assumption) only[zeq,List.map_nil,go_sem]) ⟨⟨K0,rfl,nofun⟩,⟨_,Nat.lt_succ_self _,hR⟩,by simp only[Al3];omega⟩ ?_
 rintro⟨o,l,u⟩ H3 J ⟨K3,⟨m,hm,hR3⟩,hlen⟩ hJ
 simp only at K3 hm hR3 hlen
 obtain⟨m,rfl⟩:∃ j,m=j+1:=⟨m-1,by omega⟩
 obtain⟨p3,hp3,hr3⟩:=K3.here
 have hcl:=zhU l
 simp(disch:=first|omega|assumption) only[go_sem]
 refine goK_ret (Zk (dp:=16-k) hp3 hll hr3 [64]) fun v H4 ⟨hv4,ha4⟩=>?_
 subst hv4
 cases hj:isP [64] u with
 | false =>
  rw[y6,hj] at ha4
  have e1:R=.ok (l,u):=by rw[← hR3,ZX,hj];rfl
  simp(disch:=first|omega|assumption) only[go_sem]
  refine fin _ _ [.sl o 2 (cDs l)] l u (by simp(disch:=first|omega|assumption) only[ir196,resvs,resv,go_sem]) (by rw[hx,e1]) (K3.toKI.call (by simpa using ha4)) ?_
  simp[tupOf,AV.strip,AV.strip1,zeq,zgv]
 | true =>
  rw[y6,hj,if_pos rfl] at ha4
  have hlt0:=zdx hj
  have K4:=K3.call ha4
  obtain⟨p4,hp4,hr4⟩:=K4.here
  rw[ZX,hj,if_pos rfl] at hR3
  simp(disch:=first|omega|assumption) only[go_sem]
  refine goK_both (Zi (dp:=16-k) hp4 hll hr4) (fun v H5 ⟨nm,t5,e5,hv5,ha5⟩=>?_) fun v H5 ⟨n5,e5,hv5⟩=>pan v H5 n5 hv5 (by rw[hx,← hR3,zc6,e5];rfl)
  subst hv5
  have K5:=K4.call ha5
  obtain⟨p5,hp5,hr5⟩:=K5.here
  simp(disch:=first|omega|assumption) only[go_sem]
  refine goK_both (zeD hk hp5 hl hr5) (fun v H6 ⟨a,t6,e6,hv6,ha6⟩=>?_) fun v H6 ⟨n6,e6,hv6⟩=>pan v H6 n6 hv6 (by rw[hx,← hR3,zc6,e5,zf,e6];rfl)
  subst hv6
  have K6:=K5.call ha6
  have e7:zc6 fixed k u.tail=.ok (⟨nm,a⟩,t6):=by rw[zc6,e5,zf,e6];rfl
  rw[e7,zf] at hR3
  have hlt:=(zbY fixed k).lt (by decide) _ _ _ e7
  simp(disch:=first|omega|assumption) only[zi,zd,zb,zj,ze,za,zq,go_sem]
  refine goP_ownS (by rw[hcl];exact K6.own) (by simp only[hcl,Al2,Al3];omega) (by simp only[hcl,Al2,Al3,maxLen];omega) fun o7 H7 hs7=>?_
  have K7:=K6.app (by simpa[hcl] using hs7)
  simp(disch:=first|omega|assumption) only[zi,zd,zb,zj,ze,za,zq,go_sem]
  refine goJ (hJ (o7,l++[⟨nm,a⟩],t6) _ (by simp only;omega) ⟨by simpa using K7,⟨m,by simp only;omega,hR3⟩,by simp only[Al5,Al2,Al3];omega⟩) (by simp(disch:=first|omega|assumption) only[zeq,cD,List.map_append,List.map_cons,List.map_nil,go_sem])
def za4 (k:Nat):Prop:=∀(H:Heap) (r:Nat) (L p t:TS),p++t=L→wT L≤zp→H r=some (prc L p (16-k)) →
 ACalls Tryz.prog 148 [.ptr r 0] H (RpE H r L (16-k) (zE k t) fun l=>.sl .no 7 (cSs l))
abbrev zS:List AV:=[.int .i64 0,.str [],.str [],.sl .nil 6 [],.sl .nil 2 [],.str [],.sl .nil 7 []]
theorem zkc {m:List UInt8} {t:TS} (h:isW m t=true):(hdT t).k=2:=by
 simp only[isW,Al0,zm] at h;exact h.1
theorem zg9 {k:Nat} (hk:k≤16) (hv:za4 k) {H:Heap} {r:Nat} {L p t:TS} (hs:p++t=L) (hl:wT L≤zp) (hr:H r=some (prc L p (16-k))) :
  ACalls Tryz.prog 232 [.ptr r 0] H (RpE H r L (16-k) (yz (zE k) k t) (fun x=>.agg (cS x))):=by
 refine yn (ACalls.goO (R:=fun v H'=>Y7 H r L (16-k) (yz (zE k) k t) (fun x=>.agg (cS x)) v.strip H') (RP:=fun v H'=>zaY (yz (zE k) k t) v H') ir232 ck232 (Al4 _) fun KP Q hQ hP=>?_)
 have hll:L.length≤zp:=Nat.le_trans (yY L) hl
 have hll2:=hll
 simp only[zp] at hll2
 have pan:∀(v:AV) (H1:Heap) (n:Int),v=zN n→(yz (zE k) k t)=.error n→KP v H1:=fun v H1 n h1 h2=>hP v H1 H1 (Low.refl _) ⟨n,h2,h1⟩
 have fin:=KI.done hQ
 have K0:=KI.start hs hr
 simp(disch:=first|omega|assumption) only[ir232,go_sem]
 refine goA_intro fun b2 hb2=>?_
 have n2:=K0.ne hb2
 have n2s:=Ne.symm n2
 have K1:=K0.box (x:=.cells zS) hb2
 simp(disch:=first|omega|assumption) only[go_sem]
 refine goK_ret (zcP (dp:=16-k) hs (by rw[upd_ne n2];exact hr)) fun v H1 ⟨hv1,hH⟩=>?_
 subst hv1;subst hH
 obtain⟨p1,hp1,hr1⟩:=K1.here
 simp only[zS] at K1 hr1
 by_cases hsp:(hdT t).k=2∧isW [111,110] t=false
 ·obtain⟨hk2,hw⟩:=hsp
  have hk2':((hdT t).k=2)=True:=eq_true hk2
  have hx:yz (zE k) k t=pb (zL t) fun s t=>pb (Zd false k t) fun d t=>.ok (.mk 1 [] s [] d [] [],t):=by
   unfold yz;rw[if_pos ⟨hk2,hw⟩]
  simp(disch:=first|omega|assumption) only[zv,hk2',go_sem]
  refine goK_ret (zia (dp:=16-k) hp1 hr1 [111,110]) fun v H2 ⟨hv2,hH⟩=>?_
  subst hv2;subst hH
  rw[hw]
  simp(disch:=first|omega|assumption) only[go_sem]
  refine goK_both (Zi (dp:=16-k) hp1 hll hr1) (fun v H3 ⟨s,t3,e3,hv3,ha3⟩=>?_) fun v H3 ⟨n,e3,hv3⟩=>pan v H3 n hv3 (by rw[hx,e3];rfl)
  subst hv3
  rw[e3,zf] at hx
  have K3:=K1.call ha3
  obtain⟨p3,hp3,hr3⟩:=K3.here
  have g3:H3 b2=some (.cells zS):=by rw[ha3.other n2s,upd_same]
  simp(disch:=first|omega|assumption) only[go_sem]
  refine goK_both (ZQ hk hp3 hl hr3) (fun v H4 ⟨d,t4,e4,hv4,ha4⟩=>?_) fun v H4 ⟨n,e4,hv4⟩=>pan v H4 n hv4 (by rw[hx,e4];rfl)
  subst hv4
  rw[e4,zf] at hx
  have K4:=K3.call ha4
  have g4:H4 b2=some (.cells zS):=by rw[ha4.other n2s,g3]
  simp only[zS] at g4
  simp(disch:=first|omega|assumption) only[g4,go_sem]
  exact fin _ _ [.agg [.int .i64 1,.str [],.str s,.sl .nil 6 [],.sl .no 2 (cDs d),.str [],.sl .nil 7 []]] _ _ (by simp(disch:=first|omega|assumption) only[ir232,resvs,resv,go_sem]) hx (K4.box hb2) (by simp[tupOf,AV.strip,AV.strip1,cS,cMs,cSs])
 have hx:yz (zE k) k t=pb (if isW [111,110] t then zL t.tail else .ok ([],t)) fun o t=>pb (Zd false k t) fun d t=>pb (zE k t) fun l t=>.ok (.mk 2 [] [] [] d o l,t):=by
  unfold yz;rw[if_neg hsp]
 cases hw:isW [111,110] t with
 | true =>
  have hk2:=zkc hw
  have hk2':((hdT t).k=2)=True:=eq_true hk2
  rw[hw,if_pos rfl] at hx
  simp(disch:=first|omega|assumption) only[zv,hk2',go_sem]
  refine goK_ret (zia (dp:=16-k) hp1 hr1 [111,110]) fun v H2 ⟨hv2,hH⟩=>?_
  subst hv2;subst hH
  rw[hw]
  simp(disch:=first|omega|assumption) only[go_sem]
  refine goA_intro fun b3 hb3=>?_
  have h32:b3≠b2:=fun e=>by subst e;rw[upd_same] at hb3;cases hb3
  have hb3H:H b3=none:=by rw[upd_ne h32] at hb3;exact hb3
  have n3:=K0.ne hb3H
  have n3s:=Ne.symm n3
  have K2:=K1.box (x:=.cells [.int .i64 2,.str [],.str [],.sl .nil 6 [],.sl .nil 2 [],.str [],.sl .nil 7 []]) hb3H
  obtain⟨p2,hp2,hr2⟩:=K2.here
  simp(disch:=first|omega|assumption) only[go_sem]
  refine goK_ret (zcU (dp:=16-k) hp2 hll hr2 [111,110]) fun v H5 ⟨hv5,ha5⟩=>?_
  subst hv5
  have g53:H5 b3=some (.cells [.int .i64 2,.str [],.str [],.sl .nil 6 [],.sl .nil 2 [],.str [],.sl .nil 7 []]):=by rw[ha5.other n3s,upd_same]
  have g52:H5 b2=some (.cells zS):=by rw[ha5.other n2s,upd_ne (Ne.symm h32),upd_same]
  unfold yT at ha5
  rw[hw] at ha5
  simp only[if_true,Al7,if_false] at ha5
  rw[hw]
  have K5:=K2.call ha5
  obtain⟨p5,hp5,hr5⟩:=K5.here
  simp(disch:=first|omega|assumption) only[go_sem]
  refine goK_both (Zi (dp:=16-k) hp5 hll hr5) (fun v H3 ⟨o,t3,e3,hv3,ha3⟩=>?_) fun v H3 ⟨n,e3,hv3⟩=>pan v H3 n hv3 (by rw[hx,e3];rfl)
  subst hv3
  rw[e3,zf] at hx
  have K6:=K5.call ha3
  have g33:H3 b3=some (.cells [.int .i64 2,.str [],.str [],.sl .nil 6 [],.sl .nil 2 [],.str [],.sl .nil 7 []]):=by rw[ha3.other n3s,g53]
  have g32:H3 b2=some (.cells zS):=by rw[ha3.other n2s,g52]
  simp(disch:=first|omega|assumption) only[g33,go_sem]
  have K7:=K6.box (x:=.cells [.int .i64 2,.str [],.str [],.sl .nil 6 [],.sl .nil 2 [],.str o,.sl .nil 7 []]) hb3H
  have hHe:H3.upd b3 (.cells [.int .i64 2,.str [],.str [],.sl .nil 6 [],.sl .nil 2 [],.str o,.sl .nil 7 []])=H3.upd b3 (.cells [.int .i64 2,.str [],.str [],.sl .nil 6 [],.sl .nil 2 [],.str o,.sl .nil 7 []]):=rfl
  obtain⟨p7,hp7,hr7⟩:=K7.here
  refine goK_both (ZQ hk hp7 hl hr7) (fun v H8 ⟨d,t8,e8,hv8,ha8⟩=>?_) fun v H8 ⟨n,e8,hv8⟩=>pan v H8 n hv8 (by rw[hx,e8];rfl)
  subst hv8
  rw[e8,zf] at hx
  have K8:=K7.call ha8
  have g83:H8 b3=some (.cells [.int .i64 2,.str [],.str [],.sl .nil 6 [],.sl .nil 2 [],.str o,.sl .nil 7 []]):=by rw[ha8.other n3s];(exact upd_same ..)
  have g82:H8 b2=some (.cells zS):=by rw[ha8.other n2s];(rw[upd_ne (Ne.symm h32)];exact g32)
  simp(disch:=first|omega|assumption) only[g83,go_sem]
  have K9:=K8.box (x:=.cells [.int .i64 2,.str [],.str [],.sl .nil 6 [],.sl .no 2 (cDs d),.str o,.sl .nil 7 []]) hb3H
  obtain⟨p9,hp9,hr9⟩:=K9.here
  refine goK_both (hv _ r L p9 t8 hp9 hl hr9) (fun v H9 ⟨l,t9,e9,hv9,ha9⟩=>?_) fun v H9 ⟨n,e9,hv9⟩=>pan v H9 n hv9 (by rw[hx,e9];rfl)
  subst hv9
  rw[e9,zf] at hx
  have KA:=K9.call ha9
  have g93:H9 b3=some (.cells [.int .i64 2,.str [],.str [],.sl .nil 6 [],.sl .no 2 (cDs d),.str o,.sl .nil 7 []]):=by rw[ha9.other n3s,upd_same]
  have g92:H9 b2=some (.cells zS):=by rw[ha9.other n2s,upd_ne (Ne.symm h32),g82]
  simp only[zS] at g92
  simp(disch:=first|omega|assumption) only[g93,g92,h32,Ne.symm h32,go_sem]
  exact fin _ _ [.agg [.int .i64 2,.str [],.str [],.sl .nil 6 [],.sl .no 2 (cDs d),.str o,.sl .no 7 (cSs l)]] _ _ (by simp(disch:=first|omega|assumption) only[ir232,resvs,resv,go_sem]) hx ((KA.box hb3H).box hb2) (by simp[tupOf,AV.strip,AV.strip1,cS,cMs,cSs])
 | false =>
  have hk2:¬ ((hdT t).k=2):=fun h=>hsp ⟨h,hw⟩
  rw[hw] at hx
  simp only[Al7,if_false,zf] at hx
  simp(disch:=first|omega|assumption) only[zv,hk2,go_sem]
  refine goA_intro fun b3 hb3=>?_
  have h32:b3≠b2:=fun e=>by subst e;rw[upd_same] at hb3;cases hb3
  have hb3H:H b3=none:=by rw[upd_ne h32] at hb3;exact hb3
  have n3:=K0.ne hb3H
  have n3s:=Ne.symm n3
  have K2:=K1.box (x:=.cells [.int .i64 2,.str [],.str [],.sl .nil 6 [],.sl .nil 2 [],.str [],.sl .nil 7 []]) hb3H
  obtain⟨p2,hp2,hr2⟩:=K2.here
  simp(disch:=first|omega|assumption) only[go_sem]
  refine goK_ret (zcU (dp:=16-k) hp2 hll hr2 [111,110]) fun v H5 ⟨hv5,ha5⟩=>?_
  subst hv5
  have g53:H5 b3=some (.cells [.int .i64 2,.str [],.str [],.sl .nil 6 [],.sl .nil 2 [],.str [],.sl .nil 7 []]):=by rw[ha5.other n3s,upd_same]
  have g52:H5 b2=some (.cells zS):=by rw[ha5.other n2s,upd_ne (Ne.symm h32),upd_same]
  unfold yT at ha5
  rw[hw] at ha5
  simp only[if_true,Al7,if_false] at ha5
  rw[hw]
  have K5:=K2.call ha5
  obtain⟨p5,hp5,hr5⟩:=K5.here
  simp(disch:=first|omega|assumption) only[go_sem]
  have K7:=K5.box (x:=.cells [.int .i64 2,.str [],.str [],.sl .nil 6 [],.sl .nil 2 [],.str [],.sl .nil 7 []]) hb3H
  have hHe:H5.upd b3 (.cells [.int .i64 2,.str [],.str [],.sl .nil 6 [],.sl .nil 2 [],.str [],.sl .nil 7 []])=H5.upd b3 (.cells [.int .i64 2,.str [],.str [],.sl .nil 6 [],.sl .nil 2 [],.str [],.sl .nil 7 []]):=rfl
  obtain⟨p7,hp7,hr7⟩:=K5.here
  refine goK_both (ZQ hk hp7 hl hr7) (fun v H8 ⟨d,t8,e8,hv8,ha8⟩=>?_) fun v H8 ⟨n,e8,hv8⟩=>pan v H8 n hv8 (by rw[hx,e8];rfl)
  subst hv8
  rw[e8,zf] at hx
  have K8:=K5.call ha8
  have g83:H8 b3=some (.cells [.int .i64 2,.str [],.str [],.sl .nil 6 [],.sl .nil 2 [],.str [],.sl .nil 7 []]):=by rw[ha8.other n3s];(exact g53)
  have g82:H8 b2=some (.cells zS):=by rw[ha8.other n2s];(exact g52)
  simp(disch:=first|omega|assumption) only[g83,go_sem]
  have K9:=K8.box (x:=.cells [.int .i64 2,.str [],.str [],.sl .nil 6 [],.sl .no 2 (cDs d),.str [],.sl .nil 7 []]) hb3H
  obtain⟨p9,hp9,hr9⟩:=K9.here
  refine goK_both (hv _ r L p9 t8 hp9 hl hr9) (fun v H9 ⟨l,t9,e9,hv9,ha9⟩=>?_) fun v H9 ⟨n,e9,hv9⟩=>pan v H9 n hv9 (by rw[hx,e9];rfl)
  subst hv9
  rw[e9,zf] at hx
  have KA:=K9.call ha9
  have g93:H9 b3=some (.cells [.int .i64 2,.str [],.str [],.sl .nil 6 [],.sl .no 2 (cDs d),.str [],.sl .nil 7 []]):=by rw[ha9.other n3s,upd_same]
  have g92:H9 b2=some (.cells zS):=by rw[ha9.other n2s,upd_ne (Ne.symm h32),g82]
  simp only[zS] at g92
  simp(disch:=first|omega|assumption) only[g93,g92,h32,Ne.symm h32,go_sem]
  exact fin _ _ [.agg [.int .i64 2,.str [],.str [],.sl .nil 6 [],.sl .no 2 (cDs d),.str [],.sl .no 7 (cSs l)]] _ _ (by simp(disch:=first|omega|assumption) only[ir232,resvs,resv,go_sem]) hx ((KA.box hb3H).box hb2) (by simp[tupOf,AV.strip,AV.strip1,cS,cMs,cSs])
theorem ziB {k:Nat} (hk:k≤16) (hv:za4 k) {H:Heap} {r:Nat} {L p t:TS} (hs:p++t=L) (hl:wT L≤zp) (hr:H r=some (prc L p (16-k))) :
  ACalls Tryz.prog 194 [.ptr r 0] H (RpE H r L (16-k) (YH (zE k) k t) (fun x=>.agg (cS x))):=by
 refine yn (ACalls.goO (R:=fun v H'=>Y7 H r L (16-k) (YH (zE k) k t) (fun x=>.agg (cS x)) v.strip H') (RP:=fun v H'=>zaY (YH (zE k) k t) v H') ir194 ck194 (Al4 _) fun KP Q hQ hP=>?_)
 have hll:L.length≤zp:=Nat.le_trans (yY L) hl
 have hll2:=hll
 simp only[zp] at hll2
 have pan:∀(v:AV) (H1:Heap) (n:Int),v=zN n→(YH (zE k) k t)=.error n→KP v H1:=fun v H1 n h1 h2=>hP v H1 H1 (Low.refl _) ⟨n,h2,h1⟩
 have fin:=KI.done hQ
 have K0:=KI.start hs hr
 simp(disch:=first|omega|assumption) only[ir194,go_sem]
 refine goA_intro fun b2 hb2=>?_
 have n2:=K0.ne hb2
 have n2s:=Ne.symm n2
 have K1:=K0.box (x:=.cells zS) hb2
 obtain⟨p1,hp1,hr1⟩:=K1.here
 simp only[zS] at K1 hr1
 simp(disch:=first|omega|assumption) only[go_sem]
 refine goK_ret (Zk (dp:=16-k) hp1 hll hr1 [46,46,46]) fun v H2 ⟨hv2,ha2⟩=>?_
 subst hv2
 have g22:H2 b2=some (.cells zS):=by rw[ha2.other n2s,upd_same]
 have K2:=K1.call ha2
 unfold y6 at K2
 obtain⟨p2,hp2,hr2⟩:=K2.here
 cases hi:isP [46,46,46] t with
 | true =>
  rw[hi] at K2 hp2
  simp only[if_true] at K2 hp2
  have hx:YH (zE k) k t=yz (zE k) k t.tail:=by unfold YH;rw[hi];rfl
  simp(disch:=first|omega|assumption) only[go_sem]
  refine goK_both (zg9 hk hv hp2 hl hr2) (fun v H3 ⟨x,t3,e3,hv3,ha3⟩=>?_) fun v H3 ⟨n,e3,hv3⟩=>pan v H3 n hv3 (by rw[hx,e3])
  subst hv3
  have K3:=K2.call ha3
  have g3:H3 b2=some (.cells zS):=by rw[ha3.other n2s,g22]
  simp only[zS] at g3
  simp(disch:=first|omega|assumption) only[g3,zbJ,zaF,Z7,go_sem]
  exact fin _ _ [.agg (cS x)] _ _ (by simp(disch:=first|omega|assumption) only[ir194,resvs,resv,zbJ,zaF,Z7,go_sem]) (by rw[hx,e3]) (K3.box hb2) (by simp[tupOf,AV.strip,zaU])
 | false =>
  rw[hi] at K2 hp2
  simp only[Al7,if_false] at K2 hp2
  have hx:YH (zE k) k t=pb (zL t) fun s t=>pb (if isP [58] t then pb (zL t.tail) fun s2 t=>.ok ((s,s2),t) else .ok (([],s),t)) fun an t =>
   pb (ZI false k t) fun a t=>pb (Zd false k t) fun d t=>pb (if isP [123] t then zE k t else .ok ([],t)) fun l t=>.ok (.mk 0 an.1 an.2 a d [] l,t):=by unfold YH;rw[hi];rfl
  simp(disch:=first|omega|assumption) only[go_sem]
  refine goK_both (Zi (dp:=16-k) hp2 hll hr2) (fun v H3 ⟨s,t3,e3,hv3,ha3⟩=>?_) fun v H3 ⟨n,e3,hv3⟩=>pan v H3 n hv3 (by rw[hx,e3];rfl)
  subst hv3
  rw[e3,zf] at hx
  have K3:=K2.call ha3
  have g32:H3 b2=some (.cells zS):=by rw[ha3.other n2s,g22]
  simp(disch:=first|omega|assumption) only[go_sem]
  refine goA_intro fun b3 hb3=>?_
  have h32:b3≠b2:=fun e=>by subst e;rw[g32] at hb3;cases hb3
  have hb3H:H b3=none:=K3.none hb3
  have n3:=K0.ne hb3H
  have n3s:=Ne.symm n3
  have K4:=K3.box (x:=.cells [.int .i64 0,.str [],.str s,.sl .nil 6 [],.sl .nil 2 [],.str [],.sl .nil 7 []]) hb3H
  obtain⟨p4,hp4,hr4⟩:=K4.here
  simp(disch:=first|omega|assumption) only[go_sem]
  refine goK_ret (Zk (dp:=16-k) hp4 hll hr4 [58]) fun v H5 ⟨hv5,ha5⟩=>?_
  subst hv5
  have g53:H5 b3=some (.cells [.int .i64 0,.str [],.str s,.sl .nil 6 [],.sl .nil 2 [],.str [],.sl .nil 7 []]):=by rw[ha5.other n3s,upd_same]
  have g52:H5 b2=some (.cells zS):=by rw[ha5.other n2s,upd_ne (Ne.symm h32),g32]
  have K5:=K4.call ha5
  unfold y6 at K5
  obtain⟨p5,hp5,hr5⟩:=K5.here
  cases hc:isP [58] t3 with
  | true =>
   rw[hc] at hx K5 hp5
   simp only[if_true] at hx K5 hp5
   simp(disch:=first|omega|assumption) only[g53,go_sem]
   refine goK_both (Zi (dp:=16-k) hp5 hll hr5) (fun v H6 ⟨s2,t6,e6,hv6,ha6⟩=>?_) fun v H6 ⟨n,e6,hv6⟩=>pan v H6 n hv6 (by rw[hx,e6];rfl)
   subst hv6
   rw[e6,zf,zf] at hx
   have K6:=K5.call ha6
   have g63:H6 b3=some (.cells [.int .i64 0,.str [],.str s,.sl .nil 6 [],.sl .nil 2 [],.str [],.sl .nil 7 []]):=by rw[ha6.other n3s,g53]
   have g62:H6 b2=some (.cells zS):=by rw[ha6.other n2s,g52]
   simp(disch:=first|omega|assumption) only[g63,go_sem]
   have K7:=K6.box (x:=.cells [.int .i64 0,.str s,.str s2,.sl .nil 6 [],.sl .nil 2 [],.str [],.sl .nil 7 []]) hb3H
   obtain⟨p7,hp7,hr7⟩:=K7.here
   refine goK_both (zeD hk hp7 hl hr7) (fun v H8 ⟨a,t8,e8,hv8,ha8⟩=>?_) fun v H8 ⟨n,e8,hv8⟩=>pan v H8 n hv8 (by rw[hx,e8];rfl)
   subst hv8
   rw[e8,zf] at hx
   have K8:=K7.call ha8
   have g83:H8 b3=some (.cells [.int .i64 0,.str s,.str s2,.sl .nil 6 [],.sl .nil 2 [],.str [],.sl .nil 7 []]):=by rw[ha8.other n3s];(exact upd_same ..)
   have g82:H8 b2=some (.cells zS):=by rw[ha8.other n2s];(rw[upd_ne (Ne.symm h32)];exact g62)
   simp(disch:=first|omega|assumption) only[g83,go_sem]
   have K9:=K8.box (x:=.cells [.int .i64 0,.str s,.str s2,.sl .no 6 (cMs a),.sl .nil 2 [],.str [],.sl .nil 7 []]) hb3H
   obtain⟨p9,hp9,hr9⟩:=K9.here
   refine goK_both (ZQ hk hp9 hl hr9) (fun v HA ⟨d,tA,eA,hvA,haA⟩=>?_) fun v HA ⟨n,eA,hvA⟩=>pan v HA n hvA (by rw[hx,eA];rfl)
   subst hvA
   rw[eA,zf] at hx
   have KA:=K9.call haA
   have gA3:HA b3=some (.cells [.int .i64 0,.str s,.str s2,.sl .no 6 (cMs a),.sl .nil 2 [],.str [],.sl .nil 7 []]):=by rw[haA.other n3s,upd_same]
   have gA2:HA b2=some (.cells zS):=by rw[haA.other n2s,upd_ne (Ne.symm h32),g82]
   simp(disch:=first|omega|assumption) only[gA3,go_sem]
   have KB:=KA.box (x:=.cells [.int .i64 0,.str s,.str s2,.sl .no 6 (cMs a),.sl .no 2 (cDs d),.str [],.sl .nil 7 []]) hb3H
   obtain⟨pB,hpB,hrB⟩:=KB.here
   refine goK_ret (zfW (dp:=16-k) hpB hrB [123]) fun v HC ⟨hvC,hHC⟩=>?_
   subst hvC;subst hHC
   have gC2:(HA.upd b3 (.cells [.int .i64 0,.str s,.str s2,.sl .no 6 (cMs a),.sl .no 2 (cDs d),.str [],.sl .nil 7 []])) b2=some (.cells zS):=by rw[upd_ne (Ne.symm h32),gA2]
   cases hb:isP [123] tA with
   | true =>
    rw[hb] at hx
    simp only[if_true] at hx
    simp(disch:=first|omega|assumption) only[go_sem]
    refine goK_both (hv _ r L pB tA hpB hl hrB) (fun v HD ⟨l,tD,eD,hvD,haD⟩=>?_) fun v HD ⟨n,eD,hvD⟩=>pan v HD n hvD (by rw[hx,eD];rfl)
    subst hvD
    rw[eD,zf] at hx
    have KD:=KB.call haD
    have gD3:HD b3=some (.cells [.int .i64 0,.str s,.str s2,.sl .no 6 (cMs a),.sl .no 2 (cDs d),.str [],.sl .nil 7 []]):=by rw[haD.other n3s,upd_same]
    have gD2:HD b2=some (.cells zS):=by rw[haD.other n2s,gC2]
    simp only[zS] at gD2
    simp(disch:=first|omega|assumption) only[gD3,gD2,h32,Ne.symm h32,go_sem]
    exact fin _ _ [.agg [.int .i64 0,.str s,.str s2,.sl .no 6 (cMs a),.sl .no 2 (cDs d),.str [],.sl .no 7 (cSs l)]] _ _ (by simp(disch:=first|omega|assumption) only[ir194,resvs,resv,go_sem]) hx ((KD.box hb3H).box hb2) (by simp[tupOf,AV.strip,AV.strip1,cS,cMs,cSs])
   | false =>
    rw[hb] at hx
    simp only[Al7,if_false,zf] at hx
    simp only[zS] at gA2
    simp(disch:=first|omega|assumption) only[gA2,h32,Ne.symm h32,go_sem]
    exact fin _ _ [.agg [.int .i64 0,.str s,.str s2,.sl .no 6 (cMs a),.sl .no 2 (cDs d),.str [],.sl .nil 7 []]] _ _ (by simp(disch:=first|omega|assumption) only[ir194,resvs,resv,go_sem]) hx (KB.box hb2) (by simp[tupOf,AV.strip,AV.strip1,cS,cMs,cSs])
  | false =>
   rw[hc] at hx K5 hp5
   simp only[Al7,if_false,zf] at hx K5 hp5
   simp(disch:=first|omega|assumption) only[go_sem]
   refine goK_both (zeD hk hp5 hl hr5) (fun v H8 ⟨a,t8,e8,hv8,ha8⟩=>?_) fun v H8 ⟨n,e8,hv8⟩=>pan v H8 n hv8 (by rw[hx,e8];rfl)
   subst hv8
   rw[e8,zf] at hx
   have K8:=K5.call ha8
   have g83:H8 b3=some (.cells [.int .i64 0,.str [],.str s,.sl .nil 6 [],.sl .nil 2 [],.str [],.sl .nil 7 []]):=by rw[ha8.other n3s];(exact g53)
   have g82:H8 b2=some (.cells zS):=by rw[ha8.other n2s];(exact g52)
   simp(disch:=first|omega|assumption) only[g83,go_sem]
   have K9:=K8.box (x:=.cells [.int .i64 0,.str [],.str s,.sl .no 6 (cMs a),.sl .nil 2 [],.str [],.sl .nil 7 []]) hb3H
   obtain⟨p9,hp9,hr9⟩:=K9.here
   refine goK_both (ZQ hk hp9 hl hr9) (fun v HA ⟨d,tA,eA,hvA,haA⟩=>?_) fun v HA ⟨n,eA,hvA⟩=>pan v HA n hvA (by rw[hx,eA];rfl)
   subst hvA
   rw[eA,zf] at hx
   have KA:=K9.call haA
   have gA3:HA b3=some (.cells [.int .i64 0,.str [],.str s,.sl .no 6 (cMs a),.sl .nil 2 [],.str [],.sl .nil 7 []]):=by rw[haA.other n3s,upd_same]
   have gA2:HA b2=some (.cells zS):=by rw[haA.other n2s,upd_ne (Ne.symm h32),g82]
   simp(disch:=first|omega|assumption) only[gA3,go_sem]
   have KB:=KA.box (x:=.cells [.int .i64 0,.str [],.str s,.sl .no 6 (cMs a),.sl .no 2 (cDs d),.str [],.sl .nil 7 []]) hb3H
   obtain⟨pB,hpB,hrB⟩:=KB.here
   refine goK_ret (zfW (dp:=16-k) hpB hrB [123]) fun v HC ⟨hvC,hHC⟩=>?_
   subst hvC;subst hHC
   have gC2:(HA.upd b3 (.cells [.int .i64 0,.str [],.str s,.sl .no 6 (cMs a),.sl .no 2 (cDs d),.str [],.sl .nil 7 []])) b2=some (.cells zS):=by rw[upd_ne (Ne.symm h32),gA2]
   cases hb:isP [123] tA with
   | true =>
    rw[hb] at hx
    simp only[if_true] at hx
    simp(disch:=first|omega|assumption) only[go_sem]
    refine goK_both (hv _ r L pB tA hpB hl hrB) (fun v HD ⟨l,tD,eD,hvD,haD⟩=>?_) fun v HD ⟨n,eD,hvD⟩=>pan v HD n hvD (by rw[hx,eD];rfl)
    subst hvD
    rw[eD,zf] at hx
    have KD:=KB.call haD
    have gD3:HD b3=some (.cells [.int .i64 0,.str [],.str s,.sl .no 6 (cMs a),.sl .no 2 (cDs d),.str [],.sl .nil 7 []]):=by rw[haD.other n3s,upd_same]
    have gD2:HD b2=some (.cells zS):=by rw[haD.other n2s,gC2]
    simp only[zS] at gD2
    simp(disch:=first|omega|assumption) only[gD3,gD2,h32,Ne.symm h32,go_sem]
    exact fin _ _ [.agg [.int .i64 0,.str [],.str s,.sl .no 6 (cMs a),.sl .no 2 (cDs d),.str [],.sl .no 7 (cSs l)]] _ _ (by simp(disch:=first|omega|assumption) only[ir194,resvs,resv,go_sem]) hx ((KD.box hb3H).box hb2) (by simp[tupOf,AV.strip,AV.strip1,cS,cMs,cSs])
   | false =>
    rw[hb] at hx
    simp only[Al7,if_false,zf] at hx
    simp only[zS] at gA2
    simp(disch:=first|omega|assumption) only[gA2,h32,Ne.symm h32,go_sem]
    exact fin _ _ [.agg [.int .i64 0,.str [],.str s,.sl .no 6 (cMs a),.sl .no 2 (cDs d),.str [],.sl .nil 7 []]] _ _ (by simp(disch:=first|omega|assumption) only[ir194,resvs,resv,go_sem]) hx (KB.box hb2) (by simp[tupOf,AV.strip,AV.strip1,cS,cMs,cSs])
theorem zii:za4 0:=by
 intro H r L p t hs hl hr
 refine ACalls.goO (R:=fun v H'=>Y7 H r L (16-0) (zE 0 t) (fun l=>.sl .no 7 (cSs l)) v H') (RP:=fun v H'=>zaY (zE 0 t) v H') ir148 ck148 (Al4 _) fun KP Q hQ hP=>?_
 have hll:L.length≤zp:=Nat.le_trans (yY L) hl
 have pan:∀(v:AV) (H1:Heap) (n:Int),v=zN n→zE 0 t=.error n→KP v H1:=fun v H1 n h1 h2=>hP v H1 H1 (Low.refl _) ⟨n,h2,h1⟩
 simp(disch:=first|omega|assumption) only[ir148,go_sem]
 refine goK_both (zdo (dp:=16-0) hs hll (by omega) hr [123]) (fun v H1 ⟨hv,hat,haf⟩=>?_) fun v H1 ⟨hi,h16,hv⟩=>pan v H1 4 hv (by rw[zE,if_pos hi])
 subst hv
 cases hi:isP [123] t with
 | true=>exact absurd (hat hi).1 (by decide)
 | false =>
  simp(disch:=first|omega|assumption) only[go_sem]
  exact goK_both (Y5 _ r 2) (fun _ _ h=>h.elim) fun v H3 h=>pan v H3 2 h (by rw[zE,hi];rfl)
theorem zij {k:Nat} (hk:k<16) (hv:za4 k):za4 (k+1):=by
 intro H r L p t hs hl hr
 refine yn (ACalls.goO (R:=fun v H'=>Y7 H r L (16-(k+1)) (zE (k+1) t) (fun l=>.sl .no 7 (cSs l)) v.strip H') (RP:=fun v H'=>zaY (zE (k+1) t) v H') ir148 ck148 (Al4 _) fun KP Q hQ hP=>?_)
 have hll:L.length≤zp:=Nat.le_trans (yY L) hl
 have hll2:=hll
 simp only[zp] at hll2
 have pan:∀(v:AV) (H1:Heap) (n:Int),v=zN n→(zE (k+1) t)=.error n→KP v H1:=fun v H1 n h1 h2=>hP v H1 H1 (Low.refl _) ⟨n,h2,h1⟩
 have fin:=KI.done hQ
 have K0:=KI.start hs hr
 simp(disch:=first|omega|assumption) only[ir148,go_sem]
 refine goK_both (zdo (dp:=16-(k+1)) hs hll (by omega) hr [123]) (fun v H1 ⟨hv1,hat,haf⟩=>?_) fun v H1 ⟨hi,h16,hv1⟩=>by exfalso;omega
 subst hv1
 cases hi:isP [123] t with
 | false =>
  simp(disch:=first|omega|assumption) only[go_sem]
  exact goK_both (Y5 _ r 2) (fun _ _ h=>h.elim) fun v H3 h=>pan v H3 2 h (by rw[zE,hi];rfl)
 | true =>
  have ha1:=(hat hi).2
  rw[show 16-(k+1)+1=16-k by omega] at ha1
  have K1:=K0.call ha1
  obtain⟨p1,hp1,hr1⟩:=K1.here
  have hx:zE (k+1) t=pb (YH (zE k) k t.tail) fun x t=>zG [125] (YH (zE k) k) (t.length+1) [x] t:=by
   rw[zE,hi];rfl
  clear hat haf
  simp(disch:=first|omega|assumption) only[go_sem]
  refine goK_both (ziB (by omega) hv hp1 hl hr1) (fun v H2 ⟨x1,t2,e2,hv2,ha2⟩=>?_) fun v H2 ⟨n,e2,hv2⟩=>pan v H2 n hv2 (by rw[hx,e2];rfl)
  subst hv2
  have K2:=K1.call ha2
  have hlt1:=(zaS (yN k)).lt (by decide) _ _ _ e2
  have hsl:=zat hp1
  rw[e2,zf] at hx
  obtain⟨R,hR⟩:∃ R,zG [125] (YH (zE k) k) (t2.length+1) [x1] t2=R:=⟨_,rfl⟩
  rw[hR] at hx
  simp(disch:=first|omega|assumption) only[zbJ,zaF,Z7,go_sem]
  refine goL_st (fun x:Own×List SelD×TS=>[(3,.sl x.1 7 (cSs x.2.1))]) (fun x H'=>KO H r L x.2.2 (16-k) H' x.1 x.2.1.length 7∧(∃ m,x.2.2.length<m∧zG [125] (YH (zE k) k) m x.2.1 x.2.2=R)∧x.2.1.length+x.2.2.length≤L.length) (fun x=>x.2.2.length) (.full,[x1],t2) (by simp(disch:=first|omega|assumption) only[cSs,zaU,go_sem]) ⟨⟨K2,Owned.full _ _ _,nofun⟩,⟨_,Nat.lt_succ_self _,hR⟩,by simp only[List.length_singleton];omega⟩ ?_
  rintro⟨o,l,u⟩ H3 J ⟨K3,⟨m,hm,hR3⟩,hlen⟩ hJ
  simp only at K3 hm hR3 hlen
  obtain⟨m,rfl⟩:∃ j,m=j+1:=⟨m-1,by omega⟩
  obtain⟨p3,hp3,hr3⟩:=K3.here
  have hcl:=zh1 l
  simp(disch:=first|omega|assumption) only[go_sem]
  refine goK_ret (zdv (dp:=16-k) hp3 hll (by omega) hr3 [125]) fun v H4 ⟨hv4,hat,haf⟩=>?_
  subst hv4
  cases hj:isP [125] u with
  | true =>
   have ha4:=hat hj
   rw[show 16-k-1=16-(k+1) by omega] at ha4
   have e1:R=.ok (l,u.tail):=by rw[← hR3,zG,hj];rfl
   simp(disch:=first|omega|assumption) only[go_sem]
   refine fin _ _ [.sl o 7 (cSs l)] l u.tail (by simp(disch:=first|omega|assumption) only[ir148,resvs,resv,go_sem]) (by rw[hx,e1]) (K3.toKI.call ha4) ?_
   simp[tupOf,AV.strip,AV.strip1,zbA,zaU]
  | false =>
   have K4:=K3.call (haf hj)
   obtain⟨p4,hp4,hr4⟩:=K4.here
   rw[zG,hj] at hR3
   simp only[Al7,if_false] at hR3
   simp(disch:=first|omega|assumption) only[go_sem]
   refine goK_both (ziB (by omega) hv hp4 hl hr4) (fun v H5 ⟨x,t5,e5,hv5,ha5⟩=>?_) fun v H5 ⟨n5,e5,hv5⟩=>pan v H5 n5 hv5 (by rw[hx,← hR3,e5];rfl)
   subst hv5
   rw[e5,zf] at hR3
   have hlt:=(zaS (yN k)).lt (by decide) _ _ _ e5
   have K5:=K4.call ha5
   simp(disch:=first|omega|assumption) only[zbJ,zaF,Z7,go_sem]
   refine goP_ownS (by rw[hcl];exact K5.own) (by simp only[hcl,Al2,Al3];omega) (by simp only[hcl,Al2,Al3,maxLen];omega) fun o6 H6 hs6=>?_
   have K6:=K5.app (by simpa[hcl] using hs6)
   simp(disch:=first|omega|assumption) only[zbJ,zaF,Z7,go_sem]
   refine goJ (hJ (o6,l++[x],t5) _ (by simp only;omega) ⟨by simpa using K6,⟨m,by simp only;omega,hR3⟩,by simp only[Al5,Al2,Al3];omega⟩) (by simp(disch:=first|omega|assumption) only[zbA,List.map_append,List.map_cons,List.map_nil,zaU,go_sem])
theorem ZE:∀ k,k≤16→za4 k
 | 0,_=>zii
 | k+1,h=>zij (by omega) (ZE k (by omega))
def poc (L:TS) (s:St):AObj:=.cells [.sl .no 2 (cKs L),.int .i64 (s.i:Int),.int .i64 s.dp,.int .i64 s.e]
abbrev PQ (H:Heap) (r:Nat) (L:TS) (x:AV) (s:St):AEnd→Heap→Prop:=fun e H'=>∃ v,e=.ret v∧(v=x∧H'=H.upd r (poc L s))
structure KB (H:Heap) (r:Nat) (y:AObj) (H1:Heap):Prop where
 keep:∀ c x,c≠r→H c=some x→H1 c=some x
 here:H1 r=some y
 hr:∃ x,H r=some x
section
variable {H H1 H2:Heap} {r b:Nat} {y:AObj}
theorem KB.start (hr:H r=some y):KB H r y H:=⟨fun _ _ _ h=>h,hr,⟨_,hr⟩⟩
theorem KB.call (h:KB H r y H1) (z:AObj):KB H r z (H1.upd r z):=⟨fun c x hc hx=>by rw[upd_ne hc];exact h.keep c x hc hx,upd_same ..,h.hr⟩
theorem KB.ne (h:KB H r y H1) (hb:H b=.none):r≠b:=fun e=>by
 subst e;obtain⟨x,hx⟩:=h.hr;rw[hb] at hx;cases hx
theorem KB.none (h:KB H r y H1) (hb:H1 b=.none):H b=.none:=by
 cases hx:H b with
 | none=>rfl
 | some x =>
  by_cases e:b=r
  ·subst e;have h2:=h.here;rw[hb] at h2;cases h2
  ·have:=h.keep b x e hx;rw[hb] at this;cases this
theorem KB.box (h:KB H r y H1) (hb:H b=.none) (x:AObj):KB H r y (H1.upd b x) :=
 ⟨fun c z hc hz=>by rw[upd_ne (fun e=>by subst e;rw[hb] at hz;cases hz)];exact h.keep c z hc hz,by rw[upd_ne (h.ne hb)];exact h.here,h.hr⟩
theorem KB.low (h:KB H r y H1):Low (H.upd r y) H1:=Low.of_sub fun c x hc=>by
 by_cases e:c=r
 ·subst e;rw[upd_same] at hc;rw[← hc];exact h.here
 ·rw[upd_ne e] at hc;exact h.keep c x e hc
structure KBO (H:Heap) (r:Nat) (y:AObj) (H1:Heap) (o:Own) (n sz:Nat):Prop extends KB H r y H1 where
 own:Owned H1 o n sz
 tip:∀ b d,o=.tip b d→H b=.none
variable {o o':Own} {n n' sz:Nat} {cs cs':List AV}
theorem KBO.call {L:TS} {u s:St} (h:KBO H r (poc L u) H1 o n sz):KBO H r (poc L s) (H1.upd r (poc L s)) o n sz :=
 ⟨h.toKB.call _,yf h.own (show H1 r=some (.cells _) from h.here),h.tip⟩
theorem KBO.box (h:KBO H r y H1 o n sz) (hb:H b=.none) (h1:H1 b=some (.cells cs)):KBO H r y (H1.upd b (.cells cs')) o n sz :=
 ⟨h.toKB.box hb _,yf h.own h1,h.tip⟩
theorem KBO.app {L:TS} {u:St} (h:KBO H r (poc L u) H1 o n sz) (hs:OwnS H1 o H2 o' n' sz):KBO H r (poc L u) H2 o' n' sz:=by
 refine⟨⟨fun c x hc hx=>hs.kept c x (h.keep c x hc hx) fun d e=>?_,zR h.own (show H1 r=some (.cells _) from h.here) hs.kept,h.hr⟩,hs.own,fun b d e=>?_⟩
 ·have:=h.tip c d e;rw[hx] at this;cases this
 ·rcases hs.new b d e with h2|⟨d0,e2⟩
  ·exact h.toKB.none h2
  ·exact h.tip b d0 e2
theorem KBO.new (h:KBO H r y H1 o n sz) (hb:H1 b=.none) (x:AObj):KBO H r y (H1.upd b x) o n sz:=⟨h.toKB.box (h.toKB.none hb) x,h.own.upd hb,h.tip⟩
theorem KBO.stay (h:KBO H r y H1 o n sz) (hs:OwnS H1 o H2 o' n' sz) (hb:H1 b=some (.cells cs)):H2 b=some (.cells cs) :=
 zR h.own hb hs.kept
theorem KB.done {x:AV} {Q:AExit→Env→Heap→Prop} {res:List ARes} (hQ:∀ e ρ H1 H2 vs,(∀ i,e≠.exit i)→resvs ρ H1 res=some vs→Low H2 H1→((tupOf vs).strip=x∧H2=H.upd r y)→Q e ρ H1)
  (ρ1:Env) (H1:Heap) (vs:List AV) (h1:resvs ρ1 H1 res=some vs) (h3:KB H r y H1) (h4:(tupOf vs).strip=x):Q .ret ρ1 H1 :=
 hQ .ret ρ1 H1 (H.upd r y) vs nofun h1 h3.low ⟨h4,rfl⟩
end
theorem zgD {H:Heap} {r:Nat} {x:AObj} (h:H r=some x):H.upd r x=H:=by
 funext c;by_cases e:c=r
 ·subst e;simp[Heap.upd,h]
 ·simp[Heap.upd,e]
theorem KB.step {H H1 H2:Heap} {r:Nat} {y z:AObj} (h:KB H r y H1) (e:H2=H1.upd r z):KB H r z H2:=e▸h.call z
theorem KBO.step {H H1 H2:Heap} {r:Nat} {L:TS} {u s:St} {o:Own} {n sz:Nat} (h:KBO H r (poc L u) H1 o n sz) (e:H2=H1.upd r (poc L s)):KBO H r (poc L s) H2 o n sz:=e▸h.call
theorem oth {H1 H2:Heap} {r b:Nat} {z:AObj} {x:Option AObj} (e:H2=H1.upd r z) (hb:r≠b) (g:H1 b=x):H2 b=x:=by rw[e,upd_ne (Ne.symm hb)];exact g
def mS (L:TS) (s:St):Nat:=if s.e=0 then (L.drop s.i).length+1 else 0
theorem ziA (L:TS) (s:St):mS L s≤L.length+1:=by unfold mS;split<;>simp
theorem ziK {L:TS} {s:St} (h:(s.hd L).k≠0):s.e=0∧s.i<L.length:=by
 unfold St.hd at h
 split at h
 ·rename_i h0
  refine⟨h0,Nat.lt_of_not_le fun hle=>h ?_⟩
  rw[List.drop_eq_nil_of_le hle];rfl
 ·exact absurd rfl h
theorem zjv {L:TS} {m:List UInt8} {s:St} (h:isS L m s=true):(s.hd L).k=1:=by
 simp only[isS,Al0,zm] at h;exact h.1
theorem zgG {α:Type} {L:TS} {f:TS→PR α} {D:Int} {fS:St→α×St} (hf:SimS L f D fS) (hlt:∀ t a t',f t=.ok (a,t')→t'.length<t.length) {s:St} (hd:s.e=0→s.dp=D) :
  (s.e=0→mS L (fS s).2<mS L s)∧((fS s).2.e=0→(fS s).2.dp=D):=by
 obtain⟨i,d,e⟩:=s
 simp only at hd
 by_cases he:e=0
 ·subst he
  obtain rfl:=hd rfl
  have hr:=hf.rel i
  cases hx:f (L.drop i) with
  | error n =>
   rw[hx] at hr
   refine⟨fun _=>?_,fun h=>absurd h (by rw[hr.2];exact hr.1)⟩
   have:¬ ((fS ⟨i,d,0⟩).2.e=0):=by rw[hr.2];exact hr.1
   simp[mS,this]
  | ok y =>
   obtain⟨a,t'⟩:=y
   rw[hx] at hr
   obtain⟨i',h1,h2⟩:=hr
   have:=hlt _ _ _ hx
   rw[h2]
   refine⟨fun _=>?_,fun _=>rfl⟩
   rw[h1] at this
   simp only[mS,if_true];omega
 ·have:=hf.bad ⟨i,d,e⟩ he
  refine⟨fun h=>absurd h he,fun h=>?_⟩
  rw[this] at h;exact absurd h he
structure LI {α:Type} (L:TS) (m:List UInt8) (one:Bool) (f:St→α×St) (D:Int) (R:List α×St) (l:List α) (u:St):Prop where
 dp:u.e=0→u.dp=D
 eq:∃ k,mS L u<k∧yO L m one f k l u=R
 len:l.length+mS L u≤L.length+1
abbrev ziw {α:Type} (L:TS) (m:List UInt8) (one:Bool) (l:List α) (u:St):Prop:=u.e=0∧((one=true∧l.length=0)∨isS L m u=false)
section
variable {α:Type} {L:TS} {m:List UInt8} {one:Bool} {f:St→α×St} {D:Int} {R:List α×St} {l:List α} {u:St}
theorem LI.start (h:u.e=0→u.dp=D) (hR:yO L m one f (L.length+2) [] u=R):LI L m one f D R [] u :=
 ⟨h,⟨_,by have:=ziA L u;omega,hR⟩,by have:=ziA L u;simpa using this⟩
theorem LI.stop (h:LI L m one f D R l u) (hc:¬ ziw L m one l u):R=(l,u):=by
 obtain⟨k,hk,hR⟩:=h.eq
 cases k with
 | zero=>omega
 | succ k=>rw[← hR,yO,if_neg hc]
theorem LI.next {f0:TS→PR α} (h:LI L m one f D R l u) (hc:ziw L m one l u) (hf:SimS L f0 D f) (hlt:∀ t a t',f0 t=.ok (a,t')→t'.length<t.length) :
  LI L m one f D R (l++[(f u).1]) (f u).2∧mS L (f u).2<mS L u∧l.length<L.length+1:=by
 obtain⟨p1,p2⟩:=zgG hf hlt h.dp
 have p1:=p1 hc.1
 have hl:=h.len
 obtain⟨k,hk,hR⟩:=h.eq
 cases k with
 | zero=>omega
 | succ k =>
  rw[yO,if_pos hc] at hR
  exact⟨⟨p2,⟨k,by omega,hR⟩,by simp only[Al5,List.length_singleton];omega⟩,p1,by omega⟩
end
section
variable {H:Heap} {r:Nat} {L:TS} {s:St}
theorem zcM (hr:H r=some (poc L s)) (n:Int):ACalls Tryz.prog 50 [.ptr r 0,.int .i64 n] H (PQ H r L (.tup []) (yM n s)):=by
 refine ACalls.go ir50 ck50 (Al4 _) fun KP Q hQ=>?_
 have hr':=hr
 simp only[poc] at hr'
 by_cases he:s.e=0
 ·simp(disch:=first|omega|assumption) only[ir50,hr',he,go_sem]
  exact hQ _ _ _ _ [] nofun rfl (Low.refl _) ⟨rfl,by simp[yM,he,poc]⟩
 ·simp(disch:=first|omega|assumption) only[ir50,hr',he,go_sem]
  exact hQ _ _ _ H [] nofun rfl (Low.refl _) ⟨rfl,by rw[yL he];exact(zgD hr).symm⟩
theorem zhe (hl:wT L≤zp) (hr:H r=some (poc L s)):ACalls Tryz.prog 45 [.ptr r 0] H (fun e H'=>∃ v,e=.ret v∧(v=zv (s.hd L)∧H'=H)):=by
 refine ACalls.go ir45 ck45 (Al4 _) fun KP Q hQ=>?_
 have hr':=hr
 simp only[poc] at hr'
 have hcl:=YX L
 simp(disch:=first|omega|assumption) only[ir45,go_sem]
 refine goA_intro fun b2 hb2=>?_
 have n2:r≠b2:=fun e=>by subst e;rw[hb2] at hr;cases hr
 have n2s:=Ne.symm n2
 have low:∀ x,Low H (H.upd b2 x):=fun x=>(Low.refl _).upd hb2
 by_cases he:s.e=0
 ·by_cases hi:L.length≤s.i
  ·have h1:((L.length:Int)≤(s.i:Int))=True:=eq_true (by omega)
   have e:s.hd L=⟨0,[]⟩:=by unfold St.hd;rw[if_pos he,List.drop_eq_nil_of_le hi];rfl
   simp(disch:=first|omega|assumption) only[hr',n2,n2s,he,hcl,h1,go_sem]
   exact hQ _ _ _ H [.agg [.int .i64 0,.str []]] nofun (by simp(disch:=first|omega|assumption) only[ir45,resvs,resv,go_sem]) (by simpa using low _) ⟨(by simp[tupOf,envOf,AV.strip,AV.strip1,e,zv]),rfl⟩
  ·have h1:¬ ((L.length:Int)≤(s.i:Int)):=by omega
   have h2:((s.i:Int)<(L.length:Int))=True:=eq_true (by omega)
   obtain⟨x,hx⟩:∃ x,L[s.i]?=some x:=⟨_,Al9 (by omega)⟩
   have hg:(cKs L).getD s.i []=[.int .i64 x.k,.str x.s]:=by simp[cKs,List.getD,hx,cK]
   have e:s.hd L=x:=by
    have e2:L.drop s.i=x::L.drop (s.i+1):=by rw[List.drop_eq_getElem_cons (by omega)];rw[Al9 (by omega)] at hx;cases hx;rfl
    unfold St.hd;rw[if_pos he,e2];rfl
   simp(disch:=first|omega|assumption) only[hr',n2,n2s,he,hcl,h1,h2,hg,go_sem]
   exact hQ _ _ _ H [.agg [.int .i64 x.k,.str x.s]] nofun (by simp(disch:=first|omega|assumption) only[ir45,resvs,resv,go_sem]) (by simpa using low _) ⟨(by simp[tupOf,envOf,AV.strip,AV.strip1,e,zv]),rfl⟩
 ·have e:s.hd L=⟨0,[]⟩:=zbS he
  simp(disch:=first|omega|assumption) only[hr',n2,n2s,he,go_sem]
  exact hQ _ _ _ H [.agg [.int .i64 0,.str []]] nofun (by simp(disch:=first|omega|assumption) only[ir45,resvs,resv,go_sem]) (by simpa using low _) ⟨(by simp[tupOf,envOf,AV.strip,AV.strip1,e,zv]),rfl⟩
theorem zcp (hl:wT L≤zp) (hr:H r=some (poc L s)) (m:List UInt8):ACalls Tryz.prog 92 [.ptr r 0,.str m] H (fun e H'=>∃ v,e=.ret v∧(v=.bool (isS L m s)∧H'=H)):=by
 refine ACalls.go ir92 ck92 (Al4 _) fun KP Q hQ=>?_
 simp(disch:=first|omega|assumption) only[ir92,go_sem]
 refine goK_ret (zhe hl hr) fun v H1 ⟨hv,hH⟩=>?_
 subst hv;subst hH
 simp(disch:=first|omega|assumption) only[zv,go_sem]
 refine goA_intro fun b5 hb5=>?_
 by_cases hk:(s.hd L).k=1
 ·simp(disch:=first|omega|assumption) only[hk,go_sem]
  exact hQ _ _ _ H1 [_] nofun rfl ((Low.refl _).upd hb5) ⟨(by simp[tupOf,envOf,AV.strip,AV.strip1,isS,hk]),rfl⟩
 ·simp(disch:=first|omega|assumption) only[hk,go_sem]
  exact hQ _ _ _ H1 [_] nofun rfl ((Low.refl _).upd hb5) ⟨(by simp[tupOf,envOf,AV.strip,AV.strip1,isS,hk]),rfl⟩
theorem Yi (hl:wT L≤zp) (hr:H r=some (poc L s)) (m:List UInt8):ACalls Tryz.prog 93 [.ptr r 0,.str m] H (PQ H r L (.tup []) (zw L m s)):=by
 refine ACalls.go ir93 ck93 (Al4 _) fun KP Q hQ=>?_
 have hr':=hr
 simp only[poc] at hr'
 have hll:L.length≤zp:=Nat.le_trans (yY L) hl
 simp only[zp] at hll
 simp(disch:=first|omega|assumption) only[ir93,go_sem]
 refine goK_ret (zcp hl hr m) fun v H1 ⟨hv,hH⟩=>?_
 subst hv;subst hH
 cases hi:isS L m s with
 | true =>
  have hk:=(ziK (L:=L) (s:=s) (by rw[zjv hi];decide)).2
  simp(disch:=first|omega|assumption) only[hr',wrap64,go_sem]
  exact hQ _ _ _ _ [] nofun rfl (Low.refl _) ⟨rfl,by simp[zw,hi,stepS,poc]⟩
 | false =>
  simp(disch:=first|omega|assumption) only[go_sem]
  refine goK_ret (zcM hr 2) fun v H1 ⟨hv,hH⟩=>?_
  subst hv;subst hH
  simp(disch:=first|omega|assumption) only[go_sem]
  exact hQ _ _ _ _ [] nofun rfl (Low.refl _) ⟨rfl,by simp[zw,hi]⟩
theorem zgq (hl:wT L≤zp) (hr:H r=some (poc L s)) (m:List UInt8):ACalls Tryz.prog 94 [.ptr r 0,.str m] H (PQ H r L (.tup []) (zY L m s)):=by
 refine ACalls.go ir94 ck94 (Al4 _) fun KP Q hQ=>?_
 have hr':=hr
 simp only[poc] at hr'
 simp(disch:=first|omega|assumption) only[ir94,go_sem]
 refine goK_ret (zcp hl hr m) fun v H1 ⟨hv,hH⟩=>?_
 subst hv;subst hH
 by_cases hc:isS L m s=true∧16≤s.dp
 ·obtain⟨hi,h16⟩:=hc
  rw[hi]
  simp(disch:=first|omega|assumption) only[hr',h16,go_sem]
  refine goK_ret (zcM hr 4) fun v H1 ⟨hv,hH⟩=>?_
  subst hv;subst hH
  simp(disch:=first|omega|assumption) only[go_sem]
  exact hQ _ _ _ _ [] nofun rfl (Low.refl _) ⟨rfl,by simp[zY,hi,h16]⟩
 have e:zY L m s=upS 1 (zw L m s):=by
  unfold zY
  rw[if_neg]
  intro h
  simp only[Al0,zm] at h
  exact hc h
 cases hi:isS L m s with
 | true =>
  have h16:¬ (16≤s.dp):=fun h=>hc ⟨hi,h⟩
  simp(disch:=first|omega|assumption) only[hr',h16,go_sem]
  refine goK_ret (Yi hl hr m) fun v H1 ⟨hv,hH⟩=>?_
  subst hv
  have g1:H1 r=some (poc L (zw L m s)):=by rw[hH,upd_same]
  simp only[poc] at g1
  simp(disch:=first|omega|assumption) only[g1,go_sem]
  exact hQ _ _ _ _ [] nofun rfl (Low.refl _) ⟨rfl,by rw[hH,upd_upd,e];simp[upS,poc]⟩
 | false =>
  simp(disch:=first|omega|assumption) only[go_sem]
  refine goK_ret (Yi hl hr m) fun v H1 ⟨hv,hH⟩=>?_
  subst hv
  have g1:H1 r=some (poc L (zw L m s)):=by rw[hH,upd_same]
  simp only[poc] at g1
  simp(disch:=first|omega|assumption) only[g1,go_sem]
  exact hQ _ _ _ _ [] nofun rfl (Low.refl _) ⟨rfl,by rw[hH,upd_upd,e];simp[upS,poc]⟩
theorem za7 (hl:wT L≤zp) (hr:H r=some (poc L s)) (m:List UInt8):ACalls Tryz.prog 95 [.ptr r 0,.str m] H (PQ H r L (.tup []) (ZD L m s)):=by
 refine ACalls.go ir95 ck95 (Al4 _) fun KP Q hQ=>?_
 simp(disch:=first|omega|assumption) only[ir95,go_sem]
 refine goK_ret (Yi hl hr m) fun v H1 ⟨hv,hH⟩=>?_
 subst hv
 have g1:H1 r=some (poc L (zw L m s)):=by rw[hH,upd_same]
 simp only[poc] at g1
 simp(disch:=first|omega|assumption) only[g1,go_sem]
 exact hQ _ _ _ _ [] nofun rfl (Low.refl _) ⟨rfl,by rw[hH,upd_upd];simp[ZD,upS,poc,Int.sub_eq_add_neg]⟩
theorem zex (hl:wT L≤zp) (hr:H r=some (poc L s)):ACalls Tryz.prog 46 [.ptr r 0] H (PQ H r L (.str (zt L s).1) (zt L s).2):=by
 refine ACalls.go ir46 ck46 (Al4 _) fun KP Q hQ=>?_
 have hr':=hr
 simp only[poc] at hr'
 have hll:L.length≤zp:=Nat.le_trans (yY L) hl
 simp only[zp] at hll
 have K0:=KB.start hr
 simp(disch:=first|omega|assumption) only[ir46,go_sem]
 refine goK_ret (zhe hl hr) fun v H1 ⟨hv,hH⟩=>?_
 subst hv;subst hH
 simp(disch:=first|omega|assumption) only[zv,go_sem]
 refine goA_intro fun b3 hb3=>?_
 have n3:=K0.ne hb3
 have n3s:=Ne.symm n3
 by_cases hk:(s.hd L).k=2
 ·have en:zt L s=((s.hd L).s,stepS s):=by simp[zt,hk]
  have ep:poc L (stepS s)=.cells [.sl .no 2 (cKs L),.int .i64 ((s.i:Int)+1),.int .i64 s.dp,.int .i64 s.e]:=by simp[poc,stepS]
  have hi:=(ziK (L:=L) (s:=s) (by rw[hk];decide)).2
  rw[en] at hQ
  have fin:=KB.done hQ
  simp(disch:=first|omega|assumption) only[hk,hr',n3,n3s,wrap64,go_sem]
  exact fin _ _ [.str (s.hd L).s] (by simp(disch:=first|omega|assumption) only[ir46,resvs,resv,go_sem]) (by rw[ep];exact(K0.box hb3 _).call _) (by simp[tupOf,envOf,AV.strip,AV.strip1])
 ·have en:zt L s=([],yM 2 s):=by simp[zt,hk]
  rw[en] at hQ
  have fin:=KB.done hQ
  simp(disch:=first|omega|assumption) only[hk,go_sem]
  refine goK_ret (zcM (K0.box hb3 _).here 2) fun v H2 ⟨hv,h2⟩=>?_
  subst hv
  simp(disch:=first|omega|assumption) only[go_sem]
  exact fin _ _ [.str []] (by simp(disch:=first|omega|assumption) only[ir46,resvs,resv,go_sem]) ((K0.box hb3 _).step h2) (by simp[tupOf,envOf,AV.strip,AV.strip1])
end
def zi3 (L:TS) (r:Nat) (k:Nat):Prop:=∀ {H:Heap} {s:St},H r=some (poc L s)→ACalls Tryz.prog 39 [.ptr r 0,.int .i64 ((4-k:Nat):Int)] H (PQ H r L (.agg (cTy (ZY L k s).1)) (ZY L k s).2)
theorem zg1 {L:TS} {r:Nat} (hl:wT L≤zp) (k:Nat) (hk:k≤4) (ih:∀ n,k=n+1→zi3 L r n):zi3 L r k:=by
 intro H s hr
 refine ACalls.go ir39 ck39 (Al4 _) fun KP Q hQ=>?_
 have K0:=KB.start hr
 simp(disch:=first|omega|assumption) only[ir39,go_sem]
 refine goA_intro fun b4 hb4=>?_
 have n4:=K0.ne hb4
 simp(disch:=first|omega|assumption) only[go_sem]
 refine goA_intro fun b5 hb5=>?_
 have h54:b5≠b4:=fun e=>by subst e;rw[upd_same] at hb5;cases hb5
 have hb5H:H b5=none:=by rw[upd_ne h54] at hb5;exact hb5
 have n5:=K0.ne hb5H
 simp(disch:=first|omega|assumption) only[go_sem]
 obtain⟨H0,hH0⟩:∃ H0,H0=(H.upd b4 (.cells [.str [],.int .i64 0,.int .i64 0])).upd b5 (.cells [.str [],.int .i64 0,.int .i64 0]):=⟨_,rfl⟩
 have K2:KB H r (poc L s) H0:=by rw[hH0];exact(K0.box hb4 _).box hb5H _
 have g5:H0 b5=some (.cells [.str [],.int .i64 0,.int .i64 0]):=by rw[hH0,upd_same]
 have g4:H0 b4=some (.cells [.str [],.int .i64 0,.int .i64 0]):=by rw[hH0,upd_ne (Ne.symm h54),upd_same]
 try simp only[upd_upd]
 rw[← hH0]
 clear hH0
 refine goK_ret (zcp hl K2.here [91]) fun v H1 ⟨hv,hH⟩=>?_
 subst hv;subst hH
 cases hi:isS L [91] s with
 | true =>
  cases k with
  | zero =>
   have e:ZY L 0 s=(⟨[],0,0⟩,yM 4 s):=by simp[ZY,hi]
   have h44:((4:Int)≤((4-0:Nat):Int))=True:=eq_true (by decide)
   rw[e] at hQ
   have fin:=KB.done hQ
   simp(disch:=first|omega|assumption) only[h44,go_sem]
   refine goK_ret (zcM K2.here 4) fun v H2 ⟨hv,h2⟩=>?_
   subst hv
   have K3:=K2.step h2
   have g25:=oth h2 n5 g5
   have g24:=oth h2 n4 g4
   simp(disch:=first|omega|assumption) only[g25,g24,go_sem]
   exact fin _ _ [.agg [.str [],.int .i64 0,.int .i64 0]] (by simp(disch:=first|omega|assumption) only[ir39,resvs,resv,go_sem]) (K3.box hb4 _) (by simp[tupOf,envOf,AV.strip,AV.strip1,cTy])
  | succ n =>
   have e:ZY L (n+1) s=yF L (yg (ZY L n (zw L [91] s)).1) (zw L [93] (ZY L n (zw L [91] s)).2):=by simp[ZY,hi]
   have h44:¬ ((4:Int)≤((4-(n+1):Nat):Int)):=by omega
   have hw:IntKind.wrap .i64 (((4-(n+1):Nat):Int)+1)=((4-n:Nat):Int):=by rw[wrap64 (by omega) (by omega)];omega
   simp(disch:=first|omega|assumption) only[h44,go_sem]
   refine goK_ret (Yi hl K2.here [91]) fun v H2 ⟨hv,h2⟩=>?_
   subst hv
   have K3:=K2.step h2
   have g25:=oth h2 n5 g5
   have g24:=oth h2 n4 g4
   simp(disch:=first|omega|assumption) only[hw,go_sem]
   refine goK_ret (ih n rfl K3.here) fun v H3 ⟨hv,h3⟩=>?_
   subst hv
   have K4:=K3.step h3
   have g35:=oth h3 n5 g25
   have g34:=oth h3 n4 g24
   generalize (ZY L n (zw L [91] s)).2=s1 at *
   generalize (ZY L n (zw L [91] s)).1=ty at *
   simp(disch:=first|omega|assumption) only[g35,cTy,go_sem]
   refine goK_ret (Yi hl (K4.box hb5H _).here [93]) fun v H4 ⟨hv,h4⟩=>?_
   subst hv
   have K5:=(K4.box hb5H _).step h4
   have g45:=oth h4 n5 (upd_same ..)
   have g44:=oth h4 n4 ((upd_ne (Ne.symm h54)).trans g34)
   have hs0:¬ ((1:Int)<0):=by decide
   simp(disch:=first|omega|assumption) only[g45,hs0,go_sem]
   have KU:=K5.box hb5H (.cells [.str ty.nm,.int .i64 (IntKind.wrap .i64 (ty.lists+1)),.int .i64 (zfQ ty.musts)])
   have GU5:(H4.upd b5 (.cells [.str ty.nm,.int .i64 (IntKind.wrap .i64 (ty.lists+1)),.int .i64 (zfQ ty.musts)])) b5=_:=upd_same ..
   have GU4:(H4.upd b5 (.cells [.str ty.nm,.int .i64 (IntKind.wrap .i64 (ty.lists+1)),.int .i64 (zfQ ty.musts)])) b4=_:=(upd_ne (Ne.symm h54)).trans g44
   refine goK_ret (zcp hl KU.here [33]) fun v HX ⟨hvX,hHX⟩=>?_
   subst hvX;subst hHX
   cases hb:isS L [33] (zw L [93] s1) with
   | false =>
    have e2:yF L (yg ty) (zw L [93] s1)=((yg ty),(zw L [93] s1)):=by simp[yF,hb]
    rw[e2] at e
    rw[e] at hQ
    have fin:=KB.done hQ
    simp(disch:=first|omega|assumption) only[g44,h54,Ne.symm h54,go_sem]
    exact fin _ _ [.agg (cTy (yg ty))] (by simp(disch:=first|omega|assumption) only[ir39,resvs,resv,cTy,yg,go_sem]) (KU.box hb4 _) (by simp[tupOf,envOf,AV.strip,AV.strip1,cTy])
   | true =>
    have e2:yF L (yg ty) (zw L [93] s1)=(⟨((yg ty)).nm,((yg ty)).lists,or1 ((yg ty)).musts⟩,zw L [33] (zw L [93] s1)):=by simp[yF,hb]
    rw[e2] at e
    rw[e] at hQ
    have fin:=KB.done hQ
    simp(disch:=first|omega|assumption) only[go_sem]
    refine goK_ret (Yi hl KU.here [33]) fun v HY ⟨hvY,hY⟩=>?_
    subst hvY
    have KY:=KU.step hY
    have gY4:=oth hY n4 GU4
    have gY5:=oth hY n5 GU5
    simp(disch:=first|omega|assumption) only[gY4,gY5,h54,Ne.symm h54,go_sem]
    exact fin _ _ [.agg (cTy ⟨((yg ty)).nm,((yg ty)).lists,or1 ((yg ty)).musts⟩)] (by simp(disch:=first|omega|assumption) only[ir39,resvs,resv,cTy,or1,yg,go_sem]) ((KY.box hb5H _).box hb4 _) (by simp[tupOf,envOf,AV.strip,AV.strip1,cTy])
 | false =>
  have e:ZY L k s=yF L ⟨(zt L s).1,0,0⟩ (zt L s).2:=by cases k<;>simp[ZY,hi]
  simp(disch:=first|omega|assumption) only[go_sem]
  refine goK_ret (zex hl K2.here) fun v H2 ⟨hv,h2⟩=>?_
  subst hv
  have K3:=K2.step h2
  have g25:=oth h2 n5 g5
  have g24:=oth h2 n4 g4
  simp(disch:=first|omega|assumption) only[g25,go_sem]
  have KU:=K3.box hb5H (.cells [.str (zt L s).1,.int .i64 0,.int .i64 0])
  have GU5:(H2.upd b5 (.cells [.str (zt L s).1,.int .i64 0,.int .i64 0])) b5=_:=upd_same ..
  have GU4:(H2.upd b5 (.cells [.str (zt L s).1,.int .i64 0,.int .i64 0])) b4=_:=(upd_ne (Ne.symm h54)).trans g24
  refine goK_ret (zcp hl KU.here [33]) fun v HX ⟨hvX,hHX⟩=>?_
  subst hvX;subst hHX
  cases hb:isS L [33] (zt L s).2 with
  | false =>
   have e2:yF L (⟨(zt L s).1,0,0⟩:TyD) (zt L s).2=((⟨(zt L s).1,0,0⟩:TyD),(zt L s).2):=by simp[yF,hb]
   rw[e2] at e
   rw[e] at hQ
   have fin:=KB.done hQ
   simp(disch:=first|omega|assumption) only[g24,h54,Ne.symm h54,go_sem]
   exact fin _ _ [.agg (cTy (⟨(zt L s).1,0,0⟩:TyD))] (by simp(disch:=first|omega|assumption) only[ir39,resvs,resv,cTy,yg,go_sem]) (KU.box hb4 _) (by simp[tupOf,envOf,AV.strip,AV.strip1,cTy])
  | true =>
   have e2:yF L (⟨(zt L s).1,0,0⟩:TyD) (zt L s).2=(⟨((⟨(zt L s).1,0,0⟩:TyD)).nm,((⟨(zt L s).1,0,0⟩:TyD)).lists,or1 ((⟨(zt L s).1,0,0⟩:TyD)).musts⟩,zw L [33] (zt L s).2):=by simp[yF,hb]
   rw[e2] at e
   rw[e] at hQ
   have fin:=KB.done hQ
   simp(disch:=first|omega|assumption) only[go_sem]
   refine goK_ret (Yi hl KU.here [33]) fun v HY ⟨hvY,hY⟩=>?_
   subst hvY
   have KY:=KU.step hY
   have gY4:=oth hY n4 GU4
   have gY5:=oth hY n5 GU5
   simp(disch:=first|omega|assumption) only[gY4,gY5,h54,Ne.symm h54,go_sem]
   exact fin _ _ [.agg (cTy ⟨((⟨(zt L s).1,0,0⟩:TyD)).nm,((⟨(zt L s).1,0,0⟩:TyD)).lists,or1 ((⟨(zt L s).1,0,0⟩:TyD)).musts⟩)] (by simp(disch:=first|omega|assumption) only[ir39,resvs,resv,cTy,or1,yg,go_sem]) ((KY.box hb5H _).box hb4 _) (by simp[tupOf,envOf,AV.strip,AV.strip1,cTy])
theorem zio {L:TS} {r:Nat} (hl:wT L≤zp):∀ k,k≤4→zi3 L r k
 | 0,h=>zg1 hl 0 h fun n e=>nomatch e
 | k+1,h=>zg1 hl (k+1) h fun n e=>by
  obtain rfl:n=k:=by omega
  exact zio hl _ (by omega)
def zhD (L:TS) (r:Nat) (fixed:Bool) (k:Nat):Prop:=∀ {H:Heap} {s:St},H r=some (poc L s)→(s.e=0→s.dp=16-(k:Int)) →
 ACalls Tryz.prog 35 [.ptr r 0,.bool fixed] H (PQ H r L (.agg (cV (yX L fixed k s).1)) (yX L fixed k s).2)
theorem zhI {L:TS} {s:St} {D:Int} (h:s.e=0→s.dp=D):(zt L s).2.e=0→(zt L s).2.dp=D:=by
 unfold zt yM stepS
 split
 ·exact h
 ·split
  ·intro e;simp at e
  ·exact h
theorem zhB {L:TS} {m:List UInt8} {s:St} {D:Int} (h:s.e=0→s.dp=D):(zw L m s).e=0→(zw L m s).dp=D:=by
 unfold zw yM stepS
 split
 ·exact h
 ·split
  ·intro e;simp at e
  ·exact h
theorem zg0 {L:TS} {H:Heap} {r:Nat} {s:St} {fixed:Bool} {k:Nat} (hl:wT L≤zp) (hv:zhD L r fixed k) (hr:H r=some (poc L s)) (hd:s.e=0→s.dp=16-(k:Int)) :
  ACalls Tryz.prog 96 [.ptr r 0,.bool fixed] H (PQ H r L (.agg (cM (Zo L (yX L fixed k) s).1)) (Zo L (yX L fixed k) s).2):=by
 refine ACalls.go ir96 ck96 (Al4 _) fun KP Q hQ=>?_
 have fin:=KB.done hQ
 have K0:=KB.start hr
 simp(disch:=first|omega|assumption) only[ir96,go_sem]
 refine goA_intro fun b4 hb4=>?_
 have n4:=K0.ne hb4
 simp(disch:=first|omega|assumption) only[go_sem]
 refine goK_ret (zex hl (K0.box hb4 _).here) fun v H1 ⟨hv1,h1⟩=>?_
 subst hv1
 have K1:=(K0.box hb4 _).step h1
 have g1:=oth h1 n4 (upd_same ..)
 simp(disch:=first|omega|assumption) only[go_sem]
 refine goA_intro fun b5 hb5=>?_
 have h54:b5≠b4:=fun e=>by subst e;rw[g1] at hb5;cases hb5
 have hb5H:H b5=none:=K1.none hb5
 have n5:=K0.ne hb5H
 simp(disch:=first|omega|assumption) only[go_sem]
 refine goK_ret (Yi hl (K1.box hb5H _).here _) fun v H2 ⟨hv2,h2⟩=>?_
 subst hv2
 have K2:=(K1.box hb5H _).step h2
 have g25:=oth h2 n5 (upd_same ..)
 have g24:=oth h2 n4 ((upd_ne (Ne.symm h54)).trans g1)
 simp(disch:=first|omega|assumption) only[go_sem]
 refine goK_ret (hv K2.here (zhB (zhI hd))) fun v H3 ⟨hv3,h3⟩=>?_
 subst hv3
 have K3:=K2.step h3
 have g35:=oth h3 n5 g25
 have g34:=oth h3 n4 g24
 simp(disch:=first|omega|assumption) only[zi,zd,zb,zj,ze,za,zq,g35,g34,h54,Ne.symm h54,go_sem]
 refine fin _ _ [.agg (.str (zt L s).1::cV (yX L fixed k (zw L [58] (zt L s).2)).1)] (by simp(disch:=first|omega|assumption) only[zi,zd,zb,zj,ze,za,zq,ir96,resvs,resv,go_sem]) ((K3.box hb5H _).box hb4 _) ?_
 simp[tupOf,AV.strip,AV.strip1,Zo,zq,yk]
def ziD (L:TS) (fixed:Bool):Nat→St→Val×St
 | 0,s=>(.mk 6 0 [] [] [],ZD L [93] (zY L [91] s))
 | k+1,s=>zgL L (yX L fixed k) (zY L [91] s)
def mpS (L:TS) (fixed:Bool):Nat→St→Val×St
 | 0,s=>(.mk 7 0 [] [] [],ZD L [125] (zY L [123] s))
 | k+1,s=>ziO L (yX L fixed k) (zY L [123] s)
theorem zhM (L:TS) (fixed:Bool) (k:Nat) (s:St):yX L fixed k s=if (s.hd L).k=3∨(s.hd L).k=4∨(s.hd L).k=5∨(s.hd L).k=2 then Z2 L s
  else if isS L [36] s&&!fixed then ZA L s
  else if isS L [91] s then ziD L fixed k s
  else if isS L [123] s then mpS L fixed k s
  else (zV,yM 2 s):=by cases k<;>rfl
theorem zjo (L:TS) (s:St):(s.hd L).s.length≤wT L:=by
 unfold St.hd
 split
 ·exact zjN (p:=L.take s.i) (List.take_append_drop ..)
 ·simp
abbrev zB5:List AV:=[.int .i64 0,.int .i64 0,.str [],.sl .nil 5 [],.sl .nil 6 []]
theorem zfi {L:TS} {m:List UInt8} {s:St} {k:Nat} (hk:k≤16) (h:s.e=0→s.dp=16-(k:Int)):(zY L m s).e=0→∃ n,k=n+1∧(zY L m s).dp=16-(n:Int):=by
 intro he
 obtain⟨i,d,e⟩:=s
 simp only at h
 by_cases h0:e=0
 ·subst h0
  obtain rfl:=h rfl
  cases hp:isP m (L.drop i) with
  | false=>rw[zeg hp] at he;exact absurd he (by decide)
  | true =>
   cases k with
   | zero=>exact absurd he zfY
   | succ n =>
    refine⟨n,rfl,?_⟩
    rw[zbO hp (by omega) (by omega)]
    simp only;omega
 ·rw[zfI h0] at he;exact absurd he h0
set_option maxHeartbeats 1000000 in
theorem zdK {L:TS} {r:Nat} (hl:wT L≤zp) (hn:∀ x∈L,zcQ x) (fixed:Bool) (k:Nat) (hk:k≤16) (ih:∀ n,k=n+1→zhD L r fixed n):zhD L r fixed k:=by
 intro H s hr hd
 refine ACalls.go ir35 ck35 (Al4 _) fun KP Q hQ=>?_
 have hll:L.length≤zp:=Nat.le_trans (yY L) hl
 simp only[zp] at hll
 have hsl:=zjo L s
 have hlP:=hl
 simp only[zp] at hlP
 have K0:=KB.start hr
 have ev:=zhM L fixed k s
 simp(disch:=first|omega|assumption) only[ir35,go_sem]
 refine goA_intro fun b4 hb4=>?_
 have n4:=K0.ne hb4
 have n4s:=Ne.symm n4
 simp(disch:=first|omega|assumption) only[go_sem]
 refine goK_ret (zhe hl (K0.box hb4 _).here) fun v H1 ⟨hv,hH⟩=>?_
 subst hv;subst hH
 simp(disch:=first|omega|assumption) only[zv,go_sem]
 refine goA_intro fun b5 hb5=>?_
 have h54:b5≠b4:=fun e=>by subst e;rw[upd_same] at hb5;cases hb5
 have hb5H:H b5=none:=by rw[upd_ne h54] at hb5;exact hb5
 have n5:=K0.ne hb5H
 have n5s:=Ne.symm n5
 obtain⟨H0,hH0⟩:∃ H0,H0=(H.upd b4 (.cells zB5)).upd b5 (.cells [.int .i64 (s.hd L).k,.str (s.hd L).s]):=⟨_,rfl⟩
 have K2:KB H r (poc L s) H0:=by rw[hH0];exact(K0.box hb4 _).box hb5H _
 have g5:H0 b5=some (.cells [.int .i64 (s.hd L).k,.str (s.hd L).s]):=by rw[hH0,upd_same]
 have g4:H0 b4=some (.cells zB5):=by rw[hH0,upd_ne (Ne.symm h54),upd_same]
 simp(disch:=first|omega|assumption) only[go_sem]
 try simp only[upd_upd]
 try rw[← hH0]
 clear hH0
 have gr:=K2.here
 simp only[poc] at gr
 simp only[zB5] at g4
 have ep:poc L (stepS s)=.cells [.sl .no 2 (cKs L),.int .i64 ((s.i:Int)+1),.int .i64 s.dp,.int .i64 s.e]:=by simp[poc,stepS]
 by_cases hkl:(s.hd L).k=3∨(s.hd L).k=4∨(s.hd L).k=5∨(s.hd L).k=2
 ·rw[if_pos hkl] at ev
  have hi:=(ziK (L:=L) (s:=s) (by omega)).2
  have KE:=K2.call (poc L (stepS s))
  rw[ep] at KE
  by_cases hk3:(s.hd L).k=3
  ·have el:Z2 L s=(YK (s.hd L),stepS s):=by simp[Z2,hk3]
   rw[ev,el] at hQ
   have fin:=KB.done hQ
   rw[ep] at fin
   have hk3':=eq_true hk3
   simp(disch:=first|omega|assumption) only[hk3',g5,gr,wrap64,n5,n5s,n4,n4s,go_sem]
   refine goK_pure (ziM (s.hd L).s (by simp only[Lim];omega)) ?_
   cases h2:(Y1 (s.hd L).s).2 with
   | true =>
    have e3:YK (s.hd L)=.mk 2 (Y1 (s.hd L).s).1 [] [] []:=by simp[YK,hk3,h2]
    rw[e3] at fin
    simp(disch:=first|omega|assumption) only[go_sem]
    refine goK_pure (zj9 _) ?_
    simp(disch:=first|omega|assumption) only[zi,zd,zb,zj,ze,za,zq,g4,n4,n4s,go_sem]
    refine fin _ _ [.agg (cV (.mk 2 (Y1 (s.hd L).s).1 [] [] []))] (by simp(disch:=first|omega|assumption) only[zi,zd,zb,zj,ze,za,zq,ir35,resvs,resv,cV,cVs,cMs,go_sem]) (KE.box hb4 _) ?_
    simp[tupOf,AV.strip,yk]
   | false =>
    have e3:YK (s.hd L)=.mk 3 0 (s.hd L).s [] []:=by simp[YK,h2]
    rw[e3] at fin
    simp(disch:=first|omega|assumption) only[g4,g5,n4,n4s,n5,n5s,go_sem]
    refine fin _ _ [.agg [.int .i64 3,.int .i64 0,.str (s.hd L).s,.sl .nil 5 [],.sl .nil 6 []]] (by simp(disch:=first|omega|assumption) only[ir35,resvs,resv,go_sem]) (KE.box hb4 _) ?_
    simp[tupOf,AV.strip,AV.strip1,cV,cVs,cMs,ZA,zV]
  by_cases hk4:(s.hd L).k=4
  ·have el:Z2 L s=(YK (s.hd L),stepS s):=by simp[Z2,hk4]
   have e3:YK (s.hd L)=.mk 3 0 (s.hd L).s [] []:=by simp[YK,hk4]
   rw[ev,el,e3] at hQ
   have fin:=KB.done hQ
   rw[ep] at fin
   have hk4':=eq_true hk4
   simp(disch:=first|omega|assumption) only[hk3,hk4',g5,gr,wrap64,n5,n5s,n4,n4s,go_sem]
   simp(disch:=first|omega|assumption) only[g4,g5,n4,n4s,n5,n5s,go_sem]
   refine fin _ _ [.agg [.int .i64 3,.int .i64 0,.str (s.hd L).s,.sl .nil 5 [],.sl .nil 6 []]] (by simp(disch:=first|omega|assumption) only[ir35,resvs,resv,go_sem]) (KE.box hb4 _) ?_
   simp[tupOf,AV.strip,AV.strip1,cV,cVs,cMs,ZA,zV]
  by_cases hk5:(s.hd L).k=5
  ·have el:Z2 L s=(.mk 4 0 (s.hd L).s [] [],stepS s):=by simp[Z2,hk5]
   rw[ev,el] at hQ
   have fin:=KB.done hQ
   rw[ep] at fin
   have hk5':=eq_true hk5
   simp(disch:=first|omega|assumption) only[hk3,hk4,hk5',g5,gr,wrap64,n5,n5s,n4,n4s,go_sem]
   refine goK_pure (zjE _) ?_
   simp(disch:=first|omega|assumption) only[zi,zd,zb,zj,ze,za,zq,g4,n4,n4s,go_sem]
   refine fin _ _ [.agg (cV (.mk 4 0 (s.hd L).s [] []))] (by simp(disch:=first|omega|assumption) only[zi,zd,zb,zj,ze,za,zq,ir35,resvs,resv,cV,cVs,cMs,go_sem]) (KE.box hb4 _) ?_
   simp[tupOf,AV.strip,yk]
  ·have hk2:(s.hd L).k=2:=by omega
   have el:Z2 L s=(yE (s.hd L).s,stepS s):=by simp[Z2,hk2]
   rw[ev,el] at hQ
   have fin:=KB.done hQ
   rw[ep] at fin
   have hk2':=eq_true hk2
   by_cases w1:(s.hd L).s=[110,117,108,108]
   ·have e3:yE (s.hd L).s=.mk 0 0 [] [] []:=by rw[yE,if_pos w1];rfl
    rw[e3] at fin
    simp(disch:=first|omega|assumption) only[hk3,hk4,hk5,hk2',g5,gr,wrap64,n5,n5s,n4,n4s,w1,go_sem]
    simp(disch:=first|omega|assumption) only[g4,g5,n4,n4s,n5,n5s,go_sem]
    refine fin _ _ [.agg [.int .i64 0,.int .i64 0,.str [],.sl .nil 5 [],.sl .nil 6 []]] (by simp(disch:=first|omega|assumption) only[ir35,resvs,resv,go_sem]) (KE.box hb4 _) ?_
    simp[tupOf,AV.strip,AV.strip1,cV,cVs,cMs,ZA,zV]
   by_cases w2:(s.hd L).s=[116,114,117,101]
   ·have e3:yE (s.hd L).s=.mk 1 1 [] [] []:=by rw[yE,if_neg w1,if_pos w2]
    rw[e3] at fin
    have w2':=eq_true w2
    simp(disch:=first|omega|assumption) only[hk3,hk4,hk5,hk2',g5,gr,wrap64,n5,n5s,n4,n4s,w1,w2',go_sem]
    simp(disch:=first|omega|assumption) only[g4,g5,n4,n4s,n5,n5s,go_sem]
    refine fin _ _ [.agg [.int .i64 1,.int .i64 1,.str [],.sl .nil 5 [],.sl .nil 6 []]] (by simp(disch:=first|omega|assumption) only[ir35,resvs,resv,go_sem]) (KE.box hb4 _) ?_
    simp[tupOf,AV.strip,AV.strip1,cV,cVs,cMs,ZA,zV]
   by_cases w3:(s.hd L).s=[102,97,108,115,101]
   ·have e3:yE (s.hd L).s=.mk 1 0 [] [] []:=by rw[yE,if_neg w1,if_neg w2,if_pos w3]
    rw[e3] at fin
    have w3':=eq_true w3
    simp(disch:=first|omega|assumption) only[hk3,hk4,hk5,hk2',g5,gr,wrap64,n5,n5s,n4,n4s,w1,w2,w3',go_sem]
    simp(disch:=first|omega|assumption) only[g4,g5,n4,n4s,n5,n5s,go_sem]
    refine fin _ _ [.agg [.int .i64 1,.int .i64 0,.str [],.sl .nil 5 [],.sl .nil 6 []]] (by simp(disch:=first|omega|assumption) only[ir35,resvs,resv,go_sem]) (KE.box hb4 _) ?_
    simp[tupOf,AV.strip,AV.strip1,cV,cVs,cMs,ZA,zV]
   ·have e3:yE (s.hd L).s=.mk 5 0 (s.hd L).s [] []:=by rw[yE,if_neg w1,if_neg w2,if_neg w3]
    rw[e3] at fin
    simp(disch:=first|omega|assumption) only[hk3,hk4,hk5,hk2',g5,gr,wrap64,n5,n5s,n4,n4s,w1,w2,w3,go_sem]
    simp(disch:=first|omega|assumption) only[g4,g5,n4,n4s,n5,n5s,go_sem]
    refine fin _ _ [.agg [.int .i64 5,.int .i64 0,.str (s.hd L).s,.sl .nil 5 [],.sl .nil 6 []]] (by simp(disch:=first|omega|assumption) only[ir35,resvs,resv,go_sem]) (KE.box hb4 _) ?_
    simp[tupOf,AV.strip,AV.strip1,cV,cVs,cMs,ZA,zV]
 rw[if_neg hkl] at ev
 have hk3:¬ ((s.hd L).k=3):=fun h=>hkl (.inl h)
 have hk4:¬ ((s.hd L).k=4):=fun h=>hkl (.inr (.inl h))
 have hk5:¬ ((s.hd L).k=5):=fun h=>hkl (.inr (.inr (.inl h)))
 have hk2:¬ ((s.hd L).k=2):=fun h=>hkl (.inr (.inr (.inr h)))
 simp(disch:=first|omega|assumption) only[hk3,hk4,hk5,hk2,g5,go_sem]
 refine goK_ret (zcp hl K2.here [36]) fun v H1 ⟨hv,hH⟩=>?_
 subst hv;subst hH
 by_cases hvv:isS L [36] s=true∧fixed=false
 ·obtain⟨hdl,hfx⟩:=hvv
  subst hfx
  rw[hdl] at ev
  have e:yX L false k s=ZA L s:=ev
  rw[e] at hQ
  have fin:=KB.done hQ
  rw[hdl]
  simp(disch:=first|omega|assumption) only[go_sem]
  refine goK_ret (Yi hl K2.here _) fun v H2 ⟨hv,h2⟩=>?_
  subst hv
  have K3:=K2.step h2
  have g24:=oth h2 n4 g4
  simp(disch:=first|omega|assumption) only[go_sem]
  refine goK_ret (zex hl K3.here) fun v H3 ⟨hv,h3⟩=>?_
  subst hv
  have KE:=K3.step h3
  have g34:=oth h3 n4 g24
  simp(disch:=first|omega|assumption) only[g34,go_sem]
  refine fin _ _ [.agg [.int .i64 8,.int .i64 0,.str (zt L (zw L [36] s)).1,.sl .nil 5 [],.sl .nil 6 []]] (by simp(disch:=first|omega|assumption) only[ir35,resvs,resv,go_sem]) (KE.box hb4 _) ?_
  simp[tupOf,AV.strip,AV.strip1,cV,cVs,cMs,ZA,zV]
 have ev2:yX L fixed k s=if isS L [91] s then ziD L fixed k s else if isS L [123] s then mpS L fixed k s else (zV,yM 2 s):=by
  rw[ev,if_neg]
  intro h
  simp only[Al0,Bool.not_eq_true'] at h
  exact hvv h
 have hvc:(isS L [36] s=true∧fixed=true)∨isS L [36] s=false:=by
  cases h:isS L [36] s with
  | false=>exact .inr rfl
  | true =>
   cases fixed with
   | true=>exact .inl ⟨rfl,rfl⟩
   | false=>exact absurd ⟨h,rfl⟩ hvv
 clear ev hvv
 rcases hvc with ⟨hdl,hfx⟩|hdl<;>rw[hdl]
 have hnf:(!fixed)=false:=by rw[hfx];rfl
 simp(disch:=first|omega|assumption) only[hnf,go_sem]
 rotate_left
 simp(disch:=first|omega|assumption) only[go_sem]
 all_goals
  refine goK_ret (zcp hl K2.here [91]) fun v H1 ⟨hv,hH⟩=>?_
  subst hv;subst hH
  cases hb:isS L [91] s with
  | true =>
   rw[hb,if_pos rfl] at ev2
   simp(disch:=first|omega|assumption) only[go_sem]
   refine goA_intro fun b8 hb8=>?_
   have hb8H:=K2.none hb8
   have n8:=K0.ne hb8H
   have h84:b8≠b4:=fun e=>by subst e;rw[g4] at hb8;cases hb8
   simp(disch:=first|omega|assumption) only[go_sem]
   refine goK_ret (zgq hl (K2.box hb8H _).here _) fun v H2 ⟨hv,h2⟩=>?_
   subst hv
   have K3:=(K2.box hb8H _).step h2
   have g8:=oth h2 n8 (upd_same ..)
   have g4:=oth h2 n4 ((upd_ne (Ne.symm h84)).trans g4)
   by_cases he:(zY L [91] s).e=0
   ·obtain⟨n,rfl,hdp⟩:=zfi hk hd he
    obtain⟨R,hR⟩:∃ R,yO L [93] false (yX L fixed n) (L.length+2) [] (zY L [91] s)=R:=⟨_,rfl⟩
    have eR:yX L fixed (n+1) s=(.mk 6 0 [] R.1 [],ZD L [93] R.2):=by rw[ev2,← hR];rfl
    have hs:=zb1 hn fixed n (by omega)
    have hlt:=(yb fixed n).lt (by decide)
    simp(disch:=first|omega|assumption) only[go_sem]
    refine goL_st (fun x:Own×List Val×St=>[]) (fun x H'=>KBO H r (poc L x.2.2) H' x.1 x.2.1.length 5∧H' b8=some (.cells [.int .i64 6,.int .i64 0,.str [],.sl x.1 5 (cVs x.2.1),.sl .nil 6 []])∧H' b4=some (.cells zB5)∧LI L [93] false (yX L fixed n) (16-(n:Int)) R x.2.1 x.2.2) (fun x=>mS L x.2.2) (.nil,[],zY L [91] s) (by simp(disch:=first|omega|assumption) only[go_sem]) ⟨⟨K3,rfl,nofun⟩,g8,g4,LI.start (fun _=>hdp) hR⟩ ?_
    rintro⟨o,l,u⟩ H3 J ⟨K3,g8,g4,I3⟩ hJ
    simp only at K3 g8 g4 I3
    have gr:=K3.here
    simp only[poc] at gr
    simp only[zB5] at g4
    have hcl:=zbC l
    by_cases hue:u.e=0
    case neg =>
     simp(disch:=first|omega|assumption) only[gr,hue,go_sem]
     have e1:=I3.stop (by (exact fun h=>hue h.1))
     rw[e1] at eR
     try simp(disch:=first|omega|assumption) only[go_sem]
     refine goK_ret (za7 hl K3.here [93]) fun v H4 ⟨hv,h4⟩=>?_
     subst hv
     have K4:=K3.toKB.step h4
     have g48:=oth h4 n8 g8
     have g44:=oth h4 n4 g4
     rw[eR] at hQ
     have fin:=KB.done hQ
     simp(disch:=first|omega|assumption) only[g48,g44,h84,Ne.symm h84,go_sem]
     refine fin _ _ [.agg [.int .i64 6,.int .i64 0,.str [],.sl o 5 (cVs l),.sl .nil 6 []]] (by simp(disch:=first|omega|assumption) only[ir35,resvs,resv,go_sem]) (K4.box hb4 _) ?_
     simp[tupOf,AV.strip,AV.strip1,cV,cVs,cMs,zbs]
    simp(disch:=first|omega|assumption) only[gr,hue,go_sem]
    refine goK_ret (zcp hl K3.here _) fun v H4 ⟨hv,hH⟩=>?_
    subst hv;subst hH
    cases hj:isS L [93] u with
    | true =>
     have e1:=I3.stop (by (rintro⟨_,⟨h,_⟩|h⟩;cases h;rw[hj] at h;cases h))
     rw[e1] at eR
     try simp(disch:=first|omega|assumption) only[go_sem]
     refine goK_ret (za7 hl K3.here [93]) fun v H4 ⟨hv,h4⟩=>?_
     subst hv
     have K4:=K3.toKB.step h4
     have g48:=oth h4 n8 g8
     have g44:=oth h4 n4 g4
     rw[eR] at hQ
     have fin:=KB.done hQ
     simp(disch:=first|omega|assumption) only[g48,g44,h84,Ne.symm h84,go_sem]
     refine fin _ _ [.agg [.int .i64 6,.int .i64 0,.str [],.sl o 5 (cVs l),.sl .nil 6 []]] (by simp(disch:=first|omega|assumption) only[ir35,resvs,resv,go_sem]) (K4.box hb4 _) ?_
     simp[tupOf,AV.strip,AV.strip1,cV,cVs,cMs,zbs]
    | false =>
     obtain⟨I4,hm,hl4⟩:=I3.next ⟨hue,.inr hj⟩ hs hlt
     simp(disch:=first|omega|assumption) only[g8,go_sem]
     refine goK_ret (ih n rfl K3.here I3.dp) fun v H5 ⟨hv,h5⟩=>?_
     subst hv
     have K5:=K3.step h5
     have g85:=oth h5 n8 g8
     have g45:=oth h5 n4 g4
     simp(disch:=first|omega|assumption) only[zi,zd,zb,zj,ze,za,zq,g85,go_sem]
     refine goP_ownS (by rw[hcl];exact K5.own) (by simp only[hcl,Al2,Al3];omega) (by simp only[hcl,Al2,Al3,maxLen];omega) fun o6 H6 hs6=>?_
     have K6:=K5.app (by simpa[hcl] using hs6)
     have g86:=K5.stay hs6 g85
     have g46:=K5.stay hs6 g45
     simp(disch:=first|omega|assumption) only[zi,zd,zb,zj,ze,za,zq,g86,go_sem]
     refine goJ (hJ (o6,l++[_],_) _ hm ⟨by simpa using K6.box hb8H g86,by rw[upd_same];simp[YZ,yk],by rw[upd_ne (Ne.symm h84)];exact g46,I4⟩) (by simp(disch:=first|omega|assumption) only[go_sem])
   ·have eR:yX L fixed k s=(.mk 6 0 [] [] [],ZD L [93] (zY L [91] s)):=by
     rw[ev2]
     cases k with
     | zero=>rfl
     | succ n=>simp only[ziD,zgL];rw[zbr he]
    rw[eR] at hQ
    have fin:=KB.done hQ
    simp(disch:=first|omega|assumption) only[go_sem]
    refine goL_st (fun x:Unit=>[]) (fun x H'=>H'=H2) (fun x=>0) () (by simp(disch:=first|omega|assumption) only[go_sem]) rfl ?_
    rintro _ H3 J hH hJ
    subst hH
    have gr:=K3.here
    simp only[poc] at gr
    simp(disch:=first|omega|assumption) only[gr,he,go_sem]
    refine goK_ret (za7 hl K3.here _) fun v H4 ⟨hv,h4⟩=>?_
    subst hv
    have KE:=K3.step h4
    have g48:=oth h4 n8 g8
    have g44:=oth h4 n4 g4
    simp(disch:=first|omega|assumption) only[g48,g44,h84,Ne.symm h84,go_sem]
    refine fin _ _ [.agg [.int .i64 6,.int .i64 0,.str [],.sl .nil 5 [],.sl .nil 6 []]] (by simp(disch:=first|omega|assumption) only[ir35,resvs,resv,go_sem]) (KE.box hb4 _) ?_
    simp[tupOf,AV.strip,AV.strip1,cV,cVs,cMs,ZA,zV]
  | false =>
   rw[hb] at ev2
   simp only[Al7,if_false] at ev2
   simp(disch:=first|omega|assumption) only[go_sem]
   refine goK_ret (zcp hl K2.here [123]) fun v H1 ⟨hv,hH⟩=>?_
   subst hv;subst hH
   cases hc:isS L [123] s with
   | true =>
    rw[hc,if_pos rfl] at ev2
    simp(disch:=first|omega|assumption) only[go_sem]
    refine goK_ret (zgq hl K2.here _) fun v H2 ⟨hv,h2⟩=>?_
    subst hv
    have K3:=K2.step h2
    have g4:=oth h2 n4 g4
    simp(disch:=first|omega|assumption) only[go_sem]
    refine goA_intro fun b8 hb8=>?_
    have hb8H:=K3.none hb8
    have n8:=K0.ne hb8H
    have h84:b8≠b4:=fun e=>by subst e;rw[g4] at hb8;cases hb8
    by_cases he:(zY L [123] s).e=0
    ·obtain⟨n,rfl,hdp⟩:=zfi hk hd he
     obtain⟨R,hR⟩:∃ R,yO L [125] false (Zo L (yX L fixed n)) (L.length+2) [] (zY L [123] s)=R:=⟨_,rfl⟩
     have eR:yX L fixed (n+1) s=(.mk 7 0 [] [] R.1,ZD L [125] R.2):=by rw[ev2,← hR];rfl
     have hs:=zbt (zb1 hn fixed n (by omega))
     have hlt:=(z8 (yb fixed n)).lt (by decide)
     simp(disch:=first|omega|assumption) only[go_sem]
     refine goL_st (fun x:Own×List Mem×St=>[]) (fun x H'=>KBO H r (poc L x.2.2) H' x.1 x.2.1.length 6∧H' b8=some (.cells [.int .i64 7,.int .i64 0,.str [],.sl .nil 5 [],.sl x.1 6 (cMs x.2.1)])∧H' b4=some (.cells zB5)∧LI L [125] false (Zo L (yX L fixed n)) (16-(n:Int)) R x.2.1 x.2.2) (fun x=>mS L x.2.2) (.nil,[],zY L [123] s) (by simp(disch:=first|omega|assumption) only[go_sem]) ⟨⟨K3.box hb8H _,rfl,nofun⟩,upd_same ..,(upd_ne (Ne.symm h84)).trans g4,LI.start (fun _=>hdp) hR⟩ ?_
     rintro⟨o,l,u⟩ H3 J ⟨K3,g8,g4,I3⟩ hJ
     simp only at K3 g8 g4 I3
     have gr:=K3.here
     simp only[poc] at gr
     simp only[zB5] at g4
     have hcl:=zaM l
     by_cases hue:u.e=0
     case neg =>
      simp(disch:=first|omega|assumption) only[gr,hue,go_sem]
      have e1:=I3.stop (by (exact fun h=>hue h.1))
      rw[e1] at eR
      try simp(disch:=first|omega|assumption) only[go_sem]
      refine goK_ret (za7 hl K3.here [125]) fun v H4 ⟨hv,h4⟩=>?_
      subst hv
      have K4:=K3.toKB.step h4
      have g48:=oth h4 n8 g8
      have g44:=oth h4 n4 g4
      rw[eR] at hQ
      have fin:=KB.done hQ
      simp(disch:=first|omega|assumption) only[g48,g44,h84,Ne.symm h84,go_sem]
      refine fin _ _ [.agg [.int .i64 7,.int .i64 0,.str [],.sl .nil 5 [],.sl o 6 (cMs l)]] (by simp(disch:=first|omega|assumption) only[ir35,resvs,resv,go_sem]) (K4.box hb4 _) ?_
      simp[tupOf,AV.strip,AV.strip1,cV,cVs,cMs,YM]
     simp(disch:=first|omega|assumption) only[gr,hue,go_sem]
     refine goK_ret (zcp hl K3.here _) fun v H4 ⟨hv,hH⟩=>?_
     subst hv;subst hH
     cases hj:isS L [125] u with
     | true =>
      have e1:=I3.stop (by (rintro⟨_,⟨h,_⟩|h⟩;cases h;rw[hj] at h;cases h))
      rw[e1] at eR
      try simp(disch:=first|omega|assumption) only[go_sem]
      refine goK_ret (za7 hl K3.here [125]) fun v H4 ⟨hv,h4⟩=>?_
      subst hv
      have K4:=K3.toKB.step h4
      have g48:=oth h4 n8 g8
      have g44:=oth h4 n4 g4
      rw[eR] at hQ
      have fin:=KB.done hQ
      simp(disch:=first|omega|assumption) only[g48,g44,h84,Ne.symm h84,go_sem]
      refine fin _ _ [.agg [.int .i64 7,.int .i64 0,.str [],.sl .nil 5 [],.sl o 6 (cMs l)]] (by simp(disch:=first|omega|assumption) only[ir35,resvs,resv,go_sem]) (K4.box hb4 _) ?_
      simp[tupOf,AV.strip,AV.strip1,cV,cVs,cMs,YM]
     | false =>
      obtain⟨I4,hm,hl4⟩:=I3.next ⟨hue,.inr hj⟩ hs hlt
      simp(disch:=first|omega|assumption) only[g8,go_sem]
      refine goK_ret (zg0 hl (ih n rfl) K3.here I3.dp) fun v H5 ⟨hv,h5⟩=>?_
      subst hv
      have K5:=K3.step h5
      have g85:=oth h5 n8 g8
      have g45:=oth h5 n4 g4
      simp(disch:=first|omega|assumption) only[zi,zd,zb,zj,ze,za,zq,g85,go_sem]
      refine goP_ownS (by rw[hcl];exact K5.own) (by simp only[hcl,Al2,Al3];omega) (by simp only[hcl,Al2,Al3,maxLen];omega) fun o6 H6 hs6=>?_
      have K6:=K5.app (by simpa[hcl] using hs6)
      have g86:=K5.stay hs6 g85
      have g46:=K5.stay hs6 g45
      simp(disch:=first|omega|assumption) only[zi,zd,zb,zj,ze,za,zq,g86,go_sem]
      refine goJ (hJ (o6,l++[_],_) _ hm ⟨by simpa using K6.box hb8H g86,by rw[upd_same];simp[Yc,Yu],by rw[upd_ne (Ne.symm h84)];exact g46,I4⟩) (by simp(disch:=first|omega|assumption) only[go_sem])
    ·have eR:yX L fixed k s=(.mk 7 0 [] [] [],ZD L [125] (zY L [123] s)):=by
      rw[ev2]
      cases k with
      | zero=>rfl
      | succ n=>simp only[mpS,ziO];rw[zbr he]
     rw[eR] at hQ
     have fin:=KB.done hQ
     simp(disch:=first|omega|assumption) only[go_sem]
     refine goL_st (fun x:Unit=>[]) (fun x H'=>H'=H2.upd b8 (.cells [.int .i64 7,.int .i64 0,.str [],.sl .nil 5 [],.sl .nil 6 []])) (fun x=>0) () (by simp(disch:=first|omega|assumption) only[go_sem]) rfl ?_
     rintro _ H3 J hH hJ
     have K3:=K3.box hb8H (.cells [.int .i64 7,.int .i64 0,.str [],.sl .nil 5 [],.sl .nil 6 []])
     rw[← hH] at K3
     have g8:H3 b8=some (.cells [.int .i64 7,.int .i64 0,.str [],.sl .nil 5 [],.sl .nil 6 []]):=by rw[hH,upd_same]
     have g4:H3 b4=some (.cells zB5):=by rw[hH,upd_ne (Ne.symm h84),g4]
     have gr:=K3.here
     simp only[poc] at gr
     simp(disch:=first|omega|assumption) only[gr,he,go_sem]
     refine goK_ret (za7 hl K3.here _) fun v H4 ⟨hv,h4⟩=>?_
     subst hv
     have KE:=K3.step h4
     have g48:=oth h4 n8 g8
     have g44:=oth h4 n4 g4
     simp(disch:=first|omega|assumption) only[g48,g44,h84,Ne.symm h84,go_sem]
     refine fin _ _ [.agg [.int .i64 7,.int .i64 0,.str [],.sl .nil 5 [],.sl .nil 6 []]] (by simp(disch:=first|omega|assumption) only[ir35,resvs,resv,go_sem]) (KE.box hb4 _) ?_
     simp[tupOf,AV.strip,AV.strip1,cV,cVs,cMs,ZA,zV]
   | false =>
    rw[hc] at ev2
    simp only[Al7,if_false] at ev2
    rw[ev2] at hQ
    have fin:=KB.done hQ
    simp(disch:=first|omega|assumption) only[go_sem]
    refine goK_ret (zcM K2.here 2) fun v H2 ⟨hv,h2⟩=>?_
    subst hv
    have KE:=K2.step h2
    have g24:=oth h2 n4 g4
    simp(disch:=first|omega|assumption) only[g24,go_sem]
    refine fin _ _ [.agg [.int .i64 0,.int .i64 0,.str [],.sl .nil 5 [],.sl .nil 6 []]] (by simp(disch:=first|omega|assumption) only[ir35,resvs,resv,go_sem]) (KE.box hb4 _) ?_
    simp[tupOf,AV.strip,AV.strip1,cV,cVs,cMs,ZA,zV]
theorem ze6 {L:TS} {r:Nat} (hl:wT L≤zp) (hn:∀ x∈L,zcQ x) (fixed:Bool):∀ k,k≤16→zhD L r fixed k
 | 0,h=>zdK hl hn fixed 0 h fun n e=>nomatch e
 | k+1,h=>zdK hl hn fixed (k+1) h fun n e=>by
  obtain rfl:n=k:=by omega
  exact ze6 hl hn fixed _ (by omega)
abbrev pl (v:Val):Prop:=zid zbV v=true
inductive Shape:Val→Prop
 | null:Shape (.mk 0 0 [] [] [])
 | bool (n:Int) (h:n=0∨n=1):Shape (.mk 1 n [] [] [])
 | int (n:Int):Shape (.mk 2 n [] [] [])
 | num (s:List UInt8) (h:zjq s=true):Shape (.mk 3 0 s [] [])
 | text (s:List UInt8):Shape (.mk 4 0 s [] [])
 | word (s:List UInt8) (h:zjw s=false):Shape (.mk 5 0 s [] [])
 | var (s:List UInt8):Shape (.mk 8 0 s [] [])
 | list (l:List Val) (h:zga zbV l=true):Shape (.mk 6 0 [] l [])
 | obj (m:List Mem) (h:zf1 zbV m=true):Shape (.mk 7 0 [] [] m)
theorem zbd {n:Int} {s:List UInt8} {l:List Val} {m:List Mem}:zdP n s l m=true↔n=0∧s=[]∧l=[]∧m=[]:=by
 simp[zdP]
theorem shape:∀ v,pl v→Shape v
 | .mk k n s l m,h=>by
  simp only[pl,zid] at h
  split at h
  ·rename_i k6
   subst k6
   simp only[Al0,zbd] at h
   obtain⟨h1,rfl,rfl,_,rfl⟩:=h
   exact .list l h1
  ·split at h
   ·rename_i k7
    subst k7
    simp only[Al0,zbd] at h
    obtain⟨h1,rfl,rfl,rfl,_⟩:=h
    exact .obj m h1
   ·simp only[zeU,Al0,zbd] at h
    obtain⟨⟨_,_,rfl,rfl⟩,h⟩:=h
    split at h
    ·rename_i k0
     subst k0
     simp only[Al0,zm] at h
     obtain⟨rfl,rfl⟩:=h
     exact .null
    split at h
    ·rename_i k0
     subst k0
     simp only[Al0,zaW,zm] at h
     obtain⟨h,rfl⟩:=h
     exact .bool n h
    split at h
    ·rename_i k0
     subst k0
     simp only[zm] at h
     subst h
     exact .int n
    split at h
    ·rename_i k0
     subst k0
     simp only[Al0,zm] at h
     obtain⟨rfl,h⟩:=h
     exact .num s h
    split at h
    ·rename_i k0
     subst k0
     simp only[Al0,zm] at h
     obtain⟨rfl,h⟩:=h
     exact .text s
    split at h
    ·rename_i k0
     subst k0
     simp only[Al0,zm,Bool.not_eq_true'] at h
     obtain⟨rfl,_,h⟩:=h
     exact .word s h
    split at h
    ·rename_i k0
     subst k0
     simp only[Al0,zm] at h
     obtain⟨rfl,_⟩:=h
     exact .var s
    ·cases h
open Go.Lib
theorem zam {P:UInt8→Prop} (h:∀ x:Fin 256,P (UInt8.ofNat x.val)) (c:UInt8):P c:=by
 have:=h ⟨c.toNat,c.toNat_lt⟩
 simpa using this
theorem Zf {a b:List UInt8} {i:Nat} (h:i<a.length):(a++b).getD i 0=a.getD i 0:=by
 simp[List.getD,Y3 h]
theorem getD_at (a:List UInt8) (c:UInt8) (b:List UInt8):(a++c::b).getD a.length 0=c:=by simp
theorem zb8 {n b1 b2 b3 sz lo hi k:Nat} (h:checkN n b1 b2 b3 sz lo hi=some k) :
  2≤k∧k≤4∧k≤n∧k=sz∧lo≤b1∧(3≤k→128≤b2)∧(4≤k→128≤b3)∧∀ n' c2 c3,k≤n'→(3≤k→c2=b2)→(4≤k→c3=b3)→checkN n' b1 c2 c3 sz lo hi=some k:=by
 unfold checkN at h
 split at h
 ·rename_i hs
  split at h
  ·cases h
  ·rename_i hc
   cases h
   refine⟨by omega,by omega,by omega,hs.symm,by omega,by omega,by omega,fun n' c2 c3 h1 _ _=>?_⟩
   unfold checkN;rw[if_pos hs,if_neg (by omega)]
 ·rename_i hs2
  split at h
  ·rename_i hs
   split at h
   ·cases h
   ·rename_i hc
    cases h
    refine⟨by omega,by omega,by omega,hs.symm,by omega,by omega,by omega,fun n' c2 c3 h1 h2 _=>?_⟩
    have:=h2 (by omega)
    unfold checkN;rw[if_neg hs2,if_pos hs,if_neg (by omega)]
  ·rename_i hs3
   split at h
   ·rename_i hs
    split at h
    ·cases h
    ·rename_i hc
     cases h
     refine⟨by omega,by omega,by omega,hs.symm,by omega,by omega,by omega,fun n' c2 c3 h1 h2 h3=>?_⟩
     have:=h2 (by omega)
     have:=h3 (by omega)
     unfold checkN;rw[if_neg hs2,if_neg hs3,if_pos hs,if_neg (by omega)]
   ·cases h
theorem zj2:∀ x:Fin 256,2≤firstT x.val % 8→firstT x.val % 8≤4→128≤accLo (firstT x.val / 16):=by decide +kernel
theorem zjB {b:Nat} (h:b<256) (h1:2≤firstT b % 8) (h2:firstT b % 8≤4):128≤accLo (firstT b / 16):=zj2 ⟨b,h⟩ h1 h2
theorem zad:∀(n:Nat) (a b:List UInt8),a.length≤n→validD a=true→validD (a++b)=validD b
 | n,[],b,_,_=>by simp
 | 0,x::t,b,h,_=>by simp at h
 | n+1,x::t,b,h,hv=>by
  by_cases hx:x.toNat<128
  ·rw[validD_cons x t hx] at hv
   rw[Al6,validD_cons x _ hx]
   exact zad n t b (by simpa using h) hv
  ·have h0:128≤((x::t).getD 0 0).toNat:=by simp;omega
   rw[validD_lead (x::t) (by simp) h0] at hv
   split at hv
   ·cases hv
   ·rename_i k hk
    obtain⟨k2,k4,kl,ks,klo,_,_,kall⟩:=zb8 hk
    have hkl:k≤(x::t).length:=kl
    have e1:((x::t++b).getD 1 0)=(x::t).getD 1 0:=Zf (by omega)
    have e0:((x::t++b).getD 0 0)=(x::t).getD 0 0:=Zf (by omega)
    rw[validD_lead (x::t++b) (by simp) (by rw[e0];exact h0),e0,e1]
    rw[kall (x::t++b).length _ _ (by simp only[Al5];omega) (fun h3=>by rw[Zf (by omega)]) (fun h3=>by rw[Zf (by omega)])]
    simp only
    rw[zaz hkl]
    exact zad n _ b (by rw[zI];omega) hv
theorem zdk {a b:List UInt8} (h:validD a=true):validD (a++b)=validD b:=zad a.length a b (Al4 _) h
theorem ZO {a b:List UInt8} (h:validD a=true) (h':validD b=true):validD (a++b)=true:=(zdk h).trans h'
theorem Yq (c:UInt8) (hc:c.toNat<128):∀(n:Nat) (a b:List UInt8),a.length≤n→validD (a++c::b)=true→validD a=true∧validD b=true
 | n,[],b,_,hv=>by
  rw[Y2,validD_cons c b hc] at hv
  exact⟨validD_nil,hv⟩
 | 0,x::t,b,h,_=>by simp at h
 | n+1,x::t,b,h,hv=>by
  by_cases hx:x.toNat<128
  ·rw[Al6,validD_cons x _ hx] at hv
   rw[validD_cons x t hx]
   exact Yq c hc n t b (by simpa using h) hv
  ·have h0:128≤((x::t++c::b).getD 0 0).toNat:=by simp;omega
   have e0:((x::t++c::b).getD 0 0)=(x::t).getD 0 0:=Zf (by simp)
   have ec:((x::t++c::b).getD (x::t).length 0)=c:=getD_at ..
   rw[validD_lead (x::t++c::b) (by simp) h0] at hv
   split at hv
   ·cases hv
   ·rename_i k hk
    obtain⟨k2,k4,kl,ks,klo,k3,k4',kall⟩:=zb8 hk
    have hlo:=zjB ((x::t++c::b).getD 0 0).toNat_lt (by omega) (by omega)
    have hkl:k≤(x::t).length:=by
     rcases Nat.lt_or_ge (x::t).length k with h1|h1
     ·exfalso
      have hl:(x::t).length=1∨(x::t).length=2∨(x::t).length=3:=by simp only[Al2] at h1 ⊢;omega
      rcases hl with e|e|e
      ·rw[e] at ec h1;rw[ec] at klo;omega
      ·rw[e] at ec h1;rw[ec] at k3;have:=k3 (by omega);omega
      ·rw[e] at ec h1;rw[ec] at k4';have:=k4' (by omega);omega
     ·exact h1
    have e1:((x::t++c::b).getD 1 0)=(x::t).getD 1 0:=Zf (by omega)
    rw[zaz hkl] at hv
    obtain⟨g1,g2⟩:=Yq c hc n _ b (by rw[zI];omega) hv
    refine⟨?_,g2⟩
    rw[validD_lead (x::t) (by simp) (by rw[← e0];exact h0),← e0,← e1]
    rw[kall (x::t).length _ _ hkl (fun h3=>by rw[Zf (by omega)]) (fun h3=>by rw[Zf (by omega)])]
    exact g1
theorem YD {c:UInt8} (hc:c.toNat<128) {a b:List UInt8} (hv:validD (a++c::b)=true):validD a=true∧validD b=true:=Yq c hc a.length a b (Al4 _) hv
theorem ofN {n:Nat} (h:n<256):(UInt8.ofNat n).toNat=n:=by rw[UInt8.toNat_ofNat'];omega
theorem zbo {n:Nat} (h1:n≤1114111) (h2:¬ (55296≤n∧n≤57343)):validD (ym n)=true:=by
 unfold ym
 split
 ·rename_i h
  rw[validD_cons _ _ (by rw[ofN (by omega)];omega)];rfl
 ·split
  ·rename_i h0 h
   rw[validD_lead _ (by simp) (by simp only[List.getD_cons_zero];rw[ofN (by omega)];omega)]
   simp only[List.getD_cons_zero,List.getD_cons_succ,List.getD_nil,Al2,Al3]
   rw[ofN (show 192+n / 64<256 by omega),ofN (show 128+n % 64<256 by omega)]
   have e:firstT (192+n / 64)=2:=by unfold firstT;rw[if_neg (by omega),if_neg (by omega),if_pos (by omega)]
   rw[e]
   have e2:checkN (0+1+1) (128+n % 64) (0:UInt8).toNat (0:UInt8).toNat (2 % 8) (accLo (2 / 16)) (accHi (2 / 16))=some 2:=by
    unfold checkN accLo accHi;simp;omega
   rw[e2];rfl
  ·split
   ·rename_i h0 h1' h
    rw[validD_lead _ (by simp) (by simp only[List.getD_cons_zero];rw[ofN (by omega)];omega)]
    simp only[List.getD_cons_zero,List.getD_cons_succ,List.getD_nil,Al2,Al3]
    rw[ofN (show 224+n / 4096<256 by omega),ofN (show 128+n / 64 % 64<256 by omega),ofN (show 128+n % 64<256 by omega)]
    have e2:checkN (0+1+1+1) (128+n / 64 % 64) (128+n % 64) (0:UInt8).toNat (firstT (224+n / 4096) % 8) (accLo (firstT (224+n / 4096) / 16)) (accHi (firstT (224+n / 4096) / 16))=some 3:=by
     have c:n / 4096=0∨(1≤n / 4096∧n / 4096<13)∨n / 4096=13∨(14≤n / 4096∧n / 4096<16):=by omega
     rcases c with c|c|c|c
     ·rw[c];unfold checkN;simp[firstT,accLo,accHi];omega
     ·have e:firstT (224+n / 4096)=3:=by unfold firstT;rw[if_neg (by omega),if_neg (by omega),if_neg (by omega),if_neg (by omega),if_pos (by omega)]
      rw[e];unfold checkN;simp[accLo,accHi];omega
     ·rw[c];unfold checkN;simp[firstT,accLo,accHi];omega
     ·have e:firstT (224+n / 4096)=3:=by unfold firstT;rw[if_neg (by omega),if_neg (by omega),if_neg (by omega),if_neg (by omega),if_neg (by omega),if_neg (by omega),if_pos (by omega)]
      rw[e];unfold checkN;simp[accLo,accHi];omega
    rw[e2];rfl
   ·rename_i h0 h1' h
    rw[validD_lead _ (by simp) (by simp only[List.getD_cons_zero];rw[ofN (by omega)];omega)]
    simp only[List.getD_cons_zero,List.getD_cons_succ,List.getD_nil,Al2,Al3]
    rw[ofN (show 240+n / 262144<256 by omega),ofN (show 128+n / 4096 % 64<256 by omega),ofN (show 128+n / 64 % 64<256 by omega),ofN (show 128+n % 64<256 by omega)]
    have e2:checkN (0+1+1+1+1) (128+n / 4096 % 64) (128+n / 64 % 64) (128+n % 64) (firstT (240+n / 262144) % 8) (accLo (firstT (240+n / 262144) / 16)) (accHi (firstT (240+n / 262144) / 16))=some 4:=by
     have c:n / 262144=0∨(1≤n / 262144∧n / 262144<4)∨n / 262144=4:=by omega
     rcases c with c|c|c
     ·rw[c];unfold checkN;simp[firstT,accLo,accHi];omega
     ·have e:firstT (240+n / 262144)=4:=by unfold firstT;rw[if_neg (by omega),if_neg (by omega),if_neg (by omega),if_neg (by omega),if_neg (by omega),if_neg (by omega),if_neg (by omega),if_neg (by omega),if_pos (by omega)]
      rw[e];unfold checkN;simp[accLo,accHi];omega
     ·rw[c];unfold checkN;simp[firstT,accLo,accHi];omega
    rw[e2];rfl
theorem zag:∀(u:List Nat) (s:List UInt8),zk u=some s→validD s=true
 | [],s,h=>by cases h;rfl
 | u::[],s,h=>by
  simp only[zk] at h
  split at h
  ·cases h
  ·rename_i h1
   split at h
   ·cases h
   ·simp only[zK,Al1] at h
    subst h
    rw[List.append_nil]
    exact zbo (by omega) (by omega)
 | u::v::r,s,h=>by
  rw[zk] at h
  split at h
  ·cases h
  ·rename_i h1
   split at h
   ·rename_i h2
    split at h
    ·cases h
    ·rename_i h3
     cases hr:zk r with
     | none=>simp[hr] at h
     | some x =>
      simp only[hr,zK,Al1] at h
      subst h
      exact ZO (zbo (by omega) (by omega)) (zag r x hr)
   ·rename_i h2
    cases hr:zk (v::r) with
    | none=>simp[hr] at h
    | some x =>
     simp only[hr,zK,Al1] at h
     subst h
     exact ZO (zbo (by omega) (by omega)) (zag (v::r) x hr)
end Go.Proofs.YtaielcdfcgpbiaaGreatDoor
namespace Go.Proofs.YtaielcdfcgpbiaaGreatDoor
open Go.Ab
open Go.Lib
theorem ze9 (c:UInt8):isD c=true→nch c=true:=zam (P:=fun c=>isD c=true→nch c=true) (by decide +kernel) c
theorem zjg (c:UInt8):isE c=true→nch c=true:=zam (P:=fun c=>isE c=true→nch c=true) (by decide +kernel) c
theorem zjx (c:UInt8):isD c=true→nst c=true:=zam (P:=fun c=>isD c=true→nst c=true) (by decide +kernel) c
theorem YT:∀(l:List UInt8) (c:UInt8),c∈l.take (zh l)→isD c=true
 | [],c,h=>by simp at h
 | x::l,c,h=>by
  rw[zh] at h
  split at h
  ·rename_i hx
   rw[Yf] at h
   rcases List.mem_cons.1 h with e|e
   ·rw[e];exact hx
   ·exact YT l c e
  ·simp at h
theorem zfU {l:List UInt8} {a b:Nat} (h:a≤b) {c:UInt8} (hc:c∈l.take a):c∈l.take b :=
 (List.take_prefix_take_left h).subset hc
theorem zg2 (s:List UInt8):yl s≤zh s:=by unfold yl;split<;>(try split)<;>omega
theorem zcF {l:List UInt8} {c:UInt8} (h:c∈l.take (yl l)):isD c=true:=YT l c (zfU (zg2 l) h)
theorem zdU {s:List UInt8} {c:UInt8} (h:c∈s.take (zc s)):nch c=true:=by
 by_cases h45:s.head?=some 45
 ·cases s with
  | nil=>simp at h
  | cons x t =>
   have hx:x=45:=by simpa using h45
   subst hx
   rw[yZ] at h
   by_cases h0:zh t=0
   ·rw[if_pos h0] at h;simp at h
   ·rw[if_neg h0,Nat.add_comm,Yf] at h
    rcases List.mem_cons.1 h with e|e
    ·rw[e];decide
    ·exact ze9 c (zcF e)
 ·rw[yI h45] at h
  exact ze9 c (zcF h)
theorem zep {s:List UInt8} {c:UInt8} (h:c∈s.take (zD s)):nch c=true:=by
 unfold zD at h
 split at h
 ·rename_i h46
  cases s with
  | nil=>simp at h
  | cons x t =>
   have hx:x=46:=by simpa using h46.1
   subst hx
   simp only[List.tail_cons] at h
   rw[Nat.add_comm,Yf] at h
   rcases List.mem_cons.1 h with e|e
   ·rw[e];decide
   ·exact ze9 c (YT _ c e)
 ·simp at h
theorem zeK {s:List UInt8} (h:zc s≠0):∃ c t,s=c::t∧nst c=true:=by
 cases s with
 | nil=>exact absurd (by decide) h
 | cons c t =>
  refine⟨c,t,rfl,?_⟩
  by_cases hc:c=45
  ·rw[hc];decide
  ·rw[yI (by simpa using hc)] at h
   apply zjx
   cases hd:isD c with
   | true=>rfl
   | false=>exact absurd (by simp[yl,zh,hd]) h
theorem zgs {r:List UInt8} {c:UInt8} (h:c∈r.take (sgN r)):nch c=true:=by
 unfold sgN at h
 split at h
 ·rename_i hs
  cases r with
  | nil=>simp at h
  | cons x t =>
   simp only[List.head?_cons,Al1] at hs
   simp at h
   subst h
   rcases hs with rfl|rfl<;>decide
 ·simp at h
theorem zfE:∀(s:List UInt8) (c:UInt8),c∈s.take (yr s)→nch c=true
 | [],c,h=>by simp at h
 | x::r,c,h=>by
  rw[yr] at h
  split at h
  ·rename_i hx
   split at h
   ·simp at h
   ·rw[Nat.add_assoc,Nat.add_comm,Yf] at h
    rcases List.mem_cons.1 h with e|e
    ·rw[e];exact zjg x hx
    ·rw[List.take_add] at e
     rcases List.mem_append.1 e with e|e
     ·exact zgs e
     ·exact ze9 c (YT _ c e)
  ·simp at h
theorem zgR {s:List UInt8} (h:Yk s≠0):(∀ c∈s,nch c=true)∧∃ c t,s=c::t∧nst c=true:=by
 unfold Yk at h
 split at h
 ·rename_i hl
  unfold zA at h hl
  split at h
  ·exact absurd rfl h
  ·rename_i hw
   rw[if_neg hw] at hl
   simp only at hl
   refine⟨fun c hc=>?_,zeK hw⟩
   have e:s=s.take (zc s+zD (s.drop (zc s))+yr (s.drop (zc s+zD (s.drop (zc s))))):=by rw[hl,List.take_length]
   rw[e,List.take_add,List.take_add] at hc
   rcases List.mem_append.1 hc with hc|hc
   ·rcases List.mem_append.1 hc with hc|hc
    ·exact zdU hc
    ·exact zep hc
   ·exact zfE _ _ hc
 ·exact absurd rfl h
theorem za1 {s:List UInt8} (h:∀ c∈s,c.toNat<128):validD s=true:=by
 have:=validD_ascii s.length s (fun b hb=>h b (List.mem_of_mem_take hb))
 rw[this,List.drop_length];rfl
end Go.Proofs.YtaielcdfcgpbiaaGreatDoor
namespace Go.Proofs.YtaielcdfcgpbiaaGreatDoor
open Go.Ab
theorem zgA (m:List UInt8) (x:Tok) (t:TS):isP m (x::t)=(decide (x.k=1)&&decide (x.s=m)):=rfl
theorem zgT (m n:List UInt8) (t:TS):isP m (pk n::t)=decide (n=m):=by simp[zgA,pk]
def Zn (i:Nat) (m:Int) (t:TS):Int×TS:=if isP [33] t then (m+2 ^ i,t.tail) else (m,t)
def Y9 (n i:Nat) (t:TS):PR Unit:=if i<n then yA [93] t else .ok ((),t)
def tyL (n:Nat):Nat→Int→TS→PR Int
 | 0,m,t=>pb (Y9 n 0 t) fun _ t=>.ok (Zn 0 m t)
 | i+1,m,t=>pb (Y9 n (i+1) t) fun _ t=>tyL n i (Zn (i+1) m t).1 (Zn (i+1) m t).2
theorem zgI (n i:Nat) (t:TS):Y9 (n+1) (i+1) t=Y9 n i t:=by
 unfold Y9
 by_cases h:i<n
 ·rw[if_pos h,if_pos (by omega)]
 ·rw[if_neg h,if_neg (by omega)]
theorem zgt (i:Nat) (m:Int) (t:TS):Zn (i+1) (m*2) t=((Zn i m t).1*2,(Zn i m t).2):=by
 unfold Zn
 split
 ·simp only[Al8,and_true];rw[Int.pow_succ];omega
 ·rfl
theorem ziC (n:Nat):∀(i:Nat) (m:Int) (t:TS),tyL (n+1) (i+1) (m*2) t=pb (tyL n i m t) fun m t=>pb (yA [93] t) fun _ t=>.ok (Zn 0 (m*2) t)
 | 0,m,t=>by
  have e:∀(m:Int) (t:TS),tyL (n+1) 0 m t=pb (yA [93] t) fun _ t=>.ok (Zn 0 m t):=fun m t=>by rw[tyL,Y9,if_pos (Nat.succ_pos n)]
  have e1:tyL (n+1) (0+1) (m*2) t=pb (Y9 n 0 t) fun _ t=>tyL (n+1) 0 (Zn (0+1) (m*2) t).1 (Zn (0+1) (m*2) t).2:=by conv=>lhs;rw[tyL,zgI]
  have e2:tyL n 0 m t=pb (Y9 n 0 t) fun _ t=>.ok (Zn 0 m t):=by rw[tyL]
  rw[e1,e2]
  rcases Y9 n 0 t with x|⟨_,t1⟩
  ·rfl
  ·simp only[zf]
   rw[zgt,e]
   rfl
 | i+1,m,t=>by
  have e1:tyL (n+1) (i+1+1) (m*2) t=pb (Y9 n (i+1) t) fun _ t=>tyL (n+1) (i+1) (Zn (i+1+1) (m*2) t).1 (Zn (i+1+1) (m*2) t).2:=by conv=>lhs;rw[tyL,zgI]
  have e2:tyL n (i+1) m t=pb (Y9 n (i+1) t) fun _ t=>tyL n i (Zn (i+1) m t).1 (Zn (i+1) m t).2:=by rw[tyL]
  rw[e1,e2]
  rcases Y9 n (i+1) t with x|⟨_,t1⟩
  ·rfl
  ·simp only[zf]
   rw[zgt,ziC n i]
theorem zcq:∀(n k:Nat) (u:TS),n≤k→isP [91] u=false→ZS k (List.replicate n (pk [91])++u)=pb (zL u) fun s t=>pb (tyL n n 0 t) fun m t=>.ok (⟨s,n,m⟩,t)
 | 0,k,u,_,hu=>by
  rw[List.replicate_zero,Y2,Zm,zbx.eq_def,hu]
  simp only[Al7,if_false]
  rcases zL u with x|⟨s,t⟩
  ·rfl
  ·simp only[zf,tyL,Y9,Nat.lt_irrefl,if_false]
   unfold Yt Zn
   cases isP [33] t<;>simp[pb]
 | n+1,0,u,h,_=>by omega
 | n+1,k+1,u,h,hu=>by
  rw[List.replicate_succ,Al6,Zm,zbx.eq_def,zgT,zfe]
  simp only[decide_true,if_true,List.tail_cons]
  rw[zcq n k u (by omega) hu]
  rcases zL u with x|⟨s,t⟩
  ·rfl
  ·simp only[zf]
   have e:=ziC n n 0 t
   rw[Int.zero_mul] at e
   rw[e]
   rcases tyL n n 0 t with x|⟨m,t1⟩
   ·rfl
   ·simp only[zf]
    rcases yA [93] t1 with x|⟨_,t2⟩
    ·rfl
    ·simp only[zf]
     unfold Yt Zn
     cases isP [33] t2<;>simp[pb]
def tyN (n:Nat):Nat→Int→TS→PR Int
 | 0,m,t=>.ok (m,t)
 | i+1,m,t=>tyL n i m t
theorem zjc (n i:Nat) (m:Int) (t:TS):tyL n i m t=pb (Y9 n i t) fun _ t=>tyN n i (Zn i m t).1 (Zn i m t).2:=by cases i<;>rfl
theorem zcW:∀(k:Nat) (u:TS),isP [91] u=true→ZS k (List.replicate k (pk [91])++u)=.error 4
 | 0,u,hu=>by rw[List.replicate_zero,Y2,Zm,zbx.eq_def,hu];rfl
 | k+1,u,hu=>by
  rw[List.replicate_succ,Al6,Zm,zbx.eq_def,zgT,zfe]
  simp only[decide_true,if_true,List.tail_cons]
  rw[zcW k u hu];rfl
theorem zi1 {m:List UInt8} {t:TS} (h:isP m t=true):t=pk m::t.tail:=by
 have h2:=y9 (zb9 h)
 simp only[isP,Al0,zm] at h
 rw[h2]
 congr 1
 cases hx:hdT t with|mk k s=>rw[hx] at h;simp only at h;rw[h.1,h.2];rfl
theorem zf9 (n:Nat) (x:Tok) (u:TS):List.replicate n x++x::u=List.replicate (n+1) x++u:=by
 rw[List.replicate_succ',zbw];rfl
theorem zjL:∀ i:Fin 5,∀ m:Fin 32,m.val % 2 ^ (i.val+1)=0→IntKind.wrap .i64 ((BitVec.ofInt IntKind.i64.bits ((m.val:Nat):Int) ||| BitVec.ofInt IntKind.i64.bits (((2 ^ i.val:Nat)):Int)).toNat:Int)=((m.val+2 ^ i.val:Nat):Int):=by decide +kernel
theorem zjA:∀ i:Fin 5,IntKind.wrap .i64 (1*2 ^ min i.val IntKind.i64.bits)=((2 ^ i.val:Nat):Int):=by decide +kernel
theorem ziv:∀ i:Fin 5,∀ m:Fin 32,m.val % 2 ^ (i.val+1)=0→m.val+2 ^ i.val<32∧(m.val+2 ^ i.val) % 2 ^ i.val=0:=by decide +kernel
abbrev zT:List AV:=[.str [],.int .i64 0,.int .i64 0]
theorem zha {H:Heap} {r:Nat} {L p t:TS} {dp:Nat} (hs:p++t=L) (hl:wT L≤zp) (hr:H r=some (prc L p dp)) :
  ACalls Tryz.prog 38 [.ptr r 0] H (RpE H r L dp (ZS 4 t) (fun x=>.agg (cTy x))):=by
 refine yn (ACalls.goO (R:=fun v H'=>Y7 H r L dp (ZS 4 t) (fun x=>.agg (cTy x)) v.strip H') (RP:=fun v H'=>zaY (ZS 4 t) v H') ir38 ck38 (Al4 _) fun KP Q hQ hP=>?_)
 have hll:L.length≤zp:=Nat.le_trans (yY L) hl
 have hll2:=hll
 simp only[zp] at hll2
 have pan:∀(v:AV) (H1:Heap) (n:Int),v=zN n→ZS 4 t=.error n→KP v H1:=fun v H1 n h1 h2=>hP v H1 H1 (Low.refl _) ⟨n,h2,h1⟩
 have fin:=KI.done hQ
 have K0:=KI.start hs hr
 simp(disch:=first|omega|assumption) only[ir38,steps,st2,pev,rev,oev,optr,ibin,sbin,ishf,bound,mmAll,mm2,mk,mkArgs,AV.cells,AV.boxable,AV.one,AV.strip1,fillA,fillS,Nat.reduceEqDiff,reduceCtorEq,↓reduceIte,Nat.reduceAdd,Int.reduceNeg,Nat.reduceLeDiff,Int.reduceToNat,Int.reduceEq,Int.reduceLT,Int.reduceLE,Int.reduceAdd,Io,Im,If,Il,Jt,Jf,AC.rg,Jm,Jl,Ja,Fm,Fl,Fa,Imv,Imb,Iai,Iei,Igi,Isi,Ipf,Ipt,Ilb,Iia,Ilt,Iap,Ink,Iln,Ils,Iad,Iex,Ibx,Ing]
 refine goA_intro fun b2 hb2=>?_
 have n2:=K0.ne hb2
 have n2s:=Ne.symm n2
 have K1:=K0.box (x:=.cells zT) hb2
 simp(disch:=first|omega|assumption) only[steps,st2,pev,rev,oev,optr,ibin,sbin,ishf,bound,mmAll,mm2,mk,mkArgs,AV.cells,AV.boxable,AV.one,AV.strip1,fillA,fillS,Nat.reduceEqDiff,reduceCtorEq,↓reduceIte,Nat.reduceAdd,Int.reduceNeg,Nat.reduceLeDiff,Int.reduceToNat,Int.reduceEq,Int.reduceLT,Int.reduceLE,Int.reduceAdd]
 refine goL_st (fun x:Nat×TS=>[(3,.int .i64 (x.1:Int))]) (fun x H'=>KI H r L x.2 dp H'∧H' b2=some (.cells zT)∧x.1≤4∧t=List.replicate x.1 (pk [91])++x.2) (fun x=>x.2.length) (0,t) (by simp(disch:=first|omega|assumption) only[steps,st2,pev,rev,oev,optr,ibin,sbin,ishf,bound,mmAll,mm2,mk,mkArgs,AV.cells,AV.boxable,AV.one,AV.strip1,fillA,fillS,Nat.reduceEqDiff,reduceCtorEq,↓reduceIte,Nat.reduceAdd,Int.reduceNeg,Nat.reduceLeDiff,Int.reduceToNat,Int.reduceEq,Int.reduceLT,Int.reduceLE,Int.reduceAdd]) ⟨K1,upd_same ..,Nat.zero_le _,rfl⟩ ?_
 rintro⟨n,u⟩ H1 J ⟨K2,g2,hn4,htu⟩ hJ
 simp only at K2 g2 hn4 htu
 obtain⟨p2,hp2,hr2⟩:=K2.here
 have hpl2:p2.length+u.length=L.length:=by rw[← hp2];simp
 have hr2':=hr2
 simp only[prc] at hr2'
 simp(disch:=first|omega|assumption) only[steps,st2,pev,rev,oev,optr,ibin,sbin,ishf,bound,mmAll,mm2,mk,mkArgs,AV.cells,AV.boxable,AV.one,AV.strip1,fillA,fillS,Nat.reduceEqDiff,reduceCtorEq,↓reduceIte,Nat.reduceAdd,Int.reduceNeg,Nat.reduceLeDiff,Int.reduceToNat,Int.reduceEq,Int.reduceLT,Int.reduceLE,Int.reduceAdd]
 refine goK_ret (zfW hp2 hr2 [91]) fun v H2 ⟨hv2,hH⟩=>?_
 subst hv2;subst hH
 cases hi:isP [91] u with
 | true =>
  by_cases h4:n=4
  ·have h4':((n:Int)=4)=True:=eq_true (by omega)
   simp(disch:=first|omega|assumption) only[h4',steps,st2,pev,rev,oev,optr,ibin,sbin,ishf,bound,mmAll,mm2,mk,mkArgs,AV.cells,AV.boxable,AV.one,AV.strip1,fillA,fillS,Nat.reduceEqDiff,reduceCtorEq,↓reduceIte,Nat.reduceAdd,Int.reduceNeg,Nat.reduceLeDiff,Int.reduceToNat,Int.reduceEq,Int.reduceLT,Int.reduceLE,Int.reduceAdd]
   exact goK_both (Y5 _ r 4) (fun _ _ h=>h.elim) fun v H3 h=>pan v H3 4 h (by rw[htu,h4];exact zcW 4 u hi)
  ·have h4':¬ ((n:Int)=4):=by omega
   have hlt:=zdx hi
   simp(disch:=first|omega|assumption) only[h4',hr2',wrap64,steps,st2,pev,rev,oev,optr,ibin,sbin,ishf,bound,mmAll,mm2,mk,mkArgs,AV.cells,AV.boxable,AV.one,AV.strip1,fillA,fillS,Nat.reduceEqDiff,reduceCtorEq,↓reduceIte,Nat.reduceAdd,Int.reduceNeg,Nat.reduceLeDiff,Int.reduceToNat,Int.reduceEq,Int.reduceLT,Int.reduceLE,Int.reduceAdd]
   refine goJ (hJ (n+1,u.tail) _ hlt ⟨K2.call (ZV hp2 (zb9 hi) _),by rw[upd_ne n2s];exact g2,by simp only;omega,?_⟩) (by simp(disch:=first|omega|assumption) only[Int.natCast_add,steps,st2,pev,rev,oev,optr,ibin,sbin,ishf,bound,mmAll,mm2,mk,mkArgs,AV.cells,AV.boxable,AV.one,AV.strip1,fillA,fillS,Nat.reduceEqDiff,reduceCtorEq,↓reduceIte,Nat.reduceAdd,Int.reduceNeg,Nat.reduceLeDiff,Int.reduceToNat,Int.reduceEq,Int.reduceLT,Int.reduceLE,Int.reduceAdd])
   simp only
   rw[← zf9,← zi1 hi];exact htu
 | false =>
  have hx:ZS 4 t=pb (zL u) fun s t=>pb (tyL n n 0 t) fun m t=>.ok (⟨s,n,m⟩,t):=by rw[htu];exact zcq n 4 u hn4 hi
  simp(disch:=first|omega|assumption) only[steps,st2,pev,rev,oev,optr,ibin,sbin,ishf,bound,mmAll,mm2,mk,mkArgs,AV.cells,AV.boxable,AV.one,AV.strip1,fillA,fillS,Nat.reduceEqDiff,reduceCtorEq,↓reduceIte,Nat.reduceAdd,Int.reduceNeg,Nat.reduceLeDiff,Int.reduceToNat,Int.reduceEq,Int.reduceLT,Int.reduceLE,Int.reduceAdd]
  refine goK_both (Zi hp2 hll hr2) (fun v H3 ⟨s,t3,e3,hv3,ha3⟩=>?_) fun v H3 ⟨n3,e3,hv3⟩=>pan v H3 n3 hv3 (by rw[hx,e3];rfl)
  subst hv3
  rw[e3,zf] at hx
  have K3:=K2.call ha3
  have g32:H3 b2=some (.cells zT):=by rw[ha3.other n2s,g2]
  simp(disch:=first|omega|assumption) only[steps,st2,pev,rev,oev,optr,ibin,sbin,ishf,bound,mmAll,mm2,mk,mkArgs,AV.cells,AV.boxable,AV.one,AV.strip1,fillA,fillS,Nat.reduceEqDiff,reduceCtorEq,↓reduceIte,Nat.reduceAdd,Int.reduceNeg,Nat.reduceLeDiff,Int.reduceToNat,Int.reduceEq,Int.reduceLT,Int.reduceLE,Int.reduceAdd]
  refine goA_intro fun b4 hb4=>?_
  have h42:b4≠b2:=fun e=>by subst e;rw[g32] at hb4;cases hb4
  have hb4H:H b4=none:=K3.none hb4
  have n4:=K0.ne hb4H
  have n4s:=Ne.symm n4
  have K4:=K3.box (x:=.cells [.str s,.int .i64 (n:Int),.int .i64 0]) hb4H
  obtain⟨R,hR⟩:∃ R,tyL n n 0 t3=R:=⟨_,rfl⟩
  rw[hR] at hx
  simp(disch:=first|omega|assumption) only[steps,st2,pev,rev,oev,optr,ibin,sbin,ishf,bound,mmAll,mm2,mk,mkArgs,AV.cells,AV.boxable,AV.one,AV.strip1,fillA,fillS,Nat.reduceEqDiff,reduceCtorEq,↓reduceIte,Nat.reduceAdd,Int.reduceNeg,Nat.reduceLeDiff,Int.reduceToNat,Int.reduceEq,Int.reduceLT,Int.reduceLE,Int.reduceAdd]
  have hj0:((n:Int):Int)=(((n+1:Nat):Int)-1):=by omega
  refine goL_st (fun x:Nat×Nat×TS=>[(5,.int .i64 ((x.1:Int)-1))]) (fun x H'=>KI H r L x.2.2 dp H'∧H' b2=some (.cells zT)∧H' b4=some (.cells [.str s,.int .i64 (n:Int),.int .i64 (x.2.1:Int)])∧x.1≤n+1∧x.2.1<32∧x.2.1 % 2 ^ x.1=0∧tyN n x.1 (x.2.1:Int) x.2.2=R) (fun x=>x.1) (n+1,0,t3) (by rw[← hj0];simp(disch:=first|omega|assumption) only[steps,st2,pev,rev,oev,optr,ibin,sbin,ishf,bound,mmAll,mm2,mk,mkArgs,AV.cells,AV.boxable,AV.one,AV.strip1,fillA,fillS,Nat.reduceEqDiff,reduceCtorEq,↓reduceIte,Nat.reduceAdd,Int.reduceNeg,Nat.reduceLeDiff,Int.reduceToNat,Int.reduceEq,Int.reduceLT,Int.reduceLE,Int.reduceAdd]) ⟨K4,by rw[upd_ne (Ne.symm h42)];exact g32,upd_same ..,Al4 _,by show 0<32;decide,Nat.zero_mod _,hR⟩ ?_
  rintro⟨j,m,u5⟩ H5 J5 ⟨K5,g52,g54,hj,hm,hmd,he⟩ hJ5
  simp only at K5 g52 g54 hj hm hmd he
  obtain⟨p5,hp5,hr5⟩:=K5.here
  cases j with
  | zero =>
   have hneg:¬ ((0:Int)≤-1):=by decide
   have hz1:(0:Int)-1=-1:=rfl
   have e1:R=.ok ((m:Int),u5):=he.symm
   simp only[zT] at g52
   simp(disch:=first|omega|assumption) only[hz1,hneg,g52,g54,h42,Ne.symm h42,steps,st2,pev,rev,oev,optr,ibin,sbin,ishf,bound,mmAll,mm2,mk,mkArgs,AV.cells,AV.boxable,AV.one,AV.strip1,fillA,fillS,Nat.reduceEqDiff,reduceCtorEq,↓reduceIte,Nat.reduceAdd,Int.reduceNeg,Nat.reduceLeDiff,Int.reduceToNat,Int.reduceEq,Int.reduceLT,Int.reduceLE,Int.reduceAdd]
   exact fin _ _ [.agg [.str s,.int .i64 (n:Int),.int .i64 (m:Int)]] ⟨s,n,m⟩ u5 (by simp(disch:=first|omega|assumption) only[ir38,resvs,resv,steps,st2,pev,rev,oev,optr,ibin,sbin,ishf,bound,mmAll,mm2,mk,mkArgs,AV.cells,AV.boxable,AV.one,AV.strip1,fillA,fillS,Nat.reduceEqDiff,reduceCtorEq,↓reduceIte,Nat.reduceAdd,Int.reduceNeg,Nat.reduceLeDiff,Int.reduceToNat,Int.reduceEq,Int.reduceLT,Int.reduceLE,Int.reduceAdd,Io,Im,If,Il,Jt,Jf,AC.rg,Jm,Jl,Ja,Fm,Fl,Fa,Imv,Imb,Iai,Iei,Igi,Isi,Ipf,Ipt,Ilb,Iia,Ilt,Iap,Ink,Iln,Ils,Iad,Iex,Ibx,Ing]) (by rw[hx,e1];rfl) (K5.box hb2) (by simp[tupOf,AV.strip,AV.strip1,cTy])
  | succ i =>
   have hge:((0:Int)≤(((i+1:Nat):Int)-1))=True:=eq_true (by omega)
   have hi5:(((i+1:Nat):Int)-1)=(i:Int):=by omega
   have e1:tyL n i (m:Int) u5=R:=he
   rw[zjc,Y9] at e1
   by_cases hin:i<n
   ·have hin':((i:Int)<(n:Int))=True:=eq_true (by omega)
    rw[if_pos hin] at e1
    simp(disch:=first|omega|assumption) only[hge,hi5,hin',steps,st2,pev,rev,oev,optr,ibin,sbin,ishf,bound,mmAll,mm2,mk,mkArgs,AV.cells,AV.boxable,AV.one,AV.strip1,fillA,fillS,Nat.reduceEqDiff,reduceCtorEq,↓reduceIte,Nat.reduceAdd,Int.reduceNeg,Nat.reduceLeDiff,Int.reduceToNat,Int.reduceEq,Int.reduceLT,Int.reduceLE,Int.reduceAdd]
    refine goK_both (zbM hp5 hll hr5 [93]) (fun v H6 ⟨_,t6,e6,hv6,ha6⟩=>?_) fun v H6 ⟨n6,e6,hv6⟩=>pan v H6 n6 hv6 (by rw[hx,← e1,e6];rfl)
    subst hv6
    rw[e6,zf] at e1
    have K6:=K5.call ha6
    have g62:H6 b2=some (.cells zT):=by rw[ha6.other n2s,g52]
    have g64:H6 b4=some (.cells [.str s,.int .i64 (n:Int),.int .i64 (m:Int)]):=by rw[ha6.other n4s,g54]
    obtain⟨p6,hp6,hr6⟩:=K6.here
    simp(disch:=first|omega|assumption) only[steps,st2,pev,rev,oev,optr,ibin,sbin,ishf,bound,mmAll,mm2,mk,mkArgs,AV.cells,AV.boxable,AV.one,AV.strip1,fillA,fillS,Nat.reduceEqDiff,reduceCtorEq,↓reduceIte,Nat.reduceAdd,Int.reduceNeg,Nat.reduceLeDiff,Int.reduceToNat,Int.reduceEq,Int.reduceLT,Int.reduceLE,Int.reduceAdd]
    refine goK_ret (Zk hp6 hll hr6 [33]) fun v H7 ⟨hv7,ha7⟩=>?_
    subst hv7
    have g72:H7 b2=some (.cells zT):=by rw[ha7.other n2s,g62]
    have g74:H7 b4=some (.cells [.str s,.int .i64 (n:Int),.int .i64 (m:Int)]):=by rw[ha7.other n4s,g64]
    have K7:=K6.call ha7
    cases hb:isP [33] t6 with
    | true =>
     simp only[Zn,hb,if_true] at e1
     rw[y6,hb,if_pos rfl] at K7
     have ho:=zjL ⟨i,by omega⟩ ⟨m,hm⟩ hmd
     have hob:=ziv ⟨i,by omega⟩ ⟨m,hm⟩ hmd
     have hsh:=zjA ⟨i,by omega⟩
     simp only at ho hob hsh
     have hi0:¬ ((i:Int)<0):=by omega
     simp(disch:=first|omega|assumption) only[g74,hi0,hsh,ho,steps,st2,pev,rev,oev,optr,ibin,sbin,ishf,bound,mmAll,mm2,mk,mkArgs,AV.cells,AV.boxable,AV.one,AV.strip1,fillA,fillS,Nat.reduceEqDiff,reduceCtorEq,↓reduceIte,Nat.reduceAdd,Int.reduceNeg,Nat.reduceLeDiff,Int.reduceToNat,Int.reduceEq,Int.reduceLT,Int.reduceLE,Int.reduceAdd]
     refine goJ (hJ5 (i,m+2 ^ i,t6.tail) _ (Nat.lt_succ_self _) ⟨K7.box hb4H,by rw[upd_ne (Ne.symm h42)];exact g72,upd_same ..,by simp only;omega,hob.1,hob.2,by simp only;rw[← e1];simp⟩) (by simp(disch:=first|omega|assumption) only[wrap64,steps,st2,pev,rev,oev,optr,ibin,sbin,ishf,bound,mmAll,mm2,mk,mkArgs,AV.cells,AV.boxable,AV.one,AV.strip1,fillA,fillS,Nat.reduceEqDiff,reduceCtorEq,↓reduceIte,Nat.reduceAdd,Int.reduceNeg,Nat.reduceLeDiff,Int.reduceToNat,Int.reduceEq,Int.reduceLT,Int.reduceLE,Int.reduceAdd])
    | false =>
     simp only[Zn,hb,Al7,if_false] at e1
     rw[y6,hb] at K7
     simp only[Al7,if_false] at K7
     have hmd2:m % 2 ^ i=0:=by
      have h3:2 ^ i∣2 ^ (i+1):=⟨2,by rw[Nat.pow_succ]⟩
      exact Nat.mod_eq_zero_of_dvd (Nat.dvd_trans h3 (Nat.dvd_of_mod_eq_zero hmd))
     simp(disch:=first|omega|assumption) only[steps,st2,pev,rev,oev,optr,ibin,sbin,ishf,bound,mmAll,mm2,mk,mkArgs,AV.cells,AV.boxable,AV.one,AV.strip1,fillA,fillS,Nat.reduceEqDiff,reduceCtorEq,↓reduceIte,Nat.reduceAdd,Int.reduceNeg,Nat.reduceLeDiff,Int.reduceToNat,Int.reduceEq,Int.reduceLT,Int.reduceLE,Int.reduceAdd]
     refine goJ (hJ5 (i,m,t6) _ (Nat.lt_succ_self _) ⟨K7,g72,g74,by simp only;omega,hm,hmd2,e1⟩) (by simp(disch:=first|omega|assumption) only[wrap64,steps,st2,pev,rev,oev,optr,ibin,sbin,ishf,bound,mmAll,mm2,mk,mkArgs,AV.cells,AV.boxable,AV.one,AV.strip1,fillA,fillS,Nat.reduceEqDiff,reduceCtorEq,↓reduceIte,Nat.reduceAdd,Int.reduceNeg,Nat.reduceLeDiff,Int.reduceToNat,Int.reduceEq,Int.reduceLT,Int.reduceLE,Int.reduceAdd])
   ·have hin':¬ ((i:Int)<(n:Int)):=by omega
    rw[if_neg hin,zf] at e1
    simp(disch:=first|omega|assumption) only[hge,hi5,hin',steps,st2,pev,rev,oev,optr,ibin,sbin,ishf,bound,mmAll,mm2,mk,mkArgs,AV.cells,AV.boxable,AV.one,AV.strip1,fillA,fillS,Nat.reduceEqDiff,reduceCtorEq,↓reduceIte,Nat.reduceAdd,Int.reduceNeg,Nat.reduceLeDiff,Int.reduceToNat,Int.reduceEq,Int.reduceLT,Int.reduceLE,Int.reduceAdd]
    refine goK_ret (Zk hp5 hll hr5 [33]) fun v H7 ⟨hv7,ha7⟩=>?_
    subst hv7
    have g72:H7 b2=some (.cells zT):=by rw[ha7.other n2s,g52]
    have g74:H7 b4=some (.cells [.str s,.int .i64 (n:Int),.int .i64 (m:Int)]):=by rw[ha7.other n4s,g54]
    have K7:=K5.call ha7
    cases hb:isP [33] u5 with
    | true =>
     simp only[Zn,hb,if_true] at e1
     rw[y6,hb,if_pos rfl] at K7
     have ho:=zjL ⟨i,by omega⟩ ⟨m,hm⟩ hmd
     have hob:=ziv ⟨i,by omega⟩ ⟨m,hm⟩ hmd
     have hsh:=zjA ⟨i,by omega⟩
     simp only at ho hob hsh
     have hi0:¬ ((i:Int)<0):=by omega
     simp(disch:=first|omega|assumption) only[g74,hi0,hsh,ho,steps,st2,pev,rev,oev,optr,ibin,sbin,ishf,bound,mmAll,mm2,mk,mkArgs,AV.cells,AV.boxable,AV.one,AV.strip1,fillA,fillS,Nat.reduceEqDiff,reduceCtorEq,↓reduceIte,Nat.reduceAdd,Int.reduceNeg,Nat.reduceLeDiff,Int.reduceToNat,Int.reduceEq,Int.reduceLT,Int.reduceLE,Int.reduceAdd]
     refine goJ (hJ5 (i,m+2 ^ i,u5.tail) _ (Nat.lt_succ_self _) ⟨K7.box hb4H,by rw[upd_ne (Ne.symm h42)];exact g72,upd_same ..,by simp only;omega,hob.1,hob.2,by simp only;rw[← e1];simp⟩) (by simp(disch:=first|omega|assumption) only[wrap64,steps,st2,pev,rev,oev,optr,ibin,sbin,ishf,bound,mmAll,mm2,mk,mkArgs,AV.cells,AV.boxable,AV.one,AV.strip1,fillA,fillS,Nat.reduceEqDiff,reduceCtorEq,↓reduceIte,Nat.reduceAdd,Int.reduceNeg,Nat.reduceLeDiff,Int.reduceToNat,Int.reduceEq,Int.reduceLT,Int.reduceLE,Int.reduceAdd])
    | false =>
     simp only[Zn,hb,Al7,if_false] at e1
     rw[y6,hb] at K7
     simp only[Al7,if_false] at K7
     have hmd2:m % 2 ^ i=0:=by
      have h3:2 ^ i∣2 ^ (i+1):=⟨2,by rw[Nat.pow_succ]⟩
      exact Nat.mod_eq_zero_of_dvd (Nat.dvd_trans h3 (Nat.dvd_of_mod_eq_zero hmd))
     simp(disch:=first|omega|assumption) only[steps,st2,pev,rev,oev,optr,ibin,sbin,ishf,bound,mmAll,mm2,mk,mkArgs,AV.cells,AV.boxable,AV.one,AV.strip1,fillA,fillS,Nat.reduceEqDiff,reduceCtorEq,↓reduceIte,Nat.reduceAdd,Int.reduceNeg,Nat.reduceLeDiff,Int.reduceToNat,Int.reduceEq,Int.reduceLT,Int.reduceLE,Int.reduceAdd]
     refine goJ (hJ5 (i,m,u5) _ (Nat.lt_succ_self _) ⟨K7,g72,g74,by simp only;omega,hm,hmd2,e1⟩) (by simp(disch:=first|omega|assumption) only[wrap64,steps,st2,pev,rev,oev,optr,ibin,sbin,ishf,bound,mmAll,mm2,mk,mkArgs,AV.cells,AV.boxable,AV.one,AV.strip1,fillA,fillS,Nat.reduceEqDiff,reduceCtorEq,↓reduceIte,Nat.reduceAdd,Int.reduceNeg,Nat.reduceLeDiff,Int.reduceToNat,Int.reduceEq,Int.reduceLT,Int.reduceLE,Int.reduceAdd])
end Go.Proofs.YtaielcdfcgpbiaaGreatDoor
