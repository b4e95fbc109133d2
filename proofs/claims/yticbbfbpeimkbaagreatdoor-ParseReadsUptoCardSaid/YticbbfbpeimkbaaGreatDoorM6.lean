import Derived.Test.YticbbfbpeimkbaaGreatDoorM1
import Derived.Test.YticbbfbpeimkbaaGreatDoorM2
import Derived.Test.YticbbfbpeimkbaaGreatDoorM3
import Derived.Test.YticbbfbpeimkbaaGreatDoorM4
import Derived.Test.YticbbfbpeimkbaaGreatDoorM5
set_option maxRecDepth 100000
set_option linter.all false
namespace Go.Proofs.YticbbfbpeimkbaaGreatDoor
open Go.Ab
abbrev ZQ:Nat:=68719476736
theorem Yv (H:za) (b:Nat) (x y:AObj):(H.upd b x).upd b y=H.upd b y:=by
 funext c;by_cases e:c=b<;>simp[za.upd,e]
theorem Zy {P:Program} {f:FuncId} {args:List AV} {H:za} {R RP:AV→za→Prop} (h:zf P f args H (fun e H'=>match e with|.ret v=>R v.strip H'|.pan v=>RP v H')) :
  zf P f args H (fun e H'=>match e with|.ret v=>R v H'|.pan v=>RP v H'):=by
 intro γ w vs ht hs hv
 refine(h γ w vs ht hs hv).mono fun e w' ⟨γ',H',r,h1,h2,h3,h4,h5⟩=>?_
 cases r with
 | ret v =>
  cases e with
  | returned u=>exact⟨γ',H',.ret v.strip,h1,h2,h3,Rep.strip h4,h5⟩
  | panicked ch=>exact h4.elim
  | outgrown=>exact h4.elim
 | pan v=>exact⟨γ',H',.pan v,h1,h2,h3,h4,h5⟩
theorem own_ne {H:za} {c b d n sz:Nat} {cs:List AV} (h:yq H (.tip b d) n sz) (hc:H c=some (.cells cs)):b≠c:=fun e=>by
 subst e
 have:H b=some (.tip (d+n) sz):=h
 rw[hc] at this;cases this
theorem yh {H H':za} {o:Own} {n sz c:Nat} {cs:List AV} (h:yq H o n sz) (hc:H c=some (.cells cs)) (hk:Kept H o H'):H' c=some (.cells cs) :=
 hk c _ hc fun d e=>by subst e;exact own_ne h hc rfl
theorem yG {H:za} {o:Own} {n sz c:Nat} {cs:List AV} {x:AObj} (h:yq H o n sz) (hc:H c=some (.cells cs)):yq (H.upd c x) o n sz:=by
 cases o with
 | tip b d=>have:=own_ne h hc;show (H.upd c x) b=_;rw[upd_ne this];exact h
 | no=>exact h
 | nil=>exact h
 | full=>exact h
structure SaidAt (H:za) (q:Nat) (x:Sd) (o o2:Own):Prop where
 hq:H q=some (.cells [.sl o 1 (bytesOf x.b),.sl o2 1 (cU x.u),.bool x.ok])
 ho:yq H o x.b.length 1
 ho2:yq H o2 x.u.length 1
 ne:∀ b d d2,o=.tip b d→o2≠.tip b d2
theorem zkO {H:za} {q:Nat} {x:Sd} {o o2:Own} (hs:SaidAt H q x o o2) (hw:x.w≤ZQ) :
  zf Tryz.prog 282 [.ptr q 0] H (fun e H'=>∃ v,e=.ret v∧(v=.tup []∧∃ o',SaidAt H' q (yD x) o' .nil)):=by
 refine zf.go ir282 ck282 (Al4 _) fun KP Q hQ=>?_
 obtain⟨hq,ho,ho2,hne⟩:=hs
 have hbl:=yz x.b
 simp only[ZQ,Sd.w] at hw
 simp(disch:=first|omega|assumption) only[ir282,hq,go_sem]
 refine zd (zr.low (zsH x.u (by omega))) ?_
 have hfw:=zeA x
 simp only[yD,Sd.w,Al5] at hfw
 simp(disch:=first|omega|assumption) only[hq,go_sem]
 refine zE (by rw[hbl];exact ho) (by simp[yz];omega) (by simp[maxLen,yz];omega) fun o' H1 hs=>?_
 have h1:H1 q=some (.cells [.sl o 1 (bytesOf x.b),.sl o2 1 (cU x.u),.bool x.ok]):=yh ho hq hs.kept
 have hown:=hs.own
 simp only[Al5,yz] at hown
 cases hok:x.ok
 ·rw[hok] at h1
  simp(disch:=first|omega|assumption) only[h1,Z6,Zg,go_sem]
  refine hQ _ _ _ _ _ nofun rfl (Low.refl _) ⟨rfl,o',?_,?_,rfl,nofun⟩
  ·simp[yD,hok,upd_same,cU,Zg,Z6]
  ·simp only[yD,Al5]
   exact yG hown h1
 ·rw[hok] at h1
  simp(disch:=first|omega|assumption) only[h1,Z6,Zg,go_sem]
  refine hQ _ _ _ _ _ nofun rfl (Low.refl _) ⟨rfl,o',?_,?_,rfl,nofun⟩
  ·simp[yD,hok,upd_same,cU,Zg,Z6]
  ·simp only[yD,Al5]
   exact yG hown h1
def zkJ (H':za) (q:Nat) (x:Sd) (s:List UInt8) (v:AV):Prop:=match Yl x s with
 | none=>v=.int .i64 0
 | some (x',t')=>v=.int .i64 ((s.length-t'.length:Nat):Int)∧∃ o o2,SaidAt H' q x' o o2
theorem ztL {H:za} {q:Nat} {x:Sd} {o o2:Own} (hs:SaidAt H q x o o2) (hw:x.w≤ZQ) (s:List UInt8) (hl:s.length≤Lim) :
  zf Tryz.prog 281 [.ptr q 0,.str s] H (fun e H'=>∃ v,e=.ret v∧zkJ H' q x s v):=by
 refine zf.go ir281 ck281 (Al4 _) fun KP Q hQ=>?_
 have hs0:=hs
 obtain⟨hq,ho,ho2,hne⟩:=hs
 have hul:=ziw x.u
 have hw0:=hw
 simp only[ZQ,Sd.w] at hw
 simp only[Lim] at hl
 simp(disch:=first|omega|assumption) only[ir281,go_sem]
 refine zd (zaX s [117]) ?_
 cases s with
 | nil =>
  simp(disch:=first|omega|assumption) only[List.isPrefixOf,go_sem]
  exact hQ _ _ _ _ [_] nofun rfl (Low.refl _) (by simp[zkJ,Yl,zb,ze,AV.strip,AV.strip1])
 | cons c t =>
  simp only[Al2] at hl
  by_cases hc:c=117
  ·subst hc
   have hp:[117].isPrefixOf ((117:UInt8)::t)=true:=rfl
   have h1:((1:Int)≤((t.length+1:Nat):Int))=True:=eq_true (by omega)
   simp(disch:=first|omega|assumption) only[hp,h1,go_sem]
   refine zd (zs6 t (by simp only[Lim];omega)) ?_
   cases hu:Yb t with
   | none =>
    simp(disch:=first|omega|assumption) only[Option.isSome_none,go_sem]
    exact hQ _ _ _ _ [_] nofun rfl (Low.refl _) (by simp[zkJ,Yl,hu,zb,ze,AV.strip,AV.strip1])
   | some u =>
    have h4:=zau _ _ _ _ hu
    simp(disch:=first|omega|assumption) only[Option.isSome_some,Option.getD_some,hq,go_sem]
    refine zE (by rw[hul];exact ho2) (by simp[hul];omega) (by simp[maxLen,hul];omega) fun o' H1 hs1=>?_
    have h2:=yh ho2 hq hs1.kept
    simp(disch:=first|omega|assumption) only[h2,znu,go_sem]
    refine hQ _ _ _ _ [_] nofun rfl (Low.refl _) ?_
    have hsp:=Sep.step (a:=[(o,x.b.length,1)]) (b:=[]) (n:=x.u.length) (n':=x.u.length+1) (sz:=1) ⟨by intro y hy;simp at hy;rcases hy with rfl|rfl<;>assumption,?_⟩ (by simpa[hul] using hs1)
    ·simp only[zkJ,Yl,if_true,hu,yS]
     refine⟨?_,o,o',?_,?_,?_,?_⟩
     ·show AV.int .i64 5=_
      simp only[Al2,yH]
      congr 1;omega
     ·simp[upd_same,cU]
     ·exact yG (hsp.own (o,x.b.length,1) (by simp)) h2
     ·simp only[Al5,Al2,Al3]
      exact yG (hsp.own (o',x.u.length+1,1) (by simp)) h2
     ·intro b d d2 e1 e2
      have:=hsp.nd
      simp[e1,e2,zaN] at this
    ·cases h5:zaN o with
     | none=>cases h6:zaN o2<;>simp[h5,h6]
     | some b =>
      obtain⟨d,h7⟩:=zbM h5
      cases h6:zaN o2 with
      | none=>simp[h5,h6]
      | some b2 =>
       obtain⟨d2,h8⟩:=zbM h6
       simp only[Al6,zcD,List.filterMap_cons,List.filterMap_nil,h5,h6,List.nodup_cons,List.mem_singleton,List.not_mem_nil,not_false_eq_true,List.nodup_nil,and_true]
       rintro rfl
       exact hne b d d2 h7 h8
  ·have hp:[117].isPrefixOf (c::t)=false:=by
    simp only[List.isPrefixOf,Bool.and_true,beq_eq_false_iff_ne,ne_eq];exact fun e=>hc e.symm
   have hcl:¬ (c::t=[]):=by simp
   have h1:((0:Int)<((t.length+1:Nat):Int))=True:=eq_true (by omega)
   simp(disch:=first|omega|assumption) only[hp,hcl,h1,go_sem]
   refine zd (zgO zaR c) ?_
   have hidx:=ziK zaR c
   by_cases hk:Lib.indexByte zaR c<0
   ·simp(disch:=first|omega|assumption) only[hk,go_sem]
    exact hQ _ _ _ _ [_] nofun rfl (Low.refl _) (by simp[zkJ,Yl,hc,hk,zb,ze,AV.strip,AV.strip1])
   ·obtain⟨k,hk2⟩:∃ k:Nat,Lib.indexByte zaR c=(k:Int):=⟨(Lib.indexByte zaR c).toNat,by omega⟩
    have hk8:k<8:=by simp[zaR] at hidx;rw[show Lib.indexByte [34,92,47,98,102,110,114,116] c=(k:Int) from hk2] at hidx;omega
    have hk0:¬ ((k:Int)<0):=by omega
    simp(disch:=first|omega|assumption) only[hk2,hk0,go_sem]
    refine zc (zkO hs0 hw0) fun v H1 ⟨hv,o',hs1⟩=>?_
    subst hv
    obtain⟨hq1,ho1,_,_⟩:=hs1
    have hfw:=zeA x
    have hbl:=yz (yD x).b
    simp only[Sd.w] at hfw
    have hk8':((k:Int)<8)=True:=eq_true (by omega)
    simp(disch:=first|omega|assumption) only[hq1,hk8',go_sem]
    refine zE (by rw[hbl];exact ho1) (by simp[hbl];omega) (by simp[maxLen,hbl];omega) fun o3 H2 hs3=>?_
    have hq2:=yh ho1 hq1 hs3.kept
    simp(disch:=first|omega|assumption) only[hq2,go_sem]
    refine hQ _ _ _ _ [_] nofun rfl (Low.refl _) ?_
    simp only[zkJ,Yl,hc,if_false,hk2,hk0]
    refine⟨?_,o3,.nil,?_,?_,rfl,nofun⟩
    ·show AV.int .i64 1=_
     simp only[Al2]
     congr 1;omega
    ·simp only[upd_same,Sd.put,Int.toNat_natCast]
     rw[← Zg];rfl
    ·simp only[Sd.put,Al5,Al2,Al3]
     exact yG (by simpa[hbl] using hs3.own) hq2
def Za (n:Int):AV:=.ifc 186 (.agg [.int .i64 n])
def prc (L p:TS) (dp:Nat):AObj:=.cells [.sl .no 2 (cKs L),.int .i64 (p.length:Int),.int .i64 (dp:Int)]
def Pat (H:za) (r:Nat) (L t:TS) (dp:Nat) (H':za):Prop:=∃ p,p++t=L∧H'=H.upd r (prc L p dp)
def zdR {α:Type} (H:za) (r:Nat) (L:TS) (dp:Nat) (x:PR α) (f:α→AV) (v:AV) (H':za):Prop:=∃ a t',x=.ok (a,t')∧v=f a∧Pat H r L t' dp H'
def zej {α:Type} (x:PR α) (v:AV) (_:za):Prop:=∃ n,x=.error n∧v=Za n
abbrev z1:Nat:=1000000
abbrev RpE {α:Type} (H:za) (r:Nat) (L:TS) (dp:Nat) (x:PR α) (f:α→AV):AEnd→za→Prop:=fun e H'=>match e with|.ret v=>zdR H r L dp x f v H'|.pan v=>zej x v H'
theorem Pat.again {H H1 H2:za} {r:Nat} {L t t':TS} {dp dp':Nat} (h:Pat H r L t dp H1) (h':Pat H1 r L t' dp' H2):Pat H r L t' dp' H2:=by
 obtain⟨p,_,rfl⟩:=h
 obtain⟨q,hq,rfl⟩:=h'
 exact⟨q,hq,Yv ..⟩
theorem Pat.at {H H1:za} {r:Nat} {L t:TS} {dp:Nat} (h:Pat H r L t dp H1):∃ p,p++t=L∧H1 r=some (prc L p dp):=by
 obtain⟨p,hp,rfl⟩:=h
 exact⟨p,hp,upd_same ..⟩
theorem Pat.self {H:za} {r:Nat} {L p t:TS} {dp:Nat} (hs:p++t=L) (hr:H r=some (prc L p dp)):Pat H r L t dp H :=
 ⟨p,hs,by funext c;by_cases e:c=r<;>simp[za.upd,e,hr]⟩
structure KI (H:za) (r:Nat) (L t:TS) (dp:Nat) (H1:za):Prop where
 keep:∀ c x,c≠r→H c=some x→H1 c=some x
 here:∃ p,p++t=L∧H1 r=some (prc L p dp)
 hr:∃ x,H r=some x
theorem KI.start {H:za} {r:Nat} {L p t:TS} {dp:Nat} (hs:p++t=L) (hr:H r=some (prc L p dp)):KI H r L t dp H:=⟨fun _ _ _ h=>h,⟨p,hs,hr⟩,⟨_,hr⟩⟩
theorem KI.call {H H1 H2:za} {r:Nat} {L t t':TS} {dp dp':Nat} (h:KI H r L t dp H1) (ha:Pat H1 r L t' dp' H2):KI H r L t' dp' H2:=by
 obtain⟨q,hq,rfl⟩:=ha
 exact⟨fun c x hc hx=>by rw[upd_ne hc];exact h.keep c x hc hx,⟨q,hq,upd_same ..⟩,h.hr⟩
theorem KI.ne {H H1:za} {r b:Nat} {L t:TS} {dp:Nat} (h:KI H r L t dp H1) (hb:H b=none):r≠b:=fun e=>by
 subst e;obtain⟨x,hx⟩:=h.hr;rw[hb] at hx;cases hx
theorem KI.none {H H1:za} {r b:Nat} {L t:TS} {dp:Nat} (h:KI H r L t dp H1) (hb:H1 b=.none):H b=.none:=by
 cases hx:H b with
 | none=>rfl
 | some x =>
  by_cases e:b=r
  ·subst e;obtain⟨p,_,h2⟩:=h.here;rw[hb] at h2;cases h2
  ·have:=h.keep b x e hx;rw[hb] at this;cases this
theorem KI.box {H H1:za} {r b:Nat} {L t:TS} {dp:Nat} {x:AObj} (h:KI H r L t dp H1) (hb:H b=.none):KI H r L t dp (H1.upd b x):=by
 obtain⟨p,hp,h2⟩:=h.here
 exact⟨fun c y hc hy=>by rw[upd_ne (fun e=>by subst e;rw[hb] at hy;cases hy)];exact h.keep c y hc hy,⟨p,hp,by rw[upd_ne (h.ne hb)];exact h2⟩,h.hr⟩
theorem KI.low {H H1:za} {r:Nat} {L t:TS} {dp:Nat} (h:KI H r L t dp H1):∃ H2,Low H2 H1∧Pat H r L t dp H2:=by
 obtain⟨p,hp,h1⟩:=h.here
 refine⟨_,Low.of_sub fun c x hc=>?_,p,hp,rfl⟩
 by_cases e:c=r
 ·subst e;rw[upd_same] at hc;rw[← hc];exact h1
 ·rw[upd_ne e] at hc;exact h.keep c x e hc
structure KO (H:za) (r:Nat) (L t:TS) (dp:Nat) (H1:za) (o:Own) (n sz:Nat):Prop extends KI H r L t dp H1 where
 own:yq H1 o n sz
 tip:∀ b d,o=.tip b d→H b=.none
theorem KO.call {H H1 H2:za} {r:Nat} {L t t':TS} {dp dp':Nat} {o:Own} {n sz:Nat} (h:KO H r L t dp H1 o n sz) (ha:Pat H1 r L t' dp' H2):KO H r L t' dp' H2 o n sz:=by
 obtain⟨p,hp,h1⟩:=h.here
 refine⟨h.toKI.call ha,?_,h.tip⟩
 obtain⟨q,hq,rfl⟩:=ha
 exact yG h.own h1
theorem KO.box {H H1:za} {r b:Nat} {L t:TS} {dp:Nat} {o:Own} {n sz:Nat} {cs cs':List AV} (h:KO H r L t dp H1 o n sz) (hb:H b=.none) (h1:H1 b=some (.cells cs)):KO H r L t dp (H1.upd b (.cells cs')) o n sz :=
 ⟨h.toKI.box hb,yG h.own h1,h.tip⟩
theorem KO.app {H H1 H2:za} {r:Nat} {L t:TS} {dp:Nat} {o o':Own} {n n' sz:Nat} (h:KO H r L t dp H1 o n sz) (hs:OwnS H1 o H2 o' n' sz):KO H r L t dp H2 o' n' sz:=by
 obtain⟨p,hp,h1⟩:=h.here
 refine⟨⟨fun c x hc hx=>hs.kept c x (h.keep c x hc hx) fun d e=>?_,⟨p,hp,yh h.own h1 hs.kept⟩,h.hr⟩,hs.own,fun b d e=>?_⟩
 ·have:=h.tip c d e;rw[hx] at this;cases this
 ·rcases hs.new b d e with h2|⟨d0,e2⟩
  ·exact h.toKI.none h2
  ·exact h.tip b d0 e2
theorem KO.stay {H H1 H2:za} {r b:Nat} {L t:TS} {dp:Nat} {o o':Own} {n n' sz:Nat} {cs:List AV} (h:KO H r L t dp H1 o n sz) (hs:OwnS H1 o H2 o' n' sz) (hb:H1 b=some (.cells cs)):H2 b=some (.cells cs) :=
 yh h.own hb hs.kept
theorem KI.done {α:Type} {H:za} {r:Nat} {L:TS} {dp:Nat} {x:PR α} {f:α→AV} {Q:AExit→Env→za→Prop} {res:List ARes}
  (hQ:∀ e ρ H1 H2 vs,(∀ i,e≠.exit i)→zo ρ H1 res=some vs→Low H2 H1→zdR H r L dp x f (zb vs).strip H2→Q e ρ H1)
  (ρ1:Env) (H1:za) (vs:List AV) (a:α) (t':TS) (h1:zo ρ1 H1 res=some vs) (h2:x=.ok (a,t')) (h3:KI H r L t' dp H1) (h4:(zb vs).strip=f a):Q .ret ρ1 H1:=by
 obtain⟨H2,hl,ha⟩:=h3.low
 exact hQ .ret ρ1 H1 H2 vs nofun h1 hl ⟨a,t',h2,h4,ha⟩
theorem ZH:∀ L:TS,L.length≤wT L
 | []=>Al4 _
 | x::L=>by have:=ZH L;rw[zjc];simp only[Al2,wK];omega
theorem zsS {p t L:TS} (h:p++t=L):(hdT t).s.length≤wT L:=by
 subst h
 cases t with
 | nil=>simp[hdT]
 | cons x t =>
  have:wT (p++x::t)=wT p+wT (x::t):=by simp[wT]
  rw[this,zjc];simp only[hdT,List.headD_cons,wK];omega
theorem Pat.other {H H1:za} {r c:Nat} {L t:TS} {dp:Nat} (h:Pat H r L t dp H1) (hc:c≠r):H1 c=H c:=by
 obtain⟨p,_,rfl⟩:=h
 exact upd_ne hc
theorem zdj (H:za) (r:Nat) (n:Int):zf Tryz.prog 160 [.ptr r 0,.int .i64 n] H (fun e H'=>match e with|.ret v=>False|.pan v=>v=Za n):=by
 refine zf.goO (R:=fun _ _=>False) (RP:=fun v _=>v=Za n) ir160 ck160 (Al4 _) fun KP Q hQ hP=>?_
 simp(disch:=first|omega|assumption) only[ir160,go_sem]
 exact hP _ _ H (Low.refl _) rfl
section
variable {H:za} {r:Nat} {L p t:TS} {dp:Nat}
theorem zn3 (hs:p++t=L) (hr:H r=some (prc L p dp)):zf Tryz.prog 92 [.ptr r 0] H (fun e H'=>∃ v,e=.ret v∧(v=.bool (decide (t≠[]))∧H'=H)):=by
 refine zf.go ir92 ck92 (Al4 _) fun KP Q hQ=>?_
 simp only[prc] at hr
 have hcl:=zcQ L
 have hlen:p.length+t.length=L.length:=by rw[← hs];simp
 simp(disch:=first|omega|assumption) only[ir92,hr,hcl,go_sem]
 cases t with
 | nil =>
  have h1:¬ ((p.length:Int)<(L.length:Int)):=by simp at hlen;omega
  simp(disch:=first|omega|assumption) only[h1,go_sem]
  exact hQ _ _ _ _ [_] nofun rfl (Low.refl _) ⟨(by simp[zb,ze,AV.strip,AV.strip1]),rfl⟩
 | cons c u =>
  have h1:((p.length:Int)<(L.length:Int))=True:=eq_true (by simp at hlen;omega)
  simp(disch:=first|omega|assumption) only[h1,go_sem]
  exact hQ _ _ _ _ [_] nofun rfl (Low.refl _) ⟨(by simp[zb,ze,AV.strip,AV.strip1]),rfl⟩
theorem zia (hs:p++t=L) (hr:H r=some (prc L p dp)):zf Tryz.prog 174 [.ptr r 0] H (fun e H'=>∃ v,e=.ret v∧(v=yl (hdT t)∧H'=H)):=by
 refine zf.go ir174 ck174 (Al4 _) fun KP Q hQ=>?_
 have hcl:=zcQ L
 have hlen:p.length+t.length=L.length:=by rw[← hs];simp
 simp(disch:=first|omega|assumption) only[ir174,go_sem]
 refine zh fun b hb=>?_
 have hbr:r≠b:=fun e=>by subst e;rw[hb] at hr;cases hr
 have hr2:(H.upd b (.cells [.int .i64 0,.str []])) r=some (prc L p dp):=by rw[upd_ne hbr];exact hr
 simp(disch:=first|omega|assumption) only[go_sem]
 refine zc (zn3 hs hr2) fun v H1 ⟨hv,hH⟩=>?_
 subst hv;subst hH
 have hlow:∀ x,Low H (H.upd b x):=fun x=>(Low.refl _).upd hb
 cases t with
 | nil =>
  simp(disch:=first|omega|assumption) only[go_sem]
  exact hQ _ _ _ H [.agg [.int .i64 0,.str []]] nofun (by simp(disch:=first|omega|assumption) only[ir174,zo,zL,go_sem]) (hlow _) ⟨rfl,rfl⟩
 | cons c u =>
  simp only[prc] at hr2
  have h1:((p.length:Int)<(L.length:Int))=True:=eq_true (by simp at hlen;omega)
  have hg:(cKs L).getD p.length []=[.int .i64 c.k,.str c.s]:=by rw[← hs];simp[cKs,cK]
  simp(disch:=first|omega|assumption) only[hr2,hcl,h1,hg,go_sem]
  exact hQ _ _ _ H [.agg [.int .i64 c.k,.str c.s]] nofun (by simp(disch:=first|omega|assumption) only[ir174,zo,zL,go_sem]) (hlow _) ⟨rfl,rfl⟩
theorem zna (hs:p++t=L) (hr:H r=some (prc L p dp)) (m:List UInt8):zf Tryz.prog 161 [.ptr r 0,.str m] H (fun e H'=>∃ v,e=.ret v∧(v=.bool (isP m t)∧H'=H)):=by
 refine zf.go ir161 ck161 (Al4 _) fun KP Q hQ=>?_
 simp(disch:=first|omega|assumption) only[ir161,go_sem]
 refine zc (zia hs hr) fun v H1 ⟨hv,hH⟩=>?_
 subst hv;subst hH
 simp(disch:=first|omega|assumption) only[yl,yk,K1.fits,zbQ,AV.keq1,Bool.and_true,go_sem]
 exact hQ _ _ _ _ [_] nofun rfl (Low.refl _) ⟨by simp[zb,ze,AV.strip,AV.strip1,isP],rfl⟩
theorem zqm (hs:p++t=L) (hr:H r=some (prc L p dp)) (m:List UInt8):zf Tryz.prog 248 [.ptr r 0,.str m] H (fun e H'=>∃ v,e=.ret v∧(v=.bool (isW m t)∧H'=H)):=by
 refine zf.go ir248 ck248 (Al4 _) fun KP Q hQ=>?_
 simp(disch:=first|omega|assumption) only[ir248,go_sem]
 refine zc (zia hs hr) fun v H1 ⟨hv,hH⟩=>?_
 subst hv;subst hH
 simp(disch:=first|omega|assumption) only[yl,yk,K1.fits,zbQ,AV.keq1,Bool.and_true,go_sem]
 exact hQ _ _ _ _ [_] nofun rfl (Low.refl _) ⟨by simp[zb,ze,AV.strip,AV.strip1,isW],rfl⟩
theorem zni (hs:p++t=L) (hk:(hdT t).k≠0):(p++[hdT t])++t.tail=L:=by
 rw[zfM,List.singleton_append,← YX hk];exact hs
theorem za9 (hs:p++t=L) (hk:(hdT t).k≠0) (H:za):Pat H r L t.tail dp (H.upd r (.cells [.sl .no 2 (cKs L),.int .i64 ((p.length:Int)+1),.int .i64 (dp:Int)])) :=
 ⟨p++[hdT t],zni hs hk,by simp[prc]⟩
def YP (m:List UInt8) (t:TS):TS:=if isP m t then t.tail else t
theorem zah (hs:p++t=L) (hl:L.length≤z1) (hr:H r=some (prc L p dp)) (m:List UInt8):zf Tryz.prog 191 [.ptr r 0,.str m] H (fun e H'=>∃ v,e=.ret v∧(v=.bool (isP m t)∧Pat H r L (YP m t) dp H')):=by
 refine zf.go ir191 ck191 (Al4 _) fun KP Q hQ=>?_
 simp only[z1] at hl
 have hlen:p.length+t.length=L.length:=by rw[← hs];simp
 simp(disch:=first|omega|assumption) only[ir191,go_sem]
 refine zc (zna hs hr m) fun v H1 ⟨hv,hH⟩=>?_
 subst hv;subst hH
 have hr':=hr
 simp only[prc] at hr'
 cases hi:isP m t with
 | true =>
  simp(disch:=first|omega|assumption) only[hr',wrap64,go_sem]
  refine hQ _ _ _ _ [_] nofun rfl (Low.refl _) ⟨(by simp[zb,ze,AV.strip,AV.strip1,hi]),?_⟩
  simp only[YP,hi,if_true]
  exact za9 hs (zgh hi) _
 | false =>
  simp(disch:=first|omega|assumption) only[go_sem]
  refine hQ _ _ _ _ [_] nofun rfl (Low.refl _) ⟨(by simp[zb,ze,AV.strip,AV.strip1,hi]),?_⟩
  simp only[YP,hi,Al7,if_false]
  exact Pat.self hs hr
theorem zhK (hs:p++t=L) (hl:L.length≤z1) (hr:H r=some (prc L p dp)) (m:List UInt8):zf Tryz.prog 163 [.ptr r 0,.str m] H (fun e H'=>∃ v,e=.ret v∧(v=.bool (isW m t)∧Pat H r L (Yz m t) dp H')):=by
 refine zf.go ir163 ck163 (Al4 _) fun KP Q hQ=>?_
 simp only[z1] at hl
 have hlen:p.length+t.length=L.length:=by rw[← hs];simp
 simp(disch:=first|omega|assumption) only[ir163,go_sem]
 refine zc (zqm hs hr m) fun v H1 ⟨hv,hH⟩=>?_
 subst hv;subst hH
 have hr':=hr
 simp only[prc] at hr'
 cases hi:isW m t with
 | true =>
  simp(disch:=first|omega|assumption) only[hr',wrap64,go_sem]
  refine hQ _ _ _ _ [_] nofun rfl (Low.refl _) ⟨(by simp[zb,ze,AV.strip,AV.strip1,hi]),?_⟩
  simp only[Yz,hi,if_true]
  exact za9 hs (zcK hi) _
 | false =>
  simp(disch:=first|omega|assumption) only[go_sem]
  refine hQ _ _ _ _ [_] nofun rfl (Low.refl _) ⟨(by simp[zb,ze,AV.strip,AV.strip1,hi]),?_⟩
  simp only[Yz,hi,Al7,if_false]
  exact Pat.self hs hr
theorem zgs (hs:p++t=L) (hl:L.length≤z1) (hr:H r=some (prc L p dp)) (m:List UInt8):zf Tryz.prog 182 [.ptr r 0,.str m] H (RpE H r L dp (ZY m t) fun _=>.tup []):=by
 refine zf.goO ir182 ck182 (Al4 _) fun KP Q hQ hP=>?_
 simp(disch:=first|omega|assumption) only[ir182,go_sem]
 refine zc (zah hs hl hr m) fun v H1 ⟨hv,hH⟩=>?_
 subst hv
 cases hi:isP m t with
 | true =>
  rw[YP,hi] at hH
  simp(disch:=first|omega|assumption) only[go_sem]
  exact hQ _ _ _ _ [] nofun rfl (Low.refl _) ⟨(),t.tail,by unfold ZY;rw[hi];rfl,rfl,hH⟩
 | false =>
  simp(disch:=first|omega|assumption) only[go_sem]
  exact zk (zdj H1 r 2) (fun _ _ h=>h.elim) fun v H2 h=>hP v H2 H2 (Low.refl _) ⟨2,by unfold ZY;rw[hi];rfl,h⟩
theorem Y9 (hs:p++t=L) (hl:L.length≤z1) (hr:H r=some (prc L p dp)):zf Tryz.prog 183 [.ptr r 0] H (RpE H r L dp (yP t) AV.str):=by
 refine zf.goO ir183 ck183 (Al4 _) fun KP Q hQ hP=>?_
 simp only[z1] at hl
 have hlen:p.length+t.length=L.length:=by rw[← hs];simp
 simp(disch:=first|omega|assumption) only[ir183,go_sem]
 refine zc (zia hs hr) fun v H1 ⟨hv,hH⟩=>?_
 subst hv;subst hH
 simp(disch:=first|omega|assumption) only[go_sem]
 refine zh fun b hb=>?_
 have hbr:r≠b:=fun e=>by subst e;rw[hb] at hr;cases hr
 have hr':=hr
 simp only[prc] at hr'
 by_cases hk:(hdT t).k=2
 ·have hk':((hdT t).k=2)=True:=eq_true hk
  simp(disch:=first|omega|assumption) only[yl,hk',hr',hbr,Ne.symm hbr,wrap64,go_sem]
  refine hQ _ _ _ (H1.upd r (.cells [.sl .no 2 (cKs L),.int .i64 ((p.length:Int)+1),.int .i64 (dp:Int)])) [_] nofun rfl ?_ ⟨(hdT t).s,t.tail,by unfold yP;rw[if_pos hk],(by simp[zb,ze,AV.strip,AV.strip1]),za9 hs (by rw[hk];decide) _⟩
  refine Low.of_sub fun c x hc=>?_
  by_cases e:c=r
  ·subst e;rw[upd_same] at hc ⊢;exact hc
  ·rw[upd_ne e] at hc ⊢
   rw[upd_ne (fun e2=>by subst e2;rw[hb] at hc;cases hc)];exact hc
 ·simp(disch:=first|omega|assumption) only[yl,hk,go_sem]
  exact zk (zdj _ r 2) (fun _ _ h=>h.elim) fun v H2 h=>hP v H2 H2 (Low.refl _) ⟨2,by unfold yP;rw[if_neg hk],h⟩
theorem ziE (hs:p++t=L) (hl:L.length≤z1) (hd:dp≤16) (hr:H r=some (prc L p dp)) (m:List UInt8):zf Tryz.prog 179 [.ptr r 0,.str m] H
  (fun e H'=>match e with
   | .ret v=>v=.bool (isP m t)∧(isP m t=true→dp<16∧Pat H r L t.tail (dp+1) H')∧(isP m t=false→Pat H r L t dp H')
   | .pan v=>isP m t=true∧dp=16∧v=Za 4):=by
 refine zf.goO (R:=fun v H'=>v=.bool (isP m t)∧(isP m t=true→dp<16∧Pat H r L t.tail (dp+1) H')∧(isP m t=false→Pat H r L t dp H')) (RP:=fun v _=>isP m t=true∧dp=16∧v=Za 4) ir179 ck179 (Al4 _) fun KP Q hQ hP=>?_
 have hlen:p.length+t.length=L.length:=by rw[← hs];simp
 simp(disch:=first|omega|assumption) only[ir179,go_sem]
 refine zc (zna hs hr m) fun v H1 ⟨hv,hH⟩=>?_
 subst hv;subst hH
 have hr':=hr
 simp only[prc] at hr'
 cases hi:isP m t with
 | true =>
  by_cases h16:(16:Int)≤(dp:Int)
  ·simp(disch:=first|omega|assumption) only[hr',h16,go_sem]
   exact zk (zdj _ r 4) (fun _ _ h=>h.elim) fun v H2 h=>hP v H2 H2 (Low.refl _) ⟨hi,by omega,h⟩
  ·simp(disch:=first|omega|assumption) only[hr',h16,go_sem]
   refine zc (zah hs hl hr m) fun v H2 ⟨hv,hH⟩=>?_
   subst hv
   rw[YP,hi] at hH
   obtain⟨q,hq,h2⟩:=hH.at
   simp only[prc] at h2
   rw[hi]
   simp(disch:=first|omega|assumption) only[h2,wrap64,go_sem]
   exact hQ _ _ _ _ [_] nofun rfl (Low.refl _) ⟨(by simp[zb,ze,AV.strip,AV.strip1,hi]),fun _=>⟨by omega,hH.again ⟨q,hq,by simp[prc]⟩⟩,fun h=>(by rw[hi] at h;cases h)⟩
 | false =>
  simp(disch:=first|omega|assumption) only[go_sem]
  refine zc (zah hs hl hr m) fun v H2 ⟨hv,hH⟩=>?_
  subst hv
  rw[YP,hi] at hH
  rw[hi]
  simp(disch:=first|omega|assumption) only[go_sem]
  exact hQ _ _ _ _ [_] nofun rfl (Low.refl _) ⟨(by simp[zb,ze,AV.strip,AV.strip1,hi]),fun h=>(by rw[hi] at h;cases h),fun _=>by simpa using hH⟩
theorem zi4 (hs:p++t=L) (hl:L.length≤z1) (hd:1≤dp∧dp≤16) (hr:H r=some (prc L p dp)) (m:List UInt8):zf Tryz.prog 180 [.ptr r 0,.str m] H
  (fun e H'=>∃ v,e=.ret v∧(v=.bool (isP m t)∧(isP m t=true→Pat H r L t.tail (dp-1) H')∧(isP m t=false→Pat H r L t dp H'))):=by
 refine zf.go ir180 ck180 (Al4 _) fun KP Q hQ=>?_
 simp(disch:=first|omega|assumption) only[ir180,go_sem]
 refine zc (zah hs hl hr m) fun v H2 ⟨hv,hH⟩=>?_
 subst hv
 cases hi:isP m t with
 | true =>
  rw[YP,hi] at hH
  obtain⟨q,hq,h2⟩:=hH.at
  simp only[prc] at h2
  simp(disch:=first|omega|assumption) only[h2,wrap64,go_sem]
  refine hQ _ _ _ _ [_] nofun rfl (Low.refl _) ⟨(by simp[zb,ze,AV.strip,AV.strip1,hi]),fun _=>hH.again ⟨q,hq,?_⟩,fun h=>(by rw[hi] at h;cases h)⟩
  have e:((dp-1:Nat):Int)=(dp:Int)-1:=by omega
  simp only[prc,e]
 | false =>
  rw[YP,hi] at hH
  simp(disch:=first|omega|assumption) only[go_sem]
  exact hQ _ _ _ _ [_] nofun rfl (Low.refl _) ⟨(by simp[zb,ze,AV.strip,AV.strip1,hi]),fun h=>(by rw[hi] at h;cases h),fun _=>by simpa using hH⟩
end
theorem zrO (s:List UInt8):zr Tryz.prog 175 [.str s] (.agg (cV (Z9 s))):=by
 refine zr.go ir175 ck175 (Al4 _) fun KP Q hQ=>?_
 simp(disch:=first|omega|assumption) only[ir175,go_sem]
 refine zh fun b hb=>?_
 by_cases h1:s=[110,117,108,108]
 ·have h1':(s=[110,117,108,108])=True:=eq_true h1
  simp(disch:=first|omega|assumption) only[h1',go_sem]
  exact hQ _ _ _ [.agg [.int .i64 0,.int .i64 0,.str [],.sl .nil 5 [],.sl .nil 6 []]] nofun (by simp(disch:=first|omega|assumption) only[ir175,zo,zL,go_sem]) (by rw[Z9,if_pos h1];rfl)
 by_cases h2:s=[116,114,117,101]
 ·have h2':(s=[116,114,117,101])=True:=eq_true h2
  simp(disch:=first|omega|assumption) only[h1,h2',go_sem]
  exact hQ _ _ _ [.agg [.int .i64 1,.int .i64 1,.str [],.sl .nil 5 [],.sl .nil 6 []]] nofun (by simp(disch:=first|omega|assumption) only[ir175,zo,zL,go_sem]) (by rw[Z9,if_neg h1,if_pos h2];rfl)
 by_cases h3:s=[102,97,108,115,101]
 ·have h3':(s=[102,97,108,115,101])=True:=eq_true h3
  simp(disch:=first|omega|assumption) only[h1,h2,h3',go_sem]
  exact hQ _ _ _ [.agg [.int .i64 1,.int .i64 0,.str [],.sl .nil 5 [],.sl .nil 6 []]] nofun (by simp(disch:=first|omega|assumption) only[ir175,zo,zL,go_sem]) (by rw[Z9,if_neg h1,if_neg h2,if_pos h3];rfl)
 simp(disch:=first|omega|assumption) only[h1,h2,h3,go_sem]
 exact hQ _ _ _ [.agg [.int .i64 5,.int .i64 0,.str s,.sl .nil 5 [],.sl .nil 6 []]] nofun (by simp(disch:=first|omega|assumption) only[ir175,zo,zL,go_sem]) (by rw[Z9,if_neg h1,if_neg h2,if_neg h3];rfl)
def zlJ (fixed:Bool) (k:Nat):Prop:=∀(H:za) (r:Nat) (L p t:TS),p++t=L→wT L≤z1→H r=some (prc L p (16-k)) →
 zf Tryz.prog 96 [.ptr r 0,.bool fixed] H (RpE H r L (16-k) (ZA fixed k t) fun v=>.agg (cV v))
theorem zgd {fixed:Bool} {k:Nat} (hv:zlJ fixed k) {H:za} {r:Nat} {L p t:TS} (hs:p++t=L) (hl:wT L≤z1) (hr:H r=some (prc L p (16-k))) :
  zf Tryz.prog 181 [.ptr r 0,.bool fixed] H (RpE H r L (16-k) (yW (ZA fixed k) t) fun m=>.agg (cM m)):=by
 refine Zy (zf.goO (R:=fun v H'=>zdR H r L (16-k) (yW (ZA fixed k) t) (fun m=>.agg (cM m)) v.strip H') (RP:=fun v H'=>zej (yW (ZA fixed k) t) v H') ir181 ck181 (Al4 _) fun KP Q hQ hP=>?_)
 have hll:L.length≤z1:=Nat.le_trans (ZH L) hl
 have pan:∀(v:AV) (H1:za) (n:Int),v=Za n→yW (ZA fixed k) t=.error n→KP v H1:=fun v H1 n h1 h2=>hP v H1 H1 (Low.refl _) ⟨n,h2,h1⟩
 have fin:=KI.done hQ
 have K0:=KI.start hs hr
 simp(disch:=first|omega|assumption) only[ir181,go_sem]
 refine zh fun b4 hb4=>?_
 have n4:=K0.ne hb4
 have K1:=K0.box (x:=.cells [.str [],.int .i64 0,.int .i64 0,.str [],.sl .nil 5 [],.sl .nil 6 []]) hb4
 simp(disch:=first|omega|assumption) only[go_sem]
 refine zk (Y9 (dp:=16-k) hs hll (by rw[upd_ne n4];exact hr)) (fun v H1 ⟨nm,t1,e1,hv1,ha1⟩=>?_) fun v H1 ⟨n,e1,hv1⟩=>pan v H1 n hv1 (by rw[yW,e1];rfl)
 subst hv1
 have K2:=K1.call ha1
 obtain⟨p1,hp1,hr1⟩:=K2.here
 have g1:H1 b4=some (.cells [.str [],.int .i64 0,.int .i64 0,.str [],.sl .nil 5 [],.sl .nil 6 []]):=by rw[ha1.other (Ne.symm n4),upd_same]
 simp(disch:=first|omega|assumption) only[go_sem]
 refine zk (zgs (dp:=16-k) hp1 hll hr1 [58]) (fun v H2 ⟨_,t2,e2,hv2,ha2⟩=>?_) fun v H2 ⟨n,e2,hv2⟩=>pan v H2 n hv2 (by rw[yW,e1,zJ,e2];rfl)
 subst hv2
 have K3:=K2.call ha2
 obtain⟨p2,hp2,hr2⟩:=K3.here
 have g2:H2 b4=some (.cells [.str [],.int .i64 0,.int .i64 0,.str [],.sl .nil 5 [],.sl .nil 6 []]):=by rw[ha2.other (Ne.symm n4),g1]
 simp(disch:=first|omega|assumption) only[go_sem]
 refine zk (hv _ r L p2 t2 hp2 hl hr2) (fun v H3 ⟨x,t3,e3,hv3,ha3⟩=>?_) fun v H3 ⟨n,e3,hv3⟩=>pan v H3 n hv3 (by rw[yW,e1,zJ,e2,zJ,e3];rfl)
 subst hv3
 have K4:=K3.call ha3
 have g3:H3 b4=some (.cells [.str [],.int .i64 0,.int .i64 0,.str [],.sl .nil 5 [],.sl .nil 6 []]):=by rw[ha3.other (Ne.symm n4),g2]
 simp(disch:=first|omega|assumption) only[zH,zt,zl,zG,zu,zm,ya,g3,go_sem]
 refine fin _ _ [.agg (.str nm::cV x)] (.mk nm x) t3 (by simp(disch:=first|omega|assumption) only[zH,zt,zl,zG,zu,zm,ya,ir181,zo,zL,go_sem]) (by rw[yW,e1,zJ,e2,zJ,e3];rfl) (K4.box hb4) ?_
 simp[zb,AV.strip,AV.strip1,ya,y6]
abbrev zB:List AV:=[.int .i64 0,.int .i64 0,.str [],.sl .nil 5 [],.sl .nil 6 []]
theorem zl9 (fixed:Bool) (k:Nat) (hk:k≤16) (ih:∀ n,k=n+1→zlJ fixed n):zlJ fixed k:=by
 intro H r L p t hs hl hr
 refine Zy (zf.goO (R:=fun v H'=>zdR H r L (16-k) (ZA fixed k t) (fun v=>.agg (cV v)) v.strip H') (RP:=fun v H'=>zej (ZA fixed k t) v H') ir96 ck96 (Al4 _) fun KP Q hQ hP=>?_)
 have hll:L.length≤z1:=Nat.le_trans (ZH L) hl
 have hsl:(hdT t).s.length≤z1:=Nat.le_trans (zsS hs) hl
 have hplen:p.length+t.length=L.length:=by rw[← hs];simp
 have pan:∀(v:AV) (H1:za) (n:Int),v=Za n→ZA fixed k t=.error n→KP v H1:=fun v H1 n h1 h2=>hP v H1 H1 (Low.refl _) ⟨n,h2,h1⟩
 have fin:=KI.done hQ
 have K0:=KI.start hs hr
 simp(disch:=first|omega|assumption) only[ir96,go_sem]
 refine zh fun b4 hb4=>?_
 have n4:=K0.ne hb4
 simp(disch:=first|omega|assumption) only[go_sem]
 refine zc (zia (dp:=16-k) hs (by rw[upd_ne n4];exact hr)) fun v H1 ⟨hv,hH⟩=>?_
 subst hv;subst hH
 simp(disch:=first|omega|assumption) only[yl,go_sem]
 refine zh fun b5 hb5=>?_
 have h54:b5≠b4:=fun e=>by subst e;rw[upd_same] at hb5;cases hb5
 have hb5H:H b5=none:=by rw[upd_ne h54] at hb5;exact hb5
 have n5:=K0.ne hb5H
 simp(disch:=first|omega|assumption) only[go_sem]
 generalize hHa:za.upd (za.upd H b4 _) b5 _=Ha
 have g5:Ha b5=some (.cells [.int .i64 (hdT t).k,.str (hdT t).s]):=by rw[← hHa,upd_same]
 have g4:Ha b4=some (.cells zB):=by rw[← hHa,upd_ne (Ne.symm h54),upd_same]
 have gr:Ha r=some (prc L p (16-k)):=by rw[← hHa,upd_ne n5,upd_ne n4];exact hr
 have KA:KI H r L t (16-k) Ha:=by rw[← hHa];exact(K0.box hb4).box hb5H
 clear hHa
 have gr':=gr
 simp only[prc] at gr'
 simp only[zB] at g4
 have n5s:=Ne.symm n5
 have n4s:=Ne.symm n4
 simp only[z1] at hsl
 have hll2:=hll
 simp only[z1] at hll2
 by_cases hk2:(hdT t).k=2
 ·have hk2':((hdT t).k=2)=True:=eq_true hk2
  have e1:ZA fixed k t=.ok (Z9 (hdT t).s,t.tail):=by rw[y9,za6.eq_def,if_pos hk2]
  simp(disch:=first|omega|assumption) only[hk2',g5,gr',wrap64,n5s,n4s,go_sem]
  refine zd (zrO _) ?_
  simp(disch:=first|omega|assumption) only[zH,zt,zl,zG,zu,zm,ya,g4,n4s,go_sem]
  exact fin _ _ [.agg (cV (Z9 (hdT t).s))] _ _ (by simp(disch:=first|omega|assumption) only[zH,zt,zl,zG,zu,zm,ya,ir96,zo,zL,go_sem]) e1 ((KA.call (za9 hs (by rw[hk2];decide) _)).box hb4) (by simp[zb,AV.strip,y6])
 by_cases hk34:(hdT t).k=3∨(hdT t).k=4
 ·have e1:ZA fixed k t=.ok (zgK (hdT t).s,t.tail):=by rw[y9,za6.eq_def,if_neg hk2,if_pos hk34]
  have hk0:(hdT t).k≠0:=by omega
  have hd3:(decide ((hdT t).k=3)||decide ((hdT t).k=4))=true:=by simpa using hk34
  rcases Classical.em ((hdT t).k=3) with hk3|hk3
  ·have hk3':((hdT t).k=3)=True:=eq_true hk3
   simp(disch:=first|omega|assumption) only[hk2,hk3',g5,gr',wrap64,n5s,n4s,go_sem]
   refine zd (znM _ (by simp only[Lim];omega)) ?_
   cases hw:zaD (hdT t).s with
   | true =>
    simp(disch:=first|omega|assumption) only[go_sem]
    refine zd (zs5 _) ?_
    simp(disch:=first|omega|assumption) only[zH,zt,zl,zG,zu,zm,ya,g4,n4s,go_sem]
    refine fin _ _ [.agg (cV (.mk 2 (zhk (hdT t).s) [] [] []))] _ _ (by simp(disch:=first|omega|assumption) only[zH,zt,zl,zG,zu,zm,ya,ir96,zo,zL,go_sem]) e1 ((KA.call (za9 hs hk0 _)).box hb4) ?_
    simp[zb,AV.strip,y6,zgK,hw]
   | false =>
    simp(disch:=first|omega|assumption) only[g5,g4,n5s,n4s,go_sem]
    refine fin _ _ [.agg [.int .i64 3,.int .i64 0,.str (hdT t).s,.sl .nil 5 [],.sl .nil 6 []]] _ _ (by simp(disch:=first|omega|assumption) only[zH,zt,zl,zG,zu,zm,ya,ir96,zo,zL,go_sem]) e1 ((KA.call (za9 hs hk0 _)).box hb4) ?_
    simp[zb,AV.strip,AV.strip1,zgK,hw,cV,cVs,cMs]
  ·have hk4':((hdT t).k=4)=True:=eq_true (by omega)
   simp(disch:=first|omega|assumption) only[hk2,hk3,hk4',g5,gr',wrap64,n5s,n4s,go_sem]
   refine zd (znM _ (by simp only[Lim];omega)) ?_
   cases hw:zaD (hdT t).s with
   | true =>
    simp(disch:=first|omega|assumption) only[go_sem]
    refine zd (zs5 _) ?_
    simp(disch:=first|omega|assumption) only[zH,zt,zl,zG,zu,zm,ya,g4,n4s,go_sem]
    refine fin _ _ [.agg (cV (.mk 2 (zhk (hdT t).s) [] [] []))] _ _ (by simp(disch:=first|omega|assumption) only[zH,zt,zl,zG,zu,zm,ya,ir96,zo,zL,go_sem]) e1 ((KA.call (za9 hs hk0 _)).box hb4) ?_
    simp[zb,AV.strip,y6,zgK,hw]
   | false =>
    simp(disch:=first|omega|assumption) only[g5,g4,n5s,n4s,go_sem]
    refine fin _ _ [.agg [.int .i64 3,.int .i64 0,.str (hdT t).s,.sl .nil 5 [],.sl .nil 6 []]] _ _ (by simp(disch:=first|omega|assumption) only[zH,zt,zl,zG,zu,zm,ya,ir96,zo,zL,go_sem]) e1 ((KA.call (za9 hs hk0 _)).box hb4) ?_
    simp[zb,AV.strip,AV.strip1,zgK,hw,cV,cVs,cMs]
 by_cases hk5:(hdT t).k=5
 ·have hk5':((hdT t).k=5)=True:=eq_true hk5
  have hk3:¬ ((hdT t).k=3):=by omega
  have hk4:¬ ((hdT t).k=4):=by omega
  have e1:ZA fixed k t=.ok (.mk 4 0 (hdT t).s [] [],t.tail):=by rw[y9,za6.eq_def,if_neg hk2,if_neg hk34,if_pos hk5]
  simp(disch:=first|omega|assumption) only[hk2,hk3,hk4,hk5',g5,gr',wrap64,n5s,n4s,go_sem]
  refine zd (ztH _) ?_
  simp(disch:=first|omega|assumption) only[zH,zt,zl,zG,zu,zm,ya,g4,n4s,go_sem]
  exact fin _ _ [.agg (cV (.mk 4 0 (hdT t).s [] []))] _ _ (by simp(disch:=first|omega|assumption) only[zH,zt,zl,zG,zu,zm,ya,ir96,zo,zL,go_sem]) e1 ((KA.call (za9 hs (by rw[hk5];decide) _)).box hb4) (by simp[zb,AV.strip,y6])
 have hk3:¬ ((hdT t).k=3):=fun e=>hk34 (.inl e)
 have hk4:¬ ((hdT t).k=4):=fun e=>hk34 (.inr e)
 have bad1:isP [91] t=true→k=0→ZA fixed k t=.error 4:=fun hi h=>by
  subst h
  rw[y9,za6.eq_def,if_neg hk2,if_neg hk34,if_neg hk5,if_pos hi];rfl
 have bad2:¬ (isP [91] t=true)→isP [123] t=true→k=0→ZA fixed k t=.error 4:=fun h0 hi h=>by
  subst h
  rw[y9,za6.eq_def,if_neg hk2,if_neg hk34,if_neg hk5,if_neg h0,if_pos hi];rfl
 simp(disch:=first|omega|assumption) only[hk2,hk3,hk4,hk5,g5,go_sem]
 refine zk (ziE (dp:=16-k) hs hll (by omega) gr [91]) (fun v H1 ⟨hv,hat,haf⟩=>?_) fun v H1 ⟨hi,h16,hv⟩=>pan v H1 4 hv (bad1 hi (by omega))
 subst hv
 cases hi:isP [91] t with
 | true =>
  obtain⟨hd16,ha1⟩:=hat hi
  obtain⟨n,rfl⟩:∃ n,k=n+1:=⟨k-1,by omega⟩
  rw[show 16-(n+1)+1=16-n by omega] at ha1
  have K1:=KA.call ha1
  have g41:H1 b4=some (.cells zB):=by rw[ha1.other n4s,g4]
  have hi0:isP [91] t=true:=hi
  have hi2:isP [91] t=true:=hi
  simp(disch:=first|omega|assumption) only[go_sem]
  refine zh fun b8 hb8=>?_
  have hb8':=hb8
  have hb8H:H b8=none:=K1.none hb8
  have n8:=K1.ne hb8H
  have h84:b8≠b4:=fun e=>by subst e;rw[g41] at hb8;cases hb8
  have K2:KO H r L t.tail (16-n) (H1.upd b8 (.cells [.int .i64 6,.int .i64 0,.str [],.sl .nil 5 [],.sl .nil 6 []])) .nil 0 5:=⟨K1.box hb8H,rfl,nofun⟩
  obtain⟨R,hR⟩:∃ R,yK [93] (ZA fixed n) (t.tail.length+1) [] t.tail=R:=⟨_,rfl⟩
  have hx:ZA fixed (n+1) t=pb R fun l t=>.ok (Val.mk 6 0 [] l [],t):=by rw[← hR,y9,za6.eq_def,if_neg hk2,if_neg hk34,if_neg hk5,if_pos hi2];rfl
  simp(disch:=first|omega|assumption) only[List.map_nil,go_sem]
  refine zI (fun x:Own×List Val×TS=>[]) (fun x H'=>KO H r L x.2.2 (16-n) H' x.1 x.2.1.length 5∧H' b8=some (.cells [.int .i64 6,.int .i64 0,.str [],.sl x.1 5 (cVs x.2.1),.sl .nil 6 []])∧H' b4=some (.cells zB)∧(∃ m,x.2.2.length<m∧yK [93] (ZA fixed n) m x.2.1 x.2.2=R)∧x.2.1.length+x.2.2.length≤L.length) (fun x=>x.2.2.length) (.nil,[],t.tail) (by simp(disch:=first|omega|assumption) only[go_sem]) ⟨K2,upd_same ..,by rw[upd_ne (Ne.symm h84)];exact g41,⟨_,Nat.lt_succ_self _,hR⟩,by have:=K1.here;obtain⟨q,hq,_⟩:=this;rw[← hq];simp⟩ ?_
  rintro⟨o,l,u⟩ H3 J ⟨K3,g8,g4,⟨m,hm,hR3⟩,hlen⟩ hJ
  simp only at K3 g8 g4 hm hR3 hlen
  obtain⟨m,rfl⟩:∃ j,m=j+1:=⟨m-1,by omega⟩
  obtain⟨p3,hp3,hr3⟩:=K3.here
  have hcl:=zfS l
  simp(disch:=first|omega|assumption) only[go_sem]
  refine zc (zi4 hp3 hll (by omega) hr3 [93]) fun v H4 ⟨hv4,hat,haf⟩=>?_
  subst hv4
  cases hj:isP [93] u with
  | true =>
   have ha4:=hat hj
   have K4:=K3.call ha4
   rw[show 16-n-1=16-(n+1) by omega] at K4
   have g84:H4 b8=some (.cells [.int .i64 6,.int .i64 0,.str [],.sl o 5 (cVs l),.sl .nil 6 []]):=by rw[ha4.other (Ne.symm n8),g8]
   have g44:H4 b4=some (.cells zB):=by rw[ha4.other (Ne.symm n4),g4]
   simp only[zB] at g44
   have e1:R=.ok (l,u.tail):=by rw[← hR3,yK,hj];rfl
   simp(disch:=first|omega|assumption) only[g84,g44,Ne.symm h84,h84,go_sem]
   refine fin _ _ [.agg [.int .i64 6,.int .i64 0,.str [],.sl o 5 (cVs l),.sl .nil 6 []]] (Val.mk 6 0 [] l []) u.tail (by simp(disch:=first|omega|assumption) only[ir96,zo,zL,go_sem]) (by rw[hx,e1];rfl) (K4.toKI.box hb4) ?_
   simp[zb,AV.strip,AV.strip1,cV,cVs,cMs,zeT]
  | false =>
   have ha4:=haf hj
   have K4:=K3.call ha4
   obtain⟨p4,hp4,hr4⟩:=K4.here
   have g84:H4 b8=some (.cells [.int .i64 6,.int .i64 0,.str [],.sl o 5 (cVs l),.sl .nil 6 []]):=by rw[ha4.other (Ne.symm n8),g8]
   have g44:H4 b4=some (.cells zB):=by rw[ha4.other (Ne.symm n4),g4]
   rw[yK,hj] at hR3
   simp only[Al7,if_false] at hR3
   simp(disch:=first|omega|assumption) only[g84,go_sem]
   refine zk (ih n rfl _ r L p4 u hp4 hl hr4) (fun v H5 ⟨x,t5,e5,hv5,ha5⟩=>?_) fun v H5 ⟨n5,e5,hv5⟩=>pan v H5 n5 hv5 (by rw[hx,← hR3,e5];rfl)
   subst hv5
   rw[e5,zJ] at hR3
   have hlt:=(y8 fixed n).lt (by decide) _ _ _ e5
   have K5:=K4.call ha5
   have g85:H5 b8=some (.cells [.int .i64 6,.int .i64 0,.str [],.sl o 5 (cVs l),.sl .nil 6 []]):=by rw[ha5.other (Ne.symm n8),g84]
   have g45:H5 b4=some (.cells zB):=by rw[ha5.other (Ne.symm n4),g44]
   simp(disch:=first|omega|assumption) only[zH,zt,zl,zG,zu,zm,ya,g85,go_sem]
   refine zE (by rw[hcl];exact K5.own) (by simp only[hcl,Al2,Al3];simp only[z1] at hll;omega) (by simp only[hcl,Al2,Al3,maxLen];simp only[z1] at hll;omega) fun o6 H6 hs6=>?_
   have K6:=K5.app (by simpa[hcl] using hs6)
   have g86:=K5.stay hs6 g85
   have g46:=K5.stay hs6 g45
   simp(disch:=first|omega|assumption) only[zH,zt,zl,zG,zu,zm,ya,g86,go_sem]
   refine goJ (hJ (o6,l++[x],t5) _ (by simp only;omega) ⟨by simpa using K6.box hb8H g86,by rw[upd_same];simp[zcT,y6],by rw[upd_ne (Ne.symm h84)];exact g46,⟨m,by simp only;omega,hR3⟩,by simp only[Al5,Al2,Al3];omega⟩) (by simp(disch:=first|omega|assumption) only[go_sem])
 | false =>
  have ha1:=haf hi
  have K1:=KA.call ha1
  have g41:H1 b4=some (.cells zB):=by rw[ha1.other n4s,g4]
  obtain⟨p1,hp1,hr1⟩:=K1.here
  have hi0:¬ (isP [91] t=true):=by rw[hi];decide
  clear hat haf
  simp(disch:=first|omega|assumption) only[go_sem]
  refine zk (ziE (dp:=16-k) hp1 hll (by omega) hr1 [123]) (fun v H2 ⟨hv,hat,haf⟩=>?_) fun v H2 ⟨hi,h16,hv⟩=>pan v H2 4 hv (bad2 hi0 hi (by omega))
  subst hv
  cases hi:isP [123] t with
  | true =>
   obtain⟨hd16,ha2⟩:=hat hi
   obtain⟨n,rfl⟩:∃ n,k=n+1:=⟨k-1,by omega⟩
   rw[show 16-(n+1)+1=16-n by omega] at ha2
   have K1:=K1.call ha2
   have g41:H2 b4=some (.cells zB):=by rw[ha2.other n4s,g41]
   clear hat haf
   have hi2:isP [123] t=true:=hi
   simp(disch:=first|omega|assumption) only[go_sem]
   refine zh fun b8 hb8=>?_
   have hb8':=hb8
   have hb8H:H b8=none:=K1.none hb8
   have n8:=K1.ne hb8H
   have h84:b8≠b4:=fun e=>by subst e;rw[g41] at hb8;cases hb8
   have K2:KO H r L t.tail (16-n) (H2.upd b8 (.cells [.int .i64 7,.int .i64 0,.str [],.sl .nil 5 [],.sl .nil 6 []])) .nil 0 6:=⟨K1.box hb8H,rfl,nofun⟩
   obtain⟨R,hR⟩:∃ R,yK [125] (yW (ZA fixed n)) (t.tail.length+1) [] t.tail=R:=⟨_,rfl⟩
   have hx:ZA fixed (n+1) t=pb R fun l t=>.ok (Val.mk 7 0 [] [] l,t):=by rw[← hR,y9,za6.eq_def,if_neg hk2,if_neg hk34,if_neg hk5,if_neg hi0,if_pos hi2];rfl
   simp(disch:=first|omega|assumption) only[List.map_nil,go_sem]
   refine zI (fun x:Own×List Mem×TS=>[]) (fun x H'=>KO H r L x.2.2 (16-n) H' x.1 x.2.1.length 6∧H' b8=some (.cells [.int .i64 7,.int .i64 0,.str [],.sl .nil 5 [],.sl x.1 6 (cMs x.2.1)])∧H' b4=some (.cells zB)∧(∃ m,x.2.2.length<m∧yK [125] (yW (ZA fixed n)) m x.2.1 x.2.2=R)∧x.2.1.length+x.2.2.length≤L.length) (fun x=>x.2.2.length) (.nil,[],t.tail) (by simp(disch:=first|omega|assumption) only[go_sem]) ⟨K2,upd_same ..,by rw[upd_ne (Ne.symm h84)];exact g41,⟨_,Nat.lt_succ_self _,hR⟩,by have:=K1.here;obtain⟨q,hq,_⟩:=this;rw[← hq];simp⟩ ?_
   rintro⟨o,l,u⟩ H3 J ⟨K3,g8,g4,⟨m,hm,hR3⟩,hlen⟩ hJ
   simp only at K3 g8 g4 hm hR3 hlen
   obtain⟨m,rfl⟩:∃ j,m=j+1:=⟨m-1,by omega⟩
   obtain⟨p3,hp3,hr3⟩:=K3.here
   have hcl:=zcS l
   simp(disch:=first|omega|assumption) only[go_sem]
   refine zc (zi4 hp3 hll (by omega) hr3 [125]) fun v H4 ⟨hv4,hat,haf⟩=>?_
   subst hv4
   cases hj:isP [125] u with
   | true =>
    have ha4:=hat hj
    have K4:=K3.call ha4
    rw[show 16-n-1=16-(n+1) by omega] at K4
    have g84:H4 b8=some (.cells [.int .i64 7,.int .i64 0,.str [],.sl .nil 5 [],.sl o 6 (cMs l)]):=by rw[ha4.other (Ne.symm n8),g8]
    have g44:H4 b4=some (.cells zB):=by rw[ha4.other (Ne.symm n4),g4]
    simp only[zB] at g44
    have e1:R=.ok (l,u.tail):=by rw[← hR3,yK,hj];rfl
    simp(disch:=first|omega|assumption) only[g84,g44,Ne.symm h84,h84,go_sem]
    refine fin _ _ [.agg [.int .i64 7,.int .i64 0,.str [],.sl .nil 5 [],.sl o 6 (cMs l)]] (Val.mk 7 0 [] [] l) u.tail (by simp(disch:=first|omega|assumption) only[ir96,zo,zL,go_sem]) (by rw[hx,e1];rfl) (K4.toKI.box hb4) ?_
    simp[zb,AV.strip,AV.strip1,cV,cVs,cMs,zaz]
   | false =>
    have ha4:=haf hj
    have K4:=K3.call ha4
    obtain⟨p4,hp4,hr4⟩:=K4.here
    have g84:H4 b8=some (.cells [.int .i64 7,.int .i64 0,.str [],.sl .nil 5 [],.sl o 6 (cMs l)]):=by rw[ha4.other (Ne.symm n8),g8]
    have g44:H4 b4=some (.cells zB):=by rw[ha4.other (Ne.symm n4),g4]
    rw[yK,hj] at hR3
    simp only[Al7,if_false] at hR3
    simp(disch:=first|omega|assumption) only[g84,go_sem]
    refine zk (zgd (ih n rfl) hp4 hl hr4) (fun v H5 ⟨x,t5,e5,hv5,ha5⟩=>?_) fun v H5 ⟨n5,e5,hv5⟩=>pan v H5 n5 hv5 (by rw[hx,← hR3,e5];rfl)
    subst hv5
    rw[e5,zJ] at hR3
    have hlt:=(yQ (y8 fixed n)).lt (by decide) _ _ _ e5
    have K5:=K4.call ha5
    have g85:H5 b8=some (.cells [.int .i64 7,.int .i64 0,.str [],.sl .nil 5 [],.sl o 6 (cMs l)]):=by rw[ha5.other (Ne.symm n8),g84]
    have g45:H5 b4=some (.cells zB):=by rw[ha5.other (Ne.symm n4),g44]
    simp(disch:=first|omega|assumption) only[zH,zt,zl,zG,zu,zm,ya,g85,go_sem]
    refine zE (by rw[hcl];exact K5.own) (by simp only[hcl,Al2,Al3];simp only[z1] at hll;omega) (by simp only[hcl,Al2,Al3,maxLen];simp only[z1] at hll;omega) fun o6 H6 hs6=>?_
    have K6:=K5.app (by simpa[hcl] using hs6)
    have g86:=K5.stay hs6 g85
    have g46:=K5.stay hs6 g45
    simp(disch:=first|omega|assumption) only[zH,zt,zl,zG,zu,zm,ya,g86,go_sem]
    refine goJ (hJ (o6,l++[x],t5) _ (by simp only;omega) ⟨by simpa using K6.box hb8H g86,by rw[upd_same];simp[zam,zaO],by rw[upd_ne (Ne.symm h84)];exact g46,⟨m,by simp only;omega,hR3⟩,by simp only[Al5,Al2,Al3];omega⟩) (by simp(disch:=first|omega|assumption) only[go_sem])
  | false =>
   have ha2:=haf hi
   have K2:=K1.call ha2
   have g42:H2 b4=some (.cells zB):=by rw[ha2.other n4s,g41]
   obtain⟨p2,hp2,hr2⟩:=K2.here
   have hi1:¬ (isP [123] t=true):=by rw[hi];decide
   cases hfx:fixed with
   | true =>
    subst hfx
    simp(disch:=first|omega|assumption) only[go_sem]
    exact zk (zdj _ r 2) (fun _ _ h=>h.elim) fun v H3 h=>pan v H3 2 h (by rw[y9,za6.eq_def,if_neg hk2,if_neg hk34,if_neg hk5,if_neg hi0,if_neg hi1];rfl)
   | false =>
    subst hfx
    have hx:ZA false k t=pb (ZY [36] t) fun _ t=>pb (yP t) fun s t=>.ok (.mk 8 0 s [] [],t):=by rw[y9,za6.eq_def,if_neg hk2,if_neg hk34,if_neg hk5,if_neg hi0,if_neg hi1];rfl
    simp(disch:=first|omega|assumption) only[go_sem]
    refine zk (zgs (dp:=16-k) hp2 hll hr2 [36]) (fun v H3 ⟨_,t3,e3,hv3,ha3⟩=>?_) fun v H3 ⟨n,e3,hv3⟩=>pan v H3 n hv3 (by rw[hx,e3];rfl)
    subst hv3
    have K3:=K2.call ha3
    obtain⟨p3,hp3,hr3⟩:=K3.here
    have g43:H3 b4=some (.cells zB):=by rw[ha3.other n4s,g42]
    simp(disch:=first|omega|assumption) only[go_sem]
    refine zk (Y9 (dp:=16-k) hp3 hll hr3) (fun v H4 ⟨s,t4,e4,hv4,ha4⟩=>?_) fun v H4 ⟨n,e4,hv4⟩=>pan v H4 n hv4 (by rw[hx,e3,zJ,e4];rfl)
    subst hv4
    have K4:=K3.call ha4
    have g44:H4 b4=some (.cells zB):=by rw[ha4.other n4s,g43]
    simp only[zB] at g44
    simp(disch:=first|omega|assumption) only[g44,go_sem]
    exact fin _ _ [.agg [.int .i64 8,.int .i64 0,.str s,.sl .nil 5 [],.sl .nil 6 []]] (.mk 8 0 s [] []) t4 (by simp(disch:=first|omega|assumption) only[ir96,zo,zL,go_sem]) (by rw[hx,e3,zJ,e4];rfl) (K4.box hb4) rfl
theorem zfl (fixed:Bool):∀ k,k≤16→zlJ fixed k
 | 0,h=>zl9 fixed 0 h fun n e=>by cases e
 | k+1,h=>zl9 fixed (k+1) h fun n e=>by cases e;exact zfl fixed k (by omega)
theorem zd8 {p t L:TS} (h:p++t=L):t.length≤L.length:=by rw[← h];simp
theorem zeN (l:List DirD):cDs l=l.map cD:=rfl
theorem zkU {fixed:Bool} {k:Nat} (hk:k≤16) {H:za} {r:Nat} {L p t:TS} (hs:p++t=L) (hl:wT L≤z1) (hr:H r=some (prc L p (16-k))) :
  zf Tryz.prog 300 [.ptr r 0,.bool fixed] H (RpE H r L (16-k) (Y2 fixed k t) (fun l=>.sl .no 6 (cMs l))):=by
 refine Zy (zf.goO (R:=fun v H'=>zdR H r L (16-k) (Y2 fixed k t) (fun l=>.sl .no 6 (cMs l)) v.strip H') (RP:=fun v H'=>zej (Y2 fixed k t) v H') ir300 ck300 (Al4 _) fun KP Q hQ hP=>?_)
 have hll:L.length≤z1:=Nat.le_trans (ZH L) hl
 have hll2:=hll
 simp only[z1] at hll2
 have pan:∀(v:AV) (H1:za) (n:Int),v=Za n→(Y2 fixed k t)=.error n→KP v H1:=fun v H1 n h1 h2=>hP v H1 H1 (Low.refl _) ⟨n,h2,h1⟩
 have fin:=KI.done hQ
 have K0:=KI.start hs hr
 have hv:=zfl fixed k hk
 simp(disch:=first|omega|assumption) only[ir300,go_sem]
 refine zc (zah (dp:=16-k) hs hll hr [40]) fun v H1 ⟨hv1,ha1⟩=>?_
 subst hv1
 cases hi:isP [40] t with
 | false =>
  rw[YP,hi] at ha1
  simp(disch:=first|omega|assumption) only[go_sem]
  exact fin _ _ [.sl .nil 6 []] [] t (by simp(disch:=first|omega|assumption) only[ir300,zo,zL,go_sem]) (by unfold Y2;rw[hi];rfl) (K0.call (by simpa using ha1)) (by simp[zb,AV.strip,AV.strip1,cMs])
 | true =>
  rw[YP,hi,if_pos rfl] at ha1
  have K1:=K0.call ha1
  obtain⟨p1,hp1,hr1⟩:=K1.here
  have hx:Y2 fixed k t=pb (yW (ZA fixed k) t.tail) fun x t=>yK [41] (yW (ZA fixed k)) (t.length+1) [x] t:=by
   unfold Y2;rw[hi]
   rfl
  simp(disch:=first|omega|assumption) only[go_sem]
  refine zk (zgd hv hp1 hl hr1) (fun v H2 ⟨x1,t2,e2,hv2,ha2⟩=>?_) fun v H2 ⟨n,e2,hv2⟩=>pan v H2 n hv2 (by rw[hx,e2];rfl)
  subst hv2
  have K2:=K1.call ha2
  have hlt1:=(yQ (y8 fixed k)).lt (by decide) _ _ _ e2
  have hsl:=zd8 hp1
  rw[e2,zJ] at hx
  obtain⟨R,hR⟩:∃ R,yK [41] (yW (ZA fixed k)) (t2.length+1) [x1] t2=R:=⟨_,rfl⟩
  rw[hR] at hx
  simp(disch:=first|omega|assumption) only[zH,zt,zl,zG,zu,zm,ya,go_sem]
  refine zI (fun x:Own×List Mem×TS=>[(5,.sl x.1 6 (cMs x.2.1))]) (fun x H'=>KO H r L x.2.2 (16-k) H' x.1 x.2.1.length 6∧(∃ m,x.2.2.length<m∧yK [41] (yW (ZA fixed k)) m x.2.1 x.2.2=R)∧x.2.1.length+x.2.2.length≤L.length) (fun x=>x.2.2.length) (.full,[x1],t2) (by simp(disch:=first|omega|assumption) only[zH,zt,zl,zG,zu,zm,ya,cMs,zaO,go_sem]) ⟨⟨K2,yq.full _ _ _,nofun⟩,⟨_,Nat.lt_succ_self _,hR⟩,by simp only[List.length_singleton];omega⟩ ?_
  rintro⟨o,l,u⟩ H3 J ⟨K3,⟨m,hm,hR3⟩,hlen⟩ hJ
  simp only at K3 hm hR3 hlen
  obtain⟨m,rfl⟩:∃ j,m=j+1:=⟨m-1,by omega⟩
  obtain⟨p3,hp3,hr3⟩:=K3.here
  have hcl:=zcS l
  simp(disch:=first|omega|assumption) only[go_sem]
  refine zc (zah (dp:=16-k) hp3 hll hr3 [41]) fun v H4 ⟨hv4,ha4⟩=>?_
  subst hv4
  cases hj:isP [41] u with
  | true =>
   rw[YP,hj,if_pos rfl] at ha4
   have e1:R=.ok (l,u.tail):=by rw[← hR3,yK,hj];rfl
   simp(disch:=first|omega|assumption) only[go_sem]
   refine fin _ _ [.sl o 6 (cMs l)] l u.tail (by simp(disch:=first|omega|assumption) only[ir300,zo,zL,go_sem]) (by rw[hx,e1]) (K3.toKI.call ha4) ?_
   simp[zb,AV.strip,AV.strip1,zaz]
  | false =>
   rw[YP,hj] at ha4
   have K4:=K3.call (by simpa using ha4)
   obtain⟨p4,hp4,hr4⟩:=K4.here
   rw[yK,hj] at hR3
   simp only[Al7,if_false] at hR3
   simp(disch:=first|omega|assumption) only[go_sem]
   refine zk (zgd hv hp4 hl hr4) (fun v H5 ⟨x,t5,e5,hv5,ha5⟩=>?_) fun v H5 ⟨n5,e5,hv5⟩=>pan v H5 n5 hv5 (by rw[hx,← hR3,e5];rfl)
   subst hv5
   rw[e5,zJ] at hR3
   have hlt:=(yQ (y8 fixed k)).lt (by decide) _ _ _ e5
   have K5:=K4.call ha5
   simp(disch:=first|omega|assumption) only[zH,zt,zl,zG,zu,zm,ya,go_sem]
   refine zE (by rw[hcl];exact K5.own) (by simp only[hcl,Al2,Al3];omega) (by simp only[hcl,Al2,Al3,maxLen];omega) fun o6 H6 hs6=>?_
   have K6:=K5.app (by simpa[hcl] using hs6)
   simp(disch:=first|omega|assumption) only[zH,zt,zl,zG,zu,zm,ya,go_sem]
   refine goJ (hJ (o6,l++[x],t5) _ (by simp only;omega) ⟨by simpa using K6,⟨m,by simp only;omega,hR3⟩,by simp only[Al5,Al2,Al3];omega⟩) (by simp(disch:=first|omega|assumption) only[zam,List.map_append,List.map_cons,List.map_nil,zaO,go_sem])
theorem zba {fixed:Bool} {k:Nat} (hk:k≤16) {H:za} {r:Nat} {L p t:TS} (hs:p++t=L) (hl:wT L≤z1) (hr:H r=some (prc L p (16-k))) :
  zf Tryz.prog 250 [.ptr r 0,.bool fixed] H (RpE H r L (16-k) (Ya fixed k t) (fun l=>.sl .no 2 (cDs l))):=by
 refine Zy (zf.goO (R:=fun v H'=>zdR H r L (16-k) (Ya fixed k t) (fun l=>.sl .no 2 (cDs l)) v.strip H') (RP:=fun v H'=>zej (Ya fixed k t) v H') ir250 ck250 (Al4 _) fun KP Q hQ hP=>?_)
 have hll:L.length≤z1:=Nat.le_trans (ZH L) hl
 have hll2:=hll
 simp only[z1] at hll2
 have pan:∀(v:AV) (H1:za) (n:Int),v=Za n→(Ya fixed k t)=.error n→KP v H1:=fun v H1 n h1 h2=>hP v H1 H1 (Low.refl _) ⟨n,h2,h1⟩
 have fin:=KI.done hQ
 have K0:=KI.start hs hr
 obtain⟨R,hR⟩:∃ R,zaf [64] (zf7 fixed k) (t.length+1) [] t=R:=⟨_,rfl⟩
 have hx:Ya fixed k t=R:=hR
 have hsl:=zd8 hs
 simp(disch:=first|omega|assumption) only[ir250,go_sem]
 refine zI (fun x:Own×List DirD×TS=>[(5,.sl x.1 2 (cDs x.2.1))]) (fun x H'=>KO H r L x.2.2 (16-k) H' x.1 x.2.1.length 2∧(∃ m,x.2.2.length<m∧zaf [64] (zf7 fixed k) m x.2.1 x.2.2=R)∧x.2.1.length+x.2.2.length≤L.length) (fun x=>x.2.2.length) (.nil,[],t) (by simp(disch:=first|omega|assumption) only[zeN,List.map_nil,go_sem]) ⟨⟨K0,rfl,nofun⟩,⟨_,Nat.lt_succ_self _,hR⟩,by simp only[Al3];omega⟩ ?_
 rintro⟨o,l,u⟩ H3 J ⟨K3,⟨m,hm,hR3⟩,hlen⟩ hJ
 simp only at K3 hm hR3 hlen
 obtain⟨m,rfl⟩:∃ j,m=j+1:=⟨m-1,by omega⟩
 obtain⟨p3,hp3,hr3⟩:=K3.here
 have hcl:=zfT l
 simp(disch:=first|omega|assumption) only[go_sem]
 refine zc (zah (dp:=16-k) hp3 hll hr3 [64]) fun v H4 ⟨hv4,ha4⟩=>?_
 subst hv4
 cases hj:isP [64] u with
 | false =>
  rw[YP,hj] at ha4
  have e1:R=.ok (l,u):=by rw[← hR3,zaf,hj];rfl
  simp(disch:=first|omega|assumption) only[go_sem]
  refine fin _ _ [.sl o 2 (cDs l)] l u (by simp(disch:=first|omega|assumption) only[ir250,zo,zL,go_sem]) (by rw[hx,e1]) (K3.toKI.call (by simpa using ha4)) ?_
  simp[zb,AV.strip,AV.strip1,zeN,zjE]
 | true =>
  rw[YP,hj,if_pos rfl] at ha4
  have hlt0:=ziM hj
  have K4:=K3.call ha4
  obtain⟨p4,hp4,hr4⟩:=K4.here
  rw[zaf,hj,if_pos rfl] at hR3
  simp(disch:=first|omega|assumption) only[go_sem]
  refine zk (Y9 (dp:=16-k) hp4 hll hr4) (fun v H5 ⟨nm,t5,e5,hv5,ha5⟩=>?_) fun v H5 ⟨n5,e5,hv5⟩=>pan v H5 n5 hv5 (by rw[hx,← hR3,zf7,e5];rfl)
  subst hv5
  have K5:=K4.call ha5
  obtain⟨p5,hp5,hr5⟩:=K5.here
  simp(disch:=first|omega|assumption) only[go_sem]
  refine zk (zkU hk hp5 hl hr5) (fun v H6 ⟨a,t6,e6,hv6,ha6⟩=>?_) fun v H6 ⟨n6,e6,hv6⟩=>pan v H6 n6 hv6 (by rw[hx,← hR3,zf7,e5,zJ,e6];rfl)
  subst hv6
  have K6:=K5.call ha6
  have e7:zf7 fixed k u.tail=.ok (⟨nm,a⟩,t6):=by rw[zf7,e5,zJ,e6];rfl
  rw[e7,zJ] at hR3
  have hlt:=(zcc fixed k).lt (by decide) _ _ _ e7
  simp(disch:=first|omega|assumption) only[zH,zt,zl,zG,zu,zm,ya,go_sem]
  refine zE (by rw[hcl];exact K6.own) (by simp only[hcl,Al2,Al3];omega) (by simp only[hcl,Al2,Al3,maxLen];omega) fun o7 H7 hs7=>?_
  have K7:=K6.app (by simpa[hcl] using hs7)
  simp(disch:=first|omega|assumption) only[zH,zt,zl,zG,zu,zm,ya,go_sem]
  refine goJ (hJ (o7,l++[⟨nm,a⟩],t6) _ (by simp only;omega) ⟨by simpa using K7,⟨m,by simp only;omega,hR3⟩,by simp only[Al5,Al2,Al3];omega⟩) (by simp(disch:=first|omega|assumption) only[zeN,cD,List.map_append,List.map_cons,List.map_nil,go_sem])
def zeK (k:Nat):Prop:=∀(H:za) (r:Nat) (L p t:TS),p++t=L→wT L≤z1→H r=some (prc L p (16-k)) →
 zf Tryz.prog 162 [.ptr r 0] H (RpE H r L (16-k) (yo k t) fun l=>.sl .no 7 (cSs l))
abbrev zS:List AV:=[.int .i64 0,.str [],.str [],.sl .nil 6 [],.sl .nil 2 [],.str [],.sl .nil 7 []]
theorem ztX {m:List UInt8} {t:TS} (h:isW m t=true):(hdT t).k=2:=by
 simp only[isW,Al0,z7] at h;exact h.1
theorem znn {k:Nat} (hk:k≤16) (hv:zeK k) {H:za} {r:Nat} {L p t:TS} (hs:p++t=L) (hl:wT L≤z1) (hr:H r=some (prc L p (16-k))) :
  zf Tryz.prog 299 [.ptr r 0] H (RpE H r L (16-k) (ZG (yo k) k t) (fun x=>.agg (cS x))):=by
 refine Zy (zf.goO (R:=fun v H'=>zdR H r L (16-k) (ZG (yo k) k t) (fun x=>.agg (cS x)) v.strip H') (RP:=fun v H'=>zej (ZG (yo k) k t) v H') ir299 ck299 (Al4 _) fun KP Q hQ hP=>?_)
 have hll:L.length≤z1:=Nat.le_trans (ZH L) hl
 have hll2:=hll
 simp only[z1] at hll2
 have pan:∀(v:AV) (H1:za) (n:Int),v=Za n→(ZG (yo k) k t)=.error n→KP v H1:=fun v H1 n h1 h2=>hP v H1 H1 (Low.refl _) ⟨n,h2,h1⟩
 have fin:=KI.done hQ
 have K0:=KI.start hs hr
 simp(disch:=first|omega|assumption) only[ir299,go_sem]
 refine zh fun b2 hb2=>?_
 have n2:=K0.ne hb2
 have n2s:=Ne.symm n2
 have K1:=K0.box (x:=.cells zS) hb2
 simp(disch:=first|omega|assumption) only[go_sem]
 refine zc (zia (dp:=16-k) hs (by rw[upd_ne n2];exact hr)) fun v H1 ⟨hv1,hH⟩=>?_
 subst hv1;subst hH
 obtain⟨p1,hp1,hr1⟩:=K1.here
 simp only[zS] at K1 hr1
 by_cases hsp:(hdT t).k=2∧isW [111,110] t=false
 ·obtain⟨hk2,hw⟩:=hsp
  have hk2':((hdT t).k=2)=True:=eq_true hk2
  have hx:ZG (yo k) k t=pb (yP t) fun s t=>pb (Ya false k t) fun d t=>.ok (.mk 1 [] s [] d [] [],t):=by
   unfold ZG;rw[if_pos ⟨hk2,hw⟩]
  simp(disch:=first|omega|assumption) only[yl,hk2',go_sem]
  refine zc (zqm (dp:=16-k) hp1 hr1 [111,110]) fun v H2 ⟨hv2,hH⟩=>?_
  subst hv2;subst hH
  rw[hw]
  simp(disch:=first|omega|assumption) only[go_sem]
  refine zk (Y9 (dp:=16-k) hp1 hll hr1) (fun v H3 ⟨s,t3,e3,hv3,ha3⟩=>?_) fun v H3 ⟨n,e3,hv3⟩=>pan v H3 n hv3 (by rw[hx,e3];rfl)
  subst hv3
  rw[e3,zJ] at hx
  have K3:=K1.call ha3
  obtain⟨p3,hp3,hr3⟩:=K3.here
  have g3:H3 b2=some (.cells zS):=by rw[ha3.other n2s,upd_same]
  simp(disch:=first|omega|assumption) only[go_sem]
  refine zk (zba hk hp3 hl hr3) (fun v H4 ⟨d,t4,e4,hv4,ha4⟩=>?_) fun v H4 ⟨n,e4,hv4⟩=>pan v H4 n hv4 (by rw[hx,e4];rfl)
  subst hv4
  rw[e4,zJ] at hx
  have K4:=K3.call ha4
  have g4:H4 b2=some (.cells zS):=by rw[ha4.other n2s,g3]
  simp only[zS] at g4
  simp(disch:=first|omega|assumption) only[g4,go_sem]
  exact fin _ _ [.agg [.int .i64 1,.str [],.str s,.sl .nil 6 [],.sl .no 2 (cDs d),.str [],.sl .nil 7 []]] _ _ (by simp(disch:=first|omega|assumption) only[ir299,zo,zL,go_sem]) hx (K4.box hb2) (by simp[zb,AV.strip,AV.strip1,cS,cMs,cSs])
 have hx:ZG (yo k) k t=pb (if isW [111,110] t then yP t.tail else .ok ([],t)) fun o t=>pb (Ya false k t) fun d t=>pb (yo k t) fun l t=>.ok (.mk 2 [] [] [] d o l,t):=by
  unfold ZG;rw[if_neg hsp]
 cases hw:isW [111,110] t with
 | true =>
  have hk2:=ztX hw
  have hk2':((hdT t).k=2)=True:=eq_true hk2
  rw[hw,if_pos rfl] at hx
  simp(disch:=first|omega|assumption) only[yl,hk2',go_sem]
  refine zc (zqm (dp:=16-k) hp1 hr1 [111,110]) fun v H2 ⟨hv2,hH⟩=>?_
  subst hv2;subst hH
  rw[hw]
  simp(disch:=first|omega|assumption) only[go_sem]
  refine zh fun b3 hb3=>?_
  have h32:b3≠b2:=fun e=>by subst e;rw[upd_same] at hb3;cases hb3
  have hb3H:H b3=none:=by rw[upd_ne h32] at hb3;exact hb3
  have n3:=K0.ne hb3H
  have n3s:=Ne.symm n3
  have K2:=K1.box (x:=.cells [.int .i64 2,.str [],.str [],.sl .nil 6 [],.sl .nil 2 [],.str [],.sl .nil 7 []]) hb3H
  obtain⟨p2,hp2,hr2⟩:=K2.here
  simp(disch:=first|omega|assumption) only[go_sem]
  refine zc (zhK (dp:=16-k) hp2 hll hr2 [111,110]) fun v H5 ⟨hv5,ha5⟩=>?_
  subst hv5
  have g53:H5 b3=some (.cells [.int .i64 2,.str [],.str [],.sl .nil 6 [],.sl .nil 2 [],.str [],.sl .nil 7 []]):=by rw[ha5.other n3s,upd_same]
  have g52:H5 b2=some (.cells zS):=by rw[ha5.other n2s,upd_ne (Ne.symm h32),upd_same]
  unfold Yz at ha5
  rw[hw] at ha5
  simp only[if_true,Al7,if_false] at ha5
  rw[hw]
  have K5:=K2.call ha5
  obtain⟨p5,hp5,hr5⟩:=K5.here
  simp(disch:=first|omega|assumption) only[go_sem]
  refine zk (Y9 (dp:=16-k) hp5 hll hr5) (fun v H3 ⟨o,t3,e3,hv3,ha3⟩=>?_) fun v H3 ⟨n,e3,hv3⟩=>pan v H3 n hv3 (by rw[hx,e3];rfl)
  subst hv3
  rw[e3,zJ] at hx
  have K6:=K5.call ha3
  have g33:H3 b3=some (.cells [.int .i64 2,.str [],.str [],.sl .nil 6 [],.sl .nil 2 [],.str [],.sl .nil 7 []]):=by rw[ha3.other n3s,g53]
  have g32:H3 b2=some (.cells zS):=by rw[ha3.other n2s,g52]
  simp(disch:=first|omega|assumption) only[g33,go_sem]
  have K7:=K6.box (x:=.cells [.int .i64 2,.str [],.str [],.sl .nil 6 [],.sl .nil 2 [],.str o,.sl .nil 7 []]) hb3H
  have hHe:H3.upd b3 (.cells [.int .i64 2,.str [],.str [],.sl .nil 6 [],.sl .nil 2 [],.str o,.sl .nil 7 []])=H3.upd b3 (.cells [.int .i64 2,.str [],.str [],.sl .nil 6 [],.sl .nil 2 [],.str o,.sl .nil 7 []]):=rfl
  obtain⟨p7,hp7,hr7⟩:=K7.here
  refine zk (zba hk hp7 hl hr7) (fun v H8 ⟨d,t8,e8,hv8,ha8⟩=>?_) fun v H8 ⟨n,e8,hv8⟩=>pan v H8 n hv8 (by rw[hx,e8];rfl)
  subst hv8
  rw[e8,zJ] at hx
  have K8:=K7.call ha8
  have g83:H8 b3=some (.cells [.int .i64 2,.str [],.str [],.sl .nil 6 [],.sl .nil 2 [],.str o,.sl .nil 7 []]):=by rw[ha8.other n3s];(exact upd_same ..)
  have g82:H8 b2=some (.cells zS):=by rw[ha8.other n2s];(rw[upd_ne (Ne.symm h32)];exact g32)
  simp(disch:=first|omega|assumption) only[g83,go_sem]
  have K9:=K8.box (x:=.cells [.int .i64 2,.str [],.str [],.sl .nil 6 [],.sl .no 2 (cDs d),.str o,.sl .nil 7 []]) hb3H
  obtain⟨p9,hp9,hr9⟩:=K9.here
  refine zk (hv _ r L p9 t8 hp9 hl hr9) (fun v H9 ⟨l,t9,e9,hv9,ha9⟩=>?_) fun v H9 ⟨n,e9,hv9⟩=>pan v H9 n hv9 (by rw[hx,e9];rfl)
  subst hv9
  rw[e9,zJ] at hx
  have KA:=K9.call ha9
  have g93:H9 b3=some (.cells [.int .i64 2,.str [],.str [],.sl .nil 6 [],.sl .no 2 (cDs d),.str o,.sl .nil 7 []]):=by rw[ha9.other n3s,upd_same]
  have g92:H9 b2=some (.cells zS):=by rw[ha9.other n2s,upd_ne (Ne.symm h32),g82]
  simp only[zS] at g92
  simp(disch:=first|omega|assumption) only[g93,g92,h32,Ne.symm h32,go_sem]
  exact fin _ _ [.agg [.int .i64 2,.str [],.str [],.sl .nil 6 [],.sl .no 2 (cDs d),.str o,.sl .no 7 (cSs l)]] _ _ (by simp(disch:=first|omega|assumption) only[ir299,zo,zL,go_sem]) hx ((KA.box hb3H).box hb2) (by simp[zb,AV.strip,AV.strip1,cS,cMs,cSs])
 | false =>
  have hk2:¬ ((hdT t).k=2):=fun h=>hsp ⟨h,hw⟩
  rw[hw] at hx
  simp only[Al7,if_false,zJ] at hx
  simp(disch:=first|omega|assumption) only[yl,hk2,go_sem]
  refine zh fun b3 hb3=>?_
  have h32:b3≠b2:=fun e=>by subst e;rw[upd_same] at hb3;cases hb3
  have hb3H:H b3=none:=by rw[upd_ne h32] at hb3;exact hb3
  have n3:=K0.ne hb3H
  have n3s:=Ne.symm n3
  have K2:=K1.box (x:=.cells [.int .i64 2,.str [],.str [],.sl .nil 6 [],.sl .nil 2 [],.str [],.sl .nil 7 []]) hb3H
  obtain⟨p2,hp2,hr2⟩:=K2.here
  simp(disch:=first|omega|assumption) only[go_sem]
  refine zc (zhK (dp:=16-k) hp2 hll hr2 [111,110]) fun v H5 ⟨hv5,ha5⟩=>?_
  subst hv5
  have g53:H5 b3=some (.cells [.int .i64 2,.str [],.str [],.sl .nil 6 [],.sl .nil 2 [],.str [],.sl .nil 7 []]):=by rw[ha5.other n3s,upd_same]
  have g52:H5 b2=some (.cells zS):=by rw[ha5.other n2s,upd_ne (Ne.symm h32),upd_same]
  unfold Yz at ha5
  rw[hw] at ha5
  simp only[if_true,Al7,if_false] at ha5
  rw[hw]
  have K5:=K2.call ha5
  obtain⟨p5,hp5,hr5⟩:=K5.here
  simp(disch:=first|omega|assumption) only[go_sem]
  have K7:=K5.box (x:=.cells [.int .i64 2,.str [],.str [],.sl .nil 6 [],.sl .nil 2 [],.str [],.sl .nil 7 []]) hb3H
  have hHe:H5.upd b3 (.cells [.int .i64 2,.str [],.str [],.sl .nil 6 [],.sl .nil 2 [],.str [],.sl .nil 7 []])=H5.upd b3 (.cells [.int .i64 2,.str [],.str [],.sl .nil 6 [],.sl .nil 2 [],.str [],.sl .nil 7 []]):=rfl
  obtain⟨p7,hp7,hr7⟩:=K5.here
  refine zk (zba hk hp7 hl hr7) (fun v H8 ⟨d,t8,e8,hv8,ha8⟩=>?_) fun v H8 ⟨n,e8,hv8⟩=>pan v H8 n hv8 (by rw[hx,e8];rfl)
  subst hv8
  rw[e8,zJ] at hx
  have K8:=K5.call ha8
  have g83:H8 b3=some (.cells [.int .i64 2,.str [],.str [],.sl .nil 6 [],.sl .nil 2 [],.str [],.sl .nil 7 []]):=by rw[ha8.other n3s];(exact g53)
  have g82:H8 b2=some (.cells zS):=by rw[ha8.other n2s];(exact g52)
  simp(disch:=first|omega|assumption) only[g83,go_sem]
  have K9:=K8.box (x:=.cells [.int .i64 2,.str [],.str [],.sl .nil 6 [],.sl .no 2 (cDs d),.str [],.sl .nil 7 []]) hb3H
  obtain⟨p9,hp9,hr9⟩:=K9.here
  refine zk (hv _ r L p9 t8 hp9 hl hr9) (fun v H9 ⟨l,t9,e9,hv9,ha9⟩=>?_) fun v H9 ⟨n,e9,hv9⟩=>pan v H9 n hv9 (by rw[hx,e9];rfl)
  subst hv9
  rw[e9,zJ] at hx
  have KA:=K9.call ha9
  have g93:H9 b3=some (.cells [.int .i64 2,.str [],.str [],.sl .nil 6 [],.sl .no 2 (cDs d),.str [],.sl .nil 7 []]):=by rw[ha9.other n3s,upd_same]
  have g92:H9 b2=some (.cells zS):=by rw[ha9.other n2s,upd_ne (Ne.symm h32),g82]
  simp only[zS] at g92
  simp(disch:=first|omega|assumption) only[g93,g92,h32,Ne.symm h32,go_sem]
  exact fin _ _ [.agg [.int .i64 2,.str [],.str [],.sl .nil 6 [],.sl .no 2 (cDs d),.str [],.sl .no 7 (cSs l)]] _ _ (by simp(disch:=first|omega|assumption) only[ir299,zo,zL,go_sem]) hx ((KA.box hb3H).box hb2) (by simp[zb,AV.strip,AV.strip1,cS,cMs,cSs])
theorem zrh {k:Nat} (hk:k≤16) (hv:zeK k) {H:za} {r:Nat} {L p t:TS} (hs:p++t=L) (hl:wT L≤z1) (hr:H r=some (prc L p (16-k))) :
  zf Tryz.prog 247 [.ptr r 0] H (RpE H r L (16-k) (zaQ (yo k) k t) (fun x=>.agg (cS x))):=by
 refine Zy (zf.goO (R:=fun v H'=>zdR H r L (16-k) (zaQ (yo k) k t) (fun x=>.agg (cS x)) v.strip H') (RP:=fun v H'=>zej (zaQ (yo k) k t) v H') ir247 ck247 (Al4 _) fun KP Q hQ hP=>?_)
 have hll:L.length≤z1:=Nat.le_trans (ZH L) hl
 have hll2:=hll
 simp only[z1] at hll2
 have pan:∀(v:AV) (H1:za) (n:Int),v=Za n→(zaQ (yo k) k t)=.error n→KP v H1:=fun v H1 n h1 h2=>hP v H1 H1 (Low.refl _) ⟨n,h2,h1⟩
 have fin:=KI.done hQ
 have K0:=KI.start hs hr
 simp(disch:=first|omega|assumption) only[ir247,go_sem]
 refine zh fun b2 hb2=>?_
 have n2:=K0.ne hb2
 have n2s:=Ne.symm n2
 have K1:=K0.box (x:=.cells zS) hb2
 obtain⟨p1,hp1,hr1⟩:=K1.here
 simp only[zS] at K1 hr1
 simp(disch:=first|omega|assumption) only[go_sem]
 refine zc (zah (dp:=16-k) hp1 hll hr1 [46,46,46]) fun v H2 ⟨hv2,ha2⟩=>?_
 subst hv2
 have g22:H2 b2=some (.cells zS):=by rw[ha2.other n2s,upd_same]
 have K2:=K1.call ha2
 unfold YP at K2
 obtain⟨p2,hp2,hr2⟩:=K2.here
 cases hi:isP [46,46,46] t with
 | true =>
  rw[hi] at K2 hp2
  simp only[if_true] at K2 hp2
  have hx:zaQ (yo k) k t=ZG (yo k) k t.tail:=by unfold zaQ;rw[hi];rfl
  simp(disch:=first|omega|assumption) only[go_sem]
  refine zk (znn hk hv hp2 hl hr2) (fun v H3 ⟨x,t3,e3,hv3,ha3⟩=>?_) fun v H3 ⟨n,e3,hv3⟩=>pan v H3 n hv3 (by rw[hx,e3])
  subst hv3
  have K3:=K2.call ha3
  have g3:H3 b2=some (.cells zS):=by rw[ha3.other n2s,g22]
  simp only[zS] at g3
  simp(disch:=first|omega|assumption) only[g3,zbD,zal,ZV,go_sem]
  exact fin _ _ [.agg (cS x)] _ _ (by simp(disch:=first|omega|assumption) only[ir247,zo,zL,zbD,zal,ZV,go_sem]) (by rw[hx,e3]) (K3.box hb2) (by simp[zb,AV.strip,Y6])
 | false =>
  rw[hi] at K2 hp2
  simp only[Al7,if_false] at K2 hp2
  have hx:zaQ (yo k) k t=pb (yP t) fun s t=>pb (if isP [58] t then pb (yP t.tail) fun s2 t=>.ok ((s,s2),t) else .ok (([],s),t)) fun an t =>
   pb (Y2 false k t) fun a t=>pb (Ya false k t) fun d t=>pb (if isP [123] t then yo k t else .ok ([],t)) fun l t=>.ok (.mk 0 an.1 an.2 a d [] l,t):=by unfold zaQ;rw[hi];rfl
  simp(disch:=first|omega|assumption) only[go_sem]
  refine zk (Y9 (dp:=16-k) hp2 hll hr2) (fun v H3 ⟨s,t3,e3,hv3,ha3⟩=>?_) fun v H3 ⟨n,e3,hv3⟩=>pan v H3 n hv3 (by rw[hx,e3];rfl)
  subst hv3
  rw[e3,zJ] at hx
  have K3:=K2.call ha3
  have g32:H3 b2=some (.cells zS):=by rw[ha3.other n2s,g22]
  simp(disch:=first|omega|assumption) only[go_sem]
  refine zh fun b3 hb3=>?_
  have h32:b3≠b2:=fun e=>by subst e;rw[g32] at hb3;cases hb3
  have hb3H:H b3=none:=K3.none hb3
  have n3:=K0.ne hb3H
  have n3s:=Ne.symm n3
  have K4:=K3.box (x:=.cells [.int .i64 0,.str [],.str s,.sl .nil 6 [],.sl .nil 2 [],.str [],.sl .nil 7 []]) hb3H
  obtain⟨p4,hp4,hr4⟩:=K4.here
  simp(disch:=first|omega|assumption) only[go_sem]
  refine zc (zah (dp:=16-k) hp4 hll hr4 [58]) fun v H5 ⟨hv5,ha5⟩=>?_
  subst hv5
  have g53:H5 b3=some (.cells [.int .i64 0,.str [],.str s,.sl .nil 6 [],.sl .nil 2 [],.str [],.sl .nil 7 []]):=by rw[ha5.other n3s,upd_same]
  have g52:H5 b2=some (.cells zS):=by rw[ha5.other n2s,upd_ne (Ne.symm h32),g32]
  have K5:=K4.call ha5
  unfold YP at K5
  obtain⟨p5,hp5,hr5⟩:=K5.here
  cases hc:isP [58] t3 with
  | true =>
   rw[hc] at hx K5 hp5
   simp only[if_true] at hx K5 hp5
   simp(disch:=first|omega|assumption) only[g53,go_sem]
   refine zk (Y9 (dp:=16-k) hp5 hll hr5) (fun v H6 ⟨s2,t6,e6,hv6,ha6⟩=>?_) fun v H6 ⟨n,e6,hv6⟩=>pan v H6 n hv6 (by rw[hx,e6];rfl)
   subst hv6
   rw[e6,zJ,zJ] at hx
   have K6:=K5.call ha6
   have g63:H6 b3=some (.cells [.int .i64 0,.str [],.str s,.sl .nil 6 [],.sl .nil 2 [],.str [],.sl .nil 7 []]):=by rw[ha6.other n3s,g53]
   have g62:H6 b2=some (.cells zS):=by rw[ha6.other n2s,g52]
   simp(disch:=first|omega|assumption) only[g63,go_sem]
   have K7:=K6.box (x:=.cells [.int .i64 0,.str s,.str s2,.sl .nil 6 [],.sl .nil 2 [],.str [],.sl .nil 7 []]) hb3H
   obtain⟨p7,hp7,hr7⟩:=K7.here
   refine zk (zkU hk hp7 hl hr7) (fun v H8 ⟨a,t8,e8,hv8,ha8⟩=>?_) fun v H8 ⟨n,e8,hv8⟩=>pan v H8 n hv8 (by rw[hx,e8];rfl)
   subst hv8
   rw[e8,zJ] at hx
   have K8:=K7.call ha8
   have g83:H8 b3=some (.cells [.int .i64 0,.str s,.str s2,.sl .nil 6 [],.sl .nil 2 [],.str [],.sl .nil 7 []]):=by rw[ha8.other n3s];(exact upd_same ..)
   have g82:H8 b2=some (.cells zS):=by rw[ha8.other n2s];(rw[upd_ne (Ne.symm h32)];exact g62)
   simp(disch:=first|omega|assumption) only[g83,go_sem]
   have K9:=K8.box (x:=.cells [.int .i64 0,.str s,.str s2,.sl .no 6 (cMs a),.sl .nil 2 [],.str [],.sl .nil 7 []]) hb3H
   obtain⟨p9,hp9,hr9⟩:=K9.here
   refine zk (zba hk hp9 hl hr9) (fun v HA ⟨d,tA,eA,hvA,haA⟩=>?_) fun v HA ⟨n,eA,hvA⟩=>pan v HA n hvA (by rw[hx,eA];rfl)
   subst hvA
   rw[eA,zJ] at hx
   have KA:=K9.call haA
   have gA3:HA b3=some (.cells [.int .i64 0,.str s,.str s2,.sl .no 6 (cMs a),.sl .nil 2 [],.str [],.sl .nil 7 []]):=by rw[haA.other n3s,upd_same]
   have gA2:HA b2=some (.cells zS):=by rw[haA.other n2s,upd_ne (Ne.symm h32),g82]
   simp(disch:=first|omega|assumption) only[gA3,go_sem]
   have KB:=KA.box (x:=.cells [.int .i64 0,.str s,.str s2,.sl .no 6 (cMs a),.sl .no 2 (cDs d),.str [],.sl .nil 7 []]) hb3H
   obtain⟨pB,hpB,hrB⟩:=KB.here
   refine zc (zna (dp:=16-k) hpB hrB [123]) fun v HC ⟨hvC,hHC⟩=>?_
   subst hvC;subst hHC
   have gC2:(HA.upd b3 (.cells [.int .i64 0,.str s,.str s2,.sl .no 6 (cMs a),.sl .no 2 (cDs d),.str [],.sl .nil 7 []])) b2=some (.cells zS):=by rw[upd_ne (Ne.symm h32),gA2]
   cases hb:isP [123] tA with
   | true =>
    rw[hb] at hx
    simp only[if_true] at hx
    simp(disch:=first|omega|assumption) only[go_sem]
    refine zk (hv _ r L pB tA hpB hl hrB) (fun v HD ⟨l,tD,eD,hvD,haD⟩=>?_) fun v HD ⟨n,eD,hvD⟩=>pan v HD n hvD (by rw[hx,eD];rfl)
    subst hvD
    rw[eD,zJ] at hx
    have KD:=KB.call haD
    have gD3:HD b3=some (.cells [.int .i64 0,.str s,.str s2,.sl .no 6 (cMs a),.sl .no 2 (cDs d),.str [],.sl .nil 7 []]):=by rw[haD.other n3s,upd_same]
    have gD2:HD b2=some (.cells zS):=by rw[haD.other n2s,gC2]
    simp only[zS] at gD2
    simp(disch:=first|omega|assumption) only[gD3,gD2,h32,Ne.symm h32,go_sem]
    exact fin _ _ [.agg [.int .i64 0,.str s,.str s2,.sl .no 6 (cMs a),.sl .no 2 (cDs d),.str [],.sl .no 7 (cSs l)]] _ _ (by simp(disch:=first|omega|assumption) only[ir247,zo,zL,go_sem]) hx ((KD.box hb3H).box hb2) (by simp[zb,AV.strip,AV.strip1,cS,cMs,cSs])
   | false =>
    rw[hb] at hx
    simp only[Al7,if_false,zJ] at hx
    simp only[zS] at gA2
    simp(disch:=first|omega|assumption) only[gA2,h32,Ne.symm h32,go_sem]
    exact fin _ _ [.agg [.int .i64 0,.str s,.str s2,.sl .no 6 (cMs a),.sl .no 2 (cDs d),.str [],.sl .nil 7 []]] _ _ (by simp(disch:=first|omega|assumption) only[ir247,zo,zL,go_sem]) hx (KB.box hb2) (by simp[zb,AV.strip,AV.strip1,cS,cMs,cSs])
  | false =>
   rw[hc] at hx K5 hp5
   simp only[Al7,if_false,zJ] at hx K5 hp5
   simp(disch:=first|omega|assumption) only[go_sem]
   refine zk (zkU hk hp5 hl hr5) (fun v H8 ⟨a,t8,e8,hv8,ha8⟩=>?_) fun v H8 ⟨n,e8,hv8⟩=>pan v H8 n hv8 (by rw[hx,e8];rfl)
   subst hv8
   rw[e8,zJ] at hx
   have K8:=K5.call ha8
   have g83:H8 b3=some (.cells [.int .i64 0,.str [],.str s,.sl .nil 6 [],.sl .nil 2 [],.str [],.sl .nil 7 []]):=by rw[ha8.other n3s];(exact g53)
   have g82:H8 b2=some (.cells zS):=by rw[ha8.other n2s];(exact g52)
   simp(disch:=first|omega|assumption) only[g83,go_sem]
   have K9:=K8.box (x:=.cells [.int .i64 0,.str [],.str s,.sl .no 6 (cMs a),.sl .nil 2 [],.str [],.sl .nil 7 []]) hb3H
   obtain⟨p9,hp9,hr9⟩:=K9.here
   refine zk (zba hk hp9 hl hr9) (fun v HA ⟨d,tA,eA,hvA,haA⟩=>?_) fun v HA ⟨n,eA,hvA⟩=>pan v HA n hvA (by rw[hx,eA];rfl)
   subst hvA
   rw[eA,zJ] at hx
   have KA:=K9.call haA
   have gA3:HA b3=some (.cells [.int .i64 0,.str [],.str s,.sl .no 6 (cMs a),.sl .nil 2 [],.str [],.sl .nil 7 []]):=by rw[haA.other n3s,upd_same]
   have gA2:HA b2=some (.cells zS):=by rw[haA.other n2s,upd_ne (Ne.symm h32),g82]
   simp(disch:=first|omega|assumption) only[gA3,go_sem]
   have KB:=KA.box (x:=.cells [.int .i64 0,.str [],.str s,.sl .no 6 (cMs a),.sl .no 2 (cDs d),.str [],.sl .nil 7 []]) hb3H
   obtain⟨pB,hpB,hrB⟩:=KB.here
   refine zc (zna (dp:=16-k) hpB hrB [123]) fun v HC ⟨hvC,hHC⟩=>?_
   subst hvC;subst hHC
   have gC2:(HA.upd b3 (.cells [.int .i64 0,.str [],.str s,.sl .no 6 (cMs a),.sl .no 2 (cDs d),.str [],.sl .nil 7 []])) b2=some (.cells zS):=by rw[upd_ne (Ne.symm h32),gA2]
   cases hb:isP [123] tA with
   | true =>
    rw[hb] at hx
    simp only[if_true] at hx
    simp(disch:=first|omega|assumption) only[go_sem]
    refine zk (hv _ r L pB tA hpB hl hrB) (fun v HD ⟨l,tD,eD,hvD,haD⟩=>?_) fun v HD ⟨n,eD,hvD⟩=>pan v HD n hvD (by rw[hx,eD];rfl)
    subst hvD
    rw[eD,zJ] at hx
    have KD:=KB.call haD
    have gD3:HD b3=some (.cells [.int .i64 0,.str [],.str s,.sl .no 6 (cMs a),.sl .no 2 (cDs d),.str [],.sl .nil 7 []]):=by rw[haD.other n3s,upd_same]
    have gD2:HD b2=some (.cells zS):=by rw[haD.other n2s,gC2]
    simp only[zS] at gD2
    simp(disch:=first|omega|assumption) only[gD3,gD2,h32,Ne.symm h32,go_sem]
    exact fin _ _ [.agg [.int .i64 0,.str [],.str s,.sl .no 6 (cMs a),.sl .no 2 (cDs d),.str [],.sl .no 7 (cSs l)]] _ _ (by simp(disch:=first|omega|assumption) only[ir247,zo,zL,go_sem]) hx ((KD.box hb3H).box hb2) (by simp[zb,AV.strip,AV.strip1,cS,cMs,cSs])
   | false =>
    rw[hb] at hx
    simp only[Al7,if_false,zJ] at hx
    simp only[zS] at gA2
    simp(disch:=first|omega|assumption) only[gA2,h32,Ne.symm h32,go_sem]
    exact fin _ _ [.agg [.int .i64 0,.str [],.str s,.sl .no 6 (cMs a),.sl .no 2 (cDs d),.str [],.sl .nil 7 []]] _ _ (by simp(disch:=first|omega|assumption) only[ir247,zo,zL,go_sem]) hx (KB.box hb2) (by simp[zb,AV.strip,AV.strip1,cS,cMs,cSs])
theorem zpU:zeK 0:=by
 intro H r L p t hs hl hr
 refine zf.goO (R:=fun v H'=>zdR H r L (16-0) (yo 0 t) (fun l=>.sl .no 7 (cSs l)) v H') (RP:=fun v H'=>zej (yo 0 t) v H') ir162 ck162 (Al4 _) fun KP Q hQ hP=>?_
 have hll:L.length≤z1:=Nat.le_trans (ZH L) hl
 have pan:∀(v:AV) (H1:za) (n:Int),v=Za n→yo 0 t=.error n→KP v H1:=fun v H1 n h1 h2=>hP v H1 H1 (Low.refl _) ⟨n,h2,h1⟩
 simp(disch:=first|omega|assumption) only[ir162,go_sem]
 refine zk (ziE (dp:=16-0) hs hll (by omega) hr [123]) (fun v H1 ⟨hv,hat,haf⟩=>?_) fun v H1 ⟨hi,h16,hv⟩=>pan v H1 4 hv (by rw[yo,if_pos hi])
 subst hv
 cases hi:isP [123] t with
 | true=>exact absurd (hat hi).1 (by decide)
 | false =>
  simp(disch:=first|omega|assumption) only[go_sem]
  exact zk (zdj _ r 2) (fun _ _ h=>h.elim) fun v H3 h=>pan v H3 2 h (by rw[yo,hi];rfl)
theorem zpK {k:Nat} (hk:k<16) (hv:zeK k):zeK (k+1):=by
 intro H r L p t hs hl hr
 refine Zy (zf.goO (R:=fun v H'=>zdR H r L (16-(k+1)) (yo (k+1) t) (fun l=>.sl .no 7 (cSs l)) v.strip H') (RP:=fun v H'=>zej (yo (k+1) t) v H') ir162 ck162 (Al4 _) fun KP Q hQ hP=>?_)
 have hll:L.length≤z1:=Nat.le_trans (ZH L) hl
 have hll2:=hll
 simp only[z1] at hll2
 have pan:∀(v:AV) (H1:za) (n:Int),v=Za n→(yo (k+1) t)=.error n→KP v H1:=fun v H1 n h1 h2=>hP v H1 H1 (Low.refl _) ⟨n,h2,h1⟩
 have fin:=KI.done hQ
 have K0:=KI.start hs hr
 simp(disch:=first|omega|assumption) only[ir162,go_sem]
 refine zk (ziE (dp:=16-(k+1)) hs hll (by omega) hr [123]) (fun v H1 ⟨hv1,hat,haf⟩=>?_) fun v H1 ⟨hi,h16,hv1⟩=>by exfalso;omega
 subst hv1
 cases hi:isP [123] t with
 | false =>
  simp(disch:=first|omega|assumption) only[go_sem]
  exact zk (zdj _ r 2) (fun _ _ h=>h.elim) fun v H3 h=>pan v H3 2 h (by rw[yo,hi];rfl)
 | true =>
  have ha1:=(hat hi).2
  rw[show 16-(k+1)+1=16-k by omega] at ha1
  have K1:=K0.call ha1
  obtain⟨p1,hp1,hr1⟩:=K1.here
  have hx:yo (k+1) t=pb (zaQ (yo k) k t.tail) fun x t=>yK [125] (zaQ (yo k) k) (t.length+1) [x] t:=by
   rw[yo,hi];rfl
  clear hat haf
  simp(disch:=first|omega|assumption) only[go_sem]
  refine zk (zrh (by omega) hv hp1 hl hr1) (fun v H2 ⟨x1,t2,e2,hv2,ha2⟩=>?_) fun v H2 ⟨n,e2,hv2⟩=>pan v H2 n hv2 (by rw[hx,e2];rfl)
  subst hv2
  have K2:=K1.call ha2
  have hlt1:=(zbq (Zr k)).lt (by decide) _ _ _ e2
  have hsl:=zd8 hp1
  rw[e2,zJ] at hx
  obtain⟨R,hR⟩:∃ R,yK [125] (zaQ (yo k) k) (t2.length+1) [x1] t2=R:=⟨_,rfl⟩
  rw[hR] at hx
  simp(disch:=first|omega|assumption) only[zbD,zal,ZV,go_sem]
  refine zI (fun x:Own×List SelD×TS=>[(3,.sl x.1 7 (cSs x.2.1))]) (fun x H'=>KO H r L x.2.2 (16-k) H' x.1 x.2.1.length 7∧(∃ m,x.2.2.length<m∧yK [125] (zaQ (yo k) k) m x.2.1 x.2.2=R)∧x.2.1.length+x.2.2.length≤L.length) (fun x=>x.2.2.length) (.full,[x1],t2) (by simp(disch:=first|omega|assumption) only[cSs,Y6,go_sem]) ⟨⟨K2,yq.full _ _ _,nofun⟩,⟨_,Nat.lt_succ_self _,hR⟩,by simp only[List.length_singleton];omega⟩ ?_
  rintro⟨o,l,u⟩ H3 J ⟨K3,⟨m,hm,hR3⟩,hlen⟩ hJ
  simp only at K3 hm hR3 hlen
  obtain⟨m,rfl⟩:∃ j,m=j+1:=⟨m-1,by omega⟩
  obtain⟨p3,hp3,hr3⟩:=K3.here
  have hcl:=zfN l
  simp(disch:=first|omega|assumption) only[go_sem]
  refine zc (zi4 (dp:=16-k) hp3 hll (by omega) hr3 [125]) fun v H4 ⟨hv4,hat,haf⟩=>?_
  subst hv4
  cases hj:isP [125] u with
  | true =>
   have ha4:=hat hj
   rw[show 16-k-1=16-(k+1) by omega] at ha4
   have e1:R=.ok (l,u.tail):=by rw[← hR3,yK,hj];rfl
   simp(disch:=first|omega|assumption) only[go_sem]
   refine fin _ _ [.sl o 7 (cSs l)] l u.tail (by simp(disch:=first|omega|assumption) only[ir162,zo,zL,go_sem]) (by rw[hx,e1]) (K3.toKI.call ha4) ?_
   simp[zb,AV.strip,AV.strip1,zak,Y6]
  | false =>
   have K4:=K3.call (haf hj)
   obtain⟨p4,hp4,hr4⟩:=K4.here
   rw[yK,hj] at hR3
   simp only[Al7,if_false] at hR3
   simp(disch:=first|omega|assumption) only[go_sem]
   refine zk (zrh (by omega) hv hp4 hl hr4) (fun v H5 ⟨x,t5,e5,hv5,ha5⟩=>?_) fun v H5 ⟨n5,e5,hv5⟩=>pan v H5 n5 hv5 (by rw[hx,← hR3,e5];rfl)
   subst hv5
   rw[e5,zJ] at hR3
   have hlt:=(zbq (Zr k)).lt (by decide) _ _ _ e5
   have K5:=K4.call ha5
   simp(disch:=first|omega|assumption) only[zbD,zal,ZV,go_sem]
   refine zE (by rw[hcl];exact K5.own) (by simp only[hcl,Al2,Al3];omega) (by simp only[hcl,Al2,Al3,maxLen];omega) fun o6 H6 hs6=>?_
   have K6:=K5.app (by simpa[hcl] using hs6)
   simp(disch:=first|omega|assumption) only[zbD,zal,ZV,go_sem]
   refine goJ (hJ (o6,l++[x],t5) _ (by simp only;omega) ⟨by simpa using K6,⟨m,by simp only;omega,hR3⟩,by simp only[Al5,Al2,Al3];omega⟩) (by simp(disch:=first|omega|assumption) only[zak,List.map_append,List.map_cons,List.map_nil,Y6,go_sem])
theorem zaC:∀ k,k≤16→zeK k
 | 0,_=>zpU
 | k+1,h=>zpK (by omega) (zaC k (by omega))
def poc (L:TS) (s:St):AObj:=.cells [.sl .no 2 (cKs L),.int .i64 (s.i:Int),.int .i64 s.dp,.int .i64 s.e]
abbrev PQ (H:za) (r:Nat) (L:TS) (x:AV) (s:St):AEnd→za→Prop:=fun e H'=>∃ v,e=.ret v∧(v=x∧H'=H.upd r (poc L s))
structure KB (H:za) (r:Nat) (y:AObj) (H1:za):Prop where
 keep:∀ c x,c≠r→H c=some x→H1 c=some x
 here:H1 r=some y
 hr:∃ x,H r=some x
section
variable {H H1 H2:za} {r b:Nat} {y:AObj}
theorem KB.start (hr:H r=some y):KB H r y H:=⟨fun _ _ _ h=>h,hr,⟨_,hr⟩⟩
theorem KB.call (h:KB H r y H1) (z:AObj):KB H r z (H1.upd r z):=⟨fun c x hc hx=>by rw[upd_ne hc];exact h.keep c x hc hx,upd_same ..,h.hr⟩
theorem KB.ne (h:KB H r y H1) (hb:H b=.none):r≠b:=fun e=>by
 subst e;obtain⟨x,hx⟩:=h.hr;rw[hb] at hx;cases hx
theorem KB.none (h:KB H r y H1) (hb:H1 b=.none):H b=.none:=by
 cases hx:H b with
 | none=>rfl
 | some x =>
  by_cases e:b=r
  ·subst e;have h2:=h.here;rw[hb] at h2;cases h2
  ·have:=h.keep b x e hx;rw[hb] at this;cases this
theorem KB.box (h:KB H r y H1) (hb:H b=.none) (x:AObj):KB H r y (H1.upd b x) :=
 ⟨fun c z hc hz=>by rw[upd_ne (fun e=>by subst e;rw[hb] at hz;cases hz)];exact h.keep c z hc hz,by rw[upd_ne (h.ne hb)];exact h.here,h.hr⟩
theorem KB.low (h:KB H r y H1):Low (H.upd r y) H1:=Low.of_sub fun c x hc=>by
 by_cases e:c=r
 ·subst e;rw[upd_same] at hc;rw[← hc];exact h.here
 ·rw[upd_ne e] at hc;exact h.keep c x e hc
structure KBO (H:za) (r:Nat) (y:AObj) (H1:za) (o:Own) (n sz:Nat):Prop extends KB H r y H1 where
 own:yq H1 o n sz
 tip:∀ b d,o=.tip b d→H b=.none
variable {o o':Own} {n n' sz:Nat} {cs cs':List AV}
theorem KBO.call {L:TS} {u s:St} (h:KBO H r (poc L u) H1 o n sz):KBO H r (poc L s) (H1.upd r (poc L s)) o n sz :=
 ⟨h.toKB.call _,yG h.own (show H1 r=some (.cells _) from h.here),h.tip⟩
theorem KBO.box (h:KBO H r y H1 o n sz) (hb:H b=.none) (h1:H1 b=some (.cells cs)):KBO H r y (H1.upd b (.cells cs')) o n sz :=
 ⟨h.toKB.box hb _,yG h.own h1,h.tip⟩
theorem KBO.app {L:TS} {u:St} (h:KBO H r (poc L u) H1 o n sz) (hs:OwnS H1 o H2 o' n' sz):KBO H r (poc L u) H2 o' n' sz:=by
 refine⟨⟨fun c x hc hx=>hs.kept c x (h.keep c x hc hx) fun d e=>?_,yh h.own (show H1 r=some (.cells _) from h.here) hs.kept,h.hr⟩,hs.own,fun b d e=>?_⟩
 ·have:=h.tip c d e;rw[hx] at this;cases this
 ·rcases hs.new b d e with h2|⟨d0,e2⟩
  ·exact h.toKB.none h2
  ·exact h.tip b d0 e2
theorem KBO.new (h:KBO H r y H1 o n sz) (hb:H1 b=.none) (x:AObj):KBO H r y (H1.upd b x) o n sz:=⟨h.toKB.box (h.toKB.none hb) x,h.own.upd hb,h.tip⟩
theorem KBO.stay (h:KBO H r y H1 o n sz) (hs:OwnS H1 o H2 o' n' sz) (hb:H1 b=some (.cells cs)):H2 b=some (.cells cs) :=
 yh h.own hb hs.kept
theorem KB.done {x:AV} {Q:AExit→Env→za→Prop} {res:List ARes} (hQ:∀ e ρ H1 H2 vs,(∀ i,e≠.exit i)→zo ρ H1 res=some vs→Low H2 H1→((zb vs).strip=x∧H2=H.upd r y)→Q e ρ H1)
  (ρ1:Env) (H1:za) (vs:List AV) (h1:zo ρ1 H1 res=some vs) (h3:KB H r y H1) (h4:(zb vs).strip=x):Q .ret ρ1 H1 :=
 hQ .ret ρ1 H1 (H.upd r y) vs nofun h1 h3.low ⟨h4,rfl⟩
end
theorem zrX {H:za} {r:Nat} {x:AObj} (h:H r=some x):H.upd r x=H:=by
 funext c;by_cases e:c=r
 ·subst e;simp[za.upd,h]
 ·simp[za.upd,e]
theorem KB.step {H H1 H2:za} {r:Nat} {y z:AObj} (h:KB H r y H1) (e:H2=H1.upd r z):KB H r z H2:=e▸h.call z
theorem KBO.step {H H1 H2:za} {r:Nat} {L:TS} {u s:St} {o:Own} {n sz:Nat} (h:KBO H r (poc L u) H1 o n sz) (e:H2=H1.upd r (poc L s)):KBO H r (poc L s) H2 o n sz:=e▸h.call
theorem oth {H1 H2:za} {r b:Nat} {z:AObj} {x:Option AObj} (e:H2=H1.upd r z) (hb:r≠b) (g:H1 b=x):H2 b=x:=by rw[e,upd_ne (Ne.symm hb)];exact g
def mS (L:TS) (s:St):Nat:=if s.e=0 then (L.drop s.i).length+1 else 0
theorem zhx (L:TS) (s:St):mS L s≤L.length+1:=by unfold mS;split<;>simp
theorem zpB {L:TS} {s:St} (h:(s.hd L).k≠0):s.e=0∧s.i<L.length:=by
 unfold St.hd at h
 split at h
 ·rename_i h0
  refine⟨h0,Nat.lt_of_not_le fun hle=>h ?_⟩
  rw[List.drop_eq_nil_of_le hle];rfl
 ·exact absurd rfl h
theorem zqY {L:TS} {m:List UInt8} {s:St} (h:isS L m s=true):(s.hd L).k=1:=by
 simp only[isS,Al0,z7] at h;exact h.1
theorem zjG {α:Type} {L:TS} {f:TS→PR α} {D:Int} {fS:St→α×St} (hf:SimS L f D fS) (hlt:∀ t a t',f t=.ok (a,t')→t'.length<t.length) {s:St} (hd:s.e=0→s.dp=D) :
  (s.e=0→mS L (fS s).2<mS L s)∧((fS s).2.e=0→(fS s).2.dp=D):=by
 obtain⟨i,d,e⟩:=s
 simp only at hd
 by_cases he:e=0
 ·subst he
  obtain rfl:=hd rfl
  have hr:=hf.rel i
  cases hx:f (L.drop i) with
  | error n =>
   rw[hx] at hr
   refine⟨fun _=>?_,fun h=>absurd h (by rw[hr.2];exact hr.1)⟩
   have:¬ ((fS ⟨i,d,0⟩).2.e=0):=by rw[hr.2];exact hr.1
   simp[mS,this]
  | ok y =>
   obtain⟨a,t'⟩:=y
   rw[hx] at hr
   obtain⟨i',h1,h2⟩:=hr
   have:=hlt _ _ _ hx
   rw[h2]
   refine⟨fun _=>?_,fun _=>rfl⟩
   rw[h1] at this
   simp only[mS,if_true];omega
 ·have:=hf.bad ⟨i,d,e⟩ he
  refine⟨fun h=>absurd h he,fun h=>?_⟩
  rw[this] at h;exact absurd h he
theorem Yk {α:Type} {L:TS} {f:TS→PR α} {D:Int} {fS:St→α×St} (hf:SimS L f D fS) {s:St} (hd:s.e=0→s.dp=D):(fS s).2.e=0→(fS s).2.dp=D:=by
 obtain⟨i,d,e⟩:=s
 simp only at hd
 by_cases he:e=0
 ·subst he
  obtain rfl:=hd rfl
  have hr:=hf.rel i
  cases hx:f (L.drop i) with
  | error n=>rw[hx] at hr;exact fun h=>absurd h (by rw[hr.2];exact hr.1)
  | ok y =>
   obtain⟨a,t'⟩:=y
   rw[hx] at hr
   obtain⟨i',h1,h2⟩:=hr
   rw[h2];exact fun _=>rfl
 ·have:=hf.bad ⟨i,d,e⟩ he
  intro h
  rw[this] at h;exact absurd h he
structure LI {α:Type} (L:TS) (m:List UInt8) (one:Bool) (f:St→α×St) (D:Int) (R:List α×St) (l:List α) (u:St):Prop where
 dp:u.e=0→u.dp=D
 eq:∃ k,mS L u<k∧yT L m one f k l u=R
 len:l.length+mS L u≤L.length+1
abbrev zrm {α:Type} (L:TS) (m:List UInt8) (one:Bool) (l:List α) (u:St):Prop:=u.e=0∧((one=true∧l.length=0)∨isS L m u=false)
section
variable {α:Type} {L:TS} {m:List UInt8} {one:Bool} {f:St→α×St} {D:Int} {R:List α×St} {l:List α} {u:St}
theorem LI.start (h:u.e=0→u.dp=D) (hR:yT L m one f (L.length+2) [] u=R):LI L m one f D R [] u :=
 ⟨h,⟨_,by have:=zhx L u;omega,hR⟩,by have:=zhx L u;simpa using this⟩
theorem LI.stop (h:LI L m one f D R l u) (hc:¬ zrm L m one l u):R=(l,u):=by
 obtain⟨k,hk,hR⟩:=h.eq
 cases k with
 | zero=>omega
 | succ k=>rw[← hR,yT,if_neg hc]
theorem LI.next {f0:TS→PR α} (h:LI L m one f D R l u) (hc:zrm L m one l u) (hf:SimS L f0 D f) (hlt:∀ t a t',f0 t=.ok (a,t')→t'.length<t.length) :
  LI L m one f D R (l++[(f u).1]) (f u).2∧mS L (f u).2<mS L u∧l.length<L.length+1:=by
 obtain⟨p1,p2⟩:=zjG hf hlt h.dp
 have p1:=p1 hc.1
 have hl:=h.len
 obtain⟨k,hk,hR⟩:=h.eq
 cases k with
 | zero=>omega
 | succ k =>
  rw[yT,if_pos hc] at hR
  exact⟨⟨p2,⟨k,by omega,hR⟩,by simp only[Al5,List.length_singleton];omega⟩,p1,by omega⟩
structure WI (L:TS) (m:List UInt8) (f:St→α×St) (D:Int) (R:List α×St) (l:List α) (u:St):Prop where
 dp:u.e=0→u.dp=D
 eq:∃ k,mS L u<k∧zae L m f k l u=R
 len:l.length+mS L u≤L.length+1
theorem WI.start (h:u.e=0→u.dp=D) (hR:zae L m f (L.length+2) [] u=R):WI L m f D R [] u :=
 ⟨h,⟨_,by have:=zhx L u;omega,hR⟩,by have:=zhx L u;simpa using this⟩
theorem WI.stop (h:WI L m f D R l u) (hc:isS L m u=false):R=(l,u):=by
 obtain⟨k,hk,hR⟩:=h.eq
 cases k with
 | zero=>omega
 | succ k=>rw[← hR,zae,hc];rfl
theorem zkF (h:isS L m u=true):zj L m u=stepS u:=by simp[zj,h]
theorem WI.next {f0:TS→PR α} (h:WI L m f D R l u) (hc:isS L m u=true) (hf:SimS L f0 D f) (hlt:∀ t a t',f0 t=.ok (a,t')→t'.length<t.length) :
  WI L m f D R (l++[(f (zj L m u)).1]) (f (zj L m u)).2∧mS L (f (zj L m u)).2<mS L u∧l.length<L.length+1:=by
 obtain⟨h0,hi⟩:=zpB (L:=L) (s:=u) (by rw[zqY hc];decide)
 have e1:=zkF hc
 have hm:mS L (zj L m u)<mS L u:=by
  rw[e1];simp only[mS,stepS,h0,if_true,yH];omega
 obtain⟨p1,p2⟩:=zjG hf hlt (s:=zj L m u) (by rw[e1];exact h.dp)
 have p1:=p1 (by rw[e1];exact h0)
 have hl:=h.len
 obtain⟨k,hk,hR⟩:=h.eq
 cases k with
 | zero=>omega
 | succ k =>
  rw[zae,hc,if_pos rfl] at hR
  exact⟨⟨p2,⟨k,by omega,hR⟩,by simp only[Al5,List.length_singleton];omega⟩,by omega,by omega⟩
end
section
variable {H:za} {r:Nat} {L:TS} {s:St}
theorem zfu (hr:H r=some (poc L s)) (n:Int):zf Tryz.prog 111 [.ptr r 0,.int .i64 n] H (PQ H r L (.tup []) (yV n s)):=by
 refine zf.go ir111 ck111 (Al4 _) fun KP Q hQ=>?_
 have hr':=hr
 simp only[poc] at hr'
 by_cases he:s.e=0
 ·simp(disch:=first|omega|assumption) only[ir111,hr',he,go_sem]
  exact hQ _ _ _ _ [] nofun rfl (Low.refl _) ⟨rfl,by simp[yV,he,poc]⟩
 ·simp(disch:=first|omega|assumption) only[ir111,hr',he,go_sem]
  exact hQ _ _ _ H [] nofun rfl (Low.refl _) ⟨rfl,by rw[zbu he];exact(zrX hr).symm⟩
theorem zg3 (hl:wT L≤z1) (hr:H r=some (poc L s)):zf Tryz.prog 106 [.ptr r 0] H (fun e H'=>∃ v,e=.ret v∧(v=yl (s.hd L)∧H'=H)):=by
 refine zf.go ir106 ck106 (Al4 _) fun KP Q hQ=>?_
 have hr':=hr
 simp only[poc] at hr'
 have hcl:=zcQ L
 simp(disch:=first|omega|assumption) only[ir106,go_sem]
 refine zh fun b2 hb2=>?_
 have n2:r≠b2:=fun e=>by subst e;rw[hb2] at hr;cases hr
 have n2s:=Ne.symm n2
 have low:∀ x,Low H (H.upd b2 x):=fun x=>(Low.refl _).upd hb2
 by_cases he:s.e=0
 ·by_cases hi:L.length≤s.i
  ·have h1:((L.length:Int)≤(s.i:Int))=True:=eq_true (by omega)
   have e:s.hd L=⟨0,[]⟩:=by unfold St.hd;rw[if_pos he,List.drop_eq_nil_of_le hi];rfl
   simp(disch:=first|omega|assumption) only[hr',n2,n2s,he,hcl,h1,go_sem]
   exact hQ _ _ _ H [.agg [.int .i64 0,.str []]] nofun (by simp(disch:=first|omega|assumption) only[ir106,zo,zL,go_sem]) (by simpa using low _) ⟨(by simp[zb,ze,AV.strip,AV.strip1,e,yl]),rfl⟩
  ·have h1:¬ ((L.length:Int)≤(s.i:Int)):=by omega
   have h2:((s.i:Int)<(L.length:Int))=True:=eq_true (by omega)
   obtain⟨x,hx⟩:∃ x,L[s.i]?=some x:=⟨_,Al9 (by omega)⟩
   have hg:(cKs L).getD s.i []=[.int .i64 x.k,.str x.s]:=by simp[cKs,List.getD,hx,cK]
   have e:s.hd L=x:=by
    have e2:L.drop s.i=x::L.drop (s.i+1):=by rw[List.drop_eq_getElem_cons (by omega)];rw[Al9 (by omega)] at hx;cases hx;rfl
    unfold St.hd;rw[if_pos he,e2];rfl
   simp(disch:=first|omega|assumption) only[hr',n2,n2s,he,hcl,h1,h2,hg,go_sem]
   exact hQ _ _ _ H [.agg [.int .i64 x.k,.str x.s]] nofun (by simp(disch:=first|omega|assumption) only[ir106,zo,zL,go_sem]) (by simpa using low _) ⟨(by simp[zb,ze,AV.strip,AV.strip1,e,yl]),rfl⟩
 ·have e:s.hd L=⟨0,[]⟩:=ze6 he
  simp(disch:=first|omega|assumption) only[hr',n2,n2s,he,go_sem]
  exact hQ _ _ _ H [.agg [.int .i64 0,.str []]] nofun (by simp(disch:=first|omega|assumption) only[ir106,zo,zL,go_sem]) (by simpa using low _) ⟨(by simp[zb,ze,AV.strip,AV.strip1,e,yl]),rfl⟩
theorem zaJ (hl:wT L≤z1) (hr:H r=some (poc L s)) (m:List UInt8):zf Tryz.prog 169 [.ptr r 0,.str m] H (fun e H'=>∃ v,e=.ret v∧(v=.bool (isS L m s)∧H'=H)):=by
 refine zf.go ir169 ck169 (Al4 _) fun KP Q hQ=>?_
 simp(disch:=first|omega|assumption) only[ir169,go_sem]
 refine zc (zg3 hl hr) fun v H1 ⟨hv,hH⟩=>?_
 subst hv;subst hH
 simp(disch:=first|omega|assumption) only[yl,go_sem]
 refine zh fun b5 hb5=>?_
 by_cases hk:(s.hd L).k=1
 ·simp(disch:=first|omega|assumption) only[hk,go_sem]
  exact hQ _ _ _ H1 [_] nofun rfl ((Low.refl _).upd hb5) ⟨(by simp[zb,ze,AV.strip,AV.strip1,isS,hk]),rfl⟩
 ·simp(disch:=first|omega|assumption) only[hk,go_sem]
  exact hQ _ _ _ H1 [_] nofun rfl ((Low.refl _).upd hb5) ⟨(by simp[zb,ze,AV.strip,AV.strip1,isS,hk]),rfl⟩
theorem ze5 (hl:wT L≤z1) (hr:H r=some (poc L s)) (m:List UInt8):zf Tryz.prog 109 [.ptr r 0,.str m] H (fun e H'=>∃ v,e=.ret v∧(v=.bool (ZZ L m s)∧H'=H)):=by
 refine zf.go ir109 ck109 (Al4 _) fun KP Q hQ=>?_
 simp(disch:=first|omega|assumption) only[ir109,go_sem]
 refine zc (zg3 hl hr) fun v H1 ⟨hv,hH⟩=>?_
 subst hv;subst hH
 simp(disch:=first|omega|assumption) only[yl,go_sem]
 refine zh fun b5 hb5=>?_
 by_cases hk:(s.hd L).k=2
 ·simp(disch:=first|omega|assumption) only[hk,go_sem]
  exact hQ _ _ _ H1 [_] nofun rfl ((Low.refl _).upd hb5) ⟨(by simp[zb,ze,AV.strip,AV.strip1,ZZ,hk]),rfl⟩
 ·simp(disch:=first|omega|assumption) only[hk,go_sem]
  exact hQ _ _ _ H1 [_] nofun rfl ((Low.refl _).upd hb5) ⟨(by simp[zb,ze,AV.strip,AV.strip1,ZZ,hk]),rfl⟩
theorem y0 (hl:wT L≤z1) (hr:H r=some (poc L s)) (m:List UInt8):zf Tryz.prog 187 [.ptr r 0,.str m] H (PQ H r L (.tup []) (zj L m s)):=by
 refine zf.go ir187 ck187 (Al4 _) fun KP Q hQ=>?_
 have hr':=hr
 simp only[poc] at hr'
 have hll:L.length≤z1:=Nat.le_trans (ZH L) hl
 simp only[z1] at hll
 simp(disch:=first|omega|assumption) only[ir187,go_sem]
 refine zc (zaJ hl hr m) fun v H1 ⟨hv,hH⟩=>?_
 subst hv;subst hH
 cases hi:isS L m s with
 | true =>
  have hk:=(zpB (L:=L) (s:=s) (by rw[zqY hi];decide)).2
  simp(disch:=first|omega|assumption) only[hr',wrap64,go_sem]
  exact hQ _ _ _ _ [] nofun rfl (Low.refl _) ⟨rfl,by simp[zj,hi,stepS,poc]⟩
 | false =>
  simp(disch:=first|omega|assumption) only[go_sem]
  refine zc (zfu hr 2) fun v H1 ⟨hv,hH⟩=>?_
  subst hv;subst hH
  simp(disch:=first|omega|assumption) only[go_sem]
  exact hQ _ _ _ _ [] nofun rfl (Low.refl _) ⟨rfl,by simp[zj,hi]⟩
theorem zkW (hl:wT L≤z1) (hr:H r=some (poc L s)) (m:List UInt8):zf Tryz.prog 188 [.ptr r 0,.str m] H (PQ H r L (.tup []) (yI L m s)):=by
 refine zf.go ir188 ck188 (Al4 _) fun KP Q hQ=>?_
 have hr':=hr
 simp only[poc] at hr'
 simp(disch:=first|omega|assumption) only[ir188,go_sem]
 refine zc (zaJ hl hr m) fun v H1 ⟨hv,hH⟩=>?_
 subst hv;subst hH
 by_cases hc:isS L m s=true∧16≤s.dp
 ·obtain⟨hi,h16⟩:=hc
  rw[hi]
  simp(disch:=first|omega|assumption) only[hr',h16,go_sem]
  refine zc (zfu hr 4) fun v H1 ⟨hv,hH⟩=>?_
  subst hv;subst hH
  simp(disch:=first|omega|assumption) only[go_sem]
  exact hQ _ _ _ _ [] nofun rfl (Low.refl _) ⟨rfl,by simp[yI,hi,h16]⟩
 have e:yI L m s=upS 1 (zj L m s):=by
  unfold yI
  rw[if_neg]
  intro h
  simp only[Al0,z7] at h
  exact hc h
 cases hi:isS L m s with
 | true =>
  have h16:¬ (16≤s.dp):=fun h=>hc ⟨hi,h⟩
  simp(disch:=first|omega|assumption) only[hr',h16,go_sem]
  refine zc (y0 hl hr m) fun v H1 ⟨hv,hH⟩=>?_
  subst hv
  have g1:H1 r=some (poc L (zj L m s)):=by rw[hH,upd_same]
  simp only[poc] at g1
  simp(disch:=first|omega|assumption) only[g1,go_sem]
  exact hQ _ _ _ _ [] nofun rfl (Low.refl _) ⟨rfl,by rw[hH,Yv,e];simp[upS,poc]⟩
 | false =>
  simp(disch:=first|omega|assumption) only[go_sem]
  refine zc (y0 hl hr m) fun v H1 ⟨hv,hH⟩=>?_
  subst hv
  have g1:H1 r=some (poc L (zj L m s)):=by rw[hH,upd_same]
  simp only[poc] at g1
  simp(disch:=first|omega|assumption) only[g1,go_sem]
  exact hQ _ _ _ _ [] nofun rfl (Low.refl _) ⟨rfl,by rw[hH,Yv,e];simp[upS,poc]⟩
theorem zbP (hl:wT L≤z1) (hr:H r=some (poc L s)) (m:List UInt8):zf Tryz.prog 189 [.ptr r 0,.str m] H (PQ H r L (.tup []) (YC L m s)):=by
 refine zf.go ir189 ck189 (Al4 _) fun KP Q hQ=>?_
 simp(disch:=first|omega|assumption) only[ir189,go_sem]
 refine zc (y0 hl hr m) fun v H1 ⟨hv,hH⟩=>?_
 subst hv
 have g1:H1 r=some (poc L (zj L m s)):=by rw[hH,upd_same]
 simp only[poc] at g1
 simp(disch:=first|omega|assumption) only[g1,go_sem]
 exact hQ _ _ _ _ [] nofun rfl (Low.refl _) ⟨rfl,by rw[hH,Yv];simp[YC,upS,poc,Int.sub_eq_add_neg]⟩
theorem Zb (hl:wT L≤z1) (hr:H r=some (poc L s)):zf Tryz.prog 107 [.ptr r 0] H (PQ H r L (.str (zg L s).1) (zg L s).2):=by
 refine zf.go ir107 ck107 (Al4 _) fun KP Q hQ=>?_
 have hr':=hr
 simp only[poc] at hr'
 have hll:L.length≤z1:=Nat.le_trans (ZH L) hl
 simp only[z1] at hll
 have K0:=KB.start hr
 simp(disch:=first|omega|assumption) only[ir107,go_sem]
 refine zc (zg3 hl hr) fun v H1 ⟨hv,hH⟩=>?_
 subst hv;subst hH
 simp(disch:=first|omega|assumption) only[yl,go_sem]
 refine zh fun b3 hb3=>?_
 have n3:=K0.ne hb3
 have n3s:=Ne.symm n3
 by_cases hk:(s.hd L).k=2
 ·have en:zg L s=((s.hd L).s,stepS s):=by simp[zg,hk]
  have ep:poc L (stepS s)=.cells [.sl .no 2 (cKs L),.int .i64 ((s.i:Int)+1),.int .i64 s.dp,.int .i64 s.e]:=by simp[poc,stepS]
  have hi:=(zpB (L:=L) (s:=s) (by rw[hk];decide)).2
  rw[en] at hQ
  have fin:=KB.done hQ
  simp(disch:=first|omega|assumption) only[hk,hr',n3,n3s,wrap64,go_sem]
  exact fin _ _ [.str (s.hd L).s] (by simp(disch:=first|omega|assumption) only[ir107,zo,zL,go_sem]) (by rw[ep];exact(K0.box hb3 _).call _) (by simp[zb,ze,AV.strip,AV.strip1])
 ·have en:zg L s=([],yV 2 s):=by simp[zg,hk]
  rw[en] at hQ
  have fin:=KB.done hQ
  simp(disch:=first|omega|assumption) only[hk,go_sem]
  refine zc (zfu (K0.box hb3 _).here 2) fun v H2 ⟨hv,h2⟩=>?_
  subst hv
  simp(disch:=first|omega|assumption) only[go_sem]
  exact fin _ _ [.str []] (by simp(disch:=first|omega|assumption) only[ir107,zo,zL,go_sem]) ((K0.box hb3 _).step h2) (by simp[zb,ze,AV.strip,AV.strip1])
theorem zqF (hl:wT L≤z1) (hr:H r=some (poc L s)):zf Tryz.prog 173 [.ptr r 0] H (PQ H r L (.str (Zk L s).1) (Zk L s).2):=by
 refine zf.go ir173 ck173 (Al4 _) fun KP Q hQ=>?_
 have K0:=KB.start hr
 have fin:=KB.done hQ
 simp(disch:=first|omega|assumption) only[ir173,go_sem]
 refine zc (ze5 hl hr [111,110]) fun v H1 ⟨hv,hH⟩=>?_
 subst hv;subst hH
 cases hw:ZZ L [111,110] s with
 | true =>
  have e:Zk L s=zg L (yV 2 s):=by simp only[Zk,hw,if_true]
  simp(disch:=first|omega|assumption) only[go_sem]
  refine zc (zfu hr 2) fun v H2 ⟨hv,h2⟩=>?_
  subst hv
  have K2:=K0.step h2
  simp(disch:=first|omega|assumption) only[go_sem]
  refine zc (Zb hl K2.here) fun v H3 ⟨hv,h3⟩=>?_
  subst hv
  simp(disch:=first|omega|assumption) only[go_sem]
  exact fin _ _ [_] rfl (by rw[e];exact K2.step h3) (by simp[zb,ze,AV.strip,AV.strip1,e])
 | false =>
  have e:Zk L s=zg L s:=by simp[Zk,hw]
  simp(disch:=first|omega|assumption) only[go_sem]
  refine zc (Zb hl hr) fun v H3 ⟨hv,h3⟩=>?_
  subst hv
  simp(disch:=first|omega|assumption) only[go_sem]
  exact fin _ _ [_] rfl (by rw[e];exact K0.step h3) (by simp[zb,ze,AV.strip,AV.strip1,e])
end
def zrS (L:TS) (r:Nat) (k:Nat):Prop:=∀ {H:za} {s:St},H r=some (poc L s)→zf Tryz.prog 101 [.ptr r 0,.int .i64 ((4-k:Nat):Int)] H (PQ H r L (.agg (cTy (ZM L k s).1)) (ZM L k s).2)
theorem zn5 {L:TS} {r:Nat} (hl:wT L≤z1) (k:Nat) (hk:k≤4) (ih:∀ n,k=n+1→zrS L r n):zrS L r k:=by
 intro H s hr
 refine zf.go ir101 ck101 (Al4 _) fun KP Q hQ=>?_
 have K0:=KB.start hr
 simp(disch:=first|omega|assumption) only[ir101,go_sem]
 refine zh fun b4 hb4=>?_
 have n4:=K0.ne hb4
 simp(disch:=first|omega|assumption) only[go_sem]
 refine zh fun b5 hb5=>?_
 have h54:b5≠b4:=fun e=>by subst e;rw[upd_same] at hb5;cases hb5
 have hb5H:H b5=none:=by rw[upd_ne h54] at hb5;exact hb5
 have n5:=K0.ne hb5H
 simp(disch:=first|omega|assumption) only[go_sem]
 obtain⟨H0,hH0⟩:∃ H0,H0=(H.upd b4 (.cells [.str [],.int .i64 0,.int .i64 0])).upd b5 (.cells [.str [],.int .i64 0,.int .i64 0]):=⟨_,rfl⟩
 have K2:KB H r (poc L s) H0:=by rw[hH0];exact(K0.box hb4 _).box hb5H _
 have g5:H0 b5=some (.cells [.str [],.int .i64 0,.int .i64 0]):=by rw[hH0,upd_same]
 have g4:H0 b4=some (.cells [.str [],.int .i64 0,.int .i64 0]):=by rw[hH0,upd_ne (Ne.symm h54),upd_same]
 try simp only[Yv]
 rw[← hH0]
 clear hH0
 refine zc (zaJ hl K2.here [91]) fun v H1 ⟨hv,hH⟩=>?_
 subst hv;subst hH
 cases hi:isS L [91] s with
 | true =>
  cases k with
  | zero =>
   have e:ZM L 0 s=(⟨[],0,0⟩,yV 4 s):=by simp[ZM,hi]
   have h44:((4:Int)≤((4-0:Nat):Int))=True:=eq_true (by decide)
   rw[e] at hQ
   have fin:=KB.done hQ
   simp(disch:=first|omega|assumption) only[h44,go_sem]
   refine zc (zfu K2.here 4) fun v H2 ⟨hv,h2⟩=>?_
   subst hv
   have K3:=K2.step h2
   have g25:=oth h2 n5 g5
   have g24:=oth h2 n4 g4
   simp(disch:=first|omega|assumption) only[g25,g24,go_sem]
   exact fin _ _ [.agg [.str [],.int .i64 0,.int .i64 0]] (by simp(disch:=first|omega|assumption) only[ir101,zo,zL,go_sem]) (K3.box hb4 _) (by simp[zb,ze,AV.strip,AV.strip1,cTy])
  | succ n =>
   have e:ZM L (n+1) s=Z8 L (Zs (ZM L n (zj L [91] s)).1) (zj L [93] (ZM L n (zj L [91] s)).2):=by simp[ZM,hi]
   have h44:¬ ((4:Int)≤((4-(n+1):Nat):Int)):=by omega
   have hw:IntKind.wrap .i64 (((4-(n+1):Nat):Int)+1)=((4-n:Nat):Int):=by rw[wrap64 (by omega) (by omega)];omega
   simp(disch:=first|omega|assumption) only[h44,go_sem]
   refine zc (y0 hl K2.here [91]) fun v H2 ⟨hv,h2⟩=>?_
   subst hv
   have K3:=K2.step h2
   have g25:=oth h2 n5 g5
   have g24:=oth h2 n4 g4
   simp(disch:=first|omega|assumption) only[hw,go_sem]
   refine zc (ih n rfl K3.here) fun v H3 ⟨hv,h3⟩=>?_
   subst hv
   have K4:=K3.step h3
   have g35:=oth h3 n5 g25
   have g34:=oth h3 n4 g24
   generalize (ZM L n (zj L [91] s)).2=s1 at *
   generalize (ZM L n (zj L [91] s)).1=ty at *
   simp(disch:=first|omega|assumption) only[g35,cTy,go_sem]
   refine zc (y0 hl (K4.box hb5H _).here [93]) fun v H4 ⟨hv,h4⟩=>?_
   subst hv
   have K5:=(K4.box hb5H _).step h4
   have g45:=oth h4 n5 (upd_same ..)
   have g44:=oth h4 n4 ((upd_ne (Ne.symm h54)).trans g34)
   have hs0:¬ ((1:Int)<0):=by decide
   simp(disch:=first|omega|assumption) only[g45,hs0,go_sem]
   have KU:=K5.box hb5H (.cells [.str ty.nm,.int .i64 (IntKind.wrap .i64 (ty.lists+1)),.int .i64 (zm5 ty.musts)])
   have GU5:(H4.upd b5 (.cells [.str ty.nm,.int .i64 (IntKind.wrap .i64 (ty.lists+1)),.int .i64 (zm5 ty.musts)])) b5=_:=upd_same ..
   have GU4:(H4.upd b5 (.cells [.str ty.nm,.int .i64 (IntKind.wrap .i64 (ty.lists+1)),.int .i64 (zm5 ty.musts)])) b4=_:=(upd_ne (Ne.symm h54)).trans g44
   refine zc (zaJ hl KU.here [33]) fun v HX ⟨hvX,hHX⟩=>?_
   subst hvX;subst hHX
   cases hb:isS L [33] (zj L [93] s1) with
   | false =>
    have e2:Z8 L (Zs ty) (zj L [93] s1)=((Zs ty),(zj L [93] s1)):=by simp[Z8,hb]
    rw[e2] at e
    rw[e] at hQ
    have fin:=KB.done hQ
    simp(disch:=first|omega|assumption) only[g44,h54,Ne.symm h54,go_sem]
    exact fin _ _ [.agg (cTy (Zs ty))] (by simp(disch:=first|omega|assumption) only[ir101,zo,zL,cTy,Zs,go_sem]) (KU.box hb4 _) (by simp[zb,ze,AV.strip,AV.strip1,cTy])
   | true =>
    have e2:Z8 L (Zs ty) (zj L [93] s1)=(⟨((Zs ty)).nm,((Zs ty)).lists,or1 ((Zs ty)).musts⟩,zj L [33] (zj L [93] s1)):=by simp[Z8,hb]
    rw[e2] at e
    rw[e] at hQ
    have fin:=KB.done hQ
    simp(disch:=first|omega|assumption) only[go_sem]
    refine zc (y0 hl KU.here [33]) fun v HY ⟨hvY,hY⟩=>?_
    subst hvY
    have KY:=KU.step hY
    have gY4:=oth hY n4 GU4
    have gY5:=oth hY n5 GU5
    simp(disch:=first|omega|assumption) only[gY4,gY5,h54,Ne.symm h54,go_sem]
    exact fin _ _ [.agg (cTy ⟨((Zs ty)).nm,((Zs ty)).lists,or1 ((Zs ty)).musts⟩)] (by simp(disch:=first|omega|assumption) only[ir101,zo,zL,cTy,or1,Zs,go_sem]) ((KY.box hb5H _).box hb4 _) (by simp[zb,ze,AV.strip,AV.strip1,cTy])
 | false =>
  have e:ZM L k s=Z8 L ⟨(zg L s).1,0,0⟩ (zg L s).2:=by cases k<;>simp[ZM,hi]
  simp(disch:=first|omega|assumption) only[go_sem]
  refine zc (Zb hl K2.here) fun v H2 ⟨hv,h2⟩=>?_
  subst hv
  have K3:=K2.step h2
  have g25:=oth h2 n5 g5
  have g24:=oth h2 n4 g4
  simp(disch:=first|omega|assumption) only[g25,go_sem]
  have KU:=K3.box hb5H (.cells [.str (zg L s).1,.int .i64 0,.int .i64 0])
  have GU5:(H2.upd b5 (.cells [.str (zg L s).1,.int .i64 0,.int .i64 0])) b5=_:=upd_same ..
  have GU4:(H2.upd b5 (.cells [.str (zg L s).1,.int .i64 0,.int .i64 0])) b4=_:=(upd_ne (Ne.symm h54)).trans g24
  refine zc (zaJ hl KU.here [33]) fun v HX ⟨hvX,hHX⟩=>?_
  subst hvX;subst hHX
  cases hb:isS L [33] (zg L s).2 with
  | false =>
   have e2:Z8 L (⟨(zg L s).1,0,0⟩:TyD) (zg L s).2=((⟨(zg L s).1,0,0⟩:TyD),(zg L s).2):=by simp[Z8,hb]
   rw[e2] at e
   rw[e] at hQ
   have fin:=KB.done hQ
   simp(disch:=first|omega|assumption) only[g24,h54,Ne.symm h54,go_sem]
   exact fin _ _ [.agg (cTy (⟨(zg L s).1,0,0⟩:TyD))] (by simp(disch:=first|omega|assumption) only[ir101,zo,zL,cTy,Zs,go_sem]) (KU.box hb4 _) (by simp[zb,ze,AV.strip,AV.strip1,cTy])
  | true =>
   have e2:Z8 L (⟨(zg L s).1,0,0⟩:TyD) (zg L s).2=(⟨((⟨(zg L s).1,0,0⟩:TyD)).nm,((⟨(zg L s).1,0,0⟩:TyD)).lists,or1 ((⟨(zg L s).1,0,0⟩:TyD)).musts⟩,zj L [33] (zg L s).2):=by simp[Z8,hb]
   rw[e2] at e
   rw[e] at hQ
   have fin:=KB.done hQ
   simp(disch:=first|omega|assumption) only[go_sem]
   refine zc (y0 hl KU.here [33]) fun v HY ⟨hvY,hY⟩=>?_
   subst hvY
   have KY:=KU.step hY
   have gY4:=oth hY n4 GU4
   have gY5:=oth hY n5 GU5
   simp(disch:=first|omega|assumption) only[gY4,gY5,h54,Ne.symm h54,go_sem]
   exact fin _ _ [.agg (cTy ⟨((⟨(zg L s).1,0,0⟩:TyD)).nm,((⟨(zg L s).1,0,0⟩:TyD)).lists,or1 ((⟨(zg L s).1,0,0⟩:TyD)).musts⟩)] (by simp(disch:=first|omega|assumption) only[ir101,zo,zL,cTy,or1,Zs,go_sem]) ((KY.box hb5H _).box hb4 _) (by simp[zb,ze,AV.strip,AV.strip1,cTy])
theorem znB {L:TS} {r:Nat} (hl:wT L≤z1):∀ k,k≤4→zrS L r k
 | 0,h=>zn5 hl 0 h fun n e=>nomatch e
 | k+1,h=>zn5 hl (k+1) h fun n e=>by
  obtain rfl:n=k:=by omega
  exact znB hl _ (by omega)
def zqt (L:TS) (r:Nat) (fixed:Bool) (k:Nat):Prop:=∀ {H:za} {s:St},H r=some (poc L s)→(s.e=0→s.dp=16-(k:Int)) →
 zf Tryz.prog 97 [.ptr r 0,.bool fixed] H (PQ H r L (.agg (cV (ZE L fixed k s).1)) (ZE L fixed k s).2)
theorem y5 {L:TS} {s:St} {D:Int} (h:s.e=0→s.dp=D):(zg L s).2.e=0→(zg L s).2.dp=D:=by
 unfold zg yV stepS
 split
 ·exact h
 ·split
  ·intro e;simp at e
  ·exact h
theorem Yf {L:TS} {m:List UInt8} {s:St} {D:Int} (h:s.e=0→s.dp=D):(zj L m s).e=0→(zj L m s).dp=D:=by
 unfold zj yV stepS
 split
 ·exact h
 ·split
  ·intro e;simp at e
  ·exact h
theorem zgn {L:TS} {H:za} {r:Nat} {s:St} {fixed:Bool} {k:Nat} (hl:wT L≤z1) (hv:zqt L r fixed k) (hr:H r=some (poc L s)) (hd:s.e=0→s.dp=16-(k:Int)) :
  zf Tryz.prog 190 [.ptr r 0,.bool fixed] H (PQ H r L (.agg (cM (ZS L (ZE L fixed k) s).1)) (ZS L (ZE L fixed k) s).2):=by
 refine zf.go ir190 ck190 (Al4 _) fun KP Q hQ=>?_
 have fin:=KB.done hQ
 have K0:=KB.start hr
 simp(disch:=first|omega|assumption) only[ir190,go_sem]
 refine zh fun b4 hb4=>?_
 have n4:=K0.ne hb4
 simp(disch:=first|omega|assumption) only[go_sem]
 refine zc (Zb hl (K0.box hb4 _).here) fun v H1 ⟨hv1,h1⟩=>?_
 subst hv1
 have K1:=(K0.box hb4 _).step h1
 have g1:=oth h1 n4 (upd_same ..)
 simp(disch:=first|omega|assumption) only[go_sem]
 refine zh fun b5 hb5=>?_
 have h54:b5≠b4:=fun e=>by subst e;rw[g1] at hb5;cases hb5
 have hb5H:H b5=none:=K1.none hb5
 have n5:=K0.ne hb5H
 simp(disch:=first|omega|assumption) only[go_sem]
 refine zc (y0 hl (K1.box hb5H _).here _) fun v H2 ⟨hv2,h2⟩=>?_
 subst hv2
 have K2:=(K1.box hb5H _).step h2
 have g25:=oth h2 n5 (upd_same ..)
 have g24:=oth h2 n4 ((upd_ne (Ne.symm h54)).trans g1)
 simp(disch:=first|omega|assumption) only[go_sem]
 refine zc (hv K2.here (Yf (y5 hd))) fun v H3 ⟨hv3,h3⟩=>?_
 subst hv3
 have K3:=K2.step h3
 have g35:=oth h3 n5 g25
 have g34:=oth h3 n4 g24
 simp(disch:=first|omega|assumption) only[zH,zt,zl,zG,zu,zm,ya,g35,g34,h54,Ne.symm h54,go_sem]
 refine fin _ _ [.agg (.str (zg L s).1::cV (ZE L fixed k (zj L [58] (zg L s).2)).1)] (by simp(disch:=first|omega|assumption) only[zH,zt,zl,zG,zu,zm,ya,ir190,zo,zL,go_sem]) ((K3.box hb5H _).box hb4 _) ?_
 simp[zb,AV.strip,AV.strip1,ZS,ya,y6]
def zrE (L:TS) (fixed:Bool):Nat→St→Val×St
 | 0,s=>(.mk 6 0 [] [] [],YC L [93] (yI L [91] s))
 | k+1,s=>zno L (ZE L fixed k) (yI L [91] s)
def mpS (L:TS) (fixed:Bool):Nat→St→Val×St
 | 0,s=>(.mk 7 0 [] [] [],YC L [125] (yI L [123] s))
 | k+1,s=>zsq L (ZE L fixed k) (yI L [123] s)
theorem zpp (L:TS) (fixed:Bool) (k:Nat) (s:St):ZE L fixed k s=if (s.hd L).k=3∨(s.hd L).k=4∨(s.hd L).k=5∨(s.hd L).k=2 then zbz L s
  else if isS L [36] s&&!fixed then zaG L s
  else if isS L [91] s then zrE L fixed k s
  else if isS L [123] s then mpS L fixed k s
  else (zV,yV 2 s):=by cases k<;>rfl
theorem zsP (L:TS) (s:St):(s.hd L).s.length≤wT L:=by
 unfold St.hd
 split
 ·exact zsS (p:=L.take s.i) (List.take_append_drop ..)
 ·simp
abbrev zB5:List AV:=[.int .i64 0,.int .i64 0,.str [],.sl .nil 5 [],.sl .nil 6 []]
theorem ziI {L:TS} {m:List UInt8} {s:St} {k:Nat} (hk:k≤16) (h:s.e=0→s.dp=16-(k:Int)):(yI L m s).e=0→∃ n,k=n+1∧(yI L m s).dp=16-(n:Int):=by
 intro he
 obtain⟨i,d,e⟩:=s
 simp only at h
 by_cases h0:e=0
 ·subst h0
  obtain rfl:=h rfl
  cases hp:isP m (L.drop i) with
  | false=>rw[zei hp] at he;exact absurd he (by decide)
  | true =>
   cases k with
   | zero=>exact absurd he zoZ
   | succ n =>
    refine⟨n,rfl,?_⟩
    rw[zd4 hp (by omega) (by omega)]
    simp only;omega
 ·rw[zbm h0] at he;exact absurd he h0
set_option maxHeartbeats 1000000 in
theorem zjr {L:TS} {r:Nat} (hl:wT L≤z1) (hn:∀ x∈L,Zh x) (fixed:Bool) (k:Nat) (hk:k≤16) (ih:∀ n,k=n+1→zqt L r fixed n):zqt L r fixed k:=by
 intro H s hr hd
 refine zf.go ir97 ck97 (Al4 _) fun KP Q hQ=>?_
 have hll:L.length≤z1:=Nat.le_trans (ZH L) hl
 simp only[z1] at hll
 have hsl:=zsP L s
 have hlP:=hl
 simp only[z1] at hlP
 have K0:=KB.start hr
 have ev:=zpp L fixed k s
 simp(disch:=first|omega|assumption) only[ir97,go_sem]
 refine zh fun b4 hb4=>?_
 have n4:=K0.ne hb4
 have n4s:=Ne.symm n4
 simp(disch:=first|omega|assumption) only[go_sem]
 refine zc (zg3 hl (K0.box hb4 _).here) fun v H1 ⟨hv,hH⟩=>?_
 subst hv;subst hH
 simp(disch:=first|omega|assumption) only[yl,go_sem]
 refine zh fun b5 hb5=>?_
 have h54:b5≠b4:=fun e=>by subst e;rw[upd_same] at hb5;cases hb5
 have hb5H:H b5=none:=by rw[upd_ne h54] at hb5;exact hb5
 have n5:=K0.ne hb5H
 have n5s:=Ne.symm n5
 obtain⟨H0,hH0⟩:∃ H0,H0=(H.upd b4 (.cells zB5)).upd b5 (.cells [.int .i64 (s.hd L).k,.str (s.hd L).s]):=⟨_,rfl⟩
 have K2:KB H r (poc L s) H0:=by rw[hH0];exact(K0.box hb4 _).box hb5H _
 have g5:H0 b5=some (.cells [.int .i64 (s.hd L).k,.str (s.hd L).s]):=by rw[hH0,upd_same]
 have g4:H0 b4=some (.cells zB5):=by rw[hH0,upd_ne (Ne.symm h54),upd_same]
 simp(disch:=first|omega|assumption) only[go_sem]
 try simp only[Yv]
 try rw[← hH0]
 clear hH0
 have gr:=K2.here
 simp only[poc] at gr
 simp only[zB5] at g4
 have ep:poc L (stepS s)=.cells [.sl .no 2 (cKs L),.int .i64 ((s.i:Int)+1),.int .i64 s.dp,.int .i64 s.e]:=by simp[poc,stepS]
 by_cases hkl:(s.hd L).k=3∨(s.hd L).k=4∨(s.hd L).k=5∨(s.hd L).k=2
 ·rw[if_pos hkl] at ev
  have hi:=(zpB (L:=L) (s:=s) (by omega)).2
  have KE:=K2.call (poc L (stepS s))
  rw[ep] at KE
  by_cases hk3:(s.hd L).k=3
  ·have el:zbz L s=(zcf (s.hd L),stepS s):=by simp[zbz,hk3]
   rw[ev,el] at hQ
   have fin:=KB.done hQ
   rw[ep] at fin
   have hk3':=eq_true hk3
   simp(disch:=first|omega|assumption) only[hk3',g5,gr,wrap64,n5,n5s,n4,n4s,go_sem]
   refine zd (zsg (s.hd L).s (by simp only[Lim];omega)) ?_
   cases h2:(zde (s.hd L).s).2 with
   | true =>
    have e3:zcf (s.hd L)=.mk 2 (zde (s.hd L).s).1 [] [] []:=by simp[zcf,hk3,h2]
    rw[e3] at fin
    simp(disch:=first|omega|assumption) only[go_sem]
    refine zd (zt1 _) ?_
    simp(disch:=first|omega|assumption) only[zH,zt,zl,zG,zu,zm,ya,g4,n4,n4s,go_sem]
    refine fin _ _ [.agg (cV (.mk 2 (zde (s.hd L).s).1 [] [] []))] (by simp(disch:=first|omega|assumption) only[zH,zt,zl,zG,zu,zm,ya,ir97,zo,zL,cV,cVs,cMs,go_sem]) (KE.box hb4 _) ?_
    simp[zb,AV.strip,y6]
   | false =>
    have e3:zcf (s.hd L)=.mk 3 0 (s.hd L).s [] []:=by simp[zcf,h2]
    rw[e3] at fin
    simp(disch:=first|omega|assumption) only[g4,g5,n4,n4s,n5,n5s,go_sem]
    refine fin _ _ [.agg [.int .i64 3,.int .i64 0,.str (s.hd L).s,.sl .nil 5 [],.sl .nil 6 []]] (by simp(disch:=first|omega|assumption) only[ir97,zo,zL,go_sem]) (KE.box hb4 _) ?_
    simp[zb,AV.strip,AV.strip1,cV,cVs,cMs,zaG,zV]
  by_cases hk4:(s.hd L).k=4
  ·have el:zbz L s=(zcf (s.hd L),stepS s):=by simp[zbz,hk4]
   have e3:zcf (s.hd L)=.mk 3 0 (s.hd L).s [] []:=by simp[zcf,hk4]
   rw[ev,el,e3] at hQ
   have fin:=KB.done hQ
   rw[ep] at fin
   have hk4':=eq_true hk4
   simp(disch:=first|omega|assumption) only[hk3,hk4',g5,gr,wrap64,n5,n5s,n4,n4s,go_sem]
   simp(disch:=first|omega|assumption) only[g4,g5,n4,n4s,n5,n5s,go_sem]
   refine fin _ _ [.agg [.int .i64 3,.int .i64 0,.str (s.hd L).s,.sl .nil 5 [],.sl .nil 6 []]] (by simp(disch:=first|omega|assumption) only[ir97,zo,zL,go_sem]) (KE.box hb4 _) ?_
   simp[zb,AV.strip,AV.strip1,cV,cVs,cMs,zaG,zV]
  by_cases hk5:(s.hd L).k=5
  ·have el:zbz L s=(.mk 4 0 (s.hd L).s [] [],stepS s):=by simp[zbz,hk5]
   rw[ev,el] at hQ
   have fin:=KB.done hQ
   rw[ep] at fin
   have hk5':=eq_true hk5
   simp(disch:=first|omega|assumption) only[hk3,hk4,hk5',g5,gr,wrap64,n5,n5s,n4,n4s,go_sem]
   refine zd (ztl _) ?_
   simp(disch:=first|omega|assumption) only[zH,zt,zl,zG,zu,zm,ya,g4,n4,n4s,go_sem]
   refine fin _ _ [.agg (cV (.mk 4 0 (s.hd L).s [] []))] (by simp(disch:=first|omega|assumption) only[zH,zt,zl,zG,zu,zm,ya,ir97,zo,zL,cV,cVs,cMs,go_sem]) (KE.box hb4 _) ?_
   simp[zb,AV.strip,y6]
  ·have hk2:(s.hd L).k=2:=by omega
   have el:zbz L s=(Z9 (s.hd L).s,stepS s):=by simp[zbz,hk2]
   rw[ev,el] at hQ
   have fin:=KB.done hQ
   rw[ep] at fin
   have hk2':=eq_true hk2
   by_cases w1:(s.hd L).s=[110,117,108,108]
   ·have e3:Z9 (s.hd L).s=.mk 0 0 [] [] []:=by rw[Z9,if_pos w1];rfl
    rw[e3] at fin
    simp(disch:=first|omega|assumption) only[hk3,hk4,hk5,hk2',g5,gr,wrap64,n5,n5s,n4,n4s,w1,go_sem]
    simp(disch:=first|omega|assumption) only[g4,g5,n4,n4s,n5,n5s,go_sem]
    refine fin _ _ [.agg [.int .i64 0,.int .i64 0,.str [],.sl .nil 5 [],.sl .nil 6 []]] (by simp(disch:=first|omega|assumption) only[ir97,zo,zL,go_sem]) (KE.box hb4 _) ?_
    simp[zb,AV.strip,AV.strip1,cV,cVs,cMs,zaG,zV]
   by_cases w2:(s.hd L).s=[116,114,117,101]
   ·have e3:Z9 (s.hd L).s=.mk 1 1 [] [] []:=by rw[Z9,if_neg w1,if_pos w2]
    rw[e3] at fin
    have w2':=eq_true w2
    simp(disch:=first|omega|assumption) only[hk3,hk4,hk5,hk2',g5,gr,wrap64,n5,n5s,n4,n4s,w1,w2',go_sem]
    simp(disch:=first|omega|assumption) only[g4,g5,n4,n4s,n5,n5s,go_sem]
    refine fin _ _ [.agg [.int .i64 1,.int .i64 1,.str [],.sl .nil 5 [],.sl .nil 6 []]] (by simp(disch:=first|omega|assumption) only[ir97,zo,zL,go_sem]) (KE.box hb4 _) ?_
    simp[zb,AV.strip,AV.strip1,cV,cVs,cMs,zaG,zV]
   by_cases w3:(s.hd L).s=[102,97,108,115,101]
   ·have e3:Z9 (s.hd L).s=.mk 1 0 [] [] []:=by rw[Z9,if_neg w1,if_neg w2,if_pos w3]
    rw[e3] at fin
    have w3':=eq_true w3
    simp(disch:=first|omega|assumption) only[hk3,hk4,hk5,hk2',g5,gr,wrap64,n5,n5s,n4,n4s,w1,w2,w3',go_sem]
    simp(disch:=first|omega|assumption) only[g4,g5,n4,n4s,n5,n5s,go_sem]
    refine fin _ _ [.agg [.int .i64 1,.int .i64 0,.str [],.sl .nil 5 [],.sl .nil 6 []]] (by simp(disch:=first|omega|assumption) only[ir97,zo,zL,go_sem]) (KE.box hb4 _) ?_
    simp[zb,AV.strip,AV.strip1,cV,cVs,cMs,zaG,zV]
   ·have e3:Z9 (s.hd L).s=.mk 5 0 (s.hd L).s [] []:=by rw[Z9,if_neg w1,if_neg w2,if_neg w3]
    rw[e3] at fin
    simp(disch:=first|omega|assumption) only[hk3,hk4,hk5,hk2',g5,gr,wrap64,n5,n5s,n4,n4s,w1,w2,w3,go_sem]
    simp(disch:=first|omega|assumption) only[g4,g5,n4,n4s,n5,n5s,go_sem]
    refine fin _ _ [.agg [.int .i64 5,.int .i64 0,.str (s.hd L).s,.sl .nil 5 [],.sl .nil 6 []]] (by simp(disch:=first|omega|assumption) only[ir97,zo,zL,go_sem]) (KE.box hb4 _) ?_
    simp[zb,AV.strip,AV.strip1,cV,cVs,cMs,zaG,zV]
 rw[if_neg hkl] at ev
 have hk3:¬ ((s.hd L).k=3):=fun h=>hkl (.inl h)
 have hk4:¬ ((s.hd L).k=4):=fun h=>hkl (.inr (.inl h))
 have hk5:¬ ((s.hd L).k=5):=fun h=>hkl (.inr (.inr (.inl h)))
 have hk2:¬ ((s.hd L).k=2):=fun h=>hkl (.inr (.inr (.inr h)))
 simp(disch:=first|omega|assumption) only[hk3,hk4,hk5,hk2,g5,go_sem]
 refine zc (zaJ hl K2.here [36]) fun v H1 ⟨hv,hH⟩=>?_
 subst hv;subst hH
 by_cases hvv:isS L [36] s=true∧fixed=false
 ·obtain⟨hdl,hfx⟩:=hvv
  subst hfx
  rw[hdl] at ev
  have e:ZE L false k s=zaG L s:=ev
  rw[e] at hQ
  have fin:=KB.done hQ
  rw[hdl]
  simp(disch:=first|omega|assumption) only[go_sem]
  refine zc (y0 hl K2.here _) fun v H2 ⟨hv,h2⟩=>?_
  subst hv
  have K3:=K2.step h2
  have g24:=oth h2 n4 g4
  simp(disch:=first|omega|assumption) only[go_sem]
  refine zc (Zb hl K3.here) fun v H3 ⟨hv,h3⟩=>?_
  subst hv
  have KE:=K3.step h3
  have g34:=oth h3 n4 g24
  simp(disch:=first|omega|assumption) only[g34,go_sem]
  refine fin _ _ [.agg [.int .i64 8,.int .i64 0,.str (zg L (zj L [36] s)).1,.sl .nil 5 [],.sl .nil 6 []]] (by simp(disch:=first|omega|assumption) only[ir97,zo,zL,go_sem]) (KE.box hb4 _) ?_
  simp[zb,AV.strip,AV.strip1,cV,cVs,cMs,zaG,zV]
 have ev2:ZE L fixed k s=if isS L [91] s then zrE L fixed k s else if isS L [123] s then mpS L fixed k s else (zV,yV 2 s):=by
  rw[ev,if_neg]
  intro h
  simp only[Al0,Bool.not_eq_true'] at h
  exact hvv h
 have hvc:(isS L [36] s=true∧fixed=true)∨isS L [36] s=false:=by
  cases h:isS L [36] s with
  | false=>exact .inr rfl
  | true =>
   cases fixed with
   | true=>exact .inl ⟨rfl,rfl⟩
   | false=>exact absurd ⟨h,rfl⟩ hvv
 clear ev hvv
 rcases hvc with ⟨hdl,hfx⟩|hdl<;>rw[hdl]
 have hnf:(!fixed)=false:=by rw[hfx];rfl
 simp(disch:=first|omega|assumption) only[hnf,go_sem]
 rotate_left
 simp(disch:=first|omega|assumption) only[go_sem]
 all_goals
  refine zc (zaJ hl K2.here [91]) fun v H1 ⟨hv,hH⟩=>?_
  subst hv;subst hH
  cases hb:isS L [91] s with
  | true =>
   rw[hb,if_pos rfl] at ev2
   simp(disch:=first|omega|assumption) only[go_sem]
   refine zh fun b8 hb8=>?_
   have hb8H:=K2.none hb8
   have n8:=K0.ne hb8H
   have h84:b8≠b4:=fun e=>by subst e;rw[g4] at hb8;cases hb8
   simp(disch:=first|omega|assumption) only[go_sem]
   refine zc (zkW hl (K2.box hb8H _).here _) fun v H2 ⟨hv,h2⟩=>?_
   subst hv
   have K3:=(K2.box hb8H _).step h2
   have g8:=oth h2 n8 (upd_same ..)
   have g4:=oth h2 n4 ((upd_ne (Ne.symm h84)).trans g4)
   by_cases he:(yI L [91] s).e=0
   ·obtain⟨n,rfl,hdp⟩:=ziI hk hd he
    obtain⟨R,hR⟩:∃ R,yT L [93] false (ZE L fixed n) (L.length+2) [] (yI L [91] s)=R:=⟨_,rfl⟩
    have eR:ZE L fixed (n+1) s=(.mk 6 0 [] R.1 [],YC L [93] R.2):=by rw[ev2,← hR];rfl
    have hs:=zcL hn fixed n (by omega)
    have hlt:=(y8 fixed n).lt (by decide)
    simp(disch:=first|omega|assumption) only[go_sem]
    refine zI (fun x:Own×List Val×St=>[]) (fun x H'=>KBO H r (poc L x.2.2) H' x.1 x.2.1.length 5∧H' b8=some (.cells [.int .i64 6,.int .i64 0,.str [],.sl x.1 5 (cVs x.2.1),.sl .nil 6 []])∧H' b4=some (.cells zB5)∧LI L [93] false (ZE L fixed n) (16-(n:Int)) R x.2.1 x.2.2) (fun x=>mS L x.2.2) (.nil,[],yI L [91] s) (by simp(disch:=first|omega|assumption) only[go_sem]) ⟨⟨K3,rfl,nofun⟩,g8,g4,LI.start (fun _=>hdp) hR⟩ ?_
    rintro⟨o,l,u⟩ H3 J ⟨K3,g8,g4,I3⟩ hJ
    simp only at K3 g8 g4 I3
    have gr:=K3.here
    simp only[poc] at gr
    simp only[zB5] at g4
    have hcl:=zfS l
    by_cases hue:u.e=0
    case neg =>
     simp(disch:=first|omega|assumption) only[gr,hue,go_sem]
     have e1:=I3.stop (by (exact fun h=>hue h.1))
     rw[e1] at eR
     try simp(disch:=first|omega|assumption) only[go_sem]
     refine zc (zbP hl K3.here [93]) fun v H4 ⟨hv,h4⟩=>?_
     subst hv
     have K4:=K3.toKB.step h4
     have g48:=oth h4 n8 g8
     have g44:=oth h4 n4 g4
     rw[eR] at hQ
     have fin:=KB.done hQ
     simp(disch:=first|omega|assumption) only[g48,g44,h84,Ne.symm h84,go_sem]
     refine fin _ _ [.agg [.int .i64 6,.int .i64 0,.str [],.sl o 5 (cVs l),.sl .nil 6 []]] (by simp(disch:=first|omega|assumption) only[ir97,zo,zL,go_sem]) (K4.box hb4 _) ?_
     simp[zb,AV.strip,AV.strip1,cV,cVs,cMs,zeT]
    simp(disch:=first|omega|assumption) only[gr,hue,go_sem]
    refine zc (zaJ hl K3.here _) fun v H4 ⟨hv,hH⟩=>?_
    subst hv;subst hH
    cases hj:isS L [93] u with
    | true =>
     have e1:=I3.stop (by (rintro⟨_,⟨h,_⟩|h⟩;cases h;rw[hj] at h;cases h))
     rw[e1] at eR
     try simp(disch:=first|omega|assumption) only[go_sem]
     refine zc (zbP hl K3.here [93]) fun v H4 ⟨hv,h4⟩=>?_
     subst hv
     have K4:=K3.toKB.step h4
     have g48:=oth h4 n8 g8
     have g44:=oth h4 n4 g4
     rw[eR] at hQ
     have fin:=KB.done hQ
     simp(disch:=first|omega|assumption) only[g48,g44,h84,Ne.symm h84,go_sem]
     refine fin _ _ [.agg [.int .i64 6,.int .i64 0,.str [],.sl o 5 (cVs l),.sl .nil 6 []]] (by simp(disch:=first|omega|assumption) only[ir97,zo,zL,go_sem]) (K4.box hb4 _) ?_
     simp[zb,AV.strip,AV.strip1,cV,cVs,cMs,zeT]
    | false =>
     obtain⟨I4,hm,hl4⟩:=I3.next ⟨hue,.inr hj⟩ hs hlt
     simp(disch:=first|omega|assumption) only[g8,go_sem]
     refine zc (ih n rfl K3.here I3.dp) fun v H5 ⟨hv,h5⟩=>?_
     subst hv
     have K5:=K3.step h5
     have g85:=oth h5 n8 g8
     have g45:=oth h5 n4 g4
     simp(disch:=first|omega|assumption) only[zH,zt,zl,zG,zu,zm,ya,g85,go_sem]
     refine zE (by rw[hcl];exact K5.own) (by simp only[hcl,Al2,Al3];omega) (by simp only[hcl,Al2,Al3,maxLen];omega) fun o6 H6 hs6=>?_
     have K6:=K5.app (by simpa[hcl] using hs6)
     have g86:=K5.stay hs6 g85
     have g46:=K5.stay hs6 g45
     simp(disch:=first|omega|assumption) only[zH,zt,zl,zG,zu,zm,ya,g86,go_sem]
     refine goJ (hJ (o6,l++[_],_) _ hm ⟨by simpa using K6.box hb8H g86,by rw[upd_same];simp[zcT,y6],by rw[upd_ne (Ne.symm h84)];exact g46,I4⟩) (by simp(disch:=first|omega|assumption) only[go_sem])
   ·have eR:ZE L fixed k s=(.mk 6 0 [] [] [],YC L [93] (yI L [91] s)):=by
     rw[ev2]
     cases k with
     | zero=>rfl
     | succ n=>simp only[zrE,zno];rw[YG he]
    rw[eR] at hQ
    have fin:=KB.done hQ
    simp(disch:=first|omega|assumption) only[go_sem]
    refine zI (fun x:Unit=>[]) (fun x H'=>H'=H2) (fun x=>0) () (by simp(disch:=first|omega|assumption) only[go_sem]) rfl ?_
    rintro _ H3 J hH hJ
    subst hH
    have gr:=K3.here
    simp only[poc] at gr
    simp(disch:=first|omega|assumption) only[gr,he,go_sem]
    refine zc (zbP hl K3.here _) fun v H4 ⟨hv,h4⟩=>?_
    subst hv
    have KE:=K3.step h4
    have g48:=oth h4 n8 g8
    have g44:=oth h4 n4 g4
    simp(disch:=first|omega|assumption) only[g48,g44,h84,Ne.symm h84,go_sem]
    refine fin _ _ [.agg [.int .i64 6,.int .i64 0,.str [],.sl .nil 5 [],.sl .nil 6 []]] (by simp(disch:=first|omega|assumption) only[ir97,zo,zL,go_sem]) (KE.box hb4 _) ?_
    simp[zb,AV.strip,AV.strip1,cV,cVs,cMs,zaG,zV]
  | false =>
   rw[hb] at ev2
   simp only[Al7,if_false] at ev2
   simp(disch:=first|omega|assumption) only[go_sem]
   refine zc (zaJ hl K2.here [123]) fun v H1 ⟨hv,hH⟩=>?_
   subst hv;subst hH
   cases hc:isS L [123] s with
   | true =>
    rw[hc,if_pos rfl] at ev2
    simp(disch:=first|omega|assumption) only[go_sem]
    refine zc (zkW hl K2.here _) fun v H2 ⟨hv,h2⟩=>?_
    subst hv
    have K3:=K2.step h2
    have g4:=oth h2 n4 g4
    simp(disch:=first|omega|assumption) only[go_sem]
    refine zh fun b8 hb8=>?_
    have hb8H:=K3.none hb8
    have n8:=K0.ne hb8H
    have h84:b8≠b4:=fun e=>by subst e;rw[g4] at hb8;cases hb8
    by_cases he:(yI L [123] s).e=0
    ·obtain⟨n,rfl,hdp⟩:=ziI hk hd he
     obtain⟨R,hR⟩:∃ R,yT L [125] false (ZS L (ZE L fixed n)) (L.length+2) [] (yI L [123] s)=R:=⟨_,rfl⟩
     have eR:ZE L fixed (n+1) s=(.mk 7 0 [] [] R.1,YC L [125] R.2):=by rw[ev2,← hR];rfl
     have hs:=zaZ (zcL hn fixed n (by omega))
     have hlt:=(yQ (y8 fixed n)).lt (by decide)
     simp(disch:=first|omega|assumption) only[go_sem]
     refine zI (fun x:Own×List Mem×St=>[]) (fun x H'=>KBO H r (poc L x.2.2) H' x.1 x.2.1.length 6∧H' b8=some (.cells [.int .i64 7,.int .i64 0,.str [],.sl .nil 5 [],.sl x.1 6 (cMs x.2.1)])∧H' b4=some (.cells zB5)∧LI L [125] false (ZS L (ZE L fixed n)) (16-(n:Int)) R x.2.1 x.2.2) (fun x=>mS L x.2.2) (.nil,[],yI L [123] s) (by simp(disch:=first|omega|assumption) only[go_sem]) ⟨⟨K3.box hb8H _,rfl,nofun⟩,upd_same ..,(upd_ne (Ne.symm h84)).trans g4,LI.start (fun _=>hdp) hR⟩ ?_
     rintro⟨o,l,u⟩ H3 J ⟨K3,g8,g4,I3⟩ hJ
     simp only at K3 g8 g4 I3
     have gr:=K3.here
     simp only[poc] at gr
     simp only[zB5] at g4
     have hcl:=zcS l
     by_cases hue:u.e=0
     case neg =>
      simp(disch:=first|omega|assumption) only[gr,hue,go_sem]
      have e1:=I3.stop (by (exact fun h=>hue h.1))
      rw[e1] at eR
      try simp(disch:=first|omega|assumption) only[go_sem]
      refine zc (zbP hl K3.here [125]) fun v H4 ⟨hv,h4⟩=>?_
      subst hv
      have K4:=K3.toKB.step h4
      have g48:=oth h4 n8 g8
      have g44:=oth h4 n4 g4
      rw[eR] at hQ
      have fin:=KB.done hQ
      simp(disch:=first|omega|assumption) only[g48,g44,h84,Ne.symm h84,go_sem]
      refine fin _ _ [.agg [.int .i64 7,.int .i64 0,.str [],.sl .nil 5 [],.sl o 6 (cMs l)]] (by simp(disch:=first|omega|assumption) only[ir97,zo,zL,go_sem]) (K4.box hb4 _) ?_
      simp[zb,AV.strip,AV.strip1,cV,cVs,cMs,zaz]
     simp(disch:=first|omega|assumption) only[gr,hue,go_sem]
     refine zc (zaJ hl K3.here _) fun v H4 ⟨hv,hH⟩=>?_
     subst hv;subst hH
     cases hj:isS L [125] u with
     | true =>
      have e1:=I3.stop (by (rintro⟨_,⟨h,_⟩|h⟩;cases h;rw[hj] at h;cases h))
      rw[e1] at eR
      try simp(disch:=first|omega|assumption) only[go_sem]
      refine zc (zbP hl K3.here [125]) fun v H4 ⟨hv,h4⟩=>?_
      subst hv
      have K4:=K3.toKB.step h4
      have g48:=oth h4 n8 g8
      have g44:=oth h4 n4 g4
      rw[eR] at hQ
      have fin:=KB.done hQ
      simp(disch:=first|omega|assumption) only[g48,g44,h84,Ne.symm h84,go_sem]
      refine fin _ _ [.agg [.int .i64 7,.int .i64 0,.str [],.sl .nil 5 [],.sl o 6 (cMs l)]] (by simp(disch:=first|omega|assumption) only[ir97,zo,zL,go_sem]) (K4.box hb4 _) ?_
      simp[zb,AV.strip,AV.strip1,cV,cVs,cMs,zaz]
     | false =>
      obtain⟨I4,hm,hl4⟩:=I3.next ⟨hue,.inr hj⟩ hs hlt
      simp(disch:=first|omega|assumption) only[g8,go_sem]
      refine zc (zgn hl (ih n rfl) K3.here I3.dp) fun v H5 ⟨hv,h5⟩=>?_
      subst hv
      have K5:=K3.step h5
      have g85:=oth h5 n8 g8
      have g45:=oth h5 n4 g4
      simp(disch:=first|omega|assumption) only[zH,zt,zl,zG,zu,zm,ya,g85,go_sem]
      refine zE (by rw[hcl];exact K5.own) (by simp only[hcl,Al2,Al3];omega) (by simp only[hcl,Al2,Al3,maxLen];omega) fun o6 H6 hs6=>?_
      have K6:=K5.app (by simpa[hcl] using hs6)
      have g86:=K5.stay hs6 g85
      have g46:=K5.stay hs6 g45
      simp(disch:=first|omega|assumption) only[zH,zt,zl,zG,zu,zm,ya,g86,go_sem]
      refine goJ (hJ (o6,l++[_],_) _ hm ⟨by simpa using K6.box hb8H g86,by rw[upd_same];simp[zam,zaO],by rw[upd_ne (Ne.symm h84)];exact g46,I4⟩) (by simp(disch:=first|omega|assumption) only[go_sem])
    ·have eR:ZE L fixed k s=(.mk 7 0 [] [] [],YC L [125] (yI L [123] s)):=by
      rw[ev2]
      cases k with
      | zero=>rfl
      | succ n=>simp only[mpS,zsq];rw[YG he]
     rw[eR] at hQ
     have fin:=KB.done hQ
     simp(disch:=first|omega|assumption) only[go_sem]
     refine zI (fun x:Unit=>[]) (fun x H'=>H'=H2.upd b8 (.cells [.int .i64 7,.int .i64 0,.str [],.sl .nil 5 [],.sl .nil 6 []])) (fun x=>0) () (by simp(disch:=first|omega|assumption) only[go_sem]) rfl ?_
     rintro _ H3 J hH hJ
     have K3:=K3.box hb8H (.cells [.int .i64 7,.int .i64 0,.str [],.sl .nil 5 [],.sl .nil 6 []])
     rw[← hH] at K3
     have g8:H3 b8=some (.cells [.int .i64 7,.int .i64 0,.str [],.sl .nil 5 [],.sl .nil 6 []]):=by rw[hH,upd_same]
     have g4:H3 b4=some (.cells zB5):=by rw[hH,upd_ne (Ne.symm h84),g4]
     have gr:=K3.here
     simp only[poc] at gr
     simp(disch:=first|omega|assumption) only[gr,he,go_sem]
     refine zc (zbP hl K3.here _) fun v H4 ⟨hv,h4⟩=>?_
     subst hv
     have KE:=K3.step h4
     have g48:=oth h4 n8 g8
     have g44:=oth h4 n4 g4
     simp(disch:=first|omega|assumption) only[g48,g44,h84,Ne.symm h84,go_sem]
     refine fin _ _ [.agg [.int .i64 7,.int .i64 0,.str [],.sl .nil 5 [],.sl .nil 6 []]] (by simp(disch:=first|omega|assumption) only[ir97,zo,zL,go_sem]) (KE.box hb4 _) ?_
     simp[zb,AV.strip,AV.strip1,cV,cVs,cMs,zaG,zV]
   | false =>
    rw[hc] at ev2
    simp only[Al7,if_false] at ev2
    rw[ev2] at hQ
    have fin:=KB.done hQ
    simp(disch:=first|omega|assumption) only[go_sem]
    refine zc (zfu K2.here 2) fun v H2 ⟨hv,h2⟩=>?_
    subst hv
    have KE:=K2.step h2
    have g24:=oth h2 n4 g4
    simp(disch:=first|omega|assumption) only[g24,go_sem]
    refine fin _ _ [.agg [.int .i64 0,.int .i64 0,.str [],.sl .nil 5 [],.sl .nil 6 []]] (by simp(disch:=first|omega|assumption) only[ir97,zo,zL,go_sem]) (KE.box hb4 _) ?_
    simp[zb,AV.strip,AV.strip1,cV,cVs,cMs,zaG,zV]
theorem zeu {L:TS} {r:Nat} (hl:wT L≤z1) (hn:∀ x∈L,Zh x) (fixed:Bool):∀ k,k≤16→zqt L r fixed k
 | 0,h=>zjr hl hn fixed 0 h fun n e=>nomatch e
 | k+1,h=>zjr hl hn fixed (k+1) h fun n e=>by
  obtain rfl:n=k:=by omega
  exact zeu hl hn fixed _ (by omega)
theorem zkH {L:TS} {H:za} {r:Nat} {s:St} {fixed:Bool} {k:Nat} (hl:wT L≤z1) (hn:∀ x∈L,Zh x) (hk:k≤16) (hr:H r=some (poc L s)) (hd:s.e=0→s.dp=16-(k:Int)) :
  zf Tryz.prog 259 [.ptr r 0,.bool fixed] H (PQ H r L (.sl .no 6 (cMs (yn L fixed k s).1)) (yn L fixed k s).2):=by
 refine zf.go ir259 ck259 (Al4 _) fun KP Q hQ=>?_
 have hll:L.length≤z1:=Nat.le_trans (ZH L) hl
 simp only[z1] at hll
 have K0:=KB.start hr
 simp(disch:=first|omega|assumption) only[ir259,go_sem]
 refine zc (zaJ hl hr _) fun v H1 ⟨hv,hH⟩=>?_
 subst hv;subst hH
 cases hi:isS L [40] s with
 | false =>
  have e:yn L fixed k s=([],s):=by simp[yn,hi]
  rw[e] at hQ
  have fin:=KB.done hQ
  simp(disch:=first|omega|assumption) only[go_sem]
  exact fin _ _ [.sl .nil 6 []] rfl K0 (by simp[zb,ze,AV.strip,AV.strip1,cMs])
 | true =>
  obtain⟨R,hR⟩:∃ R,yT L [41] true (ZS L (ZE L fixed k)) (L.length+2) [] (zj L [40] s)=R:=⟨_,rfl⟩
  have eR:yn L fixed k s=(R.1,zj L [41] R.2):=by rw[← hR];simp[yn,hi]
  have hs:=zaZ (zcL hn fixed k hk)
  have hlt:=(yQ (y8 fixed k)).lt (by decide)
  simp(disch:=first|omega|assumption) only[go_sem]
  refine zc (y0 hl hr _) fun v H2 ⟨hv,h2⟩=>?_
  subst hv
  have K2:=K0.step h2
  simp(disch:=first|omega|assumption) only[go_sem]
  refine zI (fun x:Own×List Mem×St=>[(5,.sl x.1 6 (cMs x.2.1))]) (fun x H'=>KBO H1 r (poc L x.2.2) H' x.1 x.2.1.length 6∧LI L [41] true (ZS L (ZE L fixed k)) (16-(k:Int)) R x.2.1 x.2.2) (fun x=>mS L x.2.2) (.nil,[],zj L [40] s) (by simp(disch:=first|omega|assumption) only[cMs,List.map_nil,go_sem]) ⟨⟨K2,rfl,nofun⟩,LI.start (Yf hd) hR⟩ ?_
  rintro⟨o,l,u⟩ H3 J ⟨K3,I3⟩ hJ
  simp only at K3 I3
  have gr:=K3.here
  simp only[poc] at gr
  have hcl:=zcS l
  by_cases hue:u.e=0
  case neg =>
   simp(disch:=first|omega|assumption) only[gr,hue,go_sem]
   have e1:=I3.stop (by (exact fun h=>hue h.1))
   rw[e1] at eR
   try simp(disch:=first|omega|assumption) only[go_sem]
   refine zc (y0 hl K3.here _) fun v H4 ⟨hv,h4⟩=>?_
   subst hv
   rw[eR] at hQ
   have fin:=KB.done hQ
   simp(disch:=first|omega|assumption) only[go_sem]
   refine fin _ _ [.sl o 6 (cMs l)] rfl (K3.toKB.step h4) ?_
   simp[zb,AV.strip,AV.strip1,zaz]
  by_cases hz:l.length=0
  ·have hz':((l.length:Int)=0)=True:=eq_true (by omega)
   simp(disch:=first|omega|assumption) only[gr,hue,hcl,hz',go_sem]
   obtain⟨I4,hm,hl4⟩:=I3.next ⟨hue,(.inl ⟨rfl,hz⟩)⟩ hs hlt
   try simp(disch:=first|omega|assumption) only[go_sem]
   refine zc (zgn hl (zeu hl hn fixed k hk) K3.here I3.dp) fun v H5 ⟨hv,h5⟩=>?_
   subst hv
   have K5:=K3.step h5
   simp(disch:=first|omega|assumption) only[zH,zt,zl,zG,zu,zm,ya,zG,go_sem]
   refine zE (by rw[hcl];exact K5.own) (by simp only[hcl,Al2,Al3];omega) (by simp only[hcl,Al2,Al3,maxLen];omega) fun o6 H6 hs6=>?_
   have K6:=K5.app (by simpa[hcl] using hs6)
   simp(disch:=first|omega|assumption) only[zH,zt,zl,zG,zu,zm,ya,zG,go_sem]
   refine goJ (hJ (o6,l++[_],_) _ hm ⟨by simpa using K6,I4⟩) (by simp(disch:=first|omega|assumption) only[zH,zt,zl,zG,zu,zm,ya,zam,List.map_append,List.map_cons,List.map_nil,zaO,go_sem])
  ·have hz':¬ ((l.length:Int)=0):=by omega
   simp(disch:=first|omega|assumption) only[gr,hue,hcl,hz',go_sem]
   refine zc (zaJ hl K3.here _) fun v H4 ⟨hv,hH⟩=>?_
   subst hv;subst hH
   cases hj:isS L [41] u with
   | true =>
    have e1:=I3.stop (by (rintro⟨_,⟨_,h⟩|h⟩;exact hz h;rw[hj] at h;cases h))
    rw[e1] at eR
    try simp(disch:=first|omega|assumption) only[go_sem]
    refine zc (y0 hl K3.here _) fun v H4 ⟨hv,h4⟩=>?_
    subst hv
    rw[eR] at hQ
    have fin:=KB.done hQ
    simp(disch:=first|omega|assumption) only[go_sem]
    refine fin _ _ [.sl o 6 (cMs l)] rfl (K3.toKB.step h4) ?_
    simp[zb,AV.strip,AV.strip1,zaz]
   | false =>
    obtain⟨I4,hm,hl4⟩:=I3.next ⟨hue,(.inr hj)⟩ hs hlt
    try simp(disch:=first|omega|assumption) only[go_sem]
    refine zc (zgn hl (zeu hl hn fixed k hk) K3.here I3.dp) fun v H5 ⟨hv,h5⟩=>?_
    subst hv
    have K5:=K3.step h5
    simp(disch:=first|omega|assumption) only[zH,zt,zl,zG,zu,zm,ya,zG,go_sem]
    refine zE (by rw[hcl];exact K5.own) (by simp only[hcl,Al2,Al3];omega) (by simp only[hcl,Al2,Al3,maxLen];omega) fun o6 H6 hs6=>?_
    have K6:=K5.app (by simpa[hcl] using hs6)
    simp(disch:=first|omega|assumption) only[zH,zt,zl,zG,zu,zm,ya,zG,go_sem]
    refine goJ (hJ (o6,l++[_],_) _ hm ⟨by simpa using K6,I4⟩) (by simp(disch:=first|omega|assumption) only[zH,zt,zl,zG,zu,zm,ya,zam,List.map_append,List.map_cons,List.map_nil,zaO,go_sem])
theorem zaB {L:TS} {H:za} {r:Nat} {s:St} {fixed:Bool} {k:Nat} (hl:wT L≤z1) (hn:∀ x∈L,Zh x) (hk:k≤16) (hr:H r=some (poc L s)) (hd:s.e=0→s.dp=16-(k:Int)) :
  zf Tryz.prog 172 [.ptr r 0,.bool fixed] H (PQ H r L (.sl .no 2 (cDs (z6 L fixed k s).1)) (z6 L fixed k s).2):=by
 refine zf.go ir172 ck172 (Al4 _) fun KP Q hQ=>?_
 have hll:L.length≤z1:=Nat.le_trans (ZH L) hl
 simp only[z1] at hll
 have K0:=KB.start hr
 obtain⟨R,hR⟩:∃ R,zae L [64] (zle L fixed k) (L.length+2) [] s=R:=⟨_,rfl⟩
 have eR:z6 L fixed k s=R:=hR
 have hs:=zkl hn fixed k hk
 have hlt:=(zcc fixed k).lt (by decide)
 simp(disch:=first|omega|assumption) only[ir172,go_sem]
 refine zI (fun x:Own×List DirD×St=>[(5,.sl x.1 2 (cDs x.2.1))]) (fun x H'=>KBO H r (poc L x.2.2) H' x.1 x.2.1.length 2∧WI L [64] (zle L fixed k) (16-(k:Int)) R x.2.1 x.2.2) (fun x=>mS L x.2.2) (.nil,[],s) (by simp(disch:=first|omega|assumption) only[zeN,List.map_nil,go_sem]) ⟨⟨K0,rfl,nofun⟩,WI.start hd hR⟩ ?_
 rintro⟨o,l,u⟩ H3 J ⟨K3,I3⟩ hJ
 simp only at K3 I3
 have hcl:=zfT l
 simp(disch:=first|omega|assumption) only[go_sem]
 refine zc (zaJ hl K3.here _) fun v H4 ⟨hv,hH⟩=>?_
 subst hv;subst hH
 cases hj:isS L [64] u with
 | false =>
  have e1:=I3.stop hj
  rw[eR,e1] at hQ
  have fin:=KB.done hQ
  simp(disch:=first|omega|assumption) only[go_sem]
  refine fin _ _ [.sl o 2 (cDs l)] rfl K3.toKB ?_
  simp[zb,AV.strip,AV.strip1,zeN,zjE]
 | true =>
  obtain⟨I4,hm,hl4⟩:=I3.next hj hs hlt
  simp(disch:=first|omega|assumption) only[go_sem]
  refine zc (y0 hl K3.here _) fun v H5 ⟨hv,h5⟩=>?_
  subst hv
  have K5:=K3.step h5
  simp(disch:=first|omega|assumption) only[go_sem]
  refine zc (Zb hl K5.here) fun v H6 ⟨hv,h6⟩=>?_
  subst hv
  have K6:=K5.step h6
  simp(disch:=first|omega|assumption) only[go_sem]
  refine zh fun b6 hb6=>?_
  have hb6H:=K6.toKB.none hb6
  have n6:=K0.ne hb6H
  simp(disch:=first|omega|assumption) only[go_sem]
  have K7:=K6.new hb6 (.cells [.str (zg L (zj L [64] u)).1,.sl .nil 6 []])
  refine zc (zkH (k:=k) hl hn hk K7.here (y5 (Yf I3.dp))) fun v H7 ⟨hv,h7⟩=>?_
  subst hv
  have K8:=K7.step h7
  have g7:=oth h7 n6 (upd_same ..)
  simp(disch:=first|omega|assumption) only[zH,zt,zl,zG,zu,zm,ya,g7,go_sem]
  have K9:=K8.box (cs':=[.str (zg L (zj L [64] u)).1,.sl .no 6 (cMs (yn L fixed k (zg L (zj L [64] u)).2).1)]) hb6H g7
  refine zE (by rw[hcl];exact K9.own) (by simp only[hcl,Al2,Al3];omega) (by simp only[hcl,Al2,Al3,maxLen];omega) fun o9 H9 hs9=>?_
  have KA:=K9.app (by simpa[hcl] using hs9)
  simp(disch:=first|omega|assumption) only[zH,zt,zl,zG,zu,zm,ya,go_sem]
  refine goJ (hJ (o9,l++[_],_) _ hm ⟨by simpa[zle] using KA,I4⟩) (by simp(disch:=first|omega|assumption) only[zeN,cD,zle,List.map_append,List.map_cons,List.map_nil,go_sem])
end Go.Proofs.YticbbfbpeimkbaaGreatDoor
