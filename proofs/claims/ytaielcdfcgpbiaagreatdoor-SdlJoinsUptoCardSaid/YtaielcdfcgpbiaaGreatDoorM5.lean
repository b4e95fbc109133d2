import Derived.Shelf.Strings.IndexAnyAll
import Derived.Shelf.Small.Utf8
import Derived.Laws.RangeAny
import Derived.Laws.Runes
import Derived.WalkMore
import Derived.Shelf.RegionOpenPlain
import Derived.BigQuiet
import Derived.Test.YtaielcdfcgpbiaaGreatDoorM1
import Derived.Test.YtaielcdfcgpbiaaGreatDoorM2
import Derived.Test.YtaielcdfcgpbiaaGreatDoorM3
import Derived.Test.YtaielcdfcgpbiaaGreatDoorM4
set_option maxRecDepth 100000
set_option linter.all false
namespace Go.Proofs.YtaielcdfcgpbiaaGreatDoor
open Go.Ab Go.Lib
theorem yY:∀(p s t:List UInt8),(∀ x∈p,x≠10)→p.isPrefixOf (s++10::t)=p.isPrefixOf s
 | [],s,t,_=>by cases s<;>simp
 | x::p,[],t,h=>by
  have h1:=h x (.head _)
  simp[List.isPrefixOf,h1]
 | x::p,c::s,t,h=>by
  simp only[Al6,List.isPrefixOf]
  rw[yY p s t fun y hy=>h y (.tail _ hy)]
theorem yq:∀(p s:List UInt8),p.isPrefixOf s=true→p.length≤s.length
 | [],s,_=>Nat.zero_le _
 | x::p,[],h=>by simp[List.isPrefixOf] at h
 | x::p,c::s,h=>by
  simp only[List.isPrefixOf,Al0] at h
  have:=yq p s h.2
  simp only[Al2];omega
theorem zg2 (t:List UInt8):zbk (10::t):=.inr ⟨10,t,rfl,.inr rfl⟩
theorem zbb:∀(n:Nat) (raw s:List UInt8) (b s':List UInt8),yv n raw s=some (b,s')→s'.length<s.length∧∀(m:Nat) (t:List UInt8),n≤m→yv m raw (s++10::t)=some (b,s'++10::t)
 | 0,_,_,_,_,h=>by cases h
 | n+1,raw,[],_,_,h=>by simp[yv] at h
 | n+1,raw,c::r,b,s',h=>by
  simp only[yv] at h
  by_cases h1:zM.isPrefixOf (c::r)=true
  ·rw[if_pos h1] at h
   have hl:=yq _ _ h1
   simp only[zM,Al2,Al3] at hl
   simp only[Al1,Al8] at h
   obtain⟨rfl,rfl⟩:=h
   refine⟨by simp;omega,fun m t hm=>?_⟩
   obtain⟨k,rfl⟩:∃ k,m=k+1:=⟨m-1,by omega⟩
   have e:=yY zM (c::r) t (by decide)
   rw[Al6] at e
   simp only[yv,Al6]
   rw[e,if_pos h1,zao (by omega)]
  ·rw[if_neg h1] at h
   by_cases h2:zcF.isPrefixOf (c::r)=true
   ·rw[if_pos h2] at h
    have hl:=yq _ _ h2
    simp only[zcF,Al2,Al3] at hl
    obtain⟨g1,g2⟩:=zbb n _ _ _ _ h
    refine⟨by simp at g1 ⊢;omega,fun m t hm=>?_⟩
    obtain⟨k,rfl⟩:∃ k,m=k+1:=⟨m-1,by omega⟩
    have e:=yY zM (c::r) t (by decide)
    have e2:=yY zcF (c::r) t (by decide)
    rw[Al6] at e e2
    simp only[yv,Al6]
    rw[e,if_neg h1,e2,if_pos h2,zao (by omega)]
    exact g2 k t (by omega)
   ·rw[if_neg h2] at h
    obtain⟨g1,g2⟩:=zbb n _ _ _ _ h
    refine⟨by simp;omega,fun m t hm=>?_⟩
    obtain⟨k,rfl⟩:∃ k,m=k+1:=⟨m-1,by omega⟩
    have e:=yY zM (c::r) t (by decide)
    have e2:=yY zcF (c::r) t (by decide)
    rw[Al6] at e e2
    simp only[yv,Al6]
    rw[e,if_neg h1,e2,if_neg h2]
    exact g2 k t (by omega)
theorem zbA:∀(n:Nat) (s:List UInt8) (u v:Nat) (t:List UInt8),Za n s u=some v→n≤s.length∧Za n (s++t) u=some v
 | 0,s,u,v,t,h=>by
  simp only[Za] at h ⊢
  exact⟨Nat.zero_le _,h⟩
 | n+1,[],u,v,t,h=>by simp[Za] at h
 | n+1,c::s,u,v,t,h=>by
  simp only[Za,Al6] at h ⊢
  cases hx:hexD c with
  | none=>rw[hx] at h;cases h
  | some k =>
   rw[hx] at h
   simp only at h ⊢
   have:=zbA n s _ v t h
   exact⟨by simp;omega,this.2⟩
theorem zfG {q q':Sd} {s s':List UInt8} (t:List UInt8) (h:ZR q s=some (q',s')):ZR q (s++t)=some (q',s'++t):=by
 cases s with
 | nil=>cases h
 | cons c r =>
  simp only[ZR,Al6] at h ⊢
  by_cases h1:c=117
  ·rw[if_pos h1] at h ⊢
   cases hu:ZC r with
   | none=>rw[hu] at h;cases h
   | some u =>
    obtain⟨g1,g2⟩:=zbA 4 r 0 u t hu
    rw[hu] at h
    simp only[zQ,Al1,Al8] at h
    obtain⟨rfl,rfl⟩:=h
    rw[ZC,g2]
    simp only[zQ,Al1,Al8,true_and]
    exact zao g1
  ·rw[if_neg h1] at h ⊢
   split at h
   ·cases h
   ·rename_i h2
    rw[if_neg h2]
    simp only[Al1,Al8] at h ⊢
    obtain⟨rfl,rfl⟩:=h
    exact⟨rfl,rfl⟩
theorem zbd {may:UInt8→Bool} (t:List UInt8):∀(n:Nat) (s:List UInt8) (q q':Sd) (s':List UInt8),YR may n s q=some (q',s')→∀ m,n≤m→YR may m (s++t) q=some (q',s'++t)
 | 0,_,_,_,_,h=>by cases h
 | n+1,[],_,_,_,h=>by cases h
 | n+1,c::s,q,q',s',h=>fun m hm=>by
  obtain⟨k,rfl⟩:∃ k,m=k+1:=⟨m-1,by omega⟩
  simp only[YR,Al6] at h ⊢
  by_cases h1:c=34
  ·rw[if_pos h1] at h ⊢
   simp only[Al1,Al8] at h ⊢
   exact⟨h.1,by rw[h.2]⟩
  rw[if_neg h1] at h ⊢
  by_cases h2:c=92
  ·rw[if_pos h2] at h ⊢
   cases he:ZR q s with
   | none=>rw[he] at h;cases h
   | some x =>
    rw[he] at h
    rw[zfG t (q':=x.1) (s':=x.2) he]
    exact zbd t n _ _ _ _ h k (by omega)
  rw[if_neg h2] at h ⊢
  split at h
  ·rename_i h3
   rw[if_pos h3]
   exact zbd t n _ _ _ _ h k (by omega)
  ·cases h
theorem zfv {may:UInt8→Bool} {s s' b:List UInt8} (t:List UInt8) (h:Zp may s=some (b,s')):Zp may (s++t)=some (b,s'++t):=by
 unfold Zp at h ⊢
 cases hq:YR may (s.length+1) s ⟨[],[],true⟩ with
 | none=>rw[hq] at h;cases h
 | some x =>
  rw[hq] at h
  rw[zbd t _ _ _ x.1 x.2 hq _ (by simp)]
  simp only at h ⊢
  split at h
  ·rename_i h1
   simp only[Al1,Al8] at h
   rw[if_pos h1]
   simp[h.1,h.2]
  ·cases h
theorem za9 (s:List UInt8):yc s≤s.length:=by unfold yc;exact(List.takeWhile_sublist _).length_le
theorem zdd (s:List UInt8):(yb s).1≤s.length:=by
 unfold yb
 split
 ·simp
 ·have h1:=Y2 s
  have h2:=zcW (s.drop (zk s))
  have h3:=zb9 (s.drop (zk s+yf (s.drop (zk s))))
  simp only[yQ] at h2 h3
  simp only;omega
theorem zcN {s s':List UInt8} {x:Tok} (h:yl s=some (x,s')) (t:List UInt8):s'.length<s.length∧yl (s++10::t)=some (x,s'++10::t):=by
 cases s with
 | nil=>cases h
 | cons c r =>
  have e3:=yY zM (c::r) t (by decide)
  have ed:=yY Zy (c::r) t (by decide)
  rw[Al6] at e3 ed
  have hw:=zex (c::r) (zg2 t)
  have hn:=zf2 (a:=c::r) (zg2 t)
  simp only[yl] at h
  simp only[yl,Al6]
  rw[e3,ed]
  by_cases h1:zM.isPrefixOf (c::r)=true
  ·rw[if_pos h1] at h ⊢
   have hl:=yq _ _ h1
   simp only[zM,Al2,Al3] at hl
   cases hr:yv (r.length+1) [] (r.drop 2) with
   | none=>rw[hr] at h;cases h
   | some y =>
    rw[hr] at h
    simp only[zQ,Al1,Al8] at h
    obtain⟨rfl,rfl⟩:=h
    obtain⟨g1,g2⟩:=zbb _ _ _ y.1 y.2 hr
    simp only[yQ] at g1
    rw[zao (by omega),g2 _ t (by simp)]
    exact⟨by simp only[Al2];omega,rfl⟩
  rw[if_neg h1] at h ⊢
  by_cases h2:c=34
  ·rw[if_pos h2] at h ⊢
   cases hr:Zp Zn r with
   | none=>rw[hr] at h;cases h
   | some y =>
    rw[hr] at h
    simp only[zQ,Al1,Al8] at h
    obtain⟨rfl,rfl⟩:=h
    have g1:=zcP (t':=y.2) (b:=y.1) hr
    rw[zfv (10::t) (b:=y.1) (s':=y.2) hr]
    exact⟨by simp only[Al2];omega,rfl⟩
  rw[if_neg h2] at h ⊢
  by_cases h3:Zy.isPrefixOf (c::r)=true
  ·rw[if_pos h3] at h ⊢
   have hl:=yq _ _ h3
   simp only[Zy,Al2,Al3] at hl
   simp only[Al1,Al8] at h ⊢
   obtain⟨rfl,rfl⟩:=h
   exact⟨by simp;omega,rfl,zao (by omega)⟩
  rw[if_neg h3] at h ⊢
  by_cases h4:0≤Lib.indexByte Yw c
  ·rw[if_pos h4] at h ⊢
   simp only[Al1,Al8] at h ⊢
   obtain⟨rfl,rfl⟩:=h
   exact⟨by simp,rfl,rfl⟩
  rw[if_neg h4] at h ⊢
  by_cases h5:isL c=true
  ·rw[if_pos h5] at h ⊢
   have hl:=za9 (c::r)
   have hp:0<yc (c::r):=by unfold yc;simp[h5]
   simp only[Al1,Al8] at h ⊢
   obtain⟨rfl,rfl⟩:=h
   rw[← Al6,hw,List.take_append_of_le_length hl,zao hl]
   exact⟨by rw[yQ];simp only[Al2] at hl ⊢;omega,rfl,rfl⟩
  rw[if_neg h5] at h ⊢
  rw[← Al6,hn]
  by_cases h6:(yb (c::r)).1=0
  ·rw[if_pos h6] at h;cases h
  rw[if_neg h6] at h ⊢
  have hl:=zdd (c::r)
  rw[List.take_append_of_le_length hl,zao hl]
  have hh:(((c::r).drop (yb (c::r)).1++10::t).head?.any fun d=>isL d||isD d||decide (d=46))=(((c::r).drop (yb (c::r)).1).head?.any fun d=>isL d||isD d||decide (d=46)):=by
   cases (c::r).drop (yb (c::r)).1 with
   | nil=>simp[isL,isD]
   | cons d t=>rfl
  rw[hh]
  split at h
  ·cases h
  ·rename_i h7
   rw[if_neg h7]
   simp only[Al1,Al8] at h ⊢
   obtain⟨rfl,rfl⟩:=h
   exact⟨by rw[yQ];simp only[Al2] at hl ⊢;omega,rfl,rfl⟩
theorem zaw (s:List UInt8):yL s≤s.length:=by
 cases s with
 | nil=>simp[yL]
 | cons c r =>
  simp only[yL]
  split
  ·simp
  ·split
   ·rename_i h;have:=yq _ _ h;simpa[zeO] using this
   ·split
    ·have:=(List.takeWhile_sublist zY (l:=r)).length_le;simp only[Al2];omega
    ·simp
theorem zaM (t:List UInt8):∀ r:List UInt8,(r++10::t).takeWhile zY=r.takeWhile zY
 | []=>by simp[zY]
 | c::r=>by
  simp only[Al6,List.takeWhile_cons]
  split
  ·rw[zaM t r]
  ·rfl
theorem zga {s:List UInt8} (hne:s≠[]) (t:List UInt8):yL (s++10::t)=yL s:=by
 cases s with
 | nil=>exact absurd rfl hne
 | cons c r =>
  have e:=yY zeO (c::r) t (by decide)
  rw[Al6] at e
  simp only[Al6,yL,e,zaM]
theorem Y1 {s s':List UInt8} {x:Tok} (h:yl s=some (x,s')):s'.length<s.length:=(zcN h []).1
theorem y9:∀(n m:Nat) (l:List Tok) (s:List UInt8),s.length<n→s.length<m→yd n l s=yd m l s
 | 0,_,_,_,h,_=>by omega
 | _,0,_,_,_,h=>by omega
 | n+1,m+1,l,s,h1,h2=>by
  simp only[yd]
  split
  ·rfl
  ·rename_i hne
   split
   ·rename_i hg
    have hl:0<s.length:=List.length_pos_iff.2 hne
    exact y9 n m _ _ (by rw[yQ];omega) (by rw[yQ];omega)
   ·cases ho:yl s with
    | none=>rfl
    | some x =>
     have:=Y1 (x:=x.1) (s':=x.2) ho
     exact y9 n m _ _ (by omega) (by omega)
theorem Y6 (t:List UInt8):∀(n:Nat) (l:List Tok) (s:List UInt8) (l':List Tok),yd n l s=.ok l'→∀ m,s.length+t.length+1<m→yd m l (s++10::t)=yd (t.length+1) l' t
 | 0,_,_,_,h=>by cases h
 | n+1,l,s,l',h=>fun m hm=>by
  obtain⟨k,rfl⟩:∃ k,m=k+1:=⟨m-1,by omega⟩
  simp only[yd] at h
  by_cases hne:s=[]
  ·subst hne
   rw[if_pos rfl] at h
   cases h
   rw[YN,yd,if_neg (by simp),if_pos (by simp[yL])]
   have e1:(10::t).drop (yL (10::t))=t:=by simp[yL]
   rw[e1]
   exact y9 _ _ _ _ (by simp at hm;omega) (by omega)
  ·rw[if_neg hne] at h
   rw[yd,if_neg (by simp[hne]),zga hne]
   by_cases hg:yL s≠0
   ·rw[if_pos hg] at h ⊢
    have hl:=zaw s
    rw[zao hl]
    exact Y6 t n _ _ _ h k (by rw[yQ];omega)
   ·rw[if_neg hg] at h ⊢
    cases ho:yl s with
    | none=>rw[ho] at h;cases h
    | some x =>
     rw[ho] at h
     obtain⟨g1,g2⟩:=zcN (x:=x.1) (s':=x.2) ho t
     rw[g2]
     exact Y6 t n _ _ _ h k (by omega)
theorem zaO {s:List UInt8} {l:List Tok} (h:zZ s=.ok l):s.length≤8192∧Yx s=true∧yd (s.length+1) [] s=.ok l:=by
 unfold zZ at h
 split at h
 ·cases h
 ·split at h
  ·rename_i h1 h2;exact⟨by omega,h2,h⟩
  ·cases h
theorem Z7:∀(n:Nat) (l:List Tok) (s:List UInt8),yd n l s=(match yd n [] s with|.ok l'=>.ok (l++l')|.error e=>.error e)
 | 0,_,_=>rfl
 | n+1,l,s=>by
  simp only[yd]
  split
  ·simp
  ·split
   ·exact Z7 n l _
   ·cases ho:yl s with
    | none=>rfl
    | some x =>
     simp only
     rw[Z7 n (l++[x.1]),Z7 n ([]++[x.1])]
     cases yd n [] x.2 with
     | ok l'=>simp
     | error e=>rfl
theorem zeL {s t:List UInt8} {a b:List Tok} (h1:zZ s=.ok a) (h2:zZ t=.ok b) (hl:s.length+t.length+1≤8192):zZ (s++10::t)=.ok (a++b):=by
 obtain⟨_,s1,r1⟩:=zaO h1
 obtain⟨_,s2,r2⟩:=zaO h2
 unfold zZ
 have hs:Yx (s++10::t)=true:=zJ.of _ s (Al4 _) s1 _ (zJ.ascii (b:=10) (by decide) (by decide) t s2)
 rw[if_neg (by simp;omega),hs,if_pos rfl,Y6 t _ _ _ _ r1 _ (by simp),Z7,r2]
theorem zd1:∀(L:List (List UInt8)) (a:Int),(0≤a→YA L a≤a∧0≤YA L a)∧(∀ s∈L,zD s=false→YA L a≤Zd s∧0≤YA L a)
 | [],a=>⟨fun h=>⟨Int.le_refl _,h⟩,fun s hs=>nomatch hs⟩
 | s::r,a=>by
  simp only[YA]
  have ih:=zd1 r
  by_cases hb:zD s=true
  ·rw[if_pos hb]
   refine⟨(ih a).1,fun x hx hxb=>?_⟩
   rcases List.mem_cons.1 hx with rfl|hx
   ·rw[hb] at hxb;cases hxb
   ·exact(ih a).2 x hx hxb
  ·rw[if_neg hb]
   by_cases hc:a<0∨(Zd s:Int)<a
   ·rw[if_pos hc]
    have h1:=(ih (Zd s)).1 (by omega)
    refine⟨fun h=>⟨by omega,h1.2⟩,fun x hx hxb=>?_⟩
    rcases List.mem_cons.1 hx with rfl|hx
    ·exact h1
    ·exact(ih _).2 x hx hxb
   ·rw[if_neg hc]
    have h1:=(ih a).1 (by omega)
    refine⟨fun _=>h1,fun x hx hxb=>?_⟩
    rcases List.mem_cons.1 hx with rfl|hx
    ·exact⟨by omega,h1.2⟩
    ·exact(ih _).2 x hx hxb
theorem zeI {s:List UInt8} (h:zD s=true):Zd s=s.length:=by
 unfold zD at h
 unfold Zd
 rw[zbw s (ZB.1 h)]
end Go.Proofs.YtaielcdfcgpbiaaGreatDoor
namespace Go.Proofs.YtaielcdfcgpbiaaGreatDoor
open Go.Ab
theorem y1 (t:TS):zg t <:+ t∧wT (zg t)≤wT t:=by
 unfold zg
 split
 ·rename_i h
  have:=YD (t:=t) (by rw[h];decide)
  exact⟨this.1,by omega⟩
 ·exact⟨List.suffix_refl _,Al4 _⟩
theorem yN:GP bW wfW 1 z6:=fun t a t' h=>by
 obtain⟨s,t2,h3,h4⟩:=zc h
 obtain⟨_,t3,h5,h6⟩:=zc h4
 obtain⟨ty,t4,h7,h8⟩:=zc h6
 have g0:=y1 t
 have g2:=zu _ _ _ h3
 have g3:=zO _ _ _ _ h5
 have g4:=za2 4 _ _ _ h7
 have w2:=g2.w
 have w3:=g3.w
 have w4:=g4.w
 simp only[b0] at w3
 have hw:=zeh g4.ok
 split at h8
 ·rename_i hp
  have h0:=Zf hp
  obtain⟨v,t5,h9,h10⟩:=zc h8
  cases h10
  have g5:=yB true 16 _ _ _ h9
  have w5:=g5.w
  exact⟨((((g5.suf.trans h0.1).trans g4.suf).trans g3.suf).trans g2.suf).trans g0.1,by simp only[bW];omega,hw.1,hw.2,g5.ok⟩
 ·cases h8
  exact⟨((g4.suf.trans g3.suf).trans g2.suf).trans g0.1,by simp only[bW,zct.1];omega,hw.1,hw.2,zct.2⟩
theorem yH:GP bL wfL 1 yw:=fun t a t' h=>by
 obtain⟨s,t1,h1,h2⟩:=zc h
 obtain⟨ps,t2,h3,h4⟩:=zc h2
 obtain⟨_,t3,h5,h6⟩:=zc h4
 obtain⟨ty,t4,h7,h8⟩:=zc h6
 obtain⟨ds,t5,h9,h10⟩:=zc h8
 cases h10
 have g0:=y1 t
 have g1:=zu _ _ _ h1
 have g2:t2 <:+ t1∧bWs ps+wT t2≤wT t1∧∀ x∈ps,wfW x:=by
  split at h3
  ·rename_i hp
   have h0:=Zf hp
   have g:=Zb yN _ _ _ h3
   have w:=g.w
   have e:=zgh ps
   exact⟨g.suf.trans h0.1,by omega,g.ok⟩
  ·cases h3;exact⟨List.suffix_refl _,by simp[bWs],fun x hx=>(by cases hx)⟩
 have g3:=zO _ _ _ _ h5
 have g4:=za2 4 _ _ _ h7
 have g5:=ze1 true 16 _ _ _ h9
 have w1:=g1.w
 have w3:=g3.w
 have w4:=g4.w
 have w5:=g5.w
 simp only[b0] at w3
 have hw:=zeh g4.ok
 exact⟨((((g5.suf.trans g4.suf).trans g3.suf).trans g2.1).trans g1.suf).trans g0.1,by simp only[bL];omega,g2.2.2,hw.1,hw.2,g5.ok⟩
theorem Yg:GP List.length T1 4 yP:=fun t a t' h=>by
 unfold yP at h
 split at h
 ·cases h
 ·have g0:=y1 t
  have g1:=zu _ _ _ h
  have w1:=g1.w
  exact⟨g1.suf.trans g0.1,by omega,trivial⟩
theorem GP.low {α:Type} {b:α→Nat} {ok:α→Prop} {c c':Nat} {f:TS→PR α} (h:GP b ok c f) (hc:c'≤c):GP b ok c' f:=fun t a t' e=>by
 have g:=h t a t' e
 have w:=g.w
 exact⟨g.suf,by omega,g.ok⟩
theorem zg3 (l:List (List UInt8)):bT l=sm List.length l:=by
 unfold bT sm
 induction l with
 | nil=>rfl
 | cons s r ih=>simp only[List.map_cons,List.sum_cons,Al2];omega
theorem zhh (l:List FldD):bLs l+l.length=sm bL l:=rfl
theorem zaT (m:List UInt8):GP bT T1 1 (yu m):=fun t a t' h=>by
 obtain⟨s,t1,h1,h2⟩:=zc h
 have g0:(if isP m t then t.tail else t) <:+ t∧wT (if isP m t then t.tail else t)≤wT t:=by
  split
  ·rename_i hp;have:=Zf hp;exact⟨this.1,by omega⟩
  ·exact⟨List.suffix_refl _,Al4 _⟩
 have g1:=zu _ _ _ h1
 have w1:=g1.w
 have g2:=Yz (zu.low (by decide)) _ [s] _ _ _ (fun x hx=>trivial) h2
 have e:=zg3 a
 have e1:sm List.length [s]=s.length+1:=by simp[sm]
 exact⟨(g2.1.trans g1.suf).trans g0.1,by omega,trivial⟩
theorem YQ (k:Int):GP bE wfE 1 (Ym k):=fun t a t' h=>by
 obtain⟨s,t1,h1,h2⟩:=zc h
 obtain⟨fs,t2,h3,h4⟩:=zc h2
 obtain⟨_,t3,h5,h6⟩:=zc h4
 obtain⟨l,t4,h7,h8⟩:=zc h6
 cases h8
 have g1:=zu _ _ _ h1
 have g2:t2 <:+ t1∧bT fs+wT t2≤wT t1:=by
  split at h3
  ·rename_i hp
   have h0:=Yj hp
   have g:=zaT _ _ _ _ h3
   have w:=g.w
   exact⟨g.suf.trans h0.1,by omega⟩
  ·cases h3;exact⟨List.suffix_refl _,by simp[bT]⟩
 have g3:=zO _ _ _ _ h5
 have g4:=Zb yH _ _ _ h7
 have w1:=g1.w
 have w3:=g3.w
 have w4:=g4.w
 simp only[b0] at w3
 have e:=zhh l
 exact⟨((g4.suf.trans g3.suf).trans g2.1).trans g1.suf,by simp only[bE,bT,bWs,List.map_nil,List.sum_nil] at g2 ⊢;omega,g4.ok,fun y hy=>nomatch hy⟩
theorem zbL:GP bE wfE 1 ZP:=fun t a t' h=>by
 obtain⟨s,t1,h1,h2⟩:=zc h
 obtain⟨_,t3,h5,h6⟩:=zc h2
 obtain⟨l,t4,h7,h8⟩:=zc h6
 cases h8
 have g1:=zu _ _ _ h1
 have g3:=zO _ _ _ _ h5
 have g4:=Zb (Yg.low (by decide)) _ _ _ h7
 have w1:=g1.w
 have w3:=g3.w
 have w4:=g4.w
 simp only[b0] at w3
 have e:=zg3 l
 exact⟨(g4.suf.trans g3.suf).trans g1.suf,by simp only[bE,bLs,bWs,List.map_nil,List.sum_nil,show bT []=0 from rfl] at e ⊢;omega,fun y hy=>(nomatch hy),fun y hy=>nomatch hy⟩
theorem zaX:GP bE wfE 1 yK:=fun t a t' h=>by
 obtain⟨s,t1,h1,h2⟩:=zc h
 obtain⟨_,t3,h5,h6⟩:=zc h2
 obtain⟨l,t4,h7,h8⟩:=zc h6
 cases h8
 have g1:=zu _ _ _ h1
 have g3:=zO _ _ _ _ h5
 have g4:=zaT _ _ _ _ h7
 have w1:=g1.w
 have w3:=g3.w
 have w4:=g4.w
 simp only[b0] at w3
 exact⟨(g4.suf.trans g3.suf).trans g1.suf,by simp only[bE,bLs,bWs,List.map_nil,List.sum_nil,show bT []=0 from rfl];omega,fun y hy=>(nomatch hy),fun y hy=>nomatch hy⟩
theorem zaU:GP bE wfE 1 yU:=fun t a t' h=>by
 obtain⟨s,t1,h1,h2⟩:=zc h
 obtain⟨_,t3,h5,h6⟩:=zc h2
 obtain⟨l,t4,h7,h8⟩:=zc h6
 cases h8
 have g1:=zu _ _ _ h1
 have g3:=zO _ _ _ _ h5
 have g4:=Zb yN _ _ _ h7
 have w1:=g1.w
 have w3:=g3.w
 have w4:=g4.w
 simp only[b0] at w3
 have e:=zgh l
 exact⟨(g4.suf.trans g3.suf).trans g1.suf,by simp only[bE,bLs,List.map_nil,List.sum_nil,show bT []=0 from rfl];omega,fun y hy=>(nomatch hy),g4.ok⟩
def bSR (d:SR):Nat:=bEs d.defs+d.q.length+d.m.length
def zdH (d:SR):Prop:=∀ x∈d.defs,wfE x
theorem zc7 (l:List DefD) (x:DefD):bEs (l++[x])=bEs l+bE x:=by simp[bEs]
theorem zfg {d:SR} {x:DefD} (hw:zdH d) (hx:wfE x):zdH (yj d x)∧bSR (yj d x)=bSR d+bE x:=by
 refine⟨fun y hy=>?_,by simp only[bSR,yj,zc7];omega⟩
 rcases List.mem_append.1 hy with h|h
 ·exact hw y h
 ·simp at h;subst h;exact hx
structure SchFit (d:SR) (t:TS) (d':SR) (t':TS):Prop where
 suf:t' <:+ t
 w:bSR d'+1+wT t'≤bSR d+wT t
 wf:zdH d→zdH d'
theorem zbX {d:SR} {t:TS} {d':SR} {t':TS} (h:ZQ d t=.ok (d',t')):SchFit d t d' t':=by
 obtain⟨_,t1,h1,h2⟩:=zc h
 obtain⟨_,t2,h3,h4⟩:=zc h2
 obtain⟨_,t3,h5,h6⟩:=zc h4
 obtain⟨q,t4,h7,h8⟩:=zc h6
 obtain⟨m,t5,h9,h10⟩:=zc h8
 obtain⟨_,t6,h11,h12⟩:=zc h10
 cases h12
 have g1:=zO _ _ _ _ h1
 have g2:t2 <:+ t1∧wT t2≤wT t1:=by
  split at h3
  ·rename_i hw;cases h3;have h0:=Yj hw;exact⟨h0.1,by omega⟩
  ·cases h3
 have g3:=zO _ _ _ _ h5
 have g4:=zu _ _ _ h7
 have g5:t5 <:+ t4∧m.length+wT t5≤wT t4:=by
  split at h9
  ·rename_i hw
   have h0:=Yj hw
   obtain⟨_,t7,h13,h14⟩:=zc h9
   have g6:=zO _ _ _ _ h13
   have g7:=zu _ _ _ h14
   have w6:=g6.w
   have w7:=g7.w
   exact⟨(g7.suf.trans g6.suf).trans h0.1,by simp only[b0] at w6;omega⟩
  ·cases h9;exact⟨List.suffix_refl _,by simp⟩
 have g6:=zO _ _ _ _ h11
 have w1:=g1.w
 have w3:=g3.w
 have w4:=g4.w
 have w6:=g6.w
 simp only[b0] at w1 w3 w6
 exact⟨((((g6.suf.trans g5.1).trans g4.suf).trans g3.suf).trans g2.1).trans g1.suf,by simp only[bSR];omega,fun hw=>hw⟩
theorem ZV {d:SR} {w:List UInt8} {t:TS} (hw:isW w t=true) {f:TS→PR DefD} (hf:GP bE wfE 1 f) {d':SR} {t':TS} (h:pb (f t.tail) (fun x t=>.ok (yj d x,t))=.ok (d',t')):SchFit d t d' t':=by
 obtain⟨x,t1,h1,h2⟩:=zc h
 cases h2
 have h0:=Yj hw
 have g:=hf _ _ _ h1
 have w1:=g.w
 have e:bSR (yj d x)=bSR d+bE x:=by simp only[bSR,yj,zc7];omega
 exact⟨g.suf.trans h0.1,by omega,fun hw=>(zfg hw g.ok).1⟩
theorem Yc {d:SR} {t:TS} {d':SR} {t':TS} (h:zn d t=.ok (d',t')):SchFit d t d' t':=by
 unfold zn at h
 have g0:=y1 t
 generalize zg t=u at h g0
 suffices hs:SchFit d u d' t' from ⟨hs.suf.trans g0.1,by have:=hs.w;omega,hs.wf⟩
 unfold yD at h
 split at h
 ·rename_i hc
  have h0:=Yj hc.2
  have g:=zbX h
  have w:=g.w
  exact⟨g.suf.trans h0.1,by omega,g.wf⟩
 split at h
 ·rename_i hc;exact ZV hc (YQ 1) h
 split at h
 ·rename_i hc;exact ZV hc (YQ 2) h
 split at h
 ·rename_i hc;exact ZV hc zaX h
 split at h
 ·rename_i hc;exact ZV hc zbL h
 split at h
 ·rename_i hc;exact ZV hc zaU h
 ·cases h
theorem zcY (d d':SR) (t:TS):¬ zn d t=.ok (d',t):=fun h=>by
 unfold zn at h
 have g0:=y1 t
 generalize zg t=u at h g0
 have tl:∀ w,isW w u=true→wT u.tail<wT t:=fun w hw=>by have:=Yj hw;omega
 have put:∀ {f:TS→PR DefD},GP bE wfE 1 f→wT u.tail<wT t→pb (f u.tail) (fun x t=>(.ok (yj d x,t):PR SR))=.ok (d',t)→False:=fun {f} hf hl h=>by
  obtain⟨x,t1,h1,h2⟩:=zc h
  cases h2
  have:=(hf _ _ _ h1).w
  omega
 unfold yD at h
 split at h
 ·rename_i hc
  have h1:=tl _ hc.2
  have h2:=zhd (zbX h).suf
  omega
 split at h
 ·rename_i hc;exact put (YQ 1) (tl _ hc) h
 split at h
 ·rename_i hc;exact put (YQ 2) (tl _ hc) h
 split at h
 ·rename_i hc;exact put zaX (tl _ hc) h
 split at h
 ·rename_i hc;exact put zbL (tl _ hc) h
 split at h
 ·rename_i hc;exact put zaU (tl _ hc) h
 ·cases h
theorem SchFit.lt {d:SR} {t:TS} {d':SR} {t':TS} (h:SchFit d t d' t') (hd:bSR d≤bSR d'):t'.length<t.length:=by
 obtain⟨p,hp⟩:=h.suf
 have h2:=h.w
 cases p with
 | nil=>simp at hp;subst hp;omega
 | cons x p=>rw[← hp];simp;omega
theorem zba:∀(n:Nat) (d:SR) (t:TS) (d':SR) (t':TS),zI n d t=.ok (d',t')→t'=[]∧bSR d'≤bSR d+wT t∧(zdH d→zdH d')
 | 0,_,_,_,_,h=>by cases h
 | n+1,d,t,d',t',h=>by
  simp only[zI] at h
  split at h
  ·rename_i ht;cases h;exact⟨ht,by omega,id⟩
  ·obtain⟨d1,t1,h1,h2⟩:=zc h
   have g1:=Yc h1
   have g2:=zba n _ _ _ _ h2
   have w:=g1.w
   exact⟨g2.1,by omega,fun hw=>g2.2.2 (g1.wf hw)⟩
theorem YX {t:TS} {d:SR} {t':TS} (h:ZU t=.ok (d,t')):t'=[]∧bSR d≤wT t∧zdH d:=by
 obtain⟨d1,t1,h1,h2⟩:=zc h
 have g1:=Yc h1
 have g2:=zba _ _ _ _ _ h2
 have w:=g1.w
 have e:bSR sr0=0:=rfl
 exact⟨g2.1,by omega,g2.2.2 (g1.wf fun x hx=>nomatch hx)⟩
theorem Yi {H:Heap} {r:Nat} {L t:TS} {dp:Nat} (h:ZF H r L t dp) (hl:wT L≤zq):ACalls Tryz.prog 99 [.ptr r 0] H (fun e H'=>∃ v,e=.ret v∧(v=.tup []∧Pat H r L (zg t) dp H')):=by
 refine ACalls.go ir99 ck99 (Al4 _) fun KP Q hQ=>?_
 have hll:=Z2 hl
 simp only[zq] at hll
 obtain⟨p,hs,hr⟩:=h
 have hlen:p.length+t.length=L.length:=by rw[← hs];simp
 have hr':=hr
 simp only[prc] at hr'
 simp(disch:=first|omega|assumption) only[ir99,go_sem]
 refine goK_ret (zc5 hs hr) fun v H1 ⟨hv,hH⟩=>?_
 subst hv;subst hH
 by_cases hk:(hdT t).k=5
 ·have hk':=eq_true hk
  simp(disch:=first|omega|assumption) only[yG,hk',hr',wrap64,go_sem]
  refine hQ _ _ _ _ [] nofun rfl (Low.refl _) ⟨rfl,?_⟩
  rw[show zg t=t.tail from if_pos hk]
  exact Zc hs (by rw[hk];decide) _
 ·simp(disch:=first|omega|assumption) only[yG,hk,go_sem]
  refine hQ _ _ _ _ [] nofun rfl (Low.refl _) ⟨rfl,?_⟩
  rw[show zg t=t from if_neg hk]
  exact Pat.self hs hr
theorem zgj {H:Heap} {r q:Nat} {L t:TS} {A1 A2 A3 A4:AV} (hq:H q=some (.cells [.ptr r 0,A1,A2,A3,A4])) (hqr:q≠r) (h:ZF H r L t (16-16)) (hl:wT L≤zq) :
  ACalls Tryz.prog 206 [.ptr q 0] H (RpE H r L (16-16) (z6 t) (fun x=>.agg (cW x))):=by
 refine zU (ACalls.goO (R:=fun v H'=>Yo H r L (16-16) (z6 t) (fun x=>.agg (cW x)) v.strip H') (RP:=fun v H'=>Yy (z6 t) v H') ir206 ck206 (Al4 _) fun KP Q hQ hP=>?_)
 have pan:∀(v:AV) (H1:Heap) (n:Int),v=zP n→(z6 t)=.error n→KP v H1:=fun v H1 n h1 h2=>hP v H1 H1 (Low.refl _) ⟨n,h2,h1⟩
 have fin:=KI.done hQ
 have hll:=Z2 hl
 simp only[zq] at hll
 have K0:KI H r L t (16-16) H:=let ⟨_,hs,hr⟩:=h;KI.start hs hr
 have hx:=Eq.refl (z6 t)
 have q0:=hq
 conv at hx=>rhs;unfold z6
 simp(disch:=first|omega|assumption) only[ir206,go_sem]
 refine goA_intro fun b2 hb2=>?_
 have hb2H:=hb2
 have n2:=K0.ne hb2H
 have n2s:=Ne.symm n2
 have nq2:q≠b2:=fun e=>by subst e;rw[q0] at hb2;cases hb2
 simp(disch:=first|omega|assumption) only[q0,nq2,go_sem]
 refine goK_ret (Yi (K0.box hb2H).here hl) fun v H1 ⟨hv1,a1⟩=>?_
 subst hv1
 have K1:=(K0.box hb2H).call a1
 have g1_2:=(a1.other n2s).trans (upd_same ..)
 have q1:=(a1.other hqr).trans ((upd_ne nq2).trans q0)
 simp(disch:=first|omega|assumption) only[q1,go_sem]
 refine goK_both (ZT K1.here hl) (fun v H2 ⟨s,t2,e2,hv2,a2⟩=>?_) fun v H2 ⟨n,e2,hv2⟩=>pan v H2 n hv2 (by rw[hx,e2];rfl)
 subst hv2
 rw[e2,zd] at hx
 have K2:=K1.call a2
 have g2_2:=(a2.other n2s).trans g1_2
 have q2:=(a2.other hqr).trans q1
 simp(disch:=first|omega|assumption) only[go_sem]
 refine goA_intro fun b3 hb3=>?_
 have h32:b3≠b2:=fun e=>by subst e;rw[g2_2] at hb3;cases hb3
 have hb3H:=K2.none hb3
 have n3:=K0.ne hb3H
 have n3s:=Ne.symm n3
 have nq3:q≠b3:=fun e=>by subst e;rw[q2] at hb3;cases hb3
 simp(disch:=first|omega|assumption) only[q2,nq3,go_sem]
 refine goK_both (Zu (K2.box hb3H).here hl _) (fun v H3 ⟨_,t3,e3,hv3,a3⟩=>?_) fun v H3 ⟨n,e3,hv3⟩=>pan v H3 n hv3 (by rw[hx,e3];rfl)
 subst hv3
 rw[e3,zd] at hx
 have K3:=(K2.box hb3H).call a3
 have g3_2:=(a3.other n2s).trans ((upd_ne (Ne.symm h32)).trans g2_2)
 have g3_3:=(a3.other n3s).trans (upd_same ..)
 have q3:=(a3.other hqr).trans ((upd_ne nq3).trans q2)
 simp(disch:=first|omega|assumption) only[q3,go_sem]
 refine goK_both (zfi K3.here hl) (fun v H4 ⟨ty,t4,e4,hv4,a4⟩=>?_) fun v H4 ⟨n,e4,hv4⟩=>pan v H4 n hv4 (by rw[hx,e4];rfl)
 subst hv4
 rw[e4,zd] at hx
 have K4:=K3.call a4
 have g4_2:=(a4.other n2s).trans g3_2
 have g4_3:=(a4.other n3s).trans g3_3
 have q4:=(a4.other hqr).trans q3
 simp(disch:=first|omega|assumption) only[cTy,g4_3,q4,nq3,go_sem]
 refine goK_ret (zcA (K4.box hb3H).here hl _) fun v H5 ⟨hv5,a5⟩=>?_
 subst hv5
 have K5:=(K4.box hb3H).call a5
 have g5_2:=(a5.other n2s).trans ((upd_ne (Ne.symm h32)).trans g4_2)
 have g5_3:=(a5.other n3s).trans (upd_same ..)
 have q5:=(a5.other hqr).trans ((upd_ne nq3).trans q4)
 unfold yp at a5 K5
 cases hi:isP [61] t4 with
 | true =>
  rw[hi] at hx K5 a5
  simp only[if_true] at hx K5
  simp(disch:=first|omega|assumption) only[q5,go_sem]
  refine goK_both (zhC K5.here hl) (fun v H6 ⟨x,t6,e6,hv6,a6⟩=>?_) fun v H6 ⟨n,e6,hv6⟩=>pan v H6 n hv6 (by rw[hx,e6];rfl)
  subst hv6
  rw[e6,zd] at hx
  have K6:=K5.call a6
  have g6_2:=(a6.other n2s).trans g5_2
  have g6_3:=(a6.other n3s).trans g5_3
  have q6:=(a6.other hqr).trans q5
  try simp only[zW] at g6_2
  simp(disch:=first|omega|assumption) only[zi,ze,zb,zj,zf,za,zp,g6_3,g6_2,h32,Ne.symm h32,zcJ,zhz,zdR,zbt,go_sem]
  refine fin _ _ [.agg (cW ⟨s,ty,true,x⟩)] _ _ (by simp(disch:=first|omega|assumption) only[zi,ze,zb,zj,zf,za,zp,ir206,resvs,resv,zf0,go_sem]) hx ((K6.box hb3H).box hb2H) (by simp[tupOf,AV.strip,YV])
 | false =>
  rw[hi] at hx K5 a5
  simp only[Al7,if_false] at hx K5
  try simp only[zW] at g5_2
  simp(disch:=first|omega|assumption) only[g5_3,g5_2,h32,Ne.symm h32,go_sem]
  refine fin _ _ [.agg (.str s::.str ty.nm::.int .i64 ty.lists::.int .i64 ty.musts::.bool false::[.int .i64 0,.int .i64 0,.str [],.sl .nil 5 [],.sl .nil 6 []])] _ _ (by simp(disch:=first|omega|assumption) only[ir206,resvs,resv,go_sem]) hx (K5.box hb2H) (by simp[tupOf,AV.strip,AV.strip1,zf0,zV,cV,cVs,cMs])
theorem zd8 {H:Heap} {r q:Nat} {L t:TS} {A1 A2 A3 A4:AV} (m:List UInt8) (hq:H q=some (.cells [.ptr r 0,A1,A2,A3,A4])) (hqr:q≠r) (h:ZF H r L t (16-16)) (hl:wT L≤zq) :
  ACalls Tryz.prog 162 [.ptr q 0,.str m] H (RpE H r L (16-16) (ya m z6 t) (fun l=>.sl .no 10 (cWs l))):=by
 refine zU (ACalls.goO (R:=fun v H'=>Yo H r L (16-16) (ya m z6 t) (fun l=>.sl .no 10 (cWs l)) v.strip H') (RP:=fun v H'=>Yy (ya m z6 t) v H') ir162 ck162 (Al4 _) fun KP Q hQ hP=>?_)
 have pan:∀(v:AV) (H1:Heap) (n:Int),v=zP n→(ya m z6 t)=.error n→KP v H1:=fun v H1 n h1 h2=>hP v H1 H1 (Low.refl _) ⟨n,h2,h1⟩
 have fin:=KI.done hQ
 have hll:=Z2 hl
 simp only[zq] at hll
 have K0:KI H r L t (16-16) H:=let ⟨_,hs,hr⟩:=h;KI.start hs hr
 have hx:=Eq.refl (ya m z6 t)
 have q0:=hq
 conv at hx=>rhs;unfold ya
 simp(disch:=first|omega|assumption) only[ir162,q0,go_sem]
 refine goK_both (zgj q0 hqr K0.here hl) (fun v H1 ⟨x1,t1,e1,hv1,a1⟩=>?_) fun v H1 ⟨n,e1,hv1⟩=>pan v H1 n hv1 (by rw[hx,e1];rfl)
 subst hv1
 rw[e1,zd] at hx
 have K1:=K0.call a1
 have q1:=(a1.other hqr).trans q0
 have hlt1:=yN.lt (by decide) _ _ _ e1
 have hsl:=let ⟨_,hp,_⟩:=h;ZN hp
 obtain⟨R,hR⟩:∃ R,zr m z6 (t1.length+1) [x1] t1=R:=⟨_,rfl⟩
 rw[hR] at hx
 simp(disch:=first|omega|assumption) only[zi,ze,zb,zj,zf,za,zp,zdm,zcf,go_sem]
 refine goL_st (fun x:Own×List VarD×TS=>[(5,.sl x.1 10 (cWs x.2.1))]) (fun x H'=>KO H r L x.2.2 (16-16) H' x.1 x.2.1.length 10∧H' q=some (.cells [.ptr r 0,A1,A2,A3,A4])∧(∃ m',x.2.2.length<m'∧zr m z6 m' x.2.1 x.2.2=R)∧x.2.1.length+x.2.2.length≤L.length) (fun x=>x.2.2.length) (.full,[x1],t1) (by simp(disch:=first|omega|assumption) only[zi,ze,zb,zj,zf,za,zp,cWs,List.map_cons,List.map_nil,YV,go_sem]) ⟨⟨K1,Owned.full _ _ _,nofun⟩,q1,⟨_,Nat.lt_succ_self _,hR⟩,by simp only[List.length_singleton];omega⟩ ?_
 rintro⟨o,l,u⟩ H3 J ⟨K3,q3,⟨m',hm,hR3⟩,hlen⟩ hJ
 simp only at K3 q3 hm hR3 hlen
 obtain⟨m',rfl⟩:∃ j,m'=j+1:=⟨m'-1,by omega⟩
 have hcl:=zeg l
 simp(disch:=first|omega|assumption) only[q3,go_sem]
 refine goK_ret (zcA K3.here hl m) fun v H4 ⟨hv4,a4⟩=>?_
 subst hv4
 have q4:=(a4.other hqr).trans q3
 cases hj:isP m u with
 | true =>
  rw[yp,hj,if_pos rfl] at a4
  have e1:R=.ok (l,u.tail):=by rw[← hR3,zr,hj];rfl
  rw[e1] at hx
  simp(disch:=first|omega|assumption) only[go_sem]
  refine fin _ _ [.sl o 10 (cWs l)] l u.tail (by simp(disch:=first|omega|assumption) only[ir162,resvs,resv,go_sem]) hx (K3.toKI.call a4) ?_
  simp[tupOf,AV.strip,AV.strip1,zeu]
 | false =>
  rw[yp,hj] at a4
  have K4:=K3.call (by simpa using a4)
  rw[zr,hj] at hR3
  simp only[Al7,if_false] at hR3
  simp(disch:=first|omega|assumption) only[q4,go_sem]
  refine goK_both (zgj q4 hqr K4.here hl) (fun v H5 ⟨x,t5,e5,hv5,a5⟩=>?_) fun v H5 ⟨n5,e5,hv5⟩=>pan v H5 n5 hv5 (by rw[hx,← hR3,e5];rfl)
  subst hv5
  rw[e5,zd] at hR3
  have hlt:=yN.lt (by decide) _ _ _ e5
  have K5:=K4.call a5
  have q5:=(a5.other hqr).trans q4
  simp(disch:=first|omega|assumption) only[zi,ze,zb,zj,zf,za,zp,zdm,zcf,go_sem]
  refine goP_ownS (by rw[hcl];exact K5.own) (by simp only[hcl,Al2,Al3];omega) (by simp only[hcl,Al2,Al3,maxLen];omega) fun o6 H6 hs6=>?_
  have K6:=K5.app (by simpa[hcl] using hs6)
  have q6:=K5.stay hs6 q5
  simp(disch:=first|omega|assumption) only[zi,ze,zb,zj,zf,za,zp,zdm,zcf,go_sem]
  refine goJ (hJ (o6,l++[x],t5) _ (by simp only;omega) ⟨by simpa using K6,q6,⟨m',by simp only;omega,hR3⟩,by simp only[Al5,Al2,Al3];omega⟩) (by simp(disch:=first|omega|assumption) only[zi,ze,zb,zj,zf,za,zp,cWs,List.map_append,List.map_cons,List.map_nil,YV,go_sem])
theorem zb4 {H:Heap} {r q:Nat} {L t:TS} {A1 A2 A3 A4:AV} (hq:H q=some (.cells [.ptr r 0,A1,A2,A3,A4])) (hqr:q≠r) (h:ZF H r L t (16-16)) (hl:wT L≤zq) :
  ACalls Tryz.prog 160 [.ptr q 0] H (RpE H r L (16-16) (yw t) (fun x=>.agg (cL x))):=by
 refine zU (ACalls.goO (R:=fun v H'=>Yo H r L (16-16) (yw t) (fun x=>.agg (cL x)) v.strip H') (RP:=fun v H'=>Yy (yw t) v H') ir160 ck160 (Al4 _) fun KP Q hQ hP=>?_)
 have pan:∀(v:AV) (H1:Heap) (n:Int),v=zP n→(yw t)=.error n→KP v H1:=fun v H1 n h1 h2=>hP v H1 H1 (Low.refl _) ⟨n,h2,h1⟩
 have fin:=KI.done hQ
 have hll:=Z2 hl
 simp only[zq] at hll
 have K0:KI H r L t (16-16) H:=let ⟨_,hs,hr⟩:=h;KI.start hs hr
 have hx:=Eq.refl (yw t)
 have q0:=hq
 conv at hx=>rhs;unfold yw
 simp(disch:=first|omega|assumption) only[ir160,go_sem]
 refine goA_intro fun b2 hb2=>?_
 have hb2H:=hb2
 have n2:=K0.ne hb2H
 have n2s:=Ne.symm n2
 have nq2:q≠b2:=fun e=>by subst e;rw[q0] at hb2;cases hb2
 simp(disch:=first|omega|assumption) only[q0,nq2,go_sem]
 refine goK_ret (Yi (K0.box hb2H).here hl) fun v H1 ⟨hv1,a1⟩=>?_
 subst hv1
 have K1:=(K0.box hb2H).call a1
 have g1_2:=(a1.other n2s).trans (upd_same ..)
 have q1:=(a1.other hqr).trans ((upd_ne nq2).trans q0)
 simp(disch:=first|omega|assumption) only[q1,go_sem]
 refine goK_both (ZT K1.here hl) (fun v H2 ⟨s,t2,e2,hv2,a2⟩=>?_) fun v H2 ⟨n,e2,hv2⟩=>pan v H2 n hv2 (by rw[hx,e2];rfl)
 subst hv2
 rw[e2,zd] at hx
 have K2:=K1.call a2
 have g2_2:=(a2.other n2s).trans g1_2
 have q2:=(a2.other hqr).trans q1
 simp(disch:=first|omega|assumption) only[go_sem]
 refine goA_intro fun b3 hb3=>?_
 have h32:b3≠b2:=fun e=>by subst e;rw[g2_2] at hb3;cases hb3
 have hb3H:=K2.none hb3
 have n3:=K0.ne hb3H
 have n3s:=Ne.symm n3
 have nq3:q≠b3:=fun e=>by subst e;rw[q2] at hb3;cases hb3
 simp(disch:=first|omega|assumption) only[q2,nq3,go_sem]
 refine goK_ret (zcA (K2.box hb3H).here hl _) fun v H3 ⟨hv3,a3⟩=>?_
 subst hv3
 have K3:=(K2.box hb3H).call a3
 have g3_2:=(a3.other n2s).trans ((upd_ne (Ne.symm h32)).trans g2_2)
 have g3_3:=(a3.other n3s).trans (upd_same ..)
 have q3:=(a3.other hqr).trans ((upd_ne nq3).trans q2)
 unfold yp at a3 K3
 cases hi:isP [40] t2 with
 | true =>
  rw[hi] at hx K3 a3
  simp only[if_true] at hx K3
  simp(disch:=first|omega|assumption) only[q3,go_sem]
  refine goK_both (zd8 [41] q3 hqr K3.here hl) (fun v H4 ⟨ps,t4,e4,hv4,a4⟩=>?_) fun v H4 ⟨n,e4,hv4⟩=>pan v H4 n hv4 (by rw[hx,e4];rfl)
  subst hv4
  rw[e4,zd] at hx
  have K4:=K3.call a4
  have g4_2:=(a4.other n2s).trans g3_2
  have g4_3:=(a4.other n3s).trans g3_3
  have q4:=(a4.other hqr).trans q3
  simp(disch:=first|omega|assumption) only[g4_3,q4,nq3,go_sem]
  refine goK_both (Zu (K4.box hb3H).here hl _) (fun v H5 ⟨_,t5,e5,hv5,a5⟩=>?_) fun v H5 ⟨n,e5,hv5⟩=>pan v H5 n hv5 (by rw[hx,e5];rfl)
  subst hv5
  rw[e5,zd] at hx
  have K5:=(K4.box hb3H).call a5
  have g5_2:=(a5.other n2s).trans ((upd_ne (Ne.symm h32)).trans g4_2)
  have g5_3:=(a5.other n3s).trans (upd_same ..)
  have q5:=(a5.other hqr).trans ((upd_ne nq3).trans q4)
  simp(disch:=first|omega|assumption) only[q5,go_sem]
  refine goK_both (zfi K5.here hl) (fun v H6 ⟨ty,t6,e6,hv6,a6⟩=>?_) fun v H6 ⟨n,e6,hv6⟩=>pan v H6 n hv6 (by rw[hx,e6];rfl)
  subst hv6
  rw[e6,zd] at hx
  have K6:=K5.call a6
  have g6_2:=(a6.other n2s).trans g5_2
  have g6_3:=(a6.other n3s).trans g5_3
  have q6:=(a6.other hqr).trans q5
  simp(disch:=first|omega|assumption) only[cTy,g6_3,q6,nq3,go_sem]
  refine goK_both (zg5 (K6.box hb3H).here hl) (fun v H7 ⟨d,t7,e7,hv7,a7⟩=>?_) fun v H7 ⟨n,e7,hv7⟩=>pan v H7 n hv7 (by rw[hx,e7];rfl)
  subst hv7
  rw[e7,zd] at hx
  have K7:=(K6.box hb3H).call a7
  have g7_2:=(a7.other n2s).trans ((upd_ne (Ne.symm h32)).trans g6_2)
  have g7_3:=(a7.other n3s).trans (upd_same ..)
  have q7:=(a7.other hqr).trans ((upd_ne nq3).trans q6)
  try simp only[] at g7_2
  simp(disch:=first|omega|assumption) only[g7_3,g7_2,h32,Ne.symm h32,go_sem]
  refine fin _ _ [.agg [.str s,.sl .no 10 (cWs ps),.str ty.nm,.int .i64 ty.lists,.int .i64 ty.musts,.sl .no 2 (cDs d)]] _ _ (by simp(disch:=first|omega|assumption) only[ir160,resvs,resv,go_sem]) hx ((K7.box hb3H).box hb2H) (by simp[tupOf,AV.strip,AV.strip1,cL,cWs])
 | false =>
  rw[hi] at hx K3 a3
  simp only[Al7,if_false,zd] at hx K3
  simp(disch:=first|omega|assumption) only[q3,go_sem]
  refine goK_both (Zu K3.here hl _) (fun v H4 ⟨_,t4,e4,hv4,a4⟩=>?_) fun v H4 ⟨n,e4,hv4⟩=>pan v H4 n hv4 (by rw[hx,e4];rfl)
  subst hv4
  rw[e4,zd] at hx
  have K4:=K3.call a4
  have g4_2:=(a4.other n2s).trans g3_2
  have g4_3:=(a4.other n3s).trans g3_3
  have q4:=(a4.other hqr).trans q3
  simp(disch:=first|omega|assumption) only[q4,go_sem]
  refine goK_both (zfi K4.here hl) (fun v H5 ⟨ty,t5,e5,hv5,a5⟩=>?_) fun v H5 ⟨n,e5,hv5⟩=>pan v H5 n hv5 (by rw[hx,e5];rfl)
  subst hv5
  rw[e5,zd] at hx
  have K5:=K4.call a5
  have g5_2:=(a5.other n2s).trans g4_2
  have g5_3:=(a5.other n3s).trans g4_3
  have q5:=(a5.other hqr).trans q4
  simp(disch:=first|omega|assumption) only[cTy,g5_3,q5,nq3,go_sem]
  refine goK_both (zg5 (K5.box hb3H).here hl) (fun v H6 ⟨d,t6,e6,hv6,a6⟩=>?_) fun v H6 ⟨n,e6,hv6⟩=>pan v H6 n hv6 (by rw[hx,e6];rfl)
  subst hv6
  rw[e6,zd] at hx
  have K6:=(K5.box hb3H).call a6
  have g6_2:=(a6.other n2s).trans ((upd_ne (Ne.symm h32)).trans g5_2)
  have g6_3:=(a6.other n3s).trans (upd_same ..)
  have q6:=(a6.other hqr).trans ((upd_ne nq3).trans q5)
  try simp only[] at g6_2
  simp(disch:=first|omega|assumption) only[g6_3,g6_2,h32,Ne.symm h32,go_sem]
  refine fin _ _ [.agg [.str s,.sl .nil 10 [],.str ty.nm,.int .i64 ty.lists,.int .i64 ty.musts,.sl .no 2 (cDs d)]] _ _ (by simp(disch:=first|omega|assumption) only[ir160,resvs,resv,go_sem]) hx ((K6.box hb3H).box hb2H) (by simp[tupOf,AV.strip,AV.strip1,cL,cWs])
theorem zf3 {H:Heap} {r q:Nat} {L t:TS} {A1 A2 A3 A4:AV} (m:List UInt8) (hq:H q=some (.cells [.ptr r 0,A1,A2,A3,A4])) (hqr:q≠r) (h:ZF H r L t (16-16)) (hl:wT L≤zq) :
  ACalls Tryz.prog 159 [.ptr q 0,.str m] H (RpE H r L (16-16) (yu m t) (fun l=>.sl .no 1 (cT l))):=by
 refine zU (ACalls.goO (R:=fun v H'=>Yo H r L (16-16) (yu m t) (fun l=>.sl .no 1 (cT l)) v.strip H') (RP:=fun v H'=>Yy (yu m t) v H') ir159 ck159 (Al4 _) fun KP Q hQ hP=>?_)
 have pan:∀(v:AV) (H1:Heap) (n:Int),v=zP n→(yu m t)=.error n→KP v H1:=fun v H1 n h1 h2=>hP v H1 H1 (Low.refl _) ⟨n,h2,h1⟩
 have fin:=KI.done hQ
 have hll:=Z2 hl
 simp only[zq] at hll
 have K0:KI H r L t (16-16) H:=let ⟨_,hs,hr⟩:=h;KI.start hs hr
 have hx:=Eq.refl (yu m t)
 have q0:=hq
 conv at hx=>rhs;unfold yu
 simp(disch:=first|omega|assumption) only[ir159,q0,go_sem]
 refine goK_ret (zcA K0.here hl m) fun v H1 ⟨hv1,a1⟩=>?_
 subst hv1
 have K1:=K0.call a1
 have q1:=(a1.other hqr).trans q0
 unfold yp at K1
 simp(disch:=first|omega|assumption) only[q1,go_sem]
 refine goK_both (ZT K1.here hl) (fun v H2 ⟨x1,t2,e2,hv2,a2⟩=>?_) fun v H2 ⟨n,e2,hv2⟩=>pan v H2 n hv2 (by rw[hx,e2];rfl)
 subst hv2
 rw[e2,zd] at hx
 have K2:=K1.call a2
 have q2:=(a2.other hqr).trans q1
 have hsl:=let ⟨_,hp,_⟩:=K1.here;ZN hp
 have hlt1:=(zu).lt (by decide) _ _ _ e2
 obtain⟨R,hR⟩:∃ R,zH m zv (t2.length+1) [x1] t2=R:=⟨_,rfl⟩
 rw[hR] at hx
 simp(disch:=first|omega|assumption) only[go_sem]
 refine goL_st (fun x:Own×List (List UInt8)×TS=>[(5,.sl x.1 1 (cT x.2.1))]) (fun x H'=>KO H r L x.2.2 (16-16) H' x.1 x.2.1.length 1∧H' q=some (.cells [.ptr r 0,A1,A2,A3,A4])∧(∃ m',x.2.2.length<m'∧zH m zv m' x.2.1 x.2.2=R)∧x.2.1.length+x.2.2.length≤L.length) (fun x=>x.2.2.length) (.full,[x1],t2) (by simp(disch:=first|omega|assumption) only[cT,List.map_cons,List.map_nil,go_sem]) ⟨⟨K2,Owned.full _ _ _,nofun⟩,q2,⟨_,Nat.lt_succ_self _,hR⟩,by simp only[List.length_singleton];omega⟩ ?_
 rintro⟨o,l,u⟩ H3 J ⟨K3,q3,⟨m',hm,hR3⟩,hlen⟩ hJ
 simp only at K3 q3 hm hR3 hlen
 obtain⟨m',rfl⟩:∃ j,m'=j+1:=⟨m'-1,by omega⟩
 have hcl:=zck l
 simp(disch:=first|omega|assumption) only[q3,go_sem]
 refine goK_ret (zcA K3.here hl m) fun v H4 ⟨hv4,a4⟩=>?_
 subst hv4
 have q4:=(a4.other hqr).trans q3
 cases hj:isP m u with
 | false =>
  rw[yp,hj] at a4
  have e1:R=.ok (l,u):=by rw[← hR3,zH,hj];rfl
  rw[e1] at hx
  simp(disch:=first|omega|assumption) only[go_sem]
  refine fin _ _ [.sl o 1 (cT l)] l u (by simp(disch:=first|omega|assumption) only[ir159,resvs,resv,go_sem]) hx (K3.toKI.call (by simpa using a4)) ?_
  simp[tupOf,AV.strip,AV.strip1,zcG]
 | true =>
  rw[yp,hj,if_pos rfl] at a4
  have hlt0:=zat hj
  have K4:=K3.call a4
  rw[zH,hj,if_pos rfl] at hR3
  simp(disch:=first|omega|assumption) only[q4,go_sem]
  refine goK_both (ZT K4.here hl) (fun v H5 ⟨x,t5,e5,hv5,a5⟩=>?_) fun v H5 ⟨n5,e5,hv5⟩=>pan v H5 n5 hv5 (by rw[hx,← hR3,e5];rfl)
  subst hv5
  rw[e5,zd] at hR3
  have hlt:=(zu).lt (by decide) _ _ _ e5
  have K5:=K4.call a5
  have q5:=(a5.other hqr).trans q4
  simp(disch:=first|omega|assumption) only[go_sem]
  refine goP_ownS (by rw[hcl];exact K5.own) (by simp only[hcl,Al2,Al3];omega) (by simp only[hcl,Al2,Al3,maxLen];omega) fun o6 H6 hs6=>?_
  have K6:=K5.app (by simpa[hcl] using hs6)
  have q6:=K5.stay hs6 q5
  simp(disch:=first|omega|assumption) only[go_sem]
  refine goJ (hJ (o6,l++[x],t5) _ (by simp only;omega) ⟨by simpa using K6,q6,⟨m',by simp only;omega,hR3⟩,by simp only[Al5,Al2,Al3];omega⟩) (by simp(disch:=first|omega|assumption) only[cT,List.map_append,List.map_cons,List.map_nil,go_sem])
theorem zgW {H:Heap} {r q:Nat} {L t:TS} {A1 A2 A3 A4:AV} (hq:H q=some (.cells [.ptr r 0,A1,A2,A3,A4])) (hqr:q≠r) (h:ZF H r L t (16-16)) (hl:wT L≤zq) :
  ACalls Tryz.prog 161 [.ptr q 0] H (RpE H r L (16-16) (yP t) AV.str):=by
 refine zU (ACalls.goO (R:=fun v H'=>Yo H r L (16-16) (yP t) AV.str v.strip H') (RP:=fun v H'=>Yy (yP t) v H') ir161 ck161 (Al4 _) fun KP Q hQ hP=>?_)
 have pan:∀(v:AV) (H1:Heap) (n:Int),v=zP n→(yP t)=.error n→KP v H1:=fun v H1 n h1 h2=>hP v H1 H1 (Low.refl _) ⟨n,h2,h1⟩
 have fin:=KI.done hQ
 have hll:=Z2 hl
 simp only[zq] at hll
 have K0:KI H r L t (16-16) H:=let ⟨_,hs,hr⟩:=h;KI.start hs hr
 have hx:=Eq.refl (yP t)
 have q0:=hq
 conv at hx=>rhs;unfold yP
 simp(disch:=first|omega|assumption) only[ir161,q0,go_sem]
 refine goK_ret (Yi K0.here hl) fun v H1 ⟨hv1,a1⟩=>?_
 subst hv1
 have K1:=K0.call a1
 have q1:=(a1.other hqr).trans q0
 simp(disch:=first|omega|assumption) only[q1,go_sem]
 refine goK_ret (zhs K1.here [116,114,117,101]) fun v H2 ⟨hv2,hH⟩=>?_
 subst hv2;subst hH
 cases hw1:isW [116,114,117,101] (zg t) with
 | true =>
  rw[if_pos (.inl hw1)] at hx
  simp(disch:=first|omega|assumption) only[q1,go_sem]
  exact goK_both (Z3 _ r 2) (fun _ _ h=>h.elim) fun v H3 h=>pan v H3 2 h hx
 | false =>
  simp(disch:=first|omega|assumption) only[q1,go_sem]
  refine goK_ret (zhs K1.here [102,97,108,115,101]) fun v H2 ⟨hv2,hH⟩=>?_
  subst hv2;subst hH
  cases hw2:isW [102,97,108,115,101] (zg t) with
  | true =>
   rw[if_pos (.inr (.inl hw2))] at hx
   simp(disch:=first|omega|assumption) only[q1,go_sem]
   exact goK_both (Z3 _ r 2) (fun _ _ h=>h.elim) fun v H3 h=>pan v H3 2 h hx
  | false =>
   simp(disch:=first|omega|assumption) only[q1,go_sem]
   refine goK_ret (zhs K1.here [110,117,108,108]) fun v H2 ⟨hv2,hH⟩=>?_
   subst hv2;subst hH
   cases hw3:isW [110,117,108,108] (zg t) with
   | true =>
    rw[if_pos (.inr (.inr hw3))] at hx
    simp(disch:=first|omega|assumption) only[q1,go_sem]
    exact goK_both (Z3 _ r 2) (fun _ _ h=>h.elim) fun v H3 h=>pan v H3 2 h hx
   | false =>
    rw[if_neg (by rw[hw1,hw2,hw3];simp)] at hx
    simp(disch:=first|omega|assumption) only[q1,go_sem]
    refine goK_both (ZT K1.here hl) (fun v H3 ⟨s,t3,e3,hv3,a3⟩=>?_) fun v H3 ⟨n,e3,hv3⟩=>pan v H3 n hv3 (by rw[hx,e3])
    subst hv3
    rw[e3] at hx
    simp(disch:=first|omega|assumption) only[go_sem]
    exact fin _ _ [.str s] s t3 (by simp(disch:=first|omega|assumption) only[ir161,resvs,resv,go_sem]) hx (K1.call a3) (by simp[tupOf,AV.strip,AV.strip1])
abbrev zE:List AV:=[.int .i64 0,.str [],.sl .nil 1 [],.sl .nil 6 [],.sl .nil 1 [],.sl .nil 10 []]
theorem yR (x:DefD):(cE x).length=6:=rfl
theorem yt (x:DefD):(cE x).take 6=cE x:=rfl
theorem Zk (x:FldD):(cL x).length=6:=rfl
theorem yO (x:FldD):(cL x).take 6=cL x:=rfl
theorem zau {H:Heap} {r q:Nat} {L t:TS} {A1 A2 A3 A4:AV} (k:Int) (hq:H q=some (.cells [.ptr r 0,A1,A2,A3,A4])) (hqr:q≠r) (h:ZF H r L t (16-16)) (hl:wT L≤zq) :
  ACalls Tryz.prog 102 [.ptr q 0,.int .i64 k] H (RpE H r L (16-16) (Ym k t) (fun x=>.agg (cE x))):=by
 refine zU (ACalls.goO (R:=fun v H'=>Yo H r L (16-16) (Ym k t) (fun x=>.agg (cE x)) v.strip H') (RP:=fun v H'=>Yy (Ym k t) v H') ir102 ck102 (Al4 _) fun KP Q hQ hP=>?_)
 have pan:∀(v:AV) (H1:Heap) (n:Int),v=zP n→(Ym k t)=.error n→KP v H1:=fun v H1 n h1 h2=>hP v H1 H1 (Low.refl _) ⟨n,h2,h1⟩
 have fin:=KI.done hQ
 have hll:=Z2 hl
 simp only[zq] at hll
 have K0:KI H r L t (16-16) H:=let ⟨_,hs,hr⟩:=h;KI.start hs hr
 have hx:=Eq.refl (Ym k t)
 have q0:=hq
 conv at hx=>rhs;unfold Ym
 simp only[ya] at hx
 simp(disch:=first|omega|assumption) only[ir102,go_sem]
 refine goA_intro fun b4 hb4=>?_
 have hb4H:=hb4
 have n4:=K0.ne hb4H
 have n4s:=Ne.symm n4
 have nq4:q≠b4:=fun e=>by subst e;rw[q0] at hb4;cases hb4
 simp(disch:=first|omega|assumption) only[q0,nq4,go_sem]
 refine goK_both (ZT (K0.box hb4H).here hl) (fun v H1 ⟨s,t1,e1,hv1,a1⟩=>?_) fun v H1 ⟨n,e1,hv1⟩=>pan v H1 n hv1 (by rw[hx,e1];rfl)
 subst hv1
 rw[e1,zd] at hx
 have K1:=(K0.box hb4H).call a1
 have g1_4:=(a1.other n4s).trans (upd_same ..)
 have q1:=(a1.other hqr).trans ((upd_ne nq4).trans q0)
 simp(disch:=first|omega|assumption) only[go_sem]
 refine goA_intro fun b5 hb5=>?_
 have h54:b5≠b4:=fun e=>by subst e;rw[g1_4] at hb5;cases hb5
 have hb5H:=K1.none hb5
 have n5:=K0.ne hb5H
 have n5s:=Ne.symm n5
 have nq5:q≠b5:=fun e=>by subst e;rw[q1] at hb5;cases hb5
 simp(disch:=first|omega|assumption) only[q1,nq5,go_sem]
 refine goK_ret (y5 (K1.box hb5H).here hl _) fun v H2 ⟨hv2,a2⟩=>?_
 subst hv2
 have K2:=(K1.box hb5H).call a2
 have g2_4:=(a2.other n4s).trans ((upd_ne (Ne.symm h54)).trans g1_4)
 have g2_5:=(a2.other n5s).trans (upd_same ..)
 have q2:=(a2.other hqr).trans ((upd_ne nq5).trans q1)
 unfold zy at a2 K2
 cases hi:isW [105,109,112,108,101,109,101,110,116,115] t1 with
 | true =>
  rw[hi] at hx K2 a2
  simp only[if_true] at hx K2
  simp(disch:=first|omega|assumption) only[q2,go_sem]
  refine goK_both (zf3 [38] q2 hqr K2.here hl) (fun v H3 ⟨fs,t3,e3,hv3,a3⟩=>?_) fun v H3 ⟨n,e3,hv3⟩=>pan v H3 n hv3 (by rw[hx,e3];rfl)
  subst hv3
  rw[e3,zd] at hx
  have K3:=K2.call a3
  have g3_4:=(a3.other n4s).trans g2_4
  have g3_5:=(a3.other n5s).trans g2_5
  have q3:=(a3.other hqr).trans q2
  simp(disch:=first|omega|assumption) only[g3_5,q3,nq5,go_sem]
  refine goK_both (Zu (K3.box hb5H).here hl _) (fun v H4 ⟨_,t4,e4,hv4,a4⟩=>?_) fun v H4 ⟨n,e4,hv4⟩=>pan v H4 n hv4 (by rw[hx,e4];rfl)
  subst hv4
  rw[e4,zd] at hx
  have K4:=(K3.box hb5H).call a4
  have g4_4:=(a4.other n4s).trans ((upd_ne (Ne.symm h54)).trans g3_4)
  have g4_5:=(a4.other n5s).trans (upd_same ..)
  have q4:=(a4.other hqr).trans ((upd_ne nq5).trans q3)
  simp(disch:=first|omega|assumption) only[g4_5,q4,go_sem]
  refine goK_both (zb4 q4 hqr K4.here hl) (fun v H5 ⟨x1,t5,e5,hv5,a5⟩=>?_) fun v H5 ⟨n,e5,hv5⟩=>pan v H5 n hv5 (by rw[hx,e5];rfl)
  subst hv5
  rw[e5,zd] at hx
  have K5:=K4.call a5
  have g5_4:=(a5.other n4s).trans g4_4
  have g5_5:=(a5.other n5s).trans g4_5
  have q5:=(a5.other hqr).trans q4
  have hlt1:=yH.lt (by decide) _ _ _ e5
  have hsl:=let ⟨_,hp,_⟩:=K4.here;ZN hp
  obtain⟨R,hR⟩:∃ R,zr [125] yw (t5.length+1) [x1] t5=R:=⟨_,rfl⟩
  rw[hR] at hx
  simp(disch:=first|omega|assumption) only[zi,ze,zb,zj,zf,za,zp,Zk,yO,g5_5,go_sem]
  refine goP_ownS (o:=.nil) rfl (by simp only[Al2,Al3];omega) (by simp only[Al2,Al3,maxLen];omega) fun oA HA hsA=>?_
  have Kn:KO H r L t5 (16-16) H5 .nil 0 6:=⟨K5,rfl,nofun⟩
  have KA:=Kn.app (by simpa using hsA)
  have gA5:=Kn.stay (by simpa using hsA) g5_5
  have gA4:=Kn.stay (by simpa using hsA) g5_4
  have qA:=Kn.stay (by simpa using hsA) q5
  simp(disch:=first|omega|assumption) only[zi,ze,zb,zj,zf,za,zp,gA5,Zk,yO,go_sem]
  refine goL_st (fun x:Own×List FldD×TS=>[]) (fun x H'=>KO H r L x.2.2 (16-16) H' x.1 x.2.1.length 6∧H' b5=some (.cells [.int .i64 k,.str s,.sl .no 1 (cT fs),.sl x.1 6 (cLs x.2.1),.sl .nil 1 [],.sl .nil 10 []])∧H' b4=some (.cells zE)∧H' q=some (.cells [.ptr r 0,A1,A2,A3,A4])∧(∃ m',x.2.2.length<m'∧zr [125] yw m' x.2.1 x.2.2=R)∧x.2.1.length+x.2.2.length≤L.length) (fun x=>x.2.2.length) (oA,[x1],t5) (by simp(disch:=first|omega|assumption) only[go_sem]) ⟨KA.box hb5H gA5,by rw[upd_same];simp[cLs,ZY],(upd_ne (Ne.symm h54)).trans gA4,(upd_ne nq5).trans qA,⟨_,Nat.lt_succ_self _,hR⟩,by simp only[List.length_singleton];omega⟩ ?_
  rintro⟨o,l,u⟩ H3 J ⟨K3,g35,g34,q3,⟨m',hm,hR3⟩,hlen⟩ hJ
  simp only at K3 g35 g34 q3 hm hR3 hlen
  obtain⟨m',rfl⟩:∃ j,m'=j+1:=⟨m'-1,by omega⟩
  have hcl:=zcn l
  simp(disch:=first|omega|assumption) only[q3,go_sem]
  refine goK_ret (zcA K3.here hl [125]) fun v H4 ⟨hv4,a4⟩=>?_
  subst hv4
  have q4:=(a4.other hqr).trans q3
  have g45:=(a4.other n5s).trans g35
  have g44:=(a4.other n4s).trans g34
  cases hj:isP [125] u with
  | true =>
   rw[yp,hj,if_pos rfl] at a4
   have e1:R=.ok (l,u.tail):=by rw[← hR3,zr,hj];rfl
   rw[e1] at hx
   simp only[zE] at g44
   simp(disch:=first|omega|assumption) only[g45,g44,h54,Ne.symm h54,go_sem]
   refine fin _ _ [.agg [.int .i64 k,.str s,.sl .no 1 (cT fs),.sl o 6 (cLs l),.sl .nil 1 [],.sl .nil 10 []]] _ u.tail (by simp(disch:=first|omega|assumption) only[ir102,resvs,resv,go_sem]) hx ((K3.toKI.call a4).box hb4H) ?_
   simp[tupOf,AV.strip,AV.strip1,cE,zbS,cT,cWs]
  | false =>
   rw[yp,hj] at a4
   have K4:=K3.call (by simpa using a4)
   rw[zr,hj] at hR3
   simp only[Al7,if_false] at hR3
   simp(disch:=first|omega|assumption) only[q4,g45,go_sem]
   refine goK_both (zb4 q4 hqr K4.here hl) (fun v H5 ⟨x,t5,e5,hv5,a5⟩=>?_) fun v H5 ⟨n5,e5,hv5⟩=>pan v H5 n5 hv5 (by rw[hx,← hR3,e5];rfl)
   subst hv5
   rw[e5,zd] at hR3
   have hlt:=yH.lt (by decide) _ _ _ e5
   have K5:=K4.call a5
   have q5:=(a5.other hqr).trans q4
   have g55:=(a5.other n5s).trans g45
   have g54:=(a5.other n4s).trans g44
   simp(disch:=first|omega|assumption) only[zi,ze,zb,zj,zf,za,zp,Zk,yO,g55,go_sem]
   refine goP_ownS (by rw[hcl];exact K5.own) (by simp only[hcl,Al2,Al3];omega) (by simp only[hcl,Al2,Al3,maxLen];omega) fun o6 H6 hs6=>?_
   have K6:=K5.app (by simpa[hcl] using hs6)
   have q6:=K5.stay hs6 q5
   have g65:=K5.stay hs6 g55
   have g64:=K5.stay hs6 g54
   simp(disch:=first|omega|assumption) only[zi,ze,zb,zj,zf,za,zp,g65,Zk,yO,go_sem]
   refine goJ (hJ (o6,l++[x],t5) _ (by simp only;omega) ⟨by simpa using K6.box hb5H g65,by rw[upd_same];simp[cLs,ZY],(upd_ne (Ne.symm h54)).trans g64,(upd_ne nq5).trans q6,⟨m',by simp only;omega,hR3⟩,by simp only[Al5,Al2,Al3];omega⟩) (by simp(disch:=first|omega|assumption) only[go_sem])
 | false =>
  rw[hi] at hx K2 a2
  simp only[Al7,if_false,zd] at hx K2
  simp(disch:=first|omega|assumption) only[q2,go_sem]
  refine goK_both (Zu K2.here hl _) (fun v H3 ⟨_,t3,e3,hv3,a3⟩=>?_) fun v H3 ⟨n,e3,hv3⟩=>pan v H3 n hv3 (by rw[hx,e3];rfl)
  subst hv3
  rw[e3,zd] at hx
  have K3:=K2.call a3
  have g3_4:=(a3.other n4s).trans g2_4
  have g3_5:=(a3.other n5s).trans g2_5
  have q3:=(a3.other hqr).trans q2
  simp(disch:=first|omega|assumption) only[g3_5,q3,go_sem]
  refine goK_both (zb4 q3 hqr K3.here hl) (fun v H4 ⟨x1,t4,e4,hv4,a4⟩=>?_) fun v H4 ⟨n,e4,hv4⟩=>pan v H4 n hv4 (by rw[hx,e4];rfl)
  subst hv4
  rw[e4,zd] at hx
  have K4:=K3.call a4
  have g4_4:=(a4.other n4s).trans g3_4
  have g4_5:=(a4.other n5s).trans g3_5
  have q4:=(a4.other hqr).trans q3
  have hlt1:=yH.lt (by decide) _ _ _ e4
  have hsl:=let ⟨_,hp,_⟩:=K3.here;ZN hp
  obtain⟨R,hR⟩:∃ R,zr [125] yw (t4.length+1) [x1] t4=R:=⟨_,rfl⟩
  rw[hR] at hx
  simp(disch:=first|omega|assumption) only[zi,ze,zb,zj,zf,za,zp,Zk,yO,g4_5,go_sem]
  refine goP_ownS (o:=.nil) rfl (by simp only[Al2,Al3];omega) (by simp only[Al2,Al3,maxLen];omega) fun oA HA hsA=>?_
  have Kn:KO H r L t4 (16-16) H4 .nil 0 6:=⟨K4,rfl,nofun⟩
  have KA:=Kn.app (by simpa using hsA)
  have gA5:=Kn.stay (by simpa using hsA) g4_5
  have gA4:=Kn.stay (by simpa using hsA) g4_4
  have qA:=Kn.stay (by simpa using hsA) q4
  simp(disch:=first|omega|assumption) only[zi,ze,zb,zj,zf,za,zp,gA5,Zk,yO,go_sem]
  refine goL_st (fun x:Own×List FldD×TS=>[]) (fun x H'=>KO H r L x.2.2 (16-16) H' x.1 x.2.1.length 6∧H' b5=some (.cells [.int .i64 k,.str s,.sl .nil 1 [],.sl x.1 6 (cLs x.2.1),.sl .nil 1 [],.sl .nil 10 []])∧H' b4=some (.cells zE)∧H' q=some (.cells [.ptr r 0,A1,A2,A3,A4])∧(∃ m',x.2.2.length<m'∧zr [125] yw m' x.2.1 x.2.2=R)∧x.2.1.length+x.2.2.length≤L.length) (fun x=>x.2.2.length) (oA,[x1],t4) (by simp(disch:=first|omega|assumption) only[go_sem]) ⟨KA.box hb5H gA5,by rw[upd_same];simp[cLs,ZY],(upd_ne (Ne.symm h54)).trans gA4,(upd_ne nq5).trans qA,⟨_,Nat.lt_succ_self _,hR⟩,by simp only[List.length_singleton];omega⟩ ?_
  rintro⟨o,l,u⟩ H3 J ⟨K3,g35,g34,q3,⟨m',hm,hR3⟩,hlen⟩ hJ
  simp only at K3 g35 g34 q3 hm hR3 hlen
  obtain⟨m',rfl⟩:∃ j,m'=j+1:=⟨m'-1,by omega⟩
  have hcl:=zcn l
  simp(disch:=first|omega|assumption) only[q3,go_sem]
  refine goK_ret (zcA K3.here hl [125]) fun v H4 ⟨hv4,a4⟩=>?_
  subst hv4
  have q4:=(a4.other hqr).trans q3
  have g45:=(a4.other n5s).trans g35
  have g44:=(a4.other n4s).trans g34
  cases hj:isP [125] u with
  | true =>
   rw[yp,hj,if_pos rfl] at a4
   have e1:R=.ok (l,u.tail):=by rw[← hR3,zr,hj];rfl
   rw[e1] at hx
   simp only[zE] at g44
   simp(disch:=first|omega|assumption) only[g45,g44,h54,Ne.symm h54,go_sem]
   refine fin _ _ [.agg [.int .i64 k,.str s,.sl .nil 1 [],.sl o 6 (cLs l),.sl .nil 1 [],.sl .nil 10 []]] _ u.tail (by simp(disch:=first|omega|assumption) only[ir102,resvs,resv,go_sem]) hx ((K3.toKI.call a4).box hb4H) ?_
   simp[tupOf,AV.strip,AV.strip1,cE,zbS,cT,cWs]
  | false =>
   rw[yp,hj] at a4
   have K4:=K3.call (by simpa using a4)
   rw[zr,hj] at hR3
   simp only[Al7,if_false] at hR3
   simp(disch:=first|omega|assumption) only[q4,g45,go_sem]
   refine goK_both (zb4 q4 hqr K4.here hl) (fun v H5 ⟨x,t5,e5,hv5,a5⟩=>?_) fun v H5 ⟨n5,e5,hv5⟩=>pan v H5 n5 hv5 (by rw[hx,← hR3,e5];rfl)
   subst hv5
   rw[e5,zd] at hR3
   have hlt:=yH.lt (by decide) _ _ _ e5
   have K5:=K4.call a5
   have q5:=(a5.other hqr).trans q4
   have g55:=(a5.other n5s).trans g45
   have g54:=(a5.other n4s).trans g44
   simp(disch:=first|omega|assumption) only[zi,ze,zb,zj,zf,za,zp,Zk,yO,g55,go_sem]
   refine goP_ownS (by rw[hcl];exact K5.own) (by simp only[hcl,Al2,Al3];omega) (by simp only[hcl,Al2,Al3,maxLen];omega) fun o6 H6 hs6=>?_
   have K6:=K5.app (by simpa[hcl] using hs6)
   have q6:=K5.stay hs6 q5
   have g65:=K5.stay hs6 g55
   have g64:=K5.stay hs6 g54
   simp(disch:=first|omega|assumption) only[zi,ze,zb,zj,zf,za,zp,g65,Zk,yO,go_sem]
   refine goJ (hJ (o6,l++[x],t5) _ (by simp only;omega) ⟨by simpa using K6.box hb5H g65,by rw[upd_same];simp[cLs,ZY],(upd_ne (Ne.symm h54)).trans g64,(upd_ne nq5).trans q6,⟨m',by simp only;omega,hR3⟩,by simp only[Al5,Al2,Al3];omega⟩) (by simp(disch:=first|omega|assumption) only[go_sem])
theorem zgV {H:Heap} {r q:Nat} {L t:TS} {A1 A2 A3 A4:AV} (hq:H q=some (.cells [.ptr r 0,A1,A2,A3,A4])) (hqr:q≠r) (h:ZF H r L t (16-16)) (hl:wT L≤zq) :
  ACalls Tryz.prog 104 [.ptr q 0] H (RpE H r L (16-16) (ZP t) (fun x=>.agg (cE x))):=by
 refine zU (ACalls.goO (R:=fun v H'=>Yo H r L (16-16) (ZP t) (fun x=>.agg (cE x)) v.strip H') (RP:=fun v H'=>Yy (ZP t) v H') ir104 ck104 (Al4 _) fun KP Q hQ hP=>?_)
 have pan:∀(v:AV) (H1:Heap) (n:Int),v=zP n→(ZP t)=.error n→KP v H1:=fun v H1 n h1 h2=>hP v H1 H1 (Low.refl _) ⟨n,h2,h1⟩
 have fin:=KI.done hQ
 have hll:=Z2 hl
 simp only[zq] at hll
 have K0:KI H r L t (16-16) H:=let ⟨_,hs,hr⟩:=h;KI.start hs hr
 have hx:=Eq.refl (ZP t)
 have q0:=hq
 conv at hx=>rhs;unfold ZP
 simp only[ya] at hx
 simp(disch:=first|omega|assumption) only[ir104,go_sem]
 refine goA_intro fun b2 hb2=>?_
 have hb2H:=hb2
 have n2:=K0.ne hb2H
 have n2s:=Ne.symm n2
 have nq2:q≠b2:=fun e=>by subst e;rw[q0] at hb2;cases hb2
 simp(disch:=first|omega|assumption) only[q0,nq2,go_sem]
 refine goK_both (ZT (K0.box hb2H).here hl) (fun v H1 ⟨s,t1,e1,hv1,a1⟩=>?_) fun v H1 ⟨n,e1,hv1⟩=>pan v H1 n hv1 (by rw[hx,e1];rfl)
 subst hv1
 rw[e1,zd] at hx
 have K1:=(K0.box hb2H).call a1
 have g1_2:=(a1.other n2s).trans (upd_same ..)
 have q1:=(a1.other hqr).trans ((upd_ne nq2).trans q0)
 simp(disch:=first|omega|assumption) only[go_sem]
 refine goA_intro fun b3 hb3=>?_
 have h32:b3≠b2:=fun e=>by subst e;rw[g1_2] at hb3;cases hb3
 have hb3H:=K1.none hb3
 have n3:=K0.ne hb3H
 have n3s:=Ne.symm n3
 have nq3:q≠b3:=fun e=>by subst e;rw[q1] at hb3;cases hb3
 simp(disch:=first|omega|assumption) only[q1,nq3,go_sem]
 refine goK_both (Zu (K1.box hb3H).here hl _) (fun v H2 ⟨_,t2,e2,hv2,a2⟩=>?_) fun v H2 ⟨n,e2,hv2⟩=>pan v H2 n hv2 (by rw[hx,e2];rfl)
 subst hv2
 rw[e2,zd] at hx
 have K2:=(K1.box hb3H).call a2
 have g2_2:=(a2.other n2s).trans ((upd_ne (Ne.symm h32)).trans g1_2)
 have g2_3:=(a2.other n3s).trans (upd_same ..)
 have q2:=(a2.other hqr).trans ((upd_ne nq3).trans q1)
 simp(disch:=first|omega|assumption) only[g2_3,q2,go_sem]
 refine goK_both (zgW q2 hqr K2.here hl) (fun v H3 ⟨x1,t3,e3,hv3,a3⟩=>?_) fun v H3 ⟨n,e3,hv3⟩=>pan v H3 n hv3 (by rw[hx,e3];rfl)
 subst hv3
 rw[e3,zd] at hx
 have K3:=K2.call a3
 have g3_2:=(a3.other n2s).trans g2_2
 have g3_3:=(a3.other n3s).trans g2_3
 have q3:=(a3.other hqr).trans q2
 have hlt1:=Yg.lt (by decide) _ _ _ e3
 have hsl:=let ⟨_,hp,_⟩:=K2.here;ZN hp
 obtain⟨R,hR⟩:∃ R,zr [125] yP (t3.length+1) [x1] t3=R:=⟨_,rfl⟩
 rw[hR] at hx
 simp(disch:=first|omega|assumption) only[zi,ze,zb,zj,zf,za,zp,Al3,g3_3,go_sem]
 refine goP_ownS (o:=.nil) rfl (by simp only[Al2,Al3];omega) (by simp only[Al2,Al3,maxLen];omega) fun oA HA hsA=>?_
 have Kn:KO H r L t3 (16-16) H3 .nil 0 1:=⟨K3,rfl,nofun⟩
 have KA:=Kn.app (by simpa using hsA)
 have gA3:=Kn.stay (by simpa using hsA) g3_3
 have gA2:=Kn.stay (by simpa using hsA) g3_2
 have qA:=Kn.stay (by simpa using hsA) q3
 simp(disch:=first|omega|assumption) only[zi,ze,zb,zj,zf,za,zp,gA3,Al3,go_sem]
 refine goL_st (fun x:Own×List (List UInt8)×TS=>[]) (fun x H'=>KO H r L x.2.2 (16-16) H' x.1 x.2.1.length 1∧H' b3=some (.cells [.int .i64 4,.str s,.sl .nil 1 [],.sl .nil 6 [],.sl x.1 1 (cT x.2.1),.sl .nil 10 []])∧H' b2=some (.cells zE)∧H' q=some (.cells [.ptr r 0,A1,A2,A3,A4])∧(∃ m',x.2.2.length<m'∧zr [125] yP m' x.2.1 x.2.2=R)∧x.2.1.length+x.2.2.length≤L.length) (fun x=>x.2.2.length) (oA,[x1],t3) (by simp(disch:=first|omega|assumption) only[go_sem]) ⟨KA.box hb3H gA3,by rw[upd_same];simp[cT,List.map_nil],(upd_ne (Ne.symm h32)).trans gA2,(upd_ne nq3).trans qA,⟨_,Nat.lt_succ_self _,hR⟩,by simp only[List.length_singleton];omega⟩ ?_
 rintro⟨o,l,u⟩ H3 J ⟨K3,g33,g32,q3,⟨m',hm,hR3⟩,hlen⟩ hJ
 simp only at K3 g33 g32 q3 hm hR3 hlen
 obtain⟨m',rfl⟩:∃ j,m'=j+1:=⟨m'-1,by omega⟩
 have hcl:=zck l
 simp(disch:=first|omega|assumption) only[q3,go_sem]
 refine goK_ret (zcA K3.here hl [125]) fun v H4 ⟨hv4,a4⟩=>?_
 subst hv4
 have q4:=(a4.other hqr).trans q3
 have g43:=(a4.other n3s).trans g33
 have g42:=(a4.other n2s).trans g32
 cases hj:isP [125] u with
 | true =>
  rw[yp,hj,if_pos rfl] at a4
  have e1:R=.ok (l,u.tail):=by rw[← hR3,zr,hj];rfl
  rw[e1] at hx
  simp only[zE] at g42
  simp(disch:=first|omega|assumption) only[g43,g42,h32,Ne.symm h32,go_sem]
  refine fin _ _ [.agg [.int .i64 4,.str s,.sl .nil 1 [],.sl .nil 6 [],.sl o 1 (cT l),.sl .nil 10 []]] _ u.tail (by simp(disch:=first|omega|assumption) only[ir104,resvs,resv,go_sem]) hx ((K3.toKI.call a4).box hb2H) ?_
  simp[tupOf,AV.strip,AV.strip1,cE,zcG,cT,cLs,cWs]
 | false =>
  rw[yp,hj] at a4
  have K4:=K3.call (by simpa using a4)
  rw[zr,hj] at hR3
  simp only[Al7,if_false] at hR3
  simp(disch:=first|omega|assumption) only[q4,g43,go_sem]
  refine goK_both (zgW q4 hqr K4.here hl) (fun v H5 ⟨x,t5,e5,hv5,a5⟩=>?_) fun v H5 ⟨n5,e5,hv5⟩=>pan v H5 n5 hv5 (by rw[hx,← hR3,e5];rfl)
  subst hv5
  rw[e5,zd] at hR3
  have hlt:=Yg.lt (by decide) _ _ _ e5
  have K5:=K4.call a5
  have q5:=(a5.other hqr).trans q4
  have g53:=(a5.other n3s).trans g43
  have g52:=(a5.other n2s).trans g42
  simp(disch:=first|omega|assumption) only[zi,ze,zb,zj,zf,za,zp,Al3,g53,go_sem]
  refine goP_ownS (by rw[hcl];exact K5.own) (by simp only[hcl,Al2,Al3];omega) (by simp only[hcl,Al2,Al3,maxLen];omega) fun o6 H6 hs6=>?_
  have K6:=K5.app (by simpa[hcl] using hs6)
  have q6:=K5.stay hs6 q5
  have g63:=K5.stay hs6 g53
  have g62:=K5.stay hs6 g52
  simp(disch:=first|omega|assumption) only[zi,ze,zb,zj,zf,za,zp,g63,Al3,go_sem]
  refine goJ (hJ (o6,l++[x],t5) _ (by simp only;omega) ⟨by simpa using K6.box hb3H g63,by rw[upd_same];simp[cT,List.map_nil],(upd_ne (Ne.symm h32)).trans g62,(upd_ne nq3).trans q6,⟨m',by simp only;omega,hR3⟩,by simp only[Al5,Al2,Al3];omega⟩) (by simp(disch:=first|omega|assumption) only[go_sem])
theorem zfX {H:Heap} {r q:Nat} {L t:TS} {A1 A2 A3 A4:AV} (hq:H q=some (.cells [.ptr r 0,A1,A2,A3,A4])) (hqr:q≠r) (h:ZF H r L t (16-16)) (hl:wT L≤zq) :
  ACalls Tryz.prog 103 [.ptr q 0] H (RpE H r L (16-16) (yK t) (fun x=>.agg (cE x))):=by
 refine zU (ACalls.goO (R:=fun v H'=>Yo H r L (16-16) (yK t) (fun x=>.agg (cE x)) v.strip H') (RP:=fun v H'=>Yy (yK t) v H') ir103 ck103 (Al4 _) fun KP Q hQ hP=>?_)
 have pan:∀(v:AV) (H1:Heap) (n:Int),v=zP n→(yK t)=.error n→KP v H1:=fun v H1 n h1 h2=>hP v H1 H1 (Low.refl _) ⟨n,h2,h1⟩
 have fin:=KI.done hQ
 have hll:=Z2 hl
 simp only[zq] at hll
 have K0:KI H r L t (16-16) H:=let ⟨_,hs,hr⟩:=h;KI.start hs hr
 have hx:=Eq.refl (yK t)
 have q0:=hq
 conv at hx=>rhs;unfold yK
 simp(disch:=first|omega|assumption) only[ir103,go_sem]
 refine goA_intro fun b2 hb2=>?_
 have hb2H:=hb2
 have n2:=K0.ne hb2H
 have n2s:=Ne.symm n2
 have nq2:q≠b2:=fun e=>by subst e;rw[q0] at hb2;cases hb2
 simp(disch:=first|omega|assumption) only[q0,nq2,go_sem]
 refine goK_both (ZT (K0.box hb2H).here hl) (fun v H1 ⟨s,t1,e1,hv1,a1⟩=>?_) fun v H1 ⟨n,e1,hv1⟩=>pan v H1 n hv1 (by rw[hx,e1];rfl)
 subst hv1
 rw[e1,zd] at hx
 have K1:=(K0.box hb2H).call a1
 have g1_2:=(a1.other n2s).trans (upd_same ..)
 have q1:=(a1.other hqr).trans ((upd_ne nq2).trans q0)
 simp(disch:=first|omega|assumption) only[go_sem]
 refine goA_intro fun b3 hb3=>?_
 have h32:b3≠b2:=fun e=>by subst e;rw[g1_2] at hb3;cases hb3
 have hb3H:=K1.none hb3
 have n3:=K0.ne hb3H
 have n3s:=Ne.symm n3
 have nq3:q≠b3:=fun e=>by subst e;rw[q1] at hb3;cases hb3
 simp(disch:=first|omega|assumption) only[q1,nq3,go_sem]
 refine goK_both (Zu (K1.box hb3H).here hl _) (fun v H2 ⟨_,t2,e2,hv2,a2⟩=>?_) fun v H2 ⟨n,e2,hv2⟩=>pan v H2 n hv2 (by rw[hx,e2];rfl)
 subst hv2
 rw[e2,zd] at hx
 have K2:=(K1.box hb3H).call a2
 have g2_2:=(a2.other n2s).trans ((upd_ne (Ne.symm h32)).trans g1_2)
 have g2_3:=(a2.other n3s).trans (upd_same ..)
 have q2:=(a2.other hqr).trans ((upd_ne nq3).trans q1)
 simp(disch:=first|omega|assumption) only[q2,go_sem]
 refine goK_both (zf3 [124] q2 hqr K2.here hl) (fun v H3 ⟨l,t3,e3,hv3,a3⟩=>?_) fun v H3 ⟨n,e3,hv3⟩=>pan v H3 n hv3 (by rw[hx,e3];rfl)
 subst hv3
 rw[e3,zd] at hx
 have K3:=K2.call a3
 have g3_2:=(a3.other n2s).trans g2_2
 have g3_3:=(a3.other n3s).trans g2_3
 have q3:=(a3.other hqr).trans q2
 simp(disch:=first|omega|assumption) only[g3_3,g3_2,h32,Ne.symm h32,go_sem]
 refine fin _ _ [.agg [.int .i64 3,.str s,.sl .nil 1 [],.sl .nil 6 [],.sl .no 1 (cT l),.sl .nil 10 []]] _ _ (by simp(disch:=first|omega|assumption) only[ir103,resvs,resv,go_sem]) hx ((K3.box hb3H).box hb2H) (by simp[tupOf,AV.strip,AV.strip1,cE,cT,cWs,cLs])
theorem zfh {H:Heap} {r q:Nat} {L t:TS} {A1 A2 A3 A4:AV} (hq:H q=some (.cells [.ptr r 0,A1,A2,A3,A4])) (hqr:q≠r) (h:ZF H r L t (16-16)) (hl:wT L≤zq) :
  ACalls Tryz.prog 105 [.ptr q 0] H (RpE H r L (16-16) (yU t) (fun x=>.agg (cE x))):=by
 refine zU (ACalls.goO (R:=fun v H'=>Yo H r L (16-16) (yU t) (fun x=>.agg (cE x)) v.strip H') (RP:=fun v H'=>Yy (yU t) v H') ir105 ck105 (Al4 _) fun KP Q hQ hP=>?_)
 have pan:∀(v:AV) (H1:Heap) (n:Int),v=zP n→(yU t)=.error n→KP v H1:=fun v H1 n h1 h2=>hP v H1 H1 (Low.refl _) ⟨n,h2,h1⟩
 have fin:=KI.done hQ
 have hll:=Z2 hl
 simp only[zq] at hll
 have K0:KI H r L t (16-16) H:=let ⟨_,hs,hr⟩:=h;KI.start hs hr
 have hx:=Eq.refl (yU t)
 have q0:=hq
 conv at hx=>rhs;unfold yU
 simp(disch:=first|omega|assumption) only[ir105,go_sem]
 refine goA_intro fun b2 hb2=>?_
 have hb2H:=hb2
 have n2:=K0.ne hb2H
 have n2s:=Ne.symm n2
 have nq2:q≠b2:=fun e=>by subst e;rw[q0] at hb2;cases hb2
 simp(disch:=first|omega|assumption) only[q0,nq2,go_sem]
 refine goK_both (ZT (K0.box hb2H).here hl) (fun v H1 ⟨s,t1,e1,hv1,a1⟩=>?_) fun v H1 ⟨n,e1,hv1⟩=>pan v H1 n hv1 (by rw[hx,e1];rfl)
 subst hv1
 rw[e1,zd] at hx
 have K1:=(K0.box hb2H).call a1
 have g1_2:=(a1.other n2s).trans (upd_same ..)
 have q1:=(a1.other hqr).trans ((upd_ne nq2).trans q0)
 simp(disch:=first|omega|assumption) only[go_sem]
 refine goA_intro fun b3 hb3=>?_
 have h32:b3≠b2:=fun e=>by subst e;rw[g1_2] at hb3;cases hb3
 have hb3H:=K1.none hb3
 have n3:=K0.ne hb3H
 have n3s:=Ne.symm n3
 have nq3:q≠b3:=fun e=>by subst e;rw[q1] at hb3;cases hb3
 simp(disch:=first|omega|assumption) only[q1,nq3,go_sem]
 refine goK_both (Zu (K1.box hb3H).here hl _) (fun v H2 ⟨_,t2,e2,hv2,a2⟩=>?_) fun v H2 ⟨n,e2,hv2⟩=>pan v H2 n hv2 (by rw[hx,e2];rfl)
 subst hv2
 rw[e2,zd] at hx
 have K2:=(K1.box hb3H).call a2
 have g2_2:=(a2.other n2s).trans ((upd_ne (Ne.symm h32)).trans g1_2)
 have g2_3:=(a2.other n3s).trans (upd_same ..)
 have q2:=(a2.other hqr).trans ((upd_ne nq3).trans q1)
 simp(disch:=first|omega|assumption) only[q2,go_sem]
 refine goK_both (zd8 [125] q2 hqr K2.here hl) (fun v H3 ⟨l,t3,e3,hv3,a3⟩=>?_) fun v H3 ⟨n,e3,hv3⟩=>pan v H3 n hv3 (by rw[hx,e3];rfl)
 subst hv3
 rw[e3,zd] at hx
 have K3:=K2.call a3
 have g3_2:=(a3.other n2s).trans g2_2
 have g3_3:=(a3.other n3s).trans g2_3
 have q3:=(a3.other hqr).trans q2
 simp(disch:=first|omega|assumption) only[g3_3,g3_2,h32,Ne.symm h32,go_sem]
 refine fin _ _ [.agg [.int .i64 5,.str s,.sl .nil 1 [],.sl .nil 6 [],.sl .nil 1 [],.sl .no 10 (cWs l)]] _ _ (by simp(disch:=first|omega|assumption) only[ir105,resvs,resv,go_sem]) hx ((K3.box hb3H).box hb2H) (by simp[tupOf,AV.strip,AV.strip1,cE,cT,cWs,cLs])
def yF {α:Type} (f:TS→PR α):Prop:=∀ t n,f t=.error n→n≠0
theorem zh {α β:Type} {x:PR α} {f:α→TS→PR β} {e:Int} (h:pb x f=.error e) (hx:∀ n,x=.error n→n≠0) (hf:∀ a t,x=.ok (a,t)→f a t=.error e→e≠0):e≠0:=by
 rcases x with n|⟨a,t⟩
 ·cases h;exact hx _ rfl
 ·exact hf a t rfl h
theorem z1 (m:List UInt8):yF (zG m):=fun t n h=>by
 unfold zG at h
 split at h
 ·cases h
 ·cases h;decide
theorem zK:yF zv:=fun t n h=>by
 unfold zv at h
 split at h
 ·cases h
 ·cases h;decide
theorem za5 (ty:TyD):yF (Ys ty):=fun t n h=>by
 unfold Ys at h
 split at h<;>cases h
theorem YZ {α:Type} {m:List UInt8} {f:TS→PR α} (hf:yF f) (hl:∀ t a t',f t=.ok (a,t')→t'.length<t.length):∀(n:Nat) (l:List α) (t:TS) (e:Int),t.length<n→zr m f n l t=.error e→e≠0
 | 0,_,_,_,h,_=>absurd h (Nat.not_lt_zero _)
 | n+1,l,t,e,hn,h=>by
  rw[zr] at h
  split at h
  ·cases h
  ·exact zh h (fun k hk=>hf _ _ hk) fun a t' ha h'=>YZ hf hl n _ _ _ (by have:=hl _ _ _ ha;omega) h'
theorem Zx {α:Type} {m:List UInt8} {f:TS→PR α} (hf:yF f) (hl:∀ t a t',f t=.ok (a,t')→t'.length<t.length):yF (ya m f):=fun t n h =>
 zh h (fun k hk=>hf _ _ hk) fun a t' ha h'=>YZ hf hl _ _ _ _ (Nat.lt_succ_self _) h'
theorem zag {α:Type} {m:List UInt8} {f:TS→PR α} (hf:yF f) (hl:∀ t a t',f t=.ok (a,t')→t'.length<t.length):∀(n:Nat) (l:List α) (t:TS) (e:Int),t.length<n→zH m f n l t=.error e→e≠0
 | 0,_,_,_,h,_=>absurd h (Nat.not_lt_zero _)
 | n+1,l,t,e,hn,h=>by
  rw[zH] at h
  split at h
  ·rename_i hp
   have hlt:=zat hp
   exact zh h (fun k hk=>hf _ _ hk) fun a t' ha h'=>zag hf hl n _ _ _ (by have:=hl _ _ _ ha;omega) h'
  ·cases h
theorem zb7:∀ k,yF (Zo k)
 | 0=>fun t n h=>by
  rw[ZJ,zbs.eq_def] at h
  split at h
  ·cases h;decide
  ·exact zh h (fun k hk=>zK _ _ hk) fun s t1 _ h'=>za5 _ _ _ h'
 | k+1=>fun t n h=>by
  rw[ZJ,zbs.eq_def] at h
  split at h
  ·exact zh h (fun e he=>zb7 k _ _ he) fun ty t1 _ h'=>zh h' (fun e he=>z1 _ _ _ he) fun _ t2 _ h''=>za5 _ _ _ h''
  ·exact zh h (fun k hk=>zK _ _ hk) fun s t1 _ h'=>za5 _ _ _ h'
theorem zaE {f:TS→PR Val} (hf:yF f):yF (zF f):=fun t n h =>
 zh h (fun e he=>zK _ _ he) fun s t1 _ h'=>zh h' (fun e he=>z1 _ _ _ he) fun _ t2 _ h2=>zh h2 (fun e he=>hf _ _ he) fun x t3 _ h3=>by cases h3
theorem zd2 {fixed:Bool} {sub:Option (TS→PR Val)} (hs:∀ f,sub=some f→yF f∧GP bV wfV 1 f):yF (Zi fixed sub):=fun t n h=>by
 rw[Zi.eq_def] at h
 split at h
 ·cases h
 split at h
 ·cases h
 split at h
 ·cases h
 split at h
 ·cases sub with
  | none=>cases h;decide
  | some f =>
   obtain⟨h1,h2⟩:=hs f rfl
   exact zh h (fun e he=>YZ h1 (h2.lt (by decide)) _ _ _ _ (Nat.lt_succ_self _) he) fun l t' _ h'=>by cases h'
 split at h
 ·cases sub with
  | none=>cases h;decide
  | some f =>
   obtain⟨h1,h2⟩:=hs f rfl
   exact zh h (fun e he=>YZ (zaE h1) ((yh h2).lt (by decide)) _ _ _ _ (Nat.lt_succ_self _) he) fun l t' _ h'=>by cases h'
 split at h
 ·cases h;decide
 ·exact zh h (fun e he=>z1 _ _ _ he) fun _ t1 _ h1=>zh h1 (fun e he=>zK _ _ he) fun s t2 _ h2=>by cases h2
theorem zcp (fixed:Bool):∀ k,yF (zX fixed k)
 | 0=>fun t n h=>zd2 (sub:=none) (fun f hf=>by cases hf) t n (by rw[zL] at h;exact h)
 | k+1=>fun t n h=>zd2 (sub:=some (zX fixed k)) (fun f hf=>by cases hf;exact⟨zcp fixed k,yB fixed k⟩) t n (by rw[zL] at h;exact h)
theorem zfV (fixed:Bool) (k:Nat):yF (Zw fixed k):=fun t n h=>by
 unfold Zw at h
 split at h
 ·exact Zx (zaE (zcp fixed k)) ((yh (yB fixed k)).lt (by decide)) _ _ h
 ·cases h
theorem zgF (fixed:Bool) (k:Nat):yF (zbq fixed k):=fun t n h =>
 zh h (fun e he=>zK _ _ he) fun s t1 _ h1=>zh h1 (fun e he=>zfV _ _ _ _ he) fun a t2 _ h2=>by cases h2
theorem zfe (fixed:Bool) (k:Nat):yF (Z0 fixed k):=fun t n h =>
 zag (zgF fixed k) ((zaR fixed k).lt (by decide)) _ _ _ _ (Nat.lt_succ_self _) h
theorem zby:yF z6:=fun t n h =>
 zh h (fun e he=>zK _ _ he) fun s t2 _ h2=>zh h2 (fun e he=>z1 _ _ _ he) fun _ t3 _ h3=>zh h3 (fun e he=>zb7 4 _ _ he) fun ty t4 _ h4=>by
  split at h4
  ·exact zh h4 (fun e he=>zcp true 16 _ _ he) fun v t5 _ h5=>by cases h5
  ·cases h4
theorem zeH:yF yw:=fun t n h=>by
 refine zh h (fun e he=>zK _ _ he) fun s t2 _ h2=>zh h2 (fun e he=>?_) fun ps t3 _ h3=>zh h3 (fun e he=>z1 _ _ _ he) fun _ t4 _ h4=>zh h4 (fun e he=>zb7 4 _ _ he) fun ty t5 _ h5=>zh h5 (fun e he=>zfe _ _ _ _ he) fun d t6 _ h6=>by cases h6
 split at he
 ·exact Zx zby (yN.lt (by decide)) _ _ he
 ·cases he
theorem zbH (m:List UInt8):yF (yu m):=fun t n h =>
 zh h (fun e he=>zK _ _ he) fun s t2 _ h2=>zag zK (zu.lt (by decide)) _ _ _ _ (Nat.lt_succ_self _) h2
theorem zfW:yF yP:=fun t n h=>by
 unfold yP at h
 split at h
 ·cases h;decide
 ·exact zK _ _ h
theorem zet (k:Int):yF (Ym k):=fun t n h=>by
 refine zh h (fun e he=>zK _ _ he) fun s t2 _ h2=>zh h2 (fun e he=>?_) fun fs t3 _ h3=>zh h3 (fun e he=>z1 _ _ _ he) fun _ t4 _ h4=>zh h4 (fun e he=>Zx zeH (yH.lt (by decide)) _ _ he) fun l t5 _ h5=>by cases h5
 split at he
 ·exact zbH _ _ _ he
 ·cases he
theorem zfM:yF ZP:=fun t n h =>
 zh h (fun e he=>zK _ _ he) fun s t2 _ h2=>zh h2 (fun e he=>z1 _ _ _ he) fun _ t3 _ h3=>zh h3 (fun e he=>Zx zfW (Yg.lt (by decide)) _ _ he) fun l t4 _ h4=>by cases h4
theorem zeQ:yF yK:=fun t n h =>
 zh h (fun e he=>zK _ _ he) fun s t2 _ h2=>zh h2 (fun e he=>z1 _ _ _ he) fun _ t3 _ h3=>zh h3 (fun e he=>zbH _ _ _ he) fun l t4 _ h4=>by cases h4
theorem zeB:yF yU:=fun t n h =>
 zh h (fun e he=>zK _ _ he) fun s t2 _ h2=>zh h2 (fun e he=>z1 _ _ _ he) fun _ t3 _ h3=>zh h3 (fun e he=>Zx zby (yN.lt (by decide)) _ _ he) fun l t4 _ h4=>by cases h4
theorem zgf (d:SR):yF (ZQ d):=fun t n h=>by
 refine zh h (fun e he=>z1 _ _ _ he) fun _ t2 _ h2=>zh h2 (fun e he=>?_) fun _ t3 _ h3=>zh h3 (fun e he=>z1 _ _ _ he) fun _ t4 _ h4=>zh h4 (fun e he=>zK _ _ he) fun q t5 _ h5=>zh h5 (fun e he=>?_) fun m t6 _ h6=>zh h6 (fun e he=>z1 _ _ _ he) fun _ t7 _ h7=>by cases h7
 ·split at he
  ·cases he
  ·cases he;decide
 ·split at he
  ·exact zh he (fun e he=>z1 _ _ _ he) fun _ t6 _ h6=>zK _ _ h6
  ·cases he
theorem zc4 (d:SR):yF (zn d):=fun t n h=>by
 have put:∀ {f:TS→PR DefD} {t:TS},yF f→pb (f t) (fun x t=>(.ok (yj d x,t):PR SR))=.error n→n≠0:=fun hf h=>zh h (fun e he=>hf _ _ he) fun x t _ h=>by cases h
 unfold zn yD at h
 split at h
 ·exact zgf _ _ _ h
 split at h
 ·exact put (zet 1) h
 split at h
 ·exact put (zet 2) h
 split at h
 ·exact put zeQ h
 split at h
 ·exact put zfM h
 split at h
 ·exact put zeB h
 ·cases h;decide
theorem zbf {d:SR} {t:TS} {d':SR} {t':TS} (h:zn d t=.ok (d',t')):t'.length<t.length:=by
 obtain⟨p,hp⟩:=(Yc h).suf
 cases p with
 | nil=>simp at hp;subst hp;exact absurd h (zcY d d' _)
 | cons x p=>rw[← hp];simp;omega
def SI (d:SR):Prop:=d.told=false→d.q=[]∧d.m=[]
theorem zbz {d:SR} {t:TS} {d':SR} {t':TS} (h:zn d t=.ok (d',t')):d'.defs.length≤d.defs.length+1∧(SI d→SI d'):=by
 have put:∀ {f:TS→PR DefD} {t:TS},pb (f t) (fun x t=>(.ok (yj d x,t):PR SR))=.ok (d',t')→d'.defs.length≤d.defs.length+1∧(SI d→SI d'):=fun h=>by
  obtain⟨x,t1,_,h2⟩:=zc h
  cases h2
  exact⟨by simp[yj],id⟩
 unfold zn yD at h
 split at h
 ·obtain⟨_,t1,h1,h2⟩:=zc h
  obtain⟨_,t2,h3,h4⟩:=zc h2
  obtain⟨_,t3,h5,h6⟩:=zc h4
  obtain⟨q,t4,h7,h8⟩:=zc h6
  obtain⟨m,t5,h9,h10⟩:=zc h8
  obtain⟨_,t6,h11,h12⟩:=zc h10
  cases h12
  exact⟨Nat.le_succ _,fun _ e=>by cases e⟩
 split at h
 ·exact put h
 split at h
 ·exact put h
 split at h
 ·exact put h
 split at h
 ·exact put h
 split at h
 ·exact put h
 ·cases h
theorem zbC:∀(n:Nat) (d:SR) (t:TS) (e:Int),t.length<n→zI n d t=.error e→e≠0
 | 0,_,_,_,h,_=>absurd h (Nat.not_lt_zero _)
 | n+1,d,t,e,hn,h=>by
  rw[zI] at h
  split at h
  ·cases h
  ·exact zh h (fun k hk=>zc4 _ _ _ hk) fun d' t' ha h'=>zbC n _ _ _ (by have:=zbf ha;omega) h'
theorem zei:yF ZU:=fun t n h =>
 zh h (fun e he=>zc4 _ _ _ he) fun d t1 ha h1=>zbC _ _ _ _ (Nat.lt_succ_self _) h1
theorem YL {f:FuncId} {args:List AV} {H:Heap} {b:Nat} {x:AObj} {Q:AEnd→Heap→Prop} (hb:H b=some x) (h:ACalls Tryz.prog f args (H.del b) Q) :
  ACalls Tryz.prog f args H (fun e H'=>∃ A,Q e A∧A b=none∧H'=Heap.union A (Heap.one b x)):=by
 have hd:Heap.Disj (H.del b) (Heap.one b x):=fun c=>by
  by_cases e:c=b
  ·subst e;exact .inl (by simp[Heap.del])
  ·exact .inr (by simp[Heap.one,e])
 have hu:H=Heap.union (H.del b) (Heap.one b x):=by
  funext c
  by_cases e:c=b
  ·subst e;simp[Heap.union,Heap.del,Heap.one,hb]
  ·simp[Heap.union,Heap.del,Heap.one,e]
 have h2:=ACalls.frame hd h
 rw[← hu] at h2
 refine h2.mono fun e H' ⟨A,q,hd',hH⟩=>⟨A,q,?_,hH⟩
 rcases hd' b with h|h
 ·exact h
 ·simp[Heap.one] at h
open Go.Lib
end Go.Proofs.YtaielcdfcgpbiaaGreatDoor
namespace Go.Proofs.YtaielcdfcgpbiaaGreatDoor
open Go.Ab
abbrev zid (R:AV→Heap→Prop):AEnd→Heap→Prop:=fun e H'=>∃ v,e=.ret v∧R v H'
section
variable {KP:AV→Heap→Prop} {Q:AExit→Env→Heap→Prop} {st:List Fr} {ρ:Env} {H:Heap} {all items:List AItem} {d:Option Nat} {R:List Chk}
end
open Go.Lib
def yk (l:List (List UInt8)):List AV:=l.map AV.str
theorem yE (l:List (List UInt8)):(yk l).length=l.length:=by simp[yk]
def MsT (H:Heap) (b cap:Nat) (l:List (List UInt8)):Prop:=∃ tl,H b=some (.cells (yk l++tl))∧l.length+tl.length=cap
theorem zdI (z:AV):∀ n,(madeA [z] n).length=n
 | 0=>rfl
 | n+1=>by simp[madeA,zdI z n]
section
variable {KP:AV→Heap→Prop} {Q:AExit→Env→Heap→Prop} {st:List Fr} {ρ:Env} {H:Heap} {all items:List AItem} {d:Option Nat} {R:List Chk}
theorem zhb {b cap:Nat} {l:List (List UInt8)} {x:List UInt8} {o2:Own} (h:MsT H b cap l) (h1:(l.length+1)*16≤140737488355328) (h2:l.length+1≤maxLen)
  (k:∀ b' cap' H',MsT H' b' cap' (l++[x])→goR Tryz.prog KP Q all items st R (ρ.set d (.ms b' 0 (l.length+1) cap')) H') :
  goPm Tryz.prog KP Q all items st d R ρ 1 16 [.str []] (.ms b 0 l.length cap) (.sl o2 1 [[.str x]]) H:=by
 obtain⟨tl,hb,hc⟩:=h
 refine goPm_ms hb rfl (by simpa using h1) (by simpa using h2) (fun hfit=>⟨?_,?_⟩) (fun hnf=>⟨?_,fun b' cap' hb' hcap' hm'=>?_⟩)
 ·have hfit:l.length+1≤cap:=hfit
  simp[yE];omega
 ·have hfit:l.length+1≤cap:=hfit
  obtain⟨t0,tl,rfl⟩:∃ t0 t1,tl=t0::t1:=by
   cases tl with
   | nil=>simp at hc;omega
   | cons a b=>exact⟨a,b,rfl⟩
  refine k b cap _ ⟨tl,?_,by simp at hc ⊢;omega⟩
  rw[upd_same]
  simp only[splice,List.flatten_cons,List.flatten_nil,List.append_nil,List.map_cons,List.map_nil,AV.strip1,Al2,Al3,Nat.zero_add,Nat.mul_one]
  rw[List.take_left' (yE l),List.drop_append,List.drop_eq_nil_of_le (by rw[yE];omega),yE,Nat.add_sub_cancel_left]
  simp[yk]
 ·simp[yE]
 ·refine k b' cap' _ ⟨madeA [.str []] (cap'-(l.length+1)),?_,?_⟩
  ·rw[upd_same]
   simp only[List.drop_zero,Nat.mul_one,List.flatten_cons,List.flatten_nil,List.append_nil,List.map_cons,List.map_nil,AV.strip1,Al2,Al3,Nat.zero_add]
   rw[List.take_left' (yE l)]
   simp[yk]
  ·have hcap':l.length+1≤cap':=hcap'
   rw[zdI];simp;omega
theorem zgt {x:List UInt8} {o2:Own} (k:∀ b' cap' H',MsT H' b' cap' [x]→goR Tryz.prog KP Q all items st R (ρ.set d (.ms b' 0 1 cap')) H') :
  goPm Tryz.prog KP Q all items st d R ρ 1 16 [.str []] (.sl .nil 1 []) (.sl o2 1 [[.str x]]) H:=by
 refine goPm_nil rfl (by simp) (by simp[maxLen]) (fun h=>by simp at h) fun _ b cap hb h1 h2=>?_
 have h1:1≤cap:=h1
 refine k b cap _ ⟨madeA [.str []] (cap-1),?_,by rw[zdI];simp;omega⟩
 rw[upd_same]
 simp[yk,AV.strip1]
end
theorem YO {cur r:List UInt8} {c:UInt8} (h:¬ (c=10∨c=13)):zC cur (c::r)=zC (cur++[c]) r:=by
 have h10:c≠10:=fun e=>h (.inl e)
 have h13:c≠13:=fun e=>h (.inr e)
 cases r with
 | nil=>simp[zC,h10,h13]
 | cons d r=>simp[zC,h10,h13]
theorem zb1 (cur r:List UInt8):zC cur (10::r)=cur::zC [] r:=by cases r<;>simp[zC]
theorem zb2 {cur r:List UInt8} (h:r.head?≠some 10):zC cur (13::r)=cur::zC [] r:=by
 cases r with
 | nil=>simp[zC]
 | cons d r =>
  have:d≠10:=by simpa using h
  simp[zC,this]
theorem za1 (cur r:List UInt8):zC cur (13::10::r)=cur::zC [] r:=by simp[zC]
def zgw (b cap:Nat) (l:List (List UInt8)):AV:=if l=[] then .sl .nil 1 [] else .ms b 0 l.length cap
theorem zcI (b cap:Nat):zgw b cap []=.sl .nil 1 []:=rfl
theorem YU {b cap:Nat} {l:List (List UInt8)} (h:l≠[]):zgw b cap l=.ms b 0 l.length cap:=if_neg h
def zhy (s:List UInt8):AEnd→Heap→Prop:=zid fun v H'=>∃ b cap,v=.ms b 0 (zo s).length cap∧MsT H' b cap (zo s)
section
variable {KP:AV→Heap→Prop} {Q:AExit→Env→Heap→Prop} {st:List Fr} {ρ:Env} {H:Heap} {all items:List AItem} {d:Option Nat} {R:List Chk}
theorem zaY {b cap:Nat} {l:List (List UInt8)} {x:List UInt8} {o2:Own} (h:l≠[]→MsT H b cap l) (h1:(l.length+1)*16≤140737488355328) (h2:l.length+1≤maxLen)
  (k:∀ b' cap' H',MsT H' b' cap' (l++[x])→goR Tryz.prog KP Q all items st R (ρ.set d (.ms b' 0 (l.length+1) cap')) H') :
  goPm Tryz.prog KP Q all items st d R ρ 1 16 [.str []] (zgw b cap l) (.sl o2 1 [[.str x]]) H:=by
 by_cases hl:l=[]
 ·subst hl
  rw[zcI]
  exact zgt fun b' cap' H' hm=>k b' cap' H' hm
 ·rw[YU hl]
  exact zhb (h hl) h1 h2 k
end
theorem zgB (s:List UInt8) (hs:s.length≤Lim):ACalls Tryz.prog 216 [.str s] Heap.emp (zhy s):=by
 refine ACalls.go ir216 ck216 (Al4 _) fun KP Q hQ=>?_
 have hs':=hs
 simp only[Lim] at hs'
 simp(disch:=first|omega|assumption) only[ir216,go_sem]
 refine goL_st (fun x:Nat×Nat×List (List UInt8)×Nat×Nat=>[(3,zgw x.2.2.2.1 x.2.2.2.2 x.2.2.1),(4,.int .i64 x.2.1),(5,.int .i64 x.1)]) (fun x H'=>x.2.1≤x.1∧x.1≤s.length∧x.2.2.1.length≤x.1∧x.2.2.1++zC ((s.take x.1).drop x.2.1) (s.drop x.1)=zo s∧(x.2.2.1≠[]→MsT H' x.2.2.2.1 x.2.2.2.2 x.2.2.1)) (fun x=>s.length-x.1) (0,0,[],0,0) (by simp(disch:=first|omega|assumption) only[zcI,go_sem]) ⟨Al4 _,Nat.zero_le _,Al4 _,by simp[zo],fun h=>absurd rfl h⟩ ?_
 rintro⟨i,fr,l,b,cap⟩ H1 J ⟨h1,h2,h3,h4,h5⟩ hJ
 simp only at h1 h2 h3 h4 h5
 by_cases hlt:i<s.length
 case neg =>
  obtain rfl:i=s.length:=by omega
  have hlt':¬ ((s.length:Int)<s.length):=by omega
  have hb1:((fr:Int)≤s.length)=True:=eq_true (by omega)
  rw[List.drop_length,List.take_length] at h4
  simp only[zC] at h4
  simp(disch:=first|omega|assumption) only[hlt',hb1,go_sem]
  refine zaY h5 (by omega) (by simp only[maxLen];omega) fun b' cap' H2 hm=>?_
  simp(disch:=first|omega|assumption) only[go_sem]
  exact hQ _ _ H2 H2 [_] nofun rfl (Low.refl _) ⟨b',cap',by rw[← h4];simp[tupOf,envOf,AV.strip,AV.strip1],by rw[← h4];exact hm⟩
 have hlt':((i:Int)<s.length)=True:=eq_true (by omega)
 obtain⟨c,r,hd⟩:∃ c r,s.drop i=c::r:=by
  cases hx:s.drop i with
  | nil=>have:=congrArg List.length hx;simp at this;omega
  | cons c r=>exact⟨c,r,rfl⟩
 have hc:s.getD i 0=c:=by
  have:(s.drop i).getD 0 0=c:=by rw[hd];rfl
  simpa[List.getD_eq_getElem?_getD] using this
 have hr:s.drop (i+1)=r:=by rw[← List.drop_drop,hd];rfl
 have htk:s.take (i+1)=s.take i++[c]:=by
  rw[List.take_add,hd];rfl
 have hcur:((s.take (i+1)).drop fr)=(s.take i).drop fr++[c]:=by
  rw[htk,zao (by simp;omega)]
 rw[hd] at h4
 have hb1:((fr:Int)≤(i:Int))=True:=eq_true (by omega)
 have hne9:l++[(s.take i).drop fr]≠[]:=by simp
 have hb2:((i:Int)≤s.length)=True:=eq_true (by omega)
 by_cases e10:c=10
 case pos =>
  subst e10
  rw[zb1] at h4
  have hcn:((10:UInt8).toNat:Int)=10:=rfl
  simp(disch:=first|omega|assumption) only[hlt',hc,hcn,hb1,hb2,go_sem]
  refine zaY h5 (by omega) (by simp only[maxLen];omega) fun b' cap' H2 hm=>?_
  simp(disch:=first|omega|assumption) only[hc,hcn,wrap64,go_sem]
  refine goJ (hJ (i+1,i+1,l++[(s.take i).drop fr],b',cap') H2 (by simp only;omega) ⟨Al4 _,by simp only;omega,by simp;omega,?_,fun _=>hm⟩) (by simp(disch:=first|omega|assumption) only[YU hne9,Al5,Al2,Al3,Nat.zero_add,Int.natCast_add,go_sem])
  rw[hr]
  simpa using h4
 by_cases e13:c=13
 case neg =>
  rw[YO (by simp[e10,e13])] at h4
  have c10:¬ ((c.toNat:Int)=10):=fun e=>e10 (UInt8.toNat_inj.1 (by simpa using (by omega:c.toNat=10)))
  have c13:¬ ((c.toNat:Int)=13):=fun e=>e13 (UInt8.toNat_inj.1 (by simpa using (by omega:c.toNat=13)))
  simp(disch:=first|omega|assumption) only[hlt',hc,c10,c13,wrap64,go_sem]
  refine goJ (hJ (i+1,fr,l,b,cap) H1 (by simp only;omega) ⟨by simp only;omega,by simp only;omega,by simp only;omega,?_,h5⟩) (by simp(disch:=first|omega|assumption) only[Int.natCast_add,go_sem])
  rw[hr,hcur];exact h4
 subst e13
 have hcn:((13:UInt8).toNat:Int)=13:=rfl
 by_cases h10:r.head?=some 10
 case neg =>
  rw[zb2 h10] at h4
  by_cases hi2:i+1<s.length
  case neg =>
   have hi2':¬ ((i:Int)+1<s.length):=by omega
   simp(disch:=first|omega|assumption) only[hlt',hc,hcn,hb1,hb2,go_sem]
   refine zaY h5 (by omega) (by simp only[maxLen];omega) fun b' cap' H2 hm=>?_
   simp(disch:=first|omega|assumption) only[hc,hcn,wrap64,hi2',go_sem]
   refine goJ (hJ (i+1,i+1,l++[(s.take i).drop fr],b',cap') H2 (by simp only;omega) ⟨Al4 _,by simp only;omega,by simp;omega,?_,fun _=>hm⟩) (by simp(disch:=first|omega|assumption) only[YU hne9,Al5,Al2,Al3,Nat.zero_add,Int.natCast_add,go_sem])
   rw[hr]
   simpa using h4
  have hi2':((i:Int)+1<s.length)=True:=eq_true (by omega)
  obtain⟨e,r',hre⟩:∃ e r',r=e::r':=by
   cases r with
   | nil=>have:=congrArg List.length hr;simp at this;omega
   | cons e r'=>exact⟨e,r',rfl⟩
  have hge:s.getD (i+1) 0=e:=by
   have:(s.drop (i+1)).getD 0 0=e:=by rw[hr,hre];rfl
   simpa[List.getD_eq_getElem?_getD] using this
  have hne:e≠10:=by rw[hre] at h10;simpa using h10
  have hgn:¬ ((e.toNat:Int)=10):=fun x=>hne (UInt8.toNat_inj.1 (by simpa using (by omega:e.toNat=10)))
  have hg1:((i:Int)+1).toNat=i+1:=by omega
  simp(disch:=first|omega|assumption) only[hlt',hc,hcn,hb1,hb2,go_sem]
  refine zaY h5 (by omega) (by simp only[maxLen];omega) fun b' cap' H2 hm=>?_
  simp(disch:=first|omega|assumption) only[hc,hcn,wrap64,hi2',hg1,hge,hgn,go_sem]
  refine goJ (hJ (i+1,i+1,l++[(s.take i).drop fr],b',cap') H2 (by simp only;omega) ⟨Al4 _,by simp only;omega,by simp;omega,?_,fun _=>hm⟩) (by simp(disch:=first|omega|assumption) only[YU hne9,Al5,Al2,Al3,Nat.zero_add,Int.natCast_add,go_sem])
  rw[hr]
  simpa using h4
 obtain⟨r',hre⟩:∃ r',r=10::r':=by
  cases r with
  | nil=>cases h10
  | cons e r'=>simp only[List.head?_cons,Al1] at h10;subst h10;exact⟨r',rfl⟩
 rw[hre,za1] at h4
 have hi2:i+1<s.length:=by
  have:=congrArg List.length hr;rw[hre] at this;simp at this;omega
 have hi2':((i:Int)+1<s.length)=True:=eq_true (by omega)
 have hge:s.getD (i+1) 0=10:=by
  have:(s.drop (i+1)).getD 0 0=10:=by rw[hr,hre];rfl
  simpa[List.getD_eq_getElem?_getD] using this
 have hgn:((10:UInt8).toNat:Int)=10:=rfl
 have hg1:((i:Int)+1).toNat=i+1:=by omega
 have hr2:s.drop (i+1+1)=r':=by rw[← List.drop_drop,hr,hre];rfl
 simp(disch:=first|omega|assumption) only[hlt',hc,hcn,hb1,hb2,go_sem]
 refine zaY h5 (by omega) (by simp only[maxLen];omega) fun b' cap' H2 hm=>?_
 simp(disch:=first|omega|assumption) only[hc,hcn,wrap64,hi2',hg1,hge,hgn,go_sem]
 refine goJ (hJ (i+1+1,i+1+1,l++[(s.take i).drop fr],b',cap') H2 (by simp only;omega) ⟨Al4 _,by simp only;omega,by simp;omega,?_,fun _=>hm⟩) (by simp(disch:=first|omega|assumption) only[YU hne9,Al5,Al2,Al3,Nat.zero_add,Int.natCast_add,go_sem])
 rw[hr2]
 simpa using h4
theorem zc0 (c:UInt8):zbu c=true↔(c.toNat:Int)=9∨(c.toNat:Int)=32:=by
 simp only[zbu,Yp,zm]
 constructor
 ·rintro(rfl|rfl)
  ·exact .inl rfl
  ·exact .inr rfl
 ·rintro(h|h)
  ·exact .inl (UInt8.toNat_inj.1 (by simpa using (by omega:c.toNat=9)))
  ·exact .inr (UInt8.toNat_inj.1 (by simpa using (by omega:c.toNat=32)))
theorem zeR {a r:List UInt8} {c:UInt8} (ha:∀ x∈a,zbu x=true) (hc:zbu c=false):Zd (a++c::r)=a.length∧zD (a++c::r)=false:=by
 refine⟨?_,?_⟩
 ·unfold Zd
  induction a with
  | nil=>simp[hc]
  | cons x a ih=>simp[ha x (.head _),ih fun y hy=>ha y (.tail _ hy)]
 ·simp[zD,hc]
theorem zfR {a:List UInt8} (ha:∀ x∈a,zbu x=true):Zd a=a.length∧zD a=true:=by
 have hb:zD a=true:=ZB.2 ha
 exact⟨zeI hb,hb⟩
theorem Zz (s:List UInt8) (hs:s.length≤Lim):Pure Tryz.prog 246 [.str s] (.tup [.int .i64 (Zd s),.bool (!zD s)]):=by
 refine Pure.go ir246 ck246 (Al4 _) fun KP Q hQ=>?_
 have hs':=hs
 simp only[Lim] at hs'
 simp(disch:=first|omega|assumption) only[ir246,go_sem]
 refine goL_range s 7 (fun _:AV=>[]) (fun done rest _ H'=>∀ x∈done,zbu x=true) (.int .i64 0) (by simp(disch:=first|omega|assumption) only[go_sem]) (fun x hx=>nomatch hx) ?_ ?_
 ·rintro y H1 J hdn hlt
  obtain⟨g1,g2⟩:=zfR hdn
  simp(disch:=first|omega|assumption) only[hlt,go_sem]
  exact hQ _ _ _ _ nofun rfl (by simp[tupOf,envOf,AV.strip,AV.strip1,g1,g2])
 ·rintro done c rest y H1 J hd hlt hlt2 hdn hJ
  have hc:s.getD done.length 0=c:=by rw[hd];simp
  cases hb:zbu c with
  | false =>
   obtain⟨g1,g2⟩:=zeR (r:=rest) hdn hb
   rw[← hd] at g1 g2
   have hn:¬ ((c.toNat:Int)=9∨(c.toNat:Int)=32):=fun h=>by rw[(zc0 c).2 h] at hb;cases hb
   have n9:¬ ((c.toNat:Int)=9):=fun h=>hn (.inl h)
   have n32:¬ ((c.toNat:Int)=32):=fun h=>hn (.inr h)
   simp(disch:=first|omega|assumption) only[hlt,hc,n9,n32,go_sem]
   exact hQ _ _ _ _ nofun rfl (by simp[tupOf,envOf,AV.strip,AV.strip1,g1,g2])
  | true =>
   have hall:∀ x∈done++[c],zbu x=true:=fun x hx=>by
    rcases List.mem_append.1 hx with h|h
    ·exact hdn x h
    ·simp at h;subst h;exact hb
   rcases(zc0 c).1 hb with h9|h32
   ·simp(disch:=first|omega|assumption) only[hlt,hc,h9,wrap64,go_sem]
    exact goJ (hJ (.int .i64 0) _ hall) (by simp(disch:=first|omega|assumption) only[go_sem])
   ·have n9:¬ ((c.toNat:Int)=9):=by omega
    simp(disch:=first|omega|assumption) only[hlt,hc,n9,h32,wrap64,go_sem]
    exact goJ (hJ (.int .i64 0) _ hall) (by simp(disch:=first|omega|assumption) only[go_sem])
theorem Z5 (s:List UInt8) (hs:s.length≤Lim):Pure Tryz.prog 218 [.str s] (.bool (zD s)):=by
 refine Pure.go ir218 ck218 (Al4 _) fun KP Q hQ=>?_
 simp(disch:=first|omega|assumption) only[ir218,go_sem]
 refine goK_pure (Zz s hs) ?_
 simp(disch:=first|omega|assumption) only[go_sem]
 exact hQ _ _ _ _ nofun rfl (by simp[tupOf,envOf,AV.strip,AV.strip1])
theorem zdb {l a:List (List UInt8)} {x:List UInt8} {b:List (List UInt8)} (h:l=a++x::b) (tl:List AV):((yk l++tl).drop (0+a.length*1)).take 1=[.str x]:=by
 subst h;simp[yk]
theorem zdX {l a:List (List UInt8)} {x:List UInt8} {b:List (List UInt8)} (h:l=a++x::b) (tl:List AV):0+a.length*1+1≤(yk l++tl).length:=by
 subst h;simp[yk]
theorem zfs {H:Heap} {b cap:Nat} {l:List (List UInt8)} (h:MsT H b cap l) (hx:∀ s∈l,s.length≤Lim) (hl:l.length≤Lim) :
  ACalls Tryz.prog 217 [.ms b 0 l.length cap] H (zid fun v H'=>v=.int .i64 (indM l)∧H'=H):=by
 obtain⟨tl,hb,hc⟩:=h
 refine ACalls.go ir217 ck217 (Al4 _) fun KP Q hQ=>?_
 have hl':=hl
 simp only[Lim] at hl'
 simp(disch:=first|omega|assumption) only[ir217,go_sem]
 refine goL_range l 10 (fun n:Int=>[(3,.int .i64 n)]) (fun done rest n H'=>H'=H∧((done=[]∧n=-1)∨(done≠[]∧YA rest n=indM l))) (-1) (by simp(disch:=first|omega|assumption) only[go_sem]) ⟨rfl,.inl ⟨rfl,rfl⟩⟩ ?_ ?_
 ·rintro n H1 J ⟨rfl,hi⟩ hlt
  have e:n=indM l:=by
   rcases hi with ⟨h1,h2⟩|⟨_,h2⟩
   ·subst h1;subst h2;rfl
   ·simpa[YA] using h2
  simp(disch:=first|omega|assumption) only[hlt,go_sem]
  exact hQ _ _ _ _ [_] nofun rfl (Low.refl _) ⟨by simp[tupOf,envOf,AV.strip,AV.strip1,e],rfl⟩
 ·rintro done x rest n H1 J hd hlt hlt2 ⟨rfl,hi⟩ hJ
  have hg:=zdb hd tl
  have hle:=zdX hd tl
  have hxl:=hx x (by rw[hd];simp)
  have hne:done++[x]≠[]:=by simp
  by_cases h0:done.length=0
  ·have h0':((done.length:Int)=0)=True:=eq_true (by omega)
   have hdn:=ze8.1 h0
   have e1:n=-1:=by
    rcases hi with ⟨_,h2⟩|⟨h1,_⟩
    ·exact h2
    ·exact absurd hdn h1
   have e2:rest=l.tail:=by rw[hd,hdn];rfl
   simp(disch:=first|omega|assumption) only[hlt,hb,hg,hle,go_sem]
   refine goK_pure (Zz x hxl) ?_
   simp(disch:=first|omega|assumption) only[h0',wrap64,go_sem]
   exact goJ (hJ n _ ⟨rfl,.inr ⟨hne,by rw[e1,e2];rfl⟩⟩) (by simp(disch:=first|omega|assumption) only[go_sem])
  have h0':¬ ((done.length:Int)=0):=by omega
  have e1:YA (x::rest) n=indM l:=by
   rcases hi with ⟨h1,_⟩|⟨_,h2⟩
   ·rw[h1] at h0;exact absurd rfl h0
   ·exact h2
  simp only[YA] at e1
  cases hbr:zD x with
  | true =>
   rw[hbr,if_pos rfl] at e1
   simp(disch:=first|omega|assumption) only[hlt,hb,hg,hle,go_sem]
   refine goK_pure (Zz x hxl) ?_
   simp(disch:=first|omega|assumption) only[h0',hbr,wrap64,go_sem]
   exact goJ (hJ n _ ⟨rfl,.inr ⟨hne,e1⟩⟩) (by simp(disch:=first|omega|assumption) only[go_sem])
  | false =>
   rw[hbr,if_neg (by decide)] at e1
   by_cases hn:n<0
   ·rw[if_pos (.inl hn)] at e1
    simp(disch:=first|omega|assumption) only[hlt,hb,hg,hle,go_sem]
    refine goK_pure (Zz x hxl) ?_
    simp(disch:=first|omega|assumption) only[h0',hbr,hn,wrap64,go_sem]
    exact goJ (hJ (Zd x) _ ⟨rfl,.inr ⟨hne,e1⟩⟩) (by simp(disch:=first|omega|assumption) only[go_sem])
   ·by_cases hn2:(Zd x:Int)<n
    ·rw[if_pos (.inr hn2)] at e1
     simp(disch:=first|omega|assumption) only[hlt,hb,hg,hle,go_sem]
     refine goK_pure (Zz x hxl) ?_
     simp(disch:=first|omega|assumption) only[h0',hbr,hn,hn2,wrap64,go_sem]
     exact goJ (hJ (Zd x) _ ⟨rfl,.inr ⟨hne,e1⟩⟩) (by simp(disch:=first|omega|assumption) only[go_sem])
    ·rw[if_neg (by rintro(h|h)<;>contradiction)] at e1
     simp(disch:=first|omega|assumption) only[hlt,hb,hg,hle,go_sem]
     refine goK_pure (Zz x hxl) ?_
     simp(disch:=first|omega|assumption) only[h0',hbr,hn,hn2,wrap64,go_sem]
     exact goJ (hJ n _ ⟨rfl,.inr ⟨hne,e1⟩⟩) (by simp(disch:=first|omega|assumption) only[go_sem])
theorem zcO (s cur:List UInt8):zC cur s≠[]:=by
 cases s with
 | nil=>simp[zC]
 | cons c s =>
  by_cases h:c=10∨c=13
  ·rcases h with rfl|rfl
   ·rw[zb1];simp
   ·by_cases h10:s.head?=some 10
    ·cases s with
     | nil=>cases h10
     | cons d s=>simp only[List.head?_cons,Al1] at h10;subst h10;rw[za1];simp
    ·rw[zb2 h10];simp
  ·rw[YO h];exact zcO s _
termination_by s.length
theorem Yh:∀(s cur:List UInt8),((zC cur s).map fun x=>x.length+1).sum≤cur.length+s.length+1
 | [],cur=>by simp[zC]
 | [c],cur=>by simp only[zC];split<;>simp
 | c::d::r,cur=>by
  have h1:=Yh (d::r)
  have h2:=Yh r
  simp only[zC]
  repeat' split
  all_goals simp only[Al2,List.map_cons,List.sum_cons] at h1 ⊢
  ·have:=h1 [];simp only[Al3] at this;omega
  ·have:=h2 [];simp only[Al3] at this;omega
  ·have:=h1 [];simp only[Al3] at this;omega
  ·have:=h1 (cur++[c]);simp only[Al5,Al2,Al3] at this;omega
termination_by s=>s.length
theorem zgL {l:List (List UInt8)} {x:List UInt8} (h:x∈l):x.length+1≤(l.map fun x=>x.length+1).sum:=by
 obtain⟨a,b,rfl⟩:=List.append_of_mem h
 simp;omega
def AtR (cells:List AV) (off:Nat) (cur:List (List UInt8)):Prop:=∃ pre post,cells=pre++(yk cur++post)∧pre.length=off
theorem AtR.get {cells:List AV} {off:Nat} {cur a:List (List UInt8)} {x:List UInt8} {r:List (List UInt8)} (h:AtR cells off cur) (hc:cur=a++x::r):(cells.drop (off+a.length*1)).take 1=[.str x]∧off+a.length*1+1≤cells.length:=by
 obtain⟨pre,post,rfl,rfl⟩:=h
 subst hc
 refine⟨?_,by simp[yk];omega⟩
 rw[Nat.mul_one,← List.drop_drop,List.drop_left]
 simp[yk]
theorem AtR.le {cells:List AV} {off:Nat} {cur:List (List UInt8)} (h:AtR cells off cur):off+cur.length≤cells.length:=by
 obtain⟨pre,post,rfl,rfl⟩:=h
 simp[yk]
theorem AtR.front {cells:List AV} {b off cap:Nat} {x:List UInt8} {r:List (List UInt8)} (h:AtR cells off (x::r)) (hc:r.length+1≤cap) :
  ∃ off2,msCut 1 b off (r.length+1) cap (some 1) (some ((r.length+1:Nat):Int))=some (.ms b off2 r.length (cap-1))∧AtR cells off2 r:=by
 obtain⟨pre,post,rfl,rfl⟩:=h
 have e:(((r.length+1:Nat):Int)).toNat-(1:Int).toNat=r.length:=by omega
 by_cases h1:cap=1
 ·obtain rfl:r=[]:=ze8.1 (by omega)
  exact⟨pre.length,by simp[msCut,h1],pre,.str x::post,by simp[yk],rfl⟩
 ·refine⟨pre.length+1,?_,pre++[.str x],post,by simp[yk],by simp⟩
  unfold msCut
  simp only
  rw[if_pos (by omega),if_neg (by simpa using h1),e]
  simp
theorem zaK {b off cap len k:Nat} (h:k≤len):msCut 1 b off len cap (some 0) (some (k:Int))=some (.ms b off k cap):=by
 unfold msCut
 simp only
 rw[if_pos (by omega)]
 simp
theorem AtR.back {cells:List AV} {off:Nat} {x:List UInt8} {r:List (List UInt8)} (h:AtR cells off (r++[x])):AtR cells off r:=by
 obtain⟨pre,post,rfl,rfl⟩:=h
 exact⟨pre,.str x::post,by simp[yk],rfl⟩
theorem zbx:∀(cur:List (List UInt8)) (post:List AV),rowsA 1 cur.length (yk cur++post)=cT cur
 | [],_=>rfl
 | x::r,post=>by
  have:=zbx r post
  simp only[yk] at this
  simp[rowsA,yk,cT,AV.strip1,this]
theorem AtR.rows {cells:List AV} {off:Nat} {cur:List (List UInt8)} (h:AtR cells off cur):rowsA 1 cur.length (cells.drop off)=cT cur:=by
 obtain⟨pre,post,rfl,rfl⟩:=h
 rw[List.drop_left,zbx]
def wL (l:List (List UInt8)):Nat:=(l.map fun x=>x.length+1).sum
theorem Y3 {l:List (List UInt8)} {x:List UInt8} (h:x∈l):x.length+1≤wL l:=zgL h
theorem Y9:∀ l:List (List UInt8),l.length≤wL l
 | []=>by simp
 | x::r=>by have:=Y9 r;simp only[wL,List.map_cons,List.sum_cons,Al2] at this ⊢;omega
theorem zdy (a b:List (List UInt8)):wL (a++b)=wL a+wL b:=by simp[wL]
theorem yz (x:List UInt8) (b:List (List UInt8)):wL (x::b)=x.length+1+wL b:=by simp[wL]
theorem zcr (n:Nat):∀ l:List (List UInt8),wL (l.map fun s=>s.drop n)≤wL l
 | []=>by simp[wL]
 | x::r=>by have:=zcr n r;simp only[List.map_cons,yz,yQ];omega
theorem zaq:∀ l:List (List UInt8),(Lib.join l [10]).length≤wL l
 | []=>by simp[Lib.join]
 | [x]=>by simp[Lib.join,wL]
 | x::y::r=>by
  have:=zaq (y::r)
  have e:Lib.join (x::y::r) [10]=x++10::Lib.join (y::r) [10]:=by simp[Lib.join]
  rw[e,yz]
  simp only[Al5,Al2];omega
theorem ZE (r:List (List UInt8)) (x:List UInt8):YW (r++[x])=if zD x then YW r else r++[x]:=by
 unfold YW
 rw[List.reverse_append,List.reverse_singleton,List.singleton_append,List.dropWhile_cons]
 split
 ·rfl
 ·simp
theorem zdU {α:Type} {l:List α} (h:l≠[]):∃ r x,l=r++[x]:=⟨l.dropLast,l.getLast h,(List.dropLast_concat_getLast h).symm⟩
theorem zfm (a:List (List UInt8)) (x y:List UInt8) (r:List (List UInt8)) (tl:List AV):splice (yk (a++x::r)++tl) (0+a.length*1) [.str y]=yk (a++y::r)++tl:=by
 have e:yk (a++x::r)++tl=yk a++(.str x::(yk r++tl)):=by simp[yk]
 rw[e]
 simp only[splice,Al2,Al3,Nat.zero_add,Nat.mul_one]
 rw[List.take_left' (yE a),List.drop_append,List.drop_eq_nil_of_le (by rw[yE];omega),yE,Nat.add_sub_cancel_left]
 simp[yk]
theorem zgC (raw:List UInt8) (hs:raw.length≤1099511600000):Pure Tryz.prog 175 [.str raw] (.str (z7 raw)):=by
 refine Pure.go ir175 ck175 (Al4 _) fun KP Q hQ=>?_
 have hw0:wL (zo raw)≤raw.length+1:=by have:=Yh raw [];simpa[wL,zo] using this
 obtain⟨x0,T,hL⟩:∃ x T,zo raw=x::T:=by
  cases hx:zo raw with
  | nil=>exact absurd hx (zcO raw [])
  | cons x T=>exact⟨x,T,rfl⟩
 have hLl:=Y9 (zo raw)
 simp(disch:=first|omega|assumption) only[ir175,go_sem]
 refine goK_ret (zgB raw (by simp only[Lim];omega)) fun v H1 ⟨b,cap,hv,hm⟩=>?_
 subst hv
 have hm0:=hm
 obtain⟨tl,hb,hcap⟩:=hm
 simp(disch:=first|omega|assumption) only[go_sem]
 refine goK_ret (zfs hm0 (fun s hsm=>by have:=Y3 hsm;simp only[Lim];omega) (by simp only[Lim];omega)) fun v H2 ⟨hv,hH⟩=>?_
 subst hv;subst hH
 by_cases hn:0<indM (zo raw)
 case neg =>
  have hn0:(indM (zo raw)).toNat=0:=by omega
  obtain⟨D,hDd⟩:∃ D,D=zo raw:=⟨_,rfl⟩
  have hDM:Yr (zo raw)=D:=by
   rw[hDd]
   conv=>lhs;rw[hL]
   simp only[Yr]
   rw[← hL,hn0]
   simp[hL]
  have hDl:D.length=(zo raw).length:=by rw[hDd]
  have hbX:H2 b=some (.cells (yk D++tl)):=by rw[hDd];exact hb
  obtain⟨cells,hcells⟩:∃ cells,cells=yk D++tl:=⟨_,rfl⟩
  rw[← hcells] at hbX
  have hwD:wL D≤1099511627777:=by rw[hDd];omega
  rw[← hDd] at hcap
  simp(disch:=first|omega|assumption) only[hn,go_sem]
  refine goL_st (fun x:Nat×Nat×List (List UInt8)=>[(3,.ms b x.1 x.2.2.length x.2.1)]) (fun x H'=>H'=H2∧AtR cells x.1 x.2.2∧x.2.2.length≤x.2.1∧x.2.2.dropWhile zD=D.dropWhile zD∧wL x.2.2≤wL D) (fun x=>x.2.2.length) (0,cap,D) (by simp(disch:=first|omega|assumption) only[hDl,go_sem]) ⟨rfl,⟨[],tl,by rw[hcells,YN],rfl⟩,by simp only;omega,rfl,Al4 _⟩ ?_
  rintro⟨off,cp,cur⟩ H3 J ⟨rfl,ha,hcp,hdw,hw⟩ hJ
  simp only at ha hcp hdw hw
  have stage2:∀ K:Unit,cur=D.dropWhile zD→True:=fun _ _=>trivial
  by_cases hcur:cur=[]
  case pos =>
   subst hcur
   have hD:D.dropWhile zD=[]:=by rw[← hdw];rfl
   simp(disch:=first|omega|assumption) only[Al3,go_sem]
   refine goL_st (fun x:Unit=>[]) (fun x H'=>H'=H3) (fun x=>0) () (by simp(disch:=first|omega|assumption) only[Al3,go_sem]) rfl ?_
   rintro⟨⟩ H4 J4 rfl hJ4
   simp(disch:=first|omega|assumption) only[Al3,go_sem]
   refine goZ_ms hbX (by decide) (by have:=ha.le;simpa using this) ?_
   have hr:=ha.rows
   simp only[Al3] at hr
   simp(disch:=first|omega|assumption) only[hr,go_sem]
   refine goK_pure (ZA [] [10] (by simp[Lib.join]) (by simp)) ?_
   have e:z7 raw=Lib.join [] [10]:=by
    unfold z7;rw[hDM,hD];rfl
   simp(disch:=first|omega|assumption) only[go_sem]
   exact hQ _ _ _ _ nofun rfl (by simp[tupOf,envOf,AV.strip,AV.strip1,e])
  obtain⟨x,r,hxr⟩:∃ x r,cur=x::r:=by cases cur with|nil=>exact absurd rfl hcur|cons x r=>exact⟨x,r,rfl⟩
  have hxl:x.length≤Lim:=by have:=Y3 (l:=cur) (x:=x) (by rw[hxr];simp);simp only[Lim];omega
  obtain⟨hg,hle⟩:=ha.get (a:=[]) (x:=x) (r:=r) hxr
  simp only[Al3,Nat.zero_mul,Nat.add_zero] at hg hle
  have hcl:cur.length=r.length+1:=by rw[hxr];rfl
  have hpos:((0:Int)<(cur.length:Int))=True:=eq_true (by omega)
  have h1l:((1:Int)≤(cur.length:Int))=True:=eq_true (by omega)
  cases hbr:zD x with
  | true =>
   obtain⟨off2,hcut,hat⟩:=AtR.front (b:=b) (cap:=cp) (by rw[← hxr];exact ha) (by omega)
   rw[← hcl] at hcut
   simp(disch:=first|omega|assumption) only[hpos,hbX,hg,hle,Nat.zero_mul,Nat.add_zero,go_sem]
   refine goK_pure (Z5 x hxl) ?_
   simp(disch:=first|omega|assumption) only[hbr,hpos,h1l,hcut,go_sem]
   refine goJ (hJ (off2,cp-1,r) H3 (by simp only;omega) ⟨rfl,hat,by simp only;omega,by rw[← hdw,hxr];simp[hbr],by rw[hxr,yz] at hw;simp only;omega⟩) (by simp(disch:=first|omega|assumption) only[go_sem])
  | false =>
   have hDc:D.dropWhile zD=cur:=by rw[← hdw,hxr];simp[hbr]
   simp(disch:=first|omega|assumption) only[hpos,hbX,hg,hle,Nat.zero_mul,Nat.add_zero,go_sem]
   refine goK_pure (Z5 x hxl) ?_
   simp(disch:=first|omega|assumption) only[hbr,go_sem]
   refine goL_st (fun x:List (List UInt8)=>[(3,.ms b off x.length cp)]) (fun x H'=>H'=H3∧AtR cells off x∧YW x=YW cur∧wL x≤wL D∧x.length≤cp) (fun x=>x.length) cur (by simp(disch:=first|omega|assumption) only[go_sem]) ⟨rfl,ha,rfl,hw,hcp⟩ ?_
   rintro u H4 J4 ⟨rfl,ha4,ht4,hw4,hc4⟩ hJ4
   by_cases hu:u=[]
   ·subst hu
    simp(disch:=first|omega|assumption) only[Al3,go_sem]
    refine goZ_ms hbX (by decide) (by have:=ha4.le;simpa using this) ?_
    have hr:=ha4.rows
    simp only[Al3] at hr
    simp(disch:=first|omega|assumption) only[hr,go_sem]
    refine goK_pure (ZA [] [10] (by simp[Lib.join]) (by simp)) ?_
    have e:z7 raw=Lib.join [] [10]:=by
     unfold z7;rw[hDM,hDc,← ht4];rfl
    simp(disch:=first|omega|assumption) only[go_sem]
    exact hQ _ _ _ _ nofun rfl (by simp[tupOf,envOf,AV.strip,AV.strip1,e])
   obtain⟨q,y,hqy⟩:=zdU hu
   have hyl:y.length≤Lim:=by have:=Y3 (l:=u) (x:=y) (by rw[hqy];simp);simp only[Lim];omega
   obtain⟨hg4,hle4⟩:=ha4.get (a:=q) (x:=y) (r:=[]) hqy
   have hul:u.length=q.length+1:=by rw[hqy];simp
   have hpos4:((0:Int)<(u.length:Int))=True:=eq_true (by omega)
   have wq:IntKind.wrap .i64 ((u.length:Int)-1)=(q.length:Int):=by rw[wrap64 (by omega) (by have:=Y9 u;omega)];omega
   have h1q:((q.length:Int)<(u.length:Int))=True:=eq_true (by omega)
   have h2q:((q.length:Int)≤(u.length:Int))=True:=eq_true (by omega)
   cases hby:zD y with
   | true =>
    simp(disch:=first|omega|assumption) only[hpos4,wq,h1q,hbX,hg4,hle4,go_sem]
    refine goK_pure (Z5 y hyl) ?_
    have hcut:=zaK (b:=b) (off:=off) (cap:=cp) (show q.length≤u.length by omega)
    simp(disch:=first|omega|assumption) only[hby,wq,h1q,h2q,hcut,go_sem]
    refine goJ (hJ4 q H4 (by omega) ⟨rfl,AtR.back (x:=y) (by rw[← hqy];exact ha4),by rw[← ht4,hqy,ZE,hby];rfl,by rw[hqy,zdy] at hw4;omega,by omega⟩) (by simp(disch:=first|omega|assumption) only[go_sem])
   | false =>
    have hlen:=Y9 u
    simp(disch:=first|omega|assumption) only[hpos4,wq,h1q,hbX,hg4,hle4,go_sem]
    refine goK_pure (Z5 y hyl) ?_
    simp(disch:=first|omega|assumption) only[hby,go_sem]
    refine goZ_ms hbX (by decide) (by have:=ha4.le;omega) ?_
    have hr:=ha4.rows
    have hj:=zaq u
    simp(disch:=first|omega|assumption) only[hr,go_sem]
    refine goK_pure (ZA u [10] (by omega) (by omega)) ?_
    have e:z7 raw=Lib.join u [10]:=by
     unfold z7;rw[hDM,hDc,← ht4,hqy,ZE,hby];rfl
    simp(disch:=first|omega|assumption) only[go_sem]
    exact hQ _ _ _ _ nofun rfl (by simp[tupOf,envOf,AV.strip,AV.strip1,e])
 case pos =>
  obtain⟨n,hne⟩:∃ n:Nat,indM (zo raw)=n:=⟨(indM (zo raw)).toNat,by omega⟩
  have hnl:n≤1099511627777:=by
   by_cases hall:∀ s∈(zo raw).tail,zD s=true
   ·have:∀(l:List (List UInt8)),(∀ s∈l,zD s=true)→YA l (-1)=-1:=by
     intro l
     induction l with
     | nil=>intro _;rfl
     | cons a l ih=>intro h;simp only[YA,h a (.head _),if_true];exact ih fun s hs=>h s (.tail _ hs)
    have:=this _ hall
    have e:indM (zo raw)=YA (zo raw).tail (-1):=rfl
    omega
   ·obtain⟨s,hs⟩:=Classical.not_forall.1 hall
    obtain⟨hs,hb2⟩:=Classical.not_imp.1 hs
    have h1:=(zd1 (zo raw).tail (-1)).2 s hs (by simpa using hb2)
    have h2:=Y3 (List.mem_of_mem_tail hs)
    have h3:Zd s≤s.length:=(List.takeWhile_sublist _).length_le
    have e:indM (zo raw)=YA (zo raw).tail (-1):=rfl
    omega
  have hL2:=hL
  rw[hL] at hLl hw0
  have hcap0:=hcap
  rw[hL] at hb hcap0
  have hn':((0:Int)<(n:Int))=True:=eq_true (by omega)
  rw[hne]
  simp(disch:=first|omega|assumption) only[hn',go_sem]
  refine goL_st (fun x:List (List UInt8)×List (List UInt8)=>[(5,.int .i64 ((x.1.length:Int)+1))]) (fun x H'=>T=x.1++x.2∧H' b=some (.cells (yk (x0::(x.1.map (fun s=>s.drop n)++x.2))++tl))) (fun x=>x.2.length) ([],T) (by simp(disch:=first|omega|assumption) only[Al3,go_sem]) ⟨rfl,by simpa using hb⟩ ?_
  rintro⟨dn,rest⟩ H3 J3 ⟨hT,hb3⟩ hJ3
  simp only at hT hb3
  have hll:(zo raw).length=dn.length+rest.length+1:=by rw[hL,hT];simp
  cases rest with
  | nil =>
   have hlt:¬ ((dn.length:Int)+1<((zo raw).length:Int)):=by simp at hll;omega
   obtain⟨D,hDd⟩:∃ D,D=x0::T.map fun s=>s.drop n:=⟨_,rfl⟩
   have hDM:Yr (zo raw)=D:=by
    conv=>lhs;rw[hL]
    simp only[Yr]
    rw[← hL,hne,hDd];rfl
   have hDl:D.length=(zo raw).length:=by rw[hDd,hL];simp
   have hbX:H3 b=some (.cells (yk D++tl)):=by
    rw[hb3,hDd,hT];simp
   obtain⟨cells,hcells⟩:∃ cells,cells=yk D++tl:=⟨_,rfl⟩
   rw[← hcells] at hbX
   have hwD:wL D≤1099511627777:=by
    have:=zcr n T
    rw[hDd,yz];rw[yz] at hw0;omega
   have hcap:D.length+tl.length=cap:=by rw[hDl];exact hcap
   clear hJ3 hb3
   simp(disch:=first|omega|assumption) only[hlt,go_sem]
   refine goL_st (fun x:Nat×Nat×List (List UInt8)=>[(3,.ms b x.1 x.2.2.length x.2.1)]) (fun x H'=>H'=H3∧AtR cells x.1 x.2.2∧x.2.2.length≤x.2.1∧x.2.2.dropWhile zD=D.dropWhile zD∧wL x.2.2≤wL D) (fun x=>x.2.2.length) (0,cap,D) (by simp(disch:=first|omega|assumption) only[hDl,go_sem]) ⟨rfl,⟨[],tl,by rw[hcells,YN],rfl⟩,by simp only;omega,rfl,Al4 _⟩ ?_
   rintro⟨off,cp,cur⟩ H5 J5 ⟨rfl,ha,hcp,hdw,hw⟩ hJ5
   simp only at ha hcp hdw hw
   have stage2:∀ K:Unit,cur=D.dropWhile zD→True:=fun _ _=>trivial
   by_cases hcur:cur=[]
   case pos =>
    subst hcur
    have hD:D.dropWhile zD=[]:=by rw[← hdw];rfl
    simp(disch:=first|omega|assumption) only[Al3,go_sem]
    refine goL_st (fun x:Unit=>[]) (fun x H'=>H'=H5) (fun x=>0) () (by simp(disch:=first|omega|assumption) only[Al3,go_sem]) rfl ?_
    rintro⟨⟩ H4 J4 rfl hJ4
    simp(disch:=first|omega|assumption) only[Al3,go_sem]
    refine goZ_ms hbX (by decide) (by have:=ha.le;simpa using this) ?_
    have hr:=ha.rows
    simp only[Al3] at hr
    simp(disch:=first|omega|assumption) only[hr,go_sem]
    refine goK_pure (ZA [] [10] (by simp[Lib.join]) (by simp)) ?_
    have e:z7 raw=Lib.join [] [10]:=by
     unfold z7;rw[hDM,hD];rfl
    simp(disch:=first|omega|assumption) only[go_sem]
    exact hQ _ _ _ _ nofun rfl (by simp[tupOf,envOf,AV.strip,AV.strip1,e])
   obtain⟨x,r,hxr⟩:∃ x r,cur=x::r:=by cases cur with|nil=>exact absurd rfl hcur|cons x r=>exact⟨x,r,rfl⟩
   have hxl:x.length≤Lim:=by have:=Y3 (l:=cur) (x:=x) (by rw[hxr];simp);simp only[Lim];omega
   obtain⟨hg,hle⟩:=ha.get (a:=[]) (x:=x) (r:=r) hxr
   simp only[Al3,Nat.zero_mul,Nat.add_zero] at hg hle
   have hcl:cur.length=r.length+1:=by rw[hxr];rfl
   have hpos:((0:Int)<(cur.length:Int))=True:=eq_true (by omega)
   have h1l:((1:Int)≤(cur.length:Int))=True:=eq_true (by omega)
   cases hbr:zD x with
   | true =>
    obtain⟨off2,hcut,hat⟩:=AtR.front (b:=b) (cap:=cp) (by rw[← hxr];exact ha) (by omega)
    rw[← hcl] at hcut
    simp(disch:=first|omega|assumption) only[hpos,hbX,hg,hle,Nat.zero_mul,Nat.add_zero,go_sem]
    refine goK_pure (Z5 x hxl) ?_
    simp(disch:=first|omega|assumption) only[hbr,hpos,h1l,hcut,go_sem]
    refine goJ (hJ5 (off2,cp-1,r) H5 (by simp only;omega) ⟨rfl,hat,by simp only;omega,by rw[← hdw,hxr];simp[hbr],by rw[hxr,yz] at hw;simp only;omega⟩) (by simp(disch:=first|omega|assumption) only[go_sem])
   | false =>
    have hDc:D.dropWhile zD=cur:=by rw[← hdw,hxr];simp[hbr]
    simp(disch:=first|omega|assumption) only[hpos,hbX,hg,hle,Nat.zero_mul,Nat.add_zero,go_sem]
    refine goK_pure (Z5 x hxl) ?_
    simp(disch:=first|omega|assumption) only[hbr,go_sem]
    refine goL_st (fun x:List (List UInt8)=>[(3,.ms b off x.length cp)]) (fun x H'=>H'=H5∧AtR cells off x∧YW x=YW cur∧wL x≤wL D∧x.length≤cp) (fun x=>x.length) cur (by simp(disch:=first|omega|assumption) only[go_sem]) ⟨rfl,ha,rfl,hw,hcp⟩ ?_
    rintro u H4 J4 ⟨rfl,ha4,ht4,hw4,hc4⟩ hJ4
    by_cases hu:u=[]
    ·subst hu
     simp(disch:=first|omega|assumption) only[Al3,go_sem]
     refine goZ_ms hbX (by decide) (by have:=ha4.le;simpa using this) ?_
     have hr:=ha4.rows
     simp only[Al3] at hr
     simp(disch:=first|omega|assumption) only[hr,go_sem]
     refine goK_pure (ZA [] [10] (by simp[Lib.join]) (by simp)) ?_
     have e:z7 raw=Lib.join [] [10]:=by
      unfold z7;rw[hDM,hDc,← ht4];rfl
     simp(disch:=first|omega|assumption) only[go_sem]
     exact hQ _ _ _ _ nofun rfl (by simp[tupOf,envOf,AV.strip,AV.strip1,e])
    obtain⟨q,y,hqy⟩:=zdU hu
    have hyl:y.length≤Lim:=by have:=Y3 (l:=u) (x:=y) (by rw[hqy];simp);simp only[Lim];omega
    obtain⟨hg4,hle4⟩:=ha4.get (a:=q) (x:=y) (r:=[]) hqy
    have hul:u.length=q.length+1:=by rw[hqy];simp
    have hpos4:((0:Int)<(u.length:Int))=True:=eq_true (by omega)
    have wq:IntKind.wrap .i64 ((u.length:Int)-1)=(q.length:Int):=by rw[wrap64 (by omega) (by have:=Y9 u;omega)];omega
    have h1q:((q.length:Int)<(u.length:Int))=True:=eq_true (by omega)
    have h2q:((q.length:Int)≤(u.length:Int))=True:=eq_true (by omega)
    cases hby:zD y with
    | true =>
     simp(disch:=first|omega|assumption) only[hpos4,wq,h1q,hbX,hg4,hle4,go_sem]
     refine goK_pure (Z5 y hyl) ?_
     have hcut:=zaK (b:=b) (off:=off) (cap:=cp) (show q.length≤u.length by omega)
     simp(disch:=first|omega|assumption) only[hby,wq,h1q,h2q,hcut,go_sem]
     refine goJ (hJ4 q H4 (by omega) ⟨rfl,AtR.back (x:=y) (by rw[← hqy];exact ha4),by rw[← ht4,hqy,ZE,hby];rfl,by rw[hqy,zdy] at hw4;omega,by omega⟩) (by simp(disch:=first|omega|assumption) only[go_sem])
    | false =>
     have hlen:=Y9 u
     simp(disch:=first|omega|assumption) only[hpos4,wq,h1q,hbX,hg4,hle4,go_sem]
     refine goK_pure (Z5 y hyl) ?_
     simp(disch:=first|omega|assumption) only[hby,go_sem]
     refine goZ_ms hbX (by decide) (by have:=ha4.le;omega) ?_
     have hr:=ha4.rows
     have hj:=zaq u
     simp(disch:=first|omega|assumption) only[hr,go_sem]
     refine goK_pure (ZA u [10] (by omega) (by omega)) ?_
     have e:z7 raw=Lib.join u [10]:=by
      unfold z7;rw[hDM,hDc,← ht4,hqy,ZE,hby];rfl
     simp(disch:=first|omega|assumption) only[go_sem]
     exact hQ _ _ _ _ nofun rfl (by simp[tupOf,envOf,AV.strip,AV.strip1,e])
  | cons y r =>
   have hlt:((dn.length:Int)+1<((zo raw).length:Int))=True:=eq_true (by simp at hll;omega)
   have hcur:x0::(dn.map (fun s=>s.drop n)++y::r)=(x0::dn.map (fun s=>s.drop n))++y::r:=rfl
   have hg:=zdb hcur tl
   have hle:=zdX hcur tl
   have hal:(x0::dn.map (fun s=>s.drop n)).length=dn.length+1:=by simp
   have hst:∀ z,splice (yk (x0::(dn.map (fun s=>s.drop n)++y::r))++tl) (0+(dn.length+1)*1) [.str z]=yk (x0::(dn.map (fun s=>s.drop n)++z::r))++tl:=fun z=>by
    have:=zfm (x0::dn.map (fun s=>s.drop n)) y z r tl
    rw[hal] at this
    exact this
   rw[hal] at hg hle
   have h1:((dn.length:Int)+1).toNat=dn.length+1:=by omega
   have hy0:((0:Int)≤(y.length:Int))=True:=eq_true (by omega)
   have hln:dn.length≤1099511627777:=by omega
   by_cases hmin:(y.length:Int)<(n:Int)
   ·have hdr:y.drop y.length=y.drop n:=by rw[List.drop_length,List.drop_eq_nil_of_le (by omega)]
    simp(disch:=first|omega|assumption) only[hlt,h1,hb3,hg,hle,hst,hmin,hy0,List.drop_length,go_sem]
    refine goJ (hJ3 (dn++[y],r) _ (by simp) ⟨by rw[hT];simp,?_⟩) (by simp(disch:=first|omega|assumption) only[wrap64,Al5,Al2,Al3,Int.natCast_add,go_sem])
    rw[upd_same]
    simp[List.drop_eq_nil_of_le (show y.length≤n by omega)]
   ·have hny:((n:Int)≤(y.length:Int))=True:=eq_true (by omega)
    have hn0:((0:Int)≤(n:Int))=True:=eq_true (by omega)
    simp(disch:=first|omega|assumption) only[hlt,h1,hb3,hg,hle,hst,hmin,hny,hn0,go_sem]
    refine goJ (hJ3 (dn++[y],r) _ (by simp) ⟨by rw[hT];simp,?_⟩) (by simp(disch:=first|omega|assumption) only[wrap64,Al5,Al2,Al3,Int.natCast_add,go_sem])
    rw[upd_same]
    simp
end Go.Proofs.YtaielcdfcgpbiaaGreatDoor
set_option maxRecDepth 1000000
namespace Go.Proofs.YtaielcdfcgpbiaaGreatDoor
open Go.Shelf Go.RowKit Go.Lib
section
variable {P:Program} {ρ:Ren}
def eol:ByteArray:=⟨#[13,10]⟩
theorem zc3 (w:World) (k:Nat) (s:ByteArray) (pos:Nat) (ty:TypeId) (hk:w.heap[k]?=some (.stringIter s pos)) (h:pos<s.size) :
  (Instr.next (.pointer (some ⟨k,0,none⟩)) true ty).run P w =
   .ok (.tuple #[.bool true,.int .i64 pos,.int .i32 (Utf8.decode s pos).1]) { w with heap:=w.heap.setIfInBounds k (.stringIter s (pos+(Utf8.decode s pos).2)) }:=by
 simp only[Instr.next,getObj,setObj,Sem.run_bind,Sem.run,hk,Result.andThen,h,if_true]
 simp[goInt]
theorem zbl (w:World) (k:Nat) (s:ByteArray) (pos:Nat) (ty:TypeId) (hk:w.heap[k]?=some (.stringIter s pos)) (h:¬ pos<s.size) :
  (Instr.next (.pointer (some ⟨k,0,none⟩)) true ty).run P w=.ok (.tuple #[.bool false]) w:=by
 simp[Instr.next,getObj,Sem.run,hk,h]
set_option maxHeartbeats 4000000 in
theorem zci (L:Lays.n152 P ρ) (w:World) :
  Calls P (ρ.f 152) #[.string eol,.int .i32 65533] w fun e w'=>e=.returned (.int .i64 (-1))∧Below w.heap.size w w':=by
 have t3:=L.t3;have a3:=L.a3;have z3:=L.z3;have v3:=L.v3
 have t4:=L.t4;have a4:=L.a4;have z4:=L.z4;have v4:=L.v4
 have t5:=L.t5;have a5:=L.a5;have z5:=L.z5;have v5:=L.v5
 have t9:=L.t9;have a9:=L.a9;have z9:=L.z9;have v9:=L.v9
 have t21:=L.t21;have a21:=L.a21;have z21:=L.z21;have v21:=L.v21
 have hsz:eol.size=2:=rfl
 go_enter L.f152,Body.n152_ntmps ρ
 go_wp2
 go_loopg [5,6] 2 (fun g _ _ wx=>∃ i:Nat,i+g=2∧wx=w.iter eol i)
 case atStart=>exact⟨0,by omega,rfl⟩
 case round =>
  obtain⟨i,hig,rfl⟩:=hrel
  cases gk with
  | zero =>
   obtain rfl:i=2:=by omega
   have hnx:=fun ty=>run_next_end (P:=P) w eol 2 ty (by decide)
   go_wp2
   go_ret
   exact⟨rfl,(Below.refl _ _).alloc (Al4 _) _⟩
  | succ g =>
   obtain⟨x,hx⟩:∃ x:UInt8,eol[i]'(by rw[hsz];omega)=x:=⟨_,rfl⟩
   have hxl:x.toNat=13∨x.toNat=10:=by
    rcases(by omega:i=0∨i=1) with rfl|rfl
    ·left;rw[← hx];rfl
    ·right;rw[← hx];rfl
   have hnx:=fun ty=>run_next_ascii (P:=P) w eol i ty (by rw[hsz];omega) (by rw[hx];omega)
   rw[hx] at hnx
   have hne:¬ ((x.toNat:Int)=65533):=by omega
   clear hx hxl
   go_wp2
   go_roundg g
   case measure=>omega
   case rel=>exact⟨i+1,by omega,rfl⟩
set_option maxHeartbeats 8000000 in
theorem zbo (L:Lays.n152 P ρ) (r:Int) (h0:128≤r) (h1:r≠65533) (w:World) :
  Calls P (ρ.f 152) #[.string eol,.int .i32 r] w fun e w'=>e=.returned (.int .i64 (-1))∧Below w.heap.size w w':=by
 have t3:=L.t3;have a3:=L.a3;have z3:=L.z3;have v3:=L.v3
 have t4:=L.t4;have a4:=L.a4;have z4:=L.z4;have v4:=L.v4
 have t5:=L.t5;have a5:=L.a5;have z5:=L.z5;have v5:=L.v5
 have t9:=L.t9;have a9:=L.a9;have z9:=L.z9;have v9:=L.v9
 have t21:=L.t21;have a21:=L.a21;have z21:=L.z21;have v21:=L.v21
 have hsz:eol.size=2:=rfl
 have mixed:=L.mixed
 have u21:=run_underlying L.t21;have u9:=run_underlying L.t9
 have e137:∀ args w,(callFunc (ρ.f 137) args).run P w=.ok (.enter (ρ.f 137) args) w:=enters_of L.f137 (by kernel_rfl) rfl
 have e119:∀ args w,(callFunc (ρ.f 119) args).run P w=.ok (.enter (ρ.f 119) args) w:=enters_of L.f119 (by kernel_rfl) rfl
 have hr1:¬ (r<128):=by omega
 cases hv:Lib.validRune r with
 | false =>
  go_enter L.f152,Body.n152_ntmps ρ
  go_wp2_with (go_at_fn (ρ.f 119);refine(Any.utf8_ValidRune { L with } _ _).mono ?_;rintro e w' ⟨rfl,hw⟩;rw[hw,hv])
  go_ret
  exact⟨rfl,Below.refl _ _⟩
 | true =>
  have hv':Utf8.valid r=true:=by
   unfold Lib.validRune at hv
   unfold Utf8.valid
   simp only[Yp,Al0,zm] at hv ⊢
   omega
  obtain⟨f1,f2,f3⟩:=encode_facts r hv' h0
  clear hv'
  obtain⟨rs,hrs⟩:∃ rs,Utf8.encode r=rs:=⟨_,rfl⟩
  rw[hrs] at f1 f2 f3
  have hconv:∀ w,(convert (ρ.t 21) (ρ.t 9) (.int .i32 r)).run P w=.ok (.string rs) w:=fun w=>by
   rw[run_convert_int_string w _ _ _ _ (by rw[t21];rfl) t9,hrs]
  have hlast:IntKind.i64.wrap ((rs.size:Int)-1)=(rs.size:Int)-1:=wrap_small _ (by omega) (by omega)
  clear hrs
  by_cases h2:rs.size=2
  ·obtain⟨b0,b1,rfl⟩:∃ b0 b1,rs=⟨#[b0,b1]⟩:=by
    obtain⟨⟨l⟩⟩:=rs
    match l,h2 with
    | [x,y],_=>exact⟨x,y,rfl⟩
   have hb:128≤b1.toNat:=f3 (by show 1<2;decide)
   have hz:(⟨#[b0,b1]⟩:ByteArray).size=2:=rfl
   have hne:¬ ((10:Int)=(b1.toNat:Int)):=by omega
   clear f1 f2 f3 h2
   rw[hz] at hlast
   go_enter L.f152,Body.n152_ntmps ρ
   go_wp2_with (go_at_fn (ρ.f 119);refine(Any.utf8_ValidRune { L with } _ _).mono ?_;rintro e w' ⟨rfl,hw⟩;rw[hw,hv])
   go_step3
   go_wp2
   go_loopg [9,10] 0 (fun g s9 s10 wx=>s9=.int .i64 1∧s10=.int .i64 0∧wx=w)
   case atStart=>exact⟨rfl,rfl,rfl⟩
   case round =>
    obtain⟨rfl,rfl,rfl⟩:=hrel
    go_wp2
    go_step3
    have hx:eol[1]'(by decide)=10:=rfl
    have hy:(⟨#[b0,b1]⟩:ByteArray)[1]'(by show 1<2;decide)=b1:=rfl
    go_wp2
    go_quiet_o (fail)
    go_wp2
    have hsl:∀ w,(Instr.slice (ρ.t 9) (.string eol) (some (.int .i64 2)) none none).run P w=.ok (.string ⟨#[]⟩) w:=fun w=>by
     rw[run_slice_string_from_if w _ eol .i64 2 t9]
     rfl
    generalize hW:World.drewN _ _=W
    have HW:Aside (∃ n,W=wr.drewN n):=⟨_,hW.symm⟩
    clear hW
    have hw2:IntKind.i64.wrap 2=2:=by decide
    go_quiet_o (first|(go_at_fn (ρ.f 137);refine Calls.quiet_of_same (Any.strings_IndexByte { L with } _ _ _)))
    go_wp2
    rw[Exit.noGoto_ret]
    go_wp2
    (try rw[Exit.noGoto_ret])
    (try go_wp2)
    go_ret
    obtain⟨n,rfl⟩:=HW.out
    exact⟨rfl,⟨rfl,rfl,rfl,Al4 _,fun _ _=>rfl⟩⟩
  ·have hlt:¬ ((rs.size:Int)-1<2):=by omega
   go_enter L.f152,Body.n152_ntmps ρ
   go_wp2_with (go_at_fn (ρ.f 119);refine(Any.utf8_ValidRune { L with } _ _).mono ?_;rintro e w' ⟨rfl,hw⟩;rw[hw,hv])
   go_step3
   go_wp2
   go_loopg [9,10] 0 (fun g s9 s10 wx=>s9=.int .i64 ((rs.size:Int)-1)∧s10=.int .i64 0∧wx=w)
   case atStart=>exact⟨rfl,rfl,rfl⟩
   case round =>
    obtain⟨rfl,rfl,rfl⟩:=hrel
    go_wp2
    rw[Exit.noGoto_ret];go_wp2
    go_ret
    exact⟨rfl,Below.refl _ _⟩
theorem zcZ (s:ByteArray) (i:Nat) (h:i<s.size):s.data.toList[i]?=some (s.get! i):=by
 rw[Lib.data_getElem? s i h]
 simp[ByteArray.get!,getElem!_pos,h]
 rfl
theorem zaf (s:ByteArray) (pos:Nat) (h:pos<s.size) (ha:128≤(s.get! pos).toNat) :
  128≤(Utf8.decode s pos).1∧1≤(Utf8.decode s pos).2∧pos+(Utf8.decode s pos).2≤s.size∧∀ j,j<(Utf8.decode s pos).2→128≤(s.get! (pos+j)).toNat:=by
 have hn:¬ (s.get! (pos+0)).toNat<128:=by simpa using ha
 have h1:∀(c:Nat),128≤c→128≤(c,1).1∧1≤(c,1).2∧pos+(c,1).2≤s.size∧∀ j,j<(c,1).2→128≤(s.get! (pos+j)).toNat:=fun c hc =>
  ⟨hc,Al4 _,by show pos+1≤s.size;omega,fun j hj=>by
   have hj:j<1:=hj
   obtain rfl:j=0:=by omega
   simpa using ha⟩
 have hb:∀ k,(s.get! (pos+k)).toNat / 64=2→128≤(s.get! (pos+k)).toNat:=fun k hk=>by omega
 simp only[Utf8.decode,hn,if_false,Utf8.runeError]
 split
 ·rename_i hc
  simp only[Al0,beq_iff_eq,zm] at hc
  split
  ·rename_i h2
   refine⟨h2,by show 1≤2;omega,by show pos+2≤s.size;omega,fun j hj=>?_⟩
   have hj:j<2:=hj
   rcases(by omega:j=0∨j=1) with rfl|rfl
   ·simpa using ha
   ·exact hb 1 hc.2.2
  ·exact h1 _ (by decide)
 split
 ·rename_i hc
  simp only[Al0,beq_iff_eq,zm] at hc
  split
  ·rename_i h2
   simp only[Al0,zm] at h2
   refine⟨by have:=h2.1;show 128≤_;simp only;omega,by show 1≤3;omega,by show pos+3≤s.size;omega,fun j hj=>?_⟩
   have hj:j<3:=hj
   rcases(by omega:j=0∨j=1∨j=2) with rfl|rfl|rfl
   ·simpa using ha
   ·exact hb 1 hc.1.2.2
   ·exact hb 2 hc.2.2
  ·exact h1 _ (by decide)
 split
 ·rename_i hc
  simp only[Al0,beq_iff_eq,zm] at hc
  split
  ·rename_i h2
   simp only[Al0,zm] at h2
   refine⟨by have:=h2.1;show 128≤_;simp only;omega,by show 1≤4;omega,by show pos+4≤s.size;omega,fun j hj=>?_⟩
   have hj:j<4:=hj
   rcases(by omega:j=0∨j=1∨j=2∨j=3) with rfl|rfl|rfl|rfl
   ·simpa using ha
   ·exact hb 1 hc.1.1.2.2
   ·exact hb 2 hc.1.2.2
   ·exact hb 3 hc.2.2
  ·exact h1 _ (by decide)
 ·exact h1 _ (by decide)
theorem zgM {s:ByteArray} {i k:Nat} (h:NoAny s.data.toList eol.data.toList i) (hk:i+k≤s.size) (hb:∀ j,j<k→128≤(s.get! (i+j)).toNat):NoAny s.data.toList eol.data.toList (i+k):=fun j b hj hjb=>by
 by_cases hlt:j<i
 ·exact h j b hlt hjb
 ·have h1:=hb (j-i) (by omega)
  rw[show i+(j-i)=j by omega] at h1
  rw[zcZ s j (by omega)] at hjb
  cases hjb
  show ([13,10]:List UInt8).contains _=false
  simp only[List.contains_cons,List.contains_nil,Bool.or_false,Bool.or_eq_false_iff,beq_eq_false_iff_ne]
  refine⟨fun e=>?_,fun e=>?_⟩<;>(rw[e] at h1;simp at h1)
set_option maxHeartbeats 8000000 in
theorem Yv (L:Lays.n153 P ρ) (s:ByteArray) (w:World) (h8:s.size≤8) :
  Calls P (ρ.f 153) #[.string s,.string eol] w fun e w'=>e=.returned (.int .i64 (Lib.indexAny s.data.toList eol.data.toList))∧Below w.heap.size w w':=by
 have hemp:eol.toList.isEmpty=false:=by rw[Lib.toList_data];rfl
 have hn0:(eol.size:Int)=2:=rfl
 have hn1:((eol.size:Int)==1)=false:=rfl
 have h8z:decide ((8:Int)<(s.size:Int))=false:=decide_eq_false (by omega)
 have t3:=L.t3;have a3:=L.a3;have z3:=L.z3;have v3:=L.v3
 have t4:=L.t4;have a4:=L.a4;have z4:=L.z4;have v4:=L.v4
 have t5:=L.t5;have a5:=L.a5;have z5:=L.z5;have v5:=L.v5
 have t9:=L.t9;have a9:=L.a9;have z9:=L.z9;have v9:=L.v9
 have t21:=L.t21;have a21:=L.a21;have z21:=L.z21;have v21:=L.v21
 have e152:∀ args w,(callFunc (ρ.f 152) args).run P w=.ok (.enter (ρ.f 152) args) w:=enters_of L.f152 (by kernel_rfl) rfl
 have e226:∀ args w,(callFunc (ρ.f 226) args).run P w=.ok (.enter (ρ.f 226) args) w:=enters_of L.f226 (by kernel_rfl) rfl
 go_enter L.f153,Body.n153_ntmps ρ
 go_wp2_with (go_at_fn (ρ.f 226);refine(Any.strings_shouldUseASCIISet { L with } _ _).mono ?_;rintro e w' ⟨rfl,hw⟩;rw[hw,h8z])
 go_loopg [9,10] s.size (fun g _ _ wx=>∃ i:Nat,i+g=s.size∧(wx.heap[w.heap.size]?=some (.stringIter s i)∧Below w.heap.size w wx)∧Lib.NoAny s.data.toList eol.data.toList i)
 case atStart=>exact⟨0,by omega,⟨World.iter_heap w s 0,(Below.refl _ _).alloc (Al4 _) _⟩,Lib.NoAny.zero _ _⟩
 case round =>
  obtain⟨i,hig,hst,hno⟩:=hrel
  obtain⟨hit,hbe⟩:=hst
  have HN:Aside (Lib.NoAny s.data.toList eol.data.toList i∧Below w.heap.size w wr):=⟨hno,hbe⟩
  clear hno hbe
  cases gk with
  | zero =>
   obtain rfl:i=s.size:=by omega
   have hnx:=fun ty=>zbl (P:=P) wr w.heap.size s s.size ty hit (by omega)
   go_wp2
   go_ret
   exact⟨by rw[Lib.indexAny_none (by rw[← Lib.size_eq];exact HN.out.1)];rfl,HN.out.2⟩
  | succ g =>
   have hi:i<s.size:=by omega
   have hnx:=fun ty=>zc3 (P:=P) wr w.heap.size s i ty hit hi
   have hwlt:w.heap.size<wr.heap.size:=(yV.1 hit).1
   have hst2:∀ k,({ wr with heap:=wr.heap.setIfInBounds w.heap.size (.stringIter s k) }:World).heap[w.heap.size]?=some (.stringIter s k):=fun k=>by
    show (wr.heap.setIfInBounds w.heap.size (.stringIter s k))[w.heap.size]?=_
    simp[hwlt]
   have hbl2:∀ k,Below w.heap.size w ({ wr with heap:=wr.heap.setIfInBounds w.heap.size (.stringIter s k) }:World):=fun k=>by
    have hb:=HN.out.2
    refine⟨hb.os,hb.tape,hb.output,by simpa using hb.size,fun n hn=>?_⟩
    show (wr.heap.setIfInBounds w.heap.size (.stringIter s k))[n]?=_
    rw[Array.getElem?_setIfInBounds_ne (by omega)]
    exact hb.block n hn
   have HB:Aside ((∀ k,({ wr with heap:=wr.heap.setIfInBounds w.heap.size (.stringIter s k) }:World).heap[w.heap.size]?=some (.stringIter s k))∧(∀ k,Below w.heap.size w ({ wr with heap:=wr.heap.setIfInBounds w.heap.size (.stringIter s k) }:World))∧w.heap.size<wr.heap.size):=⟨hst2,hbl2,hwlt⟩
   clear hst2 hbl2 hwlt hit
   by_cases ha:128≤(s.get! i).toNat
   ·obtain⟨d1,d2,d3,d4⟩:=zaf s i hi ha
    have HD:Aside (1≤(Utf8.decode s i).2∧i+(Utf8.decode s i).2≤s.size∧∀ j,j<(Utf8.decode s i).2→128≤(s.get! (i+j)).toNat):=⟨d2,d3,d4⟩
    clear d2 d3 d4 ha
    generalize hr:(Utf8.decode s i).1=r at hnx d1
    generalize hk:(Utf8.decode s i).2=k at hnx HD
    clear hr hk
    generalize hW:({ wr with heap:=wr.heap.setIfInBounds w.heap.size (.stringIter s (i+k)) }:World)=W at hnx
    have HW:Aside (W.heap[w.heap.size]?=some (.stringIter s (i+k))∧Below w.heap.size w W):=⟨by rw[← hW];exact HB.out.1 _,by rw[← hW];exact HB.out.2.1 _⟩
    clear hW
    have hru:Calls P (ρ.f 152) #[.string eol,.int .i32 (r:Int)] W fun e w'=>e=.returned (.int .i64 (-1))∧Below W.heap.size W w':=by
     by_cases he:(r:Int)=65533
     ·rw[he];exact zci { L with } W
     ·exact zbo { L with } _ (by omega) he W
    go_wp2_with (go_at_fn (ρ.f 152);refine hru.mono ?_;rintro e w' ⟨rfl,hw⟩)
    go_roundg (s.size-(i+k))
    case measure=>have:=HD.out.1;omega
    case rel =>
     obtain⟨g1,g2⟩:=HW.out
     obtain⟨f1,f2,f3⟩:=HD.out
     have hlt:w.heap.size<W.heap.size:=(yV.1 g1).1
     exact⟨i+k,by omega,⟨by rw[hw.block _ hlt];exact g1,g2.trans (hw.mono (by omega))⟩,zgM HN.out.1 f2 f3⟩
   ·have hx128:(s[i]'hi).toNat<128:=by
     have e:s.get! i=s[i]'hi:=get_at s i hi
     rw[← e];omega
    have hde:Utf8.decode s i=((s[i]'hi).toNat,1):=decode_ascii s i hi hx128
    obtain⟨x,hx⟩:∃ x:UInt8,s[i]'hi=x:=⟨_,rfl⟩
    have hxl:s.data.toList[i]?=some x:=by rw[← hx];exact Lib.data_getElem? s i hi
    have Hx:Aside (s.data.toList[i]?=some x):=hxl
    rw[hde,hx] at hnx
    rw[hx] at hx128
    clear hxl hx ha hde
    have hcon:=Lib.contains_iff_indexByte eol.data.toList x
    have hback:((x.toNat:Int)).toNat.toUInt8=x:=by simp
    generalize hW:({ wr with heap:=wr.heap.setIfInBounds w.heap.size (.stringIter s (i+1)) }:World)=W at hnx
    have HW:Aside (W.heap[w.heap.size]?=some (.stringIter s (i+1))∧Below w.heap.size w W):=⟨by rw[← hW];exact HB.out.1 _,by rw[← hW];exact HB.out.2.1 _⟩
    clear hW
    cases hin:eol.data.toList.contains x
    ·rw[hin] at hcon
     have hlt:¬ ((0:Int)≤Lib.indexByte eol.data.toList x):=of_decide_eq_false hcon.symm
     clear hcon
     go_wp2_with (go_at_fn (ρ.f 152);refine(Any.strings_IndexRune_ascii { L with } _ _ _ (by omega) (by omega)).mono ?_;rintro e w' ⟨rfl,hw⟩;rw[hw,hback])
     go_roundg g
     case measure=>omega
     case rel=>exact⟨i+1,by omega,HW.out,HN.out.1.succ Hx.out hin⟩
    ·rw[hin] at hcon
     have hge:(0:Int)≤Lib.indexByte eol.data.toList x:=of_decide_eq_true hcon.symm
     clear hcon
     go_wp2_with (go_at_fn (ρ.f 152);refine(Any.strings_IndexRune_ascii { L with } _ _ _ (by omega) (by omega)).mono ?_;rintro e w' ⟨rfl,hw⟩;rw[hw,hback])
     go_ret
     exact⟨by rw[Lib.indexAny_hit HN.out.1 Hx.out hin];rfl,HW.out.2⟩
end
end Go.Proofs.YtaielcdfcgpbiaaGreatDoor
namespace Go.Proofs.YtaielcdfcgpbiaaGreatDoor
open Go.Ab Go.Lib
theorem zgQ (s:List UInt8) (hs:s.length≤4294967000):Pure Tryz.prog 118 [.str s,.str [13,10]] (.int .i64 (Lib.indexAny s [13,10])):=by
 refine Pure.of_below fun γ w vs ht hv=>?_
 obtain⟨hlv,hr⟩:=hv
 match vs,hlv with
 | [v,u],_ =>
  cases hr 0 _ _ rfl rfl
  cases hr 1 _ _ rfl rfl
  by_cases h8:s.length≤8
  ·exact(Yv (P:=Tryz.prog) Tryz.lays153 ⟨s.toArray⟩ w (by simpa[ByteArray.size] using h8)).mono fun e w' ⟨he,hw⟩=>⟨hw,_,he,.int _ _⟩
  ·refine(Tryz.strings_IndexAny_long (zero_of_info (n:=256) (by kernel_rfl)).1 ⟨s.toArray⟩ ⟨#[13,10]⟩ w (by decide) (by simp only[ByteArray.size,List.size_toArray];omega) (by simp only[ByteArray.size,List.size_toArray];omega) (by decide) (fun j b hj=>?_)).mono fun e w' ⟨he,hw⟩=>⟨?_,_,he,.int _ _⟩
   ·have hj:([13,10]:List UInt8)[j]?=some b:=hj
    match j,hj with
    | 0,hj=>cases hj;decide
    | 1,hj=>cases hj;decide
    | j+2,hj=>simp at hj
   ·rw[hw]
    exact((Go.RowKit.Below.refl _ _).alloc (Al4 _) _).alloc (by simp) _
theorem zfQ (r:List UInt8):Lib.indexAny r [13,10]=if r.all zY then -1 else ((r.takeWhile zY).length:Int):=by
 induction r with
 | nil=>rfl
 | cons c r ih =>
  rw[Lib.indexAny,ih]
  by_cases hc:zY c=true
  ·have h1:([13,10]:List UInt8).contains c=false:=by
    unfold zY at hc
    simp at hc
    simp[hc.1,hc.2]
   rw[h1]
   by_cases ha:r.all zY=true
   ·simp[ha,hc]
   ·have h2:¬ (((r.takeWhile zY).length:Int)=-1):=by omega
    simp[ha,hc,h2]
  ·have h1:([13,10]:List UInt8).contains c=true:=by
    unfold zY at hc
    simp at hc
    simp
    rcases Classical.em (c=13) with h|h
    ·exact .inl h
    ·exact .inr (Classical.byContradiction fun h10=>h (hc h10))
   rw[h1]
   simp[hc]
theorem zcC {p:UInt8→Bool}:∀ r:List UInt8,r.all p=true→r.takeWhile p=r
 | [],_=>rfl
 | c::r,h=>by
  simp only[List.all_cons,Al0] at h
  rw[List.takeWhile_cons,if_pos h.1,zcC r h.2]
theorem Ye (c:UInt8) (r:List UInt8):yL (c::r)=if c=9∨c=10∨c=13∨c=32∨c=44 then 1 else if zeO.isPrefixOf (c::r) then 3 else if c=35 then 1+(r.takeWhile zY).length else 0:=rfl
theorem zif (c:UInt8) (r:List UInt8) (hs:(c::r).length≤1000000):Pure Tryz.prog 59 [.str (c::r)] (.int .i64 (yL (c::r))):=by
 refine Pure.go ir59 ck59 (Al4 _) fun KP Q hQ=>?_
 have hl:((0:Int)<((c::r).length:Int))=True:=eq_true (by simp only[Al2];omega)
 by_cases hw:c=9∨c=10∨c=13∨c=32∨c=44
 ·have e:yL (c::r)=1:=by rw[Ye,if_pos hw]
  rw[e] at hQ
  rcases hw with rfl|rfl|rfl|rfl|rfl
  ·have hc:((9:UInt8).toNat:Int)=9:=rfl
   simp(disch:=first|omega|assumption) only[ir59,hl,List.getD_cons_zero,hc,go_sem]
   exact hQ _ _ _ _ nofun rfl (by simp[tupOf,envOf,AV.strip,AV.strip1])
  ·have hc:((10:UInt8).toNat:Int)=10:=rfl
   simp(disch:=first|omega|assumption) only[ir59,hl,List.getD_cons_zero,hc,go_sem]
   exact hQ _ _ _ _ nofun rfl (by simp[tupOf,envOf,AV.strip,AV.strip1])
  ·have hc:((13:UInt8).toNat:Int)=13:=rfl
   simp(disch:=first|omega|assumption) only[ir59,hl,List.getD_cons_zero,hc,go_sem]
   exact hQ _ _ _ _ nofun rfl (by simp[tupOf,envOf,AV.strip,AV.strip1])
  ·have hc:((32:UInt8).toNat:Int)=32:=rfl
   simp(disch:=first|omega|assumption) only[ir59,hl,List.getD_cons_zero,hc,go_sem]
   exact hQ _ _ _ _ nofun rfl (by simp[tupOf,envOf,AV.strip,AV.strip1])
  ·have hc:((44:UInt8).toNat:Int)=44:=rfl
   simp(disch:=first|omega|assumption) only[ir59,hl,List.getD_cons_zero,hc,go_sem]
   exact hQ _ _ _ _ nofun rfl (by simp[tupOf,envOf,AV.strip,AV.strip1])
 have nat:∀ k:Nat,(c.toNat:Int)=k→k<256→c=UInt8.ofNat k:=fun k h hk=>UInt8.toNat_inj.1 (by rw[UInt8.toNat_ofNat'];omega)
 have g9:¬ ((c.toNat:Int)=9):=fun e=>hw (.inl (nat 9 e (by decide)))
 have g10:¬ ((c.toNat:Int)=10):=fun e=>hw (.inr (.inl (nat 10 e (by decide))))
 have g13:¬ ((c.toNat:Int)=13):=fun e=>hw (.inr (.inr (.inl (nat 13 e (by decide)))))
 have g32:¬ ((c.toNat:Int)=32):=fun e=>hw (.inr (.inr (.inr (.inl (nat 32 e (by decide))))))
 have g44:¬ ((c.toNat:Int)=44):=fun e=>hw (.inr (.inr (.inr (.inr (nat 44 e (by decide))))))
 simp(disch:=first|omega|assumption) only[ir59,hl,List.getD_cons_zero,g9,g10,g13,g32,g44,go_sem]
 refine goK_pure (Zm (c::r) [239,187,191]) ?_
 by_cases hb:([239,187,191]:List UInt8).isPrefixOf (c::r)=true
 ·have e:yL (c::r)=3:=by rw[Ye,if_neg hw];exact if_pos hb
  rw[e] at hQ
  simp(disch:=first|omega|assumption) only[hb,go_sem]
  exact hQ _ _ _ _ nofun rfl (by simp[tupOf,envOf,AV.strip,AV.strip1])
 have hb':([239,187,191]:List UInt8).isPrefixOf (c::r)=false:=Bool.eq_false_iff.2 hb
 by_cases h35:c=35
 ·subst h35
  have e:yL (35::r)=1+(r.takeWhile zY).length:=by rw[Ye,if_neg hw,if_neg (show ¬ (zeO.isPrefixOf _=true) from hb),if_pos rfl]
  rw[e] at hQ
  have hc:((35:UInt8).toNat:Int)=35:=rfl
  simp(disch:=first|omega|assumption) only[hb',hc,go_sem]
  have hp:=zgQ (35::r) (by omega)
  rw[zfQ] at hp
  have n35:zY 35=true:=rfl
  by_cases ha:r.all zY=true
  ·have e2:=zcC r ha
   have e3:(35::r).all zY=true:=by rw[List.all_cons,n35,ha];rfl
   rw[if_pos e3] at hp
   refine goK_pure hp ?_
   have h0:¬ ((0:Int)≤-1):=by decide
   simp(disch:=first|omega|assumption) only[h0,go_sem]
   exact hQ _ _ _ _ nofun rfl (by simp[tupOf,envOf,AV.strip,AV.strip1,e2,Int.add_comm])
  ·have e3:¬ ((35::r).all zY=true):=by rw[List.all_cons,n35,Bool.true_and];exact ha
   have e2:((35::r).takeWhile zY).length=1+(r.takeWhile zY).length:=by rw[List.takeWhile_cons,if_pos n35];simp;omega
   rw[if_neg e3,e2] at hp
   refine goK_pure hp ?_
   have h0:((0:Int)≤((1+(r.takeWhile zY).length:Nat):Int))=True:=eq_true (by omega)
   simp(disch:=first|omega|assumption) only[h0,go_sem]
   exact hQ _ _ _ _ nofun rfl (by simp[tupOf,envOf,AV.strip,AV.strip1])
 ·have e:yL (c::r)=0:=by rw[Ye,if_neg hw,if_neg (show ¬ (zeO.isPrefixOf _=true) from hb),if_neg h35]
  rw[e] at hQ
  have g35:¬ ((c.toNat:Int)=35):=fun e=>h35 (nat 35 e (by decide))
  simp(disch:=first|omega|assumption) only[hb',g35,go_sem]
  exact hQ _ _ _ _ nofun rfl (by simp[tupOf,envOf,AV.strip,AV.strip1])
theorem zdg (c:UInt8) (r:List UInt8):yc (c::r)=if (isL c||isD c)=true then 1+yc r else 0:=by
 unfold yc
 rw[List.takeWhile_cons]
 split
 ·simp;omega
 ·rfl
theorem zhq (s:List UInt8) (hs:s.length≤Lim) (h0:isL (s.getD 0 0)=true):Pure Tryz.prog 124 [.str s] (.int .i64 (yc s)):=by
 refine Pure.go ir124 ck124 (Al4 _) fun KP Q hQ=>?_
 simp only[Lim] at hs
 have hr1:=za9 s
 simp(disch:=first|omega|assumption) only[ir124,go_sem]
 refine goL_st (fun n:Nat=>[(3,.int .i64 n)]) (fun n H=>yc s=n+yc (s.drop n)∧n≤s.length) (fun n=>s.length-n) 0 (by simp(disch:=first|omega|assumption) only[go_sem]) ⟨by simp,by omega⟩ ?_
 rintro n H J ⟨hn,hle⟩ hJ
 rcases YB s n with ⟨h1,h2⟩|⟨h1,h2⟩
 ·have hlt:¬ ((n:Int)<s.length):=by omega
  rw[h1] at hn
  simp only[yc,List.takeWhile_nil,Al3,Nat.add_zero] at hn
  simp(disch:=first|omega|assumption) only[hlt,go_sem]
  exact hQ _ _ _ _ nofun rfl (by simp[tupOf,envOf,AV.strip,AV.strip1,yc,hn])
 ·have hlt:((n:Int)<s.length):=by omega
  rw[h2,zdg] at hn
  simp(disch:=first|omega|assumption) only[hlt,go_sem]
  refine goK_pure (zcv (s.getD n 0)) ?_
  cases hl:isL (s.getD n 0) with
  | true =>
   simp only[hl,Bool.true_or,if_true] at hn
   simp(disch:=first|omega|assumption) only[hl,go_sem]
   exact goJ (hJ (n+1) _ (by omega) ⟨by omega,by omega⟩) (by simp(disch:=first|omega|assumption) only[wrap64,Int.natCast_add,Int.natCast_one,go_sem])
  | false =>
   have hn0:((0:Int)<(n:Int))=True:=eq_true (by
    rcases Nat.eq_zero_or_pos n with e|e
    ·subst e;rw[h0] at hl;cases hl
    ·omega)
   simp(disch:=first|omega|assumption) only[hl,hn0,hlt,go_sem]
   refine goK_pure (zdo (s.getD n 0)) ?_
   cases hd:isD (s.getD n 0) with
   | true =>
    simp only[hl,hd,Bool.or_true,if_true] at hn
    simp(disch:=first|omega|assumption) only[hd,go_sem]
    exact goJ (hJ (n+1) _ (by omega) ⟨by omega,by omega⟩) (by simp(disch:=first|omega|assumption) only[wrap64,Int.natCast_add,Int.natCast_one,go_sem])
   | false =>
    simp only[hl,hd,Bool.or_false,Al7,if_false,Nat.add_zero] at hn
    simp(disch:=first|omega|assumption) only[hd,go_sem]
    exact hQ _ _ _ _ nofun rfl (by simp[tupOf,envOf,AV.strip,AV.strip1,hn])
def zfP (n:Nat) (x:Option (List UInt8×List UInt8)):AV:=match x with
 | some (raw,t)=>.tup [.str (z7 raw),.int .i64 ((n-t.length:Nat):Int)]
 | none=>.tup [.str [],.int .i64 0]
theorem Yf:∀(n m:Nat) (raw t:List UInt8),t.length<n→t.length<m→yv n raw t=yv m raw t
 | 0,_,_,_,h,_=>absurd h (Nat.not_lt_zero _)
 | _,0,_,_,_,h=>absurd h (Nat.not_lt_zero _)
 | n+1,m+1,raw,[],_,_=>rfl
 | n+1,m+1,raw,c::r,h1,h2=>by
  simp only[Al2] at h1 h2
  simp only[yv]
  rw[Yf n m (raw++zM) (r.drop 3) (by simp;omega) (by simp;omega),Yf n m (raw++[c]) r (by omega) (by omega)]
theorem zay:∀(n:Nat) (raw t b t':List UInt8),yv n raw t=some (b,t')→b.length+t'.length≤raw.length+t.length∧t'.length≤t.length
 | 0,_,_,_,_,h=>by cases h
 | n+1,raw,[],_,_,h=>by cases h
 | n+1,raw,c::r,b,t',h=>by
  simp only[yv] at h
  split at h
  ·cases h;simp;omega
  split at h
  ·rename_i h2
   have hl:=yq _ _ h2
   simp only[zcF,Al2,Al3] at hl
   have:=zay n _ _ _ _ h
   simp[zM] at this ⊢;omega
  ·have:=zay n _ _ _ _ h
   simp at this ⊢;omega
theorem zfU (s:List UInt8) (h3:3≤s.length) (hs:s.length≤yX):Pure Tryz.prog 119 [.str s] (zfP s.length (yv (s.length-2) [] (s.drop 3))):=by
 refine Pure.go ir119 ck119 (Al4 _) fun KP Q hQ=>?_
 simp only[yX] at hs
 obtain⟨R,hR⟩:∃ R,yv (s.length-2) [] (s.drop 3)=R:=⟨_,rfl⟩
 rw[hR] at hQ
 simp(disch:=first|omega|assumption) only[ir119,go_sem]
 refine goL_st (fun x:Own×List UInt8×Nat=>[(4,.sl x.1 1 (bytesOf x.2.1)),(5,.int .i64 x.2.2)]) (fun x H=>3≤x.2.2∧x.2.2≤s.length∧x.2.1.length+3≤x.2.2∧yv ((s.drop x.2.2).length+1) x.2.1 (s.drop x.2.2)=R∧Owned H x.1 x.2.1.length 1) (fun x=>s.length-x.2.2) (.nil,[],3) (by simp(disch:=first|omega|assumption) only[bytesOf,go_sem]) ⟨Al4 _,h3,Al4 _,by rw[← hR];simp only[yQ];rw[show s.length-3+1=s.length-2 by omega],rfl⟩ ?_
 rintro⟨o,raw,i⟩ H J ⟨hi3,hi,hrl,hrw,ho⟩ hJ
 simp only at hi3 hi hrl hrw ho
 have hbl:=zt raw
 by_cases hge:s.length≤i
 ·obtain rfl:i=s.length:=by omega
  rw[List.drop_length] at hrw
  have e:R=none:=by rw[← hrw];rfl
  have h1:((s.length:Int)≤(s.length:Int))=True:=eq_true (Int.le_refl _)
  simp(disch:=first|omega|assumption) only[h1,go_sem]
  exact hQ _ _ _ _ nofun rfl (by simp[tupOf,envOf,AV.strip,AV.strip1,zfP,e])
 have hge':¬ ((s.length:Int)≤(i:Int)):=by omega
 have hle:((i:Int)≤(s.length:Int))=True:=eq_true (by omega)
 have hlt:((i:Int)<(s.length:Int))=True:=eq_true (by omega)
 obtain⟨c,r,hd⟩:∃ c r,s.drop i=c::r:=by
  cases hx:s.drop i with
  | nil=>have:=congrArg List.length hx;simp at this;omega
  | cons c r=>exact⟨c,r,rfl⟩
 have hc:s.getD i 0=c:=by
  have:(s.drop i).getD 0 0=c:=by rw[hd];rfl
  simpa[List.getD_eq_getElem?_getD] using this
 have hdl:s.length=i+(r.length+1):=by have:=congrArg List.length hd;simp at this;omega
 rw[hd] at hrw
 simp only[yv] at hrw
 simp(disch:=first|omega|assumption) only[hge',hle,go_sem]
 refine goK_pure (Zm (s.drop i) [34,34,34]) ?_
 rw[hd]
 by_cases p1:zM.isPrefixOf (c::r)=true
 ·have p1':([34,34,34]:List UInt8).isPrefixOf (c::r)=true:=p1
  have hl3:=yq _ _ p1
  simp only[zM,Al2,Al3] at hl3
  rw[if_pos p1] at hrw
  simp(disch:=first|omega|assumption) only[p1',zcw,go_sem]
  refine goK_pure (zgC raw (by omega)) ?_
  have e:((s.length-(r.length-2):Nat):Int)=(i:Int)+3:=by omega
  simp(disch:=first|omega|assumption) only[wrap64,go_sem]
  exact hQ _ _ _ _ nofun rfl (by simp[tupOf,envOf,AV.strip,AV.strip1,zfP,← hrw,e])
 have p1':([34,34,34]:List UInt8).isPrefixOf (c::r)=false:=Bool.eq_false_iff.2 p1
 rw[if_neg p1] at hrw
 simp(disch:=first|omega|assumption) only[p1',hle,go_sem]
 refine goK_pure (Zm (s.drop i) [92,34,34,34]) ?_
 rw[hd]
 by_cases p2:zcF.isPrefixOf (c::r)=true
 ·have p2':([92,34,34,34]:List UInt8).isPrefixOf (c::r)=true:=p2
  have hl4:=yq _ _ p2
  simp only[zcF,Al2,Al3] at hl4
  rw[if_pos p2] at hrw
  simp(disch:=first|omega|assumption) only[p2',go_sem]
  refine goP_ownS (by rw[hbl];exact ho) (by simp[hbl,bytesOf];omega) (by simp[hbl,bytesOf,maxLen];omega) fun o' H' hs2=>?_
  have hdr:s.drop (i+4)=r.drop 3:=by rw[← List.drop_drop,hd];rfl
  simp(disch:=first|omega|assumption) only[wrap64,go_sem]
  refine goJ (hJ (o',raw++zM,i+4) _ (by simp only;omega) ⟨by simp only;omega,by simp only;omega,by simp[zM];omega,?_,?_⟩) (by simp(disch:=first|omega|assumption) only[← zR,Int.natCast_add,zM,ym,go_sem])
  ·simp only
   rw[hdr,← hrw]
   exact Yf _ _ _ _ (Nat.lt_succ_self _) (by simp;omega)
  ·have h:=hs2.own
   simpa[hbl,bytesOf,zM] using h
 ·have p2':([92,34,34,34]:List UInt8).isPrefixOf (c::r)=false:=Bool.eq_false_iff.2 p2
  rw[if_neg p2] at hrw
  simp(disch:=first|omega|assumption) only[p2',hlt,hc,go_sem]
  refine goP_ownS (by rw[hbl];exact ho) (by simp[hbl];omega) (by simp[hbl,maxLen];omega) fun o' H' hs2=>?_
  have hdr:s.drop (i+1)=r:=by rw[← List.drop_drop,hd];rfl
  simp(disch:=first|omega|assumption) only[wrap64,go_sem]
  refine goJ (hJ (o',raw++[c],i+1) _ (by simp only;omega) ⟨by simp only;omega,by simp only;omega,by simp;omega,?_,?_⟩) (by simp(disch:=first|omega|assumption) only[← zah,Int.natCast_add,go_sem])
  ·simp only
   rw[hdr,← hrw]
   rfl
  ·have h:=hs2.own
   simpa[hbl] using h
end Go.Proofs.YtaielcdfcgpbiaaGreatDoor
