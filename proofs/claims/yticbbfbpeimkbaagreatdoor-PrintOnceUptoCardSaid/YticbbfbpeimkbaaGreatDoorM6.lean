import Derived.Lib.ItoaMem
import Derived.Lib.ParseIntBTie
import Derived.Lib.ValidLaws
import Derived.Test.YticbbfbpeimkbaaGreatDoorM1
import Derived.Test.YticbbfbpeimkbaaGreatDoorM2
import Derived.Test.YticbbfbpeimkbaaGreatDoorM3
import Derived.Test.YticbbfbpeimkbaaGreatDoorM4
import Derived.Test.YticbbfbpeimkbaaGreatDoorM5
set_option maxRecDepth 100000
set_option linter.all false
namespace Go.Proofs.YticbbfbpeimkbaaGreatDoor
open Go.Ab
def wfD (x:DirD):Prop:=zeY x.args
def zkn (l:List DirD):Prop:=∀ x∈l,wfD x
mutual
def wfS:SelD→Prop
 | .mk _ _ _ args dirs _ sels=>zeY args∧zkn dirs∧zdc sels
def zdc:List SelD→Prop
 | []=>True
 | x::r=>wfS x∧zdc r
end
def wfW (x:VarD):Prop:=inR x.t.lists∧inR x.t.musts∧wfV x.d
def wfO (x:OpD):Prop:=(∀ y∈x.vars,wfW y)∧zkn x.dirs∧zdc x.sels
def wfF (x:FragD):Prop:=zkn x.dirs∧zdc x.sels
def zaK (d:DocD):Prop:=(∀ x∈d.ops,wfO x)∧∀ x∈d.frags,wfF x
def pk (s:List UInt8):Tok:=⟨1,s⟩
def wk (s:List UInt8):Tok:=⟨2,s⟩
def yz (dp:Int) (fixed:Bool) (v:Val):Bool:=zaf v&&(decide (dp+zN v≤16)&&(!fixed||decide ((yI v []).length=0)))
def zfk (dp:Int) (fixed:Bool):Mem→Bool
 | .mk s v=>zZ s&&yz dp fixed v
def ZH (dp:Int) (fixed:Bool) (l:List Mem):Bool:=l.all (zfk dp fixed)
def zbr (dp:Int) (fixed:Bool) (d:DirD):Bool:=zZ d.nm&&ZH dp fixed d.args
def yO (dp:Int) (fixed:Bool) (l:List DirD):Bool:=l.all (zbr dp fixed)
mutual
def z6 (dp : Int) : SelD → Bool
  | .mk k al nm args dirs on sels => yO dp false dirs &&
    (if k = 0 then zZ nm && ((decide (al = []) || zZ al) && (decide (on = []) && (ZH dp false args && (decide (sels.length = 0) || (decide (dp + 1 ≤ 16) && yw (dp + 1) sels)))))
     else if k = 1 then zZ nm && (decide (nm ≠ [111, 110]) && (decide (al = []) && (decide (on = []) && (decide (args.length = 0) && decide (sels.length = 0)))))
     else if k = 2 then decide (nm = []) && (decide (al = []) && (decide (args.length = 0) && ((decide (on = []) || zZ on) && (decide (sels.length ≠ 0) && (decide (dp + 1 ≤ 16) && yw (dp + 1) sels)))))
     else false)
def yw (dp:Int):List SelD→Bool
 | []=>true
 | x::r=>z6 dp x&&yw dp r
end
def zQ (dp:Int) (l:List SelD):Bool:=decide (l.length≠0)&&(decide (dp≤16)&&yw dp l)
def yy (t:TyD):Bool:=zZ t.nm&&(decide (0≤t.lists)&&(decide (t.lists≤4)&&(decide (0≤t.musts)&&decide (t.musts<2 ^ (t.lists.toNat+1)))))
noncomputable def zdM (has:Bool) (v:Val):Bool:=if has then yz 0 true v else eqd v zV
noncomputable def zaF (x:VarD):Bool:=zZ x.nm&&(yy x.t&&zdM x.has x.d)
noncomputable def ZC (o:OpD):Bool:=(decide (o.k=0)||decide (o.k=1))&&((decide (o.nm=[])||zZ o.nm)&&(o.vars.all zaF&&(yO 0 true o.dirs&&zQ 1 o.sels)))
def Y7 (f:FragD):Bool:=decide (f.nm≠[111,110])&&(zZ f.nm&&(zZ f.on&&(yO 0 true f.dirs&&zQ 1 f.sels)))
noncomputable def yQ (d:DocD):Bool:=decide (0<d.ops.length+d.frags.length)&&(d.ops.all ZC&&d.frags.all Y7)
def ZU (l:List Mem):List Tok:=if l.length=0 then [] else pk [40]::(Zc l++[pk [41]])
def tD (d:DirD):List Tok:=pk [64]::wk d.nm::ZU d.args
def tDs (l:List DirD):List Tok:=l.flatMap tD
mutual
def tS:SelD→List Tok
 | .mk k al nm args dirs on sels=>(if k=0 then (if al=[] then [] else [wk al,pk [58]])++(wk nm::ZU args) else if k=1 then [pk [46,46,46],wk nm] else pk [46,46,46]::(if on=[] then [] else [wk [111,110],wk on])) ++
  (tDs dirs++(if sels.length=0 then [] else pk [123]::(tSl sels++[pk [125]])))
def tSl:List SelD→List Tok
 | []=>[]
 | x::r=>tS x++tSl r
end
def tBl (l:List SelD):List Tok:=pk [123]::(tSl l++[pk [125]])
def zcM (m:Int) (i:Nat):Bool:=decide (m / 2 ^ i % 2=1)
def zdy (n:Nat) (m:Int) (i:Nat):List Tok:=(if i<n then [pk [93]] else [])++(if zcM m i then [pk [33]] else [])
def zcv (n:Nat) (m:Int):Nat→List Tok
 | 0=>zdy n m 0
 | i+1=>zdy n m (i+1)++zcv n m i
def tTy (t:TyD):List Tok:=List.replicate t.lists.toNat (pk [91])++(wk t.nm::zcv t.lists.toNat t.musts t.lists.toNat)
def tDf (has:Bool) (v:Val):List Tok:=if has then pk [61]::yD v else []
def tW (x:VarD):List Tok:=pk [36]::wk x.nm::pk [58]::(tTy x.t++tDf x.has x.d)
def tWs (l:List VarD):List Tok:=if l.length=0 then [] else pk [40]::(l.flatMap tW++[pk [41]])
def tO (o:OpD):List Tok:=wk (if o.k=0 then [113,117,101,114,121] else [109,117,116,97,116,105,111,110])::((if o.nm=[] then [] else [wk o.nm])++(tWs o.vars++(tDs o.dirs++tBl o.sels)))
def tF (f:FragD):List Tok:=wk [102,114,97,103,109,101,110,116]::wk f.nm::wk [111,110]::wk f.on::(tDs f.dirs++tBl f.sels)
def Y3 (d:DocD):List Tok:=d.ops.flatMap tO++d.frags.flatMap tF
theorem zos:∀ a b,tSl (a++b)=tSl a++tSl b
 | [],b=>rfl
 | x::a,b=>by simp[tSl,zos a b]
theorem zdf (dp:Int):∀ a b,yw dp (a++b)=(yw dp a&&yw dp b)
 | [],b=>by simp[yw]
 | x::a,b=>by simp[yw,zdf dp a b,Za]
theorem zi7:∀ a b,Zc (a++b)=Zc a++Zc b
 | [],b=>rfl
 | x::a,b=>by simp[Zc,zi7 a b]
theorem zke:bV zV=1∧wfV zV:=⟨rfl,zkF,trivial,trivial⟩
theorem zpg (s:List UInt8):bV (zaM s)≤1+s.length∧wfV (zaM s):=by
 unfold zaM
 split
 ·exact⟨by rw[zke.1];omega,zke.2⟩
 split
 ·exact⟨by simp only[bV,bVs,bMs,Al3];omega,by simp[inR],trivial,trivial⟩
 split
 ·exact⟨by simp only[bV,bVs,bMs,Al3];omega,zkF,trivial,trivial⟩
 ·exact⟨by simp only[bV,bVs,bMs];omega,zkF,trivial,trivial⟩
theorem Z2 {f:TS→PR Val} (hf:GP bV wfV 1 f):GP bM wfM 1 (yP f):=fun t x t' h=>by
 obtain⟨s,t1,h1,h2⟩:=zq h
 obtain⟨_,t2,h3,h4⟩:=zq h2
 obtain⟨v,t3,h5,h6⟩:=zq h4
 cases h6
 have g1:=Zo _ _ _ h1
 have g2:=zbX _ _ _ _ h3
 have g3:=hf _ _ _ h5
 have w1:=g1.w
 have w2:=g2.w
 have w3:=g3.w
 simp only[b0] at w2
 exact⟨(g3.suf.trans g2.suf).trans g1.suf,by simp only[bM];omega,g3.ok⟩
theorem zqM:∀ l:List Val,bVs l+l.length=sm bV l
 | []=>rfl
 | v::r=>by have:=zqM r;simp only[sm,bVs,Al2,List.map_cons,List.sum_cons] at *;omega
theorem znS:∀ l:List Mem,bMs l+l.length=sm bM l
 | []=>rfl
 | v::r=>by have:=znS r;simp only[sm,bMs,Al2,List.map_cons,List.sum_cons] at *;omega
theorem zoO:∀ {l:List Val},(∀ v∈l,wfV v)→zpw l
 | [],_=>trivial
 | v::r,h=>⟨h v (.head _),zoO fun x hx=>h x (.tail _ hx)⟩
theorem zkL:∀ {l:List Mem},(∀ v∈l,wfM v)→zeY l
 | [],_=>trivial
 | v::r,h=>⟨h v (.head _),zkL fun x hx=>h x (.tail _ hx)⟩
theorem zjs (fixed:Bool) (k:Nat) (ih:∀ n,k=n+1→GP bV wfV 1 (Zq fixed n)):GP bV wfV 1 (Zq fixed k):=fun t v t' h=>by
 rw[yX,zaH.eq_def] at h
 split at h
 ·rename_i hk
  cases h
  have h0:=zfZ (t:=t) (by omega)
  have h1:=zpg (hdT t).s
  exact⟨h0.1,by omega,h1.2⟩
 split at h
 ·rename_i hk
  cases h
  have h0:=zfZ (t:=t) (by omega)
  have h1:=zqu (hdT t).s
  exact⟨h0.1,by omega,h1.2⟩
 split at h
 ·rename_i hk
  cases h
  have h0:=zfZ (t:=t) (by omega)
  exact⟨h0.1,by simp only[bV,bVs,bMs];omega,zkF,trivial,trivial⟩
 split at h
 ·rename_i hp
  have h0:=zae hp
  cases k with
  | zero=>cases h
  | succ n =>
   obtain⟨l,t1,h1,h2⟩:=zq h
   cases h2
   have g:=zdN (ih n rfl) _ [] _ _ _ (fun x hx=>by cases hx) h1
   have e:=zqM l
   have e0:sm bV []=0:=rfl
   exact⟨g.1.trans h0.1,by simp only[bV,bMs,Al3];omega,zkF,zoO g.2.2,trivial⟩
 split at h
 ·rename_i hp
  have h0:=zae hp
  cases k with
  | zero=>cases h
  | succ n =>
   obtain⟨l,t1,h1,h2⟩:=zq h
   cases h2
   have g:=zdN (Z2 (ih n rfl)) _ [] _ _ _ (fun x hx=>by cases hx) h1
   have e:=znS l
   have e0:sm bM []=0:=rfl
   exact⟨g.1.trans h0.1,by simp only[bV,bVs,Al3];omega,zkF,trivial,zkL g.2.2⟩
 split at h
 ·cases h
 ·obtain⟨_,t1,h1,h2⟩:=zq h
  obtain⟨s,t2,h3,h4⟩:=zq h2
  cases h4
  have g1:=zbX _ _ _ _ h1
  have g2:=Zo _ _ _ h3
  have w1:=g1.w
  have w2:=g2.w
  simp only[b0] at w1
  exact⟨g2.suf.trans g1.suf,by simp only[bV,bVs,bMs];omega,zkF,trivial,trivial⟩
theorem YE (fixed:Bool):∀ k,GP bV wfV 1 (Zq fixed k)
 | 0=>zjs fixed 0 fun n h=>by cases h
 | k+1=>zjs fixed (k+1) fun n h=>by cases h;exact YE fixed k
theorem zj0 (fixed:Bool) (k:Nat):GP bMs zeY 0 (Y0 fixed k):=fun t a t' h=>by
 unfold Y0 at h
 split at h
 ·rename_i hp
  have h0:=zae hp
  have g:=zem (Z2 (YE fixed k)) _ _ _ h
  have e:=znS a
  have w:=g.w
  exact⟨g.suf.trans h0.1,by omega,zkL g.ok⟩
 ·cases h
  exact⟨List.suffix_refl t,by simp[bMs],trivial⟩
theorem zic (fixed:Bool) (k:Nat):GP bD wfD 1 (zfY fixed k):=fun t a t' h=>by
 obtain⟨s,t1,h1,h2⟩:=zq h
 obtain⟨l,t2,h3,h4⟩:=zq h2
 cases h4
 have g1:=Zo _ _ _ h1
 have g2:=zj0 fixed k _ _ _ h3
 have w1:=g1.w
 have w2:=g2.w
 exact⟨g2.suf.trans g1.suf,by simp only[bD];omega,g2.ok⟩
theorem zuG (l:List DirD):bDs l+l.length=sm bD l:=rfl
theorem zbN (fixed:Bool) (k:Nat):GP bDs zkn 0 (Yx fixed k):=fun t a t' h=>by
 have g:=zhj (zic fixed k) _ [] _ _ _ (fun x hx=>by cases hx) h
 have e:=zuG a
 have e0:sm bD []=0:=rfl
 exact⟨g.1,by omega,g.2.2⟩
theorem zrq:∀ l:List SelD,bSs l+l.length=sm bS l
 | []=>rfl
 | v::r=>by have:=zrq r;simp only[sm,bSs,Al2,List.map_cons,List.sum_cons] at *;omega
theorem zn3:∀ {l:List SelD},(∀ v∈l,wfS v)→zdc l
 | [],_=>trivial
 | v::r,h=>⟨h v (.head _),zn3 fun x hx=>h x (.tail _ hx)⟩
theorem zfq {k:Nat} {sels:TS→PR (List SelD)} (hs:GP bSs zdc 4 sels):GP bS wfS 1 (zay sels k):=fun t a t' h=>by
 unfold zay at h
 split at h
 ·rename_i hp
  have h0:=zae hp
  unfold Zp at h
  split at h
  ·obtain⟨s,t1,h1,h2⟩:=zq h
   obtain⟨d,t2,h3,h4⟩:=zq h2
   cases h4
   have g1:=Zo _ _ _ h1
   have g2:=zbN false k _ _ _ h3
   have w1:=g1.w
   have w2:=g2.w
   exact⟨(g2.suf.trans g1.suf).trans h0.1,by simp only[bS,bMs,bSs,Al3];omega,trivial,g2.ok,trivial⟩
  ·obtain⟨o,t1,h1,h2⟩:=zq h
   obtain⟨d,t2,h3,h4⟩:=zq h2
   obtain⟨l,t3,h5,h6⟩:=zq h4
   cases h6
   have g1:t1 <:+ t.tail∧o.length+wT t1≤wT t.tail:=by
    split at h1
    ·rename_i hw
     have h7:=ze1 hw
     have g:=Zo _ _ _ h1
     have w:=g.w
     exact⟨g.suf.trans h7.1,by omega⟩
    ·cases h1;exact⟨List.suffix_refl _,by simp⟩
   have g2:=zbN false k _ _ _ h3
   have g3:=hs _ _ _ h5
   have w2:=g2.w
   have w3:=g3.w
   exact⟨((g3.suf.trans g2.suf).trans g1.1).trans h0.1,by simp only[bS,bMs,Al3];omega,trivial,g2.ok,g3.ok⟩
 ·obtain⟨s,t1,h1,h2⟩:=zq h
  obtain⟨an,t2,h3,h4⟩:=zq h2
  obtain⟨l,t3,h5,h6⟩:=zq h4
  obtain⟨d,t4,h7,h8⟩:=zq h6
  obtain⟨ss,t5,h9,h10⟩:=zq h8
  cases h10
  have g1:=Zo _ _ _ h1
  have g2:t2 <:+ t1∧an.1.length+an.2.length+wT t2≤s.length+wT t1:=by
   split at h3
   ·rename_i hw
    have h7:=zae hw
    obtain⟨s2,t6,h11,h12⟩:=zq h3
    cases h12
    have g:=Zo _ _ _ h11
    have w:=g.w
    exact⟨g.suf.trans h7.1,by simp only;omega⟩
   ·cases h3;exact⟨List.suffix_refl _,by simp⟩
  have g3:=zj0 false k _ _ _ h5
  have g4:=zbN false k _ _ _ h7
  have g5:t' <:+ t4∧bSs ss+wT t'≤wT t4∧zdc ss:=by
   split at h9
   ·have g:=hs _ _ _ h9
    have w:=g.w
    exact⟨g.suf,by omega,g.ok⟩
   ·cases h9;exact⟨List.suffix_refl _,by simp[bSs],trivial⟩
  have w1:=g1.w
  have w3:=g3.w
  have w4:=g4.w
  exact⟨(((g5.1.trans g4.suf).trans g3.suf).trans g2.1).trans g1.suf,by simp only[bS,Al3];omega,g3.ok,g4.ok,g5.2.2⟩
theorem Yb:∀ k,GP bSs zdc 4 (yo k)
 | 0=>fun t a t' h=>by rw[yo] at h;split at h<;>cases h
 | k+1=>fun t a t' h=>by
  rw[yo] at h
  split at h
  ·rename_i hp
   have h0:=zae hp
   have g:=zem (zfq (k:=k) (Yb k)) _ _ _ h
   have e:=zrq a
   have w:=g.w
   exact⟨g.suf.trans h0.1,by omega,zn3 g.ok⟩
  ·cases h
theorem ziU {n:Int} (h0:0≤n) (h1:n<64):inR n:=by simp only[inR];omega
theorem zsV {ty:TyD} (h:zl8 4 ty):inR ty.lists∧inR ty.musts:=by
 obtain⟨h1,h2,h3,h4⟩:=h
 refine⟨ziU h1 (by omega),ziU h3 ?_⟩
 have:ty.lists.toNat+1≤5:=by omega
 have h5:(2:Int) ^ (ty.lists.toNat+1)≤2 ^ 5:=by exact_mod_cast Nat.pow_le_pow_right (by decide) this
 omega
theorem zb0:GP bW wfW 1 zaX:=fun t a t' h=>by
 obtain⟨_,t1,h1,h2⟩:=zq h
 obtain⟨s,t2,h3,h4⟩:=zq h2
 obtain⟨_,t3,h5,h6⟩:=zq h4
 obtain⟨ty,t4,h7,h8⟩:=zq h6
 have g1:=zbX _ _ _ _ h1
 have g2:=Zo _ _ _ h3
 have g3:=zbX _ _ _ _ h5
 have g4:=zib 4 _ _ _ h7
 have w1:=g1.w
 have w2:=g2.w
 have w3:=g3.w
 have w4:=g4.w
 simp only[b0] at w1 w3
 have hw:=zsV g4.ok
 split at h8
 ·rename_i hp
  have h0:=zae hp
  obtain⟨v,t5,h9,h10⟩:=zq h8
  cases h10
  have g5:=YE true 16 _ _ _ h9
  have w5:=g5.w
  exact⟨((((g5.suf.trans h0.1).trans g4.suf).trans g3.suf).trans g2.suf).trans g1.suf,by simp only[bW];omega,hw.1,hw.2,g5.ok⟩
 ·cases h8
  exact⟨((g4.suf.trans g3.suf).trans g2.suf).trans g1.suf,by simp only[bW,zke.1];omega,hw.1,hw.2,zke.2⟩
theorem zvh (l:List VarD):bWs l+l.length=sm bW l:=rfl
theorem zfi (kind:Int):GP bO wfO 1 (opP kind):=fun t a t' h=>by
 obtain⟨s,t1,h1,h2⟩:=zq h
 obtain⟨vs,t2,h3,h4⟩:=zq h2
 obtain⟨d,t3,h5,h6⟩:=zq h4
 obtain⟨l,t4,h7,h8⟩:=zq h6
 cases h8
 have g1:t1 <:+ t∧s.length+wT t1≤wT t:=by
  split at h1
  ·have g:=Zo _ _ _ h1
   have w:=g.w
   exact⟨g.suf,by omega⟩
  ·cases h1;exact⟨List.suffix_refl _,by simp⟩
 have g2:t2 <:+ t1∧bWs vs+wT t2≤wT t1∧∀ x∈vs,wfW x:=by
  split at h3
  ·rename_i hp
   have h0:=zae hp
   have g:=zem zb0 _ _ _ h3
   have w:=g.w
   have e:=zvh vs
   exact⟨g.suf.trans h0.1,by omega,g.ok⟩
  ·cases h3;exact⟨List.suffix_refl _,by simp[bWs],fun x hx=>(by cases hx)⟩
 have g3:=zbN true 16 _ _ _ h5
 have g4:=Yb 16 _ _ _ h7
 have w3:=g3.w
 have w4:=g4.w
 exact⟨((g4.suf.trans g3.suf).trans g2.1).trans g1.1,by simp only[bO];omega,g2.2.2,g3.ok,g4.ok⟩
theorem zfE:GP bF wfF 1 zcG:=fun t a t' h=>by
 obtain⟨s,t1,h1,h2⟩:=zq h
 obtain⟨_,t2,h3,h4⟩:=zq h2
 obtain⟨o,t3,h5,h6⟩:=zq h4
 obtain⟨d,t4,h7,h8⟩:=zq h6
 obtain⟨l,t5,h9,h10⟩:=zq h8
 cases h10
 have g1:Fp List.length T1 4 t s t1:=by
  split at h1
  ·cases h1
  ·exact Zo _ _ _ h1
 have g2:t2 <:+ t1∧wT t2≤wT t1:=by
  split at h3
  ·rename_i hw
   cases h3
   have h0:=ze1 hw
   exact⟨h0.1,by omega⟩
  ·cases h3
 have g3:=Zo _ _ _ h5
 have g4:=zbN true 16 _ _ _ h7
 have g5:=Yb 16 _ _ _ h9
 have w1:=g1.w
 have w3:=g3.w
 have w4:=g4.w
 have w5:=g5.w
 exact⟨(((g5.suf.trans g4.suf).trans g3.suf).trans g2.1).trans g1.suf,by simp only[bF];omega,g4.ok,g5.ok⟩
structure DocFit (d:DocD) (t:TS) (d':DocD) (t':TS):Prop where
 suf:t' <:+ t
 lt:t'.length<t.length
 w:zbk d'+wT t'≤zbk d+wT t
 ok:zaK d→zaK d'
theorem zlz (l:List OpD) (o:OpD):bOs (l++[o])=bOs l+bO o:=by simp[bOs]
theorem zsh (l:List FragD) (o:FragD):bFs (l++[o])=bFs l+bF o:=by simp[bFs]
theorem zls {d:DocD} {t:TS} {d':DocD} {t':TS} (h:Yj d t=.ok (d',t')):DocFit d t d' t':=by
 have key:∀ {u:TS},t' <:+ u→u <:+ t→wT t'<wT t→t'.length<t.length:=fun h1 h2 h3=>by
  obtain⟨p,hp⟩:=h1.trans h2
  cases p with
  | nil=>simp at hp;subst hp;omega
  | cons x p=>rw[← hp];simp;omega
 have op:∀(kind:Int) (w:List UInt8),isW w t=true→pb (opP kind t.tail) (fun o t=>.ok ((⟨d.ops++[o],d.frags⟩:DocD),t))=.ok (d',t')→DocFit d t d' t':=fun kind w hw h=>by
  have h0:=ze1 hw
  obtain⟨o,t1,h1,h2⟩:=zq h
  cases h2
  have g:=zfi kind _ _ _ h1
  have w1:=g.w
  exact⟨g.suf.trans h0.1,key g.suf h0.1 (by omega),by simp only[zbk,zlz];omega,fun hd=>⟨zcz hd.1 g.ok,hd.2⟩⟩
 unfold Yj at h
 split at h
 ·obtain⟨l,t1,h1,h2⟩:=zq h
  cases h2
  have g:=Yb 16 _ _ _ h1
  have w1:=g.w
  refine⟨g.suf,key g.suf (List.suffix_refl t) (by omega),?_,fun hd=>⟨zcz hd.1 ⟨fun x hx=>(by cases hx),fun x hx=>(by cases hx),g.ok⟩,hd.2⟩⟩
  simp only[zbk,zlz,bO,bWs,bDs,List.map_nil,List.sum_nil,Al3];omega
 split at h
 ·rename_i hw;exact op 0 _ hw h
 split at h
 ·rename_i hw;exact op 1 _ hw h
 split at h
 ·rename_i hw
  have h0:=ze1 hw
  obtain⟨o,t1,h1,h2⟩:=zq h
  cases h2
  have g:=zfE _ _ _ h1
  have w1:=g.w
  exact⟨g.suf.trans h0.1,key g.suf h0.1 (by omega),by simp only[zbk,zsh];omega,fun hd=>⟨hd.1,zcz hd.2 g.ok⟩⟩
 ·cases h
theorem ziK:∀(n:Nat) (d:DocD) (t:TS) (d':DocD) (t':TS),Yk n d t=.ok (d',t')→t'=[]∧zbk d'≤zbk d+wT t∧(zaK d→zaK d')
 | 0,_,_,_,_,h=>by cases h
 | n+1,d,t,d',t',h=>by
  simp only[Yk] at h
  split at h
  ·rename_i ht
   cases h
   exact⟨ht,by omega,id⟩
  ·obtain⟨d1,t1,h1,h2⟩:=zq h
   have g1:=zls h1
   have g2:=ziK n _ _ _ _ h2
   have w1:=g1.w
   exact⟨g2.1,by omega,fun hd=>g2.2.2 (g1.ok hd)⟩
theorem zmH {t:TS} {d:DocD} {t':TS} (h:ze8 t=.ok (d,t')):t'=[]∧zbk d≤wT t∧zaK d:=by
 obtain⟨d1,t1,h1,h2⟩:=zq h
 have g1:=zls h1
 have g2:=ziK _ _ _ _ _ h2
 have w1:=g1.w
 have e0:zbk ⟨[],[]⟩=0:=rfl
 exact⟨g2.1,by omega,g2.2.2 (g1.ok ⟨fun x hx=>(by cases hx),fun x hx=>(by cases hx)⟩)⟩
theorem zvc (s:List UInt8):zu Tryz.prog 175 [.str s] (.agg (cV (zaM s))):=by
 refine zu.go ir175 ck175 (Al4 _) fun KP Q hQ=>?_
 simp(disch:=first|omega|assumption) only[ir175,go_sem]
 refine zm fun b hb=>?_
 by_cases h1:s=[110,117,108,108]
 ·have h1':(s=[110,117,108,108])=True:=eq_true h1
  simp(disch:=first|omega|assumption) only[h1',go_sem]
  exact hQ _ _ _ [.agg [.int .i64 0,.int .i64 0,.str [],.sl .nil 5 [],.sl .nil 6 []]] nofun (by simp(disch:=first|omega|assumption) only[ir175,zP,yR,go_sem]) (by rw[zaM,if_pos h1];rfl)
 by_cases h2:s=[116,114,117,101]
 ·have h2':(s=[116,114,117,101])=True:=eq_true h2
  simp(disch:=first|omega|assumption) only[h1,h2',go_sem]
  exact hQ _ _ _ [.agg [.int .i64 1,.int .i64 1,.str [],.sl .nil 5 [],.sl .nil 6 []]] nofun (by simp(disch:=first|omega|assumption) only[ir175,zP,yR,go_sem]) (by rw[zaM,if_neg h1,if_pos h2];rfl)
 by_cases h3:s=[102,97,108,115,101]
 ·have h3':(s=[102,97,108,115,101])=True:=eq_true h3
  simp(disch:=first|omega|assumption) only[h1,h2,h3',go_sem]
  exact hQ _ _ _ [.agg [.int .i64 1,.int .i64 0,.str [],.sl .nil 5 [],.sl .nil 6 []]] nofun (by simp(disch:=first|omega|assumption) only[ir175,zP,yR,go_sem]) (by rw[zaM,if_neg h1,if_neg h2,if_pos h3];rfl)
 simp(disch:=first|omega|assumption) only[h1,h2,h3,go_sem]
 exact hQ _ _ _ [.agg [.int .i64 5,.int .i64 0,.str s,.sl .nil 5 [],.sl .nil 6 []]] nofun (by simp(disch:=first|omega|assumption) only[ir175,zP,yR,go_sem]) (by rw[zaM,if_neg h1,if_neg h2,if_neg h3];rfl)
def zoz (fixed:Bool) (k:Nat):Prop:=∀(H:za) (r:Nat) (L p t:TS),p++t=L→wT L≤yS→H r=some (prc L p (16-k)) →
 zj Tryz.prog 96 [.ptr r 0,.bool fixed] H (RpE H r L (16-k) (Zq fixed k t) fun v=>.agg (cV v))
theorem zhx {fixed:Bool} {k:Nat} (hv:zoz fixed k) {H:za} {r:Nat} {L p t:TS} (hs:p++t=L) (hl:wT L≤yS) (hr:H r=some (prc L p (16-k))) :
  zj Tryz.prog 181 [.ptr r 0,.bool fixed] H (RpE H r L (16-k) (yP (Zq fixed k) t) fun m=>.agg (cM m)):=by
 refine ZL (zj.goO (R:=fun v H'=>zel H r L (16-k) (yP (Zq fixed k) t) (fun m=>.agg (cM m)) v.strip H') (RP:=fun v H'=>zfm (yP (Zq fixed k) t) v H') ir181 ck181 (Al4 _) fun KP Q hQ hP=>?_)
 have hll:L.length≤yS:=Nat.le_trans (zbf L) hl
 have pan:∀(v:AV) (H1:za) (n:Int),v=Zj n→yP (Zq fixed k) t=.error n→KP v H1:=fun v H1 n h1 h2=>hP v H1 H1 (Low.refl _) ⟨n,h2,h1⟩
 have fin:=KI.done hQ
 have K0:=KI.start hs hr
 simp(disch:=first|omega|assumption) only[ir181,go_sem]
 refine zm fun b4 hb4=>?_
 have n4:=K0.ne hb4
 have K1:=K0.box (x:=.cells [.str [],.int .i64 0,.int .i64 0,.str [],.sl .nil 5 [],.sl .nil 6 []]) hb4
 simp(disch:=first|omega|assumption) only[go_sem]
 refine zp (zaC (dp:=16-k) hs hll (by rw[upd_ne n4];exact hr)) (fun v H1 ⟨nm,t1,e1,hv1,ha1⟩=>?_) fun v H1 ⟨n,e1,hv1⟩=>pan v H1 n hv1 (by rw[yP,e1];rfl)
 subst hv1
 have K2:=K1.call ha1
 obtain⟨p1,hp1,hr1⟩:=K2.here
 have g1:H1 b4=some (.cells [.str [],.int .i64 0,.int .i64 0,.str [],.sl .nil 5 [],.sl .nil 6 []]):=by rw[ha1.other (Ne.symm n4),upd_same]
 simp(disch:=first|omega|assumption) only[go_sem]
 refine zp (zhn (dp:=16-k) hp1 hll hr1 [58]) (fun v H2 ⟨_,t2,e2,hv2,ha2⟩=>?_) fun v H2 ⟨n,e2,hv2⟩=>pan v H2 n hv2 (by rw[yP,e1,zF,e2];rfl)
 subst hv2
 have K3:=K2.call ha2
 obtain⟨p2,hp2,hr2⟩:=K3.here
 have g2:H2 b4=some (.cells [.str [],.int .i64 0,.int .i64 0,.str [],.sl .nil 5 [],.sl .nil 6 []]):=by rw[ha2.other (Ne.symm n4),g1]
 simp(disch:=first|omega|assumption) only[go_sem]
 refine zp (hv _ r L p2 t2 hp2 hl hr2) (fun v H3 ⟨x,t3,e3,hv3,ha3⟩=>?_) fun v H3 ⟨n,e3,hv3⟩=>pan v H3 n hv3 (by rw[yP,e1,zF,e2,zF,e3];rfl)
 subst hv3
 have K4:=K3.call ha3
 have g3:H3 b4=some (.cells [.str [],.int .i64 0,.int .i64 0,.str [],.sl .nil 5 [],.sl .nil 6 []]):=by rw[ha3.other (Ne.symm n4),g2]
 simp(disch:=first|omega|assumption) only[zl,zg,ze,zk,zh,zd,zr,g3,go_sem]
 refine fin _ _ [.agg (.str nm::cV x)] (.mk nm x) t3 (by simp(disch:=first|omega|assumption) only[zl,zg,ze,zk,zh,zd,zr,ir181,zP,yR,go_sem]) (by rw[yP,e1,zF,e2,zF,e3];rfl) (K4.box hb4) ?_
 simp[zc,AV.strip,AV.strip1,zr,zav]
abbrev zB:List AV:=[.int .i64 0,.int .i64 0,.str [],.sl .nil 5 [],.sl .nil 6 []]
theorem zoo (fixed:Bool) (k:Nat) (hk:k≤16) (ih:∀ n,k=n+1→zoz fixed n):zoz fixed k:=by
 intro H r L p t hs hl hr
 refine ZL (zj.goO (R:=fun v H'=>zel H r L (16-k) (Zq fixed k t) (fun v=>.agg (cV v)) v.strip H') (RP:=fun v H'=>zfm (Zq fixed k t) v H') ir96 ck96 (Al4 _) fun KP Q hQ hP=>?_)
 have hll:L.length≤yS:=Nat.le_trans (zbf L) hl
 have hsl:(hdT t).s.length≤yS:=Nat.le_trans (zwW hs) hl
 have hplen:p.length+t.length=L.length:=by rw[← hs];simp
 have pan:∀(v:AV) (H1:za) (n:Int),v=Zj n→Zq fixed k t=.error n→KP v H1:=fun v H1 n h1 h2=>hP v H1 H1 (Low.refl _) ⟨n,h2,h1⟩
 have fin:=KI.done hQ
 have K0:=KI.start hs hr
 simp(disch:=first|omega|assumption) only[ir96,go_sem]
 refine zm fun b4 hb4=>?_
 have n4:=K0.ne hb4
 simp(disch:=first|omega|assumption) only[go_sem]
 refine zK (zjq (dp:=16-k) hs (by rw[upd_ne n4];exact hr)) fun v H1 ⟨hv,hH⟩=>?_
 subst hv;subst hH
 simp(disch:=first|omega|assumption) only[Yw,go_sem]
 refine zm fun b5 hb5=>?_
 have h54:b5≠b4:=fun e=>by subst e;rw[upd_same] at hb5;cases hb5
 have hb5H:H b5=none:=by rw[upd_ne h54] at hb5;exact hb5
 have n5:=K0.ne hb5H
 simp(disch:=first|omega|assumption) only[go_sem]
 generalize hHa:za.upd (za.upd H b4 _) b5 _=Ha
 have g5:Ha b5=some (.cells [.int .i64 (hdT t).k,.str (hdT t).s]):=by rw[← hHa,upd_same]
 have g4:Ha b4=some (.cells zB):=by rw[← hHa,upd_ne (Ne.symm h54),upd_same]
 have gr:Ha r=some (prc L p (16-k)):=by rw[← hHa,upd_ne n5,upd_ne n4];exact hr
 have KA:KI H r L t (16-k) Ha:=by rw[← hHa];exact(K0.box hb4).box hb5H
 clear hHa
 have gr':=gr
 simp only[prc] at gr'
 simp only[zB] at g4
 have n5s:=Ne.symm n5
 have n4s:=Ne.symm n4
 simp only[yS] at hsl
 have hll2:=hll
 simp only[yS] at hll2
 by_cases hk2:(hdT t).k=2
 ·have hk2':((hdT t).k=2)=True:=eq_true hk2
  have e1:Zq fixed k t=.ok (zaM (hdT t).s,t.tail):=by rw[yX,zaH.eq_def,if_pos hk2]
  simp(disch:=first|omega|assumption) only[hk2',g5,gr',wrap64,n5s,n4s,go_sem]
  refine zb (zvc _) ?_
  simp(disch:=first|omega|assumption) only[zl,zg,ze,zk,zh,zd,zr,g4,n4s,go_sem]
  exact fin _ _ [.agg (cV (zaM (hdT t).s))] _ _ (by simp(disch:=first|omega|assumption) only[zl,zg,ze,zk,zh,zd,zr,ir96,zP,yR,go_sem]) e1 ((KA.call (zbD hs (by rw[hk2];decide) _)).box hb4) (by simp[zc,AV.strip,zav])
 by_cases hk34:(hdT t).k=3∨(hdT t).k=4
 ·have e1:Zq fixed k t=.ok (zcL (hdT t).s,t.tail):=by rw[yX,zaH.eq_def,if_neg hk2,if_pos hk34]
  have hk0:(hdT t).k≠0:=by omega
  have hd3:(decide ((hdT t).k=3)||decide ((hdT t).k=4))=true:=by simpa using hk34
  rcases Classical.em ((hdT t).k=3) with hk3|hk3
  ·have hk3':((hdT t).k=3)=True:=eq_true hk3
   simp(disch:=first|omega|assumption) only[hk2,hk3',g5,gr',wrap64,n5s,n4s,go_sem]
   refine zb (zna _ (by simp only[Lim];omega)) ?_
   cases hw:ZS (hdT t).s with
   | true =>
    simp(disch:=first|omega|assumption) only[go_sem]
    refine zb (zws _) ?_
    simp(disch:=first|omega|assumption) only[zl,zg,ze,zk,zh,zd,zr,g4,n4s,go_sem]
    refine fin _ _ [.agg (cV (.mk 2 (zix (hdT t).s) [] [] []))] _ _ (by simp(disch:=first|omega|assumption) only[zl,zg,ze,zk,zh,zd,zr,ir96,zP,yR,go_sem]) e1 ((KA.call (zbD hs hk0 _)).box hb4) ?_
    simp[zc,AV.strip,zav,zcL,hw]
   | false =>
    simp(disch:=first|omega|assumption) only[g5,g4,n5s,n4s,go_sem]
    refine fin _ _ [.agg [.int .i64 3,.int .i64 0,.str (hdT t).s,.sl .nil 5 [],.sl .nil 6 []]] _ _ (by simp(disch:=first|omega|assumption) only[zl,zg,ze,zk,zh,zd,zr,ir96,zP,yR,go_sem]) e1 ((KA.call (zbD hs hk0 _)).box hb4) ?_
    simp[zc,AV.strip,AV.strip1,zcL,hw,cV,cVs,cMs]
  ·have hk4':((hdT t).k=4)=True:=eq_true (by omega)
   simp(disch:=first|omega|assumption) only[hk2,hk3,hk4',g5,gr',wrap64,n5s,n4s,go_sem]
   refine zb (zna _ (by simp only[Lim];omega)) ?_
   cases hw:ZS (hdT t).s with
   | true =>
    simp(disch:=first|omega|assumption) only[go_sem]
    refine zb (zws _) ?_
    simp(disch:=first|omega|assumption) only[zl,zg,ze,zk,zh,zd,zr,g4,n4s,go_sem]
    refine fin _ _ [.agg (cV (.mk 2 (zix (hdT t).s) [] [] []))] _ _ (by simp(disch:=first|omega|assumption) only[zl,zg,ze,zk,zh,zd,zr,ir96,zP,yR,go_sem]) e1 ((KA.call (zbD hs hk0 _)).box hb4) ?_
    simp[zc,AV.strip,zav,zcL,hw]
   | false =>
    simp(disch:=first|omega|assumption) only[g5,g4,n5s,n4s,go_sem]
    refine fin _ _ [.agg [.int .i64 3,.int .i64 0,.str (hdT t).s,.sl .nil 5 [],.sl .nil 6 []]] _ _ (by simp(disch:=first|omega|assumption) only[zl,zg,ze,zk,zh,zd,zr,ir96,zP,yR,go_sem]) e1 ((KA.call (zbD hs hk0 _)).box hb4) ?_
    simp[zc,AV.strip,AV.strip1,zcL,hw,cV,cVs,cMs]
 by_cases hk5:(hdT t).k=5
 ·have hk5':((hdT t).k=5)=True:=eq_true hk5
  have hk3:¬ ((hdT t).k=3):=by omega
  have hk4:¬ ((hdT t).k=4):=by omega
  have e1:Zq fixed k t=.ok (.mk 4 0 (hdT t).s [] [],t.tail):=by rw[yX,zaH.eq_def,if_neg hk2,if_neg hk34,if_pos hk5]
  simp(disch:=first|omega|assumption) only[hk2,hk3,hk4,hk5',g5,gr',wrap64,n5s,n4s,go_sem]
  refine zb (zwg _) ?_
  simp(disch:=first|omega|assumption) only[zl,zg,ze,zk,zh,zd,zr,g4,n4s,go_sem]
  exact fin _ _ [.agg (cV (.mk 4 0 (hdT t).s [] []))] _ _ (by simp(disch:=first|omega|assumption) only[zl,zg,ze,zk,zh,zd,zr,ir96,zP,yR,go_sem]) e1 ((KA.call (zbD hs (by rw[hk5];decide) _)).box hb4) (by simp[zc,AV.strip,zav])
 have hk3:¬ ((hdT t).k=3):=fun e=>hk34 (.inl e)
 have hk4:¬ ((hdT t).k=4):=fun e=>hk34 (.inr e)
 have bad1:isP [91] t=true→k=0→Zq fixed k t=.error 4:=fun hi h=>by
  subst h
  rw[yX,zaH.eq_def,if_neg hk2,if_neg hk34,if_neg hk5,if_pos hi];rfl
 have bad2:¬ (isP [91] t=true)→isP [123] t=true→k=0→Zq fixed k t=.error 4:=fun h0 hi h=>by
  subst h
  rw[yX,zaH.eq_def,if_neg hk2,if_neg hk34,if_neg hk5,if_neg h0,if_pos hi];rfl
 simp(disch:=first|omega|assumption) only[hk2,hk3,hk4,hk5,g5,go_sem]
 refine zp (zkk (dp:=16-k) hs hll (by omega) gr [91]) (fun v H1 ⟨hv,hat,haf⟩=>?_) fun v H1 ⟨hi,h16,hv⟩=>pan v H1 4 hv (bad1 hi (by omega))
 subst hv
 cases hi:isP [91] t with
 | true =>
  obtain⟨hd16,ha1⟩:=hat hi
  obtain⟨n,rfl⟩:∃ n,k=n+1:=⟨k-1,by omega⟩
  rw[show 16-(n+1)+1=16-n by omega] at ha1
  have K1:=KA.call ha1
  have g41:H1 b4=some (.cells zB):=by rw[ha1.other n4s,g4]
  have hi0:isP [91] t=true:=hi
  have hi2:isP [91] t=true:=hi
  simp(disch:=first|omega|assumption) only[go_sem]
  refine zm fun b8 hb8=>?_
  have hb8':=hb8
  have hb8H:H b8=none:=K1.none hb8
  have n8:=K1.ne hb8H
  have h84:b8≠b4:=fun e=>by subst e;rw[g41] at hb8;cases hb8
  have K2:KO H r L t.tail (16-n) (H1.upd b8 (.cells [.int .i64 6,.int .i64 0,.str [],.sl .nil 5 [],.sl .nil 6 []])) .nil 0 5:=⟨K1.box hb8H,rfl,nofun⟩
  obtain⟨R,hR⟩:∃ R,yA [93] (Zq fixed n) (t.tail.length+1) [] t.tail=R:=⟨_,rfl⟩
  have hx:Zq fixed (n+1) t=pb R fun l t=>.ok (Val.mk 6 0 [] l [],t):=by rw[← hR,yX,zaH.eq_def,if_neg hk2,if_neg hk34,if_neg hk5,if_pos hi2];rfl
  simp(disch:=first|omega|assumption) only[List.map_nil,go_sem]
  refine yK (fun x:Own×List Val×TS=>[]) (fun x H'=>KO H r L x.2.2 (16-n) H' x.1 x.2.1.length 5∧H' b8=some (.cells [.int .i64 6,.int .i64 0,.str [],.sl x.1 5 (cVs x.2.1),.sl .nil 6 []])∧H' b4=some (.cells zB)∧(∃ m,x.2.2.length<m∧yA [93] (Zq fixed n) m x.2.1 x.2.2=R)∧x.2.1.length+x.2.2.length≤L.length) (fun x=>x.2.2.length) (.nil,[],t.tail) (by simp(disch:=first|omega|assumption) only[go_sem]) ⟨K2,upd_same ..,by rw[upd_ne (Ne.symm h84)];exact g41,⟨_,Nat.lt_succ_self _,hR⟩,by have:=K1.here;obtain⟨q,hq,_⟩:=this;rw[← hq];simp⟩ ?_
  rintro⟨o,l,u⟩ H3 J ⟨K3,g8,g4,⟨m,hm,hR3⟩,hlen⟩ hJ
  simp only at K3 g8 g4 hm hR3 hlen
  obtain⟨m,rfl⟩:∃ j,m=j+1:=⟨m-1,by omega⟩
  obtain⟨p3,hp3,hr3⟩:=K3.here
  have hcl:=zai l
  simp(disch:=first|omega|assumption) only[go_sem]
  refine zK (zko hp3 hll (by omega) hr3 [93]) fun v H4 ⟨hv4,hat,haf⟩=>?_
  subst hv4
  cases hj:isP [93] u with
  | true =>
   have ha4:=hat hj
   have K4:=K3.call ha4
   rw[show 16-n-1=16-(n+1) by omega] at K4
   have g84:H4 b8=some (.cells [.int .i64 6,.int .i64 0,.str [],.sl o 5 (cVs l),.sl .nil 6 []]):=by rw[ha4.other (Ne.symm n8),g8]
   have g44:H4 b4=some (.cells zB):=by rw[ha4.other (Ne.symm n4),g4]
   simp only[zB] at g44
   have e1:R=.ok (l,u.tail):=by rw[← hR3,yA,hj];rfl
   simp(disch:=first|omega|assumption) only[g84,g44,Ne.symm h84,h84,go_sem]
   refine fin _ _ [.agg [.int .i64 6,.int .i64 0,.str [],.sl o 5 (cVs l),.sl .nil 6 []]] (Val.mk 6 0 [] l []) u.tail (by simp(disch:=first|omega|assumption) only[ir96,zP,yR,go_sem]) (by rw[hx,e1];rfl) (K4.toKI.box hb4) ?_
   simp[zc,AV.strip,AV.strip1,cV,cVs,cMs,zpO]
  | false =>
   have ha4:=haf hj
   have K4:=K3.call ha4
   obtain⟨p4,hp4,hr4⟩:=K4.here
   have g84:H4 b8=some (.cells [.int .i64 6,.int .i64 0,.str [],.sl o 5 (cVs l),.sl .nil 6 []]):=by rw[ha4.other (Ne.symm n8),g8]
   have g44:H4 b4=some (.cells zB):=by rw[ha4.other (Ne.symm n4),g4]
   rw[yA,hj] at hR3
   simp only[Al7,if_false] at hR3
   simp(disch:=first|omega|assumption) only[g84,go_sem]
   refine zp (ih n rfl _ r L p4 u hp4 hl hr4) (fun v H5 ⟨x,t5,e5,hv5,ha5⟩=>?_) fun v H5 ⟨n5,e5,hv5⟩=>pan v H5 n5 hv5 (by rw[hx,← hR3,e5];rfl)
   subst hv5
   rw[e5,zF] at hR3
   have hlt:=(YE fixed n).lt (by decide) _ _ _ e5
   have K5:=K4.call ha5
   have g85:H5 b8=some (.cells [.int .i64 6,.int .i64 0,.str [],.sl o 5 (cVs l),.sl .nil 6 []]):=by rw[ha5.other (Ne.symm n8),g84]
   have g45:H5 b4=some (.cells zB):=by rw[ha5.other (Ne.symm n4),g44]
   simp(disch:=first|omega|assumption) only[zl,zg,ze,zk,zh,zd,zr,g85,go_sem]
   refine zx (by rw[hcl];exact K5.own) (by simp only[hcl,Al2,Al3];simp only[yS] at hll;omega) (by simp only[hcl,Al2,Al3,maxLen];simp only[yS] at hll;omega) fun o6 H6 hs6=>?_
   have K6:=K5.app (by simpa[hcl] using hs6)
   have g86:=K5.stay hs6 g85
   have g46:=K5.stay hs6 g45
   simp(disch:=first|omega|assumption) only[zl,zg,ze,zk,zh,zd,zr,g86,go_sem]
   refine goJ (hJ (o6,l++[x],t5) _ (by simp only;omega) ⟨by simpa using K6.box hb8H g86,by rw[upd_same];simp[zfo,zav],by rw[upd_ne (Ne.symm h84)];exact g46,⟨m,by simp only;omega,hR3⟩,by simp only[Al5,Al2,Al3];omega⟩) (by simp(disch:=first|omega|assumption) only[go_sem])
 | false =>
  have ha1:=haf hi
  have K1:=KA.call ha1
  have g41:H1 b4=some (.cells zB):=by rw[ha1.other n4s,g4]
  obtain⟨p1,hp1,hr1⟩:=K1.here
  have hi0:¬ (isP [91] t=true):=by rw[hi];decide
  clear hat haf
  simp(disch:=first|omega|assumption) only[go_sem]
  refine zp (zkk (dp:=16-k) hp1 hll (by omega) hr1 [123]) (fun v H2 ⟨hv,hat,haf⟩=>?_) fun v H2 ⟨hi,h16,hv⟩=>pan v H2 4 hv (bad2 hi0 hi (by omega))
  subst hv
  cases hi:isP [123] t with
  | true =>
   obtain⟨hd16,ha2⟩:=hat hi
   obtain⟨n,rfl⟩:∃ n,k=n+1:=⟨k-1,by omega⟩
   rw[show 16-(n+1)+1=16-n by omega] at ha2
   have K1:=K1.call ha2
   have g41:H2 b4=some (.cells zB):=by rw[ha2.other n4s,g41]
   clear hat haf
   have hi2:isP [123] t=true:=hi
   simp(disch:=first|omega|assumption) only[go_sem]
   refine zm fun b8 hb8=>?_
   have hb8':=hb8
   have hb8H:H b8=none:=K1.none hb8
   have n8:=K1.ne hb8H
   have h84:b8≠b4:=fun e=>by subst e;rw[g41] at hb8;cases hb8
   have K2:KO H r L t.tail (16-n) (H2.upd b8 (.cells [.int .i64 7,.int .i64 0,.str [],.sl .nil 5 [],.sl .nil 6 []])) .nil 0 6:=⟨K1.box hb8H,rfl,nofun⟩
   obtain⟨R,hR⟩:∃ R,yA [125] (yP (Zq fixed n)) (t.tail.length+1) [] t.tail=R:=⟨_,rfl⟩
   have hx:Zq fixed (n+1) t=pb R fun l t=>.ok (Val.mk 7 0 [] [] l,t):=by rw[← hR,yX,zaH.eq_def,if_neg hk2,if_neg hk34,if_neg hk5,if_neg hi0,if_pos hi2];rfl
   simp(disch:=first|omega|assumption) only[List.map_nil,go_sem]
   refine yK (fun x:Own×List Mem×TS=>[]) (fun x H'=>KO H r L x.2.2 (16-n) H' x.1 x.2.1.length 6∧H' b8=some (.cells [.int .i64 7,.int .i64 0,.str [],.sl .nil 5 [],.sl x.1 6 (cMs x.2.1)])∧H' b4=some (.cells zB)∧(∃ m,x.2.2.length<m∧yA [125] (yP (Zq fixed n)) m x.2.1 x.2.2=R)∧x.2.1.length+x.2.2.length≤L.length) (fun x=>x.2.2.length) (.nil,[],t.tail) (by simp(disch:=first|omega|assumption) only[go_sem]) ⟨K2,upd_same ..,by rw[upd_ne (Ne.symm h84)];exact g41,⟨_,Nat.lt_succ_self _,hR⟩,by have:=K1.here;obtain⟨q,hq,_⟩:=this;rw[← hq];simp⟩ ?_
   rintro⟨o,l,u⟩ H3 J ⟨K3,g8,g4,⟨m,hm,hR3⟩,hlen⟩ hJ
   simp only at K3 g8 g4 hm hR3 hlen
   obtain⟨m,rfl⟩:∃ j,m=j+1:=⟨m-1,by omega⟩
   obtain⟨p3,hp3,hr3⟩:=K3.here
   have hcl:=ZW l
   simp(disch:=first|omega|assumption) only[go_sem]
   refine zK (zko hp3 hll (by omega) hr3 [125]) fun v H4 ⟨hv4,hat,haf⟩=>?_
   subst hv4
   cases hj:isP [125] u with
   | true =>
    have ha4:=hat hj
    have K4:=K3.call ha4
    rw[show 16-n-1=16-(n+1) by omega] at K4
    have g84:H4 b8=some (.cells [.int .i64 7,.int .i64 0,.str [],.sl .nil 5 [],.sl o 6 (cMs l)]):=by rw[ha4.other (Ne.symm n8),g8]
    have g44:H4 b4=some (.cells zB):=by rw[ha4.other (Ne.symm n4),g4]
    simp only[zB] at g44
    have e1:R=.ok (l,u.tail):=by rw[← hR3,yA,hj];rfl
    simp(disch:=first|omega|assumption) only[g84,g44,Ne.symm h84,h84,go_sem]
    refine fin _ _ [.agg [.int .i64 7,.int .i64 0,.str [],.sl .nil 5 [],.sl o 6 (cMs l)]] (Val.mk 7 0 [] [] l) u.tail (by simp(disch:=first|omega|assumption) only[ir96,zP,yR,go_sem]) (by rw[hx,e1];rfl) (K4.toKI.box hb4) ?_
    simp[zc,AV.strip,AV.strip1,cV,cVs,cMs,zjt]
   | false =>
    have ha4:=haf hj
    have K4:=K3.call ha4
    obtain⟨p4,hp4,hr4⟩:=K4.here
    have g84:H4 b8=some (.cells [.int .i64 7,.int .i64 0,.str [],.sl .nil 5 [],.sl o 6 (cMs l)]):=by rw[ha4.other (Ne.symm n8),g8]
    have g44:H4 b4=some (.cells zB):=by rw[ha4.other (Ne.symm n4),g4]
    rw[yA,hj] at hR3
    simp only[Al7,if_false] at hR3
    simp(disch:=first|omega|assumption) only[g84,go_sem]
    refine zp (zhx (ih n rfl) hp4 hl hr4) (fun v H5 ⟨x,t5,e5,hv5,ha5⟩=>?_) fun v H5 ⟨n5,e5,hv5⟩=>pan v H5 n5 hv5 (by rw[hx,← hR3,e5];rfl)
    subst hv5
    rw[e5,zF] at hR3
    have hlt:=(Z2 (YE fixed n)).lt (by decide) _ _ _ e5
    have K5:=K4.call ha5
    have g85:H5 b8=some (.cells [.int .i64 7,.int .i64 0,.str [],.sl .nil 5 [],.sl o 6 (cMs l)]):=by rw[ha5.other (Ne.symm n8),g84]
    have g45:H5 b4=some (.cells zB):=by rw[ha5.other (Ne.symm n4),g44]
    simp(disch:=first|omega|assumption) only[zl,zg,ze,zk,zh,zd,zr,g85,go_sem]
    refine zx (by rw[hcl];exact K5.own) (by simp only[hcl,Al2,Al3];simp only[yS] at hll;omega) (by simp only[hcl,Al2,Al3,maxLen];simp only[yS] at hll;omega) fun o6 H6 hs6=>?_
    have K6:=K5.app (by simpa[hcl] using hs6)
    have g86:=K5.stay hs6 g85
    have g46:=K5.stay hs6 g45
    simp(disch:=first|omega|assumption) only[zl,zg,ze,zk,zh,zd,zr,g86,go_sem]
    refine goJ (hJ (o6,l++[x],t5) _ (by simp only;omega) ⟨by simpa using K6.box hb8H g86,by rw[upd_same];simp[zdD,zfr],by rw[upd_ne (Ne.symm h84)];exact g46,⟨m,by simp only;omega,hR3⟩,by simp only[Al5,Al2,Al3];omega⟩) (by simp(disch:=first|omega|assumption) only[go_sem])
  | false =>
   have ha2:=haf hi
   have K2:=K1.call ha2
   have g42:H2 b4=some (.cells zB):=by rw[ha2.other n4s,g41]
   obtain⟨p2,hp2,hr2⟩:=K2.here
   have hi1:¬ (isP [123] t=true):=by rw[hi];decide
   cases hfx:fixed with
   | true =>
    subst hfx
    simp(disch:=first|omega|assumption) only[go_sem]
    exact zp (zd7 _ r 2) (fun _ _ h=>h.elim) fun v H3 h=>pan v H3 2 h (by rw[yX,zaH.eq_def,if_neg hk2,if_neg hk34,if_neg hk5,if_neg hi0,if_neg hi1];rfl)
   | false =>
    subst hfx
    have hx:Zq false k t=pb (ZY [36] t) fun _ t=>pb (yT t) fun s t=>.ok (.mk 8 0 s [] [],t):=by rw[yX,zaH.eq_def,if_neg hk2,if_neg hk34,if_neg hk5,if_neg hi0,if_neg hi1];rfl
    simp(disch:=first|omega|assumption) only[go_sem]
    refine zp (zhn (dp:=16-k) hp2 hll hr2 [36]) (fun v H3 ⟨_,t3,e3,hv3,ha3⟩=>?_) fun v H3 ⟨n,e3,hv3⟩=>pan v H3 n hv3 (by rw[hx,e3];rfl)
    subst hv3
    have K3:=K2.call ha3
    obtain⟨p3,hp3,hr3⟩:=K3.here
    have g43:H3 b4=some (.cells zB):=by rw[ha3.other n4s,g42]
    simp(disch:=first|omega|assumption) only[go_sem]
    refine zp (zaC (dp:=16-k) hp3 hll hr3) (fun v H4 ⟨s,t4,e4,hv4,ha4⟩=>?_) fun v H4 ⟨n,e4,hv4⟩=>pan v H4 n hv4 (by rw[hx,e3,zF,e4];rfl)
    subst hv4
    have K4:=K3.call ha4
    have g44:H4 b4=some (.cells zB):=by rw[ha4.other n4s,g43]
    simp only[zB] at g44
    simp(disch:=first|omega|assumption) only[g44,go_sem]
    exact fin _ _ [.agg [.int .i64 8,.int .i64 0,.str s,.sl .nil 5 [],.sl .nil 6 []]] (.mk 8 0 s [] []) t4 (by simp(disch:=first|omega|assumption) only[ir96,zP,yR,go_sem]) (by rw[hx,e3,zF,e4];rfl) (K4.box hb4) rfl
theorem zfD (fixed:Bool):∀ k,k≤16→zoz fixed k
 | 0,h=>zoo fixed 0 h fun n e=>by cases e
 | k+1,h=>zoo fixed (k+1) h fun n e=>by cases e;exact zfD fixed k (by omega)
theorem ze6 {p t L:TS} (h:p++t=L):t.length≤L.length:=by rw[← h];simp
theorem zm8 (l:List DirD):cDs l=l.map cD:=rfl
theorem znL {fixed:Bool} {k:Nat} (hk:k≤16) {H:za} {r:Nat} {L p t:TS} (hs:p++t=L) (hl:wT L≤yS) (hr:H r=some (prc L p (16-k))) :
  zj Tryz.prog 300 [.ptr r 0,.bool fixed] H (RpE H r L (16-k) (Y0 fixed k t) (fun l=>.sl .no 6 (cMs l))):=by
 refine ZL (zj.goO (R:=fun v H'=>zel H r L (16-k) (Y0 fixed k t) (fun l=>.sl .no 6 (cMs l)) v.strip H') (RP:=fun v H'=>zfm (Y0 fixed k t) v H') ir300 ck300 (Al4 _) fun KP Q hQ hP=>?_)
 have hll:L.length≤yS:=Nat.le_trans (zbf L) hl
 have hll2:=hll
 simp only[yS] at hll2
 have pan:∀(v:AV) (H1:za) (n:Int),v=Zj n→(Y0 fixed k t)=.error n→KP v H1:=fun v H1 n h1 h2=>hP v H1 H1 (Low.refl _) ⟨n,h2,h1⟩
 have fin:=KI.done hQ
 have K0:=KI.start hs hr
 have hv:=zfD fixed k hk
 simp(disch:=first|omega|assumption) only[ir300,go_sem]
 refine zK (zaJ (dp:=16-k) hs hll hr [40]) fun v H1 ⟨hv1,ha1⟩=>?_
 subst hv1
 cases hi:isP [40] t with
 | false =>
  rw[Y8,hi] at ha1
  simp(disch:=first|omega|assumption) only[go_sem]
  exact fin _ _ [.sl .nil 6 []] [] t (by simp(disch:=first|omega|assumption) only[ir300,zP,yR,go_sem]) (by unfold Y0;rw[hi];rfl) (K0.call (by simpa using ha1)) (by simp[zc,AV.strip,AV.strip1,cMs])
 | true =>
  rw[Y8,hi,if_pos rfl] at ha1
  have K1:=K0.call ha1
  obtain⟨p1,hp1,hr1⟩:=K1.here
  have hx:Y0 fixed k t=pb (yP (Zq fixed k) t.tail) fun x t=>yA [41] (yP (Zq fixed k)) (t.length+1) [x] t:=by
   unfold Y0;rw[hi]
   rfl
  simp(disch:=first|omega|assumption) only[go_sem]
  refine zp (zhx hv hp1 hl hr1) (fun v H2 ⟨x1,t2,e2,hv2,ha2⟩=>?_) fun v H2 ⟨n,e2,hv2⟩=>pan v H2 n hv2 (by rw[hx,e2];rfl)
  subst hv2
  have K2:=K1.call ha2
  have hlt1:=(Z2 (YE fixed k)).lt (by decide) _ _ _ e2
  have hsl:=ze6 hp1
  rw[e2,zF] at hx
  obtain⟨R,hR⟩:∃ R,yA [41] (yP (Zq fixed k)) (t2.length+1) [x1] t2=R:=⟨_,rfl⟩
  rw[hR] at hx
  simp(disch:=first|omega|assumption) only[zl,zg,ze,zk,zh,zd,zr,go_sem]
  refine yK (fun x:Own×List Mem×TS=>[(5,.sl x.1 6 (cMs x.2.1))]) (fun x H'=>KO H r L x.2.2 (16-k) H' x.1 x.2.1.length 6∧(∃ m,x.2.2.length<m∧yA [41] (yP (Zq fixed k)) m x.2.1 x.2.2=R)∧x.2.1.length+x.2.2.length≤L.length) (fun x=>x.2.2.length) (.full,[x1],t2) (by simp(disch:=first|omega|assumption) only[zl,zg,ze,zk,zh,zd,zr,cMs,zfr,go_sem]) ⟨⟨K2,yh.full _ _ _,nofun⟩,⟨_,Nat.lt_succ_self _,hR⟩,by simp only[List.length_singleton];omega⟩ ?_
  rintro⟨o,l,u⟩ H3 J ⟨K3,⟨m,hm,hR3⟩,hlen⟩ hJ
  simp only at K3 hm hR3 hlen
  obtain⟨m,rfl⟩:∃ j,m=j+1:=⟨m-1,by omega⟩
  obtain⟨p3,hp3,hr3⟩:=K3.here
  have hcl:=ZW l
  simp(disch:=first|omega|assumption) only[go_sem]
  refine zK (zaJ (dp:=16-k) hp3 hll hr3 [41]) fun v H4 ⟨hv4,ha4⟩=>?_
  subst hv4
  cases hj:isP [41] u with
  | true =>
   rw[Y8,hj,if_pos rfl] at ha4
   have e1:R=.ok (l,u.tail):=by rw[← hR3,yA,hj];rfl
   simp(disch:=first|omega|assumption) only[go_sem]
   refine fin _ _ [.sl o 6 (cMs l)] l u.tail (by simp(disch:=first|omega|assumption) only[ir300,zP,yR,go_sem]) (by rw[hx,e1]) (K3.toKI.call ha4) ?_
   simp[zc,AV.strip,AV.strip1,zjt]
  | false =>
   rw[Y8,hj] at ha4
   have K4:=K3.call (by simpa using ha4)
   obtain⟨p4,hp4,hr4⟩:=K4.here
   rw[yA,hj] at hR3
   simp only[Al7,if_false] at hR3
   simp(disch:=first|omega|assumption) only[go_sem]
   refine zp (zhx hv hp4 hl hr4) (fun v H5 ⟨x,t5,e5,hv5,ha5⟩=>?_) fun v H5 ⟨n5,e5,hv5⟩=>pan v H5 n5 hv5 (by rw[hx,← hR3,e5];rfl)
   subst hv5
   rw[e5,zF] at hR3
   have hlt:=(Z2 (YE fixed k)).lt (by decide) _ _ _ e5
   have K5:=K4.call ha5
   simp(disch:=first|omega|assumption) only[zl,zg,ze,zk,zh,zd,zr,go_sem]
   refine zx (by rw[hcl];exact K5.own) (by simp only[hcl,Al2,Al3];omega) (by simp only[hcl,Al2,Al3,maxLen];omega) fun o6 H6 hs6=>?_
   have K6:=K5.app (by simpa[hcl] using hs6)
   simp(disch:=first|omega|assumption) only[zl,zg,ze,zk,zh,zd,zr,go_sem]
   refine goJ (hJ (o6,l++[x],t5) _ (by simp only;omega) ⟨by simpa using K6,⟨m,by simp only;omega,hR3⟩,by simp only[Al5,Al2,Al3];omega⟩) (by simp(disch:=first|omega|assumption) only[zdD,List.map_append,List.map_cons,List.map_nil,zfr,go_sem])
theorem zbE {fixed:Bool} {k:Nat} (hk:k≤16) {H:za} {r:Nat} {L p t:TS} (hs:p++t=L) (hl:wT L≤yS) (hr:H r=some (prc L p (16-k))) :
  zj Tryz.prog 250 [.ptr r 0,.bool fixed] H (RpE H r L (16-k) (Yx fixed k t) (fun l=>.sl .no 2 (cDs l))):=by
 refine ZL (zj.goO (R:=fun v H'=>zel H r L (16-k) (Yx fixed k t) (fun l=>.sl .no 2 (cDs l)) v.strip H') (RP:=fun v H'=>zfm (Yx fixed k t) v H') ir250 ck250 (Al4 _) fun KP Q hQ hP=>?_)
 have hll:L.length≤yS:=Nat.le_trans (zbf L) hl
 have hll2:=hll
 simp only[yS] at hll2
 have pan:∀(v:AV) (H1:za) (n:Int),v=Zj n→(Yx fixed k t)=.error n→KP v H1:=fun v H1 n h1 h2=>hP v H1 H1 (Low.refl _) ⟨n,h2,h1⟩
 have fin:=KI.done hQ
 have K0:=KI.start hs hr
 obtain⟨R,hR⟩:∃ R,Yu [64] (zfY fixed k) (t.length+1) [] t=R:=⟨_,rfl⟩
 have hx:Yx fixed k t=R:=hR
 have hsl:=ze6 hs
 simp(disch:=first|omega|assumption) only[ir250,go_sem]
 refine yK (fun x:Own×List DirD×TS=>[(5,.sl x.1 2 (cDs x.2.1))]) (fun x H'=>KO H r L x.2.2 (16-k) H' x.1 x.2.1.length 2∧(∃ m,x.2.2.length<m∧Yu [64] (zfY fixed k) m x.2.1 x.2.2=R)∧x.2.1.length+x.2.2.length≤L.length) (fun x=>x.2.2.length) (.nil,[],t) (by simp(disch:=first|omega|assumption) only[zm8,List.map_nil,go_sem]) ⟨⟨K0,rfl,nofun⟩,⟨_,Nat.lt_succ_self _,hR⟩,by simp only[Al3];omega⟩ ?_
 rintro⟨o,l,u⟩ H3 J ⟨K3,⟨m,hm,hR3⟩,hlen⟩ hJ
 simp only at K3 hm hR3 hlen
 obtain⟨m,rfl⟩:∃ j,m=j+1:=⟨m-1,by omega⟩
 obtain⟨p3,hp3,hr3⟩:=K3.here
 have hcl:=zgX l
 simp(disch:=first|omega|assumption) only[go_sem]
 refine zK (zaJ (dp:=16-k) hp3 hll hr3 [64]) fun v H4 ⟨hv4,ha4⟩=>?_
 subst hv4
 cases hj:isP [64] u with
 | false =>
  rw[Y8,hj] at ha4
  have e1:R=.ok (l,u):=by rw[← hR3,Yu,hj];rfl
  simp(disch:=first|omega|assumption) only[go_sem]
  refine fin _ _ [.sl o 2 (cDs l)] l u (by simp(disch:=first|omega|assumption) only[ir250,zP,yR,go_sem]) (by rw[hx,e1]) (K3.toKI.call (by simpa using ha4)) ?_
  simp[zc,AV.strip,AV.strip1,zm8,zrm]
 | true =>
  rw[Y8,hj,if_pos rfl] at ha4
  have hlt0:=zki hj
  have K4:=K3.call ha4
  obtain⟨p4,hp4,hr4⟩:=K4.here
  rw[Yu,hj,if_pos rfl] at hR3
  simp(disch:=first|omega|assumption) only[go_sem]
  refine zp (zaC (dp:=16-k) hp4 hll hr4) (fun v H5 ⟨nm,t5,e5,hv5,ha5⟩=>?_) fun v H5 ⟨n5,e5,hv5⟩=>pan v H5 n5 hv5 (by rw[hx,← hR3,zfY,e5];rfl)
  subst hv5
  have K5:=K4.call ha5
  obtain⟨p5,hp5,hr5⟩:=K5.here
  simp(disch:=first|omega|assumption) only[go_sem]
  refine zp (znL hk hp5 hl hr5) (fun v H6 ⟨a,t6,e6,hv6,ha6⟩=>?_) fun v H6 ⟨n6,e6,hv6⟩=>pan v H6 n6 hv6 (by rw[hx,← hR3,zfY,e5,zF,e6];rfl)
  subst hv6
  have K6:=K5.call ha6
  have e7:zfY fixed k u.tail=.ok (⟨nm,a⟩,t6):=by rw[zfY,e5,zF,e6];rfl
  rw[e7,zF] at hR3
  have hlt:=(zic fixed k).lt (by decide) _ _ _ e7
  simp(disch:=first|omega|assumption) only[zl,zg,ze,zk,zh,zd,zr,go_sem]
  refine zx (by rw[hcl];exact K6.own) (by simp only[hcl,Al2,Al3];omega) (by simp only[hcl,Al2,Al3,maxLen];omega) fun o7 H7 hs7=>?_
  have K7:=K6.app (by simpa[hcl] using hs7)
  simp(disch:=first|omega|assumption) only[zl,zg,ze,zk,zh,zd,zr,go_sem]
  refine goJ (hJ (o7,l++[⟨nm,a⟩],t6) _ (by simp only;omega) ⟨by simpa using K7,⟨m,by simp only;omega,hR3⟩,by simp only[Al5,Al2,Al3];omega⟩) (by simp(disch:=first|omega|assumption) only[zm8,cD,List.map_append,List.map_cons,List.map_nil,go_sem])
def zf3 (k:Nat):Prop:=∀(H:za) (r:Nat) (L p t:TS),p++t=L→wT L≤yS→H r=some (prc L p (16-k)) →
 zj Tryz.prog 162 [.ptr r 0] H (RpE H r L (16-k) (yo k t) fun l=>.sl .no 7 (cSs l))
abbrev zS:List AV:=[.int .i64 0,.str [],.str [],.sl .nil 6 [],.sl .nil 2 [],.str [],.sl .nil 7 []]
theorem zwT {m:List UInt8} {t:TS} (h:isW m t=true):(hdT t).k=2:=by
 simp only[isW,Al0,zL] at h;exact h.1
theorem zqz {k:Nat} (hk:k≤16) (hv:zf3 k) {H:za} {r:Nat} {L p t:TS} (hs:p++t=L) (hl:wT L≤yS) (hr:H r=some (prc L p (16-k))) :
  zj Tryz.prog 299 [.ptr r 0] H (RpE H r L (16-k) (Zp (yo k) k t) (fun x=>.agg (cS x))):=by
 refine ZL (zj.goO (R:=fun v H'=>zel H r L (16-k) (Zp (yo k) k t) (fun x=>.agg (cS x)) v.strip H') (RP:=fun v H'=>zfm (Zp (yo k) k t) v H') ir299 ck299 (Al4 _) fun KP Q hQ hP=>?_)
 have hll:L.length≤yS:=Nat.le_trans (zbf L) hl
 have hll2:=hll
 simp only[yS] at hll2
 have pan:∀(v:AV) (H1:za) (n:Int),v=Zj n→(Zp (yo k) k t)=.error n→KP v H1:=fun v H1 n h1 h2=>hP v H1 H1 (Low.refl _) ⟨n,h2,h1⟩
 have fin:=KI.done hQ
 have K0:=KI.start hs hr
 simp(disch:=first|omega|assumption) only[ir299,go_sem]
 refine zm fun b2 hb2=>?_
 have n2:=K0.ne hb2
 have n2s:=Ne.symm n2
 have K1:=K0.box (x:=.cells zS) hb2
 simp(disch:=first|omega|assumption) only[go_sem]
 refine zK (zjq (dp:=16-k) hs (by rw[upd_ne n2];exact hr)) fun v H1 ⟨hv1,hH⟩=>?_
 subst hv1;subst hH
 obtain⟨p1,hp1,hr1⟩:=K1.here
 simp only[zS] at K1 hr1
 by_cases hsp:(hdT t).k=2∧isW [111,110] t=false
 ·obtain⟨hk2,hw⟩:=hsp
  have hk2':((hdT t).k=2)=True:=eq_true hk2
  have hx:Zp (yo k) k t=pb (yT t) fun s t=>pb (Yx false k t) fun d t=>.ok (.mk 1 [] s [] d [] [],t):=by
   unfold Zp;rw[if_pos ⟨hk2,hw⟩]
  simp(disch:=first|omega|assumption) only[Yw,hk2',go_sem]
  refine zK (ztq (dp:=16-k) hp1 hr1 [111,110]) fun v H2 ⟨hv2,hH⟩=>?_
  subst hv2;subst hH
  rw[hw]
  simp(disch:=first|omega|assumption) only[go_sem]
  refine zp (zaC (dp:=16-k) hp1 hll hr1) (fun v H3 ⟨s,t3,e3,hv3,ha3⟩=>?_) fun v H3 ⟨n,e3,hv3⟩=>pan v H3 n hv3 (by rw[hx,e3];rfl)
  subst hv3
  rw[e3,zF] at hx
  have K3:=K1.call ha3
  obtain⟨p3,hp3,hr3⟩:=K3.here
  have g3:H3 b2=some (.cells zS):=by rw[ha3.other n2s,upd_same]
  simp(disch:=first|omega|assumption) only[go_sem]
  refine zp (zbE hk hp3 hl hr3) (fun v H4 ⟨d,t4,e4,hv4,ha4⟩=>?_) fun v H4 ⟨n,e4,hv4⟩=>pan v H4 n hv4 (by rw[hx,e4];rfl)
  subst hv4
  rw[e4,zF] at hx
  have K4:=K3.call ha4
  have g4:H4 b2=some (.cells zS):=by rw[ha4.other n2s,g3]
  simp only[zS] at g4
  simp(disch:=first|omega|assumption) only[g4,go_sem]
  exact fin _ _ [.agg [.int .i64 1,.str [],.str s,.sl .nil 6 [],.sl .no 2 (cDs d),.str [],.sl .nil 7 []]] _ _ (by simp(disch:=first|omega|assumption) only[ir299,zP,yR,go_sem]) hx (K4.box hb2) (by simp[zc,AV.strip,AV.strip1,cS,cMs,cSs])
 have hx:Zp (yo k) k t=pb (if isW [111,110] t then yT t.tail else .ok ([],t)) fun o t=>pb (Yx false k t) fun d t=>pb (yo k t) fun l t=>.ok (.mk 2 [] [] [] d o l,t):=by
  unfold Zp;rw[if_neg hsp]
 cases hw:isW [111,110] t with
 | true =>
  have hk2:=zwT hw
  have hk2':((hdT t).k=2)=True:=eq_true hk2
  rw[hw,if_pos rfl] at hx
  simp(disch:=first|omega|assumption) only[Yw,hk2',go_sem]
  refine zK (ztq (dp:=16-k) hp1 hr1 [111,110]) fun v H2 ⟨hv2,hH⟩=>?_
  subst hv2;subst hH
  rw[hw]
  simp(disch:=first|omega|assumption) only[go_sem]
  refine zm fun b3 hb3=>?_
  have h32:b3≠b2:=fun e=>by subst e;rw[upd_same] at hb3;cases hb3
  have hb3H:H b3=none:=by rw[upd_ne h32] at hb3;exact hb3
  have n3:=K0.ne hb3H
  have n3s:=Ne.symm n3
  have K2:=K1.box (x:=.cells [.int .i64 2,.str [],.str [],.sl .nil 6 [],.sl .nil 2 [],.str [],.sl .nil 7 []]) hb3H
  obtain⟨p2,hp2,hr2⟩:=K2.here
  simp(disch:=first|omega|assumption) only[go_sem]
  refine zK (zjF (dp:=16-k) hp2 hll hr2 [111,110]) fun v H5 ⟨hv5,ha5⟩=>?_
  subst hv5
  have g53:H5 b3=some (.cells [.int .i64 2,.str [],.str [],.sl .nil 6 [],.sl .nil 2 [],.str [],.sl .nil 7 []]):=by rw[ha5.other n3s,upd_same]
  have g52:H5 b2=some (.cells zS):=by rw[ha5.other n2s,upd_ne (Ne.symm h32),upd_same]
  unfold YO at ha5
  rw[hw] at ha5
  simp only[if_true,Al7,if_false] at ha5
  rw[hw]
  have K5:=K2.call ha5
  obtain⟨p5,hp5,hr5⟩:=K5.here
  simp(disch:=first|omega|assumption) only[go_sem]
  refine zp (zaC (dp:=16-k) hp5 hll hr5) (fun v H3 ⟨o,t3,e3,hv3,ha3⟩=>?_) fun v H3 ⟨n,e3,hv3⟩=>pan v H3 n hv3 (by rw[hx,e3];rfl)
  subst hv3
  rw[e3,zF] at hx
  have K6:=K5.call ha3
  have g33:H3 b3=some (.cells [.int .i64 2,.str [],.str [],.sl .nil 6 [],.sl .nil 2 [],.str [],.sl .nil 7 []]):=by rw[ha3.other n3s,g53]
  have g32:H3 b2=some (.cells zS):=by rw[ha3.other n2s,g52]
  simp(disch:=first|omega|assumption) only[g33,go_sem]
  have K7:=K6.box (x:=.cells [.int .i64 2,.str [],.str [],.sl .nil 6 [],.sl .nil 2 [],.str o,.sl .nil 7 []]) hb3H
  have hHe:H3.upd b3 (.cells [.int .i64 2,.str [],.str [],.sl .nil 6 [],.sl .nil 2 [],.str o,.sl .nil 7 []])=H3.upd b3 (.cells [.int .i64 2,.str [],.str [],.sl .nil 6 [],.sl .nil 2 [],.str o,.sl .nil 7 []]):=rfl
  obtain⟨p7,hp7,hr7⟩:=K7.here
  refine zp (zbE hk hp7 hl hr7) (fun v H8 ⟨d,t8,e8,hv8,ha8⟩=>?_) fun v H8 ⟨n,e8,hv8⟩=>pan v H8 n hv8 (by rw[hx,e8];rfl)
  subst hv8
  rw[e8,zF] at hx
  have K8:=K7.call ha8
  have g83:H8 b3=some (.cells [.int .i64 2,.str [],.str [],.sl .nil 6 [],.sl .nil 2 [],.str o,.sl .nil 7 []]):=by rw[ha8.other n3s];(exact upd_same ..)
  have g82:H8 b2=some (.cells zS):=by rw[ha8.other n2s];(rw[upd_ne (Ne.symm h32)];exact g32)
  simp(disch:=first|omega|assumption) only[g83,go_sem]
  have K9:=K8.box (x:=.cells [.int .i64 2,.str [],.str [],.sl .nil 6 [],.sl .no 2 (cDs d),.str o,.sl .nil 7 []]) hb3H
  obtain⟨p9,hp9,hr9⟩:=K9.here
  refine zp (hv _ r L p9 t8 hp9 hl hr9) (fun v H9 ⟨l,t9,e9,hv9,ha9⟩=>?_) fun v H9 ⟨n,e9,hv9⟩=>pan v H9 n hv9 (by rw[hx,e9];rfl)
  subst hv9
  rw[e9,zF] at hx
  have KA:=K9.call ha9
  have g93:H9 b3=some (.cells [.int .i64 2,.str [],.str [],.sl .nil 6 [],.sl .no 2 (cDs d),.str o,.sl .nil 7 []]):=by rw[ha9.other n3s,upd_same]
  have g92:H9 b2=some (.cells zS):=by rw[ha9.other n2s,upd_ne (Ne.symm h32),g82]
  simp only[zS] at g92
  simp(disch:=first|omega|assumption) only[g93,g92,h32,Ne.symm h32,go_sem]
  exact fin _ _ [.agg [.int .i64 2,.str [],.str [],.sl .nil 6 [],.sl .no 2 (cDs d),.str o,.sl .no 7 (cSs l)]] _ _ (by simp(disch:=first|omega|assumption) only[ir299,zP,yR,go_sem]) hx ((KA.box hb3H).box hb2) (by simp[zc,AV.strip,AV.strip1,cS,cMs,cSs])
 | false =>
  have hk2:¬ ((hdT t).k=2):=fun h=>hsp ⟨h,hw⟩
  rw[hw] at hx
  simp only[Al7,if_false,zF] at hx
  simp(disch:=first|omega|assumption) only[Yw,hk2,go_sem]
  refine zm fun b3 hb3=>?_
  have h32:b3≠b2:=fun e=>by subst e;rw[upd_same] at hb3;cases hb3
  have hb3H:H b3=none:=by rw[upd_ne h32] at hb3;exact hb3
  have n3:=K0.ne hb3H
  have n3s:=Ne.symm n3
  have K2:=K1.box (x:=.cells [.int .i64 2,.str [],.str [],.sl .nil 6 [],.sl .nil 2 [],.str [],.sl .nil 7 []]) hb3H
  obtain⟨p2,hp2,hr2⟩:=K2.here
  simp(disch:=first|omega|assumption) only[go_sem]
  refine zK (zjF (dp:=16-k) hp2 hll hr2 [111,110]) fun v H5 ⟨hv5,ha5⟩=>?_
  subst hv5
  have g53:H5 b3=some (.cells [.int .i64 2,.str [],.str [],.sl .nil 6 [],.sl .nil 2 [],.str [],.sl .nil 7 []]):=by rw[ha5.other n3s,upd_same]
  have g52:H5 b2=some (.cells zS):=by rw[ha5.other n2s,upd_ne (Ne.symm h32),upd_same]
  unfold YO at ha5
  rw[hw] at ha5
  simp only[if_true,Al7,if_false] at ha5
  rw[hw]
  have K5:=K2.call ha5
  obtain⟨p5,hp5,hr5⟩:=K5.here
  simp(disch:=first|omega|assumption) only[go_sem]
  have K7:=K5.box (x:=.cells [.int .i64 2,.str [],.str [],.sl .nil 6 [],.sl .nil 2 [],.str [],.sl .nil 7 []]) hb3H
  have hHe:H5.upd b3 (.cells [.int .i64 2,.str [],.str [],.sl .nil 6 [],.sl .nil 2 [],.str [],.sl .nil 7 []])=H5.upd b3 (.cells [.int .i64 2,.str [],.str [],.sl .nil 6 [],.sl .nil 2 [],.str [],.sl .nil 7 []]):=rfl
  obtain⟨p7,hp7,hr7⟩:=K5.here
  refine zp (zbE hk hp7 hl hr7) (fun v H8 ⟨d,t8,e8,hv8,ha8⟩=>?_) fun v H8 ⟨n,e8,hv8⟩=>pan v H8 n hv8 (by rw[hx,e8];rfl)
  subst hv8
  rw[e8,zF] at hx
  have K8:=K5.call ha8
  have g83:H8 b3=some (.cells [.int .i64 2,.str [],.str [],.sl .nil 6 [],.sl .nil 2 [],.str [],.sl .nil 7 []]):=by rw[ha8.other n3s];(exact g53)
  have g82:H8 b2=some (.cells zS):=by rw[ha8.other n2s];(exact g52)
  simp(disch:=first|omega|assumption) only[g83,go_sem]
  have K9:=K8.box (x:=.cells [.int .i64 2,.str [],.str [],.sl .nil 6 [],.sl .no 2 (cDs d),.str [],.sl .nil 7 []]) hb3H
  obtain⟨p9,hp9,hr9⟩:=K9.here
  refine zp (hv _ r L p9 t8 hp9 hl hr9) (fun v H9 ⟨l,t9,e9,hv9,ha9⟩=>?_) fun v H9 ⟨n,e9,hv9⟩=>pan v H9 n hv9 (by rw[hx,e9];rfl)
  subst hv9
  rw[e9,zF] at hx
  have KA:=K9.call ha9
  have g93:H9 b3=some (.cells [.int .i64 2,.str [],.str [],.sl .nil 6 [],.sl .no 2 (cDs d),.str [],.sl .nil 7 []]):=by rw[ha9.other n3s,upd_same]
  have g92:H9 b2=some (.cells zS):=by rw[ha9.other n2s,upd_ne (Ne.symm h32),g82]
  simp only[zS] at g92
  simp(disch:=first|omega|assumption) only[g93,g92,h32,Ne.symm h32,go_sem]
  exact fin _ _ [.agg [.int .i64 2,.str [],.str [],.sl .nil 6 [],.sl .no 2 (cDs d),.str [],.sl .no 7 (cSs l)]] _ _ (by simp(disch:=first|omega|assumption) only[ir299,zP,yR,go_sem]) hx ((KA.box hb3H).box hb2) (by simp[zc,AV.strip,AV.strip1,cS,cMs,cSs])
theorem zup {k:Nat} (hk:k≤16) (hv:zf3 k) {H:za} {r:Nat} {L p t:TS} (hs:p++t=L) (hl:wT L≤yS) (hr:H r=some (prc L p (16-k))) :
  zj Tryz.prog 247 [.ptr r 0] H (RpE H r L (16-k) (zay (yo k) k t) (fun x=>.agg (cS x))):=by
 refine ZL (zj.goO (R:=fun v H'=>zel H r L (16-k) (zay (yo k) k t) (fun x=>.agg (cS x)) v.strip H') (RP:=fun v H'=>zfm (zay (yo k) k t) v H') ir247 ck247 (Al4 _) fun KP Q hQ hP=>?_)
 have hll:L.length≤yS:=Nat.le_trans (zbf L) hl
 have hll2:=hll
 simp only[yS] at hll2
 have pan:∀(v:AV) (H1:za) (n:Int),v=Zj n→(zay (yo k) k t)=.error n→KP v H1:=fun v H1 n h1 h2=>hP v H1 H1 (Low.refl _) ⟨n,h2,h1⟩
 have fin:=KI.done hQ
 have K0:=KI.start hs hr
 simp(disch:=first|omega|assumption) only[ir247,go_sem]
 refine zm fun b2 hb2=>?_
 have n2:=K0.ne hb2
 have n2s:=Ne.symm n2
 have K1:=K0.box (x:=.cells zS) hb2
 obtain⟨p1,hp1,hr1⟩:=K1.here
 simp only[zS] at K1 hr1
 simp(disch:=first|omega|assumption) only[go_sem]
 refine zK (zaJ (dp:=16-k) hp1 hll hr1 [46,46,46]) fun v H2 ⟨hv2,ha2⟩=>?_
 subst hv2
 have g22:H2 b2=some (.cells zS):=by rw[ha2.other n2s,upd_same]
 have K2:=K1.call ha2
 unfold Y8 at K2
 obtain⟨p2,hp2,hr2⟩:=K2.here
 cases hi:isP [46,46,46] t with
 | true =>
  rw[hi] at K2 hp2
  simp only[if_true] at K2 hp2
  have hx:zay (yo k) k t=Zp (yo k) k t.tail:=by unfold zay;rw[hi];rfl
  simp(disch:=first|omega|assumption) only[go_sem]
  refine zp (zqz hk hv hp2 hl hr2) (fun v H3 ⟨x,t3,e3,hv3,ha3⟩=>?_) fun v H3 ⟨n,e3,hv3⟩=>pan v H3 n hv3 (by rw[hx,e3])
  subst hv3
  have K3:=K2.call ha3
  have g3:H3 b2=some (.cells zS):=by rw[ha3.other n2s,g22]
  simp only[zS] at g3
  simp(disch:=first|omega|assumption) only[g3,zhO,zeQ,zbZ,go_sem]
  exact fin _ _ [.agg (cS x)] _ _ (by simp(disch:=first|omega|assumption) only[ir247,zP,yR,zhO,zeQ,zbZ,go_sem]) (by rw[hx,e3]) (K3.box hb2) (by simp[zc,AV.strip,zfg])
 | false =>
  rw[hi] at K2 hp2
  simp only[Al7,if_false] at K2 hp2
  have hx:zay (yo k) k t=pb (yT t) fun s t=>pb (if isP [58] t then pb (yT t.tail) fun s2 t=>.ok ((s,s2),t) else .ok (([],s),t)) fun an t =>
   pb (Y0 false k t) fun a t=>pb (Yx false k t) fun d t=>pb (if isP [123] t then yo k t else .ok ([],t)) fun l t=>.ok (.mk 0 an.1 an.2 a d [] l,t):=by unfold zay;rw[hi];rfl
  simp(disch:=first|omega|assumption) only[go_sem]
  refine zp (zaC (dp:=16-k) hp2 hll hr2) (fun v H3 ⟨s,t3,e3,hv3,ha3⟩=>?_) fun v H3 ⟨n,e3,hv3⟩=>pan v H3 n hv3 (by rw[hx,e3];rfl)
  subst hv3
  rw[e3,zF] at hx
  have K3:=K2.call ha3
  have g32:H3 b2=some (.cells zS):=by rw[ha3.other n2s,g22]
  simp(disch:=first|omega|assumption) only[go_sem]
  refine zm fun b3 hb3=>?_
  have h32:b3≠b2:=fun e=>by subst e;rw[g32] at hb3;cases hb3
  have hb3H:H b3=none:=K3.none hb3
  have n3:=K0.ne hb3H
  have n3s:=Ne.symm n3
  have K4:=K3.box (x:=.cells [.int .i64 0,.str [],.str s,.sl .nil 6 [],.sl .nil 2 [],.str [],.sl .nil 7 []]) hb3H
  obtain⟨p4,hp4,hr4⟩:=K4.here
  simp(disch:=first|omega|assumption) only[go_sem]
  refine zK (zaJ (dp:=16-k) hp4 hll hr4 [58]) fun v H5 ⟨hv5,ha5⟩=>?_
  subst hv5
  have g53:H5 b3=some (.cells [.int .i64 0,.str [],.str s,.sl .nil 6 [],.sl .nil 2 [],.str [],.sl .nil 7 []]):=by rw[ha5.other n3s,upd_same]
  have g52:H5 b2=some (.cells zS):=by rw[ha5.other n2s,upd_ne (Ne.symm h32),g32]
  have K5:=K4.call ha5
  unfold Y8 at K5
  obtain⟨p5,hp5,hr5⟩:=K5.here
  cases hc:isP [58] t3 with
  | true =>
   rw[hc] at hx K5 hp5
   simp only[if_true] at hx K5 hp5
   simp(disch:=first|omega|assumption) only[g53,go_sem]
   refine zp (zaC (dp:=16-k) hp5 hll hr5) (fun v H6 ⟨s2,t6,e6,hv6,ha6⟩=>?_) fun v H6 ⟨n,e6,hv6⟩=>pan v H6 n hv6 (by rw[hx,e6];rfl)
   subst hv6
   rw[e6,zF,zF] at hx
   have K6:=K5.call ha6
   have g63:H6 b3=some (.cells [.int .i64 0,.str [],.str s,.sl .nil 6 [],.sl .nil 2 [],.str [],.sl .nil 7 []]):=by rw[ha6.other n3s,g53]
   have g62:H6 b2=some (.cells zS):=by rw[ha6.other n2s,g52]
   simp(disch:=first|omega|assumption) only[g63,go_sem]
   have K7:=K6.box (x:=.cells [.int .i64 0,.str s,.str s2,.sl .nil 6 [],.sl .nil 2 [],.str [],.sl .nil 7 []]) hb3H
   obtain⟨p7,hp7,hr7⟩:=K7.here
   refine zp (znL hk hp7 hl hr7) (fun v H8 ⟨a,t8,e8,hv8,ha8⟩=>?_) fun v H8 ⟨n,e8,hv8⟩=>pan v H8 n hv8 (by rw[hx,e8];rfl)
   subst hv8
   rw[e8,zF] at hx
   have K8:=K7.call ha8
   have g83:H8 b3=some (.cells [.int .i64 0,.str s,.str s2,.sl .nil 6 [],.sl .nil 2 [],.str [],.sl .nil 7 []]):=by rw[ha8.other n3s];(exact upd_same ..)
   have g82:H8 b2=some (.cells zS):=by rw[ha8.other n2s];(rw[upd_ne (Ne.symm h32)];exact g62)
   simp(disch:=first|omega|assumption) only[g83,go_sem]
   have K9:=K8.box (x:=.cells [.int .i64 0,.str s,.str s2,.sl .no 6 (cMs a),.sl .nil 2 [],.str [],.sl .nil 7 []]) hb3H
   obtain⟨p9,hp9,hr9⟩:=K9.here
   refine zp (zbE hk hp9 hl hr9) (fun v HA ⟨d,tA,eA,hvA,haA⟩=>?_) fun v HA ⟨n,eA,hvA⟩=>pan v HA n hvA (by rw[hx,eA];rfl)
   subst hvA
   rw[eA,zF] at hx
   have KA:=K9.call haA
   have gA3:HA b3=some (.cells [.int .i64 0,.str s,.str s2,.sl .no 6 (cMs a),.sl .nil 2 [],.str [],.sl .nil 7 []]):=by rw[haA.other n3s,upd_same]
   have gA2:HA b2=some (.cells zS):=by rw[haA.other n2s,upd_ne (Ne.symm h32),g82]
   simp(disch:=first|omega|assumption) only[gA3,go_sem]
   have KB:=KA.box (x:=.cells [.int .i64 0,.str s,.str s2,.sl .no 6 (cMs a),.sl .no 2 (cDs d),.str [],.sl .nil 7 []]) hb3H
   obtain⟨pB,hpB,hrB⟩:=KB.here
   refine zK (zpW (dp:=16-k) hpB hrB [123]) fun v HC ⟨hvC,hHC⟩=>?_
   subst hvC;subst hHC
   have gC2:(HA.upd b3 (.cells [.int .i64 0,.str s,.str s2,.sl .no 6 (cMs a),.sl .no 2 (cDs d),.str [],.sl .nil 7 []])) b2=some (.cells zS):=by rw[upd_ne (Ne.symm h32),gA2]
   cases hb:isP [123] tA with
   | true =>
    rw[hb] at hx
    simp only[if_true] at hx
    simp(disch:=first|omega|assumption) only[go_sem]
    refine zp (hv _ r L pB tA hpB hl hrB) (fun v HD ⟨l,tD,eD,hvD,haD⟩=>?_) fun v HD ⟨n,eD,hvD⟩=>pan v HD n hvD (by rw[hx,eD];rfl)
    subst hvD
    rw[eD,zF] at hx
    have KD:=KB.call haD
    have gD3:HD b3=some (.cells [.int .i64 0,.str s,.str s2,.sl .no 6 (cMs a),.sl .no 2 (cDs d),.str [],.sl .nil 7 []]):=by rw[haD.other n3s,upd_same]
    have gD2:HD b2=some (.cells zS):=by rw[haD.other n2s,gC2]
    simp only[zS] at gD2
    simp(disch:=first|omega|assumption) only[gD3,gD2,h32,Ne.symm h32,go_sem]
    exact fin _ _ [.agg [.int .i64 0,.str s,.str s2,.sl .no 6 (cMs a),.sl .no 2 (cDs d),.str [],.sl .no 7 (cSs l)]] _ _ (by simp(disch:=first|omega|assumption) only[ir247,zP,yR,go_sem]) hx ((KD.box hb3H).box hb2) (by simp[zc,AV.strip,AV.strip1,cS,cMs,cSs])
   | false =>
    rw[hb] at hx
    simp only[Al7,if_false,zF] at hx
    simp only[zS] at gA2
    simp(disch:=first|omega|assumption) only[gA2,h32,Ne.symm h32,go_sem]
    exact fin _ _ [.agg [.int .i64 0,.str s,.str s2,.sl .no 6 (cMs a),.sl .no 2 (cDs d),.str [],.sl .nil 7 []]] _ _ (by simp(disch:=first|omega|assumption) only[ir247,zP,yR,go_sem]) hx (KB.box hb2) (by simp[zc,AV.strip,AV.strip1,cS,cMs,cSs])
  | false =>
   rw[hc] at hx K5 hp5
   simp only[Al7,if_false,zF] at hx K5 hp5
   simp(disch:=first|omega|assumption) only[go_sem]
   refine zp (znL hk hp5 hl hr5) (fun v H8 ⟨a,t8,e8,hv8,ha8⟩=>?_) fun v H8 ⟨n,e8,hv8⟩=>pan v H8 n hv8 (by rw[hx,e8];rfl)
   subst hv8
   rw[e8,zF] at hx
   have K8:=K5.call ha8
   have g83:H8 b3=some (.cells [.int .i64 0,.str [],.str s,.sl .nil 6 [],.sl .nil 2 [],.str [],.sl .nil 7 []]):=by rw[ha8.other n3s];(exact g53)
   have g82:H8 b2=some (.cells zS):=by rw[ha8.other n2s];(exact g52)
   simp(disch:=first|omega|assumption) only[g83,go_sem]
   have K9:=K8.box (x:=.cells [.int .i64 0,.str [],.str s,.sl .no 6 (cMs a),.sl .nil 2 [],.str [],.sl .nil 7 []]) hb3H
   obtain⟨p9,hp9,hr9⟩:=K9.here
   refine zp (zbE hk hp9 hl hr9) (fun v HA ⟨d,tA,eA,hvA,haA⟩=>?_) fun v HA ⟨n,eA,hvA⟩=>pan v HA n hvA (by rw[hx,eA];rfl)
   subst hvA
   rw[eA,zF] at hx
   have KA:=K9.call haA
   have gA3:HA b3=some (.cells [.int .i64 0,.str [],.str s,.sl .no 6 (cMs a),.sl .nil 2 [],.str [],.sl .nil 7 []]):=by rw[haA.other n3s,upd_same]
   have gA2:HA b2=some (.cells zS):=by rw[haA.other n2s,upd_ne (Ne.symm h32),g82]
   simp(disch:=first|omega|assumption) only[gA3,go_sem]
   have KB:=KA.box (x:=.cells [.int .i64 0,.str [],.str s,.sl .no 6 (cMs a),.sl .no 2 (cDs d),.str [],.sl .nil 7 []]) hb3H
   obtain⟨pB,hpB,hrB⟩:=KB.here
   refine zK (zpW (dp:=16-k) hpB hrB [123]) fun v HC ⟨hvC,hHC⟩=>?_
   subst hvC;subst hHC
   have gC2:(HA.upd b3 (.cells [.int .i64 0,.str [],.str s,.sl .no 6 (cMs a),.sl .no 2 (cDs d),.str [],.sl .nil 7 []])) b2=some (.cells zS):=by rw[upd_ne (Ne.symm h32),gA2]
   cases hb:isP [123] tA with
   | true =>
    rw[hb] at hx
    simp only[if_true] at hx
    simp(disch:=first|omega|assumption) only[go_sem]
    refine zp (hv _ r L pB tA hpB hl hrB) (fun v HD ⟨l,tD,eD,hvD,haD⟩=>?_) fun v HD ⟨n,eD,hvD⟩=>pan v HD n hvD (by rw[hx,eD];rfl)
    subst hvD
    rw[eD,zF] at hx
    have KD:=KB.call haD
    have gD3:HD b3=some (.cells [.int .i64 0,.str [],.str s,.sl .no 6 (cMs a),.sl .no 2 (cDs d),.str [],.sl .nil 7 []]):=by rw[haD.other n3s,upd_same]
    have gD2:HD b2=some (.cells zS):=by rw[haD.other n2s,gC2]
    simp only[zS] at gD2
    simp(disch:=first|omega|assumption) only[gD3,gD2,h32,Ne.symm h32,go_sem]
    exact fin _ _ [.agg [.int .i64 0,.str [],.str s,.sl .no 6 (cMs a),.sl .no 2 (cDs d),.str [],.sl .no 7 (cSs l)]] _ _ (by simp(disch:=first|omega|assumption) only[ir247,zP,yR,go_sem]) hx ((KD.box hb3H).box hb2) (by simp[zc,AV.strip,AV.strip1,cS,cMs,cSs])
   | false =>
    rw[hb] at hx
    simp only[Al7,if_false,zF] at hx
    simp only[zS] at gA2
    simp(disch:=first|omega|assumption) only[gA2,h32,Ne.symm h32,go_sem]
    exact fin _ _ [.agg [.int .i64 0,.str [],.str s,.sl .no 6 (cMs a),.sl .no 2 (cDs d),.str [],.sl .nil 7 []]] _ _ (by simp(disch:=first|omega|assumption) only[ir247,zP,yR,go_sem]) hx (KB.box hb2) (by simp[zc,AV.strip,AV.strip1,cS,cMs,cSs])
theorem zto:zf3 0:=by
 intro H r L p t hs hl hr
 refine zj.goO (R:=fun v H'=>zel H r L (16-0) (yo 0 t) (fun l=>.sl .no 7 (cSs l)) v H') (RP:=fun v H'=>zfm (yo 0 t) v H') ir162 ck162 (Al4 _) fun KP Q hQ hP=>?_
 have hll:L.length≤yS:=Nat.le_trans (zbf L) hl
 have pan:∀(v:AV) (H1:za) (n:Int),v=Zj n→yo 0 t=.error n→KP v H1:=fun v H1 n h1 h2=>hP v H1 H1 (Low.refl _) ⟨n,h2,h1⟩
 simp(disch:=first|omega|assumption) only[ir162,go_sem]
 refine zp (zkk (dp:=16-0) hs hll (by omega) hr [123]) (fun v H1 ⟨hv,hat,haf⟩=>?_) fun v H1 ⟨hi,h16,hv⟩=>pan v H1 4 hv (by rw[yo,if_pos hi])
 subst hv
 cases hi:isP [123] t with
 | true=>exact absurd (hat hi).1 (by decide)
 | false =>
  simp(disch:=first|omega|assumption) only[go_sem]
  exact zp (zd7 _ r 2) (fun _ _ h=>h.elim) fun v H3 h=>pan v H3 2 h (by rw[yo,hi];rfl)
theorem zsv {k:Nat} (hk:k<16) (hv:zf3 k):zf3 (k+1):=by
 intro H r L p t hs hl hr
 refine ZL (zj.goO (R:=fun v H'=>zel H r L (16-(k+1)) (yo (k+1) t) (fun l=>.sl .no 7 (cSs l)) v.strip H') (RP:=fun v H'=>zfm (yo (k+1) t) v H') ir162 ck162 (Al4 _) fun KP Q hQ hP=>?_)
 have hll:L.length≤yS:=Nat.le_trans (zbf L) hl
 have hll2:=hll
 simp only[yS] at hll2
 have pan:∀(v:AV) (H1:za) (n:Int),v=Zj n→(yo (k+1) t)=.error n→KP v H1:=fun v H1 n h1 h2=>hP v H1 H1 (Low.refl _) ⟨n,h2,h1⟩
 have fin:=KI.done hQ
 have K0:=KI.start hs hr
 simp(disch:=first|omega|assumption) only[ir162,go_sem]
 refine zp (zkk (dp:=16-(k+1)) hs hll (by omega) hr [123]) (fun v H1 ⟨hv1,hat,haf⟩=>?_) fun v H1 ⟨hi,h16,hv1⟩=>by exfalso;omega
 subst hv1
 cases hi:isP [123] t with
 | false =>
  simp(disch:=first|omega|assumption) only[go_sem]
  exact zp (zd7 _ r 2) (fun _ _ h=>h.elim) fun v H3 h=>pan v H3 2 h (by rw[yo,hi];rfl)
 | true =>
  have ha1:=(hat hi).2
  rw[show 16-(k+1)+1=16-k by omega] at ha1
  have K1:=K0.call ha1
  obtain⟨p1,hp1,hr1⟩:=K1.here
  have hx:yo (k+1) t=pb (zay (yo k) k t.tail) fun x t=>yA [125] (zay (yo k) k) (t.length+1) [x] t:=by
   rw[yo,hi];rfl
  clear hat haf
  simp(disch:=first|omega|assumption) only[go_sem]
  refine zp (zup (by omega) hv hp1 hl hr1) (fun v H2 ⟨x1,t2,e2,hv2,ha2⟩=>?_) fun v H2 ⟨n,e2,hv2⟩=>pan v H2 n hv2 (by rw[hx,e2];rfl)
  subst hv2
  have K2:=K1.call ha2
  have hlt1:=(zfq (Yb k)).lt (by decide) _ _ _ e2
  have hsl:=ze6 hp1
  rw[e2,zF] at hx
  obtain⟨R,hR⟩:∃ R,yA [125] (zay (yo k) k) (t2.length+1) [x1] t2=R:=⟨_,rfl⟩
  rw[hR] at hx
  simp(disch:=first|omega|assumption) only[zhO,zeQ,zbZ,go_sem]
  refine yK (fun x:Own×List SelD×TS=>[(3,.sl x.1 7 (cSs x.2.1))]) (fun x H'=>KO H r L x.2.2 (16-k) H' x.1 x.2.1.length 7∧(∃ m,x.2.2.length<m∧yA [125] (zay (yo k) k) m x.2.1 x.2.2=R)∧x.2.1.length+x.2.2.length≤L.length) (fun x=>x.2.2.length) (.full,[x1],t2) (by simp(disch:=first|omega|assumption) only[cSs,zfg,go_sem]) ⟨⟨K2,yh.full _ _ _,nofun⟩,⟨_,Nat.lt_succ_self _,hR⟩,by simp only[List.length_singleton];omega⟩ ?_
  rintro⟨o,l,u⟩ H3 J ⟨K3,⟨m,hm,hR3⟩,hlen⟩ hJ
  simp only at K3 hm hR3 hlen
  obtain⟨m,rfl⟩:∃ j,m=j+1:=⟨m-1,by omega⟩
  obtain⟨p3,hp3,hr3⟩:=K3.here
  have hcl:=zdG l
  simp(disch:=first|omega|assumption) only[go_sem]
  refine zK (zko (dp:=16-k) hp3 hll (by omega) hr3 [125]) fun v H4 ⟨hv4,hat,haf⟩=>?_
  subst hv4
  cases hj:isP [125] u with
  | true =>
   have ha4:=hat hj
   rw[show 16-k-1=16-(k+1) by omega] at ha4
   have e1:R=.ok (l,u.tail):=by rw[← hR3,yA,hj];rfl
   simp(disch:=first|omega|assumption) only[go_sem]
   refine fin _ _ [.sl o 7 (cSs l)] l u.tail (by simp(disch:=first|omega|assumption) only[ir162,zP,yR,go_sem]) (by rw[hx,e1]) (K3.toKI.call ha4) ?_
   simp[zc,AV.strip,AV.strip1,ze0,zfg]
  | false =>
   have K4:=K3.call (haf hj)
   obtain⟨p4,hp4,hr4⟩:=K4.here
   rw[yA,hj] at hR3
   simp only[Al7,if_false] at hR3
   simp(disch:=first|omega|assumption) only[go_sem]
   refine zp (zup (by omega) hv hp4 hl hr4) (fun v H5 ⟨x,t5,e5,hv5,ha5⟩=>?_) fun v H5 ⟨n5,e5,hv5⟩=>pan v H5 n5 hv5 (by rw[hx,← hR3,e5];rfl)
   subst hv5
   rw[e5,zF] at hR3
   have hlt:=(zfq (Yb k)).lt (by decide) _ _ _ e5
   have K5:=K4.call ha5
   simp(disch:=first|omega|assumption) only[zhO,zeQ,zbZ,go_sem]
   refine zx (by rw[hcl];exact K5.own) (by simp only[hcl,Al2,Al3];omega) (by simp only[hcl,Al2,Al3,maxLen];omega) fun o6 H6 hs6=>?_
   have K6:=K5.app (by simpa[hcl] using hs6)
   simp(disch:=first|omega|assumption) only[zhO,zeQ,zbZ,go_sem]
   refine goJ (hJ (o6,l++[x],t5) _ (by simp only;omega) ⟨by simpa using K6,⟨m,by simp only;omega,hR3⟩,by simp only[Al5,Al2,Al3];omega⟩) (by simp(disch:=first|omega|assumption) only[ze0,List.map_append,List.map_cons,List.map_nil,zfg,go_sem])
theorem zbe:∀ k,k≤16→zf3 k
 | 0,_=>zto
 | k+1,h=>zsv (by omega) (zbe k (by omega))
end Go.Proofs.YticbbfbpeimkbaaGreatDoor
namespace Go.Proofs.YticbbfbpeimkbaaGreatDoor
open Go.Lib
theorem zl7 {d:Nat} (h:d<10):(UInt8.ofNat (48+d)).toNat=48+d:=by
 rw[UInt8.toNat_ofNat'];omega
theorem zpV (u:Nat) (hu:u<18446744073709551616) (r:List UInt8):parseUint10 0 (decDigits u++r)=parseUint10 u r:=by
 induction u using Nat.strongRecOn generalizing r with
 | _ u ih =>
  rw[decDigits]
  split
  ·rename_i h
   simp only[Al6,Zg,parseUint10,zl7 h]
   rw[if_pos (by omega),if_neg (by omega),if_neg (by omega)]
   congr 1
   omega
  ·rename_i h
   have hd:u % 10<10:=Nat.mod_lt _ (by omega)
   rw[ZJ,ih (u / 10) (by omega) (by omega)]
   simp only[Al6,Zg,parseUint10,zl7 hd]
   rw[if_pos (by omega),if_neg (by omega),if_neg (by omega)]
   congr 1
   omega
theorem zaR (u:Nat):decDigits u≠[]:=by
 rw[decDigits];split<;>simp
theorem zbG (u:Nat):∀ c∈decDigits u,48≤c.toNat∧c.toNat≤57:=by
 induction u using Nat.strongRecOn with
 | _ u ih =>
  intro c hc
  rw[decDigits] at hc
  split at hc
  ·rename_i h
   rw[List.mem_singleton] at hc
   subst hc
   rw[zl7 h];omega
  ·rename_i h
   rcases List.mem_append.1 hc with e|e
   ·exact ih (u / 10) (by omega) c e
   ·rw[List.mem_singleton] at e
    subst e
    rw[zl7 (Nat.mod_lt _ (by omega))];omega
theorem zj3 (u:Nat) (hu:u<18446744073709551616):parseMag (decDigits u)=.ok u:=by
 unfold parseMag
 rw[if_neg (zaR u)]
 have:=zpV u hu []
 rw[List.append_nil] at this
 rw[this];rfl
theorem zhV (n:Int) (h1:-9223372036854775808≤n) (h2:n≤9223372036854775807):parseIntB 64 (itoa n)=.ok n:=by
 rw[parseIntB_64]
 unfold itoa
 split
 ·rename_i h
  rw[atoiAll_minus,zj3 _ (by omega)]
  simp only[signed]
  rw[if_neg (by omega)]
  congr 1
  omega
 ·rename_i h
  cases hd:decDigits n.toNat with
  | nil=>exact absurd hd (zaR _)
  | cons c r =>
   have hc:=zbG n.toNat c (by rw[hd];simp)
   rw[atoiAll_plain c r (by omega) (by omega),← hd,zj3 _ (by omega)]
   simp only[signless]
   rw[if_neg (by omega)]
   congr 1
   omega
end Go.Proofs.YticbbfbpeimkbaaGreatDoor
namespace Go.Proofs.YticbbfbpeimkbaaGreatDoor
open Go.Ab
abbrev pl (v:Val):Prop:=zaD zZ v=true
inductive Shape:Val→Prop
 | null:Shape (.mk 0 0 [] [] [])
 | bool (n:Int) (h:n=0∨n=1):Shape (.mk 1 n [] [] [])
 | int (n:Int):Shape (.mk 2 n [] [] [])
 | num (s:List UInt8) (h:zet s=true):Shape (.mk 3 0 s [] [])
 | text (s:List UInt8):Shape (.mk 4 0 s [] [])
 | word (s:List UInt8) (h:zmN s=false):Shape (.mk 5 0 s [] [])
 | var (s:List UInt8):Shape (.mk 8 0 s [] [])
 | list (l:List Val) (h:Y1 zZ l=true):Shape (.mk 6 0 [] l [])
 | obj (m:List Mem) (h:zaO zZ m=true):Shape (.mk 7 0 [] [] m)
theorem zfG {n:Int} {s:List UInt8} {l:List Val} {m:List Mem}:zbq n s l m=true↔n=0∧s=[]∧l=[]∧m=[]:=by
 simp[zbq]
theorem shape:∀ v,pl v→Shape v
 | .mk k n s l m,h=>by
  simp only[pl,zaD] at h
  split at h
  ·rename_i k6
   subst k6
   simp only[Al0,zfG] at h
   obtain⟨h1,rfl,rfl,_,rfl⟩:=h
   exact .list l h1
  ·split at h
   ·rename_i k7
    subst k7
    simp only[Al0,zfG] at h
    obtain⟨h1,rfl,rfl,rfl,_⟩:=h
    exact .obj m h1
   ·simp only[yr,Al0,zfG] at h
    obtain⟨⟨_,_,rfl,rfl⟩,h⟩:=h
    split at h
    ·rename_i k0
     subst k0
     simp only[Al0,zL] at h
     obtain⟨rfl,rfl⟩:=h
     exact .null
    split at h
    ·rename_i k0
     subst k0
     simp only[Al0,Z0,zL] at h
     obtain⟨h,rfl⟩:=h
     exact .bool n h
    split at h
    ·rename_i k0
     subst k0
     simp only[zL] at h
     subst h
     exact .int n
    split at h
    ·rename_i k0
     subst k0
     simp only[Al0,zL] at h
     obtain⟨rfl,h⟩:=h
     exact .num s h
    split at h
    ·rename_i k0
     subst k0
     simp only[Al0,zL] at h
     obtain⟨rfl,h⟩:=h
     exact .text s
    split at h
    ·rename_i k0
     subst k0
     simp only[Al0,zL,Bool.not_eq_true'] at h
     obtain⟨rfl,_,h⟩:=h
     exact .word s h
    split at h
    ·rename_i k0
     subst k0
     simp only[Al0,zL] at h
     obtain⟨rfl,_⟩:=h
     exact .var s
    ·cases h
theorem zqD (n s l m):yD (.mk 0 n s l m)=[⟨2,[110,117,108,108]⟩]:=by simp[yD]
theorem zq9 (n s l m):yD (.mk 1 n s l m)=[⟨2,boolT (decide (n=1))⟩]:=by simp[yD]
theorem zuB (n s l m):yD (.mk 2 n s l m)=[⟨3,Lib.itoa n⟩]:=by simp[yD]
theorem ztX (n s l m):yD (.mk 3 n s l m)=[⟨Z1 s,s⟩]:=by simp[yD]
theorem t_text (n s l m):yD (.mk 4 n s l m)=[⟨5,s⟩]:=by simp[yD]
theorem zqe (n s l m):yD (.mk 5 n s l m)=[⟨2,s⟩]:=by simp[yD]
theorem zuu (n s l m):yD (.mk 8 n s l m)=[⟨1,[36]⟩,⟨2,s⟩]:=by simp[yD]
theorem zrk (n s l m):yD (.mk 6 n s l m)=⟨1,[91]⟩::(YI l++[⟨1,[93]⟩]):=by simp[yD]
theorem zud (n s l m):yD (.mk 7 n s l m)=⟨1,[123]⟩::(Zc m++[⟨1,[125]⟩]):=by simp[yD]
theorem zjZ {s:List UInt8} (h:zet s=true):(Z1 s=4∨Z1 s=3)∧∀ n,inR n→Z1 s=3→Lib.itoa n≠s:=by
 simp only[zet,Z0,zL,Al0,Bool.not_eq_true'] at h
 refine⟨h.imp id (·.1),fun n hn h3 e=>?_⟩
 rcases h with h|⟨_,h⟩
 ·omega
 ·rw[ZS,← e,zhV n hn.1 hn.2,e,h3] at h
  simp[okI] at h
theorem zrE (v:Val) (h:pl v):∃ t r,yD v=t::r∧t≠⟨1,[93]⟩∧t≠⟨1,[125]⟩:=by
 cases shape v h with
 | null=>exact⟨_,_,zqD ..,by simp,by simp⟩
 | bool n h=>exact⟨_,_,zq9 ..,by simp,by simp⟩
 | int n=>exact⟨_,_,zuB ..,by simp,by simp⟩
 | num s h =>
  have:=(zjZ h).1
  refine⟨_,_,ztX ..,fun e=>?_,fun e=>?_⟩<;>(injection e with e _;omega)
 | text s=>exact⟨_,_,t_text ..,by simp,by simp⟩
 | word s h=>exact⟨_,_,zqe ..,by simp,by simp⟩
 | var s=>exact⟨_,_,zuu ..,by simp,by simp⟩
 | list l h=>exact⟨_,_,zrk ..,by simp,by simp⟩
 | obj m h=>exact⟨_,_,zud ..,by simp,by simp⟩
open Go.Lib
theorem zeH {P:UInt8→Prop} (h:∀ x:Fin 256,P (UInt8.ofNat x.val)) (c:UInt8):P c:=by
 have:=h ⟨c.toNat,c.toNat_lt⟩
 simpa using this
theorem zaw {a b:List UInt8} {i:Nat} (h:i<a.length):(a++b).getD i 0=a.getD i 0:=by
 simp[List.getD,zcN h]
theorem getD_at (a:List UInt8) (c:UInt8) (b:List UInt8):(a++c::b).getD a.length 0=c:=by simp
theorem zh5 {n b1 b2 b3 sz lo hi k:Nat} (h:checkN n b1 b2 b3 sz lo hi=some k) :
  2≤k∧k≤4∧k≤n∧k=sz∧lo≤b1∧(3≤k→128≤b2)∧(4≤k→128≤b3)∧∀ n' c2 c3,k≤n'→(3≤k→c2=b2)→(4≤k→c3=b3)→checkN n' b1 c2 c3 sz lo hi=some k:=by
 unfold checkN at h
 split at h
 ·rename_i hs
  split at h
  ·cases h
  ·rename_i hc
   cases h
   refine⟨by omega,by omega,by omega,hs.symm,by omega,by omega,by omega,fun n' c2 c3 h1 _ _=>?_⟩
   unfold checkN;rw[if_pos hs,if_neg (by omega)]
 ·rename_i hs2
  split at h
  ·rename_i hs
   split at h
   ·cases h
   ·rename_i hc
    cases h
    refine⟨by omega,by omega,by omega,hs.symm,by omega,by omega,by omega,fun n' c2 c3 h1 h2 _=>?_⟩
    have:=h2 (by omega)
    unfold checkN;rw[if_neg hs2,if_pos hs,if_neg (by omega)]
  ·rename_i hs3
   split at h
   ·rename_i hs
    split at h
    ·cases h
    ·rename_i hc
     cases h
     refine⟨by omega,by omega,by omega,hs.symm,by omega,by omega,by omega,fun n' c2 c3 h1 h2 h3=>?_⟩
     have:=h2 (by omega)
     have:=h3 (by omega)
     unfold checkN;rw[if_neg hs2,if_neg hs3,if_pos hs,if_neg (by omega)]
   ·cases h
theorem zw7:∀ x:Fin 256,2≤firstT x.val % 8→firstT x.val % 8≤4→128≤accLo (firstT x.val / 16):=by decide +kernel
theorem zwE {b:Nat} (h:b<256) (h1:2≤firstT b % 8) (h2:firstT b % 8≤4):128≤accLo (firstT b / 16):=zw7 ⟨b,h⟩ h1 h2
theorem zej:∀(n:Nat) (a b:List UInt8),a.length≤n→validD a=true→validD (a++b)=validD b
 | n,[],b,_,_=>by simp
 | 0,x::t,b,h,_=>by simp at h
 | n+1,x::t,b,h,hv=>by
  by_cases hx:x.toNat<128
  ·rw[validD_cons x t hx] at hv
   rw[Al6,validD_cons x _ hx]
   exact zej n t b (by simpa using h) hv
  ·have h0:128≤((x::t).getD 0 0).toNat:=by simp;omega
   rw[validD_lead (x::t) (by simp) h0] at hv
   split at hv
   ·cases hv
   ·rename_i k hk
    obtain⟨k2,k4,kl,ks,klo,_,_,kall⟩:=zh5 hk
    have hkl:k≤(x::t).length:=kl
    have e1:((x::t++b).getD 1 0)=(x::t).getD 1 0:=zaw (by omega)
    have e0:((x::t++b).getD 0 0)=(x::t).getD 0 0:=zaw (by omega)
    rw[validD_lead (x::t++b) (by simp) (by rw[e0];exact h0),e0,e1]
    rw[kall (x::t++b).length _ _ (by simp only[Al5];omega) (fun h3=>by rw[zaw (by omega)]) (fun h3=>by rw[zaw (by omega)])]
    simp only
    rw[zf9 hkl]
    exact zej n _ b (by rw[Yv];omega) hv
theorem zk2 {a b:List UInt8} (h:validD a=true):validD (a++b)=validD b:=zej a.length a b (Al4 _) h
theorem zbp {a b:List UInt8} (h:validD a=true) (h':validD b=true):validD (a++b)=true:=(zk2 h).trans h'
theorem zck (c:UInt8) (hc:c.toNat<128):∀(n:Nat) (a b:List UInt8),a.length≤n→validD (a++c::b)=true→validD a=true∧validD b=true
 | n,[],b,_,hv=>by
  rw[Zg,validD_cons c b hc] at hv
  exact⟨validD_nil,hv⟩
 | 0,x::t,b,h,_=>by simp at h
 | n+1,x::t,b,h,hv=>by
  by_cases hx:x.toNat<128
  ·rw[Al6,validD_cons x _ hx] at hv
   rw[validD_cons x t hx]
   exact zck c hc n t b (by simpa using h) hv
  ·have h0:128≤((x::t++c::b).getD 0 0).toNat:=by simp;omega
   have e0:((x::t++c::b).getD 0 0)=(x::t).getD 0 0:=zaw (by simp)
   have ec:((x::t++c::b).getD (x::t).length 0)=c:=getD_at ..
   rw[validD_lead (x::t++c::b) (by simp) h0] at hv
   split at hv
   ·cases hv
   ·rename_i k hk
    obtain⟨k2,k4,kl,ks,klo,k3,k4',kall⟩:=zh5 hk
    have hlo:=zwE ((x::t++c::b).getD 0 0).toNat_lt (by omega) (by omega)
    have hkl:k≤(x::t).length:=by
     rcases Nat.lt_or_ge (x::t).length k with h1|h1
     ·exfalso
      have hl:(x::t).length=1∨(x::t).length=2∨(x::t).length=3:=by simp only[Al2] at h1 ⊢;omega
      rcases hl with e|e|e
      ·rw[e] at ec h1;rw[ec] at klo;omega
      ·rw[e] at ec h1;rw[ec] at k3;have:=k3 (by omega);omega
      ·rw[e] at ec h1;rw[ec] at k4';have:=k4' (by omega);omega
     ·exact h1
    have e1:((x::t++c::b).getD 1 0)=(x::t).getD 1 0:=zaw (by omega)
    rw[zf9 hkl] at hv
    obtain⟨g1,g2⟩:=zck c hc n _ b (by rw[Yv];omega) hv
    refine⟨?_,g2⟩
    rw[validD_lead (x::t) (by simp) (by rw[← e0];exact h0),← e0,← e1]
    rw[kall (x::t).length _ _ hkl (fun h3=>by rw[zaw (by omega)]) (fun h3=>by rw[zaw (by omega)])]
    exact g1
theorem zda {c:UInt8} (hc:c.toNat<128) {a b:List UInt8} (hv:validD (a++c::b)=true):validD a=true∧validD b=true:=zck c hc a.length a b (Al4 _) hv
theorem ofN {n:Nat} (h:n<256):(UInt8.ofNat n).toNat=n:=by rw[UInt8.toNat_ofNat'];omega
theorem zfs {n:Nat} (h1:n≤1114111) (h2:¬ (55296≤n∧n≤57343)):validD (ZF n)=true:=by
 unfold ZF
 split
 ·rename_i h
  rw[validD_cons _ _ (by rw[ofN (by omega)];omega)];rfl
 ·split
  ·rename_i h0 h
   rw[validD_lead _ (by simp) (by simp only[List.getD_cons_zero];rw[ofN (by omega)];omega)]
   simp only[List.getD_cons_zero,List.getD_cons_succ,List.getD_nil,Al2,Al3]
   rw[ofN (show 192+n / 64<256 by omega),ofN (show 128+n % 64<256 by omega)]
   have e:firstT (192+n / 64)=2:=by unfold firstT;rw[if_neg (by omega),if_neg (by omega),if_pos (by omega)]
   rw[e]
   have e2:checkN (0+1+1) (128+n % 64) (0:UInt8).toNat (0:UInt8).toNat (2 % 8) (accLo (2 / 16)) (accHi (2 / 16))=some 2:=by
    unfold checkN accLo accHi;simp;omega
   rw[e2];rfl
  ·split
   ·rename_i h0 h1' h
    rw[validD_lead _ (by simp) (by simp only[List.getD_cons_zero];rw[ofN (by omega)];omega)]
    simp only[List.getD_cons_zero,List.getD_cons_succ,List.getD_nil,Al2,Al3]
    rw[ofN (show 224+n / 4096<256 by omega),ofN (show 128+n / 64 % 64<256 by omega),ofN (show 128+n % 64<256 by omega)]
    have e2:checkN (0+1+1+1) (128+n / 64 % 64) (128+n % 64) (0:UInt8).toNat (firstT (224+n / 4096) % 8) (accLo (firstT (224+n / 4096) / 16)) (accHi (firstT (224+n / 4096) / 16))=some 3:=by
     have c:n / 4096=0∨(1≤n / 4096∧n / 4096<13)∨n / 4096=13∨(14≤n / 4096∧n / 4096<16):=by omega
     rcases c with c|c|c|c
     ·rw[c];unfold checkN;simp[firstT,accLo,accHi];omega
     ·have e:firstT (224+n / 4096)=3:=by unfold firstT;rw[if_neg (by omega),if_neg (by omega),if_neg (by omega),if_neg (by omega),if_pos (by omega)]
      rw[e];unfold checkN;simp[accLo,accHi];omega
     ·rw[c];unfold checkN;simp[firstT,accLo,accHi];omega
     ·have e:firstT (224+n / 4096)=3:=by unfold firstT;rw[if_neg (by omega),if_neg (by omega),if_neg (by omega),if_neg (by omega),if_neg (by omega),if_neg (by omega),if_pos (by omega)]
      rw[e];unfold checkN;simp[accLo,accHi];omega
    rw[e2];rfl
   ·rename_i h0 h1' h
    rw[validD_lead _ (by simp) (by simp only[List.getD_cons_zero];rw[ofN (by omega)];omega)]
    simp only[List.getD_cons_zero,List.getD_cons_succ,List.getD_nil,Al2,Al3]
    rw[ofN (show 240+n / 262144<256 by omega),ofN (show 128+n / 4096 % 64<256 by omega),ofN (show 128+n / 64 % 64<256 by omega),ofN (show 128+n % 64<256 by omega)]
    have e2:checkN (0+1+1+1+1) (128+n / 4096 % 64) (128+n / 64 % 64) (128+n % 64) (firstT (240+n / 262144) % 8) (accLo (firstT (240+n / 262144) / 16)) (accHi (firstT (240+n / 262144) / 16))=some 4:=by
     have c:n / 262144=0∨(1≤n / 262144∧n / 262144<4)∨n / 262144=4:=by omega
     rcases c with c|c|c
     ·rw[c];unfold checkN;simp[firstT,accLo,accHi];omega
     ·have e:firstT (240+n / 262144)=4:=by unfold firstT;rw[if_neg (by omega),if_neg (by omega),if_neg (by omega),if_neg (by omega),if_neg (by omega),if_neg (by omega),if_neg (by omega),if_neg (by omega),if_pos (by omega)]
      rw[e];unfold checkN;simp[accLo,accHi];omega
     ·rw[c];unfold checkN;simp[firstT,accLo,accHi];omega
    rw[e2];rfl
theorem zeG:∀(u:List Nat) (s:List UInt8),z1 u=some s→validD s=true
 | [],s,h=>by cases h;rfl
 | u::[],s,h=>by
  simp only[z1] at h
  split at h
  ·cases h
  ·rename_i h1
   split at h
   ·cases h
   ·simp only[yU,Al1] at h
    subst h
    rw[List.append_nil]
    exact zfs (by omega) (by omega)
 | u::v::r,s,h=>by
  rw[z1] at h
  split at h
  ·cases h
  ·rename_i h1
   split at h
   ·rename_i h2
    split at h
    ·cases h
    ·rename_i h3
     cases hr:z1 r with
     | none=>simp[hr] at h
     | some x =>
      simp only[hr,yU,Al1] at h
      subst h
      exact zbp (zfs (by omega) (by omega)) (zeG r x hr)
   ·rename_i h2
    cases hr:z1 (v::r) with
    | none=>simp[hr] at h
    | some x =>
     simp only[hr,yU,Al1] at h
     subst h
     exact zbp (zfs (by omega) (by omega)) (zeG (v::r) x hr)
end Go.Proofs.YticbbfbpeimkbaaGreatDoor
namespace Go.Proofs.YticbbfbpeimkbaaGreatDoor
open Go.Ab
def qB (c:UInt8):List UInt8:=if c=34∨c=92 then [92,c] else if c.toNat<32 then [92,117,48,48,hexL.getD (c.toNat / 16) 0,hexL.getD (c.toNat % 16) 0] else [c]
def zcf (s:List UInt8):List UInt8:=34::(s.flatMap qB++[34])
mutual
def YC:Val→List UInt8
 | .mk k n s l m=>if k=0 then [110,117,108,108] else if k=1 then boolT (decide (n=1)) else if k=2 then Lib.itoa n else if k=3 then s else if k=4 then zcf s
  else if k=6 then 91::(Yz true l++[93]) else 123::(Yy true m++[125])
def Yz:Bool→List Val→List UInt8
 | _,[]=>[]
 | f,v::r=>(if f then [] else [44])++(YC v++Yz false r)
def znI:Mem→List UInt8
 | .mk s v=>zcf s++(58::YC v)
def Yy:Bool→List Mem→List UInt8
 | _,[]=>[]
 | f,x::r=>(if f then [] else [44])++(znI x++Yy false r)
end
mutual
def zol:Val→Bool
 | .mk k _ _ l m=>!(decide (k=5)||decide (k=8))&&(zeg l&&zch [] m)
def zeg:List Val→Bool
 | []=>true
 | v::r=>zol v&&zeg r
def zua:Mem→Bool
 | .mk _ v=>zol v
def zch:List (List UInt8)→List Mem→Bool
 | _,[]=>true
 | ns,x::r=>!(ns.contains (nmM x))&&(zua x&&zch (ns++[nmM x]) r)
def nmM:Mem→List UInt8
 | .mk s _=>s
end
def za6 (v:Val):Bool:=zlA v&&zol v
theorem zab (t:List UInt8):zU (45::t)=if yi t=0 then 0 else 1+Ym t:=by
 unfold zU;exact if_pos rfl
theorem ZZ {s:List UInt8} (h:¬ s.head?=some 45):zU s=Ym s:=by
 unfold zU;exact if_neg h
open Go.Lib
structure SdOk (q:Sd) (acc:List UInt8):Prop where
 ok:q.ok=true
 small:∀ u∈q.u,u<128
 eq:acc=q.b++q.u.map UInt8.ofNat
theorem join_small:∀ u:List Nat,(∀ x∈u,x<128)→z1 u=some (u.map UInt8.ofNat)
 | [],_=>rfl
 | u::r,h=>by
  have h1:=h u (.head _)
  have h2:=join_small r fun x hx=>h x (.tail _ hx)
  have e:ZF u=[UInt8.ofNat u]:=by unfold ZF;rw[if_pos (by omega)]
  cases r with
  | nil=>simp only[z1];rw[if_neg (by omega),if_neg (by omega),e];rfl
  | cons v r=>rw[z1,if_neg (by omega),if_neg (by omega),h2,e];rfl
theorem SdOk.flush {q:Sd} {acc:List UInt8} (h:SdOk q acc):yN q=⟨acc,[],true⟩:=by
 unfold yN;rw[join_small _ h.small,h.ok,h.eq];rfl
theorem SdOk.put {q:Sd} {acc:List UInt8} (h:SdOk q acc) (c:UInt8):SdOk (q.put c) (acc++[c]):=by
 unfold Sd.put;rw[h.flush];exact⟨rfl,by simp,by simp⟩
theorem SdOk.unit {q:Sd} {acc:List UInt8} (h:SdOk q acc) {u:Nat} (hu:u<128):SdOk ⟨q.b,q.u++[u],q.ok⟩ (acc++[UInt8.ofNat u]) :=
 ⟨h.ok,fun x hx=>by rcases List.mem_append.1 hx with e|e;exact h.small x e;simp at e;omega,by rw[h.eq];simp⟩
theorem zqB:∀ x:Fin 32,∀ t,Y2 (48::48::hexL.getD (x.val / 16) 0::hexL.getD (x.val % 16) 0::t)=some x.val:=by
 intro x t
 have h0:hexD 48=some 0:=by decide
 have h1:∀ y:Fin 32,hexD (hexL.getD (y.val / 16) 0)=some (y.val / 16):=by decide
 have h2:∀ y:Fin 32,hexD (hexL.getD (y.val % 16) 0)=some (y.val % 16):=by decide
 unfold Y2
 simp only[YL,h0,h1 x,h2 x]
 congr 1;omega
theorem zwL {q:Sd} {acc:List UInt8} (h:SdOk q acc) (c:UInt8) (hc:c=34∨c=92) (t:List UInt8):Ys q (c::t)=some (q.put c,t):=by
 rcases hc with rfl|rfl
 ·simp only[Ys];rw[if_neg (by decide),if_neg (by decide)];rfl
 ·simp only[Ys];rw[if_neg (by decide),if_neg (by decide)];rfl
theorem zvV (q:Sd) (c:UInt8) (hc:c.toNat<32) (t:List UInt8):Ys q (117::48::48::hexL.getD (c.toNat / 16) 0::hexL.getD (c.toNat % 16) 0::t)=some (⟨q.b,q.u++[c.toNat],q.ok⟩,t):=by
 simp only[Ys]
 rw[if_pos trivial]
 have:=zqB ⟨c.toNat,hc⟩ t
 simp only at this
 rw[this];rfl
theorem zkA (may:UInt8→Bool) (hm:∀ c:UInt8,32≤c.toNat→may c=true):∀(s:List UInt8) (n:Nat) (q:Sd) (acc t:List UInt8),SdOk q acc→(s.flatMap qB).length<n→∃ q',YZ may n (s.flatMap qB++34::t) q=some (q',t)∧q'.ok=true∧q'.b=acc++s
 | [],n+1,q,acc,t,h,_=>⟨yN q,by simp[YZ],by rw[h.flush],by rw[h.flush];simp⟩
 | [],0,q,acc,t,h,hn=>by simp at hn
 | c::s,0,q,acc,t,h,hn=>by simp at hn
 | c::s,n+1,q,acc,t,h,hn=>by
  rw[List.flatMap_cons] at hn ⊢
  rw[ZJ]
  rw[Al5] at hn
  by_cases h1:c=34∨c=92
  ·have e:qB c=[92,c]:=by unfold qB;rw[if_pos h1]
   rw[e] at hn ⊢
   simp only[Al2,Al3] at hn
   simp only[Al6,Zg,YZ]
   rw[if_neg (by decide),if_pos trivial,zwL h c h1]
   obtain⟨q',h2,h3,h4⟩:=zkA may hm s n (q.put c) (acc++[c]) t (h.put c) (by omega)
   exact⟨q',h2,h3,by rw[h4];simp⟩
  ·by_cases h2:c.toNat<32
   ·have e:qB c=[92,117,48,48,hexL.getD (c.toNat / 16) 0,hexL.getD (c.toNat % 16) 0]:=by unfold qB;rw[if_neg h1,if_pos h2]
    rw[e] at hn ⊢
    simp only[Al2,Al3] at hn
    simp only[Al6,Zg,YZ]
    rw[if_neg (by decide),if_pos trivial,zvV q c h2]
    obtain⟨q',h2',h3,h4⟩:=zkA may hm s n _ (acc++[UInt8.ofNat c.toNat]) t (h.unit (by omega)) (by omega)
    exact⟨q',h2',h3,by rw[h4];simp⟩
   ·have e:qB c=[c]:=by unfold qB;rw[if_neg h1,if_neg h2]
    rw[e] at hn ⊢
    simp only[Al2,Al3] at hn
    simp only[Al6,Zg,YZ]
    rw[if_neg (fun e=>h1 (.inl e)),if_neg (fun e=>h1 (.inr e)),if_pos (hm c (by omega))]
    obtain⟨q',h2',h3,h4⟩:=zkA may hm s n (q.put c) (acc++[c]) t (h.put c) (by omega)
    exact⟨q',h2',h3,by rw[h4];simp⟩
theorem zvz (s t:List UInt8):YJ hiB (s.flatMap qB++34::t)=some (s,t):=by
 unfold YJ
 obtain⟨q',h1,h2,h3⟩:=zkA hiB (fun c h=>by simp[hiB,h]) s ((s.flatMap qB++34::t).length+1) ⟨[],[],true⟩ [] t ⟨rfl,by simp,rfl⟩ (by simp only[Al5,Al2];omega)
 rw[h1]
 simp only[h2,if_true,h3,Zg]
theorem zwU:bk 34=false:=by decide
theorem zaz {c:UInt8} {t:List UInt8} (h:bk c=false):skB (c::t)=c::t:=by rw[skB,h];rfl
theorem zo3 (s t:List UInt8):zoK (zcf s++t)=.ok (s,t):=by
 unfold zoK zcf
 rw[Al6,zaz zwU,ZJ,if_pos (by simp[List.isPrefixOf])]
 simp only[List.tail_cons,Al6,Zg]
 rw[zvz]
theorem zoT (c:UInt8):isD c=true→nch c=true:=zeH (P:=fun c=>isD c=true→nch c=true) (by decide +kernel) c
theorem zvX (c:UInt8):isE c=true→nch c=true:=zeH (P:=fun c=>isE c=true→nch c=true) (by decide +kernel) c
theorem zwH (c:UInt8):isD c=true→nst c=true:=zeH (P:=fun c=>isD c=true→nst c=true) (by decide +kernel) c
theorem zbI (c:UInt8):nst c=true→bk c=false∧c≠123∧c≠91∧c≠34∧c≠93∧c≠125∧c.toNat<128:=zeH (P:=fun c=>nst c=true→bk c=false∧c≠123∧c≠91∧c≠34∧c≠93∧c≠125∧c.toNat<128) (by decide +kernel) c
theorem zdK:∀(l:List UInt8) (c:UInt8),c∈l.take (yi l)→isD c=true
 | [],c,h=>by simp at h
 | x::l,c,h=>by
  rw[yi] at h
  split at h
  ·rename_i hx
   rw[zbV] at h
   rcases List.mem_cons.1 h with e|e
   ·rw[e];exact hx
   ·exact zdK l c e
  ·simp at h
theorem zp1 {l:List UInt8} {a b:Nat} (h:a≤b) {c:UInt8} (hc:c∈l.take a):c∈l.take b :=
 (List.take_prefix_take_left h).subset hc
theorem zrV (s:List UInt8):Ym s≤yi s:=by unfold Ym;split<;>(try split)<;>omega
theorem zi4 {l:List UInt8} {c:UInt8} (h:c∈l.take (Ym l)):isD c=true:=zdK l c (zp1 (zrV l) h)
theorem zll {s:List UInt8} {c:UInt8} (h:c∈s.take (zU s)):nch c=true:=by
 by_cases h45:s.head?=some 45
 ·cases s with
  | nil=>simp at h
  | cons x t =>
   have hx:x=45:=by simpa using h45
   subst hx
   rw[zab] at h
   by_cases h0:yi t=0
   ·rw[if_pos h0] at h;simp at h
   ·rw[if_neg h0,Nat.add_comm,zbV] at h
    rcases List.mem_cons.1 h with e|e
    ·rw[e];decide
    ·exact zoT c (zi4 e)
 ·rw[ZZ h45] at h
  exact zoT c (zi4 h)
theorem znw {s:List UInt8} {c:UInt8} (h:c∈s.take (Zi s)):nch c=true:=by
 unfold Zi at h
 split at h
 ·rename_i h46
  cases s with
  | nil=>simp at h
  | cons x t =>
   have hx:x=46:=by simpa using h46.1
   subst hx
   simp only[List.tail_cons] at h
   rw[Nat.add_comm,zbV] at h
   rcases List.mem_cons.1 h with e|e
   ·rw[e];decide
   ·exact zoT c (zdK _ c e)
 ·simp at h
theorem znq {s:List UInt8} (h:zU s≠0):∃ c t,s=c::t∧nst c=true:=by
 cases s with
 | nil=>exact absurd (by decide) h
 | cons c t =>
  refine⟨c,t,rfl,?_⟩
  by_cases hc:c=45
  ·rw[hc];decide
  ·rw[ZZ (by simpa using hc)] at h
   apply zwH
   cases hd:isD c with
   | true=>rfl
   | false=>exact absurd (by simp[Ym,yi,hd]) h
theorem zqx {r:List UInt8} {c:UInt8} (h:c∈r.take (sgN r)):nch c=true:=by
 unfold sgN at h
 split at h
 ·rename_i hs
  cases r with
  | nil=>simp at h
  | cons x t =>
   simp only[List.head?_cons,Al1] at hs
   simp at h
   subst h
   rcases hs with rfl|rfl<;>decide
 ·simp at h
theorem zpu:∀(s:List UInt8) (c:UInt8),c∈s.take (zaa s)→nch c=true
 | [],c,h=>by simp at h
 | x::r,c,h=>by
  rw[zaa] at h
  split at h
  ·rename_i hx
   split at h
   ·simp at h
   ·rw[Nat.add_assoc,Nat.add_comm,zbV] at h
    rcases List.mem_cons.1 h with e|e
    ·rw[e];exact zvX x hx
    ·rw[List.take_add] at e
     rcases List.mem_append.1 e with e|e
     ·exact zqx e
     ·exact zoT c (zdK _ c e)
  ·simp at h
theorem zbK {s:List UInt8} (h:Z1 s≠0):(∀ c∈s,nch c=true)∧∃ c t,s=c::t∧nst c=true:=by
 unfold Z1 at h
 split at h
 ·rename_i hl
  unfold yB at h hl
  split at h
  ·exact absurd rfl h
  ·rename_i hw
   rw[if_neg hw] at hl
   simp only at hl
   refine⟨fun c hc=>?_,znq hw⟩
   have e:s=s.take (zU s+Zi (s.drop (zU s))+zaa (s.drop (zU s+Zi (s.drop (zU s))))):=by rw[hl,List.take_length]
   rw[e,List.take_add,List.take_add] at hc
   rcases List.mem_append.1 hc with hc|hc
   ·rcases List.mem_append.1 hc with hc|hc
    ·exact zll hc
    ·exact znw hc
   ·exact zpu _ _ hc
 ·exact absurd rfl h
def NoN (r:List UInt8):Prop:=∀ c,r.head?=some c→nch c=false
theorem takeN:∀(s r:List UInt8),(∀ c∈s,nch c=true)→NoN r→(s++r).takeWhile nch=s∧(s++r).dropWhile nch=r
 | [],[],_,_=>⟨rfl,rfl⟩
 | [],c::r,_,h=>by
  have:=h c rfl
  simp[this]
 | c::s,r,h,hr=>by
  have h1:=takeN s r (fun x hx=>h x (.tail _ hx)) hr
  have h2:=h c (.head _)
  simp[h2,h1]
theorem zr3 {s r:List UInt8} (h:Z1 s≠0) (hr:NoN r):zs7 (s++r)=.ok (zcL s,r):=by
 have h1:=takeN s r (zbK h).1 hr
 unfold zs7
 rw[h1.1,h1.2,if_neg h]
theorem ztj {u:Nat} {c:UInt8} (h:c∈decDigits u):isD c=true:=by
 have:=zbG u c h
 simp[isD,this]
theorem zlq:∀ l:List UInt8,(∀ c∈l,isD c=true)→yi l=l.length
 | [],_=>rfl
 | c::l,h=>by
  rw[yi,if_pos (h c (.head _)),zlq l fun x hx=>h x (.tail _ hx)];rfl
theorem zlN (u:Nat):∃ c t,decDigits u=c::t∧(c=48→t=[]):=by
 induction u using Nat.strongRecOn with
 | _ u ih =>
  rw[decDigits]
  split
  ·exact⟨_,[],rfl,fun _=>rfl⟩
  ·rename_i h
   obtain⟨c,t,h1,h2⟩:=ih (u / 10) (by omega)
   refine⟨c,t++[UInt8.ofNat (48+u % 10)],by rw[h1];rfl,fun e=>?_⟩
   have ht:=h2 e
   subst e;subst ht
   rw[decDigits] at h1
   split at h1
   ·rename_i h3
    have h4:=congrArg UInt8.toNat (List.cons.inj h1).1
    rw[zl7 h3] at h4
    have:(48:UInt8).toNat=48:=rfl
    omega
   ·have:=congrArg List.length h1
    have h5:=zaR (u / 10 / 10)
    cases hd:decDigits (u / 10 / 10) with
    | nil=>exact absurd hd h5
    | cons a b=>rw[hd] at this;simp at this
theorem zhN (u:Nat):Ym (decDigits u)=(decDigits u).length∧yi (decDigits u)≠0:=by
 have h1:=zlq (decDigits u) fun c hc=>ztj hc
 obtain⟨c,t,h2,h3⟩:=zlN u
 have h4:yi (decDigits u)≠0:=by rw[h1,h2];simp
 refine⟨?_,h4⟩
 unfold Ym
 rw[if_neg h4]
 split
 ·rename_i h5
  rw[h2] at h5 ⊢
  rw[h3 (by simpa using h5)];rfl
 ·exact h1
theorem zfI (n:Int):Z1 (itoa n)=3:=by
 have key:∀ s:List UInt8,zU s=s.length→s≠[]→Z1 s=3:=fun s h h0=>by
  have hl:s.length≠0:=fun e=>h0 (zap.1 e)
  have e1:Zi ([]:List UInt8)=0:=by decide
  have hn:yB s=(s.length,3):=by
   unfold yB
   rw[if_neg (by omega)]
   simp[h,e1,zaa]
  unfold Z1;rw[hn];simp
 unfold itoa
 split
 ·refine key _ ?_ (by simp)
  rw[zab,if_neg (zhN _).2,(zhN _).1];simp;omega
 ·refine key _ ?_ (zaR _)
  obtain⟨c,t,h2,h3⟩:=zlN n.toNat
  have h5:¬ (decDigits n.toNat).head?=some 45:=by
   rw[h2];simp
   intro e;subst e
   have:=zbG n.toNat 45 (by rw[h2];simp)
   have e:(45:UInt8).toNat=45:=rfl
   omega
  rw[ZZ h5,(zhN _).1]
theorem zd9 {n:Int} {s:List UInt8} {l:List Val} {m:List Mem}:zbq n s l m=true↔n=0∧s=[]∧l=[]∧m=[]:=by
 simp[zbq]
inductive JS:Val→Prop
 | null:JS (.mk 0 0 [] [] [])
 | bool (n:Int) (h:n=0∨n=1):JS (.mk 1 n [] [] [])
 | int (n:Int):JS (.mk 2 n [] [] [])
 | num (s:List UInt8) (h:zet s=true):JS (.mk 3 0 s [] [])
 | text (s:List UInt8) (h:validD s=true):JS (.mk 4 0 s [] [])
 | list (l:List Val) (h:Y1 validD l=true) (h':zeg l=true):JS (.mk 6 0 [] l [])
 | obj (m:List Mem) (h:zaO validD m=true) (h':zch [] m=true):JS (.mk 7 0 [] [] m)
theorem zqg:∀ v,za6 v=true→JS v
 | .mk k n s l m,h=>by
  simp only[za6,zlA,zaD,zol,Al0,Bool.not_eq_true',Bool.or_eq_false_iff,decide_eq_false_iff_not] at h
  obtain⟨h,⟨h5,h8⟩,hl,hm⟩:=h
  split at h
  ·rename_i k6
   subst k6
   simp only[Al0,zd9] at h
   obtain⟨h1,rfl,rfl,_,rfl⟩:=h
   exact .list l h1 hl
  ·split at h
   ·rename_i k7
    subst k7
    simp only[Al0,zd9] at h
    obtain⟨h1,rfl,rfl,rfl,_⟩:=h
    exact .obj m h1 hm
   ·simp only[yr,Al0,zd9] at h
    obtain⟨⟨_,_,rfl,rfl⟩,h⟩:=h
    split at h
    ·rename_i k0
     subst k0
     simp only[Al0,zL] at h
     obtain⟨rfl,rfl⟩:=h
     exact .null
    split at h
    ·rename_i k0
     subst k0
     simp only[Al0,Z0,zL] at h
     obtain⟨h,rfl⟩:=h
     exact .bool n h
    split at h
    ·rename_i k0
     subst k0
     simp only[zL] at h
     subst h
     exact .int n
    split at h
    ·rename_i k0
     subst k0
     simp only[Al0,zL] at h
     obtain⟨rfl,h⟩:=h
     exact .num s h
    split at h
    ·rename_i k0
     subst k0
     simp only[Al0,zL] at h
     obtain⟨rfl,h⟩:=h
     exact .text s h
    ·cases h
theorem zoW {s:List UInt8} (h:zet s=true):Z1 s≠0∧ZS s=false:=by
 simp only[zet,Z0,zL,Al0,Bool.not_eq_true'] at h
 rcases h with h|⟨h,h2⟩
 ·exact⟨by omega,by simp[ZS,h]⟩
 ·exact⟨by omega,h2⟩
theorem zey {n:Int} (h:inR n):ZS (itoa n)=true∧zix (itoa n)=n:=by
 have h1:=zhV n h.1 h.2
 exact⟨by simp[ZS,h1,okI,zfI],by simp[zix,h1]⟩
theorem zdO {k:Nat} {c:UInt8} {t:List UInt8} (h0:bk c=false) (h1:c≠123) (h2:c≠91):∃ p,zeF k (c::t)=zbL (c::t) p:=by
 cases k with
 | zero=>exact⟨zuw,by simp only[zeF,zaz h0];rw[if_neg (by simp[h1,h2])]⟩
 | succ n=>exact⟨zeF n,by simp only[zeF,zaz h0]⟩
theorem zrO {v:Val} (h:za6 v=true):∃ c t,YC v=c::t∧bk c=false∧c≠93∧c≠125∧c≠44:=by
 cases zqg v h with
 | null=>exact⟨110,[117,108,108],by simp[YC],by decide,by decide,by decide,by decide⟩
 | bool n h1 =>
  rcases h1 with rfl|rfl
  ·exact⟨102,[97,108,115,101],by simp[YC,boolT],by decide,by decide,by decide,by decide⟩
  ·exact⟨116,[114,117,101],by simp[YC,boolT],by decide,by decide,by decide,by decide⟩
 | int n =>
  obtain⟨c,t,h1,h2⟩:=(zbK (s:=itoa n) (by rw[zfI];decide)).2
  have h3:=zbI c h2
  refine⟨c,t,by simpa[YC] using h1,h3.1,h3.2.2.2.2.1,h3.2.2.2.2.2.1,fun e=>?_⟩
  subst e;revert h2;decide
 | num s hb =>
  obtain⟨c,t,h1,h2⟩:=(zbK (zoW hb).1).2
  have h3:=zbI c h2
  refine⟨c,t,by simpa[YC] using h1,h3.1,h3.2.2.2.2.1,h3.2.2.2.2.2.1,fun e=>?_⟩
  subst e;revert h2;decide
 | text s hb=>exact⟨34,s.flatMap qB++[34],by simp[YC,zcf],by decide,by decide,by decide,by decide⟩
 | list l h1 h2=>exact⟨91,Yz true l++[93],by simp[YC],by decide,by decide,by decide,by decide⟩
 | obj m h1 h2=>exact⟨123,Yy true m++[125],by simp[YC],by decide,by decide,by decide,by decide⟩
theorem zgL {x c:UInt8} {t:List UInt8} (h:bk c=false) (hx:x≠c):zd1 [x] (c::t)=none:=by
 unfold zd1;rw[zaz h,if_neg (by simp[List.isPrefixOf,hx])]
theorem zcU {c:UInt8} {t:List UInt8} (h:bk c=false):zd1 [c] (c::t)=some t:=by
 unfold zd1;rw[zaz h,if_pos (by simp[List.isPrefixOf])];rfl
theorem zft {c:UInt8} {t:List UInt8} (h:bk c=false):zgc [c] (c::t)=.ok ((),t):=by
 unfold zgc;rw[zcU h]
theorem zc8 (n:Int):∀(l:List Val) (a:Int),(yW l a≤n↔a≤n∧∀ v∈l,zN v≤n)
 | [],a=>by simp[yW]
 | v::l,a=>by
  rw[yW,zc8 n l]
  have:mm2 true a (zN v)≤n↔a≤n∧zN v≤n:=by simp only[mm2,if_true];split<;>omega
  rw[this];simp[and_assoc]
theorem zgd (n:Int):∀(l:List Mem) (a:Int),(yV l a≤n↔a≤n∧∀ v∈l,yZ v≤n)
 | [],a=>by simp[yV]
 | v::l,a=>by
  rw[yV,zgd n l]
  have:mm2 true a (yZ v)≤n↔a≤n∧yZ v≤n:=by simp only[mm2,if_true];split<;>omega
  rw[this];simp[and_assoc]
theorem zau {c:UInt8} {t:List UInt8} (h:nch c=false):NoN (c::t):=fun x hx=>by
 cases hx;exact h
theorem zmp (s:List UInt8):∀ l:List Mem,ztw s l=(l.map nmM).contains s
 | []=>rfl
 | .mk t v::l=>by
  rw[ztw,zmp s l]
  by_cases h:t=s
  ·simp[h,nmM]
  ·simp[h,nmM,Ne.symm h]
def zi2 (n:Nat) (v:Val):Prop:=∀ r,NoN r→zeF n (YC v++r)=if zN v≤n then .ok (v,r) else .error 4
theorem zh9 (n:Nat):∀(l acc:List Val) (fuel:Nat) (r:List UInt8),(∀ v∈l,zi2 n v)→(Yz false l).length<fuel →
  zh4 (zeF n) fuel acc (Yz false l++93::r)=if (∀ v∈l,zN v≤n) then .ok (acc++l,r) else .error 4
 | _,_,0,_,_,h=>by omega
 | [],acc,fuel+1,r,_,_=>by
  simp only[Yz,Zg,zh4,zcU (show bk 93=false by decide)]
  simp
 | v::l,acc,fuel+1,r,hv,hf=>by
  have hf':(Yz false l).length<fuel:=by
   simp only[Yz,Al7,if_false,Al5,Al2,Al3] at hf;omega
  have e:Yz false (v::l)++93::r=44::(YC v++(Yz false l++93::r)):=by simp[Yz]
  have hN:NoN (Yz false l++93::r):=by
   cases l with
   | nil=>exact zau (by decide)
   | cons w l=>exact zau (by decide)
  rw[e,zh4,zgL (show bk 44=false by decide) (by decide)]
  simp only[zft (show bk 44=false by decide),RR.bind,hv v (.head _) _ hN]
  by_cases hd:zN v≤n
  ·rw[if_pos hd]
   simp only
   rw[zh9 n l (acc++[v]) fuel r (fun x hx=>hv x (.tail _ hx)) hf']
   simp[hd]
  ·rw[if_neg hd]
   rw[if_neg (fun h=>hd (h v (.head _)))]
theorem zp2 (n:Nat) (l:List Val) (r:List UInt8) (hv:∀ v∈l,zi2 n v) (hh:∀ v∈l,za6 v=true) :
  zoh (zeF n) (Yz true l++93::r)=if (∀ v∈l,zN v≤n) then .ok (.mk 6 0 [] l [],r) else .error 4:=by
 cases l with
 | nil=>simp only[Yz,Zg,zoh,zcU (show bk 93=false by decide)];simp
 | cons v l =>
  have e:Yz true (v::l)++93::r=YC v++(Yz false l++93::r):=by simp[Yz]
  have hN:NoN (Yz false l++93::r):=by
   cases l with
   | nil=>exact zau (by decide)
   | cons w l=>exact zau (by decide)
  obtain⟨c,t,h1,h2,h3,h4⟩:=zrO (hh v (.head _))
  have hm:zd1 [93] (YC v++(Yz false l++93::r))=none:=by rw[h1];exact zgL h2 (Ne.symm h3)
  rw[e,zoh,hm]
  simp only[RR.bind,hv v (.head _) _ hN]
  by_cases hd:zN v≤n
  ·rw[if_pos hd]
   simp only
   rw[zh9 n l [v] _ r (fun x hx=>hv x (.tail _ hx)) (by simp only[Al5,Al2];omega)]
   by_cases ha:∀ v∈l,zN v≤n
   ·rw[if_pos ha,if_pos (fun x hx=>by rcases List.mem_cons.1 hx with e|e;exact e▸hd;exact ha x e)]
    rfl
   ·rw[if_neg ha,if_neg (fun h=>ha fun x hx=>h x (.tail _ hx))]
  ·rw[if_neg hd]
   rw[if_neg (fun h=>hd (h v (.head _)))]
theorem zge {n:Nat} {s:List UInt8} {v:Val} {acc:List Mem} {r:List UInt8} (hv:zi2 n v) (hr:NoN r) (hs:(acc.map nmM).contains s=false) :
  zg4 (zeF n) acc (znI (.mk s v)++r)=if zN v≤n then .ok (acc++[.mk s v],r) else .error 4:=by
 have e:znI (.mk s v)++r=zcf s++(58::(YC v++r)):=by simp[znI]
 rw[e,zg4,zo3]
 simp only[RR.bind]
 rw[zmp,hs]
 simp only[Al7,if_false,zft (show bk 58=false by decide),hv r hr]
 by_cases hd:zN v≤n
 ·rw[if_pos hd,if_pos hd]
 ·rw[if_neg hd,if_neg hd]
theorem zfe (n:Nat):∀(l acc:List Mem) (fuel:Nat) (r:List UInt8),(∀ s v,Mem.mk s v∈l→zi2 n v)→zch (acc.map nmM) l=true→(Yy false l).length<fuel →
  zdu (zeF n) fuel acc (Yy false l++125::r)=if (∀ x∈l,yZ x≤n) then .ok (acc++l,r) else .error 4
 | _,_,0,_,_,_,h=>by omega
 | [],acc,fuel+1,r,_,_,_=>by
  simp only[Yy,Zg,zdu,zcU (show bk 125=false by decide)]
  simp
 | .mk s v::l,acc,fuel+1,r,hv,hs,hf=>by
  have hf':(Yy false l).length<fuel:=by
   simp only[Yy,Al7,if_false,Al5,Al2,Al3] at hf;omega
  have e:Yy false (.mk s v::l)++125::r=44::(znI (.mk s v)++(Yy false l++125::r)):=by simp[Yy]
  have hN:NoN (Yy false l++125::r):=by
   cases l with
   | nil=>exact zau (by decide)
   | cons w l=>exact zau (by decide)
  simp only[zch,nmM,Al0,Bool.not_eq_true'] at hs
  obtain⟨hs1,_,hs2⟩:=hs
  rw[e,zdu,zgL (show bk 44=false by decide) (by decide)]
  simp only[zft (show bk 44=false by decide),RR.bind,zge (hv s v (.head _)) hN hs1]
  by_cases hd:zN v≤n
  ·rw[if_pos hd]
   simp only
   rw[zfe n l (acc++[Mem.mk s v]) fuel r (fun s v hx=>hv s v (.tail _ hx)) (by simpa[nmM] using hs2) hf']
   simp[hd,yZ]
  ·rw[if_neg hd]
   rw[if_neg (fun h=>hd (by have:=h _ (.head _);simpa[yZ] using this))]
theorem zsm (n:Nat) (l:List Mem) (r:List UInt8) (hv:∀ s v,Mem.mk s v∈l→zi2 n v) (hs:zch [] l=true) :
  mapM (zeF n) (Yy true l++125::r)=if (∀ x∈l,yZ x≤n) then .ok (.mk 7 0 [] [] l,r) else .error 4:=by
 cases l with
 | nil=>simp only[Yy,Zg,mapM,zcU (show bk 125=false by decide)];simp
 | cons x l =>
  obtain⟨s,v⟩:=x
  have e:Yy true (.mk s v::l)++125::r=znI (.mk s v)++(Yy false l++125::r):=by simp[Yy]
  have hN:NoN (Yy false l++125::r):=by
   cases l with
   | nil=>exact zau (by decide)
   | cons w l=>exact zau (by decide)
  simp only[zch,nmM,Al0,Bool.not_eq_true',Zg] at hs
  obtain⟨hs1,_,hs2⟩:=hs
  have hm:zd1 [125] (znI (.mk s v)++(Yy false l++125::r))=none:=zgL (c:=34) (by decide) (by decide)
  rw[e,mapM,hm]
  simp only[RR.bind,zge (acc:=[]) (hv s v (.head _)) hN rfl]
  by_cases hd:zN v≤n
  ·rw[if_pos hd]
   simp only
   rw[zfe n l ([]++[Mem.mk s v]) _ r (fun s v hx=>hv s v (.tail _ hx)) (by simpa[nmM] using hs2) (by simp only[Al5,Al2];omega)]
   by_cases ha:∀ v∈l,yZ v≤n
   ·rw[if_pos ha,if_pos (fun x hx=>by rcases List.mem_cons.1 hx with e|e;rw[e];exact hd;exact ha x e)]
    rfl
   ·rw[if_neg ha,if_neg (fun h=>ha fun x hx=>h x (.tail _ hx))]
  ·rw[if_neg hd]
   rw[if_neg (fun h=>hd (by have:=h _ (.head _);simpa[yZ] using this))]
theorem zgu:∀ {l:List Val},Y1 validD l=true→zeg l=true→∀ v∈l,za6 v=true
 | v::l,h,h',x,hx=>by
  simp only[Y1,zeg,Al0] at h h'
  rcases List.mem_cons.1 hx with e|e
  ·subst e;simp[za6,zlA,h.1,h'.1]
  ·exact zgu h.2 h'.2 x e
theorem zhw:∀ {l:List Mem} {ns:List (List UInt8)},zaO validD l=true→zch ns l=true→∀ s v,Mem.mk s v∈l→validD s=true∧za6 v=true
 | .mk t w::l,ns,h,h',s,v,hx=>by
  simp only[zaO,zk0,zch,zua,nmM,Al0] at h h'
  rcases List.mem_cons.1 hx with e|e
  ·cases e;exact⟨h.1.1,by simp[za6,zlA,h.1.2,h'.2.1]⟩
  ·exact zhw h.2 h'.2.2 s v e
theorem zpm (r:List UInt8) (p):zbL (110::117::108::108::r) p=.ok (zuc,r):=by
 simp only[zbL]
 rw[if_neg (by decide),if_neg (by decide),if_neg (by decide),if_neg (by decide)]
 simp only[zmC,zd1,zaz (show bk 110=false by decide)]
 rw[if_pos (by simp[List.isPrefixOf])];rfl
theorem zpe (b:Bool) (r:List UInt8) (p):zbL (boolT b++r) p=.ok (.mk 1 (if b then 1 else 0) [] [] [],r):=by
 cases b
 ·simp only[boolT,Al7,if_false,Al6,Zg,zbL]
  rw[if_neg (by decide),if_neg (by decide),if_neg (by decide),if_neg (by decide)]
  simp only[zmC,zgc,zd1,zaz (show bk 102=false by decide)]
  rw[if_neg (by simp[List.isPrefixOf]),if_neg (by simp[List.isPrefixOf]),if_pos (by simp[List.isPrefixOf])];rfl
 ·simp only[boolT,if_true,Al6,Zg,zbL]
  rw[if_neg (by decide),if_neg (by decide),if_neg (by decide),if_neg (by decide)]
  simp only[zmC,zgc,zd1,zaz (show bk 116=false by decide)]
  rw[if_neg (by simp[List.isPrefixOf]),if_pos (by simp[List.isPrefixOf])];rfl
theorem zjH {c:UInt8} {t:List UInt8} (h:nst c=true) (p):zbL (c::t) p=zs7 (c::t):=by
 have h3:=zbI c h
 simp only[zbL]
 rw[if_neg h3.2.1,if_neg h3.2.2.1,if_neg h3.2.2.2.1,if_pos h]
theorem back:∀ v,za6 v=true→wfV v→∀ n,zi2 n v:=by
 refine Val.ind fun k n s l m ihl ihm h hwf q r hr=>?_
 obtain⟨hn,hwl,hwm⟩:=hwf
 have flat:∀ {v:Val},zN v=0→zN v≤(q:Int):=fun e=>by rw[e];omega
 generalize hv:Val.mk k n s l m=v at h
 cases zqg v h with
 | null =>
  rw[if_pos (flat (by simp[zN]))]
  have e:YC (.mk 0 0 [] [] [])++r=110::117::108::108::r:=by simp[YC]
  rw[e]
  obtain⟨p,hp⟩:=zdO (k:=q) (c:=110) (t:=117::108::108::r) (by decide) (by decide) (by decide)
  rw[hp,zpm];rfl
 | bool b hb =>
  rw[if_pos (flat (by simp[zN]))]
  have e:YC (.mk 1 b [] [] [])++r=boolT (decide (b=1))++r:=by simp[YC]
  rw[e]
  have h1:=zpe (decide (b=1)) r
  have e1:(if decide (b=1)=true then (1:Int) else 0)=b:=by rcases hb with rfl|rfl<;>decide
  rw[e1] at h1
  rcases hb with rfl|rfl
  ·obtain⟨p,hp⟩:=zdO (k:=q) (c:=102) (t:=97::108::115::101::r) (by decide) (by decide) (by decide)
   exact hp.trans (h1 p)
  ·obtain⟨p,hp⟩:=zdO (k:=q) (c:=116) (t:=114::117::101::r) (by decide) (by decide) (by decide)
   exact hp.trans (h1 p)
 | int b =>
  rw[if_pos (flat (by simp[zN]))]
  have e:YC (.mk 2 b [] [] [])++r=itoa b++r:=by simp[YC]
  rw[e]
  have hb:inR b:=by cases hv;exact hn
  have h0:Z1 (itoa b)≠0:=by rw[zfI];decide
  have h1:=zr3 h0 hr
  obtain⟨c,t,h2,h3⟩:=(zbK h0).2
  have h4:=zbI c h3
  rw[h2] at h1 ⊢
  obtain⟨p,hp⟩:=zdO (k:=q) (c:=c) (t:=t++r) h4.1 h4.2.1 h4.2.2.1
  rw[Al6] at h1 ⊢
  rw[hp,zjH h3,h1,← h2]
  simp[zcL,zey hb]
 | num s hs =>
  rw[if_pos (flat (by simp[zN]))]
  have e:YC (.mk 3 0 s [] [])++r=s++r:=by simp[YC]
  rw[e]
  have h0:=zoW hs
  have h1:=zr3 h0.1 hr
  obtain⟨c,t,h2,h3⟩:=(zbK h0.1).2
  have h4:=zbI c h3
  have e2:zcL s=.mk 3 0 s [] []:=by simp[zcL,h0.2]
  rw[e2] at h1
  subst h2
  obtain⟨p,hp⟩:=zdO (k:=q) (c:=c) (t:=t++r) h4.1 h4.2.1 h4.2.2.1
  rw[Al6] at h1 ⊢
  rw[hp,zjH h3,h1]
 | text s hs =>
  rw[if_pos (flat (by simp[zN]))]
  have e:YC (.mk 4 0 s [] [])++r=zcf s++r:=by simp[YC]
  rw[e]
  have h1:=zo3 s r
  have e2:zcf s++r=34::(s.flatMap qB++[34]++r):=by simp[zcf]
  rw[e2] at h1 ⊢
  obtain⟨p,hp⟩:=zdO (k:=q) (c:=34) (t:=s.flatMap qB++[34]++r) (by decide) (by decide) (by decide)
  rw[hp]
  simp only[zbL]
  rw[if_neg (by decide),if_neg (by decide),if_pos trivial,h1];rfl
 | list l' h1 h2 =>
  cases hv
  have e:YC (.mk 6 0 [] l [])++r=91::(Yz true l++93::r):=by simp[YC]
  have ed:zN (.mk 6 0 [] l [])=yW l 0+1:=by simp[zN]
  rw[e,ed]
  have h3:=zgu h1 h2
  have h4:=(zc8 0 l 0)
  cases q with
  | zero =>
   have h5:(0:Int)≤yW l 0:=(zcx l 0).1
   rw[if_neg (by simp;omega)]
   simp only[zeF,zaz (show bk 91=false by decide)]
   rw[if_pos (by simp)]
  | succ q =>
   simp only[zeF,zaz (show bk 91=false by decide),zbL]
   rw[if_neg (by decide),if_pos trivial,zp2 q l r (fun v hx=>ihl v hx (h3 v hx) (zeJ hwl v hx) q) h3]
   have h5:=zc8 (q:Int) l 0
   by_cases ha:∀ v∈l,zN v≤(q:Int)
   ·rw[if_pos ha,if_pos (by have:=h5.2 ⟨by omega,ha⟩;simp;omega)]
   ·rw[if_neg ha,if_neg (fun h6=>ha (h5.1 (by simp at h6;omega)).2)]
 | obj l' h1 h2 =>
  cases hv
  have e:YC (.mk 7 0 [] [] m)++r=123::(Yy true m++125::r):=by simp[YC]
  have ed:zN (.mk 7 0 [] [] m)=yV m 0+1:=by simp[zN]
  rw[e,ed]
  have h3:=zhw h1 h2
  cases q with
  | zero =>
   have h5:(0:Int)≤yV m 0:=(zcb m 0).1
   rw[if_neg (by simp;omega)]
   simp only[zeF,zaz (show bk 123=false by decide)]
   rw[if_pos (by simp)]
  | succ q =>
   simp only[zeF,zaz (show bk 123=false by decide),zbL]
   rw[if_pos trivial,zsm q m r (fun s v hx=>ihm s v hx (h3 s v hx).2 (zbP hwm s v hx) q) h2]
   have h5:=zgd (q:Int) m 0
   by_cases ha:∀ v∈m,yZ v≤(q:Int)
   ·rw[if_pos ha,if_pos (by have:=h5.2 ⟨by omega,ha⟩;simp;omega)]
   ·rw[if_neg ha,if_neg (fun h6=>ha (h5.1 (by simp at h6;omega)).2)]
theorem zgb {s:List UInt8} (h:∀ c∈s,c.toNat<128):validD s=true:=by
 have:=validD_ascii s.length s (fun b hb=>h b (List.mem_of_mem_take hb))
 rw[this,List.drop_length];rfl
end Go.Proofs.YticbbfbpeimkbaaGreatDoor
namespace Go.Proofs.YticbbfbpeimkbaaGreatDoor
open Go.Ab
theorem Yi (x:Tok) (t:TS):hdT (x::t)=x:=rfl
theorem zao (m:List UInt8) (x:Tok) (t:TS):isP m (x::t)=(decide (x.k=1)&&decide (x.s=m)):=rfl
theorem zrS (m:List UInt8) (x:Tok) (t:TS):isW m (x::t)=(decide (x.k=2)&&decide (x.s=m)):=rfl
theorem yF (m n:List UInt8) (t:TS):isP m (pk n::t)=decide (n=m):=by simp[zao,pk]
theorem zcB (m n:List UInt8) (t:TS):isP m (wk n::t)=false:=by simp[zao,wk]
theorem zfw (m n:List UInt8) (t:TS):isW m (wk n::t)=decide (n=m):=by simp[zrS,wk]
theorem zc2 (m:List UInt8) (t:TS):ZY m (pk m::t)=.ok ((),t):=by simp[ZY,yF]
theorem Zs (s:List UInt8) (t:TS):yT (wk s::t)=.ok (s,t):=by simp[yT,Yi,wk]
theorem zcA {α:Type} {tk:α→List Tok} {m:List UInt8} {f:TS→PR α} {F:TS→Prop} (hF2:∀ t,F (pk m::t)):∀(l:List α),(∀ x∈l,∀ t,F (tk x++t))→(∀ x∈l,∀ t,isP m (tk x++t)=false)→(∀ x∈l,∀ t,F t→f (tk x++t)=.ok (x,t)) →
  ∀(n:Nat) (acc:List α) (t:TS),l.length<n→yA m f n acc (l.flatMap tk++pk m::t)=.ok (acc++l,t)
 | [],_,_,_,n+1,acc,t,_=>by simp[yA,yF]
 | x::l,h1,h2,h3,n+1,acc,t,hn=>by
  have e:(x::l).flatMap tk++pk m::t=tk x++(l.flatMap tk++pk m::t):=by simp
  have hF:F (l.flatMap tk++pk m::t):=by
   cases l with
   | nil=>exact hF2 t
   | cons y l=>simp only[List.flatMap_cons,ZJ];exact h1 y (by simp) _
  rw[e,yA,h2 x (by simp),h3 x (by simp) _ hF]
  simp only[Al7,if_false,pb]
  rw[zcA hF2 l (fun y hy=>h1 y (by simp[hy])) (fun y hy=>h2 y (by simp[hy])) (fun y hy=>h3 y (by simp[hy])) n _ t (by simpa using hn)]
  simp
theorem Y5 {α:Type} {tk:α→List Tok}:∀(l:List α),(∀ x∈l,tk x≠[])→l.length≤(l.flatMap tk).length
 | [],_=>by simp
 | x::l,h=>by
  have h1:=List.length_pos_iff.2 (h x (by simp))
  have h2:=Y5 l fun y hy=>h y (by simp[hy])
  simp only[List.flatMap_cons,Al5,Al2];omega
theorem zcR {α:Type} {tk:α→List Tok} {m:List UInt8} {f:TS→PR α} {F:TS→Prop} (hF2:∀ t,F (pk m::t)) (l:List α) (hl:l≠[]) (h1:∀ x∈l,∀ t,F (tk x++t)) (h2:∀ x∈l,∀ t,isP m (tk x++t)=false) (h3:∀ x∈l,∀ t,F t→f (tk x++t)=.ok (x,t))
  (t:TS):zaA m f (l.flatMap tk++pk m::t)=.ok (l,t):=by
 cases l with
 | nil=>exact absurd rfl hl
 | cons x l =>
  have e:(x::l).flatMap tk++pk m::t=tk x++(l.flatMap tk++pk m::t):=by simp
  have hF:F (l.flatMap tk++pk m::t):=by
   cases l with
   | nil=>exact hF2 t
   | cons y l=>simp only[List.flatMap_cons,ZJ];exact h1 y (by simp) _
  have hne:∀ y∈l,tk y≠[]:=fun y hy h=>by have:=h2 y (by simp[hy]) (pk m::t);rw[h] at this;simp[yF] at this
  have:=Y5 l hne
  rw[e,zaA,h3 x (by simp) _ hF]
  simp only[pb]
  rw[zcA hF2 l (fun y hy=>h1 y (by simp[hy])) (fun y hy=>h2 y (by simp[hy])) (fun y hy=>h3 y (by simp[hy])) _ _ t (by simp only[Al5];omega)]
  simp
theorem zgx {α:Type} {tk:α→List Tok} {m:List UInt8} {f:TS→PR α} {F:TS→Prop} (hF1:∀ t,F (pk m::t)):∀(l:List α),(∀ x∈l,∀ t,F t→f (tk x++t)=.ok (x,t)) →
  ∀(n:Nat) (acc:List α) (t:TS),F t→isP m t=false→l.length<n→Yu m f n acc (l.flatMap (fun x=>pk m::tk x)++t)=.ok (acc++l,t)
 | [],_,n+1,acc,t,_,ht,_=>by simp[Yu,ht]
 | x::l,h3,n+1,acc,t,hFt,ht,hn=>by
  have e:(x::l).flatMap (fun x=>pk m::tk x)++t=pk m::(tk x++(l.flatMap (fun x=>pk m::tk x)++t)):=by simp
  have hF:F (l.flatMap (fun x=>pk m::tk x)++t):=by
   cases l with
   | nil=>exact hFt
   | cons y l=>simp only[List.flatMap_cons,Al6];exact hF1 _
  rw[e,Yu,yF]
  simp only[decide_true,if_true,List.tail_cons]
  rw[h3 x (by simp) _ hF]
  simp only[pb]
  rw[zgx hF1 l (fun y hy=>h3 y (by simp[hy])) n _ t hFt ht (by simpa using hn)]
  simp
theorem ziO (n:Nat) (m:Int) (i:Nat):zdy (n+1) m (i+1)=zdy n (m / 2) i:=by
 have e:zcM m (i+1)=zcM (m / 2) i:=by
  unfold zcM
  rw[Int.pow_succ,Int.mul_comm,← Int.ediv_ediv_of_nonneg (by decide)]
 unfold zdy
 rw[e]
 simp
theorem zjm (n:Nat) (m:Int):∀ i,zcv (n+1) m (i+1)=zcv n (m / 2) i++zdy (n+1) m 0
 | 0=>by rw[zcv,zcv,zcv,ziO]
 | i+1=>by rw[zcv,zjm n m i,ziO];simp[zcv]
theorem zmo (s:List UInt8):∀(n k:Nat) (m:Int) (t:TS),n≤k→0≤m→m<2 ^ (n+1)→isP [33] t=false→zb1 k (List.replicate n (pk [91])++(wk s::zcv n m n)++t)=.ok (⟨s,n,m⟩,t)
 | 0,k,m,t,_,h0,h1,ht=>by
  have hm:m=0∨m=1:=by omega
  rw[YP,zeU.eq_def]
  rcases hm with rfl|rfl
  ·simp[zcB,Zs,pb,zcv,zdy,zcM,zbM,ht]
  ·simp[zcB,Zs,pb,zcv,zdy,zcM,zbM,yF]
 | n+1,0,_,_,h,_,_,_=>by omega
 | n+1,k+1,m,t,hk,h0,h1,ht=>by
  have e:List.replicate (n+1) (pk [91])++(wk s::zcv (n+1) m (n+1))++t=pk [91]::(List.replicate n (pk [91])++(wk s::zcv n (m / 2) n)++(zdy (n+1) m 0++t)):=by
   rw[zjm];simp[List.replicate_succ]
  have e2:zdy (n+1) m 0++t=pk [93]::((if zcM m 0 then [pk [33]] else [])++t):=by simp[zdy]
  rw[e,YP,zeU.eq_def,yF,zkV]
  simp only[decide_true,if_true,List.tail_cons]
  rw[zmo s n k (m / 2) _ (by omega) (by omega) (by rw[Int.pow_succ] at h1;omega) (by rw[e2,yF];decide),e2]
  simp only[pb,zc2]
  unfold zbM
  have hb:zcM m 0=decide (m % 2=1):=by simp[zcM]
  rw[hb]
  by_cases h2:m % 2=1
  ·simp[h2,yF];omega
  ·simp[h2,ht];omega
theorem zio:∀ l,YI l=l.flatMap yD
 | []=>rfl
 | v::r=>by rw[YI,zio r];rfl
theorem zeD:∀ l,Zc l=l.flatMap zbi
 | []=>rfl
 | v::r=>by rw[Zc,zeD r];rfl
theorem zdL {may:List UInt8→Bool}:∀ {l:List Val},Y1 may l=true→∀ v∈l,zaD may v=true
 | _::_,h,v,hv=>by
  simp only[Y1,Al0] at h
  exact(List.mem_cons.1 hv).elim (fun e=>e▸h.1) (zdL h.2 v)
theorem zjD {may:List UInt8→Bool}:∀ {l:List Mem},zaO may l=true→∀ v∈l,zk0 may v=true
 | _::_,h,v,hv=>by
  simp only[zaO,Al0] at h
  exact(List.mem_cons.1 hv).elim (fun e=>e▸h.1) (zjD h.2 v)
theorem zdw:∀ {l:List Val} {n:Int},n≤yW l n∧∀ v∈l,zN v≤yW l n
 | [],n=>⟨Int.le_refl _,fun v hv=>by cases hv⟩
 | x::l,n=>by
  have h1:=zdw (l:=l) (n:=mm2 true n (zN x))
  have h2:=zkW n (zN x)
  have h3:zN x≤mm2 true n (zN x):=by simp only[mm2,if_true];split<;>omega
  simp only[yW]
  refine⟨by omega,fun v hv=>?_⟩
  rcases List.mem_cons.1 hv with rfl|h
  ·omega
  ·exact h1.2 v h
theorem zcP:∀ {l:List Mem} {n:Int},n≤yV l n∧∀ v∈l,yZ v≤yV l n
 | [],n=>⟨Int.le_refl _,fun v hv=>by cases hv⟩
 | x::l,n=>by
  have h1:=zcP (l:=l) (n:=mm2 true n (yZ x))
  have h2:=zkW n (yZ x)
  have h3:yZ x≤mm2 true n (yZ x):=by simp only[mm2,if_true];split<;>omega
  simp only[yV]
  refine⟨by omega,fun v hv=>?_⟩
  rcases List.mem_cons.1 hv with rfl|h
  ·omega
  ·exact h1.2 v h
mutual
theorem zeA:∀ v acc,acc.length≤(yI v acc).length∧(yI v acc=acc∨acc.length<(yI v acc).length)
 | .mk k n s l m,acc=>by
  have h1:=zdt l acc
  have h2:=zc6 m acc
  simp only[yI]
  split
  ·split
   ·exact⟨Al4 _,.inl rfl⟩
   ·simp
  ·split
   ·exact h1
   ·split
    ·exact h2
    ·exact⟨Al4 _,.inl rfl⟩
theorem zdt:∀ l acc,acc.length≤(ZQ l acc).length∧(ZQ l acc=acc∨acc.length<(ZQ l acc).length)
 | [],acc=>⟨Al4 _,.inl rfl⟩
 | v::r,acc=>by
  have h1:=zeA v acc
  have h2:=zdt r (yI v acc)
  simp only[ZQ]
  refine⟨by omega,?_⟩
  rcases h1.2 with e|h
  ·rw[e] at h2 ⊢;exact h2.2
  ·exact .inr (by omega)
theorem zia:∀ x acc,acc.length≤(zbb x acc).length∧(zbb x acc=acc∨acc.length<(zbb x acc).length)
 | .mk s v,acc=>by simpa only[zbb] using zeA v acc
theorem zc6:∀ l acc,acc.length≤(ZR l acc).length∧(ZR l acc=acc∨acc.length<(ZR l acc).length)
 | [],acc=>⟨Al4 _,.inl rfl⟩
 | v::r,acc=>by
  have h1:=zia v acc
  have h2:=zc6 r (zbb v acc)
  simp only[ZR]
  refine⟨by omega,?_⟩
  rcases h1.2 with e|h
  ·rw[e] at h2 ⊢;exact h2.2
  ·exact .inr (by omega)
end
theorem zir:∀ {l:List Val},ZQ l []=[]→∀ v∈l,yI v []=[]
 | x::l,h,v,hv=>by
  simp only[ZQ] at h
  have h1:=zeA x []
  have h2:=zdt l (yI x [])
  rw[h] at h2
  have e:yI x []=[]:=by
   rcases h1.2 with e|e
   ·exact e
   ·simp at h2 e;omega
  rcases List.mem_cons.1 hv with rfl|hm
  ·exact e
  ·rw[e] at h;exact zir h v hm
theorem zhF:∀ {l:List Mem},ZR l []=[]→∀ v∈l,zbb v []=[]
 | x::l,h,v,hv=>by
  simp only[ZR] at h
  have h1:=zia x []
  have h2:=zc6 l (zbb x [])
  rw[h] at h2
  have e:zbb x []=[]:=by
   rcases h1.2 with e|e
   ·exact e
   ·simp at h2 e;omega
  rcases List.mem_cons.1 hv with rfl|hm
  ·exact e
  ·rw[e] at h;exact zhF h v hm
theorem zl5 (v:Val) (h:pl v) (t:TS):isP [93] (yD v++t)=false:=by
 obtain⟨x,r,e,h1,_⟩:=zrE v h
 rw[e,Al6,zao]
 cases hx:decide (x.k=1)&&decide (x.s=[93]) with
 | false=>rfl
 | true =>
  simp only[Al0,zL] at hx
  exact absurd (by cases x;simp_all) h1
theorem zgy {f:TS→PR Val} {s:List UInt8} {v:Val} (hf:∀ t,f (yD v++t)=.ok (v,t)) (t:TS):yP f (zbi (.mk s v)++t)=.ok (.mk s v,t):=by
 have e:zbi (.mk s v)++t=wk s::pk [58]::(yD v++t):=by simp[zbi,wk,pk]
 rw[e,yP,Zs]
 simp only[pb,zc2,hf]
theorem zqb (fixed:Bool):∀ v,pl v→wfV v→∀(k:Nat) (t:TS),zN v≤k→(fixed=true→yI v []=[])→Zq fixed k (yD v++t)=.ok (v,t):=by
 refine Val.ind fun k n s l m ihl ihm hp hw d t hd hv=>?_
 cases shape _ hp with
 | null=>rw[zqD,yX,zaH.eq_def];simp[Yi,zaM,zV]
 | bool n h =>
  rw[zq9,yX,zaH.eq_def]
  rcases h with rfl|rfl<;>simp[Yi,zaM,boolT]
 | int n =>
  have h:=zey hw.1
  rw[zuB,yX,zaH.eq_def];simp[Yi,zcL,h.1,h.2]
 | num s h =>
  have h1:=(zjZ h).1
  have h2:ZS s=false:=by
   simp only[zet,Z0,zL,Al0,Bool.not_eq_true'] at h
   rcases h with h|h
   ·simp[ZS,h]
   ·exact h.2
  have h3:¬ (Z1 s=2):=by omega
  have h4:Z1 s=3∨Z1 s=4:=by omega
  rw[ztX,yX,zaH.eq_def];simp[Yi,zcL,h2,h3,h4]
 | text s=>rw[t_text,yX,zaH.eq_def];simp[Yi]
 | word s h =>
  rw[zqe,yX,zaH.eq_def]
  have h1:s≠[110,117,108,108]∧s≠[116,114,117,101]∧s≠[102,97,108,115,101]:=by
   simp only[zmN,Bool.or_eq_false_iff,decide_eq_false_iff_not] at h
   exact⟨h.2.2,h.1,h.2.1⟩
  simp[Yi,zaM,h1.1,h1.2.1,h1.2.2]
 | var s =>
  cases fixed with
  | true=>have:=hv rfl;simp[yI,zlm] at this
  | false =>
   rw[zuu,yX,zaH.eq_def]
   have e:=zc2 [36] (⟨2,s⟩::t)
   have e2:=Zs s t
   simp only[pk,wk] at e e2
   simp[Yi,zao,e,e2,pb]
 | list l h =>
  have hd':yW l 0+1≤d:=by simpa[zN] using hd
  have h0:=(zdw (l:=l) (n:=0)).1
  obtain⟨d,rfl⟩:∃ e,d=e+1:=⟨d-1,by omega⟩
  have hv':fixed=true→ZQ l []=[]:=fun e=>by simpa[yI] using hv e
  rw[zrk,yX,zaH.eq_def]
  have hm:=zcA (tk:=yD) (m:=[93]) (f:=Zq fixed d) (F:=fun _=>True) (fun _=>trivial) l (fun _ _ _=>trivial) (fun x hx t=>zl5 x (zdL h x hx) t)
   (fun x hx t _=>ihl x hx (zdL h x hx) (zeJ hw.2.1 x hx) d t (by have:=(zdw (l:=l) (n:=0)).2 x hx;omega) fun e=>zir (hv' e) x hx)
  have e2:yA [93] (Zq fixed d) ((YI l).length+(t.length+1)+1) [] (YI l++⟨1,[93]⟩::t)=.ok (l,t):=by
   have e4:=Y5 (tk:=yD) l fun x hx e=>by have:=zl5 x (zdL h x hx) (pk [93]::[]);rw[e] at this;simp[yF] at this
   rw[zio]
   have e5:=hm ((l.flatMap yD).length+(t.length+1)+1) [] t (by omega)
   rw[Zg] at e5
   exact e5
  simp[Yi,zao,e2,pb,zmM]
 | obj m h =>
  have hd':yV m 0+1≤d:=by simpa[zN] using hd
  have h0:=(zcP (l:=m) (n:=0)).1
  obtain⟨d,rfl⟩:∃ e,d=e+1:=⟨d-1,by omega⟩
  have hv':fixed=true→ZR m []=[]:=fun e=>by simpa[yI] using hv e
  have hst:∀(x:Mem) (t:TS),isP [125] (zbi x++t)=false:=fun x t=>by cases x;simp[zbi,zao]
  rw[zud,yX,zaH.eq_def]
  have hm:=zcA (tk:=zbi) (m:=[125]) (f:=yP (Zq fixed d)) (F:=fun _=>True) (fun _=>trivial) m (fun _ _ _=>trivial) (fun x hx t=>hst x t)
   (fun x hx t _=>by
    obtain⟨s,v⟩:=x
    have h1:=zjD h _ hx
    simp only[zk0,Al0] at h1
    exact zgy (fun t=>ihm s v hx h1.2 (zbP hw.2.2 s v hx) d t (by have:=(zcP (l:=m) (n:=0)).2 _ hx;simp only[yZ] at this;omega) fun e=>by simpa[zbb] using zhF (hv' e) _ hx) t)
  have e2:yA [125] (yP (Zq fixed d)) ((Zc m).length+(t.length+1)+1) [] (Zc m++⟨1,[125]⟩::t)=.ok (m,t):=by
   have e4:=Y5 (tk:=zbi) m fun x hx e=>by have:=hst x (pk [125]::[]);rw[e] at this;simp[yF] at this
   rw[zeD]
   have e5:=hm ((m.flatMap zbi).length+(t.length+1)+1) [] t (by omega)
   rw[Zg] at e5
   exact e5
  simp[Yi,zao,e2,pb,zmM]
def zaW (i:Nat) (m:Int) (t:TS):Int×TS:=if isP [33] t then (m+2 ^ i,t.tail) else (m,t)
def zeu (n i:Nat) (t:TS):PR Unit:=if i<n then ZY [93] t else .ok ((),t)
def tyL (n:Nat):Nat→Int→TS→PR Int
 | 0,m,t=>pb (zeu n 0 t) fun _ t=>.ok (zaW 0 m t)
 | i+1,m,t=>pb (zeu n (i+1) t) fun _ t=>tyL n i (zaW (i+1) m t).1 (zaW (i+1) m t).2
theorem zr2 (n i:Nat) (t:TS):zeu (n+1) (i+1) t=zeu n i t:=by
 unfold zeu
 by_cases h:i<n
 ·rw[if_pos h,if_pos (by omega)]
 ·rw[if_neg h,if_neg (by omega)]
theorem zqC (i:Nat) (m:Int) (t:TS):zaW (i+1) (m*2) t=((zaW i m t).1*2,(zaW i m t).2):=by
 unfold zaW
 split
 ·simp only[Al8,and_true];rw[Int.pow_succ];omega
 ·rfl
theorem zub (n:Nat):∀(i:Nat) (m:Int) (t:TS),tyL (n+1) (i+1) (m*2) t=pb (tyL n i m t) fun m t=>pb (ZY [93] t) fun _ t=>.ok (zaW 0 (m*2) t)
 | 0,m,t=>by
  have e:∀(m:Int) (t:TS),tyL (n+1) 0 m t=pb (ZY [93] t) fun _ t=>.ok (zaW 0 m t):=fun m t=>by rw[tyL,zeu,if_pos (Nat.succ_pos n)]
  have e1:tyL (n+1) (0+1) (m*2) t=pb (zeu n 0 t) fun _ t=>tyL (n+1) 0 (zaW (0+1) (m*2) t).1 (zaW (0+1) (m*2) t).2:=by conv=>lhs;rw[tyL,zr2]
  have e2:tyL n 0 m t=pb (zeu n 0 t) fun _ t=>.ok (zaW 0 m t):=by rw[tyL]
  rw[e1,e2]
  rcases zeu n 0 t with x|⟨_,t1⟩
  ·rfl
  ·simp only[zF]
   rw[zqC,e]
   rfl
 | i+1,m,t=>by
  have e1:tyL (n+1) (i+1+1) (m*2) t=pb (zeu n (i+1) t) fun _ t=>tyL (n+1) (i+1) (zaW (i+1+1) (m*2) t).1 (zaW (i+1+1) (m*2) t).2:=by conv=>lhs;rw[tyL,zr2]
  have e2:tyL n (i+1) m t=pb (zeu n (i+1) t) fun _ t=>tyL n i (zaW (i+1) m t).1 (zaW (i+1) m t).2:=by rw[tyL]
  rw[e1,e2]
  rcases zeu n (i+1) t with x|⟨_,t1⟩
  ·rfl
  ·simp only[zF]
   rw[zqC,zub n i]
theorem zjA:∀(n k:Nat) (u:TS),n≤k→isP [91] u=false→zb1 k (List.replicate n (pk [91])++u)=pb (yT u) fun s t=>pb (tyL n n 0 t) fun m t=>.ok (⟨s,n,m⟩,t)
 | 0,k,u,_,hu=>by
  rw[List.replicate_zero,Zg,YP,zeU.eq_def,hu]
  simp only[Al7,if_false]
  rcases yT u with x|⟨s,t⟩
  ·rfl
  ·simp only[zF,tyL,zeu,Nat.lt_irrefl,if_false]
   unfold zbM zaW
   cases isP [33] t<;>simp[pb]
 | n+1,0,u,h,_=>by omega
 | n+1,k+1,u,h,hu=>by
  rw[List.replicate_succ,Al6,YP,zeU.eq_def,yF,zkV]
  simp only[decide_true,if_true,List.tail_cons]
  rw[zjA n k u (by omega) hu]
  rcases yT u with x|⟨s,t⟩
  ·rfl
  ·simp only[zF]
   have e:=zub n n 0 t
   rw[Int.zero_mul] at e
   rw[e]
   rcases tyL n n 0 t with x|⟨m,t1⟩
   ·rfl
   ·simp only[zF]
    rcases ZY [93] t1 with x|⟨_,t2⟩
    ·rfl
    ·simp only[zF]
     unfold zbM zaW
     cases isP [33] t2<;>simp[pb]
def tyN (n:Nat):Nat→Int→TS→PR Int
 | 0,m,t=>.ok (m,t)
 | i+1,m,t=>tyL n i m t
theorem zvv (n i:Nat) (m:Int) (t:TS):tyL n i m t=pb (zeu n i t) fun _ t=>tyN n i (zaW i m t).1 (zaW i m t).2:=by cases i<;>rfl
theorem ziS:∀(k:Nat) (u:TS),isP [91] u=true→zb1 k (List.replicate k (pk [91])++u)=.error 4
 | 0,u,hu=>by rw[List.replicate_zero,Zg,YP,zeU.eq_def,hu];rfl
 | k+1,u,hu=>by
  rw[List.replicate_succ,Al6,YP,zeU.eq_def,yF,zkV]
  simp only[decide_true,if_true,List.tail_cons]
  rw[ziS k u hu];rfl
theorem zu2 {m:List UInt8} {t:TS} (h:isP m t=true):t=pk m::t.tail:=by
 have h2:=zam (zh8 h)
 simp only[isP,Al0,zL] at h
 rw[h2]
 congr 1
 cases hx:hdT t with|mk k s=>rw[hx] at h;simp only at h;rw[h.1,h.2];rfl
theorem zqF (n:Nat) (x:Tok) (u:TS):List.replicate n x++x::u=List.replicate (n+1) x++u:=by
 rw[List.replicate_succ',ZJ];rfl
theorem zwJ:∀ i:Fin 5,∀ m:Fin 32,m.val % 2 ^ (i.val+1)=0→IntKind.wrap .i64 ((BitVec.ofInt IntKind.i64.bits ((m.val:Nat):Int) ||| BitVec.ofInt IntKind.i64.bits (((2 ^ i.val:Nat)):Int)).toNat:Int)=((m.val+2 ^ i.val:Nat):Int):=by decide +kernel
theorem zv3:∀ i:Fin 5,IntKind.wrap .i64 (1*2 ^ min i.val IntKind.i64.bits)=((2 ^ i.val:Nat):Int):=by decide +kernel
theorem ztV:∀ i:Fin 5,∀ m:Fin 32,m.val % 2 ^ (i.val+1)=0→m.val+2 ^ i.val<32∧(m.val+2 ^ i.val) % 2 ^ i.val=0:=by decide +kernel
abbrev zT:List AV:=[.str [],.int .i64 0,.int .i64 0]
theorem zvf {H:za} {r:Nat} {L p t:TS} {dp:Nat} (hs:p++t=L) (hl:wT L≤yS) (hr:H r=some (prc L p dp)) :
  zj Tryz.prog 100 [.ptr r 0] H (RpE H r L dp (zb1 4 t) (fun x=>.agg (cTy x))):=by
 refine ZL (zj.goO (R:=fun v H'=>zel H r L dp (zb1 4 t) (fun x=>.agg (cTy x)) v.strip H') (RP:=fun v H'=>zfm (zb1 4 t) v H') ir100 ck100 (Al4 _) fun KP Q hQ hP=>?_)
 have hll:L.length≤yS:=Nat.le_trans (zbf L) hl
 have hll2:=hll
 simp only[yS] at hll2
 have pan:∀(v:AV) (H1:za) (n:Int),v=Zj n→zb1 4 t=.error n→KP v H1:=fun v H1 n h1 h2=>hP v H1 H1 (Low.refl _) ⟨n,h2,h1⟩
 have fin:=KI.done hQ
 have K0:=KI.start hs hr
 simp(disch:=first|omega|assumption) only[ir100,steps,st2,pev,rev,oev,z8,yf,ym,yl,bound,zI,mm2,mk,zt,AV.cells,AV.boxable,AV.one,AV.strip1,zH,zE,Nat.reduceEqDiff,reduceCtorEq,↓reduceIte,Nat.reduceAdd,Int.reduceNeg,Nat.reduceLeDiff,Int.reduceToNat,Int.reduceEq,Int.reduceLT,Int.reduceLE,Int.reduceAdd,Io,Im,If,Il,Jt,Jf,AC.rg,Jm,Jl,Ja,Fm,Fl,Fa,Imv,Imb,Iai,Iei,Igi,Isi,Ipf,Ipt,Ilb,Iia,Ilt,Iap,Ink,Iln,Ils,Iad,Iex,Ibx,Ing]
 refine zm fun b2 hb2=>?_
 have n2:=K0.ne hb2
 have n2s:=Ne.symm n2
 have K1:=K0.box (x:=.cells zT) hb2
 simp(disch:=first|omega|assumption) only[steps,st2,pev,rev,oev,z8,yf,ym,yl,bound,zI,mm2,mk,zt,AV.cells,AV.boxable,AV.one,AV.strip1,zH,zE,Nat.reduceEqDiff,reduceCtorEq,↓reduceIte,Nat.reduceAdd,Int.reduceNeg,Nat.reduceLeDiff,Int.reduceToNat,Int.reduceEq,Int.reduceLT,Int.reduceLE,Int.reduceAdd]
 refine yK (fun x:Nat×TS=>[(3,.int .i64 (x.1:Int))]) (fun x H'=>KI H r L x.2 dp H'∧H' b2=some (.cells zT)∧x.1≤4∧t=List.replicate x.1 (pk [91])++x.2) (fun x=>x.2.length) (0,t) (by simp(disch:=first|omega|assumption) only[steps,st2,pev,rev,oev,z8,yf,ym,yl,bound,zI,mm2,mk,zt,AV.cells,AV.boxable,AV.one,AV.strip1,zH,zE,Nat.reduceEqDiff,reduceCtorEq,↓reduceIte,Nat.reduceAdd,Int.reduceNeg,Nat.reduceLeDiff,Int.reduceToNat,Int.reduceEq,Int.reduceLT,Int.reduceLE,Int.reduceAdd]) ⟨K1,upd_same ..,Nat.zero_le _,rfl⟩ ?_
 rintro⟨n,u⟩ H1 J ⟨K2,g2,hn4,htu⟩ hJ
 simp only at K2 g2 hn4 htu
 obtain⟨p2,hp2,hr2⟩:=K2.here
 have hpl2:p2.length+u.length=L.length:=by rw[← hp2];simp
 have hr2':=hr2
 simp only[prc] at hr2'
 simp(disch:=first|omega|assumption) only[steps,st2,pev,rev,oev,z8,yf,ym,yl,bound,zI,mm2,mk,zt,AV.cells,AV.boxable,AV.one,AV.strip1,zH,zE,Nat.reduceEqDiff,reduceCtorEq,↓reduceIte,Nat.reduceAdd,Int.reduceNeg,Nat.reduceLeDiff,Int.reduceToNat,Int.reduceEq,Int.reduceLT,Int.reduceLE,Int.reduceAdd]
 refine zK (zpW hp2 hr2 [91]) fun v H2 ⟨hv2,hH⟩=>?_
 subst hv2;subst hH
 cases hi:isP [91] u with
 | true =>
  by_cases h4:n=4
  ·have h4':((n:Int)=4)=True:=eq_true (by omega)
   simp(disch:=first|omega|assumption) only[h4',steps,st2,pev,rev,oev,z8,yf,ym,yl,bound,zI,mm2,mk,zt,AV.cells,AV.boxable,AV.one,AV.strip1,zH,zE,Nat.reduceEqDiff,reduceCtorEq,↓reduceIte,Nat.reduceAdd,Int.reduceNeg,Nat.reduceLeDiff,Int.reduceToNat,Int.reduceEq,Int.reduceLT,Int.reduceLE,Int.reduceAdd]
   exact zp (zd7 _ r 4) (fun _ _ h=>h.elim) fun v H3 h=>pan v H3 4 h (by rw[htu,h4];exact ziS 4 u hi)
  ·have h4':¬ ((n:Int)=4):=by omega
   have hlt:=zki hi
   simp(disch:=first|omega|assumption) only[h4',hr2',wrap64,steps,st2,pev,rev,oev,z8,yf,ym,yl,bound,zI,mm2,mk,zt,AV.cells,AV.boxable,AV.one,AV.strip1,zH,zE,Nat.reduceEqDiff,reduceCtorEq,↓reduceIte,Nat.reduceAdd,Int.reduceNeg,Nat.reduceLeDiff,Int.reduceToNat,Int.reduceEq,Int.reduceLT,Int.reduceLE,Int.reduceAdd]
   refine goJ (hJ (n+1,u.tail) _ hlt ⟨K2.call (zbD hp2 (zh8 hi) _),by rw[upd_ne n2s];exact g2,by simp only;omega,?_⟩) (by simp(disch:=first|omega|assumption) only[Int.natCast_add,steps,st2,pev,rev,oev,z8,yf,ym,yl,bound,zI,mm2,mk,zt,AV.cells,AV.boxable,AV.one,AV.strip1,zH,zE,Nat.reduceEqDiff,reduceCtorEq,↓reduceIte,Nat.reduceAdd,Int.reduceNeg,Nat.reduceLeDiff,Int.reduceToNat,Int.reduceEq,Int.reduceLT,Int.reduceLE,Int.reduceAdd])
   simp only
   rw[← zqF,← zu2 hi];exact htu
 | false =>
  have hx:zb1 4 t=pb (yT u) fun s t=>pb (tyL n n 0 t) fun m t=>.ok (⟨s,n,m⟩,t):=by rw[htu];exact zjA n 4 u hn4 hi
  simp(disch:=first|omega|assumption) only[steps,st2,pev,rev,oev,z8,yf,ym,yl,bound,zI,mm2,mk,zt,AV.cells,AV.boxable,AV.one,AV.strip1,zH,zE,Nat.reduceEqDiff,reduceCtorEq,↓reduceIte,Nat.reduceAdd,Int.reduceNeg,Nat.reduceLeDiff,Int.reduceToNat,Int.reduceEq,Int.reduceLT,Int.reduceLE,Int.reduceAdd]
  refine zp (zaC hp2 hll hr2) (fun v H3 ⟨s,t3,e3,hv3,ha3⟩=>?_) fun v H3 ⟨n3,e3,hv3⟩=>pan v H3 n3 hv3 (by rw[hx,e3];rfl)
  subst hv3
  rw[e3,zF] at hx
  have K3:=K2.call ha3
  have g32:H3 b2=some (.cells zT):=by rw[ha3.other n2s,g2]
  simp(disch:=first|omega|assumption) only[steps,st2,pev,rev,oev,z8,yf,ym,yl,bound,zI,mm2,mk,zt,AV.cells,AV.boxable,AV.one,AV.strip1,zH,zE,Nat.reduceEqDiff,reduceCtorEq,↓reduceIte,Nat.reduceAdd,Int.reduceNeg,Nat.reduceLeDiff,Int.reduceToNat,Int.reduceEq,Int.reduceLT,Int.reduceLE,Int.reduceAdd]
  refine zm fun b4 hb4=>?_
  have h42:b4≠b2:=fun e=>by subst e;rw[g32] at hb4;cases hb4
  have hb4H:H b4=none:=K3.none hb4
  have n4:=K0.ne hb4H
  have n4s:=Ne.symm n4
  have K4:=K3.box (x:=.cells [.str s,.int .i64 (n:Int),.int .i64 0]) hb4H
  obtain⟨R,hR⟩:∃ R,tyL n n 0 t3=R:=⟨_,rfl⟩
  rw[hR] at hx
  simp(disch:=first|omega|assumption) only[steps,st2,pev,rev,oev,z8,yf,ym,yl,bound,zI,mm2,mk,zt,AV.cells,AV.boxable,AV.one,AV.strip1,zH,zE,Nat.reduceEqDiff,reduceCtorEq,↓reduceIte,Nat.reduceAdd,Int.reduceNeg,Nat.reduceLeDiff,Int.reduceToNat,Int.reduceEq,Int.reduceLT,Int.reduceLE,Int.reduceAdd]
  have hj0:((n:Int):Int)=(((n+1:Nat):Int)-1):=by omega
  refine yK (fun x:Nat×Nat×TS=>[(5,.int .i64 ((x.1:Int)-1))]) (fun x H'=>KI H r L x.2.2 dp H'∧H' b2=some (.cells zT)∧H' b4=some (.cells [.str s,.int .i64 (n:Int),.int .i64 (x.2.1:Int)])∧x.1≤n+1∧x.2.1<32∧x.2.1 % 2 ^ x.1=0∧tyN n x.1 (x.2.1:Int) x.2.2=R) (fun x=>x.1) (n+1,0,t3) (by rw[← hj0];simp(disch:=first|omega|assumption) only[steps,st2,pev,rev,oev,z8,yf,ym,yl,bound,zI,mm2,mk,zt,AV.cells,AV.boxable,AV.one,AV.strip1,zH,zE,Nat.reduceEqDiff,reduceCtorEq,↓reduceIte,Nat.reduceAdd,Int.reduceNeg,Nat.reduceLeDiff,Int.reduceToNat,Int.reduceEq,Int.reduceLT,Int.reduceLE,Int.reduceAdd]) ⟨K4,by rw[upd_ne (Ne.symm h42)];exact g32,upd_same ..,Al4 _,by show 0<32;decide,Nat.zero_mod _,hR⟩ ?_
  rintro⟨j,m,u5⟩ H5 J5 ⟨K5,g52,g54,hj,hm,hmd,he⟩ hJ5
  simp only at K5 g52 g54 hj hm hmd he
  obtain⟨p5,hp5,hr5⟩:=K5.here
  cases j with
  | zero =>
   have hneg:¬ ((0:Int)≤-1):=by decide
   have hz1:(0:Int)-1=-1:=rfl
   have e1:R=.ok ((m:Int),u5):=he.symm
   simp only[zT] at g52
   simp(disch:=first|omega|assumption) only[hz1,hneg,g52,g54,h42,Ne.symm h42,steps,st2,pev,rev,oev,z8,yf,ym,yl,bound,zI,mm2,mk,zt,AV.cells,AV.boxable,AV.one,AV.strip1,zH,zE,Nat.reduceEqDiff,reduceCtorEq,↓reduceIte,Nat.reduceAdd,Int.reduceNeg,Nat.reduceLeDiff,Int.reduceToNat,Int.reduceEq,Int.reduceLT,Int.reduceLE,Int.reduceAdd]
   exact fin _ _ [.agg [.str s,.int .i64 (n:Int),.int .i64 (m:Int)]] ⟨s,n,m⟩ u5 (by simp(disch:=first|omega|assumption) only[ir100,zP,yR,steps,st2,pev,rev,oev,z8,yf,ym,yl,bound,zI,mm2,mk,zt,AV.cells,AV.boxable,AV.one,AV.strip1,zH,zE,Nat.reduceEqDiff,reduceCtorEq,↓reduceIte,Nat.reduceAdd,Int.reduceNeg,Nat.reduceLeDiff,Int.reduceToNat,Int.reduceEq,Int.reduceLT,Int.reduceLE,Int.reduceAdd,Io,Im,If,Il,Jt,Jf,AC.rg,Jm,Jl,Ja,Fm,Fl,Fa,Imv,Imb,Iai,Iei,Igi,Isi,Ipf,Ipt,Ilb,Iia,Ilt,Iap,Ink,Iln,Ils,Iad,Iex,Ibx,Ing]) (by rw[hx,e1];rfl) (K5.box hb2) (by simp[zc,AV.strip,AV.strip1,cTy])
  | succ i =>
   have hge:((0:Int)≤(((i+1:Nat):Int)-1))=True:=eq_true (by omega)
   have hi5:(((i+1:Nat):Int)-1)=(i:Int):=by omega
   have e1:tyL n i (m:Int) u5=R:=he
   rw[zvv,zeu] at e1
   by_cases hin:i<n
   ·have hin':((i:Int)<(n:Int))=True:=eq_true (by omega)
    rw[if_pos hin] at e1
    simp(disch:=first|omega|assumption) only[hge,hi5,hin',steps,st2,pev,rev,oev,z8,yf,ym,yl,bound,zI,mm2,mk,zt,AV.cells,AV.boxable,AV.one,AV.strip1,zH,zE,Nat.reduceEqDiff,reduceCtorEq,↓reduceIte,Nat.reduceAdd,Int.reduceNeg,Nat.reduceLeDiff,Int.reduceToNat,Int.reduceEq,Int.reduceLT,Int.reduceLE,Int.reduceAdd]
    refine zp (zhn hp5 hll hr5 [93]) (fun v H6 ⟨_,t6,e6,hv6,ha6⟩=>?_) fun v H6 ⟨n6,e6,hv6⟩=>pan v H6 n6 hv6 (by rw[hx,← e1,e6];rfl)
    subst hv6
    rw[e6,zF] at e1
    have K6:=K5.call ha6
    have g62:H6 b2=some (.cells zT):=by rw[ha6.other n2s,g52]
    have g64:H6 b4=some (.cells [.str s,.int .i64 (n:Int),.int .i64 (m:Int)]):=by rw[ha6.other n4s,g54]
    obtain⟨p6,hp6,hr6⟩:=K6.here
    simp(disch:=first|omega|assumption) only[steps,st2,pev,rev,oev,z8,yf,ym,yl,bound,zI,mm2,mk,zt,AV.cells,AV.boxable,AV.one,AV.strip1,zH,zE,Nat.reduceEqDiff,reduceCtorEq,↓reduceIte,Nat.reduceAdd,Int.reduceNeg,Nat.reduceLeDiff,Int.reduceToNat,Int.reduceEq,Int.reduceLT,Int.reduceLE,Int.reduceAdd]
    refine zK (zaJ hp6 hll hr6 [33]) fun v H7 ⟨hv7,ha7⟩=>?_
    subst hv7
    have g72:H7 b2=some (.cells zT):=by rw[ha7.other n2s,g62]
    have g74:H7 b4=some (.cells [.str s,.int .i64 (n:Int),.int .i64 (m:Int)]):=by rw[ha7.other n4s,g64]
    have K7:=K6.call ha7
    cases hb:isP [33] t6 with
    | true =>
     simp only[zaW,hb,if_true] at e1
     rw[Y8,hb,if_pos rfl] at K7
     have ho:=zwJ ⟨i,by omega⟩ ⟨m,hm⟩ hmd
     have hob:=ztV ⟨i,by omega⟩ ⟨m,hm⟩ hmd
     have hsh:=zv3 ⟨i,by omega⟩
     simp only at ho hob hsh
     have hi0:¬ ((i:Int)<0):=by omega
     simp(disch:=first|omega|assumption) only[g74,hi0,hsh,ho,steps,st2,pev,rev,oev,z8,yf,ym,yl,bound,zI,mm2,mk,zt,AV.cells,AV.boxable,AV.one,AV.strip1,zH,zE,Nat.reduceEqDiff,reduceCtorEq,↓reduceIte,Nat.reduceAdd,Int.reduceNeg,Nat.reduceLeDiff,Int.reduceToNat,Int.reduceEq,Int.reduceLT,Int.reduceLE,Int.reduceAdd]
     refine goJ (hJ5 (i,m+2 ^ i,t6.tail) _ (Nat.lt_succ_self _) ⟨K7.box hb4H,by rw[upd_ne (Ne.symm h42)];exact g72,upd_same ..,by simp only;omega,hob.1,hob.2,by simp only;rw[← e1];simp⟩) (by simp(disch:=first|omega|assumption) only[wrap64,steps,st2,pev,rev,oev,z8,yf,ym,yl,bound,zI,mm2,mk,zt,AV.cells,AV.boxable,AV.one,AV.strip1,zH,zE,Nat.reduceEqDiff,reduceCtorEq,↓reduceIte,Nat.reduceAdd,Int.reduceNeg,Nat.reduceLeDiff,Int.reduceToNat,Int.reduceEq,Int.reduceLT,Int.reduceLE,Int.reduceAdd])
    | false =>
     simp only[zaW,hb,Al7,if_false] at e1
     rw[Y8,hb] at K7
     simp only[Al7,if_false] at K7
     have hmd2:m % 2 ^ i=0:=by
      have h3:2 ^ i∣2 ^ (i+1):=⟨2,by rw[Nat.pow_succ]⟩
      exact Nat.mod_eq_zero_of_dvd (Nat.dvd_trans h3 (Nat.dvd_of_mod_eq_zero hmd))
     simp(disch:=first|omega|assumption) only[steps,st2,pev,rev,oev,z8,yf,ym,yl,bound,zI,mm2,mk,zt,AV.cells,AV.boxable,AV.one,AV.strip1,zH,zE,Nat.reduceEqDiff,reduceCtorEq,↓reduceIte,Nat.reduceAdd,Int.reduceNeg,Nat.reduceLeDiff,Int.reduceToNat,Int.reduceEq,Int.reduceLT,Int.reduceLE,Int.reduceAdd]
     refine goJ (hJ5 (i,m,t6) _ (Nat.lt_succ_self _) ⟨K7,g72,g74,by simp only;omega,hm,hmd2,e1⟩) (by simp(disch:=first|omega|assumption) only[wrap64,steps,st2,pev,rev,oev,z8,yf,ym,yl,bound,zI,mm2,mk,zt,AV.cells,AV.boxable,AV.one,AV.strip1,zH,zE,Nat.reduceEqDiff,reduceCtorEq,↓reduceIte,Nat.reduceAdd,Int.reduceNeg,Nat.reduceLeDiff,Int.reduceToNat,Int.reduceEq,Int.reduceLT,Int.reduceLE,Int.reduceAdd])
   ·have hin':¬ ((i:Int)<(n:Int)):=by omega
    rw[if_neg hin,zF] at e1
    simp(disch:=first|omega|assumption) only[hge,hi5,hin',steps,st2,pev,rev,oev,z8,yf,ym,yl,bound,zI,mm2,mk,zt,AV.cells,AV.boxable,AV.one,AV.strip1,zH,zE,Nat.reduceEqDiff,reduceCtorEq,↓reduceIte,Nat.reduceAdd,Int.reduceNeg,Nat.reduceLeDiff,Int.reduceToNat,Int.reduceEq,Int.reduceLT,Int.reduceLE,Int.reduceAdd]
    refine zK (zaJ hp5 hll hr5 [33]) fun v H7 ⟨hv7,ha7⟩=>?_
    subst hv7
    have g72:H7 b2=some (.cells zT):=by rw[ha7.other n2s,g52]
    have g74:H7 b4=some (.cells [.str s,.int .i64 (n:Int),.int .i64 (m:Int)]):=by rw[ha7.other n4s,g54]
    have K7:=K5.call ha7
    cases hb:isP [33] u5 with
    | true =>
     simp only[zaW,hb,if_true] at e1
     rw[Y8,hb,if_pos rfl] at K7
     have ho:=zwJ ⟨i,by omega⟩ ⟨m,hm⟩ hmd
     have hob:=ztV ⟨i,by omega⟩ ⟨m,hm⟩ hmd
     have hsh:=zv3 ⟨i,by omega⟩
     simp only at ho hob hsh
     have hi0:¬ ((i:Int)<0):=by omega
     simp(disch:=first|omega|assumption) only[g74,hi0,hsh,ho,steps,st2,pev,rev,oev,z8,yf,ym,yl,bound,zI,mm2,mk,zt,AV.cells,AV.boxable,AV.one,AV.strip1,zH,zE,Nat.reduceEqDiff,reduceCtorEq,↓reduceIte,Nat.reduceAdd,Int.reduceNeg,Nat.reduceLeDiff,Int.reduceToNat,Int.reduceEq,Int.reduceLT,Int.reduceLE,Int.reduceAdd]
     refine goJ (hJ5 (i,m+2 ^ i,u5.tail) _ (Nat.lt_succ_self _) ⟨K7.box hb4H,by rw[upd_ne (Ne.symm h42)];exact g72,upd_same ..,by simp only;omega,hob.1,hob.2,by simp only;rw[← e1];simp⟩) (by simp(disch:=first|omega|assumption) only[wrap64,steps,st2,pev,rev,oev,z8,yf,ym,yl,bound,zI,mm2,mk,zt,AV.cells,AV.boxable,AV.one,AV.strip1,zH,zE,Nat.reduceEqDiff,reduceCtorEq,↓reduceIte,Nat.reduceAdd,Int.reduceNeg,Nat.reduceLeDiff,Int.reduceToNat,Int.reduceEq,Int.reduceLT,Int.reduceLE,Int.reduceAdd])
    | false =>
     simp only[zaW,hb,Al7,if_false] at e1
     rw[Y8,hb] at K7
     simp only[Al7,if_false] at K7
     have hmd2:m % 2 ^ i=0:=by
      have h3:2 ^ i∣2 ^ (i+1):=⟨2,by rw[Nat.pow_succ]⟩
      exact Nat.mod_eq_zero_of_dvd (Nat.dvd_trans h3 (Nat.dvd_of_mod_eq_zero hmd))
     simp(disch:=first|omega|assumption) only[steps,st2,pev,rev,oev,z8,yf,ym,yl,bound,zI,mm2,mk,zt,AV.cells,AV.boxable,AV.one,AV.strip1,zH,zE,Nat.reduceEqDiff,reduceCtorEq,↓reduceIte,Nat.reduceAdd,Int.reduceNeg,Nat.reduceLeDiff,Int.reduceToNat,Int.reduceEq,Int.reduceLT,Int.reduceLE,Int.reduceAdd]
     refine goJ (hJ5 (i,m,u5) _ (Nat.lt_succ_self _) ⟨K7,g72,g74,by simp only;omega,hm,hmd2,e1⟩) (by simp(disch:=first|omega|assumption) only[wrap64,steps,st2,pev,rev,oev,z8,yf,ym,yl,bound,zI,mm2,mk,zt,AV.cells,AV.boxable,AV.one,AV.strip1,zH,zE,Nat.reduceEqDiff,reduceCtorEq,↓reduceIte,Nat.reduceAdd,Int.reduceNeg,Nat.reduceLeDiff,Int.reduceToNat,Int.reduceEq,Int.reduceLT,Int.reduceLE,Int.reduceAdd])
def zcX (t:TS):PR (List UInt8):=if isW [111,110] t then .error 2 else yT t
theorem zs2 {H:za} {r:Nat} {L p t:TS} (hs:p++t=L) (hl:wT L≤yS) (hr:H r=some (prc L p (16-16))) :
  zj Tryz.prog 251 [.ptr r 0] H (RpE H r L (16-16) (zcX t) AV.str):=by
 refine ZL (zj.goO (R:=fun v H'=>zel H r L (16-16) (zcX t) AV.str v.strip H') (RP:=fun v H'=>zfm (zcX t) v H') ir251 ck251 (Al4 _) fun KP Q hQ hP=>?_)
 have hll:L.length≤yS:=Nat.le_trans (zbf L) hl
 have hll2:=hll
 simp only[yS] at hll2
 have pan:∀(v:AV) (H1:za) (n:Int),v=Zj n→(zcX t)=.error n→KP v H1:=fun v H1 n h1 h2=>hP v H1 H1 (Low.refl _) ⟨n,h2,h1⟩
 have fin:=KI.done hQ
 have K0:=KI.start hs hr
 simp(disch:=first|omega|assumption) only[ir251,go_sem]
 refine zK (ztq (dp:=16-16) hs hr [111,110]) fun v H2 ⟨hv2,hH⟩=>?_
 subst hv2;subst hH
 cases hw:isW [111,110] t with
 | true =>
  simp(disch:=first|omega|assumption) only[go_sem]
  exact zp (zd7 _ r 2) (fun _ _ h=>h.elim) fun v H3 h=>pan v H3 2 h (by rw[zcX,hw];rfl)
 | false =>
  simp(disch:=first|omega|assumption) only[go_sem]
  refine zp (zaC (dp:=16-16) hs hll hr) (fun v H3 ⟨s,t3,e3,hv3,ha3⟩=>?_) fun v H3 ⟨n,e3,hv3⟩=>pan v H3 n hv3 (by rw[zcX,hw];exact e3)
  subst hv3
  simp(disch:=first|omega|assumption) only[go_sem]
  exact fin _ _ [.str s] s t3 (by simp(disch:=first|omega|assumption) only[ir251,zP,yR,go_sem]) (by rw[zcX,hw];exact e3) (K0.call ha3) (by simp[zc,AV.strip,AV.strip1])
abbrev zW:List AV:=[.str [],.str [],.int .i64 0,.int .i64 0,.bool false,.int .i64 0,.int .i64 0,.str [],.sl .nil 5 [],.sl .nil 6 []]
theorem zeZ {H:za} {r:Nat} {L p t:TS} (hs:p++t=L) (hl:wT L≤yS) (hr:H r=some (prc L p (16-16))) :
  zj Tryz.prog 249 [.ptr r 0] H (RpE H r L (16-16) (zaX t) (fun x=>.agg (cW x))):=by
 refine ZL (zj.goO (R:=fun v H'=>zel H r L (16-16) (zaX t) (fun x=>.agg (cW x)) v.strip H') (RP:=fun v H'=>zfm (zaX t) v H') ir249 ck249 (Al4 _) fun KP Q hQ hP=>?_)
 have hll:L.length≤yS:=Nat.le_trans (zbf L) hl
 have hll2:=hll
 simp only[yS] at hll2
 have pan:∀(v:AV) (H1:za) (n:Int),v=Zj n→(zaX t)=.error n→KP v H1:=fun v H1 n h1 h2=>hP v H1 H1 (Low.refl _) ⟨n,h2,h1⟩
 have fin:=KI.done hQ
 have K0:=KI.start hs hr
 have hx:zaX t=pb (ZY [36] t) fun _ t=>pb (yT t) fun s t=>pb (ZY [58] t) fun _ t=>pb (zb1 4 t) fun ty t =>
  if isP [61] t then pb (Zq true 16 t.tail) fun v t=>.ok (⟨s,ty,true,v⟩,t) else .ok (⟨s,ty,false,zV⟩,t):=rfl
 simp(disch:=first|omega|assumption) only[ir249,go_sem]
 refine zm fun b2 hb2=>?_
 have n2:=K0.ne hb2
 have n2s:=Ne.symm n2
 have K1:=K0.box (x:=.cells zW) hb2
 obtain⟨p1,hp1,hr1⟩:=K1.here
 simp only[zW] at K1 hr1
 simp(disch:=first|omega|assumption) only[go_sem]
 refine zp (zhn (dp:=16-16) hp1 hll hr1 [36]) (fun v H2 ⟨_,t2,e2,hv2,ha2⟩=>?_) fun v H2 ⟨n,e2,hv2⟩=>pan v H2 n hv2 (by rw[hx,e2];rfl)
 subst hv2
 rw[e2,zF] at hx
 have K2:=K1.call ha2
 have g2:H2 b2=some (.cells zW):=by rw[ha2.other n2s,upd_same]
 obtain⟨p2,hp2,hr2⟩:=K2.here
 simp(disch:=first|omega|assumption) only[go_sem]
 refine zp (zaC (dp:=16-16) hp2 hll hr2) (fun v H3 ⟨s,t3,e3,hv3,ha3⟩=>?_) fun v H3 ⟨n,e3,hv3⟩=>pan v H3 n hv3 (by rw[hx,e3];rfl)
 subst hv3
 rw[e3,zF] at hx
 have K3:=K2.call ha3
 have g32:H3 b2=some (.cells zW):=by rw[ha3.other n2s,g2]
 simp(disch:=first|omega|assumption) only[go_sem]
 refine zm fun b3 hb3=>?_
 have h32:b3≠b2:=fun e=>by subst e;rw[g32] at hb3;cases hb3
 have hb3H:H b3=none:=K3.none hb3
 have n3:=K0.ne hb3H
 have n3s:=Ne.symm n3
 have K4:=K3.box (x:=.cells [.str s,.str [],.int .i64 0,.int .i64 0,.bool false,.int .i64 0,.int .i64 0,.str [],.sl .nil 5 [],.sl .nil 6 []]) hb3H
 obtain⟨p4,hp4,hr4⟩:=K4.here
 simp(disch:=first|omega|assumption) only[go_sem]
 refine zp (zhn (dp:=16-16) hp4 hll hr4 [58]) (fun v H5 ⟨_,t5,e5,hv5,ha5⟩=>?_) fun v H5 ⟨n,e5,hv5⟩=>pan v H5 n hv5 (by rw[hx,e5];rfl)
 subst hv5
 rw[e5,zF] at hx
 have K5:=K4.call ha5
 have g53:H5 b3=some (.cells [.str s,.str [],.int .i64 0,.int .i64 0,.bool false,.int .i64 0,.int .i64 0,.str [],.sl .nil 5 [],.sl .nil 6 []]):=by rw[ha5.other n3s,upd_same]
 have g52:H5 b2=some (.cells zW):=by rw[ha5.other n2s,upd_ne (Ne.symm h32),g32]
 obtain⟨p5,hp5,hr5⟩:=K5.here
 simp(disch:=first|omega|assumption) only[go_sem]
 refine zp (zvf hp5 hl hr5) (fun v H6 ⟨ty,t6,e6,hv6,ha6⟩=>?_) fun v H6 ⟨n,e6,hv6⟩=>pan v H6 n hv6 (by rw[hx,e6];rfl)
 subst hv6
 rw[e6,zF] at hx
 have K6:=K5.call ha6
 have g63:H6 b3=some (.cells [.str s,.str [],.int .i64 0,.int .i64 0,.bool false,.int .i64 0,.int .i64 0,.str [],.sl .nil 5 [],.sl .nil 6 []]):=by rw[ha6.other n3s,g53]
 have g62:H6 b2=some (.cells zW):=by rw[ha6.other n2s,g52]
 simp(disch:=first|omega|assumption) only[cTy,g63,go_sem]
 have K7:=K6.box (x:=.cells [.str s,.str ty.nm,.int .i64 ty.lists,.int .i64 ty.musts,.bool false,.int .i64 0,.int .i64 0,.str [],.sl .nil 5 [],.sl .nil 6 []]) hb3H
 obtain⟨p7,hp7,hr7⟩:=K7.here
 refine zK (zaJ (dp:=16-16) hp7 hll hr7 [61]) fun v H8 ⟨hv8,ha8⟩=>?_
 subst hv8
 have K8:=K7.call ha8
 have g83:H8 b3=some (.cells [.str s,.str ty.nm,.int .i64 ty.lists,.int .i64 ty.musts,.bool false,.int .i64 0,.int .i64 0,.str [],.sl .nil 5 [],.sl .nil 6 []]):=by rw[ha8.other n3s,upd_same]
 have g82:H8 b2=some (.cells zW):=by rw[ha8.other n2s,upd_ne (Ne.symm h32),g62]
 unfold Y8 at K8
 obtain⟨p8,hp8,hr8⟩:=K8.here
 cases hi:isP [61] t6 with
 | true =>
  rw[hi] at hx K8 hp8
  simp only[if_true] at hx K8 hp8
  simp(disch:=first|omega|assumption) only[go_sem]
  refine zp (zfD true 16 (Al4 _) _ r L p8 t6.tail hp8 hl hr8) (fun v H9 ⟨x,t9,e9,hv9,ha9⟩=>?_) fun v H9 ⟨n,e9,hv9⟩=>pan v H9 n hv9 (by rw[hx,e9];rfl)
  subst hv9
  rw[e9,zF] at hx
  have K9:=K8.call ha9
  have g93:H9 b3=some (.cells [.str s,.str ty.nm,.int .i64 ty.lists,.int .i64 ty.musts,.bool false,.int .i64 0,.int .i64 0,.str [],.sl .nil 5 [],.sl .nil 6 []]):=by rw[ha9.other n3s,g83]
  have g92:H9 b2=some (.cells zW):=by rw[ha9.other n2s,g82]
  simp only[zW] at g92
  simp(disch:=first|omega|assumption) only[zl,zg,ze,zk,zh,zd,zr,g93,g92,h32,Ne.symm h32,go_sem]
  refine fin _ _ [.agg (cW ⟨s,ty,true,x⟩)] _ _ (by simp(disch:=first|omega|assumption) only[zl,zg,ze,zk,zh,zd,zr,ir249,zP,yR,ze2,go_sem]) hx ((K9.box hb3H).box hb2) (by simp[zc,AV.strip,zdp])
 | false =>
  rw[hi] at hx K8 hp8
  simp only[Al7,if_false] at hx K8 hp8
  simp only[zW] at g82
  simp(disch:=first|omega|assumption) only[g83,g82,h32,Ne.symm h32,go_sem]
  exact fin _ _ [.agg [.str s,.str ty.nm,.int .i64 ty.lists,.int .i64 ty.musts,.bool false,.int .i64 0,.int .i64 0,.str [],.sl .nil 5 [],.sl .nil 6 []]] _ _ (by simp(disch:=first|omega|assumption) only[ir249,zP,yR,go_sem]) hx (K8.box hb2) (by simp[zc,AV.strip,AV.strip1,ze2,cV,cVs,cMs,zV])
abbrev zO:List AV:=[.int .i64 0,.str [],.sl .nil 10 [],.sl .nil 2 [],.sl .nil 7 []]
theorem zwG (kind:Int) {H:za} {r:Nat} {L p t:TS} (hs:p++t=L) (hl:wT L≤yS) (hr:H r=some (prc L p (16-16))) :
  zj Tryz.prog 164 [.ptr r 0,.int .i64 kind] H (RpE H r L (16-16) (opP kind t) (fun x=>.agg (cO x))):=by
 refine ZL (zj.goO (R:=fun v H'=>zel H r L (16-16) (opP kind t) (fun x=>.agg (cO x)) v.strip H') (RP:=fun v H'=>zfm (opP kind t) v H') ir164 ck164 (Al4 _) fun KP Q hQ hP=>?_)
 have hll:L.length≤yS:=Nat.le_trans (zbf L) hl
 have hll2:=hll
 simp only[yS] at hll2
 have pan:∀(v:AV) (H1:za) (n:Int),v=Zj n→(opP kind t)=.error n→KP v H1:=fun v H1 n h1 h2=>hP v H1 H1 (Low.refl _) ⟨n,h2,h1⟩
 have fin:=KI.done hQ
 have K0:=KI.start hs hr
 have hx:opP kind t=pb (if (hdT t).k=2 then yT t else .ok ([],t)) fun s t=>pb (if isP [40] t then zaA [41] zaX t.tail else .ok ([],t)) fun vs t =>
  pb (Yx true 16 t) fun d t=>pb (yo 16 t) fun l t=>.ok (⟨kind,s,vs,d,l⟩,t):=rfl
 simp(disch:=first|omega|assumption) only[ir164,go_sem]
 refine zm fun b4 hb4=>?_
 have n4:=K0.ne hb4
 have n4s:=Ne.symm n4
 have K1:=K0.box (x:=.cells zO) hb4
 simp(disch:=first|omega|assumption) only[go_sem]
 refine zm fun b5 hb5=>?_
 have h54:b5≠b4:=fun e=>by subst e;rw[upd_same] at hb5;cases hb5
 have hb5H:H b5=none:=by rw[upd_ne h54] at hb5;exact hb5
 have n5:=K0.ne hb5H
 have n5s:=Ne.symm n5
 have K2:=K1.box (x:=.cells [.int .i64 kind,.str [],.sl .nil 10 [],.sl .nil 2 [],.sl .nil 7 []]) hb5H
 simp only[zO] at K2
 obtain⟨p2,hp2,hr2⟩:=K2.here
 have g25:((H.upd b4 (.cells zO)).upd b5 (.cells [.int .i64 kind,.str [],.sl .nil 10 [],.sl .nil 2 [],.sl .nil 7 []])) b5=some (.cells [.int .i64 kind,.str [],.sl .nil 10 [],.sl .nil 2 [],.sl .nil 7 []]):=upd_same ..
 have g24:((H.upd b4 (.cells zO)).upd b5 (.cells [.int .i64 kind,.str [],.sl .nil 10 [],.sl .nil 2 [],.sl .nil 7 []])) b4=some (.cells zO):=by rw[upd_ne (Ne.symm h54),upd_same]
 simp only[zO] at g25 g24
 simp(disch:=first|omega|assumption) only[go_sem]
 generalize hHa:za.upd (za.upd H b4 _) b5 _=Ha at *
 refine zK (zjq (dp:=16-16) hp2 hr2) fun v H3 ⟨hv3,hH⟩=>?_
 subst hv3;subst hH
 by_cases hk2:(hdT t).k=2
 ·have hk2':((hdT t).k=2)=True:=eq_true hk2
  rw[if_pos hk2] at hx
  simp(disch:=first|omega|assumption) only[Yw,hk2',go_sem]
  refine zp (zaC (dp:=16-16) hp2 hll hr2) (fun v H3 ⟨s,t3,e3,hv3,ha3⟩=>?_) fun v H3 ⟨n,e3,hv3⟩=>pan v H3 n hv3 (by rw[hx,e3];rfl)
  subst hv3
  rw[e3,zF] at hx
  have g35:H3 b5=some (.cells [.int .i64 kind,.str [],.sl .nil 10 [],.sl .nil 2 [],.sl .nil 7 []]):=by rw[ha3.other n5s,g25]
  have g34:H3 b4=some (.cells zO):=by rw[ha3.other n4s,g24]
  have K3:=(K2.call ha3).box (x:=.cells [.int .i64 kind,.str s,.sl .nil 10 [],.sl .nil 2 [],.sl .nil 7 []]) hb5H
  obtain⟨p3,hp3,hr3⟩:=K3.here
  simp(disch:=first|omega|assumption) only[g35,go_sem]
  refine zK (zaJ (dp:=16-16) hp3 hll hr3 [40]) fun v H4 ⟨hv4,ha4⟩=>?_
  subst hv4
  have K4:=K3.call ha4
  have g45:H4 b5=some (.cells [.int .i64 kind,.str s,.sl .nil 10 [],.sl .nil 2 [],.sl .nil 7 []]):=by rw[ha4.other n5s];(exact upd_same ..)
  have g44:H4 b4=some (.cells zO):=by rw[ha4.other n4s];(rw[upd_ne (Ne.symm h54)];exact g34)
  unfold Y8 at K4
  obtain⟨p4,hp4,hr4⟩:=K4.here
  cases hi:isP [40] t3 with
  | false =>
   rw[hi] at hx K4 hp4
   simp only[Al7,if_false,zF] at hx K4 hp4
   simp(disch:=first|omega|assumption) only[go_sem]
   refine zp (zbE (Al4 _) hp4 hl hr4) (fun v H8 ⟨d,t8,e8,hv8,ha8⟩=>?_) fun v H8 ⟨n,e8,hv8⟩=>pan v H8 n hv8 (by rw[hx,e8];rfl)
   subst hv8
   rw[e8,zF] at hx
   have K8:=K4.call ha8
   have g85:H8 b5=some (.cells [.int .i64 kind,.str s,(.sl .nil 10 []),.sl .nil 2 [],.sl .nil 7 []]):=by rw[ha8.other n5s,g45]
   have g84:H8 b4=some (.cells zO):=by rw[ha8.other n4s,g44]
   simp(disch:=first|omega|assumption) only[g85,go_sem]
   have K9:=K8.box (x:=.cells [.int .i64 kind,.str s,(.sl .nil 10 []),.sl .no 2 (cDs d),.sl .nil 7 []]) hb5H
   obtain⟨p9,hp9,hr9⟩:=K9.here
   refine zp (zbe 16 (Al4 _) _ r L p9 t8 hp9 hl hr9) (fun v HA ⟨ss,tA,eA,hvA,haA⟩=>?_) fun v HA ⟨n,eA,hvA⟩=>pan v HA n hvA (by rw[hx,eA];rfl)
   subst hvA
   rw[eA,zF] at hx
   have KA:=K9.call haA
   have gA5:HA b5=some (.cells [.int .i64 kind,.str s,(.sl .nil 10 []),.sl .no 2 (cDs d),.sl .nil 7 []]):=by rw[haA.other n5s,upd_same]
   have gA4:HA b4=some (.cells zO):=by rw[haA.other n4s,upd_ne (Ne.symm h54),g84]
   simp only[zO] at gA4
   simp(disch:=first|omega|assumption) only[gA5,gA4,h54,Ne.symm h54,go_sem]
   exact fin _ _ [.agg [.int .i64 kind,.str s,(.sl .nil 10 []),.sl .no 2 (cDs d),.sl .no 7 (cSs ss)]] _ _ (by simp(disch:=first|omega|assumption) only[ir164,zP,yR,go_sem]) hx ((KA.box hb5H).box hb4) (by simp[zc,AV.strip,AV.strip1,cO,cWs])
  | true =>
   rw[hi] at hx K4 hp4
   simp only[if_true] at hx K4 hp4
   have hm1:zaA [41] zaX t3.tail=pb (zaX t3.tail) fun x t=>yA [41] zaX (t.length+1) [x] t:=rfl
   rw[hm1] at hx
   have hsl:=ze6 hp4
   simp(disch:=first|omega|assumption) only[g45,go_sem]
   refine zp (zeZ hp4 hl hr4) (fun v H5 ⟨x1,t5,e5,hv5,ha5⟩=>?_) fun v H5 ⟨n,e5,hv5⟩=>pan v H5 n hv5 (by rw[hx,e5];rfl)
   subst hv5
   rw[e5,zF] at hx
   have hlt1:=zb0.lt (by decide) _ _ _ e5
   have K5:=K4.call ha5
   have g55:H5 b5=some (.cells [.int .i64 kind,.str s,.sl .nil 10 [],.sl .nil 2 [],.sl .nil 7 []]):=by rw[ha5.other n5s,g45]
   have g54:H5 b4=some (.cells zO):=by rw[ha5.other n4s,g44]
   obtain⟨R,hR⟩:∃ R,yA [41] zaX (t5.length+1) [x1] t5=R:=⟨_,rfl⟩
   rw[hR] at hx
   have KO5:KO H r L t5 (16-16) H5 .nil 0 10:=⟨K5,rfl,nofun⟩
   simp(disch:=first|omega|assumption) only[g55,zcV,zbw,go_sem]
   refine zx (yh.nil _ _) (by simp) (by simp[maxLen]) fun o6 H6 hs6=>?_
   have K6:=KO5.app (by simpa using hs6)
   have g65:=KO5.stay hs6 g55
   have g64:=KO5.stay hs6 g54
   simp(disch:=first|omega|assumption) only[g65,zcV,zbw,go_sem]
   refine yK (fun x:Own×List VarD×TS=>[]) (fun x H'=>KO H r L x.2.2 (16-16) H' x.1 x.2.1.length 10∧H' b5=some (.cells [.int .i64 kind,.str s,.sl x.1 10 (cWs x.2.1),.sl .nil 2 [],.sl .nil 7 []])∧H' b4=some (.cells zO)∧(∃ m,x.2.2.length<m∧yA [41] zaX m x.2.1 x.2.2=R)∧x.2.1.length+x.2.2.length≤L.length) (fun x=>x.2.2.length) (o6,[x1],t5) (by simp(disch:=first|omega|assumption) only[go_sem]) ⟨by simpa using K6.box hb5H g65,by rw[upd_same];simp[cWs,zdp],by rw[upd_ne (Ne.symm h54)];exact g64,⟨_,Nat.lt_succ_self _,hR⟩,by simp only[List.length_singleton];omega⟩ ?_
   rintro⟨o,l,u⟩ H7 J ⟨K7,g75,g74,⟨m,hm,hR3⟩,hlen⟩ hJ
   simp only at K7 g75 g74 hm hR3 hlen
   obtain⟨m,rfl⟩:∃ j,m=j+1:=⟨m-1,by omega⟩
   obtain⟨p7,hp7,hr7⟩:=K7.here
   have hcl:=zfj l
   simp(disch:=first|omega|assumption) only[go_sem]
   refine zK (zaJ (dp:=16-16) hp7 hll hr7 [41]) fun v H8 ⟨hv8,ha8⟩=>?_
   subst hv8
   have g85:H8 b5=some (.cells [.int .i64 kind,.str s,.sl o 10 (cWs l),.sl .nil 2 [],.sl .nil 7 []]):=by rw[ha8.other n5s,g75]
   have g84:H8 b4=some (.cells zO):=by rw[ha8.other n4s,g74]
   cases hj:isP [41] u with
   | true =>
    rw[Y8,hj,if_pos rfl] at ha8
    have K8:=K7.toKI.call ha8
    obtain⟨p8,hp8,hr8⟩:=K8.here
    have e1:R=.ok (l,u.tail):=by rw[← hR3,yA,hj];rfl
    rw[e1,zF] at hx
    simp(disch:=first|omega|assumption) only[go_sem]
    refine zp (zbE (Al4 _) hp8 hl hr8) (fun v HB ⟨d,t8,e8,hv8,ha8⟩=>?_) fun v HB ⟨n,e8,hv8⟩=>pan v HB n hv8 (by rw[hx,e8];rfl)
    subst hv8
    rw[e8,zF] at hx
    have KB:=K8.call ha8
    have gB5:HB b5=some (.cells [.int .i64 kind,.str s,(.sl o 10 (cWs l)),.sl .nil 2 [],.sl .nil 7 []]):=by rw[ha8.other n5s,g85]
    have gB4:HB b4=some (.cells zO):=by rw[ha8.other n4s,g84]
    simp(disch:=first|omega|assumption) only[gB5,go_sem]
    have K9:=KB.box (x:=.cells [.int .i64 kind,.str s,(.sl o 10 (cWs l)),.sl .no 2 (cDs d),.sl .nil 7 []]) hb5H
    obtain⟨p9,hp9,hr9⟩:=K9.here
    refine zp (zbe 16 (Al4 _) _ r L p9 t8 hp9 hl hr9) (fun v HA ⟨ss,tA,eA,hvA,haA⟩=>?_) fun v HA ⟨n,eA,hvA⟩=>pan v HA n hvA (by rw[hx,eA];rfl)
    subst hvA
    rw[eA,zF] at hx
    have KA:=K9.call haA
    have gA5:HA b5=some (.cells [.int .i64 kind,.str s,(.sl o 10 (cWs l)),.sl .no 2 (cDs d),.sl .nil 7 []]):=by rw[haA.other n5s,upd_same]
    have gA4:HA b4=some (.cells zO):=by rw[haA.other n4s,upd_ne (Ne.symm h54),gB4]
    simp only[zO] at gA4
    simp(disch:=first|omega|assumption) only[gA5,gA4,h54,Ne.symm h54,go_sem]
    exact fin _ _ [.agg [.int .i64 kind,.str s,(.sl o 10 (cWs l)),.sl .no 2 (cDs d),.sl .no 7 (cSs ss)]] _ _ (by simp(disch:=first|omega|assumption) only[ir164,zP,yR,go_sem]) hx ((KA.box hb5H).box hb4) (by simp[zc,AV.strip,AV.strip1,cO,cWs])
   | false =>
    rw[Y8,hj] at ha8
    have K8:=K7.call (by simpa using ha8)
    obtain⟨p8,hp8,hr8⟩:=K8.here
    rw[yA,hj] at hR3
    simp only[Al7,if_false] at hR3
    simp(disch:=first|omega|assumption) only[g85,go_sem]
    refine zp (zeZ hp8 hl hr8) (fun v H9 ⟨x,t9,e9,hv9,ha9⟩=>?_) fun v H9 ⟨n9,e9,hv9⟩=>pan v H9 n9 hv9 (by rw[hx,← hR3,e9];rfl)
    subst hv9
    rw[e9,zF] at hR3
    have hlt:=zb0.lt (by decide) _ _ _ e9
    have K9:=K8.call ha9
    have g95:H9 b5=some (.cells [.int .i64 kind,.str s,.sl o 10 (cWs l),.sl .nil 2 [],.sl .nil 7 []]):=by rw[ha9.other n5s,g85]
    have g94:H9 b4=some (.cells zO):=by rw[ha9.other n4s,g84]
    simp(disch:=first|omega|assumption) only[g95,zcV,zbw,go_sem]
    refine zx (by rw[hcl];exact K9.own) (by simp only[hcl,Al2,Al3];omega) (by simp only[hcl,Al2,Al3,maxLen];omega) fun oA HA hsA=>?_
    have KA:=K9.app (by simpa[hcl] using hsA)
    have gA5:=K9.stay hsA g95
    have gA4:=K9.stay hsA g94
    simp(disch:=first|omega|assumption) only[gA5,zcV,zbw,go_sem]
    refine goJ (hJ (oA,l++[x],t9) _ (by simp only;omega) ⟨by simpa using KA.box hb5H gA5,by rw[upd_same];simp[cWs,zdp],by rw[upd_ne (Ne.symm h54)];exact gA4,⟨m,by simp only;omega,hR3⟩,by simp only[Al5,Al2,Al3];omega⟩) (by simp(disch:=first|omega|assumption) only[go_sem])
 ·rw[if_neg hk2,zF] at hx
  simp(disch:=first|omega|assumption) only[Yw,hk2,go_sem]
  refine zK (zaJ (dp:=16-16) hp2 hll hr2 [40]) fun v H4 ⟨hv4,ha4⟩=>?_
  subst hv4
  have K4:=K2.call ha4
  have g45:H4 b5=some (.cells [.int .i64 kind,.str [],.sl .nil 10 [],.sl .nil 2 [],.sl .nil 7 []]):=by rw[ha4.other n5s];(exact g25)
  have g44:H4 b4=some (.cells zO):=by rw[ha4.other n4s];(exact g24)
  unfold Y8 at K4
  obtain⟨p4,hp4,hr4⟩:=K4.here
  cases hi:isP [40] t with
  | false =>
   rw[hi] at hx K4 hp4
   simp only[Al7,if_false,zF] at hx K4 hp4
   simp(disch:=first|omega|assumption) only[go_sem]
   refine zp (zbE (Al4 _) hp4 hl hr4) (fun v H8 ⟨d,t8,e8,hv8,ha8⟩=>?_) fun v H8 ⟨n,e8,hv8⟩=>pan v H8 n hv8 (by rw[hx,e8];rfl)
   subst hv8
   rw[e8,zF] at hx
   have K8:=K4.call ha8
   have g85:H8 b5=some (.cells [.int .i64 kind,.str [],(.sl .nil 10 []),.sl .nil 2 [],.sl .nil 7 []]):=by rw[ha8.other n5s,g45]
   have g84:H8 b4=some (.cells zO):=by rw[ha8.other n4s,g44]
   simp(disch:=first|omega|assumption) only[g85,go_sem]
   have K9:=K8.box (x:=.cells [.int .i64 kind,.str [],(.sl .nil 10 []),.sl .no 2 (cDs d),.sl .nil 7 []]) hb5H
   obtain⟨p9,hp9,hr9⟩:=K9.here
   refine zp (zbe 16 (Al4 _) _ r L p9 t8 hp9 hl hr9) (fun v HA ⟨ss,tA,eA,hvA,haA⟩=>?_) fun v HA ⟨n,eA,hvA⟩=>pan v HA n hvA (by rw[hx,eA];rfl)
   subst hvA
   rw[eA,zF] at hx
   have KA:=K9.call haA
   have gA5:HA b5=some (.cells [.int .i64 kind,.str [],(.sl .nil 10 []),.sl .no 2 (cDs d),.sl .nil 7 []]):=by rw[haA.other n5s,upd_same]
   have gA4:HA b4=some (.cells zO):=by rw[haA.other n4s,upd_ne (Ne.symm h54),g84]
   simp only[zO] at gA4
   simp(disch:=first|omega|assumption) only[gA5,gA4,h54,Ne.symm h54,go_sem]
   exact fin _ _ [.agg [.int .i64 kind,.str [],(.sl .nil 10 []),.sl .no 2 (cDs d),.sl .no 7 (cSs ss)]] _ _ (by simp(disch:=first|omega|assumption) only[ir164,zP,yR,go_sem]) hx ((KA.box hb5H).box hb4) (by simp[zc,AV.strip,AV.strip1,cO,cWs])
  | true =>
   rw[hi] at hx K4 hp4
   simp only[if_true] at hx K4 hp4
   have hm1:zaA [41] zaX t.tail=pb (zaX t.tail) fun x t=>yA [41] zaX (t.length+1) [x] t:=rfl
   rw[hm1] at hx
   have hsl:=ze6 hp4
   simp(disch:=first|omega|assumption) only[g45,go_sem]
   refine zp (zeZ hp4 hl hr4) (fun v H5 ⟨x1,t5,e5,hv5,ha5⟩=>?_) fun v H5 ⟨n,e5,hv5⟩=>pan v H5 n hv5 (by rw[hx,e5];rfl)
   subst hv5
   rw[e5,zF] at hx
   have hlt1:=zb0.lt (by decide) _ _ _ e5
   have K5:=K4.call ha5
   have g55:H5 b5=some (.cells [.int .i64 kind,.str [],.sl .nil 10 [],.sl .nil 2 [],.sl .nil 7 []]):=by rw[ha5.other n5s,g45]
   have g54:H5 b4=some (.cells zO):=by rw[ha5.other n4s,g44]
   obtain⟨R,hR⟩:∃ R,yA [41] zaX (t5.length+1) [x1] t5=R:=⟨_,rfl⟩
   rw[hR] at hx
   have KO5:KO H r L t5 (16-16) H5 .nil 0 10:=⟨K5,rfl,nofun⟩
   simp(disch:=first|omega|assumption) only[g55,zcV,zbw,go_sem]
   refine zx (yh.nil _ _) (by simp) (by simp[maxLen]) fun o6 H6 hs6=>?_
   have K6:=KO5.app (by simpa using hs6)
   have g65:=KO5.stay hs6 g55
   have g64:=KO5.stay hs6 g54
   simp(disch:=first|omega|assumption) only[g65,zcV,zbw,go_sem]
   refine yK (fun x:Own×List VarD×TS=>[]) (fun x H'=>KO H r L x.2.2 (16-16) H' x.1 x.2.1.length 10∧H' b5=some (.cells [.int .i64 kind,.str [],.sl x.1 10 (cWs x.2.1),.sl .nil 2 [],.sl .nil 7 []])∧H' b4=some (.cells zO)∧(∃ m,x.2.2.length<m∧yA [41] zaX m x.2.1 x.2.2=R)∧x.2.1.length+x.2.2.length≤L.length) (fun x=>x.2.2.length) (o6,[x1],t5) (by simp(disch:=first|omega|assumption) only[go_sem]) ⟨by simpa using K6.box hb5H g65,by rw[upd_same];simp[cWs,zdp],by rw[upd_ne (Ne.symm h54)];exact g64,⟨_,Nat.lt_succ_self _,hR⟩,by simp only[List.length_singleton];omega⟩ ?_
   rintro⟨o,l,u⟩ H7 J ⟨K7,g75,g74,⟨m,hm,hR3⟩,hlen⟩ hJ
   simp only at K7 g75 g74 hm hR3 hlen
   obtain⟨m,rfl⟩:∃ j,m=j+1:=⟨m-1,by omega⟩
   obtain⟨p7,hp7,hr7⟩:=K7.here
   have hcl:=zfj l
   simp(disch:=first|omega|assumption) only[go_sem]
   refine zK (zaJ (dp:=16-16) hp7 hll hr7 [41]) fun v H8 ⟨hv8,ha8⟩=>?_
   subst hv8
   have g85:H8 b5=some (.cells [.int .i64 kind,.str [],.sl o 10 (cWs l),.sl .nil 2 [],.sl .nil 7 []]):=by rw[ha8.other n5s,g75]
   have g84:H8 b4=some (.cells zO):=by rw[ha8.other n4s,g74]
   cases hj:isP [41] u with
   | true =>
    rw[Y8,hj,if_pos rfl] at ha8
    have K8:=K7.toKI.call ha8
    obtain⟨p8,hp8,hr8⟩:=K8.here
    have e1:R=.ok (l,u.tail):=by rw[← hR3,yA,hj];rfl
    rw[e1,zF] at hx
    simp(disch:=first|omega|assumption) only[go_sem]
    refine zp (zbE (Al4 _) hp8 hl hr8) (fun v HB ⟨d,t8,e8,hv8,ha8⟩=>?_) fun v HB ⟨n,e8,hv8⟩=>pan v HB n hv8 (by rw[hx,e8];rfl)
    subst hv8
    rw[e8,zF] at hx
    have KB:=K8.call ha8
    have gB5:HB b5=some (.cells [.int .i64 kind,.str [],(.sl o 10 (cWs l)),.sl .nil 2 [],.sl .nil 7 []]):=by rw[ha8.other n5s,g85]
    have gB4:HB b4=some (.cells zO):=by rw[ha8.other n4s,g84]
    simp(disch:=first|omega|assumption) only[gB5,go_sem]
    have K9:=KB.box (x:=.cells [.int .i64 kind,.str [],(.sl o 10 (cWs l)),.sl .no 2 (cDs d),.sl .nil 7 []]) hb5H
    obtain⟨p9,hp9,hr9⟩:=K9.here
    refine zp (zbe 16 (Al4 _) _ r L p9 t8 hp9 hl hr9) (fun v HA ⟨ss,tA,eA,hvA,haA⟩=>?_) fun v HA ⟨n,eA,hvA⟩=>pan v HA n hvA (by rw[hx,eA];rfl)
    subst hvA
    rw[eA,zF] at hx
    have KA:=K9.call haA
    have gA5:HA b5=some (.cells [.int .i64 kind,.str [],(.sl o 10 (cWs l)),.sl .no 2 (cDs d),.sl .nil 7 []]):=by rw[haA.other n5s,upd_same]
    have gA4:HA b4=some (.cells zO):=by rw[haA.other n4s,upd_ne (Ne.symm h54),gB4]
    simp only[zO] at gA4
    simp(disch:=first|omega|assumption) only[gA5,gA4,h54,Ne.symm h54,go_sem]
    exact fin _ _ [.agg [.int .i64 kind,.str [],(.sl o 10 (cWs l)),.sl .no 2 (cDs d),.sl .no 7 (cSs ss)]] _ _ (by simp(disch:=first|omega|assumption) only[ir164,zP,yR,go_sem]) hx ((KA.box hb5H).box hb4) (by simp[zc,AV.strip,AV.strip1,cO,cWs])
   | false =>
    rw[Y8,hj] at ha8
    have K8:=K7.call (by simpa using ha8)
    obtain⟨p8,hp8,hr8⟩:=K8.here
    rw[yA,hj] at hR3
    simp only[Al7,if_false] at hR3
    simp(disch:=first|omega|assumption) only[g85,go_sem]
    refine zp (zeZ hp8 hl hr8) (fun v H9 ⟨x,t9,e9,hv9,ha9⟩=>?_) fun v H9 ⟨n9,e9,hv9⟩=>pan v H9 n9 hv9 (by rw[hx,← hR3,e9];rfl)
    subst hv9
    rw[e9,zF] at hR3
    have hlt:=zb0.lt (by decide) _ _ _ e9
    have K9:=K8.call ha9
    have g95:H9 b5=some (.cells [.int .i64 kind,.str [],.sl o 10 (cWs l),.sl .nil 2 [],.sl .nil 7 []]):=by rw[ha9.other n5s,g85]
    have g94:H9 b4=some (.cells zO):=by rw[ha9.other n4s,g84]
    simp(disch:=first|omega|assumption) only[g95,zcV,zbw,go_sem]
    refine zx (by rw[hcl];exact K9.own) (by simp only[hcl,Al2,Al3];omega) (by simp only[hcl,Al2,Al3,maxLen];omega) fun oA HA hsA=>?_
    have KA:=K9.app (by simpa[hcl] using hsA)
    have gA5:=K9.stay hsA g95
    have gA4:=K9.stay hsA g94
    simp(disch:=first|omega|assumption) only[gA5,zcV,zbw,go_sem]
    refine goJ (hJ (oA,l++[x],t9) _ (by simp only;omega) ⟨by simpa using KA.box hb5H gA5,by rw[upd_same];simp[cWs,zdp],by rw[upd_ne (Ne.symm h54)];exact gA4,⟨m,by simp only;omega,hR3⟩,by simp only[Al5,Al2,Al3];omega⟩) (by simp(disch:=first|omega|assumption) only[go_sem])
theorem zvl {H:za} {r:Nat} {L p t:TS} (hs:p++t=L) (hl:wT L≤yS) (hr:H r=some (prc L p (16-16))) :
  zj Tryz.prog 165 [.ptr r 0] H (RpE H r L (16-16) (zcG t) (fun x=>.agg (cF x))):=by
 refine ZL (zj.goO (R:=fun v H'=>zel H r L (16-16) (zcG t) (fun x=>.agg (cF x)) v.strip H') (RP:=fun v H'=>zfm (zcG t) v H') ir165 ck165 (Al4 _) fun KP Q hQ hP=>?_)
 have hll:L.length≤yS:=Nat.le_trans (zbf L) hl
 have hll2:=hll
 simp only[yS] at hll2
 have pan:∀(v:AV) (H1:za) (n:Int),v=Zj n→(zcG t)=.error n→KP v H1:=fun v H1 n h1 h2=>hP v H1 H1 (Low.refl _) ⟨n,h2,h1⟩
 have fin:=KI.done hQ
 have K0:=KI.start hs hr
 have hx:zcG t=pb (zcX t) fun s t=>pb (if isW [111,110] t then .ok ((),t.tail) else .error 2) fun _ t=>pb (yT t) fun o t =>
  pb (Yx true 16 t) fun d t=>pb (yo 16 t) fun l t=>.ok (⟨s,o,d,l⟩,t):=rfl
 simp(disch:=first|omega|assumption) only[ir165,go_sem]
 refine zm fun b2 hb2=>?_
 have n2:=K0.ne hb2
 have n2s:=Ne.symm n2
 have K1:=K0.box (x:=.cells [.str [],.str [],.sl .nil 2 [],.sl .nil 7 []]) hb2
 obtain⟨p1,hp1,hr1⟩:=K1.here
 simp(disch:=first|omega|assumption) only[go_sem]
 refine zp (zs2 hp1 hl hr1) (fun v H3 ⟨s,t3,e3,hv3,ha3⟩=>?_) fun v H3 ⟨n,e3,hv3⟩=>pan v H3 n hv3 (by rw[hx,e3];rfl)
 subst hv3
 rw[e3,zF] at hx
 have K3:=K1.call ha3
 have g32:H3 b2=some (.cells [.str [],.str [],.sl .nil 2 [],.sl .nil 7 []]):=by rw[ha3.other n2s,upd_same]
 simp(disch:=first|omega|assumption) only[go_sem]
 refine zm fun b3 hb3=>?_
 have h32:b3≠b2:=fun e=>by subst e;rw[g32] at hb3;cases hb3
 have hb3H:H b3=none:=K3.none hb3
 have n3:=K0.ne hb3H
 have n3s:=Ne.symm n3
 have K4:=K3.box (x:=.cells [.str s,.str [],.sl .nil 2 [],.sl .nil 7 []]) hb3H
 obtain⟨p4,hp4,hr4⟩:=K4.here
 simp(disch:=first|omega|assumption) only[go_sem]
 refine zK (zjF (dp:=16-16) hp4 hll hr4 [111,110]) fun v H5 ⟨hv5,ha5⟩=>?_
 subst hv5
 have K5:=K4.call ha5
 have g53:H5 b3=some (.cells [.str s,.str [],.sl .nil 2 [],.sl .nil 7 []]):=by rw[ha5.other n3s,upd_same]
 have g52:H5 b2=some (.cells [.str [],.str [],.sl .nil 2 [],.sl .nil 7 []]):=by rw[ha5.other n2s,upd_ne (Ne.symm h32),g32]
 unfold YO at K5
 cases hw:isW [111,110] t3 with
 | false =>
  rw[hw] at hx
  simp(disch:=first|omega|assumption) only[go_sem]
  exact zp (zd7 _ r 2) (fun _ _ h=>h.elim) fun v H6 h=>pan v H6 2 h (by rw[hx];rfl)
 | true =>
  rw[hw] at hx K5
  simp only[if_true,zF] at hx K5
  obtain⟨p5,hp5,hr5⟩:=K5.here
  simp(disch:=first|omega|assumption) only[go_sem]
  refine zp (zaC (dp:=16-16) hp5 hll hr5) (fun v H6 ⟨o,t6,e6,hv6,ha6⟩=>?_) fun v H6 ⟨n,e6,hv6⟩=>pan v H6 n hv6 (by rw[hx,e6];rfl)
  subst hv6
  rw[e6,zF] at hx
  have g63:H6 b3=some (.cells [.str s,.str [],.sl .nil 2 [],.sl .nil 7 []]):=by rw[ha6.other n3s,g53]
  have g62:H6 b2=some (.cells [.str [],.str [],.sl .nil 2 [],.sl .nil 7 []]):=by rw[ha6.other n2s,g52]
  have K7:=(K5.call ha6).box (x:=.cells [.str s,.str o,.sl .nil 2 [],.sl .nil 7 []]) hb3H
  obtain⟨p7,hp7,hr7⟩:=K7.here
  simp(disch:=first|omega|assumption) only[g63,go_sem]
  refine zp (zbE (Al4 _) hp7 hl hr7) (fun v H8 ⟨d,t8,e8,hv8,ha8⟩=>?_) fun v H8 ⟨n,e8,hv8⟩=>pan v H8 n hv8 (by rw[hx,e8];rfl)
  subst hv8
  rw[e8,zF] at hx
  have g83:H8 b3=some (.cells [.str s,.str o,.sl .nil 2 [],.sl .nil 7 []]):=by rw[ha8.other n3s,upd_same]
  have g82:H8 b2=some (.cells [.str [],.str [],.sl .nil 2 [],.sl .nil 7 []]):=by rw[ha8.other n2s,upd_ne (Ne.symm h32),g62]
  have K9:=(K7.call ha8).box (x:=.cells [.str s,.str o,.sl .no 2 (cDs d),.sl .nil 7 []]) hb3H
  obtain⟨p9,hp9,hr9⟩:=K9.here
  simp(disch:=first|omega|assumption) only[g83,go_sem]
  refine zp (zbe 16 (Al4 _) _ r L p9 t8 hp9 hl hr9) (fun v HA ⟨ss,tA,eA,hvA,haA⟩=>?_) fun v HA ⟨n,eA,hvA⟩=>pan v HA n hvA (by rw[hx,eA];rfl)
  subst hvA
  rw[eA,zF] at hx
  have KA:=K9.call haA
  have gA3:HA b3=some (.cells [.str s,.str o,.sl .no 2 (cDs d),.sl .nil 7 []]):=by rw[haA.other n3s,upd_same]
  have gA2:HA b2=some (.cells [.str [],.str [],.sl .nil 2 [],.sl .nil 7 []]):=by rw[haA.other n2s,upd_ne (Ne.symm h32),g82]
  simp(disch:=first|omega|assumption) only[gA3,gA2,h32,Ne.symm h32,go_sem]
  exact fin _ _ [.agg [.str s,.str o,.sl .no 2 (cDs d),.sl .no 7 (cSs ss)]] _ _ (by simp(disch:=first|omega|assumption) only[ir165,zP,yR,go_sem]) hx ((KA.box hb3H).box hb2) (by simp[zc,AV.strip,AV.strip1,cF])
end Go.Proofs.YticbbfbpeimkbaaGreatDoor
