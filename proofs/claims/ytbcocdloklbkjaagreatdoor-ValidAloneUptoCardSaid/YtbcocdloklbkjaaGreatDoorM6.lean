import Derived.Lib.ItoaMem
import Derived.Lib.ItoaLen
import Derived.Lib.ValidLaws
import Derived.Lib.Join
import Derived.Lib.DecodeN
import Derived.Lib.TrimUEq
import Derived.Shelf.Strings.OnBuilder
import Derived.Test.YtbcocdloklbkjaaGreatDoorM1
import Derived.Test.YtbcocdloklbkjaaGreatDoorM2
import Derived.Test.YtbcocdloklbkjaaGreatDoorM3
import Derived.Test.YtbcocdloklbkjaaGreatDoorM4
import Derived.Test.YtbcocdloklbkjaaGreatDoorM5
set_option maxRecDepth 100000
set_option linter.all false
namespace Go.Proofs.YtbcocdloklbkjaaGreatDoor
open Go.Ab
def zbo (n:List UInt8) (l:List (List UInt8)) (x:DefD):List (List UInt8):=if x.k=1∧zQ n x.faces=true then zbH l x.nm else l
def zcy (s:SchD) (l:List (List UInt8)) (p:List UInt8):List (List UInt8):=if y8 s p [1]=true then zbH l p else l
theorem zkl (s:SchD) (n:List UInt8):zbm s n=match yN s n with
  | none=>[]
  | some d=>if d.k=1 then [n] else if d.k=2 then s.defs.foldl (zbo n) [] else if d.k=3 then d.parts.foldl (zcy s) [] else []:=rfl
theorem zjM (n:List UInt8) (l:List (List UInt8)) (x:DefD):(zbo n l x).length≤l.length+1:=by have:=zmL l x.nm;unfold zbo;split<;>omega
theorem zkF (s:SchD) (l:List (List UInt8)) (x:List UInt8):(zcy s l x).length≤l.length+1:=by have:=zmL l x;unfold zcy;split<;>omega
theorem zpA (s:SchD) (n:List UInt8) (hb:zJ s≤Lim):zg Tryz.prog 140 [.agg (zq s),.str n] (.sl .no 1 (cT (zbm s n))):=by
 refine zg.go ir140 ck140 (Al4 _) fun KP Q hQ=>?_
 have hl:=yc hb
 have hf:=zeD s n hl
 have hle:=@Ym s n
 have hlb:zJ s≤1099511627776:=hb
 have hkind:=fun p=>zcx s p [1] hl (by decide)
 have e0:=zkl s n
 have hbE:=zeg s.defs
 have hmem:=fun(d:DefD) (h:d∈s.defs)=>zir h
 obtain⟨sd,sq,sm⟩:=s
 generalize hS:(⟨sd,sq,sm⟩:SchD)=s at *
 have hcs:zq s=[.sl .no 6 (cEs sd),.str sq,.str sm]:=by rw[← hS];rfl
 have hsd:s.defs=sd:=by rw[← hS]
 have hbs:bEs sd≤zJ s:=by rw[← hS];simp only[zJ];omega
 rw[hsd] at e0 hbE hmem
 simp only[hcs,List.map,cI] at hf hkind ⊢
 have h1:=zex sd
 have fin:∀ l,zbm s n=l→∀ ρ H vs,zN ρ H ir140.res=some vs→(zd vs).strip=.sl .no 1 (cT l)→Q .ret ρ H:=fun o e ρ H vs h1 h2=>hQ _ ρ H vs nofun h1 (by rw[h2,e])
 simp(disch:=omega) only[ir140,go_sem]
 refine za hf ?_
 cases hfe:yN s n with
 | none =>
  rw[hfe] at e0
  simp(disch:=omega) only[Option.getD,Option.isSome,zE,ye,go_sem]
  refine zb fun b5 hb5=>?_
  simp(disch:=omega) only[ye,go_sem]
  exact fin [] e0 _ _ [.sl .nil 1 []] (by simp(disch:=omega) only[ir140,zN,Zv,go_sem]) rfl
 | some d =>
  rw[hfe] at e0
  obtain⟨_,_,hle2,_⟩:=hle hfe
  obtain⟨k,dn,fs,fl,ps,pa⟩:=d
  simp only at e0 hle2
  have hps:=ZN ps
  by_cases k1:k=1
  ·subst k1
   simp(disch:=omega) only[Option.getD,Option.isSome,ye,go_sem]
   refine zb fun b5 hb5=>?_
   simp(disch:=omega) only[ye,go_sem]
   exact fin [n] (by rw[e0];rfl) _ _ [.sl .full 1 [[.str n]]] (by simp(disch:=omega) only[ir140,zN,Zv,go_sem]) rfl
  by_cases k2:k=2
  ·subst k2
   simp only[Int.reduceEq,if_false,if_true] at e0
   simp(disch:=omega) only[Option.getD,Option.isSome,ye,go_sem]
   refine zb fun b5 hb5=>?_
   simp(disch:=omega) only[ye,h1,go_sem]
   refine zf sd 31 (fun x:Own×List (List UInt8)=>[(7,.sl x.1 1 (cT x.2))]) (fun done rest x H'=>rest.foldl (zbo n) x.2=sd.foldl (zbo n) []∧x.2.length+rest.length≤sd.length∧zY H' x.1 x.2.length 1) (.nil,[]) (by simp(disch:=omega) only[cT,List.map,go_sem]) ⟨rfl,by simp,rfl⟩ ?_ ?_
   ·rintro⟨o1,a⟩ H' J ⟨hn,_,hs⟩ hlt
    simp only[List.foldl] at hn
    simp(disch:=omega) only[h1,hlt,go_sem]
    exact fin a (by rw[e0,← hn]) _ _ [.sl o1 1 (cT a)] (by simp(disch:=omega) only[ir140,zN,Zv,go_sem]) rfl
   ·rintro done x rest ⟨o1,a⟩ H' J hd hlt _ ⟨hn,hle3,hs⟩ hJ
    replace hs:zY H' o1 a.length 1:=hs
    have hg:=zdw hd
    have hx:=hmem x (by rw[hd];simp)
    obtain⟨xk,xn,xfs,xfl,xps,xpa⟩:=x
    have hfs:=ZN xfs
    simp only[bE] at hx
    simp only[List.foldl,Al2] at hn hle3
    have hst:=zjM n a ⟨xk,xn,xfs,xfl,xps,xpa⟩
    simp(disch:=omega) only[h1,hlt,hg,ye,go_sem]
    refine zb fun b9 hb9=>?_
    by_cases hk:xk=1
    case neg =>
     have e2:zbo n a ⟨xk,xn,xfs,xfl,xps,xpa⟩=a:=by simp[zbo,hk]
     rw[e2] at hn
     simp(disch:=omega) only[hk,ye,go_sem]
     exact goJ (hJ (o1,a) _ ⟨hn,by simp only;omega,hs.upd hb9⟩) (by simp(disch:=omega) only[wrap64,go_sem])
    subst hk
    simp(disch:=omega) only[ye,go_sem]
    refine za (yR xfs n (by simp only[Lim];omega)) ?_
    cases hh:zQ n xfs with
    | false =>
     have e2:zbo n a ⟨1,xn,xfs,xfl,xps,xpa⟩=a:=by simp[zbo,hh]
     rw[e2] at hn
     simp(disch:=omega) only[ye,go_sem]
     exact goJ (hJ (o1,a) _ ⟨hn,by simp only;omega,hs.upd hb9⟩) (by simp(disch:=omega) only[wrap64,go_sem])
    | true =>
     have e2:zbo n a ⟨1,xn,xfs,xfl,xps,xpa⟩=zbH a xn:=by simp[zbo,hh]
     rw[e2] at hn hst
     simp(disch:=omega) only[ye,go_sem]
     refine zB (zuY a xn o1 _ (by simp only[Lim];omega) (hs.upd hb9)) fun o2 H2 hs2=>?_
     rw[zK] at hs2
     simp(disch:=omega) only[wrap64,go_sem]
     exact goJ (hJ (o2,zbH a xn) H2 ⟨hn,by simp only;omega,hs2.own⟩) (by simp(disch:=omega) only[go_sem])
  by_cases k3:k=3
  ·subst k3
   simp only[Int.reduceEq,if_false,if_true] at e0
   have h2:=zK ps
   simp(disch:=omega) only[Option.getD,Option.isSome,ye,go_sem]
   refine zb fun b5 hb5=>?_
   simp(disch:=omega) only[ye,h2,go_sem]
   refine zf ps 54 (fun x:Own×List (List UInt8)=>[(7,.sl x.1 1 (cT x.2))]) (fun done rest x H'=>rest.foldl (zcy s) x.2=ps.foldl (zcy s) []∧x.2.length+rest.length≤ps.length∧zY H' x.1 x.2.length 1) (.nil,[]) (by simp(disch:=omega) only[cT,List.map,go_sem]) ⟨rfl,by simp,rfl⟩ ?_ ?_
   ·rintro⟨o1,a⟩ H' J ⟨hn,_,hs⟩ hlt
    simp only[List.foldl] at hn
    simp(disch:=omega) only[h2,hlt,go_sem]
    exact fin a (by rw[e0,← hn]) _ _ [.sl o1 1 (cT a)] (by simp(disch:=omega) only[ir140,zN,Zv,go_sem]) rfl
   ·rintro done x rest ⟨o1,a⟩ H' J hd hlt _ ⟨hn,hle3,hs⟩ hJ
    replace hs:zY H' o1 a.length 1:=hs
    have hg:=ZZ hd
    simp only[List.foldl,Al2] at hn hle3
    have hst:=zkF s a x
    simp(disch:=omega) only[h2,hlt,hg,go_sem]
    refine za (zg.low (hkind x)) ?_
    cases hh:y8 s x [1] with
    | false =>
     have e2:zcy s a x=a:=by simp[zcy,hh]
     rw[e2] at hn
     simp(disch:=omega) only[go_sem]
     exact goJ (hJ (o1,a) _ ⟨hn,by simp only;omega,hs⟩) (by simp(disch:=omega) only[wrap64,go_sem])
    | true =>
     have e2:zcy s a x=zbH a x:=by simp[zcy,hh]
     rw[e2] at hn hst
     simp(disch:=omega) only[go_sem]
     refine zB (zuY a x o1 _ (by simp only[Lim];omega) hs) fun o2 H2 hs2=>?_
     rw[zK] at hs2
     simp(disch:=omega) only[wrap64,go_sem]
     exact goJ (hJ (o2,zbH a x) H2 ⟨hn,by simp only;omega,hs2.own⟩) (by simp(disch:=omega) only[go_sem])
  ·simp only[k1,k2,k3,if_false] at e0
   simp(disch:=omega) only[Option.getD,Option.isSome,ye,go_sem]
   refine zb fun b5 hb5=>?_
   simp(disch:=omega) only[ye,k1,k2,k3,go_sem]
   exact fin [] e0 _ _ [.sl .nil 1 []] (by simp(disch:=omega) only[ir140,zN,Zv,go_sem]) rfl
theorem zY.ofKept {H H':zc} {o o2:Own} {n sz:Nat} (h:zY H o n sz) (hk:Kept H o2 H') (hne:∀ b d d2,o=.tip b d→o2≠.tip b d2):zY H' o n sz:=by
 cases o with
 | tip b d=>exact hk b _ h fun d2 e=>hne b d d2 rfl e
 | no=>exact h
 | nil=>exact h
 | full=>exact h
open Go.Lib Go.RowKit Go.Sort
end Go.Proofs.YtbcocdloklbkjaaGreatDoor
namespace Go.Proofs.YtbcocdloklbkjaaGreatDoor
open Go.Ab
theorem ziO (H:zc) (b:Nat) (x y:AObj):(H.upd b x).upd b y=H.upd b y:=by
 funext c;by_cases e:c=b<;>simp[zc.upd,e]
theorem own_ne {H:zc} {c b d n sz:Nat} {cs:List AV} (h:zY H (.tip b d) n sz) (hc:H c=some (.cells cs)):b≠c:=fun e=>by
 subst e
 have:H b=some (.tip (d+n) sz):=h
 rw[hc] at this;cases this
theorem zom {H H':zc} {o:Own} {n sz c:Nat} {cs:List AV} (h:zY H o n sz) (hc:H c=some (.cells cs)) (hk:Kept H o H'):H' c=some (.cells cs) :=
 hk c _ hc fun d e=>by subst e;exact own_ne h hc rfl
theorem zlY {H:zc} {o:Own} {n sz c:Nat} {cs:List AV} {x:AObj} (h:zY H o n sz) (hc:H c=some (.cells cs)):zY (H.upd c x) o n sz:=by
 cases o with
 | tip b d=>have:=own_ne h hc;show (H.upd c x) b=_;rw[upd_ne this];exact h
 | no=>exact h
 | nil=>exact h
 | full=>exact h
open Go.Lib
end Go.Proofs.YtbcocdloklbkjaaGreatDoor
namespace Go.Proofs.YtbcocdloklbkjaaGreatDoor
open Go.Ab
def cv (v0:Nat) (b:Nat→Nat):Nat→Nat
 | 0=>v0
 | j+1=>cv v0 b j*64+b (j+1) % 64
open Go.Lib
end Go.Proofs.YtbcocdloklbkjaaGreatDoor
namespace Go.Proofs.YtbcocdloklbkjaaGreatDoor
open Go.Ab
open Go.Lib
end Go.Proofs.YtbcocdloklbkjaaGreatDoor
namespace Go.Proofs.YtbcocdloklbkjaaGreatDoor
open Go.Ab
structure WAt (H:zc) (w:Nat) (o:Own) (l:List Tok) (ok:Bool) (dp:Int):Prop where
 cell:H w=some (.cells [.sl o 2 (cKs l),.bool ok,.int .i64 dp])
 own:zY H o l.length 2
structure WStep (H:zc) (o:Own) (w:Nat) (H':zc) (o':Own):Prop where
 keep:∀ c x,c≠w→(∀ d,o≠.tip c d)→H c=some x→H' c=some x
 new:∀ b d,o'=.tip b d→H b=none∨∃ d0,o=.tip b d0
theorem WStep.refl (H:zc) (o:Own) (w:Nat):WStep H o w H o:=⟨fun _ _ _ _ h=>h,fun b d e=>.inr ⟨d,e⟩⟩
theorem WStep.trans {H H1 H2:zc} {o o1 o2:Own} {w:Nat} {x:AObj} (h:WStep H o w H1 o1) (hw:H1 w=some x) (h':WStep H1 o1 w H2 o2):WStep H o w H2 o2:=by
 refine⟨fun c y hc hn hy=>h'.keep c y hc (fun d e=>?_) (h.keep c y hc hn hy),fun b d e=>?_⟩
 ·rcases h.new c d e with h1|⟨d0,h1⟩
  ·rw[hy] at h1;cases h1
  ·exact hn d0 h1
 ·rcases h'.new b d e with h1|⟨d0,h1⟩
  ·cases hb:H b with
   | none=>exact .inl rfl
   | some y =>
    by_cases e2:∃ d,o=.tip b d
    ·exact .inr e2
    ·have hbw:b≠w:=fun e3=>by subst e3;rw[hw] at h1;cases h1
     have:=h.keep b y hbw (fun d e3=>e2 ⟨d,e3⟩) hb
     rw[h1] at this;cases this
  ·exact h.new b d0 h1
theorem WStep.box {H H':zc} {o o':Own} {w b n:Nat} {cs:List AV} (h:WStep H o w H' o') (ho:zY H o n 2) (hb:H b=some (.cells cs)) (hw:b≠w):H' b=some (.cells cs) :=
 h.keep b _ hw (fun d e=>by subst e;exact own_ne ho hb rfl) hb
theorem WStep.upd {H H':zc} {o o':Own} {w:Nat} {x:AObj} (h:WStep H o w H' o'):WStep H o w (H'.upd w x) o' :=
 ⟨fun c y hc hn hy=>by rw[upd_ne hc];exact h.keep c y hc hn hy,h.new⟩
theorem WStep.alloc {H H':zc} {o o':Own} {w b:Nat} {x:AObj} (h:WStep H o w H' o') (hb:H' b=none):WStep H o w (H'.upd b x) o' :=
 ⟨fun c y hc hn hy=>by have:=h.keep c y hc hn hy;rw[upd_ne (fun e=>by subst e;rw[hb] at this;cases this)];exact this,h.new⟩
theorem WAt.alloc {H:zc} {w b:Nat} {o:Own} {l:List Tok} {ok:Bool} {dp:Int} {x:AObj} (h:WAt H w o l ok dp) (hb:H b=none):WAt (H.upd b x) w o l ok dp :=
 ⟨by rw[upd_ne (fun e=>by subst e;rw[h.cell] at hb;cases hb)];exact h.cell,h.own.upd hb⟩
theorem WAt.put {H:zc} {w:Nat} {o:Own} {l:List Tok} {ok ok':Bool} {dp dp':Int} (h:WAt H w o l ok dp):WAt (H.upd w (.cells [.sl o 2 (cKs l),.bool ok',.int .i64 dp'])) w o l ok' dp' :=
 ⟨upd_same ..,zlY h.own h.cell⟩
theorem WAt.app {H H1:zc} {w:Nat} {o o1:Own} {l ts:List Tok} {ok:Bool} {dp:Int} {n:Nat} (h:WAt H w o l ok dp) (hs:OwnS H o H1 o1 n 2) (hn:n=(l++ts).length) :
  H1 w=some (.cells [.sl o 2 (cKs l),.bool ok,.int .i64 dp])∧WAt (H1.upd w (.cells [.sl o1 2 (cKs (l++ts)),.bool ok,.int .i64 dp])) w o1 (l++ts) ok dp∧WStep H o w (H1.upd w (.cells [.sl o1 2 (cKs (l++ts)),.bool ok,.int .i64 dp])) o1:=by
 subst hn
 have hc:=zom h.own h.cell hs.kept
 exact⟨hc,⟨upd_same ..,zlY hs.own hc⟩,fun c y hcw hn hy=>by rw[upd_ne hcw];exact hs.kept c y hy hn,hs.new⟩
abbrev zqg (R:AV→zc→Prop):AEnd→zc→Prop:=fun e H'=>∃ v,e=.ret v∧R v H'
def WC (f:FuncId) (args:List AV) (B:Nat) (lo hi:Int) (r:Int→Bool) (tk:List Tok):Prop :=
 ∀(H:zc) (w:Nat) (o:Own) (l:List Tok) (ok:Bool) (dp:Int),WAt H w o l ok dp→lo≤dp→dp≤hi→l.length+B≤Lim →
  zj Tryz.prog f (.ptr w 0::args) H (zqg fun v H'=>v=.tup []∧∃ o' l',WAt H' w o' l' (ok&&r dp) dp∧WStep H o w H' o'∧l'.length≤l.length+B∧((ok&&r dp)=true→l'=l++tk))
structure WR (H0:zc) (o0:Own) (w:Nat) (l0:List Tok) (ok0:Bool) (dp:Int) (B:Nat) (r:Bool) (tk:List Tok) (H:zc) (o:Own) (l:List Tok):Prop where
 here:WAt H w o l (ok0&&r) dp
 st:WStep H0 o0 w H o
 len:l.length≤l0.length+B
 eq:(ok0&&r)=true→l=l0++tk
theorem WR.refl {H:zc} {o:Own} {w:Nat} {l:List Tok} {ok:Bool} {dp:Int} (h:WAt H w o l ok dp):WR H o w l ok dp 0 true [] H o l :=
 ⟨by rw[Bool.and_true];exact h,.refl _ _ _,Al4 _,fun _=>by simp⟩
theorem WR.alloc {H0 H:zc} {o0 o:Own} {w b B:Nat} {l0 l tk:List Tok} {ok0 r:Bool} {dp:Int} {x:AObj} (h:WR H0 o0 w l0 ok0 dp B r tk H o l) (hb:H b=none):WR H0 o0 w l0 ok0 dp B r tk (H.upd b x) o l :=
 ⟨h.here.alloc hb,h.st.alloc hb,h.len,h.eq⟩
theorem WR.fin {H0 H:zc} {o0 o:Own} {w B B':Nat} {l0 l tk tk':List Tok} {ok0 r r':Bool} {dp:Int} (h:WR H0 o0 w l0 ok0 dp B r tk H o l) (hr:r=r') (ht:r'=true→tk=tk') (hB:B≤B') :
  ∃ o' l',WAt H w o' l' (ok0&&r') dp∧WStep H0 o0 w H o'∧l'.length≤l0.length+B'∧((ok0&&r')=true→l'=l0++tk'):=by
 subst hr
 refine⟨o,l,h.here,h.st,by have:=h.len;omega,fun e=>?_⟩
 rw[h.eq e,ht (by simp only[Al0] at e;exact e.2)]
section
variable {KP:AV→zc→Prop} {Q:AExit→Env→zc→Prop} {st:List Fr} {ρ:Env} {H:zc} {all items:List AItem} {d:Option Nat} {R:List Chk}
theorem zbj {f:FuncId} {args:List AV} {B:Nat} {lo hi:Int} {r:Int→Bool} {tk:List Tok} (hc:WC f args B lo hi r tk) {w:Nat} {o:Own} {l:List Tok} {ok:Bool} {dp:Int} (h:WAt H w o l ok dp) (h0:lo≤dp) (h1:dp≤hi) (hb:l.length+B≤Lim)
  (k:∀ o' l' H',WAt H' w o' l' (ok&&r dp) dp→WStep H o w H' o'→l'.length≤l.length+B→((ok&&r dp)=true→l'=l++tk)→goR Tryz.prog KP Q all items st R (ρ.set d (.tup [])) H') :
  goK Tryz.prog KP Q all items st d R ρ f (.ptr w 0::args) H:=by
 refine zdk (hc H w o l ok dp h h0 h1 hb) fun v H' ⟨hv,o',l',h2,h3,h4,h5⟩=>?_
 subst hv
 exact k o' l' H' h2 h3 h4 h5
theorem zn {f:FuncId} {args:List AV} {B':Nat} {lo hi:Int} {r':Int→Bool} {tk':List Tok} (hc:WC f args B' lo hi r' tk') {H0:zc} {o0 o:Own} {w B:Nat} {l0 l tk:List Tok} {ok0 r:Bool} {dp:Int} (h:WR H0 o0 w l0 ok0 dp B r tk H o l) (h0:lo≤dp) (h1:dp≤hi)
  (hb:l0.length+(B+B')≤Lim) (k:∀ o' l' H',WR H0 o0 w l0 ok0 dp (B+B') (r&&r' dp) (tk++tk') H' o' l'→WStep H o w H' o'→goR Tryz.prog KP Q all items st R (ρ.set d (.tup [])) H') :
  goK Tryz.prog KP Q all items st d R ρ f (.ptr w 0::args) H:=by
 have hlen:=h.len
 refine zbj hc h.here h0 h1 (by omega) fun o' l' H' h2 h3 h4 h5=>k o' l' H' ⟨by rw[← yg];exact h2,h.st.trans h.here.cell h3,by omega,fun e=>?_⟩ h3
 rw[← yg] at e
 rw[h5 e,h.eq (by simp only[Al0] at e ⊢;exact e.1),zbM]
end
theorem zup:zj Tryz.prog 125 [] zc.emp (zqg fun v H'=>∃ w,v=.ptr w 0∧WAt H' w .nil [] true 0):=by
 refine zj.go ir125 ck125 (Al4 _) fun KP Q hQ=>?_
 simp(disch:=omega) only[ir125,go_sem]
 refine zb fun b hb=>?_
 simp(disch:=omega) only[go_sem]
 exact hQ _ _ _ _ [_] nofun rfl (Low.refl _) ⟨b,rfl,upd_same ..,rfl⟩
theorem ZH (b:Bool):WC 126 [.bool b] 0 (-1000) 1000 (fun _=>b) []:=by
 intro H w o l ok dp h h0 h1 hb
 refine zj.go ir126 ck126 (Al4 _) fun KP Q hQ=>?_
 have hc:=h.cell
 cases ok
 ·simp(disch:=omega) only[ir126,hc,go_sem]
  exact hQ _ _ _ _ [] nofun rfl (Low.refl _) ⟨rfl,o,l,h.put,(WStep.refl ..).upd,by simp,fun _=>by simp⟩
 ·simp(disch:=omega) only[ir126,hc,go_sem]
  exact hQ _ _ _ _ [] nofun rfl (Low.refl _) ⟨rfl,o,l,by rw[Bool.true_and];exact h.put,(WStep.refl ..).upd,by simp,fun _=>by simp⟩
theorem yu (s:List UInt8) (hs:s.length≤Lim):WC 189 [.str s] 1 (-1000) 1000 (fun _=>zP s) [wk s]:=by
 intro H w o l ok dp h h0 h1 hb
 refine zj.go ir189 ck189 (Al4 _) fun KP Q hQ=>?_
 have hkl:=yz l
 simp only[Lim] at hb
 simp(disch:=omega) only[ir189,go_sem]
 refine za (zhF s hs) ?_
 simp(disch:=omega) only[go_sem]
 refine zbj (ZH _) h h0 h1 (by simp only[Lim];omega) fun o1 l1 H1 h2 h3 h4 h5=>?_
 have hkl1:=yz l1
 have hc:=h2.cell
 simp(disch:=omega) only[hc,go_sem]
 refine zu (by rw[hkl1];exact h2.own) (by simp only[hkl1,Al2,Al3];omega) (by simp only[hkl1,Al2,Al3,maxLen];omega) fun o2 H2 hs2=>?_
 obtain⟨g1,g2,g3⟩:=h2.app (ts:=[wk s]) hs2 (by simp[hkl1])
 have ek:cKs l1++[[AV.int .i64 2,AV.str s]]=cKs (l1++[wk s]):=zaZ l1 (wk s)
 simp(disch:=omega) only[g1,ek,go_sem]
 exact hQ _ _ _ _ [] nofun rfl (Low.refl _) ⟨rfl,o2,l1++[wk s],g2,h3.trans h2.cell g3,by simp;omega,fun e=>by rw[h5 e];simp⟩
theorem yD (m:List UInt8) (o9:Own):WC 190 [.sl o9 1 [[.str m]]] 1 (-1000) 1000 (fun _=>true) [pk m]:=by
 intro H w o l ok dp h h0 h1 hb
 refine zj.go ir190 ck190 (Al4 _) fun KP Q hQ=>?_
 simp only[Lim] at hb
 simp(disch:=omega) only[ir190,go_sem]
 refine zf [m] 8 (fun x:Own×List Tok=>[]) (fun done rest x H'=>WAt H' w x.1 x.2 ok dp∧WStep H o w H' x.1∧x.2=l++done.map pk) (o,l) (by simp(disch:=omega) only[go_sem]) ⟨h,.refl _ _ _,by simp⟩ ?_ ?_
 ·rintro⟨o1,l1⟩ H1 J ⟨h2,h3,h4⟩ hlt
  simp only at h2 h3 h4
  simp(disch:=omega) only[go_sem]
  refine hQ _ _ H1 H1 [] nofun rfl (Low.refl _) ⟨rfl,o1,l1,by simpa using h2,h3,by rw[h4];simp,fun _=>by rw[h4];simp⟩
 ·rintro done x rest ⟨o1,l1⟩ H1 J hd hlt hlt2 ⟨h2,h3,h4⟩ hJ
  simp only at h2 h3 h4
  have hl1:l1.length≤l.length+1:=by rw[h4];simp only[Al5,List.length_map];have:=congrArg List.length hd;simp at this;omega
  have hg:([[AV.str m]]:List (List AV)).getD done.length []=[.str x]:=by
   have:([m].map fun k=>[AV.str k]).getD done.length []=[.str x]:=yQ hd
   exact this
  have hkl1:=yz l1
  have hc:=h2.cell
  have hlt1:((done.length:Int)<1)=True:=eq_true (by simpa using hlt)
  have hdl:done.length<1:=by simpa using hlt2
  simp(disch:=omega) only[hlt1,hg,hc,go_sem]
  refine zu (by rw[hkl1];exact h2.own) (by simp only[hkl1,Al2,Al3];omega) (by simp only[hkl1,Al2,Al3,maxLen];omega) fun o2 H2 hs2=>?_
  obtain⟨g1,g2,g3⟩:=h2.app (ts:=[pk x]) hs2 (by simp[hkl1])
  have ek:cKs l1++[[AV.int .i64 1,AV.str x]]=cKs (l1++[pk x]):=zaZ l1 (pk x)
  simp(disch:=omega) only[g1,ek,wrap64,go_sem]
  exact goJ (hJ (o2,l1++[pk x]) _ ⟨g2,h3.trans h2.cell g3,by rw[h4];simp⟩) (by simp(disch:=omega) only[go_sem])
theorem zb3 (v:Val):YD v=if zaL v then Yn v else []:=by unfold YD;rfl
theorem zlZ (v:Val) (hw:wfV v) (hv:4*bV v≤Lim) (fixed:Bool):WC 222 [.agg (cV v),.bool fixed] (4*bV v) 0 32 (fun dp=>z6 dp fixed v) (Yn v):=by
 intro H w o l ok dp h h0 h1 hb
 have hvb:bV v≤Lim:=by simp only[Lim] at hv ⊢;omega
 have htl:(YD v).length≤4*bV v:=by
  have:=zdn v
  rw[zb3];split
  ·omega
  ·simp
 have hkt:=yz (YD v)
 have hdv:=zdr v
 have hvl:=zbh v []
 have hcv:=zK (Zp v [])
 simp only[Lim] at hb hv
 refine zj.go ir222 ck222 (Al4 _) fun KP Q hQ=>?_
 have hc:=h.cell
 have fin:∀(b:Bool),b=z6 dp fixed v→∀(H2:zc) (o2:Own) (l2:List Tok),WAt H2 w o2 l2 (ok&&b) dp→WStep H o w H2 o2→l2.length≤l.length+0→((ok&&b)=true→l2=l++[]) →
   ∀(H3:zc) (o3:Own),OwnS H2 o2 H3 o3 ((cKs l2).length+(cKs (YD v)).length) 2 →
   H3 w=some (.cells [.sl o2 2 (cKs l2),.bool (ok&&b),.int .i64 dp])∧∃ o' l',WAt (H3.upd w (.cells [.sl o3 2 (cKs l2++cKs (YD v)),.bool (ok&&b),.int .i64 dp])) w o' l' (ok&&z6 dp fixed v) dp ∧
    WStep H o w (H3.upd w (.cells [.sl o3 2 (cKs l2++cKs (YD v)),.bool (ok&&b),.int .i64 dp])) o'∧l'.length≤l.length+4*bV v∧((ok&&z6 dp fixed v)=true→l'=l++Yn v):=by
  intro b hbr H2 o2 l2 h2 h3 h4 h5 H3 o3 hs
  obtain⟨g1,g2,g3⟩:=h2.app (ts:=YD v) hs (by simp[yz])
  rw[zhb] at g2 g3
  refine⟨g1,o3,l2++YD v,by rw[← hbr];exact g2,h3.trans h2.cell g3,by simp only[Al5];omega,fun e=>?_⟩
  rw[← hbr] at e
  have er:z6 dp fixed v=true:=by rw[← hbr];simp only[Al0] at e;exact e.2
  have ep:zaL v=true:=by simp only[z6,Al0] at er;exact er.1
  rw[h5 e,zb3,ep];simp
 have d1:IntKind.wrap .i64 (dp+Zx v)=dp+Zx v:=wrap64 (by omega) (by omega)
 cases hp:zaL v with
 | false =>
  have hbr:false=z6 dp fixed v:=by simp[z6,hp]
  simp(disch:=omega) only[zp,zl,zh,zo,zm,zi,zr,ir222,go_sem]
  refine za (zbt v hw hv) ?_
  simp(disch:=omega) only[hp,go_sem]
  refine zbj (ZH _) h (by omega) (by omega) (by simp only[Lim];omega) fun o2 l2 H2 h2 h3 h4 h5=>?_
  have hk2:=yz l2
  have hc2:=h2.cell
  simp(disch:=omega) only[hc2,go_sem]
  refine zu (by rw[hk2];exact h2.own) (by rw[hk2,hkt];omega) (by rw[hk2,hkt];simp only[maxLen];omega) fun o3 H3 hs3=>?_
  obtain⟨g1,g2⟩:=fin _ hbr H2 o2 l2 h2 h3 h4 h5 H3 o3 hs3
  simp(disch:=omega) only[g1,ZY,go_sem]
  exact hQ _ _ _ _ [] nofun rfl (Low.refl _) ⟨rfl,g2⟩
 | true =>
  by_cases hd:dp+Zx v≤16
  case neg =>
   have hbr:false=z6 dp fixed v:=by simp[z6,hd]
   simp(disch:=omega) only[zp,zl,zh,zo,zm,zi,zr,ir222,go_sem]
   refine za (zbt v hw hv) ?_
   simp(disch:=omega) only[zp,zl,zh,zo,zm,zi,zr,hp,hc,go_sem]
   refine za (zdM v hvb) ?_
   simp(disch:=omega) only[zp,zl,zh,zo,zm,zi,zr,d1,hd,hc,go_sem]
   refine zbj (ZH _) h (by omega) (by omega) (by simp only[Lim];omega) fun o2 l2 H2 h2 h3 h4 h5=>?_
   have hk2:=yz l2
   have hc2:=h2.cell
   simp(disch:=omega) only[hc2,go_sem]
   refine zu (by rw[hk2];exact h2.own) (by rw[hk2,hkt];omega) (by rw[hk2,hkt];simp only[maxLen];omega) fun o3 H3 hs3=>?_
   obtain⟨g1,g2⟩:=fin _ hbr H2 o2 l2 h2 h3 h4 h5 H3 o3 hs3
   simp(disch:=omega) only[g1,ZY,go_sem]
   exact hQ _ _ _ _ [] nofun rfl (Low.refl _) ⟨rfl,g2⟩
  cases fixed with
  | false =>
   have hbr:true=z6 dp false v:=by simp[z6,hd,hp]
   simp(disch:=omega) only[zp,zl,zh,zo,zm,zi,zr,ir222,go_sem]
   refine za (zbt v hw hv) ?_
   simp(disch:=omega) only[zp,zl,zh,zo,zm,zi,zr,hp,hc,go_sem]
   refine za (zdM v hvb) ?_
   simp(disch:=omega) only[zp,zl,zh,zo,zm,zi,zr,d1,hd,hc,go_sem]
   refine zbj (ZH _) h (by omega) (by omega) (by simp only[Lim];omega) fun o2 l2 H2 h2 h3 h4 h5=>?_
   have hk2:=yz l2
   have hc2:=h2.cell
   simp(disch:=omega) only[hc2,go_sem]
   refine zu (by rw[hk2];exact h2.own) (by rw[hk2,hkt];omega) (by rw[hk2,hkt];simp only[maxLen];omega) fun o3 H3 hs3=>?_
   obtain⟨g1,g2⟩:=fin _ hbr H2 o2 l2 h2 h3 h4 h5 H3 o3 hs3
   simp(disch:=omega) only[g1,ZY,go_sem]
   exact hQ _ _ _ _ [] nofun rfl (Low.refl _) ⟨rfl,g2⟩
  | true =>
   simp(disch:=omega) only[zp,zl,zh,zo,zm,zi,zr,ir222,go_sem]
   refine za (zbt v hw hv) ?_
   simp(disch:=omega) only[zp,zl,zh,zo,zm,zi,zr,hp,hc,go_sem]
   refine za (zdM v hvb) ?_
   simp(disch:=omega) only[zp,zl,zh,zo,zm,zi,zr,d1,hd,hc,go_sem]
   refine za (zk1 v hvb) ?_
   by_cases hz:(Zp v []).length=0
   ·have hbr:true=z6 dp true v:=by simp[z6,hd,hp,hz]
    have hz':¬ ((0:Int)<(Zp v []).length):=by omega
    simp(disch:=omega) only[zp,zl,zh,zo,zm,zi,zr,hcv,hz',go_sem]
    refine zbj (ZH _) h (by omega) (by omega) (by simp only[Lim];omega) fun o2 l2 H2 h2 h3 h4 h5=>?_
    have hk2:=yz l2
    have hc2:=h2.cell
    simp(disch:=omega) only[hc2,go_sem]
    refine zu (by rw[hk2];exact h2.own) (by rw[hk2,hkt];omega) (by rw[hk2,hkt];simp only[maxLen];omega) fun o3 H3 hs3=>?_
    obtain⟨g1,g2⟩:=fin _ hbr H2 o2 l2 h2 h3 h4 h5 H3 o3 hs3
    simp(disch:=omega) only[g1,ZY,go_sem]
    exact hQ _ _ _ _ [] nofun rfl (Low.refl _) ⟨rfl,g2⟩
   ·have hbr:false=z6 dp true v:=by simp[z6,hd,hp,hz]
    have hz':((0:Int)<(Zp v []).length)=True:=eq_true (by omega)
    simp(disch:=omega) only[zp,zl,zh,zo,zm,zi,zr,hcv,hz',go_sem]
    refine zbj (ZH _) h (by omega) (by omega) (by simp only[Lim];omega) fun o2 l2 H2 h2 h3 h4 h5=>?_
    have hk2:=yz l2
    have hc2:=h2.cell
    simp(disch:=omega) only[hc2,go_sem]
    refine zu (by rw[hk2];exact h2.own) (by rw[hk2,hkt];omega) (by rw[hk2,hkt];simp only[maxLen];omega) fun o3 H3 hs3=>?_
    obtain⟨g1,g2⟩:=fin _ hbr H2 o2 l2 h2 h3 h4 h5 H3 o3 hs3
    simp(disch:=omega) only[g1,ZY,go_sem]
    exact hQ _ _ _ _ [] nofun rfl (Low.refl _) ⟨rfl,g2⟩
theorem zj8 (m:Int) (k:Nat) (hk:k≤64):m.fdiv (2 ^ min k IntKind.i64.bits)=m / 2 ^ k:=by
 have e:min k IntKind.i64.bits=k:=by show min k 64=k;omega
 have hp:(0:Int)≤2 ^ k:=by exact_mod_cast Nat.zero_le _
 rw[e,Int.fdiv_eq_ediv_of_nonneg _ hp]
theorem YG (t:TyD) (hs:t.nm.length≤Lim):zg Tryz.prog 199 [.agg (cTy t)] (.bool (zG t)):=by
 refine zg.go ir199 ck199 (Al4 _) fun KP Q hQ=>?_
 obtain⟨nm,ls,ms⟩:=t
 simp only at hs
 simp(disch:=omega) only[ir199,cTy,steps,st2,pev,rev,oev,yj,yt,yB,yC,bound,zM,mm2,mk,zv,AV.cells,AV.boxable,AV.one,AV.strip1,AV.strip2,zL,zI,Nat.reduceEqDiff,reduceCtorEq,↓reduceIte,Nat.reduceAdd,Int.reduceNeg,Nat.reduceLeDiff,Int.reduceToNat,Int.reduceEq,Int.reduceLT,Int.reduceLE,Int.reduceAdd,Io,Im,If,Il,Jt,Jf,AC.rg,Jm,Jl,Ja,Fm,Fl,Fa,Imv,Imb,Iai,Iei,Igi,Isi,Ipf,Ipt,Ilb,Iia,Ilt,Iap,Ink,Iln,Ils,Iad,Iex,Ibx,Ing]
 refine za (zhF nm hs) ?_
 cases h1:zP nm with
 | false =>
  simp(disch:=omega) only[steps,st2,pev,rev,oev,yj,yt,yB,yC,bound,zM,mm2,mk,zv,AV.cells,AV.boxable,AV.one,AV.strip1,AV.strip2,zL,zI,Nat.reduceEqDiff,reduceCtorEq,↓reduceIte,Nat.reduceAdd,Int.reduceNeg,Nat.reduceLeDiff,Int.reduceToNat,Int.reduceEq,Int.reduceLT,Int.reduceLE,Int.reduceAdd]
  exact hQ _ _ _ _ nofun rfl (by simp[zd,ze,AV.strip,AV.strip1,zG,h1])
 | true =>
  by_cases h2:0≤ls
  case neg =>
   simp(disch:=omega) only[h2,steps,st2,pev,rev,oev,yj,yt,yB,yC,bound,zM,mm2,mk,zv,AV.cells,AV.boxable,AV.one,AV.strip1,AV.strip2,zL,zI,Nat.reduceEqDiff,reduceCtorEq,↓reduceIte,Nat.reduceAdd,Int.reduceNeg,Nat.reduceLeDiff,Int.reduceToNat,Int.reduceEq,Int.reduceLT,Int.reduceLE,Int.reduceAdd]
   exact hQ _ _ _ _ nofun rfl (by simp[zd,ze,AV.strip,AV.strip1,zG,h1,h2])
  by_cases h3:ls≤4
  case neg =>
   simp(disch:=omega) only[h2,h3,steps,st2,pev,rev,oev,yj,yt,yB,yC,bound,zM,mm2,mk,zv,AV.cells,AV.boxable,AV.one,AV.strip1,AV.strip2,zL,zI,Nat.reduceEqDiff,reduceCtorEq,↓reduceIte,Nat.reduceAdd,Int.reduceNeg,Nat.reduceLeDiff,Int.reduceToNat,Int.reduceEq,Int.reduceLT,Int.reduceLE,Int.reduceAdd]
   exact hQ _ _ _ _ nofun rfl (by simp[zd,ze,AV.strip,AV.strip1,zG,h1,h2,h3])
  by_cases h4:0≤ms
  case neg =>
   simp(disch:=omega) only[h2,h3,h4,steps,st2,pev,rev,oev,yj,yt,yB,yC,bound,zM,mm2,mk,zv,AV.cells,AV.boxable,AV.one,AV.strip1,AV.strip2,zL,zI,Nat.reduceEqDiff,reduceCtorEq,↓reduceIte,Nat.reduceAdd,Int.reduceNeg,Nat.reduceLeDiff,Int.reduceToNat,Int.reduceEq,Int.reduceLT,Int.reduceLE,Int.reduceAdd]
   exact hQ _ _ _ _ nofun rfl (by simp[zd,ze,AV.strip,AV.strip1,zG,h1,h2,h3,h4])
  have w1:IntKind.wrap .i64 (ls+1)=ls+1:=wrap64 (by omega) (by omega)
  have w2:¬ (ls+1<0):=by omega
  have e1:(ls+1).toNat=ls.toNat+1:=by omega
  have e2:=zj8 ms (ls.toNat+1) (by omega)
  have hpow:(0:Int)<2 ^ (ls.toNat+1):=by exact_mod_cast Nat.pos_of_ne_zero (by simp)
  have e3:(ms / 2 ^ (ls.toNat+1)=0)=(ms<2 ^ (ls.toNat+1)):=propext ⟨fun h=>by
   by_cases hlt:ms<2 ^ (ls.toNat+1)
   ·exact hlt
   ·have:=(Int.le_ediv_iff_mul_le hpow).2 (show 1*2 ^ (ls.toNat+1)≤ms by omega)
    omega,fun h=>Int.ediv_eq_zero_of_lt h4 h⟩
  simp(disch:=omega) only[h2,h3,h4,w1,w2,e1,e2,e3,steps,st2,pev,rev,oev,yj,yt,yB,yC,bound,zM,mm2,mk,zv,AV.cells,AV.boxable,AV.one,AV.strip1,AV.strip2,zL,zI,Nat.reduceEqDiff,reduceCtorEq,↓reduceIte,Nat.reduceAdd,Int.reduceNeg,Nat.reduceLeDiff,Int.reduceToNat,Int.reduceEq,Int.reduceLT,Int.reduceLE,Int.reduceAdd]
  exact hQ _ _ _ _ nofun rfl (by simp[zd,ze,AV.strip,AV.strip1,zG,h1,h2,h3,h4])
theorem WR.cast {H0 H:zc} {o0 o:Own} {w B B':Nat} {l0 l tk tk':List Tok} {ok0 r r':Bool} {dp:Int} (h:WR H0 o0 w l0 ok0 dp B r tk H o l) (hB:B≤B') (hr:r=r') (ht:tk=tk'):WR H0 o0 w l0 ok0 dp B' r' tk' H o l:=by
 subst hr;subst ht
 exact⟨h.here,h.st,by have:=h.len;omega,h.eq⟩
theorem WR.after {H0 H1 H:zc} {o0 o1 o:Own} {w B:Nat} {l0 l tk:List Tok} {ok0 r:Bool} {dp:Int} (h:WR H1 o1 w l0 ok0 dp B r tk H o l) (hs:WStep H0 o0 w H1 o1) {x:AObj} (hw:H1 w=some x):WR H0 o0 w l0 ok0 dp B r tk H o l :=
 ⟨h.here,hs.trans hw h.st,h.len,h.eq⟩
def zci (n:Nat) (m:Int):Nat→List Tok
 | 0=>[]
 | j+1=>zoP n m j++zci n m j
theorem zeR (n:Nat) (m:Int):∀ j,zpm n m j=zci n m (j+1)
 | 0=>by simp[zpm,zci]
 | j+1=>by rw[zpm,zeR n m j];rfl
theorem and1 {x:Int} (h0:0≤x) (h1:x<64):IntKind.wrap .i64 ((BitVec.ofInt IntKind.i64.bits x &&& BitVec.ofInt IntKind.i64.bits 1).toNat:Int)=x % 2:=by
 have:∀ y:Fin 64,IntKind.wrap .i64 ((BitVec.ofInt IntKind.i64.bits (y.val:Int) &&& BitVec.ofInt IntKind.i64.bits 1).toNat:Int)=(y.val:Int) % 2:=by decide +kernel
 have:=this ⟨x.toNat,by omega⟩
 simp only[Int.toNat_of_nonneg h0] at this
 exact this
theorem zfg (t:TyD) (hs:t.nm.length≤Lim):WC 191 [.agg (cTy t)] 20 (-1000) 1000 (fun _=>zG t) (tTy t):=by
 intro H w o l ok dp h h0 h1 hb
 have hb0:=hb
 simp only[Lim] at hb
 refine zj.go ir191 ck191 (Al4 _) fun KP Q hQ=>?_
 obtain⟨nm,ls,ms⟩:=t
 simp only at hs
 have et:cTy ⟨nm,ls,ms⟩=[.str nm,.int .i64 ls,.int .i64 ms]:=rfl
 simp(disch:=omega) only[ir191,et,steps,st2,pev,rev,oev,yj,yt,yB,yC,bound,zM,mm2,mk,zv,AV.cells,AV.boxable,AV.one,AV.strip1,AV.strip2,zL,zI,Nat.reduceEqDiff,reduceCtorEq,↓reduceIte,Nat.reduceAdd,Int.reduceNeg,Nat.reduceLeDiff,Int.reduceToNat,Int.reduceEq,Int.reduceLT,Int.reduceLE,Int.reduceAdd,Io,Im,If,Il,Jt,Jf,AC.rg,Jm,Jl,Ja,Fm,Fl,Fa,Imv,Imb,Iai,Iei,Igi,Isi,Ipf,Ipt,Ilb,Iia,Ilt,Iap,Ink,Iln,Ils,Iad,Iex,Ibx,Ing]
 refine za (show zg Tryz.prog 199 [.agg [.str nm,.int .i64 ls,.int .i64 ms]] (.bool (zG ⟨nm,ls,ms⟩)) from YG ⟨nm,ls,ms⟩ hs) ?_
 simp(disch:=omega) only[steps,st2,pev,rev,oev,yj,yt,yB,yC,bound,zM,mm2,mk,zv,AV.cells,AV.boxable,AV.one,AV.strip1,AV.strip2,zL,zI,Nat.reduceEqDiff,reduceCtorEq,↓reduceIte,Nat.reduceAdd,Int.reduceNeg,Nat.reduceLeDiff,Int.reduceToNat,Int.reduceEq,Int.reduceLT,Int.reduceLE,Int.reduceAdd]
 refine zbj (ZH _) h (by omega) (by omega) (by simp only[Lim];omega) fun o2 l2 H2 h2 h3 h4 h5=>?_
 have hc2:=h2.cell
 cases hok:ok&&zG ⟨nm,ls,ms⟩ with
 | false =>
  rw[hok] at h2 hc2
  simp(disch:=omega) only[hc2,steps,st2,pev,rev,oev,yj,yt,yB,yC,bound,zM,mm2,mk,zv,AV.cells,AV.boxable,AV.one,AV.strip1,AV.strip2,zL,zI,Nat.reduceEqDiff,reduceCtorEq,↓reduceIte,Nat.reduceAdd,Int.reduceNeg,Nat.reduceLeDiff,Int.reduceToNat,Int.reduceEq,Int.reduceLT,Int.reduceLE,Int.reduceAdd]
  exact hQ _ _ H2 H2 [] nofun rfl (Low.refl _) ⟨rfl,o2,l2,by rw[hok];exact h2,h3,by omega,fun e=>by rw[hok] at e;cases e⟩
 | true =>
  rw[hok] at h2 hc2 h5
  have e2:l2=l:=by have:=h5 rfl;simpa using this
  subst e2
  have hrt:zG ⟨nm,ls,ms⟩=true:=by simp only[Al0] at hok;exact hok.2
  have hok1:ok=true:=by simp only[Al0] at hok;exact hok.1
  simp only[zG,Al0,yX] at hrt
  obtain⟨hnm,r1,r2,r3,r4⟩:=hrt
  obtain⟨n,rfl⟩:∃ n:Nat,ls=(n:Int):=⟨ls.toNat,by omega⟩
  have en:(n:Int).toNat=n:=by omega
  rw[en] at r4
  have hn4:n≤4:=by omega
  have hms:ms<64:=by
   have:(2:Int) ^ (n+1)≤2 ^ 5:=by exact_mod_cast Nat.pow_le_pow_right (by decide) (by omega:n+1≤5)
   omega
  have w0:=WR.refl h2
  simp(disch:=omega) only[hc2,steps,st2,pev,rev,oev,yj,yt,yB,yC,bound,zM,mm2,mk,zv,AV.cells,AV.boxable,AV.one,AV.strip1,AV.strip2,zL,zI,Nat.reduceEqDiff,reduceCtorEq,↓reduceIte,Nat.reduceAdd,Int.reduceNeg,Nat.reduceLeDiff,Int.reduceToNat,Int.reduceEq,Int.reduceLT,Int.reduceLE,Int.reduceAdd]
  refine zbF (fun x:Nat×Own×List Tok=>[(16,.int .i64 x.1)]) (fun x H'=>x.1≤n∧WR H2 o2 w l2 true dp x.1 true (List.replicate x.1 (pk [91])) H' x.2.1 x.2.2) (fun x=>n-x.1) (0,o2,l2) (by simp(disch:=omega) only[steps,st2,pev,rev,oev,yj,yt,yB,yC,bound,zM,mm2,mk,zv,AV.cells,AV.boxable,AV.one,AV.strip1,AV.strip2,zL,zI,Nat.reduceEqDiff,reduceCtorEq,↓reduceIte,Nat.reduceAdd,Int.reduceNeg,Nat.reduceLeDiff,Int.reduceToNat,Int.reduceEq,Int.reduceLT,Int.reduceLE,Int.reduceAdd]) ⟨by simp,w0⟩ ?_
  rintro⟨i,o3,l3⟩ H3 J ⟨hi,w3⟩ hJ
  simp only at hi w3
  by_cases hlt:i<n
  ·have hlt':((i:Int)<n)=True:=eq_true (by omega)
   simp(disch:=omega) only[hlt',steps,st2,pev,rev,oev,yj,yt,yB,yC,bound,zM,mm2,mk,zv,AV.cells,AV.boxable,AV.one,AV.strip1,AV.strip2,zL,zI,Nat.reduceEqDiff,reduceCtorEq,↓reduceIte,Nat.reduceAdd,Int.reduceNeg,Nat.reduceLeDiff,Int.reduceToNat,Int.reduceEq,Int.reduceLT,Int.reduceLE,Int.reduceAdd]
   refine zn (yD [91] _) w3 (by omega) (by omega) (by simp only[Lim];omega) fun o4 l4 H4 w4 _=>?_
   simp(disch:=omega) only[wrap64,steps,st2,pev,rev,oev,yj,yt,yB,yC,bound,zM,mm2,mk,zv,AV.cells,AV.boxable,AV.one,AV.strip1,AV.strip2,zL,zI,Nat.reduceEqDiff,reduceCtorEq,↓reduceIte,Nat.reduceAdd,Int.reduceNeg,Nat.reduceLeDiff,Int.reduceToNat,Int.reduceEq,Int.reduceLT,Int.reduceLE,Int.reduceAdd]
   exact goJ (hJ (i+1,o4,l4) H4 (by simp only;omega) ⟨by simp only;omega,w4.cast (Al4 _) rfl (by rw[List.replicate_succ'])⟩) (by simp(disch:=omega) only[Int.natCast_add,steps,st2,pev,rev,oev,yj,yt,yB,yC,bound,zM,mm2,mk,zv,AV.cells,AV.boxable,AV.one,AV.strip1,AV.strip2,zL,zI,Nat.reduceEqDiff,reduceCtorEq,↓reduceIte,Nat.reduceAdd,Int.reduceNeg,Nat.reduceLeDiff,Int.reduceToNat,Int.reduceEq,Int.reduceLT,Int.reduceLE,Int.reduceAdd])
  ·have hlt':¬ ((i:Int)<n):=by omega
   obtain rfl:i=n:=by omega
   simp(disch:=omega) only[hlt',steps,st2,pev,rev,oev,yj,yt,yB,yC,bound,zM,mm2,mk,zv,AV.cells,AV.boxable,AV.one,AV.strip1,AV.strip2,zL,zI,Nat.reduceEqDiff,reduceCtorEq,↓reduceIte,Nat.reduceAdd,Int.reduceNeg,Nat.reduceLeDiff,Int.reduceToNat,Int.reduceEq,Int.reduceLT,Int.reduceLE,Int.reduceAdd]
   refine zn (yu nm hs) w3 (by omega) (by omega) (by simp only[Lim];omega) fun o4 l4 H4 w4 _=>?_
   rw[hnm] at w4
   simp(disch:=omega) only[steps,st2,pev,rev,oev,yj,yt,yB,yC,bound,zM,mm2,mk,zv,AV.cells,AV.boxable,AV.one,AV.strip1,AV.strip2,zL,zI,Nat.reduceEqDiff,reduceCtorEq,↓reduceIte,Nat.reduceAdd,Int.reduceNeg,Nat.reduceLeDiff,Int.reduceToNat,Int.reduceEq,Int.reduceLT,Int.reduceLE,Int.reduceAdd]
   refine zbF (fun x:Nat×Own×List Tok×Nat×List Tok=>[(4,.int .i64 ((x.1:Int)-1))]) (fun x H'=>x.1≤i+1∧x.2.2.2.1+2*x.1≤19∧x.2.2.2.2++zci i ms x.1=tTy ⟨nm,i,ms⟩∧WR H2 o2 w l2 true dp x.2.2.2.1 true x.2.2.2.2 H' x.2.1 x.2.2.1) (fun x=>x.1)
    (i+1,o4,l4,i+1,List.replicate i (pk [91])++[wk nm]) (by simp(disch:=omega) only[Int.natCast_add,Int.add_sub_cancel,steps,st2,pev,rev,oev,yj,yt,yB,yC,bound,zM,mm2,mk,zv,AV.cells,AV.boxable,AV.one,AV.strip1,AV.strip2,zL,zI,Nat.reduceEqDiff,reduceCtorEq,↓reduceIte,Nat.reduceAdd,Int.reduceNeg,Nat.reduceLeDiff,Int.reduceToNat,Int.reduceEq,Int.reduceLT,Int.reduceLE,Int.reduceAdd]) ⟨by simp,by simp only;omega,by simp only[tTy,en,zeR];simp,w4.cast (Al4 _) rfl rfl⟩ ?_
   rintro⟨k,o5,l5,B,tk⟩ H5 J5 ⟨hk,hB,htk,w5⟩ hJ5
   simp only at hk hB htk w5
   cases k with
   | zero =>
    have hz:¬ ((0:Int)≤-1):=by omega
    have w6:=w5.after h3 h2.cell
    simp only[zci,List.append_nil] at htk
    simp(disch:=omega) only[hz,Int.reduceSub,steps,st2,pev,rev,oev,yj,yt,yB,yC,bound,zM,mm2,mk,zv,AV.cells,AV.boxable,AV.one,AV.strip1,AV.strip2,zL,zI,Nat.reduceEqDiff,reduceCtorEq,↓reduceIte,Nat.reduceAdd,Int.reduceNeg,Nat.reduceLeDiff,Int.reduceToNat,Int.reduceEq,Int.reduceLT,Int.reduceLE,Int.reduceAdd]
    refine hQ _ _ H5 H5 [] nofun rfl (Low.refl _) ⟨rfl,?_⟩
    obtain⟨o',l',g1,g2,g3,g4⟩:=w6.fin (B':=20) rfl (fun _=>htk) (by omega)
    rw[hok]
    exact⟨o',l',by simpa using g1,g2,by omega,fun _=>by simpa using g4 rfl⟩
   | succ j =>
    have e0:((j+1:Nat):Int)-1=(j:Int):=by omega
    have hz:((0:Int)≤j)=True:=eq_true (by omega)
    have hbit:=zj8 ms j (by omega)
    have hq0:0≤ms / 2 ^ j:=Int.ediv_nonneg r3 (by exact_mod_cast Nat.zero_le _)
    have hq1:ms / 2 ^ j<64:=by
     have:ms / 2 ^ j≤ms:=Int.ediv_le_self _ r3
     omega
    have ha:=and1 hq0 hq1
    have hj0:¬ ((j:Int)<0):=by omega
    simp only[zci,zoP] at htk
    by_cases hji:j<i
    ·have hji':((j:Int)<i)=True:=eq_true (by omega)
     rw[if_pos hji] at htk
     simp(disch:=omega) only[e0,hz,hji',steps,st2,pev,rev,oev,yj,yt,yB,yC,bound,zM,mm2,mk,zv,AV.cells,AV.boxable,AV.one,AV.strip1,AV.strip2,zL,zI,Nat.reduceEqDiff,reduceCtorEq,↓reduceIte,Nat.reduceAdd,Int.reduceNeg,Nat.reduceLeDiff,Int.reduceToNat,Int.reduceEq,Int.reduceLT,Int.reduceLE,Int.reduceAdd]
     refine zn (yD [93] _) w5 (by omega) (by omega) (by simp only[Lim];omega) fun o6 l6 H6 w6 _=>?_
     by_cases hbt:ms / 2 ^ j % 2=1
     ·have hbb:zcP ms j=true:=by simp[zcP,hbt]
      rw[hbb] at htk
      simp(disch:=omega) only[hbit,hj0,ha,hbt,steps,st2,pev,rev,oev,yj,yt,yB,yC,bound,zM,mm2,mk,zv,AV.cells,AV.boxable,AV.one,AV.strip1,AV.strip2,zL,zI,Nat.reduceEqDiff,reduceCtorEq,↓reduceIte,Nat.reduceAdd,Int.reduceNeg,Nat.reduceLeDiff,Int.reduceToNat,Int.reduceEq,Int.reduceLT,Int.reduceLE,Int.reduceAdd]
      refine zn (yD [33] _) w6 (by omega) (by omega) (by simp only[Lim];omega) fun o7 l7 H7 w7 _=>?_
      simp(disch:=omega) only[wrap64,steps,st2,pev,rev,oev,yj,yt,yB,yC,bound,zM,mm2,mk,zv,AV.cells,AV.boxable,AV.one,AV.strip1,AV.strip2,zL,zI,Nat.reduceEqDiff,reduceCtorEq,↓reduceIte,Nat.reduceAdd,Int.reduceNeg,Nat.reduceLeDiff,Int.reduceToNat,Int.reduceEq,Int.reduceLT,Int.reduceLE,Int.reduceAdd]
      exact goJ (hJ5 (j,o7,l7,B+1+1,tk++[pk [93]]++[pk [33]]) H7 (Nat.lt_succ_self j) ⟨by simp only;omega,by simp only;omega,by rw[← htk];simp,w7.cast (Al4 _) rfl rfl⟩) (by simp(disch:=omega) only[steps,st2,pev,rev,oev,yj,yt,yB,yC,bound,zM,mm2,mk,zv,AV.cells,AV.boxable,AV.one,AV.strip1,AV.strip2,zL,zI,Nat.reduceEqDiff,reduceCtorEq,↓reduceIte,Nat.reduceAdd,Int.reduceNeg,Nat.reduceLeDiff,Int.reduceToNat,Int.reduceEq,Int.reduceLT,Int.reduceLE,Int.reduceAdd])
     ·have hbb:zcP ms j=false:=by simp[zcP,hbt]
      rw[hbb] at htk
      simp(disch:=omega) only[hbit,hj0,ha,hbt,wrap64,steps,st2,pev,rev,oev,yj,yt,yB,yC,bound,zM,mm2,mk,zv,AV.cells,AV.boxable,AV.one,AV.strip1,AV.strip2,zL,zI,Nat.reduceEqDiff,reduceCtorEq,↓reduceIte,Nat.reduceAdd,Int.reduceNeg,Nat.reduceLeDiff,Int.reduceToNat,Int.reduceEq,Int.reduceLT,Int.reduceLE,Int.reduceAdd]
      exact goJ (hJ5 (j,o6,l6,B+1,tk++[pk [93]]) H6 (Nat.lt_succ_self j) ⟨by simp only;omega,by simp only;omega,by rw[← htk];simp,w6.cast (Al4 _) rfl rfl⟩) (by simp(disch:=omega) only[steps,st2,pev,rev,oev,yj,yt,yB,yC,bound,zM,mm2,mk,zv,AV.cells,AV.boxable,AV.one,AV.strip1,AV.strip2,zL,zI,Nat.reduceEqDiff,reduceCtorEq,↓reduceIte,Nat.reduceAdd,Int.reduceNeg,Nat.reduceLeDiff,Int.reduceToNat,Int.reduceEq,Int.reduceLT,Int.reduceLE,Int.reduceAdd])
    ·have hji':¬ ((j:Int)<i):=by omega
     rw[if_neg hji] at htk
     by_cases hbt:ms / 2 ^ j % 2=1
     ·have hbb:zcP ms j=true:=by simp[zcP,hbt]
      rw[hbb] at htk
      simp(disch:=omega) only[e0,hz,hji',hbit,hj0,ha,hbt,steps,st2,pev,rev,oev,yj,yt,yB,yC,bound,zM,mm2,mk,zv,AV.cells,AV.boxable,AV.one,AV.strip1,AV.strip2,zL,zI,Nat.reduceEqDiff,reduceCtorEq,↓reduceIte,Nat.reduceAdd,Int.reduceNeg,Nat.reduceLeDiff,Int.reduceToNat,Int.reduceEq,Int.reduceLT,Int.reduceLE,Int.reduceAdd]
      refine zn (yD [33] _) w5 (by omega) (by omega) (by simp only[Lim];omega) fun o7 l7 H7 w7 _=>?_
      simp(disch:=omega) only[wrap64,steps,st2,pev,rev,oev,yj,yt,yB,yC,bound,zM,mm2,mk,zv,AV.cells,AV.boxable,AV.one,AV.strip1,AV.strip2,zL,zI,Nat.reduceEqDiff,reduceCtorEq,↓reduceIte,Nat.reduceAdd,Int.reduceNeg,Nat.reduceLeDiff,Int.reduceToNat,Int.reduceEq,Int.reduceLT,Int.reduceLE,Int.reduceAdd]
      exact goJ (hJ5 (j,o7,l7,B+1,tk++[pk [33]]) H7 (Nat.lt_succ_self j) ⟨by simp only;omega,by simp only;omega,by rw[← htk];simp,w7.cast (Al4 _) rfl rfl⟩) (by simp(disch:=omega) only[steps,st2,pev,rev,oev,yj,yt,yB,yC,bound,zM,mm2,mk,zv,AV.cells,AV.boxable,AV.one,AV.strip1,AV.strip2,zL,zI,Nat.reduceEqDiff,reduceCtorEq,↓reduceIte,Nat.reduceAdd,Int.reduceNeg,Nat.reduceLeDiff,Int.reduceToNat,Int.reduceEq,Int.reduceLT,Int.reduceLE,Int.reduceAdd])
     ·have hbb:zcP ms j=false:=by simp[zcP,hbt]
      rw[hbb] at htk
      simp(disch:=omega) only[e0,hz,hji',hbit,hj0,ha,hbt,wrap64,steps,st2,pev,rev,oev,yj,yt,yB,yC,bound,zM,mm2,mk,zv,AV.cells,AV.boxable,AV.one,AV.strip1,AV.strip2,zL,zI,Nat.reduceEqDiff,reduceCtorEq,↓reduceIte,Nat.reduceAdd,Int.reduceNeg,Nat.reduceLeDiff,Int.reduceToNat,Int.reduceEq,Int.reduceLT,Int.reduceLE,Int.reduceAdd]
      exact goJ (hJ5 (j,o5,l5,B,tk) H5 (Nat.lt_succ_self j) ⟨by simp only;omega,by simp only;omega,by rw[← htk];simp,w5⟩) (by simp(disch:=omega) only[steps,st2,pev,rev,oev,yj,yt,yB,yC,bound,zM,mm2,mk,zv,AV.cells,AV.boxable,AV.one,AV.strip1,AV.strip2,zL,zI,Nat.reduceEqDiff,reduceCtorEq,↓reduceIte,Nat.reduceAdd,Int.reduceNeg,Nat.reduceLeDiff,Int.reduceToNat,Int.reduceEq,Int.reduceLT,Int.reduceLE,Int.reduceAdd])
theorem za3 (has:Bool) (v:Val) (hw:wfV v) (hv:4*bV v≤Lim):WC 192 [.bool has,.agg (cV v)] (1+4*bV v) 0 32 (fun dp=>if has then z6 dp true v else eqd v zV) (tDf has v):=by
 intro H w o l ok dp h h0 h1 hb
 have hvb:bV v≤Lim:=by simp only[Lim] at hv ⊢;omega
 refine zj.go ir192 ck192 (Al4 _) fun KP Q hQ=>?_
 have w0:=WR.refl h
 cases has with
 | false =>
  simp(disch:=omega) only[zp,zl,zh,zo,zm,zi,zr,ir192,go_sem]
  refine za (zg.low (r:=.bool (eqd v zV)) (by
   have:=zn1 v hvb zV
   simpa[AV.strip,zgB,zmI,AV.strip1] using this)) ?_
  simp(disch:=omega) only[go_sem]
  refine zn (ZH _) w0 (by omega) (by omega) (by omega) fun o2 l2 H2 w2 _=>?_
  simp(disch:=omega) only[go_sem]
  exact hQ _ _ H2 H2 [] nofun rfl (Low.refl _) ⟨rfl,w2.fin (by simp) (fun _=>by simp[tDf]) (by omega)⟩
 | true =>
  simp(disch:=omega) only[zp,zl,zh,zo,zm,zi,zr,ir192,go_sem]
  refine zn (yD [61] _) w0 (by omega) (by omega) (by omega) fun o2 l2 H2 w2 _=>?_
  simp(disch:=omega) only[zp,zl,zh,zo,zm,zi,zr,go_sem]
  refine zn (zlZ v hw hv true) w2 (by omega) (by omega) (by omega) fun o3 l3 H3 w3 _=>?_
  simp(disch:=omega) only[go_sem]
  exact hQ _ _ H3 H3 [] nofun rfl (Low.refl _) ⟨rfl,w3.fin (by simp) (fun _=>by simp[tDf]) (by omega)⟩
theorem zd6 (fixed:Bool) (m:List Mem) (hw:zfU m) (hm:8*bMs m≤Lim):WC 223 [.bool fixed,.sl .no 6 (cMs m)] (2+6*bMs m) 0 32 (fun dp=>Y3 dp fixed m) (zgD m):=by
 intro H w o l ok dp h h0 h1 hb
 have hml:=Ze m
 have hcl:=Za m
 refine zj.go ir223 ck223 (Al4 _) fun KP Q hQ=>?_
 have w0:=WR.refl h
 by_cases hz:m.length=0
 ·have hz':((m.length:Int)=0)=True:=eq_true (by omega)
  simp(disch:=omega) only[ir223,hcl,hz',go_sem]
  have em:=zfh.1 hz
  subst em
  exact hQ _ _ H H [] nofun rfl (Low.refl _) ⟨rfl,w0.fin rfl (fun _=>rfl) (by omega)⟩
 ·have hz':¬ ((m.length:Int)=0):=by omega
  simp(disch:=omega) only[ir223,hcl,hz',go_sem]
  refine zn (yD [40] _) w0 (by omega) (by omega) (by omega) fun o2 l2 H2 w2 _=>?_
  simp(disch:=omega) only[hcl,go_sem]
  refine zf m 16 (fun x:Own×List Tok=>[]) (fun done rest x H'=>WR H o w l ok dp (1+6*bMs done) (Y3 dp fixed done) (pk [40]::Yf done) H' x.1 x.2) (o2,l2) (by simp(disch:=omega) only[go_sem]) (w2.cast (by omega) rfl rfl) ?_ ?_
  ·rintro⟨o3,l3⟩ H3 J w3 hlt
   simp only at w3
   simp(disch:=omega) only[hcl,hlt,go_sem]
   refine zn (yD [41] _) w3 (by omega) (by omega) (by omega) fun o4 l4 H4 w4 _=>?_
   simp(disch:=omega) only[go_sem]
   exact hQ _ _ H4 H4 [] nofun rfl (Low.refl _) ⟨rfl,w4.fin (by simp) (fun _=>by unfold zgD;rw[if_neg hz];rfl) (by omega)⟩
  ·rintro done x rest ⟨o3,l3⟩ H3 J hd hlt hlt2 w3 hJ
   simp only at w3
   have hg:=Zs hd
   have hbm:=zat done x rest
   rw[← hd] at hbm
   have hmem:x∈m:=by rw[hd];simp
   obtain⟨s,v⟩:=x
   have hwv:=zeu hw s v hmem
   have hvp:=YZ v
   simp only[bM] at hbm
   have hm':=hm
   simp only[Lim] at hm'
   have hbw:b0 w=b0 w:=rfl
   simp(disch:=omega) only[zp,zl,zh,zo,zm,zi,zr,hcl,hlt,hg,go_sem]
   refine zb fun b hb=>?_
   have hbw:b≠w:=fun e=>by subst e;rw[w3.here.cell] at hb;cases hb
   have w4:=w3.alloc (x:=.cells (.str s::cV v)) hb
   have hbc:(H3.upd b (.cells (.str s::cV v))) b=some (.cells (.str s::cV v)):=upd_same ..
   simp(disch:=omega) only[zp,zl,zh,zo,zm,zi,zr,go_sem]
   refine zn (yu s (by simp only[Lim];omega)) w4 (by omega) (by omega) (by omega) fun o5 l5 H5 w5 s5=>?_
   have hb5:=s5.box w4.here.own hbc hbw
   simp(disch:=omega) only[zp,zl,zh,zo,zm,zi,zr,hb5,go_sem]
   refine zn (yD [58] _) w5 (by omega) (by omega) (by omega) fun o6 l6 H6 w6 s6=>?_
   have hb6:=s6.box w5.here.own hb5 hbw
   simp(disch:=omega) only[zp,zl,zh,zo,zm,zi,zr,hb6,go_sem]
   refine zn (zlZ v hwv (by simp only[Lim];omega) fixed) w6 (by omega) (by omega) (by omega) fun o7 l7 H7 w7 s7=>?_
   simp(disch:=omega) only[wrap64,go_sem]
   exact goJ (hJ (o7,l7) H7 (w7.cast (by rw[zat done (.mk s v) []];simp only[bM,bMs];omega) (by simp[Y3,zi6,yg]) (by rw[zfp];simp[Yf,zj3,wk,pk]))) (by simp(disch:=omega) only[go_sem])
theorem zc2 {t:TyD} (h:zG t=true):0≤t.lists∧t.lists≤4∧0≤t.musts∧t.musts<32:=by
 simp only[zG,Al0,yX] at h
 obtain⟨h1,h2,h3,h4,h5⟩:=h
 have:(2:Int) ^ (t.lists.toNat+1)≤2 ^ 5:=by exact_mod_cast Nat.pow_le_pow_right (by decide) (by omega)
 refine⟨h2,h3,h4,?_⟩
 have e:(2:Int) ^ 5=32:=by decide
 omega
def znv (m:Int):Bool:=decide (m % 2=1)
theorem zuQ (nm:List UInt8) (ls ms:Int) (h0:0≤ms) (h1:ms<64):zg Tryz.prog 200 [.agg [.str nm,.int .i64 ls,.int .i64 ms],.int .i64 0] (.bool (znv ms)):=by
 refine zg.go ir200 ck200 (Al4 _) fun KP Q hQ=>?_
 have hbit:=zj8 ms 0 (by omega)
 simp only[Int.pow_zero,Int.ediv_one] at hbit
 have ha:=and1 h0 h1
 by_cases hbt:ms % 2=1
 ·have hbb:znv ms=true:=by simp[znv,hbt]
  rw[hbb] at hQ
  simp(disch:=omega) only[ir200,hbit,ha,hbt,steps,st2,pev,rev,oev,yj,yt,yB,yC,bound,zM,mm2,mk,zv,AV.cells,AV.boxable,AV.one,AV.strip1,AV.strip2,zL,zI,Nat.reduceEqDiff,reduceCtorEq,↓reduceIte,Nat.reduceAdd,Int.reduceNeg,Nat.reduceLeDiff,Int.reduceToNat,Int.reduceEq,Int.reduceLT,Int.reduceLE,Int.reduceAdd,Io,Im,If,Il,Jt,Jf,AC.rg,Jm,Jl,Ja,Fm,Fl,Fa,Imv,Imb,Iai,Iei,Igi,Isi,Ipf,Ipt,Ilb,Iia,Ilt,Iap,Ink,Iln,Ils,Iad,Iex,Ibx,Ing]
  exact hQ _ _ _ _ nofun rfl (by simp[zd,ze,AV.strip,AV.strip1])
 ·have hbb:znv ms=false:=by simp[znv,hbt]
  rw[hbb] at hQ
  simp(disch:=omega) only[ir200,hbit,ha,hbt,steps,st2,pev,rev,oev,yj,yt,yB,yC,bound,zM,mm2,mk,zv,AV.cells,AV.boxable,AV.one,AV.strip1,AV.strip2,zL,zI,Nat.reduceEqDiff,reduceCtorEq,↓reduceIte,Nat.reduceAdd,Int.reduceNeg,Nat.reduceLeDiff,Int.reduceToNat,Int.reduceEq,Int.reduceLT,Int.reduceLE,Int.reduceAdd,Io,Im,If,Il,Jt,Jf,AC.rg,Jm,Jl,Ja,Fm,Fl,Fa,Imv,Imb,Iai,Iei,Igi,Isi,Ipf,Ipt,Ilb,Iia,Ilt,Iap,Ink,Iln,Ils,Iad,Iex,Ibx,Ing]
  exact hQ _ _ _ _ nofun rfl (by simp[zd,ze,AV.strip,AV.strip1])
def isM (t:TyD):Bool:=zG t&&znv t.musts
theorem isC (t:TyD) (hs:t.nm.length≤Lim):zg Tryz.prog 143 [.agg (cTy t)] (.bool (isM t)):=by
 refine zg.go ir143 ck143 (Al4 _) fun KP Q hQ=>?_
 have hr:=YG t hs
 have hf:=@zc2 t
 obtain⟨nm,ls,ms⟩:=t
 simp only[cTy] at hr
 simp(disch:=omega) only[ir143,cTy,go_sem]
 refine za hr ?_
 cases h:zG ⟨nm,ls,ms⟩ with
 | false =>
  simp(disch:=omega) only[go_sem]
  exact hQ _ _ _ _ nofun rfl (by simp[zd,ze,AV.strip,AV.strip1,isM,h])
 | true =>
  obtain⟨h1,h2,h3,h4⟩:=hf h
  simp only at h1 h2 h3 h4
  simp(disch:=omega) only[go_sem]
  refine za (zuQ nm ls ms h3 (by omega)) ?_
  simp(disch:=omega) only[go_sem]
  exact hQ _ _ _ _ nofun rfl (by simp[zd,ze,AV.strip,AV.strip1,isM,h])
def zTy:TyD:=⟨[],0,0⟩
def Yy (t:TyD):Option TyD:=if zG t=true∧t.lists≠0 then some ⟨t.nm,t.lists-1,t.musts / 2⟩ else none
theorem zsp (t:TyD) (hs:t.nm.length≤Lim):zg Tryz.prog 204 [.agg (cTy t)] (.tup [.agg (cTy ((Yy t).getD zTy)),.bool (Yy t).isSome]):=by
 refine zg.go ir204 ck204 (Al4 _) fun KP Q hQ=>?_
 have hr:=YG t hs
 have hf:=@zc2 t
 obtain⟨nm,ls,ms⟩:=t
 simp only[cTy] at hr
 have fin:∀ o,Yy ⟨nm,ls,ms⟩=o→∀ ρ H vs,zN ρ H ir204.res=some vs→(zd vs).strip=.tup [.agg (cTy (o.getD zTy)),.bool o.isSome]→Q .ret ρ H:=fun o e ρ H vs h1 h2=>hQ _ ρ H vs nofun h1 (by rw[h2,e])
 simp(disch:=omega) only[ir204,cTy,steps,st2,pev,rev,oev,yj,yt,yB,yC,bound,zM,mm2,mk,zv,AV.cells,AV.boxable,AV.one,AV.strip1,AV.strip2,zL,zI,Nat.reduceEqDiff,reduceCtorEq,↓reduceIte,Nat.reduceAdd,Int.reduceNeg,Nat.reduceLeDiff,Int.reduceToNat,Int.reduceEq,Int.reduceLT,Int.reduceLE,Int.reduceAdd,Io,Im,If,Il,Jt,Jf,AC.rg,Jm,Jl,Ja,Fm,Fl,Fa,Imv,Imb,Iai,Iei,Igi,Isi,Ipf,Ipt,Ilb,Iia,Ilt,Iap,Ink,Iln,Ils,Iad,Iex,Ibx,Ing]
 refine zb fun b2 hb2=>?_
 simp(disch:=omega) only[steps,st2,pev,rev,oev,yj,yt,yB,yC,bound,zM,mm2,mk,zv,AV.cells,AV.boxable,AV.one,AV.strip1,AV.strip2,zL,zI,Nat.reduceEqDiff,reduceCtorEq,↓reduceIte,Nat.reduceAdd,Int.reduceNeg,Nat.reduceLeDiff,Int.reduceToNat,Int.reduceEq,Int.reduceLT,Int.reduceLE,Int.reduceAdd]
 refine za hr ?_
 cases h:zG ⟨nm,ls,ms⟩ with
 | false =>
  simp(disch:=omega) only[steps,st2,pev,rev,oev,yj,yt,yB,yC,bound,zM,mm2,mk,zv,AV.cells,AV.boxable,AV.one,AV.strip1,AV.strip2,zL,zI,Nat.reduceEqDiff,reduceCtorEq,↓reduceIte,Nat.reduceAdd,Int.reduceNeg,Nat.reduceLeDiff,Int.reduceToNat,Int.reduceEq,Int.reduceLT,Int.reduceLE,Int.reduceAdd]
  exact fin none (by simp[Yy,h]) _ _ [.agg [.str [],.int .i64 0,.int .i64 0],.bool false] (by simp(disch:=omega) only[ir204,zN,Zv,steps,st2,pev,rev,oev,yj,yt,yB,yC,bound,zM,mm2,mk,zv,AV.cells,AV.boxable,AV.one,AV.strip1,AV.strip2,zL,zI,Nat.reduceEqDiff,reduceCtorEq,↓reduceIte,Nat.reduceAdd,Int.reduceNeg,Nat.reduceLeDiff,Int.reduceToNat,Int.reduceEq,Int.reduceLT,Int.reduceLE,Int.reduceAdd,Io,Im,If,Il,Jt,Jf,AC.rg,Jm,Jl,Ja,Fm,Fl,Fa,Imv,Imb,Iai,Iei,Igi,Isi,Ipf,Ipt,Ilb,Iia,Ilt,Iap,Ink,Iln,Ils,Iad,Iex,Ibx,Ing]) rfl
 | true =>
  obtain⟨h1,h2,h3,h4⟩:=hf h
  simp only at h1 h2 h3 h4
  by_cases hz:ls=0
  ·simp(disch:=omega) only[hz,steps,st2,pev,rev,oev,yj,yt,yB,yC,bound,zM,mm2,mk,zv,AV.cells,AV.boxable,AV.one,AV.strip1,AV.strip2,zL,zI,Nat.reduceEqDiff,reduceCtorEq,↓reduceIte,Nat.reduceAdd,Int.reduceNeg,Nat.reduceLeDiff,Int.reduceToNat,Int.reduceEq,Int.reduceLT,Int.reduceLE,Int.reduceAdd]
   exact fin none (by simp[Yy,hz]) _ _ [.agg [.str [],.int .i64 0,.int .i64 0],.bool false] (by simp(disch:=omega) only[ir204,zN,Zv,steps,st2,pev,rev,oev,yj,yt,yB,yC,bound,zM,mm2,mk,zv,AV.cells,AV.boxable,AV.one,AV.strip1,AV.strip2,zL,zI,Nat.reduceEqDiff,reduceCtorEq,↓reduceIte,Nat.reduceAdd,Int.reduceNeg,Nat.reduceLeDiff,Int.reduceToNat,Int.reduceEq,Int.reduceLT,Int.reduceLE,Int.reduceAdd,Io,Im,If,Il,Jt,Jf,AC.rg,Jm,Jl,Ja,Fm,Fl,Fa,Imv,Imb,Iai,Iei,Igi,Isi,Ipf,Ipt,Ilb,Iia,Ilt,Iap,Ink,Iln,Ils,Iad,Iex,Ibx,Ing]) rfl
  ·have e1:IntKind.wrap .i64 (ls-1)=ls-1:=wrap64 (by omega) (by omega)
   have e2:ms.fdiv (2 ^ min 1 IntKind.i64.bits)=ms / 2:=by have:=zj8 ms 1 (by omega);simpa using this
   simp(disch:=omega) only[hz,e1,e2,steps,st2,pev,rev,oev,yj,yt,yB,yC,bound,zM,mm2,mk,zv,AV.cells,AV.boxable,AV.one,AV.strip1,AV.strip2,zL,zI,Nat.reduceEqDiff,reduceCtorEq,↓reduceIte,Nat.reduceAdd,Int.reduceNeg,Nat.reduceLeDiff,Int.reduceToNat,Int.reduceEq,Int.reduceLT,Int.reduceLE,Int.reduceAdd]
   exact fin (some ⟨nm,ls-1,ms / 2⟩) (by simp[Yy,hz,h]) _ _ [.agg [.str nm,.int .i64 (ls-1),.int .i64 (ms / 2)],.bool true] (by simp(disch:=omega) only[ir204,zN,Zv,steps,st2,pev,rev,oev,yj,yt,yB,yC,bound,zM,mm2,mk,zv,AV.cells,AV.boxable,AV.one,AV.strip1,AV.strip2,zL,zI,Nat.reduceEqDiff,reduceCtorEq,↓reduceIte,Nat.reduceAdd,Int.reduceNeg,Nat.reduceLeDiff,Int.reduceToNat,Int.reduceEq,Int.reduceLT,Int.reduceLE,Int.reduceAdd,Io,Im,If,Il,Jt,Jf,AC.rg,Jm,Jl,Ja,Fm,Fl,Fa,Imv,Imb,Iai,Iei,Igi,Isi,Ipf,Ipt,Ilb,Iia,Ilt,Iap,Ink,Iln,Ils,Iad,Iex,Ibx,Ing]) rfl
def zlj (b a:Int):Bool:=decide (IntKind.i64.wrap ((BitVec.ofInt IntKind.i64.bits b &&& ~~~BitVec.ofInt IntKind.i64.bits a).toNat:Int)=0)
def zaS (a b:TyD):Bool:=zG a&&(zG b&&(decide (a.nm=b.nm)&&(decide (a.lists=b.lists)&&zlj b.musts a.musts)))
theorem zk9 (a b:TyD) (ha:a.nm.length≤Lim) (hb:b.nm.length≤Lim):zg Tryz.prog 151 [.agg (cTy a),.agg (cTy b)] (.bool (zaS a b)):=by
 have hra:=YG a ha
 have hrb:=YG b hb
 obtain⟨an,al,am⟩:=a
 obtain⟨bn,bl,bm⟩:=b
 simp only[cTy] at hra hrb ⊢
 refine zg.go ir151 ck151 (Al4 _) fun KP Q hQ=>?_
 simp(disch:=omega) only[ir151,go_sem]
 refine za hra ?_
 cases h1:zG ⟨an,al,am⟩ with
 | false =>
  simp(disch:=omega) only[go_sem]
  exact hQ _ _ _ _ nofun rfl (by simp[zd,ze,AV.strip,AV.strip1,zaS,h1])
 | true =>
  simp(disch:=omega) only[go_sem]
  refine za hrb ?_
  cases h2:zG ⟨bn,bl,bm⟩ with
  | false =>
   simp(disch:=omega) only[go_sem]
   exact hQ _ _ _ _ nofun rfl (by simp[zd,ze,AV.strip,AV.strip1,zaS,h1,h2])
  | true =>
   by_cases hn:an=bn
   case neg =>
    simp(disch:=omega) only[hn,go_sem]
    exact hQ _ _ _ _ nofun rfl (by simp[zd,ze,AV.strip,AV.strip1,zaS,h1,h2,hn])
   by_cases hl:al=bl
   case neg =>
    simp(disch:=omega) only[hn,hl,go_sem]
    exact hQ _ _ _ _ nofun rfl (by simp[zd,ze,AV.strip,AV.strip1,zaS,h1,h2,hn,hl])
   subst hn
   subst hl
   have e:zaS ⟨an,al,am⟩ ⟨an,al,bm⟩=zlj bm am:=by simp[zaS,h1,h2]
   rw[e] at hQ
   simp(disch:=omega) only[go_sem]
   exact hQ _ _ _ [.bool (zlj bm am)] nofun rfl rfl
def zaw (t:TyD):TyD:=if zG t=true then ⟨t.nm,t.lists,IntKind.i64.wrap ((BitVec.ofInt IntKind.i64.bits t.musts &&& ~~~BitVec.ofInt IntKind.i64.bits 1).toNat:Int)⟩ else t
theorem zrQ (t:TyD) (ht:t.nm.length≤Lim):zg Tryz.prog 152 [.agg (cTy t)] (.agg (cTy (zaw t))):=by
 have hr:=YG t ht
 obtain⟨nm,ls,ms⟩:=t
 simp only[cTy] at hr ⊢
 refine zg.go ir152 ck152 (Al4 _) fun KP Q hQ=>?_
 simp(disch:=omega) only[ir152,steps,st2,pev,rev,oev,yj,yt,yB,yC,bound,zM,mm2,mk,zv,AV.cells,AV.boxable,AV.one,AV.strip1,AV.strip2,zL,zI,Nat.reduceEqDiff,reduceCtorEq,↓reduceIte,Nat.reduceAdd,Int.reduceNeg,Nat.reduceLeDiff,Int.reduceToNat,Int.reduceEq,Int.reduceLT,Int.reduceLE,Int.reduceAdd,Io,Im,If,Il,Jt,Jf,AC.rg,Jm,Jl,Ja,Fm,Fl,Fa,Imv,Imb,Iai,Iei,Igi,Isi,Ipf,Ipt,Ilb,Iia,Ilt,Iap,Ink,Iln,Ils,Iad,Iex,Ibx,Ing]
 refine zb fun b1 hb1=>?_
 simp(disch:=omega) only[steps,st2,pev,rev,oev,yj,yt,yB,yC,bound,zM,mm2,mk,zv,AV.cells,AV.boxable,AV.one,AV.strip1,AV.strip2,zL,zI,Nat.reduceEqDiff,reduceCtorEq,↓reduceIte,Nat.reduceAdd,Int.reduceNeg,Nat.reduceLeDiff,Int.reduceToNat,Int.reduceEq,Int.reduceLT,Int.reduceLE,Int.reduceAdd]
 refine zb fun b2 hb2=>?_
 have hne:=yY hb2
 simp(disch:=omega) only[hne,Ne.symm hne,steps,st2,pev,rev,oev,yj,yt,yB,yC,bound,zM,mm2,mk,zv,AV.cells,AV.boxable,AV.one,AV.strip1,AV.strip2,zL,zI,Nat.reduceEqDiff,reduceCtorEq,↓reduceIte,Nat.reduceAdd,Int.reduceNeg,Nat.reduceLeDiff,Int.reduceToNat,Int.reduceEq,Int.reduceLT,Int.reduceLE,Int.reduceAdd]
 refine za hr ?_
 cases h1:zG ⟨nm,ls,ms⟩ with
 | false =>
  simp(disch:=omega) only[hne,Ne.symm hne,steps,st2,pev,rev,oev,yj,yt,yB,yC,bound,zM,mm2,mk,zv,AV.cells,AV.boxable,AV.one,AV.strip1,AV.strip2,zL,zI,Nat.reduceEqDiff,reduceCtorEq,↓reduceIte,Nat.reduceAdd,Int.reduceNeg,Nat.reduceLeDiff,Int.reduceToNat,Int.reduceEq,Int.reduceLT,Int.reduceLE,Int.reduceAdd]
  exact hQ _ _ _ [.agg [.str nm,.int .i64 ls,.int .i64 ms]] nofun (by simp(disch:=omega) only[ir152,zN,Zv,hne,Ne.symm hne,steps,st2,pev,rev,oev,yj,yt,yB,yC,bound,zM,mm2,mk,zv,AV.cells,AV.boxable,AV.one,AV.strip1,AV.strip2,zL,zI,Nat.reduceEqDiff,reduceCtorEq,↓reduceIte,Nat.reduceAdd,Int.reduceNeg,Nat.reduceLeDiff,Int.reduceToNat,Int.reduceEq,Int.reduceLT,Int.reduceLE,Int.reduceAdd,Io,Im,If,Il,Jt,Jf,AC.rg,Jm,Jl,Ja,Fm,Fl,Fa,Imv,Imb,Iai,Iei,Igi,Isi,Ipf,Ipt,Ilb,Iia,Ilt,Iap,Ink,Iln,Ils,Iad,Iex,Ibx,Ing]) (by simp[zaw,h1];rfl)
 | true =>
  simp(disch:=omega) only[hne,Ne.symm hne,steps,st2,pev,rev,oev,yj,yt,yB,yC,bound,zM,mm2,mk,zv,AV.cells,AV.boxable,AV.one,AV.strip1,AV.strip2,zL,zI,Nat.reduceEqDiff,reduceCtorEq,↓reduceIte,Nat.reduceAdd,Int.reduceNeg,Nat.reduceLeDiff,Int.reduceToNat,Int.reduceEq,Int.reduceLT,Int.reduceLE,Int.reduceAdd]
  exact hQ _ _ _ [.agg [.str nm,.int .i64 ls,.int .i64 (IntKind.i64.wrap ((BitVec.ofInt IntKind.i64.bits ms &&& ~~~BitVec.ofInt IntKind.i64.bits 1).toNat:Int))]] nofun (by simp(disch:=omega) only[ir152,zN,Zv,hne,Ne.symm hne,steps,st2,pev,rev,oev,yj,yt,yB,yC,bound,zM,mm2,mk,zv,AV.cells,AV.boxable,AV.one,AV.strip1,AV.strip2,zL,zI,Nat.reduceEqDiff,reduceCtorEq,↓reduceIte,Nat.reduceAdd,Int.reduceNeg,Nat.reduceLeDiff,Int.reduceToNat,Int.reduceEq,Int.reduceLT,Int.reduceLE,Int.reduceAdd,Io,Im,If,Il,Jt,Jf,AC.rg,Jm,Jl,Ja,Fm,Fl,Fa,Imv,Imb,Iai,Iei,Igi,Isi,Ipf,Ipt,Ilb,Iia,Ilt,Iap,Ink,Iln,Ils,Iad,Iex,Ibx,Ing]) (by simp[zaw,h1];rfl)
def nmW (n:List UInt8) (p:VarD):Bool:=decide (p.nm=n)
def zW:VarD:=⟨[],⟨[],0,0⟩,false,zV⟩
def yb (l:List VarD) (n:List UInt8):Option VarD:=l.find? (nmW n)
theorem zaH (x:VarD):(cW x).length=10:=by obtain⟨nm,t,h,d⟩:=x;cases d;rfl
theorem z8 (nm:List UInt8) (tn:List UInt8) (tl tm:Int) (h:Bool) (k n:Int) (s:List UInt8) (l:List Val) (m:List Mem):cW ⟨nm,⟨tn,tl,tm⟩,h,.mk k n s l m⟩=[.str nm,.str tn,.int .i64 tl,.int .i64 tm,.bool h,.int .i64 k,.int .i64 n,.str s,.sl .no 5 (cVs l),.sl .no 6 (cMs m)]:=rfl
theorem zrV (p:VarD) (n:List UInt8):zg Tryz.prog 142 [.agg (cW p),.view [.str n]] (.bool (nmW n p)):=by
 obtain⟨nm,⟨a,b,c⟩,h,⟨k,q,s,l,m⟩⟩:=p
 refine zg.go ir142 ck142 (Al4 _) fun KP Q hQ=>?_
 simp(disch:=omega) only[ir142,z8,go_sem]
 exact hQ _ _ _ _ nofun rfl (by simp[zd,ze,AV.strip,AV.strip1,nmW])
theorem zdT (l:List VarD) (n:List UInt8) (hl:l.length≤Lim):zg Tryz.prog 97 [.sl .no 10 (cWs l),.str n] (.tup [.agg (cW ((yb l n).getD zW)),.bool (yb l n).isSome]):=by
 refine zg.go ir97 ck97 (Al4 _) fun KP Q hQ=>?_
 have hlb:=hl
 simp only[Lim] at hlb
 have hx:=ztn cW zaH l 142 [.view [.str n]] (nmW n) hl (by kernel_rfl) fun x _=>zrV x n
 have fin:∀ o,yb l n=o→∀ ρ H vs,zN ρ H ir97.res=some vs→(zd vs).strip=.tup [.agg (cW (o.getD zW)),.bool o.isSome]→Q .ret ρ H:=fun o e ρ H vs h1 h2=>hQ _ ρ H vs nofun h1 (by rw[h2,e])
 simp(disch:=omega) only[ir97,go_sem]
 refine zb fun b4 hb4=>?_
 simp(disch:=omega) only[go_sem]
 refine za hx ?_
 rcases zal (nmW n) l 0 with ⟨a,x,r,h1,h2,h3,h4⟩|⟨h1,h2⟩
 ·rw[h4,Int.zero_add]
  have hg:=Zm h1
  have h6:=Zr l
  have h5:(a.length:Int)<l.length:=by rw[h1,Al5,Al2];omega
  have h7:¬ ((a.length:Int)<0):=by omega
  have e:yb l n=some x:=h3
  obtain⟨nm,⟨t1,t2,t3⟩,h,⟨k,q,s,l2,m⟩⟩:=x
  rw[z8] at hg
  simp(disch:=omega) only[hg,h6,h5,h7,go_sem]
  exact fin _ e _ _ [.agg (cW ⟨nm,⟨t1,t2,t3⟩,h,.mk k q s l2 m⟩),.bool true] (by simp(disch:=omega) only[ir97,zN,Zv,z8,go_sem]) rfl
 ·rw[h2]
  have e:yb l n=none:=h1
  simp(disch:=omega) only[go_sem]
  exact fin _ e _ _ [.agg [.str [],.str [],.int .i64 0,.int .i64 0,.bool false,.int .i64 0,.int .i64 0,.str [],.sl .nil 5 [],.sl .nil 6 []],.bool false] (by simp(disch:=omega) only[ir97,zN,Zv,go_sem]) rfl
def zgb (p:VarD):Bool:=isM p.t&&!p.has
theorem zto (p:VarD) (hl:p.t.nm.length≤Lim):zg Tryz.prog 100 [.agg (cW p)] (.bool (zgb p)):=by
 have hi:=isC p.t hl
 obtain⟨nm,⟨a,b,c⟩,h,⟨k,q,s,l,m⟩⟩:=p
 simp only[cTy] at hi
 refine zg.go ir100 ck100 (Al4 _) fun KP Q hQ=>?_
 simp(disch:=omega) only[ir100,z8,go_sem]
 refine za hi ?_
 cases h1:isM ⟨a,b,c⟩ with
 | false =>
  simp(disch:=omega) only[go_sem]
  exact hQ _ _ _ _ nofun rfl (by simp[zd,ze,AV.strip,AV.strip1,zgb,h1])
 | true =>
  simp(disch:=omega) only[go_sem]
  exact hQ _ _ _ _ nofun rfl (by simp[zd,ze,AV.strip,AV.strip1,zgb,h1])
open Classical in
noncomputable def zaa (s:SchD) (t:TyD) (v:Val) (w:Bool):Bool:=if h:∃ r:Bool,zg Tryz.prog 149 [.agg (zq s),.agg (cTy t),.agg (cV v),.bool w] (.bool r) then Classical.choose h else false
theorem zce {s:SchD} {t:TyD} {v:Val} {w:Bool} (h:∃ r:Bool,zg Tryz.prog 149 [.agg (zq s),.agg (cTy t),.agg (cV v),.bool w] (.bool r)):zg Tryz.prog 149 [.agg (zq s),.agg (cTy t),.agg (cV v),.bool w] (.bool (zaa s t v w)):=by
 unfold zaa;rw[dif_pos h];exact Classical.choose_spec h
def zhW (n:List UInt8):Mem→Bool
 | .mk x _=>decide (x=n)
noncomputable def zlB (s:SchD) (ps:List VarD):List Mem→List Mem→Bool
 | _,[]=>true
 | seen,.mk n v::r=>(match yb ps n with|none=>false|some p=>zaa s p.t v false)&&(!seen.any (zhW n)&&zlB s ps (seen++[.mk n v]) r)
def zdB (ps:List VarD) (m:List Mem):Bool:=ps.all fun p=>(zbZ p.nm m).2||!zgb p
noncomputable def zdD (s:SchD) (ps:List VarD):Val→Bool
 | .mk k _ _ _ m=>decide (k=7)&&(zlB s ps [] m&&zdB ps m)
theorem zrS (x:Mem) (n:List UInt8) (b:Nat) (rest:List AV) (H:zc) (hb:H b=some (.cells (.str n::rest))):zj Tryz.prog 251 [.agg (cM x),.ptr b 0] H (At (.bool (zhW n x)) H):=by
 obtain⟨xn,⟨k,q,s,l,m⟩⟩:=x
 refine zj.go ir251 ck251 (Al4 _) fun KP Q hQ=>?_
 simp(disch:=omega) only[ir251,zr,yo,hb,go_sem]
 exact hQ _ _ _ _ _ nofun rfl (Low.refl _) ⟨by simp[zd,ze,AV.strip,AV.strip1,zhW],rfl⟩
theorem ztX (s : SchD) (ps : List VarD) (v : Val) (hb : bV v ≤ Lim) (hp : ps.length ≤ Lim) (hpt : ∀ p ∈ ps, p.t.nm.length ≤ Lim)
    (hm : ∀ k q st l m, v = .mk k q st l m → ∀ n x, Mem.mk n x ∈ m → ∀ t : TyD, t.nm.length ≤ Lim → zg Tryz.prog 149 [.agg (zq s), .agg (cTy t), .agg (cV x), .bool false] (.bool (zaa s t x false))) :
    zg Tryz.prog 231 [.agg (zq s), .sl .no 10 (cWs ps), .agg (cV v)] (.bool (zdD s ps v)) := by
  obtain ⟨k, q, st, l, m⟩ := v
  replace hm := hm k q st l m rfl
  have hb' : 1 + st.length + bVs l + bMs m ≤ 1099511627776 := hb
  have hml := Ze m
  have h1 := Za m
  have h2 := Zr ps
  have hp' := hp
  simp only [Lim] at hp'
  obtain ⟨sd, sq, sm⟩ := s
  generalize hS : (⟨sd, sq, sm⟩ : SchD) = s at *
  have hcs : zq s = [.sl .no 6 (cEs sd), .str sq, .str sm] := by rw [← hS]; rfl
  simp only [hcs] at hm ⊢
  refine zg.go ir231 ck231 (Al4 _) fun KP Q hQ => ?_
  have fin : ∀ r, zdD s ps (.mk k q st l m) = r → ∀ ρ H, zN ρ H ir231.res = some [.bool r] → Q .ret ρ H := fun r e ρ H h1 => hQ _ ρ H _ nofun h1 (by rw [e]; rfl)
  by_cases k7 : k = 7
  case neg =>
    have e : zdD s ps (.mk k q st l m) = false := by simp [zdD, k7]
    simp (disch := omega) only [ir231, yo, k7, go_sem]
    exact fin _ e _ _ rfl
  subst k7
  simp (disch := omega) only [ir231, yo, h1, go_sem]
  refine zf m 21 (fun _ : Unit => []) (fun done rest _ H => zlB s ps done rest = zlB s ps [] m) () (by simp (disch := omega) only [go_sem]) rfl ?_ ?_
  · rintro _ H J hn hlt
    simp only [zlB] at hn
    simp (disch := omega) only [h1, hlt, h2, go_sem]
    refine zf ps 55 (fun _ : Unit => []) (fun done rest _ H => zdB rest m = zdB ps m) () (by simp (disch := omega) only [go_sem]) rfl ?_ ?_
    · rintro _ H J hn2 hlt
      have h0 : zdB ps m = true := by rw [← hn2]; rfl
      have e : zdD s ps (.mk 7 q st l m) = true := by simp [zdD, ← hn, h0]
      simp (disch := omega) only [h2, hlt, go_sem]
      exact fin _ e _ _ rfl
    · rintro done x rest _ H J hd hlt _ hn2 hJ
      have hg := Zm hd
      have hx := zto x (hpt x (by rw [hd]; simp))
      have hG := zq8 x.nm m (by simp only [Lim]; omega)
      have hstep : zdB (x :: rest) m = (((zbZ x.nm m).2 || !zgb x) && zdB rest m) := by simp [zdB]
      rw [hstep] at hn2
      obtain ⟨nm, ⟨t1, t2, t3⟩, hh, ⟨xk, xq, xs, xl, xm⟩⟩ := x
      rw [z8] at hg hx
      simp only at hG hn2
      simp (disch := omega) only [h2, hlt, hg, go_sem]
      refine zb fun b12 hb12 => ?_
      simp (disch := omega) only [go_sem]
      refine za hG ?_
      generalize zbZ nm m = g at *
      obtain ⟨⟨gk, gq, gs, gl, gm⟩, gb⟩ := g
      simp (disch := omega) only [yo, go_sem]
      refine zb fun b13 hb13 => ?_
      have hne := yY hb13
      cases gb with
      | true =>
        simp only [Bool.true_or, Bool.true_and] at hn2
        simp (disch := omega) only [hne, Ne.symm hne, go_sem]
        exact goJ (hJ () _ hn2) (by simp (disch := omega) only [wrap64, go_sem])
      | false =>
        simp only [Bool.false_or] at hn2
        simp (disch := omega) only [hne, Ne.symm hne, go_sem]
        refine za hx ?_
        cases hr : zgb ⟨nm, ⟨t1, t2, t3⟩, hh, .mk xk xq xs xl xm⟩ with
        | true =>
          rw [hr] at hn2
          have e : zdD s ps (.mk 7 q st l m) = false := by simp [zdD, ← hn2]
          simp (disch := omega) only [go_sem]
          exact fin _ e _ _ rfl
        | false =>
          rw [hr] at hn2
          simp only [Bool.not_false, Bool.true_and] at hn2
          simp (disch := omega) only [go_sem]
          exact goJ (hJ () _ hn2) (by simp (disch := omega) only [wrap64, go_sem])
  · rintro done x rest _ H J hd hlt _ hn hJ
    have hg := Zs hd
    obtain ⟨n, x⟩ := x
    have hmx := hm n x (by rw [hd]; simp)
    have hP := zdT ps n hp
    have hdl : done.length ≤ Lim := by have : m.length = done.length + (rest.length + 1) := by rw [hd]; simp
                                       simp only [Lim]; omega
    have htk : (cMs m).take done.length = done.map cM := by rw [zcu, hd]; simp
    have hstep : zlB s ps done (.mk n x :: rest) = ((match yb ps n with | none => false | some p => zaa s p.t x false) && (!done.any (zhW n) && zlB s ps (done ++ [.mk n x]) rest)) := rfl
    rw [hstep] at hn
    obtain ⟨xk, xq, xs, xl, xm⟩ := x
    rw [zr, yo] at hg
    rw [yo] at hmx
    simp (disch := omega) only [h1, hlt, hg, go_sem]
    refine zb fun b8 hb8 => ?_
    simp (disch := omega) only [go_sem]
    refine za hP ?_
    cases hp2 : yb ps n with
    | none =>
      rw [hp2] at hn
      have e : zdD s ps (.mk 7 q st l m) = false := by simp [zdD, ← hn]
      simp (disch := omega) only [Option.getD, Option.isSome, zW, zV, z8, go_sem]
      refine zb fun b9 hb9 => ?_
      have hne := yY hb9
      simp (disch := omega) only [hne, Ne.symm hne, go_sem]
      exact fin _ e _ _ rfl
    | some p =>
      rw [hp2] at hn
      have hpl := hpt p (List.mem_of_find?_eq_some hp2)
      obtain ⟨pn, ⟨t1, t2, t3⟩, ph, ⟨pk, pq, ps2, pl, pm⟩⟩ := p
      have hf := hmx ⟨t1, t2, t3⟩ hpl
      simp only at hn
      simp only [cTy] at hf
      simp (disch := omega) only [Option.getD, Option.isSome, z8, go_sem]
      refine zb fun b9 hb9 => ?_
      have hne := yY hb9
      simp (disch := omega) only [hne, Ne.symm hne, go_sem]
      refine za hf ?_
      cases hfv : zaa s ⟨t1, t2, t3⟩ (.mk xk xq xs xl xm) false with
      | false =>
        rw [hfv] at hn
        have e : zdD s ps (.mk 7 q st l m) = false := by simp [zdD, ← hn]
        simp (disch := omega) only [go_sem]
        exact fin _ e _ _ rfl
      | true =>
        rw [hfv] at hn
        simp only [Bool.true_and] at hn
        have hle : (done.length : Int) ≤ m.length := by omega
        simp (disch := omega) only [h1, hle, htk, go_sem]
        refine z7 (zrC cM zo done 251 [.ptr b8 0] (zhW n) _ hdl (by kernel_rfl) fun y _ => zrS y n b8 _ _ (by rw [upd_ne (Ne.symm hne), upd_same])) ?_
        rintro _ _ ⟨_, rfl, rfl, rfl⟩
        cases ha : done.any (zhW n) with
        | true =>
          rw [ha] at hn
          have e : zdD s ps (.mk 7 q st l m) = false := by simp [zdD, ← hn]
          simp (disch := omega) only [ZP, ha, go_sem]
          exact fin _ e _ _ rfl
        | false =>
          rw [ha] at hn
          simp (disch := omega) only [ZP, ha, go_sem]
          exact goJ (hJ () _ (by simpa using hn)) (by simp (disch := omega) only [wrap64, go_sem])
noncomputable def zii (s:SchD) (name:List UInt8) (v:Val):Bool:=match yN s name,v with
 | none,_=>false
 | some d,.mk k n st l m=>if d.k=4 then decide (k=5)&&zQ st d.parts else if d.k=5 then zdD s d.ps (.mk k n st l m) else if d.k≠0 then false
  else if name=[73,110,116] then decide (k=2)&&(decide (-2147483648≤n)&&decide (n≤2147483647)) else if name=[83,116,114,105,110,103] then decide (k=4) else if name=[66,111,111,108,101,97,110] then decide (k=1) else if name=[73,68] then decide (k=4)||decide (k=2) else false
theorem Ys {p:VarD}:∀ {l:List VarD},p∈l→bW p≤bWs l
 | x::l,h=>by
  rcases List.mem_cons.1 h with rfl|h
  ·simp only[bWs,List.map_cons,List.sum_cons];omega
  ·have:=Ys h;simp only[bWs,List.map_cons,List.sum_cons] at this ⊢;omega
theorem zs0 (s:SchD) (name:List UInt8) (v:Val) (hs:zJ s≤Lim) (hb:bV v≤Lim)
  (hm:∀ k q st l m,v=.mk k q st l m→∀ n x,Mem.mk n x∈m→∀ t:TyD,t.nm.length≤Lim→zg Tryz.prog 149 [.agg (zq s),.agg (cTy t),.agg (cV x),.bool false] (.bool (zaa s t x false))) :
  zg Tryz.prog 205 [.agg (zq s),.str name,.agg (cV v)] (.bool (zii s name v)):=by
 have hin:=fun ps h1 h2=>ztX s ps v hb h1 h2 hm
 obtain⟨k,q,st,l,m⟩:=v
 have hf:=zeD s name (yc hs)
 have hle:=@Ym s name
 have hsl:zJ s≤1099511627776:=hs
 obtain⟨sd,sq,sm⟩:=s
 generalize hS:(⟨sd,sq,sm⟩:SchD)=s at *
 have hcs:zq s=[.sl .no 6 (cEs sd),.str sq,.str sm]:=by rw[← hS];rfl
 simp only[hcs,yo] at hf hin ⊢
 refine zg.go ir205 ck205 (Al4 _) fun KP Q hQ=>?_
 have fin:∀ r,zii s name (.mk k q st l m)=r→∀ ρ H,zN ρ H ir205.res=some [.bool r]→Q .ret ρ H:=fun r e ρ H h1=>hQ _ ρ H _ nofun h1 (by rw[e];rfl)
 have e0:zii s name (.mk k q st l m)=match yN s name with
  | none=>false
  | some d=>if d.k=4 then decide (k=5)&&zQ st d.parts else if d.k=5 then zdD s d.ps (.mk k q st l m) else if d.k≠0 then false
   else if name=[73,110,116] then decide (k=2)&&(decide (-2147483648≤q)&&decide (q≤2147483647)) else if name=[83,116,114,105,110,103] then decide (k=4) else if name=[66,111,111,108,101,97,110] then decide (k=1) else if name=[73,68] then decide (k=4)||decide (k=2) else false:=by
  unfold zii;cases yN s name<;>rfl
 simp(disch:=omega) only[ir205,go_sem]
 refine za hf ?_
 cases hfe:yN s name with
 | none =>
  rw[hfe] at e0
  simp(disch:=omega) only[Option.getD,Option.isSome,zE,ye,go_sem]
  refine zb fun b7 hb7=>?_
  simp(disch:=omega) only[go_sem]
  exact fin _ e0 _ _ rfl
 | some d =>
  rw[hfe] at e0
  obtain⟨_,_,hle1,hle2⟩:=hle hfe
  obtain⟨dk,dn,fs,fl,ps,pa⟩:=d
  simp only at e0 hle1 hle2
  have hps:=ZN ps
  have hpa:=yS pa
  by_cases k4:dk=4
  ·subst k4
   rw[if_pos rfl] at e0
   simp(disch:=omega) only[Option.getD,Option.isSome,ye,go_sem]
   refine zb fun b7 hb7=>?_
   by_cases k5:k=5
   ·subst k5
    simp(disch:=omega) only[go_sem]
    refine za (yR ps st (by simp only[Lim];omega)) ?_
    simp(disch:=omega) only[go_sem]
    exact fin _ (by rw[e0];simp) _ _ rfl
   ·simp(disch:=omega) only[k5,go_sem]
    exact fin false (by rw[e0];simp[k5]) _ _ rfl
  rw[if_neg k4] at e0
  by_cases k5:dk=5
  ·subst k5
   rw[if_pos rfl] at e0
   simp(disch:=omega) only[Option.getD,Option.isSome,ye,go_sem]
   refine zb fun b7 hb7=>?_
   simp(disch:=omega) only[go_sem]
   refine za (hin pa (by simp only[Lim];omega) fun p hp=>by have:=Ys hp;simp only[bW] at this;simp only[Lim];omega) ?_
   simp(disch:=omega) only[go_sem]
   exact fin _ e0 _ _ rfl
  rw[if_neg k5] at e0
  by_cases k0:dk=0
  case neg =>
   rw[if_pos k0] at e0
   simp(disch:=omega) only[Option.getD,Option.isSome,ye,go_sem]
   refine zb fun b7 hb7=>?_
   simp(disch:=omega) only[k4,k5,k0,go_sem]
   exact fin _ e0 _ _ rfl
  subst k0
  rw[if_neg (by simp)] at e0
  simp(disch:=omega) only[Option.getD,Option.isSome,ye,go_sem]
  refine zb fun b7 hb7=>?_
  by_cases n1:name=[73,110,116]
  ·rw[if_pos n1] at e0
   have n1':=eq_true n1
   by_cases v2:k=2
   case neg =>
    simp(disch:=omega) only[n1',v2,go_sem]
    exact fin false (by rw[e0];simp[v2]) _ _ rfl
   subst v2
   by_cases v3:-2147483648≤q
   case neg =>
    simp(disch:=omega) only[n1',v3,go_sem]
    exact fin false (by rw[e0];simp[v3]) _ _ rfl
   simp(disch:=omega) only[n1',v3,go_sem]
   exact fin (decide (q≤2147483647)) (by rw[e0];simp[v3]) _ _ rfl
  rw[if_neg n1] at e0
  by_cases n2:name=[83,116,114,105,110,103]
  ·rw[if_pos n2] at e0
   have n2':=eq_true n2
   simp(disch:=omega) only[n1,n2',go_sem]
   exact fin _ e0 _ _ rfl
  rw[if_neg n2] at e0
  by_cases n3:name=[66,111,111,108,101,97,110]
  ·rw[if_pos n3] at e0
   have n3':=eq_true n3
   simp(disch:=omega) only[n1,n2,n3',go_sem]
   exact fin _ e0 _ _ rfl
  rw[if_neg n3] at e0
  by_cases n4:name=[73,68]
  ·rw[if_pos n4] at e0
   have n4':=eq_true n4
   by_cases v4:k=4
   ·simp(disch:=omega) only[n1,n2,n3,n4',v4,go_sem]
    exact fin true (by rw[e0];simp[v4]) _ _ rfl
   ·simp(disch:=omega) only[n1,n2,n3,n4',v4,go_sem]
    exact fin (decide (k=2)) (by rw[e0];simp[v4]) _ _ rfl
  rw[if_neg n4] at e0
  simp(disch:=omega) only[n1,n2,n3,n4,go_sem]
  exact fin _ e0 _ _ rfl
noncomputable def zqj (s:SchD) (t:TyD) (v:Val) (w:Bool):Bool:=match v with
 | .mk k n st l m=>if k=8 then zG t else if k=0 then zG t&&!isM t else if zG t=false then false else match Yy t with
  | none=>zii s t.nm (.mk k n st l m)
  | some it=>if k≠6 then !w&&zaa s it (.mk k n st l m) false else l.all fun x=>zaa s it x true
theorem zeN {t it:TyD} (h:Yy t=some it):it.nm=t.nm∧0≤it.lists∧it.lists.toNat+1=t.lists.toNat:=by
 unfold Yy at h
 split at h
 ·rename_i hc
  have:=zc2 hc.1
  have h2:=hc.2
  cases h
  refine⟨rfl,?_,?_⟩
  ·show 0≤t.lists-1
   omega
  ·show (t.lists-1).toNat+1=t.lists.toNat
   omega
 ·cases h
theorem ziy {v:Val}:∀ {l:List Val},v∈l→bV v≤bVs l
 | x::l,h=>by
  rcases List.mem_cons.1 h with rfl|h
  ·simp only[bVs];omega
  ·have:=ziy h;simp only[bVs];omega
theorem zva (s:SchD) (hs:zJ s≤Lim):∀ v:Val,∀(n:Nat) (t:TyD) (w:Bool),t.lists.toNat≤n→bV v≤Lim→t.nm.length≤Lim→zg Tryz.prog 149 [.agg (zq s),.agg (cTy t),.agg (cV v),.bool w] (.bool (zqj s t v w)):=by
 refine Val.ind fun k q st l m ihl ihm=>?_
 have hll:=za0 l
 have h1:=zan l
 intro n
 induction n using Nat.strongRecOn with
 | _ n ih =>
 intro t w hn hb ht
 have hb':1+st.length+bVs l+bMs m≤1099511627776:=hb
 have hr:=YG t ht
 have hi:=isC t ht
 have hit:=zsp t ht
 have hbare:=zs0 s t.nm (.mk k q st l m) hs hb fun k' q' st' l' m' e n' x hx t' ht'=>by
  cases e
  have hxb:bV x≤Lim:=by have:=zed hx;simp only[Lim];omega
  exact zce ⟨_,ihm n' x hx t'.lists.toNat t' false (Al4 _) hxb ht'⟩
 have hsame:∀ it,Yy t=some it→zg Tryz.prog 149 [.agg (zq s),.agg (cTy it),.agg (cV (.mk k q st l m)),.bool false] (.bool (zaa s it (.mk k q st l m) false)):=fun it h=>by
  obtain⟨e1,e2,e3⟩:=zeN h
  exact zce ⟨_,ih it.lists.toNat (by omega) it false (Al4 _) hb (by rw[e1];exact ht)⟩
 have hlist:∀ it,Yy t=some it→∀ x∈l,zg Tryz.prog 149 [.agg (zq s),.agg (cTy it),.agg (cV x),.bool true] (.bool (zaa s it x true)):=fun it h x hx=>by
  obtain⟨e1,e2,e3⟩:=zeN h
  have hxb:bV x≤Lim:=by have:=ziy hx;simp only[Lim];omega
  exact zce ⟨_,ihl x hx it.lists.toNat it true (Al4 _) hxb (by rw[e1];exact ht)⟩
 have e0:zqj s t (.mk k q st l m) w=if k=8 then zG t else if k=0 then zG t&&!isM t else if zG t=false then false else match Yy t with
  | none=>zii s t.nm (.mk k q st l m)
  | some it=>if k≠6 then !w&&zaa s it (.mk k q st l m) false else l.all fun x=>zaa s it x true:=rfl
 generalize zqj s t (.mk k q st l m) w=F at *
 obtain⟨sd,sq,sm⟩:=s
 generalize hS:(⟨sd,sq,sm⟩:SchD)=s at *
 have hcs:zq s=[.sl .no 6 (cEs sd),.str sq,.str sm]:=by rw[← hS];rfl
 obtain⟨tn,tl,tm⟩:=t
 simp only[hcs,yo] at hbare hsame hlist ⊢
 simp only[cTy] at hr hi hit ⊢
 refine zg.go ir149 ck149 (Al4 _) fun KP Q hQ=>?_
 have fin:∀ r,F=r→∀ ρ H,zN ρ H ir149.res=some [.bool r]→Q .ret ρ H:=fun r e ρ H h1=>hQ _ ρ H _ nofun h1 (by rw[e];rfl)
 by_cases k8:k=8
 ·subst k8
  rw[if_pos rfl] at e0
  simp(disch:=omega) only[ir149,go_sem]
  refine za hr ?_
  simp(disch:=omega) only[go_sem]
  exact fin _ e0 _ _ rfl
 rw[if_neg k8] at e0
 by_cases k0:k=0
 ·subst k0
  rw[if_pos rfl] at e0
  simp(disch:=omega) only[ir149,go_sem]
  refine za hr ?_
  cases hrt:zG ⟨tn,tl,tm⟩ with
  | false =>
   simp(disch:=omega) only[go_sem]
   exact fin false (by rw[e0,hrt];rfl) _ _ rfl
  | true =>
   simp(disch:=omega) only[go_sem]
   refine za hi ?_
   simp(disch:=omega) only[go_sem]
   exact fin (!isM ⟨tn,tl,tm⟩) (by rw[e0,hrt];rfl) _ _ rfl
 rw[if_neg k0] at e0
 simp(disch:=omega) only[ir149,k8,k0,go_sem]
 refine za hr ?_
 cases hrt:zG ⟨tn,tl,tm⟩ with
 | false =>
  rw[if_pos hrt] at e0
  simp(disch:=omega) only[go_sem]
  exact fin false e0 _ _ rfl
 | true =>
  rw[if_neg (by rw[hrt];simp)] at e0
  simp(disch:=omega) only[go_sem]
  refine za hit ?_
  cases him:Yy ⟨tn,tl,tm⟩ with
  | none =>
   rw[him] at e0
   simp(disch:=omega) only[Option.getD,Option.isSome,zTy,go_sem]
   refine zb fun b9 hb9=>?_
   simp(disch:=omega) only[go_sem]
   refine za hbare ?_
   simp(disch:=omega) only[go_sem]
   exact fin _ e0 _ _ rfl
  | some it =>
   rw[him] at e0
   replace hsame:=hsame it him
   replace hlist:=hlist it him
   obtain⟨in',il,im⟩:=it
   simp only at hsame hlist e0
   simp(disch:=omega) only[Option.getD,Option.isSome,go_sem]
   refine zb fun b9 hb9=>?_
   by_cases k6:k=6
   case neg =>
    rw[if_pos k6] at e0
    cases w with
    | true =>
     simp(disch:=omega) only[k6,go_sem]
     exact fin false e0 _ _ rfl
    | false =>
     simp(disch:=omega) only[k6,go_sem]
     refine za hsame ?_
     simp(disch:=omega) only[go_sem]
     exact fin _ (by rw[e0];rfl) _ _ rfl
   subst k6
   rw[if_neg (by simp)] at e0
   simp(disch:=omega) only[h1,go_sem]
   refine zf l 59 (fun _:Unit=>[]) (fun done rest _ H=>H b9=some (.cells [.str in',.int .i64 il,.int .i64 im])∧(rest.all fun x=>zaa s ⟨in',il,im⟩ x true)=l.all fun x=>zaa s ⟨in',il,im⟩ x true) () (by simp(disch:=omega) only[go_sem]) ⟨upd_same ..,rfl⟩ ?_ ?_
   ·rintro _ H J ⟨hH,hp⟩ hlt
    simp(disch:=omega) only[h1,hlt,go_sem]
    exact fin true (by rw[e0,← hp];rfl) _ _ rfl
   ·rintro done x rest _ H J hd hlt _ ⟨hH,hp⟩ hJ
    have hg:=za1 hd
    have hx:=hlist x (by rw[hd];simp)
    rw[List.all_cons] at hp
    obtain⟨xk,xq,xs,xl,xm⟩:=x
    rw[yo] at hg hx
    simp(disch:=omega) only[h1,hlt,hg,go_sem]
    refine zb fun b12 hb12=>?_
    have hne:b9≠b12:=fun e=>by subst e;rw[hH] at hb12;cases hb12
    simp(disch:=omega) only[hH,hne,Ne.symm hne,go_sem]
    refine za hx ?_
    cases hfx:zaa s ⟨in',il,im⟩ (.mk xk xq xs xl xm) true with
    | false =>
     rw[hfx] at hp
     simp(disch:=omega) only[go_sem]
     exact fin false (by rw[e0,← hp];rfl) _ _ rfl
    | true =>
     rw[hfx] at hp
     simp(disch:=omega) only[go_sem]
     exact goJ (hJ () _ ⟨by simp(disch:=omega) only[hH,hne,Ne.symm hne,go_sem],by simpa using hp⟩) (by simp(disch:=omega) only[wrap64,go_sem])
theorem zu4 (s:SchD) (t:TyD) (v:Val) (w:Bool) (hs:zJ s≤Lim) (hb:bV v≤Lim) (ht:t.nm.length≤Lim):zg Tryz.prog 149 [.agg (zq s),.agg (cTy t),.agg (cV v),.bool w] (.bool (zaa s t v w)) :=
 zce ⟨_,zva s hs v _ t w (Al4 _) hb ht⟩
noncomputable def ZK (s:SchD) (t:TyD) (v:Val):Bool:=zmO v&&zaa s t v false
theorem zfd (s:SchD) (t:TyD) (v:Val) (hs:zJ s≤Lim) (hb:bV v≤Lim) (ht:t.nm.length≤Lim):zg Tryz.prog 109 [.agg (zq s),.agg (cTy t),.agg (cV v)] (.bool (ZK s t v)):=by
 have hf:=zu4 s t v false hs hb ht
 have hg:=ztp v hb
 obtain⟨sd,sq,sm⟩:=s
 obtain⟨tn,tl,tm⟩:=t
 obtain⟨k,q,st,l,m⟩:=v
 simp only[zq,cTy,yo] at hf hg ⊢
 refine zg.go ir109 ck109 (Al4 _) fun KP Q hQ=>?_
 simp(disch:=omega) only[ir109,go_sem]
 refine za hg ?_
 cases h:zmO (.mk k q st l m) with
 | false =>
  simp(disch:=omega) only[go_sem]
  exact hQ _ _ _ _ nofun rfl (by simp[zd,ze,AV.strip,AV.strip1,ZK,h])
 | true =>
  simp(disch:=omega) only[go_sem]
  refine za hf ?_
  simp(disch:=omega) only[go_sem]
  exact hQ _ _ _ _ nofun rfl (by simp[zd,ze,AV.strip,AV.strip1,ZK,h])
theorem zrg (d:DefD) (f:FuncId) (caps:List AV) (r:Bool) (H:zc) (hf:Program.callable Tryz.prog f=true) (h:zj Tryz.prog f (.agg (cE d)::caps) H (At (.bool r) H)) :
  zj Tryz.prog 214 [.agg (cE d),.view [.clo f [] caps]] H (At (.bool (!r)) H):=by
 obtain⟨k,nm,fs,fl,ps,pa⟩:=d
 rw[ye] at h ⊢
 refine zj.go ir214 ck214 (Al4 _) fun KP Q hQ=>?_
 simp(disch:=omega) only[ir214,go_sem]
 refine⟨hf,z7 h ?_⟩
 rintro _ _ ⟨_,rfl,rfl,rfl⟩
 simp(disch:=omega) only[ZP,go_sem]
 exact hQ _ _ _ _ _ nofun rfl (Low.refl _) ⟨rfl,rfl⟩
theorem zd8 (s:SchD) (f:FuncId) (caps:List AV) (p:DefD→Bool) (H:zc) (hl:s.defs.length≤Lim) (hf:Program.callable Tryz.prog f=true) (hc:∀ d∈s.defs,zj Tryz.prog f (.agg (cE d)::caps) H (At (.bool (p d)) H)) :
  zj Tryz.prog 163 [.agg (zq s),.clo f [] caps] H (At (.bool (s.defs.all p)) H):=by
 have hx:=zqQ cE (fun _=>rfl) s.defs 214 [.view [.clo f [] caps]] (fun d=>!p d) H hl (by kernel_rfl) fun d hd=>zrg d f caps (p d) H hf (hc d hd)
 have e:(!s.defs.any fun d=>!p d)=s.defs.all p:=by simp[List.all_eq_not_any_not]
 obtain⟨sd,sq,sm⟩:=s
 simp only at hx e
 refine zj.go ir163 ck163 (Al4 _) fun KP Q hQ=>?_
 simp(disch:=omega) only[ir163,zq,go_sem]
 refine z7 hx ?_
 rintro _ _ ⟨_,rfl,rfl,rfl⟩
 simp(disch:=omega) only[ZP,go_sem]
 exact hQ _ _ _ _ _ nofun rfl (Low.refl _) ⟨by rw[← e];rfl,rfl⟩
def zcY:List (List UInt8)→List (List UInt8)→Bool
 | _,[]=>true
 | a,x::r=>!zQ x a&&zcY (a++[x]) r
def zab (l:List (List UInt8)):Bool:=zcY [] l
theorem zmi (l:List (List UInt8)) (hl:l.length≤Lim):zg Tryz.prog 159 [.sl .no 1 (cT l)] (.bool (zab l)):=by
 refine zg.go ir159 ck159 (Al4 _) fun KP Q hQ=>?_
 have h1:=zK l
 simp only[Lim] at hl
 simp(disch:=omega) only[ir159,h1,go_sem]
 refine zf l 7 (fun _:Unit=>[]) (fun done rest _ H=>zcY done rest=zab l) () (by simp(disch:=omega) only[go_sem]) rfl ?_ ?_
 ·rintro _ H J hn hlt
  simp(disch:=omega) only[h1,hlt,go_sem]
  exact hQ _ _ _ _ nofun rfl (by simp[zd,ze,AV.strip,AV.strip1,← hn,zcY])
 ·rintro done x rest _ H J hd hlt _ hn hJ
  have hg:=ZZ hd
  have htk:(cT l).take done.length=cT done:=by rw[hd];simp[cT]
  have hle:(done.length:Int)≤l.length:=by omega
  have hdl:done.length≤Lim:=by simp only[Lim];omega
  simp only[zcY] at hn
  simp(disch:=omega) only[h1,hlt,hg,htk,hle,go_sem]
  refine za (yR done x hdl) ?_
  cases hh:zQ x done with
  | true =>
   rw[hh] at hn
   simp(disch:=omega) only[go_sem]
   exact hQ _ _ _ _ nofun rfl (by simp[zd,ze,AV.strip,AV.strip1,← hn])
  | false =>
   rw[hh] at hn
   simp(disch:=omega) only[go_sem]
   exact goJ (hJ () _ (by simpa using hn)) (by simp(disch:=omega) only[wrap64,go_sem])
theorem znU (s:List UInt8):zg Tryz.prog 211 [.str s] (.bool (List.isPrefixOf [95,95] s)):=by
 refine zg.go ir211 ck211 (Al4 _) fun KP Q hQ=>?_
 simp(disch:=omega) only[ir211,go_sem]
 refine za (zix s [95,95]) ?_
 simp(disch:=omega) only[go_sem]
 exact hQ _ _ _ _ nofun rfl (by simp[zd,ze,AV.strip,AV.strip1])
def zbb (l:List (List UInt8)):Bool:=l.all fun s=>!List.isPrefixOf [95,95] s
theorem zkd (l:List (List UInt8)) (hl:l.length≤Lim):zg Tryz.prog 160 [.sl .no 1 (cT l)] (.bool (zbb l)):=by
 have hx:=zly (fun s:List UInt8=>AV.str s) l 211 [] (fun s=>List.isPrefixOf [95,95] s) hl (by kernel_rfl) fun s _=>znU s
 have e:(!l.any fun s=>List.isPrefixOf [95,95] s)=zbb l:=by simp[zbb,List.all_eq_not_any_not]
 refine zg.go ir160 ck160 (Al4 _) fun KP Q hQ=>?_
 simp(disch:=omega) only[ir160,go_sem]
 refine za hx ?_
 simp(disch:=omega) only[go_sem]
 exact hQ _ _ _ _ nofun rfl (by rw[← e];rfl)
theorem zqS {P:Program} {f:FuncId} {args:List AV} {r:AV} (h:zg P f args r) (H:zc):zj P f args H (At r H) :=
 (h.use (K:=fun v H'=>v=r∧H'=H) (KP:=fun _ _=>False) ⟨rfl,rfl⟩).mono fun e H' he=>by
  cases e with
  | ret v=>exact⟨v,rfl,he.1,he.2⟩
  | pan v=>exact he.elim
theorem zrR (x:DefD):zg Tryz.prog 157 [.agg (cE x)] (.str x.nm):=by
 obtain⟨k,nm,fs,fl,ps,pa⟩:=x
 refine zg.go ir157 ck157 (Al4 _) fun KP Q hQ=>?_
 simp(disch:=omega) only[ir157,ye,go_sem]
 exact hQ _ _ _ _ nofun rfl (by simp[zd,ze,AV.strip,AV.strip1])
theorem zkY (l:List DefD) (hl:l.length≤Lim):zg Tryz.prog 156 [.sl .no 6 (cEs l),.clo 157 [] []] (.sl .no 1 (cT (l.map (·.nm)))):=by
 have h1:=zex l
 simp only[Lim] at hl
 refine zg.go ir156 ck156 (Al4 _) fun KP Q hQ=>?_
 simp(disch:=omega) only[ir156,h1,go_sem]
 refine zf l 10 (fun x:Own×List (List UInt8)=>[(5,.sl x.1 1 (cT x.2))]) (fun done rest x H'=>x.2=done.map (·.nm)∧zY H' x.1 done.length 1) (.nil,[]) (by simp(disch:=omega) only[cT,List.map,go_sem]) ⟨rfl,rfl⟩ ?_ ?_
 ·rintro⟨o1,a⟩ H' J ⟨hn,hs⟩ hlt
  simp only at hn
  subst hn
  simp(disch:=omega) only[h1,hlt,go_sem]
  exact hQ _ _ _ _ nofun rfl (by simp[zd,ze,AV.strip,AV.strip1])
 ·rintro done x rest ⟨o1,a⟩ H' J hd hlt _ ⟨hn,hs⟩ hJ
  have hg:=zdw hd
  have hx:=zrR x
  simp only at hn
  subst hn
  have h3:=zK (done.map (·.nm))
  rw[List.length_map] at h3
  replace hs:zY H' o1 done.length 1:=hs
  obtain⟨k,nm,fs,fl,ps,pa⟩:=x
  rw[ye] at hg hx
  try simp only at hx
  simp(disch:=omega) only[h1,hlt,hg,go_sem]
  refine zb fun b7 hb7=>?_
  simp(disch:=omega) only[go_sem]
  refine⟨by kernel_rfl,za hx ?_⟩
  simp(disch:=omega) only[go_sem]
  refine zu (by rw[h3];exact hs.upd hb7) ?_ ?_ fun o' H2 hs2=>?_
  ·simp only[h3,Al2,Al3];omega
  ·simp only[h3,Al2,Al3,maxLen];omega
  have e0:cT (done.map (·.nm))++[[AV.str nm]]=cT (done.map (·.nm)++[nm]):=by simp[cT]
  have hs3:=hs2.own
  simp only[h3,Al2,Al3] at hs3
  simp(disch:=omega) only[wrap64,e0,go_sem]
  exact goJ (hJ (o',done.map (·.nm)++[nm]) H2 ⟨by simp,by simpa using hs3⟩) (by simp(disch:=omega) only[go_sem])
theorem zq9 (x:FldD):zg Tryz.prog 166 [.agg (cL x)] (.str x.nm):=by
 obtain⟨nm,ps,⟨t1,t2,t3⟩,ds⟩:=x
 refine zg.go ir166 ck166 (Al4 _) fun KP Q hQ=>?_
 simp(disch:=omega) only[ir166,zaB,go_sem]
 exact hQ _ _ _ _ nofun rfl (by simp[zd,ze,AV.strip,AV.strip1])
theorem zlx (l:List FldD) (hl:l.length≤Lim):zg Tryz.prog 165 [.sl .no 6 (cLs l),.clo 166 [] []] (.sl .no 1 (cT (l.map (·.nm)))):=by
 have h1:=zaX l
 simp only[Lim] at hl
 refine zg.go ir165 ck165 (Al4 _) fun KP Q hQ=>?_
 simp(disch:=omega) only[ir165,h1,go_sem]
 refine zf l 10 (fun x:Own×List (List UInt8)=>[(5,.sl x.1 1 (cT x.2))]) (fun done rest x H'=>x.2=done.map (·.nm)∧zY H' x.1 done.length 1) (.nil,[]) (by simp(disch:=omega) only[cT,List.map,go_sem]) ⟨rfl,rfl⟩ ?_ ?_
 ·rintro⟨o1,a⟩ H' J ⟨hn,hs⟩ hlt
  simp only at hn
  subst hn
  simp(disch:=omega) only[h1,hlt,go_sem]
  exact hQ _ _ _ _ nofun rfl (by simp[zd,ze,AV.strip,AV.strip1])
 ·rintro done x rest ⟨o1,a⟩ H' J hd hlt _ ⟨hn,hs⟩ hJ
  have hg:=zdt hd
  have hx:=zq9 x
  simp only at hn
  subst hn
  have h3:=zK (done.map (·.nm))
  rw[List.length_map] at h3
  replace hs:zY H' o1 done.length 1:=hs
  obtain⟨nm,ps,⟨t1,t2,t3⟩,ds⟩:=x
  rw[zaB] at hg hx
  try simp only at hx
  simp(disch:=omega) only[h1,hlt,hg,go_sem]
  refine zb fun b7 hb7=>?_
  simp(disch:=omega) only[go_sem]
  refine⟨by kernel_rfl,za hx ?_⟩
  simp(disch:=omega) only[go_sem]
  refine zu (by rw[h3];exact hs.upd hb7) ?_ ?_ fun o' H2 hs2=>?_
  ·simp only[h3,Al2,Al3];omega
  ·simp only[h3,Al2,Al3,maxLen];omega
  have e0:cT (done.map (·.nm))++[[AV.str nm]]=cT (done.map (·.nm)++[nm]):=by simp[cT]
  have hs3:=hs2.own
  simp only[h3,Al2,Al3] at hs3
  simp(disch:=omega) only[wrap64,e0,go_sem]
  exact goJ (hJ (o',done.map (·.nm)++[nm]) H2 ⟨by simp,by simpa using hs3⟩) (by simp(disch:=omega) only[go_sem])
theorem zqs (x:VarD):zg Tryz.prog 168 [.agg (cW x)] (.str x.nm):=by
 obtain⟨nm,⟨t1,t2,t3⟩,h,⟨k,q,st,l2,m⟩⟩:=x
 refine zg.go ir168 ck168 (Al4 _) fun KP Q hQ=>?_
 simp(disch:=omega) only[ir168,z8,go_sem]
 exact hQ _ _ _ _ nofun rfl (by simp[zd,ze,AV.strip,AV.strip1])
theorem zgE (l:List VarD) (hl:l.length≤Lim):zg Tryz.prog 167 [.sl .no 10 (cWs l),.clo 168 [] []] (.sl .no 1 (cT (l.map (·.nm)))):=by
 have h1:=Zr l
 simp only[Lim] at hl
 refine zg.go ir167 ck167 (Al4 _) fun KP Q hQ=>?_
 simp(disch:=omega) only[ir167,h1,go_sem]
 refine zf l 10 (fun x:Own×List (List UInt8)=>[(5,.sl x.1 1 (cT x.2))]) (fun done rest x H'=>x.2=done.map (·.nm)∧zY H' x.1 done.length 1) (.nil,[]) (by simp(disch:=omega) only[cT,List.map,go_sem]) ⟨rfl,rfl⟩ ?_ ?_
 ·rintro⟨o1,a⟩ H' J ⟨hn,hs⟩ hlt
  simp only at hn
  subst hn
  simp(disch:=omega) only[h1,hlt,go_sem]
  exact hQ _ _ _ _ nofun rfl (by simp[zd,ze,AV.strip,AV.strip1])
 ·rintro done x rest ⟨o1,a⟩ H' J hd hlt _ ⟨hn,hs⟩ hJ
  have hg:=Zm hd
  have hx:=zqs x
  simp only at hn
  subst hn
  have h3:=zK (done.map (·.nm))
  rw[List.length_map] at h3
  replace hs:zY H' o1 done.length 1:=hs
  obtain⟨nm,⟨t1,t2,t3⟩,h,⟨k,q,st,l2,m⟩⟩:=x
  rw[z8] at hg hx
  try simp only at hx
  simp(disch:=omega) only[h1,hlt,hg,go_sem]
  refine zb fun b7 hb7=>?_
  simp(disch:=omega) only[go_sem]
  refine⟨by kernel_rfl,za hx ?_⟩
  simp(disch:=omega) only[go_sem]
  refine zu (by rw[h3];exact hs.upd hb7) ?_ ?_ fun o' H2 hs2=>?_
  ·simp only[h3,Al2,Al3];omega
  ·simp only[h3,Al2,Al3,maxLen];omega
  have e0:cT (done.map (·.nm))++[[AV.str nm]]=cT (done.map (·.nm)++[nm]):=by simp[cT]
  have hs3:=hs2.own
  simp only[h3,Al2,Al3] at hs3
  simp(disch:=omega) only[wrap64,e0,go_sem]
  exact goJ (hJ (o',done.map (·.nm)++[nm]) H2 ⟨by simp,by simpa using hs3⟩) (by simp(disch:=omega) only[go_sem])
theorem znX (s:SchD) (p:VarD) (hl:s.defs.length≤Lim):zg Tryz.prog 215 [.agg (cW p),.view (zq s)] (.bool (!zbD s p.t.nm)):=by
 have he:=zof s p.t.nm hl
 obtain⟨nm,⟨t1,t2,t3⟩,h,⟨k,q,st,l,m⟩⟩:=p
 obtain⟨sd,sq,sm⟩:=s
 simp only[zq] at he ⊢
 refine zg.go ir215 ck215 (Al4 _) fun KP Q hQ=>?_
 simp(disch:=omega) only[ir215,z8,go_sem]
 refine za he ?_
 simp(disch:=omega) only[go_sem]
 exact hQ _ _ _ _ nofun rfl (by simp[zd,ze,AV.strip,AV.strip1])
def zbR (s:SchD) (l:List VarD):Bool:=l.all fun p=>zbD s p.t.nm
theorem not_any {α:Type} (p:α→Bool) (l:List α):(!l.any fun x=>!p x)=l.all p:=by simp[List.all_eq_not_any_not]
theorem zjO (s:SchD) (ps:List VarD) (hl:s.defs.length≤Lim) (hp:ps.length≤Lim):zg Tryz.prog 172 [.agg (zq s),.sl .no 10 (cWs ps)] (.bool (zbR s ps)):=by
 have hx:=zoF cW zaH ps 215 [.view (zq s)] (fun p=>!zbD s p.t.nm) hp (by kernel_rfl) fun p _=>znX s p hl
 obtain⟨sd,sq,sm⟩:=s
 simp only[zq] at hx ⊢
 refine zg.go ir172 ck172 (Al4 _) fun KP Q hQ=>?_
 simp(disch:=omega) only[ir172,go_sem]
 refine za hx ?_
 simp(disch:=omega) only[go_sem]
 exact hQ _ _ _ _ nofun rfl (by rw[zbR,← not_any];rfl)
def zpv (s:SchD) (f:FldD):Bool:=(!zaC s f.t.nm&&!ZW s f.t.nm)||!zbR s f.ps
theorem zon (s:SchD) (f:FldD) (b:Nat) (H:zc) (hb:H b=some (.cells (zq s))) (hl:s.defs.length≤Lim) (hp:f.ps.length≤Lim):zj Tryz.prog 173 [.agg (cL f),.ptr b 0] H (At (.bool (zpv s f)) H):=by
 have h1:=zkA s f.t.nm hl
 have h2:=zgc s f.t.nm hl
 have h3:=zjO s f.ps hl hp
 obtain⟨nm,ps,⟨t1,t2,t3⟩,ds⟩:=f
 simp only at h1 h2 h3
 unfold zpv
 simp only
 generalize zaC s t1=x1 at *
 generalize ZW s t1=x2 at *
 generalize zbR s ps=x3 at *
 obtain⟨sd,sq,sm⟩:=s
 simp only[zq] at h1 h2 h3 hb
 refine zj.go ir173 ck173 (Al4 _) fun KP Q hQ=>?_
 simp(disch:=omega) only[ir173,zaB,hb,go_sem]
 refine za h1 ?_
 cases x1 with
 | true =>
  simp(disch:=omega) only[hb,go_sem]
  refine za h3 ?_
  simp(disch:=omega) only[go_sem]
  exact hQ _ _ _ _ _ nofun rfl (Low.refl _) ⟨by simp[zd,ze,AV.strip,AV.strip1],rfl⟩
 | false =>
  simp(disch:=omega) only[hb,go_sem]
  refine za h2 ?_
  cases x2 with
  | true =>
   simp(disch:=omega) only[hb,go_sem]
   refine za h3 ?_
   simp(disch:=omega) only[go_sem]
   exact hQ _ _ _ _ _ nofun rfl (Low.refl _) ⟨by simp[zd,ze,AV.strip,AV.strip1],rfl⟩
  | false =>
   simp(disch:=omega) only[hb,go_sem]
   exact hQ _ _ _ _ _ nofun rfl (Low.refl _) ⟨by simp[zd,ze,AV.strip,AV.strip1],rfl⟩
def zpU (s:SchD) (d:DefD):Bool:=zbR s d.ps&&!d.flds.any (zpv s)
theorem zch {f:FldD}:∀ {l:List FldD},f∈l→bL f≤bLs l
 | x::l,h=>by
  rcases List.mem_cons.1 h with rfl|h
  ·simp only[bLs,List.map_cons,List.sum_cons];omega
  ·have:=zch h;simp only[bLs,List.map_cons,List.sum_cons] at this ⊢;omega
theorem zou {f:FldD}:f.ps.length≤bL f:=by have:=yS f.ps;simp only[bL];omega
theorem zqU (s:SchD) (d:DefD) (b:Nat) (H:zc) (hb:H b=some (.cells (zq s))) (hl:s.defs.length≤Lim) (hd:bE d≤Lim):zj Tryz.prog 171 [.agg (cE d),.ptr b 0] H (At (.bool (zpU s d)) H):=by
 have hd':=hd
 simp only[bE,Lim] at hd'
 have hf1:=YV d.flds
 have hp1:=yS d.ps
 have h1:=zjO s d.ps hl (by simp only[Lim];omega)
 have h2:=zis cL (fun _=>rfl) d.flds 173 [.ptr b 0] (zpv s) H (by simp only[Lim];omega) (by kernel_rfl) fun f hf=>zon s f b H hb hl (by have:=zch hf;have:=@zou f;simp only[Lim];omega)
 obtain⟨k,nm,fs,fl,ps,pa⟩:=d
 simp only at h1 h2
 unfold zpU
 simp only
 generalize zbR s pa=x1 at *
 generalize fl.any (zpv s)=x2 at *
 obtain⟨sd,sq,sm⟩:=s
 simp only[zq] at h1 h2 hb
 refine zj.go ir171 ck171 (Al4 _) fun KP Q hQ=>?_
 simp(disch:=omega) only[ir171,ye,hb,go_sem]
 refine za h1 ?_
 cases x1 with
 | false =>
  simp(disch:=omega) only[hb,go_sem]
  exact hQ _ _ _ _ _ nofun rfl (Low.refl _) ⟨by simp[zd,ze,AV.strip,AV.strip1],rfl⟩
 | true =>
  simp(disch:=omega) only[hb,go_sem]
  refine z7 h2 ?_
  rintro _ _ ⟨_,rfl,rfl,rfl⟩
  simp(disch:=omega) only[ZP,go_sem]
  exact hQ _ _ _ _ _ nofun rfl (Low.refl _) ⟨by simp[zd,ze,AV.strip,AV.strip1],rfl⟩
def ziV (s:SchD):Bool:=s.defs.all (zpU s)
theorem zh3 {s:SchD} {d:DefD} (h:d∈s.defs) (hb:zJ s≤Lim):bE d≤Lim:=by have:=zir h;simp only[zJ] at hb;omega
theorem zta (s:SchD) (hb:zJ s≤Lim):zg Tryz.prog 119 [.agg (zq s)] (.bool (ziV s)):=by
 have hl:=yc hb
 have hx:=fun b H hb'=>zd8 s 171 [.ptr b 0] (zpU s) H hl (by kernel_rfl) fun d hd=>zqU s d b H hb' hl (zh3 hd hb)
 rw[ziV]
 generalize s.defs.all (zpU s)=x1 at *
 obtain⟨sd,sq,sm⟩:=s
 simp only[zq] at hx ⊢
 refine zg.go ir119 ck119 (Al4 _) fun KP Q hQ=>?_
 simp(disch:=omega) only[ir119,go_sem]
 refine zb fun b1 hb1=>?_
 simp(disch:=omega) only[go_sem]
 refine z7 (hx b1 _ (upd_same ..)) ?_
 rintro _ _ ⟨_,rfl,rfl,rfl⟩
 simp(disch:=omega) only[ZP,go_sem]
 exact hQ _ _ _ _ nofun rfl rfl
theorem zol (s:SchD) (n:List UInt8) (b:Nat) (H:zc) (hb:H b=some (.cells (zq s))) (hl:s.defs.length≤Lim):zj Tryz.prog 181 [.str n,.ptr b 0] H (At (.bool (!y8 s n [1])) H):=by
 have h1:=zcx s n [1] hl (by decide)
 generalize y8 s n [1]=x1 at *
 obtain⟨sd,sq,sm⟩:=s
 simp only[zq,List.map,cI] at h1 hb
 refine zj.go ir181 ck181 (Al4 _) fun KP Q hQ=>?_
 simp(disch:=omega) only[ir181,hb,go_sem]
 refine za (zg.low h1) ?_
 simp(disch:=omega) only[go_sem]
 exact hQ _ _ _ _ _ nofun rfl (Low.refl _) ⟨by simp[zd,ze,AV.strip,AV.strip1],rfl⟩
def zku (s:SchD) (d:DefD):Bool:=!decide (d.k=3)||!(d.parts.any fun n=>!y8 s n [1])
theorem zrb (s:SchD) (d:DefD) (b:Nat) (H:zc) (hb:H b=some (.cells (zq s))) (hl:s.defs.length≤Lim) (hd:bE d≤Lim):zj Tryz.prog 180 [.agg (cE d),.ptr b 0] H (At (.bool (zku s d)) H):=by
 have hd':=hd
 simp only[bE,Lim] at hd'
 have hf1:=ZN d.parts
 have h2:=zeP (fun n:List UInt8=>AV.str n) d.parts 181 [.ptr b 0] (fun n=>!y8 s n [1]) H (by simp only[Lim];omega) (by kernel_rfl) fun n _=>zol s n b H hb hl
 obtain⟨k,nm,fs,fl,ps,pa⟩:=d
 simp only at h2
 unfold zku
 simp only
 generalize (ps.any fun n=>!y8 s n [1])=x2 at *
 obtain⟨sd,sq,sm⟩:=s
 simp only[zq] at h2 hb
 refine zj.go ir180 ck180 (Al4 _) fun KP Q hQ=>?_
 by_cases hk:k=3
 ·subst hk
  simp(disch:=omega) only[ir180,ye,hb,go_sem]
  refine z7 h2 ?_
  rintro _ _ ⟨_,rfl,rfl,rfl⟩
  simp(disch:=omega) only[ZP,go_sem]
  exact hQ _ _ _ _ _ nofun rfl (Low.refl _) ⟨by simp[zd,ze,AV.strip,AV.strip1],rfl⟩
 ·simp(disch:=omega) only[ir180,ye,hb,hk,go_sem]
  exact hQ _ _ _ _ _ nofun rfl (Low.refl _) ⟨by simp[zd,ze,AV.strip,AV.strip1,hk],rfl⟩
def ziK (s:SchD):Bool:=s.defs.all (zku s)
theorem ztc (s:SchD) (hb:zJ s≤Lim):zg Tryz.prog 122 [.agg (zq s)] (.bool (ziK s)):=by
 have hl:=yc hb
 have hx:=fun b H hb'=>zd8 s 180 [.ptr b 0] (zku s) H hl (by kernel_rfl) fun d hd=>zrb s d b H hb' hl (zh3 hd hb)
 rw[ziK]
 generalize s.defs.all (zku s)=x1 at *
 obtain⟨sd,sq,sm⟩:=s
 simp only[zq] at hx ⊢
 refine zg.go ir122 ck122 (Al4 _) fun KP Q hQ=>?_
 simp(disch:=omega) only[ir122,go_sem]
 refine zb fun b1 hb1=>?_
 simp(disch:=omega) only[go_sem]
 refine z7 (hx b1 _ (upd_same ..)) ?_
 rintro _ _ ⟨_,rfl,rfl,rfl⟩
 simp(disch:=omega) only[ZP,go_sem]
 exact hQ _ _ _ _ nofun rfl rfl
def ziT (s:SchD):Bool:=y8 s s.q [1]&&(decide (s.m=[])||(!decide (s.m=s.q)&&y8 s s.m [1]))
theorem ztY (s:SchD) (hb:zJ s≤Lim):zg Tryz.prog 117 [.agg (zq s)] (.bool (ziT s)):=by
 have hl:=yc hb
 have h1:=zcx s s.q [1] hl (by decide)
 have h2:=zcx s s.m [1] hl (by decide)
 unfold ziT
 generalize y8 s s.q [1]=x1 at *
 generalize y8 s s.m [1]=x2 at *
 obtain⟨sd,sq,sm⟩:=s
 simp only[zq,List.map,cI] at h1 h2 ⊢
 refine zg.go ir117 ck117 (Al4 _) fun KP Q hQ=>?_
 simp(disch:=omega) only[ir117,go_sem]
 refine za (zg.low h1) ?_
 cases x1 with
 | false =>
  simp(disch:=omega) only[go_sem]
  exact hQ _ _ _ _ nofun rfl (by simp[zd,ze,AV.strip,AV.strip1])
 | true =>
  by_cases hm:sm=[]
  ·have hm':=eq_true hm
   simp(disch:=omega) only[hm',go_sem]
   exact hQ _ _ _ _ nofun rfl (by simp[zd,ze,AV.strip,AV.strip1,hm])
  ·by_cases hq:sm=sq
   ·have hq':=eq_true hq
    simp(disch:=omega) only[hm,hq',go_sem]
    exact hQ _ _ _ _ nofun rfl (by simp[zd,ze,AV.strip,AV.strip1,hm,hq'])
   ·simp(disch:=omega) only[hm,hq,go_sem]
    refine za (zg.low h2) ?_
    simp(disch:=omega) only[go_sem]
    exact hQ _ _ _ _ nofun rfl (by simp[zd,ze,AV.strip,AV.strip1,hm,hq])
def zc1 (l:List (List UInt8)):Bool:=zab l&&zbb l
theorem zlu (l:List (List UInt8)) (hl:l.length≤Lim):zg Tryz.prog 162 [.sl .no 1 (cT l)] (.bool (zc1 l)):=by
 have h1:=zmi l hl
 have h2:=zkd l hl
 unfold zc1
 generalize zab l=x1 at *
 generalize zbb l=x2 at *
 refine zg.go ir162 ck162 (Al4 _) fun KP Q hQ=>?_
 simp(disch:=omega) only[ir162,go_sem]
 refine za h1 ?_
 cases x1 with
 | false =>
  simp(disch:=omega) only[go_sem]
  exact hQ _ _ _ _ nofun rfl (by simp[zd,ze,AV.strip,AV.strip1])
 | true =>
  simp(disch:=omega) only[go_sem]
  refine za h2 ?_
  simp(disch:=omega) only[go_sem]
  exact hQ _ _ _ _ nofun rfl (by simp[zd,ze,AV.strip,AV.strip1])
theorem znD (f:FldD) (b:Nat) (H:zc) (hb:H b=some (.cells [.clo 162 [] []])) (hp:f.ps.length≤Lim):zj Tryz.prog 170 [.agg (cL f),.ptr b 0] H (At (.bool (!zc1 (f.ps.map (·.nm)))) H):=by
 have h1:=zgE f.ps hp
 have h2:=zlu (f.ps.map (·.nm)) (by simpa using hp)
 obtain⟨nm,ps,⟨t1,t2,t3⟩,ds⟩:=f
 simp only at h1 h2 ⊢
 generalize zc1 (ps.map (·.nm))=x1 at *
 refine zj.go ir170 ck170 (Al4 _) fun KP Q hQ=>?_
 simp(disch:=omega) only[ir170,zaB,hb,go_sem]
 refine za h1 ?_
 simp(disch:=omega) only[hb,go_sem]
 refine⟨by kernel_rfl,za h2 ?_⟩
 simp(disch:=omega) only[go_sem]
 exact hQ _ _ _ _ _ nofun rfl (Low.refl _) ⟨by simp[zd,ze,AV.strip,AV.strip1],rfl⟩
def zky (d:DefD):Bool:=zc1 (d.flds.map (·.nm))&&(zc1 (d.ps.map (·.nm))&&(zab d.parts&&(zab d.faces&&!d.flds.any fun f=>!zc1 (f.ps.map (·.nm)))))
theorem zpd (d:DefD) (b:Nat) (H:zc) (hb:H b=some (.cells [.clo 162 [] []])) (hd:bE d≤Lim):zj Tryz.prog 164 [.agg (cE d),.ptr b 0] H (At (.bool (zky d)) H):=by
 have hd':=hd
 simp only[bE,Lim] at hd'
 have hf1:=YV d.flds
 have hf2:=yS d.ps
 have hf3:=ZN d.parts
 have hf4:=ZN d.faces
 have h1:=zlx d.flds (by simp only[Lim];omega)
 have h2:=zlu (d.flds.map (·.nm)) (by simp only[List.length_map,Lim];omega)
 have h3:=zgE d.ps (by simp only[Lim];omega)
 have h4:=zlu (d.ps.map (·.nm)) (by simp only[List.length_map,Lim];omega)
 have h5:=zmi d.parts (by simp only[Lim];omega)
 have h6:=zmi d.faces (by simp only[Lim];omega)
 have h7:=zis cL (fun _=>rfl) d.flds 170 [.ptr b 0] (fun f=>!zc1 (f.ps.map (·.nm))) H (by simp only[Lim];omega) (by kernel_rfl) fun f hf=>znD f b H hb (by have:=zch hf;have:=@zou f;simp only[Lim];omega)
 obtain⟨k,nm,fs,fl,ps,pa⟩:=d
 simp only at h1 h2 h3 h4 h5 h6 h7
 unfold zky
 simp only
 generalize (fl.any fun f=>!zc1 (f.ps.map (·.nm)))=x5 at *
 generalize zc1 (fl.map (·.nm))=x1 at *
 generalize zc1 (pa.map (·.nm))=x2 at *
 generalize zab ps=x3 at *
 generalize zab fs=x4 at *
 refine zj.go ir164 ck164 (Al4 _) fun KP Q hQ=>?_
 simp(disch:=omega) only[ir164,ye,hb,go_sem]
 refine za h1 ?_
 simp(disch:=omega) only[hb,go_sem]
 refine⟨by kernel_rfl,za h2 ?_⟩
 cases x1 with
 | false =>
  simp(disch:=omega) only[hb,go_sem]
  exact hQ _ _ _ _ _ nofun rfl (Low.refl _) ⟨by simp[zd,ze,AV.strip,AV.strip1],rfl⟩
 | true =>
 simp(disch:=omega) only[hb,go_sem]
 refine za h3 ?_
 simp(disch:=omega) only[hb,go_sem]
 refine⟨by kernel_rfl,za h4 ?_⟩
 cases x2 with
 | false =>
  simp(disch:=omega) only[hb,go_sem]
  exact hQ _ _ _ _ _ nofun rfl (Low.refl _) ⟨by simp[zd,ze,AV.strip,AV.strip1],rfl⟩
 | true =>
 simp(disch:=omega) only[hb,go_sem]
 refine za h5 ?_
 cases x3 with
 | false =>
  simp(disch:=omega) only[hb,go_sem]
  exact hQ _ _ _ _ _ nofun rfl (Low.refl _) ⟨by simp[zd,ze,AV.strip,AV.strip1],rfl⟩
 | true =>
 simp(disch:=omega) only[hb,go_sem]
 refine za h6 ?_
 cases x4 with
 | false =>
  simp(disch:=omega) only[hb,go_sem]
  exact hQ _ _ _ _ _ nofun rfl (Low.refl _) ⟨by simp[zd,ze,AV.strip,AV.strip1],rfl⟩
 | true =>
 simp(disch:=omega) only[hb,go_sem]
 refine z7 h7 ?_
 rintro _ _ ⟨_,rfl,rfl,rfl⟩
 simp(disch:=omega) only[ZP,go_sem]
 exact hQ _ _ _ _ _ nofun rfl (Low.refl _) ⟨by simp[zd,ze,AV.strip,AV.strip1],rfl⟩
def zej (s:SchD):Bool:=s.defs.all zky
theorem zos (s:SchD) (hb:zJ s≤Lim):zg Tryz.prog 118 [.agg (zq s)] (.bool (zej s)):=by
 have hl:=yc hb
 have hx:=fun b H hb'=>zd8 s 164 [.ptr b 0] zky H hl (by kernel_rfl) fun d hd=>zpd d b H hb' (zh3 hd hb)
 rw[zej]
 generalize s.defs.all zky=x1 at *
 obtain⟨sd,sq,sm⟩:=s
 simp only[zq] at hx ⊢
 refine zg.go ir118 ck118 (Al4 _) fun KP Q hQ=>?_
 simp(disch:=omega) only[ir118,go_sem]
 refine zb fun b3 hb3=>?_
 simp(disch:=omega) only[go_sem]
 refine z7 (hx b3 _ (upd_same ..)) ?_
 rintro _ _ ⟨_,rfl,rfl,rfl⟩
 simp(disch:=omega) only[ZP,go_sem]
 exact hQ _ _ _ _ nofun rfl rfl
noncomputable def zpF (s:SchD) (p:VarD):Bool:=p.has&&!ZK s p.t p.d
theorem zqC (s:SchD) (p:VarD) (hs:zJ s≤Lim) (hp:bW p≤Lim):zg Tryz.prog 220 [.agg (cW p),.view (zq s)] (.bool (zpF s p)):=by
 have h1:=zfd s p.t p.d hs (by simp only[bW] at hp;omega) (by simp only[bW] at hp;omega)
 obtain⟨nm,⟨t1,t2,t3⟩,h,⟨k,q,st,l,m⟩⟩:=p
 unfold zpF
 simp only at h1 ⊢
 generalize ZK s ⟨t1,t2,t3⟩ (.mk k q st l m)=x1 at *
 obtain⟨sd,sq,sm⟩:=s
 simp only[zq,cTy,yo] at h1 ⊢
 refine zg.go ir220 ck220 (Al4 _) fun KP Q hQ=>?_
 cases h with
 | false =>
  simp(disch:=omega) only[ir220,z8,go_sem]
  exact hQ _ _ _ _ nofun rfl (by simp[zd,ze,AV.strip,AV.strip1])
 | true =>
  simp(disch:=omega) only[ir220,z8,go_sem]
  refine za h1 ?_
  simp(disch:=omega) only[go_sem]
  exact hQ _ _ _ _ nofun rfl (by simp[zd,ze,AV.strip,AV.strip1])
noncomputable def zea (s:SchD) (l:List VarD):Bool:=!l.any (zpF s)
theorem zkI (s:SchD) (ps:List VarD) (hs:zJ s≤Lim) (hp:bWs ps≤Lim):zg Tryz.prog 185 [.agg (zq s),.sl .no 10 (cWs ps)] (.bool (zea s ps)):=by
 have hl:=yS ps
 have hx:=zoF cW zaH ps 220 [.view (zq s)] (zpF s) (by omega) (by kernel_rfl) fun p h=>zqC s p hs (by have:=Ys h;omega)
 unfold zea
 generalize ps.any (zpF s)=x1 at *
 obtain⟨sd,sq,sm⟩:=s
 simp only[zq] at hx ⊢
 refine zg.go ir185 ck185 (Al4 _) fun KP Q hQ=>?_
 simp(disch:=omega) only[ir185,go_sem]
 refine za hx ?_
 simp(disch:=omega) only[go_sem]
 exact hQ _ _ _ _ nofun rfl (by simp[zd,ze,AV.strip,AV.strip1])
theorem zt0 (s:SchD) (p:VarD) (b:Nat) (H:zc) (hb:H b=some (.cells (zq s))) (hl:s.defs.length≤Lim):zj Tryz.prog 187 [.agg (cW p),.ptr b 0] H (At (.bool (p.has&&!zaC s p.t.nm)) H):=by
 have h1:=zkA s p.t.nm hl
 obtain⟨nm,⟨t1,t2,t3⟩,h,⟨k,q,st,l,m⟩⟩:=p
 simp only at h1 ⊢
 generalize zaC s t1=x1 at *
 obtain⟨sd,sq,sm⟩:=s
 simp only[zq] at h1 hb
 refine zj.go ir187 ck187 (Al4 _) fun KP Q hQ=>?_
 cases h with
 | false =>
  simp(disch:=omega) only[ir187,z8,hb,go_sem]
  exact hQ _ _ _ _ _ nofun rfl (Low.refl _) ⟨by simp[zd,ze,AV.strip,AV.strip1],rfl⟩
 | true =>
  simp(disch:=omega) only[ir187,z8,hb,go_sem]
  refine za h1 ?_
  simp(disch:=omega) only[go_sem]
  exact hQ _ _ _ _ _ nofun rfl (Low.refl _) ⟨by simp[zd,ze,AV.strip,AV.strip1],rfl⟩
theorem ztP (s:SchD) (f:FldD) (b:Nat) (H:zc) (hb:H b=some (.cells (zq s))) (hs:zJ s≤Lim) (hp:bWs f.ps≤Lim):zj Tryz.prog 188 [.agg (cL f),.ptr b 0] H (At (.bool (!zea s f.ps)) H):=by
 have h1:=zkI s f.ps hs hp
 obtain⟨nm,ps,⟨t1,t2,t3⟩,ds⟩:=f
 simp only at h1 ⊢
 generalize zea s ps=x1 at *
 obtain⟨sd,sq,sm⟩:=s
 simp only[zq] at h1 hb
 refine zj.go ir188 ck188 (Al4 _) fun KP Q hQ=>?_
 simp(disch:=omega) only[ir188,zaB,hb,go_sem]
 refine za h1 ?_
 simp(disch:=omega) only[go_sem]
 exact hQ _ _ _ _ _ nofun rfl (Low.refl _) ⟨by simp[zd,ze,AV.strip,AV.strip1],rfl⟩
noncomputable def zqa (s:SchD) (d:DefD):Bool:=zea s d.ps&&(!(d.ps.any fun p=>p.has&&!zaC s p.t.nm)&&!(d.flds.any fun f=>!zea s f.ps))
theorem zi0 {f:FldD}:bWs f.ps≤bL f:=by simp only[bL];omega
theorem zuR (s:SchD) (d:DefD) (b:Nat) (H:zc) (hb:H b=some (.cells (zq s))) (hs:zJ s≤Lim) (hd:bE d≤Lim):zj Tryz.prog 184 [.agg (cE d),.ptr b 0] H (At (.bool (zqa s d)) H):=by
 have hl:=yc hs
 have hd':=hd
 simp only[bE,Lim] at hd'
 have hf1:=YV d.flds
 have hp1:=yS d.ps
 have h1:=zkI s d.ps hs (by simp only[Lim];omega)
 have h2:=zrk cW zaH d.ps 187 [.ptr b 0] (fun p=>p.has&&!zaC s p.t.nm) H (by simp only[Lim];omega) (by kernel_rfl) fun p _=>zt0 s p b H hb hl
 have h3:=zis cL (fun _=>rfl) d.flds 188 [.ptr b 0] (fun f=>!zea s f.ps) H (by simp only[Lim];omega) (by kernel_rfl) fun f hf=>ztP s f b H hb hs (by have:=zch hf;have:=@zi0 f;simp only[Lim];omega)
 obtain⟨k,nm,fs,fl,ps,pa⟩:=d
 simp only at h1 h2 h3
 unfold zqa
 simp only
 generalize (fl.any fun f=>!zea s f.ps)=x3 at *
 generalize zea s pa=x1 at *
 generalize (pa.any fun p=>p.has&&!zaC s p.t.nm)=x2 at *
 obtain⟨sd,sq,sm⟩:=s
 simp only[zq] at h1 hb
 refine zj.go ir184 ck184 (Al4 _) fun KP Q hQ=>?_
 simp(disch:=omega) only[ir184,ye,hb,go_sem]
 refine za h1 ?_
 cases x1 with
 | false =>
  simp(disch:=omega) only[hb,go_sem]
  exact hQ _ _ _ _ _ nofun rfl (Low.refl _) ⟨by simp[zd,ze,AV.strip,AV.strip1],rfl⟩
 | true =>
 simp(disch:=omega) only[hb,go_sem]
 refine z7 h2 ?_
 rintro _ _ ⟨_,rfl,rfl,rfl⟩
 cases x2 with
 | true =>
  simp(disch:=omega) only[ZP,go_sem]
  exact hQ _ _ _ _ _ nofun rfl (Low.refl _) ⟨by simp[zd,ze,AV.strip,AV.strip1],rfl⟩
 | false =>
 simp(disch:=omega) only[ZP,go_sem]
 refine z7 h3 ?_
 rintro _ _ ⟨_,rfl,rfl,rfl⟩
 simp(disch:=omega) only[ZP,go_sem]
 exact hQ _ _ _ _ _ nofun rfl (Low.refl _) ⟨by simp[zd,ze,AV.strip,AV.strip1],rfl⟩
noncomputable def zq3 (s:SchD):Bool:=s.defs.all (zqa s)
theorem znq (s:SchD) (hb:zJ s≤Lim):zg Tryz.prog 124 [.agg (zq s)] (.bool (zq3 s)):=by
 have hl:=yc hb
 have hx:=fun b H hb'=>zd8 s 184 [.ptr b 0] (zqa s) H hl (by kernel_rfl) fun d hd=>zuR s d b H hb' hb (zh3 hd hb)
 rw[zq3]
 generalize s.defs.all (zqa s)=x1 at *
 obtain⟨sd,sq,sm⟩:=s
 simp only[zq] at hx ⊢
 refine zg.go ir124 ck124 (Al4 _) fun KP Q hQ=>?_
 simp(disch:=omega) only[ir124,go_sem]
 refine zb fun b1 hb1=>?_
 simp(disch:=omega) only[go_sem]
 refine z7 (hx b1 _ (upd_same ..)) ?_
 rintro _ _ ⟨_,rfl,rfl,rfl⟩
 simp(disch:=omega) only[ZP,go_sem]
 exact hQ _ _ _ _ nofun rfl rfl
theorem zns (n:List UInt8) (d:DefD) (b:Nat) (H:zc) (hb:H b=some (.cells (cE d))) (hd:d.faces.length≤Lim):zj Tryz.prog 176 [.str n,.ptr b 0] H (At (.bool (!zQ n d.faces)) H):=by
 have h1:=yR d.faces n hd
 obtain⟨k,nm,fs,fl,ps,pa⟩:=d
 simp only at h1 ⊢
 rw[ye] at hb
 generalize zQ n fs=x1 at *
 refine zj.go ir176 ck176 (Al4 _) fun KP Q hQ=>?_
 simp(disch:=omega) only[ir176,hb,go_sem]
 refine za h1 ?_
 simp(disch:=omega) only[go_sem]
 exact hQ _ _ _ _ _ nofun rfl (Low.refl _) ⟨by simp[zd,ze,AV.strip,AV.strip1],rfl⟩
def zin (s:SchD) (d:DefD) (n:List UInt8):Bool:=match yN s n with
 | none=>true
 | some f=>!decide (f.k=2)||(decide (n=d.nm)||f.faces.any fun m=>!zQ m d.faces)
theorem zp2 (s:SchD) (d:DefD) (n:List UInt8) (b c:Nat) (H:zc) (hb:H b=some (.cells (zq s))) (hc:H c=some (.cells (cE d))) (hs:zJ s≤Lim) (hd:bE d≤Lim):zj Tryz.prog 175 [.str n,.ptr b 0,.ptr c 0] H (At (.bool (zin s d n)) H):=by
 have hl:=yc hs
 have h1:=zeD s n hl
 have hle:=@Ym s n
 have hs':zJ s≤1099511627776:=hs
 have hdf:d.faces.length≤Lim:=by have:=ZN d.faces;simp only[bE] at hd;omega
 have h3:=fun(l:List (List UInt8)) (H2:zc) (hl:l.length≤Lim) (h:H2 c=some (.cells (cE d)))=>zeP (fun n:List UInt8=>AV.str n) l 176 [.ptr c 0] (fun m=>!zQ m d.faces) H2 hl (by kernel_rfl) fun m _=>zns m d c H2 h hdf
 have hce:cE d=[.int .i64 d.k,.str d.nm,.sl .no 1 (cT d.faces),.sl .no 6 (cLs d.flds),.sl .no 1 (cT d.parts),.sl .no 10 (cWs d.ps)]:=rfl
 have e0:zin s d n=match yN s n with|none=>true|some f=>!decide (f.k=2)||(decide (n=d.nm)||f.faces.any fun m=>!zQ m d.faces):=rfl
 have hc2:=hc
 rw[hce] at hc2
 generalize zin s d n=F at *
 obtain⟨sd,sq,sm⟩:=s
 generalize hS:(⟨sd,sq,sm⟩:SchD)=s at *
 have hcs:zq s=[.sl .no 6 (cEs sd),.str sq,.str sm]:=by rw[← hS];rfl
 rw[hcs] at h1 hb
 refine zj.go ir175 ck175 (Al4 _) fun KP Q hQ=>?_
 have fin:∀ r,F=r→∀ ρ H1,zN ρ H1 ir175.res=some [.bool r]→Low H H1→Q .ret ρ H1∧Q .normal ρ H1:=fun r e ρ H1 h1 h2=>⟨hQ _ ρ H1 H _ nofun h1 h2 ⟨by rw[e];rfl,rfl⟩,hQ _ ρ H1 H _ nofun h1 h2 ⟨by rw[e];rfl,rfl⟩⟩
 simp(disch:=omega) only[ir175,hb,go_sem]
 refine za h1 ?_
 cases hfe:yN s n with
 | none =>
  rw[hfe] at e0
  simp(disch:=omega) only[Option.getD,Option.isSome,zE,ye,go_sem]
  refine zb fun b5 hb5=>?_
  simp(disch:=omega) only[go_sem]
  exact(fin true e0 _ _ rfl ((Low.refl _).upd hb5)).1
 | some f =>
  rw[hfe] at e0
  obtain⟨hle1,hle2,_,_⟩:=hle hfe
  obtain⟨k,nm,fs,fl,ps,pa⟩:=f
  simp only at e0 hle1 hle2
  have hfs:=ZN fs
  simp(disch:=omega) only[Option.getD,Option.isSome,ye,go_sem]
  refine zb fun b5 hb5=>?_
  have hne:c≠b5:=fun e=>by subst e;rw[hc] at hb5;cases hb5
  by_cases hk:k=2
  case neg =>
   simp(disch:=omega) only[hk,go_sem]
   exact(fin true (by rw[e0];simp[hk]) _ _ rfl ((Low.refl _).upd hb5)).1
  subst hk
  by_cases hn:n=d.nm
  ·have hn':=eq_true hn
   simp(disch:=omega) only[hc2,hne,Ne.symm hne,hn',go_sem]
   exact(fin true (by rw[e0];simp[hn]) _ _ rfl ((Low.refl _).upd hb5)).1
  simp(disch:=omega) only[hc2,hne,Ne.symm hne,hn,go_sem]
  refine z7 (h3 fs _ (by simp only[Lim];omega) (by rw[upd_ne hne,hc])) ?_
  rintro _ _ ⟨_,rfl,rfl,rfl⟩
  simp(disch:=omega) only[ZP,go_sem]
  exact(fin (fs.any fun m=>!zQ m d.faces) (by rw[e0];simp[hn]) _ _ rfl ((Low.refl _).upd hb5)).1
def zka (s:SchD) (d:DefD):Bool:=!d.faces.any (zin s d)
theorem zqn (s:SchD) (d:DefD) (b:Nat) (H:zc) (hb:H b=some (.cells (zq s))) (hs:zJ s≤Lim) (hd:bE d≤Lim):zj Tryz.prog 174 [.agg (cE d),.ptr b 0] H (At (.bool (zka s d)) H):=by
 have hdf:d.faces.length≤Lim:=by have:=ZN d.faces;simp only[bE] at hd;omega
 have h3:=fun(c:Nat) (H2:zc) (h0:H2 b=some (.cells (zq s))) (h:H2 c=some (.cells (cE d)))=>zeP (fun n:List UInt8=>AV.str n) d.faces 175 [.ptr b 0,.ptr c 0] (zin s d) H2 hdf (by kernel_rfl) fun m _=>zp2 s d m b c H2 h0 h hs hd
 unfold zka
 generalize d.faces.any (zin s d)=x1 at *
 obtain⟨k,nm,fs,fl,ps,pa⟩:=d
 simp only[ye] at h3 ⊢
 refine zj.go ir174 ck174 (Al4 _) fun KP Q hQ=>?_
 simp(disch:=omega) only[ir174,go_sem]
 refine zb fun b2 hb2=>?_
 have hne:b≠b2:=fun e=>by subst e;rw[hb] at hb2;cases hb2
 simp(disch:=omega) only[hne,Ne.symm hne,go_sem]
 refine z7 (h3 b2 _ (by rw[upd_ne hne,hb]) (upd_same ..)) ?_
 rintro _ _ ⟨_,rfl,rfl,rfl⟩
 simp(disch:=omega) only[ZP,go_sem]
 exact hQ _ _ _ H _ nofun rfl ((Low.refl _).upd hb2) ⟨by simp[zd,ze,AV.strip,AV.strip1],rfl⟩
def zje (s:SchD):Bool:=s.defs.all (zka s)
theorem zsO (s:SchD) (hb:zJ s≤Lim):zg Tryz.prog 120 [.agg (zq s)] (.bool (zje s)):=by
 have hl:=yc hb
 have hx:=fun b H hb'=>zd8 s 174 [.ptr b 0] (zka s) H hl (by kernel_rfl) fun d hd=>zqn s d b H hb' hb (zh3 hd hb)
 rw[zje]
 generalize s.defs.all (zka s)=x1 at *
 obtain⟨sd,sq,sm⟩:=s
 simp only[zq] at hx ⊢
 refine zg.go ir120 ck120 (Al4 _) fun KP Q hQ=>?_
 simp(disch:=omega) only[ir120,go_sem]
 refine zb fun b1 hb1=>?_
 simp(disch:=omega) only[go_sem]
 refine z7 (hx b1 _ (upd_same ..)) ?_
 rintro _ _ ⟨_,rfl,rfl,rfl⟩
 simp(disch:=omega) only[ZP,go_sem]
 exact hQ _ _ _ _ nofun rfl rfl
theorem zkM (n:List UInt8):∀(l:List DefD) (a:List (List UInt8)),(l.foldl (zbo n) a).length≤a.length+l.length
 | [],a=>by simp
 | x::l,a=>by have:=zkM n l (zbo n a x);have:=zjM n a x;simp only[List.foldl,Al2];omega
theorem zkj (s:SchD):∀(l:List (List UInt8)) (a:List (List UInt8)),(l.foldl (zcy s) a).length≤a.length+l.length
 | [],a=>by simp
 | x::l,a=>by have:=zkj s l (zcy s a x);have:=zkF s a x;simp only[List.foldl,Al2];omega
theorem zgu (s:SchD) (n:List UInt8):(zbm s n).length≤zJ s+1:=by
 rw[zkl]
 cases h:yN s n with
 | none=>simp
 | some d =>
  obtain⟨_,_,h3,_⟩:=Ym h
  have h4:=ZN d.parts
  have h5:=zeg s.defs
  have h6:bEs s.defs≤zJ s:=by simp only[zJ];omega
  have h1:=zkM n s.defs []
  have h2:=zkj s d.parts []
  simp only[Al3] at h1 h2
  show (if d.k=1 then [n] else if d.k=2 then s.defs.foldl (zbo n) [] else if d.k=3 then d.parts.foldl (zcy s) [] else []).length≤_
  split
  ·simp
  ·split
   ·omega
   ·split
    ·omega
    ·simp
def znj (s:SchD) (a b:TyD):Bool:=if zG a=true∧zaS ⟨b.nm,a.lists,a.musts⟩ b=true then (if a.nm=b.nm then true else match yN s a.nm with
  | none=>false
  | some d=>(decide (d.k=1)&&zQ a.nm (zbm s b.nm))||(decide (d.k=2)&&(y8 s b.nm [2]&&zQ b.nm d.faces))) else false
theorem zut (s:SchD) (a b:TyD) (hb:zJ s+1≤Lim) (ha:a.nm.length≤Lim) (hbn:b.nm.length≤Lim):zg Tryz.prog 217 [.agg (zq s),.agg (cTy a),.agg (cTy b)] (.bool (znj s a b)):=by
 have hl:=@yc s (by omega)
 have h1:=YG a ha
 have h2:=zk9 ⟨b.nm,a.lists,a.musts⟩ b hbn hbn
 have h3:=zeD s a.nm hl
 have hle:=@Ym s a.nm
 have h4:=zpA s b.nm (by omega)
 have h5:=yR (zbm s b.nm) a.nm (by have:=zgu s b.nm;omega)
 have h6:=zcx s b.nm [2] hl (by decide)
 have h7:=fun(l:List (List UInt8)) (h:l.length≤Lim)=>yR l b.nm h
 have hbl:zJ s≤1099511627776:=by simp only[Lim] at hb;omega
 have e0:znj s a b=if zG a=true∧zaS ⟨b.nm,a.lists,a.musts⟩ b=true then (if a.nm=b.nm then true else match yN s a.nm with
  | none=>false
  | some d=>(decide (d.k=1)&&zQ a.nm (zbm s b.nm))||(decide (d.k=2)&&(y8 s b.nm [2]&&zQ b.nm d.faces))) else false:=rfl
 generalize znj s a b=F at *
 obtain⟨an,al,am⟩:=a
 obtain⟨bn,bl,bm⟩:=b
 simp only at h1 h2 h3 h4 h5 h6 h7 e0 hle
 generalize zG ⟨an,al,am⟩=x1 at *
 generalize zaS ⟨bn,al,am⟩ ⟨bn,bl,bm⟩=x2 at *
 generalize zbm s bn=x3 at *
 generalize y8 s bn [2]=x4 at *
 obtain⟨sd,sq,sm⟩:=s
 generalize hS:(⟨sd,sq,sm⟩:SchD)=s at *
 have hcs:zq s=[.sl .no 6 (cEs sd),.str sq,.str sm]:=by rw[← hS];rfl
 simp only[hcs,cTy,List.map,cI] at h1 h2 h3 h4 h6 ⊢
 refine zg.go ir217 ck217 (Al4 _) fun KP Q hQ=>?_
 have fin:∀ r,F=r→∀ ρ H,zN ρ H ir217.res=some [.bool r]→Q .ret ρ H:=fun r e ρ H h1=>hQ _ ρ H _ nofun h1 (by rw[e];rfl)
 simp(disch:=omega) only[ir217,go_sem]
 refine zb fun b7 hb7=>?_
 simp(disch:=omega) only[go_sem]
 refine za h1 ?_
 cases x1 with
 | false =>
  simp(disch:=omega) only[go_sem]
  exact fin false (by rw[e0];simp) _ _ rfl
 | true =>
 simp(disch:=omega) only[go_sem]
 refine za h2 ?_
 cases x2 with
 | false =>
  simp(disch:=omega) only[go_sem]
  exact fin false (by rw[e0];simp) _ _ rfl
 | true =>
 rw[if_pos ⟨rfl,rfl⟩] at e0
 by_cases hn:an=bn
 ·rw[if_pos hn] at e0
  have hn':=eq_true hn
  simp(disch:=omega) only[hn',go_sem]
  exact fin true e0 _ _ rfl
 rw[if_neg hn] at e0
 simp(disch:=omega) only[hn,go_sem]
 refine za h3 ?_
 cases hfe:yN s an with
 | none =>
  rw[hfe] at e0
  simp(disch:=omega) only[Option.getD,Option.isSome,zE,ye,go_sem]
  refine zb fun b8 hb8=>?_
  have hne:=yY hb8
  simp(disch:=omega) only[hne,Ne.symm hne,go_sem]
  exact fin false e0 _ _ rfl
 | some d =>
  rw[hfe] at e0
  obtain⟨_,hle2,_,_⟩:=hle hfe
  obtain⟨k,dn,fs,fl,ps,pa⟩:=d
  simp only at e0 hle2
  have hfs:=ZN fs
  replace h7:=h7 fs (by simp only[Lim];omega)
  simp(disch:=omega) only[Option.getD,Option.isSome,ye,go_sem]
  refine zb fun b8 hb8=>?_
  have hne:=yY hb8
  by_cases k1:k=1
  ·subst k1
   simp(disch:=omega) only[hne,Ne.symm hne,go_sem]
   refine za h4 ?_
   simp(disch:=omega) only[hne,Ne.symm hne,go_sem]
   refine za h5 ?_
   cases hh:zQ an x3 with
   | true =>
    simp(disch:=omega) only[hne,Ne.symm hne,go_sem]
    exact fin true (by rw[e0];simp[hh]) _ _ rfl
   | false =>
    simp(disch:=omega) only[hne,Ne.symm hne,go_sem]
    exact fin false (by rw[e0];simp[hh]) _ _ rfl
  ·by_cases k2:k=2
   ·subst k2
    simp(disch:=omega) only[hne,Ne.symm hne,go_sem]
    refine za (zg.low h6) ?_
    cases x4 with
    | false =>
     simp(disch:=omega) only[hne,Ne.symm hne,go_sem]
     exact fin false (by rw[e0];simp) _ _ rfl
    | true =>
     simp(disch:=omega) only[hne,Ne.symm hne,go_sem]
     refine za h7 ?_
     simp(disch:=omega) only[go_sem]
     exact fin (zQ bn fs) (by rw[e0];simp) _ _ rfl
   ·simp(disch:=omega) only[hne,Ne.symm hne,k1,k2,go_sem]
    exact fin false (by rw[e0];simp[k1,k2]) _ _ rfl
def zrz (a b:TyD):Bool:=zcE (cTy a) (cTy b)
def zpZ (fp:List VarD) (p:VarD):Bool:=match yb fp p.nm with|none=>false|some q=>zrz q.t p.t
def zpu (gp:List VarD) (q:VarD):Bool:=(yb gp q.nm).isSome||!zgb q
def zfc (f g:FldD):Bool:=g.ps.all (zpZ f.ps)&&f.ps.all (zpu g.ps)
theorem zt7 (f g:FldD) (hf:bWs f.ps≤Lim) (hg:bWs g.ps≤Lim):zg Tryz.prog 218 [.agg (cL f),.agg (cL g)] (.bool (zfc f g)):=by
 have e0:zfc f g=(g.ps.all (zpZ f.ps)&&f.ps.all (zpu g.ps)):=rfl
 generalize zfc f g=F at *
 obtain⟨fn,fp,⟨f1,f2,f3⟩,fd⟩:=f
 obtain⟨gn,gp,⟨g1,g2,g3⟩,gd⟩:=g
 simp only at e0 hf hg
 have hfl:=yS fp
 have hgl:=yS gp
 have l1:=Zr fp
 have l2:=Zr gp
 simp only[Lim] at hf hg
 rw[zaB,zaB]
 refine zg.go ir218 ck218 (Al4 _) fun KP Q hQ=>?_
 have fin:∀ r,F=r→∀ ρ H,zN ρ H ir218.res=some [.bool r]→Q .ret ρ H:=fun r e ρ H h1=>hQ _ ρ H _ nofun h1 (by rw[e];rfl)
 simp(disch:=omega) only[ir218,l2,go_sem]
 refine zf gp 16 (fun _:Unit=>[]) (fun done rest _ H=>rest.all (zpZ fp)=gp.all (zpZ fp)) () (by simp(disch:=omega) only[go_sem]) rfl ?_ ?_
 ·rintro _ H J hn hlt
  simp(disch:=omega) only[l1,l2,hlt,go_sem]
  refine zf fp 41 (fun _:Unit=>[]) (fun done rest _ H=>rest.all (zpu gp)=fp.all (zpu gp)) () (by simp(disch:=omega) only[go_sem]) rfl ?_ ?_
  ·rintro _ H J hn2 hlt
   simp(disch:=omega) only[l1,hlt,go_sem]
   exact fin true (by rw[e0,← hn,← hn2];rfl) _ _ rfl
  ·rintro done x rest _ H J hd hlt _ hn2 hJ
   have hgt:=Zm hd
   have hP:=zdT gp x.nm (by simp only[Lim];omega)
   have hR:=zto x (by have:=@Ys x fp (by rw[hd];simp);simp only[bW] at this;simp only[Lim];omega)
   rw[List.all_cons] at hn2
   have ht:zpu gp x=((yb gp x.nm).isSome||!zgb x):=rfl
   generalize zgb x=rq at *
   obtain⟨nm,⟨t1,t2,t3⟩,hh,⟨xk,xq,xs,xl,xm⟩⟩:=x
   rw[z8] at hgt hR
   simp only at hP ht
   simp(disch:=omega) only[l1,hlt,hgt,go_sem]
   refine zb fun b10 hb10=>?_
   simp(disch:=omega) only[go_sem]
   refine za hP ?_
   cases hp2:yb gp nm with
   | some p =>
    rw[hp2] at ht
    rw[ht] at hn2
    obtain⟨pn,⟨p1,p2,p3⟩,ph,⟨pk,pq,ps2,pl,pm⟩⟩:=p
    simp(disch:=omega) only[Option.getD,Option.isSome,z8,go_sem]
    refine zb fun b11 hb11=>?_
    have hne:=yY hb11
    simp(disch:=omega) only[hne,Ne.symm hne,go_sem]
    exact goJ (hJ () _ (by simpa using hn2)) (by simp(disch:=omega) only[wrap64,go_sem])
   | none =>
    rw[hp2] at ht
    rw[ht] at hn2
    simp(disch:=omega) only[Option.getD,Option.isSome,zW,zV,z8,go_sem]
    refine zb fun b11 hb11=>?_
    have hne:=yY hb11
    simp(disch:=omega) only[hne,Ne.symm hne,go_sem]
    refine za hR ?_
    cases rq with
    | true =>
     simp(disch:=omega) only[go_sem]
     exact fin false (by rw[e0,← hn2];simp) _ _ rfl
    | false =>
     simp(disch:=omega) only[go_sem]
     exact goJ (hJ () _ (by simpa using hn2)) (by simp(disch:=omega) only[wrap64,go_sem])
 ·rintro done x rest _ H J hd hlt _ hn hJ
  have hgt:=Zm hd
  have hP:=zdT fp x.nm (by simp only[Lim];omega)
  rw[List.all_cons] at hn
  have ht:zpZ fp x=match yb fp x.nm with|none=>false|some q=>zrz q.t x.t:=rfl
  obtain⟨nm,⟨t1,t2,t3⟩,hh,⟨xk,xq,xs,xl,xm⟩⟩:=x
  rw[z8] at hgt
  simp only at hP ht
  simp(disch:=omega) only[l2,hlt,hgt,go_sem]
  refine zb fun b6 hb6=>?_
  simp(disch:=omega) only[go_sem]
  refine za hP ?_
  cases hp2:yb fp nm with
  | none =>
   rw[hp2] at ht
   rw[ht] at hn
   simp(disch:=omega) only[Option.getD,Option.isSome,zW,zV,z8,go_sem]
   refine zb fun b7 hb7=>?_
   have hne:=yY hb7
   simp(disch:=omega) only[hne,Ne.symm hne,go_sem]
   exact fin false (by rw[e0,← hn];simp) _ _ rfl
  | some p =>
   rw[hp2] at ht
   simp only at ht
   rw[ht] at hn
   obtain⟨pn,⟨p1,p2,p3⟩,ph,⟨pk,pq,ps2,pl,pm⟩⟩:=p
   simp only at hn
   simp(disch:=omega) only[Option.getD,Option.isSome,z8,go_sem]
   refine zb fun b7 hb7=>?_
   have hne:=yY hb7
   have hfit:zZ [K1.s,K1.i .i64,K1.i .i64] [.str p1,.int .i64 p2,.int .i64 p3]=true:=by simp[zZ,K1.fits]
   have hfit2:zZ [K1.s,K1.i .i64,K1.i .i64] [.str t1,.int .i64 t2,.int .i64 t3]=true:=by simp[zZ,K1.fits]
   have hk:zcE [.str p1,.int .i64 p2,.int .i64 p3] [.str t1,.int .i64 t2,.int .i64 t3]=zrz ⟨p1,p2,p3⟩ ⟨t1,t2,t3⟩:=rfl
   cases hq:zrz ⟨p1,p2,p3⟩ ⟨t1,t2,t3⟩ with
   | true =>
    rw[hq] at hn hk
    simp(disch:=omega) only[hne,Ne.symm hne,hfit,hfit2,hk,go_sem]
    exact goJ (hJ () _ (by simpa using hn)) (by simp(disch:=omega) only[wrap64,go_sem])
   | false =>
    rw[hq] at hn hk
    simp(disch:=omega) only[hne,Ne.symm hne,hfit,hfit2,hk,go_sem]
    exact fin false (by rw[e0,← hn];simp) _ _ rfl
theorem zui (g f:FldD) (b:Nat) (H:zc) (hb:H b=some (.cells (cL g))):zj Tryz.prog 216 [.agg (cL f),.ptr b 0] H (At (.bool (nmF g.nm f)) H):=by
 obtain⟨gn,gp,⟨g1,g2,g3⟩,gd⟩:=g
 obtain⟨fn,fp,⟨f1,f2,f3⟩,fd⟩:=f
 rw[zaB] at hb
 refine zj.go ir216 ck216 (Al4 _) fun KP Q hQ=>?_
 simp(disch:=omega) only[ir216,zaB,hb,go_sem]
 exact hQ _ _ _ _ _ nofun rfl (Low.refl _) ⟨by simp[zd,ze,AV.strip,AV.strip1,nmF],rfl⟩
def zqO (s:SchD) (d:DefD) (g:FldD):Bool:=match d.flds.find? (nmF g.nm) with
 | none=>false
 | some f=>znj s f.t g.t&&zfc f g
def zjX (s:SchD) (d:DefD) (face:List UInt8):Bool:=((yN s face).getD zE).flds.all (zqO s d)
theorem zsx {f:FldD}:f.t.nm.length≤bL f:=by simp only[bL];omega
theorem zvo (s:SchD) (d:DefD) (face:List UInt8) (hs:zJ s+1≤Lim) (hd:bE d≤Lim):zg Tryz.prog 179 [.agg (zq s),.agg (cE d),.str face] (.bool (zjX s d face)):=by
 have hl:=@yc s (by omega)
 have h1:=zeD s face hl
 have hle:=@Ym s face
 have hsub:=fun a b h1 h2=>zut s a b hs h1 h2
 have hbs:zJ s+1≤1099511627776:=by simpa only[Lim] using hs
 have hfl:∀ x,(yN s face).getD zE=x→bLs x.flds≤zJ s:=by
  intro x hx
  cases h:yN s face with
  | none=>rw[h] at hx;subst hx;simp[zE,bLs]
  | some y=>rw[h] at hx;subst hx;exact(hle h).1
 have e0:zjX s d face=((yN s face).getD zE).flds.all (zqO s d):=rfl
 have hG:∀ g,zqO s d g=match d.flds.find? (nmF g.nm) with|none=>false|some f=>znj s f.t g.t&&zfc f g:=fun _=>rfl
 have hidx:=fun(g:FldD) (b:Nat) (H:zc) (hb:H b=some (.cells (cL g))) (hl:d.flds.length≤Lim)=>zqZ cL (fun _=>rfl) d.flds 216 [.ptr b 0] (nmF g.nm) H hl (by kernel_rfl) fun f _=>zui g f b H hb
 generalize zjX s d face=F at *
 generalize (yN s face).isSome=fs at *
 generalize (yN s face).getD zE=x at *
 replace hfl:=hfl x rfl
 obtain⟨xk,xn,xfs,xfl,xps,xpa⟩:=x
 obtain⟨dk,dn,dfs,dfl,dps,dpa⟩:=d
 simp only[bE,Lim] at hd
 simp only at hfl e0 hG hidx
 have hxl:=YV xfl
 have hdl:=YV dfl
 have l1:=zaX xfl
 have l2:=zaX dfl
 generalize zqO s ⟨dk,dn,dfs,dfl,dps,dpa⟩=G at *
 obtain⟨sd,sq,sm⟩:=s
 generalize hS:(⟨sd,sq,sm⟩:SchD)=s at *
 have hcs:zq s=[.sl .no 6 (cEs sd),.str sq,.str sm]:=by rw[← hS];rfl
 simp only[hcs,ye] at h1 hsub ⊢
 refine zg.go ir179 ck179 (Al4 _) fun KP Q hQ=>?_
 have fin:∀ r,F=r→∀ ρ H,zN ρ H ir179.res=some [.bool r]→Q .ret ρ H:=fun r e ρ H h1=>hQ _ ρ H _ nofun h1 (by rw[e];rfl)
 simp(disch:=omega) only[ir179,go_sem]
 refine za h1 ?_
 simp(disch:=omega) only[go_sem]
 refine zb fun b7 hb7=>?_
 simp(disch:=omega) only[l1,go_sem]
 refine zf xfl 21 (fun _:Unit=>[]) (fun done rest _ H=>rest.all G=xfl.all G) () (by simp(disch:=omega) only[go_sem]) rfl ?_ ?_
 ·rintro _ H J hn hlt
  simp(disch:=omega) only[l1,hlt,go_sem]
  exact fin true (by rw[e0,← hn];rfl) _ _ rfl
 ·rintro done g rest _ H J hd2 hlt _ hn hJ
  have hgt:=zdt hd2
  have hgb:=@zch g xfl (by rw[hd2];simp)
  have hg1:=@zou g
  have hg2:=@zi0 g
  have hg3:=@zsx g
  have hgg:=hG g
  have hid:=hidx g
  rw[List.all_cons,hgg] at hn
  have hcg:∀ g:FldD,cL g=[.str g.nm,.sl .no 10 (cWs g.ps),.str g.t.nm,.int .i64 g.t.lists,.int .i64 g.t.musts,.sl .no 2 (cDs g.dirs)]:=fun _=>rfl
  have hcc:=hcg g
  rw[hcc] at hgt
  simp(disch:=omega) only[l1,hlt,hgt,go_sem]
  refine zb fun b10 hb10=>?_
  simp(disch:=omega) only[go_sem]
  refine z7 (hid b10 _ (by rw[upd_same];rfl) (by simp only[Lim];omega)) ?_
  rintro _ _ ⟨_,rfl,rfl,rfl⟩
  rcases zal (nmF g.nm) dfl 0 with ⟨a,f,r,e1,e2,e3,e4⟩|⟨e1,e2⟩
  ·rw[e4,Int.zero_add]
   rw[e3] at hn
   simp only at hn
   have hft:=zdt e1
   have hfb:=@zch f dfl (by rw[e1];simp)
   have hf2:=@zi0 f
   have hf3:=@zsx f
   have h5:(a.length:Int)<dfl.length:=by rw[e1,Al5,Al2];omega
   have h7:¬ ((a.length:Int)<0):=by omega
   have hS1:=hsub f.t g.t (by simp only[Lim];omega) (by simp only[Lim];omega)
   have hT1:=zt7 f g (by simp only[Lim];omega) (by simp only[Lim];omega)
   rw[hcg f] at hft
   simp only[cTy] at hS1
   rw[hcg f,hcg g] at hT1
   simp(disch:=omega) only[ZP,hft,l2,h5,h7,go_sem]
   refine za hS1 ?_
   cases hb1:znj s f.t g.t with
   | false =>
    rw[hb1] at hn
    simp(disch:=omega) only[go_sem]
    exact fin false (by rw[e0,← hn];simp) _ _ rfl
   | true =>
    rw[hb1] at hn
    simp(disch:=omega) only[hft,l2,h5,h7,go_sem]
    refine za hT1 ?_
    cases hb2:zfc f g with
    | false =>
     rw[hb2] at hn
     simp(disch:=omega) only[go_sem]
     exact fin false (by rw[e0,← hn];simp) _ _ rfl
    | true =>
     rw[hb2] at hn
     simp(disch:=omega) only[go_sem]
     exact goJ (hJ () _ (by simpa using hn)) (by simp(disch:=omega) only[wrap64,go_sem])
  ·rw[e2]
   rw[e1] at hn
   simp(disch:=omega) only[ZP,go_sem]
   exact fin false (by rw[e0,← hn];simp) _ _ rfl
theorem zqM (s:SchD) (d:DefD) (n:List UInt8) (b:Nat) (H:zc) (hb:H b=some (.cells (zq s))) (hs:zJ s+1≤Lim) (hd:bE d≤Lim):zj Tryz.prog 178 [.str n,.ptr b 0,.view (cE d)] H (At (.bool (!zjX s d n)) H):=by
 have h1:=zvo s d n hs hd
 generalize zjX s d n=x1 at *
 obtain⟨dk,dn,dfs,dfl,dps,dpa⟩:=d
 obtain⟨sd,sq,sm⟩:=s
 simp only[zq,ye] at h1 hb ⊢
 refine zj.go ir178 ck178 (Al4 _) fun KP Q hQ=>?_
 simp(disch:=omega) only[ir178,hb,go_sem]
 refine za h1 ?_
 simp(disch:=omega) only[go_sem]
 exact hQ _ _ _ _ _ nofun rfl (Low.refl _) ⟨by simp[zd,ze,AV.strip,AV.strip1],rfl⟩
def zjp (s:SchD) (d:DefD):Bool:=!d.faces.any fun n=>!zjX s d n
theorem zts (s:SchD) (d:DefD) (b:Nat) (H:zc) (hb:H b=some (.cells (zq s))) (hs:zJ s+1≤Lim) (hd:bE d≤Lim):zj Tryz.prog 177 [.agg (cE d),.ptr b 0] H (At (.bool (zjp s d)) H):=by
 have hdf:d.faces.length≤Lim:=by have:=ZN d.faces;simp only[bE] at hd;omega
 have h3:=zeP (fun n:List UInt8=>AV.str n) d.faces 178 [.ptr b 0,.view (cE d)] (fun n=>!zjX s d n) H hdf (by kernel_rfl) fun m _=>zqM s d m b H hb hs hd
 unfold zjp
 generalize (d.faces.any fun n=>!zjX s d n)=x1 at *
 obtain⟨k,nm,fs,fl,ps,pa⟩:=d
 simp only[ye] at h3 ⊢
 refine zj.go ir177 ck177 (Al4 _) fun KP Q hQ=>?_
 simp(disch:=omega) only[ir177,go_sem]
 refine z7 h3 ?_
 rintro _ _ ⟨_,rfl,rfl,rfl⟩
 simp(disch:=omega) only[ZP,go_sem]
 exact hQ _ _ _ _ _ nofun rfl (Low.refl _) ⟨by simp[zd,ze,AV.strip,AV.strip1],rfl⟩
def ziD (s:SchD):Bool:=s.defs.all (zjp s)
theorem ztk (s:SchD) (hb:zJ s+1≤Lim):zg Tryz.prog 121 [.agg (zq s)] (.bool (ziD s)):=by
 have hl:=@yc s (by omega)
 have hx:=fun b H hb'=>zd8 s 177 [.ptr b 0] (zjp s) H hl (by kernel_rfl) fun d hd=>zts s d b H hb' hb (zh3 hd (by omega))
 rw[ziD]
 generalize s.defs.all (zjp s)=x1 at *
 obtain⟨sd,sq,sm⟩:=s
 simp only[zq] at hx ⊢
 refine zg.go ir121 ck121 (Al4 _) fun KP Q hQ=>?_
 simp(disch:=omega) only[ir121,go_sem]
 refine zb fun b1 hb1=>?_
 simp(disch:=omega) only[go_sem]
 refine z7 (hx b1 _ (upd_same ..)) ?_
 rintro _ _ ⟨_,rfl,rfl,rfl⟩
 simp(disch:=omega) only[ZP,go_sem]
 exact hQ _ _ _ _ nofun rfl rfl
end Go.Proofs.YtbcocdloklbkjaaGreatDoor
