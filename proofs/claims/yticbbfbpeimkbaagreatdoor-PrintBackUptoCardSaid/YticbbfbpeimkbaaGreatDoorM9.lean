import Derived.Test.YticbbfbpeimkbaaGreatDoorM1
import Derived.Test.YticbbfbpeimkbaaGreatDoorM2
import Derived.Test.YticbbfbpeimkbaaGreatDoorM3
import Derived.Test.YticbbfbpeimkbaaGreatDoorM4
import Derived.Test.YticbbfbpeimkbaaGreatDoorM5
import Derived.Test.YticbbfbpeimkbaaGreatDoorM6
import Derived.Test.YticbbfbpeimkbaaGreatDoorM7
import Derived.Test.YticbbfbpeimkbaaGreatDoorM8
set_option maxRecDepth 100000
set_option linter.all false
namespace Go.Proofs.YticbbfbpeimkbaaGreatDoor
open Go.Ab
theorem zki {dp:Int} {fixed:Bool} {v:Val} (h:yJ dp fixed v=true):pl v∧dp+zM v≤16∧(fixed=true→yM v []=[]):=by
 simp only[yJ,zaT,Al0,Bool.or_eq_true,Bool.not_eq_true',decide_eq_true_eq] at h
 refine⟨h.1.1,h.2.1,fun e=>?_⟩
 rcases h.2.2 with h|h
 ·rw[h] at e;cases e
 ·exact List.length_eq_zero_iff.1 h
theorem zgX {dp:Int} {k:Nat} {fixed:Bool} {v:Val} (hk:dp+k=16) (h:yJ dp fixed v=true) (hw:wfV v) (t:TS):Zo fixed k (yG v++t)=.ok (v,t):=by
 obtain⟨h1,h2,h3⟩:=zki h
 exact zpj fixed v h1 hw k t (by omega) h3
theorem zhN {dp:Int} {k:Nat} {fixed:Bool} (hk:dp+k=16) (l:List Mem) (h:YY dp fixed l=true) (hw:zdT l) (t:TS) (ht:isP [40] t=false):zan fixed k (ZV l++t)=.ok (l,t):=by
 unfold zan ZV
 by_cases hl:l.length=0
 ·rw[if_pos hl]
  rw[List.length_eq_zero_iff] at hl
  subst hl
  simp[ht]
 ·rw[if_neg hl]
  have hne:l≠[]:=fun e=>hl (by rw[e];rfl)
  have hh:∀(x:Mem) (t:TS),isP [41] (zca x++t)=false:=fun x t=>by cases x;simp[zca,Y0]
  have e:pk [40]::(ZA l++[pk [41]])++t=pk [40]::(l.flatMap zca++pk [41]::t):=by rw[zeb];simp
  rw[e,yw]
  simp only[decide_true,if_true,List.tail_cons]
  refine zcD (F:=fun _=>True) (fun _=>trivial) l hne (fun _ _ _=>trivial) (fun x _ t=>hh x t) (fun x hx t _=>?_) t
  obtain⟨s,v⟩:=x
  have h1:=List.all_eq_true.1 h _ hx
  simp only[zjM,Al0] at h1
  exact zfs (fun t=>zgX hk h1.2 (zbE hw s v hx) t) t
theorem zqg {dp:Int} {k:Nat} {fixed:Bool} (hk:dp+k=16) (d:DirD) (h:zeD dp fixed d=true) (hw:wfD d) (t:TS) (ht:isP [40] t=false):zfU fixed k (wk d.nm::ZV d.args++t)=.ok (d,t):=by
 simp only[zeD,Al0] at h
 rw[Al6,zfU,Zj]
 simp only[pb,zhN hk d.args h.2 hw t ht]
theorem zk9 (l:List DirD):tDs l=l.flatMap fun d=>pk [64]::(wk d.nm::ZV d.args):=rfl
theorem ze0 {dp:Int} {k:Nat} {fixed:Bool} (hk:dp+k=16) (l:List DirD) (h:yZ dp fixed l=true) (hw:zjH l) (t:TS) (h1:isP [40] t=false) (h2:isP [64] t=false):Yy fixed k (tDs l++t)=.ok (l,t):=by
 unfold Yy
 rw[zk9]
 have hlen:=YM (tk:=fun d:DirD=>pk [64]::(wk d.nm::ZV d.args)) l fun x _=>by simp
 have:=zfC (tk:=fun d:DirD=>wk d.nm::ZV d.args) (m:=[64]) (f:=zfU fixed k) (F:=fun t=>isP [40] t=false) (fun t=>by rw[yw];decide) l (fun d hd t ht=>zqg hk d (List.all_eq_true.1 h d hd) (hw d hd) t ht) ((l.flatMap fun d=>pk [64]::(wk d.nm::ZV d.args)).length+t.length+1) [] t h1 h2 (by omega)
 simpa using this
def Fol (t:TS):Prop:=isP [58] t=false∧isP [40] t=false∧isP [64] t=false∧isP [123] t=false
theorem Fol.pk {m:List UInt8} (h1:m≠[58]) (h2:m≠[40]) (h3:m≠[64]) (h4:m≠[123]) (t:TS):Fol (pk m::t):=by simp[Fol,yw,h1,h2,h3,h4]
theorem Fol.wk (m:List UInt8) (t:TS):Fol (wk m::t):=by simp[Fol,zbI]
theorem zps (x:SelD) (t:TS):Fol (tS x++t)∧isP [125] (tS x++t)=false:=by
 obtain⟨k,al,nm,args,dirs,on,sels⟩:=x
 simp only[tS,Z6]
 split
 ·split
  ·exact⟨Fol.wk _ _,zbI ..⟩
  ·exact⟨Fol.wk _ _,zbI ..⟩
 ·split
  ·exact⟨Fol.pk (by decide) (by decide) (by decide) (by decide) _,by rw[Al6,yw];decide⟩
  ·exact⟨Fol.pk (by decide) (by decide) (by decide) (by decide) _,by rw[Al6,yw];decide⟩
theorem zlt:∀ l,tSl l=l.flatMap tS
 | []=>rfl
 | v::r=>by rw[tSl,zlt r];rfl
theorem zfE {dp:Int}:∀ {l:List SelD},yE dp l=true→∀ v∈l,ye dp v=true
 | _::_,h,v,hv=>by
  simp only[yE,Al0] at h
  exact(List.mem_cons.1 hv).elim (fun e=>e▸h.1) (zfE h.2 v)
theorem zgF:∀ {l:List SelD},zbv l→∀ v∈l,wfS v
 | _::_,h,v,hv=>(List.mem_cons.1 hv).elim (fun e=>e▸h.1) (zgF h.2 v)
theorem zgN (m:List UInt8) (hm:m≠[64]) (l:List DirD) (t:TS) (ht:isP m t=false):isP m (tDs l++t)=false:=by
 cases l with
 | nil=>exact ht
 | cons d l=>simp only[zk9,List.flatMap_cons,Al6,yw];exact decide_eq_false (Ne.symm hm)
theorem zpE (m:List UInt8) (hm:m≠[40]) (l:List Mem) (t:TS) (ht:isP m t=false):isP m (ZV l++t)=false:=by
 unfold ZV
 split
 ·exact ht
 ·simp only[Al6,yw];exact decide_eq_false (Ne.symm hm)
theorem zjn (m:List UInt8) (hm:m≠[123]) (l:List SelD) (t:TS) (ht:isP m t=false):isP m ((if l.length=0 then [] else pk [123]::(tSl l++[pk [125]]))++t)=false:=by
 split
 ·exact ht
 ·simp only[Al6,yw];exact decide_eq_false (Ne.symm hm)
theorem zpN (k:Nat) (dp:Int) (hk:dp+k=16) (x:SelD) (hr:ye dp x=true) (hw:wfS x) (hs:∀(l:List SelD) (t:TS),l.length≠0→dp+1≤16→yE (dp+1) l=true→bSs l<bS x→zbv l→yn k (tBl l++t)=.ok (l,t)) (t:TS) (ht:Fol t):zaM (yn k) k (tS x++t)=.ok (x,t):=by
 obtain⟨kd,al,nm,args,dirs,on,sels⟩:=x
 obtain⟨hwa,hwd,hws⟩:=hw
 obtain⟨t1,t2,t3,t4⟩:=ht
 simp only[ye,Al0] at hr
 obtain⟨hd,hr⟩:=hr
 have hbs:bSs sels<bS (.mk kd al nm args dirs on sels):=by simp only[bS];omega
 have hb:isP [64] ((if sels.length=0 then [] else pk [123]::(tSl sels++[pk [125]]))++t)=false:=zjn _ (by decide) _ _ t3
 have hb2:isP [40] ((if sels.length=0 then [] else pk [123]::(tSl sels++[pk [125]]))++t)=false:=zjn _ (by decide) _ _ t2
 have hdd:=ze0 hk dirs hd hwd _ hb2 hb
 by_cases k0:kd=0
 ·subst k0
  simp only[if_true,Al0,Bool.or_eq_true,decide_eq_true_eq] at hr
  obtain⟨r1,r2,r3,r4,r5⟩:=hr
  subst r3
  have ha:=zhN hk args r4 hwa (tDs dirs++((if sels.length=0 then [] else pk [123]::(tSl sels++[pk [125]]))++t)) (zgN _ (by decide) _ _ hb2)
  have hend:pb (if isP [123] ((if sels.length=0 then [] else pk [123]::(tSl sels++[pk [125]]))++t) then yn k ((if sels.length=0 then [] else pk [123]::(tSl sels++[pk [125]]))++t) else .ok ([],(if sels.length=0 then [] else pk [123]::(tSl sels++[pk [125]]))++t)) (fun l t=>(.ok (SelD.mk 0 al nm args dirs [] l,t):PR SelD))=.ok (SelD.mk 0 al nm args dirs [] sels,t):=by
   by_cases h0:sels.length=0
   ·simp only[h0,if_true,Zy,t4,Al7,if_false,pb]
    rw[List.length_eq_zero_iff.1 h0]
   ·rcases r5 with r5|r5
    ·exact absurd r5 h0
    ·have:=hs sels t h0 r5.1 r5.2 hbs hws
     simp only[tBl,Al6] at this
     simp only[h0,if_false,Al6,yw,decide_true,if_true,this,pb]
  by_cases hal:al=[]
  ·subst hal
   have e:tS (.mk 0 [] nm args dirs [] sels)++t=wk nm::(ZV args++(tDs dirs++((if sels.length=0 then [] else pk [123]::(tSl sels++[pk [125]]))++t))):=by simp[tS]
   have c1:isP [58] (ZV args++(tDs dirs++((if sels.length=0 then [] else pk [123]::(tSl sels++[pk [125]]))++t)))=false:=zpE _ (by decide) _ _ (zgN _ (by decide) _ _ (zjn _ (by decide) _ _ t1))
   rw[e]
   unfold zaM
   rw[zbI,Zj]
   simp only[Al7,if_false,zE,c1,ha,hdd]
   exact hend
  ·have e:tS (.mk 0 al nm args dirs [] sels)++t=wk al::pk [58]::wk nm::(ZV args++(tDs dirs++((if sels.length=0 then [] else pk [123]::(tSl sels++[pk [125]]))++t))):=by simp[tS,hal]
   rw[e]
   unfold zaM
   rw[zbI,Zj]
   simp only[Al7,if_false,zE,yw,decide_true,if_true,List.tail_cons,Zj,ha,hdd]
   exact hend
 by_cases k1:kd=1
 ·subst k1
  simp only[reduceCtorEq,if_false,if_true,Al0,decide_eq_true_eq,show ¬ ((1:Int)=0) by decide] at hr
  obtain⟨r1,r2,r3,r4,r5,r6⟩:=hr
  subst r3;subst r4
  have e5:=List.length_eq_zero_iff.1 r5
  have e6:=List.length_eq_zero_iff.1 r6
  subst e5;subst e6
  have e:tS (.mk 1 [] nm [] dirs [] [])++t=pk [46,46,46]::wk nm::(tDs dirs++t):=by simp[tS]
  have hw2:isW [111,110] (wk nm::(tDs dirs++t))=false:=by rw[zfb];exact decide_eq_false r2
  have hk2:(hdT (wk nm::(tDs dirs++t))).k=2:=rfl
  simp only[Al3,if_true,Zy] at hdd
  rw[e]
  unfold zaM
  rw[yw]
  simp only[decide_true,if_true,List.tail_cons]
  unfold Zm
  rw[if_pos ⟨hk2,hw2⟩,Zj]
  simp only[zE,hdd]
 by_cases k2:kd=2
 ·subst k2
  simp only[if_false,if_true,Al0,Bool.or_eq_true,decide_eq_true_eq,show ¬ ((2:Int)=0) by decide,show ¬ ((2:Int)=1) by decide] at hr
  obtain⟨r1,r2,r3,r4,r5,r6,r7⟩:=hr
  subst r1;subst r2
  have e3:=List.length_eq_zero_iff.1 r3
  subst e3
  have hs2:=hs sels t r5 r6 r7 hbs hws
  simp only[r5,if_false] at hdd
  simp only[tBl] at hs2
  by_cases ho:on=[]
  ·subst ho
   have e:tS (.mk 2 [] [] [] dirs [] sels)++t=pk [46,46,46]::(tDs dirs++(pk [123]::(tSl sels++[pk [125]])++t)):=by simp[tS,r5]
   have hnw:(hdT (tDs dirs++(pk [123]::(tSl sels++[pk [125]])++t))).k=1:=by
    cases dirs with
    | nil=>rfl
    | cons d l=>rfl
   have hn2:¬ ((hdT (tDs dirs++(pk [123]::(tSl sels++[pk [125]])++t))).k=2∧isW [111,110] (tDs dirs++(pk [123]::(tSl sels++[pk [125]])++t))=false):=fun h=>by rw[hnw] at h;exact absurd h.1 (by decide)
   have hn3:isW [111,110] (tDs dirs++(pk [123]::(tSl sels++[pk [125]])++t))=false:=by unfold isW;rw[hnw];rfl
   rw[e]
   unfold zaM
   rw[yw]
   simp only[decide_true,if_true,List.tail_cons]
   unfold Zm
   rw[if_neg hn2,hn3]
   simp only[Al7,if_false,zE,hdd,hs2]
  ·have e:tS (.mk 2 [] [] [] dirs on sels)++t=pk [46,46,46]::wk [111,110]::wk on::(tDs dirs++(pk [123]::(tSl sels++[pk [125]])++t)):=by simp[tS,r5,ho]
   rw[e]
   unfold zaM
   rw[yw]
   simp only[decide_true,if_true,List.tail_cons]
   unfold Zm
   rw[if_neg (by rw[zfb];simp),zfb]
   simp only[decide_true,if_true,List.tail_cons,Zj,zE,hdd,hs2]
 ·simp only[k0,k1,k2,if_false,Al7] at hr
theorem ziP:∀(c k:Nat) (dp:Int) (l:List SelD) (t:TS),bSs l≤c→dp+k=17→l.length≠0→dp≤16→yE dp l=true→zbv l→yn k (tBl l++t)=.ok (l,t)
 | c,0,dp,l,t,_,hk,_,hd,_,_=>by omega
 | c,k+1,dp,l,t,hc,hk,hl,hd,hr,hw=>by
  have e:tBl l++t=pk [123]::(l.flatMap tS++pk [125]::t):=by simp[tBl,zlt]
  have hne:l≠[]:=fun h=>hl (by rw[h];rfl)
  rw[e,yn,yw]
  simp only[decide_true,if_true,List.tail_cons]
  refine zcD (F:=Fol) (fun t=>Fol.pk (by decide) (by decide) (by decide) (by decide) t) l hne (fun x _ t=>(zps x t).1) (fun x _ t=>(zps x t).2) (fun x hx t ht=>?_) t
  refine zpN k dp (by omega) x (zfE hr x hx) (zgF hw x hx) (fun l' t' h1 h2 h3 h4 h5=>?_) t ht
  have hb:bS x≤bSs l:=by
   obtain⟨a,b,h⟩:=List.append_of_mem hx
   rw[h,zeL];omega
  cases c with
  | zero=>omega
  | succ c=>exact ziP c k (dp+1) l' t' (by omega) (by omega) h1 h2 h3 h5
theorem ziw (l:List SelD) (t:TS) (h:yc 1 l=true) (hw:zbv l):yn 16 (tBl l++t)=.ok (l,t):=by
 simp only[yc,Al0,decide_eq_true_eq] at h
 exact ziP (bSs l) 16 1 l t (Al4 _) (by decide) h.1 h.2.1 h.2.2 hw
theorem zgs (ty:TyD) (h:yH ty=true) (t:TS) (ht:isP [33] t=false):zcj 4 (tTy ty++t)=.ok (ty,t):=by
 simp only[yH,Al0,decide_eq_true_eq] at h
 obtain⟨_,h1,h2,h3,h4⟩:=h
 have:=zlx ty.nm ty.lists.toNat 4 ty.musts t (by omega) h3 h4 ht
 rw[Int.toNat_of_nonneg h1] at this
 exact this
theorem zuY {v:Val} (h:eqd v zV=true):v=zV:=by
 by_cases e:v=zV
 ·exact e
 ·rw[zk e] at h;cases h
theorem zqO (x:VarD) (h:zfn x=true) (hw:wfW x) (t:TS) (h1:isP [33] t=false) (h2:isP [61] t=false):zaK (tW x++t)=.ok (x,t):=by
 obtain⟨nm,ty,has,d⟩:=x
 simp only[zfn,Al0] at h
 obtain⟨_,r1,r2⟩:=h
 cases has with
 | true =>
  simp only[zjt,if_true] at r2
  have e:tW ⟨nm,ty,true,d⟩++t=pk [36]::wk nm::pk [58]::(tTy ty++(pk [61]::(yG d++t))):=by simp[tW,tDf]
  rw[e]
  unfold zaK
  simp only[zcZ,zE,Zj,zgs ty r1 _ (show isP [33] (pk [61]::(yG d++t))=false by rw[yw];decide),yw,decide_true,if_true,List.tail_cons,zgX (dp:=0) (k:=16) (by decide) r2 hw.2.2 t]
 | false =>
  simp only[zjt,Al7,if_false] at r2
  have e:tW ⟨nm,ty,false,d⟩++t=pk [36]::wk nm::pk [58]::(tTy ty++t):=by simp[tW,tDf]
  rw[e,zuY r2]
  unfold zaK
  simp only[zcZ,zE,Zj,zgs ty r1 _ h1,h2,Al7,if_false]
theorem zik (l:List SelD) (t:TS):isP [40] (tBl l++t)=false∧isP [64] (tBl l++t)=false:=by
 simp only[tBl,Al6,yw];decide
theorem zoA (l:List VarD) (h:l.all zfn=true) (hw:∀ x∈l,wfW x) (t:TS) (ht:isP [40] t=false):(if isP [40] (tWs l++t) then zaU [41] zaK (tWs l++t).tail else .ok ([],tWs l++t))=(.ok (l,t):PR (List VarD)):=by
 unfold tWs
 by_cases hl:l.length=0
 ·rw[List.length_eq_zero_iff] at hl
  subst hl
  simp[ht]
 ·have hne:l≠[]:=fun e=>hl (by rw[e];rfl)
  have e:pk [40]::(l.flatMap tW++[pk [41]])++t=pk [40]::(l.flatMap tW++pk [41]::t):=by simp
  rw[if_neg hl,e,yw]
  simp only[decide_true,if_true,List.tail_cons]
  have hd:∀(x:VarD) (t:TS) (m:List UInt8),m≠[36]→isP m (tW x++t)=false:=fun x t m hm=>by simp only[tW,Al6,yw];exact decide_eq_false (Ne.symm hm)
  exact zcD (F:=fun t=>isP [33] t=false∧isP [61] t=false) (fun t=>by simp only[yw];decide) l hne (fun x _ t=>⟨hd x t _ (by decide),hd x t _ (by decide)⟩) (fun x _ t=>hd x t _ (by decide))
   (fun x hx t ht=>zqO x (List.all_eq_true.1 h x hx) (hw x hx) t ht.1 ht.2) t
theorem zrz (o:OpD) (h:Yv o=true) (hw:wfO o) (t:TS):opP o.k ((if o.nm=[] then [] else [wk o.nm])++(tWs o.vars++(tDs o.dirs++tBl o.sels))++t)=.ok (o,t):=by
 obtain⟨k,nm,vars,dirs,sels⟩:=o
 simp only[Yv,Al0] at h
 obtain⟨_,_,h1,h2,h3⟩:=h
 obtain⟨w1,w2,w3⟩:=hw
 have f:=zik sels t
 have hv:=zoA vars h1 w1 (tDs dirs++(tBl sels++t)) (zgN _ (by decide) _ _ f.1)
 have hd:=ze0 (k:=16) (by decide) dirs h2 w2 (tBl sels++t) f.1 f.2
 have hs:=ziw sels t h3 w3
 simp only[Z6]
 unfold opP
 have hk:(hdT (tWs vars++(tDs dirs++(tBl sels++t)))).k=1:=by
  unfold tWs
  split
  ·cases dirs<;>rfl
  ·rfl
 by_cases hn:nm=[]
 ·subst hn
  simp only[if_true,Zy,hk,show ¬ ((1:Int)=2) by decide,if_false,zE,hv,hd,hs]
 ·simp only[hn,if_false,Al6,Zy,show (hdT (wk nm::(tWs vars++(tDs dirs++(tBl sels++t))))).k=2 from rfl,if_true,Zj,zE,hv,hd,hs]
theorem zox (f:FragD) (h:zbX f=true) (hw:wfF f) (t:TS):zct (wk f.nm::wk [111,110]::wk f.on::(tDs f.dirs++tBl f.sels)++t)=.ok (f,t):=by
 obtain⟨nm,on,dirs,sels⟩:=f
 simp only[zbX,Al0,decide_eq_true_eq] at h
 obtain⟨h0,_,_,h2,h3⟩:=h
 have f:=zik sels t
 have hd:=ze0 (k:=16) (by decide) dirs h2 hw.1 (tBl sels++t) f.1 f.2
 have hs:=ziw sels t h3 hw.2
 simp only[Al6,Z6]
 unfold zct
 simp only[zfb,decide_eq_false h0,Al7,if_false,Zj,zE,decide_true,if_true,List.tail_cons,hd,hs]
theorem znP (d:DocD) (o:OpD) (h:Yv o=true) (hw:wfO o) (t:TS):YG d (tO o++t)=.ok (⟨d.ops++[o],d.frags⟩,t):=by
 have hp:=zrz o h hw t
 have hk:o.k=0∨o.k=1:=by
  simp only[Yv,Al0,Bool.or_eq_true,decide_eq_true_eq] at h;exact h.1
 unfold YG tO
 rcases hk with hk|hk<;>rw[hk] at hp<;>simp[hk,zbI,zfb]<;>simp only[Z6] at hp<;>rw[hp]<;>rfl
theorem zid (d:DocD) (f:FragD) (h:zbX f=true) (hw:wfF f) (t:TS):YG d (tF f++t)=.ok (⟨d.ops,d.frags++[f]⟩,t):=by
 have hp:=zox f h hw t
 unfold YG tF
 simp only[Al6,Z6] at hp
 simp[zbI,zfb,hp,pb]
theorem zh1:∀(l:List OpD),l.all Yv=true→(∀ x∈l,wfO x)→∀(n:Nat) (d:DocD) (t:TS),Y6 (n+l.length) d (l.flatMap tO++t)=Y6 n ⟨d.ops++l,d.frags⟩ t
 | [],_,_,n,d,t=>by simp
 | o::l,h,hw,n,d,t=>by
  simp only[List.all_cons,Al0] at h
  have e:n+(o::l).length=(n+l.length)+1:=by simp;omega
  rw[e,Y6,if_neg (by simp[tO])]
  simp only[List.flatMap_cons,Z6,znP d o h.1 (hw o (by simp)),zE]
  rw[zh1 l h.2 (fun x hx=>hw x (by simp[hx])) n]
  simp
theorem zfz:∀(l:List FragD),l.all zbX=true→(∀ x∈l,wfF x)→∀(n:Nat) (d:DocD) (t:TS),Y6 (n+l.length) d (l.flatMap tF++t)=Y6 n ⟨d.ops,d.frags++l⟩ t
 | [],_,_,n,d,t=>by simp
 | o::l,h,hw,n,d,t=>by
  simp only[List.all_cons,Al0] at h
  have e:n+(o::l).length=(n+l.length)+1:=by simp;omega
  rw[e,Y6,if_neg (by simp[tF])]
  simp only[List.flatMap_cons,Z6,zid d o h.1 (hw o (by simp)),zE]
  rw[zfz l h.2 (fun x hx=>hw x (by simp[hx])) n]
  simp
theorem zi2 (ops:List OpD) (frags:List FragD) (h1:ops.all Yv=true) (h2:frags.all zbX=true) (w1:∀ x∈ops,wfO x) (w2:∀ x∈frags,wfF x) (d:DocD) (n:Nat) (hn:ops.length+frags.length<n) :
  Y6 n d (ops.flatMap tO++frags.flatMap tF)=.ok (⟨d.ops++ops,d.frags++frags⟩,[]):=by
 obtain⟨k,rfl⟩:∃ k,n=k+1+frags.length+ops.length:=⟨n-1-frags.length-ops.length,by omega⟩
 rw[zh1 ops h1 w1]
 have:=zfz frags h2 w2 (k+1) ⟨d.ops++ops,d.frags⟩ []
 rw[List.append_nil] at this
 rw[this,Y6,if_pos rfl]
theorem zqA (d:DocD) (h:y7 d=true) (hw:zcl d):zhC (zay d)=.ok (d,[]):=by
 obtain⟨ops,frags⟩:=d
 simp only[y7,Al0,decide_eq_true_eq] at h
 obtain⟨h0,h1,h2⟩:=h
 obtain⟨w1,w2⟩:=hw
 have hlo:∀ l:List OpD,l.length≤(l.flatMap tO).length:=fun l=>YM l fun x _=>by simp[tO]
 have hlf:∀ l:List FragD,l.length≤(l.flatMap tF).length:=fun l=>YM l fun x _=>by simp[tF]
 unfold zhC zay
 cases ops with
 | cons o ops =>
  simp only[List.all_cons,Al0] at h1
  simp only[List.flatMap_cons,Z6,znP _ o h1.1 (w1 o (by simp)),zE]
  rw[zi2 ops frags h1.2 h2 (fun x hx=>w1 x (by simp[hx])) w2 _ _ (by have:=hlo ops;have:=hlf frags;simp only[Al5];omega)]
  simp
 | nil =>
  cases frags with
  | nil=>simp at h0
  | cons f frags =>
   simp only[List.all_cons,Al0] at h2
   simp only[List.flatMap_nil,Zy,List.flatMap_cons,zid _ f h2.1 (w2 f (by simp)),zE]
   have:=zi2 [] frags rfl h2.2 (fun x hx=>by cases hx) (fun x hx=>w2 x (by simp[hx])) ⟨[],[f]⟩ ((frags.flatMap tF).length+1) (by have:=hlf frags;simp only[Al3];omega)
   simp only[List.flatMap_nil,Zy,List.append_nil] at this
   rw[this]
   simp
theorem zjr (dp:Int) (fixed:Bool) (l:List DirD) (x:DirD):yZ dp fixed (l++[x])=(yZ dp fixed l&&zeD dp fixed x):=by simp[yZ]
theorem zpV (l:List DirD) (x:DirD):tDs (l++[x])=tDs l++tD x:=by simp[tDs]
theorem zo5 (l:List DirD) (x:DirD):bDs (l++[x])=bDs l+bD x:=by simp[bDs]
theorem yv (fixed:Bool) (m:List DirD) (hw:zjH m) (hm:8*bDs m≤Lim):WC 143 [.bool fixed,.sl .no 2 (cDs m)] (8*bDs m) 0 32 (fun dp=>yZ dp fixed m) (tDs m):=by
 intro H w o l ok dp h h0 h1 hb
 have hml:=zjR m
 have hcl:=zev m
 have hm':=hm
 simp only[Lim] at hm'
 refine zj.go ir143 ck143 (Al4 _) fun KP Q hQ=>?_
 have w0:=WR.refl h
 simp(disch:=first|omega|assumption) only[ir143,hcl,go_sem]
 refine zx m 10 (fun x:Own×List Tok=>[]) (fun done rest x H'=>WR H o w l ok dp (8*bDs done) (yZ dp fixed done) (tDs done) H' x.1 x.2) (o,l) (by simp(disch:=first|omega|assumption) only[go_sem]) (w0.cast (by omega) rfl rfl) ?_ ?_
 ·rintro⟨o3,l3⟩ H3 J w3 hlt
  simp only at w3
  simp(disch:=first|omega|assumption) only[hcl,hlt,go_sem]
  exact hQ _ _ H3 H3 [] nofun rfl (Low.refl _) ⟨rfl,w3.fin rfl (fun _=>rfl) (by omega)⟩
 ·rintro done x rest ⟨o3,l3⟩ H3 J hd hlt hlt2 w3 hJ
  simp only at w3
  have hg:=zgi hd
  have hbm:=zjx done x rest
  rw[← hd] at hbm
  have hmem:x∈m:=by rw[hd];simp
  have hwx:=hw x hmem
  obtain⟨s,args⟩:=x
  have hal:=Z9 args
  simp only[bD] at hbm
  have ex:cD ⟨s,args⟩=[.str s,.sl .no 6 (cMs args)]:=rfl
  rw[ex] at hg
  simp(disch:=first|omega|assumption) only[hcl,hlt,hg,go_sem]
  refine zl fun b hb=>?_
  have hbw:b≠w:=fun e=>by subst e;rw[w3.here.cell] at hb;cases hb
  have w4:=w3.alloc (x:=.cells [.str s,.sl .no 6 (cMs args)]) hb
  have hbc:(H3.upd b (.cells [.str s,.sl .no 6 (cMs args)])) b=some (.cells [.str s,.sl .no 6 (cMs args)]):=upd_same ..
  simp(disch:=first|omega|assumption) only[go_sem]
  refine zi (yp [64] _) w4 (by omega) (by omega) (by omega) fun o5 l5 H5 w5 s5=>?_
  have hb5:=s5.box w4.here.own hbc hbw
  simp(disch:=first|omega|assumption) only[hb5,go_sem]
  refine zi (yh s (by simp only[Lim];omega)) w5 (by omega) (by omega) (by omega) fun o6 l6 H6 w6 s6=>?_
  have hb6:=s6.box w5.here.own hb5 hbw
  simp(disch:=first|omega|assumption) only[hb6,go_sem]
  refine zi (zdZ fixed args hwx (by simp only[Lim];omega)) w6 (by omega) (by omega) (by omega) fun o7 l7 H7 w7 s7=>?_
  simp(disch:=first|omega|assumption) only[wrap64,go_sem]
  exact goJ (hJ (o7,l7) H7 (w7.cast (by rw[zo5];simp only[bD];omega) (by rw[zjr];simp[zeD,y9]) (by rw[zpV];simp[tD]))) (by simp(disch:=first|omega|assumption) only[go_sem])
def zqE (c:Nat):Prop:=∀ l:List SelD,bSs l≤c→zbv l→16*bSs l+2≤Lim→WC 87 [.sl .no 7 (cSs l)] (16*bSs l) 0 17 (fun dp=>yc dp l) (tSl l)
theorem yt {c:Nat} (hL:zqE c) (l:List SelD) (hc:bSs l≤c) (hw:zbv l) (hm:16*bSs l+2≤Lim):WC 144 [.sl .no 7 (cSs l)] (16*bSs l+2) 0 16 (fun dp=>yc (dp+1) l) (tBl l):=by
 intro H w o k ok dp h h0 h1 hb
 refine zj.go ir144 ck144 (Al4 _) fun KP Q hQ=>?_
 simp(disch:=first|omega|assumption) only[ir144,go_sem]
 refine zaH (yp [123] _) h (by omega) (by omega) (by omega) fun o2 l2 H2 h2 h3 h4 h5=>?_
 have c2:=h2.cell
 have w1:IntKind.wrap .i64 (dp+1)=dp+1:=wrap64 (by omega) (by omega)
 have w2:IntKind.wrap .i64 (dp+1-1)=dp:=by rw[wrap64 (by omega) (by omega)];omega
 simp(disch:=first|omega|assumption) only[c2,w1,go_sem]
 have g2:=h2.put (ok':=ok&&true) (dp':=dp+1)
 refine zaH (hL l hc hw hm) g2 (by omega) (by omega) (by omega) fun o3 l3 H3 h6 h7 h8 h9=>?_
 have c3:=h6.cell
 simp(disch:=first|omega|assumption) only[c3,w2,go_sem]
 have g3:=h6.put (ok':=(ok&&true)&&yc (dp+1) l) (dp':=dp)
 refine zaH (yp [125] _) g3 (by omega) (by omega) (by omega) fun o4 l4 H4 h10 h11 h12 h13=>?_
 simp(disch:=first|omega|assumption) only[go_sem]
 refine hQ _ _ H4 H4 [] nofun rfl (Low.refl _) ⟨rfl,o4,l4,by simpa using h10,?_,by omega,fun e=>?_⟩
 ·exact((h3.upd.trans (upd_same ..) h7).upd).trans (upd_same ..) h11
 ·simp only[Bool.and_true] at h5 h9 h13
  rw[h13 e,h9 e,h5 (by simp only[Al0] at e;exact e.1)]
  simp[tBl]
theorem zpW (k:Int) (al nm:List UInt8) (args:List Mem) (dirs:List DirD) (on:List UInt8) (sels:List SelD) (hk:k=1) (hw:wfS (.mk k al nm args dirs on sels)) (hm:16*bS (.mk k al nm args dirs on sels)≤Lim) :
  WC 155 [.agg (cS (.mk k al nm args dirs on sels))] (16*bS (.mk k al nm args dirs on sels)) 0 16 (fun dp=>ye dp (.mk k al nm args dirs on sels)) (tS (.mk k al nm args dirs on sels)):=by
 intro H w o l ok dp h h0 h1 hb
 have hm':=hm
 simp only[Lim,bS] at hm'
 simp only[bS] at hb
 have hcm:=ZC args
 have hcs:=zb7 sels
 obtain⟨_,hwd,_⟩:=hw
 subst hk
 refine zj.go ir155 ck155 (Al4 _) fun KP Q hQ=>?_
 have w0:=WR.refl h
 obtain⟨b,hbd⟩:∃ b,b=(decide (nm≠[111,110])&&(decide (al=[])&&(decide (on=[])&&(decide (args.length=0)&&decide (sels.length=0))))):=⟨_,rfl⟩
 have er:ye dp (.mk 1 al nm args dirs on sels)=(b&&ym nm&&yZ dp false dirs):=by
  rw[hbd];simp only[ye,show ¬ ((1:Int)=0) by decide,if_false,if_true]
  cases ym nm<;>cases yZ dp false dirs<;>simp
 have et:b=true→tS (.mk 1 al nm args dirs on sels)=pk [46,46,46]::wk nm::tDs dirs:=fun e=>by
  rw[hbd] at e
  simp only[Al0,decide_eq_true_eq] at e
  simp[tS,e.2.2.2.2]
 by_cases h1:al=[]
 case neg =>
  have hbv:b=false:=by rw[hbd];simp[h1]
  simp(disch:=first|omega|assumption) only[ir155,Y4,h1,go_sem]
  refine zi (Zl _) w0 (by omega) (by omega) (by omega) fun o2 l2 H2 w2 _=>?_
  simp(disch:=first|omega|assumption) only[go_sem]
  refine zi (yp [46,46,46] _) w2 (by omega) (by omega) (by omega) fun o3 l3 H3 w3 _=>?_
  simp(disch:=first|omega|assumption) only[go_sem]
  refine zi (yh nm (by simp only[Lim];omega)) w3 (by omega) (by omega) (by omega) fun o4 l4 H4 w4 _=>?_
  simp(disch:=first|omega|assumption) only[go_sem]
  refine zi (yv false dirs hwd (by simp only[Lim];omega)) w4 (by omega) (by omega) (by omega) fun o5 l5 H5 w5 _=>?_
  simp(disch:=first|omega|assumption) only[go_sem]
  exact hQ _ _ H5 H5 [] nofun rfl (Low.refl _) ⟨rfl,w5.fin (by show _=ye dp _;rw[er,hbv];simp) (fun e=>by have e:ye dp (.mk 1 al nm args dirs on sels)=true:=e;rw[et (by rw[er] at e;simp only[Al0] at e;exact e.1.1)];simp) (by simp only[bS];omega)⟩
 by_cases h2:args.length=0
 case neg =>
  have hbv:b=false:=by rw[hbd];simp[h2]
  have h2':¬ ((args.length:Int)=0):=by omega
  simp(disch:=first|omega|assumption) only[ir155,Y4,h1,hcm,h2',go_sem]
  refine zi (Zl _) w0 (by omega) (by omega) (by omega) fun o2 l2 H2 w2 _=>?_
  simp(disch:=first|omega|assumption) only[go_sem]
  refine zi (yp [46,46,46] _) w2 (by omega) (by omega) (by omega) fun o3 l3 H3 w3 _=>?_
  simp(disch:=first|omega|assumption) only[go_sem]
  refine zi (yh nm (by simp only[Lim];omega)) w3 (by omega) (by omega) (by omega) fun o4 l4 H4 w4 _=>?_
  simp(disch:=first|omega|assumption) only[go_sem]
  refine zi (yv false dirs hwd (by simp only[Lim];omega)) w4 (by omega) (by omega) (by omega) fun o5 l5 H5 w5 _=>?_
  simp(disch:=first|omega|assumption) only[go_sem]
  exact hQ _ _ H5 H5 [] nofun rfl (Low.refl _) ⟨rfl,w5.fin (by show _=ye dp _;rw[er,hbv];simp) (fun e=>by have e:ye dp (.mk 1 al nm args dirs on sels)=true:=e;rw[et (by rw[er] at e;simp only[Al0] at e;exact e.1.1)];simp) (by simp only[bS];omega)⟩
 have h2':((args.length:Int)=0)=True:=eq_true (by omega)
 by_cases h3:on=[]
 case neg =>
  have hbv:b=false:=by rw[hbd];simp[h3]
  simp(disch:=first|omega|assumption) only[ir155,Y4,h1,hcm,h2',h3,go_sem]
  refine zi (Zl _) w0 (by omega) (by omega) (by omega) fun o2 l2 H2 w2 _=>?_
  simp(disch:=first|omega|assumption) only[go_sem]
  refine zi (yp [46,46,46] _) w2 (by omega) (by omega) (by omega) fun o3 l3 H3 w3 _=>?_
  simp(disch:=first|omega|assumption) only[go_sem]
  refine zi (yh nm (by simp only[Lim];omega)) w3 (by omega) (by omega) (by omega) fun o4 l4 H4 w4 _=>?_
  simp(disch:=first|omega|assumption) only[go_sem]
  refine zi (yv false dirs hwd (by simp only[Lim];omega)) w4 (by omega) (by omega) (by omega) fun o5 l5 H5 w5 _=>?_
  simp(disch:=first|omega|assumption) only[go_sem]
  exact hQ _ _ H5 H5 [] nofun rfl (Low.refl _) ⟨rfl,w5.fin (by show _=ye dp _;rw[er,hbv];simp) (fun e=>by have e:ye dp (.mk 1 al nm args dirs on sels)=true:=e;rw[et (by rw[er] at e;simp only[Al0] at e;exact e.1.1)];simp) (by simp only[bS];omega)⟩
 by_cases h4:sels.length=0
 case neg =>
  have hbv:b=false:=by rw[hbd];simp[h4]
  have h4':¬ ((sels.length:Int)=0):=by omega
  simp(disch:=first|omega|assumption) only[ir155,Y4,h1,hcm,h2',h3,hcs,h4',go_sem]
  refine zi (Zl _) w0 (by omega) (by omega) (by omega) fun o2 l2 H2 w2 _=>?_
  simp(disch:=first|omega|assumption) only[go_sem]
  refine zi (yp [46,46,46] _) w2 (by omega) (by omega) (by omega) fun o3 l3 H3 w3 _=>?_
  simp(disch:=first|omega|assumption) only[go_sem]
  refine zi (yh nm (by simp only[Lim];omega)) w3 (by omega) (by omega) (by omega) fun o4 l4 H4 w4 _=>?_
  simp(disch:=first|omega|assumption) only[go_sem]
  refine zi (yv false dirs hwd (by simp only[Lim];omega)) w4 (by omega) (by omega) (by omega) fun o5 l5 H5 w5 _=>?_
  simp(disch:=first|omega|assumption) only[go_sem]
  exact hQ _ _ H5 H5 [] nofun rfl (Low.refl _) ⟨rfl,w5.fin (by show _=ye dp _;rw[er,hbv];simp) (fun e=>by have e:ye dp (.mk 1 al nm args dirs on sels)=true:=e;rw[et (by rw[er] at e;simp only[Al0] at e;exact e.1.1)];simp) (by simp only[bS];omega)⟩
 have h4':((sels.length:Int)=0)=True:=eq_true (by omega)
 by_cases h5:nm=[111,110]
 case pos =>
  have hbv:b=false:=by rw[hbd];simp[h5]
  simp(disch:=first|omega|assumption) only[ir155,Y4,h1,hcm,h2',h3,hcs,h4',h5,go_sem]
  subst h5
  refine zi (Zl _) w0 (by omega) (by omega) (by omega) fun o2 l2 H2 w2 _=>?_
  simp(disch:=first|omega|assumption) only[go_sem]
  refine zi (yp [46,46,46] _) w2 (by omega) (by omega) (by omega) fun o3 l3 H3 w3 _=>?_
  simp(disch:=first|omega|assumption) only[go_sem]
  refine zi (yh [111,110] (by simp only[Lim];omega)) w3 (by omega) (by omega) (by omega) fun o4 l4 H4 w4 _=>?_
  simp(disch:=first|omega|assumption) only[go_sem]
  refine zi (yv false dirs hwd (by simp only[Lim];omega)) w4 (by omega) (by omega) (by omega) fun o5 l5 H5 w5 _=>?_
  simp(disch:=first|omega|assumption) only[go_sem]
  exact hQ _ _ H5 H5 [] nofun rfl (Low.refl _) ⟨rfl,w5.fin (by show _=ye dp _;rw[er,hbv];simp) (fun e=>by have e:ye dp (.mk 1 al [111,110] args dirs on sels)=true:=e;rw[et (by rw[er] at e;simp only[Al0] at e;exact e.1.1)];simp) (by simp only[bS];omega)⟩
 have hbv:b=true:=by rw[hbd];simp[h1,h2,h3,h4,h5]
 simp(disch:=first|omega|assumption) only[ir155,Y4,h1,hcm,h2',h3,hcs,h4',h5,go_sem]
 refine zi (Zl _) w0 (by omega) (by omega) (by omega) fun o2 l2 H2 w2 _=>?_
 simp(disch:=first|omega|assumption) only[go_sem]
 refine zi (yp [46,46,46] _) w2 (by omega) (by omega) (by omega) fun o3 l3 H3 w3 _=>?_
 simp(disch:=first|omega|assumption) only[go_sem]
 refine zi (yh nm (by simp only[Lim];omega)) w3 (by omega) (by omega) (by omega) fun o4 l4 H4 w4 _=>?_
 simp(disch:=first|omega|assumption) only[go_sem]
 refine zi (yv false dirs hwd (by simp only[Lim];omega)) w4 (by omega) (by omega) (by omega) fun o5 l5 H5 w5 _=>?_
 simp(disch:=first|omega|assumption) only[go_sem]
 exact hQ _ _ H5 H5 [] nofun rfl (Low.refl _) ⟨rfl,w5.fin (by show _=ye dp _;rw[er,hbv];simp) (fun e=>by have e:ye dp (.mk 1 al nm args dirs on sels)=true:=e;rw[et (by rw[er] at e;simp only[Al0] at e;exact e.1.1)];simp) (by simp only[bS];omega)⟩
theorem zkc:ym [111,110]=true:=by decide
theorem zpv {c:Nat} (hL:zqE c) (k:Int) (al nm:List UInt8) (args:List Mem) (dirs:List DirD) (on:List UInt8) (sels:List SelD) (hk:k=2) (hc:bSs sels≤c) (hw:wfS (.mk k al nm args dirs on sels)) (hm:16*bS (.mk k al nm args dirs on sels)≤Lim) :
  WC 156 [.agg (cS (.mk k al nm args dirs on sels))] (16*bS (.mk k al nm args dirs on sels)) 0 16 (fun dp=>ye dp (.mk k al nm args dirs on sels)) (tS (.mk k al nm args dirs on sels)):=by
 intro H w o l ok dp h h0 h1 hb
 have hm':=hm
 simp only[Lim,bS] at hm'
 simp only[bS] at hb
 have hcm:=ZC args
 obtain⟨_,hwd,hws⟩:=hw
 subst hk
 refine zj.go ir156 ck156 (Al4 _) fun KP Q hQ=>?_
 have w0:=WR.refl h
 obtain⟨b,hbd⟩:∃ b,b=(decide (nm=[])&&(decide (al=[])&&decide (args.length=0))):=⟨_,rfl⟩
 have er:ye dp (.mk 2 al nm args dirs on sels)=(b&&(decide (on=[])||ym on)&&yZ dp false dirs&&yc (dp+1) sels):=by
  rw[hbd];simp only[ye,yc,show ¬ ((2:Int)=0) by decide,show ¬ ((2:Int)=1) by decide,if_false,if_true]
  cases yZ dp false dirs<;>simp[y9]
 have et:b=true∧yc (dp+1) sels=true→tS (.mk 2 al nm args dirs on sels)=pk [46,46,46]::((if on=[] then [] else [wk [111,110],wk on])++(tDs dirs++tBl sels)):=fun⟨e,e2⟩=>by
  simp only[yc,Al0,decide_eq_true_eq] at e2
  simp[tS,e2.1,tBl]
 by_cases h1:al=[]
 case neg =>
  have hbv:b=false:=by rw[hbd];simp[h1]
  simp(disch:=first|omega|assumption) only[ir156,Y4,h1,go_sem]
  refine zi (Zl _) w0 (by omega) (by omega) (by omega) fun o2 l2 H2 w2 _=>?_
  simp(disch:=first|omega|assumption) only[go_sem]
  refine zi (yp [46,46,46] _) w2 (by omega) (by omega) (by omega) fun o3 l3 H3 w3 _=>?_
  by_cases ho:on=[]
  case pos =>
   simp(disch:=first|omega|assumption) only[ho,go_sem]
   refine zi (yv false dirs hwd (by simp only[Lim];omega)) w3 (by omega) (by omega) (by omega) fun o5 l5 H5 w5 _=>?_
   simp(disch:=first|omega|assumption) only[go_sem]
   refine zi (yt hL sels hc hws (by simp only[Lim];omega)) w5 (by omega) (by omega) (by omega) fun o6 l6 H6 w6 _=>?_
   simp(disch:=first|omega|assumption) only[go_sem]
   exact hQ _ _ H6 H6 [] nofun rfl (Low.refl _) ⟨rfl,w6.fin (by show _=ye dp _;rw[er,hbv,ho];simp[y9]) (fun e=>by have e:ye dp (.mk 2 al nm args dirs on sels)=true:=e;rw[et (by rw[er] at e;simp only[Al0] at e;exact⟨e.1.1.1,e.2⟩),if_pos ho];simp) (by simp only[bS];omega)⟩
  case neg =>
   simp(disch:=first|omega|assumption) only[ho,go_sem]
   refine zi (yh [111,110] (by simp[Lim])) w3 (by omega) (by omega) (by omega) fun o4 l4 H4 w4 _=>?_
   simp(disch:=first|omega|assumption) only[go_sem]
   refine zi (yh on (by simp only[Lim];omega)) w4 (by omega) (by omega) (by omega) fun o5 l5 H5 w5 _=>?_
   simp(disch:=first|omega|assumption) only[go_sem]
   refine zi (yv false dirs hwd (by simp only[Lim];omega)) w5 (by omega) (by omega) (by omega) fun o6 l6 H6 w6 _=>?_
   simp(disch:=first|omega|assumption) only[go_sem]
   refine zi (yt hL sels hc hws (by simp only[Lim];omega)) w6 (by omega) (by omega) (by omega) fun o7 l7 H7 w7 _=>?_
   simp(disch:=first|omega|assumption) only[go_sem]
   exact hQ _ _ H7 H7 [] nofun rfl (Low.refl _) ⟨rfl,w7.fin (by show _=ye dp _;rw[er,hbv,zkc];simp[ho,y9]) (fun e=>by have e:ye dp (.mk 2 al nm args dirs on sels)=true:=e;rw[et (by rw[er] at e;simp only[Al0] at e;exact⟨e.1.1.1,e.2⟩),if_neg ho];simp) (by simp only[bS];omega)⟩
 by_cases h2:nm=[]
 case neg =>
  have hbv:b=false:=by rw[hbd];simp[h2]
  simp(disch:=first|omega|assumption) only[ir156,Y4,h1,h2,go_sem]
  refine zi (Zl _) w0 (by omega) (by omega) (by omega) fun o2 l2 H2 w2 _=>?_
  simp(disch:=first|omega|assumption) only[go_sem]
  refine zi (yp [46,46,46] _) w2 (by omega) (by omega) (by omega) fun o3 l3 H3 w3 _=>?_
  by_cases ho:on=[]
  case pos =>
   simp(disch:=first|omega|assumption) only[ho,go_sem]
   refine zi (yv false dirs hwd (by simp only[Lim];omega)) w3 (by omega) (by omega) (by omega) fun o5 l5 H5 w5 _=>?_
   simp(disch:=first|omega|assumption) only[go_sem]
   refine zi (yt hL sels hc hws (by simp only[Lim];omega)) w5 (by omega) (by omega) (by omega) fun o6 l6 H6 w6 _=>?_
   simp(disch:=first|omega|assumption) only[go_sem]
   exact hQ _ _ H6 H6 [] nofun rfl (Low.refl _) ⟨rfl,w6.fin (by show _=ye dp _;rw[er,hbv,ho];simp[y9]) (fun e=>by have e:ye dp (.mk 2 al nm args dirs on sels)=true:=e;rw[et (by rw[er] at e;simp only[Al0] at e;exact⟨e.1.1.1,e.2⟩),if_pos ho];simp) (by simp only[bS];omega)⟩
  case neg =>
   simp(disch:=first|omega|assumption) only[ho,go_sem]
   refine zi (yh [111,110] (by simp[Lim])) w3 (by omega) (by omega) (by omega) fun o4 l4 H4 w4 _=>?_
   simp(disch:=first|omega|assumption) only[go_sem]
   refine zi (yh on (by simp only[Lim];omega)) w4 (by omega) (by omega) (by omega) fun o5 l5 H5 w5 _=>?_
   simp(disch:=first|omega|assumption) only[go_sem]
   refine zi (yv false dirs hwd (by simp only[Lim];omega)) w5 (by omega) (by omega) (by omega) fun o6 l6 H6 w6 _=>?_
   simp(disch:=first|omega|assumption) only[go_sem]
   refine zi (yt hL sels hc hws (by simp only[Lim];omega)) w6 (by omega) (by omega) (by omega) fun o7 l7 H7 w7 _=>?_
   simp(disch:=first|omega|assumption) only[go_sem]
   exact hQ _ _ H7 H7 [] nofun rfl (Low.refl _) ⟨rfl,w7.fin (by show _=ye dp _;rw[er,hbv,zkc];simp[ho,y9]) (fun e=>by have e:ye dp (.mk 2 al nm args dirs on sels)=true:=e;rw[et (by rw[er] at e;simp only[Al0] at e;exact⟨e.1.1.1,e.2⟩),if_neg ho];simp) (by simp only[bS];omega)⟩
 by_cases h3:args.length=0
 case neg =>
  have hbv:b=false:=by rw[hbd];simp[h3]
  have h3':¬ ((args.length:Int)=0):=by omega
  simp(disch:=first|omega|assumption) only[ir156,Y4,h1,h2,hcm,h3',go_sem]
  refine zi (Zl _) w0 (by omega) (by omega) (by omega) fun o2 l2 H2 w2 _=>?_
  simp(disch:=first|omega|assumption) only[go_sem]
  refine zi (yp [46,46,46] _) w2 (by omega) (by omega) (by omega) fun o3 l3 H3 w3 _=>?_
  by_cases ho:on=[]
  case pos =>
   simp(disch:=first|omega|assumption) only[ho,go_sem]
   refine zi (yv false dirs hwd (by simp only[Lim];omega)) w3 (by omega) (by omega) (by omega) fun o5 l5 H5 w5 _=>?_
   simp(disch:=first|omega|assumption) only[go_sem]
   refine zi (yt hL sels hc hws (by simp only[Lim];omega)) w5 (by omega) (by omega) (by omega) fun o6 l6 H6 w6 _=>?_
   simp(disch:=first|omega|assumption) only[go_sem]
   exact hQ _ _ H6 H6 [] nofun rfl (Low.refl _) ⟨rfl,w6.fin (by show _=ye dp _;rw[er,hbv,ho];simp[y9]) (fun e=>by have e:ye dp (.mk 2 al nm args dirs on sels)=true:=e;rw[et (by rw[er] at e;simp only[Al0] at e;exact⟨e.1.1.1,e.2⟩),if_pos ho];simp) (by simp only[bS];omega)⟩
  case neg =>
   simp(disch:=first|omega|assumption) only[ho,go_sem]
   refine zi (yh [111,110] (by simp[Lim])) w3 (by omega) (by omega) (by omega) fun o4 l4 H4 w4 _=>?_
   simp(disch:=first|omega|assumption) only[go_sem]
   refine zi (yh on (by simp only[Lim];omega)) w4 (by omega) (by omega) (by omega) fun o5 l5 H5 w5 _=>?_
   simp(disch:=first|omega|assumption) only[go_sem]
   refine zi (yv false dirs hwd (by simp only[Lim];omega)) w5 (by omega) (by omega) (by omega) fun o6 l6 H6 w6 _=>?_
   simp(disch:=first|omega|assumption) only[go_sem]
   refine zi (yt hL sels hc hws (by simp only[Lim];omega)) w6 (by omega) (by omega) (by omega) fun o7 l7 H7 w7 _=>?_
   simp(disch:=first|omega|assumption) only[go_sem]
   exact hQ _ _ H7 H7 [] nofun rfl (Low.refl _) ⟨rfl,w7.fin (by show _=ye dp _;rw[er,hbv,zkc];simp[ho,y9]) (fun e=>by have e:ye dp (.mk 2 al nm args dirs on sels)=true:=e;rw[et (by rw[er] at e;simp only[Al0] at e;exact⟨e.1.1.1,e.2⟩),if_neg ho];simp) (by simp only[bS];omega)⟩
 have h3':((args.length:Int)=0)=True:=eq_true (by omega)
 have hbv:b=true:=by rw[hbd];simp[h1,h2,h3]
 simp(disch:=first|omega|assumption) only[ir156,Y4,h1,h2,hcm,h3',go_sem]
 refine zi (Zl _) w0 (by omega) (by omega) (by omega) fun o2 l2 H2 w2 _=>?_
 simp(disch:=first|omega|assumption) only[go_sem]
 refine zi (yp [46,46,46] _) w2 (by omega) (by omega) (by omega) fun o3 l3 H3 w3 _=>?_
 by_cases ho:on=[]
 case pos =>
  simp(disch:=first|omega|assumption) only[ho,go_sem]
  refine zi (yv false dirs hwd (by simp only[Lim];omega)) w3 (by omega) (by omega) (by omega) fun o5 l5 H5 w5 _=>?_
  simp(disch:=first|omega|assumption) only[go_sem]
  refine zi (yt hL sels hc hws (by simp only[Lim];omega)) w5 (by omega) (by omega) (by omega) fun o6 l6 H6 w6 _=>?_
  simp(disch:=first|omega|assumption) only[go_sem]
  exact hQ _ _ H6 H6 [] nofun rfl (Low.refl _) ⟨rfl,w6.fin (by show _=ye dp _;rw[er,hbv,ho];simp[y9]) (fun e=>by have e:ye dp (.mk 2 al nm args dirs on sels)=true:=e;rw[et (by rw[er] at e;simp only[Al0] at e;exact⟨e.1.1.1,e.2⟩),if_pos ho];simp) (by simp only[bS];omega)⟩
 case neg =>
  simp(disch:=first|omega|assumption) only[ho,go_sem]
  refine zi (yh [111,110] (by simp[Lim])) w3 (by omega) (by omega) (by omega) fun o4 l4 H4 w4 _=>?_
  simp(disch:=first|omega|assumption) only[go_sem]
  refine zi (yh on (by simp only[Lim];omega)) w4 (by omega) (by omega) (by omega) fun o5 l5 H5 w5 _=>?_
  simp(disch:=first|omega|assumption) only[go_sem]
  refine zi (yv false dirs hwd (by simp only[Lim];omega)) w5 (by omega) (by omega) (by omega) fun o6 l6 H6 w6 _=>?_
  simp(disch:=first|omega|assumption) only[go_sem]
  refine zi (yt hL sels hc hws (by simp only[Lim];omega)) w6 (by omega) (by omega) (by omega) fun o7 l7 H7 w7 _=>?_
  simp(disch:=first|omega|assumption) only[go_sem]
  exact hQ _ _ H7 H7 [] nofun rfl (Low.refl _) ⟨rfl,w7.fin (by show _=ye dp _;rw[er,hbv,zkc];simp[ho,y9]) (fun e=>by have e:ye dp (.mk 2 al nm args dirs on sels)=true:=e;rw[et (by rw[er] at e;simp only[Al0] at e;exact⟨e.1.1.1,e.2⟩),if_neg ho];simp) (by simp only[bS];omega)⟩
theorem zJ (dp:Int) (l:List SelD) (x:SelD):yE dp (l++[x])=(yE dp l&&ye dp x):=by rw[zcA];simp[yE]
theorem Zv (l:List SelD) (x:SelD):tSl (l++[x])=tSl l++tS x:=by rw[znF];simp[tSl]
theorem Zu (l:List SelD) (x:SelD):bSs (l++[x])=bSs l+bS x:=by rw[zeL];simp[bSs]
theorem zkr {dp:Int} {l a b:List SelD} {x:SelD} (h:l=a++x::b) (hr:yE dp a=false):yE dp l=false:=by
 rw[h,zcA,hr];rfl
theorem WR.castC {H0 H:za} {o0 o:Own} {w B B':Nat} {l0 l tk tk':List Tok} {ok0 r r':Bool} {dp:Int} (h:WR H0 o0 w l0 ok0 dp B r tk H o l) (hB:B≤B') (hr:r=r') (ht:r'=true→tk=tk'):WR H0 o0 w l0 ok0 dp B' r' tk' H o l:=by
 subst hr
 refine⟨h.here,h.st,by have:=h.len;omega,fun e=>?_⟩
 rw[h.eq e,ht (by simp only[Al0] at e;exact e.2)]
set_option maxHeartbeats 4000000 in
theorem YR:∀ c,zqE c:=by
 intro c
 induction c using Nat.strongRecOn with
 | _ c ih =>
 intro L hc hwL hm H w o l ok dp h h0 h1 hb
 have hm':=hm
 simp only[Lim] at hm'
 have hcs:=zb7 L
 have hLl:=zgd L
 refine zj.go ir87 ck87 (Al4 _) fun KP Q hQ=>?_
 have w0:=WR.refl h
 have hcell:=h.cell
 by_cases hl0:L.length=0
 ·have hl':¬ ((0:Int)<(L.length:Int)):=by omega
  have hneed:false=yc dp L:=by simp[yc,hl0]
  simp(disch:=first|omega|assumption) only[ir87,hcs,hl',go_sem]
  refine zi (Zl _) w0 (by omega) (by omega) (by omega) fun o2 l2 H2 w2 _=>?_
  have hf:(ok&&yc dp L)=false:=by rw[← hneed];simp
  simp(disch:=first|omega|assumption) only[hcs,go_sem]
  refine zx L 20 (fun x:Unit=>[]) (fun done rest x H'=>H'=H2) () (by simp(disch:=first|omega|assumption) only[go_sem]) rfl ?_ ?_
  case refine_1 =>
   rintro _ H3 J rfl hlt
   simp(disch:=first|omega|assumption) only[hcs,hlt,go_sem]
   exact hQ _ _ H3 H3 [] nofun rfl (Low.refl _) ⟨rfl,w2.fin (by show _=yc dp L;rw[← hneed];simp) (fun e=>by have e:yc dp L=true:=e;rw[← hneed] at e;cases e) (by omega)⟩
  case refine_2 =>
   rintro done x rest _ H3 J hd hlt hlt2 rfl hJ
   have hg:=zdu hd
   obtain⟨k,al,nm,args,dirs,on,sels⟩:=x
   rw[Y4] at hg
   simp(disch:=first|omega|assumption) only[hcs,hlt,hg,go_sem]
   refine zl fun b hb=>?_
   have w5:=w2.alloc (x:=.cells [.int .i64 k,.str al,.str nm,.sl .no 6 (cMs args),.sl .no 2 (cDs dirs),.str on,.sl .no 7 (cSs sels)]) hb
   have hc5:=w5.here.cell
   simp only[Bool.true_and,Bool.and_false] at hc5
   simp(disch:=first|omega|assumption) only[hc5,go_sem]
   exact hQ _ _ _ _ [] nofun rfl (Low.refl _) ⟨rfl,w5.fin (by show _=yc dp L;rw[← hneed];simp) (fun e=>by have e:yc dp L=true:=e;rw[← hneed] at e;cases e) (by omega)⟩
 have hl':((0:Int)<(L.length:Int))=True:=eq_true (by omega)
 by_cases hdp:dp≤16
 case neg =>
  have hneed:false=yc dp L:=by simp[yc,hdp]
  simp(disch:=first|omega|assumption) only[ir87,hcs,hl',hcell,hdp,go_sem]
  refine zi (Zl _) w0 (by omega) (by omega) (by omega) fun o2 l2 H2 w2 _=>?_
  have hf:(ok&&yc dp L)=false:=by rw[← hneed];simp
  simp(disch:=first|omega|assumption) only[hcs,go_sem]
  refine zx L 20 (fun x:Unit=>[]) (fun done rest x H'=>H'=H2) () (by simp(disch:=first|omega|assumption) only[go_sem]) rfl ?_ ?_
  case refine_1 =>
   rintro _ H3 J rfl hlt
   simp(disch:=first|omega|assumption) only[hcs,hlt,go_sem]
   exact hQ _ _ H3 H3 [] nofun rfl (Low.refl _) ⟨rfl,w2.fin (by show _=yc dp L;rw[← hneed];simp) (fun e=>by have e:yc dp L=true:=e;rw[← hneed] at e;cases e) (by omega)⟩
  case refine_2 =>
   rintro done x rest _ H3 J hd hlt hlt2 rfl hJ
   have hg:=zdu hd
   obtain⟨k,al,nm,args,dirs,on,sels⟩:=x
   rw[Y4] at hg
   simp(disch:=first|omega|assumption) only[hcs,hlt,hg,go_sem]
   refine zl fun b hb=>?_
   have w5:=w2.alloc (x:=.cells [.int .i64 k,.str al,.str nm,.sl .no 6 (cMs args),.sl .no 2 (cDs dirs),.str on,.sl .no 7 (cSs sels)]) hb
   have hc5:=w5.here.cell
   simp only[Bool.true_and,Bool.and_false] at hc5
   simp(disch:=first|omega|assumption) only[hc5,go_sem]
   exact hQ _ _ _ _ [] nofun rfl (Low.refl _) ⟨rfl,w5.fin (by show _=yc dp L;rw[← hneed];simp) (fun e=>by have e:yc dp L=true:=e;rw[← hneed] at e;cases e) (by omega)⟩
 have er0:yc dp L=yE dp L:=by simp[yc,hdp,hl0]
 simp(disch:=first|omega|assumption) only[ir87,hcs,hl',hcell,hdp,go_sem]
 refine zi (Zl _) w0 (by omega) (by omega) (by omega) fun o2 l2 H2 w2 _=>?_
 simp(disch:=first|omega|assumption) only[hcs,go_sem]
 refine zx L 20 (fun x:Own×List Tok=>[]) (fun done rest x H'=>WR H o w l ok dp (16*bSs done) (yE dp done) (tSl done) H' x.1 x.2) (o2,l2) (by simp(disch:=first|omega|assumption) only[go_sem]) (w2.cast (by simp[bSs]) (by simp[yE]) (by simp[tSl])) ?_ ?_
 ·rintro⟨o3,l3⟩ H3 J w3 hlt
  simp only at w3
  simp(disch:=first|omega|assumption) only[hcs,hlt,go_sem]
  exact hQ _ _ H3 H3 [] nofun rfl (Low.refl _) ⟨rfl,w3.fin er0.symm (fun _=>rfl) (by omega)⟩
 ·rintro done x rest ⟨o3,l3⟩ H3 J hd hlt hlt2 w3 hJ
  simp only at w3
  have hg:=zdu hd
  have hbm:=zeL done x rest
  rw[← hd] at hbm
  have hmem:x∈L:=by rw[hd];simp
  have hwx:=zgF hwL x hmem
  obtain⟨k,al,nm,args,dirs,on,sels⟩:=x
  have hbx:bS (.mk k al nm args dirs on sels)=1+al.length+nm.length+on.length+bMs args+bDs dirs+bSs sels:=rfl
  have hcss:=zb7 sels
  rw[Y4] at hg
  simp(disch:=first|omega|assumption) only[hcs,hlt,hg,go_sem]
  refine zl fun b hb=>?_
  have hbw:b≠w:=fun e=>by subst e;rw[w3.here.cell] at hb;cases hb
  have w5:=w3.alloc (x:=.cells [.int .i64 k,.str al,.str nm,.sl .no 6 (cMs args),.sl .no 2 (cDs dirs),.str on,.sl .no 7 (cSs sels)]) hb
  have hbc:(H3.upd b (.cells [.int .i64 k,.str al,.str nm,.sl .no 6 (cMs args),.sl .no 2 (cDs dirs),.str on,.sl .no 7 (cSs sels)])) b=some (.cells [.int .i64 k,.str al,.str nm,.sl .no 6 (cMs args),.sl .no 2 (cDs dirs),.str on,.sl .no 7 (cSs sels)]):=upd_same ..
  have hc5:=w5.here.cell
  cases hok:ok&&yE dp done with
  | false =>
   rw[hok] at hc5
   have hf:(ok&&yc dp L)=false:=by
    cases ok
    ·rfl
    ·rw[Bool.true_and] at hok ⊢;rw[er0];exact zkr hd hok
   simp(disch:=first|omega|assumption) only[hc5,go_sem]
   refine hQ _ _ _ _ [] nofun rfl (Low.refl _) ⟨rfl,o3,l3,?_,w5.st,by have:=w5.len;omega,fun e=>?_⟩
   ·show WAt _ w o3 l3 (ok&&yc dp L) dp
    rw[hf,← hok];exact w5.here
   ·have e:(ok&&yc dp L)=true:=e
    rw[hf] at e;cases e
  | true =>
   rw[hok] at hc5
   have hstep:∀(o6:Own) (l6:List Tok) (H6:za),WR H o w l ok dp (16*bSs done+16*bS (.mk k al nm args dirs on sels)) (yE dp done&&ye dp (.mk k al nm args dirs on sels)) (tSl done++tS (.mk k al nm args dirs on sels)) H6 o6 l6→J ((Yn _ [(20,.int .i64 ((done.length:Int)+1))]).keep [0,18,19,20]) H6:=fun o6 l6 H6 w6 =>
    hJ (o6,l6) H6 (w6.cast (by rw[Zu];omega) (zJ ..).symm (Zv ..).symm)
   by_cases k1:k=1
   ·have hsp:=zpW k al nm args dirs on sels k1 hwx (by simp only[Lim];omega)
    rw[Y4] at hsp
    subst k1
    simp(disch:=first|omega|assumption) only[hc5,hbc,go_sem]
    refine zi hsp w5 (by omega) (by omega) (by omega) fun o6 l6 H6 w6 s6=>?_
    simp(disch:=first|omega|assumption) only[wrap64,go_sem]
    exact goJ (hstep o6 l6 H6 w6) (by simp(disch:=first|omega|assumption) only[go_sem])
   by_cases k2:k=2
   ·have hsp:=zpv (c:=bSs sels) (ih (bSs sels) (by omega)) k al nm args dirs on sels k2 (Al4 _) hwx (by simp only[Lim];omega)
    rw[Y4] at hsp
    subst k2
    simp(disch:=first|omega|assumption) only[hc5,hbc,go_sem]
    refine zi hsp w5 (by omega) (by omega) (by omega) fun o6 l6 H6 w6 s6=>?_
    simp(disch:=first|omega|assumption) only[wrap64,go_sem]
    exact goJ (hstep o6 l6 H6 w6) (by simp(disch:=first|omega|assumption) only[go_sem])
   have hLB:=ih (bSs sels) (by omega)
   obtain⟨hwa,hwd,hws⟩:=hwx
   obtain⟨n,hnd⟩:∃ n,n=(decide (k=0)&&decide (on=[])):=⟨_,rfl⟩
   have er:ye dp (.mk k al nm args dirs on sels)=(n&&(decide (al=[])||ym al)&&ym nm&&YY dp false args&&yZ dp false dirs&&(decide (sels.length=0)||yc (dp+1) sels)):=by
    rw[hnd];simp only[ye,k1,k2,if_false]
    by_cases k0:k=0
    ·simp only[k0,if_true,yc]
     by_cases hz:sels.length=0
     ·simp only[hz,decide_true,Bool.true_or]
      cases yZ dp false dirs<;>cases ym nm<;>cases YY dp false args<;>simp[Bool.and_comm]
     ·simp only[hz,decide_false,Bool.false_or,ne_eq,not_false_eq_true,decide_true,Bool.true_and]
      cases yZ dp false dirs<;>cases ym nm<;>cases YY dp false args<;>simp[Bool.and_comm,y9,Bool.and_left_comm]
    ·simp[k0]
   have et:n=true→tS (.mk k al nm args dirs on sels)=(if al=[] then [] else [wk al,pk [58]])++(wk nm::ZV args)++(tDs dirs++(if sels.length=0 then [] else tBl sels)):=fun e=>by
    rw[hnd] at e;simp only[Al0,decide_eq_true_eq] at e
    simp only[tS,e.1,if_true,tBl]
   by_cases k0:k=0
   case neg =>
    have hbv:n=false:=by rw[hnd];simp[k0]
    simp(disch:=first|omega|assumption) only[hc5,hbc,k1,k2,k0,go_sem]
    refine zi (Zl _) w5 (by omega) (by omega) (by omega) fun o6 l6 H6 w6 s6=>?_
    have hb6:=s6.box w5.here.own hbc hbw
    by_cases hal:al=[]
    case pos =>
     simp(disch:=first|omega|assumption) only[hb6,hal,go_sem]
     refine zi (yh nm (by simp only[Lim];omega)) w6 (by omega) (by omega) (by omega) fun o9 l9 H9 w9 s9=>?_
     have hb9:=s9.box w6.here.own hb6 hbw
     simp(disch:=first|omega|assumption) only[hb9,go_sem]
     refine zi (zdZ false args hwa (by simp only[Lim];omega)) w9 (by omega) (by omega) (by omega) fun oY lY HY wY sY=>?_
     have hbY:=sY.box w9.here.own hb9 hbw
     simp(disch:=first|omega|assumption) only[hbY,go_sem]
     refine zi (yv false dirs hwd (by simp only[Lim];omega)) wY (by omega) (by omega) (by omega) fun oZ lZ HZ wZ sZ=>?_
     have hbZ:=sZ.box wY.here.own hbY hbw
     simp(disch:=first|omega|assumption) only[hbZ,go_sem]
     by_cases hz:sels.length=0
     case pos =>
      have hz':¬ ((0:Int)<(sels.length:Int)):=by omega
      simp(disch:=first|omega|assumption) only[hcss,hz',wrap64,go_sem]
      exact goJ (hJ (oZ,lZ) HZ (wZ.castC (by rw[Zu];simp only[bS];omega) (by rw[zJ,er,hbv];simp[hz,hal,y9]) (fun e=>by rw[Zv,et (by rw[zJ,er] at e;simp only[Al0] at e;exact e.2.1.1.1.1.1)];simp[hz,hal]))) (by simp(disch:=first|omega|assumption) only[go_sem])
     case neg =>
      have hz':((0:Int)<(sels.length:Int))=True:=eq_true (by omega)
      have hbox:=sZ.box wY.here.own hbY hbw
      simp(disch:=first|omega|assumption) only[hcss,hz',hbox,go_sem]
      refine zi (yt hLB sels (Al4 _) hws (by simp only[Lim];omega)) wZ (by omega) (by omega) (by omega) fun oU lU HU wU _=>?_
      simp(disch:=first|omega|assumption) only[wrap64,go_sem]
      exact goJ (hJ (oU,lU) HU (wU.castC (by rw[Zu];simp only[bS];omega) (by rw[zJ,er,hbv];simp[hz,hal,y9]) (fun e=>by rw[Zv,et (by rw[zJ,er] at e;simp only[Al0] at e;exact e.2.1.1.1.1.1)];simp[hz,hal,tBl]))) (by simp(disch:=first|omega|assumption) only[go_sem])
    case neg =>
     simp(disch:=first|omega|assumption) only[hb6,hal,go_sem]
     refine zi (yh al (by simp only[Lim];omega)) w6 (by omega) (by omega) (by omega) fun o7 l7 H7 w7 s7=>?_
     have hb7:=s7.box w6.here.own hb6 hbw
     simp(disch:=first|omega|assumption) only[hb7,go_sem]
     refine zi (yp [58] _) w7 (by omega) (by omega) (by omega) fun o8 l8 H8 w8 s8=>?_
     have hb8:=s8.box w7.here.own hb7 hbw
     simp(disch:=first|omega|assumption) only[hb8,go_sem]
     refine zi (yh nm (by simp only[Lim];omega)) w8 (by omega) (by omega) (by omega) fun o9 l9 H9 w9 s9=>?_
     have hb9:=s9.box w8.here.own hb8 hbw
     simp(disch:=first|omega|assumption) only[hb9,go_sem]
     refine zi (zdZ false args hwa (by simp only[Lim];omega)) w9 (by omega) (by omega) (by omega) fun oY lY HY wY sY=>?_
     have hbY:=sY.box w9.here.own hb9 hbw
     simp(disch:=first|omega|assumption) only[hbY,go_sem]
     refine zi (yv false dirs hwd (by simp only[Lim];omega)) wY (by omega) (by omega) (by omega) fun oZ lZ HZ wZ sZ=>?_
     have hbZ:=sZ.box wY.here.own hbY hbw
     simp(disch:=first|omega|assumption) only[hbZ,go_sem]
     by_cases hz:sels.length=0
     case pos =>
      have hz':¬ ((0:Int)<(sels.length:Int)):=by omega
      simp(disch:=first|omega|assumption) only[hcss,hz',wrap64,go_sem]
      exact goJ (hJ (oZ,lZ) HZ (wZ.castC (by rw[Zu];simp only[bS];omega) (by rw[zJ,er,hbv];simp[hz,hal,y9]) (fun e=>by rw[Zv,et (by rw[zJ,er] at e;simp only[Al0] at e;exact e.2.1.1.1.1.1)];simp[hz,hal]))) (by simp(disch:=first|omega|assumption) only[go_sem])
     case neg =>
      have hz':((0:Int)<(sels.length:Int))=True:=eq_true (by omega)
      have hbox:=sZ.box wY.here.own hbY hbw
      simp(disch:=first|omega|assumption) only[hcss,hz',hbox,go_sem]
      refine zi (yt hLB sels (Al4 _) hws (by simp only[Lim];omega)) wZ (by omega) (by omega) (by omega) fun oU lU HU wU _=>?_
      simp(disch:=first|omega|assumption) only[wrap64,go_sem]
      exact goJ (hJ (oU,lU) HU (wU.castC (by rw[Zu];simp only[bS];omega) (by rw[zJ,er,hbv];simp[hz,hal,y9]) (fun e=>by rw[Zv,et (by rw[zJ,er] at e;simp only[Al0] at e;exact e.2.1.1.1.1.1)];simp[hz,hal,tBl]))) (by simp(disch:=first|omega|assumption) only[go_sem])
   subst k0
   by_cases ho:on=[]
   case neg =>
    have hbv:n=false:=by rw[hnd];simp[ho]
    simp(disch:=first|omega|assumption) only[hc5,hbc,ho,go_sem]
    refine zi (Zl _) w5 (by omega) (by omega) (by omega) fun o6 l6 H6 w6 s6=>?_
    have hb6:=s6.box w5.here.own hbc hbw
    by_cases hal:al=[]
    case pos =>
     simp(disch:=first|omega|assumption) only[hb6,hal,go_sem]
     refine zi (yh nm (by simp only[Lim];omega)) w6 (by omega) (by omega) (by omega) fun o9 l9 H9 w9 s9=>?_
     have hb9:=s9.box w6.here.own hb6 hbw
     simp(disch:=first|omega|assumption) only[hb9,go_sem]
     refine zi (zdZ false args hwa (by simp only[Lim];omega)) w9 (by omega) (by omega) (by omega) fun oY lY HY wY sY=>?_
     have hbY:=sY.box w9.here.own hb9 hbw
     simp(disch:=first|omega|assumption) only[hbY,go_sem]
     refine zi (yv false dirs hwd (by simp only[Lim];omega)) wY (by omega) (by omega) (by omega) fun oZ lZ HZ wZ sZ=>?_
     have hbZ:=sZ.box wY.here.own hbY hbw
     simp(disch:=first|omega|assumption) only[hbZ,go_sem]
     by_cases hz:sels.length=0
     case pos =>
      have hz':¬ ((0:Int)<(sels.length:Int)):=by omega
      simp(disch:=first|omega|assumption) only[hcss,hz',wrap64,go_sem]
      exact goJ (hJ (oZ,lZ) HZ (wZ.castC (by rw[Zu];simp only[bS];omega) (by rw[zJ,er,hbv];simp[hz,hal,y9]) (fun e=>by rw[Zv,et (by rw[zJ,er] at e;simp only[Al0] at e;exact e.2.1.1.1.1.1)];simp[hz,hal]))) (by simp(disch:=first|omega|assumption) only[go_sem])
     case neg =>
      have hz':((0:Int)<(sels.length:Int))=True:=eq_true (by omega)
      have hbox:=sZ.box wY.here.own hbY hbw
      simp(disch:=first|omega|assumption) only[hcss,hz',hbox,go_sem]
      refine zi (yt hLB sels (Al4 _) hws (by simp only[Lim];omega)) wZ (by omega) (by omega) (by omega) fun oU lU HU wU _=>?_
      simp(disch:=first|omega|assumption) only[wrap64,go_sem]
      exact goJ (hJ (oU,lU) HU (wU.castC (by rw[Zu];simp only[bS];omega) (by rw[zJ,er,hbv];simp[hz,hal,y9]) (fun e=>by rw[Zv,et (by rw[zJ,er] at e;simp only[Al0] at e;exact e.2.1.1.1.1.1)];simp[hz,hal,tBl]))) (by simp(disch:=first|omega|assumption) only[go_sem])
    case neg =>
     simp(disch:=first|omega|assumption) only[hb6,hal,go_sem]
     refine zi (yh al (by simp only[Lim];omega)) w6 (by omega) (by omega) (by omega) fun o7 l7 H7 w7 s7=>?_
     have hb7:=s7.box w6.here.own hb6 hbw
     simp(disch:=first|omega|assumption) only[hb7,go_sem]
     refine zi (yp [58] _) w7 (by omega) (by omega) (by omega) fun o8 l8 H8 w8 s8=>?_
     have hb8:=s8.box w7.here.own hb7 hbw
     simp(disch:=first|omega|assumption) only[hb8,go_sem]
     refine zi (yh nm (by simp only[Lim];omega)) w8 (by omega) (by omega) (by omega) fun o9 l9 H9 w9 s9=>?_
     have hb9:=s9.box w8.here.own hb8 hbw
     simp(disch:=first|omega|assumption) only[hb9,go_sem]
     refine zi (zdZ false args hwa (by simp only[Lim];omega)) w9 (by omega) (by omega) (by omega) fun oY lY HY wY sY=>?_
     have hbY:=sY.box w9.here.own hb9 hbw
     simp(disch:=first|omega|assumption) only[hbY,go_sem]
     refine zi (yv false dirs hwd (by simp only[Lim];omega)) wY (by omega) (by omega) (by omega) fun oZ lZ HZ wZ sZ=>?_
     have hbZ:=sZ.box wY.here.own hbY hbw
     simp(disch:=first|omega|assumption) only[hbZ,go_sem]
     by_cases hz:sels.length=0
     case pos =>
      have hz':¬ ((0:Int)<(sels.length:Int)):=by omega
      simp(disch:=first|omega|assumption) only[hcss,hz',wrap64,go_sem]
      exact goJ (hJ (oZ,lZ) HZ (wZ.castC (by rw[Zu];simp only[bS];omega) (by rw[zJ,er,hbv];simp[hz,hal,y9]) (fun e=>by rw[Zv,et (by rw[zJ,er] at e;simp only[Al0] at e;exact e.2.1.1.1.1.1)];simp[hz,hal]))) (by simp(disch:=first|omega|assumption) only[go_sem])
     case neg =>
      have hz':((0:Int)<(sels.length:Int))=True:=eq_true (by omega)
      have hbox:=sZ.box wY.here.own hbY hbw
      simp(disch:=first|omega|assumption) only[hcss,hz',hbox,go_sem]
      refine zi (yt hLB sels (Al4 _) hws (by simp only[Lim];omega)) wZ (by omega) (by omega) (by omega) fun oU lU HU wU _=>?_
      simp(disch:=first|omega|assumption) only[wrap64,go_sem]
      exact goJ (hJ (oU,lU) HU (wU.castC (by rw[Zu];simp only[bS];omega) (by rw[zJ,er,hbv];simp[hz,hal,y9]) (fun e=>by rw[Zv,et (by rw[zJ,er] at e;simp only[Al0] at e;exact e.2.1.1.1.1.1)];simp[hz,hal,tBl]))) (by simp(disch:=first|omega|assumption) only[go_sem])
   subst ho
   have hbv:n=true:=by rw[hnd];simp
   simp(disch:=first|omega|assumption) only[hc5,hbc,go_sem]
   refine zi (Zl _) w5 (by omega) (by omega) (by omega) fun o6 l6 H6 w6 s6=>?_
   have hb6:=s6.box w5.here.own hbc hbw
   by_cases hal:al=[]
   case pos =>
    simp(disch:=first|omega|assumption) only[hb6,hal,go_sem]
    refine zi (yh nm (by simp only[Lim];omega)) w6 (by omega) (by omega) (by omega) fun o9 l9 H9 w9 s9=>?_
    have hb9:=s9.box w6.here.own hb6 hbw
    simp(disch:=first|omega|assumption) only[hb9,go_sem]
    refine zi (zdZ false args hwa (by simp only[Lim];omega)) w9 (by omega) (by omega) (by omega) fun oY lY HY wY sY=>?_
    have hbY:=sY.box w9.here.own hb9 hbw
    simp(disch:=first|omega|assumption) only[hbY,go_sem]
    refine zi (yv false dirs hwd (by simp only[Lim];omega)) wY (by omega) (by omega) (by omega) fun oZ lZ HZ wZ sZ=>?_
    have hbZ:=sZ.box wY.here.own hbY hbw
    simp(disch:=first|omega|assumption) only[hbZ,go_sem]
    by_cases hz:sels.length=0
    case pos =>
     have hz':¬ ((0:Int)<(sels.length:Int)):=by omega
     simp(disch:=first|omega|assumption) only[hcss,hz',wrap64,go_sem]
     exact goJ (hJ (oZ,lZ) HZ (wZ.castC (by rw[Zu];simp only[bS];omega) (by rw[zJ,er,hbv];simp[hz,hal,y9]) (fun e=>by rw[Zv,et (by rw[zJ,er] at e;simp only[Al0] at e;exact e.2.1.1.1.1.1)];simp[hz,hal]))) (by simp(disch:=first|omega|assumption) only[go_sem])
    case neg =>
     have hz':((0:Int)<(sels.length:Int))=True:=eq_true (by omega)
     have hbox:=sZ.box wY.here.own hbY hbw
     simp(disch:=first|omega|assumption) only[hcss,hz',hbox,go_sem]
     refine zi (yt hLB sels (Al4 _) hws (by simp only[Lim];omega)) wZ (by omega) (by omega) (by omega) fun oU lU HU wU _=>?_
     simp(disch:=first|omega|assumption) only[wrap64,go_sem]
     exact goJ (hJ (oU,lU) HU (wU.castC (by rw[Zu];simp only[bS];omega) (by rw[zJ,er,hbv];simp[hz,hal,y9]) (fun e=>by rw[Zv,et (by rw[zJ,er] at e;simp only[Al0] at e;exact e.2.1.1.1.1.1)];simp[hz,hal,tBl]))) (by simp(disch:=first|omega|assumption) only[go_sem])
   case neg =>
    simp(disch:=first|omega|assumption) only[hb6,hal,go_sem]
    refine zi (yh al (by simp only[Lim];omega)) w6 (by omega) (by omega) (by omega) fun o7 l7 H7 w7 s7=>?_
    have hb7:=s7.box w6.here.own hb6 hbw
    simp(disch:=first|omega|assumption) only[hb7,go_sem]
    refine zi (yp [58] _) w7 (by omega) (by omega) (by omega) fun o8 l8 H8 w8 s8=>?_
    have hb8:=s8.box w7.here.own hb7 hbw
    simp(disch:=first|omega|assumption) only[hb8,go_sem]
    refine zi (yh nm (by simp only[Lim];omega)) w8 (by omega) (by omega) (by omega) fun o9 l9 H9 w9 s9=>?_
    have hb9:=s9.box w8.here.own hb8 hbw
    simp(disch:=first|omega|assumption) only[hb9,go_sem]
    refine zi (zdZ false args hwa (by simp only[Lim];omega)) w9 (by omega) (by omega) (by omega) fun oY lY HY wY sY=>?_
    have hbY:=sY.box w9.here.own hb9 hbw
    simp(disch:=first|omega|assumption) only[hbY,go_sem]
    refine zi (yv false dirs hwd (by simp only[Lim];omega)) wY (by omega) (by omega) (by omega) fun oZ lZ HZ wZ sZ=>?_
    have hbZ:=sZ.box wY.here.own hbY hbw
    simp(disch:=first|omega|assumption) only[hbZ,go_sem]
    by_cases hz:sels.length=0
    case pos =>
     have hz':¬ ((0:Int)<(sels.length:Int)):=by omega
     simp(disch:=first|omega|assumption) only[hcss,hz',wrap64,go_sem]
     exact goJ (hJ (oZ,lZ) HZ (wZ.castC (by rw[Zu];simp only[bS];omega) (by rw[zJ,er,hbv];simp[hz,hal,y9]) (fun e=>by rw[Zv,et (by rw[zJ,er] at e;simp only[Al0] at e;exact e.2.1.1.1.1.1)];simp[hz,hal]))) (by simp(disch:=first|omega|assumption) only[go_sem])
    case neg =>
     have hz':((0:Int)<(sels.length:Int))=True:=eq_true (by omega)
     have hbox:=sZ.box wY.here.own hbY hbw
     simp(disch:=first|omega|assumption) only[hcss,hz',hbox,go_sem]
     refine zi (yt hLB sels (Al4 _) hws (by simp only[Lim];omega)) wZ (by omega) (by omega) (by omega) fun oU lU HU wU _=>?_
     simp(disch:=first|omega|assumption) only[wrap64,go_sem]
     exact goJ (hJ (oU,lU) HU (wU.castC (by rw[Zu];simp only[bS];omega) (by rw[zJ,er,hbv];simp[hz,hal,y9]) (fun e=>by rw[Zv,et (by rw[zJ,er] at e;simp only[Al0] at e;exact e.2.1.1.1.1.1)];simp[hz,hal,tBl]))) (by simp(disch:=first|omega|assumption) only[go_sem])
theorem zbD (l:List VarD) (x:VarD):bWs (l++[x])=bWs l+bW x:=by simp[bWs]
theorem ztP (f:FragD) (hw:wfF f) (hm:32*bF f≤Lim):WC 72 [.agg (cF f)] (32*bF f) 0 16 (fun dp=>decide (f.nm≠[111,110])&&(ym f.nm&&(ym f.on&&(yZ dp true f.dirs&&yc (dp+1) f.sels)))) (tF f):=by
 intro H w o l ok dp h h0 h1 hb
 obtain⟨nm,on,dirs,sels⟩:=f
 have hm':=hm
 simp only[Lim,bF] at hm'
 simp only[bF] at hb
 obtain⟨hwd,hws⟩:=hw
 have ef:cF ⟨nm,on,dirs,sels⟩=[.str nm,.str on,.sl .no 2 (cDs dirs),.sl .no 7 (cSs sels)]:=rfl
 refine zj.go ir72 ck72 (Al4 _) fun KP Q hQ=>?_
 have w0:=WR.refl h
 obtain⟨n,hn⟩:∃ n,n=decide (nm≠[111,110]):=⟨_,rfl⟩
 have nf:ym [102,114,97,103,109,101,110,116]=true:=by decide
 by_cases ho:nm=[111,110]
 case' pos =>
  have hbv:n=false:=by rw[hn];simp[ho]
  subst ho
  simp(disch:=first|omega|assumption) only[ir72,ef,go_sem]
  refine zi (Zl _) w0 (by omega) (by omega) (by omega) fun o1 l1 H1 w1 _=>?_
 case' neg =>
  have hbv:n=true:=by rw[hn];simp[ho]
  simp(disch:=first|omega|assumption) only[ir72,ef,ho,go_sem]
  refine zi (Zl _) w0 (by omega) (by omega) (by omega) fun o1 l1 H1 w1 _=>?_
 all_goals
  simp(disch:=first|omega|assumption) only[go_sem]
  refine zi (yh [102,114,97,103,109,101,110,116] (by simp[Lim])) w1 (by omega) (by omega) (by omega) fun o2 l2 H2 w2 _=>?_
  simp(disch:=first|omega|assumption) only[go_sem]
  refine zi (yh _ (by simp only[Lim];first|omega|simp)) w2 (by omega) (by omega) (by omega) fun o3 l3 H3 w3 _=>?_
  simp(disch:=first|omega|assumption) only[go_sem]
  refine zi (yh [111,110] (by simp[Lim])) w3 (by omega) (by omega) (by omega) fun o4 l4 H4 w4 _=>?_
  simp(disch:=first|omega|assumption) only[go_sem]
  refine zi (yh on (by simp only[Lim];omega)) w4 (by omega) (by omega) (by omega) fun o5 l5 H5 w5 _=>?_
  simp(disch:=first|omega|assumption) only[go_sem]
  refine zi (yv true dirs hwd (by simp only[Lim];omega)) w5 (by omega) (by omega) (by omega) fun o6 l6 H6 w6 _=>?_
  simp(disch:=first|omega|assumption) only[go_sem]
  refine zi (yt (YR (bSs sels)) sels (Al4 _) hws (by simp only[Lim];omega)) w6 (by omega) (by omega) (by omega) fun o7 l7 H7 w7 _=>?_
  simp(disch:=first|omega|assumption) only[go_sem]
  exact hQ _ _ H7 H7 [] nofun rfl (Low.refl _) ⟨rfl,w7.fin (by simp only[← hn,hbv,nf,zkc];simp[y9]) (fun _=>by simp[tF]) (by simp only[bF];omega)⟩
noncomputable def ZK (dp:Int) (x:VarD):Bool:=ym x.nm&&(yH x.t&&(if x.has then yJ dp true x.d else eqd x.d zV))
noncomputable def yq (dp:Int) (x:OpD):Bool:=(decide (x.k=0)||decide (x.k=1))&&((decide (x.nm=[])||ym x.nm)&&(x.vars.all (ZK dp)&&(yZ dp true x.dirs&&yc (dp+1) x.sels)))
theorem zvy (x:OpD) (hw:wfO x) (hm:64*bO x≤Lim):WC 71 [.agg (cO x)] (64*bO x) 0 16 (fun dp=>yq dp x) (tO x):=by
 intro H w o l ok dp h h0 h1 hb
 obtain⟨k,nm,vars,dirs,sels⟩:=x
 have hm':=hm
 simp only[Lim,bO] at hm'
 simp only[bO] at hb
 obtain⟨hwv,hwd,hws⟩:=hw
 have eo:cO ⟨k,nm,vars,dirs,sels⟩=[.int .i64 k,.str nm,.sl .no 10 (cWs vars),.sl .no 2 (cDs dirs),.sl .no 7 (cSs sels)]:=rfl
 have hcw:=zdk vars
 have hvl:=zjc vars
 have nq:ym [113,117,101,114,121]=true:=by decide
 have nmu:ym [109,117,116,97,116,105,111,110]=true:=by decide
 refine zj.go ir71 ck71 (Al4 _) fun KP Q hQ=>?_
 have w0:=WR.refl h
 obtain⟨R3,hR3⟩:∃ R3,R3=((decide (k=0)||decide (k=1))&&(decide (nm=[])||ym nm)):=⟨_,rfl⟩
 obtain⟨T3,hT3⟩:∃ T3,T3=(wk (if k=0 then [113,117,101,114,121] else [109,117,116,97,116,105,111,110])::(if nm=[] then [] else [wk nm])):=⟨_,rfl⟩
 have er:yq dp ⟨k,nm,vars,dirs,sels⟩=(R3&&(vars.all (ZK dp)&&(yZ dp true dirs&&yc (dp+1) sels))):=by
  rw[hR3];simp only[yq,y9]
 have et:R3=true→tO ⟨k,nm,vars,dirs,sels⟩=T3++(tWs vars++(tDs dirs++tBl sels)):=fun _=>by rw[hT3];simp[tO]
 by_cases hk0:k=0
 ·subst hk0
  have hk0:True:=trivial
  have hk1:True:=trivial
  simp(disch:=first|omega|assumption) only[ir71,eo,go_sem]
  refine zi (yh [113,117,101,114,121] (by simp[Lim])) w0 (by omega) (by omega) (by omega) fun o2 l2 H2 w2 _=>?_
  by_cases hnm:nm=[]
  case pos =>
   have w3:=(w2.castC (B':=2) (r':=R3) (tk':=T3) (by omega) (by rw[hR3];simp[hk0,hk1,hnm,nq,nmu]) (fun e=>by first|(rw[hT3];simp[hk0,hk1,hnm];done)|(exfalso;revert e;rw[hR3];simp[hk0,hk1])))
   by_cases hv0:vars.length=0
   case pos =>
    have hv1:¬ ((0:Int)<(vars.length:Int)):=by omega
    have hev:=List.length_eq_zero_iff.1 hv0
    simp(disch:=first|omega|assumption) only[hnm,hcw,hv1,go_sem]
    refine zi (yv true dirs hwd (by simp only[Lim];omega)) w3 (by omega) (by omega) (by omega) fun oA lA HA wA _=>?_
    simp(disch:=first|omega|assumption) only[go_sem]
    refine zi (yt (YR (bSs sels)) sels (Al4 _) hws (by simp only[Lim];omega)) wA (by omega) (by omega) (by omega) fun oB lB HB wB _=>?_
    simp(disch:=first|omega|assumption) only[go_sem]
    exact hQ _ _ HB HB [] nofun rfl (Low.refl _) ⟨rfl,wB.fin (by show _=yq dp _;rw[er];simp[hev,y9]) (fun e=>by rw[et (by have e:yq dp _=true:=e;rw[er] at e;simp only[Al0] at e;exact e.1)];simp[tWs,hv0]) (by simp only[bO];omega)⟩
   case neg =>
    have hev:=hv0
    have hv1:((0:Int)<(vars.length:Int))=True:=eq_true (by omega)
    simp(disch:=first|omega|assumption) only[hnm,hcw,hv1,go_sem]
    refine zi (yp [40] _) w3 (by omega) (by omega) (by omega) fun o4 l4 H4 w4 _=>?_
    simp(disch:=first|omega|assumption) only[hcw,go_sem]
    refine zx vars 35 (fun x:Own×List Tok=>[]) (fun done rest x H'=>WR H o w l ok dp (3+32*bWs done) (R3&&done.all (ZK dp)) (T3++(pk [40]::done.flatMap tW)) H' x.1 x.2) (o4,l4) (by simp(disch:=first|omega|assumption) only[go_sem]) (w4.cast (by omega) (by simp) (by simp)) ?_ ?_
    case refine_1 =>
     rintro⟨o5,l5⟩ H5 J5 w5 hlt
     simp only at w5
     simp(disch:=first|omega|assumption) only[hcw,hlt,go_sem]
     refine zi (yp [41] _) w5 (by omega) (by omega) (by omega) fun o6 l6 H6 w6 _=>?_
     simp(disch:=first|omega|assumption) only[go_sem]
     refine zi (yv true dirs hwd (by simp only[Lim];omega)) w6 (by omega) (by omega) (by omega) fun oA lA HA wA _=>?_
     simp(disch:=first|omega|assumption) only[go_sem]
     refine zi (yt (YR (bSs sels)) sels (Al4 _) hws (by simp only[Lim];omega)) wA (by omega) (by omega) (by omega) fun oB lB HB wB _=>?_
     simp(disch:=first|omega|assumption) only[go_sem]
     exact hQ _ _ HB HB [] nofun rfl (Low.refl _) ⟨rfl,wB.fin (by show _=yq dp _;rw[er];simp[hev,y9]) (fun e=>by rw[et (by have e:yq dp _=true:=e;rw[er] at e;simp only[Al0] at e;exact e.1)];simp[tWs,hv0]) (by simp only[bO];omega)⟩
    case refine_2 =>
     rintro done x rest ⟨o5,l5⟩ H5 J5 hd hlt hlt2 w5 hJ5
     simp only at w5
     have hg:=zat hd
     have hbm:=zba done x rest
     rw[← hd] at hbm
     have hwx:=hwv x (by rw[hd];simp)
     obtain⟨vn,⟨tn,tl,tm⟩,vh,vd⟩:=x
     have hwvd:wfV vd:=hwx.2.2
     have hvp:=YO vd
     have hbx:bW ⟨vn,⟨tn,tl,tm⟩,vh,vd⟩=vn.length+tn.length+bV vd:=rfl
     rw[zcV] at hg
     simp only at hg
     simp(disch:=first|omega|assumption) only[zo,zg,zf,zn,zh,ze,zu,hcw,hlt,hg,go_sem]
     refine zl fun b hb=>?_
     have hbw:b≠w:=fun e=>by subst e;rw[w5.here.cell] at hb;cases hb
     have w6:=w5.alloc (x:=.cells (.str vn::.str tn::.int .i64 tl::.int .i64 tm::.bool vh::cV vd)) hb
     have hbc:(H5.upd b (.cells (.str vn::.str tn::.int .i64 tl::.int .i64 tm::.bool vh::cV vd))) b=some (.cells (.str vn::.str tn::.int .i64 tl::.int .i64 tm::.bool vh::cV vd)):=upd_same ..
     simp(disch:=first|omega|assumption) only[zo,zg,zf,zn,zh,ze,zu,go_sem]
     refine zi (yp [36] _) w6 (by omega) (by omega) (by omega) fun o7 l7 H7 w7 s7=>?_
     have hb7:=s7.box w6.here.own hbc hbw
     simp(disch:=first|omega|assumption) only[zo,zg,zf,zn,zh,ze,zu,hb7,go_sem]
     refine zi (yh vn (by simp only[Lim];omega)) w7 (by omega) (by omega) (by omega) fun o8 l8 H8 w8 s8=>?_
     have hb8:=s8.box w7.here.own hb7 hbw
     simp(disch:=first|omega|assumption) only[zo,zg,zf,zn,zh,ze,zu,hb8,go_sem]
     refine zi (yp [58] _) w8 (by omega) (by omega) (by omega) fun o9 l9 H9 w9 s9=>?_
     have hb9:=s9.box w8.here.own hb8 hbw
     simp(disch:=first|omega|assumption) only[zo,zg,zf,zn,zh,ze,zu,hb9,go_sem]
     refine zi (args:=[.agg [.str tn,.int .i64 tl,.int .i64 tm]]) (show WC _ [.agg [.str tn,.int .i64 tl,.int .i64 tm]] 20 (-1000) 1000 (fun _=>yH ⟨tn,tl,tm⟩) (tTy ⟨tn,tl,tm⟩) from zfq ⟨tn,tl,tm⟩ (by simp only[Lim];omega)) w9 (by omega) (by omega) (by omega) fun oC lC HC wC sC=>?_
     have hbC:=sC.box w9.here.own hb9 hbw
     simp(disch:=first|omega|assumption) only[zo,zg,zf,zn,zh,ze,zu,hbC,go_sem]
     refine zi (zaD vh vd hwvd (by simp only[Lim];omega)) wC (by omega) (by omega) (by omega) fun oD lD HD wD sD=>?_
     simp(disch:=first|omega|assumption) only[wrap64,go_sem]
     exact goJ (hJ5 (oD,lD) HD (wD.cast (by rw[zbD];omega) (by simp[ZK,y9]) (by simp[tW]))) (by simp(disch:=first|omega|assumption) only[go_sem])
  case neg =>
   simp(disch:=first|omega|assumption) only[hnm,go_sem]
   refine zi (yh nm (by simp only[Lim];omega)) w2 (by omega) (by omega) (by omega) fun o3 l3 H3 w3' _=>?_
   have w3:=(w3'.castC (B':=2) (r':=R3) (tk':=T3) (by omega) (by rw[hR3];simp[hk0,hk1,hnm,nq,nmu]) (fun e=>by first|(rw[hT3];simp[hk0,hk1,hnm];done)|(exfalso;revert e;rw[hR3];simp[hk0,hk1])))
   by_cases hv0:vars.length=0
   case pos =>
    have hv1:¬ ((0:Int)<(vars.length:Int)):=by omega
    have hev:=List.length_eq_zero_iff.1 hv0
    simp(disch:=first|omega|assumption) only[hnm,hcw,hv1,go_sem]
    refine zi (yv true dirs hwd (by simp only[Lim];omega)) w3 (by omega) (by omega) (by omega) fun oA lA HA wA _=>?_
    simp(disch:=first|omega|assumption) only[go_sem]
    refine zi (yt (YR (bSs sels)) sels (Al4 _) hws (by simp only[Lim];omega)) wA (by omega) (by omega) (by omega) fun oB lB HB wB _=>?_
    simp(disch:=first|omega|assumption) only[go_sem]
    exact hQ _ _ HB HB [] nofun rfl (Low.refl _) ⟨rfl,wB.fin (by show _=yq dp _;rw[er];simp[hev,y9]) (fun e=>by rw[et (by have e:yq dp _=true:=e;rw[er] at e;simp only[Al0] at e;exact e.1)];simp[tWs,hv0]) (by simp only[bO];omega)⟩
   case neg =>
    have hev:=hv0
    have hv1:((0:Int)<(vars.length:Int))=True:=eq_true (by omega)
    simp(disch:=first|omega|assumption) only[hnm,hcw,hv1,go_sem]
    refine zi (yp [40] _) w3 (by omega) (by omega) (by omega) fun o4 l4 H4 w4 _=>?_
    simp(disch:=first|omega|assumption) only[hcw,go_sem]
    refine zx vars 35 (fun x:Own×List Tok=>[]) (fun done rest x H'=>WR H o w l ok dp (3+32*bWs done) (R3&&done.all (ZK dp)) (T3++(pk [40]::done.flatMap tW)) H' x.1 x.2) (o4,l4) (by simp(disch:=first|omega|assumption) only[go_sem]) (w4.cast (by omega) (by simp) (by simp)) ?_ ?_
    case refine_1 =>
     rintro⟨o5,l5⟩ H5 J5 w5 hlt
     simp only at w5
     simp(disch:=first|omega|assumption) only[hcw,hlt,go_sem]
     refine zi (yp [41] _) w5 (by omega) (by omega) (by omega) fun o6 l6 H6 w6 _=>?_
     simp(disch:=first|omega|assumption) only[go_sem]
     refine zi (yv true dirs hwd (by simp only[Lim];omega)) w6 (by omega) (by omega) (by omega) fun oA lA HA wA _=>?_
     simp(disch:=first|omega|assumption) only[go_sem]
     refine zi (yt (YR (bSs sels)) sels (Al4 _) hws (by simp only[Lim];omega)) wA (by omega) (by omega) (by omega) fun oB lB HB wB _=>?_
     simp(disch:=first|omega|assumption) only[go_sem]
     exact hQ _ _ HB HB [] nofun rfl (Low.refl _) ⟨rfl,wB.fin (by show _=yq dp _;rw[er];simp[hev,y9]) (fun e=>by rw[et (by have e:yq dp _=true:=e;rw[er] at e;simp only[Al0] at e;exact e.1)];simp[tWs,hv0]) (by simp only[bO];omega)⟩
    case refine_2 =>
     rintro done x rest ⟨o5,l5⟩ H5 J5 hd hlt hlt2 w5 hJ5
     simp only at w5
     have hg:=zat hd
     have hbm:=zba done x rest
     rw[← hd] at hbm
     have hwx:=hwv x (by rw[hd];simp)
     obtain⟨vn,⟨tn,tl,tm⟩,vh,vd⟩:=x
     have hwvd:wfV vd:=hwx.2.2
     have hvp:=YO vd
     have hbx:bW ⟨vn,⟨tn,tl,tm⟩,vh,vd⟩=vn.length+tn.length+bV vd:=rfl
     rw[zcV] at hg
     simp only at hg
     simp(disch:=first|omega|assumption) only[zo,zg,zf,zn,zh,ze,zu,hcw,hlt,hg,go_sem]
     refine zl fun b hb=>?_
     have hbw:b≠w:=fun e=>by subst e;rw[w5.here.cell] at hb;cases hb
     have w6:=w5.alloc (x:=.cells (.str vn::.str tn::.int .i64 tl::.int .i64 tm::.bool vh::cV vd)) hb
     have hbc:(H5.upd b (.cells (.str vn::.str tn::.int .i64 tl::.int .i64 tm::.bool vh::cV vd))) b=some (.cells (.str vn::.str tn::.int .i64 tl::.int .i64 tm::.bool vh::cV vd)):=upd_same ..
     simp(disch:=first|omega|assumption) only[zo,zg,zf,zn,zh,ze,zu,go_sem]
     refine zi (yp [36] _) w6 (by omega) (by omega) (by omega) fun o7 l7 H7 w7 s7=>?_
     have hb7:=s7.box w6.here.own hbc hbw
     simp(disch:=first|omega|assumption) only[zo,zg,zf,zn,zh,ze,zu,hb7,go_sem]
     refine zi (yh vn (by simp only[Lim];omega)) w7 (by omega) (by omega) (by omega) fun o8 l8 H8 w8 s8=>?_
     have hb8:=s8.box w7.here.own hb7 hbw
     simp(disch:=first|omega|assumption) only[zo,zg,zf,zn,zh,ze,zu,hb8,go_sem]
     refine zi (yp [58] _) w8 (by omega) (by omega) (by omega) fun o9 l9 H9 w9 s9=>?_
     have hb9:=s9.box w8.here.own hb8 hbw
     simp(disch:=first|omega|assumption) only[zo,zg,zf,zn,zh,ze,zu,hb9,go_sem]
     refine zi (args:=[.agg [.str tn,.int .i64 tl,.int .i64 tm]]) (show WC _ [.agg [.str tn,.int .i64 tl,.int .i64 tm]] 20 (-1000) 1000 (fun _=>yH ⟨tn,tl,tm⟩) (tTy ⟨tn,tl,tm⟩) from zfq ⟨tn,tl,tm⟩ (by simp only[Lim];omega)) w9 (by omega) (by omega) (by omega) fun oC lC HC wC sC=>?_
     have hbC:=sC.box w9.here.own hb9 hbw
     simp(disch:=first|omega|assumption) only[zo,zg,zf,zn,zh,ze,zu,hbC,go_sem]
     refine zi (zaD vh vd hwvd (by simp only[Lim];omega)) wC (by omega) (by omega) (by omega) fun oD lD HD wD sD=>?_
     simp(disch:=first|omega|assumption) only[wrap64,go_sem]
     exact goJ (hJ5 (oD,lD) HD (wD.cast (by rw[zbD];omega) (by simp[ZK,y9]) (by simp[tW]))) (by simp(disch:=first|omega|assumption) only[go_sem])
 by_cases hk1:k=1
 ·subst hk1
  have hk1:True:=trivial
  simp(disch:=first|omega|assumption) only[ir71,eo,go_sem]
  refine zi (yh [109,117,116,97,116,105,111,110] (by simp[Lim])) w0 (by omega) (by omega) (by omega) fun o2 l2 H2 w2 _=>?_
  by_cases hnm:nm=[]
  case pos =>
   have w3:=(w2.castC (B':=2) (r':=R3) (tk':=T3) (by omega) (by rw[hR3];simp[hk0,hk1,hnm,nq,nmu]) (fun e=>by first|(rw[hT3];simp[hk0,hk1,hnm];done)|(exfalso;revert e;rw[hR3];simp[hk0,hk1])))
   by_cases hv0:vars.length=0
   case pos =>
    have hv1:¬ ((0:Int)<(vars.length:Int)):=by omega
    have hev:=List.length_eq_zero_iff.1 hv0
    simp(disch:=first|omega|assumption) only[hnm,hcw,hv1,go_sem]
    refine zi (yv true dirs hwd (by simp only[Lim];omega)) w3 (by omega) (by omega) (by omega) fun oA lA HA wA _=>?_
    simp(disch:=first|omega|assumption) only[go_sem]
    refine zi (yt (YR (bSs sels)) sels (Al4 _) hws (by simp only[Lim];omega)) wA (by omega) (by omega) (by omega) fun oB lB HB wB _=>?_
    simp(disch:=first|omega|assumption) only[go_sem]
    exact hQ _ _ HB HB [] nofun rfl (Low.refl _) ⟨rfl,wB.fin (by show _=yq dp _;rw[er];simp[hev,y9]) (fun e=>by rw[et (by have e:yq dp _=true:=e;rw[er] at e;simp only[Al0] at e;exact e.1)];simp[tWs,hv0]) (by simp only[bO];omega)⟩
   case neg =>
    have hev:=hv0
    have hv1:((0:Int)<(vars.length:Int))=True:=eq_true (by omega)
    simp(disch:=first|omega|assumption) only[hnm,hcw,hv1,go_sem]
    refine zi (yp [40] _) w3 (by omega) (by omega) (by omega) fun o4 l4 H4 w4 _=>?_
    simp(disch:=first|omega|assumption) only[hcw,go_sem]
    refine zx vars 35 (fun x:Own×List Tok=>[]) (fun done rest x H'=>WR H o w l ok dp (3+32*bWs done) (R3&&done.all (ZK dp)) (T3++(pk [40]::done.flatMap tW)) H' x.1 x.2) (o4,l4) (by simp(disch:=first|omega|assumption) only[go_sem]) (w4.cast (by omega) (by simp) (by simp)) ?_ ?_
    case refine_1 =>
     rintro⟨o5,l5⟩ H5 J5 w5 hlt
     simp only at w5
     simp(disch:=first|omega|assumption) only[hcw,hlt,go_sem]
     refine zi (yp [41] _) w5 (by omega) (by omega) (by omega) fun o6 l6 H6 w6 _=>?_
     simp(disch:=first|omega|assumption) only[go_sem]
     refine zi (yv true dirs hwd (by simp only[Lim];omega)) w6 (by omega) (by omega) (by omega) fun oA lA HA wA _=>?_
     simp(disch:=first|omega|assumption) only[go_sem]
     refine zi (yt (YR (bSs sels)) sels (Al4 _) hws (by simp only[Lim];omega)) wA (by omega) (by omega) (by omega) fun oB lB HB wB _=>?_
     simp(disch:=first|omega|assumption) only[go_sem]
     exact hQ _ _ HB HB [] nofun rfl (Low.refl _) ⟨rfl,wB.fin (by show _=yq dp _;rw[er];simp[hev,y9]) (fun e=>by rw[et (by have e:yq dp _=true:=e;rw[er] at e;simp only[Al0] at e;exact e.1)];simp[tWs,hv0]) (by simp only[bO];omega)⟩
    case refine_2 =>
     rintro done x rest ⟨o5,l5⟩ H5 J5 hd hlt hlt2 w5 hJ5
     simp only at w5
     have hg:=zat hd
     have hbm:=zba done x rest
     rw[← hd] at hbm
     have hwx:=hwv x (by rw[hd];simp)
     obtain⟨vn,⟨tn,tl,tm⟩,vh,vd⟩:=x
     have hwvd:wfV vd:=hwx.2.2
     have hvp:=YO vd
     have hbx:bW ⟨vn,⟨tn,tl,tm⟩,vh,vd⟩=vn.length+tn.length+bV vd:=rfl
     rw[zcV] at hg
     simp only at hg
     simp(disch:=first|omega|assumption) only[zo,zg,zf,zn,zh,ze,zu,hcw,hlt,hg,go_sem]
     refine zl fun b hb=>?_
     have hbw:b≠w:=fun e=>by subst e;rw[w5.here.cell] at hb;cases hb
     have w6:=w5.alloc (x:=.cells (.str vn::.str tn::.int .i64 tl::.int .i64 tm::.bool vh::cV vd)) hb
     have hbc:(H5.upd b (.cells (.str vn::.str tn::.int .i64 tl::.int .i64 tm::.bool vh::cV vd))) b=some (.cells (.str vn::.str tn::.int .i64 tl::.int .i64 tm::.bool vh::cV vd)):=upd_same ..
     simp(disch:=first|omega|assumption) only[zo,zg,zf,zn,zh,ze,zu,go_sem]
     refine zi (yp [36] _) w6 (by omega) (by omega) (by omega) fun o7 l7 H7 w7 s7=>?_
     have hb7:=s7.box w6.here.own hbc hbw
     simp(disch:=first|omega|assumption) only[zo,zg,zf,zn,zh,ze,zu,hb7,go_sem]
     refine zi (yh vn (by simp only[Lim];omega)) w7 (by omega) (by omega) (by omega) fun o8 l8 H8 w8 s8=>?_
     have hb8:=s8.box w7.here.own hb7 hbw
     simp(disch:=first|omega|assumption) only[zo,zg,zf,zn,zh,ze,zu,hb8,go_sem]
     refine zi (yp [58] _) w8 (by omega) (by omega) (by omega) fun o9 l9 H9 w9 s9=>?_
     have hb9:=s9.box w8.here.own hb8 hbw
     simp(disch:=first|omega|assumption) only[zo,zg,zf,zn,zh,ze,zu,hb9,go_sem]
     refine zi (args:=[.agg [.str tn,.int .i64 tl,.int .i64 tm]]) (show WC _ [.agg [.str tn,.int .i64 tl,.int .i64 tm]] 20 (-1000) 1000 (fun _=>yH ⟨tn,tl,tm⟩) (tTy ⟨tn,tl,tm⟩) from zfq ⟨tn,tl,tm⟩ (by simp only[Lim];omega)) w9 (by omega) (by omega) (by omega) fun oC lC HC wC sC=>?_
     have hbC:=sC.box w9.here.own hb9 hbw
     simp(disch:=first|omega|assumption) only[zo,zg,zf,zn,zh,ze,zu,hbC,go_sem]
     refine zi (zaD vh vd hwvd (by simp only[Lim];omega)) wC (by omega) (by omega) (by omega) fun oD lD HD wD sD=>?_
     simp(disch:=first|omega|assumption) only[wrap64,go_sem]
     exact goJ (hJ5 (oD,lD) HD (wD.cast (by rw[zbD];omega) (by simp[ZK,y9]) (by simp[tW]))) (by simp(disch:=first|omega|assumption) only[go_sem])
  case neg =>
   simp(disch:=first|omega|assumption) only[hnm,go_sem]
   refine zi (yh nm (by simp only[Lim];omega)) w2 (by omega) (by omega) (by omega) fun o3 l3 H3 w3' _=>?_
   have w3:=(w3'.castC (B':=2) (r':=R3) (tk':=T3) (by omega) (by rw[hR3];simp[hk0,hk1,hnm,nq,nmu]) (fun e=>by first|(rw[hT3];simp[hk0,hk1,hnm];done)|(exfalso;revert e;rw[hR3];simp[hk0,hk1])))
   by_cases hv0:vars.length=0
   case pos =>
    have hv1:¬ ((0:Int)<(vars.length:Int)):=by omega
    have hev:=List.length_eq_zero_iff.1 hv0
    simp(disch:=first|omega|assumption) only[hnm,hcw,hv1,go_sem]
    refine zi (yv true dirs hwd (by simp only[Lim];omega)) w3 (by omega) (by omega) (by omega) fun oA lA HA wA _=>?_
    simp(disch:=first|omega|assumption) only[go_sem]
    refine zi (yt (YR (bSs sels)) sels (Al4 _) hws (by simp only[Lim];omega)) wA (by omega) (by omega) (by omega) fun oB lB HB wB _=>?_
    simp(disch:=first|omega|assumption) only[go_sem]
    exact hQ _ _ HB HB [] nofun rfl (Low.refl _) ⟨rfl,wB.fin (by show _=yq dp _;rw[er];simp[hev,y9]) (fun e=>by rw[et (by have e:yq dp _=true:=e;rw[er] at e;simp only[Al0] at e;exact e.1)];simp[tWs,hv0]) (by simp only[bO];omega)⟩
   case neg =>
    have hev:=hv0
    have hv1:((0:Int)<(vars.length:Int))=True:=eq_true (by omega)
    simp(disch:=first|omega|assumption) only[hnm,hcw,hv1,go_sem]
    refine zi (yp [40] _) w3 (by omega) (by omega) (by omega) fun o4 l4 H4 w4 _=>?_
    simp(disch:=first|omega|assumption) only[hcw,go_sem]
    refine zx vars 35 (fun x:Own×List Tok=>[]) (fun done rest x H'=>WR H o w l ok dp (3+32*bWs done) (R3&&done.all (ZK dp)) (T3++(pk [40]::done.flatMap tW)) H' x.1 x.2) (o4,l4) (by simp(disch:=first|omega|assumption) only[go_sem]) (w4.cast (by omega) (by simp) (by simp)) ?_ ?_
    case refine_1 =>
     rintro⟨o5,l5⟩ H5 J5 w5 hlt
     simp only at w5
     simp(disch:=first|omega|assumption) only[hcw,hlt,go_sem]
     refine zi (yp [41] _) w5 (by omega) (by omega) (by omega) fun o6 l6 H6 w6 _=>?_
     simp(disch:=first|omega|assumption) only[go_sem]
     refine zi (yv true dirs hwd (by simp only[Lim];omega)) w6 (by omega) (by omega) (by omega) fun oA lA HA wA _=>?_
     simp(disch:=first|omega|assumption) only[go_sem]
     refine zi (yt (YR (bSs sels)) sels (Al4 _) hws (by simp only[Lim];omega)) wA (by omega) (by omega) (by omega) fun oB lB HB wB _=>?_
     simp(disch:=first|omega|assumption) only[go_sem]
     exact hQ _ _ HB HB [] nofun rfl (Low.refl _) ⟨rfl,wB.fin (by show _=yq dp _;rw[er];simp[hev,y9]) (fun e=>by rw[et (by have e:yq dp _=true:=e;rw[er] at e;simp only[Al0] at e;exact e.1)];simp[tWs,hv0]) (by simp only[bO];omega)⟩
    case refine_2 =>
     rintro done x rest ⟨o5,l5⟩ H5 J5 hd hlt hlt2 w5 hJ5
     simp only at w5
     have hg:=zat hd
     have hbm:=zba done x rest
     rw[← hd] at hbm
     have hwx:=hwv x (by rw[hd];simp)
     obtain⟨vn,⟨tn,tl,tm⟩,vh,vd⟩:=x
     have hwvd:wfV vd:=hwx.2.2
     have hvp:=YO vd
     have hbx:bW ⟨vn,⟨tn,tl,tm⟩,vh,vd⟩=vn.length+tn.length+bV vd:=rfl
     rw[zcV] at hg
     simp only at hg
     simp(disch:=first|omega|assumption) only[zo,zg,zf,zn,zh,ze,zu,hcw,hlt,hg,go_sem]
     refine zl fun b hb=>?_
     have hbw:b≠w:=fun e=>by subst e;rw[w5.here.cell] at hb;cases hb
     have w6:=w5.alloc (x:=.cells (.str vn::.str tn::.int .i64 tl::.int .i64 tm::.bool vh::cV vd)) hb
     have hbc:(H5.upd b (.cells (.str vn::.str tn::.int .i64 tl::.int .i64 tm::.bool vh::cV vd))) b=some (.cells (.str vn::.str tn::.int .i64 tl::.int .i64 tm::.bool vh::cV vd)):=upd_same ..
     simp(disch:=first|omega|assumption) only[zo,zg,zf,zn,zh,ze,zu,go_sem]
     refine zi (yp [36] _) w6 (by omega) (by omega) (by omega) fun o7 l7 H7 w7 s7=>?_
     have hb7:=s7.box w6.here.own hbc hbw
     simp(disch:=first|omega|assumption) only[zo,zg,zf,zn,zh,ze,zu,hb7,go_sem]
     refine zi (yh vn (by simp only[Lim];omega)) w7 (by omega) (by omega) (by omega) fun o8 l8 H8 w8 s8=>?_
     have hb8:=s8.box w7.here.own hb7 hbw
     simp(disch:=first|omega|assumption) only[zo,zg,zf,zn,zh,ze,zu,hb8,go_sem]
     refine zi (yp [58] _) w8 (by omega) (by omega) (by omega) fun o9 l9 H9 w9 s9=>?_
     have hb9:=s9.box w8.here.own hb8 hbw
     simp(disch:=first|omega|assumption) only[zo,zg,zf,zn,zh,ze,zu,hb9,go_sem]
     refine zi (args:=[.agg [.str tn,.int .i64 tl,.int .i64 tm]]) (show WC _ [.agg [.str tn,.int .i64 tl,.int .i64 tm]] 20 (-1000) 1000 (fun _=>yH ⟨tn,tl,tm⟩) (tTy ⟨tn,tl,tm⟩) from zfq ⟨tn,tl,tm⟩ (by simp only[Lim];omega)) w9 (by omega) (by omega) (by omega) fun oC lC HC wC sC=>?_
     have hbC:=sC.box w9.here.own hb9 hbw
     simp(disch:=first|omega|assumption) only[zo,zg,zf,zn,zh,ze,zu,hbC,go_sem]
     refine zi (zaD vh vd hwvd (by simp only[Lim];omega)) wC (by omega) (by omega) (by omega) fun oD lD HD wD sD=>?_
     simp(disch:=first|omega|assumption) only[wrap64,go_sem]
     exact goJ (hJ5 (oD,lD) HD (wD.cast (by rw[zbD];omega) (by simp[ZK,y9]) (by simp[tW]))) (by simp(disch:=first|omega|assumption) only[go_sem])
 ·simp(disch:=first|omega|assumption) only[ir71,eo,hk0,hk1,go_sem]
  refine zi (Zl false) w0 (by omega) (by omega) (by omega) fun o2 l2 H2 w2 _=>?_
  by_cases hnm:nm=[]
  case pos =>
   have w3:=(w2.castC (B':=2) (r':=R3) (tk':=T3) (by omega) (by rw[hR3];simp[hk0,hk1,hnm,nq,nmu]) (fun e=>by first|(rw[hT3];simp[hk0,hk1,hnm];done)|(exfalso;revert e;rw[hR3];simp[hk0,hk1])))
   by_cases hv0:vars.length=0
   case pos =>
    have hv1:¬ ((0:Int)<(vars.length:Int)):=by omega
    have hev:=List.length_eq_zero_iff.1 hv0
    simp(disch:=first|omega|assumption) only[hnm,hcw,hv1,go_sem]
    refine zi (yv true dirs hwd (by simp only[Lim];omega)) w3 (by omega) (by omega) (by omega) fun oA lA HA wA _=>?_
    simp(disch:=first|omega|assumption) only[go_sem]
    refine zi (yt (YR (bSs sels)) sels (Al4 _) hws (by simp only[Lim];omega)) wA (by omega) (by omega) (by omega) fun oB lB HB wB _=>?_
    simp(disch:=first|omega|assumption) only[go_sem]
    exact hQ _ _ HB HB [] nofun rfl (Low.refl _) ⟨rfl,wB.fin (by show _=yq dp _;rw[er];simp[hev,y9]) (fun e=>by rw[et (by have e:yq dp _=true:=e;rw[er] at e;simp only[Al0] at e;exact e.1)];simp[tWs,hv0]) (by simp only[bO];omega)⟩
   case neg =>
    have hev:=hv0
    have hv1:((0:Int)<(vars.length:Int))=True:=eq_true (by omega)
    simp(disch:=first|omega|assumption) only[hnm,hcw,hv1,go_sem]
    refine zi (yp [40] _) w3 (by omega) (by omega) (by omega) fun o4 l4 H4 w4 _=>?_
    simp(disch:=first|omega|assumption) only[hcw,go_sem]
    refine zx vars 35 (fun x:Own×List Tok=>[]) (fun done rest x H'=>WR H o w l ok dp (3+32*bWs done) (R3&&done.all (ZK dp)) (T3++(pk [40]::done.flatMap tW)) H' x.1 x.2) (o4,l4) (by simp(disch:=first|omega|assumption) only[go_sem]) (w4.cast (by omega) (by simp) (by simp)) ?_ ?_
    case refine_1 =>
     rintro⟨o5,l5⟩ H5 J5 w5 hlt
     simp only at w5
     simp(disch:=first|omega|assumption) only[hcw,hlt,go_sem]
     refine zi (yp [41] _) w5 (by omega) (by omega) (by omega) fun o6 l6 H6 w6 _=>?_
     simp(disch:=first|omega|assumption) only[go_sem]
     refine zi (yv true dirs hwd (by simp only[Lim];omega)) w6 (by omega) (by omega) (by omega) fun oA lA HA wA _=>?_
     simp(disch:=first|omega|assumption) only[go_sem]
     refine zi (yt (YR (bSs sels)) sels (Al4 _) hws (by simp only[Lim];omega)) wA (by omega) (by omega) (by omega) fun oB lB HB wB _=>?_
     simp(disch:=first|omega|assumption) only[go_sem]
     exact hQ _ _ HB HB [] nofun rfl (Low.refl _) ⟨rfl,wB.fin (by show _=yq dp _;rw[er];simp[hev,y9]) (fun e=>by rw[et (by have e:yq dp _=true:=e;rw[er] at e;simp only[Al0] at e;exact e.1)];simp[tWs,hv0]) (by simp only[bO];omega)⟩
    case refine_2 =>
     rintro done x rest ⟨o5,l5⟩ H5 J5 hd hlt hlt2 w5 hJ5
     simp only at w5
     have hg:=zat hd
     have hbm:=zba done x rest
     rw[← hd] at hbm
     have hwx:=hwv x (by rw[hd];simp)
     obtain⟨vn,⟨tn,tl,tm⟩,vh,vd⟩:=x
     have hwvd:wfV vd:=hwx.2.2
     have hvp:=YO vd
     have hbx:bW ⟨vn,⟨tn,tl,tm⟩,vh,vd⟩=vn.length+tn.length+bV vd:=rfl
     rw[zcV] at hg
     simp only at hg
     simp(disch:=first|omega|assumption) only[zo,zg,zf,zn,zh,ze,zu,hcw,hlt,hg,go_sem]
     refine zl fun b hb=>?_
     have hbw:b≠w:=fun e=>by subst e;rw[w5.here.cell] at hb;cases hb
     have w6:=w5.alloc (x:=.cells (.str vn::.str tn::.int .i64 tl::.int .i64 tm::.bool vh::cV vd)) hb
     have hbc:(H5.upd b (.cells (.str vn::.str tn::.int .i64 tl::.int .i64 tm::.bool vh::cV vd))) b=some (.cells (.str vn::.str tn::.int .i64 tl::.int .i64 tm::.bool vh::cV vd)):=upd_same ..
     simp(disch:=first|omega|assumption) only[zo,zg,zf,zn,zh,ze,zu,go_sem]
     refine zi (yp [36] _) w6 (by omega) (by omega) (by omega) fun o7 l7 H7 w7 s7=>?_
     have hb7:=s7.box w6.here.own hbc hbw
     simp(disch:=first|omega|assumption) only[zo,zg,zf,zn,zh,ze,zu,hb7,go_sem]
     refine zi (yh vn (by simp only[Lim];omega)) w7 (by omega) (by omega) (by omega) fun o8 l8 H8 w8 s8=>?_
     have hb8:=s8.box w7.here.own hb7 hbw
     simp(disch:=first|omega|assumption) only[zo,zg,zf,zn,zh,ze,zu,hb8,go_sem]
     refine zi (yp [58] _) w8 (by omega) (by omega) (by omega) fun o9 l9 H9 w9 s9=>?_
     have hb9:=s9.box w8.here.own hb8 hbw
     simp(disch:=first|omega|assumption) only[zo,zg,zf,zn,zh,ze,zu,hb9,go_sem]
     refine zi (args:=[.agg [.str tn,.int .i64 tl,.int .i64 tm]]) (show WC _ [.agg [.str tn,.int .i64 tl,.int .i64 tm]] 20 (-1000) 1000 (fun _=>yH ⟨tn,tl,tm⟩) (tTy ⟨tn,tl,tm⟩) from zfq ⟨tn,tl,tm⟩ (by simp only[Lim];omega)) w9 (by omega) (by omega) (by omega) fun oC lC HC wC sC=>?_
     have hbC:=sC.box w9.here.own hb9 hbw
     simp(disch:=first|omega|assumption) only[zo,zg,zf,zn,zh,ze,zu,hbC,go_sem]
     refine zi (zaD vh vd hwvd (by simp only[Lim];omega)) wC (by omega) (by omega) (by omega) fun oD lD HD wD sD=>?_
     simp(disch:=first|omega|assumption) only[wrap64,go_sem]
     exact goJ (hJ5 (oD,lD) HD (wD.cast (by rw[zbD];omega) (by simp[ZK,y9]) (by simp[tW]))) (by simp(disch:=first|omega|assumption) only[go_sem])
  case neg =>
   simp(disch:=first|omega|assumption) only[hnm,go_sem]
   refine zi (yh nm (by simp only[Lim];omega)) w2 (by omega) (by omega) (by omega) fun o3 l3 H3 w3' _=>?_
   have w3:=(w3'.castC (B':=2) (r':=R3) (tk':=T3) (by omega) (by rw[hR3];simp[hk0,hk1,hnm,nq,nmu]) (fun e=>by first|(rw[hT3];simp[hk0,hk1,hnm];done)|(exfalso;revert e;rw[hR3];simp[hk0,hk1])))
   by_cases hv0:vars.length=0
   case pos =>
    have hv1:¬ ((0:Int)<(vars.length:Int)):=by omega
    have hev:=List.length_eq_zero_iff.1 hv0
    simp(disch:=first|omega|assumption) only[hnm,hcw,hv1,go_sem]
    refine zi (yv true dirs hwd (by simp only[Lim];omega)) w3 (by omega) (by omega) (by omega) fun oA lA HA wA _=>?_
    simp(disch:=first|omega|assumption) only[go_sem]
    refine zi (yt (YR (bSs sels)) sels (Al4 _) hws (by simp only[Lim];omega)) wA (by omega) (by omega) (by omega) fun oB lB HB wB _=>?_
    simp(disch:=first|omega|assumption) only[go_sem]
    exact hQ _ _ HB HB [] nofun rfl (Low.refl _) ⟨rfl,wB.fin (by show _=yq dp _;rw[er];simp[hev,y9]) (fun e=>by rw[et (by have e:yq dp _=true:=e;rw[er] at e;simp only[Al0] at e;exact e.1)];simp[tWs,hv0]) (by simp only[bO];omega)⟩
   case neg =>
    have hev:=hv0
    have hv1:((0:Int)<(vars.length:Int))=True:=eq_true (by omega)
    simp(disch:=first|omega|assumption) only[hnm,hcw,hv1,go_sem]
    refine zi (yp [40] _) w3 (by omega) (by omega) (by omega) fun o4 l4 H4 w4 _=>?_
    simp(disch:=first|omega|assumption) only[hcw,go_sem]
    refine zx vars 35 (fun x:Own×List Tok=>[]) (fun done rest x H'=>WR H o w l ok dp (3+32*bWs done) (R3&&done.all (ZK dp)) (T3++(pk [40]::done.flatMap tW)) H' x.1 x.2) (o4,l4) (by simp(disch:=first|omega|assumption) only[go_sem]) (w4.cast (by omega) (by simp) (by simp)) ?_ ?_
    case refine_1 =>
     rintro⟨o5,l5⟩ H5 J5 w5 hlt
     simp only at w5
     simp(disch:=first|omega|assumption) only[hcw,hlt,go_sem]
     refine zi (yp [41] _) w5 (by omega) (by omega) (by omega) fun o6 l6 H6 w6 _=>?_
     simp(disch:=first|omega|assumption) only[go_sem]
     refine zi (yv true dirs hwd (by simp only[Lim];omega)) w6 (by omega) (by omega) (by omega) fun oA lA HA wA _=>?_
     simp(disch:=first|omega|assumption) only[go_sem]
     refine zi (yt (YR (bSs sels)) sels (Al4 _) hws (by simp only[Lim];omega)) wA (by omega) (by omega) (by omega) fun oB lB HB wB _=>?_
     simp(disch:=first|omega|assumption) only[go_sem]
     exact hQ _ _ HB HB [] nofun rfl (Low.refl _) ⟨rfl,wB.fin (by show _=yq dp _;rw[er];simp[hev,y9]) (fun e=>by rw[et (by have e:yq dp _=true:=e;rw[er] at e;simp only[Al0] at e;exact e.1)];simp[tWs,hv0]) (by simp only[bO];omega)⟩
    case refine_2 =>
     rintro done x rest ⟨o5,l5⟩ H5 J5 hd hlt hlt2 w5 hJ5
     simp only at w5
     have hg:=zat hd
     have hbm:=zba done x rest
     rw[← hd] at hbm
     have hwx:=hwv x (by rw[hd];simp)
     obtain⟨vn,⟨tn,tl,tm⟩,vh,vd⟩:=x
     have hwvd:wfV vd:=hwx.2.2
     have hvp:=YO vd
     have hbx:bW ⟨vn,⟨tn,tl,tm⟩,vh,vd⟩=vn.length+tn.length+bV vd:=rfl
     rw[zcV] at hg
     simp only at hg
     simp(disch:=first|omega|assumption) only[zo,zg,zf,zn,zh,ze,zu,hcw,hlt,hg,go_sem]
     refine zl fun b hb=>?_
     have hbw:b≠w:=fun e=>by subst e;rw[w5.here.cell] at hb;cases hb
     have w6:=w5.alloc (x:=.cells (.str vn::.str tn::.int .i64 tl::.int .i64 tm::.bool vh::cV vd)) hb
     have hbc:(H5.upd b (.cells (.str vn::.str tn::.int .i64 tl::.int .i64 tm::.bool vh::cV vd))) b=some (.cells (.str vn::.str tn::.int .i64 tl::.int .i64 tm::.bool vh::cV vd)):=upd_same ..
     simp(disch:=first|omega|assumption) only[zo,zg,zf,zn,zh,ze,zu,go_sem]
     refine zi (yp [36] _) w6 (by omega) (by omega) (by omega) fun o7 l7 H7 w7 s7=>?_
     have hb7:=s7.box w6.here.own hbc hbw
     simp(disch:=first|omega|assumption) only[zo,zg,zf,zn,zh,ze,zu,hb7,go_sem]
     refine zi (yh vn (by simp only[Lim];omega)) w7 (by omega) (by omega) (by omega) fun o8 l8 H8 w8 s8=>?_
     have hb8:=s8.box w7.here.own hb7 hbw
     simp(disch:=first|omega|assumption) only[zo,zg,zf,zn,zh,ze,zu,hb8,go_sem]
     refine zi (yp [58] _) w8 (by omega) (by omega) (by omega) fun o9 l9 H9 w9 s9=>?_
     have hb9:=s9.box w8.here.own hb8 hbw
     simp(disch:=first|omega|assumption) only[zo,zg,zf,zn,zh,ze,zu,hb9,go_sem]
     refine zi (args:=[.agg [.str tn,.int .i64 tl,.int .i64 tm]]) (show WC _ [.agg [.str tn,.int .i64 tl,.int .i64 tm]] 20 (-1000) 1000 (fun _=>yH ⟨tn,tl,tm⟩) (tTy ⟨tn,tl,tm⟩) from zfq ⟨tn,tl,tm⟩ (by simp only[Lim];omega)) w9 (by omega) (by omega) (by omega) fun oC lC HC wC sC=>?_
     have hbC:=sC.box w9.here.own hb9 hbw
     simp(disch:=first|omega|assumption) only[zo,zg,zf,zn,zh,ze,zu,hbC,go_sem]
     refine zi (zaD vh vd hwvd (by simp only[Lim];omega)) wC (by omega) (by omega) (by omega) fun oD lD HD wD sD=>?_
     simp(disch:=first|omega|assumption) only[wrap64,go_sem]
     exact goJ (hJ5 (oD,lD) HD (wD.cast (by rw[zbD];omega) (by simp[ZK,y9]) (by simp[tW]))) (by simp(disch:=first|omega|assumption) only[go_sem])
theorem zov (x:OpD):yq 0 x=Yv x:=rfl
theorem zoH (l:List OpD) (o:OpD):bOs (l++[o])=bOs l+bO o:=by simp[bOs]
theorem zoy (l:List FragD) (o:FragD):bFs (l++[o])=bFs l+bF o:=by simp[bFs]
noncomputable def za3 (d:DocD):List Tok:=if y7 d then zay d else []
theorem zll (d:DocD) (hw:zcl d) (hb:64*zcw d+64≤Lim):zq Tryz.prog 27 [.agg (zaj d)] (.tup [.sl .no 2 (cKs (za3 d)),.bool (y7 d)]):=by
 refine zq.go ir27 ck27 (Al4 _) fun KP Q hQ=>?_
 obtain⟨ops,frags⟩:=d
 obtain⟨hwo,hwf⟩:=hw
 have hlo:=zjm ops
 have hlf:=zjE frags
 have hco:=zem ops
 have hcf:=zel frags
 have hb':=hb
 simp only[zcw,Lim] at hb'
 have ed:zaj ⟨ops,frags⟩=[.sl .no 5 (cOs ops),.sl .no 4 (cFs frags)]:=rfl
 obtain⟨n,hn⟩:∃ n,n=decide (0<ops.length+frags.length):=⟨_,rfl⟩
 simp(disch:=first|omega|assumption) only[ir27,ed,go_sem]
 refine zI zvF fun v H1 ⟨w,hv,hW⟩=>?_
 subst hv
 have w0:=WR.refl hW
 have wl:IntKind.wrap .i64 ((ops.length:Int)+(frags.length:Int))=((ops.length+frags.length:Nat):Int):=by rw[wrap64 (by omega) (by omega)];omega
 by_cases hn0:0<ops.length+frags.length
 case' pos =>
  have hn1:((0:Int)<((ops.length+frags.length:Nat):Int))=True:=eq_true (by omega)
  have hnv:n=true:=by rw[hn];exact decide_eq_true hn0
  simp(disch:=first|omega|assumption) only[hco,hcf,wl,hn1,go_sem]
 case' neg =>
  have hn1:¬ ((0:Int)<((ops.length+frags.length:Nat):Int)):=by omega
  have hnv:n=false:=by rw[hn];exact decide_eq_false hn0
  simp(disch:=first|omega|assumption) only[hco,hcf,wl,hn1,go_sem]
 all_goals
  refine zi (Zl _) w0 (by omega) (by omega) (by simp only[Lim,Al3];omega) fun o2 l2 H2 w2 _=>?_
  simp(disch:=first|omega|assumption) only[hco,go_sem]
  refine zx ops 23 (fun x:Own×List Tok=>[]) (fun done rest x H'=>WR H1 .nil w [] true 0 (64*bOs done) (n&&done.all Yv) (done.flatMap tO) H' x.1 x.2) (o2,l2) (by simp(disch:=first|omega|assumption) only[go_sem]) (w2.cast (by simp) (by simp[hnv]) (by simp)) ?_ ?_
  ·rintro⟨o3,l3⟩ H3 J3 w3 hlt
   simp only at w3
   simp(disch:=first|omega|assumption) only[hco,hlt,hcf,go_sem]
   refine zx frags 34 (fun x:Own×List Tok=>[]) (fun done rest x H'=>WR H1 .nil w [] true 0 (64*bOs ops+32*bFs done) (n&&(ops.all Yv&&done.all zbX)) (ops.flatMap tO++done.flatMap tF) H' x.1 x.2) (o3,l3) (by simp(disch:=first|omega|assumption) only[go_sem]) (w3.cast (by simp[bFs]) (by simp) (by simp)) ?_ ?_
   ·rintro⟨o4,l4⟩ H4 J4 w4 hlt4
    simp only at w4
    have er:y7 ⟨ops,frags⟩=(n&&(ops.all Yv&&frags.all zbX)):=by rw[hn];rfl
    have hc4:=w4.here.cell
    have e4:=w4.eq
    rw[← er,Bool.true_and] at hc4 e4
    cases hr:y7 ⟨ops,frags⟩ with
    | false =>
     rw[hr] at hc4 hQ
     simp(disch:=first|omega|assumption) only[hcf,hlt4,hc4,go_sem]
     exact hQ _ _ _ _ nofun rfl (by simp[zc,zd,AV.strip,AV.strip1,za3,hr,cKs])
    | true =>
     rw[hr] at hc4 hQ
     have e5:=e4 hr
     rw[Zy] at e5
     subst e5
     simp(disch:=first|omega|assumption) only[hcf,hlt4,hc4,go_sem]
     exact hQ _ _ _ _ nofun rfl (by simp[zc,zd,AV.strip,AV.strip1,za3,hr,zay])
   ·rintro done x rest ⟨o4,l4⟩ H4 J4 hd hlt4 hlt5 w4 hJ4
    simp only at w4
    have hg:=zge hd
    have hbm:=zjW done x rest
    rw[← hd] at hbm
    have hwx:=hwf x (by rw[hd];simp)
    have hbx:32*bF x≤Lim:=by simp only[Lim];omega
    have hfw:=ztP x hwx hbx
    obtain⟨nm,on,dirs,sels⟩:=x
    have ef:cF ⟨nm,on,dirs,sels⟩=[.str nm,.str on,.sl .no 2 (cDs dirs),.sl .no 7 (cSs sels)]:=rfl
    rw[ef] at hg hfw
    simp(disch:=first|omega|assumption) only[hcf,hlt4,hg,go_sem]
    refine zl fun b hb=>?_
    have w5:=w4.alloc (x:=.cells [.str nm,.str on,.sl .no 2 (cDs dirs),.sl .no 7 (cSs sels)]) hb
    simp(disch:=first|omega|assumption) only[go_sem]
    refine zi hfw w5 (by omega) (by omega) (by simp only[Lim,Al3];omega) fun o6 l6 H6 w6 _=>?_
    simp(disch:=first|omega|assumption) only[wrap64,go_sem]
    exact goJ (hJ4 (o6,l6) H6 (w6.cast (by rw[zoy];omega) (by simp[zbX,y9]) (by simp))) (by simp(disch:=first|omega|assumption) only[go_sem])
  ·rintro done x rest ⟨o4,l4⟩ H4 J4 hd hlt4 hlt5 w4 hJ4
   simp only at w4
   have hg:=zgh hd
   have hbm:=zjg done x rest
   rw[← hd] at hbm
   have hwx:=hwo x (by rw[hd];simp)
   have hbx:64*bO x≤Lim:=by simp only[Lim];omega
   have hfw:=zvy x hwx hbx
   have hrO:=zov x
   obtain⟨k,nm,vars,dirs,sels⟩:=x
   have ef:cO ⟨k,nm,vars,dirs,sels⟩=[.int .i64 k,.str nm,.sl .no 10 (cWs vars),.sl .no 2 (cDs dirs),.sl .no 7 (cSs sels)]:=rfl
   rw[ef] at hg hfw
   simp(disch:=first|omega|assumption) only[hco,hlt4,hg,go_sem]
   refine zl fun b hb=>?_
   have w5:=w4.alloc (x:=.cells [.int .i64 k,.str nm,.sl .no 10 (cWs vars),.sl .no 2 (cDs dirs),.sl .no 7 (cSs sels)]) hb
   simp(disch:=first|omega|assumption) only[go_sem]
   refine zi hfw w5 (by omega) (by omega) (by simp only[Lim,Al3];omega) fun o6 l6 H6 w6 _=>?_
   simp(disch:=first|omega|assumption) only[wrap64,go_sem]
   exact goJ (hJ4 (o6,l6) H6 (w6.cast (by rw[zoH];omega) (by rw[hrO];simp[y9]) (by simp))) (by simp(disch:=first|omega|assumption) only[go_sem])
theorem zns (d:DocD) (hw:zcl d) (hb:64*zcw d+64≤Lim):zq Tryz.prog 30 [.agg (zaj d)] (.bool (y7 d)):=by
 refine zq.go ir30 ck30 (Al4 _) fun KP Q hQ=>?_
 have ed:zaj d=[.sl .no 5 (cOs d.ops),.sl .no 4 (cFs d.frags)]:=rfl
 have hT:=zll d hw hb
 rw[ed] at hT ⊢
 simp(disch:=first|omega|assumption) only[ir30,go_sem]
 refine zb hT ?_
 simp(disch:=first|omega|assumption) only[go_sem]
 exact hQ _ _ _ _ nofun rfl (by simp[zc,zd,AV.strip,AV.strip1])
noncomputable def Z8 (d:DocD):List UInt8×Bool:=if y7 d&&((ZO (zay d)).2&&decide ((ZO (zay d)).1.length≤8192)) then ((ZO (zay d)).1,true) else ([],false)
theorem ZP (a b:List Tok):wT (a++b)=wT a+wT b:=by simp[wT]
theorem zdH (s:List UInt8):wK (pk s)=s.length+4:=rfl
theorem zgx (s:List UInt8):wK (wk s)=s.length+4:=rfl
theorem zdP:wT []=0:=rfl
mutual
theorem zpQ:∀ v,wfV v→wT (yG v)+16≤64*bV v
 | .mk k n s l m,⟨hn,hl,hm⟩=>by
  have h1:=zqs l hl
  have h2:=zl1 m hm
  have h3:(Lib.itoa n).length≤21:=by
   have e:∀ u:Nat,u<18446744073709551616→(Lib.decDigits u).length≤20:=fun u hu=>by
    rw[Lib.decDigits_length];exact Lib.nDigits_le20 u hu
   unfold Lib.itoa;split
   ·have:=e n.natAbs (by have:=hn.1;omega)
    simp;omega
   ·have:=e n.toNat (by have:=hn.2;omega)
    omega
  have h4:(boolT (decide (n=1))).length≤5:=by unfold boolT;split<;>simp
  simp only[yG,bV]
  repeat' split
  all_goals simp only[yS,ZP,zdP,wK,Al2,Al3]
  all_goals omega
theorem zqs:∀ l,zlg l→wT (YH l)≤64*bVs l
 | [],_=>by simp[YH,wT]
 | v::r,⟨h,hr⟩=>by
  have h1:=zpQ v h
  have h2:=zqs r hr
  simp only[YH,bVs,ZP];omega
theorem zuj:∀ x,wfM x→wT (zca x)≤64*bM x
 | .mk s v,h=>by
  have h1:=zpQ v h
  simp only[zca,bM,yS,wK,Al2,Al3];omega
theorem zl1:∀ l,zdT l→wT (ZA l)≤64*bMs l
 | [],_=>by simp[ZA,wT]
 | v::r,⟨h,hr⟩=>by
  have h1:=zuj v h
  have h2:=zl1 r hr
  simp only[ZA,bMs,ZP];omega
end
theorem zkC (l:List Mem) (h:zdT l):wT (ZV l)≤74*bMs l:=by
 have h1:=zl1 l h
 have h2:=Z9 l
 unfold ZV
 split
 ·simp[wT]
 ·simp only[yS,ZP,zdP,zdH,Al2,Al3];omega
theorem zc3 {α:Type} {f:α→List Tok} {g:α→Nat} {c:Nat}:∀ l:List α,(∀ x∈l,wT (f x)≤c*g x)→wT (l.flatMap f)≤c*(l.map g).sum
 | [],_=>by simp[wT]
 | x::r,h=>by
  have h1:=h x (by simp)
  have h2:=zc3 r fun y hy=>h y (by simp[hy])
  simp only[List.flatMap_cons,ZP,List.map_cons,List.sum_cons,Nat.mul_add];omega
theorem zuU (d:DirD) (h:wfD d):wT (tD d)≤80*bD d:=by
 have h1:=zkC d.args h
 simp only[tD,bD,yS,zdH,zgx,Al2,Al3];omega
theorem zmd (l:List DirD) (h:zjH l):wT (tDs l)≤80*bDs l:=zc3 l fun x hx=>zuU x (h x hx)
mutual
theorem zuJ:∀ x,wfS x→wT (tS x)≤80*bS x
 | .mk k al nm args dirs on sels,⟨h1,h2,h3⟩=>by
  have g1:=zkC args h1
  have g2:=zmd dirs h2
  have g3:=zmA sels h3
  simp only[tS,bS,ZP]
  have g4:wT (if sels.length=0 then [] else pk [123]::(tSl sels++[pk [125]]))≤10+wT (tSl sels):=by
   split
   ·simp[wT]
   ·simp only[yS,ZP,zdP,zdH,Al2,Al3];omega
  have g5:wT (if k=0 then (if al=[] then [] else [wk al,pk [58]])++(wk nm::ZV args) else if k=1 then [pk [46,46,46],wk nm] else pk [46,46,46]::(if on=[] then [] else [wk [111,110],wk on]))≤24+al.length+nm.length+on.length+wT (ZV args):=by
   repeat' split
   all_goals simp only[yS,ZP,zdP,zdH,zgx,Al2,Al3]
   all_goals omega
  omega
theorem zmA:∀ l,zbv l→wT (tSl l)≤80*bSs l
 | [],_=>by simp[tSl,wT]
 | x::r,⟨h,hr⟩=>by
  have h1:=zuJ x h
  have h2:=zmA r hr
  simp only[tSl,bSs,ZP];omega
end
theorem znN (n:Nat) (m:Int):∀ j,wT (zbG n m j)≤10*j
 | 0=>by simp[zbG,wT]
 | j+1=>by
  have h:=znN n m j
  have h2:wT (zdV n m j)≤10:=by
   unfold zdV
   repeat' split
   all_goals simp[wT,zdH]
  simp only[zbG,ZP];omega
theorem zud (t:TyD) (h:yH t=true):wT (tTy t)≤80+t.nm.length:=by
 simp only[yH,Al0,decide_eq_true_eq] at h
 obtain⟨_,h1,h2,_,_⟩:=h
 have h3:=znN t.lists.toNat t.musts (t.lists.toNat+1)
 have h4:∀ n,wT (List.replicate n (pk [91]))=5*n:=fun n=>by
  induction n with
  | zero=>rfl
  | succ n ih=>rw[List.replicate_succ,yS,ih,zdH];simp;omega
 simp only[tTy,ZP,yS,zgx,h4,ze7]
 omega
theorem zuv (x:VarD) (hr:zfn x=true) (hw:wfW x):wT (tW x)≤240*bW x:=by
 simp only[zfn,Al0] at hr
 have h1:=zud x.t hr.2.1
 have h2:=zpQ x.d hw.2.2
 have h3:=YO x.d
 have h4:wT (tDf x.has x.d)≤5+wT (yG x.d):=by
  unfold tDf
  split
  ·simp only[yS,zdH,Al2,Al3];omega
  ·simp[wT]
 simp only[tW,bW,yS,ZP,zdH,zgx,Al2,Al3]
 omega
theorem zpU (l:List SelD) (h:zbv l):wT (tBl l)≤80*bSs l+10:=by
 have:=zmA l h
 simp only[tBl,yS,ZP,zdP,zdH,Al2,Al3];omega
theorem zuG (x:OpD) (hr:Yv x=true) (hw:wfO x):wT (tO x)≤256*bO x:=by
 obtain⟨h1,h2,h3⟩:=hw
 simp only[Yv,Al0] at hr
 have g1:wT (x.vars.flatMap tW)≤240*bWs x.vars:=zc3 _ fun y hy=>zuv y (List.all_eq_true.1 hr.2.2.1 y hy) (h1 y hy)
 have g2:=zmd x.dirs h2
 have g3:=zpU x.sels h3
 have g4:wT (tWs x.vars)≤240*bWs x.vars+10:=by
  unfold tWs
  split
  ·simp[wT]
  ·simp only[yS,ZP,zdP,zdH,Al2,Al3];omega
 have g5:wT (if x.nm=[] then [] else [wk x.nm])≤x.nm.length+4:=by
  split
  ·simp[wT]
  ·simp only[yS,zdP,zgx];omega
 have g6:wK (wk (if x.k=0 then [113,117,101,114,121] else [109,117,116,97,116,105,111,110]))≤12:=by rw[zgx];split<;>simp
 simp only[tO,bO,yS,ZP]
 omega
theorem zvf (x:FragD) (hw:wfF x):wT (tF x)≤256*bF x:=by
 have g2:=zmd x.dirs hw.1
 have g3:=zpU x.sels hw.2
 simp only[tF,bF,yS,ZP,zgx,Al2,Al3]
 omega
theorem zrV (d:DocD) (hr:y7 d=true) (hw:zcl d):wT (zay d)≤256*zcw d:=by
 simp only[y7,Al0] at hr
 have g1:wT (d.ops.flatMap tO)≤256*bOs d.ops:=zc3 _ fun y hy=>zuG y (List.all_eq_true.1 hr.2.1 y hy) (hw.1 y hy)
 have g2:wT (d.frags.flatMap tF)≤256*bFs d.frags:=zc3 _ fun y hy=>zvf y (hw.2 y hy)
 simp only[zay,zcw,ZP]
 omega
theorem zp7 (d:DocD) (hw:zcl d):wT (za3 d)≤256*zcw d:=by
 unfold za3
 split
 ·rename_i h;exact zrV d h hw
 ·simp[wT]
theorem zpB (d:DocD) (hw:zcl d) (hb:16384*zcw d+64≤Lim):zq Tryz.prog 32 [.agg (zaj d)] (.tup [.str (Z8 d).1,.bool (Z8 d).2]):=by
 refine zq.go ir32 ck32 (Al4 _) fun KP Q hQ=>?_
 have ed:zaj d=[.sl .no 5 (cOs d.ops),.sl .no 4 (cFs d.frags)]:=rfl
 have hT:=zll d hw (by simp only[Lim] at hb ⊢;omega)
 have hwt:=zp7 d hw
 have hp:=zrh (za3 d) (by simp only[Lim] at hb ⊢;omega)
 rw[ed] at hT ⊢
 simp(disch:=first|omega|assumption) only[ir32,go_sem]
 refine zb hT ?_
 simp(disch:=first|omega|assumption) only[go_sem]
 refine zb hp ?_
 cases hr:y7 d with
 | false =>
  simp(disch:=first|omega|assumption) only[go_sem]
  exact hQ _ _ _ _ nofun rfl (by simp[zc,zd,AV.strip,AV.strip1,Z8,hr])
 | true =>
  have e:za3 d=zay d:=by unfold za3;rw[if_pos hr]
  rw[e]
  cases h2:(ZO (zay d)).2 with
  | false =>
   simp(disch:=first|omega|assumption) only[go_sem]
   exact hQ _ _ _ _ nofun rfl (by simp[zc,zd,AV.strip,AV.strip1,Z8,hr,h2])
  | true =>
   by_cases hl:(ZO (zay d)).1.length≤8192
   ·have hl':¬ ((8192:Int)<((ZO (zay d)).1.length:Int)):=by omega
    simp(disch:=first|omega|assumption) only[hl',go_sem]
    exact hQ _ _ _ _ nofun rfl (by simp[zc,zd,AV.strip,AV.strip1,Z8,hr,h2,hl])
   ·have hl':((8192:Int)<((ZO (zay d)).1.length:Int))=True:=eq_true (by omega)
    simp(disch:=first|omega|assumption) only[hl',go_sem]
    exact hQ _ _ _ _ nofun rfl (by simp[zc,zd,AV.strip,AV.strip1,Z8,hr,h2,hl])
def zaQ:DocD:=⟨[⟨0,[],[],[],[.mk 0 [] [97] [] [] [] [],.mk 0 [98] [99] [] [] [] []]⟩],[]⟩
def zk8:DocD:=⟨[],[]⟩
theorem zrx:ym [97]=true:=by decide
theorem zrl:ym [98]=true:=by decide
theorem zqZ:ym [99]=true:=by decide
theorem zfH:y7 zaQ=true:=by
 simp[y7,zaQ,Yv,yZ,yc,yE,ye,YY,zrx,zrl,zqZ]
theorem zmj:y7 zk8=false:=by
 simp[y7,zk8]
theorem zml:zay zaQ=[wk [113,117,101,114,121],pk [123],wk [97],wk [98],pk [58],wk [99],pk [125]]:=by simp[zay,zaQ,tO,tWs,tDs,tBl,tSl,tS,ZV]
theorem zl4:ZO [wk [113,117,101,114,121],pk [123],wk [97],wk [98],pk [58],wk [99],pk [125]]=([113,117,101,114,121,32,123,32,97,32,98,32,58,32,99,32,125],true):=by decide
theorem zhI:Z8 zaQ=([113,117,101,114,121,32,123,32,97,32,98,32,58,32,99,32,125],true):=by
 unfold Z8
 rw[zfH,zml,zl4]
 rfl
theorem zg3:zjH []:=fun y hy=>nomatch hy
theorem zkk:zcl zaQ:=by
 refine⟨fun x hx=>?_,fun x hx=>(nomatch hx)⟩
 simp only[zaQ,List.mem_singleton] at hx
 subst hx
 exact⟨fun y hy=>(nomatch hy),zg3,⟨trivial,zg3,trivial⟩,⟨trivial,zg3,trivial⟩,trivial⟩
theorem zrs:zcl zk8:=⟨fun x hx=>(nomatch hx),fun x hx=>(nomatch hx)⟩
theorem zoY:zcw zaQ≤1000:=by decide
theorem zp1:zaj zaQ=[.sl .no 5 [[.int .i64 0,.str [],.sl .no 10 [],.sl .no 2 [],.sl .no 7 [[.int .i64 0,.str [],.str [97],.sl .no 6 [],.sl .no 2 [],.str [],.sl .no 7 []],[.int .i64 0,.str [98],.str [99],.sl .no 6 [],.sl .no 2 [],.str [],.sl .no 7 []]]]],.sl .no 4 []]:=by rfl
theorem zuN:zaj zk8=[.sl .no 5 [],.sl .no 4 []]:=by rfl
theorem zjs:zq Tryz.prog 25 [] (.bool true):=by
 refine zq.go ir25 ck25 (Al4 _) fun KP Q hQ=>?_
 have hT:=zpB zaQ zkk (by have:=zoY;simp only[Lim];omega)
 have hR:=zns zaQ zkk (by have:=zoY;simp only[Lim];omega)
 have hN:=zns zk8 zrs (by decide)
 rw[zhI,zp1] at hT
 rw[zfH,zp1] at hR
 rw[zmj,zuN] at hN
 simp(disch:=first|omega|assumption) only[ir25,go_sem]
 refine zl fun b hb=>?_
 simp(disch:=first|omega|assumption) only[go_sem]
 refine zb (zq.low hT) ?_
 simp(disch:=first|omega|assumption) only[go_sem]
 refine zb (zq.low hR) ?_
 simp(disch:=first|omega|assumption) only[go_sem]
 refine zb (zq.low hN) ?_
 simp(disch:=first|omega|assumption) only[go_sem]
 exact hQ _ _ _ _ nofun rfl (by simp[zc,zd,AV.strip,AV.strip1])
open Go.Lib
def RT (t:TS):Prop:=∀ x∈t,yP x=true
theorem RT.tail {t:TS} (h:RT t):RT t.tail:=fun x hx=>h x (List.mem_of_mem_tail hx)
end Go.Proofs.YticbbfbpeimkbaaGreatDoor
namespace Go.Proofs.YticbbfbpeimkbaaGreatDoor
open Go.Ab
def lD (x:DirD):Nat:=2+x.nm.length+bMs x.args
def lDs (l:List DirD):Nat:=(l.map lD).sum
mutual
def lS:SelD→Nat
 | .mk _ al nm args dirs on sels=>2+nm.length+al.length+on.length+bMs args+lDs dirs+lSs sels
def lSs:List SelD→Nat
 | []=>0
 | x::r=>lS x+lSs r
end
def lW (x:VarD):Nat:=1+bV x.d+x.nm.length
def lWs (l:List VarD):Nat:=(l.map lW).sum
def lO (x:OpD):Nat:=1+lDs x.dirs+lSs x.sels+x.nm.length+lWs x.vars
def lF (x:FragD):Nat:=1+lDs x.dirs+lSs x.sels+x.nm.length
def lOs (l:List OpD):Nat:=(l.map lO).sum
def lFs (l:List FragD):Nat:=(l.map lF).sum
def zjk (d:DocD):Bool:=decide (lOs d.ops+lFs d.frags≤3200)
theorem zg4 {α:Type} {f g:α→Nat} {c:Nat} (h:∀ x,f x≤c*g x):∀ l:List α,(l.map f).sum≤c*(l.map g).sum
 | []=>Nat.zero_le _
 | x::r=>by have:=zg4 h r;have:=h x;simp only[List.map_cons,List.sum_cons,Nat.mul_add];omega
theorem zcQ (l:List DirD):lDs l≤2*bDs l:=zg4 (fun x=>by simp only[lD,bD];omega) l
mutual
theorem zvl:∀ x,lS x≤2*bS x
 | .mk k al nm args dirs on sels=>by
  have h1:=zcQ dirs
  have h2:=zcn sels
  simp only[lS,bS];omega
theorem zcn:∀ l,lSs l≤2*bSs l
 | []=>by simp[lSs]
 | x::r=>by
  have h1:=zvl x
  have h2:=zcn r
  simp only[lSs,bSs];omega
end
theorem zqa (l:List VarD):lWs l≤2*bWs l:=zg4 (fun x=>by have:=YO x.d;simp only[lW,bW];omega) l
theorem zva (x:OpD):lO x≤2*bO x:=by
 have h1:=zcQ x.dirs
 have h2:=zcn x.sels
 have h3:=zqa x.vars
 simp only[lO,bO];omega
theorem zuA (x:FragD):lF x≤2*bF x:=by
 have h1:=zcQ x.dirs
 have h2:=zcn x.sels
 simp only[lF,bF];omega
theorem zta (l:List OpD):lOs l≤2*bOs l:=zg4 zva l
theorem ztE (l:List FragD):lFs l≤2*bFs l:=zg4 zuA l
theorem zdL (l:List DirD) (hb:bDs l≤Lim):zq Tryz.prog 67 [.sl .no 2 (cDs l)] (.int .i64 (lDs l)):=by
 refine zq.go ir67 ck67 (Al4 _) fun KP Q hQ=>?_
 have h1:=zev l
 have hl:=zjR l
 have hle:=zcQ l
 have hb':=hb
 simp only[Lim] at hb'
 simp(disch:=first|omega|assumption) only[ir67,h1,go_sem]
 refine zx l 4 (fun n:Int=>[(3,.int .i64 n)]) (fun done rest n H=>n+lDs rest=lDs l) 0 (by simp(disch:=first|omega|assumption) only[go_sem]) (by simp) ?_ ?_
 ·rintro n H J hn hlt
  simp only[lDs,List.map_nil,List.sum_nil] at hn
  simp(disch:=first|omega|assumption) only[h1,hlt,go_sem]
  have:n=((lDs l:Nat):Int):=by simp only[lDs];omega
  exact hQ _ _ _ _ nofun rfl (by simp[zc,zd,AV.strip,AV.strip1,this])
 ·rintro done x rest n H J hd hlt _ hn hJ
  have hg:=zgi hd
  have hbm:=zjx done x rest
  rw[← hd] at hbm
  obtain⟨nm,args⟩:=x
  simp only[bD] at hbm
  have hn':n+(2+nm.length+bMs args+lDs rest:Nat)=lDs l:=by rw[← hn];simp[lDs,lD]
  have hsz:bV (.mk 0 0 [] [] args)=1+bMs args:=by simp[bV,bVs]
  have hp:(0:Int)≤n:=by
   have:=zcQ rest
   have e:lDs l=lDs done+lDs (⟨nm,args⟩::rest):=by rw[hd];simp[lDs]
   omega
  simp(disch:=first|omega|assumption) only[h1,hlt,hg,cD,wrap64,go_sem]
  refine zb (zq.low (zpF (.mk 0 0 [] [] args) (by rw[hsz];simp only[Lim];omega))) ?_
  rw[hsz]
  simp(disch:=first|omega|assumption) only[h1,hlt,hg,cD,wrap64,go_sem]
  exact goJ (hJ (n+1+nm.length+((1+bMs args:Nat):Int)) _ (by omega)) (by simp(disch:=first|omega|assumption) only[wrap64,go_sem])
theorem zmG:∀ c:Nat,∀ l:List SelD,bSs l≤c→c≤Lim→zq Tryz.prog 35 [.sl .no 7 (cSs l)] (.int .i64 (lSs l)):=by
 intro c
 induction c using Nat.strongRecOn with
 | _ c ih =>
 intro l hb hc
 refine zq.go ir35 ck35 (Al4 _) fun KP Q hQ=>?_
 have h1:=zb7 l
 have hl:=zgd l
 have hle:=zcn l
 have hb':=hc
 simp only[Lim] at hb'
 simp(disch:=first|omega|assumption) only[ir35,h1,go_sem]
 refine zx l 4 (fun n:Int=>[(3,.int .i64 n)]) (fun done rest n H=>n+lSs rest=lSs l∧0≤n) 0 (by simp(disch:=first|omega|assumption) only[go_sem]) (by simp) ?_ ?_
 ·rintro n H J ⟨hn,_⟩ hlt
  simp only[lSs] at hn
  simp(disch:=first|omega|assumption) only[h1,hlt,go_sem]
  have:n=((lSs l:Nat):Int):=by omega
  exact hQ _ _ _ _ nofun rfl (by simp[zc,zd,AV.strip,AV.strip1,this])
 ·rintro done x rest n H J hd hlt _ ⟨hn,hp⟩ hJ
  have hg:=zdu hd
  have hbm:=zeL done x rest
  rw[← hd] at hbm
  obtain⟨k,al,nm,args,dirs,on,sels⟩:=x
  have hdl:=zcQ dirs
  have hsl:=zcn sels
  simp only[bS] at hbm
  rw[Y4] at hg
  simp only[lSs,lS] at hn
  have hsz:bV (.mk 0 0 [] [] args)=1+bMs args:=by simp[bV,bVs]
  simp(disch:=first|omega|assumption) only[h1,hlt,hg,wrap64,go_sem]
  refine zb (zq.low (zpF (.mk 0 0 [] [] args) (by rw[hsz];simp only[Lim];omega))) ?_
  rw[hsz]
  simp(disch:=first|omega|assumption) only[h1,hlt,hg,wrap64,go_sem]
  refine zb (zdL dirs (by simp only[Lim];omega)) ?_
  simp(disch:=first|omega|assumption) only[h1,hlt,hg,wrap64,go_sem]
  refine zb (ih (bSs sels) (by omega) sels (Al4 _) (by omega)) ?_
  simp(disch:=first|omega|assumption) only[h1,hlt,hg,wrap64,go_sem]
  exact goJ (hJ (n+1+nm.length+al.length+on.length+((1+bMs args:Nat):Int)+lDs dirs+lSs sels) _ ⟨by omega,by omega⟩) (by simp(disch:=first|omega|assumption) only[wrap64,go_sem])
theorem zhd (l:List SelD) (hb:bSs l≤Lim):zq Tryz.prog 35 [.sl .no 7 (cSs l)] (.int .i64 (lSs l)):=zmG (bSs l) l (Al4 _) hb
theorem zue (d:DocD) (hb:zcw d≤Lim):zq Tryz.prog 24 [.agg (zaj d)] (.bool (zjk d)):=by
 refine zq.go ir24 ck24 (Al4 _) fun KP Q hQ=>?_
 obtain⟨ops,frags⟩:=d
 simp only[zcw] at hb
 have h1:=zem ops
 have h2:=zel frags
 have hl1:=zjm ops
 have hl2:=zjE frags
 have hle1:=zta ops
 have hle2:=ztE frags
 have hb':=hb
 simp only[Lim] at hb'
 simp(disch:=first|omega|assumption) only[ir24,zaj,go_sem]
 refine zx ops 4 (fun n:Int=>[(3,.int .i64 n)]) (fun done rest n H=>n+lOs rest=lOs ops∧0≤n) 0 (by simp(disch:=first|omega|assumption) only[go_sem]) (by simp) ?_ ?_
 ·rintro n H J ⟨hn,hp⟩ hlt
  simp only[lOs,List.map_nil,List.sum_nil] at hn
  have hn:n=((lOs ops:Nat):Int):=by simp only[lOs];omega
  subst hn
  simp(disch:=first|omega|assumption) only[h1,hlt,go_sem]
  refine zx frags 6 (fun n:Int=>[(3,.int .i64 n)]) (fun done rest n H=>n+lFs rest=(lOs ops+lFs frags:Nat)∧0≤n) (lOs ops:Nat) (by simp(disch:=first|omega|assumption) only[go_sem]) ⟨by omega,by omega⟩ ?_ ?_
  ·rintro n H J ⟨hn,_⟩ hlt
   simp only[lFs,List.map_nil,List.sum_nil] at hn
   have e:decide (n≤3200)=zjk ⟨ops,frags⟩:=by simp only[zjk,lFs];exact decide_eq_decide.2 (by omega)
   simp(disch:=first|omega|assumption) only[h2,hlt,go_sem]
   exact hQ _ _ _ _ nofun rfl (by simp[zc,zd,AV.strip,AV.strip1,e])
  ·rintro done x rest n H J hd hlt _ ⟨hn,hp⟩ hJ
   have hg:=zge hd
   have hbm:=zjW done x rest
   rw[← hd] at hbm
   obtain⟨nm,on,dirs,sels⟩:=x
   simp only[bF] at hbm
   have hdl:=zcQ dirs
   have hsl:=zcn sels
   have hn':n+(1+lDs dirs+lSs sels+nm.length+lFs rest:Nat)=(lOs ops+lFs frags:Nat):=by rw[← hn];simp[lFs,lF]
   simp(disch:=first|omega|assumption) only[h2,hlt,hg,cF,wrap64,go_sem]
   refine zb (zdL dirs (by simp only[Lim];omega)) ?_
   simp(disch:=first|omega|assumption) only[h2,hlt,hg,cF,wrap64,go_sem]
   refine zb (zhd sels (by simp only[Lim];omega)) ?_
   simp(disch:=first|omega|assumption) only[h2,hlt,hg,cF,wrap64,go_sem]
   exact goJ (hJ (n+1+lDs dirs+lSs sels+nm.length) _ ⟨by omega,by omega⟩) (by simp(disch:=first|omega|assumption) only[wrap64,go_sem])
 ·rintro done x rest n H J hd hlt _ ⟨hn,hp⟩ hJ
  have hg:=zgh hd
  have hbm:=zjg done x rest
  rw[← hd] at hbm
  obtain⟨k,nm,vars,dirs,sels⟩:=x
  simp only[bO] at hbm
  have hdl:=zcQ dirs
  have hsl:=zcn sels
  have hwl:=zqa vars
  have h3:=zdk vars
  have h4:=zjc vars
  have hn':n+(1+lDs dirs+lSs sels+nm.length+lWs vars+lOs rest:Nat)=lOs ops:=by rw[← hn];simp[lOs,lO]
  simp(disch:=first|omega|assumption) only[h1,hlt,hg,cO,wrap64,go_sem]
  refine zb (zdL dirs (by simp only[Lim];omega)) ?_
  simp(disch:=first|omega|assumption) only[h1,hlt,hg,cO,wrap64,go_sem]
  refine zb (zhd sels (by simp only[Lim];omega)) ?_
  simp(disch:=first|omega|assumption) only[h1,hlt,hg,cO,wrap64,go_sem]
  refine zx vars 5 (fun n:Int=>[(3,.int .i64 n)]) (fun done' rest' n' H=>n'+lWs rest'=n+1+lDs dirs+lSs sels+nm.length+lWs vars∧0≤n') (n+1+lDs dirs+lSs sels+nm.length) (by simp(disch:=first|omega|assumption) only[go_sem]) ⟨by omega,by omega⟩ ?_ ?_
  ·rintro n2 H J' ⟨hn2,hp2⟩ hlt2
   simp only[lWs,List.map_nil,List.sum_nil] at hn2
   simp(disch:=first|omega|assumption) only[h1,h3,hlt,hg,hlt2,cO,wrap64,go_sem]
   exact goJ (hJ n2 _ ⟨by simp only[lWs] at hn';omega,by omega⟩) (by simp(disch:=first|omega|assumption) only[wrap64,go_sem])
  ·rintro done2 y rest2 n2 H J' hd2 hlt2 _ ⟨hn2,hp2⟩ hJ'
   have hg2:=zat hd2
   have hbm2:=zba done2 y rest2
   rw[← hd2] at hbm2
   obtain⟨vn,⟨tn,tl,tm⟩,vh,⟨dk,dn,ds,dl,dm⟩⟩:=y
   rw[zcV,yY] at hg2
   simp only[bW] at hbm2
   have hn2':n2+(1+bV (.mk dk dn ds dl dm)+vn.length+lWs rest2:Nat)=n+1+lDs dirs+lSs sels+nm.length+lWs vars:=by rw[← hn2];simp[lWs,lW]
   simp(disch:=first|omega|assumption) only[h1,h3,hlt,hg,hg2,hlt2,cO,wrap64,go_sem]
   refine zb (zpF (.mk dk dn ds dl dm) (by simp only[Lim];omega)) ?_
   simp(disch:=first|omega|assumption) only[h1,h3,hlt,hg,hg2,hlt2,cO,wrap64,go_sem]
   exact goJ (hJ' (n2+1+bV (.mk dk dn ds dl dm)+vn.length) _ ⟨by omega,by omega⟩) (by simp(disch:=first|omega|assumption) only[wrap64,go_sem])
theorem zl7 (d:DocD) (hw:zcl d) (hb:zcw d≤1048576):zq Tryz.prog 18 [.agg (zaj d)] (.bool true):=by
 refine zq.go ir18 ck18 (Al4 _) fun KP Q hQ=>?_
 have hbl:zcw d≤Lim:=by simp only[Lim];omega
 have hl:=zue d hbl
 have ht:=zpB d hw (by simp only[Lim];omega)
 simp only[zaj] at hl ht
 simp(disch:=first|omega|assumption) only[ir18,zaj,go_sem]
 refine zb hl ?_
 cases hli:zjk d with
 | false =>
  simp(disch:=first|omega|assumption) only[go_sem]
  refine zb zjs ?_
  simp(disch:=first|omega|assumption) only[go_sem]
  exact hQ _ _ _ _ nofun rfl (by simp[zc,zd,AV.strip,AV.strip1])
 | true =>
  simp(disch:=first|omega|assumption) only[go_sem]
  refine zb ht ?_
  by_cases hr:y7 d=true∧(ZO (zay d)).2=true∧(ZO (zay d)).1.length≤8192
  ·obtain⟨h1,h2,h3⟩:=hr
   have hall:(zay d).all yP=true:=by
    unfold ZO at h2
    split at h2
    ·assumption
    ·cases h2
   have htp:ZO (zay d)=(ZW (zay d),true):=by unfold ZO;rw[if_pos hall]
   have hdt:Z8 d=(ZW (zay d),true):=by unfold Z8;rw[if_pos (by rw[h1,h2];simpa using h3),htp]
   rw[htp] at h3
   have hR:=zmf (zay d) hall h3
   have hD:=zqA d h1 hw
   have he:=zrI hR hD
   rw[hdt]
   simp(disch:=first|omega|assumption) only[go_sem]
   refine zb (zmx (ZW (zay d)) (by simp only[zb8];simp only at h3;omega)) ?_
   rw[he]
   simp(disch:=first|omega|assumption) only[zaj,go_sem]
   refine zl fun b hb=>?_
   have hsd:=zp0 d d hbl
   simp only[zaj] at hsd
   simp(disch:=first|omega|assumption) only[go_sem]
   refine zb (zq.low hsd) ?_
   have hee:eqd d d=true:=by simp[eqd]
   simp(disch:=first|omega|assumption) only[hee,go_sem]
   refine zb zjs ?_
   simp(disch:=first|omega|assumption) only[go_sem]
   exact hQ _ _ _ _ nofun rfl (by simp[zc,zd,AV.strip,AV.strip1])
  ·have hdt:Z8 d=([],false):=by
    unfold Z8
    rw[if_neg]
    intro h
    simp only[Al0,decide_eq_true_eq] at h
    exact hr ⟨h.1,h.2.1,h.2.2⟩
   rw[hdt]
   simp(disch:=first|omega|assumption) only[go_sem]
   refine zb zjs ?_
   simp(disch:=first|omega|assumption) only[go_sem]
   exact hQ _ _ _ _ nofun rfl (by simp[zc,zd,AV.strip,AV.strip1])
end Go.Proofs.YticbbfbpeimkbaaGreatDoor
