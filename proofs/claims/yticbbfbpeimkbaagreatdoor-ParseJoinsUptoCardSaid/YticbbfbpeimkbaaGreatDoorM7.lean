/- Texts joined: Vf Pl Lp Wb Wc Pu Wd We Wf Vr Vd Pr DocL Lp2. -/
import Derived.Test.YticbbfbpeimkbaaGreatDoorM1
import Derived.Test.YticbbfbpeimkbaaGreatDoorM2
import Derived.Test.YticbbfbpeimkbaaGreatDoorM3
import Derived.Test.YticbbfbpeimkbaaGreatDoorM4
import Derived.Test.YticbbfbpeimkbaaGreatDoorM5
import Derived.Test.YticbbfbpeimkbaaGreatDoorM6
set_option maxRecDepth 100000
set_option linter.unusedSimpArgs false
set_option linter.unusedVariables false
namespace Go.Proofs.YticbbfbpeimkbaaGreatDoor
open Go.Ab
theorem sameFragR (a b:FragD) (ha:bF a≤Lim):Pure Tryz.prog 86 [.agg (cF a),.agg (cF b)] (.bool (eqd a b)):=by
 refine Pure.go ir86 ck86 (Nat.le_refl _) fun KP Q hQ=>?_
 obtain ⟨nm,on,dirs,sels⟩:=a
 obtain ⟨nm',on',dirs',sels'⟩:=b
 simp only [bF] at ha
 have ha':=ha
 simp only [Lim] at ha'
 simp (disch:=first|omega|assumption) only [ir86,cF,go_sem,↓reduceIte]
 by_cases e1:nm=nm'
 case neg =>
  have hne:FragD.mk nm on dirs sels≠FragD.mk nm' on' dirs' sels':=by simp [e1]
  simp (disch:=first|omega|assumption) only [e1,go_sem,↓reduceIte]
  exact hQ _ _ _ _ nofun rfl (by simp [tupOf,envOf,AV.strip,AV.strip1,eqd_false hne])
 by_cases e2:on=on'
 case neg =>
  have hne:FragD.mk nm on dirs sels≠FragD.mk nm' on' dirs' sels':=by simp [e2]
  simp (disch:=first|omega|assumption) only [e1,e2,go_sem,↓reduceIte]
  exact hQ _ _ _ _ nofun rfl (by simp [tupOf,envOf,AV.strip,AV.strip1,eqd_false hne])
 simp (disch:=first|omega|assumption) only [e1,e2,go_sem,↓reduceIte]
 refine goK_pure (sameDirsR dirs dirs' (by omega)) ?_
 by_cases e3:dirs=dirs'
 case neg =>
  have hne:FragD.mk nm on dirs sels≠FragD.mk nm' on' dirs' sels':=by simp [e3]
  simp (disch:=first|omega|assumption) only [eqd_false e3,go_sem,↓reduceIte]
  exact hQ _ _ _ _ nofun rfl (by simp [tupOf,envOf,AV.strip,AV.strip1,eqd_false hne])
 simp (disch:=first|omega|assumption) only [eqd_true e3,go_sem,↓reduceIte]
 refine goK_pure (sameSelsR sels sels' (by omega)) ?_
 by_cases e4:sels=sels'
 case neg =>
  have hne:FragD.mk nm on dirs sels≠FragD.mk nm' on' dirs' sels':=by simp [e4]
  simp (disch:=first|omega|assumption) only [eqd_false e4,go_sem,↓reduceIte]
  exact hQ _ _ _ _ nofun rfl (by simp [tupOf,envOf,AV.strip,AV.strip1,eqd_false hne])
 have heq:FragD.mk nm on dirs sels=FragD.mk nm' on' dirs' sels':=by rw [e1,e2,e3,e4]
 simp (disch:=first|omega|assumption) only [eqd_true e4,go_sem,↓reduceIte]
 exact hQ _ _ _ _ nofun rfl (by simp [tupOf,envOf,AV.strip,AV.strip1,eqd_true heq])
theorem sameDocR (a b:DocD) (ha:bDoc a≤Lim):Pure Tryz.prog 34 [.agg (cDoc a),.agg (cDoc b)] (.bool (eqd a b)):=by
 refine Pure.go ir34 ck34 (Nat.le_refl _) fun KP Q hQ=>?_
 obtain ⟨ops,frags⟩:=a
 obtain ⟨ops',frags'⟩:=b
 simp only [bDoc] at ha
 have h1:=cOs_len ops
 have h2:=cOs_len ops'
 have h3:=cFs_len frags
 have h4:=cFs_len frags'
 have hla:=bOs_len ops
 have hlb:=bFs_len frags
 have ha':=ha
 simp only [Lim] at ha'
 have ea:cDoc ⟨ops,frags⟩=[.sl .no 5 (cOs ops),.sl .no 4 (cFs frags)]:=rfl
 have eb:cDoc ⟨ops',frags'⟩=[.sl .no 5 (cOs ops'),.sl .no 4 (cFs frags')]:=rfl
 rw [ea,eb]
 by_cases hl:ops.length=ops'.length
 case neg =>
  have hl':¬ ((ops.length:Int)=ops'.length):=by omega
  have hne:DocD.mk ops frags≠DocD.mk ops' frags':=fun e=>hl (by rw [(DocD.mk.inj e).1])
  simp (disch:=first|omega|assumption) only [ir34,h1,h2,hl',go_sem,↓reduceIte]
  exact hQ _ _ _ _ nofun rfl (by simp [tupOf,envOf,AV.strip,AV.strip1,eqd_false hne])
 have hl':((ops.length:Int)=ops'.length)=True:=eq_true (by omega)
 by_cases hk:frags.length=frags'.length
 case neg =>
  have hk':¬ ((frags.length:Int)=frags'.length):=by omega
  have hne:DocD.mk ops frags≠DocD.mk ops' frags':=fun e=>hk (by rw [(DocD.mk.inj e).2])
  simp (disch:=first|omega|assumption) only [ir34,h1,h2,hl',h3,h4,hk',go_sem,↓reduceIte]
  exact hQ _ _ _ _ nofun rfl (by simp [tupOf,envOf,AV.strip,AV.strip1,eqd_false hne])
 have hk':((frags.length:Int)=frags'.length)=True:=eq_true (by omega)
 simp (disch:=first|omega|assumption) only [ir34,h1,h2,hl',h3,h4,hk',go_sem,↓reduceIte]
 refine goL_range ops 5 (fun _:Unit=>[]) (fun done rest n H=>ops'.take done.length=done) () (by simp (disch:=first|omega|assumption) only [go_sem,↓reduceIte]) rfl ?_ ?_
 ·rintro n H J hp hlt
  have e5:=two_end hl hp
  simp (disch:=first|omega|assumption) only [h1,hlt,go_sem,↓reduceIte]
  refine goL_range frags 6 (fun _:Unit=>[]) (fun done rest n H=>frags'.take done.length=done) () (by simp (disch:=first|omega|assumption) only [go_sem,↓reduceIte]) rfl ?_ ?_
  ·rintro n H J hp hlt
   have e6:=two_end hk hp
   have heq:DocD.mk ops frags=DocD.mk ops' frags':=by rw [e5,e6]
   simp (disch:=first|omega|assumption) only [h3,hlt,go_sem,↓reduceIte]
   exact hQ _ _ _ _ nofun rfl (by simp [tupOf,envOf,AV.strip,AV.strip1,eqd_true heq])
  ·rintro done x rest _ H J hd hlt _ hp hJ
   obtain ⟨y,r,hb⟩:=two_mid hd hk hp
   have g1:=cFs_get hd
   have g2:=cFs_get hb
   have hlt2:(done.length:Int)<frags'.length:=by omega
   have hbm:=bFs_mid done x rest
   rw [← hd] at hbm
   have hst:=two_step hb
   have hne0:x≠y→frags≠frags':=two_ne hd hb
   have hne:x≠y→DocD.mk ops frags≠DocD.mk ops' frags':=fun e e2=>hne0 e (DocD.mk.inj e2).2
   have hS:=sameFragR x y (by simp only [Lim];omega)
   obtain ⟨nm,on,dirs,sels⟩:=x
   obtain ⟨nm',on',dirs',sels'⟩:=y
   have ex:cF ⟨nm,on,dirs,sels⟩=[.str nm,.str on,.sl .no 2 (cDs dirs),.sl .no 7 (cSs sels)]:=rfl
   have ey:cF ⟨nm',on',dirs',sels'⟩=[.str nm',.str on',.sl .no 2 (cDs dirs'),.sl .no 7 (cSs sels')]:=rfl
   rw [ex] at g1 hS
   rw [ey] at g2 hS
   simp (disch:=first|omega|assumption) only [h3,h4,hlt,hlt2,g1,g2,go_sem,↓reduceIte]
   refine goK_pure hS ?_
   by_cases hv:FragD.mk nm on dirs sels=FragD.mk nm' on' dirs' sels'
   ·simp (disch:=first|omega|assumption) only [eqd_true hv,go_sem,↓reduceIte]
    exact goJ (hJ () _ (by rw [hv];exact hst)) (by simp (disch:=first|omega|assumption) only [wrap64,go_sem,↓reduceIte])
   ·have:=hne hv
    simp (disch:=first|omega|assumption) only [eqd_false hv,go_sem,↓reduceIte]
    exact hQ _ _ _ _ nofun rfl (by simp [tupOf,envOf,AV.strip,AV.strip1,eqd_false this])
 ·rintro done x rest _ H J hd hlt _ hp hJ
  obtain ⟨y,r,hb⟩:=two_mid hd hl hp
  have g1:=cOs_get hd
  have g2:=cOs_get hb
  have hlt2:(done.length:Int)<ops'.length:=by omega
  have hbm:=bOs_mid done x rest
  rw [← hd] at hbm
  have hst:=two_step hb
  have hne0:x≠y→ops≠ops':=two_ne hd hb
  have hne:x≠y→DocD.mk ops frags≠DocD.mk ops' frags':=fun e e2=>hne0 e (DocD.mk.inj e2).1
  have hS:=sameOpR x y (by simp only [Lim];omega)
  obtain ⟨k,nm,vars,dirs,sels⟩:=x
  obtain ⟨k',nm',vars',dirs',sels'⟩:=y
  have ex:cO ⟨k,nm,vars,dirs,sels⟩=[.int .i64 k,.str nm,.sl .no 10 (cWs vars),.sl .no 2 (cDs dirs),.sl .no 7 (cSs sels)]:=rfl
  have ey:cO ⟨k',nm',vars',dirs',sels'⟩=[.int .i64 k',.str nm',.sl .no 10 (cWs vars'),.sl .no 2 (cDs dirs'),.sl .no 7 (cSs sels')]:=rfl
  rw [ex] at g1 hS
  rw [ey] at g2 hS
  simp (disch:=first|omega|assumption) only [h1,h2,hlt,hlt2,g1,g2,go_sem,↓reduceIte]
  refine goK_pure hS ?_
  by_cases hv:OpD.mk k nm vars dirs sels=OpD.mk k' nm' vars' dirs' sels'
  ·simp (disch:=first|omega|assumption) only [eqd_true hv,go_sem,↓reduceIte]
   exact goJ (hJ () _ (by rw [hv];exact hst)) (by simp (disch:=first|omega|assumption) only [wrap64,go_sem,↓reduceIte])
  ·have:=hne hv
   simp (disch:=first|omega|assumption) only [eqd_false hv,go_sem,↓reduceIte]
   exact hQ _ _ _ _ nofun rfl (by simp [tupOf,envOf,AV.strip,AV.strip1,eqd_false this])
end Go.Proofs.YticbbfbpeimkbaaGreatDoor
namespace Go.Proofs.YticbbfbpeimkbaaGreatDoor
open Go.Ab
def HdLe (t t':TS):Prop:=hdT t'=hdT t∨hdT t'=⟨0,[]⟩
theorem HdLe.pre {c t t':TS} (h:c≠[]∨HdLe t t'):HdLe (c++t) (c++t'):=by
 cases c with
 | nil=>exact h.resolve_left (fun e=>e rfl)
 | cons x c=>exact .inl rfl
theorem isP_none (m:List UInt8):isP m []=false:=by simp [isP,hdT]
theorem isW_none (m:List UInt8):isW m []=false:=by simp [isW,hdT]
theorem isP_hd {m:List UInt8} {t t':TS} (h:HdLe t t') (hp:isP m t=false):isP m t'=false:=by
 unfold isP at hp ⊢
 rcases h with h|h
 ·rw [h];exact hp
 ·rw [h];simp
theorem isW_hd {m:List UInt8} {t t':TS} (h:HdLe t t') (hp:isW m t=false):isW m t'=false:=by
 unfold isW at hp ⊢
 rcases h with h|h
 ·rw [h];exact hp
 ·rw [h];simp
theorem k2_hd {t t':TS} (h:HdLe t t') (hp:¬ (hdT t).k=2):¬ (hdT t').k=2:=by
 rcases h with h|h
 ·rw [h];exact hp
 ·rw [h];simp
def Lk {α:Type} (one:Bool) (f:TS→PR α):Prop:=∀ t a t',f t=.ok (a,t')→∃ c,(one=true→c≠[])∧t=c++t'∧∀ t'',HdLe t' t''→f (c++t'')=.ok (a,t'')
def Cl {α:Type} (f:TS→PR α):Prop:=∀ t a t',f t=.ok (a,t')→∃ c,c≠[]∧t=c++t'∧∀ t'',f (c++t'')=.ok (a,t'')
theorem Cl.lk {α:Type} {f:TS→PR α} (h:Cl f) (one:Bool):Lk one f:=fun t a t' e=>let ⟨c,h1,h2,h3⟩:=h t a t' e;⟨c,fun _=>h1,h2,fun t'' _=>h3 t''⟩
theorem Lk.weak {α:Type} {f:TS→PR α} {one:Bool} (h:Lk one f):Lk false f:=fun t a t' e=>let ⟨c,h1,h2,h3⟩:=h t a t' e;⟨c,fun e=>(nomatch e),h2,h3⟩
theorem hdle_pre {c t:TS} (h:c≠[]) (t':TS):HdLe (c++t) (c++t'):=HdLe.pre (.inl h)
theorem Lk.bind {α β:Type} {one two:Bool} {f:TS→PR α} {g:α→TS→PR β} (hf:Lk one f) (hg:∀ a,Lk two (g a)):Lk (one || two) (fun t=>pb (f t) g):=fun t b t' h=>by
 obtain ⟨a,t1,h1,h2⟩:=pb_inv h
 obtain ⟨c1,n1,e1,k1⟩:=hf _ _ _ h1
 obtain ⟨c2,n2,e2,k2⟩:=hg a _ _ _ h2
 subst e2
 refine ⟨c1++c2,fun e=>?_,by rw [e1,List.append_assoc],fun t'' ht=>?_⟩
 ·rw [Bool.or_eq_true] at e
  rcases e with e|e
  ·have:=n1 e;simp [this]
  ·have:=n2 e;simp [this]
 ·rw [List.append_assoc]
  simp only
  rw [k1 (c2++t'') (HdLe.pre (.inr ht)),pb_ok]
  exact k2 t'' ht
theorem Lk.bindC {α β:Type} {one:Bool} {f:TS→PR α} {g:α→TS→PR β} (hf:Lk one f) (hg:∀ a,Cl (g a)):Cl (fun t=>pb (f t) g):=fun t b t' h=>by
 obtain ⟨a,t1,h1,h2⟩:=pb_inv h
 obtain ⟨c1,n1,e1,k1⟩:=hf _ _ _ h1
 obtain ⟨c2,n2,e2,k2⟩:=hg a _ _ _ h2
 subst e2
 refine ⟨c1++c2,by simp [n2],by rw [e1,List.append_assoc],fun t''=>?_⟩
 rw [List.append_assoc]
 simp only
 rw [k1 (c2++t'') (hdle_pre n2 _),pb_ok]
 exact k2 t''
theorem Lk.ret {α:Type} (a:α):Lk false (fun t=>(.ok (a,t):PR α)):=fun t b t' h=>by
 simp only [Except.ok.injEq,Prod.mk.injEq] at h
 obtain ⟨rfl,rfl⟩:=h
 exact ⟨[],fun e=>(nomatch e),rfl,fun t'' _=>rfl⟩
theorem Cl.map {α β:Type} {f:TS→PR α} {F:α→β} (hf:Cl f):Cl (fun t=>pb (f t) fun a t=>.ok (F a,t)):=fun t b t' h=>by
 obtain ⟨a,t1,h1,h2⟩:=pb_inv h
 simp only [Except.ok.injEq,Prod.mk.injEq] at h2
 obtain ⟨rfl,rfl⟩:=h2
 obtain ⟨c1,n1,e1,k1⟩:=hf _ _ _ h1
 exact ⟨c1,n1,e1,fun t''=>by simp only;rw [k1,pb_ok]⟩
theorem hd_split {t:TS} (h:(hdT t).k≠0):t=[hdT t]++t.tail:=hd_tail h
theorem mustP_cl (m:List UInt8):Cl (mustP m):=fun t a t' h=>by
 unfold mustP at h
 split at h
 ·rename_i hp
  simp only [Except.ok.injEq,Prod.mk.injEq] at h
  obtain ⟨_,rfl⟩:=h
  refine ⟨[hdT t],by simp,hd_split (isP_ne hp),fun t''=>?_⟩
  have:isP m ([hdT t]++t'')=true:=hp
  unfold mustP
  rw [if_pos this];rfl
 ·cases h
theorem nameP_cl:Cl nameP:=fun t a t' h=>by
 unfold nameP at h
 split at h
 ·rename_i hp
  simp only [Except.ok.injEq,Prod.mk.injEq] at h
  obtain ⟨rfl,rfl⟩:=h
  refine ⟨[hdT t],by simp,hd_split (by rw [hp];decide),fun t''=>?_⟩
  have:(hdT ([hdT t]++t'')).k=2:=hp
  unfold nameP
  rw [if_pos this];rfl
 ·cases h
theorem Lk.iteP {α:Type} {one:Bool} {m:List UInt8} {f g:TS→PR α} (hf:Lk one f) (hg:Lk one g):Lk one (fun t=>if isP m t then f t.tail else g t):=fun t a t' h=>by
 simp only at h
 split at h
 ·rename_i hp
  obtain ⟨c,n,e,k⟩:=hf _ _ _ h
  refine ⟨hdT t :: c,by simp,by rw [List.cons_append,← e];exact hd_tail (isP_ne hp),fun t'' ht=>?_⟩
  have:isP m (hdT t :: c++t'')=true:=hp
  show (if isP m (hdT t :: c++t'') then f (hdT t :: c++t'').tail else g (hdT t :: c++t''))=_
  rw [if_pos this]
  exact k t'' ht
 ·rename_i hp
  obtain ⟨c,n,e,k⟩:=hg _ _ _ h
  refine ⟨c,n,e,fun t'' ht=>?_⟩
  have hp2:isP m (c++t'')=false:=isP_hd (t:=c++t') (HdLe.pre (.inr ht)) (by rw [← e];simpa using hp)
  simp only [hp2]
  exact k t'' ht
theorem Lk.iteK {α:Type} {one:Bool} {f g:TS→PR α} (hf:Cl f) (hg:Lk one g):Lk one (fun t=>if (hdT t).k=2 then f t else g t):=fun t a t' h=>by
 simp only at h
 split at h
 ·rename_i hp
  obtain ⟨c,n,e,k⟩:=hf _ _ _ h
  refine ⟨c,fun _=>n,e,fun t'' ht=>?_⟩
  have:(hdT (c++t'')).k=2:=by
   cases c with
   | nil=>exact absurd rfl n
   | cons x c=>rw [e] at hp;exact hp
  simp only [this,if_true]
  exact k t''
 ·rename_i hp
  obtain ⟨c,n,e,k⟩:=hg _ _ _ h
  refine ⟨c,n,e,fun t'' ht=>?_⟩
  have hp2:¬ (hdT (c++t'')).k=2:=k2_hd (t:=c++t') (HdLe.pre (.inr ht)) (by rw [← e];exact hp)
  simp only [hp2,if_false]
  exact k t'' ht
theorem Lk.iteW {α:Type} {one:Bool} {m:List UInt8} {f g:TS→PR α} (hf:Lk one f) (hg:Lk one g):Lk one (fun t=>if isW m t then f t.tail else g t):=fun t a t' h=>by
 simp only at h
 split at h
 ·rename_i hp
  obtain ⟨c,n,e,k⟩:=hf _ _ _ h
  refine ⟨hdT t :: c,by simp,by rw [List.cons_append,← e];exact hd_tail (isW_ne hp),fun t'' ht=>?_⟩
  have:isW m (hdT t :: c++t'')=true:=hp
  show (if isW m (hdT t :: c++t'') then f (hdT t :: c++t'').tail else g (hdT t :: c++t''))=_
  rw [if_pos this]
  exact k t'' ht
 ·rename_i hp
  obtain ⟨c,n,e,k⟩:=hg _ _ _ h
  refine ⟨c,n,e,fun t'' ht=>?_⟩
  have hp2:isW m (c++t'')=false:=isW_hd (t:=c++t') (HdLe.pre (.inr ht)) (by rw [← e];simpa using hp)
  simp only [hp2]
  exact k t'' ht
theorem Lk.error {α:Type} {one:Bool} (e:Int):Lk one (fun _=>(.error e:PR α)):=fun t a t' h=>by cases h
theorem Cl.error {α:Type} (e:Int):Cl (fun _=>(.error e:PR α)):=fun t a t' h=>by cases h
theorem manyP_cl {α:Type} {m:List UInt8} {f:TS→PR α} (hf:Lk true f):∀ (n:Nat) (l:List α) (t:TS) (l':List α) (t':TS),manyP m f n l t=.ok (l',t')→∃ c,c≠[]∧t=c++t'∧∀ t'' k,c.length≤k→manyP m f k l (c++t'')=.ok (l',t'')
 | 0,_,_,_,_,h=>by cases h
 | n+1,l,t,l',t',h=>by
  simp only [manyP] at h
  split at h
  ·rename_i hp
   simp only [Except.ok.injEq,Prod.mk.injEq] at h;obtain ⟨rfl,rfl⟩:=h
   refine ⟨[hdT t],by simp,hd_split (isP_ne hp),fun t'' k hk=>?_⟩
   obtain ⟨j,rfl⟩:∃ j,k=j+1:=⟨k-1,by simp at hk;omega⟩
   have:isP m ([hdT t]++t'')=true:=hp
   rw [manyP,if_pos this];rfl
  ·rename_i hp
   obtain ⟨x,t1,h1,h2⟩:=pb_inv h
   obtain ⟨c1,n1,e1,k1⟩:=hf _ _ _ h1
   obtain ⟨c2,n2,e2,k2⟩:=manyP_cl hf n _ _ _ _ h2
   subst e2
   have n1:=n1 rfl
   refine ⟨c1++c2,by simp [n1],by rw [e1,List.append_assoc],fun t'' k hk=>?_⟩
   have l1:0<c1.length:=List.length_pos_iff.2 n1
   simp only [List.length_append] at hk
   obtain ⟨j,rfl⟩:∃ j,k=j+1:=⟨k-1,by omega⟩
   have hp2:isP m (c1++c2++t'')=false:=by
    rw [List.append_assoc]
    exact isP_hd (t:=c1++(c2++t')) (hdle_pre n1 _) (by rw [← e1];simpa using hp)
   rw [manyP,hp2,if_neg (by decide),List.append_assoc,k1 _ (hdle_pre n2 _),pb_ok]
   exact k2 t'' j (by omega)
theorem manyP_Cl {α:Type} {m:List UInt8} {f:TS→PR α} (hf:Lk true f) (l:List α):Cl (fun t=>manyP m f (t.length+1) l t):=fun t a t' h=>by
 obtain ⟨c,n,e,k⟩:=manyP_cl hf _ _ _ _ _ h
 exact ⟨c,n,e,fun t''=>k t'' _ (by simp;omega)⟩
theorem many1P_cl {α:Type} {m:List UInt8} {f:TS→PR α} (hf:Lk true f):Cl (many1P m f):=Lk.bindC hf fun a=>manyP_Cl hf [a]
theorem whileP_lk {α:Type} {m:List UInt8} {f:TS→PR α} (hf:Lk true f):∀ (n:Nat) (l:List α) (t:TS) (l':List α) (t':TS),whileP m f n l t=.ok (l',t')→∃ c,t=c++t'∧∀ t'' k,HdLe t' t''→c.length<k→whileP m f k l (c++t'')=.ok (l',t'')
 | 0,_,_,_,_,h=>by cases h
 | n+1,l,t,l',t',h=>by
  simp only [whileP] at h
  split at h
  ·rename_i hp
   obtain ⟨x,t1,h1,h2⟩:=pb_inv h
   obtain ⟨c1,n1,e1,k1⟩:=hf _ _ _ h1
   obtain ⟨c2,e2,k2⟩:=whileP_lk hf n _ _ _ _ h2
   subst e2
   refine ⟨hdT t :: (c1++c2),by rw [List.cons_append,List.append_assoc,← e1];exact hd_tail (isP_ne hp),fun t'' k ht hk=>?_⟩
   simp only [List.length_cons,List.length_append] at hk
   obtain ⟨j,rfl⟩:∃ j,k=j+1:=⟨k-1,by omega⟩
   have:isP m (hdT t :: (c1++c2)++t'')=true:=hp
   rw [whileP,if_pos this,List.cons_append,List.tail_cons,List.append_assoc,k1 _ (HdLe.pre (.inr ht)),pb_ok]
   exact k2 t'' j ht (by omega)
  ·rename_i hp
   simp only [Except.ok.injEq,Prod.mk.injEq] at h;obtain ⟨rfl,rfl⟩:=h
   refine ⟨[],rfl,fun t'' k ht hk=>?_⟩
   obtain ⟨j,rfl⟩:∃ j,k=j+1:=⟨k-1,by omega⟩
   rw [List.nil_append,whileP,isP_hd ht (by simpa using hp)];rfl
theorem whileP_Lk {α:Type} {m:List UInt8} {f:TS→PR α} (hf:Lk true f) (l:List α:=[]):Lk false (fun t=>whileP m f (t.length+1) l t):=fun t a t' h=>by
 obtain ⟨c,e,k⟩:=whileP_lk hf _ _ _ _ _ h
 exact ⟨c,fun e=>(nomatch e),e,fun t'' ht=>k t'' _ ht (by simp;omega)⟩
theorem bangP_lk (ty:TyD):Lk false (bangP ty):=Lk.iteP (f:=fun t=>.ok (_,t)) (Lk.ret _) (Lk.ret _)
theorem typP_lk:∀ n,Lk true (typP n)
 | 0=>Lk.iteP (f:=fun _=>.error 4) (Lk.error _) ((nameP_cl.lk true).bind fun s=>bangP_lk _)
 | n+1=>Lk.iteP (f:=fun t=>pb (typP n t) fun ty t=>pb (mustP [93] t) fun _ t=>bangP ⟨ty.nm,ty.lists+1,ty.musts*2⟩ t)
   ((typP_lk n).bind fun ty=>((mustP_cl _).lk true).bind fun _=>bangP_lk _) ((nameP_cl.lk true).bind fun s=>bangP_lk _)
theorem memberP_cl {f:TS→PR Val} (hf:Cl f):Cl (memberP f):=(nameP_cl.lk true).bindC fun s=>((mustP_cl _).lk true).bindC fun _=>hf.map
theorem hd_same {c:TS} (h:c≠[]) (t t':TS):hdT (c++t)=hdT (c++t'):=by
 cases c with
 | nil=>exact absurd rfl h
 | cons x c=>rfl
theorem isP_same {m:List UInt8} {c:TS} (h:c≠[]) (t t':TS):isP m (c++t)=isP m (c++t'):=by unfold isP;rw [hd_same h t t']
theorem one_cl {t:TS} (h:(hdT t).k≠0):t=[hdT t]++t.tail:=hd_tail h
theorem valP_cs (fixed:Bool) (k:Nat) (ih:∀ n,k=n+1→Cl (valP fixed n)):Cl (valP fixed k):=fun t v t' h=>by
 rw [valP_eq,valB.eq_def] at h
 split at h
 ·rename_i hk
  simp only [Except.ok.injEq,Prod.mk.injEq] at h;obtain ⟨rfl,rfl⟩:=h
  refine ⟨[hdT t],by simp,one_cl (by omega),fun t''=>?_⟩
  rw [valP_eq,valB.eq_def]
  have e:hdT ([hdT t]++t'')=hdT t:=rfl
  rw [e,if_pos hk];rfl
 rename_i a1
 split at h
 ·rename_i hk
  simp only [Except.ok.injEq,Prod.mk.injEq] at h;obtain ⟨rfl,rfl⟩:=h
  refine ⟨[hdT t],by simp,one_cl (by omega),fun t''=>?_⟩
  rw [valP_eq,valB.eq_def]
  have e:hdT ([hdT t]++t'')=hdT t:=rfl
  rw [e,if_neg a1,if_pos hk];rfl
 rename_i a2
 split at h
 ·rename_i hk
  simp only [Except.ok.injEq,Prod.mk.injEq] at h;obtain ⟨rfl,rfl⟩:=h
  refine ⟨[hdT t],by simp,one_cl (by omega),fun t''=>?_⟩
  rw [valP_eq,valB.eq_def]
  have e:hdT ([hdT t]++t'')=hdT t:=rfl
  rw [e,if_neg a1,if_neg a2,if_pos hk];rfl
 rename_i a3
 split at h
 ·rename_i hp
  cases k with
  | zero=>cases h
  | succ n =>
   have g:Cl fun t=>pb (manyP [93] (valP fixed n) (t.length+1) [] t) fun l t=>.ok (Val.mk 6 0 [] l [],t):=(manyP_Cl ((ih n rfl).lk true) []).map
   obtain ⟨c,nc,e,kc⟩:=g _ _ _ h
   refine ⟨hdT t :: c,by simp,by rw [List.cons_append,← e];exact hd_tail (isP_ne hp),fun t''=>?_⟩
   rw [valP_eq,valB.eq_def]
   have e2:hdT (hdT t :: c++t'')=hdT t:=rfl
   have e3:isP [91] (hdT t :: c++t'')=true:=hp
   rw [e2,if_neg a1,if_neg a2,if_neg a3,e3]
   exact kc t''
 rename_i a4
 split at h
 ·rename_i hp
  cases k with
  | zero=>cases h
  | succ n =>
   have g:Cl fun t=>pb (manyP [125] (memberP (valP fixed n)) (t.length+1) [] t) fun l t=>.ok (Val.mk 7 0 [] [] l,t):=(manyP_Cl ((memberP_cl (ih n rfl)).lk true) []).map
   obtain ⟨c,nc,e,kc⟩:=g _ _ _ h
   refine ⟨hdT t :: c,by simp,by rw [List.cons_append,← e];exact hd_tail (isP_ne hp),fun t''=>?_⟩
   rw [valP_eq,valB.eq_def]
   have e2:hdT (hdT t :: c++t'')=hdT t:=rfl
   have e3:isP [123] (hdT t :: c++t'')=true:=hp
   have e4:isP [91] (hdT t :: c++t'')=isP [91] t:=rfl
   rw [e2,if_neg a1,if_neg a2,if_neg a3,e4,if_neg a4,e3]
   exact kc t''
 rename_i a5
 split at h
 ·cases h
 rename_i a6
 have g:Cl fun t=>pb (mustP [36] t) fun _ t=>pb (nameP t) fun s t=>.ok (Val.mk 8 0 s [] [],t):=((mustP_cl _).lk true).bindC fun _=>nameP_cl.map
 obtain ⟨c,nc,e,kc⟩:=g _ _ _ h
 refine ⟨c,nc,e,fun t''=>?_⟩
 rw [valP_eq,valB.eq_def]
 have e2:hdT (c++t'')=hdT t:=by rw [e];exact hd_same nc _ _
 have e4:isP [91] (c++t'')=isP [91] t:=by rw [e];exact isP_same nc _ _
 have e5:isP [123] (c++t'')=isP [123] t:=by rw [e];exact isP_same nc _ _
 rw [e2,if_neg a1,if_neg a2,if_neg a3,e4,if_neg a4,e5,if_neg a5,if_neg a6]
 exact kc t''
theorem valP_cl (fixed:Bool):∀ k,Cl (valP fixed k)
 | 0=>valP_cs fixed 0 fun n h=>by cases h
 | k+1=>valP_cs fixed (k+1) fun n h=>by cases h;exact valP_cl fixed k
theorem argsP_lk (fixed:Bool) (k:Nat):Lk false (argsP fixed k):=Lk.iteP (f:=many1P [41] (memberP (valP fixed k))) ((many1P_cl ((memberP_cl (valP_cl fixed k)).lk true)).lk false) (Lk.ret _)
theorem dirP_lk (fixed:Bool) (k:Nat):Lk true (dirP fixed k):=(nameP_cl.lk true).bind (two:=false) fun s=>(argsP_lk fixed k).bind (two:=false) fun a=>Lk.ret _
theorem dirsP_lk (fixed:Bool) (k:Nat):Lk false (dirsP fixed k):=whileP_Lk (dirP_lk fixed k)
theorem spread_lk {sels:TS→PR (List SelD)} (k:Nat) (hs:Cl sels):Lk true (spreadP sels k):=fun t a t' h=>by
 unfold spreadP at h
 by_cases hc:(hdT t).k=2∧isW [111,110] t=false
 ·rw [if_pos hc] at h
  have g:Lk true fun t=>pb (nameP t) fun s t=>pb (dirsP false k t) fun d t=>(.ok (.mk 1 [] s [] d [] [],t):PR SelD):=(nameP_cl.lk true).bind (two:=false) fun s=>(dirsP_lk false k).bind (two:=false) fun d=>Lk.ret _
  obtain ⟨c,n,e,kc⟩:=g _ _ _ h
  refine ⟨c,n,e,fun t'' ht=>?_⟩
  have n':=n rfl
  unfold spreadP
  have e2:hdT (c++t'')=hdT t:=by rw [e];exact hd_same n' _ _
  have e3:isW [111,110] (c++t'')=isW [111,110] t:=by unfold isW;rw [e2]
  rw [e2,e3,if_pos hc]
  exact kc t'' ht
 ·rw [if_neg hc] at h
  have g:Lk true fun t=>pb (if isW [111,110] t then nameP t.tail else .ok ([],t)) fun o t=>pb (dirsP false k t) fun d t=>pb (sels t) fun l t=>(.ok (.mk 2 [] [] [] d o l,t):PR SelD) :=
   ((Lk.iteW (f:=nameP) (g:=fun t=>.ok ([],t)) (nameP_cl.lk false) (Lk.ret _)).bindC fun o=>(dirsP_lk false k).bindC fun d=>hs.map).lk true
  obtain ⟨c,n,e,kc⟩:=g _ _ _ h
  refine ⟨c,n,e,fun t'' ht=>?_⟩
  have n':=n rfl
  unfold spreadP
  have e2:hdT (c++t'')=hdT t:=by rw [e];exact hd_same n' _ _
  have e3:isW [111,110] (c++t'')=isW [111,110] t:=by unfold isW;rw [e2]
  rw [e2,e3,if_neg hc]
  have:=kc t'' ht
  simp only [e3] at this
  exact this
def optB (sels:TS→PR (List SelD)) (t:TS):PR (List SelD):=if isP [123] t then sels t else .ok ([],t)
theorem optB_lk {sels:TS→PR (List SelD)} (hs:Cl sels):Lk false (optB sels):=fun t a t' h=>by
 unfold optB at h
 split at h
 ·rename_i hp
  obtain ⟨c,n,e,kc⟩:=hs _ _ _ h
  refine ⟨c,fun e=>(nomatch e),e,fun t'' _=>?_⟩
  have e4:isP [123] (c++t'')=true:=by rw [e] at hp;rw [isP_same n t'' t'];exact hp
  unfold optB
  rw [if_pos e4];exact kc t''
 ·rename_i hp
  simp only [Except.ok.injEq,Prod.mk.injEq] at h;obtain ⟨rfl,rfl⟩:=h
  refine ⟨[],fun e=>(nomatch e),rfl,fun t'' ht=>?_⟩
  unfold optB
  rw [List.nil_append,isP_hd ht (by simpa using hp)];rfl
theorem selP_lk {sels:TS→PR (List SelD)} (k:Nat) (hs:Cl sels):Lk true (selP sels k) :=
 Lk.iteP (f:=spreadP sels k) (spread_lk k hs) ((nameP_cl.lk true).bind (two:=false) fun s =>
  (Lk.iteP (f:=fun t=>pb (nameP t) fun s2 t=>.ok ((s,s2),t)) (g:=fun t=>.ok (([],s),t)) (nameP_cl.map.lk false) (Lk.ret _)).bind (two:=false) fun an =>
  (argsP_lk false k).bind (two:=false) fun a=>(dirsP_lk false k).bind (two:=false) fun d=>(optB_lk hs).bind (two:=false) fun l=>Lk.ret _)
theorem selsP_cl:∀ k,Cl (selsP k)
 | 0=>fun t a t' h=>by simp only [selsP] at h;split at h<;>cases h
 | k+1=>fun t a t' h=>by
  simp only [selsP] at h
  split at h
  ·rename_i hp
   obtain ⟨c,n,e,kc⟩:=many1P_cl (m:=[125]) (selP_lk k (selsP_cl k)) _ _ _ h
   refine ⟨hdT t :: c,by simp,by rw [List.cons_append,← e];exact hd_tail (isP_ne hp),fun t''=>?_⟩
   have e3:isP [123] (hdT t :: c++t'')=true:=hp
   rw [selsP,if_pos e3]
   exact kc t''
  ·cases h
theorem varP_lk:Lk true varP:=((mustP_cl _).lk true).bind (two:=false) fun _=>(nameP_cl.lk false).bind (two:=false) fun s=>((mustP_cl _).lk false).bind (two:=false) fun _=>(typP_lk 4).weak.bind (two:=false) fun ty =>
 Lk.iteP (f:=fun t=>pb (valP true 16 t) fun v t=>(.ok (⟨s,ty,true,v⟩,t):PR VarD)) ((Cl.map (F:=fun v=>(⟨s,ty,true,v⟩:VarD)) (valP_cl true 16)).lk false) (Lk.ret (⟨s,ty,false,zV⟩:VarD))
theorem opP_cl (kind:Int):Cl (opP kind):=(Lk.iteK (one:=false) nameP_cl (Lk.ret _)).bindC fun s=>(Lk.iteP (one:=false) (f:=many1P [41] varP) ((many1P_cl varP_lk).lk false) (Lk.ret _)).bindC fun vs =>
 (dirsP_lk true 16).bindC fun d=>(selsP_cl 16).map
theorem fragP_cl:Cl fragP:=fun t a t' h=>by
 unfold fragP at h
 obtain ⟨s,t1,h1,h2⟩:=pb_inv h
 split at h1
 ·cases h1
 rename_i hw
 have g:Cl fun t=>pb (nameP t) fun s t=>pb (if isW [111,110] t then .ok ((),t.tail) else .error 2) fun _ t=>pb (nameP t) fun o t=>pb (dirsP true 16 t) fun d t=>pb (selsP 16 t) fun l t=>(.ok (⟨s,o,d,l⟩,t):PR FragD) :=
  (nameP_cl.lk true).bindC fun s=>(Lk.iteW (one:=false) (f:=fun t=>.ok ((),t)) (g:=fun _=>.error 2) (Lk.ret _) (Lk.error _)).bindC fun _=>(nameP_cl.lk true).bindC fun o=>(dirsP_lk true 16).bindC fun d=>(selsP_cl 16).map
 obtain ⟨c,n,e,kc⟩:=g t a t' (by simp only [h1,pb_ok];exact h2)
 refine ⟨c,n,e,fun t''=>?_⟩
 unfold fragP
 have e2:hdT (c++t'')=hdT t:=by rw [e];exact hd_same n _ _
 have e3:isW [111,110] (c++t'')=isW [111,110] t:=by unfold isW;rw [e2]
 rw [e3,if_neg hw]
 exact kc t''
def addD (o:List OpD) (f:List FragD) (d:DocD):DocD:=⟨o++d.ops,f++d.frags⟩
theorem defP_cl (d:DocD):Cl (defP d):=fun t a t' h=>by
 unfold defP at h
 split at h
 ·rename_i h1
  obtain ⟨c,n,e,kc⟩:=(selsP_cl 16).map (F:=fun l=>(⟨d.ops++[⟨0,[],[],[],l⟩],d.frags⟩:DocD)) _ _ _ h
  refine ⟨c,n,e,fun t''=>?_⟩
  unfold defP
  have e4:isP [123] (c++t'')=true:=by rw [e] at h1;rw [isP_same n t'' t'];exact h1
  rw [if_pos e4];exact kc t''
 rename_i h1
 split at h
 ·rename_i h2
  obtain ⟨c,n,e,kc⟩:=(opP_cl 0).map (F:=fun o=>(⟨d.ops++[o],d.frags⟩:DocD)) _ _ _ h
  refine ⟨hdT t :: c,by simp,by rw [List.cons_append,← e];exact hd_tail (isW_ne h2),fun t''=>?_⟩
  unfold defP
  have e1:isP [123] (hdT t :: c++t'')=isP [123] t:=rfl
  have e2:isW [113,117,101,114,121] (hdT t :: c++t'')=isW [113,117,101,114,121] t:=rfl
  rw [e1,if_neg h1,e2,if_pos h2];exact kc t''
 rename_i h2
 split at h
 ·rename_i h3
  obtain ⟨c,n,e,kc⟩:=(opP_cl 1).map (F:=fun o=>(⟨d.ops++[o],d.frags⟩:DocD)) _ _ _ h
  refine ⟨hdT t :: c,by simp,by rw [List.cons_append,← e];exact hd_tail (isW_ne h3),fun t''=>?_⟩
  unfold defP
  have e1:isP [123] (hdT t :: c++t'')=isP [123] t:=rfl
  have e2:isW [113,117,101,114,121] (hdT t :: c++t'')=isW [113,117,101,114,121] t:=rfl
  have e3:isW [109,117,116,97,116,105,111,110] (hdT t :: c++t'')=isW [109,117,116,97,116,105,111,110] t:=rfl
  rw [e1,if_neg h1,e2,if_neg h2,e3,if_pos h3];exact kc t''
 rename_i h3
 split at h
 ·rename_i h4
  obtain ⟨c,n,e,kc⟩:=fragP_cl.map (F:=fun f=>(⟨d.ops,d.frags++[f]⟩:DocD)) _ _ _ h
  refine ⟨hdT t :: c,by simp,by rw [List.cons_append,← e];exact hd_tail (isW_ne h4),fun t''=>?_⟩
  unfold defP
  have e1:isP [123] (hdT t :: c++t'')=isP [123] t:=rfl
  have e2:isW [113,117,101,114,121] (hdT t :: c++t'')=isW [113,117,101,114,121] t:=rfl
  have e3:isW [109,117,116,97,116,105,111,110] (hdT t :: c++t'')=isW [109,117,116,97,116,105,111,110] t:=rfl
  have e5:isW [102,114,97,103,109,101,110,116] (hdT t :: c++t'')=isW [102,114,97,103,109,101,110,116] t:=rfl
  rw [e1,if_neg h1,e2,if_neg h2,e3,if_neg h3,e5,if_pos h4];exact kc t''
 ·cases h
def mapP {α β:Type} (F:α→β) (x:PR α):PR β:=pb x fun a t=>.ok (F a,t)
theorem pb_pb {α β γ:Type} (x:PR α) (f:α→TS→PR β) (g:β→TS→PR γ):pb (pb x f) g=pb x fun a t=>pb (f a t) g:=by
 rcases x with e|⟨a,t⟩<;>rfl
theorem defP_add (o:List OpD) (f:List FragD) (d:DocD) (t:TS):defP (addD o f d) t=mapP (addD o f) (defP d t):=by
 unfold defP mapP
 repeat' split
 all_goals first
  | rfl
  | (rw [pb_pb];simp only [pb_ok,addD,List.append_assoc];done)
theorem defsP_add (o:List OpD) (f:List FragD):∀ (n:Nat) (d:DocD) (t:TS),defsP n (addD o f d) t=mapP (addD o f) (defsP n d t)
 | 0,_,_=>rfl
 | n+1,d,t=>by
  simp only [defsP]
  split
  ·rfl
  ·rw [defP_add]
   unfold mapP
   rw [pb_pb,pb_pb]
   congr 1
   funext d' t'
   rw [pb_ok]
   exact defsP_add o f n d' t'
theorem defsP_fuel:∀ (n k:Nat) (d:DocD) (t:TS),t.length<n→t.length<k→defsP n d t=defsP k d t
 | 0,_,_,_,h,_=>by omega
 | _,0,_,_,_,h=>by omega
 | n+1,k+1,d,t,h1,h2=>by
  simp only [defsP]
  split
  ·rfl
  ·cases hx:defP d t with
   | error e=>rfl
   | ok x =>
    obtain ⟨c,nc,e,_⟩:=defP_cl d _ x.1 x.2 hx
    have l1:0<c.length:=List.length_pos_iff.2 nc
    have:=congrArg List.length e
    simp only [List.length_append] at this
    exact defsP_fuel n k _ _ (by omega) (by omega)
theorem defsP_app (u:TS):∀ (n:Nat) (d:DocD) (t:TS) (d':DocD),defsP n d t=.ok (d',[])→∀ k,t.length+u.length<k→defsP k d (t++u)=defsP (u.length+1) d' u
 | 0,_,_,_,h=>by cases h
 | n+1,d,t,d',h=>fun k hk=>by
  simp only [defsP] at h
  split at h
  ·rename_i ht
   simp only [Except.ok.injEq,Prod.mk.injEq] at h
   obtain ⟨rfl,_⟩:=h
   subst ht
   rw [List.nil_append]
   exact defsP_fuel _ _ _ _ (by simpa using hk) (by omega)
  ·rename_i ht
   obtain ⟨d1,t1,h1,h2⟩:=pb_inv h
   obtain ⟨c,nc,e,kc⟩:=defP_cl d _ _ _ h1
   have l1:0<c.length:=List.length_pos_iff.2 nc
   have:=congrArg List.length e
   simp only [List.length_append] at this
   obtain ⟨j,rfl⟩:∃ j,k=j+1:=⟨k-1,by omega⟩
   rw [defsP,if_neg (by simp [ht]),e,List.append_assoc,kc,pb_ok]
   exact defsP_app u n _ _ _ h2 j (by omega)
theorem docP_app {a b:TS} {x y:DocD} {ta tb:TS} (h1:docP a=.ok (x,ta)) (h2:docP b=.ok (y,tb)):docP (a++b)=.ok (⟨x.ops++y.ops,x.frags++y.frags⟩,[]):=by
 obtain ⟨rfl,_⟩:=docP_fit h1
 obtain ⟨rfl,_⟩:=docP_fit h2
 unfold docP at h1 h2 ⊢
 obtain ⟨d1,t1,g1,g2⟩:=pb_inv h1
 obtain ⟨d2,t2,g3,g4⟩:=pb_inv h2
 obtain ⟨c1,n1,e1,k1⟩:=defP_cl _ _ _ _ g1
 obtain ⟨c2,n2,e2,k2⟩:=defP_cl _ _ _ _ g3
 have l2:0<c2.length:=List.length_pos_iff.2 n2
 have hl:=congrArg List.length e2
 simp only [List.length_append] at hl
 rw [e1,List.append_assoc,k1,pb_ok,defsP_app b _ _ _ _ g2 _ (by simp),defsP,if_neg (by rw [e2];simp [n2])]
 have ex:x=addD x.ops x.frags ⟨[],[]⟩:=by simp [addD]
 conv=>lhs;rw [ex]
 rw [defP_add,g3]
 unfold mapP
 simp only [pb_ok]
 rw [defsP_add,defsP_fuel b.length (t2.length+1) d2 t2 (by omega) (by omega),g4]
 rfl
def En {α:Type} (f:TS→PR α):Prop:=f []=.error 2∧∀ p x a,f (p++[x])=.ok (a,[])→f p=.error 2
theorem last_split {c t' p:TS} {x:Tok} (h:p++[x]=c++t') (hne:t'≠[]):∃ q,t'=q++[x]∧p=c++q:=by
 obtain ⟨q,y,rfl⟩:∃ q y,t'=q++[y]:=⟨t'.dropLast,t'.getLast hne,(List.dropLast_concat_getLast hne).symm⟩
 rw [← List.append_assoc] at h
 have h1:=List.append_inj_left' h rfl
 have h2:=List.append_inj_right' h rfl
 simp only [List.cons.injEq,and_true] at h2
 subst h2
 exact ⟨q,rfl,h1⟩
theorem hdle_last (q:TS) (x:Tok):HdLe (q++[x]) q:=by
 cases q with
 | nil=>exact .inr rfl
 | cons y q=>exact .inl rfl
theorem En.bind {α β:Type} {one:Bool} {f:TS→PR α} {g:α→TS→PR β} (hf:Lk one f) (h0:pb (f []) g=.error 2) (hg:∀ a,En (g a)):En (fun t=>pb (f t) g):=by
 refine ⟨h0,fun p x b h=>?_⟩
 obtain ⟨a,t1,h1,h2⟩:=pb_inv h
 obtain ⟨c,n,e,k⟩:=hf _ _ _ h1
 by_cases ht:t1=[]
 ·rw [ht,(hg a).1] at h2;cases h2
 ·obtain ⟨q,rfl,rfl⟩:=last_split e ht
  simp only
  rw [k q (hdle_last q x),pb_ok]
  exact (hg a).2 _ _ _ h2
theorem En.map {α β:Type} {f:TS→PR α} {F:α→β} (hf:En f):En (fun t=>pb (f t) fun a t=>.ok (F a,t)):=by
 refine ⟨by simp only [hf.1];rfl,fun p x b h=>?_⟩
 obtain ⟨a,t1,h1,h2⟩:=pb_inv h
 simp only [Except.ok.injEq,Prod.mk.injEq] at h2
 obtain ⟨rfl,rfl⟩:=h2
 simp only [hf.2 _ _ _ h1];rfl
theorem manyP_en {α:Type} {m:List UInt8} {f:TS→PR α} (hf:Lk true f) (h0:f []=.error 2):∀ (n:Nat) (l:List α) (p:TS) (x:Tok) (l':List α),manyP m f n l (p++[x])=.ok (l',[])→∀ k,p.length<k→manyP m f k l p=.error 2
 | 0,_,_,_,_,h=>by cases h
 | n+1,l,p,x,l',h=>fun k hk=>by
  obtain ⟨j,rfl⟩:∃ j,k=j+1:=⟨k-1,by omega⟩
  simp only [manyP] at h
  split at h
  ·simp only [Except.ok.injEq,Prod.mk.injEq] at h
   cases p with
   | nil=>rw [manyP,isP_none,if_neg (by decide),h0];rfl
   | cons y p=>simp at h
  ·rename_i hp
   obtain ⟨a,t1,h1,h2⟩:=pb_inv h
   obtain ⟨c,nc,e,kc⟩:=hf _ _ _ h1
   have nc:=nc rfl
   by_cases ht:t1=[]
   ·rw [ht] at h2
    cases n with
    | zero=>cases h2
    | succ n=>rw [manyP,isP_none,if_neg (by decide),h0] at h2;cases h2
   ·obtain ⟨q,rfl,rfl⟩:=last_split e ht
    have l1:0<c.length:=List.length_pos_iff.2 nc
    simp only [List.length_append] at hk
    have hp2:isP m (c++q)=false:=isP_hd (t:=c++(q++[x])) (hdle_pre nc _) (by rw [← List.append_assoc];simpa using hp)
    rw [manyP,hp2,if_neg (by decide),kc q (hdle_last q x),pb_ok]
    exact manyP_en hf h0 n _ _ _ _ h2 j (by omega)
theorem many1P_en {α:Type} {m:List UInt8} {f:TS→PR α} (hf:Lk true f) (h0:f []=.error 2):En (many1P m f):=by
 refine En.bind hf (by rw [h0];rfl) fun a=>⟨?_,fun p x b h=>manyP_en hf h0 _ _ _ _ _ h _ (by omega)⟩
 simp only [manyP,isP_none,h0];rfl
theorem selsP_en:∀ k,En (selsP k)
 | 0=>⟨by rw [selsP,isP_none];rfl,fun p x a h=>by simp only [selsP] at h;split at h<;>cases h⟩
 | k+1=>by
  refine ⟨by rw [selsP,isP_none];rfl,fun p x a h=>?_⟩
  have g:=many1P_en (m:=[125]) (selP_lk k (selsP_cl k)) (by simp [selP,isP_none,nameP,hdT,pb])
  simp only [selsP] at h
  split at h
  ·rename_i hp
   cases p with
   | nil=>rw [List.nil_append,List.tail_cons,g.1] at h;cases h
   | cons y p =>
    have e:isP [123] (y :: p)=true:=hp
    rw [selsP,if_pos e]
    exact g.2 p x a h
  ·cases h
theorem dirs_nil (fixed:Bool) (k:Nat):dirsP fixed k []=.ok ([],[]):=by simp [dirsP,whileP,isP_none]
theorem opP_en (kind:Int):En (opP kind):=by
 refine En.bind (Lk.iteK (one:=false) nameP_cl (Lk.ret _)) ?_ fun s=>En.bind (Lk.iteP (one:=false) (f:=many1P [41] varP) ((many1P_cl varP_lk).lk false) (Lk.ret _)) ?_ fun vs=>En.bind (dirsP_lk true 16) ?_ fun d=>(selsP_en 16).map
 ·rfl
 ·rfl
 ·rw [dirs_nil,pb_ok,(selsP_en 16).1];rfl
theorem fragP_en:En fragP:=by
 have g:En fun t=>pb (nameP t) fun s t=>pb (if isW [111,110] t then .ok ((),t.tail) else .error 2) fun _ t=>pb (nameP t) fun o t=>pb (dirsP true 16 t) fun d t=>pb (selsP 16 t) fun l t=>(.ok (⟨s,o,d,l⟩,t):PR FragD):=by
  refine En.bind (nameP_cl.lk true) (by rfl) fun s=>En.bind (Lk.iteW (one:=false) (f:=fun t=>.ok ((),t)) (g:=fun _=>.error 2) (Lk.ret _) (Lk.error _)) (by rfl) fun _=>En.bind (nameP_cl.lk true) (by rfl) fun o=>En.bind (dirsP_lk true 16) ?_ fun d=>(selsP_en 16).map
  rw [dirs_nil,pb_ok,(selsP_en 16).1];rfl
 refine ⟨by rfl,fun p x a h=>?_⟩
 unfold fragP at h
 obtain ⟨s,t1,h1,h2⟩:=pb_inv h
 split at h1
 ·cases h1
 rename_i hw
 have e:=g.2 p x a (by simp only [h1,pb_ok];exact h2)
 unfold fragP
 have hw2:isW [111,110] p=false:=isW_hd (hdle_last p x) (by simpa using hw)
 rw [hw2]
 exact e
theorem defP_en (d:DocD):∀ p x a t',defP d (p++[x])=.ok (a,t')→p≠[]∧(t'=[]→defP d p=.error 2):=by
 intro p x a t' h
 unfold defP at h
 cases p with
 | nil =>
  rw [List.nil_append,List.tail_cons] at h
  split at h
  ·rename_i hp
   obtain ⟨l,t1,h1,h2⟩:=pb_inv h
   have g:=many1P_en (m:=[125]) (selP_lk 15 (selsP_cl 15)) (by simp [selP,isP_none,nameP,hdT,pb])
   rw [selsP,if_pos hp,List.tail_cons,g.1] at h1;cases h1
  split at h
  ·rw [(opP_en 0).1] at h;cases h
  split at h
  ·rw [(opP_en 1).1] at h;cases h
  split at h
  ·rw [fragP_en.1] at h;cases h
  ·cases h
 | cons y p =>
  refine ⟨by simp,fun e=>?_⟩
  subst e
  have e1:isP [123] (y :: p++[x])=isP [123] (y :: p):=rfl
  have e2:isW [113,117,101,114,121] (y :: p++[x])=isW [113,117,101,114,121] (y :: p):=rfl
  have e3:isW [109,117,116,97,116,105,111,110] (y :: p++[x])=isW [109,117,116,97,116,105,111,110] (y :: p):=rfl
  have e4:isW [102,114,97,103,109,101,110,116] (y :: p++[x])=isW [102,114,97,103,109,101,110,116] (y :: p):=rfl
  have et:(y :: p++[x]).tail=p++[x]:=rfl
  rw [e1,e2,e3,e4,et] at h
  unfold defP
  split at h
  ·rename_i c1
   rw [if_pos c1]
   exact ((selsP_en 16).map (F:=fun l=>(⟨d.ops++[⟨0,[],[],[],l⟩],d.frags⟩:DocD))).2 (y :: p) x a h
  rename_i c1
  rw [if_neg c1]
  split at h
  ·rename_i c2
   rw [if_pos c2]
   exact ((opP_en 0).map (F:=fun o=>(⟨d.ops++[o],d.frags⟩:DocD))).2 p x a h
  rename_i c2
  rw [if_neg c2]
  split at h
  ·rename_i c3
   rw [if_pos c3]
   exact ((opP_en 1).map (F:=fun o=>(⟨d.ops++[o],d.frags⟩:DocD))).2 p x a h
  rename_i c3
  rw [if_neg c3]
  split at h
  ·rename_i c4
   rw [if_pos c4]
   exact (fragP_en.map (F:=fun f=>(⟨d.ops,d.frags++[f]⟩:DocD))).2 p x a h
  ·cases h
theorem defsP_en:∀ (n:Nat) (d:DocD) (p:TS) (x:Tok) (d':DocD) (t':TS),defsP n d (p++[x])=.ok (d',t')→∀ k,p.length<k→defsP k d p=.error 2
 | 0,_,_,_,_,_,h=>by cases h
 | n+1,d,p,x,d',t',h=>fun k hk=>by
  obtain ⟨j,rfl⟩:∃ j,k=j+1:=⟨k-1,by omega⟩
  simp only [defsP] at h
  rw [if_neg (by simp)] at h
  obtain ⟨d1,t1,h1,h2⟩:=pb_inv h
  obtain ⟨hp,he⟩:=defP_en d p x d1 t1 h1
  rw [defsP,if_neg hp]
  by_cases ht:t1=[]
  ·rw [he ht];rfl
  ·obtain ⟨c,nc,e,kc⟩:=defP_cl d _ _ _ h1
   obtain ⟨q,rfl,rfl⟩:=last_split e ht
   have l1:0<c.length:=List.length_pos_iff.2 nc
   simp only [List.length_append] at hk
   rw [kc,pb_ok]
   exact defsP_en n d1 q x d' t' h2 j (by omega)
theorem docP_en {p:TS} {x:Tok} {d:DocD} {t':TS} (h:docP (p++[x])=.ok (d,t')):docP p=.error 2:=by
 unfold docP at h ⊢
 obtain ⟨d1,t1,h1,h2⟩:=pb_inv h
 obtain ⟨hp,he⟩:=defP_en _ p x d1 t1 h1
 by_cases ht:t1=[]
 ·rw [he ht];rfl
 ·obtain ⟨c,nc,e,kc⟩:=defP_cl _ _ _ _ h1
  obtain ⟨q,rfl,rfl⟩:=last_split e ht
  rw [kc,pb_ok]
  exact defsP_en _ d1 q x d t' h2 _ (by omega)
theorem docP_nil:docP []=.error 2:=by simp [docP,defP,isP_none,isW_none,pb]
end Go.Proofs.YticbbfbpeimkbaaGreatDoor
namespace Go.Proofs.YticbbfbpeimkbaaGreatDoor
open Go.Ab
theorem docR_ok {s:List UInt8} {L:List Tok} {d:DocD} {t:TS} (h:readT s=.ok L) (h2:docP L=.ok (d,t)):docR s=(d,0):=by unfold docR;rw [h];simp only [h2]
theorem docR_of {s s':List UInt8} (h:readT s=readT s'):docR s=docR s':=by unfold docR;rw [h]
theorem docR_cases (s:List UInt8):((docR s).2≠0∧(docR s).1=⟨[],[]⟩)∨∃ L d,readT s=.ok L∧docP L=.ok (d,[])∧docR s=(d,0):=by
 cases h:readT s with
 | error n=>left;unfold docR;rw [h];exact ⟨readT_err h,rfl⟩
 | ok L =>
  cases h2:docP L with
  | error n=>left;unfold docR;rw [h];simp only [h2];exact ⟨docP_ne h h2,trivial⟩
  | ok x =>
   obtain ⟨d,t⟩:=x
   obtain rfl:=(docP_fit h2).1
   exact .inr ⟨L,d,rfl,h2,docR_ok h h2⟩
theorem docR_b (s:List UInt8):bDoc (docR s).1≤LimP∧wfDoc (docR s).1:=by
 rcases docR_cases s with ⟨_,h⟩|⟨L,d,h1,h2,h3⟩
 ·rw [h];exact ⟨by simp [bDoc,bOs,bFs],by simp [wfDoc]⟩
 ·rw [h3]
  have:=docP_fit h2
  have hw:=readT_w h1
  exact ⟨by simp only;omega,this.2.2⟩
def awS1:List UInt8:=[123,97,32,46,46,46,111,110,32,66,123,99,125,125]
def awS2:List UInt8:=[113,117,101,114,121,40,36,120,58,73,110,116,61,36,121,41,123,97,125]
def awD:DocD:=⟨[⟨0,[],[],[],[.mk 0 [] [97] [] [] [] [],.mk 2 [] [] [] [] [66] [.mk 0 [] [99] [] [] [] []]]⟩],[]⟩
theorem aw1:docR awS1=(awD,0):=by kernel_rfl
theorem aw2:docR awS2=(⟨[],[]⟩,2):=by kernel_rfl
theorem awakeP6:Pure Tryz.prog 39 [] (.bool true):=by
 refine Pure.go ir39 ck39 (Nat.le_refl _) fun KP Q hQ=>?_
 have h1:=parseReadC awS1 (by decide)
 have h2:=parseReadC awS2 (by decide)
 rw [aw1] at h1
 rw [aw2] at h2
 have ed:cDoc awD=[.sl .no 5 [[.int .i64 0,.str [],.sl .no 10 [],.sl .no 2 [],.sl .no 7 [[.int .i64 0,.str [],.str [97],.sl .no 6 [],.sl .no 2 [],.str [],.sl .no 7 []],[.int .i64 2,.str [],.str [],.sl .no 6 [],.sl .no 2 [],.str [66],.sl .no 7 [[.int .i64 0,.str [],.str [99],.sl .no 6 [],.sl .no 2 [],.str [],.sl .no 7 []]]]]]],.sl .no 4 []]:=rfl
 have ez:cDoc ⟨[],[]⟩=[.sl .no 5 [],.sl .no 4 []]:=rfl
 simp (disch:=first|omega|assumption) only [ir39,go_sem,↓reduceIte]
 refine goK_pure (h1:Pure Tryz.prog 40 [.str _] _) ?_
 simp (disch:=first|omega|assumption) only [ed,go_sem,↓reduceIte]
 refine goA_intro fun b1 hb1=>?_
 simp (disch:=first|omega|assumption) only [go_sem,↓reduceIte]
 refine goK_pure (h2:Pure Tryz.prog 40 [.str _] _) ?_
 simp (disch:=first|omega|assumption) only [ez,go_sem,↓reduceIte]
 refine goA_intro fun b2 hb2=>?_
 have h21:b2≠b1:=fun e=>by subst e;rw [upd_same] at hb2;cases hb2
 simp (disch:=first|omega|assumption) only [Ne.symm h21,h21,List.length_cons,List.length_nil,List.getD_cons_zero,List.getD_cons_succ,go_sem,↓reduceIte]
 exact hQ _ _ _ _ nofun rfl (by simp [tupOf,envOf,AV.strip,AV.strip1])
theorem ptokens (s:List UInt8) (hs:s.length≤LimQ):Pure Tryz.prog 15 [.str s] (.bool true):=by
 refine Pure.go ir15 ck15 (Nat.le_refl _) fun KP Q hQ=>?_
 by_cases h1:(3000:Int)<(s.length:Int)
 ·simp (disch:=first|omega|assumption) only [ir15,h1,go_sem,↓reduceIte]
  refine goK_pure awakeP6 ?_
  simp (disch:=first|omega|assumption) only [go_sem,↓reduceIte]
  exact hQ _ _ _ _ nofun rfl (by simp [tupOf,envOf,AV.strip,AV.strip1])
 simp (disch:=first|omega|assumption) only [ir15,h1,go_sem,↓reduceIte]
 refine goK_pure (readTC s hs) ?_
 cases hR:readT s with
 | error n =>
  have hn:¬ (n=0):=readT_err hR
  have hd:docR s=(⟨[],[]⟩,n):=by unfold docR;rw [hR]
  simp (disch:=first|omega|assumption) only [readA,hn,go_sem,↓reduceIte]
  refine goK_pure (parseReadC s hs) ?_
  rw [hd]
  simp (disch:=first|omega|assumption) only [cDoc,go_sem,↓reduceIte]
  refine goA_intro fun b hb=>?_
  simp (disch:=first|omega|assumption) only [go_sem,↓reduceIte]
  refine goK_pure awakeP6 ?_
  simp (disch:=first|omega|assumption) only [go_sem,↓reduceIte]
  exact hQ _ _ _ _ nofun rfl (by simp [tupOf,envOf,AV.strip,AV.strip1])
 | ok L =>
  have hw:=readT_w hR
  have hr:=readT_right hR
  have htp:tprint L=(tjoin L,true):=by unfold tprint;rw [if_pos hr]
  simp (disch:=first|omega|assumption) only [readA,go_sem,↓reduceIte]
  refine goK_pure (printTC L (by simp only [LimP] at hw;simp only [Lim];omega)) ?_
  rw [htp]
  by_cases h2:(8192:Int)<((tjoin L).length:Int)
  ·simp (disch:=first|omega|assumption) only [h2,go_sem,↓reduceIte]
   refine goK_pure awakeP6 ?_
   simp (disch:=first|omega|assumption) only [go_sem,↓reduceIte]
   exact hQ _ _ _ _ nofun rfl (by simp [tupOf,envOf,AV.strip,AV.strip1])
  have he:docR (tjoin L)=docR s:=docR_of (by rw [readT_join L hr (by omega),hR])
  simp (disch:=first|omega|assumption) only [h2,go_sem,↓reduceIte]
  refine goK_pure (parseReadC s hs) ?_
  simp (disch:=first|omega|assumption) only [cDoc,go_sem,↓reduceIte]
  refine goA_intro fun b1 hb1=>?_
  simp (disch:=first|omega|assumption) only [go_sem,↓reduceIte]
  refine goK_pure (parseReadC (tjoin L) (by simp only [LimQ];omega)) ?_
  rw [he]
  simp (disch:=first|omega|assumption) only [cDoc,go_sem,↓reduceIte]
  refine goA_intro fun b2 hb2=>?_
  have h21:b2≠b1:=fun e=>by subst e;rw [upd_same] at hb2;cases hb2
  have hsd:=sameDocR (docR s).1 (docR s).1 (by have:=(docR_b s).1;simp only [LimP] at this;simp only [Lim];omega)
  simp only [cDoc] at hsd
  simp (disch:=first|omega|assumption) only [Ne.symm h21,h21,go_sem,↓reduceIte]
  refine goK_pure (Pure.low hsd) ?_
  have hee:eqd (docR s).1 (docR s).1=true:=by simp [eqd]
  simp (disch:=first|omega|assumption) only [hee,go_sem,↓reduceIte]
  refine goK_pure awakeP6 ?_
  simp (disch:=first|omega|assumption) only [go_sem,↓reduceIte]
  exact hQ _ _ _ _ nofun rfl (by simp [tupOf,envOf,AV.strip,AV.strip1])
theorem pends (s:List UInt8) (hs:s.length≤LimQ):Pure Tryz.prog 16 [.str s] (.bool true):=by
 refine Pure.go ir16 ck16 (Nat.le_refl _) fun KP Q hQ=>?_
 by_cases h1:(3000:Int)<(s.length:Int)
 ·simp (disch:=first|omega|assumption) only [ir16,h1,go_sem,↓reduceIte]
  refine goK_pure awakeP6 ?_
  simp (disch:=first|omega|assumption) only [go_sem,↓reduceIte]
  exact hQ _ _ _ _ nofun rfl (by simp [tupOf,envOf,AV.strip,AV.strip1])
 simp (disch:=first|omega|assumption) only [ir16,h1,go_sem,↓reduceIte]
 refine goK_pure (parseReadC s hs) ?_
 simp (disch:=first|omega|assumption) only [cDoc,go_sem,↓reduceIte]
 refine goA_intro fun b hb=>?_
 simp (disch:=first|omega|assumption) only [go_sem,↓reduceIte]
 refine goK_pure (readTC s hs) ?_
 rcases docR_cases s with ⟨hn,_⟩|⟨L,d,hR,hD,hd⟩
 ·cases hR:readT s with
  | error n =>
   simp (disch:=first|omega|assumption) only [readA,hn,go_sem,↓reduceIte]
   refine goK_pure awakeP6 ?_
   simp (disch:=first|omega|assumption) only [go_sem,↓reduceIte]
   exact hQ _ _ _ _ nofun rfl (by simp [tupOf,envOf,AV.strip,AV.strip1])
  | ok L =>
   simp (disch:=first|omega|assumption) only [readA,hn,go_sem,↓reduceIte]
   refine goK_pure awakeP6 ?_
   simp (disch:=first|omega|assumption) only [go_sem,↓reduceIte]
   exact hQ _ _ _ _ nofun rfl (by simp [tupOf,envOf,AV.strip,AV.strip1])
 ·rw [hd,hR]
  have hcl:=cKs_len L
  have hne:L≠[]:=fun e=>by rw [e,docP_nil] at hD;cases hD
  obtain ⟨p,x,hpx⟩:∃ p x,L=p++[x]:=⟨L.dropLast,L.getLast hne,(List.dropLast_concat_getLast hne).symm⟩
  have hpl:L.length=p.length+1:=by rw [hpx];simp
  have hl0:¬ ((L.length:Int)=0):=by omega
  have hw:=readT_w hR
  have hwl:=len_w L
  simp only [LimP] at hw
  have w1:IntKind.wrap .i64 ((L.length:Int)-1)=(p.length:Int):=by rw [wrap64 (by omega) (by omega)];omega
  have hpl0:((0:Int)≤(p.length:Int))=True:=eq_true (by omega)
  have hpl1:((p.length:Int)≤(L.length:Int))=True:=eq_true (by omega)
  have htk:(cKs L).take p.length=cKs p:=by rw [hpx];simp [cKs]
  have hr:=readT_right hR
  have hrp:p.all rightK=true:=by rw [hpx,List.all_append,Bool.and_eq_true] at hr;exact hr.1
  have htp:tprint p=(tjoin p,true):=by unfold tprint;rw [if_pos hrp]
  have hwp:wT p≤wT L:=by rw [hpx];simp [wT]
  simp (disch:=first|omega|assumption) only [readA,hcl,hl0,w1,hpl0,hpl1,htk,go_sem,↓reduceIte]
  refine goK_pure (Pure.low (printTC p (by simp only [Lim];omega))) ?_
  rw [htp]
  by_cases h2:(8192:Int)<((tjoin p).length:Int)
  ·simp (disch:=first|omega|assumption) only [h2,go_sem,↓reduceIte]
   refine goK_pure awakeP6 ?_
   simp (disch:=first|omega|assumption) only [go_sem,↓reduceIte]
   exact hQ _ _ _ _ nofun rfl (by simp [tupOf,envOf,AV.strip,AV.strip1])
  have he:(docR (tjoin p)).2=2:=by
   have e:=readT_join p hrp (by omega)
   rw [hpx] at hD
   unfold docR;rw [e];simp only [docP_en hD]
  simp (disch:=first|omega|assumption) only [h2,go_sem,↓reduceIte]
  refine goK_pure (parseReadC (tjoin p) (by simp only [LimQ];omega)) ?_
  simp (disch:=first|omega|assumption) only [he,go_sem,↓reduceIte]
  refine goK_pure awakeP6 ?_
  simp (disch:=first|omega|assumption) only [go_sem,↓reduceIte]
  exact hQ _ _ _ _ nofun rfl (by simp [tupOf,envOf,AV.strip,AV.strip1])
end Go.Proofs.YticbbfbpeimkbaaGreatDoor
namespace Go.Proofs.YticbbfbpeimkbaaGreatDoor
open Go.Ab
end Go.Proofs.YticbbfbpeimkbaaGreatDoor
namespace Go.Proofs.YticbbfbpeimkbaaGreatDoor
open Go.Ab
theorem WR.after {H0 H1 H:Heap} {o0 o1 o:Own} {w B:Nat} {l0 l tk:List Tok} {ok0 r:Bool} {dp:Int} (h:WR H1 o1 w l0 ok0 dp B r tk H o l) (hs:WStep H0 o0 w H1 o1) {x:AObj} (hw:H1 w=some x):WR H0 o0 w l0 ok0 dp B r tk H o l :=
 ⟨h.here,hs.trans hw h.st,h.len,h.eq⟩
end Go.Proofs.YticbbfbpeimkbaaGreatDoor
namespace Go.Proofs.YticbbfbpeimkbaaGreatDoor
open Go.Ab
end Go.Proofs.YticbbfbpeimkbaaGreatDoor
namespace Go.Proofs.YticbbfbpeimkbaaGreatDoor
open Go.Ab
end Go.Proofs.YticbbfbpeimkbaaGreatDoor
namespace Go.Proofs.YticbbfbpeimkbaaGreatDoor
open Go.Ab
end Go.Proofs.YticbbfbpeimkbaaGreatDoor
namespace Go.Proofs.YticbbfbpeimkbaaGreatDoor
open Go.Ab
end Go.Proofs.YticbbfbpeimkbaaGreatDoor
namespace Go.Proofs.YticbbfbpeimkbaaGreatDoor
open Go.Ab
end Go.Proofs.YticbbfbpeimkbaaGreatDoor
namespace Go.Proofs.YticbbfbpeimkbaaGreatDoor
open Go.Ab
end Go.Proofs.YticbbfbpeimkbaaGreatDoor
namespace Go.Proofs.YticbbfbpeimkbaaGreatDoor
open Go.Ab Go.Lib
def RT (t:TS):Prop:=∀ x ∈ t,rightK x=true
theorem RT.tail {t:TS} (h:RT t):RT t.tail:=fun x hx=>h x (List.mem_of_mem_tail hx)
end Go.Proofs.YticbbfbpeimkbaaGreatDoor
namespace Go.Proofs.YticbbfbpeimkbaaGreatDoor
open Go.Ab
end Go.Proofs.YticbbfbpeimkbaaGreatDoor
namespace Go.Proofs.YticbbfbpeimkbaaGreatDoor
open Go.Ab
theorem pjoins (s t:List UInt8) (hs:s.length≤LimQ) (ht:t.length≤LimQ):Pure Tryz.prog 8 [.str s,.str t] (.bool true):=by
 refine Pure.go ir8 ck8 (Nat.le_refl _) fun KP Q hQ=>?_
 by_cases h1:(3000:Int)<(s.length:Int)
 ·simp (disch:=first|omega|assumption) only [ir8,h1,go_sem,↓reduceIte]
  refine goK_pure awakeP6 ?_
  simp (disch:=first|omega|assumption) only [go_sem,↓reduceIte]
  exact hQ _ _ _ _ nofun rfl (by simp [tupOf,envOf,AV.strip,AV.strip1])
 by_cases h2:(3000:Int)<(t.length:Int)
 ·simp (disch:=first|omega|assumption) only [ir8,h1,h2,go_sem,↓reduceIte]
  refine goK_pure awakeP6 ?_
  simp (disch:=first|omega|assumption) only [go_sem,↓reduceIte]
  exact hQ _ _ _ _ nofun rfl (by simp [tupOf,envOf,AV.strip,AV.strip1])
 simp (disch:=first|omega|assumption) only [ir8,h1,h2,go_sem,↓reduceIte]
 refine goK_pure (parseReadC s hs) ?_
 simp (disch:=first|omega|assumption) only [cDoc,go_sem,↓reduceIte]
 refine goA_intro fun b1 hb1=>?_
 simp (disch:=first|omega|assumption) only [go_sem,↓reduceIte]
 refine goK_pure (parseReadC t ht) ?_
 simp (disch:=first|omega|assumption) only [cDoc,go_sem,↓reduceIte]
 refine goA_intro fun b2 hb2=>?_
 have h21:b2≠b1:=fun e=>by subst e;rw [upd_same] at hb2;cases hb2
 rcases docR_cases s with ⟨hn,_⟩|⟨A,a,hA,hDa,hda⟩
 ·simp (disch:=first|omega|assumption) only [hn,go_sem,↓reduceIte]
  refine goK_pure awakeP6 ?_
  simp (disch:=first|omega|assumption) only [go_sem,↓reduceIte]
  exact hQ _ _ _ _ nofun rfl (by simp [tupOf,envOf,AV.strip,AV.strip1])
 have hs0:(docR s).2=0:=by rw [hda]
 rcases docR_cases t with ⟨hn,_⟩|⟨B,b,hB,hDb,hdb⟩
 ·simp (disch:=first|omega|assumption) only [hs0,hn,go_sem,↓reduceIte]
  refine goK_pure awakeP6 ?_
  simp (disch:=first|omega|assumption) only [go_sem,↓reduceIte]
  exact hQ _ _ _ _ nofun rfl (by simp [tupOf,envOf,AV.strip,AV.strip1])
 have ht0:(docR t).2=0:=by rw [hdb]
 have hAB:=readT_app hA hB (by omega)
 have hD:=docP_app hDa hDb
 have hd:=docR_ok hAB hD
 have ha1:(docR s).1=a:=by rw [hda]
 have hb1':(docR t).1=b:=by rw [hdb]
 have hba:=(docR_b s).1
 have hbb:=(docR_b t).1
 rw [ha1] at hba
 rw [hb1'] at hbb
 simp only [LimP] at hba hbb
 have hst:s++[10]++t=s++10 :: t:=by simp
 have hbn:((s++[10]).length+t.length≤9223372036854775807)=True:=eq_true (by simp only [List.length_append,List.length_singleton];omega)
 have hbn1:(s.length+([10]:List UInt8).length≤9223372036854775807)=True:=eq_true (by simp only [List.length_singleton];omega)
 simp (disch:=first|omega|assumption) only [hs0,ht0,ha1,hb1',hbn,hbn1,go_sem,↓reduceIte]
 have hp3:=parseReadC (s++10 :: t) (by simp only [LimQ,List.length_append,List.length_cons];omega)
 rw [hd] at hp3
 rw [← hst] at hp3
 refine goK_pure hp3 ?_
 have hA5:=cOs_len a.ops
 have hB5:=cOs_len b.ops
 have hA4:=cFs_len a.frags
 have hB4:=cFs_len b.frags
 have qa:a.ops.length+a.frags.length≤bDoc a:=by have:=bOs_len a.ops;have:=bFs_len a.frags;simp only [bDoc];omega
 have qb:b.ops.length+b.frags.length≤bDoc b:=by have:=bOs_len b.ops;have:=bFs_len b.frags;simp only [bDoc];omega
 have hsd:=sameDocR ⟨a.ops++b.ops,a.frags++b.frags⟩ ⟨a.ops++b.ops,a.frags++b.frags⟩ (by
  have e1:bOs (a.ops++b.ops)=bOs a.ops+bOs b.ops:=by simp [bOs]
  have e2:bFs (a.frags++b.frags)=bFs a.frags+bFs b.frags:=by simp [bFs]
  simp only [bDoc] at hba hbb ⊢
  rw [e1,e2];simp only [Lim];omega)
 have eo:cOs (a.ops++b.ops)=cOs a.ops++cOs b.ops:=by simp [cOs]
 have ef:cFs (a.frags++b.frags)=cFs a.frags++cFs b.frags:=by simp [cFs]
 have so:(cOs a.ops).map (·.map AV.strip1)=cOs a.ops:=by simp [cOs,cO_strip]
 have so2:(cOs b.ops).map (·.map AV.strip1)=cOs b.ops:=by simp [cOs,cO_strip]
 have sf:(cFs a.frags).map (·.map AV.strip1)=cFs a.frags:=by simp [cFs,cF_strip]
 have sf2:(cFs b.frags).map (·.map AV.strip1)=cFs b.frags:=by simp [cFs,cF_strip]
 simp only [cDoc,eo,ef] at hsd
 simp (disch:=first|omega|assumption) only [cDoc,go_sem,↓reduceIte]
 refine goA_intro fun b3 hb3=>?_
 have h31:b3≠b1:=fun e=>by subst e;rw [upd_ne (Ne.symm h21),upd_same] at hb3;cases hb3
 have h32:b3≠b2:=fun e=>by subst e;rw [upd_same] at hb3;cases hb3
 simp (disch:=first|omega|assumption) only [h31,h32,h21,Ne.symm h31,Ne.symm h32,Ne.symm h21,go_sem,↓reduceIte]
 generalize hH0:Heap.upd (Heap.upd (Heap.upd Heap.emp b1 _) b2 _) b3 _=H0
 have g1:H0 b1=some (.cells [.sl .no 5 (cOs a.ops),.sl .no 4 (cFs a.frags)]):=by rw [← hH0,upd_ne (Ne.symm h31),upd_ne (Ne.symm h21),upd_same]
 have g2:H0 b2=some (.cells [.sl .no 5 (cOs b.ops),.sl .no 4 (cFs b.frags)]):=by rw [← hH0,upd_ne (Ne.symm h32),upd_same]
 have g3:H0 b3=some (.cells [.sl .no 5 (cOs a.ops++cOs b.ops),.sl .no 4 (cFs a.frags++cFs b.frags)]):=by rw [← hH0,upd_same];simp [eo,ef]
 clear hH0
 refine goP_ownS (Owned.nil _ _) (by simp only [hA5,List.length_nil];omega) (by simp only [hA5,List.length_nil,maxLen];omega) fun o1 H1 hs1=>?_
 have k1:∀ c x,H0 c=some x→H1 c=some x:=fun c x hx=>hs1.kept c x hx fun d e=>by cases e
 have g11:=k1 _ _ g1
 have g12:=k1 _ _ g2
 have g13:=k1 _ _ g3
 simp (disch:=first|omega|assumption) only [g11,g12,so,hA5,go_sem,↓reduceIte]
 have ho1:Owned H1 o1 a.ops.length 5:=by simpa [hA5] using hs1.own
 refine goP_ownS (by rw [hA5];exact ho1) (by simp only [hA5,hB5];omega) (by simp only [hA5,hB5,maxLen];omega) fun o2 H2 hs2=>?_
 have g21:=own_keep ho1 g11 hs2.kept
 have g22:=own_keep ho1 g12 hs2.kept
 have g23:=own_keep ho1 g13 hs2.kept
 simp (disch:=first|omega|assumption) only [g21,g22,so2,go_sem,↓reduceIte]
 refine goP_ownS (Owned.nil _ _) (by simp only [hA4,List.length_nil];omega) (by simp only [hA4,List.length_nil,maxLen];omega) fun o3 H3 hs3=>?_
 have k3:∀ c x,H2 c=some x→H3 c=some x:=fun c x hx=>hs3.kept c x hx fun d e=>by cases e
 have g31:=k3 _ _ g21
 have g32:=k3 _ _ g22
 have g33:=k3 _ _ g23
 simp (disch:=first|omega|assumption) only [g31,g32,sf,go_sem,↓reduceIte]
 have ho3:Owned H3 o3 a.frags.length 4:=by simpa [hA4] using hs3.own
 refine goP_ownS (by rw [hA4];exact ho3) (by simp only [hA4,hB4];omega) (by simp only [hA4,hB4,maxLen];omega) fun o4 H4 hs4=>?_
 have g41:=own_keep ho3 g31 hs4.kept
 have g42:=own_keep ho3 g32 hs4.kept
 have g43:=own_keep ho3 g33 hs4.kept
 simp (disch:=first|omega|assumption) only [g41,g42,sf2,go_sem,↓reduceIte]
 refine goA_intro fun b4 hb4=>?_
 have h43:b4≠b3:=fun e=>by subst e;rw [g43] at hb4;cases hb4
 simp (disch:=first|omega|assumption) only [g43,h43,Ne.symm h43,go_sem,↓reduceIte]
 refine goK_pure (Pure.low hsd) ?_
 have hee:∀ x:DocD,eqd x x=true:=fun x=>by simp [eqd]
 simp (disch:=first|omega|assumption) only [hee,go_sem,↓reduceIte]
 refine goK_pure awakeP6 ?_
 simp (disch:=first|omega|assumption) only [go_sem,↓reduceIte]
 exact hQ _ _ _ _ nofun rfl (by simp [tupOf,envOf,AV.strip,AV.strip1])
end Go.Proofs.YticbbfbpeimkbaaGreatDoor
