/- Texts joined: ValB Sam ValC ValD Num NumB NumC ValE RowJ RowV Doc Qm RowD Jm Jn Pm Ta Sep LibB Enc Quo Quo2. -/
import Derived.JoinedOf
import Derived.Lib.ItoaMem
import Derived.Lib.ItoaLen
import Derived.Test.YticbbfbpeimkbaaGreatDoorM1
import Derived.Test.YticbbfbpeimkbaaGreatDoorM2
import Derived.Test.YticbbfbpeimkbaaGreatDoorM3
set_option maxRecDepth 100000
set_option linter.unusedSimpArgs false
set_option linter.unusedVariables false
namespace Go.Proofs.YticbbfbpeimkbaaGreatDoor
open Go.Ab
structure Tok where
 k:Int
 s:List UInt8
def cK (t:Tok):List AV:=[.int .i64 t.k,.str t.s]
def cKs (l:List Tok):List (List AV):=l.map cK
theorem cKs_len (l:List Tok):(cKs l).length=l.length:=by simp [cKs]
theorem cKs_strip (l:List Tok):(cKs l).map (·.map AV.strip1)=cKs l:=by simp [cKs,cK,AV.strip1]
theorem cKs_get {l a:List Tok} {x:Tok} {b:List Tok} (h:l=a++x :: b):(cKs l).getD a.length []=[.int .i64 x.k,.str x.s]:=getD_mid' h
theorem eqFuncV (f:FuncId) (hf:Program.callable Tryz.prog f=true) (a b:List Val) (ha:a.length≤Lim) (hc:∀ x ∈ a,∀ y,Pure Tryz.prog f [.agg (cV x),.agg (cV y)] (.bool (eqd x y))) :
  Pure Tryz.prog 128 [.sl .no 5 (cVs a),.sl .no 5 (cVs b),.clo f [] []] (.bool (eqd a b)):=by
 refine Pure.go ir128 ck128 (Nat.le_refl _) fun KP Q hQ=>?_
 have h1:=cVs_len a
 have h2:=cVs_len b
 simp only [Lim] at ha
 by_cases hl:a.length=b.length
 case neg =>
  have hl':¬ ((a.length:Int)=b.length):=by omega
  have hne:a≠b:=fun e=>hl (by rw [e])
  simp (disch:=first|omega|assumption) only [ir128,h1,h2,hl',go_sem,↓reduceIte]
  exact hQ _ _ _ _ nofun rfl (by simp [tupOf,envOf,AV.strip,AV.strip1,eqd_false hne])
 have hl':((a.length:Int)=b.length)=True:=eq_true (by omega)
 simp (disch:=first|omega|assumption) only [ir128,h1,h2,hl',go_sem,↓reduceIte]
 refine goL_range a 17 (fun _:Unit=>[]) (fun done rest n H=>b.take done.length=done) () (by simp (disch:=first|omega|assumption) only [go_sem,↓reduceIte]) rfl ?_ ?_
 ·rintro n H J hp hlt
  simp (disch:=first|omega|assumption) only [h1,hlt,go_sem,↓reduceIte]
  exact hQ _ _ _ _ nofun rfl (by simp [tupOf,envOf,AV.strip,AV.strip1,eqd_true (two_end hl hp)])
 ·rintro done x rest n H J hd hlt _ hp hJ
  obtain ⟨y,r,hb⟩:=two_mid hd hl hp
  have g1:=cVs_get hd
  have g2:=cVs_get hb
  have hlt2:(done.length:Int)<b.length:=by omega
  simp (disch:=first|omega|assumption) only [cV_len,cV_take,cV_splice,cM_len,cM_take,cM_splice,cM_mk,h1,h2,hlt,hlt2,g1,g2,go_sem,↓reduceIte]
  refine goA_intro fun b1 hb1=>?_
  simp (disch:=first|omega|assumption) only [cV_len,cV_take,cV_splice,cM_len,cM_take,cM_splice,cM_mk,h1,h2,hlt,hlt2,g1,g2,go_sem,↓reduceIte]
  refine goA_intro fun b2 hb2=>?_
  have hne:=ne_fresh hb2
  simp (disch:=first|omega|assumption) only [cV_len,cV_take,cV_splice,cM_len,cM_take,cM_splice,cM_mk,Ne.symm hne,hne,go_sem,↓reduceIte]
  refine ⟨hf,goK_pure (hc x (by rw [hd];simp) y) ?_⟩
  by_cases hxy:x=y
  ·simp (disch:=first|omega|assumption) only [eqd_true hxy,go_sem,↓reduceIte]
   exact goJ (hJ () _ (by rw [hxy];exact two_step hb)) (by simp (disch:=first|omega|assumption) only [wrap64,go_sem,↓reduceIte])
  ·simp (disch:=first|omega|assumption) only [eqd_false hxy,go_sem,↓reduceIte]
   exact hQ _ _ _ _ nofun rfl (by simp [tupOf,envOf,AV.strip,AV.strip1,eqd_false (two_ne hd hb hxy)])
theorem eqFuncM (f:FuncId) (hf:Program.callable Tryz.prog f=true) (a b:List Mem) (ha:a.length≤Lim) (hc:∀ x ∈ a,∀ y,Pure Tryz.prog f [.agg (cM x),.agg (cM y)] (.bool (eqd x y))) :
  Pure Tryz.prog 129 [.sl .no 6 (cMs a),.sl .no 6 (cMs b),.clo f [] []] (.bool (eqd a b)):=by
 refine Pure.go ir129 ck129 (Nat.le_refl _) fun KP Q hQ=>?_
 have h1:=cMs_len a
 have h2:=cMs_len b
 simp only [Lim] at ha
 by_cases hl:a.length=b.length
 case neg =>
  have hl':¬ ((a.length:Int)=b.length):=by omega
  have hne:a≠b:=fun e=>hl (by rw [e])
  simp (disch:=first|omega|assumption) only [ir129,h1,h2,hl',go_sem,↓reduceIte]
  exact hQ _ _ _ _ nofun rfl (by simp [tupOf,envOf,AV.strip,AV.strip1,eqd_false hne])
 have hl':((a.length:Int)=b.length)=True:=eq_true (by omega)
 simp (disch:=first|omega|assumption) only [ir129,h1,h2,hl',go_sem,↓reduceIte]
 refine goL_range a 17 (fun _:Unit=>[]) (fun done rest n H=>b.take done.length=done) () (by simp (disch:=first|omega|assumption) only [go_sem,↓reduceIte]) rfl ?_ ?_
 ·rintro n H J hp hlt
  simp (disch:=first|omega|assumption) only [h1,hlt,go_sem,↓reduceIte]
  exact hQ _ _ _ _ nofun rfl (by simp [tupOf,envOf,AV.strip,AV.strip1,eqd_true (two_end hl hp)])
 ·rintro done x rest n H J hd hlt _ hp hJ
  obtain ⟨y,r,hb⟩:=two_mid hd hl hp
  have g1:=cMs_get hd
  have g2:=cMs_get hb
  have hlt2:(done.length:Int)<b.length:=by omega
  simp (disch:=first|omega|assumption) only [cV_len,cV_take,cV_splice,cM_len,cM_take,cM_splice,cM_mk,h1,h2,hlt,hlt2,g1,g2,go_sem,↓reduceIte]
  refine goA_intro fun b1 hb1=>?_
  simp (disch:=first|omega|assumption) only [cV_len,cV_take,cV_splice,cM_len,cM_take,cM_splice,cM_mk,h1,h2,hlt,hlt2,g1,g2,go_sem,↓reduceIte]
  refine goA_intro fun b2 hb2=>?_
  have hne:=ne_fresh hb2
  simp (disch:=first|omega|assumption) only [cV_len,cV_take,cV_splice,cM_len,cM_take,cM_splice,cM_mk,Ne.symm hne,hne,go_sem,↓reduceIte]
  refine ⟨hf,goK_pure (hc x (by rw [hd];simp) y) ?_⟩
  by_cases hxy:x=y
  ·simp (disch:=first|omega|assumption) only [eqd_true hxy,go_sem,↓reduceIte]
   exact goJ (hJ () _ (by rw [hxy];exact two_step hb)) (by simp (disch:=first|omega|assumption) only [wrap64,go_sem,↓reduceIte])
  ·simp (disch:=first|omega|assumption) only [eqd_false hxy,go_sem,↓reduceIte]
   exact hQ _ _ _ _ nofun rfl (by simp [tupOf,envOf,AV.strip,AV.strip1,eqd_false (two_ne hd hb hxy)])
theorem mem_same (s t:List UInt8) (v u:Val) (hc:Pure Tryz.prog 59 [.agg (cV v),.agg (cV u)] (.bool (eqd v u))):Pure Tryz.prog 130 [.agg (cM (.mk s v)),.agg (cM (.mk t u))] (.bool (eqd (Mem.mk s v) (Mem.mk t u))):=by
 refine Pure.go ir130 ck130 (Nat.le_refl _) fun KP Q hQ=>?_
 by_cases h1:s=t
 ·simp (disch:=first|omega|assumption) only [cV_len,cV_take,cV_splice,cM_len,cM_take,cM_splice,cM_mk,ir130,h1,go_sem,↓reduceIte]
  refine goK_pure hc ?_
  simp (disch:=first|omega|assumption) only [go_sem,↓reduceIte]
  have:eqd (Mem.mk t v) (Mem.mk t u)=eqd v u:=by
   by_cases h:v=u
   ·rw [eqd_true h,eqd_true (by rw [h])]
   ·rw [eqd_false h,eqd_false (by simp [h])]
  exact hQ _ _ _ _ nofun rfl (by simp [tupOf,envOf,AV.strip,AV.strip1,this,h1])
 ·simp (disch:=first|omega|assumption) only [cV_len,cV_take,cV_splice,cM_len,cM_take,cM_splice,cM_mk,ir130,h1,go_sem,↓reduceIte]
  have:eqd (Mem.mk s v) (Mem.mk t u)=false:=eqd_false (by simp [h1])
  exact hQ _ _ _ _ nofun rfl (by simp [tupOf,envOf,AV.strip,AV.strip1,this])
theorem sameP:∀ v,bV v≤Lim→∀ u,Pure Tryz.prog 59 [.agg (cV v),.agg (cV u)] (.bool (eqd v u)):=by
 refine Val.ind fun k n s l m ihl ihm hb u=>?_
 obtain ⟨k',n',s',l',m'⟩:=u
 have hb':1+s.length+bVs l+bMs m≤Lim:=hb
 have hll:=bVs_len l
 have hml:=bMs_len m
 have il:∀ x ∈ l,∀ y,Pure Tryz.prog 59 [.agg (cV x),.agg (cV y)] (.bool (eqd x y)):=fun x hx y=>by
  obtain ⟨a,b,hd⟩:=List.append_of_mem hx
  have:=bVs_mid a x b
  rw [← hd] at this
  exact ihl x hx (by omega) y
 have im:∀ x ∈ m,∀ y,Pure Tryz.prog 130 [.agg (cM x),.agg (cM y)] (.bool (eqd x y)):=fun x hx y=>by
  obtain ⟨a,b,hd⟩:=List.append_of_mem hx
  have:=bMs_mid a x b
  rw [← hd] at this
  obtain ⟨t,v⟩:=x
  obtain ⟨t',v'⟩:=y
  simp only [bM] at this
  exact mem_same t t' v v' (ihm t v hx (by omega) v')
 refine Pure.go ir59 ck59 (Nat.le_refl _) fun KP Q hQ=>?_
 by_cases h1:k=k'
 case neg =>
  have hne:¬ (Val.mk k n s l m=Val.mk k' n' s' l' m'):=by simp [h1]
  simp (disch:=first|omega|assumption) only [ir59,cV_mk,h1,go_sem,↓reduceIte]
  exact hQ _ _ _ _ nofun rfl (by simp [tupOf,envOf,AV.strip,AV.strip1,eqd_false hne])
 by_cases h2:n=n'
 case neg =>
  have hne:¬ (Val.mk k n s l m=Val.mk k' n' s' l' m'):=by simp [h2]
  simp (disch:=first|omega|assumption) only [ir59,cV_mk,h1,h2,go_sem,↓reduceIte]
  exact hQ _ _ _ _ nofun rfl (by simp [tupOf,envOf,AV.strip,AV.strip1,eqd_false hne])
 by_cases h3:s=s'
 case neg =>
  have hne:¬ (Val.mk k n s l m=Val.mk k' n' s' l' m'):=by simp [h3]
  simp (disch:=first|omega|assumption) only [ir59,cV_mk,h1,h2,h3,go_sem,↓reduceIte]
  exact hQ _ _ _ _ nofun rfl (by simp [tupOf,envOf,AV.strip,AV.strip1,eqd_false hne])
 simp (disch:=first|omega|assumption) only [ir59,cV_mk,h1,h2,h3,go_sem,↓reduceIte]
 refine goK_pure (eqFuncV _ (by kernel_rfl) l l' (by omega) il) ?_
 by_cases h4:l=l'
 case neg =>
  have hne:¬ (Val.mk k n s l m=Val.mk k' n' s' l' m'):=by simp [h4]
  simp (disch:=first|omega|assumption) only [eqd_false h4,go_sem,↓reduceIte]
  exact hQ _ _ _ _ nofun rfl (by simp [tupOf,envOf,AV.strip,AV.strip1,eqd_false hne])
 simp (disch:=first|omega|assumption) only [eqd_true h4,go_sem,↓reduceIte]
 refine goK_pure (eqFuncM _ (by kernel_rfl) m m' (by omega) im) ?_
 simp (disch:=first|omega|assumption) only [go_sem,↓reduceIte]
 have:eqd (Val.mk k n s l m) (Val.mk k' n' s' l' m')=eqd m m':=by
  by_cases h:m=m'
  ·rw [eqd_true h,eqd_true (by rw [h1,h2,h3,h4,h])]
  ·rw [eqd_false h,eqd_false (by simp [h])]
 exact hQ _ _ _ _ nofun rfl (by simp [tupOf,envOf,AV.strip,AV.strip1,this])
end Go.Proofs.YticbbfbpeimkbaaGreatDoor
namespace Go.Proofs.YticbbfbpeimkbaaGreatDoor
open Go.Ab
end Go.Proofs.YticbbfbpeimkbaaGreatDoor
namespace Go.Proofs.YticbbfbpeimkbaaGreatDoor
open Go.Ab
end Go.Proofs.YticbbfbpeimkbaaGreatDoor
namespace Go.Proofs.YticbbfbpeimkbaaGreatDoor
open Go.Ab
abbrev OwnR (H:Heap) (o:Own) (sz:Nat) (xs:List (List AV)):AV→Heap→Prop:=fun v H'=>∃ o',v=.sl o' sz xs∧OwnS H o H' o' xs.length sz
abbrev Gives (P:Program) (f:FuncId) (args:List AV) (H:Heap) (o:Own) (sz:Nat) (xs:List (List AV)):Prop :=
 ACalls P f args H (fun e H'=>match e with|.ret v=>OwnR H o sz xs v H'|.pan _=>False)
theorem goK_gives {P:Program} {KP:AV→Heap→Prop} {Q:AExit→Env→Heap→Prop} {st:List Fr} {ρ:Env} {H:Heap} {all l:List AItem} {d:Option Nat} {R:List Chk} {f:FuncId} {args:List AV} {o:Own} {sz:Nat} {xs:List (List AV)}
  (h:Gives P f args H o sz xs) (hk:∀ o' H',OwnS H o H' o' xs.length sz→goR P KP Q all l st R (ρ.set d (.sl o' sz xs)) H'):goK P KP Q all l st d R ρ f args H :=
 goK_both (XP:=fun _ _=>False) h (fun v H' ⟨o',e,hs⟩=>by subst e;exact hk o' H' hs) (fun _ _ h=>h.elim)
def hasT (s:List UInt8):List (List UInt8)→Bool
 | []=>false
 | x :: r=>if x=s then true else hasT s r
def idxT (s:List UInt8):List (List UInt8)→Int→Int
 | [],_=>-1
 | x :: r,i=>if s=x then i else idxT s r (i+1)
theorem idxT_has (s:List UInt8):∀ l (i:Int),0≤i→decide (0≤idxT s l i)=hasT s l
 | [],i,_=>by simp [idxT,hasT]
 | x :: r,i,hi=>by
  simp only [idxT,hasT]
  by_cases h:s=x
  ·simp [h];omega
  ·simp only [h,Ne.symm h,if_false];exact idxT_has s r (i+1) (by omega)
theorem indexC (l:List (List UInt8)) (s:List UInt8) (hl:l.length≤Lim):Pure Tryz.prog 289 [.sl .no 1 (cT l),.str s] (.int .i64 (idxT s l 0)):=by
 refine Pure.go ir289 ck289 (Nat.le_refl _) fun KP Q hQ=>?_
 have h1:=cT_len l
 simp only [Lim] at hl
 simp (disch:=first|omega|assumption) only [ir289,h1,go_sem,↓reduceIte]
 refine goL_range l 8 (fun _:Unit=>[]) (fun done rest n H=>idxT s rest done.length=idxT s l 0) () (by simp (disch:=first|omega|assumption) only [go_sem,↓reduceIte]) rfl ?_ ?_
 ·rintro n H J hn hlt
  simp (disch:=first|omega|assumption) only [h1,hlt,go_sem,↓reduceIte]
  simp only [idxT] at hn
  exact hQ _ _ _ _ nofun rfl (by simp [tupOf,envOf,AV.strip,AV.strip1,← hn])
 ·rintro done x rest n H J hd hlt _ hn hJ
  have hg:=cT_get hd
  simp only [idxT] at hn
  by_cases hx:s=x
  ·subst hx
   simp only [if_true] at hn
   simp (disch:=first|omega|assumption) only [h1,hlt,hg,go_sem,↓reduceIte]
   exact hQ _ _ _ _ nofun rfl (by simp [tupOf,envOf,AV.strip,AV.strip1,← hn])
  ·simp only [hx,if_false] at hn
   simp (disch:=first|omega|assumption) only [h1,hlt,hg,hx,go_sem,↓reduceIte]
   exact goJ (hJ () _ (by simpa using hn)) (by simp (disch:=first|omega|assumption) only [wrap64,go_sem,↓reduceIte])
theorem containsC (l:List (List UInt8)) (s:List UInt8) (hl:l.length≤Lim):Pure Tryz.prog 229 [.sl .no 1 (cT l),.str s] (.bool (hasT s l)):=by
 refine Pure.go ir229 ck229 (Nat.le_refl _) fun KP Q hQ=>?_
 simp (disch:=first|omega|assumption) only [ir229,go_sem,↓reduceIte]
 refine goK_pure (indexC l s hl) ?_
 simp (disch:=first|omega|assumption) only [go_sem,↓reduceIte]
 have:=idxT_has s l 0 (by omega)
 exact hQ _ _ _ _ nofun rfl (by simp [tupOf,envOf,AV.strip,AV.strip1,this])
mutual
def varsV:Val→List (List UInt8)→List (List UInt8)
 | .mk k _ s l m,acc=>if k=8 then (if hasT s acc then acc else acc++[s]) else if k=6 then varsVs l acc else if k=7 then varsMs m acc else acc
def varsVs:List Val→List (List UInt8)→List (List UInt8)
 | [],acc=>acc
 | v :: r,acc=>varsVs r (varsV v acc)
def varsM:Mem→List (List UInt8)→List (List UInt8)
 | .mk _ v,acc=>varsV v acc
def varsMs:List Mem→List (List UInt8)→List (List UInt8)
 | [],acc=>acc
 | x :: r,acc=>varsMs r (varsM x acc)
end
mutual
theorem varsV_le:∀ v acc,(varsV v acc).length≤acc.length+bV v
 | .mk k n s l m,acc=>by
  have h1:=varsVs_le l acc
  have h2:=varsMs_le m acc
  simp only [varsV,bV]
  split
  ·split
   ·omega
   ·simp;omega
  ·split
   ·omega
   ·split<;>omega
theorem varsVs_le:∀ l acc,(varsVs l acc).length≤acc.length+bVs l
 | [],acc=>by simp [varsVs]
 | v :: r,acc=>by
  have h1:=varsV_le v acc
  have h2:=varsVs_le r (varsV v acc)
  simp only [varsVs,bVs];omega
theorem varsM_le:∀ x acc,(varsM x acc).length≤acc.length+bM x
 | .mk s v,acc=>by have:=varsV_le v acc;simp only [varsM,bM];omega
theorem varsMs_le:∀ l acc,(varsMs l acc).length≤acc.length+bMs l
 | [],acc=>by simp [varsMs]
 | x :: r,acc=>by
  have h1:=varsM_le x acc
  have h2:=varsMs_le r (varsM x acc)
  simp only [varsMs,bMs];omega
end
theorem varsP:∀ v,∀ acc H o,acc.length+bV v≤Lim→Owned H o acc.length 1→Gives Tryz.prog 131 [.sl o 1 (cT acc),.agg (cV v)] H o 1 (cT (varsV v acc)):=by
 refine Val.ind fun k n s l m ihl ihm acc H o hb ho=>?_
 have hb':acc.length+(1+s.length+bVs l+bMs m)≤Lim:=hb
 have hll:=bVs_len l
 have hml:=bMs_len m
 have h1:=cVs_len l
 have h2:=cMs_len m
 have h3:=cT_len acc
 simp only [Lim] at hb'
 refine ACalls.goO ir131 ck131 (Nat.le_refl _) fun KP Q hQ hP=>?_
 by_cases k8:k=8
 ·subst k8
  simp (disch:=first|omega|assumption) only [ir131,cV_mk,go_sem,↓reduceIte]
  refine goK_pure (Pure.low (containsC acc s (by simp only [Lim];omega))) ?_
  cases hh:hasT s acc with
  | true =>
   simp (disch:=first|omega|assumption) only [hh,go_sem,↓reduceIte]
   refine hQ _ _ H H _ nofun rfl (Low.refl _) ⟨o,?_,?_⟩
   ·simp [tupOf,envOf,varsV,hh]
   ·simpa [varsV,hh,h3] using OwnS.refl ho
  | false =>
   simp (disch:=first|omega|assumption) only [hh,go_sem,↓reduceIte]
   refine goP_ownS (by rw [h3];exact ho) ?_ ?_ fun o' H' hs=>?_
   ·simp only [h3,List.length_cons,List.length_nil];omega
   ·simp only [h3,List.length_cons,List.length_nil,maxLen];omega
   simp (disch:=first|omega|assumption) only [go_sem,↓reduceIte]
   refine hQ _ _ H' H' _ nofun rfl (Low.refl _) ⟨o',?_,?_⟩
   ·simp [tupOf,envOf,varsV,hh,cT,AV.strip1]
   ·simpa [varsV,hh,h3,cT_len] using hs
 by_cases k6:k=6
 ·subst k6
  simp (disch:=first|omega|assumption) only [ir131,cV_mk,h1,go_sem,↓reduceIte]
  refine goL_range l 28 (fun x:Own × List (List UInt8)=>[(0,.sl x.1 1 (cT x.2))]) (fun done rest x H'=>varsVs rest x.2=varsVs l acc∧x.2.length+bVs rest≤acc.length+bVs l∧OwnS H o H' x.1 x.2.length 1) (o,acc) (by simp (disch:=first|omega|assumption) only [go_sem,↓reduceIte]) ⟨rfl,by simp,OwnS.refl ho⟩ ?_ ?_
  ·rintro ⟨o1,a⟩ H' J ⟨hn,_,hs⟩ hlt
   simp only [varsVs] at hn
   subst hn
   simp (disch:=first|omega|assumption) only [h1,hlt,go_sem,↓reduceIte]
   refine hQ _ _ H' H' _ nofun rfl (Low.refl _) ⟨o1,?_,?_⟩
   ·simp [tupOf,envOf,varsV]
   ·simpa [varsV,cT_len] using hs
  ·rintro done x rest ⟨o1,a⟩ H' J hd hlt _ ⟨hn,hle,hs⟩ hJ
   have hg:=cVs_get hd
   have hx:=varsV_le x a
   simp only [varsVs,bVs] at hn hle
   simp (disch:=first|omega|assumption) only [cV_len,cV_take,cV_splice,cM_len,cM_take,cM_splice,cM_mk,h1,hlt,hg,go_sem,↓reduceIte]
   refine goA_intro fun b hb=>?_
   simp (disch:=first|omega|assumption) only [cV_len,cV_take,cV_splice,cM_len,cM_take,cM_splice,cM_mk,go_sem,↓reduceIte]
   refine goK_gives (ihl x (by rw [hd];simp) a _ o1 (by simp only [Lim];omega) (hs.own.upd hb)) fun o2 H2 hs2=>?_
   rw [cT_len] at hs2
   simp (disch:=first|omega|assumption) only [wrap64,go_sem,↓reduceIte]
   exact goJ (hJ (o2,varsV x a) H2 ⟨hn,by simp only;omega,(hs.upd hb).trans hs2⟩) (by simp (disch:=first|omega|assumption) only [go_sem,↓reduceIte])
 by_cases k7:k=7
 ·subst k7
  simp (disch:=first|omega|assumption) only [ir131,cV_mk,h2,go_sem,↓reduceIte]
  refine goL_range m 41 (fun x:Own × List (List UInt8)=>[(0,.sl x.1 1 (cT x.2))]) (fun done rest x H'=>varsMs rest x.2=varsMs m acc∧x.2.length+bMs rest≤acc.length+bMs m∧OwnS H o H' x.1 x.2.length 1) (o,acc) (by simp (disch:=first|omega|assumption) only [go_sem,↓reduceIte]) ⟨rfl,by simp,OwnS.refl ho⟩ ?_ ?_
  ·rintro ⟨o1,a⟩ H' J ⟨hn,_,hs⟩ hlt
   simp only [varsMs] at hn
   subst hn
   simp (disch:=first|omega|assumption) only [h2,hlt,go_sem,↓reduceIte]
   refine hQ _ _ H' H' _ nofun rfl (Low.refl _) ⟨o1,?_,?_⟩
   ·simp [tupOf,envOf,varsV]
   ·simpa [varsV,cT_len] using hs
  ·rintro done x rest ⟨o1,a⟩ H' J hd hlt _ ⟨hn,hle,hs⟩ hJ
   have hg:=cMs_get hd
   have hx:=varsM_le x a
   simp only [varsMs,bMs] at hn hle
   have hmem:x ∈ m:=by rw [hd];simp
   obtain ⟨t,v⟩:=x
   simp only [varsM,bM] at hx hn hle
   simp (disch:=first|omega|assumption) only [cV_len,cV_take,cV_splice,cM_len,cM_take,cM_splice,cM_mk,h2,hlt,hg,go_sem,↓reduceIte]
   refine goA_intro fun b hb=>?_
   simp (disch:=first|omega|assumption) only [cV_len,cV_take,cV_splice,cM_len,cM_take,cM_splice,cM_mk,go_sem,↓reduceIte]
   refine goK_gives (ihm t v hmem a _ o1 (by simp only [Lim];omega) (hs.own.upd hb)) fun o2 H2 hs2=>?_
   rw [cT_len] at hs2
   simp (disch:=first|omega|assumption) only [wrap64,go_sem,↓reduceIte]
   exact goJ (hJ (o2,varsV v a) H2 ⟨hn,by simp only;omega,(hs.upd hb).trans hs2⟩) (by simp (disch:=first|omega|assumption) only [go_sem,↓reduceIte])
 ·simp (disch:=first|omega|assumption) only [ir131,cV_mk,k8,k6,k7,go_sem,↓reduceIte]
  refine hQ _ _ H H _ nofun rfl (Low.refl _) ⟨o,?_,?_⟩
  ·simp [tupOf,envOf,varsV,k8,k6,k7]
  ·simpa [varsV,k8,k6,k7,cT_len] using OwnS.refl ho
theorem varsPT (v:Val) (h:bV v≤Lim):Pure Tryz.prog 60 [.agg (cV v)] (.sl .no 1 (cT (varsV v []))):=by
 refine Pure.go ir60 ck60 (Nat.le_refl _) fun KP Q hQ=>?_
 simp (disch:=first|omega|assumption) only [cV_len,cV_take,cV_splice,cM_len,cM_take,cM_splice,cM_mk,ir60,go_sem,↓reduceIte]
 refine goK_gives (varsP v [] _ .nil (by simpa using h) rfl) fun o' H' hs=>?_
 simp (disch:=first|omega|assumption) only [go_sem,↓reduceIte]
 exact hQ _ _ _ _ nofun rfl (by simp [tupOf,envOf,AV.strip,AV.strip1])
end Go.Proofs.YticbbfbpeimkbaaGreatDoor
namespace Go.Proofs.YticbbfbpeimkbaaGreatDoor
open Go.Ab
def isD (c:UInt8):Bool:=decide (48≤c.toNat) && decide (c.toNat≤57)
def isL (c:UInt8):Bool:=(decide (97≤c.toNat) && decide (c.toNat≤122)) || ((decide (65≤c.toNat) && decide (c.toNat≤90)) || decide (c.toNat=95))
theorem digitC (c:UInt8):Pure Tryz.prog 226 [.int .u8 (c.toNat:Int)] (.bool (isD c)):=by
 refine Pure.go ir226 ck226 (Nat.le_refl _) fun KP Q hQ=>?_
 by_cases h:(48:Int)≤c.toNat
 ·simp (disch:=first|omega|assumption) only [ir226,h,go_sem,↓reduceIte]
  have h':48≤c.toNat:=by omega
  have e:decide ((c.toNat:Int)≤57)=decide (c.toNat≤57):=by rw [decide_eq_decide];omega
  exact hQ _ _ _ _ nofun rfl (by simp [tupOf,envOf,AV.strip,AV.strip1,isD,h',e])
 ·simp (disch:=first|omega|assumption) only [ir226,h,go_sem,↓reduceIte]
  have h':¬ 48≤c.toNat:=by omega
  exact hQ _ _ _ _ nofun rfl (by simp [tupOf,envOf,AV.strip,AV.strip1,isD,h'])
theorem letterC (c:UInt8):Pure Tryz.prog 223 [.int .u8 (c.toNat:Int)] (.bool (isL c)):=by
 refine Pure.go ir223 ck223 (Nat.le_refl _) fun KP Q hQ=>?_
 have e:decide ((c.toNat:Int)=95)=decide (c.toNat=95):=by rw [decide_eq_decide];omega
 by_cases h:(97:Int)≤c.toNat
 ·have h':97≤c.toNat:=by omega
  by_cases h2:(c.toNat:Int)≤122
  ·have h2':c.toNat≤122:=by omega
   simp (disch:=first|omega|assumption) only [ir223,h,h2,go_sem,↓reduceIte]
   exact hQ _ _ _ _ nofun rfl (by simp [tupOf,envOf,AV.strip,AV.strip1,isL,h',h2'])
  ·have h2':¬ c.toNat≤122:=by omega
   have h3:(65:Int)≤c.toNat:=by omega
   have h4:¬ (c.toNat:Int)≤90:=by omega
   have h4':¬ c.toNat≤90:=by omega
   simp (disch:=first|omega|assumption) only [ir223,h,h2,h3,h4,go_sem,↓reduceIte]
   exact hQ _ _ _ _ nofun rfl (by simp [tupOf,envOf,AV.strip,AV.strip1,isL,h',h2',h4',e])
 ·have h':¬ 97≤c.toNat:=by omega
  by_cases h3:(65:Int)≤c.toNat
  ·have h3':65≤c.toNat:=by omega
   by_cases h4:(c.toNat:Int)≤90
   ·have h4':c.toNat≤90:=by omega
    simp (disch:=first|omega|assumption) only [ir223,h,h3,h4,go_sem,↓reduceIte]
    exact hQ _ _ _ _ nofun rfl (by simp [tupOf,envOf,AV.strip,AV.strip1,isL,h',h3',h4'])
   ·have h4':¬ c.toNat≤90:=by omega
    simp (disch:=first|omega|assumption) only [ir223,h,h3,h4,go_sem,↓reduceIte]
    exact hQ _ _ _ _ nofun rfl (by simp [tupOf,envOf,AV.strip,AV.strip1,isL,h',h3',h4',e])
  ·have h3':¬ 65≤c.toNat:=by omega
   simp (disch:=first|omega|assumption) only [ir223,h,h3,go_sem,↓reduceIte]
   exact hQ _ _ _ _ nofun rfl (by simp [tupOf,envOf,AV.strip,AV.strip1,isL,h',h3',e])
def nameG:List UInt8→Nat→Bool
 | [],_=>true
 | c :: r,i=>if isL c || (decide (i≠0) && isD c) then nameG r (i+1) else false
def nameM (s:List UInt8):Bool:=nameG s 0 && decide (s≠[])
theorem str_get {s a:List UInt8} {x:UInt8} {b:List UInt8} (h:s=a++x :: b):s.getD a.length 0=x:=by subst h;simp
theorem nameC (s:List UInt8) (hs:s.length≤Lim):Pure Tryz.prog 203 [.str s] (.bool (nameM s)):=by
 refine Pure.go ir203 ck203 (Nat.le_refl _) fun KP Q hQ=>?_
 simp only [Lim] at hs
 simp (disch:=first|omega|assumption) only [ir203,go_sem,↓reduceIte]
 refine goL_range s 6 (fun _:Unit=>[]) (fun done rest n H=>nameG rest done.length=nameG s 0) () (by simp (disch:=first|omega|assumption) only [go_sem,↓reduceIte]) rfl ?_ ?_
 ·rintro n H J hn hlt
  simp only [nameG] at hn
  simp (disch:=first|omega|assumption) only [hlt,go_sem,↓reduceIte]
  have e:(!decide (s=[]))=decide (s≠[]):=by simp
  exact hQ _ _ _ _ nofun rfl (by simp [tupOf,envOf,AV.strip,AV.strip1,nameM,← hn])
 ·rintro done x rest n H J hd hlt _ hn hJ
  have hg:=str_get hd
  simp only [nameG] at hn
  simp (disch:=first|omega|assumption) only [hlt,hg,go_sem,↓reduceIte]
  refine goK_pure (letterC x) ?_
  cases hl:isL x with
  | true =>
   simp only [hl,Bool.true_or,if_true] at hn
   simp (disch:=first|omega|assumption) only [hl,go_sem,↓reduceIte]
   exact goJ (hJ () _ (by simpa using hn)) (by simp (disch:=first|omega|assumption) only [wrap64,go_sem,↓reduceIte])
  | false =>
   by_cases h0:done.length=0
   ·have h0':(done.length:Int)=0:=by omega
    simp only [hl,h0,ne_eq,not_true_eq_false,decide_false,Bool.false_and,Bool.or_false,Bool.false_eq_true,if_false] at hn
    simp (disch:=first|omega|assumption) only [hl,h0',go_sem,↓reduceIte]
    exact hQ _ _ _ _ nofun rfl (by simp [tupOf,envOf,AV.strip,AV.strip1,nameM,← hn])
   ·have h0':¬ (done.length:Int)=0:=by omega
    simp (disch:=first|omega|assumption) only [hl,h0',hlt,hg,go_sem,↓reduceIte]
    refine goK_pure (digitC x) ?_
    cases hdg:isD x with
    | true =>
     simp only [hl,hdg,h0,ne_eq,not_false_eq_true,decide_true,Bool.and_self,Bool.or_true,if_true] at hn
     simp (disch:=first|omega|assumption) only [hdg,go_sem,↓reduceIte]
     exact goJ (hJ () _ (by simpa using hn)) (by simp (disch:=first|omega|assumption) only [wrap64,go_sem,↓reduceIte])
    | false =>
     simp only [hl,hdg,Bool.and_false,Bool.or_false,Bool.false_eq_true,if_false] at hn
     simp (disch:=first|omega|assumption) only [hdg,go_sem,↓reduceIte]
     exact hQ _ _ _ _ nofun rfl (by simp [tupOf,envOf,AV.strip,AV.strip1,nameM,← hn])
def run1:List UInt8→Nat
 | []=>0
 | c :: r=>if isD c then run1 r+1 else 0
theorem run1_le:∀ l,run1 l≤l.length
 | []=>Nat.le_refl _
 | c :: r=>by have:=run1_le r;simp only [run1,List.length_cons];split<;>omega
theorem drop_cases (s:List UInt8) (k:Nat):(s.drop k=[]∧s.length≤k)∨(k<s.length∧s.drop k=s.getD k 0 :: s.drop (k+1)):=by
 rcases Nat.lt_or_ge k s.length with h|h
 ·right
  refine ⟨h,?_⟩
  rw [List.drop_eq_getElem_cons h]
  simp [h]
 ·left;exact ⟨List.drop_of_length_le h,h⟩
theorem digitsC (s:List UInt8) (hs:s.length≤Lim):Pure Tryz.prog 285 [.str s] (.int .i64 (run1 s)):=by
 refine Pure.go ir285 ck285 (Nat.le_refl _) fun KP Q hQ=>?_
 simp only [Lim] at hs
 have hr1:=run1_le s
 simp (disch:=first|omega|assumption) only [ir285,go_sem,↓reduceIte]
 refine goL_st (fun n:Nat=>[(3,.int .i64 n)]) (fun n H=>run1 s=n+run1 (s.drop n)∧n≤s.length) (fun n=>s.length-n) 0 (by simp (disch:=first|omega|assumption) only [go_sem,↓reduceIte]) ⟨by simp,by omega⟩ ?_
 rintro n H J ⟨hn,hle⟩ hJ
 rcases drop_cases s n with ⟨h1,h2⟩|⟨h1,h2⟩
 ·have hlt:¬ ((n:Int)<s.length):=by omega
  rw [h1] at hn
  simp only [run1,Nat.add_zero] at hn
  simp (disch:=first|omega|assumption) only [hlt,go_sem,↓reduceIte]
  exact hQ _ _ _ _ nofun rfl (by simp [tupOf,envOf,AV.strip,AV.strip1,hn])
 ·have hlt:((n:Int)<s.length):=by omega
  rw [h2] at hn
  simp only [run1] at hn
  simp (disch:=first|omega|assumption) only [hlt,go_sem,↓reduceIte]
  refine goK_pure (digitC (s.getD n 0)) ?_
  cases hd:isD (s.getD n 0) with
  | true =>
   simp only [hd,if_true] at hn
   simp (disch:=first|omega|assumption) only [hd,go_sem,↓reduceIte]
   exact goJ (hJ (n+1) _ (by omega) ⟨by omega,by omega⟩) (by simp (disch:=first|omega|assumption) only [wrap64,Int.natCast_add,Int.natCast_one,go_sem,↓reduceIte])
  | false =>
   simp only [hd,Bool.false_eq_true,if_false,Nat.add_zero] at hn
   simp (disch:=first|omega|assumption) only [hd,go_sem,↓reduceIte]
   exact hQ _ _ _ _ nofun rfl (by simp [tupOf,envOf,AV.strip,AV.strip1,hn])
end Go.Proofs.YticbbfbpeimkbaaGreatDoor
namespace Go.Proofs.YticbbfbpeimkbaaGreatDoor
open Go.Ab
theorem prefix1 (c:UInt8) (s:List UInt8):[c].isPrefixOf s=decide (s.head?=some c):=by
 cases s with
 | nil=>rfl
 | cons d r =>
  by_cases h:d=c
  ·subst h;simp [List.isPrefixOf]
  ·have h':¬ c=d:=fun e=>h e.symm
   simp [List.isPrefixOf,h,h']
def intN (s:List UInt8):Nat:=if run1 s=0 then 0 else if s.getD 0 0=48 then 1 else run1 s
def wholeN (s:List UInt8):Nat:=if s.head?=some 45 then (if run1 s.tail=0 then 0 else 1+intN s.tail) else intN s
theorem intN_le (s:List UInt8):intN s≤s.length:=by have:=run1_le s;unfold intN;split<;>(try split)<;>omega
theorem wholeN_le (s:List UInt8):wholeN s≤s.length:=by
 have h1:=intN_le s
 have h2:=intN_le s.tail
 unfold wholeN
 split
 ·rename_i h
  cases s with
  | nil=>simp at h
  | cons c r =>
   simp only [List.tail_cons,List.length_cons] at h2 ⊢
   by_cases h0:run1 r=0<;>simp only [h0,if_true,if_false]<;>omega
 ·exact h1
theorem u8_is (a:UInt8) (n:Nat) (hn:n<256):decide ((a.toNat:Int)=n)=decide (a=UInt8.ofNat n):=by
 rw [decide_eq_decide]
 have:(UInt8.ofNat n).toNat=n:=by simp [UInt8.toNat_ofNat'];omega
 constructor
 ·intro h;apply UInt8.toNat_inj.1;rw [this];omega
 ·intro h;subst h;rw [this]
theorem wholeC (s:List UInt8) (hs:s.length≤Lim):Pure Tryz.prog 284 [.str s] (.int .i64 (wholeN s)):=by
 refine Pure.go ir284 ck284 (Nat.le_refl _) fun KP Q hQ=>?_
 simp only [Lim] at hs
 simp (disch:=first|omega|assumption) only [ir284,go_sem,↓reduceIte]
 refine goK_pure (prefixC s [45]) ?_
 rw [prefix1]
 by_cases h:s.head?=some 45
 ·cases s with
  | nil=>simp at h
  | cons c r =>
   have hc:c=45:=by simpa using h
   subst hc
   simp only [List.length_cons] at hs
   have h1:(1:Int)≤((r.length+1:Nat):Int):=by omega
   have h2:(1:Int)<((r.length+1:Nat):Int)∨r=[]:=by cases r<;>simp;omega
   simp (disch:=first|omega|assumption) only [h,h1,Int.toNat_one,go_sem,↓reduceIte]
   refine goK_pure (digitsC r (by simp only [Lim];omega)) ?_
   by_cases h0:run1 r=0
   ·simp (disch:=first|omega|assumption) only [h0,go_sem,↓reduceIte]
    exact hQ _ _ _ _ nofun rfl (by simp [tupOf,envOf,AV.strip,AV.strip1,wholeN,h0])
   ·have h0':¬ ((run1 r:Int)=0):=by omega
    have hrl:=run1_le r
    have hlt:(1:Int)<((r.length+1:Nat):Int):=by omega
    have e:=u8_is (r.getD 0 0) 48 (by omega)
    by_cases h48:r.getD 0 0=48
    ·have hi:intN r=1:=by simp only [intN,h0,h48,if_false,if_true]
     simp (disch:=first|omega|assumption) only [h0',hlt,Int.toNat_one,h48,UInt8.reduceToNat,wrap64,go_sem,↓reduceIte]
     exact hQ _ _ _ _ nofun rfl (by simp [tupOf,envOf,AV.strip,AV.strip1,wholeN,h0,hi])
    ·have h48':¬ ((r.getD 0 0).toNat:Int)=48:=by
      intro hh
      rw [decide_eq_true (by exact hh)] at e
      exact h48 (by simpa using e.symm)
     have hi:intN r=run1 r:=by simp only [intN,h0,h48,if_false]
     simp (disch:=first|omega|assumption) only [h0',hlt,Int.toNat_one,h48',wrap64,go_sem,↓reduceIte]
     exact hQ _ _ _ _ nofun rfl (by simp [tupOf,envOf,AV.strip,AV.strip1,wholeN,h0,hi])
 ·simp (disch:=first|omega|assumption) only [h,go_sem,↓reduceIte]
  refine goK_pure (digitsC s (by simp only [Lim];omega)) ?_
  by_cases h0:run1 s=0
  ·simp (disch:=first|omega|assumption) only [h0,go_sem,↓reduceIte]
   exact hQ _ _ _ _ nofun rfl (by simp [tupOf,envOf,AV.strip,AV.strip1,wholeN,h,intN,h0])
  ·have h0':¬ ((run1 s:Int)=0):=by omega
   have hrl:=run1_le s
   have hlt:(0:Int)<(s.length:Int):=by omega
   have e:=u8_is (s.getD 0 0) 48 (by omega)
   by_cases h48:s.getD 0 0=48
   ·have hi:intN s=1:=by simp only [intN,h0,h48,if_false,if_true]
    simp (disch:=first|omega|assumption) only [h0',hlt,h48,UInt8.reduceToNat,wrap64,go_sem,↓reduceIte]
    exact hQ _ _ _ _ nofun rfl (by simp [tupOf,envOf,AV.strip,AV.strip1,wholeN,h,hi])
   ·have h48':¬ ((s.getD 0 0).toNat:Int)=48:=by
     intro hh
     rw [decide_eq_true (by exact hh)] at e
     exact h48 (by simpa using e.symm)
    have hi:intN s=run1 s:=by simp only [intN,h0,h48,if_false]
    simp (disch:=first|omega|assumption) only [h0',hlt,h48',wrap64,go_sem,↓reduceIte]
    exact hQ _ _ _ _ nofun rfl (by simp [tupOf,envOf,AV.strip,AV.strip1,wholeN,h,hi])
def isE (c:UInt8):Bool:=decide (c=101) || decide (c=69)
def sgN (r:List UInt8):Nat:=if r.head?=some 43∨r.head?=some 45 then 1 else 0
def powN:List UInt8→Nat
 | []=>0
 | c :: r=>if isE c then (if run1 (r.drop (sgN r))=0 then 0 else 1+sgN r+run1 (r.drop (sgN r))) else 0
theorem sgN_le (r:List UInt8):sgN r≤r.length:=by
 unfold sgN
 split
 ·cases r<;>simp_all
 ·omega
theorem powN_le:∀ s,powN s≤s.length
 | []=>by simp [powN]
 | c :: r=>by
  have h:=run1_le (r.drop (sgN r))
  have h2:=sgN_le r
  rw [List.length_drop] at h
  simp only [powN,List.length_cons]
  split
  ·split<;>omega
  ·omega
theorem powerC (s:List UInt8) (hs:s.length≤Lim):Pure Tryz.prog 286 [.str s] (.int .i64 (powN s)):=by
 refine Pure.go ir286 ck286 (Nat.le_refl _) fun KP Q hQ=>?_
 simp only [Lim] at hs
 cases s with
 | nil =>
  simp (disch:=first|omega|assumption) only [ir286,go_sem,↓reduceIte]
  exact hQ _ _ _ _ nofun rfl (by simp [tupOf,envOf,AV.strip,AV.strip1,powN])
 | cons c r =>
  simp only [List.length_cons] at hs
  have hne:¬ (c :: r=[]):=by simp
  have hp:(0:Int)<((r.length+1:Nat):Int):=by omega
  have e1:=u8_is c 101 (by omega)
  have e2:=u8_is c 69 (by omega)
  have hE:∀ (P:Prop),P→P:=fun _ h=>h
  by_cases hc:isE c=true
  case neg =>
   have hc1:¬ (c.toNat:Int)=101:=by
    intro hh;rw [decide_eq_true (by exact hh)] at e1
    exact hc (by simp [isE,(by simpa using e1.symm:c=101)])
   have hc2:¬ (c.toNat:Int)=69:=by
    intro hh;rw [decide_eq_true (by exact hh)] at e2
    exact hc (by simp [isE,(by simpa using e2.symm:c=69)])
   simp (disch:=first|omega|assumption) only [ir286,hne,hp,hc1,hc2,go_sem,↓reduceIte]
   have hcf:isE c=false:=by simpa using hc
   exact hQ _ _ _ _ nofun rfl (by simp [tupOf,envOf,AV.strip,AV.strip1,powN,hcf])
  have fin:∀ k:Nat,run1 (r.drop (sgN r))=k→powN (c :: r)=if k=0 then 0 else 1+sgN r+k:=fun k hk=>by subst hk;simp only [powN,hc,if_true]
  have hcase:(c.toNat:Int)=101∨(¬ (c.toNat:Int)=101∧(c.toNat:Int)=69):=by
   simp only [isE,Bool.or_eq_true,decide_eq_true_eq] at hc
   rcases hc with rfl|rfl
   ·exact .inl rfl
   ·exact .inr ⟨by decide,rfl⟩
  have hdl:=run1_le (r.drop (sgN r))
  rw [List.length_drop] at hdl
  have hsl:=sgN_le r
  cases r with
  | nil =>
   have k0:=fin 0 (by simp [sgN,run1])
   rcases hcase with h1|⟨h1,h2⟩
   ·simp (disch:=first|omega|assumption) only [ir286,h1,go_sem,↓reduceIte]
    refine goK_pure (digitsC [] (by simp)) ?_
    simp (disch:=first|omega|assumption) only [run1,go_sem,↓reduceIte]
    exact hQ _ _ _ _ nofun rfl (by simp [tupOf,envOf,AV.strip,AV.strip1,k0])
   ·simp (disch:=first|omega|assumption) only [ir286,h1,h2,go_sem,↓reduceIte]
    refine goK_pure (digitsC [] (by simp)) ?_
    simp (disch:=first|omega|assumption) only [run1,go_sem,↓reduceIte]
    exact hQ _ _ _ _ nofun rfl (by simp [tupOf,envOf,AV.strip,AV.strip1,k0])
  | cons d t =>
   simp only [List.length_cons] at hs
   have hl1:(1:Int)<((t.length+1+1:Nat):Int):=by omega
   have hl2:(2:Int)≤((t.length+1+1:Nat):Int):=by omega
   have hl3:(1:Int)≤((t.length+1+1:Nat):Int):=by omega
   have f1:=u8_is d 43 (by omega)
   have f2:=u8_is d 45 (by omega)
   by_cases hsg:d=43∨d=45
   ·have hsg1:sgN (d :: t)=1:=by simp only [sgN,List.head?_cons,Option.some.injEq,hsg,if_true]
    have k0:=fin (run1 t) (by rw [hsg1];rfl)
    rw [hsg1] at k0 hdl
    have hd:(d.toNat:Int)=43∨(¬ (d.toNat:Int)=43∧(d.toNat:Int)=45):=by
     rcases hsg with rfl|rfl
     ·exact .inl rfl
     ·exact .inr ⟨by decide,rfl⟩
    rcases hcase with h1|⟨h1,h2⟩<;>rcases hd with h3|⟨h3,h4⟩
    all_goals
     simp only [hl1,hl2,List.length_cons,List.drop_succ_cons,List.drop_zero] at hdl
    ·simp (disch:=first|omega|assumption) only [ir286,h1,h3,hl1,hl2,Int.toNat_one,go_sem,↓reduceIte]
     refine goK_pure (digitsC t (by simp only [Lim];omega)) ?_
     by_cases hz:run1 t=0
     ·simp (disch:=first|omega|assumption) only [hz,go_sem,↓reduceIte]
      exact hQ _ _ _ _ nofun rfl (by simp [tupOf,envOf,AV.strip,AV.strip1,k0,hz])
     ·have hz':¬ (run1 t:Int)=0:=by omega
      simp (disch:=first|omega|assumption) only [hz',wrap64,go_sem,↓reduceIte]
      exact hQ _ _ _ _ nofun rfl (by simp [tupOf,envOf,AV.strip,AV.strip1,k0,hz])
    ·simp (disch:=first|omega|assumption) only [ir286,h1,h3,h4,hl1,hl2,Int.toNat_one,go_sem,↓reduceIte]
     refine goK_pure (digitsC t (by simp only [Lim];omega)) ?_
     by_cases hz:run1 t=0
     ·simp (disch:=first|omega|assumption) only [hz,go_sem,↓reduceIte]
      exact hQ _ _ _ _ nofun rfl (by simp [tupOf,envOf,AV.strip,AV.strip1,k0,hz])
     ·have hz':¬ (run1 t:Int)=0:=by omega
      simp (disch:=first|omega|assumption) only [hz',wrap64,go_sem,↓reduceIte]
      exact hQ _ _ _ _ nofun rfl (by simp [tupOf,envOf,AV.strip,AV.strip1,k0,hz])
    ·simp (disch:=first|omega|assumption) only [ir286,h1,h2,h3,hl1,hl2,Int.toNat_one,go_sem,↓reduceIte]
     refine goK_pure (digitsC t (by simp only [Lim];omega)) ?_
     by_cases hz:run1 t=0
     ·simp (disch:=first|omega|assumption) only [hz,go_sem,↓reduceIte]
      exact hQ _ _ _ _ nofun rfl (by simp [tupOf,envOf,AV.strip,AV.strip1,k0,hz])
     ·have hz':¬ (run1 t:Int)=0:=by omega
      simp (disch:=first|omega|assumption) only [hz',wrap64,go_sem,↓reduceIte]
      exact hQ _ _ _ _ nofun rfl (by simp [tupOf,envOf,AV.strip,AV.strip1,k0,hz])
    ·simp (disch:=first|omega|assumption) only [ir286,h1,h2,h3,h4,hl1,hl2,Int.toNat_one,go_sem,↓reduceIte]
     refine goK_pure (digitsC t (by simp only [Lim];omega)) ?_
     by_cases hz:run1 t=0
     ·simp (disch:=first|omega|assumption) only [hz,go_sem,↓reduceIte]
      exact hQ _ _ _ _ nofun rfl (by simp [tupOf,envOf,AV.strip,AV.strip1,k0,hz])
     ·have hz':¬ (run1 t:Int)=0:=by omega
      simp (disch:=first|omega|assumption) only [hz',wrap64,go_sem,↓reduceIte]
      exact hQ _ _ _ _ nofun rfl (by simp [tupOf,envOf,AV.strip,AV.strip1,k0,hz])
   ·have hsg0:sgN (d :: t)=0:=by simp only [sgN,List.head?_cons,Option.some.injEq,hsg,if_false]
    have k0:=fin (run1 (d :: t)) (by rw [hsg0];rfl)
    rw [hsg0] at k0 hdl
    have h3:¬ (d.toNat:Int)=43:=by
     intro hh;rw [decide_eq_true (by exact hh)] at f1
     exact hsg (.inl (by simpa using f1.symm))
    have h4:¬ (d.toNat:Int)=45:=by
     intro hh;rw [decide_eq_true (by exact hh)] at f2
     exact hsg (.inr (by simpa using f2.symm))
    simp only [List.drop_zero,List.length_cons] at hdl
    rcases hcase with h1|⟨h1,h2⟩
    ·simp (disch:=first|omega|assumption) only [ir286,h1,h3,h4,hl1,hl3,Int.toNat_one,go_sem,↓reduceIte]
     refine goK_pure (digitsC (d :: t) (by simp only [Lim,List.length_cons];omega)) ?_
     by_cases hz:run1 (d :: t)=0
     ·simp (disch:=first|omega|assumption) only [hz,go_sem,↓reduceIte]
      exact hQ _ _ _ _ nofun rfl (by simp [tupOf,envOf,AV.strip,AV.strip1,k0,hz])
     ·have hz':¬ (run1 (d :: t):Int)=0:=by omega
      simp (disch:=first|omega|assumption) only [hz',wrap64,go_sem,↓reduceIte]
      exact hQ _ _ _ _ nofun rfl (by simp [tupOf,envOf,AV.strip,AV.strip1,k0,hz])
    ·simp (disch:=first|omega|assumption) only [ir286,h1,h2,h3,h4,hl1,hl3,Int.toNat_one,go_sem,↓reduceIte]
     refine goK_pure (digitsC (d :: t) (by simp only [Lim,List.length_cons];omega)) ?_
     by_cases hz:run1 (d :: t)=0
     ·simp (disch:=first|omega|assumption) only [hz,go_sem,↓reduceIte]
      exact hQ _ _ _ _ nofun rfl (by simp [tupOf,envOf,AV.strip,AV.strip1,k0,hz])
     ·have hz':¬ (run1 (d :: t):Int)=0:=by omega
      simp (disch:=first|omega|assumption) only [hz',wrap64,go_sem,↓reduceIte]
      exact hQ _ _ _ _ nofun rfl (by simp [tupOf,envOf,AV.strip,AV.strip1,k0,hz])
end Go.Proofs.YticbbfbpeimkbaaGreatDoor
namespace Go.Proofs.YticbbfbpeimkbaaGreatDoor
open Go.Ab
def fracN (r:List UInt8):Nat:=if r.head?=some 46∧0<run1 r.tail then 1+run1 r.tail else 0
def numN (s:List UInt8):Nat × Int :=
 if wholeN s=0 then (0,0) else
  (wholeN s+fracN (s.drop (wholeN s))+powN (s.drop (wholeN s+fracN (s.drop (wholeN s)))),if fracN (s.drop (wholeN s))=0∧powN (s.drop (wholeN s+fracN (s.drop (wholeN s))))=0 then 3 else 4)
theorem fracN_le (r:List UInt8):fracN r≤r.length:=by
 unfold fracN
 split
 ·rename_i h
  cases r with
  | nil=>simp at h
  | cons c t=>have:=run1_le t;simp only [List.tail_cons,List.length_cons];omega
 ·omega
theorem numberC (s:List UInt8) (hs:s.length≤Lim):Pure Tryz.prog 225 [.str s] (.tup [.int .i64 (numN s).1,.int .i64 (numN s).2]):=by
 refine Pure.go ir225 ck225 (Nat.le_refl _) fun KP Q hQ=>?_
 have hs':=hs
 simp only [Lim] at hs
 simp (disch:=first|omega|assumption) only [ir225,go_sem,↓reduceIte]
 refine goK_pure (wholeC s hs') ?_
 have hw:=wholeN_le s
 by_cases h0:wholeN s=0
 ·simp (disch:=first|omega|assumption) only [h0,go_sem,↓reduceIte]
  exact hQ _ _ _ _ nofun rfl (by simp [tupOf,envOf,AV.strip,AV.strip1,numN,h0])
 have h0':¬ ((wholeN s:Int)=0):=by omega
 have hwl:(wholeN s:Int)≤s.length:=by omega
 simp (disch:=first|omega|assumption) only [h0',hwl,go_sem,↓reduceIte]
 refine goK_pure (prefixC (s.drop (wholeN s)) [46]) ?_
 rw [prefix1]
 generalize hn:wholeN s=n at *
 have fin:∀ f p:Nat,fracN (s.drop n)=f→powN (s.drop (n+f))=p→numN s=(n+f+p,if f=0∧p=0 then 3 else 4):=fun f p hf hp=>by
  unfold numN
  rw [hn,hf,hp]
  simp only [h0,if_false]
 have hpl:=powN_le (s.drop n)
 rw [List.length_drop] at hpl
 by_cases h46:(s.drop n).head?=some 46
 ·obtain ⟨c,t,hct⟩:∃ c t,s.drop n=c :: t:=by
   cases hx:s.drop n with
   | nil=>rw [hx] at h46;simp at h46
   | cons c t=>exact ⟨c,t,rfl⟩
  have hlen:s.length=n+1+t.length:=by have:=congrArg List.length hct;simp at this;omega
  have hdr:s.drop (n+1)=t:=by rw [← List.drop_drop,hct];rfl
  have hto:((n:Int)+1).toNat=n+1:=by omega
  have hn1:(0:Int)≤(n:Int)+1:=by omega
  have hn2:(n:Int)+1≤s.length:=by omega
  have hrl:=run1_le t
  simp (disch:=first|omega|assumption) only [h46,wrap64,hto,hn1,hn2,hdr,go_sem,↓reduceIte]
  refine goK_pure (digitsC t (by simp only [Lim];omega)) ?_
  by_cases hk:(0:Int)<run1 t
  ·have hk':0<run1 t:=by omega
   have hfr:fracN (s.drop n)=1+run1 t:=by unfold fracN;rw [if_pos ⟨h46,by rw [hct];exact hk'⟩,hct];rfl
   have hto2:((n:Int)+1+run1 t).toNat=n+(1+run1 t):=by omega
   have hn3:(0:Int)≤(n:Int)+1+run1 t:=by omega
   have hn4:(n:Int)+1+run1 t≤s.length:=by omega
   have hpl2:=powN_le (s.drop (n+(1+run1 t)))
   rw [List.length_drop] at hpl2
   simp (disch:=first|omega|assumption) only [hk,wrap64,hto2,hn3,hn4,go_sem,↓reduceIte]
   refine goK_pure (powerC (s.drop (n+(1+run1 t))) (by rw [List.length_drop];simp only [Lim];omega)) ?_
   have hf:=fin _ _ hfr rfl
   generalize hp:powN (s.drop (n+(1+run1 t)))=p at *
   by_cases hp0:(0:Int)<p
   ·simp (disch:=first|omega|assumption) only [hp0,wrap64,go_sem,↓reduceIte]
    exact hQ _ _ _ _ nofun rfl (by simp [tupOf,envOf,AV.strip,AV.strip1,hf,Int.add_assoc])
   ·have hp00:p=0:=by omega
    subst hp00
    simp (disch:=first|omega|assumption) only [go_sem,↓reduceIte]
    exact hQ _ _ _ _ nofun rfl (by simp [tupOf,envOf,AV.strip,AV.strip1,hf,Int.add_assoc])
  ·have hk0:run1 t=0:=by omega
   have hfr:fracN (s.drop n)=0:=by unfold fracN;exact if_neg fun hh=>by have:=hh.2;rw [hct] at this;simp only [List.tail_cons] at this;omega
   simp (disch:=first|omega|assumption) only [hk,hwl,go_sem,↓reduceIte]
   refine goK_pure (powerC (s.drop n) (by rw [List.length_drop];simp only [Lim];omega)) ?_
   have hf:=fin _ _ hfr rfl
   rw [Nat.add_zero] at hf
   generalize hp:powN (s.drop n)=p at *
   by_cases hp0:(0:Int)<p
   ·have hp1:¬ p=0:=by omega
    simp (disch:=first|omega|assumption) only [hp0,wrap64,go_sem,↓reduceIte]
    exact hQ _ _ _ _ nofun rfl (by simp [tupOf,envOf,AV.strip,AV.strip1,hf,hp1])
   ·have hp00:p=0:=by omega
    subst hp00
    simp (disch:=first|omega|assumption) only [go_sem,↓reduceIte]
    exact hQ _ _ _ _ nofun rfl (by simp [tupOf,envOf,AV.strip,AV.strip1,hf])
 ·have hfr:fracN (s.drop n)=0:=by unfold fracN;exact if_neg fun hh=>h46 hh.1
  simp (disch:=first|omega|assumption) only [h46,hwl,go_sem,↓reduceIte]
  refine goK_pure (powerC (s.drop n) (by rw [List.length_drop];simp only [Lim];omega)) ?_
  have hf:=fin _ _ hfr rfl
  rw [Nat.add_zero] at hf
  generalize hp:powN (s.drop n)=p at *
  by_cases hp0:(0:Int)<p
  ·have hp1:¬ p=0:=by omega
   simp (disch:=first|omega|assumption) only [hp0,wrap64,go_sem,↓reduceIte]
   exact hQ _ _ _ _ nofun rfl (by simp [tupOf,envOf,AV.strip,AV.strip1,hf,hp1])
  ·have hp00:p=0:=by omega
   subst hp00
   simp (disch:=first|omega|assumption) only [go_sem,↓reduceIte]
   exact hQ _ _ _ _ nofun rfl (by simp [tupOf,envOf,AV.strip,AV.strip1,hf])
def numK (s:List UInt8):Int:=if (numN s).1=s.length then (numN s).2 else 0
theorem NumberC (s:List UInt8) (hs:s.length≤Lim):Pure Tryz.prog 207 [.str s] (.int .i64 (numK s)):=by
 refine Pure.go ir207 ck207 (Nat.le_refl _) fun KP Q hQ=>?_
 simp (disch:=first|omega|assumption) only [ir207,go_sem,↓reduceIte]
 refine goK_pure (numberC s hs) ?_
 by_cases h:(numN s).1=s.length
 ·have h':(((numN s).1:Int)=s.length)=True:=eq_true (by omega)
  simp (disch:=first|omega|assumption) only [h',go_sem,↓reduceIte]
  exact hQ _ _ _ _ nofun rfl (by simp [tupOf,envOf,AV.strip,AV.strip1,numK,h])
 ·have h':¬ ((numN s).1:Int)=s.length:=by omega
  simp (disch:=first|omega|assumption) only [h',go_sem,↓reduceIte]
  exact hQ _ _ _ _ nofun rfl (by simp [tupOf,envOf,AV.strip,AV.strip1,numK,h])
def okI:Lib.NumEnd Int→Bool
 | .ok _=>true
 | _=>false
def valI (s:List UInt8):Int:=match Lib.parseIntB 64 s with
 | .ok v=>v
 | Lib.NumEnd.syntax=>0
 | .range=>Lib.intSat 64 s
def wholeB (s:List UInt8):Bool:=okI (Lib.parseIntB 64 s) && decide (numK s=3)
theorem WholeC (s:List UInt8) (hs:s.length≤Lim):Pure Tryz.prog 176 [.str s] (.tup [.int .i64 (valI s),.bool (wholeB s)]):=by
 refine Pure.go ir176 ck176 (Nat.le_refl _) fun KP Q hQ=>?_
 simp (disch:=first|omega|assumption) only [ir176,go_sem,↓reduceIte]
 refine goK_pure (parseIntC s (by simp only [Lim] at hs;omega)) ?_
 rcases hp:Lib.parseIntB 64 s with v|_|_
 ·simp (disch:=first|omega|assumption) only [parseA,hp,go_sem,↓reduceIte]
  refine goK_pure (NumberC s hs) ?_
  simp (disch:=first|omega|assumption) only [go_sem,↓reduceIte]
  exact hQ _ _ _ _ nofun rfl (by simp [tupOf,envOf,AV.strip,AV.strip1,valI,wholeB,hp,okI])
 ·simp (disch:=first|omega|assumption) only [parseA,hp,go_sem,↓reduceIte]
  exact hQ _ _ _ _ nofun rfl (by simp [tupOf,envOf,AV.strip,AV.strip1,valI,wholeB,hp,okI])
 ·simp (disch:=first|omega|assumption) only [parseA,hp,go_sem,↓reduceIte]
  exact hQ _ _ _ _ nofun rfl (by simp [tupOf,envOf,AV.strip,AV.strip1,valI,wholeB,hp,okI])
def numB (s:List UInt8):Bool:=decide (numK s=4) || (decide (numK s=3) && !wholeB s)
theorem numC (s:List UInt8) (hs:s.length≤Lim):Pure Tryz.prog 309 [.str s] (.bool (numB s)):=by
 refine Pure.go ir309 ck309 (Nat.le_refl _) fun KP Q hQ=>?_
 simp (disch:=first|omega|assumption) only [ir309,go_sem,↓reduceIte]
 refine goK_pure (NumberC s hs) ?_
 simp (disch:=first|omega|assumption) only [go_sem,↓reduceIte]
 refine goK_pure (WholeC s hs) ?_
 by_cases h4:numK s=4
 ·simp (disch:=first|omega|assumption) only [h4,go_sem,↓reduceIte]
  exact hQ _ _ _ _ nofun rfl (by simp [tupOf,envOf,AV.strip,AV.strip1,numB,h4])
 ·by_cases h3:numK s=3
  ·simp (disch:=first|omega|assumption) only [h4,h3,go_sem,↓reduceIte]
   exact hQ _ _ _ _ nofun rfl (by simp [tupOf,envOf,AV.strip,AV.strip1,numB,h4,h3])
  ·simp (disch:=first|omega|assumption) only [h4,h3,go_sem,↓reduceIte]
   exact hQ _ _ _ _ nofun rfl (by simp [tupOf,envOf,AV.strip,AV.strip1,numB,h4,h3])
def resB (s:List UInt8):Bool:=decide (s=[116,114,117,101]) || (decide (s=[102,97,108,115,101]) || decide (s=[110,117,108,108]))
theorem resC (s:List UInt8):Pure Tryz.prog 310 [.str s] (.bool (resB s)):=by
 refine Pure.go ir310 ck310 (Nat.le_refl _) fun KP Q hQ=>?_
 by_cases h1:s=[116,114,117,101]
 ·simp (disch:=first|omega|assumption) only [ir310,h1,go_sem,↓reduceIte]
  exact hQ _ _ _ _ nofun rfl (by simp [tupOf,envOf,AV.strip,AV.strip1,resB,h1])
 ·by_cases h2:s=[102,97,108,115,101]
  ·subst h2
   have h3:¬ ([102,97,108,115,101]:List UInt8)=[116,114,117,101]:=by decide
   simp (disch:=first|omega|assumption) only [ir310,h3,go_sem,↓reduceIte]
   exact hQ _ _ _ _ nofun rfl (by simp [tupOf,envOf,AV.strip,AV.strip1,resB,h3])
  ·simp (disch:=first|omega|assumption) only [ir310,h1,h2,go_sem,↓reduceIte]
   exact hQ _ _ _ _ nofun rfl (by simp [tupOf,envOf,AV.strip,AV.strip1,resB,h1,h2])
theorem goodC (s:List UInt8) (hs:s.length≤Lim):Pure Tryz.prog 202 [.str s] (.bool (Lib.validD s)):=by
 refine Pure.go ir202 ck202 (Nat.le_refl _) fun KP Q hQ=>?_
 simp (disch:=first|omega|assumption) only [ir202,go_sem,↓reduceIte]
 refine goK_pure (validC s (by simp only [Lim] at hs;omega)) ?_
 simp (disch:=first|omega|assumption) only [go_sem,↓reduceIte]
 exact hQ _ _ _ _ nofun rfl (by simp [tupOf,envOf,AV.strip,AV.strip1])
def bareM (n:Int) (s:List UInt8) (l:List Val) (m:List Mem):Bool:=decide (n=0) && (decide (s=[]) && (decide (l.length=0) && decide (m.length=0)))
theorem bareC (k n:Int) (s:List UInt8) (l:List Val) (m:List Mem):Pure Tryz.prog 267 [.agg (cV (.mk k n s l m))] (.bool (bareM n s l m)):=by
 refine Pure.go ir267 ck267 (Nat.le_refl _) fun KP Q hQ=>?_
 have h1:=cVs_len l
 have h2:=cMs_len m
 by_cases g1:n=0
 case neg =>
  simp (disch:=first|omega|assumption) only [ir267,cV_mk,g1,go_sem,↓reduceIte]
  exact hQ _ _ _ _ nofun rfl (by simp [tupOf,envOf,AV.strip,AV.strip1,bareM,g1])
 by_cases g2:s=[]
 case neg =>
  simp (disch:=first|omega|assumption) only [ir267,cV_mk,g1,g2,go_sem,↓reduceIte]
  exact hQ _ _ _ _ nofun rfl (by simp [tupOf,envOf,AV.strip,AV.strip1,bareM,g2])
 by_cases g3:l.length=0
 case neg =>
  simp (disch:=first|omega|assumption) only [ir267,cV_mk,g1,g2,h1,g3,go_sem,↓reduceIte]
  exact hQ _ _ _ _ nofun rfl (by simp [tupOf,envOf,AV.strip,AV.strip1,bareM,g3])
 have e:decide ((m.length:Int)=0)=decide (m.length=0):=by rw [decide_eq_decide];omega
 simp (disch:=first|omega|assumption) only [ir267,cV_mk,g1,g2,h1,h2,g3,go_sem,↓reduceIte]
 exact hQ _ _ _ _ nofun rfl (by simp [tupOf,envOf,AV.strip,AV.strip1,bareM,g1,g2,g3,e])
def singleM (k n:Int) (s:List UInt8) (l:List Val) (m:List Mem):Bool :=
 bareM 0 [] l m && (if k=0 then decide (n=0) && decide (s=[]) else if k=1 then (decide (n=0) || decide (n=1)) && decide (s=[]) else if k=2 then decide (s=[])
  else if k=3 then decide (n=0) && numB s else if k=4 then decide (n=0) && Lib.validD s else if k=5 then decide (n=0) && (nameM s && !resB s) else if k=8 then decide (n=0) && nameM s else false)
theorem singleC (k n:Int) (s:List UInt8) (l:List Val) (m:List Mem) (hs:s.length≤Lim):Pure Tryz.prog 266 [.agg (cV (.mk k n s l m))] (.bool (singleM k n s l m)):=by
 refine Pure.go ir266 ck266 (Nat.le_refl _) fun KP Q hQ=>?_
 simp (disch:=first|omega|assumption) only [ir266,cV_mk,go_sem,↓reduceIte]
 refine goA_intro fun b hb=>?_
 simp (disch:=first|omega|assumption) only [go_sem,↓reduceIte]
 refine goK_pure (bareC k 0 [] l m) ?_
 cases hb:bareM 0 [] l m with
 | false =>
  simp (disch:=first|omega|assumption) only [hb,go_sem,↓reduceIte]
  exact hQ _ _ _ _ nofun rfl (by simp [tupOf,envOf,AV.strip,AV.strip1,singleM,hb])
 | true =>
  by_cases k0:k=0
  ·by_cases n0:n=0
   ·simp (disch:=first|omega|assumption) only [hb,k0,n0,go_sem,↓reduceIte]
    exact hQ _ _ _ _ nofun rfl (by simp [tupOf,envOf,AV.strip,AV.strip1,singleM,hb,k0,n0])
   ·simp (disch:=first|omega|assumption) only [hb,k0,n0,go_sem,↓reduceIte]
    exact hQ _ _ _ _ nofun rfl (by simp [tupOf,envOf,AV.strip,AV.strip1,singleM,hb,k0,n0])
  by_cases k1:k=1
  ·by_cases n0:n=0
   ·simp (disch:=first|omega|assumption) only [hb,k0,k1,n0,go_sem,↓reduceIte]
    exact hQ _ _ _ _ nofun rfl (by simp [tupOf,envOf,AV.strip,AV.strip1,singleM,hb,k1,n0])
   ·by_cases n1:n=1
    ·simp (disch:=first|omega|assumption) only [hb,k0,k1,n0,n1,go_sem,↓reduceIte]
     exact hQ _ _ _ _ nofun rfl (by simp [tupOf,envOf,AV.strip,AV.strip1,singleM,hb,k1,n1])
    ·simp (disch:=first|omega|assumption) only [hb,k0,k1,n0,n1,go_sem,↓reduceIte]
     exact hQ _ _ _ _ nofun rfl (by simp [tupOf,envOf,AV.strip,AV.strip1,singleM,hb,k1,n0,n1])
  by_cases k2:k=2
  ·simp (disch:=first|omega|assumption) only [hb,k0,k1,k2,go_sem,↓reduceIte]
   exact hQ _ _ _ _ nofun rfl (by simp [tupOf,envOf,AV.strip,AV.strip1,singleM,hb,k2])
  by_cases k3:k=3
  ·by_cases n0:n=0
   ·simp (disch:=first|omega|assumption) only [hb,k0,k1,k2,k3,n0,go_sem,↓reduceIte]
    refine goK_pure (numC s hs) ?_
    simp (disch:=first|omega|assumption) only [go_sem,↓reduceIte]
    exact hQ _ _ _ _ nofun rfl (by simp [tupOf,envOf,AV.strip,AV.strip1,singleM,hb,k3,n0])
   ·simp (disch:=first|omega|assumption) only [hb,k0,k1,k2,k3,n0,go_sem,↓reduceIte]
    exact hQ _ _ _ _ nofun rfl (by simp [tupOf,envOf,AV.strip,AV.strip1,singleM,hb,k3,n0])
  by_cases k4:k=4
  ·by_cases n0:n=0
   ·simp (disch:=first|omega|assumption) only [hb,k0,k1,k2,k3,k4,n0,go_sem,↓reduceIte]
    refine goK_pure (goodC s hs) ?_
    simp (disch:=first|omega|assumption) only [go_sem,↓reduceIte]
    exact hQ _ _ _ _ nofun rfl (by simp [tupOf,envOf,AV.strip,AV.strip1,singleM,hb,k4,n0])
   ·simp (disch:=first|omega|assumption) only [hb,k0,k1,k2,k3,k4,n0,go_sem,↓reduceIte]
    exact hQ _ _ _ _ nofun rfl (by simp [tupOf,envOf,AV.strip,AV.strip1,singleM,hb,k4,n0])
  by_cases k5:k=5
  ·by_cases n0:n=0
   ·simp (disch:=first|omega|assumption) only [hb,k0,k1,k2,k3,k4,k5,n0,go_sem,↓reduceIte]
    refine goK_pure (nameC s hs) ?_
    cases hn:nameM s with
    | true =>
     simp (disch:=first|omega|assumption) only [hn,go_sem,↓reduceIte]
     refine goK_pure (resC s) ?_
     simp (disch:=first|omega|assumption) only [go_sem,↓reduceIte]
     exact hQ _ _ _ _ nofun rfl (by simp [tupOf,envOf,AV.strip,AV.strip1,singleM,hb,k5,n0,hn])
    | false =>
     simp (disch:=first|omega|assumption) only [hn,go_sem,↓reduceIte]
     exact hQ _ _ _ _ nofun rfl (by simp [tupOf,envOf,AV.strip,AV.strip1,singleM,hb,k5,n0,hn])
   ·simp (disch:=first|omega|assumption) only [hb,k0,k1,k2,k3,k4,k5,n0,go_sem,↓reduceIte]
    exact hQ _ _ _ _ nofun rfl (by simp [tupOf,envOf,AV.strip,AV.strip1,singleM,hb,k5,n0])
  by_cases k8:k=8
  ·by_cases n0:n=0
   ·simp (disch:=first|omega|assumption) only [hb,k0,k1,k2,k3,k4,k5,k8,n0,go_sem,↓reduceIte]
    refine goK_pure (nameC s hs) ?_
    simp (disch:=first|omega|assumption) only [go_sem,↓reduceIte]
    exact hQ _ _ _ _ nofun rfl (by simp [tupOf,envOf,AV.strip,AV.strip1,singleM,hb,k8,n0])
   ·simp (disch:=first|omega|assumption) only [hb,k0,k1,k2,k3,k4,k5,k8,n0,go_sem,↓reduceIte]
    exact hQ _ _ _ _ nofun rfl (by simp [tupOf,envOf,AV.strip,AV.strip1,singleM,hb,k8,n0])
  ·simp (disch:=first|omega|assumption) only [hb,k0,k1,k2,k3,k4,k5,k8,go_sem,↓reduceIte]
   exact hQ _ _ _ _ nofun rfl (by simp [tupOf,envOf,AV.strip,AV.strip1,singleM,hb,k0,k1,k2,k3,k4,k5,k8])
end Go.Proofs.YticbbfbpeimkbaaGreatDoor
namespace Go.Proofs.YticbbfbpeimkbaaGreatDoor
open Go.Ab
mutual
def allV (may:List UInt8→Bool):Val→Bool
 | .mk k n s l m=>if k=6 then allVs may l && bareM n s [] m else if k=7 then allMs may m && bareM n s l [] else singleM k n s l m
def allVs (may:List UInt8→Bool):List Val→Bool
 | []=>true
 | v :: r=>allV may v && allVs may r
def allM (may:List UInt8→Bool):Mem→Bool
 | .mk s v=>may s && allV may v
def allMs (may:List UInt8→Bool):List Mem→Bool
 | []=>true
 | x :: r=>allM may x && allMs may r
end
theorem allC (f:FuncId) (hf:Program.callable Tryz.prog f=true) (may:List UInt8→Bool) (hmay:∀ s:List UInt8,s.length≤Lim→Pure Tryz.prog f [.str s] (.bool (may s))) :
  ∀ v,bV v≤Lim→Pure Tryz.prog 201 [.agg (cV v),.clo f [] []] (.bool (allV may v)):=by
 refine Val.ind fun k n s l m ihl ihm hb=>?_
 have hb':1+s.length+bVs l+bMs m≤Lim:=hb
 have hll:=bVs_len l
 have hml:=bMs_len m
 have h1:=cVs_len l
 have h2:=cMs_len m
 simp only [Lim] at hb'
 refine Pure.go ir201 ck201 (Nat.le_refl _) fun KP Q hQ=>?_
 simp (disch:=first|omega|assumption) only [ir201,cV_mk,go_sem,↓reduceIte]
 refine goA_intro fun b hb=>?_
 by_cases k6:k=6
 ·subst k6
  simp (disch:=first|omega|assumption) only [h1,go_sem,↓reduceIte]
  refine goL_range l 22 (fun _:Unit=>[(6,.bool true)]) (fun done rest _ H=>allVs may rest=allVs may l∧H b=some (.cells [.int .i64 6,.int .i64 n,.str s,.sl .nil 5 [],.sl .no 6 (cMs m)])) () (by simp (disch:=first|omega|assumption) only [go_sem,↓reduceIte]) ⟨rfl,by simp [Heap.upd]⟩ ?_ ?_
  ·rintro _ H J ⟨hn,hH⟩ hlt
   simp only [allVs] at hn
   simp (disch:=first|omega|assumption) only [h1,hlt,hH,go_sem,↓reduceIte]
   refine goK_pure (Pure.low (bareC 6 n s [] m)) ?_
   simp (disch:=first|omega|assumption) only [go_sem,↓reduceIte]
   exact hQ _ _ _ _ nofun rfl (by simp [tupOf,envOf,AV.strip,AV.strip1,allV,← hn])
  ·rintro done x rest _ H J hd hlt _ ⟨hn,hH⟩ hJ
   have hg:=cVs_get hd
   have hbm:=bVs_mid done x rest
   rw [← hd] at hbm
   simp only [allVs] at hn
   simp (disch:=first|omega|assumption) only [cV_len,cV_take,cV_splice,cM_len,cM_take,cM_splice,cM_mk,h1,hlt,hg,go_sem,↓reduceIte]
   refine goA_intro fun b2 hb2=>?_
   have hne:=ne_of_none hb2 hH
   simp (disch:=first|omega|assumption) only [cV_len,cV_take,cV_splice,cM_len,cM_take,cM_splice,cM_mk,go_sem,↓reduceIte]
   refine goK_pure (ihl x (by rw [hd];simp) (by simp only [Lim];omega)) ?_
   cases hx:allV may x with
   | true =>
    simp only [hx,Bool.true_and] at hn
    simp (disch:=first|omega|assumption) only [hx,go_sem,↓reduceIte]
    exact goJ (hJ () _ ⟨hn,by simp [Heap.upd,Ne.symm hne,hH]⟩) (by simp (disch:=first|omega|assumption) only [wrap64,go_sem,↓reduceIte])
   | false =>
    simp only [hx,Bool.false_and] at hn
    simp (disch:=first|omega|assumption) only [hx,go_sem,↓reduceIte]
    exact hQ _ _ _ _ nofun rfl (by simp [tupOf,envOf,AV.strip,AV.strip1,allV,← hn])
 by_cases k7:k=7
 ·subst k7
  simp (disch:=first|omega|assumption) only [h2,go_sem,↓reduceIte]
  refine goL_range m 38 (fun _:Unit=>[(6,.bool true)]) (fun done rest _ H=>allMs may rest=allMs may m∧H b=some (.cells [.int .i64 7,.int .i64 n,.str s,.sl .no 5 (cVs l),.sl .nil 6 []])) () (by simp (disch:=first|omega|assumption) only [go_sem,↓reduceIte]) ⟨rfl,by simp [Heap.upd]⟩ ?_ ?_
  ·rintro _ H J ⟨hn,hH⟩ hlt
   simp only [allMs] at hn
   simp (disch:=first|omega|assumption) only [h2,hlt,hH,go_sem,↓reduceIte]
   refine goK_pure (Pure.low (bareC 7 n s l [])) ?_
   simp (disch:=first|omega|assumption) only [go_sem,↓reduceIte]
   exact hQ _ _ _ _ nofun rfl (by simp [tupOf,envOf,AV.strip,AV.strip1,allV,← hn])
  ·rintro done x rest _ H J hd hlt _ ⟨hn,hH⟩ hJ
   have hg:=cMs_get hd
   have hbm:=bMs_mid done x rest
   rw [← hd] at hbm
   have hmem:x ∈ m:=by rw [hd];simp
   obtain ⟨t,v⟩:=x
   simp only [allMs,allM,bM] at hn hbm
   simp (disch:=first|omega|assumption) only [cV_len,cV_take,cV_splice,cM_len,cM_take,cM_splice,cM_mk,h2,hlt,hg,go_sem,↓reduceIte]
   refine goA_intro fun b2 hb2=>?_
   have hne:=ne_of_none hb2 hH
   simp (disch:=first|omega|assumption) only [cV_len,cV_take,cV_splice,cM_len,cM_take,cM_splice,cM_mk,go_sem,↓reduceIte]
   refine ⟨hf,goK_pure (hmay t (by simp only [Lim];omega)) ?_⟩
   cases ht:may t with
   | true =>
    simp (disch:=first|omega|assumption) only [cV_len,cV_take,cV_splice,cM_len,cM_take,cM_splice,cM_mk,ht,go_sem,↓reduceIte]
    refine goK_pure (ihm t v hmem (by simp only [Lim];omega)) ?_
    cases hx:allV may v with
    | true =>
     simp only [ht,hx,Bool.true_and] at hn
     simp (disch:=first|omega|assumption) only [hx,go_sem,↓reduceIte]
     exact goJ (hJ () _ ⟨hn,by simp [Heap.upd,Ne.symm hne,hH]⟩) (by simp (disch:=first|omega|assumption) only [wrap64,go_sem,↓reduceIte])
    | false =>
     simp only [ht,hx,Bool.true_and,Bool.false_and] at hn
     simp (disch:=first|omega|assumption) only [hx,go_sem,↓reduceIte]
     exact hQ _ _ _ _ nofun rfl (by simp [tupOf,envOf,AV.strip,AV.strip1,allV,← hn])
   | false =>
    simp only [ht,Bool.false_and] at hn
    simp (disch:=first|omega|assumption) only [cV_len,cV_take,cV_splice,cM_len,cM_take,cM_splice,cM_mk,ht,go_sem,↓reduceIte]
    exact hQ _ _ _ _ nofun rfl (by simp [tupOf,envOf,AV.strip,AV.strip1,allV,← hn])
 ·simp (disch:=first|omega|assumption) only [k6,k7,go_sem,↓reduceIte]
  refine goK_pure (singleC k n s l m (by simp only [Lim];omega)) ?_
  simp (disch:=first|omega|assumption) only [go_sem,↓reduceIte]
  exact hQ _ _ _ _ nofun rfl (by simp [tupOf,envOf,AV.strip,AV.strip1,allV,k6,k7])
def goodV (v:Val):Bool:=allV Lib.validD v
def plainV (v:Val):Bool:=allV nameM v && decide (depthV v≤16)
theorem plainVC (v:Val) (hb:bV v≤Lim):Pure Tryz.prog 117 [.agg (cV v)] (.bool (plainV v)):=by
 refine Pure.go ir117 ck117 (Nat.le_refl _) fun KP Q hQ=>?_
 simp (disch:=first|omega|assumption) only [cV_len,cV_take,cV_splice,cM_len,cM_take,cM_splice,cM_mk,ir117,go_sem,↓reduceIte]
 refine goK_pure (allC _ (by kernel_rfl) nameM nameC v hb) ?_
 cases h:allV nameM v with
 | true =>
  simp (disch:=first|omega|assumption) only [cV_len,cV_take,cV_splice,cM_len,cM_take,cM_splice,cM_mk,h,go_sem,↓reduceIte]
  refine goK_pure (depthC v hb) ?_
  simp (disch:=first|omega|assumption) only [go_sem,↓reduceIte]
  exact hQ _ _ _ _ nofun rfl (by simp [tupOf,envOf,AV.strip,AV.strip1,plainV,h])
 | false =>
  simp (disch:=first|omega|assumption) only [h,go_sem,↓reduceIte]
  exact hQ _ _ _ _ nofun rfl (by simp [tupOf,envOf,AV.strip,AV.strip1,plainV,h])
theorem wordC (s:List UInt8):Pure Tryz.prog 204 [.str s] (.agg (cK ⟨2,s⟩)):=by
 refine Pure.go ir204 ck204 (Nat.le_refl _) fun KP Q hQ=>?_
 simp (disch:=first|omega|assumption) only [ir204,go_sem,↓reduceIte]
 refine goA_intro fun b hb=>?_
 simp (disch:=first|omega|assumption) only [go_sem,↓reduceIte]
 exact hQ _ _ _ [.agg [.int .i64 2,.str s]] nofun (by simp (disch:=first|omega|assumption) only [ir204,resvs,resv,go_sem,↓reduceIte]) rfl
theorem punctC (s:List UInt8):Pure Tryz.prog 208 [.str s] (.agg (cK ⟨1,s⟩)):=by
 refine Pure.go ir208 ck208 (Nat.le_refl _) fun KP Q hQ=>?_
 simp (disch:=first|omega|assumption) only [ir208,go_sem,↓reduceIte]
 refine goA_intro fun b hb=>?_
 simp (disch:=first|omega|assumption) only [go_sem,↓reduceIte]
 exact hQ _ _ _ [.agg [.int .i64 1,.str s]] nofun (by simp (disch:=first|omega|assumption) only [ir208,resvs,resv,go_sem,↓reduceIte]) rfl
def boolT (b:Bool):List UInt8:=if b then [116,114,117,101] else [102,97,108,115,101]
theorem fmtBool0 (b:Bool):Pure Tryz.prog 269 [.bool b] (.str (boolT b)):=by
 refine Pure.go ir269 ck269 (Nat.le_refl _) fun KP Q hQ=>?_
 cases b
 ·simp (disch:=first|omega|assumption) only [ir269,go_sem,↓reduceIte]
  exact hQ _ _ _ _ nofun rfl (by simp [tupOf,envOf,AV.strip,AV.strip1,boolT])
 ·simp (disch:=first|omega|assumption) only [ir269,go_sem,↓reduceIte]
  exact hQ _ _ _ _ nofun rfl (by simp [tupOf,envOf,AV.strip,AV.strip1,boolT])
theorem fmtBool (b:Bool):Pure Tryz.prog 205 [.bool b] (.str (boolT b)):=by
 refine Pure.go ir205 ck205 (Nat.le_refl _) fun KP Q hQ=>?_
 simp (disch:=first|omega|assumption) only [ir205,go_sem,↓reduceIte]
 refine goK_pure (fmtBool0 b) ?_
 simp (disch:=first|omega|assumption) only [go_sem,↓reduceIte]
 exact hQ _ _ _ _ nofun rfl (by simp [tupOf,envOf,AV.strip,AV.strip1])
mutual
def tokV:Val→List Tok
 | .mk k n s l m=>if k=0 then [⟨2,[110,117,108,108]⟩] else if k=1 then [⟨2,boolT (decide (n=1))⟩] else if k=2 then [⟨3,Lib.itoa n⟩] else if k=3 then [⟨numK s,s⟩] else if k=4 then [⟨5,s⟩]
  else if k=5 then [⟨2,s⟩] else if k=8 then [⟨1,[36]⟩,⟨2,s⟩] else if k=6 then ⟨1,[91]⟩ :: (tokVs l++[⟨1,[93]⟩]) else ⟨1,[123]⟩ :: (tokMs m++[⟨1,[125]⟩])
def tokVs:List Val→List Tok
 | []=>[]
 | v :: r=>tokV v++tokVs r
def tokM:Mem→List Tok
 | .mk s v=>⟨2,s⟩ :: ⟨1,[58]⟩ :: tokV v
def tokMs:List Mem→List Tok
 | []=>[]
 | x :: r=>tokM x++tokMs r
end
mutual
theorem tokV_le:∀ v,(tokV v).length+2≤4*bV v
 | .mk k n s l m=>by
  have h1:=tokVs_le l
  have h2:=tokMs_le m
  simp only [tokV,bV]
  repeat' split
  all_goals simp only [List.length_cons,List.length_append,List.length_nil]
  all_goals omega
theorem tokVs_le:∀ l,(tokVs l).length≤4*bVs l
 | []=>by simp [tokVs]
 | v :: r=>by
  have h1:=tokV_le v
  have h2:=tokVs_le r
  simp only [tokVs,bVs,List.length_append];omega
theorem tokM_le:∀ x,(tokM x).length≤4*bM x
 | .mk s v=>by have:=tokV_le v;simp only [tokM,bM,List.length_cons];omega
theorem tokMs_le:∀ l,(tokMs l).length≤4*bMs l
 | []=>by simp [tokMs]
 | x :: r=>by
  have h1:=tokM_le x
  have h2:=tokMs_le r
  simp only [tokMs,bMs,List.length_append];omega
end
def inR (n:Int):Prop:=-9223372036854775808≤n∧n≤9223372036854775807
mutual
def wfV:Val→Prop
 | .mk _ n _ l m=>inR n∧wfVs l∧wfMs m
def wfVs:List Val→Prop
 | []=>True
 | v :: r=>wfV v∧wfVs r
def wfM:Mem→Prop
 | .mk _ v=>wfV v
def wfMs:List Mem→Prop
 | []=>True
 | x :: r=>wfM x∧wfMs r
end
theorem wfVs_mem:∀ {l:List Val},wfVs l→∀ v ∈ l,wfV v
 | _ :: _,h,v,hv=>(List.mem_cons.1 hv).elim (fun e=>e▸h.1) (wfVs_mem h.2 v)
theorem wfMs_mem:∀ {l:List Mem},wfMs l→∀ s v,Mem.mk s v ∈ l→wfV v
 | _ :: _,h,s,v,hv=>(List.mem_cons.1 hv).elim (fun e=>by have:=h.1;rw [← e] at this;exact this) (wfMs_mem h.2 s v)
theorem cKs_app (a:List Tok) (t:Tok):cKs a++[[.int .i64 t.k,.str t.s]]=cKs (a++[t]):=by simp [cKs,cK]
theorem cKs_app2 (a:List Tok) (t u:Tok):cKs a++[[.int .i64 t.k,.str t.s],[.int .i64 u.k,.str u.s]]=cKs (a++[t,u]):=by simp [cKs,cK]
theorem tokensC:∀ v,wfV v→∀ acc H o,acc.length+4*bV v≤Lim→Owned H o acc.length 2→Gives Tryz.prog 118 [.sl o 2 (cKs acc),.agg (cV v)] H o 2 (cKs (acc++tokV v)):=by
 refine Val.ind fun k n s l m ihl ihm hwf acc H o hb ho=>?_
 obtain ⟨hn,hwl,hwm⟩:=hwf
 have hb':acc.length+4*(1+s.length+bVs l+bMs m)≤Lim:=hb
 have hll:=bVs_len l
 have hml:=bMs_len m
 have h1:=cVs_len l
 have h2:=cMs_len m
 have h3:=cKs_len acc
 have hT:=tokVs_le l
 have hM:=tokMs_le m
 simp only [Lim] at hb'
 have hsl:s.length≤Lim:=by simp only [Lim];omega
 refine ACalls.goO ir118 ck118 (Nat.le_refl _) fun KP Q hQ hP=>?_
 have one:∀ t:Tok,tokV (.mk k n s l m)=[t]→∀ o' H',OwnS H o H' o' (acc.length+1) 2→OwnR H o 2 (cKs (acc++tokV (.mk k n s l m))) (.sl o' 2 (cKs acc++[[.int .i64 t.k,.str t.s]])) H':=fun t e o' H' hs=>by
  rw [e];exact ⟨o',by rw [cKs_app],by rw [cKs_len];simpa using hs⟩
 have hq1:((cKs acc).length+1)*24≤140737488355328:=by rw [h3];omega
 have hq2:(cKs acc).length+1≤maxLen:=by rw [h3];simp only [maxLen];omega
 have hq3:((cKs acc).length+2)*24≤140737488355328:=by rw [h3];omega
 have hq4:(cKs acc).length+2≤maxLen:=by rw [h3];simp only [maxLen];omega
 have ho':Owned H o (cKs acc).length 2:=by rw [h3];exact ho
 by_cases k0:k=0
 ·subst k0
  simp (disch:=first|omega|assumption) only [ir118,cV_mk,go_sem,↓reduceIte]
  refine goK_pure (wordC _) ?_
  simp (disch:=first|omega|assumption) only [cK,go_sem,↓reduceIte]
  refine goP_ownS ho' hq1 hq2 fun o' H' hs=>?_
  simp (disch:=first|omega|assumption) only [go_sem,↓reduceIte]
  exact hQ _ _ H' H' [_] nofun rfl (Low.refl _) (one ⟨2,[110,117,108,108]⟩ (by simp [tokV]) o' H' (by simpa [h3] using hs))
 by_cases k1:k=1
 ·subst k1
  simp (disch:=first|omega|assumption) only [ir118,cV_mk,go_sem,↓reduceIte]
  refine goK_pure (fmtBool _) ?_
  simp (disch:=first|omega|assumption) only [go_sem,↓reduceIte]
  refine goK_pure (wordC _) ?_
  simp (disch:=first|omega|assumption) only [cK,go_sem,↓reduceIte]
  refine goP_ownS ho' hq1 hq2 fun o' H' hs=>?_
  simp (disch:=first|omega|assumption) only [go_sem,↓reduceIte]
  exact hQ _ _ H' H' [_] nofun rfl (Low.refl _) (one ⟨2,boolT (decide (n=1))⟩ (by simp [tokV]) o' H' (by simpa [h3] using hs))
 by_cases k2:k=2
 ·subst k2
  simp (disch:=first|omega|assumption) only [ir118,cV_mk,go_sem,↓reduceIte]
  refine goK_pure (formatIntC n hn.1 hn.2) ?_
  simp (disch:=first|omega|assumption) only [go_sem,↓reduceIte]
  refine goP_ownS ho' hq1 hq2 fun o' H' hs=>?_
  simp (disch:=first|omega|assumption) only [go_sem,↓reduceIte]
  exact hQ _ _ H' H' [_] nofun rfl (Low.refl _) (one ⟨3,Lib.itoa n⟩ (by simp [tokV]) o' H' (by simpa [h3] using hs))
 by_cases k3:k=3
 ·subst k3
  simp (disch:=first|omega|assumption) only [ir118,cV_mk,go_sem,↓reduceIte]
  refine goK_pure (NumberC s hsl) ?_
  simp (disch:=first|omega|assumption) only [go_sem,↓reduceIte]
  refine goP_ownS ho' hq1 hq2 fun o' H' hs=>?_
  simp (disch:=first|omega|assumption) only [go_sem,↓reduceIte]
  exact hQ _ _ H' H' [_] nofun rfl (Low.refl _) (one ⟨numK s,s⟩ (by simp [tokV]) o' H' (by simpa [h3] using hs))
 by_cases k4:k=4
 ·subst k4
  simp (disch:=first|omega|assumption) only [ir118,cV_mk,go_sem,↓reduceIte]
  refine goP_ownS ho' hq1 hq2 fun o' H' hs=>?_
  simp (disch:=first|omega|assumption) only [go_sem,↓reduceIte]
  exact hQ _ _ H' H' [_] nofun rfl (Low.refl _) (one ⟨5,s⟩ (by simp [tokV]) o' H' (by simpa [h3] using hs))
 by_cases k5:k=5
 ·subst k5
  simp (disch:=first|omega|assumption) only [ir118,cV_mk,go_sem,↓reduceIte]
  refine goK_pure (wordC _) ?_
  simp (disch:=first|omega|assumption) only [cK,go_sem,↓reduceIte]
  refine goP_ownS ho' hq1 hq2 fun o' H' hs=>?_
  simp (disch:=first|omega|assumption) only [go_sem,↓reduceIte]
  exact hQ _ _ H' H' [_] nofun rfl (Low.refl _) (one ⟨2,s⟩ (by simp [tokV]) o' H' (by simpa [h3] using hs))
 by_cases k8:k=8
 ·subst k8
  simp (disch:=first|omega|assumption) only [ir118,cV_mk,go_sem,↓reduceIte]
  refine goK_pure (punctC _) ?_
  simp (disch:=first|omega|assumption) only [cK,go_sem,↓reduceIte]
  refine goK_pure (wordC _) ?_
  simp (disch:=first|omega|assumption) only [cK,go_sem,↓reduceIte]
  refine goP_ownS ho' hq3 hq4 fun o' H' hs=>?_
  simp (disch:=first|omega|assumption) only [go_sem,↓reduceIte]
  refine hQ _ _ H' H' [_] nofun rfl (Low.refl _) ?_
  have e:tokV (.mk 8 n s l m)=[⟨1,[36]⟩,⟨2,s⟩]:=by simp [tokV]
  rw [e]
  exact ⟨o',by rw [← cKs_app2];rfl,by rw [cKs_len];simpa [h3] using hs⟩
 by_cases k6:k=6
 ·subst k6
  have e:tokV (.mk 6 n s l m)=⟨1,[91]⟩ :: (tokVs l++[⟨1,[93]⟩]):=by simp [tokV]
  have ea:=cKs_app acc ⟨1,[91]⟩
  simp only at ea
  simp (disch:=first|omega|assumption) only [ir118,cV_mk,go_sem,↓reduceIte]
  refine goK_pure (punctC _) ?_
  simp (disch:=first|omega|assumption) only [cK,go_sem,↓reduceIte]
  refine goP_ownS ho' hq1 hq2 fun o1 H1 hs1=>?_
  have hs1':OwnS H o H1 o1 (acc++[(⟨1,[91]⟩:Tok)]).length 2:=by simpa [h3] using hs1
  simp (disch:=first|omega|assumption) only [ea,h1,go_sem,↓reduceIte]
  refine goL_range l 81 (fun x:Own × List Tok=>[(0,.sl x.1 2 (cKs x.2))]) (fun done rest x H'=>x.2++tokVs rest=acc++⟨1,[91]⟩ :: tokVs l∧x.2.length+4*bVs rest≤acc.length+1+4*bVs l∧OwnS H o H' x.1 x.2.length 2) (o1,acc++[⟨1,[91]⟩]) (by simp (disch:=first|omega|assumption) only [go_sem,↓reduceIte]) ⟨by simp,by simp,hs1'⟩ ?_ ?_
  ·rintro ⟨o2,a⟩ H2 J ⟨hn,hle,hs⟩ hlt
   simp only [tokVs,List.append_nil,bVs] at hn hle
   have h4:=cKs_len a
   simp (disch:=first|omega|assumption) only [h1,hlt,go_sem,↓reduceIte]
   refine goK_pure (punctC _) ?_
   simp (disch:=first|omega|assumption) only [cK,go_sem,↓reduceIte]
   refine goP_ownS (by rw [h4];exact hs.own) (by simp only [h4,List.length_cons,List.length_nil];omega) (by simp only [h4,List.length_cons,List.length_nil,maxLen];omega) fun o3 H3 hs3=>?_
   simp (disch:=first|omega|assumption) only [go_sem,↓reduceIte]
   refine hQ _ _ H3 H3 [_] nofun rfl (Low.refl _) ?_
   have e2:acc++tokV (.mk 6 n s l m)=a++[⟨1,[93]⟩]:=by rw [e,hn];simp
   rw [e2]
   exact ⟨o3,by rw [← cKs_app];rfl,by rw [cKs_len];exact hs.trans (by simpa [h4] using hs3)⟩
  ·rintro done x rest ⟨o2,a⟩ H2 J hd hlt _ ⟨hn,hle,hs⟩ hJ
   have hg:=cVs_get hd
   have hx:=tokV_le x
   have hmem:x ∈ l:=by rw [hd];simp
   simp only [tokVs,bVs] at hn hle
   simp (disch:=first|omega|assumption) only [cV_len,cV_take,cV_splice,cM_len,cM_take,cM_splice,cM_mk,h1,hlt,hg,go_sem,↓reduceIte]
   refine goA_intro fun b hb=>?_
   simp (disch:=first|omega|assumption) only [cV_len,cV_take,cV_splice,cM_len,cM_take,cM_splice,cM_mk,go_sem,↓reduceIte]
   refine goK_gives (ihl x hmem (wfVs_mem hwl x hmem) a _ o2 (by simp only [Lim];omega) (hs.own.upd hb)) fun o3 H3 hs3=>?_
   rw [cKs_len] at hs3
   simp (disch:=first|omega|assumption) only [wrap64,go_sem,↓reduceIte]
   exact goJ (hJ (o3,a++tokV x) H3 ⟨by rw [← hn];simp,by simp only [List.length_append];omega,(hs.upd hb).trans hs3⟩) (by simp (disch:=first|omega|assumption) only [go_sem,↓reduceIte])
 ·have e:tokV (.mk k n s l m)=⟨1,[123]⟩ :: (tokMs m++[⟨1,[125]⟩]):=by simp [tokV,k0,k1,k2,k3,k4,k5,k8,k6]
  have ea:=cKs_app acc ⟨1,[123]⟩
  simp only at ea
  simp (disch:=first|omega|assumption) only [ir118,cV_mk,k0,k1,k2,k3,k4,k5,k8,k6,go_sem,↓reduceIte]
  refine goK_pure (punctC _) ?_
  simp (disch:=first|omega|assumption) only [cK,go_sem,↓reduceIte]
  refine goP_ownS ho' hq1 hq2 fun o1 H1 hs1=>?_
  have hs1':OwnS H o H1 o1 (acc++[(⟨1,[123]⟩:Tok)]).length 2:=by simpa [h3] using hs1
  simp (disch:=first|omega|assumption) only [ea,h2,go_sem,↓reduceIte]
  refine goL_range m 100 (fun x:Own × List Tok=>[(0,.sl x.1 2 (cKs x.2))]) (fun done rest x H'=>x.2++tokMs rest=acc++⟨1,[123]⟩ :: tokMs m∧x.2.length+4*bMs rest≤acc.length+1+4*bMs m∧OwnS H o H' x.1 x.2.length 2) (o1,acc++[⟨1,[123]⟩]) (by simp (disch:=first|omega|assumption) only [go_sem,↓reduceIte]) ⟨by simp,by simp,hs1'⟩ ?_ ?_
  ·rintro ⟨o2,a⟩ H2 J ⟨hn,hle,hs⟩ hlt
   simp only [tokMs,List.append_nil,bMs] at hn hle
   have h4:=cKs_len a
   simp (disch:=first|omega|assumption) only [h2,hlt,go_sem,↓reduceIte]
   refine goK_pure (punctC _) ?_
   simp (disch:=first|omega|assumption) only [cK,go_sem,↓reduceIte]
   refine goP_ownS (by rw [h4];exact hs.own) (by simp only [h4,List.length_cons,List.length_nil];omega) (by simp only [h4,List.length_cons,List.length_nil,maxLen];omega) fun o3 H3 hs3=>?_
   simp (disch:=first|omega|assumption) only [go_sem,↓reduceIte]
   refine hQ _ _ H3 H3 [_] nofun rfl (Low.refl _) ?_
   have e2:acc++tokV (.mk k n s l m)=a++[⟨1,[125]⟩]:=by rw [e,hn];simp
   rw [e2]
   exact ⟨o3,by rw [← cKs_app];rfl,by rw [cKs_len];exact hs.trans (by simpa [h4] using hs3)⟩
  ·rintro done x rest ⟨o2,a⟩ H2 J hd hlt _ ⟨hn,hle,hs⟩ hJ
   have hg:=cMs_get hd
   have hmem:x ∈ m:=by rw [hd];simp
   obtain ⟨t,v⟩:=x
   have hx:=tokV_le v
   have h4:=cKs_len a
   have hp:=bV_pos v
   simp only [tokMs,tokM,bMs,bM] at hn hle
   have ea2:=cKs_app2 a ⟨2,t⟩ ⟨1,[58]⟩
   simp only at ea2
   simp (disch:=first|omega|assumption) only [cV_len,cV_take,cV_splice,cM_len,cM_take,cM_splice,cM_mk,h2,hlt,hg,go_sem,↓reduceIte]
   refine goA_intro fun b hb=>?_
   simp (disch:=first|omega|assumption) only [cV_len,cV_take,cV_splice,cM_len,cM_take,cM_splice,cM_mk,go_sem,↓reduceIte]
   refine goK_pure (wordC _) ?_
   simp (disch:=first|omega|assumption) only [cV_len,cV_take,cV_splice,cM_len,cM_take,cM_splice,cM_mk,cK,go_sem,↓reduceIte]
   refine goK_pure (punctC _) ?_
   simp (disch:=first|omega|assumption) only [cV_len,cV_take,cV_splice,cM_len,cM_take,cM_splice,cM_mk,cK,go_sem,↓reduceIte]
   refine goP_ownS (by rw [h4];exact hs.own.upd hb) (by simp only [h4,List.length_cons,List.length_nil];omega) (by simp only [h4,List.length_cons,List.length_nil,maxLen];omega) fun o3 H3 hs3=>?_
   have hs3':OwnS H o H3 o3 (a++[(⟨2,t⟩:Tok),⟨1,[58]⟩]).length 2:=(hs.upd hb).trans (by simpa [h4] using hs3)
   have hHb:H3 b=some (.cells (cM (.mk t v))):=hs3.kept b _ (by simp [Heap.upd,cM_mk]) fun d e=>by
    have:=hs.own;subst e
    have hx:H2 b=_:=this
    rw [hb] at hx;cases hx
   simp (disch:=first|omega|assumption) only [cV_len,cV_take,cV_splice,cM_len,cM_take,cM_splice,cM_mk,ea2,hHb,go_sem,↓reduceIte]
   refine goK_gives (ihm t v hmem (wfMs_mem hwm t v hmem) _ _ o3 (by simp only [Lim,List.length_append,List.length_cons,List.length_nil];omega) hs3'.own) fun o4 H4 hs4=>?_
   rw [cKs_len] at hs4
   simp (disch:=first|omega|assumption) only [wrap64,go_sem,↓reduceIte]
   exact goJ (hJ (o4,a++[⟨2,t⟩,⟨1,[58]⟩]++tokV v) H4 ⟨by rw [← hn];simp,by simp only [List.length_append,List.length_cons,List.length_nil];omega,hs3'.trans hs4⟩) (by simp (disch:=first|omega|assumption) only [go_sem,↓reduceIte])
def toksV (v:Val):List Tok:=if plainV v then tokV v else []
theorem TokensC (v:Val) (hw:wfV v) (hb:4*bV v≤Lim):Pure Tryz.prog 55 [.agg (cV v)] (.tup [.sl .no 2 (cKs (toksV v)),.bool (plainV v)]):=by
 have hb':bV v≤Lim:=by omega
 refine Pure.go ir55 ck55 (Nat.le_refl _) fun KP Q hQ=>?_
 simp (disch:=first|omega|assumption) only [cV_len,cV_take,cV_splice,cM_len,cM_take,cM_splice,cM_mk,ir55,go_sem,↓reduceIte]
 refine goK_pure (plainVC v hb') ?_
 cases h:plainV v with
 | false =>
  simp (disch:=first|omega|assumption) only [h,go_sem,↓reduceIte]
  exact hQ _ _ _ _ nofun rfl (by simp [tupOf,envOf,AV.strip,AV.strip1,toksV,h,cKs])
 | true =>
  simp (disch:=first|omega|assumption) only [cV_len,cV_take,cV_splice,cM_len,cM_take,cM_splice,cM_mk,h,go_sem,↓reduceIte]
  refine goK_gives (tokensC v hw [] _ .nil (by simpa using hb) rfl) fun o' H' hs=>?_
  simp (disch:=first|omega|assumption) only [go_sem,↓reduceIte]
  exact hQ _ _ _ _ nofun rfl (by simp [tupOf,envOf,AV.strip,AV.strip1,toksV,h])
end Go.Proofs.YticbbfbpeimkbaaGreatDoor
namespace Go.Proofs.YticbbfbpeimkbaaGreatDoor
def joinP0 (P:Program) (f:FuncId) (fn:Func) (s:ChangeSpec) (c:OpenClaim):Bool:=c.wf (OpenSpec.ofChange s) && laidOutB P && mapsRowed P && fn.params.all (P.readableRec ·) && namedTie P c.named s.vars
def joinP1 (P:Program) (f:FuncId) (fn:Func) (s:ChangeSpec) (c:OpenClaim):Bool:=(c.stops == []) && (P.stops == []) && (c.knobs == []) && (P.stopKnobs == []) && (c.maps == (fn.params.toList++s.plain.varTypes P).any (P.mapsRec ·)) && (c.ifaces == (fn.params.toList++s.plain.varTypes P).any (P.ifacesRec ·)) && (c.mapsOut == P.mapsAmong fn.resultTypes.toList) && (c.loops == (fn.params.toList++s.plain.varTypes P).any (P.loopsFrom ·)) && (c.wideKeys == (fn.params.toList++s.plain.varTypes P++fn.resultTypes.toList).any (P.wideKeysFrom ·)) && s.vars.all (P.varReadable ·) && fn.resultTypes.all (fun t=>P.readableRec t && decide (t<P.types.size)) && (c.ifacesOut == fn.resultTypes.toList.any (P.ifacesRec ·)) && (c.loopsOut == fn.resultTypes.toList.any (P.loopsFrom ·)) && (c.veiled == (fn.params.toList++s.plain.varTypes P++fn.resultTypes.toList).any (P.veiledRec ·)) && c.veiledFits P fn.params.toList (fn.params.toList++s.plain.varTypes P++fn.resultTypes.toList)
def joinP2 (P:Program) (f:FuncId) (fn:Func) (s:ChangeSpec) (c:OpenClaim):Bool:=(c.inPlace == P.inPlace f) && (c.unfollowed == P.unfollowed f) && (c.recurses == P.recurses f) && (c.named == P.varsNamed f)
def joinP3 (P:Program) (f:FuncId) (fn:Func) (s:ChangeSpec) (c:OpenClaim):Bool:=(c.plainKeys == P.plainKeys) && c.shortTexts.isNone
def joinP4 (P:Program) (f:FuncId) (fn:Func) (s:ChangeSpec) (c:OpenClaim):Bool:=P.stopsHeard
def joinP5 (P:Program) (f:FuncId) (fn:Func) (s:ChangeSpec) (c:OpenClaim):Bool:=P.mayEnter
def joinP6 (P:Program) (f:FuncId) (fn:Func) (s:ChangeSpec) (c:OpenClaim):Bool:=(c.lifted == P.liftsFinal) && (P.make == some c.make) && (c.kinds == (if c.domain.isEmpty then [] else fn.params.toList.map fun t=>match P.underlying t with|some (.int k)=>some k|_=>none)) && (c.pinned == c.pinnedBy)
theorem joined_of {P:Program} {f:FuncId} {fn:Func} {s:ChangeSpec} {c:OpenClaim} (h0:joinP0 P f fn s c=true) (h1:joinP1 P f fn s c=true) (h2:joinP2 P f fn s c=true) (h3:joinP3 P f fn s c=true) (h4:joinP4 P f fn s c=true) (h5:joinP5 P f fn s c=true) (h6:joinP6 P f fn s c=true):joinedFacts P f fn s c=true:=by
 simp only [joinP0,Bool.and_eq_true] at h0
 obtain ⟨⟨⟨⟨a0,a1⟩,a2⟩,a3⟩,a4⟩:=h0
 simp only [joinP1,Bool.and_eq_true] at h1
 obtain ⟨⟨⟨⟨⟨⟨⟨⟨⟨⟨⟨⟨⟨⟨a5,a6⟩,a7⟩,a8⟩,a13⟩,a14⟩,a15⟩,a16⟩,a17⟩,a18⟩,a19⟩,a20⟩,a21⟩,a30⟩,a31⟩:=h1
 simp only [joinP2,Bool.and_eq_true] at h2
 obtain ⟨⟨⟨a9,a10⟩,a11⟩,a12⟩:=h2
 simp only [joinP3,Bool.and_eq_true] at h3
 obtain ⟨a22,a23⟩:=h3
 simp only [joinP4,Bool.and_eq_true] at h4
 have a24:=h4
 simp only [joinP5,Bool.and_eq_true] at h5
 have a25:=h5
 simp only [joinP6,Bool.and_eq_true] at h6
 obtain ⟨⟨⟨a26,a27⟩,a28⟩,a29⟩:=h6
 simp only [joinedFacts,Bool.and_eq_true]
 exact ⟨⟨⟨⟨⟨⟨⟨⟨⟨⟨⟨⟨⟨⟨⟨⟨⟨⟨⟨⟨⟨⟨⟨⟨⟨⟨⟨⟨⟨⟨⟨a0,a1⟩,a2⟩,a3⟩,a4⟩,a5⟩,a6⟩,a7⟩,a8⟩,a9⟩,a10⟩,a11⟩,a12⟩,a13⟩,a14⟩,a15⟩,a16⟩,a17⟩,a18⟩,a19⟩,a20⟩,a21⟩,a22⟩,a23⟩,a24⟩,a25⟩,a26⟩,a27⟩,a28⟩,a29⟩,a30⟩,a31⟩
end Go.Proofs.YticbbfbpeimkbaaGreatDoor
namespace Go.Proofs.YticbbfbpeimkbaaGreatDoor
open Go.Ab Go.Lib
open Go.ChangeShapes Go.WideShapes Go.ChangeAt Go.RowKit Go.WideElems
theorem own:ownKnob Tryz.prog.godebug=none:=by kernel_rfl
theorem laidOut:laidOutB Tryz.prog=true:=by kernel_rfl
theorem bVs_sum:∀ l,bVs l=(l.map bV).sum
 | []=>rfl
 | v :: r=>by simp [bVs,bVs_sum r]
theorem bMs_sum:∀ l,bMs l=(l.map bM).sum
 | []=>rfl
 | v :: r=>by simp [bMs,bMs_sum r]
theorem wfVs_all:∀ {l:List Val},(∀ v ∈ l,wfV v)→wfVs l
 | [],_=>trivial
 | v :: r,h=>⟨h v (.head _),wfVs_all fun x hx=>h x (.tail _ hx)⟩
theorem wfMs_all:∀ {l:List Mem},(∀ v ∈ l,wfM v)→wfMs l
 | [],_=>trivial
 | v :: r,h=>⟨h v (.head _),wfMs_all fun x hx=>h x (.tail _ hx)⟩
theorem inR_wf {n:Int} (h:(Lit.int .i64 n).wf=true):inR n:=by
 simp [Lit.wf,IntKind.has,IntKind.min,IntKind.max,IntKind.signed,IntKind.bits] at h
 unfold inR
 omega
abbrev DV (m:Nat):Prop:=DecB Tryz.prog m 56 5 cV wfV bV
abbrev DM (m:Nat):Prop:=DecB Tryz.prog m 148 6 cM wfM bM
theorem decVs {m:Nat} (h:DV m):DecB Tryz.prog (m+1) 53 1 (fun l:List Val=>[.sl .no 5 (cVs l)]) (fun l=>wfVs l) (fun l=>bVs l+1):=by
 intro H enc W cs d ps h1 h2
 obtain ⟨a,h3,h4,h5,h6⟩:=DecB.slice (t:=53) Tryz.underlying53 (B:=80) (sz:=5) (by kernel_rfl) (by kernel_rfl) (by decide) h enc W cs d ps h1 h2
 exact ⟨a,wfVs_all h3.2.2,by simp only [bVs_sum];exact h4,h5,by simp only [cVs_map];exact h6⟩
theorem decMs {m:Nat} (h:DM m):DecB Tryz.prog (m+1) 54 1 (fun l:List Mem=>[.sl .no 6 (cMs l)]) (fun l=>wfMs l) (fun l=>bMs l+1):=by
 intro H enc W cs d ps h1 h2
 obtain ⟨a,h3,h4,h5,h6⟩:=DecB.slice (t:=54) Tryz.underlying54 (B:=96) (sz:=6) (by kernel_rfl) (by kernel_rfl) (by decide) h enc W cs d ps h1 h2
 exact ⟨a,wfMs_all h3.2.2,by simp only [bMs_sum];exact h4,h5,by simp only [cMs_map];exact h6⟩
theorem dec:∀ m,DV m∧DM m:=by
 intro m
 induction m using Nat.strongRecOn with
 | _ m ih =>
  have hs:∀ {k},k≤m→DecB Tryz.prog k 53 1 (fun l:List Val=>[.sl .no 5 (cVs l)]) (fun l=>wfVs l) (fun l=>bVs l+1):=fun {k} hk=>by
   cases k with
   | zero=>exact DecB.zero
   | succ k=>exact decVs (ih k (by omega)).1
  have hm:∀ {k},k≤m→DecB Tryz.prog k 54 1 (fun l:List Mem=>[.sl .no 6 (cMs l)]) (fun l=>wfMs l) (fun l=>bMs l+1):=fun {k} hk=>by
   cases k with
   | zero=>exact DecB.zero
   | succ k=>exact decMs (ih k (by omega)).2
  refine ⟨?_,?_⟩
  ·cases m with
   | zero=>exact DecB.zero
   | succ k =>
    exact DecB.struct (DecFsB.cons (by kernel_rfl) (DecB.int (k:=.i64) Tryz.underlying3) (DecFsB.cons (by kernel_rfl) (DecB.int (k:=.i64) Tryz.underlying2) (DecFsB.cons (by kernel_rfl) (DecB.str Tryz.underlying9) (DecFsB.cons (by kernel_rfl) (hs (by omega)) (DecFsB.cons (by kernel_rfl) (hm (by omega)) DecFsB.nil)))))
     (by kernel_rfl) (by kernel_rfl) cV wfV bV (fun x=>.mk x.1 x.2.1 x.2.2.1 x.2.2.2.1 x.2.2.2.2.1) (fun a=>rfl) (fun a h=>⟨inR_wf h.2.1,h.2.2.2.1,h.2.2.2.2.1⟩) (fun a=>by simp only [bV];omega)
  ·cases m with
   | zero=>exact DecB.zero
   | succ k =>
    exact DecB.struct (DecFsB.cons (by kernel_rfl) (DecB.str Tryz.underlying9) (DecFsB.cons (by kernel_rfl) (ih k (by omega)).1 DecFsB.nil))
     (by kernel_rfl) (by kernel_rfl) cM wfM bM (fun x=>.mk x.1 x.2.1) (fun a=>by simp [cM]) (fun a h=>h.2.1) (fun a=>by simp only [bM];omega)
theorem decVA (m:Nat):DV m:=(dec m).1
theorem agg_of {W:World} {r:Reach} {b:Nat} {t:TypeId} {fs:Array Field} {v:Value} (ht:Tryz.prog.underlying t=some (.struct fs)) (h:Value.okWide Tryz.prog W r b t v):∃ cs,v=.agg cs:=by
 unfold Value.okWide at h
 rw [ht] at h
 obtain ⟨cs,h,_⟩:=h
 exact ⟨cs,h⟩
theorem cond_bulk {H:Type} {s:ChangeSpec} {ds:List (DataW H)} (h:∀ k,(Rows.OpenSpec.upto s).cond=some k→k H ds=true):blkAll ds≤1048576:=by
 have h1:Rows.uptoSmall H ds=true:=h _ rfl
 have h2:=of_decide_eq_true h1
 rwa [bulkAll_eq] at h2
end Go.Proofs.YticbbfbpeimkbaaGreatDoor
namespace Go.Proofs.YticbbfbpeimkbaaGreatDoor
open Go.Ab
structure DirD where
 nm:List UInt8
 args:List Mem
inductive SelD where
 | mk (k:Int) (al nm:List UInt8) (args:List Mem) (dirs:List DirD) (on:List UInt8) (sels:List SelD)
structure TyD where
 nm:List UInt8
 lists:Int
 musts:Int
structure VarD where
 nm:List UInt8
 t:TyD
 has:Bool
 d:Val
structure OpD where
 k:Int
 nm:List UInt8
 vars:List VarD
 dirs:List DirD
 sels:List SelD
structure FragD where
 nm:List UInt8
 on:List UInt8
 dirs:List DirD
 sels:List SelD
structure DocD where
 ops:List OpD
 frags:List FragD
def cD (x:DirD):List AV:=[.str x.nm,.sl .no 6 (cMs x.args)]
def cDs (l:List DirD):List (List AV):=l.map cD
mutual
def cS:SelD→List AV
 | .mk k al nm args dirs on sels=>[.int .i64 k,.str al,.str nm,.sl .no 6 (cMs args),.sl .no 2 (cDs dirs),.str on,.sl .no 7 (cSs sels)]
def cSs:List SelD→List (List AV)
 | []=>[]
 | x :: r=>cS x :: cSs r
end
def cTy (t:TyD):List AV:=[.str t.nm,.int .i64 t.lists,.int .i64 t.musts]
def cW (x:VarD):List AV:=cTy ⟨x.nm,0,0⟩ |>.take 1 |>.append (cTy x.t++(.bool x.has :: cV x.d))
def cWs (l:List VarD):List (List AV):=l.map cW
def cO (x:OpD):List AV:=[.int .i64 x.k,.str x.nm,.sl .no 10 (cWs x.vars),.sl .no 2 (cDs x.dirs),.sl .no 7 (cSs x.sels)]
def cOs (l:List OpD):List (List AV):=l.map cO
def cF (x:FragD):List AV:=[.str x.nm,.str x.on,.sl .no 2 (cDs x.dirs),.sl .no 7 (cSs x.sels)]
def cFs (l:List FragD):List (List AV):=l.map cF
def cDoc (d:DocD):List AV:=[.sl .no 5 (cOs d.ops),.sl .no 4 (cFs d.frags)]
theorem cW_mk (nm:List UInt8) (t:TyD) (h:Bool) (d:Val):cW ⟨nm,t,h,d⟩=.str nm :: .str t.nm :: .int .i64 t.lists :: .int .i64 t.musts :: .bool h :: cV d:=rfl
theorem cSs_map:∀ l,cSs l=l.map cS
 | []=>rfl
 | v :: r=>by rw [cSs,cSs_map r];rfl
theorem cDs_len (l:List DirD):(cDs l).length=l.length:=by simp [cDs]
theorem cSs_len (l:List SelD):(cSs l).length=l.length:=by rw [cSs_map];simp
theorem cWs_len (l:List VarD):(cWs l).length=l.length:=by simp [cWs]
theorem cOs_len (l:List OpD):(cOs l).length=l.length:=by simp [cOs]
theorem cFs_len (l:List FragD):(cFs l).length=l.length:=by simp [cFs]
theorem cD_strip (x:DirD):(cD x).map AV.strip1=cD x:=rfl
theorem cS_strip (x:SelD):(cS x).map AV.strip1=cS x:=by cases x;rfl
theorem cW_strip (x:VarD):(cW x).map AV.strip1=cW x:=by rcases x with ⟨a,b,c,⟨⟩⟩;rfl
theorem cS_len (x:SelD):(cS x).length=7:=by cases x;rfl
theorem cS_take (x:SelD):(cS x).take 7=cS x:=by cases x;rfl
theorem cS_splice (a b c d e f g:AV) (x:SelD):splice [a,b,c,d,e,f,g] 0 (cS x)=cS x:=by cases x;rfl
theorem cW_len (x:VarD):(cW x).length=10:=by rcases x with ⟨a,b,c,⟨⟩⟩;rfl
theorem cW_take (x:VarD):(cW x).take 10=cW x:=by rcases x with ⟨a,b,c,⟨⟩⟩;rfl
def bD (x:DirD):Nat:=1+x.nm.length+bMs x.args
def bDs (l:List DirD):Nat:=(l.map bD).sum
mutual
def bS:SelD→Nat
 | .mk _ al nm args dirs on sels=>1+al.length+nm.length+on.length+bMs args+bDs dirs+bSs sels
def bSs:List SelD→Nat
 | []=>0
 | x :: r=>bS x+bSs r
end
def bW (x:VarD):Nat:=x.nm.length+x.t.nm.length+bV x.d
def bWs (l:List VarD):Nat:=(l.map bW).sum
def bO (x:OpD):Nat:=1+x.nm.length+bWs x.vars+bDs x.dirs+bSs x.sels
def bF (x:FragD):Nat:=1+x.nm.length+x.on.length+bDs x.dirs+bSs x.sels
mutual
theorem SelD.ind {P:SelD→Prop} (h:∀ k al nm args dirs on sels,(∀ v ∈ sels,P v)→P (.mk k al nm args dirs on sels)):∀ v,P v
 | .mk k al nm args dirs on sels=>h k al nm args dirs on sels (SelD.indL h sels)
theorem SelD.indL {P:SelD→Prop} (h:∀ k al nm args dirs on sels,(∀ v ∈ sels,P v)→P (.mk k al nm args dirs on sels)):∀ l:List SelD,∀ v ∈ l,P v
 | [],_,hv=>by cases hv
 | x :: r,v,hv=>(List.mem_cons.1 hv).elim (fun e=>e▸SelD.ind h x) (SelD.indL h r v)
end
end Go.Proofs.YticbbfbpeimkbaaGreatDoor
namespace Go.Proofs.YticbbfbpeimkbaaGreatDoor
open Go.Ab
def wfD (x:DirD):Prop:=wfMs x.args
def wfDs (l:List DirD):Prop:=∀ x ∈ l,wfD x
mutual
def wfS:SelD→Prop
 | .mk _ _ _ args dirs _ sels=>wfMs args∧wfDs dirs∧wfSs sels
def wfSs:List SelD→Prop
 | []=>True
 | x :: r=>wfS x∧wfSs r
end
def wfW (x:VarD):Prop:=inR x.t.lists∧inR x.t.musts∧wfV x.d
def wfO (x:OpD):Prop:=(∀ y ∈ x.vars,wfW y)∧wfDs x.dirs∧wfSs x.sels
def wfF (x:FragD):Prop:=wfDs x.dirs∧wfSs x.sels
def pk (s:List UInt8):Tok:=⟨1,s⟩
def wk (s:List UInt8):Tok:=⟨2,s⟩
def rightTy (t:TyD):Bool:=nameM t.nm && (decide (0≤t.lists) && (decide (t.lists≤4) && (decide (0≤t.musts) && decide (t.musts<2 ^ (t.lists.toNat+1)))))
def tArgs (l:List Mem):List Tok:=if l.length=0 then [] else pk [40] :: (tokMs l++[pk [41]])
def tD (d:DirD):List Tok:=pk [64] :: wk d.nm :: tArgs d.args
def bitB (m:Int) (i:Nat):Bool:=decide (m / 2 ^ i % 2=1)
def tyPc (n:Nat) (m:Int) (i:Nat):List Tok:=(if i<n then [pk [93]] else [])++(if bitB m i then [pk [33]] else [])
def tyTl (n:Nat) (m:Int):Nat→List Tok
 | 0=>tyPc n m 0
 | i+1=>tyPc n m (i+1)++tyTl n m i
def tTy (t:TyD):List Tok:=List.replicate t.lists.toNat (pk [91])++(wk t.nm :: tyTl t.lists.toNat t.musts t.lists.toNat)
end Go.Proofs.YticbbfbpeimkbaaGreatDoor
namespace Go.Proofs.YticbbfbpeimkbaaGreatDoor
open Go.Ab Go.Lib
open Go.ChangeShapes Go.WideShapes Go.ChangeAt Go.RowKit Go.WideElems
def bTy (t:TyD):Nat:=t.nm.length
theorem decTy:∀ m,DecB Tryz.prog m 60 3 cTy (fun t=>inR t.lists∧inR t.musts) bTy
 | 0=>DecB.zero
 | k+1=>DecB.struct (DecFsB.cons (by kernel_rfl) (DecB.str Tryz.underlying9) (DecFsB.cons (by kernel_rfl) (DecB.int (k:=.i64) Tryz.underlying3) (DecFsB.cons (by kernel_rfl) (DecB.int (k:=.i64) Tryz.underlying3) DecFsB.nil)))
   (by kernel_rfl) (by kernel_rfl) cTy (fun t=>inR t.lists∧inR t.musts) bTy (fun x=>⟨x.1,x.2.1,x.2.2.1⟩) (fun a=>rfl) (fun a h=>⟨inR_wf h.2.1,inR_wf h.2.2.1⟩) (fun a=>by simp only [bTy];omega)
end Go.Proofs.YticbbfbpeimkbaaGreatDoor
namespace Go.Proofs.YticbbfbpeimkbaaGreatDoor
open Go.Ab
def hexL:List UInt8:=[48,49,50,51,52,53,54,55,56,57,97,98,99,100,101,102]
def hexD (c:UInt8):Option Nat:=if Lib.indexByte hexL (c ||| 32)<0∨c.toNat<48∨(57<c.toNat∧c.toNat<65) then none else some (Lib.indexByte hexL (c ||| 32)).toNat
def unitG:Nat→List UInt8→Nat→Option Nat
 | 0,_,u=>some u
 | _+1,[],_=>none
 | n+1,c :: t,u=>match hexD c with
  | none=>none
  | some k=>unitG n t (16*u+k)
def unitM (s:List UInt8):Option Nat:=unitG 4 s 0
def encM (n:Nat):List UInt8 :=
 if n≤127 then [UInt8.ofNat n]
 else if n≤2047 then [UInt8.ofNat (192+n / 64),UInt8.ofNat (128+n % 64)]
 else if n≤65535 then [UInt8.ofNat (224+n / 4096),UInt8.ofNat (128+n / 64 % 64),UInt8.ofNat (128+n % 64)]
 else [UInt8.ofNat (240+n / 262144),UInt8.ofNat (128+n / 4096 % 64),UInt8.ofNat (128+n / 64 % 64),UInt8.ofNat (128+n % 64)]
def joinM:List Nat→Option (List UInt8)
 | []=>some []
 | u :: r=>if 65535<u∨(56320≤u∧u≤57343) then none
  else if 55296≤u∧u<56320 then match r with
   | []=>none
   | v :: r=>if v<56320∨57343<v then none else (joinM r).map (encM (65536+1024*(u-55296)+(v-56320))++·)
  else (joinM r).map (encM u++·)
structure Sd where
 b:List UInt8
 u:List Nat
 ok:Bool
def flushM (q:Sd):Sd:=⟨q.b++(joinM q.u).getD [],[],q.ok && (joinM q.u).isSome⟩
def Sd.put (q:Sd) (c:UInt8):Sd:=⟨(flushM q).b++[c],[],(flushM q).ok⟩
def escL:List UInt8:=[34,92,47,98,102,110,114,116]
def escV:List UInt8:=[34,92,47,8,12,10,13,9]
def escM (q:Sd):List UInt8→Option (Sd × List UInt8)
 | []=>none
 | c :: t=>if c=117 then (unitM t).map fun u=>(⟨q.b,q.u++[u],q.ok⟩,t.drop 4)
  else if Lib.indexByte escL c<0 then none else some (q.put (escV.getD (Lib.indexByte escL c).toNat 0),t)
def quoG (may:UInt8→Bool):Nat→List UInt8→Sd→Option (Sd × List UInt8)
 | 0,_,_=>none
 | _+1,[],_=>none
 | n+1,c :: t,q=>if c=34 then some (flushM q,t)
  else if c=92 then match escM q t with
   | none=>none
   | some (q',t')=>quoG may n t' q'
  else if may c then quoG may n t (q.put c) else none
def quoM (may:UInt8→Bool) (t:List UInt8):Option (List UInt8 × List UInt8):=match quoG may (t.length+1) t ⟨[],[],true⟩ with
 | some (q,t')=>if q.ok then some (q.b,t') else none
 | none=>none
def hiB (c:UInt8):Bool:=decide (32≤c.toNat)
def bk (c:UInt8):Bool:=decide (0≤Lib.indexByte [9,10,13,32] c)
def skB:List UInt8→List UInt8
 | []=>[]
 | c :: t=>if bk c then skB t else c :: t
def nch (c:UInt8):Bool:=decide (0≤Lib.indexByte [48,49,50,51,52,53,54,55,56,57,43,45,46,101,69] c)
def nst (c:UInt8):Bool:=decide (0≤Lib.indexByte [45,48,49,50,51,52,53,54,55,56,57] c)
abbrev RR (α:Type):=Except Int (α × List UInt8)
def RR.bind {α β:Type} (x:RR α) (f:α→List UInt8→RR β):RR β:=match x with
 | .ok (a,t)=>f a t
 | .error e=>.error e
def mayM (p t:List UInt8):Option (List UInt8):=if p.isPrefixOf (skB t) then some ((skB t).drop p.length) else none
def mustM (p t:List UInt8):RR Unit:=match mayM p t with
 | some t'=>.ok ((),t')
 | none=>.error 2
def textM (t:List UInt8):RR (List UInt8):=if [34].isPrefixOf (skB t) then match quoM hiB (skB t).tail with
  | some x=>.ok x
  | none=>.error 2
 else .error 2
def nullV:Val:=.mk 0 0 [] [] []
def numV (s:List UInt8):Val:=if wholeB s then .mk 2 (valI s) [] [] [] else .mk 3 0 s [] []
def numM (t:List UInt8):RR Val:=if numK (t.takeWhile nch)=0 then .error 2 else .ok (numV (t.takeWhile nch),t.dropWhile nch)
def itemsM (p:List UInt8→RR Val):Nat→List Val→List UInt8→RR (List Val)
 | 0,_,_=>.error 2
 | n+1,l,t=>match mayM [93] t with
  | some t'=>.ok (l,t')
  | none=>(mustM [44] t).bind fun _ t=>(p t).bind fun v t=>itemsM p n (l++[v]) t
def listM (p:List UInt8→RR Val) (t:List UInt8):RR Val:=match mayM [93] t with
 | some t'=>.ok (.mk 6 0 [] [] [],t')
 | none=>(p t).bind fun v t=>(itemsM p (t.length+1) [v] t).bind fun l t=>.ok (.mk 6 0 [] l [],t)
def hasN (s:List UInt8):List Mem→Bool
 | []=>false
 | .mk t _ :: r=>decide (t=s) || hasN s r
def memberM (p:List UInt8→RR Val) (l:List Mem) (t:List UInt8):RR (List Mem) :=
 (textM t).bind fun s t=>if hasN s l then .error 5 else (mustM [58] t).bind fun _ t=>(p t).bind fun v t=>.ok (l++[.mk s v],t)
def membersM (p:List UInt8→RR Val):Nat→List Mem→List UInt8→RR (List Mem)
 | 0,_,_=>.error 2
 | n+1,l,t=>match mayM [125] t with
  | some t'=>.ok (l,t')
  | none=>(mustM [44] t).bind fun _ t=>(memberM p l t).bind fun l t=>membersM p n l t
def mapM (p:List UInt8→RR Val) (t:List UInt8):RR Val:=match mayM [125] t with
 | some t'=>.ok (.mk 7 0 [] [] [],t')
 | none=>(memberM p [] t).bind fun l t=>(membersM p (t.length+1) l t).bind fun l t=>.ok (.mk 7 0 [] [] l,t)
def wordM (t:List UInt8):RR Val:=match mayM [110,117,108,108] t with
 | some t'=>.ok (nullV,t')
 | none=>match mayM [116,114,117,101] t with
  | some t'=>.ok (.mk 1 1 [] [] [],t')
  | none=>(mustM [102,97,108,115,101] t).bind fun _ t=>.ok (.mk 1 0 [] [] [],t)
def headM (t:List UInt8) (p:List UInt8→RR Val):RR Val:=match t with
 | []=>wordM []
 | c :: r=>if c=123 then mapM p r else if c=91 then listM p r
  else if c=34 then (textM (c :: r)).bind fun s t=>.ok (.mk 4 0 s [] [],t)
  else if nst c then numM (c :: r) else wordM (c :: r)
def deepM (_:List UInt8):RR Val:=.error 4
def valM:Nat→List UInt8→RR Val
 | 0,t=>if (skB t).head?=some 123∨(skB t).head?=some 91 then .error 4 else headM (skB t) deepM
 | n+1,t=>headM (skB t) (valM n)
theorem escM_suf {q q':Sd} {t t':List UInt8} (h:escM q t=some (q',t')):t' <:+ t∧t'.length<t.length:=by
 cases t with
 | nil=>cases h
 | cons c t =>
  simp only [escM] at h
  split at h
  ·cases hu:unitM t with
   | none=>simp [hu] at h
   | some u =>
    simp only [hu,Option.map_some,Option.some.injEq,Prod.mk.injEq] at h
    obtain ⟨_,rfl⟩:=h
    exact ⟨(List.drop_suffix _ _).trans (List.suffix_cons ..),by simp;omega⟩
  ·split at h
   ·cases h
   ·simp only [Option.some.injEq,Prod.mk.injEq] at h
    obtain ⟨_,rfl⟩:=h
    exact ⟨List.suffix_cons ..,by simp⟩
theorem quoG_suf {may:UInt8→Bool}:∀ (n:Nat) (t:List UInt8) (q q':Sd) (t':List UInt8),quoG may n t q=some (q',t')→t' <:+ t∧t'.length<t.length
 | 0,_,_,_,_,h=>by cases h
 | _+1,[],_,_,_,h=>by cases h
 | n+1,c :: t,q,q',t',h=>by
  simp only [quoG] at h
  split at h
  ·simp only [Option.some.injEq,Prod.mk.injEq] at h
   obtain ⟨_,rfl⟩:=h
   exact ⟨List.suffix_cons ..,by simp⟩
  ·split at h
   ·cases he:escM q t with
    | none=>simp [he] at h
    | some x =>
     obtain ⟨q1,t1⟩:=x
     simp only [he] at h
     have h1:=escM_suf he
     have h2:=quoG_suf n t1 q1 q' t' h
     exact ⟨(h2.1.trans h1.1).trans (List.suffix_cons ..),by simp;omega⟩
   ·split at h
    ·have h2:=quoG_suf n t _ q' t' h
     exact ⟨h2.1.trans (List.suffix_cons ..),by simp;omega⟩
    ·cases h
theorem quoM_suf {may:UInt8→Bool} {t t' b:List UInt8} (h:quoM may t=some (b,t')):t' <:+ t∧t'.length<t.length:=by
 unfold quoM at h
 split at h
 ·rename_i q t1 hq
  split at h
  ·cases h;exact quoG_suf _ _ _ _ _ hq
  ·cases h
 ·cases h
end Go.Proofs.YticbbfbpeimkbaaGreatDoor
namespace Go.Proofs.YticbbfbpeimkbaaGreatDoor
open Go.Ab
theorem unitG_len:∀ (n:Nat) (t:List UInt8) (u v:Nat),unitG n t u=some v→n≤t.length
 | 0,_,_,_,_=>Nat.zero_le _
 | n+1,[],_,_,h=>by cases h
 | n+1,c :: t,u,v,h=>by
  simp only [unitG] at h
  split at h
  ·cases h
  ·have:=unitG_len n t _ v h;simp;omega
theorem encM_len (n:Nat):(encM n).length≤4∧(n≤65535→(encM n).length≤3):=by
 unfold encM
 split
 ·simp
 ·split
  ·simp
  ·split
   ·simp
   ·refine ⟨by simp,fun h=>by omega⟩
theorem joinM_len:∀ (u:List Nat) (s:List UInt8),joinM u=some s→s.length≤3*u.length
 | [],s,h=>by cases h;simp
 | u :: [],s,h=>by
  simp only [joinM] at h
  split at h
  ·cases h
  ·rename_i h1
   split at h
   ·cases h
   ·simp only [Option.map_some,Option.some.injEq] at h
    subst h
    have:=(encM_len u).2 (by omega)
    simp;omega
 | u :: v :: r,s,h=>by
  rw [joinM] at h
  split at h
  ·cases h
  ·rename_i h1
   split at h
   ·split at h
    ·cases h
    ·cases hr:joinM r with
     | none=>simp [hr] at h
     | some x =>
      simp only [hr,Option.map_some,Option.some.injEq] at h
      subst h
      have h2:=joinM_len r x hr
      have h3:=(encM_len (65536+1024*(u-55296)+(v-56320))).1
      simp only [List.length_append,List.length_cons];omega
   ·cases hr:joinM (v :: r) with
    | none=>simp [hr] at h
    | some x =>
     simp only [hr,Option.map_some,Option.some.injEq] at h
     subst h
     have h2:=joinM_len (v :: r) x hr
     have h3:=(encM_len u).2 (by omega)
     simp only [List.length_append,List.length_cons] at h2 ⊢;omega
def Sd.w (q:Sd):Nat:=q.b.length+3*q.u.length
theorem flush_w (q:Sd):(flushM q).b.length≤q.w:=by
 unfold flushM Sd.w
 cases h:joinM q.u with
 | none=>simp
 | some s=>have:=joinM_len _ _ h;simp;omega
theorem put_w (q:Sd) (c:UInt8):(q.put c).w≤q.w+1:=by
 have:=flush_w q
 simp only [Sd.put,Sd.w,List.length_append,List.length_cons,List.length_nil] at this ⊢;omega
theorem escM_w {q q':Sd} {t t':List UInt8} (h:escM q t=some (q',t')):q'.w+t'.length≤q.w+t.length:=by
 cases t with
 | nil=>cases h
 | cons c t =>
  simp only [escM] at h
  split at h
  ·cases hu:unitM t with
   | none=>simp [hu] at h
   | some u =>
    simp only [hu,Option.map_some,Option.some.injEq,Prod.mk.injEq] at h
    obtain ⟨rfl,rfl⟩:=h
    have:=unitG_len _ _ _ _ hu
    simp only [Sd.w,List.length_append,List.length_cons,List.length_nil,List.length_drop];omega
  ·split at h
   ·cases h
   ·simp only [Option.some.injEq,Prod.mk.injEq] at h
    obtain ⟨rfl,rfl⟩:=h
    have:=put_w q (escV.getD (Lib.indexByte escL c).toNat 0)
    simp only [List.length_cons];omega
theorem quoG_w {may:UInt8→Bool}:∀ (n:Nat) (t:List UInt8) (q q':Sd) (t':List UInt8),quoG may n t q=some (q',t')→q'.b.length+t'.length+1≤q.w+t.length
 | 0,_,_,_,_,h=>by cases h
 | _+1,[],_,_,_,h=>by cases h
 | n+1,c :: t,q,q',t',h=>by
  simp only [quoG] at h
  split at h
  ·simp only [Option.some.injEq,Prod.mk.injEq] at h
   obtain ⟨rfl,rfl⟩:=h
   have:=flush_w q
   simp only [List.length_cons];omega
  ·split at h
   ·cases he:escM q t with
    | none=>simp [he] at h
    | some x =>
     obtain ⟨q1,t1⟩:=x
     simp only [he] at h
     have h1:=escM_w he
     have h2:=quoG_w n t1 q1 q' t' h
     simp only [List.length_cons];omega
   ·split at h
    ·have h2:=quoG_w n t _ q' t' h
     have h3:=put_w q c
     simp only [List.length_cons];omega
    ·cases h
theorem quoM_w {may:UInt8→Bool} {t t' b:List UInt8} (h:quoM may t=some (b,t')):b.length+t'.length+1≤t.length:=by
 unfold quoM at h
 split at h
 ·rename_i q t1 hq
  split at h
  ·cases h;have:=quoG_w _ _ _ _ _ hq;simpa [Sd.w] using this
  ·cases h
 ·cases h
theorem inR0:inR 0:=by simp [inR]
theorem parse_inR {s:List UInt8} {n:Int} (h:Lib.parseIntB 64 s=.ok n):inR n:=by
 cases s with
 | nil=>cases h
 | cons c r =>
  simp only [Lib.parseIntB] at h
  split at h
  ·cases h
  ·cases h
  ·split at h
   ·cases h
   ·split at h
    ·cases h
    ·rename_i h1 h2
     cases h
     simp only [inR]
     split<;>simp_all<;>omega
theorem numV_fit (s:List UInt8):bV (numV s)≤1+s.length∧wfV (numV s):=by
 unfold numV
 split
 ·rename_i h
  refine ⟨by simp only [bV,bVs,bMs,List.length_nil];omega,?_,trivial,trivial⟩
  unfold wholeB at h
  unfold valI
  rcases hp:Lib.parseIntB 64 s with v|_|_
  ·exact parse_inR hp
  ·exact inR0
  ·rw [hp] at h;simp [okI] at h
 ·exact ⟨by simp only [bV,bVs,bMs];omega,inR0,trivial,trivial⟩
end Go.Proofs.YticbbfbpeimkbaaGreatDoor
namespace Go.Proofs.YticbbfbpeimkbaaGreatDoor
open Go.Ab
abbrev TS:=List Tok
def hdT (t:TS):Tok:=t.headD ⟨0,[]⟩
def isP (m:List UInt8) (t:TS):Bool:=decide ((hdT t).k=1) && decide ((hdT t).s=m)
def isW (w:List UInt8) (t:TS):Bool:=decide ((hdT t).k=2) && decide ((hdT t).s=w)
abbrev PR (α:Type):=Except Int (α × TS)
def pb {α β:Type} (x:PR α) (f:α→TS→PR β):PR β:=match x with
 | .ok (a,t)=>f a t
 | .error e=>.error e
theorem pb_ok {α β:Type} (a:α) (t:TS) (f:α→TS→PR β):pb (.ok (a,t)) f=f a t:=rfl
def mustP (m:List UInt8) (t:TS):PR Unit:=if isP m t then .ok ((),t.tail) else .error 2
def nameP (t:TS):PR (List UInt8):=if (hdT t).k=2 then .ok ((hdT t).s,t.tail) else .error 2
def mayWordP (w:List UInt8) (t:TS):TS:=if isW w t then t.tail else t
def manyP {α:Type} (m:List UInt8) (f:TS→PR α):Nat→List α→TS→PR (List α)
 | 0,_,_=>.error 0
 | n+1,l,t=>if isP m t then .ok (l,t.tail) else pb (f t) fun x t=>manyP m f n (l++[x]) t
def many1P {α:Type} (m:List UInt8) (f:TS→PR α) (t:TS):PR (List α):=pb (f t) fun x t=>manyP m f (t.length+1) [x] t
def whileP {α:Type} (m:List UInt8) (f:TS→PR α):Nat→List α→TS→PR (List α)
 | 0,_,_=>.error 0
 | n+1,l,t=>if isP m t then pb (f t.tail) fun x t=>whileP m f n (l++[x]) t else .ok (l,t)
def bangP (ty:TyD) (t:TS):PR TyD:=if isP [33] t then .ok (⟨ty.nm,ty.lists,ty.musts+1⟩,t.tail) else .ok (ty,t)
def predP {α:Type} (f:Nat→α):Nat→Option α
 | 0=>none
 | k+1=>some (f k)
theorem predP_s {α:Type} (f:Nat→α) (k:Nat):predP f (k+1)=some (f k):=rfl
def typB (sub:Option (TS→PR TyD)) (t:TS):PR TyD:=if isP [91] t then (match sub with
   | none=>.error 4
   | some f=>pb (f t.tail) fun ty t=>pb (mustP [93] t) fun _ t=>bangP ⟨ty.nm,ty.lists+1,ty.musts*2⟩ t)
  else pb (nameP t) fun s t=>bangP ⟨s,0,0⟩ t
def typP:Nat→TS→PR TyD
 | 0=>typB none
 | k+1=>typB (some (typP k))
theorem typP_eq (k:Nat) (t:TS):typP k t=typB (predP typP k) t:=by cases k<;>rfl
def wordV (s:List UInt8):Val:=if s=[110,117,108,108] then zV else if s=[116,114,117,101] then .mk 1 1 [] [] [] else if s=[102,97,108,115,101] then .mk 1 0 [] [] [] else .mk 5 0 s [] []
def memberP (v:TS→PR Val) (t:TS):PR Mem:=pb (nameP t) fun s t=>pb (mustP [58] t) fun _ t=>pb (v t) fun x t=>.ok (.mk s x,t)
def valB (fixed:Bool) (sub:Option (TS→PR Val)) (t:TS):PR Val :=
  if (hdT t).k=2 then .ok (wordV (hdT t).s,t.tail)
  else if (hdT t).k=3∨(hdT t).k=4 then .ok (numV (hdT t).s,t.tail)
  else if (hdT t).k=5 then .ok (.mk 4 0 (hdT t).s [] [],t.tail)
  else if isP [91] t then (match sub with
   | none=>.error 4
   | some f=>pb (manyP [93] f (t.tail.length+1) [] t.tail) fun l t=>.ok (.mk 6 0 [] l [],t))
  else if isP [123] t then (match sub with
   | none=>.error 4
   | some f=>pb (manyP [125] (memberP f) (t.tail.length+1) [] t.tail) fun l t=>.ok (.mk 7 0 [] [] l,t))
  else if fixed then .error 2
  else pb (mustP [36] t) fun _ t=>pb (nameP t) fun s t=>.ok (.mk 8 0 s [] [],t)
def valP (fixed:Bool):Nat→TS→PR Val
 | 0=>valB fixed none
 | k+1=>valB fixed (some (valP fixed k))
theorem valP_eq (fixed:Bool) (k:Nat) (t:TS):valP fixed k t=valB fixed (predP (valP fixed) k) t:=by cases k<;>rfl
def argsP (fixed:Bool) (k:Nat) (t:TS):PR (List Mem):=if isP [40] t then many1P [41] (memberP (valP fixed k)) t.tail else .ok ([],t)
def dirP (fixed:Bool) (k:Nat) (t:TS):PR DirD:=pb (nameP t) fun s t=>pb (argsP fixed k t) fun a t=>.ok (⟨s,a⟩,t)
def dirsP (fixed:Bool) (k:Nat) (t:TS):PR (List DirD):=whileP [64] (dirP fixed k) (t.length+1) [] t
def spreadP (sels:TS→PR (List SelD)) (k:Nat) (t:TS):PR SelD :=
 if (hdT t).k=2∧isW [111,110] t=false then pb (nameP t) fun s t=>pb (dirsP false k t) fun d t=>.ok (.mk 1 [] s [] d [] [],t)
 else pb (if isW [111,110] t then nameP t.tail else .ok ([],t)) fun o t=>pb (dirsP false k t) fun d t=>pb (sels t) fun l t=>.ok (.mk 2 [] [] [] d o l,t)
def selP (sels:TS→PR (List SelD)) (k:Nat) (t:TS):PR SelD :=
 if isP [46,46,46] t then spreadP sels k t.tail
 else pb (nameP t) fun s t=>pb (if isP [58] t then pb (nameP t.tail) fun s2 t=>.ok ((s,s2),t) else .ok (([],s),t)) fun an t =>
  pb (argsP false k t) fun a t=>pb (dirsP false k t) fun d t=>pb (if isP [123] t then sels t else .ok ([],t)) fun l t=>.ok (.mk 0 an.1 an.2 a d [] l,t)
def selsP:Nat→TS→PR (List SelD)
 | 0,t=>if isP [123] t then .error 4 else .error 2
 | k+1,t=>if isP [123] t then many1P [125] (selP (selsP k) k) t.tail else .error 2
def varP (t:TS):PR VarD:=pb (mustP [36] t) fun _ t=>pb (nameP t) fun s t=>pb (mustP [58] t) fun _ t=>pb (typP 4 t) fun ty t =>
 if isP [61] t then pb (valP true 16 t.tail) fun v t=>.ok (⟨s,ty,true,v⟩,t) else .ok (⟨s,ty,false,zV⟩,t)
def opP (kind:Int) (t:TS):PR OpD :=
 pb (if (hdT t).k=2 then nameP t else .ok ([],t)) fun s t=>pb (if isP [40] t then many1P [41] varP t.tail else .ok ([],t)) fun vs t =>
 pb (dirsP true 16 t) fun d t=>pb (selsP 16 t) fun l t=>.ok (⟨kind,s,vs,d,l⟩,t)
def fragP (t:TS):PR FragD :=
 pb (if isW [111,110] t then .error 2 else nameP t) fun s t=>pb (if isW [111,110] t then .ok ((),t.tail) else .error 2) fun _ t=>pb (nameP t) fun o t =>
 pb (dirsP true 16 t) fun d t=>pb (selsP 16 t) fun l t=>.ok (⟨s,o,d,l⟩,t)
def defP (d:DocD) (t:TS):PR DocD :=
 if isP [123] t then pb (selsP 16 t) fun l t=>.ok (⟨d.ops++[⟨0,[],[],[],l⟩],d.frags⟩,t)
 else if isW [113,117,101,114,121] t then pb (opP 0 t.tail) fun o t=>.ok (⟨d.ops++[o],d.frags⟩,t)
 else if isW [109,117,116,97,116,105,111,110] t then pb (opP 1 t.tail) fun o t=>.ok (⟨d.ops++[o],d.frags⟩,t)
 else if isW [102,114,97,103,109,101,110,116] t then pb (fragP t.tail) fun f t=>.ok (⟨d.ops,d.frags++[f]⟩,t)
 else .error 2
def defsP:Nat→DocD→TS→PR DocD
 | 0,_,_=>.error 0
 | n+1,d,t=>if t=[] then .ok (d,t) else pb (defP d t) fun d t=>defsP n d t
def docP (t:TS):PR DocD:=pb (defP ⟨[],[]⟩ t) fun d t=>defsP (t.length+1) d t
def wK (t:Tok):Nat:=t.s.length+4
def wT (l:TS):Nat:=(l.map wK).sum
theorem wT_cons (x:Tok) (l:TS):wT (x :: l)=wK x+wT l:=by simp [wT]
structure Fp {α:Type} (b:α→Nat) (ok:α→Prop) (c:Nat) (t:TS) (a:α) (t':TS):Prop where
 suf:t' <:+ t
 w:b a+c+wT t'≤wT t
 ok:ok a
def GP {α:Type} (b:α→Nat) (ok:α→Prop) (c:Nat) (f:TS→PR α):Prop:=∀ t a t',f t=.ok (a,t')→Fp b ok c t a t'
theorem Fp.lt {α:Type} {b:α→Nat} {ok:α→Prop} {c:Nat} {t t':TS} {a:α} (h:Fp b ok c t a t') (hc:0<c):t'.length<t.length:=by
 obtain ⟨p,hp⟩:=h.suf
 have h2:=h.w
 cases p with
 | nil=>simp at hp;subst hp;omega
 | cons x p=>rw [← hp];simp;omega
theorem hd_tail {t:TS} (h:(hdT t).k≠0):t=hdT t :: t.tail:=by
 cases t with
 | nil=>exact absurd rfl h
 | cons x t=>rfl
theorem isP_ne {m:List UInt8} {t:TS} (h:isP m t=true):(hdT t).k≠0:=by
 simp only [isP,Bool.and_eq_true,decide_eq_true_eq] at h;rw [h.1];decide
theorem isW_ne {m:List UInt8} {t:TS} (h:isW m t=true):(hdT t).k≠0:=by
 simp only [isW,Bool.and_eq_true,decide_eq_true_eq] at h;rw [h.1];decide
theorem tail_w {t:TS} (h:(hdT t).k≠0):t.tail <:+ t∧(hdT t).s.length+4+wT t.tail=wT t:=by
 refine ⟨List.tail_suffix t,?_⟩
 conv=>rhs;rw [hd_tail h,wT_cons]
 rfl
theorem tail_p {m:List UInt8} {t:TS} (h:isP m t=true):t.tail <:+ t∧4+wT t.tail≤wT t:=by
 have:=tail_w (isP_ne h);exact ⟨this.1,by omega⟩
theorem tail_ww {m:List UInt8} {t:TS} (h:isW m t=true):t.tail <:+ t∧4+wT t.tail≤wT t:=by
 have:=tail_w (isW_ne h);exact ⟨this.1,by omega⟩
def T1 {α:Type} (_:α):Prop:=True
def b0 {α:Type} (_:α):Nat:=0
theorem mustP_fit (m:List UInt8):GP b0 T1 4 (mustP m):=fun t a t' h=>by
 unfold mustP at h
 split at h
 ·rename_i hp;simp only [Except.ok.injEq,Prod.mk.injEq] at h;obtain ⟨_,rfl⟩:=h
  have:=tail_p hp;exact ⟨this.1,by simp only [b0];omega,trivial⟩
 ·cases h
theorem nameP_fit:GP List.length T1 4 nameP:=fun t a t' h=>by
 unfold nameP at h
 split at h
 ·rename_i hp;simp only [Except.ok.injEq,Prod.mk.injEq] at h;obtain ⟨rfl,rfl⟩:=h
  have:=tail_w (t:=t) (by rw [hp];decide);exact ⟨this.1,by omega,trivial⟩
 ·cases h
theorem pb_inv {α β:Type} {x:PR α} {f:α→TS→PR β} {b:β} {t':TS} (h:pb x f=.ok (b,t')):∃ a t,x=.ok (a,t)∧f a t=.ok (b,t'):=by
 rcases x with e|⟨a,t⟩
 ·cases h
 ·exact ⟨a,t,rfl,h⟩
def sm {α:Type} (b:α→Nat) (l:List α):Nat:=(l.map b).sum+l.length
theorem sm_snoc {α:Type} (b:α→Nat) (l:List α) (x:α):sm b (l++[x])=sm b l+b x+1:=by simp [sm];omega
theorem ok_snoc {α:Type} {ok:α→Prop} {l:List α} {x:α} (h:∀ y ∈ l,ok y) (hx:ok x):∀ y ∈ l++[x],ok y:=fun y hy=>by
 rcases List.mem_append.1 hy with h1|h1
 ·exact h y h1
 ·simp at h1;subst h1;exact hx
theorem manyP_fit {α:Type} {b:α→Nat} {ok:α→Prop} {m:List UInt8} {f:TS→PR α} (hf:GP b ok 1 f):∀ (n:Nat) (l:List α) (t:TS) (l':List α) (t':TS),(∀ x ∈ l,ok x)→manyP m f n l t=.ok (l',t')→t' <:+ t∧sm b l'+4+wT t'≤sm b l+wT t∧∀ x ∈ l',ok x
 | 0,_,_,_,_,_,h=>by cases h
 | n+1,l,t,l',t',hl,h=>by
  simp only [manyP] at h
  split at h
  ·rename_i hp;simp only [Except.ok.injEq,Prod.mk.injEq] at h;obtain ⟨rfl,rfl⟩:=h
   have:=tail_p hp;exact ⟨this.1,by omega,hl⟩
  ·obtain ⟨x,t1,h1,h2⟩:=pb_inv h
   have g1:=hf _ _ _ h1
   have w:=g1.w
   have g2:=manyP_fit hf n _ _ _ _ (ok_snoc hl g1.ok) h2
   rw [sm_snoc] at g2
   exact ⟨g2.1.trans g1.suf,by omega,g2.2.2⟩
theorem whileP_fit {α:Type} {b:α→Nat} {ok:α→Prop} {m:List UInt8} {f:TS→PR α} (hf:GP b ok 1 f):∀ (n:Nat) (l:List α) (t:TS) (l':List α) (t':TS),(∀ x ∈ l,ok x)→whileP m f n l t=.ok (l',t')→t' <:+ t∧sm b l'+wT t'≤sm b l+wT t∧∀ x ∈ l',ok x
 | 0,_,_,_,_,_,h=>by cases h
 | n+1,l,t,l',t',hl,h=>by
  simp only [whileP] at h
  split at h
  ·rename_i hp
   have h0:=tail_p hp
   obtain ⟨x,t1,h1,h2⟩:=pb_inv h
   have g1:=hf _ _ _ h1
   have w:=g1.w
   have g2:=whileP_fit hf n _ _ _ _ (ok_snoc hl g1.ok) h2
   rw [sm_snoc] at g2
   exact ⟨(g2.1.trans g1.suf).trans h0.1,by omega,g2.2.2⟩
  ·simp only [Except.ok.injEq,Prod.mk.injEq] at h;obtain ⟨rfl,rfl⟩:=h
   exact ⟨List.suffix_refl t,by omega,hl⟩
theorem many1P_fit {α:Type} {b:α→Nat} {ok:α→Prop} {m:List UInt8} {f:TS→PR α} (hf:GP b ok 1 f):GP (sm b) (fun l=>∀ x ∈ l,ok x) 4 (many1P m f):=fun t l t' h=>by
 obtain ⟨x,t1,h1,h2⟩:=pb_inv h
 have g1:=hf _ _ _ h1
 have w:=g1.w
 have g2:=manyP_fit hf _ [x] _ _ _ (fun y hy=>by simp at hy;subst hy;exact g1.ok) h2
 have e:sm b [x]=b x+1:=by simp [sm]
 exact ⟨g2.1.trans g1.suf,by omega,g2.2.2⟩
theorem tail_lt {m:List UInt8} {t:TS} (h:isP m t=true):t.tail.length<t.length:=by
 conv=>rhs;rw [hd_tail (isP_ne h)]
 simp
theorem GP.lt {α:Type} {b:α→Nat} {ok:α→Prop} {c:Nat} {f:TS→PR α} (h:GP b ok c f) (hc:0<c):∀ t a t',f t=.ok (a,t')→t'.length<t.length:=fun t a t' e=>(h t a t' e).lt hc
def okTy (ty:TyD) (n:Nat):Prop:=0≤ty.lists∧ty.lists≤n∧0≤ty.musts∧ty.musts<2 ^ (ty.lists.toNat+1)∧ty.musts % 2=0
def okTy' (n:Nat) (ty:TyD):Prop:=0≤ty.lists∧ty.lists≤n∧0≤ty.musts∧ty.musts<2 ^ (ty.lists.toNat+1)
theorem bangP_fit {ty:TyD} {n:Nat} (h:okTy ty n):∀ t a t',bangP ty t=.ok (a,t')→t' <:+ t∧a.nm=ty.nm∧wT t'≤wT t∧okTy' n a:=fun t a t' e=>by
 obtain ⟨h1,h2,h3,h4,h5⟩:=h
 unfold bangP at e
 split at e
 ·rename_i hp;simp only [Except.ok.injEq,Prod.mk.injEq] at e;obtain ⟨rfl,rfl⟩:=e
  have:=tail_p hp
  refine ⟨this.1,rfl,by omega,h1,h2,by simp only;omega,?_⟩
  have e2:(2:Int) ^ (ty.lists.toNat+1) % 2=0:=by rw [Int.pow_succ];omega
  simp only;omega
 ·simp only [Except.ok.injEq,Prod.mk.injEq] at e;obtain ⟨rfl,rfl⟩:=e
  exact ⟨List.suffix_refl t,rfl,Nat.le_refl _,h1,h2,h3,h4⟩
theorem typP_step (n:Nat) (ih:∀ m,n=m+1→GP (fun ty=>ty.nm.length) (okTy' m) 4 (typP m)):GP (fun ty=>ty.nm.length) (okTy' n) 4 (typP n):=fun t a t' h=>by
 rw [typP_eq,typB.eq_def] at h
 split at h
 ·rename_i hp
  have h0:=tail_p hp
  cases n with
  | zero=>cases h
  | succ n =>
   obtain ⟨ty,t1,h1,h2⟩:=pb_inv h
   obtain ⟨_,t2,h3,h4⟩:=pb_inv h2
   have g1:=ih n rfl _ _ _ h1
   have g3:=mustP_fit _ _ _ _ h3
   obtain ⟨a1,a2,a3,a4⟩:=g1.ok
   have e1:(ty.lists+1).toNat=ty.lists.toNat+1:=by omega
   have g4:=bangP_fit (n:=n+1) ⟨by simp only;omega,by simp only;omega,by simp only;omega,by simp only;rw [e1,Int.pow_succ];omega,by simp only;omega⟩ _ _ _ h4
   have w1:=g1.w
   have w3:=g3.w
   simp only [b0] at w1 w3
   exact ⟨((g4.1.trans g3.suf).trans g1.suf).trans h0.1,by rw [g4.2.1];simp only;omega,g4.2.2.2⟩
 ·obtain ⟨s,t1,h1,h2⟩:=pb_inv h
  have g1:=nameP_fit _ _ _ h1
  have g4:=bangP_fit (n:=n) ⟨by simp,by simp,by simp,by simp,by simp⟩ _ _ _ h2
  have w1:=g1.w
  exact ⟨g4.1.trans g1.suf,by rw [g4.2.1];simp only;omega,g4.2.2.2⟩
theorem typP_fit:∀ n,GP (fun ty=>ty.nm.length) (okTy' n) 4 (typP n)
 | 0=>typP_step 0 fun m h=>by cases h
 | k+1=>typP_step (k+1) fun m h=>by cases h;exact typP_fit k
end Go.Proofs.YticbbfbpeimkbaaGreatDoor
namespace Go.Proofs.YticbbfbpeimkbaaGreatDoor
open Go.Ab
def tokA (x:Tok):AV:=.agg [.int .i64 x.k,.str x.s]
end Go.Proofs.YticbbfbpeimkbaaGreatDoor
namespace Go.Proofs.YticbbfbpeimkbaaGreatDoor
open Go.Ab
def tipOf:Own→Option Nat
 | .tip b _=>some b
 | _=>none
structure Sep (H:Heap) (l:List (Own × Nat × Nat)):Prop where
 own:∀ x ∈ l,Owned H x.1 x.2.1 x.2.2
 nd:(l.filterMap fun x=>tipOf x.1).Nodup
theorem tipOf_some {o:Own} {b:Nat} (h:tipOf o=some b):∃ d,o=.tip b d:=by
 cases o<;>simp [tipOf] at h
 rename_i c d;subst h;exact ⟨d,rfl⟩
theorem Owned.ofKept {H H':Heap} {o o2:Own} {n sz:Nat} (h:Owned H o n sz) (hk:Kept H o2 H') (hne:∀ b d d2,o=.tip b d→o2≠.tip b d2):Owned H' o n sz:=by
 cases o with
 | tip b d=>exact hk b _ h fun d2 e=>hne b d d2 rfl e
 | no=>exact h
 | nil=>exact h
 | full=>exact h
theorem Sep.step {H H':Heap} {a b:List (Own × Nat × Nat)} {o o':Own} {n n' sz:Nat} (h:Sep H (a++(o,n,sz) :: b)) (h':OwnS H o H' o' n' sz):Sep H' (a++(o',n',sz) :: b):=by
 have hnd:=h.nd
 simp only [List.filterMap_append,List.filterMap_cons] at hnd
 have hother:∀ x,x ∈ a∨x ∈ b→∀ c d d2,x.1=.tip c d→o≠.tip c d2:=fun x hx c d d2 hxe e=>by
  subst e
  simp only [tipOf] at hnd
  rw [List.nodup_append] at hnd
  obtain ⟨_,hb,hab⟩:=hnd
  rcases hx with hx|hx
  ·exact hab c (List.mem_filterMap.2 ⟨x,hx,by rw [hxe]⟩) c (List.mem_cons_self ..) rfl
  ·exact (List.nodup_cons.1 hb).1 (List.mem_filterMap.2 ⟨x,hx,by rw [hxe]⟩)
 refine ⟨fun x hx=>?_,?_⟩
 ·rcases List.mem_append.1 hx with hx|hx
  ·exact Owned.ofKept (h.own x (by simp [hx])) h'.kept fun c d d2=>hother x (.inl hx) c d d2
  ·rcases List.mem_cons.1 hx with rfl|hx
   ·exact h'.own
   ·exact Owned.ofKept (h.own x (by simp [hx])) h'.kept fun c d d2=>hother x (.inr hx) c d d2
 ·simp only [List.filterMap_append,List.filterMap_cons]
  have hsub:∀ c,c ∈ a.filterMap (fun x=>tipOf x.1)∨c ∈ b.filterMap (fun x=>tipOf x.1)→tipOf o'≠some c:=fun c hc e=>by
   obtain ⟨d',e⟩:=tipOf_some e
   have hH:H c≠none∧∀ d0,o≠.tip c d0:=by
    rcases hc with hc|hc<;>obtain ⟨x,hx,hxe⟩:=List.mem_filterMap.1 hc<;>obtain ⟨d,hxe⟩:=tipOf_some hxe
    ·have:=h.own x (by simp [hx]);rw [hxe] at this
     have h2:H c=some _:=this
     exact ⟨by simp [h2],fun d0=>hother x (.inl hx) c d d0 hxe⟩
    ·have:=h.own x (by simp [hx]);rw [hxe] at this
     have h2:H c=some _:=this
     exact ⟨by simp [h2],fun d0=>hother x (.inr hx) c d d0 hxe⟩
   rcases h'.new c d' e with h1|⟨d0,h1⟩
   ·exact hH.1 h1
   ·exact hH.2 d0 h1
  have hnd2:(a.filterMap (fun x=>tipOf x.1)++b.filterMap (fun x=>tipOf x.1)).Nodup:=by
   cases ho:tipOf o with
   | none=>rw [ho] at hnd;exact hnd
   | some c =>
    rw [ho] at hnd
    rw [List.nodup_append] at hnd ⊢
    exact ⟨hnd.1,(List.nodup_cons.1 hnd.2.1).2,fun x hx y hy=>hnd.2.2 x hx y (List.mem_cons_of_mem _ hy)⟩
  cases ho:tipOf o' with
  | none=>exact hnd2
  | some c =>
   have hc:=hsub c
   rw [List.nodup_append] at hnd2 ⊢
   refine ⟨hnd2.1,List.nodup_cons.2 ⟨fun hm=>hc (.inr hm) ho,hnd2.2.1⟩,fun x hx y hy=>?_⟩
   rcases List.mem_cons.1 hy with rfl|hy
   ·exact fun e=>hc (.inl (e▸hx)) ho
   ·exact hnd2.2.2 x hx y hy
theorem Sep.mono {H H':Heap} {l:List (Own × Nat × Nat)} (h:Sep H l) (hk:∀ c n sz,H c=some (.tip n sz)→H' c=some (.tip n sz)):Sep H' l :=
 ⟨fun x hx=>by
  have:=h.own x hx
  obtain ⟨o,n,sz⟩:=x
  cases o with
  | tip c d=>exact hk c _ _ this
  | no=>exact this
  | nil=>exact this
  | full=>exact this,h.nd⟩
end Go.Proofs.YticbbfbpeimkbaaGreatDoor
namespace Go.Proofs.YticbbfbpeimkbaaGreatDoor
open Go.Ab Go.RowKit Go.Sort Go.Lib
theorem idxByteC (s:List UInt8) (c:UInt8):Pure Tryz.prog 222 [.str s,.int .u8 c.toNat] (.int .i64 (Lib.indexByte s c)):=by
 refine Pure.of_calls fun γ w vs ht hv=>?_
 obtain ⟨hl,hr⟩:=hv
 match vs,hl with
 | [v,u],_ =>
  cases hr 0 _ _ rfl rfl
  cases hr 1 _ _ rfl rfl
  refine (Tryz.strings_IndexByte ⟨s.toArray⟩ c.toNat w).mono fun e w' ⟨he,hw⟩=>⟨hw,_,he,?_⟩
  have e1:((c.toNat:Int)).toNat.toUInt8=c:=by simp
  rw [e1]
  exact .int _ _
theorem containsC1 (s:List UInt8) (c:UInt8):Pure Tryz.prog 209 [.str s,.str [c]] (.bool (decide (0≤Lib.indexByte s c))):=by
 refine Pure.of_calls fun γ w vs ht hv=>?_
 obtain ⟨hl,hr⟩:=hv
 match vs,hl with
 | [v,u],_ =>
  cases hr 0 _ _ rfl rfl
  cases hr 1 _ _ rfl rfl
  exact (Tryz.strings_Contains_one ⟨s.toArray⟩ c w).mono fun e w' ⟨he,hw⟩=>⟨hw,_,he,.bool _⟩
end Go.Proofs.YticbbfbpeimkbaaGreatDoor
namespace Go.Proofs.YticbbfbpeimkbaaGreatDoor
open Go.Ab
theorem bytesOf_len (l:List UInt8):(bytesOf l).length=l.length:=by simp [bytesOf]
theorem bytesOf_app (a b:List UInt8):bytesOf a++bytesOf b=bytesOf (a++b):=by simp [bytesOf]
theorem bytesOf_strip (l:List UInt8):(bytesOf l).map (·.map AV.strip1)=bytesOf l:=by simp [bytesOf,AV.strip1]
theorem byts_of (l:List UInt8):byts (bytesOf l)=some l:=by
 induction l with
 | nil=>rfl
 | cons c r ih =>
  have h:=c.toNat_lt
  simp only [bytesOf,List.map_cons] at ih ⊢
  simp only [byts,ih,Option.map_some]
  rw [if_pos ⟨by omega,by omega⟩]
  simp
theorem bytesOf_one (acc:List UInt8) (c:UInt8):bytesOf acc++[[.int .u8 c.toNat]]=bytesOf (acc++[c]):=bytesOf_app acc [c]
theorem bytesOf_two (acc:List UInt8) (c d:UInt8):bytesOf acc++[[.int .u8 c.toNat],[.int .u8 d.toNat]]=bytesOf (acc++[c,d]):=bytesOf_app acc [c,d]
theorem wr32 {n:Nat} (h:n<4294967296):IntKind.wrap .u32 (n:Int)=n:=by
 have e:IntKind.wrap .u32 (n:Int)=(n:Int) % 4294967296:=rfl
 rw [e];omega
theorem wri32 {n:Nat} (h:n<2147483648):IntKind.wrap .i32 (n:Int)=n:=by
 have e:IntKind.wrap .i32 (n:Int)=if (n:Int) % 4294967296≥2147483648 then (n:Int) % 4294967296-4294967296 else (n:Int) % 4294967296:=by
  simp [IntKind.wrap,IntKind.bits,IntKind.signed]
 rw [e];split<;>omega
theorem wr8 (n:Nat):IntKind.wrap .u8 (n:Int)=((n % 256:Nat):Int):=by
 have e:IntKind.wrap .u8 (n:Int)=(n:Int) % 256:=rfl
 rw [e];omega
theorem fd6 (n:Nat):(n:Int).fdiv (2 ^ min 6 IntKind.i32.bits)=((n / 64:Nat):Int):=by
 show (n:Int).fdiv 64=_
 rw [Int.fdiv_eq_ediv_of_nonneg _ (by decide)];omega
theorem fd12 (n:Nat):(n:Int).fdiv (2 ^ min 12 IntKind.i32.bits)=((n / 4096:Nat):Int):=by
 show (n:Int).fdiv 4096=_
 rw [Int.fdiv_eq_ediv_of_nonneg _ (by decide)];omega
theorem fd18 (n:Nat):(n:Int).fdiv (2 ^ min 18 IntKind.i32.bits)=((n / 262144:Nat):Int):=by
 show (n:Int).fdiv 262144=_
 rw [Int.fdiv_eq_ediv_of_nonneg _ (by decide)];omega
theorem leadT:∀ x:Fin 32,IntKind.wrap .u8 ((BitVec.ofInt IntKind.u8.bits 192 ||| BitVec.ofInt IntKind.u8.bits ((x.val:Nat):Int)).toNat:Int)=((UInt8.ofNat (192+x.val)).toNat:Int):=by decide +kernel
theorem leadU:∀ x:Fin 16,IntKind.wrap .u8 ((BitVec.ofInt IntKind.u8.bits 224 ||| BitVec.ofInt IntKind.u8.bits ((x.val:Nat):Int)).toNat:Int)=((UInt8.ofNat (224+x.val)).toNat:Int):=by decide +kernel
theorem leadV:∀ x:Fin 8,IntKind.wrap .u8 ((BitVec.ofInt IntKind.u8.bits 240 ||| BitVec.ofInt IntKind.u8.bits ((x.val:Nat):Int)).toNat:Int)=((UInt8.ofNat (240+x.val)).toNat:Int):=by decide +kernel
theorem contT:∀ x:Fin 256,IntKind.wrap .u8 ((BitVec.ofInt IntKind.u8.bits 128 ||| BitVec.ofInt IntKind.u8.bits (IntKind.wrap .u8 ((BitVec.ofInt IntKind.u8.bits ((x.val:Nat):Int) &&& BitVec.ofInt IntKind.u8.bits 63).toNat:Int))).toNat:Int)=((UInt8.ofNat (128+x.val % 64)).toNat:Int):=by decide +kernel
theorem lead2 {m:Nat} (h:m<32):IntKind.wrap .u8 ((BitVec.ofInt IntKind.u8.bits 192 ||| BitVec.ofInt IntKind.u8.bits (IntKind.wrap .u8 (m:Int))).toNat:Int)=((UInt8.ofNat (192+m)).toNat:Int):=by
 rw [wr8 m,Nat.mod_eq_of_lt (show m<256 by omega)];exact leadT ⟨m,h⟩
theorem lead3 {m:Nat} (h:m<16):IntKind.wrap .u8 ((BitVec.ofInt IntKind.u8.bits 224 ||| BitVec.ofInt IntKind.u8.bits (IntKind.wrap .u8 (m:Int))).toNat:Int)=((UInt8.ofNat (224+m)).toNat:Int):=by
 rw [wr8 m,Nat.mod_eq_of_lt (show m<256 by omega)];exact leadU ⟨m,h⟩
theorem lead4 {m:Nat} (h:m<8):IntKind.wrap .u8 ((BitVec.ofInt IntKind.u8.bits 240 ||| BitVec.ofInt IntKind.u8.bits (IntKind.wrap .u8 (m:Int))).toNat:Int)=((UInt8.ofNat (240+m)).toNat:Int):=by
 rw [wr8 m,Nat.mod_eq_of_lt (show m<256 by omega)];exact leadV ⟨m,h⟩
theorem cont (m:Nat):IntKind.wrap .u8 ((BitVec.ofInt IntKind.u8.bits 128 ||| BitVec.ofInt IntKind.u8.bits (IntKind.wrap .u8 ((BitVec.ofInt IntKind.u8.bits (IntKind.wrap .u8 (m:Int)) &&& BitVec.ofInt IntKind.u8.bits 63).toNat:Int))).toNat:Int)=((UInt8.ofNat (128+m % 64)).toNat:Int):=by
 rw [wr8 m]
 have:=contT ⟨m % 256,Nat.mod_lt _ (by decide)⟩
 simp only at this
 rw [this,Nat.mod_mod_of_dvd m (by decide)]
theorem appNon (n:Nat) (h0:127<n) (h1:n≤1114111) (h2:¬ (55296≤n∧n≤57343)) (acc:List UInt8) (H:Heap) (o:Own) (ho:Owned H o acc.length 1) (hb:acc.length≤Lim) :
  Gives Tryz.prog 356 [.sl o 1 (bytesOf acc),.int .i32 n] H o 1 (bytesOf (acc++encM n)):=by
 refine ACalls.goO ir356 ck356 (Nat.le_refl _) fun KP Q hQ hP=>?_
 have e1:=wr32 (n:=n) (by omega)
 have hal:=bytesOf_len acc
 simp only [Lim] at hb
 have ho':Owned H o (bytesOf acc).length 1:=by rw [hal];exact ho
 have fin:∀ (e:List UInt8) o' H',encM n=e→OwnS H o H' o' ((bytesOf acc).length+e.length) 1→OwnR H o 1 (bytesOf (acc++encM n)) (.sl o' 1 (bytesOf acc++bytesOf e)) H':=fun e o' H' he hs=>by
  rw [he];exact ⟨o',by rw [bytesOf_app],by rw [bytesOf_len,List.length_append];rw [hal] at hs;exact hs⟩
 by_cases h3:n≤2047
 ·have g1:((n:Int)≤2047)=True:=eq_true (by omega)
  simp (disch:=first|omega|assumption) only [ir356,e1,g1,steps,st2,pev,rev,oev,optr,ibin,sbin,ishf,bound,mmAll,mm2,mk,mkArgs,AV.cells,AV.boxable,AV.one,AV.strip1,fillA,fillS,Nat.reduceEqDiff,reduceCtorEq,↓reduceIte,Nat.reduceAdd,Int.reduceNeg,Nat.reduceLeDiff,Int.reduceToNat,Int.reduceEq,Int.reduceLT,Int.reduceLE,Int.reduceAdd,Io,Im,If,Il,Jt,Jf]
  simp only [fd6,lead2 (show n / 64<32 by omega),cont]
  refine goP_ownS ho' (by simp [hal];omega) (by simp [hal,maxLen];omega) fun o' H' hs=>?_
  simp (disch:=first|omega|assumption) only [steps,st2,pev,rev,oev,optr,ibin,sbin,ishf,bound,mmAll,mm2,mk,mkArgs,AV.cells,AV.boxable,AV.one,AV.strip1,fillA,fillS,Nat.reduceEqDiff,reduceCtorEq,↓reduceIte,Nat.reduceAdd,Int.reduceNeg,Nat.reduceLeDiff,Int.reduceToNat,Int.reduceEq,Int.reduceLT,Int.reduceLE,Int.reduceAdd,Io,Im,If,Il,Jt,Jf]
  exact hQ _ _ H' H' [_] nofun rfl (Low.refl _) (fin [_,_] o' H' (by unfold encM;rw [if_neg (by omega),if_pos h3]) hs)
 ·have g1:¬ ((n:Int)≤2047):=by omega
  by_cases h4:n≤65535
  ·by_cases h5:n<55296
   ·have g2:((n:Int)<55296)=True:=eq_true (by omega)
    simp (disch:=first|omega|assumption) only [ir356,e1,g1,g2,steps,st2,pev,rev,oev,optr,ibin,sbin,ishf,bound,mmAll,mm2,mk,mkArgs,AV.cells,AV.boxable,AV.one,AV.strip1,fillA,fillS,Nat.reduceEqDiff,reduceCtorEq,↓reduceIte,Nat.reduceAdd,Int.reduceNeg,Nat.reduceLeDiff,Int.reduceToNat,Int.reduceEq,Int.reduceLT,Int.reduceLE,Int.reduceAdd,Io,Im,If,Il,Jt,Jf]
    simp only [fd6,fd12,lead3 (show n / 4096<16 by omega),cont]
    refine goP_ownS ho' (by simp [hal];omega) (by simp [hal,maxLen];omega) fun o' H' hs=>?_
    simp (disch:=first|omega|assumption) only [steps,st2,pev,rev,oev,optr,ibin,sbin,ishf,bound,mmAll,mm2,mk,mkArgs,AV.cells,AV.boxable,AV.one,AV.strip1,fillA,fillS,Nat.reduceEqDiff,reduceCtorEq,↓reduceIte,Nat.reduceAdd,Int.reduceNeg,Nat.reduceLeDiff,Int.reduceToNat,Int.reduceEq,Int.reduceLT,Int.reduceLE,Int.reduceAdd,Io,Im,If,Il,Jt,Jf]
    exact hQ _ _ H' H' [_] nofun rfl (Low.refl _) (fin [_,_,_] o' H' (by unfold encM;rw [if_neg (by omega),if_neg h3,if_pos h4]) hs)
   ·have g2:¬ ((n:Int)<55296):=by omega
    have g3:((57343:Int)<n)=True:=eq_true (by omega)
    have g4:((n:Int)≤65535)=True:=eq_true (by omega)
    simp (disch:=first|omega|assumption) only [ir356,e1,g1,g2,g3,g4,steps,st2,pev,rev,oev,optr,ibin,sbin,ishf,bound,mmAll,mm2,mk,mkArgs,AV.cells,AV.boxable,AV.one,AV.strip1,fillA,fillS,Nat.reduceEqDiff,reduceCtorEq,↓reduceIte,Nat.reduceAdd,Int.reduceNeg,Nat.reduceLeDiff,Int.reduceToNat,Int.reduceEq,Int.reduceLT,Int.reduceLE,Int.reduceAdd,Io,Im,If,Il,Jt,Jf]
    simp only [fd6,fd12,lead3 (show n / 4096<16 by omega),cont]
    refine goP_ownS ho' (by simp [hal];omega) (by simp [hal,maxLen];omega) fun o' H' hs=>?_
    simp (disch:=first|omega|assumption) only [steps,st2,pev,rev,oev,optr,ibin,sbin,ishf,bound,mmAll,mm2,mk,mkArgs,AV.cells,AV.boxable,AV.one,AV.strip1,fillA,fillS,Nat.reduceEqDiff,reduceCtorEq,↓reduceIte,Nat.reduceAdd,Int.reduceNeg,Nat.reduceLeDiff,Int.reduceToNat,Int.reduceEq,Int.reduceLT,Int.reduceLE,Int.reduceAdd,Io,Im,If,Il,Jt,Jf]
    exact hQ _ _ H' H' [_] nofun rfl (Low.refl _) (fin [_,_,_] o' H' (by unfold encM;rw [if_neg (by omega),if_neg h3,if_pos h4]) hs)
  ·have g2:¬ ((n:Int)<55296):=by omega
   have g3:((57343:Int)<n)=True:=eq_true (by omega)
   have g4:¬ ((n:Int)≤65535):=by omega
   have g5:((65535:Int)<n)=True:=eq_true (by omega)
   have g6:((n:Int)≤1114111)=True:=eq_true (by omega)
   simp (disch:=first|omega|assumption) only [ir356,e1,g1,g2,g3,g4,g5,g6,steps,st2,pev,rev,oev,optr,ibin,sbin,ishf,bound,mmAll,mm2,mk,mkArgs,AV.cells,AV.boxable,AV.one,AV.strip1,fillA,fillS,Nat.reduceEqDiff,reduceCtorEq,↓reduceIte,Nat.reduceAdd,Int.reduceNeg,Nat.reduceLeDiff,Int.reduceToNat,Int.reduceEq,Int.reduceLT,Int.reduceLE,Int.reduceAdd,Io,Im,If,Il,Jt,Jf]
   simp only [fd6,fd12,fd18,lead4 (show n / 262144<8 by omega),cont]
   refine goP_ownS ho' (by simp [hal];omega) (by simp [hal,maxLen];omega) fun o' H' hs=>?_
   simp (disch:=first|omega|assumption) only [steps,st2,pev,rev,oev,optr,ibin,sbin,ishf,bound,mmAll,mm2,mk,mkArgs,AV.cells,AV.boxable,AV.one,AV.strip1,fillA,fillS,Nat.reduceEqDiff,reduceCtorEq,↓reduceIte,Nat.reduceAdd,Int.reduceNeg,Nat.reduceLeDiff,Int.reduceToNat,Int.reduceEq,Int.reduceLT,Int.reduceLE,Int.reduceAdd,Io,Im,If,Il,Jt,Jf]
   exact hQ _ _ H' H' [_] nofun rfl (Low.refl _) (fin [_,_,_,_] o' H' (by unfold encM;rw [if_neg (by omega),if_neg h3,if_neg h4]) hs)
theorem appRune (n:Nat) (h1:n≤1114111) (h2:¬ (55296≤n∧n≤57343)) (acc:List UInt8) (H:Heap) (o:Own) (ho:Owned H o acc.length 1) (hb:acc.length≤Lim) :
  Gives Tryz.prog 346 [.sl o 1 (bytesOf acc),.int .i32 n] H o 1 (bytesOf (acc++encM n)):=by
 refine ACalls.goO ir346 ck346 (Nat.le_refl _) fun KP Q hQ hP=>?_
 have e1:=wr32 (n:=n) (by omega)
 have hal:=bytesOf_len acc
 by_cases h3:n≤127
 ·have g1:((n:Int)≤127)=True:=eq_true (by omega)
  have g2:IntKind.wrap .u8 (n:Int)=((UInt8.ofNat n).toNat:Int):=by rw [wr8];simp
  simp only [Lim] at hb
  simp (disch:=first|omega|assumption) only [ir346,e1,g1,g2,go_sem,↓reduceIte]
  refine goP_ownS (by rw [hal];exact ho) (by simp [hal];omega) (by simp [hal,maxLen];omega) fun o' H' hs=>?_
  simp (disch:=first|omega|assumption) only [go_sem,↓reduceIte]
  refine hQ _ _ H' H' [_] nofun rfl (Low.refl _) ⟨o',?_,?_⟩
  ·have:encM n=[UInt8.ofNat n]:=by unfold encM;rw [if_pos h3]
   rw [this];exact congrArg _ (bytesOf_one _ _)
  ·have:encM n=[UInt8.ofNat n]:=by unfold encM;rw [if_pos h3]
   rw [this,bytesOf_len];simpa [hal] using hs
 ·have g1:¬ ((n:Int)≤127):=by omega
  simp (disch:=first|omega|assumption) only [ir346,e1,g1,go_sem,↓reduceIte]
  refine goK_gives (appNon n (by omega) h1 h2 acc H o ho hb) fun o' H' hs=>?_
  simp (disch:=first|omega|assumption) only [go_sem,↓reduceIte]
  exact hQ _ _ H' H' [_] nofun rfl (Low.refl _) ⟨o',rfl,hs⟩
end Go.Proofs.YticbbfbpeimkbaaGreatDoor
namespace Go.Proofs.YticbbfbpeimkbaaGreatDoor
open Go.Ab
theorem or32T:∀ x:Fin 256,IntKind.wrap .u8 ((BitVec.ofInt IntKind.u8.bits ((x.val:Nat):Int) ||| BitVec.ofInt IntKind.u8.bits 32).toNat:Int)=((UInt8.ofNat x.val ||| 32).toNat:Int):=by decide +kernel
theorem or32 (c:UInt8):IntKind.wrap .u8 ((BitVec.ofInt IntKind.u8.bits (c.toNat:Int) ||| BitVec.ofInt IntKind.u8.bits 32).toNat:Int)=((c ||| 32).toNat:Int):=by
 have:=or32T ⟨c.toNat,c.toNat_lt⟩
 simpa using this
theorem idx_le (l:List UInt8) (c:UInt8):-1≤Lib.indexByte l c∧Lib.indexByte l c<l.length:=by
 induction l with
 | nil=>simp [Lib.indexByte]
 | cons x r ih =>
  simp only [Lib.indexByte,List.length_cons]
  split
  ·omega
  ·split
   ·omega
   ·omega
theorem unitC (s:List UInt8) (hs:s.length≤Lim):Pure Tryz.prog 326 [.str s] (.tup [.int .i64 ((unitM s).getD 0:Nat),.bool (unitM s).isSome]):=by
 refine Pure.go ir326 ck326 (Nat.le_refl _) fun KP Q hQ=>?_
 simp only [Lim] at hs
 by_cases h4:s.length<4
 ·have g1:((s.length:Int)<4)=True:=eq_true (by omega)
  have:unitM s=none:=by
   cases h:unitM s with
   | none=>rfl
   | some u=>have:=unitG_len _ _ _ _ h;omega
  simp (disch:=first|omega|assumption) only [ir326,g1,steps,st2,pev,rev,oev,optr,ibin,sbin,ishf,bound,mmAll,mm2,mk,mkArgs,AV.cells,AV.boxable,AV.one,AV.strip1,fillA,fillS,Nat.reduceEqDiff,reduceCtorEq,↓reduceIte,Nat.reduceAdd,Int.reduceNeg,Nat.reduceLeDiff,Int.reduceToNat,Int.reduceEq,Int.reduceLT,Int.reduceLE,Int.reduceAdd,Io,Im,If,Il,Jt,Jf]
  exact hQ _ _ _ _ nofun rfl (by simp [tupOf,envOf,AV.strip,AV.strip1,this])
 ·have g1:¬ ((s.length:Int)<4):=by omega
  obtain ⟨l,r,hl,hsr⟩:∃ l r:List UInt8,l.length=4∧s=l++r:=⟨s.take 4,s.drop 4,by simp;omega,by simp⟩
  have hl':(l.length:Int)=4:=by omega
  have key:∀ (a b:List UInt8) (u:Nat),l=a++b→unitG b.length (b++r) u=unitG (4-a.length) (s.drop a.length) u:=fun a b u h=>by
   have:a.length+b.length=4:=by rw [← hl,h];simp
   rw [hsr,h,List.append_assoc,List.drop_left];congr 1;omega
  simp (disch:=first|omega|assumption) only [ir326,g1,steps,st2,pev,rev,oev,optr,ibin,sbin,ishf,bound,mmAll,mm2,mk,mkArgs,AV.cells,AV.boxable,AV.one,AV.strip1,fillA,fillS,Nat.reduceEqDiff,reduceCtorEq,↓reduceIte,Nat.reduceAdd,Int.reduceNeg,Nat.reduceLeDiff,Int.reduceToNat,Int.reduceEq,Int.reduceLT,Int.reduceLE,Int.reduceAdd,Io,Im,If,Il,Jt,Jf]
  refine goL_range l 10 (fun u:Nat=>[(4,.int .i64 u)]) (fun done rest u H=>unitG rest.length (rest++r) u=unitM s∧u<16 ^ done.length∧H=Heap.emp) 0 (by simp (disch:=first|omega|assumption) only [steps,st2,pev,rev,oev,optr,ibin,sbin,ishf,bound,mmAll,mm2,mk,mkArgs,AV.cells,AV.boxable,AV.one,AV.strip1,fillA,fillS,Nat.reduceEqDiff,reduceCtorEq,↓reduceIte,Nat.reduceAdd,Int.reduceNeg,Nat.reduceLeDiff,Int.reduceToNat,Int.reduceEq,Int.reduceLT,Int.reduceLE,Int.reduceAdd,Io,Im,If,Il,Jt,Jf]) ⟨by rw [hl,← hsr];rfl,by simp,rfl⟩ ?_ ?_
  ·rintro u H J ⟨hu,_,rfl⟩ hlt
   simp only [List.length_nil,unitG] at hu
   simp (disch:=first|omega|assumption) only [hl',steps,st2,pev,rev,oev,optr,ibin,sbin,ishf,bound,mmAll,mm2,mk,mkArgs,AV.cells,AV.boxable,AV.one,AV.strip1,fillA,fillS,Nat.reduceEqDiff,reduceCtorEq,↓reduceIte,Nat.reduceAdd,Int.reduceNeg,Nat.reduceLeDiff,Int.reduceToNat,Int.reduceEq,Int.reduceLT,Int.reduceLE,Int.reduceAdd,Io,Im,If,Il,Jt,Jf]
   exact hQ _ _ _ _ nofun rfl (by simp [tupOf,envOf,AV.strip,AV.strip1,← hu])
  ·rintro done c rest u H J hd hlt hlt2 ⟨hu,hb,rfl⟩ hJ
   have hd4:done.length<4:=by omega
   have hlt':(done.length:Int)<4:=by omega
   have hlt3:(done.length:Int)<s.length:=by omega
   have hg:s.getD done.length 0=c:=by rw [hsr,hd];simp
   have hpow:16 ^ done.length≤4096:=by
    have:done.length≤3:=by omega
    calc 16 ^ done.length≤16 ^ 3:=Nat.pow_le_pow_right (by decide) this
     _=4096:=rfl
   simp only [List.length_cons,List.cons_append,unitG] at hu
   have hidx:=idx_le hexL (c ||| 32)
   have hc:=c.toNat_lt
   simp only [hexL,List.length_cons,List.length_nil] at hidx
   simp (disch:=first|omega|assumption) only [hlt',hlt3,hg,or32,steps,st2,pev,rev,oev,optr,ibin,sbin,ishf,bound,mmAll,mm2,mk,mkArgs,AV.cells,AV.boxable,AV.one,AV.strip1,fillA,fillS,Nat.reduceEqDiff,reduceCtorEq,↓reduceIte,Nat.reduceAdd,Int.reduceNeg,Nat.reduceLeDiff,Int.reduceToNat,Int.reduceEq,Int.reduceLT,Int.reduceLE,Int.reduceAdd,Io,Im,If,Il,Jt,Jf]
   refine goK_pure (idxByteC hexL (c ||| 32)) ?_
   have no:hexD c=none→(unitM s)=none:=fun e=>by rw [e] at hu;exact hu.symm
   by_cases n1:Lib.indexByte hexL (c ||| 32)<0
   ·have e:hexD c=none:=by unfold hexD;rw [if_pos (.inl n1)]
    simp (disch:=first|omega|assumption) only [n1,steps,st2,pev,rev,oev,optr,ibin,sbin,ishf,bound,mmAll,mm2,mk,mkArgs,AV.cells,AV.boxable,AV.one,AV.strip1,fillA,fillS,Nat.reduceEqDiff,reduceCtorEq,↓reduceIte,Nat.reduceAdd,Int.reduceNeg,Nat.reduceLeDiff,Int.reduceToNat,Int.reduceEq,Int.reduceLT,Int.reduceLE,Int.reduceAdd,Io,Im,If,Il,Jt,Jf]
    exact hQ _ _ _ _ nofun rfl (by simp [tupOf,envOf,AV.strip,AV.strip1,no e])
   obtain ⟨k,hk⟩:∃ k:Nat,Lib.indexByte hexL (c ||| 32)=(k:Int):=⟨(Lib.indexByte hexL (c ||| 32)).toNat,by omega⟩
   have hk16:k<16:=by rw [show Lib.indexByte [48,49,50,51,52,53,54,55,56,57,97,98,99,100,101,102] (c ||| 32)=(k:Int) from hk] at hidx;omega
   have hu4:u<4096:=by omega
   have hkn:¬ ((k:Int)<0):=by omega
   have hnext:hexD c=some k→unitG rest.length (rest++r) (16*u+k)=unitM s∧16*u+k<16 ^ (done++[c]).length∧Heap.emp=Heap.emp:=fun e=>by
    rw [e] at hu
    refine ⟨hu,?_,rfl⟩
    rw [List.length_append,List.length_cons,List.length_nil,Nat.pow_succ];omega
   have hpush:((16*u+k:Nat):Int)=16*(u:Int)+k:=by omega
   by_cases n2:c.toNat<48
   ·have e:hexD c=none:=by unfold hexD;rw [if_pos (.inr (.inl n2))]
    have n2':((c.toNat:Int)<48)=True:=eq_true (by omega)
    simp (disch:=first|omega|assumption) only [hk,hkn,n2',hlt3,hg,steps,st2,pev,rev,oev,optr,ibin,sbin,ishf,bound,mmAll,mm2,mk,mkArgs,AV.cells,AV.boxable,AV.one,AV.strip1,fillA,fillS,Nat.reduceEqDiff,reduceCtorEq,↓reduceIte,Nat.reduceAdd,Int.reduceNeg,Nat.reduceLeDiff,Int.reduceToNat,Int.reduceEq,Int.reduceLT,Int.reduceLE,Int.reduceAdd,Io,Im,If,Il,Jt,Jf]
    exact hQ _ _ _ _ nofun rfl (by simp [tupOf,envOf,AV.strip,AV.strip1,no e])
   have n2':¬ ((c.toNat:Int)<48):=by omega
   by_cases n3:57<c.toNat
   ·have n3':((57:Int)<c.toNat)=True:=eq_true (by omega)
    by_cases n4:c.toNat<65
    ·have e:hexD c=none:=by unfold hexD;rw [if_pos (.inr (.inr ⟨n3,n4⟩))]
     have n4':((c.toNat:Int)<65)=True:=eq_true (by omega)
     simp (disch:=first|omega|assumption) only [hk,hkn,n2',n3',n4',hlt3,hg,steps,st2,pev,rev,oev,optr,ibin,sbin,ishf,bound,mmAll,mm2,mk,mkArgs,AV.cells,AV.boxable,AV.one,AV.strip1,fillA,fillS,Nat.reduceEqDiff,reduceCtorEq,↓reduceIte,Nat.reduceAdd,Int.reduceNeg,Nat.reduceLeDiff,Int.reduceToNat,Int.reduceEq,Int.reduceLT,Int.reduceLE,Int.reduceAdd,Io,Im,If,Il,Jt,Jf]
     exact hQ _ _ _ _ nofun rfl (by simp [tupOf,envOf,AV.strip,AV.strip1,no e])
    ·have e:hexD c=some k:=by unfold hexD;rw [if_neg (by omega),hk];rfl
     have n4':¬ ((c.toNat:Int)<65):=by omega
     simp (disch:=first|omega|assumption) only [hk,hkn,n2',n3',n4',hlt3,hg,wrap64,steps,st2,pev,rev,oev,optr,ibin,sbin,ishf,bound,mmAll,mm2,mk,mkArgs,AV.cells,AV.boxable,AV.one,AV.strip1,fillA,fillS,Nat.reduceEqDiff,reduceCtorEq,↓reduceIte,Nat.reduceAdd,Int.reduceNeg,Nat.reduceLeDiff,Int.reduceToNat,Int.reduceEq,Int.reduceLT,Int.reduceLE,Int.reduceAdd,Io,Im,If,Il,Jt,Jf]
     refine goJ (hJ (16*u+k) _ (hnext e)) (by simp (disch:=first|omega|assumption) only [hpush,steps,st2,pev,rev,oev,optr,ibin,sbin,ishf,bound,mmAll,mm2,mk,mkArgs,AV.cells,AV.boxable,AV.one,AV.strip1,fillA,fillS,Nat.reduceEqDiff,reduceCtorEq,↓reduceIte,Nat.reduceAdd,Int.reduceNeg,Nat.reduceLeDiff,Int.reduceToNat,Int.reduceEq,Int.reduceLT,Int.reduceLE,Int.reduceAdd,Io,Im,If,Il,Jt,Jf])
   ·have e:hexD c=some k:=by unfold hexD;rw [if_neg (by omega),hk];rfl
    have n3':¬ ((57:Int)<c.toNat):=by omega
    simp (disch:=first|omega|assumption) only [hk,hkn,n2',n3',hlt3,hg,wrap64,steps,st2,pev,rev,oev,optr,ibin,sbin,ishf,bound,mmAll,mm2,mk,mkArgs,AV.cells,AV.boxable,AV.one,AV.strip1,fillA,fillS,Nat.reduceEqDiff,reduceCtorEq,↓reduceIte,Nat.reduceAdd,Int.reduceNeg,Nat.reduceLeDiff,Int.reduceToNat,Int.reduceEq,Int.reduceLT,Int.reduceLE,Int.reduceAdd,Io,Im,If,Il,Jt,Jf]
    refine goJ (hJ (16*u+k) _ (hnext e)) (by simp (disch:=first|omega|assumption) only [hpush,steps,st2,pev,rev,oev,optr,ibin,sbin,ishf,bound,mmAll,mm2,mk,mkArgs,AV.cells,AV.boxable,AV.one,AV.strip1,fillA,fillS,Nat.reduceEqDiff,reduceCtorEq,↓reduceIte,Nat.reduceAdd,Int.reduceNeg,Nat.reduceLeDiff,Int.reduceToNat,Int.reduceEq,Int.reduceLT,Int.reduceLE,Int.reduceAdd,Io,Im,If,Il,Jt,Jf])
def cU (l:List Nat):List (List AV):=l.map fun (n:Nat)=>[AV.int .i64 (n:Int)]
theorem cU_len (l:List Nat):(cU l).length=l.length:=by simp [cU]
theorem cU_strip (l:List Nat):(cU l).map (·.map AV.strip1)=cU l:=by simp [cU,AV.strip1]
theorem joinC (us:List Nat) (hl:us.length≤68719476736):Pure Tryz.prog 327 [.sl .no 1 (cU us)] (.tup [.str ((joinM us).getD []),.bool (joinM us).isSome]):=by
 refine Pure.go ir327 ck327 (Nat.le_refl _) fun KP Q hQ=>?_
 have hll:=cU_len us
 simp (disch:=first|omega|assumption) only [ir327,go_sem,↓reduceIte]
 refine goL_st (fun s:List Nat × List Nat × Own × List UInt8=>[(4,.sl s.2.2.1 1 (bytesOf s.2.2.2)),(5,.int .i64 s.1.length)]) (fun s H=>us=s.1++s.2.1∧joinM us=(joinM s.2.1).map (s.2.2.2++·)∧s.2.2.2.length≤2*s.1.length*2∧Owned H s.2.2.1 s.2.2.2.length 1) (fun s=>s.2.1.length) ([],us,.nil,[]) (by simp (disch:=first|omega|assumption) only [go_sem,↓reduceIte];rfl) ⟨rfl,by cases joinM us<;>rfl,by simp,rfl⟩ ?_
 rintro ⟨done,rest,o,out⟩ H J ⟨hd,hj,hle,ho⟩ hJ
 simp only at hd hj hle ho
 have hdl:done.length+rest.length=us.length:=by rw [hd];simp
 cases rest with
 | nil =>
  simp only [List.append_nil] at hd
  have hlt:¬ ((done.length:Int)<us.length):=by rw [hd];omega
  simp (disch:=first|omega|assumption) only [hll,hlt,go_sem,↓reduceIte]
  simp only [joinM,Option.map_some,List.append_nil] at hj
  simp (disch:=first|omega|assumption) only [byts_of,go_sem,↓reduceIte]
  exact hQ _ _ _ _ nofun rfl (by simp [tupOf,envOf,AV.strip,AV.strip1,hj])
 | cons u r =>
  have hlt:((done.length:Int)<us.length):=by simp at hdl;omega
  have hg:(cU us).getD done.length []=[.int .i64 u]:=by rw [hd];simp [cU]
  have hu0:¬ ((u:Int)<0):=by omega
  have hrl:r.length+1+done.length=us.length:=by simp at hdl;omega
  have none_of:joinM (u :: r)=none→joinM us=none:=fun e=>by rw [hj,e];rfl
  have hmax:maxLen=9223372036854775807:=rfl
  by_cases a1:65535<u
  ·have e:=none_of (by rw [joinM.eq_def];simp only;rw [if_pos (.inl a1)])
   have a1':((65535:Int)<u)=True:=eq_true (by omega)
   simp (disch:=first|omega|assumption) only [hll,hlt,hg,hu0,a1',go_sem,↓reduceIte]
   exact hQ _ _ _ _ nofun rfl (by simp [tupOf,envOf,AV.strip,AV.strip1,e])
  have a1':¬ ((65535:Int)<u):=by omega
  by_cases a2:56320≤u∧u≤57343
  ·have e:=none_of (by rw [joinM.eq_def];simp only;rw [if_pos (.inr a2)])
   have a2':((56320:Int)≤u)=True:=eq_true (by omega)
   have a3':((u:Int)≤57343)=True:=eq_true (by omega)
   simp (disch:=first|omega|assumption) only [hll,hlt,hg,hu0,a1',a2',a3',go_sem,↓reduceIte]
   exact hQ _ _ _ _ nofun rfl (by simp [tupOf,envOf,AV.strip,AV.strip1,e])
  by_cases a3:55296≤u∧u<56320
  ·have b1:¬ ((56320:Int)≤u):=by omega
   have b2:((55296:Int)≤u)=True:=eq_true (by omega)
   have b3:((u:Int)<56320)=True:=eq_true (by omega)
   cases r with
   | nil =>
    have e:=none_of (by rw [joinM.eq_def];simp only;rw [if_neg (by omega),if_pos a3])
    have b4:((done.length:Int)+1=us.length)=True:=eq_true (by simp at hrl;omega)
    simp (disch:=first|omega|assumption) only [hll,hlt,hg,hu0,a1',b1,b2,b3,wrap64,b4,go_sem,↓reduceIte]
    exact hQ _ _ _ _ nofun rfl (by simp [tupOf,envOf,AV.strip,AV.strip1,e])
   | cons v r =>
    have b4:¬ ((done.length:Int)+1=us.length):=by simp at hrl;omega
    have b5:((done.length:Int)+1<us.length):=by simp at hrl;omega
    have b6:((done.length:Int)+1).toNat=done.length+1:=by omega
    have hg2:(cU us).getD (done.length+1) []=[.int .i64 v]:=by rw [hd];simp [cU]
    by_cases c1:v<56320
    ·have e:=none_of (by rw [joinM.eq_def];simp only;rw [if_neg (by omega),if_pos a3,if_pos (.inl c1)])
     have c1':((v:Int)<56320)=True:=eq_true (by omega)
     simp (disch:=first|omega|assumption) only [hll,hlt,hg,hu0,a1',b1,b2,b3,wrap64,b4,b5,b6,hg2,c1',go_sem,↓reduceIte]
     exact hQ _ _ _ _ nofun rfl (by simp [tupOf,envOf,AV.strip,AV.strip1,e])
    have c1':¬ ((v:Int)<56320):=by omega
    by_cases c2:57343<v
    ·have e:=none_of (by rw [joinM.eq_def];simp only;rw [if_neg (by omega),if_pos a3,if_pos (.inr c2)])
     have c2':((57343:Int)<v)=True:=eq_true (by omega)
     simp (disch:=first|omega|assumption) only [hll,hlt,hg,hu0,a1',b1,b2,b3,wrap64,b4,b5,b6,hg2,c1',c2',go_sem,↓reduceIte]
     exact hQ _ _ _ _ nofun rfl (by simp [tupOf,envOf,AV.strip,AV.strip1,e])
    have c2':¬ ((57343:Int)<v):=by omega
    have ej:joinM (u :: v :: r)=(joinM r).map (encM (65536+1024*(u-55296)+(v-56320))++·):=by rw [joinM.eq_def];simp only;rw [if_neg (by omega),if_pos a3,if_neg (by omega)]
    obtain ⟨m,hm⟩:∃ m,65536+1024*(u-55296)+(v-56320)=m:=⟨_,rfl⟩
    rw [hm] at ej
    have hm2:(65536+1024*((u:Int)-55296)+v-56320)=(m:Int):=by omega
    have hm3:=(encM_len m).1
    simp (disch:=first|omega|assumption) only [hll,hlt,hg,hu0,a1',b1,b2,b3,wrap64,b4,b5,b6,hg2,c1',c2',hm2,wri32 (show m<2147483648 by omega),go_sem,↓reduceIte]
    refine goK_gives (appRune m (by omega) (by omega) out _ o ho (by simp only [Lim];omega)) fun o' H' hs=>?_
    simp (disch:=first|omega|assumption) only [wrap64,go_sem,↓reduceIte]
    have hown:=hs.own
    rw [bytesOf_len] at hown
    have e5:(((done++[u,v]).length:Nat):Int)=(done.length:Int)+1+1:=by simp;omega
    refine goJ (hJ (done++[u,v],r,o',out++encM m) _ (by simp;omega) ⟨by simp [hd],?_,?_,hown⟩) (by simp (disch:=first|omega|assumption) only [e5,go_sem,↓reduceIte])
    ·simp only [hj,ej];cases joinM r<;>simp
    ·simp;omega
  have ej:joinM (u :: r)=(joinM r).map (encM u++·):=by
   rw [joinM.eq_def];simp only;rw [if_neg (by omega),if_neg a3]
  have hm3:=(encM_len u).1
  have e5:(((done++[u]).length:Nat):Int)=(done.length:Int)+1:=by simp
  by_cases h:u<55296
  ·have b1:¬ ((56320:Int)≤u):=by omega
   have b2:¬ ((55296:Int)≤u):=by omega
   simp (disch:=first|omega|assumption) only [hll,hlt,hg,hu0,a1',b1,b2,wri32 (show u<2147483648 by omega),go_sem,↓reduceIte]
   refine goK_gives (appRune u (by omega) (by omega) out _ o ho (by simp only [Lim];omega)) fun o' H' hs=>?_
   simp (disch:=first|omega|assumption) only [wrap64,go_sem,↓reduceIte]
   have hown:=hs.own
   rw [bytesOf_len] at hown
   refine goJ (hJ (done++[u],r,o',out++encM u) _ (by simp) ⟨by simp [hd],?_,?_,hown⟩) (by simp (disch:=first|omega|assumption) only [e5,go_sem,↓reduceIte])
   ·simp only [hj,ej];cases joinM r<;>simp
   ·simp;omega
  ·have b1:((56320:Int)≤u)=True:=eq_true (by omega)
   have b2:¬ ((u:Int)≤57343):=by omega
   have b3:((55296:Int)≤u)=True:=eq_true (by omega)
   have b4:¬ ((u:Int)<56320):=by omega
   simp (disch:=first|omega|assumption) only [hll,hlt,hg,hu0,a1',b1,b2,b3,b4,wri32 (show u<2147483648 by omega),go_sem,↓reduceIte]
   refine goK_gives (appRune u (by omega) (by omega) out _ o ho (by simp only [Lim];omega)) fun o' H' hs=>?_
   simp (disch:=first|omega|assumption) only [wrap64,go_sem,↓reduceIte]
   have hown:=hs.own
   rw [bytesOf_len] at hown
   refine goJ (hJ (done++[u],r,o',out++encM u) _ (by simp) ⟨by simp [hd],?_,?_,hown⟩) (by simp (disch:=first|omega|assumption) only [e5,go_sem,↓reduceIte])
   ·simp only [hj,ej];cases joinM r<;>simp
   ·simp;omega
end Go.Proofs.YticbbfbpeimkbaaGreatDoor
namespace Go.Proofs.YticbbfbpeimkbaaGreatDoor
open Go.Ab
abbrev LimQ:Nat:=68719476736
theorem upd_upd (H:Heap) (b:Nat) (x y:AObj):(H.upd b x).upd b y=H.upd b y:=by
 funext c;by_cases e:c=b<;>simp [Heap.upd,e]
theorem retStrip {P:Program} {f:FuncId} {args:List AV} {H:Heap} {R RP:AV→Heap→Prop} (h:ACalls P f args H (fun e H'=>match e with|.ret v=>R v.strip H'|.pan v=>RP v H')) :
  ACalls P f args H (fun e H'=>match e with|.ret v=>R v H'|.pan v=>RP v H'):=by
 intro γ w vs ht hs hv
 refine (h γ w vs ht hs hv).mono fun e w' ⟨γ',H',r,h1,h2,h3,h4,h5⟩=>?_
 cases r with
 | ret v =>
  cases e with
  | returned u=>exact ⟨γ',H',.ret v.strip,h1,h2,h3,Rep.strip h4,h5⟩
  | panicked ch=>exact h4.elim
  | outgrown=>exact h4.elim
 | pan v=>exact ⟨γ',H',.pan v,h1,h2,h3,h4,h5⟩
theorem own_ne {H:Heap} {c b d n sz:Nat} {cs:List AV} (h:Owned H (.tip b d) n sz) (hc:H c=some (.cells cs)):b≠c:=fun e=>by
 subst e
 have:H b=some (.tip (d+n) sz):=h
 rw [hc] at this;cases this
theorem own_keep {H H':Heap} {o:Own} {n sz c:Nat} {cs:List AV} (h:Owned H o n sz) (hc:H c=some (.cells cs)) (hk:Kept H o H'):H' c=some (.cells cs) :=
 hk c _ hc fun d e=>by subst e;exact own_ne h hc rfl
theorem own_upd {H:Heap} {o:Own} {n sz c:Nat} {cs:List AV} {x:AObj} (h:Owned H o n sz) (hc:H c=some (.cells cs)):Owned (H.upd c x) o n sz:=by
 cases o with
 | tip b d=>have:=own_ne h hc;show (H.upd c x) b=_;rw [upd_ne this];exact h
 | no=>exact h
 | nil=>exact h
 | full=>exact h
structure SaidAt (H:Heap) (q:Nat) (x:Sd) (o o2:Own):Prop where
 hq:H q=some (.cells [.sl o 1 (bytesOf x.b),.sl o2 1 (cU x.u),.bool x.ok])
 ho:Owned H o x.b.length 1
 ho2:Owned H o2 x.u.length 1
 ne:∀ b d d2,o=.tip b d→o2≠.tip b d2
theorem flushC {H:Heap} {q:Nat} {x:Sd} {o o2:Own} (hs:SaidAt H q x o o2) (hw:x.w≤LimQ) :
  ACalls Tryz.prog 282 [.ptr q 0] H (fun e H'=>∃ v,e=.ret v∧(v=.tup []∧∃ o',SaidAt H' q (flushM x) o' .nil)):=by
 refine ACalls.go ir282 ck282 (Nat.le_refl _) fun KP Q hQ=>?_
 obtain ⟨hq,ho,ho2,hne⟩:=hs
 have hbl:=bytesOf_len x.b
 simp only [LimQ,Sd.w] at hw
 simp (disch:=first|omega|assumption) only [ir282,hq,go_sem,↓reduceIte]
 refine goK_pure (Pure.low (joinC x.u (by omega))) ?_
 have hfw:=flush_w x
 simp only [flushM,Sd.w,List.length_append] at hfw
 simp (disch:=first|omega|assumption) only [hq,go_sem,↓reduceIte]
 refine goP_ownS (by rw [hbl];exact ho) (by simp [bytesOf_len];omega) (by simp [maxLen,bytesOf_len];omega) fun o' H1 hs=>?_
 have h1:H1 q=some (.cells [.sl o 1 (bytesOf x.b),.sl o2 1 (cU x.u),.bool x.ok]):=own_keep ho hq hs.kept
 have hown:=hs.own
 simp only [List.length_append,bytesOf_len] at hown
 cases hok:x.ok
 ·rw [hok] at h1
  simp (disch:=first|omega|assumption) only [h1,bytesOf_strip,bytesOf_app,go_sem,↓reduceIte]
  refine hQ _ _ _ _ _ nofun rfl (Low.refl _) ⟨rfl,o',?_,?_,rfl,nofun⟩
  ·simp [flushM,hok,upd_same,cU,bytesOf_app,bytesOf_strip]
  ·simp only [flushM,List.length_append]
   exact own_upd hown h1
 ·rw [hok] at h1
  simp (disch:=first|omega|assumption) only [h1,bytesOf_strip,bytesOf_app,go_sem,↓reduceIte]
  refine hQ _ _ _ _ _ nofun rfl (Low.refl _) ⟨rfl,o',?_,?_,rfl,nofun⟩
  ·simp [flushM,hok,upd_same,cU,bytesOf_app,bytesOf_strip]
  ·simp only [flushM,List.length_append]
   exact own_upd hown h1
def EscP (H':Heap) (q:Nat) (x:Sd) (s:List UInt8) (v:AV):Prop:=match escM x s with
 | none=>v=.int .i64 0
 | some (x',t')=>v=.int .i64 ((s.length-t'.length:Nat):Int)∧∃ o o2,SaidAt H' q x' o o2
theorem escC {H:Heap} {q:Nat} {x:Sd} {o o2:Own} (hs:SaidAt H q x o o2) (hw:x.w≤LimQ) (s:List UInt8) (hl:s.length≤Lim) :
  ACalls Tryz.prog 281 [.ptr q 0,.str s] H (fun e H'=>∃ v,e=.ret v∧EscP H' q x s v):=by
 refine ACalls.go ir281 ck281 (Nat.le_refl _) fun KP Q hQ=>?_
 have hs0:=hs
 obtain ⟨hq,ho,ho2,hne⟩:=hs
 have hul:=cU_len x.u
 have hw0:=hw
 simp only [LimQ,Sd.w] at hw
 simp only [Lim] at hl
 simp (disch:=first|omega|assumption) only [ir281,go_sem,↓reduceIte]
 refine goK_pure (prefixC s [117]) ?_
 cases s with
 | nil =>
  simp (disch:=first|omega|assumption) only [List.isPrefixOf,go_sem,↓reduceIte]
  exact hQ _ _ _ _ [_] nofun rfl (Low.refl _) (by simp [EscP,escM,tupOf,envOf,AV.strip,AV.strip1])
 | cons c t =>
  simp only [List.length_cons] at hl
  by_cases hc:c=117
  ·subst hc
   have hp:[117].isPrefixOf ((117:UInt8) :: t)=true:=rfl
   have h1:((1:Int)≤((t.length+1:Nat):Int))=True:=eq_true (by omega)
   simp (disch:=first|omega|assumption) only [hp,h1,go_sem,↓reduceIte]
   refine goK_pure (unitC t (by simp only [Lim];omega)) ?_
   cases hu:unitM t with
   | none =>
    simp (disch:=first|omega|assumption) only [Option.isSome_none,go_sem,↓reduceIte]
    exact hQ _ _ _ _ [_] nofun rfl (Low.refl _) (by simp [EscP,escM,hu,tupOf,envOf,AV.strip,AV.strip1])
   | some u =>
    have h4:=unitG_len _ _ _ _ hu
    simp (disch:=first|omega|assumption) only [Option.isSome_some,Option.getD_some,hq,go_sem,↓reduceIte]
    refine goP_ownS (by rw [hul];exact ho2) (by simp [hul];omega) (by simp [maxLen,hul];omega) fun o' H1 hs1=>?_
    have h2:=own_keep ho2 hq hs1.kept
    simp (disch:=first|omega|assumption) only [h2,cU_strip,go_sem,↓reduceIte]
    refine hQ _ _ _ _ [_] nofun rfl (Low.refl _) ?_
    have hsp:=Sep.step (a:=[(o,x.b.length,1)]) (b:=[]) (n:=x.u.length) (n':=x.u.length+1) (sz:=1) ⟨by intro y hy;simp at hy;rcases hy with rfl|rfl<;>assumption,?_⟩ (by simpa [hul] using hs1)
    ·simp only [EscP,escM,if_true,hu,Option.map_some]
     refine ⟨?_,o,o',?_,?_,?_,?_⟩
     ·show AV.int .i64 5=_
      simp only [List.length_cons,List.length_drop]
      congr 1;omega
     ·simp [upd_same,cU]
     ·exact own_upd (hsp.own (o,x.b.length,1) (by simp)) h2
     ·simp only [List.length_append,List.length_cons,List.length_nil]
      exact own_upd (hsp.own (o',x.u.length+1,1) (by simp)) h2
     ·intro b d d2 e1 e2
      have:=hsp.nd
      simp [e1,e2,tipOf] at this
    ·cases h5:tipOf o with
     | none=>cases h6:tipOf o2<;>simp [h5,h6]
     | some b =>
      obtain ⟨d,h7⟩:=tipOf_some h5
      cases h6:tipOf o2 with
      | none=>simp [h5,h6]
      | some b2 =>
       obtain ⟨d2,h8⟩:=tipOf_some h6
       simp only [List.cons_append,List.nil_append,List.filterMap_cons,List.filterMap_nil,h5,h6,List.nodup_cons,List.mem_singleton,List.not_mem_nil,not_false_eq_true,List.nodup_nil,and_true]
       rintro rfl
       exact hne b d d2 h7 h8
  ·have hp:[117].isPrefixOf (c :: t)=false:=by
    simp only [List.isPrefixOf,Bool.and_true,beq_eq_false_iff_ne,ne_eq];exact fun e=>hc e.symm
   have hcl:¬ (c :: t=[]):=by simp
   have h1:((0:Int)<((t.length+1:Nat):Int))=True:=eq_true (by omega)
   simp (disch:=first|omega|assumption) only [hp,hcl,h1,go_sem,↓reduceIte]
   refine goK_pure (idxByteC escL c) ?_
   have hidx:=idx_le escL c
   by_cases hk:Lib.indexByte escL c<0
   ·simp (disch:=first|omega|assumption) only [hk,go_sem,↓reduceIte]
    exact hQ _ _ _ _ [_] nofun rfl (Low.refl _) (by simp [EscP,escM,hc,hk,tupOf,envOf,AV.strip,AV.strip1])
   ·obtain ⟨k,hk2⟩:∃ k:Nat,Lib.indexByte escL c=(k:Int):=⟨(Lib.indexByte escL c).toNat,by omega⟩
    have hk8:k<8:=by simp [escL] at hidx;rw [show Lib.indexByte [34,92,47,98,102,110,114,116] c=(k:Int) from hk2] at hidx;omega
    have hk0:¬ ((k:Int)<0):=by omega
    simp (disch:=first|omega|assumption) only [hk2,hk0,go_sem,↓reduceIte]
    refine goK_ret (flushC hs0 hw0) fun v H1 ⟨hv,o',hs1⟩=>?_
    subst hv
    obtain ⟨hq1,ho1,_,_⟩:=hs1
    have hfw:=flush_w x
    have hbl:=bytesOf_len (flushM x).b
    simp only [Sd.w] at hfw
    have hk8':((k:Int)<8)=True:=eq_true (by omega)
    simp (disch:=first|omega|assumption) only [hq1,hk8',go_sem,↓reduceIte]
    refine goP_ownS (by rw [hbl];exact ho1) (by simp [hbl];omega) (by simp [maxLen,hbl];omega) fun o3 H2 hs3=>?_
    have hq2:=own_keep ho1 hq1 hs3.kept
    simp (disch:=first|omega|assumption) only [hq2,go_sem,↓reduceIte]
    refine hQ _ _ _ _ [_] nofun rfl (Low.refl _) ?_
    simp only [EscP,escM,hc,if_false,hk2,hk0]
    refine ⟨?_,o3,.nil,?_,?_,rfl,nofun⟩
    ·show AV.int .i64 1=_
     simp only [List.length_cons]
     congr 1;omega
    ·simp only [upd_same,Sd.put,Int.toNat_natCast]
     rw [← bytesOf_app];rfl
    ·simp only [Sd.put,List.length_append,List.length_cons,List.length_nil]
     exact own_upd (by simpa [hbl] using hs3.own) hq2
end Go.Proofs.YticbbfbpeimkbaaGreatDoor
