import Derived.RangeFuncSeq
import Derived.Below
import Derived.RangeFuncLeaves
import Derived.ProofKit
import Derived.SizedLaws
import Derived.WideKeyArgs
import Derived.Recover
import Derived.Defers
import Derived.Test.YtaielcdfcgpbiaaGreatDoorM1
set_option maxRecDepth 100000
set_option linter.all false
namespace Go.Ab
abbrev Chk:=Nat×Option (Nat×Bool)×AOp
structure AItem where
 dst:Option Nat
 guard:Option (Nat×Bool)
 op:AOp
 chk:List Nat
def gv (g:Option (Nat×Bool)) (ρ:Env):Option Bool :=
 match g with
 | none=>some true
 | some (s,want)=>match ρ s with
  | .bool b=>some (b==want)
  | .tup []=>some false
  | _=>none
def recheck (ρ:Env) (H:Heap):List Chk→Prop
 | []=>True
 | (d,g,o)::r=>(gv g ρ=some true→rev ρ H o=some (ρ d))∧recheck ρ H r
def istepR (P:Program) (KP:AV→Heap→Prop) (it:AItem) (R:List Chk) (ρ:Env) (H:Heap) (K:Env→Heap→Prop):Prop :=
 match gv it.guard ρ with
 | some true=>aop P KP it.op ρ H (fun v H'=>recheck (ρ.set it.dst v) H' R∧K (ρ.set it.dst v) H')
 | some false=>K (ρ.set it.dst (.tup [])) H
 | none=>False
def awpItems (P:Program) (KP:AV→Heap→Prop):List (AItem×List Chk)→Env→Heap→(Env→Heap→Prop)→Prop
 | [],ρ,H,K=>K ρ H
 | it::r,ρ,H,K=>istepR P KP it.1 it.2 ρ H (fun ρ' H'=>awpItems P KP r ρ' H' K)
def Opd.slots:Opd→List Nat
 | .t n=>[n]
 | .k _=>[]
def oslots:Option Opd→List Nat
 | some x=>x.slots
 | none=>[]
def AOp.looks:AOp→List Nat
 | .mv x|.nilchk x|.isnil _ x|.isnn _ x|.ifnil _ x|.tas _ _ x|.ineg x|.not x|.cvi _ x|.cvid x|.cvb2s x|.ext x _|.mki _ x|.fa _ x|.fld _ _ _ x|.len x|.lens x|.boxv x|.ld _ _ x|.lenm x|.box x|.pan x|.frz _ x=>x.slots
 | .pick a b c=>a.slots++b.slots++c.slots
 | .bi _ _ x y|.shf _ x y|.bs _ x y|.bb _ x y|.eqa _ _ x y|.ia _ x y|.ixs x y|.lkp _ _ _ x y|.st _ x y|.app _ _ x y|.appm _ _ _ x y|.apps x y|.sllx _ x y|.slar _ x y|.slaf _ _ x y=>x.slots++y.slots
 | .bld _ qs=>qs.flatMap fun q=>q.2.2.slots
 | .bls _ _ _ qs|.blsm _ _ _ qs=>qs.flatMap fun q=>q.2.slots
 | .mkfn _ a b=>a.flatMap Opd.slots++b.flatMap Opd.slots
 | .sls x lo hi=>x.slots++oslots lo++oslots hi
 | .sll _ x lo hi mx=>x.slots++oslots lo++oslots hi++oslots mx
 | .mm _ x ys=>x.slots++ys.flatMap Opd.slots
 | .mks _ _ x|.mksn _ _ x=>x.slots
 | .alloc _|.mkm _=>[]
 | .mup _ a b c=>a.slots++b.slots++c.slots
 | .call _ args=>args.flatMap Opd.slots
 | .callv g args=>g.slots++args.flatMap Opd.slots
theorem ev_congr {ρ ρ':Env} {x:Opd} (h:∀ n∈x.slots,ρ n=ρ' n):x.ev ρ=x.ev ρ':=by
 cases x with
 | t n=>exact h n (by simp[Opd.slots])
 | k c=>rfl
theorem evs_congr {ρ ρ':Env}:∀ {xs:List Opd},(∀ n∈xs.flatMap Opd.slots,ρ n=ρ' n)→xs.map (Opd.ev ρ)=xs.map (Opd.ev ρ')
 | [],_=>rfl
 | x::xs,h=>by
  simp only[List.flatMap_cons,List.mem_append] at h
  simp only[List.map_cons,ev_congr (fun n hn=>h n (.inl hn)),evs_congr (fun n hn=>h n (.inr hn))]
theorem fillA_congr {ρ ρ':Env}:∀ {qs:List (Nat×Nat×Opd)} {cs:List AV},(∀ n∈qs.flatMap (fun q=>q.2.2.slots),ρ n=ρ' n)→fillA ρ cs qs=fillA ρ' cs qs
 | [],_,_=>rfl
 | (off,n,x)::qs,cs,h=>by
  simp only[List.flatMap_cons,List.mem_append] at h
  simp only[fillA,ev_congr (fun n hn=>h n (.inl hn)),fillA_congr (fun n hn=>h n (.inr hn))]
theorem fillS_congr {ρ ρ':Env} {sz:Nat}:∀ {qs:List (Nat×Opd)} {cs:List (List AV)},(∀ n∈qs.flatMap (fun q=>q.2.slots),ρ n=ρ' n)→fillS ρ sz cs qs=fillS ρ' sz cs qs
 | [],_,_=>rfl
 | (i,x)::qs,cs,h=>by
  simp only[List.flatMap_cons,List.mem_append] at h
  simp only[fillS,ev_congr (fun n hn=>h n (.inl hn)),fillS_congr (fun n hn=>h n (.inr hn))]
theorem mmAll_congr {ρ ρ':Env} {mx:Bool} {k:IntKind}:∀ {ys:List Opd} {a:Int},(∀ n∈ys.flatMap Opd.slots,ρ n=ρ' n)→mmAll mx k ρ a ys=mmAll mx k ρ' a ys
 | [],_,_=>rfl
 | y::ys,a,h=>by
  simp only[List.flatMap_cons,List.mem_append] at h
  simp only[mmAll,ev_congr (fun n hn=>h n (.inl hn))]
  split
  ·rw[mmAll_congr (fun n hn=>h n (.inr hn))]
  ·rfl
theorem bound_congr {ρ ρ':Env} {d:Nat} {x:Option Opd} (h:∀ n∈oslots x,ρ n=ρ' n):bound d ρ x=bound d ρ' x:=by
 cases x with
 | none=>rfl
 | some y=>simp only[bound,ev_congr (x:=y) h]
theorem pev_congr {ρ ρ':Env} {o:AOp} (h:∀ n∈o.looks,ρ n=ρ' n):pev ρ o=pev ρ' o:=by
 cases o<;>simp only[AOp.looks,List.mem_append] at h<;>simp only[pev]
 case pick a b c=>rw[ev_congr (x:=a) (fun n hn=>h n (.inl (.inl hn))),ev_congr (x:=b) (fun n hn=>h n (.inl (.inr hn))),ev_congr (x:=c) (fun n hn=>h n (.inr hn))]
 case bld z qs=>rw[fillA_congr h]
 case bls a b z qs=>rw[fillS_congr h]
 case mkfn f a b=>rw[evs_congr (fun n hn=>h n (.inl hn)),evs_congr (fun n hn=>h n (.inr hn))]
 case sls x lo hi=>rw[ev_congr (x:=x) (fun n hn=>h n (.inl (.inl hn))),bound_congr (x:=lo) (fun n hn=>h n (.inl (.inr hn)))];simp only[bound_congr (x:=hi) (fun n hn=>h n (.inr hn))]
 case sll s x lo hi mx =>
  rw[ev_congr (x:=x) (fun n hn=>h n (.inl (.inl (.inl hn)))),bound_congr (x:=lo) (fun n hn=>h n (.inl (.inl (.inr hn))))]
  simp only[bound_congr (x:=hi) (fun n hn=>h n (.inl (.inr hn)))]
  cases mx with
  | none =>
   split
   ·rename_i o1 s1 xs _
    generalize bound 0 ρ' lo=b1
    generalize bound xs.length ρ' hi=b2
    cases b1<;>cases b2<;>rfl
   ·rfl
   ·rfl
  | some m =>
   have hm:=ev_congr (x:=m) (fun n hn=>h n (.inr (show n∈oslots (some m) from hn)))
   split
   ·rename_i o1 s1 xs _
    generalize bound 0 ρ' lo=b1
    generalize bound xs.length ρ' hi=b2
    cases b1<;>cases b2<;>first|rfl|(show (match m.ev ρ with|.int _ m=>_|_=>_)=_;rw[hm];rfl)
   ·rfl
   ·rfl
 case mm mx x ys=>rw[ev_congr (x:=x) (fun n hn=>h n (.inl hn))];simp only[mmAll_congr (fun n hn=>h n (.inr hn))]
 all_goals first
  | rfl
  | (rw[ev_congr h];done)
  | (rename_i x y;rw[ev_congr (x:=x) (fun n hn=>h n (.inl hn)),ev_congr (x:=y) (fun n hn=>h n (.inr hn))];done)
theorem rev_congr {ρ ρ':Env} {H:Heap} {o:AOp} (h:∀ n∈o.looks,ρ n=ρ' n):rev ρ H o=rev ρ' H o:=by
 cases o<;>simp only[AOp.looks,List.mem_append] at h<;>simp only[rev]
 all_goals first
  | (rw[ev_congr h];done)
  | (rename_i x y;rw[ev_congr (x:=x) (fun n hn=>h n (.inl hn)),ev_congr (x:=y) (fun n hn=>h n (.inr hn))];done)
theorem oev_congr {ρ ρ':Env} {o:AOp} (h:∀ n∈o.looks,ρ n=ρ' n):oev ρ o=oev ρ' o:=by
 cases o<;>simp only[AOp.looks,List.mem_append] at h<;>simp only[oev]
 case blsm a b z qs=>rw[fillS_congr h]
 all_goals (rw[ev_congr h])
theorem optr_congr {ρ ρ':Env} {b:Nat} {o:AOp} (h:∀ n∈o.looks,ρ n=ρ' n):optr ρ b o=optr ρ' b o:=by
 cases o<;>simp only[AOp.looks,List.mem_append] at h<;>simp only[optr]
 all_goals (rw[ev_congr h])
theorem eff_congr {P:Program} {KP:AV→Heap→Prop} {ρ ρ':Env} {H:Heap} {K:AV→Heap→Prop} {o:AOp} (h:∀ n∈o.looks,ρ n=ρ' n):eff P KP ρ H K o=eff P KP ρ' H K o:=by
 cases o<;>simp only[AOp.looks,List.mem_append] at h<;>simp only[eff]
 case mup kt a b c=>rw[ev_congr (x:=a) (fun n hn=>h n (.inl (.inl hn))),ev_congr (x:=b) (fun n hn=>h n (.inl (.inr hn))),ev_congr (x:=c) (fun n hn=>h n (.inr hn))]
 case call f args=>rw[evs_congr h]
 case callv g args=>rw[ev_congr (x:=g) (fun n hn=>h n (.inl hn)),evs_congr (fun n hn=>h n (.inr hn))]
 all_goals first
  | (rw[ev_congr h];done)
  | (rename_i x y;rw[ev_congr (x:=x) (fun n hn=>h n (.inl hn)),ev_congr (x:=y) (fun n hn=>h n (.inr hn))];done)
theorem aop_congr {P:Program} {KP:AV→Heap→Prop} {ρ ρ':Env} {H:Heap} {K:AV→Heap→Prop} {o:AOp} (h:∀ n∈o.looks,ρ n=ρ' n):aop P KP o ρ H K=aop P KP o ρ' H K:=by
 unfold aop
 rw[pev_congr h,rev_congr h,oev_congr h,eff_congr h]
 simp only[optr_congr h]
theorem ACalls.monoEnd {P:Program} {f:FuncId} {args:List AV} {H:Heap} {K K' KP:AV→Heap→Prop} (hk:∀ v H',K v H'→K' v H') (h:ACalls P f args H (endK K KP)):ACalls P f args H (endK K' KP) :=
 h.mono fun r H' hr=>by cases r<;>first|exact hk _ _ hr|exact hr
theorem appK_mono {sz bytes:Nat} {x y:AV} {H:Heap} {K K':AV→Heap→Prop} (hk:∀ v H',K v H'→K' v H') (h:appK sz bytes x y H K):appK sz bytes x y H K':=by
 cases x<;>try (exact False.elim h)
 cases y<;>try (exact False.elim h)
 rename_i o s1 xs o2 s2 ys
 obtain⟨h1,h2,h3,h4,h5⟩:=h
 refine⟨h1,h2,h3,h4,?_⟩
 cases o with
 | no=>exact h5
 | nil=>exact⟨fun e=>hk _ _ (h5.1 e),fun e b hb=>hk _ _ (h5.2 e b hb)⟩
 | full=>exact⟨fun e=>hk _ _ (h5.1 e),fun e b hb=>hk _ _ (h5.2 e b hb)⟩
 | tip b d=>exact⟨h5.1,fun b' d' hb=>hk _ _ (h5.2 b' d' hb)⟩
theorem appmK_mono {sz bytes:Nat} {zero:List AV} {x y:AV} {H:Heap} {K K':AV→Heap→Prop} (hk:∀ v H',K v H'→K' v H') (h:appmK sz bytes zero x y H K):appmK sz bytes zero x y H K':=by
 cases y<;>try (exact False.elim h)
 obtain⟨h1,h2,h3⟩:=h
 refine⟨h1,h2,?_⟩
 cases x<;>try (exact False.elim h3)
 ·rename_i o s1 xs
  cases o<;>try (exact False.elim h3)
  obtain⟨h4,h5,h6,h7,h8,h9⟩:=h3
  exact⟨h4,h5,h6,h7,fun e=>hk _ _ (h8 e),fun e b cap hb hc hm=>hk _ _ (h9 e b cap hb hc hm)⟩
 ·rename_i b off len cap
  obtain⟨h4,h5,h6⟩:=h3
  refine⟨h4,h5,?_⟩
  cases hb:H b with
  | none=>simp[hb] at h6
  | some ob =>
   cases ob<;>simp only[hb] at h6 ⊢<;>try (exact False.elim h6)
   exact⟨fun e=>⟨(h6.1 e).1,hk _ _ (h6.1 e).2⟩,fun e=>⟨(h6.2 e).1,fun b' cap' hb' hc hm=>hk _ _ ((h6.2 e).2 b' cap' hb' hc hm)⟩⟩
theorem frzK_mono {sz:Nat} {x:AV} {H:Heap} {K K':AV→Heap→Prop} (hk:∀ v H',K v H'→K' v H') (h:frzK sz x H K):frzK sz x H K':=by
 cases x<;>try (exact False.elim h)
 rename_i b off len cap
 simp only[frzK] at h ⊢
 cases hb:H b with
 | none=>simp[hb] at h
 | some ob =>
  cases ob<;>simp only[hb] at h ⊢<;>try (exact False.elim h)
  exact⟨h.1,h.2.1,hk _ _ h.2.2⟩
theorem slafK_mono {n sz:Nat} {x y:AV} {H:Heap} {K K':AV→Heap→Prop} (hk:∀ v H',K v H'→K' v H') (h:slafK n sz x y H K):slafK n sz x y H K':=by
 cases x<;>try (exact False.elim h)
 cases y<;>try (exact False.elim h)
 exact⟨h.1,h.2.1,frzK_mono hk h.2.2⟩
theorem eff_mono {P:Program} {KP:AV→Heap→Prop} {ρ:Env} {H:Heap} {K K':AV→Heap→Prop} {o:AOp} (hk:∀ v H',K v H'→K' v H') (h:eff P KP ρ H K o):eff P KP ρ H K' o:=by
 cases o<;>simp only[eff] at h ⊢<;>try (exact False.elim h)
 case st n x y =>
  cases hx:x.ev ρ<;>simp only[hx] at h ⊢<;>try (exact False.elim h)
  rename_i b off
  cases hb:H b with
  | none=>simp[hb] at h
  | some ob =>
   cases ob<;>simp only[hb] at h ⊢<;>try (exact False.elim h)
   exact⟨h.1,h.2.1,h.2.2.1,hk _ _ h.2.2.2⟩
 case mup kt m k v =>
  cases hx:m.ev ρ<;>simp only[hx] at h ⊢<;>try (exact False.elim h)
  rename_i b
  cases hb:H b with
  | none=>simp[hb] at h
  | some ob =>
   cases ob<;>simp only[hb] at h ⊢<;>try (exact False.elim h)
   exact⟨h.1,h.2.1,hk _ _ h.2.2⟩
 case app sz by' x y=>exact appK_mono hk h
 case appm sz by' z x y=>exact appmK_mono hk h
 case frz sz x=>exact frzK_mono hk h
 case slaf n sz x y=>exact slafK_mono hk h
 case apps x y =>
  cases hy:y.ev ρ<;>simp only[hy] at h ⊢<;>try (exact False.elim h)
  exact appK_mono hk h
 case call f args=>exact ACalls.monoEnd hk h
 case callv g args =>
  cases hg:g.ev ρ<;>simp only[hg] at h ⊢<;>try (exact False.elim h)
  exact⟨h.1,ACalls.monoEnd hk h.2⟩
 case pan x =>
  cases hx:x.ev ρ<;>simp only[hx] at h ⊢<;>try (exact False.elim h)
  exact h
theorem aop_mono {P:Program} {KP:AV→Heap→Prop} {o:AOp} {ρ:Env} {H:Heap} {K K':AV→Heap→Prop} (hk:∀ v H',K v H'→K' v H') (h:aop P KP o ρ H K):aop P KP o ρ H K':=by
 unfold aop at *
 cases hc:o.cls<;>simp only[hc] at h ⊢
 ·cases hv:pev ρ o<;>simp only[hv] at h ⊢;· exact hk _ _ h
 ·cases hv:rev ρ H o<;>simp only[hv] at h ⊢;· exact hk _ _ h
 ·cases hv:oev ρ o<;>simp only[hv] at h ⊢
  ·exact h
  ·exact fun b hb=>hk _ _ (h b hb)
 ·exact eff_mono hk h
theorem istepR_mono {P:Program} {KP:AV→Heap→Prop} {it:AItem} {R R':List Chk} {ρ:Env} {H:Heap} {K K':Env→Heap→Prop} (hr:∀ ρ' H',recheck ρ' H' R→recheck ρ' H' R') (hk:∀ ρ' H',K ρ' H'→K' ρ' H') (h:istepR P KP it R ρ H K):istepR P KP it R' ρ H K':=by
 unfold istepR at *
 split at h
 ·exact aop_mono (fun v H' hh=>⟨hr _ _ hh.1,hk _ _ hh.2⟩) h
 ·exact hk _ _ h
 ·exact h
def gslots (g:Option (Nat×Bool)):List Nat :=
 match g with
 | none=>[]
 | some (s,_)=>[s]
def AItem.looks (it:AItem):List Nat:=gslots it.guard++it.op.looks
theorem gv_congr {ρ ρ':Env} {g:Option (Nat×Bool)} (h:∀ n∈gslots g,ρ n=ρ' n):gv g ρ=gv g ρ':=by
 cases g with
 | none=>rfl
 | some p=>simp only[gv,h p.1 (by simp[gslots])]
theorem set_other {ρ:Env} {d:Option Nat} {c:AV} {l:List Nat} (h:∀ x,d=some x→x ∉ l):∀ n∈l,(ρ.set d c) n=ρ n:=by
 intro n hn
 cases d with
 | none=>rfl
 | some x =>
  have:n≠x:=fun e=>h x rfl (e▸hn)
  simp[Env.set,this]
theorem set_comm (ρ:Env) {d e:Option Nat} (c u:AV) (h:∀ x,d=some x→e≠some x):(ρ.set d c).set e u=(ρ.set e u).set d c:=by
 cases d with
 | none=>rfl
 | some x =>
  cases e with
  | none=>rfl
  | some y =>
   have hne:x≠y:=fun he=>h x rfl (he▸rfl)
   funext n
   simp only[Env.set]
   by_cases h1:n=y
   ·subst h1;simp[Ne.symm hne]
   ·by_cases h2:n=x
    ·subst h2;simp[hne]
    ·simp[h1,h2]
def chkSlots (c:Chk):List Nat:=c.1::gslots c.2.1++c.2.2.looks
theorem recheck_congr {ρ ρ':Env} {H:Heap}:∀ {R:List Chk},(∀ c∈R,∀ n∈chkSlots c,ρ n=ρ' n)→recheck ρ H R→recheck ρ' H R
 | [],_,_=>trivial
 | (d,g,o)::R,h,hr=>by
  have h0:=h (d,g,o) (yI ..)
  simp only[chkSlots,List.mem_cons,List.mem_append] at h0
  refine⟨fun hg=>?_,recheck_congr (fun c hc=>h c (Za _ hc)) hr.2⟩
  rw[← gv_congr (fun n hn=>h0 n (.inl (.inr hn)))] at hg
  have:=hr.1 hg
  rw[rev_congr (fun n hn=>h0 n (.inr hn)),h0 d (.inl (.inl rfl))] at this
  exact this
def AItem.apart (x i : AItem) : Bool :=
  (match x.dst with
   | some d => !(i.looks).contains d && i.dst != some d
   | none => true) &&
  (match i.dst with
   | some d => !(x.looks).contains d
   | none => true)
theorem apart_spec {x i:AItem} (h:x.apart i=true):(∀ d,x.dst=some d→d ∉ i.looks)∧(∀ d,x.dst=some d→i.dst≠some d)∧(∀ d,i.dst=some d→d ∉ x.looks):=by
 refine⟨fun d hd=>?_,fun d hd=>?_,fun d hd=>?_⟩<;>simp[AItem.apart,hd] at h
 ·exact h.1.1
 ·exact h.1.2
 ·exact h.2
instance:BEq Cls:=⟨fun a b=>decide (a=b)⟩
def canSwap (x i:AItem):Bool :=
 match x.op.cls,i.op.cls with
 | .pure,_=>true
 | .read,.pure|.read,.read|.read,.alloc=>true
 | .read,.eff=>true
 | .alloc,.alloc=>i.guard.isNone
 | .eff,.alloc=>i.guard.isNone&&(match i.op with|.alloc _|.mkm _=>true|_=>false)
 | _,_=>false
theorem rev_alloc {ρ:Env} {H:Heap} {b:Nat} {ob:AObj} {o:AOp} {v:AV} (hb:H b=none) (h:rev ρ H o=some v):rev ρ (H.upd b ob) o=some v:=by
 cases o<;>simp only[rev] at h ⊢<;>try (cases h;done)
 case ld n ag x =>
  cases hx:x.ev ρ<;>simp only[hx] at h ⊢<;>try (cases h;done)
  ·rename_i b' off
   have hne:b'≠b:=fun e=>by subst e;simp[hb] at h
   simp only[Heap.upd,hne,if_false]
   exact h
  ·exact h
 case lkp kt zero ok m k =>
  split at h
  ·rename_i hf
   simp only[hf,if_true]
   cases hx:m.ev ρ<;>simp only[hx] at h ⊢<;>try (cases h;done)
   ·exact h
   ·rename_i b'
    have hne:b'≠b:=fun e=>by subst e;simp[hb] at h
    simp only[Heap.upd,hne,if_false]
    exact h
  ·cases h
 case lenm x =>
  cases hx:x.ev ρ<;>simp only[hx] at h ⊢<;>try (cases h;done)
  ·exact h
  ·rename_i b'
   have hne:b'≠b:=fun e=>by subst e;simp[hb] at h
   simp only[Heap.upd,hne,if_false]
   exact h
def Wide (KP:AV→Heap→Prop):Prop:=∀ v H b o,H b=none→KP v H→KP v (H.upd b o)
theorem upd_comm (H:Heap) {b c:Nat} (x y:AObj) (h:b≠c):(H.upd b x).upd c y=(H.upd c y).upd b x:=by
 funext n
 simp only[Heap.upd]
 by_cases h1:n=c
 ·subst h1;simp[Ne.symm h]
 ·by_cases h2:n=b
  ·subst h2;simp[h]
  ·simp[h1,h2]
theorem union_one (H:Heap) (b:Nat) (o:AObj) (h:H b=none):Heap.union H (Heap.one b o)=H.upd b o:=by
 funext n
 simp only[Heap.union,Heap.one,Heap.upd]
 by_cases h1:n=b
 ·subst h1;simp[h]
 ·simp[h1]
theorem ACalls.beside {P:Program} {f:FuncId} {args:List AV} {H:Heap} {K KP:AV→Heap→Prop} {b:Nat} {o:AObj} (hb:H b=none) (hKP:Wide KP) (h:ACalls P f args H (endK K KP)) :
  ACalls P f args (H.upd b o) (endK (fun v H'=>∃ H0,H0 b=none∧H'=H0.upd b o∧K v H0) KP):=by
 have hd:Heap.Disj H (Heap.one b o):=fun c=>by
  by_cases hc:c=b
  ·subst hc;exact .inl hb
  ·exact .inr (by simp[Heap.one,hc])
 rw[← union_one H b o hb]
 refine(h.frame hd).mono fun r H' ⟨A',hq,hdis,he⟩=>?_
 have hA:A' b=none:=by
  rcases hdis b with h1|h1
  ·exact h1
  ·simp[Heap.one] at h1
 rw[union_one A' b o hA] at he
 subst he
 cases r with
 | ret v=>exact⟨A',hA,rfl,hq⟩
 | pan v=>exact hKP v A' b o hA hq
theorem appK_beside {sz bytes:Nat} {x y:AV} {H:Heap} {K:AV→Heap→Prop} {b:Nat} {o:AObj} (hb:H b=none) (h:appK sz bytes x y H K) :
  appK sz bytes x y (H.upd b o) (fun v H'=>∃ H0,H0 b=none∧H'=H0.upd b o∧K v H0):=by
 cases x<;>try (exact False.elim h)
 cases y<;>try (exact False.elim h)
 rename_i ow s1 xs o2 s2 ys
 obtain⟨h1,h2,h3,h4,h5⟩:=h
 refine⟨h1,h2,h3,h4,?_⟩
 have fresh:∀ b2,(H.upd b o) b2=none→b2≠b∧H b2=none:=fun b2 h2=>by
  have hne:b2≠b:=fun e=>by subst e;simp[Heap.upd] at h2
  exact⟨hne,by simpa[Heap.upd,hne] using h2⟩
 cases ow with
 | no=>exact h5
 | nil=>exact⟨fun e=>⟨H,hb,rfl,h5.1 e⟩,fun e b2 hb2=>by
   obtain⟨hne,hn⟩:=fresh b2 hb2
   exact⟨_,by simp[Heap.upd,Ne.symm hne,hb],upd_comm H _ _ (Ne.symm hne),h5.2 e b2 hn⟩⟩
 | full=>exact⟨fun e=>⟨H,hb,rfl,h5.1 e⟩,fun e b2 hb2=>by
   obtain⟨hne,hn⟩:=fresh b2 hb2
   exact⟨_,by simp[Heap.upd,Ne.symm hne,hb],upd_comm H _ _ (Ne.symm hne),h5.2 e b2 hn⟩⟩
 | tip b1 d =>
  obtain⟨h6,h7⟩:=h5
  have hne:b1≠b:=fun e=>by subst e;simp[hb] at h6
  refine⟨by simp[Heap.upd,hne,h6],fun b2 d2 hb2=>?_⟩
  have hne2:b2≠b:=fun e=>by subst e;simp[Heap.del,Heap.upd,Ne.symm hne] at hb2
  have hn:(H.del b1) b2=none:=by
   unfold Heap.del at hb2 ⊢
   split
   ·rfl
   ·rename_i hh;simpa[hh,Heap.upd,hne2] using hb2
  refine⟨_,?_,?_,h7 b2 d2 hn⟩
  ·simp[Heap.upd,Heap.del,Ne.symm hne2,hb]
  ·rw[← upd_comm _ _ _ (Ne.symm hne2)]
   congr 1
   funext n
   simp only[Heap.del,Heap.upd]
   by_cases e1:n=b1
   ·subst e1;simp[hne]
   ·simp[e1]
theorem appmK_beside {sz bytes:Nat} {zero:List AV} {x y:AV} {H:Heap} {K:AV→Heap→Prop} {b:Nat} {o:AObj} (hb:H b=none) (h:appmK sz bytes zero x y H K) :
  appmK sz bytes zero x y (H.upd b o) (fun v H'=>∃ H0,H0 b=none∧H'=H0.upd b o∧K v H0):=by
 have fresh:∀ b2,(H.upd b o) b2=none→b2≠b∧H b2=none:=fun b2 h2=>by
  have hne:b2≠b:=fun e=>by subst e;simp[Heap.upd] at h2
  exact⟨hne,by simpa[Heap.upd,hne] using h2⟩
 cases y<;>try (exact False.elim h)
 obtain⟨h1,h2,h3⟩:=h
 refine⟨h1,h2,?_⟩
 cases x<;>try (exact False.elim h3)
 ·rename_i o s1 xs
  cases o<;>try (exact False.elim h3)
  obtain⟨h4,h5,h6,h7,h8,h9⟩:=h3
  exact⟨h4,h5,h6,h7,fun e=>⟨H,hb,rfl,h8 e⟩,fun e b2 cap hb2 hc hm=>by
   obtain⟨hne,hn⟩:=fresh b2 hb2
   exact⟨_,by simp[Heap.upd,Ne.symm hne,hb],upd_comm H _ _ (Ne.symm hne),h9 e b2 cap hn hc hm⟩⟩
 ·rename_i b1 off len cap
  obtain⟨h4,h5,h6⟩:=h3
  refine⟨h4,h5,?_⟩
  have hne1:b1≠b:=fun e=>by subst e;simp[hb] at h6
  have e1:(H.upd b o) b1=H b1:=by simp[Heap.upd,hne1]
  rw[e1]
  cases hb1:H b1 with
  | none=>simp[hb1] at h6
  | some ob =>
   cases ob<;>simp only[hb1] at h6 ⊢<;>try (exact False.elim h6)
   refine⟨fun e=>⟨(h6.1 e).1,_,?_,upd_comm H _ _ (Ne.symm hne1),(h6.1 e).2⟩,fun e=>⟨(h6.2 e).1,fun b' cap' hb' hc hm=>?_⟩⟩
   ·simp[Heap.upd,Ne.symm hne1,hb]
   ·obtain⟨hne,hn⟩:=fresh b' hb'
    exact⟨_,by simp[Heap.upd,Ne.symm hne,hb],upd_comm H _ _ (Ne.symm hne),(h6.2 e).2 b' cap' hn hc hm⟩
theorem frzK_beside {sz:Nat} {x:AV} {H:Heap} {K:AV→Heap→Prop} {b:Nat} {o:AObj} (hb:H b=none) (h:frzK sz x H K) :
  frzK sz x (H.upd b o) (fun v H'=>∃ H0,H0 b=none∧H'=H0.upd b o∧K v H0):=by
 cases x<;>try (exact False.elim h)
 rename_i b1 off len cap
 simp only[frzK] at h ⊢
 have hne1:b1≠b:=fun e=>by subst e;simp[hb] at h
 have e1:(H.upd b o) b1=H b1:=by simp[Heap.upd,hne1]
 rw[e1]
 cases hb1:H b1 with
 | none=>simp[hb1] at h
 | some ob =>
  cases ob<;>simp only[hb1] at h ⊢<;>try (exact False.elim h)
  refine⟨h.1,h.2.1,H.del b1,by simp[Heap.del,Ne.symm hne1,hb],?_,h.2.2⟩
  funext n
  simp only[Heap.del,Heap.upd]
  by_cases e1:n=b1
  ·subst e1;simp[hne1]
  ·simp[e1]
theorem slafK_beside {n sz:Nat} {x y:AV} {H:Heap} {K:AV→Heap→Prop} {b:Nat} {o:AObj} (hb:H b=none) (h:slafK n sz x y H K) :
  slafK n sz x y (H.upd b o) (fun v H'=>∃ H0,H0 b=none∧H'=H0.upd b o∧K v H0):=by
 cases x<;>try (exact False.elim h)
 cases y<;>try (exact False.elim h)
 exact⟨h.1,h.2.1,frzK_beside hb h.2.2⟩
theorem eff_beside {P:Program} {KP:AV→Heap→Prop} {ρ:Env} {H:Heap} {K:AV→Heap→Prop} {x:AOp} {b:Nat} {o:AObj} (hb:H b=none) (hKP:Wide KP) (h:eff P KP ρ H K x) :
  eff P KP ρ (H.upd b o) (fun v H'=>∃ H0,H0 b=none∧H'=H0.upd b o∧K v H0) x:=by
 cases x<;>simp only[eff] at h ⊢<;>try (exact False.elim h)
 case st n x y =>
  cases hx:x.ev ρ<;>simp only[hx] at h ⊢<;>try (exact False.elim h)
  rename_i b1 off
  have hne:b1≠b:=fun e=>by subst e;simp[hb] at h
  have e1:(H.upd b o) b1=H b1:=by simp[Heap.upd,hne]
  rw[e1]
  cases hb1:H b1 with
  | none=>simp[hb1] at h
  | some ob =>
   cases ob<;>simp only[hb1] at h ⊢<;>try (exact False.elim h)
   exact⟨h.1,h.2.1,h.2.2.1,_,by simp[Heap.upd,Ne.symm hne,hb],upd_comm H _ _ (Ne.symm hne),h.2.2.2⟩
 case mup kt m k v =>
  cases hx:m.ev ρ<;>simp only[hx] at h ⊢<;>try (exact False.elim h)
  rename_i b1
  have hne:b1≠b:=fun e=>by subst e;simp[hb] at h
  have e1:(H.upd b o) b1=H b1:=by simp[Heap.upd,hne]
  rw[e1]
  cases hb1:H b1 with
  | none=>simp[hb1] at h
  | some ob =>
   cases ob<;>simp only[hb1] at h ⊢<;>try (exact False.elim h)
   exact⟨h.1,h.2.1,_,by simp[Heap.upd,Ne.symm hne,hb],upd_comm H _ _ (Ne.symm hne),h.2.2⟩
 case app sz by' x y=>exact appK_beside hb h
 case appm sz by' z x y=>exact appmK_beside hb h
 case frz sz x=>exact frzK_beside hb h
 case slaf n sz x y=>exact slafK_beside hb h
 case apps x y =>
  cases hy:y.ev ρ<;>simp only[hy] at h ⊢<;>try (exact False.elim h)
  exact appK_beside hb h
 case call f args=>exact ACalls.beside hb hKP h
 case callv g args =>
  cases hg:g.ev ρ<;>simp only[hg] at h ⊢<;>try (exact False.elim h)
  exact⟨h.1,ACalls.beside hb hKP h.2⟩
 case pan x =>
  cases hx:x.ev ρ<;>simp only[hx] at h ⊢<;>try (exact False.elim h)
  exact hKP _ _ _ _ hb h
theorem aop_mono_ne {P:Program} {KP:AV→Heap→Prop} {o:AOp} {ρ:Env} {H:Heap} {K K':AV→Heap→Prop} (hne:o.cls≠.eff)
  (hk:∀ v H',(H'=H∨∃ b ob,H b=none∧H'=H.upd b ob)→K v H'→K' v H') (h:aop P KP o ρ H K):aop P KP o ρ H K':=by
 unfold aop at *
 cases hc:o.cls<;>simp only[hc] at h ⊢
 ·cases hv:pev ρ o<;>simp only[hv] at h ⊢;· exact hk _ _ (.inl rfl) h
 ·cases hv:rev ρ H o<;>simp only[hv] at h ⊢;· exact hk _ _ (.inl rfl) h
 ·cases hv:oev ρ o<;>simp only[hv] at h ⊢
  ·exact h
  ·exact fun b hb=>hk _ _ (.inr ⟨b,_,hb,rfl⟩) (h b hb)
 ·exact absurd hc hne
theorem recheck_alloc {ρ:Env} {H:Heap} {b:Nat} {ob:AObj} (hb:H b=none):∀ {R:List Chk},recheck ρ H R→recheck ρ (H.upd b ob) R
 | [],_=>trivial
 | (_,_,_)::_,hr=>⟨fun hg=>rev_alloc hb (hr.1 hg),recheck_alloc hb hr.2⟩
def val (ρ:Env) (H:Heap) (o:AOp):Option AV :=
 match o.cls with
 | .pure=>pev ρ o
 | .read=>rev ρ H o
 | _=>none
theorem aop_val {P:Program} {KP:AV→Heap→Prop} {o:AOp} {ρ:Env} {H:Heap} {K:AV→Heap→Prop} (hc:o.cls=.pure∨o.cls=.read):aop P KP o ρ H K↔∃ v,val ρ H o=some v∧K v H:=by
 unfold aop val
 rcases hc with hc|hc<;>simp only[hc]
 ·cases pev ρ o<;>simp
 ·cases rev ρ H o<;>simp
def entry (x:AItem):List Chk :=
 match x.dst with
 | some d=>[(d,x.guard,x.op)]
 | none=>[]
def need (x i:AItem):List Chk:=if x.op.cls=.read∧i.op.cls=.eff then entry x else []
theorem recheck_append {ρ:Env} {H:Heap}:∀ {A B:List Chk},recheck ρ H (A++B)→recheck ρ H B
 | [],_,h=>h
 | (_,_,_)::_,_,h=>recheck_append h.2
theorem Scarce.upd {H:Heap} (h:Scarce H) (b:Nat) (o:AObj):Scarce (H.upd b o):=by
 obtain⟨n,h⟩:=h
 refine⟨n,fun c hc=>?_⟩
 unfold Heap.upd
 split
 ·simp
 ·exact h c hc
theorem Scarce.of_upd {H:Heap} {b:Nat} {o:AObj} (h:Scarce (H.upd b o)):Scarce H:=by
 obtain⟨n,h⟩:=h
 refine⟨max n (b+1),fun c hc=>?_⟩
 have:=h c (by omega)
 have hne:c≠b:=by omega
 simpa[Heap.upd,hne] using this
theorem swap {P:Program} {KP:AV→Heap→Prop} (hKP:Wide KP) {x i:AItem} {cx:List Chk} (hap:x.apart i=true) (hsw:canSwap x i=true) (hself:x.op.cls=.read→∃ d,x.dst=some d∧d ∉ x.looks) (hchk:x.op.cls≠.eff→cx=[])
  (hchk2:∀ c∈cx,∀ d,i.dst=some d→d ∉ chkSlots c) {R:List Chk} (hR:∀ c∈R,∀ d,x.dst=some d→d ∉ chkSlots c) (hRe:i.op.cls≠.eff→R=[]) {ρ:Env} {H:Heap} {K:Env→Heap→Prop}
  (h:istepR P KP x cx ρ H (fun ρ1 H1=>istepR P KP i (need x i++R) ρ1 H1 K)):istepR P KP i R ρ H (fun ρ2 H2=>istepR P KP x cx ρ2 H2 K):=by
 obtain⟨a1,a2,a3⟩:=apart_spec hap
 have a1g:∀ d,x.dst=some d→d ∉ gslots i.guard:=fun d hd hm=>a1 d hd (Z9 _ hm)
 have a1o:∀ d,x.dst=some d→d ∉ i.op.looks:=fun d hd hm=>a1 d hd (List.mem_append_right _ hm)
 have a3g:∀ d,i.dst=some d→d ∉ gslots x.guard:=fun d hd hm=>a3 d hd (Z9 _ hm)
 have a3o:∀ d,i.dst=some d→d ∉ x.op.looks:=fun d hd hm=>a3 d hd (List.mem_append_right _ hm)
 have gi:∀ c,gv i.guard (ρ.set x.dst c)=gv i.guard ρ:=fun c=>gv_congr (set_other a1g)
 have gx:∀ c,gv x.guard (ρ.set i.dst c)=gv x.guard ρ:=fun c=>gv_congr (set_other a3g)
 have comm:∀ c u,(ρ.set x.dst c).set i.dst u=(ρ.set i.dst u).set x.dst c:=fun c u=>set_comm ρ c u a2
 have oi:∀ c H' (K':AV→Heap→Prop),aop P KP i.op (ρ.set x.dst c) H' K'=aop P KP i.op ρ H' K':=fun c H' K'=>aop_congr (set_other a1o)
 have Rback:∀ c u H',recheck ((ρ.set x.dst c).set i.dst u) H' R→recheck (ρ.set i.dst u) H' R:=fun c u H' hr=>by
  rw[comm] at hr
  exact recheck_congr (fun e he n hn=>set_other (fun d hd=>hR e he d hd) n hn) hr
 unfold istepR at h
 cases hg:gv x.guard ρ with
 | none=>simp[hg] at h
 | some b =>
  cases b with
  | false =>
   simp only[hg] at h
   unfold istepR
   rw[gi] at h
   cases hgi:gv i.guard ρ with
   | none=>simp[hgi] at h
   | some b =>
    cases b with
    | false =>
     simp only[hgi] at h ⊢
     rw[gx,hg]
     rw[comm] at h
     exact h
    | true =>
     simp only[hgi] at h ⊢
     rw[oi] at h
     refine aop_mono (fun v H' hh=>⟨?_,?_⟩) h
     ·exact Rback (.tup []) v H' (recheck_append hh.1)
     ·rw[gx,hg]
      rw[comm] at hh
      exact hh.2
  | true =>
   simp only[hg] at h
   by_cases hcls:x.op.cls=.pure∨x.op.cls=.read
   ·have hne:x.op.cls≠.eff:=by rcases hcls with e|e<;>rw[e]<;>simp
    have hnil:=hchk hne
    rw[hnil] at h
    rw[aop_val hcls] at h
    obtain⟨v,hv,_,h⟩:=h
    unfold istepR
    rw[gi] at h
    have hx:∀ u H',(x.op.cls=.read→rev ρ H' x.op=some v)→K ((ρ.set i.dst u).set x.dst v) H'→istepR P KP x cx (ρ.set i.dst u) H' K:=by
     intro u H' hr hk
     unfold istepR
     rw[gx,hg,hnil]
     simp only
     rw[aop_val hcls]
     refine⟨v,?_,trivial,hk⟩
     unfold val at hv ⊢
     rcases hcls with e|e<;>simp only[e] at hv ⊢
     ·rw[pev_congr (set_other a3o)];exact hv
     ·rw[rev_congr (set_other a3o)];exact hr e
    have hvr:x.op.cls=.read→rev ρ H x.op=some v:=fun e=>by simpa[val,e] using hv
    cases hgi:gv i.guard ρ with
    | none=>simp[hgi] at h
    | some b =>
     cases b with
     | false =>
      simp only[hgi] at h ⊢
      rw[comm] at h
      exact hx _ _ hvr h
     | true =>
      simp only[hgi] at h ⊢
      rw[oi] at h
      by_cases hie:i.op.cls=.eff
      ·refine aop_mono (fun u H' hh=>?_) h
       rcases hcls with e|e
       ·have hn:need x i=[]:=by simp[need,e]
        rw[hn] at hh
        refine⟨Rback v u H' hh.1,hx u H' (fun e'=>by rw[e] at e';cases e') (by rw[← comm];exact hh.2)⟩
       ·obtain⟨d,hd,hds⟩:=hself e
        have hn:need x i=[(d,x.guard,x.op)]:=by simp[need,e,hie,entry,hd]
        rw[hn] at hh
        obtain⟨⟨h1,h2⟩,h3⟩:=hh
        refine⟨Rback v u H' h2,hx u H' (fun _=>?_) (by rw[← comm];exact h3)⟩
        have hgg:gv x.guard ((ρ.set x.dst v).set i.dst u)=some true:=by
         rw[← hg]
         rw[comm]
         rw[gv_congr (set_other (l:=gslots x.guard) fun d' hd' hm=>by rw[hd] at hd';cases hd';exact hds (Z9 _ hm))]
         exact gx u
        have h4:=h1 hgg
        have e1:((ρ.set x.dst v).set i.dst u) d=v:=by
         rw[comm,hd];simp[Env.set]
        rw[e1] at h4
        rw[comm] at h4
        rw[rev_congr (set_other (l:=x.op.looks) fun d' hd' hm=>by rw[hd] at hd';cases hd';exact hds (List.mem_append_right _ hm))] at h4
        rw[rev_congr (set_other a3o)] at h4
        exact h4
      ·have hn:need x i=[]:=by simp[need,hie]
       rw[hn] at h
       refine aop_mono_ne hie (fun u H' hH' hh=>⟨Rback v u H' hh.1,hx u H' (fun e=>?_) (by rw[← comm];exact hh.2)⟩) h
       rcases hH' with rfl|⟨b,ob,hb,rfl⟩
       ·exact hvr e
       ·exact rev_alloc hb (hvr e)
   ·by_cases hal:x.op.cls=.alloc
    ·-- two new objects
     have hia:i.op.cls=.alloc:=by
      unfold canSwap at hsw
      cases hc2:i.op.cls<;>simp_all
     have hgn:i.guard=none:=by
      unfold canSwap at hsw
      simp only[hal,hia] at hsw
      simpa using hsw
     have hxe:x.op.cls≠.eff:=by rw[hal];simp
     have hie:i.op.cls≠.eff:=by rw[hia];simp
     have hnil:=hchk hxe
     subst hnil
     have hRn:=hRe hie
     subst hRn
     have hn:need x i=[]:=by simp[need,hie]
     have gvn:∀ ρ',gv i.guard ρ'=some true:=fun ρ'=>by rw[hgn];rfl
     unfold istepR
     simp only[gvn]
     simp only[hn,List.append_nil,istepR,gvn] at h
     unfold aop at h
     simp only[hal,hia] at h
     have hxo:∀ u,oev (ρ.set i.dst u) x.op=oev ρ x.op:=fun u=>oev_congr (set_other a3o)
     have hio:∀ u,oev (ρ.set x.dst u) i.op=oev ρ i.op:=fun u=>oev_congr (set_other a1o)
     have hxp:∀ u b,optr (ρ.set i.dst u) b x.op=optr ρ b x.op:=fun u b=>optr_congr (set_other a3o)
     have hip:∀ u b,optr (ρ.set x.dst u) b i.op=optr ρ b i.op:=fun u b=>optr_congr (set_other a1o)
     simp only[hio,hip] at h
     unfold aop
     simp only[hal,hia,gx,hg,hxo,hxp]
     cases hox:oev ρ x.op with
     | none =>
      simp only[hox] at h ⊢
      cases hoi:oev ρ i.op with
      | none=>exact h
      | some oi'=>exact fun b hb=>⟨trivial,h.upd _ _⟩
     | some ox =>
      simp only[hox] at h ⊢
      cases hoi:oev ρ i.op with
      | none =>
       simp only[hoi] at h ⊢
       by_cases hf:∃ b,H b=none
       ·obtain⟨b,hb⟩:=hf
        exact(h b hb).2.of_upd
       ·exact⟨0,fun b _ hb=>hf ⟨b,hb⟩⟩
      | some oi' =>
       simp only[hoi] at h ⊢
       intro bi hbi
       refine⟨trivial,fun bx hbx=>⟨trivial,?_⟩⟩
       have hne:bx≠bi:=fun e=>by subst e;simp[Heap.upd] at hbx
       have hbx':H bx=none:=by simpa[Heap.upd,hne] using hbx
       have h2:=((h bx hbx').2 bi (by simp[Heap.upd,Ne.symm hne,hbi])).2
       rw[comm,upd_comm H _ _ hne] at h2
       exact h2
    have hxe:x.op.cls=.eff∧i.op.cls=.alloc:=by
     unfold canSwap at hsw
     cases hc1:x.op.cls<;>cases hc2:i.op.cls<;>simp_all
    obtain⟨hxe,hia⟩:=hxe
    have hn:need x i=[]:=by simp[need,hxe]
    have hie:i.op.cls≠.eff:=by rw[hia];simp
    have hRn:=hRe hie
    subst hRn
    have hgn:i.guard=none:=by
     unfold canSwap at hsw
     simp only[hxe,hia,Al0] at hsw
     simpa using hsw.1
    have hsome:∃ ob,oev ρ i.op=some ob:=by
     unfold canSwap at hsw
     simp only[hxe,hia,Al0] at hsw
     have h2:=hsw.2
     cases hio:i.op<;>simp only[hio] at h2<;>first|(cases h2;done)|exact⟨_,rfl⟩
    obtain⟨ob,hob⟩:=hsome
    have gvn:∀ ρ',gv i.guard ρ'=some true:=fun ρ'=>by rw[hgn];rfl
    unfold istepR
    simp only[gvn,hn,zbH] at h ⊢
    unfold aop at h
    simp only[hxe,hia] at h
    unfold aop
    simp only[hia,hob]
    intro b hb
    refine⟨trivial,?_⟩
    rw[gx,hg]
    simp only[hxe]
    have h1:=eff_beside (o:=ob) hb hKP h
    rw[eff_congr (ρ:=ρ.set i.dst (optr ρ b i.op)) (set_other a3o)]
    refine eff_mono (fun v H' hh=>?_) h1
    obtain⟨H0,hH0,rfl,hr,hk⟩:=hh
    have hob':oev (ρ.set x.dst v) i.op=some ob:=by rw[oev_congr (set_other a1o)];exact hob
    simp only[hob'] at hk
    have hk2:=(hk b hH0).2
    rw[optr_congr (ρ:=ρ.set x.dst v) (ρ':=ρ) (set_other a1o)] at hk2
    rw[← comm]
    exact⟨recheck_congr (fun c hc n hn=>(set_other (fun d hd=>hchk2 c hc d hd) n hn).symm) (recheck_alloc hH0 hr),hk2⟩
structure Fx where
 N:Nat
 lo:Nat
 T:Array Value
 D:List Deferred
 rf:Bool:=false
 keep:List (Nat×Obj):=[]
 base:Nat:=0
def Fx.plain (N:Nat):Fx:=⟨N,0,#[],[],false,[],0⟩
def Fx.marks (N base:Nat):Fx:=⟨N,0,#[],[],true,[],base⟩
def coll (b:Nat):Deferred:=⟨.collected b,#[]⟩
structure DfOk (F:Fx) (w:World) (H:Heap) (ds:List Deferred):Prop where
 eq:∃ bs:List Nat,ds=bs.map coll++F.D∧bs.Nodup∧(F.rf=false→bs=[])∧∀ b∈bs,F.base≤b∧H b=none∧w.heap[b]?=some (.deferred (some []))
 keep:∀ x∈F.keep,H x.1=none∧w.heap[x.1]?=some x.2
theorem kept_step {γ γ':Gh} {w w':World} {H H':Heap} (hext:Ext (keysOf H) γ w γ' w') (hk:NewKeys H w H') {b:Nat} {o:Obj} (h:H b=none∧w.heap[b]?=some o):H' b=none∧w'.heap[b]?=some o:=by
 have hlt:=(yX.1 h.2).1
 refine⟨?_,(hext.frame b hlt (by simp[keysOf,h.1])).2.trans h.2⟩
 cases hb:H' b with
 | none=>rfl
 | some x =>
  rcases hk b (by simp[hb]) with h1|h1
  ·simp[h.1] at h1
  ·omega
theorem DfOk.step {F:Fx} {γ γ':Gh} {w w':World} {H H':Heap} {ds:List Deferred} (h:DfOk F w H ds) (hext:Ext (keysOf H) γ w γ' w') (hk:NewKeys H w H'):DfOk F w' H' ds :=
 ⟨let ⟨bs,h1,h2,h3,h4⟩:=h.eq;⟨bs,h1,h2,h3,fun b hb=>⟨(h4 b hb).1,kept_step hext hk (h4 b hb).2⟩⟩,fun x hx=>kept_step hext hk (h.keep x hx)⟩
theorem DfOk.plain {F:Fx} {w:World} {H:Heap} {ds:List Deferred} (h:DfOk F w H ds) (hf:F.rf=false):ds=F.D:=by
 obtain⟨bs,h1,_,h3,_⟩:=h.eq
 rw[h1,h3 hf];rfl
theorem DfOk.init {F:Fx} {w:World} {H:Heap} (hk:F.keep=[]):DfOk F w H F.D :=
 ⟨⟨[],rfl,List.nodup_nil,fun _=>rfl,fun b hb=>by cases hb⟩,fun x hx=>by rw[hk] at hx;cases hx⟩
structure SInv (γ0:Gh) (w0:World) (H0:Heap) (F:Fx) (γ:Gh) (w:World) (H:Heap) (ρ:Env) (a:Act):Prop where
 ext:Ext (keysOf H0) γ0 w0 γ w
 st:StateRel γ w H
 keys:NewKeys H0 w0 H
 env:EnvRel γ w ρ a.tmps
 sz:a.tmps.size=F.N
 fx:∀ n,n<F.lo→a.tmps.getD n undef=F.T.getD n undef
 df:DfOk F w H a.defers
def chkItem (N lo : Nat) (ops : Array Oper) (P : Program) (o : Oper) (it : AItem) : Bool :=
  decide (o.dst = it.dst) && (match it.dst with | some d => decide (lo ≤ d) && decide (d < N) | none => true) &&
  (match o.guard, it.guard with
   | none, none => true
   | some (j, want), some (s, want') => decide (want = want') && decide ((ops[j]?).bind (·.dst) = some s)
   | _, _ => false) && chkOp P o it.op
theorem gv_wanted {γ:Gh} {w:World} {ρ:Env} {a:Act} {ops:Array Oper} {o:Oper} {it:AItem} (he:EnvRel γ w ρ a.tmps)
  (hg:(match o.guard,it.guard with
   | none,none=>true
   | some (j,want),some (s,want')=>decide (want=want')&&decide ((ops[j]?).bind (·.dst)=some s)
   | _,_=>false)=true) {b:Bool} (h:gv it.guard ρ=some b):Region.wanted o (yielded ops a.tmps)=b:=by
 cases hog:o.guard with
 | none =>
  cases hig:it.guard with
  | some p=>simp[hog,hig] at hg
  | none=>rw[hig] at h;simp only[gv,Al1] at h;subst h;simp[Region.wanted,hog]
 | some jw =>
  obtain⟨j,want⟩:=jw
  cases hig:it.guard with
  | none=>simp[hog,hig] at hg
  | some p =>
   obtain⟨s,want'⟩:=p
   simp only[hog,hig,Al0,zp] at hg
   obtain⟨rfl,hd⟩:=hg
   rw[hig] at h
   simp only[gv] at h
   have hr:=he.rep s
   have hy:∀ v,a.tmps.getD s undef=v→v≠undef→a.tmps[s]?=some v:=by
    intro v hv hne
    cases hs:a.tmps[s]? with
    | none=>simp[za6,hs] at hv;exact absurd hv.symm hne
    | some u=>simp[za6,hs] at hv;rw[hv]
   cases hρ:ρ s<;>simp only[hρ] at h hr<;>try (cases h;done)
   ·rename_i b'
    simp only[Al1] at h
    subst h
    generalize hv:a.tmps.getD s undef=v at hr
    cases hr
    have:=hy _ hv (by simp[undef])
    simp[Region.wanted,hog,yielded,hd,this]
   ·rename_i vs
    cases vs with
    | cons c r=>simp at h
    | nil =>
     simp only[Al1] at h
     subst h
     generalize hv:a.tmps.getD s undef=v at hr
     cases hr with
     | tup _ us hl _ =>
      cases us with
      | cons u r=>simp at hl
      | nil =>
       have:yielded ops a.tmps j=none:=by
        unfold yielded
        rw[hd]
        simp only[Option.bind_some]
        cases hs:a.tmps[s]? with
        | none=>rfl
        | some u=>simp[za6,hs] at hv;rw[hv]
       simp[Region.wanted,hog,this]
theorem env_set {γ:Gh} {w:World} {ρ:Env} {tmps:Array Value} {N:Nat} (he:EnvRel γ w ρ tmps) (hs:tmps.size=N) {d:Option Nat} (hd:∀ x,d=some x→x<N) {c:AV} {v:Value} (hr:Rep γ w c v) (a:Act) (ha:a.tmps=tmps) :
  EnvRel γ w (ρ.set d c) (a.put d v).tmps:=by
 cases d with
 | none=>subst ha;exact he
 | some x =>
  subst ha
  refine⟨he.tab,fun n=>?_⟩
  simp only[Env.set,Act.put]
  have hx:=hd x rfl
  by_cases hn:n=x
  ·subst hn
   simp only[if_true]
   have:(a.tmps.setIfInBounds n v).getD n undef=v:=by
    simp[za6,hs,hx]
   rw[this];exact hr
  ·simp only[hn,if_false]
   have:(a.tmps.setIfInBounds x v).getD n undef=a.tmps.getD n undef:=by
    simp only[za6,Array.getElem?_setIfInBounds_ne (Ne.symm hn)]
   rw[this];exact he.rep n
theorem put_size (a:Act) (d:Option Nat) (v:Value):(a.put d v).tmps.size=a.tmps.size:=by cases d<;>simp[Act.put]
theorem put_fx {F:Fx} {a:Act} (h:∀ n,n<F.lo→a.tmps.getD n undef=F.T.getD n undef) {d:Option Nat} (hd:∀ x,d=some x→F.lo≤x∧x<F.N) (v:Value):∀ n,n<F.lo→(a.put d v).tmps.getD n undef=F.T.getD n undef:=by
 intro n hn
 cases d with
 | none=>exact h n hn
 | some x =>
  have hx:=(hd x rfl).1
  have:(a.tmps.setIfInBounds x v).getD n undef=a.tmps.getD n undef:=by
   simp only[za6,Array.getElem?_setIfInBounds_ne (show x≠n by omega)]
  simp only[Act.put]
  rw[this];exact h n hn
theorem put_defers (a:Act) (d:Option Nat) (v:Value):(a.put d v).defers=a.defers:=by cases d<;>rfl
theorem newKeys_trans {H0 H H':Heap} {w0 w:World} (h:NewKeys H0 w0 H) (hs:w0.heap.size≤w.heap.size) (h':NewKeys H w H'):NewKeys H0 w0 H':=fun b hb=>by
 rcases h' b hb with h1|h1
 ·exact h b h1
 ·exact .inr (by omega)
theorem SInv.step {γ0:Gh} {w0:World} {H0:Heap} {F:Fx} {γ γ':Gh} {w w':World} {H H':Heap} {ρ:Env} {a:Act} (h:SInv γ0 w0 H0 F γ w H ρ a) (hext:Ext (keysOf H) γ w γ' w') (hst:StateRel γ' w' H') (hk:NewKeys H w H')
  {d:Option Nat} (hd:∀ x,d=some x→F.lo≤x∧x<F.N) {c:AV} {v:Value} (hr:Rep γ' w' c v):SInv γ0 w0 H0 F γ' w' H' (ρ.set d c) (a.put d v) :=
 ⟨h.ext.trans hext (fun b hb hb'=>by
   rcases h.keys b hb' with h1|h1
   ·exact h1
   ·omega),hst,newKeys_trans h.keys h.ext.mono.size hk,env_set (h.env.mono hext.mono) h.sz (fun x hx=>(hd x hx).2) hr a rfl,by rw[put_size];exact h.sz,put_fx h.fx hd v,by rw[put_defers];exact h.df.step hext hk⟩
def PanOk (γ0:Gh) (w0:World) (H0:Heap) (F:Fx) (KP:AV→Heap→Prop) (ch:List PanicEntry) (a:Act) (w:World):Prop :=
 ∃ γ H c v,ch=[{ v,recovered:=false }]∧Ext (keysOf H0) γ0 w0 γ w∧StateRel γ w H∧NewKeys H0 w0 H∧Rep γ w c v∧KP c H∧TabOk γ w∧a.tmps.size=F.N∧(∀ n,n<F.lo→a.tmps.getD n undef=F.T.getD n undef)∧DfOk F w H a.defers
theorem item_sound {P:Program} {γ0:Gh} {w0:World} {H0:Heap} {F:Fx} {KP:AV→Heap→Prop} {ops:Array Oper} {i:Nat} {o:Oper} {it:AItem} {R:List Chk} {K:Env→Heap→Prop} {next:Act→World→Prop} {Q:Exit→Act→World→Prop}
  (hQ:∀ ch a w,PanOk γ0 w0 H0 F KP ch a w→Q (.panic ch) a w) (hi:ops[i]?=some o) (hc:chkItem F.N F.lo ops P o it=true) {γ:Gh} {w:World} {H:Heap} {ρ:Env} {a:Act} (h:SInv γ0 w0 H0 F γ w H ρ a) (hs:istepR P KP it R ρ H K)
  (hn:∀ γ' w' H' ρ' a',SInv γ0 w0 H0 F γ' w' H' ρ' a'→K ρ' H'→next a' w'):wpOp P ops Q i next a w:=by
 simp only[chkItem,Al0,zp] at hc
 obtain⟨⟨⟨hd,hb⟩,hg⟩,hop⟩:=hc
 have hdN:∀ x,it.dst=some x→F.lo≤x∧x<F.N:=fun x hx=>by rw[hx] at hb;simpa using hb
 unfold wpOp
 simp only[hi]
 unfold istepR at hs
 cases hgv:gv it.guard ρ with
 | none=>simp[hgv] at hs
 | some b =>
  have hw:=gv_wanted (ops:=ops) (o:=o) h.env hg hgv
  rw[hw]
  cases b with
  | false =>
   simp only[hgv] at hs
   simp only[Al7,if_false]
   rw[hd]
   exact hn _ _ _ _ _ (h.step (.refl _ _ _) h.st (NewKeys.refl _ _) hdN (.tup [] [] rfl (by simp))) hs
  | true =>
   simp only[hgv] at hs
   simp only[if_true]
   refine .inl (chkOp_sound hop γ w H ρ a _ KP next Q h.env h.st hs (fun γ' w' H' c v hext hst hk hr hK=>?_) (fun γ' w' H' c v hext hst hk hr hK=>hQ _ _ _ ⟨γ',H',c,v,rfl,?_,hst,newKeys_trans h.keys h.ext.mono.size hk,hr,hK,h.env.tab.mono hext.mono,h.sz,h.fx,h.df.step hext hk⟩))
   ·rw[hd]
    exact hn _ _ _ _ _ (h.step hext hst hk hdN hr) hK.2
   ·exact h.ext.trans hext (fun b hb hb'=>by
     rcases h.keys b hb' with h1|h1
     ·exact h1
     ·omega)
theorem items_sound {P:Program} {γ0:Gh} {w0:World} {H0:Heap} {F:Fx} {KP:AV→Heap→Prop} {ops:Array Oper} {Q:Exit→Act→World→Prop} {K:Env→Heap→Prop}
  (hQ:∀ ch a w,PanOk γ0 w0 H0 F KP ch a w→Q (.panic ch) a w) (hK:∀ γ w H ρ a,SInv γ0 w0 H0 F γ w H ρ a→K ρ H→Q .normal a w) :
  ∀(l:List Nat) (its:List (AItem×List Chk)),l.length=its.length→(∀(k i:Nat) (it:AItem×List Chk),l[k]?=some i→its[k]?=some it→∃ o,ops[i]?=some o∧chkItem F.N F.lo ops P o it.1=true) →
  ∀(γ:Gh) (w:World) (H:Heap) (ρ:Env) (a:Act),SInv γ0 w0 H0 F γ w H ρ a→awpItems P KP its ρ H K→wpOps P ops Q l a w
 | [],[],_,_,γ,w,H,ρ,a,h,hs=>hK γ w H ρ a h hs
 | [],_::_,hl,_,_,_,_,_,_,_,_=>by simp at hl
 | _::_,[],hl,_,_,_,_,_,_,_,_=>by simp at hl
 | i::l,it::its,hl,hc,γ,w,H,ρ,a,h,hs=>by
  rw[wpOps_cons]
  obtain⟨o,ho,hco⟩:=hc 0 i it rfl rfl
  unfold awpItems at hs
  exact item_sound hQ ho hco h hs fun γ' w' H' ρ' a' h' hs'=>items_sound hQ hK l its (by simpa using hl) (fun k i it hk hit=>hc (k+1) i it (by simpa using hk) (by simpa using hit)) γ' w' H' ρ' a' h' hs'
def pairB (x i:AItem×List Chk):Bool :=
 x.1.apart i.1&&canSwap x.1 i.1&&(x.1.op.cls != .read||(match x.1.dst with|some d=>!x.1.looks.contains d|none=>false))&&(x.1.op.cls==.eff||x.2.isEmpty) &&
 (match i.1.dst with|some d=>x.2.all fun c=>!(chkSlots c).contains d|none=>true)&&(i.1.op.cls==.eff||i.2.isEmpty)
def needOk (x i:AItem×List Chk):Prop:=∀ c∈need x.1 i.1,c∈i.2
theorem recheck_sub {ρ:Env} {H:Heap} {A:List Chk} (h:recheck ρ H A):∀ {B:List Chk},(∀ c∈B,c∈A)→recheck ρ H B:=by
 have mem:∀ {A:List Chk},recheck ρ H A→∀ c∈A,(gv c.2.1 ρ=some true→rev ρ H c.2.2=some (ρ c.1)):=by
  intro A
  induction A with
  | nil=>intro _ c hc;cases hc
  | cons x A ih =>
   obtain⟨d,g,o⟩:=x
   intro h c hc
   rcases List.mem_cons.1 hc with e|e
   ·subst e;exact h.1
   ·exact ih h.2 c e
 intro B
 induction B with
 | nil=>intro _;trivial
 | cons x B ih =>
  obtain⟨d,g,o⟩:=x
  intro hB
  exact⟨mem h (d,g,o) (hB _ (yI ..)),ih fun c hc=>hB c (Za _ hc)⟩
theorem entry_slots {x y:AItem} (h:x.apart y=true∨True):∀ c∈entry x,∀ n∈chkSlots c,x.dst=some n∨n∈x.looks:=by
 intro c hc n hn
 unfold entry at hc
 split at hc
 ·rename_i d hd
  simp only[List.mem_singleton] at hc
  subst hc
  simp only[chkSlots,List.mem_cons,List.mem_append] at hn
  rcases hn with (rfl|hn)|hn
  ·exact .inl hd
  ·exact .inr (Z9 _ hn)
  ·exact .inr (List.mem_append_right _ hn)
 ·cases hc
theorem front {P:Program} {KP:AV→Heap→Prop} (hKP:Wide KP) (i:AItem×List Chk) {K:Env→Heap→Prop} {q:List (AItem×List Chk)}:∀(p:List (AItem×List Chk)),
  (∀ x∈p,pairB x i=true∧needOk x i)→(∀(k l:Nat) (x y:AItem×List Chk),k<l→p[k]?=some x→p[l]?=some y→need x.1 i.1≠[]→∀ d,y.1.dst=some d→x.1.dst≠some d∧d ∉ x.1.looks) →
  ∀(R:List Chk),(∀ c∈R,c∈i.2)→(∀ c∈R,∀ x∈p,∀ d,x.1.dst=some d→d ∉ chkSlots c)→∀(ρ:Env) (H:Heap),
  awpItems P KP (p++i::q) ρ H K→istepR P KP i.1 R ρ H (fun ρ' H'=>awpItems P KP (p++q) ρ' H' K)
 | [],_,_,R,hRi,_,ρ,H,h=>by
  simp only[zbH] at h ⊢
  unfold awpItems at h
  exact istepR_mono (fun _ _ hr=>recheck_sub hr hRi) (fun _ _ h=>h) h
 | x::p,hp,hw,R,hRi,hRp,ρ,H,h=>by
  obtain⟨hx,hnx⟩:=hp x (yI ..)
  simp only[pairB,Al0,zat] at hx
  obtain⟨⟨⟨⟨⟨hap,hsw⟩,hself⟩,hchk⟩,hchk2⟩,hie⟩:=hx
  simp only[Al6] at h ⊢
  unfold awpItems at h
  have ih:=fun(ρ:Env) (H:Heap) (h':awpItems P KP (p++i::q) ρ H K)=>front (P:=P) hKP i (K:=K) (q:=q) p (fun y hy=>hp y (Za _ hy)) (fun k l y z hkl hk hl=>hw (k+1) (l+1) y z (by omega) (by simpa using hk) (by simpa using hl)) (need x.1 i.1++R)
   (fun c hc=>by
    rcases List.mem_append.1 hc with h1|h1
    ·exact hnx c h1
    ·exact hRi c h1)
   (fun c hc y hy d hd=>by
    rcases List.mem_append.1 hc with h1|h1
    ·have hcls:need x.1 i.1≠[]:=List.ne_nil_of_mem h1
     have h2:c∈entry x.1:=by
      unfold need at h1
      split at h1
      ·exact h1
      ·cases h1
     obtain⟨l,hl⟩:=List.mem_iff_getElem?.1 hy
     obtain⟨n1,n2⟩:=hw 0 (l+1) x y (by omega) rfl (by simpa using hl) hcls d hd
     intro hn
     rcases entry_slots (y:=x.1) (.inr trivial) c h2 d hn with h3|h3
     ·exact n1 h3
     ·exact n2 h3
    ·exact hRp c h1 y (Za _ hy) d hd) ρ H h'
  have h1:=istepR_mono (P:=P) (KP:=KP) (fun _ _ hr=>hr) (fun ρ' H' h'=>ih ρ' H' h') h
  have h2:=swap hKP (x:=x.1) (i:=i.1) (cx:=x.2) hap hsw (fun e=>by
    rcases hself with h|h
    ·rw[e] at h;simp[bne,BEq.beq] at h
    ·split at h
     ·rename_i d hd;exact⟨d,hd,by simpa using h⟩
     ·cases h)
   (fun e=>by
    rcases hchk with h|h
    ·exact absurd (of_decide_eq_true h) e
    ·simpa using h)
   (fun c hc d hd=>by rw[hd] at hchk2;have:=yx.1 hchk2 c hc;simpa using this)
   (R:=R) (fun c hc d hd=>hRp c hc x (yI ..) d hd)
   (fun e=>by
    rcases hie with h|h
    ·exact absurd (of_decide_eq_true h) e
    ·have:i.2=[]:=by simpa using h
     cases R with
     | nil=>rfl
     | cons c r=>have:=hRi c (yI ..);simp_all) h1
  exact istepR_mono (fun _ _ hr=>hr) (fun ρ' H' h'=>by unfold awpItems;exact h') h2
abbrev Placed:=Nat×AItem×List Chk
def readySafe (ops:Array Oper) (pre:Nat→List Nat) (r:List Placed) (x:Placed):Prop :=
 (∀ i∈r,x.1∈pre i.1∨(pairB x.2 i.2=true∧needOk x.2 i.2∧(need x.2.1 i.2.1≠[]→∀ y∈r,∀ d,y.2.1.dst=some d→x.2.1.dst≠some d∧d ∉ x.2.1.looks))) ∧
 (∀ o,ops[x.1]?=some o→∀ e∈o.after,Region.binds .any e=true→e.on<ops.size∧e.on≠x.1∧∀ y∈r,y.1≠e.on)∧(∀ y∈r,y.1≠x.1)
def POK (ops:Array Oper) (pre:Nat→List Nat):List Placed→Prop
 | []=>True
 | x::r=>readySafe ops pre r x∧POK ops pre r
theorem POK.drop {ops:Array Oper} {pre:Nat→List Nat} {i:Placed} {q:List Placed}:∀ {p:List Placed},POK ops pre (p++i::q)→POK ops pre (p++q)
 | [],h=>h.2
 | x::p,h=>by
  obtain⟨⟨h1,h2,h3⟩,h4⟩:=h
  have sub:∀ y∈p++q,y∈p++i::q:=fun y hy=>by
   rcases List.mem_append.1 hy with h|h
   ·exact Z9 _ h
   ·exact List.mem_append_right _ (Za _ h)
  refine⟨⟨fun j hj=>?_,fun o ho e he hbe=>?_,fun y hy=>h3 y (sub y hy)⟩,POK.drop h4⟩
  ·rcases h1 j (sub j hj) with h|⟨ha,hb,hc⟩
   ·exact .inl h
   ·exact .inr ⟨ha,hb,fun hn y hy=>hc hn y (sub y hy)⟩
  ·obtain⟨ha,hne,hb⟩:=h2 o ho e he hbe
   exact⟨ha,hne,fun y hy=>hb y (sub y hy)⟩
theorem POK.before {ops:Array Oper} {pre:Nat→List Nat} {i:Placed} {q:List Placed}:∀ {p:List Placed},POK ops pre (p++i::q)→(∀ x∈p,x.1 ∉ pre i.1) →
  (∀ x∈p.map (·.2),pairB x i.2=true∧needOk x i.2) ∧
  (∀(k l:Nat) (x y:AItem×List Chk),k<l→(p.map (·.2))[k]?=some x→(p.map (·.2))[l]?=some y→need x.1 i.2.1≠[]→∀ d,y.1.dst=some d→x.1.dst≠some d∧d ∉ x.1.looks)
 | [],_,_=>⟨by simp,by simp⟩
 | x::p,h,hn=>by
  obtain⟨⟨h1,_,_⟩,h4⟩:=h
  obtain⟨ih1,ih2⟩:=POK.before h4 (fun y hy=>hn y (Za _ hy))
  have hx:=(h1 i (by simp)).resolve_left (hn x (yI ..))
  refine⟨fun y hy=>?_,fun k l y z hkl hk hl hne d hd=>?_⟩
  ·simp only[List.map_cons,List.mem_cons] at hy
   rcases hy with rfl|hy
   ·exact⟨hx.1,hx.2.1⟩
   ·exact ih1 y hy
  ·cases l with
   | zero=>omega
   | succ l =>
    simp only[List.map_cons,List.getElem?_cons_succ] at hl
    cases k with
    | zero =>
     simp only[List.map_cons,List.getElem?_cons_zero,Al1] at hk
     subst hk
     rw[yg] at hl
     cases hz:p[l]? with
     | none=>simp[hz] at hl
     | some z' =>
      simp only[hz,yb,Al1] at hl
      subst hl
      exact hx.2.2 hne z' (Z9 _ (List.mem_of_getElem? hz)) d hd
    | succ k =>
     simp only[List.map_cons,List.getElem?_cons_succ] at hk
     exact ih2 k l y z (by omega) hk hl hne d hd
theorem POK.fresh {ops:Array Oper} {pre:Nat→List Nat} {i:Placed} {q:List Placed}:∀ {p:List Placed},POK ops pre (p++i::q)→∀ y∈p++q,y.1≠i.1
 | [],h,y,hy=>h.1.2.2 y hy
 | x::p,h,y,hy=>by
  simp only[Al6,List.mem_cons] at hy
  rcases hy with rfl|hy
  ·exact fun e=>h.1.2.2 i (by simp) e.symm
  ·exact POK.fresh h.2 y hy
theorem any_sound {P:Program} {γ0:Gh} {w0:World} {H0:Heap} {F:Fx} {KP:AV→Heap→Prop} (hKP:Wide KP) {ops:Array Oper} {pre:Nat→List Nat} {Q:Exit→Act→World→Prop} {K:Env→Heap→Prop}
  (hQ:∀ ch a w,PanOk γ0 w0 H0 F KP ch a w→Q (.panic ch) a w) (hK:∀ γ w H ρ a,SInv γ0 w0 H0 F γ w H ρ a→K ρ H→Q .normal a w)
  (hpre:∀(i:Nat) (o:Oper),ops[i]?=some o→∀ k∈pre i,∃ e∈o.after,Region.binds .any e=true∧(e.on=k∨k∈pre e.on)) :
  ∀(fuel:Nat) (r:List Placed) (listed:Array Bool) (γ:Gh) (w:World) (H:Heap) (ρ:Env) (a:Act),listed.size=ops.size→r.length≤fuel→POK ops pre r→(∀ x∈r,∃ o,ops[x.1]?=some o∧chkItem F.N F.lo ops P o x.2.1=true) →
   (∀ i,i<ops.size→(listed.getD i true=false↔∃ x∈r,x.1=i))→(∀ j,listed.getD j false=true→∀ k∈pre j,listed.getD k false=true) →
   SInv γ0 w0 H0 F γ w H ρ a→awpItems P KP (r.map (·.2)) ρ H K→wpAny P .any ops Q fuel listed a w:=by
 have firstReady:∀(x:Placed) (r:List Placed) (listed:Array Bool),listed.size=ops.size→POK ops pre (x::r)→(∃ o,ops[x.1]?=some o∧chkItem F.N F.lo ops P o x.2.1=true) →
   (∀ i,i<ops.size→(listed.getD i true=false↔∃ y∈x::r,y.1=i))→x.1∈Region.ready .any ops listed:=by
  intro x r listed hsz hpok ⟨o,ho,_⟩ hl
  rw[mem_ready]
  have hx:x.1<ops.size:=(yX.1 ho).1
  refine⟨(hl x.1 hx).2 ⟨x,yI ..,rfl⟩,o,ho,fun e he hbe=>?_⟩
  obtain⟨h1,hne,h2⟩:=hpok.1.2.1 o ho e he hbe
  have h3:¬ (listed.getD e.on true=false):=by
   rw[hl e.on h1]
   rintro⟨y,hy,hye⟩
   rcases List.mem_cons.1 hy with rfl|hy
   ·exact hne hye.symm
   ·exact h2 y hy hye
  have h4:e.on<listed.size:=by omega
  simp only[za6,Array.getElem?_eq_getElem h4,Option.getD_some] at h3 ⊢
  cases hh:listed[e.on]<;>simp_all
 have clash:∀(listed:Array Bool) (j:Nat),listed.getD j true=false→listed.getD j false=true→False:=by
  intro listed j h1 h2
  simp only[za6] at h1 h2
  cases hj:listed[j]?<;>simp_all
 intro fuel
 induction fuel with
 | zero =>
  intro r listed γ w H ρ a hsz hlen hpok hc hl hdc hinv hs
  have hr:r=[]:=List.eq_nil_of_length_eq_zero (by omega)
  subst hr
  refine⟨?_,hK γ w H ρ a hinv hs⟩
  cases hrd:Region.ready .any ops listed with
  | nil=>rfl
  | cons j js =>
   have hj:j∈Region.ready .any ops listed:=by rw[hrd];exact yI ..
   obtain⟨h1,o,ho,_⟩:=mem_ready.1 hj
   obtain⟨x,hx,_⟩:=(hl j (yX.1 ho).1).1 h1
   cases hx
 | succ fuel ih =>
  intro r listed γ w H ρ a hsz hlen hpok hc hl hdc hinv hs
  refine⟨fun hrd=>?_,fun i hi=>?_⟩
  ·cases r with
   | nil=>exact hK γ w H ρ a hinv hs
   | cons x r =>
    have:=firstReady x r listed hsz hpok (hc x (yI ..)) hl
    rw[hrd] at this
    cases this
  ·obtain⟨h1,o,ho,hall⟩:=mem_ready.1 hi
   have hilt:=(yX.1 ho).1
   obtain⟨x,hx,rfl⟩:=(hl i hilt).1 h1
   obtain⟨p,q,rfl⟩:=List.append_of_mem hx
   have hpre':∀ k∈pre x.1,listed.getD k false=true:=fun k hk=>by
    obtain⟨e,he,hb,h2⟩:=hpre x.1 o ho k hk
    have h3:=hall e he hb
    rcases h2 with rfl|h2
    ·exact h3
    ·exact hdc e.on h3 k h2
   have hnp:∀ y∈p,y.1 ∉ pre x.1:=fun y hy hk=>by
    obtain⟨oy,hoy,_⟩:=hc y (Z9 _ hy)
    exact clash listed y.1 ((hl y.1 (yX.1 hoy).1).2 ⟨y,Z9 _ hy,rfl⟩) (hpre' y.1 hk)
   obtain⟨hb1,hb2⟩:=hpok.before hnp
   obtain⟨o',ho',hco⟩:=hc x hx
   rw[ho] at ho'
   cases ho'
   rw[List.map_append,List.map_cons] at hs
   have hfront:=front hKP x.2 (p.map (·.2)) hb1 hb2 [] (by simp) (by simp) ρ H hs
   refine item_sound hQ ho hco hinv hfront fun γ' w' H' ρ' a' hinv' hs'=>?_
   refine ih (p++q) _ γ' w' H' ρ' a' (by simpa using hsz) (by simp at hlen ⊢;omega) hpok.drop (fun y hy=>hc y ?_) (fun j hj=>?_) (fun j hj k hk=>?_) hinv' (by rw[List.map_append];exact hs')
   ·rcases List.mem_append.1 hy with h|h
    ·exact Z9 _ h
    ·exact List.mem_append_right _ (Za _ h)
   ·by_cases hji:x.1=j
    ·subst hji
     constructor
     ·intro h2
      have h3:x.1<listed.size:=by omega
      simp[h3] at h2
     ·rintro⟨y,hy,hye⟩
      exact absurd hye (hpok.fresh y hy)
    ·rw[getD_set_ne true hji,hl j hj]
     constructor
     ·rintro⟨y,hy,rfl⟩
      refine⟨y,?_,rfl⟩
      rcases List.mem_append.1 hy with h|h
      ·exact Z9 _ h
      ·rcases List.mem_cons.1 h with rfl|h
       ·exact absurd rfl hji
       ·exact List.mem_append_right _ h
     ·rintro⟨y,hy,rfl⟩
      refine⟨y,?_,rfl⟩
      rcases List.mem_append.1 hy with h|h
      ·exact Z9 _ h
      ·exact List.mem_append_right _ (Za _ h)
   ·by_cases hji:x.1=j
    ·subst hji
     exact getD_set_true (hpre' k hk)
    ·rw[getD_set_ne false hji] at hj
     exact getD_set_true (hdc j hj k hk)
def chkOf (items:List AItem) (l:List Nat):List Chk:=l.flatMap fun k=>match items[k]? with|some x=>entry x|none=>[]
def annot (items:List AItem):List (AItem×List Chk):=items.map fun it=>(it,chkOf items it.chk)
abbrev Row:=Nat×Nat×AItem
def rowsFrom:Nat→List Nat→List AItem→List Row
 | k,i::c,it::its=>(k,i,it)::rowsFrom (k+1) c its
 | _,_,_=>[]
def placed (items:List AItem) (r:Row):Placed:=(r.2.1,r.2.2,chkOf items r.2.2.chk)
def safeB (ops:Array Oper) (pre:List (List Nat)) (items:List AItem) (r:List Row) (x:Row):Bool :=
 (r.all fun i=>(pre.getD i.2.1 []).contains x.2.1 ||
  (pairB (placed items x).2 (placed items i).2&&((need x.2.2 i.2.2).isEmpty||(i.2.2.chk.contains x.1&&r.all fun y=>match y.2.2.dst with|some d=>x.2.2.dst != some d&&!x.2.2.looks.contains d|none=>true)))) &&
 (match ops[x.2.1]? with|some o=>o.after.all fun e=>!Region.binds .any e||(decide (e.on<ops.size)&&e.on != x.2.1&&r.all fun y=>y.2.1 != e.on)|none=>false) &&
 (r.all fun y=>y.2.1 != x.2.1)
def pokB (ops:Array Oper) (pre:List (List Nat)) (items:List AItem):List Row→Bool
 | []=>true
 | x::r=>safeB ops pre items r x&&pokB ops pre items r
def preOf (ops:Array Oper):List (List Nat) :=
 ops.toList.foldl (fun acc o=>acc++[((o.after.toList.filter (Region.binds .any)).flatMap fun e=>e.on::acc.getD e.on []).eraseDups]) []
def preB (ops:Array Oper) (pre:List (List Nat)):Bool :=
 (List.range ops.size).all fun i=>(pre.getD i []).all fun k=>match ops[i]? with
  | some o=>o.after.any fun e=>Region.binds .any e&&(e.on==k||(pre.getD e.on []).contains k)
  | none=>true
def chkDraw (P:Program) (N lo:Nat) (ops:Array Oper) (c:List Nat) (items:List AItem):Bool :=
 let rows:=rowsFrom 0 c items
 P.follows .mixedOrders&&decide (c.length=items.length)&&decide (c.length=ops.size)&&((List.range ops.size).all fun i=>c.contains i) &&
 (rows.all fun r=>match ops[r.2.1]? with|some o=>chkItem N lo ops P o r.2.2|none=>false)&&preB ops (preOf ops)&&pokB ops (preOf ops) items rows
def chkSeq (P:Program) (N lo:Nat) (ops:Array Oper) (items:List AItem):Bool :=
 decide (ops.size=items.length)&&((ops.toList.zip items).all fun x=>chkItem N lo ops P x.1 x.2)
theorem rows_spec {items:List AItem}:∀(c:List Nat) (its:List AItem) (k:Nat),c.length=its.length→(∀ j x,its[j]?=some x→items[k+j]?=some x) →
  (rowsFrom k c its).map (fun r=>(placed items r).2)=its.map (fun it=>(it,chkOf items it.chk))∧(rowsFrom k c its).map (·.2.1)=c∧∀ r∈rowsFrom k c its,items[r.1]?=some r.2.2
 | [],[],_,_,_=>by simp[rowsFrom]
 | [],_::_,_,h,_=>by simp at h
 | _::_,[],_,h,_=>by simp at h
 | i::c,it::its,k,h,hi=>by
  obtain⟨h1,h2,h3⟩:=rows_spec c its (k+1) (by simpa using h) (fun j x hj=>by have:=hi (j+1) x (by simpa using hj);rwa [show k+(j+1)=k+1+j by omega] at this)
  refine⟨by rw[rowsFrom,List.map_cons,List.map_cons,h1];rfl,by simp[rowsFrom,h2],fun r hr=>?_⟩
  simp only[rowsFrom,List.mem_cons] at hr
  rcases hr with rfl|hr
  ·have:=hi 0 it rfl;simpa using this
  ·exact h3 r hr
theorem pok_of_B {ops:Array Oper} {pre:List (List Nat)} {items:List AItem}:∀(r:List Row),(∀ x∈r,items[x.1]?=some x.2.2)→pokB ops pre items r=true→(∀ x∈r,∃ o,ops[x.2.1]?=some o)→POK ops (fun i=>pre.getD i []) (r.map (placed items))
 | [],_,_,_=>trivial
 | x::r,hi,h,ho=>by
  simp only[pokB,Al0,safeB] at h
  obtain⟨⟨⟨h1,h2⟩,h3⟩,h4⟩:=h
  refine⟨⟨fun i hir=>?_,fun o hox e he hbe=>?_,fun y hy=>?_⟩,pok_of_B r (fun y hy=>hi y (Za _ hy)) h4 (fun y hy=>ho y (Za _ hy))⟩
  ·obtain⟨i,hir',rfl⟩:=List.mem_map.1 hir
   have:=yx.1 h1 i hir'
   simp only[zat,Al0] at this
   rcases this with h5|⟨h5,h6⟩
   ·left;show x.2.1∈pre.getD i.2.1 [];simpa using h5
   ·right
    refine⟨h5,fun c hc=>?_,fun hn y hy d hd=>?_⟩
    ·have hne:(need x.2.2 i.2.2).isEmpty=false:=by
      have:c∈need x.2.2 i.2.2:=hc
      cases hh:need x.2.2 i.2.2<;>simp_all
     rw[hne] at h6
     simp only[Al7,false_or] at h6
     have hmem:x.1∈i.2.2.chk:=by simpa using h6.1
     have hce:c∈entry x.2.2:=by
      have:c∈need x.2.2 i.2.2:=hc
      unfold need at this
      split at this
      ·exact this
      ·cases this
     show c∈chkOf items i.2.2.chk
     unfold chkOf
     rw[List.mem_flatMap]
     exact⟨x.1,hmem,by rw[hi x (yI ..)];exact hce⟩
    ·obtain⟨y,hyr,rfl⟩:=List.mem_map.1 hy
     have hne:(need x.2.2 i.2.2).isEmpty=false:=by
      have:need x.2.2 i.2.2≠[]:=hn
      cases hh:need x.2.2 i.2.2<;>simp_all
     rw[hne] at h6
     simp only[Al7,false_or] at h6
     have:=yx.1 h6.2 y hyr
     have hd':y.2.2.dst=some d:=hd
     rw[hd'] at this
     simp only[Al0,bne_iff_ne,ne_eq,Bool.not_eq_true'] at this
     exact⟨this.1,by show ¬ d∈x.2.2.looks;simpa using this.2⟩
  ·have hox':ops[x.2.1]?=some o:=hox
   rw[hox'] at h2
   simp only at h2
   have:=Array.all_eq_true_iff_forall_mem.1 h2 e he
   simp only[hbe,Bool.not_true,Bool.false_or,Al0,zp,bne_iff_ne,ne_eq] at this
   refine⟨this.1.1,this.1.2,fun y hy=>?_⟩
   obtain⟨y,hyr,rfl⟩:=List.mem_map.1 hy
   have:=yx.1 this.2 y hyr
   show y.2.1≠e.on
   simpa using this
  ·obtain⟨y,hyr,rfl⟩:=List.mem_map.1 hy
   have:=yx.1 h3 y hyr
   simpa[placed] using this
theorem draw_any {P:Program} {γ0:Gh} {w0:World} {H0:Heap} {F:Fx} {KP:AV→Heap→Prop} (hKP:Wide KP) {ops:Array Oper} {Q:Exit→Act→World→Prop} {K:Env→Heap→Prop} {c:List Nat} {items:List AItem}
  (hQ:∀ ch a w,PanOk γ0 w0 H0 F KP ch a w→Q (.panic ch) a w) (hK:∀ γ w H ρ a,SInv γ0 w0 H0 F γ w H ρ a→K ρ H→Q .normal a w)
  (h:chkDraw P F.N F.lo ops c items=true) {γ:Gh} {w:World} {H:Heap} {ρ:Env} {a:Act} (hinv:SInv γ0 w0 H0 F γ w H ρ a) (hs:awpItems P KP (annot items) ρ H K):wpAny P .any ops Q ops.size (Array.replicate ops.size false) a { w with drawn:=w.drawn+1 }∧P.follows .mixedOrders=true:=by
 simp only[chkDraw,Al0,zp] at h
 obtain⟨⟨⟨⟨⟨⟨hm,hl⟩,hlo⟩,hall⟩,hit⟩,hpre⟩,hpok⟩:=h
 obtain⟨hr1,hr2,hr3⟩:=rows_spec (items:=items) c items 0 hl (fun j x hj=>by simpa using hj)
 refine⟨?_,hm⟩
 have hinv':SInv γ0 w0 H0 F γ w.drew H ρ a :=
  ⟨hinv.ext.trans (ext_drew (fun _=>False) γ w) (fun _ _ f=>f.elim),hinv.st.kept (ext_drew (fun _=>False) γ w) (fun _ _ _ f=>f),hinv.keys,hinv.env.mono (ext_drew (fun _=>False) γ w).mono,hinv.sz,hinv.fx,hinv.df.step (ext_drew (keysOf H) γ w) (NewKeys.refl _ _)⟩
 have hsome:∀ x∈rowsFrom 0 c items,∃ o,ops[x.2.1]?=some o∧chkItem F.N F.lo ops P o x.2.2=true:=fun x hx=>by
  have:=yx.1 hit x hx
  split at this
  ·rename_i o ho;exact⟨o,ho,this⟩
  ·cases this
 refine any_sound hKP (pre:=fun i=>(preOf ops).getD i []) hQ hK (fun i o ho k hk=>?_) ops.size ((rowsFrom 0 c items).map (placed items)) _ γ w.drew H ρ a (by simp) ?_ (pok_of_B _ hr3 hpok fun x hx=>let ⟨o,ho,_⟩:=hsome x hx;⟨o,ho⟩) (fun x hx=>?_) (fun i hi=>?_) (fun j hj=>?_) hinv' ?_
 ·have h1:=yx.1 hpre i (List.mem_range.2 (yX.1 ho).1)
  have h2:=yx.1 h1 k hk
  rw[ho] at h2
  simp only at h2
  obtain⟨e,he,hb⟩:=Array.any_eq_true'.1 h2
  simp only[Al0,zat,beq_iff_eq] at hb
  exact⟨e,he,hb.1,hb.2.imp (fun h=>h) (fun h=>by simpa using h)⟩
 ·have:=congrArg List.length hr2
  rw[List.length_map] at this
  rw[List.length_map,this,hlo]
  exact Al4 _
 ·obtain⟨x,hxr,rfl⟩:=List.mem_map.1 hx
  exact hsome x hxr
 ·constructor
  ·intro _
   have:=yx.1 hall i (List.mem_range.2 hi)
   have hic:i∈c:=by simpa using this
   rw[← hr2] at hic
   obtain⟨r,hr,rfl⟩:=List.mem_map.1 hic
   exact⟨placed items r,List.mem_map.2 ⟨r,hr,rfl⟩,rfl⟩
  ·intro _;simp[hi]
 ·intro k hk
  by_cases hlt:j<ops.size<;>simp[hlt] at hj
 ·have e:((rowsFrom 0 c items).map (placed items)).map (·.2)=annot items:=by
   rw[List.map_map];exact hr1
  rw[e];exact hs
theorem draw_ops {P:Program} {γ0:Gh} {w0:World} {H0:Heap} {F:Fx} {KP:AV→Heap→Prop} (hKP:Wide KP) {ops:Array Oper} {Q:Exit→Act→World→Prop} {K:Env→Heap→Prop} {c:List Nat} {items:List AItem}
  (hQ:∀ ch a w,PanOk γ0 w0 H0 F KP ch a w→Q (.panic ch) a w) (hK:∀ γ w H ρ a,SInv γ0 w0 H0 F γ w H ρ a→K ρ H→Q .normal a w)
  (h:chkDraw P F.N F.lo ops c items=true) {γ:Gh} {w:World} {H:Heap} {ρ:Env} {a:Act} (hinv:SInv γ0 w0 H0 F γ w H ρ a) (hs:awpItems P KP (annot items) ρ H K) (t:Nat) :
  wpOps P ops Q (Region.schedule (P.follows .mixedOrders) ops t) a { w with drawn:=w.drawn+1 }:=by
 obtain⟨h1,hm⟩:=draw_any hKP hQ hK h hinv hs
 simp only[Region.schedule,hm,Bool.true_or,if_true]
 exact wpAny_sound ops.size t _ a _ h1
theorem draw_sound {P:Program} {γ0:Gh} {w0:World} {H0:Heap} {F:Fx} {KP:AV→Heap→Prop} (hKP:Wide KP) {id:Nat} {ops:Array Oper} {Q:Exit→Act→World→Prop} {K:Env→Heap→Prop} {c:List Nat} {items:List AItem}
  (hQ:∀ ch a w,PanOk γ0 w0 H0 F KP ch a w→Q (.panic ch) a w) (hK:∀ γ w H ρ a,SInv γ0 w0 H0 F γ w H ρ a→K ρ H→Q .normal a w)
  (h:chkDraw P F.N F.lo ops c items=true) {γ:Gh} {w:World} {H:Heap} {ρ:Env} {a:Act} (hinv:SInv γ0 w0 H0 F γ w H ρ a) (hs:awpItems P KP (annot items) ρ H K):(Code.region id ops true).wp P Q a w :=
 wp_region_draw (draw_ops hKP hQ hK h hinv hs)
theorem seq_ops {P:Program} {γ0:Gh} {w0:World} {H0:Heap} {F:Fx} {KP:AV→Heap→Prop} {ops:Array Oper} {Q:Exit→Act→World→Prop} {K:Env→Heap→Prop} {items:List AItem}
  (hQ:∀ ch a w,PanOk γ0 w0 H0 F KP ch a w→Q (.panic ch) a w) (hK:∀ γ w H ρ a,SInv γ0 w0 H0 F γ w H ρ a→K ρ H→Q .normal a w)
  (h:chkSeq P F.N F.lo ops items=true) {γ:Gh} {w:World} {H:Heap} {ρ:Env} {a:Act} (hinv:SInv γ0 w0 H0 F γ w H ρ a) (hs:awpItems P KP (annot items) ρ H K):wpOps P ops Q (List.range ops.size) a w:=by
 simp only[chkSeq,Al0,zp] at h
 obtain⟨hl,hall⟩:=h
 refine items_sound hQ hK (List.range ops.size) (annot items) (by simp[annot,hl]) (fun k i it hk hit=>?_) γ w H ρ a hinv hs
 obtain⟨h1,h2⟩:=yC.1 hk
 simp at h1 h2
 subst h2
 simp only[annot,yg,y9] at hit
 obtain⟨x,hx,rfl⟩:=hit
 refine⟨ops[k],by simp[h1],?_⟩
 have hz:(ops.toList.zip items)[k]?=some (ops[k],x):=by
  rw[List.getElem?_zip_eq_some]
  exact⟨by simp[h1],hx⟩
 exact yx.1 hall _ (List.mem_of_getElem? hz)
theorem seq_sound {P:Program} {γ0:Gh} {w0:World} {H0:Heap} {F:Fx} {KP:AV→Heap→Prop} {id:Nat} {ops:Array Oper} {Q:Exit→Act→World→Prop} {K:Env→Heap→Prop} {items:List AItem}
  (hQ:∀ ch a w,PanOk γ0 w0 H0 F KP ch a w→Q (.panic ch) a w) (hK:∀ γ w H ρ a,SInv γ0 w0 H0 F γ w H ρ a→K ρ H→Q .normal a w)
  (h:chkSeq P F.N F.lo ops items=true) {γ:Gh} {w:World} {H:Heap} {ρ:Env} {a:Act} (hinv:SInv γ0 w0 H0 F γ w H ρ a) (hs:awpItems P KP (annot items) ρ H K):(Code.region id ops false).wp P Q a w :=
 wp_region (seq_ops hQ hK h hinv hs)
inductive AC where
 | skip
 | reg (c:List Nat) (items:List AItem)
 | seq (a b:AC)
 | join (keep:List Nat) (a b:AC)
 | cond (c:Opd) (t e:AC)
 | block (id:Nat) (b:AC)
 | loop (keep:List Nat) (b:AC)
 | scope (b:AC)
 | exit (id:Nat)
 | ret
 | rfun (g:Opd) (ps:List Nat) (asg body:AC)
inductive AExit where
 | normal
 | exit (id:Nat)
 | ret
def envOf:List (Nat×AV)→Env
 | [],_=>.any
 | (d,c)::r,n=>if n=d then c else envOf r n
theorem envOf_cons (l:List (Nat×AV)) (d n:Nat) (c:AV):envOf ((d,c)::l) n=if n=d then c else envOf l n:=rfl
def Env.keep (ρ:Env) (l:List Nat):Env:=envOf (l.map fun n=>(n,ρ n))
def thenQ (K:Env→Heap→Prop) (Q:AExit→Env→Heap→Prop):AExit→Env→Heap→Prop
 | .normal=>K
 | e=>Q e
def inBlockQ (id:Nat) (Q:AExit→Env→Heap→Prop):AExit→Env→Heap→Prop
 | .exit i=>if i=id then Q .normal else Q (.exit i)
 | e=>Q e
def condK (c:AV) (X Y:Prop):Prop :=
 match c with
 | .bool true=>X
 | .bool false=>Y
 | .ubool p=>(p→X)∧Y
 | _=>False
def AC.flat:AC→Bool
 | .seq a b|.cond _ a b=>a.flat&&b.flat
 | .block _ b=>b.flat
 | .join _ _ _|.loop _ _|.scope _|.rfun _ _ _ _=>false
 | _=>true
def AC.plain:AC→Bool
 | .seq a b|.cond _ a b|.join _ a b=>a.plain&&b.plain
 | .block _ b|.loop _ b|.scope b=>b.plain
 | .rfun _ _ _ _=>false
 | _=>true
def onlyN (K:Env→Heap→Prop):AExit→Env→Heap→Prop
 | .normal=>K
 | _=>fun _ _=>False
def setPs:List Nat→List AV→Env→Env
 | p::ps,c::cs,ρ=>setPs ps cs (ρ.set (some p) c)
 | _,_,ρ=>ρ
def SeqC (P:Program) (f:FuncId) (caps:List AV) (X:List (List AV)):Prop :=
 ∀(l:Nat) (J:Nat→Gh→World→Prop),(∀ k γ w γ' w',J k γ w→Ext (fun _=>False) γ w γ' w'→J k γ' w') →
  (∀ k x γ w vs,X[k]?=some x→J k γ w→RepAll γ w x vs→YieldAt Fence.wide 0 P l vs.toArray w fun e w'=>∃ γ',Mono γ w γ' w'∧e=.returned (.bool true)∧J (k+1) γ' w') →
  ∀ γ w vs,TabOk γ w→RepAll γ w caps vs→J 0 γ w →
   CallsIn Fence.wide 0 P f (#[.func (.yield l) #[] #[]]++vs.toArray) w fun e w'=>∃ γ' v,e=.returned v∧J X.length γ' w'
def awp (P:Program) (KP:AV→Heap→Prop):AC→(AExit→Env→Heap→Prop)→Env→Heap→Prop
 | .skip,Q,ρ,H=>Q .normal ρ H
 | .reg _ items,Q,ρ,H=>awpItems P KP (annot items) ρ H (Q .normal)
 | .seq a b,Q,ρ,H=>awp P KP a (thenQ (awp P KP b Q) Q) ρ H
 | .join keep a b,Q,ρ,H=>∃ J:Env→Heap→Prop,awp P KP a (thenQ (fun ρ' H'=>J (ρ'.keep keep) H') Q) ρ H∧∀ ρ H,J ρ H→awp P KP b Q ρ H
 | .cond c t e,Q,ρ,H=>condK (c.ev ρ) (awp P KP t Q ρ H) (awp P KP e Q ρ H)
 | .block id b,Q,ρ,H=>awp P KP b (inBlockQ id Q) ρ H
 | .loop keep b,Q,ρ,H=>∃ I:Nat→Env→Heap→Prop,(∃ n,I n (ρ.keep keep) H)∧∀ n ρ H,I n ρ H→awp P KP b (thenQ (fun ρ' H'=>∃ m,m<n∧I m (ρ'.keep keep) H') Q) ρ H
 | .scope b,Q,ρ,H=>awp P KP b Q ρ H
 | .exit id,Q,ρ,H=>Q (.exit id) ρ H
 | .ret,Q,ρ,H=>Q .ret ρ H
 | .rfun g ps asg body,Q,ρ,H=>∃ f caps X,g.ev ρ=.clo f [] caps∧Program.callable P f=true∧SeqC P f caps X∧(∀ x∈X,x.length=ps.length)∧∃ I:Nat→Heap→Prop,I 0 H ∧
   (∀ k x H,X[k]?=some x→I k H→awp P (fun _ _=>False) asg (onlyN fun ρ' H'=>awp P (fun _ _=>False) body (onlyN fun _ H''=>I (k+1) H'') ρ' H') (setPs ps x ρ) H)∧∀ H,I X.length H→Q .normal ρ H
def chkCode (P:Program) (N lo:Nat):Code→AC→Bool
 | .skip,.skip=>true
 | .label _,.skip=>true
 | .region _ ops draw,.reg c items=>if draw then chkDraw P N lo ops c items else chkSeq P N lo ops items
 | .seq a b,.seq a' b'=>chkCode P N lo a a'&&chkCode P N lo b b'
 | .seq a b,.join _ a' b'=>chkCode P N lo a a'&&chkCode P N lo b b'
 | .cond c t e,.cond c' t' e'=>chkO c c'&&chkCode P N lo t t'&&chkCode P N lo e e'
 | .block id b,.block id' b'=>decide (id=id')&&chkCode P N lo b b'
 | .loop b,.loop _ b'=>chkCode P N lo b b'
 | .scope b,.scope b'=>chkCode P N lo b b'
 | .exit id,.exit id'=>decide (id=id')
 | .ret,.ret=>true
 | .rangeFunc g ps a b,.rfun g' ps' a' b'=>chkO g g'&&decide (ps.toList=ps')&&decide (lo=0)&&(ps'.all fun p=>decide (p<N))&&chkCode P N lo a a'&&chkCode P N lo b b'&&a'.flat&&b'.flat
 | _,_=>false
def lift (γ0:Gh) (w0:World) (H0:Heap) (F:Fx) (KP:AV→Heap→Prop) (Q:AExit→Env→Heap→Prop):Exit→Act→World→Prop
 | .normal,a,w=>∃ γ H ρ,SInv γ0 w0 H0 F γ w H ρ a∧Q .normal ρ H
 | .exit id,a,w=>∃ γ H ρ,SInv γ0 w0 H0 F γ w H ρ a∧Q (.exit id) ρ H
 | .ret,a,w=>∃ γ H ρ,SInv γ0 w0 H0 F γ w H ρ a∧Q .ret ρ H
 | .panic ch,a,w=>PanOk γ0 w0 H0 F KP ch a w
 | .goto _,_,_=>False
 | .outgrown,_,_=>False
theorem keep_rel {γ:Gh} {w:World} {ρ:Env} {tmps:Array Value} (h:EnvRel γ w ρ tmps) (l:List Nat):EnvRel γ w (ρ.keep l) tmps:=by
 refine⟨h.tab,fun n=>?_⟩
 unfold Env.keep
 induction l with
 | nil=>exact .any _
 | cons x l ih =>
  simp only[List.map_cons,envOf]
  split
  ·rename_i e;subst e;exact h.rep n
  ·exact ih
theorem least {p:Nat→Prop} (h:∃ n,p n):∃ n,p n∧∀ m,p m→n≤m:=by
 obtain⟨n,hn⟩:=h
 induction n using Nat.strongRecOn with
 | _ n ih =>
  by_cases hx:∃ m,m<n∧p m
  ·obtain⟨m,hm,hp⟩:=hx;exact ih m hm hp
  ·exact⟨n,hn,fun m hm=>Nat.le_of_not_lt fun hlt=>hx ⟨m,hlt,hm⟩⟩
theorem wp_loop_n {P:Program} {Q:Exit→Act→World→Prop} {c:Code} (J:Nat→Act→World→Prop) {a:Act} {w:World} {n:Nat} (h0:J n a w)
  (round:∀ n a w,J n a w→c.wp P (Exit.then (fun a' w'=>∃ m,m<n∧J m a' w') Q) a w):(Code.loop c).wp P Q a w:=by
 classical
 refine wp_loop (fun a w=>∃ n,J n a w) (fun a w=>if h:∃ n,J n a w then Classical.choose (least h) else 0) ⟨n,h0⟩ (fun a w hI=>?_)
 have hs:=Classical.choose_spec (least hI)
 refine wp_mono (round _ a w hs.1) (fun e a' w' hq=>?_)
 cases e<;>first|exact hq|skip
 obtain⟨m,hm,hJ⟩:=hq
 refine⟨⟨m,hJ⟩,?_⟩
 have hI':∃ n,J n a' w':=⟨m,hJ⟩
 have hle:=(Classical.choose_spec (least hI')).2 m hJ
 simp only[hI,hI',dif_pos]
 omega
theorem chkOp_nodefer {P:Program} {o:Oper} {x:AOp} (h:chkOp P o x=true) (c:Call):o.op≠.defer c:=by
 intro e
 cases x<;>simp[chkOp,e] at h
theorem wpOps_in {P:Program} {l:Nat} {ops:Array Oper} {Q:Exit→Act→World→Prop} (hno:∀ a w,¬ Q .outgrown a w) (hnd:∀(i:Nat) (o:Oper),ops[i]?=some o→∀ c,o.op≠.defer c):∀(idx:List Nat) (a:Act) (w:World),wpOps P ops Q idx a w→wpOpsIn (Fence.wide.inRound l) 0 P ops Q idx a w
 | [],a,w,h=>h
 | i::rest,a,w,h=>by
  simp only[wpOps] at h
  simp only[wpOpsIn]
  have ih:=wpOps_in (P:=P) (l:=l) hno hnd rest
  cases ho:ops[i]? with
  | none=>simp only[ho] at h ⊢;exact ih a w h
  | some o =>
   simp only[ho] at h ⊢
   by_cases hw:Region.wanted o (yielded ops a.tmps)=true
   ·simp only[hw,if_true] at h ⊢
    rcases h with h|⟨_,a0,w0,h0⟩
    ·refine⟨fun _ _=>trivial,?_⟩
     rw[Oper.semAt_eq _ _ _ (hnd i o ho)]
     unfold Oper.wp at h
     generalize (execOp a.eval o).run P w=r at h ⊢
     cases r with
     | ok n w' =>
      cases n<;>first|exact ih _ _ h|exact h.elim|skip
      ·rename_i f args
       refine⟨fun h=>by simp[Fence.wide] at h,?_⟩
       have h2:CallsIn Fence.wide (0-1) P f args w' _:=callsIn_wide.2 h
       refine h2.mono fun e w2 hq=>?_
       cases e with
       | returned v=>exact ih _ _ hq
       | panicked ch=>exact hq
       | outgrown=>obtain⟨a0,w0,h0⟩:=hq;exact(hno _ _ h0).elim
      ·rename_i row args
       refine⟨fun h=>by simp[Fence.wide] at h,fun c cs hroom=>?_⟩
       obtain⟨v,w2,hq,hs⟩:=h c cs
       exact⟨v,w2,ih _ _ hq,stepsIn_wide.2 hs⟩
     | halt x w'=>cases x<;>first|exact h|exact h.elim
    ·exact(hno _ _ h0).elim
   ·simp only[hw,if_false,Al7] at h ⊢
    exact⟨fun _ _=>trivial,ih _ _ h⟩
theorem draw_nodefer {P:Program} {N lo:Nat} {ops:Array Oper} {c:List Nat} {items:List AItem} (h:chkDraw P N lo ops c items=true):∀(i:Nat) (o:Oper),ops[i]?=some o→∀ c,o.op≠.defer c:=by
 simp only[chkDraw,Al0,zp] at h
 obtain⟨⟨⟨⟨⟨⟨hm,hl⟩,hlo⟩,hall⟩,hit⟩,hpre⟩,hpok⟩:=h
 intro i o ho
 obtain⟨_,hr2,_⟩:=rows_spec (items:=items) c items 0 hl (fun j x hj=>by simpa using hj)
 have hi:=(yX.1 ho).1
 have hic:i∈c:=by simpa using yx.1 hall i (List.mem_range.2 hi)
 rw[← hr2] at hic
 obtain⟨r,hr,rfl⟩:=List.mem_map.1 hic
 have:=yx.1 hit r hr
 rw[ho] at this
 simp only[chkItem,Al0] at this
 exact chkOp_nodefer this.2
theorem seq_nodefer {P:Program} {N lo:Nat} {ops:Array Oper} {items:List AItem} (h:chkSeq P N lo ops items=true):∀(i:Nat) (o:Oper),ops[i]?=some o→∀ c,o.op≠.defer c:=by
 simp only[chkSeq,Al0,zp] at h
 obtain⟨hl,hall⟩:=h
 intro i o ho
 obtain⟨hi,hio⟩:=yX.1 ho
 have hz:(ops.toList.zip items)[i]?=some (ops[i],items[i]):=by
  rw[List.getElem?_zip_eq_some]
  exact⟨by simp[hi],by simp[← hl,hi]⟩
 have:=yx.1 hall _ (List.mem_of_getElem? hz)
 rw[hio] at this
 simp only[chkItem,Al0] at this
 exact chkOp_nodefer this.2
theorem round_sound {P:Program} {γ0:Gh} {w0:World} {H0:Heap} {F:Fx} {l:Nat} {KP:AV→Heap→Prop} (hKP:Wide KP):∀(ac:AC) (code:Code) (Q:AExit→Env→Heap→Prop),ac.flat=true→chkCode P F.N F.lo code ac=true →
  ∀(γ:Gh) (w:World) (H:Heap) (ρ:Env) (a:Act),SInv γ0 w0 H0 F γ w H ρ a→awp P KP ac Q ρ H→code.wpIn (Fence.wide.inRound l) 0 P (lift γ0 w0 H0 F KP Q) a w:=by
 intro ac
 induction ac with
 | skip =>
  intro code Q hf hc γ w H ρ a hinv hs
  cases code<;>simp only[chkCode] at hc<;>try (cases hc;done)
  ·exact wpIn_skip ⟨γ,H,ρ,hinv,hs⟩
  ·exact wpIn_label ⟨γ,H,ρ,hinv,hs⟩
 | reg c items =>
  intro code Q hf hc γ w H ρ a hinv hs
  cases code<;>simp only[chkCode] at hc<;>try (cases hc;done)
  rename_i id ops draw
  have hno:∀ a w,¬ lift γ0 w0 H0 F KP Q .outgrown a w:=fun _ _ h=>h
  have hQ:∀ ch a w,PanOk γ0 w0 H0 F KP ch a w→lift γ0 w0 H0 F KP Q (.panic ch) a w:=fun _ _ _ h=>h
  have hK:∀ γ w H ρ a,SInv γ0 w0 H0 F γ w H ρ a→Q .normal ρ H→lift γ0 w0 H0 F KP Q .normal a w:=fun γ w H ρ a h1 h2=>⟨γ,H,ρ,h1,h2⟩
  cases draw with
  | true =>
   simp only[if_true] at hc
   exact wpIn_region_draw fun t=>wpOps_in hno (draw_nodefer hc) _ _ _ (draw_ops hKP hQ hK hc hinv hs t)
  | false =>
   simp only[Al7,if_false] at hc
   exact wpIn_region (wpOps_in hno (seq_nodefer hc) _ _ _ (seq_ops hQ hK hc hinv hs))
 | seq x y ihx ihy =>
  intro code Q hf hc γ w H ρ a hinv hs
  cases code<;>simp only[chkCode] at hc<;>try (cases hc;done)
  simp only[AC.flat,Al0] at hc hf
  refine wpIn_seq (wpIn_mono (ihx _ _ hf.1 hc.1 γ w H ρ a hinv hs) fun e a' w' he=>?_)
  cases e with
  | normal=>obtain⟨γ',H',ρ',h1,h2⟩:=he;exact ihy _ Q hf.2 hc.2 γ' w' H' ρ' a' h1 h2
  | exit id=>exact he
  | ret=>exact he
  | panic ch=>exact he
  | goto l=>exact he
  | outgrown=>exact he
 | join keep x y ihx ihy=>intro code Q hf;simp[AC.flat] at hf
 | loop keep b ih=>intro code Q hf;simp[AC.flat] at hf
 | scope b ih=>intro code Q hf;simp[AC.flat] at hf
 | rfun g ps asg body iha ihb=>intro code Q hf;simp[AC.flat] at hf
 | cond c t e iht ihe =>
  intro code Q hf hc γ w H ρ a hinv hs
  cases code<;>simp only[chkCode] at hc<;>try (cases hc;done)
  simp only[AC.flat,Al0] at hc hf
  have hr:=chkO_rep hc.1.1 hinv.env
  simp only[awp,condK] at hs
  cases hx:c.ev ρ<;>simp only[hx] at hs hr<;>try (exact False.elim hs)
  ·rename_i b
   generalize hv:a.eval _=v at hr
   cases hr
   cases b with
   | true=>exact wpIn_cond_true hv (iht _ Q hf.1 hc.1.2 γ w H ρ a hinv hs)
   | false=>exact wpIn_cond_false hv (ihe _ Q hf.2 hc.2 γ w H ρ a hinv hs)
  ·rename_i p
   generalize hv:a.eval _=v at hr
   cases hr with
   | ubool _ b hb =>
    cases b with
    | true=>exact wpIn_cond_true hv (iht _ Q hf.1 hc.1.2 γ w H ρ a hinv (hs.1 (hb rfl)))
    | false=>exact wpIn_cond_false hv (ihe _ Q hf.2 hc.2 γ w H ρ a hinv hs.2)
 | block id b ih =>
  intro code Q hf hc γ w H ρ a hinv hs
  cases code<;>simp only[chkCode] at hc<;>try (cases hc;done)
  simp only[AC.flat,Al0,zp] at hc hf
  obtain⟨rfl,hc⟩:=hc
  rename_i id0 b0
  refine wpIn_block (wpIn_mono (ih _ _ hf hc γ w H ρ a hinv hs) fun e a' w' he=>?_)
  cases e with
  | normal=>exact he
  | exit i =>
   obtain⟨γ',H',ρ',h1,h2⟩:=he
   simp only[inBlockQ] at h2
   simp only[Exit.inBlock]
   by_cases hid:i=id0
   ·simp only[hid,if_true] at h2 ⊢;exact⟨γ',H',ρ',h1,h2⟩
   ·simp only[hid,if_false] at h2 ⊢;exact⟨γ',H',ρ',h1,h2⟩
  | ret=>exact he
  | panic ch=>exact he
  | goto l=>exact he
  | outgrown=>exact he
 | exit id =>
  intro code Q hf hc γ w H ρ a hinv hs
  cases code<;>simp only[chkCode] at hc<;>try (cases hc;done)
  simp only[zp] at hc
  subst hc
  exact wpIn_exit ⟨γ,H,ρ,hinv,hs⟩
 | ret =>
  intro code Q hf hc γ w H ρ a hinv hs
  cases code<;>simp only[chkCode] at hc<;>try (cases hc;done)
  exact wpIn_ret ⟨γ,H,ρ,hinv,hs⟩
theorem cells_of_cell {w:World} {b k:Nat} {v:Value} (h:w.cell? ⟨b,k,none⟩=some v):∃(arr:Array Value) (E:TypeId) (fr:Nat×Nat),w.heap[b]?=some (.cells arr E fr):=by
 unfold World.cell? at h
 split at h
 ·rename_i c E fr hb;exact⟨c,E,fr,hb⟩
 ·cases h
theorem heap_alloc_lt (w:World) (o:Obj) {b:Nat} (h:b<w.heap.size):(w.alloc o).heap[b]?=w.heap[b]?:=RowKit.Below.heap_alloc w o b h
theorem SInv.reext {γ0:Gh} {w0:World} {H0:Heap} {F:Fx} {γ γ':Gh} {w w':World} {H:Heap} {ρ:Env} {a:Act} (h:SInv γ0 w0 H0 F γ w H ρ a) (hext:Ext (fun _=>False) γ w γ' w'):SInv γ0 w0 H0 F γ' w' H ρ a :=
 ⟨h.ext.trans hext (fun _ _ f=>f.elim),h.st.kept hext (fun _ _ _ f=>f),h.keys,h.env.mono hext.mono,h.sz,h.fx,h.df.step (hext.weaken fun _ f=>f.elim) (NewKeys.refl _ _)⟩
theorem ext_put (γ:Gh) {w:World} {l:Nat} {o o':Obj} (h:w.heap[l]?=some o) (hc:∀ arr E fr,o≠.cells arr E fr) (hc':∀ arr E fr,o'≠.cells arr E fr):Ext (fun b=>b=l) γ w γ (w.putObj l o'):=by
 have hne:∀ b,b≠l→(w.putObj l o').heap[b]?=w.heap[b]?:=fun b hb=>World.putObj_heap_other hb
 have hcell:∀ b o v,w.cell? ⟨b,o,none⟩=some v→b≠l:=fun b k v hv e=>by
  subst e
  obtain⟨arr,E,fr,hb⟩:=cells_of_cell hv
  rw[h] at hb
  exact hc _ _ _ (Option.some.inj hb)
 refine⟨⟨by simp,fun b k v hv hp=>⟨hp,?_⟩,fun b arr E fr hb=>⟨arr,?_,rfl⟩⟩,rfl,rfl,fun a ha=>?_,fun b _ hb=>⟨rfl,hne b hb⟩⟩
 ·simp only[World.cell?,hne b (hcell b k v hv)];exact hv
 ·rw[hne b (fun e=>by subst e;rw[h] at hb;exact hc _ _ _ (Option.some.inj hb))];exact hb
 ·by_cases e:a.block=l
  ·simp only[World.frozen?,e,h,World.putObj_heap_same (yX.1 h).1]
   cases o<;>cases o'<;>first|rfl|exact absurd rfl (hc _ _ _)|exact absurd rfl (hc' _ _ _)
  ·simp only[World.frozen?,hne _ e]
theorem ext_lay (γ:Gh) (w:World) (o:Obj):Ext (fun _=>False) γ w γ (w.alloc o):=by
 have hlt:∀ b,b<w.heap.size→(w.alloc o).heap[b]?=w.heap[b]?:=fun b hb=>heap_alloc_lt w o hb
 have hl:∀ b x,w.heap[b]?=some x→b<w.heap.size:=fun b x h=>(yX.1 h).1
 refine⟨⟨by simp,fun b k v hv hp=>⟨hp,?_⟩,fun b arr E fr hb=>⟨arr,(hlt b (hl b _ hb)).trans hb,rfl⟩⟩,rfl,rfl,fun a ha=>?_,fun b hb _=>⟨rfl,hlt b hb⟩⟩
 ·obtain⟨arr,E,fr,hb⟩:=cells_of_cell hv
  simp only[World.cell?,hlt b (hl b _ hb)];exact hv
 ·simp only[World.frozen?,hlt _ ha]
theorem setPs_rel {γ:Gh} {w:World} {N:Nat}:∀(ps:List Nat) (x:List AV) (vs:List Value) (ρ:Env) (tmps:Array Value),(∀ p∈ps,p<N)→x.length=ps.length→EnvRel γ w ρ tmps→tmps.size=N→RepAll γ w x vs →
  EnvRel γ w (setPs ps x ρ) ((ps.zip vs).foldl (fun t (p,v)=>t.setIfInBounds p v) tmps)∧((ps.zip vs).foldl (fun t (p,v)=>t.setIfInBounds p v) tmps).size=N
 | [],[],[],ρ,tmps,_,_,h,hs,_=>⟨h,hs⟩
 | [],[],_::_,_,_,_,_,_,_,hr=>absurd hr.1 (by simp)
 | [],_::_,_,_,_,_,hl,_,_,_=>absurd hl (by simp)
 | _::_,[],_,_,_,_,hl,_,_,_=>absurd hl (by simp)
 | _::_,_::_,[],_,_,_,_,_,_,hr=>absurd hr.1 (by simp)
 | p::ps,c::x,v::vs,ρ,tmps,hp,hl,h,hs,hr=>by
  refine setPs_rel ps x vs _ _ (fun q hq=>hp q (Za _ hq)) (by simpa using hl) ?_ (by simpa using hs) ⟨by simpa using hr.1,fun i c v hc hv=>hr.2 (i+1) c v (by simpa using hc) (by simpa using hv)⟩
  exact env_set (d:=some p) h hs (fun y hy=>by cases hy;exact hp p (yI ..)) (hr.2 0 c v rfl rfl) { tmps:=tmps,defers:=[] } rfl
theorem rfun_sound {P:Program} {γ0:Gh} {w0:World} {H0:Heap} {F:Fx} {KP:AV→Heap→Prop} (hrf:F.rf=true) (hkp:F.keep=[]) (hba:F.base≤w0.heap.size) {g:Opd} {ps:List Nat} {asg body:AC} {g':Operand} {ps':Array Tmp} {casg cbody:Code}
  {Q:AExit→Env→Heap→Prop} (hc:chkCode P F.N F.lo (.rangeFunc g' ps' casg cbody) (.rfun g ps asg body)=true) {γ:Gh} {w:World} {H:Heap} {ρ:Env} {a:Act} (hinv:SInv γ0 w0 H0 F γ w H ρ a)
  (hs:awp P KP (.rfun g ps asg body) Q ρ H):(Code.rangeFunc g' ps' casg cbody).wp P (lift γ0 w0 H0 F KP Q) a w:=by
 simp only[chkCode,Al0,zp] at hc
 obtain⟨⟨⟨⟨⟨⟨⟨hg,rfl⟩,hlo⟩,hps⟩,hca⟩,hcb⟩,hfa⟩,hfb⟩:=hc
 rw[hlo] at hca hcb
 have hps':∀ p∈ps'.toList,p<F.N:=fun p hp=>of_decide_eq_true (yx.1 hps p hp)
 obtain⟨f,caps,X,hgv,hcallable,hseq,hX,I,h0,hround,hend⟩:=hs
 have hrg:=chkO_rep hg hinv.env
 rw[hgv] at hrg
 generalize hev:a.eval g'=gv at hrg
 cases hrg with
 | clo _ _ _ vs0 us hl hl' hr hr' =>
  obtain rfl:vs0=[]:=List.eq_nil_of_length_eq_zero (by simpa using hl.symm)
  have hcaps:RepAll γ w caps us:=⟨hl',hr'⟩
  obtain⟨bs,hbs,hnd,_,hbk0⟩:=hinv.df.eq
  have hbk:∀ b∈bs,H b=none∧w.heap[b]?=some (.deferred (some [])):=fun b hb=>(hbk0 b hb).2
  obtain ⟨fb, hfb', hfname⟩ : ∃ fn : Func, P.funcs[f]? = some fn ∧ fn.body.isSome = true ∧ (fn.name == "runtime.NumGoroutine") = false := by
   unfold Program.callable at hcallable
   cases hfn':P.funcs[f]? with
   | none=>simp[hfn'] at hcallable
   | some fn' =>
    simp only[hfn',Al0,bne_iff_ne,ne_eq] at hcallable
    exact⟨fn',rfl,hcallable.1,by simpa using hcallable.2⟩
  have eg:∀ args w,(callFunc f args).run P w=.ok (.enter f args) w:=fun args w=>by
   obtain⟨bd,hb2⟩:=ZF.1 hfname.1
   have h2:=hfname.2
   simp only[beq_eq_false_iff_ne,ne_eq] at h2
   simp[callFunc,hfb',h2,hb2]
  refine(wpIn_wide (n:=0)).1 (wpIn_rangeFunc fun fn hfn=>?_)
  obtain⟨rec,hrec⟩:∃ rec:LoopState→Option Code→Loop,rec=fun st pe=>{ state:=st,pending:=pe,fn,tmps:=a.tmps,params:=ps',assign:=casg,body:=cbody,defers:=w.heap.size }:=⟨_,rfl⟩
  obtain⟨W1,hW1⟩:∃ W1,(w.alloc (.deferred (some []))).alloc (.loop (rec .ready none))=W1:=⟨_,rfl⟩
  have hlt:w.heap.size<(w.alloc (.deferred (some []))).heap.size:=by simp
  have hL1:W1.heap[w.heap.size+1]?=some (.loop (rec .ready none)):=by
   rw[← hW1];have:=World.alloc_heap_new (w.alloc (.deferred (some []))) (.loop (rec .ready none));rwa [World.size_alloc] at this
  have hK1:W1.heap[w.heap.size]?=some (.deferred (some [])):=by
   rw[← hW1];exact(RowKit.Below.heap_alloc _ _ _ (by simp)).trans (World.alloc_heap_new w _)
  have hE1:Ext (fun _=>False) γ w γ W1:=by rw[← hW1];exact(ext_lay γ w _).trans (ext_lay γ _ _) (fun _ _ f=>f)
  have hlw:∀ b o,w.heap[b]?=some o→b<w.heap.size:=fun b o h=>(yX.1 h).1
  have hHn:∀ b,w.heap.size≤b→H b=none:=fun b hb=>by
   cases hx:H b with
   | none=>rfl
   | some o=>have:=(hinv.st b o hx).lt;omega
  have hw0:w0.heap.size≤w.heap.size:=hinv.ext.mono.size
  obtain⟨K0,hK0⟩:∃ K0:List (Nat×Obj),K0=(w.heap.size::bs).map fun b=>(b,Obj.deferred (some [])):=⟨_,rfl⟩
  have hK0l:∀ x∈K0,x.1≠w.heap.size+1:=fun x hx e=>by
   rw[hK0] at hx
   obtain⟨b,hb,rfl⟩:=List.mem_map.1 hx
   rcases List.mem_cons.1 hb with rfl|hb
   ·simp at e
   ·have:=hlw _ _ (hbk b hb).2;simp at e;omega
  obtain⟨Fk,hFk⟩:∃ Fk:Fx,Fk=⟨F.N,F.lo,F.T,[],false,(w.heap.size+1,.loop (rec .ready none))::K0,0⟩:=⟨_,rfl⟩
  have hstart:SInv γ0 w0 H0 Fk γ W1 H ρ { a with defers:=[] }:=by
   have h1:=hinv.reext hE1
   refine⟨h1.ext,h1.st,h1.keys,h1.env,by rw[hFk];exact h1.sz,by rw[hFk];exact h1.fx,⟨⟨[],by rw[hFk];rfl,List.nodup_nil,fun _=>rfl,fun b hb=>by cases hb⟩,fun x hx=>?_⟩⟩
   rw[hFk] at hx
   rcases List.mem_cons.1 hx with rfl|hx
   ·exact⟨hHn _ (by simp),hL1⟩
   ·rw[hK0] at hx
    obtain⟨b,hb,rfl⟩:=List.mem_map.1 hx
    rcases List.mem_cons.1 hb with rfl|hb
    ·exact⟨hHn _ (Al4 _),hK1⟩
    ·exact⟨(hbk b hb).1,((hE1.frame b (hlw _ _ (hbk b hb).2) (fun f=>f)).2).trans (hbk b hb).2⟩
  refine⟨w.heap.size+1,[coll w.heap.size],W1,{ target:=.fn (.func f) us.toArray,args:=#[.func (.yield (w.heap.size+1)) #[] #[]] },W1,f,
   #[.func (.yield (w.heap.size+1)) #[] #[]]++us.toArray,W1,?_,?_,fun _ _=>trivial,?_,fun h=>by simp[Fence.wide] at h,?_⟩
  ·rw[← hW1,hrec];exact run_enterLoop_outer _ _ _ _ _
  ·simp only[resolve,hev]
   simp[go_sem]
  ·simp[invoke,go_sem,eg]
  refine(hseq (w.heap.size+1) (fun k γ' w'=>∃ H',SInv γ0 w0 H0 Fk γ' w' H' ρ { a with defers:=[] }∧I k H')
   (fun k γ1 w1 γ2 w2 ⟨H',h1,h2⟩ he=>⟨H',h1.reext he,h2⟩) (fun k x γ1 w1 vs hx ⟨H1,hi1,hI1⟩ hrep=>?_) γ W1 us (hinv.env.tab.mono hE1.mono) (hcaps.mono hE1.mono) ⟨H,hstart,h0⟩).mono ?_
  ·-- one round
   have hk1:=hi1.df.keep (w.heap.size+1,.loop (rec .ready none)) (by rw[hFk];exact yI ..)
   have hxl:x.length=ps'.toList.length:=hX x (List.mem_of_getElem? hx)
   have hy:=run_yield (P:=P) (args:=vs.toArray) hk1.2 (by rw[hrec];simp[← hrep.1,hxl])
   rw[hrec] at hy
   refine⟨fn,_,casg,cbody,hy,roundIn_of_wpIn trivial ?_⟩
   obtain⟨hpe,hpsz⟩:=setPs_rel ps'.toList x vs ρ a.tmps hps' hxl hi1.env (by have:=hi1.sz;rw[hFk] at this;exact this) hrep
   have hfold:((ps'.zip vs.toArray).foldl (fun t (p,v)=>t.setIfInBounds p v) a.tmps)=((ps'.toList.zip vs).foldl (fun t (p,v)=>t.setIfInBounds p v) a.tmps):=by
    rw[← Array.foldl_toList];simp
   rw[hfold]
   obtain⟨Fr,hFr⟩:∃ Fr:LoopState→Fx,Fr=fun st=>⟨F.N,0,#[],[],false,(w.heap.size+1,.loop (rec st none))::K0,0⟩:=⟨_,rfl⟩
   have hA:SInv γ1 w1 H1 (Fr .ready) γ1 w1 H1 (setPs ps'.toList x ρ) { tmps:=(ps'.toList.zip vs).foldl (fun t (p,v)=>t.setIfInBounds p v) a.tmps,defers:=[] } :=
    ⟨.refl _ _ _,hi1.st,NewKeys.refl _ _,hpe,by rw[hFr];exact hpsz,fun n hn=>by rw[hFr] at hn;exact absurd hn (Nat.not_lt_zero n),⟨⟨[],by rw[hFr];rfl,List.nodup_nil,fun _=>rfl,fun b hb=>by cases hb⟩,fun x hx=>hi1.df.keep x (by rw[hFr] at hx;rw[hFk];exact hx)⟩⟩
   refine wpIn_mono (round_sound (l:=w.heap.size+1) (KP:=fun _ _=>False) (fun _ _ _ _ _ h=>h) asg casg _ hfa (by rw[hFr];exact hca) γ1 w1 H1 _ _ hA (hround k x H1 hx hI1)) fun e a2 w2 he=>?_
   cases e with
   | exit id=>obtain⟨_,_,_,_,h⟩:=he;exact h.elim
   | ret=>obtain⟨_,_,_,_,h⟩:=he;exact h.elim
   | goto l=>exact he.elim
   | outgrown=>exact he.elim
   | panic ch=>obtain⟨_,_,_,_,_,_,_,_,_,hf,_⟩:=he;exact hf.elim
   | normal =>
    obtain⟨γ2,H2,ρ2,hi2,hb2⟩:=he
    have hk2:=hi2.df.keep (w.heap.size+1,.loop (rec .ready none)) (by rw[hFr];exact yI ..)
    obtain⟨w3,hw3⟩:∃ w3,w2.putObj (w.heap.size+1) (.loop (rec .busy none))=w3:=⟨_,rfl⟩
    have hE3:Ext (fun b=>b=w.heap.size+1) γ2 w2 γ2 w3:=by rw[← hw3];exact ext_put γ2 hk2.2 (fun _ _ _ h=>by cases h) (fun _ _ _ h=>by cases h)
    have hlt2:=(yX.1 hk2.2).1
    refine⟨w3,by rw[← hw3];have:=run_beginRound (P:=P) hk2.2 (by rw[hrec]);rw[hrec] at this ⊢;exact this,?_⟩
    have hB:SInv γ2 w3 H2 (Fr .busy) γ2 w3 H2 ρ2 a2:=by
     refine⟨.refl _ _ _,hi2.st.kept hE3 (fun b o hb e=>by subst e;rw[hk2.1] at hb;cases hb),NewKeys.refl _ _,hi2.env.mono hE3.mono,by have:=hi2.sz;rw[hFr] at this ⊢;exact this,
      fun n hn=>by rw[hFr] at hn;exact absurd hn (Nat.not_lt_zero n),⟨⟨[],by have:=hi2.df.plain (by rw[hFr]);rw[hFr] at this ⊢;exact this,List.nodup_nil,fun _=>rfl,fun b hb=>by cases hb⟩,fun x hx=>?_⟩⟩
     rw[hFr] at hx
     rcases List.mem_cons.1 hx with rfl|hx
     ·exact⟨hk2.1,by rw[← hw3];exact World.putObj_heap_same hlt2⟩
     ·have h5:=hi2.df.keep x (by rw[hFr];exact Za _ hx)
      exact⟨h5.1,by rw[← hw3];exact(World.putObj_heap_other (hK0l x hx)).trans h5.2⟩
    refine wpIn_mono (round_sound (l:=w.heap.size+1) (KP:=fun _ _=>False) (fun _ _ _ _ _ h=>h) body cbody _ hfb (by rw[hFr];exact hcb) γ2 w3 H2 _ _ hB hb2) fun e a4 w4 he=>?_
    cases e with
    | exit id=>obtain⟨_,_,_,_,h⟩:=he;exact h.elim
    | ret=>obtain⟨_,_,_,_,h⟩:=he;exact h.elim
    | goto l=>exact he.elim
    | outgrown=>exact he.elim
    | panic ch=>obtain⟨_,_,_,_,_,_,_,_,_,hf,_⟩:=he;exact hf.elim
    | normal =>
     obtain⟨γ4,H4,ρ4,hi4,hI4⟩:=he
     have hk4:=hi4.df.keep (w.heap.size+1,.loop (rec .busy none)) (by rw[hFr];exact yI ..)
     obtain⟨w5,hw5⟩:∃ w5,w4.putObj (w.heap.size+1) (.loop (rec .ready none))=w5:=⟨_,rfl⟩
     have hE5:Ext (fun b=>b=w.heap.size+1) γ4 w4 γ4 w5:=by rw[← hw5];exact ext_put γ4 hk4.2 (fun _ _ _ h=>by cases h) (fun _ _ _ h=>by cases h)
     have hEt:Ext (fun b=>keysOf H1 b∨b=w.heap.size+1) γ1 w1 γ4 w5:=by
      refine(((hi2.ext.weaken (F':=fun b=>keysOf H1 b∨b=w.heap.size+1) fun b h=>.inl h).trans hE3 (fun b _ h=>.inr h)).trans hi4.ext (fun b hb h=>?_)).trans hE5 (fun b _ h=>.inr h)
      rcases hi2.keys b h with h1|h1
      ·exact .inl h1
      ·omega
     have hs12:w1.heap.size≤w3.heap.size:=Nat.le_trans hi2.ext.mono.size hE3.mono.size
     refine⟨.bool true,w5,by rw[← hw5];have:=run_endRound (P:=P) none hk4.2;rw[hrec] at this ⊢;exact this,γ4,hEt.mono,rfl,H4,⟨hi1.ext.trans hEt (fun b hb h=>?_),hi4.st.kept hE5 (fun b o hb e=>by subst e;rw[hk4.1] at hb;cases hb),?_,hi1.env.mono hEt.mono,hi1.sz,hi1.fx,?_⟩,hI4⟩
     ·rcases h with h|h
      ·rcases hi1.keys b h with h1|h1
       ·exact h1
       ·omega
      ·omega
     ·exact newKeys_trans hi1.keys hi1.ext.mono.size (newKeys_trans hi2.keys hs12 hi4.keys)
     ·refine⟨⟨[],by rw[hFk];rfl,List.nodup_nil,fun _=>rfl,fun b hb=>by cases hb⟩,fun x hx=>?_⟩
      rw[hFk] at hx
      rcases List.mem_cons.1 hx with rfl|hx
      ·exact⟨hk4.1,by rw[← hw5];exact World.putObj_heap_same (yX.1 hk4.2).1⟩
      ·have h5:=hi4.df.keep x (by rw[hFr];exact Za _ hx)
       exact⟨h5.1,by rw[← hw5];exact(World.putObj_heap_other (hK0l x hx)).trans h5.2⟩
  ·-- behind the iterator
   rintro e w2 ⟨γ2,v,rfl,H2,hi2,hI2⟩
   have hk2:=hi2.df.keep (w.heap.size+1,.loop (rec .ready none)) (by rw[hFk];exact yI ..)
   obtain⟨w3,hw3⟩:∃ w3,w2.putObj (w.heap.size+1) (.loop (rec .exhausted none))=w3:=⟨_,rfl⟩
   have hE3:Ext (fun b=>b=w.heap.size+1) γ2 w2 γ2 w3:=by rw[← hw3];exact ext_put γ2 hk2.2 (fun _ _ _ h=>by cases h) (fun _ _ _ h=>by cases h)
   refine⟨none,w3,by rw[← hw3];have:=run_endLoop (P:=P) hk2.2 (by rw[hrec];simp);rw[hrec] at this ⊢;exact this,γ2,H2,ρ,⟨hi2.ext.trans hE3 (fun b hb h=>by omega),hi2.st.kept hE3 (fun b o hb e=>by subst e;rw[hk2.1] at hb;cases hb),hi2.keys,hi2.env.mono hE3.mono,by have:=hi2.sz;rw[hFk] at this;exact this,by have:=hi2.fx;rw[hFk] at this;exact this,?_⟩,hend H2 hI2⟩
   have hkk:∀ b∈w.heap.size::bs,H2 b=none∧w3.heap[b]?=some (.deferred (some [])):=fun b hb=>by
    have hm:((b,Obj.deferred (some [])):Nat×Obj)∈K0:=by rw[hK0];exact List.mem_map.2 ⟨b,hb,rfl⟩
    have h5:=hi2.df.keep _ (by rw[hFk];exact Za _ hm)
    exact⟨h5.1,by rw[← hw3];exact(World.putObj_heap_other (hK0l _ hm)).trans h5.2⟩
   refine⟨⟨w.heap.size::bs,by show [coll w.heap.size]++a.defers=_;rw[hbs];rfl,?_,fun(h:F.rf=false)=>(by rw[hrf] at h;cases h),fun b hb=>⟨?_,hkk b hb⟩⟩,fun x hx=>by rw[hkp] at hx;cases hx⟩
   ·exact List.nodup_cons.2 ⟨fun hm=>by have:=hlw _ _ (hbk _ hm).2;omega,hnd⟩
   ·rcases List.mem_cons.1 hb with rfl|hb
    ·omega
    ·exact(hbk0 b hb).1
theorem pl2 {p q:Bool} {X:Prop} (h:(p&&q)=true∨X):(p=true∨X)∧(q=true∨X):=by
 rcases h with h|h
 ·simp only[Al0] at h;exact⟨.inl h.1,.inl h.2⟩
 ·exact⟨.inr h,.inr h⟩
theorem code_sound {P:Program} {γ0:Gh} {w0:World} {H0:Heap} {F:Fx} {KP:AV→Heap→Prop} (hKP:Wide KP):∀(ac:AC) (code:Code) (Q:AExit→Env→Heap→Prop),(ac.plain=true∨(F.rf=true∧F.keep=[]∧F.base≤w0.heap.size))→chkCode P F.N F.lo code ac=true →
  ∀(γ:Gh) (w:World) (H:Heap) (ρ:Env) (a:Act),SInv γ0 w0 H0 F γ w H ρ a→awp P KP ac Q ρ H→code.wp P (lift γ0 w0 H0 F KP Q) a w:=by
 intro ac
 induction ac with
 | skip =>
  intro code Q hp hc γ w H ρ a hinv hs
  cases code<;>simp only[chkCode] at hc<;>try (cases hc;done)
  ·exact wp_skip ⟨γ,H,ρ,hinv,hs⟩
  ·exact wp_label ⟨γ,H,ρ,hinv,hs⟩
 | reg c items =>
  intro code Q hp hc γ w H ρ a hinv hs
  cases code<;>simp only[chkCode] at hc<;>try (cases hc;done)
  rename_i id ops draw
  have hQ:∀ ch a w,PanOk γ0 w0 H0 F KP ch a w→lift γ0 w0 H0 F KP Q (.panic ch) a w:=fun _ _ _ h=>h
  have hK:∀ γ w H ρ a,SInv γ0 w0 H0 F γ w H ρ a→Q .normal ρ H→lift γ0 w0 H0 F KP Q .normal a w:=fun γ w H ρ a h1 h2=>⟨γ,H,ρ,h1,h2⟩
  cases draw with
  | true=>simp only[if_true] at hc;exact draw_sound hKP hQ hK hc hinv hs
  | false=>simp only[Al7,if_false] at hc;exact seq_sound hQ hK hc hinv hs
 | seq x y ihx ihy =>
  intro code Q hp hc γ w H ρ a hinv hs
  cases code<;>simp only[chkCode] at hc<;>try (cases hc;done)
  simp only[Al0] at hc
  refine wp_seq (wp_mono (ihx _ _ (pl2 hp).1 hc.1 γ w H ρ a hinv hs) fun e a' w' he=>?_)
  cases e with
  | normal=>obtain⟨γ',H',ρ',h1,h2⟩:=he;exact ihy _ Q (pl2 hp).2 hc.2 γ' w' H' ρ' a' h1 h2
  | exit id=>exact he
  | ret=>exact he
  | panic ch=>exact he
  | goto l=>exact he
  | outgrown=>exact he
 | join keep x y ihx ihy =>
  intro code Q hp hc γ w H ρ a hinv hs
  cases code<;>simp only[chkCode] at hc<;>try (cases hc;done)
  simp only[Al0] at hc
  obtain⟨J,h0,hJ⟩:=hs
  refine wp_seq (wp_mono (ihx _ _ (pl2 hp).1 hc.1 γ w H ρ a hinv h0) fun e a' w' he=>?_)
  cases e with
  | normal=>obtain⟨γ',H',ρ',h1,h2⟩:=he;exact ihy _ Q (pl2 hp).2 hc.2 γ' w' H' (ρ'.keep keep) a' ⟨h1.ext,h1.st,h1.keys,keep_rel h1.env keep,h1.sz,h1.fx,h1.df⟩ (hJ _ _ h2)
  | exit id=>exact he
  | ret=>exact he
  | panic ch=>exact he
  | goto l=>exact he
  | outgrown=>exact he
 | cond c t e iht ihe =>
  intro code Q hp hc γ w H ρ a hinv hs
  cases code<;>simp only[chkCode] at hc<;>try (cases hc;done)
  simp only[Al0] at hc
  have hr:=chkO_rep hc.1.1 hinv.env
  simp only[awp,condK] at hs
  cases hx:c.ev ρ<;>simp only[hx] at hs hr<;>try (exact False.elim hs)
  ·rename_i b
   generalize hv:a.eval _=v at hr
   cases hr
   cases b with
   | true=>exact wp_cond_true hv (iht _ Q (pl2 hp).1 hc.1.2 γ w H ρ a hinv hs)
   | false=>exact wp_cond_false hv (ihe _ Q (pl2 hp).2 hc.2 γ w H ρ a hinv hs)
  ·rename_i p
   generalize hv:a.eval _=v at hr
   cases hr with
   | ubool _ b hb =>
    cases b with
    | true=>exact wp_cond_true hv (iht _ Q (pl2 hp).1 hc.1.2 γ w H ρ a hinv (hs.1 (hb rfl)))
    | false=>exact wp_cond_false hv (ihe _ Q (pl2 hp).2 hc.2 γ w H ρ a hinv hs.2)
 | block id b ih =>
  intro code Q hp hc γ w H ρ a hinv hs
  cases code<;>simp only[chkCode] at hc<;>try (cases hc;done)
  simp only[Al0,zp] at hc
  obtain⟨rfl,hc⟩:=hc
  rename_i id0 b0
  refine wp_block (wp_mono (ih _ _ hp hc γ w H ρ a hinv hs) fun e a' w' he=>?_)
  cases e with
  | normal=>exact he
  | exit i =>
   obtain⟨γ',H',ρ',h1,h2⟩:=he
   simp only[inBlockQ] at h2
   simp only[Exit.inBlock]
   by_cases hid:i=id0
   ·simp only[hid,if_true] at h2 ⊢;exact⟨γ',H',ρ',h1,h2⟩
   ·simp only[hid,if_false] at h2 ⊢;exact⟨γ',H',ρ',h1,h2⟩
  | ret=>exact he
  | panic ch=>exact he
  | goto l=>exact he
  | outgrown=>exact he
 | loop keep b ih =>
  intro code Q hp hc γ w H ρ a hinv hs
  cases code<;>simp only[chkCode] at hc<;>try (cases hc;done)
  obtain⟨I,⟨n,h0⟩,hround⟩:=hs
  refine wp_loop_n (fun n a w=>∃ γ H ρ,SInv γ0 w0 H0 F γ w H ρ a∧I n ρ H) (n:=n) ⟨γ,H,ρ.keep keep,⟨hinv.ext,hinv.st,hinv.keys,keep_rel hinv.env keep,hinv.sz,hinv.fx,hinv.df⟩,h0⟩ (fun n a w ⟨γ,H,ρ,h1,h2⟩=>?_)
  refine wp_mono (ih _ _ hp hc γ w H ρ a h1 (hround n ρ H h2)) fun e a' w' he=>?_
  cases e with
  | normal =>
   obtain⟨γ',H',ρ',h3,m,hm,h4⟩:=he
   exact⟨m,hm,γ',H',ρ'.keep keep,⟨h3.ext,h3.st,h3.keys,keep_rel h3.env keep,h3.sz,h3.fx,h3.df⟩,h4⟩
  | exit id=>exact he
  | ret=>exact he
  | panic ch=>exact he
  | goto l=>exact he
  | outgrown=>exact he
 | scope b ih =>
  intro code Q hp hc γ w H ρ a hinv hs
  cases code<;>simp only[chkCode] at hc<;>try (cases hc;done)
  refine wp_scope_straight (wp_mono (ih _ Q hp hc γ w H ρ a hinv hs) fun e a' w' he=>?_)
  cases e<;>exact he
 | exit id =>
  intro code Q hp hc γ w H ρ a hinv hs
  cases code<;>simp only[chkCode] at hc<;>try (cases hc;done)
  simp only[zp] at hc
  subst hc
  exact wp_exit ⟨γ,H,ρ,hinv,hs⟩
 | ret =>
  intro code Q hp hc γ w H ρ a hinv hs
  cases code<;>simp only[chkCode] at hc<;>try (cases hc;done)
  exact wp_ret ⟨γ,H,ρ,hinv,hs⟩
 | rfun g ps asg body iha ihb =>
  intro code Q hp hc γ w H ρ a hinv hs
  have hrf:=hp.resolve_left (by simp[AC.plain])
  cases code<;>try (simp only[chkCode] at hc;cases hc;done)
  exact rfun_sound hrf.1 hrf.2.1 hrf.2.2 hc hinv hs
inductive ARes where
 | t (n:Nat)
 | c (n sz:Nat) (ag:Bool)
structure AFn where
 N:Nat
 np:Nat
 res:List ARes
 body:AC
def resv (ρ:Env) (H:Heap):ARes→Option AV
 | .t n=>some (ρ n)
 | .c n sz ag=>rev ρ H (.ld sz ag (.t n))
def resvs (ρ:Env) (H:Heap):List ARes→Option (List AV)
 | []=>some []
 | r::rs=>match resv ρ H r,resvs ρ H rs with
  | some v,some vs=>some (v::vs)
  | _,_=>none
def tupOf:List AV→AV
 | [v]=>v
 | vs=>.tup vs
def chkRes (P:Program):List ResultVar→List ARes→Bool
 | [],[]=>true
 | .tmp t::rs,.t n::as=>t==n&&chkRes P rs as
 | .cell a t::rs,.c n sz ag::as=>a==n&&((P.info? t).any fun ti=>decide (ti.size=sz))&&(P.underlying t).isSome&&decide (isAggD (P.underlying t)=ag)&&(ag||decide (sz=1))&&chkRes P rs as
 | _,_=>false
def chkFn (P:Program) (f:FuncId) (af:AFn):Bool :=
 match P.funcs[f]? with
 | some fn=>match fn.body with
  | some code=>decide (fn.ntmps=af.N)&&decide (af.np≤af.N)&&chkRes P fn.results.toList af.res&&chkCode P af.N 0 code af.body
  | none=>false
 | none=>false
def Sub (A B:Heap):Prop:=∀ b o,A b=some o→B b=some o
theorem Sub.refl (A:Heap):Sub A A:=fun _ _ h=>h
structure Low (B A:Heap):Prop where
 keys:∀ b,(B b).isSome=true→(A b).isSome=true
 st:∀ γ w,StateRel γ w A→StateRel γ w B
theorem Low.of_sub {A B:Heap} (h:Sub B A):Low B A:=⟨fun b hb=>by
 cases hx:B b with
 | none=>simp[hx] at hb
 | some o=>simp[h b o hx],fun γ w hs=>hs.sub h⟩
theorem Low.refl (A:Heap):Low A A:=Low.of_sub (Sub.refl A)
theorem Low.trans {A B C:Heap} (h:Low A B) (h':Low B C):Low A C:=⟨fun b hb=>h'.keys b (h.keys b hb),fun γ w hs=>h.st γ w (h'.st γ w hs)⟩
theorem Low.upd {A B:Heap} (h:Low B A) {b:Nat} {o:AObj} (hb:A b=none):Low B (A.upd b o) :=
 h.trans (Low.of_sub fun c x hc=>by
  have hne:c≠b:=fun e=>by subst e;rw[hb] at hc;cases hc
  simp only[Heap.upd,hne,if_false];exact hc)
theorem Low.cells {A:Heap} {b:Nat} {cs:List AV} (hb:A b=some (.cells cs)):Low (A.upd b (.cells (cs.map AV.strip1))) A:=by
 refine⟨fun c hc=>?_,fun γ w hs c o hc=>?_⟩
 ·unfold Heap.upd at hc
  split at hc
  ·rename_i e;subst e;simp[hb]
  ·exact hc
 ·unfold Heap.upd at hc
  split at hc
  ·rename_i e
   subst e
   simp only[Al1] at hc
   subst hc
   cases hs _ _ hb with
   | cells _ vs E hk hb' hl h1 hr =>
    refine .cells _ vs E hk hb' (by simpa using hl) h1 fun i c v hc hv=>?_
    rw[yg] at hc
    cases hx:cs[i]? with
    | none=>simp[hx] at hc
    | some x=>simp only[hx,yb,Al1] at hc;subst hc;exact(hr i x v hx hv).strip1
  ·exact hs c o hc
def mkArgs:Nat→List AV→List (Nat×AV)
 | _,[]=>[]
 | k,c::cs=>(k,c)::mkArgs (k+1) cs
def finQ (res:List ARes) (Q:AEnd→Heap→Prop):AExit→Env→Heap→Prop
 | .exit _,_,_=>False
 | _,ρ,H=>match resvs ρ H res with
  | some vs=>∃ H',Low H' H∧Q (.ret (tupOf vs)) H'
  | none=>False
def finP (Q:AEnd→Heap→Prop):AV→Heap→Prop:=fun v H=>∃ H',Low H' H∧Q (.pan v) H'
theorem finP_wide (Q:AEnd→Heap→Prop):Wide (finP Q):=fun v H b o hb ⟨H',hs,hq⟩=>⟨H',hs.upd hb,hq⟩
theorem mkArgs_get:∀(args:List AV) (k n:Nat),envOf (mkArgs k args) n=if k≤n then args.getD (n-k) .any else .any
 | [],k,n=>by simp[mkArgs,envOf]
 | c::cs,k,n=>by
  simp only[mkArgs,envOf,mkArgs_get cs (k+1) n]
  by_cases h:n=k
  ·subst h;simp
  ·simp only[h,if_false]
   by_cases h2:k≤n
   ·have h3:k+1≤n:=by omega
    simp only[h2,h3,if_true]
    rw[show n-k=(n-(k+1))+1 by omega]
    simp
   ·have h3:¬ k+1≤n:=by omega
    simp[h2,h3]
theorem entry_env {γ:Gh} {w:World} {args:List AV} {vs:List Value} (ht:TabOk γ w) (h:RepAll γ w args vs) (m:Nat):EnvRel γ w (envOf (mkArgs 0 args)) (vs.toArray++Array.replicate m undef):=by
 refine⟨ht,fun n=>?_⟩
 rw[mkArgs_get]
 simp only[Nat.zero_le,if_true,Nat.sub_zero]
 by_cases hn:n<args.length
 ·have hv:n<vs.length:=by rw[← h.1];exact hn
  have e1:args.getD n .any=args[n]:=by simp[List.getD,hn]
  have e2:(vs.toArray++Array.replicate m undef).getD n undef=vs[n]:=by
   simp only[za6]
   rw[Array.getElem?_append_left (by simpa using hv)]
   simp[hv]
  rw[e1,e2]
  exact h.2 n _ _ (Al9 hn) (Al9 hv)
 ·have e1:args.getD n .any=.any:=by simp[List.getD,hn]
  rw[e1]
  exact .any _
theorem res_run {P:Program} {γ:Gh} {w:World} {H:Heap} {ρ:Env} {a:Act} (he:EnvRel γ w ρ a.tmps) (hs:StateRel γ w H):∀(rs:List ResultVar) (as:List ARes) (cs:List AV),chkRes P rs as=true→resvs ρ H as=some cs →
  ∃ vs,(rs.mapM (m:=Sem) fun
   | .tmp t=>pure (a.tmps.getD t undef)
   | .cell x t=>do loadVar t (← asAddr (a.tmps.getD x undef))).run P w=.ok vs w∧RepAll γ w cs vs
 | [],[],cs,_,h=>by simp only[resvs,Al1] at h;subst h;exact⟨[],rfl,RepAll.nil⟩
 | [],_::_,_,h,_=>by simp[chkRes] at h
 | .tmp t::_,[],_,h,_=>by simp[chkRes] at h
 | .cell x t::_,[],_,h,_=>by simp[chkRes] at h
 | .tmp t::rs,.c n sz ag::as,_,h,_=>by simp[chkRes] at h
 | .cell x t::rs,.t n::as,_,h,_=>by simp[chkRes] at h
 | .tmp t::rs,.t n::as,cs,hc,h=>by
  simp only[chkRes,Al0,beq_iff_eq] at hc
  obtain⟨rfl,hc⟩:=hc
  simp only[resvs,resv] at h
  cases hr:resvs ρ H as with
  | none=>simp[hr] at h
  | some ds =>
   simp only[hr,Al1] at h
   subst h
   obtain⟨vs,hv,hrep⟩:=res_run he hs rs as ds hc hr
   exact⟨a.tmps.getD t undef::vs,by simp only[List.mapM_cons,Sem.run_bind,Sem.run_pure,Result.andThen_ok,hv],RepAll.cons (he.rep t) hrep⟩
 | .cell x t::rs,.c n sz ag::as,cs,hc,h=>by
  simp only[chkRes,Al0,beq_iff_eq,zp,zat] at hc
  obtain⟨⟨⟨⟨⟨rfl,h1⟩,h2⟩,h3⟩,h4⟩,hc⟩:=hc
  obtain⟨ti,hti,h1⟩:=any_some h1
  obtain⟨d,hd⟩:=ZF.1 h2
  simp only[resvs,resv] at h
  cases hv0:rev ρ H (.ld sz ag (.t x)) with
  | none=>simp[hv0] at h
  | some v0 =>
   cases hr:resvs ρ H as with
   | none=>simp[hv0,hr] at h
   | some ds =>
    simp only[hv0,hr,Al1] at h
    subst h
    obtain⟨vs,hv,hrep⟩:=res_run he hs rs as ds hc hr
    have hread := ld_ok (P := P) (o := { dst := none, op := .load t (.tmp x), type := 0, pos := "", after := #[], guard := none }) (x' := .t x) rfl (by simp [chkO]) hti (by simpa using h1) hd h3 h4 γ w H ρ a v0 he hs hv0
    obtain⟨u,hu,hru⟩:=hread
    have hex:(do loadVar t (← asAddr (a.tmps.getD x undef)):Sem Value).run P w=.ok u w:=by
     have hr1:=he.rep x
     simp only[rev,Opd.ev] at hv0
     simp only[execOp,Instr.loadAt,Act.eval,Sem.run_bind] at hu
     cases hx:ρ x<;>simp only[hx] at hv0 hr1<;>try (cases hv0;done)
     all_goals
      generalize hg:a.tmps.getD x undef=g at hr1 hu ⊢
      cases hr1
      simp only[Instr.sureAddr,asAddr,Sem.run_bind,Sem.run_pure,Result.andThen_ok] at hu ⊢
      generalize (loadVar t _).run P w=r at hu ⊢
      cases r with
      | ok v w'=>simp only[Result.andThen_ok,Result.ok.injEq,Next.value.injEq] at hu;rw[hu.1,hu.2]
      | halt x w'=>simp[Result.andThen] at hu
    exact⟨u::vs,by simp only[List.mapM_cons,Sem.run_bind] at hex ⊢;rw[hex];simp only[Result.andThen_ok,hv,Sem.run_pure],RepAll.cons hru hrep⟩
theorem results_run {P:Program} {γ:Gh} {w:World} {H:Heap} {ρ:Env} {a:Act} {fn:Func} {as:List ARes} {cs:List AV} (he:EnvRel γ w ρ a.tmps) (hs:StateRel γ w H) (hc:chkRes P fn.results.toList as=true) (h:resvs ρ H as=some cs) :
  ∃ v,(results fn a.tmps).run P w=.ok v w∧Rep γ w (tupOf cs) v:=by
 obtain⟨vs,hv,hrep⟩:=res_run (P:=P) he hs fn.results.toList as cs hc h
 have hm:(fn.results.mapM (m:=Sem) fun
   | .tmp t=>pure (a.tmps.getD t undef)
   | .cell x t=>do loadVar t (← asAddr (a.tmps.getD x undef))).run P w=.ok vs.toArray w:=by
  rw[Array.mapM_eq_mapM_toList]
  simp only[Sem.run_map]
  have e:∀ r:Result (List Value),r=.ok vs w→(r.andThen fun a w'=>Result.ok a.toArray w')=.ok vs.toArray w:=fun r hr=>by subst hr;rfl
  exact e _ hv
 unfold results
 rw[Sem.run_bind]
 have e:∀ r:Result (Array Value),r=.ok vs.toArray w→(r.andThen fun vs w'=>(pure (if h:vs.size=1 then vs[0] else .tuple vs):Sem Value).run P w')=.ok (if h:vs.toArray.size=1 then vs.toArray[0] else .tuple vs.toArray) w:=fun r hr=>by subst hr;rfl
 refine⟨_,e _ hm,?_⟩
 match cs,vs,hrep with
 | [],[],_=>exact .tup [] [] rfl (by simp)
 | [c],[v],h=>exact h.2 0 c v rfl rfl
 | c1::c2::cs,v1::v2::vs,h=>exact .tup _ _ h.1 h.2
 | [],_::_,h=>exact absurd h.1 (by simp)
 | _::_,[],h=>exact absurd h.1 (by simp)
 | [_],_::_::_,h=>exact absurd h.1 (by simp)
 | _::_::_,[_],h=>exact absurd h.1 (by simp)
theorem leaves_marks {P:Program} {fn:Func} {tmps:Array Value} {R:Ending→World→Prop} {u:FrameMode} {γ:Gh} (hu:u≠.run):∀(bs:List Nat) (w:World) (H:Heap),bs.Nodup→(∀ b∈bs,H b=none∧w.heap[b]?=some (.deferred (some [])))→StateRel γ w H →
  (∀ w',Ext (fun b=>b∈bs) γ w γ w'→StateRel γ w' H→LeavesIn Fence.wide 0 P fn tmps R [] u w')→LeavesInM Fence.wide 0 P fn tmps R (bs.map coll) u w
 | [],w,H,_,_,hs,h=>h w (.refl _ _ _) hs
 | b::bs,w,H,hnd,hb,hs,h=>by
  have h1:=hb b (yI ..)
  obtain⟨hnb,hnd'⟩:=List.nodup_cons.1 hnd
  have hE:=ext_put γ (o':=.deferred none) h1.2 (fun _ _ _ h=>by cases h) (fun _ _ _ h=>by cases h)
  refine⟨hu,.inl ⟨b,w.putObj b (.deferred none),rfl,run_takeDeferred h1.2,?_⟩⟩
  have hs':StateRel γ (w.putObj b (.deferred none)) H:=hs.kept hE (fun c o hc e=>by subst e;rw[h1.1] at hc;cases hc)
  refine leaves_marks hu bs _ H hnd' (fun c hc=>?_) hs' fun w' he hs2=>h w' ((hE.weaken fun c hc=>by subst hc;exact yI ..).trans he fun c _ hc=>Za _ hc) hs2
  have h2:=hb c (Za _ hc)
  exact⟨h2.1,(World.putObj_heap_other (fun e=>by subst e;exact hnb hc)).trans h2.2⟩
theorem ACalls.of_fn {P:Program} {f:FuncId} (af:AFn) (hc:chkFn P f af=true) {args:List AV} {H:Heap} {Q:AEnd→Heap→Prop} (hnp:args.length≤af.np)
  (h:awp P (finP Q) af.body (finQ af.res Q) (envOf (mkArgs 0 args)) H):ACalls P f args H Q:=by
 intro γ w vs ht hs hv
 unfold chkFn at hc
 cases hfn:P.funcs[f]? with
 | none=>simp[hfn] at hc
 | some fn =>
  simp only[hfn] at hc
  cases hbody:fn.body with
  | none=>simp[hbody] at hc
  | some code =>
   simp only[hbody,Al0,zp] at hc
   obtain⟨⟨⟨hN,hnpN⟩,hres⟩,hcode⟩:=hc
   refine(callsIn_wide (n:=0)).1 (callsIn_of_wp_marks hfn hbody trivial (wpIn_wide.2 ?_))
   have hlen:vs.toArray.size≤af.N:=by simp only[List.size_toArray];rw[← hv.1];omega
   have hinv:SInv γ w H (Fx.marks af.N w.heap.size) γ w H (envOf (mkArgs 0 args)) { tmps:=vs.toArray++Array.replicate (fn.ntmps-vs.toArray.size) undef,defers:=[] } :=
    ⟨.refl _ _ _,hs,NewKeys.refl _ _,entry_env ht hv _,by show _=af.N;rw[hN,Array.size_append,Array.size_replicate];omega,fun n hn=>absurd hn (Nat.not_lt_zero n),DfOk.init rfl⟩
   refine wp_mono (code_sound (F:=Fx.marks af.N w.heap.size) (finP_wide Q) af.body code _ (.inr ⟨rfl,rfl,Al4 _⟩) hcode γ w H _ _ hinv h) fun e a' w' he=>?_
   have old:∀(H':Heap) (bs:List Nat),(∀ b∈bs,w.heap.size≤b∧H' b=none∧w'.heap[b]?=some (.deferred (some [])))→∀ b,b<w.heap.size→b∈bs→keysOf H b :=
    fun H' bs h b hb hm=>absurd (h b hm).1 (by omega)
   have fin:∀ γ' H' ρ',SInv γ w H (Fx.marks af.N w.heap.size) γ' w' H' ρ' a'→(match resvs ρ' H' af.res with|some vs=>∃ H'',Low H'' H'∧Q (.ret (tupOf vs)) H''|none=>False) →
     LeavesInM Fence.wide 0 P fn a'.tmps (fun e w'=>∃ γ' H' r,Ext (fun b=>(H b).isSome=true) γ w γ' w'∧StateRel γ' w' H' ∧
      (∀ b,(H' b).isSome=true→(H b).isSome=true∨w.heap.size≤b)∧EndRel γ' w' e r∧Q r H') a'.defers .returning w':=by
    intro γ' H' ρ' h1 h2
    cases hr:resvs ρ' H' af.res with
    | none=>simp[hr] at h2
    | some cs =>
     simp only[hr] at h2
     obtain⟨H'',hsub,hq⟩:=h2
     obtain⟨bs,hbs,hnd,_,hbk⟩:=h1.df.eq
     rw[hbs,show (Fx.marks af.N w.heap.size).D=[] from rfl,List.append_nil]
     refine leaves_marks (γ:=γ') (by simp) bs w' H' hnd (fun b hb=>(hbk b hb).2) h1.st fun w2 he hs2=>?_
     obtain⟨v,hrun,hrep⟩:=results_run (P:=P) (h1.env.mono he.mono) hs2 hres hr
     refine⟨v,hrun,γ',H'',.ret (tupOf cs),h1.ext.trans he (old H' bs hbk),hsub.st _ _ hs2,fun b hb=>?_,hrep,hq⟩
     exact h1.keys b (hsub.keys b hb)
   cases e with
   | normal=>obtain⟨γ',H',ρ',h1,h2⟩:=he;exact fin γ' H' ρ' h1 h2
   | ret=>obtain⟨γ',H',ρ',h1,h2⟩:=he;exact fin γ' H' ρ' h1 h2
   | exit id=>obtain⟨γ',H',ρ',h1,h2⟩:=he;exact h2.elim
   | goto l=>exact he.elim
   | outgrown=>exact he.elim
   | panic ch =>
    obtain⟨γ',H',c,v,rfl,hext,hst,hk,hrep,⟨H'',hsub,hq⟩,_,_,_,hdf⟩:=he
    obtain⟨bs,hbs,hnd,_,hbk⟩:=hdf.eq
    show LeavesInM Fence.wide 0 P fn a'.tmps _ a'.defers _ w'
    rw[hbs,show (Fx.marks af.N w.heap.size).D=[] from rfl,List.append_nil]
    refine leaves_marks (γ:=γ') (by simp) bs w' H' hnd (fun b hb=>(hbk b hb).2) hst fun w2 he hs2=>?_
    exact⟨γ',H'',.pan c,hext.trans he (old H' bs hbk),hsub.st _ _ hs2,fun b hb=>hk b (hsub.keys b hb),⟨v,rfl,hrep.mono he.mono⟩,hq⟩
def Pure (P:Program) (f:FuncId) (args:List AV) (r:AV):Prop:=ACalls P f args Heap.emp fun e H'=>e=.ret r∧H'=Heap.emp
theorem union_emp (H:Heap):Heap.union Heap.emp H=H:=by funext n;simp[Heap.union,Heap.emp]
theorem disj_emp (H:Heap):Heap.Disj Heap.emp H:=fun _=>.inl rfl
theorem Pure.use {P:Program} {f:FuncId} {args:List AV} {r:AV} (h:Pure P f args r) {H:Heap} {K KP:AV→Heap→Prop} (hk:K r H):ACalls P f args H (endK K KP):=by
 have:=h.frame (disj_emp H)
 rw[union_emp] at this
 refine this.mono fun e H' ⟨A',⟨he,hA⟩,_,hH⟩=>?_
 subst he;subst hA;subst hH
 rw[union_emp]
 exact hk
theorem ACalls.strip {P:Program} {f:FuncId} {args:List AV} {H:Heap} {Q:AEnd→Heap→Prop} (h:ACalls P f args H fun e H'=>match e with|.ret v=>Q (.ret v.strip) H'|.pan v=>Q (.pan v) H'):ACalls P f args H Q :=
 fun γ w vs ht hs hv=>(h γ w vs ht hs hv).mono fun e w' ⟨γ',H',r,a,b,c,d,q⟩=>by
  cases r with
  | ret v =>
   refine⟨γ',H',.ret v.strip,a,b,c,?_,q⟩
   cases e with
   | returned u=>exact Rep.strip d
   | panicked ch=>exact d
   | outgrown=>exact d
  | pan v=>exact⟨γ',H',.pan v,a,b,c,d,q⟩
def pureQ (r:AV):AEnd→Heap→Prop
 | .ret v,H=>v.strip=r∧H=Heap.emp
 | .pan _,_=>False
theorem Pure.of_fn {P:Program} {f:FuncId} (af:AFn) (hc:chkFn P f af=true) {args:List AV} {r:AV} (hnp:args.length≤af.np)
  (h:awp P (finP (pureQ r)) af.body (finQ af.res (pureQ r)) (envOf (mkArgs 0 args)) Heap.emp):Pure P f args r:=by
 unfold Pure
 refine ACalls.strip ((ACalls.of_fn af hc hnp h).mono fun e H' hq=>?_)
 cases e with
 | ret v=>exact⟨by rw[hq.1],hq.2⟩
 | pan v=>exact hq.elim
theorem finQ_pure {res:List ARes} {r:AV} {e:AExit} {ρ:Env} {H:Heap} (he:∀ i,e≠.exit i) (h:∃ ws,resvs ρ H res=some ws∧(tupOf ws).strip=r):finQ res (pureQ r) e ρ H:=by
 obtain⟨ws,h1,h2⟩:=h
 cases e with
 | exit i=>exact absurd rfl (he i)
 | normal=>simp only[finQ,h1];exact⟨Heap.emp,Low.of_sub fun b o hb=>by simp[Heap.emp] at hb,h2,rfl⟩
 | ret=>simp only[finQ,h1];exact⟨Heap.emp,Low.of_sub fun b o hb=>by simp[Heap.emp] at hb,h2,rfl⟩
def chkAt (x:Option AItem):List Chk:=match x with|some x=>entry x|none=>[]
theorem chkAt_some (d:Option Nat) (g:Option (Nat×Bool)) (op:AOp) (c:List Nat):chkAt (some ⟨d,g,op,c⟩)=match d with|some d=>[(d,g,op)]|none=>[]:=by cases d<;>rfl
inductive Fr where
 | code (b:AC)
 | blk (id:Nat)
 | rep (keep:List Nat) (J:Env→Heap→Prop)
def D (P:Program) (KP:AV→Heap→Prop) (Q:AExit→Env→Heap→Prop):List Fr→AExit→Env→Heap→Prop
 | []=>Q
 | .code b::st=>thenQ (awp P KP b (D P KP Q st)) (D P KP Q st)
 | .blk id::st=>inBlockQ id (D P KP Q st)
 | .rep keep J::st=>thenQ (fun ρ H=>J (ρ.keep keep) H) (D P KP Q st)
def goC (P:Program) (KP:AV→Heap→Prop) (Q:AExit→Env→Heap→Prop) (c:AC) (st:List Fr) (ρ:Env) (H:Heap):Prop:=awp P KP c (D P KP Q st) ρ H
def goD (P:Program) (KP:AV→Heap→Prop) (Q:AExit→Env→Heap→Prop) (st:List Fr) (ρ:Env) (H:Heap):Prop:=D P KP Q st .normal ρ H
def goE (P:Program) (KP:AV→Heap→Prop) (Q:AExit→Env→Heap→Prop) (e:AExit) (st:List Fr) (ρ:Env) (H:Heap):Prop:=D P KP Q st e ρ H
def goI (P:Program) (KP:AV→Heap→Prop) (Q:AExit→Env→Heap→Prop) (all l:List AItem) (st:List Fr) (ρ:Env) (H:Heap):Prop :=
 awpItems P KP (l.map fun it=>(it,chkOf all it.chk)) ρ H (fun ρ' H'=>D P KP Q st .normal ρ' H')
def goR (P:Program) (KP:AV→Heap→Prop) (Q:AExit→Env→Heap→Prop) (all l:List AItem) (st:List Fr) (R:List Chk) (ρ:Env) (H:Heap):Prop :=
 recheck ρ H R∧goI P KP Q all l st ρ H
def goG (P:Program) (KP:AV→Heap→Prop) (Q:AExit→Env→Heap→Prop) (all l:List AItem) (st:List Fr) (g:AV) (want:Bool) (d:Option Nat) (op:AOp) (R:List Chk) (ρ:Env) (H:Heap):Prop :=
 match g with
 | .bool b=>if b==want then aop P KP op ρ H (fun v H'=>goR P KP Q all l st R (ρ.set d v) H') else goI P KP Q all l st (ρ.set d (.tup [])) H
 | .tup []=>goI P KP Q all l st (ρ.set d (.tup [])) H
 | _=>False
def goO (P:Program) (KP:AV→Heap→Prop) (Q:AExit→Env→Heap→Prop) (all l:List AItem) (st:List Fr) (d:Option Nat) (op:AOp) (R:List Chk) (ρ:Env) (H:Heap):Prop :=
 aop P KP op ρ H (fun v H'=>goR P KP Q all l st R (ρ.set d v) H')
def goV (P:Program) (KP:AV→Heap→Prop) (Q:AExit→Env→Heap→Prop) (all l:List AItem) (st:List Fr) (d:Option Nat) (ρ:Env) (H:Heap) (v:Option AV):Prop :=
 match v with
 | some v=>goI P KP Q all l st (ρ.set d v) H
 | none=>False
def goK (P:Program) (KP:AV→Heap→Prop) (Q:AExit→Env→Heap→Prop) (all l:List AItem) (st:List Fr) (d:Option Nat) (R:List Chk) (ρ:Env) (f:FuncId) (args:List AV) (H:Heap):Prop :=
 ACalls P f args H (endK (fun v H'=>goR P KP Q all l st R (ρ.set d v) H') KP)
def goA (P:Program) (KP:AV→Heap→Prop) (Q:AExit→Env→Heap→Prop) (all l:List AItem) (st:List Fr) (d:Option Nat) (R:List Chk) (ρ:Env) (H:Heap) (op:AOp) (x:Option AObj):Prop :=
 match x with
 | some x=>∀ b,H b=none→goR P KP Q all l st R (ρ.set d (optr ρ b op)) (H.upd b x)
 | none=>Scarce H
def goP (P:Program) (KP:AV→Heap→Prop) (Q:AExit→Env→Heap→Prop) (all l:List AItem) (st:List Fr) (d:Option Nat) (R:List Chk) (ρ:Env) (sz bytes:Nat) (x y:AV) (H:Heap):Prop :=
 appK sz bytes x y H (fun v H'=>goR P KP Q all l st R (ρ.set d v) H')
def goS (P:Program) (KP:AV→Heap→Prop) (Q:AExit→Env→Heap→Prop) (all l:List AItem) (st:List Fr) (d:Option Nat) (R:List Chk) (ρ:Env) (n:Nat) (x:AV) (y:List AV) (bx:Bool) (H:Heap):Prop :=
 match x with
 | .ptr b off=>match H b with
  | some (.cells cs)=>y.length=n∧off+n≤cs.length∧bx=true∧goR P KP Q all l st R (ρ.set d (.tup [])) (H.upd b (.cells (splice cs off y)))
  | _=>False
 | _=>False
def goB (P:Program) (KP:AV→Heap→Prop) (Q:AExit→Env→Heap→Prop) (c:AV) (t e:AC) (st:List Fr) (ρ:Env) (H:Heap):Prop :=
 condK c (goC P KP Q t st ρ H) (goC P KP Q e st ρ H)
def goU (P:Program) (KP:AV→Heap→Prop) (Q:AExit→Env→Heap→Prop) (keep:List Nat) (a b:AC) (st:List Fr) (ρ:Env) (H:Heap):Prop:=goC P KP Q (.join keep a b) st ρ H
def goL (P:Program) (KP:AV→Heap→Prop) (Q:AExit→Env→Heap→Prop) (keep:List Nat) (b:AC) (st:List Fr) (ρ:Env) (H:Heap):Prop:=goC P KP Q (.loop keep b) st ρ H
section
variable {P:Program} {KP:AV→Heap→Prop} {Q:AExit→Env→Heap→Prop} {st:List Fr} {ρ:Env} {H:Heap}
theorem go_skip:goC P KP Q .skip st ρ H=goD P KP Q st ρ H:=rfl
theorem go_seq (a b:AC):goC P KP Q (.seq a b) st ρ H=goC P KP Q a (.code b::st) ρ H:=rfl
theorem go_join (keep:List Nat) (a b:AC):goC P KP Q (.join keep a b) st ρ H=goU P KP Q keep a b st ρ H:=rfl
theorem go_reg (c:List Nat) (l:List AItem):goC P KP Q (.reg c l) st ρ H=goI P KP Q l l st ρ H:=rfl
theorem go_cond (c:Opd) (t e:AC):goC P KP Q (.cond c t e) st ρ H=goB P KP Q (c.ev ρ) t e st ρ H:=rfl
theorem go_block (id:Nat) (b:AC):goC P KP Q (.block id b) st ρ H=goC P KP Q b (.blk id::st) ρ H:=rfl
theorem go_scope (b:AC):goC P KP Q (.scope b) st ρ H=goC P KP Q b st ρ H:=rfl
theorem go_exit (id:Nat):goC P KP Q (.exit id) st ρ H=goE P KP Q (.exit id) st ρ H:=rfl
theorem go_ret:goC P KP Q .ret st ρ H=goE P KP Q .ret st ρ H:=rfl
theorem go_loop (keep:List Nat) (b:AC):goC P KP Q (.loop keep b) st ρ H=goL P KP Q keep b st ρ H:=rfl
theorem goD_code (b:AC):goD P KP Q (.code b::st) ρ H=goC P KP Q b st ρ H:=rfl
theorem goD_blk (id:Nat):goD P KP Q (.blk id::st) ρ H=goD P KP Q st ρ H:=rfl
theorem goD_rep (keep:List Nat) (J:Env→Heap→Prop):goD P KP Q (.rep keep J::st) ρ H=J (ρ.keep keep) H:=rfl
theorem goD_nil:goD P KP Q [] ρ H=Q .normal ρ H:=rfl
theorem goE_nil (e:AExit):goE P KP Q e [] ρ H=Q e ρ H:=rfl
theorem goE_ret_code (b:AC):goE P KP Q .ret (.code b::st) ρ H=goE P KP Q .ret st ρ H:=rfl
theorem goE_ret_blk (id:Nat):goE P KP Q .ret (.blk id::st) ρ H=goE P KP Q .ret st ρ H:=rfl
theorem goE_ret_rep (keep:List Nat) (J:Env→Heap→Prop):goE P KP Q .ret (.rep keep J::st) ρ H=goE P KP Q .ret st ρ H:=rfl
theorem goE_exit_code (i:Nat) (b:AC):goE P KP Q (.exit i) (.code b::st) ρ H=goE P KP Q (.exit i) st ρ H:=rfl
theorem goE_exit_blk (i id:Nat):goE P KP Q (.exit i) (.blk id::st) ρ H=if i=id then goD P KP Q st ρ H else goE P KP Q (.exit i) st ρ H:=by
 simp only[goE,goD,D,inBlockQ];split<;>rfl
theorem goE_exit_rep (i:Nat) (keep:List Nat) (J:Env→Heap→Prop):goE P KP Q (.exit i) (.rep keep J::st) ρ H=goE P KP Q (.exit i) st ρ H:=rfl
variable {all l:List AItem} {d:Option Nat} {R:List Chk}
theorem goI_nil:goI P KP Q all [] st ρ H=goD P KP Q st ρ H:=rfl
theorem goI_cons (op:AOp) (c:List Nat):goI P KP Q all (⟨d,none,op,c⟩::l) st ρ H=goO P KP Q all l st d op (chkOf all c) ρ H:=rfl
theorem goI_guard (s:Nat) (w:Bool) (op:AOp) (c:List Nat):goI P KP Q all (⟨d,some (s,w),op,c⟩::l) st ρ H=goG P KP Q all l st (ρ s) w d op (chkOf all c) ρ H:=by
 simp only[goI,List.map_cons,awpItems,istepR,gv,goG]
 cases hx:ρ s<;>try rfl
 ·rename_i b
  cases b<;>cases w<;>rfl
 ·rename_i vs
  cases vs<;>rfl
theorem goR_nil:goR P KP Q all l st [] ρ H=goI P KP Q all l st ρ H:=by simp[goR,recheck]
theorem chkOf_nil (items:List AItem):chkOf items []=[]:=rfl
theorem goG_tt (op:AOp):goG P KP Q all l st (.bool true) true d op R ρ H=goO P KP Q all l st d op R ρ H:=rfl
theorem goG_ff (op:AOp):goG P KP Q all l st (.bool false) false d op R ρ H=goO P KP Q all l st d op R ρ H:=rfl
theorem goG_tf (op:AOp):goG P KP Q all l st (.bool true) false d op R ρ H=goI P KP Q all l st (ρ.set d (.tup [])) H:=rfl
theorem goG_ft (op:AOp):goG P KP Q all l st (.bool false) true d op R ρ H=goI P KP Q all l st (ρ.set d (.tup [])) H:=rfl
theorem goG_no (w:Bool) (op:AOp):goG P KP Q all l st (.tup []) w d op R ρ H=goI P KP Q all l st (ρ.set d (.tup [])) H:=rfl
theorem goO_pure (op:AOp) (h:op.cls=.pure):goO P KP Q all l st d op [] ρ H=goV P KP Q all l st d ρ H (pev ρ op):=by
 simp only[goO,aop,h,goV]
 cases pev ρ op with
 | none=>rfl
 | some v=>simp only[goR_nil]
theorem goO_read (op:AOp) (h:op.cls=.read):goO P KP Q all l st d op [] ρ H=goV P KP Q all l st d ρ H (rev ρ H op):=by
 simp only[goO,aop,h,goV]
 cases rev ρ H op with
 | none=>rfl
 | some v=>simp only[goR_nil]
theorem goV_some (v:AV):goV P KP Q all l st d ρ H (some v)=goI P KP Q all l st (ρ.set d v) H:=rfl
theorem goO_alloc (op:AOp) (h:op.cls=.alloc):goO P KP Q all l st d op R ρ H=goA P KP Q all l st d R ρ H op (oev ρ op):=by
 simp only[goO,aop,h,goA]
 cases oev ρ op<;>rfl
theorem o_mv (x:Opd):goO P KP Q all l st d (.mv x) [] ρ H=goV P KP Q all l st d ρ H (pev ρ (.mv x)):=goO_pure _ rfl
theorem o_pick (c a b:Opd):goO P KP Q all l st d (.pick c a b) [] ρ H=goV P KP Q all l st d ρ H (pev ρ (.pick c a b)):=goO_pure _ rfl
theorem o_nilchk (x:Opd):goO P KP Q all l st d (.nilchk x) [] ρ H=goV P KP Q all l st d ρ H (pev ρ (.nilchk x)):=goO_pure _ rfl
theorem o_bi (o:BinOp) (k:IntKind) (x y:Opd):goO P KP Q all l st d (.bi o k x y) [] ρ H=goV P KP Q all l st d ρ H (pev ρ (.bi o k x y)):=goO_pure _ rfl
theorem o_shf (o:BinOp) (x y:Opd):goO P KP Q all l st d (.shf o x y) [] ρ H=goV P KP Q all l st d ρ H (pev ρ (.shf o x y)):=goO_pure _ rfl
theorem o_bs (o:BinOp) (x y:Opd):goO P KP Q all l st d (.bs o x y) [] ρ H=goV P KP Q all l st d ρ H (pev ρ (.bs o x y)):=goO_pure _ rfl
theorem o_bb (neg:Bool) (x y:Opd):goO P KP Q all l st d (.bb neg x y) [] ρ H=goV P KP Q all l st d ρ H (pev ρ (.bb neg x y)):=goO_pure _ rfl
theorem o_eqa (neg:Bool) (ks:List K1) (x y:Opd):goO P KP Q all l st d (.eqa neg ks x y) [] ρ H=goV P KP Q all l st d ρ H (pev ρ (.eqa neg ks x y)):=goO_pure _ rfl
theorem o_isnil (nk:NK) (x:Opd):goO P KP Q all l st d (.isnil nk x) [] ρ H=goV P KP Q all l st d ρ H (pev ρ (.isnil nk x)):=goO_pure _ rfl
theorem o_isnn (nk:NK) (x:Opd):goO P KP Q all l st d (.isnn nk x) [] ρ H=goV P KP Q all l st d ρ H (pev ρ (.isnn nk x)):=goO_pure _ rfl
theorem o_ineg (x:Opd):goO P KP Q all l st d (.ineg x) [] ρ H=goV P KP Q all l st d ρ H (pev ρ (.ineg x)):=goO_pure _ rfl
theorem o_ifnil (neg:Bool) (x:Opd):goO P KP Q all l st d (.ifnil neg x) [] ρ H=goV P KP Q all l st d ρ H (pev ρ (.ifnil neg x)):=goO_pure _ rfl
theorem o_tas (t:TypeId) (z:AV) (x:Opd):goO P KP Q all l st d (.tas t z x) [] ρ H=goV P KP Q all l st d ρ H (pev ρ (.tas t z x)):=goO_pure _ rfl
theorem o_not (x:Opd):goO P KP Q all l st d (.not x) [] ρ H=goV P KP Q all l st d ρ H (pev ρ (.not x)):=goO_pure _ rfl
theorem o_cvi (k:IntKind) (x:Opd):goO P KP Q all l st d (.cvi k x) [] ρ H=goV P KP Q all l st d ρ H (pev ρ (.cvi k x)):=goO_pure _ rfl
theorem o_cvid (x:Opd):goO P KP Q all l st d (.cvid x) [] ρ H=goV P KP Q all l st d ρ H (pev ρ (.cvid x)):=goO_pure _ rfl
theorem o_cvb2s (x:Opd):goO P KP Q all l st d (.cvb2s x) [] ρ H=goV P KP Q all l st d ρ H (pev ρ (.cvb2s x)):=goO_pure _ rfl
theorem o_bld (zero:List AV) (parts:List (Nat×Nat×Opd)):goO P KP Q all l st d (.bld zero parts) [] ρ H=goV P KP Q all l st d ρ H (pev ρ (.bld zero parts)):=goO_pure _ rfl
theorem o_bls (sz len:Nat) (zero:List AV) (parts:List (Nat×Opd)):goO P KP Q all l st d (.bls sz len zero parts) [] ρ H=goV P KP Q all l st d ρ H (pev ρ (.bls sz len zero parts)):=goO_pure _ rfl
theorem o_mkfn (f:FuncId) (first caps:List Opd):goO P KP Q all l st d (.mkfn f first caps) [] ρ H=goV P KP Q all l st d ρ H (pev ρ (.mkfn f first caps)):=goO_pure _ rfl
theorem o_ext (x:Opd) (i:Nat):goO P KP Q all l st d (.ext x i) [] ρ H=goV P KP Q all l st d ρ H (pev ρ (.ext x i)):=goO_pure _ rfl
theorem o_mki (t:TypeId) (x:Opd):goO P KP Q all l st d (.mki t x) [] ρ H=goV P KP Q all l st d ρ H (pev ρ (.mki t x)):=goO_pure _ rfl
theorem o_fa (off:Nat) (x:Opd):goO P KP Q all l st d (.fa off x) [] ρ H=goV P KP Q all l st d ρ H (pev ρ (.fa off x)):=goO_pure _ rfl
theorem o_fld (off n:Nat) (ag:Bool) (x:Opd):goO P KP Q all l st d (.fld off n ag x) [] ρ H=goV P KP Q all l st d ρ H (pev ρ (.fld off n ag x)):=goO_pure _ rfl
theorem o_ia (sz:Nat) (x i:Opd):goO P KP Q all l st d (.ia sz x i) [] ρ H=goV P KP Q all l st d ρ H (pev ρ (.ia sz x i)):=goO_pure _ rfl
theorem o_ixs (x i:Opd):goO P KP Q all l st d (.ixs x i) [] ρ H=goV P KP Q all l st d ρ H (pev ρ (.ixs x i)):=goO_pure _ rfl
theorem o_sls (x:Opd) (lo hi:Option Opd):goO P KP Q all l st d (.sls x lo hi) [] ρ H=goV P KP Q all l st d ρ H (pev ρ (.sls x lo hi)):=goO_pure _ rfl
theorem o_sll (sz:Nat) (x:Opd) (lo hi mx:Option Opd):goO P KP Q all l st d (.sll sz x lo hi mx) [] ρ H=goV P KP Q all l st d ρ H (pev ρ (.sll sz x lo hi mx)):=goO_pure _ rfl
theorem o_slar (n:Nat) (x hi:Opd):goO P KP Q all l st d (.slar n x hi) [] ρ H=goV P KP Q all l st d ρ H (pev ρ (.slar n x hi)):=goO_pure _ rfl
theorem o_sllx (sz:Nat) (x hi:Opd):goO P KP Q all l st d (.sllx sz x hi) [] ρ H=goV P KP Q all l st d ρ H (pev ρ (.sllx sz x hi)):=goO_pure _ rfl
theorem o_len (x:Opd):goO P KP Q all l st d (.len x) [] ρ H=goV P KP Q all l st d ρ H (pev ρ (.len x)):=goO_pure _ rfl
theorem o_lens (x:Opd):goO P KP Q all l st d (.lens x) [] ρ H=goV P KP Q all l st d ρ H (pev ρ (.lens x)):=goO_pure _ rfl
theorem o_mm (mx:Bool) (x:Opd) (ys:List Opd):goO P KP Q all l st d (.mm mx x ys) [] ρ H=goV P KP Q all l st d ρ H (pev ρ (.mm mx x ys)):=goO_pure _ rfl
theorem o_boxv (x:Opd):goO P KP Q all l st d (.boxv x) [] ρ H=goV P KP Q all l st d ρ H (pev ρ (.boxv x)):=goO_pure _ rfl
theorem o_ld (n:Nat) (ag:Bool) (x:Opd):goO P KP Q all l st d (.ld n ag x) [] ρ H=goV P KP Q all l st d ρ H (rev ρ H (.ld n ag x)):=goO_read _ rfl
theorem o_lkp (kt:KT) (zero:AV) (ok:Bool) (m k:Opd):goO P KP Q all l st d (.lkp kt zero ok m k) [] ρ H=goV P KP Q all l st d ρ H (rev ρ H (.lkp kt zero ok m k)):=goO_read _ rfl
theorem o_lenm (x:Opd):goO P KP Q all l st d (.lenm x) [] ρ H=goV P KP Q all l st d ρ H (rev ρ H (.lenm x)):=goO_read _ rfl
theorem o_alloc (zero:List AV):goO P KP Q all l st d (.alloc zero) R ρ H=goA P KP Q all l st d R ρ H (.alloc zero) (oev ρ (.alloc zero)):=goO_alloc _ rfl
theorem o_box (x:Opd):goO P KP Q all l st d (.box x) R ρ H=goA P KP Q all l st d R ρ H (.box x) (oev ρ (.box x)):=goO_alloc _ rfl
theorem o_mkm (kt:KT):goO P KP Q all l st d (.mkm kt) R ρ H=goA P KP Q all l st d R ρ H (.mkm kt) (oev ρ (.mkm kt)):=goO_alloc _ rfl
theorem o_mks (sz bytes:Nat) (n:Opd):goO P KP Q all l st d (.mks sz bytes n) R ρ H=goA P KP Q all l st d R ρ H (.mks sz bytes n) (oev ρ (.mks sz bytes n)):=goO_alloc _ rfl
theorem o_mksn (zero:List AV) (bytes:Nat) (n:Opd):goO P KP Q all l st d (.mksn zero bytes n) R ρ H=goA P KP Q all l st d R ρ H (.mksn zero bytes n) (oev ρ (.mksn zero bytes n)):=goO_alloc _ rfl
theorem chkOf_cons (items:List AItem) (k:Nat) (ks:List Nat):chkOf items (k::ks)=chkAt items[k]?++chkOf items ks:=by
 simp only[chkOf,List.flatMap_cons,chkAt]<;>rfl
theorem goR_none (n:Nat) (o:AOp):goR P KP Q all l st ((n,none,o)::R) ρ H=(rev ρ H o=some (ρ n)∧goR P KP Q all l st R ρ H):=by
 simp[goR,recheck,gv,and_assoc]
theorem goR_some (n s:Nat) (w:Bool) (o:AOp):goR P KP Q all l st ((n,some (s,w),o)::R) ρ H=((gv (some (s,w)) ρ=some true→rev ρ H o=some (ρ n))∧goR P KP Q all l st R ρ H):=by
 simp[goR,recheck,and_assoc]
theorem goA_intro {op:AOp} {x:AObj} (h:∀ b,H b=none→goR P KP Q all l st R (ρ.set d (optr ρ b op)) (H.upd b x)):goA P KP Q all l st d R ρ H op (some x):=h
theorem o_call (f:FuncId) (args:List Opd):goO P KP Q all l st d (.call f args) R ρ H=goK P KP Q all l st d R ρ f (args.map (Opd.ev ρ)) H:=rfl
theorem o_app (sz bytes:Nat) (x y:Opd):goO P KP Q all l st d (.app sz bytes x y) R ρ H=goP P KP Q all l st d R ρ sz bytes (x.ev ρ) (y.ev ρ) H:=rfl
theorem o_st (n:Nat) (x y:Opd):goO P KP Q all l st d (.st n x y) R ρ H=goS P KP Q all l st d R ρ n (x.ev ρ) (y.ev ρ).cells (y.ev ρ).boxable H:=by
 simp only[goO,aop,AOp.cls,eff,goS]
 cases x.ev ρ<;>rfl
def goT (P:Program) (KP:AV→Heap→Prop) (Q:AExit→Env→Heap→Prop) (all l:List AItem) (st:List Fr) (d:Option Nat) (R:List Chk) (ρ:Env) (n b off:Nat) (y:List AV) (bx:Bool) (H:Heap) (o:Option AObj):Prop :=
 match o with
 | some (.cells cs)=>y.length=n∧off+n≤cs.length∧bx=true∧goR P KP Q all l st R (ρ.set d (.tup [])) (H.upd b (.cells (splice cs off y)))
 | _=>False
theorem goS_ptr {b off n:Nat} {y:List AV} {bx:Bool}:goS P KP Q all l st d R ρ n (.ptr b off) y bx H=goT P KP Q all l st d R ρ n b off y bx H (H b):=by
 simp only[goS,goT]
theorem goT_cells {b off n:Nat} {y cs:List AV} {bx:Bool}:goT P KP Q all l st d R ρ n b off y bx H (some (.cells cs))=(y.length=n∧off+n≤cs.length∧bx=true∧goR P KP Q all l st R (ρ.set d (.tup [])) (H.upd b (.cells (splice cs off y)))):=rfl
theorem goK_pure {f:FuncId} {args:List AV} {r:AV} (h:Pure P f args r) (hk:goR P KP Q all l st R (ρ.set d r) H):goK P KP Q all l st d R ρ f args H:=h.use hk
theorem goB_t (t e:AC):goB P KP Q (.bool true) t e st ρ H=goC P KP Q t st ρ H:=rfl
theorem goB_f (t e:AC):goB P KP Q (.bool false) t e st ρ H=goC P KP Q e st ρ H:=rfl
theorem goL_rule {keep:List Nat} {b:AC} (I:Nat→Env→Heap→Prop) (n0:Nat) (h0:I n0 (ρ.keep keep) H)
  (hr:∀ n ρ H (J:Env→Heap→Prop),I n ρ H→(∀ m ρ' H',m<n→I m ρ' H'→J ρ' H')→goC P KP Q b (.rep keep J::st) ρ H):goL P KP Q keep b st ρ H:=by
 refine⟨I,⟨n0,h0⟩,fun n ρ H hI=>?_⟩
 exact hr n ρ H (fun ρ' H'=>∃ m,m<n∧I m ρ' H') hI fun m ρ' H' hm hi=>⟨m,hm,hi⟩
end
theorem upd_same (H:Heap) (b:Nat) (o:AObj):(H.upd b o) b=some o:=by simp[Heap.upd]
theorem upd_ne {H:Heap} {b c:Nat} {o:AObj} (h:c≠b):(H.upd b o) c=H c:=by simp[Heap.upd,h]
theorem upd_upd (H:Heap) (b:Nat) (o o':AObj):(H.upd b o).upd b o'=H.upd b o':=by funext c;simp only[Heap.upd];split<;>rfl
theorem ne_fresh {H:Heap} {b c:Nat} {o:AObj} (h:(H.upd b o) c=none):c≠b:=fun e=>by subst e;simp[Heap.upd] at h
theorem fresh_of {H:Heap} {b c:Nat} {o:AObj} (h:(H.upd b o) c=none):H c=none:=by have:=ne_fresh h;simpa[Heap.upd,this] using h
def keepL (ρ:Env):List Nat→List (Nat×AV)
 | []=>[]
 | n::l=>(n,ρ n)::keepL ρ l
theorem keepL_nil (ρ:Env):keepL ρ []=[]:=rfl
theorem keepL_cons (ρ:Env) (n:Nat) (l:List Nat):keepL ρ (n::l)=(n,ρ n)::keepL ρ l:=rfl
theorem keep_eq (ρ:Env) (l:List Nat):ρ.keep l=envOf (keepL ρ l):=by
 unfold Env.keep
 congr 1
 induction l with
 | nil=>rfl
 | cons n l ih=>simp[keepL,ih]
theorem evs_nil (ρ:Env):[].map (Opd.ev ρ)=[]:=rfl
theorem evs_cons (ρ:Env) (x:Opd) (xs:List Opd):(x::xs).map (Opd.ev ρ)=x.ev ρ::xs.map (Opd.ev ρ):=rfl
theorem if_Pt (a b:Prop):(if True then a else b)=a:=if_pos trivial
theorem if_Pf (a b:Prop):(if False then a else b)=b:=if_neg id
theorem if_Ot (a b:Option AV):(if True then a else b)=a:=if_pos trivial
theorem if_Of (a b:Option AV):(if False then a else b)=b:=if_neg id
theorem if_At (a b:AV):(if True then a else b)=a:=if_pos trivial
theorem if_Af (a b:AV):(if False then a else b)=b:=if_neg id
theorem set_none (ρ:Env) (c:AV):ρ.set none c=ρ:=rfl
theorem set_some (l:List (Nat×AV)) (d:Nat) (c:AV):(envOf l).set (some d) c=envOf ((d,c)::l):=rfl
theorem envOf_nil (n:Nat):envOf [] n=.any:=rfl
theorem ev_t (ρ:Env) (n:Nat):(Opd.t n).ev ρ=ρ n:=rfl
theorem ev_k (ρ:Env) (c:AV):(Opd.k c).ev ρ=c:=rfl
theorem ibeq (a b:Int):(a==b)=decide (a=b):=rfl
theorem ibne (a b:Int):(a != b)=decide (a≠b):=by rw[decide_not];rfl
theorem sbeq (a b:List UInt8):(a==b)=decide (a=b):=by by_cases h:a=b<;>simp[h]
theorem wrap64 {n:Int} (h1:-9223372036854775808≤n) (h2:n<9223372036854775808):IntKind.wrap .i64 n=n:=by rw[IntKind.wrap_i64];omega
def goPm (P:Program) (KP:AV→Heap→Prop) (Q:AExit→Env→Heap→Prop) (all l:List AItem) (st:List Fr) (d:Option Nat) (R:List Chk) (ρ:Env) (sz bytes:Nat) (zero:List AV) (x y:AV) (H:Heap):Prop :=
 appmK sz bytes zero x y H (fun v H'=>goR P KP Q all l st R (ρ.set d v) H')
def goZ (P:Program) (KP:AV→Heap→Prop) (Q:AExit→Env→Heap→Prop) (all l:List AItem) (st:List Fr) (d:Option Nat) (R:List Chk) (ρ:Env) (sz:Nat) (x:AV) (H:Heap):Prop :=
 frzK sz x H (fun v H'=>goR P KP Q all l st R (ρ.set d v) H')
section
variable {P:Program} {KP:AV→Heap→Prop} {Q:AExit→Env→Heap→Prop} {st:List Fr} {ρ:Env} {H:Heap} {all l:List AItem} {d:Option Nat} {R:List Chk}
theorem o_appm (sz bytes:Nat) (zero:List AV) (x y:Opd):goO P KP Q all l st d (.appm sz bytes zero x y) R ρ H=goPm P KP Q all l st d R ρ sz bytes zero (x.ev ρ) (y.ev ρ) H:=rfl
theorem o_frz (sz:Nat) (x:Opd):goO P KP Q all l st d (.frz sz x) R ρ H=goZ P KP Q all l st d R ρ sz (x.ev ρ) H:=rfl
theorem o_blsm (sz n:Nat) (zero:List AV) (qs:List (Nat×Opd)):goO P KP Q all l st d (.blsm sz n zero qs) R ρ H=goA P KP Q all l st d R ρ H (.blsm sz n zero qs) (oev ρ (.blsm sz n zero qs)):=goO_alloc _ rfl
end
theorem steps:type_of% (And.intro @go_skip<|And.intro @go_seq<|And.intro @go_join<|And.intro @go_reg<|And.intro @go_cond<|And.intro @go_block<|And.intro @go_scope<|And.intro @go_exit<|And.intro @go_ret<|And.intro @go_loop <|
 And.intro @goD_code<|And.intro @goD_blk<|And.intro @goD_rep<|And.intro @goD_nil<|And.intro @goE_nil<|And.intro @goE_ret_code<|And.intro @goE_ret_blk<|And.intro @goE_ret_rep<|And.intro @goE_exit_code<|And.intro @goE_exit_blk<|And.intro @goE_exit_rep <|
 And.intro @goI_nil<|And.intro @goI_cons<|And.intro @goI_guard<|And.intro @goR_nil<|And.intro @chkOf_nil<|And.intro @chkOf_cons<|And.intro @chkAt_some<|And.intro @goR_none<|And.intro @goR_some<|And.intro @o_mks<|And.intro @o_mksn<|And.intro @goG_tt<|And.intro @goG_ff<|And.intro @goG_tf<|And.intro @goG_ft<|And.intro @goG_no <|
 And.intro @goV_some<|And.intro @o_mv<|And.intro @o_pick<|And.intro @o_nilchk<|And.intro @o_bi<|And.intro @o_shf<|And.intro @o_bs<|And.intro @o_bb<|And.intro @o_eqa<|And.intro @o_isnil<|And.intro @o_isnn<|And.intro @o_ineg<|And.intro @o_ifnil<|And.intro @o_tas<|And.intro @o_not<|And.intro @o_cvi<|And.intro @o_cvid<|And.intro @o_cvb2s<|And.intro @o_bld<|And.intro @o_bls<|And.intro @o_mkfn<|And.intro @o_ext<|And.intro @o_mki<|And.intro @o_fa<|And.intro @o_fld<|And.intro @o_ia<|And.intro @o_ixs<|And.intro @o_sls<|And.intro @o_appm<|And.intro @o_frz<|And.intro @o_blsm<|And.intro @o_sll<|And.intro @o_sllx<|And.intro @o_slar<|And.intro @o_len<|And.intro @o_lens<|And.intro @o_mm<|And.intro @o_boxv<|And.intro @o_ld<|And.intro @o_lkp<|And.intro @o_lenm<|And.intro @o_alloc<|And.intro @o_box<|And.intro @o_mkm<|And.intro @o_call<|And.intro @o_app<|And.intro @o_st<|And.intro @goS_ptr<|And.intro @goT_cells<|And.intro @goB_t<|And.intro @goB_f <|
 And.intro @keep_eq<|And.intro @set_none<|And.intro @set_some<|And.intro @envOf_nil<|And.intro @envOf_cons<|And.intro @ev_t<|And.intro @ev_k<|And.intro @ibeq<|And.intro @ibne<|And.intro @sbeq <|
 And.intro @upd_same<|And.intro @upd_upd<|And.intro @evs_cons<|And.intro @evs_nil<|And.intro @keepL_cons<|And.intro @keepL_nil<|And.intro @if_Pt<|And.intro @if_Pf<|And.intro @if_Ot<|And.intro @if_Of<|And.intro @if_At<|And.intro @if_Af<|And.intro @and_self<|And.intro @true_and<|@and_true) :=
 And.intro @go_skip<|And.intro @go_seq<|And.intro @go_join<|And.intro @go_reg<|And.intro @go_cond<|And.intro @go_block<|And.intro @go_scope<|And.intro @go_exit<|And.intro @go_ret<|And.intro @go_loop <|
 And.intro @goD_code<|And.intro @goD_blk<|And.intro @goD_rep<|And.intro @goD_nil<|And.intro @goE_nil<|And.intro @goE_ret_code<|And.intro @goE_ret_blk<|And.intro @goE_ret_rep<|And.intro @goE_exit_code<|And.intro @goE_exit_blk<|And.intro @goE_exit_rep <|
 And.intro @goI_nil<|And.intro @goI_cons<|And.intro @goI_guard<|And.intro @goR_nil<|And.intro @chkOf_nil<|And.intro @chkOf_cons<|And.intro @chkAt_some<|And.intro @goR_none<|And.intro @goR_some<|And.intro @o_mks<|And.intro @o_mksn<|And.intro @goG_tt<|And.intro @goG_ff<|And.intro @goG_tf<|And.intro @goG_ft<|And.intro @goG_no <|
 And.intro @goV_some<|And.intro @o_mv<|And.intro @o_pick<|And.intro @o_nilchk<|And.intro @o_bi<|And.intro @o_shf<|And.intro @o_bs<|And.intro @o_bb<|And.intro @o_eqa<|And.intro @o_isnil<|And.intro @o_isnn<|And.intro @o_ineg<|And.intro @o_ifnil<|And.intro @o_tas<|And.intro @o_not<|And.intro @o_cvi<|And.intro @o_cvid<|And.intro @o_cvb2s<|And.intro @o_bld<|And.intro @o_bls<|And.intro @o_mkfn<|And.intro @o_ext<|And.intro @o_mki<|And.intro @o_fa<|And.intro @o_fld<|And.intro @o_ia<|And.intro @o_ixs<|And.intro @o_sls<|And.intro @o_appm<|And.intro @o_frz<|And.intro @o_blsm<|And.intro @o_sll<|And.intro @o_sllx<|And.intro @o_slar<|And.intro @o_len<|And.intro @o_lens<|And.intro @o_mm<|And.intro @o_boxv<|And.intro @o_ld<|And.intro @o_lkp<|And.intro @o_lenm<|And.intro @o_alloc<|And.intro @o_box<|And.intro @o_mkm<|And.intro @o_call<|And.intro @o_app<|And.intro @o_st<|And.intro @goS_ptr<|And.intro @goT_cells<|And.intro @goB_t<|And.intro @goB_f <|
 And.intro @keep_eq<|And.intro @set_none<|And.intro @set_some<|And.intro @envOf_nil<|And.intro @envOf_cons<|And.intro @ev_t<|And.intro @ev_k<|And.intro @ibeq<|And.intro @ibne<|And.intro @sbeq <|
 And.intro @upd_same<|And.intro @upd_upd<|And.intro @evs_cons<|And.intro @evs_nil<|And.intro @keepL_cons<|And.intro @keepL_nil<|And.intro @if_Pt<|And.intro @if_Pf<|And.intro @if_Ot<|And.intro @if_Of<|And.intro @if_At<|And.intro @if_Af<|And.intro @and_self<|And.intro @true_and<|@and_true
theorem Pure.go {P:Program} {f:FuncId} (af:AFn) (hc:chkFn P f af=true) {args:List AV} {r:AV} (hnp:args.length≤af.np)
  (h:∀ KP Q,(∀ e ρ H vs,(∀ i,e≠.exit i)→resvs ρ H af.res=some vs→(tupOf vs).strip=r→Q e ρ H)→goC P KP Q af.body [] (envOf (mkArgs 0 args)) Heap.emp):Pure P f args r :=
 Pure.of_fn af hc hnp (h _ _ fun e ρ H vs he hv hr=>finQ_pure he ⟨vs,hv,hr⟩)
def Owned (H:Heap) (o:Own) (n sz:Nat):Prop :=
 match o with
 | .no=>False
 | .nil=>n=0
 | .full=>True
 | .tip b d=>H b=some (.tip (d+n) sz)
def Kept (H:Heap) (o:Own) (H':Heap):Prop:=∀ b x,H b=some x→(∀ d,o≠.tip b d)→H' b=some x
def NewTip (H:Heap) (o o':Own):Prop:=∀ b d,o'=.tip b d→H b=none∨∃ d0,o=.tip b d0
theorem Owned.nil (H:Heap) (sz:Nat):Owned H .nil 0 sz:=rfl
theorem Owned.full (H:Heap) (n sz:Nat):Owned H .full n sz:=trivial
theorem goP_own {P:Program} {KP:AV→Heap→Prop} {Q:AExit→Env→Heap→Prop} {st:List Fr} {ρ:Env} {H:Heap} {all l:List AItem} {d:Option Nat} {R:List Chk} {sz bytes:Nat} {o o2:Own} {xs ys:List (List AV)}
  (how:Owned H o xs.length sz) (h1:(xs.length+ys.length)*bytes≤140737488355328) (h2:xs.length+ys.length≤maxLen)
  (hk:∀ o' H',Owned H' o' (xs.length+ys.length) sz→Kept H o H'→NewTip H o o'→goR P KP Q all l st R (ρ.set d (.sl o' sz (xs++ys.map (·.map AV.strip1)))) H') :
  goP P KP Q all l st d R ρ sz bytes (.sl o sz xs) (.sl o2 sz ys) H:=by
 refine⟨rfl,rfl,h1,h2,?_⟩
 cases o with
 | no=>exact how.elim
 | nil =>
  refine⟨fun hy=>?_,fun hy b hb=>hk _ _ (by simp[Owned,Heap.upd]) (fun c x hc hn=>?_) (fun c d' e=>?_)⟩
  ·subst hy
   have hx:xs=[]:=List.eq_nil_of_length_eq_zero how
   subst hx
   exact hk .nil H rfl (fun b x hb _=>hb) (fun b d' e=>by cases e)
  ·have hne:c≠b:=fun e=>by subst e;rw[hb] at hc;cases hc
   simp[Heap.upd,hne,hc]
  ·cases e;exact .inl hb
 | full =>
  refine⟨fun hy=>?_,fun hy b hb=>hk _ _ (by simp[Owned,Heap.upd]) (fun c x hc hn=>?_) (fun c d' e=>?_)⟩
  ·subst hy
   have:=hk .full H trivial (fun b x hb _=>hb) (fun b d' e=>by cases e)
   simpa using this
  ·have hne:c≠b:=fun e=>by subst e;rw[hb] at hc;cases hc
   simp[Heap.upd,hne,hc]
  ·cases e;exact .inl hb
 | tip b dr =>
  refine⟨how,fun b' dr' hb'=>hk _ _ (by simp[Owned,Heap.upd]) (fun c x hc hn=>?_) (fun c d' e=>?_)⟩
  ·have hcb:c≠b:=fun e=>by subst e;exact hn dr rfl
   have hcb':c≠b':=fun e=>by subst e;simp[Heap.del,hcb,hc] at hb'
   simp[Heap.upd,Heap.del,hcb,hcb',hc]
  ·cases e
   by_cases hbb:b'=b
   ·subst hbb;exact .inr ⟨dr,rfl⟩
   ·left;simpa[Heap.del,hbb] using hb'
theorem ACalls.go {P:Program} {f:FuncId} (af:AFn) (hc:chkFn P f af=true) {args:List AV} {H:Heap} {R:AV→Heap→Prop} (hnp:args.length≤af.np)
  (h:∀ KP Q,(∀ e ρ H1 H2 vs,(∀ i,e≠.exit i)→resvs ρ H1 af.res=some vs→Low H2 H1→R (tupOf vs).strip H2→Q e ρ H1)→goC P KP Q af.body [] (envOf (mkArgs 0 args)) H):ACalls P f args H (fun e H'=>∃ v,e=.ret v∧R v H'):=by
 refine ACalls.strip ((ACalls.of_fn (Q:=fun e H'=>match e with|.ret v=>R v.strip H'|.pan _=>False) af hc hnp (h _ _ fun e ρ H1 H2 vs he hv hs hr=>?_)).mono fun e H' hq=>?_)
 ·cases e with
  | exit i=>exact absurd rfl (he i)
  | normal=>simp only[finQ,hv];exact⟨H2,hs,hr⟩
  | ret=>simp only[finQ,hv];exact⟨H2,hs,hr⟩
 ·cases e with
  | ret v=>exact⟨_,rfl,hq⟩
  | pan v=>exact hq.elim
theorem goK_ret {P:Program} {KP:AV→Heap→Prop} {Q:AExit→Env→Heap→Prop} {st:List Fr} {ρ:Env} {H:Heap} {all l:List AItem} {d:Option Nat} {R:List Chk} {f:FuncId} {args:List AV} {X:AV→Heap→Prop}
  (h:ACalls P f args H (fun e H'=>∃ v,e=.ret v∧X v H')) (hk:∀ v H',X v H'→goR P KP Q all l st R (ρ.set d v) H'):goK P KP Q all l st d R ρ f args H :=
 h.mono fun e H' ⟨v,he,hx⟩=>by subst he;exact hk v H' hx
theorem ACalls.low {P:Program} {f:FuncId} {args:List AV} {H:Heap} {Q:AEnd→Heap→Prop} (h:ACalls P f (args.map AV.strip) H Q):ACalls P f args H Q :=
 fun γ w vs ht hs hv=>h γ w vs ht hs ⟨by simpa using hv.1,fun i c v hc hvv=>by
  rw[yg] at hc
  cases hx:args[i]? with
  | none=>simp[hx] at hc
  | some x=>simp only[hx,yb,Al1] at hc;subst hc;exact(hv.2 i x v hx hvv).strip⟩
theorem Pure.low {P:Program} {f:FuncId} {args:List AV} {r:AV} (h:Pure P f (args.map AV.strip) r):Pure P f args r:=ACalls.low h
theorem sub_refl (H:Heap):Sub H H:=fun _ _ h=>h
theorem sub_upd {A H:Heap} {b:Nat} {o:AObj} (h:Sub A H) (hb:H b=none):Sub A (H.upd b o):=fun c x hc=>by
 have hne:c≠b:=fun e=>by subst e;have:=h _ _ hc;rw[hb] at this;cases this
 simp only[Heap.upd,hne,if_false];exact h c x hc
structure OwnF (H0 H:Heap) (o:Own) (n sz:Nat):Prop where
 sub:Sub H0 H
 own:Owned H o n sz
 new:∀ b d,o=.tip b d→H0 b=none
theorem OwnF.nil (H:Heap) (sz:Nat):OwnF H H .nil 0 sz:=⟨sub_refl H,rfl,fun b d e=>by cases e⟩
theorem OwnF.step {H0 H H':Heap} {o o':Own} {n n' sz:Nat} (h:OwnF H0 H o n sz) (h1:Owned H' o' n' sz) (h2:Kept H o H') (h3:NewTip H o o'):OwnF H0 H' o' n' sz :=
 ⟨fun b x hb=>h2 b x (h.sub b x hb) fun d e=>(by have:=h.new b d e;rw[hb] at this;cases this),h1,fun b d e=>by
  rcases h3 b d e with h4|⟨d0,h4⟩
  ·cases hb:H0 b with
   | none=>rfl
   | some x=>have:=h.sub b x hb;rw[h4] at this;cases this
  ·exact h.new b d0 h4⟩
theorem OwnF.cast {H0 H:Heap} {o:Own} {n n' sz:Nat} (h:OwnF H0 H o n sz) (e:n=n'):OwnF H0 H o n' sz:=e▸h
theorem Owned.upd {H:Heap} {o:Own} {n sz b:Nat} {x:AObj} (h:Owned H o n sz) (hb:H b=none):Owned (H.upd b x) o n sz:=by
 cases o with
 | tip c d =>
  have hc:H c=some (.tip (d+n) sz):=h
  have hne:c≠b:=fun e=>by subst e;rw[hb] at hc;cases hc
  show (H.upd b x) c=_
  simp[Heap.upd,hne,hc]
 | no=>exact h
 | nil=>exact h
 | full=>exact h
theorem OwnF.upd {H0 H:Heap} {o:Own} {n sz b:Nat} {x:AObj} (h:OwnF H0 H o n sz) (hb:H b=none):OwnF H0 (H.upd b x) o n sz:=⟨sub_upd h.sub hb,h.own.upd hb,h.new⟩
theorem ne_of_none {H:Heap} {b c:Nat} {x:AObj} (hb:H b=none) (hc:H c=some x):b≠c:=fun e=>by subst e;rw[hb] at hc;cases hc
theorem splice_cons (c:AV) (cs:List AV) (v:AV) (vs:List AV):splice (c::cs) 0 (v::vs)=v::splice cs 0 vs:=by simp[splice]
theorem splice_succ (c:AV) (cs:List AV) (n:Nat) (vs:List AV):splice (c::cs) (n+1) vs=c::splice cs n vs:=by simp[splice,Nat.add_right_comm]
theorem splice_zero (cs:List AV):splice cs 0 []=cs:=by simp[splice]
open Go.ChangeAt Go.ChangeShapes Go.RowKit Go.WideElems Go.WideShapes
def immG:Gh:=fun _=>.imm
section
variable {P:Program} {m:Nat} {t:TypeId}
theorem fill_one {γ:Gh} {w:World} {c:AV} {v:Value} (h:Rep γ w c v) (h1:v.oneCell'=true):fillRel γ w [c] [v] :=
 ⟨rfl,fun i u hu=>by cases i<;>simp at hu;subst hu;exact h1,fun i d u hd hu=>by cases i<;>simp at hd hu;subst hd;subst hu;exact h⟩
theorem addr_add_add (a:Addr) (x y:Nat):(a.add x).add y=a.add (x+y):=by
 unfold Addr.add
 by_cases hx:x=0
 ·subst hx;simp
 ·by_cases hy:y=0
  ·subst hy;simp[hx]
  ·simp[hx,hy,Nat.add_assoc]
theorem weights_all {H:Type} {e:TypeId}:∀ {ds:List (DataW H)} {d:DataW H},d∈ds→∀ n∈d.weights P e,n∈DataW.weightsAll P e ds
 | x::ds,d,hd,n,hn=>by
  simp only[DataW.weightsAll,List.mem_append]
  rcases List.mem_cons.1 hd with rfl|hd
  ·exact .inl hn
  ·exact .inr (weights_all hd n hn)
def flds (P:Program) (t:TypeId):Option (List (Nat×TypeId)) :=
 match P.underlying t with
 | some (.struct fs)=>some (fs.toList.map fun f=>(f.offset,f.type))
 | _=>none
theorem flds_some {P:Program} {t:TypeId} {l:List (Nat×TypeId)} (h:flds P t=some l):∃ fs:Array Field,P.underlying t=some (.struct fs)∧fs.toList.map (fun f=>(f.offset,f.type))=l:=by
 unfold flds at h
 split at h
 ·rename_i fs hf;simp only[Al1] at h;exact⟨fs,hf,h⟩
 ·cases h
end
theorem isAgg {P:Program} {W:World} {r:Reach} {b:Nat} {t:TypeId} {v:Value} {l:List (Nat×TypeId)} (ht:flds P t=some l) (h:Value.okWide P W r b t v):∃ cs,v=.agg cs:=by
 obtain⟨fs,hf,_⟩:=flds_some ht
 simp only[Value.okWide,hf] at h
 obtain⟨cs,rfl,_⟩:=h
 exact⟨cs,rfl⟩
theorem sized {P:Program} {H:Type} {ts:List TypeId} {ds:List (DataW H)} (h:(DataW.weightsEach P ts ds).all (·≤reachBytes)=true) {j:Nat} {t:TypeId} {d:DataW H} (ht:ts[j]?=some t) (hd:ds[j]?=some d):∀ n∈d.weights P t,n≤reachBytes:=fun n hn=>by
 have:=yx.1 h n (DataW.weights_mem_each ht hd n hn)
 simpa using this
theorem trodAll_stays {P:Program} {H:Type} {enc:TypeId×Value→H} (hl:laidOutB P=true) {W W':World} {sp':Nat→Bool}:∀ {ts:List TypeId} {vs:List Value} {ds:List (DataW H)} {ps:List MemPlace},
  (∀ t∈ts,P.readableRec t=true∧t<P.types.size)→DataW.TrodAll enc P W 0 (fun _=>true) true ts vs ds ps→(∀ p∈ps,W.sameAt W' p)→(∀ p∈ps,sp' p.block=true)→DataW.TrodAll enc P W' 0 sp' true ts vs ds ps
 | [],_,_,_,_,h,_,_=>by
  obtain⟨rfl,rfl,rfl⟩:=trodAll_nil h
  exact rfl
 | t::ts,_,_,_,hr,h,hs,hsp=>by
  obtain⟨v,vs1,d,ds1,a,b,rfl,rfl,rfl,h1,h2⟩:=trodAll_cons h
  exact⟨a,b,Trod_stays hl (hr t (yI ..)).1 (hr t (yI ..)).2 h1 (fun p hp=>hs p (Z9 _ hp)) (fun p hp=>hsp p (Z9 _ hp)),
   trodAll_stays hl (fun t ht=>hr t (Za _ ht)) h2 (fun p hp=>hs p (List.mem_append_right _ hp)) (fun p hp=>hsp p (List.mem_append_right _ hp)),rfl⟩
theorem post_of_same_old {P:Program} {H:Type} {enc:TypeId×Value→H} {f:Func} {s:ChangeSpec} {apart fresh handsOn again:Bool} {W W':World} {args:Array Value} {v:Value} {ds gs:List (DataW H)} {before pa pv:List MemPlace}
  (hW:DataW.Whole enc P f.params.toList s.vars apart W args.toList ds gs before)
  (hres:∀(b:Nat) (sp:Nat→Bool) (hd:Bool),DataW.TrodAll enc P W' b sp hd f.resultTypes.toList (v.resultList f.resultTypes.size) (s.fn H (ds++gs)).results [])
  (hargs:∀ sp:Nat→Bool,(∀ p∈before,sp p.block=true)→DataW.TrodAll enc P W' 0 sp true f.params.toList args.toList (s.fn H (ds++gs)).args pa)
  (hvars:∀ sp:Nat→Bool,(∀ p∈before,sp p.block=true)→DataW.TrodVars enc P W' sp s.vars (s.fn H (ds++gs)).vars pv)
  (hps:before=pa++pv) (hk:W.keptBut W' (·∈before)) (hfz:∀ a,a.block<W.heap.size→W'.frozen? a=W.frozen? a)
  (hok:∀(j:Nat) (t:TypeId) (r:Value),f.resultTypes[j]?=some t→(v.resultList f.resultTypes.size)[j]?=some r→Value.okWide P W' .any 0 t r) :
  s.post enc P f apart fresh handsOn again W args v W':=by
 have hlt:∀ p∈before,p.block<W.heap.size:=fun p hp=>hW.lt p hp
 have hold:∀ p∈before,(fun b=>decide (b<W.heap.size)) p.block=true:=fun p hp=>by simpa using hlt p hp
 refine⟨ds,gs,before,[],pa,pv,hW,hres _ _ _,hargs _ hold,hvars _ hold,World.keptBut_mono (fun p hp=>⟨hp,?_⟩) hk,fun _=>?_⟩
 ·rw[hps,List.mem_append] at hp
  exact Or.inr hp
 ·obtain⟨_,_,_,_,_,hz,hn⟩:=hW
  refine⟨hok,_,_,([]++pa)++pv,⟨[]++pa,pv,trodAll_append (hargs _ (fun _ _=>rfl)) (hres _ _ _),hvars _ (fun _ _=>rfl),rfl,?_,?_⟩,?_⟩
  ·intro b off hp
   have hp':MemPlace.cell b off∈before:=by rw[hps];simpa using hp
   rw[hfz _ (hlt _ hp')]
   exact hz b off hp'
  ·intro ha
   have:=hn ha
   rw[hps] at this
   simpa using this
  ·intro p hp _
   rw[hps]
   simpa using hp
theorem law_contract {P:Program} {f:FuncId} {fn:Func} {s:ChangeSpec} {apart fresh handsOn again:Bool} {H:Type} {enc:TypeId×Value→H} {W:World} {args:Array Value} {ds gs:List (DataW H)} {before:List MemPlace} {tb:TypeId}
  (hl:laidOutB P=true) (hvars:s.vars=[]) (hr:∀ t∈fn.params.toList,P.readableRec t=true∧t<P.types.size) (hres:fn.resultTypes=#[tb]) (htb:P.underlying tb=some .bool)
  (hW:DataW.Whole enc P fn.params.toList s.vars apart W args.toList ds gs before) (hs:s.fn H (ds++gs)={ results:=[.lit (.bool true)],args:=ds })
  {avs:List AV} (htab:TabOk immG W) (hrep:RepAll immG W avs args.toList) (hp:Pure P f avs (.bool true)) :
  Calls P f args W fun e W'=>∃ v,e=.returned v∧s.post enc P fn apart fresh handsOn again W args v W':=by
 have h:=hp immG W args.toList htab (fun b o hb=>by simp[Heap.emp] at hb) hrep
 have ha:args.toList.toArray=args:=by simp
 rw[ha] at h
 refine h.mono fun e W' ⟨γ',H',r,hext,_,_,hend,hq,_⟩=>?_
 subst hq
 cases e with
 | panicked ch=>exact hend.elim
 | outgrown=>exact hend.elim
 | returned v =>
  have hv:Rep γ' W' (.bool true) v:=hend
  cases hv
  refine⟨_,rfl,?_⟩
  have hframe:∀ b,b<W.heap.size→W'.heap[b]?=W.heap[b]?:=fun b hb=>(hext.frame b hb (by simp[Heap.emp])).2
  obtain⟨p,q,hA,hV,rfl,hfz,hnd⟩:=id hW
  rw[hvars] at hV
  obtain⟨rfl,rfl⟩:=trodVars_none hV
  have hlt:∀ x∈p,x.block<W.heap.size:=fun x hx=>hW.lt x (Z9 _ hx)
  have hsame:∀ x∈p,W.sameAt W' x:=fun x hx=>by
   have h1:=hframe _ (hlt x hx)
   cases x with
   | cell b off =>
    simp only[MemPlace.block] at h1
    simp only[World.sameAt,World.cell?,h1]
   | map b=>exact h1
  refine post_of_same_old (pa:=p) (pv:=[]) hW (fun b sp hd=>?_) (fun sp hsp=>?_) (fun sp hsp=>?_) rfl ⟨hext.os,hext.output,fun i hi=>?_⟩ hext.frozen ?_
  ·rw[hres,hs]
   exact trodAll_mk1 (shut_bool htb true)
  ·rw[hs]
   exact trodAll_stays hl hr hA hsame fun x hx=>hsp x (Z9 _ hx)
  ·rw[hs,hvars]
   exact rfl
  ·rw[hframe i hi]
   cases W.heap[i]? with
   | none=>rfl
   | some o=>cases o<;>first|exact⟨rfl,rfl,rfl,fun _ _=>rfl⟩|exact .inr ⟨rfl,rfl⟩|rfl
  ·exact ok_one hres rfl (okWide_bool_mk htb true)
end Go.Ab
namespace Go.Ab
def setAll (ρ:Env):List (Nat×AV)→Env
 | []=>ρ
 | (d,v)::r=>(setAll ρ r).set (some d) v
theorem setAll_nil (ρ:Env):setAll ρ []=ρ:=rfl
theorem setAll_cons (ρ:Env) (d:Nat) (v:AV) (r:List (Nat×AV)):setAll ρ ((d,v)::r)=(setAll ρ r).set (some d) v:=rfl
section
variable {P:Program} {KP:AV→Heap→Prop} {Q:AExit→Env→Heap→Prop} {st:List Fr} {ρ:Env} {H:Heap} {keep:List Nat} {b:AC}
theorem goJ {J:Env→Heap→Prop} {a b:Env} {H:Heap} (h:J a H) (e:b=a):J b H:=e▸h
theorem goL_st {σ:Type} (m:σ→List (Nat×AV)) (I:σ→Heap→Prop) (meas:σ→Nat) (s0:σ) (hm:ρ.keep keep=(setAll ρ (m s0)).keep keep) (h0:I s0 H)
  (hr:∀ s H' J,I s H'→(∀ s' H'',meas s'<meas s→I s' H''→J ((setAll ρ (m s')).keep keep) H'')→goC P KP Q b (.rep keep J::st) ((setAll ρ (m s)).keep keep) H'):goL P KP Q keep b st ρ H:=by
 refine goL_rule (fun n ρ' H'=>∃ s,n=meas s∧ρ'=(setAll ρ (m s)).keep keep∧I s H') (meas s0) ⟨s0,rfl,hm,h0⟩ ?_
 rintro n ρ' H' J ⟨s,rfl,rfl,hs⟩ hJ
 exact hr s H' J hs fun s' H'' h1 h2=>hJ _ _ _ h1 ⟨s',rfl,rfl,h2⟩
theorem goU_cut {σ:Type} {keep:List Nat} {a b:AC} (m:σ→List (Nat×AV)) (I:σ→Heap→Prop)
  (ha:∀ J,(∀ s H',I s H'→J ((setAll ρ (m s)).keep keep) H')→goC P KP Q a (.rep keep J::st) ρ H)
  (hb:∀ s H',I s H'→goC P KP Q b st ((setAll ρ (m s)).keep keep) H'):goU P KP Q keep a b st ρ H :=
 ⟨fun ρ' H'=>∃ s,ρ'=(setAll ρ (m s)).keep keep∧I s H',ha (fun ρ' H'=>∃ s,ρ'=(setAll ρ (m s)).keep keep∧I s H') fun s H' h=>⟨s,rfl,h⟩,fun ρ' H' h=>by
  obtain⟨s,e,h⟩:=h
  rw[e];exact hb s H' h⟩
theorem goL_range {α σ:Type} (l:List α) (ci:Nat) (m:σ→List (Nat×AV)) (I:List α→List α→σ→Heap→Prop) (s0:σ) (hm:ρ.keep keep=(setAll ρ ((ci,.int .i64 0)::m s0)).keep keep) (h0:I [] l s0 H)
  (hend:∀ s H' J,I l [] s H'→¬ ((l.length:Int)<l.length)→goC P KP Q b (.rep keep J::st) ((setAll ρ ((ci,.int .i64 l.length)::m s)).keep keep) H')
  (hr:∀ done x rest s H' J,l=done++x::rest→(done.length:Int)<l.length→done.length<l.length→I done (x::rest) s H' →
   (∀ s' H'',I (done++[x]) rest s' H''→J ((setAll ρ ((ci,.int .i64 ((done.length:Int)+1))::m s')).keep keep) H'')→goC P KP Q b (.rep keep J::st) ((setAll ρ ((ci,.int .i64 done.length)::m s)).keep keep) H'):goL P KP Q keep b st ρ H:=by
 refine goL_st (σ:=List α×List α×σ) (fun s=>(ci,.int .i64 s.1.length)::m s.2.2) (fun s H'=>l=s.1++s.2.1∧I s.1 s.2.1 s.2.2 H') (fun s=>s.2.1.length) ([],l,s0) (by simpa using hm) ⟨rfl,h0⟩ ?_
 rintro⟨done,rest,s⟩ H' J ⟨hl,hi⟩ hJ
 cases rest with
 | nil =>
  simp only[List.append_nil] at hl
  subst hl
  exact hend s H' J hi (by omega)
 | cons x rest =>
  have h1:done.length<l.length:=by rw[hl];simp
  refine hr done x rest s H' J hl (by omega) h1 hi fun s' H'' hi'=>?_
  have:=hJ (done++[x],rest,s') H'' (by simp) ⟨by simp[hl],hi'⟩
  simpa using this
end
section
variable {P:Program} {KP:AV→Heap→Prop} {Q:AExit→Env→Heap→Prop} {st:List Fr} {ρ:Env} {H:Heap} {all l:List AItem} {d:Option Nat} {R:List Chk}
def goW (P:Program) (KP:AV→Heap→Prop) (Q:AExit→Env→Heap→Prop) (all l:List AItem) (st:List Fr) (d:Option Nat) (R:List Chk) (ρ:Env) (v:AV) (args:List AV) (H:Heap):Prop :=
 match v with
 | .clo f first caps=>Program.callable P f=true∧goK P KP Q all l st d R ρ f (first++args++caps) H
 | _=>False
theorem o_callv (g:Opd) (args:List Opd):goO P KP Q all l st d (.callv g args) R ρ H=goW P KP Q all l st d R ρ (g.ev ρ) (args.map (Opd.ev ρ)) H:=by
 simp only[goO,aop,AOp.cls,eff,goW,goK]
 cases g.ev ρ<;>rfl
theorem goW_clo (f:FuncId) (first caps args:List AV):goW P KP Q all l st d R ρ (.clo f first caps) args H=(Program.callable P f=true∧goK P KP Q all l st d R ρ f (first++args++caps) H):=rfl
def goX (P:Program) (KP:AV→Heap→Prop) (Q:AExit→Env→Heap→Prop) (all l:List AItem) (st:List Fr) (d:Option Nat) (R:List Chk) (ρ:Env) (x y:AV) (H:Heap):Prop :=
 match y with
 | .str s=>goP P KP Q all l st d R ρ 1 1 x (.sl .no 1 (bytesOf s)) H
 | _=>False
theorem o_apps (x y:Opd):goO P KP Q all l st d (.apps x y) R ρ H=goX P KP Q all l st d R ρ (x.ev ρ) (y.ev ρ) H:=by
 simp only[goO,aop,AOp.cls,eff,goX,goP]
 cases y.ev ρ<;>rfl
theorem goX_str (x:AV) (s:List UInt8):goX P KP Q all l st d R ρ x (.str s) H=goP P KP Q all l st d R ρ 1 1 x (.sl .no 1 (bytesOf s)) H:=rfl
def goN (KP:AV→Heap→Prop) (v:AV) (H:Heap):Prop :=
 match v with
 | .ifc t y=>KP (.ifc t y) H
 | _=>False
theorem o_pan (x:Opd):goO P KP Q all l st d (.pan x) R ρ H=goN KP (x.ev ρ) H:=by
 simp only[goO,aop,AOp.cls,eff,goN]
 cases x.ev ρ<;>rfl
theorem goN_ifc (t:TypeId) (y:AV):goN KP (.ifc t y) H=KP (.ifc t y) H:=rfl
def goM (P:Program) (KP:AV→Heap→Prop) (Q:AExit→Env→Heap→Prop) (all l:List AItem) (st:List Fr) (d:Option Nat) (R:List Chk) (ρ:Env) (kt:KT) (b:Nat) (k v:AV) (H:Heap) (o:Option AObj):Prop :=
 match o with
 | some (.map kt' es)=>kt'=kt∧kt.fits k=true∧goR P KP Q all l st R (ρ.set d (.tup [])) (H.upd b (.map kt (mset es k v)))
 | _=>False
def goM0 (P:Program) (KP:AV→Heap→Prop) (Q:AExit→Env→Heap→Prop) (all l:List AItem) (st:List Fr) (d:Option Nat) (R:List Chk) (ρ:Env) (kt:KT) (m k v:AV) (H:Heap):Prop :=
 match m with
 | .mp b=>goM P KP Q all l st d R ρ kt b k v H (H b)
 | _=>False
theorem o_mup (kt:KT) (m k v:Opd):goO P KP Q all l st d (.mup kt m k v) R ρ H=goM0 P KP Q all l st d R ρ kt (m.ev ρ) (k.ev ρ) (v.ev ρ) H:=by
 simp only[goO,aop,AOp.cls,eff,goM0,goM]
 cases m.ev ρ<;>rfl
theorem goM0_mp (kt:KT) (b:Nat) (k v:AV):goM0 P KP Q all l st d R ρ kt (.mp b) k v H=goM P KP Q all l st d R ρ kt b k v H (H b):=rfl
theorem goM_map (kt kt':KT) (b:Nat) (es:List (AV×AV)) (k v:AV):goM P KP Q all l st d R ρ kt b k v H (some (.map kt' es))=(kt'=kt∧kt.fits k=true∧goR P KP Q all l st R (ρ.set d (.tup [])) (H.upd b (.map kt (mset es k v)))):=rfl
theorem ACalls.goO {P:Program} {f:FuncId} (af:AFn) (hc:chkFn P f af=true) {args:List AV} {H:Heap} {R RP:AV→Heap→Prop} (hnp:args.length≤af.np)
  (h:∀ KP Q,(∀ e ρ H1 H2 vs,(∀ i,e≠.exit i)→resvs ρ H1 af.res=some vs→Low H2 H1→R (tupOf vs) H2→Q e ρ H1)→(∀ v H1 H2,Low H2 H1→RP v H2→KP v H1)→goC P KP Q af.body [] (envOf (mkArgs 0 args)) H) :
  ACalls P f args H (fun e H'=>match e with|.ret v=>R v H'|.pan v=>RP v H'):=by
 refine ACalls.of_fn (Q:=fun e H'=>match e with|.ret v=>R v H'|.pan v=>RP v H') af hc hnp (h _ _ (fun e ρ H1 H2 vs he hv hs hr=>?_) fun v H1 H2 hl hr=>⟨H2,hl,hr⟩)
 cases e with
 | exit i=>exact absurd rfl (he i)
 | normal=>simp only[finQ,hv];exact⟨H2,hs,hr⟩
 | ret=>simp only[finQ,hv];exact⟨H2,hs,hr⟩
theorem goK_both {f:FuncId} {args:List AV} {X XP:AV→Heap→Prop} (h:ACalls P f args H (fun e H'=>match e with|.ret v=>X v H'|.pan v=>XP v H')) (hk:∀ v H',X v H'→goR P KP Q all l st R (ρ.set d v) H') (hp:∀ v H',XP v H'→KP v H') :
  goK P KP Q all l st d R ρ f args H :=
 h.mono fun e H' hx=>by cases e with|ret v=>exact hk v H' hx|pan v=>exact hp v H' hx
end
structure OwnS (H:Heap) (o:Own) (H':Heap) (o':Own) (n sz:Nat):Prop where
 own:Owned H' o' n sz
 kept:Kept H o H'
 new:NewTip H o o'
theorem OwnS.refl {H:Heap} {o:Own} {n sz:Nat} (h:Owned H o n sz):OwnS H o H o n sz:=⟨h,fun b x hb _=>hb,fun b d e=>.inr ⟨d,e⟩⟩
theorem OwnS.trans {H H1 H2:Heap} {o o1 o2:Own} {n n2 sz:Nat} (h:OwnS H o H1 o1 n sz) (h':OwnS H1 o1 H2 o2 n2 sz):OwnS H o H2 o2 n2 sz:=by
 refine⟨h'.own,fun b x hb hn=>h'.kept b x (h.kept b x hb hn) fun d e=>?_,fun b d e=>?_⟩
 ·rcases h.new b d e with h1|⟨d0,h1⟩
  ·rw[hb] at h1;cases h1
  ·exact hn d0 h1
 ·rcases h'.new b d e with h1|⟨d0,h1⟩
  ·cases hb:H b with
   | none=>exact .inl rfl
   | some x =>
    by_cases hx:∃ d,o=.tip b d
    ·exact .inr hx
    ·have:=h.kept b x hb (fun d e=>hx ⟨d,e⟩);rw[h1] at this;cases this
  ·exact h.new b d0 h1
theorem OwnS.upd {H H1:Heap} {o o1:Own} {n sz b:Nat} {x:AObj} (h:OwnS H o H1 o1 n sz) (hb:H1 b=none):OwnS H o (H1.upd b x) o1 n sz:=by
 refine⟨h.own.upd hb,fun c y hc hn=>?_,h.new⟩
 have:=h.kept c y hc hn
 have hne:c≠b:=fun e=>by subst e;rw[hb] at this;cases this
 simp only[Heap.upd,hne,if_false];exact this
theorem OwnF.stepS {H0 H H':Heap} {o o':Own} {n n' sz:Nat} (h:OwnF H0 H o n sz) (h':OwnS H o H' o' n' sz):OwnF H0 H' o' n' sz:=h.step h'.own h'.kept h'.new
theorem goP_ownS {P:Program} {KP:AV→Heap→Prop} {Q:AExit→Env→Heap→Prop} {st:List Fr} {ρ:Env} {H:Heap} {all l:List AItem} {d:Option Nat} {R:List Chk} {sz bytes:Nat} {o o2:Own} {xs ys:List (List AV)}
  (how:Owned H o xs.length sz) (h1:(xs.length+ys.length)*bytes≤140737488355328) (h2:xs.length+ys.length≤maxLen)
  (hk:∀ o' H',OwnS H o H' o' (xs.length+ys.length) sz→goR P KP Q all l st R (ρ.set d (.sl o' sz (xs++ys.map (·.map AV.strip1)))) H') :
  goP P KP Q all l st d R ρ sz bytes (.sl o sz xs) (.sl o2 sz ys) H:=goP_own how h1 h2 fun o' H' a b c=>hk o' H' ⟨a,b,c⟩
theorem getD_mid' {α:Type} {f:α→List AV} {l a:List α} {x:α} {b:List α} (h:l=a++x::b):(List.map f l).getD a.length []=f x:=by subst h;simp
theorem Pure.of_calls {P:Program} {f:FuncId} {args:List AV} {r:AV} (h:∀(γ:Gh) (w:World) (vs:List Value),TabOk γ w→RepAll γ w args vs→Calls P f vs.toArray w fun e w'=>w'=w∧∃ v,e=.returned v∧Rep γ w r v):Pure P f args r:=by
 intro γ w vs ht _ hv
 refine(h γ w vs ht hv).mono fun e w' ⟨hw,v,he,hr⟩=>?_
 subst hw;subst he
 exact⟨γ,Heap.emp,.ret r,.refl _ _ _,fun b o hb=>by simp[Heap.emp] at hb,fun b hb=>by simp[Heap.emp] at hb,hr,rfl,rfl⟩
def ModeRel (γ:Gh) (w:World):Option AV→FrameMode→Prop
 | none,u=>u=.returning
 | some c,u=>∃ v,u=.panicking [{ v,recovered:=false }]∧Rep γ w c v
def recMode:FrameMode→FrameMode
 | .panicking ({ v,recovered:=false,goexit:=false }::older)=>.panicking ({ v,recovered:=true }::older)
 | u=>u
def ACallsD (P:Program) (f:FuncId) (args:List AV) (rv:Option AV) (H:Heap) (Q:Heap→Prop):Prop :=
 ∀(γ:Gh) (w:World) (vs:List Value) (u:FrameMode),TabOk γ w→StateRel γ w H→RepAll γ w args vs→ModeRel γ w rv u →
  CallsD P f vs.toArray u w fun e u' w'=>∃ γ' H' v,e=.returned v∧u'=recMode u∧Ext (fun b=>(H b).isSome=true) γ w γ' w'∧StateRel γ' w' H' ∧
   (∀ b,(H' b).isSome=true→(H b).isSome=true∨w.heap.size≤b)∧Q H'
theorem ACallsD.mono {P:Program} {f:FuncId} {args:List AV} {rv:Option AV} {H:Heap} {Q Q':Heap→Prop} (h:ACallsD P f args rv H Q) (hq:∀ H',Q H'→Q' H'):ACallsD P f args rv H Q' :=
 fun γ w vs u ht hs hv hu=>(h γ w vs u ht hs hv hu).mono fun _ _ _ ⟨γ',H',v,a,b,c,d,e,q⟩=>⟨γ',H',v,a,b,c,d,e,hq _ q⟩
theorem ACallsD.beside {P:Program} {f:FuncId} {args:List AV} {rv:Option AV} {H:Heap} {Q:Heap→Prop} {b:Nat} {o:AObj} (hb:H b=none) (h:ACallsD P f args rv H Q) :
  ACallsD P f args rv (H.upd b o) (fun H'=>∃ H0,H0 b=none∧H'=H0.upd b o∧Q H0):=by
 intro γ w vs u ht hs hv hu
 have hne:∀ c x,H c=some x→c≠b:=fun c x hc e=>by subst e;rw[hb] at hc;cases hc
 have hA:StateRel γ w H:=hs.sub fun c x hc=>by simp[Heap.upd,hne c x hc,hc]
 have hB:ObjRel γ w b o:=hs b o (by simp[Heap.upd])
 refine(h γ w vs u ht hA hv hu).mono fun e u' w' ⟨γ',H',v,he,hu',hext,hst,hk,hq⟩=>?_
 have hHb:H' b=none:=by
  cases hx:H' b with
  | none=>rfl
  | some x =>
   rcases hk b (by simp[hx]) with h1|h1
   ·simp[hb] at h1
   ·have:=hB.lt;omega
 refine⟨γ',H'.upd b o,v,he,hu',hext.weaken fun c hc=>?_,fun c x hc=>?_,fun c hc=>?_,H',hHb,rfl,hq⟩
 ·unfold Heap.upd;split
  ·rfl
  ·exact hc
 ·unfold Heap.upd at hc
  split at hc
  ·rename_i e;subst e
   simp only[Al1] at hc;subst hc
   obtain⟨g,k⟩:=hext.frame _ hB.lt (by simp[hb])
   exact hB.kept hext.mono g k
  ·exact hst c x hc
 ·unfold Heap.upd at hc ⊢
  split at hc
  ·rename_i e;subst e;left;simp
  ·rename_i e
   simp only[e,if_false]
   exact hk c hc
theorem wpOpsS_of_wpOps {P:Program} {ops:Array Oper} {Q:Exit→Act→List Frame→World→Prop} {cs:List Frame} (hno:∀ a w,¬ Q .outgrown a cs w):∀(l:List Nat) (a:Act) (w:World),wpOps P ops (fun e a w=>Q e a cs w) l a w→wpOpsS P ops Q l a cs w
 | [],a,w,h=>h
 | i::rest,a,w,h=>by
  simp only[wpOps] at h
  simp only[wpOpsS]
  cases ho:ops[i]? with
  | none=>simp only[ho] at h ⊢;exact wpOpsS_of_wpOps hno rest a w h
  | some o =>
   simp only[ho] at h ⊢
   by_cases hw:Region.wanted o (yielded ops a.tmps)=true
   ·simp only[hw,if_true] at h ⊢
    rcases h with h|⟨_,a0,w0,h0⟩
    ·unfold Oper.wp at h
     generalize (execOp a.eval o).run P w=r at h ⊢
     have ih:=wpOpsS_of_wpOps (P:=P) (ops:=ops) hno rest
     cases r with
     | ok n w' =>
      cases n<;>first|exact ih _ _ h|exact h.elim|skip
      ·exact Calls.mono h fun e w2 hq=>by cases e<;>first|exact ih _ _ hq|exact hq
      ·rename_i row args
       intro c cs'
       obtain⟨v,w2,hq,hs⟩:=h c cs'
       exact⟨v,w2,ih _ _ hq,hs⟩
     | halt x w'=>cases x<;>first|exact h|exact h.elim
    ·exact(hno _ _ h0).elim
   ·simp only[hw,if_false,Al7] at h ⊢
    exact wpOpsS_of_wpOps hno rest _ _ h
structure ADfn where
 N:Nat
 np:Nat
 d:Nat
 items:List AItem
 body:AC
def isRecover (o:Oper) (n:Nat):Bool :=
 decide (o.dst=some n)&&o.guard.isNone&&(match o.op with
  | .call c=>(match c.callee with|.builtin .recover=>true|_=>false)&&decide (c.args.size=0)
  | _=>false)
def chkDfn (P:Program) (f:FuncId) (ad:ADfn):Bool :=
 match P.funcs[f]? with
 | some fn=>match fn.body with
  | some (.seq (.region _ ops false) code)=>decide (fn.ntmps=ad.N)&&decide (ad.np≤ad.N)&&decide (ad.d<ad.N)&&decide (fn.results.size=0) &&
    (match ops.toList with|o::r=>isRecover o ad.d&&decide (r.length=ad.items.length)&&((r.zip ad.items).all fun x=>chkItem ad.N 0 ops P x.1 x.2)|[]=>false)&&chkCode P ad.N 0 code ad.body&&ad.body.plain
  | _=>false
 | none=>false
def finD (Q:Heap→Prop):AExit→Env→Heap→Prop
 | .exit _,_,_=>False
 | _,_,H=>Q H
theorem isRecover_spec {o:Oper} {d:Nat} (h:isRecover o d=true):o.dst=some d∧o.guard=none∧∃ c,o.op=.call c∧c.callee=.builtin .recover∧c.args=#[]:=by
 unfold isRecover at h
 simp only[Al0,zp,Option.isNone_iff_eq_none] at h
 obtain⟨⟨h1,h2⟩,h3⟩:=h
 refine⟨h1,h2,?_⟩
 split at h3
 ·rename_i c hc
  simp only[Al0,zp] at h3
  obtain⟨h3,h4⟩:=h3
  split at h3
  ·rename_i hcal;exact⟨c,hc,hcal,by simpa using h4⟩
  ·cases h3
 ·cases h3
theorem ACallsD.of_fn {P:Program} {f:FuncId} (ad:ADfn) (hc:chkDfn P f ad=true) {args:List AV} {rv:Option AV} {H:Heap} {Q:Heap→Prop} (hnp:args.length≤ad.np)
  (h:awpItems P (fun _ _=>False) (annot ad.items) ((envOf (mkArgs 0 args)).set (some ad.d) (rv.getD (.oth .nilIface))) H fun ρ' H'=>awp P (fun _ _=>False) ad.body (finD Q) ρ' H'):ACallsD P f args rv H Q:=by
 intro γ w vs u ht hs hv hu
 unfold chkDfn at hc
 cases hfn:P.funcs[f]? with
 | none=>simp[hfn] at hc
 | some fn =>
  simp only[hfn] at hc
  split at hc
  ·rename_i id ops code hbody
   simp only[Al0,zp] at hc
   obtain⟨⟨⟨⟨⟨⟨hN,hnpN⟩,hd⟩,hres⟩,hops⟩,hcode⟩,hpl⟩:=hc
   split at hops
   ·rename_i o r hor
    simp only[Al0,zp] at hops
    obtain⟨⟨hrec,hlen⟩,hall⟩:=hops
    obtain⟨hdst,hguard,cl,hop,hcal,hargs⟩:=isRecover_spec hrec
    have hsz:ops.size=ad.items.length+1:=by
     have:=congrArg List.length hor
     simpa[hlen] using this
    have h0:ops[0]?=some o:=by rw[← Array.getElem?_toList,hor];rfl
    have hk:∀ k,ops[k+1]?=r[k]?:=fun k=>by rw[← Array.getElem?_toList,hor];rfl
    refine callsD_of_wpS hfn hbody (fun c₀ cs hc0=>wpS_seq (wpS_region ?_))
    rw[hsz,List.range_succ_eq_map]
    simp only[wpOpsS,h0]
    have hw:Region.wanted o (yielded ops (vs.toArray++Array.replicate (fn.ntmps-vs.toArray.size) undef))=true:=by simp[Region.wanted,hguard]
    simp only[hw,if_true]
    have hrun:∀ a:Act,(execOp a.eval o).run P w=.ok .recover w:=fun a=>by
     simp[execOp,hop,hcal,hargs,resolve,invoke,builtin,Sem.run_bind,Result.andThen]
    rw[hrun]
    have hlen':vs.toArray.size≤ad.N:=by simp only[List.size_toArray];rw[← hv.1];omega
    have key:∀ v,Rep γ w (rv.getD (.oth .nilIface)) v→wpOpsS P ops (Exit.thenS (code.wpS P (bodyPostS P fn c₀ cs fun e u' w'=>∃ γ' H' v,e=.returned v∧u'=recMode u∧Ext (fun b=>(H b).isSome=true) γ w γ' w'∧StateRel γ' w' H' ∧
      (∀ b,(H' b).isSome=true→(H b).isSome=true∨w.heap.size≤b)∧Q H')) (bodyPostS P fn c₀ cs fun e u' w'=>∃ γ' H' v,e=.returned v∧u'=recMode u∧Ext (fun b=>(H b).isSome=true) γ w γ' w'∧StateRel γ' w' H' ∧
      (∀ b,(H' b).isSome=true→(H b).isSome=true∨w.heap.size≤b)∧Q H')) ((List.range ad.items.length).map Nat.succ) (Act.put { tmps:=vs.toArray++Array.replicate (fn.ntmps-vs.toArray.size) undef,defers:=[] } o.dst v) ({ c₀ with mode:=recMode u }::cs) w:=by
     intro v hrep
     have hinv0:SInv γ w H (Fx.plain ad.N) γ w H (envOf (mkArgs 0 args)) { tmps:=vs.toArray++Array.replicate (fn.ntmps-vs.toArray.size) undef,defers:=[] } :=
      ⟨.refl _ _ _,hs,NewKeys.refl _ _,entry_env ht hv _,by show _=ad.N;rw[hN,Array.size_append,Array.size_replicate];omega,fun n hn=>absurd hn (Nat.not_lt_zero n),DfOk.init rfl⟩
     have hinv:SInv γ w H (Fx.plain ad.N) γ w H ((envOf (mkArgs 0 args)).set (some ad.d) (rv.getD (.oth .nilIface))) (Act.put { tmps:=vs.toArray++Array.replicate (fn.ntmps-vs.toArray.size) undef,defers:=[] } o.dst v):=by
      rw[hdst]
      exact hinv0.step (.refl _ _ _) hs (NewKeys.refl _ _) (fun x hx=>by cases hx;exact⟨Nat.zero_le _,hd⟩) hrep
     refine wpOpsS_of_wpOps (fun a w' hq=>?_) _ _ _ ?_
     ·obtain⟨u',_,_,_,he,_⟩:=hq
      cases he
     ·have endp:∀(e:Exit) γ' w' H' ρ' a',(e=.normal∨e=.ret)→SInv γ w H (Fx.plain ad.N) γ' w' H' ρ' a'→Q H'→bodyPostS P fn c₀ cs (fun e u' w'=>∃ γ' H' v,e=.returned v∧u'=recMode u∧Ext (fun b=>(H b).isSome=true) γ w γ' w'∧StateRel γ' w' H' ∧
        (∀ b,(H' b).isSome=true→(H b).isSome=true∨w.heap.size≤b)∧Q H') e a' ({ c₀ with mode:=recMode u }::cs) w':=by
       intro e γ' w' H' ρ' a' he hi hq
       have hr:(results fn a'.tmps).run P w'=.ok (.tuple #[]) w':=by
        have:fn.results=#[]:=by simpa using hres
        simp[results,this,Sem.run_bind]
       rcases he with rfl|rfl<;>exact⟨hi.df.plain rfl,_,rfl,_,hr,γ',H',_,rfl,rfl,hi.ext,hi.st,hi.keys,hq⟩
      refine items_sound (F:=Fx.plain ad.N) (KP:=fun _ _=>False) (K:=fun ρ' H'=>awp P (fun _ _=>False) ad.body (finD Q) ρ' H') (fun ch a w' hp=>?_) (fun γ' w' H' ρ' a' hi hawp=>?_) _ (annot ad.items) (by simp[annot]) (fun k i it hki hit=>?_) γ w H _ _ hinv h
      ·obtain⟨_,_,_,_,_,_,_,_,_,hf,_⟩:=hp;exact hf.elim
      ·refine wpS_of_wp (wp_mono (code_sound (F:=Fx.plain ad.N) (KP:=fun _ _=>False) (fun _ _ _ _ _ hf=>hf) ad.body code (finD Q) (.inl hpl) hcode γ' w' H' ρ' a' hi hawp) fun e a2 w2 he=>?_)
       cases e with
       | normal=>obtain⟨g,hh,rr,h1,h2⟩:=he;exact endp .normal g w2 hh rr a2 (.inl rfl) h1 h2
       | ret=>obtain⟨g,hh,rr,h1,h2⟩:=he;exact endp .ret g w2 hh rr a2 (.inr rfl) h1 h2
       | exit id=>obtain⟨g,hh,rr,h1,h2⟩:=he;exact h2.elim
       | goto l=>exact he.elim
       | outgrown=>exact he.elim
       | panic ch=>obtain⟨_,_,_,_,_,_,_,_,_,hf,_⟩:=he;exact hf.elim
      ·rw[yg,y9] at hki
       obtain⟨k',hk',rfl⟩:=hki
       obtain⟨h1,h2⟩:=yC.1 hk'
       simp at h1 h2
       subst h2
       simp only[annot,yg,y9] at hit
       obtain⟨x,hx,rfl⟩:=hit
       have hkr:k<r.length:=by omega
       refine⟨r[k],by show ops[k+1]?=_;rw[hk,Al9 hkr],?_⟩
       have hz:(r.zip ad.items)[k]?=some (r[k],x):=by
        rw[List.getElem?_zip_eq_some]
        exact⟨Al9 hkr,hx⟩
       exact yx.1 hall _ (List.mem_of_getElem? hz)
    cases rv with
    | none =>
     have hu':u=.returning:=hu
     subst hu'
     have hrd:recoverD (c₀::cs)=none:=by simp[recoverD,hc0]
     have e0:({ c₀ with mode:=recMode .returning }:Frame)=c₀:=by
      have:recMode .returning=c₀.mode:=by rw[hc0];rfl
      rw[this]
     simp only[hrd]
     have:=key .nilIface (.oth _)
     rwa [e0] at this
    | some c =>
     obtain⟨v,rfl,hrep⟩:=hu
     have hrd:recoverD (c₀::cs)=some (v,{ c₀ with mode:=recMode (.panicking [{ v,recovered:=false }]) }::cs):=by
      simp[recoverD,hc0,recMode]
     simp only[hrd]
     exact key v hrep
   ·cases hops
  ·cases hc
theorem st2:type_of% (And.intro @o_callv<|And.intro @goW_clo<|And.intro @o_apps<|And.intro @goX_str<|And.intro @o_pan<|And.intro @goN_ifc<|And.intro @o_mup<|And.intro @goM0_mp<|And.intro @goM_map<|And.intro @List.append_nil.{0}<|And.intro @setAll_nil<|And.intro @setAll_cons<|And.intro @splice_cons<|And.intro @splice_succ<|And.intro @splice_zero<|And.intro @decide_true<|And.intro @decide_false<|And.intro @List.take_succ_cons.{0}<|And.intro @List.take_zero.{0}<|And.intro @List.drop_succ_cons.{0}<|And.intro @List.drop_zero.{0}<|And.intro @List.length_cons.{0}<|And.intro @List.length_nil.{0}<|And.intro @List.take_length.{0}<|And.intro @List.headD_cons.{0}<|And.intro @List.cons_append.{0}<|And.intro @List.nil_append.{0}<|And.intro @Option.map_some.{0,0}<|And.intro @Bool.not_true<|And.intro @Bool.not_false<|And.intro @Bool.false_eq_true<|And.intro @eq_self.{1}<|And.intro @List.replicate_zero.{0}<|And.intro @List.replicate_succ.{0}<|And.intro @List.set_cons_zero.{0}<|And.intro @List.set_cons_succ.{0}<|And.intro @Nat.lt_add_one<|And.intro @Nat.zero_lt_succ<|And.intro @Nat.le_refl<|And.intro @if_pos.{1}<|And.intro @upd_ne<|And.intro @List.getElem?_cons_succ.{0}<|And.intro @List.getElem?_cons_zero.{0}<|And.intro @Option.some.injEq.{0}<|And.intro @Int.cast_ofNat_Int<|And.intro @List.getD_cons_zero.{0}<|And.intro @List.getD_cons_succ.{0}<|And.intro @Int.toNat_natCast<|And.intro @Int.natCast_zero<|And.intro @Int.natCast_eq_zero<|And.intro @Int.zero_add<|And.intro @Int.natCast_nonneg<|And.intro @true_and<|And.intro @and_true<|And.intro @not_false_eq_true<|And.intro @not_true_eq_false<|And.intro @ne_eq.{1}<|And.intro @List.map_nil.{0,0}<|And.intro @List.map_cons.{0,0}<|And.intro @beq_self_eq_true.{0}<|And.intro @implies_true.{0}<|@Bool.true_eq_false) :=
 And.intro @o_callv<|And.intro @goW_clo<|And.intro @o_apps<|And.intro @goX_str<|And.intro @o_pan<|And.intro @goN_ifc<|And.intro @o_mup<|And.intro @goM0_mp<|And.intro @goM_map<|And.intro @List.append_nil.{0}<|And.intro @setAll_nil<|And.intro @setAll_cons<|And.intro @splice_cons<|And.intro @splice_succ<|And.intro @splice_zero<|And.intro @decide_true<|And.intro @decide_false<|And.intro @List.take_succ_cons.{0}<|And.intro @List.take_zero.{0}<|And.intro @List.drop_succ_cons.{0}<|And.intro @List.drop_zero.{0}<|And.intro @List.length_cons.{0}<|And.intro @List.length_nil.{0}<|And.intro @List.take_length.{0}<|And.intro @List.headD_cons.{0}<|And.intro @List.cons_append.{0}<|And.intro @List.nil_append.{0}<|And.intro @Option.map_some.{0,0}<|And.intro @Bool.not_true<|And.intro @Bool.not_false<|And.intro @Bool.false_eq_true<|And.intro @eq_self.{1}<|And.intro @List.replicate_zero.{0}<|And.intro @List.replicate_succ.{0}<|And.intro @List.set_cons_zero.{0}<|And.intro @List.set_cons_succ.{0}<|And.intro @Nat.lt_add_one<|And.intro @Nat.zero_lt_succ<|And.intro @Nat.le_refl<|And.intro @if_pos.{1}<|And.intro @upd_ne<|And.intro @List.getElem?_cons_succ.{0}<|And.intro @List.getElem?_cons_zero.{0}<|And.intro @Option.some.injEq.{0}<|And.intro @Int.cast_ofNat_Int<|And.intro @List.getD_cons_zero.{0}<|And.intro @List.getD_cons_succ.{0}<|And.intro @Int.toNat_natCast<|And.intro @Int.natCast_zero<|And.intro @Int.natCast_eq_zero<|And.intro @Int.zero_add<|And.intro @Int.natCast_nonneg<|And.intro @true_and<|And.intro @and_true<|And.intro @not_false_eq_true<|And.intro @not_true_eq_false<|And.intro @ne_eq.{1}<|And.intro @List.map_nil.{0,0}<|And.intro @List.map_cons.{0,0}<|And.intro @beq_self_eq_true.{0}<|And.intro @implies_true.{0}<|@Bool.true_eq_false
open Go.ChangeAt Go.ChangeShapes Go.RowKit Go.WideElems Go.WideShapes
mutual
def blk {H:Type}:DataW H→Nat
 | .lit (.string bytes)=>bytes.length+1
 | .lit _=>1
 | .nil=>1
 | .ptr d=>blk d+1
 | .slice elems spare=>blkAll elems+blkAll spare+1
 | .agg parts=>blkAll parts+1
 | .iface _ d=>blk d+1
 | .map entries=>blkEs entries+1
 | .held _=>1
def blkAll {H:Type}:List (DataW H)→Nat
 | []=>0
 | d::r=>blk d+blkAll r
def blkEs {H:Type}:List (Lit×DataW H)→Nat
 | []=>0
 | x::r=>blkE x+blkEs r
def blkE {H:Type}:Lit×DataW H→Nat
 | (.string bytes,d)=>bytes.length+blk d+1
 | (_,d)=>blk d+1
end
theorem blk_pos {H:Type} (d:DataW H):1≤blk d:=by
 cases d with
 | lit l=>cases l<;>simp[blk]
 | nil=>simp[blk]
 | ptr d=>simp[blk]
 | slice elems spare=>simp[blk]
 | agg parts=>simp[blk]
 | iface t d=>simp[blk]
 | map entries=>simp[blk]
 | held h=>simp[blk]
theorem blk_take_succ {H:Type} (l:List (DataW H)) (k:Nat) (h:k<l.length):blkAll (l.take (k+1))=blkAll (l.take k)+blk (l.getD k .nil):=by
 induction l generalizing k with
 | nil=>simp at h
 | cons d r ih =>
  cases k with
  | zero=>simp[blkAll]
  | succ k =>
   simp only[zbW,blkAll,List.getD_cons_succ]
   rw[ih k (by simpa using h)]
   omega
def DecB (P:Program) (m:Nat) (t:TypeId) (sz:Nat) {α:Type} (f:α→List AV) (ok:α→Prop) (g:α→Nat):Prop :=
 ∀ {H:Type} (enc:TypeId×Value→H) (W:World) (cs:List Value) (d:DataW H) (ps:List MemPlace),DataW.trod enc P W 0 (fun _=>true) true m t cs=some (d,ps) →
  (∀ n∈d.weights P t,n≤reachBytes)→∃ a,ok a∧g a≤blk d∧(f a).length=sz∧fillRel immG W (f a) cs
section
variable {P:Program} {m:Nat} {t:TypeId}
theorem DecB.zero {sz:Nat} {α:Type} {f:α→List AV} {ok:α→Prop} {g:α→Nat}:DecB P 0 t sz f ok g:=fun enc W cs d ps h _=>by simp[DataW.trod] at h
theorem DecB.int {k:IntKind} (ht:P.underlying t=some (.int k)):DecB P m t 1 (fun n:Int=>[.int k n]) (fun n=>(Lit.int k n).wf=true) (fun _=>1):=by
 intro H enc W cs d ps h _
 obtain⟨n,rfl,hx,hw⟩:=DataW.trod_int ht h
 simp only[Al8] at hx
 obtain⟨rfl,rfl⟩:=hx
 exact⟨n,hw,Al4 _,rfl,fill_one (.int k n) rfl⟩
theorem DecB.bool (ht:P.underlying t=some .bool):DecB P m t 1 (fun b:Bool=>[.bool b]) (fun _=>True) (fun _=>1):=by
 intro H enc W cs d ps h _
 obtain⟨b,rfl,hx⟩:=DataW.trod_bool ht h
 simp only[Al8] at hx
 obtain⟨rfl,rfl⟩:=hx
 exact⟨b,trivial,Al4 _,rfl,fill_one (.bool b) rfl⟩
theorem DecB.str (ht:P.underlying t=some .string):DecB P m t 1 (fun s:List UInt8=>[.str s]) (fun s=>s.length≤reachBytes) (fun s=>s.length+1):=by
 intro H enc W cs d ps h hw
 obtain⟨s,rfl,hx,hs⟩:=DataW.trod_string ht h
 simp only[Al8] at hx
 obtain⟨rfl,rfl⟩:=hx
 refine⟨s.data.toList,hw _ (by simp[DataW.weights]),Al4 _,rfl,fill_one ?_ rfl⟩
 exact .str _
theorem DecB.slice {e:TypeId} {sz B:Nat} {α:Type} {f:α→List AV} {ok:α→Prop} {g:α→Nat} (ht:P.underlying t=some (.slice e)) (hB:P.bytesOf e=B) (hsz:P.cellsOf e=sz) (hpos:0<sz) (he:DecB P m e sz f ok g) :
  DecB P (m+1) t 1 (fun l:List α=>[.sl .no sz (l.map f)]) (fun l=>l.length*B≤reachBytes∧l.length≤maxLen∧∀ x∈l,ok x) (fun l=>(l.map g).sum+1):=by
 intro H enc W cs d ps h hw
 rcases DataW.trod_slice ht h with ⟨rfl,_⟩|⟨a,len,cap,elems,rest,n,hm,rfl,hx,hb,hlc,hcm,hel,hread,hspare,_⟩
 ·exact⟨[],⟨by simp,by simp,by simp⟩,by simp[blk_pos],rfl,fill_one (.slnil .no sz (by simp)) rfl⟩
 ·cases hm
  simp only[Al8] at hx
  obtain⟨rfl,rfl⟩:=hx
  obtain⟨hrest,hreadr⟩:=hspare rfl
  subst hsz
  have hwt:∀ y∈elems,∀ n∈y.1.weights P e,n≤reachBytes:=fun y hy n hn=>hw n (by
   simp only[DataW.weights,ht,List.mem_cons,List.mem_append]
   exact .inr (.inl (weights_all (List.mem_map_of_mem hy) n hn)))
  have hlenB:len*P.bytesOf e≤reachBytes:=by
   have:=hw ((elems.length+rest.length)*P.bytesOf e) (by simp[DataW.weights,ht])
   rw[hel] at this
   exact Nat.le_trans (Nat.mul_le_mul_right _ (Nat.le_add_right _ _)) this
  have each:∀ i,i<len→∃(x:α) (us:List Value),ok x∧g x≤blk ((elems.map (·.1)).getD i .nil)∧(f x).length=P.cellsOf e∧fillRel immG W (f x) us∧(∀ j,j<P.cellsOf e→W.cell? (a.add (i*P.cellsOf e+j))=us[j]?)∧us.length=P.cellsOf e:=by
   intro i hi
   have h1:=hread i hi
   have hi':i<elems.length:=by omega
   rw[Al9 hi',Option.bind_eq_some_iff] at h1
   obtain⟨us,hus,hd⟩:=h1
   obtain⟨x,hx1,hxg,hx2,hx3⟩:=he enc W us elems[i].1 elems[i].2 hd (hwt _ (List.getElem_mem hi'))
   obtain⟨_,hl,hc⟩:=World.cells?_some hus
   refine⟨x,us,hx1,by simpa[hi'] using hxg,hx2,hx3,fun j hj=>?_,hl⟩
   have:=hc j hj
   rwa [addr_add_add] at this
  rcases Nat.eq_zero_or_pos cap with hc0|hcpos
  ·have hl0:len=0:=by omega
   subst hl0;subst hc0
   exact⟨[],⟨by simp,by simp,by simp⟩,by simp[blk_pos],rfl,fill_one (.sl0 .no _ a (.inl rfl)) rfl⟩
  ·-- some cell is read: the address is plain
   have hspot:a.spot=none:=by
    have h1:∃ us,W.cells? 0 (a.add 0) (P.cellsOf e)=some us:=by
     rcases Nat.eq_zero_or_pos len with hl0|hlpos
     ·have h2:=hreadr 0 (by omega)
      rw[Al9 (by omega),Option.bind_eq_some_iff] at h2
      obtain⟨us,h3,_⟩:=h2
      rw[hl0] at h3
      simp only[Nat.add_zero,Nat.zero_mul] at h3
      exact⟨us,h3⟩
     ·have h2:=hread 0 hlpos
      rw[Al9 (by omega),Option.bind_eq_some_iff] at h2
      obtain⟨us,h3,_⟩:=h2
      simp only[Nat.zero_mul] at h3
      exact⟨us,h3⟩
    obtain⟨us,h1⟩:=h1
    obtain⟨_,hl,hc⟩:=World.cells?_some h1
    have h3:=hc 0 hpos
    have e0:(a.add 0).add 0=a:=rfl
    rw[e0] at h3
    have h4:(W.cell? a).isSome=true:=by rw[h3,Al9 (by omega)];rfl
    unfold World.cell? at h4
    split at h4
    ·split at h4
     ·cases h4
     ·rename_i hs
      cases h5:a.spot with
      | none=>rfl
      | some s=>simp[h5] at hs
    ·cases h4
   obtain⟨b,off,spot⟩:=a
   simp only at hspot
   subst hspot
   have hchoose:∀ k,k≤len→∃ l:List α,l.length=k∧(l.map g).sum≤blkAll ((elems.map (·.1)).take k)∧∀ i x,l[i]?=some x→ok x∧(f x).length=P.cellsOf e∧∃ us:List Value,fillRel immG W (f x) us∧(∀ j,j<P.cellsOf e→W.cell? (Addr.add ⟨b,off,none⟩ (i*P.cellsOf e+j))=us[j]?)∧us.length=P.cellsOf e:=by
    intro k
    induction k with
    | zero=>intro _;exact⟨[],rfl,by simp,by simp⟩
    | succ k ih =>
     intro hk
     obtain⟨l,hl,hsum,hp⟩:=ih (by omega)
     obtain⟨x,us,h1,hgx,h2,h3,h4,h5⟩:=each k (by omega)
     refine⟨l++[x],by simp[hl],?_,fun i y hy=>?_⟩
     ·rw[List.map_append,List.sum_append,blk_take_succ _ k (by simp;omega)]
      simp only[List.map_cons,List.map_nil,List.sum_cons,List.sum_nil]
      omega
     rcases Nat.lt_or_ge i l.length with hi|hi
     ·rw[Z8 hi] at hy;exact hp i y hy
     ·rw[YJ hi] at hy
      have:i=l.length:=by
       rcases Nat.lt_or_ge 0 (i-l.length) with h|h
       ·rw[List.getElem?_eq_none (by simp;omega)] at hy;cases hy
       ·omega
      subst this
      simp at hy
      subst hy
      exact⟨h1,h2,us,h3,by rw[hl];exact h4,h5⟩
   obtain⟨l,hl,hsum,hp⟩:=hchoose len (Al4 _)
   refine⟨l,⟨by rw[hl,← hB];exact hlenB,by omega,fun x hx=>?_⟩,?_,rfl,fill_one ?_ rfl⟩
   ·obtain⟨i,hi⟩:=List.mem_iff_getElem?.1 hx
    exact(hp i x hi).1
   ·rw[List.take_of_length_le (by simp;omega)] at hsum
    simp only[blk];omega
   ·have hml:(l.map f).length=len:=by simp[hl]
    rw[← hml]
    refine .sl .no _ (l.map f) b off cap (fun i j=>(W.cell? ⟨b,off+(i*P.cellsOf e+j),none⟩).getD undef) (by omega) hcm (fun x hx=>?_) (fun i x hx j hj=>?_) (fun i x hx j c hj=>?_) trivial
    ·obtain⟨y,hy,rfl⟩:=List.mem_map.1 hx
     obtain⟨i,hi⟩:=List.mem_iff_getElem?.1 hy
     exact(hp i y hi).2.1
    ·simp only[yg,y9] at hx
     obtain⟨y,hy,rfl⟩:=hx
     obtain⟨_,h2,us,h3,h4,h5⟩:=hp i y hy
     have h6:=h4 j hj
     have h7:us[j]?=some us[j]:=Al9 (by omega)
     have h8:W.cell? ⟨b,off+(i*P.cellsOf e+j),none⟩=some us[j]:=by rw[← h7,← h6,addr_add]
     refine⟨by rw[h8];rfl,trivial,?_⟩
     rw[h8]
     exact h3.2.1 j _ h7
    ·simp only[yg,y9] at hx
     obtain⟨y,hy,rfl⟩:=hx
     obtain⟨_,h2,us,h3,h4,h5⟩:=hp i y hy
     have hj':j<P.cellsOf e:=by have:=(yC.1 hj).1;omega
     have h6:=h4 j hj'
     have h7:us[j]?=some us[j]:=Al9 (by omega)
     have h8:W.cell? ⟨b,off+(i*P.cellsOf e+j),none⟩=some us[j]:=by rw[← h7,← h6,addr_add]
     show Rep immG W c ((W.cell? ⟨b,off+(i*P.cellsOf e+j),none⟩).getD undef)
     rw[h8]
     exact h3.2.2 j c _ hj h7
def DecFsB (P:Program) (m:Nat) (off:Nat) (fs:List (Nat×TypeId)) (sz:Nat) {α:Type} (f:α→List AV) (ok:α→Prop) (gg:α→Nat):Prop :=
 ∀ {H:Type} (enc:TypeId×Value→H) (W:World) (cs:List Value) (xs:List (DataW H×List MemPlace)),
  (∀(i:Nat) (g:Nat×TypeId),fs[i]?=some g→DataW.trod enc P W 0 (fun _=>true) true m g.2 ((cs.drop g.1).take (P.cellsOf g.2))=xs[i]?)→xs.length=fs.length →
  (∀ n∈DataW.weightsEach P (fs.map (·.2)) (xs.map (·.1)),n≤reachBytes)→off+sz≤cs.length→∃ a,ok a∧gg a≤blkAll (xs.map (·.1))∧(f a).length=sz∧fillRel immG W (f a) ((cs.drop off).take sz)
theorem DecFsB.nil {off:Nat}:DecFsB P m off [] 0 (fun _:Unit=>[]) (fun _=>True) (fun _=>0):=by
 intro H enc W cs xs _ _ _ _
 exact⟨(),trivial,Nat.zero_le _,rfl,rfl,by simp,by simp⟩
theorem DecFsB.cons {off sz sz':Nat} {u:TypeId} {fs:List (Nat×TypeId)} {α β:Type} {f:α→List AV} {ok:α→Prop} {f':β→List AV} {ok':β→Prop} {g:α→Nat} {g':β→Nat} (hsz:P.cellsOf u=sz) (h:DecB P m u sz f ok g) (h':DecFsB P m (off+sz) fs sz' f' ok' g') :
  DecFsB P m off ((off,u)::fs) (sz+sz') (fun x:α×β=>f x.1++f' x.2) (fun x=>ok x.1∧ok' x.2) (fun x=>g x.1+g' x.2):=by
 intro H enc W cs xs hx hl hw hle
 cases xs with
 | nil=>simp at hl
 | cons y ys =>
  have h0:=hx 0 (off,u) rfl
  rw[hsz] at h0
  simp only[List.getElem?_cons_zero] at h0
  obtain⟨a,ha1,hag,ha2,ha3⟩:=h enc W _ y.1 y.2 h0 (fun n hn=>hw n (by simp only[List.map_cons,DataW.weightsEach,List.mem_append];exact .inl hn))
  obtain⟨b,hb1,hbg,hb2,hb3⟩:=h' enc W cs ys (fun i g' hg=>by have:=hx (i+1) g' (by simpa using hg);simpa using this) (by simpa using hl)
   (fun n hn=>hw n (by simp only[List.map_cons,DataW.weightsEach,List.mem_append];exact .inr hn)) (by omega)
  refine⟨(a,b),⟨ha1,hb1⟩,by simp only[List.map_cons,blkAll];omega,by simp[ha2,hb2],?_⟩
  have e:(cs.drop off).take (sz+sz')=(cs.drop off).take sz++(cs.drop (off+sz)).take sz':=by
   rw[List.take_add,List.drop_drop]
  rw[e]
  exact ha3.append hb3
theorem DecB.struct {fs:List (Nat×TypeId)} {sz:Nat} {α β:Type} {f:α→List AV} {ok:α→Prop} {gg:α→Nat} (h:DecFsB P m 0 fs sz f ok gg) (ht:flds P t=some fs) (hsz:P.cellsOf t=sz) (g:β→List AV) (ok':β→Prop) (g':β→Nat) (k:α→β) (hg:∀ a,g (k a)=f a) (hok:∀ a,ok a→ok' (k a)) (hgg:∀ a,g' (k a)≤gg a+1) :
  DecB P (m+1) t sz g ok' g':=by
 intro H enc W cs d ps hd hw
 obtain⟨gs,hgs,hfs⟩:=flds_some ht
 obtain⟨xs,n,hm,hx,hl,hlen,hf⟩:=DataW.trod_struct hgs hd
 cases hm
 simp only[Al8] at hx
 obtain⟨rfl,rfl⟩:=hx
 obtain⟨a,h1,hag,h2,h3⟩:=h enc W cs xs (fun i g' hg'=>by
   rw[← hfs,yg] at hg'
   cases hi:gs.toList[i]? with
   | none=>simp[hi] at hg'
   | some z=>simp only[hi,yb,Al1] at hg';subst hg';exact hf i z (by simpa using hi)) (by rw[← hfs];simpa using hlen) (fun n hn=>hw n (by
   rw[← hfs,List.map_map] at hn
   simpa[DataW.weights,hgs,Function.comp_def] using hn)) (by omega)
 refine⟨k a,hok a h1,by have:=hgg a;simp only[blk];omega,by rw[hg];exact h2,?_⟩
 rw[hg]
 simp only[List.drop_zero] at h3
 rw[List.take_of_length_le (by omega)] at h3
 exact h3
theorem DecB.argS {sz:Nat} {α:Type} {f:α→List AV} {ok:α→Prop} {g:α→Nat} (h:∀ m,DecB P m t sz f ok g) {H:Type} {enc:TypeId×Value→H} {W:World} {cs:Array Value} {d:DataW H} {ps:List MemPlace} (hd:DataW.Trod enc P W 0 (fun _=>true) true t (.agg cs) d ps)
  (hw:∀ n∈d.weights P t,n≤reachBytes):∃ a,ok a∧g a≤blk d∧Rep immG W (.agg (f a)) (.agg cs):=by
 obtain⟨n,hn⟩:=hd
 obtain⟨a,h1,hag,h2,h3⟩:=h n enc W _ d ps hn hw
 simp only[Value.cells] at h3
 have:=Rep.agg (f a) cs.toList h3.1 h3.2.1 h3.2.2
 exact⟨a,h1,hag,by simpa using this⟩
end
end Go.Ab
namespace Go.Ab
structure ASp where
 N:Nat
 np:Nat
 lo:Nat
 pre:AC
 blk:AC
 items:List AItem
 g:Nat
 body:AC
 res:List ARes
 mid:Option AC:=none
def isDefer (o:Oper) (g:Nat):Bool :=
 o.dst.isNone&&o.guard.isNone&&(match o.op with
  | .defer c=>(match c.callee with|.value (.tmp t)=>decide (t=g)|_=>false)&&decide (c.args.size=0)
  | _=>false)
theorem isDefer_spec {o:Oper} {g:Nat} (h:isDefer o g=true):o.dst=none∧o.guard=none∧∃ c,o.op=.defer c∧c.callee=.value (.tmp g)∧c.args=#[]:=by
 unfold isDefer at h
 simp only[Al0,Option.isNone_iff_eq_none] at h
 obtain⟨⟨h1,h2⟩,h3⟩:=h
 refine⟨h1,h2,?_⟩
 split at h3
 ·rename_i c hc
  simp only[Al0,zp] at h3
  obtain⟨h3,h4⟩:=h3
  split at h3
  ·rename_i t hcal
   simp only[zp] at h3
   subst h3
   exact⟨c,hc,hcal,by simpa using h4⟩
  ·cases h3
 ·cases h3
def chkTail (P:Program) (sp:ASp):Code→Bool
 | .seq cb (.seq (.region _ ops false) rest)=>chkCode P sp.N 0 cb sp.blk&&decide (ops.size=sp.items.length+1) &&
    ((ops.toList.zip sp.items).all fun x=>chkItem sp.N 0 ops P x.1 x.2)&&(match ops[sp.items.length]? with|some o=>isDefer o sp.g|none=>false)&&chkCode P sp.N sp.lo rest sp.body&&sp.blk.plain&&sp.body.plain
 | _=>false
def chkMid (P:Program) (sp:ASp):Option AC→Code→Bool
 | none,r=>chkTail P sp r
 | some m,.seq cm r=>chkCode P sp.N 0 cm m&&m.plain&&chkTail P sp r
 | some _,_=>false
def chkSp (P:Program) (f:FuncId) (sp:ASp):Bool :=
 match P.funcs[f]? with
 | some fn=>match fn.body with
  | some (.seq c0 r)=>decide (fn.ntmps=sp.N)&&decide (sp.np≤sp.N)&&decide (sp.lo≤sp.N)&&chkRes P fn.results.toList sp.res &&
    chkCode P sp.N 0 c0 sp.pre&&sp.pre.plain&&chkMid P sp sp.mid r
  | _=>false
 | none=>false
def finS (sp:ASp) (Q:AEnd→Heap→Prop) (ρ1:Env):Heap→Prop:=fun H=>∃ vs,resvs (ρ1.keep (List.range sp.lo)) H sp.res=some vs∧∃ H',Low H' H∧Q (.ret (tupOf vs)) H'
def awpS (P:Program) (Q:AEnd→Heap→Prop) (sp:ASp) (ρ1:Env) (H1:Heap):Prop :=
 ∃ f caps,ρ1 sp.g=.clo f [] caps∧Program.callable P f=true ∧
  awp P (fun c H=>∃ H0,Low H0 H∧ACallsD P f caps (some c) H0 (finS sp Q ρ1)) sp.body (fun e _ H=>match e with|.exit _=>False|_=>∃ H0,Low H0 H∧ACallsD P f caps none H0 (finS sp Q ρ1)) ρ1 H1
def retOnly (fin:Env→Heap→Prop) (K:Env→Heap→Prop):AExit→Env→Heap→Prop
 | .normal,ρ,H=>K ρ H
 | .ret,ρ,H=>fin ρ H
 | .exit _,_,_=>False
def awpB (P:Program) (Q:AEnd→Heap→Prop) (sp:ASp) (ρ:Env) (H:Heap):Prop :=
 awp P (finP Q) sp.blk (retOnly (finQ sp.res Q .ret) fun ρ H=>awpItems P (finP Q) (annot sp.items) ρ H fun ρ1 H1=>awpS P Q sp ρ1 H1) ρ H
def awpM (P:Program) (Q:AEnd→Heap→Prop) (sp:ASp):Option AC→Env→Heap→Prop
 | none,ρ,H=>awpB P Q sp ρ H
 | some m,ρ,H=>awp P (finP Q) m (retOnly (finQ sp.res Q .ret) fun ρ H=>awpB P Q sp ρ H) ρ H
def awpD (P:Program) (Q:AEnd→Heap→Prop) (sp:ASp) (ρ:Env) (H:Heap):Prop :=
 awp P (finP Q) sp.pre (retOnly (finQ sp.res Q .ret) fun ρ H=>awpM P Q sp sp.mid ρ H) ρ H
theorem wpOps_append {P:Program} {ops:Array Oper} {Q:Exit→Act→World→Prop} (l2:List Nat):∀(l1:List Nat) (a:Act) (w:World),
  wpOps P ops (fun e=>match e with|.normal=>wpOps P ops Q l2|e=>Q e) l1 a w→wpOps P ops Q (l1++l2) a w
 | [],a,w,h=>h
 | i::l,a,w,h=>by
  rw[Al6]
  simp only[wpOps] at h ⊢
  have ih:=wpOps_append (P:=P) (ops:=ops) (Q:=Q) l2 l
  cases ho:ops[i]? with
  | none=>simp only[ho] at h;exact ih _ _ h
  | some o =>
   simp only[ho] at h
   by_cases hw:Region.wanted o (yielded ops a.tmps)=true
   ·simp only[hw,if_true] at h ⊢
    rcases h with h|⟨h1,a0,w0,h0⟩
    ·left
     unfold Oper.wp at *
     generalize (execOp a.eval o).run P w=r at *
     cases r with
     | ok n w' =>
      cases n<;>simp only[Oper.upon] at h ⊢ <;>
       first
        | exact ih _ _ h
        | exact Calls.mono h (fun e w'' he=>by cases e<;>first|exact ih _ _ he|exact he)
        | exact Rows.mono h (fun _ _ he=>ih _ _ he)
     | halt x w'=>cases x<;>simp only[Oper.upon] at h ⊢<;>exact h
    ·exact .inr ⟨h1,a0,w0,h0⟩
   ·simp only[hw,Al7,if_false] at h ⊢
    exact ih _ _ h
theorem keep_get (ρ:Env) (l:List Nat) (n:Nat):(ρ.keep l) n=if n∈l then ρ n else .any:=by
 unfold Env.keep
 induction l with
 | nil=>rfl
 | cons x l ih =>
  simp only[List.map_cons,envOf,ih,List.mem_cons]
  by_cases h:n=x
  ·subst h;simp
  ·simp[h]
theorem ACalls.of_sp {P:Program} {f:FuncId} (sp:ASp) (hc:chkSp P f sp=true) {args:List AV} {H:Heap} {Q:AEnd→Heap→Prop} (hnp:args.length≤sp.np)
  (h:awpD P Q sp (envOf (mkArgs 0 args)) H):ACalls P f args H Q:=by
 intro γ w vs ht hs hv
 unfold chkSp at hc
 cases hfn:P.funcs[f]? with
 | none=>simp[hfn] at hc
 | some fn =>
  simp only[hfn] at hc
  split at hc
  ·rename_i c0 r0 hbody
   simp only[Al0,zp] at hc
   obtain⟨⟨⟨⟨⟨⟨hN,hnpN⟩,hlo⟩,hres⟩,hc0⟩,hp1⟩,hcm⟩:=hc
   refine calls_of_wp_defers hfn hbody ?_
   have hlen:vs.toArray.size≤sp.N:=by simp only[List.size_toArray];rw[← hv.1];omega
   have hinv:SInv γ w H (Fx.plain sp.N) γ w H (envOf (mkArgs 0 args)) { tmps:=vs.toArray++Array.replicate (fn.ntmps-vs.toArray.size) undef,defers:=[] } :=
    ⟨.refl _ _ _,hs,NewKeys.refl _ _,entry_env ht hv _,by show _=sp.N;rw[hN,Array.size_append,Array.size_replicate];omega,fun n hn=>absurd hn (Nat.not_lt_zero n),DfOk.init rfl⟩
   have fin:∀ γ' w' H' ρ' a',SInv γ w H (Fx.plain sp.N) γ' w' H' ρ' a'→finQ sp.res Q .ret ρ' H'→Leaves P fn a'.tmps (fun e w'=>∃ γ' H' r,Ext (fun b=>(H b).isSome=true) γ w γ' w'∧StateRel γ' w' H' ∧
      (∀ b,(H' b).isSome=true→(H b).isSome=true∨w.heap.size≤b)∧EndRel γ' w' e r∧Q r H') a'.defers .returning w':=by
    intro γ' w' H' ρ' a' h1 h2
    simp only[finQ] at h2
    cases hr:resvs ρ' H' sp.res with
    | none=>simp[hr] at h2
    | some cs =>
     simp only[hr] at h2
     obtain⟨H'',hsub,hq⟩:=h2
     obtain⟨v,hrun,hrep⟩:=results_run (P:=P) h1.env h1.st hres hr
     rw[h1.df.plain rfl]
     exact⟨v,hrun,γ',H'',.ret (tupOf cs),h1.ext,hsub.st _ _ h1.st,fun b hb=>h1.keys b (hsub.keys b hb),hrep,hq⟩
   have pan:∀ ch a' w',PanOk γ w H (Fx.plain sp.N) (finP Q) ch a' w'→Leaves P fn a'.tmps (fun e w'=>∃ γ' H' r,Ext (fun b=>(H b).isSome=true) γ w γ' w'∧StateRel γ' w' H' ∧
      (∀ b,(H' b).isSome=true→(H b).isSome=true∨w.heap.size≤b)∧EndRel γ' w' e r∧Q r H') a'.defers (.panicking ch) w':=by
    intro ch a' w' he
    obtain⟨γ',H',c,v,rfl,hext,hst,hk,hrep,⟨H'',hsub,hq⟩,_,_,_,hdf⟩:=he
    rw[hdf.plain rfl]
    exact⟨γ',H'',.pan c,hext,hsub.st _ _ hst,fun b hb=>hk b (hsub.keys b hb),⟨v,rfl,hrep⟩,hq⟩
   have core:∀(r:Code),chkTail P sp r=true→∀ γ1 w' H1 ρ1 a',SInv γ w H (Fx.plain sp.N) γ1 w' H1 ρ1 a'→awpB P Q sp ρ1 H1→r.wp P (bodyPostD P fn (fun e w'=>∃ γ' H' r,Ext (fun b=>(H b).isSome=true) γ w γ' w'∧StateRel γ' w' H' ∧
      (∀ b,(H' b).isSome=true→(H b).isSome=true∨w.heap.size≤b)∧EndRel γ' w' e r∧Q r H')) a' w':=by
    intro r hcr γ1 w' H1 ρ1 a' hi1 h1
    unfold chkTail at hcr
    split at hcr
    rotate_left
    ·cases hcr
    rename_i cb id ops rest
    simp only[Al0,zp] at hcr
    obtain⟨⟨⟨⟨⟨⟨hcb,hsz⟩,hall⟩,hdef⟩,hrest⟩,hp2⟩,hp3⟩:=hcr
    refine wp_seq (wp_mono (code_sound (F:=Fx.plain sp.N) (finP_wide Q) sp.blk cb _ (.inl hp2) hcb γ1 w' H1 ρ1 a' hi1 h1) fun e a2 w2 he=>?_)
    cases e with
    | ret=>obtain⟨γ',H',ρ',h1,h2⟩:=he;exact fin γ' w2 H' ρ' a2 h1 h2
    | exit id=>obtain⟨γ',H',ρ',h1,h2⟩:=he;exact h2.elim
    | goto l=>exact he.elim
    | outgrown=>exact he.elim
    | panic ch=>exact pan ch a2 w2 he
    | normal =>
     obtain⟨γ2,H2,ρ2,hi2,h2⟩:=he
     refine wp_seq (wp_region ?_)
     rw[hsz,List.range_succ]
     refine wpOps_append _ _ _ _ ?_
     refine items_sound (F:=Fx.plain sp.N) (KP:=finP Q) (K:=fun ρ H=>awpS P Q sp ρ H) (fun ch a w hp=>pan ch a w hp) (fun γ3 w3 H3 ρ3 a3 hi3 hS=>?_) (List.range sp.items.length) (annot sp.items) (by simp[annot]) (fun k i it hki hit=>?_) γ2 w2 H2 ρ2 a2 hi2 h2
     ·cases ho:ops[sp.items.length]? with
      | none=>simp[ho] at hdef
      | some o =>
       simp only[ho] at hdef
       obtain⟨hdst,hguard,cl,hop,hcal,hargs⟩:=isDefer_spec hdef
       obtain⟨f',caps,hclo,hcallable,hbody'⟩:=hS
       have hrg:=hi3.env.rep sp.g
       rw[hclo] at hrg
       generalize hg:a3.tmps.getD sp.g undef=gv at hrg
       cases hrg with
       | clo _ _ _ vs0 us hl hl' hr hr' =>
        have hvs0:vs0=[]:=List.eq_nil_of_length_eq_zero (by simpa using hl.symm)
        subst hvs0
        have hw:Region.wanted o (yielded ops a3.tmps)=true:=by simp[Region.wanted,hguard]
        simp only[wpOps,ho,hw,if_true]
        left
        unfold Oper.wp
        have hrun:(execOp a3.eval o).run P w3=.ok (.defer ⟨.fn (.func f') us.toArray,#[]⟩) w3:=by
         simp[execOp,hop,hcal,hargs,resolve,Sem.run_bind,Result.andThen,Act.eval,hg,Deferred.ofValue]
        rw[hrun]
        simp only[Oper.upon,wpOps,hdst,Act.put]
        have hinv4:SInv γ3 w3 H3 ⟨sp.N,sp.lo,a3.tmps,[⟨.fn (.func f') us.toArray,#[]⟩],false,[],0⟩ γ3 w3 H3 ρ3 { tmps:=a3.tmps,defers:=⟨.fn (.func f') us.toArray,#[]⟩::a3.defers } :=
         ⟨.refl _ _ _,hi3.st,NewKeys.refl _ _,hi3.env,hi3.sz,fun n _=>rfl,by rw[hi3.df.plain rfl];exact DfOk.init rfl⟩
        have hdone:∀(γ':Gh) (w':World) (H' H0:Heap) (a':Act) (rv:Option AV) (u:FrameMode),Ext (keysOf H3) γ3 w3 γ' w'→StateRel γ' w' H'→NewKeys H3 w3 H'→(∀ n,n<sp.lo→a'.tmps.getD n undef=a3.tmps.getD n undef) →
          a'.defers=[⟨.fn (.func f') us.toArray,#[]⟩]→(u=.returning∨∃ ch,u=.panicking ch)→ModeRel γ' w' rv u→TabOk γ' w'→Low H0 H'→ACallsD P f' caps rv H0 (finS sp Q ρ3) →
          Leaves P fn a'.tmps (fun e w'=>∃ γ' H' r,Ext (fun b=>(H b).isSome=true) γ w γ' w'∧StateRel γ' w' H' ∧
           (∀ b,(H' b).isSome=true→(H b).isSome=true∨w.heap.size≤b)∧EndRel γ' w' e r∧Q r H') a'.defers u w':=by
         intro γ' w' H' H0 a' rv u hext hst hk hfx hdf hu hmode htab hlow hd
         rw[hdf]
         refine⟨by rcases hu with rfl|⟨ch,rfl⟩<;>simp,.func f',us.toArray,f',us.toArray,rfl,?_,?_⟩
         ·unfold Program.callable at hcallable
          cases hfn':P.funcs[f']? with
          | none=>simp[hfn'] at hcallable
          | some fn' =>
           simp only[hfn',Al0,bne_iff_ne,ne_eq] at hcallable
           obtain⟨hb1,hname⟩:=hcallable
           obtain⟨bd,hb2⟩:=ZF.1 hb1
           simp[invoke,callFunc,hfn',hname,hb2]
         ·refine CallsD.mono (hd γ' w' us u htab (hlow.st _ _ hst) ⟨hl',fun i c v hc hv=>(hr' i c v hc hv).mono hext.mono⟩ hmode) fun e u' w'' hq=>?_
          obtain⟨γ'',H'',v,rfl,rfl,hext2,hst2,hk2,vs2,hres2,H4,hlow4,hq⟩:=hq
          have hset:settle (recMode u)=.returning:=by
           cases rv with
           | none=>have:u=.returning:=hmode;subst this;rfl
           | some c=>obtain⟨v,rfl,_⟩:=hmode;rfl
          show Leaves P fn a'.tmps _ [] (settle (recMode u)) w''
          rw[hset]
          have hm:=hext.mono.trans hext2.mono
          have henv:EnvRel γ'' w'' (ρ3.keep (List.range sp.lo)) a'.tmps:=by
           refine⟨htab.mono hext2.mono,fun n=>?_⟩
           rw[keep_get]
           split
           ·rename_i hn
            rw[hfx n (List.mem_range.1 hn)]
            exact(hi3.env.rep n).mono hm
           ·exact .any _
          have hlt3:=hi3.ext.mono.size
          have hlt4:=hext.mono.size
          have k3:∀ b,(H' b).isSome=true→(H b).isSome=true∨w.heap.size≤b:=fun b hb=>by
           rcases hk b hb with h1|h1
           ·exact hi3.keys b h1
           ·exact .inr (by omega)
          obtain⟨v,hrun,hrep⟩:=results_run (P:=P) (a:=a') henv hst2 hres hres2
          refine⟨v,hrun,γ'',H4,.ret (tupOf vs2),?_,hlow4.st _ _ hst2,fun b hb=>?_,hrep,hq⟩
          ·refine(hi3.ext.trans hext fun b hb h=>?_).trans hext2 fun b hb h=>?_
           ·rcases hi3.keys b h with h1|h1
            ·exact h1
            ·omega
           ·rcases k3 b (hlow.keys b h) with h1|h1
            ·exact h1
            ·omega
          ·rcases hk2 b (hlow4.keys b hb) with h1|h1
           ·exact k3 b (hlow.keys b h1)
           ·exact .inr (by omega)
        refine wp_mono (code_sound (F:=⟨sp.N,sp.lo,a3.tmps,[⟨.fn (.func f') us.toArray,#[]⟩],false,[],0⟩) (fun v H b o hb ⟨H0,hs,hq⟩=>⟨H0,hs.upd hb,hq⟩) sp.body rest _ (.inl hp3) hrest γ3 w3 H3 ρ3 _ hinv4 hbody') fun e a5 w5 he=>?_
        cases e with
        | exit id=>obtain⟨_,_,_,_,h5⟩:=he;exact h5.elim
        | goto l=>exact he.elim
        | outgrown=>exact he.elim
        | normal =>
         obtain⟨γ5,H5,ρ5,h5,H0,hlow,hd⟩:=he
         exact hdone γ5 w5 H5 H0 a5 none .returning h5.ext h5.st h5.keys h5.fx (h5.df.plain rfl) (.inl rfl) rfl h5.env.tab hlow hd
        | ret =>
         obtain⟨γ5,H5,ρ5,h5,H0,hlow,hd⟩:=he
         exact hdone γ5 w5 H5 H0 a5 none .returning h5.ext h5.st h5.keys h5.fx (h5.df.plain rfl) (.inl rfl) rfl h5.env.tab hlow hd
        | panic ch =>
         obtain⟨γ5,H5,c,v,rfl,hext,hst,hk,hrep,⟨H0,hlow,hd⟩,htab,hsz5,hfx,hdf⟩:=he
         exact hdone γ5 w5 H5 H0 a5 (some c) _ hext hst hk hfx (hdf.plain rfl) (.inr ⟨_,rfl⟩) ⟨v,rfl,hrep⟩ htab hlow hd
     ·have hk:k<sp.items.length∧i=k:=by
       rw[yC] at hki
       obtain⟨h1,h2⟩:=hki
       simp at h1 h2
       exact⟨h1,h2.symm⟩
      obtain⟨hk,rfl⟩:=hk
      simp only[annot,yg,y9] at hit
      obtain⟨x,hx,rfl⟩:=hit
      have hko:i<ops.size:=by omega
      refine⟨ops[i],Array.getElem?_eq_getElem hko,?_⟩
      have hz:(ops.toList.zip sp.items)[i]?=some (ops[i],x):=by
       rw[List.getElem?_zip_eq_some]
       exact⟨by rw[Array.getElem?_toList];exact Array.getElem?_eq_getElem hko,hx⟩
      exact yx.1 hall _ (List.mem_of_getElem? hz)
   refine wp_seq (wp_mono (code_sound (F:=Fx.plain sp.N) (finP_wide Q) sp.pre c0 _ (.inl hp1) hc0 γ w H _ _ hinv h) fun e a' w' he=>?_)
   cases e with
   | ret=>obtain⟨γ',H',ρ',h1,h2⟩:=he;exact fin γ' w' H' ρ' a' h1 h2
   | exit id=>obtain⟨γ',H',ρ',h1,h2⟩:=he;exact h2.elim
   | goto l=>exact he.elim
   | outgrown=>exact he.elim
   | panic ch=>exact pan ch a' w' he
   | normal =>
    obtain⟨γ1,H1,ρ1,hi1,h1⟩:=he
    cases hmid:sp.mid with
    | none=>rw[hmid] at hcm h1;exact core r0 hcm γ1 w' H1 ρ1 a' hi1 h1
    | some m =>
     rw[hmid] at hcm h1
     unfold chkMid at hcm
     split at hcm
     ·rename_i e;cases e
     ·rename_i m2 cm r e
      cases e
      simp only[Al0] at hcm
      obtain⟨⟨hm1,hm2⟩,hm3⟩:=hcm
      refine wp_seq (wp_mono (code_sound (F:=Fx.plain sp.N) (finP_wide Q) m cm _ (.inl hm2) hm1 γ1 w' H1 ρ1 a' hi1 h1) fun e a2 w2 he=>?_)
      cases e with
      | ret=>obtain⟨γ',H',ρ',h1,h2⟩:=he;exact fin γ' w2 H' ρ' a2 h1 h2
      | exit id=>obtain⟨γ',H',ρ',h1,h2⟩:=he;exact h2.elim
      | goto l=>exact he.elim
      | outgrown=>exact he.elim
      | panic ch=>exact pan ch a2 w2 he
      | normal =>
       obtain⟨γ2,H2,ρ2,hi2,h2⟩:=he
       exact core r hm3 γ2 w2 H2 ρ2 a2 hi2 h2
     ·cases hcm
  ·cases hc
inductive F2 {α β:Type} (R:α→β→Prop):List α→List β→Prop
 | nil:F2 R [] []
 | cons {a:α} {b:β} {l:List α} {m:List β}:R a b→F2 R l m→F2 R (a::l) (b::m)
section
variable {α β:Type} {R:α→β→Prop}
theorem F2.len {l:List α} {m:List β} (h:F2 R l m):l.length=m.length:=by
 induction h with
 | nil=>rfl
 | cons _ _ ih=>simp[ih]
theorem F2.of_get:∀ {l:List α} {m:List β},l.length=m.length→(∀(i:Nat) a b,l[i]?=some a→m[i]?=some b→R a b)→F2 R l m
 | [],[],_,_=>.nil
 | _::_,[],h,_=>by simp at h
 | [],_::_,h,_=>by simp at h
 | a::l,b::m,h,hr=>.cons (hr 0 a b rfl rfl) (F2.of_get (by simpa using h) fun i x y hx hy=>hr (i+1) x y (by simpa using hx) (by simpa using hy))
theorem F2.get {l:List α} {m:List β} (h:F2 R l m):∀(i:Nat) a b,l[i]?=some a→m[i]?=some b→R a b:=by
 induction h with
 | nil=>intro i a b h;simp at h
 | cons h0 _ ih =>
  intro i a b ha hb
  cases i with
  | zero=>simp only[List.getElem?_cons_zero,Al1] at ha hb;subst ha;subst hb;exact h0
  | succ i=>exact ih i a b (by simpa using ha) (by simpa using hb)
theorem F2.app {l:List α} {m:List β} {l2:List α} {m2:List β} (h:F2 R l m) (h2:F2 R l2 m2):F2 R (l++l2) (m++m2):=by
 induction h with
 | nil=>exact h2
 | cons h0 _ ih=>exact .cons h0 ih
theorem F2.take {l:List α} {m:List β} (h:F2 R l m):∀ n,F2 R (l.take n) (m.take n):=by
 induction h with
 | nil=>intro n;simp;exact .nil
 | cons h0 _ ih=>intro n;cases n with
  | zero=>exact .nil
  | succ n=>exact .cons h0 (ih n)
theorem F2.drop {l:List α} {m:List β} (h:F2 R l m):∀ n,F2 R (l.drop n) (m.drop n):=by
 induction h with
 | nil=>intro n;simp;exact .nil
 | cons h0 h1 ih=>intro n;cases n with
  | zero=>exact .cons h0 h1
  | succ n=>exact ih n
theorem F2.getD {l:List α} {m:List β} (h:F2 R l m) {x:α} {y:β} (h0:R x y):∀ n,R (l.getD n x) (m.getD n y):=by
 induction h with
 | nil=>intro n;simpa using h0
 | cons h1 _ ih=>intro n;cases n with
  | zero=>simpa using h1
  | succ n=>simpa using ih n
theorem F2.getq {l:List α} {m:List β} (h:F2 R l m):∀ {n:Nat} {a:α},l[n]?=some a→∃ b,m[n]?=some b∧R a b:=by
 induction h with
 | nil=>intro n a h;simp at h
 | cons h1 _ ih=>intro n a ha;cases n with
  | zero=>simp only[List.getElem?_cons_zero,Al1] at ha;subst ha;exact⟨_,rfl,h1⟩
  | succ n=>simpa using ih (by simpa using ha)
theorem F2.set {l:List α} {m:List β} (h:F2 R l m) {x:α} {y:β} (h0:R x y):∀ n,F2 R (l.set n x) (m.set n y):=by
 induction h with
 | nil=>intro n;exact .nil
 | cons h1 h2 ih=>intro n;cases n with
  | zero=>exact .cons h0 h2
  | succ n=>exact .cons h1 (ih n)
theorem F2.map {γ δ:Type} {S:γ→δ→Prop} {f:α→γ} {g:β→δ} {l:List α} {m:List β} (h:F2 R l m) (hf:∀ a b,R a b→S (f a) (g b)):F2 S (l.map f) (m.map g):=by
 induction h with
 | nil=>exact .nil
 | cons h1 _ ih=>exact .cons (hf _ _ h1) ih
theorem F2.rep {x:α} {y:β} (h0:R x y):∀ n,F2 R (List.replicate n x) (List.replicate n y)
 | 0=>.nil
 | n+1=>.cons h0 (F2.rep h0 n)
theorem F2.mono {S:α→β→Prop} {l:List α} {m:List β} (h:F2 R l m) (hf:∀ a b,R a b→S a b):F2 S l m:=by
 induction h with
 | nil=>exact .nil
 | cons h1 _ ih=>exact .cons (hf _ _ h1) ih
theorem F2.flat {l:List (List α)} {m:List (List β)} (h:F2 (F2 R) l m):F2 R l.flatten m.flatten:=by
 induction h with
 | nil=>exact .nil
 | cons h1 _ ih=>simp only[List.flatten_cons];exact h1.app ih
theorem F2.isnil {l:List α} {m:List β} (h:F2 R l m):l=[]↔m=[]:=by cases h<;>simp
end
abbrev Ren:=Nat→Option (Nat×Nat)
inductive RO (σ:Ren):Own→Own→Prop
 | no:RO σ .no .no
 | nil:RO σ .nil .nil
 | full:RO σ .full .full
 | tip {b d c e:Nat} (h:σ b=some (c,e)):RO σ (.tip b d) (.tip c (e+d))
inductive RV (σ:Ren):AV→AV→Prop
 | any:RV σ .any .any
 | bool (b):RV σ (.bool b) (.bool b)
 | ubool (p):RV σ (.ubool p) (.ubool p)
 | int (k n):RV σ (.int k n) (.int k n)
 | str (s):RV σ (.str s) (.str s)
 | agg {cs ds:List AV} (hl:cs.length=ds.length) (h:∀(i:Nat) c d,cs[i]?=some c→ds[i]?=some d→RV σ c d):RV σ (.agg cs) (.agg ds)
 | tup {cs ds:List AV} (hl:cs.length=ds.length) (h:∀(i:Nat) c d,cs[i]?=some c→ds[i]?=some d→RV σ c d):RV σ (.tup cs) (.tup ds)
 | sl {o p:Own} {sz:Nat} {xs ys:List (List AV)} (ho:RO σ o p) (hl:xs.length=ys.length) (hu:∀(i:Nat) x y,xs[i]?=some x→ys[i]?=some y→x.length=y.length)
   (h:∀(i:Nat) x y,xs[i]?=some x→ys[i]?=some y→∀(j:Nat) c d,x[j]?=some c→y[j]?=some d→RV σ c d):RV σ (.sl o sz xs) (.sl p sz ys)
 | nilp:RV σ .nilp .nilp
 | ptr {b off c e:Nat} (h:σ b=some (c,e)):RV σ (.ptr b off) (.ptr c off)
 | view {cs ds:List AV} (hl:cs.length=ds.length) (h:∀(i:Nat) c d,cs[i]?=some c→ds[i]?=some d→RV σ c d):RV σ (.view cs) (.view ds)
 | ms {b off len cap c e:Nat} (h:σ b=some (c,e)):RV σ (.ms b off len cap) (.ms c off len cap)
 | nilm:RV σ .nilm .nilm
 | mp {b c e:Nat} (h:σ b=some (c,e)):RV σ (.mp b) (.mp c)
 | clo {f:FuncId} {as bs cs ds:List AV} (hl:as.length=bs.length) (h:∀(i:Nat) c d,as[i]?=some c→bs[i]?=some d→RV σ c d)
   (hl':cs.length=ds.length) (h':∀(i:Nat) c d,cs[i]?=some c→ds[i]?=some d→RV σ c d):RV σ (.clo f as cs) (.clo f bs ds)
 | oth (v):RV σ (.oth v) (.oth v)
 | ifc {t:TypeId} {x y:AV} (h:RV σ x y):RV σ (.ifc t x) (.ifc t y)
abbrev RL (σ:Ren):=F2 (RV σ)
abbrev RLL (σ:Ren):=F2 (F2 (RV σ))
section
variable {σ τ:Ren}
theorem RV.aggL {cs ds:List AV} (h:RL σ cs ds):RV σ (.agg cs) (.agg ds):=.agg h.len h.get
theorem RV.tupL {cs ds:List AV} (h:RL σ cs ds):RV σ (.tup cs) (.tup ds):=.tup h.len h.get
theorem RV.viewL {cs ds:List AV} (h:RL σ cs ds):RV σ (.view cs) (.view ds):=.view h.len h.get
theorem RV.slL {o p:Own} {sz:Nat} {xs ys:List (List AV)} (ho:RO σ o p) (h:RLL σ xs ys):RV σ (.sl o sz xs) (.sl p sz ys) :=
 .sl ho h.len (fun i x y hx hy=>(h.get i x y hx hy).len) (fun i x y hx hy=>(h.get i x y hx hy).get)
theorem RV.cloL {f:FuncId} {as bs cs ds:List AV} (h:RL σ as bs) (h':RL σ cs ds):RV σ (.clo f as cs) (.clo f bs ds):=.clo h.len h.get h'.len h'.get
theorem RV.bool_inv {b:Bool} {v:AV} (h:RV σ (.bool b) v):v=.bool b:=by cases h;rfl
theorem RV.ubool_inv {b:Prop} {v:AV} (h:RV σ (.ubool b) v):v=.ubool b:=by cases h;rfl
theorem RV.int_inv {k:IntKind} {n:Int} {v:AV} (h:RV σ (.int k n) v):v=.int k n:=by cases h;rfl
theorem RV.str_inv {s:List UInt8} {v:AV} (h:RV σ (.str s) v):v=.str s:=by cases h;rfl
theorem RV.nilp_inv {v:AV} (h:RV σ .nilp v):v=.nilp:=by cases h;rfl
theorem RV.nilm_inv {v:AV} (h:RV σ .nilm v):v=.nilm:=by cases h;rfl
theorem RV.oth_inv {x:Value} {v:AV} (h:RV σ (.oth x) v):v=.oth x:=by cases h;rfl
theorem RV.agg_inv {cs:List AV} {v:AV} (h:RV σ (.agg cs) v):∃ ds,v=.agg ds∧RL σ cs ds:=by cases h with|agg hl h=>exact⟨_,rfl,F2.of_get hl h⟩
theorem RV.tup_inv {cs:List AV} {v:AV} (h:RV σ (.tup cs) v):∃ ds,v=.tup ds∧RL σ cs ds:=by cases h with|tup hl h=>exact⟨_,rfl,F2.of_get hl h⟩
theorem RV.view_inv {cs:List AV} {v:AV} (h:RV σ (.view cs) v):∃ ds,v=.view ds∧RL σ cs ds:=by cases h with|view hl h=>exact⟨_,rfl,F2.of_get hl h⟩
theorem RV.sl_inv {o:Own} {sz:Nat} {xs:List (List AV)} {v:AV} (h:RV σ (.sl o sz xs) v):∃ p ys,v=.sl p sz ys∧RO σ o p∧RLL σ xs ys:=by
 cases h with|sl ho hl hu h=>exact⟨_,_,rfl,ho,F2.of_get hl fun i x y hx hy=>F2.of_get (hu i x y hx hy) (h i x y hx hy)⟩
theorem RV.ptr_inv {b off:Nat} {v:AV} (h:RV σ (.ptr b off) v):∃ c e,v=.ptr c off∧σ b=some (c,e):=by cases h with|ptr h=>exact⟨_,_,rfl,h⟩
theorem RV.ms_inv {b off n m:Nat} {v:AV} (h:RV σ (.ms b off n m) v):∃ c e,v=.ms c off n m∧σ b=some (c,e):=by cases h with|ms h=>exact⟨_,_,rfl,h⟩
theorem RV.mp_inv {b:Nat} {v:AV} (h:RV σ (.mp b) v):∃ c e,v=.mp c∧σ b=some (c,e):=by cases h with|mp h=>exact⟨_,_,rfl,h⟩
theorem RV.clo_inv {f:FuncId} {as cs:List AV} {v:AV} (h:RV σ (.clo f as cs) v):∃ bs ds,v=.clo f bs ds∧RL σ as bs∧RL σ cs ds:=by
 cases h with|clo hl h hl' h'=>exact⟨_,_,rfl,F2.of_get hl h,F2.of_get hl' h'⟩
theorem RV.ifc_inv {t:TypeId} {x v:AV} (h:RV σ (.ifc t x) v):∃ y,v=.ifc t y∧RV σ x y:=by cases h with|ifc h=>exact⟨_,rfl,h⟩
def Ren.le (σ τ:Ren):Prop:=∀ b x,σ b=some x→τ b=some x
theorem RO.mono (m:σ.le τ) {o p:Own} (h:RO σ o p):RO τ o p:=by
 cases h with
 | tip h=>exact .tip (m _ _ h)
 | no=>exact .no
 | nil=>exact .nil
 | full=>exact .full
theorem RV.mono (m:σ.le τ) {x y:AV} (h:RV σ x y):RV τ x y:=by
 induction h with
 | any=>exact .any
 | bool b=>exact .bool b
 | ubool p=>exact .ubool p
 | int k n=>exact .int k n
 | str s=>exact .str s
 | agg hl _ ih=>exact .agg hl ih
 | tup hl _ ih=>exact .tup hl ih
 | sl ho hl hu _ ih=>exact .sl (ho.mono m) hl hu ih
 | nilp=>exact .nilp
 | ptr h=>exact .ptr (m _ _ h)
 | view hl _ ih=>exact .view hl ih
 | ms h=>exact .ms (m _ _ h)
 | nilm=>exact .nilm
 | mp h=>exact .mp (m _ _ h)
 | clo hl _ hl' _ ih ih'=>exact .clo hl ih hl' ih'
 | oth v=>exact .oth v
 | ifc _ ih=>exact .ifc ih
theorem RL.mono (m:σ.le τ) {x y:List AV} (h:RL σ x y):RL τ x y:=F2.mono h fun _ _ h=>h.mono m
theorem F2.det {α β:Type} {R S:α→β→Prop} {l:List α} {m m2:List β} (h:F2 R l m) (hd:∀ a b c,R a b→S a c→b=c) (h2:F2 S l m2):m=m2:=by
 induction h generalizing m2 with
 | nil=>cases h2;rfl
 | cons h0 _ ih=>cases h2 with|cons g0 g1=>rw[hd _ _ _ h0 g0,ih g1]
theorem RO.det {o p q:Own} (h:RO σ o p) (h':RO σ o q):p=q:=by
 cases h with
 | tip h=>cases h' with|tip g=>rw[h] at g;cases g;rfl
 | no=>cases h';rfl
 | nil=>cases h';rfl
 | full=>cases h';rfl
theorem RV.det {x y z:AV} (h:RV σ x y) (h':RV σ x z):y=z:=by
 have key:∀ {cs ds es:List AV},cs.length=ds.length→(∀(i:Nat) c d,cs[i]?=some c→ds[i]?=some d→∀ z,RV σ c z→d=z)→RL σ cs es→ds=es:=fun hl ih he =>
  F2.det (R:=fun c d=>∀ z,RV σ c z→d=z) (F2.of_get hl ih) (fun a b c hr hs=>hr c hs) he
 induction h generalizing z with
 | any=>cases h';rfl
 | bool b=>exact h'.bool_inv.symm
 | ubool p=>exact h'.ubool_inv.symm
 | int k n=>exact h'.int_inv.symm
 | str s=>exact h'.str_inv.symm
 | agg hl _ ih =>
  obtain⟨ds,rfl,hd⟩:=h'.agg_inv
  rw[key hl (fun i c d hc hd=>fun z hz=>ih i c d hc hd hz) hd]
 | tup hl _ ih =>
  obtain⟨ds,rfl,hd⟩:=h'.tup_inv
  rw[key hl (fun i c d hc hd=>fun z hz=>ih i c d hc hd hz) hd]
 | view hl _ ih =>
  obtain⟨ds,rfl,hd⟩:=h'.view_inv
  rw[key hl (fun i c d hc hd=>fun z hz=>ih i c d hc hd hz) hd]
 | sl ho hl hu _ ih =>
  obtain⟨p,ys,rfl,hp,hy⟩:=h'.sl_inv
  rw[ho.det hp]
  congr 1
  refine F2.det (R:=fun x y=>x.length=y.length∧∀(j:Nat) c d,x[j]?=some c→y[j]?=some d→∀ z,RV σ c z→d=z) (F2.of_get hl fun i x y hx hy=>⟨hu i x y hx hy,fun j c d hc hd=>fun z hz=>ih i x y hx hy j c d hc hd hz⟩) (fun a b c hr hs=>key hr.1 hr.2 hs) hy
 | nilp=>exact h'.nilp_inv.symm
 | ptr h=>obtain⟨c,e,rfl,g⟩:=h'.ptr_inv;rw[h] at g;cases g;rfl
 | ms h=>obtain⟨c,e,rfl,g⟩:=h'.ms_inv;rw[h] at g;cases g;rfl
 | nilm=>exact h'.nilm_inv.symm
 | mp h=>obtain⟨c,e,rfl,g⟩:=h'.mp_inv;rw[h] at g;cases g;rfl
 | clo hl _ hl' _ ih ih' =>
  obtain⟨bs,ds,rfl,hb,hd⟩:=h'.clo_inv
  rw[key hl (fun i c d hc hd=>fun z hz=>ih i c d hc hd hz) hb,key hl' (fun i c d hc hd=>fun z hz=>ih' i c d hc hd hz) hd]
 | oth v=>exact h'.oth_inv.symm
 | ifc _ ih=>obtain⟨y,rfl,hy⟩:=h'.ifc_inv;rw[ih hy]
end
mutual
def AV.free:AV→Bool
 | .any|.bool _|.ubool _|.int _ _|.str _|.nilp|.nilm|.oth _=>true
 | .agg cs=>AV.frees cs
 | .tup cs=>AV.frees cs
 | .view cs=>AV.frees cs
 | .sl o _ xs=>(match o with|.tip _ _=>false|_=>true)&&AV.freess xs
 | .clo _ a b=>AV.frees a&&AV.frees b
 | .ifc _ x=>AV.free x
 | .slx _ _ _|.ptr _ _|.ms _ _ _ _|.mp _=>false
def AV.frees:List AV→Bool
 | []=>true
 | c::r=>AV.free c&&AV.frees r
def AV.freess:List (List AV)→Bool
 | []=>true
 | c::r=>AV.frees c&&AV.freess r
end
mutual
theorem AV.free_rv {σ:Ren}:∀ c:AV,c.free=true→RV σ c c
 | .any,_=>.any
 | .bool b,_=>.bool b
 | .ubool b,_=>.ubool b
 | .int k n,_=>.int k n
 | .str s,_=>.str s
 | .nilp,_=>.nilp
 | .nilm,_=>.nilm
 | .oth v,_=>.oth v
 | .agg cs,h=>.aggL (AV.frees_rl cs (by simpa[AV.free] using h))
 | .tup cs,h=>.tupL (AV.frees_rl cs (by simpa[AV.free] using h))
 | .view cs,h=>.viewL (AV.frees_rl cs (by simpa[AV.free] using h))
 | .sl o sz xs,h=>by
  simp only[AV.free,Al0] at h
  refine .slL ?_ (AV.freess_rl xs h.2)
  cases o with
  | tip b d=>simp at h
  | no=>exact .no
  | nil=>exact .nil
  | full=>exact .full
 | .clo f a b,h=>by
  simp only[AV.free,Al0] at h
  exact .cloL (AV.frees_rl a h.1) (AV.frees_rl b h.2)
 | .ifc t x,h=>.ifc (AV.free_rv x (by simpa[AV.free] using h))
 | .slx _ _ _,h=>by simp[AV.free] at h
 | .ptr _ _,h=>by simp[AV.free] at h
 | .ms _ _ _ _,h=>by simp[AV.free] at h
 | .mp _,h=>by simp[AV.free] at h
theorem AV.frees_rl {σ:Ren}:∀ c:List AV,AV.frees c=true→RL σ c c
 | [],_=>.nil
 | c::r,h=>by
  simp only[AV.frees,Al0] at h
  exact .cons (AV.free_rv c h.1) (AV.frees_rl r h.2)
theorem AV.freess_rl {σ:Ren}:∀ c:List (List AV),AV.freess c=true→RLL σ c c
 | [],_=>.nil
 | c::r,h=>by
  simp only[AV.freess,Al0] at h
  exact .cons (AV.frees_rl c h.1) (AV.freess_rl r h.2)
end
def RE (σ:Ren) (ρ ρ':Env):Prop:=∀ n,RV σ (ρ n) (ρ' n)
def Opd.okc:Opd→Bool
 | .t _=>true
 | .k c=>c.free
def oOkc:Option Opd→Bool
 | some x=>x.okc
 | none=>true
def AOp.okc:AOp→Bool
 | .mv x|.nilchk x|.isnil _ x|.isnn _ x|.ifnil _ x|.ineg x|.not x|.cvi _ x|.cvid x|.cvb2s x|.ext x _|.mki _ x|.fa _ x|.fld _ _ _ x|.len x|.lens x|.boxv x|.ld _ _ x|.lenm x|.box x|.pan x|.frz _ x=>x.okc
 | .tas _ z x=>z.free&&x.okc
 | .pick a b c=>a.okc&&b.okc&&c.okc
 | .bi _ _ x y|.shf _ x y|.bs _ x y|.bb _ x y|.eqa _ _ x y|.ia _ x y|.ixs x y|.st _ x y|.app _ _ x y|.apps x y|.slar _ x y|.slaf _ _ x y=>x.okc&&y.okc
 | .sllx _ _ _=>false
 | .lkp _ z _ x y=>z.free&&x.okc&&y.okc
 | .appm _ _ z x y=>AV.frees z&&x.okc&&y.okc
 | .bld z qs=>AV.frees z&&qs.all fun q=>q.2.2.okc
 | .bls _ _ z qs|.blsm _ _ z qs=>AV.frees z&&qs.all fun q=>q.2.okc
 | .mkfn _ a b=>a.all Opd.okc&&b.all Opd.okc
 | .sls x lo hi=>x.okc&&oOkc lo&&oOkc hi
 | .sll _ x lo hi mx=>x.okc&&oOkc lo&&oOkc hi&&oOkc mx
 | .mm _ x ys=>x.okc&&ys.all Opd.okc
 | .mks _ _ x=>x.okc
 | .mksn z _ x=>AV.frees z&&x.okc
 | .alloc z=>AV.frees z
 | .mkm _=>true
 | .mup _ a b c=>a.okc&&b.okc&&c.okc
 | .call _ args=>args.all Opd.okc
 | .callv g args=>g.okc&&args.all Opd.okc
section
variable {σ:Ren} {ρ ρ':Env}
theorem RE.ev (h:RE σ ρ ρ') {x:Opd} (hx:x.okc=true):RV σ (x.ev ρ) (x.ev ρ'):=by
 cases x with
 | t n=>exact h n
 | k c=>exact c.free_rv hx
theorem RE.evs (h:RE σ ρ ρ'):∀ {xs:List Opd},xs.all Opd.okc=true→RL σ (xs.map (Opd.ev ρ)) (xs.map (Opd.ev ρ'))
 | [],_=>.nil
 | x::xs,hx=>by
  simp only[List.all_cons,Al0] at hx
  exact .cons (h.ev hx.1) (h.evs hx.2)
theorem RE.set (h:RE σ ρ ρ') {d:Option Nat} {v w:AV} (hv:RV σ v w):RE σ (ρ.set d v) (ρ'.set d w):=by
 cases d with
 | none=>exact h
 | some d =>
  intro n
  simp only[Env.set]
  split
  ·exact hv
  ·exact h n
theorem RV.strip1 {c d:AV} (h:RV σ c d):RV σ c.strip1 d.strip1:=by
 cases h with
 | sl ho hl hu h=>exact .sl .no hl hu h
 | any=>exact .any
 | bool b=>exact .bool b
 | ubool p=>exact .ubool p
 | int k n=>exact .int k n
 | str s=>exact .str s
 | agg hl h=>exact .agg hl h
 | tup hl h=>exact .tup hl h
 | nilp=>exact .nilp
 | ptr h=>exact .ptr h
 | view hl h=>exact .view hl h
 | ms h=>exact .ms h
 | nilm=>exact .nilm
 | mp h=>exact .mp h
 | clo hl h hl' h'=>exact .clo hl h hl' h'
 | oth v=>exact .oth v
 | ifc h=>exact .ifc h
theorem RL.strip1 {c d:List AV} (h:RL σ c d):RL σ (c.map AV.strip1) (d.map AV.strip1):=F2.map h fun _ _ h=>h.strip1
theorem RLL.strip1 {c d:List (List AV)} (h:RLL σ c d):RLL σ (c.map (·.map AV.strip1)) (d.map (·.map AV.strip1)):=F2.map h fun _ _ h=>RL.strip1 h
theorem RV.strip {c d:AV} (h:RV σ c d):RV σ c.strip d.strip:=by
 cases h with
 | agg hl h=>exact .aggL (RL.strip1 (F2.of_get hl h))
 | tup hl h =>
  refine .tupL (F2.map (F2.of_get hl h) fun a b hab=>?_)
  cases hab with
  | agg hl h=>exact .aggL (RL.strip1 (F2.of_get hl h))
  | sl ho hl hu h=>exact .sl .no hl hu h
  | any=>exact .any
  | bool b=>exact .bool b
  | ubool p=>exact .ubool p
  | int k n=>exact .int k n
  | str s=>exact .str s
  | tup hl h=>exact .tup hl h
  | nilp=>exact .nilp
  | ptr h=>exact .ptr h
  | view hl h=>exact .view hl h
  | ms h=>exact .ms h
  | nilm=>exact .nilm
  | mp h=>exact .mp h
  | clo hl h hl' h'=>exact .clo hl h hl' h'
  | oth v=>exact .oth v
  | ifc h=>exact .ifc h
 | sl ho hl hu h=>exact .sl .no hl hu h
 | any=>exact .any
 | bool b=>exact .bool b
 | ubool p=>exact .ubool p
 | int k n=>exact .int k n
 | str s=>exact .str s
 | nilp=>exact .nilp
 | ptr h=>exact .ptr h
 | view hl h=>exact .view hl h
 | ms h=>exact .ms h
 | nilm=>exact .nilm
 | mp h=>exact .mp h
 | clo hl h hl' h'=>exact .clo hl h hl' h'
 | oth v=>exact .oth v
 | ifc h=>exact .ifc h
theorem RV.cells {c d:AV} (h:RV σ c d):RL σ c.cells d.cells:=by
 cases h with
 | agg hl h=>exact F2.of_get hl h
 | _=>exact .cons (by constructor<;>assumption) .nil
theorem RV.boxable {c d:AV} (h:RV σ c d):c.boxable=d.boxable:=by cases h<;>rfl
theorem RV.mk {ag:Bool} {c d:List AV} (h:RL σ c d):RV σ (Go.Ab.mk ag c) (Go.Ab.mk ag d):=by
 cases ag with
 | true=>exact .aggL h
 | false=>cases h with
  | nil=>exact .any
  | cons h _=>exact h
theorem RL.splice {cs ds v w:List AV} (h:RL σ cs ds) (hv:RL σ v w) (off:Nat):RL σ (Go.Ab.splice cs off v) (Go.Ab.splice ds off w):=by
 unfold Go.Ab.splice
 rw[hv.len]
 exact((F2.take h off).app hv).app (F2.drop h _)
theorem fillA_rel (h:RE σ ρ ρ'):∀ {qs:List (Nat×Nat×Opd)} {cs ds:List AV},(qs.all fun q=>q.2.2.okc)=true→RL σ cs ds→∀ {r},fillA ρ cs qs=some r→∃ r',fillA ρ' ds qs=some r'∧RL σ r r'
 | [],cs,ds,_,hc,r,hr=>by
  simp only[fillA,Al1] at hr ⊢
  subst hr;exact⟨_,rfl,hc⟩
 | (off,n,x)::qs,cs,ds,ho,hc,r,hr=>by
  simp only[List.all_cons,Al0] at ho
  have hx:=h.ev ho.1
  simp only[fillA] at hr ⊢
  rw[← hx.boxable,← hx.cells.len,← hc.len]
  split at hr
  ·rename_i hc2
   rw[if_pos hc2]
   exact fillA_rel h ho.2 (RL.splice hc hx.cells off) hr
  ·cases hr
theorem fillS_rel (h:RE σ ρ ρ') {sz:Nat}:∀ {qs:List (Nat×Opd)} {cs ds:List (List AV)},(qs.all fun q=>q.2.okc)=true→RLL σ cs ds→∀ {r},fillS ρ sz cs qs=some r→∃ r',fillS ρ' sz ds qs=some r'∧RLL σ r r'
 | [],cs,ds,_,hc,r,hr=>by
  simp only[fillS,Al1] at hr ⊢
  subst hr;exact⟨_,rfl,hc⟩
 | (i,x)::qs,cs,ds,ho,hc,r,hr=>by
  simp only[List.all_cons,Al0] at ho
  have hx:=h.ev ho.1
  simp only[fillS] at hr ⊢
  rw[← hx.boxable,← hx.cells.len,← hc.len]
  split at hr
  ·rename_i hc2
   rw[if_pos hc2]
   exact fillS_rel h ho.2 (F2.set hc (RL.strip1 hx.cells) i) hr
  ·cases hr
theorem bound_rel (h:RE σ ρ ρ') {d:Nat} {x:Option Opd} (hx:oOkc x=true) {n:Int} (hn:bound d ρ x=some n):bound d ρ' x=some n:=by
 cases x with
 | none=>exact hn
 | some x =>
  have hr:=h.ev (x:=x) hx
  simp only[bound] at hn ⊢
  split at hn
  ·rename_i e;rw[e] at hr;rw[hr.int_inv];exact hn
  ·cases hn
theorem mmAll_rel (h:RE σ ρ ρ') {mx:Bool} {k:IntKind}:∀ {ys:List Opd} {a r:Int},ys.all Opd.okc=true→mmAll mx k ρ a ys=some r→mmAll mx k ρ' a ys=some r
 | [],a,r,_,hr=>hr
 | y::ys,a,r,ho,hr=>by
  simp only[List.all_cons,Al0] at ho
  have hy:=h.ev ho.1
  simp only[mmAll] at hr ⊢
  split at hr
  ·rename_i k' b e
   rw[e] at hy
   rw[hy.int_inv]
   simp only
   split at hr
   ·rename_i hk
    rw[if_pos hk]
    exact mmAll_rel h ho.2 hr
   ·cases hr
  ·cases hr
theorem byts_rel:∀ {xs ys:List (List AV)} {s:List UInt8},RLL σ xs ys→byts xs=some s→byts ys=some s
 | [],_,s,h,hs=>by cases h;exact hs
 | []::r,_,s,h,hs=>by simp[byts] at hs
 | [c]::r,_,s,h,hs=>by
  cases h with
  | cons h1 h2 =>
   cases h1 with
   | cons h3 h4 =>
    cases h4
    cases h3<;>first|(simp[byts] at hs;done)|skip
    rename_i k n
    cases k<;>first|(simp[byts] at hs;done)|skip
    simp only[byts] at hs ⊢
    split at hs
    ·rename_i hc
     rw[if_pos hc]
     cases hb:byts r with
     | none=>simp[hb] at hs
     | some t =>
      rw[hb] at hs
      rw[byts_rel h2 hb]
      exact hs
    ·cases hs
 | (c::d::x)::r,_,s,h,hs=>by simp[byts] at hs
theorem keq1_rel {a b a' b':AV} (h:RV σ a a') (h2:RV σ b b'):a.keq1 b=a'.keq1 b':=by
 cases h<;>cases h2<;>rfl
theorem keqs_rel {a a':List AV} (h:RL σ a a'):∀ {b b':List AV},RL σ b b'→keqs a b=keqs a' b':=by
 induction h with
 | nil=>intro b b' h2;cases h2<;>rfl
 | cons h0 _ ih=>intro b b' h2;cases h2 with
  | nil=>rfl
  | cons g0 g1=>simp only[keqs,keq1_rel h0 g0,ih g1]
theorem keq_rel {a b a' b':AV} (h:RV σ a a') (h2:RV σ b b'):a.keq b=a'.keq b':=by
 cases h with
 | agg hl h=>cases h2 with
  | agg hl2 h2=>exact keqs_rel (F2.of_get hl h) (F2.of_get hl2 h2)
  | _=>rfl
 | _=>cases h2<;>rfl
theorem fits1_rel {k:K1} {a a':AV} (h:RV σ a a'):k.fits a=k.fits a':=by
 cases k<;>cases h<;>rfl
theorem fitsAll_rel {a a':List AV} (h:RL σ a a'):∀ ks,fitsAll ks a=fitsAll ks a':=by
 induction h with
 | nil=>intro ks;rfl
 | cons h0 _ ih=>intro ks;cases ks with
  | nil=>rfl
  | cons k ks=>simp only[fitsAll,fits1_rel h0,ih]
theorem fits_rel {kt:KT} {a a':AV} (h:RV σ a a'):kt.fits a=kt.fits a':=by
 cases kt with
 | one k=>exact fits1_rel h
 | agg ks=>cases h<;>first|rfl|exact fitsAll_rel (F2.of_get ‹_› ‹_›) ks
end
section
variable {σ:Ren} {ρ ρ':Env}
theorem pev_rel (h:RE σ ρ ρ') {o:AOp} (ho:o.okc=true) {v:AV} (hv:pev ρ o=some v):∃ v',pev ρ' o=some v'∧RV σ v v':=by
 cases o with
 | mv x =>
  simp only[pev,Al1] at hv ⊢
  subst hv;exact⟨_,rfl,h.ev ho⟩
 | pick c a b =>
  simp only[AOp.okc,Al0] at ho
  have hc:=h.ev ho.1.1
  simp only[pev] at hv ⊢
  split at hv
  ·rename_i t e
   rw[e] at hc;rw[hc.bool_inv]
   simp only[Al1] at hv ⊢
   subst hv
   refine⟨_,rfl,?_⟩
   cases t
   ·exact h.ev ho.2
   ·exact h.ev ho.1.2
  ·cases hv
 | nilchk x =>
  have hx:=h.ev (x:=x) ho
  simp only[pev] at hv ⊢
  split at hv
  ·rename_i b o e
   rw[e] at hx;obtain⟨c,d,e2,hs⟩:=hx.ptr_inv;rw[e2]
   simp only[Al1] at hv ⊢;subst hv;exact⟨_,rfl,.ptr hs⟩
  ·rename_i cs e
   rw[e] at hx;obtain⟨ds,e2,hs⟩:=hx.view_inv;rw[e2]
   simp only[Al1] at hv ⊢;subst hv;exact⟨_,rfl,.viewL hs⟩
  ·rename_i f a b e
   rw[e] at hx;obtain⟨bs,ds,e2,h1,h2⟩:=hx.clo_inv;rw[e2]
   simp only[Al1] at hv ⊢;subst hv;exact⟨_,rfl,.cloL h1 h2⟩
  ·cases hv
 | bi op k x y =>
  simp only[AOp.okc,Al0] at ho
  have hx:=h.ev ho.1
  have hy:=h.ev ho.2
  simp only[pev] at hv ⊢
  split at hv
  ·rename_i k1 a k2 b e1 e2
   rw[e1] at hx;rw[e2] at hy;rw[hx.int_inv,hy.int_inv]
   simp only
   split at hv
   ·rename_i hk
    rw[if_pos hk]
    refine⟨v,hv,?_⟩
    cases op<;>simp only[ibin] at hv<;>(try split at hv)<;>first|(cases hv;done)|(simp only[Al1] at hv;subst hv;first|exact .int _ _|exact .bool _)
   ·cases hv
  ·cases hv
 | shf op x y =>
  simp only[AOp.okc,Al0] at ho
  have hx:=h.ev ho.1
  have hy:=h.ev ho.2
  simp only[pev] at hv ⊢
  split at hv
  ·rename_i k1 a k2 b e1 e2
   rw[e1] at hx;rw[e2] at hy;rw[hx.int_inv,hy.int_inv]
   refine⟨v,hv,?_⟩
   cases op<;>simp only[ishf] at hv<;>(try split at hv)<;>first|(cases hv;done)|(simp only[Al1] at hv;subst hv;exact .int _ _)
  ·cases hv
 | bs op x y =>
  simp only[AOp.okc,Al0] at ho
  have hx:=h.ev ho.1
  have hy:=h.ev ho.2
  simp only[pev] at hv ⊢
  split at hv
  ·rename_i a b e1 e2
   rw[e1] at hx;rw[e2] at hy;rw[hx.str_inv,hy.str_inv]
   refine⟨v,hv,?_⟩
   cases op<;>simp only[sbin] at hv<;>(try split at hv)<;>first|(cases hv;done)|(simp only[Al1] at hv;subst hv;first|exact .str _|exact .bool _)
  ·cases hv
 | bb neg x y =>
  simp only[AOp.okc,Al0] at ho
  have hx:=h.ev ho.1
  have hy:=h.ev ho.2
  simp only[pev] at hv ⊢
  split at hv
  ·rename_i a b e1 e2
   rw[e1] at hx;rw[e2] at hy;rw[hx.bool_inv,hy.bool_inv]
   simp only[Al1] at hv ⊢;subst hv;exact⟨_,rfl,.bool _⟩
  ·cases hv
 | eqa neg ks x y =>
  simp only[AOp.okc,Al0] at ho
  have hx:=h.ev ho.1
  have hy:=h.ev ho.2
  simp only[pev] at hv ⊢
  split at hv
  ·rename_i as bs e1 e2
   rw[e1] at hx;rw[e2] at hy
   obtain⟨cs,e3,h3⟩:=hx.agg_inv
   obtain⟨ds,e4,h4⟩:=hy.agg_inv
   rw[e3,e4]
   simp only
   rw[← fitsAll_rel h3,← fitsAll_rel h4,← keqs_rel h3 h4]
   refine⟨v,hv,?_⟩
   split at hv
   ·simp only[Al1] at hv;subst hv;exact .bool _
   ·cases hv
  ·cases hv
 | isnil nk x =>
  have hx:=h.ev (x:=x) ho
  simp only[pev] at hv ⊢
  generalize x.ev ρ=a at hx hv
  generalize x.ev ρ'=b at hx
  cases nk with
  | s =>
   cases hx with
   | sl ho2 hl hu h2 =>
    have hn:=(F2.of_get (R:=fun _ _=>True) hl (fun _ _ _ _ _=>trivial)).isnil
    cases ho2<;>simp only[Al1] at hv ⊢<;>subst hv<;>refine⟨_,rfl,?_⟩
    ·rw[show (_=[])=(_=[]) from propext hn];exact .ubool _
    ·exact .bool _
    ·rw[show (_=[])=(_=[]) from propext hn];exact .ubool _
    ·rw[show (_=[])=(_=[]) from propext hn];exact .ubool _
   | _=>cases hv
  | p =>
   cases hx<;>first|(cases hv;done)|(simp only[Al1] at hv ⊢;subst hv;exact⟨_,rfl,.bool _⟩)
  | m =>
   cases hx<;>first|(cases hv;done)|(simp only[Al1] at hv ⊢;subst hv;exact⟨_,rfl,.bool _⟩)
  | f =>
   cases hx with
   | oth v=>cases v<;>first|(cases hv;done)|(simp only[Al1] at hv ⊢;subst hv;exact⟨_,rfl,.bool _⟩)
   | clo hl h hl' h'=>simp only[Al1] at hv ⊢;subst hv;exact⟨_,rfl,.bool _⟩
   | _=>cases hv
 | isnn nk x =>
  have hx:=h.ev (x:=x) ho
  simp only[pev] at hv ⊢
  generalize x.ev ρ=a at hx hv
  generalize x.ev ρ'=b at hx
  cases nk with
  | s=>cases hx<;>cases hv
  | p =>
   cases hx<;>first|(cases hv;done)|(simp only[Al1] at hv ⊢;subst hv;exact⟨_,rfl,.bool _⟩)
  | m =>
   cases hx<;>first|(cases hv;done)|(simp only[Al1] at hv ⊢;subst hv;exact⟨_,rfl,.bool _⟩)
  | f =>
   cases hx with
   | oth v=>cases v<;>first|(cases hv;done)|(simp only[Al1] at hv ⊢;subst hv;exact⟨_,rfl,.bool _⟩)
   | clo hl h hl' h'=>simp only[Al1] at hv ⊢;subst hv;exact⟨_,rfl,.bool _⟩
   | _=>cases hv
 | not x =>
  have hx:=h.ev (x:=x) ho
  simp only[pev] at hv ⊢
  split at hv
  ·rename_i t e
   rw[e] at hx;rw[hx.bool_inv]
   simp only[Al1] at hv ⊢;subst hv;exact⟨_,rfl,.bool _⟩
  ·cases hv
 | ineg x =>
  have hx:=h.ev (x:=x) ho
  simp only[pev] at hv ⊢
  split at hv
  ·rename_i k n e
   rw[e] at hx;rw[hx.int_inv]
   simp only[Al1] at hv ⊢;subst hv;exact⟨_,rfl,.int _ _⟩
  ·cases hv
 | cvi k x =>
  have hx:=h.ev (x:=x) ho
  simp only[pev] at hv ⊢
  split at hv
  ·rename_i k2 n e
   rw[e] at hx;rw[hx.int_inv]
   simp only[Al1] at hv ⊢;subst hv;exact⟨_,rfl,.int _ _⟩
  ·cases hv
 | cvid x =>
  have hx:=h.ev (x:=x) ho
  simp only[pev] at hv ⊢
  split at hv
  ·rename_i s e
   rw[e] at hx;rw[hx.str_inv]
   simp only[Al1] at hv ⊢;subst hv;exact⟨_,rfl,.str _⟩
  ·cases hv
 | cvb2s x =>
  have hx:=h.ev (x:=x) ho
  simp only[pev] at hv ⊢
  split at hv
  ·rename_i o xs e
   rw[e] at hx;obtain⟨p,ys,e2,_,h2⟩:=hx.sl_inv;rw[e2]
   cases hb:byts xs with
   | none=>simp[hb] at hv
   | some s =>
    rw[hb] at hv
    simp only[yb,Al1] at hv
    subst hv
    simp only[byts_rel h2 hb]
    exact⟨_,rfl,.str _⟩
  ·cases hv
 | bld z qs =>
  simp only[AOp.okc,Al0] at ho
  simp only[pev] at hv ⊢
  cases hf:fillA ρ z qs with
  | none=>simp[hf] at hv
  | some r =>
   obtain⟨r',h1,h2⟩:=fillA_rel h ho.2 (AV.frees_rl z ho.1) hf
   rw[hf] at hv;rw[h1]
   simp only[yb,Al1] at hv ⊢
   subst hv;exact⟨_,rfl,.aggL h2⟩
 | bls sz n z qs =>
  simp only[AOp.okc,Al0] at ho
  simp only[pev] at hv ⊢
  split at hv
  ·rename_i hc
   rw[if_pos hc]
   cases hf:fillS ρ sz (List.replicate n z) qs with
   | none=>simp[hf] at hv
   | some r =>
    obtain⟨r',h1,h2⟩:=fillS_rel h ho.2 (F2.rep (AV.frees_rl z ho.1) n) hf
    rw[hf] at hv;rw[h1]
    simp only[yb,Al1] at hv ⊢
    subst hv;exact⟨_,rfl,.slL .full h2⟩
  ·cases hv
 | mkfn f a b =>
  simp only[AOp.okc,Al0] at ho
  simp only[pev,Al1] at hv ⊢
  subst hv;exact⟨_,rfl,.cloL (h.evs ho.1) (h.evs ho.2)⟩
 | ext x i =>
  have hx:=h.ev (x:=x) ho
  simp only[pev] at hv ⊢
  split at hv
  ·rename_i vs e
   rw[e] at hx;obtain⟨ds,e2,h2⟩:=hx.tup_inv;rw[e2]
   exact F2.getq h2 hv
  ·cases hv
 | mki t x =>
  simp only[pev,Al1] at hv ⊢
  subst hv;exact⟨_,rfl,.ifc (h.ev ho)⟩
 | fa off x =>
  have hx:=h.ev (x:=x) ho
  simp only[pev] at hv ⊢
  split at hv
  ·rename_i b o e
   rw[e] at hx;obtain⟨c,d,e2,hs⟩:=hx.ptr_inv;rw[e2]
   simp only[Al1] at hv ⊢;subst hv;exact⟨_,rfl,.ptr hs⟩
  ·rename_i cs e
   rw[e] at hx;obtain⟨ds,e2,hs⟩:=hx.view_inv;rw[e2]
   simp only[Al1] at hv ⊢;subst hv;exact⟨_,rfl,.viewL (F2.drop hs off)⟩
  ·cases hv
 | fld off n ag x =>
  have hx:=h.ev (x:=x) ho
  simp only[pev] at hv ⊢
  split at hv
  ·rename_i cs e
   rw[e] at hx;obtain⟨ds,e2,hs⟩:=hx.agg_inv;rw[e2]
   simp only
   rw[← hs.len]
   split at hv
   ·rename_i hc
    rw[if_pos hc]
    simp only[Al1] at hv ⊢;subst hv;exact⟨_,rfl,.mk (F2.take (F2.drop hs off) n)⟩
   ·cases hv
  ·cases hv
 | ia sz x i =>
  simp only[AOp.okc,Al0] at ho
  have hx:=h.ev ho.1
  have hi:=h.ev ho.2
  simp only[pev] at hv ⊢
  split at hv
  ·rename_i o sz' xs k n e1 e2
   rw[e1] at hx;rw[e2] at hi
   obtain⟨p,ys,e3,_,h3⟩:=hx.sl_inv
   rw[e3,hi.int_inv]
   simp only
   rw[← h3.len]
   split at hv
   ·rename_i hc
    rw[if_pos hc]
    simp only[Al1] at hv ⊢;subst hv;exact⟨_,rfl,.viewL (F2.getD h3 .nil _)⟩
   ·cases hv
  ·rename_i b off len cap k n e1 e2
   rw[e1] at hx;rw[e2] at hi
   obtain⟨c,d,e3,h3⟩:=hx.ms_inv
   rw[e3,hi.int_inv]
   simp only
   split at hv
   ·rename_i hc
    rw[if_pos hc]
    simp only[Al1] at hv ⊢;subst hv;exact⟨_,rfl,.ptr h3⟩
   ·cases hv
  ·cases hv
 | ixs x i =>
  simp only[AOp.okc,Al0] at ho
  have hx:=h.ev ho.1
  have hi:=h.ev ho.2
  simp only[pev] at hv ⊢
  split at hv
  ·rename_i s k n e1 e2
   rw[e1] at hx;rw[e2] at hi
   rw[hx.str_inv,hi.int_inv]
   refine⟨v,hv,?_⟩
   split at hv
   ·simp only[Al1] at hv;subst hv;exact .int _ _
   ·cases hv
  ·cases hv
 | sls x lo hi =>
  simp only[AOp.okc,Al0] at ho
  have hx:=h.ev ho.1.1
  simp only[pev] at hv ⊢
  split at hv
  ·rename_i s e1
   rw[e1] at hx
   rw[hx.str_inv]
   simp only
   split at hv
   ·rename_i l hh e2 e3
    rw[bound_rel h ho.1.2 e2,bound_rel h ho.2 e3]
    refine⟨v,hv,?_⟩
    split at hv
    ·simp only[Al1] at hv;subst hv;exact .str _
    ·cases hv
   ·cases hv
  ·cases hv
 | sll sz x lo hi mx =>
  simp only[AOp.okc,Al0] at ho
  have hx:=h.ev ho.1.1.1
  simp only[pev] at hv ⊢
  split at hv
  ·rename_i o sz' xs e1
   rw[e1] at hx
   obtain⟨p,ys,e3,hp,h3⟩:=hx.sl_inv
   rw[e3]
   simp only
   rw[← h3.len]
   have hcut:∀ l,RO σ (o.cut l) (p.cut l):=fun l=>by
    cases hp with
    | tip hs=>simp only[Own.cut];rw[show ∀ e d:Nat,e+d+l=e+(d+l) from fun e d=>by omega];exact .tip hs
    | no=>exact .no
    | nil=>exact .nil
    | full=>exact .full
   split at hv
   ·rename_i l hh e4 e5
    rw[bound_rel h ho.1.1.2 e4,bound_rel h ho.1.2 e5]
    simp only
    split at hv
    ·rename_i hc
     rw[if_pos hc]
     simp only[Al1] at hv ⊢;subst hv
     refine⟨_,rfl,.slL ?_ (F2.drop (F2.take h3 _) _)⟩
     split
     ·exact hcut _
     ·exact .no
    ·cases hv
   ·rename_i l hh m e4 e5
    rw[bound_rel h ho.1.1.2 e4,bound_rel h ho.1.2 e5]
    simp only
    split at hv
    ·rename_i k m2 e6
     have hm:=h.ev (x:=m) ho.2
     rw[e6] at hm
     rw[hm.int_inv]
     simp only
     split at hv
     ·rename_i hc
      rw[if_pos hc]
      simp only[Al1] at hv ⊢;subst hv
      refine⟨_,rfl,.slL ?_ (F2.drop (F2.take h3 _) _)⟩
      split
      ·exact .full
      ·exact .no
     ·cases hv
    ·cases hv
   ·cases hv
  ·rename_i b off len cap e1
   rw[e1] at hx
   obtain⟨c,d,e3,h3⟩:=hx.ms_inv
   rw[e3]
   simp only
   split at hv
   ·cases e4:bound 0 ρ lo with
    | none=>rw[e4] at hv;simp[msCut] at hv
    | some l =>
     cases e5:bound len ρ hi with
     | none=>rw[e4,e5] at hv;simp[msCut] at hv
     | some hh =>
      rw[e4,e5] at hv
      rw[bound_rel h ho.1.1.2 e4,bound_rel h ho.1.2 e5]
      simp only[msCut] at hv ⊢
      split at hv
      ·rename_i hc
       rw[if_pos hc]
       simp only[Al1] at hv ⊢;subst hv;exact⟨_,rfl,.ms h3⟩
      ·cases hv
   ·cases hv
  ·cases hv
 | sllx sz x hi=>simp[AOp.okc] at ho
 | slar n x hi =>
  simp only[AOp.okc,Al0] at ho
  have hx:=h.ev ho.1
  have hi:=h.ev ho.2
  simp only[pev] at hv ⊢
  split at hv
  ·rename_i b off k hh e1 e2
   rw[e1] at hx;rw[e2] at hi
   obtain⟨c,d,e3,h3⟩:=hx.ptr_inv
   rw[e3,hi.int_inv]
   simp only
   split at hv
   ·rename_i hc
    rw[if_pos hc]
    simp only[Al1] at hv ⊢;subst hv;exact⟨_,rfl,.ms h3⟩
   ·cases hv
  ·cases hv
 | lens x =>
  have hx:=h.ev (x:=x) ho
  simp only[pev] at hv ⊢
  split at hv
  ·rename_i s e
   rw[e] at hx;rw[hx.str_inv]
   simp only[Al1] at hv ⊢;subst hv;exact⟨_,rfl,.int _ _⟩
  ·cases hv
 | len x =>
  have hx:=h.ev (x:=x) ho
  simp only[pev] at hv ⊢
  split at hv
  ·rename_i o sz xs e
   rw[e] at hx;obtain⟨p,ys,e2,_,h2⟩:=hx.sl_inv;rw[e2]
   simp only[Al1] at hv ⊢;subst hv;rw[h2.len];exact⟨_,rfl,.int _ _⟩
  ·rename_i sz xs ys e
   rw[e] at hx;cases hx
  ·rename_i b off n cap e
   rw[e] at hx;obtain⟨c,d,e2,h2⟩:=hx.ms_inv;rw[e2]
   simp only[Al1] at hv ⊢;subst hv;exact⟨_,rfl,.int _ _⟩
  ·cases hv
 | mm mx x ys =>
  simp only[AOp.okc,Al0] at ho
  have hx:=h.ev ho.1
  simp only[pev] at hv ⊢
  split at hv
  ·rename_i k a e
   rw[e] at hx;rw[hx.int_inv]
   cases hm:mmAll mx k ρ a ys with
   | none=>simp[hm] at hv
   | some r =>
    rw[hm] at hv
    simp only[yb,Al1] at hv
    subst hv
    simp only[mmAll_rel h ho.2 hm]
    exact⟨_,rfl,.int _ _⟩
  ·cases hv
 | ifnil neg x =>
  have hx:=h.ev (x:=x) ho
  simp only[pev] at hv ⊢
  split at hv
  ·rename_i e
   rw[e] at hx;rw[hx.oth_inv]
   simp only[Al1] at hv ⊢;subst hv;exact⟨_,rfl,.bool _⟩
  ·rename_i t y e
   rw[e] at hx;obtain⟨z,e2,_⟩:=hx.ifc_inv;rw[e2]
   simp only[Al1] at hv ⊢;subst hv;exact⟨_,rfl,.bool _⟩
  ·cases hv
 | tas t z x =>
  simp only[AOp.okc,Al0] at ho
  have hx:=h.ev ho.2
  have hz:=z.free_rv (σ:=σ) ho.1
  simp only[pev] at hv ⊢
  split at hv
  ·rename_i e
   rw[e] at hx;rw[hx.oth_inv]
   simp only[Al1] at hv ⊢;subst hv;exact⟨_,rfl,.tupL (.cons hz (.cons (.bool _) .nil))⟩
  ·rename_i t' y e
   rw[e] at hx;obtain⟨w,e2,hw⟩:=hx.ifc_inv;rw[e2]
   simp only[Al1] at hv ⊢;subst hv
   refine⟨_,rfl,?_⟩
   split
   ·exact .tupL (.cons hw (.cons (.bool _) .nil))
   ·exact .tupL (.cons hz (.cons (.bool _) .nil))
  ·cases hv
 | boxv x =>
  have hx:=h.ev (x:=x) ho
  simp only[pev] at hv ⊢
  rw[← hx.boxable]
  split at hv
  ·rename_i hc
   rw[if_pos hc]
   simp only[Al1] at hv ⊢;subst hv;exact⟨_,rfl,.viewL hx.cells⟩
  ·cases hv
 | ld|lkp|lenm|alloc|box|mkm|st|mup|app|apps|mks|mksn|blsm|appm|frz|slaf|call|callv|pan=>simp[pev] at hv
end
end Go.Ab
