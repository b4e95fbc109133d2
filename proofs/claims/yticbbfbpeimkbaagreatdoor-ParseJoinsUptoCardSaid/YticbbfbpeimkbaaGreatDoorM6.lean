/- Texts joined: Tt Tp3 Wa Tw Tw2 Tw3 Eol Tw4 Tw5 IrD Rp7 Pe Rp8 Rp9 IrB DocS. -/
import Derived.Shelf.Strings.IndexAnyAll
import Derived.Shelf.Small.Utf8
import Derived.Laws.RangeAny
import Derived.Laws.Runes
import Derived.WalkMore
import Derived.Shelf.RegionOpenPlain
import Derived.BigQuiet
import Derived.Test.YticbbfbpeimkbaaGreatDoorRows
import Derived.Test.YticbbfbpeimkbaaGreatDoorM1
import Derived.Test.YticbbfbpeimkbaaGreatDoorM2
import Derived.Test.YticbbfbpeimkbaaGreatDoorM3
import Derived.Test.YticbbfbpeimkbaaGreatDoorM4
import Derived.Test.YticbbfbpeimkbaaGreatDoorM5
set_option maxRecDepth 100000
set_option linter.unusedSimpArgs false
set_option linter.unusedVariables false
namespace Go.Proofs.YticbbfbpeimkbaaGreatDoor
open Go.Ab Go.Lib
theorem run1_cut:∀ (l:List UInt8) (m:Nat),run1 (l.take m)=min m (run1 l)
 | [],m=>by simp [run1]
 | c :: l,0=>by simp [run1]
 | c :: l,m+1=>by
  simp only [List.take_succ_cons,run1]
  split
  ·rw [run1_cut l m];omega
  ·simp
theorem intN_cut (s:List UInt8) (m:Nat) (h:intN s≤m):intN (s.take m)=intN s:=by
 unfold intN at h ⊢
 rw [run1_cut]
 by_cases h1:run1 s=0
 ·rw [h1];simp
 rw [if_neg h1] at h ⊢
 by_cases h2:s.getD 0 0=48
 ·rw [if_pos h2] at h ⊢
  have e:(s.take m).getD 0 0=s.getD 0 0:=by
   cases s with
   | nil=>simp
   | cons c r=>obtain ⟨k,rfl⟩:∃ k,m=k+1:=⟨m-1,by omega⟩;simp
  rw [e,if_pos h2,if_neg (by omega)]
 ·rw [if_neg h2] at h ⊢
  have e:(s.take m).getD 0 0=s.getD 0 0:=by
   cases s with
   | nil=>simp
   | cons c r=>obtain ⟨k,rfl⟩:∃ k,m=k+1:=⟨m-1,by omega⟩;simp
  rw [e,if_neg h2,if_neg (by omega)]
  omega
theorem wholeN_cut (s:List UInt8) (m:Nat) (h:wholeN s≤m):wholeN (s.take m)=wholeN s:=by
 cases s with
 | nil=>simp
 | cons c r =>
  cases m with
  | zero =>
   have:wholeN (c :: r)=0:=by omega
   rw [this];rfl
  | succ m =>
   by_cases hc:c=45
   ·subst hc
    rw [List.take_succ_cons]
    rw [wholeN_neg] at h ⊢
    rw [wholeN_neg,run1_cut]
    by_cases h1:run1 r=0
    ·rw [h1];simp
    ·rw [if_neg h1] at h ⊢
     have h2:intN r≠0:=by unfold intN;rw [if_neg h1];split<;>omega
     rw [if_neg (by omega),intN_cut r m (by omega)]
   ·rw [wholeN_pos (s:=c :: r) (by simp [hc])] at h ⊢
    rw [wholeN_pos (s:=(c :: r).take (m+1)) (by simp [hc]),intN_cut _ _ h]
theorem fracN_cons (c:UInt8) (r:List UInt8):fracN (c :: r)=if c=46∧0<run1 r then 1+run1 r else 0:=by simp [fracN]
theorem fracN_cut (s:List UInt8) (m:Nat) (h:fracN s≤m):fracN (s.take m)=fracN s:=by
 cases s with
 | nil=>simp
 | cons c r =>
  cases m with
  | zero =>
   have:fracN (c :: r)=0:=by omega
   rw [this];rfl
  | succ m =>
   rw [List.take_succ_cons,fracN_cons,fracN_cons,run1_cut]
   rw [fracN_cons] at h
   by_cases h1:c=46∧0<run1 r
   ·rw [if_pos h1] at h ⊢
    rw [if_pos ⟨h1.1,by omega⟩];omega
   ·rw [if_neg h1]
    rw [if_neg]
    rintro ⟨g1,g2⟩
    exact h1 ⟨g1,by omega⟩
theorem sgN_cut (r:List UInt8) (m:Nat) (h:m≠0):sgN (r.take m)=sgN r:=by
 cases r with
 | nil=>simp
 | cons c r =>
  obtain ⟨k,rfl⟩:∃ k,m=k+1:=⟨m-1,by omega⟩
  simp [sgN]
theorem powN_cut (s:List UInt8) (m:Nat) (h:powN s≤m):powN (s.take m)=powN s:=by
 cases s with
 | nil=>simp
 | cons c r =>
  cases m with
  | zero =>
   have:powN (c :: r)=0:=by omega
   rw [this];rfl
  | succ m =>
   simp only [List.take_succ_cons,powN] at h ⊢
   by_cases h1:isE c=true
   case neg=>rw [if_neg h1,if_neg h1]
   rw [if_pos h1] at h ⊢
   rw [if_pos h1]
   by_cases hm:m=0
   ·subst hm
    have h2:run1 (r.drop (sgN r))=0:=by
     by_cases h2:run1 (r.drop (sgN r))=0
     ·exact h2
     ·rw [if_neg h2] at h;omega
    rw [if_pos h2]
    simp [run1]
   ·rw [sgN_cut r m hm,List.drop_take,run1_cut]
    by_cases h2:run1 (r.drop (sgN r))=0
    ·rw [if_pos h2,if_pos (by omega)]
    ·rw [if_neg h2] at h ⊢
     rw [if_neg (by omega)];omega
theorem numN_cut (s:List UInt8) (m:Nat) (h:(numN s).1≤m):numN (s.take m)=numN s:=by
 by_cases hw:wholeN s=0
 ·unfold numN
  rw [wholeN_cut s m (by omega),if_pos hw,if_pos hw]
 ·have h':=h
  unfold numN at h
  rw [if_neg hw] at h
  simp only at h
  unfold numN
  rw [wholeN_cut s m (by omega),if_neg hw,if_neg hw,List.drop_take,List.drop_take,fracN_cut _ _ (by omega),powN_cut _ _ (by omega)]
theorem num_right {s:List UInt8} (h:(numN s).1≠0):rightK ⟨(numN s).2,s.take (numN s).1⟩=true:=by
 have h2:=numN_2 h
 have hl:=numN_le1 s
 unfold rightK
 simp only
 rw [if_neg (by omega),if_neg (by omega),if_pos h2]
 unfold numK
 rw [numN_cut s _ (Nat.le_refl _),List.length_take,Nat.min_eq_left hl,if_pos rfl]
 simp
theorem nameG_of:∀ (s:List UInt8) (i:Nat),i≠0→(∀ c ∈ s,(isL c || isD c)=true)→nameG s i=true
 | [],_,_,_=>rfl
 | c :: r,i,hi,h=>by
  have h1:=h c (.head _)
  simp only [nameG]
  rw [if_pos (by simpa [hi] using h1)]
  exact nameG_of r (i+1) (by omega) fun d hd=>h d (.tail _ hd)
theorem takeW_p {p:UInt8→Bool}:∀ (s:List UInt8),∀ c ∈ s.takeWhile p,p c=true
 | [],c,h=>by simp at h
 | d :: s,c,h=>by
  simp only [List.takeWhile_cons] at h
  split at h
  ·rename_i hd
   rcases List.mem_cons.1 h with rfl|h
   ·exact hd
   ·exact takeW_p s c h
  ·simp at h
theorem take_takeW (p:UInt8→Bool) (s:List UInt8):s.take (s.takeWhile p).length=s.takeWhile p:=by
 induction s with
 | nil=>rfl
 | cons c s ih =>
  simp only [List.takeWhile_cons]
  split
  ·simp [ih]
  ·rfl
theorem word_rightK {c:UInt8} {r:List UInt8} (h:isL c=true):rightK ⟨2,(c :: r).take (wordN (c :: r))⟩=true:=by
 unfold rightK
 simp only
 rw [if_neg (by decide),if_pos trivial]
 unfold wordN
 rw [take_takeW]
 have h1:=takeW_p (p:=fun c=>isL c || isD c) (c :: r)
 simp only [List.takeWhile_cons,h,Bool.true_or,if_true] at h1 ⊢
 simp only [nameM,nameG,h,Bool.true_or,if_true,Bool.and_eq_true,decide_eq_true_eq]
 exact ⟨nameG_of _ 1 (by decide) fun d hd=>h1 d (.tail _ hd),by simp⟩
theorem validT {c:UInt8} (hc:c.toNat<128) {b:List UInt8} (h:validD (c :: b)=true):validD b=true:=(validS hc (a:=[]) h).2
theorem valid1 {c:UInt8} (hc:c.toNat<128) {b:List UInt8} (h:validD b=true):validD (c :: b)=true:=validA2 (a:=[c]) (low_valid fun d hd=>by simp only [List.mem_singleton] at hd;subst hd;exact hc) h
theorem pre_split:∀ {p s:List UInt8},p.isPrefixOf s=true→s=p++s.drop p.length
 | [],s,_=>rfl
 | x :: p,[],h=>by simp [List.isPrefixOf] at h
 | x :: p,c :: s,h=>by
  simp only [List.isPrefixOf,Bool.and_eq_true,beq_iff_eq] at h
  have:=pre_split h.2
  rw [h.1]
  simp only [List.cons_append,List.length_cons,List.drop_succ_cons,List.cons.injEq,true_and]
  exact this
theorem rawM_valid:∀ (n:Nat) (raw t b s':List UInt8),rawM n raw t=some (b,s')→validD (raw++t)=true→validD b=true∧validD s'=true
 | 0,_,_,_,_,h,_=>by cases h
 | n+1,raw,[],_,_,h,_=>by simp [rawM] at h
 | n+1,raw,c :: r,b,s',h,hv=>by
  simp only [rawM] at h
  split at h
  ·rename_i h1
   simp only [Option.some.injEq,Prod.mk.injEq] at h
   obtain ⟨rfl,rfl⟩:=h
   have e:=pre_split h1
   simp only [threeT,List.cons_append,List.nil_append,List.length_cons,List.length_nil,List.drop_succ_cons,Nat.zero_add,Nat.reduceAdd] at e
   rw [e] at hv
   have g:=validS (c:=34) (by decide) hv
   exact ⟨g.1,validT (c:=34) (by decide) (validT (c:=34) (by decide) g.2)⟩
  ·split at h
   ·rename_i h2
    have e:=pre_split h2
    simp only [escT,List.cons_append,List.nil_append,List.length_cons,List.length_nil,List.drop_succ_cons,Nat.zero_add,Nat.reduceAdd] at e
    rw [e] at hv
    have g:=validS (c:=92) (by decide) hv
    refine rawM_valid n _ _ _ _ h ?_
    rw [List.append_assoc]
    exact validA2 g.1 g.2
   ·exact rawM_valid n _ _ _ _ h (by rw [List.append_assoc];exact hv)
theorem linesG_valid:∀ (s cur:List UInt8),validD (cur++s)=true→∀ x ∈ linesG cur s,validD x=true
 | [],cur,h,x,hx=>by
  simp only [linesG,List.mem_singleton] at hx
  subst hx;simpa using h
 | [c],cur,h,x,hx=>by
  simp only [linesG] at hx
  split at hx
  ·rename_i hc
   have hc2:c.toNat<128:=by rcases hc with rfl|rfl<;>decide
   have g:=validS hc2 h
   simp only [List.mem_cons,List.not_mem_nil,or_false] at hx
   rcases hx with rfl|rfl
   ·exact g.1
   ·rfl
  ·simp only [List.mem_singleton] at hx
   subst hx;exact h
 | c :: d :: r,cur,h,x,hx=>by
  simp only [linesG] at hx
  split at hx
  ·rename_i hc
   subst hc
   have g:=validS (c:=10) (by decide) h
   rcases List.mem_cons.1 hx with rfl|hx
   ·exact g.1
   ·exact linesG_valid (d :: r) [] g.2 x hx
  ·split at hx
   ·rename_i hc
    subst hc
    have g:=validS (c:=13) (by decide) h
    split at hx
    ·rename_i hd
     subst hd
     rcases List.mem_cons.1 hx with rfl|hx
     ·exact g.1
     ·exact linesG_valid r [] (validT (c:=10) (by decide) g.2) x hx
    ·rcases List.mem_cons.1 hx with rfl|hx
     ·exact g.1
     ·exact linesG_valid (d :: r) [] g.2 x hx
   ·exact linesG_valid (d :: r) (cur++[c]) (by rw [List.append_assoc];exact h) x hx
termination_by s=>s.length
theorem isBl_low {c:UInt8} (h:isBl c=true):c.toNat<128:=by
 simp only [isBl,Bool.or_eq_true,decide_eq_true_eq] at h
 rcases h with rfl|rfl<;>decide
theorem drop_bl:∀ (s:List UInt8) (n:Nat),n≤leadN s→validD s=true→validD (s.drop n)=true
 | [],n,_,_=>by simp;rfl
 | c :: s,0,_,h=>h
 | c :: s,n+1,hn,h=>by
  unfold leadN at hn
  simp only [List.takeWhile_cons] at hn
  split at hn
  ·rename_i hc
   simp only [List.length_cons] at hn
   exact drop_bl s n (by unfold leadN;omega) (validT (isBl_low hc) h)
  ·simp at hn
theorem indG_le:∀ (L:List (List UInt8)) (a:Int),(0≤a→indG L a≤a∧0≤indG L a)∧(∀ s ∈ L,bareL s=false→indG L a≤leadN s∧0≤indG L a)
 | [],a=>⟨fun h=>⟨Int.le_refl _,h⟩,fun s hs=>nomatch hs⟩
 | s :: r,a=>by
  simp only [indG]
  have ih:=indG_le r
  by_cases hb:bareL s=true
  ·rw [if_pos hb]
   refine ⟨(ih a).1,fun x hx hxb=>?_⟩
   rcases List.mem_cons.1 hx with rfl|hx
   ·rw [hb] at hxb;cases hxb
   ·exact (ih a).2 x hx hxb
  ·rw [if_neg hb]
   by_cases hc:a<0∨(leadN s:Int)<a
   ·rw [if_pos hc]
    have h1:=(ih (leadN s)).1 (by omega)
    refine ⟨fun h=>⟨by omega,h1.2⟩,fun x hx hxb=>?_⟩
    rcases List.mem_cons.1 hx with rfl|hx
    ·exact h1
    ·exact (ih _).2 x hx hxb
   ·rw [if_neg hc]
    have h1:=(ih a).1 (by omega)
    refine ⟨fun _=>h1,fun x hx hxb=>?_⟩
    rcases List.mem_cons.1 hx with rfl|hx
    ·exact ⟨by omega,h1.2⟩
    ·exact (ih _).2 x hx hxb
theorem bare_lead {s:List UInt8} (h:bareL s=true):leadN s=s.length:=by
 unfold bareL at h
 unfold leadN
 rw [takeW_all s (List.all_eq_true.1 h)]
theorem dropM_valid {l:List (List UInt8)} (h:∀ x ∈ l,validD x=true):∀ x ∈ dropM l,validD x=true:=by
 cases l with
 | nil=>exact fun x hx=>nomatch hx
 | cons y r =>
  intro x hx
  simp only [dropM] at hx
  rcases List.mem_cons.1 hx with rfl|hx
  ·exact h _ (.head _)
  ·obtain ⟨s,hs,rfl⟩:=List.mem_map.1 hx
   have hv:=h s (.tail _ hs)
   by_cases hl:(indM (y :: r)).toNat≤leadN s
   ·exact drop_bl s _ hl hv
   ·cases hb:bareL s with
    | true =>
     have:=bare_lead hb
     rw [List.drop_eq_nil_of_le (by omega)];rfl
    | false =>
     have:=(indG_le r (-1)).2 s hs hb
     have e:indM (y :: r)=indG r (-1):=rfl
     rw [e] at hl
     omega
theorem join_valid10:∀ l:List (List UInt8),(∀ x ∈ l,validD x=true)→validD (Lib.join l [10])=true
 | [],_=>rfl
 | [x],h=>by simpa [Lib.join] using h x (.head _)
 | x :: y :: r,h=>by
  have e:Lib.join (x :: y :: r) [10]=x++10 :: Lib.join (y :: r) [10]:=by simp [Lib.join]
  rw [e]
  exact validA2 (h x (.head _)) (valid1 (by decide) (join_valid10 (y :: r) fun z hz=>h z (.tail _ hz)))
theorem trim_sub {l:List (List UInt8)}:∀ x ∈ trimR l,x ∈ l:=fun x hx=>by
 unfold trimR at hx
 have h1:=List.mem_reverse.1 hx
 exact List.mem_reverse.1 ((List.dropWhile_sublist _).subset h1)
theorem blockM_valid {raw:List UInt8} (h:validD raw=true):validD (blockM raw)=true:=by
 unfold blockM
 refine join_valid10 _ fun x hx=>?_
 exact dropM_valid (linesG_valid raw [] h) x ((List.dropWhile_sublist _).subset (trim_sub x hx))
theorem oneT_good {s s':List UInt8} {x:Tok} (hv:validD s=true) (h:oneT s=some (x,s')):rightK x=true∧validD s'=true:=by
 cases s with
 | nil=>cases h
 | cons c r =>
  simp only [oneT] at h
  by_cases h1:threeT.isPrefixOf (c :: r)=true
  ·rw [if_pos h1] at h
   have e:=pre_split h1
   simp only [threeT,List.cons_append,List.nil_append,List.length_cons,List.length_nil,List.drop_succ_cons,Nat.zero_add,Nat.reduceAdd] at e
   cases hr:rawM (r.length+1) [] (r.drop 2) with
   | none=>rw [hr] at h;cases h
   | some y =>
    rw [hr] at h
    simp only [Option.map_some,Option.some.injEq,Prod.mk.injEq] at h
    obtain ⟨rfl,rfl⟩:=h
    rw [e] at hv
    have g:=rawM_valid _ _ _ y.1 y.2 hr (validT (c:=34) (by decide) (validT (c:=34) (by decide) (validT (c:=34) (by decide) hv)))
    refine ⟨?_,g.2⟩
    simp [rightK,blockM_valid g.1]
  rw [if_neg h1] at h
  by_cases h2:c=34
  ·rw [if_pos h2] at h
   cases hr:quoM lineB r with
   | none=>rw [hr] at h;cases h
   | some y =>
    rw [hr] at h
    simp only [Option.map_some,Option.some.injEq,Prod.mk.injEq] at h
    obtain ⟨rfl,rfl⟩:=h
    have g:=quoM_valid (b:=y.1) (t':=y.2) hr (validT (by rw [h2];decide) hv)
    exact ⟨by simp [rightK,g.1],g.2⟩
  rw [if_neg h2] at h
  by_cases h3:dotsT.isPrefixOf (c :: r)=true
  ·rw [if_pos h3] at h
   have e:=pre_split h3
   simp only [dotsT,List.cons_append,List.nil_append,List.length_cons,List.length_nil,List.drop_succ_cons,Nat.zero_add,Nat.reduceAdd] at e
   simp only [Option.some.injEq,Prod.mk.injEq] at h
   obtain ⟨rfl,rfl⟩:=h
   rw [e] at hv
   exact ⟨by decide,validT (c:=46) (by decide) (validT (c:=46) (by decide) (validT (c:=46) (by decide) hv))⟩
  rw [if_neg h3] at h
  by_cases h4:0≤Lib.indexByte marksT c
  ·rw [if_pos h4] at h
   simp only [Option.some.injEq,Prod.mk.injEq] at h
   obtain ⟨rfl,rfl⟩:=h
   have hm:=mark_not c
   have hm2:markB c=true:=by simpa [markB] using h4
   simp only [hm2,Bool.not_true,Bool.false_or,Bool.and_eq_true,decide_eq_true_eq] at hm
   exact ⟨by simp [rightK,isMark,h4],validT hm.2.2.2.2.2.2.2 hv⟩
  rw [if_neg h4] at h
  by_cases h5:isL c=true
  ·rw [if_pos h5] at h
   simp only [Option.some.injEq,Prod.mk.injEq] at h
   obtain ⟨rfl,rfl⟩:=h
   refine ⟨word_rightK h5,?_⟩
   have ht:validD ((c :: r).take (wordN (c :: r)))=true:=low_valid fun d hd=>by
    unfold wordN at hd
    rw [take_takeW] at hd
    have:=takeW_p (p:=fun c=>isL c || isD c) _ d hd
    simp only [isL,isD,Bool.or_eq_true,Bool.and_eq_true,decide_eq_true_eq] at this
    omega
   rw [← validA ht,List.take_append_drop];exact hv
  rw [if_neg h5] at h
  by_cases h6:(numN (c :: r)).1=0
  ·rw [if_pos h6] at h;cases h
  rw [if_neg h6] at h
  split at h
  ·cases h
  ·simp only [Option.some.injEq,Prod.mk.injEq] at h
   obtain ⟨rfl,rfl⟩:=h
   have hr:=num_right h6
   refine ⟨hr,?_⟩
   have hk:numK ((c :: r).take (numN (c :: r)).1)≠0:=by
    unfold numK
    rw [numN_cut _ _ (Nat.le_refl _),List.length_take,Nat.min_eq_left (numN_le1 _),if_pos rfl]
    have:=numN_2 h6
    omega
   have ht:validD ((c :: r).take (numN (c :: r)).1)=true:=low_valid fun d hd=>(num_ascii hk d hd).2
   rw [← validA ht,List.take_append_drop];exact hv
theorem drop_takeW (p:UInt8→Bool):∀ r:List UInt8,r.drop (r.takeWhile p).length=r.dropWhile p
 | []=>rfl
 | c :: r=>by
  simp only [List.takeWhile_cons,List.dropWhile_cons]
  split
  ·simp [drop_takeW p r]
  ·rfl
theorem gap_good {s:List UInt8} (hv:validD s=true):validD (s.drop (gapN s))=true:=by
 cases s with
 | nil=>rfl
 | cons c r =>
  simp only [gapN]
  split
  ·rename_i h
   have hc:c.toNat<128:=by rcases h with rfl|rfl|rfl|rfl|rfl<;>decide
   exact validT hc hv
  ·split
   ·rename_i h
    have e:=pre_split h
    rw [e] at hv
    have hb:validD bomT=true:=by decide
    rw [validA hb] at hv
    exact hv
   ·split
    ·rename_i h
     subst h
     have hr:=validT (c:=35) (by decide) hv
     rw [show 1+(r.takeWhile notEol).length=(r.takeWhile notEol).length+1 by omega,List.drop_succ_cons]
     have ec:r.takeWhile notEol++r.dropWhile notEol=r:=List.takeWhile_append_dropWhile
     rw [drop_takeW]
     cases hd:r.dropWhile notEol with
     | nil=>rfl
     | cons d t =>
      have hnd:notEol d=false:=by
       have:=List.head_dropWhile_not notEol (l:=r) (by rw [hd];simp)
       simpa [hd] using this
      have hdl:d.toNat<128:=by
       simp only [notEol,Bool.not_eq_false',Bool.or_eq_true,decide_eq_true_eq] at hnd
       rcases hnd with rfl|rfl<;>decide
      rw [hd] at ec
      rw [← ec] at hr
      exact valid1 hdl (validS hdl hr).2
    ·exact hv
theorem readG_right:∀ (n:Nat) (l:List Tok) (s:List UInt8) (l':List Tok),readG n l s=.ok l'→validD s=true→l.all rightK=true→l'.all rightK=true
 | 0,_,_,_,h,_,_=>by cases h
 | n+1,l,s,l',h,hv,hl=>by
  simp only [readG] at h
  split at h
  ·cases h;exact hl
  ·split at h
   ·exact readG_right n _ _ _ h (gap_good hv) hl
   ·cases ho:oneT s with
    | none=>rw [ho] at h;cases h
    | some x =>
     rw [ho] at h
     obtain ⟨g1,g2⟩:=oneT_good (x:=x.1) (s':=x.2) hv ho
     exact readG_right n _ _ _ h g2 (by simp [hl,g1])
theorem srcB_valid:∀ (n:Nat) (s:List UInt8),s.length≤n→srcB s=true→validD s=true
 | 0,s,hn,_=>by
  obtain rfl:s=[]:=List.length_eq_zero_iff.1 (by omega)
  rfl
 | n+1,s,hn,h=>by
  by_cases hne:s=[]
  ·subst hne;rfl
  ·rw [srcB_step hne] at h
   simp only [Bool.and_eq_true,decide_eq_true_eq] at h
   rw [(codeN_good hne (by omega)).1]
   exact srcB_valid n _ (by rw [List.length_drop];omega) h.2.2
theorem readT_right {s:List UInt8} {l:List Tok} (h:readT s=.ok l):l.all rightK=true:=by
 obtain ⟨_,h2,h3⟩:=readT_ok h
 exact readG_right _ _ _ _ h3 (srcB_valid _ s (Nat.le_refl _) h2) rfl
end Go.Proofs.YticbbfbpeimkbaaGreatDoor
namespace Go.Proofs.YticbbfbpeimkbaaGreatDoor
open Go.Ab Go.Lib
theorem isMark_ne {s:List UInt8} (h:s.length≠1):isMark s=false:=by
 match s,h with
 | [],_=>rfl
 | [_],h=>exact absurd rfl h
 | _ :: _ :: _,_=>rfl
theorem rightTC (t:Tok) (ht:t.s.length≤Lim):Pure Tryz.prog 119 [.agg (cK t)] (.bool (rightK t)):=by
 refine Pure.go ir119 ck119 (Nat.le_refl _) fun KP Q hQ=>?_
 obtain ⟨k,s⟩:=t
 simp only at ht
 by_cases k1:k=1
 ·subst k1
  by_cases hd:s=[46,46,46]
  ·simp (disch:=first|omega|assumption) only [ir119,cK,hd,go_sem,↓reduceIte]
   exact hQ _ _ _ _ nofun rfl (by simp [tupOf,envOf,AV.strip,AV.strip1,rightK,hd,dotsT])
  by_cases hl:s.length=1
  ·obtain ⟨c,rfl⟩:=List.length_eq_one_iff.1 hl
   simp (disch:=first|omega|assumption) only [ir119,cK,hd,go_sem,↓reduceIte]
   have e:rightK ⟨1,[c]⟩=decide (0≤Lib.indexByte marksT c):=by simp [rightK,dotsT,isMark]
   refine goK_pure (containsC1 _ c) ?_
   simp (disch:=first|omega|assumption) only [go_sem,↓reduceIte]
   exact hQ _ _ _ [_] nofun rfl (by rw [e];rfl)
  ·have hl':¬ ((s.length:Int)=1):=by omega
   simp (disch:=first|omega|assumption) only [ir119,cK,hd,hl',go_sem,↓reduceIte]
   exact hQ _ _ _ _ nofun rfl (by simp [tupOf,envOf,AV.strip,AV.strip1,rightK,hd,dotsT,isMark_ne hl])
 by_cases k2:k=2
 ·subst k2
  simp (disch:=first|omega|assumption) only [ir119,cK,go_sem,↓reduceIte]
  refine goK_pure (nameC s ht) ?_
  simp (disch:=first|omega|assumption) only [go_sem,↓reduceIte]
  exact hQ _ _ _ _ nofun rfl (by simp [tupOf,envOf,AV.strip,AV.strip1,rightK])
 by_cases k3:k=3
 ·subst k3
  simp (disch:=first|omega|assumption) only [ir119,cK,go_sem,↓reduceIte]
  refine goK_pure (NumberC s ht) ?_
  simp (disch:=first|omega|assumption) only [go_sem,↓reduceIte]
  exact hQ _ _ _ _ nofun rfl (by simp [tupOf,envOf,AV.strip,AV.strip1,rightK])
 by_cases k4:k=4
 ·subst k4
  simp (disch:=first|omega|assumption) only [ir119,cK,go_sem,↓reduceIte]
  refine goK_pure (NumberC s ht) ?_
  simp (disch:=first|omega|assumption) only [go_sem,↓reduceIte]
  exact hQ _ _ _ _ nofun rfl (by simp [tupOf,envOf,AV.strip,AV.strip1,rightK])
 by_cases k5:k=5
 ·subst k5
  simp (disch:=first|omega|assumption) only [ir119,cK,go_sem,↓reduceIte]
  refine goK_pure (goodC s ht) ?_
  simp (disch:=first|omega|assumption) only [go_sem,↓reduceIte]
  exact hQ _ _ _ _ nofun rfl (by simp [tupOf,envOf,AV.strip,AV.strip1,rightK])
 ·simp (disch:=first|omega|assumption) only [ir119,cK,k1,k2,k3,k4,k5,go_sem,↓reduceIte]
  exact hQ _ _ _ _ nofun rfl (by simp [tupOf,envOf,AV.strip,AV.strip1,rightK,k1,k2,k3,k4,k5])
theorem join_le:∀ l:List (List UInt8),(Lib.join l [32]).length≤(l.map fun s=>s.length+1).sum
 | []=>by simp [Lib.join_nil]
 | x :: r=>by
  rw [Lib.join_length]
  have:∀ l:List (List UInt8),lens l+l.length=(l.map fun s=>s.length+1).sum:=fun l=>by
   induction l with
   | nil=>rfl
   | cons y l ih=>simp only [lens,List.map_cons,List.sum_cons,List.length_cons] at ih ⊢;omega
  have h:=this (x :: r)
  simp only [List.length_cons,List.length_nil] at h ⊢
  omega
theorem tjoin_le (l:List Tok) (h:l.all rightK=true):(tjoin l).length≤6*wT l:=by
 refine Nat.le_trans (join_le _) ?_
 induction l with
 | nil=>simp [wT]
 | cons t l ih =>
  simp only [List.all_cons,Bool.and_eq_true] at h
  have h1:=tokT_len h.1
  have h2:=ih h.2
  rw [wT_cons]
  simp only [List.map_cons,List.sum_cons,wK] at h2 ⊢
  omega
theorem wT_mem {l:List Tok} {t:Tok} (h:t ∈ l):t.s.length+4≤wT l:=by
 induction l with
 | nil=>cases h
 | cons y l ih =>
  rw [wT_cons]
  rcases List.mem_cons.1 h with rfl|h
  ·unfold wK;omega
  ·have:=ih h;omega
theorem wT_len (l:List Tok):4*l.length≤wT l:=by
 induction l with
 | nil=>simp
 | cons y l ih=>rw [wT_cons];simp only [List.length_cons,wK];omega
theorem printTC (L:List Tok) (hb:8*wT L≤Lim):Pure Tryz.prog 56 [.sl .no 2 (cKs L)] (.tup [.str (tprint L).1,.bool (tprint L).2]):=by
 refine Pure.go ir56 ck56 (Nat.le_refl _) fun KP Q hQ=>?_
 have hkl:=cKs_len L
 have hwl:=wT_len L
 simp only [Lim] at hb
 simp (disch:=first|omega|assumption) only [ir56,hkl,go_sem,↓reduceIte]
 refine goL_range L 9 (fun x:Own × List (List UInt8)=>[(4,.sl x.1 1 (cT x.2))]) (fun done rest x H=>x.2=done.map tokT∧done.all rightK=true∧Owned H x.1 x.2.length 1) (.nil,[]) (by simp (disch:=first|omega|assumption) only [cT,go_sem,↓reduceIte]) ⟨rfl,rfl,Owned.nil _ _⟩ ?_ ?_
 ·rintro ⟨o,l⟩ H J ⟨hl,hr,ho⟩ hlt
  simp only at hl hr ho
  subst hl
  have hj:=tjoin_le L hr
  have hcl:=cT_len (L.map tokT)
  simp (disch:=first|omega|assumption) only [hkl,hlt,go_sem,↓reduceIte]
  refine goK_pure (Pure.low (joinStrC (L.map tokT) [32] (by show (tjoin L).length≤_;omega) (by simp;omega))) ?_
  simp (disch:=first|omega|assumption) only [go_sem,↓reduceIte]
  exact hQ _ _ _ _ nofun rfl (by simp [tupOf,envOf,AV.strip,AV.strip1,tprint,hr,tjoin])
 ·rintro done x rest ⟨o,l⟩ H J hd hlt hlt2 ⟨hl,hr,ho⟩ hJ
  simp only at hl hr ho
  have hg:=cKs_get hd
  have hmem:x ∈ L:=by rw [hd];simp
  have hx:=wT_mem hmem
  have hlen:l.length=done.length:=by rw [hl];simp
  have hcl:=cT_len l
  simp (disch:=first|omega|assumption) only [hkl,hlt,hg,go_sem,↓reduceIte]
  refine goA_intro fun b hb=>?_
  simp (disch:=first|omega|assumption) only [go_sem,↓reduceIte]
  refine goK_pure (rightTC x (by simp only [Lim];omega)) ?_
  cases hrx:rightK x with
  | false =>
   have e:L.all rightK=false:=by rw [hd];simp [hrx]
   simp (disch:=first|omega|assumption) only [go_sem,↓reduceIte]
   exact hQ _ _ _ _ nofun rfl (by simp [tupOf,envOf,AV.strip,AV.strip1,tprint,e])
  | true =>
   by_cases k5:x.k=5
   ·have hv:validD x.s=true:=by unfold rightK at hrx;rw [k5] at hrx;simpa using hrx
    simp (disch:=first|omega|assumption) only [k5,go_sem,↓reduceIte]
    refine goK_pure (quoteTC x.s hv (by simp only [Lim];omega)) ?_
    simp (disch:=first|omega|assumption) only [go_sem,↓reduceIte]
    refine goP_ownS (by rw [hcl];exact ho.upd hb) (by simp only [hcl,List.length_cons,List.length_nil];omega) (by simp only [hcl,List.length_cons,List.length_nil,maxLen];omega) fun o3 H3 hs3=>?_
    have et:tokT x=tquo x.s:=by unfold tokT;rw [if_pos k5]
    simp (disch:=first|omega|assumption) only [wrap64,go_sem,↓reduceIte]
    exact goJ (hJ (o3,l++[tquo x.s]) H3 ⟨by rw [hl];simp [et],by simp [hr,hrx],by simpa [hcl] using hs3.own⟩) (by simp (disch:=first|omega|assumption) only [cT,List.map_append,go_sem,↓reduceIte])
   ·have et:tokT x=x.s:=by unfold tokT;rw [if_neg k5]
    simp (disch:=first|omega|assumption) only [k5,go_sem,↓reduceIte]
    refine goP_ownS (by rw [hcl];exact ho.upd hb) (by simp only [hcl,List.length_cons,List.length_nil];omega) (by simp only [hcl,List.length_cons,List.length_nil,maxLen];omega) fun o3 H3 hs3=>?_
    simp (disch:=first|omega|assumption) only [wrap64,go_sem,↓reduceIte]
    exact goJ (hJ (o3,l++[x.s]) H3 ⟨by rw [hl];simp [et],by simp [hr,hrx],by simpa [hcl] using hs3.own⟩) (by simp (disch:=first|omega|assumption) only [cT,List.map_append,go_sem,↓reduceIte])
end Go.Proofs.YticbbfbpeimkbaaGreatDoor
namespace Go.Proofs.YticbbfbpeimkbaaGreatDoor
open Go.Ab
structure WAt (H:Heap) (w:Nat) (o:Own) (l:List Tok) (ok:Bool) (dp:Int):Prop where
 cell:H w=some (.cells [.sl o 2 (cKs l),.bool ok,.int .i64 dp])
 own:Owned H o l.length 2
structure WStep (H:Heap) (o:Own) (w:Nat) (H':Heap) (o':Own):Prop where
 keep:∀ c x,c≠w→(∀ d,o≠.tip c d)→H c=some x→H' c=some x
 new:∀ b d,o'=.tip b d→H b=none∨∃ d0,o=.tip b d0
theorem WStep.refl (H:Heap) (o:Own) (w:Nat):WStep H o w H o:=⟨fun _ _ _ _ h=>h,fun b d e=>.inr ⟨d,e⟩⟩
theorem WStep.trans {H H1 H2:Heap} {o o1 o2:Own} {w:Nat} {x:AObj} (h:WStep H o w H1 o1) (hw:H1 w=some x) (h':WStep H1 o1 w H2 o2):WStep H o w H2 o2:=by
 refine ⟨fun c y hc hn hy=>h'.keep c y hc (fun d e=>?_) (h.keep c y hc hn hy),fun b d e=>?_⟩
 ·rcases h.new c d e with h1|⟨d0,h1⟩
  ·rw [hy] at h1;cases h1
  ·exact hn d0 h1
 ·rcases h'.new b d e with h1|⟨d0,h1⟩
  ·cases hb:H b with
   | none=>exact .inl rfl
   | some y =>
    by_cases e2:∃ d,o=.tip b d
    ·exact .inr e2
    ·have hbw:b≠w:=fun e3=>by subst e3;rw [hw] at h1;cases h1
     have:=h.keep b y hbw (fun d e3=>e2 ⟨d,e3⟩) hb
     rw [h1] at this;cases this
  ·exact h.new b d0 h1
theorem WStep.box {H H':Heap} {o o':Own} {w b n:Nat} {cs:List AV} (h:WStep H o w H' o') (ho:Owned H o n 2) (hb:H b=some (.cells cs)) (hw:b≠w):H' b=some (.cells cs) :=
 h.keep b _ hw (fun d e=>by subst e;exact own_ne ho hb rfl) hb
theorem WStep.upd {H H':Heap} {o o':Own} {w:Nat} {x:AObj} (h:WStep H o w H' o'):WStep H o w (H'.upd w x) o' :=
 ⟨fun c y hc hn hy=>by rw [upd_ne hc];exact h.keep c y hc hn hy,h.new⟩
theorem WStep.alloc {H H':Heap} {o o':Own} {w b:Nat} {x:AObj} (h:WStep H o w H' o') (hb:H' b=none):WStep H o w (H'.upd b x) o' :=
 ⟨fun c y hc hn hy=>by have:=h.keep c y hc hn hy;rw [upd_ne (fun e=>by subst e;rw [hb] at this;cases this)];exact this,h.new⟩
theorem WAt.alloc {H:Heap} {w b:Nat} {o:Own} {l:List Tok} {ok:Bool} {dp:Int} {x:AObj} (h:WAt H w o l ok dp) (hb:H b=none):WAt (H.upd b x) w o l ok dp :=
 ⟨by rw [upd_ne (fun e=>by subst e;rw [h.cell] at hb;cases hb)];exact h.cell,h.own.upd hb⟩
theorem WAt.put {H:Heap} {w:Nat} {o:Own} {l:List Tok} {ok ok':Bool} {dp dp':Int} (h:WAt H w o l ok dp):WAt (H.upd w (.cells [.sl o 2 (cKs l),.bool ok',.int .i64 dp'])) w o l ok' dp' :=
 ⟨upd_same ..,own_upd h.own h.cell⟩
theorem WAt.app {H H1:Heap} {w:Nat} {o o1:Own} {l ts:List Tok} {ok:Bool} {dp:Int} {n:Nat} (h:WAt H w o l ok dp) (hs:OwnS H o H1 o1 n 2) (hn:n=(l++ts).length) :
  H1 w=some (.cells [.sl o 2 (cKs l),.bool ok,.int .i64 dp])∧WAt (H1.upd w (.cells [.sl o1 2 (cKs (l++ts)),.bool ok,.int .i64 dp])) w o1 (l++ts) ok dp∧WStep H o w (H1.upd w (.cells [.sl o1 2 (cKs (l++ts)),.bool ok,.int .i64 dp])) o1:=by
 subst hn
 have hc:=own_keep h.own h.cell hs.kept
 exact ⟨hc,⟨upd_same ..,own_upd hs.own hc⟩,fun c y hcw hn hy=>by rw [upd_ne hcw];exact hs.kept c y hy hn,hs.new⟩
abbrev RetT (R:AV→Heap→Prop):AEnd→Heap→Prop:=fun e H'=>∃ v,e=.ret v∧R v H'
structure WR (H0:Heap) (o0:Own) (w:Nat) (l0:List Tok) (ok0:Bool) (dp:Int) (B:Nat) (r:Bool) (tk:List Tok) (H:Heap) (o:Own) (l:List Tok):Prop where
 here:WAt H w o l (ok0 && r) dp
 st:WStep H0 o0 w H o
 len:l.length≤l0.length+B
 eq:(ok0 && r)=true→l=l0++tk
theorem WR.refl {H:Heap} {o:Own} {w:Nat} {l:List Tok} {ok:Bool} {dp:Int} (h:WAt H w o l ok dp):WR H o w l ok dp 0 true [] H o l :=
 ⟨by rw [Bool.and_true];exact h,.refl _ _ _,Nat.le_refl _,fun _=>by simp⟩
theorem WR.alloc {H0 H:Heap} {o0 o:Own} {w b B:Nat} {l0 l tk:List Tok} {ok0 r:Bool} {dp:Int} {x:AObj} (h:WR H0 o0 w l0 ok0 dp B r tk H o l) (hb:H b=none):WR H0 o0 w l0 ok0 dp B r tk (H.upd b x) o l :=
 ⟨h.here.alloc hb,h.st.alloc hb,h.len,h.eq⟩
section
variable {KP:AV→Heap→Prop} {Q:AExit→Env→Heap→Prop} {st:List Fr} {ρ:Env} {H:Heap} {all items:List AItem} {d:Option Nat} {R:List Chk}
end
end Go.Proofs.YticbbfbpeimkbaaGreatDoor
namespace Go.Proofs.YticbbfbpeimkbaaGreatDoor
open Go.Ab Go.Lib
def cStr (l:List (List UInt8)):List AV:=l.map AV.str
theorem cStr_len (l:List (List UInt8)):(cStr l).length=l.length:=by simp [cStr]
def MsT (H:Heap) (b cap:Nat) (l:List (List UInt8)):Prop:=∃ tl,H b=some (.cells (cStr l++tl))∧l.length+tl.length=cap
theorem madeA1 (z:AV):∀ n,(madeA [z] n).length=n
 | 0=>rfl
 | n+1=>by simp [madeA,madeA1 z n]
section
variable {KP:AV→Heap→Prop} {Q:AExit→Env→Heap→Prop} {st:List Fr} {ρ:Env} {H:Heap} {all items:List AItem} {d:Option Nat} {R:List Chk}
theorem goPm_T {b cap:Nat} {l:List (List UInt8)} {x:List UInt8} {o2:Own} (h:MsT H b cap l) (h1:(l.length+1)*16≤140737488355328) (h2:l.length+1≤maxLen)
  (k:∀ b' cap' H',MsT H' b' cap' (l++[x])→goR Tryz.prog KP Q all items st R (ρ.set d (.ms b' 0 (l.length+1) cap')) H') :
  goPm Tryz.prog KP Q all items st d R ρ 1 16 [.str []] (.ms b 0 l.length cap) (.sl o2 1 [[.str x]]) H:=by
 obtain ⟨tl,hb,hc⟩:=h
 refine goPm_ms hb rfl (by simpa using h1) (by simpa using h2) (fun hfit=>⟨?_,?_⟩) (fun hnf=>⟨?_,fun b' cap' hb' hcap' hm'=>?_⟩)
 ·have hfit:l.length+1≤cap:=hfit
  simp [cStr_len];omega
 ·have hfit:l.length+1≤cap:=hfit
  obtain ⟨t0,tl,rfl⟩:∃ t0 t1,tl=t0 :: t1:=by
   cases tl with
   | nil=>simp at hc;omega
   | cons a b=>exact ⟨a,b,rfl⟩
  refine k b cap _ ⟨tl,?_,by simp at hc ⊢;omega⟩
  rw [upd_same]
  simp only [splice,List.flatten_cons,List.flatten_nil,List.append_nil,List.map_cons,List.map_nil,AV.strip1,List.length_cons,List.length_nil,Nat.zero_add,Nat.mul_one]
  rw [List.take_left' (cStr_len l),List.drop_append,List.drop_eq_nil_of_le (by rw [cStr_len];omega),cStr_len,Nat.add_sub_cancel_left]
  simp [cStr]
 ·simp [cStr_len]
 ·refine k b' cap' _ ⟨madeA [.str []] (cap'-(l.length+1)),?_,?_⟩
  ·rw [upd_same]
   simp only [List.drop_zero,Nat.mul_one,List.flatten_cons,List.flatten_nil,List.append_nil,List.map_cons,List.map_nil,AV.strip1,List.length_cons,List.length_nil,Nat.zero_add]
   rw [List.take_left' (cStr_len l)]
   simp [cStr]
  ·have hcap':l.length+1≤cap':=hcap'
   rw [madeA1];simp;omega
theorem goPm_T0 {x:List UInt8} {o2:Own} (k:∀ b' cap' H',MsT H' b' cap' [x]→goR Tryz.prog KP Q all items st R (ρ.set d (.ms b' 0 1 cap')) H') :
  goPm Tryz.prog KP Q all items st d R ρ 1 16 [.str []] (.sl .nil 1 []) (.sl o2 1 [[.str x]]) H:=by
 refine goPm_nil rfl (by simp) (by simp [maxLen]) (fun h=>by simp at h) fun _ b cap hb h1 h2=>?_
 have h1:1≤cap:=h1
 refine k b cap _ ⟨madeA [.str []] (cap-1),?_,by rw [madeA1];simp;omega⟩
 rw [upd_same]
 simp [cStr,AV.strip1]
end
theorem linesG_plain {cur r:List UInt8} {c:UInt8} (h:¬ (c=10∨c=13)):linesG cur (c :: r)=linesG (cur++[c]) r:=by
 have h10:c≠10:=fun e=>h (.inl e)
 have h13:c≠13:=fun e=>h (.inr e)
 cases r with
 | nil=>simp [linesG,h10,h13]
 | cons d r=>simp [linesG,h10,h13]
theorem linesG_10 (cur r:List UInt8):linesG cur (10 :: r)=cur :: linesG [] r:=by cases r<;>simp [linesG]
theorem linesG_13 {cur r:List UInt8} (h:r.head?≠some 10):linesG cur (13 :: r)=cur :: linesG [] r:=by
 cases r with
 | nil=>simp [linesG]
 | cons d r =>
  have:d≠10:=by simpa using h
  simp [linesG,this]
theorem linesG_two (cur r:List UInt8):linesG cur (13 :: 10 :: r)=cur :: linesG [] r:=by simp [linesG]
def linV (b cap:Nat) (l:List (List UInt8)):AV:=if l=[] then .sl .nil 1 [] else .ms b 0 l.length cap
theorem linV_nil (b cap:Nat):linV b cap []=.sl .nil 1 []:=rfl
theorem linV_ne {b cap:Nat} {l:List (List UInt8)} (h:l≠[]):linV b cap l=.ms b 0 l.length cap:=if_neg h
def LinesQ (s:List UInt8):AEnd→Heap→Prop:=RetT fun v H'=>∃ b cap,v=.ms b 0 (linesM s).length cap∧MsT H' b cap (linesM s)
section
variable {KP:AV→Heap→Prop} {Q:AExit→Env→Heap→Prop} {st:List Fr} {ρ:Env} {H:Heap} {all items:List AItem} {d:Option Nat} {R:List Chk}
theorem goPm_L {b cap:Nat} {l:List (List UInt8)} {x:List UInt8} {o2:Own} (h:l≠[]→MsT H b cap l) (h1:(l.length+1)*16≤140737488355328) (h2:l.length+1≤maxLen)
  (k:∀ b' cap' H',MsT H' b' cap' (l++[x])→goR Tryz.prog KP Q all items st R (ρ.set d (.ms b' 0 (l.length+1) cap')) H') :
  goPm Tryz.prog KP Q all items st d R ρ 1 16 [.str []] (linV b cap l) (.sl o2 1 [[.str x]]) H:=by
 by_cases hl:l=[]
 ·subst hl
  rw [linV_nil]
  exact goPm_T0 fun b' cap' H' hm=>k b' cap' H' hm
 ·rw [linV_ne hl]
  exact goPm_T (h hl) h1 h2 k
end
theorem linesTC (s:List UInt8) (hs:s.length≤Lim):ACalls Tryz.prog 323 [.str s] Heap.emp (LinesQ s):=by
 refine ACalls.go ir323 ck323 (Nat.le_refl _) fun KP Q hQ=>?_
 have hs':=hs
 simp only [Lim] at hs'
 simp (disch:=first|omega|assumption) only [ir323,go_sem,↓reduceIte]
 refine goL_st (fun x:Nat × Nat × List (List UInt8) × Nat × Nat=>[(3,linV x.2.2.2.1 x.2.2.2.2 x.2.2.1),(4,.int .i64 x.2.1),(5,.int .i64 x.1)]) (fun x H'=>x.2.1≤x.1∧x.1≤s.length∧x.2.2.1.length≤x.1∧x.2.2.1++linesG ((s.take x.1).drop x.2.1) (s.drop x.1)=linesM s∧(x.2.2.1≠[]→MsT H' x.2.2.2.1 x.2.2.2.2 x.2.2.1)) (fun x=>s.length-x.1) (0,0,[],0,0) (by simp (disch:=first|omega|assumption) only [linV_nil,go_sem,↓reduceIte]) ⟨Nat.le_refl _,Nat.zero_le _,Nat.le_refl _,by simp [linesM],fun h=>absurd rfl h⟩ ?_
 rintro ⟨i,fr,l,b,cap⟩ H1 J ⟨h1,h2,h3,h4,h5⟩ hJ
 simp only at h1 h2 h3 h4 h5
 by_cases hlt:i<s.length
 case neg =>
  obtain rfl:i=s.length:=by omega
  have hlt':¬ ((s.length:Int)<s.length):=by omega
  have hb1:((fr:Int)≤s.length)=True:=eq_true (by omega)
  rw [List.drop_length,List.take_length] at h4
  simp only [linesG] at h4
  simp (disch:=first|omega|assumption) only [hlt',hb1,go_sem,↓reduceIte]
  refine goPm_L h5 (by omega) (by simp only [maxLen];omega) fun b' cap' H2 hm=>?_
  simp (disch:=first|omega|assumption) only [go_sem,↓reduceIte]
  exact hQ _ _ H2 H2 [_] nofun rfl (Low.refl _) ⟨b',cap',by rw [← h4];simp [tupOf,envOf,AV.strip,AV.strip1],by rw [← h4];exact hm⟩
 have hlt':((i:Int)<s.length)=True:=eq_true (by omega)
 obtain ⟨c,r,hd⟩:∃ c r,s.drop i=c :: r:=by
  cases hx:s.drop i with
  | nil=>have:=congrArg List.length hx;simp at this;omega
  | cons c r=>exact ⟨c,r,rfl⟩
 have hc:s.getD i 0=c:=by
  have:(s.drop i).getD 0 0=c:=by rw [hd];rfl
  simpa [List.getD_eq_getElem?_getD] using this
 have hr:s.drop (i+1)=r:=by rw [← List.drop_drop,hd];rfl
 have htk:s.take (i+1)=s.take i++[c]:=by
  rw [List.take_add,hd];rfl
 have hcur:((s.take (i+1)).drop fr)=(s.take i).drop fr++[c]:=by
  rw [htk,List.drop_append_of_le_length (by simp;omega)]
 rw [hd] at h4
 have hb1:((fr:Int)≤(i:Int))=True:=eq_true (by omega)
 have hne9:l++[(s.take i).drop fr]≠[]:=by simp
 have hb2:((i:Int)≤s.length)=True:=eq_true (by omega)
 by_cases e10:c=10
 case pos =>
  subst e10
  rw [linesG_10] at h4
  have hcn:((10:UInt8).toNat:Int)=10:=rfl
  simp (disch:=first|omega|assumption) only [hlt',hc,hcn,hb1,hb2,go_sem,↓reduceIte]
  refine goPm_L h5 (by omega) (by simp only [maxLen];omega) fun b' cap' H2 hm=>?_
  simp (disch:=first|omega|assumption) only [hc,hcn,wrap64,go_sem,↓reduceIte]
  refine goJ (hJ (i+1,i+1,l++[(s.take i).drop fr],b',cap') H2 (by simp only;omega) ⟨Nat.le_refl _,by simp only;omega,by simp;omega,?_,fun _=>hm⟩) (by simp (disch:=first|omega|assumption) only [linV_ne hne9,List.length_append,List.length_cons,List.length_nil,Nat.zero_add,Int.natCast_add,go_sem,↓reduceIte])
  rw [hr]
  simpa using h4
 by_cases e13:c=13
 case neg =>
  rw [linesG_plain (by simp [e10,e13])] at h4
  have c10:¬ ((c.toNat:Int)=10):=fun e=>e10 (UInt8.toNat_inj.1 (by simpa using (by omega:c.toNat=10)))
  have c13:¬ ((c.toNat:Int)=13):=fun e=>e13 (UInt8.toNat_inj.1 (by simpa using (by omega:c.toNat=13)))
  simp (disch:=first|omega|assumption) only [hlt',hc,c10,c13,wrap64,go_sem,↓reduceIte]
  refine goJ (hJ (i+1,fr,l,b,cap) H1 (by simp only;omega) ⟨by simp only;omega,by simp only;omega,by simp only;omega,?_,h5⟩) (by simp (disch:=first|omega|assumption) only [Int.natCast_add,go_sem,↓reduceIte])
  rw [hr,hcur];exact h4
 subst e13
 have hcn:((13:UInt8).toNat:Int)=13:=rfl
 by_cases h10:r.head?=some 10
 case neg =>
  rw [linesG_13 h10] at h4
  by_cases hi2:i+1<s.length
  case neg =>
   have hi2':¬ ((i:Int)+1<s.length):=by omega
   simp (disch:=first|omega|assumption) only [hlt',hc,hcn,hb1,hb2,go_sem,↓reduceIte]
   refine goPm_L h5 (by omega) (by simp only [maxLen];omega) fun b' cap' H2 hm=>?_
   simp (disch:=first|omega|assumption) only [hc,hcn,wrap64,hi2',go_sem,↓reduceIte]
   refine goJ (hJ (i+1,i+1,l++[(s.take i).drop fr],b',cap') H2 (by simp only;omega) ⟨Nat.le_refl _,by simp only;omega,by simp;omega,?_,fun _=>hm⟩) (by simp (disch:=first|omega|assumption) only [linV_ne hne9,List.length_append,List.length_cons,List.length_nil,Nat.zero_add,Int.natCast_add,go_sem,↓reduceIte])
   rw [hr]
   simpa using h4
  have hi2':((i:Int)+1<s.length)=True:=eq_true (by omega)
  obtain ⟨e,r',hre⟩:∃ e r',r=e :: r':=by
   cases r with
   | nil=>have:=congrArg List.length hr;simp at this;omega
   | cons e r'=>exact ⟨e,r',rfl⟩
  have hge:s.getD (i+1) 0=e:=by
   have:(s.drop (i+1)).getD 0 0=e:=by rw [hr,hre];rfl
   simpa [List.getD_eq_getElem?_getD] using this
  have hne:e≠10:=by rw [hre] at h10;simpa using h10
  have hgn:¬ ((e.toNat:Int)=10):=fun x=>hne (UInt8.toNat_inj.1 (by simpa using (by omega:e.toNat=10)))
  have hg1:((i:Int)+1).toNat=i+1:=by omega
  simp (disch:=first|omega|assumption) only [hlt',hc,hcn,hb1,hb2,go_sem,↓reduceIte]
  refine goPm_L h5 (by omega) (by simp only [maxLen];omega) fun b' cap' H2 hm=>?_
  simp (disch:=first|omega|assumption) only [hc,hcn,wrap64,hi2',hg1,hge,hgn,go_sem,↓reduceIte]
  refine goJ (hJ (i+1,i+1,l++[(s.take i).drop fr],b',cap') H2 (by simp only;omega) ⟨Nat.le_refl _,by simp only;omega,by simp;omega,?_,fun _=>hm⟩) (by simp (disch:=first|omega|assumption) only [linV_ne hne9,List.length_append,List.length_cons,List.length_nil,Nat.zero_add,Int.natCast_add,go_sem,↓reduceIte])
  rw [hr]
  simpa using h4
 obtain ⟨r',hre⟩:∃ r',r=10 :: r':=by
  cases r with
  | nil=>cases h10
  | cons e r'=>simp only [List.head?_cons,Option.some.injEq] at h10;subst h10;exact ⟨r',rfl⟩
 rw [hre,linesG_two] at h4
 have hi2:i+1<s.length:=by
  have:=congrArg List.length hr;rw [hre] at this;simp at this;omega
 have hi2':((i:Int)+1<s.length)=True:=eq_true (by omega)
 have hge:s.getD (i+1) 0=10:=by
  have:(s.drop (i+1)).getD 0 0=10:=by rw [hr,hre];rfl
  simpa [List.getD_eq_getElem?_getD] using this
 have hgn:((10:UInt8).toNat:Int)=10:=rfl
 have hg1:((i:Int)+1).toNat=i+1:=by omega
 have hr2:s.drop (i+1+1)=r':=by rw [← List.drop_drop,hr,hre];rfl
 simp (disch:=first|omega|assumption) only [hlt',hc,hcn,hb1,hb2,go_sem,↓reduceIte]
 refine goPm_L h5 (by omega) (by simp only [maxLen];omega) fun b' cap' H2 hm=>?_
 simp (disch:=first|omega|assumption) only [hc,hcn,wrap64,hi2',hg1,hge,hgn,go_sem,↓reduceIte]
 refine goJ (hJ (i+1+1,i+1+1,l++[(s.take i).drop fr],b',cap') H2 (by simp only;omega) ⟨Nat.le_refl _,by simp only;omega,by simp;omega,?_,fun _=>hm⟩) (by simp (disch:=first|omega|assumption) only [linV_ne hne9,List.length_append,List.length_cons,List.length_nil,Nat.zero_add,Int.natCast_add,go_sem,↓reduceIte])
 rw [hr2]
 simpa using h4
theorem isBl_nat (c:UInt8):isBl c=true↔(c.toNat:Int)=9∨(c.toNat:Int)=32:=by
 simp only [isBl,Bool.or_eq_true,decide_eq_true_eq]
 constructor
 ·rintro (rfl|rfl)
  ·exact .inl rfl
  ·exact .inr rfl
 ·rintro (h|h)
  ·exact .inl (UInt8.toNat_inj.1 (by simpa using (by omega:c.toNat=9)))
  ·exact .inr (UInt8.toNat_inj.1 (by simpa using (by omega:c.toNat=32)))
theorem lead_stop {a r:List UInt8} {c:UInt8} (ha:∀ x ∈ a,isBl x=true) (hc:isBl c=false):leadN (a++c :: r)=a.length∧bareL (a++c :: r)=false:=by
 refine ⟨?_,?_⟩
 ·unfold leadN
  induction a with
  | nil=>simp [hc]
  | cons x a ih=>simp [ha x (.head _),ih fun y hy=>ha y (.tail _ hy)]
 ·simp [bareL,hc]
theorem lead_all {a:List UInt8} (ha:∀ x ∈ a,isBl x=true):leadN a=a.length∧bareL a=true:=by
 have hb:bareL a=true:=List.all_eq_true.2 ha
 exact ⟨bare_lead hb,hb⟩
theorem blanksTC (s:List UInt8) (hs:s.length≤Lim):Pure Tryz.prog 345 [.str s] (.tup [.int .i64 (leadN s),.bool (!bareL s)]):=by
 refine Pure.go ir345 ck345 (Nat.le_refl _) fun KP Q hQ=>?_
 have hs':=hs
 simp only [Lim] at hs'
 simp (disch:=first|omega|assumption) only [ir345,go_sem,↓reduceIte]
 refine goL_range s 7 (fun _:AV=>[]) (fun done rest _ H'=>∀ x ∈ done,isBl x=true) (.int .i64 0) (by simp (disch:=first|omega|assumption) only [go_sem,↓reduceIte]) (fun x hx=>nomatch hx) ?_ ?_
 ·rintro y H1 J hdn hlt
  obtain ⟨g1,g2⟩:=lead_all hdn
  simp (disch:=first|omega|assumption) only [hlt,go_sem,↓reduceIte]
  exact hQ _ _ _ _ nofun rfl (by simp [tupOf,envOf,AV.strip,AV.strip1,g1,g2])
 ·rintro done c rest y H1 J hd hlt hlt2 hdn hJ
  have hc:s.getD done.length 0=c:=by rw [hd];simp
  cases hb:isBl c with
  | false =>
   obtain ⟨g1,g2⟩:=lead_stop (r:=rest) hdn hb
   rw [← hd] at g1 g2
   have hn:¬ ((c.toNat:Int)=9∨(c.toNat:Int)=32):=fun h=>by rw [(isBl_nat c).2 h] at hb;cases hb
   have n9:¬ ((c.toNat:Int)=9):=fun h=>hn (.inl h)
   have n32:¬ ((c.toNat:Int)=32):=fun h=>hn (.inr h)
   simp (disch:=first|omega|assumption) only [hlt,hc,n9,n32,go_sem,↓reduceIte]
   exact hQ _ _ _ _ nofun rfl (by simp [tupOf,envOf,AV.strip,AV.strip1,g1,g2])
  | true =>
   have hall:∀ x ∈ done++[c],isBl x=true:=fun x hx=>by
    rcases List.mem_append.1 hx with h|h
    ·exact hdn x h
    ·simp at h;subst h;exact hb
   rcases (isBl_nat c).1 hb with h9|h32
   ·simp (disch:=first|omega|assumption) only [hlt,hc,h9,wrap64,go_sem,↓reduceIte]
    exact goJ (hJ (.int .i64 0) _ hall) (by simp (disch:=first|omega|assumption) only [go_sem,↓reduceIte])
   ·have n9:¬ ((c.toNat:Int)=9):=by omega
    simp (disch:=first|omega|assumption) only [hlt,hc,n9,h32,wrap64,go_sem,↓reduceIte]
    exact goJ (hJ (.int .i64 0) _ hall) (by simp (disch:=first|omega|assumption) only [go_sem,↓reduceIte])
theorem bareTC (s:List UInt8) (hs:s.length≤Lim):Pure Tryz.prog 325 [.str s] (.bool (bareL s)):=by
 refine Pure.go ir325 ck325 (Nat.le_refl _) fun KP Q hQ=>?_
 simp (disch:=first|omega|assumption) only [ir325,go_sem,↓reduceIte]
 refine goK_pure (blanksTC s hs) ?_
 simp (disch:=first|omega|assumption) only [go_sem,↓reduceIte]
 exact hQ _ _ _ _ nofun rfl (by simp [tupOf,envOf,AV.strip,AV.strip1])
end Go.Proofs.YticbbfbpeimkbaaGreatDoor
namespace Go.Proofs.YticbbfbpeimkbaaGreatDoor
open Go.Ab Go.Lib
theorem cStr_get {l a:List (List UInt8)} {x:List UInt8} {b:List (List UInt8)} (h:l=a++x :: b) (tl:List AV):((cStr l++tl).drop (0+a.length*1)).take 1=[.str x]:=by
 subst h;simp [cStr]
theorem cStr_le {l a:List (List UInt8)} {x:List UInt8} {b:List (List UInt8)} (h:l=a++x :: b) (tl:List AV):0+a.length*1+1≤(cStr l++tl).length:=by
 subst h;simp [cStr]
theorem indentTC {H:Heap} {b cap:Nat} {l:List (List UInt8)} (h:MsT H b cap l) (hx:∀ s ∈ l,s.length≤Lim) (hl:l.length≤Lim) :
  ACalls Tryz.prog 324 [.ms b 0 l.length cap] H (RetT fun v H'=>v=.int .i64 (indM l)∧H'=H):=by
 obtain ⟨tl,hb,hc⟩:=h
 refine ACalls.go ir324 ck324 (Nat.le_refl _) fun KP Q hQ=>?_
 have hl':=hl
 simp only [Lim] at hl'
 simp (disch:=first|omega|assumption) only [ir324,go_sem,↓reduceIte]
 refine goL_range l 10 (fun n:Int=>[(3,.int .i64 n)]) (fun done rest n H'=>H'=H∧((done=[]∧n=-1)∨(done≠[]∧indG rest n=indM l))) (-1) (by simp (disch:=first|omega|assumption) only [go_sem,↓reduceIte]) ⟨rfl,.inl ⟨rfl,rfl⟩⟩ ?_ ?_
 ·rintro n H1 J ⟨rfl,hi⟩ hlt
  have e:n=indM l:=by
   rcases hi with ⟨h1,h2⟩|⟨_,h2⟩
   ·subst h1;subst h2;rfl
   ·simpa [indG] using h2
  simp (disch:=first|omega|assumption) only [hlt,go_sem,↓reduceIte]
  exact hQ _ _ _ _ [_] nofun rfl (Low.refl _) ⟨by simp [tupOf,envOf,AV.strip,AV.strip1,e],rfl⟩
 ·rintro done x rest n H1 J hd hlt hlt2 ⟨rfl,hi⟩ hJ
  have hg:=cStr_get hd tl
  have hle:=cStr_le hd tl
  have hxl:=hx x (by rw [hd];simp)
  have hne:done++[x]≠[]:=by simp
  by_cases h0:done.length=0
  ·have h0':((done.length:Int)=0)=True:=eq_true (by omega)
   have hdn:=List.length_eq_zero_iff.1 h0
   have e1:n=-1:=by
    rcases hi with ⟨_,h2⟩|⟨h1,_⟩
    ·exact h2
    ·exact absurd hdn h1
   have e2:rest=l.tail:=by rw [hd,hdn];rfl
   simp (disch:=first|omega|assumption) only [hlt,hb,hg,hle,go_sem,↓reduceIte]
   refine goK_pure (blanksTC x hxl) ?_
   simp (disch:=first|omega|assumption) only [h0',wrap64,go_sem,↓reduceIte]
   exact goJ (hJ n _ ⟨rfl,.inr ⟨hne,by rw [e1,e2];rfl⟩⟩) (by simp (disch:=first|omega|assumption) only [go_sem,↓reduceIte])
  have h0':¬ ((done.length:Int)=0):=by omega
  have e1:indG (x :: rest) n=indM l:=by
   rcases hi with ⟨h1,_⟩|⟨_,h2⟩
   ·rw [h1] at h0;exact absurd rfl h0
   ·exact h2
  simp only [indG] at e1
  cases hbr:bareL x with
  | true =>
   rw [hbr,if_pos rfl] at e1
   simp (disch:=first|omega|assumption) only [hlt,hb,hg,hle,go_sem,↓reduceIte]
   refine goK_pure (blanksTC x hxl) ?_
   simp (disch:=first|omega|assumption) only [h0',hbr,wrap64,go_sem,↓reduceIte]
   exact goJ (hJ n _ ⟨rfl,.inr ⟨hne,e1⟩⟩) (by simp (disch:=first|omega|assumption) only [go_sem,↓reduceIte])
  | false =>
   rw [hbr,if_neg (by decide)] at e1
   by_cases hn:n<0
   ·rw [if_pos (.inl hn)] at e1
    simp (disch:=first|omega|assumption) only [hlt,hb,hg,hle,go_sem,↓reduceIte]
    refine goK_pure (blanksTC x hxl) ?_
    simp (disch:=first|omega|assumption) only [h0',hbr,hn,wrap64,go_sem,↓reduceIte]
    exact goJ (hJ (leadN x) _ ⟨rfl,.inr ⟨hne,e1⟩⟩) (by simp (disch:=first|omega|assumption) only [go_sem,↓reduceIte])
   ·by_cases hn2:(leadN x:Int)<n
    ·rw [if_pos (.inr hn2)] at e1
     simp (disch:=first|omega|assumption) only [hlt,hb,hg,hle,go_sem,↓reduceIte]
     refine goK_pure (blanksTC x hxl) ?_
     simp (disch:=first|omega|assumption) only [h0',hbr,hn,hn2,wrap64,go_sem,↓reduceIte]
     exact goJ (hJ (leadN x) _ ⟨rfl,.inr ⟨hne,e1⟩⟩) (by simp (disch:=first|omega|assumption) only [go_sem,↓reduceIte])
    ·rw [if_neg (by rintro (h|h)<;>contradiction)] at e1
     simp (disch:=first|omega|assumption) only [hlt,hb,hg,hle,go_sem,↓reduceIte]
     refine goK_pure (blanksTC x hxl) ?_
     simp (disch:=first|omega|assumption) only [h0',hbr,hn,hn2,wrap64,go_sem,↓reduceIte]
     exact goJ (hJ n _ ⟨rfl,.inr ⟨hne,e1⟩⟩) (by simp (disch:=first|omega|assumption) only [go_sem,↓reduceIte])
theorem lines_ne (s cur:List UInt8):linesG cur s≠[]:=by
 cases s with
 | nil=>simp [linesG]
 | cons c s =>
  by_cases h:c=10∨c=13
  ·rcases h with rfl|rfl
   ·rw [linesG_10];simp
   ·by_cases h10:s.head?=some 10
    ·cases s with
     | nil=>cases h10
     | cons d s=>simp only [List.head?_cons,Option.some.injEq] at h10;subst h10;rw [linesG_two];simp
    ·rw [linesG_13 h10];simp
  ·rw [linesG_plain h];exact lines_ne s _
termination_by s.length
theorem lines_sum:∀ (s cur:List UInt8),((linesG cur s).map fun x=>x.length+1).sum≤cur.length+s.length+1
 | [],cur=>by simp [linesG]
 | [c],cur=>by simp only [linesG];split<;>simp
 | c :: d :: r,cur=>by
  have h1:=lines_sum (d :: r)
  have h2:=lines_sum r
  simp only [linesG]
  repeat' split
  all_goals simp only [List.length_cons,List.map_cons,List.sum_cons] at h1 ⊢
  ·have:=h1 [];simp only [List.length_nil] at this;omega
  ·have:=h2 [];simp only [List.length_nil] at this;omega
  ·have:=h1 [];simp only [List.length_nil] at this;omega
  ·have:=h1 (cur++[c]);simp only [List.length_append,List.length_cons,List.length_nil] at this;omega
termination_by s=>s.length
theorem mem_sum {l:List (List UInt8)} {x:List UInt8} (h:x ∈ l):x.length+1≤(l.map fun x=>x.length+1).sum:=by
 obtain ⟨a,b,rfl⟩:=List.append_of_mem h
 simp;omega
end Go.Proofs.YticbbfbpeimkbaaGreatDoor
namespace Go.Proofs.YticbbfbpeimkbaaGreatDoor
open Go.Ab Go.Lib
def AtR (cells:List AV) (off:Nat) (cur:List (List UInt8)):Prop:=∃ pre post,cells=pre++(cStr cur++post)∧pre.length=off
theorem AtR.get {cells:List AV} {off:Nat} {cur a:List (List UInt8)} {x:List UInt8} {r:List (List UInt8)} (h:AtR cells off cur) (hc:cur=a++x :: r):(cells.drop (off+a.length*1)).take 1=[.str x]∧off+a.length*1+1≤cells.length:=by
 obtain ⟨pre,post,rfl,rfl⟩:=h
 subst hc
 refine ⟨?_,by simp [cStr];omega⟩
 rw [Nat.mul_one,← List.drop_drop,List.drop_left]
 simp [cStr]
theorem AtR.le {cells:List AV} {off:Nat} {cur:List (List UInt8)} (h:AtR cells off cur):off+cur.length≤cells.length:=by
 obtain ⟨pre,post,rfl,rfl⟩:=h
 simp [cStr]
theorem AtR.front {cells:List AV} {b off cap:Nat} {x:List UInt8} {r:List (List UInt8)} (h:AtR cells off (x :: r)) (hc:r.length+1≤cap) :
  ∃ off2,msCut 1 b off (r.length+1) cap (some 1) (some ((r.length+1:Nat):Int))=some (.ms b off2 r.length (cap-1))∧AtR cells off2 r:=by
 obtain ⟨pre,post,rfl,rfl⟩:=h
 have e:(((r.length+1:Nat):Int)).toNat-(1:Int).toNat=r.length:=by omega
 by_cases h1:cap=1
 ·obtain rfl:r=[]:=List.length_eq_zero_iff.1 (by omega)
  exact ⟨pre.length,by simp [msCut,h1],pre,.str x :: post,by simp [cStr],rfl⟩
 ·refine ⟨pre.length+1,?_,pre++[.str x],post,by simp [cStr],by simp⟩
  unfold msCut
  simp only
  rw [if_pos (by omega),if_neg (by simpa using h1),e]
  simp
theorem msCut_back {b off cap len k:Nat} (h:k≤len):msCut 1 b off len cap (some 0) (some (k:Int))=some (.ms b off k cap):=by
 unfold msCut
 simp only
 rw [if_pos (by omega)]
 simp
theorem AtR.back {cells:List AV} {off:Nat} {x:List UInt8} {r:List (List UInt8)} (h:AtR cells off (r++[x])):AtR cells off r:=by
 obtain ⟨pre,post,rfl,rfl⟩:=h
 exact ⟨pre,.str x :: post,by simp [cStr],rfl⟩
theorem rowsA_str:∀ (cur:List (List UInt8)) (post:List AV),rowsA 1 cur.length (cStr cur++post)=cT cur
 | [],_=>rfl
 | x :: r,post=>by
  have:=rowsA_str r post
  simp only [cStr] at this
  simp [rowsA,cStr,cT,AV.strip1,this]
theorem AtR.rows {cells:List AV} {off:Nat} {cur:List (List UInt8)} (h:AtR cells off cur):rowsA 1 cur.length (cells.drop off)=cT cur:=by
 obtain ⟨pre,post,rfl,rfl⟩:=h
 rw [List.drop_left,rowsA_str]
def wL (l:List (List UInt8)):Nat:=(l.map fun x=>x.length+1).sum
theorem wL_mem {l:List (List UInt8)} {x:List UInt8} (h:x ∈ l):x.length+1≤wL l:=mem_sum h
theorem wL_len:∀ l:List (List UInt8),l.length≤wL l
 | []=>by simp
 | x :: r=>by have:=wL_len r;simp only [wL,List.map_cons,List.sum_cons,List.length_cons] at this ⊢;omega
theorem wL_app (a b:List (List UInt8)):wL (a++b)=wL a+wL b:=by simp [wL]
theorem wL_cons (x:List UInt8) (b:List (List UInt8)):wL (x :: b)=x.length+1+wL b:=by simp [wL]
theorem wL_drop (n:Nat):∀ l:List (List UInt8),wL (l.map fun s=>s.drop n)≤wL l
 | []=>by simp [wL]
 | x :: r=>by have:=wL_drop n r;simp only [List.map_cons,wL_cons,List.length_drop];omega
theorem join_wL:∀ l:List (List UInt8),(Lib.join l [10]).length≤wL l
 | []=>by simp [Lib.join]
 | [x]=>by simp [Lib.join,wL]
 | x :: y :: r=>by
  have:=join_wL (y :: r)
  have e:Lib.join (x :: y :: r) [10]=x++10 :: Lib.join (y :: r) [10]:=by simp [Lib.join]
  rw [e,wL_cons]
  simp only [List.length_append,List.length_cons];omega
theorem trimR_snoc (r:List (List UInt8)) (x:List UInt8):trimR (r++[x])=if bareL x then trimR r else r++[x]:=by
 unfold trimR
 rw [List.reverse_append,List.reverse_singleton,List.singleton_append,List.dropWhile_cons]
 split
 ·rfl
 ·simp
theorem snoc_of {α:Type} {l:List α} (h:l≠[]):∃ r x,l=r++[x]:=⟨l.dropLast,l.getLast h,(List.dropLast_concat_getLast h).symm⟩
theorem cStr_set (a:List (List UInt8)) (x y:List UInt8) (r:List (List UInt8)) (tl:List AV):splice (cStr (a++x :: r)++tl) (0+a.length*1) [.str y]=cStr (a++y :: r)++tl:=by
 have e:cStr (a++x :: r)++tl=cStr a++(.str x :: (cStr r++tl)):=by simp [cStr]
 rw [e]
 simp only [splice,List.length_cons,List.length_nil,Nat.zero_add,Nat.mul_one]
 rw [List.take_left' (cStr_len a),List.drop_append,List.drop_eq_nil_of_le (by rw [cStr_len];omega),cStr_len,Nat.add_sub_cancel_left]
 simp [cStr]
theorem blockTC (raw:List UInt8) (hs:raw.length≤1099511600000):Pure Tryz.prog 280 [.str raw] (.str (blockM raw)):=by
 refine Pure.go ir280 ck280 (Nat.le_refl _) fun KP Q hQ=>?_
 have hw0:wL (linesM raw)≤raw.length+1:=by have:=lines_sum raw [];simpa [wL,linesM] using this
 obtain ⟨x0,T,hL⟩:∃ x T,linesM raw=x :: T:=by
  cases hx:linesM raw with
  | nil=>exact absurd hx (lines_ne raw [])
  | cons x T=>exact ⟨x,T,rfl⟩
 have hLl:=wL_len (linesM raw)
 simp (disch:=first|omega|assumption) only [ir280,go_sem,↓reduceIte]
 refine goK_ret (linesTC raw (by simp only [Lim];omega)) fun v H1 ⟨b,cap,hv,hm⟩=>?_
 subst hv
 have hm0:=hm
 obtain ⟨tl,hb,hcap⟩:=hm
 simp (disch:=first|omega|assumption) only [go_sem,↓reduceIte]
 refine goK_ret (indentTC hm0 (fun s hsm=>by have:=wL_mem hsm;simp only [Lim];omega) (by simp only [Lim];omega)) fun v H2 ⟨hv,hH⟩=>?_
 subst hv;subst hH
 by_cases hn:0<indM (linesM raw)
 case neg =>
  have hn0:(indM (linesM raw)).toNat=0:=by omega
  obtain ⟨D,hDd⟩:∃ D,D=linesM raw:=⟨_,rfl⟩
  have hDM:dropM (linesM raw)=D:=by
   rw [hDd]
   conv=>lhs;rw [hL]
   simp only [dropM]
   rw [← hL,hn0]
   simp [hL]
  have hDl:D.length=(linesM raw).length:=by rw [hDd]
  have hbX:H2 b=some (.cells (cStr D++tl)):=by rw [hDd];exact hb
  obtain ⟨cells,hcells⟩:∃ cells,cells=cStr D++tl:=⟨_,rfl⟩
  rw [← hcells] at hbX
  have hwD:wL D≤1099511627777:=by rw [hDd];omega
  rw [← hDd] at hcap
  simp (disch:=first|omega|assumption) only [hn,go_sem,↓reduceIte]
  refine goL_st (fun x:Nat × Nat × List (List UInt8)=>[(3,.ms b x.1 x.2.2.length x.2.1)]) (fun x H'=>H'=H2∧AtR cells x.1 x.2.2∧x.2.2.length≤x.2.1∧x.2.2.dropWhile bareL=D.dropWhile bareL∧wL x.2.2≤wL D) (fun x=>x.2.2.length) (0,cap,D) (by simp (disch:=first|omega|assumption) only [hDl,go_sem,↓reduceIte]) ⟨rfl,⟨[],tl,by rw [hcells,List.nil_append],rfl⟩,by simp only;omega,rfl,Nat.le_refl _⟩ ?_
  rintro ⟨off,cp,cur⟩ H3 J ⟨rfl,ha,hcp,hdw,hw⟩ hJ
  simp only at ha hcp hdw hw
  have stage2:∀ K:Unit,cur=D.dropWhile bareL→True:=fun _ _=>trivial
  by_cases hcur:cur=[]
  case pos =>
   subst hcur
   have hD:D.dropWhile bareL=[]:=by rw [← hdw];rfl
   simp (disch:=first|omega|assumption) only [List.length_nil,go_sem,↓reduceIte]
   refine goL_st (fun x:Unit=>[]) (fun x H'=>H'=H3) (fun x=>0) () (by simp (disch:=first|omega|assumption) only [List.length_nil,go_sem,↓reduceIte]) rfl ?_
   rintro ⟨⟩ H4 J4 rfl hJ4
   simp (disch:=first|omega|assumption) only [List.length_nil,go_sem,↓reduceIte]
   refine goZ_ms hbX (by decide) (by have:=ha.le;simpa using this) ?_
   have hr:=ha.rows
   simp only [List.length_nil] at hr
   simp (disch:=first|omega|assumption) only [hr,go_sem,↓reduceIte]
   refine goK_pure (joinStrC [] [10] (by simp [Lib.join]) (by simp)) ?_
   have e:blockM raw=Lib.join [] [10]:=by
    unfold blockM;rw [hDM,hD];rfl
   simp (disch:=first|omega|assumption) only [go_sem,↓reduceIte]
   exact hQ _ _ _ _ nofun rfl (by simp [tupOf,envOf,AV.strip,AV.strip1,e])
  obtain ⟨x,r,hxr⟩:∃ x r,cur=x :: r:=by cases cur with|nil=>exact absurd rfl hcur|cons x r=>exact ⟨x,r,rfl⟩
  have hxl:x.length≤Lim:=by have:=wL_mem (l:=cur) (x:=x) (by rw [hxr];simp);simp only [Lim];omega
  obtain ⟨hg,hle⟩:=ha.get (a:=[]) (x:=x) (r:=r) hxr
  simp only [List.length_nil,Nat.zero_mul,Nat.add_zero] at hg hle
  have hcl:cur.length=r.length+1:=by rw [hxr];rfl
  have hpos:((0:Int)<(cur.length:Int))=True:=eq_true (by omega)
  have h1l:((1:Int)≤(cur.length:Int))=True:=eq_true (by omega)
  cases hbr:bareL x with
  | true =>
   obtain ⟨off2,hcut,hat⟩:=AtR.front (b:=b) (cap:=cp) (by rw [← hxr];exact ha) (by omega)
   rw [← hcl] at hcut
   simp (disch:=first|omega|assumption) only [hpos,hbX,hg,hle,Nat.zero_mul,Nat.add_zero,go_sem,↓reduceIte]
   refine goK_pure (bareTC x hxl) ?_
   simp (disch:=first|omega|assumption) only [hbr,hpos,h1l,hcut,go_sem,↓reduceIte]
   refine goJ (hJ (off2,cp-1,r) H3 (by simp only;omega) ⟨rfl,hat,by simp only;omega,by rw [← hdw,hxr];simp [hbr],by rw [hxr,wL_cons] at hw;simp only;omega⟩) (by simp (disch:=first|omega|assumption) only [go_sem,↓reduceIte])
  | false =>
   have hDc:D.dropWhile bareL=cur:=by rw [← hdw,hxr];simp [hbr]
   simp (disch:=first|omega|assumption) only [hpos,hbX,hg,hle,Nat.zero_mul,Nat.add_zero,go_sem,↓reduceIte]
   refine goK_pure (bareTC x hxl) ?_
   simp (disch:=first|omega|assumption) only [hbr,go_sem,↓reduceIte]
   refine goL_st (fun x:List (List UInt8)=>[(3,.ms b off x.length cp)]) (fun x H'=>H'=H3∧AtR cells off x∧trimR x=trimR cur∧wL x≤wL D∧x.length≤cp) (fun x=>x.length) cur (by simp (disch:=first|omega|assumption) only [go_sem,↓reduceIte]) ⟨rfl,ha,rfl,hw,hcp⟩ ?_
   rintro u H4 J4 ⟨rfl,ha4,ht4,hw4,hc4⟩ hJ4
   by_cases hu:u=[]
   ·subst hu
    simp (disch:=first|omega|assumption) only [List.length_nil,go_sem,↓reduceIte]
    refine goZ_ms hbX (by decide) (by have:=ha4.le;simpa using this) ?_
    have hr:=ha4.rows
    simp only [List.length_nil] at hr
    simp (disch:=first|omega|assumption) only [hr,go_sem,↓reduceIte]
    refine goK_pure (joinStrC [] [10] (by simp [Lib.join]) (by simp)) ?_
    have e:blockM raw=Lib.join [] [10]:=by
     unfold blockM;rw [hDM,hDc,← ht4];rfl
    simp (disch:=first|omega|assumption) only [go_sem,↓reduceIte]
    exact hQ _ _ _ _ nofun rfl (by simp [tupOf,envOf,AV.strip,AV.strip1,e])
   obtain ⟨q,y,hqy⟩:=snoc_of hu
   have hyl:y.length≤Lim:=by have:=wL_mem (l:=u) (x:=y) (by rw [hqy];simp);simp only [Lim];omega
   obtain ⟨hg4,hle4⟩:=ha4.get (a:=q) (x:=y) (r:=[]) hqy
   have hul:u.length=q.length+1:=by rw [hqy];simp
   have hpos4:((0:Int)<(u.length:Int))=True:=eq_true (by omega)
   have wq:IntKind.wrap .i64 ((u.length:Int)-1)=(q.length:Int):=by rw [wrap64 (by omega) (by have:=wL_len u;omega)];omega
   have h1q:((q.length:Int)<(u.length:Int))=True:=eq_true (by omega)
   have h2q:((q.length:Int)≤(u.length:Int))=True:=eq_true (by omega)
   cases hby:bareL y with
   | true =>
    simp (disch:=first|omega|assumption) only [hpos4,wq,h1q,hbX,hg4,hle4,go_sem,↓reduceIte]
    refine goK_pure (bareTC y hyl) ?_
    have hcut:=msCut_back (b:=b) (off:=off) (cap:=cp) (show q.length≤u.length by omega)
    simp (disch:=first|omega|assumption) only [hby,wq,h1q,h2q,hcut,go_sem,↓reduceIte]
    refine goJ (hJ4 q H4 (by omega) ⟨rfl,AtR.back (x:=y) (by rw [← hqy];exact ha4),by rw [← ht4,hqy,trimR_snoc,hby];rfl,by rw [hqy,wL_app] at hw4;omega,by omega⟩) (by simp (disch:=first|omega|assumption) only [go_sem,↓reduceIte])
   | false =>
    have hlen:=wL_len u
    simp (disch:=first|omega|assumption) only [hpos4,wq,h1q,hbX,hg4,hle4,go_sem,↓reduceIte]
    refine goK_pure (bareTC y hyl) ?_
    simp (disch:=first|omega|assumption) only [hby,go_sem,↓reduceIte]
    refine goZ_ms hbX (by decide) (by have:=ha4.le;omega) ?_
    have hr:=ha4.rows
    have hj:=join_wL u
    simp (disch:=first|omega|assumption) only [hr,go_sem,↓reduceIte]
    refine goK_pure (joinStrC u [10] (by omega) (by omega)) ?_
    have e:blockM raw=Lib.join u [10]:=by
     unfold blockM;rw [hDM,hDc,← ht4,hqy,trimR_snoc,hby];rfl
    simp (disch:=first|omega|assumption) only [go_sem,↓reduceIte]
    exact hQ _ _ _ _ nofun rfl (by simp [tupOf,envOf,AV.strip,AV.strip1,e])
 case pos =>
  obtain ⟨n,hne⟩:∃ n:Nat,indM (linesM raw)=n:=⟨(indM (linesM raw)).toNat,by omega⟩
  have hnl:n≤1099511627777:=by
   by_cases hall:∀ s ∈ (linesM raw).tail,bareL s=true
   ·have:∀ (l:List (List UInt8)),(∀ s ∈ l,bareL s=true)→indG l (-1)=-1:=by
     intro l
     induction l with
     | nil=>intro _;rfl
     | cons a l ih=>intro h;simp only [indG,h a (.head _),if_true];exact ih fun s hs=>h s (.tail _ hs)
    have:=this _ hall
    have e:indM (linesM raw)=indG (linesM raw).tail (-1):=rfl
    omega
   ·obtain ⟨s,hs⟩:=Classical.not_forall.1 hall
    obtain ⟨hs,hb2⟩:=Classical.not_imp.1 hs
    have h1:=(indG_le (linesM raw).tail (-1)).2 s hs (by simpa using hb2)
    have h2:=wL_mem (List.mem_of_mem_tail hs)
    have h3:leadN s≤s.length:=(List.takeWhile_sublist _).length_le
    have e:indM (linesM raw)=indG (linesM raw).tail (-1):=rfl
    omega
  have hL2:=hL
  rw [hL] at hLl hw0
  have hcap0:=hcap
  rw [hL] at hb hcap0
  have hn':((0:Int)<(n:Int))=True:=eq_true (by omega)
  rw [hne]
  simp (disch:=first|omega|assumption) only [hn',go_sem,↓reduceIte]
  refine goL_st (fun x:List (List UInt8) × List (List UInt8)=>[(5,.int .i64 ((x.1.length:Int)+1))]) (fun x H'=>T=x.1++x.2∧H' b=some (.cells (cStr (x0 :: (x.1.map (fun s=>s.drop n)++x.2))++tl))) (fun x=>x.2.length) ([],T) (by simp (disch:=first|omega|assumption) only [List.length_nil,go_sem,↓reduceIte]) ⟨rfl,by simpa using hb⟩ ?_
  rintro ⟨dn,rest⟩ H3 J3 ⟨hT,hb3⟩ hJ3
  simp only at hT hb3
  have hll:(linesM raw).length=dn.length+rest.length+1:=by rw [hL,hT];simp
  cases rest with
  | nil =>
   have hlt:¬ ((dn.length:Int)+1<((linesM raw).length:Int)):=by simp at hll;omega
   obtain ⟨D,hDd⟩:∃ D,D=x0 :: T.map fun s=>s.drop n:=⟨_,rfl⟩
   have hDM:dropM (linesM raw)=D:=by
    conv=>lhs;rw [hL]
    simp only [dropM]
    rw [← hL,hne,hDd];rfl
   have hDl:D.length=(linesM raw).length:=by rw [hDd,hL];simp
   have hbX:H3 b=some (.cells (cStr D++tl)):=by
    rw [hb3,hDd,hT];simp
   obtain ⟨cells,hcells⟩:∃ cells,cells=cStr D++tl:=⟨_,rfl⟩
   rw [← hcells] at hbX
   have hwD:wL D≤1099511627777:=by
    have:=wL_drop n T
    rw [hDd,wL_cons];rw [wL_cons] at hw0;omega
   have hcap:D.length+tl.length=cap:=by rw [hDl];exact hcap
   clear hJ3 hb3
   simp (disch:=first|omega|assumption) only [hlt,go_sem,↓reduceIte]
   refine goL_st (fun x:Nat × Nat × List (List UInt8)=>[(3,.ms b x.1 x.2.2.length x.2.1)]) (fun x H'=>H'=H3∧AtR cells x.1 x.2.2∧x.2.2.length≤x.2.1∧x.2.2.dropWhile bareL=D.dropWhile bareL∧wL x.2.2≤wL D) (fun x=>x.2.2.length) (0,cap,D) (by simp (disch:=first|omega|assumption) only [hDl,go_sem,↓reduceIte]) ⟨rfl,⟨[],tl,by rw [hcells,List.nil_append],rfl⟩,by simp only;omega,rfl,Nat.le_refl _⟩ ?_
   rintro ⟨off,cp,cur⟩ H5 J5 ⟨rfl,ha,hcp,hdw,hw⟩ hJ5
   simp only at ha hcp hdw hw
   have stage2:∀ K:Unit,cur=D.dropWhile bareL→True:=fun _ _=>trivial
   by_cases hcur:cur=[]
   case pos =>
    subst hcur
    have hD:D.dropWhile bareL=[]:=by rw [← hdw];rfl
    simp (disch:=first|omega|assumption) only [List.length_nil,go_sem,↓reduceIte]
    refine goL_st (fun x:Unit=>[]) (fun x H'=>H'=H5) (fun x=>0) () (by simp (disch:=first|omega|assumption) only [List.length_nil,go_sem,↓reduceIte]) rfl ?_
    rintro ⟨⟩ H4 J4 rfl hJ4
    simp (disch:=first|omega|assumption) only [List.length_nil,go_sem,↓reduceIte]
    refine goZ_ms hbX (by decide) (by have:=ha.le;simpa using this) ?_
    have hr:=ha.rows
    simp only [List.length_nil] at hr
    simp (disch:=first|omega|assumption) only [hr,go_sem,↓reduceIte]
    refine goK_pure (joinStrC [] [10] (by simp [Lib.join]) (by simp)) ?_
    have e:blockM raw=Lib.join [] [10]:=by
     unfold blockM;rw [hDM,hD];rfl
    simp (disch:=first|omega|assumption) only [go_sem,↓reduceIte]
    exact hQ _ _ _ _ nofun rfl (by simp [tupOf,envOf,AV.strip,AV.strip1,e])
   obtain ⟨x,r,hxr⟩:∃ x r,cur=x :: r:=by cases cur with|nil=>exact absurd rfl hcur|cons x r=>exact ⟨x,r,rfl⟩
   have hxl:x.length≤Lim:=by have:=wL_mem (l:=cur) (x:=x) (by rw [hxr];simp);simp only [Lim];omega
   obtain ⟨hg,hle⟩:=ha.get (a:=[]) (x:=x) (r:=r) hxr
   simp only [List.length_nil,Nat.zero_mul,Nat.add_zero] at hg hle
   have hcl:cur.length=r.length+1:=by rw [hxr];rfl
   have hpos:((0:Int)<(cur.length:Int))=True:=eq_true (by omega)
   have h1l:((1:Int)≤(cur.length:Int))=True:=eq_true (by omega)
   cases hbr:bareL x with
   | true =>
    obtain ⟨off2,hcut,hat⟩:=AtR.front (b:=b) (cap:=cp) (by rw [← hxr];exact ha) (by omega)
    rw [← hcl] at hcut
    simp (disch:=first|omega|assumption) only [hpos,hbX,hg,hle,Nat.zero_mul,Nat.add_zero,go_sem,↓reduceIte]
    refine goK_pure (bareTC x hxl) ?_
    simp (disch:=first|omega|assumption) only [hbr,hpos,h1l,hcut,go_sem,↓reduceIte]
    refine goJ (hJ5 (off2,cp-1,r) H5 (by simp only;omega) ⟨rfl,hat,by simp only;omega,by rw [← hdw,hxr];simp [hbr],by rw [hxr,wL_cons] at hw;simp only;omega⟩) (by simp (disch:=first|omega|assumption) only [go_sem,↓reduceIte])
   | false =>
    have hDc:D.dropWhile bareL=cur:=by rw [← hdw,hxr];simp [hbr]
    simp (disch:=first|omega|assumption) only [hpos,hbX,hg,hle,Nat.zero_mul,Nat.add_zero,go_sem,↓reduceIte]
    refine goK_pure (bareTC x hxl) ?_
    simp (disch:=first|omega|assumption) only [hbr,go_sem,↓reduceIte]
    refine goL_st (fun x:List (List UInt8)=>[(3,.ms b off x.length cp)]) (fun x H'=>H'=H5∧AtR cells off x∧trimR x=trimR cur∧wL x≤wL D∧x.length≤cp) (fun x=>x.length) cur (by simp (disch:=first|omega|assumption) only [go_sem,↓reduceIte]) ⟨rfl,ha,rfl,hw,hcp⟩ ?_
    rintro u H4 J4 ⟨rfl,ha4,ht4,hw4,hc4⟩ hJ4
    by_cases hu:u=[]
    ·subst hu
     simp (disch:=first|omega|assumption) only [List.length_nil,go_sem,↓reduceIte]
     refine goZ_ms hbX (by decide) (by have:=ha4.le;simpa using this) ?_
     have hr:=ha4.rows
     simp only [List.length_nil] at hr
     simp (disch:=first|omega|assumption) only [hr,go_sem,↓reduceIte]
     refine goK_pure (joinStrC [] [10] (by simp [Lib.join]) (by simp)) ?_
     have e:blockM raw=Lib.join [] [10]:=by
      unfold blockM;rw [hDM,hDc,← ht4];rfl
     simp (disch:=first|omega|assumption) only [go_sem,↓reduceIte]
     exact hQ _ _ _ _ nofun rfl (by simp [tupOf,envOf,AV.strip,AV.strip1,e])
    obtain ⟨q,y,hqy⟩:=snoc_of hu
    have hyl:y.length≤Lim:=by have:=wL_mem (l:=u) (x:=y) (by rw [hqy];simp);simp only [Lim];omega
    obtain ⟨hg4,hle4⟩:=ha4.get (a:=q) (x:=y) (r:=[]) hqy
    have hul:u.length=q.length+1:=by rw [hqy];simp
    have hpos4:((0:Int)<(u.length:Int))=True:=eq_true (by omega)
    have wq:IntKind.wrap .i64 ((u.length:Int)-1)=(q.length:Int):=by rw [wrap64 (by omega) (by have:=wL_len u;omega)];omega
    have h1q:((q.length:Int)<(u.length:Int))=True:=eq_true (by omega)
    have h2q:((q.length:Int)≤(u.length:Int))=True:=eq_true (by omega)
    cases hby:bareL y with
    | true =>
     simp (disch:=first|omega|assumption) only [hpos4,wq,h1q,hbX,hg4,hle4,go_sem,↓reduceIte]
     refine goK_pure (bareTC y hyl) ?_
     have hcut:=msCut_back (b:=b) (off:=off) (cap:=cp) (show q.length≤u.length by omega)
     simp (disch:=first|omega|assumption) only [hby,wq,h1q,h2q,hcut,go_sem,↓reduceIte]
     refine goJ (hJ4 q H4 (by omega) ⟨rfl,AtR.back (x:=y) (by rw [← hqy];exact ha4),by rw [← ht4,hqy,trimR_snoc,hby];rfl,by rw [hqy,wL_app] at hw4;omega,by omega⟩) (by simp (disch:=first|omega|assumption) only [go_sem,↓reduceIte])
    | false =>
     have hlen:=wL_len u
     simp (disch:=first|omega|assumption) only [hpos4,wq,h1q,hbX,hg4,hle4,go_sem,↓reduceIte]
     refine goK_pure (bareTC y hyl) ?_
     simp (disch:=first|omega|assumption) only [hby,go_sem,↓reduceIte]
     refine goZ_ms hbX (by decide) (by have:=ha4.le;omega) ?_
     have hr:=ha4.rows
     have hj:=join_wL u
     simp (disch:=first|omega|assumption) only [hr,go_sem,↓reduceIte]
     refine goK_pure (joinStrC u [10] (by omega) (by omega)) ?_
     have e:blockM raw=Lib.join u [10]:=by
      unfold blockM;rw [hDM,hDc,← ht4,hqy,trimR_snoc,hby];rfl
     simp (disch:=first|omega|assumption) only [go_sem,↓reduceIte]
     exact hQ _ _ _ _ nofun rfl (by simp [tupOf,envOf,AV.strip,AV.strip1,e])
  | cons y r =>
   have hlt:((dn.length:Int)+1<((linesM raw).length:Int))=True:=eq_true (by simp at hll;omega)
   have hcur:x0 :: (dn.map (fun s=>s.drop n)++y :: r)=(x0 :: dn.map (fun s=>s.drop n))++y :: r:=rfl
   have hg:=cStr_get hcur tl
   have hle:=cStr_le hcur tl
   have hal:(x0 :: dn.map (fun s=>s.drop n)).length=dn.length+1:=by simp
   have hst:∀ z,splice (cStr (x0 :: (dn.map (fun s=>s.drop n)++y :: r))++tl) (0+(dn.length+1)*1) [.str z]=cStr (x0 :: (dn.map (fun s=>s.drop n)++z :: r))++tl:=fun z=>by
    have:=cStr_set (x0 :: dn.map (fun s=>s.drop n)) y z r tl
    rw [hal] at this
    exact this
   rw [hal] at hg hle
   have h1:((dn.length:Int)+1).toNat=dn.length+1:=by omega
   have hy0:((0:Int)≤(y.length:Int))=True:=eq_true (by omega)
   have hln:dn.length≤1099511627777:=by omega
   by_cases hmin:(y.length:Int)<(n:Int)
   ·have hdr:y.drop y.length=y.drop n:=by rw [List.drop_length,List.drop_eq_nil_of_le (by omega)]
    simp (disch:=first|omega|assumption) only [hlt,h1,hb3,hg,hle,hst,hmin,hy0,List.drop_length,go_sem,↓reduceIte]
    refine goJ (hJ3 (dn++[y],r) _ (by simp) ⟨by rw [hT];simp,?_⟩) (by simp (disch:=first|omega|assumption) only [wrap64,List.length_append,List.length_cons,List.length_nil,Int.natCast_add,go_sem,↓reduceIte])
    rw [upd_same]
    simp [List.drop_eq_nil_of_le (show y.length≤n by omega)]
   ·have hny:((n:Int)≤(y.length:Int))=True:=eq_true (by omega)
    have hn0:((0:Int)≤(n:Int))=True:=eq_true (by omega)
    simp (disch:=first|omega|assumption) only [hlt,h1,hb3,hg,hle,hst,hmin,hny,hn0,go_sem,↓reduceIte]
    refine goJ (hJ3 (dn++[y],r) _ (by simp) ⟨by rw [hT];simp,?_⟩) (by simp (disch:=first|omega|assumption) only [wrap64,List.length_append,List.length_cons,List.length_nil,Int.natCast_add,go_sem,↓reduceIte])
    rw [upd_same]
    simp
end Go.Proofs.YticbbfbpeimkbaaGreatDoor
set_option maxRecDepth 1000000
namespace Go.Proofs.YticbbfbpeimkbaaGreatDoor
open Go.Shelf Go.RowKit Go.Lib
section
variable {P:Program} {ρ:Ren}
def eol:ByteArray:=⟨#[13,10]⟩
theorem eol_next_at (w:World) (k:Nat) (s:ByteArray) (pos:Nat) (ty:TypeId) (hk:w.heap[k]?=some (.stringIter s pos)) (h:pos<s.size) :
  (Instr.next (.pointer (some ⟨k,0,none⟩)) true ty).run P w =
   .ok (.tuple #[.bool true,.int .i64 pos,.int .i32 (Utf8.decode s pos).1]) { w with heap:=w.heap.setIfInBounds k (.stringIter s (pos+(Utf8.decode s pos).2)) }:=by
 simp only [Instr.next,getObj,setObj,Sem.run_bind,Sem.run,hk,Result.andThen,h,if_true]
 simp [goInt]
theorem eol_next_stop (w:World) (k:Nat) (s:ByteArray) (pos:Nat) (ty:TypeId) (hk:w.heap[k]?=some (.stringIter s pos)) (h:¬ pos<s.size) :
  (Instr.next (.pointer (some ⟨k,0,none⟩)) true ty).run P w=.ok (.tuple #[.bool false]) w:=by
 simp [Instr.next,getObj,Sem.run,hk,h]
set_option maxHeartbeats 4000000 in
theorem eol_rune_err (L:Lays.n152 P ρ) (w:World) :
  Calls P (ρ.f 152) #[.string eol,.int .i32 65533] w fun e w'=>e=.returned (.int .i64 (-1))∧Below w.heap.size w w':=by
 have t3:=L.t3;have a3:=L.a3;have z3:=L.z3;have v3:=L.v3
 have t4:=L.t4;have a4:=L.a4;have z4:=L.z4;have v4:=L.v4
 have t5:=L.t5;have a5:=L.a5;have z5:=L.z5;have v5:=L.v5
 have t9:=L.t9;have a9:=L.a9;have z9:=L.z9;have v9:=L.v9
 have t21:=L.t21;have a21:=L.a21;have z21:=L.z21;have v21:=L.v21
 have hsz:eol.size=2:=rfl
 go_enter L.f152,Body.n152_ntmps ρ
 go_wp2
 go_loopg [5,6] 2 (fun g _ _ wx=>∃ i:Nat,i+g=2∧wx=w.iter eol i)
 case atStart=>exact ⟨0,by omega,rfl⟩
 case round =>
  obtain ⟨i,hig,rfl⟩:=hrel
  cases gk with
  | zero =>
   obtain rfl:i=2:=by omega
   have hnx:=fun ty=>run_next_end (P:=P) w eol 2 ty (by decide)
   go_wp2
   go_ret
   exact ⟨rfl,(Below.refl _ _).alloc (Nat.le_refl _) _⟩
  | succ g =>
   obtain ⟨x,hx⟩:∃ x:UInt8,eol[i]'(by rw [hsz];omega)=x:=⟨_,rfl⟩
   have hxl:x.toNat=13∨x.toNat=10:=by
    rcases (by omega:i=0∨i=1) with rfl|rfl
    ·left;rw [← hx];rfl
    ·right;rw [← hx];rfl
   have hnx:=fun ty=>run_next_ascii (P:=P) w eol i ty (by rw [hsz];omega) (by rw [hx];omega)
   rw [hx] at hnx
   have hne:¬ ((x.toNat:Int)=65533):=by omega
   clear hx hxl
   go_wp2
   go_roundg g
   case measure=>omega
   case rel=>exact ⟨i+1,by omega,rfl⟩
set_option maxHeartbeats 8000000 in
theorem eol_rune_high (L:Lays.n152 P ρ) (r:Int) (h0:128≤r) (h1:r≠65533) (w:World) :
  Calls P (ρ.f 152) #[.string eol,.int .i32 r] w fun e w'=>e=.returned (.int .i64 (-1))∧Below w.heap.size w w':=by
 have t3:=L.t3;have a3:=L.a3;have z3:=L.z3;have v3:=L.v3
 have t4:=L.t4;have a4:=L.a4;have z4:=L.z4;have v4:=L.v4
 have t5:=L.t5;have a5:=L.a5;have z5:=L.z5;have v5:=L.v5
 have t9:=L.t9;have a9:=L.a9;have z9:=L.z9;have v9:=L.v9
 have t21:=L.t21;have a21:=L.a21;have z21:=L.z21;have v21:=L.v21
 have hsz:eol.size=2:=rfl
 have mixed:=L.mixed
 have u21:=run_underlying L.t21;have u9:=run_underlying L.t9
 have e137:∀ args w,(callFunc (ρ.f 137) args).run P w=.ok (.enter (ρ.f 137) args) w:=enters_of L.f137 (by kernel_rfl) rfl
 have e119:∀ args w,(callFunc (ρ.f 119) args).run P w=.ok (.enter (ρ.f 119) args) w:=enters_of L.f119 (by kernel_rfl) rfl
 have hr1:¬ (r<128):=by omega
 cases hv:Lib.validRune r with
 | false =>
  go_enter L.f152,Body.n152_ntmps ρ
  go_wp2_with (go_at_fn (ρ.f 119);refine (Any.utf8_ValidRune { L with } _ _).mono ?_;rintro e w' ⟨rfl,hw⟩;rw [hw,hv])
  go_ret
  exact ⟨rfl,Below.refl _ _⟩
 | true =>
  have hv':Utf8.valid r=true:=by
   unfold Lib.validRune at hv
   unfold Utf8.valid
   simp only [Bool.or_eq_true,Bool.and_eq_true,decide_eq_true_eq] at hv ⊢
   omega
  obtain ⟨f1,f2,f3⟩:=encode_facts r hv' h0
  clear hv'
  obtain ⟨rs,hrs⟩:∃ rs,Utf8.encode r=rs:=⟨_,rfl⟩
  rw [hrs] at f1 f2 f3
  have hconv:∀ w,(convert (ρ.t 21) (ρ.t 9) (.int .i32 r)).run P w=.ok (.string rs) w:=fun w=>by
   rw [run_convert_int_string w _ _ _ _ (by rw [t21];rfl) t9,hrs]
  have hlast:IntKind.i64.wrap ((rs.size:Int)-1)=(rs.size:Int)-1:=wrap_small _ (by omega) (by omega)
  clear hrs
  by_cases h2:rs.size=2
  ·obtain ⟨b0,b1,rfl⟩:∃ b0 b1,rs=⟨#[b0,b1]⟩:=by
    obtain ⟨⟨l⟩⟩:=rs
    match l,h2 with
    | [x,y],_=>exact ⟨x,y,rfl⟩
   have hb:128≤b1.toNat:=f3 (by show 1<2;decide)
   have hz:(⟨#[b0,b1]⟩:ByteArray).size=2:=rfl
   have hne:¬ ((10:Int)=(b1.toNat:Int)):=by omega
   clear f1 f2 f3 h2
   rw [hz] at hlast
   go_enter L.f152,Body.n152_ntmps ρ
   go_wp2_with (go_at_fn (ρ.f 119);refine (Any.utf8_ValidRune { L with } _ _).mono ?_;rintro e w' ⟨rfl,hw⟩;rw [hw,hv])
   go_step3
   go_wp2
   go_loopg [9,10] 0 (fun g s9 s10 wx=>s9=.int .i64 1∧s10=.int .i64 0∧wx=w)
   case atStart=>exact ⟨rfl,rfl,rfl⟩
   case round =>
    obtain ⟨rfl,rfl,rfl⟩:=hrel
    go_wp2
    go_step3
    have hx:eol[1]'(by decide)=10:=rfl
    have hy:(⟨#[b0,b1]⟩:ByteArray)[1]'(by show 1<2;decide)=b1:=rfl
    go_wp2
    go_quiet_o (fail)
    go_wp2
    have hsl:∀ w,(Instr.slice (ρ.t 9) (.string eol) (some (.int .i64 2)) none none).run P w=.ok (.string ⟨#[]⟩) w:=fun w=>by
     rw [run_slice_string_from_if w _ eol .i64 2 t9]
     rfl
    generalize hW:World.drewN _ _=W
    have HW:Aside (∃ n,W=wr.drewN n):=⟨_,hW.symm⟩
    clear hW
    have hw2:IntKind.i64.wrap 2=2:=by decide
    go_quiet_o (first|(go_at_fn (ρ.f 137);refine Calls.quiet_of_same (Any.strings_IndexByte { L with } _ _ _)))
    go_wp2
    rw [Exit.noGoto_ret]
    go_wp2
    (try rw [Exit.noGoto_ret])
    (try go_wp2)
    go_ret
    obtain ⟨n,rfl⟩:=HW.out
    exact ⟨rfl,⟨rfl,rfl,rfl,Nat.le_refl _,fun _ _=>rfl⟩⟩
  ·have hlt:¬ ((rs.size:Int)-1<2):=by omega
   go_enter L.f152,Body.n152_ntmps ρ
   go_wp2_with (go_at_fn (ρ.f 119);refine (Any.utf8_ValidRune { L with } _ _).mono ?_;rintro e w' ⟨rfl,hw⟩;rw [hw,hv])
   go_step3
   go_wp2
   go_loopg [9,10] 0 (fun g s9 s10 wx=>s9=.int .i64 ((rs.size:Int)-1)∧s10=.int .i64 0∧wx=w)
   case atStart=>exact ⟨rfl,rfl,rfl⟩
   case round =>
    obtain ⟨rfl,rfl,rfl⟩:=hrel
    go_wp2
    rw [Exit.noGoto_ret];go_wp2
    go_ret
    exact ⟨rfl,Below.refl _ _⟩
theorem eol_get_val (s:ByteArray) (i:Nat) (h:i<s.size):s.data.toList[i]?=some (s.get! i):=by
 rw [Lib.data_getElem? s i h]
 simp [ByteArray.get!,getElem!_pos,h]
 rfl
theorem eol_decode_bytes (s:ByteArray) (pos:Nat) (h:pos<s.size) (ha:128≤(s.get! pos).toNat) :
  128≤(Utf8.decode s pos).1∧1≤(Utf8.decode s pos).2∧pos+(Utf8.decode s pos).2≤s.size∧∀ j,j<(Utf8.decode s pos).2→128≤(s.get! (pos+j)).toNat:=by
 have hn:¬ (s.get! (pos+0)).toNat<128:=by simpa using ha
 have h1:∀ (c:Nat),128≤c→128≤(c,1).1∧1≤(c,1).2∧pos+(c,1).2≤s.size∧∀ j,j<(c,1).2→128≤(s.get! (pos+j)).toNat:=fun c hc =>
  ⟨hc,Nat.le_refl _,by show pos+1≤s.size;omega,fun j hj=>by
   have hj:j<1:=hj
   obtain rfl:j=0:=by omega
   simpa using ha⟩
 have hb:∀ k,(s.get! (pos+k)).toNat / 64=2→128≤(s.get! (pos+k)).toNat:=fun k hk=>by omega
 simp only [Utf8.decode,hn,if_false,Utf8.runeError]
 split
 ·rename_i hc
  simp only [Bool.and_eq_true,beq_iff_eq,decide_eq_true_eq] at hc
  split
  ·rename_i h2
   refine ⟨h2,by show 1≤2;omega,by show pos+2≤s.size;omega,fun j hj=>?_⟩
   have hj:j<2:=hj
   rcases (by omega:j=0∨j=1) with rfl|rfl
   ·simpa using ha
   ·exact hb 1 hc.2.2
  ·exact h1 _ (by decide)
 split
 ·rename_i hc
  simp only [Bool.and_eq_true,beq_iff_eq,decide_eq_true_eq] at hc
  split
  ·rename_i h2
   simp only [Bool.and_eq_true,decide_eq_true_eq] at h2
   refine ⟨by have:=h2.1;show 128≤_;simp only;omega,by show 1≤3;omega,by show pos+3≤s.size;omega,fun j hj=>?_⟩
   have hj:j<3:=hj
   rcases (by omega:j=0∨j=1∨j=2) with rfl|rfl|rfl
   ·simpa using ha
   ·exact hb 1 hc.1.2.2
   ·exact hb 2 hc.2.2
  ·exact h1 _ (by decide)
 split
 ·rename_i hc
  simp only [Bool.and_eq_true,beq_iff_eq,decide_eq_true_eq] at hc
  split
  ·rename_i h2
   simp only [Bool.and_eq_true,decide_eq_true_eq] at h2
   refine ⟨by have:=h2.1;show 128≤_;simp only;omega,by show 1≤4;omega,by show pos+4≤s.size;omega,fun j hj=>?_⟩
   have hj:j<4:=hj
   rcases (by omega:j=0∨j=1∨j=2∨j=3) with rfl|rfl|rfl|rfl
   ·simpa using ha
   ·exact hb 1 hc.1.1.2.2
   ·exact hb 2 hc.1.2.2
   ·exact hb 3 hc.2.2
  ·exact h1 _ (by decide)
 ·exact h1 _ (by decide)
theorem eol_run {s:ByteArray} {i k:Nat} (h:NoAny s.data.toList eol.data.toList i) (hk:i+k≤s.size) (hb:∀ j,j<k→128≤(s.get! (i+j)).toNat):NoAny s.data.toList eol.data.toList (i+k):=fun j b hj hjb=>by
 by_cases hlt:j<i
 ·exact h j b hlt hjb
 ·have h1:=hb (j-i) (by omega)
  rw [show i+(j-i)=j by omega] at h1
  rw [eol_get_val s j (by omega)] at hjb
  cases hjb
  show ([13,10]:List UInt8).contains _=false
  simp only [List.contains_cons,List.contains_nil,Bool.or_false,Bool.or_eq_false_iff,beq_eq_false_iff_ne]
  refine ⟨fun e=>?_,fun e=>?_⟩<;>(rw [e] at h1;simp at h1)
set_option maxHeartbeats 8000000 in
theorem eol_indexAny_short (L:Lays.n153 P ρ) (s:ByteArray) (w:World) (h8:s.size≤8) :
  Calls P (ρ.f 153) #[.string s,.string eol] w fun e w'=>e=.returned (.int .i64 (Lib.indexAny s.data.toList eol.data.toList))∧Below w.heap.size w w':=by
 have hemp:eol.toList.isEmpty=false:=by rw [Lib.toList_data];rfl
 have hn0:(eol.size:Int)=2:=rfl
 have hn1:((eol.size:Int) == 1)=false:=rfl
 have h8z:decide ((8:Int)<(s.size:Int))=false:=decide_eq_false (by omega)
 have t3:=L.t3;have a3:=L.a3;have z3:=L.z3;have v3:=L.v3
 have t4:=L.t4;have a4:=L.a4;have z4:=L.z4;have v4:=L.v4
 have t5:=L.t5;have a5:=L.a5;have z5:=L.z5;have v5:=L.v5
 have t9:=L.t9;have a9:=L.a9;have z9:=L.z9;have v9:=L.v9
 have t21:=L.t21;have a21:=L.a21;have z21:=L.z21;have v21:=L.v21
 have e152:∀ args w,(callFunc (ρ.f 152) args).run P w=.ok (.enter (ρ.f 152) args) w:=enters_of L.f152 (by kernel_rfl) rfl
 have e226:∀ args w,(callFunc (ρ.f 226) args).run P w=.ok (.enter (ρ.f 226) args) w:=enters_of L.f226 (by kernel_rfl) rfl
 go_enter L.f153,Body.n153_ntmps ρ
 go_wp2_with (go_at_fn (ρ.f 226);refine (Any.strings_shouldUseASCIISet { L with } _ _).mono ?_;rintro e w' ⟨rfl,hw⟩;rw [hw,h8z])
 go_loopg [9,10] s.size (fun g _ _ wx=>∃ i:Nat,i+g=s.size∧(wx.heap[w.heap.size]?=some (.stringIter s i)∧Below w.heap.size w wx)∧Lib.NoAny s.data.toList eol.data.toList i)
 case atStart=>exact ⟨0,by omega,⟨World.iter_heap w s 0,(Below.refl _ _).alloc (Nat.le_refl _) _⟩,Lib.NoAny.zero _ _⟩
 case round =>
  obtain ⟨i,hig,hst,hno⟩:=hrel
  obtain ⟨hit,hbe⟩:=hst
  have HN:Aside (Lib.NoAny s.data.toList eol.data.toList i∧Below w.heap.size w wr):=⟨hno,hbe⟩
  clear hno hbe
  cases gk with
  | zero =>
   obtain rfl:i=s.size:=by omega
   have hnx:=fun ty=>eol_next_stop (P:=P) wr w.heap.size s s.size ty hit (by omega)
   go_wp2
   go_ret
   exact ⟨by rw [Lib.indexAny_none (by rw [← Lib.size_eq];exact HN.out.1)];rfl,HN.out.2⟩
  | succ g =>
   have hi:i<s.size:=by omega
   have hnx:=fun ty=>eol_next_at (P:=P) wr w.heap.size s i ty hit hi
   have hwlt:w.heap.size<wr.heap.size:=(Array.getElem?_eq_some_iff.1 hit).1
   have hst2:∀ k,({ wr with heap:=wr.heap.setIfInBounds w.heap.size (.stringIter s k) }:World).heap[w.heap.size]?=some (.stringIter s k):=fun k=>by
    show (wr.heap.setIfInBounds w.heap.size (.stringIter s k))[w.heap.size]?=_
    simp [hwlt]
   have hbl2:∀ k,Below w.heap.size w ({ wr with heap:=wr.heap.setIfInBounds w.heap.size (.stringIter s k) }:World):=fun k=>by
    have hb:=HN.out.2
    refine ⟨hb.os,hb.tape,hb.output,by simpa using hb.size,fun n hn=>?_⟩
    show (wr.heap.setIfInBounds w.heap.size (.stringIter s k))[n]?=_
    rw [Array.getElem?_setIfInBounds_ne (by omega)]
    exact hb.block n hn
   have HB:Aside ((∀ k,({ wr with heap:=wr.heap.setIfInBounds w.heap.size (.stringIter s k) }:World).heap[w.heap.size]?=some (.stringIter s k))∧(∀ k,Below w.heap.size w ({ wr with heap:=wr.heap.setIfInBounds w.heap.size (.stringIter s k) }:World))∧w.heap.size<wr.heap.size):=⟨hst2,hbl2,hwlt⟩
   clear hst2 hbl2 hwlt hit
   by_cases ha:128≤(s.get! i).toNat
   ·obtain ⟨d1,d2,d3,d4⟩:=eol_decode_bytes s i hi ha
    have HD:Aside (1≤(Utf8.decode s i).2∧i+(Utf8.decode s i).2≤s.size∧∀ j,j<(Utf8.decode s i).2→128≤(s.get! (i+j)).toNat):=⟨d2,d3,d4⟩
    clear d2 d3 d4 ha
    generalize hr:(Utf8.decode s i).1=r at hnx d1
    generalize hk:(Utf8.decode s i).2=k at hnx HD
    clear hr hk
    generalize hW:({ wr with heap:=wr.heap.setIfInBounds w.heap.size (.stringIter s (i+k)) }:World)=W at hnx
    have HW:Aside (W.heap[w.heap.size]?=some (.stringIter s (i+k))∧Below w.heap.size w W):=⟨by rw [← hW];exact HB.out.1 _,by rw [← hW];exact HB.out.2.1 _⟩
    clear hW
    have hru:Calls P (ρ.f 152) #[.string eol,.int .i32 (r:Int)] W fun e w'=>e=.returned (.int .i64 (-1))∧Below W.heap.size W w':=by
     by_cases he:(r:Int)=65533
     ·rw [he];exact eol_rune_err { L with } W
     ·exact eol_rune_high { L with } _ (by omega) he W
    go_wp2_with (go_at_fn (ρ.f 152);refine hru.mono ?_;rintro e w' ⟨rfl,hw⟩)
    go_roundg (s.size-(i+k))
    case measure=>have:=HD.out.1;omega
    case rel =>
     obtain ⟨g1,g2⟩:=HW.out
     obtain ⟨f1,f2,f3⟩:=HD.out
     have hlt:w.heap.size<W.heap.size:=(Array.getElem?_eq_some_iff.1 g1).1
     exact ⟨i+k,by omega,⟨by rw [hw.block _ hlt];exact g1,g2.trans (hw.mono (by omega))⟩,eol_run HN.out.1 f2 f3⟩
   ·have hx128:(s[i]'hi).toNat<128:=by
     have e:s.get! i=s[i]'hi:=get_at s i hi
     rw [← e];omega
    have hde:Utf8.decode s i=((s[i]'hi).toNat,1):=decode_ascii s i hi hx128
    obtain ⟨x,hx⟩:∃ x:UInt8,s[i]'hi=x:=⟨_,rfl⟩
    have hxl:s.data.toList[i]?=some x:=by rw [← hx];exact Lib.data_getElem? s i hi
    have Hx:Aside (s.data.toList[i]?=some x):=hxl
    rw [hde,hx] at hnx
    rw [hx] at hx128
    clear hxl hx ha hde
    have hcon:=Lib.contains_iff_indexByte eol.data.toList x
    have hback:((x.toNat:Int)).toNat.toUInt8=x:=by simp
    generalize hW:({ wr with heap:=wr.heap.setIfInBounds w.heap.size (.stringIter s (i+1)) }:World)=W at hnx
    have HW:Aside (W.heap[w.heap.size]?=some (.stringIter s (i+1))∧Below w.heap.size w W):=⟨by rw [← hW];exact HB.out.1 _,by rw [← hW];exact HB.out.2.1 _⟩
    clear hW
    cases hin:eol.data.toList.contains x
    ·rw [hin] at hcon
     have hlt:¬ ((0:Int)≤Lib.indexByte eol.data.toList x):=of_decide_eq_false hcon.symm
     clear hcon
     go_wp2_with (go_at_fn (ρ.f 152);refine (Any.strings_IndexRune_ascii { L with } _ _ _ (by omega) (by omega)).mono ?_;rintro e w' ⟨rfl,hw⟩;rw [hw,hback])
     go_roundg g
     case measure=>omega
     case rel=>exact ⟨i+1,by omega,HW.out,HN.out.1.succ Hx.out hin⟩
    ·rw [hin] at hcon
     have hge:(0:Int)≤Lib.indexByte eol.data.toList x:=of_decide_eq_true hcon.symm
     clear hcon
     go_wp2_with (go_at_fn (ρ.f 152);refine (Any.strings_IndexRune_ascii { L with } _ _ _ (by omega) (by omega)).mono ?_;rintro e w' ⟨rfl,hw⟩;rw [hw,hback])
     go_ret
     exact ⟨by rw [Lib.indexAny_hit HN.out.1 Hx.out hin];rfl,HW.out.2⟩
end
end Go.Proofs.YticbbfbpeimkbaaGreatDoor
namespace Go.Proofs.YticbbfbpeimkbaaGreatDoor
open Go.Ab Go.Lib
theorem idxEolC (s:List UInt8) (hs:s.length≤4294967000):Pure Tryz.prog 218 [.str s,.str [13,10]] (.int .i64 (Lib.indexAny s [13,10])):=by
 refine Pure.of_below fun γ w vs ht hv=>?_
 obtain ⟨hlv,hr⟩:=hv
 match vs,hlv with
 | [v,u],_ =>
  cases hr 0 _ _ rfl rfl
  cases hr 1 _ _ rfl rfl
  by_cases h8:s.length≤8
  ·exact (eol_indexAny_short (P:=Tryz.prog) Tryz.lays153 ⟨s.toArray⟩ w (by simpa [ByteArray.size] using h8)).mono fun e w' ⟨he,hw⟩=>⟨hw,_,he,.int _ _⟩
  ·refine (Tryz.strings_IndexAny_long (zero_of_info (n:=256) (by kernel_rfl)).1 ⟨s.toArray⟩ ⟨#[13,10]⟩ w (by decide) (by simp only [ByteArray.size,List.size_toArray];omega) (by simp only [ByteArray.size,List.size_toArray];omega) (by decide) (fun j b hj=>?_)).mono fun e w' ⟨he,hw⟩=>⟨?_,_,he,.int _ _⟩
   ·have hj:([13,10]:List UInt8)[j]?=some b:=hj
    match j,hj with
    | 0,hj=>cases hj;decide
    | 1,hj=>cases hj;decide
    | j+2,hj=>simp at hj
   ·rw [hw]
    exact ((Go.RowKit.Below.refl _ _).alloc (Nat.le_refl _) _).alloc (by simp) _
theorem eol_take (r:List UInt8):Lib.indexAny r [13,10]=if r.all notEol then -1 else ((r.takeWhile notEol).length:Int):=by
 induction r with
 | nil=>rfl
 | cons c r ih =>
  rw [Lib.indexAny,ih]
  by_cases hc:notEol c=true
  ·have h1:([13,10]:List UInt8).contains c=false:=by
    unfold notEol at hc
    simp at hc
    simp [hc.1,hc.2]
   rw [h1]
   by_cases ha:r.all notEol=true
   ·simp [ha,hc]
   ·have h2:¬ (((r.takeWhile notEol).length:Int)=-1):=by omega
    simp [ha,hc,h2]
  ·have h1:([13,10]:List UInt8).contains c=true:=by
    unfold notEol at hc
    simp at hc
    simp
    rcases Classical.em (c=13) with h|h
    ·exact .inl h
    ·exact .inr (Classical.byContradiction fun h10=>h (hc h10))
   rw [h1]
   simp [hc]
theorem take_all {p:UInt8→Bool}:∀ r:List UInt8,r.all p=true→r.takeWhile p=r
 | [],_=>rfl
 | c :: r,h=>by
  simp only [List.all_cons,Bool.and_eq_true] at h
  rw [List.takeWhile_cons,if_pos h.1,take_all r h.2]
theorem gapN_cons (c:UInt8) (r:List UInt8):gapN (c :: r)=if c=9∨c=10∨c=13∨c=32∨c=44 then 1 else if bomT.isPrefixOf (c :: r) then 3 else if c=35 then 1+(r.takeWhile notEol).length else 0:=rfl
theorem gapC (c:UInt8) (r:List UInt8) (hs:(c :: r).length≤1000000):Pure Tryz.prog 123 [.str (c :: r)] (.int .i64 (gapN (c :: r))):=by
 refine Pure.go ir123 ck123 (Nat.le_refl _) fun KP Q hQ=>?_
 have hl:((0:Int)<((c :: r).length:Int))=True:=eq_true (by simp only [List.length_cons];omega)
 by_cases hw:c=9∨c=10∨c=13∨c=32∨c=44
 ·have e:gapN (c :: r)=1:=by rw [gapN_cons,if_pos hw]
  rw [e] at hQ
  rcases hw with rfl|rfl|rfl|rfl|rfl
  ·have hc:((9:UInt8).toNat:Int)=9:=rfl
   simp (disch:=first|omega|assumption) only [ir123,hl,List.getD_cons_zero,hc,go_sem,↓reduceIte]
   exact hQ _ _ _ _ nofun rfl (by simp [tupOf,envOf,AV.strip,AV.strip1])
  ·have hc:((10:UInt8).toNat:Int)=10:=rfl
   simp (disch:=first|omega|assumption) only [ir123,hl,List.getD_cons_zero,hc,go_sem,↓reduceIte]
   exact hQ _ _ _ _ nofun rfl (by simp [tupOf,envOf,AV.strip,AV.strip1])
  ·have hc:((13:UInt8).toNat:Int)=13:=rfl
   simp (disch:=first|omega|assumption) only [ir123,hl,List.getD_cons_zero,hc,go_sem,↓reduceIte]
   exact hQ _ _ _ _ nofun rfl (by simp [tupOf,envOf,AV.strip,AV.strip1])
  ·have hc:((32:UInt8).toNat:Int)=32:=rfl
   simp (disch:=first|omega|assumption) only [ir123,hl,List.getD_cons_zero,hc,go_sem,↓reduceIte]
   exact hQ _ _ _ _ nofun rfl (by simp [tupOf,envOf,AV.strip,AV.strip1])
  ·have hc:((44:UInt8).toNat:Int)=44:=rfl
   simp (disch:=first|omega|assumption) only [ir123,hl,List.getD_cons_zero,hc,go_sem,↓reduceIte]
   exact hQ _ _ _ _ nofun rfl (by simp [tupOf,envOf,AV.strip,AV.strip1])
 have nat:∀ k:Nat,(c.toNat:Int)=k→k<256→c=UInt8.ofNat k:=fun k h hk=>UInt8.toNat_inj.1 (by rw [UInt8.toNat_ofNat'];omega)
 have g9:¬ ((c.toNat:Int)=9):=fun e=>hw (.inl (nat 9 e (by decide)))
 have g10:¬ ((c.toNat:Int)=10):=fun e=>hw (.inr (.inl (nat 10 e (by decide))))
 have g13:¬ ((c.toNat:Int)=13):=fun e=>hw (.inr (.inr (.inl (nat 13 e (by decide)))))
 have g32:¬ ((c.toNat:Int)=32):=fun e=>hw (.inr (.inr (.inr (.inl (nat 32 e (by decide))))))
 have g44:¬ ((c.toNat:Int)=44):=fun e=>hw (.inr (.inr (.inr (.inr (nat 44 e (by decide))))))
 simp (disch:=first|omega|assumption) only [ir123,hl,List.getD_cons_zero,g9,g10,g13,g32,g44,go_sem,↓reduceIte]
 refine goK_pure (prefixC (c :: r) [239,187,191]) ?_
 by_cases hb:([239,187,191]:List UInt8).isPrefixOf (c :: r)=true
 ·have e:gapN (c :: r)=3:=by rw [gapN_cons,if_neg hw];exact if_pos hb
  rw [e] at hQ
  simp (disch:=first|omega|assumption) only [hb,go_sem,↓reduceIte]
  exact hQ _ _ _ _ nofun rfl (by simp [tupOf,envOf,AV.strip,AV.strip1])
 have hb':([239,187,191]:List UInt8).isPrefixOf (c :: r)=false:=Bool.eq_false_iff.2 hb
 by_cases h35:c=35
 ·subst h35
  have e:gapN (35 :: r)=1+(r.takeWhile notEol).length:=by rw [gapN_cons,if_neg hw,if_neg (show ¬ (bomT.isPrefixOf _=true) from hb),if_pos rfl]
  rw [e] at hQ
  have hc:((35:UInt8).toNat:Int)=35:=rfl
  simp (disch:=first|omega|assumption) only [hb',hc,go_sem,↓reduceIte]
  have hp:=idxEolC (35 :: r) (by omega)
  rw [eol_take] at hp
  have n35:notEol 35=true:=rfl
  by_cases ha:r.all notEol=true
  ·have e2:=take_all r ha
   have e3:(35 :: r).all notEol=true:=by rw [List.all_cons,n35,ha];rfl
   rw [if_pos e3] at hp
   refine goK_pure hp ?_
   have h0:¬ ((0:Int)≤-1):=by decide
   simp (disch:=first|omega|assumption) only [h0,go_sem,↓reduceIte]
   exact hQ _ _ _ _ nofun rfl (by simp [tupOf,envOf,AV.strip,AV.strip1,e2,Int.add_comm])
  ·have e3:¬ ((35 :: r).all notEol=true):=by rw [List.all_cons,n35,Bool.true_and];exact ha
   have e2:((35 :: r).takeWhile notEol).length=1+(r.takeWhile notEol).length:=by rw [List.takeWhile_cons,if_pos n35];simp;omega
   rw [if_neg e3,e2] at hp
   refine goK_pure hp ?_
   have h0:((0:Int)≤((1+(r.takeWhile notEol).length:Nat):Int))=True:=eq_true (by omega)
   simp (disch:=first|omega|assumption) only [h0,go_sem,↓reduceIte]
   exact hQ _ _ _ _ nofun rfl (by simp [tupOf,envOf,AV.strip,AV.strip1])
 ·have e:gapN (c :: r)=0:=by rw [gapN_cons,if_neg hw,if_neg (show ¬ (bomT.isPrefixOf _=true) from hb),if_neg h35]
  rw [e] at hQ
  have g35:¬ ((c.toNat:Int)=35):=fun e=>h35 (nat 35 e (by decide))
  simp (disch:=first|omega|assumption) only [hb',g35,go_sem,↓reduceIte]
  exact hQ _ _ _ _ nofun rfl (by simp [tupOf,envOf,AV.strip,AV.strip1])
theorem wordN_cons (c:UInt8) (r:List UInt8):wordN (c :: r)=if (isL c || isD c)=true then 1+wordN r else 0:=by
 unfold wordN
 rw [List.takeWhile_cons]
 split
 ·simp;omega
 ·rfl
theorem wordTC (s:List UInt8) (hs:s.length≤Lim) (h0:isL (s.getD 0 0)=true):Pure Tryz.prog 224 [.str s] (.int .i64 (wordN s)):=by
 refine Pure.go ir224 ck224 (Nat.le_refl _) fun KP Q hQ=>?_
 simp only [Lim] at hs
 have hr1:=wordN_le s
 simp (disch:=first|omega|assumption) only [ir224,go_sem,↓reduceIte]
 refine goL_st (fun n:Nat=>[(3,.int .i64 n)]) (fun n H=>wordN s=n+wordN (s.drop n)∧n≤s.length) (fun n=>s.length-n) 0 (by simp (disch:=first|omega|assumption) only [go_sem,↓reduceIte]) ⟨by simp,by omega⟩ ?_
 rintro n H J ⟨hn,hle⟩ hJ
 rcases drop_cases s n with ⟨h1,h2⟩|⟨h1,h2⟩
 ·have hlt:¬ ((n:Int)<s.length):=by omega
  rw [h1] at hn
  simp only [wordN,List.takeWhile_nil,List.length_nil,Nat.add_zero] at hn
  simp (disch:=first|omega|assumption) only [hlt,go_sem,↓reduceIte]
  exact hQ _ _ _ _ nofun rfl (by simp [tupOf,envOf,AV.strip,AV.strip1,wordN,hn])
 ·have hlt:((n:Int)<s.length):=by omega
  rw [h2,wordN_cons] at hn
  simp (disch:=first|omega|assumption) only [hlt,go_sem,↓reduceIte]
  refine goK_pure (letterC (s.getD n 0)) ?_
  cases hl:isL (s.getD n 0) with
  | true =>
   simp only [hl,Bool.true_or,if_true] at hn
   simp (disch:=first|omega|assumption) only [hl,go_sem,↓reduceIte]
   exact goJ (hJ (n+1) _ (by omega) ⟨by omega,by omega⟩) (by simp (disch:=first|omega|assumption) only [wrap64,Int.natCast_add,Int.natCast_one,go_sem,↓reduceIte])
  | false =>
   have hn0:((0:Int)<(n:Int))=True:=eq_true (by
    rcases Nat.eq_zero_or_pos n with e|e
    ·subst e;rw [h0] at hl;cases hl
    ·omega)
   simp (disch:=first|omega|assumption) only [hl,hn0,hlt,go_sem,↓reduceIte]
   refine goK_pure (digitC (s.getD n 0)) ?_
   cases hd:isD (s.getD n 0) with
   | true =>
    simp only [hl,hd,Bool.or_true,if_true] at hn
    simp (disch:=first|omega|assumption) only [hd,go_sem,↓reduceIte]
    exact goJ (hJ (n+1) _ (by omega) ⟨by omega,by omega⟩) (by simp (disch:=first|omega|assumption) only [wrap64,Int.natCast_add,Int.natCast_one,go_sem,↓reduceIte])
   | false =>
    simp only [hl,hd,Bool.or_false,Bool.false_eq_true,if_false,Nat.add_zero] at hn
    simp (disch:=first|omega|assumption) only [hd,go_sem,↓reduceIte]
    exact hQ _ _ _ _ nofun rfl (by simp [tupOf,envOf,AV.strip,AV.strip1,hn])
def blkA (n:Nat) (x:Option (List UInt8 × List UInt8)):AV:=match x with
 | some (raw,t)=>.tup [.str (blockM raw),.int .i64 ((n-t.length:Nat):Int)]
 | none=>.tup [.str [],.int .i64 0]
theorem rawM_fuel:∀ (n m:Nat) (raw t:List UInt8),t.length<n→t.length<m→rawM n raw t=rawM m raw t
 | 0,_,_,_,h,_=>absurd h (Nat.not_lt_zero _)
 | _,0,_,_,_,h=>absurd h (Nat.not_lt_zero _)
 | n+1,m+1,raw,[],_,_=>rfl
 | n+1,m+1,raw,c :: r,h1,h2=>by
  simp only [List.length_cons] at h1 h2
  simp only [rawM]
  rw [rawM_fuel n m (raw++threeT) (r.drop 3) (by simp;omega) (by simp;omega),rawM_fuel n m (raw++[c]) r (by omega) (by omega)]
theorem rawM_len:∀ (n:Nat) (raw t b t':List UInt8),rawM n raw t=some (b,t')→b.length+t'.length≤raw.length+t.length∧t'.length≤t.length
 | 0,_,_,_,_,h=>by cases h
 | n+1,raw,[],_,_,h=>by cases h
 | n+1,raw,c :: r,b,t',h=>by
  simp only [rawM] at h
  split at h
  ·cases h;simp;omega
  split at h
  ·rename_i h2
   have hl:=pre_len _ _ h2
   simp only [escT,List.length_cons,List.length_nil] at hl
   have:=rawM_len n _ _ _ _ h
   simp [threeT] at this ⊢;omega
  ·have:=rawM_len n _ _ _ _ h
   simp at this ⊢;omega
theorem blockedC (s:List UInt8) (h3:3≤s.length) (hs:s.length≤LimQ):Pure Tryz.prog 219 [.str s] (blkA s.length (rawM (s.length-2) [] (s.drop 3))):=by
 refine Pure.go ir219 ck219 (Nat.le_refl _) fun KP Q hQ=>?_
 simp only [LimQ] at hs
 obtain ⟨R,hR⟩:∃ R,rawM (s.length-2) [] (s.drop 3)=R:=⟨_,rfl⟩
 rw [hR] at hQ
 simp (disch:=first|omega|assumption) only [ir219,go_sem,↓reduceIte]
 refine goL_st (fun x:Own × List UInt8 × Nat=>[(4,.sl x.1 1 (bytesOf x.2.1)),(5,.int .i64 x.2.2)]) (fun x H=>3≤x.2.2∧x.2.2≤s.length∧x.2.1.length+3≤x.2.2∧rawM ((s.drop x.2.2).length+1) x.2.1 (s.drop x.2.2)=R∧Owned H x.1 x.2.1.length 1) (fun x=>s.length-x.2.2) (.nil,[],3) (by simp (disch:=first|omega|assumption) only [bytesOf,go_sem,↓reduceIte]) ⟨Nat.le_refl _,h3,Nat.le_refl _,by rw [← hR];simp only [List.length_drop];rw [show s.length-3+1=s.length-2 by omega],rfl⟩ ?_
 rintro ⟨o,raw,i⟩ H J ⟨hi3,hi,hrl,hrw,ho⟩ hJ
 simp only at hi3 hi hrl hrw ho
 have hbl:=bytesOf_len raw
 by_cases hge:s.length≤i
 ·obtain rfl:i=s.length:=by omega
  rw [List.drop_length] at hrw
  have e:R=none:=by rw [← hrw];rfl
  have h1:((s.length:Int)≤(s.length:Int))=True:=eq_true (Int.le_refl _)
  simp (disch:=first|omega|assumption) only [h1,go_sem,↓reduceIte]
  exact hQ _ _ _ _ nofun rfl (by simp [tupOf,envOf,AV.strip,AV.strip1,blkA,e])
 have hge':¬ ((s.length:Int)≤(i:Int)):=by omega
 have hle:((i:Int)≤(s.length:Int))=True:=eq_true (by omega)
 have hlt:((i:Int)<(s.length:Int))=True:=eq_true (by omega)
 obtain ⟨c,r,hd⟩:∃ c r,s.drop i=c :: r:=by
  cases hx:s.drop i with
  | nil=>have:=congrArg List.length hx;simp at this;omega
  | cons c r=>exact ⟨c,r,rfl⟩
 have hc:s.getD i 0=c:=by
  have:(s.drop i).getD 0 0=c:=by rw [hd];rfl
  simpa [List.getD_eq_getElem?_getD] using this
 have hdl:s.length=i+(r.length+1):=by have:=congrArg List.length hd;simp at this;omega
 rw [hd] at hrw
 simp only [rawM] at hrw
 simp (disch:=first|omega|assumption) only [hge',hle,go_sem,↓reduceIte]
 refine goK_pure (prefixC (s.drop i) [34,34,34]) ?_
 rw [hd]
 by_cases p1:threeT.isPrefixOf (c :: r)=true
 ·have p1':([34,34,34]:List UInt8).isPrefixOf (c :: r)=true:=p1
  have hl3:=pre_len _ _ p1
  simp only [threeT,List.length_cons,List.length_nil] at hl3
  rw [if_pos p1] at hrw
  simp (disch:=first|omega|assumption) only [p1',byts_of,go_sem,↓reduceIte]
  refine goK_pure (blockTC raw (by omega)) ?_
  have e:((s.length-(r.length-2):Nat):Int)=(i:Int)+3:=by omega
  simp (disch:=first|omega|assumption) only [wrap64,go_sem,↓reduceIte]
  exact hQ _ _ _ _ nofun rfl (by simp [tupOf,envOf,AV.strip,AV.strip1,blkA,← hrw,e])
 have p1':([34,34,34]:List UInt8).isPrefixOf (c :: r)=false:=Bool.eq_false_iff.2 p1
 rw [if_neg p1] at hrw
 simp (disch:=first|omega|assumption) only [p1',hle,go_sem,↓reduceIte]
 refine goK_pure (prefixC (s.drop i) [92,34,34,34]) ?_
 rw [hd]
 by_cases p2:escT.isPrefixOf (c :: r)=true
 ·have p2':([92,34,34,34]:List UInt8).isPrefixOf (c :: r)=true:=p2
  have hl4:=pre_len _ _ p2
  simp only [escT,List.length_cons,List.length_nil] at hl4
  rw [if_pos p2] at hrw
  simp (disch:=first|omega|assumption) only [p2',go_sem,↓reduceIte]
  refine goP_ownS (by rw [hbl];exact ho) (by simp [hbl,bytesOf];omega) (by simp [hbl,bytesOf,maxLen];omega) fun o' H' hs2=>?_
  have hdr:s.drop (i+4)=r.drop 3:=by rw [← List.drop_drop,hd];rfl
  simp (disch:=first|omega|assumption) only [wrap64,go_sem,↓reduceIte]
  refine goJ (hJ (o',raw++threeT,i+4) _ (by simp only;omega) ⟨by simp only;omega,by simp only;omega,by simp [threeT];omega,?_,?_⟩) (by simp (disch:=first|omega|assumption) only [← bytesOf_app,Int.natCast_add,threeT,bytesOf_strip,go_sem,↓reduceIte])
  ·simp only
   rw [hdr,← hrw]
   exact rawM_fuel _ _ _ _ (Nat.lt_succ_self _) (by simp;omega)
  ·have h:=hs2.own
   simpa [hbl,bytesOf,threeT] using h
 ·have p2':([92,34,34,34]:List UInt8).isPrefixOf (c :: r)=false:=Bool.eq_false_iff.2 p2
  rw [if_neg p2] at hrw
  simp (disch:=first|omega|assumption) only [p2',hlt,hc,go_sem,↓reduceIte]
  refine goP_ownS (by rw [hbl];exact ho) (by simp [hbl];omega) (by simp [hbl,maxLen];omega) fun o' H' hs2=>?_
  have hdr:s.drop (i+1)=r:=by rw [← List.drop_drop,hd];rfl
  simp (disch:=first|omega|assumption) only [wrap64,go_sem,↓reduceIte]
  refine goJ (hJ (o',raw++[c],i+1) _ (by simp only;omega) ⟨by simp only;omega,by simp only;omega,by simp;omega,?_,?_⟩) (by simp (disch:=first|omega|assumption) only [← bytesOf_one,Int.natCast_add,go_sem,↓reduceIte])
  ·simp only
   rw [hdr,← hrw]
   rfl
  ·have h:=hs2.own
   simpa [hbl] using h
end Go.Proofs.YticbbfbpeimkbaaGreatDoor
namespace Go.Proofs.YticbbfbpeimkbaaGreatDoor
open Go.Ab Go.Lib
theorem plainC (c:UInt8):Pure Tryz.prog 221 [.int .u8 (c.toNat:Int)] (.bool (lineB c)):=by
 refine Pure.go ir221 ck221 (Nat.le_refl _) fun KP Q hQ=>?_
 by_cases h10:c=10
 ·subst h10
  have hc:((10:UInt8).toNat:Int)=10:=rfl
  simp (disch:=first|omega|assumption) only [ir221,hc,go_sem,↓reduceIte]
  exact hQ _ _ _ _ nofun rfl (by simp [tupOf,envOf,AV.strip,AV.strip1,lineB])
 have g10:¬ ((c.toNat:Int)=10):=fun e=>h10 (UInt8.toNat_inj.1 (by show c.toNat=10;omega))
 by_cases h13:c=13
 ·subst h13
  have hc:((13:UInt8).toNat:Int)=13:=rfl
  simp (disch:=first|omega|assumption) only [ir221,hc,go_sem,↓reduceIte]
  exact hQ _ _ _ _ nofun rfl (by simp [tupOf,envOf,AV.strip,AV.strip1,lineB])
 have g13:¬ ((c.toNat:Int)=13):=fun e=>h13 (UInt8.toNat_inj.1 (by show c.toNat=13;omega))
 simp (disch:=first|omega|assumption) only [ir221,g10,g13,go_sem,↓reduceIte]
 exact hQ _ _ _ _ nofun rfl (by simp [tupOf,envOf,AV.strip,AV.strip1,lineB,h10,h13])
theorem oneT_cons (c:UInt8) (r:List UInt8):oneT (c :: r)=if threeT.isPrefixOf (c :: r) then (rawM (r.length+1) [] (r.drop 2)).map fun x=>(⟨5,blockM x.1⟩,x.2)
  else if c=34 then (quoM lineB r).map fun x=>(⟨5,x.1⟩,x.2)
  else if dotsT.isPrefixOf (c :: r) then some (⟨1,dotsT⟩,r.drop 2)
  else if 0≤Lib.indexByte marksT c then some (⟨1,[c]⟩,r)
  else if isL c then some (⟨2,(c :: r).take (wordN (c :: r))⟩,(c :: r).drop (wordN (c :: r)))
  else if (numN (c :: r)).1=0 then none
  else if ((c :: r).drop (numN (c :: r)).1).head?.any fun d=>isL d || isD d || decide (d=46) then none
  else some (⟨(numN (c :: r)).2,(c :: r).take (numN (c :: r)).1⟩,(c :: r).drop (numN (c :: r)).1):=rfl
def oneA (s:List UInt8):AV:=match oneT s with
 | some (x,t)=>.tup [tokA x,.int .i64 ((s.length-t.length:Nat):Int)]
 | none=>.tup [tokA ⟨if s.head?=some 34 then 5 else 0,[]⟩,.int .i64 0]
theorem oneA_some {s t:List UInt8} {x:Tok} (h:oneT s=some (x,t)):oneA s=.tup [tokA x,.int .i64 ((s.length-t.length:Nat):Int)]:=by unfold oneA;rw [h]
theorem oneA_none {s:List UInt8} (h:oneT s=none):oneA s=.tup [tokA ⟨if s.head?=some 34 then 5 else 0,[]⟩,.int .i64 0]:=by unfold oneA;rw [h]
theorem oneC (c:UInt8) (r:List UInt8) (hs:(c :: r).length≤LimQ):Pure Tryz.prog 124 [.str (c :: r)] (oneA (c :: r)):=by
 have hcl:(c :: r).length=r.length+1:=rfl
 have hg0:(c :: r).getD 0 0=c:=rfl
 have ht1:(c :: r).take 1=[c]:=rfl
 have ed:(c :: r).drop 3=r.drop 2:=rfl
 have hhd:(c :: r).head?=some c:=rfl
 have hquo:=fun h34:c=34=>(by rw [h34];exact quotedC 221 (by decide +kernel) lineB plainC 34 r (by simpa [h34] using hs):Pure Tryz.prog 220 [.str (c :: r),.clo 221 [] []] (quoA lineB r))
 have ot:=oneT_cons c r
 have hpl3:threeT.isPrefixOf (c :: r)=true→c=34:=fun p1=>by
  simp only [threeT,List.isPrefixOf,Bool.and_eq_true,beq_iff_eq] at p1
  exact p1.1.symm
 generalize hsc:c :: r=s at *
 refine Pure.go ir124 ck124 (Nat.le_refl _) fun KP Q hQ=>?_
 have hsq:=hs
 simp only [LimQ] at hs
 have hsl:s.length≤Lim:=by simp only [Lim];omega
 have hl:((0:Int)<(s.length:Int))=True:=eq_true (by omega)
 have hl1:((1:Int)≤(s.length:Int))=True:=eq_true (by omega)
 simp (disch:=first|omega|assumption) only [ir124,go_sem,↓reduceIte]
 refine goA_intro fun b0 hb0=>?_
 simp (disch:=first|omega|assumption) only [hl,hg0,go_sem,↓reduceIte]
 refine goK_pure (prefixC s [34,34,34]) ?_
 by_cases p1:threeT.isPrefixOf s=true
 ·have p1':([34,34,34]:List UInt8).isPrefixOf s=true:=p1
  have hl3:=pre_len _ _ p1
  simp only [threeT,List.length_cons,List.length_nil] at hl3
  have h34:c=34:=hpl3 p1
  simp (disch:=first|omega|assumption) only [p1',go_sem,↓reduceIte]
  refine goK_pure (blockedC s hl3 hsq) ?_
  have ef:rawM (s.length-2) [] (r.drop 2)=rawM (r.length+1) [] (r.drop 2):=rawM_fuel _ _ _ _ (by rw [List.length_drop];omega) (by rw [List.length_drop];omega)
  rw [ed,ef]
  have e1:oneT s=(rawM (r.length+1) [] (r.drop 2)).map fun x=>(⟨5,blockM x.1⟩,x.2):=by
   rw [ot,if_pos p1]
  cases hx:rawM (r.length+1) [] (r.drop 2) with
  | none =>
   rw [hx] at e1
   have e:=oneA_none e1
   rw [if_pos (by rw [hhd,h34])] at e
   simp (disch:=first|omega|assumption) only [blkA,go_sem,↓reduceIte]
   exact hQ _ _ _ [.agg [.int .i64 5,.str []],.int .i64 0] nofun (by simp (disch:=first|omega|assumption) only [ir124,resvs,resv,go_sem,↓reduceIte]) (by simp [tupOf,AV.strip,AV.strip1,e,tokA])
  | some x =>
   obtain ⟨raw,t⟩:=x
   rw [hx] at e1
   have e:=oneA_some e1
   simp (disch:=first|omega|assumption) only [blkA,go_sem,↓reduceIte]
   exact hQ _ _ _ [.agg [.int .i64 5,.str (blockM raw)],.int .i64 (((s.length-t.length:Nat)):Int)] nofun (by simp (disch:=first|omega|assumption) only [ir124,resvs,resv,go_sem,↓reduceIte]) (by simp [tupOf,AV.strip,AV.strip1,e,tokA])
 have p1':([34,34,34]:List UInt8).isPrefixOf s=false:=Bool.eq_false_iff.2 p1
 by_cases c34:c=34
 ·have hc:(c.toNat:Int)=34:=by rw [c34];rfl
  simp (disch:=first|omega|assumption) only [p1',hc,go_sem,↓reduceIte]
  refine goK_pure (hquo c34) ?_
  have e1:oneT s=(quoM lineB r).map fun x=>(⟨5,x.1⟩,x.2):=by
   rw [ot,if_neg p1,if_pos c34]
  cases hx:quoM lineB r with
  | none =>
   rw [hx] at e1
   have e:=oneA_none e1
   rw [if_pos (by rw [hhd,c34])] at e
   simp (disch:=first|omega|assumption) only [quoA,hx,go_sem,↓reduceIte]
   exact hQ _ _ _ [.agg [.int .i64 5,.str []],.int .i64 0] nofun (by simp (disch:=first|omega|assumption) only [ir124,resvs,resv,go_sem,↓reduceIte]) (by simp [tupOf,AV.strip,AV.strip1,e,tokA])
  | some x =>
   obtain ⟨b,t⟩:=x
   rw [hx] at e1
   have e:=oneA_some e1
   rw [hcl] at e
   simp (disch:=first|omega|assumption) only [quoA,hx,go_sem,↓reduceIte]
   exact hQ _ _ _ [.agg [.int .i64 5,.str b],.int .i64 (((r.length+1-t.length:Nat)):Int)] nofun (by simp (disch:=first|omega|assumption) only [ir124,resvs,resv,go_sem,↓reduceIte]) (by simp [tupOf,AV.strip,AV.strip1,e,tokA])
 have g34:¬ ((c.toNat:Int)=34):=fun e=>c34 (UInt8.toNat_inj.1 (by show c.toNat=34;omega))
 have hno:¬ (s.head?=some 34):=by rw [hhd];simpa using c34
 simp (disch:=first|omega|assumption) only [p1',g34,go_sem,↓reduceIte]
 refine goK_pure (prefixC s [46,46,46]) ?_
 by_cases p2:dotsT.isPrefixOf s=true
 ·have p2':([46,46,46]:List UInt8).isPrefixOf s=true:=p2
  have hl3:=pre_len _ _ p2
  have hd3:dotsT.length=3:=rfl
  rw [hd3] at hl3
  have e1:oneT s=some (⟨1,dotsT⟩,r.drop 2):=by
   rw [ot,if_neg p1,if_neg c34,if_pos p2]
  have e:=oneA_some e1
  have e2:s.length-(r.drop 2).length=3:=by rw [List.length_drop];omega
  rw [e2] at e
  have e3:dotsT=[46,46,46]:=rfl
  simp (disch:=first|omega|assumption) only [p2',go_sem,↓reduceIte]
  exact hQ _ _ _ [.agg [.int .i64 1,.str [46,46,46]],.int .i64 3] nofun (by simp (disch:=first|omega|assumption) only [ir124,resvs,resv,go_sem,↓reduceIte]) (by simp [tupOf,AV.strip,AV.strip1,e,tokA,e3])
 have p2':([46,46,46]:List UInt8).isPrefixOf s=false:=Bool.eq_false_iff.2 p2
 simp (disch:=first|omega|assumption) only [p2',go_sem,↓reduceIte]
 refine goK_pure (idxByteC marksT c) ?_
 by_cases hm:0≤Lib.indexByte marksT c
 ·have e1:oneT s=some (⟨1,[c]⟩,r):=by
   rw [ot,if_neg p1,if_neg c34,if_neg p2,if_pos hm]
  have e:=oneA_some e1
  have e2:s.length-r.length=1:=by omega
  rw [e2] at e
  have e3:=ht1
  simp (disch:=first|omega|assumption) only [hm,hl1,e3,go_sem,↓reduceIte]
  exact hQ _ _ _ [.agg [.int .i64 1,.str [c]],.int .i64 1] nofun (by simp (disch:=first|omega|assumption) only [ir124,resvs,resv,go_sem,↓reduceIte]) (by simp [tupOf,AV.strip,AV.strip1,e,tokA])
 simp (disch:=first|omega|assumption) only [hm,go_sem,↓reduceIte]
 refine goK_pure (letterC c) ?_
 by_cases hL:isL c=true
 ·have e1:oneT s=some (⟨2,s.take (wordN s)⟩,s.drop (wordN s)):=by
   rw [ot,if_neg p1,if_neg c34,if_neg p2,if_neg hm,if_pos hL]
  have e:=oneA_some e1
  have hwl:=wordN_le s
  have e2:s.length-(s.drop (wordN s)).length=wordN s:=by rw [List.length_drop];omega
  rw [e2] at e
  have h2:((wordN s:Int)≤(s.length:Int))=True:=eq_true (by omega)
  simp (disch:=first|omega|assumption) only [hL,go_sem,↓reduceIte]
  refine goK_pure (wordTC s hsl (by rw [hg0];exact hL)) ?_
  simp (disch:=first|omega|assumption) only [h2,go_sem,↓reduceIte]
  exact hQ _ _ _ [.agg [.int .i64 2,.str (s.take (wordN s))],.int .i64 (wordN s:Int)] nofun (by simp (disch:=first|omega|assumption) only [ir124,resvs,resv,go_sem,↓reduceIte]) (by simp [tupOf,AV.strip,AV.strip1,e,tokA])
 have hL':isL c=false:=by simpa using hL
 simp (disch:=first|omega|assumption) only [hL',go_sem,↓reduceIte]
 refine goK_pure (numberC s hsl) ?_
 have hnl:=numN_le1 s
 have hn2:(numN s).1=0→(numN s).2=0:=fun h=>by
  unfold numN at h ⊢
  split at h
  ·rename_i h0;rw [if_pos h0]
  ·rename_i h0;simp only at h;omega
 have e0:oneT s=if (numN s).1=0 then none
   else if (s.drop (numN s).1).head?.any fun d=>isL d || isD d || decide (d=46) then none
   else some (⟨(numN s).2,s.take (numN s).1⟩,s.drop (numN s).1):=by
  rw [ot,if_neg p1,if_neg c34,if_neg p2,if_neg hm,if_neg hL]
 generalize hnn:(numN s).1=n at *
 generalize hkk:(numN s).2=k at *
 have hnle:((n:Int)≤(s.length:Int))=True:=eq_true (by omega)
 have fin:(n≠0→oneT s=some (⟨k,s.take n⟩,s.drop n))→oneA s=.tup [tokA ⟨k,s.take n⟩,.int .i64 (n:Int)]:=fun h=>by
  by_cases hz:n=0
  ·rw [if_pos hz] at e0
   rw [oneA_none e0,if_neg hno,hz,hn2 hz];rfl
  ·rw [oneA_some (h hz)]
   have e2:s.length-(s.drop n).length=n:=by rw [List.length_drop];omega
   rw [e2]
 have bad:(s.drop n).head?.any (fun d=>isL d || isD d || decide (d=46))=true→oneA s=.tup [tokA ⟨0,[]⟩,.int .i64 0]:=fun h=>by
  have:oneT s=none:=by
   rw [e0]
   split
   ·rfl
   ·first|rfl|exact if_pos h
  rw [oneA_none this,if_neg hno]
 rcases drop_cases s n with ⟨h1,h2⟩|⟨h1,h2⟩
 ·have hlt:¬ ((n:Int)<(s.length:Int)):=by omega
  have e:=fin fun hz=>by rw [e0,if_neg hz,h1];rfl
  simp (disch:=first|omega|assumption) only [hlt,hnle,go_sem,↓reduceIte]
  exact hQ _ _ _ [.agg [.int .i64 k,.str (s.take n)],.int .i64 (n:Int)] nofun (by simp (disch:=first|omega|assumption) only [ir124,resvs,resv,go_sem,↓reduceIte]) (by simp [tupOf,AV.strip,AV.strip1,e,tokA])
 ·have hlt:((n:Int)<(s.length:Int))=True:=eq_true (by omega)
  generalize hdd:s.getD n 0=d at *
  have ha:(s.drop n).head?.any (fun d=>isL d || isD d || decide (d=46))=(isL d || isD d || decide (d=46)):=by rw [h2];rfl
  rw [ha] at bad
  simp (disch:=first|omega|assumption) only [hlt,hdd,go_sem,↓reduceIte]
  refine goK_pure (letterC d) ?_
  cases hld:isL d with
  | true =>
   have e:=bad (by rw [hld];rfl)
   simp (disch:=first|omega|assumption) only [hld,go_sem,↓reduceIte]
   exact hQ _ _ _ [.agg [.int .i64 0,.str []],.int .i64 0] nofun (by simp (disch:=first|omega|assumption) only [ir124,resvs,resv,go_sem,↓reduceIte]) (by simp [tupOf,AV.strip,AV.strip1,e,tokA])
  | false =>
   simp (disch:=first|omega|assumption) only [hld,hlt,hdd,go_sem,↓reduceIte]
   refine goK_pure (digitC d) ?_
   cases hdg:isD d with
   | true =>
    have e:=bad (by rw [hdg];simp)
    simp (disch:=first|omega|assumption) only [hdg,go_sem,↓reduceIte]
    exact hQ _ _ _ [.agg [.int .i64 0,.str []],.int .i64 0] nofun (by simp (disch:=first|omega|assumption) only [ir124,resvs,resv,go_sem,↓reduceIte]) (by simp [tupOf,AV.strip,AV.strip1,e,tokA])
   | false =>
    by_cases h46:d=46
    ·have e:=bad (by rw [h46];simp)
     have g46:(d.toNat:Int)=46:=by rw [h46];rfl
     simp (disch:=first|omega|assumption) only [hdg,hlt,hdd,g46,go_sem,↓reduceIte]
     exact hQ _ _ _ [.agg [.int .i64 0,.str []],.int .i64 0] nofun (by simp (disch:=first|omega|assumption) only [ir124,resvs,resv,go_sem,↓reduceIte]) (by simp [tupOf,AV.strip,AV.strip1,e,tokA])
    ·have g46:¬ ((d.toNat:Int)=46):=fun e=>h46 (UInt8.toNat_inj.1 (by show d.toNat=46;omega))
     have e:=fin fun hz=>by rw [e0,if_neg hz,ha,hld,hdg];simp [h46]
     simp (disch:=first|omega|assumption) only [hdg,hlt,hdd,g46,hnle,go_sem,↓reduceIte]
     exact hQ _ _ _ [.agg [.int .i64 k,.str (s.take n)],.int .i64 (n:Int)] nofun (by simp (disch:=first|omega|assumption) only [ir124,resvs,resv,go_sem,↓reduceIte]) (by simp [tupOf,AV.strip,AV.strip1,e,tokA])
theorem code_in {l:List UInt8} (hne:l≠[]):(codeN l).2≤l.length∧(codeN l).1≤1114111:=by
 by_cases h:(codeN l).2=0
 ·refine ⟨by omega,?_⟩
  unfold codeN at h ⊢
  split at h
  ·rename_i h0;rw [if_pos h0];decide
  ·split at h
   ·rename_i h0 h1;rw [if_neg h0,if_pos h1];decide
   ·rename_i h0 h1
    have:=dec_ok h0 h1
    have:=this.pos
    omega
 ·obtain ⟨e,h1⟩:=codeN_dec hne h
  have hd:=dec_ok hne h1
  rw [e]
  refine ⟨?_,hd.le⟩
  have hl:=hd.len
  exact hl
theorem sourceC (s:List UInt8) (hs:s.length≤Lim):Pure Tryz.prog 122 [.str s] (.bool (srcB s)):=by
 refine Pure.go ir122 ck122 (Nat.le_refl _) fun KP Q hQ=>?_
 have hs':=hs
 simp only [Lim] at hs
 simp (disch:=first|omega|assumption) only [ir122,go_sem,↓reduceIte]
 refine goL_st (fun i:Nat=>[(3,.int .i64 i)]) (fun i H=>srcB s=srcB (s.drop i)∧i≤s.length) (fun i=>s.length-i) 0 (by simp (disch:=first|omega|assumption) only [go_sem,↓reduceIte]) ⟨by simp,by omega⟩ ?_
 rintro i H J ⟨hn,hle⟩ hJ
 by_cases hlt:i<s.length
 case neg =>
  have hlt':¬ ((i:Int)<s.length):=by omega
  rw [List.drop_of_length_le (by omega)] at hn
  simp (disch:=first|omega|assumption) only [hlt',go_sem,↓reduceIte]
  exact hQ _ _ _ _ nofun rfl (by simp [tupOf,envOf,AV.strip,AV.strip1,hn,srcB_nil])
 have hlt':((i:Int)<s.length)=True:=eq_true (by omega)
 have hne:s.drop i≠[]:=fun e=>by have:=congrArg List.length e;simp at this;omega
 obtain ⟨hk,hcm⟩:=code_in hne
 rw [List.length_drop] at hk
 simp (disch:=first|omega|assumption) only [hlt',go_sem,↓reduceIte]
 refine goK_pure (codeC s i hlt hs') ?_
 rw [srcB_step hne,List.drop_drop] at hn
 generalize (codeN (s.drop i)).1=c at *
 generalize (codeN (s.drop i)).2=k at *
 by_cases hk0:0<k
 ·have hk0':((0:Int)<(k:Int))=True:=eq_true (by omega)
  simp (disch:=first|omega|assumption) only [hk0',go_sem,↓reduceIte]
  refine goK_pure (signC c hcm) ?_
  cases hsg:signB c with
  | true =>
   rw [hsg] at hn
   simp only [hk0,decide_true,Bool.true_and] at hn
   simp (disch:=first|omega|assumption) only [wrap64,go_sem,↓reduceIte]
   exact goJ (hJ (i+k) _ (by omega) ⟨hn,by omega⟩) (by simp (disch:=first|omega|assumption) only [Int.natCast_add,go_sem,↓reduceIte])
  | false =>
   rw [hsg] at hn
   simp only [Bool.false_and,Bool.and_false] at hn
   simp (disch:=first|omega|assumption) only [go_sem,↓reduceIte]
   exact hQ _ _ _ _ nofun rfl (by simp [tupOf,envOf,AV.strip,AV.strip1,hn])
 ·have hk0':¬ ((0:Int)<(k:Int)):=by omega
  simp only [hk0,decide_false,Bool.false_and] at hn
  simp (disch:=first|omega|assumption) only [hk0',go_sem,↓reduceIte]
  exact hQ _ _ _ _ nofun rfl (by simp [tupOf,envOf,AV.strip,AV.strip1,hn])
def readA:Except Int (List Tok)→AV
 | .ok l=>.tup [.sl .no 2 (cKs l),.int .i64 0]
 | .error e=>.tup [.sl .no 2 [],.int .i64 e]
def readF (l:List Tok) (t:List UInt8):Except Int (List Tok):=readG (t.length+1) l t
theorem readF_nil (l:List Tok):readF l []=.ok l:=rfl
theorem readF_gap {l:List Tok} {t:List UInt8} (hne:t≠[]) (h:gapN t≠0):readF l t=readF l (t.drop (gapN t)):=by
 have h1:=gapN_le t
 have h2:0<t.length:=List.length_pos_iff.2 hne
 unfold readF
 conv=>lhs;unfold readG
 rw [if_neg hne,if_pos h]
 exact readG_fuel _ _ _ _ (by simp;omega) (Nat.lt_succ_self _)
theorem readF_none {l:List Tok} {t:List UInt8} (hne:t≠[]) (h:gapN t=0) (h1:oneT t=none):readF l t=.error 2:=by
 unfold readF
 conv=>lhs;unfold readG
 rw [if_neg hne,if_neg (by omega),h1]
theorem readF_some {l:List Tok} {t t':List UInt8} {x:Tok} (hne:t≠[]) (h:gapN t=0) (h1:oneT t=some (x,t')):readF l t=readF (l++[x]) t':=by
 have h2:=oneT_lt h1
 unfold readF
 conv=>lhs;unfold readG
 rw [if_neg hne,if_neg (by omega),h1]
 exact readG_fuel _ _ _ _ (by omega) (Nat.lt_succ_self _)
theorem rawM_suf:∀ (n:Nat) (raw t b t':List UInt8),rawM n raw t=some (b,t')→t' <:+ t
 | 0,_,_,_,_,h=>by cases h
 | n+1,raw,[],_,_,h=>by cases h
 | n+1,raw,c :: r,b,t',h=>by
  simp only [rawM] at h
  split at h
  ·cases h;exact (List.drop_suffix _ _).trans (List.suffix_cons ..)
  split at h
  ·exact (rawM_suf n _ _ _ _ h).trans ((List.drop_suffix _ _).trans (List.suffix_cons ..))
  ·exact (rawM_suf n _ _ _ _ h).trans (List.suffix_cons ..)
theorem oneT_suffix {s t:List UInt8} {x:Tok} (h:oneT s=some (x,t)):t <:+ s:=by
 cases s with
 | nil=>cases h
 | cons c r =>
  simp only [oneT] at h
  split at h
  ·cases hr:rawM (r.length+1) [] (r.drop 2) with
   | none=>rw [hr] at h;cases h
   | some y =>
    rw [hr] at h
    simp only [Option.map_some,Option.some.injEq,Prod.mk.injEq] at h
    obtain ⟨_,rfl⟩:=h
    exact (rawM_suf _ _ _ _ _ (show rawM _ _ _=some (y.1,y.2) from hr)).trans ((List.drop_suffix _ _).trans (List.suffix_cons ..))
  split at h
  ·cases hr:quoM lineB r with
   | none=>rw [hr] at h;cases h
   | some y =>
    rw [hr] at h
    simp only [Option.map_some,Option.some.injEq,Prod.mk.injEq] at h
    obtain ⟨_,rfl⟩:=h
    exact (quoM_suf (t':=y.2) (b:=y.1) hr).1.trans (List.suffix_cons ..)
  split at h
  ·cases h;exact (List.drop_suffix _ _).trans (List.suffix_cons ..)
  split at h
  ·cases h;exact List.suffix_cons ..
  split at h
  ·cases h;exact List.drop_suffix _ _
  split at h
  ·cases h
  split at h
  ·cases h
  ·cases h;exact List.drop_suffix _ _
theorem oneT_suf {s t:List UInt8} {x:Tok} (h:oneT s=some (x,t)):s.drop (s.length-t.length)=t:=by
 obtain ⟨p,hp⟩:=oneT_suffix h
 rw [← hp];simp
theorem gapU {u:List UInt8} (hne:u≠[]) (hs:u.length≤1000000):Pure Tryz.prog 123 [.str u] (.int .i64 (gapN u)):=by
 cases u with
 | nil=>exact absurd rfl hne
 | cons c r=>exact gapC c r hs
theorem oneU {u:List UInt8} (hne:u≠[]) (hs:u.length≤LimQ):Pure Tryz.prog 124 [.str u] (oneA u):=by
 cases u with
 | nil=>exact absurd rfl hne
 | cons c r=>exact oneC c r hs
theorem readTC (s:List UInt8) (hs:s.length≤LimQ):Pure Tryz.prog 57 [.str s] (readA (readT s)):=by
 refine Pure.go ir57 ck57 (Nat.le_refl _) fun KP Q hQ=>?_
 have hsq:=hs
 simp only [LimQ] at hs
 by_cases h8:8192<s.length
 ·have g8:((8192:Int)<(s.length:Int))=True:=eq_true (by omega)
  simp (disch:=first|omega|assumption) only [ir57,g8,go_sem,↓reduceIte]
  exact hQ _ _ _ _ nofun rfl (by simp [tupOf,envOf,AV.strip,AV.strip1,readT,h8,readA])
 have g8:¬ ((8192:Int)<(s.length:Int)):=by omega
 simp (disch:=first|omega|assumption) only [ir57,g8,go_sem,↓reduceIte]
 refine goK_pure (sourceC s (by simp only [Lim];omega)) ?_
 cases hsb:srcB s with
 | false =>
  simp (disch:=first|omega|assumption) only [go_sem,↓reduceIte]
  exact hQ _ _ _ _ nofun rfl (by simp [tupOf,envOf,AV.strip,AV.strip1,readT,h8,hsb,readA])
 | true =>
  have e0:readT s=readF [] s:=by unfold readT readF;rw [if_neg h8,if_pos hsb]
  rw [e0] at hQ
  simp (disch:=first|omega|assumption) only [go_sem,↓reduceIte]
  refine goL_st (fun x:Own × List Tok × Nat=>[(4,.sl x.1 2 (cKs x.2.1)),(5,.int .i64 x.2.2)]) (fun x H=>x.2.2≤s.length∧x.2.1.length≤x.2.2∧readF [] s=readF x.2.1 (s.drop x.2.2)∧OwnS Heap.emp .nil H x.1 x.2.1.length 2) (fun x=>s.length-x.2.2) (.nil,[],0) (by simp (disch:=first|omega|assumption) only [cKs,List.map_nil,go_sem,↓reduceIte]) ⟨Nat.zero_le _,Nat.le_refl _,rfl,OwnS.refl rfl⟩ ?_
  rintro ⟨o,l,i⟩ H J ⟨hi,hll,hr,hso⟩ hJ
  simp only at hi hll hr hso
  have hcl:=cKs_len l
  by_cases hlt:i<s.length
  case neg =>
   have hlt':¬ ((i:Int)<s.length):=by omega
   rw [List.drop_of_length_le (by omega),readF_nil] at hr
   simp (disch:=first|omega|assumption) only [hlt',go_sem,↓reduceIte]
   exact hQ _ _ _ _ nofun rfl (by simp [tupOf,envOf,AV.strip,AV.strip1,hr,readA,cKs_strip])
  have hlt':((i:Int)<s.length)=True:=eq_true (by omega)
  have hle':((i:Int)≤s.length)=True:=eq_true (by omega)
  obtain ⟨u,hd⟩:∃ u,s.drop i=u:=⟨_,rfl⟩
  have hdl:s.length=i+u.length:=by have:=congrArg List.length hd;rw [List.length_drop] at this;omega
  have hne:u≠[]:=fun e=>by rw [e] at hdl;simp at hdl;omega
  rw [hd] at hr
  simp (disch:=first|omega|assumption) only [hlt',hle',hd,go_sem,↓reduceIte]
  refine goK_pure (gapU hne (by omega)) ?_
  have hgl:=gapN_le u
  by_cases hg:gapN u=0
  case neg =>
   have hg':((0:Int)<(gapN u:Int))=True:=eq_true (by omega)
   simp (disch:=first|omega|assumption) only [hg',wrap64,go_sem,↓reduceIte]
   refine goJ (hJ (o,l,i+gapN u) _ (by simp only;omega) ⟨by simp only;omega,by simp only;omega,?_,hso⟩) (by simp (disch:=first|omega|assumption) only [Int.natCast_add,go_sem,↓reduceIte])
   simp only
   rw [hr,readF_gap hne hg,← List.drop_drop,hd]
  have hg':¬ ((0:Int)<(gapN u:Int)):=by omega
  simp (disch:=first|omega|assumption) only [hg',hle',hd,go_sem,↓reduceIte]
  refine goK_pure (oneU hne (by simp only [LimQ];omega)) ?_
  cases ho:oneT u with
  | none =>
   rw [readF_none hne hg ho] at hr
   rw [oneA_none ho]
   simp (disch:=first|omega|assumption) only [tokA,go_sem,↓reduceIte]
   refine goA_intro fun b1 hb1=>?_
   simp (disch:=first|omega|assumption) only [go_sem,↓reduceIte]
   exact hQ _ _ _ _ nofun rfl (by simp [tupOf,envOf,AV.strip,AV.strip1,hr,readA])
  | some x =>
   obtain ⟨x,t⟩:=x
   have hlt2:=oneT_lt ho
   have hsf:=oneT_suf ho
   rw [readF_some hne hg ho] at hr
   rw [oneA_some ho]
   have hz:¬ (((u.length-t.length:Nat):Int)=0):=by omega
   simp (disch:=first|omega|assumption) only [tokA,go_sem,↓reduceIte]
   refine goA_intro fun b1 hb1=>?_
   simp (disch:=first|omega|assumption) only [hz,go_sem,↓reduceIte]
   refine goP_ownS (by rw [hcl];exact (hso.upd hb1).own) (by simp only [hcl,List.length_cons,List.length_nil];omega) (by simp only [hcl,List.length_cons,List.length_nil,maxLen];omega) fun o' H' hs2=>?_
   simp (disch:=first|omega|assumption) only [wrap64,go_sem,↓reduceIte]
   refine goJ (hJ (o',l++[x],i+(u.length-t.length)) H' (by simp only;omega) ⟨by simp only;omega,by simp;omega,?_,(hso.upd (x:=.cells [.int .i64 x.k,.str x.s]) hb1).trans (by simpa [hcl] using hs2)⟩) (by simp (disch:=first|omega|assumption) only [← cKs_app,Int.natCast_add,go_sem,↓reduceIte])
   simp only
   rw [hr,← List.drop_drop,hd,hsf]
end Go.Proofs.YticbbfbpeimkbaaGreatDoor
namespace Go.Proofs.YticbbfbpeimkbaaGreatDoor
open Go.Ab
def sp89 : ASp := ⟨27, 2, 5, (.reg [] [⟨some 4, none, .alloc [.int .i64 0], []⟩]), (.seq (.reg [] [⟨some 13, none, .mv (.t 6), []⟩, ⟨some 14, none, .bi .neq .i64 (.t 13) (.k (.int .i64 0)), []⟩])
 (.cond (.t 14) (.seq (.reg [] [⟨some 15, none, .mv (.t 6), []⟩, ⟨none, none, .st 1 (.t 4) (.t 15), []⟩])
 (.ret)) (.skip))), [⟨some 16, none, .mkfn 159 [] [(.t 4)], []⟩], 16, (.seq (.reg [] [⟨some 17, none, .mv (.t 5), []⟩, ⟨some 18, none, .bld [.sl .nil 2 [], .int .i64 0, .int .i64 0] [(0, 1, (.t 17))], []⟩, ⟨some 19, none, .box (.t 18), []⟩, ⟨some 7, none, .mv (.t 19), []⟩])
 (.seq (.reg [] [⟨some 20, none, .mv (.t 1), []⟩, ⟨some 21, none, .mv (.t 7), []⟩, ⟨some 22, none, .callv (.t 20) [(.t 21)], []⟩])
 (.seq (.seq (.reg [] [⟨some 23, none, .mv (.t 7), []⟩, ⟨some 24, none, .call 92 [(.t 23)], []⟩])
 (.cond (.t 24) (.reg [] [⟨some 25, none, .mv (.t 7), []⟩, ⟨some 26, none, .call 160 [(.t 25), (.k (.int .i64 2))], []⟩]) (.skip)))
 (.seq (.reg [] [⟨none, none, .st 1 (.t 4) (.k (.int .i64 0)), []⟩])
 (.ret))))), [.c 4 1 false], some (.reg [] [⟨some 9, none, .mv (.t 0), []⟩, ⟨some 10, none, .call 57 [(.t 9)], []⟩, ⟨some 8, none, .mv (.t 10), []⟩, ⟨some 11, none, .ext (.t 8) 0, []⟩, ⟨some 12, none, .ext (.t 8) 1, []⟩, ⟨some 5, none, .mv (.t 11), []⟩, ⟨some 6, none, .mv (.t 12), []⟩])⟩
theorem ckS89:chkSp Tryz.prog 89 sp89=true:=by kernel_rfl
def df159 : ADfn := ⟨16, 1, 4, [⟨some 1, none, .mv (.t 4), []⟩], (.seq (.reg [] [⟨some 6, none, .mv (.t 1), []⟩, ⟨some 7, none, .tas 186 (.agg [.int .i64 0]) (.t 6), []⟩, ⟨some 5, none, .mv (.t 7), []⟩, ⟨some 8, none, .ext (.t 5) 0, []⟩, ⟨some 9, none, .ext (.t 5) 1, []⟩, ⟨some 2, none, .alloc [.int .i64 0], []⟩, ⟨none, none, .st 1 (.t 2) (.t 8), []⟩, ⟨some 3, none, .mv (.t 9), []⟩])
 (.seq (.reg [] [⟨some 10, none, .mv (.t 3), []⟩])
 (.cond (.t 10) (.reg [] [⟨some 11, none, .fa 0 (.t 2), []⟩, ⟨some 12, none, .ld 1 false (.t 11), []⟩, ⟨none, none, .st 1 (.t 0) (.t 12), []⟩]) (.seq (.reg [] [⟨some 13, none, .mv (.t 1), []⟩, ⟨some 14, none, .ifnil true (.t 13), []⟩])
 (.cond (.t 14) (.reg [] [⟨some 15, none, .mv (.t 1), []⟩, ⟨none, none, .pan (.t 15), []⟩]) (.skip))))))⟩
theorem ckD159:chkDfn Tryz.prog 159 df159=true:=by kernel_rfl
end Go.Proofs.YticbbfbpeimkbaaGreatDoor
namespace Go.Proofs.YticbbfbpeimkbaaGreatDoor
open Go.Ab
theorem pgo_items {P:Program} {KP:AV→Heap→Prop} {items:List AItem} {ρ:Env} {H:Heap} {K:Env→Heap→Prop} (h:∀ Q:AExit→Env→Heap→Prop,(∀ ρ' H',K ρ' H'→Q .normal ρ' H')→goI P KP Q items items [] ρ H):awpItems P KP (annot items) ρ H K :=
 h (fun e ρ H=>match e with|.normal=>K ρ H|_=>True) (fun _ _ h=>h)
theorem pgo_awp {P:Program} {KP:AV→Heap→Prop} {c:AC} {ρ:Env} {H:Heap} {K:AExit→Env→Heap→Prop} (h:∀ (KP':AV→Heap→Prop) (Q:AExit→Env→Heap→Prop),(∀ v H',KP v H'→KP' v H')→(∀ e ρ' H',K e ρ' H'→Q e ρ' H')→goC P KP' Q c [] ρ H):awp P KP c K ρ H :=
 h KP K (fun _ _ h=>h) (fun _ _ _ h=>h)
theorem failPK (H:Heap) (r:Nat) (n:Int):ACalls Tryz.prog 160 [.ptr r 0,.int .i64 n] H (fun e H'=>match e with|.ret v=>False|.pan v=>v=stopP n∧H'=H):=by
 refine ACalls.goO (R:=fun _ _=>False) (RP:=fun v H'=>v=stopP n∧H'=H) ir160 ck160 (Nat.le_refl _) fun KP Q hQ hP=>?_
 simp (disch:=first|omega|assumption) only [ir160,go_sem,↓reduceIte]
 exact hP _ _ H (Low.refl _) ⟨rfl,rfl⟩
theorem recP0 {H:Heap} {b4:Nat} {Q:Heap→Prop} (hq:∀ b x,H b=none→Q (H.upd b x)):ACallsD Tryz.prog 159 [.ptr b4 0] none H Q:=by
 refine ACallsD.of_fn df159 ckD159 (Nat.le_refl _) (pgo_items fun Q1 hQ1=>?_)
 simp (disch:=first|omega|assumption) only [df159,Option.getD_none,go_sem,↓reduceIte]
 refine hQ1 _ _ (pgo_awp fun KP' Q2 hKP hQ2=>?_)
 simp (disch:=first|omega|assumption) only [df159,go_sem,↓reduceIte]
 refine goA_intro fun b hb=>?_
 simp (disch:=first|omega|assumption) only [go_sem,↓reduceIte]
 exact hQ2 _ _ _ (hq _ _ hb)
theorem recP1 {H:Heap} {b4:Nat} {c4:List AV} {n:Int} {Q:Heap→Prop} (h4:H b4=some (.cells c4)) (l4:c4.length=1)
  (hq:∀ b x,H b=none→Q ((H.upd b x).upd b4 (.cells [.int .i64 n]))):ACallsD Tryz.prog 159 [.ptr b4 0] (some (stopP n)) H Q:=by
 refine ACallsD.of_fn df159 ckD159 (Nat.le_refl _) (pgo_items fun Q1 hQ1=>?_)
 simp (disch:=first|omega|assumption) only [df159,Option.getD_some,stopP,go_sem,↓reduceIte]
 refine hQ1 _ _ (pgo_awp fun KP' Q2 hKP hQ2=>?_)
 simp (disch:=first|omega|assumption) only [df159,go_sem,↓reduceIte]
 refine goA_intro fun b hb=>?_
 have n1:b4≠b:=fun e=>by subst e;rw [hb] at h4;cases h4
 simp (disch:=first|omega|assumption) only [h4,n1,l4,go_sem,↓reduceIte]
 have e4:splice c4 0 [.int .i64 n]=[.int .i64 n]:=by
  unfold splice;simp only [List.take_zero,List.nil_append,List.length_cons,List.length_nil];rw [List.drop_eq_nil_of_le (by rw [l4];decide),List.append_nil]
 rw [e4]
 exact hQ2 _ _ _ (hq _ _ hb)
theorem readG_err:∀ (n:Nat) (l:List Tok) (s:List UInt8) (e:Int),s.length<n→readG n l s=.error e→e=2
 | 0,_,_,_,h,_=>absurd h (Nat.not_lt_zero _)
 | n+1,l,s,e,h,hr=>by
  simp only [readG] at hr
  split at hr
  ·cases hr
  split at hr
  ·rename_i hne hg
   have h1:=gapN_le s
   have h2:0<s.length:=List.length_pos_iff.2 hne
   exact readG_err n _ _ _ (by simp;omega) hr
  ·cases ho:oneT s with
   | none=>rw [ho] at hr;cases hr;rfl
   | some x =>
    rw [ho] at hr
    have:=oneT_lt (show oneT s=some (x.1,x.2) from ho)
    exact readG_err n _ _ _ (by omega) hr
theorem readT_err {s:List UInt8} {e:Int} (h:readT s=.error e):e≠0:=by
 unfold readT at h
 split at h
 ·cases h;decide
 split at h
 ·rw [readG_err _ _ _ _ (Nat.lt_succ_self _) h];decide
 ·cases h;decide
def RunQ (Out:Int→Heap→Prop):AEnd→Heap→Prop:=fun e H'=>match e with|.ret v=>∃ n:Int,v=.int .i64 n∧Out n H'|.pan _=>False
theorem res_run {ρ:Env} {H:Heap} {b4:Nat} {e:Int} (r4:ρ 4=.ptr b4 0) (h4:H b4=some (.cells [.int .i64 e])):resvs ρ H sp89.res=some [.int .i64 e]:=by
 simp (disch:=first|omega|assumption) only [sp89,resvs,resv,r4,h4,go_sem,↓reduceIte]
theorem runPC {s:List UInt8} {Hc:Heap} {clo:FuncId} {caps:List AV} (hl:s.length≤LimQ) (hcal:Program.callable Tryz.prog clo=true) (Out:Int→Heap→Prop)
  (h1:∀ n,readT s=.error n→Out n Hc)
  (h2:∀ L,readT s=.ok L→∀ r,Hc r=none→ACalls Tryz.prog clo (.ptr r 0 :: caps) (Hc.upd r (prc L [] 0)) (fun e H'=>match e with
   | .ret _=>∃ p t dp,p++t=L∧H' r=some (prc L p dp)∧Out (if t=[] then 0 else 2) H'
   | .pan v=>∃ n,v=stopP n∧∀ H,Out n H)) :
  ACalls Tryz.prog 89 [.str s,.clo clo [] caps] Hc (RunQ Out):=by
 refine ACalls.of_sp sp89 ckS89 (Nat.le_refl _) ?_
 unfold awpD
 refine pgo_awp fun KP Q hKP hQ=>?_
 simp (disch:=first|omega|assumption) only [sp89,go_sem,↓reduceIte]
 refine goA_intro fun b4 hb4=>?_
 simp (disch:=first|omega|assumption) only [go_sem,↓reduceIte]
 refine hQ _ _ _ (pgo_awp fun KP1 Q1 hKP1 hQ1=>?_)
 simp (disch:=first|omega|assumption) only [sp89,go_sem,↓reduceIte]
 refine goK_pure (Pure.low (readTC s hl)) ?_
 cases hR:readT s with
 | error n =>
  have hn:¬ (n=0):=readT_err hR
  simp (disch:=first|omega|assumption) only [readA,go_sem,↓reduceIte]
  refine hQ1 _ _ _ (pgo_awp fun KP2 Q2 hKP2 hQ2=>?_)
  simp (disch:=first|omega|assumption) only [sp89,hn,go_sem,↓reduceIte]
  refine hQ2 _ _ _ ?_
  show finQ sp89.res (RunQ Out) .ret _ _
  simp only [finQ]
  rw [res_run (b4:=b4) (e:=n) rfl (upd_same ..)]
  exact ⟨Hc,(Low.refl _).upd hb4,n,rfl,h1 n hR⟩
 | ok L =>
  simp (disch:=first|omega|assumption) only [readA,go_sem,↓reduceIte]
  refine hQ1 _ _ _ (pgo_awp fun KP2 Q2 hKP2 hQ2=>?_)
  simp (disch:=first|omega|assumption) only [sp89,go_sem,↓reduceIte]
  refine hQ2 _ _ _ (pgo_items fun Q3 hQ3=>?_)
  simp (disch:=first|omega|assumption) only [sp89,go_sem,↓reduceIte]
  refine hQ3 _ _ ⟨159,_,rfl,by decide +kernel,pgo_awp fun KP4 Q4 hKP4 hQ4=>?_⟩
  have fin:∀ (ρ1:Env) (H H2:Heap) (e:Int),ρ1 4=.ptr b4 0→H b4=some (.cells [.int .i64 e])→Low H2 H→Out e H2→finS sp89 (RunQ Out) ρ1 H:=by
   intro ρ1 H H2 e r4 g4 hlow ho
   refine ⟨_,res_run (b4:=b4) (e:=e) ?_ g4,H2,hlow,e,rfl,ho⟩
   rw [keep_get,if_pos (by decide)];exact r4
  have hpan:∀ (n:Int) (H0 H':Heap) (c4:List AV),Low H0 H'→H0 b4=some (.cells c4)→c4.length=1→(∀ H,Out n H)→KP4 (stopP n) H':=by
   intro n H0 H' c4 hlow g4 l4 ho
   exact hKP4 _ _ ⟨H0,hlow,recP1 g4 l4 fun b x hb=>fin _ _ Heap.emp n rfl (upd_same ..) (Low.of_sub (sub_emp _)) (ho _)⟩
  simp (disch:=first|omega|assumption) only [sp89,go_sem,↓reduceIte]
  refine goA_intro fun br hbr=>?_
  have hbr4:br≠b4:=fun e=>by subst e;rw [upd_same] at hbr;cases hbr
  have hbrH:Hc br=none:=by rw [upd_ne hbr4] at hbr;exact hbr
  simp (disch:=first|omega|assumption) only [hcal,go_sem,↓reduceIte]
  obtain ⟨x4,hx4⟩:∃ x4:AObj,x4=.cells [.int .i64 0]:=⟨_,rfl⟩
  have hun:(Hc.upd b4 (.cells [.int .i64 0])).upd br (.cells [.sl .no 2 (cKs L),.int .i64 0,.int .i64 0])=Heap.union (Hc.upd br (prc L [] 0)) (Heap.one b4 x4):=by
   funext c
   by_cases e1:c=br
   ·subst e1;rw [upd_same];simp [Heap.union,Heap.upd,prc]
   ·rw [upd_ne e1]
    by_cases e2:c=b4
    ·subst e2;rw [upd_same];simp [Heap.union,Heap.upd,Heap.one,e1,hb4,hx4]
    ·rw [upd_ne e2];simp [Heap.union,Heap.upd,Heap.one,e1,e2]
  have hd:Heap.Disj (Hc.upd br (prc L [] 0)) (Heap.one b4 x4):=fun c=>by
   by_cases e:c=b4
   ·subst e;exact .inl (by rw [upd_ne (Ne.symm hbr4)];exact hb4)
   ·exact .inr (by simp [Heap.one,e])
  have hc:=ACalls.frame hd (h2 L hR br hbrH)
  rw [hun]
  refine goK_calls hc fun e H' ⟨A',hq,hd',hH'⟩=>?_
  subst hH'
  have hB4:Heap.one b4 x4 b4=some (.cells [.int .i64 0]):=by simp [Heap.one,hx4]
  have hA4:A' b4=none:=by
   rcases hd' b4 with h|h
   ·exact h
   ·rw [hB4] at h;cases h
  have g4:Heap.union A' (Heap.one b4 x4) b4=some (.cells [.int .i64 0]):=by simp [Heap.union,hA4,hB4]
  cases e with
  | pan v =>
   obtain ⟨n,hv,ho⟩:=hq
   subst hv
   exact hpan n (Heap.one b4 x4) _ _ (Low.of_sub fun c x hc=>by
    rcases hd' c with h|h
    ·simp [Heap.union,h,hc]
    ·rw [hc] at h;cases h) hB4 rfl ho
  | ret v =>
   obtain ⟨p,t,dp,hp,hr,ho⟩:=hq
   have gr:Heap.union A' (Heap.one b4 x4) br=some (prc L p dp):=by simp [Heap.union,hr]
   have lowA:∀ b x (Hx:Heap),(∀ c y,A' c=some y→Hx c=some y)→Hx b=none→Low A' ((Hx.upd b x).upd b4 (.cells [.int .i64 0]))∧Low A' ((Hx.upd b x).upd b4 (.cells [.int .i64 2])):=fun b x Hx hs hb=>by
    have sub:∀ z,∀ c y,A' c=some y→((Hx.upd b x).upd b4 z) c=some y:=fun z c y hcy=>by
     rw [upd_ne (fun e=>by rw [e,hA4] at hcy;cases hcy),upd_ne (fun e=>by rw [← e,hs _ _ hcy] at hb;cases hb)]
     exact hs _ _ hcy
    exact ⟨Low.of_sub (sub _),Low.of_sub (sub _)⟩
   have subU:∀ c y,A' c=some y→Heap.union A' (Heap.one b4 x4) c=some y:=fun c y hc=>by simp [Heap.union,hc]
   show goR _ _ _ _ _ _ _ _ _
   simp (disch:=first|omega|assumption) only [go_sem,↓reduceIte]
   refine goK_ret (moreP hp gr) fun v5 H5 ⟨hv5,hH5⟩=>?_
   subst hv5;subst hH5
   cases t with
   | nil =>
    simp only [if_true] at ho
    simp (disch:=first|omega|assumption) only [g4,go_sem,↓reduceIte]
    refine hQ4 _ _ _ ⟨_,Low.refl _,recP0 fun b y hb=>?_⟩
    have n4:b4≠b:=fun e=>by subst e;rw [upd_same] at hb;cases hb
    refine fin _ _ A' 0 rfl (by rw [upd_ne n4,upd_same]) ?_ ho
    refine Low.of_sub fun c z hcz=>?_
    have hc4:c≠b4:=fun e=>by rw [e,hA4] at hcz;cases hcz
    have hcb:c≠b:=fun e=>by rw [← e,upd_ne hc4,subU _ _ hcz] at hb;cases hb
    rw [upd_ne hcb,upd_ne hc4];exact subU _ _ hcz
   | cons a u =>
    rw [if_neg (by simp)] at ho
    simp (disch:=first|omega|assumption) only [go_sem,↓reduceIte]
    exact goK_both (failPK _ br 2) (fun _ _ h=>h.elim) fun v H6 ⟨h6,h7⟩=>by
     subst h6;subst h7
     exact hKP4 _ _ ⟨_,Low.refl _,recP1 g4 rfl fun b y hb=>fin _ _ A' 2 rfl (upd_same ..) (lowA b y _ subU hb).2 ho⟩
end Go.Proofs.YticbbfbpeimkbaaGreatDoor
namespace Go.Proofs.YticbbfbpeimkbaaGreatDoor
open Go.Ab
def PErr {α:Type} (f:TS→PR α):Prop:=∀ t n,f t=.error n→n≠0
theorem pb_err {α β:Type} {x:PR α} {f:α→TS→PR β} {e:Int} (h:pb x f=.error e) (hx:∀ n,x=.error n→n≠0) (hf:∀ a t,x=.ok (a,t)→f a t=.error e→e≠0):e≠0:=by
 rcases x with n|⟨a,t⟩
 ·cases h;exact hx _ rfl
 ·exact hf a t rfl h
theorem mustP_ne (m:List UInt8):PErr (mustP m):=fun t n h=>by
 unfold mustP at h
 split at h
 ·cases h
 ·cases h;decide
theorem nameP_ne:PErr nameP:=fun t n h=>by
 unfold nameP at h
 split at h
 ·cases h
 ·cases h;decide
theorem bangP_ne (ty:TyD):PErr (bangP ty):=fun t n h=>by
 unfold bangP at h
 split at h<;>cases h
theorem manyP_ne {α:Type} {m:List UInt8} {f:TS→PR α} (hf:PErr f) (hl:∀ t a t',f t=.ok (a,t')→t'.length<t.length):∀ (n:Nat) (l:List α) (t:TS) (e:Int),t.length<n→manyP m f n l t=.error e→e≠0
 | 0,_,_,_,h,_=>absurd h (Nat.not_lt_zero _)
 | n+1,l,t,e,hn,h=>by
  rw [manyP] at h
  split at h
  ·cases h
  ·exact pb_err h (fun k hk=>hf _ _ hk) fun a t' ha h'=>manyP_ne hf hl n _ _ _ (by have:=hl _ _ _ ha;omega) h'
theorem many1P_ne {α:Type} {m:List UInt8} {f:TS→PR α} (hf:PErr f) (hl:∀ t a t',f t=.ok (a,t')→t'.length<t.length):PErr (many1P m f):=fun t n h =>
 pb_err h (fun k hk=>hf _ _ hk) fun a t' ha h'=>manyP_ne hf hl _ _ _ _ (Nat.lt_succ_self _) h'
theorem whileP_ne {α:Type} {m:List UInt8} {f:TS→PR α} (hf:PErr f) (hl:∀ t a t',f t=.ok (a,t')→t'.length<t.length):∀ (n:Nat) (l:List α) (t:TS) (e:Int),t.length<n→whileP m f n l t=.error e→e≠0
 | 0,_,_,_,h,_=>absurd h (Nat.not_lt_zero _)
 | n+1,l,t,e,hn,h=>by
  rw [whileP] at h
  split at h
  ·rename_i hp
   have hlt:=tail_lt hp
   exact pb_err h (fun k hk=>hf _ _ hk) fun a t' ha h'=>whileP_ne hf hl n _ _ _ (by have:=hl _ _ _ ha;omega) h'
  ·cases h
theorem typP_er:∀ k,PErr (typP k)
 | 0=>fun t n h=>by
  rw [typP_eq,typB.eq_def] at h
  split at h
  ·cases h;decide
  ·exact pb_err h (fun k hk=>nameP_ne _ _ hk) fun s t1 _ h'=>bangP_ne _ _ _ h'
 | k+1=>fun t n h=>by
  rw [typP_eq,typB.eq_def] at h
  split at h
  ·exact pb_err h (fun e he=>typP_er k _ _ he) fun ty t1 _ h'=>pb_err h' (fun e he=>mustP_ne _ _ _ he) fun _ t2 _ h''=>bangP_ne _ _ _ h''
  ·exact pb_err h (fun k hk=>nameP_ne _ _ hk) fun s t1 _ h'=>bangP_ne _ _ _ h'
theorem memberP_ne {f:TS→PR Val} (hf:PErr f):PErr (memberP f):=fun t n h =>
 pb_err h (fun e he=>nameP_ne _ _ he) fun s t1 _ h'=>pb_err h' (fun e he=>mustP_ne _ _ _ he) fun _ t2 _ h2=>pb_err h2 (fun e he=>hf _ _ he) fun x t3 _ h3=>by cases h3
theorem valB_er {fixed:Bool} {sub:Option (TS→PR Val)} (hs:∀ f,sub=some f→PErr f∧GP bV wfV 1 f):PErr (valB fixed sub):=fun t n h=>by
 rw [valB.eq_def] at h
 split at h
 ·cases h
 split at h
 ·cases h
 split at h
 ·cases h
 split at h
 ·cases sub with
  | none=>cases h;decide
  | some f =>
   obtain ⟨h1,h2⟩:=hs f rfl
   exact pb_err h (fun e he=>manyP_ne h1 (h2.lt (by decide)) _ _ _ _ (Nat.lt_succ_self _) he) fun l t' _ h'=>by cases h'
 split at h
 ·cases sub with
  | none=>cases h;decide
  | some f =>
   obtain ⟨h1,h2⟩:=hs f rfl
   exact pb_err h (fun e he=>manyP_ne (memberP_ne h1) ((memberP_fit h2).lt (by decide)) _ _ _ _ (Nat.lt_succ_self _) he) fun l t' _ h'=>by cases h'
 split at h
 ·cases h;decide
 ·exact pb_err h (fun e he=>mustP_ne _ _ _ he) fun _ t1 _ h1=>pb_err h1 (fun e he=>nameP_ne _ _ he) fun s t2 _ h2=>by cases h2
theorem valP_er (fixed:Bool):∀ k,PErr (valP fixed k)
 | 0=>fun t n h=>valB_er (sub:=none) (fun f hf=>by cases hf) t n (by rw [valP_eq] at h;exact h)
 | k+1=>fun t n h=>valB_er (sub:=some (valP fixed k)) (fun f hf=>by cases hf;exact ⟨valP_er fixed k,valP_fit fixed k⟩) t n (by rw [valP_eq] at h;exact h)
theorem argsP_ne (fixed:Bool) (k:Nat):PErr (argsP fixed k):=fun t n h=>by
 unfold argsP at h
 split at h
 ·exact many1P_ne (memberP_ne (valP_er fixed k)) ((memberP_fit (valP_fit fixed k)).lt (by decide)) _ _ h
 ·cases h
theorem dirP_ne (fixed:Bool) (k:Nat):PErr (dirP fixed k):=fun t n h =>
 pb_err h (fun e he=>nameP_ne _ _ he) fun s t1 _ h1=>pb_err h1 (fun e he=>argsP_ne _ _ _ _ he) fun a t2 _ h2=>by cases h2
theorem dirsP_ne (fixed:Bool) (k:Nat):PErr (dirsP fixed k):=fun t n h =>
 whileP_ne (dirP_ne fixed k) ((dirP_fit fixed k).lt (by decide)) _ _ _ _ (Nat.lt_succ_self _) h
theorem spreadP_ne {sels:TS→PR (List SelD)} (hs:PErr sels) (k:Nat):PErr (spreadP sels k):=fun t n h=>by
 unfold spreadP at h
 split at h
 ·exact pb_err h (fun e he=>nameP_ne _ _ he) fun s t1 _ h1=>pb_err h1 (fun e he=>dirsP_ne _ _ _ _ he) fun a t2 _ h2=>by cases h2
 ·refine pb_err h (fun e he=>?_) fun o t1 _ h1=>pb_err h1 (fun e he=>dirsP_ne _ _ _ _ he) fun a t2 _ h2=>pb_err h2 (fun e he=>hs _ _ he) fun l t3 _ h3=>by cases h3
  split at he
  ·exact nameP_ne _ _ he
  ·cases he
theorem selP_ne {sels:TS→PR (List SelD)} (hs:PErr sels) (k:Nat):PErr (selP sels k):=fun t n h=>by
 unfold selP at h
 split at h
 ·exact spreadP_ne hs k _ _ h
 ·refine pb_err h (fun e he=>nameP_ne _ _ he) fun s t1 _ h1=>pb_err h1 (fun e he=>?_) fun an t2 _ h2=>pb_err h2 (fun e he=>argsP_ne _ _ _ _ he) fun a t3 _ h3=>pb_err h3 (fun e he=>dirsP_ne _ _ _ _ he) fun d t4 _ h4=>pb_err h4 (fun e he=>?_) fun l t5 _ h5=>by cases h5
  ·split at he
   ·exact pb_err he (fun e he=>nameP_ne _ _ he) fun s t2 _ h2=>by cases h2
   ·cases he
  ·split at he
   ·exact hs _ _ he
   ·cases he
theorem selsP_ne:∀ k,PErr (selsP k)
 | 0=>fun t n h=>by
  rw [selsP] at h
  split at h<;>(cases h;decide)
 | k+1=>fun t n h=>by
  rw [selsP] at h
  split at h
  ·exact many1P_ne (selP_ne (selsP_ne k) k) ((selP_fit (selsP_fit k)).lt (by decide)) _ _ h
  ·cases h;decide
theorem varP_ne:PErr varP:=fun t n h =>
 pb_err h (fun e he=>mustP_ne _ _ _ he) fun _ t1 _ h1=>pb_err h1 (fun e he=>nameP_ne _ _ he) fun s t2 _ h2=>pb_err h2 (fun e he=>mustP_ne _ _ _ he) fun _ t3 _ h3=>pb_err h3 (fun e he=>typP_er 4 _ _ he) fun ty t4 _ h4=>by
  split at h4
  ·exact pb_err h4 (fun e he=>valP_er true 16 _ _ he) fun v t5 _ h5=>by cases h5
  ·cases h4
theorem opP_ne (kind:Int):PErr (opP kind):=fun t n h=>by
 refine pb_err h (fun e he=>?_) fun s t1 _ h1=>pb_err h1 (fun e he=>?_) fun vs t2 _ h2=>pb_err h2 (fun e he=>dirsP_ne _ _ _ _ he) fun d t3 _ h3=>pb_err h3 (fun e he=>selsP_ne 16 _ _ he) fun l t4 _ h4=>by cases h4
 ·split at he
  ·exact nameP_ne _ _ he
  ·cases he
 ·split at he
  ·exact many1P_ne varP_ne (varP_fit.lt (by decide)) _ _ he
  ·cases he
theorem fragP_ne:PErr fragP:=fun t n h=>by
 refine pb_err h (fun e he=>?_) fun s t1 _ h1=>pb_err h1 (fun e he=>?_) fun _ t2 _ h2=>pb_err h2 (fun e he=>nameP_ne _ _ he) fun o t3 _ h3=>pb_err h3 (fun e he=>dirsP_ne _ _ _ _ he) fun d t4 _ h4=>pb_err h4 (fun e he=>selsP_ne 16 _ _ he) fun l t5 _ h5=>by cases h5
 ·split at he
  ·cases he;decide
  ·exact nameP_ne _ _ he
 ·split at he
  ·cases he
  ·cases he;decide
theorem defP_ne (d:DocD):PErr (defP d):=fun t n h=>by
 unfold defP at h
 split at h
 ·exact pb_err h (fun e he=>selsP_ne 16 _ _ he) fun l t1 _ h1=>by cases h1
 split at h
 ·exact pb_err h (fun e he=>opP_ne _ _ _ he) fun l t1 _ h1=>by cases h1
 split at h
 ·exact pb_err h (fun e he=>opP_ne _ _ _ he) fun l t1 _ h1=>by cases h1
 split at h
 ·exact pb_err h (fun e he=>fragP_ne _ _ he) fun l t1 _ h1=>by cases h1
 ·cases h;decide
theorem defP_len {d d' : DocD} {t t' : TS} (h : defP d t = .ok (d', t')) : t'.length < t.length := by
  unfold defP at h
  split at h
  · obtain ⟨l, t1, h1, h2⟩ := pb_inv h
    cases h2; exact (selsP_fit 16).lt (by decide) _ _ _ h1
  split at h
  · rename_i hq
    obtain ⟨l, t1, h1, h2⟩ := pb_inv h
    have : t.tail.length < t.length := by conv => rhs; rw [hd_tail (isW_ne hq)]
                                          simp
    have h3 := (opP_fit 0).lt (by decide) _ _ _ h1
    cases h2; omega
  split at h
  · rename_i hq
    obtain ⟨l, t1, h1, h2⟩ := pb_inv h
    have : t.tail.length < t.length := by conv => rhs; rw [hd_tail (isW_ne hq)]
                                          simp
    have h3 := (opP_fit 1).lt (by decide) _ _ _ h1
    cases h2; omega
  split at h
  · rename_i hq
    obtain ⟨l, t1, h1, h2⟩ := pb_inv h
    have : t.tail.length < t.length := by conv => rhs; rw [hd_tail (isW_ne hq)]
                                          simp
    have h3 := fragP_fit.lt (by decide) _ _ _ h1
    cases h2; omega
  · cases h
theorem defsP_ne:∀ (n:Nat) (d:DocD) (t:TS) (e:Int),t.length<n→defsP n d t=.error e→e≠0
 | 0,_,_,_,h,_=>absurd h (Nat.not_lt_zero _)
 | n+1,d,t,e,hn,h=>by
  rw [defsP] at h
  split at h
  ·cases h
  ·exact pb_err h (fun k hk=>defP_ne _ _ _ hk) fun d' t' ha h'=>defsP_ne n _ _ _ (by have:=defP_len ha;omega) h'
theorem docP_er:PErr docP:=fun t n h =>
 pb_err h (fun e he=>defP_ne _ _ _ he) fun d t1 ha h1=>defsP_ne _ _ _ _ (by have:=defP_len ha;omega) h1
end Go.Proofs.YticbbfbpeimkbaaGreatDoor
namespace Go.Proofs.YticbbfbpeimkbaaGreatDoor
open Go.Ab
theorem wL_dw (p:List UInt8→Bool):∀ l:List (List UInt8),wL (l.dropWhile p)≤wL l
 | []=>Nat.le_refl _
 | x :: r=>by
  rw [List.dropWhile_cons]
  split
  ·have:=wL_dw p r;rw [wL_cons];omega
  ·exact Nat.le_refl _
theorem wL_rev (l:List (List UInt8)):wL l.reverse=wL l:=by
 induction l with
 | nil=>rfl
 | cons x r ih=>rw [List.reverse_cons,wL_app,ih,wL_cons,wL_cons];simp [wL];omega
theorem blockM_len (raw:List UInt8):(blockM raw).length≤raw.length+1:=by
 have h1:=lines_sum raw []
 have h2:wL (dropM (linesM raw))≤wL (linesM raw):=by
  cases hx:linesM raw with
  | nil=>exact Nat.le_refl _
  | cons x r =>
   simp only [dropM]
   rw [wL_cons,wL_cons]
   have:=wL_drop (indM (x :: r)).toNat r
   omega
 unfold blockM trimR
 have h3:=join_wL ((((dropM (linesM raw)).dropWhile bareL).reverse.dropWhile bareL).reverse)
 rw [wL_rev] at h3
 have h4:=wL_dw bareL ((dropM (linesM raw)).dropWhile bareL).reverse
 rw [wL_rev] at h4
 have h5:=wL_dw bareL (dropM (linesM raw))
 have h6:wL (linesM raw)≤raw.length+1:=by simpa [wL,linesM] using h1
 omega
theorem oneT_w {s t:List UInt8} {x:Tok} (h:oneT s=some (x,t)):x.s.length+t.length≤s.length+1:=by
 cases s with
 | nil=>cases h
 | cons c r =>
  rw [oneT_cons] at h
  split at h
  ·cases hr:rawM (r.length+1) [] (r.drop 2) with
   | none=>rw [hr] at h;cases h
   | some y =>
    rw [hr] at h
    simp only [Option.map_some,Option.some.injEq,Prod.mk.injEq] at h
    obtain ⟨rfl,rfl⟩:=h
    have h1:=(rawM_len _ _ _ _ _ (show rawM _ _ _=some (y.1,y.2) from hr)).1
    have h2:=blockM_len y.1
    simp at h1 ⊢
    omega
  split at h
  ·cases hr:quoM lineB r with
   | none=>rw [hr] at h;cases h
   | some y =>
    rw [hr] at h
    simp only [Option.map_some,Option.some.injEq,Prod.mk.injEq] at h
    obtain ⟨rfl,rfl⟩:=h
    have h1:=quoM_w (show quoM lineB r=some (y.1,y.2) from hr)
    simp only [List.length_cons]
    omega
  split at h
  ·rename_i hp
   have hl:=pre_len _ _ hp
   have hd3:dotsT.length=3:=rfl
   rw [hd3] at hl
   cases h;simp [hd3] at hl ⊢;omega
  split at h
  ·cases h;simp;omega
  split at h
  ·cases h;simp;omega
  split at h
  ·cases h
  split at h
  ·cases h
  ·cases h;simp;omega
theorem readG_w:∀ (n:Nat) (l:List Tok) (s:List UInt8) (l':List Tok),readG n l s=.ok l'→wT l'≤wT l+6*s.length
 | 0,_,_,_,h=>by cases h
 | n+1,l,s,l',h=>by
  simp only [readG] at h
  split at h
  ·cases h;omega
  split at h
  ·have:=readG_w n _ _ _ h
   simp at this;omega
  ·cases ho:oneT s with
   | none=>rw [ho] at h;cases h
   | some x =>
    rw [ho] at h
    have h1:=oneT_lt (show oneT s=some (x.1,x.2) from ho)
    have h2:=oneT_w (show oneT s=some (x.1,x.2) from ho)
    have h3:=readG_w n _ _ _ h
    have h4:wT (l++[x.1])=wT l+wK x.1:=by simp [wT]
    rw [h4,wK] at h3
    omega
theorem readT_w {s:List UInt8} {L:List Tok} (h:readT s=.ok L):wT L≤LimP:=by
 obtain ⟨h1,_,h3⟩:=readT_ok h
 have h4:=readG_w _ _ _ _ h3
 have e:wT ([]:List Tok)=0:=rfl
 rw [e] at h4
 simp only [LimP];omega
def docR (s:List UInt8):DocD × Int:=match readT s with
 | .error n=>(⟨[],[]⟩,n)
 | .ok L=>match docP L with
  | .error n=>(⟨[],[]⟩,n)
  | .ok (d,_)=>(d,0)
theorem docP_ne {s:List UInt8} {L:List Tok} {n:Int} (h:readT s=.ok L) (he:docP L=.error n):n≠0:=docP_er _ _ he
theorem un_one {b4 b6:Nat} {x y:AObj} (h:b6≠b4):(Heap.emp.upd b4 x).upd b6 y=Heap.union (Heap.one b6 y) (Heap.one b4 x):=by
 funext c
 by_cases e1:c=b6
 ·subst e1;simp [Heap.union,Heap.upd,Heap.one]
 ·by_cases e2:c=b4
  ·subst e2;simp [Heap.union,Heap.upd,Heap.one,e1]
  ·simp [Heap.union,Heap.upd,Heap.one,e1,e2,Heap.emp]
theorem un_disj {b4 b6:Nat} {x y:AObj} (h:b6≠b4):Heap.Disj (Heap.one b6 y) (Heap.one b4 x):=fun c=>by
 by_cases e:c=b4
 ·subst e;exact .inl (by simp [Heap.one,Ne.symm h])
 ·exact .inr (by simp [Heap.one,e])
theorem un_b4 {A:Heap} {b4:Nat} {x:AObj} (h:Heap.Disj A (Heap.one b4 x)):Heap.union A (Heap.one b4 x) b4=some x:=by
 have hB:Heap.one b4 x b4=some x:=by simp [Heap.one]
 rcases h b4 with h|h
 ·simp [Heap.union,h,hB]
 ·rw [hB] at h;cases h
theorem un_l {A B:Heap} {b:Nat} {x:AObj} (h:A b=some x):Heap.union A B b=some x:=by simp [Heap.union,h]
end Go.Proofs.YticbbfbpeimkbaaGreatDoor
namespace Go.Proofs.YticbbfbpeimkbaaGreatDoor
open Go.Ab
abbrev zDoc:List AV:=[.sl .nil 5 [],.sl .nil 4 []]
def DocO (s:List UInt8) (b:Nat) (n:Int) (H:Heap):Prop:=(n≠0∧docR s=(⟨[],[]⟩,n))∨(n=0∧∃ d o1 o2,docR s=(d,0)∧H b=some (.cells [.sl o1 5 (cOs d.ops),.sl o2 4 (cFs d.frags)]))
theorem docCloC {s:List UInt8} {L:List Tok} (hR:readT s=.ok L) {Hc:Heap} {b6 r:Nat} (h6:Hc b6=some (.cells zDoc)) (hr:Hc r=none) :
  ACalls Tryz.prog 90 [.ptr r 0,.ptr b6 0] (Hc.upd r (prc L [] 0)) (fun e H'=>match e with
   | .ret _=>∃ p t dp,p++t=L∧H' r=some (prc L p dp)∧DocO s b6 (if t=[] then 0 else 2) H'
   | .pan v=>∃ n,v=stopP n∧∀ H,DocO s b6 n H):=by
 refine ACalls.goO (R:=fun _ H'=>∃ p t dp,p++t=L∧H' r=some (prc L p dp)∧DocO s b6 (if t=[] then 0 else 2) H') (RP:=fun v _=>∃ n,v=stopP n∧∀ H,DocO s b6 n H) ir90 ck90 (Nat.le_refl _) fun KP Q hQ hP=>?_
 have n6:b6≠r:=fun e=>by subst e;rw [hr] at h6;cases h6
 have hw:=readT_w hR
 have pan:∀ (v:AV) (H1:Heap) (n:Int),v=stopP n→docP L=.error n→KP v H1:=fun v H1 n h1 h2=>hP v H1 H1 (Low.refl _) ⟨n,h1,fun H=>.inl ⟨docP_ne hR h2,by unfold docR;rw [hR];simp only [h2]⟩⟩
 have D0:DI L r b6 (Hc.upd r (prc L [] 0)) L ⟨[],[]⟩ .nil .nil:=⟨⟨[],rfl,upd_same ..⟩,by rw [upd_ne n6];exact h6,rfl,rfl,nofun,n6⟩
 simp (disch:=first|omega|assumption) only [ir90,go_sem,↓reduceIte]
 refine goK_calls (defPC D0 hw (Nat.zero_le _)) fun e H1 hq=>?_
 cases e with
 | pan v =>
  obtain ⟨n,hv,he⟩:=hq
  exact pan v H1 n hv (by unfold docP;rw [he];rfl)
 | ret v =>
  obtain ⟨d1,t1,o1,o2,e1,hv,D1,hl1,hlt1⟩:=hq
  subst hv
  obtain ⟨R,hRR⟩:∃ R,defsP (L.length+1-0) d1 t1=R:=⟨_,rfl⟩
  have hx:docP L=defsP (t1.length+1) d1 t1:=by unfold docP;rw [e1];rfl
  obtain ⟨R,hRR⟩:∃ R,defsP (t1.length+1) d1 t1=R:=⟨_,rfl⟩
  rw [hRR] at hx
  show goR _ _ _ _ _ _ _ _ _
  simp (disch:=first|omega|assumption) only [go_sem,↓reduceIte]
  refine goL_st (fun x:DocD × TS × Own × Own=>[]) (fun x H'=>DI L r b6 H' x.2.1 x.1 x.2.2.1 x.2.2.2∧(∃ m,x.2.1.length<m∧defsP m x.1 x.2.1=R)∧x.1.ops.length+x.1.frags.length+x.2.1.length≤L.length) (fun x=>x.2.1.length) (d1,t1,o1,o2) (by simp (disch:=first|omega|assumption) only [go_sem,↓reduceIte]) ⟨D1,⟨_,Nat.lt_succ_self _,hRR⟩,by simpa using hl1⟩ ?_
  rintro ⟨d,t,p1,p2⟩ H2 J ⟨D2,⟨m,hm,hR2⟩,hlen⟩ hJ
  simp only at D2 hm hR2 hlen
  obtain ⟨m,rfl⟩:∃ j,m=j+1:=⟨m-1,by omega⟩
  obtain ⟨q,hq,hr2⟩:=D2.rd
  rw [defsP] at hR2
  simp (disch:=first|omega|assumption) only [go_sem,↓reduceIte]
  refine goK_ret (moreP hq hr2) fun v3 H3 ⟨hv3,hH3⟩=>?_
  subst hv3;subst hH3
  by_cases ht:t=[]
  ·rw [if_pos ht] at hR2
   have hd:decide (t≠[])=false:=by simp [ht]
   rw [hd]
   simp (disch:=first|omega|assumption) only [go_sem,↓reduceIte]
   refine hQ _ _ _ _ [] nofun rfl (Low.refl _) ⟨q,t,16-16,hq,hr2,?_⟩
   rw [if_pos ht]
   exact .inr ⟨rfl,d,p1,p2,by unfold docR;rw [hR];simp only [hx,← hR2],D2.box⟩
  ·rw [if_neg ht] at hR2
   have hd:decide (t≠[])=true:=by simp [ht]
   rw [hd]
   simp (disch:=first|omega|assumption) only [go_sem,↓reduceIte]
   refine goK_calls (defPC D2 hw (by omega)) fun e H4 hq4=>?_
   cases e with
   | pan v =>
    obtain ⟨n,hv,he⟩:=hq4
    exact pan v H4 n hv (by rw [hx,← hR2,he];rfl)
   | ret v =>
    obtain ⟨d4,t4,o3,o4,e4,hv,D4,hl4,hlt4⟩:=hq4
    subst hv
    rw [e4,pb_ok] at hR2
    show goR _ _ _ _ _ _ _ _ _
    simp (disch:=first|omega|assumption) only [go_sem,↓reduceIte]
    exact goJ (hJ (d4,t4,o3,o4) _ (by simp only;omega) ⟨D4,⟨m,by simp only;omega,hR2⟩,by simp only;omega⟩) (by simp (disch:=first|omega|assumption) only [go_sem,↓reduceIte])
theorem parseReadC (s:List UInt8) (hl:s.length≤LimQ):Pure Tryz.prog 40 [.str s] (.tup [.agg (cDoc (docR s).1),.int .i64 (docR s).2]):=by
 refine Pure.go ir40 ck40 (Nat.le_refl _) fun KP Q hQ=>?_
 simp (disch:=first|omega|assumption) only [ir40,go_sem,↓reduceIte]
 refine goA_intro fun b4 hb4=>?_
 simp (disch:=first|omega|assumption) only [go_sem,↓reduceIte]
 refine goA_intro fun b6 hb6=>?_
 have h64:b6≠b4:=fun e=>by subst e;rw [upd_same] at hb6;cases hb6
 have h6c:(Heap.one b6 (.cells zDoc)) b6=some (.cells zDoc):=by simp [Heap.one]
 have hc:=ACalls.frame (un_disj (x:=.cells zDoc) h64) (runPC (s:=s) (Hc:=Heap.one b6 (.cells zDoc)) (clo:=90) (caps:=[.ptr b6 0]) hl (by decide +kernel) (DocO s b6)
  (fun n h=>.inl ⟨readT_err h,by unfold docR;rw [h]⟩) (fun L hR r hr=>docCloC hR h6c hr))
 rw [← un_one h64] at hc
 simp (disch:=first|omega|assumption) only [go_sem,↓reduceIte]
 refine goK_calls hc fun e H' ⟨A',hq,hd',hH'⟩=>?_
 subst hH'
 cases e with
 | pan v=>exact hq.elim
 | ret v =>
  obtain ⟨n,hv,ho⟩:=hq
  subst hv
  have g4:=un_b4 hd'
  simp only [zDoc] at g4
  show goR _ _ _ _ _ _ _ _ _
  rcases ho with ⟨hn,he⟩|⟨hn,x,o1,o2,he,h6⟩
  ·rw [he] at hQ
   simp (disch:=first|omega|assumption) only [hn,g4,go_sem,↓reduceIte]
   exact hQ _ _ _ [.agg [.sl .nil 5 [],.sl .nil 4 []],.int .i64 n] nofun (by simp (disch:=first|omega|assumption) only [ir40,resvs,resv,go_sem,↓reduceIte]) (by simp [tupOf,AV.strip,AV.strip1,cDoc,cOs,cFs])
  ·subst hn
   rw [he] at hQ
   have g6:=un_l (B:=Heap.one b4 (.cells zDoc)) h6
   simp (disch:=first|omega|assumption) only [g4,g6,go_sem,↓reduceIte]
   exact hQ _ _ _ [.agg [.sl o1 5 (cOs x.ops),.sl o2 4 (cFs x.frags)],.int .i64 0] nofun (by simp (disch:=first|omega|assumption) only [ir40,resvs,resv,go_sem,↓reduceIte]) (by simp [tupOf,AV.strip,AV.strip1,cDoc])
end Go.Proofs.YticbbfbpeimkbaaGreatDoor

namespace Go.Proofs.YticbbfbpeimkbaaGreatDoor
open Go.Ab
theorem sameDirsR (a b:List DirD) (ha:bDs a≤Lim):Pure Tryz.prog 153 [.sl .no 2 (cDs a),.sl .no 2 (cDs b)] (.bool (eqd a b)):=by
 refine Pure.go ir153 ck153 (Nat.le_refl _) fun KP Q hQ=>?_
 have h1:=cDs_len a
 have h2:=cDs_len b
 have hla:=bDs_len a
 simp only [Lim] at ha
 by_cases hl:a.length=b.length
 case neg =>
  have hl':¬ ((a.length:Int)=b.length):=by omega
  have hne:a≠b:=fun e=>hl (by rw [e])
  simp (disch:=first|omega|assumption) only [ir153,h1,h2,hl',go_sem,↓reduceIte]
  exact hQ _ _ _ _ nofun rfl (by simp [tupOf,envOf,AV.strip,AV.strip1,eqd_false hne])
 have hl':((a.length:Int)=b.length)=True:=eq_true (by omega)
 simp (disch:=first|omega|assumption) only [ir153,h1,h2,hl',go_sem,↓reduceIte]
 refine goL_range a 5 (fun _:Unit=>[]) (fun done rest n H=>b.take done.length=done) () (by simp (disch:=first|omega|assumption) only [go_sem,↓reduceIte]) rfl ?_ ?_
 ·rintro n H J hp hlt
  simp (disch:=first|omega|assumption) only [h1,hlt,go_sem,↓reduceIte]
  exact hQ _ _ _ _ nofun rfl (by simp [tupOf,envOf,AV.strip,AV.strip1,eqd_true (two_end hl hp)])
 ·rintro done x rest n H J hd hlt _ hp hJ
  obtain ⟨y,r,hb⟩:=two_mid hd hl hp
  have g1:=cDs_get hd
  have g2:=cDs_get hb
  have hlt2:(done.length:Int)<b.length:=by omega
  have hbm:=bDs_mid done x rest
  rw [← hd] at hbm
  have hst:=two_step hb
  have hne:x≠y→a≠b:=two_ne hd hb
  obtain ⟨s,v⟩:=x
  obtain ⟨t,u⟩:=y
  simp only [bD] at hbm
  by_cases hs:s=t
  case neg =>
   have hne2:=hne (by simp [hs])
   simp (disch:=first|omega|assumption) only [h1,h2,hlt,hlt2,g1,g2,hs,cD,go_sem,↓reduceIte]
   exact hQ _ _ _ _ nofun rfl (by simp [tupOf,envOf,AV.strip,AV.strip1,eqd_false hne2])
  simp (disch:=first|omega|assumption) only [h1,h2,hlt,hlt2,g1,g2,hs,cD,go_sem,↓reduceIte]
  refine goK_pure (membersE v u (by simp only [Lim];omega)) ?_
  by_cases hv:v=u
  ·simp (disch:=first|omega|assumption) only [eqd_true hv,go_sem,↓reduceIte]
   exact goJ (hJ () _ (by rw [hs,hv];exact hst)) (by simp (disch:=first|omega|assumption) only [wrap64,go_sem,↓reduceIte])
  ·have:=hne (by simp [hv])
   simp (disch:=first|omega|assumption) only [eqd_false hv,go_sem,↓reduceIte]
   exact hQ _ _ _ _ nofun rfl (by simp [tupOf,envOf,AV.strip,AV.strip1,eqd_false this])
theorem sameSelsN:∀ n:Nat,∀ a b:List SelD,bSs a≤n→n≤Lim→Pure Tryz.prog 154 [.sl .no 7 (cSs a),.sl .no 7 (cSs b)] (.bool (eqd a b)):=by
 intro n
 induction n using Nat.strongRecOn with
 | _ n ih =>
 intro a b hn hN
 refine Pure.go ir154 ck154 (Nat.le_refl _) fun KP Q hQ=>?_
 have h1:=cSs_len a
 have h2:=cSs_len b
 have hla:=bSs_len a
 have hN':=hN
 simp only [Lim] at hN'
 by_cases hl:a.length=b.length
 case neg =>
  have hl':¬ ((a.length:Int)=b.length):=by omega
  have hne:a≠b:=fun e=>hl (by rw [e])
  simp (disch:=first|omega|assumption) only [ir154,h1,h2,hl',go_sem,↓reduceIte]
  exact hQ _ _ _ _ nofun rfl (by simp [tupOf,envOf,AV.strip,AV.strip1,eqd_false hne])
 have hl':((a.length:Int)=b.length)=True:=eq_true (by omega)
 simp (disch:=first|omega|assumption) only [ir154,h1,h2,hl',go_sem,↓reduceIte]
 refine goL_range a 5 (fun _:Unit=>[]) (fun done rest n H=>b.take done.length=done) () (by simp (disch:=first|omega|assumption) only [go_sem,↓reduceIte]) rfl ?_ ?_
 ·rintro n H J hp hlt
  simp (disch:=first|omega|assumption) only [h1,hlt,go_sem,↓reduceIte]
  exact hQ _ _ _ _ nofun rfl (by simp [tupOf,envOf,AV.strip,AV.strip1,eqd_true (two_end hl hp)])
 ·rintro done x rest _ H J hd hlt _ hp hJ
  obtain ⟨y,r,hb⟩:=two_mid hd hl hp
  have g1:=cSs_get hd
  have g2:=cSs_get hb
  have hlt2:(done.length:Int)<b.length:=by omega
  have hbm:=bSs_mid done x rest
  rw [← hd] at hbm
  have hst:=two_step hb
  have hne:x≠y→a≠b:=two_ne hd hb
  obtain ⟨k,al,nm,args,dirs,on,sels⟩:=x
  obtain ⟨k',al',nm',args',dirs',on',sels'⟩:=y
  simp only [bS] at hbm
  rw [cS_mk] at g1 g2
  simp (disch:=first|omega|assumption) only [h1,h2,hlt,hlt2,g1,g2,go_sem,↓reduceIte]
  refine goA_intro fun b6 hb6=>?_
  simp (disch:=first|omega|assumption) only [h1,h2,hlt,hlt2,g1,g2,go_sem,↓reduceIte]
  refine goA_intro fun b7 hb7=>?_
  have n76:b7≠b6:=fun e=>by subst e;rw [upd_same] at hb7;cases hb7
  have n67:=Ne.symm n76
  simp (disch:=first|omega|assumption) only [h1,h2,hlt,hlt2,g1,g2,n67,n76,go_sem,↓reduceIte]
  by_cases e1:k=k'
  case neg =>
   have hne2:=hne (by simp [e1])
   simp (disch:=first|omega|assumption) only [e1,n67,n76,go_sem,↓reduceIte]
   exact hQ _ _ _ _ nofun rfl (by simp [tupOf,envOf,AV.strip,AV.strip1,eqd_false hne2])
  by_cases e2:al=al'
  case neg =>
   have hne2:=hne (by simp [e2])
   simp (disch:=first|omega|assumption) only [e1,e2,n67,n76,go_sem,↓reduceIte]
   exact hQ _ _ _ _ nofun rfl (by simp [tupOf,envOf,AV.strip,AV.strip1,eqd_false hne2])
  by_cases e3:nm=nm'
  case neg =>
   have hne2:=hne (by simp [e3])
   simp (disch:=first|omega|assumption) only [e1,e2,e3,n67,n76,go_sem,↓reduceIte]
   exact hQ _ _ _ _ nofun rfl (by simp [tupOf,envOf,AV.strip,AV.strip1,eqd_false hne2])
  by_cases e4:on=on'
  case neg =>
   have hne2:=hne (by simp [e4])
   simp (disch:=first|omega|assumption) only [e1,e2,e3,e4,n67,n76,go_sem,↓reduceIte]
   exact hQ _ _ _ _ nofun rfl (by simp [tupOf,envOf,AV.strip,AV.strip1,eqd_false hne2])
  simp (disch:=first|omega|assumption) only [e1,e2,e3,e4,n67,n76,go_sem,↓reduceIte]
  refine goK_pure (membersE args args' (by omega)) ?_
  by_cases e5:args=args'
  case neg =>
   have hne2:=hne (by simp [e5])
   simp (disch:=first|omega|assumption) only [eqd_false e5,n67,n76,go_sem,↓reduceIte]
   exact hQ _ _ _ _ nofun rfl (by simp [tupOf,envOf,AV.strip,AV.strip1,eqd_false hne2])
  simp (disch:=first|omega|assumption) only [eqd_true e5,n67,n76,go_sem,↓reduceIte]
  refine goK_pure (sameDirsR dirs dirs' (by omega)) ?_
  by_cases e6:dirs=dirs'
  case neg =>
   have hne2:=hne (by simp [e6])
   simp (disch:=first|omega|assumption) only [eqd_false e6,n67,n76,go_sem,↓reduceIte]
   exact hQ _ _ _ _ nofun rfl (by simp [tupOf,envOf,AV.strip,AV.strip1,eqd_false hne2])
  simp (disch:=first|omega|assumption) only [eqd_true e6,n67,n76,go_sem,↓reduceIte]
  refine goK_pure (ih (bSs sels) (by omega) sels sels' (Nat.le_refl _) (by omega)) ?_
  by_cases e7:sels=sels'
  case neg =>
   have hne2:=hne (by simp [e7])
   simp (disch:=first|omega|assumption) only [eqd_false e7,n67,n76,go_sem,↓reduceIte]
   exact hQ _ _ _ _ nofun rfl (by simp [tupOf,envOf,AV.strip,AV.strip1,eqd_false hne2])
  simp (disch:=first|omega|assumption) only [eqd_true e7,n67,n76,go_sem,↓reduceIte]
  exact goJ (hJ () _ (by rw [e1,e2,e3,e4,e5,e6,e7];exact hst)) (by simp (disch:=first|omega|assumption) only [wrap64,go_sem,↓reduceIte])
theorem sameSelsR (a b:List SelD) (ha:bSs a≤Lim):Pure Tryz.prog 154 [.sl .no 7 (cSs a),.sl .no 7 (cSs b)] (.bool (eqd a b)):=sameSelsN (bSs a) a b (Nat.le_refl _) ha
theorem sameOpR (a b:OpD) (ha:bO a≤Lim):Pure Tryz.prog 85 [.agg (cO a),.agg (cO b)] (.bool (eqd a b)):=by
 refine Pure.go ir85 ck85 (Nat.le_refl _) fun KP Q hQ=>?_
 obtain ⟨k,nm,vars,dirs,sels⟩:=a
 obtain ⟨k',nm',vars',dirs',sels'⟩:=b
 simp only [bO] at ha
 have h1:=cWs_len vars
 have h2:=cWs_len vars'
 have hla:=bWs_len vars
 have ha':=ha
 simp only [Lim] at ha'
 simp (disch:=first|omega|assumption) only [ir85,cO,go_sem,↓reduceIte]
 by_cases e1:k=k'
 case neg =>
  have hne:OpD.mk k nm vars dirs sels≠OpD.mk k' nm' vars' dirs' sels':=by simp [e1]
  simp (disch:=first|omega|assumption) only [e1,go_sem,↓reduceIte]
  exact hQ _ _ _ _ nofun rfl (by simp [tupOf,envOf,AV.strip,AV.strip1,eqd_false hne])
 by_cases e2:nm=nm'
 case neg =>
  have hne:OpD.mk k nm vars dirs sels≠OpD.mk k' nm' vars' dirs' sels':=by simp [e2]
  simp (disch:=first|omega|assumption) only [e1,e2,go_sem,↓reduceIte]
  exact hQ _ _ _ _ nofun rfl (by simp [tupOf,envOf,AV.strip,AV.strip1,eqd_false hne])
 by_cases hl:vars.length=vars'.length
 case neg =>
  have hl':¬ ((vars.length:Int)=vars'.length):=by omega
  have hne:OpD.mk k nm vars dirs sels≠OpD.mk k' nm' vars' dirs' sels':=fun e=>hl (by rw [(OpD.mk.inj e).2.2.1])
  simp (disch:=first|omega|assumption) only [e1,e2,h1,h2,hl',go_sem,↓reduceIte]
  exact hQ _ _ _ _ nofun rfl (by simp [tupOf,envOf,AV.strip,AV.strip1,eqd_false hne])
 have hl':((vars.length:Int)=vars'.length)=True:=eq_true (by omega)
 simp (disch:=first|omega|assumption) only [e1,e2,h1,h2,hl',go_sem,↓reduceIte]
 refine goK_pure (sameDirsR dirs dirs' (by omega)) ?_
 by_cases e3:dirs=dirs'
 case neg =>
  have hne:OpD.mk k nm vars dirs sels≠OpD.mk k' nm' vars' dirs' sels':=by simp [e3]
  simp (disch:=first|omega|assumption) only [eqd_false e3,go_sem,↓reduceIte]
  exact hQ _ _ _ _ nofun rfl (by simp [tupOf,envOf,AV.strip,AV.strip1,eqd_false hne])
 simp (disch:=first|omega|assumption) only [eqd_true e3,go_sem,↓reduceIte]
 refine goK_pure (sameSelsR sels sels' (by omega)) ?_
 by_cases e4:sels=sels'
 case neg =>
  have hne:OpD.mk k nm vars dirs sels≠OpD.mk k' nm' vars' dirs' sels':=by simp [e4]
  simp (disch:=first|omega|assumption) only [eqd_false e4,go_sem,↓reduceIte]
  exact hQ _ _ _ _ nofun rfl (by simp [tupOf,envOf,AV.strip,AV.strip1,eqd_false hne])
 simp (disch:=first|omega|assumption) only [eqd_true e4,go_sem,↓reduceIte]
 refine goL_range vars 5 (fun _:Unit=>[]) (fun done rest n H=>vars'.take done.length=done) () (by simp (disch:=first|omega|assumption) only [go_sem,↓reduceIte]) rfl ?_ ?_
 ·rintro n H J hp hlt
  have e5:=two_end hl hp
  simp (disch:=first|omega|assumption) only [h1,hlt,go_sem,↓reduceIte]
  have heq:OpD.mk k nm vars dirs sels=OpD.mk k' nm' vars' dirs' sels':=by rw [e1,e2,e3,e4,e5]
  exact hQ _ _ _ _ nofun rfl (by simp [tupOf,envOf,AV.strip,AV.strip1,eqd_true heq])
 ·rintro done x rest _ H J hd hlt _ hp hJ
  obtain ⟨y,r,hb⟩:=two_mid hd hl hp
  have g1:=cWs_get hd
  have g2:=cWs_get hb
  have hlt2:(done.length:Int)<vars'.length:=by omega
  have hbm:=bWs_mid done x rest
  rw [← hd] at hbm
  have hst:=two_step hb
  have hne0:x≠y→vars≠vars':=two_ne hd hb
  have hne:x≠y→OpD.mk k nm vars dirs sels≠OpD.mk k' nm' vars' dirs' sels':=fun h e=>hne0 h (OpD.mk.inj e).2.2.1
  obtain ⟨vn,⟨tn,tl,tm⟩,vh,vd⟩:=x
  obtain ⟨vn',⟨tn',tl',tm'⟩,vh',vd'⟩:=y
  simp only [bW] at hbm
  obtain ⟨dk,dn,ds,dl,dm⟩:=vd
  obtain ⟨dk',dn',ds',dl',dm'⟩:=vd'
  rw [cW_mk,cV_mk] at g1 g2
  simp only at g1 g2
  simp (disch:=first|omega|assumption) only [h1,h2,hlt,hlt2,g1,g2,go_sem,↓reduceIte]
  refine goA_intro fun b6 hb6=>?_
  simp (disch:=first|omega|assumption) only [h1,h2,hlt,hlt2,g1,g2,go_sem,↓reduceIte]
  refine goA_intro fun b7 hb7=>?_
  have n76:b7≠b6:=fun e=>by subst e;rw [upd_same] at hb7;cases hb7
  have n67:=Ne.symm n76
  simp (disch:=first|omega|assumption) only [h1,h2,hlt,hlt2,g1,g2,n67,n76,go_sem,↓reduceIte]
  by_cases f1:vn=vn'
  case neg =>
   have hne2:=hne (by simp [f1])
   simp (disch:=first|omega|assumption) only [f1,n67,n76,go_sem,↓reduceIte]
   exact hQ _ _ _ _ nofun rfl (by simp [tupOf,envOf,AV.strip,AV.strip1,eqd_false hne2])
  by_cases f3:tn=tn'
  case neg =>
   have hne2:=hne (by simp [f3])
   simp (disch:=first|omega|assumption) only [f1,f3,n67,n76,fitsAll,K1.fits,keqs,AV.keq1,Bool.and_true,Bool.true_and,Bool.and_false,Bool.false_and,decide_true,decide_false,go_sem,↓reduceIte]
   exact hQ _ _ _ _ nofun rfl (by simp [tupOf,envOf,AV.strip,AV.strip1,eqd_false hne2])
  by_cases f4:tl=tl'
  case neg =>
   have hne2:=hne (by simp [f4])
   simp (disch:=first|omega|assumption) only [f1,f3,f4,n67,n76,fitsAll,K1.fits,keqs,AV.keq1,Bool.and_true,Bool.true_and,Bool.and_false,Bool.false_and,decide_true,decide_false,go_sem,↓reduceIte]
   exact hQ _ _ _ _ nofun rfl (by simp [tupOf,envOf,AV.strip,AV.strip1,eqd_false hne2])
  by_cases f5:tm=tm'
  case neg =>
   have hne2:=hne (by simp [f5])
   simp (disch:=first|omega|assumption) only [f1,f3,f4,f5,n67,n76,fitsAll,K1.fits,keqs,AV.keq1,Bool.and_true,Bool.true_and,Bool.and_false,Bool.false_and,decide_true,decide_false,go_sem,↓reduceIte]
   exact hQ _ _ _ _ nofun rfl (by simp [tupOf,envOf,AV.strip,AV.strip1,eqd_false hne2])
  have q1:(false == true)=false:=rfl
  have q2:(true == false)=false:=rfl
  have q3:(true == true)=true:=rfl
  have q4:(false == false)=true:=rfl
  by_cases f6:vh=vh'
  case neg =>
   have hne2:=hne (by simp [f6])
   cases vh<;>cases vh'<;>first|exact absurd rfl f6|skip
   all_goals
    simp (disch:=first|omega|assumption) only [f1,f3,f4,f5,n67,n76,q1,q2,q3,q4,Bool.not_true,Bool.not_false,fitsAll,K1.fits,keqs,AV.keq1,Bool.and_true,Bool.true_and,Bool.and_false,Bool.false_and,decide_true,decide_false,go_sem,↓reduceIte]
    exact hQ _ _ _ _ nofun rfl (by simp [tupOf,envOf,AV.strip,AV.strip1,eqd_false hne2])
  subst f6
  cases vh
  all_goals
   simp (disch:=first|omega|assumption) only [f1,f3,f4,f5,n67,n76,q1,q2,q3,q4,Bool.not_true,Bool.not_false,fitsAll,K1.fits,keqs,AV.keq1,Bool.and_true,Bool.true_and,Bool.and_false,Bool.false_and,decide_true,decide_false,go_sem,↓reduceIte]
   refine goK_pure (sameR (.mk dk dn ds dl dm) (by omega) (.mk dk' dn' ds' dl' dm')) ?_
   by_cases f7:Val.mk dk dn ds dl dm=.mk dk' dn' ds' dl' dm'
   case neg =>
    have hne2:=hne (fun e=>f7 (VarD.mk.inj e).2.2.2)
    simp (disch:=first|omega|assumption) only [eqd_false f7,go_sem,↓reduceIte]
    exact hQ _ _ _ _ nofun rfl (by simp [tupOf,envOf,AV.strip,AV.strip1,eqd_false hne2])
   simp (disch:=first|omega|assumption) only [eqd_true f7,go_sem,↓reduceIte]
   exact goJ (hJ () _ (by rw [f1,f3,f4,f5,f7];exact hst)) (by simp (disch:=first|omega|assumption) only [wrap64,go_sem,↓reduceIte])
end Go.Proofs.YticbbfbpeimkbaaGreatDoor
