/- Texts joined: Tw3 Eol Tw4 Tw5 IrD Rp7 Pe Rp8 Rp9 IrB DocS Vf Pl Lp Wb Wc Pu Wd We Wf Vr Lp3 Shelf2 Wq Lp4. -/
import Derived.Shelf.Strings.IndexAnyAll
import Derived.Shelf.Small.Utf8
import Derived.Laws.RangeAny
import Derived.Laws.Runes
import Derived.WalkMore
import Derived.Shelf.RegionOpenPlain
import Derived.BigQuiet
import Derived.Test.YticbbfbpeimkbaaGreatDoorRows
import Derived.Shelf.Strings.Builder1
import Derived.Shelf.Strings.Builder2
import Derived.Shelf.Strings.OnBuilder
import Derived.Shelf.Small.Strs
import Derived.Shelf.Small.Wraps
import Derived.Shelf.Strings.BuilderF
import Derived.Shelf.Strings.BuilderK
import Derived.Shelf.Utf8.AppendRune
import Derived.Shelf.Strings.Builder2Cap
import Derived.Shelf.Strconv.Itoa0
import Derived.Shelf.Strconv.Itoa1
import Derived.Shelf.LaysM
import Derived.Shelf.Strconv.Itoa2
import Derived.Shelf.Strconv.Itoa3
import Derived.Shelf.Strconv.Itoa4
import Derived.Shelf.Strconv.ParseIntEmpty
import Derived.Shelf.Strconv.Clone
import Derived.Shelf.Strconv.SyntaxError
import Derived.Shelf.LaysC
import Derived.Shelf.Strconv.ToError
import Derived.Shelf.Strconv.Lower
import Derived.Shelf.Strconv.ParseUint10
import Derived.Shelf.Strconv.ParseUint10Empty
import Derived.Shelf.Strconv.ParseUint10Any
import Derived.Shelf.Strconv.ParseInt10
import Derived.Shelf.Strconv.RangeError
import Derived.Shelf.Strconv.ToErrorRange
import Derived.Shelf.Strconv.ParseUintEmpty
import Derived.Shelf.Strconv.ParseUint10b64
import Derived.Shelf.Strconv.ParseUint10b32
import Derived.Shelf.Strconv.ParseUint10b16
import Derived.Shelf.Strconv.ParseUint10b8
import Derived.Shelf.Strconv.ParseUint10At
import Derived.Shelf.Strconv.ParseInt10At64
import Derived.Shelf.Strconv.ParseInt10At32
import Derived.Shelf.Strconv.ParseInt10At16
import Derived.Shelf.Strconv.ParseInt10At8
import Derived.Shelf.Strconv.ParseInt10All
import Derived.Shelf.Strconv.ParseIntPublic10
import Derived.Shelf.Strconv.ErrVarParseInt
import Derived.Shelf.Strings.Search1
import Derived.Shelf.Strings.Search2
import Derived.Shelf.Strings.Search3
import Derived.Shelf.Strings.Shaped
import Derived.Shelf.Strings.Prefix
import Derived.Shelf.Unicode.Decode
import Derived.Shelf.Strings.Runes
import Derived.Shelf.Strings.IndexAny
import Derived.Shelf.Strings.AsciiSet
import Derived.Shelf.Bits.Mul64
import Derived.Shelf.Strings.Repeat
import Derived.Shelf.Unicode.DecodeSlow
import Derived.Shelf.Unicode.DecodeAny
import Derived.Shelf.Slices.Turned
import Derived.Test.YticbbfbpeimkbaaGreatDoorProg
import Derived.Test.YticbbfbpeimkbaaGreatDoorM1
import Derived.Test.YticbbfbpeimkbaaGreatDoorM2
import Derived.Test.YticbbfbpeimkbaaGreatDoorM3
import Derived.Test.YticbbfbpeimkbaaGreatDoorM4
import Derived.Test.YticbbfbpeimkbaaGreatDoorM5
import Derived.Test.YticbbfbpeimkbaaGreatDoorM6
set_option maxRecDepth 100000
set_option linter.unusedSimpArgs false
set_option linter.unusedVariables false
namespace Go.Proofs.YticbbfbpeimkbaaGreatDoor
open Go.Ab Go.Lib
def AtR (cells:List AV) (off:Nat) (cur:List (List UInt8)):Prop:=∃ pre post,cells=pre++(cStr cur++post)∧pre.length=off
theorem AtR.get {cells:List AV} {off:Nat} {cur a:List (List UInt8)} {x:List UInt8} {r:List (List UInt8)} (h:AtR cells off cur) (hc:cur=a++x :: r):(cells.drop (off+a.length*1)).take 1=[.str x]∧off+a.length*1+1≤cells.length:=by
 obtain ⟨pre,post,rfl,rfl⟩:=h
 subst hc
 refine ⟨?_,by simp [cStr];omega⟩
 rw [Nat.mul_one,← List.drop_drop,List.drop_left]
 simp [cStr]
theorem AtR.le {cells:List AV} {off:Nat} {cur:List (List UInt8)} (h:AtR cells off cur):off+cur.length≤cells.length:=by
 obtain ⟨pre,post,rfl,rfl⟩:=h
 simp [cStr]
theorem AtR.front {cells:List AV} {b off cap:Nat} {x:List UInt8} {r:List (List UInt8)} (h:AtR cells off (x :: r)) (hc:r.length+1≤cap) :
  ∃ off2,msCut 1 b off (r.length+1) cap (some 1) (some ((r.length+1:Nat):Int))=some (.ms b off2 r.length (cap-1))∧AtR cells off2 r:=by
 obtain ⟨pre,post,rfl,rfl⟩:=h
 have e:(((r.length+1:Nat):Int)).toNat-(1:Int).toNat=r.length:=by omega
 by_cases h1:cap=1
 ·obtain rfl:r=[]:=List.length_eq_zero_iff.1 (by omega)
  exact ⟨pre.length,by simp [msCut,h1],pre,.str x :: post,by simp [cStr],rfl⟩
 ·refine ⟨pre.length+1,?_,pre++[.str x],post,by simp [cStr],by simp⟩
  unfold msCut
  simp only
  rw [if_pos (by omega),if_neg (by simpa using h1),e]
  simp
theorem msCut_back {b off cap len k:Nat} (h:k≤len):msCut 1 b off len cap (some 0) (some (k:Int))=some (.ms b off k cap):=by
 unfold msCut
 simp only
 rw [if_pos (by omega)]
 simp
theorem AtR.back {cells:List AV} {off:Nat} {x:List UInt8} {r:List (List UInt8)} (h:AtR cells off (r++[x])):AtR cells off r:=by
 obtain ⟨pre,post,rfl,rfl⟩:=h
 exact ⟨pre,.str x :: post,by simp [cStr],rfl⟩
theorem rowsA_str:∀ (cur:List (List UInt8)) (post:List AV),rowsA 1 cur.length (cStr cur++post)=cT cur
 | [],_=>rfl
 | x :: r,post=>by
  have:=rowsA_str r post
  simp only [cStr] at this
  simp [rowsA,cStr,cT,AV.strip1,this]
theorem AtR.rows {cells:List AV} {off:Nat} {cur:List (List UInt8)} (h:AtR cells off cur):rowsA 1 cur.length (cells.drop off)=cT cur:=by
 obtain ⟨pre,post,rfl,rfl⟩:=h
 rw [List.drop_left,rowsA_str]
def wL (l:List (List UInt8)):Nat:=(l.map fun x=>x.length+1).sum
theorem wL_mem {l:List (List UInt8)} {x:List UInt8} (h:x ∈ l):x.length+1≤wL l:=mem_sum h
theorem wL_len:∀ l:List (List UInt8),l.length≤wL l
 | []=>by simp
 | x :: r=>by have:=wL_len r;simp only [wL,List.map_cons,List.sum_cons,List.length_cons] at this ⊢;omega
theorem wL_app (a b:List (List UInt8)):wL (a++b)=wL a+wL b:=by simp [wL]
theorem wL_cons (x:List UInt8) (b:List (List UInt8)):wL (x :: b)=x.length+1+wL b:=by simp [wL]
theorem wL_drop (n:Nat):∀ l:List (List UInt8),wL (l.map fun s=>s.drop n)≤wL l
 | []=>by simp [wL]
 | x :: r=>by have:=wL_drop n r;simp only [List.map_cons,wL_cons,List.length_drop];omega
theorem join_wL:∀ l:List (List UInt8),(Lib.join l [10]).length≤wL l
 | []=>by simp [Lib.join]
 | [x]=>by simp [Lib.join,wL]
 | x :: y :: r=>by
  have:=join_wL (y :: r)
  have e:Lib.join (x :: y :: r) [10]=x++10 :: Lib.join (y :: r) [10]:=by simp [Lib.join]
  rw [e,wL_cons]
  simp only [List.length_append,List.length_cons];omega
theorem trimR_snoc (r:List (List UInt8)) (x:List UInt8):trimR (r++[x])=if bareL x then trimR r else r++[x]:=by
 unfold trimR
 rw [List.reverse_append,List.reverse_singleton,List.singleton_append,List.dropWhile_cons]
 split
 ·rfl
 ·simp
theorem snoc_of {α:Type} {l:List α} (h:l≠[]):∃ r x,l=r++[x]:=⟨l.dropLast,l.getLast h,(List.dropLast_concat_getLast h).symm⟩
theorem cStr_set (a:List (List UInt8)) (x y:List UInt8) (r:List (List UInt8)) (tl:List AV):splice (cStr (a++x :: r)++tl) (0+a.length*1) [.str y]=cStr (a++y :: r)++tl:=by
 have e:cStr (a++x :: r)++tl=cStr a++(.str x :: (cStr r++tl)):=by simp [cStr]
 rw [e]
 simp only [splice,List.length_cons,List.length_nil,Nat.zero_add,Nat.mul_one]
 rw [List.take_left' (cStr_len a),List.drop_append,List.drop_eq_nil_of_le (by rw [cStr_len];omega),cStr_len,Nat.add_sub_cancel_left]
 simp [cStr]
theorem blockTC (raw:List UInt8) (hs:raw.length≤1099511600000):Pure Tryz.prog 280 [.str raw] (.str (blockM raw)):=by
 refine Pure.go ir280 ck280 (Nat.le_refl _) fun KP Q hQ=>?_
 have hw0:wL (linesM raw)≤raw.length+1:=by have:=lines_sum raw [];simpa [wL,linesM] using this
 obtain ⟨x0,T,hL⟩:∃ x T,linesM raw=x :: T:=by
  cases hx:linesM raw with
  | nil=>exact absurd hx (lines_ne raw [])
  | cons x T=>exact ⟨x,T,rfl⟩
 have hLl:=wL_len (linesM raw)
 simp (disch:=first|omega|assumption) only [ir280,go_sem,↓reduceIte]
 refine goK_ret (linesTC raw (by simp only [Lim];omega)) fun v H1 ⟨b,cap,hv,hm⟩=>?_
 subst hv
 have hm0:=hm
 obtain ⟨tl,hb,hcap⟩:=hm
 simp (disch:=first|omega|assumption) only [go_sem,↓reduceIte]
 refine goK_ret (indentTC hm0 (fun s hsm=>by have:=wL_mem hsm;simp only [Lim];omega) (by simp only [Lim];omega)) fun v H2 ⟨hv,hH⟩=>?_
 subst hv;subst hH
 by_cases hn:0<indM (linesM raw)
 case neg =>
  have hn0:(indM (linesM raw)).toNat=0:=by omega
  obtain ⟨D,hDd⟩:∃ D,D=linesM raw:=⟨_,rfl⟩
  have hDM:dropM (linesM raw)=D:=by
   rw [hDd]
   conv=>lhs;rw [hL]
   simp only [dropM]
   rw [← hL,hn0]
   simp [hL]
  have hDl:D.length=(linesM raw).length:=by rw [hDd]
  have hbX:H2 b=some (.cells (cStr D++tl)):=by rw [hDd];exact hb
  obtain ⟨cells,hcells⟩:∃ cells,cells=cStr D++tl:=⟨_,rfl⟩
  rw [← hcells] at hbX
  have hwD:wL D≤1099511627777:=by rw [hDd];omega
  rw [← hDd] at hcap
  simp (disch:=first|omega|assumption) only [hn,go_sem,↓reduceIte]
  refine goL_st (fun x:Nat × Nat × List (List UInt8)=>[(3,.ms b x.1 x.2.2.length x.2.1)]) (fun x H'=>H'=H2∧AtR cells x.1 x.2.2∧x.2.2.length≤x.2.1∧x.2.2.dropWhile bareL=D.dropWhile bareL∧wL x.2.2≤wL D) (fun x=>x.2.2.length) (0,cap,D) (by simp (disch:=first|omega|assumption) only [hDl,go_sem,↓reduceIte]) ⟨rfl,⟨[],tl,by rw [hcells,List.nil_append],rfl⟩,by simp only;omega,rfl,Nat.le_refl _⟩ ?_
  rintro ⟨off,cp,cur⟩ H3 J ⟨rfl,ha,hcp,hdw,hw⟩ hJ
  simp only at ha hcp hdw hw
  have stage2:∀ K:Unit,cur=D.dropWhile bareL→True:=fun _ _=>trivial
  by_cases hcur:cur=[]
  case pos =>
   subst hcur
   have hD:D.dropWhile bareL=[]:=by rw [← hdw];rfl
   simp (disch:=first|omega|assumption) only [List.length_nil,go_sem,↓reduceIte]
   refine goL_st (fun x:Unit=>[]) (fun x H'=>H'=H3) (fun x=>0) () (by simp (disch:=first|omega|assumption) only [List.length_nil,go_sem,↓reduceIte]) rfl ?_
   rintro ⟨⟩ H4 J4 rfl hJ4
   simp (disch:=first|omega|assumption) only [List.length_nil,go_sem,↓reduceIte]
   refine goZ_ms hbX (by decide) (by have:=ha.le;simpa using this) ?_
   have hr:=ha.rows
   simp only [List.length_nil] at hr
   simp (disch:=first|omega|assumption) only [hr,go_sem,↓reduceIte]
   refine goK_pure (joinStrC [] [10] (by simp [Lib.join]) (by simp)) ?_
   have e:blockM raw=Lib.join [] [10]:=by
    unfold blockM;rw [hDM,hD];rfl
   simp (disch:=first|omega|assumption) only [go_sem,↓reduceIte]
   exact hQ _ _ _ _ nofun rfl (by simp [tupOf,envOf,AV.strip,AV.strip1,e])
  obtain ⟨x,r,hxr⟩:∃ x r,cur=x :: r:=by cases cur with|nil=>exact absurd rfl hcur|cons x r=>exact ⟨x,r,rfl⟩
  have hxl:x.length≤Lim:=by have:=wL_mem (l:=cur) (x:=x) (by rw [hxr];simp);simp only [Lim];omega
  obtain ⟨hg,hle⟩:=ha.get (a:=[]) (x:=x) (r:=r) hxr
  simp only [List.length_nil,Nat.zero_mul,Nat.add_zero] at hg hle
  have hcl:cur.length=r.length+1:=by rw [hxr];rfl
  have hpos:((0:Int)<(cur.length:Int))=True:=eq_true (by omega)
  have h1l:((1:Int)≤(cur.length:Int))=True:=eq_true (by omega)
  cases hbr:bareL x with
  | true =>
   obtain ⟨off2,hcut,hat⟩:=AtR.front (b:=b) (cap:=cp) (by rw [← hxr];exact ha) (by omega)
   rw [← hcl] at hcut
   simp (disch:=first|omega|assumption) only [hpos,hbX,hg,hle,Nat.zero_mul,Nat.add_zero,go_sem,↓reduceIte]
   refine goK_pure (bareTC x hxl) ?_
   simp (disch:=first|omega|assumption) only [hbr,hpos,h1l,hcut,go_sem,↓reduceIte]
   refine goJ (hJ (off2,cp-1,r) H3 (by simp only;omega) ⟨rfl,hat,by simp only;omega,by rw [← hdw,hxr];simp [hbr],by rw [hxr,wL_cons] at hw;simp only;omega⟩) (by simp (disch:=first|omega|assumption) only [go_sem,↓reduceIte])
  | false =>
   have hDc:D.dropWhile bareL=cur:=by rw [← hdw,hxr];simp [hbr]
   simp (disch:=first|omega|assumption) only [hpos,hbX,hg,hle,Nat.zero_mul,Nat.add_zero,go_sem,↓reduceIte]
   refine goK_pure (bareTC x hxl) ?_
   simp (disch:=first|omega|assumption) only [hbr,go_sem,↓reduceIte]
   refine goL_st (fun x:List (List UInt8)=>[(3,.ms b off x.length cp)]) (fun x H'=>H'=H3∧AtR cells off x∧trimR x=trimR cur∧wL x≤wL D∧x.length≤cp) (fun x=>x.length) cur (by simp (disch:=first|omega|assumption) only [go_sem,↓reduceIte]) ⟨rfl,ha,rfl,hw,hcp⟩ ?_
   rintro u H4 J4 ⟨rfl,ha4,ht4,hw4,hc4⟩ hJ4
   by_cases hu:u=[]
   ·subst hu
    simp (disch:=first|omega|assumption) only [List.length_nil,go_sem,↓reduceIte]
    refine goZ_ms hbX (by decide) (by have:=ha4.le;simpa using this) ?_
    have hr:=ha4.rows
    simp only [List.length_nil] at hr
    simp (disch:=first|omega|assumption) only [hr,go_sem,↓reduceIte]
    refine goK_pure (joinStrC [] [10] (by simp [Lib.join]) (by simp)) ?_
    have e:blockM raw=Lib.join [] [10]:=by
     unfold blockM;rw [hDM,hDc,← ht4];rfl
    simp (disch:=first|omega|assumption) only [go_sem,↓reduceIte]
    exact hQ _ _ _ _ nofun rfl (by simp [tupOf,envOf,AV.strip,AV.strip1,e])
   obtain ⟨q,y,hqy⟩:=snoc_of hu
   have hyl:y.length≤Lim:=by have:=wL_mem (l:=u) (x:=y) (by rw [hqy];simp);simp only [Lim];omega
   obtain ⟨hg4,hle4⟩:=ha4.get (a:=q) (x:=y) (r:=[]) hqy
   have hul:u.length=q.length+1:=by rw [hqy];simp
   have hpos4:((0:Int)<(u.length:Int))=True:=eq_true (by omega)
   have wq:IntKind.wrap .i64 ((u.length:Int)-1)=(q.length:Int):=by rw [wrap64 (by omega) (by have:=wL_len u;omega)];omega
   have h1q:((q.length:Int)<(u.length:Int))=True:=eq_true (by omega)
   have h2q:((q.length:Int)≤(u.length:Int))=True:=eq_true (by omega)
   cases hby:bareL y with
   | true =>
    simp (disch:=first|omega|assumption) only [hpos4,wq,h1q,hbX,hg4,hle4,go_sem,↓reduceIte]
    refine goK_pure (bareTC y hyl) ?_
    have hcut:=msCut_back (b:=b) (off:=off) (cap:=cp) (show q.length≤u.length by omega)
    simp (disch:=first|omega|assumption) only [hby,wq,h1q,h2q,hcut,go_sem,↓reduceIte]
    refine goJ (hJ4 q H4 (by omega) ⟨rfl,AtR.back (x:=y) (by rw [← hqy];exact ha4),by rw [← ht4,hqy,trimR_snoc,hby];rfl,by rw [hqy,wL_app] at hw4;omega,by omega⟩) (by simp (disch:=first|omega|assumption) only [go_sem,↓reduceIte])
   | false =>
    have hlen:=wL_len u
    simp (disch:=first|omega|assumption) only [hpos4,wq,h1q,hbX,hg4,hle4,go_sem,↓reduceIte]
    refine goK_pure (bareTC y hyl) ?_
    simp (disch:=first|omega|assumption) only [hby,go_sem,↓reduceIte]
    refine goZ_ms hbX (by decide) (by have:=ha4.le;omega) ?_
    have hr:=ha4.rows
    have hj:=join_wL u
    simp (disch:=first|omega|assumption) only [hr,go_sem,↓reduceIte]
    refine goK_pure (joinStrC u [10] (by omega) (by omega)) ?_
    have e:blockM raw=Lib.join u [10]:=by
     unfold blockM;rw [hDM,hDc,← ht4,hqy,trimR_snoc,hby];rfl
    simp (disch:=first|omega|assumption) only [go_sem,↓reduceIte]
    exact hQ _ _ _ _ nofun rfl (by simp [tupOf,envOf,AV.strip,AV.strip1,e])
 case pos =>
  obtain ⟨n,hne⟩:∃ n:Nat,indM (linesM raw)=n:=⟨(indM (linesM raw)).toNat,by omega⟩
  have hnl:n≤1099511627777:=by
   by_cases hall:∀ s ∈ (linesM raw).tail,bareL s=true
   ·have:∀ (l:List (List UInt8)),(∀ s ∈ l,bareL s=true)→indG l (-1)=-1:=by
     intro l
     induction l with
     | nil=>intro _;rfl
     | cons a l ih=>intro h;simp only [indG,h a (.head _),if_true];exact ih fun s hs=>h s (.tail _ hs)
    have:=this _ hall
    have e:indM (linesM raw)=indG (linesM raw).tail (-1):=rfl
    omega
   ·obtain ⟨s,hs⟩:=Classical.not_forall.1 hall
    obtain ⟨hs,hb2⟩:=Classical.not_imp.1 hs
    have h1:=(indG_le (linesM raw).tail (-1)).2 s hs (by simpa using hb2)
    have h2:=wL_mem (List.mem_of_mem_tail hs)
    have h3:leadN s≤s.length:=(List.takeWhile_sublist _).length_le
    have e:indM (linesM raw)=indG (linesM raw).tail (-1):=rfl
    omega
  have hL2:=hL
  rw [hL] at hLl hw0
  have hcap0:=hcap
  rw [hL] at hb hcap0
  have hn':((0:Int)<(n:Int))=True:=eq_true (by omega)
  rw [hne]
  simp (disch:=first|omega|assumption) only [hn',go_sem,↓reduceIte]
  refine goL_st (fun x:List (List UInt8) × List (List UInt8)=>[(5,.int .i64 ((x.1.length:Int)+1))]) (fun x H'=>T=x.1++x.2∧H' b=some (.cells (cStr (x0 :: (x.1.map (fun s=>s.drop n)++x.2))++tl))) (fun x=>x.2.length) ([],T) (by simp (disch:=first|omega|assumption) only [List.length_nil,go_sem,↓reduceIte]) ⟨rfl,by simpa using hb⟩ ?_
  rintro ⟨dn,rest⟩ H3 J3 ⟨hT,hb3⟩ hJ3
  simp only at hT hb3
  have hll:(linesM raw).length=dn.length+rest.length+1:=by rw [hL,hT];simp
  cases rest with
  | nil =>
   have hlt:¬ ((dn.length:Int)+1<((linesM raw).length:Int)):=by simp at hll;omega
   obtain ⟨D,hDd⟩:∃ D,D=x0 :: T.map fun s=>s.drop n:=⟨_,rfl⟩
   have hDM:dropM (linesM raw)=D:=by
    conv=>lhs;rw [hL]
    simp only [dropM]
    rw [← hL,hne,hDd];rfl
   have hDl:D.length=(linesM raw).length:=by rw [hDd,hL];simp
   have hbX:H3 b=some (.cells (cStr D++tl)):=by
    rw [hb3,hDd,hT];simp
   obtain ⟨cells,hcells⟩:∃ cells,cells=cStr D++tl:=⟨_,rfl⟩
   rw [← hcells] at hbX
   have hwD:wL D≤1099511627777:=by
    have:=wL_drop n T
    rw [hDd,wL_cons];rw [wL_cons] at hw0;omega
   have hcap:D.length+tl.length=cap:=by rw [hDl];exact hcap
   clear hJ3 hb3
   simp (disch:=first|omega|assumption) only [hlt,go_sem,↓reduceIte]
   refine goL_st (fun x:Nat × Nat × List (List UInt8)=>[(3,.ms b x.1 x.2.2.length x.2.1)]) (fun x H'=>H'=H3∧AtR cells x.1 x.2.2∧x.2.2.length≤x.2.1∧x.2.2.dropWhile bareL=D.dropWhile bareL∧wL x.2.2≤wL D) (fun x=>x.2.2.length) (0,cap,D) (by simp (disch:=first|omega|assumption) only [hDl,go_sem,↓reduceIte]) ⟨rfl,⟨[],tl,by rw [hcells,List.nil_append],rfl⟩,by simp only;omega,rfl,Nat.le_refl _⟩ ?_
   rintro ⟨off,cp,cur⟩ H5 J5 ⟨rfl,ha,hcp,hdw,hw⟩ hJ5
   simp only at ha hcp hdw hw
   have stage2:∀ K:Unit,cur=D.dropWhile bareL→True:=fun _ _=>trivial
   by_cases hcur:cur=[]
   case pos =>
    subst hcur
    have hD:D.dropWhile bareL=[]:=by rw [← hdw];rfl
    simp (disch:=first|omega|assumption) only [List.length_nil,go_sem,↓reduceIte]
    refine goL_st (fun x:Unit=>[]) (fun x H'=>H'=H5) (fun x=>0) () (by simp (disch:=first|omega|assumption) only [List.length_nil,go_sem,↓reduceIte]) rfl ?_
    rintro ⟨⟩ H4 J4 rfl hJ4
    simp (disch:=first|omega|assumption) only [List.length_nil,go_sem,↓reduceIte]
    refine goZ_ms hbX (by decide) (by have:=ha.le;simpa using this) ?_
    have hr:=ha.rows
    simp only [List.length_nil] at hr
    simp (disch:=first|omega|assumption) only [hr,go_sem,↓reduceIte]
    refine goK_pure (joinStrC [] [10] (by simp [Lib.join]) (by simp)) ?_
    have e:blockM raw=Lib.join [] [10]:=by
     unfold blockM;rw [hDM,hD];rfl
    simp (disch:=first|omega|assumption) only [go_sem,↓reduceIte]
    exact hQ _ _ _ _ nofun rfl (by simp [tupOf,envOf,AV.strip,AV.strip1,e])
   obtain ⟨x,r,hxr⟩:∃ x r,cur=x :: r:=by cases cur with|nil=>exact absurd rfl hcur|cons x r=>exact ⟨x,r,rfl⟩
   have hxl:x.length≤Lim:=by have:=wL_mem (l:=cur) (x:=x) (by rw [hxr];simp);simp only [Lim];omega
   obtain ⟨hg,hle⟩:=ha.get (a:=[]) (x:=x) (r:=r) hxr
   simp only [List.length_nil,Nat.zero_mul,Nat.add_zero] at hg hle
   have hcl:cur.length=r.length+1:=by rw [hxr];rfl
   have hpos:((0:Int)<(cur.length:Int))=True:=eq_true (by omega)
   have h1l:((1:Int)≤(cur.length:Int))=True:=eq_true (by omega)
   cases hbr:bareL x with
   | true =>
    obtain ⟨off2,hcut,hat⟩:=AtR.front (b:=b) (cap:=cp) (by rw [← hxr];exact ha) (by omega)
    rw [← hcl] at hcut
    simp (disch:=first|omega|assumption) only [hpos,hbX,hg,hle,Nat.zero_mul,Nat.add_zero,go_sem,↓reduceIte]
    refine goK_pure (bareTC x hxl) ?_
    simp (disch:=first|omega|assumption) only [hbr,hpos,h1l,hcut,go_sem,↓reduceIte]
    refine goJ (hJ5 (off2,cp-1,r) H5 (by simp only;omega) ⟨rfl,hat,by simp only;omega,by rw [← hdw,hxr];simp [hbr],by rw [hxr,wL_cons] at hw;simp only;omega⟩) (by simp (disch:=first|omega|assumption) only [go_sem,↓reduceIte])
   | false =>
    have hDc:D.dropWhile bareL=cur:=by rw [← hdw,hxr];simp [hbr]
    simp (disch:=first|omega|assumption) only [hpos,hbX,hg,hle,Nat.zero_mul,Nat.add_zero,go_sem,↓reduceIte]
    refine goK_pure (bareTC x hxl) ?_
    simp (disch:=first|omega|assumption) only [hbr,go_sem,↓reduceIte]
    refine goL_st (fun x:List (List UInt8)=>[(3,.ms b off x.length cp)]) (fun x H'=>H'=H5∧AtR cells off x∧trimR x=trimR cur∧wL x≤wL D∧x.length≤cp) (fun x=>x.length) cur (by simp (disch:=first|omega|assumption) only [go_sem,↓reduceIte]) ⟨rfl,ha,rfl,hw,hcp⟩ ?_
    rintro u H4 J4 ⟨rfl,ha4,ht4,hw4,hc4⟩ hJ4
    by_cases hu:u=[]
    ·subst hu
     simp (disch:=first|omega|assumption) only [List.length_nil,go_sem,↓reduceIte]
     refine goZ_ms hbX (by decide) (by have:=ha4.le;simpa using this) ?_
     have hr:=ha4.rows
     simp only [List.length_nil] at hr
     simp (disch:=first|omega|assumption) only [hr,go_sem,↓reduceIte]
     refine goK_pure (joinStrC [] [10] (by simp [Lib.join]) (by simp)) ?_
     have e:blockM raw=Lib.join [] [10]:=by
      unfold blockM;rw [hDM,hDc,← ht4];rfl
     simp (disch:=first|omega|assumption) only [go_sem,↓reduceIte]
     exact hQ _ _ _ _ nofun rfl (by simp [tupOf,envOf,AV.strip,AV.strip1,e])
    obtain ⟨q,y,hqy⟩:=snoc_of hu
    have hyl:y.length≤Lim:=by have:=wL_mem (l:=u) (x:=y) (by rw [hqy];simp);simp only [Lim];omega
    obtain ⟨hg4,hle4⟩:=ha4.get (a:=q) (x:=y) (r:=[]) hqy
    have hul:u.length=q.length+1:=by rw [hqy];simp
    have hpos4:((0:Int)<(u.length:Int))=True:=eq_true (by omega)
    have wq:IntKind.wrap .i64 ((u.length:Int)-1)=(q.length:Int):=by rw [wrap64 (by omega) (by have:=wL_len u;omega)];omega
    have h1q:((q.length:Int)<(u.length:Int))=True:=eq_true (by omega)
    have h2q:((q.length:Int)≤(u.length:Int))=True:=eq_true (by omega)
    cases hby:bareL y with
    | true =>
     simp (disch:=first|omega|assumption) only [hpos4,wq,h1q,hbX,hg4,hle4,go_sem,↓reduceIte]
     refine goK_pure (bareTC y hyl) ?_
     have hcut:=msCut_back (b:=b) (off:=off) (cap:=cp) (show q.length≤u.length by omega)
     simp (disch:=first|omega|assumption) only [hby,wq,h1q,h2q,hcut,go_sem,↓reduceIte]
     refine goJ (hJ4 q H4 (by omega) ⟨rfl,AtR.back (x:=y) (by rw [← hqy];exact ha4),by rw [← ht4,hqy,trimR_snoc,hby];rfl,by rw [hqy,wL_app] at hw4;omega,by omega⟩) (by simp (disch:=first|omega|assumption) only [go_sem,↓reduceIte])
    | false =>
     have hlen:=wL_len u
     simp (disch:=first|omega|assumption) only [hpos4,wq,h1q,hbX,hg4,hle4,go_sem,↓reduceIte]
     refine goK_pure (bareTC y hyl) ?_
     simp (disch:=first|omega|assumption) only [hby,go_sem,↓reduceIte]
     refine goZ_ms hbX (by decide) (by have:=ha4.le;omega) ?_
     have hr:=ha4.rows
     have hj:=join_wL u
     simp (disch:=first|omega|assumption) only [hr,go_sem,↓reduceIte]
     refine goK_pure (joinStrC u [10] (by omega) (by omega)) ?_
     have e:blockM raw=Lib.join u [10]:=by
      unfold blockM;rw [hDM,hDc,← ht4,hqy,trimR_snoc,hby];rfl
     simp (disch:=first|omega|assumption) only [go_sem,↓reduceIte]
     exact hQ _ _ _ _ nofun rfl (by simp [tupOf,envOf,AV.strip,AV.strip1,e])
  | cons y r =>
   have hlt:((dn.length:Int)+1<((linesM raw).length:Int))=True:=eq_true (by simp at hll;omega)
   have hcur:x0 :: (dn.map (fun s=>s.drop n)++y :: r)=(x0 :: dn.map (fun s=>s.drop n))++y :: r:=rfl
   have hg:=cStr_get hcur tl
   have hle:=cStr_le hcur tl
   have hal:(x0 :: dn.map (fun s=>s.drop n)).length=dn.length+1:=by simp
   have hst:∀ z,splice (cStr (x0 :: (dn.map (fun s=>s.drop n)++y :: r))++tl) (0+(dn.length+1)*1) [.str z]=cStr (x0 :: (dn.map (fun s=>s.drop n)++z :: r))++tl:=fun z=>by
    have:=cStr_set (x0 :: dn.map (fun s=>s.drop n)) y z r tl
    rw [hal] at this
    exact this
   rw [hal] at hg hle
   have h1:((dn.length:Int)+1).toNat=dn.length+1:=by omega
   have hy0:((0:Int)≤(y.length:Int))=True:=eq_true (by omega)
   have hln:dn.length≤1099511627777:=by omega
   by_cases hmin:(y.length:Int)<(n:Int)
   ·have hdr:y.drop y.length=y.drop n:=by rw [List.drop_length,List.drop_eq_nil_of_le (by omega)]
    simp (disch:=first|omega|assumption) only [hlt,h1,hb3,hg,hle,hst,hmin,hy0,List.drop_length,go_sem,↓reduceIte]
    refine goJ (hJ3 (dn++[y],r) _ (by simp) ⟨by rw [hT];simp,?_⟩) (by simp (disch:=first|omega|assumption) only [wrap64,List.length_append,List.length_cons,List.length_nil,Int.natCast_add,go_sem,↓reduceIte])
    rw [upd_same]
    simp [List.drop_eq_nil_of_le (show y.length≤n by omega)]
   ·have hny:((n:Int)≤(y.length:Int))=True:=eq_true (by omega)
    have hn0:((0:Int)≤(n:Int))=True:=eq_true (by omega)
    simp (disch:=first|omega|assumption) only [hlt,h1,hb3,hg,hle,hst,hmin,hny,hn0,go_sem,↓reduceIte]
    refine goJ (hJ3 (dn++[y],r) _ (by simp) ⟨by rw [hT];simp,?_⟩) (by simp (disch:=first|omega|assumption) only [wrap64,List.length_append,List.length_cons,List.length_nil,Int.natCast_add,go_sem,↓reduceIte])
    rw [upd_same]
    simp
end Go.Proofs.YticbbfbpeimkbaaGreatDoor
set_option maxRecDepth 1000000
namespace Go.Proofs.YticbbfbpeimkbaaGreatDoor
open Go.Shelf Go.RowKit Go.Lib
section
variable {P:Program} {ρ:Ren}
def eol:ByteArray:=⟨#[13,10]⟩
theorem eol_next_at (w:World) (k:Nat) (s:ByteArray) (pos:Nat) (ty:TypeId) (hk:w.heap[k]?=some (.stringIter s pos)) (h:pos<s.size) :
  (Instr.next (.pointer (some ⟨k,0,none⟩)) true ty).run P w =
   .ok (.tuple #[.bool true,.int .i64 pos,.int .i32 (Utf8.decode s pos).1]) { w with heap:=w.heap.setIfInBounds k (.stringIter s (pos+(Utf8.decode s pos).2)) }:=by
 simp only [Instr.next,getObj,setObj,Sem.run_bind,Sem.run,hk,Result.andThen,h,if_true]
 simp [goInt]
theorem eol_next_stop (w:World) (k:Nat) (s:ByteArray) (pos:Nat) (ty:TypeId) (hk:w.heap[k]?=some (.stringIter s pos)) (h:¬ pos<s.size) :
  (Instr.next (.pointer (some ⟨k,0,none⟩)) true ty).run P w=.ok (.tuple #[.bool false]) w:=by
 simp [Instr.next,getObj,Sem.run,hk,h]
set_option maxHeartbeats 4000000 in
theorem eol_rune_err (L:Lays.n152 P ρ) (w:World) :
  Calls P (ρ.f 152) #[.string eol,.int .i32 65533] w fun e w'=>e=.returned (.int .i64 (-1))∧Below w.heap.size w w':=by
 have t3:=L.t3;have a3:=L.a3;have z3:=L.z3;have v3:=L.v3
 have t4:=L.t4;have a4:=L.a4;have z4:=L.z4;have v4:=L.v4
 have t5:=L.t5;have a5:=L.a5;have z5:=L.z5;have v5:=L.v5
 have t9:=L.t9;have a9:=L.a9;have z9:=L.z9;have v9:=L.v9
 have t21:=L.t21;have a21:=L.a21;have z21:=L.z21;have v21:=L.v21
 have hsz:eol.size=2:=rfl
 go_enter L.f152,Body.n152_ntmps ρ
 go_wp2
 go_loopg [5,6] 2 (fun g _ _ wx=>∃ i:Nat,i+g=2∧wx=w.iter eol i)
 case atStart=>exact ⟨0,by omega,rfl⟩
 case round =>
  obtain ⟨i,hig,rfl⟩:=hrel
  cases gk with
  | zero =>
   obtain rfl:i=2:=by omega
   have hnx:=fun ty=>run_next_end (P:=P) w eol 2 ty (by decide)
   go_wp2
   go_ret
   exact ⟨rfl,(Below.refl _ _).alloc (Nat.le_refl _) _⟩
  | succ g =>
   obtain ⟨x,hx⟩:∃ x:UInt8,eol[i]'(by rw [hsz];omega)=x:=⟨_,rfl⟩
   have hxl:x.toNat=13∨x.toNat=10:=by
    rcases (by omega:i=0∨i=1) with rfl|rfl
    ·left;rw [← hx];rfl
    ·right;rw [← hx];rfl
   have hnx:=fun ty=>run_next_ascii (P:=P) w eol i ty (by rw [hsz];omega) (by rw [hx];omega)
   rw [hx] at hnx
   have hne:¬ ((x.toNat:Int)=65533):=by omega
   clear hx hxl
   go_wp2
   go_roundg g
   case measure=>omega
   case rel=>exact ⟨i+1,by omega,rfl⟩
set_option maxHeartbeats 8000000 in
theorem eol_rune_high (L:Lays.n152 P ρ) (r:Int) (h0:128≤r) (h1:r≠65533) (w:World) :
  Calls P (ρ.f 152) #[.string eol,.int .i32 r] w fun e w'=>e=.returned (.int .i64 (-1))∧Below w.heap.size w w':=by
 have t3:=L.t3;have a3:=L.a3;have z3:=L.z3;have v3:=L.v3
 have t4:=L.t4;have a4:=L.a4;have z4:=L.z4;have v4:=L.v4
 have t5:=L.t5;have a5:=L.a5;have z5:=L.z5;have v5:=L.v5
 have t9:=L.t9;have a9:=L.a9;have z9:=L.z9;have v9:=L.v9
 have t21:=L.t21;have a21:=L.a21;have z21:=L.z21;have v21:=L.v21
 have hsz:eol.size=2:=rfl
 have mixed:=L.mixed
 have u21:=run_underlying L.t21;have u9:=run_underlying L.t9
 have e137:∀ args w,(callFunc (ρ.f 137) args).run P w=.ok (.enter (ρ.f 137) args) w:=enters_of L.f137 (by kernel_rfl) rfl
 have e119:∀ args w,(callFunc (ρ.f 119) args).run P w=.ok (.enter (ρ.f 119) args) w:=enters_of L.f119 (by kernel_rfl) rfl
 have hr1:¬ (r<128):=by omega
 cases hv:Lib.validRune r with
 | false =>
  go_enter L.f152,Body.n152_ntmps ρ
  go_wp2_with (go_at_fn (ρ.f 119);refine (Any.utf8_ValidRune { L with } _ _).mono ?_;rintro e w' ⟨rfl,hw⟩;rw [hw,hv])
  go_ret
  exact ⟨rfl,Below.refl _ _⟩
 | true =>
  have hv':Utf8.valid r=true:=by
   unfold Lib.validRune at hv
   unfold Utf8.valid
   simp only [Bool.or_eq_true,Bool.and_eq_true,decide_eq_true_eq] at hv ⊢
   omega
  obtain ⟨f1,f2,f3⟩:=encode_facts r hv' h0
  clear hv'
  obtain ⟨rs,hrs⟩:∃ rs,Utf8.encode r=rs:=⟨_,rfl⟩
  rw [hrs] at f1 f2 f3
  have hconv:∀ w,(convert (ρ.t 21) (ρ.t 9) (.int .i32 r)).run P w=.ok (.string rs) w:=fun w=>by
   rw [run_convert_int_string w _ _ _ _ (by rw [t21];rfl) t9,hrs]
  have hlast:IntKind.i64.wrap ((rs.size:Int)-1)=(rs.size:Int)-1:=wrap_small _ (by omega) (by omega)
  clear hrs
  by_cases h2:rs.size=2
  ·obtain ⟨b0,b1,rfl⟩:∃ b0 b1,rs=⟨#[b0,b1]⟩:=by
    obtain ⟨⟨l⟩⟩:=rs
    match l,h2 with
    | [x,y],_=>exact ⟨x,y,rfl⟩
   have hb:128≤b1.toNat:=f3 (by show 1<2;decide)
   have hz:(⟨#[b0,b1]⟩:ByteArray).size=2:=rfl
   have hne:¬ ((10:Int)=(b1.toNat:Int)):=by omega
   clear f1 f2 f3 h2
   rw [hz] at hlast
   go_enter L.f152,Body.n152_ntmps ρ
   go_wp2_with (go_at_fn (ρ.f 119);refine (Any.utf8_ValidRune { L with } _ _).mono ?_;rintro e w' ⟨rfl,hw⟩;rw [hw,hv])
   go_step3
   go_wp2
   go_loopg [9,10] 0 (fun g s9 s10 wx=>s9=.int .i64 1∧s10=.int .i64 0∧wx=w)
   case atStart=>exact ⟨rfl,rfl,rfl⟩
   case round =>
    obtain ⟨rfl,rfl,rfl⟩:=hrel
    go_wp2
    go_step3
    have hx:eol[1]'(by decide)=10:=rfl
    have hy:(⟨#[b0,b1]⟩:ByteArray)[1]'(by show 1<2;decide)=b1:=rfl
    go_wp2
    go_quiet_o (fail)
    go_wp2
    have hsl:∀ w,(Instr.slice (ρ.t 9) (.string eol) (some (.int .i64 2)) none none).run P w=.ok (.string ⟨#[]⟩) w:=fun w=>by
     rw [run_slice_string_from_if w _ eol .i64 2 t9]
     rfl
    generalize hW:World.drewN _ _=W
    have HW:Aside (∃ n,W=wr.drewN n):=⟨_,hW.symm⟩
    clear hW
    have hw2:IntKind.i64.wrap 2=2:=by decide
    go_quiet_o (first|(go_at_fn (ρ.f 137);refine Calls.quiet_of_same (Any.strings_IndexByte { L with } _ _ _)))
    go_wp2
    rw [Exit.noGoto_ret]
    go_wp2
    (try rw [Exit.noGoto_ret])
    (try go_wp2)
    go_ret
    obtain ⟨n,rfl⟩:=HW.out
    exact ⟨rfl,⟨rfl,rfl,rfl,Nat.le_refl _,fun _ _=>rfl⟩⟩
  ·have hlt:¬ ((rs.size:Int)-1<2):=by omega
   go_enter L.f152,Body.n152_ntmps ρ
   go_wp2_with (go_at_fn (ρ.f 119);refine (Any.utf8_ValidRune { L with } _ _).mono ?_;rintro e w' ⟨rfl,hw⟩;rw [hw,hv])
   go_step3
   go_wp2
   go_loopg [9,10] 0 (fun g s9 s10 wx=>s9=.int .i64 ((rs.size:Int)-1)∧s10=.int .i64 0∧wx=w)
   case atStart=>exact ⟨rfl,rfl,rfl⟩
   case round =>
    obtain ⟨rfl,rfl,rfl⟩:=hrel
    go_wp2
    rw [Exit.noGoto_ret];go_wp2
    go_ret
    exact ⟨rfl,Below.refl _ _⟩
theorem eol_get_val (s:ByteArray) (i:Nat) (h:i<s.size):s.data.toList[i]?=some (s.get! i):=by
 rw [Lib.data_getElem? s i h]
 simp [ByteArray.get!,getElem!_pos,h]
 rfl
theorem eol_decode_bytes (s:ByteArray) (pos:Nat) (h:pos<s.size) (ha:128≤(s.get! pos).toNat) :
  128≤(Utf8.decode s pos).1∧1≤(Utf8.decode s pos).2∧pos+(Utf8.decode s pos).2≤s.size∧∀ j,j<(Utf8.decode s pos).2→128≤(s.get! (pos+j)).toNat:=by
 have hn:¬ (s.get! (pos+0)).toNat<128:=by simpa using ha
 have h1:∀ (c:Nat),128≤c→128≤(c,1).1∧1≤(c,1).2∧pos+(c,1).2≤s.size∧∀ j,j<(c,1).2→128≤(s.get! (pos+j)).toNat:=fun c hc =>
  ⟨hc,Nat.le_refl _,by show pos+1≤s.size;omega,fun j hj=>by
   have hj:j<1:=hj
   obtain rfl:j=0:=by omega
   simpa using ha⟩
 have hb:∀ k,(s.get! (pos+k)).toNat / 64=2→128≤(s.get! (pos+k)).toNat:=fun k hk=>by omega
 simp only [Utf8.decode,hn,if_false,Utf8.runeError]
 split
 ·rename_i hc
  simp only [Bool.and_eq_true,beq_iff_eq,decide_eq_true_eq] at hc
  split
  ·rename_i h2
   refine ⟨h2,by show 1≤2;omega,by show pos+2≤s.size;omega,fun j hj=>?_⟩
   have hj:j<2:=hj
   rcases (by omega:j=0∨j=1) with rfl|rfl
   ·simpa using ha
   ·exact hb 1 hc.2.2
  ·exact h1 _ (by decide)
 split
 ·rename_i hc
  simp only [Bool.and_eq_true,beq_iff_eq,decide_eq_true_eq] at hc
  split
  ·rename_i h2
   simp only [Bool.and_eq_true,decide_eq_true_eq] at h2
   refine ⟨by have:=h2.1;show 128≤_;simp only;omega,by show 1≤3;omega,by show pos+3≤s.size;omega,fun j hj=>?_⟩
   have hj:j<3:=hj
   rcases (by omega:j=0∨j=1∨j=2) with rfl|rfl|rfl
   ·simpa using ha
   ·exact hb 1 hc.1.2.2
   ·exact hb 2 hc.2.2
  ·exact h1 _ (by decide)
 split
 ·rename_i hc
  simp only [Bool.and_eq_true,beq_iff_eq,decide_eq_true_eq] at hc
  split
  ·rename_i h2
   simp only [Bool.and_eq_true,decide_eq_true_eq] at h2
   refine ⟨by have:=h2.1;show 128≤_;simp only;omega,by show 1≤4;omega,by show pos+4≤s.size;omega,fun j hj=>?_⟩
   have hj:j<4:=hj
   rcases (by omega:j=0∨j=1∨j=2∨j=3) with rfl|rfl|rfl|rfl
   ·simpa using ha
   ·exact hb 1 hc.1.1.2.2
   ·exact hb 2 hc.1.2.2
   ·exact hb 3 hc.2.2
  ·exact h1 _ (by decide)
 ·exact h1 _ (by decide)
theorem eol_run {s:ByteArray} {i k:Nat} (h:NoAny s.data.toList eol.data.toList i) (hk:i+k≤s.size) (hb:∀ j,j<k→128≤(s.get! (i+j)).toNat):NoAny s.data.toList eol.data.toList (i+k):=fun j b hj hjb=>by
 by_cases hlt:j<i
 ·exact h j b hlt hjb
 ·have h1:=hb (j-i) (by omega)
  rw [show i+(j-i)=j by omega] at h1
  rw [eol_get_val s j (by omega)] at hjb
  cases hjb
  show ([13,10]:List UInt8).contains _=false
  simp only [List.contains_cons,List.contains_nil,Bool.or_false,Bool.or_eq_false_iff,beq_eq_false_iff_ne]
  refine ⟨fun e=>?_,fun e=>?_⟩<;>(rw [e] at h1;simp at h1)
set_option maxHeartbeats 8000000 in
theorem eol_indexAny_short (L:Lays.n153 P ρ) (s:ByteArray) (w:World) (h8:s.size≤8) :
  Calls P (ρ.f 153) #[.string s,.string eol] w fun e w'=>e=.returned (.int .i64 (Lib.indexAny s.data.toList eol.data.toList))∧Below w.heap.size w w':=by
 have hemp:eol.toList.isEmpty=false:=by rw [Lib.toList_data];rfl
 have hn0:(eol.size:Int)=2:=rfl
 have hn1:((eol.size:Int) == 1)=false:=rfl
 have h8z:decide ((8:Int)<(s.size:Int))=false:=decide_eq_false (by omega)
 have t3:=L.t3;have a3:=L.a3;have z3:=L.z3;have v3:=L.v3
 have t4:=L.t4;have a4:=L.a4;have z4:=L.z4;have v4:=L.v4
 have t5:=L.t5;have a5:=L.a5;have z5:=L.z5;have v5:=L.v5
 have t9:=L.t9;have a9:=L.a9;have z9:=L.z9;have v9:=L.v9
 have t21:=L.t21;have a21:=L.a21;have z21:=L.z21;have v21:=L.v21
 have e152:∀ args w,(callFunc (ρ.f 152) args).run P w=.ok (.enter (ρ.f 152) args) w:=enters_of L.f152 (by kernel_rfl) rfl
 have e226:∀ args w,(callFunc (ρ.f 226) args).run P w=.ok (.enter (ρ.f 226) args) w:=enters_of L.f226 (by kernel_rfl) rfl
 go_enter L.f153,Body.n153_ntmps ρ
 go_wp2_with (go_at_fn (ρ.f 226);refine (Any.strings_shouldUseASCIISet { L with } _ _).mono ?_;rintro e w' ⟨rfl,hw⟩;rw [hw,h8z])
 go_loopg [9,10] s.size (fun g _ _ wx=>∃ i:Nat,i+g=s.size∧(wx.heap[w.heap.size]?=some (.stringIter s i)∧Below w.heap.size w wx)∧Lib.NoAny s.data.toList eol.data.toList i)
 case atStart=>exact ⟨0,by omega,⟨World.iter_heap w s 0,(Below.refl _ _).alloc (Nat.le_refl _) _⟩,Lib.NoAny.zero _ _⟩
 case round =>
  obtain ⟨i,hig,hst,hno⟩:=hrel
  obtain ⟨hit,hbe⟩:=hst
  have HN:Aside (Lib.NoAny s.data.toList eol.data.toList i∧Below w.heap.size w wr):=⟨hno,hbe⟩
  clear hno hbe
  cases gk with
  | zero =>
   obtain rfl:i=s.size:=by omega
   have hnx:=fun ty=>eol_next_stop (P:=P) wr w.heap.size s s.size ty hit (by omega)
   go_wp2
   go_ret
   exact ⟨by rw [Lib.indexAny_none (by rw [← Lib.size_eq];exact HN.out.1)];rfl,HN.out.2⟩
  | succ g =>
   have hi:i<s.size:=by omega
   have hnx:=fun ty=>eol_next_at (P:=P) wr w.heap.size s i ty hit hi
   have hwlt:w.heap.size<wr.heap.size:=(Array.getElem?_eq_some_iff.1 hit).1
   have hst2:∀ k,({ wr with heap:=wr.heap.setIfInBounds w.heap.size (.stringIter s k) }:World).heap[w.heap.size]?=some (.stringIter s k):=fun k=>by
    show (wr.heap.setIfInBounds w.heap.size (.stringIter s k))[w.heap.size]?=_
    simp [hwlt]
   have hbl2:∀ k,Below w.heap.size w ({ wr with heap:=wr.heap.setIfInBounds w.heap.size (.stringIter s k) }:World):=fun k=>by
    have hb:=HN.out.2
    refine ⟨hb.os,hb.tape,hb.output,by simpa using hb.size,fun n hn=>?_⟩
    show (wr.heap.setIfInBounds w.heap.size (.stringIter s k))[n]?=_
    rw [Array.getElem?_setIfInBounds_ne (by omega)]
    exact hb.block n hn
   have HB:Aside ((∀ k,({ wr with heap:=wr.heap.setIfInBounds w.heap.size (.stringIter s k) }:World).heap[w.heap.size]?=some (.stringIter s k))∧(∀ k,Below w.heap.size w ({ wr with heap:=wr.heap.setIfInBounds w.heap.size (.stringIter s k) }:World))∧w.heap.size<wr.heap.size):=⟨hst2,hbl2,hwlt⟩
   clear hst2 hbl2 hwlt hit
   by_cases ha:128≤(s.get! i).toNat
   ·obtain ⟨d1,d2,d3,d4⟩:=eol_decode_bytes s i hi ha
    have HD:Aside (1≤(Utf8.decode s i).2∧i+(Utf8.decode s i).2≤s.size∧∀ j,j<(Utf8.decode s i).2→128≤(s.get! (i+j)).toNat):=⟨d2,d3,d4⟩
    clear d2 d3 d4 ha
    generalize hr:(Utf8.decode s i).1=r at hnx d1
    generalize hk:(Utf8.decode s i).2=k at hnx HD
    clear hr hk
    generalize hW:({ wr with heap:=wr.heap.setIfInBounds w.heap.size (.stringIter s (i+k)) }:World)=W at hnx
    have HW:Aside (W.heap[w.heap.size]?=some (.stringIter s (i+k))∧Below w.heap.size w W):=⟨by rw [← hW];exact HB.out.1 _,by rw [← hW];exact HB.out.2.1 _⟩
    clear hW
    have hru:Calls P (ρ.f 152) #[.string eol,.int .i32 (r:Int)] W fun e w'=>e=.returned (.int .i64 (-1))∧Below W.heap.size W w':=by
     by_cases he:(r:Int)=65533
     ·rw [he];exact eol_rune_err { L with } W
     ·exact eol_rune_high { L with } _ (by omega) he W
    go_wp2_with (go_at_fn (ρ.f 152);refine hru.mono ?_;rintro e w' ⟨rfl,hw⟩)
    go_roundg (s.size-(i+k))
    case measure=>have:=HD.out.1;omega
    case rel =>
     obtain ⟨g1,g2⟩:=HW.out
     obtain ⟨f1,f2,f3⟩:=HD.out
     have hlt:w.heap.size<W.heap.size:=(Array.getElem?_eq_some_iff.1 g1).1
     exact ⟨i+k,by omega,⟨by rw [hw.block _ hlt];exact g1,g2.trans (hw.mono (by omega))⟩,eol_run HN.out.1 f2 f3⟩
   ·have hx128:(s[i]'hi).toNat<128:=by
     have e:s.get! i=s[i]'hi:=get_at s i hi
     rw [← e];omega
    have hde:Utf8.decode s i=((s[i]'hi).toNat,1):=decode_ascii s i hi hx128
    obtain ⟨x,hx⟩:∃ x:UInt8,s[i]'hi=x:=⟨_,rfl⟩
    have hxl:s.data.toList[i]?=some x:=by rw [← hx];exact Lib.data_getElem? s i hi
    have Hx:Aside (s.data.toList[i]?=some x):=hxl
    rw [hde,hx] at hnx
    rw [hx] at hx128
    clear hxl hx ha hde
    have hcon:=Lib.contains_iff_indexByte eol.data.toList x
    have hback:((x.toNat:Int)).toNat.toUInt8=x:=by simp
    generalize hW:({ wr with heap:=wr.heap.setIfInBounds w.heap.size (.stringIter s (i+1)) }:World)=W at hnx
    have HW:Aside (W.heap[w.heap.size]?=some (.stringIter s (i+1))∧Below w.heap.size w W):=⟨by rw [← hW];exact HB.out.1 _,by rw [← hW];exact HB.out.2.1 _⟩
    clear hW
    cases hin:eol.data.toList.contains x
    ·rw [hin] at hcon
     have hlt:¬ ((0:Int)≤Lib.indexByte eol.data.toList x):=of_decide_eq_false hcon.symm
     clear hcon
     go_wp2_with (go_at_fn (ρ.f 152);refine (Any.strings_IndexRune_ascii { L with } _ _ _ (by omega) (by omega)).mono ?_;rintro e w' ⟨rfl,hw⟩;rw [hw,hback])
     go_roundg g
     case measure=>omega
     case rel=>exact ⟨i+1,by omega,HW.out,HN.out.1.succ Hx.out hin⟩
    ·rw [hin] at hcon
     have hge:(0:Int)≤Lib.indexByte eol.data.toList x:=of_decide_eq_true hcon.symm
     clear hcon
     go_wp2_with (go_at_fn (ρ.f 152);refine (Any.strings_IndexRune_ascii { L with } _ _ _ (by omega) (by omega)).mono ?_;rintro e w' ⟨rfl,hw⟩;rw [hw,hback])
     go_ret
     exact ⟨by rw [Lib.indexAny_hit HN.out.1 Hx.out hin];rfl,HW.out.2⟩
end
end Go.Proofs.YticbbfbpeimkbaaGreatDoor
namespace Go.Proofs.YticbbfbpeimkbaaGreatDoor
open Go.Ab Go.Lib
theorem idxEolC (s:List UInt8) (hs:s.length≤4294967000):Pure Tryz.prog 218 [.str s,.str [13,10]] (.int .i64 (Lib.indexAny s [13,10])):=by
 refine Pure.of_below fun γ w vs ht hv=>?_
 obtain ⟨hlv,hr⟩:=hv
 match vs,hlv with
 | [v,u],_ =>
  cases hr 0 _ _ rfl rfl
  cases hr 1 _ _ rfl rfl
  by_cases h8:s.length≤8
  ·exact (eol_indexAny_short (P:=Tryz.prog) Tryz.lays153 ⟨s.toArray⟩ w (by simpa [ByteArray.size] using h8)).mono fun e w' ⟨he,hw⟩=>⟨hw,_,he,.int _ _⟩
  ·refine (Tryz.strings_IndexAny_long (zero_of_info (n:=256) (by kernel_rfl)).1 ⟨s.toArray⟩ ⟨#[13,10]⟩ w (by decide) (by simp only [ByteArray.size,List.size_toArray];omega) (by simp only [ByteArray.size,List.size_toArray];omega) (by decide) (fun j b hj=>?_)).mono fun e w' ⟨he,hw⟩=>⟨?_,_,he,.int _ _⟩
   ·have hj:([13,10]:List UInt8)[j]?=some b:=hj
    match j,hj with
    | 0,hj=>cases hj;decide
    | 1,hj=>cases hj;decide
    | j+2,hj=>simp at hj
   ·rw [hw]
    exact ((Go.RowKit.Below.refl _ _).alloc (Nat.le_refl _) _).alloc (by simp) _
theorem eol_take (r:List UInt8):Lib.indexAny r [13,10]=if r.all notEol then -1 else ((r.takeWhile notEol).length:Int):=by
 induction r with
 | nil=>rfl
 | cons c r ih =>
  rw [Lib.indexAny,ih]
  by_cases hc:notEol c=true
  ·have h1:([13,10]:List UInt8).contains c=false:=by
    unfold notEol at hc
    simp at hc
    simp [hc.1,hc.2]
   rw [h1]
   by_cases ha:r.all notEol=true
   ·simp [ha,hc]
   ·have h2:¬ (((r.takeWhile notEol).length:Int)=-1):=by omega
    simp [ha,hc,h2]
  ·have h1:([13,10]:List UInt8).contains c=true:=by
    unfold notEol at hc
    simp at hc
    simp
    rcases Classical.em (c=13) with h|h
    ·exact .inl h
    ·exact .inr (Classical.byContradiction fun h10=>h (hc h10))
   rw [h1]
   simp [hc]
theorem take_all {p:UInt8→Bool}:∀ r:List UInt8,r.all p=true→r.takeWhile p=r
 | [],_=>rfl
 | c :: r,h=>by
  simp only [List.all_cons,Bool.and_eq_true] at h
  rw [List.takeWhile_cons,if_pos h.1,take_all r h.2]
theorem gapN_cons (c:UInt8) (r:List UInt8):gapN (c :: r)=if c=9∨c=10∨c=13∨c=32∨c=44 then 1 else if bomT.isPrefixOf (c :: r) then 3 else if c=35 then 1+(r.takeWhile notEol).length else 0:=rfl
theorem gapC (c:UInt8) (r:List UInt8) (hs:(c :: r).length≤1000000):Pure Tryz.prog 123 [.str (c :: r)] (.int .i64 (gapN (c :: r))):=by
 refine Pure.go ir123 ck123 (Nat.le_refl _) fun KP Q hQ=>?_
 have hl:((0:Int)<((c :: r).length:Int))=True:=eq_true (by simp only [List.length_cons];omega)
 by_cases hw:c=9∨c=10∨c=13∨c=32∨c=44
 ·have e:gapN (c :: r)=1:=by rw [gapN_cons,if_pos hw]
  rw [e] at hQ
  rcases hw with rfl|rfl|rfl|rfl|rfl
  ·have hc:((9:UInt8).toNat:Int)=9:=rfl
   simp (disch:=first|omega|assumption) only [ir123,hl,List.getD_cons_zero,hc,go_sem,↓reduceIte]
   exact hQ _ _ _ _ nofun rfl (by simp [tupOf,envOf,AV.strip,AV.strip1])
  ·have hc:((10:UInt8).toNat:Int)=10:=rfl
   simp (disch:=first|omega|assumption) only [ir123,hl,List.getD_cons_zero,hc,go_sem,↓reduceIte]
   exact hQ _ _ _ _ nofun rfl (by simp [tupOf,envOf,AV.strip,AV.strip1])
  ·have hc:((13:UInt8).toNat:Int)=13:=rfl
   simp (disch:=first|omega|assumption) only [ir123,hl,List.getD_cons_zero,hc,go_sem,↓reduceIte]
   exact hQ _ _ _ _ nofun rfl (by simp [tupOf,envOf,AV.strip,AV.strip1])
  ·have hc:((32:UInt8).toNat:Int)=32:=rfl
   simp (disch:=first|omega|assumption) only [ir123,hl,List.getD_cons_zero,hc,go_sem,↓reduceIte]
   exact hQ _ _ _ _ nofun rfl (by simp [tupOf,envOf,AV.strip,AV.strip1])
  ·have hc:((44:UInt8).toNat:Int)=44:=rfl
   simp (disch:=first|omega|assumption) only [ir123,hl,List.getD_cons_zero,hc,go_sem,↓reduceIte]
   exact hQ _ _ _ _ nofun rfl (by simp [tupOf,envOf,AV.strip,AV.strip1])
 have nat:∀ k:Nat,(c.toNat:Int)=k→k<256→c=UInt8.ofNat k:=fun k h hk=>UInt8.toNat_inj.1 (by rw [UInt8.toNat_ofNat'];omega)
 have g9:¬ ((c.toNat:Int)=9):=fun e=>hw (.inl (nat 9 e (by decide)))
 have g10:¬ ((c.toNat:Int)=10):=fun e=>hw (.inr (.inl (nat 10 e (by decide))))
 have g13:¬ ((c.toNat:Int)=13):=fun e=>hw (.inr (.inr (.inl (nat 13 e (by decide)))))
 have g32:¬ ((c.toNat:Int)=32):=fun e=>hw (.inr (.inr (.inr (.inl (nat 32 e (by decide))))))
 have g44:¬ ((c.toNat:Int)=44):=fun e=>hw (.inr (.inr (.inr (.inr (nat 44 e (by decide))))))
 simp (disch:=first|omega|assumption) only [ir123,hl,List.getD_cons_zero,g9,g10,g13,g32,g44,go_sem,↓reduceIte]
 refine goK_pure (prefixC (c :: r) [239,187,191]) ?_
 by_cases hb:([239,187,191]:List UInt8).isPrefixOf (c :: r)=true
 ·have e:gapN (c :: r)=3:=by rw [gapN_cons,if_neg hw];exact if_pos hb
  rw [e] at hQ
  simp (disch:=first|omega|assumption) only [hb,go_sem,↓reduceIte]
  exact hQ _ _ _ _ nofun rfl (by simp [tupOf,envOf,AV.strip,AV.strip1])
 have hb':([239,187,191]:List UInt8).isPrefixOf (c :: r)=false:=Bool.eq_false_iff.2 hb
 by_cases h35:c=35
 ·subst h35
  have e:gapN (35 :: r)=1+(r.takeWhile notEol).length:=by rw [gapN_cons,if_neg hw,if_neg (show ¬ (bomT.isPrefixOf _=true) from hb),if_pos rfl]
  rw [e] at hQ
  have hc:((35:UInt8).toNat:Int)=35:=rfl
  simp (disch:=first|omega|assumption) only [hb',hc,go_sem,↓reduceIte]
  have hp:=idxEolC (35 :: r) (by omega)
  rw [eol_take] at hp
  have n35:notEol 35=true:=rfl
  by_cases ha:r.all notEol=true
  ·have e2:=take_all r ha
   have e3:(35 :: r).all notEol=true:=by rw [List.all_cons,n35,ha];rfl
   rw [if_pos e3] at hp
   refine goK_pure hp ?_
   have h0:¬ ((0:Int)≤-1):=by decide
   simp (disch:=first|omega|assumption) only [h0,go_sem,↓reduceIte]
   exact hQ _ _ _ _ nofun rfl (by simp [tupOf,envOf,AV.strip,AV.strip1,e2,Int.add_comm])
  ·have e3:¬ ((35 :: r).all notEol=true):=by rw [List.all_cons,n35,Bool.true_and];exact ha
   have e2:((35 :: r).takeWhile notEol).length=1+(r.takeWhile notEol).length:=by rw [List.takeWhile_cons,if_pos n35];simp;omega
   rw [if_neg e3,e2] at hp
   refine goK_pure hp ?_
   have h0:((0:Int)≤((1+(r.takeWhile notEol).length:Nat):Int))=True:=eq_true (by omega)
   simp (disch:=first|omega|assumption) only [h0,go_sem,↓reduceIte]
   exact hQ _ _ _ _ nofun rfl (by simp [tupOf,envOf,AV.strip,AV.strip1])
 ·have e:gapN (c :: r)=0:=by rw [gapN_cons,if_neg hw,if_neg (show ¬ (bomT.isPrefixOf _=true) from hb),if_neg h35]
  rw [e] at hQ
  have g35:¬ ((c.toNat:Int)=35):=fun e=>h35 (nat 35 e (by decide))
  simp (disch:=first|omega|assumption) only [hb',g35,go_sem,↓reduceIte]
  exact hQ _ _ _ _ nofun rfl (by simp [tupOf,envOf,AV.strip,AV.strip1])
theorem wordN_cons (c:UInt8) (r:List UInt8):wordN (c :: r)=if (isL c || isD c)=true then 1+wordN r else 0:=by
 unfold wordN
 rw [List.takeWhile_cons]
 split
 ·simp;omega
 ·rfl
theorem wordTC (s:List UInt8) (hs:s.length≤Lim) (h0:isL (s.getD 0 0)=true):Pure Tryz.prog 224 [.str s] (.int .i64 (wordN s)):=by
 refine Pure.go ir224 ck224 (Nat.le_refl _) fun KP Q hQ=>?_
 simp only [Lim] at hs
 have hr1:=wordN_le s
 simp (disch:=first|omega|assumption) only [ir224,go_sem,↓reduceIte]
 refine goL_st (fun n:Nat=>[(3,.int .i64 n)]) (fun n H=>wordN s=n+wordN (s.drop n)∧n≤s.length) (fun n=>s.length-n) 0 (by simp (disch:=first|omega|assumption) only [go_sem,↓reduceIte]) ⟨by simp,by omega⟩ ?_
 rintro n H J ⟨hn,hle⟩ hJ
 rcases drop_cases s n with ⟨h1,h2⟩|⟨h1,h2⟩
 ·have hlt:¬ ((n:Int)<s.length):=by omega
  rw [h1] at hn
  simp only [wordN,List.takeWhile_nil,List.length_nil,Nat.add_zero] at hn
  simp (disch:=first|omega|assumption) only [hlt,go_sem,↓reduceIte]
  exact hQ _ _ _ _ nofun rfl (by simp [tupOf,envOf,AV.strip,AV.strip1,wordN,hn])
 ·have hlt:((n:Int)<s.length):=by omega
  rw [h2,wordN_cons] at hn
  simp (disch:=first|omega|assumption) only [hlt,go_sem,↓reduceIte]
  refine goK_pure (letterC (s.getD n 0)) ?_
  cases hl:isL (s.getD n 0) with
  | true =>
   simp only [hl,Bool.true_or,if_true] at hn
   simp (disch:=first|omega|assumption) only [hl,go_sem,↓reduceIte]
   exact goJ (hJ (n+1) _ (by omega) ⟨by omega,by omega⟩) (by simp (disch:=first|omega|assumption) only [wrap64,Int.natCast_add,Int.natCast_one,go_sem,↓reduceIte])
  | false =>
   have hn0:((0:Int)<(n:Int))=True:=eq_true (by
    rcases Nat.eq_zero_or_pos n with e|e
    ·subst e;rw [h0] at hl;cases hl
    ·omega)
   simp (disch:=first|omega|assumption) only [hl,hn0,hlt,go_sem,↓reduceIte]
   refine goK_pure (digitC (s.getD n 0)) ?_
   cases hd:isD (s.getD n 0) with
   | true =>
    simp only [hl,hd,Bool.or_true,if_true] at hn
    simp (disch:=first|omega|assumption) only [hd,go_sem,↓reduceIte]
    exact goJ (hJ (n+1) _ (by omega) ⟨by omega,by omega⟩) (by simp (disch:=first|omega|assumption) only [wrap64,Int.natCast_add,Int.natCast_one,go_sem,↓reduceIte])
   | false =>
    simp only [hl,hd,Bool.or_false,Bool.false_eq_true,if_false,Nat.add_zero] at hn
    simp (disch:=first|omega|assumption) only [hd,go_sem,↓reduceIte]
    exact hQ _ _ _ _ nofun rfl (by simp [tupOf,envOf,AV.strip,AV.strip1,hn])
def blkA (n:Nat) (x:Option (List UInt8 × List UInt8)):AV:=match x with
 | some (raw,t)=>.tup [.str (blockM raw),.int .i64 ((n-t.length:Nat):Int)]
 | none=>.tup [.str [],.int .i64 0]
theorem rawM_fuel:∀ (n m:Nat) (raw t:List UInt8),t.length<n→t.length<m→rawM n raw t=rawM m raw t
 | 0,_,_,_,h,_=>absurd h (Nat.not_lt_zero _)
 | _,0,_,_,_,h=>absurd h (Nat.not_lt_zero _)
 | n+1,m+1,raw,[],_,_=>rfl
 | n+1,m+1,raw,c :: r,h1,h2=>by
  simp only [List.length_cons] at h1 h2
  simp only [rawM]
  rw [rawM_fuel n m (raw++threeT) (r.drop 3) (by simp;omega) (by simp;omega),rawM_fuel n m (raw++[c]) r (by omega) (by omega)]
theorem rawM_len:∀ (n:Nat) (raw t b t':List UInt8),rawM n raw t=some (b,t')→b.length+t'.length≤raw.length+t.length∧t'.length≤t.length
 | 0,_,_,_,_,h=>by cases h
 | n+1,raw,[],_,_,h=>by cases h
 | n+1,raw,c :: r,b,t',h=>by
  simp only [rawM] at h
  split at h
  ·cases h;simp;omega
  split at h
  ·rename_i h2
   have hl:=pre_len _ _ h2
   simp only [escT,List.length_cons,List.length_nil] at hl
   have:=rawM_len n _ _ _ _ h
   simp [threeT] at this ⊢;omega
  ·have:=rawM_len n _ _ _ _ h
   simp at this ⊢;omega
theorem blockedC (s:List UInt8) (h3:3≤s.length) (hs:s.length≤LimQ):Pure Tryz.prog 219 [.str s] (blkA s.length (rawM (s.length-2) [] (s.drop 3))):=by
 refine Pure.go ir219 ck219 (Nat.le_refl _) fun KP Q hQ=>?_
 simp only [LimQ] at hs
 obtain ⟨R,hR⟩:∃ R,rawM (s.length-2) [] (s.drop 3)=R:=⟨_,rfl⟩
 rw [hR] at hQ
 simp (disch:=first|omega|assumption) only [ir219,go_sem,↓reduceIte]
 refine goL_st (fun x:Own × List UInt8 × Nat=>[(4,.sl x.1 1 (bytesOf x.2.1)),(5,.int .i64 x.2.2)]) (fun x H=>3≤x.2.2∧x.2.2≤s.length∧x.2.1.length+3≤x.2.2∧rawM ((s.drop x.2.2).length+1) x.2.1 (s.drop x.2.2)=R∧Owned H x.1 x.2.1.length 1) (fun x=>s.length-x.2.2) (.nil,[],3) (by simp (disch:=first|omega|assumption) only [bytesOf,go_sem,↓reduceIte]) ⟨Nat.le_refl _,h3,Nat.le_refl _,by rw [← hR];simp only [List.length_drop];rw [show s.length-3+1=s.length-2 by omega],rfl⟩ ?_
 rintro ⟨o,raw,i⟩ H J ⟨hi3,hi,hrl,hrw,ho⟩ hJ
 simp only at hi3 hi hrl hrw ho
 have hbl:=bytesOf_len raw
 by_cases hge:s.length≤i
 ·obtain rfl:i=s.length:=by omega
  rw [List.drop_length] at hrw
  have e:R=none:=by rw [← hrw];rfl
  have h1:((s.length:Int)≤(s.length:Int))=True:=eq_true (Int.le_refl _)
  simp (disch:=first|omega|assumption) only [h1,go_sem,↓reduceIte]
  exact hQ _ _ _ _ nofun rfl (by simp [tupOf,envOf,AV.strip,AV.strip1,blkA,e])
 have hge':¬ ((s.length:Int)≤(i:Int)):=by omega
 have hle:((i:Int)≤(s.length:Int))=True:=eq_true (by omega)
 have hlt:((i:Int)<(s.length:Int))=True:=eq_true (by omega)
 obtain ⟨c,r,hd⟩:∃ c r,s.drop i=c :: r:=by
  cases hx:s.drop i with
  | nil=>have:=congrArg List.length hx;simp at this;omega
  | cons c r=>exact ⟨c,r,rfl⟩
 have hc:s.getD i 0=c:=by
  have:(s.drop i).getD 0 0=c:=by rw [hd];rfl
  simpa [List.getD_eq_getElem?_getD] using this
 have hdl:s.length=i+(r.length+1):=by have:=congrArg List.length hd;simp at this;omega
 rw [hd] at hrw
 simp only [rawM] at hrw
 simp (disch:=first|omega|assumption) only [hge',hle,go_sem,↓reduceIte]
 refine goK_pure (prefixC (s.drop i) [34,34,34]) ?_
 rw [hd]
 by_cases p1:threeT.isPrefixOf (c :: r)=true
 ·have p1':([34,34,34]:List UInt8).isPrefixOf (c :: r)=true:=p1
  have hl3:=pre_len _ _ p1
  simp only [threeT,List.length_cons,List.length_nil] at hl3
  rw [if_pos p1] at hrw
  simp (disch:=first|omega|assumption) only [p1',byts_of,go_sem,↓reduceIte]
  refine goK_pure (blockTC raw (by omega)) ?_
  have e:((s.length-(r.length-2):Nat):Int)=(i:Int)+3:=by omega
  simp (disch:=first|omega|assumption) only [wrap64,go_sem,↓reduceIte]
  exact hQ _ _ _ _ nofun rfl (by simp [tupOf,envOf,AV.strip,AV.strip1,blkA,← hrw,e])
 have p1':([34,34,34]:List UInt8).isPrefixOf (c :: r)=false:=Bool.eq_false_iff.2 p1
 rw [if_neg p1] at hrw
 simp (disch:=first|omega|assumption) only [p1',hle,go_sem,↓reduceIte]
 refine goK_pure (prefixC (s.drop i) [92,34,34,34]) ?_
 rw [hd]
 by_cases p2:escT.isPrefixOf (c :: r)=true
 ·have p2':([92,34,34,34]:List UInt8).isPrefixOf (c :: r)=true:=p2
  have hl4:=pre_len _ _ p2
  simp only [escT,List.length_cons,List.length_nil] at hl4
  rw [if_pos p2] at hrw
  simp (disch:=first|omega|assumption) only [p2',go_sem,↓reduceIte]
  refine goP_ownS (by rw [hbl];exact ho) (by simp [hbl,bytesOf];omega) (by simp [hbl,bytesOf,maxLen];omega) fun o' H' hs2=>?_
  have hdr:s.drop (i+4)=r.drop 3:=by rw [← List.drop_drop,hd];rfl
  simp (disch:=first|omega|assumption) only [wrap64,go_sem,↓reduceIte]
  refine goJ (hJ (o',raw++threeT,i+4) _ (by simp only;omega) ⟨by simp only;omega,by simp only;omega,by simp [threeT];omega,?_,?_⟩) (by simp (disch:=first|omega|assumption) only [← bytesOf_app,Int.natCast_add,threeT,bytesOf_strip,go_sem,↓reduceIte])
  ·simp only
   rw [hdr,← hrw]
   exact rawM_fuel _ _ _ _ (Nat.lt_succ_self _) (by simp;omega)
  ·have h:=hs2.own
   simpa [hbl,bytesOf,threeT] using h
 ·have p2':([92,34,34,34]:List UInt8).isPrefixOf (c :: r)=false:=Bool.eq_false_iff.2 p2
  rw [if_neg p2] at hrw
  simp (disch:=first|omega|assumption) only [p2',hlt,hc,go_sem,↓reduceIte]
  refine goP_ownS (by rw [hbl];exact ho) (by simp [hbl];omega) (by simp [hbl,maxLen];omega) fun o' H' hs2=>?_
  have hdr:s.drop (i+1)=r:=by rw [← List.drop_drop,hd];rfl
  simp (disch:=first|omega|assumption) only [wrap64,go_sem,↓reduceIte]
  refine goJ (hJ (o',raw++[c],i+1) _ (by simp only;omega) ⟨by simp only;omega,by simp only;omega,by simp;omega,?_,?_⟩) (by simp (disch:=first|omega|assumption) only [← bytesOf_one,Int.natCast_add,go_sem,↓reduceIte])
  ·simp only
   rw [hdr,← hrw]
   rfl
  ·have h:=hs2.own
   simpa [hbl] using h
end Go.Proofs.YticbbfbpeimkbaaGreatDoor
namespace Go.Proofs.YticbbfbpeimkbaaGreatDoor
open Go.Ab Go.Lib
theorem plainC (c:UInt8):Pure Tryz.prog 221 [.int .u8 (c.toNat:Int)] (.bool (lineB c)):=by
 refine Pure.go ir221 ck221 (Nat.le_refl _) fun KP Q hQ=>?_
 by_cases h10:c=10
 ·subst h10
  have hc:((10:UInt8).toNat:Int)=10:=rfl
  simp (disch:=first|omega|assumption) only [ir221,hc,go_sem,↓reduceIte]
  exact hQ _ _ _ _ nofun rfl (by simp [tupOf,envOf,AV.strip,AV.strip1,lineB])
 have g10:¬ ((c.toNat:Int)=10):=fun e=>h10 (UInt8.toNat_inj.1 (by show c.toNat=10;omega))
 by_cases h13:c=13
 ·subst h13
  have hc:((13:UInt8).toNat:Int)=13:=rfl
  simp (disch:=first|omega|assumption) only [ir221,hc,go_sem,↓reduceIte]
  exact hQ _ _ _ _ nofun rfl (by simp [tupOf,envOf,AV.strip,AV.strip1,lineB])
 have g13:¬ ((c.toNat:Int)=13):=fun e=>h13 (UInt8.toNat_inj.1 (by show c.toNat=13;omega))
 simp (disch:=first|omega|assumption) only [ir221,g10,g13,go_sem,↓reduceIte]
 exact hQ _ _ _ _ nofun rfl (by simp [tupOf,envOf,AV.strip,AV.strip1,lineB,h10,h13])
theorem oneT_cons (c:UInt8) (r:List UInt8):oneT (c :: r)=if threeT.isPrefixOf (c :: r) then (rawM (r.length+1) [] (r.drop 2)).map fun x=>(⟨5,blockM x.1⟩,x.2)
  else if c=34 then (quoM lineB r).map fun x=>(⟨5,x.1⟩,x.2)
  else if dotsT.isPrefixOf (c :: r) then some (⟨1,dotsT⟩,r.drop 2)
  else if 0≤Lib.indexByte marksT c then some (⟨1,[c]⟩,r)
  else if isL c then some (⟨2,(c :: r).take (wordN (c :: r))⟩,(c :: r).drop (wordN (c :: r)))
  else if (numN (c :: r)).1=0 then none
  else if ((c :: r).drop (numN (c :: r)).1).head?.any fun d=>isL d || isD d || decide (d=46) then none
  else some (⟨(numN (c :: r)).2,(c :: r).take (numN (c :: r)).1⟩,(c :: r).drop (numN (c :: r)).1):=rfl
def oneA (s:List UInt8):AV:=match oneT s with
 | some (x,t)=>.tup [tokA x,.int .i64 ((s.length-t.length:Nat):Int)]
 | none=>.tup [tokA ⟨if s.head?=some 34 then 5 else 0,[]⟩,.int .i64 0]
theorem oneA_some {s t:List UInt8} {x:Tok} (h:oneT s=some (x,t)):oneA s=.tup [tokA x,.int .i64 ((s.length-t.length:Nat):Int)]:=by unfold oneA;rw [h]
theorem oneA_none {s:List UInt8} (h:oneT s=none):oneA s=.tup [tokA ⟨if s.head?=some 34 then 5 else 0,[]⟩,.int .i64 0]:=by unfold oneA;rw [h]
theorem oneC (c:UInt8) (r:List UInt8) (hs:(c :: r).length≤LimQ):Pure Tryz.prog 124 [.str (c :: r)] (oneA (c :: r)):=by
 have hcl:(c :: r).length=r.length+1:=rfl
 have hg0:(c :: r).getD 0 0=c:=rfl
 have ht1:(c :: r).take 1=[c]:=rfl
 have ed:(c :: r).drop 3=r.drop 2:=rfl
 have hhd:(c :: r).head?=some c:=rfl
 have hquo:=fun h34:c=34=>(by rw [h34];exact quotedC 221 (by decide +kernel) lineB plainC 34 r (by simpa [h34] using hs):Pure Tryz.prog 220 [.str (c :: r),.clo 221 [] []] (quoA lineB r))
 have ot:=oneT_cons c r
 have hpl3:threeT.isPrefixOf (c :: r)=true→c=34:=fun p1=>by
  simp only [threeT,List.isPrefixOf,Bool.and_eq_true,beq_iff_eq] at p1
  exact p1.1.symm
 generalize hsc:c :: r=s at *
 refine Pure.go ir124 ck124 (Nat.le_refl _) fun KP Q hQ=>?_
 have hsq:=hs
 simp only [LimQ] at hs
 have hsl:s.length≤Lim:=by simp only [Lim];omega
 have hl:((0:Int)<(s.length:Int))=True:=eq_true (by omega)
 have hl1:((1:Int)≤(s.length:Int))=True:=eq_true (by omega)
 simp (disch:=first|omega|assumption) only [ir124,go_sem,↓reduceIte]
 refine goA_intro fun b0 hb0=>?_
 simp (disch:=first|omega|assumption) only [hl,hg0,go_sem,↓reduceIte]
 refine goK_pure (prefixC s [34,34,34]) ?_
 by_cases p1:threeT.isPrefixOf s=true
 ·have p1':([34,34,34]:List UInt8).isPrefixOf s=true:=p1
  have hl3:=pre_len _ _ p1
  simp only [threeT,List.length_cons,List.length_nil] at hl3
  have h34:c=34:=hpl3 p1
  simp (disch:=first|omega|assumption) only [p1',go_sem,↓reduceIte]
  refine goK_pure (blockedC s hl3 hsq) ?_
  have ef:rawM (s.length-2) [] (r.drop 2)=rawM (r.length+1) [] (r.drop 2):=rawM_fuel _ _ _ _ (by rw [List.length_drop];omega) (by rw [List.length_drop];omega)
  rw [ed,ef]
  have e1:oneT s=(rawM (r.length+1) [] (r.drop 2)).map fun x=>(⟨5,blockM x.1⟩,x.2):=by
   rw [ot,if_pos p1]
  cases hx:rawM (r.length+1) [] (r.drop 2) with
  | none =>
   rw [hx] at e1
   have e:=oneA_none e1
   rw [if_pos (by rw [hhd,h34])] at e
   simp (disch:=first|omega|assumption) only [blkA,go_sem,↓reduceIte]
   exact hQ _ _ _ [.agg [.int .i64 5,.str []],.int .i64 0] nofun (by simp (disch:=first|omega|assumption) only [ir124,resvs,resv,go_sem,↓reduceIte]) (by simp [tupOf,AV.strip,AV.strip1,e,tokA])
  | some x =>
   obtain ⟨raw,t⟩:=x
   rw [hx] at e1
   have e:=oneA_some e1
   simp (disch:=first|omega|assumption) only [blkA,go_sem,↓reduceIte]
   exact hQ _ _ _ [.agg [.int .i64 5,.str (blockM raw)],.int .i64 (((s.length-t.length:Nat)):Int)] nofun (by simp (disch:=first|omega|assumption) only [ir124,resvs,resv,go_sem,↓reduceIte]) (by simp [tupOf,AV.strip,AV.strip1,e,tokA])
 have p1':([34,34,34]:List UInt8).isPrefixOf s=false:=Bool.eq_false_iff.2 p1
 by_cases c34:c=34
 ·have hc:(c.toNat:Int)=34:=by rw [c34];rfl
  simp (disch:=first|omega|assumption) only [p1',hc,go_sem,↓reduceIte]
  refine goK_pure (hquo c34) ?_
  have e1:oneT s=(quoM lineB r).map fun x=>(⟨5,x.1⟩,x.2):=by
   rw [ot,if_neg p1,if_pos c34]
  cases hx:quoM lineB r with
  | none =>
   rw [hx] at e1
   have e:=oneA_none e1
   rw [if_pos (by rw [hhd,c34])] at e
   simp (disch:=first|omega|assumption) only [quoA,hx,go_sem,↓reduceIte]
   exact hQ _ _ _ [.agg [.int .i64 5,.str []],.int .i64 0] nofun (by simp (disch:=first|omega|assumption) only [ir124,resvs,resv,go_sem,↓reduceIte]) (by simp [tupOf,AV.strip,AV.strip1,e,tokA])
  | some x =>
   obtain ⟨b,t⟩:=x
   rw [hx] at e1
   have e:=oneA_some e1
   rw [hcl] at e
   simp (disch:=first|omega|assumption) only [quoA,hx,go_sem,↓reduceIte]
   exact hQ _ _ _ [.agg [.int .i64 5,.str b],.int .i64 (((r.length+1-t.length:Nat)):Int)] nofun (by simp (disch:=first|omega|assumption) only [ir124,resvs,resv,go_sem,↓reduceIte]) (by simp [tupOf,AV.strip,AV.strip1,e,tokA])
 have g34:¬ ((c.toNat:Int)=34):=fun e=>c34 (UInt8.toNat_inj.1 (by show c.toNat=34;omega))
 have hno:¬ (s.head?=some 34):=by rw [hhd];simpa using c34
 simp (disch:=first|omega|assumption) only [p1',g34,go_sem,↓reduceIte]
 refine goK_pure (prefixC s [46,46,46]) ?_
 by_cases p2:dotsT.isPrefixOf s=true
 ·have p2':([46,46,46]:List UInt8).isPrefixOf s=true:=p2
  have hl3:=pre_len _ _ p2
  have hd3:dotsT.length=3:=rfl
  rw [hd3] at hl3
  have e1:oneT s=some (⟨1,dotsT⟩,r.drop 2):=by
   rw [ot,if_neg p1,if_neg c34,if_pos p2]
  have e:=oneA_some e1
  have e2:s.length-(r.drop 2).length=3:=by rw [List.length_drop];omega
  rw [e2] at e
  have e3:dotsT=[46,46,46]:=rfl
  simp (disch:=first|omega|assumption) only [p2',go_sem,↓reduceIte]
  exact hQ _ _ _ [.agg [.int .i64 1,.str [46,46,46]],.int .i64 3] nofun (by simp (disch:=first|omega|assumption) only [ir124,resvs,resv,go_sem,↓reduceIte]) (by simp [tupOf,AV.strip,AV.strip1,e,tokA,e3])
 have p2':([46,46,46]:List UInt8).isPrefixOf s=false:=Bool.eq_false_iff.2 p2
 simp (disch:=first|omega|assumption) only [p2',go_sem,↓reduceIte]
 refine goK_pure (idxByteC marksT c) ?_
 by_cases hm:0≤Lib.indexByte marksT c
 ·have e1:oneT s=some (⟨1,[c]⟩,r):=by
   rw [ot,if_neg p1,if_neg c34,if_neg p2,if_pos hm]
  have e:=oneA_some e1
  have e2:s.length-r.length=1:=by omega
  rw [e2] at e
  have e3:=ht1
  simp (disch:=first|omega|assumption) only [hm,hl1,e3,go_sem,↓reduceIte]
  exact hQ _ _ _ [.agg [.int .i64 1,.str [c]],.int .i64 1] nofun (by simp (disch:=first|omega|assumption) only [ir124,resvs,resv,go_sem,↓reduceIte]) (by simp [tupOf,AV.strip,AV.strip1,e,tokA])
 simp (disch:=first|omega|assumption) only [hm,go_sem,↓reduceIte]
 refine goK_pure (letterC c) ?_
 by_cases hL:isL c=true
 ·have e1:oneT s=some (⟨2,s.take (wordN s)⟩,s.drop (wordN s)):=by
   rw [ot,if_neg p1,if_neg c34,if_neg p2,if_neg hm,if_pos hL]
  have e:=oneA_some e1
  have hwl:=wordN_le s
  have e2:s.length-(s.drop (wordN s)).length=wordN s:=by rw [List.length_drop];omega
  rw [e2] at e
  have h2:((wordN s:Int)≤(s.length:Int))=True:=eq_true (by omega)
  simp (disch:=first|omega|assumption) only [hL,go_sem,↓reduceIte]
  refine goK_pure (wordTC s hsl (by rw [hg0];exact hL)) ?_
  simp (disch:=first|omega|assumption) only [h2,go_sem,↓reduceIte]
  exact hQ _ _ _ [.agg [.int .i64 2,.str (s.take (wordN s))],.int .i64 (wordN s:Int)] nofun (by simp (disch:=first|omega|assumption) only [ir124,resvs,resv,go_sem,↓reduceIte]) (by simp [tupOf,AV.strip,AV.strip1,e,tokA])
 have hL':isL c=false:=by simpa using hL
 simp (disch:=first|omega|assumption) only [hL',go_sem,↓reduceIte]
 refine goK_pure (numberC s hsl) ?_
 have hnl:=numN_le1 s
 have hn2:(numN s).1=0→(numN s).2=0:=fun h=>by
  unfold numN at h ⊢
  split at h
  ·rename_i h0;rw [if_pos h0]
  ·rename_i h0;simp only at h;omega
 have e0:oneT s=if (numN s).1=0 then none
   else if (s.drop (numN s).1).head?.any fun d=>isL d || isD d || decide (d=46) then none
   else some (⟨(numN s).2,s.take (numN s).1⟩,s.drop (numN s).1):=by
  rw [ot,if_neg p1,if_neg c34,if_neg p2,if_neg hm,if_neg hL]
 generalize hnn:(numN s).1=n at *
 generalize hkk:(numN s).2=k at *
 have hnle:((n:Int)≤(s.length:Int))=True:=eq_true (by omega)
 have fin:(n≠0→oneT s=some (⟨k,s.take n⟩,s.drop n))→oneA s=.tup [tokA ⟨k,s.take n⟩,.int .i64 (n:Int)]:=fun h=>by
  by_cases hz:n=0
  ·rw [if_pos hz] at e0
   rw [oneA_none e0,if_neg hno,hz,hn2 hz];rfl
  ·rw [oneA_some (h hz)]
   have e2:s.length-(s.drop n).length=n:=by rw [List.length_drop];omega
   rw [e2]
 have bad:(s.drop n).head?.any (fun d=>isL d || isD d || decide (d=46))=true→oneA s=.tup [tokA ⟨0,[]⟩,.int .i64 0]:=fun h=>by
  have:oneT s=none:=by
   rw [e0]
   split
   ·rfl
   ·first|rfl|exact if_pos h
  rw [oneA_none this,if_neg hno]
 rcases drop_cases s n with ⟨h1,h2⟩|⟨h1,h2⟩
 ·have hlt:¬ ((n:Int)<(s.length:Int)):=by omega
  have e:=fin fun hz=>by rw [e0,if_neg hz,h1];rfl
  simp (disch:=first|omega|assumption) only [hlt,hnle,go_sem,↓reduceIte]
  exact hQ _ _ _ [.agg [.int .i64 k,.str (s.take n)],.int .i64 (n:Int)] nofun (by simp (disch:=first|omega|assumption) only [ir124,resvs,resv,go_sem,↓reduceIte]) (by simp [tupOf,AV.strip,AV.strip1,e,tokA])
 ·have hlt:((n:Int)<(s.length:Int))=True:=eq_true (by omega)
  generalize hdd:s.getD n 0=d at *
  have ha:(s.drop n).head?.any (fun d=>isL d || isD d || decide (d=46))=(isL d || isD d || decide (d=46)):=by rw [h2];rfl
  rw [ha] at bad
  simp (disch:=first|omega|assumption) only [hlt,hdd,go_sem,↓reduceIte]
  refine goK_pure (letterC d) ?_
  cases hld:isL d with
  | true =>
   have e:=bad (by rw [hld];rfl)
   simp (disch:=first|omega|assumption) only [hld,go_sem,↓reduceIte]
   exact hQ _ _ _ [.agg [.int .i64 0,.str []],.int .i64 0] nofun (by simp (disch:=first|omega|assumption) only [ir124,resvs,resv,go_sem,↓reduceIte]) (by simp [tupOf,AV.strip,AV.strip1,e,tokA])
  | false =>
   simp (disch:=first|omega|assumption) only [hld,hlt,hdd,go_sem,↓reduceIte]
   refine goK_pure (digitC d) ?_
   cases hdg:isD d with
   | true =>
    have e:=bad (by rw [hdg];simp)
    simp (disch:=first|omega|assumption) only [hdg,go_sem,↓reduceIte]
    exact hQ _ _ _ [.agg [.int .i64 0,.str []],.int .i64 0] nofun (by simp (disch:=first|omega|assumption) only [ir124,resvs,resv,go_sem,↓reduceIte]) (by simp [tupOf,AV.strip,AV.strip1,e,tokA])
   | false =>
    by_cases h46:d=46
    ·have e:=bad (by rw [h46];simp)
     have g46:(d.toNat:Int)=46:=by rw [h46];rfl
     simp (disch:=first|omega|assumption) only [hdg,hlt,hdd,g46,go_sem,↓reduceIte]
     exact hQ _ _ _ [.agg [.int .i64 0,.str []],.int .i64 0] nofun (by simp (disch:=first|omega|assumption) only [ir124,resvs,resv,go_sem,↓reduceIte]) (by simp [tupOf,AV.strip,AV.strip1,e,tokA])
    ·have g46:¬ ((d.toNat:Int)=46):=fun e=>h46 (UInt8.toNat_inj.1 (by show d.toNat=46;omega))
     have e:=fin fun hz=>by rw [e0,if_neg hz,ha,hld,hdg];simp [h46]
     simp (disch:=first|omega|assumption) only [hdg,hlt,hdd,g46,hnle,go_sem,↓reduceIte]
     exact hQ _ _ _ [.agg [.int .i64 k,.str (s.take n)],.int .i64 (n:Int)] nofun (by simp (disch:=first|omega|assumption) only [ir124,resvs,resv,go_sem,↓reduceIte]) (by simp [tupOf,AV.strip,AV.strip1,e,tokA])
theorem code_in {l:List UInt8} (hne:l≠[]):(codeN l).2≤l.length∧(codeN l).1≤1114111:=by
 by_cases h:(codeN l).2=0
 ·refine ⟨by omega,?_⟩
  unfold codeN at h ⊢
  split at h
  ·rename_i h0;rw [if_pos h0];decide
  ·split at h
   ·rename_i h0 h1;rw [if_neg h0,if_pos h1];decide
   ·rename_i h0 h1
    have:=dec_ok h0 h1
    have:=this.pos
    omega
 ·obtain ⟨e,h1⟩:=codeN_dec hne h
  have hd:=dec_ok hne h1
  rw [e]
  refine ⟨?_,hd.le⟩
  have hl:=hd.len
  exact hl
theorem sourceC (s:List UInt8) (hs:s.length≤Lim):Pure Tryz.prog 122 [.str s] (.bool (srcB s)):=by
 refine Pure.go ir122 ck122 (Nat.le_refl _) fun KP Q hQ=>?_
 have hs':=hs
 simp only [Lim] at hs
 simp (disch:=first|omega|assumption) only [ir122,go_sem,↓reduceIte]
 refine goL_st (fun i:Nat=>[(3,.int .i64 i)]) (fun i H=>srcB s=srcB (s.drop i)∧i≤s.length) (fun i=>s.length-i) 0 (by simp (disch:=first|omega|assumption) only [go_sem,↓reduceIte]) ⟨by simp,by omega⟩ ?_
 rintro i H J ⟨hn,hle⟩ hJ
 by_cases hlt:i<s.length
 case neg =>
  have hlt':¬ ((i:Int)<s.length):=by omega
  rw [List.drop_of_length_le (by omega)] at hn
  simp (disch:=first|omega|assumption) only [hlt',go_sem,↓reduceIte]
  exact hQ _ _ _ _ nofun rfl (by simp [tupOf,envOf,AV.strip,AV.strip1,hn,srcB_nil])
 have hlt':((i:Int)<s.length)=True:=eq_true (by omega)
 have hne:s.drop i≠[]:=fun e=>by have:=congrArg List.length e;simp at this;omega
 obtain ⟨hk,hcm⟩:=code_in hne
 rw [List.length_drop] at hk
 simp (disch:=first|omega|assumption) only [hlt',go_sem,↓reduceIte]
 refine goK_pure (codeC s i hlt hs') ?_
 rw [srcB_step hne,List.drop_drop] at hn
 generalize (codeN (s.drop i)).1=c at *
 generalize (codeN (s.drop i)).2=k at *
 by_cases hk0:0<k
 ·have hk0':((0:Int)<(k:Int))=True:=eq_true (by omega)
  simp (disch:=first|omega|assumption) only [hk0',go_sem,↓reduceIte]
  refine goK_pure (signC c hcm) ?_
  cases hsg:signB c with
  | true =>
   rw [hsg] at hn
   simp only [hk0,decide_true,Bool.true_and] at hn
   simp (disch:=first|omega|assumption) only [wrap64,go_sem,↓reduceIte]
   exact goJ (hJ (i+k) _ (by omega) ⟨hn,by omega⟩) (by simp (disch:=first|omega|assumption) only [Int.natCast_add,go_sem,↓reduceIte])
  | false =>
   rw [hsg] at hn
   simp only [Bool.false_and,Bool.and_false] at hn
   simp (disch:=first|omega|assumption) only [go_sem,↓reduceIte]
   exact hQ _ _ _ _ nofun rfl (by simp [tupOf,envOf,AV.strip,AV.strip1,hn])
 ·have hk0':¬ ((0:Int)<(k:Int)):=by omega
  simp only [hk0,decide_false,Bool.false_and] at hn
  simp (disch:=first|omega|assumption) only [hk0',go_sem,↓reduceIte]
  exact hQ _ _ _ _ nofun rfl (by simp [tupOf,envOf,AV.strip,AV.strip1,hn])
def readA:Except Int (List Tok)→AV
 | .ok l=>.tup [.sl .no 2 (cKs l),.int .i64 0]
 | .error e=>.tup [.sl .no 2 [],.int .i64 e]
def readF (l:List Tok) (t:List UInt8):Except Int (List Tok):=readG (t.length+1) l t
theorem readF_nil (l:List Tok):readF l []=.ok l:=rfl
theorem readF_gap {l:List Tok} {t:List UInt8} (hne:t≠[]) (h:gapN t≠0):readF l t=readF l (t.drop (gapN t)):=by
 have h1:=gapN_le t
 have h2:0<t.length:=List.length_pos_iff.2 hne
 unfold readF
 conv=>lhs;unfold readG
 rw [if_neg hne,if_pos h]
 exact readG_fuel _ _ _ _ (by simp;omega) (Nat.lt_succ_self _)
theorem readF_none {l:List Tok} {t:List UInt8} (hne:t≠[]) (h:gapN t=0) (h1:oneT t=none):readF l t=.error 2:=by
 unfold readF
 conv=>lhs;unfold readG
 rw [if_neg hne,if_neg (by omega),h1]
theorem readF_some {l:List Tok} {t t':List UInt8} {x:Tok} (hne:t≠[]) (h:gapN t=0) (h1:oneT t=some (x,t')):readF l t=readF (l++[x]) t':=by
 have h2:=oneT_lt h1
 unfold readF
 conv=>lhs;unfold readG
 rw [if_neg hne,if_neg (by omega),h1]
 exact readG_fuel _ _ _ _ (by omega) (Nat.lt_succ_self _)
theorem rawM_suf:∀ (n:Nat) (raw t b t':List UInt8),rawM n raw t=some (b,t')→t' <:+ t
 | 0,_,_,_,_,h=>by cases h
 | n+1,raw,[],_,_,h=>by cases h
 | n+1,raw,c :: r,b,t',h=>by
  simp only [rawM] at h
  split at h
  ·cases h;exact (List.drop_suffix _ _).trans (List.suffix_cons ..)
  split at h
  ·exact (rawM_suf n _ _ _ _ h).trans ((List.drop_suffix _ _).trans (List.suffix_cons ..))
  ·exact (rawM_suf n _ _ _ _ h).trans (List.suffix_cons ..)
theorem oneT_suffix {s t:List UInt8} {x:Tok} (h:oneT s=some (x,t)):t <:+ s:=by
 cases s with
 | nil=>cases h
 | cons c r =>
  simp only [oneT] at h
  split at h
  ·cases hr:rawM (r.length+1) [] (r.drop 2) with
   | none=>rw [hr] at h;cases h
   | some y =>
    rw [hr] at h
    simp only [Option.map_some,Option.some.injEq,Prod.mk.injEq] at h
    obtain ⟨_,rfl⟩:=h
    exact (rawM_suf _ _ _ _ _ (show rawM _ _ _=some (y.1,y.2) from hr)).trans ((List.drop_suffix _ _).trans (List.suffix_cons ..))
  split at h
  ·cases hr:quoM lineB r with
   | none=>rw [hr] at h;cases h
   | some y =>
    rw [hr] at h
    simp only [Option.map_some,Option.some.injEq,Prod.mk.injEq] at h
    obtain ⟨_,rfl⟩:=h
    exact (quoM_suf (t':=y.2) (b:=y.1) hr).1.trans (List.suffix_cons ..)
  split at h
  ·cases h;exact (List.drop_suffix _ _).trans (List.suffix_cons ..)
  split at h
  ·cases h;exact List.suffix_cons ..
  split at h
  ·cases h;exact List.drop_suffix _ _
  split at h
  ·cases h
  split at h
  ·cases h
  ·cases h;exact List.drop_suffix _ _
theorem oneT_suf {s t:List UInt8} {x:Tok} (h:oneT s=some (x,t)):s.drop (s.length-t.length)=t:=by
 obtain ⟨p,hp⟩:=oneT_suffix h
 rw [← hp];simp
theorem gapU {u:List UInt8} (hne:u≠[]) (hs:u.length≤1000000):Pure Tryz.prog 123 [.str u] (.int .i64 (gapN u)):=by
 cases u with
 | nil=>exact absurd rfl hne
 | cons c r=>exact gapC c r hs
theorem oneU {u:List UInt8} (hne:u≠[]) (hs:u.length≤LimQ):Pure Tryz.prog 124 [.str u] (oneA u):=by
 cases u with
 | nil=>exact absurd rfl hne
 | cons c r=>exact oneC c r hs
theorem readTC (s:List UInt8) (hs:s.length≤LimQ):Pure Tryz.prog 57 [.str s] (readA (readT s)):=by
 refine Pure.go ir57 ck57 (Nat.le_refl _) fun KP Q hQ=>?_
 have hsq:=hs
 simp only [LimQ] at hs
 by_cases h8:8192<s.length
 ·have g8:((8192:Int)<(s.length:Int))=True:=eq_true (by omega)
  simp (disch:=first|omega|assumption) only [ir57,g8,go_sem,↓reduceIte]
  exact hQ _ _ _ _ nofun rfl (by simp [tupOf,envOf,AV.strip,AV.strip1,readT,h8,readA])
 have g8:¬ ((8192:Int)<(s.length:Int)):=by omega
 simp (disch:=first|omega|assumption) only [ir57,g8,go_sem,↓reduceIte]
 refine goK_pure (sourceC s (by simp only [Lim];omega)) ?_
 cases hsb:srcB s with
 | false =>
  simp (disch:=first|omega|assumption) only [go_sem,↓reduceIte]
  exact hQ _ _ _ _ nofun rfl (by simp [tupOf,envOf,AV.strip,AV.strip1,readT,h8,hsb,readA])
 | true =>
  have e0:readT s=readF [] s:=by unfold readT readF;rw [if_neg h8,if_pos hsb]
  rw [e0] at hQ
  simp (disch:=first|omega|assumption) only [go_sem,↓reduceIte]
  refine goL_st (fun x:Own × List Tok × Nat=>[(4,.sl x.1 2 (cKs x.2.1)),(5,.int .i64 x.2.2)]) (fun x H=>x.2.2≤s.length∧x.2.1.length≤x.2.2∧readF [] s=readF x.2.1 (s.drop x.2.2)∧OwnS Heap.emp .nil H x.1 x.2.1.length 2) (fun x=>s.length-x.2.2) (.nil,[],0) (by simp (disch:=first|omega|assumption) only [cKs,List.map_nil,go_sem,↓reduceIte]) ⟨Nat.zero_le _,Nat.le_refl _,rfl,OwnS.refl rfl⟩ ?_
  rintro ⟨o,l,i⟩ H J ⟨hi,hll,hr,hso⟩ hJ
  simp only at hi hll hr hso
  have hcl:=cKs_len l
  by_cases hlt:i<s.length
  case neg =>
   have hlt':¬ ((i:Int)<s.length):=by omega
   rw [List.drop_of_length_le (by omega),readF_nil] at hr
   simp (disch:=first|omega|assumption) only [hlt',go_sem,↓reduceIte]
   exact hQ _ _ _ _ nofun rfl (by simp [tupOf,envOf,AV.strip,AV.strip1,hr,readA,cKs_strip])
  have hlt':((i:Int)<s.length)=True:=eq_true (by omega)
  have hle':((i:Int)≤s.length)=True:=eq_true (by omega)
  obtain ⟨u,hd⟩:∃ u,s.drop i=u:=⟨_,rfl⟩
  have hdl:s.length=i+u.length:=by have:=congrArg List.length hd;rw [List.length_drop] at this;omega
  have hne:u≠[]:=fun e=>by rw [e] at hdl;simp at hdl;omega
  rw [hd] at hr
  simp (disch:=first|omega|assumption) only [hlt',hle',hd,go_sem,↓reduceIte]
  refine goK_pure (gapU hne (by omega)) ?_
  have hgl:=gapN_le u
  by_cases hg:gapN u=0
  case neg =>
   have hg':((0:Int)<(gapN u:Int))=True:=eq_true (by omega)
   simp (disch:=first|omega|assumption) only [hg',wrap64,go_sem,↓reduceIte]
   refine goJ (hJ (o,l,i+gapN u) _ (by simp only;omega) ⟨by simp only;omega,by simp only;omega,?_,hso⟩) (by simp (disch:=first|omega|assumption) only [Int.natCast_add,go_sem,↓reduceIte])
   simp only
   rw [hr,readF_gap hne hg,← List.drop_drop,hd]
  have hg':¬ ((0:Int)<(gapN u:Int)):=by omega
  simp (disch:=first|omega|assumption) only [hg',hle',hd,go_sem,↓reduceIte]
  refine goK_pure (oneU hne (by simp only [LimQ];omega)) ?_
  cases ho:oneT u with
  | none =>
   rw [readF_none hne hg ho] at hr
   rw [oneA_none ho]
   simp (disch:=first|omega|assumption) only [tokA,go_sem,↓reduceIte]
   refine goA_intro fun b1 hb1=>?_
   simp (disch:=first|omega|assumption) only [go_sem,↓reduceIte]
   exact hQ _ _ _ _ nofun rfl (by simp [tupOf,envOf,AV.strip,AV.strip1,hr,readA])
  | some x =>
   obtain ⟨x,t⟩:=x
   have hlt2:=oneT_lt ho
   have hsf:=oneT_suf ho
   rw [readF_some hne hg ho] at hr
   rw [oneA_some ho]
   have hz:¬ (((u.length-t.length:Nat):Int)=0):=by omega
   simp (disch:=first|omega|assumption) only [tokA,go_sem,↓reduceIte]
   refine goA_intro fun b1 hb1=>?_
   simp (disch:=first|omega|assumption) only [hz,go_sem,↓reduceIte]
   refine goP_ownS (by rw [hcl];exact (hso.upd hb1).own) (by simp only [hcl,List.length_cons,List.length_nil];omega) (by simp only [hcl,List.length_cons,List.length_nil,maxLen];omega) fun o' H' hs2=>?_
   simp (disch:=first|omega|assumption) only [wrap64,go_sem,↓reduceIte]
   refine goJ (hJ (o',l++[x],i+(u.length-t.length)) H' (by simp only;omega) ⟨by simp only;omega,by simp;omega,?_,(hso.upd (x:=.cells [.int .i64 x.k,.str x.s]) hb1).trans (by simpa [hcl] using hs2)⟩) (by simp (disch:=first|omega|assumption) only [← cKs_app,Int.natCast_add,go_sem,↓reduceIte])
   simp only
   rw [hr,← List.drop_drop,hd,hsf]
end Go.Proofs.YticbbfbpeimkbaaGreatDoor
namespace Go.Proofs.YticbbfbpeimkbaaGreatDoor
open Go.Ab
def sp89 : ASp := ⟨27, 2, 5, (.reg [] [⟨some 4, none, .alloc [.int .i64 0], []⟩]), (.seq (.reg [] [⟨some 13, none, .mv (.t 6), []⟩, ⟨some 14, none, .bi .neq .i64 (.t 13) (.k (.int .i64 0)), []⟩])
 (.cond (.t 14) (.seq (.reg [] [⟨some 15, none, .mv (.t 6), []⟩, ⟨none, none, .st 1 (.t 4) (.t 15), []⟩])
 (.ret)) (.skip))), [⟨some 16, none, .mkfn 159 [] [(.t 4)], []⟩], 16, (.seq (.reg [] [⟨some 17, none, .mv (.t 5), []⟩, ⟨some 18, none, .bld [.sl .nil 2 [], .int .i64 0, .int .i64 0] [(0, 1, (.t 17))], []⟩, ⟨some 19, none, .box (.t 18), []⟩, ⟨some 7, none, .mv (.t 19), []⟩])
 (.seq (.reg [] [⟨some 20, none, .mv (.t 1), []⟩, ⟨some 21, none, .mv (.t 7), []⟩, ⟨some 22, none, .callv (.t 20) [(.t 21)], []⟩])
 (.seq (.seq (.reg [] [⟨some 23, none, .mv (.t 7), []⟩, ⟨some 24, none, .call 92 [(.t 23)], []⟩])
 (.cond (.t 24) (.reg [] [⟨some 25, none, .mv (.t 7), []⟩, ⟨some 26, none, .call 160 [(.t 25), (.k (.int .i64 2))], []⟩]) (.skip)))
 (.seq (.reg [] [⟨none, none, .st 1 (.t 4) (.k (.int .i64 0)), []⟩])
 (.ret))))), [.c 4 1 false], some (.reg [] [⟨some 9, none, .mv (.t 0), []⟩, ⟨some 10, none, .call 57 [(.t 9)], []⟩, ⟨some 8, none, .mv (.t 10), []⟩, ⟨some 11, none, .ext (.t 8) 0, []⟩, ⟨some 12, none, .ext (.t 8) 1, []⟩, ⟨some 5, none, .mv (.t 11), []⟩, ⟨some 6, none, .mv (.t 12), []⟩])⟩
theorem ckS89:chkSp Tryz.prog 89 sp89=true:=by kernel_rfl
def df159 : ADfn := ⟨16, 1, 4, [⟨some 1, none, .mv (.t 4), []⟩], (.seq (.reg [] [⟨some 6, none, .mv (.t 1), []⟩, ⟨some 7, none, .tas 186 (.agg [.int .i64 0]) (.t 6), []⟩, ⟨some 5, none, .mv (.t 7), []⟩, ⟨some 8, none, .ext (.t 5) 0, []⟩, ⟨some 9, none, .ext (.t 5) 1, []⟩, ⟨some 2, none, .alloc [.int .i64 0], []⟩, ⟨none, none, .st 1 (.t 2) (.t 8), []⟩, ⟨some 3, none, .mv (.t 9), []⟩])
 (.seq (.reg [] [⟨some 10, none, .mv (.t 3), []⟩])
 (.cond (.t 10) (.reg [] [⟨some 11, none, .fa 0 (.t 2), []⟩, ⟨some 12, none, .ld 1 false (.t 11), []⟩, ⟨none, none, .st 1 (.t 0) (.t 12), []⟩]) (.seq (.reg [] [⟨some 13, none, .mv (.t 1), []⟩, ⟨some 14, none, .ifnil true (.t 13), []⟩])
 (.cond (.t 14) (.reg [] [⟨some 15, none, .mv (.t 1), []⟩, ⟨none, none, .pan (.t 15), []⟩]) (.skip))))))⟩
theorem ckD159:chkDfn Tryz.prog 159 df159=true:=by kernel_rfl
end Go.Proofs.YticbbfbpeimkbaaGreatDoor
namespace Go.Proofs.YticbbfbpeimkbaaGreatDoor
open Go.Ab
theorem pgo_items {P:Program} {KP:AV→Heap→Prop} {items:List AItem} {ρ:Env} {H:Heap} {K:Env→Heap→Prop} (h:∀ Q:AExit→Env→Heap→Prop,(∀ ρ' H',K ρ' H'→Q .normal ρ' H')→goI P KP Q items items [] ρ H):awpItems P KP (annot items) ρ H K :=
 h (fun e ρ H=>match e with|.normal=>K ρ H|_=>True) (fun _ _ h=>h)
theorem pgo_awp {P:Program} {KP:AV→Heap→Prop} {c:AC} {ρ:Env} {H:Heap} {K:AExit→Env→Heap→Prop} (h:∀ (KP':AV→Heap→Prop) (Q:AExit→Env→Heap→Prop),(∀ v H',KP v H'→KP' v H')→(∀ e ρ' H',K e ρ' H'→Q e ρ' H')→goC P KP' Q c [] ρ H):awp P KP c K ρ H :=
 h KP K (fun _ _ h=>h) (fun _ _ _ h=>h)
theorem failPK (H:Heap) (r:Nat) (n:Int):ACalls Tryz.prog 160 [.ptr r 0,.int .i64 n] H (fun e H'=>match e with|.ret v=>False|.pan v=>v=stopP n∧H'=H):=by
 refine ACalls.goO (R:=fun _ _=>False) (RP:=fun v H'=>v=stopP n∧H'=H) ir160 ck160 (Nat.le_refl _) fun KP Q hQ hP=>?_
 simp (disch:=first|omega|assumption) only [ir160,go_sem,↓reduceIte]
 exact hP _ _ H (Low.refl _) ⟨rfl,rfl⟩
theorem recP0 {H:Heap} {b4:Nat} {Q:Heap→Prop} (hq:∀ b x,H b=none→Q (H.upd b x)):ACallsD Tryz.prog 159 [.ptr b4 0] none H Q:=by
 refine ACallsD.of_fn df159 ckD159 (Nat.le_refl _) (pgo_items fun Q1 hQ1=>?_)
 simp (disch:=first|omega|assumption) only [df159,Option.getD_none,go_sem,↓reduceIte]
 refine hQ1 _ _ (pgo_awp fun KP' Q2 hKP hQ2=>?_)
 simp (disch:=first|omega|assumption) only [df159,go_sem,↓reduceIte]
 refine goA_intro fun b hb=>?_
 simp (disch:=first|omega|assumption) only [go_sem,↓reduceIte]
 exact hQ2 _ _ _ (hq _ _ hb)
theorem recP1 {H:Heap} {b4:Nat} {c4:List AV} {n:Int} {Q:Heap→Prop} (h4:H b4=some (.cells c4)) (l4:c4.length=1)
  (hq:∀ b x,H b=none→Q ((H.upd b x).upd b4 (.cells [.int .i64 n]))):ACallsD Tryz.prog 159 [.ptr b4 0] (some (stopP n)) H Q:=by
 refine ACallsD.of_fn df159 ckD159 (Nat.le_refl _) (pgo_items fun Q1 hQ1=>?_)
 simp (disch:=first|omega|assumption) only [df159,Option.getD_some,stopP,go_sem,↓reduceIte]
 refine hQ1 _ _ (pgo_awp fun KP' Q2 hKP hQ2=>?_)
 simp (disch:=first|omega|assumption) only [df159,go_sem,↓reduceIte]
 refine goA_intro fun b hb=>?_
 have n1:b4≠b:=fun e=>by subst e;rw [hb] at h4;cases h4
 simp (disch:=first|omega|assumption) only [h4,n1,l4,go_sem,↓reduceIte]
 have e4:splice c4 0 [.int .i64 n]=[.int .i64 n]:=by
  unfold splice;simp only [List.take_zero,List.nil_append,List.length_cons,List.length_nil];rw [List.drop_eq_nil_of_le (by rw [l4];decide),List.append_nil]
 rw [e4]
 exact hQ2 _ _ _ (hq _ _ hb)
theorem readG_err:∀ (n:Nat) (l:List Tok) (s:List UInt8) (e:Int),s.length<n→readG n l s=.error e→e=2
 | 0,_,_,_,h,_=>absurd h (Nat.not_lt_zero _)
 | n+1,l,s,e,h,hr=>by
  simp only [readG] at hr
  split at hr
  ·cases hr
  split at hr
  ·rename_i hne hg
   have h1:=gapN_le s
   have h2:0<s.length:=List.length_pos_iff.2 hne
   exact readG_err n _ _ _ (by simp;omega) hr
  ·cases ho:oneT s with
   | none=>rw [ho] at hr;cases hr;rfl
   | some x =>
    rw [ho] at hr
    have:=oneT_lt (show oneT s=some (x.1,x.2) from ho)
    exact readG_err n _ _ _ (by omega) hr
theorem readT_err {s:List UInt8} {e:Int} (h:readT s=.error e):e≠0:=by
 unfold readT at h
 split at h
 ·cases h;decide
 split at h
 ·rw [readG_err _ _ _ _ (Nat.lt_succ_self _) h];decide
 ·cases h;decide
def RunQ (Out:Int→Heap→Prop):AEnd→Heap→Prop:=fun e H'=>match e with|.ret v=>∃ n:Int,v=.int .i64 n∧Out n H'|.pan _=>False
theorem res_run {ρ:Env} {H:Heap} {b4:Nat} {e:Int} (r4:ρ 4=.ptr b4 0) (h4:H b4=some (.cells [.int .i64 e])):resvs ρ H sp89.res=some [.int .i64 e]:=by
 simp (disch:=first|omega|assumption) only [sp89,resvs,resv,r4,h4,go_sem,↓reduceIte]
theorem runPC {s:List UInt8} {Hc:Heap} {clo:FuncId} {caps:List AV} (hl:s.length≤LimQ) (hcal:Program.callable Tryz.prog clo=true) (Out:Int→Heap→Prop)
  (h1:∀ n,readT s=.error n→Out n Hc)
  (h2:∀ L,readT s=.ok L→∀ r,Hc r=none→ACalls Tryz.prog clo (.ptr r 0 :: caps) (Hc.upd r (prc L [] 0)) (fun e H'=>match e with
   | .ret _=>∃ p t dp,p++t=L∧H' r=some (prc L p dp)∧Out (if t=[] then 0 else 2) H'
   | .pan v=>∃ n,v=stopP n∧∀ H,Out n H)) :
  ACalls Tryz.prog 89 [.str s,.clo clo [] caps] Hc (RunQ Out):=by
 refine ACalls.of_sp sp89 ckS89 (Nat.le_refl _) ?_
 unfold awpD
 refine pgo_awp fun KP Q hKP hQ=>?_
 simp (disch:=first|omega|assumption) only [sp89,go_sem,↓reduceIte]
 refine goA_intro fun b4 hb4=>?_
 simp (disch:=first|omega|assumption) only [go_sem,↓reduceIte]
 refine hQ _ _ _ (pgo_awp fun KP1 Q1 hKP1 hQ1=>?_)
 simp (disch:=first|omega|assumption) only [sp89,go_sem,↓reduceIte]
 refine goK_pure (Pure.low (readTC s hl)) ?_
 cases hR:readT s with
 | error n =>
  have hn:¬ (n=0):=readT_err hR
  simp (disch:=first|omega|assumption) only [readA,go_sem,↓reduceIte]
  refine hQ1 _ _ _ (pgo_awp fun KP2 Q2 hKP2 hQ2=>?_)
  simp (disch:=first|omega|assumption) only [sp89,hn,go_sem,↓reduceIte]
  refine hQ2 _ _ _ ?_
  show finQ sp89.res (RunQ Out) .ret _ _
  simp only [finQ]
  rw [res_run (b4:=b4) (e:=n) rfl (upd_same ..)]
  exact ⟨Hc,(Low.refl _).upd hb4,n,rfl,h1 n hR⟩
 | ok L =>
  simp (disch:=first|omega|assumption) only [readA,go_sem,↓reduceIte]
  refine hQ1 _ _ _ (pgo_awp fun KP2 Q2 hKP2 hQ2=>?_)
  simp (disch:=first|omega|assumption) only [sp89,go_sem,↓reduceIte]
  refine hQ2 _ _ _ (pgo_items fun Q3 hQ3=>?_)
  simp (disch:=first|omega|assumption) only [sp89,go_sem,↓reduceIte]
  refine hQ3 _ _ ⟨159,_,rfl,by decide +kernel,pgo_awp fun KP4 Q4 hKP4 hQ4=>?_⟩
  have fin:∀ (ρ1:Env) (H H2:Heap) (e:Int),ρ1 4=.ptr b4 0→H b4=some (.cells [.int .i64 e])→Low H2 H→Out e H2→finS sp89 (RunQ Out) ρ1 H:=by
   intro ρ1 H H2 e r4 g4 hlow ho
   refine ⟨_,res_run (b4:=b4) (e:=e) ?_ g4,H2,hlow,e,rfl,ho⟩
   rw [keep_get,if_pos (by decide)];exact r4
  have hpan:∀ (n:Int) (H0 H':Heap) (c4:List AV),Low H0 H'→H0 b4=some (.cells c4)→c4.length=1→(∀ H,Out n H)→KP4 (stopP n) H':=by
   intro n H0 H' c4 hlow g4 l4 ho
   exact hKP4 _ _ ⟨H0,hlow,recP1 g4 l4 fun b x hb=>fin _ _ Heap.emp n rfl (upd_same ..) (Low.of_sub (sub_emp _)) (ho _)⟩
  simp (disch:=first|omega|assumption) only [sp89,go_sem,↓reduceIte]
  refine goA_intro fun br hbr=>?_
  have hbr4:br≠b4:=fun e=>by subst e;rw [upd_same] at hbr;cases hbr
  have hbrH:Hc br=none:=by rw [upd_ne hbr4] at hbr;exact hbr
  simp (disch:=first|omega|assumption) only [hcal,go_sem,↓reduceIte]
  obtain ⟨x4,hx4⟩:∃ x4:AObj,x4=.cells [.int .i64 0]:=⟨_,rfl⟩
  have hun:(Hc.upd b4 (.cells [.int .i64 0])).upd br (.cells [.sl .no 2 (cKs L),.int .i64 0,.int .i64 0])=Heap.union (Hc.upd br (prc L [] 0)) (Heap.one b4 x4):=by
   funext c
   by_cases e1:c=br
   ·subst e1;rw [upd_same];simp [Heap.union,Heap.upd,prc]
   ·rw [upd_ne e1]
    by_cases e2:c=b4
    ·subst e2;rw [upd_same];simp [Heap.union,Heap.upd,Heap.one,e1,hb4,hx4]
    ·rw [upd_ne e2];simp [Heap.union,Heap.upd,Heap.one,e1,e2]
  have hd:Heap.Disj (Hc.upd br (prc L [] 0)) (Heap.one b4 x4):=fun c=>by
   by_cases e:c=b4
   ·subst e;exact .inl (by rw [upd_ne (Ne.symm hbr4)];exact hb4)
   ·exact .inr (by simp [Heap.one,e])
  have hc:=ACalls.frame hd (h2 L hR br hbrH)
  rw [hun]
  refine goK_calls hc fun e H' ⟨A',hq,hd',hH'⟩=>?_
  subst hH'
  have hB4:Heap.one b4 x4 b4=some (.cells [.int .i64 0]):=by simp [Heap.one,hx4]
  have hA4:A' b4=none:=by
   rcases hd' b4 with h|h
   ·exact h
   ·rw [hB4] at h;cases h
  have g4:Heap.union A' (Heap.one b4 x4) b4=some (.cells [.int .i64 0]):=by simp [Heap.union,hA4,hB4]
  cases e with
  | pan v =>
   obtain ⟨n,hv,ho⟩:=hq
   subst hv
   exact hpan n (Heap.one b4 x4) _ _ (Low.of_sub fun c x hc=>by
    rcases hd' c with h|h
    ·simp [Heap.union,h,hc]
    ·rw [hc] at h;cases h) hB4 rfl ho
  | ret v =>
   obtain ⟨p,t,dp,hp,hr,ho⟩:=hq
   have gr:Heap.union A' (Heap.one b4 x4) br=some (prc L p dp):=by simp [Heap.union,hr]
   have lowA:∀ b x (Hx:Heap),(∀ c y,A' c=some y→Hx c=some y)→Hx b=none→Low A' ((Hx.upd b x).upd b4 (.cells [.int .i64 0]))∧Low A' ((Hx.upd b x).upd b4 (.cells [.int .i64 2])):=fun b x Hx hs hb=>by
    have sub:∀ z,∀ c y,A' c=some y→((Hx.upd b x).upd b4 z) c=some y:=fun z c y hcy=>by
     rw [upd_ne (fun e=>by rw [e,hA4] at hcy;cases hcy),upd_ne (fun e=>by rw [← e,hs _ _ hcy] at hb;cases hb)]
     exact hs _ _ hcy
    exact ⟨Low.of_sub (sub _),Low.of_sub (sub _)⟩
   have subU:∀ c y,A' c=some y→Heap.union A' (Heap.one b4 x4) c=some y:=fun c y hc=>by simp [Heap.union,hc]
   show goR _ _ _ _ _ _ _ _ _
   simp (disch:=first|omega|assumption) only [go_sem,↓reduceIte]
   refine goK_ret (moreP hp gr) fun v5 H5 ⟨hv5,hH5⟩=>?_
   subst hv5;subst hH5
   cases t with
   | nil =>
    simp only [if_true] at ho
    simp (disch:=first|omega|assumption) only [g4,go_sem,↓reduceIte]
    refine hQ4 _ _ _ ⟨_,Low.refl _,recP0 fun b y hb=>?_⟩
    have n4:b4≠b:=fun e=>by subst e;rw [upd_same] at hb;cases hb
    refine fin _ _ A' 0 rfl (by rw [upd_ne n4,upd_same]) ?_ ho
    refine Low.of_sub fun c z hcz=>?_
    have hc4:c≠b4:=fun e=>by rw [e,hA4] at hcz;cases hcz
    have hcb:c≠b:=fun e=>by rw [← e,upd_ne hc4,subU _ _ hcz] at hb;cases hb
    rw [upd_ne hcb,upd_ne hc4];exact subU _ _ hcz
   | cons a u =>
    rw [if_neg (by simp)] at ho
    simp (disch:=first|omega|assumption) only [go_sem,↓reduceIte]
    exact goK_both (failPK _ br 2) (fun _ _ h=>h.elim) fun v H6 ⟨h6,h7⟩=>by
     subst h6;subst h7
     exact hKP4 _ _ ⟨_,Low.refl _,recP1 g4 rfl fun b y hb=>fin _ _ A' 2 rfl (upd_same ..) (lowA b y _ subU hb).2 ho⟩
end Go.Proofs.YticbbfbpeimkbaaGreatDoor
namespace Go.Proofs.YticbbfbpeimkbaaGreatDoor
open Go.Ab
def PErr {α:Type} (f:TS→PR α):Prop:=∀ t n,f t=.error n→n≠0
theorem pb_err {α β:Type} {x:PR α} {f:α→TS→PR β} {e:Int} (h:pb x f=.error e) (hx:∀ n,x=.error n→n≠0) (hf:∀ a t,x=.ok (a,t)→f a t=.error e→e≠0):e≠0:=by
 rcases x with n|⟨a,t⟩
 ·cases h;exact hx _ rfl
 ·exact hf a t rfl h
theorem mustP_ne (m:List UInt8):PErr (mustP m):=fun t n h=>by
 unfold mustP at h
 split at h
 ·cases h
 ·cases h;decide
theorem nameP_ne:PErr nameP:=fun t n h=>by
 unfold nameP at h
 split at h
 ·cases h
 ·cases h;decide
theorem bangP_ne (ty:TyD):PErr (bangP ty):=fun t n h=>by
 unfold bangP at h
 split at h<;>cases h
theorem manyP_ne {α:Type} {m:List UInt8} {f:TS→PR α} (hf:PErr f) (hl:∀ t a t',f t=.ok (a,t')→t'.length<t.length):∀ (n:Nat) (l:List α) (t:TS) (e:Int),t.length<n→manyP m f n l t=.error e→e≠0
 | 0,_,_,_,h,_=>absurd h (Nat.not_lt_zero _)
 | n+1,l,t,e,hn,h=>by
  rw [manyP] at h
  split at h
  ·cases h
  ·exact pb_err h (fun k hk=>hf _ _ hk) fun a t' ha h'=>manyP_ne hf hl n _ _ _ (by have:=hl _ _ _ ha;omega) h'
theorem many1P_ne {α:Type} {m:List UInt8} {f:TS→PR α} (hf:PErr f) (hl:∀ t a t',f t=.ok (a,t')→t'.length<t.length):PErr (many1P m f):=fun t n h =>
 pb_err h (fun k hk=>hf _ _ hk) fun a t' ha h'=>manyP_ne hf hl _ _ _ _ (Nat.lt_succ_self _) h'
theorem whileP_ne {α:Type} {m:List UInt8} {f:TS→PR α} (hf:PErr f) (hl:∀ t a t',f t=.ok (a,t')→t'.length<t.length):∀ (n:Nat) (l:List α) (t:TS) (e:Int),t.length<n→whileP m f n l t=.error e→e≠0
 | 0,_,_,_,h,_=>absurd h (Nat.not_lt_zero _)
 | n+1,l,t,e,hn,h=>by
  rw [whileP] at h
  split at h
  ·rename_i hp
   have hlt:=tail_lt hp
   exact pb_err h (fun k hk=>hf _ _ hk) fun a t' ha h'=>whileP_ne hf hl n _ _ _ (by have:=hl _ _ _ ha;omega) h'
  ·cases h
theorem typP_er:∀ k,PErr (typP k)
 | 0=>fun t n h=>by
  rw [typP_eq,typB.eq_def] at h
  split at h
  ·cases h;decide
  ·exact pb_err h (fun k hk=>nameP_ne _ _ hk) fun s t1 _ h'=>bangP_ne _ _ _ h'
 | k+1=>fun t n h=>by
  rw [typP_eq,typB.eq_def] at h
  split at h
  ·exact pb_err h (fun e he=>typP_er k _ _ he) fun ty t1 _ h'=>pb_err h' (fun e he=>mustP_ne _ _ _ he) fun _ t2 _ h''=>bangP_ne _ _ _ h''
  ·exact pb_err h (fun k hk=>nameP_ne _ _ hk) fun s t1 _ h'=>bangP_ne _ _ _ h'
theorem memberP_ne {f:TS→PR Val} (hf:PErr f):PErr (memberP f):=fun t n h =>
 pb_err h (fun e he=>nameP_ne _ _ he) fun s t1 _ h'=>pb_err h' (fun e he=>mustP_ne _ _ _ he) fun _ t2 _ h2=>pb_err h2 (fun e he=>hf _ _ he) fun x t3 _ h3=>by cases h3
theorem valB_er {fixed:Bool} {sub:Option (TS→PR Val)} (hs:∀ f,sub=some f→PErr f∧GP bV wfV 1 f):PErr (valB fixed sub):=fun t n h=>by
 rw [valB.eq_def] at h
 split at h
 ·cases h
 split at h
 ·cases h
 split at h
 ·cases h
 split at h
 ·cases sub with
  | none=>cases h;decide
  | some f =>
   obtain ⟨h1,h2⟩:=hs f rfl
   exact pb_err h (fun e he=>manyP_ne h1 (h2.lt (by decide)) _ _ _ _ (Nat.lt_succ_self _) he) fun l t' _ h'=>by cases h'
 split at h
 ·cases sub with
  | none=>cases h;decide
  | some f =>
   obtain ⟨h1,h2⟩:=hs f rfl
   exact pb_err h (fun e he=>manyP_ne (memberP_ne h1) ((memberP_fit h2).lt (by decide)) _ _ _ _ (Nat.lt_succ_self _) he) fun l t' _ h'=>by cases h'
 split at h
 ·cases h;decide
 ·exact pb_err h (fun e he=>mustP_ne _ _ _ he) fun _ t1 _ h1=>pb_err h1 (fun e he=>nameP_ne _ _ he) fun s t2 _ h2=>by cases h2
theorem valP_er (fixed:Bool):∀ k,PErr (valP fixed k)
 | 0=>fun t n h=>valB_er (sub:=none) (fun f hf=>by cases hf) t n (by rw [valP_eq] at h;exact h)
 | k+1=>fun t n h=>valB_er (sub:=some (valP fixed k)) (fun f hf=>by cases hf;exact ⟨valP_er fixed k,valP_fit fixed k⟩) t n (by rw [valP_eq] at h;exact h)
theorem argsP_ne (fixed:Bool) (k:Nat):PErr (argsP fixed k):=fun t n h=>by
 unfold argsP at h
 split at h
 ·exact many1P_ne (memberP_ne (valP_er fixed k)) ((memberP_fit (valP_fit fixed k)).lt (by decide)) _ _ h
 ·cases h
theorem dirP_ne (fixed:Bool) (k:Nat):PErr (dirP fixed k):=fun t n h =>
 pb_err h (fun e he=>nameP_ne _ _ he) fun s t1 _ h1=>pb_err h1 (fun e he=>argsP_ne _ _ _ _ he) fun a t2 _ h2=>by cases h2
theorem dirsP_ne (fixed:Bool) (k:Nat):PErr (dirsP fixed k):=fun t n h =>
 whileP_ne (dirP_ne fixed k) ((dirP_fit fixed k).lt (by decide)) _ _ _ _ (Nat.lt_succ_self _) h
theorem spreadP_ne {sels:TS→PR (List SelD)} (hs:PErr sels) (k:Nat):PErr (spreadP sels k):=fun t n h=>by
 unfold spreadP at h
 split at h
 ·exact pb_err h (fun e he=>nameP_ne _ _ he) fun s t1 _ h1=>pb_err h1 (fun e he=>dirsP_ne _ _ _ _ he) fun a t2 _ h2=>by cases h2
 ·refine pb_err h (fun e he=>?_) fun o t1 _ h1=>pb_err h1 (fun e he=>dirsP_ne _ _ _ _ he) fun a t2 _ h2=>pb_err h2 (fun e he=>hs _ _ he) fun l t3 _ h3=>by cases h3
  split at he
  ·exact nameP_ne _ _ he
  ·cases he
theorem selP_ne {sels:TS→PR (List SelD)} (hs:PErr sels) (k:Nat):PErr (selP sels k):=fun t n h=>by
 unfold selP at h
 split at h
 ·exact spreadP_ne hs k _ _ h
 ·refine pb_err h (fun e he=>nameP_ne _ _ he) fun s t1 _ h1=>pb_err h1 (fun e he=>?_) fun an t2 _ h2=>pb_err h2 (fun e he=>argsP_ne _ _ _ _ he) fun a t3 _ h3=>pb_err h3 (fun e he=>dirsP_ne _ _ _ _ he) fun d t4 _ h4=>pb_err h4 (fun e he=>?_) fun l t5 _ h5=>by cases h5
  ·split at he
   ·exact pb_err he (fun e he=>nameP_ne _ _ he) fun s t2 _ h2=>by cases h2
   ·cases he
  ·split at he
   ·exact hs _ _ he
   ·cases he
theorem selsP_ne:∀ k,PErr (selsP k)
 | 0=>fun t n h=>by
  rw [selsP] at h
  split at h<;>(cases h;decide)
 | k+1=>fun t n h=>by
  rw [selsP] at h
  split at h
  ·exact many1P_ne (selP_ne (selsP_ne k) k) ((selP_fit (selsP_fit k)).lt (by decide)) _ _ h
  ·cases h;decide
theorem varP_ne:PErr varP:=fun t n h =>
 pb_err h (fun e he=>mustP_ne _ _ _ he) fun _ t1 _ h1=>pb_err h1 (fun e he=>nameP_ne _ _ he) fun s t2 _ h2=>pb_err h2 (fun e he=>mustP_ne _ _ _ he) fun _ t3 _ h3=>pb_err h3 (fun e he=>typP_er 4 _ _ he) fun ty t4 _ h4=>by
  split at h4
  ·exact pb_err h4 (fun e he=>valP_er true 16 _ _ he) fun v t5 _ h5=>by cases h5
  ·cases h4
theorem opP_ne (kind:Int):PErr (opP kind):=fun t n h=>by
 refine pb_err h (fun e he=>?_) fun s t1 _ h1=>pb_err h1 (fun e he=>?_) fun vs t2 _ h2=>pb_err h2 (fun e he=>dirsP_ne _ _ _ _ he) fun d t3 _ h3=>pb_err h3 (fun e he=>selsP_ne 16 _ _ he) fun l t4 _ h4=>by cases h4
 ·split at he
  ·exact nameP_ne _ _ he
  ·cases he
 ·split at he
  ·exact many1P_ne varP_ne (varP_fit.lt (by decide)) _ _ he
  ·cases he
theorem fragP_ne:PErr fragP:=fun t n h=>by
 refine pb_err h (fun e he=>?_) fun s t1 _ h1=>pb_err h1 (fun e he=>?_) fun _ t2 _ h2=>pb_err h2 (fun e he=>nameP_ne _ _ he) fun o t3 _ h3=>pb_err h3 (fun e he=>dirsP_ne _ _ _ _ he) fun d t4 _ h4=>pb_err h4 (fun e he=>selsP_ne 16 _ _ he) fun l t5 _ h5=>by cases h5
 ·split at he
  ·cases he;decide
  ·exact nameP_ne _ _ he
 ·split at he
  ·cases he
  ·cases he;decide
theorem defP_ne (d:DocD):PErr (defP d):=fun t n h=>by
 unfold defP at h
 split at h
 ·exact pb_err h (fun e he=>selsP_ne 16 _ _ he) fun l t1 _ h1=>by cases h1
 split at h
 ·exact pb_err h (fun e he=>opP_ne _ _ _ he) fun l t1 _ h1=>by cases h1
 split at h
 ·exact pb_err h (fun e he=>opP_ne _ _ _ he) fun l t1 _ h1=>by cases h1
 split at h
 ·exact pb_err h (fun e he=>fragP_ne _ _ he) fun l t1 _ h1=>by cases h1
 ·cases h;decide
theorem defP_len {d d' : DocD} {t t' : TS} (h : defP d t = .ok (d', t')) : t'.length < t.length := by
  unfold defP at h
  split at h
  · obtain ⟨l, t1, h1, h2⟩ := pb_inv h
    cases h2; exact (selsP_fit 16).lt (by decide) _ _ _ h1
  split at h
  · rename_i hq
    obtain ⟨l, t1, h1, h2⟩ := pb_inv h
    have : t.tail.length < t.length := by conv => rhs; rw [hd_tail (isW_ne hq)]
                                          simp
    have h3 := (opP_fit 0).lt (by decide) _ _ _ h1
    cases h2; omega
  split at h
  · rename_i hq
    obtain ⟨l, t1, h1, h2⟩ := pb_inv h
    have : t.tail.length < t.length := by conv => rhs; rw [hd_tail (isW_ne hq)]
                                          simp
    have h3 := (opP_fit 1).lt (by decide) _ _ _ h1
    cases h2; omega
  split at h
  · rename_i hq
    obtain ⟨l, t1, h1, h2⟩ := pb_inv h
    have : t.tail.length < t.length := by conv => rhs; rw [hd_tail (isW_ne hq)]
                                          simp
    have h3 := fragP_fit.lt (by decide) _ _ _ h1
    cases h2; omega
  · cases h
theorem defsP_ne:∀ (n:Nat) (d:DocD) (t:TS) (e:Int),t.length<n→defsP n d t=.error e→e≠0
 | 0,_,_,_,h,_=>absurd h (Nat.not_lt_zero _)
 | n+1,d,t,e,hn,h=>by
  rw [defsP] at h
  split at h
  ·cases h
  ·exact pb_err h (fun k hk=>defP_ne _ _ _ hk) fun d' t' ha h'=>defsP_ne n _ _ _ (by have:=defP_len ha;omega) h'
theorem docP_er:PErr docP:=fun t n h =>
 pb_err h (fun e he=>defP_ne _ _ _ he) fun d t1 ha h1=>defsP_ne _ _ _ _ (by have:=defP_len ha;omega) h1
end Go.Proofs.YticbbfbpeimkbaaGreatDoor
namespace Go.Proofs.YticbbfbpeimkbaaGreatDoor
open Go.Ab
theorem wL_dw (p:List UInt8→Bool):∀ l:List (List UInt8),wL (l.dropWhile p)≤wL l
 | []=>Nat.le_refl _
 | x :: r=>by
  rw [List.dropWhile_cons]
  split
  ·have:=wL_dw p r;rw [wL_cons];omega
  ·exact Nat.le_refl _
theorem wL_rev (l:List (List UInt8)):wL l.reverse=wL l:=by
 induction l with
 | nil=>rfl
 | cons x r ih=>rw [List.reverse_cons,wL_app,ih,wL_cons,wL_cons];simp [wL];omega
theorem blockM_len (raw:List UInt8):(blockM raw).length≤raw.length+1:=by
 have h1:=lines_sum raw []
 have h2:wL (dropM (linesM raw))≤wL (linesM raw):=by
  cases hx:linesM raw with
  | nil=>exact Nat.le_refl _
  | cons x r =>
   simp only [dropM]
   rw [wL_cons,wL_cons]
   have:=wL_drop (indM (x :: r)).toNat r
   omega
 unfold blockM trimR
 have h3:=join_wL ((((dropM (linesM raw)).dropWhile bareL).reverse.dropWhile bareL).reverse)
 rw [wL_rev] at h3
 have h4:=wL_dw bareL ((dropM (linesM raw)).dropWhile bareL).reverse
 rw [wL_rev] at h4
 have h5:=wL_dw bareL (dropM (linesM raw))
 have h6:wL (linesM raw)≤raw.length+1:=by simpa [wL,linesM] using h1
 omega
theorem oneT_w {s t:List UInt8} {x:Tok} (h:oneT s=some (x,t)):x.s.length+t.length≤s.length+1:=by
 cases s with
 | nil=>cases h
 | cons c r =>
  rw [oneT_cons] at h
  split at h
  ·cases hr:rawM (r.length+1) [] (r.drop 2) with
   | none=>rw [hr] at h;cases h
   | some y =>
    rw [hr] at h
    simp only [Option.map_some,Option.some.injEq,Prod.mk.injEq] at h
    obtain ⟨rfl,rfl⟩:=h
    have h1:=(rawM_len _ _ _ _ _ (show rawM _ _ _=some (y.1,y.2) from hr)).1
    have h2:=blockM_len y.1
    simp at h1 ⊢
    omega
  split at h
  ·cases hr:quoM lineB r with
   | none=>rw [hr] at h;cases h
   | some y =>
    rw [hr] at h
    simp only [Option.map_some,Option.some.injEq,Prod.mk.injEq] at h
    obtain ⟨rfl,rfl⟩:=h
    have h1:=quoM_w (show quoM lineB r=some (y.1,y.2) from hr)
    simp only [List.length_cons]
    omega
  split at h
  ·rename_i hp
   have hl:=pre_len _ _ hp
   have hd3:dotsT.length=3:=rfl
   rw [hd3] at hl
   cases h;simp [hd3] at hl ⊢;omega
  split at h
  ·cases h;simp;omega
  split at h
  ·cases h;simp;omega
  split at h
  ·cases h
  split at h
  ·cases h
  ·cases h;simp;omega
theorem readG_w:∀ (n:Nat) (l:List Tok) (s:List UInt8) (l':List Tok),readG n l s=.ok l'→wT l'≤wT l+6*s.length
 | 0,_,_,_,h=>by cases h
 | n+1,l,s,l',h=>by
  simp only [readG] at h
  split at h
  ·cases h;omega
  split at h
  ·have:=readG_w n _ _ _ h
   simp at this;omega
  ·cases ho:oneT s with
   | none=>rw [ho] at h;cases h
   | some x =>
    rw [ho] at h
    have h1:=oneT_lt (show oneT s=some (x.1,x.2) from ho)
    have h2:=oneT_w (show oneT s=some (x.1,x.2) from ho)
    have h3:=readG_w n _ _ _ h
    have h4:wT (l++[x.1])=wT l+wK x.1:=by simp [wT]
    rw [h4,wK] at h3
    omega
theorem readT_w {s:List UInt8} {L:List Tok} (h:readT s=.ok L):wT L≤LimP:=by
 obtain ⟨h1,_,h3⟩:=readT_ok h
 have h4:=readG_w _ _ _ _ h3
 have e:wT ([]:List Tok)=0:=rfl
 rw [e] at h4
 simp only [LimP];omega
def docR (s:List UInt8):DocD × Int:=match readT s with
 | .error n=>(⟨[],[]⟩,n)
 | .ok L=>match docP L with
  | .error n=>(⟨[],[]⟩,n)
  | .ok (d,_)=>(d,0)
def valR (fixed:Bool) (s:List UInt8):Val × Int:=match readT s with
 | .error n=>(zV,n)
 | .ok L=>match valP fixed 16 L with
  | .error n=>(zV,n)
  | .ok (v,t)=>if t=[] then (v,0) else (zV,2)
def tyR (s:List UInt8):TyD × Int:=match readT s with
 | .error n=>(⟨[],0,0⟩,n)
 | .ok L=>match typP 4 L with
  | .error n=>(⟨[],0,0⟩,n)
  | .ok (v,t)=>if t=[] then (v,0) else (⟨[],0,0⟩,2)
theorem valP_ne {s:List UInt8} {L:List Tok} {fixed:Bool} {n:Int} (h:readT s=.ok L) (he:valP fixed 16 L=.error n):n≠0:=valP_er fixed 16 _ _ he
theorem typP_ne {L:List Tok} {n:Int} (he:typP 4 L=.error n):n≠0:=typP_er 4 _ _ he
theorem docP_ne {s:List UInt8} {L:List Tok} {n:Int} (h:readT s=.ok L) (he:docP L=.error n):n≠0:=docP_er _ _ he
def ValO (fixed:Bool) (s:List UInt8) (b:Nat) (n:Int) (H:Heap):Prop:=(n≠0∧valR fixed s=(zV,n))∨(n=0∧∃ v,valR fixed s=(v,0)∧H b=some (.cells (cV v)))
theorem valCloC {s:List UInt8} {L:List Tok} (fixed:Bool) (hR:readT s=.ok L) {Hc:Heap} {b6 r:Nat} (h6:Hc b6=some (.cells zB)) (hr:Hc r=none) :
  ACalls Tryz.prog 95 [.ptr r 0,.view [.bool fixed],.ptr b6 0] (Hc.upd r (prc L [] 0)) (fun e H'=>match e with
   | .ret _=>∃ p t dp,p++t=L∧H' r=some (prc L p dp)∧ValO fixed s b6 (if t=[] then 0 else 2) H'
   | .pan v=>∃ n,v=stopP n∧∀ H,ValO fixed s b6 n H):=by
 refine ACalls.goO (R:=fun _ H'=>∃ p t dp,p++t=L∧H' r=some (prc L p dp)∧ValO fixed s b6 (if t=[] then 0 else 2) H') (RP:=fun v _=>∃ n,v=stopP n∧∀ H,ValO fixed s b6 n H) ir95 ck95 (Nat.le_refl _) fun KP Q hQ hP=>?_
 have n6:b6≠r:=fun e=>by subst e;rw [hr] at h6;cases h6
 simp (disch:=first|omega|assumption) only [ir95,go_sem,↓reduceIte]
 refine goK_both (valuePall fixed 16 (Nat.le_refl _) _ r L [] L rfl (readT_w hR) (upd_same ..)) (fun v H1 ⟨x,t,e,hv,ha⟩=>?_) fun v H1 ⟨n,e,hv⟩=>hP v H1 H1 (Low.refl _) ⟨n,hv,fun H=>.inl ⟨valP_ne hR e,by unfold valR;rw [hR];simp only [e]⟩⟩
 subst hv
 obtain ⟨p,hp,hr1⟩:=ha.at
 have g6:H1 b6=some (.cells zB):=by rw [ha.other n6,upd_ne n6,h6]
 simp only [zB] at g6
 simp (disch:=first|omega|assumption) only [cV_len,cV_take,cV_splice,cM_len,cM_take,cM_splice,cM_mk,g6,go_sem,↓reduceIte]
 refine hQ _ _ _ _ [] nofun rfl (Low.refl _) ⟨p,t,16-16,hp,by rw [upd_ne (Ne.symm n6)];exact hr1,?_⟩
 by_cases ht:t=[]
 ·rw [if_pos ht]
  exact .inr ⟨rfl,x,by unfold valR;rw [hR];simp only [e];rw [if_pos ht],upd_same ..⟩
 ·rw [if_neg ht]
  exact .inl ⟨by decide,by unfold valR;rw [hR];simp only [e];rw [if_neg ht]⟩
theorem un_one {b4 b6:Nat} {x y:AObj} (h:b6≠b4):(Heap.emp.upd b4 x).upd b6 y=Heap.union (Heap.one b6 y) (Heap.one b4 x):=by
 funext c
 by_cases e1:c=b6
 ·subst e1;simp [Heap.union,Heap.upd,Heap.one]
 ·by_cases e2:c=b4
  ·subst e2;simp [Heap.union,Heap.upd,Heap.one,e1]
  ·simp [Heap.union,Heap.upd,Heap.one,e1,e2,Heap.emp]
theorem un_disj {b4 b6:Nat} {x y:AObj} (h:b6≠b4):Heap.Disj (Heap.one b6 y) (Heap.one b4 x):=fun c=>by
 by_cases e:c=b4
 ·subst e;exact .inl (by simp [Heap.one,Ne.symm h])
 ·exact .inr (by simp [Heap.one,e])
theorem un_b4 {A:Heap} {b4:Nat} {x:AObj} (h:Heap.Disj A (Heap.one b4 x)):Heap.union A (Heap.one b4 x) b4=some x:=by
 have hB:Heap.one b4 x b4=some x:=by simp [Heap.one]
 rcases h b4 with h|h
 ·simp [Heap.union,h,hB]
 ·rw [hB] at h;cases h
theorem un_l {A B:Heap} {b:Nat} {x:AObj} (h:A b=some x):Heap.union A B b=some x:=by simp [Heap.union,h]
theorem parseValueC (s:List UInt8) (fixed:Bool) (hl:s.length≤LimQ):Pure Tryz.prog 42 [.str s,.bool fixed] (.tup [.agg (cV (valR fixed s).1),.int .i64 (valR fixed s).2]):=by
 refine Pure.go ir42 ck42 (Nat.le_refl _) fun KP Q hQ=>?_
 simp (disch:=first|omega|assumption) only [ir42,go_sem,↓reduceIte]
 refine goA_intro fun b4 hb4=>?_
 simp (disch:=first|omega|assumption) only [go_sem,↓reduceIte]
 refine goA_intro fun b6 hb6=>?_
 have h64:b6≠b4:=fun e=>by subst e;rw [upd_same] at hb6;cases hb6
 have h6c:(Heap.one b6 (.cells zB)) b6=some (.cells zB):=by simp [Heap.one]
 have hc:=ACalls.frame (un_disj (x:=.cells zB) h64) (runPC (s:=s) (Hc:=Heap.one b6 (.cells zB)) (clo:=95) (caps:=[.view [.bool fixed],.ptr b6 0]) hl (by decide +kernel) (ValO fixed s b6)
  (fun n h=>.inl ⟨readT_err h,by unfold valR;rw [h]⟩) (fun L hR r hr=>valCloC fixed hR h6c hr))
 rw [← un_one h64] at hc
 simp (disch:=first|omega|assumption) only [go_sem,↓reduceIte]
 refine goK_calls hc fun e H' ⟨A',hq,hd',hH'⟩=>?_
 subst hH'
 cases e with
 | pan v=>exact hq.elim
 | ret v =>
  obtain ⟨n,hv,ho⟩:=hq
  subst hv
  have g4:=un_b4 hd'
  simp only [zB] at g4
  show goR _ _ _ _ _ _ _ _ _
  rcases ho with ⟨hn,he⟩|⟨hn,x,he,h6⟩
  ·rw [he] at hQ
   simp (disch:=first|omega|assumption) only [hn,g4,go_sem,↓reduceIte]
   exact hQ _ _ _ [.agg [.int .i64 0,.int .i64 0,.str [],.sl .nil 5 [],.sl .nil 6 []],.int .i64 n] nofun (by simp (disch:=first|omega|assumption) only [ir42,resvs,resv,go_sem,↓reduceIte]) (by simp [tupOf,AV.strip,AV.strip1,zV,cV,cVs,cMs])
  ·subst hn
   rw [he] at hQ
   have g6:=un_l (B:=Heap.one b4 (.cells zB)) h6
   simp (disch:=first|omega|assumption) only [cV_len,cV_take,cV_splice,cM_len,cM_take,cM_splice,cM_mk,g4,g6,go_sem,↓reduceIte]
   exact hQ _ _ _ [.agg (cV x),.int .i64 0] nofun (by simp (disch:=first|omega|assumption) only [cV_len,cV_take,cV_splice,cM_len,cM_take,cM_splice,cM_mk,ir42,resvs,resv,go_sem,↓reduceIte]) (by simp [tupOf,AV.strip,AV.strip1,cV_strip])
end Go.Proofs.YticbbfbpeimkbaaGreatDoor
namespace Go.Proofs.YticbbfbpeimkbaaGreatDoor
open Go.Ab
def TyO (s:List UInt8) (b:Nat) (n:Int) (H:Heap):Prop:=(n≠0∧tyR s=(⟨[],0,0⟩,n))∨(n=0∧∃ v,tyR s=(v,0)∧H b=some (.cells (cTy v)))
theorem tyCloC {s:List UInt8} {L:List Tok} (hR:readT s=.ok L) {Hc:Heap} {b6 r:Nat} (h6:Hc b6=some (.cells zT)) (hr:Hc r=none) :
  ACalls Tryz.prog 99 [.ptr r 0,.ptr b6 0] (Hc.upd r (prc L [] 0)) (fun e H'=>match e with
   | .ret _=>∃ p t dp,p++t=L∧H' r=some (prc L p dp)∧TyO s b6 (if t=[] then 0 else 2) H'
   | .pan v=>∃ n,v=stopP n∧∀ H,TyO s b6 n H):=by
 refine ACalls.goO (R:=fun _ H'=>∃ p t dp,p++t=L∧H' r=some (prc L p dp)∧TyO s b6 (if t=[] then 0 else 2) H') (RP:=fun v _=>∃ n,v=stopP n∧∀ H,TyO s b6 n H) ir99 ck99 (Nat.le_refl _) fun KP Q hQ hP=>?_
 have n6:b6≠r:=fun e=>by subst e;rw [hr] at h6;cases h6
 simp (disch:=first|omega|assumption) only [ir99,go_sem,↓reduceIte]
 refine goK_both (typePC (dp:=0) (p:=[]) (t:=L) rfl (readT_w hR) (upd_same ..)) (fun v H1 ⟨x,t,e,hv,ha⟩=>?_) fun v H1 ⟨n,e,hv⟩=>hP v H1 H1 (Low.refl _) ⟨n,hv,fun H=>.inl ⟨typP_ne e,by unfold tyR;rw [hR];simp only [e]⟩⟩
 subst hv
 obtain ⟨p,hp,hr1⟩:=ha.at
 have g6:H1 b6=some (.cells zT):=by rw [ha.other n6,upd_ne n6,h6]
 simp only [zT] at g6
 simp (disch:=first|omega|assumption) only [g6,cTy,go_sem,↓reduceIte]
 refine hQ _ _ _ _ [] nofun rfl (Low.refl _) ⟨p,t,0,hp,by rw [upd_ne (Ne.symm n6)];exact hr1,?_⟩
 by_cases ht:t=[]
 ·rw [if_pos ht]
  exact .inr ⟨rfl,x,by unfold tyR;rw [hR];simp only [e];rw [if_pos ht],upd_same ..⟩
 ·rw [if_neg ht]
  exact .inl ⟨by decide,by unfold tyR;rw [hR];simp only [e];rw [if_neg ht]⟩
theorem parseTypeC (s:List UInt8) (hl:s.length≤LimQ):Pure Tryz.prog 44 [.str s] (.tup [.agg (cTy (tyR s).1),.int .i64 (tyR s).2]):=by
 refine Pure.go ir44 ck44 (Nat.le_refl _) fun KP Q hQ=>?_
 simp (disch:=first|omega|assumption) only [ir44,go_sem,↓reduceIte]
 refine goA_intro fun b4 hb4=>?_
 simp (disch:=first|omega|assumption) only [go_sem,↓reduceIte]
 refine goA_intro fun b6 hb6=>?_
 have h64:b6≠b4:=fun e=>by subst e;rw [upd_same] at hb6;cases hb6
 have h6c:(Heap.one b6 (.cells zT)) b6=some (.cells zT):=by simp [Heap.one]
 have hc:=ACalls.frame (un_disj (x:=.cells zT) h64) (runPC (s:=s) (Hc:=Heap.one b6 (.cells zT)) (clo:=99) (caps:=[.ptr b6 0]) hl (by decide +kernel) (TyO s b6)
  (fun n h=>.inl ⟨readT_err h,by unfold tyR;rw [h]⟩) (fun L hR r hr=>tyCloC hR h6c hr))
 rw [← un_one h64] at hc
 simp (disch:=first|omega|assumption) only [go_sem,↓reduceIte]
 refine goK_calls hc fun e H' ⟨A',hq,hd',hH'⟩=>?_
 subst hH'
 cases e with
 | pan v=>exact hq.elim
 | ret v =>
  obtain ⟨n,hv,ho⟩:=hq
  subst hv
  have g4:=un_b4 hd'
  simp only [zT] at g4
  show goR _ _ _ _ _ _ _ _ _
  rcases ho with ⟨hn,he⟩|⟨hn,x,he,h6⟩
  ·rw [he] at hQ
   simp (disch:=first|omega|assumption) only [hn,g4,go_sem,↓reduceIte]
   exact hQ _ _ _ [.agg [.str [],.int .i64 0,.int .i64 0],.int .i64 n] nofun (by simp (disch:=first|omega|assumption) only [ir44,resvs,resv,go_sem,↓reduceIte]) (by simp [tupOf,AV.strip,AV.strip1,cTy])
  ·subst hn
   rw [he] at hQ
   have g6:=un_l (B:=Heap.one b4 (.cells zT)) h6
   simp only [cTy,zT] at g6
   simp (disch:=first|omega|assumption) only [g4,g6,go_sem,↓reduceIte]
   exact hQ _ _ _ [.agg [.str x.nm,.int .i64 x.lists,.int .i64 x.musts],.int .i64 0] nofun (by simp (disch:=first|omega|assumption) only [ir44,resvs,resv,go_sem,↓reduceIte]) (by simp [tupOf,AV.strip,AV.strip1,cTy])
abbrev zDoc:List AV:=[.sl .nil 5 [],.sl .nil 4 []]
def DocO (s:List UInt8) (b:Nat) (n:Int) (H:Heap):Prop:=(n≠0∧docR s=(⟨[],[]⟩,n))∨(n=0∧∃ d o1 o2,docR s=(d,0)∧H b=some (.cells [.sl o1 5 (cOs d.ops),.sl o2 4 (cFs d.frags)]))
theorem docCloC {s:List UInt8} {L:List Tok} (hR:readT s=.ok L) {Hc:Heap} {b6 r:Nat} (h6:Hc b6=some (.cells zDoc)) (hr:Hc r=none) :
  ACalls Tryz.prog 90 [.ptr r 0,.ptr b6 0] (Hc.upd r (prc L [] 0)) (fun e H'=>match e with
   | .ret _=>∃ p t dp,p++t=L∧H' r=some (prc L p dp)∧DocO s b6 (if t=[] then 0 else 2) H'
   | .pan v=>∃ n,v=stopP n∧∀ H,DocO s b6 n H):=by
 refine ACalls.goO (R:=fun _ H'=>∃ p t dp,p++t=L∧H' r=some (prc L p dp)∧DocO s b6 (if t=[] then 0 else 2) H') (RP:=fun v _=>∃ n,v=stopP n∧∀ H,DocO s b6 n H) ir90 ck90 (Nat.le_refl _) fun KP Q hQ hP=>?_
 have n6:b6≠r:=fun e=>by subst e;rw [hr] at h6;cases h6
 have hw:=readT_w hR
 have pan:∀ (v:AV) (H1:Heap) (n:Int),v=stopP n→docP L=.error n→KP v H1:=fun v H1 n h1 h2=>hP v H1 H1 (Low.refl _) ⟨n,h1,fun H=>.inl ⟨docP_ne hR h2,by unfold docR;rw [hR];simp only [h2]⟩⟩
 have D0:DI L r b6 (Hc.upd r (prc L [] 0)) L ⟨[],[]⟩ .nil .nil:=⟨⟨[],rfl,upd_same ..⟩,by rw [upd_ne n6];exact h6,rfl,rfl,nofun,n6⟩
 simp (disch:=first|omega|assumption) only [ir90,go_sem,↓reduceIte]
 refine goK_calls (defPC D0 hw (Nat.zero_le _)) fun e H1 hq=>?_
 cases e with
 | pan v =>
  obtain ⟨n,hv,he⟩:=hq
  exact pan v H1 n hv (by unfold docP;rw [he];rfl)
 | ret v =>
  obtain ⟨d1,t1,o1,o2,e1,hv,D1,hl1,hlt1⟩:=hq
  subst hv
  obtain ⟨R,hRR⟩:∃ R,defsP (L.length+1-0) d1 t1=R:=⟨_,rfl⟩
  have hx:docP L=defsP (t1.length+1) d1 t1:=by unfold docP;rw [e1];rfl
  obtain ⟨R,hRR⟩:∃ R,defsP (t1.length+1) d1 t1=R:=⟨_,rfl⟩
  rw [hRR] at hx
  show goR _ _ _ _ _ _ _ _ _
  simp (disch:=first|omega|assumption) only [go_sem,↓reduceIte]
  refine goL_st (fun x:DocD × TS × Own × Own=>[]) (fun x H'=>DI L r b6 H' x.2.1 x.1 x.2.2.1 x.2.2.2∧(∃ m,x.2.1.length<m∧defsP m x.1 x.2.1=R)∧x.1.ops.length+x.1.frags.length+x.2.1.length≤L.length) (fun x=>x.2.1.length) (d1,t1,o1,o2) (by simp (disch:=first|omega|assumption) only [go_sem,↓reduceIte]) ⟨D1,⟨_,Nat.lt_succ_self _,hRR⟩,by simpa using hl1⟩ ?_
  rintro ⟨d,t,p1,p2⟩ H2 J ⟨D2,⟨m,hm,hR2⟩,hlen⟩ hJ
  simp only at D2 hm hR2 hlen
  obtain ⟨m,rfl⟩:∃ j,m=j+1:=⟨m-1,by omega⟩
  obtain ⟨q,hq,hr2⟩:=D2.rd
  rw [defsP] at hR2
  simp (disch:=first|omega|assumption) only [go_sem,↓reduceIte]
  refine goK_ret (moreP hq hr2) fun v3 H3 ⟨hv3,hH3⟩=>?_
  subst hv3;subst hH3
  by_cases ht:t=[]
  ·rw [if_pos ht] at hR2
   have hd:decide (t≠[])=false:=by simp [ht]
   rw [hd]
   simp (disch:=first|omega|assumption) only [go_sem,↓reduceIte]
   refine hQ _ _ _ _ [] nofun rfl (Low.refl _) ⟨q,t,16-16,hq,hr2,?_⟩
   rw [if_pos ht]
   exact .inr ⟨rfl,d,p1,p2,by unfold docR;rw [hR];simp only [hx,← hR2],D2.box⟩
  ·rw [if_neg ht] at hR2
   have hd:decide (t≠[])=true:=by simp [ht]
   rw [hd]
   simp (disch:=first|omega|assumption) only [go_sem,↓reduceIte]
   refine goK_calls (defPC D2 hw (by omega)) fun e H4 hq4=>?_
   cases e with
   | pan v =>
    obtain ⟨n,hv,he⟩:=hq4
    exact pan v H4 n hv (by rw [hx,← hR2,he];rfl)
   | ret v =>
    obtain ⟨d4,t4,o3,o4,e4,hv,D4,hl4,hlt4⟩:=hq4
    subst hv
    rw [e4,pb_ok] at hR2
    show goR _ _ _ _ _ _ _ _ _
    simp (disch:=first|omega|assumption) only [go_sem,↓reduceIte]
    exact goJ (hJ (d4,t4,o3,o4) _ (by simp only;omega) ⟨D4,⟨m,by simp only;omega,hR2⟩,by simp only;omega⟩) (by simp (disch:=first|omega|assumption) only [go_sem,↓reduceIte])
theorem parseReadC (s:List UInt8) (hl:s.length≤LimQ):Pure Tryz.prog 40 [.str s] (.tup [.agg (cDoc (docR s).1),.int .i64 (docR s).2]):=by
 refine Pure.go ir40 ck40 (Nat.le_refl _) fun KP Q hQ=>?_
 simp (disch:=first|omega|assumption) only [ir40,go_sem,↓reduceIte]
 refine goA_intro fun b4 hb4=>?_
 simp (disch:=first|omega|assumption) only [go_sem,↓reduceIte]
 refine goA_intro fun b6 hb6=>?_
 have h64:b6≠b4:=fun e=>by subst e;rw [upd_same] at hb6;cases hb6
 have h6c:(Heap.one b6 (.cells zDoc)) b6=some (.cells zDoc):=by simp [Heap.one]
 have hc:=ACalls.frame (un_disj (x:=.cells zDoc) h64) (runPC (s:=s) (Hc:=Heap.one b6 (.cells zDoc)) (clo:=90) (caps:=[.ptr b6 0]) hl (by decide +kernel) (DocO s b6)
  (fun n h=>.inl ⟨readT_err h,by unfold docR;rw [h]⟩) (fun L hR r hr=>docCloC hR h6c hr))
 rw [← un_one h64] at hc
 simp (disch:=first|omega|assumption) only [go_sem,↓reduceIte]
 refine goK_calls hc fun e H' ⟨A',hq,hd',hH'⟩=>?_
 subst hH'
 cases e with
 | pan v=>exact hq.elim
 | ret v =>
  obtain ⟨n,hv,ho⟩:=hq
  subst hv
  have g4:=un_b4 hd'
  simp only [zDoc] at g4
  show goR _ _ _ _ _ _ _ _ _
  rcases ho with ⟨hn,he⟩|⟨hn,x,o1,o2,he,h6⟩
  ·rw [he] at hQ
   simp (disch:=first|omega|assumption) only [hn,g4,go_sem,↓reduceIte]
   exact hQ _ _ _ [.agg [.sl .nil 5 [],.sl .nil 4 []],.int .i64 n] nofun (by simp (disch:=first|omega|assumption) only [ir40,resvs,resv,go_sem,↓reduceIte]) (by simp [tupOf,AV.strip,AV.strip1,cDoc,cOs,cFs])
  ·subst hn
   rw [he] at hQ
   have g6:=un_l (B:=Heap.one b4 (.cells zDoc)) h6
   simp (disch:=first|omega|assumption) only [g4,g6,go_sem,↓reduceIte]
   exact hQ _ _ _ [.agg [.sl o1 5 (cOs x.ops),.sl o2 4 (cFs x.frags)],.int .i64 0] nofun (by simp (disch:=first|omega|assumption) only [ir40,resvs,resv,go_sem,↓reduceIte]) (by simp [tupOf,AV.strip,AV.strip1,cDoc])
end Go.Proofs.YticbbfbpeimkbaaGreatDoor

namespace Go.Proofs.YticbbfbpeimkbaaGreatDoor
open Go.Ab
end Go.Proofs.YticbbfbpeimkbaaGreatDoor
namespace Go.Proofs.YticbbfbpeimkbaaGreatDoor
open Go.Ab
end Go.Proofs.YticbbfbpeimkbaaGreatDoor
namespace Go.Proofs.YticbbfbpeimkbaaGreatDoor
open Go.Ab
def HdLe (t t':TS):Prop:=hdT t'=hdT t∨hdT t'=⟨0,[]⟩
theorem HdLe.pre {c t t':TS} (h:c≠[]∨HdLe t t'):HdLe (c++t) (c++t'):=by
 cases c with
 | nil=>exact h.resolve_left (fun e=>e rfl)
 | cons x c=>exact .inl rfl
def Lk {α:Type} (one:Bool) (f:TS→PR α):Prop:=∀ t a t',f t=.ok (a,t')→∃ c,(one=true→c≠[])∧t=c++t'∧∀ t'',HdLe t' t''→f (c++t'')=.ok (a,t'')
def Cl {α:Type} (f:TS→PR α):Prop:=∀ t a t',f t=.ok (a,t')→∃ c,c≠[]∧t=c++t'∧∀ t'',f (c++t'')=.ok (a,t'')
theorem Lk.bind {α β:Type} {one two:Bool} {f:TS→PR α} {g:α→TS→PR β} (hf:Lk one f) (hg:∀ a,Lk two (g a)):Lk (one || two) (fun t=>pb (f t) g):=fun t b t' h=>by
 obtain ⟨a,t1,h1,h2⟩:=pb_inv h
 obtain ⟨c1,n1,e1,k1⟩:=hf _ _ _ h1
 obtain ⟨c2,n2,e2,k2⟩:=hg a _ _ _ h2
 subst e2
 refine ⟨c1++c2,fun e=>?_,by rw [e1,List.append_assoc],fun t'' ht=>?_⟩
 ·rw [Bool.or_eq_true] at e
  rcases e with e|e
  ·have:=n1 e;simp [this]
  ·have:=n2 e;simp [this]
 ·rw [List.append_assoc]
  simp only
  rw [k1 (c2++t'') (HdLe.pre (.inr ht)),pb_ok]
  exact k2 t'' ht
theorem Lk.ret {α:Type} (a:α):Lk false (fun t=>(.ok (a,t):PR α)):=fun t b t' h=>by
 simp only [Except.ok.injEq,Prod.mk.injEq] at h
 obtain ⟨rfl,rfl⟩:=h
 exact ⟨[],fun e=>(nomatch e),rfl,fun t'' _=>rfl⟩
theorem Cl.map {α β:Type} {f:TS→PR α} {F:α→β} (hf:Cl f):Cl (fun t=>pb (f t) fun a t=>.ok (F a,t)):=fun t b t' h=>by
 obtain ⟨a,t1,h1,h2⟩:=pb_inv h
 simp only [Except.ok.injEq,Prod.mk.injEq] at h2
 obtain ⟨rfl,rfl⟩:=h2
 obtain ⟨c1,n1,e1,k1⟩:=hf _ _ _ h1
 exact ⟨c1,n1,e1,fun t''=>by simp only;rw [k1,pb_ok]⟩
theorem Lk.error {α:Type} {one:Bool} (e:Int):Lk one (fun _=>(.error e:PR α)):=fun t a t' h=>by cases h
theorem Cl.error {α:Type} (e:Int):Cl (fun _=>(.error e:PR α)):=fun t a t' h=>by cases h
def En {α:Type} (f:TS→PR α):Prop:=f []=.error 2∧∀ p x a,f (p++[x])=.ok (a,[])→f p=.error 2
theorem last_split {c t' p:TS} {x:Tok} (h:p++[x]=c++t') (hne:t'≠[]):∃ q,t'=q++[x]∧p=c++q:=by
 obtain ⟨q,y,rfl⟩:∃ q y,t'=q++[y]:=⟨t'.dropLast,t'.getLast hne,(List.dropLast_concat_getLast hne).symm⟩
 rw [← List.append_assoc] at h
 have h1:=List.append_inj_left' h rfl
 have h2:=List.append_inj_right' h rfl
 simp only [List.cons.injEq,and_true] at h2
 subst h2
 exact ⟨q,rfl,h1⟩
theorem hdle_last (q:TS) (x:Tok):HdLe (q++[x]) q:=by
 cases q with
 | nil=>exact .inr rfl
 | cons y q=>exact .inl rfl
theorem En.bind {α β:Type} {one:Bool} {f:TS→PR α} {g:α→TS→PR β} (hf:Lk one f) (h0:pb (f []) g=.error 2) (hg:∀ a,En (g a)):En (fun t=>pb (f t) g):=by
 refine ⟨h0,fun p x b h=>?_⟩
 obtain ⟨a,t1,h1,h2⟩:=pb_inv h
 obtain ⟨c,n,e,k⟩:=hf _ _ _ h1
 by_cases ht:t1=[]
 ·rw [ht,(hg a).1] at h2;cases h2
 ·obtain ⟨q,rfl,rfl⟩:=last_split e ht
  simp only
  rw [k q (hdle_last q x),pb_ok]
  exact (hg a).2 _ _ _ h2
theorem En.map {α β:Type} {f:TS→PR α} {F:α→β} (hf:En f):En (fun t=>pb (f t) fun a t=>.ok (F a,t)):=by
 refine ⟨by simp only [hf.1];rfl,fun p x b h=>?_⟩
 obtain ⟨a,t1,h1,h2⟩:=pb_inv h
 simp only [Except.ok.injEq,Prod.mk.injEq] at h2
 obtain ⟨rfl,rfl⟩:=h2
 simp only [hf.2 _ _ _ h1];rfl
end Go.Proofs.YticbbfbpeimkbaaGreatDoor
namespace Go.Proofs.YticbbfbpeimkbaaGreatDoor
open Go.Ab
def awS1:List UInt8:=[123,97,32,46,46,46,111,110,32,66,123,99,125,125]
def awS2:List UInt8:=[113,117,101,114,121,40,36,120,58,73,110,116,61,36,121,41,123,97,125]
def awD:DocD:=⟨[⟨0,[],[],[],[.mk 0 [] [97] [] [] [] [],.mk 2 [] [] [] [] [66] [.mk 0 [] [99] [] [] [] []]]⟩],[]⟩
theorem aw1:docR awS1=(awD,0):=by kernel_rfl
theorem aw2:docR awS2=(⟨[],[]⟩,2):=by kernel_rfl
theorem awakeP6:Pure Tryz.prog 39 [] (.bool true):=by
 refine Pure.go ir39 ck39 (Nat.le_refl _) fun KP Q hQ=>?_
 have h1:=parseReadC awS1 (by decide)
 have h2:=parseReadC awS2 (by decide)
 rw [aw1] at h1
 rw [aw2] at h2
 have ed:cDoc awD=[.sl .no 5 [[.int .i64 0,.str [],.sl .no 10 [],.sl .no 2 [],.sl .no 7 [[.int .i64 0,.str [],.str [97],.sl .no 6 [],.sl .no 2 [],.str [],.sl .no 7 []],[.int .i64 2,.str [],.str [],.sl .no 6 [],.sl .no 2 [],.str [66],.sl .no 7 [[.int .i64 0,.str [],.str [99],.sl .no 6 [],.sl .no 2 [],.str [],.sl .no 7 []]]]]]],.sl .no 4 []]:=rfl
 have ez:cDoc ⟨[],[]⟩=[.sl .no 5 [],.sl .no 4 []]:=rfl
 simp (disch:=first|omega|assumption) only [ir39,go_sem,↓reduceIte]
 refine goK_pure (h1:Pure Tryz.prog 40 [.str _] _) ?_
 simp (disch:=first|omega|assumption) only [ed,go_sem,↓reduceIte]
 refine goA_intro fun b1 hb1=>?_
 simp (disch:=first|omega|assumption) only [go_sem,↓reduceIte]
 refine goK_pure (h2:Pure Tryz.prog 40 [.str _] _) ?_
 simp (disch:=first|omega|assumption) only [ez,go_sem,↓reduceIte]
 refine goA_intro fun b2 hb2=>?_
 have h21:b2≠b1:=fun e=>by subst e;rw [upd_same] at hb2;cases hb2
 simp (disch:=first|omega|assumption) only [Ne.symm h21,h21,List.length_cons,List.length_nil,List.getD_cons_zero,List.getD_cons_succ,go_sem,↓reduceIte]
 exact hQ _ _ _ _ nofun rfl (by simp [tupOf,envOf,AV.strip,AV.strip1])
end Go.Proofs.YticbbfbpeimkbaaGreatDoor
namespace Go.Proofs.YticbbfbpeimkbaaGreatDoor
open Go.Ab
theorem fdivP (m:Int) (k:Nat) (hk:k≤64):m.fdiv (2 ^ min k IntKind.i64.bits)=m / 2 ^ k:=by
 have e:min k IntKind.i64.bits=k:=by show min k 64=k;omega
 have hp:(0:Int)≤2 ^ k:=by exact_mod_cast Nat.zero_le _
 rw [e,Int.fdiv_eq_ediv_of_nonneg _ hp]
theorem rightTyC (t:TyD) (hs:t.nm.length≤Lim):Pure Tryz.prog 125 [.agg (cTy t)] (.bool (rightTy t)):=by
 refine Pure.go ir125 ck125 (Nat.le_refl _) fun KP Q hQ=>?_
 obtain ⟨nm,ls,ms⟩:=t
 simp only at hs
 simp (disch:=first|omega|assumption) only [ir125,cTy,steps,st2,pev,rev,oev,optr,ibin,sbin,ishf,bound,mmAll,mm2,mk,mkArgs,AV.cells,AV.boxable,AV.one,AV.strip1,fillA,fillS,Nat.reduceEqDiff,reduceCtorEq,↓reduceIte,Nat.reduceAdd,Int.reduceNeg,Nat.reduceLeDiff,Int.reduceToNat,Int.reduceEq,Int.reduceLT,Int.reduceLE,Int.reduceAdd,Io,Im,If,Il,Jt,Jf]
 refine goK_pure (nameC nm hs) ?_
 cases h1:nameM nm with
 | false =>
  simp (disch:=first|omega|assumption) only [steps,st2,pev,rev,oev,optr,ibin,sbin,ishf,bound,mmAll,mm2,mk,mkArgs,AV.cells,AV.boxable,AV.one,AV.strip1,fillA,fillS,Nat.reduceEqDiff,reduceCtorEq,↓reduceIte,Nat.reduceAdd,Int.reduceNeg,Nat.reduceLeDiff,Int.reduceToNat,Int.reduceEq,Int.reduceLT,Int.reduceLE,Int.reduceAdd,Io,Im,If,Il,Jt,Jf]
  exact hQ _ _ _ _ nofun rfl (by simp [tupOf,envOf,AV.strip,AV.strip1,rightTy,h1])
 | true =>
  by_cases h2:0≤ls
  case neg =>
   simp (disch:=first|omega|assumption) only [h2,steps,st2,pev,rev,oev,optr,ibin,sbin,ishf,bound,mmAll,mm2,mk,mkArgs,AV.cells,AV.boxable,AV.one,AV.strip1,fillA,fillS,Nat.reduceEqDiff,reduceCtorEq,↓reduceIte,Nat.reduceAdd,Int.reduceNeg,Nat.reduceLeDiff,Int.reduceToNat,Int.reduceEq,Int.reduceLT,Int.reduceLE,Int.reduceAdd,Io,Im,If,Il,Jt,Jf]
   exact hQ _ _ _ _ nofun rfl (by simp [tupOf,envOf,AV.strip,AV.strip1,rightTy,h1,h2])
  by_cases h3:ls≤4
  case neg =>
   simp (disch:=first|omega|assumption) only [h2,h3,steps,st2,pev,rev,oev,optr,ibin,sbin,ishf,bound,mmAll,mm2,mk,mkArgs,AV.cells,AV.boxable,AV.one,AV.strip1,fillA,fillS,Nat.reduceEqDiff,reduceCtorEq,↓reduceIte,Nat.reduceAdd,Int.reduceNeg,Nat.reduceLeDiff,Int.reduceToNat,Int.reduceEq,Int.reduceLT,Int.reduceLE,Int.reduceAdd,Io,Im,If,Il,Jt,Jf]
   exact hQ _ _ _ _ nofun rfl (by simp [tupOf,envOf,AV.strip,AV.strip1,rightTy,h1,h2,h3])
  by_cases h4:0≤ms
  case neg =>
   simp (disch:=first|omega|assumption) only [h2,h3,h4,steps,st2,pev,rev,oev,optr,ibin,sbin,ishf,bound,mmAll,mm2,mk,mkArgs,AV.cells,AV.boxable,AV.one,AV.strip1,fillA,fillS,Nat.reduceEqDiff,reduceCtorEq,↓reduceIte,Nat.reduceAdd,Int.reduceNeg,Nat.reduceLeDiff,Int.reduceToNat,Int.reduceEq,Int.reduceLT,Int.reduceLE,Int.reduceAdd,Io,Im,If,Il,Jt,Jf]
   exact hQ _ _ _ _ nofun rfl (by simp [tupOf,envOf,AV.strip,AV.strip1,rightTy,h1,h2,h3,h4])
  have w1:IntKind.wrap .i64 (ls+1)=ls+1:=wrap64 (by omega) (by omega)
  have w2:¬ (ls+1<0):=by omega
  have e1:(ls+1).toNat=ls.toNat+1:=by omega
  have e2:=fdivP ms (ls.toNat+1) (by omega)
  have hpow:(0:Int)<2 ^ (ls.toNat+1):=by exact_mod_cast Nat.pos_of_ne_zero (by simp)
  have e3:(ms / 2 ^ (ls.toNat+1)=0)=(ms<2 ^ (ls.toNat+1)):=propext ⟨fun h=>by
   by_cases hlt:ms<2 ^ (ls.toNat+1)
   ·exact hlt
   ·have:=(Int.le_ediv_iff_mul_le hpow).2 (show 1*2 ^ (ls.toNat+1)≤ms by omega)
    omega,fun h=>Int.ediv_eq_zero_of_lt h4 h⟩
  simp (disch:=first|omega|assumption) only [h2,h3,h4,w1,w2,e1,e2,e3,steps,st2,pev,rev,oev,optr,ibin,sbin,ishf,bound,mmAll,mm2,mk,mkArgs,AV.cells,AV.boxable,AV.one,AV.strip1,fillA,fillS,Nat.reduceEqDiff,reduceCtorEq,↓reduceIte,Nat.reduceAdd,Int.reduceNeg,Nat.reduceLeDiff,Int.reduceToNat,Int.reduceEq,Int.reduceLT,Int.reduceLE,Int.reduceAdd,Io,Im,If,Il,Jt,Jf]
  exact hQ _ _ _ _ nofun rfl (by simp [tupOf,envOf,AV.strip,AV.strip1,rightTy,h1,h2,h3,h4])
end Go.Proofs.YticbbfbpeimkbaaGreatDoor
namespace Go.Proofs.YticbbfbpeimkbaaGreatDoor
open Go.Ab
theorem WR.after {H0 H1 H:Heap} {o0 o1 o:Own} {w B:Nat} {l0 l tk:List Tok} {ok0 r:Bool} {dp:Int} (h:WR H1 o1 w l0 ok0 dp B r tk H o l) (hs:WStep H0 o0 w H1 o1) {x:AObj} (hw:H1 w=some x):WR H0 o0 w l0 ok0 dp B r tk H o l :=
 ⟨h.here,hs.trans hw h.st,h.len,h.eq⟩
def tyRest (n:Nat) (m:Int):Nat→List Tok
 | 0=>[]
 | j+1=>tyPc n m j++tyRest n m j
theorem tyTl_rest (n:Nat) (m:Int):∀ j,tyTl n m j=tyRest n m (j+1)
 | 0=>by simp [tyTl,tyRest]
 | j+1=>by rw [tyTl,tyTl_rest n m j];rfl
theorem and1 {x:Int} (h0:0≤x) (h1:x<64):IntKind.wrap .i64 ((BitVec.ofInt IntKind.i64.bits x &&& BitVec.ofInt IntKind.i64.bits 1).toNat:Int)=x % 2:=by
 have:∀ y:Fin 64,IntKind.wrap .i64 ((BitVec.ofInt IntKind.i64.bits (y.val:Int) &&& BitVec.ofInt IntKind.i64.bits 1).toNat:Int)=(y.val:Int) % 2:=by decide +kernel
 have:=this ⟨x.toNat,by omega⟩
 simp only [Int.toNat_of_nonneg h0] at this
 exact this
end Go.Proofs.YticbbfbpeimkbaaGreatDoor
namespace Go.Proofs.YticbbfbpeimkbaaGreatDoor
open Go.Ab
theorem typP_right (ty:TyD) (h:rightTy ty=true) (t:TS) (ht:isP [33] t=false):typP 4 (tTy ty++t)=.ok (ty,t):=by
 simp only [rightTy,Bool.and_eq_true,decide_eq_true_eq] at h
 obtain ⟨_,h1,h2,h3,h4⟩:=h
 have:=typP_tok ty.nm ty.lists.toNat 4 ty.musts t (by omega) h3 h4 ht
 rw [Int.toNat_of_nonneg h1] at this
 exact this
end Go.Proofs.YticbbfbpeimkbaaGreatDoor
namespace Go.Proofs.YticbbfbpeimkbaaGreatDoor
open Go.Ab
end Go.Proofs.YticbbfbpeimkbaaGreatDoor
namespace Go.Proofs.YticbbfbpeimkbaaGreatDoor
open Go.Ab
end Go.Proofs.YticbbfbpeimkbaaGreatDoor
namespace Go.Proofs.YticbbfbpeimkbaaGreatDoor
open Go.Ab
theorem wT_app (a b:List Tok):wT (a++b)=wT a+wT b:=by simp [wT]
theorem wT_nil:wT []=0:=rfl
mutual
theorem wV_le:∀ v,wfV v→wT (tokV v)+16≤64*bV v
 | .mk k n s l m,⟨hn,hl,hm⟩=>by
  have h1:=wVs_le l hl
  have h2:=wMs_le m hm
  have h3:(Lib.itoa n).length≤21:=by
   have e:∀ u:Nat,u<18446744073709551616→(Lib.decDigits u).length≤20:=fun u hu=>by
    rw [Lib.decDigits_length];exact Lib.nDigits_le20 u hu
   unfold Lib.itoa;split
   ·have:=e n.natAbs (by have:=hn.1;omega)
    simp;omega
   ·have:=e n.toNat (by have:=hn.2;omega)
    omega
  have h4:(boolT (decide (n=1))).length≤5:=by unfold boolT;split<;>simp
  simp only [tokV,bV]
  repeat' split
  all_goals simp only [wT_cons,wT_app,wT_nil,wK,List.length_cons,List.length_nil]
  all_goals omega
theorem wVs_le:∀ l,wfVs l→wT (tokVs l)≤64*bVs l
 | [],_=>by simp [tokVs,wT]
 | v :: r,⟨h,hr⟩=>by
  have h1:=wV_le v h
  have h2:=wVs_le r hr
  simp only [tokVs,bVs,wT_app];omega
theorem wM_le:∀ x,wfM x→wT (tokM x)≤64*bM x
 | .mk s v,h=>by
  have h1:=wV_le v h
  simp only [tokM,bM,wT_cons,wK,List.length_cons,List.length_nil];omega
theorem wMs_le:∀ l,wfMs l→wT (tokMs l)≤64*bMs l
 | [],_=>by simp [tokMs,wT]
 | v :: r,⟨h,hr⟩=>by
  have h1:=wM_le v h
  have h2:=wMs_le r hr
  simp only [tokMs,bMs,wT_app];omega
end
end Go.Proofs.YticbbfbpeimkbaaGreatDoor
namespace Go.Proofs.YticbbfbpeimkbaaGreatDoor
open Go.Ab
theorem mem_app3 {P:Tok→Prop} {a b:Tok} {l:List Tok} (ha:P a) (hb:P b) (hl:∀ x ∈ l,P x):∀ x ∈ a :: (l++[b]),P x:=fun x hx=>by
 rcases List.mem_cons.1 hx with rfl|hx
 ·exact ha
 rcases List.mem_append.1 hx with hx|hx
 ·exact hl x hx
 ·rw [List.mem_singleton] at hx;subst hx;exact hb
mutual
theorem tokV_rk:∀ v:Val,allV nameM v=true→wfV v→∀ x ∈ tokV v,rightK x=true
 | .mk k n s l m,h,hw=>by
  simp only [allV] at h
  simp only [tokV]
  have rm:∀ c:UInt8,isMark [c]=true→rightK ⟨1,[c]⟩=true:=fun c hc=>by simp [rightK,hc]
  have rw2:∀ s:List UInt8,nameM s=true→rightK ⟨2,s⟩=true:=fun s hs=>by simp [rightK,hs]
  by_cases k6:k=6
  ·subst k6
   simp only [if_true,Bool.and_eq_true] at h
   simp only [show ¬ ((6:Int)=0) by decide,show ¬ ((6:Int)=1) by decide,show ¬ ((6:Int)=2) by decide,show ¬ ((6:Int)=3) by decide,show ¬ ((6:Int)=4) by decide,show ¬ ((6:Int)=5) by decide,show ¬ ((6:Int)=8) by decide,if_true,if_false]
   exact mem_app3 (P:=fun x=>rightK x=true) (rm 91 (by decide)) (rm 93 (by decide)) (tokVs_rk l h.1 hw.2.1)
  by_cases k7:k=7
  ·subst k7
   simp only [show ¬ ((7:Int)=6) by decide,if_true,if_false,Bool.and_eq_true] at h
   simp only [show ¬ ((7:Int)=0) by decide,show ¬ ((7:Int)=1) by decide,show ¬ ((7:Int)=2) by decide,show ¬ ((7:Int)=3) by decide,show ¬ ((7:Int)=4) by decide,show ¬ ((7:Int)=5) by decide,show ¬ ((7:Int)=8) by decide,show ¬ ((7:Int)=6) by decide,if_false]
   exact mem_app3 (P:=fun x=>rightK x=true) (rm 123 (by decide)) (rm 125 (by decide)) (tokMs_rk m h.1 hw.2.2)
  rw [if_neg k6,if_neg k7] at h
  simp only [singleM,Bool.and_eq_true] at h
  obtain ⟨_,h⟩:=h
  by_cases k0:k=0
  ·rw [if_pos k0]
   intro x hx;rw [List.mem_singleton] at hx;subst hx;exact rw2 _ (by decide)
  rw [if_neg k0] at h ⊢
  by_cases k1:k=1
  ·rw [if_pos k1]
   intro x hx;rw [List.mem_singleton] at hx;subst hx
   cases decide (n=1)<;>exact rw2 _ (by decide)
  rw [if_neg k1] at h ⊢
  by_cases k2:k=2
  ·rw [if_pos k2]
   intro x hx;rw [List.mem_singleton] at hx;subst hx
   have h1:=(itoa_whole hw.1).1
   unfold wholeB at h1
   simp only [Bool.and_eq_true,decide_eq_true_eq] at h1
   simp [rightK,h1.2]
  rw [if_neg k2] at h ⊢
  by_cases k3:k=3
  ·rw [if_pos k3] at h ⊢
   intro x hx;rw [List.mem_singleton] at hx;subst hx
   simp only [numB,Bool.and_eq_true,Bool.or_eq_true,decide_eq_true_eq] at h
   rcases h.2 with h4|h4
   ·simp [rightK,h4]
   ·simp [rightK,h4.1]
  rw [if_neg k3] at h ⊢
  by_cases k4:k=4
  ·rw [if_pos k4] at h ⊢
   intro x hx;rw [List.mem_singleton] at hx;subst hx
   simp only [Bool.and_eq_true] at h
   simp [rightK,h.2]
  rw [if_neg k4] at h ⊢
  by_cases k5:k=5
  ·rw [if_pos k5] at h ⊢
   intro x hx;rw [List.mem_singleton] at hx;subst hx
   simp only [Bool.and_eq_true] at h
   exact rw2 _ h.2.1
  rw [if_neg k5] at h ⊢
  by_cases k8:k=8
  ·rw [if_pos k8] at h ⊢
   simp only [Bool.and_eq_true] at h
   intro x hx
   rcases List.mem_cons.1 hx with rfl|hx
   ·exact rm 36 (by decide)
   ·rw [List.mem_singleton] at hx;subst hx;exact rw2 _ h.2
  ·rw [if_neg k8] at h;cases h
theorem tokVs_rk:∀ l:List Val,allVs nameM l=true→wfVs l→∀ x ∈ tokVs l,rightK x=true
 | [],_,_=>fun x hx=>by cases hx
 | v :: r,h,hw=>fun x hx=>by
  simp only [allVs,Bool.and_eq_true] at h
  rcases List.mem_append.1 hx with hx|hx
  ·exact tokV_rk v h.1 hw.1 x hx
  ·exact tokVs_rk r h.2 hw.2 x hx
theorem tokM_rk:∀ v:Mem,allM nameM v=true→wfM v→∀ x ∈ tokM v,rightK x=true
 | .mk s v,h,hw=>fun x hx=>by
  simp only [allM,Bool.and_eq_true] at h
  simp only [tokM] at hx
  rcases List.mem_cons.1 hx with rfl|hx
  ·simp [rightK,h.1]
  rcases List.mem_cons.1 hx with rfl|hx
  ·have:isMark [58]=true:=by decide
   simp [rightK,this]
  ·exact tokV_rk v h.2 hw x hx
theorem tokMs_rk:∀ l:List Mem,allMs nameM l=true→wfMs l→∀ x ∈ tokMs l,rightK x=true
 | [],_,_=>fun x hx=>by cases hx
 | v :: r,h,hw=>fun x hx=>by
  simp only [allMs,Bool.and_eq_true] at h
  rcases List.mem_append.1 hx with hx|hx
  ·exact tokM_rk v h.1 hw.1 x hx
  ·exact tokMs_rk r h.2 hw.2 x hx
end
end Go.Proofs.YticbbfbpeimkbaaGreatDoor
namespace Go.Proofs.YticbbfbpeimkbaaGreatDoor
open Go.Ab
theorem manyP_bad {α:Type} {tk:α→List Tok} {m:List UInt8} {f:TS→PR α} {x:α} {b:List α} {e:Int} (hx:∀ t,f (tk x++t)=.error e) (hm:∀ t,isP m (tk x++t)=false) :
  ∀ (a:List α),(∀ y ∈ a,∀ t,isP m (tk y++t)=false)→(∀ y ∈ a,∀ t,f (tk y++t)=.ok (y,t))→∀ (n:Nat) (acc:List α) (t:TS),a.length<n→manyP m f n acc ((a++x :: b).flatMap tk++t)=.error e
 | [],_,_,n+1,acc,t,_=>by
  have e1:(([]:List α)++x :: b).flatMap tk++t=tk x++(b.flatMap tk++t):=by simp
  rw [e1,manyP,hm,hx]
  rfl
 | y :: a,h2,h3,n+1,acc,t,hn=>by
  have e1:((y :: a)++x :: b).flatMap tk++t=tk y++((a++x :: b).flatMap tk++t):=by simp
  rw [e1,manyP,h2 y (.head _),h3 y (.head _)]
  simp only [Bool.false_eq_true,if_false,pb]
  exact manyP_bad hx hm a (fun z hz=>h2 z (.tail _ hz)) (fun z hz=>h3 z (.tail _ hz)) n _ t (by simpa using hn)
theorem varsVs_split:∀ l:List Val,varsVs l []≠[]→∃ a x b,l=a++x :: b∧(∀ y ∈ a,varsV y []=[])∧varsV x []≠[]
 | [],h=>absurd rfl h
 | v :: r,h=>by
  by_cases hv:varsV v []=[]
  ·simp only [varsVs,hv] at h
   obtain ⟨a,x,b,e,h1,h2⟩:=varsVs_split r h
   exact ⟨v :: a,x,b,by rw [e];rfl,fun y hy=>(List.mem_cons.1 hy).elim (fun e=>e▸hv) (h1 y),h2⟩
  ·exact ⟨[],v,r,rfl,nofun,hv⟩
theorem varsMs_split:∀ l:List Mem,varsMs l []≠[]→∃ a x b,l=a++x :: b∧(∀ y ∈ a,varsM y []=[])∧varsM x []≠[]
 | [],h=>absurd rfl h
 | v :: r,h=>by
  by_cases hv:varsM v []=[]
  ·simp only [varsMs,hv] at h
   obtain ⟨a,x,b,e,h1,h2⟩:=varsMs_split r h
   exact ⟨v :: a,x,b,by rw [e];rfl,fun y hy=>(List.mem_cons.1 hy).elim (fun e=>e▸hv) (h1 y),h2⟩
  ·exact ⟨[],v,r,rfl,nofun,hv⟩
theorem valP_var:∀ v,pl v→wfV v→∀ (k:Nat) (t:TS),depthV v≤k→varsV v []≠[]→valP true k (tokV v++t)=.error 2:=by
 refine Val.ind fun k n s l m ihl ihm hp hw d t hd hv=>?_
 cases shape _ hp with
 | null=>exact absurd rfl hv
 | bool n h=>exact absurd rfl hv
 | int n=>exact absurd rfl hv
 | num s h=>exact absurd rfl hv
 | text s=>exact absurd rfl hv
 | word s h=>exact absurd rfl hv
 | var s=>rw [t_var,valP_eq,valB.eq_def];simp [hdT_cons,isP_cons]
 | list l h =>
  have hd':depthVs l 0+1≤d:=by simpa [depthV] using hd
  have h0:=(depthVs_mem (l:=l) (n:=0)).1
  obtain ⟨d,rfl⟩:∃ e,d=e+1:=⟨d-1,by omega⟩
  have hv':varsVs l []≠[]:=by simpa [varsV] using hv
  obtain ⟨a,x,b,e,h1,h2⟩:=varsVs_split l hv'
  have hdx:∀ y ∈ l,depthV y≤(d:Int):=fun y hy=>by have:=(depthVs_mem (l:=l) (n:=0)).2 y hy;omega
  have hmx:x ∈ l:=by rw [e];simp
  have hma:∀ y ∈ a,y ∈ l:=fun y hy=>by rw [e];exact List.mem_append_left _ hy
  have hb:=manyP_bad (tk:=tokV) (m:=[93]) (f:=valP true d) (x:=x) (b:=b) (e:=2) (fun t=>ihl x hmx (allVs_mem h x hmx) (wfVs_mem hw.2.1 x hmx) d t (hdx x hmx) h2) (fun t=>tok_stop x (allVs_mem h x hmx) t)
   a (fun y hy t=>tok_stop y (allVs_mem h y (hma y hy)) t) (fun y hy t=>valP_tok true y (allVs_mem h y (hma y hy)) (wfVs_mem hw.2.1 y (hma y hy)) d t (hdx y (hma y hy)) fun _=>h1 y hy)
  rw [← e] at hb
  rw [t_list,valP_eq,valB.eq_def]
  have hlen:a.length<(tokVs l).length+(t.length+1)+1:=by
   have e4:=flatT_len (tk:=tokV) l fun x hx e=>by have:=tok_stop x (allVs_mem h x hx) (pk [93] :: []);rw [e] at this;simp [isP_pk] at this
   rw [tokVs_flat]
   have:a.length≤l.length:=by rw [e];simp
   omega
  have e5:=hb ((tokVs l).length+(t.length+1)+1) [] (⟨1,[93]⟩ :: t) hlen
  rw [← tokVs_flat] at e5
  simp [hdT_cons,isP_cons,e5,pb,predP]
 | obj m h =>
  have hd':depthMs m 0+1≤d:=by simpa [depthV] using hd
  have h0:=(depthMs_mem (l:=m) (n:=0)).1
  obtain ⟨d,rfl⟩:∃ e,d=e+1:=⟨d-1,by omega⟩
  have hv':varsMs m []≠[]:=by simpa [varsV] using hv
  obtain ⟨a,x,b,e,h1,h2⟩:=varsMs_split m hv'
  have hst:∀ (x:Mem) (t:TS),isP [125] (tokM x++t)=false:=fun x t=>by cases x;simp [tokM,isP_cons]
  have hmx:x ∈ m:=by rw [e];simp
  have hma:∀ y ∈ a,y ∈ m:=fun y hy=>by rw [e];exact List.mem_append_left _ hy
  have hb:=manyP_bad (tk:=tokM) (m:=[125]) (f:=memberP (valP true d)) (x:=x) (b:=b) (e:=2) (fun t=>by
    obtain ⟨s,v⟩:=x
    have h3:=allMs_mem h _ hmx
    simp only [allM,Bool.and_eq_true] at h3
    have e6:=ihm s v hmx h3.2 (wfMs_mem hw.2.2 s v hmx) d t (by have:=(depthMs_mem (l:=m) (n:=0)).2 _ hmx;simp only [depthM] at this;omega) (by simpa [varsM] using h2)
    have e7:tokM (.mk s v)++t=wk s :: pk [58] :: (tokV v++t):=by simp [tokM,wk,pk]
    rw [e7,memberP,nameP_wk]
    simp only [pb,mustP_pk,e6]) (fun t=>hst x t)
   a (fun y hy t=>hst y t) (fun y hy t=>by
    obtain ⟨s,v⟩:=y
    have h3:=allMs_mem h _ (hma _ hy)
    simp only [allM,Bool.and_eq_true] at h3
    exact memberP_tok (fun t=>valP_tok true v h3.2 (wfMs_mem hw.2.2 s v (hma _ hy)) d t (by have:=(depthMs_mem (l:=m) (n:=0)).2 _ (hma _ hy);simp only [depthM] at this;omega) fun _=>by simpa [varsM] using h1 _ hy) t)
  rw [← e] at hb
  rw [t_obj,valP_eq,valB.eq_def]
  have hlen:a.length<(tokMs m).length+(t.length+1)+1:=by
   have e4:=flatT_len (tk:=tokM) m fun x hx e=>by have:=hst x (pk [125] :: []);rw [e] at this;simp [isP_pk] at this
   rw [tokMs_flat]
   have:a.length≤m.length:=by rw [e];simp
   omega
  have e5:=hb ((tokMs m).length+(t.length+1)+1) [] (⟨1,[125]⟩ :: t) hlen
  rw [← tokMs_flat] at e5
  simp [hdT_cons,isP_cons,e5,pb,predP]
theorem pplain (a:Val) (wa:wfV a) (hB:4*bV a≤Lim):Pure Tryz.prog 17 [.agg (cV a)] (.bool true):=by
 have hb':bV a≤Lim:=by omega
 refine Pure.go ir17 ck17 (Nat.le_refl _) fun KP Q hQ=>?_
 simp (disch:=first|omega|assumption) only [cV_len,cV_take,cV_splice,cM_len,cM_take,cM_splice,cM_mk,ir17,go_sem,↓reduceIte]
 refine goK_pure (TokensC a wa hB) ?_
 cases pa:plainV a with
 | false =>
  simp (disch:=first|omega|assumption) only [cV_len,cV_take,cV_splice,cM_len,cM_take,cM_splice,cM_mk,pa,go_sem,↓reduceIte]
  refine goK_pure awakeP6 ?_
  simp (disch:=first|omega|assumption) only [go_sem,↓reduceIte]
  exact hQ _ _ _ _ nofun rfl (by simp [tupOf,envOf,AV.strip,AV.strip1])
 | true =>
  simp (disch:=first|omega|assumption) only [cV_len,cV_take,cV_splice,cM_len,cM_take,cM_splice,cM_mk,pa,go_sem,↓reduceIte]
  refine goK_pure (sizeC a hb') ?_
  by_cases h1:(3000:Int)<bV a
  ·simp (disch:=first|omega|assumption) only [cV_len,cV_take,cV_splice,cM_len,cM_take,cM_splice,cM_mk,h1,go_sem,↓reduceIte]
   refine goK_pure awakeP6 ?_
   simp (disch:=first|omega|assumption) only [go_sem,↓reduceIte]
   exact hQ _ _ _ _ nofun rfl (by simp [tupOf,envOf,AV.strip,AV.strip1])
  have ta:toksV a=tokV a:=by simp [toksV,pa]
  have pa':pl a:=by simp only [plainV,Bool.and_eq_true] at pa;exact pa.1
  have pd:depthV a≤16:=by simp only [plainV,Bool.and_eq_true,decide_eq_true_eq] at pa;exact pa.2
  have hw:=wV_le a wa
  have hr:(tokV a).all rightK=true:=List.all_eq_true.2 (tokV_rk a pa' wa)
  have htp:tprint (tokV a)=(tjoin (tokV a),true):=by unfold tprint;rw [if_pos hr]
  simp (disch:=first|omega|assumption) only [cV_len,cV_take,cV_splice,cM_len,cM_take,cM_splice,cM_mk,h1,ta,go_sem,↓reduceIte]
  refine goK_pure (printTC (tokV a) (by simp only [Lim];omega)) ?_
  rw [htp]
  by_cases h2:(8192:Int)<((tjoin (tokV a)).length:Int)
  ·simp (disch:=first|omega|assumption) only [cV_len,cV_take,cV_splice,cM_len,cM_take,cM_splice,cM_mk,h2,go_sem,↓reduceIte]
   refine goK_pure awakeP6 ?_
   simp (disch:=first|omega|assumption) only [go_sem,↓reduceIte]
   exact hQ _ _ _ _ nofun rfl (by simp [tupOf,envOf,AV.strip,AV.strip1])
  have hR:=readT_join (tokV a) hr (by omega)
  have hf:valR false (tjoin (tokV a))=(a,0):=by
   have:=valP_tok false a pa' wa 16 [] pd nofun
   rw [List.append_nil] at this
   unfold valR;rw [hR];simp only [this];rfl
  have hlq:(tjoin (tokV a)).length≤LimQ:=by simp only [LimQ];omega
  simp (disch:=first|omega|assumption) only [cV_len,cV_take,cV_splice,cM_len,cM_take,cM_splice,cM_mk,h2,go_sem,↓reduceIte]
  refine goK_pure (parseValueC (tjoin (tokV a)) false hlq) ?_
  rw [hf]
  simp (disch:=first|omega|assumption) only [cV_len,cV_take,cV_splice,cM_len,cM_take,cM_splice,cM_mk,go_sem,↓reduceIte]
  refine goA_intro fun b7 hb7=>?_
  simp (disch:=first|omega|assumption) only [cV_len,cV_take,cV_splice,cM_len,cM_take,cM_splice,cM_mk,go_sem,↓reduceIte]
  refine goK_pure (parseValueC (tjoin (tokV a)) true hlq) ?_
  simp (disch:=first|omega|assumption) only [cV_len,cV_take,cV_splice,cM_len,cM_take,cM_splice,cM_mk,go_sem,↓reduceIte]
  refine goA_intro fun b9 hb9=>?_
  have h97:b9≠b7:=fun e=>by subst e;rw [upd_same] at hb9;cases hb9
  simp (disch:=first|omega|assumption) only [cV_len,cV_take,cV_splice,cM_len,cM_take,cM_splice,cM_mk,h97,Ne.symm h97,go_sem,↓reduceIte]
  have hsame:=sameP a hb' a
  have hee:eqd a a=true:=by simp [eqd]
  rw [hee] at hsame
  refine goK_pure hsame ?_
  simp (disch:=first|omega|assumption) only [cV_len,cV_take,cV_splice,cM_len,cM_take,cM_splice,cM_mk,go_sem,↓reduceIte]
  refine goK_pure (varsPT a hb') ?_
  have hcl:=cT_len (varsV a [])
  by_cases hv:varsV a []=[]
  ·have ht:valR true (tjoin (tokV a))=(a,0):=by
    have:=valP_tok true a pa' wa 16 [] pd (fun _=>hv)
    rw [List.append_nil] at this
    unfold valR;rw [hR];simp only [this];rfl
   have h0:¬ ((0:Int)<((varsV a []).length:Int)):=by rw [hv];decide
   rw [ht]
   simp (disch:=first|omega|assumption) only [cV_len,cV_take,cV_splice,cM_len,cM_take,cM_splice,cM_mk,hcl,h0,h97,Ne.symm h97,go_sem,↓reduceIte]
   refine goK_pure hsame ?_
   simp (disch:=first|omega|assumption) only [go_sem,↓reduceIte]
   refine goK_pure awakeP6 ?_
   simp (disch:=first|omega|assumption) only [go_sem,↓reduceIte]
   exact hQ _ _ _ _ nofun rfl (by simp [tupOf,envOf,AV.strip,AV.strip1])
  ·have ht:(valR true (tjoin (tokV a))).2=2:=by
    have:=valP_var a pa' wa 16 [] pd hv
    rw [List.append_nil] at this
    unfold valR;rw [hR];simp only [this]
   have h0:((0:Int)<((varsV a []).length:Int))=True:=eq_true (by have:=List.length_pos_iff.2 hv;omega)
   simp (disch:=first|omega|assumption) only [cV_len,cV_take,cV_splice,cM_len,cM_take,cM_splice,cM_mk,hcl,h0,ht,go_sem,↓reduceIte]
   refine goK_pure awakeP6 ?_
   simp (disch:=first|omega|assumption) only [go_sem,↓reduceIte]
   exact hQ _ _ _ _ nofun rfl (by simp [tupOf,envOf,AV.strip,AV.strip1])
end Go.Proofs.YticbbfbpeimkbaaGreatDoor
namespace Go.Proofs
open Go.Shelf
def Tryz.lays105_ren:Go.Shelf.Ren:=⟨fun|105=>126|212=>227|99=>217|165=>213|166=>214|170=>228|169=>215|263=>287|264=>288|206=>275|240=>273|241=>274|276=>318|277=>319|n=>n,fun|9=>9|3=>3|4=>4|20=>20|0=>0|46=>173|109=>235|5=>5|72=>222|76=>226|51=>268|146=>269|53=>271|148=>272|70=>220|37=>213|75=>225|127=>259|164=>290|80=>137|n=>n,fun|n=>n⟩
theorem Tryz.lays105:Go.Proofs.Lays.n105 Tryz.prog Tryz.lays105_ren:={
 mixed:=by kernel_rfl
 f99:=Tryz.func217.trans (congrArg some (by kernel_rfl))
 f105:=Tryz.func126.trans (congrArg some (by kernel_rfl))
 f165:=Tryz.func213.trans (congrArg some (by kernel_rfl))
 f166:=Tryz.func214.trans (congrArg some (by kernel_rfl))
 f169:=Tryz.func215.trans (congrArg some (by kernel_rfl))
 f170:=Tryz.func228.trans (congrArg some (by kernel_rfl))
 f206:=Tryz.func275.trans (congrArg some (by kernel_rfl))
 f212:=Tryz.func227.trans (congrArg some (by kernel_rfl))
 f240:=Tryz.func273.trans (congrArg some (by kernel_rfl))
 f241:=Tryz.func274.trans (congrArg some (by kernel_rfl))
 f263:=Tryz.func287.trans (congrArg some (by kernel_rfl))
 f264:=Tryz.func288.trans (congrArg some (by kernel_rfl))
 f276:=Tryz.func318.trans (congrArg some (by kernel_rfl))
 f277:=Tryz.func319.trans (congrArg some (by kernel_rfl))
 t0:=Tryz.underlying0
 a0:=Tryz.isAgg0
 z0:=Tryz.sizeOf0
 v0:=Tryz.zeroValue0
 t3:=Tryz.underlying3
 a3:=Tryz.isAgg3
 z3:=Tryz.sizeOf3
 v3:=Tryz.zeroValue3
 t4:=Tryz.underlying4
 a4:=Tryz.isAgg4
 z4:=Tryz.sizeOf4
 v4:=Tryz.zeroValue4
 t5:=Tryz.underlying5
 a5:=Tryz.isAgg5
 z5:=Tryz.sizeOf5
 v5:=Tryz.zeroValue5
 t9:=Tryz.underlying9
 a9:=Tryz.isAgg9
 z9:=Tryz.sizeOf9
 v9:=Tryz.zeroValue9
 t20:=Tryz.underlying20
 a20:=Tryz.isAgg20
 z20:=Tryz.sizeOf20
 v20:=Tryz.zeroValue20
 t37:=Tryz.underlying213
 a37:=Tryz.isAgg213
 z37:=Tryz.sizeOf213
 v37:=Tryz.zeroValue213
 t46:=Tryz.underlying173
 a46:=Tryz.isAgg173
 z46:=Tryz.sizeOf173
 v46:=Tryz.zeroValue173
 t51:=Tryz.underlying268
 a51:=Tryz.isAgg268
 z51:=Tryz.sizeOf268
 v51:=Tryz.zeroValue268
 t53:=Tryz.underlying271
 a53:=Tryz.isAgg271
 z53:=Tryz.sizeOf271
 v53:=Tryz.zeroValue271
 t70:=Tryz.underlying220
 a70:=Tryz.isAgg220
 z70:=Tryz.sizeOf220
 v70:=Tryz.zeroValue220
 t72:=Tryz.underlying222
 a72:=Tryz.isAgg222
 z72:=Tryz.sizeOf222
 v72:=Tryz.zeroValue222
 t75:=Tryz.underlying225
 a75:=Tryz.isAgg225
 z75:=Tryz.sizeOf225
 v75:=Tryz.zeroValue225
 t76:=Tryz.underlying226
 a76:=Tryz.isAgg226
 z76:=Tryz.sizeOf226
 v76:=Tryz.zeroValue226
 t109:=Tryz.underlying235
 a109:=Tryz.isAgg235
 z109:=Tryz.sizeOf235
 v109:=Tryz.zeroValue235
 t127:=Tryz.underlying259
 a127:=Tryz.isAgg259
 z127:=Tryz.sizeOf259
 v127:=Tryz.zeroValue259
 t146:=Tryz.underlying269
 a146:=Tryz.isAgg269
 z146:=Tryz.sizeOf269
 v146:=Tryz.zeroValue269
 t148:=Tryz.underlying272
 a148:=Tryz.isAgg272
 z148:=Tryz.sizeOf272
 v148:=Tryz.zeroValue272
 t164:=Tryz.underlying290
 a164:=Tryz.isAgg290
 z164:=Tryz.sizeOf290
 v164:=Tryz.zeroValue290 }
open Go.RowKit Go.Lib in
set_option maxRecDepth 1000000 in
theorem Tryz.extra105:Builder.Extra Tryz.prog Tryz.lays105_ren where
 sizeBuilder:=by kernel_rfl
 liesBuilder:=by kernel_rfl
 t5:=Tryz.lays105.t5
 a5:=Tryz.lays105.a5
 z5:=Tryz.lays105.z5
 v5:=Tryz.lays105.v5
 infoByte:=by kernel_rfl
 cellsByte:=by kernel_rfl
 sizeByte:=by kernel_rfl
 neB5:=by decide
open Go.RowKit Go.Lib in
theorem Tryz.strings_Repeat (s:ByteArray) (c:Nat) (w:World) (hc:c≤9223372036854775807) (hlen:s.size*c≤140737488355328) :
  Calls Tryz.prog 126 #[.string s,.int .i64 c] w fun e w'=>e=.returned (.string ⟨(Lib.repeatL s.data.toList c).toArray⟩)∧Below w.heap.size w w':=Any.strings_Repeat Tryz.lays105 Tryz.extra105 s c w hc hlen
end Go.Proofs
namespace Go.Proofs.YticbbfbpeimkbaaGreatDoor
open Go.Ab
theorem repeatC (x:UInt8) (n:Nat) (hn:n≤1000):Pure Tryz.prog 126 [.str [x],.int .i64 n] (.str (List.replicate n x)):=by
 refine Pure.of_below fun γ w vs ht hv=>?_
 obtain ⟨hl,hr⟩:=hv
 match vs,hl with
 | [v,u],_ =>
  cases hr 0 _ _ rfl rfl
  cases hr 1 _ _ rfl rfl
  have e:Lib.repeatL (⟨[x].toArray⟩:ByteArray).data.toList n=List.replicate n x:=by
   have:=Lib.repeatL_replicate x 1 n
   simpa using this
  have h:=Tryz.strings_Repeat ⟨[x].toArray⟩ n w (by omega) (by show 1*n≤_;omega)
  rw [e] at h
  exact h.mono fun e w' ⟨he,hw⟩=>⟨hw,_,he,.str _⟩
theorem bitC (nm:List UInt8) (ls ms:Int) (j:Nat) (hj:j≤64) (h0:0≤ms) (h1:ms<64):Pure Tryz.prog 127 [.agg [.str nm,.int .i64 ls,.int .i64 ms],.int .i64 j] (.bool (bitB ms j)):=by
 refine Pure.go ir127 ck127 (Nat.le_refl _) fun KP Q hQ=>?_
 have hbit:=fdivP ms j hj
 have hq0:0≤ms / 2 ^ j:=Int.ediv_nonneg h0 (by exact_mod_cast Nat.zero_le _)
 have hq1:ms / 2 ^ j<64:=by
  have:ms / 2 ^ j≤ms:=Int.ediv_le_self _ h0
  omega
 have ha:=and1 hq0 hq1
 have hj0:¬ ((j:Int)<0):=by omega
 by_cases hbt:ms / 2 ^ j % 2=1
 ·have hbb:bitB ms j=true:=by simp [bitB,hbt]
  rw [hbb] at hQ
  simp (disch:=first|omega|assumption) only [ir127,hbit,hj0,ha,hbt,steps,st2,pev,rev,oev,optr,ibin,sbin,ishf,bound,mmAll,mm2,mk,mkArgs,AV.cells,AV.boxable,AV.one,AV.strip1,fillA,fillS,Nat.reduceEqDiff,reduceCtorEq,↓reduceIte,Nat.reduceAdd,Int.reduceNeg,Nat.reduceLeDiff,Int.reduceToNat,Int.reduceEq,Int.reduceLT,Int.reduceLE,Int.reduceAdd,Io,Im,If,Il,Jt,Jf]
  exact hQ _ _ _ _ nofun rfl (by simp [tupOf,envOf,AV.strip,AV.strip1])
 ·have hbb:bitB ms j=false:=by simp [bitB,hbt]
  rw [hbb] at hQ
  simp (disch:=first|omega|assumption) only [ir127,hbit,hj0,ha,hbt,steps,st2,pev,rev,oev,optr,ibin,sbin,ishf,bound,mmAll,mm2,mk,mkArgs,AV.cells,AV.boxable,AV.one,AV.strip1,fillA,fillS,Nat.reduceEqDiff,reduceCtorEq,↓reduceIte,Nat.reduceAdd,Int.reduceNeg,Nat.reduceLeDiff,Int.reduceToNat,Int.reduceEq,Int.reduceLT,Int.reduceLE,Int.reduceAdd,Io,Im,If,Il,Jt,Jf]
  exact hQ _ _ _ _ nofun rfl (by simp [tupOf,envOf,AV.strip,AV.strip1])
def gl (L:List Tok):List UInt8:=L.flatMap tokT
theorem gl_app (a b:List Tok):gl (a++b)=gl a++gl b:=by simp [gl]
theorem gl_pk (n:Nat) (c:UInt8):gl (List.replicate n (pk [c]))=List.replicate n c:=by
 induction n with
 | zero=>rfl
 | succ n ih=>rw [List.replicate_succ,List.replicate_succ,← ih];rfl
theorem gl_ty (nm:List UInt8) (n:Nat) (ms:Int):gl (tTy ⟨nm,n,ms⟩)=List.replicate n 91++nm++gl (tyRest n ms (n+1)):=by
 have en:(n:Int).toNat=n:=by omega
 have e1:gl (wk nm :: tyTl n ms n)=nm++gl (tyTl n ms n):=rfl
 simp only [tTy,en]
 rw [gl_app,gl_pk,e1,tyTl_rest];simp
theorem printTyC (t:TyD) (hs:t.nm.length≤Lim):Pure Tryz.prog 58 [.agg (cTy t)] (.tup [.str (if rightTy t then gl (tTy t) else []),.bool (rightTy t)]):=by
 refine Pure.go ir58 ck58 (Nat.le_refl _) fun KP Q hQ=>?_
 obtain ⟨nm,ls,ms⟩:=t
 simp only at hs
 have et:cTy ⟨nm,ls,ms⟩=[.str nm,.int .i64 ls,.int .i64 ms]:=rfl
 simp (disch:=first|omega|assumption) only [ir58,et,go_sem,↓reduceIte]
 refine goK_pure (show Pure Tryz.prog 125 [.agg [.str nm,.int .i64 ls,.int .i64 ms]] (.bool (rightTy ⟨nm,ls,ms⟩)) from rightTyC ⟨nm,ls,ms⟩ hs) ?_
 cases hr:rightTy ⟨nm,ls,ms⟩ with
 | false =>
  simp (disch:=first|omega|assumption) only [go_sem,↓reduceIte]
  exact hQ _ _ _ _ nofun rfl (by simp [tupOf,envOf,AV.strip,AV.strip1,hr])
 | true =>
  have hrt:=hr
  simp only [rightTy,Bool.and_eq_true,decide_eq_true_eq] at hrt
  obtain ⟨hnm,r1,r2,r3,r4⟩:=hrt
  obtain ⟨n,rfl⟩:∃ n:Nat,ls=(n:Int):=⟨ls.toNat,by omega⟩
  have en:(n:Int).toNat=n:=by omega
  rw [en] at r4
  have hn4:n≤4:=by omega
  have hms:ms<64:=by
   have:(2:Int) ^ (n+1)≤2 ^ 5:=by exact_mod_cast Nat.pow_le_pow_right (by decide) (by omega:n+1≤5)
   omega
  simp only [Lim] at hs
  rw [hr] at hQ
  have hG:=gl_ty nm n ms
  simp (disch:=first|omega|assumption) only [cV_len,cV_take,cV_splice,cM_len,cM_take,cM_splice,cM_mk,go_sem,↓reduceIte]
  refine goK_pure (repeatC 91 n (by omega)) ?_
  simp (disch:=first|omega|assumption) only [cV_len,cV_take,cV_splice,cM_len,cM_take,cM_splice,cM_mk,List.length_append,List.length_replicate,go_sem,↓reduceIte]
  refine goL_st (fun x:Nat × List UInt8=>[(4,.str x.2),(5,.int .i64 ((x.1:Int)-1))]) (fun x H'=>x.1≤n+1∧x.2.length+2*x.1≤20+nm.length∧x.2++gl (tyRest n ms x.1)=gl (tTy ⟨nm,n,ms⟩)) (fun x=>x.1)
   (n+1,List.replicate n 91++nm) (by simp (disch:=first|omega|assumption) only [Int.natCast_add,Int.add_sub_cancel,go_sem,↓reduceIte]) ⟨Nat.le_refl _,by simp only [List.length_append,List.length_replicate];omega,hG.symm⟩ ?_
  rintro ⟨k,acc⟩ H5 J5 ⟨hk,hB,htk⟩ hJ5
  simp only at hk hB htk
  cases k with
  | zero =>
   have hz:¬ ((0:Int)≤-1):=by omega
   simp only [tyRest,gl,List.flatMap_nil,List.append_nil] at htk
   simp (disch:=first|omega|assumption) only [hz,Int.reduceSub,go_sem,↓reduceIte]
   exact hQ _ _ _ _ nofun rfl (by simp [tupOf,envOf,AV.strip,AV.strip1,htk,gl])
  | succ j =>
   have e0:((j+1:Nat):Int)-1=(j:Int):=by omega
   have hz:((0:Int)≤j)=True:=eq_true (by omega)
   have hbC:=bitC nm n ms j (by omega) r3 hms
   simp only [tyRest,tyPc] at htk
   by_cases hji:j<n
   ·have hji':((j:Int)<n)=True:=eq_true (by omega)
    rw [if_pos hji] at htk
    simp (disch:=first|omega|assumption) only [e0,hz,hji',go_sem,↓reduceIte]
    refine goK_pure hbC ?_
    cases hb:bitB ms j with
    | true =>
     rw [hb] at htk
     simp (disch:=first|omega|assumption) only [wrap64,List.length_append,List.length_cons,List.length_nil,go_sem,↓reduceIte]
     exact goJ (hJ5 (j,acc++[93]++[33]) H5 (Nat.lt_succ_self j) ⟨by simp only;omega,by simp only [List.length_append,List.length_cons,List.length_nil];omega,by rw [← htk,gl_app,gl_app];simp [gl,tokT,pk]⟩) (by simp (disch:=first|omega|assumption) only [go_sem,↓reduceIte])
    | false =>
     rw [hb] at htk
     simp (disch:=first|omega|assumption) only [wrap64,List.length_append,List.length_cons,List.length_nil,go_sem,↓reduceIte]
     exact goJ (hJ5 (j,acc++[93]) H5 (Nat.lt_succ_self j) ⟨by simp only;omega,by simp only [List.length_append,List.length_cons,List.length_nil];omega,by rw [← htk,gl_app,gl_app];simp [gl,tokT,pk]⟩) (by simp (disch:=first|omega|assumption) only [go_sem,↓reduceIte])
   ·have hji':¬ ((j:Int)<n):=by omega
    rw [if_neg hji] at htk
    simp (disch:=first|omega|assumption) only [e0,hz,hji',go_sem,↓reduceIte]
    refine goK_pure hbC ?_
    cases hb:bitB ms j with
    | true =>
     rw [hb] at htk
     simp (disch:=first|omega|assumption) only [wrap64,List.length_append,List.length_cons,List.length_nil,go_sem,↓reduceIte]
     exact goJ (hJ5 (j,acc++[33]) H5 (Nat.lt_succ_self j) ⟨by simp only;omega,by simp only [List.length_append,List.length_cons,List.length_nil];omega,by rw [← htk,gl_app,gl_app];simp [gl,tokT,pk]⟩) (by simp (disch:=first|omega|assumption) only [go_sem,↓reduceIte])
    | false =>
     rw [hb] at htk
     simp (disch:=first|omega|assumption) only [wrap64,List.length_append,List.length_cons,List.length_nil,go_sem,↓reduceIte]
     exact goJ (hJ5 (j,acc) H5 (Nat.lt_succ_self j) ⟨by simp only;omega,by simp only;omega,by rw [← htk,gl_app,gl_app];simp [gl,tokT,pk]⟩) (by simp (disch:=first|omega|assumption) only [go_sem,↓reduceIte])
end Go.Proofs.YticbbfbpeimkbaaGreatDoor
namespace Go.Proofs.YticbbfbpeimkbaaGreatDoor
open Go.Ab
theorem mark_one {c:UInt8} (h:markB c=true) (r:List UInt8):oneT (c :: r)=some (pk [c],r)∧gapN (c :: r)=0:=by
 have h1:=mark_not c
 have hm:=h
 simp only [hm,Bool.not_true,Bool.false_or,Bool.and_eq_true,Bool.not_eq_true',decide_eq_false_iff_not,decide_eq_true_eq] at h1
 obtain ⟨a1,a2,a3,a4,a5,a6,_⟩:=h1
 simp only [markB,decide_eq_true_eq] at hm
 refine ⟨?_,gap_not a6 r⟩
 simp only [oneT]
 rw [three_not a1,dots_not a2,if_neg a1,if_pos hm];simp [pk]
theorem rd_marks:∀ (ms:List UInt8),(∀ c ∈ ms,markB c=true)→∀ (f:Nat) (l:List Tok) (r:List UInt8),readG (ms.length+f) l (ms++r)=readG f (l++ms.map fun c=>pk [c]) r
 | [],_,f,l,r=>by simp
 | c :: ms,h,f,l,r=>by
  obtain ⟨g1,g2⟩:=mark_one (h c (.head _)) (ms++r)
  rw [show (c :: ms).length+f=(ms.length+f)+1 by simp only [List.length_cons];omega,List.cons_append,readG,if_neg (by simp),if_neg (by rw [g2];simp),g1]
  simp only
  rw [rd_marks ms (fun c hc=>h c (.tail _ hc)) f _ r]
  simp
theorem rd_word {s:List UInt8} (h:nameM s=true) {r:List UInt8} (hr:r=[]∨∃ c t,r=c :: t∧(c=93∨c=33)) (f:Nat) (l:List Tok):readG (f+1) l (s++r)=readG f (l++[wk s]) r:=by
 cases s with
 | nil=>simp [nameM,nameG] at h
 | cons c t =>
  obtain ⟨g1,g2⟩:=name_head h
  have hw:wordN (c :: t++r)=(c :: t).length:=by
   unfold wordN
   rw [List.takeWhile_append_of_pos g2]
   have:r.takeWhile (fun c=>isL c || isD c)=[]:=by
    rcases hr with rfl|⟨d,u,rfl,rfl|rfl⟩
    ·rfl
    ·rw [List.takeWhile_cons,show (isL 93 || isD 93)=false by decide];rfl
    ·rw [List.takeWhile_cons,show (isL 33 || isD 33)=false by decide];rfl
   rw [this];simp
  have e1:oneT (c :: t++r)=some (wk (c :: t),r):=by
   rw [List.cons_append,oneT_letter g1,← List.cons_append,hw,List.take_left,List.drop_left];rfl
  have e2:gapN (c :: t++r)=0:=gap_letter g1 _
  rw [readG,if_neg (by simp),if_neg (by rw [e2];simp),e1]
theorem pc_map (n:Nat) (m:Int) (k:Nat):(gl (tyPc n m k)).map (fun c=>pk [c])=tyPc n m k∧∀ c ∈ gl (tyPc n m k),c=93∨c=33:=by
 unfold tyPc
 by_cases h1:k<n<;>cases h2:bitB m k<;>simp [h1,gl,tokT,pk]
theorem rest_map (n:Nat) (m:Int):∀ k,(gl (tyRest n m k)).map (fun c=>pk [c])=tyRest n m k∧∀ c ∈ gl (tyRest n m k),c=93∨c=33
 | 0=>⟨rfl,nofun⟩
 | k+1=>by
  obtain ⟨h1,h2⟩:=rest_map n m k
  obtain ⟨g1,g2⟩:=pc_map n m k
  rw [tyRest,gl_app]
  refine ⟨by rw [List.map_append,h1,g1],fun c hc=>?_⟩
  rcases List.mem_append.1 hc with h|h
  ·exact g2 c h
  ·exact h2 c h
theorem readT_ty (t:TyD) (h:rightTy t=true) (hl:(gl (tTy t)).length≤8192):readT (gl (tTy t))=.ok (tTy t):=by
 obtain ⟨nm,ls,ms⟩:=t
 simp only [rightTy,Bool.and_eq_true,decide_eq_true_eq] at h
 obtain ⟨hnm,r1,_⟩:=h
 obtain ⟨n,rfl⟩:∃ n:Nat,ls=(n:Int):=⟨ls.toNat,by omega⟩
 have en:(n:Int).toNat=n:=by omega
 obtain ⟨m1,m2⟩:=rest_map n ms (n+1)
 have hG:=gl_ty nm n ms
 have eT:tTy ⟨nm,n,ms⟩=(List.replicate n (91:UInt8)).map (fun c=>pk [c])++(wk nm :: tyRest n ms (n+1)):=by
  simp only [tTy,en,tyTl_rest,List.map_replicate]
 obtain ⟨R,hRd⟩:∃ R,gl (tyRest n ms (n+1))=R:=⟨_,rfl⟩
 rw [hRd] at m1 m2 hG
 rw [← m1] at eT
 have hnl:0<nm.length:=by
  cases nm with
  | nil=>simp [nameM,nameG] at hnm
  | cons c t=>simp
 have hr:R=[]∨∃ c t,R=c :: t∧(c=93∨c=33):=by
  cases hR:R with
  | nil=>exact .inl rfl
  | cons c t=>exact .inr ⟨c,t,rfl,m2 c (by rw [hR];exact .head _)⟩
 have hs:SrcA (List.replicate n 91++nm++R) :=
  SrcA.app (SrcA.app (SrcA.asciis _ fun b hb=>by rw [List.eq_of_mem_replicate hb];decide) (show SrcA nm from SrcA.tok (wk nm) (show nameM nm=true from hnm)))
   (SrcA.asciis _ fun b hb=>by rcases m2 b hb with rfl|rfl<;>decide)
 rw [hG] at hl ⊢
 unfold readT
 rw [if_neg (by omega),hs.here,if_pos rfl]
 have hf:(List.replicate n 91++nm++R).length+1=(List.replicate n (91:UInt8)).length+((R.length+(nm.length-1+1))+1):=by
  simp only [List.length_append,List.length_replicate];omega
 have hend:=rd_marks R (fun c hc=>by rcases m2 c hc with rfl|rfl<;>decide) (nm.length-1+1) ([]++(List.replicate n (91:UInt8)).map (fun c=>pk [c])++[wk nm]) []
 rw [List.append_nil] at hend
 rw [hf,List.append_assoc,rd_marks _ (fun c hc=>by rw [List.eq_of_mem_replicate hc];decide),rd_word hnm hr,hend,readG,if_pos rfl,eT]
 simp
theorem ptypes (t:TyD) (hs:t.nm.length≤Lim):Pure Tryz.prog 14 [.agg (cTy t)] (.bool true):=by
 refine Pure.go ir14 ck14 (Nat.le_refl _) fun KP Q hQ=>?_
 have hp:=printTyC t hs
 have et:cTy t=[.str t.nm,.int .i64 t.lists,.int .i64 t.musts]:=rfl
 rw [et] at hp
 cases hr:rightTy t with
 | false =>
  rw [hr,if_neg (by decide)] at hp
  simp (disch:=first|omega|assumption) only [cV_len,cV_take,cV_splice,cM_len,cM_take,cM_splice,cM_mk,ir14,et,go_sem,↓reduceIte]
  refine goK_pure hp ?_
  simp (disch:=first|omega|assumption) only [cV_len,cV_take,cV_splice,cM_len,cM_take,cM_splice,cM_mk,go_sem,↓reduceIte]
  refine goK_pure awakeP6 ?_
  simp (disch:=first|omega|assumption) only [go_sem,↓reduceIte]
  exact hQ _ _ _ _ nofun rfl (by simp [tupOf,envOf,AV.strip,AV.strip1])
 | true =>
  rw [hr,if_pos rfl] at hp
  have hT:=readT_ty t hr
  have hP:=typP_right t hr [] rfl
  rw [List.append_nil] at hP
  obtain ⟨s,hsd⟩:∃ s,gl (tTy t)=s:=⟨_,rfl⟩
  rw [hsd] at hp hT
  simp (disch:=first|omega|assumption) only [cV_len,cV_take,cV_splice,cM_len,cM_take,cM_splice,cM_mk,ir14,et,go_sem,↓reduceIte]
  refine goK_pure hp ?_
  by_cases h1:(3000:Int)<(s.length:Int)
  ·simp (disch:=first|omega|assumption) only [cV_len,cV_take,cV_splice,cM_len,cM_take,cM_splice,cM_mk,h1,go_sem,↓reduceIte]
   refine goK_pure awakeP6 ?_
   simp (disch:=first|omega|assumption) only [go_sem,↓reduceIte]
   exact hQ _ _ _ _ nofun rfl (by simp [tupOf,envOf,AV.strip,AV.strip1])
  have hq:tyR s=(t,0):=by unfold tyR;rw [hT (by omega)];simp only [hP,if_true]
  have hc:=parseTypeC s (by simp only [LimQ];omega)
  rw [hq] at hc
  simp only [et] at hc
  simp (disch:=first|omega|assumption) only [cV_len,cV_take,cV_splice,cM_len,cM_take,cM_splice,cM_mk,h1,go_sem,↓reduceIte]
  refine goK_pure hc ?_
  simp (disch:=first|omega|assumption) only [cV_len,cV_take,cV_splice,cM_len,cM_take,cM_splice,cM_mk,go_sem,↓reduceIte]
  refine goA_intro fun b5 hb5=>?_
  have hk:keqs [.str t.nm,.int .i64 t.lists,.int .i64 t.musts] [.str t.nm,.int .i64 t.lists,.int .i64 t.musts]=true:=by simp [keqs,AV.keq1]
  have hfit:fitsAll [K1.s,K1.i .i64,K1.i .i64] [.str t.nm,.int .i64 t.lists,.int .i64 t.musts]=true:=by simp [fitsAll,K1.fits]
  simp (disch:=first|omega|assumption) only [cV_len,cV_take,cV_splice,cM_len,cM_take,cM_splice,cM_mk,hk,hfit,and_self,Bool.not_true,Bool.false_eq_true,if_false,go_sem,↓reduceIte]
  refine goK_pure awakeP6 ?_
  simp (disch:=first|omega|assumption) only [go_sem,↓reduceIte]
  exact hQ _ _ _ _ nofun rfl (by simp [tupOf,envOf,AV.strip,AV.strip1])
end Go.Proofs.YticbbfbpeimkbaaGreatDoor
