import Derived.Shelf.Strings.IndexAnyAll
import Derived.Shelf.Small.Utf8
import Derived.Laws.RangeAny
import Derived.Laws.Runes
import Derived.WalkMore
import Derived.Shelf.RegionOpenPlain
import Derived.BigQuiet
import Derived.Test.YticbbfbpeimkbaaGreatDoorRows
import Derived.Test.YticbbfbpeimkbaaGreatDoorM1
import Derived.Test.YticbbfbpeimkbaaGreatDoorM2
import Derived.Test.YticbbfbpeimkbaaGreatDoorM3
import Derived.Test.YticbbfbpeimkbaaGreatDoorM4
import Derived.Test.YticbbfbpeimkbaaGreatDoorM5
import Derived.Test.YticbbfbpeimkbaaGreatDoorM6
import Derived.Test.YticbbfbpeimkbaaGreatDoorM7
set_option maxRecDepth 100000
set_option linter.all false
set_option maxRecDepth 1000000
namespace Go.Proofs.YticbbfbpeimkbaaGreatDoor
open Go.Shelf Go.RowKit Go.Lib
section
variable {P:Program} {ρ:Ren}
def eol:ByteArray:=⟨#[13,10]⟩
theorem zlK (w:World) (k:Nat) (s:ByteArray) (pos:Nat) (ty:TypeId) (hk:w.heap[k]?=some (.stringIter s pos)) (h:pos<s.size) :
  (Instr.next (.pointer (some ⟨k,0,none⟩)) true ty).run P w =
   .ok (.tuple #[.bool true,.int .i64 pos,.int .i32 (Utf8.decode s pos).1]) { w with heap:=w.heap.setIfInBounds k (.stringIter s (pos+(Utf8.decode s pos).2)) }:=by
 simp only[Instr.next,getObj,setObj,Sem.run_bind,Sem.run,hk,Result.andThen,h,if_true]
 simp[goInt]
theorem ziw (w:World) (k:Nat) (s:ByteArray) (pos:Nat) (ty:TypeId) (hk:w.heap[k]?=some (.stringIter s pos)) (h:¬ pos<s.size) :
  (Instr.next (.pointer (some ⟨k,0,none⟩)) true ty).run P w=.ok (.tuple #[.bool false]) w:=by
 simp[Instr.next,getObj,Sem.run,hk,h]
set_option maxHeartbeats 4000000 in
theorem zkT (L:Lays.n152 P ρ) (w:World) :
  Calls P (ρ.f 152) #[.string eol,.int .i32 65533] w fun e w'=>e=.returned (.int .i64 (-1))∧Below w.heap.size w w':=by
 have t3:=L.t3;have a3:=L.a3;have z3:=L.z3;have v3:=L.v3
 have t4:=L.t4;have a4:=L.a4;have z4:=L.z4;have v4:=L.v4
 have t5:=L.t5;have a5:=L.a5;have z5:=L.z5;have v5:=L.v5
 have t9:=L.t9;have a9:=L.a9;have z9:=L.z9;have v9:=L.v9
 have t21:=L.t21;have a21:=L.a21;have z21:=L.z21;have v21:=L.v21
 have hsz:eol.size=2:=rfl
 go_enter L.f152,Body.n152_ntmps ρ
 go_wp2
 go_loopg [5,6] 2 (fun g _ _ wx=>∃ i:Nat,i+g=2∧wx=w.iter eol i)
 case atStart=>exact⟨0,by omega,rfl⟩
 case round =>
  obtain⟨i,hig,rfl⟩:=hrel
  cases gk with
  | zero =>
   obtain rfl:i=2:=by omega
   have hnx:=fun ty=>run_next_end (P:=P) w eol 2 ty (by decide)
   go_wp2
   go_ret
   exact⟨rfl,(Below.refl _ _).alloc (Al4 _) _⟩
  | succ g =>
   obtain⟨x,hx⟩:∃ x:UInt8,eol[i]'(by rw[hsz];omega)=x:=⟨_,rfl⟩
   have hxl:x.toNat=13∨x.toNat=10:=by
    rcases(by omega:i=0∨i=1) with rfl|rfl
    ·left;rw[← hx];rfl
    ·right;rw[← hx];rfl
   have hnx:=fun ty=>run_next_ascii (P:=P) w eol i ty (by rw[hsz];omega) (by rw[hx];omega)
   rw[hx] at hnx
   have hne:¬ ((x.toNat:Int)=65533):=by omega
   clear hx hxl
   go_wp2
   go_roundg g
   case measure=>omega
   case rel=>exact⟨i+1,by omega,rfl⟩
set_option maxHeartbeats 8000000 in
theorem ziA (L:Lays.n152 P ρ) (r:Int) (h0:128≤r) (h1:r≠65533) (w:World) :
  Calls P (ρ.f 152) #[.string eol,.int .i32 r] w fun e w'=>e=.returned (.int .i64 (-1))∧Below w.heap.size w w':=by
 have t3:=L.t3;have a3:=L.a3;have z3:=L.z3;have v3:=L.v3
 have t4:=L.t4;have a4:=L.a4;have z4:=L.z4;have v4:=L.v4
 have t5:=L.t5;have a5:=L.a5;have z5:=L.z5;have v5:=L.v5
 have t9:=L.t9;have a9:=L.a9;have z9:=L.z9;have v9:=L.v9
 have t21:=L.t21;have a21:=L.a21;have z21:=L.z21;have v21:=L.v21
 have hsz:eol.size=2:=rfl
 have mixed:=L.mixed
 have u21:=run_underlying L.t21;have u9:=run_underlying L.t9
 have e137:∀ args w,(callFunc (ρ.f 137) args).run P w=.ok (.enter (ρ.f 137) args) w:=enters_of L.f137 (by kernel_rfl) rfl
 have e119:∀ args w,(callFunc (ρ.f 119) args).run P w=.ok (.enter (ρ.f 119) args) w:=enters_of L.f119 (by kernel_rfl) rfl
 have hr1:¬ (r<128):=by omega
 cases hv:Lib.validRune r with
 | false =>
  go_enter L.f152,Body.n152_ntmps ρ
  go_wp2_with (go_at_fn (ρ.f 119);refine(Any.utf8_ValidRune { L with } _ _).mono ?_;rintro e w' ⟨rfl,hw⟩;rw[hw,hv])
  go_ret
  exact⟨rfl,Below.refl _ _⟩
 | true =>
  have hv':Utf8.valid r=true:=by
   unfold Lib.validRune at hv
   unfold Utf8.valid
   simp only[Z0,Al0,zL] at hv ⊢
   omega
  obtain⟨f1,f2,f3⟩:=encode_facts r hv' h0
  clear hv'
  obtain⟨rs,hrs⟩:∃ rs,Utf8.encode r=rs:=⟨_,rfl⟩
  rw[hrs] at f1 f2 f3
  have hconv:∀ w,(convert (ρ.t 21) (ρ.t 9) (.int .i32 r)).run P w=.ok (.string rs) w:=fun w=>by
   rw[run_convert_int_string w _ _ _ _ (by rw[t21];rfl) t9,hrs]
  have hlast:IntKind.i64.wrap ((rs.size:Int)-1)=(rs.size:Int)-1:=wrap_small _ (by omega) (by omega)
  clear hrs
  by_cases h2:rs.size=2
  ·obtain⟨b0,b1,rfl⟩:∃ b0 b1,rs=⟨#[b0,b1]⟩:=by
    obtain⟨⟨l⟩⟩:=rs
    match l,h2 with
    | [x,y],_=>exact⟨x,y,rfl⟩
   have hb:128≤b1.toNat:=f3 (by show 1<2;decide)
   have hz:(⟨#[b0,b1]⟩:ByteArray).size=2:=rfl
   have hne:¬ ((10:Int)=(b1.toNat:Int)):=by omega
   clear f1 f2 f3 h2
   rw[hz] at hlast
   go_enter L.f152,Body.n152_ntmps ρ
   go_wp2_with (go_at_fn (ρ.f 119);refine(Any.utf8_ValidRune { L with } _ _).mono ?_;rintro e w' ⟨rfl,hw⟩;rw[hw,hv])
   go_step3
   go_wp2
   go_loopg [9,10] 0 (fun g s9 s10 wx=>s9=.int .i64 1∧s10=.int .i64 0∧wx=w)
   case atStart=>exact⟨rfl,rfl,rfl⟩
   case round =>
    obtain⟨rfl,rfl,rfl⟩:=hrel
    go_wp2
    go_step3
    have hx:eol[1]'(by decide)=10:=rfl
    have hy:(⟨#[b0,b1]⟩:ByteArray)[1]'(by show 1<2;decide)=b1:=rfl
    go_wp2
    go_quiet_o (fail)
    go_wp2
    have hsl:∀ w,(Instr.slice (ρ.t 9) (.string eol) (some (.int .i64 2)) none none).run P w=.ok (.string ⟨#[]⟩) w:=fun w=>by
     rw[run_slice_string_from_if w _ eol .i64 2 t9]
     rfl
    generalize hW:World.drewN _ _=W
    have HW:Aside (∃ n,W=wr.drewN n):=⟨_,hW.symm⟩
    clear hW
    have hw2:IntKind.i64.wrap 2=2:=by decide
    go_quiet_o (first|(go_at_fn (ρ.f 137);refine Calls.quiet_of_same (Any.strings_IndexByte { L with } _ _ _)))
    go_wp2
    rw[Exit.noGoto_ret]
    go_wp2
    (try rw[Exit.noGoto_ret])
    (try go_wp2)
    go_ret
    obtain⟨n,rfl⟩:=HW.out
    exact⟨rfl,⟨rfl,rfl,rfl,Al4 _,fun _ _=>rfl⟩⟩
  ·have hlt:¬ ((rs.size:Int)-1<2):=by omega
   go_enter L.f152,Body.n152_ntmps ρ
   go_wp2_with (go_at_fn (ρ.f 119);refine(Any.utf8_ValidRune { L with } _ _).mono ?_;rintro e w' ⟨rfl,hw⟩;rw[hw,hv])
   go_step3
   go_wp2
   go_loopg [9,10] 0 (fun g s9 s10 wx=>s9=.int .i64 ((rs.size:Int)-1)∧s10=.int .i64 0∧wx=w)
   case atStart=>exact⟨rfl,rfl,rfl⟩
   case round =>
    obtain⟨rfl,rfl,rfl⟩:=hrel
    go_wp2
    rw[Exit.noGoto_ret];go_wp2
    go_ret
    exact⟨rfl,Below.refl _ _⟩
theorem zmJ (s:ByteArray) (i:Nat) (h:i<s.size):s.data.toList[i]?=some (s.get! i):=by
 rw[Lib.data_getElem? s i h]
 simp[ByteArray.get!,getElem!_pos,h]
 rfl
theorem zf7 (s:ByteArray) (pos:Nat) (h:pos<s.size) (ha:128≤(s.get! pos).toNat) :
  128≤(Utf8.decode s pos).1∧1≤(Utf8.decode s pos).2∧pos+(Utf8.decode s pos).2≤s.size∧∀ j,j<(Utf8.decode s pos).2→128≤(s.get! (pos+j)).toNat:=by
 have hn:¬ (s.get! (pos+0)).toNat<128:=by simpa using ha
 have h1:∀(c:Nat),128≤c→128≤(c,1).1∧1≤(c,1).2∧pos+(c,1).2≤s.size∧∀ j,j<(c,1).2→128≤(s.get! (pos+j)).toNat:=fun c hc =>
  ⟨hc,Al4 _,by show pos+1≤s.size;omega,fun j hj=>by
   have hj:j<1:=hj
   obtain rfl:j=0:=by omega
   simpa using ha⟩
 have hb:∀ k,(s.get! (pos+k)).toNat / 64=2→128≤(s.get! (pos+k)).toNat:=fun k hk=>by omega
 simp only[Utf8.decode,hn,if_false,Utf8.runeError]
 split
 ·rename_i hc
  simp only[Al0,beq_iff_eq,zL] at hc
  split
  ·rename_i h2
   refine⟨h2,by show 1≤2;omega,by show pos+2≤s.size;omega,fun j hj=>?_⟩
   have hj:j<2:=hj
   rcases(by omega:j=0∨j=1) with rfl|rfl
   ·simpa using ha
   ·exact hb 1 hc.2.2
  ·exact h1 _ (by decide)
 split
 ·rename_i hc
  simp only[Al0,beq_iff_eq,zL] at hc
  split
  ·rename_i h2
   simp only[Al0,zL] at h2
   refine⟨by have:=h2.1;show 128≤_;simp only;omega,by show 1≤3;omega,by show pos+3≤s.size;omega,fun j hj=>?_⟩
   have hj:j<3:=hj
   rcases(by omega:j=0∨j=1∨j=2) with rfl|rfl|rfl
   ·simpa using ha
   ·exact hb 1 hc.1.2.2
   ·exact hb 2 hc.2.2
  ·exact h1 _ (by decide)
 split
 ·rename_i hc
  simp only[Al0,beq_iff_eq,zL] at hc
  split
  ·rename_i h2
   simp only[Al0,zL] at h2
   refine⟨by have:=h2.1;show 128≤_;simp only;omega,by show 1≤4;omega,by show pos+4≤s.size;omega,fun j hj=>?_⟩
   have hj:j<4:=hj
   rcases(by omega:j=0∨j=1∨j=2∨j=3) with rfl|rfl|rfl|rfl
   ·simpa using ha
   ·exact hb 1 hc.1.1.2.2
   ·exact hb 2 hc.1.2.2
   ·exact hb 3 hc.2.2
  ·exact h1 _ (by decide)
 ·exact h1 _ (by decide)
theorem zsH {s:ByteArray} {i k:Nat} (h:NoAny s.data.toList eol.data.toList i) (hk:i+k≤s.size) (hb:∀ j,j<k→128≤(s.get! (i+j)).toNat):NoAny s.data.toList eol.data.toList (i+k):=fun j b hj hjb=>by
 by_cases hlt:j<i
 ·exact h j b hlt hjb
 ·have h1:=hb (j-i) (by omega)
  rw[show i+(j-i)=j by omega] at h1
  rw[zmJ s j (by omega)] at hjb
  cases hjb
  show ([13,10]:List UInt8).contains _=false
  simp only[List.contains_cons,List.contains_nil,Bool.or_false,Bool.or_eq_false_iff,beq_eq_false_iff_ne]
  refine⟨fun e=>?_,fun e=>?_⟩<;>(rw[e] at h1;simp at h1)
set_option maxHeartbeats 8000000 in
theorem zex (L:Lays.n153 P ρ) (s:ByteArray) (w:World) (h8:s.size≤8) :
  Calls P (ρ.f 153) #[.string s,.string eol] w fun e w'=>e=.returned (.int .i64 (Lib.indexAny s.data.toList eol.data.toList))∧Below w.heap.size w w':=by
 have hemp:eol.toList.isEmpty=false:=by rw[Lib.toList_data];rfl
 have hn0:(eol.size:Int)=2:=rfl
 have hn1:((eol.size:Int)==1)=false:=rfl
 have h8z:decide ((8:Int)<(s.size:Int))=false:=decide_eq_false (by omega)
 have t3:=L.t3;have a3:=L.a3;have z3:=L.z3;have v3:=L.v3
 have t4:=L.t4;have a4:=L.a4;have z4:=L.z4;have v4:=L.v4
 have t5:=L.t5;have a5:=L.a5;have z5:=L.z5;have v5:=L.v5
 have t9:=L.t9;have a9:=L.a9;have z9:=L.z9;have v9:=L.v9
 have t21:=L.t21;have a21:=L.a21;have z21:=L.z21;have v21:=L.v21
 have e152:∀ args w,(callFunc (ρ.f 152) args).run P w=.ok (.enter (ρ.f 152) args) w:=enters_of L.f152 (by kernel_rfl) rfl
 have e226:∀ args w,(callFunc (ρ.f 226) args).run P w=.ok (.enter (ρ.f 226) args) w:=enters_of L.f226 (by kernel_rfl) rfl
 go_enter L.f153,Body.n153_ntmps ρ
 go_wp2_with (go_at_fn (ρ.f 226);refine(Any.strings_shouldUseASCIISet { L with } _ _).mono ?_;rintro e w' ⟨rfl,hw⟩;rw[hw,h8z])
 go_loopg [9,10] s.size (fun g _ _ wx=>∃ i:Nat,i+g=s.size∧(wx.heap[w.heap.size]?=some (.stringIter s i)∧Below w.heap.size w wx)∧Lib.NoAny s.data.toList eol.data.toList i)
 case atStart=>exact⟨0,by omega,⟨World.iter_heap w s 0,(Below.refl _ _).alloc (Al4 _) _⟩,Lib.NoAny.zero _ _⟩
 case round =>
  obtain⟨i,hig,hst,hno⟩:=hrel
  obtain⟨hit,hbe⟩:=hst
  have HN:Aside (Lib.NoAny s.data.toList eol.data.toList i∧Below w.heap.size w wr):=⟨hno,hbe⟩
  clear hno hbe
  cases gk with
  | zero =>
   obtain rfl:i=s.size:=by omega
   have hnx:=fun ty=>ziw (P:=P) wr w.heap.size s s.size ty hit (by omega)
   go_wp2
   go_ret
   exact⟨by rw[Lib.indexAny_none (by rw[← Lib.size_eq];exact HN.out.1)];rfl,HN.out.2⟩
  | succ g =>
   have hi:i<s.size:=by omega
   have hnx:=fun ty=>zlK (P:=P) wr w.heap.size s i ty hit hi
   have hwlt:w.heap.size<wr.heap.size:=(zaT.1 hit).1
   have hst2:∀ k,({ wr with heap:=wr.heap.setIfInBounds w.heap.size (.stringIter s k) }:World).heap[w.heap.size]?=some (.stringIter s k):=fun k=>by
    show (wr.heap.setIfInBounds w.heap.size (.stringIter s k))[w.heap.size]?=_
    simp[hwlt]
   have hbl2:∀ k,Below w.heap.size w ({ wr with heap:=wr.heap.setIfInBounds w.heap.size (.stringIter s k) }:World):=fun k=>by
    have hb:=HN.out.2
    refine⟨hb.os,hb.tape,hb.output,by simpa using hb.size,fun n hn=>?_⟩
    show (wr.heap.setIfInBounds w.heap.size (.stringIter s k))[n]?=_
    rw[Array.getElem?_setIfInBounds_ne (by omega)]
    exact hb.block n hn
   have HB:Aside ((∀ k,({ wr with heap:=wr.heap.setIfInBounds w.heap.size (.stringIter s k) }:World).heap[w.heap.size]?=some (.stringIter s k))∧(∀ k,Below w.heap.size w ({ wr with heap:=wr.heap.setIfInBounds w.heap.size (.stringIter s k) }:World))∧w.heap.size<wr.heap.size):=⟨hst2,hbl2,hwlt⟩
   clear hst2 hbl2 hwlt hit
   by_cases ha:128≤(s.get! i).toNat
   ·obtain⟨d1,d2,d3,d4⟩:=zf7 s i hi ha
    have HD:Aside (1≤(Utf8.decode s i).2∧i+(Utf8.decode s i).2≤s.size∧∀ j,j<(Utf8.decode s i).2→128≤(s.get! (i+j)).toNat):=⟨d2,d3,d4⟩
    clear d2 d3 d4 ha
    generalize hr:(Utf8.decode s i).1=r at hnx d1
    generalize hk:(Utf8.decode s i).2=k at hnx HD
    clear hr hk
    generalize hW:({ wr with heap:=wr.heap.setIfInBounds w.heap.size (.stringIter s (i+k)) }:World)=W at hnx
    have HW:Aside (W.heap[w.heap.size]?=some (.stringIter s (i+k))∧Below w.heap.size w W):=⟨by rw[← hW];exact HB.out.1 _,by rw[← hW];exact HB.out.2.1 _⟩
    clear hW
    have hru:Calls P (ρ.f 152) #[.string eol,.int .i32 (r:Int)] W fun e w'=>e=.returned (.int .i64 (-1))∧Below W.heap.size W w':=by
     by_cases he:(r:Int)=65533
     ·rw[he];exact zkT { L with } W
     ·exact ziA { L with } _ (by omega) he W
    go_wp2_with (go_at_fn (ρ.f 152);refine hru.mono ?_;rintro e w' ⟨rfl,hw⟩)
    go_roundg (s.size-(i+k))
    case measure=>have:=HD.out.1;omega
    case rel =>
     obtain⟨g1,g2⟩:=HW.out
     obtain⟨f1,f2,f3⟩:=HD.out
     have hlt:w.heap.size<W.heap.size:=(zaT.1 g1).1
     exact⟨i+k,by omega,⟨by rw[hw.block _ hlt];exact g1,g2.trans (hw.mono (by omega))⟩,zsH HN.out.1 f2 f3⟩
   ·have hx128:(s[i]'hi).toNat<128:=by
     have e:s.get! i=s[i]'hi:=get_at s i hi
     rw[← e];omega
    have hde:Utf8.decode s i=((s[i]'hi).toNat,1):=decode_ascii s i hi hx128
    obtain⟨x,hx⟩:∃ x:UInt8,s[i]'hi=x:=⟨_,rfl⟩
    have hxl:s.data.toList[i]?=some x:=by rw[← hx];exact Lib.data_getElem? s i hi
    have Hx:Aside (s.data.toList[i]?=some x):=hxl
    rw[hde,hx] at hnx
    rw[hx] at hx128
    clear hxl hx ha hde
    have hcon:=Lib.contains_iff_indexByte eol.data.toList x
    have hback:((x.toNat:Int)).toNat.toUInt8=x:=by simp
    generalize hW:({ wr with heap:=wr.heap.setIfInBounds w.heap.size (.stringIter s (i+1)) }:World)=W at hnx
    have HW:Aside (W.heap[w.heap.size]?=some (.stringIter s (i+1))∧Below w.heap.size w W):=⟨by rw[← hW];exact HB.out.1 _,by rw[← hW];exact HB.out.2.1 _⟩
    clear hW
    cases hin:eol.data.toList.contains x
    ·rw[hin] at hcon
     have hlt:¬ ((0:Int)≤Lib.indexByte eol.data.toList x):=of_decide_eq_false hcon.symm
     clear hcon
     go_wp2_with (go_at_fn (ρ.f 152);refine(Any.strings_IndexRune_ascii { L with } _ _ _ (by omega) (by omega)).mono ?_;rintro e w' ⟨rfl,hw⟩;rw[hw,hback])
     go_roundg g
     case measure=>omega
     case rel=>exact⟨i+1,by omega,HW.out,HN.out.1.succ Hx.out hin⟩
    ·rw[hin] at hcon
     have hge:(0:Int)≤Lib.indexByte eol.data.toList x:=of_decide_eq_true hcon.symm
     clear hcon
     go_wp2_with (go_at_fn (ρ.f 152);refine(Any.strings_IndexRune_ascii { L with } _ _ _ (by omega) (by omega)).mono ?_;rintro e w' ⟨rfl,hw⟩;rw[hw,hback])
     go_ret
     exact⟨by rw[Lib.indexAny_hit HN.out.1 Hx.out hin];rfl,HW.out.2⟩
end
end Go.Proofs.YticbbfbpeimkbaaGreatDoor
namespace Go.Proofs.YticbbfbpeimkbaaGreatDoor
open Go.Ab Go.Lib
theorem zsA (s:List UInt8) (hs:s.length≤4294967000):zu Tryz.prog 218 [.str s,.str [13,10]] (.int .i64 (Lib.indexAny s [13,10])):=by
 refine zu.of_below fun γ w vs ht hv=>?_
 obtain⟨hlv,hr⟩:=hv
 match vs,hlv with
 | [v,u],_ =>
  cases hr 0 _ _ rfl rfl
  cases hr 1 _ _ rfl rfl
  by_cases h8:s.length≤8
  ·exact(zex (P:=Tryz.prog) Tryz.lays153 ⟨s.toArray⟩ w (by simpa[ByteArray.size] using h8)).mono fun e w' ⟨he,hw⟩=>⟨hw,_,he,.int _ _⟩
  ·refine(Tryz.strings_IndexAny_long (zero_of_info (n:=256) (by kernel_rfl)).1 ⟨s.toArray⟩ ⟨#[13,10]⟩ w (by decide) (by simp only[ByteArray.size,List.size_toArray];omega) (by simp only[ByteArray.size,List.size_toArray];omega) (by decide) (fun j b hj=>?_)).mono fun e w' ⟨he,hw⟩=>⟨?_,_,he,.int _ _⟩
   ·have hj:([13,10]:List UInt8)[j]?=some b:=hj
    match j,hj with
    | 0,hj=>cases hj;decide
    | 1,hj=>cases hj;decide
    | j+2,hj=>simp at hj
   ·rw[hw]
    exact((Go.RowKit.Below.refl _ _).alloc (Al4 _) _).alloc (by simp) _
theorem zrL (r:List UInt8):Lib.indexAny r [13,10]=if r.all y5 then -1 else ((r.takeWhile y5).length:Int):=by
 induction r with
 | nil=>rfl
 | cons c r ih =>
  rw[Lib.indexAny,ih]
  by_cases hc:y5 c=true
  ·have h1:([13,10]:List UInt8).contains c=false:=by
    unfold y5 at hc
    simp at hc
    simp[hc.1,hc.2]
   rw[h1]
   by_cases ha:r.all y5=true
   ·simp[ha,hc]
   ·have h2:¬ (((r.takeWhile y5).length:Int)=-1):=by omega
    simp[ha,hc,h2]
  ·have h1:([13,10]:List UInt8).contains c=true:=by
    unfold y5 at hc
    simp at hc
    simp
    rcases Classical.em (c=13) with h|h
    ·exact .inl h
    ·exact .inr (Classical.byContradiction fun h10=>h (hc h10))
   rw[h1]
   simp[hc]
theorem zlZ {p:UInt8→Bool}:∀ r:List UInt8,r.all p=true→r.takeWhile p=r
 | [],_=>rfl
 | c::r,h=>by
  simp only[List.all_cons,Al0] at h
  rw[List.takeWhile_cons,if_pos h.1,zlZ r h.2]
theorem zdV (c:UInt8) (r:List UInt8):Yl (c::r)=if c=9∨c=10∨c=13∨c=32∨c=44 then 1 else if ziy.isPrefixOf (c::r) then 3 else if c=35 then 1+(r.takeWhile y5).length else 0:=rfl
theorem zwY (c:UInt8) (r:List UInt8) (hs:(c::r).length≤1000000):zu Tryz.prog 123 [.str (c::r)] (.int .i64 (Yl (c::r))):=by
 refine zu.go ir123 ck123 (Al4 _) fun KP Q hQ=>?_
 have hl:((0:Int)<((c::r).length:Int))=True:=eq_true (by simp only[Al2];omega)
 by_cases hw:c=9∨c=10∨c=13∨c=32∨c=44
 ·have e:Yl (c::r)=1:=by rw[zdV,if_pos hw]
  rw[e] at hQ
  rcases hw with rfl|rfl|rfl|rfl|rfl
  ·have hc:((9:UInt8).toNat:Int)=9:=rfl
   simp(disch:=first|omega|assumption) only[ir123,hl,List.getD_cons_zero,hc,go_sem]
   exact hQ _ _ _ _ nofun rfl (by simp[zc,zf,AV.strip,AV.strip1])
  ·have hc:((10:UInt8).toNat:Int)=10:=rfl
   simp(disch:=first|omega|assumption) only[ir123,hl,List.getD_cons_zero,hc,go_sem]
   exact hQ _ _ _ _ nofun rfl (by simp[zc,zf,AV.strip,AV.strip1])
  ·have hc:((13:UInt8).toNat:Int)=13:=rfl
   simp(disch:=first|omega|assumption) only[ir123,hl,List.getD_cons_zero,hc,go_sem]
   exact hQ _ _ _ _ nofun rfl (by simp[zc,zf,AV.strip,AV.strip1])
  ·have hc:((32:UInt8).toNat:Int)=32:=rfl
   simp(disch:=first|omega|assumption) only[ir123,hl,List.getD_cons_zero,hc,go_sem]
   exact hQ _ _ _ _ nofun rfl (by simp[zc,zf,AV.strip,AV.strip1])
  ·have hc:((44:UInt8).toNat:Int)=44:=rfl
   simp(disch:=first|omega|assumption) only[ir123,hl,List.getD_cons_zero,hc,go_sem]
   exact hQ _ _ _ _ nofun rfl (by simp[zc,zf,AV.strip,AV.strip1])
 have nat:∀ k:Nat,(c.toNat:Int)=k→k<256→c=UInt8.ofNat k:=fun k h hk=>UInt8.toNat_inj.1 (by rw[UInt8.toNat_ofNat'];omega)
 have g9:¬ ((c.toNat:Int)=9):=fun e=>hw (.inl (nat 9 e (by decide)))
 have g10:¬ ((c.toNat:Int)=10):=fun e=>hw (.inr (.inl (nat 10 e (by decide))))
 have g13:¬ ((c.toNat:Int)=13):=fun e=>hw (.inr (.inr (.inl (nat 13 e (by decide)))))
 have g32:¬ ((c.toNat:Int)=32):=fun e=>hw (.inr (.inr (.inr (.inl (nat 32 e (by decide))))))
 have g44:¬ ((c.toNat:Int)=44):=fun e=>hw (.inr (.inr (.inr (.inr (nat 44 e (by decide))))))
 simp(disch:=first|omega|assumption) only[ir123,hl,List.getD_cons_zero,g9,g10,g13,g32,g44,go_sem]
 refine zb (zbx (c::r) [239,187,191]) ?_
 by_cases hb:([239,187,191]:List UInt8).isPrefixOf (c::r)=true
 ·have e:Yl (c::r)=3:=by rw[zdV,if_neg hw];exact if_pos hb
  rw[e] at hQ
  simp(disch:=first|omega|assumption) only[hb,go_sem]
  exact hQ _ _ _ _ nofun rfl (by simp[zc,zf,AV.strip,AV.strip1])
 have hb':([239,187,191]:List UInt8).isPrefixOf (c::r)=false:=Bool.eq_false_iff.2 hb
 by_cases h35:c=35
 ·subst h35
  have e:Yl (35::r)=1+(r.takeWhile y5).length:=by rw[zdV,if_neg hw,if_neg (show ¬ (ziy.isPrefixOf _=true) from hb),if_pos rfl]
  rw[e] at hQ
  have hc:((35:UInt8).toNat:Int)=35:=rfl
  simp(disch:=first|omega|assumption) only[hb',hc,go_sem]
  have hp:=zsA (35::r) (by omega)
  rw[zrL] at hp
  have n35:y5 35=true:=rfl
  by_cases ha:r.all y5=true
  ·have e2:=zlZ r ha
   have e3:(35::r).all y5=true:=by rw[List.all_cons,n35,ha];rfl
   rw[if_pos e3] at hp
   refine zb hp ?_
   have h0:¬ ((0:Int)≤-1):=by decide
   simp(disch:=first|omega|assumption) only[h0,go_sem]
   exact hQ _ _ _ _ nofun rfl (by simp[zc,zf,AV.strip,AV.strip1,e2,Int.add_comm])
  ·have e3:¬ ((35::r).all y5=true):=by rw[List.all_cons,n35,Bool.true_and];exact ha
   have e2:((35::r).takeWhile y5).length=1+(r.takeWhile y5).length:=by rw[List.takeWhile_cons,if_pos n35];simp;omega
   rw[if_neg e3,e2] at hp
   refine zb hp ?_
   have h0:((0:Int)≤((1+(r.takeWhile y5).length:Nat):Int))=True:=eq_true (by omega)
   simp(disch:=first|omega|assumption) only[h0,go_sem]
   exact hQ _ _ _ _ nofun rfl (by simp[zc,zf,AV.strip,AV.strip1])
 ·have e:Yl (c::r)=0:=by rw[zdV,if_neg hw,if_neg (show ¬ (ziy.isPrefixOf _=true) from hb),if_neg h35]
  rw[e] at hQ
  have g35:¬ ((c.toNat:Int)=35):=fun e=>h35 (nat 35 e (by decide))
  simp(disch:=first|omega|assumption) only[hb',g35,go_sem]
  exact hQ _ _ _ _ nofun rfl (by simp[zc,zf,AV.strip,AV.strip1])
theorem zm5 (c:UInt8) (r:List UInt8):y7 (c::r)=if (isL c||isD c)=true then 1+y7 r else 0:=by
 unfold y7
 rw[List.takeWhile_cons]
 split
 ·simp;omega
 ·rfl
theorem zvA (s:List UInt8) (hs:s.length≤Lim) (h0:isL (s.getD 0 0)=true):zu Tryz.prog 224 [.str s] (.int .i64 (y7 s)):=by
 refine zu.go ir224 ck224 (Al4 _) fun KP Q hQ=>?_
 simp only[Lim] at hs
 have hr1:=zhi s
 simp(disch:=first|omega|assumption) only[ir224,go_sem]
 refine yK (fun n:Nat=>[(3,.int .i64 n)]) (fun n H=>y7 s=n+y7 (s.drop n)∧n≤s.length) (fun n=>s.length-n) 0 (by simp(disch:=first|omega|assumption) only[go_sem]) ⟨by simp,by omega⟩ ?_
 rintro n H J ⟨hn,hle⟩ hJ
 rcases zek s n with ⟨h1,h2⟩|⟨h1,h2⟩
 ·have hlt:¬ ((n:Int)<s.length):=by omega
  rw[h1] at hn
  simp only[y7,List.takeWhile_nil,Al3,Nat.add_zero] at hn
  simp(disch:=first|omega|assumption) only[hlt,go_sem]
  exact hQ _ _ _ _ nofun rfl (by simp[zc,zf,AV.strip,AV.strip1,y7,hn])
 ·have hlt:((n:Int)<s.length):=by omega
  rw[h2,zm5] at hn
  simp(disch:=first|omega|assumption) only[hlt,go_sem]
  refine zb (zgM (s.getD n 0)) ?_
  cases hl:isL (s.getD n 0) with
  | true =>
   simp only[hl,Bool.true_or,if_true] at hn
   simp(disch:=first|omega|assumption) only[hl,go_sem]
   exact goJ (hJ (n+1) _ (by omega) ⟨by omega,by omega⟩) (by simp(disch:=first|omega|assumption) only[wrap64,Int.natCast_add,Int.natCast_one,go_sem])
  | false =>
   have hn0:((0:Int)<(n:Int))=True:=eq_true (by
    rcases Nat.eq_zero_or_pos n with e|e
    ·subst e;rw[h0] at hl;cases hl
    ·omega)
   simp(disch:=first|omega|assumption) only[hl,hn0,hlt,go_sem]
   refine zb (zj9 (s.getD n 0)) ?_
   cases hd:isD (s.getD n 0) with
   | true =>
    simp only[hl,hd,Bool.or_true,if_true] at hn
    simp(disch:=first|omega|assumption) only[hd,go_sem]
    exact goJ (hJ (n+1) _ (by omega) ⟨by omega,by omega⟩) (by simp(disch:=first|omega|assumption) only[wrap64,Int.natCast_add,Int.natCast_one,go_sem])
   | false =>
    simp only[hl,hd,Bool.or_false,Al7,if_false,Nat.add_zero] at hn
    simp(disch:=first|omega|assumption) only[hd,go_sem]
    exact hQ _ _ _ _ nofun rfl (by simp[zc,zf,AV.strip,AV.strip1,hn])
def zrK (n:Nat) (x:Option (List UInt8×List UInt8)):AV:=match x with
 | some (raw,t)=>.tup [.str (Zm raw),.int .i64 ((n-t.length:Nat):Int)]
 | none=>.tup [.str [],.int .i64 0]
theorem zdU:∀(n m:Nat) (raw t:List UInt8),t.length<n→t.length<m→Z6 n raw t=Z6 m raw t
 | 0,_,_,_,h,_=>absurd h (Nat.not_lt_zero _)
 | _,0,_,_,_,h=>absurd h (Nat.not_lt_zero _)
 | n+1,m+1,raw,[],_,_=>rfl
 | n+1,m+1,raw,c::r,h1,h2=>by
  simp only[Al2] at h1 h2
  simp only[Z6]
  rw[zdU n m (raw++yx) (r.drop 3) (by simp;omega) (by simp;omega),zdU n m (raw++[c]) r (by omega) (by omega)]
theorem zhK:∀(n:Nat) (raw t b t':List UInt8),Z6 n raw t=some (b,t')→b.length+t'.length≤raw.length+t.length∧t'.length≤t.length
 | 0,_,_,_,_,h=>by cases h
 | n+1,raw,[],_,_,h=>by cases h
 | n+1,raw,c::r,b,t',h=>by
  simp only[Z6] at h
  split at h
  ·cases h;simp;omega
  split at h
  ·rename_i h2
   have hl:=Yn _ _ h2
   simp only[zkc,Al2,Al3] at hl
   have:=zhK n _ _ _ _ h
   simp[yx] at this ⊢;omega
  ·have:=zhK n _ _ _ _ h
   simp at this ⊢;omega
theorem zqc (s:List UInt8) (h3:3≤s.length) (hs:s.length≤zbH):zu Tryz.prog 219 [.str s] (zrK s.length (Z6 (s.length-2) [] (s.drop 3))):=by
 refine zu.go ir219 ck219 (Al4 _) fun KP Q hQ=>?_
 simp only[zbH] at hs
 obtain⟨R,hR⟩:∃ R,Z6 (s.length-2) [] (s.drop 3)=R:=⟨_,rfl⟩
 rw[hR] at hQ
 simp(disch:=first|omega|assumption) only[ir219,go_sem]
 refine yK (fun x:Own×List UInt8×Nat=>[(4,.sl x.1 1 (bytesOf x.2.1)),(5,.int .i64 x.2.2)]) (fun x H=>3≤x.2.2∧x.2.2≤s.length∧x.2.1.length+3≤x.2.2∧Z6 ((s.drop x.2.2).length+1) x.2.1 (s.drop x.2.2)=R∧yh H x.1 x.2.1.length 1) (fun x=>s.length-x.2.2) (.nil,[],3) (by simp(disch:=first|omega|assumption) only[bytesOf,go_sem]) ⟨Al4 _,h3,Al4 _,by rw[← hR];simp only[Yv];rw[show s.length-3+1=s.length-2 by omega],rfl⟩ ?_
 rintro⟨o,raw,i⟩ H J ⟨hi3,hi,hrl,hrw,ho⟩ hJ
 simp only at hi3 hi hrl hrw ho
 have hbl:=yd raw
 by_cases hge:s.length≤i
 ·obtain rfl:i=s.length:=by omega
  rw[List.drop_length] at hrw
  have e:R=none:=by rw[← hrw];rfl
  have h1:((s.length:Int)≤(s.length:Int))=True:=eq_true (Int.le_refl _)
  simp(disch:=first|omega|assumption) only[h1,go_sem]
  exact hQ _ _ _ _ nofun rfl (by simp[zc,zf,AV.strip,AV.strip1,zrK,e])
 have hge':¬ ((s.length:Int)≤(i:Int)):=by omega
 have hle:((i:Int)≤(s.length:Int))=True:=eq_true (by omega)
 have hlt:((i:Int)<(s.length:Int))=True:=eq_true (by omega)
 obtain⟨c,r,hd⟩:∃ c r,s.drop i=c::r:=by
  cases hx:s.drop i with
  | nil=>have:=congrArg List.length hx;simp at this;omega
  | cons c r=>exact⟨c,r,rfl⟩
 have hc:s.getD i 0=c:=by
  have:(s.drop i).getD 0 0=c:=by rw[hd];rfl
  simpa[List.getD_eq_getElem?_getD] using this
 have hdl:s.length=i+(r.length+1):=by have:=congrArg List.length hd;simp at this;omega
 rw[hd] at hrw
 simp only[Z6] at hrw
 simp(disch:=first|omega|assumption) only[hge',hle,go_sem]
 refine zb (zbx (s.drop i) [34,34,34]) ?_
 rw[hd]
 by_cases p1:yx.isPrefixOf (c::r)=true
 ·have p1':([34,34,34]:List UInt8).isPrefixOf (c::r)=true:=p1
  have hl3:=Yn _ _ p1
  simp only[yx,Al2,Al3] at hl3
  rw[if_pos p1] at hrw
  simp(disch:=first|omega|assumption) only[p1',zg3,go_sem]
  refine zb (ztH raw (by omega)) ?_
  have e:((s.length-(r.length-2):Nat):Int)=(i:Int)+3:=by omega
  simp(disch:=first|omega|assumption) only[wrap64,go_sem]
  exact hQ _ _ _ _ nofun rfl (by simp[zc,zf,AV.strip,AV.strip1,zrK,← hrw,e])
 have p1':([34,34,34]:List UInt8).isPrefixOf (c::r)=false:=Bool.eq_false_iff.2 p1
 rw[if_neg p1] at hrw
 simp(disch:=first|omega|assumption) only[p1',hle,go_sem]
 refine zb (zbx (s.drop i) [92,34,34,34]) ?_
 rw[hd]
 by_cases p2:zkc.isPrefixOf (c::r)=true
 ·have p2':([92,34,34,34]:List UInt8).isPrefixOf (c::r)=true:=p2
  have hl4:=Yn _ _ p2
  simp only[zkc,Al2,Al3] at hl4
  rw[if_pos p2] at hrw
  simp(disch:=first|omega|assumption) only[p2',go_sem]
  refine zx (by rw[hbl];exact ho) (by simp[hbl,bytesOf];omega) (by simp[hbl,bytesOf,maxLen];omega) fun o' H' hs2=>?_
  have hdr:s.drop (i+4)=r.drop 3:=by rw[← List.drop_drop,hd];rfl
  simp(disch:=first|omega|assumption) only[wrap64,go_sem]
  refine goJ (hJ (o',raw++yx,i+4) _ (by simp only;omega) ⟨by simp only;omega,by simp only;omega,by simp[yx];omega,?_,?_⟩) (by simp(disch:=first|omega|assumption) only[← y1,Int.natCast_add,yx,ZO,go_sem])
  ·simp only
   rw[hdr,← hrw]
   exact zdU _ _ _ _ (Nat.lt_succ_self _) (by simp;omega)
  ·have h:=hs2.own
   simpa[hbl,bytesOf,yx] using h
 ·have p2':([92,34,34,34]:List UInt8).isPrefixOf (c::r)=false:=Bool.eq_false_iff.2 p2
  rw[if_neg p2] at hrw
  simp(disch:=first|omega|assumption) only[p2',hlt,hc,go_sem]
  refine zx (by rw[hbl];exact ho) (by simp[hbl];omega) (by simp[hbl,maxLen];omega) fun o' H' hs2=>?_
  have hdr:s.drop (i+1)=r:=by rw[← List.drop_drop,hd];rfl
  simp(disch:=first|omega|assumption) only[wrap64,go_sem]
  refine goJ (hJ (o',raw++[c],i+1) _ (by simp only;omega) ⟨by simp only;omega,by simp only;omega,by simp;omega,?_,?_⟩) (by simp(disch:=first|omega|assumption) only[← zbv,Int.natCast_add,go_sem])
  ·simp only
   rw[hdr,← hrw]
   rfl
  ·have h:=hs2.own
   simpa[hbl] using h
theorem zuQ (c:UInt8):zu Tryz.prog 221 [.int .u8 (c.toNat:Int)] (.bool (Zd c)):=by
 refine zu.go ir221 ck221 (Al4 _) fun KP Q hQ=>?_
 by_cases h10:c=10
 ·subst h10
  have hc:((10:UInt8).toNat:Int)=10:=rfl
  simp(disch:=first|omega|assumption) only[ir221,hc,go_sem]
  exact hQ _ _ _ _ nofun rfl (by simp[zc,zf,AV.strip,AV.strip1,Zd])
 have g10:¬ ((c.toNat:Int)=10):=fun e=>h10 (UInt8.toNat_inj.1 (by show c.toNat=10;omega))
 by_cases h13:c=13
 ·subst h13
  have hc:((13:UInt8).toNat:Int)=13:=rfl
  simp(disch:=first|omega|assumption) only[ir221,hc,go_sem]
  exact hQ _ _ _ _ nofun rfl (by simp[zc,zf,AV.strip,AV.strip1,Zd])
 have g13:¬ ((c.toNat:Int)=13):=fun e=>h13 (UInt8.toNat_inj.1 (by show c.toNat=13;omega))
 simp(disch:=first|omega|assumption) only[ir221,g10,g13,go_sem]
 exact hQ _ _ _ _ nofun rfl (by simp[zc,zf,AV.strip,AV.strip1,Zd,h10,h13])
theorem zj7 (c:UInt8) (r:List UInt8):Zv (c::r)=if yx.isPrefixOf (c::r) then (Z6 (r.length+1) [] (r.drop 2)).map fun x=>(⟨5,Zm x.1⟩,x.2)
  else if c=34 then (YJ Zd r).map fun x=>(⟨5,x.1⟩,x.2)
  else if Z4.isPrefixOf (c::r) then some (⟨1,Z4⟩,r.drop 2)
  else if 0≤Lib.indexByte zci c then some (⟨1,[c]⟩,r)
  else if isL c then some (⟨2,(c::r).take (y7 (c::r))⟩,(c::r).drop (y7 (c::r)))
  else if (yB (c::r)).1=0 then none
  else if ((c::r).drop (yB (c::r)).1).head?.any fun d=>isL d||isD d||decide (d=46) then none
  else some (⟨(yB (c::r)).2,(c::r).take (yB (c::r)).1⟩,(c::r).drop (yB (c::r)).1):=rfl
def zlv (s:List UInt8):AV:=match Zv s with
 | some (x,t)=>.tup [Yw x,.int .i64 ((s.length-t.length:Nat):Int)]
 | none=>.tup [Yw ⟨if s.head?=some 34 then 5 else 0,[]⟩,.int .i64 0]
theorem Y4 {s t:List UInt8} {x:Tok} (h:Zv s=some (x,t)):zlv s=.tup [Yw x,.int .i64 ((s.length-t.length:Nat):Int)]:=by unfold zlv;rw[h]
theorem zbW {s:List UInt8} (h:Zv s=none):zlv s=.tup [Yw ⟨if s.head?=some 34 then 5 else 0,[]⟩,.int .i64 0]:=by unfold zlv;rw[h]
theorem zwO (c:UInt8) (r:List UInt8) (hs:(c::r).length≤zbH):zu Tryz.prog 124 [.str (c::r)] (zlv (c::r)):=by
 have hcl:(c::r).length=r.length+1:=rfl
 have hg0:(c::r).getD 0 0=c:=rfl
 have ht1:(c::r).take 1=[c]:=rfl
 have ed:(c::r).drop 3=r.drop 2:=rfl
 have hhd:(c::r).head?=some c:=rfl
 have hquo:=fun h34:c=34=>(by rw[h34];exact zsM 221 (by decide +kernel) Zd zuQ 34 r (by simpa[h34] using hs):zu Tryz.prog 220 [.str (c::r),.clo 221 [] []] (zlw Zd r))
 have ot:=zj7 c r
 have hpl3:yx.isPrefixOf (c::r)=true→c=34:=fun p1=>by
  simp only[yx,List.isPrefixOf,Al0,beq_iff_eq] at p1
  exact p1.1.symm
 generalize hsc:c::r=s at *
 refine zu.go ir124 ck124 (Al4 _) fun KP Q hQ=>?_
 have hsq:=hs
 simp only[zbH] at hs
 have hsl:s.length≤Lim:=by simp only[Lim];omega
 have hl:((0:Int)<(s.length:Int))=True:=eq_true (by omega)
 have hl1:((1:Int)≤(s.length:Int))=True:=eq_true (by omega)
 simp(disch:=first|omega|assumption) only[ir124,go_sem]
 refine zm fun b0 hb0=>?_
 simp(disch:=first|omega|assumption) only[hl,hg0,go_sem]
 refine zb (zbx s [34,34,34]) ?_
 by_cases p1:yx.isPrefixOf s=true
 ·have p1':([34,34,34]:List UInt8).isPrefixOf s=true:=p1
  have hl3:=Yn _ _ p1
  simp only[yx,Al2,Al3] at hl3
  have h34:c=34:=hpl3 p1
  simp(disch:=first|omega|assumption) only[p1',go_sem]
  refine zb (zqc s hl3 hsq) ?_
  have ef:Z6 (s.length-2) [] (r.drop 2)=Z6 (r.length+1) [] (r.drop 2):=zdU _ _ _ _ (by rw[Yv];omega) (by rw[Yv];omega)
  rw[ed,ef]
  have e1:Zv s=(Z6 (r.length+1) [] (r.drop 2)).map fun x=>(⟨5,Zm x.1⟩,x.2):=by
   rw[ot,if_pos p1]
  cases hx:Z6 (r.length+1) [] (r.drop 2) with
  | none =>
   rw[hx] at e1
   have e:=zbW e1
   rw[if_pos (by rw[hhd,h34])] at e
   simp(disch:=first|omega|assumption) only[zrK,go_sem]
   exact hQ _ _ _ [.agg [.int .i64 5,.str []],.int .i64 0] nofun (by simp(disch:=first|omega|assumption) only[ir124,zP,yR,go_sem]) (by simp[zc,AV.strip,AV.strip1,e,Yw])
  | some x =>
   obtain⟨raw,t⟩:=x
   rw[hx] at e1
   have e:=Y4 e1
   simp(disch:=first|omega|assumption) only[zrK,go_sem]
   exact hQ _ _ _ [.agg [.int .i64 5,.str (Zm raw)],.int .i64 (((s.length-t.length:Nat)):Int)] nofun (by simp(disch:=first|omega|assumption) only[ir124,zP,yR,go_sem]) (by simp[zc,AV.strip,AV.strip1,e,Yw])
 have p1':([34,34,34]:List UInt8).isPrefixOf s=false:=Bool.eq_false_iff.2 p1
 by_cases c34:c=34
 ·have hc:(c.toNat:Int)=34:=by rw[c34];rfl
  simp(disch:=first|omega|assumption) only[p1',hc,go_sem]
  refine zb (hquo c34) ?_
  have e1:Zv s=(YJ Zd r).map fun x=>(⟨5,x.1⟩,x.2):=by
   rw[ot,if_neg p1,if_pos c34]
  cases hx:YJ Zd r with
  | none =>
   rw[hx] at e1
   have e:=zbW e1
   rw[if_pos (by rw[hhd,c34])] at e
   simp(disch:=first|omega|assumption) only[zlw,hx,go_sem]
   exact hQ _ _ _ [.agg [.int .i64 5,.str []],.int .i64 0] nofun (by simp(disch:=first|omega|assumption) only[ir124,zP,yR,go_sem]) (by simp[zc,AV.strip,AV.strip1,e,Yw])
  | some x =>
   obtain⟨b,t⟩:=x
   rw[hx] at e1
   have e:=Y4 e1
   rw[hcl] at e
   simp(disch:=first|omega|assumption) only[zlw,hx,go_sem]
   exact hQ _ _ _ [.agg [.int .i64 5,.str b],.int .i64 (((r.length+1-t.length:Nat)):Int)] nofun (by simp(disch:=first|omega|assumption) only[ir124,zP,yR,go_sem]) (by simp[zc,AV.strip,AV.strip1,e,Yw])
 have g34:¬ ((c.toNat:Int)=34):=fun e=>c34 (UInt8.toNat_inj.1 (by show c.toNat=34;omega))
 have hno:¬ (s.head?=some 34):=by rw[hhd];simpa using c34
 simp(disch:=first|omega|assumption) only[p1',g34,go_sem]
 refine zb (zbx s [46,46,46]) ?_
 by_cases p2:Z4.isPrefixOf s=true
 ·have p2':([46,46,46]:List UInt8).isPrefixOf s=true:=p2
  have hl3:=Yn _ _ p2
  have hd3:Z4.length=3:=rfl
  rw[hd3] at hl3
  have e1:Zv s=some (⟨1,Z4⟩,r.drop 2):=by
   rw[ot,if_neg p1,if_neg c34,if_pos p2]
  have e:=Y4 e1
  have e2:s.length-(r.drop 2).length=3:=by rw[Yv];omega
  rw[e2] at e
  have e3:Z4=[46,46,46]:=rfl
  simp(disch:=first|omega|assumption) only[p2',go_sem]
  exact hQ _ _ _ [.agg [.int .i64 1,.str [46,46,46]],.int .i64 3] nofun (by simp(disch:=first|omega|assumption) only[ir124,zP,yR,go_sem]) (by simp[zc,AV.strip,AV.strip1,e,Yw,e3])
 have p2':([46,46,46]:List UInt8).isPrefixOf s=false:=Bool.eq_false_iff.2 p2
 simp(disch:=first|omega|assumption) only[p2',go_sem]
 refine zb (zie zci c) ?_
 by_cases hm:0≤Lib.indexByte zci c
 ·have e1:Zv s=some (⟨1,[c]⟩,r):=by
   rw[ot,if_neg p1,if_neg c34,if_neg p2,if_pos hm]
  have e:=Y4 e1
  have e2:s.length-r.length=1:=by omega
  rw[e2] at e
  have e3:=ht1
  simp(disch:=first|omega|assumption) only[hm,hl1,e3,go_sem]
  exact hQ _ _ _ [.agg [.int .i64 1,.str [c]],.int .i64 1] nofun (by simp(disch:=first|omega|assumption) only[ir124,zP,yR,go_sem]) (by simp[zc,AV.strip,AV.strip1,e,Yw])
 simp(disch:=first|omega|assumption) only[hm,go_sem]
 refine zb (zgM c) ?_
 by_cases hL:isL c=true
 ·have e1:Zv s=some (⟨2,s.take (y7 s)⟩,s.drop (y7 s)):=by
   rw[ot,if_neg p1,if_neg c34,if_neg p2,if_neg hm,if_pos hL]
  have e:=Y4 e1
  have hwl:=zhi s
  have e2:s.length-(s.drop (y7 s)).length=y7 s:=by rw[Yv];omega
  rw[e2] at e
  have h2:((y7 s:Int)≤(s.length:Int))=True:=eq_true (by omega)
  simp(disch:=first|omega|assumption) only[hL,go_sem]
  refine zb (zvA s hsl (by rw[hg0];exact hL)) ?_
  simp(disch:=first|omega|assumption) only[h2,go_sem]
  exact hQ _ _ _ [.agg [.int .i64 2,.str (s.take (y7 s))],.int .i64 (y7 s:Int)] nofun (by simp(disch:=first|omega|assumption) only[ir124,zP,yR,go_sem]) (by simp[zc,AV.strip,AV.strip1,e,Yw])
 have hL':isL c=false:=by simpa using hL
 simp(disch:=first|omega|assumption) only[hL',go_sem]
 refine zb (zn2 s hsl) ?_
 have hnl:=ze7 s
 have hn2:(yB s).1=0→(yB s).2=0:=fun h=>by
  unfold yB at h ⊢
  split at h
  ·rename_i h0;rw[if_pos h0]
  ·rename_i h0;simp only at h;omega
 have e0:Zv s=if (yB s).1=0 then none
   else if (s.drop (yB s).1).head?.any fun d=>isL d||isD d||decide (d=46) then none
   else some (⟨(yB s).2,s.take (yB s).1⟩,s.drop (yB s).1):=by
  rw[ot,if_neg p1,if_neg c34,if_neg p2,if_neg hm,if_neg hL]
 generalize hnn:(yB s).1=n at *
 generalize hkk:(yB s).2=k at *
 have hnle:((n:Int)≤(s.length:Int))=True:=eq_true (by omega)
 have fin:(n≠0→Zv s=some (⟨k,s.take n⟩,s.drop n))→zlv s=.tup [Yw ⟨k,s.take n⟩,.int .i64 (n:Int)]:=fun h=>by
  by_cases hz:n=0
  ·rw[if_pos hz] at e0
   rw[zbW e0,if_neg hno,hz,hn2 hz];rfl
  ·rw[Y4 (h hz)]
   have e2:s.length-(s.drop n).length=n:=by rw[Yv];omega
   rw[e2]
 have bad:(s.drop n).head?.any (fun d=>isL d||isD d||decide (d=46))=true→zlv s=.tup [Yw ⟨0,[]⟩,.int .i64 0]:=fun h=>by
  have:Zv s=none:=by
   rw[e0]
   split
   ·rfl
   ·first|rfl|exact if_pos h
  rw[zbW this,if_neg hno]
 rcases zek s n with ⟨h1,h2⟩|⟨h1,h2⟩
 ·have hlt:¬ ((n:Int)<(s.length:Int)):=by omega
  have e:=fin fun hz=>by rw[e0,if_neg hz,h1];rfl
  simp(disch:=first|omega|assumption) only[hlt,hnle,go_sem]
  exact hQ _ _ _ [.agg [.int .i64 k,.str (s.take n)],.int .i64 (n:Int)] nofun (by simp(disch:=first|omega|assumption) only[ir124,zP,yR,go_sem]) (by simp[zc,AV.strip,AV.strip1,e,Yw])
 ·have hlt:((n:Int)<(s.length:Int))=True:=eq_true (by omega)
  generalize hdd:s.getD n 0=d at *
  have ha:(s.drop n).head?.any (fun d=>isL d||isD d||decide (d=46))=(isL d||isD d||decide (d=46)):=by rw[h2];rfl
  rw[ha] at bad
  simp(disch:=first|omega|assumption) only[hlt,hdd,go_sem]
  refine zb (zgM d) ?_
  cases hld:isL d with
  | true =>
   have e:=bad (by rw[hld];rfl)
   simp(disch:=first|omega|assumption) only[hld,go_sem]
   exact hQ _ _ _ [.agg [.int .i64 0,.str []],.int .i64 0] nofun (by simp(disch:=first|omega|assumption) only[ir124,zP,yR,go_sem]) (by simp[zc,AV.strip,AV.strip1,e,Yw])
  | false =>
   simp(disch:=first|omega|assumption) only[hld,hlt,hdd,go_sem]
   refine zb (zj9 d) ?_
   cases hdg:isD d with
   | true =>
    have e:=bad (by rw[hdg];simp)
    simp(disch:=first|omega|assumption) only[hdg,go_sem]
    exact hQ _ _ _ [.agg [.int .i64 0,.str []],.int .i64 0] nofun (by simp(disch:=first|omega|assumption) only[ir124,zP,yR,go_sem]) (by simp[zc,AV.strip,AV.strip1,e,Yw])
   | false =>
    by_cases h46:d=46
    ·have e:=bad (by rw[h46];simp)
     have g46:(d.toNat:Int)=46:=by rw[h46];rfl
     simp(disch:=first|omega|assumption) only[hdg,hlt,hdd,g46,go_sem]
     exact hQ _ _ _ [.agg [.int .i64 0,.str []],.int .i64 0] nofun (by simp(disch:=first|omega|assumption) only[ir124,zP,yR,go_sem]) (by simp[zc,AV.strip,AV.strip1,e,Yw])
    ·have g46:¬ ((d.toNat:Int)=46):=fun e=>h46 (UInt8.toNat_inj.1 (by show d.toNat=46;omega))
     have e:=fin fun hz=>by rw[e0,if_neg hz,ha,hld,hdg];simp[h46]
     simp(disch:=first|omega|assumption) only[hdg,hlt,hdd,g46,hnle,go_sem]
     exact hQ _ _ _ [.agg [.int .i64 k,.str (s.take n)],.int .i64 (n:Int)] nofun (by simp(disch:=first|omega|assumption) only[ir124,zP,yR,go_sem]) (by simp[zc,AV.strip,AV.strip1,e,Yw])
theorem ztE {l:List UInt8} (hne:l≠[]):(zJ l).2≤l.length∧(zJ l).1≤1114111:=by
 by_cases h:(zJ l).2=0
 ·refine⟨by omega,?_⟩
  unfold zJ at h ⊢
  split at h
  ·rename_i h0;rw[if_pos h0];decide
  ·split at h
   ·rename_i h0 h1;rw[if_neg h0,if_pos h1];decide
   ·rename_i h0 h1
    have:=znH h0 h1
    have:=this.pos
    omega
 ·obtain⟨e,h1⟩:=zfK hne h
  have hd:=znH hne h1
  rw[e]
  refine⟨?_,hd.le⟩
  have hl:=hd.len
  exact hl
theorem zsw (s:List UInt8) (hs:s.length≤Lim):zu Tryz.prog 122 [.str s] (.bool (zeR s)):=by
 refine zu.go ir122 ck122 (Al4 _) fun KP Q hQ=>?_
 have hs':=hs
 simp only[Lim] at hs
 simp(disch:=first|omega|assumption) only[ir122,go_sem]
 refine yK (fun i:Nat=>[(3,.int .i64 i)]) (fun i H=>zeR s=zeR (s.drop i)∧i≤s.length) (fun i=>s.length-i) 0 (by simp(disch:=first|omega|assumption) only[go_sem]) ⟨by simp,by omega⟩ ?_
 rintro i H J ⟨hn,hle⟩ hJ
 by_cases hlt:i<s.length
 case neg =>
  have hlt':¬ ((i:Int)<s.length):=by omega
  rw[List.drop_of_length_le (by omega)] at hn
  simp(disch:=first|omega|assumption) only[hlt',go_sem]
  exact hQ _ _ _ _ nofun rfl (by simp[zc,zf,AV.strip,AV.strip1,hn,zlF])
 have hlt':((i:Int)<s.length)=True:=eq_true (by omega)
 have hne:s.drop i≠[]:=fun e=>by have:=congrArg List.length e;simp at this;omega
 obtain⟨hk,hcm⟩:=ztE hne
 rw[Yv] at hk
 simp(disch:=first|omega|assumption) only[hlt',go_sem]
 refine zb (zr1 s i hlt hs') ?_
 rw[zdI hne,List.drop_drop] at hn
 generalize (zJ (s.drop i)).1=c at *
 generalize (zJ (s.drop i)).2=k at *
 by_cases hk0:0<k
 ·have hk0':((0:Int)<(k:Int))=True:=eq_true (by omega)
  simp(disch:=first|omega|assumption) only[hk0',go_sem]
  refine zb (zwa c hcm) ?_
  cases hsg:zbt c with
  | true =>
   rw[hsg] at hn
   simp only[hk0,decide_true,Bool.true_and] at hn
   simp(disch:=first|omega|assumption) only[wrap64,go_sem]
   exact goJ (hJ (i+k) _ (by omega) ⟨hn,by omega⟩) (by simp(disch:=first|omega|assumption) only[Int.natCast_add,go_sem])
  | false =>
   rw[hsg] at hn
   simp only[Bool.false_and,Bool.and_false] at hn
   simp(disch:=first|omega|assumption) only[go_sem]
   exact hQ _ _ _ _ nofun rfl (by simp[zc,zf,AV.strip,AV.strip1,hn])
 ·have hk0':¬ ((0:Int)<(k:Int)):=by omega
  simp only[hk0,decide_false,Bool.false_and] at hn
  simp(disch:=first|omega|assumption) only[hk0',go_sem]
  exact hQ _ _ _ _ nofun rfl (by simp[zc,zf,AV.strip,AV.strip1,hn])
def readA:Except Int (List Tok)→AV
 | .ok l=>.tup [.sl .no 2 (cKs l),.int .i64 0]
 | .error e=>.tup [.sl .no 2 [],.int .i64 e]
def zb2 (l:List Tok) (t:List UInt8):Except Int (List Tok):=Z5 (t.length+1) l t
theorem zpZ (l:List Tok):zb2 l []=.ok l:=rfl
theorem zpD {l:List Tok} {t:List UInt8} (hne:t≠[]) (h:Yl t≠0):zb2 l t=zb2 l (t.drop (Yl t)):=by
 have h1:=zj8 t
 have h2:0<t.length:=List.length_pos_iff.2 hne
 unfold zb2
 conv=>lhs;unfold Z5
 rw[if_neg hne,if_pos h]
 exact zcc _ _ _ _ (by simp;omega) (Nat.lt_succ_self _)
theorem zm7 {l:List Tok} {t:List UInt8} (hne:t≠[]) (h:Yl t=0) (h1:Zv t=none):zb2 l t=.error 2:=by
 unfold zb2
 conv=>lhs;unfold Z5
 rw[if_neg hne,if_neg (by omega),h1]
theorem zmX {l:List Tok} {t t':List UInt8} {x:Tok} (hne:t≠[]) (h:Yl t=0) (h1:Zv t=some (x,t')):zb2 l t=zb2 (l++[x]) t':=by
 have h2:=zeM h1
 unfold zb2
 conv=>lhs;unfold Z5
 rw[if_neg hne,if_neg (by omega),h1]
 exact zcc _ _ _ _ (by omega) (Nat.lt_succ_self _)
theorem zhA:∀(n:Nat) (raw t b t':List UInt8),Z6 n raw t=some (b,t')→t' <:+ t
 | 0,_,_,_,_,h=>by cases h
 | n+1,raw,[],_,_,h=>by cases h
 | n+1,raw,c::r,b,t',h=>by
  simp only[Z6] at h
  split at h
  ·cases h;exact(List.drop_suffix _ _).trans (List.suffix_cons ..)
  split at h
  ·exact(zhA n _ _ _ _ h).trans ((List.drop_suffix _ _).trans (List.suffix_cons ..))
  ·exact(zhA n _ _ _ _ h).trans (List.suffix_cons ..)
theorem zmQ {s t:List UInt8} {x:Tok} (h:Zv s=some (x,t)):t <:+ s:=by
 cases s with
 | nil=>cases h
 | cons c r =>
  simp only[Zv] at h
  split at h
  ·cases hr:Z6 (r.length+1) [] (r.drop 2) with
   | none=>rw[hr] at h;cases h
   | some y =>
    rw[hr] at h
    simp only[yU,Al1,Al8] at h
    obtain⟨_,rfl⟩:=h
    exact(zhA _ _ _ _ _ (show Z6 _ _ _=some (y.1,y.2) from hr)).trans ((List.drop_suffix _ _).trans (List.suffix_cons ..))
  split at h
  ·cases hr:YJ Zd r with
   | none=>rw[hr] at h;cases h
   | some y =>
    rw[hr] at h
    simp only[yU,Al1,Al8] at h
    obtain⟨_,rfl⟩:=h
    exact(zlB (t':=y.2) (b:=y.1) hr).1.trans (List.suffix_cons ..)
  split at h
  ·cases h;exact(List.drop_suffix _ _).trans (List.suffix_cons ..)
  split at h
  ·cases h;exact List.suffix_cons ..
  split at h
  ·cases h;exact List.drop_suffix _ _
  split at h
  ·cases h
  split at h
  ·cases h
  ·cases h;exact List.drop_suffix _ _
theorem zsi {s t:List UInt8} {x:Tok} (h:Zv s=some (x,t)):s.drop (s.length-t.length)=t:=by
 obtain⟨p,hp⟩:=zmQ h
 rw[← hp];simp
theorem zw2 {u:List UInt8} (hne:u≠[]) (hs:u.length≤1000000):zu Tryz.prog 123 [.str u] (.int .i64 (Yl u)):=by
 cases u with
 | nil=>exact absurd rfl hne
 | cons c r=>exact zwY c r hs
theorem zwR {u:List UInt8} (hne:u≠[]) (hs:u.length≤zbH):zu Tryz.prog 124 [.str u] (zlv u):=by
 cases u with
 | nil=>exact absurd rfl hne
 | cons c r=>exact zwO c r hs
theorem zvK (s:List UInt8) (hs:s.length≤zbH):zu Tryz.prog 57 [.str s] (readA (Ye s)):=by
 refine zu.go ir57 ck57 (Al4 _) fun KP Q hQ=>?_
 have hsq:=hs
 simp only[zbH] at hs
 by_cases h8:8192<s.length
 ·have g8:((8192:Int)<(s.length:Int))=True:=eq_true (by omega)
  simp(disch:=first|omega|assumption) only[ir57,g8,go_sem]
  exact hQ _ _ _ _ nofun rfl (by simp[zc,zf,AV.strip,AV.strip1,Ye,h8,readA])
 have g8:¬ ((8192:Int)<(s.length:Int)):=by omega
 simp(disch:=first|omega|assumption) only[ir57,g8,go_sem]
 refine zb (zsw s (by simp only[Lim];omega)) ?_
 cases hsb:zeR s with
 | false =>
  simp(disch:=first|omega|assumption) only[go_sem]
  exact hQ _ _ _ _ nofun rfl (by simp[zc,zf,AV.strip,AV.strip1,Ye,h8,hsb,readA])
 | true =>
  have e0:Ye s=zb2 [] s:=by unfold Ye zb2;rw[if_neg h8,if_pos hsb]
  rw[e0] at hQ
  simp(disch:=first|omega|assumption) only[go_sem]
  refine yK (fun x:Own×List Tok×Nat=>[(4,.sl x.1 2 (cKs x.2.1)),(5,.int .i64 x.2.2)]) (fun x H=>x.2.2≤s.length∧x.2.1.length≤x.2.2∧zb2 [] s=zb2 x.2.1 (s.drop x.2.2)∧OwnS za.emp .nil H x.1 x.2.1.length 2) (fun x=>s.length-x.2.2) (.nil,[],0) (by simp(disch:=first|omega|assumption) only[cKs,List.map_nil,go_sem]) ⟨Nat.zero_le _,Al4 _,rfl,OwnS.refl rfl⟩ ?_
  rintro⟨o,l,i⟩ H J ⟨hi,hll,hr,hso⟩ hJ
  simp only at hi hll hr hso
  have hcl:=yM l
  by_cases hlt:i<s.length
  case neg =>
   have hlt':¬ ((i:Int)<s.length):=by omega
   rw[List.drop_of_length_le (by omega),zpZ] at hr
   simp(disch:=first|omega|assumption) only[hlt',go_sem]
   exact hQ _ _ _ _ nofun rfl (by simp[zc,zf,AV.strip,AV.strip1,hr,readA,za0])
  have hlt':((i:Int)<s.length)=True:=eq_true (by omega)
  have hle':((i:Int)≤s.length)=True:=eq_true (by omega)
  obtain⟨u,hd⟩:∃ u,s.drop i=u:=⟨_,rfl⟩
  have hdl:s.length=i+u.length:=by have:=congrArg List.length hd;rw[Yv] at this;omega
  have hne:u≠[]:=fun e=>by rw[e] at hdl;simp at hdl;omega
  rw[hd] at hr
  simp(disch:=first|omega|assumption) only[hlt',hle',hd,go_sem]
  refine zb (zw2 hne (by omega)) ?_
  have hgl:=zj8 u
  by_cases hg:Yl u=0
  case neg =>
   have hg':((0:Int)<(Yl u:Int))=True:=eq_true (by omega)
   simp(disch:=first|omega|assumption) only[hg',wrap64,go_sem]
   refine goJ (hJ (o,l,i+Yl u) _ (by simp only;omega) ⟨by simp only;omega,by simp only;omega,?_,hso⟩) (by simp(disch:=first|omega|assumption) only[Int.natCast_add,go_sem])
   simp only
   rw[hr,zpD hne hg,← List.drop_drop,hd]
  have hg':¬ ((0:Int)<(Yl u:Int)):=by omega
  simp(disch:=first|omega|assumption) only[hg',hle',hd,go_sem]
  refine zb (zwR hne (by simp only[zbH];omega)) ?_
  cases ho:Zv u with
  | none =>
   rw[zm7 hne hg ho] at hr
   rw[zbW ho]
   simp(disch:=first|omega|assumption) only[Yw,go_sem]
   refine zm fun b1 hb1=>?_
   simp(disch:=first|omega|assumption) only[go_sem]
   exact hQ _ _ _ _ nofun rfl (by simp[zc,zf,AV.strip,AV.strip1,hr,readA])
  | some x =>
   obtain⟨x,t⟩:=x
   have hlt2:=zeM ho
   have hsf:=zsi ho
   rw[zmX hne hg ho] at hr
   rw[Y4 ho]
   have hz:¬ (((u.length-t.length:Nat):Int)=0):=by omega
   simp(disch:=first|omega|assumption) only[Yw,go_sem]
   refine zm fun b1 hb1=>?_
   simp(disch:=first|omega|assumption) only[hz,go_sem]
   refine zx (by rw[hcl];exact(hso.upd hb1).own) (by simp only[hcl,Al2,Al3];omega) (by simp only[hcl,Al2,Al3,maxLen];omega) fun o' H' hs2=>?_
   simp(disch:=first|omega|assumption) only[wrap64,go_sem]
   refine goJ (hJ (o',l++[x],i+(u.length-t.length)) H' (by simp only;omega) ⟨by simp only;omega,by simp;omega,?_,(hso.upd (x:=.cells [.int .i64 x.k,.str x.s]) hb1).trans (by simpa[hcl] using hs2)⟩) (by simp(disch:=first|omega|assumption) only[← zbl,Int.natCast_add,go_sem])
   simp only
   rw[hr,← List.drop_drop,hd,hsf]
end Go.Proofs.YticbbfbpeimkbaaGreatDoor
namespace Go.Proofs.YticbbfbpeimkbaaGreatDoor
open Go.Ab
def sp89 : ASp := ⟨27, 2, 5, (.reg [] [⟨some 4, none, .alloc [.int .i64 0], []⟩]), (.seq (.reg [] [⟨some 13, none, .mv (.t 6), []⟩, ⟨some 14, none, .bi .neq .i64 (.t 13) (.k (.int .i64 0)), []⟩])
 (.cond (.t 14) (.seq (.reg [] [⟨some 15, none, .mv (.t 6), []⟩, ⟨none, none, .st 1 (.t 4) (.t 15), []⟩])
 (.ret)) (.skip))), [⟨some 16, none, .mkfn 159 [] [(.t 4)], []⟩], 16, (.seq (.reg [] [⟨some 17, none, .mv (.t 5), []⟩, ⟨some 18, none, .bld [.sl .nil 2 [], .int .i64 0, .int .i64 0] [(0, 1, (.t 17))], []⟩, ⟨some 19, none, .box (.t 18), []⟩, ⟨some 7, none, .mv (.t 19), []⟩])
 (.seq (.reg [] [⟨some 20, none, .mv (.t 1), []⟩, ⟨some 21, none, .mv (.t 7), []⟩, ⟨some 22, none, .callv (.t 20) [(.t 21)], []⟩])
 (.seq (.seq (.reg [] [⟨some 23, none, .mv (.t 7), []⟩, ⟨some 24, none, .call 92 [(.t 23)], []⟩])
 (.cond (.t 24) (.reg [] [⟨some 25, none, .mv (.t 7), []⟩, ⟨some 26, none, .call 160 [(.t 25), (.k (.int .i64 2))], []⟩]) (.skip)))
 (.seq (.reg [] [⟨none, none, .st 1 (.t 4) (.k (.int .i64 0)), []⟩])
 (.ret))))), [.c 4 1 false], some (.reg [] [⟨some 9, none, .mv (.t 0), []⟩, ⟨some 10, none, .call 57 [(.t 9)], []⟩, ⟨some 8, none, .mv (.t 10), []⟩, ⟨some 11, none, .ext (.t 8) 0, []⟩, ⟨some 12, none, .ext (.t 8) 1, []⟩, ⟨some 5, none, .mv (.t 11), []⟩, ⟨some 6, none, .mv (.t 12), []⟩])⟩
theorem ckS89:zqy Tryz.prog 89 sp89=true:=by kernel_rfl
def df159 : ADfn := ⟨16, 1, 4, [⟨some 1, none, .mv (.t 4), []⟩], (.seq (.reg [] [⟨some 6, none, .mv (.t 1), []⟩, ⟨some 7, none, .tas 186 (.agg [.int .i64 0]) (.t 6), []⟩, ⟨some 5, none, .mv (.t 7), []⟩, ⟨some 8, none, .ext (.t 5) 0, []⟩, ⟨some 9, none, .ext (.t 5) 1, []⟩, ⟨some 2, none, .alloc [.int .i64 0], []⟩, ⟨none, none, .st 1 (.t 2) (.t 8), []⟩, ⟨some 3, none, .mv (.t 9), []⟩])
 (.seq (.reg [] [⟨some 10, none, .mv (.t 3), []⟩])
 (.cond (.t 10) (.reg [] [⟨some 11, none, .fa 0 (.t 2), []⟩, ⟨some 12, none, .ld 1 false (.t 11), []⟩, ⟨none, none, .st 1 (.t 0) (.t 12), []⟩]) (.seq (.reg [] [⟨some 13, none, .mv (.t 1), []⟩, ⟨some 14, none, .ifnil true (.t 13), []⟩])
 (.cond (.t 14) (.reg [] [⟨some 15, none, .mv (.t 1), []⟩, ⟨none, none, .pan (.t 15), []⟩]) (.skip))))))⟩
theorem ckD159:zm1 Tryz.prog 159 df159=true:=by kernel_rfl
theorem zfX {P:Program} {KP:AV→za→Prop} {items:List AItem} {ρ:Env} {H:za} {K:Env→za→Prop} (h:∀ Q:AExit→Env→za→Prop,(∀ ρ' H',K ρ' H'→Q .normal ρ' H')→goI P KP Q items items [] ρ H):yE P KP (YN items) ρ H K :=
 h (fun e ρ H=>match e with|.normal=>K ρ H|_=>True) (fun _ _ h=>h)
theorem zcl {P:Program} {KP:AV→za→Prop} {c:AC} {ρ:Env} {H:za} {K:AExit→Env→za→Prop} (h:∀(KP':AV→za→Prop) (Q:AExit→Env→za→Prop),(∀ v H',KP v H'→KP' v H')→(∀ e ρ' H',K e ρ' H'→Q e ρ' H')→goC P KP' Q c [] ρ H):awp P KP c K ρ H :=
 h KP K (fun _ _ h=>h) (fun _ _ _ h=>h)
theorem zuE (H:za) (r:Nat) (n:Int):zj Tryz.prog 160 [.ptr r 0,.int .i64 n] H (fun e H'=>match e with|.ret v=>False|.pan v=>v=Zj n∧H'=H):=by
 refine zj.goO (R:=fun _ _=>False) (RP:=fun v H'=>v=Zj n∧H'=H) ir160 ck160 (Al4 _) fun KP Q hQ hP=>?_
 simp(disch:=first|omega|assumption) only[ir160,go_sem]
 exact hP _ _ H (Low.refl _) ⟨rfl,rfl⟩
theorem zwm {H:za} {b4:Nat} {Q:za→Prop} (hq:∀ b x,H b=none→Q (H.upd b x)):ZI Tryz.prog 159 [.ptr b4 0] none H Q:=by
 refine ZI.of_fn df159 ckD159 (Al4 _) (zfX fun Q1 hQ1=>?_)
 simp(disch:=first|omega|assumption) only[df159,Option.getD_none,go_sem]
 refine hQ1 _ _ (zcl fun KP' Q2 hKP hQ2=>?_)
 simp(disch:=first|omega|assumption) only[df159,go_sem]
 refine zm fun b hb=>?_
 simp(disch:=first|omega|assumption) only[go_sem]
 exact hQ2 _ _ _ (hq _ _ hb)
theorem zt8 {H:za} {b4:Nat} {c4:List AV} {n:Int} {Q:za→Prop} (h4:H b4=some (.cells c4)) (l4:c4.length=1)
  (hq:∀ b x,H b=none→Q ((H.upd b x).upd b4 (.cells [.int .i64 n]))):ZI Tryz.prog 159 [.ptr b4 0] (some (Zj n)) H Q:=by
 refine ZI.of_fn df159 ckD159 (Al4 _) (zfX fun Q1 hQ1=>?_)
 simp(disch:=first|omega|assumption) only[df159,Option.getD_some,Zj,go_sem]
 refine hQ1 _ _ (zcl fun KP' Q2 hKP hQ2=>?_)
 simp(disch:=first|omega|assumption) only[df159,go_sem]
 refine zm fun b hb=>?_
 have n1:b4≠b:=fun e=>by subst e;rw[hb] at h4;cases h4
 simp(disch:=first|omega|assumption) only[h4,n1,l4,go_sem]
 have e4:splice c4 0 [.int .i64 n]=[.int .i64 n]:=by
  unfold splice;simp only[List.take_zero,Zg,Al2,Al3];rw[List.drop_eq_nil_of_le (by rw[l4];decide),List.append_nil]
 rw[e4]
 exact hQ2 _ _ _ (hq _ _ hb)
theorem zga:∀(n:Nat) (l:List Tok) (s:List UInt8) (e:Int),s.length<n→Z5 n l s=.error e→e=2
 | 0,_,_,_,h,_=>absurd h (Nat.not_lt_zero _)
 | n+1,l,s,e,h,hr=>by
  simp only[Z5] at hr
  split at hr
  ·cases hr
  split at hr
  ·rename_i hne hg
   have h1:=zj8 s
   have h2:0<s.length:=List.length_pos_iff.2 hne
   exact zga n _ _ _ (by simp;omega) hr
  ·cases ho:Zv s with
   | none=>rw[ho] at hr;cases hr;rfl
   | some x =>
    rw[ho] at hr
    have:=zeM (show Zv s=some (x.1,x.2) from ho)
    exact zga n _ _ _ (by omega) hr
theorem zf1 {s:List UInt8} {e:Int} (h:Ye s=.error e):e≠0:=by
 unfold Ye at h
 split at h
 ·cases h;decide
 split at h
 ·rw[zga _ _ _ _ (Nat.lt_succ_self _) h];decide
 ·cases h;decide
def zvb (Out:Int→za→Prop):AEnd→za→Prop:=fun e H'=>match e with|.ret v=>∃ n:Int,v=.int .i64 n∧Out n H'|.pan _=>False
theorem zdS {ρ:Env} {H:za} {b4:Nat} {e:Int} (r4:ρ 4=.ptr b4 0) (h4:H b4=some (.cells [.int .i64 e])):zP ρ H sp89.res=some [.int .i64 e]:=by
 simp(disch:=first|omega|assumption) only[sp89,zP,yR,r4,h4,go_sem]
theorem zvW {s:List UInt8} {Hc:za} {clo:FuncId} {caps:List AV} (hl:s.length≤zbH) (hcal:Program.callable Tryz.prog clo=true) (Out:Int→za→Prop)
  (h1:∀ n,Ye s=.error n→Out n Hc)
  (h2:∀ L,Ye s=.ok L→∀ r,Hc r=none→zj Tryz.prog clo (.ptr r 0::caps) (Hc.upd r (prc L [] 0)) (fun e H'=>match e with
   | .ret _=>∃ p t dp,p++t=L∧H' r=some (prc L p dp)∧Out (if t=[] then 0 else 2) H'
   | .pan v=>∃ n,v=Zj n∧∀ H,Out n H)) :
  zj Tryz.prog 89 [.str s,.clo clo [] caps] Hc (zvb Out):=by
 refine zj.of_sp sp89 ckS89 (Al4 _) ?_
 unfold zvS
 refine zcl fun KP Q hKP hQ=>?_
 simp(disch:=first|omega|assumption) only[sp89,go_sem]
 refine zm fun b4 hb4=>?_
 simp(disch:=first|omega|assumption) only[go_sem]
 refine hQ _ _ _ (zcl fun KP1 Q1 hKP1 hQ1=>?_)
 simp(disch:=first|omega|assumption) only[sp89,go_sem]
 refine zb (zu.low (zvK s hl)) ?_
 cases hR:Ye s with
 | error n =>
  have hn:¬ (n=0):=zf1 hR
  simp(disch:=first|omega|assumption) only[readA,go_sem]
  refine hQ1 _ _ _ (zcl fun KP2 Q2 hKP2 hQ2=>?_)
  simp(disch:=first|omega|assumption) only[sp89,hn,go_sem]
  refine hQ2 _ _ _ ?_
  show zdY sp89.res (zvb Out) .ret _ _
  simp only[zdY]
  rw[zdS (b4:=b4) (e:=n) rfl (upd_same ..)]
  exact⟨Hc,(Low.refl _).upd hb4,n,rfl,h1 n hR⟩
 | ok L =>
  simp(disch:=first|omega|assumption) only[readA,go_sem]
  refine hQ1 _ _ _ (zcl fun KP2 Q2 hKP2 hQ2=>?_)
  simp(disch:=first|omega|assumption) only[sp89,go_sem]
  refine hQ2 _ _ _ (zfX fun Q3 hQ3=>?_)
  simp(disch:=first|omega|assumption) only[sp89,go_sem]
  refine hQ3 _ _ ⟨159,_,rfl,by decide +kernel,zcl fun KP4 Q4 hKP4 hQ4=>?_⟩
  have fin:∀(ρ1:Env) (H H2:za) (e:Int),ρ1 4=.ptr b4 0→H b4=some (.cells [.int .i64 e])→Low H2 H→Out e H2→ztG sp89 (zvb Out) ρ1 H:=by
   intro ρ1 H H2 e r4 g4 hlow ho
   refine⟨_,zdS (b4:=b4) (e:=e) ?_ g4,H2,hlow,e,rfl,ho⟩
   rw[zmn,if_pos (by decide)];exact r4
  have hpan:∀(n:Int) (H0 H':za) (c4:List AV),Low H0 H'→H0 b4=some (.cells c4)→c4.length=1→(∀ H,Out n H)→KP4 (Zj n) H':=by
   intro n H0 H' c4 hlow g4 l4 ho
   exact hKP4 _ _ ⟨H0,hlow,zt8 g4 l4 fun b x hb=>fin _ _ za.emp n rfl (upd_same ..) (Low.of_sub (ztA _)) (ho _)⟩
  simp(disch:=first|omega|assumption) only[sp89,go_sem]
  refine zm fun br hbr=>?_
  have hbr4:br≠b4:=fun e=>by subst e;rw[upd_same] at hbr;cases hbr
  have hbrH:Hc br=none:=by rw[upd_ne hbr4] at hbr;exact hbr
  simp(disch:=first|omega|assumption) only[hcal,go_sem]
  obtain⟨x4,hx4⟩:∃ x4:AObj,x4=.cells [.int .i64 0]:=⟨_,rfl⟩
  have hun:(Hc.upd b4 (.cells [.int .i64 0])).upd br (.cells [.sl .no 2 (cKs L),.int .i64 0,.int .i64 0])=za.union (Hc.upd br (prc L [] 0)) (za.one b4 x4):=by
   funext c
   by_cases e1:c=br
   ·subst e1;rw[upd_same];simp[za.union,za.upd,prc]
   ·rw[upd_ne e1]
    by_cases e2:c=b4
    ·subst e2;rw[upd_same];simp[za.union,za.upd,za.one,e1,hb4,hx4]
    ·rw[upd_ne e2];simp[za.union,za.upd,za.one,e1,e2]
  have hd:za.Disj (Hc.upd br (prc L [] 0)) (za.one b4 x4):=fun c=>by
   by_cases e:c=b4
   ·subst e;exact .inl (by rw[upd_ne (Ne.symm hbr4)];exact hb4)
   ·exact .inr (by simp[za.one,e])
  have hc:=zj.frame hd (h2 L hR br hbrH)
  rw[hun]
  refine zdH hc fun e H' ⟨A',hq,hd',hH'⟩=>?_
  subst hH'
  have hB4:za.one b4 x4 b4=some (.cells [.int .i64 0]):=by simp[za.one,hx4]
  have hA4:A' b4=none:=by
   rcases hd' b4 with h|h
   ·exact h
   ·rw[hB4] at h;cases h
  have g4:za.union A' (za.one b4 x4) b4=some (.cells [.int .i64 0]):=by simp[za.union,hA4,hB4]
  cases e with
  | pan v =>
   obtain⟨n,hv,ho⟩:=hq
   subst hv
   exact hpan n (za.one b4 x4) _ _ (Low.of_sub fun c x hc=>by
    rcases hd' c with h|h
    ·simp[za.union,h,hc]
    ·rw[hc] at h;cases h) hB4 rfl ho
  | ret v =>
   obtain⟨p,t,dp,hp,hr,ho⟩:=hq
   have gr:za.union A' (za.one b4 x4) br=some (prc L p dp):=by simp[za.union,hr]
   have lowA:∀ b x (Hx:za),(∀ c y,A' c=some y→Hx c=some y)→Hx b=none→Low A' ((Hx.upd b x).upd b4 (.cells [.int .i64 0]))∧Low A' ((Hx.upd b x).upd b4 (.cells [.int .i64 2])):=fun b x Hx hs hb=>by
    have sub:∀ z,∀ c y,A' c=some y→((Hx.upd b x).upd b4 z) c=some y:=fun z c y hcy=>by
     rw[upd_ne (fun e=>by rw[e,hA4] at hcy;cases hcy),upd_ne (fun e=>by rw[← e,hs _ _ hcy] at hb;cases hb)]
     exact hs _ _ hcy
    exact⟨Low.of_sub (sub _),Low.of_sub (sub _)⟩
   have subU:∀ c y,A' c=some y→za.union A' (za.one b4 x4) c=some y:=fun c y hc=>by simp[za.union,hc]
   show goR _ _ _ _ _ _ _ _ _
   simp(disch:=first|omega|assumption) only[go_sem]
   refine zK (zr8 hp gr) fun v5 H5 ⟨hv5,hH5⟩=>?_
   subst hv5;subst hH5
   cases t with
   | nil =>
    simp only[if_true] at ho
    simp(disch:=first|omega|assumption) only[g4,go_sem]
    refine hQ4 _ _ _ ⟨_,Low.refl _,zwm fun b y hb=>?_⟩
    have n4:b4≠b:=fun e=>by subst e;rw[upd_same] at hb;cases hb
    refine fin _ _ A' 0 rfl (by rw[upd_ne n4,upd_same]) ?_ ho
    refine Low.of_sub fun c z hcz=>?_
    have hc4:c≠b4:=fun e=>by rw[e,hA4] at hcz;cases hcz
    have hcb:c≠b:=fun e=>by rw[← e,upd_ne hc4,subU _ _ hcz] at hb;cases hb
    rw[upd_ne hcb,upd_ne hc4];exact subU _ _ hcz
   | cons a u =>
    rw[if_neg (by simp)] at ho
    simp(disch:=first|omega|assumption) only[go_sem]
    exact zp (zuE _ br 2) (fun _ _ h=>h.elim) fun v H6 ⟨h6,h7⟩=>by
     subst h6;subst h7
     exact hKP4 _ _ ⟨_,Low.refl _,zt8 g4 rfl fun b y hb=>fin _ _ A' 2 rfl (upd_same ..) (lowA b y _ subU hb).2 ho⟩
def zaq {α:Type} (f:TS→PR α):Prop:=∀ t n,f t=.error n→n≠0
theorem ya {α β:Type} {x:PR α} {f:α→TS→PR β} {e:Int} (h:pb x f=.error e) (hx:∀ n,x=.error n→n≠0) (hf:∀ a t,x=.ok (a,t)→f a t=.error e→e≠0):e≠0:=by
 rcases x with n|⟨a,t⟩
 ·cases h;exact hx _ rfl
 ·exact hf a t rfl h
theorem zdr (m:List UInt8):zaq (ZY m):=fun t n h=>by
 unfold ZY at h
 split at h
 ·cases h
 ·cases h;decide
theorem ZA:zaq yT:=fun t n h=>by
 unfold yT at h
 split at h
 ·cases h
 ·cases h;decide
theorem zhR (ty:TyD):zaq (zbM ty):=fun t n h=>by
 unfold zbM at h
 split at h<;>cases h
theorem zeN {α:Type} {m:List UInt8} {f:TS→PR α} (hf:zaq f) (hl:∀ t a t',f t=.ok (a,t')→t'.length<t.length):∀(n:Nat) (l:List α) (t:TS) (e:Int),t.length<n→yA m f n l t=.error e→e≠0
 | 0,_,_,_,h,_=>absurd h (Nat.not_lt_zero _)
 | n+1,l,t,e,hn,h=>by
  rw[yA] at h
  split at h
  ·cases h
  ·exact ya h (fun k hk=>hf _ _ hk) fun a t' ha h'=>zeN hf hl n _ _ _ (by have:=hl _ _ _ ha;omega) h'
theorem zfF {α:Type} {m:List UInt8} {f:TS→PR α} (hf:zaq f) (hl:∀ t a t',f t=.ok (a,t')→t'.length<t.length):zaq (zaA m f):=fun t n h =>
 ya h (fun k hk=>hf _ _ hk) fun a t' ha h'=>zeN hf hl _ _ _ _ (Nat.lt_succ_self _) h'
theorem zj1 {α:Type} {m:List UInt8} {f:TS→PR α} (hf:zaq f) (hl:∀ t a t',f t=.ok (a,t')→t'.length<t.length):∀(n:Nat) (l:List α) (t:TS) (e:Int),t.length<n→Yu m f n l t=.error e→e≠0
 | 0,_,_,_,h,_=>absurd h (Nat.not_lt_zero _)
 | n+1,l,t,e,hn,h=>by
  rw[Yu] at h
  split at h
  ·rename_i hp
   have hlt:=zki hp
   exact ya h (fun k hk=>hf _ _ hk) fun a t' ha h'=>zj1 hf hl n _ _ _ (by have:=hl _ _ _ ha;omega) h'
  ·cases h
theorem zoB:∀ k,zaq (zb1 k)
 | 0=>fun t n h=>by
  rw[YP,zeU.eq_def] at h
  split at h
  ·cases h;decide
  ·exact ya h (fun k hk=>ZA _ _ hk) fun s t1 _ h'=>zhR _ _ _ h'
 | k+1=>fun t n h=>by
  rw[YP,zeU.eq_def] at h
  split at h
  ·exact ya h (fun e he=>zoB k _ _ he) fun ty t1 _ h'=>ya h' (fun e he=>zdr _ _ _ he) fun _ t2 _ h''=>zhR _ _ _ h''
  ·exact ya h (fun k hk=>ZA _ _ hk) fun s t1 _ h'=>zhR _ _ _ h'
theorem zhm {f:TS→PR Val} (hf:zaq f):zaq (yP f):=fun t n h =>
 ya h (fun e he=>ZA _ _ he) fun s t1 _ h'=>ya h' (fun e he=>zdr _ _ _ he) fun _ t2 _ h2=>ya h2 (fun e he=>hf _ _ he) fun x t3 _ h3=>by cases h3
theorem zoD {fixed:Bool} {sub:Option (TS→PR Val)} (hs:∀ f,sub=some f→zaq f∧GP bV wfV 1 f):zaq (zaH fixed sub):=fun t n h=>by
 rw[zaH.eq_def] at h
 split at h
 ·cases h
 split at h
 ·cases h
 split at h
 ·cases h
 split at h
 ·cases sub with
  | none=>cases h;decide
  | some f =>
   obtain⟨h1,h2⟩:=hs f rfl
   exact ya h (fun e he=>zeN h1 (h2.lt (by decide)) _ _ _ _ (Nat.lt_succ_self _) he) fun l t' _ h'=>by cases h'
 split at h
 ·cases sub with
  | none=>cases h;decide
  | some f =>
   obtain⟨h1,h2⟩:=hs f rfl
   exact ya h (fun e he=>zeN (zhm h1) ((Z2 h2).lt (by decide)) _ _ _ _ (Nat.lt_succ_self _) he) fun l t' _ h'=>by cases h'
 split at h
 ·cases h;decide
 ·exact ya h (fun e he=>zdr _ _ _ he) fun _ t1 _ h1=>ya h1 (fun e he=>ZA _ _ he) fun s t2 _ h2=>by cases h2
theorem zkB (fixed:Bool):∀ k,zaq (Zq fixed k)
 | 0=>fun t n h=>zoD (sub:=none) (fun f hf=>by cases hf) t n (by rw[yX] at h;exact h)
 | k+1=>fun t n h=>zoD (sub:=some (Zq fixed k)) (fun f hf=>by cases hf;exact⟨zkB fixed k,YE fixed k⟩) t n (by rw[yX] at h;exact h)
theorem zlc (fixed:Bool) (k:Nat):zaq (Y0 fixed k):=fun t n h=>by
 unfold Y0 at h
 split at h
 ·exact zfF (zhm (zkB fixed k)) ((Z2 (YE fixed k)).lt (by decide)) _ _ h
 ·cases h
theorem ztp (fixed:Bool) (k:Nat):zaq (zfY fixed k):=fun t n h =>
 ya h (fun e he=>ZA _ _ he) fun s t1 _ h1=>ya h1 (fun e he=>zlc _ _ _ _ he) fun a t2 _ h2=>by cases h2
theorem zdz (fixed:Bool) (k:Nat):zaq (Yx fixed k):=fun t n h =>
 zj1 (ztp fixed k) ((zic fixed k).lt (by decide)) _ _ _ _ (Nat.lt_succ_self _) h
theorem znE {sels:TS→PR (List SelD)} (hs:zaq sels) (k:Nat):zaq (Zp sels k):=fun t n h=>by
 unfold Zp at h
 split at h
 ·exact ya h (fun e he=>ZA _ _ he) fun s t1 _ h1=>ya h1 (fun e he=>zdz _ _ _ _ he) fun a t2 _ h2=>by cases h2
 ·refine ya h (fun e he=>?_) fun o t1 _ h1=>ya h1 (fun e he=>zdz _ _ _ _ he) fun a t2 _ h2=>ya h2 (fun e he=>hs _ _ he) fun l t3 _ h3=>by cases h3
  split at he
  ·exact ZA _ _ he
  ·cases he
theorem ztl {sels:TS→PR (List SelD)} (hs:zaq sels) (k:Nat):zaq (zay sels k):=fun t n h=>by
 unfold zay at h
 split at h
 ·exact znE hs k _ _ h
 ·refine ya h (fun e he=>ZA _ _ he) fun s t1 _ h1=>ya h1 (fun e he=>?_) fun an t2 _ h2=>ya h2 (fun e he=>zlc _ _ _ _ he) fun a t3 _ h3=>ya h3 (fun e he=>zdz _ _ _ _ he) fun d t4 _ h4=>ya h4 (fun e he=>?_) fun l t5 _ h5=>by cases h5
  ·split at he
   ·exact ya he (fun e he=>ZA _ _ he) fun s t2 _ h2=>by cases h2
   ·cases he
  ·split at he
   ·exact hs _ _ he
   ·cases he
theorem zeK:∀ k,zaq (yo k)
 | 0=>fun t n h=>by
  rw[yo] at h
  split at h<;>(cases h;decide)
 | k+1=>fun t n h=>by
  rw[yo] at h
  split at h
  ·exact zfF (ztl (zeK k) k) ((zfq (Yb k)).lt (by decide)) _ _ h
  ·cases h;decide
theorem zs0:zaq zaX:=fun t n h =>
 ya h (fun e he=>zdr _ _ _ he) fun _ t1 _ h1=>ya h1 (fun e he=>ZA _ _ he) fun s t2 _ h2=>ya h2 (fun e he=>zdr _ _ _ he) fun _ t3 _ h3=>ya h3 (fun e he=>zoB 4 _ _ he) fun ty t4 _ h4=>by
  split at h4
  ·exact ya h4 (fun e he=>zkB true 16 _ _ he) fun v t5 _ h5=>by cases h5
  ·cases h4
theorem zqs (kind:Int):zaq (opP kind):=fun t n h=>by
 refine ya h (fun e he=>?_) fun s t1 _ h1=>ya h1 (fun e he=>?_) fun vs t2 _ h2=>ya h2 (fun e he=>zdz _ _ _ _ he) fun d t3 _ h3=>ya h3 (fun e he=>zeK 16 _ _ he) fun l t4 _ h4=>by cases h4
 ·split at he
  ·exact ZA _ _ he
  ·cases he
 ·split at he
  ·exact zfF zs0 (zb0.lt (by decide)) _ _ he
  ·cases he
theorem zsj:zaq zcG:=fun t n h=>by
 refine ya h (fun e he=>?_) fun s t1 _ h1=>ya h1 (fun e he=>?_) fun _ t2 _ h2=>ya h2 (fun e he=>ZA _ _ he) fun o t3 _ h3=>ya h3 (fun e he=>zdz _ _ _ _ he) fun d t4 _ h4=>ya h4 (fun e he=>zeK 16 _ _ he) fun l t5 _ h5=>by cases h5
 ·split at he
  ·cases he;decide
  ·exact ZA _ _ he
 ·split at he
  ·cases he
  ·cases he;decide
theorem zn4 (d:DocD):zaq (Yj d):=fun t n h=>by
 unfold Yj at h
 split at h
 ·exact ya h (fun e he=>zeK 16 _ _ he) fun l t1 _ h1=>by cases h1
 split at h
 ·exact ya h (fun e he=>zqs _ _ _ he) fun l t1 _ h1=>by cases h1
 split at h
 ·exact ya h (fun e he=>zqs _ _ _ he) fun l t1 _ h1=>by cases h1
 split at h
 ·exact ya h (fun e he=>zsj _ _ he) fun l t1 _ h1=>by cases h1
 ·cases h;decide
theorem zmt {d d' : DocD} {t t' : TS} (h : Yj d t = .ok (d', t')) : t'.length < t.length := by
  unfold Yj at h
  split at h
  · obtain ⟨l, t1, h1, h2⟩ := zq h
    cases h2; exact (Yb 16).lt (by decide) _ _ _ h1
  split at h
  · rename_i hq
    obtain ⟨l, t1, h1, h2⟩ := zq h
    have : t.tail.length < t.length := by conv => rhs; rw [zam (zc4 hq)]
                                          simp
    have h3 := (zfi 0).lt (by decide) _ _ _ h1
    cases h2; omega
  split at h
  · rename_i hq
    obtain ⟨l, t1, h1, h2⟩ := zq h
    have : t.tail.length < t.length := by conv => rhs; rw [zam (zc4 hq)]
                                          simp
    have h3 := (zfi 1).lt (by decide) _ _ _ h1
    cases h2; omega
  split at h
  · rename_i hq
    obtain ⟨l, t1, h1, h2⟩ := zq h
    have : t.tail.length < t.length := by conv => rhs; rw [zam (zc4 hq)]
                                          simp
    have h3 := zfE.lt (by decide) _ _ _ h1
    cases h2; omega
  · cases h
theorem zmy:∀(n:Nat) (d:DocD) (t:TS) (e:Int),t.length<n→Yk n d t=.error e→e≠0
 | 0,_,_,_,h,_=>absurd h (Nat.not_lt_zero _)
 | n+1,d,t,e,hn,h=>by
  rw[Yk] at h
  split at h
  ·cases h
  ·exact ya h (fun k hk=>zn4 _ _ _ hk) fun d' t' ha h'=>zmy n _ _ _ (by have:=zmt ha;omega) h'
theorem zsZ:zaq ze8:=fun t n h =>
 ya h (fun e he=>zn4 _ _ _ he) fun d t1 ha h1=>zmy _ _ _ _ (by have:=zmt ha;omega) h1
theorem zrf (p:List UInt8→Bool):∀ l:List (List UInt8),wL (l.dropWhile p)≤wL l
 | []=>Al4 _
 | x::r=>by
  rw[List.dropWhile_cons]
  split
  ·have:=zrf p r;rw[YY];omega
  ·exact Al4 _
theorem zqG (l:List (List UInt8)):wL l.reverse=wL l:=by
 induction l with
 | nil=>rfl
 | cons x r ih=>rw[List.reverse_cons,znD,ih,YY,YY];simp[wL];omega
theorem zno (raw:List UInt8):(Zm raw).length≤raw.length+1:=by
 have h1:=zdQ raw []
 have h2:wL (zcJ (yp raw))≤wL (yp raw):=by
  cases hx:yp raw with
  | nil=>exact Al4 _
  | cons x r =>
   simp only[zcJ]
   rw[YY,YY]
   have:=zka (indM (x::r)).toNat r
   omega
 unfold Zm zcO
 have h3:=zgY ((((zcJ (yp raw)).dropWhile yY).reverse.dropWhile yY).reverse)
 rw[zqG] at h3
 have h4:=zrf yY ((zcJ (yp raw)).dropWhile yY).reverse
 rw[zqG] at h4
 have h5:=zrf yY (zcJ (yp raw))
 have h6:wL (yp raw)≤raw.length+1:=by simpa[wL,yp] using h1
 omega
theorem zuI {s t:List UInt8} {x:Tok} (h:Zv s=some (x,t)):x.s.length+t.length≤s.length+1:=by
 cases s with
 | nil=>cases h
 | cons c r =>
  rw[zj7] at h
  split at h
  ·cases hr:Z6 (r.length+1) [] (r.drop 2) with
   | none=>rw[hr] at h;cases h
   | some y =>
    rw[hr] at h
    simp only[yU,Al1,Al8] at h
    obtain⟨rfl,rfl⟩:=h
    have h1:=(zhK _ _ _ _ _ (show Z6 _ _ _=some (y.1,y.2) from hr)).1
    have h2:=zno y.1
    simp at h1 ⊢
    omega
  split at h
  ·cases hr:YJ Zd r with
   | none=>rw[hr] at h;cases h
   | some y =>
    rw[hr] at h
    simp only[yU,Al1,Al8] at h
    obtain⟨rfl,rfl⟩:=h
    have h1:=zvm (show YJ Zd r=some (y.1,y.2) from hr)
    simp only[Al2]
    omega
  split at h
  ·rename_i hp
   have hl:=Yn _ _ hp
   have hd3:Z4.length=3:=rfl
   rw[hd3] at hl
   cases h;simp[hd3] at hl ⊢;omega
  split at h
  ·cases h;simp;omega
  split at h
  ·cases h;simp;omega
  split at h
  ·cases h
  split at h
  ·cases h
  ·cases h;simp;omega
theorem zkz:∀(n:Nat) (l:List Tok) (s:List UInt8) (l':List Tok),Z5 n l s=.ok l'→wT l'≤wT l+6*s.length
 | 0,_,_,_,h=>by cases h
 | n+1,l,s,l',h=>by
  simp only[Z5] at h
  split at h
  ·cases h;omega
  split at h
  ·have:=zkz n _ _ _ h
   simp at this;omega
  ·cases ho:Zv s with
   | none=>rw[ho] at h;cases h
   | some x =>
    rw[ho] at h
    have h1:=zeM (show Zv s=some (x.1,x.2) from ho)
    have h2:=zuI (show Zv s=some (x.1,x.2) from ho)
    have h3:=zkz n _ _ _ h
    have h4:wT (l++[x.1])=wT l+wK x.1:=by simp[wT]
    rw[h4,wK] at h3
    omega
theorem zod {s:List UInt8} {L:List Tok} (h:Ye s=.ok L):wT L≤yS:=by
 obtain⟨h1,_,h3⟩:=zln h
 have h4:=zkz _ _ _ _ h3
 have e:wT ([]:List Tok)=0:=rfl
 rw[e] at h4
 simp only[yS];omega
def zcW (s:List UInt8):DocD×Int:=match Ye s with
 | .error n=>(⟨[],[]⟩,n)
 | .ok L=>match ze8 L with
  | .error n=>(⟨[],[]⟩,n)
  | .ok (d,_)=>(d,0)
theorem zoU {s:List UInt8} {L:List Tok} {n:Int} (h:Ye s=.ok L) (he:ze8 L=.error n):n≠0:=zsZ _ _ he
theorem zvB {b4 b6:Nat} {x y:AObj} (h:b6≠b4):(za.emp.upd b4 x).upd b6 y=za.union (za.one b6 y) (za.one b4 x):=by
 funext c
 by_cases e1:c=b6
 ·subst e1;simp[za.union,za.upd,za.one]
 ·by_cases e2:c=b4
  ·subst e2;simp[za.union,za.upd,za.one,e1]
  ·simp[za.union,za.upd,za.one,e1,e2,za.emp]
theorem zs4 {b4 b6:Nat} {x y:AObj} (h:b6≠b4):za.Disj (za.one b6 y) (za.one b4 x):=fun c=>by
 by_cases e:c=b4
 ·subst e;exact .inl (by simp[za.one,Ne.symm h])
 ·exact .inr (by simp[za.one,e])
theorem zwk {A:za} {b4:Nat} {x:AObj} (h:za.Disj A (za.one b4 x)):za.union A (za.one b4 x) b4=some x:=by
 have hB:za.one b4 x b4=some x:=by simp[za.one]
 rcases h b4 with h|h
 ·simp[za.union,h,hB]
 ·rw[hB] at h;cases h
theorem zw8 {A B:za} {b:Nat} {x:AObj} (h:A b=some x):za.union A B b=some x:=by simp[za.union,h]
abbrev znn:List AV:=[.sl .nil 5 [],.sl .nil 4 []]
def zsp (s:List UInt8) (b:Nat) (n:Int) (H:za):Prop:=(n≠0∧zcW s=(⟨[],[]⟩,n))∨(n=0∧∃ d o1 o2,zcW s=(d,0)∧H b=some (.cells [.sl o1 5 (cOs d.ops),.sl o2 4 (cFs d.frags)]))
theorem zte {s:List UInt8} {L:List Tok} (hR:Ye s=.ok L) {Hc:za} {b6 r:Nat} (h6:Hc b6=some (.cells znn)) (hr:Hc r=none) :
  zj Tryz.prog 90 [.ptr r 0,.ptr b6 0] (Hc.upd r (prc L [] 0)) (fun e H'=>match e with
   | .ret _=>∃ p t dp,p++t=L∧H' r=some (prc L p dp)∧zsp s b6 (if t=[] then 0 else 2) H'
   | .pan v=>∃ n,v=Zj n∧∀ H,zsp s b6 n H):=by
 refine zj.goO (R:=fun _ H'=>∃ p t dp,p++t=L∧H' r=some (prc L p dp)∧zsp s b6 (if t=[] then 0 else 2) H') (RP:=fun v _=>∃ n,v=Zj n∧∀ H,zsp s b6 n H) ir90 ck90 (Al4 _) fun KP Q hQ hP=>?_
 have n6:b6≠r:=fun e=>by subst e;rw[hr] at h6;cases h6
 have hw:=zod hR
 have pan:∀(v:AV) (H1:za) (n:Int),v=Zj n→ze8 L=.error n→KP v H1:=fun v H1 n h1 h2=>hP v H1 H1 (Low.refl _) ⟨n,h1,fun H=>.inl ⟨zoU hR h2,by unfold zcW;rw[hR];simp only[h2]⟩⟩
 have D0:DI L r b6 (Hc.upd r (prc L [] 0)) L ⟨[],[]⟩ .nil .nil:=⟨⟨[],rfl,upd_same ..⟩,by rw[upd_ne n6];exact h6,rfl,rfl,nofun,n6⟩
 simp(disch:=first|omega|assumption) only[ir90,go_sem]
 refine zdH (zui D0 hw (Nat.zero_le _)) fun e H1 hq=>?_
 cases e with
 | pan v =>
  obtain⟨n,hv,he⟩:=hq
  exact pan v H1 n hv (by unfold ze8;rw[he];rfl)
 | ret v =>
  obtain⟨d1,t1,o1,o2,e1,hv,D1,hl1,hlt1⟩:=hq
  subst hv
  obtain⟨R,hRR⟩:∃ R,Yk (L.length+1-0) d1 t1=R:=⟨_,rfl⟩
  have hx:ze8 L=Yk (t1.length+1) d1 t1:=by unfold ze8;rw[e1];rfl
  obtain⟨R,hRR⟩:∃ R,Yk (t1.length+1) d1 t1=R:=⟨_,rfl⟩
  rw[hRR] at hx
  show goR _ _ _ _ _ _ _ _ _
  simp(disch:=first|omega|assumption) only[go_sem]
  refine yK (fun x:DocD×TS×Own×Own=>[]) (fun x H'=>DI L r b6 H' x.2.1 x.1 x.2.2.1 x.2.2.2∧(∃ m,x.2.1.length<m∧Yk m x.1 x.2.1=R)∧x.1.ops.length+x.1.frags.length+x.2.1.length≤L.length) (fun x=>x.2.1.length) (d1,t1,o1,o2) (by simp(disch:=first|omega|assumption) only[go_sem]) ⟨D1,⟨_,Nat.lt_succ_self _,hRR⟩,by simpa using hl1⟩ ?_
  rintro⟨d,t,p1,p2⟩ H2 J ⟨D2,⟨m,hm,hR2⟩,hlen⟩ hJ
  simp only at D2 hm hR2 hlen
  obtain⟨m,rfl⟩:∃ j,m=j+1:=⟨m-1,by omega⟩
  obtain⟨q,hq,hr2⟩:=D2.rd
  rw[Yk] at hR2
  simp(disch:=first|omega|assumption) only[go_sem]
  refine zK (zr8 hq hr2) fun v3 H3 ⟨hv3,hH3⟩=>?_
  subst hv3;subst hH3
  by_cases ht:t=[]
  ·rw[if_pos ht] at hR2
   have hd:decide (t≠[])=false:=by simp[ht]
   rw[hd]
   simp(disch:=first|omega|assumption) only[go_sem]
   refine hQ _ _ _ _ [] nofun rfl (Low.refl _) ⟨q,t,16-16,hq,hr2,?_⟩
   rw[if_pos ht]
   exact .inr ⟨rfl,d,p1,p2,by unfold zcW;rw[hR];simp only[hx,← hR2],D2.box⟩
  ·rw[if_neg ht] at hR2
   have hd:decide (t≠[])=true:=by simp[ht]
   rw[hd]
   simp(disch:=first|omega|assumption) only[go_sem]
   refine zdH (zui D2 hw (by omega)) fun e H4 hq4=>?_
   cases e with
   | pan v =>
    obtain⟨n,hv,he⟩:=hq4
    exact pan v H4 n hv (by rw[hx,← hR2,he];rfl)
   | ret v =>
    obtain⟨d4,t4,o3,o4,e4,hv,D4,hl4,hlt4⟩:=hq4
    subst hv
    rw[e4,zF] at hR2
    show goR _ _ _ _ _ _ _ _ _
    simp(disch:=first|omega|assumption) only[go_sem]
    exact goJ (hJ (d4,t4,o3,o4) _ (by simp only;omega) ⟨D4,⟨m,by simp only;omega,hR2⟩,by simp only;omega⟩) (by simp(disch:=first|omega|assumption) only[go_sem])
theorem zhc (s:List UInt8) (hl:s.length≤zbH):zu Tryz.prog 40 [.str s] (.tup [.agg (zdv (zcW s).1),.int .i64 (zcW s).2]):=by
 refine zu.go ir40 ck40 (Al4 _) fun KP Q hQ=>?_
 simp(disch:=first|omega|assumption) only[ir40,go_sem]
 refine zm fun b4 hb4=>?_
 simp(disch:=first|omega|assumption) only[go_sem]
 refine zm fun b6 hb6=>?_
 have h64:b6≠b4:=fun e=>by subst e;rw[upd_same] at hb6;cases hb6
 have h6c:(za.one b6 (.cells znn)) b6=some (.cells znn):=by simp[za.one]
 have hc:=zj.frame (zs4 (x:=.cells znn) h64) (zvW (s:=s) (Hc:=za.one b6 (.cells znn)) (clo:=90) (caps:=[.ptr b6 0]) hl (by decide +kernel) (zsp s b6)
  (fun n h=>.inl ⟨zf1 h,by unfold zcW;rw[h]⟩) (fun L hR r hr=>zte hR h6c hr))
 rw[← zvB h64] at hc
 simp(disch:=first|omega|assumption) only[go_sem]
 refine zdH hc fun e H' ⟨A',hq,hd',hH'⟩=>?_
 subst hH'
 cases e with
 | pan v=>exact hq.elim
 | ret v =>
  obtain⟨n,hv,ho⟩:=hq
  subst hv
  have g4:=zwk hd'
  simp only[znn] at g4
  show goR _ _ _ _ _ _ _ _ _
  rcases ho with ⟨hn,he⟩|⟨hn,x,o1,o2,he,h6⟩
  ·rw[he] at hQ
   simp(disch:=first|omega|assumption) only[hn,g4,go_sem]
   exact hQ _ _ _ [.agg [.sl .nil 5 [],.sl .nil 4 []],.int .i64 n] nofun (by simp(disch:=first|omega|assumption) only[ir40,zP,yR,go_sem]) (by simp[zc,AV.strip,AV.strip1,zdv,cOs,cFs])
  ·subst hn
   rw[he] at hQ
   have g6:=zw8 (B:=za.one b4 (.cells znn)) h6
   simp(disch:=first|omega|assumption) only[g4,g6,go_sem]
   exact hQ _ _ _ [.agg [.sl o1 5 (cOs x.ops),.sl o2 4 (cFs x.frags)],.int .i64 0] nofun (by simp(disch:=first|omega|assumption) only[ir40,zP,yR,go_sem]) (by simp[zc,AV.strip,AV.strip1,zdv])
end Go.Proofs.YticbbfbpeimkbaaGreatDoor

namespace Go.Proofs.YticbbfbpeimkbaaGreatDoor
open Go.Ab
theorem zfH (a b:List DirD) (ha:bDs a≤Lim):zu Tryz.prog 153 [.sl .no 2 (cDs a),.sl .no 2 (cDs b)] (.bool (eqd a b)):=by
 refine zu.go ir153 ck153 (Al4 _) fun KP Q hQ=>?_
 have h1:=zgX a
 have h2:=zgX b
 have hla:=zoy a
 simp only[Lim] at ha
 by_cases hl:a.length=b.length
 case neg =>
  have hl':¬ ((a.length:Int)=b.length):=by omega
  have hne:a≠b:=fun e=>hl (by rw[e])
  simp(disch:=first|omega|assumption) only[ir153,h1,h2,hl',go_sem]
  exact hQ _ _ _ _ nofun rfl (by simp[zc,zf,AV.strip,AV.strip1,zn hne])
 have hl':((a.length:Int)=b.length)=True:=eq_true (by omega)
 simp(disch:=first|omega|assumption) only[ir153,h1,h2,hl',go_sem]
 refine zG a 5 (fun _:Unit=>[]) (fun done rest n H=>b.take done.length=done) () (by simp(disch:=first|omega|assumption) only[go_sem]) rfl ?_ ?_
 ·rintro n H J hp hlt
  simp(disch:=first|omega|assumption) only[h1,hlt,go_sem]
  exact hQ _ _ _ _ nofun rfl (by simp[zc,zf,AV.strip,AV.strip1,yb (zaU hl hp)])
 ·rintro done x rest n H J hd hlt _ hp hJ
  obtain⟨y,r,hb⟩:=zaS hd hl hp
  have g1:=zkf hd
  have g2:=zkf hb
  have hlt2:(done.length:Int)<b.length:=by omega
  have hbm:=zoG done x rest
  rw[← hd] at hbm
  have hst:=YF hb
  have hne:x≠y→a≠b:=zcw hd hb
  obtain⟨s,v⟩:=x
  obtain⟨t,u⟩:=y
  simp only[bD] at hbm
  by_cases hs:s=t
  case neg =>
   have hne2:=hne (by simp[hs])
   simp(disch:=first|omega|assumption) only[h1,h2,hlt,hlt2,g1,g2,hs,cD,go_sem]
   exact hQ _ _ _ _ nofun rfl (by simp[zc,zf,AV.strip,AV.strip1,zn hne2])
  simp(disch:=first|omega|assumption) only[h1,h2,hlt,hlt2,g1,g2,hs,cD,go_sem]
  refine zb (zk9 v u (by simp only[Lim];omega)) ?_
  by_cases hv:v=u
  ·simp(disch:=first|omega|assumption) only[yb hv,go_sem]
   exact goJ (hJ () _ (by rw[hs,hv];exact hst)) (by simp(disch:=first|omega|assumption) only[wrap64,go_sem])
  ·have:=hne (by simp[hv])
   simp(disch:=first|omega|assumption) only[zn hv,go_sem]
   exact hQ _ _ _ _ nofun rfl (by simp[zc,zf,AV.strip,AV.strip1,zn this])
theorem zpM:∀ n:Nat,∀ a b:List SelD,bSs a≤n→n≤Lim→zu Tryz.prog 154 [.sl .no 7 (cSs a),.sl .no 7 (cSs b)] (.bool (eqd a b)):=by
 intro n
 induction n using Nat.strongRecOn with
 | _ n ih =>
 intro a b hn hN
 refine zu.go ir154 ck154 (Al4 _) fun KP Q hQ=>?_
 have h1:=zdG a
 have h2:=zdG b
 have hla:=zkS a
 have hN':=hN
 simp only[Lim] at hN'
 by_cases hl:a.length=b.length
 case neg =>
  have hl':¬ ((a.length:Int)=b.length):=by omega
  have hne:a≠b:=fun e=>hl (by rw[e])
  simp(disch:=first|omega|assumption) only[ir154,h1,h2,hl',go_sem]
  exact hQ _ _ _ _ nofun rfl (by simp[zc,zf,AV.strip,AV.strip1,zn hne])
 have hl':((a.length:Int)=b.length)=True:=eq_true (by omega)
 simp(disch:=first|omega|assumption) only[ir154,h1,h2,hl',go_sem]
 refine zG a 5 (fun _:Unit=>[]) (fun done rest n H=>b.take done.length=done) () (by simp(disch:=first|omega|assumption) only[go_sem]) rfl ?_ ?_
 ·rintro n H J hp hlt
  simp(disch:=first|omega|assumption) only[h1,hlt,go_sem]
  exact hQ _ _ _ _ nofun rfl (by simp[zc,zf,AV.strip,AV.strip1,yb (zaU hl hp)])
 ·rintro done x rest _ H J hd hlt _ hp hJ
  obtain⟨y,r,hb⟩:=zaS hd hl hp
  have g1:=zfl hd
  have g2:=zfl hb
  have hlt2:(done.length:Int)<b.length:=by omega
  have hbm:=zgZ done x rest
  rw[← hd] at hbm
  have hst:=YF hb
  have hne:x≠y→a≠b:=zcw hd hb
  obtain⟨k,al,nm,args,dirs,on,sels⟩:=x
  obtain⟨k',al',nm',args',dirs',on',sels'⟩:=y
  simp only[bS] at hbm
  rw[zaP] at g1 g2
  simp(disch:=first|omega|assumption) only[h1,h2,hlt,hlt2,g1,g2,go_sem]
  refine zm fun b6 hb6=>?_
  simp(disch:=first|omega|assumption) only[h1,h2,hlt,hlt2,g1,g2,go_sem]
  refine zm fun b7 hb7=>?_
  have n76:b7≠b6:=fun e=>by subst e;rw[upd_same] at hb7;cases hb7
  have n67:=Ne.symm n76
  simp(disch:=first|omega|assumption) only[h1,h2,hlt,hlt2,g1,g2,n67,n76,go_sem]
  by_cases e1:k=k'
  case neg =>
   have hne2:=hne (by simp[e1])
   simp(disch:=first|omega|assumption) only[e1,n67,n76,go_sem]
   exact hQ _ _ _ _ nofun rfl (by simp[zc,zf,AV.strip,AV.strip1,zn hne2])
  by_cases e2:al=al'
  case neg =>
   have hne2:=hne (by simp[e2])
   simp(disch:=first|omega|assumption) only[e1,e2,n67,n76,go_sem]
   exact hQ _ _ _ _ nofun rfl (by simp[zc,zf,AV.strip,AV.strip1,zn hne2])
  by_cases e3:nm=nm'
  case neg =>
   have hne2:=hne (by simp[e3])
   simp(disch:=first|omega|assumption) only[e1,e2,e3,n67,n76,go_sem]
   exact hQ _ _ _ _ nofun rfl (by simp[zc,zf,AV.strip,AV.strip1,zn hne2])
  by_cases e4:on=on'
  case neg =>
   have hne2:=hne (by simp[e4])
   simp(disch:=first|omega|assumption) only[e1,e2,e3,e4,n67,n76,go_sem]
   exact hQ _ _ _ _ nofun rfl (by simp[zc,zf,AV.strip,AV.strip1,zn hne2])
  simp(disch:=first|omega|assumption) only[e1,e2,e3,e4,n67,n76,go_sem]
  refine zb (zk9 args args' (by omega)) ?_
  by_cases e5:args=args'
  case neg =>
   have hne2:=hne (by simp[e5])
   simp(disch:=first|omega|assumption) only[zn e5,n67,n76,go_sem]
   exact hQ _ _ _ _ nofun rfl (by simp[zc,zf,AV.strip,AV.strip1,zn hne2])
  simp(disch:=first|omega|assumption) only[yb e5,n67,n76,go_sem]
  refine zb (zfH dirs dirs' (by omega)) ?_
  by_cases e6:dirs=dirs'
  case neg =>
   have hne2:=hne (by simp[e6])
   simp(disch:=first|omega|assumption) only[zn e6,n67,n76,go_sem]
   exact hQ _ _ _ _ nofun rfl (by simp[zc,zf,AV.strip,AV.strip1,zn hne2])
  simp(disch:=first|omega|assumption) only[yb e6,n67,n76,go_sem]
  refine zb (ih (bSs sels) (by omega) sels sels' (Al4 _) (by omega)) ?_
  by_cases e7:sels=sels'
  case neg =>
   have hne2:=hne (by simp[e7])
   simp(disch:=first|omega|assumption) only[zn e7,n67,n76,go_sem]
   exact hQ _ _ _ _ nofun rfl (by simp[zc,zf,AV.strip,AV.strip1,zn hne2])
  simp(disch:=first|omega|assumption) only[yb e7,n67,n76,go_sem]
  exact goJ (hJ () _ (by rw[e1,e2,e3,e4,e5,e6,e7];exact hst)) (by simp(disch:=first|omega|assumption) only[wrap64,go_sem])
theorem zja (a b:List SelD) (ha:bSs a≤Lim):zu Tryz.prog 154 [.sl .no 7 (cSs a),.sl .no 7 (cSs b)] (.bool (eqd a b)):=zpM (bSs a) a b (Al4 _) ha
theorem zs6 (a b:OpD) (ha:bO a≤Lim):zu Tryz.prog 85 [.agg (cO a),.agg (cO b)] (.bool (eqd a b)):=by
 refine zu.go ir85 ck85 (Al4 _) fun KP Q hQ=>?_
 obtain⟨k,nm,vars,dirs,sels⟩:=a
 obtain⟨k',nm',vars',dirs',sels'⟩:=b
 simp only[bO] at ha
 have h1:=zfj vars
 have h2:=zfj vars'
 have hla:=zof vars
 have ha':=ha
 simp only[Lim] at ha'
 simp(disch:=first|omega|assumption) only[ir85,cO,go_sem]
 by_cases e1:k=k'
 case neg =>
  have hne:OpD.mk k nm vars dirs sels≠OpD.mk k' nm' vars' dirs' sels':=by simp[e1]
  simp(disch:=first|omega|assumption) only[e1,go_sem]
  exact hQ _ _ _ _ nofun rfl (by simp[zc,zf,AV.strip,AV.strip1,zn hne])
 by_cases e2:nm=nm'
 case neg =>
  have hne:OpD.mk k nm vars dirs sels≠OpD.mk k' nm' vars' dirs' sels':=by simp[e2]
  simp(disch:=first|omega|assumption) only[e1,e2,go_sem]
  exact hQ _ _ _ _ nofun rfl (by simp[zc,zf,AV.strip,AV.strip1,zn hne])
 by_cases hl:vars.length=vars'.length
 case neg =>
  have hl':¬ ((vars.length:Int)=vars'.length):=by omega
  have hne:OpD.mk k nm vars dirs sels≠OpD.mk k' nm' vars' dirs' sels':=fun e=>hl (by rw[(OpD.mk.inj e).2.2.1])
  simp(disch:=first|omega|assumption) only[e1,e2,h1,h2,hl',go_sem]
  exact hQ _ _ _ _ nofun rfl (by simp[zc,zf,AV.strip,AV.strip1,zn hne])
 have hl':((vars.length:Int)=vars'.length)=True:=eq_true (by omega)
 simp(disch:=first|omega|assumption) only[e1,e2,h1,h2,hl',go_sem]
 refine zb (zfH dirs dirs' (by omega)) ?_
 by_cases e3:dirs=dirs'
 case neg =>
  have hne:OpD.mk k nm vars dirs sels≠OpD.mk k' nm' vars' dirs' sels':=by simp[e3]
  simp(disch:=first|omega|assumption) only[zn e3,go_sem]
  exact hQ _ _ _ _ nofun rfl (by simp[zc,zf,AV.strip,AV.strip1,zn hne])
 simp(disch:=first|omega|assumption) only[yb e3,go_sem]
 refine zb (zja sels sels' (by omega)) ?_
 by_cases e4:sels=sels'
 case neg =>
  have hne:OpD.mk k nm vars dirs sels≠OpD.mk k' nm' vars' dirs' sels':=by simp[e4]
  simp(disch:=first|omega|assumption) only[zn e4,go_sem]
  exact hQ _ _ _ _ nofun rfl (by simp[zc,zf,AV.strip,AV.strip1,zn hne])
 simp(disch:=first|omega|assumption) only[yb e4,go_sem]
 refine zG vars 5 (fun _:Unit=>[]) (fun done rest n H=>vars'.take done.length=done) () (by simp(disch:=first|omega|assumption) only[go_sem]) rfl ?_ ?_
 ·rintro n H J hp hlt
  have e5:=zaU hl hp
  simp(disch:=first|omega|assumption) only[h1,hlt,go_sem]
  have heq:OpD.mk k nm vars dirs sels=OpD.mk k' nm' vars' dirs' sels':=by rw[e1,e2,e3,e4,e5]
  exact hQ _ _ _ _ nofun rfl (by simp[zc,zf,AV.strip,AV.strip1,yb heq])
 ·rintro done x rest _ H J hd hlt _ hp hJ
  obtain⟨y,r,hb⟩:=zaS hd hl hp
  have g1:=zbz hd
  have g2:=zbz hb
  have hlt2:(done.length:Int)<vars'.length:=by omega
  have hbm:=zb7 done x rest
  rw[← hd] at hbm
  have hst:=YF hb
  have hne0:x≠y→vars≠vars':=zcw hd hb
  have hne:x≠y→OpD.mk k nm vars dirs sels≠OpD.mk k' nm' vars' dirs' sels':=fun h e=>hne0 h (OpD.mk.inj e).2.2.1
  obtain⟨vn,⟨tn,tl,tm⟩,vh,vd⟩:=x
  obtain⟨vn',⟨tn',tl',tm'⟩,vh',vd'⟩:=y
  simp only[bW] at hbm
  obtain⟨dk,dn,ds,dl,dm⟩:=vd
  obtain⟨dk',dn',ds',dl',dm'⟩:=vd'
  rw[ze2,Zb] at g1 g2
  simp only at g1 g2
  simp(disch:=first|omega|assumption) only[h1,h2,hlt,hlt2,g1,g2,go_sem]
  refine zm fun b6 hb6=>?_
  simp(disch:=first|omega|assumption) only[h1,h2,hlt,hlt2,g1,g2,go_sem]
  refine zm fun b7 hb7=>?_
  have n76:b7≠b6:=fun e=>by subst e;rw[upd_same] at hb7;cases hb7
  have n67:=Ne.symm n76
  simp(disch:=first|omega|assumption) only[h1,h2,hlt,hlt2,g1,g2,n67,n76,go_sem]
  by_cases f1:vn=vn'
  case neg =>
   have hne2:=hne (by simp[f1])
   simp(disch:=first|omega|assumption) only[f1,n67,n76,go_sem]
   exact hQ _ _ _ _ nofun rfl (by simp[zc,zf,AV.strip,AV.strip1,zn hne2])
  by_cases f3:tn=tn'
  case neg =>
   have hne2:=hne (by simp[f3])
   simp(disch:=first|omega|assumption) only[f1,f3,n67,n76,yn,K1.fits,zco,AV.keq1,Bool.and_true,Bool.true_and,Bool.and_false,Bool.false_and,decide_true,decide_false,go_sem]
   exact hQ _ _ _ _ nofun rfl (by simp[zc,zf,AV.strip,AV.strip1,zn hne2])
  by_cases f4:tl=tl'
  case neg =>
   have hne2:=hne (by simp[f4])
   simp(disch:=first|omega|assumption) only[f1,f3,f4,n67,n76,yn,K1.fits,zco,AV.keq1,Bool.and_true,Bool.true_and,Bool.and_false,Bool.false_and,decide_true,decide_false,go_sem]
   exact hQ _ _ _ _ nofun rfl (by simp[zc,zf,AV.strip,AV.strip1,zn hne2])
  by_cases f5:tm=tm'
  case neg =>
   have hne2:=hne (by simp[f5])
   simp(disch:=first|omega|assumption) only[f1,f3,f4,f5,n67,n76,yn,K1.fits,zco,AV.keq1,Bool.and_true,Bool.true_and,Bool.and_false,Bool.false_and,decide_true,decide_false,go_sem]
   exact hQ _ _ _ _ nofun rfl (by simp[zc,zf,AV.strip,AV.strip1,zn hne2])
  have q1:(false==true)=false:=rfl
  have q2:(true==false)=false:=rfl
  have q3:(true==true)=true:=rfl
  have q4:(false==false)=true:=rfl
  by_cases f6:vh=vh'
  case neg =>
   have hne2:=hne (by simp[f6])
   cases vh<;>cases vh'<;>first|exact absurd rfl f6|skip
   all_goals
    simp(disch:=first|omega|assumption) only[f1,f3,f4,f5,n67,n76,q1,q2,q3,q4,Bool.not_true,Bool.not_false,yn,K1.fits,zco,AV.keq1,Bool.and_true,Bool.true_and,Bool.and_false,Bool.false_and,decide_true,decide_false,go_sem]
    exact hQ _ _ _ _ nofun rfl (by simp[zc,zf,AV.strip,AV.strip1,zn hne2])
  subst f6
  cases vh
  all_goals
   simp(disch:=first|omega|assumption) only[f1,f3,f4,f5,n67,n76,q1,q2,q3,q4,Bool.not_true,Bool.not_false,yn,K1.fits,zco,AV.keq1,Bool.and_true,Bool.true_and,Bool.and_false,Bool.false_and,decide_true,decide_false,go_sem]
   refine zb (zuy (.mk dk dn ds dl dm) (by omega) (.mk dk' dn' ds' dl' dm')) ?_
   by_cases f7:Val.mk dk dn ds dl dm=.mk dk' dn' ds' dl' dm'
   case neg =>
    have hne2:=hne (fun e=>f7 (VarD.mk.inj e).2.2.2)
    simp(disch:=first|omega|assumption) only[zn f7,go_sem]
    exact hQ _ _ _ _ nofun rfl (by simp[zc,zf,AV.strip,AV.strip1,zn hne2])
   simp(disch:=first|omega|assumption) only[yb f7,go_sem]
   exact goJ (hJ () _ (by rw[f1,f3,f4,f5,f7];exact hst)) (by simp(disch:=first|omega|assumption) only[wrap64,go_sem])
theorem zpC (a b:FragD) (ha:bF a≤Lim):zu Tryz.prog 86 [.agg (cF a),.agg (cF b)] (.bool (eqd a b)):=by
 refine zu.go ir86 ck86 (Al4 _) fun KP Q hQ=>?_
 obtain⟨nm,on,dirs,sels⟩:=a
 obtain⟨nm',on',dirs',sels'⟩:=b
 simp only[bF] at ha
 have ha':=ha
 simp only[Lim] at ha'
 simp(disch:=first|omega|assumption) only[ir86,cF,go_sem]
 by_cases e1:nm=nm'
 case neg =>
  have hne:FragD.mk nm on dirs sels≠FragD.mk nm' on' dirs' sels':=by simp[e1]
  simp(disch:=first|omega|assumption) only[e1,go_sem]
  exact hQ _ _ _ _ nofun rfl (by simp[zc,zf,AV.strip,AV.strip1,zn hne])
 by_cases e2:on=on'
 case neg =>
  have hne:FragD.mk nm on dirs sels≠FragD.mk nm' on' dirs' sels':=by simp[e2]
  simp(disch:=first|omega|assumption) only[e1,e2,go_sem]
  exact hQ _ _ _ _ nofun rfl (by simp[zc,zf,AV.strip,AV.strip1,zn hne])
 simp(disch:=first|omega|assumption) only[e1,e2,go_sem]
 refine zb (zfH dirs dirs' (by omega)) ?_
 by_cases e3:dirs=dirs'
 case neg =>
  have hne:FragD.mk nm on dirs sels≠FragD.mk nm' on' dirs' sels':=by simp[e3]
  simp(disch:=first|omega|assumption) only[zn e3,go_sem]
  exact hQ _ _ _ _ nofun rfl (by simp[zc,zf,AV.strip,AV.strip1,zn hne])
 simp(disch:=first|omega|assumption) only[yb e3,go_sem]
 refine zb (zja sels sels' (by omega)) ?_
 by_cases e4:sels=sels'
 case neg =>
  have hne:FragD.mk nm on dirs sels≠FragD.mk nm' on' dirs' sels':=by simp[e4]
  simp(disch:=first|omega|assumption) only[zn e4,go_sem]
  exact hQ _ _ _ _ nofun rfl (by simp[zc,zf,AV.strip,AV.strip1,zn hne])
 have heq:FragD.mk nm on dirs sels=FragD.mk nm' on' dirs' sels':=by rw[e1,e2,e3,e4]
 simp(disch:=first|omega|assumption) only[yb e4,go_sem]
 exact hQ _ _ _ _ nofun rfl (by simp[zc,zf,AV.strip,AV.strip1,yb heq])
theorem zq1 (a b:DocD) (ha:zbk a≤Lim):zu Tryz.prog 34 [.agg (zdv a),.agg (zdv b)] (.bool (eqd a b)):=by
 refine zu.go ir34 ck34 (Al4 _) fun KP Q hQ=>?_
 obtain⟨ops,frags⟩:=a
 obtain⟨ops',frags'⟩:=b
 simp only[zbk] at ha
 have h1:=zgT ops
 have h2:=zgT ops'
 have h3:=zg5 frags
 have h4:=zg5 frags'
 have hla:=zo7 ops
 have hlb:=zop frags
 have ha':=ha
 simp only[Lim] at ha'
 have ea:zdv ⟨ops,frags⟩=[.sl .no 5 (cOs ops),.sl .no 4 (cFs frags)]:=rfl
 have eb:zdv ⟨ops',frags'⟩=[.sl .no 5 (cOs ops'),.sl .no 4 (cFs frags')]:=rfl
 rw[ea,eb]
 by_cases hl:ops.length=ops'.length
 case neg =>
  have hl':¬ ((ops.length:Int)=ops'.length):=by omega
  have hne:DocD.mk ops frags≠DocD.mk ops' frags':=fun e=>hl (by rw[(DocD.mk.inj e).1])
  simp(disch:=first|omega|assumption) only[ir34,h1,h2,hl',go_sem]
  exact hQ _ _ _ _ nofun rfl (by simp[zc,zf,AV.strip,AV.strip1,zn hne])
 have hl':((ops.length:Int)=ops'.length)=True:=eq_true (by omega)
 by_cases hk:frags.length=frags'.length
 case neg =>
  have hk':¬ ((frags.length:Int)=frags'.length):=by omega
  have hne:DocD.mk ops frags≠DocD.mk ops' frags':=fun e=>hk (by rw[(DocD.mk.inj e).2])
  simp(disch:=first|omega|assumption) only[ir34,h1,h2,hl',h3,h4,hk',go_sem]
  exact hQ _ _ _ _ nofun rfl (by simp[zc,zf,AV.strip,AV.strip1,zn hne])
 have hk':((frags.length:Int)=frags'.length)=True:=eq_true (by omega)
 simp(disch:=first|omega|assumption) only[ir34,h1,h2,hl',h3,h4,hk',go_sem]
 refine zG ops 5 (fun _:Unit=>[]) (fun done rest n H=>ops'.take done.length=done) () (by simp(disch:=first|omega|assumption) only[go_sem]) rfl ?_ ?_
 ·rintro n H J hp hlt
  have e5:=zaU hl hp
  simp(disch:=first|omega|assumption) only[h1,hlt,go_sem]
  refine zG frags 6 (fun _:Unit=>[]) (fun done rest n H=>frags'.take done.length=done) () (by simp(disch:=first|omega|assumption) only[go_sem]) rfl ?_ ?_
  ·rintro n H J hp hlt
   have e6:=zaU hk hp
   have heq:DocD.mk ops frags=DocD.mk ops' frags':=by rw[e5,e6]
   simp(disch:=first|omega|assumption) only[h3,hlt,go_sem]
   exact hQ _ _ _ _ nofun rfl (by simp[zc,zf,AV.strip,AV.strip1,yb heq])
  ·rintro done x rest _ H J hd hlt _ hp hJ
   obtain⟨y,r,hb⟩:=zaS hd hk hp
   have g1:=zkt hd
   have g2:=zkt hb
   have hlt2:(done.length:Int)<frags'.length:=by omega
   have hbm:=zoM done x rest
   rw[← hd] at hbm
   have hst:=YF hb
   have hne0:x≠y→frags≠frags':=zcw hd hb
   have hne:x≠y→DocD.mk ops frags≠DocD.mk ops' frags':=fun e e2=>hne0 e (DocD.mk.inj e2).2
   have hS:=zpC x y (by simp only[Lim];omega)
   obtain⟨nm,on,dirs,sels⟩:=x
   obtain⟨nm',on',dirs',sels'⟩:=y
   have ex:cF ⟨nm,on,dirs,sels⟩=[.str nm,.str on,.sl .no 2 (cDs dirs),.sl .no 7 (cSs sels)]:=rfl
   have ey:cF ⟨nm',on',dirs',sels'⟩=[.str nm',.str on',.sl .no 2 (cDs dirs'),.sl .no 7 (cSs sels')]:=rfl
   rw[ex] at g1 hS
   rw[ey] at g2 hS
   simp(disch:=first|omega|assumption) only[h3,h4,hlt,hlt2,g1,g2,go_sem]
   refine zb hS ?_
   by_cases hv:FragD.mk nm on dirs sels=FragD.mk nm' on' dirs' sels'
   ·simp(disch:=first|omega|assumption) only[yb hv,go_sem]
    exact goJ (hJ () _ (by rw[hv];exact hst)) (by simp(disch:=first|omega|assumption) only[wrap64,go_sem])
   ·have:=hne hv
    simp(disch:=first|omega|assumption) only[zn hv,go_sem]
    exact hQ _ _ _ _ nofun rfl (by simp[zc,zf,AV.strip,AV.strip1,zn this])
 ·rintro done x rest _ H J hd hlt _ hp hJ
  obtain⟨y,r,hb⟩:=zaS hd hl hp
  have g1:=zkZ hd
  have g2:=zkZ hb
  have hlt2:(done.length:Int)<ops'.length:=by omega
  have hbm:=zo9 done x rest
  rw[← hd] at hbm
  have hst:=YF hb
  have hne0:x≠y→ops≠ops':=zcw hd hb
  have hne:x≠y→DocD.mk ops frags≠DocD.mk ops' frags':=fun e e2=>hne0 e (DocD.mk.inj e2).1
  have hS:=zs6 x y (by simp only[Lim];omega)
  obtain⟨k,nm,vars,dirs,sels⟩:=x
  obtain⟨k',nm',vars',dirs',sels'⟩:=y
  have ex:cO ⟨k,nm,vars,dirs,sels⟩=[.int .i64 k,.str nm,.sl .no 10 (cWs vars),.sl .no 2 (cDs dirs),.sl .no 7 (cSs sels)]:=rfl
  have ey:cO ⟨k',nm',vars',dirs',sels'⟩=[.int .i64 k',.str nm',.sl .no 10 (cWs vars'),.sl .no 2 (cDs dirs'),.sl .no 7 (cSs sels')]:=rfl
  rw[ex] at g1 hS
  rw[ey] at g2 hS
  simp(disch:=first|omega|assumption) only[h1,h2,hlt,hlt2,g1,g2,go_sem]
  refine zb hS ?_
  by_cases hv:OpD.mk k nm vars dirs sels=OpD.mk k' nm' vars' dirs' sels'
  ·simp(disch:=first|omega|assumption) only[yb hv,go_sem]
   exact goJ (hJ () _ (by rw[hv];exact hst)) (by simp(disch:=first|omega|assumption) only[wrap64,go_sem])
  ·have:=hne hv
   simp(disch:=first|omega|assumption) only[zn hv,go_sem]
   exact hQ _ _ _ _ nofun rfl (by simp[zc,zf,AV.strip,AV.strip1,zn this])
def zpi (t t':TS):Prop:=hdT t'=hdT t∨hdT t'=⟨0,[]⟩
theorem zpi.pre {c t t':TS} (h:c≠[]∨zpi t t'):zpi (c++t) (c++t'):=by
 cases c with
 | nil=>exact h.resolve_left (fun e=>e rfl)
 | cons x c=>exact .inl rfl
def Lk {α:Type} (one:Bool) (f:TS→PR α):Prop:=∀ t a t',f t=.ok (a,t')→∃ c,(one=true→c≠[])∧t=c++t'∧∀ t'',zpi t' t''→f (c++t'')=.ok (a,t'')
def Cl {α:Type} (f:TS→PR α):Prop:=∀ t a t',f t=.ok (a,t')→∃ c,c≠[]∧t=c++t'∧∀ t'',f (c++t'')=.ok (a,t'')
theorem Lk.bind {α β:Type} {one two:Bool} {f:TS→PR α} {g:α→TS→PR β} (hf:Lk one f) (hg:∀ a,Lk two (g a)):Lk (one||two) (fun t=>pb (f t) g):=fun t b t' h=>by
 obtain⟨a,t1,h1,h2⟩:=zq h
 obtain⟨c1,n1,e1,k1⟩:=hf _ _ _ h1
 obtain⟨c2,n2,e2,k2⟩:=hg a _ _ _ h2
 subst e2
 refine⟨c1++c2,fun e=>?_,by rw[e1,ZJ],fun t'' ht=>?_⟩
 ·rw[Z0] at e
  rcases e with e|e
  ·have:=n1 e;simp[this]
  ·have:=n2 e;simp[this]
 ·rw[ZJ]
  simp only
  rw[k1 (c2++t'') (zpi.pre (.inr ht)),zF]
  exact k2 t'' ht
theorem Lk.ret {α:Type} (a:α):Lk false (fun t=>(.ok (a,t):PR α)):=fun t b t' h=>by
 simp only[Zh,Al8] at h
 obtain⟨rfl,rfl⟩:=h
 exact⟨[],fun e=>(nomatch e),rfl,fun t'' _=>rfl⟩
theorem Cl.map {α β:Type} {f:TS→PR α} {F:α→β} (hf:Cl f):Cl (fun t=>pb (f t) fun a t=>.ok (F a,t)):=fun t b t' h=>by
 obtain⟨a,t1,h1,h2⟩:=zq h
 simp only[Zh,Al8] at h2
 obtain⟨rfl,rfl⟩:=h2
 obtain⟨c1,n1,e1,k1⟩:=hf _ _ _ h1
 exact⟨c1,n1,e1,fun t''=>by simp only;rw[k1,zF]⟩
theorem Lk.error {α:Type} {one:Bool} (e:Int):Lk one (fun _=>(.error e:PR α)):=fun t a t' h=>by cases h
theorem Cl.error {α:Type} (e:Int):Cl (fun _=>(.error e:PR α)):=fun t a t' h=>by cases h
def En {α:Type} (f:TS→PR α):Prop:=f []=.error 2∧∀ p x a,f (p++[x])=.ok (a,[])→f p=.error 2
theorem zm3 {c t' p:TS} {x:Tok} (h:p++[x]=c++t') (hne:t'≠[]):∃ q,t'=q++[x]∧p=c++q:=by
 obtain⟨q,y,rfl⟩:∃ q y,t'=q++[y]:=⟨t'.dropLast,t'.getLast hne,(List.dropLast_concat_getLast hne).symm⟩
 rw[← ZJ] at h
 have h1:=List.append_inj_left' h rfl
 have h2:=List.append_inj_right' h rfl
 simp only[List.cons.injEq,and_true] at h2
 subst h2
 exact⟨q,rfl,h1⟩
theorem zpl (q:TS) (x:Tok):zpi (q++[x]) q:=by
 cases q with
 | nil=>exact .inr rfl
 | cons y q=>exact .inl rfl
theorem En.bind {α β:Type} {one:Bool} {f:TS→PR α} {g:α→TS→PR β} (hf:Lk one f) (h0:pb (f []) g=.error 2) (hg:∀ a,En (g a)):En (fun t=>pb (f t) g):=by
 refine⟨h0,fun p x b h=>?_⟩
 obtain⟨a,t1,h1,h2⟩:=zq h
 obtain⟨c,n,e,k⟩:=hf _ _ _ h1
 by_cases ht:t1=[]
 ·rw[ht,(hg a).1] at h2;cases h2
 ·obtain⟨q,rfl,rfl⟩:=zm3 e ht
  simp only
  rw[k q (zpl q x),zF]
  exact(hg a).2 _ _ _ h2
theorem En.map {α β:Type} {f:TS→PR α} {F:α→β} (hf:En f):En (fun t=>pb (f t) fun a t=>.ok (F a,t)):=by
 refine⟨by simp only[hf.1];rfl,fun p x b h=>?_⟩
 obtain⟨a,t1,h1,h2⟩:=zq h
 simp only[Zh,Al8] at h2
 obtain⟨rfl,rfl⟩:=h2
 simp only[hf.2 _ _ _ h1];rfl
theorem zo5 {s:List UInt8} {L:List Tok} {d:DocD} {t:TS} (h:Ye s=.ok L) (h2:ze8 L=.ok (d,t)):zcW s=(d,0):=by unfold zcW;rw[h];simp only[h2]
theorem zhH (s:List UInt8):((zcW s).2≠0∧(zcW s).1=⟨[],[]⟩)∨∃ L d,Ye s=.ok L∧ze8 L=.ok (d,[])∧zcW s=(d,0):=by
 cases h:Ye s with
 | error n=>left;unfold zcW;rw[h];exact⟨zf1 h,rfl⟩
 | ok L =>
  cases h2:ze8 L with
  | error n=>left;unfold zcW;rw[h];simp only[h2];exact⟨zoU h h2,trivial⟩
  | ok x =>
   obtain⟨d,t⟩:=x
   obtain rfl:=(zmH h2).1
   exact .inr ⟨L,d,rfl,h2,zo5 h h2⟩
theorem zrw (s:List UInt8):zbk (zcW s).1≤yS∧zaK (zcW s).1:=by
 rcases zhH s with ⟨_,h⟩|⟨L,d,h1,h2,h3⟩
 ·rw[h];exact⟨by simp[zbk,bOs,bFs],by simp[zaK]⟩
 ·rw[h3]
  have:=zmH h2
  have hw:=zod h1
  exact⟨by simp only;omega,this.2.2⟩
theorem ziG (v:Val):zcH v=if zaf v then yD v else []:=by unfold zcH;rfl
theorem zom (v:Val) (hw:wfV v) (hv:4*bV v≤Lim) (fixed:Bool):WC 237 [.agg (cV v),.bool fixed] (4*bV v) 0 32 (fun dp=>yz dp fixed v) (yD v):=by
 intro H w o l ok dp h h0 h1 hb
 have hvb:bV v≤Lim:=by simp only[Lim] at hv ⊢;omega
 have htl:(zcH v).length≤4*bV v:=by
  have:=ze9 v
  rw[ziG];split
  ·omega
  ·simp
 have hkt:=yM (zcH v)
 have hdv:=zfW v
 have hvl:=zfn v []
 have hcv:=zax (yI v [])
 simp only[Lim] at hb hv
 refine zj.go ir237 ck237 (Al4 _) fun KP Q hQ=>?_
 have hc:=h.cell
 have fin:∀(b:Bool),b=yz dp fixed v→∀(H2:za) (o2:Own) (l2:List Tok),WAt H2 w o2 l2 (ok&&b) dp→WStep H o w H2 o2→l2.length≤l.length+0→((ok&&b)=true→l2=l++[]) →
   ∀(H3:za) (o3:Own),OwnS H2 o2 H3 o3 ((cKs l2).length+(cKs (zcH v)).length) 2 →
   H3 w=some (.cells [.sl o2 2 (cKs l2),.bool (ok&&b),.int .i64 dp])∧∃ o' l',WAt (H3.upd w (.cells [.sl o3 2 (cKs l2++cKs (zcH v)),.bool (ok&&b),.int .i64 dp])) w o' l' (ok&&yz dp fixed v) dp ∧
    WStep H o w (H3.upd w (.cells [.sl o3 2 (cKs l2++cKs (zcH v)),.bool (ok&&b),.int .i64 dp])) o'∧l'.length≤l.length+4*bV v∧((ok&&yz dp fixed v)=true→l'=l++yD v):=by
  intro b hbr H2 o2 l2 h2 h3 h4 h5 H3 o3 hs
  obtain⟨g1,g2,g3⟩:=h2.app (ts:=zcH v) hs (by simp[yM])
  rw[zm9] at g2 g3
  refine⟨g1,o3,l2++zcH v,by rw[← hbr];exact g2,h3.trans h2.cell g3,by simp only[Al5];omega,fun e=>?_⟩
  rw[← hbr] at e
  have er:yz dp fixed v=true:=by rw[← hbr];simp only[Al0] at e;exact e.2
  have ep:zaf v=true:=by simp only[yz,Al0] at er;exact er.1
  rw[h5 e,ziG,ep];simp
 have d1:IntKind.wrap .i64 (dp+zN v)=dp+zN v:=wrap64 (by omega) (by omega)
 cases hp:zaf v with
 | false =>
  have hbr:false=yz dp fixed v:=by simp[yz,hp]
  simp(disch:=first|omega|assumption) only[zl,zg,ze,zk,zh,zd,zr,ir237,go_sem]
  refine zb (zg0 v hw hv) ?_
  simp(disch:=first|omega|assumption) only[hp,go_sem]
  refine zbh (Zu _) h (by omega) (by omega) (by simp only[Lim];omega) fun o2 l2 H2 h2 h3 h4 h5=>?_
  have hk2:=yM l2
  have hc2:=h2.cell
  simp(disch:=first|omega|assumption) only[hc2,go_sem]
  refine zx (by rw[hk2];exact h2.own) (by rw[hk2,hkt];omega) (by rw[hk2,hkt];simp only[maxLen];omega) fun o3 H3 hs3=>?_
  obtain⟨g1,g2⟩:=fin _ hbr H2 o2 l2 h2 h3 h4 h5 H3 o3 hs3
  simp(disch:=first|omega|assumption) only[g1,za0,go_sem]
  exact hQ _ _ _ _ [] nofun rfl (Low.refl _) ⟨rfl,g2⟩
 | true =>
  by_cases hd:dp+zN v≤16
  case neg =>
   have hbr:false=yz dp fixed v:=by simp[yz,hd]
   simp(disch:=first|omega|assumption) only[zl,zg,ze,zk,zh,zd,zr,ir237,go_sem]
   refine zb (zg0 v hw hv) ?_
   simp(disch:=first|omega|assumption) only[zl,zg,ze,zk,zh,zd,zr,hp,hc,go_sem]
   refine zb (zkQ v hvb) ?_
   simp(disch:=first|omega|assumption) only[zl,zg,ze,zk,zh,zd,zr,d1,hd,hc,go_sem]
   refine zbh (Zu _) h (by omega) (by omega) (by simp only[Lim];omega) fun o2 l2 H2 h2 h3 h4 h5=>?_
   have hk2:=yM l2
   have hc2:=h2.cell
   simp(disch:=first|omega|assumption) only[hc2,go_sem]
   refine zx (by rw[hk2];exact h2.own) (by rw[hk2,hkt];omega) (by rw[hk2,hkt];simp only[maxLen];omega) fun o3 H3 hs3=>?_
   obtain⟨g1,g2⟩:=fin _ hbr H2 o2 l2 h2 h3 h4 h5 H3 o3 hs3
   simp(disch:=first|omega|assumption) only[g1,za0,go_sem]
   exact hQ _ _ _ _ [] nofun rfl (Low.refl _) ⟨rfl,g2⟩
  cases fixed with
  | false =>
   have hbr:true=yz dp false v:=by simp[yz,hd,hp]
   simp(disch:=first|omega|assumption) only[zl,zg,ze,zk,zh,zd,zr,ir237,go_sem]
   refine zb (zg0 v hw hv) ?_
   simp(disch:=first|omega|assumption) only[zl,zg,ze,zk,zh,zd,zr,hp,hc,go_sem]
   refine zb (zkQ v hvb) ?_
   simp(disch:=first|omega|assumption) only[zl,zg,ze,zk,zh,zd,zr,d1,hd,hc,go_sem]
   refine zbh (Zu _) h (by omega) (by omega) (by simp only[Lim];omega) fun o2 l2 H2 h2 h3 h4 h5=>?_
   have hk2:=yM l2
   have hc2:=h2.cell
   simp(disch:=first|omega|assumption) only[hc2,go_sem]
   refine zx (by rw[hk2];exact h2.own) (by rw[hk2,hkt];omega) (by rw[hk2,hkt];simp only[maxLen];omega) fun o3 H3 hs3=>?_
   obtain⟨g1,g2⟩:=fin _ hbr H2 o2 l2 h2 h3 h4 h5 H3 o3 hs3
   simp(disch:=first|omega|assumption) only[g1,za0,go_sem]
   exact hQ _ _ _ _ [] nofun rfl (Low.refl _) ⟨rfl,g2⟩
  | true =>
   simp(disch:=first|omega|assumption) only[zl,zg,ze,zk,zh,zd,zr,ir237,go_sem]
   refine zb (zg0 v hw hv) ?_
   simp(disch:=first|omega|assumption) only[zl,zg,ze,zk,zh,zd,zr,hp,hc,go_sem]
   refine zb (zkQ v hvb) ?_
   simp(disch:=first|omega|assumption) only[zl,zg,ze,zk,zh,zd,zr,d1,hd,hc,go_sem]
   refine zb (zu9 v hvb) ?_
   by_cases hz:(yI v []).length=0
   ·have hbr:true=yz dp true v:=by simp[yz,hd,hp,hz]
    have hz':¬ ((0:Int)<(yI v []).length):=by omega
    simp(disch:=first|omega|assumption) only[zl,zg,ze,zk,zh,zd,zr,hcv,hz',go_sem]
    refine zbh (Zu _) h (by omega) (by omega) (by simp only[Lim];omega) fun o2 l2 H2 h2 h3 h4 h5=>?_
    have hk2:=yM l2
    have hc2:=h2.cell
    simp(disch:=first|omega|assumption) only[hc2,go_sem]
    refine zx (by rw[hk2];exact h2.own) (by rw[hk2,hkt];omega) (by rw[hk2,hkt];simp only[maxLen];omega) fun o3 H3 hs3=>?_
    obtain⟨g1,g2⟩:=fin _ hbr H2 o2 l2 h2 h3 h4 h5 H3 o3 hs3
    simp(disch:=first|omega|assumption) only[g1,za0,go_sem]
    exact hQ _ _ _ _ [] nofun rfl (Low.refl _) ⟨rfl,g2⟩
   ·have hbr:false=yz dp true v:=by simp[yz,hd,hp,hz]
    have hz':((0:Int)<(yI v []).length)=True:=eq_true (by omega)
    simp(disch:=first|omega|assumption) only[zl,zg,ze,zk,zh,zd,zr,hcv,hz',go_sem]
    refine zbh (Zu _) h (by omega) (by omega) (by simp only[Lim];omega) fun o2 l2 H2 h2 h3 h4 h5=>?_
    have hk2:=yM l2
    have hc2:=h2.cell
    simp(disch:=first|omega|assumption) only[hc2,go_sem]
    refine zx (by rw[hk2];exact h2.own) (by rw[hk2,hkt];omega) (by rw[hk2,hkt];simp only[maxLen];omega) fun o3 H3 hs3=>?_
    obtain⟨g1,g2⟩:=fin _ hbr H2 o2 l2 h2 h3 h4 h5 H3 o3 hs3
    simp(disch:=first|omega|assumption) only[g1,za0,go_sem]
    exact hQ _ _ _ _ [] nofun rfl (Low.refl _) ⟨rfl,g2⟩
theorem zuq (m:Int) (k:Nat) (hk:k≤64):m.fdiv (2 ^ min k IntKind.i64.bits)=m / 2 ^ k:=by
 have e:min k IntKind.i64.bits=k:=by show min k 64=k;omega
 have hp:(0:Int)≤2 ^ k:=by exact_mod_cast Nat.zero_le _
 rw[e,Int.fdiv_eq_ediv_of_nonneg _ hp]
theorem zrU (t:TyD) (hs:t.nm.length≤Lim):zu Tryz.prog 125 [.agg (cTy t)] (.bool (yy t)):=by
 refine zu.go ir125 ck125 (Al4 _) fun KP Q hQ=>?_
 obtain⟨nm,ls,ms⟩:=t
 simp only at hs
 simp(disch:=first|omega|assumption) only[ir125,cTy,steps,st2,pev,rev,oev,z8,yf,ym,yl,bound,zI,mm2,mk,zt,AV.cells,AV.boxable,AV.one,AV.strip1,zH,zE,Nat.reduceEqDiff,reduceCtorEq,↓reduceIte,Nat.reduceAdd,Int.reduceNeg,Nat.reduceLeDiff,Int.reduceToNat,Int.reduceEq,Int.reduceLT,Int.reduceLE,Int.reduceAdd,Io,Im,If,Il,Jt,Jf,AC.rg,Jm,Jl,Ja,Fm,Fl,Fa,Imv,Imb,Iai,Iei,Igi,Isi,Ipf,Ipt,Ilb,Iia,Ilt,Iap,Ink,Iln,Ils,Iad,Iex,Ibx,Ing]
 refine zb (zjY nm hs) ?_
 cases h1:zZ nm with
 | false =>
  simp(disch:=first|omega|assumption) only[steps,st2,pev,rev,oev,z8,yf,ym,yl,bound,zI,mm2,mk,zt,AV.cells,AV.boxable,AV.one,AV.strip1,zH,zE,Nat.reduceEqDiff,reduceCtorEq,↓reduceIte,Nat.reduceAdd,Int.reduceNeg,Nat.reduceLeDiff,Int.reduceToNat,Int.reduceEq,Int.reduceLT,Int.reduceLE,Int.reduceAdd]
  exact hQ _ _ _ _ nofun rfl (by simp[zc,zf,AV.strip,AV.strip1,yy,h1])
 | true =>
  by_cases h2:0≤ls
  case neg =>
   simp(disch:=first|omega|assumption) only[h2,steps,st2,pev,rev,oev,z8,yf,ym,yl,bound,zI,mm2,mk,zt,AV.cells,AV.boxable,AV.one,AV.strip1,zH,zE,Nat.reduceEqDiff,reduceCtorEq,↓reduceIte,Nat.reduceAdd,Int.reduceNeg,Nat.reduceLeDiff,Int.reduceToNat,Int.reduceEq,Int.reduceLT,Int.reduceLE,Int.reduceAdd]
   exact hQ _ _ _ _ nofun rfl (by simp[zc,zf,AV.strip,AV.strip1,yy,h1,h2])
  by_cases h3:ls≤4
  case neg =>
   simp(disch:=first|omega|assumption) only[h2,h3,steps,st2,pev,rev,oev,z8,yf,ym,yl,bound,zI,mm2,mk,zt,AV.cells,AV.boxable,AV.one,AV.strip1,zH,zE,Nat.reduceEqDiff,reduceCtorEq,↓reduceIte,Nat.reduceAdd,Int.reduceNeg,Nat.reduceLeDiff,Int.reduceToNat,Int.reduceEq,Int.reduceLT,Int.reduceLE,Int.reduceAdd]
   exact hQ _ _ _ _ nofun rfl (by simp[zc,zf,AV.strip,AV.strip1,yy,h1,h2,h3])
  by_cases h4:0≤ms
  case neg =>
   simp(disch:=first|omega|assumption) only[h2,h3,h4,steps,st2,pev,rev,oev,z8,yf,ym,yl,bound,zI,mm2,mk,zt,AV.cells,AV.boxable,AV.one,AV.strip1,zH,zE,Nat.reduceEqDiff,reduceCtorEq,↓reduceIte,Nat.reduceAdd,Int.reduceNeg,Nat.reduceLeDiff,Int.reduceToNat,Int.reduceEq,Int.reduceLT,Int.reduceLE,Int.reduceAdd]
   exact hQ _ _ _ _ nofun rfl (by simp[zc,zf,AV.strip,AV.strip1,yy,h1,h2,h3,h4])
  have w1:IntKind.wrap .i64 (ls+1)=ls+1:=wrap64 (by omega) (by omega)
  have w2:¬ (ls+1<0):=by omega
  have e1:(ls+1).toNat=ls.toNat+1:=by omega
  have e2:=zuq ms (ls.toNat+1) (by omega)
  have hpow:(0:Int)<2 ^ (ls.toNat+1):=by exact_mod_cast Nat.pos_of_ne_zero (by simp)
  have e3:(ms / 2 ^ (ls.toNat+1)=0)=(ms<2 ^ (ls.toNat+1)):=propext ⟨fun h=>by
   by_cases hlt:ms<2 ^ (ls.toNat+1)
   ·exact hlt
   ·have:=(Int.le_ediv_iff_mul_le hpow).2 (show 1*2 ^ (ls.toNat+1)≤ms by omega)
    omega,fun h=>Int.ediv_eq_zero_of_lt h4 h⟩
  simp(disch:=first|omega|assumption) only[h2,h3,h4,w1,w2,e1,e2,e3,steps,st2,pev,rev,oev,z8,yf,ym,yl,bound,zI,mm2,mk,zt,AV.cells,AV.boxable,AV.one,AV.strip1,zH,zE,Nat.reduceEqDiff,reduceCtorEq,↓reduceIte,Nat.reduceAdd,Int.reduceNeg,Nat.reduceLeDiff,Int.reduceToNat,Int.reduceEq,Int.reduceLT,Int.reduceLE,Int.reduceAdd]
  exact hQ _ _ _ _ nofun rfl (by simp[zc,zf,AV.strip,AV.strip1,yy,h1,h2,h3,h4])
theorem WR.cast {H0 H:za} {o0 o:Own} {w B B':Nat} {l0 l tk tk':List Tok} {ok0 r r':Bool} {dp:Int} (h:WR H0 o0 w l0 ok0 dp B r tk H o l) (hB:B≤B') (hr:r=r') (ht:tk=tk'):WR H0 o0 w l0 ok0 dp B' r' tk' H o l:=by
 subst hr;subst ht
 exact⟨h.here,h.st,by have:=h.len;omega,h.eq⟩
theorem WR.after {H0 H1 H:za} {o0 o1 o:Own} {w B:Nat} {l0 l tk:List Tok} {ok0 r:Bool} {dp:Int} (h:WR H1 o1 w l0 ok0 dp B r tk H o l) (hs:WStep H0 o0 w H1 o1) {x:AObj} (hw:H1 w=some x):WR H0 o0 w l0 ok0 dp B r tk H o l :=
 ⟨h.here,hs.trans hw h.st,h.len,h.eq⟩
def zcd (n:Nat) (m:Int):Nat→List Tok
 | 0=>[]
 | j+1=>zdy n m j++zcd n m j
theorem zfS (n:Nat) (m:Int):∀ j,zcv n m j=zcd n m (j+1)
 | 0=>by simp[zcv,zcd]
 | j+1=>by rw[zcv,zfS n m j];rfl
theorem and1 {x:Int} (h0:0≤x) (h1:x<64):IntKind.wrap .i64 ((BitVec.ofInt IntKind.i64.bits x &&& BitVec.ofInt IntKind.i64.bits 1).toNat:Int)=x % 2:=by
 have:∀ y:Fin 64,IntKind.wrap .i64 ((BitVec.ofInt IntKind.i64.bits (y.val:Int) &&& BitVec.ofInt IntKind.i64.bits 1).toNat:Int)=(y.val:Int) % 2:=by decide +kernel
 have:=this ⟨x.toNat,by omega⟩
 simp only[Int.toNat_of_nonneg h0] at this
 exact this
theorem zfJ (t:TyD) (hs:t.nm.length≤Lim):WC 141 [.agg (cTy t)] 20 (-1000) 1000 (fun _=>yy t) (tTy t):=by
 intro H w o l ok dp h h0 h1 hb
 have hb0:=hb
 simp only[Lim] at hb
 refine zj.go ir141 ck141 (Al4 _) fun KP Q hQ=>?_
 obtain⟨nm,ls,ms⟩:=t
 simp only at hs
 have et:cTy ⟨nm,ls,ms⟩=[.str nm,.int .i64 ls,.int .i64 ms]:=rfl
 simp(disch:=first|omega|assumption) only[ir141,et,steps,st2,pev,rev,oev,z8,yf,ym,yl,bound,zI,mm2,mk,zt,AV.cells,AV.boxable,AV.one,AV.strip1,zH,zE,Nat.reduceEqDiff,reduceCtorEq,↓reduceIte,Nat.reduceAdd,Int.reduceNeg,Nat.reduceLeDiff,Int.reduceToNat,Int.reduceEq,Int.reduceLT,Int.reduceLE,Int.reduceAdd,Io,Im,If,Il,Jt,Jf,AC.rg,Jm,Jl,Ja,Fm,Fl,Fa,Imv,Imb,Iai,Iei,Igi,Isi,Ipf,Ipt,Ilb,Iia,Ilt,Iap,Ink,Iln,Ils,Iad,Iex,Ibx,Ing]
 refine zb (show zu Tryz.prog 125 [.agg [.str nm,.int .i64 ls,.int .i64 ms]] (.bool (yy ⟨nm,ls,ms⟩)) from zrU ⟨nm,ls,ms⟩ hs) ?_
 simp(disch:=first|omega|assumption) only[steps,st2,pev,rev,oev,z8,yf,ym,yl,bound,zI,mm2,mk,zt,AV.cells,AV.boxable,AV.one,AV.strip1,zH,zE,Nat.reduceEqDiff,reduceCtorEq,↓reduceIte,Nat.reduceAdd,Int.reduceNeg,Nat.reduceLeDiff,Int.reduceToNat,Int.reduceEq,Int.reduceLT,Int.reduceLE,Int.reduceAdd]
 refine zbh (Zu _) h (by omega) (by omega) (by simp only[Lim];omega) fun o2 l2 H2 h2 h3 h4 h5=>?_
 have hc2:=h2.cell
 cases hok:ok&&yy ⟨nm,ls,ms⟩ with
 | false =>
  rw[hok] at h2 hc2
  simp(disch:=first|omega|assumption) only[hc2,steps,st2,pev,rev,oev,z8,yf,ym,yl,bound,zI,mm2,mk,zt,AV.cells,AV.boxable,AV.one,AV.strip1,zH,zE,Nat.reduceEqDiff,reduceCtorEq,↓reduceIte,Nat.reduceAdd,Int.reduceNeg,Nat.reduceLeDiff,Int.reduceToNat,Int.reduceEq,Int.reduceLT,Int.reduceLE,Int.reduceAdd]
  exact hQ _ _ H2 H2 [] nofun rfl (Low.refl _) ⟨rfl,o2,l2,by rw[hok];exact h2,h3,by omega,fun e=>by rw[hok] at e;cases e⟩
 | true =>
  rw[hok] at h2 hc2 h5
  have e2:l2=l:=by have:=h5 rfl;simpa using this
  subst e2
  have hrt:yy ⟨nm,ls,ms⟩=true:=by simp only[Al0] at hok;exact hok.2
  have hok1:ok=true:=by simp only[Al0] at hok;exact hok.1
  simp only[yy,Al0,zL] at hrt
  obtain⟨hnm,r1,r2,r3,r4⟩:=hrt
  obtain⟨n,rfl⟩:∃ n:Nat,ls=(n:Int):=⟨ls.toNat,by omega⟩
  have en:(n:Int).toNat=n:=by omega
  rw[en] at r4
  have hn4:n≤4:=by omega
  have hms:ms<64:=by
   have:(2:Int) ^ (n+1)≤2 ^ 5:=by exact_mod_cast Nat.pow_le_pow_right (by decide) (by omega:n+1≤5)
   omega
  have w0:=WR.refl h2
  simp(disch:=first|omega|assumption) only[hc2,steps,st2,pev,rev,oev,z8,yf,ym,yl,bound,zI,mm2,mk,zt,AV.cells,AV.boxable,AV.one,AV.strip1,zH,zE,Nat.reduceEqDiff,reduceCtorEq,↓reduceIte,Nat.reduceAdd,Int.reduceNeg,Nat.reduceLeDiff,Int.reduceToNat,Int.reduceEq,Int.reduceLT,Int.reduceLE,Int.reduceAdd]
  refine yK (fun x:Nat×Own×List Tok=>[(16,.int .i64 x.1)]) (fun x H'=>x.1≤n∧WR H2 o2 w l2 true dp x.1 true (List.replicate x.1 (pk [91])) H' x.2.1 x.2.2) (fun x=>n-x.1) (0,o2,l2) (by simp(disch:=first|omega|assumption) only[steps,st2,pev,rev,oev,z8,yf,ym,yl,bound,zI,mm2,mk,zt,AV.cells,AV.boxable,AV.one,AV.strip1,zH,zE,Nat.reduceEqDiff,reduceCtorEq,↓reduceIte,Nat.reduceAdd,Int.reduceNeg,Nat.reduceLeDiff,Int.reduceToNat,Int.reduceEq,Int.reduceLT,Int.reduceLE,Int.reduceAdd]) ⟨by simp,w0⟩ ?_
  rintro⟨i,o3,l3⟩ H3 J ⟨hi,w3⟩ hJ
  simp only at hi w3
  by_cases hlt:i<n
  ·have hlt':((i:Int)<n)=True:=eq_true (by omega)
   simp(disch:=first|omega|assumption) only[hlt',steps,st2,pev,rev,oev,z8,yf,ym,yl,bound,zI,mm2,mk,zt,AV.cells,AV.boxable,AV.one,AV.strip1,zH,zE,Nat.reduceEqDiff,reduceCtorEq,↓reduceIte,Nat.reduceAdd,Int.reduceNeg,Nat.reduceLeDiff,Int.reduceToNat,Int.reduceEq,Int.reduceLT,Int.reduceLE,Int.reduceAdd]
   refine zi (yq [91] _) w3 (by omega) (by omega) (by simp only[Lim];omega) fun o4 l4 H4 w4 _=>?_
   simp(disch:=first|omega|assumption) only[wrap64,steps,st2,pev,rev,oev,z8,yf,ym,yl,bound,zI,mm2,mk,zt,AV.cells,AV.boxable,AV.one,AV.strip1,zH,zE,Nat.reduceEqDiff,reduceCtorEq,↓reduceIte,Nat.reduceAdd,Int.reduceNeg,Nat.reduceLeDiff,Int.reduceToNat,Int.reduceEq,Int.reduceLT,Int.reduceLE,Int.reduceAdd]
   exact goJ (hJ (i+1,o4,l4) H4 (by simp only;omega) ⟨by simp only;omega,w4.cast (Al4 _) rfl (by rw[List.replicate_succ'])⟩) (by simp(disch:=first|omega|assumption) only[Int.natCast_add,steps,st2,pev,rev,oev,z8,yf,ym,yl,bound,zI,mm2,mk,zt,AV.cells,AV.boxable,AV.one,AV.strip1,zH,zE,Nat.reduceEqDiff,reduceCtorEq,↓reduceIte,Nat.reduceAdd,Int.reduceNeg,Nat.reduceLeDiff,Int.reduceToNat,Int.reduceEq,Int.reduceLT,Int.reduceLE,Int.reduceAdd])
  ·have hlt':¬ ((i:Int)<n):=by omega
   obtain rfl:i=n:=by omega
   simp(disch:=first|omega|assumption) only[hlt',steps,st2,pev,rev,oev,z8,yf,ym,yl,bound,zI,mm2,mk,zt,AV.cells,AV.boxable,AV.one,AV.strip1,zH,zE,Nat.reduceEqDiff,reduceCtorEq,↓reduceIte,Nat.reduceAdd,Int.reduceNeg,Nat.reduceLeDiff,Int.reduceToNat,Int.reduceEq,Int.reduceLT,Int.reduceLE,Int.reduceAdd]
   refine zi (yk nm hs) w3 (by omega) (by omega) (by simp only[Lim];omega) fun o4 l4 H4 w4 _=>?_
   rw[hnm] at w4
   simp(disch:=first|omega|assumption) only[steps,st2,pev,rev,oev,z8,yf,ym,yl,bound,zI,mm2,mk,zt,AV.cells,AV.boxable,AV.one,AV.strip1,zH,zE,Nat.reduceEqDiff,reduceCtorEq,↓reduceIte,Nat.reduceAdd,Int.reduceNeg,Nat.reduceLeDiff,Int.reduceToNat,Int.reduceEq,Int.reduceLT,Int.reduceLE,Int.reduceAdd]
   refine yK (fun x:Nat×Own×List Tok×Nat×List Tok=>[(4,.int .i64 ((x.1:Int)-1))]) (fun x H'=>x.1≤i+1∧x.2.2.2.1+2*x.1≤19∧x.2.2.2.2++zcd i ms x.1=tTy ⟨nm,i,ms⟩∧WR H2 o2 w l2 true dp x.2.2.2.1 true x.2.2.2.2 H' x.2.1 x.2.2.1) (fun x=>x.1)
    (i+1,o4,l4,i+1,List.replicate i (pk [91])++[wk nm]) (by simp(disch:=first|omega|assumption) only[Int.natCast_add,Int.add_sub_cancel,steps,st2,pev,rev,oev,z8,yf,ym,yl,bound,zI,mm2,mk,zt,AV.cells,AV.boxable,AV.one,AV.strip1,zH,zE,Nat.reduceEqDiff,reduceCtorEq,↓reduceIte,Nat.reduceAdd,Int.reduceNeg,Nat.reduceLeDiff,Int.reduceToNat,Int.reduceEq,Int.reduceLT,Int.reduceLE,Int.reduceAdd]) ⟨by simp,by simp only;omega,by simp only[tTy,en,zfS];simp,w4.cast (Al4 _) rfl rfl⟩ ?_
   rintro⟨k,o5,l5,B,tk⟩ H5 J5 ⟨hk,hB,htk,w5⟩ hJ5
   simp only at hk hB htk w5
   cases k with
   | zero =>
    have hz:¬ ((0:Int)≤-1):=by omega
    have w6:=w5.after h3 h2.cell
    simp only[zcd,List.append_nil] at htk
    simp(disch:=first|omega|assumption) only[hz,Int.reduceSub,steps,st2,pev,rev,oev,z8,yf,ym,yl,bound,zI,mm2,mk,zt,AV.cells,AV.boxable,AV.one,AV.strip1,zH,zE,Nat.reduceEqDiff,reduceCtorEq,↓reduceIte,Nat.reduceAdd,Int.reduceNeg,Nat.reduceLeDiff,Int.reduceToNat,Int.reduceEq,Int.reduceLT,Int.reduceLE,Int.reduceAdd]
    refine hQ _ _ H5 H5 [] nofun rfl (Low.refl _) ⟨rfl,?_⟩
    obtain⟨o',l',g1,g2,g3,g4⟩:=w6.fin (B':=20) rfl (fun _=>htk) (by omega)
    rw[hok]
    exact⟨o',l',by simpa using g1,g2,by omega,fun _=>by simpa using g4 rfl⟩
   | succ j =>
    have e0:((j+1:Nat):Int)-1=(j:Int):=by omega
    have hz:((0:Int)≤j)=True:=eq_true (by omega)
    have hbit:=zuq ms j (by omega)
    have hq0:0≤ms / 2 ^ j:=Int.ediv_nonneg r3 (by exact_mod_cast Nat.zero_le _)
    have hq1:ms / 2 ^ j<64:=by
     have:ms / 2 ^ j≤ms:=Int.ediv_le_self _ r3
     omega
    have ha:=and1 hq0 hq1
    have hj0:¬ ((j:Int)<0):=by omega
    simp only[zcd,zdy] at htk
    by_cases hji:j<i
    ·have hji':((j:Int)<i)=True:=eq_true (by omega)
     rw[if_pos hji] at htk
     simp(disch:=first|omega|assumption) only[e0,hz,hji',steps,st2,pev,rev,oev,z8,yf,ym,yl,bound,zI,mm2,mk,zt,AV.cells,AV.boxable,AV.one,AV.strip1,zH,zE,Nat.reduceEqDiff,reduceCtorEq,↓reduceIte,Nat.reduceAdd,Int.reduceNeg,Nat.reduceLeDiff,Int.reduceToNat,Int.reduceEq,Int.reduceLT,Int.reduceLE,Int.reduceAdd]
     refine zi (yq [93] _) w5 (by omega) (by omega) (by simp only[Lim];omega) fun o6 l6 H6 w6 _=>?_
     by_cases hbt:ms / 2 ^ j % 2=1
     ·have hbb:zcM ms j=true:=by simp[zcM,hbt]
      rw[hbb] at htk
      simp(disch:=first|omega|assumption) only[hbit,hj0,ha,hbt,steps,st2,pev,rev,oev,z8,yf,ym,yl,bound,zI,mm2,mk,zt,AV.cells,AV.boxable,AV.one,AV.strip1,zH,zE,Nat.reduceEqDiff,reduceCtorEq,↓reduceIte,Nat.reduceAdd,Int.reduceNeg,Nat.reduceLeDiff,Int.reduceToNat,Int.reduceEq,Int.reduceLT,Int.reduceLE,Int.reduceAdd]
      refine zi (yq [33] _) w6 (by omega) (by omega) (by simp only[Lim];omega) fun o7 l7 H7 w7 _=>?_
      simp(disch:=first|omega|assumption) only[wrap64,steps,st2,pev,rev,oev,z8,yf,ym,yl,bound,zI,mm2,mk,zt,AV.cells,AV.boxable,AV.one,AV.strip1,zH,zE,Nat.reduceEqDiff,reduceCtorEq,↓reduceIte,Nat.reduceAdd,Int.reduceNeg,Nat.reduceLeDiff,Int.reduceToNat,Int.reduceEq,Int.reduceLT,Int.reduceLE,Int.reduceAdd]
      exact goJ (hJ5 (j,o7,l7,B+1+1,tk++[pk [93]]++[pk [33]]) H7 (Nat.lt_succ_self j) ⟨by simp only;omega,by simp only;omega,by rw[← htk];simp,w7.cast (Al4 _) rfl rfl⟩) (by simp(disch:=first|omega|assumption) only[steps,st2,pev,rev,oev,z8,yf,ym,yl,bound,zI,mm2,mk,zt,AV.cells,AV.boxable,AV.one,AV.strip1,zH,zE,Nat.reduceEqDiff,reduceCtorEq,↓reduceIte,Nat.reduceAdd,Int.reduceNeg,Nat.reduceLeDiff,Int.reduceToNat,Int.reduceEq,Int.reduceLT,Int.reduceLE,Int.reduceAdd])
     ·have hbb:zcM ms j=false:=by simp[zcM,hbt]
      rw[hbb] at htk
      simp(disch:=first|omega|assumption) only[hbit,hj0,ha,hbt,wrap64,steps,st2,pev,rev,oev,z8,yf,ym,yl,bound,zI,mm2,mk,zt,AV.cells,AV.boxable,AV.one,AV.strip1,zH,zE,Nat.reduceEqDiff,reduceCtorEq,↓reduceIte,Nat.reduceAdd,Int.reduceNeg,Nat.reduceLeDiff,Int.reduceToNat,Int.reduceEq,Int.reduceLT,Int.reduceLE,Int.reduceAdd]
      exact goJ (hJ5 (j,o6,l6,B+1,tk++[pk [93]]) H6 (Nat.lt_succ_self j) ⟨by simp only;omega,by simp only;omega,by rw[← htk];simp,w6.cast (Al4 _) rfl rfl⟩) (by simp(disch:=first|omega|assumption) only[steps,st2,pev,rev,oev,z8,yf,ym,yl,bound,zI,mm2,mk,zt,AV.cells,AV.boxable,AV.one,AV.strip1,zH,zE,Nat.reduceEqDiff,reduceCtorEq,↓reduceIte,Nat.reduceAdd,Int.reduceNeg,Nat.reduceLeDiff,Int.reduceToNat,Int.reduceEq,Int.reduceLT,Int.reduceLE,Int.reduceAdd])
    ·have hji':¬ ((j:Int)<i):=by omega
     rw[if_neg hji] at htk
     by_cases hbt:ms / 2 ^ j % 2=1
     ·have hbb:zcM ms j=true:=by simp[zcM,hbt]
      rw[hbb] at htk
      simp(disch:=first|omega|assumption) only[e0,hz,hji',hbit,hj0,ha,hbt,steps,st2,pev,rev,oev,z8,yf,ym,yl,bound,zI,mm2,mk,zt,AV.cells,AV.boxable,AV.one,AV.strip1,zH,zE,Nat.reduceEqDiff,reduceCtorEq,↓reduceIte,Nat.reduceAdd,Int.reduceNeg,Nat.reduceLeDiff,Int.reduceToNat,Int.reduceEq,Int.reduceLT,Int.reduceLE,Int.reduceAdd]
      refine zi (yq [33] _) w5 (by omega) (by omega) (by simp only[Lim];omega) fun o7 l7 H7 w7 _=>?_
      simp(disch:=first|omega|assumption) only[wrap64,steps,st2,pev,rev,oev,z8,yf,ym,yl,bound,zI,mm2,mk,zt,AV.cells,AV.boxable,AV.one,AV.strip1,zH,zE,Nat.reduceEqDiff,reduceCtorEq,↓reduceIte,Nat.reduceAdd,Int.reduceNeg,Nat.reduceLeDiff,Int.reduceToNat,Int.reduceEq,Int.reduceLT,Int.reduceLE,Int.reduceAdd]
      exact goJ (hJ5 (j,o7,l7,B+1,tk++[pk [33]]) H7 (Nat.lt_succ_self j) ⟨by simp only;omega,by simp only;omega,by rw[← htk];simp,w7.cast (Al4 _) rfl rfl⟩) (by simp(disch:=first|omega|assumption) only[steps,st2,pev,rev,oev,z8,yf,ym,yl,bound,zI,mm2,mk,zt,AV.cells,AV.boxable,AV.one,AV.strip1,zH,zE,Nat.reduceEqDiff,reduceCtorEq,↓reduceIte,Nat.reduceAdd,Int.reduceNeg,Nat.reduceLeDiff,Int.reduceToNat,Int.reduceEq,Int.reduceLT,Int.reduceLE,Int.reduceAdd])
     ·have hbb:zcM ms j=false:=by simp[zcM,hbt]
      rw[hbb] at htk
      simp(disch:=first|omega|assumption) only[e0,hz,hji',hbit,hj0,ha,hbt,wrap64,steps,st2,pev,rev,oev,z8,yf,ym,yl,bound,zI,mm2,mk,zt,AV.cells,AV.boxable,AV.one,AV.strip1,zH,zE,Nat.reduceEqDiff,reduceCtorEq,↓reduceIte,Nat.reduceAdd,Int.reduceNeg,Nat.reduceLeDiff,Int.reduceToNat,Int.reduceEq,Int.reduceLT,Int.reduceLE,Int.reduceAdd]
      exact goJ (hJ5 (j,o5,l5,B,tk) H5 (Nat.lt_succ_self j) ⟨by simp only;omega,by simp only;omega,by rw[← htk];simp,w5⟩) (by simp(disch:=first|omega|assumption) only[steps,st2,pev,rev,oev,z8,yf,ym,yl,bound,zI,mm2,mk,zt,AV.cells,AV.boxable,AV.one,AV.strip1,zH,zE,Nat.reduceEqDiff,reduceCtorEq,↓reduceIte,Nat.reduceAdd,Int.reduceNeg,Nat.reduceLeDiff,Int.reduceToNat,Int.reduceEq,Int.reduceLT,Int.reduceLE,Int.reduceAdd])
theorem za1 (has:Bool) (v:Val) (hw:wfV v) (hv:4*bV v≤Lim):WC 142 [.bool has,.agg (cV v)] (1+4*bV v) 0 32 (fun dp=>if has then yz dp true v else eqd v zV) (tDf has v):=by
 intro H w o l ok dp h h0 h1 hb
 have hvb:bV v≤Lim:=by simp only[Lim] at hv ⊢;omega
 refine zj.go ir142 ck142 (Al4 _) fun KP Q hQ=>?_
 have w0:=WR.refl h
 cases has with
 | false =>
  simp(disch:=first|omega|assumption) only[zl,zg,ze,zk,zh,zd,zr,ir142,go_sem]
  refine zb (zu.low (r:=.bool (eqd v zV)) (by
   have:=zv1 v hvb zV
   simpa[AV.strip,zav,ztB,AV.strip1] using this)) ?_
  simp(disch:=first|omega|assumption) only[go_sem]
  refine zi (Zu _) w0 (by omega) (by omega) (by omega) fun o2 l2 H2 w2 _=>?_
  simp(disch:=first|omega|assumption) only[go_sem]
  exact hQ _ _ H2 H2 [] nofun rfl (Low.refl _) ⟨rfl,w2.fin (by simp) (fun _=>by simp[tDf]) (by omega)⟩
 | true =>
  simp(disch:=first|omega|assumption) only[zl,zg,ze,zk,zh,zd,zr,ir142,go_sem]
  refine zi (yq [61] _) w0 (by omega) (by omega) (by omega) fun o2 l2 H2 w2 _=>?_
  simp(disch:=first|omega|assumption) only[zl,zg,ze,zk,zh,zd,zr,go_sem]
  refine zi (zom v hw hv true) w2 (by omega) (by omega) (by omega) fun o3 l3 H3 w3 _=>?_
  simp(disch:=first|omega|assumption) only[go_sem]
  exact hQ _ _ H3 H3 [] nofun rfl (Low.refl _) ⟨rfl,w3.fin (by simp) (fun _=>by simp[tDf]) (by omega)⟩
theorem zed (fixed:Bool) (m:List Mem) (hw:zeY m) (hm:8*bMs m≤Lim):WC 157 [.bool fixed,.sl .no 6 (cMs m)] (2+6*bMs m) 0 32 (fun dp=>ZH dp fixed m) (ZU m):=by
 intro H w o l ok dp h h0 h1 hb
 have hml:=YV m
 have hcl:=ZW m
 refine zj.go ir157 ck157 (Al4 _) fun KP Q hQ=>?_
 have w0:=WR.refl h
 by_cases hz:m.length=0
 ·have hz':((m.length:Int)=0)=True:=eq_true (by omega)
  simp(disch:=first|omega|assumption) only[ir157,hcl,hz',go_sem]
  have em:=zap.1 hz
  subst em
  exact hQ _ _ H H [] nofun rfl (Low.refl _) ⟨rfl,w0.fin rfl (fun _=>rfl) (by omega)⟩
 ·have hz':¬ ((m.length:Int)=0):=by omega
  simp(disch:=first|omega|assumption) only[ir157,hcl,hz',go_sem]
  refine zi (yq [40] _) w0 (by omega) (by omega) (by omega) fun o2 l2 H2 w2 _=>?_
  simp(disch:=first|omega|assumption) only[hcl,go_sem]
  refine zG m 16 (fun x:Own×List Tok=>[]) (fun done rest x H'=>WR H o w l ok dp (1+6*bMs done) (ZH dp fixed done) (pk [40]::Zc done) H' x.1 x.2) (o2,l2) (by simp(disch:=first|omega|assumption) only[go_sem]) (w2.cast (by omega) rfl rfl) ?_ ?_
  ·rintro⟨o3,l3⟩ H3 J w3 hlt
   simp only at w3
   simp(disch:=first|omega|assumption) only[hcl,hlt,go_sem]
   refine zi (yq [41] _) w3 (by omega) (by omega) (by omega) fun o4 l4 H4 w4 _=>?_
   simp(disch:=first|omega|assumption) only[go_sem]
   exact hQ _ _ H4 H4 [] nofun rfl (Low.refl _) ⟨rfl,w4.fin (by simp) (fun _=>by unfold ZU;rw[if_neg hz];rfl) (by omega)⟩
  ·rintro done x rest ⟨o3,l3⟩ H3 J hd hlt hlt2 w3 hJ
   simp only at w3
   have hg:=zaV hd
   have hbm:=zcg done x rest
   rw[← hd] at hbm
   have hmem:x∈m:=by rw[hd];simp
   obtain⟨s,v⟩:=x
   have hwv:=zbP hw s v hmem
   have hvp:=zaG v
   simp only[bM] at hbm
   have hm':=hm
   simp only[Lim] at hm'
   have hbw:b0 w=b0 w:=rfl
   simp(disch:=first|omega|assumption) only[zl,zg,ze,zk,zh,zd,zr,hcl,hlt,hg,go_sem]
   refine zm fun b hb=>?_
   have hbw:b≠w:=fun e=>by subst e;rw[w3.here.cell] at hb;cases hb
   have w4:=w3.alloc (x:=.cells (.str s::cV v)) hb
   have hbc:(H3.upd b (.cells (.str s::cV v))) b=some (.cells (.str s::cV v)):=upd_same ..
   simp(disch:=first|omega|assumption) only[zl,zg,ze,zk,zh,zd,zr,go_sem]
   refine zi (yk s (by simp only[Lim];omega)) w4 (by omega) (by omega) (by omega) fun o5 l5 H5 w5 s5=>?_
   have hb5:=s5.box w4.here.own hbc hbw
   simp(disch:=first|omega|assumption) only[zl,zg,ze,zk,zh,zd,zr,hb5,go_sem]
   refine zi (yq [58] _) w5 (by omega) (by omega) (by omega) fun o6 l6 H6 w6 s6=>?_
   have hb6:=s6.box w5.here.own hb5 hbw
   simp(disch:=first|omega|assumption) only[zl,zg,ze,zk,zh,zd,zr,hb6,go_sem]
   refine zi (zom v hwv (by simp only[Lim];omega) fixed) w6 (by omega) (by omega) (by omega) fun o7 l7 H7 w7 s7=>?_
   simp(disch:=first|omega|assumption) only[wrap64,go_sem]
   exact goJ (hJ (o7,l7) H7 (w7.cast (by rw[zcg done (.mk s v) []];simp only[bM,bMs];omega) (by simp[ZH,zfk,Za]) (by rw[zi7];simp[Zc,zbi,wk,pk]))) (by simp(disch:=first|omega|assumption) only[go_sem])
theorem zlP {dp:Int} {fixed:Bool} {v:Val} (h:yz dp fixed v=true):pl v∧dp+zN v≤16∧(fixed=true→yI v []=[]):=by
 simp only[yz,zaf,Al0,Z0,Bool.not_eq_true',zL] at h
 refine⟨h.1.1,h.2.1,fun e=>?_⟩
 rcases h.2.2 with h|h
 ·rw[h] at e;cases e
 ·exact zap.1 h
theorem zhk {dp:Int} {k:Nat} {fixed:Bool} {v:Val} (hk:dp+k=16) (h:yz dp fixed v=true) (hw:wfV v) (t:TS):Zq fixed k (yD v++t)=.ok (v,t):=by
 obtain⟨h1,h2,h3⟩:=zlP h
 exact zqb fixed v h1 hw k t (by omega) h3
theorem ziM {dp:Int} {k:Nat} {fixed:Bool} (hk:dp+k=16) (l:List Mem) (h:ZH dp fixed l=true) (hw:zeY l) (t:TS) (ht:isP [40] t=false):Y0 fixed k (ZU l++t)=.ok (l,t):=by
 unfold Y0 ZU
 by_cases hl:l.length=0
 ·rw[if_pos hl]
  rw[zap] at hl
  subst hl
  simp[ht]
 ·rw[if_neg hl]
  have hne:l≠[]:=fun e=>hl (by rw[e];rfl)
  have hh:∀(x:Mem) (t:TS),isP [41] (zbi x++t)=false:=fun x t=>by cases x;simp[zbi,zao]
  have e:pk [40]::(Zc l++[pk [41]])++t=pk [40]::(l.flatMap zbi++pk [41]::t):=by rw[zeD];simp
  rw[e,yF]
  simp only[decide_true,if_true,List.tail_cons]
  refine zcR (F:=fun _=>True) (fun _=>trivial) l hne (fun _ _ _=>trivial) (fun x _ t=>hh x t) (fun x hx t _=>?_) t
  obtain⟨s,v⟩:=x
  have h1:=Zk.1 h _ hx
  simp only[zfk,Al0] at h1
  exact zgy (fun t=>zhk hk h1.2 (zbP hw s v hx) t) t
theorem zsc {dp:Int} {k:Nat} {fixed:Bool} (hk:dp+k=16) (d:DirD) (h:zbr dp fixed d=true) (hw:wfD d) (t:TS) (ht:isP [40] t=false):zfY fixed k (wk d.nm::ZU d.args++t)=.ok (d,t):=by
 simp only[zbr,Al0] at h
 rw[Al6,zfY,Zs]
 simp only[pb,ziM hk d.args h.2 hw t ht]
theorem zlT (l:List DirD):tDs l=l.flatMap fun d=>pk [64]::(wk d.nm::ZU d.args):=rfl
theorem zf5 {dp:Int} {k:Nat} {fixed:Bool} (hk:dp+k=16) (l:List DirD) (h:yO dp fixed l=true) (hw:zkn l) (t:TS) (h1:isP [40] t=false) (h2:isP [64] t=false):Yx fixed k (tDs l++t)=.ok (l,t):=by
 unfold Yx
 rw[zlT]
 have hlen:=Y5 (tk:=fun d:DirD=>pk [64]::(wk d.nm::ZU d.args)) l fun x _=>by simp
 have:=zgx (tk:=fun d:DirD=>wk d.nm::ZU d.args) (m:=[64]) (f:=zfY fixed k) (F:=fun t=>isP [40] t=false) (fun t=>by rw[yF];decide) l (fun d hd t ht=>zsc hk d (Zk.1 h d hd) (hw d hd) t ht) ((l.flatMap fun d=>pk [64]::(wk d.nm::ZU d.args)).length+t.length+1) [] t h1 h2 (by omega)
 simpa using this
def Fol (t:TS):Prop:=isP [58] t=false∧isP [40] t=false∧isP [64] t=false∧isP [123] t=false
theorem Fol.pk {m:List UInt8} (h1:m≠[58]) (h2:m≠[40]) (h3:m≠[64]) (h4:m≠[123]) (t:TS):Fol (pk m::t):=by simp[Fol,yF,h1,h2,h3,h4]
theorem Fol.wk (m:List UInt8) (t:TS):Fol (wk m::t):=by simp[Fol,zcB]
theorem zsg (x:SelD) (t:TS):Fol (tS x++t)∧isP [125] (tS x++t)=false:=by
 obtain⟨k,al,nm,args,dirs,on,sels⟩:=x
 simp only[tS,ZJ]
 split
 ·split
  ·exact⟨Fol.wk _ _,zcB ..⟩
  ·exact⟨Fol.wk _ _,zcB ..⟩
 ·split
  ·exact⟨Fol.pk (by decide) (by decide) (by decide) (by decide) _,by rw[Al6,yF];decide⟩
  ·exact⟨Fol.pk (by decide) (by decide) (by decide) (by decide) _,by rw[Al6,yF];decide⟩
theorem zhT:∀ l,tSl l=l.flatMap tS
 | []=>rfl
 | v::r=>by rw[tSl,zhT r];rfl
theorem zbn {dp:Int}:∀ {l:List SelD},yw dp l=true→∀ v∈l,z6 dp v=true
 | _::_,h,v,hv=>by
  simp only[yw,Al0] at h
  exact(List.mem_cons.1 hv).elim (fun e=>e▸h.1) (zbn h.2 v)
theorem zcS:∀ {l:List SelD},zdc l→∀ v∈l,wfS v
 | _::_,h,v,hv=>(List.mem_cons.1 hv).elim (fun e=>e▸h.1) (zcS h.2 v)
theorem zh3 (m:List UInt8) (hm:m≠[64]) (l:List DirD) (t:TS) (ht:isP m t=false):isP m (tDs l++t)=false:=by
 cases l with
 | nil=>exact ht
 | cons d l=>simp only[zlT,List.flatMap_cons,Al6,yF];exact decide_eq_false (Ne.symm hm)
theorem zrl (m:List UInt8) (hm:m≠[40]) (l:List Mem) (t:TS) (ht:isP m t=false):isP m (ZU l++t)=false:=by
 unfold ZU
 split
 ·exact ht
 ·simp only[Al6,yF];exact decide_eq_false (Ne.symm hm)
theorem zkM (m:List UInt8) (hm:m≠[123]) (l:List SelD) (t:TS) (ht:isP m t=false):isP m ((if l.length=0 then [] else pk [123]::(tSl l++[pk [125]]))++t)=false:=by
 split
 ·exact ht
 ·simp only[Al6,yF];exact decide_eq_false (Ne.symm hm)
theorem zrZ (k:Nat) (dp:Int) (hk:dp+k=16) (x:SelD) (hr:z6 dp x=true) (hw:wfS x) (hs:∀(l:List SelD) (t:TS),l.length≠0→dp+1≤16→yw (dp+1) l=true→bSs l<bS x→zdc l→yo k (tBl l++t)=.ok (l,t)) (t:TS) (ht:Fol t):zay (yo k) k (tS x++t)=.ok (x,t):=by
 obtain⟨kd,al,nm,args,dirs,on,sels⟩:=x
 obtain⟨hwa,hwd,hws⟩:=hw
 obtain⟨t1,t2,t3,t4⟩:=ht
 simp only[z6,Al0] at hr
 obtain⟨hd,hr⟩:=hr
 have hbs:bSs sels<bS (.mk kd al nm args dirs on sels):=by simp only[bS];omega
 have hb:isP [64] ((if sels.length=0 then [] else pk [123]::(tSl sels++[pk [125]]))++t)=false:=zkM _ (by decide) _ _ t3
 have hb2:isP [40] ((if sels.length=0 then [] else pk [123]::(tSl sels++[pk [125]]))++t)=false:=zkM _ (by decide) _ _ t2
 have hdd:=zf5 hk dirs hd hwd _ hb2 hb
 by_cases k0:kd=0
 ·subst k0
  simp only[if_true,Al0,Z0,zL] at hr
  obtain⟨r1,r2,r3,r4,r5⟩:=hr
  subst r3
  have ha:=ziM hk args r4 hwa (tDs dirs++((if sels.length=0 then [] else pk [123]::(tSl sels++[pk [125]]))++t)) (zh3 _ (by decide) _ _ hb2)
  have hend:pb (if isP [123] ((if sels.length=0 then [] else pk [123]::(tSl sels++[pk [125]]))++t) then yo k ((if sels.length=0 then [] else pk [123]::(tSl sels++[pk [125]]))++t) else .ok ([],(if sels.length=0 then [] else pk [123]::(tSl sels++[pk [125]]))++t)) (fun l t=>(.ok (SelD.mk 0 al nm args dirs [] l,t):PR SelD))=.ok (SelD.mk 0 al nm args dirs [] sels,t):=by
   by_cases h0:sels.length=0
   ·simp only[h0,if_true,Zg,t4,Al7,if_false,pb]
    rw[zap.1 h0]
   ·rcases r5 with r5|r5
    ·exact absurd r5 h0
    ·have:=hs sels t h0 r5.1 r5.2 hbs hws
     simp only[tBl,Al6] at this
     simp only[h0,if_false,Al6,yF,decide_true,if_true,this,pb]
  by_cases hal:al=[]
  ·subst hal
   have e:tS (.mk 0 [] nm args dirs [] sels)++t=wk nm::(ZU args++(tDs dirs++((if sels.length=0 then [] else pk [123]::(tSl sels++[pk [125]]))++t))):=by simp[tS]
   have c1:isP [58] (ZU args++(tDs dirs++((if sels.length=0 then [] else pk [123]::(tSl sels++[pk [125]]))++t)))=false:=zrl _ (by decide) _ _ (zh3 _ (by decide) _ _ (zkM _ (by decide) _ _ t1))
   rw[e]
   unfold zay
   rw[zcB,Zs]
   simp only[Al7,if_false,zF,c1,ha,hdd]
   exact hend
  ·have e:tS (.mk 0 al nm args dirs [] sels)++t=wk al::pk [58]::wk nm::(ZU args++(tDs dirs++((if sels.length=0 then [] else pk [123]::(tSl sels++[pk [125]]))++t))):=by simp[tS,hal]
   rw[e]
   unfold zay
   rw[zcB,Zs]
   simp only[Al7,if_false,zF,yF,decide_true,if_true,List.tail_cons,Zs,ha,hdd]
   exact hend
 by_cases k1:kd=1
 ·subst k1
  simp only[reduceCtorEq,if_false,if_true,Al0,zL,show ¬ ((1:Int)=0) by decide] at hr
  obtain⟨r1,r2,r3,r4,r5,r6⟩:=hr
  subst r3;subst r4
  have e5:=zap.1 r5
  have e6:=zap.1 r6
  subst e5;subst e6
  have e:tS (.mk 1 [] nm [] dirs [] [])++t=pk [46,46,46]::wk nm::(tDs dirs++t):=by simp[tS]
  have hw2:isW [111,110] (wk nm::(tDs dirs++t))=false:=by rw[zfw];exact decide_eq_false r2
  have hk2:(hdT (wk nm::(tDs dirs++t))).k=2:=rfl
  simp only[Al3,if_true,Zg] at hdd
  rw[e]
  unfold zay
  rw[yF]
  simp only[decide_true,if_true,List.tail_cons]
  unfold Zp
  rw[if_pos ⟨hk2,hw2⟩,Zs]
  simp only[zF,hdd]
 by_cases k2:kd=2
 ·subst k2
  simp only[if_false,if_true,Al0,Z0,zL,show ¬ ((2:Int)=0) by decide,show ¬ ((2:Int)=1) by decide] at hr
  obtain⟨r1,r2,r3,r4,r5,r6,r7⟩:=hr
  subst r1;subst r2
  have e3:=zap.1 r3
  subst e3
  have hs2:=hs sels t r5 r6 r7 hbs hws
  simp only[r5,if_false] at hdd
  simp only[tBl] at hs2
  by_cases ho:on=[]
  ·subst ho
   have e:tS (.mk 2 [] [] [] dirs [] sels)++t=pk [46,46,46]::(tDs dirs++(pk [123]::(tSl sels++[pk [125]])++t)):=by simp[tS,r5]
   have hnw:(hdT (tDs dirs++(pk [123]::(tSl sels++[pk [125]])++t))).k=1:=by
    cases dirs with
    | nil=>rfl
    | cons d l=>rfl
   have hn2:¬ ((hdT (tDs dirs++(pk [123]::(tSl sels++[pk [125]])++t))).k=2∧isW [111,110] (tDs dirs++(pk [123]::(tSl sels++[pk [125]])++t))=false):=fun h=>by rw[hnw] at h;exact absurd h.1 (by decide)
   have hn3:isW [111,110] (tDs dirs++(pk [123]::(tSl sels++[pk [125]])++t))=false:=by unfold isW;rw[hnw];rfl
   rw[e]
   unfold zay
   rw[yF]
   simp only[decide_true,if_true,List.tail_cons]
   unfold Zp
   rw[if_neg hn2,hn3]
   simp only[Al7,if_false,zF,hdd,hs2]
  ·have e:tS (.mk 2 [] [] [] dirs on sels)++t=pk [46,46,46]::wk [111,110]::wk on::(tDs dirs++(pk [123]::(tSl sels++[pk [125]])++t)):=by simp[tS,r5,ho]
   rw[e]
   unfold zay
   rw[yF]
   simp only[decide_true,if_true,List.tail_cons]
   unfold Zp
   rw[if_neg (by rw[zfw];simp),zfw]
   simp only[decide_true,if_true,List.tail_cons,Zs,zF,hdd,hs2]
 ·simp only[k0,k1,k2,if_false,Al7] at hr
theorem zjQ:∀(c k:Nat) (dp:Int) (l:List SelD) (t:TS),bSs l≤c→dp+k=17→l.length≠0→dp≤16→yw dp l=true→zdc l→yo k (tBl l++t)=.ok (l,t)
 | c,0,dp,l,t,_,hk,_,hd,_,_=>by omega
 | c,k+1,dp,l,t,hc,hk,hl,hd,hr,hw=>by
  have e:tBl l++t=pk [123]::(l.flatMap tS++pk [125]::t):=by simp[tBl,zhT]
  have hne:l≠[]:=fun h=>hl (by rw[h];rfl)
  rw[e,yo,yF]
  simp only[decide_true,if_true,List.tail_cons]
  refine zcR (F:=Fol) (fun t=>Fol.pk (by decide) (by decide) (by decide) (by decide) t) l hne (fun x _ t=>(zsg x t).1) (fun x _ t=>(zsg x t).2) (fun x hx t ht=>?_) t
  refine zrZ k dp (by omega) x (zbn hr x hx) (zcS hw x hx) (fun l' t' h1 h2 h3 h4 h5=>?_) t ht
  have hb:bS x≤bSs l:=by
   obtain⟨a,b,h⟩:=List.append_of_mem hx
   rw[h,zgZ];omega
  cases c with
  | zero=>omega
  | succ c=>exact zjQ c k (dp+1) l' t' (by omega) (by omega) h1 h2 h3 h5
theorem zjj (l:List SelD) (t:TS) (h:zQ 1 l=true) (hw:zdc l):yo 16 (tBl l++t)=.ok (l,t):=by
 simp only[zQ,Al0,zL] at h
 exact zjQ (bSs l) 16 1 l t (Al4 _) (by decide) h.1 h.2.1 h.2.2 hw
theorem zhy (ty:TyD) (h:yy ty=true) (t:TS) (ht:isP [33] t=false):zb1 4 (tTy ty++t)=.ok (ty,t):=by
 simp only[yy,Al0,zL] at h
 obtain⟨_,h1,h2,h3,h4⟩:=h
 have:=zmo ty.nm ty.lists.toNat 4 ty.musts t (by omega) h3 h4 ht
 rw[Int.toNat_of_nonneg h1] at this
 exact this
theorem zv9 {v:Val} (h:eqd v zV=true):v=zV:=by
 by_cases e:v=zV
 ·exact e
 ·rw[zn e] at h;cases h
theorem zrs (x:VarD) (h:zaF x=true) (hw:wfW x) (t:TS) (h1:isP [33] t=false) (h2:isP [61] t=false):zaX (tW x++t)=.ok (x,t):=by
 obtain⟨nm,ty,has,d⟩:=x
 simp only[zaF,Al0] at h
 obtain⟨_,r1,r2⟩:=h
 cases has with
 | true =>
  simp only[zdM,if_true] at r2
  have e:tW ⟨nm,ty,true,d⟩++t=pk [36]::wk nm::pk [58]::(tTy ty++(pk [61]::(yD d++t))):=by simp[tW,tDf]
  rw[e]
  unfold zaX
  simp only[zc2,zF,Zs,zhy ty r1 _ (show isP [33] (pk [61]::(yD d++t))=false by rw[yF];decide),yF,decide_true,if_true,List.tail_cons,zhk (dp:=0) (k:=16) (by decide) r2 hw.2.2 t]
 | false =>
  simp only[zdM,Al7,if_false] at r2
  have e:tW ⟨nm,ty,false,d⟩++t=pk [36]::wk nm::pk [58]::(tTy ty++t):=by simp[tW,tDf]
  rw[e,zv9 r2]
  unfold zaX
  simp only[zc2,zF,Zs,zhy ty r1 _ h1,h2,Al7,if_false]
theorem zjc (l:List SelD) (t:TS):isP [40] (tBl l++t)=false∧isP [64] (tBl l++t)=false:=by
 simp only[tBl,Al6,yF];decide
theorem zpH (l:List VarD) (h:l.all zaF=true) (hw:∀ x∈l,wfW x) (t:TS) (ht:isP [40] t=false):(if isP [40] (tWs l++t) then zaA [41] zaX (tWs l++t).tail else .ok ([],tWs l++t))=(.ok (l,t):PR (List VarD)):=by
 unfold tWs
 by_cases hl:l.length=0
 ·rw[zap] at hl
  subst hl
  simp[ht]
 ·have hne:l≠[]:=fun e=>hl (by rw[e];rfl)
  have e:pk [40]::(l.flatMap tW++[pk [41]])++t=pk [40]::(l.flatMap tW++pk [41]::t):=by simp
  rw[if_neg hl,e,yF]
  simp only[decide_true,if_true,List.tail_cons]
  have hd:∀(x:VarD) (t:TS) (m:List UInt8),m≠[36]→isP m (tW x++t)=false:=fun x t m hm=>by simp only[tW,Al6,yF];exact decide_eq_false (Ne.symm hm)
  exact zcR (F:=fun t=>isP [33] t=false∧isP [61] t=false) (fun t=>by simp only[yF];decide) l hne (fun x _ t=>⟨hd x t _ (by decide),hd x t _ (by decide)⟩) (fun x _ t=>hd x t _ (by decide))
   (fun x hx t ht=>zrs x (Zk.1 h x hx) (hw x hx) t ht.1 ht.2) t
theorem ztf (o:OpD) (h:ZC o=true) (hw:wfO o) (t:TS):opP o.k ((if o.nm=[] then [] else [wk o.nm])++(tWs o.vars++(tDs o.dirs++tBl o.sels))++t)=.ok (o,t):=by
 obtain⟨k,nm,vars,dirs,sels⟩:=o
 simp only[ZC,Al0] at h
 obtain⟨_,_,h1,h2,h3⟩:=h
 obtain⟨w1,w2,w3⟩:=hw
 have f:=zjc sels t
 have hv:=zpH vars h1 w1 (tDs dirs++(tBl sels++t)) (zh3 _ (by decide) _ _ f.1)
 have hd:=zf5 (k:=16) (by decide) dirs h2 w2 (tBl sels++t) f.1 f.2
 have hs:=zjj sels t h3 w3
 simp only[ZJ]
 unfold opP
 have hk:(hdT (tWs vars++(tDs dirs++(tBl sels++t)))).k=1:=by
  unfold tWs
  split
  ·cases dirs<;>rfl
  ·rfl
 by_cases hn:nm=[]
 ·subst hn
  simp only[if_true,Zg,hk,show ¬ ((1:Int)=2) by decide,if_false,zF,hv,hd,hs]
 ·simp only[hn,if_false,Al6,Zg,show (hdT (wk nm::(tWs vars++(tDs dirs++(tBl sels++t))))).k=2 from rfl,if_true,Zs,zF,hv,hd,hs]
theorem zp6 (f:FragD) (h:Y7 f=true) (hw:wfF f) (t:TS):zcG (wk f.nm::wk [111,110]::wk f.on::(tDs f.dirs++tBl f.sels)++t)=.ok (f,t):=by
 obtain⟨nm,on,dirs,sels⟩:=f
 simp only[Y7,Al0,zL] at h
 obtain⟨h0,_,_,h2,h3⟩:=h
 have f:=zjc sels t
 have hd:=zf5 (k:=16) (by decide) dirs h2 hw.1 (tBl sels++t) f.1 f.2
 have hs:=zjj sels t h3 hw.2
 simp only[Al6,ZJ]
 unfold zcG
 simp only[zfw,decide_eq_false h0,Al7,if_false,Zs,zF,decide_true,if_true,List.tail_cons,hd,hs]
theorem znX (d:DocD) (o:OpD) (h:ZC o=true) (hw:wfO o) (t:TS):Yj d (tO o++t)=.ok (⟨d.ops++[o],d.frags⟩,t):=by
 have hp:=ztf o h hw t
 have hk:o.k=0∨o.k=1:=by
  simp only[ZC,Al0,Z0,zL] at h;exact h.1
 unfold Yj tO
 rcases hk with hk|hk<;>rw[hk] at hp<;>simp[hk,zcB,zfw]<;>simp only[ZJ] at hp<;>rw[hp]<;>rfl
theorem ziH (d:DocD) (f:FragD) (h:Y7 f=true) (hw:wfF f) (t:TS):Yj d (tF f++t)=.ok (⟨d.ops,d.frags++[f]⟩,t):=by
 have hp:=zp6 f h hw t
 unfold Yj tF
 simp only[Al6,ZJ] at hp
 simp[zcB,zfw,hp,pb]
theorem zi9:∀(l:List OpD),l.all ZC=true→(∀ x∈l,wfO x)→∀(n:Nat) (d:DocD) (t:TS),Yk (n+l.length) d (l.flatMap tO++t)=Yk n ⟨d.ops++l,d.frags⟩ t
 | [],_,_,n,d,t=>by simp
 | o::l,h,hw,n,d,t=>by
  simp only[List.all_cons,Al0] at h
  have e:n+(o::l).length=(n+l.length)+1:=by simp;omega
  rw[e,Yk,if_neg (by simp[tO])]
  simp only[List.flatMap_cons,ZJ,znX d o h.1 (hw o (by simp)),zF]
  rw[zi9 l h.2 (fun x hx=>hw x (by simp[hx])) n]
  simp
theorem zgw:∀(l:List FragD),l.all Y7=true→(∀ x∈l,wfF x)→∀(n:Nat) (d:DocD) (t:TS),Yk (n+l.length) d (l.flatMap tF++t)=Yk n ⟨d.ops,d.frags++l⟩ t
 | [],_,_,n,d,t=>by simp
 | o::l,h,hw,n,d,t=>by
  simp only[List.all_cons,Al0] at h
  have e:n+(o::l).length=(n+l.length)+1:=by simp;omega
  rw[e,Yk,if_neg (by simp[tF])]
  simp only[List.flatMap_cons,ZJ,ziH d o h.1 (hw o (by simp)),zF]
  rw[zgw l h.2 (fun x hx=>hw x (by simp[hx])) n]
  simp
theorem ziQ (ops:List OpD) (frags:List FragD) (h1:ops.all ZC=true) (h2:frags.all Y7=true) (w1:∀ x∈ops,wfO x) (w2:∀ x∈frags,wfF x) (d:DocD) (n:Nat) (hn:ops.length+frags.length<n) :
  Yk n d (ops.flatMap tO++frags.flatMap tF)=.ok (⟨d.ops++ops,d.frags++frags⟩,[]):=by
 obtain⟨k,rfl⟩:∃ k,n=k+1+frags.length+ops.length:=⟨n-1-frags.length-ops.length,by omega⟩
 rw[zi9 ops h1 w1]
 have:=zgw frags h2 w2 (k+1) ⟨d.ops++ops,d.frags⟩ []
 rw[List.append_nil] at this
 rw[this,Yk,if_pos rfl]
theorem zrH (d:DocD) (h:yQ d=true) (hw:zaK d):ze8 (Y3 d)=.ok (d,[]):=by
 obtain⟨ops,frags⟩:=d
 simp only[yQ,Al0,zL] at h
 obtain⟨h0,h1,h2⟩:=h
 obtain⟨w1,w2⟩:=hw
 have hlo:∀ l:List OpD,l.length≤(l.flatMap tO).length:=fun l=>Y5 l fun x _=>by simp[tO]
 have hlf:∀ l:List FragD,l.length≤(l.flatMap tF).length:=fun l=>Y5 l fun x _=>by simp[tF]
 unfold ze8 Y3
 cases ops with
 | cons o ops =>
  simp only[List.all_cons,Al0] at h1
  simp only[List.flatMap_cons,ZJ,znX _ o h1.1 (w1 o (by simp)),zF]
  rw[ziQ ops frags h1.2 h2 (fun x hx=>w1 x (by simp[hx])) w2 _ _ (by have:=hlo ops;have:=hlf frags;simp only[Al5];omega)]
  simp
 | nil =>
  cases frags with
  | nil=>simp at h0
  | cons f frags =>
   simp only[List.all_cons,Al0] at h2
   simp only[List.flatMap_nil,Zg,List.flatMap_cons,ziH _ f h2.1 (w2 f (by simp)),zF]
   have:=ziQ [] frags rfl h2.2 (fun x hx=>by cases hx) (fun x hx=>w2 x (by simp[hx])) ⟨[],[f]⟩ ((frags.flatMap tF).length+1) (by have:=hlf frags;simp only[Al3];omega)
   simp only[List.flatMap_nil,Zg,List.append_nil] at this
   rw[this]
   simp
end Go.Proofs.YticbbfbpeimkbaaGreatDoor
