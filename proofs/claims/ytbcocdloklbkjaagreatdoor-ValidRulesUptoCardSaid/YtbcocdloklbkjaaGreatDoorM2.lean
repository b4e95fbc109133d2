import Derived.RangeFuncSeq
import Derived.Below
import Derived.RangeFuncLeaves
import Derived.ProofKit
import Derived.SizedLaws
import Derived.WideKeyArgs
import Derived.Recover
import Derived.Test.YtbcocdloklbkjaaGreatDoorM1
set_option maxRecDepth 100000
set_option linter.all false
namespace Go.Ab
def Ze (P:Program) (t:TypeId):Option TypeInfo :=
 match P.underlying t with
 | some (.slice e)=>P.info? e
 | _=>none
def yb (P:Program) (o:Oper):AOp→Bool
 | .mv y=>match o.op with
  | .move x=>zz x y
  | .assign x=>zz x y
  | _=>false
 | .pick a b c=>match o.op with
  | .pick x y z=>zz x a&&zz y b&&zz z c
  | _=>false
 | .nilchk y=>match o.op with
  | .nilCheck x=>zz x y
  | _=>false
 | .bi op k a b=>match o.op with
  | .binOp op' _ x y _=>decide (op'=op)&&decide (op≠.shl)&&decide (op≠.shr)&&zz x a&&zz y b
  | _=>false
 | .shf op a b=>match o.op with
  | .binOp op' _ x y _=>decide (op'=op)&&zz x a&&zz y b
  | _=>false
 | .bs op a b=>match o.op with
  | .binOp op' _ x y _=>decide (op'=op)&&zz x a&&zz y b
  | _=>false
 | .bb neg a b=>match o.op with
  | .binOp op' t x y _=>decide (op'=if neg then .neq else .eql)&&zz x a&&zz y b&&(match P.underlying t with|some .bool=>true|_=>false)
  | _=>false
 | .eqa neg ks a b=>match o.op with
  | .binOp op' t x y _=>decide (op'=if neg then .neq else .eql)&&zz x a&&zz y b&&(match P.underlying t with|some (.struct fs)=>za7 P fs.toList 0 ks|_=>false)&&!P.stoodInHeld t&&!P.eqGuardType P.depth t
  | _=>false
 | .isnil nk a=>match o.op with
  | .binOp .eql t x y _=>zz x a&&zhS nk (P.underlying t) y
  | _=>false
 | .isnn nk a=>match o.op with
  | .binOp .neq t x y _=>zz x a&&zhS nk (P.underlying t) y
  | _=>false
 | .ifnil neg a=>match o.op with
  | .binOp op' t x y _=>decide (op'=if neg then .neq else .eql)&&zz x a&&(match y with|.const .nilIface=>true|_=>false)&&isIface (P.underlying t)
  | _=>false
 | .tas t zero a=>match o.op with
  | .typeAssert x _ t' true=>decide (t'=t)&&zz x a&&zan (P.underlying t)&&((P.info? t).any fun ti=>ti.zero.any fun z=>zkA z zero)
  | _=>false
 | .ineg a=>match o.op with
  | .unOp .neg _ x=>zz x a
  | _=>false
 | .not a=>match o.op with
  | .unOp .not _ x=>zz x a
  | _=>false
 | .cvi k a=>match o.op with
  | .convert s d x=>zz x a&&(P.underlying s).isSome&&(match P.underlying d with|some (.int k')=>decide (k'=k)|_=>false)
  | _=>false
 | .cvid a=>match o.op with
  | .convert s d x=>zz x a&&(P.underlying s).isSome&&(match P.underlying d with|some .string=>true|_=>false)
  | _=>false
 | .cvb2s a=>match o.op with
  | .convert s d x=>zz x a&&(match P.underlying s with|some (.slice e)=>(match P.underlying e with|some (.int .u8)=>true|_=>false)|_=>false)&&(match P.underlying d with|some .string=>true|_=>false)
  | _=>false
 | .bld zero qs=>match o.op with
  | .build t parts=>((P.info? t).any fun ti=>ti.zero.any fun z=>ZY z.cells.toList zero)&&((ziJ P t).any fun place=>zaZ place parts.toList qs)
  | _=>false
 | .bls sz n zero qs=>match o.op with
  | .buildSlice t n' parts=>decide (n'=n)&&((Ze P t).any fun ei=>decide (ei.size=sz)&&ei.zero.any fun z=>ZY z.cells.toList zero)&&decide (0<sz)&&decide (n*sz≤2 ^ 24)&&ZJ parts.toList qs
  | _=>false
 | .bls2 sz n zero qs=>match o.op with
  | .buildSlice t n' parts=>decide (n'=n)&&((Ze P t).any fun ei=>decide (ei.size=sz)&&ei.zero.any fun z=>ZY z.cells.toList zero)&&decide (0<sz)&&decide (n*sz≤2 ^ 24)&&ZJ parts.toList qs
  | _=>false
 | .mkfn f first caps=>match o.op with
  | .makeFunc (.func f') a b=>decide (f'=f)&&YU a.toList first&&YU b.toList caps
  | _=>false
 | .ext a i=>match o.op with
  | .extract x i'=>decide (i'=i)&&zz x a
  | _=>false
 | .mki t a=>match o.op with
  | .makeInterface t' x=>decide (t'=t)&&zz x a&&zan (P.underlying t)
  | _=>false
 | .fa off a=>match o.op with
  | .fieldAddr s x i=>zz x a&&(match P.underlying s with
    | some (.struct fs)=>(fs[i]?.any fun f=>decide (f.offset=off)&&(P.info? f.type).any fun fi=>decide (fi.size≠0))
    | _=>false)
  | _=>false
 | .fld off n ag a=>match o.op with
  | .field t x i=>zz x a&&(match P.underlying t with
    | some (.struct fs)=>(fs[i]?.any fun f=>decide (f.offset=off)&&((P.info? f.type).any fun fi=>decide (fi.size=n))&&(P.underlying f.type).isSome&&decide (zcG (P.underlying f.type)=ag)&&(ag||decide (n=1)))
    | _=>false)
  | _=>false
 | .ia sz a i=>match o.op with
  | .indexAddr t x y=>zz x a&&zz y i&&((Ze P t).any fun ei=>decide (ei.size=sz))
  | _=>false
 | .iar n sz a i=>match o.op with
  | .indexAddr t x y=>zz x a&&zz y i&&(match P.underlying t with|some (.array n' e)=>decide (n'=n)&&((P.info? e).any fun ei=>decide (ei.size=sz))|_=>false)
  | _=>false
 | .ixs a i=>match o.op with
  | .index t x y=>zz x a&&zz y i&&(match P.underlying t with|some .string=>true|_=>false)
  | _=>false
 | .sls a lo hi=>match o.op with
  | .slice t x l h none=>zz x a&&zav l lo&&zav h hi&&(match P.underlying t with|some .string=>true|_=>false)
  | _=>false
 | .sll sz a lo hi mx=>match o.op with
  | .slice t x l h m=>zz x a&&zav l lo&&zav h hi&&zav m mx&&(!mx.isSome||hi.isSome)&&((Ze P t).any fun ei=>decide (ei.size=sz))
  | _=>false
 | .sllx sz a hi=>match o.op with
  | .slice t x none (some h) none=>zz x a&&zz h hi&&((Ze P t).any fun ei=>decide (ei.size=sz))
  | _=>false
 | .len a=>match o.op with
  | .call { callee:=.builtin .len,args:=as,argTypes:=ts }=>match as.toList with
   | [x]=>zz x a&&(ts[0]?.any fun t=>match P.underlying t with|some (.slice _)=>true|_=>false)
   | _=>false
  | _=>false
 | .lens a=>match o.op with
  | .call { callee:=.builtin .len,args:=as,argTypes:=ts }=>match as.toList with
   | [x]=>zz x a&&(ts[0]?.any fun t=>match P.underlying t with|some .string=>true|_=>false)
   | _=>false
  | _=>false
 | .lenm a=>match o.op with
  | .call { callee:=.builtin .len,args:=as,argTypes:=ts }=>match as.toList with
   | [x]=>zz x a&&(ts[0]?.any fun t=>match P.underlying t with|some (.map _ _)=>true|_=>false)
   | _=>false
  | _=>false
 | .mm mx a ys=>match o.op with
  | .call { callee:=.builtin b,args:=args,argTypes:=_ }=>decide (b=if mx then .max else .min)&&(match args.toList with|x::r=>zz x a&&YU r ys|[]=>false)
  | _=>false
 | .boxv a=>match o.op with
  | .box _ x=>zz x a
  | _=>false
 | .ld n ag a=>match o.op with
  | .load t x=>zz x a&&((P.info? t).any fun ti=>decide (ti.size=n))&&(P.underlying t).isSome&&decide (zcG (P.underlying t)=ag)&&(ag||decide (n=1))
  | _=>false
 | .lkp kt zero ok m k=>match o.op with
  | .lookup t m' k' ok'=>decide (ok'=ok)&&zz m' m&&zz k' k&&(match P.underlying t with
    | some (.map key elem)=>zch P key kt&&(P.underlying key).isSome&&((P.info? elem).any fun ei=>ei.zero.any fun z=>zkA z zero)
    | _=>false)
  | _=>false
 | .alloc zero=>match o.op with
  | .alloc t=>((P.info? t).any fun ti=>ti.zero.any fun z=>ZY z.cells.toList zero)
  | _=>false
 | .box a=>match o.op with
  | .box _ x=>zz x a
  | _=>false
 | .mkm _=>match o.op with
  | .makeMap _ none=>true
  | _=>false
 | .st n a b=>match o.op with
  | .store t x y=>zz x a&&zz y b&&((P.info? t).any fun ti=>decide (ti.size=n))
  | _=>false
 | .mup kt m k v=>match o.op with
  | .mapUpdate t m' k' v'=>zz m' m&&zz k' k&&zz v' v&&(match P.underlying t with|some (.map key _)=>zch P key kt&&(P.underlying key).isSome|_=>false)
  | .insert t m' k' v'=>zz m' m&&zz k' k&&zz v' v&&(match P.underlying t with|some (.map key _)=>zch P key kt&&(P.underlying key).isSome|_=>false)
  | _=>false
 | .app sz bytes a b=>match o.op with
  | .call { callee:=.builtin .append,args:=as,argTypes:=ts }=>match as.toList,ts.toList with
   | [x,y],[t,tx]=>zz x a&&zz y b&&((Ze P t).any fun ei=>decide (ei.size=sz)&&decide (ei.bytes=bytes)&&ei.zero.any fun z=>decide (z.cells.size=sz))&&decide (0<sz)&&(match P.underlying tx with|some (.slice _)=>true|_=>false)
   | _,_=>false
  | _=>false
 | .appm sz bytes zero a b=>match o.op with
  | .call { callee:=.builtin .append,args:=as,argTypes:=ts }=>match as.toList,ts.toList with
   | [x,y],[t,tx]=>zz x a&&zz y b&&((Ze P t).any fun ei=>decide (ei.size=sz)&&decide (ei.bytes=bytes)&&ei.zero.any fun z=>decide (z.cells.size=sz)&&ZY z.cells.toList zero)&&decide (0<sz)&&(match P.underlying tx with|some (.slice _)=>true|_=>false)
   | _,_=>false
  | _=>false
 | .appm2 sz bytes zero a b=>match o.op with
  | .call { callee:=.builtin .append,args:=as,argTypes:=ts }=>match as.toList,ts.toList with
   | [x,y],[t,tx]=>zz x a&&zz y b&&((Ze P t).any fun ei=>decide (ei.size=sz)&&decide (ei.bytes=bytes)&&ei.zero.any fun z=>decide (z.cells.size=sz)&&ZY z.cells.toList zero)&&decide (0<sz)&&(match P.underlying tx with|some (.slice _)=>true|_=>false)
   | _,_=>false
  | _=>false
 | .slar n a hi=>match o.op with
  | .slice t x none (some h) none=>zz x a&&zz h hi&&(match P.underlying t with|some (.array n' e)=>decide (n'=n)&&decide (n≤maxLen)&&(P.info? e).isSome|_=>false)
  | _=>false
 | .slaf n _ a hi=>match o.op with
  | .slice t x none (some h) none=>zz x a&&zz h hi&&(match P.underlying t with|some (.array n' e)=>decide (n'=n)&&decide (n≤maxLen)&&(P.info? e).isSome|_=>false)
  | _=>false
 | .frz _ y=>match o.op with
  | .move x=>zz x y
  | .assign x=>zz x y
  | _=>false
 | .blsm sz n zero qs=>match o.op with
  | .buildSlice t n' parts=>decide (n'=n)&&((Ze P t).any fun ei=>decide (ei.size=sz)&&ei.zero.any fun z=>ZY z.cells.toList zero)&&decide (0<sz)&&decide (n*sz≤2 ^ 24)&&ZJ parts.toList qs
  | _=>false
 | .apps a b=>match o.op with
  | .call { callee:=.builtin .append,args:=as,argTypes:=ts }=>match as.toList,ts.toList with
   | [x,y],[t,tx]=>zz x a&&zz y b&&((Ze P t).any fun ei=>decide (ei.size=1)&&decide (ei.bytes=1)&&ei.zero.any fun z=>decide (z.cells.size=1))&&(match P.underlying tx with|some .string=>true|_=>false)
   | _,_=>false
  | _=>false
 | .mks sz bytes n=>match o.op with
  | .makeSlice t x y=>zz x (.k (.int .i64 0))&&zz y n&&((Ze P t).any fun ei=>decide (ei.size=sz)&&decide (ei.bytes=bytes)&&ei.zero.isSome)
  | _=>false
 | .mksn zero bytes n=>match o.op with
  | .makeSlice t x y=>zz x n&&zz y n&&((Ze P t).any fun ei=>decide (ei.bytes=bytes)&&decide (0<ei.size)&&ei.zero.any fun z=>ZY z.cells.toList zero&&decide (z.cells.size=ei.size))
  | _=>false
 | .call f args=>match o.op with
  | .call { callee:=.value (.func f'),args:=as,argTypes:=_ }=>decide (f'=f)&&YU as.toList args&&Program.callable P f
  | _=>false
 | .callv g args=>match o.op with
  | .call { callee:=.value g',args:=as,argTypes:=_ }=>zz g' g&&YU as.toList args
  | _=>false
 | .pan a=>match o.op with
  | .panic x=>zz x a
  | _=>false
theorem yx {P:Program} {t:TypeId} {ei:TypeInfo} (h:Ze P t=some ei):∃ e,P.underlying t=some (.slice e)∧P.info? e=some ei:=by
 unfold Ze at h
 split at h
 ·rename_i e he;exact⟨e,he,h⟩
 ·cases h
theorem zL {α:Type} {x:Option α} {p:α→Bool} (h:x.any p=true):∃ y,x=some y∧p y=true:=by
 cases x with
 | none=>simp at h
 | some y=>exact⟨y,rfl,by simpa using h⟩
theorem za3 {α:Type} {a:Array α} {l:List α} (h:a.toList=l):a=l.toArray:=by
 apply Array.ext';simpa using h
theorem zkg {P:Program} {o:Oper} {ao:AOp} (h:yb P o ao=true):zbI P o ao:=by
 cases ao with
 | mv y =>
  simp only[yb] at h
  split at h
  ·rename_i ho;exact zC rfl (zrt (.inl ho) h)
  ·rename_i ho;exact zC rfl (zrt (.inr ho) h)
  ·cases h
 | pick a b c =>
  simp only[yb] at h
  split at h
  ·rename_i ho;simp only[Al0] at h;exact zC rfl (zqq ho h.1.1 h.1.2 h.2)
  ·cases h
 | nilchk y =>
  simp only[yb] at h
  split at h
  ·rename_i ho;exact zC rfl (znd ho h)
  ·cases h
 | bi op k a b =>
  simp only[yb] at h
  split at h
  ·rename_i ho
   simp only[Al0,yw] at h
   obtain⟨⟨⟨⟨rfl,h1⟩,h2⟩,h3⟩,h4⟩:=h
   exact zC rfl (zul ho h3 h4 h1 h2)
  ·cases h
 | shf op a b =>
  simp only[yb] at h
  split at h
  ·rename_i ho
   simp only[Al0,yw] at h
   obtain⟨⟨rfl,h3⟩,h4⟩:=h
   exact zC rfl (zti ho h3 h4)
  ·cases h
 | bs op a b =>
  simp only[yb] at h
  split at h
  ·rename_i ho
   simp only[Al0,yw] at h
   obtain⟨⟨rfl,h3⟩,h4⟩:=h
   exact zC rfl (ztO ho h3 h4)
  ·cases h
 | bb neg a b =>
  simp only[yb] at h
  split at h
  ·rename_i ho
   simp only[Al0,yw] at h
   obtain⟨⟨⟨h1,h3⟩,h4⟩,h5⟩:=h
   split at h5
   ·rename_i ht;exact zC rfl (zts ho h3 h4 h1 ht)
   ·cases h5
  ·cases h
 | eqa neg ks a b =>
  simp only[yb] at h
  split at h
  ·rename_i ho
   simp only[Al0,yw,Bool.not_eq_true'] at h
   obtain⟨⟨⟨⟨⟨h1,h3⟩,h4⟩,h5⟩,h6⟩,h7⟩:=h
   split at h5
   ·rename_i ht;exact zC rfl (zsz ho h3 h4 h1 ht h5 h6 h7)
   ·cases h5
  ·cases h
 | isnil nk a =>
  simp only[yb] at h
  split at h
  ·rename_i ho
   simp only[Al0] at h
   exact zC rfl (zn0 ho h.1 h.2)
  ·cases h
 | isnn nk a =>
  simp only[yb] at h
  split at h
  ·rename_i ho
   simp only[Al0] at h
   exact zC rfl (zpH ho h.1 h.2)
  ·cases h
 | ifnil neg a =>
  simp only[yb] at h
  split at h
  ·rename_i ho
   simp only[Al0,yw] at h
   obtain⟨⟨⟨h1,h2⟩,h3⟩,h4⟩:=h
   split at h3
   ·exact zC rfl (zoY ho h1 h2 rfl h4)
   ·cases h3
  ·cases h
 | tas t zero a =>
  simp only[yb] at h
  split at h
  ·rename_i ho
   simp only[Al0,yw] at h
   obtain⟨⟨⟨h1,h2⟩,h3⟩,h4⟩:=h
   obtain⟨ti,hti,h5⟩:=zL h4
   obtain⟨z,hz,h6⟩:=zL h5
   subst h1
   exact zC rfl (zs7 ho h2 h3 hti hz h6)
  ·cases h
 | ineg a =>
  simp only[yb] at h
  split at h
  ·rename_i ho;exact zC rfl (zpK ho h)
  ·cases h
 | not a =>
  simp only[yb] at h
  split at h
  ·rename_i ho;exact zC rfl (zsA ho h)
  ·cases h
 | cvi k a =>
  simp only[yb] at h
  split at h
  ·rename_i ho
   simp only[Al0] at h
   obtain⟨⟨h1,h2⟩,h3⟩:=h
   obtain⟨ds,hds⟩:=zd4.1 h2
   split at h3
   ·rename_i hd;simp only[yw] at h3;subst h3;exact zC rfl (zsy ho h1 hds hd)
   ·cases h3
  ·cases h
 | cvid a =>
  simp only[yb] at h
  split at h
  ·rename_i ho
   simp only[Al0] at h
   obtain⟨⟨h1,h2⟩,h3⟩:=h
   obtain⟨ds,hds⟩:=zd4.1 h2
   split at h3
   ·rename_i hd;exact zC rfl (zp9 ho h1 hds hd)
   ·cases h3
  ·cases h
 | cvb2s a =>
  simp only[yb] at h
  split at h
  ·rename_i ho
   simp only[Al0] at h
   obtain⟨⟨h1,h2⟩,h3⟩:=h
   split at h2
   ·rename_i e he
    split at h2
    ·rename_i he8
     split at h3
     ·rename_i hd;exact zC rfl (zoh ho h1 he he8 hd)
     ·cases h3
    ·cases h2
   ·cases h2
  ·cases h
 | bld zero qs =>
  simp only[yb] at h
  split at h
  ·rename_i ho
   simp only[Al0] at h
   obtain⟨h1,h2⟩:=h
   obtain⟨ti,hti,h1⟩:=zL h1
   obtain⟨z,hz,h1⟩:=zL h1
   obtain⟨pl,hpl,h2⟩:=zL h2
   exact zC rfl (zsu ho hti hz h1 hpl h2)
  ·cases h
 | bls sz n zero qs =>
  simp only[yb] at h
  split at h
  ·rename_i ho
   simp only[Al0,yw] at h
   obtain⟨⟨⟨⟨rfl,h1⟩,h2⟩,h3⟩,h4⟩:=h
   obtain⟨ei,hei,h1⟩:=zL h1
   simp only[Al0,yw] at h1
   obtain⟨h1,h5⟩:=h1
   obtain⟨z,hz,h5⟩:=zL h5
   obtain⟨e,he,hi⟩:=yx hei
   exact zC rfl (zsw ho he hi hz h1 h2 h3 h5 h4)
  ·cases h
 | bls2 sz n zero qs =>
  simp only[yb] at h
  split at h
  ·rename_i ho
   simp only[Al0,yw] at h
   obtain⟨⟨⟨⟨rfl,h1⟩,h2⟩,h3⟩,h4⟩:=h
   obtain⟨ei,hei,h1⟩:=zL h1
   simp only[Al0,yw] at h1
   obtain⟨h1,h5⟩:=h1
   obtain⟨z,hz,h5⟩:=zL h5
   obtain⟨e,he,hi⟩:=yx hei
   exact zC rfl (zqY ho he hi hz h1 h2 h3 h5 h4)
  ·cases h
 | mkfn f first caps =>
  simp only[yb] at h
  split at h
  ·rename_i ho
   simp only[Al0,yw] at h
   obtain⟨⟨rfl,h1⟩,h2⟩:=h
   exact zC rfl (zqa ho h1 h2)
  ·cases h
 | ext a i =>
  simp only[yb] at h
  split at h
  ·rename_i ho
   simp only[Al0,yw] at h
   obtain⟨rfl,h1⟩:=h
   exact zC rfl (zs3 ho h1)
  ·cases h
 | mki t a =>
  simp only[yb] at h
  split at h
  ·rename_i ho
   simp only[Al0,yw] at h
   obtain⟨⟨rfl,h1⟩,h2⟩:=h
   exact zC rfl (zsj ho h1 h2)
  ·cases h
 | fa off a =>
  simp only[yb] at h
  split at h
  ·rename_i ho
   simp only[Al0] at h
   obtain⟨h1,h2⟩:=h
   split at h2
   ·rename_i fs hfs
    obtain⟨f,hf,h2⟩:=zL h2
    simp only[Al0,yw] at h2
    obtain⟨h2,h3⟩:=h2
    obtain⟨fi,hfi,h3⟩:=zL h3
    exact zC rfl (ztQ ho h1 hfs hf h2 hfi (by simpa using h3))
   ·cases h2
  ·cases h
 | fld off n ag a =>
  simp only[yb] at h
  split at h
  ·rename_i ho
   simp only[Al0] at h
   obtain⟨h1,h2⟩:=h
   split at h2
   ·rename_i fs hfs
    obtain⟨f,hf,h2⟩:=zL h2
    simp only[Al0,yw,zii] at h2
    obtain⟨⟨⟨⟨h2,h3⟩,h4⟩,h5⟩,h6⟩:=h2
    obtain⟨fi,hfi,h3⟩:=zL h3
    obtain⟨d,hd⟩:=zd4.1 h4
    exact zC rfl (zsP ho h1 hfs hf h2 hfi (by simpa using h3) hd h5 h6)
   ·cases h2
  ·cases h
 | ia sz a i =>
  simp only[yb] at h
  split at h
  ·rename_i ho
   simp only[Al0] at h
   obtain⟨⟨h1,h2⟩,h3⟩:=h
   obtain⟨ei,hei,h3⟩:=zL h3
   obtain⟨e,he,hi⟩:=yx hei
   exact zC rfl (zt0 ho h1 h2 he hi (by simpa using h3))
  ·cases h
 | iar n sz a i =>
  simp only[yb] at h
  split at h
  ·rename_i ho
   simp only[Al0] at h
   obtain⟨⟨h1,h2⟩,h3⟩:=h
   split at h3
   ·rename_i ht
    simp only[Al0,yw] at h3
    obtain⟨rfl,h3⟩:=h3
    obtain⟨ei,hei,h3⟩:=zL h3
    exact zC rfl (ztb ho h1 h2 ht hei (by simpa using h3))
   ·cases h3
  ·cases h
 | ixs a i =>
  simp only[yb] at h
  split at h
  ·rename_i ho
   simp only[Al0] at h
   obtain⟨⟨h1,h2⟩,h3⟩:=h
   split at h3
   ·rename_i ht;exact zC rfl (zsC ho h1 h2 ht)
   ·cases h3
  ·cases h
 | sls a lo hi =>
  simp only[yb] at h
  split at h
  ·rename_i ho
   simp only[Al0] at h
   obtain⟨⟨⟨h1,h2⟩,h3⟩,h4⟩:=h
   split at h4
   ·rename_i ht;exact zC rfl (zsJ ho h1 h2 h3 ht)
   ·cases h4
  ·cases h
 | sll sz a lo hi mx =>
  simp only[yb] at h
  split at h
  ·rename_i ho
   simp only[Al0,zii,Bool.not_eq_true'] at h
   obtain⟨⟨⟨⟨⟨h1,h2⟩,h3⟩,h4⟩,h5⟩,h6⟩:=h
   obtain⟨ei,hei,h6⟩:=zL h6
   obtain⟨e,he,hi⟩:=yx hei
   exact zC rfl (zta ho h1 h2 h3 h4 (fun hs=>by rcases h5 with h5|h5<;>simp_all) he hi (by simpa using h6))
  ·cases h
 | sllx sz a hi =>
  simp only[yb] at h
  split at h
  ·rename_i ho
   simp only[Al0] at h
   obtain⟨⟨h1,h2⟩,h6⟩:=h
   obtain⟨ei,hei,h6⟩:=zL h6
   obtain⟨e,he,hi⟩:=yx hei
   exact zC rfl (zqP ho h1 h2 he hi (by simpa using h6))
  ·cases h
 | len a =>
  simp only[yb] at h
  split at h
  ·rename_i ho
   split at h
   ·rename_i hl
    simp only[Al0] at h
    obtain⟨h1,h2⟩:=h
    obtain⟨t,ht,h2⟩:=zL h2
    split at h2
    ·rename_i hu;exact zC rfl (zsn (by rw[ho,za3 hl]) ht h1 hu)
    ·cases h2
   ·cases h
  ·cases h
 | lens a =>
  simp only[yb] at h
  split at h
  ·rename_i ho
   split at h
   ·rename_i hl
    simp only[Al0] at h
    obtain⟨h1,h2⟩:=h
    obtain⟨t,ht,h2⟩:=zL h2
    split at h2
    ·rename_i hu;exact zC rfl (zqJ (by rw[ho,za3 hl]) ht h1 hu)
    ·cases h2
   ·cases h
  ·cases h
 | lenm a =>
  simp only[yb] at h
  split at h
  ·rename_i ho
   split at h
   ·rename_i hl
    simp only[Al0] at h
    obtain⟨h1,h2⟩:=h
    obtain⟨t,ht,h2⟩:=zL h2
    split at h2
    ·rename_i hu;exact zdV rfl (zqd (by rw[ho,za3 hl]) ht h1 hu)
    ·cases h2
   ·cases h
  ·cases h
 | mm mx a ys =>
  simp only[yb] at h
  split at h
  ·rename_i ho
   simp only[Al0,yw] at h
   obtain⟨rfl,h2⟩:=h
   split at h2
   ·rename_i ha
    simp only[Al0] at h2
    exact zC rfl (ztS ho ha h2.1 h2.2)
   ·cases h2
  ·cases h
 | boxv a =>
  simp only[yb] at h
  split at h
  ·rename_i ho;exact zC rfl (zqu ho h)
  ·cases h
 | ld n ag a =>
  simp only[yb] at h
  split at h
  ·rename_i ho
   simp only[Al0,yw,zii] at h
   obtain⟨⟨⟨⟨h1,h3⟩,h4⟩,h5⟩,h6⟩:=h
   obtain⟨ti,hti,h3⟩:=zL h3
   obtain⟨d,hd⟩:=zd4.1 h4
   exact zdV rfl (zrD ho h1 hti (by simpa using h3) hd h5 h6)
  ·cases h
 | lkp kt zero ok m k =>
  simp only[yb] at h
  split at h
  ·rename_i ho
   simp only[Al0,yw] at h
   obtain⟨⟨⟨rfl,h1⟩,h2⟩,h3⟩:=h
   split at h3
   ·rename_i ht
    simp only[Al0] at h3
    obtain⟨⟨h3,h4⟩,h5⟩:=h3
    obtain⟨d,hd⟩:=zd4.1 h4
    obtain⟨ei,hei,h5⟩:=zL h5
    obtain⟨z,hz,h5⟩:=zL h5
    exact zdV rfl (zr4 ho h1 h2 ht h3 hd hei hz h5)
   ·cases h3
  ·cases h
 | alloc zero =>
  simp only[yb] at h
  split at h
  ·rename_i ho
   obtain⟨ti,hti,h⟩:=zL h
   obtain⟨z,hz,h⟩:=zL h
   exact zng ho hti hz h
  ·cases h
 | box a =>
  simp only[yb] at h
  split at h
  ·rename_i ho;exact zsp ho h
  ·cases h
 | mkm kt =>
  simp only[yb] at h
  split at h
  ·rename_i ho;exact zsb ho
  ·cases h
 | st n a b =>
  simp only[yb] at h
  split at h
  ·rename_i ho
   simp only[Al0] at h
   obtain⟨⟨h1,h2⟩,h3⟩:=h
   obtain⟨ti,hti,h3⟩:=zL h3
   exact zui ho h1 h2 hti (by simpa using h3)
  ·cases h
 | mup kt m k v =>
  simp only[yb] at h
  split at h
  ·rename_i ho
   simp only[Al0] at h
   obtain⟨⟨⟨h1,h2⟩,h3⟩,h4⟩:=h
   split at h4
   ·rename_i ht
    simp only[Al0] at h4
    obtain⟨d,hd⟩:=zd4.1 h4.2
    exact zoQ (.inl ho) h1 h2 h3 ht h4.1 hd
   ·cases h4
  ·rename_i ho
   simp only[Al0] at h
   obtain⟨⟨⟨h1,h2⟩,h3⟩,h4⟩:=h
   split at h4
   ·rename_i ht
    simp only[Al0] at h4
    obtain⟨d,hd⟩:=zd4.1 h4.2
    exact zoQ (.inr ho) h1 h2 h3 ht h4.1 hd
   ·cases h4
  ·cases h
 | blsm sz n zero qs =>
  simp only[yb] at h
  split at h
  ·rename_i ho
   simp only[Al0,yw] at h
   obtain⟨⟨⟨⟨rfl,h1⟩,h2⟩,h3⟩,h4⟩:=h
   obtain⟨ei,hei,h1⟩:=zL h1
   simp only[Al0,yw] at h1
   obtain⟨h1,h5⟩:=h1
   obtain⟨z,hz,h5⟩:=zL h5
   obtain⟨e,he,hi⟩:=yx hei
   exact zqS ho he hi hz h1 h2 h3 h5 h4
  ·cases h
 | slar n a hi =>
  simp only[yb] at h
  split at h
  ·rename_i ho
   simp only[Al0] at h
   obtain⟨⟨h1,h2⟩,h3⟩:=h
   split at h3
   ·rename_i ht
    simp only[Al0,yw] at h3
    obtain⟨⟨rfl,h4⟩,h5⟩:=h3
    obtain⟨ei,hei⟩:=zd4.1 h5
    exact zC rfl (zpP ho h1 h2 ht hei h4)
   ·cases h3
  ·cases h
 | slaf n sz a hi =>
  simp only[yb] at h
  split at h
  ·rename_i ho
   simp only[Al0] at h
   obtain⟨⟨h1,h2⟩,h3⟩:=h
   split at h3
   ·rename_i ht
    simp only[Al0,yw] at h3
    obtain⟨⟨rfl,h4⟩,h5⟩:=h3
    obtain⟨ei,hei⟩:=zd4.1 h5
    exact zqE ho h1 h2 ht hei h4
   ·cases h3
  ·cases h
 | frz sz y =>
  simp only[yb] at h
  split at h
  ·rename_i ho;exact zo1 (.inl ho) h
  ·rename_i ho;exact zo1 (.inr ho) h
  ·cases h
 | appm sz bytes zero a b =>
  simp only[yb] at h
  split at h
  ·rename_i ho
   split at h
   ·rename_i hl1 hl2
    simp only[Al0,yw] at h
    obtain⟨⟨⟨⟨h1,h2⟩,h3⟩,h4⟩,h5⟩:=h
    obtain⟨ei,hei,h3⟩:=zL h3
    simp only[Al0,yw] at h3
    obtain⟨⟨h3,h6⟩,h7⟩:=h3
    obtain⟨z,hz,h7⟩:=zL h7
    simp only[Al0,yw] at h7
    obtain⟨e,he,hi⟩:=yx hei
    split at h5
    ·rename_i htx
     exact zqZ (by rw[ho,za3 hl1,za3 hl2]) h1 h2 he htx hi hz h3 h6 h7.1 h4 h7.2
    ·cases h5
   ·cases h
  ·cases h
 | appm2 sz bytes zero a b =>
  simp only[yb] at h
  split at h
  ·rename_i ho
   split at h
   ·rename_i hl1 hl2
    simp only[Al0,yw] at h
    obtain⟨⟨⟨⟨h1,h2⟩,h3⟩,h4⟩,h5⟩:=h
    obtain⟨ei,hei,h3⟩:=zL h3
    simp only[Al0,yw] at h3
    obtain⟨⟨h3,h6⟩,h7⟩:=h3
    obtain⟨z,hz,h7⟩:=zL h7
    simp only[Al0,yw] at h7
    obtain⟨e,he,hi⟩:=yx hei
    split at h5
    ·rename_i htx
     exact zoX (by rw[ho,za3 hl1,za3 hl2]) h1 h2 he htx hi hz h3 h6 h7.1 h4 h7.2
    ·cases h5
   ·cases h
  ·cases h
 | app sz bytes a b =>
  simp only[yb] at h
  split at h
  ·rename_i ho
   split at h
   ·rename_i hl1 hl2
    simp only[Al0,yw] at h
    obtain⟨⟨⟨⟨h1,h2⟩,h3⟩,h4⟩,h5⟩:=h
    obtain⟨ei,hei,h3⟩:=zL h3
    simp only[Al0,yw] at h3
    obtain⟨⟨h3,h6⟩,h7⟩:=h3
    obtain⟨z,hz,h7⟩:=zL h7
    obtain⟨e,he,hi⟩:=yx hei
    split at h5
    ·rename_i htx
     exact zsF (by rw[ho,za3 hl1,za3 hl2]) h1 h2 he htx hi hz h3 h6 (by simpa using h7) h4
    ·cases h5
   ·cases h
  ·cases h
 | apps a b =>
  simp only[yb] at h
  split at h
  ·rename_i ho
   split at h
   ·rename_i hl1 hl2
    simp only[Al0] at h
    obtain⟨⟨⟨h1,h2⟩,h3⟩,h5⟩:=h
    obtain⟨ei,hei,h3⟩:=zL h3
    simp only[Al0,yw] at h3
    obtain⟨⟨h3,h6⟩,h7⟩:=h3
    obtain⟨z,hz,h7⟩:=zL h7
    obtain⟨e,he,hi⟩:=yx hei
    split at h5
    ·rename_i htx
     exact zpM (by rw[ho,za3 hl1,za3 hl2]) h1 h2 he htx hi hz h3 h6 (by simpa using h7)
    ·cases h5
   ·cases h
  ·cases h
 | mks sz bytes n =>
  simp only[yb] at h
  split at h
  ·rename_i ho
   simp only[Al0] at h
   obtain⟨⟨h1,h2⟩,h3⟩:=h
   obtain⟨ei,hei,h3⟩:=zL h3
   simp only[Al0,yw] at h3
   obtain⟨⟨rfl,rfl⟩,h7⟩:=h3
   obtain⟨z,hz⟩:=zd4.1 h7
   obtain⟨e,he,hi⟩:=yx hei
   exact zsS ho h1 h2 he hi hz
  ·cases h
 | mksn zero bytes n =>
  simp only[yb] at h
  split at h
  ·rename_i ho
   simp only[Al0] at h
   obtain⟨⟨h1,h2⟩,h3⟩:=h
   obtain⟨ei,hei,h3⟩:=zL h3
   simp only[Al0,yw] at h3
   obtain⟨⟨rfl,h0⟩,h7⟩:=h3
   obtain⟨z,hz,h7⟩:=zL h7
   simp only[Al0,yw] at h7
   obtain⟨e,he,hi⟩:=yx hei
   exact zpB ho h1 h2 he hi hz h7.1 h7.2 h0
  ·cases h
 | call f args =>
  simp only[yb] at h
  split at h
  ·rename_i ho
   simp only[Al0,yw] at h
   obtain⟨⟨rfl,h1⟩,h2⟩:=h
   exact zpA ho h1 h2
  ·cases h
 | callv g args =>
  simp only[yb] at h
  split at h
  ·rename_i ho
   simp only[Al0] at h
   exact zob ho h.1 h.2
  ·cases h
 | pan a =>
  simp only[yb] at h
  split at h
  ·rename_i ho;exact zse ho h
  ·cases h
abbrev Chk:=Nat×Option (Nat×Bool)×AOp
structure AItem where
 dst:Option Nat
 guard:Option (Nat×Bool)
 op:AOp
 chk:List Nat
def gv (g:Option (Nat×Bool)) (ρ:Env):Option Bool :=
 match g with
 | none=>some true
 | some (s,want)=>match ρ s with
  | .bool b=>some (b==want)
  | .tup []=>some false
  | _=>none
def Zl (ρ:Env) (H:zb):List Chk→Prop
 | []=>True
 | (d,g,o)::r=>(gv g ρ=some true→rev ρ H o=some (ρ d))∧Zl ρ H r
def ZI (P:Program) (KP:AV→zb→Prop) (it:AItem) (R:List Chk) (ρ:Env) (H:zb) (K:Env→zb→Prop):Prop :=
 match gv it.guard ρ with
 | some true=>aop P KP it.op ρ H (fun v H'=>Zl (ρ.set it.dst v) H' R∧K (ρ.set it.dst v) H')
 | some false=>K (ρ.set it.dst (.tup [])) H
 | none=>False
def y5 (P:Program) (KP:AV→zb→Prop):List (AItem×List Chk)→Env→zb→(Env→zb→Prop)→Prop
 | [],ρ,H,K=>K ρ H
 | it::r,ρ,H,K=>ZI P KP it.1 it.2 ρ H (fun ρ' H'=>y5 P KP r ρ' H' K)
def Opd.slots:Opd→List Nat
 | .t n=>[n]
 | .k _=>[]
def zdM:Option Opd→List Nat
 | some x=>x.slots
 | none=>[]
def AOp.looks:AOp→List Nat
 | .mv x|.nilchk x|.isnil _ x|.isnn _ x|.ifnil _ x|.tas _ _ x|.ineg x|.not x|.cvi _ x|.cvid x|.cvb2s x|.ext x _|.mki _ x|.fa _ x|.fld _ _ _ x|.len x|.lens x|.boxv x|.ld _ _ x|.lenm x|.box x|.pan x|.frz _ x=>x.slots
 | .pick a b c=>a.slots++b.slots++c.slots
 | .bi _ _ x y|.shf _ x y|.bs _ x y|.bb _ x y|.eqa _ _ x y|.ia _ x y|.iar _ _ x y|.ixs x y|.lkp _ _ _ x y|.st _ x y|.app _ _ x y|.appm _ _ _ x y|.appm2 _ _ _ x y|.apps x y|.sllx _ x y|.slar _ x y|.slaf _ _ x y=>x.slots++y.slots
 | .bld _ qs=>qs.flatMap fun q=>q.2.2.slots
 | .bls _ _ _ qs|.bls2 _ _ _ qs|.blsm _ _ _ qs=>qs.flatMap fun q=>q.2.slots
 | .mkfn _ a b=>a.flatMap Opd.slots++b.flatMap Opd.slots
 | .sls x lo hi=>x.slots++zdM lo++zdM hi
 | .sll _ x lo hi mx=>x.slots++zdM lo++zdM hi++zdM mx
 | .mm _ x ys=>x.slots++ys.flatMap Opd.slots
 | .mks _ _ x|.mksn _ _ x=>x.slots
 | .alloc _|.mkm _=>[]
 | .mup _ a b c=>a.slots++b.slots++c.slots
 | .call _ args=>args.flatMap Opd.slots
 | .callv g args=>g.slots++args.flatMap Opd.slots
theorem yr {ρ ρ':Env} {x:Opd} (h:∀ n∈x.slots,ρ n=ρ' n):x.ev ρ=x.ev ρ':=by
 cases x with
 | t n=>exact h n (by simp[Opd.slots])
 | k c=>rfl
theorem zbC {ρ ρ':Env}:∀ {xs:List Opd},(∀ n∈xs.flatMap Opd.slots,ρ n=ρ' n)→xs.map (Opd.ev ρ)=xs.map (Opd.ev ρ')
 | [],_=>rfl
 | x::xs,h=>by
  simp only[List.flatMap_cons,List.mem_append] at h
  simp only[List.map_cons,yr (fun n hn=>h n (.inl hn)),zbC (fun n hn=>h n (.inr hn))]
theorem ze7 {ρ ρ':Env}:∀ {qs:List (Nat×Nat×Opd)} {cs:List AV},(∀ n∈qs.flatMap (fun q=>q.2.2.slots),ρ n=ρ' n)→zO ρ cs qs=zO ρ' cs qs
 | [],_,_=>rfl
 | (off,n,x)::qs,cs,h=>by
  simp only[List.flatMap_cons,List.mem_append] at h
  simp only[zO,yr (fun n hn=>h n (.inl hn)),ze7 (fun n hn=>h n (.inr hn))]
theorem zbb {S:AV→AV} {ρ ρ':Env} {sz:Nat}:∀ {qs:List (Nat×Opd)} {cs:List (List AV)},(∀ n∈qs.flatMap (fun q=>q.2.slots),ρ n=ρ' n)→zK S ρ sz cs qs=zK S ρ' sz cs qs
 | [],_,_=>rfl
 | (i,x)::qs,cs,h=>by
  simp only[List.flatMap_cons,List.mem_append] at h
  simp only[zK,yr (fun n hn=>h n (.inl hn)),zbb (fun n hn=>h n (.inr hn))]
theorem zfp {ρ ρ':Env} {mx:Bool} {k:IntKind}:∀ {ys:List Opd} {a:Int},(∀ n∈ys.flatMap Opd.slots,ρ n=ρ' n)→zP mx k ρ a ys=zP mx k ρ' a ys
 | [],_,_=>rfl
 | y::ys,a,h=>by
  simp only[List.flatMap_cons,List.mem_append] at h
  simp only[zP,yr (fun n hn=>h n (.inl hn))]
  split
  ·rw[zfp (fun n hn=>h n (.inr hn))]
  ·rfl
theorem zbl {ρ ρ':Env} {d:Nat} {x:Option Opd} (h:∀ n∈zdM x,ρ n=ρ' n):bound d ρ x=bound d ρ' x:=by
 cases x with
 | none=>rfl
 | some y=>simp only[bound,yr (x:=y) h]
theorem zhR {ρ ρ':Env} {o:AOp} (h:∀ n∈o.looks,ρ n=ρ' n):pev ρ o=pev ρ' o:=by
 cases o<;>simp only[AOp.looks,List.mem_append] at h<;>simp only[pev]
 case pick a b c=>rw[yr (x:=a) (fun n hn=>h n (.inl (.inl hn))),yr (x:=b) (fun n hn=>h n (.inl (.inr hn))),yr (x:=c) (fun n hn=>h n (.inr hn))]
 case bld z qs=>rw[ze7 h]
 case bls a b z qs=>rw[zbb h]
 case bls2 a b z qs=>rw[zbb h]
 case mkfn f a b=>rw[zbC (fun n hn=>h n (.inl hn)),zbC (fun n hn=>h n (.inr hn))]
 case sls x lo hi=>rw[yr (x:=x) (fun n hn=>h n (.inl (.inl hn))),zbl (x:=lo) (fun n hn=>h n (.inl (.inr hn)))];simp only[zbl (x:=hi) (fun n hn=>h n (.inr hn))]
 case sll s x lo hi mx =>
  rw[yr (x:=x) (fun n hn=>h n (.inl (.inl (.inl hn)))),zbl (x:=lo) (fun n hn=>h n (.inl (.inl (.inr hn))))]
  simp only[zbl (x:=hi) (fun n hn=>h n (.inl (.inr hn)))]
  cases mx with
  | none =>
   split
   ·rename_i o1 s1 xs _
    generalize bound 0 ρ' lo=b1
    generalize bound xs.length ρ' hi=b2
    cases b1<;>cases b2<;>rfl
   ·rfl
   ·rfl
  | some m =>
   have hm:=yr (x:=m) (fun n hn=>h n (.inr (show n∈zdM (some m) from hn)))
   split
   ·rename_i o1 s1 xs _
    generalize bound 0 ρ' lo=b1
    generalize bound xs.length ρ' hi=b2
    cases b1<;>cases b2<;>first|rfl|(show (match m.ev ρ with|.int _ m=>_|_=>_)=_;rw[hm];rfl)
   ·rfl
   ·rfl
 case mm mx x ys=>rw[yr (x:=x) (fun n hn=>h n (.inl hn))];simp only[zfp (fun n hn=>h n (.inr hn))]
 all_goals first
  | rfl
  | (rw[yr h];done)
  | (rename_i x y;rw[yr (x:=x) (fun n hn=>h n (.inl hn)),yr (x:=y) (fun n hn=>h n (.inr hn))];done)
theorem zbK {ρ ρ':Env} {H:zb} {o:AOp} (h:∀ n∈o.looks,ρ n=ρ' n):rev ρ H o=rev ρ' H o:=by
 cases o<;>simp only[AOp.looks,List.mem_append] at h<;>simp only[rev]
 all_goals first
  | (rw[yr h];done)
  | (rename_i x y;rw[yr (x:=x) (fun n hn=>h n (.inl hn)),yr (x:=y) (fun n hn=>h n (.inr hn))];done)
theorem zdc {ρ ρ':Env} {o:AOp} (h:∀ n∈o.looks,ρ n=ρ' n):oev ρ o=oev ρ' o:=by
 cases o<;>simp only[AOp.looks,List.mem_append] at h<;>simp only[oev]
 case blsm a b z qs=>rw[zbb h]
 all_goals (rw[yr h])
theorem zb7 {ρ ρ':Env} {b:Nat} {o:AOp} (h:∀ n∈o.looks,ρ n=ρ' n):yh ρ b o=yh ρ' b o:=by
 cases o<;>simp only[AOp.looks,List.mem_append] at h<;>simp only[yh]
 all_goals (rw[yr h])
theorem zhp {P:Program} {KP:AV→zb→Prop} {ρ ρ':Env} {H:zb} {K:AV→zb→Prop} {o:AOp} (h:∀ n∈o.looks,ρ n=ρ' n):eff P KP ρ H K o=eff P KP ρ' H K o:=by
 cases o<;>simp only[AOp.looks,List.mem_append] at h<;>simp only[eff]
 case mup kt a b c=>rw[yr (x:=a) (fun n hn=>h n (.inl (.inl hn))),yr (x:=b) (fun n hn=>h n (.inl (.inr hn))),yr (x:=c) (fun n hn=>h n (.inr hn))]
 case call f args=>rw[zbC h]
 case callv g args=>rw[yr (x:=g) (fun n hn=>h n (.inl hn)),zbC (fun n hn=>h n (.inr hn))]
 all_goals first
  | (rw[yr h];done)
  | (rename_i x y;rw[yr (x:=x) (fun n hn=>h n (.inl hn)),yr (x:=y) (fun n hn=>h n (.inr hn))];done)
theorem zmK {P:Program} {KP:AV→zb→Prop} {ρ ρ':Env} {H:zb} {K:AV→zb→Prop} {o:AOp} (h:∀ n∈o.looks,ρ n=ρ' n):aop P KP o ρ H K=aop P KP o ρ' H K:=by
 unfold aop
 rw[zhR h,zbK h,zdc h,zhp h]
 simp only[zb7 h]
theorem zj.monoEnd {P:Program} {f:FuncId} {args:List AV} {H:zb} {K K' KP:AV→zb→Prop} (hk:∀ v H',K v H'→K' v H') (h:zj P f args H (ZL K KP)):zj P f args H (ZL K' KP) :=
 h.mono fun r H' hr=>by cases r<;>first|exact hk _ _ hr|exact hr
theorem zhk {sz bytes:Nat} {x y:AV} {H:zb} {K K':AV→zb→Prop} (hk:∀ v H',K v H'→K' v H') (h:zjW sz bytes x y H K):zjW sz bytes x y H K':=by
 cases x<;>try (exact False.elim h)
 cases y<;>try (exact False.elim h)
 rename_i o s1 xs o2 s2 ys
 obtain⟨h1,h2,h3,h4,h5⟩:=h
 refine⟨h1,h2,h3,h4,?_⟩
 cases o with
 | no=>exact h5
 | nil=>exact⟨fun e=>hk _ _ (h5.1 e),fun e b hb=>hk _ _ (h5.2 e b hb)⟩
 | full=>exact⟨fun e=>hk _ _ (h5.1 e),fun e b hb=>hk _ _ (h5.2 e b hb)⟩
 | tip b d=>exact⟨h5.1,fun b' d' hb=>hk _ _ (h5.2 b' d' hb)⟩
theorem zf7 {S:AV→AV} {sz bytes:Nat} {zero:List AV} {x y:AV} {H:zb} {K K':AV→zb→Prop} (hk:∀ v H',K v H'→K' v H') (h:zgr S sz bytes zero x y H K):zgr S sz bytes zero x y H K':=by
 cases y<;>try (exact False.elim h)
 obtain⟨h1,h2,h3⟩:=h
 refine⟨h1,h2,?_⟩
 cases x<;>try (exact False.elim h3)
 ·rename_i o s1 xs
  cases o<;>try (exact False.elim h3)
  obtain⟨h4,h5,h6,h7,h8,h9⟩:=h3
  exact⟨h4,h5,h6,h7,fun e=>hk _ _ (h8 e),fun e b cap hb hc hm=>hk _ _ (h9 e b cap hb hc hm)⟩
 ·rename_i b off len cap
  obtain⟨h4,h5,h6⟩:=h3
  refine⟨h4,h5,?_⟩
  cases hb:H b with
  | none=>simp[hb] at h6
  | some ob =>
   cases ob<;>simp only[hb] at h6 ⊢<;>try (exact False.elim h6)
   exact⟨fun e=>⟨(h6.1 e).1,hk _ _ (h6.1 e).2⟩,fun e=>⟨(h6.2 e).1,fun b' cap' hb' hc hm=>hk _ _ ((h6.2 e).2 b' cap' hb' hc hm)⟩⟩
theorem zhC {sz:Nat} {x:AV} {H:zb} {K K':AV→zb→Prop} (hk:∀ v H',K v H'→K' v H') (h:zfZ sz x H K):zfZ sz x H K':=by
 cases x<;>try (exact False.elim h)
 rename_i b off len cap
 simp only[zfZ] at h ⊢
 cases hb:H b with
 | none=>simp[hb] at h
 | some ob =>
  cases ob<;>simp only[hb] at h ⊢<;>try (exact False.elim h)
  exact⟨h.1,h.2.1,hk _ _ h.2.2⟩
theorem zku {n sz:Nat} {x y:AV} {H:zb} {K K':AV→zb→Prop} (hk:∀ v H',K v H'→K' v H') (h:zhy n sz x y H K):zhy n sz x y H K':=by
 cases x<;>try (exact False.elim h)
 cases y<;>try (exact False.elim h)
 exact⟨h.1,h.2.1,zhC hk h.2.2⟩
theorem zji {P:Program} {KP:AV→zb→Prop} {ρ:Env} {H:zb} {K K':AV→zb→Prop} {o:AOp} (hk:∀ v H',K v H'→K' v H') (h:eff P KP ρ H K o):eff P KP ρ H K' o:=by
 cases o<;>simp only[eff] at h ⊢<;>try (exact False.elim h)
 case st n x y =>
  cases hx:x.ev ρ<;>simp only[hx] at h ⊢<;>try (exact False.elim h)
  rename_i b off
  cases hb:H b with
  | none=>simp[hb] at h
  | some ob =>
   cases ob<;>simp only[hb] at h ⊢<;>try (exact False.elim h)
   exact⟨h.1,h.2.1,h.2.2.1,hk _ _ h.2.2.2⟩
 case mup kt m k v =>
  cases hx:m.ev ρ<;>simp only[hx] at h ⊢<;>try (exact False.elim h)
  rename_i b
  cases hb:H b with
  | none=>simp[hb] at h
  | some ob =>
   cases ob<;>simp only[hb] at h ⊢<;>try (exact False.elim h)
   exact⟨h.1,h.2.1,hk _ _ h.2.2⟩
 case app sz by' x y=>exact zhk hk h
 case appm sz by' z x y=>exact zf7 hk h
 case appm2 sz by' z x y=>exact zf7 hk h
 case frz sz x=>exact zhC hk h
 case slaf n sz x y=>exact zku hk h
 case apps x y =>
  cases hy:y.ev ρ<;>simp only[hy] at h ⊢<;>try (exact False.elim h)
  exact zhk hk h
 case call f args=>exact zj.monoEnd hk h
 case callv g args =>
  cases hg:g.ev ρ<;>simp only[hg] at h ⊢<;>try (exact False.elim h)
  exact⟨h.1,zj.monoEnd hk h.2⟩
 case pan x =>
  cases hx:x.ev ρ<;>simp only[hx] at h ⊢<;>try (exact False.elim h)
  exact h
theorem zgv {P:Program} {KP:AV→zb→Prop} {o:AOp} {ρ:Env} {H:zb} {K K':AV→zb→Prop} (hk:∀ v H',K v H'→K' v H') (h:aop P KP o ρ H K):aop P KP o ρ H K':=by
 unfold aop at *
 cases hc:o.cls<;>simp only[hc] at h ⊢
 ·cases hv:pev ρ o<;>simp only[hv] at h ⊢;· exact hk _ _ h
 ·cases hv:rev ρ H o<;>simp only[hv] at h ⊢;· exact hk _ _ h
 ·cases hv:oev ρ o<;>simp only[hv] at h ⊢
  ·exact h
  ·exact fun b hb=>hk _ _ (h b hb)
 ·exact zji hk h
theorem zcs {P:Program} {KP:AV→zb→Prop} {it:AItem} {R R':List Chk} {ρ:Env} {H:zb} {K K':Env→zb→Prop} (hr:∀ ρ' H',Zl ρ' H' R→Zl ρ' H' R') (hk:∀ ρ' H',K ρ' H'→K' ρ' H') (h:ZI P KP it R ρ H K):ZI P KP it R' ρ H K':=by
 unfold ZI at *
 split at h
 ·exact zgv (fun v H' hh=>⟨hr _ _ hh.1,hk _ _ hh.2⟩) h
 ·exact hk _ _ h
 ·exact h
def zdD (g:Option (Nat×Bool)):List Nat :=
 match g with
 | none=>[]
 | some (s,_)=>[s]
def AItem.looks (it:AItem):List Nat:=zdD it.guard++it.op.looks
theorem zeg {ρ ρ':Env} {g:Option (Nat×Bool)} (h:∀ n∈zdD g,ρ n=ρ' n):gv g ρ=gv g ρ':=by
 cases g with
 | none=>rfl
 | some p=>simp only[gv,h p.1 (by simp[zdD])]
theorem yU {ρ:Env} {d:Option Nat} {c:AV} {l:List Nat} (h:∀ x,d=some x→x ∉ l):∀ n∈l,(ρ.set d c) n=ρ n:=by
 intro n hn
 cases d with
 | none=>rfl
 | some x =>
  have:n≠x:=fun e=>h x rfl (e▸hn)
  simp[Env.set,this]
theorem zpf (ρ:Env) {d e:Option Nat} (c u:AV) (h:∀ x,d=some x→e≠some x):(ρ.set d c).set e u=(ρ.set e u).set d c:=by
 cases d with
 | none=>rfl
 | some x =>
  cases e with
  | none=>rfl
  | some y =>
   have hne:x≠y:=fun he=>h x rfl (he▸rfl)
   funext n
   simp only[Env.set]
   by_cases h1:n=y
   ·subst h1;simp[Ne.symm hne]
   ·by_cases h2:n=x
    ·subst h2;simp[hne]
    ·simp[h1,h2]
def zas (c:Chk):List Nat:=c.1::zdD c.2.1++c.2.2.looks
theorem zbo {ρ ρ':Env} {H:zb}:∀ {R:List Chk},(∀ c∈R,∀ n∈zas c,ρ n=ρ' n)→Zl ρ H R→Zl ρ' H R
 | [],_,_=>trivial
 | (d,g,o)::R,h,hr=>by
  have h0:=h (d,g,o) (Yz ..)
  simp only[zas,List.mem_cons,List.mem_append] at h0
  refine⟨fun hg=>?_,zbo (fun c hc=>h c (zap _ hc)) hr.2⟩
  rw[← zeg (fun n hn=>h0 n (.inl (.inr hn)))] at hg
  have:=hr.1 hg
  rw[zbK (fun n hn=>h0 n (.inr hn)),h0 d (.inl (.inl rfl))] at this
  exact this
def AItem.apart (x i : AItem) : Bool :=
  (match x.dst with
   | some d => !(i.looks).contains d && i.dst != some d
   | none => true) &&
  (match i.dst with
   | some d => !(x.looks).contains d
   | none => true)
theorem apart_spec {x i:AItem} (h:x.apart i=true):(∀ d,x.dst=some d→d ∉ i.looks)∧(∀ d,x.dst=some d→i.dst≠some d)∧(∀ d,i.dst=some d→d ∉ x.looks):=by
 refine⟨fun d hd=>?_,fun d hd=>?_,fun d hd=>?_⟩<;>simp[AItem.apart,hd] at h
 ·exact h.1.1
 ·exact h.1.2
 ·exact h.2
instance:BEq Cls:=⟨fun a b=>decide (a=b)⟩
def zb2 (x i:AItem):Bool :=
 match x.op.cls,i.op.cls with
 | .pure,_=>true
 | .read,.pure|.read,.read|.read,.alloc=>true
 | .read,.eff=>true
 | .alloc,.alloc=>i.guard.isNone
 | .eff,.alloc=>i.guard.isNone&&(match i.op with|.alloc _|.mkm _=>true|_=>false)
 | _,_=>false
theorem zhi {ρ:Env} {H:zb} {b:Nat} {ob:AObj} {o:AOp} {v:AV} (hb:H b=none) (h:rev ρ H o=some v):rev ρ (H.upd b ob) o=some v:=by
 cases o<;>simp only[rev] at h ⊢<;>try (cases h;done)
 case ld n ag x =>
  cases hx:x.ev ρ<;>simp only[hx] at h ⊢<;>try (cases h;done)
  ·rename_i b' off
   have hne:b'≠b:=fun e=>by subst e;simp[hb] at h
   simp only[zb.upd,hne,if_false]
   exact h
  ·exact h
 case lkp kt zero ok m k =>
  split at h
  ·rename_i hf
   simp only[hf,if_true]
   cases hx:m.ev ρ<;>simp only[hx] at h ⊢<;>try (cases h;done)
   ·exact h
   ·rename_i b'
    have hne:b'≠b:=fun e=>by subst e;simp[hb] at h
    simp only[zb.upd,hne,if_false]
    exact h
  ·cases h
 case lenm x =>
  cases hx:x.ev ρ<;>simp only[hx] at h ⊢<;>try (cases h;done)
  ·exact h
  ·rename_i b'
   have hne:b'≠b:=fun e=>by subst e;simp[hb] at h
   simp only[zb.upd,hne,if_false]
   exact h
def zgJ (KP:AV→zb→Prop):Prop:=∀ v H b o,H b=none→KP v H→KP v (H.upd b o)
theorem YE (H:zb) {b c:Nat} (x y:AObj) (h:b≠c):(H.upd b x).upd c y=(H.upd c y).upd b x:=by
 funext n
 simp only[zb.upd]
 by_cases h1:n=c
 ·subst h1;simp[Ne.symm h]
 ·by_cases h2:n=b
  ·subst h2;simp[h]
  ·simp[h1,h2]
theorem zhQ (H:zb) (b:Nat) (o:AObj) (h:H b=none):zb.union H (zb.one b o)=H.upd b o:=by
 funext n
 simp only[zb.union,zb.one,zb.upd]
 by_cases h1:n=b
 ·subst h1;simp[h]
 ·simp[h1]
theorem zj.beside {P:Program} {f:FuncId} {args:List AV} {H:zb} {K KP:AV→zb→Prop} {b:Nat} {o:AObj} (hb:H b=none) (hKP:zgJ KP) (h:zj P f args H (ZL K KP)) :
  zj P f args (H.upd b o) (ZL (fun v H'=>∃ H0,H0 b=none∧H'=H0.upd b o∧K v H0) KP):=by
 have hd:zb.Disj H (zb.one b o):=fun c=>by
  by_cases hc:c=b
  ·subst hc;exact .inl hb
  ·exact .inr (by simp[zb.one,hc])
 rw[← zhQ H b o hb]
 refine(h.frame hd).mono fun r H' ⟨A',hq,hdis,he⟩=>?_
 have hA:A' b=none:=by
  rcases hdis b with h1|h1
  ·exact h1
  ·simp[zb.one] at h1
 rw[zhQ A' b o hA] at he
 subst he
 cases r with
 | ret v=>exact⟨A',hA,rfl,hq⟩
 | pan v=>exact hKP v A' b o hA hq
theorem zfe {sz bytes:Nat} {x y:AV} {H:zb} {K:AV→zb→Prop} {b:Nat} {o:AObj} (hb:H b=none) (h:zjW sz bytes x y H K) :
  zjW sz bytes x y (H.upd b o) (fun v H'=>∃ H0,H0 b=none∧H'=H0.upd b o∧K v H0):=by
 cases x<;>try (exact False.elim h)
 cases y<;>try (exact False.elim h)
 rename_i ow s1 xs o2 s2 ys
 obtain⟨h1,h2,h3,h4,h5⟩:=h
 refine⟨h1,h2,h3,h4,?_⟩
 have fresh:∀ b2,(H.upd b o) b2=none→b2≠b∧H b2=none:=fun b2 h2=>by
  have hne:b2≠b:=fun e=>by subst e;simp[zb.upd] at h2
  exact⟨hne,by simpa[zb.upd,hne] using h2⟩
 cases ow with
 | no=>exact h5
 | nil=>exact⟨fun e=>⟨H,hb,rfl,h5.1 e⟩,fun e b2 hb2=>by
   obtain⟨hne,hn⟩:=fresh b2 hb2
   exact⟨_,by simp[zb.upd,Ne.symm hne,hb],YE H _ _ (Ne.symm hne),h5.2 e b2 hn⟩⟩
 | full=>exact⟨fun e=>⟨H,hb,rfl,h5.1 e⟩,fun e b2 hb2=>by
   obtain⟨hne,hn⟩:=fresh b2 hb2
   exact⟨_,by simp[zb.upd,Ne.symm hne,hb],YE H _ _ (Ne.symm hne),h5.2 e b2 hn⟩⟩
 | tip b1 d =>
  obtain⟨h6,h7⟩:=h5
  have hne:b1≠b:=fun e=>by subst e;simp[hb] at h6
  refine⟨by simp[zb.upd,hne,h6],fun b2 d2 hb2=>?_⟩
  have hne2:b2≠b:=fun e=>by subst e;simp[zb.del,zb.upd,Ne.symm hne] at hb2
  have hn:(H.del b1) b2=none:=by
   unfold zb.del at hb2 ⊢
   split
   ·rfl
   ·rename_i hh;simpa[hh,zb.upd,hne2] using hb2
  refine⟨_,?_,?_,h7 b2 d2 hn⟩
  ·simp[zb.upd,zb.del,Ne.symm hne2,hb]
  ·rw[← YE _ _ _ (Ne.symm hne2)]
   congr 1
   funext n
   simp only[zb.del,zb.upd]
   by_cases e1:n=b1
   ·subst e1;simp[hne]
   ·simp[e1]
theorem zej {S:AV→AV} {sz bytes:Nat} {zero:List AV} {x y:AV} {H:zb} {K:AV→zb→Prop} {b:Nat} {o:AObj} (hb:H b=none) (h:zgr S sz bytes zero x y H K) :
  zgr S sz bytes zero x y (H.upd b o) (fun v H'=>∃ H0,H0 b=none∧H'=H0.upd b o∧K v H0):=by
 have fresh:∀ b2,(H.upd b o) b2=none→b2≠b∧H b2=none:=fun b2 h2=>by
  have hne:b2≠b:=fun e=>by subst e;simp[zb.upd] at h2
  exact⟨hne,by simpa[zb.upd,hne] using h2⟩
 cases y<;>try (exact False.elim h)
 obtain⟨h1,h2,h3⟩:=h
 refine⟨h1,h2,?_⟩
 cases x<;>try (exact False.elim h3)
 ·rename_i o s1 xs
  cases o<;>try (exact False.elim h3)
  obtain⟨h4,h5,h6,h7,h8,h9⟩:=h3
  exact⟨h4,h5,h6,h7,fun e=>⟨H,hb,rfl,h8 e⟩,fun e b2 cap hb2 hc hm=>by
   obtain⟨hne,hn⟩:=fresh b2 hb2
   exact⟨_,by simp[zb.upd,Ne.symm hne,hb],YE H _ _ (Ne.symm hne),h9 e b2 cap hn hc hm⟩⟩
 ·rename_i b1 off len cap
  obtain⟨h4,h5,h6⟩:=h3
  refine⟨h4,h5,?_⟩
  have hne1:b1≠b:=fun e=>by subst e;simp[hb] at h6
  have e1:(H.upd b o) b1=H b1:=by simp[zb.upd,hne1]
  rw[e1]
  cases hb1:H b1 with
  | none=>simp[hb1] at h6
  | some ob =>
   cases ob<;>simp only[hb1] at h6 ⊢<;>try (exact False.elim h6)
   refine⟨fun e=>⟨(h6.1 e).1,_,?_,YE H _ _ (Ne.symm hne1),(h6.1 e).2⟩,fun e=>⟨(h6.2 e).1,fun b' cap' hb' hc hm=>?_⟩⟩
   ·simp[zb.upd,Ne.symm hne1,hb]
   ·obtain⟨hne,hn⟩:=fresh b' hb'
    exact⟨_,by simp[zb.upd,Ne.symm hne,hb],YE H _ _ (Ne.symm hne),(h6.2 e).2 b' cap' hn hc hm⟩
theorem zfi {sz:Nat} {x:AV} {H:zb} {K:AV→zb→Prop} {b:Nat} {o:AObj} (hb:H b=none) (h:zfZ sz x H K) :
  zfZ sz x (H.upd b o) (fun v H'=>∃ H0,H0 b=none∧H'=H0.upd b o∧K v H0):=by
 cases x<;>try (exact False.elim h)
 rename_i b1 off len cap
 simp only[zfZ] at h ⊢
 have hne1:b1≠b:=fun e=>by subst e;simp[hb] at h
 have e1:(H.upd b o) b1=H b1:=by simp[zb.upd,hne1]
 rw[e1]
 cases hb1:H b1 with
 | none=>simp[hb1] at h
 | some ob =>
  cases ob<;>simp only[hb1] at h ⊢<;>try (exact False.elim h)
  refine⟨h.1,h.2.1,H.del b1,by simp[zb.del,Ne.symm hne1,hb],?_,h.2.2⟩
  funext n
  simp only[zb.del,zb.upd]
  by_cases e1:n=b1
  ·subst e1;simp[hne1]
  ·simp[e1]
theorem zig {n sz:Nat} {x y:AV} {H:zb} {K:AV→zb→Prop} {b:Nat} {o:AObj} (hb:H b=none) (h:zhy n sz x y H K) :
  zhy n sz x y (H.upd b o) (fun v H'=>∃ H0,H0 b=none∧H'=H0.upd b o∧K v H0):=by
 cases x<;>try (exact False.elim h)
 cases y<;>try (exact False.elim h)
 exact⟨h.1,h.2.1,zfi hb h.2.2⟩
theorem zkv {P:Program} {KP:AV→zb→Prop} {ρ:Env} {H:zb} {K:AV→zb→Prop} {x:AOp} {b:Nat} {o:AObj} (hb:H b=none) (hKP:zgJ KP) (h:eff P KP ρ H K x) :
  eff P KP ρ (H.upd b o) (fun v H'=>∃ H0,H0 b=none∧H'=H0.upd b o∧K v H0) x:=by
 cases x<;>simp only[eff] at h ⊢<;>try (exact False.elim h)
 case st n x y =>
  cases hx:x.ev ρ<;>simp only[hx] at h ⊢<;>try (exact False.elim h)
  rename_i b1 off
  have hne:b1≠b:=fun e=>by subst e;simp[hb] at h
  have e1:(H.upd b o) b1=H b1:=by simp[zb.upd,hne]
  rw[e1]
  cases hb1:H b1 with
  | none=>simp[hb1] at h
  | some ob =>
   cases ob<;>simp only[hb1] at h ⊢<;>try (exact False.elim h)
   exact⟨h.1,h.2.1,h.2.2.1,_,by simp[zb.upd,Ne.symm hne,hb],YE H _ _ (Ne.symm hne),h.2.2.2⟩
 case mup kt m k v =>
  cases hx:m.ev ρ<;>simp only[hx] at h ⊢<;>try (exact False.elim h)
  rename_i b1
  have hne:b1≠b:=fun e=>by subst e;simp[hb] at h
  have e1:(H.upd b o) b1=H b1:=by simp[zb.upd,hne]
  rw[e1]
  cases hb1:H b1 with
  | none=>simp[hb1] at h
  | some ob =>
   cases ob<;>simp only[hb1] at h ⊢<;>try (exact False.elim h)
   exact⟨h.1,h.2.1,_,by simp[zb.upd,Ne.symm hne,hb],YE H _ _ (Ne.symm hne),h.2.2⟩
 case app sz by' x y=>exact zfe hb h
 case appm sz by' z x y=>exact zej hb h
 case appm2 sz by' z x y=>exact zej hb h
 case frz sz x=>exact zfi hb h
 case slaf n sz x y=>exact zig hb h
 case apps x y =>
  cases hy:y.ev ρ<;>simp only[hy] at h ⊢<;>try (exact False.elim h)
  exact zfe hb h
 case call f args=>exact zj.beside hb hKP h
 case callv g args =>
  cases hg:g.ev ρ<;>simp only[hg] at h ⊢<;>try (exact False.elim h)
  exact⟨h.1,zj.beside hb hKP h.2⟩
 case pan x =>
  cases hx:x.ev ρ<;>simp only[hx] at h ⊢<;>try (exact False.elim h)
  exact hKP _ _ _ _ hb h
theorem zjY {P:Program} {KP:AV→zb→Prop} {o:AOp} {ρ:Env} {H:zb} {K K':AV→zb→Prop} (hne:o.cls≠.eff)
  (hk:∀ v H',(H'=H∨∃ b ob,H b=none∧H'=H.upd b ob)→K v H'→K' v H') (h:aop P KP o ρ H K):aop P KP o ρ H K':=by
 unfold aop at *
 cases hc:o.cls<;>simp only[hc] at h ⊢
 ·cases hv:pev ρ o<;>simp only[hv] at h ⊢;· exact hk _ _ (.inl rfl) h
 ·cases hv:rev ρ H o<;>simp only[hv] at h ⊢;· exact hk _ _ (.inl rfl) h
 ·cases hv:oev ρ o<;>simp only[hv] at h ⊢
  ·exact h
  ·exact fun b hb=>hk _ _ (.inr ⟨b,_,hb,rfl⟩) (h b hb)
 ·exact absurd hc hne
theorem zds {ρ:Env} {H:zb} {b:Nat} {ob:AObj} (hb:H b=none):∀ {R:List Chk},Zl ρ H R→Zl ρ (H.upd b ob) R
 | [],_=>trivial
 | (_,_,_)::_,hr=>⟨fun hg=>zhi hb (hr.1 hg),zds hb hr.2⟩
def val (ρ:Env) (H:zb) (o:AOp):Option AV :=
 match o.cls with
 | .pure=>pev ρ o
 | .read=>rev ρ H o
 | _=>none
theorem zlL {P:Program} {KP:AV→zb→Prop} {o:AOp} {ρ:Env} {H:zb} {K:AV→zb→Prop} (hc:o.cls=.pure∨o.cls=.read):aop P KP o ρ H K↔∃ v,val ρ H o=some v∧K v H:=by
 unfold aop val
 rcases hc with hc|hc<;>simp only[hc]
 ·cases pev ρ o<;>simp
 ·cases rev ρ H o<;>simp
def entry (x:AItem):List Chk :=
 match x.dst with
 | some d=>[(d,x.guard,x.op)]
 | none=>[]
def zaa (x i:AItem):List Chk:=if x.op.cls=.read∧i.op.cls=.eff then entry x else []
theorem zcX {ρ:Env} {H:zb}:∀ {A B:List Chk},Zl ρ H (A++B)→Zl ρ H B
 | [],_,h=>h
 | (_,_,_)::_,_,h=>zcX h.2
theorem zbP.upd {H:zb} (h:zbP H) (b:Nat) (o:AObj):zbP (H.upd b o):=by
 obtain⟨n,h⟩:=h
 refine⟨n,fun c hc=>?_⟩
 unfold zb.upd
 split
 ·simp
 ·exact h c hc
theorem zbP.of_upd {H:zb} {b:Nat} {o:AObj} (h:zbP (H.upd b o)):zbP H:=by
 obtain⟨n,h⟩:=h
 refine⟨max n (b+1),fun c hc=>?_⟩
 have:=h c (by omega)
 have hne:c≠b:=by omega
 simpa[zb.upd,hne] using this
theorem swap {P:Program} {KP:AV→zb→Prop} (hKP:zgJ KP) {x i:AItem} {cx:List Chk} (hap:x.apart i=true) (hsw:zb2 x i=true) (hself:x.op.cls=.read→∃ d,x.dst=some d∧d ∉ x.looks) (hchk:x.op.cls≠.eff→cx=[])
  (hchk2:∀ c∈cx,∀ d,i.dst=some d→d ∉ zas c) {R:List Chk} (hR:∀ c∈R,∀ d,x.dst=some d→d ∉ zas c) (hRe:i.op.cls≠.eff→R=[]) {ρ:Env} {H:zb} {K:Env→zb→Prop}
  (h:ZI P KP x cx ρ H (fun ρ1 H1=>ZI P KP i (zaa x i++R) ρ1 H1 K)):ZI P KP i R ρ H (fun ρ2 H2=>ZI P KP x cx ρ2 H2 K):=by
 obtain⟨a1,a2,a3⟩:=apart_spec hap
 have a1g:∀ d,x.dst=some d→d ∉ zdD i.guard:=fun d hd hm=>a1 d hd (zdo _ hm)
 have a1o:∀ d,x.dst=some d→d ∉ i.op.looks:=fun d hd hm=>a1 d hd (List.mem_append_right _ hm)
 have a3g:∀ d,i.dst=some d→d ∉ zdD x.guard:=fun d hd hm=>a3 d hd (zdo _ hm)
 have a3o:∀ d,i.dst=some d→d ∉ x.op.looks:=fun d hd hm=>a3 d hd (List.mem_append_right _ hm)
 have gi:∀ c,gv i.guard (ρ.set x.dst c)=gv i.guard ρ:=fun c=>zeg (yU a1g)
 have gx:∀ c,gv x.guard (ρ.set i.dst c)=gv x.guard ρ:=fun c=>zeg (yU a3g)
 have comm:∀ c u,(ρ.set x.dst c).set i.dst u=(ρ.set i.dst u).set x.dst c:=fun c u=>zpf ρ c u a2
 have oi:∀ c H' (K':AV→zb→Prop),aop P KP i.op (ρ.set x.dst c) H' K'=aop P KP i.op ρ H' K':=fun c H' K'=>zmK (yU a1o)
 have Rback:∀ c u H',Zl ((ρ.set x.dst c).set i.dst u) H' R→Zl (ρ.set i.dst u) H' R:=fun c u H' hr=>by
  rw[comm] at hr
  exact zbo (fun e he n hn=>yU (fun d hd=>hR e he d hd) n hn) hr
 unfold ZI at h
 cases hg:gv x.guard ρ with
 | none=>simp[hg] at h
 | some b =>
  cases b with
  | false =>
   simp only[hg] at h
   unfold ZI
   rw[gi] at h
   cases hgi:gv i.guard ρ with
   | none=>simp[hgi] at h
   | some b =>
    cases b with
    | false =>
     simp only[hgi] at h ⊢
     rw[gx,hg]
     rw[comm] at h
     exact h
    | true =>
     simp only[hgi] at h ⊢
     rw[oi] at h
     refine zgv (fun v H' hh=>⟨?_,?_⟩) h
     ·exact Rback (.tup []) v H' (zcX hh.1)
     ·rw[gx,hg]
      rw[comm] at hh
      exact hh.2
  | true =>
   simp only[hg] at h
   by_cases hcls:x.op.cls=.pure∨x.op.cls=.read
   ·have hne:x.op.cls≠.eff:=by rcases hcls with e|e<;>rw[e]<;>simp
    have hnil:=hchk hne
    rw[hnil] at h
    rw[zlL hcls] at h
    obtain⟨v,hv,_,h⟩:=h
    unfold ZI
    rw[gi] at h
    have hx:∀ u H',(x.op.cls=.read→rev ρ H' x.op=some v)→K ((ρ.set i.dst u).set x.dst v) H'→ZI P KP x cx (ρ.set i.dst u) H' K:=by
     intro u H' hr hk
     unfold ZI
     rw[gx,hg,hnil]
     simp only
     rw[zlL hcls]
     refine⟨v,?_,trivial,hk⟩
     unfold val at hv ⊢
     rcases hcls with e|e<;>simp only[e] at hv ⊢
     ·rw[zhR (yU a3o)];exact hv
     ·rw[zbK (yU a3o)];exact hr e
    have hvr:x.op.cls=.read→rev ρ H x.op=some v:=fun e=>by simpa[val,e] using hv
    cases hgi:gv i.guard ρ with
    | none=>simp[hgi] at h
    | some b =>
     cases b with
     | false =>
      simp only[hgi] at h ⊢
      rw[comm] at h
      exact hx _ _ hvr h
     | true =>
      simp only[hgi] at h ⊢
      rw[oi] at h
      by_cases hie:i.op.cls=.eff
      ·refine zgv (fun u H' hh=>?_) h
       rcases hcls with e|e
       ·have hn:zaa x i=[]:=by simp[zaa,e]
        rw[hn] at hh
        refine⟨Rback v u H' hh.1,hx u H' (fun e'=>by rw[e] at e';cases e') (by rw[← comm];exact hh.2)⟩
       ·obtain⟨d,hd,hds⟩:=hself e
        have hn:zaa x i=[(d,x.guard,x.op)]:=by simp[zaa,e,hie,entry,hd]
        rw[hn] at hh
        obtain⟨⟨h1,h2⟩,h3⟩:=hh
        refine⟨Rback v u H' h2,hx u H' (fun _=>?_) (by rw[← comm];exact h3)⟩
        have hgg:gv x.guard ((ρ.set x.dst v).set i.dst u)=some true:=by
         rw[← hg]
         rw[comm]
         rw[zeg (yU (l:=zdD x.guard) fun d' hd' hm=>by rw[hd] at hd';cases hd';exact hds (zdo _ hm))]
         exact gx u
        have h4:=h1 hgg
        have e1:((ρ.set x.dst v).set i.dst u) d=v:=by
         rw[comm,hd];simp[Env.set]
        rw[e1] at h4
        rw[comm] at h4
        rw[zbK (yU (l:=x.op.looks) fun d' hd' hm=>by rw[hd] at hd';cases hd';exact hds (List.mem_append_right _ hm))] at h4
        rw[zbK (yU a3o)] at h4
        exact h4
      ·have hn:zaa x i=[]:=by simp[zaa,hie]
       rw[hn] at h
       refine zjY hie (fun u H' hH' hh=>⟨Rback v u H' hh.1,hx u H' (fun e=>?_) (by rw[← comm];exact hh.2)⟩) h
       rcases hH' with rfl|⟨b,ob,hb,rfl⟩
       ·exact hvr e
       ·exact zhi hb (hvr e)
   ·by_cases hal:x.op.cls=.alloc
    ·-- two new objects
     have hia:i.op.cls=.alloc:=by
      unfold zb2 at hsw
      cases hc2:i.op.cls<;>simp_all
     have hgn:i.guard=none:=by
      unfold zb2 at hsw
      simp only[hal,hia] at hsw
      simpa using hsw
     have hxe:x.op.cls≠.eff:=by rw[hal];simp
     have hie:i.op.cls≠.eff:=by rw[hia];simp
     have hnil:=hchk hxe
     subst hnil
     have hRn:=hRe hie
     subst hRn
     have hn:zaa x i=[]:=by simp[zaa,hie]
     have gvn:∀ ρ',gv i.guard ρ'=some true:=fun ρ'=>by rw[hgn];rfl
     unfold ZI
     simp only[gvn]
     simp only[hn,List.append_nil,ZI,gvn] at h
     unfold aop at h
     simp only[hal,hia] at h
     have hxo:∀ u,oev (ρ.set i.dst u) x.op=oev ρ x.op:=fun u=>zdc (yU a3o)
     have hio:∀ u,oev (ρ.set x.dst u) i.op=oev ρ i.op:=fun u=>zdc (yU a1o)
     have hxp:∀ u b,yh (ρ.set i.dst u) b x.op=yh ρ b x.op:=fun u b=>zb7 (yU a3o)
     have hip:∀ u b,yh (ρ.set x.dst u) b i.op=yh ρ b i.op:=fun u b=>zb7 (yU a1o)
     simp only[hio,hip] at h
     unfold aop
     simp only[hal,hia,gx,hg,hxo,hxp]
     cases hox:oev ρ x.op with
     | none =>
      simp only[hox] at h ⊢
      cases hoi:oev ρ i.op with
      | none=>exact h
      | some oi'=>exact fun b hb=>⟨trivial,h.upd _ _⟩
     | some ox =>
      simp only[hox] at h ⊢
      cases hoi:oev ρ i.op with
      | none =>
       simp only[hoi] at h ⊢
       by_cases hf:∃ b,H b=none
       ·obtain⟨b,hb⟩:=hf
        exact(h b hb).2.of_upd
       ·exact⟨0,fun b _ hb=>hf ⟨b,hb⟩⟩
      | some oi' =>
       simp only[hoi] at h ⊢
       intro bi hbi
       refine⟨trivial,fun bx hbx=>⟨trivial,?_⟩⟩
       have hne:bx≠bi:=fun e=>by subst e;simp[zb.upd] at hbx
       have hbx':H bx=none:=by simpa[zb.upd,hne] using hbx
       have h2:=((h bx hbx').2 bi (by simp[zb.upd,Ne.symm hne,hbi])).2
       rw[comm,YE H _ _ hne] at h2
       exact h2
    have hxe:x.op.cls=.eff∧i.op.cls=.alloc:=by
     unfold zb2 at hsw
     cases hc1:x.op.cls<;>cases hc2:i.op.cls<;>simp_all
    obtain⟨hxe,hia⟩:=hxe
    have hn:zaa x i=[]:=by simp[zaa,hxe]
    have hie:i.op.cls≠.eff:=by rw[hia];simp
    have hRn:=hRe hie
    subst hRn
    have hgn:i.guard=none:=by
     unfold zb2 at hsw
     simp only[hxe,hia,Al0] at hsw
     simpa using hsw.1
    have hsome:∃ ob,oev ρ i.op=some ob:=by
     unfold zb2 at hsw
     simp only[hxe,hia,Al0] at hsw
     have h2:=hsw.2
     cases hio:i.op<;>simp only[hio] at h2<;>first|(cases h2;done)|exact⟨_,rfl⟩
    obtain⟨ob,hob⟩:=hsome
    have gvn:∀ ρ',gv i.guard ρ'=some true:=fun ρ'=>by rw[hgn];rfl
    unfold ZI
    simp only[gvn,hn,zdC] at h ⊢
    unfold aop at h
    simp only[hxe,hia] at h
    unfold aop
    simp only[hia,hob]
    intro b hb
    refine⟨trivial,?_⟩
    rw[gx,hg]
    simp only[hxe]
    have h1:=zkv (o:=ob) hb hKP h
    rw[zhp (ρ:=ρ.set i.dst (yh ρ b i.op)) (yU a3o)]
    refine zji (fun v H' hh=>?_) h1
    obtain⟨H0,hH0,rfl,hr,hk⟩:=hh
    have hob':oev (ρ.set x.dst v) i.op=some ob:=by rw[zdc (yU a1o)];exact hob
    simp only[hob'] at hk
    have hk2:=(hk b hH0).2
    rw[zb7 (ρ:=ρ.set x.dst v) (ρ':=ρ) (yU a1o)] at hk2
    rw[← comm]
    exact⟨zbo (fun c hc n hn=>(yU (fun d hd=>hchk2 c hc d hd) n hn).symm) (zds hH0 hr),hk2⟩
structure Fx where
 N:Nat
 lo:Nat
 T:Array Value
 D:List Deferred
 rf:Bool:=false
 keep:List (Nat×Obj):=[]
 base:Nat:=0
def Fx.plain (N:Nat):Fx:=⟨N,0,#[],[],false,[],0⟩
def Fx.marks (N base:Nat):Fx:=⟨N,0,#[],[],true,[],base⟩
def zpv (b:Nat):Deferred:=⟨.collected b,#[]⟩
structure DfOk (F:Fx) (w:World) (H:zb) (ds:List Deferred):Prop where
 eq:∃ bs:List Nat,ds=bs.map zpv++F.D∧bs.Nodup∧(F.rf=false→bs=[])∧∀ b∈bs,F.base≤b∧H b=none∧w.heap[b]?=some (.deferred (some []))
 keep:∀ x∈F.keep,H x.1=none∧w.heap[x.1]?=some x.2
theorem zhM {γ γ':Gh} {w w':World} {H H':zb} (hext:Ext (keysOf H) γ w γ' w') (hk:yo H w H') {b:Nat} {o:Obj} (h:H b=none∧w.heap[b]?=some o):H' b=none∧w'.heap[b]?=some o:=by
 have hlt:=(zar.1 h.2).1
 refine⟨?_,(hext.frame b hlt (by simp[keysOf,h.1])).2.trans h.2⟩
 cases hb:H' b with
 | none=>rfl
 | some x =>
  rcases hk b (by simp[hb]) with h1|h1
  ·simp[h.1] at h1
  ·omega
theorem DfOk.step {F:Fx} {γ γ':Gh} {w w':World} {H H':zb} {ds:List Deferred} (h:DfOk F w H ds) (hext:Ext (keysOf H) γ w γ' w') (hk:yo H w H'):DfOk F w' H' ds :=
 ⟨let ⟨bs,h1,h2,h3,h4⟩:=h.eq;⟨bs,h1,h2,h3,fun b hb=>⟨(h4 b hb).1,zhM hext hk (h4 b hb).2⟩⟩,fun x hx=>zhM hext hk (h.keep x hx)⟩
theorem DfOk.plain {F:Fx} {w:World} {H:zb} {ds:List Deferred} (h:DfOk F w H ds) (hf:F.rf=false):ds=F.D:=by
 obtain⟨bs,h1,_,h3,_⟩:=h.eq
 rw[h1,h3 hf];rfl
theorem DfOk.init {F:Fx} {w:World} {H:zb} (hk:F.keep=[]):DfOk F w H F.D :=
 ⟨⟨[],rfl,List.nodup_nil,fun _=>rfl,fun b hb=>by cases hb⟩,fun x hx=>by rw[hk] at hx;cases hx⟩
structure SInv (γ0:Gh) (w0:World) (H0:zb) (F:Fx) (γ:Gh) (w:World) (H:zb) (ρ:Env) (a:Act):Prop where
 ext:Ext (keysOf H0) γ0 w0 γ w
 st:zA γ w H
 keys:yo H0 w0 H
 env:EnvRel γ w ρ a.tmps
 sz:a.tmps.size=F.N
 fx:∀ n,n<F.lo→a.tmps.getD n undef=F.T.getD n undef
 df:DfOk F w H a.defers
def zac (N lo : Nat) (ops : Array Oper) (P : Program) (o : Oper) (it : AItem) : Bool :=
  decide (o.dst = it.dst) && (match it.dst with | some d => decide (lo ≤ d) && decide (d < N) | none => true) &&
  (match o.guard, it.guard with
   | none, none => true
   | some (j, want), some (s, want') => decide (want = want') && decide ((ops[j]?).bind (·.dst) = some s)
   | _, _ => false) && yb P o it.op
theorem zmM {γ:Gh} {w:World} {ρ:Env} {a:Act} {ops:Array Oper} {o:Oper} {it:AItem} (he:EnvRel γ w ρ a.tmps)
  (hg:(match o.guard,it.guard with
   | none,none=>true
   | some (j,want),some (s,want')=>decide (want=want')&&decide ((ops[j]?).bind (·.dst)=some s)
   | _,_=>false)=true) {b:Bool} (h:gv it.guard ρ=some b):Region.wanted o (yielded ops a.tmps)=b:=by
 cases hog:o.guard with
 | none =>
  cases hig:it.guard with
  | some p=>simp[hog,hig] at hg
  | none=>rw[hig] at h;simp only[gv,Al1] at h;subst h;simp[Region.wanted,hog]
 | some jw =>
  obtain⟨j,want⟩:=jw
  cases hig:it.guard with
  | none=>simp[hog,hig] at hg
  | some p =>
   obtain⟨s,want'⟩:=p
   simp only[hog,hig,Al0,yw] at hg
   obtain⟨rfl,hd⟩:=hg
   rw[hig] at h
   simp only[gv] at h
   have hr:=he.rep s
   have hy:∀ v,a.tmps.getD s undef=v→v≠undef→a.tmps[s]?=some v:=by
    intro v hv hne
    cases hs:a.tmps[s]? with
    | none=>simp[zh0,hs] at hv;exact absurd hv.symm hne
    | some u=>simp[zh0,hs] at hv;rw[hv]
   cases hρ:ρ s<;>simp only[hρ] at h hr<;>try (cases h;done)
   ·rename_i b'
    simp only[Al1] at h
    subst h
    generalize hv:a.tmps.getD s undef=v at hr
    cases hr
    have:=hy _ hv (by simp[undef])
    simp[Region.wanted,hog,yielded,hd,this]
   ·rename_i vs
    cases vs with
    | cons c r=>simp at h
    | nil =>
     simp only[Al1] at h
     subst h
     generalize hv:a.tmps.getD s undef=v at hr
     cases hr with
     | tup _ us hl _ =>
      cases us with
      | cons u r=>simp at hl
      | nil =>
       have:yielded ops a.tmps j=none:=by
        unfold yielded
        rw[hd]
        simp only[Option.bind_some]
        cases hs:a.tmps[s]? with
        | none=>rfl
        | some u=>simp[zh0,hs] at hv;rw[hv]
       simp[Region.wanted,hog,this]
theorem zlb {γ:Gh} {w:World} {ρ:Env} {tmps:Array Value} {N:Nat} (he:EnvRel γ w ρ tmps) (hs:tmps.size=N) {d:Option Nat} (hd:∀ x,d=some x→x<N) {c:AV} {v:Value} (hr:Rep γ w c v) (a:Act) (ha:a.tmps=tmps) :
  EnvRel γ w (ρ.set d c) (a.put d v).tmps:=by
 cases d with
 | none=>subst ha;exact he
 | some x =>
  subst ha
  refine⟨he.tab,fun n=>?_⟩
  simp only[Env.set,Act.put]
  have hx:=hd x rfl
  by_cases hn:n=x
  ·subst hn
   simp only[if_true]
   have:(a.tmps.setIfInBounds n v).getD n undef=v:=by
    simp[zh0,hs,hx]
   rw[this];exact hr
  ·simp only[hn,if_false]
   have:(a.tmps.setIfInBounds x v).getD n undef=a.tmps.getD n undef:=by
    simp only[zh0,Array.getElem?_setIfInBounds_ne (Ne.symm hn)]
   rw[this];exact he.rep n
theorem zny (a:Act) (d:Option Nat) (v:Value):(a.put d v).tmps.size=a.tmps.size:=by cases d<;>simp[Act.put]
theorem ztk {F:Fx} {a:Act} (h:∀ n,n<F.lo→a.tmps.getD n undef=F.T.getD n undef) {d:Option Nat} (hd:∀ x,d=some x→F.lo≤x∧x<F.N) (v:Value):∀ n,n<F.lo→(a.put d v).tmps.getD n undef=F.T.getD n undef:=by
 intro n hn
 cases d with
 | none=>exact h n hn
 | some x =>
  have hx:=(hd x rfl).1
  have:(a.tmps.setIfInBounds x v).getD n undef=a.tmps.getD n undef:=by
   simp only[zh0,Array.getElem?_setIfInBounds_ne (show x≠n by omega)]
  simp only[Act.put]
  rw[this];exact h n hn
theorem put_defers (a:Act) (d:Option Nat) (v:Value):(a.put d v).defers=a.defers:=by cases d<;>rfl
theorem zae {H0 H H':zb} {w0 w:World} (h:yo H0 w0 H) (hs:w0.heap.size≤w.heap.size) (h':yo H w H'):yo H0 w0 H':=fun b hb=>by
 rcases h' b hb with h1|h1
 ·exact h b h1
 ·exact .inr (by omega)
theorem SInv.step {γ0:Gh} {w0:World} {H0:zb} {F:Fx} {γ γ':Gh} {w w':World} {H H':zb} {ρ:Env} {a:Act} (h:SInv γ0 w0 H0 F γ w H ρ a) (hext:Ext (keysOf H) γ w γ' w') (hst:zA γ' w' H') (hk:yo H w H')
  {d:Option Nat} (hd:∀ x,d=some x→F.lo≤x∧x<F.N) {c:AV} {v:Value} (hr:Rep γ' w' c v):SInv γ0 w0 H0 F γ' w' H' (ρ.set d c) (a.put d v) :=
 ⟨h.ext.trans hext (fun b hb hb'=>by
   rcases h.keys b hb' with h1|h1
   ·exact h1
   ·omega),hst,zae h.keys h.ext.mono.size hk,zlb (h.env.mono hext.mono) h.sz (fun x hx=>(hd x hx).2) hr a rfl,by rw[zny];exact h.sz,ztk h.fx hd v,by rw[put_defers];exact h.df.step hext hk⟩
def zcO (γ0:Gh) (w0:World) (H0:zb) (F:Fx) (KP:AV→zb→Prop) (ch:List PanicEntry) (a:Act) (w:World):Prop :=
 ∃ γ H c v,ch=[{ v,recovered:=false }]∧Ext (keysOf H0) γ0 w0 γ w∧zA γ w H∧yo H0 w0 H∧Rep γ w c v∧KP c H∧zaH γ w∧a.tmps.size=F.N∧(∀ n,n<F.lo→a.tmps.getD n undef=F.T.getD n undef)∧DfOk F w H a.defers
theorem zge {P:Program} {γ0:Gh} {w0:World} {H0:zb} {F:Fx} {KP:AV→zb→Prop} {ops:Array Oper} {i:Nat} {o:Oper} {it:AItem} {R:List Chk} {K:Env→zb→Prop} {next:Act→World→Prop} {Q:Exit→Act→World→Prop}
  (hQ:∀ ch a w,zcO γ0 w0 H0 F KP ch a w→Q (.panic ch) a w) (hi:ops[i]?=some o) (hc:zac F.N F.lo ops P o it=true) {γ:Gh} {w:World} {H:zb} {ρ:Env} {a:Act} (h:SInv γ0 w0 H0 F γ w H ρ a) (hs:ZI P KP it R ρ H K)
  (hn:∀ γ' w' H' ρ' a',SInv γ0 w0 H0 F γ' w' H' ρ' a'→K ρ' H'→next a' w'):wpOp P ops Q i next a w:=by
 simp only[zac,Al0,yw] at hc
 obtain⟨⟨⟨hd,hb⟩,hg⟩,hop⟩:=hc
 have hdN:∀ x,it.dst=some x→F.lo≤x∧x<F.N:=fun x hx=>by rw[hx] at hb;simpa using hb
 unfold wpOp
 simp only[hi]
 unfold ZI at hs
 cases hgv:gv it.guard ρ with
 | none=>simp[hgv] at hs
 | some b =>
  have hw:=zmM (ops:=ops) (o:=o) h.env hg hgv
  rw[hw]
  cases b with
  | false =>
   simp only[hgv] at hs
   simp only[Al7,if_false]
   rw[hd]
   exact hn _ _ _ _ _ (h.step (.refl _ _ _) h.st (yo.refl _ _) hdN (.tup [] [] rfl (by simp))) hs
  | true =>
   simp only[hgv] at hs
   simp only[if_true]
   refine .inl (zkg hop γ w H ρ a _ KP next Q h.env h.st hs (fun γ' w' H' c v hext hst hk hr hK=>?_) (fun γ' w' H' c v hext hst hk hr hK=>hQ _ _ _ ⟨γ',H',c,v,rfl,?_,hst,zae h.keys h.ext.mono.size hk,hr,hK,h.env.tab.mono hext.mono,h.sz,h.fx,h.df.step hext hk⟩))
   ·rw[hd]
    exact hn _ _ _ _ _ (h.step hext hst hk hdN hr) hK.2
   ·exact h.ext.trans hext (fun b hb hb'=>by
     rcases h.keys b hb' with h1|h1
     ·exact h1
     ·omega)
theorem zfn {P:Program} {γ0:Gh} {w0:World} {H0:zb} {F:Fx} {KP:AV→zb→Prop} {ops:Array Oper} {Q:Exit→Act→World→Prop} {K:Env→zb→Prop}
  (hQ:∀ ch a w,zcO γ0 w0 H0 F KP ch a w→Q (.panic ch) a w) (hK:∀ γ w H ρ a,SInv γ0 w0 H0 F γ w H ρ a→K ρ H→Q .normal a w) :
  ∀(l:List Nat) (its:List (AItem×List Chk)),l.length=its.length→(∀(k i:Nat) (it:AItem×List Chk),l[k]?=some i→its[k]?=some it→∃ o,ops[i]?=some o∧zac F.N F.lo ops P o it.1=true) →
  ∀(γ:Gh) (w:World) (H:zb) (ρ:Env) (a:Act),SInv γ0 w0 H0 F γ w H ρ a→y5 P KP its ρ H K→wpOps P ops Q l a w
 | [],[],_,_,γ,w,H,ρ,a,h,hs=>hK γ w H ρ a h hs
 | [],_::_,hl,_,_,_,_,_,_,_,_=>by simp at hl
 | _::_,[],hl,_,_,_,_,_,_,_,_=>by simp at hl
 | i::l,it::its,hl,hc,γ,w,H,ρ,a,h,hs=>by
  rw[wpOps_cons]
  obtain⟨o,ho,hco⟩:=hc 0 i it rfl rfl
  unfold y5 at hs
  exact zge hQ ho hco h hs fun γ' w' H' ρ' a' h' hs'=>zfn hQ hK l its (by simpa using hl) (fun k i it hk hit=>hc (k+1) i it (by simpa using hk) (by simpa using hit)) γ' w' H' ρ' a' h' hs'
def zbO (x i:AItem×List Chk):Bool :=
 x.1.apart i.1&&zb2 x.1 i.1&&(x.1.op.cls != .read||(match x.1.dst with|some d=>!x.1.looks.contains d|none=>false))&&(x.1.op.cls==.eff||x.2.isEmpty) &&
 (match i.1.dst with|some d=>x.2.all fun c=>!(zas c).contains d|none=>true)&&(i.1.op.cls==.eff||i.2.isEmpty)
def zkl (x i:AItem×List Chk):Prop:=∀ c∈zaa x.1 i.1,c∈i.2
theorem zi0 {ρ:Env} {H:zb} {A:List Chk} (h:Zl ρ H A):∀ {B:List Chk},(∀ c∈B,c∈A)→Zl ρ H B:=by
 have mem:∀ {A:List Chk},Zl ρ H A→∀ c∈A,(gv c.2.1 ρ=some true→rev ρ H c.2.2=some (ρ c.1)):=by
  intro A
  induction A with
  | nil=>intro _ c hc;cases hc
  | cons x A ih =>
   obtain⟨d,g,o⟩:=x
   intro h c hc
   rcases List.mem_cons.1 hc with e|e
   ·subst e;exact h.1
   ·exact ih h.2 c e
 intro B
 induction B with
 | nil=>intro _;trivial
 | cons x B ih =>
  obtain⟨d,g,o⟩:=x
  intro hB
  exact⟨mem h (d,g,o) (hB _ (Yz ..)),ih fun c hc=>hB c (zap _ hc)⟩
theorem zkb {x y:AItem} (h:x.apart y=true∨True):∀ c∈entry x,∀ n∈zas c,x.dst=some n∨n∈x.looks:=by
 intro c hc n hn
 unfold entry at hc
 split at hc
 ·rename_i d hd
  simp only[List.mem_singleton] at hc
  subst hc
  simp only[zas,List.mem_cons,List.mem_append] at hn
  rcases hn with (rfl|hn)|hn
  ·exact .inl hd
  ·exact .inr (zdo _ hn)
  ·exact .inr (List.mem_append_right _ hn)
 ·cases hc
theorem front {P:Program} {KP:AV→zb→Prop} (hKP:zgJ KP) (i:AItem×List Chk) {K:Env→zb→Prop} {q:List (AItem×List Chk)}:∀(p:List (AItem×List Chk)),
  (∀ x∈p,zbO x i=true∧zkl x i)→(∀(k l:Nat) (x y:AItem×List Chk),k<l→p[k]?=some x→p[l]?=some y→zaa x.1 i.1≠[]→∀ d,y.1.dst=some d→x.1.dst≠some d∧d ∉ x.1.looks) →
  ∀(R:List Chk),(∀ c∈R,c∈i.2)→(∀ c∈R,∀ x∈p,∀ d,x.1.dst=some d→d ∉ zas c)→∀(ρ:Env) (H:zb),
  y5 P KP (p++i::q) ρ H K→ZI P KP i.1 R ρ H (fun ρ' H'=>y5 P KP (p++q) ρ' H' K)
 | [],_,_,R,hRi,_,ρ,H,h=>by
  simp only[zdC] at h ⊢
  unfold y5 at h
  exact zcs (fun _ _ hr=>zi0 hr hRi) (fun _ _ h=>h) h
 | x::p,hp,hw,R,hRi,hRp,ρ,H,h=>by
  obtain⟨hx,hnx⟩:=hp x (Yz ..)
  simp only[zbO,Al0,zii] at hx
  obtain⟨⟨⟨⟨⟨hap,hsw⟩,hself⟩,hchk⟩,hchk2⟩,hie⟩:=hx
  simp only[Al6] at h ⊢
  unfold y5 at h
  have ih:=fun(ρ:Env) (H:zb) (h':y5 P KP (p++i::q) ρ H K)=>front (P:=P) hKP i (K:=K) (q:=q) p (fun y hy=>hp y (zap _ hy)) (fun k l y z hkl hk hl=>hw (k+1) (l+1) y z (by omega) (by simpa using hk) (by simpa using hl)) (zaa x.1 i.1++R)
   (fun c hc=>by
    rcases List.mem_append.1 hc with h1|h1
    ·exact hnx c h1
    ·exact hRi c h1)
   (fun c hc y hy d hd=>by
    rcases List.mem_append.1 hc with h1|h1
    ·have hcls:zaa x.1 i.1≠[]:=List.ne_nil_of_mem h1
     have h2:c∈entry x.1:=by
      unfold zaa at h1
      split at h1
      ·exact h1
      ·cases h1
     obtain⟨l,hl⟩:=List.mem_iff_getElem?.1 hy
     obtain⟨n1,n2⟩:=hw 0 (l+1) x y (by omega) rfl (by simpa using hl) hcls d hd
     intro hn
     rcases zkb (y:=x.1) (.inr trivial) c h2 d hn with h3|h3
     ·exact n1 h3
     ·exact n2 h3
    ·exact hRp c h1 y (zap _ hy) d hd) ρ H h'
  have h1:=zcs (P:=P) (KP:=KP) (fun _ _ hr=>hr) (fun ρ' H' h'=>ih ρ' H' h') h
  have h2:=swap hKP (x:=x.1) (i:=i.1) (cx:=x.2) hap hsw (fun e=>by
    rcases hself with h|h
    ·rw[e] at h;simp[bne,BEq.beq] at h
    ·split at h
     ·rename_i d hd;exact⟨d,hd,by simpa using h⟩
     ·cases h)
   (fun e=>by
    rcases hchk with h|h
    ·exact absurd (of_decide_eq_true h) e
    ·simpa using h)
   (fun c hc d hd=>by rw[hd] at hchk2;have:=zdH.1 hchk2 c hc;simpa using this)
   (R:=R) (fun c hc d hd=>hRp c hc x (Yz ..) d hd)
   (fun e=>by
    rcases hie with h|h
    ·exact absurd (of_decide_eq_true h) e
    ·have:i.2=[]:=by simpa using h
     cases R with
     | nil=>rfl
     | cons c r=>have:=hRi c (Yz ..);simp_all) h1
  exact zcs (fun _ _ hr=>hr) (fun ρ' H' h'=>by unfold y5;exact h') h2
abbrev Yf:=Nat×AItem×List Chk
def zm9 (ops:Array Oper) (pre:Nat→List Nat) (r:List Yf) (x:Yf):Prop :=
 (∀ i∈r,x.1∈pre i.1∨(zbO x.2 i.2=true∧zkl x.2 i.2∧(zaa x.2.1 i.2.1≠[]→∀ y∈r,∀ d,y.2.1.dst=some d→x.2.1.dst≠some d∧d ∉ x.2.1.looks))) ∧
 (∀ o,ops[x.1]?=some o→∀ e∈o.after,Region.binds .any e=true→e.on<ops.size∧e.on≠x.1∧∀ y∈r,y.1≠e.on)∧(∀ y∈r,y.1≠x.1)
def POK (ops:Array Oper) (pre:Nat→List Nat):List Yf→Prop
 | []=>True
 | x::r=>zm9 ops pre r x∧POK ops pre r
theorem POK.drop {ops:Array Oper} {pre:Nat→List Nat} {i:Yf} {q:List Yf}:∀ {p:List Yf},POK ops pre (p++i::q)→POK ops pre (p++q)
 | [],h=>h.2
 | x::p,h=>by
  obtain⟨⟨h1,h2,h3⟩,h4⟩:=h
  have sub:∀ y∈p++q,y∈p++i::q:=fun y hy=>by
   rcases List.mem_append.1 hy with h|h
   ·exact zdo _ h
   ·exact List.mem_append_right _ (zap _ h)
  refine⟨⟨fun j hj=>?_,fun o ho e he hbe=>?_,fun y hy=>h3 y (sub y hy)⟩,POK.drop h4⟩
  ·rcases h1 j (sub j hj) with h|⟨ha,hb,hc⟩
   ·exact .inl h
   ·exact .inr ⟨ha,hb,fun hn y hy=>hc hn y (sub y hy)⟩
  ·obtain⟨ha,hne,hb⟩:=h2 o ho e he hbe
   exact⟨ha,hne,fun y hy=>hb y (sub y hy)⟩
theorem POK.before {ops:Array Oper} {pre:Nat→List Nat} {i:Yf} {q:List Yf}:∀ {p:List Yf},POK ops pre (p++i::q)→(∀ x∈p,x.1 ∉ pre i.1) →
  (∀ x∈p.map (·.2),zbO x i.2=true∧zkl x i.2) ∧
  (∀(k l:Nat) (x y:AItem×List Chk),k<l→(p.map (·.2))[k]?=some x→(p.map (·.2))[l]?=some y→zaa x.1 i.2.1≠[]→∀ d,y.1.dst=some d→x.1.dst≠some d∧d ∉ x.1.looks)
 | [],_,_=>⟨by simp,by simp⟩
 | x::p,h,hn=>by
  obtain⟨⟨h1,_,_⟩,h4⟩:=h
  obtain⟨ih1,ih2⟩:=POK.before h4 (fun y hy=>hn y (zap _ hy))
  have hx:=(h1 i (by simp)).resolve_left (hn x (Yz ..))
  refine⟨fun y hy=>?_,fun k l y z hkl hk hl hne d hd=>?_⟩
  ·simp only[List.map_cons,List.mem_cons] at hy
   rcases hy with rfl|hy
   ·exact⟨hx.1,hx.2.1⟩
   ·exact ih1 y hy
  ·cases l with
   | zero=>omega
   | succ l =>
    simp only[List.map_cons,List.getElem?_cons_succ] at hl
    cases k with
    | zero =>
     simp only[List.map_cons,List.getElem?_cons_zero,Al1] at hk
     subst hk
     rw[ZX] at hl
     cases hz:p[l]? with
     | none=>simp[hz] at hl
     | some z' =>
      simp only[hz,ZW,Al1] at hl
      subst hl
      exact hx.2.2 hne z' (zdo _ (List.mem_of_getElem? hz)) d hd
    | succ k =>
     simp only[List.map_cons,List.getElem?_cons_succ] at hk
     exact ih2 k l y z (by omega) hk hl hne d hd
theorem POK.fresh {ops:Array Oper} {pre:Nat→List Nat} {i:Yf} {q:List Yf}:∀ {p:List Yf},POK ops pre (p++i::q)→∀ y∈p++q,y.1≠i.1
 | [],h,y,hy=>h.1.2.2 y hy
 | x::p,h,y,hy=>by
  simp only[Al6,List.mem_cons] at hy
  rcases hy with rfl|hy
  ·exact fun e=>h.1.2.2 i (by simp) e.symm
  ·exact POK.fresh h.2 y hy
theorem zm2 {P:Program} {γ0:Gh} {w0:World} {H0:zb} {F:Fx} {KP:AV→zb→Prop} (hKP:zgJ KP) {ops:Array Oper} {pre:Nat→List Nat} {Q:Exit→Act→World→Prop} {K:Env→zb→Prop}
  (hQ:∀ ch a w,zcO γ0 w0 H0 F KP ch a w→Q (.panic ch) a w) (hK:∀ γ w H ρ a,SInv γ0 w0 H0 F γ w H ρ a→K ρ H→Q .normal a w)
  (hpre:∀(i:Nat) (o:Oper),ops[i]?=some o→∀ k∈pre i,∃ e∈o.after,Region.binds .any e=true∧(e.on=k∨k∈pre e.on)) :
  ∀(fuel:Nat) (r:List Yf) (listed:Array Bool) (γ:Gh) (w:World) (H:zb) (ρ:Env) (a:Act),listed.size=ops.size→r.length≤fuel→POK ops pre r→(∀ x∈r,∃ o,ops[x.1]?=some o∧zac F.N F.lo ops P o x.2.1=true) →
   (∀ i,i<ops.size→(listed.getD i true=false↔∃ x∈r,x.1=i))→(∀ j,listed.getD j false=true→∀ k∈pre j,listed.getD k false=true) →
   SInv γ0 w0 H0 F γ w H ρ a→y5 P KP (r.map (·.2)) ρ H K→wpAny P .any ops Q fuel listed a w:=by
 have firstReady:∀(x:Yf) (r:List Yf) (listed:Array Bool),listed.size=ops.size→POK ops pre (x::r)→(∃ o,ops[x.1]?=some o∧zac F.N F.lo ops P o x.2.1=true) →
   (∀ i,i<ops.size→(listed.getD i true=false↔∃ y∈x::r,y.1=i))→x.1∈Region.ready .any ops listed:=by
  intro x r listed hsz hpok ⟨o,ho,_⟩ hl
  rw[mem_ready]
  have hx:x.1<ops.size:=(zar.1 ho).1
  refine⟨(hl x.1 hx).2 ⟨x,Yz ..,rfl⟩,o,ho,fun e he hbe=>?_⟩
  obtain⟨h1,hne,h2⟩:=hpok.1.2.1 o ho e he hbe
  have h3:¬ (listed.getD e.on true=false):=by
   rw[hl e.on h1]
   rintro⟨y,hy,hye⟩
   rcases List.mem_cons.1 hy with rfl|hy
   ·exact hne hye.symm
   ·exact h2 y hy hye
  have h4:e.on<listed.size:=by omega
  simp only[zh0,Array.getElem?_eq_getElem h4,Option.getD_some] at h3 ⊢
  cases hh:listed[e.on]<;>simp_all
 have clash:∀(listed:Array Bool) (j:Nat),listed.getD j true=false→listed.getD j false=true→False:=by
  intro listed j h1 h2
  simp only[zh0] at h1 h2
  cases hj:listed[j]?<;>simp_all
 intro fuel
 induction fuel with
 | zero =>
  intro r listed γ w H ρ a hsz hlen hpok hc hl hdc hinv hs
  have hr:r=[]:=List.eq_nil_of_length_eq_zero (by omega)
  subst hr
  refine⟨?_,hK γ w H ρ a hinv hs⟩
  cases hrd:Region.ready .any ops listed with
  | nil=>rfl
  | cons j js =>
   have hj:j∈Region.ready .any ops listed:=by rw[hrd];exact Yz ..
   obtain⟨h1,o,ho,_⟩:=mem_ready.1 hj
   obtain⟨x,hx,_⟩:=(hl j (zar.1 ho).1).1 h1
   cases hx
 | succ fuel ih =>
  intro r listed γ w H ρ a hsz hlen hpok hc hl hdc hinv hs
  refine⟨fun hrd=>?_,fun i hi=>?_⟩
  ·cases r with
   | nil=>exact hK γ w H ρ a hinv hs
   | cons x r =>
    have:=firstReady x r listed hsz hpok (hc x (Yz ..)) hl
    rw[hrd] at this
    cases this
  ·obtain⟨h1,o,ho,hall⟩:=mem_ready.1 hi
   have hilt:=(zar.1 ho).1
   obtain⟨x,hx,rfl⟩:=(hl i hilt).1 h1
   obtain⟨p,q,rfl⟩:=List.append_of_mem hx
   have hpre':∀ k∈pre x.1,listed.getD k false=true:=fun k hk=>by
    obtain⟨e,he,hb,h2⟩:=hpre x.1 o ho k hk
    have h3:=hall e he hb
    rcases h2 with rfl|h2
    ·exact h3
    ·exact hdc e.on h3 k h2
   have hnp:∀ y∈p,y.1 ∉ pre x.1:=fun y hy hk=>by
    obtain⟨oy,hoy,_⟩:=hc y (zdo _ hy)
    exact clash listed y.1 ((hl y.1 (zar.1 hoy).1).2 ⟨y,zdo _ hy,rfl⟩) (hpre' y.1 hk)
   obtain⟨hb1,hb2⟩:=hpok.before hnp
   obtain⟨o',ho',hco⟩:=hc x hx
   rw[ho] at ho'
   cases ho'
   rw[List.map_append,List.map_cons] at hs
   have hfront:=front hKP x.2 (p.map (·.2)) hb1 hb2 [] (by simp) (by simp) ρ H hs
   refine zge hQ ho hco hinv hfront fun γ' w' H' ρ' a' hinv' hs'=>?_
   refine ih (p++q) _ γ' w' H' ρ' a' (by simpa using hsz) (by simp at hlen ⊢;omega) hpok.drop (fun y hy=>hc y ?_) (fun j hj=>?_) (fun j hj k hk=>?_) hinv' (by rw[List.map_append];exact hs')
   ·rcases List.mem_append.1 hy with h|h
    ·exact zdo _ h
    ·exact List.mem_append_right _ (zap _ h)
   ·by_cases hji:x.1=j
    ·subst hji
     constructor
     ·intro h2
      have h3:x.1<listed.size:=by omega
      simp[h3] at h2
     ·rintro⟨y,hy,hye⟩
      exact absurd hye (hpok.fresh y hy)
    ·rw[getD_set_ne true hji,hl j hj]
     constructor
     ·rintro⟨y,hy,rfl⟩
      refine⟨y,?_,rfl⟩
      rcases List.mem_append.1 hy with h|h
      ·exact zdo _ h
      ·rcases List.mem_cons.1 h with rfl|h
       ·exact absurd rfl hji
       ·exact List.mem_append_right _ h
     ·rintro⟨y,hy,rfl⟩
      refine⟨y,?_,rfl⟩
      rcases List.mem_append.1 hy with h|h
      ·exact zdo _ h
      ·exact List.mem_append_right _ (zap _ h)
   ·by_cases hji:x.1=j
    ·subst hji
     exact getD_set_true (hpre' k hk)
    ·rw[getD_set_ne false hji] at hj
     exact getD_set_true (hdc j hj k hk)
def zcf (items:List AItem) (l:List Nat):List Chk:=l.flatMap fun k=>match items[k]? with|some x=>entry x|none=>[]
def zdv (items:List AItem):List (AItem×List Chk):=items.map fun it=>(it,zcf items it.chk)
abbrev Row:=Nat×Nat×AItem
def ZQ:Nat→List Nat→List AItem→List Row
 | k,i::c,it::its=>(k,i,it)::ZQ (k+1) c its
 | _,_,_=>[]
def zcU (items:List AItem) (r:Row):Yf:=(r.2.1,r.2.2,zcf items r.2.2.chk)
def zrT (ops:Array Oper) (pre:List (List Nat)) (items:List AItem) (r:List Row) (x:Row):Bool :=
 (r.all fun i=>(pre.getD i.2.1 []).contains x.2.1 ||
  (zbO (zcU items x).2 (zcU items i).2&&((zaa x.2.2 i.2.2).isEmpty||(i.2.2.chk.contains x.1&&r.all fun y=>match y.2.2.dst with|some d=>x.2.2.dst != some d&&!x.2.2.looks.contains d|none=>true)))) &&
 (match ops[x.2.1]? with|some o=>o.after.all fun e=>!Region.binds .any e||(decide (e.on<ops.size)&&e.on != x.2.1&&r.all fun y=>y.2.1 != e.on)|none=>false) &&
 (r.all fun y=>y.2.1 != x.2.1)
def zqT (ops:Array Oper) (pre:List (List Nat)) (items:List AItem):List Row→Bool
 | []=>true
 | x::r=>zrT ops pre items r x&&zqT ops pre items r
def zn3 (ops:Array Oper):List (List Nat) :=
 ops.toList.foldl (fun acc o=>acc++[((o.after.toList.filter (Region.binds .any)).flatMap fun e=>e.on::acc.getD e.on []).eraseDups]) []
def preB (ops:Array Oper) (pre:List (List Nat)):Bool :=
 (List.range ops.size).all fun i=>(pre.getD i []).all fun k=>match ops[i]? with
  | some o=>o.after.any fun e=>Region.binds .any e&&(e.on==k||(pre.getD e.on []).contains k)
  | none=>true
def zb5 (P:Program) (N lo:Nat) (ops:Array Oper) (c:List Nat) (items:List AItem):Bool :=
 let rows:=ZQ 0 c items
 P.follows .mixedOrders&&decide (c.length=items.length)&&decide (c.length=ops.size)&&((List.range ops.size).all fun i=>c.contains i) &&
 (rows.all fun r=>match ops[r.2.1]? with|some o=>zac N lo ops P o r.2.2|none=>false)&&preB ops (zn3 ops)&&zqT ops (zn3 ops) items rows
def zeI (P:Program) (N lo:Nat) (ops:Array Oper) (items:List AItem):Bool :=
 decide (ops.size=items.length)&&((ops.toList.zip items).all fun x=>zac N lo ops P x.1 x.2)
theorem ze4 {items:List AItem}:∀(c:List Nat) (its:List AItem) (k:Nat),c.length=its.length→(∀ j x,its[j]?=some x→items[k+j]?=some x) →
  (ZQ k c its).map (fun r=>(zcU items r).2)=its.map (fun it=>(it,zcf items it.chk))∧(ZQ k c its).map (·.2.1)=c∧∀ r∈ZQ k c its,items[r.1]?=some r.2.2
 | [],[],_,_,_=>by simp[ZQ]
 | [],_::_,_,h,_=>by simp at h
 | _::_,[],_,h,_=>by simp at h
 | i::c,it::its,k,h,hi=>by
  obtain⟨h1,h2,h3⟩:=ze4 c its (k+1) (by simpa using h) (fun j x hj=>by have:=hi (j+1) x (by simpa using hj);rwa [show k+(j+1)=k+1+j by omega] at this)
  refine⟨by rw[ZQ,List.map_cons,List.map_cons,h1];rfl,by simp[ZQ,h2],fun r hr=>?_⟩
  simp only[ZQ,List.mem_cons] at hr
  rcases hr with rfl|hr
  ·have:=hi 0 it rfl;simpa using this
  ·exact h3 r hr
theorem zjl {ops:Array Oper} {pre:List (List Nat)} {items:List AItem}:∀(r:List Row),(∀ x∈r,items[x.1]?=some x.2.2)→zqT ops pre items r=true→(∀ x∈r,∃ o,ops[x.2.1]?=some o)→POK ops (fun i=>pre.getD i []) (r.map (zcU items))
 | [],_,_,_=>trivial
 | x::r,hi,h,ho=>by
  simp only[zqT,Al0,zrT] at h
  obtain⟨⟨⟨h1,h2⟩,h3⟩,h4⟩:=h
  refine⟨⟨fun i hir=>?_,fun o hox e he hbe=>?_,fun y hy=>?_⟩,zjl r (fun y hy=>hi y (zap _ hy)) h4 (fun y hy=>ho y (zap _ hy))⟩
  ·obtain⟨i,hir',rfl⟩:=List.mem_map.1 hir
   have:=zdH.1 h1 i hir'
   simp only[zii,Al0] at this
   rcases this with h5|⟨h5,h6⟩
   ·left;show x.2.1∈pre.getD i.2.1 [];simpa using h5
   ·right
    refine⟨h5,fun c hc=>?_,fun hn y hy d hd=>?_⟩
    ·have hne:(zaa x.2.2 i.2.2).isEmpty=false:=by
      have:c∈zaa x.2.2 i.2.2:=hc
      cases hh:zaa x.2.2 i.2.2<;>simp_all
     rw[hne] at h6
     simp only[Al7,false_or] at h6
     have hmem:x.1∈i.2.2.chk:=by simpa using h6.1
     have hce:c∈entry x.2.2:=by
      have:c∈zaa x.2.2 i.2.2:=hc
      unfold zaa at this
      split at this
      ·exact this
      ·cases this
     show c∈zcf items i.2.2.chk
     unfold zcf
     rw[List.mem_flatMap]
     exact⟨x.1,hmem,by rw[hi x (Yz ..)];exact hce⟩
    ·obtain⟨y,hyr,rfl⟩:=List.mem_map.1 hy
     have hne:(zaa x.2.2 i.2.2).isEmpty=false:=by
      have:zaa x.2.2 i.2.2≠[]:=hn
      cases hh:zaa x.2.2 i.2.2<;>simp_all
     rw[hne] at h6
     simp only[Al7,false_or] at h6
     have:=zdH.1 h6.2 y hyr
     have hd':y.2.2.dst=some d:=hd
     rw[hd'] at this
     simp only[Al0,bne_iff_ne,ne_eq,Bool.not_eq_true'] at this
     exact⟨this.1,by show ¬ d∈x.2.2.looks;simpa using this.2⟩
  ·have hox':ops[x.2.1]?=some o:=hox
   rw[hox'] at h2
   simp only at h2
   have:=Array.all_eq_true_iff_forall_mem.1 h2 e he
   simp only[hbe,Bool.not_true,Bool.false_or,Al0,yw,bne_iff_ne,ne_eq] at this
   refine⟨this.1.1,this.1.2,fun y hy=>?_⟩
   obtain⟨y,hyr,rfl⟩:=List.mem_map.1 hy
   have:=zdH.1 this.2 y hyr
   show y.2.1≠e.on
   simpa using this
  ·obtain⟨y,hyr,rfl⟩:=List.mem_map.1 hy
   have:=zdH.1 h3 y hyr
   simpa[zcU] using this
theorem zo0 {P:Program} {γ0:Gh} {w0:World} {H0:zb} {F:Fx} {KP:AV→zb→Prop} (hKP:zgJ KP) {ops:Array Oper} {Q:Exit→Act→World→Prop} {K:Env→zb→Prop} {c:List Nat} {items:List AItem}
  (hQ:∀ ch a w,zcO γ0 w0 H0 F KP ch a w→Q (.panic ch) a w) (hK:∀ γ w H ρ a,SInv γ0 w0 H0 F γ w H ρ a→K ρ H→Q .normal a w)
  (h:zb5 P F.N F.lo ops c items=true) {γ:Gh} {w:World} {H:zb} {ρ:Env} {a:Act} (hinv:SInv γ0 w0 H0 F γ w H ρ a) (hs:y5 P KP (zdv items) ρ H K):wpAny P .any ops Q ops.size (Array.replicate ops.size false) a { w with drawn:=w.drawn+1 }∧P.follows .mixedOrders=true:=by
 simp only[zb5,Al0,yw] at h
 obtain⟨⟨⟨⟨⟨⟨hm,hl⟩,hlo⟩,hall⟩,hit⟩,hpre⟩,hpok⟩:=h
 obtain⟨hr1,hr2,hr3⟩:=ze4 (items:=items) c items 0 hl (fun j x hj=>by simpa using hj)
 refine⟨?_,hm⟩
 have hinv':SInv γ0 w0 H0 F γ w.drew H ρ a :=
  ⟨hinv.ext.trans (ZR (fun _=>False) γ w) (fun _ _ f=>f.elim),hinv.st.kept (ZR (fun _=>False) γ w) (fun _ _ _ f=>f),hinv.keys,hinv.env.mono (ZR (fun _=>False) γ w).mono,hinv.sz,hinv.fx,hinv.df.step (ZR (keysOf H) γ w) (yo.refl _ _)⟩
 have hsome:∀ x∈ZQ 0 c items,∃ o,ops[x.2.1]?=some o∧zac F.N F.lo ops P o x.2.2=true:=fun x hx=>by
  have:=zdH.1 hit x hx
  split at this
  ·rename_i o ho;exact⟨o,ho,this⟩
  ·cases this
 refine zm2 hKP (pre:=fun i=>(zn3 ops).getD i []) hQ hK (fun i o ho k hk=>?_) ops.size ((ZQ 0 c items).map (zcU items)) _ γ w.drew H ρ a (by simp) ?_ (zjl _ hr3 hpok fun x hx=>let ⟨o,ho,_⟩:=hsome x hx;⟨o,ho⟩) (fun x hx=>?_) (fun i hi=>?_) (fun j hj=>?_) hinv' ?_
 ·have h1:=zdH.1 hpre i (List.mem_range.2 (zar.1 ho).1)
  have h2:=zdH.1 h1 k hk
  rw[ho] at h2
  simp only at h2
  obtain⟨e,he,hb⟩:=Array.any_eq_true'.1 h2
  simp only[Al0,zii,beq_iff_eq] at hb
  exact⟨e,he,hb.1,hb.2.imp (fun h=>h) (fun h=>by simpa using h)⟩
 ·have:=congrArg List.length hr2
  rw[List.length_map] at this
  rw[List.length_map,this,hlo]
  exact Al4 _
 ·obtain⟨x,hxr,rfl⟩:=List.mem_map.1 hx
  exact hsome x hxr
 ·constructor
  ·intro _
   have:=zdH.1 hall i (List.mem_range.2 hi)
   have hic:i∈c:=by simpa using this
   rw[← hr2] at hic
   obtain⟨r,hr,rfl⟩:=List.mem_map.1 hic
   exact⟨zcU items r,List.mem_map.2 ⟨r,hr,rfl⟩,rfl⟩
  ·intro _;simp[hi]
 ·intro k hk
  by_cases hlt:j<ops.size<;>simp[hlt] at hj
 ·have e:((ZQ 0 c items).map (zcU items)).map (·.2)=zdv items:=by
   rw[List.map_map];exact hr1
  rw[e];exact hs
theorem zjd {P:Program} {γ0:Gh} {w0:World} {H0:zb} {F:Fx} {KP:AV→zb→Prop} (hKP:zgJ KP) {ops:Array Oper} {Q:Exit→Act→World→Prop} {K:Env→zb→Prop} {c:List Nat} {items:List AItem}
  (hQ:∀ ch a w,zcO γ0 w0 H0 F KP ch a w→Q (.panic ch) a w) (hK:∀ γ w H ρ a,SInv γ0 w0 H0 F γ w H ρ a→K ρ H→Q .normal a w)
  (h:zb5 P F.N F.lo ops c items=true) {γ:Gh} {w:World} {H:zb} {ρ:Env} {a:Act} (hinv:SInv γ0 w0 H0 F γ w H ρ a) (hs:y5 P KP (zdv items) ρ H K) (t:Nat) :
  wpOps P ops Q (Region.schedule (P.follows .mixedOrders) ops t) a { w with drawn:=w.drawn+1 }:=by
 obtain⟨h1,hm⟩:=zo0 hKP hQ hK h hinv hs
 simp only[Region.schedule,hm,Bool.true_or,if_true]
 exact wpAny_sound ops.size t _ a _ h1
theorem zk3 {P:Program} {γ0:Gh} {w0:World} {H0:zb} {F:Fx} {KP:AV→zb→Prop} (hKP:zgJ KP) {id:Nat} {ops:Array Oper} {Q:Exit→Act→World→Prop} {K:Env→zb→Prop} {c:List Nat} {items:List AItem}
  (hQ:∀ ch a w,zcO γ0 w0 H0 F KP ch a w→Q (.panic ch) a w) (hK:∀ γ w H ρ a,SInv γ0 w0 H0 F γ w H ρ a→K ρ H→Q .normal a w)
  (h:zb5 P F.N F.lo ops c items=true) {γ:Gh} {w:World} {H:zb} {ρ:Env} {a:Act} (hinv:SInv γ0 w0 H0 F γ w H ρ a) (hs:y5 P KP (zdv items) ρ H K):(Code.region id ops true).wp P Q a w :=
 wp_region_draw (zjd hKP hQ hK h hinv hs)
theorem zl3 {P:Program} {γ0:Gh} {w0:World} {H0:zb} {F:Fx} {KP:AV→zb→Prop} {ops:Array Oper} {Q:Exit→Act→World→Prop} {K:Env→zb→Prop} {items:List AItem}
  (hQ:∀ ch a w,zcO γ0 w0 H0 F KP ch a w→Q (.panic ch) a w) (hK:∀ γ w H ρ a,SInv γ0 w0 H0 F γ w H ρ a→K ρ H→Q .normal a w)
  (h:zeI P F.N F.lo ops items=true) {γ:Gh} {w:World} {H:zb} {ρ:Env} {a:Act} (hinv:SInv γ0 w0 H0 F γ w H ρ a) (hs:y5 P KP (zdv items) ρ H K):wpOps P ops Q (List.range ops.size) a w:=by
 simp only[zeI,Al0,yw] at h
 obtain⟨hl,hall⟩:=h
 refine zfn hQ hK (List.range ops.size) (zdv items) (by simp[zdv,hl]) (fun k i it hk hit=>?_) γ w H ρ a hinv hs
 obtain⟨h1,h2⟩:=Yy.1 hk
 simp at h1 h2
 subst h2
 simp only[zdv,ZX,zbt] at hit
 obtain⟨x,hx,rfl⟩:=hit
 refine⟨ops[k],by simp[h1],?_⟩
 have hz:(ops.toList.zip items)[k]?=some (ops[k],x):=by
  rw[List.getElem?_zip_eq_some]
  exact⟨by simp[h1],hx⟩
 exact zdH.1 hall _ (List.mem_of_getElem? hz)
theorem znc {P:Program} {γ0:Gh} {w0:World} {H0:zb} {F:Fx} {KP:AV→zb→Prop} {id:Nat} {ops:Array Oper} {Q:Exit→Act→World→Prop} {K:Env→zb→Prop} {items:List AItem}
  (hQ:∀ ch a w,zcO γ0 w0 H0 F KP ch a w→Q (.panic ch) a w) (hK:∀ γ w H ρ a,SInv γ0 w0 H0 F γ w H ρ a→K ρ H→Q .normal a w)
  (h:zeI P F.N F.lo ops items=true) {γ:Gh} {w:World} {H:zb} {ρ:Env} {a:Act} (hinv:SInv γ0 w0 H0 F γ w H ρ a) (hs:y5 P KP (zdv items) ρ H K):(Code.region id ops false).wp P Q a w :=
 wp_region (zl3 hQ hK h hinv hs)
inductive AC where
 | skip
 | reg (c:List Nat) (items:List AItem)
 | seq (a b:AC)
 | join (keep:List Nat) (a b:AC)
 | cond (c:Opd) (t e:AC)
 | block (id:Nat) (b:AC)
 | loop (keep:List Nat) (b:AC)
 | scope (b:AC)
 | exit (id:Nat)
 | ret
 | rfun (g:Opd) (ps:List Nat) (asg body:AC)
inductive AExit where
 | normal
 | exit (id:Nat)
 | ret
def ze:List (Nat×AV)→Env
 | [],_=>.any
 | (d,c)::r,n=>if n=d then c else ze r n
theorem zfR (l:List (Nat×AV)) (d n:Nat) (c:AV):ze ((d,c)::l) n=if n=d then c else ze l n:=rfl
def Env.keep (ρ:Env) (l:List Nat):Env:=ze (l.map fun n=>(n,ρ n))
def zi5 (K:Env→zb→Prop) (Q:AExit→Env→zb→Prop):AExit→Env→zb→Prop
 | .normal=>K
 | e=>Q e
def zcp (id:Nat) (Q:AExit→Env→zb→Prop):AExit→Env→zb→Prop
 | .exit i=>if i=id then Q .normal else Q (.exit i)
 | e=>Q e
def zlk (c:AV) (X Y:Prop):Prop :=
 match c with
 | .bool true=>X
 | .bool false=>Y
 | .ubool p=>(p→X)∧Y
 | _=>False
def AC.flat:AC→Bool
 | .seq a b|.cond _ a b=>a.flat&&b.flat
 | .block _ b=>b.flat
 | .join _ _ _|.loop _ _|.scope _|.rfun _ _ _ _=>false
 | _=>true
def AC.plain:AC→Bool
 | .seq a b|.cond _ a b|.join _ a b=>a.plain&&b.plain
 | .block _ b|.loop _ b|.scope b=>b.plain
 | .rfun _ _ _ _=>false
 | _=>true
def zrC (K:Env→zb→Prop):AExit→Env→zb→Prop
 | .normal=>K
 | _=>fun _ _=>False
def zlc:List Nat→List AV→Env→Env
 | p::ps,c::cs,ρ=>zlc ps cs (ρ.set (some p) c)
 | _,_,ρ=>ρ
def zuG (P:Program) (f:FuncId) (caps:List AV) (X:List (List AV)):Prop :=
 ∀(l:Nat) (J:Nat→Gh→World→Prop),(∀ k γ w γ' w',J k γ w→Ext (fun _=>False) γ w γ' w'→J k γ' w') →
  (∀ k x γ w vs,X[k]?=some x→J k γ w→zS γ w x vs→YieldAt Fence.wide 0 P l vs.toArray w fun e w'=>∃ γ',Mono γ w γ' w'∧e=.returned (.bool true)∧J (k+1) γ' w') →
  ∀ γ w vs,zaH γ w→zS γ w caps vs→J 0 γ w →
   CallsIn Fence.wide 0 P f (#[.func (.yield l) #[] #[]]++vs.toArray) w fun e w'=>∃ γ' v,e=.returned v∧J X.length γ' w'
def awp (P:Program) (KP:AV→zb→Prop):AC→(AExit→Env→zb→Prop)→Env→zb→Prop
 | .skip,Q,ρ,H=>Q .normal ρ H
 | .reg _ items,Q,ρ,H=>y5 P KP (zdv items) ρ H (Q .normal)
 | .seq a b,Q,ρ,H=>awp P KP a (zi5 (awp P KP b Q) Q) ρ H
 | .join keep a b,Q,ρ,H=>∃ J:Env→zb→Prop,awp P KP a (zi5 (fun ρ' H'=>J (ρ'.keep keep) H') Q) ρ H∧∀ ρ H,J ρ H→awp P KP b Q ρ H
 | .cond c t e,Q,ρ,H=>zlk (c.ev ρ) (awp P KP t Q ρ H) (awp P KP e Q ρ H)
 | .block id b,Q,ρ,H=>awp P KP b (zcp id Q) ρ H
 | .loop keep b,Q,ρ,H=>∃ I:Nat→Env→zb→Prop,(∃ n,I n (ρ.keep keep) H)∧∀ n ρ H,I n ρ H→awp P KP b (zi5 (fun ρ' H'=>∃ m,m<n∧I m (ρ'.keep keep) H') Q) ρ H
 | .scope b,Q,ρ,H=>awp P KP b Q ρ H
 | .exit id,Q,ρ,H=>Q (.exit id) ρ H
 | .ret,Q,ρ,H=>Q .ret ρ H
 | .rfun g ps asg body,Q,ρ,H=>∃ f caps X,g.ev ρ=.clo f [] caps∧Program.callable P f=true∧zuG P f caps X∧(∀ x∈X,x.length=ps.length)∧∃ I:Nat→zb→Prop,I 0 H ∧
   (∀ k x H,X[k]?=some x→I k H→awp P (fun _ _=>False) asg (zrC fun ρ' H'=>awp P (fun _ _=>False) body (zrC fun _ H''=>I (k+1) H'') ρ' H') (zlc ps x ρ) H)∧∀ H,I X.length H→Q .normal ρ H
def yi (P:Program) (N lo:Nat):Code→AC→Bool
 | .skip,.skip=>true
 | .label _,.skip=>true
 | .region _ ops draw,.reg c items=>if draw then zb5 P N lo ops c items else zeI P N lo ops items
 | .seq a b,.seq a' b'=>yi P N lo a a'&&yi P N lo b b'
 | .seq a b,.join _ a' b'=>yi P N lo a a'&&yi P N lo b b'
 | .cond c t e,.cond c' t' e'=>zz c c'&&yi P N lo t t'&&yi P N lo e e'
 | .block id b,.block id' b'=>decide (id=id')&&yi P N lo b b'
 | .loop b,.loop _ b'=>yi P N lo b b'
 | .scope b,.scope b'=>yi P N lo b b'
 | .exit id,.exit id'=>decide (id=id')
 | .ret,.ret=>true
 | .rangeFunc g ps a b,.rfun g' ps' a' b'=>zz g g'&&decide (ps.toList=ps')&&decide (lo=0)&&(ps'.all fun p=>decide (p<N))&&yi P N lo a a'&&yi P N lo b b'&&a'.flat&&b'.flat
 | _,_=>false
def lift (γ0:Gh) (w0:World) (H0:zb) (F:Fx) (KP:AV→zb→Prop) (Q:AExit→Env→zb→Prop):Exit→Act→World→Prop
 | .normal,a,w=>∃ γ H ρ,SInv γ0 w0 H0 F γ w H ρ a∧Q .normal ρ H
 | .exit id,a,w=>∃ γ H ρ,SInv γ0 w0 H0 F γ w H ρ a∧Q (.exit id) ρ H
 | .ret,a,w=>∃ γ H ρ,SInv γ0 w0 H0 F γ w H ρ a∧Q .ret ρ H
 | .panic ch,a,w=>zcO γ0 w0 H0 F KP ch a w
 | .goto _,_,_=>False
 | .outgrown,_,_=>False
theorem zgj {γ:Gh} {w:World} {ρ:Env} {tmps:Array Value} (h:EnvRel γ w ρ tmps) (l:List Nat):EnvRel γ w (ρ.keep l) tmps:=by
 refine⟨h.tab,fun n=>?_⟩
 unfold Env.keep
 induction l with
 | nil=>exact .any _
 | cons x l ih =>
  simp only[List.map_cons,ze]
  split
  ·rename_i e;subst e;exact h.rep n
  ·exact ih
theorem least {p:Nat→Prop} (h:∃ n,p n):∃ n,p n∧∀ m,p m→n≤m:=by
 obtain⟨n,hn⟩:=h
 induction n using Nat.strongRecOn with
 | _ n ih =>
  by_cases hx:∃ m,m<n∧p m
  ·obtain⟨m,hm,hp⟩:=hx;exact ih m hm hp
  ·exact⟨n,hn,fun m hm=>Nat.le_of_not_lt fun hlt=>hx ⟨m,hlt,hm⟩⟩
theorem zmt {P:Program} {Q:Exit→Act→World→Prop} {c:Code} (J:Nat→Act→World→Prop) {a:Act} {w:World} {n:Nat} (h0:J n a w)
  (round:∀ n a w,J n a w→c.wp P (Exit.then (fun a' w'=>∃ m,m<n∧J m a' w') Q) a w):(Code.loop c).wp P Q a w:=by
 classical
 refine wp_loop (fun a w=>∃ n,J n a w) (fun a w=>if h:∃ n,J n a w then Classical.choose (least h) else 0) ⟨n,h0⟩ (fun a w hI=>?_)
 have hs:=Classical.choose_spec (least hI)
 refine wp_mono (round _ a w hs.1) (fun e a' w' hq=>?_)
 cases e<;>first|exact hq|skip
 obtain⟨m,hm,hJ⟩:=hq
 refine⟨⟨m,hJ⟩,?_⟩
 have hI':∃ n,J n a' w':=⟨m,hJ⟩
 have hle:=(Classical.choose_spec (least hI')).2 m hJ
 simp only[hI,hI',dif_pos]
 omega
theorem zdu {P:Program} {o:Oper} {x:AOp} (h:yb P o x=true) (c:Call):o.op≠.defer c:=by
 intro e
 cases x<;>simp[yb,e] at h
theorem zf6 {P:Program} {l:Nat} {ops:Array Oper} {Q:Exit→Act→World→Prop} (hno:∀ a w,¬ Q .outgrown a w) (hnd:∀(i:Nat) (o:Oper),ops[i]?=some o→∀ c,o.op≠.defer c):∀(idx:List Nat) (a:Act) (w:World),wpOps P ops Q idx a w→wpOpsIn (Fence.wide.inRound l) 0 P ops Q idx a w
 | [],a,w,h=>h
 | i::rest,a,w,h=>by
  simp only[wpOps] at h
  simp only[wpOpsIn]
  have ih:=zf6 (P:=P) (l:=l) hno hnd rest
  cases ho:ops[i]? with
  | none=>simp only[ho] at h ⊢;exact ih a w h
  | some o =>
   simp only[ho] at h ⊢
   by_cases hw:Region.wanted o (yielded ops a.tmps)=true
   ·simp only[hw,if_true] at h ⊢
    rcases h with h|⟨_,a0,w0,h0⟩
    ·refine⟨fun _ _=>trivial,?_⟩
     rw[Oper.semAt_eq _ _ _ (hnd i o ho)]
     unfold Oper.wp at h
     generalize (execOp a.eval o).run P w=r at h ⊢
     cases r with
     | ok n w' =>
      cases n<;>first|exact ih _ _ h|exact h.elim|skip
      ·rename_i f args
       refine⟨fun h=>by simp[Fence.wide] at h,?_⟩
       have h2:CallsIn Fence.wide (0-1) P f args w' _:=callsIn_wide.2 h
       refine h2.mono fun e w2 hq=>?_
       cases e with
       | returned v=>exact ih _ _ hq
       | panicked ch=>exact hq
       | outgrown=>obtain⟨a0,w0,h0⟩:=hq;exact(hno _ _ h0).elim
      ·rename_i row args
       refine⟨fun h=>by simp[Fence.wide] at h,fun c cs hroom=>?_⟩
       obtain⟨v,w2,hq,hs⟩:=h c cs
       exact⟨v,w2,ih _ _ hq,stepsIn_wide.2 hs⟩
     | halt x w'=>cases x<;>first|exact h|exact h.elim
    ·exact(hno _ _ h0).elim
   ·simp only[hw,if_false,Al7] at h ⊢
    exact⟨fun _ _=>trivial,ih _ _ h⟩
theorem zir {P:Program} {N lo:Nat} {ops:Array Oper} {c:List Nat} {items:List AItem} (h:zb5 P N lo ops c items=true):∀(i:Nat) (o:Oper),ops[i]?=some o→∀ c,o.op≠.defer c:=by
 simp only[zb5,Al0,yw] at h
 obtain⟨⟨⟨⟨⟨⟨hm,hl⟩,hlo⟩,hall⟩,hit⟩,hpre⟩,hpok⟩:=h
 intro i o ho
 obtain⟨_,hr2,_⟩:=ze4 (items:=items) c items 0 hl (fun j x hj=>by simpa using hj)
 have hi:=(zar.1 ho).1
 have hic:i∈c:=by simpa using zdH.1 hall i (List.mem_range.2 hi)
 rw[← hr2] at hic
 obtain⟨r,hr,rfl⟩:=List.mem_map.1 hic
 have:=zdH.1 hit r hr
 rw[ho] at this
 simp only[zac,Al0] at this
 exact zdu this.2
theorem zjo {P:Program} {N lo:Nat} {ops:Array Oper} {items:List AItem} (h:zeI P N lo ops items=true):∀(i:Nat) (o:Oper),ops[i]?=some o→∀ c,o.op≠.defer c:=by
 simp only[zeI,Al0,yw] at h
 obtain⟨hl,hall⟩:=h
 intro i o ho
 obtain⟨hi,hio⟩:=zar.1 ho
 have hz:(ops.toList.zip items)[i]?=some (ops[i],items[i]):=by
  rw[List.getElem?_zip_eq_some]
  exact⟨by simp[hi],by simp[← hl,hi]⟩
 have:=zdH.1 hall _ (List.mem_of_getElem? hz)
 rw[hio] at this
 simp only[zac,Al0] at this
 exact zdu this.2
theorem zfb {P:Program} {γ0:Gh} {w0:World} {H0:zb} {F:Fx} {l:Nat} {KP:AV→zb→Prop} (hKP:zgJ KP):∀(ac:AC) (code:Code) (Q:AExit→Env→zb→Prop),ac.flat=true→yi P F.N F.lo code ac=true →
  ∀(γ:Gh) (w:World) (H:zb) (ρ:Env) (a:Act),SInv γ0 w0 H0 F γ w H ρ a→awp P KP ac Q ρ H→code.wpIn (Fence.wide.inRound l) 0 P (lift γ0 w0 H0 F KP Q) a w:=by
 intro ac
 induction ac with
 | skip =>
  intro code Q hf hc γ w H ρ a hinv hs
  cases code<;>simp only[yi] at hc<;>try (cases hc;done)
  ·exact wpIn_skip ⟨γ,H,ρ,hinv,hs⟩
  ·exact wpIn_label ⟨γ,H,ρ,hinv,hs⟩
 | reg c items =>
  intro code Q hf hc γ w H ρ a hinv hs
  cases code<;>simp only[yi] at hc<;>try (cases hc;done)
  rename_i id ops draw
  have hno:∀ a w,¬ lift γ0 w0 H0 F KP Q .outgrown a w:=fun _ _ h=>h
  have hQ:∀ ch a w,zcO γ0 w0 H0 F KP ch a w→lift γ0 w0 H0 F KP Q (.panic ch) a w:=fun _ _ _ h=>h
  have hK:∀ γ w H ρ a,SInv γ0 w0 H0 F γ w H ρ a→Q .normal ρ H→lift γ0 w0 H0 F KP Q .normal a w:=fun γ w H ρ a h1 h2=>⟨γ,H,ρ,h1,h2⟩
  cases draw with
  | true =>
   simp only[if_true] at hc
   exact wpIn_region_draw fun t=>zf6 hno (zir hc) _ _ _ (zjd hKP hQ hK hc hinv hs t)
  | false =>
   simp only[Al7,if_false] at hc
   exact wpIn_region (zf6 hno (zjo hc) _ _ _ (zl3 hQ hK hc hinv hs))
 | seq x y ihx ihy =>
  intro code Q hf hc γ w H ρ a hinv hs
  cases code<;>simp only[yi] at hc<;>try (cases hc;done)
  simp only[AC.flat,Al0] at hc hf
  refine wpIn_seq (wpIn_mono (ihx _ _ hf.1 hc.1 γ w H ρ a hinv hs) fun e a' w' he=>?_)
  cases e with
  | normal=>obtain⟨γ',H',ρ',h1,h2⟩:=he;exact ihy _ Q hf.2 hc.2 γ' w' H' ρ' a' h1 h2
  | exit id=>exact he
  | ret=>exact he
  | panic ch=>exact he
  | goto l=>exact he
  | outgrown=>exact he
 | join keep x y ihx ihy=>intro code Q hf;simp[AC.flat] at hf
 | loop keep b ih=>intro code Q hf;simp[AC.flat] at hf
 | scope b ih=>intro code Q hf;simp[AC.flat] at hf
 | rfun g ps asg body iha ihb=>intro code Q hf;simp[AC.flat] at hf
 | cond c t e iht ihe =>
  intro code Q hf hc γ w H ρ a hinv hs
  cases code<;>simp only[yi] at hc<;>try (cases hc;done)
  simp only[AC.flat,Al0] at hc hf
  have hr:=zo hc.1.1 hinv.env
  simp only[awp,zlk] at hs
  cases hx:c.ev ρ<;>simp only[hx] at hs hr<;>try (exact False.elim hs)
  ·rename_i b
   generalize hv:a.eval _=v at hr
   cases hr
   cases b with
   | true=>exact wpIn_cond_true hv (iht _ Q hf.1 hc.1.2 γ w H ρ a hinv hs)
   | false=>exact wpIn_cond_false hv (ihe _ Q hf.2 hc.2 γ w H ρ a hinv hs)
  ·rename_i p
   generalize hv:a.eval _=v at hr
   cases hr with
   | ubool _ b hb =>
    cases b with
    | true=>exact wpIn_cond_true hv (iht _ Q hf.1 hc.1.2 γ w H ρ a hinv (hs.1 (hb rfl)))
    | false=>exact wpIn_cond_false hv (ihe _ Q hf.2 hc.2 γ w H ρ a hinv hs.2)
 | block id b ih =>
  intro code Q hf hc γ w H ρ a hinv hs
  cases code<;>simp only[yi] at hc<;>try (cases hc;done)
  simp only[AC.flat,Al0,yw] at hc hf
  obtain⟨rfl,hc⟩:=hc
  rename_i id0 b0
  refine wpIn_block (wpIn_mono (ih _ _ hf hc γ w H ρ a hinv hs) fun e a' w' he=>?_)
  cases e with
  | normal=>exact he
  | exit i =>
   obtain⟨γ',H',ρ',h1,h2⟩:=he
   simp only[zcp] at h2
   simp only[Exit.inBlock]
   by_cases hid:i=id0
   ·simp only[hid,if_true] at h2 ⊢;exact⟨γ',H',ρ',h1,h2⟩
   ·simp only[hid,if_false] at h2 ⊢;exact⟨γ',H',ρ',h1,h2⟩
  | ret=>exact he
  | panic ch=>exact he
  | goto l=>exact he
  | outgrown=>exact he
 | exit id =>
  intro code Q hf hc γ w H ρ a hinv hs
  cases code<;>simp only[yi] at hc<;>try (cases hc;done)
  simp only[yw] at hc
  subst hc
  exact wpIn_exit ⟨γ,H,ρ,hinv,hs⟩
 | ret =>
  intro code Q hf hc γ w H ρ a hinv hs
  cases code<;>simp only[yi] at hc<;>try (cases hc;done)
  exact wpIn_ret ⟨γ,H,ρ,hinv,hs⟩
theorem cells_of_cell {w:World} {b k:Nat} {v:Value} (h:w.cell? ⟨b,k,none⟩=some v):∃(arr:Array Value) (E:TypeId) (fr:Nat×Nat),w.heap[b]?=some (.cells arr E fr):=by
 unfold World.cell? at h
 split at h
 ·rename_i c E fr hb;exact⟨c,E,fr,hb⟩
 ·cases h
theorem zg5 (w:World) (o:Obj) {b:Nat} (h:b<w.heap.size):(w.alloc o).heap[b]?=w.heap[b]?:=RowKit.Below.heap_alloc w o b h
theorem SInv.reext {γ0:Gh} {w0:World} {H0:zb} {F:Fx} {γ γ':Gh} {w w':World} {H:zb} {ρ:Env} {a:Act} (h:SInv γ0 w0 H0 F γ w H ρ a) (hext:Ext (fun _=>False) γ w γ' w'):SInv γ0 w0 H0 F γ' w' H ρ a :=
 ⟨h.ext.trans hext (fun _ _ f=>f.elim),h.st.kept hext (fun _ _ _ f=>f),h.keys,h.env.mono hext.mono,h.sz,h.fx,h.df.step (hext.weaken fun _ f=>f.elim) (yo.refl _ _)⟩
theorem zfG (γ:Gh) {w:World} {l:Nat} {o o':Obj} (h:w.heap[l]?=some o) (hc:∀ arr E fr,o≠.cells arr E fr) (hc':∀ arr E fr,o'≠.cells arr E fr):Ext (fun b=>b=l) γ w γ (w.putObj l o'):=by
 have hne:∀ b,b≠l→(w.putObj l o').heap[b]?=w.heap[b]?:=fun b hb=>World.putObj_heap_other hb
 have hcell:∀ b o v,w.cell? ⟨b,o,none⟩=some v→b≠l:=fun b k v hv e=>by
  subst e
  obtain⟨arr,E,fr,hb⟩:=cells_of_cell hv
  rw[h] at hb
  exact hc _ _ _ (Option.some.inj hb)
 refine⟨⟨by simp,fun b k v hv hp=>⟨hp,?_⟩,fun b arr E fr hb=>⟨arr,?_,rfl⟩⟩,rfl,rfl,fun a ha=>?_,fun b _ hb=>⟨rfl,hne b hb⟩⟩
 ·simp only[World.cell?,hne b (hcell b k v hv)];exact hv
 ·rw[hne b (fun e=>by subst e;rw[h] at hb;exact hc _ _ _ (Option.some.inj hb))];exact hb
 ·by_cases e:a.block=l
  ·simp only[World.frozen?,e,h,World.putObj_heap_same (zar.1 h).1]
   cases o<;>cases o'<;>first|rfl|exact absurd rfl (hc _ _ _)|exact absurd rfl (hc' _ _ _)
  ·simp only[World.frozen?,hne _ e]
theorem zlY (γ:Gh) (w:World) (o:Obj):Ext (fun _=>False) γ w γ (w.alloc o):=by
 have hlt:∀ b,b<w.heap.size→(w.alloc o).heap[b]?=w.heap[b]?:=fun b hb=>zg5 w o hb
 have hl:∀ b x,w.heap[b]?=some x→b<w.heap.size:=fun b x h=>(zar.1 h).1
 refine⟨⟨by simp,fun b k v hv hp=>⟨hp,?_⟩,fun b arr E fr hb=>⟨arr,(hlt b (hl b _ hb)).trans hb,rfl⟩⟩,rfl,rfl,fun a ha=>?_,fun b hb _=>⟨rfl,hlt b hb⟩⟩
 ·obtain⟨arr,E,fr,hb⟩:=cells_of_cell hv
  simp only[World.cell?,hlt b (hl b _ hb)];exact hv
 ·simp only[World.frozen?,hlt _ ha]
theorem zhw {γ:Gh} {w:World} {N:Nat}:∀(ps:List Nat) (x:List AV) (vs:List Value) (ρ:Env) (tmps:Array Value),(∀ p∈ps,p<N)→x.length=ps.length→EnvRel γ w ρ tmps→tmps.size=N→zS γ w x vs →
  EnvRel γ w (zlc ps x ρ) ((ps.zip vs).foldl (fun t (p,v)=>t.setIfInBounds p v) tmps)∧((ps.zip vs).foldl (fun t (p,v)=>t.setIfInBounds p v) tmps).size=N
 | [],[],[],ρ,tmps,_,_,h,hs,_=>⟨h,hs⟩
 | [],[],_::_,_,_,_,_,_,_,hr=>absurd hr.1 (by simp)
 | [],_::_,_,_,_,_,hl,_,_,_=>absurd hl (by simp)
 | _::_,[],_,_,_,_,hl,_,_,_=>absurd hl (by simp)
 | _::_,_::_,[],_,_,_,_,_,_,hr=>absurd hr.1 (by simp)
 | p::ps,c::x,v::vs,ρ,tmps,hp,hl,h,hs,hr=>by
  refine zhw ps x vs _ _ (fun q hq=>hp q (zap _ hq)) (by simpa using hl) ?_ (by simpa using hs) ⟨by simpa using hr.1,fun i c v hc hv=>hr.2 (i+1) c v (by simpa using hc) (by simpa using hv)⟩
  exact zlb (d:=some p) h hs (fun y hy=>by cases hy;exact hp p (Yz ..)) (hr.2 0 c v rfl rfl) { tmps:=tmps,defers:=[] } rfl
theorem zk4 {P:Program} {γ0:Gh} {w0:World} {H0:zb} {F:Fx} {KP:AV→zb→Prop} (hrf:F.rf=true) (hkp:F.keep=[]) (hba:F.base≤w0.heap.size) {g:Opd} {ps:List Nat} {asg body:AC} {g':Operand} {ps':Array Tmp} {casg cbody:Code}
  {Q:AExit→Env→zb→Prop} (hc:yi P F.N F.lo (.rangeFunc g' ps' casg cbody) (.rfun g ps asg body)=true) {γ:Gh} {w:World} {H:zb} {ρ:Env} {a:Act} (hinv:SInv γ0 w0 H0 F γ w H ρ a)
  (hs:awp P KP (.rfun g ps asg body) Q ρ H):(Code.rangeFunc g' ps' casg cbody).wp P (lift γ0 w0 H0 F KP Q) a w:=by
 simp only[yi,Al0,yw] at hc
 obtain⟨⟨⟨⟨⟨⟨⟨hg,rfl⟩,hlo⟩,hps⟩,hca⟩,hcb⟩,hfa⟩,hfb⟩:=hc
 rw[hlo] at hca hcb
 have hps':∀ p∈ps'.toList,p<F.N:=fun p hp=>of_decide_eq_true (zdH.1 hps p hp)
 obtain⟨f,caps,X,hgv,hcallable,hseq,hX,I,h0,hround,hend⟩:=hs
 have hrg:=zo hg hinv.env
 rw[hgv] at hrg
 generalize hev:a.eval g'=gv at hrg
 cases hrg with
 | clo _ _ _ vs0 us hl hl' hr hr' =>
  obtain rfl:vs0=[]:=List.eq_nil_of_length_eq_zero (by simpa using hl.symm)
  have hcaps:zS γ w caps us:=⟨hl',hr'⟩
  obtain⟨bs,hbs,hnd,_,hbk0⟩:=hinv.df.eq
  have hbk:∀ b∈bs,H b=none∧w.heap[b]?=some (.deferred (some [])):=fun b hb=>(hbk0 b hb).2
  obtain ⟨fb, hfb', hfname⟩ : ∃ fn : Func, P.funcs[f]? = some fn ∧ fn.body.isSome = true ∧ (fn.name == "runtime.NumGoroutine") = false := by
   unfold Program.callable at hcallable
   cases hfn':P.funcs[f]? with
   | none=>simp[hfn'] at hcallable
   | some fn' =>
    simp only[hfn',Al0,bne_iff_ne,ne_eq] at hcallable
    exact⟨fn',rfl,hcallable.1,by simpa using hcallable.2⟩
  have eg:∀ args w,(callFunc f args).run P w=.ok (.enter f args) w:=fun args w=>by
   obtain⟨bd,hb2⟩:=zd4.1 hfname.1
   have h2:=hfname.2
   simp only[beq_eq_false_iff_ne,ne_eq] at h2
   simp[callFunc,hfb',h2,hb2]
  refine(wpIn_wide (n:=0)).1 (wpIn_rangeFunc fun fn hfn=>?_)
  obtain⟨rec,hrec⟩:∃ rec:LoopState→Option Code→Loop,rec=fun st pe=>{ state:=st,pending:=pe,fn,tmps:=a.tmps,params:=ps',assign:=casg,body:=cbody,defers:=w.heap.size }:=⟨_,rfl⟩
  obtain⟨W1,hW1⟩:∃ W1,(w.alloc (.deferred (some []))).alloc (.loop (rec .ready none))=W1:=⟨_,rfl⟩
  have hlt:w.heap.size<(w.alloc (.deferred (some []))).heap.size:=by simp
  have hL1:W1.heap[w.heap.size+1]?=some (.loop (rec .ready none)):=by
   rw[← hW1];have:=World.alloc_heap_new (w.alloc (.deferred (some []))) (.loop (rec .ready none));rwa [World.size_alloc] at this
  have hK1:W1.heap[w.heap.size]?=some (.deferred (some [])):=by
   rw[← hW1];exact(RowKit.Below.heap_alloc _ _ _ (by simp)).trans (World.alloc_heap_new w _)
  have hE1:Ext (fun _=>False) γ w γ W1:=by rw[← hW1];exact(zlY γ w _).trans (zlY γ _ _) (fun _ _ f=>f)
  have hlw:∀ b o,w.heap[b]?=some o→b<w.heap.size:=fun b o h=>(zar.1 h).1
  have hHn:∀ b,w.heap.size≤b→H b=none:=fun b hb=>by
   cases hx:H b with
   | none=>rfl
   | some o=>have:=(hinv.st b o hx).lt;omega
  have hw0:w0.heap.size≤w.heap.size:=hinv.ext.mono.size
  obtain⟨K0,hK0⟩:∃ K0:List (Nat×Obj),K0=(w.heap.size::bs).map fun b=>(b,Obj.deferred (some [])):=⟨_,rfl⟩
  have hK0l:∀ x∈K0,x.1≠w.heap.size+1:=fun x hx e=>by
   rw[hK0] at hx
   obtain⟨b,hb,rfl⟩:=List.mem_map.1 hx
   rcases List.mem_cons.1 hb with rfl|hb
   ·simp at e
   ·have:=hlw _ _ (hbk b hb).2;simp at e;omega
  obtain⟨Fk,hFk⟩:∃ Fk:Fx,Fk=⟨F.N,F.lo,F.T,[],false,(w.heap.size+1,.loop (rec .ready none))::K0,0⟩:=⟨_,rfl⟩
  have hstart:SInv γ0 w0 H0 Fk γ W1 H ρ { a with defers:=[] }:=by
   have h1:=hinv.reext hE1
   refine⟨h1.ext,h1.st,h1.keys,h1.env,by rw[hFk];exact h1.sz,by rw[hFk];exact h1.fx,⟨⟨[],by rw[hFk];rfl,List.nodup_nil,fun _=>rfl,fun b hb=>by cases hb⟩,fun x hx=>?_⟩⟩
   rw[hFk] at hx
   rcases List.mem_cons.1 hx with rfl|hx
   ·exact⟨hHn _ (by simp),hL1⟩
   ·rw[hK0] at hx
    obtain⟨b,hb,rfl⟩:=List.mem_map.1 hx
    rcases List.mem_cons.1 hb with rfl|hb
    ·exact⟨hHn _ (Al4 _),hK1⟩
    ·exact⟨(hbk b hb).1,((hE1.frame b (hlw _ _ (hbk b hb).2) (fun f=>f)).2).trans (hbk b hb).2⟩
  refine⟨w.heap.size+1,[zpv w.heap.size],W1,{ target:=.fn (.func f) us.toArray,args:=#[.func (.yield (w.heap.size+1)) #[] #[]] },W1,f,
   #[.func (.yield (w.heap.size+1)) #[] #[]]++us.toArray,W1,?_,?_,fun _ _=>trivial,?_,fun h=>by simp[Fence.wide] at h,?_⟩
  ·rw[← hW1,hrec];exact run_enterLoop_outer _ _ _ _ _
  ·simp only[resolve,hev]
   simp[go_sem]
  ·simp[invoke,go_sem,eg]
  refine(hseq (w.heap.size+1) (fun k γ' w'=>∃ H',SInv γ0 w0 H0 Fk γ' w' H' ρ { a with defers:=[] }∧I k H')
   (fun k γ1 w1 γ2 w2 ⟨H',h1,h2⟩ he=>⟨H',h1.reext he,h2⟩) (fun k x γ1 w1 vs hx ⟨H1,hi1,hI1⟩ hrep=>?_) γ W1 us (hinv.env.tab.mono hE1.mono) (hcaps.mono hE1.mono) ⟨H,hstart,h0⟩).mono ?_
  ·-- one round
   have hk1:=hi1.df.keep (w.heap.size+1,.loop (rec .ready none)) (by rw[hFk];exact Yz ..)
   have hxl:x.length=ps'.toList.length:=hX x (List.mem_of_getElem? hx)
   have hy:=run_yield (P:=P) (args:=vs.toArray) hk1.2 (by rw[hrec];simp[← hrep.1,hxl])
   rw[hrec] at hy
   refine⟨fn,_,casg,cbody,hy,roundIn_of_wpIn trivial ?_⟩
   obtain⟨hpe,hpsz⟩:=zhw ps'.toList x vs ρ a.tmps hps' hxl hi1.env (by have:=hi1.sz;rw[hFk] at this;exact this) hrep
   have hfold:((ps'.zip vs.toArray).foldl (fun t (p,v)=>t.setIfInBounds p v) a.tmps)=((ps'.toList.zip vs).foldl (fun t (p,v)=>t.setIfInBounds p v) a.tmps):=by
    rw[← Array.foldl_toList];simp
   rw[hfold]
   obtain⟨Fr,hFr⟩:∃ Fr:LoopState→Fx,Fr=fun st=>⟨F.N,0,#[],[],false,(w.heap.size+1,.loop (rec st none))::K0,0⟩:=⟨_,rfl⟩
   have hA:SInv γ1 w1 H1 (Fr .ready) γ1 w1 H1 (zlc ps'.toList x ρ) { tmps:=(ps'.toList.zip vs).foldl (fun t (p,v)=>t.setIfInBounds p v) a.tmps,defers:=[] } :=
    ⟨.refl _ _ _,hi1.st,yo.refl _ _,hpe,by rw[hFr];exact hpsz,fun n hn=>by rw[hFr] at hn;exact absurd hn (Nat.not_lt_zero n),⟨⟨[],by rw[hFr];rfl,List.nodup_nil,fun _=>rfl,fun b hb=>by cases hb⟩,fun x hx=>hi1.df.keep x (by rw[hFr] at hx;rw[hFk];exact hx)⟩⟩
   refine wpIn_mono (zfb (l:=w.heap.size+1) (KP:=fun _ _=>False) (fun _ _ _ _ _ h=>h) asg casg _ hfa (by rw[hFr];exact hca) γ1 w1 H1 _ _ hA (hround k x H1 hx hI1)) fun e a2 w2 he=>?_
   cases e with
   | exit id=>obtain⟨_,_,_,_,h⟩:=he;exact h.elim
   | ret=>obtain⟨_,_,_,_,h⟩:=he;exact h.elim
   | goto l=>exact he.elim
   | outgrown=>exact he.elim
   | panic ch=>obtain⟨_,_,_,_,_,_,_,_,_,hf,_⟩:=he;exact hf.elim
   | normal =>
    obtain⟨γ2,H2,ρ2,hi2,hb2⟩:=he
    have hk2:=hi2.df.keep (w.heap.size+1,.loop (rec .ready none)) (by rw[hFr];exact Yz ..)
    obtain⟨w3,hw3⟩:∃ w3,w2.putObj (w.heap.size+1) (.loop (rec .busy none))=w3:=⟨_,rfl⟩
    have hE3:Ext (fun b=>b=w.heap.size+1) γ2 w2 γ2 w3:=by rw[← hw3];exact zfG γ2 hk2.2 (fun _ _ _ h=>by cases h) (fun _ _ _ h=>by cases h)
    have hlt2:=(zar.1 hk2.2).1
    refine⟨w3,by rw[← hw3];have:=run_beginRound (P:=P) hk2.2 (by rw[hrec]);rw[hrec] at this ⊢;exact this,?_⟩
    have hB:SInv γ2 w3 H2 (Fr .busy) γ2 w3 H2 ρ2 a2:=by
     refine⟨.refl _ _ _,hi2.st.kept hE3 (fun b o hb e=>by subst e;rw[hk2.1] at hb;cases hb),yo.refl _ _,hi2.env.mono hE3.mono,by have:=hi2.sz;rw[hFr] at this ⊢;exact this,
      fun n hn=>by rw[hFr] at hn;exact absurd hn (Nat.not_lt_zero n),⟨⟨[],by have:=hi2.df.plain (by rw[hFr]);rw[hFr] at this ⊢;exact this,List.nodup_nil,fun _=>rfl,fun b hb=>by cases hb⟩,fun x hx=>?_⟩⟩
     rw[hFr] at hx
     rcases List.mem_cons.1 hx with rfl|hx
     ·exact⟨hk2.1,by rw[← hw3];exact World.putObj_heap_same hlt2⟩
     ·have h5:=hi2.df.keep x (by rw[hFr];exact zap _ hx)
      exact⟨h5.1,by rw[← hw3];exact(World.putObj_heap_other (hK0l x hx)).trans h5.2⟩
    refine wpIn_mono (zfb (l:=w.heap.size+1) (KP:=fun _ _=>False) (fun _ _ _ _ _ h=>h) body cbody _ hfb (by rw[hFr];exact hcb) γ2 w3 H2 _ _ hB hb2) fun e a4 w4 he=>?_
    cases e with
    | exit id=>obtain⟨_,_,_,_,h⟩:=he;exact h.elim
    | ret=>obtain⟨_,_,_,_,h⟩:=he;exact h.elim
    | goto l=>exact he.elim
    | outgrown=>exact he.elim
    | panic ch=>obtain⟨_,_,_,_,_,_,_,_,_,hf,_⟩:=he;exact hf.elim
    | normal =>
     obtain⟨γ4,H4,ρ4,hi4,hI4⟩:=he
     have hk4:=hi4.df.keep (w.heap.size+1,.loop (rec .busy none)) (by rw[hFr];exact Yz ..)
     obtain⟨w5,hw5⟩:∃ w5,w4.putObj (w.heap.size+1) (.loop (rec .ready none))=w5:=⟨_,rfl⟩
     have hE5:Ext (fun b=>b=w.heap.size+1) γ4 w4 γ4 w5:=by rw[← hw5];exact zfG γ4 hk4.2 (fun _ _ _ h=>by cases h) (fun _ _ _ h=>by cases h)
     have hEt:Ext (fun b=>keysOf H1 b∨b=w.heap.size+1) γ1 w1 γ4 w5:=by
      refine(((hi2.ext.weaken (F':=fun b=>keysOf H1 b∨b=w.heap.size+1) fun b h=>.inl h).trans hE3 (fun b _ h=>.inr h)).trans hi4.ext (fun b hb h=>?_)).trans hE5 (fun b _ h=>.inr h)
      rcases hi2.keys b h with h1|h1
      ·exact .inl h1
      ·omega
     have hs12:w1.heap.size≤w3.heap.size:=Nat.le_trans hi2.ext.mono.size hE3.mono.size
     refine⟨.bool true,w5,by rw[← hw5];have:=run_endRound (P:=P) none hk4.2;rw[hrec] at this ⊢;exact this,γ4,hEt.mono,rfl,H4,⟨hi1.ext.trans hEt (fun b hb h=>?_),hi4.st.kept hE5 (fun b o hb e=>by subst e;rw[hk4.1] at hb;cases hb),?_,hi1.env.mono hEt.mono,hi1.sz,hi1.fx,?_⟩,hI4⟩
     ·rcases h with h|h
      ·rcases hi1.keys b h with h1|h1
       ·exact h1
       ·omega
      ·omega
     ·exact zae hi1.keys hi1.ext.mono.size (zae hi2.keys hs12 hi4.keys)
     ·refine⟨⟨[],by rw[hFk];rfl,List.nodup_nil,fun _=>rfl,fun b hb=>by cases hb⟩,fun x hx=>?_⟩
      rw[hFk] at hx
      rcases List.mem_cons.1 hx with rfl|hx
      ·exact⟨hk4.1,by rw[← hw5];exact World.putObj_heap_same (zar.1 hk4.2).1⟩
      ·have h5:=hi4.df.keep x (by rw[hFr];exact zap _ hx)
       exact⟨h5.1,by rw[← hw5];exact(World.putObj_heap_other (hK0l x hx)).trans h5.2⟩
  ·-- behind the iterator
   rintro e w2 ⟨γ2,v,rfl,H2,hi2,hI2⟩
   have hk2:=hi2.df.keep (w.heap.size+1,.loop (rec .ready none)) (by rw[hFk];exact Yz ..)
   obtain⟨w3,hw3⟩:∃ w3,w2.putObj (w.heap.size+1) (.loop (rec .exhausted none))=w3:=⟨_,rfl⟩
   have hE3:Ext (fun b=>b=w.heap.size+1) γ2 w2 γ2 w3:=by rw[← hw3];exact zfG γ2 hk2.2 (fun _ _ _ h=>by cases h) (fun _ _ _ h=>by cases h)
   refine⟨none,w3,by rw[← hw3];have:=run_endLoop (P:=P) hk2.2 (by rw[hrec];simp);rw[hrec] at this ⊢;exact this,γ2,H2,ρ,⟨hi2.ext.trans hE3 (fun b hb h=>by omega),hi2.st.kept hE3 (fun b o hb e=>by subst e;rw[hk2.1] at hb;cases hb),hi2.keys,hi2.env.mono hE3.mono,by have:=hi2.sz;rw[hFk] at this;exact this,by have:=hi2.fx;rw[hFk] at this;exact this,?_⟩,hend H2 hI2⟩
   have hkk:∀ b∈w.heap.size::bs,H2 b=none∧w3.heap[b]?=some (.deferred (some [])):=fun b hb=>by
    have hm:((b,Obj.deferred (some [])):Nat×Obj)∈K0:=by rw[hK0];exact List.mem_map.2 ⟨b,hb,rfl⟩
    have h5:=hi2.df.keep _ (by rw[hFk];exact zap _ hm)
    exact⟨h5.1,by rw[← hw3];exact(World.putObj_heap_other (hK0l _ hm)).trans h5.2⟩
   refine⟨⟨w.heap.size::bs,by show [zpv w.heap.size]++a.defers=_;rw[hbs];rfl,?_,fun(h:F.rf=false)=>(by rw[hrf] at h;cases h),fun b hb=>⟨?_,hkk b hb⟩⟩,fun x hx=>by rw[hkp] at hx;cases hx⟩
   ·exact List.nodup_cons.2 ⟨fun hm=>by have:=hlw _ _ (hbk _ hm).2;omega,hnd⟩
   ·rcases List.mem_cons.1 hb with rfl|hb
    ·omega
    ·exact(hbk0 b hb).1
theorem pl2 {p q:Bool} {X:Prop} (h:(p&&q)=true∨X):(p=true∨X)∧(q=true∨X):=by
 rcases h with h|h
 ·simp only[Al0] at h;exact⟨.inl h.1,.inl h.2⟩
 ·exact⟨.inr h,.inr h⟩
theorem zkp {P:Program} {γ0:Gh} {w0:World} {H0:zb} {F:Fx} {KP:AV→zb→Prop} (hKP:zgJ KP):∀(ac:AC) (code:Code) (Q:AExit→Env→zb→Prop),(ac.plain=true∨(F.rf=true∧F.keep=[]∧F.base≤w0.heap.size))→yi P F.N F.lo code ac=true →
  ∀(γ:Gh) (w:World) (H:zb) (ρ:Env) (a:Act),SInv γ0 w0 H0 F γ w H ρ a→awp P KP ac Q ρ H→code.wp P (lift γ0 w0 H0 F KP Q) a w:=by
 intro ac
 induction ac with
 | skip =>
  intro code Q hp hc γ w H ρ a hinv hs
  cases code<;>simp only[yi] at hc<;>try (cases hc;done)
  ·exact wp_skip ⟨γ,H,ρ,hinv,hs⟩
  ·exact wp_label ⟨γ,H,ρ,hinv,hs⟩
 | reg c items =>
  intro code Q hp hc γ w H ρ a hinv hs
  cases code<;>simp only[yi] at hc<;>try (cases hc;done)
  rename_i id ops draw
  have hQ:∀ ch a w,zcO γ0 w0 H0 F KP ch a w→lift γ0 w0 H0 F KP Q (.panic ch) a w:=fun _ _ _ h=>h
  have hK:∀ γ w H ρ a,SInv γ0 w0 H0 F γ w H ρ a→Q .normal ρ H→lift γ0 w0 H0 F KP Q .normal a w:=fun γ w H ρ a h1 h2=>⟨γ,H,ρ,h1,h2⟩
  cases draw with
  | true=>simp only[if_true] at hc;exact zk3 hKP hQ hK hc hinv hs
  | false=>simp only[Al7,if_false] at hc;exact znc hQ hK hc hinv hs
 | seq x y ihx ihy =>
  intro code Q hp hc γ w H ρ a hinv hs
  cases code<;>simp only[yi] at hc<;>try (cases hc;done)
  simp only[Al0] at hc
  refine wp_seq (wp_mono (ihx _ _ (pl2 hp).1 hc.1 γ w H ρ a hinv hs) fun e a' w' he=>?_)
  cases e with
  | normal=>obtain⟨γ',H',ρ',h1,h2⟩:=he;exact ihy _ Q (pl2 hp).2 hc.2 γ' w' H' ρ' a' h1 h2
  | exit id=>exact he
  | ret=>exact he
  | panic ch=>exact he
  | goto l=>exact he
  | outgrown=>exact he
 | join keep x y ihx ihy =>
  intro code Q hp hc γ w H ρ a hinv hs
  cases code<;>simp only[yi] at hc<;>try (cases hc;done)
  simp only[Al0] at hc
  obtain⟨J,h0,hJ⟩:=hs
  refine wp_seq (wp_mono (ihx _ _ (pl2 hp).1 hc.1 γ w H ρ a hinv h0) fun e a' w' he=>?_)
  cases e with
  | normal=>obtain⟨γ',H',ρ',h1,h2⟩:=he;exact ihy _ Q (pl2 hp).2 hc.2 γ' w' H' (ρ'.keep keep) a' ⟨h1.ext,h1.st,h1.keys,zgj h1.env keep,h1.sz,h1.fx,h1.df⟩ (hJ _ _ h2)
  | exit id=>exact he
  | ret=>exact he
  | panic ch=>exact he
  | goto l=>exact he
  | outgrown=>exact he
 | cond c t e iht ihe =>
  intro code Q hp hc γ w H ρ a hinv hs
  cases code<;>simp only[yi] at hc<;>try (cases hc;done)
  simp only[Al0] at hc
  have hr:=zo hc.1.1 hinv.env
  simp only[awp,zlk] at hs
  cases hx:c.ev ρ<;>simp only[hx] at hs hr<;>try (exact False.elim hs)
  ·rename_i b
   generalize hv:a.eval _=v at hr
   cases hr
   cases b with
   | true=>exact wp_cond_true hv (iht _ Q (pl2 hp).1 hc.1.2 γ w H ρ a hinv hs)
   | false=>exact wp_cond_false hv (ihe _ Q (pl2 hp).2 hc.2 γ w H ρ a hinv hs)
  ·rename_i p
   generalize hv:a.eval _=v at hr
   cases hr with
   | ubool _ b hb =>
    cases b with
    | true=>exact wp_cond_true hv (iht _ Q (pl2 hp).1 hc.1.2 γ w H ρ a hinv (hs.1 (hb rfl)))
    | false=>exact wp_cond_false hv (ihe _ Q (pl2 hp).2 hc.2 γ w H ρ a hinv hs.2)
 | block id b ih =>
  intro code Q hp hc γ w H ρ a hinv hs
  cases code<;>simp only[yi] at hc<;>try (cases hc;done)
  simp only[Al0,yw] at hc
  obtain⟨rfl,hc⟩:=hc
  rename_i id0 b0
  refine wp_block (wp_mono (ih _ _ hp hc γ w H ρ a hinv hs) fun e a' w' he=>?_)
  cases e with
  | normal=>exact he
  | exit i =>
   obtain⟨γ',H',ρ',h1,h2⟩:=he
   simp only[zcp] at h2
   simp only[Exit.inBlock]
   by_cases hid:i=id0
   ·simp only[hid,if_true] at h2 ⊢;exact⟨γ',H',ρ',h1,h2⟩
   ·simp only[hid,if_false] at h2 ⊢;exact⟨γ',H',ρ',h1,h2⟩
  | ret=>exact he
  | panic ch=>exact he
  | goto l=>exact he
  | outgrown=>exact he
 | loop keep b ih =>
  intro code Q hp hc γ w H ρ a hinv hs
  cases code<;>simp only[yi] at hc<;>try (cases hc;done)
  obtain⟨I,⟨n,h0⟩,hround⟩:=hs
  refine zmt (fun n a w=>∃ γ H ρ,SInv γ0 w0 H0 F γ w H ρ a∧I n ρ H) (n:=n) ⟨γ,H,ρ.keep keep,⟨hinv.ext,hinv.st,hinv.keys,zgj hinv.env keep,hinv.sz,hinv.fx,hinv.df⟩,h0⟩ (fun n a w ⟨γ,H,ρ,h1,h2⟩=>?_)
  refine wp_mono (ih _ _ hp hc γ w H ρ a h1 (hround n ρ H h2)) fun e a' w' he=>?_
  cases e with
  | normal =>
   obtain⟨γ',H',ρ',h3,m,hm,h4⟩:=he
   exact⟨m,hm,γ',H',ρ'.keep keep,⟨h3.ext,h3.st,h3.keys,zgj h3.env keep,h3.sz,h3.fx,h3.df⟩,h4⟩
  | exit id=>exact he
  | ret=>exact he
  | panic ch=>exact he
  | goto l=>exact he
  | outgrown=>exact he
 | scope b ih =>
  intro code Q hp hc γ w H ρ a hinv hs
  cases code<;>simp only[yi] at hc<;>try (cases hc;done)
  refine wp_scope_straight (wp_mono (ih _ Q hp hc γ w H ρ a hinv hs) fun e a' w' he=>?_)
  cases e<;>exact he
 | exit id =>
  intro code Q hp hc γ w H ρ a hinv hs
  cases code<;>simp only[yi] at hc<;>try (cases hc;done)
  simp only[yw] at hc
  subst hc
  exact wp_exit ⟨γ,H,ρ,hinv,hs⟩
 | ret =>
  intro code Q hp hc γ w H ρ a hinv hs
  cases code<;>simp only[yi] at hc<;>try (cases hc;done)
  exact wp_ret ⟨γ,H,ρ,hinv,hs⟩
 | rfun g ps asg body iha ihb =>
  intro code Q hp hc γ w H ρ a hinv hs
  have hrf:=hp.resolve_left (by simp[AC.plain])
  cases code<;>try (simp only[yi] at hc;cases hc;done)
  exact zk4 hrf.1 hrf.2.1 hrf.2.2 hc hinv hs
inductive ARes where
 | t (n:Nat)
 | c (n sz:Nat) (ag:Bool)
structure AFn where
 N:Nat
 np:Nat
 res:List ARes
 body:AC
def Zv (ρ:Env) (H:zb):ARes→Option AV
 | .t n=>some (ρ n)
 | .c n sz ag=>rev ρ H (.ld sz ag (.t n))
def zQ (ρ:Env) (H:zb):List ARes→Option (List AV)
 | []=>some []
 | r::rs=>match Zv ρ H r,zQ ρ H rs with
  | some v,some vs=>some (v::vs)
  | _,_=>none
def zd:List AV→AV
 | [v]=>v
 | vs=>.tup vs
def zaD (P:Program):List ResultVar→List ARes→Bool
 | [],[]=>true
 | .tmp t::rs,.t n::as=>t==n&&zaD P rs as
 | .cell a t::rs,.c n sz ag::as=>a==n&&((P.info? t).any fun ti=>decide (ti.size=sz))&&(P.underlying t).isSome&&decide (zcG (P.underlying t)=ag)&&(ag||decide (sz=1))&&zaD P rs as
 | _,_=>false
def zk (P:Program) (f:FuncId) (af:AFn):Bool :=
 match P.funcs[f]? with
 | some fn=>match fn.body with
  | some code=>decide (fn.ntmps=af.N)&&decide (af.np≤af.N)&&zaD P fn.results.toList af.res&&yi P af.N 0 code af.body
  | none=>false
 | none=>false
def Sub (A B:zb):Prop:=∀ b o,A b=some o→B b=some o
theorem Sub.refl (A:zb):Sub A A:=fun _ _ h=>h
structure Low (B A:zb):Prop where
 keys:∀ b,(B b).isSome=true→(A b).isSome=true
 st:∀ γ w,zA γ w A→zA γ w B
theorem Low.of_sub {A B:zb} (h:Sub B A):Low B A:=⟨fun b hb=>by
 cases hx:B b with
 | none=>simp[hx] at hb
 | some o=>simp[h b o hx],fun γ w hs=>hs.sub h⟩
theorem Low.refl (A:zb):Low A A:=Low.of_sub (Sub.refl A)
theorem Low.trans {A B C:zb} (h:Low A B) (h':Low B C):Low A C:=⟨fun b hb=>h'.keys b (h.keys b hb),fun γ w hs=>h.st γ w (h'.st γ w hs)⟩
theorem Low.upd {A B:zb} (h:Low B A) {b:Nat} {o:AObj} (hb:A b=none):Low B (A.upd b o) :=
 h.trans (Low.of_sub fun c x hc=>by
  have hne:c≠b:=fun e=>by subst e;rw[hb] at hc;cases hc
  simp only[zb.upd,hne,if_false];exact hc)
theorem Low.cells {A:zb} {b:Nat} {cs:List AV} (hb:A b=some (.cells cs)):Low (A.upd b (.cells (cs.map AV.strip1))) A:=by
 refine⟨fun c hc=>?_,fun γ w hs c o hc=>?_⟩
 ·unfold zb.upd at hc
  split at hc
  ·rename_i e;subst e;simp[hb]
  ·exact hc
 ·unfold zb.upd at hc
  split at hc
  ·rename_i e
   subst e
   simp only[Al1] at hc
   subst hc
   cases hs _ _ hb with
   | cells _ vs E hk hb' hl h1 hr =>
    refine .cells _ vs E hk hb' (by simpa using hl) h1 fun i c v hc hv=>?_
    rw[ZX] at hc
    cases hx:cs[i]? with
    | none=>simp[hx] at hc
    | some x=>simp only[hx,ZW,Al1] at hc;subst hc;exact(hr i x v hx hv).strip1
  ·exact hs c o hc
def zx:Nat→List AV→List (Nat×AV)
 | _,[]=>[]
 | k,c::cs=>(k,c)::zx (k+1) cs
def ziv (res:List ARes) (Q:AEnd→zb→Prop):AExit→Env→zb→Prop
 | .exit _,_,_=>False
 | _,ρ,H=>match zQ ρ H res with
  | some vs=>∃ H',Low H' H∧Q (.ret (zd vs)) H'
  | none=>False
def ztm (Q:AEnd→zb→Prop):AV→zb→Prop:=fun v H=>∃ H',Low H' H∧Q (.pan v) H'
theorem zmu (Q:AEnd→zb→Prop):zgJ (ztm Q):=fun v H b o hb ⟨H',hs,hq⟩=>⟨H',hs.upd hb,hq⟩
theorem zgi:∀(args:List AV) (k n:Nat),ze (zx k args) n=if k≤n then args.getD (n-k) .any else .any
 | [],k,n=>by simp[zx,ze]
 | c::cs,k,n=>by
  simp only[zx,ze,zgi cs (k+1) n]
  by_cases h:n=k
  ·subst h;simp
  ·simp only[h,if_false]
   by_cases h2:k≤n
   ·have h3:k+1≤n:=by omega
    simp only[h2,h3,if_true]
    rw[show n-k=(n-(k+1))+1 by omega]
    simp
   ·have h3:¬ k+1≤n:=by omega
    simp[h2,h3]
theorem zms {γ:Gh} {w:World} {args:List AV} {vs:List Value} (ht:zaH γ w) (h:zS γ w args vs) (m:Nat):EnvRel γ w (ze (zx 0 args)) (vs.toArray++Array.replicate m undef):=by
 refine⟨ht,fun n=>?_⟩
 rw[zgi]
 simp only[Nat.zero_le,if_true,Nat.sub_zero]
 by_cases hn:n<args.length
 ·have hv:n<vs.length:=by rw[← h.1];exact hn
  have e1:args.getD n .any=args[n]:=by simp[List.getD,hn]
  have e2:(vs.toArray++Array.replicate m undef).getD n undef=vs[n]:=by
   simp only[zh0]
   rw[Array.getElem?_append_left (by simpa using hv)]
   simp[hv]
  rw[e1,e2]
  exact h.2 n _ _ (Al9 hn) (Al9 hv)
 ·have e1:args.getD n .any=.any:=by simp[List.getD,hn]
  rw[e1]
  exact .any _
theorem ziz {P:Program} {γ:Gh} {w:World} {H:zb} {ρ:Env} {a:Act} (he:EnvRel γ w ρ a.tmps) (hs:zA γ w H):∀(rs:List ResultVar) (as:List ARes) (cs:List AV),zaD P rs as=true→zQ ρ H as=some cs →
  ∃ vs,(rs.mapM (m:=Sem) fun
   | .tmp t=>pure (a.tmps.getD t undef)
   | .cell x t=>do loadVar t (← asAddr (a.tmps.getD x undef))).run P w=.ok vs w∧zS γ w cs vs
 | [],[],cs,_,h=>by simp only[zQ,Al1] at h;subst h;exact⟨[],rfl,zS.nil⟩
 | [],_::_,_,h,_=>by simp[zaD] at h
 | .tmp t::_,[],_,h,_=>by simp[zaD] at h
 | .cell x t::_,[],_,h,_=>by simp[zaD] at h
 | .tmp t::rs,.c n sz ag::as,_,h,_=>by simp[zaD] at h
 | .cell x t::rs,.t n::as,_,h,_=>by simp[zaD] at h
 | .tmp t::rs,.t n::as,cs,hc,h=>by
  simp only[zaD,Al0,beq_iff_eq] at hc
  obtain⟨rfl,hc⟩:=hc
  simp only[zQ,Zv] at h
  cases hr:zQ ρ H as with
  | none=>simp[hr] at h
  | some ds =>
   simp only[hr,Al1] at h
   subst h
   obtain⟨vs,hv,hrep⟩:=ziz he hs rs as ds hc hr
   exact⟨a.tmps.getD t undef::vs,by simp only[List.mapM_cons,Sem.run_bind,Sem.run_pure,Result.andThen_ok,hv],zS.cons (he.rep t) hrep⟩
 | .cell x t::rs,.c n sz ag::as,cs,hc,h=>by
  simp only[zaD,Al0,beq_iff_eq,yw,zii] at hc
  obtain⟨⟨⟨⟨⟨rfl,h1⟩,h2⟩,h3⟩,h4⟩,hc⟩:=hc
  obtain⟨ti,hti,h1⟩:=zL h1
  obtain⟨d,hd⟩:=zd4.1 h2
  simp only[zQ,Zv] at h
  cases hv0:rev ρ H (.ld sz ag (.t x)) with
  | none=>simp[hv0] at h
  | some v0 =>
   cases hr:zQ ρ H as with
   | none=>simp[hv0,hr] at h
   | some ds =>
    simp only[hv0,hr,Al1] at h
    subst h
    obtain⟨vs,hv,hrep⟩:=ziz he hs rs as ds hc hr
    have hread := zrD (P := P) (o := { dst := none, op := .load t (.tmp x), type := 0, pos := "", after := #[], guard := none }) (x' := .t x) rfl (by simp [zz]) hti (by simpa using h1) hd h3 h4 γ w H ρ a v0 he hs hv0
    obtain⟨u,hu,hru⟩:=hread
    have hex:(do loadVar t (← asAddr (a.tmps.getD x undef)):Sem Value).run P w=.ok u w:=by
     have hr1:=he.rep x
     simp only[rev,Opd.ev] at hv0
     simp only[execOp,Instr.loadAt,Act.eval,Sem.run_bind] at hu
     cases hx:ρ x<;>simp only[hx] at hv0 hr1<;>try (cases hv0;done)
     all_goals
      generalize hg:a.tmps.getD x undef=g at hr1 hu ⊢
      cases hr1
      simp only[Instr.sureAddr,asAddr,Sem.run_bind,Sem.run_pure,Result.andThen_ok] at hu ⊢
      generalize (loadVar t _).run P w=r at hu ⊢
      cases r with
      | ok v w'=>simp only[Result.andThen_ok,Result.ok.injEq,Next.value.injEq] at hu;rw[hu.1,hu.2]
      | halt x w'=>simp[Result.andThen] at hu
    exact⟨u::vs,by simp only[List.mapM_cons,Sem.run_bind] at hex ⊢;rw[hex];simp only[Result.andThen_ok,hv,Sem.run_pure],zS.cons hru hrep⟩
theorem ziX {P:Program} {γ:Gh} {w:World} {H:zb} {ρ:Env} {a:Act} {fn:Func} {as:List ARes} {cs:List AV} (he:EnvRel γ w ρ a.tmps) (hs:zA γ w H) (hc:zaD P fn.results.toList as=true) (h:zQ ρ H as=some cs) :
  ∃ v,(results fn a.tmps).run P w=.ok v w∧Rep γ w (zd cs) v:=by
 obtain⟨vs,hv,hrep⟩:=ziz (P:=P) he hs fn.results.toList as cs hc h
 have hm:(fn.results.mapM (m:=Sem) fun
   | .tmp t=>pure (a.tmps.getD t undef)
   | .cell x t=>do loadVar t (← asAddr (a.tmps.getD x undef))).run P w=.ok vs.toArray w:=by
  rw[Array.mapM_eq_mapM_toList]
  simp only[Sem.run_map]
  have e:∀ r:Result (List Value),r=.ok vs w→(r.andThen fun a w'=>Result.ok a.toArray w')=.ok vs.toArray w:=fun r hr=>by subst hr;rfl
  exact e _ hv
 unfold results
 rw[Sem.run_bind]
 have e:∀ r:Result (Array Value),r=.ok vs.toArray w→(r.andThen fun vs w'=>(pure (if h:vs.size=1 then vs[0] else .tuple vs):Sem Value).run P w')=.ok (if h:vs.toArray.size=1 then vs.toArray[0] else .tuple vs.toArray) w:=fun r hr=>by subst hr;rfl
 refine⟨_,e _ hm,?_⟩
 match cs,vs,hrep with
 | [],[],_=>exact .tup [] [] rfl (by simp)
 | [c],[v],h=>exact h.2 0 c v rfl rfl
 | c1::c2::cs,v1::v2::vs,h=>exact .tup _ _ h.1 h.2
 | [],_::_,h=>exact absurd h.1 (by simp)
 | _::_,[],h=>exact absurd h.1 (by simp)
 | [_],_::_::_,h=>exact absurd h.1 (by simp)
 | _::_::_,[_],h=>exact absurd h.1 (by simp)
theorem zbR {P:Program} {fn:Func} {tmps:Array Value} {R:Ending→World→Prop} {u:FrameMode} {γ:Gh} (hu:u≠.run):∀(bs:List Nat) (w:World) (H:zb),bs.Nodup→(∀ b∈bs,H b=none∧w.heap[b]?=some (.deferred (some [])))→zA γ w H →
  (∀ w',Ext (fun b=>b∈bs) γ w γ w'→zA γ w' H→LeavesIn Fence.wide 0 P fn tmps R [] u w')→LeavesInM Fence.wide 0 P fn tmps R (bs.map zpv) u w
 | [],w,H,_,_,hs,h=>h w (.refl _ _ _) hs
 | b::bs,w,H,hnd,hb,hs,h=>by
  have h1:=hb b (Yz ..)
  obtain⟨hnb,hnd'⟩:=List.nodup_cons.1 hnd
  have hE:=zfG γ (o':=.deferred none) h1.2 (fun _ _ _ h=>by cases h) (fun _ _ _ h=>by cases h)
  refine⟨hu,.inl ⟨b,w.putObj b (.deferred none),rfl,run_takeDeferred h1.2,?_⟩⟩
  have hs':zA γ (w.putObj b (.deferred none)) H:=hs.kept hE (fun c o hc e=>by subst e;rw[h1.1] at hc;cases hc)
  refine zbR hu bs _ H hnd' (fun c hc=>?_) hs' fun w' he hs2=>h w' ((hE.weaken fun c hc=>by subst hc;exact Yz ..).trans he fun c _ hc=>zap _ hc) hs2
  have h2:=hb c (zap _ hc)
  exact⟨h2.1,(World.putObj_heap_other (fun e=>by subst e;exact hnb hc)).trans h2.2⟩
theorem zj.of_fn {P:Program} {f:FuncId} (af:AFn) (hc:zk P f af=true) {args:List AV} {H:zb} {Q:AEnd→zb→Prop} (hnp:args.length≤af.np)
  (h:awp P (ztm Q) af.body (ziv af.res Q) (ze (zx 0 args)) H):zj P f args H Q:=by
 intro γ w vs ht hs hv
 unfold zk at hc
 cases hfn:P.funcs[f]? with
 | none=>simp[hfn] at hc
 | some fn =>
  simp only[hfn] at hc
  cases hbody:fn.body with
  | none=>simp[hbody] at hc
  | some code =>
   simp only[hbody,Al0,yw] at hc
   obtain⟨⟨⟨hN,hnpN⟩,hres⟩,hcode⟩:=hc
   refine(callsIn_wide (n:=0)).1 (callsIn_of_wp_marks hfn hbody trivial (wpIn_wide.2 ?_))
   have hlen:vs.toArray.size≤af.N:=by simp only[List.size_toArray];rw[← hv.1];omega
   have hinv:SInv γ w H (Fx.marks af.N w.heap.size) γ w H (ze (zx 0 args)) { tmps:=vs.toArray++Array.replicate (fn.ntmps-vs.toArray.size) undef,defers:=[] } :=
    ⟨.refl _ _ _,hs,yo.refl _ _,zms ht hv _,by show _=af.N;rw[hN,Array.size_append,Array.size_replicate];omega,fun n hn=>absurd hn (Nat.not_lt_zero n),DfOk.init rfl⟩
   refine wp_mono (zkp (F:=Fx.marks af.N w.heap.size) (zmu Q) af.body code _ (.inr ⟨rfl,rfl,Al4 _⟩) hcode γ w H _ _ hinv h) fun e a' w' he=>?_
   have old:∀(H':zb) (bs:List Nat),(∀ b∈bs,w.heap.size≤b∧H' b=none∧w'.heap[b]?=some (.deferred (some [])))→∀ b,b<w.heap.size→b∈bs→keysOf H b :=
    fun H' bs h b hb hm=>absurd (h b hm).1 (by omega)
   have fin:∀ γ' H' ρ',SInv γ w H (Fx.marks af.N w.heap.size) γ' w' H' ρ' a'→(match zQ ρ' H' af.res with|some vs=>∃ H'',Low H'' H'∧Q (.ret (zd vs)) H''|none=>False) →
     LeavesInM Fence.wide 0 P fn a'.tmps (fun e w'=>∃ γ' H' r,Ext (fun b=>(H b).isSome=true) γ w γ' w'∧zA γ' w' H' ∧
      (∀ b,(H' b).isSome=true→(H b).isSome=true∨w.heap.size≤b)∧zkK γ' w' e r∧Q r H') a'.defers .returning w':=by
    intro γ' H' ρ' h1 h2
    cases hr:zQ ρ' H' af.res with
    | none=>simp[hr] at h2
    | some cs =>
     simp only[hr] at h2
     obtain⟨H'',hsub,hq⟩:=h2
     obtain⟨bs,hbs,hnd,_,hbk⟩:=h1.df.eq
     rw[hbs,show (Fx.marks af.N w.heap.size).D=[] from rfl,List.append_nil]
     refine zbR (γ:=γ') (by simp) bs w' H' hnd (fun b hb=>(hbk b hb).2) h1.st fun w2 he hs2=>?_
     obtain⟨v,hrun,hrep⟩:=ziX (P:=P) (h1.env.mono he.mono) hs2 hres hr
     refine⟨v,hrun,γ',H'',.ret (zd cs),h1.ext.trans he (old H' bs hbk),hsub.st _ _ hs2,fun b hb=>?_,hrep,hq⟩
     exact h1.keys b (hsub.keys b hb)
   cases e with
   | normal=>obtain⟨γ',H',ρ',h1,h2⟩:=he;exact fin γ' H' ρ' h1 h2
   | ret=>obtain⟨γ',H',ρ',h1,h2⟩:=he;exact fin γ' H' ρ' h1 h2
   | exit id=>obtain⟨γ',H',ρ',h1,h2⟩:=he;exact h2.elim
   | goto l=>exact he.elim
   | outgrown=>exact he.elim
   | panic ch =>
    obtain⟨γ',H',c,v,rfl,hext,hst,hk,hrep,⟨H'',hsub,hq⟩,_,_,_,hdf⟩:=he
    obtain⟨bs,hbs,hnd,_,hbk⟩:=hdf.eq
    show LeavesInM Fence.wide 0 P fn a'.tmps _ a'.defers _ w'
    rw[hbs,show (Fx.marks af.N w.heap.size).D=[] from rfl,List.append_nil]
    refine zbR (γ:=γ') (by simp) bs w' H' hnd (fun b hb=>(hbk b hb).2) hst fun w2 he hs2=>?_
    exact⟨γ',H'',.pan c,hext.trans he (old H' bs hbk),hsub.st _ _ hs2,fun b hb=>hk b (hsub.keys b hb),⟨v,rfl,hrep.mono he.mono⟩,hq⟩
def zi (P:Program) (f:FuncId) (args:List AV) (r:AV):Prop:=zj P f args zb.emp fun e H'=>e=.ret r∧H'=zb.emp
theorem zhU (H:zb):zb.union zb.emp H=H:=by funext n;simp[zb.union,zb.emp]
theorem zpd (H:zb):zb.Disj zb.emp H:=fun _=>.inl rfl
theorem zi.use {P:Program} {f:FuncId} {args:List AV} {r:AV} (h:zi P f args r) {H:zb} {K KP:AV→zb→Prop} (hk:K r H):zj P f args H (ZL K KP):=by
 have:=h.frame (zpd H)
 rw[zhU] at this
 refine this.mono fun e H' ⟨A',⟨he,hA⟩,_,hH⟩=>?_
 subst he;subst hA;subst hH
 rw[zhU]
 exact hk
theorem zj.strip {P:Program} {f:FuncId} {args:List AV} {H:zb} {Q:AEnd→zb→Prop} (h:zj P f args H fun e H'=>match e with|.ret v=>Q (.ret v.strip) H'|.pan v=>Q (.pan v) H'):zj P f args H Q :=
 fun γ w vs ht hs hv=>(h γ w vs ht hs hv).mono fun e w' ⟨γ',H',r,a,b,c,d,q⟩=>by
  cases r with
  | ret v =>
   refine⟨γ',H',.ret v.strip,a,b,c,?_,q⟩
   cases e with
   | returned u=>exact Rep.strip d
   | panicked ch=>exact d
   | outgrown=>exact d
  | pan v=>exact⟨γ',H',.pan v,a,b,c,d,q⟩
def zoz (r:AV):AEnd→zb→Prop
 | .ret v,H=>v.strip=r∧H=zb.emp
 | .pan _,_=>False
theorem zi.of_fn {P:Program} {f:FuncId} (af:AFn) (hc:zk P f af=true) {args:List AV} {r:AV} (hnp:args.length≤af.np)
  (h:awp P (ztm (zoz r)) af.body (ziv af.res (zoz r)) (ze (zx 0 args)) zb.emp):zi P f args r:=by
 unfold zi
 refine zj.strip ((zj.of_fn af hc hnp h).mono fun e H' hq=>?_)
 cases e with
 | ret v=>exact⟨by rw[hq.1],hq.2⟩
 | pan v=>exact hq.elim
theorem zmX {res:List ARes} {r:AV} {e:AExit} {ρ:Env} {H:zb} (he:∀ i,e≠.exit i) (h:∃ ws,zQ ρ H res=some ws∧(zd ws).strip=r):ziv res (zoz r) e ρ H:=by
 obtain⟨ws,h1,h2⟩:=h
 cases e with
 | exit i=>exact absurd rfl (he i)
 | normal=>simp only[ziv,h1];exact⟨zb.emp,Low.of_sub fun b o hb=>by simp[zb.emp] at hb,h2,rfl⟩
 | ret=>simp only[ziv,h1];exact⟨zb.emp,Low.of_sub fun b o hb=>by simp[zb.emp] at hb,h2,rfl⟩
def zop (x:Option AItem):List Chk:=match x with|some x=>entry x|none=>[]
theorem zgf (d:Option Nat) (g:Option (Nat×Bool)) (op:AOp) (c:List Nat):zop (some ⟨d,g,op,c⟩)=match d with|some d=>[(d,g,op)]|none=>[]:=by cases d<;>rfl
inductive Fr where
 | code (b:AC)
 | blk (id:Nat)
 | rep (keep:List Nat) (J:Env→zb→Prop)
def D (P:Program) (KP:AV→zb→Prop) (Q:AExit→Env→zb→Prop):List Fr→AExit→Env→zb→Prop
 | []=>Q
 | .code b::st=>zi5 (awp P KP b (D P KP Q st)) (D P KP Q st)
 | .blk id::st=>zcp id (D P KP Q st)
 | .rep keep J::st=>zi5 (fun ρ H=>J (ρ.keep keep) H) (D P KP Q st)
def goC (P:Program) (KP:AV→zb→Prop) (Q:AExit→Env→zb→Prop) (c:AC) (st:List Fr) (ρ:Env) (H:zb):Prop:=awp P KP c (D P KP Q st) ρ H
def goD (P:Program) (KP:AV→zb→Prop) (Q:AExit→Env→zb→Prop) (st:List Fr) (ρ:Env) (H:zb):Prop:=D P KP Q st .normal ρ H
def goE (P:Program) (KP:AV→zb→Prop) (Q:AExit→Env→zb→Prop) (e:AExit) (st:List Fr) (ρ:Env) (H:zb):Prop:=D P KP Q st e ρ H
def goI (P:Program) (KP:AV→zb→Prop) (Q:AExit→Env→zb→Prop) (all l:List AItem) (st:List Fr) (ρ:Env) (H:zb):Prop :=
 y5 P KP (l.map fun it=>(it,zcf all it.chk)) ρ H (fun ρ' H'=>D P KP Q st .normal ρ' H')
def goR (P:Program) (KP:AV→zb→Prop) (Q:AExit→Env→zb→Prop) (all l:List AItem) (st:List Fr) (R:List Chk) (ρ:Env) (H:zb):Prop :=
 Zl ρ H R∧goI P KP Q all l st ρ H
def goG (P:Program) (KP:AV→zb→Prop) (Q:AExit→Env→zb→Prop) (all l:List AItem) (st:List Fr) (g:AV) (want:Bool) (d:Option Nat) (op:AOp) (R:List Chk) (ρ:Env) (H:zb):Prop :=
 match g with
 | .bool b=>if b==want then aop P KP op ρ H (fun v H'=>goR P KP Q all l st R (ρ.set d v) H') else goI P KP Q all l st (ρ.set d (.tup [])) H
 | .tup []=>goI P KP Q all l st (ρ.set d (.tup [])) H
 | _=>False
def goO (P:Program) (KP:AV→zb→Prop) (Q:AExit→Env→zb→Prop) (all l:List AItem) (st:List Fr) (d:Option Nat) (op:AOp) (R:List Chk) (ρ:Env) (H:zb):Prop :=
 aop P KP op ρ H (fun v H'=>goR P KP Q all l st R (ρ.set d v) H')
def goV (P:Program) (KP:AV→zb→Prop) (Q:AExit→Env→zb→Prop) (all l:List AItem) (st:List Fr) (d:Option Nat) (ρ:Env) (H:zb) (v:Option AV):Prop :=
 match v with
 | some v=>goI P KP Q all l st (ρ.set d v) H
 | none=>False
def goK (P:Program) (KP:AV→zb→Prop) (Q:AExit→Env→zb→Prop) (all l:List AItem) (st:List Fr) (d:Option Nat) (R:List Chk) (ρ:Env) (f:FuncId) (args:List AV) (H:zb):Prop :=
 zj P f args H (ZL (fun v H'=>goR P KP Q all l st R (ρ.set d v) H') KP)
def goA (P:Program) (KP:AV→zb→Prop) (Q:AExit→Env→zb→Prop) (all l:List AItem) (st:List Fr) (d:Option Nat) (R:List Chk) (ρ:Env) (H:zb) (op:AOp) (x:Option AObj):Prop :=
 match x with
 | some x=>∀ b,H b=none→goR P KP Q all l st R (ρ.set d (yh ρ b op)) (H.upd b x)
 | none=>zbP H
def goP (P:Program) (KP:AV→zb→Prop) (Q:AExit→Env→zb→Prop) (all l:List AItem) (st:List Fr) (d:Option Nat) (R:List Chk) (ρ:Env) (sz bytes:Nat) (x y:AV) (H:zb):Prop :=
 zjW sz bytes x y H (fun v H'=>goR P KP Q all l st R (ρ.set d v) H')
def goS (P:Program) (KP:AV→zb→Prop) (Q:AExit→Env→zb→Prop) (all l:List AItem) (st:List Fr) (d:Option Nat) (R:List Chk) (ρ:Env) (n:Nat) (x:AV) (y:List AV) (bx:Bool) (H:zb):Prop :=
 match x with
 | .ptr b off=>match H b with
  | some (.cells cs)=>y.length=n∧off+n≤cs.length∧bx=true∧goR P KP Q all l st R (ρ.set d (.tup [])) (H.upd b (.cells (splice cs off y)))
  | _=>False
 | _=>False
def goB (P:Program) (KP:AV→zb→Prop) (Q:AExit→Env→zb→Prop) (c:AV) (t e:AC) (st:List Fr) (ρ:Env) (H:zb):Prop :=
 zlk c (goC P KP Q t st ρ H) (goC P KP Q e st ρ H)
def goU (P:Program) (KP:AV→zb→Prop) (Q:AExit→Env→zb→Prop) (keep:List Nat) (a b:AC) (st:List Fr) (ρ:Env) (H:zb):Prop:=goC P KP Q (.join keep a b) st ρ H
def goL (P:Program) (KP:AV→zb→Prop) (Q:AExit→Env→zb→Prop) (keep:List Nat) (b:AC) (st:List Fr) (ρ:Env) (H:zb):Prop:=goC P KP Q (.loop keep b) st ρ H
section
variable {P:Program} {KP:AV→zb→Prop} {Q:AExit→Env→zb→Prop} {st:List Fr} {ρ:Env} {H:zb}
theorem go_skip:goC P KP Q .skip st ρ H=goD P KP Q st ρ H:=rfl
theorem zpj (a b:AC):goC P KP Q (.seq a b) st ρ H=goC P KP Q a (.code b::st) ρ H:=rfl
theorem zmj (keep:List Nat) (a b:AC):goC P KP Q (.join keep a b) st ρ H=goU P KP Q keep a b st ρ H:=rfl
theorem zof (c:List Nat) (l:List AItem):goC P KP Q (.reg c l) st ρ H=goI P KP Q l l st ρ H:=rfl
theorem zlx (c:Opd) (t e:AC):goC P KP Q (.cond c t e) st ρ H=goB P KP Q (c.ev ρ) t e st ρ H:=rfl
theorem zj1 (id:Nat) (b:AC):goC P KP Q (.block id b) st ρ H=goC P KP Q b (.blk id::st) ρ H:=rfl
theorem ziT (b:AC):goC P KP Q (.scope b) st ρ H=goC P KP Q b st ρ H:=rfl
theorem zmg (id:Nat):goC P KP Q (.exit id) st ρ H=goE P KP Q (.exit id) st ρ H:=rfl
theorem go_ret:goC P KP Q .ret st ρ H=goE P KP Q .ret st ρ H:=rfl
theorem go_loop (keep:List Nat) (b:AC):goC P KP Q (.loop keep b) st ρ H=goL P KP Q keep b st ρ H:=rfl
theorem zjw (b:AC):goD P KP Q (.code b::st) ρ H=goC P KP Q b st ρ H:=rfl
theorem zlv (id:Nat):goD P KP Q (.blk id::st) ρ H=goD P KP Q st ρ H:=rfl
theorem zlm (keep:List Nat) (J:Env→zb→Prop):goD P KP Q (.rep keep J::st) ρ H=J (ρ.keep keep) H:=rfl
theorem zlA:goD P KP Q [] ρ H=Q .normal ρ H:=rfl
theorem zlU (e:AExit):goE P KP Q e [] ρ H=Q e ρ H:=rfl
theorem zd5 (b:AC):goE P KP Q .ret (.code b::st) ρ H=goE P KP Q .ret st ρ H:=rfl
theorem zfa (id:Nat):goE P KP Q .ret (.blk id::st) ρ H=goE P KP Q .ret st ρ H:=rfl
theorem ze8 (keep:List Nat) (J:Env→zb→Prop):goE P KP Q .ret (.rep keep J::st) ρ H=goE P KP Q .ret st ρ H:=rfl
theorem zdr (i:Nat) (b:AC):goE P KP Q (.exit i) (.code b::st) ρ H=goE P KP Q (.exit i) st ρ H:=rfl
theorem zea (i id:Nat):goE P KP Q (.exit i) (.blk id::st) ρ H=if i=id then goD P KP Q st ρ H else goE P KP Q (.exit i) st ρ H:=by
 simp only[goE,goD,D,zcp];split<;>rfl
theorem zd1 (i:Nat) (keep:List Nat) (J:Env→zb→Prop):goE P KP Q (.exit i) (.rep keep J::st) ρ H=goE P KP Q (.exit i) st ρ H:=rfl
variable {all l:List AItem} {d:Option Nat} {R:List Chk}
theorem zl8:goI P KP Q all [] st ρ H=goD P KP Q st ρ H:=rfl
theorem zi8 (op:AOp) (c:List Nat):goI P KP Q all (⟨d,none,op,c⟩::l) st ρ H=goO P KP Q all l st d op (zcf all c) ρ H:=rfl
theorem zhI (s:Nat) (w:Bool) (op:AOp) (c:List Nat):goI P KP Q all (⟨d,some (s,w),op,c⟩::l) st ρ H=goG P KP Q all l st (ρ s) w d op (zcf all c) ρ H:=by
 simp only[goI,List.map_cons,y5,ZI,gv,goG]
 cases hx:ρ s<;>try rfl
 ·rename_i b
  cases b<;>cases w<;>rfl
 ·rename_i vs
  cases vs<;>rfl
theorem zfD:goR P KP Q all l st [] ρ H=goI P KP Q all l st ρ H:=by simp[goR,Zl]
theorem zg8 (items:List AItem):zcf items []=[]:=rfl
theorem znn (op:AOp):goG P KP Q all l st (.bool true) true d op R ρ H=goO P KP Q all l st d op R ρ H:=rfl
theorem znw (op:AOp):goG P KP Q all l st (.bool false) false d op R ρ H=goO P KP Q all l st d op R ρ H:=rfl
theorem znF (op:AOp):goG P KP Q all l st (.bool true) false d op R ρ H=goI P KP Q all l st (ρ.set d (.tup [])) H:=rfl
theorem zpm (op:AOp):goG P KP Q all l st (.bool false) true d op R ρ H=goI P KP Q all l st (ρ.set d (.tup [])) H:=rfl
theorem zoP (w:Bool) (op:AOp):goG P KP Q all l st (.tup []) w d op R ρ H=goI P KP Q all l st (ρ.set d (.tup [])) H:=rfl
theorem zT (op:AOp) (h:op.cls=.pure):goO P KP Q all l st d op [] ρ H=goV P KP Q all l st d ρ H (pev ρ op):=by
 simp only[goO,aop,h,goV]
 cases pev ρ op with
 | none=>rfl
 | some v=>simp only[zfD]
theorem zgO (op:AOp) (h:op.cls=.read):goO P KP Q all l st d op [] ρ H=goV P KP Q all l st d ρ H (rev ρ H op):=by
 simp only[goO,aop,h,goV]
 cases rev ρ H op with
 | none=>rfl
 | some v=>simp only[zfD]
theorem zjz (v:AV):goV P KP Q all l st d ρ H (some v)=goI P KP Q all l st (ρ.set d v) H:=rfl
theorem zaT (op:AOp) (h:op.cls=.alloc):goO P KP Q all l st d op R ρ H=goA P KP Q all l st d R ρ H op (oev ρ op):=by
 simp only[goO,aop,h,goA]
 cases oev ρ op<;>rfl
theorem zt4 (x:Opd):goO P KP Q all l st d (.mv x) [] ρ H=goV P KP Q all l st d ρ H (pev ρ (.mv x)):=zT _ rfl
theorem znP (c a b:Opd):goO P KP Q all l st d (.pick c a b) [] ρ H=goV P KP Q all l st d ρ H (pev ρ (.pick c a b)):=zT _ rfl
theorem zjM (x:Opd):goO P KP Q all l st d (.nilchk x) [] ρ H=goV P KP Q all l st d ρ H (pev ρ (.nilchk x)):=zT _ rfl
theorem ztD (o:BinOp) (k:IntKind) (x y:Opd):goO P KP Q all l st d (.bi o k x y) [] ρ H=goV P KP Q all l st d ρ H (pev ρ (.bi o k x y)):=zT _ rfl
theorem zrM (o:BinOp) (x y:Opd):goO P KP Q all l st d (.shf o x y) [] ρ H=goV P KP Q all l st d ρ H (pev ρ (.shf o x y)):=zT _ rfl
theorem ztw (o:BinOp) (x y:Opd):goO P KP Q all l st d (.bs o x y) [] ρ H=goV P KP Q all l st d ρ H (pev ρ (.bs o x y)):=zT _ rfl
theorem ztp (neg:Bool) (x y:Opd):goO P KP Q all l st d (.bb neg x y) [] ρ H=goV P KP Q all l st d ρ H (pev ρ (.bb neg x y)):=zT _ rfl
theorem zro (neg:Bool) (ks:List K1) (x y:Opd):goO P KP Q all l st d (.eqa neg ks x y) [] ρ H=goV P KP Q all l st d ρ H (pev ρ (.eqa neg ks x y)):=zT _ rfl
theorem zlp (nk:NK) (x:Opd):goO P KP Q all l st d (.isnil nk x) [] ρ H=goV P KP Q all l st d ρ H (pev ρ (.isnil nk x)):=zT _ rfl
theorem znK (nk:NK) (x:Opd):goO P KP Q all l st d (.isnn nk x) [] ρ H=goV P KP Q all l st d ρ H (pev ρ (.isnn nk x)):=zT _ rfl
theorem zoI (x:Opd):goO P KP Q all l st d (.ineg x) [] ρ H=goV P KP Q all l st d ρ H (pev ρ (.ineg x)):=zT _ rfl
theorem zlh (neg:Bool) (x:Opd):goO P KP Q all l st d (.ifnil neg x) [] ρ H=goV P KP Q all l st d ρ H (pev ρ (.ifnil neg x)):=zT _ rfl
theorem zrO (t:TypeId) (z:AV) (x:Opd):goO P KP Q all l st d (.tas t z x) [] ρ H=goV P KP Q all l st d ρ H (pev ρ (.tas t z x)):=zT _ rfl
theorem zrN (x:Opd):goO P KP Q all l st d (.not x) [] ρ H=goV P KP Q all l st d ρ H (pev ρ (.not x)):=zT _ rfl
theorem zrS (k:IntKind) (x:Opd):goO P KP Q all l st d (.cvi k x) [] ρ H=goV P KP Q all l st d ρ H (pev ρ (.cvi k x)):=zT _ rfl
theorem zow (x:Opd):goO P KP Q all l st d (.cvid x) [] ρ H=goV P KP Q all l st d ρ H (pev ρ (.cvid x)):=zT _ rfl
theorem zmn (x:Opd):goO P KP Q all l st d (.cvb2s x) [] ρ H=goV P KP Q all l st d ρ H (pev ρ (.cvb2s x)):=zT _ rfl
theorem zrr (zero:List AV) (parts:List (Nat×Nat×Opd)):goO P KP Q all l st d (.bld zero parts) [] ρ H=goV P KP Q all l st d ρ H (pev ρ (.bld zero parts)):=zT _ rfl
theorem zoe (sz len:Nat) (zero:List AV) (parts:List (Nat×Opd)):goO P KP Q all l st d (.bls2 sz len zero parts) [] ρ H=goV P KP Q all l st d ρ H (pev ρ (.bls2 sz len zero parts)):=zT _ rfl
theorem zrz (sz len:Nat) (zero:List AV) (parts:List (Nat×Opd)):goO P KP Q all l st d (.bls sz len zero parts) [] ρ H=goV P KP Q all l st d ρ H (pev ρ (.bls sz len zero parts)):=zT _ rfl
theorem zok (f:FuncId) (first caps:List Opd):goO P KP Q all l st d (.mkfn f first caps) [] ρ H=goV P KP Q all l st d ρ H (pev ρ (.mkfn f first caps)):=zT _ rfl
theorem zrR (x:Opd) (i:Nat):goO P KP Q all l st d (.ext x i) [] ρ H=goV P KP Q all l st d ρ H (pev ρ (.ext x i)):=zT _ rfl
theorem zrp (t:TypeId) (x:Opd):goO P KP Q all l st d (.mki t x) [] ρ H=goV P KP Q all l st d ρ H (pev ρ (.mki t x)):=zT _ rfl
theorem ztB (off:Nat) (x:Opd):goO P KP Q all l st d (.fa off x) [] ρ H=goV P KP Q all l st d ρ H (pev ρ (.fa off x)):=zT _ rfl
theorem zrx (off n:Nat) (ag:Bool) (x:Opd):goO P KP Q all l st d (.fld off n ag x) [] ρ H=goV P KP Q all l st d ρ H (pev ρ (.fld off n ag x)):=zT _ rfl
theorem zrq (n sz:Nat) (x i:Opd):goO P KP Q all l st d (.iar n sz x i) [] ρ H=goV P KP Q all l st d ρ H (pev ρ (.iar n sz x i)):=zT _ rfl
theorem ztG (sz:Nat) (x i:Opd):goO P KP Q all l st d (.ia sz x i) [] ρ H=goV P KP Q all l st d ρ H (pev ρ (.ia sz x i)):=zT _ rfl
theorem zrL (x i:Opd):goO P KP Q all l st d (.ixs x i) [] ρ H=goV P KP Q all l st d ρ H (pev ρ (.ixs x i)):=zT _ rfl
theorem zrs (x:Opd) (lo hi:Option Opd):goO P KP Q all l st d (.sls x lo hi) [] ρ H=goV P KP Q all l st d ρ H (pev ρ (.sls x lo hi)):=zT _ rfl
theorem zrJ (sz:Nat) (x:Opd) (lo hi mx:Option Opd):goO P KP Q all l st d (.sll sz x lo hi mx) [] ρ H=goV P KP Q all l st d ρ H (pev ρ (.sll sz x lo hi mx)):=zT _ rfl
theorem zpn (n:Nat) (x hi:Opd):goO P KP Q all l st d (.slar n x hi) [] ρ H=goV P KP Q all l st d ρ H (pev ρ (.slar n x hi)):=zT _ rfl
theorem zon (sz:Nat) (x hi:Opd):goO P KP Q all l st d (.sllx sz x hi) [] ρ H=goV P KP Q all l st d ρ H (pev ρ (.sllx sz x hi)):=zT _ rfl
theorem zrc (x:Opd):goO P KP Q all l st d (.len x) [] ρ H=goV P KP Q all l st d ρ H (pev ρ (.len x)):=zT _ rfl
theorem zo7 (x:Opd):goO P KP Q all l st d (.lens x) [] ρ H=goV P KP Q all l st d ρ H (pev ρ (.lens x)):=zT _ rfl
theorem zub (mx:Bool) (x:Opd) (ys:List Opd):goO P KP Q all l st d (.mm mx x ys) [] ρ H=goV P KP Q all l st d ρ H (pev ρ (.mm mx x ys)):=zT _ rfl
theorem znT (x:Opd):goO P KP Q all l st d (.boxv x) [] ρ H=goV P KP Q all l st d ρ H (pev ρ (.boxv x)):=zT _ rfl
theorem ztJ (n:Nat) (ag:Bool) (x:Opd):goO P KP Q all l st d (.ld n ag x) [] ρ H=goV P KP Q all l st d ρ H (rev ρ H (.ld n ag x)):=zgO _ rfl
theorem zrB (kt:KT) (zero:AV) (ok:Bool) (m k:Opd):goO P KP Q all l st d (.lkp kt zero ok m k) [] ρ H=goV P KP Q all l st d ρ H (rev ρ H (.lkp kt zero ok m k)):=zgO _ rfl
theorem zpo (x:Opd):goO P KP Q all l st d (.lenm x) [] ρ H=goV P KP Q all l st d ρ H (rev ρ H (.lenm x)):=zgO _ rfl
theorem zmi (zero:List AV):goO P KP Q all l st d (.alloc zero) R ρ H=goA P KP Q all l st d R ρ H (.alloc zero) (oev ρ (.alloc zero)):=zaT _ rfl
theorem zrb (x:Opd):goO P KP Q all l st d (.box x) R ρ H=goA P KP Q all l st d R ρ H (.box x) (oev ρ (.box x)):=zaT _ rfl
theorem zrG (kt:KT):goO P KP Q all l st d (.mkm kt) R ρ H=goA P KP Q all l st d R ρ H (.mkm kt) (oev ρ (.mkm kt)):=zaT _ rfl
theorem zrK (sz bytes:Nat) (n:Opd):goO P KP Q all l st d (.mks sz bytes n) R ρ H=goA P KP Q all l st d R ρ H (.mks sz bytes n) (oev ρ (.mks sz bytes n)):=zaT _ rfl
theorem zoA (zero:List AV) (bytes:Nat) (n:Opd):goO P KP Q all l st d (.mksn zero bytes n) R ρ H=goA P KP Q all l st d R ρ H (.mksn zero bytes n) (oev ρ (.mksn zero bytes n)):=zaT _ rfl
theorem zgg (items:List AItem) (k:Nat) (ks:List Nat):zcf items (k::ks)=zop items[k]?++zcf items ks:=by
 simp only[zcf,List.flatMap_cons,zop]<;>rfl
theorem zjC (n:Nat) (o:AOp):goR P KP Q all l st ((n,none,o)::R) ρ H=(rev ρ H o=some (ρ n)∧goR P KP Q all l st R ρ H):=by
 simp[goR,Zl,gv,and_assoc]
theorem zjf (n s:Nat) (w:Bool) (o:AOp):goR P KP Q all l st ((n,some (s,w),o)::R) ρ H=((gv (some (s,w)) ρ=some true→rev ρ H o=some (ρ n))∧goR P KP Q all l st R ρ H):=by
 simp[goR,Zl,and_assoc]
theorem zc {op:AOp} {x:AObj} (h:∀ b,H b=none→goR P KP Q all l st R (ρ.set d (yh ρ b op)) (H.upd b x)):goA P KP Q all l st d R ρ H op (some x):=h
theorem znp (f:FuncId) (args:List Opd):goO P KP Q all l st d (.call f args) R ρ H=goK P KP Q all l st d R ρ f (args.map (Opd.ev ρ)) H:=rfl
theorem zrA (sz bytes:Nat) (x y:Opd):goO P KP Q all l st d (.app sz bytes x y) R ρ H=goP P KP Q all l st d R ρ sz bytes (x.ev ρ) (y.ev ρ) H:=rfl
theorem zt9 (n:Nat) (x y:Opd):goO P KP Q all l st d (.st n x y) R ρ H=goS P KP Q all l st d R ρ n (x.ev ρ) (y.ev ρ).cells (y.ev ρ).boxable H:=by
 simp only[goO,aop,AOp.cls,eff,goS]
 cases x.ev ρ<;>rfl
def goT (P:Program) (KP:AV→zb→Prop) (Q:AExit→Env→zb→Prop) (all l:List AItem) (st:List Fr) (d:Option Nat) (R:List Chk) (ρ:Env) (n b off:Nat) (y:List AV) (bx:Bool) (H:zb) (o:Option AObj):Prop :=
 match o with
 | some (.cells cs)=>y.length=n∧off+n≤cs.length∧bx=true∧goR P KP Q all l st R (ρ.set d (.tup [])) (H.upd b (.cells (splice cs off y)))
 | _=>False
theorem zlC {b off n:Nat} {y:List AV} {bx:Bool}:goS P KP Q all l st d R ρ n (.ptr b off) y bx H=goT P KP Q all l st d R ρ n b off y bx H (H b):=by
 simp only[goS,goT]
theorem zhN {b off n:Nat} {y cs:List AV} {bx:Bool}:goT P KP Q all l st d R ρ n b off y bx H (some (.cells cs))=(y.length=n∧off+n≤cs.length∧bx=true∧goR P KP Q all l st R (ρ.set d (.tup [])) (H.upd b (.cells (splice cs off y)))):=rfl
theorem za {f:FuncId} {args:List AV} {r:AV} (h:zi P f args r) (hk:goR P KP Q all l st R (ρ.set d r) H):goK P KP Q all l st d R ρ f args H:=h.use hk
theorem z6 {f:FuncId} {args:List AV} {X:AEnd→zb→Prop} (h:zj P f args H X) (hk:∀ e H',X e H'→ZL (fun v H'=>goR P KP Q all l st R (ρ.set d v) H') KP e H'):goK P KP Q all l st d R ρ f args H:=h.mono hk
theorem zrF (t e:AC):goB P KP Q (.bool true) t e st ρ H=goC P KP Q t st ρ H:=rfl
theorem zrH (t e:AC):goB P KP Q (.bool false) t e st ρ H=goC P KP Q e st ρ H:=rfl
theorem zo8 {keep:List Nat} {b:AC} (I:Nat→Env→zb→Prop) (n0:Nat) (h0:I n0 (ρ.keep keep) H)
  (hr:∀ n ρ H (J:Env→zb→Prop),I n ρ H→(∀ m ρ' H',m<n→I m ρ' H'→J ρ' H')→goC P KP Q b (.rep keep J::st) ρ H):goL P KP Q keep b st ρ H:=by
 refine⟨I,⟨n0,h0⟩,fun n ρ H hI=>?_⟩
 exact hr n ρ H (fun ρ' H'=>∃ m,m<n∧I m ρ' H') hI fun m ρ' H' hm hi=>⟨m,hm,hi⟩
end
theorem upd_same (H:zb) (b:Nat) (o:AObj):(H.upd b o) b=some o:=by simp[zb.upd]
theorem upd_ne {H:zb} {b c:Nat} {o:AObj} (h:c≠b):(H.upd b o) c=H c:=by simp[zb.upd,h]
theorem zh5 (H:zb) (b:Nat) (o o':AObj):(H.upd b o).upd b o'=H.upd b o':=by funext c;simp only[zb.upd];split<;>rfl
theorem yW {H:zb} {b c:Nat} {o:AObj} (h:(H.upd b o) c=none):c≠b:=fun e=>by subst e;simp[zb.upd] at h
def zhe (ρ:Env):List Nat→List (Nat×AV)
 | []=>[]
 | n::l=>(n,ρ n)::zhe ρ l
theorem zhD (ρ:Env):zhe ρ []=[]:=rfl
theorem zgB (ρ:Env) (n:Nat) (l:List Nat):zhe ρ (n::l)=(n,ρ n)::zhe ρ l:=rfl
theorem zlJ (ρ:Env) (l:List Nat):ρ.keep l=ze (zhe ρ l):=by
 unfold Env.keep
 congr 1
 induction l with
 | nil=>rfl
 | cons n l ih=>simp[zhe,ih]
theorem zlS (ρ:Env):[].map (Opd.ev ρ)=[]:=rfl
theorem ziQ (ρ:Env) (x:Opd) (xs:List Opd):(x::xs).map (Opd.ev ρ)=x.ev ρ::xs.map (Opd.ev ρ):=rfl
theorem zrf (a b:Prop):(if True then a else b)=a:=if_pos trivial
theorem zra (a b:Prop):(if False then a else b)=b:=if_neg id
theorem zrh (a b:Option AV):(if True then a else b)=a:=if_pos trivial
theorem zrk (a b:Option AV):(if False then a else b)=b:=if_neg id
theorem zre (a b:AV):(if True then a else b)=a:=if_pos trivial
theorem zrQ (a b:AV):(if False then a else b)=b:=if_neg id
theorem zjj (ρ:Env) (c:AV):ρ.set none c=ρ:=rfl
theorem ziR (l:List (Nat×AV)) (d:Nat) (c:AV):(ze l).set (some d) c=ze ((d,c)::l):=rfl
theorem zhv (n:Nat):ze [] n=.any:=rfl
theorem zuo (ρ:Env) (n:Nat):(Opd.t n).ev ρ=ρ n:=rfl
theorem zuc (ρ:Env) (c:AV):(Opd.k c).ev ρ=c:=rfl
theorem zua (a b:Int):(a==b)=decide (a=b):=rfl
theorem ztZ (a b:Int):(a != b)=decide (a≠b):=by rw[decide_not];rfl
theorem zt2 (a b:List UInt8):(a==b)=decide (a=b):=by by_cases h:a=b<;>simp[h]
theorem wrap64 {n:Int} (h1:-9223372036854775808≤n) (h2:n<9223372036854775808):IntKind.wrap .i64 n=n:=by rw[IntKind.wrap_i64];omega
def ztI (S:AV→AV) (P:Program) (KP:AV→zb→Prop) (Q:AExit→Env→zb→Prop) (all l:List AItem) (st:List Fr) (d:Option Nat) (R:List Chk) (ρ:Env) (sz bytes:Nat) (zero:List AV) (x y:AV) (H:zb):Prop :=
 zgr S sz bytes zero x y H (fun v H'=>goR P KP Q all l st R (ρ.set d v) H')
def goZ (P:Program) (KP:AV→zb→Prop) (Q:AExit→Env→zb→Prop) (all l:List AItem) (st:List Fr) (d:Option Nat) (R:List Chk) (ρ:Env) (sz:Nat) (x:AV) (H:zb):Prop :=
 zfZ sz x H (fun v H'=>goR P KP Q all l st R (ρ.set d v) H')
section
variable {P:Program} {KP:AV→zb→Prop} {Q:AExit→Env→zb→Prop} {st:List Fr} {ρ:Env} {H:zb} {all l:List AItem} {d:Option Nat} {R:List Chk}
theorem znA (sz bytes:Nat) (zero:List AV) (x y:Opd):goO P KP Q all l st d (.appm sz bytes zero x y) R ρ H=ztI AV.strip1 P KP Q all l st d R ρ sz bytes zero (x.ev ρ) (y.ev ρ) H:=rfl
theorem zlq (sz bytes:Nat) (zero:List AV) (x y:Opd):goO P KP Q all l st d (.appm2 sz bytes zero x y) R ρ H=ztI AV.strip2 P KP Q all l st d R ρ sz bytes zero (x.ev ρ) (y.ev ρ) H:=rfl
theorem zrP (sz:Nat) (x:Opd):goO P KP Q all l st d (.frz sz x) R ρ H=goZ P KP Q all l st d R ρ sz (x.ev ρ) H:=rfl
theorem zoH (sz n:Nat) (zero:List AV) (qs:List (Nat×Opd)):goO P KP Q all l st d (.blsm sz n zero qs) R ρ H=goA P KP Q all l st d R ρ H (.blsm sz n zero qs) (oev ρ (.blsm sz n zero qs)):=zaT _ rfl
end
theorem steps:type_of% (And.intro @go_skip<|And.intro @zpj<|And.intro @zmj<|And.intro @zof<|And.intro @zlx<|And.intro @zj1<|And.intro @ziT<|And.intro @zmg<|And.intro @go_ret<|And.intro @go_loop <|
 And.intro @zjw<|And.intro @zlv<|And.intro @zlm<|And.intro @zlA<|And.intro @zlU<|And.intro @zd5<|And.intro @zfa<|And.intro @ze8<|And.intro @zdr<|And.intro @zea<|And.intro @zd1 <|
 And.intro @zl8<|And.intro @zi8<|And.intro @zhI<|And.intro @zfD<|And.intro @zg8<|And.intro @zgg<|And.intro @zgf<|And.intro @zjC<|And.intro @zjf<|And.intro @zrK<|And.intro @zoA<|And.intro @znn<|And.intro @znw<|And.intro @znF<|And.intro @zpm<|And.intro @zoP <|
 And.intro @zjz<|And.intro @zt4<|And.intro @znP<|And.intro @zjM<|And.intro @ztD<|And.intro @zrM<|And.intro @ztw<|And.intro @ztp<|And.intro @zro<|And.intro @zlp<|And.intro @znK<|And.intro @zoI<|And.intro @zlh<|And.intro @zrO<|And.intro @zrN<|And.intro @zrS<|And.intro @zow<|And.intro @zmn<|And.intro @zrr<|And.intro @zrz<|And.intro @zoe<|And.intro @zok<|And.intro @zrR<|And.intro @zrp<|And.intro @ztB<|And.intro @zrx<|And.intro @ztG<|And.intro @zrq<|And.intro @zrL<|And.intro @zrs<|And.intro @znA<|And.intro @zlq<|And.intro @zrP<|And.intro @zoH<|And.intro @zrJ<|And.intro @zon<|And.intro @zpn<|And.intro @zrc<|And.intro @zo7<|And.intro @zub<|And.intro @znT<|And.intro @ztJ<|And.intro @zrB<|And.intro @zpo<|And.intro @zmi<|And.intro @zrb<|And.intro @zrG<|And.intro @znp<|And.intro @zrA<|And.intro @zt9<|And.intro @zlC<|And.intro @zhN<|And.intro @zrF<|And.intro @zrH <|
 And.intro @zlJ<|And.intro @zjj<|And.intro @ziR<|And.intro @zhv<|And.intro @zfR<|And.intro @zuo<|And.intro @zuc<|And.intro @zua<|And.intro @ztZ<|And.intro @zt2 <|
 And.intro @upd_same<|And.intro @zh5<|And.intro @ziQ<|And.intro @zlS<|And.intro @zgB<|And.intro @zhD<|And.intro @zrf<|And.intro @zra<|And.intro @zrh<|And.intro @zrk<|And.intro @zre<|And.intro @zrQ<|And.intro @and_self<|And.intro @true_and<|@and_true) :=
 And.intro @go_skip<|And.intro @zpj<|And.intro @zmj<|And.intro @zof<|And.intro @zlx<|And.intro @zj1<|And.intro @ziT<|And.intro @zmg<|And.intro @go_ret<|And.intro @go_loop <|
 And.intro @zjw<|And.intro @zlv<|And.intro @zlm<|And.intro @zlA<|And.intro @zlU<|And.intro @zd5<|And.intro @zfa<|And.intro @ze8<|And.intro @zdr<|And.intro @zea<|And.intro @zd1 <|
 And.intro @zl8<|And.intro @zi8<|And.intro @zhI<|And.intro @zfD<|And.intro @zg8<|And.intro @zgg<|And.intro @zgf<|And.intro @zjC<|And.intro @zjf<|And.intro @zrK<|And.intro @zoA<|And.intro @znn<|And.intro @znw<|And.intro @znF<|And.intro @zpm<|And.intro @zoP <|
 And.intro @zjz<|And.intro @zt4<|And.intro @znP<|And.intro @zjM<|And.intro @ztD<|And.intro @zrM<|And.intro @ztw<|And.intro @ztp<|And.intro @zro<|And.intro @zlp<|And.intro @znK<|And.intro @zoI<|And.intro @zlh<|And.intro @zrO<|And.intro @zrN<|And.intro @zrS<|And.intro @zow<|And.intro @zmn<|And.intro @zrr<|And.intro @zrz<|And.intro @zoe<|And.intro @zok<|And.intro @zrR<|And.intro @zrp<|And.intro @ztB<|And.intro @zrx<|And.intro @ztG<|And.intro @zrq<|And.intro @zrL<|And.intro @zrs<|And.intro @znA<|And.intro @zlq<|And.intro @zrP<|And.intro @zoH<|And.intro @zrJ<|And.intro @zon<|And.intro @zpn<|And.intro @zrc<|And.intro @zo7<|And.intro @zub<|And.intro @znT<|And.intro @ztJ<|And.intro @zrB<|And.intro @zpo<|And.intro @zmi<|And.intro @zrb<|And.intro @zrG<|And.intro @znp<|And.intro @zrA<|And.intro @zt9<|And.intro @zlC<|And.intro @zhN<|And.intro @zrF<|And.intro @zrH <|
 And.intro @zlJ<|And.intro @zjj<|And.intro @ziR<|And.intro @zhv<|And.intro @zfR<|And.intro @zuo<|And.intro @zuc<|And.intro @zua<|And.intro @ztZ<|And.intro @zt2 <|
 And.intro @upd_same<|And.intro @zh5<|And.intro @ziQ<|And.intro @zlS<|And.intro @zgB<|And.intro @zhD<|And.intro @zrf<|And.intro @zra<|And.intro @zrh<|And.intro @zrk<|And.intro @zre<|And.intro @zrQ<|And.intro @and_self<|And.intro @true_and<|@and_true
theorem zi.go {P:Program} {f:FuncId} (af:AFn) (hc:zk P f af=true) {args:List AV} {r:AV} (hnp:args.length≤af.np)
  (h:∀ KP Q,(∀ e ρ H vs,(∀ i,e≠.exit i)→zQ ρ H af.res=some vs→(zd vs).strip=r→Q e ρ H)→goC P KP Q af.body [] (ze (zx 0 args)) zb.emp):zi P f args r :=
 zi.of_fn af hc hnp (h _ _ fun e ρ H vs he hv hr=>zmX he ⟨vs,hv,hr⟩)
def ya (H:zb) (o:Own) (n sz:Nat):Prop :=
 match o with
 | .no=>False
 | .nil=>n=0
 | .full=>True
 | .tip b d=>H b=some (.tip (d+n) sz)
def Kept (H:zb) (o:Own) (H':zb):Prop:=∀ b x,H b=some x→(∀ d,o≠.tip b d)→H' b=some x
def zoc (H:zb) (o o':Own):Prop:=∀ b d,o'=.tip b d→H b=none∨∃ d0,o=.tip b d0
theorem ya.nil (H:zb) (sz:Nat):ya H .nil 0 sz:=rfl
theorem ya.full (H:zb) (n sz:Nat):ya H .full n sz:=trivial
theorem zqt {P:Program} {KP:AV→zb→Prop} {Q:AExit→Env→zb→Prop} {st:List Fr} {ρ:Env} {H:zb} {all l:List AItem} {d:Option Nat} {R:List Chk} {sz bytes:Nat} {o o2:Own} {xs ys:List (List AV)}
  (how:ya H o xs.length sz) (h1:(xs.length+ys.length)*bytes≤140737488355328) (h2:xs.length+ys.length≤maxLen)
  (hk:∀ o' H',ya H' o' (xs.length+ys.length) sz→Kept H o H'→zoc H o o'→goR P KP Q all l st R (ρ.set d (.sl o' sz (xs++ys.map (·.map AV.strip1)))) H') :
  goP P KP Q all l st d R ρ sz bytes (.sl o sz xs) (.sl o2 sz ys) H:=by
 refine⟨rfl,rfl,h1,h2,?_⟩
 cases o with
 | no=>exact how.elim
 | nil =>
  refine⟨fun hy=>?_,fun hy b hb=>hk _ _ (by simp[ya,zb.upd]) (fun c x hc hn=>?_) (fun c d' e=>?_)⟩
  ·subst hy
   have hx:xs=[]:=List.eq_nil_of_length_eq_zero how
   subst hx
   exact hk .nil H rfl (fun b x hb _=>hb) (fun b d' e=>by cases e)
  ·have hne:c≠b:=fun e=>by subst e;rw[hb] at hc;cases hc
   simp[zb.upd,hne,hc]
  ·cases e;exact .inl hb
 | full =>
  refine⟨fun hy=>?_,fun hy b hb=>hk _ _ (by simp[ya,zb.upd]) (fun c x hc hn=>?_) (fun c d' e=>?_)⟩
  ·subst hy
   have:=hk .full H trivial (fun b x hb _=>hb) (fun b d' e=>by cases e)
   simpa using this
  ·have hne:c≠b:=fun e=>by subst e;rw[hb] at hc;cases hc
   simp[zb.upd,hne,hc]
  ·cases e;exact .inl hb
 | tip b dr =>
  refine⟨how,fun b' dr' hb'=>hk _ _ (by simp[ya,zb.upd]) (fun c x hc hn=>?_) (fun c d' e=>?_)⟩
  ·have hcb:c≠b:=fun e=>by subst e;exact hn dr rfl
   have hcb':c≠b':=fun e=>by subst e;simp[zb.del,hcb,hc] at hb'
   simp[zb.upd,zb.del,hcb,hcb',hc]
  ·cases e
   by_cases hbb:b'=b
   ·subst hbb;exact .inr ⟨dr,rfl⟩
   ·left;simpa[zb.del,hbb] using hb'
theorem zj.go {P:Program} {f:FuncId} (af:AFn) (hc:zk P f af=true) {args:List AV} {H:zb} {R:AV→zb→Prop} (hnp:args.length≤af.np)
  (h:∀ KP Q,(∀ e ρ H1 H2 vs,(∀ i,e≠.exit i)→zQ ρ H1 af.res=some vs→Low H2 H1→R (zd vs).strip H2→Q e ρ H1)→goC P KP Q af.body [] (ze (zx 0 args)) H):zj P f args H (fun e H'=>∃ v,e=.ret v∧R v H'):=by
 refine zj.strip ((zj.of_fn (Q:=fun e H'=>match e with|.ret v=>R v.strip H'|.pan _=>False) af hc hnp (h _ _ fun e ρ H1 H2 vs he hv hs hr=>?_)).mono fun e H' hq=>?_)
 ·cases e with
  | exit i=>exact absurd rfl (he i)
  | normal=>simp only[ziv,hv];exact⟨H2,hs,hr⟩
  | ret=>simp only[ziv,hv];exact⟨H2,hs,hr⟩
 ·cases e with
  | ret v=>exact⟨_,rfl,hq⟩
  | pan v=>exact hq.elim
theorem zdh {P:Program} {KP:AV→zb→Prop} {Q:AExit→Env→zb→Prop} {st:List Fr} {ρ:Env} {H:zb} {all l:List AItem} {d:Option Nat} {R:List Chk} {f:FuncId} {args:List AV} {X:AV→zb→Prop}
  (h:zj P f args H (fun e H'=>∃ v,e=.ret v∧X v H')) (hk:∀ v H',X v H'→goR P KP Q all l st R (ρ.set d v) H'):goK P KP Q all l st d R ρ f args H :=
 h.mono fun e H' ⟨v,he,hx⟩=>by subst he;exact hk v H' hx
theorem zj.low {P:Program} {f:FuncId} {args:List AV} {H:zb} {Q:AEnd→zb→Prop} (h:zj P f (args.map AV.strip) H Q):zj P f args H Q :=
 fun γ w vs ht hs hv=>h γ w vs ht hs ⟨by simpa using hv.1,fun i c v hc hvv=>by
  rw[ZX] at hc
  cases hx:args[i]? with
  | none=>simp[hx] at hc
  | some x=>simp only[hx,ZW,Al1] at hc;subst hc;exact(hv.2 i x v hx hvv).strip⟩
theorem zi.low {P:Program} {f:FuncId} {args:List AV} {r:AV} (h:zi P f (args.map AV.strip) r):zi P f args r:=zj.low h
theorem ya.upd {H:zb} {o:Own} {n sz b:Nat} {x:AObj} (h:ya H o n sz) (hb:H b=none):ya (H.upd b x) o n sz:=by
 cases o with
 | tip c d =>
  have hc:H c=some (.tip (d+n) sz):=h
  have hne:c≠b:=fun e=>by subst e;rw[hb] at hc;cases hc
  show (H.upd b x) c=_
  simp[zb.upd,hne,hc]
 | no=>exact h
 | nil=>exact h
 | full=>exact h
theorem zdw {H:zb} {b c:Nat} {x:AObj} (hb:H b=none) (hc:H c=some x):b≠c:=fun e=>by subst e;rw[hb] at hc;cases hc
theorem zfh (c:AV) (cs:List AV) (v:AV) (vs:List AV):splice (c::cs) 0 (v::vs)=v::splice cs 0 vs:=by simp[splice]
theorem zfo (c:AV) (cs:List AV) (n:Nat) (vs:List AV):splice (c::cs) (n+1) vs=c::splice cs n vs:=by simp[splice,Nat.add_right_comm]
theorem zfm (cs:List AV):splice cs 0 []=cs:=by simp[splice]
open Go.ChangeAt Go.ChangeShapes Go.RowKit Go.WideElems Go.WideShapes
def zfu:Gh:=fun _=>.imm
section
variable {P:Program} {m:Nat} {t:TypeId}
theorem zbJ {γ:Gh} {w:World} {c:AV} {v:Value} (h:Rep γ w c v) (h1:v.oneCell'=true):zt γ w [c] [v] :=
 ⟨rfl,fun i u hu=>by cases i<;>simp at hu;subst hu;exact h1,fun i d u hd hu=>by cases i<;>simp at hd hu;subst hd;subst hu;exact h⟩
theorem addr_add_add (a:Addr) (x y:Nat):(a.add x).add y=a.add (x+y):=by
 unfold Addr.add
 by_cases hx:x=0
 ·subst hx;simp
 ·by_cases hy:y=0
  ·subst hy;simp[hx]
  ·simp[hx,hy,Nat.add_assoc]
theorem zff {H:Type} {e:TypeId}:∀ {ds:List (DataW H)} {d:DataW H},d∈ds→∀ n∈d.weights P e,n∈DataW.weightsAll P e ds
 | x::ds,d,hd,n,hn=>by
  simp only[DataW.weightsAll,List.mem_append]
  rcases List.mem_cons.1 hd with rfl|hd
  ·exact .inl hn
  ·exact .inr (zff hd n hn)
def flds (P:Program) (t:TypeId):Option (List (Nat×TypeId)) :=
 match P.underlying t with
 | some (.struct fs)=>some (fs.toList.map fun f=>(f.offset,f.type))
 | _=>none
theorem zhm {P:Program} {t:TypeId} {l:List (Nat×TypeId)} (h:flds P t=some l):∃ fs:Array Field,P.underlying t=some (.struct fs)∧fs.toList.map (fun f=>(f.offset,f.type))=l:=by
 unfold flds at h
 split at h
 ·rename_i fs hf;simp only[Al1] at h;exact⟨fs,hf,h⟩
 ·cases h
end
theorem zm3 {P:Program} {W:World} {r:Reach} {b:Nat} {t:TypeId} {k:IntKind} {v:Value} (ht:P.underlying t=some (.int k)) (h:Value.okWide P W r b t v):∀ cs,v≠.agg cs:=fun cs e=>by
 subst e;simp[Value.okWide,Cell.okWide,Cell.ok,ht] at h
theorem isAgg {P:Program} {W:World} {r:Reach} {b:Nat} {t:TypeId} {v:Value} {l:List (Nat×TypeId)} (ht:flds P t=some l) (h:Value.okWide P W r b t v):∃ cs,v=.agg cs:=by
 obtain⟨fs,hf,_⟩:=zhm ht
 simp only[Value.okWide,hf] at h
 obtain⟨cs,rfl,_⟩:=h
 exact⟨cs,rfl⟩
theorem sized {P:Program} {H:Type} {ts:List TypeId} {ds:List (DataW H)} (h:(DataW.weightsEach P ts ds).all (·≤reachBytes)=true) {j:Nat} {t:TypeId} {d:DataW H} (ht:ts[j]?=some t) (hd:ds[j]?=some d):∀ n∈d.weights P t,n≤reachBytes:=fun n hn=>by
 have:=zdH.1 h n (DataW.weights_mem_each ht hd n hn)
 simpa using this
theorem zdt {P:Program} {H:Type} {enc:TypeId×Value→H} (hl:laidOutB P=true) {W W':World} {sp':Nat→Bool}:∀ {ts:List TypeId} {vs:List Value} {ds:List (DataW H)} {ps:List MemPlace},
  (∀ t∈ts,P.readableRec t=true∧t<P.types.size)→DataW.TrodAll enc P W 0 (fun _=>true) true ts vs ds ps→(∀ p∈ps,W.sameAt W' p)→(∀ p∈ps,sp' p.block=true)→DataW.TrodAll enc P W' 0 sp' true ts vs ds ps
 | [],_,_,_,_,h,_,_=>by
  obtain⟨rfl,rfl,rfl⟩:=trodAll_nil h
  exact rfl
 | t::ts,_,_,_,hr,h,hs,hsp=>by
  obtain⟨v,vs1,d,ds1,a,b,rfl,rfl,rfl,h1,h2⟩:=trodAll_cons h
  exact⟨a,b,Trod_stays hl (hr t (Yz ..)).1 (hr t (Yz ..)).2 h1 (fun p hp=>hs p (zdo _ hp)) (fun p hp=>hsp p (zdo _ hp)),
   zdt hl (fun t ht=>hr t (zap _ ht)) h2 (fun p hp=>hs p (List.mem_append_right _ hp)) (fun p hp=>hsp p (List.mem_append_right _ hp)),rfl⟩
theorem ze3 {P:Program} {H:Type} {enc:TypeId×Value→H} {f:Func} {s:ChangeSpec} {apart fresh handsOn again:Bool} {W W':World} {args:Array Value} {v:Value} {ds gs:List (DataW H)} {before pa pv:List MemPlace}
  (hW:DataW.Whole enc P f.params.toList s.vars apart W args.toList ds gs before)
  (hres:∀(b:Nat) (sp:Nat→Bool) (hd:Bool),DataW.TrodAll enc P W' b sp hd f.resultTypes.toList (v.resultList f.resultTypes.size) (s.fn H (ds++gs)).results [])
  (hargs:∀ sp:Nat→Bool,(∀ p∈before,sp p.block=true)→DataW.TrodAll enc P W' 0 sp true f.params.toList args.toList (s.fn H (ds++gs)).args pa)
  (hvars:∀ sp:Nat→Bool,(∀ p∈before,sp p.block=true)→DataW.TrodVars enc P W' sp s.vars (s.fn H (ds++gs)).vars pv)
  (hps:before=pa++pv) (hk:W.keptBut W' (·∈before)) (hfz:∀ a,a.block<W.heap.size→W'.frozen? a=W.frozen? a)
  (hok:∀(j:Nat) (t:TypeId) (r:Value),f.resultTypes[j]?=some t→(v.resultList f.resultTypes.size)[j]?=some r→Value.okWide P W' .any 0 t r) :
  s.post enc P f apart fresh handsOn again W args v W':=by
 have hlt:∀ p∈before,p.block<W.heap.size:=fun p hp=>hW.lt p hp
 have hold:∀ p∈before,(fun b=>decide (b<W.heap.size)) p.block=true:=fun p hp=>by simpa using hlt p hp
 refine⟨ds,gs,before,[],pa,pv,hW,hres _ _ _,hargs _ hold,hvars _ hold,World.keptBut_mono (fun p hp=>⟨hp,?_⟩) hk,fun _=>?_⟩
 ·rw[hps,List.mem_append] at hp
  exact Or.inr hp
 ·obtain⟨_,_,_,_,_,hz,hn⟩:=hW
  refine⟨hok,_,_,([]++pa)++pv,⟨[]++pa,pv,trodAll_append (hargs _ (fun _ _=>rfl)) (hres _ _ _),hvars _ (fun _ _=>rfl),rfl,?_,?_⟩,?_⟩
  ·intro b off hp
   have hp':MemPlace.cell b off∈before:=by rw[hps];simpa using hp
   rw[hfz _ (hlt _ hp')]
   exact hz b off hp'
  ·intro ha
   have:=hn ha
   rw[hps] at this
   simpa using this
  ·intro p hp _
   rw[hps]
   simpa using hp
theorem zh8 {P:Program} {f:FuncId} {fn:Func} {s:ChangeSpec} {apart fresh handsOn again:Bool} {H:Type} {enc:TypeId×Value→H} {W:World} {args:Array Value} {ds gs:List (DataW H)} {before:List MemPlace} {tb:TypeId}
  (hl:laidOutB P=true) (hvars:s.vars=[]) (hr:∀ t∈fn.params.toList,P.readableRec t=true∧t<P.types.size) (hres:fn.resultTypes=#[tb]) (htb:P.underlying tb=some .bool)
  (hW:DataW.Whole enc P fn.params.toList s.vars apart W args.toList ds gs before) (hs:s.fn H (ds++gs)={ results:=[.lit (.bool true)],args:=ds })
  {avs:List AV} (htab:zaH zfu W) (hrep:zS zfu W avs args.toList) (hp:zi P f avs (.bool true)) :
  Calls P f args W fun e W'=>∃ v,e=.returned v∧s.post enc P fn apart fresh handsOn again W args v W':=by
 have h:=hp zfu W args.toList htab (fun b o hb=>by simp[zb.emp] at hb) hrep
 have ha:args.toList.toArray=args:=by simp
 rw[ha] at h
 refine h.mono fun e W' ⟨γ',H',r,hext,_,_,hend,hq,_⟩=>?_
 subst hq
 cases e with
 | panicked ch=>exact hend.elim
 | outgrown=>exact hend.elim
 | returned v =>
  have hv:Rep γ' W' (.bool true) v:=hend
  cases hv
  refine⟨_,rfl,?_⟩
  have hframe:∀ b,b<W.heap.size→W'.heap[b]?=W.heap[b]?:=fun b hb=>(hext.frame b hb (by simp[zb.emp])).2
  obtain⟨p,q,hA,hV,rfl,hfz,hnd⟩:=id hW
  rw[hvars] at hV
  obtain⟨rfl,rfl⟩:=trodVars_none hV
  have hlt:∀ x∈p,x.block<W.heap.size:=fun x hx=>hW.lt x (zdo _ hx)
  have hsame:∀ x∈p,W.sameAt W' x:=fun x hx=>by
   have h1:=hframe _ (hlt x hx)
   cases x with
   | cell b off =>
    simp only[MemPlace.block] at h1
    simp only[World.sameAt,World.cell?,h1]
   | map b=>exact h1
  refine ze3 (pa:=p) (pv:=[]) hW (fun b sp hd=>?_) (fun sp hsp=>?_) (fun sp hsp=>?_) rfl ⟨hext.os,hext.output,fun i hi=>?_⟩ hext.frozen ?_
  ·rw[hres,hs]
   exact trodAll_mk1 (shut_bool htb true)
  ·rw[hs]
   exact zdt hl hr hA hsame fun x hx=>hsp x (zdo _ hx)
  ·rw[hs,hvars]
   exact rfl
  ·rw[hframe i hi]
   cases W.heap[i]? with
   | none=>rfl
   | some o=>cases o<;>first|exact⟨rfl,rfl,rfl,fun _ _=>rfl⟩|exact .inr ⟨rfl,rfl⟩|rfl
  ·exact ok_one hres rfl (okWide_bool_mk htb true)
end Go.Ab
namespace Go.Ab
def Y9 (ρ:Env):List (Nat×AV)→Env
 | []=>ρ
 | (d,v)::r=>(Y9 ρ r).set (some d) v
theorem zga (ρ:Env):Y9 ρ []=ρ:=rfl
theorem zfq (ρ:Env) (d:Nat) (v:AV) (r:List (Nat×AV)):Y9 ρ ((d,v)::r)=(Y9 ρ r).set (some d) v:=rfl
section
variable {P:Program} {KP:AV→zb→Prop} {Q:AExit→Env→zb→Prop} {st:List Fr} {ρ:Env} {H:zb} {keep:List Nat} {b:AC}
theorem goJ {J:Env→zb→Prop} {a b:Env} {H:zb} (h:J a H) (e:b=a):J b H:=e▸h
theorem zbp {σ:Type} (m:σ→List (Nat×AV)) (I:σ→zb→Prop) (meas:σ→Nat) (s0:σ) (hm:ρ.keep keep=(Y9 ρ (m s0)).keep keep) (h0:I s0 H)
  (hr:∀ s H' J,I s H'→(∀ s' H'',meas s'<meas s→I s' H''→J ((Y9 ρ (m s')).keep keep) H'')→goC P KP Q b (.rep keep J::st) ((Y9 ρ (m s)).keep keep) H'):goL P KP Q keep b st ρ H:=by
 refine zo8 (fun n ρ' H'=>∃ s,n=meas s∧ρ'=(Y9 ρ (m s)).keep keep∧I s H') (meas s0) ⟨s0,rfl,hm,h0⟩ ?_
 rintro n ρ' H' J ⟨s,rfl,rfl,hs⟩ hJ
 exact hr s H' J hs fun s' H'' h1 h2=>hJ _ _ _ h1 ⟨s',rfl,rfl,h2⟩
theorem zf {α σ:Type} (l:List α) (ci:Nat) (m:σ→List (Nat×AV)) (I:List α→List α→σ→zb→Prop) (s0:σ) (hm:ρ.keep keep=(Y9 ρ ((ci,.int .i64 0)::m s0)).keep keep) (h0:I [] l s0 H)
  (hend:∀ s H' J,I l [] s H'→¬ ((l.length:Int)<l.length)→goC P KP Q b (.rep keep J::st) ((Y9 ρ ((ci,.int .i64 l.length)::m s)).keep keep) H')
  (hr:∀ done x rest s H' J,l=done++x::rest→(done.length:Int)<l.length→done.length<l.length→I done (x::rest) s H' →
   (∀ s' H'',I (done++[x]) rest s' H''→J ((Y9 ρ ((ci,.int .i64 ((done.length:Int)+1))::m s')).keep keep) H'')→goC P KP Q b (.rep keep J::st) ((Y9 ρ ((ci,.int .i64 done.length)::m s)).keep keep) H'):goL P KP Q keep b st ρ H:=by
 refine zbp (σ:=List α×List α×σ) (fun s=>(ci,.int .i64 s.1.length)::m s.2.2) (fun s H'=>l=s.1++s.2.1∧I s.1 s.2.1 s.2.2 H') (fun s=>s.2.1.length) ([],l,s0) (by simpa using hm) ⟨rfl,h0⟩ ?_
 rintro⟨done,rest,s⟩ H' J ⟨hl,hi⟩ hJ
 cases rest with
 | nil =>
  simp only[List.append_nil] at hl
  subst hl
  exact hend s H' J hi (by omega)
 | cons x rest =>
  have h1:done.length<l.length:=by rw[hl];simp
  refine hr done x rest s H' J hl (by omega) h1 hi fun s' H'' hi'=>?_
  have:=hJ (done++[x],rest,s') H'' (by simp) ⟨by simp[hl],hi'⟩
  simpa using this
end
section
variable {P:Program} {KP:AV→zb→Prop} {Q:AExit→Env→zb→Prop} {st:List Fr} {ρ:Env} {H:zb} {all l:List AItem} {d:Option Nat} {R:List Chk}
def goW (P:Program) (KP:AV→zb→Prop) (Q:AExit→Env→zb→Prop) (all l:List AItem) (st:List Fr) (d:Option Nat) (R:List Chk) (ρ:Env) (v:AV) (args:List AV) (H:zb):Prop :=
 match v with
 | .clo f first caps=>Program.callable P f=true∧goK P KP Q all l st d R ρ f (first++args++caps) H
 | _=>False
theorem zlE (g:Opd) (args:List Opd):goO P KP Q all l st d (.callv g args) R ρ H=goW P KP Q all l st d R ρ (g.ev ρ) (args.map (Opd.ev ρ)) H:=by
 simp only[goO,aop,AOp.cls,eff,goW,goK]
 cases g.ev ρ<;>rfl
theorem zlX (f:FuncId) (first caps args:List AV):goW P KP Q all l st d R ρ (.clo f first caps) args H=(Program.callable P f=true∧goK P KP Q all l st d R ρ f (first++args++caps) H):=rfl
def goX (P:Program) (KP:AV→zb→Prop) (Q:AExit→Env→zb→Prop) (all l:List AItem) (st:List Fr) (d:Option Nat) (R:List Chk) (ρ:Env) (x y:AV) (H:zb):Prop :=
 match y with
 | .str s=>goP P KP Q all l st d R ρ 1 1 x (.sl .no 1 (bytesOf s)) H
 | _=>False
theorem zoN (x y:Opd):goO P KP Q all l st d (.apps x y) R ρ H=goX P KP Q all l st d R ρ (x.ev ρ) (y.ev ρ) H:=by
 simp only[goO,aop,AOp.cls,eff,goX,goP]
 cases y.ev ρ<;>rfl
theorem zlD (x:AV) (s:List UInt8):goX P KP Q all l st d R ρ x (.str s) H=goP P KP Q all l st d R ρ 1 1 x (.sl .no 1 (bytesOf s)) H:=rfl
def goN (KP:AV→zb→Prop) (v:AV) (H:zb):Prop :=
 match v with
 | .ifc t y=>KP (.ifc t y) H
 | _=>False
theorem zri (x:Opd):goO P KP Q all l st d (.pan x) R ρ H=goN KP (x.ev ρ) H:=by
 simp only[goO,aop,AOp.cls,eff,goN]
 cases x.ev ρ<;>rfl
theorem zmm (t:TypeId) (y:AV):goN KP (.ifc t y) H=KP (.ifc t y) H:=rfl
def goM (P:Program) (KP:AV→zb→Prop) (Q:AExit→Env→zb→Prop) (all l:List AItem) (st:List Fr) (d:Option Nat) (R:List Chk) (ρ:Env) (kt:KT) (b:Nat) (k v:AV) (H:zb) (o:Option AObj):Prop :=
 match o with
 | some (.map kt' es)=>kt'=kt∧kt.fits k=true∧goR P KP Q all l st R (ρ.set d (.tup [])) (H.upd b (.map kt (zba es k v)))
 | _=>False
def ztf (P:Program) (KP:AV→zb→Prop) (Q:AExit→Env→zb→Prop) (all l:List AItem) (st:List Fr) (d:Option Nat) (R:List Chk) (ρ:Env) (kt:KT) (m k v:AV) (H:zb):Prop :=
 match m with
 | .mp b=>goM P KP Q all l st d R ρ kt b k v H (H b)
 | _=>False
theorem zrd (kt:KT) (m k v:Opd):goO P KP Q all l st d (.mup kt m k v) R ρ H=ztf P KP Q all l st d R ρ kt (m.ev ρ) (k.ev ρ) (v.ev ρ) H:=by
 simp only[goO,aop,AOp.cls,eff,ztf,goM]
 cases m.ev ρ<;>rfl
theorem zl4 (kt:KT) (b:Nat) (k v:AV):ztf P KP Q all l st d R ρ kt (.mp b) k v H=goM P KP Q all l st d R ρ kt b k v H (H b):=rfl
theorem zlP (kt kt':KT) (b:Nat) (es:List (AV×AV)) (k v:AV):goM P KP Q all l st d R ρ kt b k v H (some (.map kt' es))=(kt'=kt∧kt.fits k=true∧goR P KP Q all l st R (ρ.set d (.tup [])) (H.upd b (.map kt (zba es k v)))):=rfl
theorem zj.goO {P:Program} {f:FuncId} (af:AFn) (hc:zk P f af=true) {args:List AV} {H:zb} {R RP:AV→zb→Prop} (hnp:args.length≤af.np)
  (h:∀ KP Q,(∀ e ρ H1 H2 vs,(∀ i,e≠.exit i)→zQ ρ H1 af.res=some vs→Low H2 H1→R (zd vs) H2→Q e ρ H1)→(∀ v H1 H2,Low H2 H1→RP v H2→KP v H1)→goC P KP Q af.body [] (ze (zx 0 args)) H) :
  zj P f args H (fun e H'=>match e with|.ret v=>R v H'|.pan v=>RP v H'):=by
 refine zj.of_fn (Q:=fun e H'=>match e with|.ret v=>R v H'|.pan v=>RP v H') af hc hnp (h _ _ (fun e ρ H1 H2 vs he hv hs hr=>?_) fun v H1 H2 hl hr=>⟨H2,hl,hr⟩)
 cases e with
 | exit i=>exact absurd rfl (he i)
 | normal=>simp only[ziv,hv];exact⟨H2,hs,hr⟩
 | ret=>simp only[ziv,hv];exact⟨H2,hs,hr⟩
theorem yH {f:FuncId} {args:List AV} {X XP:AV→zb→Prop} (h:zj P f args H (fun e H'=>match e with|.ret v=>X v H'|.pan v=>XP v H')) (hk:∀ v H',X v H'→goR P KP Q all l st R (ρ.set d v) H') (hp:∀ v H',XP v H'→KP v H') :
  goK P KP Q all l st d R ρ f args H :=
 h.mono fun e H' hx=>by cases e with|ret v=>exact hk v H' hx|pan v=>exact hp v H' hx
end
structure OwnS (H:zb) (o:Own) (H':zb) (o':Own) (n sz:Nat):Prop where
 own:ya H' o' n sz
 kept:Kept H o H'
 new:zoc H o o'
theorem OwnS.refl {H:zb} {o:Own} {n sz:Nat} (h:ya H o n sz):OwnS H o H o n sz:=⟨h,fun b x hb _=>hb,fun b d e=>.inr ⟨d,e⟩⟩
theorem OwnS.trans {H H1 H2:zb} {o o1 o2:Own} {n n2 sz:Nat} (h:OwnS H o H1 o1 n sz) (h':OwnS H1 o1 H2 o2 n2 sz):OwnS H o H2 o2 n2 sz:=by
 refine⟨h'.own,fun b x hb hn=>h'.kept b x (h.kept b x hb hn) fun d e=>?_,fun b d e=>?_⟩
 ·rcases h.new b d e with h1|⟨d0,h1⟩
  ·rw[hb] at h1;cases h1
  ·exact hn d0 h1
 ·rcases h'.new b d e with h1|⟨d0,h1⟩
  ·cases hb:H b with
   | none=>exact .inl rfl
   | some x =>
    by_cases hx:∃ d,o=.tip b d
    ·exact .inr hx
    ·have:=h.kept b x hb (fun d e=>hx ⟨d,e⟩);rw[h1] at this;cases this
  ·exact h.new b d0 h1
theorem OwnS.upd {H H1:zb} {o o1:Own} {n sz b:Nat} {x:AObj} (h:OwnS H o H1 o1 n sz) (hb:H1 b=none):OwnS H o (H1.upd b x) o1 n sz:=by
 refine⟨h.own.upd hb,fun c y hc hn=>?_,h.new⟩
 have:=h.kept c y hc hn
 have hne:c≠b:=fun e=>by subst e;rw[hb] at this;cases this
 simp only[zb.upd,hne,if_false];exact this
theorem zw {P:Program} {KP:AV→zb→Prop} {Q:AExit→Env→zb→Prop} {st:List Fr} {ρ:Env} {H:zb} {all l:List AItem} {d:Option Nat} {R:List Chk} {sz bytes:Nat} {o o2:Own} {xs ys:List (List AV)}
  (how:ya H o xs.length sz) (h1:(xs.length+ys.length)*bytes≤140737488355328) (h2:xs.length+ys.length≤maxLen)
  (hk:∀ o' H',OwnS H o H' o' (xs.length+ys.length) sz→goR P KP Q all l st R (ρ.set d (.sl o' sz (xs++ys.map (·.map AV.strip1)))) H') :
  goP P KP Q all l st d R ρ sz bytes (.sl o sz xs) (.sl o2 sz ys) H:=zqt how h1 h2 fun o' H' a b c=>hk o' H' ⟨a,b,c⟩
theorem yQ {α:Type} {f:α→List AV} {l a:List α} {x:α} {b:List α} (h:l=a++x::b):(List.map f l).getD a.length []=f x:=by subst h;simp
theorem st2:type_of% (And.intro @zlE<|And.intro @zlX<|And.intro @zoN<|And.intro @zlD<|And.intro @zri<|And.intro @zmm<|And.intro @zrd<|And.intro @zl4<|And.intro @zlP<|And.intro @List.append_nil.{0}<|And.intro @zga<|And.intro @zfq<|And.intro @zfh<|And.intro @zfo<|And.intro @zfm<|And.intro @decide_true<|And.intro @decide_false<|And.intro @List.take_succ_cons.{0}<|And.intro @List.take_zero.{0}<|And.intro @List.drop_succ_cons.{0}<|And.intro @List.drop_zero.{0}<|And.intro @List.length_cons.{0}<|And.intro @List.length_nil.{0}<|And.intro @List.take_length.{0}<|And.intro @List.headD_cons.{0}<|And.intro @List.cons_append.{0}<|And.intro @List.nil_append.{0}<|And.intro @Option.map_some.{0,0}<|And.intro @Bool.not_true<|And.intro @Bool.not_false<|And.intro @Bool.false_eq_true<|And.intro @eq_self.{1}<|And.intro @List.replicate_zero.{0}<|And.intro @List.replicate_succ.{0}<|And.intro @List.set_cons_zero.{0}<|And.intro @List.set_cons_succ.{0}<|And.intro @Nat.lt_add_one<|And.intro @Nat.zero_lt_succ<|And.intro @Nat.le_refl<|And.intro @if_pos.{1}<|And.intro @upd_ne<|And.intro @List.getElem?_cons_succ.{0}<|And.intro @List.getElem?_cons_zero.{0}<|And.intro @Option.some.injEq.{0}<|And.intro @Int.cast_ofNat_Int<|And.intro @List.getD_cons_zero.{0}<|And.intro @List.getD_cons_succ.{0}<|And.intro @Int.toNat_natCast<|And.intro @Int.natCast_zero<|And.intro @Int.natCast_eq_zero<|And.intro @Int.zero_add<|And.intro @Int.natCast_nonneg<|And.intro @true_and<|And.intro @and_true<|And.intro @not_false_eq_true<|And.intro @not_true_eq_false<|And.intro @ne_eq.{1}<|And.intro @List.map_nil.{0,0}<|And.intro @List.map_cons.{0,0}<|And.intro @beq_self_eq_true.{0}<|And.intro @implies_true.{0}<|@Bool.true_eq_false) :=
 And.intro @zlE<|And.intro @zlX<|And.intro @zoN<|And.intro @zlD<|And.intro @zri<|And.intro @zmm<|And.intro @zrd<|And.intro @zl4<|And.intro @zlP<|And.intro @List.append_nil.{0}<|And.intro @zga<|And.intro @zfq<|And.intro @zfh<|And.intro @zfo<|And.intro @zfm<|And.intro @decide_true<|And.intro @decide_false<|And.intro @List.take_succ_cons.{0}<|And.intro @List.take_zero.{0}<|And.intro @List.drop_succ_cons.{0}<|And.intro @List.drop_zero.{0}<|And.intro @List.length_cons.{0}<|And.intro @List.length_nil.{0}<|And.intro @List.take_length.{0}<|And.intro @List.headD_cons.{0}<|And.intro @List.cons_append.{0}<|And.intro @List.nil_append.{0}<|And.intro @Option.map_some.{0,0}<|And.intro @Bool.not_true<|And.intro @Bool.not_false<|And.intro @Bool.false_eq_true<|And.intro @eq_self.{1}<|And.intro @List.replicate_zero.{0}<|And.intro @List.replicate_succ.{0}<|And.intro @List.set_cons_zero.{0}<|And.intro @List.set_cons_succ.{0}<|And.intro @Nat.lt_add_one<|And.intro @Nat.zero_lt_succ<|And.intro @Nat.le_refl<|And.intro @if_pos.{1}<|And.intro @upd_ne<|And.intro @List.getElem?_cons_succ.{0}<|And.intro @List.getElem?_cons_zero.{0}<|And.intro @Option.some.injEq.{0}<|And.intro @Int.cast_ofNat_Int<|And.intro @List.getD_cons_zero.{0}<|And.intro @List.getD_cons_succ.{0}<|And.intro @Int.toNat_natCast<|And.intro @Int.natCast_zero<|And.intro @Int.natCast_eq_zero<|And.intro @Int.zero_add<|And.intro @Int.natCast_nonneg<|And.intro @true_and<|And.intro @and_true<|And.intro @not_false_eq_true<|And.intro @not_true_eq_false<|And.intro @ne_eq.{1}<|And.intro @List.map_nil.{0,0}<|And.intro @List.map_cons.{0,0}<|And.intro @beq_self_eq_true.{0}<|And.intro @implies_true.{0}<|@Bool.true_eq_false
open Go.ChangeAt Go.ChangeShapes Go.RowKit Go.WideElems Go.WideShapes
mutual
def blk {H:Type}:DataW H→Nat
 | .lit (.string bytes)=>bytes.length+1
 | .lit _=>1
 | .nil=>1
 | .ptr d=>blk d+1
 | .slice elems spare=>Ye elems+Ye spare+1
 | .agg parts=>Ye parts+1
 | .iface _ d=>blk d+1
 | .map entries=>zmo entries+1
 | .held _=>1
def Ye {H:Type}:List (DataW H)→Nat
 | []=>0
 | d::r=>blk d+Ye r
def zmo {H:Type}:List (Lit×DataW H)→Nat
 | []=>0
 | x::r=>zkH x+zmo r
def zkH {H:Type}:Lit×DataW H→Nat
 | (.string bytes,d)=>bytes.length+blk d+1
 | (_,d)=>blk d+1
end
theorem zl9 {H:Type} (d:DataW H):1≤blk d:=by
 cases d with
 | lit l=>cases l<;>simp[blk]
 | nil=>simp[blk]
 | ptr d=>simp[blk]
 | slice elems spare=>simp[blk]
 | agg parts=>simp[blk]
 | iface t d=>simp[blk]
 | map entries=>simp[blk]
 | held h=>simp[blk]
theorem zgX {H:Type} (l:List (DataW H)) (k:Nat) (h:k<l.length):Ye (l.take (k+1))=Ye (l.take k)+blk (l.getD k .nil):=by
 induction l generalizing k with
 | nil=>simp at h
 | cons d r ih =>
  cases k with
  | zero=>simp[Ye]
  | succ k =>
   simp only[zuN,Ye,List.getD_cons_succ]
   rw[ih k (by simpa using h)]
   omega
def zJ (P:Program) (m:Nat) (t:TypeId) (sz:Nat) {α:Type} (f:α→List AV) (ok:α→Prop) (g:α→Nat):Prop :=
 ∀ {H:Type} (enc:TypeId×Value→H) (W:World) (cs:List Value) (d:DataW H) (ps:List MemPlace),DataW.trod enc P W 0 (fun _=>true) true m t cs=some (d,ps) →
  (∀ n∈d.weights P t,n≤reachBytes)→∃ a,ok a∧g a≤blk d∧(f a).length=sz∧zt zfu W (f a) cs
section
variable {P:Program} {m:Nat} {t:TypeId}
theorem zJ.zero {sz:Nat} {α:Type} {f:α→List AV} {ok:α→Prop} {g:α→Nat}:zJ P 0 t sz f ok g:=fun enc W cs d ps h _=>by simp[DataW.trod] at h
theorem zJ.int {k:IntKind} (ht:P.underlying t=some (.int k)):zJ P m t 1 (fun n:Int=>[.int k n]) (fun n=>(Lit.int k n).wf=true) (fun _=>1):=by
 intro H enc W cs d ps h _
 obtain⟨n,rfl,hx,hw⟩:=DataW.trod_int ht h
 simp only[Al8] at hx
 obtain⟨rfl,rfl⟩:=hx
 exact⟨n,hw,Al4 _,rfl,zbJ (.int k n) rfl⟩
theorem zJ.bool (ht:P.underlying t=some .bool):zJ P m t 1 (fun b:Bool=>[.bool b]) (fun _=>True) (fun _=>1):=by
 intro H enc W cs d ps h _
 obtain⟨b,rfl,hx⟩:=DataW.trod_bool ht h
 simp only[Al8] at hx
 obtain⟨rfl,rfl⟩:=hx
 exact⟨b,trivial,Al4 _,rfl,zbJ (.bool b) rfl⟩
theorem zJ.str (ht:P.underlying t=some .string):zJ P m t 1 (fun s:List UInt8=>[.str s]) (fun s=>s.length≤reachBytes) (fun s=>s.length+1):=by
 intro H enc W cs d ps h hw
 obtain⟨s,rfl,hx,hs⟩:=DataW.trod_string ht h
 simp only[Al8] at hx
 obtain⟨rfl,rfl⟩:=hx
 refine⟨s.data.toList,hw _ (by simp[DataW.weights]),Al4 _,rfl,zbJ ?_ rfl⟩
 exact .str _
theorem zJ.slice {e:TypeId} {sz B:Nat} {α:Type} {f:α→List AV} {ok:α→Prop} {g:α→Nat} (ht:P.underlying t=some (.slice e)) (hB:P.bytesOf e=B) (hsz:P.cellsOf e=sz) (hpos:0<sz) (he:zJ P m e sz f ok g) :
  zJ P (m+1) t 1 (fun l:List α=>[.sl .no sz (l.map f)]) (fun l=>l.length*B≤reachBytes∧l.length≤maxLen∧∀ x∈l,ok x) (fun l=>(l.map g).sum+1):=by
 intro H enc W cs d ps h hw
 rcases DataW.trod_slice ht h with ⟨rfl,_⟩|⟨a,len,cap,elems,rest,n,hm,rfl,hx,hb,hlc,hcm,hel,hread,hspare,_⟩
 ·exact⟨[],⟨by simp,by simp,by simp⟩,by simp[zl9],rfl,zbJ (.slnil .no sz (by simp)) rfl⟩
 ·cases hm
  simp only[Al8] at hx
  obtain⟨rfl,rfl⟩:=hx
  obtain⟨hrest,hreadr⟩:=hspare rfl
  subst hsz
  have hwt:∀ y∈elems,∀ n∈y.1.weights P e,n≤reachBytes:=fun y hy n hn=>hw n (by
   simp only[DataW.weights,ht,List.mem_cons,List.mem_append]
   exact .inr (.inl (zff (List.mem_map_of_mem hy) n hn)))
  have hlenB:len*P.bytesOf e≤reachBytes:=by
   have:=hw ((elems.length+rest.length)*P.bytesOf e) (by simp[DataW.weights,ht])
   rw[hel] at this
   exact Nat.le_trans (Nat.mul_le_mul_right _ (Nat.le_add_right _ _)) this
  have each:∀ i,i<len→∃(x:α) (us:List Value),ok x∧g x≤blk ((elems.map (·.1)).getD i .nil)∧(f x).length=P.cellsOf e∧zt zfu W (f x) us∧(∀ j,j<P.cellsOf e→W.cell? (a.add (i*P.cellsOf e+j))=us[j]?)∧us.length=P.cellsOf e:=by
   intro i hi
   have h1:=hread i hi
   have hi':i<elems.length:=by omega
   rw[Al9 hi',Option.bind_eq_some_iff] at h1
   obtain⟨us,hus,hd⟩:=h1
   obtain⟨x,hx1,hxg,hx2,hx3⟩:=he enc W us elems[i].1 elems[i].2 hd (hwt _ (List.getElem_mem hi'))
   obtain⟨_,hl,hc⟩:=World.cells?_some hus
   refine⟨x,us,hx1,by simpa[hi'] using hxg,hx2,hx3,fun j hj=>?_,hl⟩
   have:=hc j hj
   rwa [addr_add_add] at this
  rcases Nat.eq_zero_or_pos cap with hc0|hcpos
  ·have hl0:len=0:=by omega
   subst hl0;subst hc0
   exact⟨[],⟨by simp,by simp,by simp⟩,by simp[zl9],rfl,zbJ (.sl0 .no _ a (.inl rfl)) rfl⟩
  ·-- some cell is read: the address is plain
   have hspot:a.spot=none:=by
    have h1:∃ us,W.cells? 0 (a.add 0) (P.cellsOf e)=some us:=by
     rcases Nat.eq_zero_or_pos len with hl0|hlpos
     ·have h2:=hreadr 0 (by omega)
      rw[Al9 (by omega),Option.bind_eq_some_iff] at h2
      obtain⟨us,h3,_⟩:=h2
      rw[hl0] at h3
      simp only[Nat.add_zero,Nat.zero_mul] at h3
      exact⟨us,h3⟩
     ·have h2:=hread 0 hlpos
      rw[Al9 (by omega),Option.bind_eq_some_iff] at h2
      obtain⟨us,h3,_⟩:=h2
      simp only[Nat.zero_mul] at h3
      exact⟨us,h3⟩
    obtain⟨us,h1⟩:=h1
    obtain⟨_,hl,hc⟩:=World.cells?_some h1
    have h3:=hc 0 hpos
    have e0:(a.add 0).add 0=a:=rfl
    rw[e0] at h3
    have h4:(W.cell? a).isSome=true:=by rw[h3,Al9 (by omega)];rfl
    unfold World.cell? at h4
    split at h4
    ·split at h4
     ·cases h4
     ·rename_i hs
      cases h5:a.spot with
      | none=>rfl
      | some s=>simp[h5] at hs
    ·cases h4
   obtain⟨b,off,spot⟩:=a
   simp only at hspot
   subst hspot
   have hchoose:∀ k,k≤len→∃ l:List α,l.length=k∧(l.map g).sum≤Ye ((elems.map (·.1)).take k)∧∀ i x,l[i]?=some x→ok x∧(f x).length=P.cellsOf e∧∃ us:List Value,zt zfu W (f x) us∧(∀ j,j<P.cellsOf e→W.cell? (Addr.add ⟨b,off,none⟩ (i*P.cellsOf e+j))=us[j]?)∧us.length=P.cellsOf e:=by
    intro k
    induction k with
    | zero=>intro _;exact⟨[],rfl,by simp,by simp⟩
    | succ k ih =>
     intro hk
     obtain⟨l,hl,hsum,hp⟩:=ih (by omega)
     obtain⟨x,us,h1,hgx,h2,h3,h4,h5⟩:=each k (by omega)
     refine⟨l++[x],by simp[hl],?_,fun i y hy=>?_⟩
     ·rw[List.map_append,List.sum_append,zgX _ k (by simp;omega)]
      simp only[List.map_cons,List.map_nil,List.sum_cons,List.sum_nil]
      omega
     rcases Nat.lt_or_ge i l.length with hi|hi
     ·rw[zcC hi] at hy;exact hp i y hy
     ·rw[zeM hi] at hy
      have:i=l.length:=by
       rcases Nat.lt_or_ge 0 (i-l.length) with h|h
       ·rw[List.getElem?_eq_none (by simp;omega)] at hy;cases hy
       ·omega
      subst this
      simp at hy
      subst hy
      exact⟨h1,h2,us,h3,by rw[hl];exact h4,h5⟩
   obtain⟨l,hl,hsum,hp⟩:=hchoose len (Al4 _)
   refine⟨l,⟨by rw[hl,← hB];exact hlenB,by omega,fun x hx=>?_⟩,?_,rfl,zbJ ?_ rfl⟩
   ·obtain⟨i,hi⟩:=List.mem_iff_getElem?.1 hx
    exact(hp i x hi).1
   ·rw[List.take_of_length_le (by simp;omega)] at hsum
    simp only[blk];omega
   ·have hml:(l.map f).length=len:=by simp[hl]
    rw[← hml]
    refine .sl .no _ (l.map f) b off cap (fun i j=>(W.cell? ⟨b,off+(i*P.cellsOf e+j),none⟩).getD undef) (by omega) hcm (fun x hx=>?_) (fun i x hx j hj=>?_) (fun i x hx j c hj=>?_) trivial
    ·obtain⟨y,hy,rfl⟩:=List.mem_map.1 hx
     obtain⟨i,hi⟩:=List.mem_iff_getElem?.1 hy
     exact(hp i y hi).2.1
    ·simp only[ZX,zbt] at hx
     obtain⟨y,hy,rfl⟩:=hx
     obtain⟨_,h2,us,h3,h4,h5⟩:=hp i y hy
     have h6:=h4 j hj
     have h7:us[j]?=some us[j]:=Al9 (by omega)
     have h8:W.cell? ⟨b,off+(i*P.cellsOf e+j),none⟩=some us[j]:=by rw[← h7,← h6,addr_add]
     refine⟨by rw[h8];rfl,trivial,?_⟩
     rw[h8]
     exact h3.2.1 j _ h7
    ·simp only[ZX,zbt] at hx
     obtain⟨y,hy,rfl⟩:=hx
     obtain⟨_,h2,us,h3,h4,h5⟩:=hp i y hy
     have hj':j<P.cellsOf e:=by have:=(Yy.1 hj).1;omega
     have h6:=h4 j hj'
     have h7:us[j]?=some us[j]:=Al9 (by omega)
     have h8:W.cell? ⟨b,off+(i*P.cellsOf e+j),none⟩=some us[j]:=by rw[← h7,← h6,addr_add]
     show Rep zfu W c ((W.cell? ⟨b,off+(i*P.cellsOf e+j),none⟩).getD undef)
     rw[h8]
     exact h3.2.2 j c _ hj h7
def zD (P:Program) (m:Nat) (off:Nat) (fs:List (Nat×TypeId)) (sz:Nat) {α:Type} (f:α→List AV) (ok:α→Prop) (gg:α→Nat):Prop :=
 ∀ {H:Type} (enc:TypeId×Value→H) (W:World) (cs:List Value) (xs:List (DataW H×List MemPlace)),
  (∀(i:Nat) (g:Nat×TypeId),fs[i]?=some g→DataW.trod enc P W 0 (fun _=>true) true m g.2 ((cs.drop g.1).take (P.cellsOf g.2))=xs[i]?)→xs.length=fs.length →
  (∀ n∈DataW.weightsEach P (fs.map (·.2)) (xs.map (·.1)),n≤reachBytes)→off+sz≤cs.length→∃ a,ok a∧gg a≤Ye (xs.map (·.1))∧(f a).length=sz∧zt zfu W (f a) ((cs.drop off).take sz)
theorem zD.nil {off:Nat}:zD P m off [] 0 (fun _:Unit=>[]) (fun _=>True) (fun _=>0):=by
 intro H enc W cs xs _ _ _ _
 exact⟨(),trivial,Nat.zero_le _,rfl,rfl,by simp,by simp⟩
theorem zD.cons {off sz sz':Nat} {u:TypeId} {fs:List (Nat×TypeId)} {α β:Type} {f:α→List AV} {ok:α→Prop} {f':β→List AV} {ok':β→Prop} {g:α→Nat} {g':β→Nat} (hsz:P.cellsOf u=sz) (h:zJ P m u sz f ok g) (h':zD P m (off+sz) fs sz' f' ok' g') :
  zD P m off ((off,u)::fs) (sz+sz') (fun x:α×β=>f x.1++f' x.2) (fun x=>ok x.1∧ok' x.2) (fun x=>g x.1+g' x.2):=by
 intro H enc W cs xs hx hl hw hle
 cases xs with
 | nil=>simp at hl
 | cons y ys =>
  have h0:=hx 0 (off,u) rfl
  rw[hsz] at h0
  simp only[List.getElem?_cons_zero] at h0
  obtain⟨a,ha1,hag,ha2,ha3⟩:=h enc W _ y.1 y.2 h0 (fun n hn=>hw n (by simp only[List.map_cons,DataW.weightsEach,List.mem_append];exact .inl hn))
  obtain⟨b,hb1,hbg,hb2,hb3⟩:=h' enc W cs ys (fun i g' hg=>by have:=hx (i+1) g' (by simpa using hg);simpa using this) (by simpa using hl)
   (fun n hn=>hw n (by simp only[List.map_cons,DataW.weightsEach,List.mem_append];exact .inr hn)) (by omega)
  refine⟨(a,b),⟨ha1,hb1⟩,by simp only[List.map_cons,Ye];omega,by simp[ha2,hb2],?_⟩
  have e:(cs.drop off).take (sz+sz')=(cs.drop off).take sz++(cs.drop (off+sz)).take sz':=by
   rw[List.take_add,List.drop_drop]
  rw[e]
  exact ha3.append hb3
theorem zJ.struct {fs:List (Nat×TypeId)} {sz:Nat} {α β:Type} {f:α→List AV} {ok:α→Prop} {gg:α→Nat} (h:zD P m 0 fs sz f ok gg) (ht:flds P t=some fs) (hsz:P.cellsOf t=sz) (g:β→List AV) (ok':β→Prop) (g':β→Nat) (k:α→β) (hg:∀ a,g (k a)=f a) (hok:∀ a,ok a→ok' (k a)) (hgg:∀ a,g' (k a)≤gg a+1) :
  zJ P (m+1) t sz g ok' g':=by
 intro H enc W cs d ps hd hw
 obtain⟨gs,hgs,hfs⟩:=zhm ht
 obtain⟨xs,n,hm,hx,hl,hlen,hf⟩:=DataW.trod_struct hgs hd
 cases hm
 simp only[Al8] at hx
 obtain⟨rfl,rfl⟩:=hx
 obtain⟨a,h1,hag,h2,h3⟩:=h enc W cs xs (fun i g' hg'=>by
   rw[← hfs,ZX] at hg'
   cases hi:gs.toList[i]? with
   | none=>simp[hi] at hg'
   | some z=>simp only[hi,ZW,Al1] at hg';subst hg';exact hf i z (by simpa using hi)) (by rw[← hfs];simpa using hlen) (fun n hn=>hw n (by
   rw[← hfs,List.map_map] at hn
   simpa[DataW.weights,hgs,Function.comp_def] using hn)) (by omega)
 refine⟨k a,hok a h1,by have:=hgg a;simp only[blk];omega,by rw[hg];exact h2,?_⟩
 rw[hg]
 simp only[List.drop_zero] at h3
 rw[List.take_of_length_le (by omega)] at h3
 exact h3
theorem zJ.arg {α:Type} {f:α→AV} {ok:α→Prop} {g:α→Nat} (h:∀ m,zJ P m t 1 (fun a=>[f a]) ok g) {H:Type} {enc:TypeId×Value→H} {W:World} {v:Value} {d:DataW H} {ps:List MemPlace} (hd:DataW.Trod enc P W 0 (fun _=>true) true t v d ps)
  (hw:∀ n∈d.weights P t,n≤reachBytes) (hv:∀ cs,v≠.agg cs):∃ a,ok a∧g a≤blk d∧Rep zfu W (f a) v:=by
 obtain⟨n,hn⟩:=hd
 obtain⟨a,h1,hag,h2,h3⟩:=h n enc W _ d ps hn hw
 have hc:v.cells=#[v]:=by cases v<;>first|rfl|exact absurd rfl (hv _)
 rw[hc] at h3
 exact⟨a,h1,hag,h3.2.2 0 _ _ rfl rfl⟩
theorem zJ.argS {sz:Nat} {α:Type} {f:α→List AV} {ok:α→Prop} {g:α→Nat} (h:∀ m,zJ P m t sz f ok g) {H:Type} {enc:TypeId×Value→H} {W:World} {cs:Array Value} {d:DataW H} {ps:List MemPlace} (hd:DataW.Trod enc P W 0 (fun _=>true) true t (.agg cs) d ps)
  (hw:∀ n∈d.weights P t,n≤reachBytes):∃ a,ok a∧g a≤blk d∧Rep zfu W (.agg (f a)) (.agg cs):=by
 obtain⟨n,hn⟩:=hd
 obtain⟨a,h1,hag,h2,h3⟩:=h n enc W _ d ps hn hw
 simp only[Value.cells] at h3
 have:=Rep.agg (f a) cs.toList h3.1 h3.2.1 h3.2.2
 exact⟨a,h1,hag,by simpa using this⟩
end
end Go.Ab
namespace Go.Ab
attribute [go_sem] steps st2 pev rev oev yh yp yC yB bound zP mm2 mk zx AV.cells AV.boxable AV.one AV.strip1 AV.strip2 zO zK Nat.reduceEqDiff reduceCtorEq Nat.reduceAdd Int.reduceNeg Nat.reduceLeDiff Int.reduceToNat Int.reduceEq Int.reduceLT Int.reduceLE Int.reduceAdd
attribute [go_sem ↓] reduceIte
abbrev Io (d:Nat) (o:AOp):AItem:=⟨some d,none,o,[]⟩
abbrev Im (d s:Nat):AItem:=⟨some d,none,.mv (.t s),[]⟩
abbrev If (d k s:Nat):AItem:=⟨some d,none,.fa k (.t s),[]⟩
abbrev Il (d k s:Nat):AItem:=⟨some d,none,.ld k false (.t s),[]⟩
abbrev Jt (d g:Nat) (o:AOp):AItem:=⟨some d,some (g,true),o,[]⟩
abbrev Jf (d g:Nat) (o:AOp):AItem:=⟨some d,some (g,false),o,[]⟩
attribute [go_sem] Io Im If Il Jt Jf
abbrev Imv (d:Nat) (n:Int):AItem:=⟨some d,none,.mv (.k (.int .i64 n)),[]⟩
abbrev Imb (d:Nat) (b:Bool):AItem:=⟨some d,none,.mv (.k (.bool b)),[]⟩
abbrev Iai (d s:Nat) (n:Int):AItem:=⟨some d,none,.bi .add .i64 (.t s) (.k (.int .i64 n)),[]⟩
abbrev Iei (d s:Nat) (n:Int):AItem:=⟨some d,none,.bi .eql .i64 (.t s) (.k (.int .i64 n)),[]⟩
abbrev Igi (d s:Nat) (n:Int):AItem:=⟨some d,none,.bi .gtr .i64 (.t s) (.k (.int .i64 n)),[]⟩
abbrev Isi (d s:Nat) (n:Int):AItem:=⟨some d,none,.bi .sub .i64 (.t s) (.k (.int .i64 n)),[]⟩
abbrev Ipf (d a b:Nat):AItem:=⟨some d,none,.pick (.t a) (.t b) (.k (.bool false)),[]⟩
abbrev Ipt (d a b:Nat):AItem:=⟨some d,none,.pick (.t a) (.k (.bool true)) (.t b),[]⟩
abbrev Ilb (d k s:Nat):AItem:=⟨some d,none,.ld k true (.t s),[]⟩
abbrev Iia (d k a b:Nat):AItem:=⟨some d,none,.ia k (.t a) (.t b),[]⟩
abbrev Ilt (d a b:Nat):AItem:=⟨some d,none,.bi .lss .i64 (.t a) (.t b),[]⟩
abbrev Iap (d k n a b:Nat):AItem:=⟨some d,none,.app k n (.t a) (.t b),[]⟩
abbrev Ink (d s:Nat):AItem:=⟨some d,none,.nilchk (.t s),[]⟩
abbrev Iln (d s:Nat):AItem:=⟨some d,none,.len (.t s),[]⟩
abbrev Ils (d s:Nat):AItem:=⟨some d,none,.lens (.t s),[]⟩
abbrev Iad (d a b:Nat):AItem:=⟨some d,none,.bi .add .i64 (.t a) (.t b),[]⟩
abbrev Iex (d s k:Nat):AItem:=⟨some d,none,.ext (.t s) k,[]⟩
abbrev Ibx (d s:Nat):AItem:=⟨some d,none,.boxv (.t s),[]⟩
abbrev Ing (d s:Nat):AItem:=⟨some d,none,.not (.t s),[]⟩
abbrev Jm (d g s:Nat):AItem:=⟨some d,some (g,true),.mv (.t s),[]⟩
abbrev Jl (d g k s:Nat):AItem:=⟨some d,some (g,true),.ld k false (.t s),[]⟩
abbrev Ja (d g k s:Nat):AItem:=⟨some d,some (g,true),.fa k (.t s),[]⟩
abbrev Fm (d g s:Nat):AItem:=⟨some d,some (g,false),.mv (.t s),[]⟩
abbrev Fl (d g k s:Nat):AItem:=⟨some d,some (g,false),.ld k false (.t s),[]⟩
abbrev Fa (d g k s:Nat):AItem:=⟨some d,some (g,false),.fa k (.t s),[]⟩
abbrev AC.rg (l:List AItem):AC:=.reg [] l
attribute [go_sem] AC.rg Jm Jl Ja Fm Fl Fa Imv Imb Iai Iei Igi Isi Ipf Ipt Ilb Iia Ilt Iap Ink Iln Ils Iad Iex Ibx Ing
end Go.Ab
