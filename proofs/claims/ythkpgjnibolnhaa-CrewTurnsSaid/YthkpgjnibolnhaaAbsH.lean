/- The check that an abstract operation stands for the program's. -/
import Derived.Test.YthkpgjnibolnhaaAbsG
set_option linter.unusedSimpArgs false
set_option linter.unusedVariables false
namespace Go.Ab

def sliceElem (P : Program) (t : TypeId) : Option TypeInfo :=
  match P.underlying t with
  | some (.slice e) => P.info? e
  | _ => none

def chkOp (P : Program) (o : Oper) : AOp → Bool
  | .mv y => match o.op with
    | .move x => chkO x y
    | .assign x => chkO x y
    | _ => false
  | .pick a b c => match o.op with
    | .pick x y z => chkO x a && chkO y b && chkO z c
    | _ => false
  | .nilchk y => match o.op with
    | .nilCheck x => chkO x y
    | _ => false
  | .bi op k a b => match o.op with
    | .binOp op' _ x y _ => decide (op' = op) && decide (op ≠ .shl) && decide (op ≠ .shr) && chkO x a && chkO y b
    | _ => false
  | .shf op a b => match o.op with
    | .binOp op' _ x y _ => decide (op' = op) && chkO x a && chkO y b
    | _ => false
  | .bs op a b => match o.op with
    | .binOp op' _ x y _ => decide (op' = op) && chkO x a && chkO y b
    | _ => false
  | .bb neg a b => match o.op with
    | .binOp op' t x y _ => decide (op' = if neg then .neq else .eql) && chkO x a && chkO y b && (match P.underlying t with | some .bool => true | _ => false)
    | _ => false
  | .eqa neg ks a b => match o.op with
    | .binOp op' t x y _ => decide (op' = if neg then .neq else .eql) && chkO x a && chkO y b && (match P.underlying t with | some (.struct fs) => flatKs P fs.toList 0 ks | _ => false) && !P.stoodInHeld t && !P.eqGuardType P.depth t
    | _ => false
  | .isnil nk a => match o.op with
    | .binOp .eql t x y _ => chkO x a && nilTy nk (P.underlying t) y
    | _ => false
  | .isnn nk a => match o.op with
    | .binOp .neq t x y _ => chkO x a && nilTy nk (P.underlying t) y
    | _ => false
  | .ifnil neg a => match o.op with
    | .binOp op' t x y _ => decide (op' = if neg then .neq else .eql) && chkO x a && (match y with | .const .nilIface => true | _ => false) && isIface (P.underlying t)
    | _ => false
  | .tas t zero a => match o.op with
    | .typeAssert x _ t' true => decide (t' = t) && chkO x a && notIface (P.underlying t) && ((P.info? t).any fun ti => ti.zero.any fun z => chkC z zero)
    | _ => false
  | .ineg a => match o.op with
    | .unOp .neg _ x => chkO x a
    | _ => false
  | .not a => match o.op with
    | .unOp .not _ x => chkO x a
    | _ => false
  | .cvi k a => match o.op with
    | .convert s d x => chkO x a && (P.underlying s).isSome && (match P.underlying d with | some (.int k') => decide (k' = k) | _ => false)
    | _ => false
  | .cvid a => match o.op with
    | .convert s d x => chkO x a && (P.underlying s).isSome && (match P.underlying d with | some .string => true | _ => false)
    | _ => false
  | .cvb2s a => match o.op with
    | .convert s d x => chkO x a && (match P.underlying s with | some (.slice e) => (match P.underlying e with | some (.int .u8) => true | _ => false) | _ => false) && (match P.underlying d with | some .string => true | _ => false)
    | _ => false
  | .bld zero qs => match o.op with
    | .build t parts => ((P.info? t).any fun ti => ti.zero.any fun z => chkCs z.cells.toList zero) && ((placesB P t).any fun place => chkParts place parts.toList qs)
    | _ => false
  | .bls sz n zero qs => match o.op with
    | .buildSlice t n' parts => decide (n' = n) && ((sliceElem P t).any fun ei => decide (ei.size = sz) && ei.zero.any fun z => chkCs z.cells.toList zero) && decide (0 < sz) && decide (n * sz ≤ 2 ^ 24) && chkPartsS parts.toList qs
    | _ => false
  | .mkfn f first caps => match o.op with
    | .makeFunc (.func f') a b => decide (f' = f) && chkOs a.toList first && chkOs b.toList caps
    | _ => false
  | .ext a i => match o.op with
    | .extract x i' => decide (i' = i) && chkO x a
    | _ => false
  | .mki t a => match o.op with
    | .makeInterface t' x => decide (t' = t) && chkO x a && notIface (P.underlying t)
    | _ => false
  | .fa off a => match o.op with
    | .fieldAddr s x i => chkO x a && (match P.underlying s with
        | some (.struct fs) => (fs[i]?.any fun f => decide (f.offset = off) && (P.info? f.type).any fun fi => decide (fi.size ≠ 0))
        | _ => false)
    | _ => false
  | .fld off n ag a => match o.op with
    | .field t x i => chkO x a && (match P.underlying t with
        | some (.struct fs) => (fs[i]?.any fun f => decide (f.offset = off) && ((P.info? f.type).any fun fi => decide (fi.size = n)) && (P.underlying f.type).isSome && decide (isAggD (P.underlying f.type) = ag) && (ag || decide (n = 1)))
        | _ => false)
    | _ => false
  | .ia sz a i => match o.op with
    | .indexAddr t x y => chkO x a && chkO y i && ((sliceElem P t).any fun ei => decide (ei.size = sz))
    | _ => false
  | .ixs a i => match o.op with
    | .index t x y => chkO x a && chkO y i && (match P.underlying t with | some .string => true | _ => false)
    | _ => false
  | .sls a lo hi => match o.op with
    | .slice t x l h none => chkO x a && chkOo l lo && chkOo h hi && (match P.underlying t with | some .string => true | _ => false)
    | _ => false
  | .sll sz a lo hi mx => match o.op with
    | .slice t x l h m => chkO x a && chkOo l lo && chkOo h hi && chkOo m mx && (!mx.isSome || hi.isSome) && ((sliceElem P t).any fun ei => decide (ei.size = sz))
    | _ => false
  | .sllx sz a hi => match o.op with
    | .slice t x none (some h) none => chkO x a && chkO h hi && ((sliceElem P t).any fun ei => decide (ei.size = sz))
    | _ => false
  | .len a => match o.op with
    | .call { callee := .builtin .len, args := as, argTypes := ts } => match as.toList with
      | [x] => chkO x a && (ts[0]?.any fun t => match P.underlying t with | some (.slice _) => true | _ => false)
      | _ => false
    | _ => false
  | .lens a => match o.op with
    | .call { callee := .builtin .len, args := as, argTypes := ts } => match as.toList with
      | [x] => chkO x a && (ts[0]?.any fun t => match P.underlying t with | some .string => true | _ => false)
      | _ => false
    | _ => false
  | .lenm a => match o.op with
    | .call { callee := .builtin .len, args := as, argTypes := ts } => match as.toList with
      | [x] => chkO x a && (ts[0]?.any fun t => match P.underlying t with | some (.map _ _) => true | _ => false)
      | _ => false
    | _ => false
  | .mm mx a ys => match o.op with
    | .call { callee := .builtin b, args := args, argTypes := _ } => decide (b = if mx then .max else .min) && (match args.toList with | x :: r => chkO x a && chkOs r ys | [] => false)
    | _ => false
  | .boxv a => match o.op with
    | .box _ x => chkO x a
    | _ => false
  | .ld n ag a => match o.op with
    | .load t x => chkO x a && ((P.info? t).any fun ti => decide (ti.size = n)) && (P.underlying t).isSome && decide (isAggD (P.underlying t) = ag) && (ag || decide (n = 1))
    | _ => false
  | .lkp kt zero ok m k => match o.op with
    | .lookup t m' k' ok' => decide (ok' = ok) && chkO m' m && chkO k' k && (match P.underlying t with
        | some (.map key elem) => keyTy P key kt && (P.underlying key).isSome && ((P.info? elem).any fun ei => ei.zero.any fun z => chkC z zero)
        | _ => false)
    | _ => false
  | .alloc zero => match o.op with
    | .alloc t => ((P.info? t).any fun ti => ti.zero.any fun z => chkCs z.cells.toList zero)
    | _ => false
  | .box a => match o.op with
    | .box _ x => chkO x a
    | _ => false
  | .mkm _ => match o.op with
    | .makeMap _ none => true
    | _ => false
  | .st n a b => match o.op with
    | .store t x y => chkO x a && chkO y b && ((P.info? t).any fun ti => decide (ti.size = n))
    | _ => false
  | .mup kt m k v => match o.op with
    | .mapUpdate t m' k' v' => chkO m' m && chkO k' k && chkO v' v && (match P.underlying t with | some (.map key _) => keyTy P key kt && (P.underlying key).isSome | _ => false)
    | .insert t m' k' v' => chkO m' m && chkO k' k && chkO v' v && (match P.underlying t with | some (.map key _) => keyTy P key kt && (P.underlying key).isSome | _ => false)
    | _ => false
  | .app sz bytes a b => match o.op with
    | .call { callee := .builtin .append, args := as, argTypes := ts } => match as.toList, ts.toList with
      | [x, y], [t, tx] => chkO x a && chkO y b && ((sliceElem P t).any fun ei => decide (ei.size = sz) && decide (ei.bytes = bytes) && ei.zero.any fun z => decide (z.cells.size = sz)) && decide (0 < sz) && (match P.underlying tx with | some (.slice _) => true | _ => false)
      | _, _ => false
    | _ => false
  | .appm sz bytes zero a b => match o.op with
    | .call { callee := .builtin .append, args := as, argTypes := ts } => match as.toList, ts.toList with
      | [x, y], [t, tx] => chkO x a && chkO y b && ((sliceElem P t).any fun ei => decide (ei.size = sz) && decide (ei.bytes = bytes) && ei.zero.any fun z => decide (z.cells.size = sz) && chkCs z.cells.toList zero) && decide (0 < sz) && (match P.underlying tx with | some (.slice _) => true | _ => false)
      | _, _ => false
    | _ => false
  | .frz _ y => match o.op with
    | .move x => chkO x y
    | .assign x => chkO x y
    | _ => false
  | .blsm sz n zero qs => match o.op with
    | .buildSlice t n' parts => decide (n' = n) && ((sliceElem P t).any fun ei => decide (ei.size = sz) && ei.zero.any fun z => chkCs z.cells.toList zero) && decide (0 < sz) && decide (n * sz ≤ 2 ^ 24) && chkPartsS parts.toList qs
    | _ => false
  | .apps a b => match o.op with
    | .call { callee := .builtin .append, args := as, argTypes := ts } => match as.toList, ts.toList with
      | [x, y], [t, tx] => chkO x a && chkO y b && ((sliceElem P t).any fun ei => decide (ei.size = 1) && decide (ei.bytes = 1) && ei.zero.any fun z => decide (z.cells.size = 1)) && (match P.underlying tx with | some .string => true | _ => false)
      | _, _ => false
    | _ => false
  | .mks sz bytes n => match o.op with
    | .makeSlice t x y => chkO x (.k (.int .i64 0)) && chkO y n && ((sliceElem P t).any fun ei => decide (ei.size = sz) && decide (ei.bytes = bytes) && ei.zero.isSome)
    | _ => false
  | .mksn zero bytes n => match o.op with
    | .makeSlice t x y => chkO x n && chkO y n && ((sliceElem P t).any fun ei => decide (ei.bytes = bytes) && decide (0 < ei.size) && ei.zero.any fun z => chkCs z.cells.toList zero && decide (z.cells.size = ei.size))
    | _ => false
  | .call f args => match o.op with
    | .call { callee := .value (.func f'), args := as, argTypes := _ } => decide (f' = f) && chkOs as.toList args && Program.callable P f
    | _ => false
  | .callv g args => match o.op with
    | .call { callee := .value g', args := as, argTypes := _ } => chkO g' g && chkOs as.toList args
    | _ => false
  | .pan a => match o.op with
    | .panic x => chkO x a
    | _ => false

theorem sliceElem_some {P : Program} {t : TypeId} {ei : TypeInfo} (h : sliceElem P t = some ei) : ∃ e, P.underlying t = some (.slice e) ∧ P.info? e = some ei := by
  unfold sliceElem at h
  split at h
  · rename_i e he; exact ⟨e, he, h⟩
  · cases h

theorem any_some {α : Type} {x : Option α} {p : α → Bool} (h : x.any p = true) : ∃ y, x = some y ∧ p y = true := by
  cases x with
  | none => simp at h
  | some y => exact ⟨y, rfl, by simpa using h⟩

theorem arr_of {α : Type} {a : Array α} {l : List α} (h : a.toList = l) : a = l.toArray := by
  apply Array.ext'; simpa using h

theorem chkOp_sound {P : Program} {o : Oper} {ao : AOp} (h : chkOp P o ao = true) : OpOk P o ao := by
  cases ao with
  | mv y =>
    simp only [chkOp] at h
    split at h
    · rename_i ho; exact ok_of_pure rfl (mv_ok (.inl ho) h)
    · rename_i ho; exact ok_of_pure rfl (mv_ok (.inr ho) h)
    · cases h
  | pick a b c =>
    simp only [chkOp] at h
    split at h
    · rename_i ho; simp only [Bool.and_eq_true] at h; exact ok_of_pure rfl (pick_ok ho h.1.1 h.1.2 h.2)
    · cases h
  | nilchk y =>
    simp only [chkOp] at h
    split at h
    · rename_i ho; exact ok_of_pure rfl (nilchk_ok ho h)
    · cases h
  | bi op k a b =>
    simp only [chkOp] at h
    split at h
    · rename_i ho
      simp only [Bool.and_eq_true, decide_eq_true_eq] at h
      obtain ⟨⟨⟨⟨rfl, h1⟩, h2⟩, h3⟩, h4⟩ := h
      exact ok_of_pure rfl (bi_ok ho h3 h4 h1 h2)
    · cases h
  | shf op a b =>
    simp only [chkOp] at h
    split at h
    · rename_i ho
      simp only [Bool.and_eq_true, decide_eq_true_eq] at h
      obtain ⟨⟨rfl, h3⟩, h4⟩ := h
      exact ok_of_pure rfl (shf_ok ho h3 h4)
    · cases h
  | bs op a b =>
    simp only [chkOp] at h
    split at h
    · rename_i ho
      simp only [Bool.and_eq_true, decide_eq_true_eq] at h
      obtain ⟨⟨rfl, h3⟩, h4⟩ := h
      exact ok_of_pure rfl (bs_ok ho h3 h4)
    · cases h
  | bb neg a b =>
    simp only [chkOp] at h
    split at h
    · rename_i ho
      simp only [Bool.and_eq_true, decide_eq_true_eq] at h
      obtain ⟨⟨⟨h1, h3⟩, h4⟩, h5⟩ := h
      split at h5
      · rename_i ht; exact ok_of_pure rfl (bb_ok ho h3 h4 h1 ht)
      · cases h5
    · cases h
  | eqa neg ks a b =>
    simp only [chkOp] at h
    split at h
    · rename_i ho
      simp only [Bool.and_eq_true, decide_eq_true_eq, Bool.not_eq_true'] at h
      obtain ⟨⟨⟨⟨⟨h1, h3⟩, h4⟩, h5⟩, h6⟩, h7⟩ := h
      split at h5
      · rename_i ht; exact ok_of_pure rfl (eqa_ok ho h3 h4 h1 ht h5 h6 h7)
      · cases h5
    · cases h
  | isnil nk a =>
    simp only [chkOp] at h
    split at h
    · rename_i ho
      simp only [Bool.and_eq_true] at h
      exact ok_of_pure rfl (isnil_ok ho h.1 h.2)
    · cases h
  | isnn nk a =>
    simp only [chkOp] at h
    split at h
    · rename_i ho
      simp only [Bool.and_eq_true] at h
      exact ok_of_pure rfl (isnn_ok ho h.1 h.2)
    · cases h
  | ifnil neg a =>
    simp only [chkOp] at h
    split at h
    · rename_i ho
      simp only [Bool.and_eq_true, decide_eq_true_eq] at h
      obtain ⟨⟨⟨h1, h2⟩, h3⟩, h4⟩ := h
      split at h3
      · exact ok_of_pure rfl (ifnil_ok ho h1 h2 rfl h4)
      · cases h3
    · cases h
  | tas t zero a =>
    simp only [chkOp] at h
    split at h
    · rename_i ho
      simp only [Bool.and_eq_true, decide_eq_true_eq] at h
      obtain ⟨⟨⟨h1, h2⟩, h3⟩, h4⟩ := h
      obtain ⟨ti, hti, h5⟩ := any_some h4
      obtain ⟨z, hz, h6⟩ := any_some h5
      subst h1
      exact ok_of_pure rfl (tas_ok ho h2 h3 hti hz h6)
    · cases h
  | ineg a =>
    simp only [chkOp] at h
    split at h
    · rename_i ho; exact ok_of_pure rfl (ineg_ok ho h)
    · cases h
  | not a =>
    simp only [chkOp] at h
    split at h
    · rename_i ho; exact ok_of_pure rfl (not_ok ho h)
    · cases h
  | cvi k a =>
    simp only [chkOp] at h
    split at h
    · rename_i ho
      simp only [Bool.and_eq_true] at h
      obtain ⟨⟨h1, h2⟩, h3⟩ := h
      obtain ⟨ds, hds⟩ := Option.isSome_iff_exists.1 h2
      split at h3
      · rename_i hd; simp only [decide_eq_true_eq] at h3; subst h3; exact ok_of_pure rfl (cvi_ok ho h1 hds hd)
      · cases h3
    · cases h
  | cvid a =>
    simp only [chkOp] at h
    split at h
    · rename_i ho
      simp only [Bool.and_eq_true] at h
      obtain ⟨⟨h1, h2⟩, h3⟩ := h
      obtain ⟨ds, hds⟩ := Option.isSome_iff_exists.1 h2
      split at h3
      · rename_i hd; exact ok_of_pure rfl (cvid_ok ho h1 hds hd)
      · cases h3
    · cases h
  | cvb2s a =>
    simp only [chkOp] at h
    split at h
    · rename_i ho
      simp only [Bool.and_eq_true] at h
      obtain ⟨⟨h1, h2⟩, h3⟩ := h
      split at h2
      · rename_i e he
        split at h2
        · rename_i he8
          split at h3
          · rename_i hd; exact ok_of_pure rfl (cvb2s_ok ho h1 he he8 hd)
          · cases h3
        · cases h2
      · cases h2
    · cases h
  | bld zero qs =>
    simp only [chkOp] at h
    split at h
    · rename_i ho
      simp only [Bool.and_eq_true] at h
      obtain ⟨h1, h2⟩ := h
      obtain ⟨ti, hti, h1⟩ := any_some h1
      obtain ⟨z, hz, h1⟩ := any_some h1
      obtain ⟨pl, hpl, h2⟩ := any_some h2
      exact ok_of_pure rfl (bld_ok ho hti hz h1 hpl h2)
    · cases h
  | bls sz n zero qs =>
    simp only [chkOp] at h
    split at h
    · rename_i ho
      simp only [Bool.and_eq_true, decide_eq_true_eq] at h
      obtain ⟨⟨⟨⟨rfl, h1⟩, h2⟩, h3⟩, h4⟩ := h
      obtain ⟨ei, hei, h1⟩ := any_some h1
      simp only [Bool.and_eq_true, decide_eq_true_eq] at h1
      obtain ⟨h1, h5⟩ := h1
      obtain ⟨z, hz, h5⟩ := any_some h5
      obtain ⟨e, he, hi⟩ := sliceElem_some hei
      exact ok_of_pure rfl (bls_ok ho he hi hz h1 h2 h3 h5 h4)
    · cases h
  | mkfn f first caps =>
    simp only [chkOp] at h
    split at h
    · rename_i ho
      simp only [Bool.and_eq_true, decide_eq_true_eq] at h
      obtain ⟨⟨rfl, h1⟩, h2⟩ := h
      exact ok_of_pure rfl (mkfn_ok ho h1 h2)
    · cases h
  | ext a i =>
    simp only [chkOp] at h
    split at h
    · rename_i ho
      simp only [Bool.and_eq_true, decide_eq_true_eq] at h
      obtain ⟨rfl, h1⟩ := h
      exact ok_of_pure rfl (ext_ok ho h1)
    · cases h
  | mki t a =>
    simp only [chkOp] at h
    split at h
    · rename_i ho
      simp only [Bool.and_eq_true, decide_eq_true_eq] at h
      obtain ⟨⟨rfl, h1⟩, h2⟩ := h
      exact ok_of_pure rfl (mki_ok ho h1 h2)
    · cases h
  | fa off a =>
    simp only [chkOp] at h
    split at h
    · rename_i ho
      simp only [Bool.and_eq_true] at h
      obtain ⟨h1, h2⟩ := h
      split at h2
      · rename_i fs hfs
        obtain ⟨f, hf, h2⟩ := any_some h2
        simp only [Bool.and_eq_true, decide_eq_true_eq] at h2
        obtain ⟨h2, h3⟩ := h2
        obtain ⟨fi, hfi, h3⟩ := any_some h3
        exact ok_of_pure rfl (fa_ok ho h1 hfs hf h2 hfi (by simpa using h3))
      · cases h2
    · cases h
  | fld off n ag a =>
    simp only [chkOp] at h
    split at h
    · rename_i ho
      simp only [Bool.and_eq_true] at h
      obtain ⟨h1, h2⟩ := h
      split at h2
      · rename_i fs hfs
        obtain ⟨f, hf, h2⟩ := any_some h2
        simp only [Bool.and_eq_true, decide_eq_true_eq, Bool.or_eq_true] at h2
        obtain ⟨⟨⟨⟨h2, h3⟩, h4⟩, h5⟩, h6⟩ := h2
        obtain ⟨fi, hfi, h3⟩ := any_some h3
        obtain ⟨d, hd⟩ := Option.isSome_iff_exists.1 h4
        exact ok_of_pure rfl (fld_ok ho h1 hfs hf h2 hfi (by simpa using h3) hd h5 h6)
      · cases h2
    · cases h
  | ia sz a i =>
    simp only [chkOp] at h
    split at h
    · rename_i ho
      simp only [Bool.and_eq_true] at h
      obtain ⟨⟨h1, h2⟩, h3⟩ := h
      obtain ⟨ei, hei, h3⟩ := any_some h3
      obtain ⟨e, he, hi⟩ := sliceElem_some hei
      exact ok_of_pure rfl (ia_ok ho h1 h2 he hi (by simpa using h3))
    · cases h
  | ixs a i =>
    simp only [chkOp] at h
    split at h
    · rename_i ho
      simp only [Bool.and_eq_true] at h
      obtain ⟨⟨h1, h2⟩, h3⟩ := h
      split at h3
      · rename_i ht; exact ok_of_pure rfl (ixs_ok ho h1 h2 ht)
      · cases h3
    · cases h
  | sls a lo hi =>
    simp only [chkOp] at h
    split at h
    · rename_i ho
      simp only [Bool.and_eq_true] at h
      obtain ⟨⟨⟨h1, h2⟩, h3⟩, h4⟩ := h
      split at h4
      · rename_i ht; exact ok_of_pure rfl (sls_ok ho h1 h2 h3 ht)
      · cases h4
    · cases h
  | sll sz a lo hi mx =>
    simp only [chkOp] at h
    split at h
    · rename_i ho
      simp only [Bool.and_eq_true, Bool.or_eq_true, Bool.not_eq_true'] at h
      obtain ⟨⟨⟨⟨⟨h1, h2⟩, h3⟩, h4⟩, h5⟩, h6⟩ := h
      obtain ⟨ei, hei, h6⟩ := any_some h6
      obtain ⟨e, he, hi⟩ := sliceElem_some hei
      exact ok_of_pure rfl (sll_ok ho h1 h2 h3 h4 (fun hs => by rcases h5 with h5 | h5 <;> simp_all) he hi (by simpa using h6))
    · cases h
  | sllx sz a hi =>
    simp only [chkOp] at h
    split at h
    · rename_i ho
      simp only [Bool.and_eq_true] at h
      obtain ⟨⟨h1, h2⟩, h6⟩ := h
      obtain ⟨ei, hei, h6⟩ := any_some h6
      obtain ⟨e, he, hi⟩ := sliceElem_some hei
      exact ok_of_pure rfl (sllx_ok ho h1 h2 he hi (by simpa using h6))
    · cases h
  | len a =>
    simp only [chkOp] at h
    split at h
    · rename_i ho
      split at h
      · rename_i hl
        simp only [Bool.and_eq_true] at h
        obtain ⟨h1, h2⟩ := h
        obtain ⟨t, ht, h2⟩ := any_some h2
        split at h2
        · rename_i hu; exact ok_of_pure rfl (len_ok (by rw [ho, arr_of hl]) ht h1 hu)
        · cases h2
      · cases h
    · cases h
  | lens a =>
    simp only [chkOp] at h
    split at h
    · rename_i ho
      split at h
      · rename_i hl
        simp only [Bool.and_eq_true] at h
        obtain ⟨h1, h2⟩ := h
        obtain ⟨t, ht, h2⟩ := any_some h2
        split at h2
        · rename_i hu; exact ok_of_pure rfl (lens_ok (by rw [ho, arr_of hl]) ht h1 hu)
        · cases h2
      · cases h
    · cases h
  | lenm a =>
    simp only [chkOp] at h
    split at h
    · rename_i ho
      split at h
      · rename_i hl
        simp only [Bool.and_eq_true] at h
        obtain ⟨h1, h2⟩ := h
        obtain ⟨t, ht, h2⟩ := any_some h2
        split at h2
        · rename_i hu; exact ok_of_read rfl (lenm_ok (by rw [ho, arr_of hl]) ht h1 hu)
        · cases h2
      · cases h
    · cases h
  | mm mx a ys =>
    simp only [chkOp] at h
    split at h
    · rename_i ho
      simp only [Bool.and_eq_true, decide_eq_true_eq] at h
      obtain ⟨rfl, h2⟩ := h
      split at h2
      · rename_i ha
        simp only [Bool.and_eq_true] at h2
        exact ok_of_pure rfl (mm_ok ho ha h2.1 h2.2)
      · cases h2
    · cases h
  | boxv a =>
    simp only [chkOp] at h
    split at h
    · rename_i ho; exact ok_of_pure rfl (boxv_ok ho h)
    · cases h
  | ld n ag a =>
    simp only [chkOp] at h
    split at h
    · rename_i ho
      simp only [Bool.and_eq_true, decide_eq_true_eq, Bool.or_eq_true] at h
      obtain ⟨⟨⟨⟨h1, h3⟩, h4⟩, h5⟩, h6⟩ := h
      obtain ⟨ti, hti, h3⟩ := any_some h3
      obtain ⟨d, hd⟩ := Option.isSome_iff_exists.1 h4
      exact ok_of_read rfl (ld_ok ho h1 hti (by simpa using h3) hd h5 h6)
    · cases h
  | lkp kt zero ok m k =>
    simp only [chkOp] at h
    split at h
    · rename_i ho
      simp only [Bool.and_eq_true, decide_eq_true_eq] at h
      obtain ⟨⟨⟨rfl, h1⟩, h2⟩, h3⟩ := h
      split at h3
      · rename_i ht
        simp only [Bool.and_eq_true] at h3
        obtain ⟨⟨h3, h4⟩, h5⟩ := h3
        obtain ⟨d, hd⟩ := Option.isSome_iff_exists.1 h4
        obtain ⟨ei, hei, h5⟩ := any_some h5
        obtain ⟨z, hz, h5⟩ := any_some h5
        exact ok_of_read rfl (lkp_ok ho h1 h2 ht h3 hd hei hz h5)
      · cases h3
    · cases h
  | alloc zero =>
    simp only [chkOp] at h
    split at h
    · rename_i ho
      obtain ⟨ti, hti, h⟩ := any_some h
      obtain ⟨z, hz, h⟩ := any_some h
      exact alloc_ok ho hti hz h
    · cases h
  | box a =>
    simp only [chkOp] at h
    split at h
    · rename_i ho; exact box_ok ho h
    · cases h
  | mkm kt =>
    simp only [chkOp] at h
    split at h
    · rename_i ho; exact mkm_ok ho
    · cases h
  | st n a b =>
    simp only [chkOp] at h
    split at h
    · rename_i ho
      simp only [Bool.and_eq_true] at h
      obtain ⟨⟨h1, h2⟩, h3⟩ := h
      obtain ⟨ti, hti, h3⟩ := any_some h3
      exact st_ok ho h1 h2 hti (by simpa using h3)
    · cases h
  | mup kt m k v =>
    simp only [chkOp] at h
    split at h
    · rename_i ho
      simp only [Bool.and_eq_true] at h
      obtain ⟨⟨⟨h1, h2⟩, h3⟩, h4⟩ := h
      split at h4
      · rename_i ht
        simp only [Bool.and_eq_true] at h4
        obtain ⟨d, hd⟩ := Option.isSome_iff_exists.1 h4.2
        exact mup_ok (.inl ho) h1 h2 h3 ht h4.1 hd
      · cases h4
    · rename_i ho
      simp only [Bool.and_eq_true] at h
      obtain ⟨⟨⟨h1, h2⟩, h3⟩, h4⟩ := h
      split at h4
      · rename_i ht
        simp only [Bool.and_eq_true] at h4
        obtain ⟨d, hd⟩ := Option.isSome_iff_exists.1 h4.2
        exact mup_ok (.inr ho) h1 h2 h3 ht h4.1 hd
      · cases h4
    · cases h
  | blsm sz n zero qs =>
    simp only [chkOp] at h
    split at h
    · rename_i ho
      simp only [Bool.and_eq_true, decide_eq_true_eq] at h
      obtain ⟨⟨⟨⟨rfl, h1⟩, h2⟩, h3⟩, h4⟩ := h
      obtain ⟨ei, hei, h1⟩ := any_some h1
      simp only [Bool.and_eq_true, decide_eq_true_eq] at h1
      obtain ⟨h1, h5⟩ := h1
      obtain ⟨z, hz, h5⟩ := any_some h5
      obtain ⟨e, he, hi⟩ := sliceElem_some hei
      exact blsm_ok ho he hi hz h1 h2 h3 h5 h4
    · cases h
  | frz sz y =>
    simp only [chkOp] at h
    split at h
    · rename_i ho; exact frz_ok (.inl ho) h
    · rename_i ho; exact frz_ok (.inr ho) h
    · cases h
  | appm sz bytes zero a b =>
    simp only [chkOp] at h
    split at h
    · rename_i ho
      split at h
      · rename_i hl1 hl2
        simp only [Bool.and_eq_true, decide_eq_true_eq] at h
        obtain ⟨⟨⟨⟨h1, h2⟩, h3⟩, h4⟩, h5⟩ := h
        obtain ⟨ei, hei, h3⟩ := any_some h3
        simp only [Bool.and_eq_true, decide_eq_true_eq] at h3
        obtain ⟨⟨h3, h6⟩, h7⟩ := h3
        obtain ⟨z, hz, h7⟩ := any_some h7
        simp only [Bool.and_eq_true, decide_eq_true_eq] at h7
        obtain ⟨e, he, hi⟩ := sliceElem_some hei
        split at h5
        · rename_i htx
          exact appm_ok (by rw [ho, arr_of hl1, arr_of hl2]) h1 h2 he htx hi hz h3 h6 h7.1 h4 h7.2
        · cases h5
      · cases h
    · cases h
  | app sz bytes a b =>
    simp only [chkOp] at h
    split at h
    · rename_i ho
      split at h
      · rename_i hl1 hl2
        simp only [Bool.and_eq_true, decide_eq_true_eq] at h
        obtain ⟨⟨⟨⟨h1, h2⟩, h3⟩, h4⟩, h5⟩ := h
        obtain ⟨ei, hei, h3⟩ := any_some h3
        simp only [Bool.and_eq_true, decide_eq_true_eq] at h3
        obtain ⟨⟨h3, h6⟩, h7⟩ := h3
        obtain ⟨z, hz, h7⟩ := any_some h7
        obtain ⟨e, he, hi⟩ := sliceElem_some hei
        split at h5
        · rename_i htx
          exact app_ok (by rw [ho, arr_of hl1, arr_of hl2]) h1 h2 he htx hi hz h3 h6 (by simpa using h7) h4
        · cases h5
      · cases h
    · cases h
  | apps a b =>
    simp only [chkOp] at h
    split at h
    · rename_i ho
      split at h
      · rename_i hl1 hl2
        simp only [Bool.and_eq_true] at h
        obtain ⟨⟨⟨h1, h2⟩, h3⟩, h5⟩ := h
        obtain ⟨ei, hei, h3⟩ := any_some h3
        simp only [Bool.and_eq_true, decide_eq_true_eq] at h3
        obtain ⟨⟨h3, h6⟩, h7⟩ := h3
        obtain ⟨z, hz, h7⟩ := any_some h7
        obtain ⟨e, he, hi⟩ := sliceElem_some hei
        split at h5
        · rename_i htx
          exact apps_ok (by rw [ho, arr_of hl1, arr_of hl2]) h1 h2 he htx hi hz h3 h6 (by simpa using h7)
        · cases h5
      · cases h
    · cases h
  | mks sz bytes n =>
    simp only [chkOp] at h
    split at h
    · rename_i ho
      simp only [Bool.and_eq_true] at h
      obtain ⟨⟨h1, h2⟩, h3⟩ := h
      obtain ⟨ei, hei, h3⟩ := any_some h3
      simp only [Bool.and_eq_true, decide_eq_true_eq] at h3
      obtain ⟨⟨rfl, rfl⟩, h7⟩ := h3
      obtain ⟨z, hz⟩ := Option.isSome_iff_exists.1 h7
      obtain ⟨e, he, hi⟩ := sliceElem_some hei
      exact mks_ok ho h1 h2 he hi hz
    · cases h
  | mksn zero bytes n =>
    simp only [chkOp] at h
    split at h
    · rename_i ho
      simp only [Bool.and_eq_true] at h
      obtain ⟨⟨h1, h2⟩, h3⟩ := h
      obtain ⟨ei, hei, h3⟩ := any_some h3
      simp only [Bool.and_eq_true, decide_eq_true_eq] at h3
      obtain ⟨⟨rfl, h0⟩, h7⟩ := h3
      obtain ⟨z, hz, h7⟩ := any_some h7
      simp only [Bool.and_eq_true, decide_eq_true_eq] at h7
      obtain ⟨e, he, hi⟩ := sliceElem_some hei
      exact mksn_ok ho h1 h2 he hi hz h7.1 h7.2 h0
    · cases h
  | call f args =>
    simp only [chkOp] at h
    split at h
    · rename_i ho
      simp only [Bool.and_eq_true, decide_eq_true_eq] at h
      obtain ⟨⟨rfl, h1⟩, h2⟩ := h
      exact call_ok ho h1 h2
    · cases h
  | callv g args =>
    simp only [chkOp] at h
    split at h
    · rename_i ho
      simp only [Bool.and_eq_true] at h
      exact callv_ok ho h.1 h.2
    · cases h
  | pan a =>
    simp only [chkOp] at h
    split at h
    · rename_i ho; exact pan_ok ho h
    · cases h

end Go.Ab
