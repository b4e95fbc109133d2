/- Each abstract operation that hangs on its operands alone is what the program's operation does. -/
import Derived.Test.YthkpgjnibolnhaaAbsC
set_option linter.unusedSimpArgs false
set_option linter.unusedVariables false
namespace Go.Ab

structure EnvRel (γ : Gh) (w : World) (ρ : Env) (tmps : Array Value) : Prop where
  tab : TabOk γ w
  rep : ∀ n, Rep γ w (ρ n) (tmps.getD n undef)

theorem EnvRel.mono {γ γ' : Gh} {w w' : World} (m : Mono γ w γ' w') {ρ : Env} {tmps : Array Value} (h : EnvRel γ w ρ tmps) : EnvRel γ' w' ρ tmps := ⟨h.tab.mono m, fun n => (h.rep n).mono m⟩

def chkC1 : Value → AV → Bool
  | .bool b, .bool b' => b == b'
  | .int k n, .int k' n' => decide (k = k') && decide (n = n')
  | .string s, .str l => s.data.toList == l
  | .slice none 0 0, .sl .nil _ [] => true
  | .pointer none, .nilp => true
  | .map none, .nilm => true
  | .nilFunc, .oth .nilFunc => true
  | .nilIface, .oth .nilIface => true
  | _, _ => false

def chkCs : List Value → List AV → Bool
  | [], [] => true
  | v :: vs, c :: cs => chkC1 v c && chkCs vs cs
  | _, _ => false

def chkC : Value → AV → Bool
  | .agg vs, .agg cs => chkCs vs.toList cs
  | v, c => chkC1 v c

def chkO : Operand → Opd → Bool
  | .tmp t, .t n => t == n
  | .const v, .k c => chkC v c
  | .func f, .k (.clo f' [] []) => f == f'
  | _, _ => false

theorem chkC1_one {v : Value} {c : AV} (h : chkC1 v c = true) : v.oneCell' = true := by
  unfold chkC1 at h
  split at h <;> first | rfl | cases h

theorem chkC1_rep {v : Value} {c : AV} (h : chkC1 v c = true) (γ : Gh) (w : World) : Rep γ w c v := by
  unfold chkC1 at h
  split at h
  · simp at h; subst h; exact .bool _
  · simp at h; obtain ⟨rfl, rfl⟩ := h; exact .int _ _
  · rename_i s l
    simp at h
    subst h
    exact .str s.data.toList
  · exact .slnil .nil _ (by simp)
  · exact .nilp
  · exact .nilm
  · exact .oth _
  · exact .oth _
  · cases h

theorem chkCs_rep : ∀ {vs : List Value} {cs : List AV}, chkCs vs cs = true → ∀ (γ : Gh) (w : World),
    cs.length = vs.length ∧ (∀ (i : Nat) (v : Value), vs[i]? = some v → v.oneCell' = true) ∧ ∀ (i : Nat) (c : AV) (v : Value), cs[i]? = some c → vs[i]? = some v → Rep γ w c v
  | [], [], _, γ, w => by simp
  | [], _ :: _, h, _, _ => by simp [chkCs] at h
  | _ :: _, [], h, _, _ => by simp [chkCs] at h
  | v :: vs, c :: cs, h, γ, w => by
    simp only [chkCs, Bool.and_eq_true] at h
    obtain ⟨h1, h2, h3⟩ := chkCs_rep h.2 γ w
    refine ⟨by simp [h1], fun i u hu => ?_, fun i d u hd hu => ?_⟩
    · cases i with
      | zero => simp at hu; subst hu; exact chkC1_one h.1
      | succ i => simp at hu; exact h2 i u hu
    · cases i with
      | zero => simp at hd hu; subst hd; subst hu; exact chkC1_rep h.1 γ w
      | succ i => simp at hd hu; exact h3 i d u hd hu

theorem chkC_rep {v : Value} {c : AV} (h : chkC v c = true) (γ : Gh) (w : World) : Rep γ w c v := by
  unfold chkC at h
  split at h
  · rename_i vs cs
    obtain ⟨h1, h2, h3⟩ := chkCs_rep h γ w
    exact .agg cs vs.toList h1 h2 h3
  · exact chkC1_rep h γ w

theorem chkO_rep {x : Operand} {y : Opd} (h : chkO x y = true) {γ : Gh} {w : World} {ρ : Env} {a : Act} (he : EnvRel γ w ρ a.tmps) : Rep γ w (y.ev ρ) (a.eval x) := by
  unfold chkO at h
  split at h
  · simp at h; subst h; exact he.rep _
  · exact chkC_rep h γ w
  · simp at h; subst h
    exact .clo _ [] [] [] [] rfl rfl (by simp) (by simp)
  · cases h

/-- Many operands. -/
def chkOs : List Operand → List Opd → Bool
  | [], [] => true
  | x :: xs, y :: ys => chkO x y && chkOs xs ys
  | _, _ => false

theorem chkOs_rep : ∀ {xs : List Operand} {ys : List Opd}, chkOs xs ys = true → ∀ {γ : Gh} {w : World} {ρ : Env} {a : Act}, EnvRel γ w ρ a.tmps →
    RepAll γ w (ys.map (Opd.ev ρ)) (xs.map a.eval)
  | [], [], _, _, _, _, _, _ => RepAll.nil
  | [], _ :: _, h, _, _, _, _, _ => by simp [chkOs] at h
  | _ :: _, [], h, _, _, _, _, _ => by simp [chkOs] at h
  | x :: xs, y :: ys, h, _, _, _, _, he => by
    simp only [chkOs, Bool.and_eq_true] at h
    exact RepAll.cons (chkO_rep h.1 he) (chkOs_rep h.2 he)

def PureOk (P : Program) (o : Oper) (ao : AOp) : Prop :=
  ∀ (γ : Gh) (w : World) (ρ : Env) (a : Act) (c : AV), EnvRel γ w ρ a.tmps → pev ρ ao = some c →
    ∃ v γ' w', (execOp a.eval o).run P w = .ok (.value v) w' ∧ Ext (fun _ => False) γ w γ' w' ∧ Rep γ' w' c v

/-- The world as it was. -/
theorem pure_same {P : Program} {o : Oper} {a : Act} {γ : Gh} {w : World} {c : AV} {v : Value} (h : (execOp a.eval o).run P w = .ok (.value v) w) (hr : Rep γ w c v) :
    ∃ v γ' w', (execOp a.eval o).run P w = .ok (.value v) w' ∧ Ext (fun _ => False) γ w γ' w' ∧ Rep γ' w' c v :=
  ⟨v, γ, w, h, .refl _ _ _, hr⟩

theorem mv_ok {P : Program} {o : Oper} {x : Operand} {y : Opd} (ho : o.op = .move x ∨ o.op = .assign x) (h : chkO x y = true) : PureOk P o (.mv y) := by
  intro γ w ρ a c he hc
  simp only [pev, Option.some.injEq] at hc
  subst hc
  exact pure_same (by rcases ho with ho | ho <;> simp [execOp, ho]) (chkO_rep h he)

theorem pick_ok {P : Program} {o : Oper} {x y z : Operand} {x' y' z' : Opd} (ho : o.op = .pick x y z) (h : chkO x x' = true) (h2 : chkO y y' = true) (h3 : chkO z z' = true) : PureOk P o (.pick x' y' z') := by
  intro γ w ρ a c he hc
  have r1 := chkO_rep h he
  have r2 := chkO_rep h2 he
  have r3 := chkO_rep h3 he
  simp only [pev] at hc
  cases hx : x'.ev ρ <;> simp only [hx] at hc r1 <;> try (cases hc; done)
  rename_i t
  simp only [Option.some.injEq] at hc
  subst hc
  generalize hv : a.eval x = v at r1
  cases r1
  cases t
  · exact pure_same (v := a.eval z) (by simp [execOp, ho, hv, asBool]) (by simpa using r3)
  · exact pure_same (v := a.eval y) (by simp [execOp, ho, hv, asBool]) (by simpa using r2)

theorem nilchk_ok {P : Program} {o : Oper} {x : Operand} {x' : Opd} (ho : o.op = .nilCheck x) (h : chkO x x' = true) : PureOk P o (.nilchk x') := by
  intro γ w ρ a c he hc
  have r1 := chkO_rep h he
  simp only [pev] at hc
  cases hx : x'.ev ρ <;> simp only [hx] at hc r1 <;> try (cases hc; done)
  all_goals
    simp only [Option.some.injEq] at hc
    subst hc
    generalize hv : a.eval x = v at r1
    have r1' := r1
    cases r1
    exact pure_same (by simp [execOp, ho, hv]) r1'

theorem intArith_run {P : Program} {w : World} (op : BinOp) (k : IntKind) (a b : Int) {c : AV} (h : ibin op k a b = some c) (h1 : op ≠ .shl) (h2 : op ≠ .shr) (t : TypeId) (γ : Gh) :
    ∃ v, (binOp op t (.int k a) (.int k b)).run P w = .ok v w ∧ Rep γ w c v := by
  cases op
  case shl => exact absurd rfl h1
  case shr => exact absurd rfl h2
  case quo =>
    simp only [ibin] at h
    split at h
    · cases h
    · rename_i hb; simp only [Option.some.injEq] at h; subst h; exact ⟨.int k _, by simp [binOp, Op.intDiv, hb]; done, .int _ _⟩
  case rem =>
    simp only [ibin] at h
    split at h
    · cases h
    · rename_i hb; simp only [Option.some.injEq] at h; subst h; exact ⟨.int k _, by simp [binOp, Op.intDiv, hb]; done, .int _ _⟩
  case add => simp only [ibin, Option.some.injEq] at h; subst h; exact ⟨.int k _, by simp [binOp, Op.intArith]; done, .int _ _⟩
  case sub => simp only [ibin, Option.some.injEq] at h; subst h; exact ⟨.int k _, by simp [binOp, Op.intArith]; done, .int _ _⟩
  case mul => simp only [ibin, Option.some.injEq] at h; subst h; exact ⟨.int k _, by simp [binOp, Op.intArith]; done, .int _ _⟩
  case and => simp only [ibin, Option.some.injEq] at h; subst h; exact ⟨.int k _, by simp [binOp, Op.intBits]; done, .int _ _⟩
  case or => simp only [ibin, Option.some.injEq] at h; subst h; exact ⟨.int k _, by simp [binOp, Op.intBits]; done, .int _ _⟩
  case xor => simp only [ibin, Option.some.injEq] at h; subst h; exact ⟨.int k _, by simp [binOp, Op.intBits]; done, .int _ _⟩
  case andNot => simp only [ibin, Option.some.injEq] at h; subst h; exact ⟨.int k _, by simp [binOp, Op.intBits]; done, .int _ _⟩
  all_goals (simp only [ibin, Option.some.injEq] at h; subst h; exact ⟨.bool _, by simp [binOp, Op.intCmp]; done, .bool _⟩)

theorem eqGuard_plain {P : Program} {w : World} (op : BinOp) (t : TypeId) (x y : Operand) (u v : Value) (h : ∀ cs, u ≠ .agg cs) (h' : u ≠ .nilIface) : (eqGuard op t x y u v).run P w = .ok () w := by
  unfold eqGuard
  split <;> first | rfl | (cases u <;> first | rfl | (simp at h'; done) | (exact absurd rfl (h _)) | (simp; done))

theorem bi_ok {P : Program} {o : Oper} {op : BinOp} {t u : TypeId} {k : IntKind} {x y : Operand} {x' y' : Opd} (ho : o.op = .binOp op t x y u) (h : chkO x x' = true) (h2 : chkO y y' = true)
    (h3 : op ≠ .shl) (h4 : op ≠ .shr) : PureOk P o (.bi op k x' y') := by
  intro γ w ρ a c he hc
  have r1 := chkO_rep h he
  have r2 := chkO_rep h2 he
  simp only [pev] at hc
  cases hx : x'.ev ρ <;> simp only [hx] at hc r1 <;> try (cases hc; done)
  cases hy : y'.ev ρ <;> simp only [hy] at hc r2 <;> try (cases hc; done)
  rename_i k1 n1 k2 n2
  split at hc
  · rename_i hk
    obtain ⟨rfl, rfl⟩ := hk
    generalize hv : a.eval x = v at r1
    generalize hu : a.eval y = v' at r2
    cases r1
    cases r2
    obtain ⟨v, hr, hrep⟩ := intArith_run (P := P) (w := w) op _ _ _ hc h3 h4 t γ
    refine pure_same ?_ hrep
    simp only [execOp, ho, hv, hu, Sem.run_bind, eqGuard_plain op t x y (.int _ _) _ (by simp) (by simp), Result.andThen_ok, hr, Sem.run_pure]
  · cases hc

theorem shf_ok {P : Program} {o : Oper} {op : BinOp} {t u : TypeId} {x y : Operand} {x' y' : Opd} (ho : o.op = .binOp op t x y u) (h : chkO x x' = true) (h2 : chkO y y' = true) : PureOk P o (.shf op x' y') := by
  intro γ w ρ a c he hc
  have r1 := chkO_rep h he
  have r2 := chkO_rep h2 he
  simp only [pev] at hc
  cases hx : x'.ev ρ <;> simp only [hx] at hc r1 <;> try (cases hc; done)
  cases hy : y'.ev ρ <;> simp only [hy] at hc r2 <;> try (cases hc; done)
  generalize hv : a.eval x = v at r1
  generalize hu : a.eval y = v' at r2
  cases r1
  cases r2
  cases op <;> simp only [ishf] at hc <;> try (cases hc; done)
  all_goals
    split at hc
    · cases hc
    · rename_i hb
      simp only [Option.some.injEq] at hc
      subst hc
      refine pure_same ?_ (.int _ _)
      simp only [execOp, ho, hv, hu, Sem.run_bind, eqGuard_plain _ t x y (.int _ _) _ (by simp) (by simp), Result.andThen_ok, binOp, Op.shift, hb, if_false, Sem.run_pure]

theorem toList_of (s : List UInt8) : (ByteArray.mk s.toArray).toList = s := by
  rw [ByteArray.toList_eq]

theorem size_of (s : List UInt8) : (ByteArray.mk s.toArray).size = s.length := by
  show s.toArray.size = s.length
  simp

theorem append_of (a b : List UInt8) : (ByteArray.mk a.toArray) ++ (ByteArray.mk b.toArray) = ByteArray.mk (a ++ b).toArray := by
  apply ByteArray.ext
  simp

theorem bs_ok {P : Program} {o : Oper} {op : BinOp} {t u : TypeId} {x y : Operand} {x' y' : Opd} (ho : o.op = .binOp op t x y u) (h : chkO x x' = true) (h2 : chkO y y' = true) : PureOk P o (.bs op x' y') := by
  intro γ w ρ a c he hc
  have r1 := chkO_rep h he
  have r2 := chkO_rep h2 he
  simp only [pev] at hc
  cases hx : x'.ev ρ <;> simp only [hx] at hc r1 <;> try (cases hc; done)
  cases hy : y'.ev ρ <;> simp only [hy] at hc r2 <;> try (cases hc; done)
  rename_i s1 s2
  generalize hv : a.eval x = v at r1
  generalize hu : a.eval y = v' at r2
  cases r1
  cases r2
  have key : ∃ v, (Op.stringOp op ⟨s1.toArray⟩ ⟨s2.toArray⟩).run P w = .ok v w ∧ Rep γ w c v := by
    unfold sbin at hc
    unfold Op.stringOp
    rw [toList_of, toList_of, size_of, size_of, append_of]
    cases op <;> simp only [] at hc ⊢ <;> try (cases hc; done)
    case add =>
      split at hc
      · rename_i hl
        simp only [Option.some.injEq] at hc
        subst hc
        refine ⟨.string ⟨(s1 ++ s2).toArray⟩, ?_, .str _⟩
        have hmax : ¬ (((s1.length + s2.length : Nat) : Int) > IntKind.i64.max) := by
          simp only [IntKind.max, IntKind.signed, IntKind.bits, if_true]; omega
        rw [if_neg hmax]
        rfl
      · cases hc
    all_goals (simp only [Option.some.injEq] at hc; subst hc; exact ⟨.bool _, rfl, .bool _⟩)
  obtain ⟨v, hr, hrep⟩ := key
  refine pure_same ?_ hrep
  have hb : binOp op t (.string ⟨s1.toArray⟩) (.string ⟨s2.toArray⟩) = Op.stringOp op ⟨s1.toArray⟩ ⟨s2.toArray⟩ := by cases op <;> rfl
  simp only [execOp, ho, hv, hu, Sem.run_bind, eqGuard_plain op t x y (.string _) _ (by simp) (by simp), Result.andThen_ok, hb, hr, Sem.run_pure]

theorem bb_ok {P : Program} {o : Oper} {op : BinOp} {neg : Bool} {t u : TypeId} {x y : Operand} {x' y' : Opd} (ho : o.op = .binOp op t x y u) (h : chkO x x' = true) (h2 : chkO y y' = true)
    (hop : op = if neg then .neq else .eql) (ht : P.underlying t = some .bool) : PureOk P o (.bb neg x' y') := by
  intro γ w ρ a c he hc
  have r1 := chkO_rep h he
  have r2 := chkO_rep h2 he
  simp only [pev] at hc
  cases hx : x'.ev ρ <;> simp only [hx] at hc r1 <;> try (cases hc; done)
  cases hy : y'.ev ρ <;> simp only [hy] at hc r2 <;> try (cases hc; done)
  rename_i b1 b2
  generalize hv : a.eval x = v at r1
  generalize hu : a.eval y = v' at r2
  cases r1
  cases r2
  simp only [Option.some.injEq] at hc
  subst hc
  have he : (Op.equal t (.bool b1) (.bool b2)).run P w = .ok (b1 == b2) w := by
    unfold Op.equal Op.maxDepth
    rw [Op.equalIn]
    simp [run_underlying ht]
  refine pure_same (v := .bool (if neg = true then !(b1 == b2) else b1 == b2)) ?_ (.bool _)
  cases neg <;> simp only [Bool.false_eq_true, if_false, if_true] at hop ⊢ <;> subst hop <;>
    simp only [execOp, ho, hv, hu, Sem.run_bind, eqGuard_plain _ t x y (.bool _) _ (by simp) (by simp), Result.andThen_ok, binOp, he, Sem.run_pure]

theorem not_ok {P : Program} {o : Oper} {t : TypeId} {x : Operand} {x' : Opd} (ho : o.op = .unOp .not t x) (h : chkO x x' = true) : PureOk P o (.not x') := by
  intro γ w ρ a c he hc
  have r1 := chkO_rep h he
  simp only [pev] at hc
  cases hx : x'.ev ρ <;> simp only [hx] at hc r1 <;> try (cases hc; done)
  simp only [Option.some.injEq] at hc
  subst hc
  generalize hv : a.eval x = v at r1
  cases r1
  exact pure_same (v := .bool _) (by simp [execOp, ho, hv, Op.unary]; done) (.bool _)

theorem ineg_ok {P : Program} {o : Oper} {t : TypeId} {x : Operand} {x' : Opd} (ho : o.op = .unOp .neg t x) (h : chkO x x' = true) : PureOk P o (.ineg x') := by
  intro γ w ρ a c he hc
  have r1 := chkO_rep h he
  simp only [pev] at hc
  cases hx : x'.ev ρ <;> simp only [hx] at hc r1 <;> try (cases hc; done)
  rename_i k n
  simp only [Option.some.injEq] at hc
  subst hc
  generalize hv : a.eval x = v at r1
  cases r1
  exact pure_same (v := .int k (k.wrap (0 - n))) (by simp [execOp, ho, hv, Op.unary, Op.intArith]; done) (.int _ _)

theorem cvi_ok {P : Program} {o : Oper} {s d : TypeId} {k : IntKind} {x : Operand} {x' : Opd} {ds : TypeDesc} (ho : o.op = .convert s d x) (h : chkO x x' = true) (hs : P.underlying s = some ds) (hd : P.underlying d = some (.int k)) :
    PureOk P o (.cvi k x') := by
  intro γ w ρ a c he hc
  have r1 := chkO_rep h he
  simp only [pev] at hc
  cases hx : x'.ev ρ <;> simp only [hx] at hc r1 <;> try (cases hc; done)
  simp only [Option.some.injEq] at hc
  subst hc
  generalize hv : a.eval x = v at r1
  cases r1
  refine pure_same (v := .int k _) ?_ (.int _ _)
  simp [execOp, ho, hv, convert, run_underlying hs, run_underlying hd, Conv.intToInt]

theorem cvid_ok {P : Program} {o : Oper} {s d : TypeId} {x : Operand} {x' : Opd} {ds : TypeDesc} (ho : o.op = .convert s d x) (h : chkO x x' = true) (hs : P.underlying s = some ds) (hd : P.underlying d = some .string) :
    PureOk P o (.cvid x') := by
  intro γ w ρ a c he hc
  have r1 := chkO_rep h he
  simp only [pev] at hc
  cases hx : x'.ev ρ <;> simp only [hx] at hc r1 <;> try (cases hc; done)
  simp only [Option.some.injEq] at hc
  subst hc
  generalize hv : a.eval x = v at r1
  cases r1
  refine pure_same (v := .string _) ?_ (.str _)
  simp [execOp, ho, hv, convert, run_underlying hs, run_underlying hd]

theorem mkfn_ok {P : Program} {o : Oper} {f : FuncId} {first caps : Array Operand} {first' caps' : List Opd} (ho : o.op = .makeFunc (.func f) first caps) (h : chkOs first.toList first' = true) (h' : chkOs caps.toList caps' = true) :
    PureOk P o (.mkfn f first' caps') := by
  intro γ w ρ a c he hc
  have r1 := chkOs_rep h he
  have r2 := chkOs_rep h' he
  simp only [pev, Option.some.injEq] at hc
  subst hc
  refine pure_same (v := .func (.func f) (first.toList.map a.eval).toArray (caps.toList.map a.eval).toArray) ?_ (.clo f _ _ _ _ r1.1 r2.1 r1.2 r2.2)
  have e : ∀ l : Array Operand, l.map a.eval = (l.toList.map a.eval).toArray := fun l => by apply Array.ext'; simp
  simp only [execOp, ho, Instr.makeFunc, Sem.run_bind, Sem.run_pure, Result.andThen_ok, e]

theorem ext_ok {P : Program} {o : Oper} {i : Nat} {x : Operand} {x' : Opd} (ho : o.op = .extract x i) (h : chkO x x' = true) : PureOk P o (.ext x' i) := by
  intro γ w ρ a c he hc
  have r1 := chkO_rep h he
  simp only [pev] at hc
  cases hx : x'.ev ρ <;> simp only [hx] at hc r1 <;> try (cases hc; done)
  generalize hv : a.eval x = v at r1
  cases r1 with
  | tup cs vs hl hr =>
    have hlt : i < vs.length := by rw [← hl]; exact (List.getElem?_eq_some_iff.1 hc).1
    refine pure_same (v := vs[i]) ?_ (hr i c _ hc (List.getElem?_eq_getElem hlt))
    simp [execOp, ho, hv, Instr.extract, hlt]

def notIface : Option TypeDesc → Bool
  | some (.interface _) | none => false
  | _ => true

theorem mki_ok {P : Program} {o : Oper} {t : TypeId} {x : Operand} {x' : Opd} (ho : o.op = .makeInterface t x) (h : chkO x x' = true) (ht : notIface (P.underlying t) = true) : PureOk P o (.mki t x') := by
  intro γ w ρ a c he hc
  have r1 := chkO_rep h he
  simp only [pev, Option.some.injEq] at hc
  subst hc
  refine pure_same (v := .iface t (a.eval x)) ?_ (.ifc t _ _ r1)
  cases hd : P.underlying t with
  | none => simp [hd, notIface] at ht
  | some d => cases d <;> simp_all [execOp, Instr.makeInterface, run_underlying hd, notIface]

theorem addr_add (b o n : Nat) : (⟨b, o, none⟩ : Addr).add n = ⟨b, o + n, none⟩ := by
  unfold Addr.add; split <;> simp_all

def isIface : Option TypeDesc → Bool
  | some (.interface _) => true
  | _ => false

theorem ifnil_ok {P : Program} {o : Oper} {op : BinOp} {neg : Bool} {t u : TypeId} {x y : Operand} {x' : Opd} (ho : o.op = .binOp op t x y u) (hop : op = if neg then .neq else .eql) (h : chkO x x' = true) (hy : y = .const .nilIface) (ht : isIface (P.underlying t) = true) : PureOk P o (.ifnil neg x') := by
  intro γ w ρ a c he hc
  have r1 := chkO_rep h he
  simp only [pev] at hc
  obtain ⟨ms, hms⟩ : ∃ ms, P.underlying t = some (.interface ms) := by
    unfold isIface at ht
    split at ht
    · rename_i ms hm; exact ⟨ms, hm⟩
    · cases ht
  subst hy
  have hy : a.eval (.const .nilIface) = .nilIface := rfl
  cases hx : x'.ev ρ <;> simp only [hx] at hc r1 <;> try (cases hc; done)
  · rename_i v0
    cases v0 <;> simp only [] at hc <;> try (cases hc; done)
    simp only [Option.some.injEq] at hc
    subst hc
    generalize hv : a.eval x = v at r1
    cases r1
    refine pure_same (v := .bool !neg) ?_ (.bool _)
    have e : (Op.equalIn 10000 t .nilIface .nilIface).run P w = .ok true w := by
      rw [Op.equalIn]; simp [run_underlying hms]
    cases neg <;> simp only [Bool.false_eq_true, if_false, if_true] at hop <;> subst hop <;>
      simp [execOp, ho, hv, hy, eqGuard, binOp, Op.equal, Op.maxDepth, Sem.run_bind, e, Sem.run_pure, Result.andThen]
  · rename_i ty cx
    simp only [Option.some.injEq] at hc
    subst hc
    generalize hv : a.eval x = v at r1
    cases r1
    rename_i v1 hr1
    refine pure_same (v := .bool neg) ?_ (.bool _)
    have e : (Op.equalIn 10000 t (.iface ty v1) .nilIface).run P w = .ok false w := by
      rw [Op.equalIn]; simp [run_underlying hms]
    cases neg <;> simp only [Bool.false_eq_true, if_false, if_true] at hop <;> subst hop <;>
      simp [execOp, ho, hv, hy, eqGuard, binOp, Op.equal, Op.maxDepth, Sem.run_bind, e, Sem.run_pure, Result.andThen]

theorem tas_ok {P : Program} {o : Oper} {xt t : TypeId} {zero : AV} {x : Operand} {x' : Opd} {ti : TypeInfo} {z : Value} (ho : o.op = .typeAssert x xt t true) (h : chkO x x' = true) (ht : notIface (P.underlying t) = true) (hi : P.info? t = some ti) (hz : ti.zero = some z) (hzz : chkC z zero = true) : PureOk P o (.tas t zero x') := by
  intro γ w ρ a c he hc
  have r1 := chkO_rep h he
  simp only [pev] at hc
  obtain ⟨d, hd⟩ : ∃ d, P.underlying t = some d := by
    cases hd : P.underlying t with
    | none => simp [hd, notIface] at ht
    | some d => exact ⟨d, rfl⟩
  have hni : ∀ ms, d ≠ .interface ms := fun ms e => by subst e; simp [hd, notIface] at ht
  have hzr := chkC_rep hzz γ w
  have hzv : (zeroValue t).run P w = .ok z w := by
    simp [zeroValue, typeInfo, hi, hz]
  cases hx : x'.ev ρ <;> simp only [hx] at hc r1 <;> try (cases hc; done)
  · rename_i v0
    cases v0 <;> simp only [] at hc <;> try (cases hc; done)
    simp only [Option.some.injEq] at hc
    subst hc
    generalize hv : a.eval x = v at r1
    cases r1
    refine pure_same (v := .tuple #[z, .bool false]) ?_ (.tup _ [z, .bool false] rfl (RepAll.cons hzr (RepAll.cons (.bool _) RepAll.nil)).2)
    cases d <;> first | exact absurd rfl (hni _) | simp [execOp, ho, hv, Instr.typeAssert, run_underlying hd, Sem.run_bind, hzv, Result.andThen]
  · rename_i ty cx
    simp only [Option.some.injEq] at hc
    subst hc
    generalize hv : a.eval x = v at r1
    cases r1
    rename_i v1 hr1
    by_cases hty : ty = t
    · simp only [hty, if_true]
      refine pure_same (v := .tuple #[v1, .bool true]) ?_ (.tup _ [v1, .bool true] rfl (RepAll.cons hr1 (RepAll.cons (.bool _) RepAll.nil)).2)
      cases d <;> first | exact absurd rfl (hni _) | simp [execOp, ho, hv, Instr.typeAssert, run_underlying hd, Sem.run_bind, hty, Result.andThen]
    · simp only [hty, if_false]
      refine pure_same (v := .tuple #[z, .bool false]) ?_ (.tup _ [z, .bool false] rfl (RepAll.cons hzr (RepAll.cons (.bool _) RepAll.nil)).2)
      cases d <;> first | exact absurd rfl (hni _) | simp [execOp, ho, hv, Instr.typeAssert, run_underlying hd, Sem.run_bind, hty, hzv, Result.andThen]

theorem fa_ok {P : Program} {o : Oper} {s : TypeId} {x : Operand} {x' : Opd} {i off : Nat} {fs : Array Field} {f : Field} {fi : TypeInfo} (ho : o.op = .fieldAddr s x i) (h : chkO x x' = true) (hs : P.underlying s = some (.struct fs))
    (hf : fs[i]? = some f) (hoff : f.offset = off) (hi : P.info? f.type = some fi) (h0 : fi.size ≠ 0) : PureOk P o (.fa off x') := by
  intro γ w ρ a c he hc
  have r1 := chkO_rep h he
  simp only [pev] at hc
  have hrun : ∀ b oo, a.eval x = .pointer (some ⟨b, oo, none⟩) → (execOp a.eval o).run P w = .ok (.value (.pointer (some ⟨b, oo + off, none⟩))) w := by
    intro b oo hv
    simp [execOp, ho, hv, Instr.fieldAt, run_underlying hs, hf, Instr.sureAddr, fieldPlace, sizeOf, typeInfo, hi, h0, hoff, addr_add]
  cases hx : x'.ev ρ <;> simp only [hx] at hc r1 <;> try (cases hc; done)
  · rename_i b oo
    simp only [Option.some.injEq] at hc
    subst hc
    generalize hv : a.eval x = v at r1
    cases r1 with
    | ptr _ _ hlt => exact pure_same (hrun b oo hv) (.ptr b _ hlt)
  · rename_i cs
    simp only [Option.some.injEq] at hc
    subst hc
    generalize hv : a.eval x = v at r1
    cases r1 with
    | view cs b oo cv hcell hr =>
      refine pure_same (hrun b oo hv) (.view _ b (oo + off) (fun j => cv (off + j)) (fun j hj => ?_) (fun j c hj => ?_))
      · have := hcell (off + j) (by simp at hj; omega)
        rwa [← Nat.add_assoc] at this
      · rw [List.getElem?_drop] at hj
        exact hr (off + j) c hj

theorem extract_take (cs : List Value) (off n : Nat) (h : off + n ≤ cs.length) : (cs.toArray.extract off (off + n)) = ((cs.drop off).take n).toArray := by
  apply Array.ext'
  simp [List.extract_eq_take_drop]

/-- Values one for one, behind a cut. -/
theorem take_drop_rep {γ : Gh} {w : World} {cs : List AV} {vs : List Value} (hl : cs.length = vs.length) (hr : ∀ (i : Nat) (c : AV) (v : Value), cs[i]? = some c → vs[i]? = some v → Rep γ w c v) (off n : Nat) :
    ((cs.drop off).take n).length = ((vs.drop off).take n).length ∧
    ∀ (i : Nat) (c : AV) (v : Value), ((cs.drop off).take n)[i]? = some c → ((vs.drop off).take n)[i]? = some v → Rep γ w c v := by
  refine ⟨by simp [hl], fun i c v hc hv => ?_⟩
  rw [List.getElem?_take] at hc hv
  split at hc
  · rename_i hi
    rw [if_pos hi] at hv
    rw [List.getElem?_drop] at hc hv
    exact hr _ c v hc hv
  · cases hc

def isAggD : Option TypeDesc → Bool
  | some (.struct _) | some (.array _ _) => true
  | _ => false

theorem run_isAgg {P : Program} {w : World} {t : TypeId} {d : TypeDesc} (h : P.underlying t = some d) : (isAgg t).run P w = .ok (isAggD (P.underlying t)) w := by
  unfold isAgg
  rw [Sem.run_bind, run_underlying h w, h]
  cases d <;> rfl

theorem agg_part {γ : Gh} {w : World} {cs : List AV} {vs : List Value} (hl : cs.length = vs.length) (h1 : ∀ (i : Nat) (v : Value), vs[i]? = some v → v.oneCell' = true)
    (hr : ∀ (i : Nat) (c : AV) (v : Value), cs[i]? = some c → vs[i]? = some v → Rep γ w c v) (off n : Nat) :
    Rep γ w (.agg ((cs.drop off).take n)) (.agg ((vs.drop off).take n).toArray) := by
  obtain ⟨h2, h3⟩ := take_drop_rep hl hr off n
  refine .agg _ _ h2 (fun i v hv => ?_) h3
  rw [List.getElem?_take] at hv
  split at hv
  · rw [List.getElem?_drop] at hv; exact h1 _ v hv
  · cases hv

theorem fld_ok {P : Program} {o : Oper} {t : TypeId} {x : Operand} {x' : Opd} {i off n : Nat} {ag : Bool} {fs : Array Field} {f : Field} {fi : TypeInfo} {d : TypeDesc} (ho : o.op = .field t x i) (h : chkO x x' = true)
    (ht : P.underlying t = some (.struct fs)) (hf : fs[i]? = some f) (hoff : f.offset = off) (hi : P.info? f.type = some fi) (hn : fi.size = n) (hd : P.underlying f.type = some d) (hag : isAggD (P.underlying f.type) = ag)
    (h1 : ag = true ∨ n = 1) : PureOk P o (.fld off n ag x') := by
  intro γ w ρ a c he hc
  have r1 := chkO_rep h he
  simp only [pev] at hc
  cases hx : x'.ev ρ <;> simp only [hx] at hc r1 <;> try (cases hc; done)
  split at hc
  · rename_i cs hle
    simp only [Option.some.injEq] at hc
    subst hc
    generalize hv : a.eval x = v at r1
    cases r1 with
    | agg _ vs hl ho1 hr =>
      cases ag with
      | true =>
        refine pure_same (v := .agg ((vs.drop off).take n).toArray) ?_ (by simpa [mk] using agg_part hl ho1 hr off n)
        have hex := extract_take vs off n (by omega)
        simp only [execOp, ho, hv, Instr.field, Sem.run_bind, run_underlying ht, Result.andThen_ok, hf, asAgg, Sem.run_pure, part, run_isAgg hd, hag, if_true, sizeOf, typeInfo, run_program, hi, hoff, hn, hex]
      | false =>
        have hn1 : n = 1 := by rcases h1 with h1 | h1 <;> simp_all
        subst hn1
        have hlt : off < vs.length := by omega
        have hlt' : off < cs.length := by omega
        have e1 : mk false ((cs.drop off).take 1) = cs[off] := by
          show (List.take 1 (List.drop off cs)).headD .any = _
          rw [List.drop_eq_getElem_cons hlt']
          rfl
        rw [e1]
        refine pure_same (v := vs[off]) ?_ (hr off _ _ (List.getElem?_eq_getElem hlt') (List.getElem?_eq_getElem hlt))
        have e2 : vs.toArray[off]? = some vs[off] := by simp [hlt]
        simp only [execOp, ho, hv, Instr.field, Sem.run_bind, run_underlying ht, Result.andThen_ok, hf, asAgg, Sem.run_pure, part, run_isAgg hd, hag, Bool.false_eq_true, if_false, hoff, e2]
  · cases hc

theorem ia_ok {P : Program} {o : Oper} {t e : TypeId} {x y : Operand} {x' y' : Opd} {sz : Nat} {ei : TypeInfo} (ho : o.op = .indexAddr t x y) (h : chkO x x' = true) (h2 : chkO y y' = true)
    (ht : P.underlying t = some (.slice e)) (hi : P.info? e = some ei) (hsz : ei.size = sz) : PureOk P o (.ia sz x' y') := by
  intro γ w ρ a c he hc
  have r1 := chkO_rep h he
  have r2 := chkO_rep h2 he
  simp only [pev] at hc
  have hrun : ∀ b oo len cap k (n : Int), a.eval x = .slice (some ⟨b, oo, none⟩) len cap → a.eval y = .int k n → 0 ≤ n → n < len → (execOp a.eval o).run P w = .ok (.value (.pointer (some ⟨b, oo + n.toNat * sz, none⟩))) w := by
    intro b oo len cap k n hv hu h0 hlt
    have hcond : 0 ≤ n ∧ n < (len : Int) := ⟨h0, hlt⟩
    simp [execOp, ho, hv, hu, Instr.indexAt, asIntOf, run_underlying ht, hcond, sizeOf, typeInfo, hi, hsz, addr_add]
  cases hx : x'.ev ρ <;> simp only [hx] at hc r1 <;> try (cases hc; done)
  all_goals (cases hy : y'.ev ρ <;> simp only [hy] at hc r2 <;> try (cases hc; done))
  · rename_i own sz' xs k n
    split at hc
    · rename_i hk
      obtain ⟨rfl, h0, hlt⟩ := hk
      simp only [Option.some.injEq] at hc
      subst hc
      generalize hv : a.eval x = v at r1
      generalize hu : a.eval y = v' at r2
      cases r2
      cases r1 with
      | slnil _ _ _ => simp at hlt; omega
      | sl0 _ _ _ _ => simp at hlt; omega
      | sl _ _ _ b oo cap cv hcap hm huni hcell hr hown =>
        have hlt' : n.toNat < xs.length := by omega
        have hx' : xs[n.toNat]? = some xs[n.toNat] := List.getElem?_eq_getElem hlt'
        have hg : xs.getD n.toNat [] = xs[n.toNat] := by simp [List.getD, hx']
        rw [hg]
        have hlen : (xs[n.toNat]).length = sz' := huni _ (List.getElem_mem hlt')
        refine pure_same (hrun b oo _ cap k n hv hu h0 hlt) (.view _ b (oo + n.toNat * sz') (cv n.toNat) (fun j hj => ?_) (fun j c hj => hr _ _ hx' j c hj))
        have := hcell n.toNat _ hx' j (by omega)
        rwa [← Nat.add_assoc] at this
    · cases hc
  · rename_i b oo len cap k n
    split at hc
    · rename_i hk
      obtain ⟨h0, hlt⟩ := hk
      simp only [Option.some.injEq] at hc
      subst hc
      generalize hv : a.eval x = v at r1
      generalize hu : a.eval y = v' at r2
      cases r2
      cases r1 with
      | ms _ _ _ _ hb hcap hm => exact pure_same (hrun b oo len cap k n hv hu h0 hlt) (.ptr b _ hb)
    · cases hc

theorem ixs_ok {P : Program} {o : Oper} {t : TypeId} {x y : Operand} {x' y' : Opd} (ho : o.op = .index t x y) (h : chkO x x' = true) (h2 : chkO y y' = true) (ht : P.underlying t = some .string) : PureOk P o (.ixs x' y') := by
  intro γ w ρ a c he hc
  have r1 := chkO_rep h he
  have r2 := chkO_rep h2 he
  simp only [pev] at hc
  cases hx : x'.ev ρ <;> simp only [hx] at hc r1 <;> try (cases hc; done)
  cases hy : y'.ev ρ <;> simp only [hy] at hc r2 <;> try (cases hc; done)
  rename_i s k n
  split at hc
  · rename_i hk
    obtain ⟨h0, hlt⟩ := hk
    simp only [Option.some.injEq] at hc
    subst hc
    generalize hv : a.eval x = v at r1
    generalize hu : a.eval y = v' at r2
    cases r1
    cases r2
    have hlt' : n.toNat < s.length := by omega
    have hb : (ByteArray.mk s.toArray)[n.toNat]? = some s[n.toNat] := by
      rw [getElem?_pos _ _ (by rw [size_of]; exact hlt')]
      rfl
    have hg : s.getD n.toNat 0 = s[n.toNat] := by simp [List.getD, hlt']
    rw [hg]
    refine pure_same (v := .int .u8 _) ?_ (.int _ _)
    simp [execOp, ho, hv, hu, Instr.index, asIntOf, run_underlying ht, h0, hb]
  · cases hc

theorem slice_bytes (s : List UInt8) (l h : Nat) (hh : h ≤ s.length) : (ByteArray.mk s.toArray).extract l h = ByteArray.mk ((s.take h).drop l).toArray := by
  apply ByteArray.ext
  apply Array.ext'
  simp [ByteArray.data_extract, List.extract_eq_take_drop, List.drop_take]

/-- A bound of a slice expression. -/
theorem bound_run {P : Program} {w : World} {γ : Gh} {ρ : Env} {a : Act} {x : Operand} {y : Opd} {d : Nat} {n : Int} (hr : Rep γ w (y.ev ρ) (a.eval x)) (h : bound d ρ (some y) = some n) :
    ∃ k, a.eval x = .int k n := by
  unfold bound at h
  simp only at h
  cases hy : y.ev ρ <;> simp only [hy] at h hr <;> try (cases h; done)
  simp only [Option.some.injEq] at h
  subst h
  generalize hu : a.eval x = v at hr
  cases hr
  exact ⟨_, rfl⟩

def chkOo : Option Operand → Option Opd → Bool
  | none, none => true
  | some x, some y => chkO x y
  | _, _ => false

theorem sliceBound_run {P : Program} {w : World} (k : IntKind) (n : Int) (y : Nat) (code : BoundsCode) (h0 : 0 ≤ n) (h1 : n ≤ y) : (Instr.sliceBound (.int k n) y code).run P w = .ok n.toNat w := by
  have hc : 0 ≤ n ∧ n ≤ (y : Int) := ⟨h0, h1⟩
  simp [Instr.sliceBound, asIntOf, hc]

/-- The bounds of s[l:h], none behind. -/
theorem bounds2_run {P : Program} {w : World} {γ : Gh} {ρ : Env} {a : Act} (isSlice : Bool) (len cap : Nat) {lo hi : Option Operand} {lo' hi' : Option Opd} (hlo : chkOo lo lo' = true) (hhi : chkOo hi hi' = true)
    (he : EnvRel γ w ρ a.tmps) {l h : Int} (hl : bound 0 ρ lo' = some l) (hh : bound len ρ hi' = some h) (h0 : 0 ≤ l) (h1 : l ≤ h) (h2 : h ≤ len) (hc : len ≤ cap) :
    (Instr.sliceBounds isSlice len cap (lo.map a.eval) (hi.map a.eval) none).run P w = .ok (l.toNat, h.toNat, cap) w := by
  have e1 : ∀ (v : Value), hi.map a.eval = some v → ∃ k, v = .int k h := by
    intro v hv
    cases hi with
    | none => cases hv
    | some x =>
      cases hi' with
      | none => cases hhi
      | some y =>
        simp only [Option.map_some, Option.some.injEq] at hv
        obtain ⟨k, hk⟩ := bound_run (P := P) (chkO_rep hhi he) hh
        exact ⟨k, hv ▸ hk⟩
  have e2 : ∀ (v : Value), lo.map a.eval = some v → ∃ k, v = .int k l := by
    intro v hv
    cases lo with
    | none => cases hv
    | some x =>
      cases lo' with
      | none => cases hlo
      | some y =>
        simp only [Option.map_some, Option.some.injEq] at hv
        obtain ⟨k, hk⟩ := bound_run (P := P) (chkO_rep hlo he) hl
        exact ⟨k, hv ▸ hk⟩
  have e3 : hi.map a.eval = none → h = len := by
    intro hv
    cases hi with
    | some x => cases hv
    | none =>
      cases hi' with
      | some y => cases hhi
      | none => simpa [bound] using hh.symm
  have e4 : lo.map a.eval = none → l = 0 := by
    intro hv
    cases lo with
    | some x => cases hv
    | none =>
      cases lo' with
      | some y => cases hlo
      | none => simpa [bound] using hl.symm
  have b1 : ∀ k code, (Instr.sliceBound (.int k h) cap code).run P w = .ok h.toNat w := fun k code => sliceBound_run k h cap code (by omega) (by omega)
  have b2 : ∀ k code, (Instr.sliceBound (.int k l) h.toNat code).run P w = .ok l.toNat w := fun k code => sliceBound_run k l _ code h0 (by omega)
  unfold Instr.sliceBounds
  cases hh' : hi.map a.eval with
  | none =>
    have := e3 hh'
    subst this
    cases hl' : lo.map a.eval with
    | none => have := e4 hl'; subst this; simp
    | some v => obtain ⟨k, rfl⟩ := e2 v hl'; simp at b2; simp [b2]
  | some u =>
    obtain ⟨k', rfl⟩ := e1 u hh'
    cases hl' : lo.map a.eval with
    | none => have := e4 hl'; subst this; simp [b1]
    | some v => obtain ⟨k, rfl⟩ := e2 v hl'; simp [b1, b2]

theorem sls_ok {P : Program} {o : Oper} {t : TypeId} {x : Operand} {lo hi : Option Operand} {x' : Opd} {lo' hi' : Option Opd} (ho : o.op = .slice t x lo hi none) (h : chkO x x' = true) (hlo : chkOo lo lo' = true) (hhi : chkOo hi hi' = true)
    (ht : P.underlying t = some .string) : PureOk P o (.sls x' lo' hi') := by
  intro γ w ρ a c he hc
  have r1 := chkO_rep h he
  simp only [pev] at hc
  cases hx : x'.ev ρ <;> simp only [hx] at hc r1 <;> try (cases hc; done)
  rename_i s
  cases hl : bound 0 ρ lo' with
  | none => simp only [hl] at hc; cases hc
  | some l =>
    cases hh : bound s.length ρ hi' with
    | none => simp only [hl, hh] at hc; cases hc
    | some hv =>
      simp only [hl, hh] at hc
      split at hc
      · rename_i hk
        obtain ⟨h0, h1, h2⟩ := hk
        simp only [Option.some.injEq] at hc
        subst hc
        generalize hv : a.eval x = v at r1
        cases r1
        refine pure_same (v := .string _) ?_ (.str _)
        have hb := bounds2_run (P := P) false s.length s.length hlo hhi he hl hh h0 h1 h2 (Nat.le_refl _)
        simp only [execOp, ho, hv, Instr.sliceAt, Sem.run_bind, run_underlying ht, Result.andThen_ok, Instr.slice, Option.map_none, Option.isSome_none, Bool.false_eq_true, if_false, Sem.run_pure, size_of, hb]
        rw [slice_bytes _ _ _ (by omega)]
      · cases hc

theorem len_pre {P : Program} {w : World} {o : Oper} {a : Act} {ts : Array TypeId} {x : Operand} (ho : o.op = .call { callee := .builtin .len, args := #[x], argTypes := ts }) {v : Value} {n : Int} (hv : a.eval x = v)
    (hr : (Builtin.len_ ts o.type #[v]).run P w = .ok (.int .i64 n) w) : (execOp a.eval o).run P w = .ok (.value (.int .i64 n)) w := by
  simp [execOp, ho, resolve, invoke, builtin, hv, hr]

theorem lens_ok {P : Program} {o : Oper} {t : TypeId} {ts : Array TypeId} {x : Operand} {x' : Opd} (ho : o.op = .call { callee := .builtin .len, args := #[x], argTypes := ts }) (hts : ts[0]? = some t) (h : chkO x x' = true)
    (ht : P.underlying t = some .string) : PureOk P o (.lens x') := by
  intro γ w ρ a c he hc
  have r1 := chkO_rep h he
  simp only [pev] at hc
  cases hx : x'.ev ρ <;> simp only [hx] at hc r1 <;> try (cases hc; done)
  simp only [Option.some.injEq] at hc
  subst hc
  generalize hv : a.eval x = v at r1
  cases r1
  exact pure_same (len_pre ho hv (by simp [Builtin.len_, hts, run_underlying ht, goInt, size_of])) (.int _ _)

theorem len_ok {P : Program} {o : Oper} {t e : TypeId} {ts : Array TypeId} {x : Operand} {x' : Opd} (ho : o.op = .call { callee := .builtin .len, args := #[x], argTypes := ts }) (hts : ts[0]? = some t) (h : chkO x x' = true)
    (ht : P.underlying t = some (.slice e)) : PureOk P o (.len x') := by
  intro γ w ρ a c he hc
  have r1 := chkO_rep h he
  simp only [pev] at hc
  cases hx : x'.ev ρ <;> simp only [hx] at hc r1 <;> try (cases hc; done)
  all_goals simp only [Option.some.injEq] at hc
  all_goals subst hc
  all_goals generalize hv : a.eval x = v at r1
  all_goals cases r1
  all_goals exact pure_same (len_pre ho hv (by simp [Builtin.len_, hts, run_underlying ht, goInt])) (.int _ _)

/-- A new block of cells. -/
theorem ext_alloc (F : Nat → Prop) (γ : Gh) (w : World) (k : BK) (c : Array Value) (t : TypeId) :
    Ext F γ w (fun b => if b = w.heap.size then k else γ b) (w.alloc (.cells c t)) := by
  have hne : ∀ b, b < w.heap.size → b ≠ w.heap.size := fun b h => Nat.ne_of_lt h
  refine ⟨⟨by simp, fun b o v hc hp => ?_, fun b arr E fr hb => ?_⟩, rfl, rfl, fun a _ => RowKit.frozen?_alloc_cells w c t a, fun b hb _ => ⟨by simp [hne b hb], heap_alloc_old w _ hb⟩⟩
  · have hlt := World.block_lt_of_cell? w _ hc
    refine ⟨by simpa [Prot, hne b hlt] using hp, ?_⟩
    rw [World.cell?_alloc_lt _ _ _ hlt]; exact hc
  · have hlt := (Array.getElem?_eq_some_iff.1 hb).1
    exact ⟨arr, by rw [heap_alloc_old w _ hlt]; exact hb, rfl⟩

theorem ext_drew (F : Nat → Prop) (γ : Gh) (w : World) : Ext F γ w γ w.drew :=
  ⟨⟨Nat.le_refl _, fun b o v hc hp => ⟨hp, hc⟩, fun b arr E fr hb => ⟨arr, hb, rfl⟩⟩, rfl, rfl, fun _ _ => rfl, fun b hb _ => ⟨rfl, rfl⟩⟩

theorem boxv_ok {P : Program} {o : Oper} {t : TypeId} {x : Operand} {x' : Opd} (ho : o.op = .box t x) (h : chkO x x' = true) : PureOk P o (.boxv x') := by
  intro γ w ρ a c he hc
  have r1 := chkO_rep h he
  simp only [pev] at hc
  split at hc
  · rename_i hb
    simp only [Option.some.injEq] at hc
    subst hc
    obtain ⟨hl, h1, hr⟩ := r1.cells hb
    have hext := ext_alloc (fun _ => False) γ w .imm (a.eval x).cells t
    refine ⟨.pointer (some ⟨w.heap.size, 0, none⟩), _, _, ?_, hext, ?_⟩
    · simp [execOp, ho, Instr.box, newVar, newRow]
    · refine .view _ w.heap.size 0 (fun j => (a.eval x).cells.toList.getD j undef) (fun j hj => ?_) (fun j d hd => ?_)
      · rw [hl] at hj
        have hg : (a.eval x).cells.toList[j]? = some (a.eval x).cells.toList[j] := List.getElem?_eq_getElem hj
        have hg' : (a.eval x).cells.toList.getD j undef = (a.eval x).cells.toList[j] := by simp [List.getD, hg]
        rw [hg']
        refine ⟨?_, by simp [Prot], h1 j _ hg⟩
        rw [World.cell?_alloc_new]
        simp
      · have hj : j < (a.eval x).cells.toList.length := by rw [← hl]; exact (List.getElem?_eq_some_iff.1 hd).1
        have hg : (a.eval x).cells.toList[j]? = some (a.eval x).cells.toList[j] := List.getElem?_eq_getElem hj
        have hg' : (a.eval x).cells.toList.getD j undef = (a.eval x).cells.toList[j] := by simp [List.getD, hg]
        rw [hg']
        exact (hr j d _ hd hg).mono hext.mono
  · cases hc

/-- min and max of integers. -/
theorem mm_run {P : Program} {w : World} {γ : Gh} {ρ : Env} {a : Act} {mx : Bool} {k : IntKind} (he : EnvRel γ w ρ a.tmps) : ∀ (ys : List Operand) (ys' : List Opd) (n m : Int), chkOs ys ys' = true → mmAll mx k ρ n ys' = some m →
    ((ys.map a.eval).foldlM (if mx then Builtin.max2 else Builtin.min2) (.int k n)).run P w = .ok (.int k m) w
  | [], [], n, m, _, hm => by simp only [mmAll, Option.some.injEq] at hm; subst hm; rfl
  | [], _ :: _, _, _, h, _ => by simp [chkOs] at h
  | _ :: _, [], _, _, h, _ => by simp [chkOs] at h
  | y :: ys, y' :: ys', n, m, h, hm => by
    simp only [chkOs, Bool.and_eq_true] at h
    have r := chkO_rep h.1 he
    simp only [mmAll] at hm
    cases hy : y'.ev ρ <;> simp only [hy] at hm r <;> try (cases hm; done)
    rename_i k' b
    split at hm
    · rename_i hk
      subst hk
      generalize hu : a.eval y = v at r
      cases r
      have ih := mm_run (P := P) he ys ys' _ m h.2 hm
      simp only [List.map_cons, List.foldlM_cons, hu]
      cases mx
      · simp only [Bool.false_eq_true, if_false] at ih ⊢
        simp only [Sem.run_bind, Builtin.min2, Sem.run_pure, Result.andThen_ok]
        simpa [mm2] using ih
      · simp only [if_true] at ih ⊢
        simp only [Sem.run_bind, Builtin.max2, Sem.run_pure, Result.andThen_ok]
        simpa [mm2] using ih
    · cases hm

theorem mm_ok {P : Program} {o : Oper} {ts : Array TypeId} {mx : Bool} {x : Operand} {ys : List Operand} {x' : Opd} {ys' : List Opd} {args : Array Operand}
    (ho : o.op = .call { callee := .builtin (if mx then .max else .min), args := args, argTypes := ts }) (ha : args.toList = x :: ys) (h : chkO x x' = true) (h2 : chkOs ys ys' = true) : PureOk P o (.mm mx x' ys') := by
  intro γ w ρ a c he hc
  have r1 := chkO_rep h he
  simp only [pev] at hc
  cases hx : x'.ev ρ <;> simp only [hx] at hc r1 <;> try (cases hc; done)
  rename_i k n
  generalize hv : a.eval x = v at r1
  cases r1
  cases hm : mmAll mx k ρ n ys' with
  | none => simp [hm] at hc
  | some m =>
    simp only [hm, Option.map_some, Option.some.injEq] at hc
    subst hc
    refine pure_same (v := .int k m) ?_ (.int _ _)
    have hr := mm_run (P := P) (mx := mx) he ys ys' n m h2 hm
    have hargs : args.toList.map a.eval = .int k n :: ys.map a.eval := by rw [ha]; simp [hv]
    cases mx
    · simp only [Bool.false_eq_true, if_false] at ho hr
      simp [execOp, ho, resolve, invoke, builtin, Builtin.min_, hargs, hr]
    · simp only [if_true] at ho hr
      simp [execOp, ho, resolve, invoke, builtin, Builtin.max_, hargs, hr]

end Go.Ab
