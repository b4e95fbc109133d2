/- Values: the data, and how much of it there is. -/
import Derived.Test.YthkpgjnibolnhaaIr
import Derived.Test.YthkpgjnibolnhaaAbsP
set_option maxRecDepth 100000
set_option linter.unusedSimpArgs false
set_option linter.unusedVariables false
namespace Go.Proofs.Ythkpgjnibolnhaa
open Go.Ab

mutual
inductive Val where
  | mk (k n : Int) (s : List UInt8) (l : List Val) (m : List Mem)
inductive Mem where
  | mk (name : List UInt8) (v : Val)
end

mutual
def cV : Val → List AV
  | .mk k n s l m => [.int .i64 k, .int .i64 n, .str s, .sl .no 5 (cVs l), .sl .no 6 (cMs m)]
def cVs : List Val → List (List AV)
  | [] => []
  | v :: r => cV v :: cVs r
def cM : Mem → List AV
  | .mk s v => .str s :: cV v
def cMs : List Mem → List (List AV)
  | [] => []
  | x :: r => cM x :: cMs r
end

theorem cVs_map : ∀ l, cVs l = l.map cV
  | [] => rfl
  | v :: r => by rw [cVs, cVs_map r]; rfl
theorem cMs_map : ∀ l, cMs l = l.map cM
  | [] => rfl
  | v :: r => by rw [cMs, cMs_map r]; rfl
theorem cVs_len (l : List Val) : (cVs l).length = l.length := by rw [cVs_map]; simp
theorem cMs_len (l : List Mem) : (cMs l).length = l.length := by rw [cMs_map]; simp
theorem cVs_get {l a : List Val} {x : Val} {b : List Val} (h : l = a ++ x :: b) : (cVs l).getD a.length [] = cV x := by rw [cVs_map, getD_mid' h]
theorem cMs_get {l a : List Mem} {x : Mem} {b : List Mem} (h : l = a ++ x :: b) : (cMs l).getD a.length [] = cM x := by rw [cMs_map, getD_mid' h]
theorem cV_mk (k n : Int) (s : List UInt8) (l : List Val) (m : List Mem) : cV (.mk k n s l m) = [.int .i64 k, .int .i64 n, .str s, .sl .no 5 (cVs l), .sl .no 6 (cMs m)] := rfl
theorem cM_mk (s : List UInt8) (v : Val) : cM (.mk s v) = .str s :: cV v := rfl
theorem cV_strip (v : Val) : (cV v).map AV.strip1 = cV v := by cases v; rfl
theorem cM_strip (v : Mem) : (cM v).map AV.strip1 = cM v := by cases v with | mk s v => cases v; rfl
theorem cVs_strip (l : List Val) : (cVs l).map (·.map AV.strip1) = cVs l := by
  rw [cVs_map, List.map_map]; exact List.map_congr_left fun v _ => cV_strip v
theorem cMs_strip (l : List Mem) : (cMs l).map (·.map AV.strip1) = cMs l := by
  rw [cMs_map, List.map_map]; exact List.map_congr_left fun v _ => cM_strip v

mutual
theorem Val.ind {P : Val → Prop} (h : ∀ k n s l m, (∀ v ∈ l, P v) → (∀ s v, Mem.mk s v ∈ m → P v) → P (.mk k n s l m)) : ∀ v, P v
  | .mk k n s l m => h k n s l m (Val.indL h l) (fun s v hm => Val.indM h m s v hm)
theorem Val.indL {P : Val → Prop} (h : ∀ k n s l m, (∀ v ∈ l, P v) → (∀ s v, Mem.mk s v ∈ m → P v) → P (.mk k n s l m)) : ∀ l : List Val, ∀ v ∈ l, P v
  | [], _, hv => by cases hv
  | x :: r, v, hv => (List.mem_cons.1 hv).elim (fun e => e ▸ Val.ind h x) (Val.indL h r v)
theorem Val.ind1 {P : Val → Prop} (h : ∀ k n s l m, (∀ v ∈ l, P v) → (∀ s v, Mem.mk s v ∈ m → P v) → P (.mk k n s l m)) : ∀ m : Mem, ∀ s v, m = .mk s v → P v
  | .mk s v, s', v', e => by cases e; exact Val.ind h v
theorem Val.indM {P : Val → Prop} (h : ∀ k n s l m, (∀ v ∈ l, P v) → (∀ s v, Mem.mk s v ∈ m → P v) → P (.mk k n s l m)) : ∀ l : List Mem, ∀ s v, Mem.mk s v ∈ l → P v
  | [], _, _, hv => by cases hv
  | x :: r, s, v, hv => (List.mem_cons.1 hv).elim (fun e => Val.ind1 h x s v e.symm) (Val.indM h r s v)
end

theorem cV_len (v : Val) : (cV v).length = 5 := by cases v; rfl
theorem cM_len (x : Mem) : (cM x).length = 6 := by cases x with | mk s v => cases v; rfl
theorem cV_take (v : Val) : (cV v).take 5 = cV v := by cases v; rfl
theorem cM_take (x : Mem) : (cM x).take 6 = cM x := by cases x with | mk s v => cases v; rfl
theorem cV_splice (a b c d e : AV) (v : Val) : splice [a, b, c, d, e] 0 (cV v) = cV v := by cases v; rfl
theorem cM_splice (a b c d e f : AV) (x : Mem) : splice [a, b, c, d, e, f] 0 (cM x) = cM x := by cases x with | mk s v => cases v; rfl

/-! how much there is -/

mutual
def bV : Val → Nat
  | .mk _ _ s l m => 1 + s.length + bVs l + bMs m
def bVs : List Val → Nat
  | [] => 0
  | v :: r => bV v + bVs r
def bM : Mem → Nat
  | .mk s v => s.length + bV v
def bMs : List Mem → Nat
  | [] => 0
  | x :: r => bM x + bMs r
end
theorem bV_pos (v : Val) : 1 ≤ bV v := by cases v; simp only [bV]; omega
theorem bM_pos (v : Mem) : 1 ≤ bM v := by cases v with | mk s v => have := bV_pos v; simp only [bM]; omega
theorem bVs_len : ∀ l, l.length ≤ bVs l
  | [] => by simp
  | v :: r => by have := bVs_len r; have := bV_pos v; simp only [bVs, List.length_cons]; omega
theorem bMs_len : ∀ l, l.length ≤ bMs l
  | [] => by simp
  | v :: r => by have := bMs_len r; have := bM_pos v; simp only [bMs, List.length_cons]; omega
theorem bVs_mid (a : List Val) (x : Val) (b : List Val) : bVs (a ++ x :: b) = bVs a + bV x + bVs b := by
  induction a with
  | nil => simp [bVs]
  | cons y a ih => simp only [List.cons_append, bVs, ih]; omega
theorem bMs_mid (a : List Mem) (x : Mem) (b : List Mem) : bMs (a ++ x :: b) = bMs a + bM x + bMs b := by
  induction a with
  | nil => simp [bMs]
  | cons y a ih => simp only [List.cons_append, bMs, ih]; omega

abbrev Lim : Nat := 1099511627776

theorem sizeC : ∀ v, bV v ≤ Lim → Pure Try.prog 56 [.agg (cV v)] (.int .i64 (bV v)) := by
  refine Val.ind fun k n s l m ihl ihm hb => ?_
  refine Pure.go ir56 ck56 (Nat.le_refl _) fun KP Q hQ => ?_
  have hl := cVs_len l
  have hm := cMs_len m
  have hll := bVs_len l
  have hml := bMs_len m
  have hb' : 1 + s.length + bVs l + bMs m ≤ Lim := hb
  simp only [Lim] at hb'
  simp (disch := first | omega | assumption) only [ir56, cV_mk, wrap64, steps, st2, pev, rev, oev, optr, ibin, sbin, ishf, bound, mmAll, mm2, mk, mkArgs, AV.cells, AV.boxable, AV.one, AV.strip1, fillA, fillS, Nat.reduceEqDiff, reduceCtorEq, ↓reduceIte, Nat.reduceAdd, Int.reduceNeg, Nat.reduceLeDiff, Int.reduceToNat, Int.reduceEq, Int.reduceLT, Int.reduceLE, Int.reduceAdd]
  refine goL_range l 4 (fun n : Int => [(3, .int .i64 n)]) (fun done rest n H => n + bVs rest = 1 + s.length + bVs l ∧ H = Heap.emp) (1 + s.length) (by simp (disch := first | omega | assumption) only [steps, st2, pev, rev, oev, optr, ibin, sbin, ishf, bound, mmAll, mm2, mk, mkArgs, AV.cells, AV.boxable, AV.one, AV.strip1, fillA, fillS, Nat.reduceEqDiff, reduceCtorEq, ↓reduceIte, Nat.reduceAdd, Int.reduceNeg, Nat.reduceLeDiff, Int.reduceToNat, Int.reduceEq, Int.reduceLT, Int.reduceLE, Int.reduceAdd]) ⟨by omega, rfl⟩ ?_ ?_
  · rintro n H J ⟨hn, rfl⟩ hlt
    simp only [bVs] at hn
    simp (disch := first | omega | assumption) only [hl, hlt, steps, st2, pev, rev, oev, optr, ibin, sbin, ishf, bound, mmAll, mm2, mk, mkArgs, AV.cells, AV.boxable, AV.one, AV.strip1, fillA, fillS, Nat.reduceEqDiff, reduceCtorEq, ↓reduceIte, Nat.reduceAdd, Int.reduceNeg, Nat.reduceLeDiff, Int.reduceToNat, Int.reduceEq, Int.reduceLT, Int.reduceLE, Int.reduceAdd]
    refine goL_range m 5 (fun n : Int => [(3, .int .i64 n)]) (fun done rest n H => n + bMs rest = 1 + s.length + bVs l + bMs m ∧ H = Heap.emp) n (by simp (disch := first | omega | assumption) only [steps, st2, pev, rev, oev, optr, ibin, sbin, ishf, bound, mmAll, mm2, mk, mkArgs, AV.cells, AV.boxable, AV.one, AV.strip1, fillA, fillS, Nat.reduceEqDiff, reduceCtorEq, ↓reduceIte, Nat.reduceAdd, Int.reduceNeg, Nat.reduceLeDiff, Int.reduceToNat, Int.reduceEq, Int.reduceLT, Int.reduceLE, Int.reduceAdd]) ⟨by omega, rfl⟩ ?_ ?_
    · rintro n H J ⟨hn, rfl⟩ hlt
      simp only [bMs] at hn
      simp (disch := first | omega | assumption) only [hm, hlt, steps, st2, pev, rev, oev, optr, ibin, sbin, ishf, bound, mmAll, mm2, mk, mkArgs, AV.cells, AV.boxable, AV.one, AV.strip1, fillA, fillS, Nat.reduceEqDiff, reduceCtorEq, ↓reduceIte, Nat.reduceAdd, Int.reduceNeg, Nat.reduceLeDiff, Int.reduceToNat, Int.reduceEq, Int.reduceLT, Int.reduceLE, Int.reduceAdd]
      have : n = ((bV (.mk k n s l m) : Nat) : Int) := by simp only [bV]; omega
      exact hQ _ _ _ _ nofun rfl (by simp [tupOf, envOf, AV.strip, AV.strip1, bV, this])
    · rintro done x rest n H J hd hlt _ ⟨hn, rfl⟩ hJ
      have hg := cMs_get hd
      have hbm := bMs_mid done x rest
      rw [← hd] at hbm
      cases x with
      | mk t v =>
      simp only [bMs, bM] at hn hbm
      simp (disch := first | omega | assumption) only [cV_len, cV_take, cV_splice, cM_len, cM_take, cM_splice, cM_mk, hm, hlt, hg, wrap64, steps, st2, pev, rev, oev, optr, ibin, sbin, ishf, bound, mmAll, mm2, mk, mkArgs, AV.cells, AV.boxable, AV.one, AV.strip1, fillA, fillS, Nat.reduceEqDiff, reduceCtorEq, ↓reduceIte, Nat.reduceAdd, Int.reduceNeg, Nat.reduceLeDiff, Int.reduceToNat, Int.reduceEq, Int.reduceLT, Int.reduceLE, Int.reduceAdd]
      refine goK_pure (ihm t v (by rw [hd]; simp) (by simp only [Lim]; omega)) ?_
      simp (disch := first | omega | assumption) only [hl, hm, hlt, hg, cM_mk, wrap64, steps, st2, pev, rev, oev, optr, ibin, sbin, ishf, bound, mmAll, mm2, mk, mkArgs, AV.cells, AV.boxable, AV.one, AV.strip1, fillA, fillS, Nat.reduceEqDiff, reduceCtorEq, ↓reduceIte, Nat.reduceAdd, Int.reduceNeg, Nat.reduceLeDiff, Int.reduceToNat, Int.reduceEq, Int.reduceLT, Int.reduceLE, Int.reduceAdd]
      refine goJ (hJ (n + t.length + bV v) Heap.emp ⟨by omega, rfl⟩) (by simp (disch := first | omega | assumption) only [steps, st2, pev, rev, oev, optr, ibin, sbin, ishf, bound, mmAll, mm2, mk, mkArgs, AV.cells, AV.boxable, AV.one, AV.strip1, fillA, fillS, Nat.reduceEqDiff, reduceCtorEq, ↓reduceIte, Nat.reduceAdd, Int.reduceNeg, Nat.reduceLeDiff, Int.reduceToNat, Int.reduceEq, Int.reduceLT, Int.reduceLE, Int.reduceAdd])
  · rintro done x rest n H J hd hlt _ ⟨hn, rfl⟩ hJ
    have hg := cVs_get hd
    have hbm := bVs_mid done x rest
    rw [← hd] at hbm
    simp only [bVs] at hn
    simp (disch := first | omega | assumption) only [cV_len, cV_take, cV_splice, cM_len, cM_take, cM_splice, cM_mk, hl, hlt, hg, steps, st2, pev, rev, oev, optr, ibin, sbin, ishf, bound, mmAll, mm2, mk, mkArgs, AV.cells, AV.boxable, AV.one, AV.strip1, fillA, fillS, Nat.reduceEqDiff, reduceCtorEq, ↓reduceIte, Nat.reduceAdd, Int.reduceNeg, Nat.reduceLeDiff, Int.reduceToNat, Int.reduceEq, Int.reduceLT, Int.reduceLE, Int.reduceAdd]
    refine goK_pure (ihl x (by rw [hd]; simp) (by simp only [Lim]; omega)) ?_
    simp (disch := first | omega | assumption) only [wrap64, steps, st2, pev, rev, oev, optr, ibin, sbin, ishf, bound, mmAll, mm2, mk, mkArgs, AV.cells, AV.boxable, AV.one, AV.strip1, fillA, fillS, Nat.reduceEqDiff, reduceCtorEq, ↓reduceIte, Nat.reduceAdd, Int.reduceNeg, Nat.reduceLeDiff, Int.reduceToNat, Int.reduceEq, Int.reduceLT, Int.reduceLE, Int.reduceAdd]
    refine goJ (hJ (n + bV x) Heap.emp ⟨by omega, rfl⟩) (by simp (disch := first | omega | assumption) only [steps, st2, pev, rev, oev, optr, ibin, sbin, ishf, bound, mmAll, mm2, mk, mkArgs, AV.cells, AV.boxable, AV.one, AV.strip1, fillA, fillS, Nat.reduceEqDiff, reduceCtorEq, ↓reduceIte, Nat.reduceAdd, Int.reduceNeg, Nat.reduceLeDiff, Int.reduceToNat, Int.reduceEq, Int.reduceLT, Int.reduceLE, Int.reduceAdd])

noncomputable def eqd {α : Type} (a b : α) : Bool := @decide (a = b) (Classical.propDecidable _)
theorem eqd_true {α : Type} {a b : α} (h : a = b) : eqd a b = true := by simp [eqd, h]
theorem eqd_false {α : Type} {a b : α} (h : a ≠ b) : eqd a b = false := by simp [eqd, h]
theorem eqd_comm {α : Type} (a b : α) : eqd a b = eqd b a := by
  by_cases h : a = b
  · rw [eqd_true h, eqd_true h.symm]
  · rw [eqd_false h, eqd_false (Ne.symm h)]

def cT (l : List (List UInt8)) : List (List AV) := l.map fun k => [.str k]
theorem cT_len (l : List (List UInt8)) : (cT l).length = l.length := by simp [cT]
theorem cT_strip (l : List (List UInt8)) : (cT l).map (·.map AV.strip1) = cT l := by simp [cT, AV.strip1]
theorem cT_get {l a : List (List UInt8)} {x : List UInt8} {b : List (List UInt8)} (h : l = a ++ x :: b) : (cT l).getD a.length [] = [.str x] := getD_mid' h

/-- A loop over two lists of one length. -/
theorem two_mid {α : Type} {a b done rest : List α} {x : α} (h : a = done ++ x :: rest) (hl : a.length = b.length) (hp : b.take done.length = done) : ∃ y r, b = done ++ y :: r := by
  have h1 : done.length < b.length := by rw [← hl, h]; simp
  refine ⟨b[done.length], b.drop (done.length + 1), ?_⟩
  conv => lhs; rw [← List.take_append_drop done.length b, hp, List.drop_eq_getElem_cons h1]

theorem two_step {α : Type} {b done r : List α} {y : α} (h : b = done ++ y :: r) : b.take (done ++ [y]).length = done ++ [y] := by
  subst h
  have e : done ++ y :: r = (done ++ [y]) ++ r := by simp
  rw [e, List.take_left']; rfl
theorem two_end {α : Type} {a b : List α} (hl : a.length = b.length) (hp : b.take a.length = a) : a = b := by
  rw [hl, List.take_length] at hp; exact hp.symm
theorem two_ne {α : Type} {a b done rest r : List α} {x y : α} (h : a = done ++ x :: rest) (h' : b = done ++ y :: r) (hxy : x ≠ y) : a ≠ b := fun e => by
  rw [h, h'] at e
  exact hxy (List.cons.inj (List.append_cancel_left e)).1

theorem val_ext {k k' n n' : Int} {s s' : List UInt8} {l l' : List Val} {m m' : List Mem} : (Val.mk k n s l m = Val.mk k' n' s' l' m') = (k = k' ∧ n = n' ∧ s = s' ∧ l = l' ∧ m = m') := by simp
end Go.Proofs.Ythkpgjnibolnhaa
