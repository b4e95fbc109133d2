/- Values: the data, and what the first functions over them compute. -/
import Derived.Test.YtpjafglhdlfnbaaDoorIr
import Derived.Test.YtpjafglhdlfnbaaDoorAbsP
set_option maxRecDepth 100000
set_option linter.unusedSimpArgs false
set_option linter.unusedVariables false
namespace Go.Proofs.YtpjafglhdlfnbaaDoor
open Go.Ab

mutual
inductive Val where
  | mk (k n : Int) (s : List UInt8) (l : List Val) (m : List Mem)
inductive Mem where
  | mk (name : List UInt8) (v : Val)
end

mutual
def cV : Val → List AV
  | .mk k n s l m => [.int .i64 k, .int .i64 n, .str s, .sl .no 5 (cVs l), .sl .no 6 (cMs m)]
def cVs : List Val → List (List AV)
  | [] => []
  | v :: r => cV v :: cVs r
def cM : Mem → List AV
  | .mk s v => .str s :: cV v
def cMs : List Mem → List (List AV)
  | [] => []
  | x :: r => cM x :: cMs r
end

theorem cVs_map : ∀ l, cVs l = l.map cV
  | [] => rfl
  | v :: r => by rw [cVs, cVs_map r]; rfl
theorem cMs_map : ∀ l, cMs l = l.map cM
  | [] => rfl
  | v :: r => by rw [cMs, cMs_map r]; rfl
theorem cVs_len (l : List Val) : (cVs l).length = l.length := by rw [cVs_map]; simp
theorem cMs_len (l : List Mem) : (cMs l).length = l.length := by rw [cMs_map]; simp
theorem cVs_get {l a : List Val} {x : Val} {b : List Val} (h : l = a ++ x :: b) : (cVs l).getD a.length [] = cV x := by rw [cVs_map, getD_mid' h]
theorem cMs_get {l a : List Mem} {x : Mem} {b : List Mem} (h : l = a ++ x :: b) : (cMs l).getD a.length [] = cM x := by rw [cMs_map, getD_mid' h]
theorem cV_mk (k n : Int) (s : List UInt8) (l : List Val) (m : List Mem) : cV (.mk k n s l m) = [.int .i64 k, .int .i64 n, .str s, .sl .no 5 (cVs l), .sl .no 6 (cMs m)] := rfl
theorem cM_mk (s : List UInt8) (v : Val) : cM (.mk s v) = .str s :: cV v := rfl
theorem cV_strip (v : Val) : (cV v).map AV.strip1 = cV v := by cases v; rfl
theorem cM_strip (v : Mem) : (cM v).map AV.strip1 = cM v := by cases v with | mk s v => cases v; rfl
theorem cVs_strip (l : List Val) : (cVs l).map (·.map AV.strip1) = cVs l := by
  rw [cVs_map, List.map_map]; exact List.map_congr_left fun v _ => cV_strip v
theorem cMs_strip (l : List Mem) : (cMs l).map (·.map AV.strip1) = cMs l := by
  rw [cMs_map, List.map_map]; exact List.map_congr_left fun v _ => cM_strip v

mutual
theorem Val.ind {P : Val → Prop} (h : ∀ k n s l m, (∀ v ∈ l, P v) → (∀ s v, Mem.mk s v ∈ m → P v) → P (.mk k n s l m)) : ∀ v, P v
  | .mk k n s l m => h k n s l m (Val.indL h l) (fun s v hm => Val.indM h m s v hm)
theorem Val.indL {P : Val → Prop} (h : ∀ k n s l m, (∀ v ∈ l, P v) → (∀ s v, Mem.mk s v ∈ m → P v) → P (.mk k n s l m)) : ∀ l : List Val, ∀ v ∈ l, P v
  | [], _, hv => by cases hv
  | x :: r, v, hv => (List.mem_cons.1 hv).elim (fun e => e ▸ Val.ind h x) (Val.indL h r v)
theorem Val.ind1 {P : Val → Prop} (h : ∀ k n s l m, (∀ v ∈ l, P v) → (∀ s v, Mem.mk s v ∈ m → P v) → P (.mk k n s l m)) : ∀ m : Mem, ∀ s v, m = .mk s v → P v
  | .mk s v, s', v', e => by cases e; exact Val.ind h v
theorem Val.indM {P : Val → Prop} (h : ∀ k n s l m, (∀ v ∈ l, P v) → (∀ s v, Mem.mk s v ∈ m → P v) → P (.mk k n s l m)) : ∀ l : List Mem, ∀ s v, Mem.mk s v ∈ l → P v
  | [], _, _, hv => by cases hv
  | x :: r, s, v, hv => (List.mem_cons.1 hv).elim (fun e => Val.ind1 h x s v e.symm) (Val.indM h r s v)
end

theorem cV_len (v : Val) : (cV v).length = 5 := by cases v; rfl
theorem cM_len (x : Mem) : (cM x).length = 6 := by cases x with | mk s v => cases v; rfl
theorem cV_take (v : Val) : (cV v).take 5 = cV v := by cases v; rfl
theorem cM_take (x : Mem) : (cM x).take 6 = cM x := by cases x with | mk s v => cases v; rfl
theorem cV_splice (a b c d e : AV) (v : Val) : splice [a, b, c, d, e] 0 (cV v) = cV v := by cases v; rfl
theorem cM_splice (a b c d e f : AV) (x : Mem) : splice [a, b, c, d, e, f] 0 (cM x) = cM x := by cases x with | mk s v => cases v; rfl

/-! how much there is -/

mutual
def bV : Val → Nat
  | .mk _ _ s l m => 1 + s.length + bVs l + bMs m
def bVs : List Val → Nat
  | [] => 0
  | v :: r => bV v + bVs r
def bM : Mem → Nat
  | .mk s v => s.length + bV v
def bMs : List Mem → Nat
  | [] => 0
  | x :: r => bM x + bMs r
end
theorem bV_pos (v : Val) : 1 ≤ bV v := by cases v; simp only [bV]; omega
theorem bM_pos (v : Mem) : 1 ≤ bM v := by cases v with | mk s v => have := bV_pos v; simp only [bM]; omega
theorem bVs_len : ∀ l, l.length ≤ bVs l
  | [] => by simp
  | v :: r => by have := bVs_len r; have := bV_pos v; simp only [bVs, List.length_cons]; omega
theorem bMs_len : ∀ l, l.length ≤ bMs l
  | [] => by simp
  | v :: r => by have := bMs_len r; have := bM_pos v; simp only [bMs, List.length_cons]; omega
theorem bVs_mid (a : List Val) (x : Val) (b : List Val) : bVs (a ++ x :: b) = bVs a + bV x + bVs b := by
  induction a with
  | nil => simp [bVs]
  | cons y a ih => simp only [List.cons_append, bVs, ih]; omega
theorem bMs_mid (a : List Mem) (x : Mem) (b : List Mem) : bMs (a ++ x :: b) = bMs a + bM x + bMs b := by
  induction a with
  | nil => simp [bMs]
  | cons y a ih => simp only [List.cons_append, bMs, ih]; omega

abbrev Lim : Nat := 1099511627776

theorem sizeC : ∀ v, bV v ≤ Lim → Pure Tryd.prog 16 [.agg (cV v)] (.int .i64 (bV v)) := by
  refine Val.ind fun k n s l m ihl ihm hb => ?_
  refine Pure.go ir16 ck16 (Nat.le_refl _) fun KP Q hQ => ?_
  have hl := cVs_len l
  have hm := cMs_len m
  have hll := bVs_len l
  have hml := bMs_len m
  have hb' : 1 + s.length + bVs l + bMs m ≤ Lim := hb
  simp only [Lim] at hb'
  simp (disch := first | omega | assumption) only [ir16, cV_mk, wrap64, steps, st2, pev, rev, oev, optr, ibin, sbin, ishf, bound, mmAll, mm2, mk, mkArgs, AV.cells, AV.boxable, AV.one, AV.strip1, fillA, fillS, Nat.reduceEqDiff, reduceCtorEq, ↓reduceIte, Nat.reduceAdd, Int.reduceNeg, Nat.reduceLeDiff, Int.reduceToNat, Int.reduceEq, Int.reduceLT, Int.reduceLE, Int.reduceAdd]
  refine goL_range l 4 (fun n : Int => [(3, .int .i64 n)]) (fun done rest n H => n + bVs rest = 1 + s.length + bVs l ∧ H = Heap.emp) (1 + s.length) (by simp (disch := first | omega | assumption) only [steps, st2, pev, rev, oev, optr, ibin, sbin, ishf, bound, mmAll, mm2, mk, mkArgs, AV.cells, AV.boxable, AV.one, AV.strip1, fillA, fillS, Nat.reduceEqDiff, reduceCtorEq, ↓reduceIte, Nat.reduceAdd, Int.reduceNeg, Nat.reduceLeDiff, Int.reduceToNat, Int.reduceEq, Int.reduceLT, Int.reduceLE, Int.reduceAdd]) ⟨by omega, rfl⟩ ?_ ?_
  · rintro n H J ⟨hn, rfl⟩ hlt
    simp only [bVs] at hn
    simp (disch := first | omega | assumption) only [hl, hlt, steps, st2, pev, rev, oev, optr, ibin, sbin, ishf, bound, mmAll, mm2, mk, mkArgs, AV.cells, AV.boxable, AV.one, AV.strip1, fillA, fillS, Nat.reduceEqDiff, reduceCtorEq, ↓reduceIte, Nat.reduceAdd, Int.reduceNeg, Nat.reduceLeDiff, Int.reduceToNat, Int.reduceEq, Int.reduceLT, Int.reduceLE, Int.reduceAdd]
    refine goL_range m 5 (fun n : Int => [(3, .int .i64 n)]) (fun done rest n H => n + bMs rest = 1 + s.length + bVs l + bMs m ∧ H = Heap.emp) n (by simp (disch := first | omega | assumption) only [steps, st2, pev, rev, oev, optr, ibin, sbin, ishf, bound, mmAll, mm2, mk, mkArgs, AV.cells, AV.boxable, AV.one, AV.strip1, fillA, fillS, Nat.reduceEqDiff, reduceCtorEq, ↓reduceIte, Nat.reduceAdd, Int.reduceNeg, Nat.reduceLeDiff, Int.reduceToNat, Int.reduceEq, Int.reduceLT, Int.reduceLE, Int.reduceAdd]) ⟨by omega, rfl⟩ ?_ ?_
    · rintro n H J ⟨hn, rfl⟩ hlt
      simp only [bMs] at hn
      simp (disch := first | omega | assumption) only [hm, hlt, steps, st2, pev, rev, oev, optr, ibin, sbin, ishf, bound, mmAll, mm2, mk, mkArgs, AV.cells, AV.boxable, AV.one, AV.strip1, fillA, fillS, Nat.reduceEqDiff, reduceCtorEq, ↓reduceIte, Nat.reduceAdd, Int.reduceNeg, Nat.reduceLeDiff, Int.reduceToNat, Int.reduceEq, Int.reduceLT, Int.reduceLE, Int.reduceAdd]
      have : n = ((bV (.mk k n s l m) : Nat) : Int) := by simp only [bV]; omega
      exact hQ _ _ _ _ nofun rfl (by simp [tupOf, envOf, AV.strip, AV.strip1, bV, this])
    · rintro done x rest n H J hd hlt _ ⟨hn, rfl⟩ hJ
      have hg := cMs_get hd
      have hbm := bMs_mid done x rest
      rw [← hd] at hbm
      cases x with
      | mk t v =>
      simp only [bMs, bM] at hn hbm
      simp (disch := first | omega | assumption) only [cV_len, cV_take, cV_splice, cM_len, cM_take, cM_splice, cM_mk, hm, hlt, hg, wrap64, steps, st2, pev, rev, oev, optr, ibin, sbin, ishf, bound, mmAll, mm2, mk, mkArgs, AV.cells, AV.boxable, AV.one, AV.strip1, fillA, fillS, Nat.reduceEqDiff, reduceCtorEq, ↓reduceIte, Nat.reduceAdd, Int.reduceNeg, Nat.reduceLeDiff, Int.reduceToNat, Int.reduceEq, Int.reduceLT, Int.reduceLE, Int.reduceAdd]
      refine goK_pure (ihm t v (by rw [hd]; simp) (by simp only [Lim]; omega)) ?_
      simp (disch := first | omega | assumption) only [hl, hm, hlt, hg, cM_mk, wrap64, steps, st2, pev, rev, oev, optr, ibin, sbin, ishf, bound, mmAll, mm2, mk, mkArgs, AV.cells, AV.boxable, AV.one, AV.strip1, fillA, fillS, Nat.reduceEqDiff, reduceCtorEq, ↓reduceIte, Nat.reduceAdd, Int.reduceNeg, Nat.reduceLeDiff, Int.reduceToNat, Int.reduceEq, Int.reduceLT, Int.reduceLE, Int.reduceAdd]
      refine goJ (hJ (n + t.length + bV v) Heap.emp ⟨by omega, rfl⟩) (by simp (disch := first | omega | assumption) only [steps, st2, pev, rev, oev, optr, ibin, sbin, ishf, bound, mmAll, mm2, mk, mkArgs, AV.cells, AV.boxable, AV.one, AV.strip1, fillA, fillS, Nat.reduceEqDiff, reduceCtorEq, ↓reduceIte, Nat.reduceAdd, Int.reduceNeg, Nat.reduceLeDiff, Int.reduceToNat, Int.reduceEq, Int.reduceLT, Int.reduceLE, Int.reduceAdd])
  · rintro done x rest n H J hd hlt _ ⟨hn, rfl⟩ hJ
    have hg := cVs_get hd
    have hbm := bVs_mid done x rest
    rw [← hd] at hbm
    simp only [bVs] at hn
    simp (disch := first | omega | assumption) only [cV_len, cV_take, cV_splice, cM_len, cM_take, cM_splice, cM_mk, hl, hlt, hg, steps, st2, pev, rev, oev, optr, ibin, sbin, ishf, bound, mmAll, mm2, mk, mkArgs, AV.cells, AV.boxable, AV.one, AV.strip1, fillA, fillS, Nat.reduceEqDiff, reduceCtorEq, ↓reduceIte, Nat.reduceAdd, Int.reduceNeg, Nat.reduceLeDiff, Int.reduceToNat, Int.reduceEq, Int.reduceLT, Int.reduceLE, Int.reduceAdd]
    refine goK_pure (ihl x (by rw [hd]; simp) (by simp only [Lim]; omega)) ?_
    simp (disch := first | omega | assumption) only [wrap64, steps, st2, pev, rev, oev, optr, ibin, sbin, ishf, bound, mmAll, mm2, mk, mkArgs, AV.cells, AV.boxable, AV.one, AV.strip1, fillA, fillS, Nat.reduceEqDiff, reduceCtorEq, ↓reduceIte, Nat.reduceAdd, Int.reduceNeg, Nat.reduceLeDiff, Int.reduceToNat, Int.reduceEq, Int.reduceLT, Int.reduceLE, Int.reduceAdd]
    refine goJ (hJ (n + bV x) Heap.emp ⟨by omega, rfl⟩) (by simp (disch := first | omega | assumption) only [steps, st2, pev, rev, oev, optr, ibin, sbin, ishf, bound, mmAll, mm2, mk, mkArgs, AV.cells, AV.boxable, AV.one, AV.strip1, fillA, fillS, Nat.reduceEqDiff, reduceCtorEq, ↓reduceIte, Nat.reduceAdd, Int.reduceNeg, Nat.reduceLeDiff, Int.reduceToNat, Int.reduceEq, Int.reduceLT, Int.reduceLE, Int.reduceAdd])

/-! depth -/

mutual
def depthV : Val → Int
  | .mk k _ _ l m => if k = 6 then depthVs l 0 + 1 else if k = 7 then depthMs m 0 + 1 else 0
def depthVs : List Val → Int → Int
  | [], n => n
  | v :: r, n => depthVs r (mm2 true n (depthV v))
def depthM : Mem → Int
  | .mk _ v => depthV v
def depthMs : List Mem → Int → Int
  | [], n => n
  | x :: r, n => depthMs r (mm2 true n (depthM x))
end

theorem mm2_le {a b c : Int} (h1 : a ≤ c) (h2 : b ≤ c) : mm2 true a b ≤ c := by simp only [mm2, if_true]; split <;> assumption
theorem mm2_ge (a b : Int) : a ≤ mm2 true a b := by simp only [mm2, if_true]; split <;> omega
mutual
theorem depthV_le : ∀ v, 0 ≤ depthV v ∧ depthV v ≤ bV v
  | .mk k n s l m => by
    have h1 := depthVs_le l 0
    have h2 := depthMs_le m 0
    simp only [depthV, bV]
    split
    · omega
    · split <;> omega
theorem depthVs_le : ∀ l (n : Int), n ≤ depthVs l n ∧ (depthVs l n ≤ n ∨ depthVs l n ≤ bVs l)
  | [], n => by simp [depthVs, bVs]
  | v :: r, n => by
    have h1 := depthV_le v
    have h2 := depthVs_le r (mm2 true n (depthV v))
    have h3 := mm2_ge n (depthV v)
    have h4 : mm2 true n (depthV v) = n ∨ mm2 true n (depthV v) = depthV v := by simp only [mm2, if_true]; split <;> simp
    simp only [depthVs, bVs]
    omega
theorem depthM_le : ∀ x, 0 ≤ depthM x ∧ depthM x ≤ bM x
  | .mk s v => by have := depthV_le v; simp only [depthM, bM]; omega
theorem depthMs_le : ∀ l (n : Int), n ≤ depthMs l n ∧ (depthMs l n ≤ n ∨ depthMs l n ≤ bMs l)
  | [], n => by simp [depthMs, bMs]
  | v :: r, n => by
    have h1 := depthM_le v
    have h2 := depthMs_le r (mm2 true n (depthM v))
    have h3 := mm2_ge n (depthM v)
    have h4 : mm2 true n (depthM v) = n ∨ mm2 true n (depthM v) = depthM v := by simp only [mm2, if_true]; split <;> simp
    simp only [depthMs, bMs]
    omega
end

theorem depthC : ∀ v, bV v ≤ Lim → Pure Tryd.prog 34 [.agg (cV v)] (.int .i64 (depthV v)) := by
  refine Val.ind fun k n s l m ihl ihm hb => ?_
  refine Pure.go ir34 ck34 (Nat.le_refl _) fun KP Q hQ => ?_
  have hl := cVs_len l
  have hm := cMs_len m
  have hll := bVs_len l
  have hml := bMs_len m
  have hb' : 1 + s.length + bVs l + bMs m ≤ Lim := hb
  simp only [Lim] at hb'
  have d1 := depthVs_le l 0
  have d2 := depthMs_le m 0
  by_cases k6 : k = 6
  · subst k6
    simp (disch := first | omega | assumption) only [ir34, cV_mk, hl, steps, st2, pev, rev, oev, optr, ibin, sbin, ishf, bound, mmAll, mm2, mk, mkArgs, AV.cells, AV.boxable, AV.one, AV.strip1, fillA, fillS, Nat.reduceEqDiff, reduceCtorEq, ↓reduceIte, Nat.reduceAdd, Int.reduceNeg, Nat.reduceLeDiff, Int.reduceToNat, Int.reduceEq, Int.reduceLT, Int.reduceLE, Int.reduceAdd]
    refine goL_range l 15 (fun n : Int => [(3, .int .i64 n)]) (fun done rest n H => depthVs rest n = depthVs l 0) 0 (by simp (disch := first | omega | assumption) only [steps, st2, pev, rev, oev, optr, ibin, sbin, ishf, bound, mmAll, mm2, mk, mkArgs, AV.cells, AV.boxable, AV.one, AV.strip1, fillA, fillS, Nat.reduceEqDiff, reduceCtorEq, ↓reduceIte, Nat.reduceAdd, Int.reduceNeg, Nat.reduceLeDiff, Int.reduceToNat, Int.reduceEq, Int.reduceLT, Int.reduceLE, Int.reduceAdd]) rfl ?_ ?_
    · rintro n H J hn hlt
      simp only [depthVs] at hn
      simp (disch := first | omega | assumption) only [hl, hlt, wrap64, hn, steps, st2, pev, rev, oev, optr, ibin, sbin, ishf, bound, mmAll, mm2, mk, mkArgs, AV.cells, AV.boxable, AV.one, AV.strip1, fillA, fillS, Nat.reduceEqDiff, reduceCtorEq, ↓reduceIte, Nat.reduceAdd, Int.reduceNeg, Nat.reduceLeDiff, Int.reduceToNat, Int.reduceEq, Int.reduceLT, Int.reduceLE, Int.reduceAdd]
      exact hQ _ _ _ _ nofun rfl (by simp [tupOf, envOf, AV.strip, AV.strip1, depthV])
    · rintro done x rest n H J hd hlt _ hn hJ
      have hg := cVs_get hd
      have hbm := bVs_mid done x rest
      rw [← hd] at hbm
      simp only [depthVs] at hn
      simp (disch := first | omega | assumption) only [cV_len, cV_take, cV_splice, cM_len, cM_take, cM_splice, cM_mk, hl, hlt, hg, steps, st2, pev, rev, oev, optr, ibin, sbin, ishf, bound, mmAll, mm2, mk, mkArgs, AV.cells, AV.boxable, AV.one, AV.strip1, fillA, fillS, Nat.reduceEqDiff, reduceCtorEq, ↓reduceIte, Nat.reduceAdd, Int.reduceNeg, Nat.reduceLeDiff, Int.reduceToNat, Int.reduceEq, Int.reduceLT, Int.reduceLE, Int.reduceAdd]
      refine goA_intro fun b hb => ?_
      simp (disch := first | omega | assumption) only [cV_len, cV_take, cV_splice, cM_len, cM_take, cM_splice, cM_mk, steps, st2, pev, rev, oev, optr, ibin, sbin, ishf, bound, mmAll, mm2, mk, mkArgs, AV.cells, AV.boxable, AV.one, AV.strip1, fillA, fillS, Nat.reduceEqDiff, reduceCtorEq, ↓reduceIte, Nat.reduceAdd, Int.reduceNeg, Nat.reduceLeDiff, Int.reduceToNat, Int.reduceEq, Int.reduceLT, Int.reduceLE, Int.reduceAdd]
      refine goK_pure (ihl x (by rw [hd]; simp) (by simp only [Lim]; omega)) ?_
      simp (disch := first | omega | assumption) only [wrap64, steps, st2, pev, rev, oev, optr, ibin, sbin, ishf, bound, mmAll, mm2, mk, mkArgs, AV.cells, AV.boxable, AV.one, AV.strip1, fillA, fillS, Nat.reduceEqDiff, reduceCtorEq, ↓reduceIte, Nat.reduceAdd, Int.reduceNeg, Nat.reduceLeDiff, Int.reduceToNat, Int.reduceEq, Int.reduceLT, Int.reduceLE, Int.reduceAdd]
      exact goJ (hJ _ _ hn) (by simp (disch := first | omega | assumption) only [steps, st2, pev, rev, oev, optr, ibin, sbin, ishf, bound, mmAll, mm2, mk, mkArgs, AV.cells, AV.boxable, AV.one, AV.strip1, fillA, fillS, Nat.reduceEqDiff, reduceCtorEq, ↓reduceIte, Nat.reduceAdd, Int.reduceNeg, Nat.reduceLeDiff, Int.reduceToNat, Int.reduceEq, Int.reduceLT, Int.reduceLE, Int.reduceAdd])
  by_cases k7 : k = 7
  · subst k7
    simp (disch := first | omega | assumption) only [ir34, cV_mk, hm, steps, st2, pev, rev, oev, optr, ibin, sbin, ishf, bound, mmAll, mm2, mk, mkArgs, AV.cells, AV.boxable, AV.one, AV.strip1, fillA, fillS, Nat.reduceEqDiff, reduceCtorEq, ↓reduceIte, Nat.reduceAdd, Int.reduceNeg, Nat.reduceLeDiff, Int.reduceToNat, Int.reduceEq, Int.reduceLT, Int.reduceLE, Int.reduceAdd]
    refine goL_range m 29 (fun n : Int => [(3, .int .i64 n)]) (fun done rest n H => depthMs rest n = depthMs m 0) 0 (by simp (disch := first | omega | assumption) only [steps, st2, pev, rev, oev, optr, ibin, sbin, ishf, bound, mmAll, mm2, mk, mkArgs, AV.cells, AV.boxable, AV.one, AV.strip1, fillA, fillS, Nat.reduceEqDiff, reduceCtorEq, ↓reduceIte, Nat.reduceAdd, Int.reduceNeg, Nat.reduceLeDiff, Int.reduceToNat, Int.reduceEq, Int.reduceLT, Int.reduceLE, Int.reduceAdd]) rfl ?_ ?_
    · rintro n H J hn hlt
      simp only [depthMs] at hn
      simp (disch := first | omega | assumption) only [hm, hlt, wrap64, hn, steps, st2, pev, rev, oev, optr, ibin, sbin, ishf, bound, mmAll, mm2, mk, mkArgs, AV.cells, AV.boxable, AV.one, AV.strip1, fillA, fillS, Nat.reduceEqDiff, reduceCtorEq, ↓reduceIte, Nat.reduceAdd, Int.reduceNeg, Nat.reduceLeDiff, Int.reduceToNat, Int.reduceEq, Int.reduceLT, Int.reduceLE, Int.reduceAdd]
      exact hQ _ _ _ _ nofun rfl (by simp [tupOf, envOf, AV.strip, AV.strip1, depthV])
    · rintro done x rest n H J hd hlt _ hn hJ
      have hg := cMs_get hd
      have hbm := bMs_mid done x rest
      rw [← hd] at hbm
      cases x with
      | mk t v =>
      simp only [depthMs, depthM, bM] at hn hbm
      simp (disch := first | omega | assumption) only [cV_len, cV_take, cV_splice, cM_len, cM_take, cM_splice, cM_mk, hm, hlt, hg, steps, st2, pev, rev, oev, optr, ibin, sbin, ishf, bound, mmAll, mm2, mk, mkArgs, AV.cells, AV.boxable, AV.one, AV.strip1, fillA, fillS, Nat.reduceEqDiff, reduceCtorEq, ↓reduceIte, Nat.reduceAdd, Int.reduceNeg, Nat.reduceLeDiff, Int.reduceToNat, Int.reduceEq, Int.reduceLT, Int.reduceLE, Int.reduceAdd]
      refine goA_intro fun b hb => ?_
      simp (disch := first | omega | assumption) only [cV_len, cV_take, cV_splice, cM_len, cM_take, cM_splice, cM_mk, steps, st2, pev, rev, oev, optr, ibin, sbin, ishf, bound, mmAll, mm2, mk, mkArgs, AV.cells, AV.boxable, AV.one, AV.strip1, fillA, fillS, Nat.reduceEqDiff, reduceCtorEq, ↓reduceIte, Nat.reduceAdd, Int.reduceNeg, Nat.reduceLeDiff, Int.reduceToNat, Int.reduceEq, Int.reduceLT, Int.reduceLE, Int.reduceAdd]
      refine goK_pure (ihm t v (by rw [hd]; simp) (by simp only [Lim]; omega)) ?_
      simp (disch := first | omega | assumption) only [wrap64, steps, st2, pev, rev, oev, optr, ibin, sbin, ishf, bound, mmAll, mm2, mk, mkArgs, AV.cells, AV.boxable, AV.one, AV.strip1, fillA, fillS, Nat.reduceEqDiff, reduceCtorEq, ↓reduceIte, Nat.reduceAdd, Int.reduceNeg, Nat.reduceLeDiff, Int.reduceToNat, Int.reduceEq, Int.reduceLT, Int.reduceLE, Int.reduceAdd]
      exact goJ (hJ _ _ hn) (by simp (disch := first | omega | assumption) only [steps, st2, pev, rev, oev, optr, ibin, sbin, ishf, bound, mmAll, mm2, mk, mkArgs, AV.cells, AV.boxable, AV.one, AV.strip1, fillA, fillS, Nat.reduceEqDiff, reduceCtorEq, ↓reduceIte, Nat.reduceAdd, Int.reduceNeg, Nat.reduceLeDiff, Int.reduceToNat, Int.reduceEq, Int.reduceLT, Int.reduceLE, Int.reduceAdd])
  · simp (disch := first | omega | assumption) only [ir34, cV_mk, k6, k7, steps, st2, pev, rev, oev, optr, ibin, sbin, ishf, bound, mmAll, mm2, mk, mkArgs, AV.cells, AV.boxable, AV.one, AV.strip1, fillA, fillS, Nat.reduceEqDiff, reduceCtorEq, ↓reduceIte, Nat.reduceAdd, Int.reduceNeg, Nat.reduceLeDiff, Int.reduceToNat, Int.reduceEq, Int.reduceLT, Int.reduceLE, Int.reduceAdd]
    exact hQ _ _ _ _ nofun rfl (by simp [tupOf, envOf, AV.strip, AV.strip1, depthV, k6, k7])

theorem depthR : ∀ v, bV v ≤ Lim → Pure Tryd.prog 35 [.agg (cV v)] (.int .i64 (depthV v)) := by
  refine Val.ind fun k n s l m ihl ihm hb => ?_
  refine Pure.go ir35 ck35 (Nat.le_refl _) fun KP Q hQ => ?_
  have hl := cVs_len l
  have hm := cMs_len m
  have hll := bVs_len l
  have hml := bMs_len m
  have hb' : 1 + s.length + bVs l + bMs m ≤ Lim := hb
  simp only [Lim] at hb'
  have d1 := depthVs_le l 0
  have d2 := depthMs_le m 0
  by_cases k6 : k = 6
  · subst k6
    simp (disch := first | omega | assumption) only [ir35, cV_mk, hl, steps, st2, pev, rev, oev, optr, ibin, sbin, ishf, bound, mmAll, mm2, mk, mkArgs, AV.cells, AV.boxable, AV.one, AV.strip1, fillA, fillS, Nat.reduceEqDiff, reduceCtorEq, ↓reduceIte, Nat.reduceAdd, Int.reduceNeg, Nat.reduceLeDiff, Int.reduceToNat, Int.reduceEq, Int.reduceLT, Int.reduceLE, Int.reduceAdd]
    refine goL_range l 4 (fun n : Int => [(3, .int .i64 n)]) (fun done rest n H => depthVs rest n = depthVs l 0) 0 (by simp (disch := first | omega | assumption) only [steps, st2, pev, rev, oev, optr, ibin, sbin, ishf, bound, mmAll, mm2, mk, mkArgs, AV.cells, AV.boxable, AV.one, AV.strip1, fillA, fillS, Nat.reduceEqDiff, reduceCtorEq, ↓reduceIte, Nat.reduceAdd, Int.reduceNeg, Nat.reduceLeDiff, Int.reduceToNat, Int.reduceEq, Int.reduceLT, Int.reduceLE, Int.reduceAdd]) rfl ?_ ?_
    · rintro n H J hn hlt
      simp only [depthVs] at hn
      simp (disch := first | omega | assumption) only [hl, hlt, wrap64, hn, steps, st2, pev, rev, oev, optr, ibin, sbin, ishf, bound, mmAll, mm2, mk, mkArgs, AV.cells, AV.boxable, AV.one, AV.strip1, fillA, fillS, Nat.reduceEqDiff, reduceCtorEq, ↓reduceIte, Nat.reduceAdd, Int.reduceNeg, Nat.reduceLeDiff, Int.reduceToNat, Int.reduceEq, Int.reduceLT, Int.reduceLE, Int.reduceAdd]
      exact hQ _ _ _ _ nofun rfl (by simp [tupOf, envOf, AV.strip, AV.strip1, depthV])
    · rintro done x rest n H J hd hlt _ hn hJ
      have hg := cVs_get hd
      have hbm := bVs_mid done x rest
      rw [← hd] at hbm
      simp only [depthVs] at hn
      simp (disch := first | omega | assumption) only [cV_len, cV_take, cV_splice, cM_len, cM_take, cM_splice, cM_mk, hl, hlt, hg, steps, st2, pev, rev, oev, optr, ibin, sbin, ishf, bound, mmAll, mm2, mk, mkArgs, AV.cells, AV.boxable, AV.one, AV.strip1, fillA, fillS, Nat.reduceEqDiff, reduceCtorEq, ↓reduceIte, Nat.reduceAdd, Int.reduceNeg, Nat.reduceLeDiff, Int.reduceToNat, Int.reduceEq, Int.reduceLT, Int.reduceLE, Int.reduceAdd]
      refine goK_pure (ihl x (by rw [hd]; simp) (by simp only [Lim]; omega)) ?_
      simp (disch := first | omega | assumption) only [wrap64, steps, st2, pev, rev, oev, optr, ibin, sbin, ishf, bound, mmAll, mm2, mk, mkArgs, AV.cells, AV.boxable, AV.one, AV.strip1, fillA, fillS, Nat.reduceEqDiff, reduceCtorEq, ↓reduceIte, Nat.reduceAdd, Int.reduceNeg, Nat.reduceLeDiff, Int.reduceToNat, Int.reduceEq, Int.reduceLT, Int.reduceLE, Int.reduceAdd]
      exact goJ (hJ _ _ hn) (by simp (disch := first | omega | assumption) only [steps, st2, pev, rev, oev, optr, ibin, sbin, ishf, bound, mmAll, mm2, mk, mkArgs, AV.cells, AV.boxable, AV.one, AV.strip1, fillA, fillS, Nat.reduceEqDiff, reduceCtorEq, ↓reduceIte, Nat.reduceAdd, Int.reduceNeg, Nat.reduceLeDiff, Int.reduceToNat, Int.reduceEq, Int.reduceLT, Int.reduceLE, Int.reduceAdd])
  by_cases k7 : k = 7
  · subst k7
    simp (disch := first | omega | assumption) only [ir35, cV_mk, hm, steps, st2, pev, rev, oev, optr, ibin, sbin, ishf, bound, mmAll, mm2, mk, mkArgs, AV.cells, AV.boxable, AV.one, AV.strip1, fillA, fillS, Nat.reduceEqDiff, reduceCtorEq, ↓reduceIte, Nat.reduceAdd, Int.reduceNeg, Nat.reduceLeDiff, Int.reduceToNat, Int.reduceEq, Int.reduceLT, Int.reduceLE, Int.reduceAdd]
    refine goL_range m 5 (fun n : Int => [(3, .int .i64 n)]) (fun done rest n H => depthMs rest n = depthMs m 0) 0 (by simp (disch := first | omega | assumption) only [steps, st2, pev, rev, oev, optr, ibin, sbin, ishf, bound, mmAll, mm2, mk, mkArgs, AV.cells, AV.boxable, AV.one, AV.strip1, fillA, fillS, Nat.reduceEqDiff, reduceCtorEq, ↓reduceIte, Nat.reduceAdd, Int.reduceNeg, Nat.reduceLeDiff, Int.reduceToNat, Int.reduceEq, Int.reduceLT, Int.reduceLE, Int.reduceAdd]) rfl ?_ ?_
    · rintro n H J hn hlt
      simp only [depthMs] at hn
      simp (disch := first | omega | assumption) only [hm, hlt, wrap64, hn, steps, st2, pev, rev, oev, optr, ibin, sbin, ishf, bound, mmAll, mm2, mk, mkArgs, AV.cells, AV.boxable, AV.one, AV.strip1, fillA, fillS, Nat.reduceEqDiff, reduceCtorEq, ↓reduceIte, Nat.reduceAdd, Int.reduceNeg, Nat.reduceLeDiff, Int.reduceToNat, Int.reduceEq, Int.reduceLT, Int.reduceLE, Int.reduceAdd]
      exact hQ _ _ _ _ nofun rfl (by simp [tupOf, envOf, AV.strip, AV.strip1, depthV])
    · rintro done x rest n H J hd hlt _ hn hJ
      have hg := cMs_get hd
      have hbm := bMs_mid done x rest
      rw [← hd] at hbm
      cases x with
      | mk t v =>
      simp only [depthMs, depthM, bM] at hn hbm
      simp (disch := first | omega | assumption) only [cV_len, cV_take, cV_splice, cM_len, cM_take, cM_splice, cM_mk, hm, hlt, hg, steps, st2, pev, rev, oev, optr, ibin, sbin, ishf, bound, mmAll, mm2, mk, mkArgs, AV.cells, AV.boxable, AV.one, AV.strip1, fillA, fillS, Nat.reduceEqDiff, reduceCtorEq, ↓reduceIte, Nat.reduceAdd, Int.reduceNeg, Nat.reduceLeDiff, Int.reduceToNat, Int.reduceEq, Int.reduceLT, Int.reduceLE, Int.reduceAdd]
      refine goK_pure (ihm t v (by rw [hd]; simp) (by simp only [Lim]; omega)) ?_
      simp (disch := first | omega | assumption) only [wrap64, steps, st2, pev, rev, oev, optr, ibin, sbin, ishf, bound, mmAll, mm2, mk, mkArgs, AV.cells, AV.boxable, AV.one, AV.strip1, fillA, fillS, Nat.reduceEqDiff, reduceCtorEq, ↓reduceIte, Nat.reduceAdd, Int.reduceNeg, Nat.reduceLeDiff, Int.reduceToNat, Int.reduceEq, Int.reduceLT, Int.reduceLE, Int.reduceAdd]
      exact goJ (hJ _ _ hn) (by simp (disch := first | omega | assumption) only [steps, st2, pev, rev, oev, optr, ibin, sbin, ishf, bound, mmAll, mm2, mk, mkArgs, AV.cells, AV.boxable, AV.one, AV.strip1, fillA, fillS, Nat.reduceEqDiff, reduceCtorEq, ↓reduceIte, Nat.reduceAdd, Int.reduceNeg, Nat.reduceLeDiff, Int.reduceToNat, Int.reduceEq, Int.reduceLT, Int.reduceLE, Int.reduceAdd])
  · simp (disch := first | omega | assumption) only [ir35, cV_mk, k6, k7, steps, st2, pev, rev, oev, optr, ibin, sbin, ishf, bound, mmAll, mm2, mk, mkArgs, AV.cells, AV.boxable, AV.one, AV.strip1, fillA, fillS, Nat.reduceEqDiff, reduceCtorEq, ↓reduceIte, Nat.reduceAdd, Int.reduceNeg, Nat.reduceLeDiff, Int.reduceToNat, Int.reduceEq, Int.reduceLT, Int.reduceLE, Int.reduceAdd]
    exact hQ _ _ _ _ nofun rfl (by simp [tupOf, envOf, AV.strip, AV.strip1, depthV, k6, k7])

/-! made as they are -/

def zV : Val := .mk 0 0 [] [] []
theorem cV_zero : cV zV = [.int .i64 0, .int .i64 0, .str [], .sl .no 5 [], .sl .no 6 []] := rfl

theorem intP (n : Int) : Pure Tryd.prog 21 [.int .i64 n] (.agg (cV (.mk 2 n [] [] []))) := by
  refine Pure.go ir21 ck21 (Nat.le_refl _) fun KP Q hQ => ?_
  simp (disch := first | omega | assumption) only [ir21, steps, st2, pev, rev, oev, optr, ibin, sbin, ishf, bound, mmAll, mm2, mk, mkArgs, AV.cells, AV.boxable, AV.one, AV.strip1, fillA, fillS, Nat.reduceEqDiff, reduceCtorEq, ↓reduceIte, Nat.reduceAdd, Int.reduceNeg, Nat.reduceLeDiff, Int.reduceToNat, Int.reduceEq, Int.reduceLT, Int.reduceLE, Int.reduceAdd]
  refine goA_intro fun b hb => ?_
  simp (disch := first | omega | assumption) only [steps, st2, pev, rev, oev, optr, ibin, sbin, ishf, bound, mmAll, mm2, mk, mkArgs, AV.cells, AV.boxable, AV.one, AV.strip1, fillA, fillS, Nat.reduceEqDiff, reduceCtorEq, ↓reduceIte, Nat.reduceAdd, Int.reduceNeg, Nat.reduceLeDiff, Int.reduceToNat, Int.reduceEq, Int.reduceLT, Int.reduceLE, Int.reduceAdd]
  exact hQ _ _ _ [.agg [.int .i64 2, .int .i64 n, .str [], .sl .nil 5 [], .sl .nil 6 []]] nofun (by simp (disch := first | omega | assumption) only [ir21, resvs, resv, steps, st2, pev, rev, oev, optr, ibin, sbin, ishf, bound, mmAll, mm2, mk, mkArgs, AV.cells, AV.boxable, AV.one, AV.strip1, fillA, fillS, Nat.reduceEqDiff, reduceCtorEq, ↓reduceIte, Nat.reduceAdd, Int.reduceNeg, Nat.reduceLeDiff, Int.reduceToNat, Int.reduceEq, Int.reduceLT, Int.reduceLE, Int.reduceAdd]) rfl
theorem intR (n : Int) : Pure Tryd.prog 22 [.int .i64 n] (.agg (cV (.mk 2 n [] [] []))) := by
  refine Pure.go ir22 ck22 (Nat.le_refl _) fun KP Q hQ => ?_
  simp (disch := first | omega | assumption) only [ir22, steps, st2, pev, rev, oev, optr, ibin, sbin, ishf, bound, mmAll, mm2, mk, mkArgs, AV.cells, AV.boxable, AV.one, AV.strip1, fillA, fillS, Nat.reduceEqDiff, reduceCtorEq, ↓reduceIte, Nat.reduceAdd, Int.reduceNeg, Nat.reduceLeDiff, Int.reduceToNat, Int.reduceEq, Int.reduceLT, Int.reduceLE, Int.reduceAdd]
  refine goA_intro fun b hb => ?_
  simp (disch := first | omega | assumption) only [steps, st2, pev, rev, oev, optr, ibin, sbin, ishf, bound, mmAll, mm2, mk, mkArgs, AV.cells, AV.boxable, AV.one, AV.strip1, fillA, fillS, Nat.reduceEqDiff, reduceCtorEq, ↓reduceIte, Nat.reduceAdd, Int.reduceNeg, Nat.reduceLeDiff, Int.reduceToNat, Int.reduceEq, Int.reduceLT, Int.reduceLE, Int.reduceAdd]
  exact hQ _ _ _ [.agg [.int .i64 2, .int .i64 n, .str [], .sl .nil 5 [], .sl .nil 6 []]] nofun (by simp (disch := first | omega | assumption) only [ir22, resvs, resv, steps, st2, pev, rev, oev, optr, ibin, sbin, ishf, bound, mmAll, mm2, mk, mkArgs, AV.cells, AV.boxable, AV.one, AV.strip1, fillA, fillS, Nat.reduceEqDiff, reduceCtorEq, ↓reduceIte, Nat.reduceAdd, Int.reduceNeg, Nat.reduceLeDiff, Int.reduceToNat, Int.reduceEq, Int.reduceLT, Int.reduceLE, Int.reduceAdd]) rfl
theorem textP (t : List UInt8) : Pure Tryd.prog 23 [.str t] (.agg (cV (.mk 4 0 t [] []))) := by
  refine Pure.go ir23 ck23 (Nat.le_refl _) fun KP Q hQ => ?_
  simp (disch := first | omega | assumption) only [ir23, steps, st2, pev, rev, oev, optr, ibin, sbin, ishf, bound, mmAll, mm2, mk, mkArgs, AV.cells, AV.boxable, AV.one, AV.strip1, fillA, fillS, Nat.reduceEqDiff, reduceCtorEq, ↓reduceIte, Nat.reduceAdd, Int.reduceNeg, Nat.reduceLeDiff, Int.reduceToNat, Int.reduceEq, Int.reduceLT, Int.reduceLE, Int.reduceAdd]
  refine goA_intro fun b hb => ?_
  simp (disch := first | omega | assumption) only [steps, st2, pev, rev, oev, optr, ibin, sbin, ishf, bound, mmAll, mm2, mk, mkArgs, AV.cells, AV.boxable, AV.one, AV.strip1, fillA, fillS, Nat.reduceEqDiff, reduceCtorEq, ↓reduceIte, Nat.reduceAdd, Int.reduceNeg, Nat.reduceLeDiff, Int.reduceToNat, Int.reduceEq, Int.reduceLT, Int.reduceLE, Int.reduceAdd]
  exact hQ _ _ _ [.agg [.int .i64 4, .int .i64 0, .str t, .sl .nil 5 [], .sl .nil 6 []]] nofun (by simp (disch := first | omega | assumption) only [ir23, resvs, resv, steps, st2, pev, rev, oev, optr, ibin, sbin, ishf, bound, mmAll, mm2, mk, mkArgs, AV.cells, AV.boxable, AV.one, AV.strip1, fillA, fillS, Nat.reduceEqDiff, reduceCtorEq, ↓reduceIte, Nat.reduceAdd, Int.reduceNeg, Nat.reduceLeDiff, Int.reduceToNat, Int.reduceEq, Int.reduceLT, Int.reduceLE, Int.reduceAdd]) rfl
theorem textR (t : List UInt8) : Pure Tryd.prog 24 [.str t] (.agg (cV (.mk 4 0 t [] []))) := by
  refine Pure.go ir24 ck24 (Nat.le_refl _) fun KP Q hQ => ?_
  simp (disch := first | omega | assumption) only [ir24, steps, st2, pev, rev, oev, optr, ibin, sbin, ishf, bound, mmAll, mm2, mk, mkArgs, AV.cells, AV.boxable, AV.one, AV.strip1, fillA, fillS, Nat.reduceEqDiff, reduceCtorEq, ↓reduceIte, Nat.reduceAdd, Int.reduceNeg, Nat.reduceLeDiff, Int.reduceToNat, Int.reduceEq, Int.reduceLT, Int.reduceLE, Int.reduceAdd]
  refine goA_intro fun b hb => ?_
  simp (disch := first | omega | assumption) only [steps, st2, pev, rev, oev, optr, ibin, sbin, ishf, bound, mmAll, mm2, mk, mkArgs, AV.cells, AV.boxable, AV.one, AV.strip1, fillA, fillS, Nat.reduceEqDiff, reduceCtorEq, ↓reduceIte, Nat.reduceAdd, Int.reduceNeg, Nat.reduceLeDiff, Int.reduceToNat, Int.reduceEq, Int.reduceLT, Int.reduceLE, Int.reduceAdd]
  exact hQ _ _ _ [.agg [.int .i64 4, .int .i64 0, .str t, .sl .nil 5 [], .sl .nil 6 []]] nofun (by simp (disch := first | omega | assumption) only [ir24, resvs, resv, steps, st2, pev, rev, oev, optr, ibin, sbin, ishf, bound, mmAll, mm2, mk, mkArgs, AV.cells, AV.boxable, AV.one, AV.strip1, fillA, fillS, Nat.reduceEqDiff, reduceCtorEq, ↓reduceIte, Nat.reduceAdd, Int.reduceNeg, Nat.reduceLeDiff, Int.reduceToNat, Int.reduceEq, Int.reduceLT, Int.reduceLE, Int.reduceAdd]) rfl

/-! a member's value -/

def getV (t : List UInt8) : List Mem → Val × Bool
  | [] => (zV, false)
  | .mk s v :: r => if s = t then (v, true) else getV t r

theorem getP (t : List UInt8) (m : List Mem) (hb : m.length ≤ Lim) : Pure Tryd.prog 18 [.str t, .sl .no 6 (cMs m)] (.tup [.agg (cV (getV t m).1), .bool (getV t m).2]) := by
  refine Pure.go ir18 ck18 (Nat.le_refl _) fun KP Q hQ => ?_
  have hm := cMs_len m
  simp only [Lim] at hb
  simp (disch := first | omega | assumption) only [ir18, steps, st2, pev, rev, oev, optr, ibin, sbin, ishf, bound, mmAll, mm2, mk, mkArgs, AV.cells, AV.boxable, AV.one, AV.strip1, fillA, fillS, Nat.reduceEqDiff, reduceCtorEq, ↓reduceIte, Nat.reduceAdd, Int.reduceNeg, Nat.reduceLeDiff, Int.reduceToNat, Int.reduceEq, Int.reduceLT, Int.reduceLE, Int.reduceAdd]
  refine goA_intro fun b hb => ?_
  simp (disch := first | omega | assumption) only [hm, steps, st2, pev, rev, oev, optr, ibin, sbin, ishf, bound, mmAll, mm2, mk, mkArgs, AV.cells, AV.boxable, AV.one, AV.strip1, fillA, fillS, Nat.reduceEqDiff, reduceCtorEq, ↓reduceIte, Nat.reduceAdd, Int.reduceNeg, Nat.reduceLeDiff, Int.reduceToNat, Int.reduceEq, Int.reduceLT, Int.reduceLE, Int.reduceAdd]
  refine goL_range m 10 (fun _ : Unit => []) (fun done rest n H => getV t rest = getV t m ∧ H b = some (.cells [.int .i64 0, .int .i64 0, .str [], .sl .nil 5 [], .sl .nil 6 []])) () (by simp (disch := first | omega | assumption) only [steps, st2, pev, rev, oev, optr, ibin, sbin, ishf, bound, mmAll, mm2, mk, mkArgs, AV.cells, AV.boxable, AV.one, AV.strip1, fillA, fillS, Nat.reduceEqDiff, reduceCtorEq, ↓reduceIte, Nat.reduceAdd, Int.reduceNeg, Nat.reduceLeDiff, Int.reduceToNat, Int.reduceEq, Int.reduceLT, Int.reduceLE, Int.reduceAdd]) ⟨rfl, by simp [Heap.upd]⟩ ?_ ?_
  · rintro n H J ⟨hn, hH⟩ hlt
    simp (disch := first | omega | assumption) only [hm, hlt, hH, steps, st2, pev, rev, oev, optr, ibin, sbin, ishf, bound, mmAll, mm2, mk, mkArgs, AV.cells, AV.boxable, AV.one, AV.strip1, fillA, fillS, Nat.reduceEqDiff, reduceCtorEq, ↓reduceIte, Nat.reduceAdd, Int.reduceNeg, Nat.reduceLeDiff, Int.reduceToNat, Int.reduceEq, Int.reduceLT, Int.reduceLE, Int.reduceAdd]
    refine hQ _ _ _ [.agg [.int .i64 0, .int .i64 0, .str [], .sl .nil 5 [], .sl .nil 6 []], .bool false] nofun (by simp (disch := first | omega | assumption) only [ir18, resvs, resv, steps, st2, pev, rev, oev, optr, ibin, sbin, ishf, bound, mmAll, mm2, mk, mkArgs, AV.cells, AV.boxable, AV.one, AV.strip1, fillA, fillS, Nat.reduceEqDiff, reduceCtorEq, ↓reduceIte, Nat.reduceAdd, Int.reduceNeg, Nat.reduceLeDiff, Int.reduceToNat, Int.reduceEq, Int.reduceLT, Int.reduceLE, Int.reduceAdd]) ?_
    rw [← hn]
    rfl
  · rintro done x rest n H J hd hlt _ ⟨hn, hH⟩ hJ
    have hg := cMs_get hd
    cases x with
    | mk s v =>
    simp only [getV] at hn
    simp (disch := first | omega | assumption) only [cV_len, cV_take, cV_splice, cM_len, cM_take, cM_splice, cM_mk, hm, hlt, hg, steps, st2, pev, rev, oev, optr, ibin, sbin, ishf, bound, mmAll, mm2, mk, mkArgs, AV.cells, AV.boxable, AV.one, AV.strip1, fillA, fillS, Nat.reduceEqDiff, reduceCtorEq, ↓reduceIte, Nat.reduceAdd, Int.reduceNeg, Nat.reduceLeDiff, Int.reduceToNat, Int.reduceEq, Int.reduceLT, Int.reduceLE, Int.reduceAdd]
    refine goA_intro fun b2 hb2 => ?_
    have hne := ne_of_none hb2 hH
    by_cases hs : s = t
    · simp (disch := first | omega | assumption) only [cV_len, cV_take, cV_splice, cM_len, cM_take, cM_splice, cM_mk, hs, hH, Ne.symm hne, hne, steps, st2, pev, rev, oev, optr, ibin, sbin, ishf, bound, mmAll, mm2, mk, mkArgs, AV.cells, AV.boxable, AV.one, AV.strip1, fillA, fillS, Nat.reduceEqDiff, reduceCtorEq, ↓reduceIte, Nat.reduceAdd, Int.reduceNeg, Nat.reduceLeDiff, Int.reduceToNat, Int.reduceEq, Int.reduceLT, Int.reduceLE, Int.reduceAdd]
      simp only [hs, if_true] at hn
      refine hQ _ _ _ [.agg (cV v), .bool true] nofun (by simp (disch := first | omega | assumption) only [cV_len, cV_take, cV_splice, cM_len, cM_take, cM_splice, cM_mk, ir18, resvs, resv, steps, st2, pev, rev, oev, optr, ibin, sbin, ishf, bound, mmAll, mm2, mk, mkArgs, AV.cells, AV.boxable, AV.one, AV.strip1, fillA, fillS, Nat.reduceEqDiff, reduceCtorEq, ↓reduceIte, Nat.reduceAdd, Int.reduceNeg, Nat.reduceLeDiff, Int.reduceToNat, Int.reduceEq, Int.reduceLT, Int.reduceLE, Int.reduceAdd]) ?_
      rw [← hn]
      simp [tupOf, AV.strip, AV.strip1, cV_strip]
    · simp (disch := first | omega | assumption) only [cV_len, cV_take, cV_splice, cM_len, cM_take, cM_splice, cM_mk, hs, steps, st2, pev, rev, oev, optr, ibin, sbin, ishf, bound, mmAll, mm2, mk, mkArgs, AV.cells, AV.boxable, AV.one, AV.strip1, fillA, fillS, Nat.reduceEqDiff, reduceCtorEq, ↓reduceIte, Nat.reduceAdd, Int.reduceNeg, Nat.reduceLeDiff, Int.reduceToNat, Int.reduceEq, Int.reduceLT, Int.reduceLE, Int.reduceAdd]
      simp only [hs, if_false] at hn
      exact goJ (hJ () _ ⟨hn, by simp [Heap.upd, Ne.symm hne, hH]⟩) (by simp (disch := first | omega | assumption) only [wrap64, steps, st2, pev, rev, oev, optr, ibin, sbin, ishf, bound, mmAll, mm2, mk, mkArgs, AV.cells, AV.boxable, AV.one, AV.strip1, fillA, fillS, Nat.reduceEqDiff, reduceCtorEq, ↓reduceIte, Nat.reduceAdd, Int.reduceNeg, Nat.reduceLeDiff, Int.reduceToNat, Int.reduceEq, Int.reduceLT, Int.reduceLE, Int.reduceAdd])

theorem getR (t : List UInt8) (m : List Mem) (hb : m.length ≤ Lim) : Pure Tryd.prog 19 [.str t, .sl .no 6 (cMs m)] (.tup [.agg (cV (getV t m).1), .bool (getV t m).2]) := by
  refine Pure.go ir19 ck19 (Nat.le_refl _) fun KP Q hQ => ?_
  have hm := cMs_len m
  simp only [Lim] at hb
  simp (disch := first | omega | assumption) only [ir19, steps, st2, pev, rev, oev, optr, ibin, sbin, ishf, bound, mmAll, mm2, mk, mkArgs, AV.cells, AV.boxable, AV.one, AV.strip1, fillA, fillS, Nat.reduceEqDiff, reduceCtorEq, ↓reduceIte, Nat.reduceAdd, Int.reduceNeg, Nat.reduceLeDiff, Int.reduceToNat, Int.reduceEq, Int.reduceLT, Int.reduceLE, Int.reduceAdd]
  refine goA_intro fun b hb => ?_
  simp (disch := first | omega | assumption) only [hm, steps, st2, pev, rev, oev, optr, ibin, sbin, ishf, bound, mmAll, mm2, mk, mkArgs, AV.cells, AV.boxable, AV.one, AV.strip1, fillA, fillS, Nat.reduceEqDiff, reduceCtorEq, ↓reduceIte, Nat.reduceAdd, Int.reduceNeg, Nat.reduceLeDiff, Int.reduceToNat, Int.reduceEq, Int.reduceLT, Int.reduceLE, Int.reduceAdd]
  refine goL_range m 6 (fun _ : Unit => []) (fun done rest n H => getV t rest = getV t m ∧ H b = some (.cells [.int .i64 0, .int .i64 0, .str [], .sl .nil 5 [], .sl .nil 6 []])) () (by simp (disch := first | omega | assumption) only [steps, st2, pev, rev, oev, optr, ibin, sbin, ishf, bound, mmAll, mm2, mk, mkArgs, AV.cells, AV.boxable, AV.one, AV.strip1, fillA, fillS, Nat.reduceEqDiff, reduceCtorEq, ↓reduceIte, Nat.reduceAdd, Int.reduceNeg, Nat.reduceLeDiff, Int.reduceToNat, Int.reduceEq, Int.reduceLT, Int.reduceLE, Int.reduceAdd]) ⟨rfl, by simp [Heap.upd]⟩ ?_ ?_
  · rintro n H J ⟨hn, hH⟩ hlt
    simp (disch := first | omega | assumption) only [hm, hlt, hH, steps, st2, pev, rev, oev, optr, ibin, sbin, ishf, bound, mmAll, mm2, mk, mkArgs, AV.cells, AV.boxable, AV.one, AV.strip1, fillA, fillS, Nat.reduceEqDiff, reduceCtorEq, ↓reduceIte, Nat.reduceAdd, Int.reduceNeg, Nat.reduceLeDiff, Int.reduceToNat, Int.reduceEq, Int.reduceLT, Int.reduceLE, Int.reduceAdd]
    refine hQ _ _ _ [.agg [.int .i64 0, .int .i64 0, .str [], .sl .nil 5 [], .sl .nil 6 []], .bool false] nofun (by simp (disch := first | omega | assumption) only [ir19, resvs, resv, steps, st2, pev, rev, oev, optr, ibin, sbin, ishf, bound, mmAll, mm2, mk, mkArgs, AV.cells, AV.boxable, AV.one, AV.strip1, fillA, fillS, Nat.reduceEqDiff, reduceCtorEq, ↓reduceIte, Nat.reduceAdd, Int.reduceNeg, Nat.reduceLeDiff, Int.reduceToNat, Int.reduceEq, Int.reduceLT, Int.reduceLE, Int.reduceAdd]) ?_
    rw [← hn]
    rfl
  · rintro done x rest n H J hd hlt _ ⟨hn, hH⟩ hJ
    have hg := cMs_get hd
    cases x with
    | mk s v =>
    simp only [getV] at hn
    by_cases hs : s = t
    · simp (disch := first | omega | assumption) only [cV_len, cV_take, cV_splice, cM_len, cM_take, cM_splice, cM_mk, hm, hlt, hg, hs, hH, steps, st2, pev, rev, oev, optr, ibin, sbin, ishf, bound, mmAll, mm2, mk, mkArgs, AV.cells, AV.boxable, AV.one, AV.strip1, fillA, fillS, Nat.reduceEqDiff, reduceCtorEq, ↓reduceIte, Nat.reduceAdd, Int.reduceNeg, Nat.reduceLeDiff, Int.reduceToNat, Int.reduceEq, Int.reduceLT, Int.reduceLE, Int.reduceAdd]
      simp only [hs, if_true] at hn
      refine hQ _ _ _ [.agg (cV v), .bool true] nofun (by simp (disch := first | omega | assumption) only [cV_len, cV_take, cV_splice, cM_len, cM_take, cM_splice, cM_mk, ir19, resvs, resv, steps, st2, pev, rev, oev, optr, ibin, sbin, ishf, bound, mmAll, mm2, mk, mkArgs, AV.cells, AV.boxable, AV.one, AV.strip1, fillA, fillS, Nat.reduceEqDiff, reduceCtorEq, ↓reduceIte, Nat.reduceAdd, Int.reduceNeg, Nat.reduceLeDiff, Int.reduceToNat, Int.reduceEq, Int.reduceLT, Int.reduceLE, Int.reduceAdd]) ?_
      rw [← hn]
      simp [tupOf, AV.strip, AV.strip1, cV_strip]
    · simp (disch := first | omega | assumption) only [cV_len, cV_take, cV_splice, cM_len, cM_take, cM_splice, cM_mk, hm, hlt, hg, hs, steps, st2, pev, rev, oev, optr, ibin, sbin, ishf, bound, mmAll, mm2, mk, mkArgs, AV.cells, AV.boxable, AV.one, AV.strip1, fillA, fillS, Nat.reduceEqDiff, reduceCtorEq, ↓reduceIte, Nat.reduceAdd, Int.reduceNeg, Nat.reduceLeDiff, Int.reduceToNat, Int.reduceEq, Int.reduceLT, Int.reduceLE, Int.reduceAdd]
      simp only [hs, if_false] at hn
      exact goJ (hJ () _ ⟨hn, hH⟩) (by simp (disch := first | omega | assumption) only [wrap64, steps, st2, pev, rev, oev, optr, ibin, sbin, ishf, bound, mmAll, mm2, mk, mkArgs, AV.cells, AV.boxable, AV.one, AV.strip1, fillA, fillS, Nat.reduceEqDiff, reduceCtorEq, ↓reduceIte, Nat.reduceAdd, Int.reduceNeg, Nat.reduceLeDiff, Int.reduceToNat, Int.reduceEq, Int.reduceLT, Int.reduceLE, Int.reduceAdd])
end Go.Proofs.YtpjafglhdlfnbaaDoor
