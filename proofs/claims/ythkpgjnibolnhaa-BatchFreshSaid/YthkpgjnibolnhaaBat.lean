/- Batches: what the functions of batch and of its document's answer compute. -/
import Derived.Test.YthkpgjnibolnhaaDat
import Derived.Test.YthkpgjnibolnhaaIrI
set_option maxRecDepth 100000
set_option linter.unusedSimpArgs false
set_option linter.unusedVariables false
namespace Go.Proofs.Ythkpgjnibolnhaa
open Go.Ab

structure Need where
  t : List UInt8
  k : List UInt8
  deriving DecidableEq
structure Batch where
  table : List UInt8
  keys : List (List UInt8)
  deriving DecidableEq

def cN (n : Need) : List AV := [.str n.t, .str n.k]
def cNs (l : List Need) : List (List AV) := l.map cN
def cB (b : Batch) : List AV := [.str b.table, .sl .no 1 (cT b.keys)]
def cBs (l : List Batch) : List (List AV) := l.map cB
theorem cNs_len (l : List Need) : (cNs l).length = l.length := by simp [cNs]
theorem cBs_len (l : List Batch) : (cBs l).length = l.length := by simp [cBs]
theorem cNs_strip (l : List Need) : (cNs l).map (·.map AV.strip1) = cNs l := by simp [cNs, cN, AV.strip1]
theorem cBs_strip (l : List Batch) : (cBs l).map (·.map AV.strip1) = cBs l := by simp [cBs, cB, AV.strip1]
theorem cNs_get {l a : List Need} {x : Need} {b : List Need} (h : l = a ++ x :: b) : (cNs l).getD a.length [] = cN x := by rw [cNs, getD_mid' h]
theorem cBs_get {l a : List Batch} {x : Batch} {b : List Batch} (h : l = a ++ x :: b) : (cBs l).getD a.length [] = cB x := by rw [cBs, getD_mid' h]
theorem cNs_app (l : List Need) (n : Need) : cNs l ++ [[.str n.t, .str n.k]] = cNs (l ++ [n]) := by simp [cNs, cN]
theorem cT_app (l : List (List UInt8)) (n : List UInt8) : cT l ++ [[.str n]] = cT (l ++ [n]) := by simp [cT]

/-- Each once. -/
def dd {α : Type} [DecidableEq α] (out : List α) : List α → List α
  | [] => out
  | n :: r => if n ∈ out then dd out r else dd (out ++ [n]) r

theorem dd_len {α : Type} [DecidableEq α] : ∀ (l out : List α), (dd out l).length ≤ out.length + l.length
  | [], out => by simp [dd]
  | n :: r, out => by
    simp only [dd, List.length_cons]
    split
    · have := dd_len r out; omega
    · have := dd_len r (out ++ [n]); simp only [List.length_append, List.length_cons, List.length_nil] at this; omega
theorem dd_mono {α : Type} [DecidableEq α] : ∀ (l out : List α), out.length ≤ (dd out l).length
  | [], out => by simp [dd]
  | n :: r, out => by
    simp only [dd]
    split
    · exact dd_mono r out
    · have := dd_mono r (out ++ [n]); simp only [List.length_append, List.length_cons, List.length_nil] at this; omega

abbrev Big : Nat := 4294967296

theorem cloneT (l : List (List UInt8)) (hl : l.length ≤ Big) : Pure Try.prog 54 [.sl .no 1 (cT l)] (.sl .no 1 (cT l)) := by
  refine Pure.go ir54 ck54 (Nat.le_refl _) fun KP Q hQ => ?_
  simp only [Big] at hl
  have hll := cT_len l
  simp (disch := first | omega | assumption) only [ir54, steps, st2, pev, rev, oev, optr, ibin, sbin, ishf, bound, mmAll, mm2, mk, mkArgs, AV.cells, AV.boxable, AV.one, AV.strip1, fillA, fillS, Nat.reduceEqDiff, reduceCtorEq, ↓reduceIte, Nat.reduceAdd, Int.reduceNeg, Nat.reduceLeDiff, Int.reduceToNat, Int.reduceEq, Int.reduceLT, Int.reduceLE, Int.reduceAdd]
  refine goB_u (fun h => ?_) ?_
  · simp (disch := first | omega | assumption) only [steps, st2, pev, rev, oev, optr, ibin, sbin, ishf, bound, mmAll, mm2, mk, mkArgs, AV.cells, AV.boxable, AV.one, AV.strip1, fillA, fillS, Nat.reduceEqDiff, reduceCtorEq, ↓reduceIte, Nat.reduceAdd, Int.reduceNeg, Nat.reduceLeDiff, Int.reduceToNat, Int.reduceEq, Int.reduceLT, Int.reduceLE, Int.reduceAdd]
    exact hQ _ _ _ _ nofun rfl (by simp [tupOf, envOf, AV.strip, AV.strip1, h])
  · simp (disch := first | omega | assumption) only [steps, st2, pev, rev, oev, optr, ibin, sbin, ishf, bound, mmAll, mm2, mk, mkArgs, AV.cells, AV.boxable, AV.one, AV.strip1, fillA, fillS, Nat.reduceEqDiff, reduceCtorEq, ↓reduceIte, Nat.reduceAdd, Int.reduceNeg, Nat.reduceLeDiff, Int.reduceToNat, Int.reduceEq, Int.reduceLT, Int.reduceLE, Int.reduceAdd]
    refine goP_own (Owned.full _ _ _) ?_ ?_ fun o' H' h1 h2 h3 => ?_
    · simp [hll]; omega
    · simp [hll, maxLen]; omega
    · simp (disch := first | omega | assumption) only [steps, st2, pev, rev, oev, optr, ibin, sbin, ishf, bound, mmAll, mm2, mk, mkArgs, AV.cells, AV.boxable, AV.one, AV.strip1, fillA, fillS, Nat.reduceEqDiff, reduceCtorEq, ↓reduceIte, Nat.reduceAdd, Int.reduceNeg, Nat.reduceLeDiff, Int.reduceToNat, Int.reduceEq, Int.reduceLT, Int.reduceLE, Int.reduceAdd]
      exact hQ _ _ _ _ nofun rfl (by simp [tupOf, envOf, AV.strip, AV.strip1, cT_strip])

/-- Something else turns. -/
theorem Owned.set {H : Heap} {o : Own} {n sz b : Nat} {kt kt' : KT} {es es' : List (AV × AV)} (h : Owned H o n sz) (hb : H b = some (.map kt es)) : Owned (H.upd b (.map kt' es')) o n sz := by
  cases o with
  | tip c d =>
    have hc : H c = some (.tip (d + n) sz) := h
    have hne : c ≠ b := fun e => by subst e; rw [hb] at hc; cases hc
    show (H.upd b _) c = _
    simp [Heap.upd, hne, hc]
  | no => exact h
  | nil => exact h
  | full => exact h
theorem Owned.tip_ne {H : Heap} {b c d n sz : Nat} {kt : KT} {es : List (AV × AV)} (h : Owned H (.tip b d) n sz) (hb : H c = some (.map kt es)) : b ≠ c := fun e => by
  subst e
  have : H b = some (.tip (d + n) sz) := h
  rw [hb] at this; cases this

/-! the program's once -/

def mapN (l : List Need) : List (AV × AV) := l.map fun n => (.agg (cN n), .bool true)
theorem keq_need (a b : Need) : (AV.agg (cN a)).keq (.agg (cN b)) = decide (a = b) := by
  cases a with | mk t k =>
  cases b with | mk t' k' =>
  simp only [AV.keq, cN, keqs, AV.keq1, Bool.and_true, Need.mk.injEq]
  rw [sbeq, sbeq]; simp
theorem mget_need (n : Need) : ∀ l, mget (mapN l) (.agg (cN n)) = if n ∈ l then some (.bool true) else none
  | [] => rfl
  | a :: r => by
    simp only [mapN, List.map_cons, mget, keq_need, decide_eq_true_eq, List.mem_cons]
    have := mget_need n r
    simp only [mapN] at this
    by_cases h : n = a
    · simp [h]
    · simp [h, this]
theorem mset_need (n : Need) : ∀ l, n ∉ l → mset (mapN l) (.agg (cN n)) (.bool true) = mapN (l ++ [n])
  | [], _ => rfl
  | a :: r, h => by
    simp only [List.mem_cons, not_or] at h
    have := mset_need n r h.2
    simp only [mapN] at this ⊢
    simp only [List.map_cons, mset, keq_need, h.1, decide_false, Bool.false_eq_true, if_false, this, List.cons_append]

theorem onceP (l : List Need) (hl : l.length ≤ Big) : Pure Try.prog 52 [.sl .no 2 (cNs l)] (.sl .no 2 (cNs (dd [] l))) := by
  refine Pure.go ir52 ck52 (Nat.le_refl _) fun KP Q hQ => ?_
  simp only [Big] at hl
  have hll := cNs_len l
  simp (disch := first | omega | assumption) only [ir52, steps, st2, pev, rev, oev, optr, ibin, sbin, ishf, bound, mmAll, mm2, mk, mkArgs, AV.cells, AV.boxable, AV.one, AV.strip1, fillA, fillS, Nat.reduceEqDiff, reduceCtorEq, ↓reduceIte, Nat.reduceAdd, Int.reduceNeg, Nat.reduceLeDiff, Int.reduceToNat, Int.reduceEq, Int.reduceLT, Int.reduceLE, Int.reduceAdd]
  refine goA_intro fun bm hbm => ?_
  simp (disch := first | omega | assumption) only [hll, steps, st2, pev, rev, oev, optr, ibin, sbin, ishf, bound, mmAll, mm2, mk, mkArgs, AV.cells, AV.boxable, AV.one, AV.strip1, fillA, fillS, Nat.reduceEqDiff, reduceCtorEq, ↓reduceIte, Nat.reduceAdd, Int.reduceNeg, Nat.reduceLeDiff, Int.reduceToNat, Int.reduceEq, Int.reduceLT, Int.reduceLE, Int.reduceAdd]
  refine goL_range l 10 (fun s : Own × List Need => [(4, .sl s.1 2 (cNs s.2))]) (fun done rest s H => dd s.2 rest = dd [] l ∧ s.2.length ≤ done.length ∧ H bm = some (.map (.agg [.s, .s]) (mapN s.2)) ∧ Owned H s.1 s.2.length 2) (.nil, []) (by simp (disch := first | omega | assumption) only [steps, st2, pev, rev, oev, optr, ibin, sbin, ishf, bound, mmAll, mm2, mk, mkArgs, AV.cells, AV.boxable, AV.one, AV.strip1, fillA, fillS, Nat.reduceEqDiff, reduceCtorEq, ↓reduceIte, Nat.reduceAdd, Int.reduceNeg, Nat.reduceLeDiff, Int.reduceToNat, Int.reduceEq, Int.reduceLT, Int.reduceLE, Int.reduceAdd] <;> simp [cNs]) ⟨rfl, by simp, by rw [upd_same]; rfl, rfl⟩ ?_ ?_
  · rintro ⟨o, out⟩ H J ⟨hd, hle, hm, ho⟩ hlt
    simp only [dd] at hd
    subst hd
    simp (disch := first | omega | assumption) only [hll, hlt, steps, st2, pev, rev, oev, optr, ibin, sbin, ishf, bound, mmAll, mm2, mk, mkArgs, AV.cells, AV.boxable, AV.one, AV.strip1, fillA, fillS, Nat.reduceEqDiff, reduceCtorEq, ↓reduceIte, Nat.reduceAdd, Int.reduceNeg, Nat.reduceLeDiff, Int.reduceToNat, Int.reduceEq, Int.reduceLT, Int.reduceLE, Int.reduceAdd]
    exact hQ _ _ _ _ nofun rfl (by simp [tupOf, envOf, AV.strip, AV.strip1])
  · rintro done x rest ⟨o, out⟩ H J hl2 hlt hlt' ⟨hd, hle, hm, ho⟩ hJ
    have hg := cNs_get hl2
    obtain ⟨xt, xk⟩ := x
    have hfit : KT.fits (.agg [.s, .s]) (.agg [.str xt, .str xk]) = true := rfl
    simp only at hle hm ho
    have hle2 := cNs_len out
    have hmg := mget_need ⟨xt, xk⟩ out
    simp only [cN] at hmg
    simp only [dd] at hd
    simp (disch := first | omega | assumption) only [hll, hlt, hg, cN, steps, st2, pev, rev, oev, optr, ibin, sbin, ishf, bound, mmAll, mm2, mk, mkArgs, AV.cells, AV.boxable, AV.one, AV.strip1, fillA, fillS, Nat.reduceEqDiff, reduceCtorEq, ↓reduceIte, Nat.reduceAdd, Int.reduceNeg, Nat.reduceLeDiff, Int.reduceToNat, Int.reduceEq, Int.reduceLT, Int.reduceLE, Int.reduceAdd]
    refine goA_intro fun b1 hb1 => ?_
    have hne := ne_of_none hb1 hm
    by_cases hx : (⟨xt, xk⟩ : Need) ∈ out
    · simp (disch := first | omega | assumption) only [hm, hmg, hx, hne, Ne.symm hne, lkres, Option.getD_some, if_true, wrap64, hfit, steps, st2, pev, rev, oev, optr, ibin, sbin, ishf, bound, mmAll, mm2, mk, mkArgs, AV.cells, AV.boxable, AV.one, AV.strip1, fillA, fillS, Nat.reduceEqDiff, reduceCtorEq, ↓reduceIte, Nat.reduceAdd, Int.reduceNeg, Nat.reduceLeDiff, Int.reduceToNat, Int.reduceEq, Int.reduceLT, Int.reduceLE, Int.reduceAdd]
      simp only [hx, if_true] at hd
      refine goJ (hJ (o, out) _ ⟨hd, by simp; omega, ?_, ho.upd hb1⟩) (by simp (disch := first | omega | assumption) only [steps, st2, pev, rev, oev, optr, ibin, sbin, ishf, bound, mmAll, mm2, mk, mkArgs, AV.cells, AV.boxable, AV.one, AV.strip1, fillA, fillS, Nat.reduceEqDiff, reduceCtorEq, ↓reduceIte, Nat.reduceAdd, Int.reduceNeg, Nat.reduceLeDiff, Int.reduceToNat, Int.reduceEq, Int.reduceLT, Int.reduceLE, Int.reduceAdd])
      rw [upd_ne (Ne.symm hne)]; exact hm
    · simp (disch := first | omega | assumption) only [hm, hmg, hx, hne, Ne.symm hne, lkres, Option.getD_none, if_false, wrap64, hfit, steps, st2, pev, rev, oev, optr, ibin, sbin, ishf, bound, mmAll, mm2, mk, mkArgs, AV.cells, AV.boxable, AV.one, AV.strip1, fillA, fillS, Nat.reduceEqDiff, reduceCtorEq, ↓reduceIte, Nat.reduceAdd, Int.reduceNeg, Nat.reduceLeDiff, Int.reduceToNat, Int.reduceEq, Int.reduceLT, Int.reduceLE, Int.reduceAdd]
      simp only [hx, if_false] at hd
      have hms := mset_need ⟨xt, xk⟩ out hx
      simp only [cN] at hms
      rw [hms]
      have how : Owned ((H.upd b1 (.cells [.str xt, .str xk])).upd bm (.map (.agg [.s, .s]) (mapN (out ++ [⟨xt, xk⟩])))) o out.length 2 := Owned.set (Owned.upd ho hb1) (by rw [upd_ne (Ne.symm hne)]; exact hm)
      refine goP_own (by rw [hle2]; exact how) ?_ ?_ fun o' H' h1 h2 h3 => ?_
      · simp only [hle2, List.length_cons, List.length_nil]; omega
      · simp only [hle2, List.length_cons, List.length_nil, maxLen]; omega
      simp (disch := first | omega | assumption) only [wrap64, AV.strip1, steps, st2, pev, rev, oev, optr, ibin, sbin, ishf, bound, mmAll, mm2, mk, mkArgs, AV.cells, AV.boxable, AV.one, AV.strip1, fillA, fillS, Nat.reduceEqDiff, reduceCtorEq, ↓reduceIte, Nat.reduceAdd, Int.reduceNeg, Nat.reduceLeDiff, Int.reduceToNat, Int.reduceEq, Int.reduceLT, Int.reduceLE, Int.reduceAdd]
      rw [hle2] at h1
      have happ := cNs_app out ⟨xt, xk⟩
      simp only at happ
      rw [happ]
      refine goJ (hJ (o', out ++ [⟨xt, xk⟩]) _ ⟨hd, by simp; omega, h2 _ _ (by rw [upd_same]) (fun d e => ?_), by simpa using h1⟩) (by simp (disch := first | omega | assumption) only [steps, st2, pev, rev, oev, optr, ibin, sbin, ishf, bound, mmAll, mm2, mk, mkArgs, AV.cells, AV.boxable, AV.one, AV.strip1, fillA, fillS, Nat.reduceEqDiff, reduceCtorEq, ↓reduceIte, Nat.reduceAdd, Int.reduceNeg, Nat.reduceLeDiff, Int.reduceToNat, Int.reduceEq, Int.reduceLT, Int.reduceLE, Int.reduceAdd])
      subst e
      exact Owned.tip_ne ho hm rfl

/-! the library's Chunk -/

def chunks (n : Nat) (xs : List (List UInt8)) : List (List (List UInt8)) := (List.range ((xs.length + n - 1) / n)).map fun k => (xs.drop (k * n)).take n

theorem chunks_len (n : Nat) (xs : List (List UInt8)) : (chunks n xs).length = (xs.length + n - 1) / n := by simp [chunks]

def cX (n : Nat) (xs : List (List UInt8)) : List (List AV) := (chunks n xs).map fun c => [.sl .full 1 (cT c)]

theorem div_lt {n L k : Nat} (hn : 0 < n) (h : k < (L + n - 1) / n) : k * n < L := by
  have h1 : (k + 1) * n ≤ (L + n - 1) / n * n := Nat.mul_le_mul_right n h
  have h2 := Nat.div_mul_le_self (L + n - 1) n
  have h3 : (k + 1) * n = k * n + n := Nat.succ_mul k n
  omega
theorem div_ge {n L k : Nat} (hn : 0 < n) (h : k = (L + n - 1) / n) : L ≤ k * n := by
  have h1 := Nat.lt_div_mul_add (a := L + n - 1) hn
  rw [← h] at h1
  omega

theorem chunk1S (n : Nat) (hn : 0 < n) (hn2 : n ≤ 64) (xs : List (List UInt8)) (hl : xs.length ≤ Big) : SeqC Try.prog 61 [.view [.sl .no 1 (cT xs)], .view [.int .i64 n]] (cX n xs) := by
  simp only [Big] at hl
  refine SeqC.of_it it61 ckI61 (by show 3 ≤ 31; decide) fun y => ⟨[0, 1, 2, 4], fun k ρ => k ≤ (cX n xs).length ∧ ρ = envOf [(0, .oth y), (1, .view [.sl .no 1 (cT xs)]), (2, .view [.int .i64 n]), (4, .int .i64 ((k : Int) * n))], ?_⟩
  have hll := cT_len xs
  have hXl : (cX n xs).length = (xs.length + n - 1) / n := by simp [cX, chunks_len]
  refine ItOk.of (fun x hx => ?_) (fun k ρ h => h.1) (fun Q hQ => ?_) (fun ρ Q h hQ => ?_) (fun k x ρ Q Q1 Q2 Q3 Q4 hx h hq hq1 hq2 hq3 hq4 => ?_)
  · obtain ⟨c, _, rfl⟩ := List.mem_map.1 hx; exact ⟨_, rfl⟩
  · simp (disch := first | omega | assumption) only [it61, steps, st2, pev, rev, oev, optr, ibin, sbin, ishf, bound, mmAll, mm2, mk, mkArgs, AV.cells, AV.boxable, AV.one, AV.strip1, fillA, fillS, Nat.reduceEqDiff, reduceCtorEq, ↓reduceIte, Nat.reduceAdd, Int.reduceNeg, Nat.reduceLeDiff, Int.reduceToNat, Int.reduceEq, Int.reduceLT, Int.reduceLE, Int.reduceAdd]
    refine hQ _ ⟨Nat.zero_le _, ?_⟩
    simp (disch := first | omega | assumption) only [Int.natCast_zero, Int.zero_mul, steps, st2, pev, rev, oev, optr, ibin, sbin, ishf, bound, mmAll, mm2, mk, mkArgs, AV.cells, AV.boxable, AV.one, AV.strip1, fillA, fillS, Nat.reduceEqDiff, reduceCtorEq, ↓reduceIte, Nat.reduceAdd, Int.reduceNeg, Nat.reduceLeDiff, Int.reduceToNat, Int.reduceEq, Int.reduceLT, Int.reduceLE, Int.reduceAdd]
  · obtain ⟨_, rfl⟩ := h
    have h1 := div_ge hn hXl
    have hnl : ¬ (((cX n xs).length : Int) * n < xs.length) := by
      have : ((((cX n xs).length * n : Nat)) : Int) = ((cX n xs).length : Int) * n := by simp
      rw [← this]; omega
    simp (disch := first | omega | assumption) only [it61, hll, hnl, steps, st2, pev, rev, oev, optr, ibin, sbin, ishf, bound, mmAll, mm2, mk, mkArgs, AV.cells, AV.boxable, AV.one, AV.strip1, fillA, fillS, Nat.reduceEqDiff, reduceCtorEq, ↓reduceIte, Nat.reduceAdd, Int.reduceNeg, Nat.reduceLeDiff, Int.reduceToNat, Int.reduceEq, Int.reduceLT, Int.reduceLE, Int.reduceAdd]
    exact hQ _
  · obtain ⟨_, rfl⟩ := h
    obtain ⟨hk, hx⟩ := List.getElem?_eq_some_iff.1 hx
    have h1 := div_lt hn (by rw [← hXl]; exact hk)
    have hkn : ((((k * n : Nat)) : Int)) = (k : Int) * n := by simp
    have hxe : x = .sl .full 1 (cT ((xs.drop (k * n)).take n)) := by
      simp only [cX, chunks, List.getElem_map, List.getElem_range, List.cons.injEq, and_true] at hx
      exact hx.symm
    have hlt : ((k : Int) * n < xs.length) := by rw [← hkn]; omega
    have hge : (0 : Int) ≤ (k : Int) * n := by rw [← hkn]; omega
    have htn : ((k : Int) * n).toNat = k * n := by rw [← hkn]; exact Int.toNat_natCast _
    simp (disch := first | omega | assumption) only [it61, hll, hlt, steps, st2, pev, rev, oev, optr, ibin, sbin, ishf, bound, mmAll, mm2, mk, mkArgs, AV.cells, AV.boxable, AV.one, AV.strip1, fillA, fillS, Nat.reduceEqDiff, reduceCtorEq, ↓reduceIte, Nat.reduceAdd, Int.reduceNeg, Nat.reduceLeDiff, Int.reduceToNat, Int.reduceEq, Int.reduceLT, Int.reduceLE, Int.reduceAdd]
    refine hq _ ?_
    have hdl : ((cT xs).drop (k * n)).length = xs.length - k * n := by simp [hll]
    have hle : (k : Int) * n ≤ xs.length := by omega
    obtain ⟨m, hm, hmm⟩ : ∃ m : Nat, m = min n (xs.length - k * n) ∧ mm2 false (n : Int) ((xs.length - k * n : Nat) : Int) = m := ⟨_, rfl, by simp only [mm2, Bool.false_eq_true, if_false]; split <;> omega⟩
    have htk : (cT xs).take xs.length = cT xs := by rw [← hll]; exact List.take_length
    simp (disch := first | omega | assumption) only [it61, hll, hge, hle, htn, htk, hdl, hmm, Option.isNone_none, Own.cut, steps, st2, pev, rev, oev, optr, ibin, sbin, ishf, bound, mmAll, mk, mkArgs, AV.cells, AV.boxable, AV.one, AV.strip1, fillA, fillS, Nat.reduceEqDiff, reduceCtorEq, ↓reduceIte, Nat.reduceAdd, Int.reduceNeg, Nat.reduceLeDiff, Int.reduceToNat, Int.reduceEq, Int.reduceLT, Int.reduceLE, Int.reduceAdd]
    refine hq1 _ ?_
    have ha : (k : Int) * n ≤ (k : Int) * n + m := by omega
    have hb : (k : Int) * n + m ≤ xs.length := by omega
    have hc : ((k : Int) * n + m).toNat = k * n + m := by omega
    simp (disch := first | omega | assumption) only [it61, hll, hge, hle, htn, ha, hb, hc, wrap64, steps, st2, pev, rev, oev, optr, ibin, sbin, ishf, bound, mmAll, mm2, mk, mkArgs, AV.cells, AV.boxable, AV.one, AV.strip1, fillA, fillS, Nat.reduceEqDiff, reduceCtorEq, ↓reduceIte, Nat.reduceAdd, Int.reduceNeg, Nat.reduceLeDiff, Int.reduceToNat, Int.reduceEq, Int.reduceLT, Int.reduceLE, Int.reduceAdd]
    refine hq2 _ ?_ ?_ ?_
    · simp (disch := first | omega | assumption) only [it61, steps, st2, pev, rev, oev, optr, ibin, sbin, ishf, bound, mmAll, mm2, mk, mkArgs, AV.cells, AV.boxable, AV.one, AV.strip1, fillA, fillS, Nat.reduceEqDiff, reduceCtorEq, ↓reduceIte, Nat.reduceAdd, Int.reduceNeg, Nat.reduceLeDiff, Int.reduceToNat, Int.reduceEq, Int.reduceLT, Int.reduceLE, Int.reduceAdd]
    · simp (disch := first | omega | assumption) only [it61, steps, st2, pev, rev, oev, optr, ibin, sbin, ishf, bound, mmAll, mm2, mk, mkArgs, AV.cells, AV.boxable, AV.one, AV.strip1, fillA, fillS, Nat.reduceEqDiff, reduceCtorEq, ↓reduceIte, Nat.reduceAdd, Int.reduceNeg, Nat.reduceLeDiff, Int.reduceToNat, Int.reduceEq, Int.reduceLT, Int.reduceLE, Int.reduceAdd]
      rw [hxe]
      congr 1
      simp only [cT, ← List.map_take, ← List.map_drop, List.drop_take, Nat.add_sub_cancel_left]
      congr 1
      rw [hm]
      rcases Nat.le_total n (xs.length - k * n) with h2 | h2
      · rw [Nat.min_eq_left h2]
      · rw [Nat.min_eq_right h2, List.take_of_length_le (by simp), List.take_of_length_le (by simpa using h2)]
    simp (disch := first | omega | assumption) only [it61, steps, st2, pev, rev, oev, optr, ibin, sbin, ishf, bound, mmAll, mm2, mk, mkArgs, AV.cells, AV.boxable, AV.one, AV.strip1, fillA, fillS, Nat.reduceEqDiff, reduceCtorEq, ↓reduceIte, Nat.reduceAdd, Int.reduceNeg, Nat.reduceLeDiff, Int.reduceToNat, Int.reduceEq, Int.reduceLT, Int.reduceLE, Int.reduceAdd]
    refine hq3 _ ?_ ?_
    · simp (disch := first | omega | assumption) only [it61, steps, st2, pev, rev, oev, optr, ibin, sbin, ishf, bound, mmAll, mm2, mk, mkArgs, AV.cells, AV.boxable, AV.one, AV.strip1, fillA, fillS, Nat.reduceEqDiff, reduceCtorEq, ↓reduceIte, Nat.reduceAdd, Int.reduceNeg, Nat.reduceLeDiff, Int.reduceToNat, Int.reduceEq, Int.reduceLT, Int.reduceLE, Int.reduceAdd]
    simp (disch := first | omega | assumption) only [it61, wrap64, steps, st2, pev, rev, oev, optr, ibin, sbin, ishf, bound, mmAll, mm2, mk, mkArgs, AV.cells, AV.boxable, AV.one, AV.strip1, fillA, fillS, Nat.reduceEqDiff, reduceCtorEq, ↓reduceIte, Nat.reduceAdd, Int.reduceNeg, Nat.reduceLeDiff, Int.reduceToNat, Int.reduceEq, Int.reduceLT, Int.reduceLE, Int.reduceAdd]
    refine hq4 _ ⟨hk, ?_⟩
    simp (disch := first | omega | assumption) only [steps, st2, pev, rev, oev, optr, ibin, sbin, ishf, bound, mmAll, mm2, mk, mkArgs, AV.cells, AV.boxable, AV.one, AV.strip1, fillA, fillS, Nat.reduceEqDiff, reduceCtorEq, ↓reduceIte, Nat.reduceAdd, Int.reduceNeg, Nat.reduceLeDiff, Int.reduceToNat, Int.reduceEq, Int.reduceLT, Int.reduceLE, Int.reduceAdd]
    simp [Int.add_mul]

theorem chunkP (n : Nat) (hn : 0 < n) (xs : List (List UInt8)) : Pure Try.prog 53 [.sl .no 1 (cT xs), .int .i64 n] (.clo 61 [] [.view [.sl .no 1 (cT xs)], .view [.int .i64 n]]) := by
  refine Pure.go ir53 ck53 (Nat.le_refl _) fun KP Q hQ => ?_
  have h1 : ¬ ((n : Int) < 1) := by omega
  simp (disch := first | omega | assumption) only [ir53, h1, steps, st2, pev, rev, oev, optr, ibin, sbin, ishf, bound, mmAll, mm2, mk, mkArgs, AV.cells, AV.boxable, AV.one, AV.strip1, fillA, fillS, Nat.reduceEqDiff, reduceCtorEq, ↓reduceIte, Nat.reduceAdd, Int.reduceNeg, Nat.reduceLeDiff, Int.reduceToNat, Int.reduceEq, Int.reduceLT, Int.reduceLE, Int.reduceAdd]
  exact hQ _ _ _ _ nofun rfl (by simp [tupOf, envOf, AV.strip, AV.strip1])
end Go.Proofs.Ythkpgjnibolnhaa
