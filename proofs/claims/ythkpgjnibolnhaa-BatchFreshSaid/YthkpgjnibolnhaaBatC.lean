/- Batches: the program's cache. -/
import Derived.Test.YthkpgjnibolnhaaBatR
set_option maxRecDepth 100000
set_option linter.unusedSimpArgs false
set_option linter.unusedVariables false
namespace Go.Proofs.Ythkpgjnibolnhaa
open Go.Ab

structure Got where
  key : List UInt8
  typ : List UInt8
  cols : List Mem
  broken : Bool
  is : Bool
  e : Int
def g0 : Got := ⟨[], [], [], false, false, 0⟩
def cG (g : Got) : List AV := [.str g.key, .str g.typ, .sl .no 6 (cMs g.cols), .bool g.broken, .bool g.is, .int .i64 g.e]

def eG (es : List (Need × Got)) : List (AV × AV) := es.map fun x => (.agg (cN x.1), .agg (cG x.2))
def lookG : List (Need × Got) → Need → Option Got
  | [], _ => none
  | (a, g) :: r, n => if n = a then some g else lookG r n
def putG : List (Need × Got) → Need → Got → List (Need × Got)
  | [], n, g => [(n, g)]
  | (a, h) :: r, n, g => if n = a then (n, g) :: r else (a, h) :: putG r n g

theorem mget_eG (n : Need) : ∀ es, mget (eG es) (.agg (cN n)) = (lookG es n).map fun g => .agg (cG g)
  | [] => rfl
  | (a, g) :: r => by
    have := mget_eG n r
    simp only [eG] at this
    simp only [eG, List.map_cons, mget, keq_need, lookG, decide_eq_true_eq]
    by_cases h : n = a
    · simp [h]
    · simp [h, this]
theorem mset_eG (n : Need) (g : Got) : ∀ es, mset (eG es) (.agg (cN n)) (.agg (cG g)) = eG (putG es n g)
  | [] => rfl
  | (a, h) :: r => by
    have := mset_eG n g r
    simp only [eG] at this
    simp only [eG, List.map_cons, mset, keq_need, putG, decide_eq_true_eq]
    by_cases hn : n = a
    · simp [hn]
    · simp [hn, this]
theorem look_put (n n' : Need) (g : Got) : ∀ es, lookG (putG es n g) n' = if n' = n then some g else lookG es n'
  | [] => by simp [putG, lookG]
  | (a, h) :: r => by
    have := look_put n n' g r
    simp only [putG]
    by_cases hn : n = a
    · subst hn
      simp only [if_true, lookG]
      by_cases h' : n' = n <;> simp [h']
    · simp only [hn, if_false, lookG, this]
      by_cases h' : n' = a
      · subst h'
        simp [Ne.symm hn]
      · simp [h']
theorem put_mem {es : List (Need × Got)} {n : Need} {g : Got} {x : Need × Got} (h : x ∈ putG es n g) : x = (n, g) ∨ x ∈ es := by
  induction es with
  | nil => simpa [putG] using h
  | cons a r ih =>
    obtain ⟨a, h0⟩ := a
    simp only [putG] at h
    split at h
    · rcases List.mem_cons.1 h with h | h
      · exact .inl h
      · exact .inr (List.mem_cons_of_mem _ h)
    · rcases List.mem_cons.1 h with h | h
      · exact .inr (by rw [h]; exact List.mem_cons_self ..)
      · exact (ih h).imp id fun h => List.mem_cons_of_mem _ h
theorem look_mem {es : List (Need × Got)} {n : Need} {g : Got} (h : lookG es n = some g) : (n, g) ∈ es := by
  induction es with
  | nil => simp [lookG] at h
  | cons a r ih =>
    obtain ⟨a, h0⟩ := a
    simp only [lookG] at h
    split at h
    · rename_i e; cases h; rw [e]; exact List.mem_cons_self ..
    · exact List.mem_cons_of_mem _ (ih h)

theorem cG_strip (g : Got) : (cG g).map AV.strip1 = cG g := rfl

theorem cloneM (l : List Mem) (hl : l.length ≤ Big) : Pure Try.prog 62 [.sl .no 6 (cMs l)] (.sl .no 6 (cMs l)) := by
  refine Pure.go ir62 ck62 (Nat.le_refl _) fun KP Q hQ => ?_
  simp only [Big] at hl
  have hll := cMs_len l
  simp (disch := first | omega | assumption) only [ir62, steps, st2, pev, rev, oev, optr, ibin, sbin, ishf, bound, mmAll, mm2, mk, mkArgs, AV.cells, AV.boxable, AV.one, AV.strip1, fillA, fillS, Nat.reduceEqDiff, reduceCtorEq, ↓reduceIte, Nat.reduceAdd, Int.reduceNeg, Nat.reduceLeDiff, Int.reduceToNat, Int.reduceEq, Int.reduceLT, Int.reduceLE, Int.reduceAdd]
  refine goB_u (fun h => ?_) ?_
  · simp (disch := first | omega | assumption) only [steps, st2, pev, rev, oev, optr, ibin, sbin, ishf, bound, mmAll, mm2, mk, mkArgs, AV.cells, AV.boxable, AV.one, AV.strip1, fillA, fillS, Nat.reduceEqDiff, reduceCtorEq, ↓reduceIte, Nat.reduceAdd, Int.reduceNeg, Nat.reduceLeDiff, Int.reduceToNat, Int.reduceEq, Int.reduceLT, Int.reduceLE, Int.reduceAdd]
    exact hQ _ _ _ _ nofun rfl (by simp [tupOf, envOf, AV.strip, AV.strip1, h])
  · simp (disch := first | omega | assumption) only [steps, st2, pev, rev, oev, optr, ibin, sbin, ishf, bound, mmAll, mm2, mk, mkArgs, AV.cells, AV.boxable, AV.one, AV.strip1, fillA, fillS, Nat.reduceEqDiff, reduceCtorEq, ↓reduceIte, Nat.reduceAdd, Int.reduceNeg, Nat.reduceLeDiff, Int.reduceToNat, Int.reduceEq, Int.reduceLT, Int.reduceLE, Int.reduceAdd]
    refine goP_own (Owned.full _ _ _) ?_ ?_ fun o' H' h1 h2 h3 => ?_
    · simp [hll]; omega
    · simp [hll, maxLen]; omega
    · simp (disch := first | omega | assumption) only [steps, st2, pev, rev, oev, optr, ibin, sbin, ishf, bound, mmAll, mm2, mk, mkArgs, AV.cells, AV.boxable, AV.one, AV.strip1, fillA, fillS, Nat.reduceEqDiff, reduceCtorEq, ↓reduceIte, Nat.reduceAdd, Int.reduceNeg, Nat.reduceLeDiff, Int.reduceToNat, Int.reduceEq, Int.reduceLT, Int.reduceLE, Int.reduceAdd]
      refine hQ _ _ _ _ nofun rfl ?_
      simp only [tupOf, envOf, AV.strip, AV.strip1, List.nil_append, cMs_strip, if_true]

theorem gotP (g : Got) (hg : g.cols.length ≤ Big) : Pure Try.prog 57 [.agg (cG g)] (.agg (cG g)) := by
  refine Pure.go ir57 ck57 (Nat.le_refl _) fun KP Q hQ => ?_
  simp (disch := first | omega | assumption) only [ir57, cG, steps, st2, pev, rev, oev, optr, ibin, sbin, ishf, bound, mmAll, mm2, mk, mkArgs, AV.cells, AV.boxable, AV.one, AV.strip1, fillA, fillS, Nat.reduceEqDiff, reduceCtorEq, ↓reduceIte, Nat.reduceAdd, Int.reduceNeg, Nat.reduceLeDiff, Int.reduceToNat, Int.reduceEq, Int.reduceLT, Int.reduceLE, Int.reduceAdd]
  refine goA_intro fun b1 hb1 => ?_
  simp (disch := first | omega | assumption) only [steps, st2, pev, rev, oev, optr, ibin, sbin, ishf, bound, mmAll, mm2, mk, mkArgs, AV.cells, AV.boxable, AV.one, AV.strip1, fillA, fillS, Nat.reduceEqDiff, reduceCtorEq, ↓reduceIte, Nat.reduceAdd, Int.reduceNeg, Nat.reduceLeDiff, Int.reduceToNat, Int.reduceEq, Int.reduceLT, Int.reduceLE, Int.reduceAdd]
  refine goA_intro fun b2 hb2 => ?_
  have hne := ne_fresh hb2
  simp (disch := first | omega | assumption) only [hne, Ne.symm hne, steps, st2, pev, rev, oev, optr, ibin, sbin, ishf, bound, mmAll, mm2, mk, mkArgs, AV.cells, AV.boxable, AV.one, AV.strip1, fillA, fillS, Nat.reduceEqDiff, reduceCtorEq, ↓reduceIte, Nat.reduceAdd, Int.reduceNeg, Nat.reduceLeDiff, Int.reduceToNat, Int.reduceEq, Int.reduceLT, Int.reduceLE, Int.reduceAdd]
  refine goK_pure (cloneM g.cols hg) ?_
  simp (disch := first | omega | assumption) only [hne, Ne.symm hne, steps, st2, pev, rev, oev, optr, ibin, sbin, ishf, bound, mmAll, mm2, mk, mkArgs, AV.cells, AV.boxable, AV.one, AV.strip1, fillA, fillS, Nat.reduceEqDiff, reduceCtorEq, ↓reduceIte, Nat.reduceAdd, Int.reduceNeg, Nat.reduceLeDiff, Int.reduceToNat, Int.reduceEq, Int.reduceLT, Int.reduceLE, Int.reduceAdd]
  refine hQ _ _ _ [.agg (cG g)] nofun (by simp (disch := first | omega | assumption) only [ir57, resvs, resv, cG, steps, st2, pev, rev, oev, optr, ibin, sbin, ishf, bound, mmAll, mm2, mk, mkArgs, AV.cells, AV.boxable, AV.one, AV.strip1, fillA, fillS, Nat.reduceEqDiff, reduceCtorEq, ↓reduceIte, Nat.reduceAdd, Int.reduceNeg, Nat.reduceLeDiff, Int.reduceToNat, Int.reduceEq, Int.reduceLT, Int.reduceLE, Int.reduceAdd]) ?_
  simp [tupOf, AV.strip, cG_strip]

structure CacheAt (H : Heap) (c m : Nat) (es : List (Need × Got)) : Prop where
  hc : H c = some (.cells [.mp m])
  hm : H m = some (.map (.agg [.s, .s]) (eG es))
theorem CacheAt.ne {H : Heap} {c m : Nat} {es : List (Need × Got)} (h : CacheAt H c m es) : c ≠ m := fun e => by subst e; have := h.hc; rw [h.hm] at this; cases this
theorem CacheAt.sub {H H' : Heap} {c m : Nat} {es : List (Need × Got)} (h : CacheAt H c m es) (hs : Sub H H') : CacheAt H' c m es := ⟨hs _ _ h.hc, hs _ _ h.hm⟩
def okG (es : List (Need × Got)) : Prop := ∀ x ∈ es, x.2.cols.length ≤ Big
theorem okG.look {es : List (Need × Got)} (h : okG es) (n : Need) : ((lookG es n).getD g0).cols.length ≤ Big := by
  cases hl : lookG es n with
  | none => simp [g0]
  | some g => exact h _ (look_mem hl)
theorem okG.put {es : List (Need × Got)} (h : okG es) {n : Need} {g : Got} (hg : g.cols.length ≤ Big) : okG (putG es n g) := fun x hx => by
  rcases put_mem hx with rfl | hx
  · exact hg
  · exact h x hx

theorem newC (H : Heap) : ACalls Try.prog 27 [] H (fun e H' => ∃ v, e = .ret v ∧ (∃ c m, v = .ptr c 0 ∧ H c = none ∧ H m = none ∧ CacheAt H' c m [] ∧ Sub H H')) := by
  refine ACalls.go ir27 ck27 (Nat.le_refl _) fun KP Q hQ => ?_
  simp (disch := first | omega | assumption) only [ir27, steps, st2, pev, rev, oev, optr, ibin, sbin, ishf, bound, mmAll, mm2, mk, mkArgs, AV.cells, AV.boxable, AV.one, AV.strip1, fillA, fillS, Nat.reduceEqDiff, reduceCtorEq, ↓reduceIte, Nat.reduceAdd, Int.reduceNeg, Nat.reduceLeDiff, Int.reduceToNat, Int.reduceEq, Int.reduceLT, Int.reduceLE, Int.reduceAdd]
  refine goA_intro fun m hm => ?_
  simp (disch := first | omega | assumption) only [steps, st2, pev, rev, oev, optr, ibin, sbin, ishf, bound, mmAll, mm2, mk, mkArgs, AV.cells, AV.boxable, AV.one, AV.strip1, fillA, fillS, Nat.reduceEqDiff, reduceCtorEq, ↓reduceIte, Nat.reduceAdd, Int.reduceNeg, Nat.reduceLeDiff, Int.reduceToNat, Int.reduceEq, Int.reduceLT, Int.reduceLE, Int.reduceAdd]
  refine goA_intro fun c hc => ?_
  have hne := ne_fresh hc
  simp (disch := first | omega | assumption) only [steps, st2, pev, rev, oev, optr, ibin, sbin, ishf, bound, mmAll, mm2, mk, mkArgs, AV.cells, AV.boxable, AV.one, AV.strip1, fillA, fillS, Nat.reduceEqDiff, reduceCtorEq, ↓reduceIte, Nat.reduceAdd, Int.reduceNeg, Nat.reduceLeDiff, Int.reduceToNat, Int.reduceEq, Int.reduceLT, Int.reduceLE, Int.reduceAdd]
  refine hQ _ _ _ _ _ nofun rfl (Low.refl _) ⟨c, m, rfl, fresh_of hc, hm, ⟨upd_same .., by rw [upd_ne (Ne.symm hne), upd_same]; rfl⟩, sub_upd (sub_upd (sub_refl H) hm) hc⟩

theorem tellC {H : Heap} {c m : Nat} {es : List (Need × Got)} (hc : CacheAt H c m es) (n : Need) (g : Got) (hg : g.cols.length ≤ Big) :
    ACalls Try.prog 29 [.ptr c 0, .agg (cN n), .agg (cG g)] H (fun e H' => ∃ v, e = .ret v ∧ (v = .tup [] ∧ H' = H.upd m (.map (.agg [.s, .s]) (eG (putG es n g))))) := by
  refine ACalls.go ir29 ck29 (Nat.le_refl _) fun KP Q hQ => ?_
  have h1 := hc.hc
  have h2 := hc.hm
  have hfit : KT.fits (.agg [.s, .s]) (.agg (cN n)) = true := rfl
  have hms := mset_eG n g es
  have hgl : (cG g).length = 6 := rfl
  have hgt : (cG g).take 6 = cG g := rfl
  simp (disch := first | omega | assumption) only [ir29, h1, h2, cN_len, cN_take, hgl, hgt, steps, st2, pev, rev, oev, optr, ibin, sbin, ishf, bound, mmAll, mm2, mk, mkArgs, AV.cells, AV.boxable, AV.one, AV.strip1, fillA, fillS, Nat.reduceEqDiff, reduceCtorEq, ↓reduceIte, Nat.reduceAdd, Int.reduceNeg, Nat.reduceLeDiff, Int.reduceToNat, Int.reduceEq, Int.reduceLT, Int.reduceLE, Int.reduceAdd]
  refine goK_pure (gotP g hg) ?_
  simp (disch := first | omega | assumption) only [h1, h2, hfit, hms, cN_len, cN_take, steps, st2, pev, rev, oev, optr, ibin, sbin, ishf, bound, mmAll, mm2, mk, mkArgs, AV.cells, AV.boxable, AV.one, AV.strip1, fillA, fillS, Nat.reduceEqDiff, reduceCtorEq, ↓reduceIte, Nat.reduceAdd, Int.reduceNeg, Nat.reduceLeDiff, Int.reduceToNat, Int.reduceEq, Int.reduceLT, Int.reduceLE, Int.reduceAdd]
  exact hQ _ _ _ _ _ nofun rfl (Low.refl _) ⟨rfl, rfl⟩

theorem knowC {H : Heap} {c m : Nat} {es : List (Need × Got)} (hc : CacheAt H c m es) (ho : okG es) (n : Need) :
    ACalls Try.prog 34 [.ptr c 0, .agg (cN n)] H (fun e H' => ∃ v, e = .ret v ∧ (v = .tup [.agg (cG ((lookG es n).getD g0)), .bool (lookG es n).isSome] ∧ H' = H)) := by
  refine ACalls.go ir34 ck34 (Nat.le_refl _) fun KP Q hQ => ?_
  have h1 := hc.hc
  have h2 := hc.hm
  have hfit : KT.fits (.agg [.s, .s]) (.agg (cN n)) = true := rfl
  have hmg := mget_eG n es
  have hz : ((lookG es n).map fun g => AV.agg (cG g)).getD (.agg [.str [], .str [], .sl .nil 6 [], .bool false, .bool false, .int .i64 0]) = .agg (match lookG es n with | some g => cG g | none => [.str [], .str [], .sl .nil 6 [], .bool false, .bool false, .int .i64 0]) := by
    cases lookG es n <;> rfl
  have hsm : ((lookG es n).map fun g => AV.agg (cG g)).isSome = (lookG es n).isSome := by simp
  simp (disch := first | omega | assumption) only [ir34, steps, st2, pev, rev, oev, optr, ibin, sbin, ishf, bound, mmAll, mm2, mk, mkArgs, AV.cells, AV.boxable, AV.one, AV.strip1, fillA, fillS, Nat.reduceEqDiff, reduceCtorEq, ↓reduceIte, Nat.reduceAdd, Int.reduceNeg, Nat.reduceLeDiff, Int.reduceToNat, Int.reduceEq, Int.reduceLT, Int.reduceLE, Int.reduceAdd]
  refine goA_intro fun b4 hb4 => ?_
  have hn1 := ne_of_none hb4 h1
  have hn2 := ne_of_none hb4 h2
  obtain ⟨gr, hgr⟩ : ∃ gr, lookG es n = gr := ⟨_, rfl⟩
  have hb := ho.look n
  rw [hgr] at hmg hz hsm hb
  have fin : ∀ H1, Sub H H1 → ∀ (g : Got), True := fun _ _ _ => trivial
  cases gr with
  | none =>
    simp (disch := first | omega | assumption) only [h1, h2, hn1, hn2, Ne.symm hn1, Ne.symm hn2, hfit, cN_len, cN_take, hmg, lkres, Option.map_none, Option.getD_none, Option.isSome_none, steps, st2, pev, rev, oev, optr, ibin, sbin, ishf, bound, mmAll, mm2, mk, mkArgs, AV.cells, AV.boxable, AV.one, AV.strip1, fillA, fillS, Nat.reduceEqDiff, reduceCtorEq, ↓reduceIte, Nat.reduceAdd, Int.reduceNeg, Nat.reduceLeDiff, Int.reduceToNat, Int.reduceEq, Int.reduceLT, Int.reduceLE, Int.reduceAdd]
    refine goA_intro fun b6 hb6 => ?_
    have hn3 := ne_fresh hb6
    simp (disch := first | omega | assumption) only [hn3, Ne.symm hn3, steps, st2, pev, rev, oev, optr, ibin, sbin, ishf, bound, mmAll, mm2, mk, mkArgs, AV.cells, AV.boxable, AV.one, AV.strip1, fillA, fillS, Nat.reduceEqDiff, reduceCtorEq, ↓reduceIte, Nat.reduceAdd, Int.reduceNeg, Nat.reduceLeDiff, Int.reduceToNat, Int.reduceEq, Int.reduceLT, Int.reduceLE, Int.reduceAdd]
    refine goK_pure (Pure.low (gotP g0 (by simp [g0]))) ?_
    simp (disch := first | omega | assumption) only [hn3, Ne.symm hn3, cG, g0, steps, st2, pev, rev, oev, optr, ibin, sbin, ishf, bound, mmAll, mm2, mk, mkArgs, AV.cells, AV.boxable, AV.one, AV.strip1, fillA, fillS, Nat.reduceEqDiff, reduceCtorEq, ↓reduceIte, Nat.reduceAdd, Int.reduceNeg, Nat.reduceLeDiff, Int.reduceToNat, Int.reduceEq, Int.reduceLT, Int.reduceLE, Int.reduceAdd]
    refine hQ _ _ _ H [.agg (cG g0), .bool false] nofun (by simp (disch := first | omega | assumption) only [ir34, resvs, resv, cG, g0, hn3, Ne.symm hn3, steps, st2, pev, rev, oev, optr, ibin, sbin, ishf, bound, mmAll, mm2, mk, mkArgs, AV.cells, AV.boxable, AV.one, AV.strip1, fillA, fillS, Nat.reduceEqDiff, reduceCtorEq, ↓reduceIte, Nat.reduceAdd, Int.reduceNeg, Nat.reduceLeDiff, Int.reduceToNat, Int.reduceEq, Int.reduceLT, Int.reduceLE, Int.reduceAdd]) ?_ ⟨?_, rfl⟩
    · refine Low.of_sub fun b o hbo => ?_
      have e1 : b ≠ b4 := fun e => by subst e; rw [hb4] at hbo; cases hbo
      have e2 : b ≠ b6 := fun e => by subst e; have := fresh_of hb6; rw [hbo] at this; cases this
      simp [Heap.upd, e1, e2, hbo]
    · rw [hgr]; simp [tupOf, AV.strip, cG_strip, AV.strip1]
  | some g =>
    simp (disch := first | omega | assumption) only [h1, h2, hn1, hn2, Ne.symm hn1, Ne.symm hn2, hfit, cN_len, cN_take, hmg, lkres, Option.map_some, Option.getD_some, Option.isSome_some, steps, st2, pev, rev, oev, optr, ibin, sbin, ishf, bound, mmAll, mm2, mk, mkArgs, AV.cells, AV.boxable, AV.one, AV.strip1, fillA, fillS, Nat.reduceEqDiff, reduceCtorEq, ↓reduceIte, Nat.reduceAdd, Int.reduceNeg, Nat.reduceLeDiff, Int.reduceToNat, Int.reduceEq, Int.reduceLT, Int.reduceLE, Int.reduceAdd]
    refine goA_intro fun b6 hb6 => ?_
    have hn3 := ne_fresh hb6
    simp (disch := first | omega | assumption) only [hn3, Ne.symm hn3, cG, steps, st2, pev, rev, oev, optr, ibin, sbin, ishf, bound, mmAll, mm2, mk, mkArgs, AV.cells, AV.boxable, AV.one, AV.strip1, fillA, fillS, Nat.reduceEqDiff, reduceCtorEq, ↓reduceIte, Nat.reduceAdd, Int.reduceNeg, Nat.reduceLeDiff, Int.reduceToNat, Int.reduceEq, Int.reduceLT, Int.reduceLE, Int.reduceAdd]
    refine goK_pure (gotP g hb) ?_
    simp (disch := first | omega | assumption) only [hn3, Ne.symm hn3, cG, steps, st2, pev, rev, oev, optr, ibin, sbin, ishf, bound, mmAll, mm2, mk, mkArgs, AV.cells, AV.boxable, AV.one, AV.strip1, fillA, fillS, Nat.reduceEqDiff, reduceCtorEq, ↓reduceIte, Nat.reduceAdd, Int.reduceNeg, Nat.reduceLeDiff, Int.reduceToNat, Int.reduceEq, Int.reduceLT, Int.reduceLE, Int.reduceAdd]
    refine hQ _ _ _ H [.agg (cG g), .bool true] nofun (by simp (disch := first | omega | assumption) only [ir34, resvs, resv, cG, hn3, Ne.symm hn3, steps, st2, pev, rev, oev, optr, ibin, sbin, ishf, bound, mmAll, mm2, mk, mkArgs, AV.cells, AV.boxable, AV.one, AV.strip1, fillA, fillS, Nat.reduceEqDiff, reduceCtorEq, ↓reduceIte, Nat.reduceAdd, Int.reduceNeg, Nat.reduceLeDiff, Int.reduceToNat, Int.reduceEq, Int.reduceLT, Int.reduceLE, Int.reduceAdd]) ?_ ⟨?_, rfl⟩
    · refine Low.of_sub fun b o hbo => ?_
      have e1 : b ≠ b4 := fun e => by subst e; rw [hb4] at hbo; cases hbo
      have e2 : b ≠ b6 := fun e => by subst e; have := fresh_of hb6; rw [hbo] at this; cases this
      simp [Heap.upd, e1, e2, hbo]
    · rw [hgr]; simp [tupOf, AV.strip, cG_strip, AV.strip1]

theorem knowNil (n : Need) : Pure Try.prog 34 [.nilp, .agg (cN n)] (.tup [.agg (cG g0), .bool false]) := by
  refine Pure.go ir34 ck34 (Nat.le_refl _) fun KP Q hQ => ?_
  simp (disch := first | omega | assumption) only [ir34, steps, st2, pev, rev, oev, optr, ibin, sbin, ishf, bound, mmAll, mm2, mk, mkArgs, AV.cells, AV.boxable, AV.one, AV.strip1, fillA, fillS, Nat.reduceEqDiff, reduceCtorEq, ↓reduceIte, Nat.reduceAdd, Int.reduceNeg, Nat.reduceLeDiff, Int.reduceToNat, Int.reduceEq, Int.reduceLT, Int.reduceLE, Int.reduceAdd]
  refine goA_intro fun b4 hb4 => ?_
  simp (disch := first | omega | assumption) only [steps, st2, pev, rev, oev, optr, ibin, sbin, ishf, bound, mmAll, mm2, mk, mkArgs, AV.cells, AV.boxable, AV.one, AV.strip1, fillA, fillS, Nat.reduceEqDiff, reduceCtorEq, ↓reduceIte, Nat.reduceAdd, Int.reduceNeg, Nat.reduceLeDiff, Int.reduceToNat, Int.reduceEq, Int.reduceLT, Int.reduceLE, Int.reduceAdd]
  refine hQ _ _ _ [.agg [.str [], .str [], .sl .nil 6 [], .bool false, .bool false, .int .i64 0], .bool false] nofun (by simp (disch := first | omega | assumption) only [ir34, resvs, resv, steps, st2, pev, rev, oev, optr, ibin, sbin, ishf, bound, mmAll, mm2, mk, mkArgs, AV.cells, AV.boxable, AV.one, AV.strip1, fillA, fillS, Nat.reduceEqDiff, reduceCtorEq, ↓reduceIte, Nat.reduceAdd, Int.reduceNeg, Nat.reduceLeDiff, Int.reduceToNat, Int.reduceEq, Int.reduceLT, Int.reduceLE, Int.reduceAdd]) (by simp [tupOf, AV.strip, AV.strip1, cG, g0, cMs])

theorem flushC {H : Heap} {c m : Nat} {es : List (Need × Got)} (hc : CacheAt H c m es) :
    ACalls Try.prog 33 [.ptr c 0] H (fun e H' => ∃ v, e = .ret v ∧ (v = .tup [] ∧ ∃ m', H m' = none ∧ CacheAt H' c m' [] ∧ ∀ b x, b ≠ c → H b = some x → H' b = some x)) := by
  refine ACalls.go ir33 ck33 (Nat.le_refl _) fun KP Q hQ => ?_
  have h1 := hc.hc
  simp (disch := first | omega | assumption) only [ir33, h1, steps, st2, pev, rev, oev, optr, ibin, sbin, ishf, bound, mmAll, mm2, mk, mkArgs, AV.cells, AV.boxable, AV.one, AV.strip1, fillA, fillS, Nat.reduceEqDiff, reduceCtorEq, ↓reduceIte, Nat.reduceAdd, Int.reduceNeg, Nat.reduceLeDiff, Int.reduceToNat, Int.reduceEq, Int.reduceLT, Int.reduceLE, Int.reduceAdd]
  refine goA_intro fun d hd => ?_
  have hne := ne_of_none hd h1
  simp (disch := first | omega | assumption) only [h1, hne, Ne.symm hne, steps, st2, pev, rev, oev, optr, ibin, sbin, ishf, bound, mmAll, mm2, mk, mkArgs, AV.cells, AV.boxable, AV.one, AV.strip1, fillA, fillS, Nat.reduceEqDiff, reduceCtorEq, ↓reduceIte, Nat.reduceAdd, Int.reduceNeg, Nat.reduceLeDiff, Int.reduceToNat, Int.reduceEq, Int.reduceLT, Int.reduceLE, Int.reduceAdd]
  refine hQ _ _ _ _ _ nofun rfl (Low.refl _) ⟨rfl, d, hd, ⟨upd_same .., by rw [upd_ne hne, upd_same]; rfl⟩, fun b x hb hx => ?_⟩
  have : b ≠ d := fun e => by subst e; rw [hd] at hx; cases hx
  rw [upd_ne hb, upd_ne this]; exact hx

def freshG (es : List (Need × Got)) (l : List Need) : List Need := (dd [] l).filter fun n => (lookG es n).isNone

theorem freshC {H : Heap} {c m : Nat} {es : List (Need × Got)} (hc : CacheAt H c m es) (ho : okG es) (l : List Need) (hl : l.length ≤ Big) :
    ACalls Try.prog 31 [.ptr c 0, .sl .no 2 (cNs l)] H (fun e H' => ∃ v, e = .ret v ∧ (v = .sl .no 2 (cNs (freshG es l)) ∧ H' = H)) := by
  refine ACalls.go ir31 ck31 (Nat.le_refl _) fun KP Q hQ => ?_
  have hlb := hl
  simp only [Big] at hlb
  simp (disch := first | omega | assumption) only [ir31, steps, st2, pev, rev, oev, optr, ibin, sbin, ishf, bound, mmAll, mm2, mk, mkArgs, AV.cells, AV.boxable, AV.one, AV.strip1, fillA, fillS, Nat.reduceEqDiff, reduceCtorEq, ↓reduceIte, Nat.reduceAdd, Int.reduceNeg, Nat.reduceLeDiff, Int.reduceToNat, Int.reduceEq, Int.reduceLT, Int.reduceLE, Int.reduceAdd]
  refine goK_pure (onceP l hl) ?_
  obtain ⟨o, hod⟩ : ∃ o, dd [] l = o := ⟨_, rfl⟩
  have hol : o.length ≤ 4294967296 := by have := dd_len l []; rw [hod] at this; simp at this; omega
  have hll := cNs_len o
  rw [hod]
  simp (disch := first | omega | assumption) only [hll, steps, st2, pev, rev, oev, optr, ibin, sbin, ishf, bound, mmAll, mm2, mk, mkArgs, AV.cells, AV.boxable, AV.one, AV.strip1, fillA, fillS, Nat.reduceEqDiff, reduceCtorEq, ↓reduceIte, Nat.reduceAdd, Int.reduceNeg, Nat.reduceLeDiff, Int.reduceToNat, Int.reduceEq, Int.reduceLT, Int.reduceLE, Int.reduceAdd]
  refine goL_range o 13 (fun s : Own × List Need => [(5, .sl s.1 2 (cNs s.2))]) (fun done rest s H' => s.2 = done.filter (fun n => (lookG es n).isNone) ∧ OwnF H H' s.1 s.2.length 2) (.nil, []) (by simp (disch := first | omega | assumption) only [steps, st2, pev, rev, oev, optr, ibin, sbin, ishf, bound, mmAll, mm2, mk, mkArgs, AV.cells, AV.boxable, AV.one, AV.strip1, fillA, fillS, Nat.reduceEqDiff, reduceCtorEq, ↓reduceIte, Nat.reduceAdd, Int.reduceNeg, Nat.reduceLeDiff, Int.reduceToNat, Int.reduceEq, Int.reduceLT, Int.reduceLE, Int.reduceAdd] <;> simp [cNs]) ⟨rfl, OwnF.nil _ _⟩ ?_ ?_
  · rintro ⟨o1, out⟩ H1 J ⟨hout, how⟩ hlt
    simp only at hout
    subst hout
    simp (disch := first | omega | assumption) only [hll, hlt, steps, st2, pev, rev, oev, optr, ibin, sbin, ishf, bound, mmAll, mm2, mk, mkArgs, AV.cells, AV.boxable, AV.one, AV.strip1, fillA, fillS, Nat.reduceEqDiff, reduceCtorEq, ↓reduceIte, Nat.reduceAdd, Int.reduceNeg, Nat.reduceLeDiff, Int.reduceToNat, Int.reduceEq, Int.reduceLT, Int.reduceLE, Int.reduceAdd]
    refine hQ _ _ _ H _ nofun rfl (Low.of_sub how.sub) ⟨?_, rfl⟩
    simp [tupOf, envOf, AV.strip, AV.strip1, freshG, hod]
  · rintro done x rest ⟨o1, out⟩ H1 J hd hlt hlt' ⟨hout, how⟩ hJ
    have hg := cNs_get hd
    simp only at hout how
    have hob : out.length ≤ done.length := by rw [hout]; exact List.length_filter_le _ _
    have hol2 := cNs_len out
    have hfs : (done ++ [x]).filter (fun n => (lookG es n).isNone) = if (lookG es x).isNone then out ++ [x] else out := by
      rw [List.filter_append, List.filter_cons, List.filter_nil, ← hout]
      cases lookG es x <;> simp
    simp (disch := first | omega | assumption) only [hll, hlt, hg, cN, steps, st2, pev, rev, oev, optr, ibin, sbin, ishf, bound, mmAll, mm2, mk, mkArgs, AV.cells, AV.boxable, AV.one, AV.strip1, fillA, fillS, Nat.reduceEqDiff, reduceCtorEq, ↓reduceIte, Nat.reduceAdd, Int.reduceNeg, Nat.reduceLeDiff, Int.reduceToNat, Int.reduceEq, Int.reduceLT, Int.reduceLE, Int.reduceAdd]
    refine goA_intro fun b7 hb7 => ?_
    have how7 := how.upd (x := .cells [.str x.t, .str x.k]) hb7
    simp (disch := first | omega | assumption) only [steps, st2, pev, rev, oev, optr, ibin, sbin, ishf, bound, mmAll, mm2, mk, mkArgs, AV.cells, AV.boxable, AV.one, AV.strip1, fillA, fillS, Nat.reduceEqDiff, reduceCtorEq, ↓reduceIte, Nat.reduceAdd, Int.reduceNeg, Nat.reduceLeDiff, Int.reduceToNat, Int.reduceEq, Int.reduceLT, Int.reduceLE, Int.reduceAdd]
    refine goK_ret (knowC (hc.sub how7.sub) ho x) fun v H2 ⟨hv, hH⟩ => ?_
    subst hv; subst hH
    simp (disch := first | omega | assumption) only [steps, st2, pev, rev, oev, optr, ibin, sbin, ishf, bound, mmAll, mm2, mk, mkArgs, AV.cells, AV.boxable, AV.one, AV.strip1, fillA, fillS, Nat.reduceEqDiff, reduceCtorEq, ↓reduceIte, Nat.reduceAdd, Int.reduceNeg, Nat.reduceLeDiff, Int.reduceToNat, Int.reduceEq, Int.reduceLT, Int.reduceLE, Int.reduceAdd]
    refine goA_intro fun b8 hb8 => ?_
    have hne := ne_fresh hb8
    obtain ⟨gr, hgr⟩ : ∃ gr, lookG es x = gr := ⟨_, rfl⟩
    rw [hgr] at hfs
    rw [hgr]
    have how8 := how7.upd (x := .cells (cG (gr.getD g0))) hb8
    cases gr with
    | none =>
      simp only [Option.isNone_none, if_true] at hfs
      simp (disch := first | omega | assumption) only [cG, Option.getD_none, Option.isSome_none, hne, Ne.symm hne, steps, st2, pev, rev, oev, optr, ibin, sbin, ishf, bound, mmAll, mm2, mk, mkArgs, AV.cells, AV.boxable, AV.one, AV.strip1, fillA, fillS, Nat.reduceEqDiff, reduceCtorEq, ↓reduceIte, Nat.reduceAdd, Int.reduceNeg, Nat.reduceLeDiff, Int.reduceToNat, Int.reduceEq, Int.reduceLT, Int.reduceLE, Int.reduceAdd]
      refine goP_ownS (by rw [hol2]; exact how8.own) ?_ ?_ fun o' H' hos => ?_
      · simp only [hol2, List.length_cons, List.length_nil]; omega
      · simp only [hol2, List.length_cons, List.length_nil, maxLen]; omega
      simp only [hol2, List.length_cons, List.length_nil, Nat.zero_add] at hos
      simp (disch := first | omega | assumption) only [wrap64, AV.strip1, cNs_app, steps, st2, pev, rev, oev, optr, ibin, sbin, ishf, bound, mmAll, mm2, mk, mkArgs, AV.cells, AV.boxable, AV.one, AV.strip1, fillA, fillS, Nat.reduceEqDiff, reduceCtorEq, ↓reduceIte, Nat.reduceAdd, Int.reduceNeg, Nat.reduceLeDiff, Int.reduceToNat, Int.reduceEq, Int.reduceLT, Int.reduceLE, Int.reduceAdd]
      exact goJ (hJ (o', out ++ [x]) _ ⟨hfs.symm, by simpa using how8.stepS hos⟩) (by simp (disch := first | omega | assumption) only [hll, steps, st2, pev, rev, oev, optr, ibin, sbin, ishf, bound, mmAll, mm2, mk, mkArgs, AV.cells, AV.boxable, AV.one, AV.strip1, fillA, fillS, Nat.reduceEqDiff, reduceCtorEq, ↓reduceIte, Nat.reduceAdd, Int.reduceNeg, Nat.reduceLeDiff, Int.reduceToNat, Int.reduceEq, Int.reduceLT, Int.reduceLE, Int.reduceAdd])
    | some g =>
      simp only [Option.isNone_some, Bool.false_eq_true, if_false] at hfs
      simp (disch := first | omega | assumption) only [cG, Option.getD_some, Option.isSome_some, hne, Ne.symm hne, wrap64, steps, st2, pev, rev, oev, optr, ibin, sbin, ishf, bound, mmAll, mm2, mk, mkArgs, AV.cells, AV.boxable, AV.one, AV.strip1, fillA, fillS, Nat.reduceEqDiff, reduceCtorEq, ↓reduceIte, Nat.reduceAdd, Int.reduceNeg, Nat.reduceLeDiff, Int.reduceToNat, Int.reduceEq, Int.reduceLT, Int.reduceLE, Int.reduceAdd]
      exact goJ (hJ (o1, out) _ ⟨hfs.symm, how8⟩) (by simp (disch := first | omega | assumption) only [hll, steps, st2, pev, rev, oev, optr, ibin, sbin, ishf, bound, mmAll, mm2, mk, mkArgs, AV.cells, AV.boxable, AV.one, AV.strip1, fillA, fillS, Nat.reduceEqDiff, reduceCtorEq, ↓reduceIte, Nat.reduceAdd, Int.reduceNeg, Nat.reduceLeDiff, Int.reduceToNat, Int.reduceEq, Int.reduceLT, Int.reduceLE, Int.reduceAdd])
end Go.Proofs.Ythkpgjnibolnhaa
