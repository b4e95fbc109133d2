import Derived.JoinedCond
import Derived.Deep.CondSized
import Derived.ProofKit
import Derived.SizedLaws
import Derived.OpenShut
import Derived.Test.YthkpgjnibolnhaaM1
import Derived.Test.YthkpgjnibolnhaaM2
import Derived.Test.YthkpgjnibolnhaaM3
set_option maxRecDepth 100000
set_option linter.unusedSimpArgs false
set_option linter.unusedVariables false
namespace Go.Proofs.Ythkpgjnibolnhaa
open Go.Ab
structure OpC where
  k : Int
  w : Int
  l : List Batch
def cOpC (o : OpC) : List AV := [.int .i64 o.k, .int .i64 o.w, .sl .no 2 (cBs o.l)]
def cOpCs (l : List OpC) : List (List AV) := l.map cOpC
theorem cOpCs_len (l : List OpC) : (cOpCs l).length = l.length := by simp [cOpCs]
theorem cOpCs_get {l a : List OpC} {x : OpC} {b : List OpC} (h : l = a ++ x :: b) : (cOpCs l).getD a.length [] = cOpC x := getD_mid' h
def bB (x : Batch) : Nat := x.keys.length + 1
def bBs (l : List Batch) : Nat := (l.map bB).sum
def bOpC (o : OpC) : Nat := 1 + bBs o.l
def bOpCs (l : List OpC) : Nat := (l.map bOpC).sum
theorem bOpCs_mid (a : List OpC) (x : OpC) (b : List OpC) : bOpCs (a ++ x :: b) = bOpCs a + bOpC x + bOpCs b := by simp [bOpCs]; omega
theorem bOpCs_snoc (a : List OpC) (x : OpC) : bOpCs (a ++ [x]) = bOpCs a + bOpC x := by simp [bOpCs]
theorem bOpCs_len : ∀ l : List OpC, l.length ≤ bOpCs l
  | [] => Nat.zero_le _
  | x :: r => by have := bOpCs_len r; simp only [bOpCs, List.map_cons, List.sum_cons, List.length_cons, bOpC] at this ⊢; omega
theorem bBs_len : ∀ l : List Batch, l.length ≤ bBs l
  | [] => Nat.zero_le _
  | x :: r => by have := bBs_len r; simp only [bBs, List.map_cons, List.sum_cons, List.length_cons, bB] at this ⊢; omega
theorem bBs_mem {x : Batch} : ∀ {l : List Batch}, x ∈ l → x.keys.length ≤ bBs l
  | y :: r, h => by
    simp only [bBs, List.map_cons, List.sum_cons, bB]
    rcases List.mem_cons.1 h with e | e
    · subst e; omega
    · have := bBs_mem e; simp only [bBs] at this; omega
theorem cells_ne {H : Heap} {x y : Nat} {a b : List AV} (hx : H x = some (.cells a)) (hy : H y = some (.cells b)) (h : a ≠ b) : x ≠ y := fun e => by
  subst e; rw [hx] at hy; exact h (AObj.cells.inj (Option.some.inj hy))
structure Two (H : Heap) (c r n k : Nat) (l : Nat) (o : Own) (s h : Nat) (o2 : Own) (ws : List (Int × Batch)) (q : List Batch) : Prop where
  hc : CrewAt H c l o ws q
  hr : RcAt H r s h o2 ws q
  len : ws.length = n
  st : ∀ x ∈ ws, 0 ≤ x.1 ∧ x.1 ≤ 2
  sw : ∀ x ∈ ws, x.2.keys.length ≤ 1048576
  sq : ∀ x ∈ q, x.keys.length ≤ 1048576
  ql : q.length ≤ k
  ap : ∀ b d d2, o = .tip b d → o2 ≠ .tip b d2
theorem Two.ne {H : Heap} {c r n k l : Nat} {o : Own} {s h : Nat} {o2 : Own} {ws : List (Int × Batch)} {q : List Batch} (t : Two H c r n k l o s h o2 ws q) (hn : 1 ≤ n) : c ≠ r ∧ c ≠ s ∧ c ≠ h ∧ l ≠ r ∧ l ≠ s ∧ l ≠ h := by
  have hlen := t.len
  obtain ⟨w0, wr, rfl⟩ : ∃ w0 wr, ws = w0 :: wr := by
    cases ws with
    | nil => simp at hlen; omega
    | cons a b => exact ⟨a, b, rfl⟩
  refine ⟨cells_ne t.hc.hc t.hr.hr (fun e => by have := congrArg List.length e; simp at this), cells_ne t.hc.hc t.hr.hs (fun e => by have := congrArg List.head? e; simp [stC, cWs, cW, hdC, cB] at this), cells_ne t.hc.hc t.hr.hh (fun e => by have := congrArg List.head? e; simp [stC, cWs, cW, hdC, cB] at this), cells_ne t.hc.hl t.hr.hr (fun e => by have := congrArg List.head? e; simp [stC, cWs, cW, hdC, cB] at this), cells_ne t.hc.hl t.hr.hs (fun e => ?_), cells_ne t.hc.hl t.hr.hh (fun e => by have := congrArg List.head? e; simp [stC, cWs, cW, hdC, cB] at this)⟩
  have := congrArg List.length e
  rw [cWs_length, stC_len] at this
  simp only [List.length_cons] at this
  omega
def BothC (H : Heap) (c r n k : Nat) : Prop := ∃ l o s h o2 ws q, Two H c r n k l o s h o2 ws q
theorem Two.sub {H H' : Heap} {c r n k l : Nat} {o : Own} {s h : Nat} {o2 : Own} {ws : List (Int × Batch)} {q : List Batch} (t : Two H c r n k l o s h o2 ws q) (hs : Sub H H') : Two H' c r n k l o s h o2 ws q :=
  ⟨t.hc.sub hs, t.hr.sub hs, t.len, t.st, t.sw, t.sq, t.ql, t.ap⟩
theorem two_mid {α : Type} {a b done rest : List α} {x : α} (h : a = done ++ x :: rest) (hl : a.length = b.length) (hp : b.take done.length = done) : ∃ y r, b = done ++ y :: r := by
  have h1 : done.length < b.length := by rw [← hl, h]; simp
  refine ⟨b[done.length], b.drop (done.length + 1), ?_⟩
  conv => lhs; rw [← List.take_append_drop done.length b, hp, List.drop_eq_getElem_cons h1]
theorem two_step {α : Type} {b done r : List α} {y : α} (h : b = done ++ y :: r) : b.take (done ++ [y]).length = done ++ [y] := by
  subst h
  have e : done ++ y :: r = (done ++ [y]) ++ r := by simp
  rw [e, List.take_left']; rfl
theorem two_end {α : Type} {a b : List α} (hl : a.length = b.length) (hp : b.take a.length = a) : a = b := by
  rw [hl, List.take_length] at hp; exact hp.symm
theorem two_ne {α : Type} {a b done rest r : List α} {x y : α} (h : a = done ++ x :: rest) (h' : b = done ++ y :: r) (hxy : x ≠ y) : a ≠ b := fun e => by
  rw [h, h'] at e
  exact hxy (List.cons.inj (List.append_cancel_left e)).1
theorem cI_get {l a : List Int} {x : Int} {b : List Int} (h : l = a ++ x :: b) : (cI l).getD a.length [] = [.int .i64 x] := getD_mid' h
theorem sameIntsC (a b : List Int) (ha : a.length ≤ 300) : Pure Try.prog 49 [.sl .no 1 (cI a), .sl .no 1 (cI b)] (.bool (decide (a = b))) := by
  refine Pure.go ir49 ck49 (Nat.le_refl _) fun KP Q hQ => ?_
  have hal := cI_length a
  have hbl := cI_length b
  by_cases hab : a.length = b.length
  · have e : ((a.length : Int) = b.length) = True := eq_true (by omega)
    simp (disch := first | omega | assumption) only [ir49, hal, hbl, e, go_sem, ↓reduceIte]
    refine goL_range a 5 (fun _ : Unit => []) (fun done rest _ H => b.take done.length = done ∧ H = Heap.emp) () (by simp (disch := first | omega | assumption) only [go_sem, ↓reduceIte]) ⟨rfl, rfl⟩ ?_ ?_
    · rintro ⟨⟩ H J ⟨hp, rfl⟩ hlt
      have := two_end hab hp
      simp (disch := first | omega | assumption) only [hal, hlt, go_sem, ↓reduceIte]
      exact hQ _ _ _ _ nofun rfl (by simp [tupOf, envOf, AV.strip, AV.strip1, this])
    · rintro done x rest ⟨⟩ H J hd hlt _ ⟨hp, rfl⟩ hJ
      obtain ⟨y, r, hy⟩ := two_mid hd hab hp
      have g1 := cI_get hd
      have g2 := cI_get hy
      have hlt2 : (done.length : Int) < b.length := by omega
      by_cases hxy : x = y
      · subst hxy
        simp (disch := first | omega | assumption) only [hal, hbl, hlt, hlt2, g1, g2, wrap64, go_sem, ↓reduceIte]
        refine goJ (hJ () _ ⟨two_step hy, rfl⟩) (by simp (disch := first | omega | assumption) only [go_sem, ↓reduceIte])
      · simp (disch := first | omega | assumption) only [hal, hbl, hlt, hlt2, g1, g2, hxy, go_sem, ↓reduceIte]
        exact hQ _ _ _ _ nofun rfl (by simp [tupOf, envOf, AV.strip, AV.strip1, two_ne hd hy hxy])
  · have e : ¬ ((a.length : Int) = b.length) := by omega
    simp (disch := first | omega | assumption) only [ir49, hal, hbl, e, go_sem, ↓reduceIte]
    have hne : ¬ a = b := fun h => hab (by rw [h])
    exact hQ _ _ _ _ nofun rfl (by simp [tupOf, envOf, AV.strip, AV.strip1, hne])
theorem fb_strip (l : List Batch) : (fb l).map AV.strip1 = fb l := by
  induction l with
  | nil => rfl
  | cons x r ih => simp only [fb, cBs] at ih; simp only [fb, cBs, List.map_cons, List.flatten_cons, List.map_append, ih]; rfl
theorem set_mem {α : Type} {x y : α} : ∀ {l : List α} {i : Nat}, x ∈ l.set i y → x ∈ l ∨ x = y
  | [], _, h => by cases h
  | a :: r, 0, h => by
    rcases List.mem_cons.1 h with e | e
    · exact .inr e
    · exact .inl (List.mem_cons_of_mem _ e)
  | a :: r, i + 1, h => by
    rcases List.mem_cons.1 h with e | e
    · exact .inl (by rw [e]; exact List.mem_cons_self ..)
    · rcases set_mem e with e | e
      · exact .inl (List.mem_cons_of_mem _ e)
      · exact .inr e
theorem getD_in {α : Type} {l : List α} {i : Nat} {d : α} : l.getD i d ∈ l ∨ l.getD i d = d := by
  rw [List.getD_eq_getElem?_getD]
  cases h : l[i]? with
  | none => right; rfl
  | some x => left; exact List.mem_of_getElem? h
theorem headD_le {q : List Batch} (h : ∀ x ∈ q, x.keys.length ≤ 1048576) : (q.headD ⟨[], []⟩).keys.length ≤ 1048576 := by
  cases q with
  | nil => simp
  | cons a r => exact h a (by simp)
theorem get_le {ws : List (Int × Batch)} (hs : ∀ x ∈ ws, 0 ≤ x.1 ∧ x.1 ≤ 2) (h : ∀ x ∈ ws, x.2.keys.length ≤ 1048576) (i : Nat) : (0 ≤ (ws.getD i (0, ⟨[], []⟩)).1 ∧ (ws.getD i (0, ⟨[], []⟩)).1 ≤ 2) ∧ (ws.getD i (0, ⟨[], []⟩)).2.keys.length ≤ 1048576 := by
  rcases getD_in (l := ws) (i := i) (d := (0, ⟨[], []⟩)) with e | e
  · exact ⟨hs _ e, h _ e⟩
  · rw [e]; simp
theorem step_ws {ws : List (Int × Batch)} {q : List Batch} {w : Int} (hs : ∀ x ∈ ws, 0 ≤ x.1 ∧ x.1 ≤ 2) (h : ∀ x ∈ ws, x.2.keys.length ≤ 1048576) (hq : ∀ x ∈ q, x.keys.length ≤ 1048576) : ∀ x ∈ (stepW ws q w).2.1, (0 ≤ x.1 ∧ x.1 ≤ 2) ∧ x.2.keys.length ≤ 1048576 := by
  have hg := get_le hs h (w - 1).toNat
  intro x hx
  unfold stepW at hx
  split at hx
  · simp only at hx
    split at hx
    · rcases set_mem hx with e | e
      · exact ⟨hs x e, h x e⟩
      · rw [e]; exact ⟨by simp, headD_le hq⟩
    · rcases set_mem hx with e | e
      · exact ⟨hs x e, h x e⟩
      · rw [e]
        refine ⟨?_, hg.2⟩
        simp only
        split <;> omega
  · exact ⟨hs x hx, h x hx⟩
theorem step_q {ws : List (Int × Batch)} {q : List Batch} {w : Int} (hq : ∀ x ∈ q, x.keys.length ≤ 1048576) : ∀ x ∈ (stepW ws q w).2.2, x.keys.length ≤ 1048576 := by
  intro x hx
  unfold stepW at hx
  split at hx
  · simp only at hx
    split at hx
    · exact hq x (List.mem_of_mem_tail hx)
    · exact hq x hx
  · exact hq x hx
theorem step_len {ws : List (Int × Batch)} {q : List Batch} {w : Int} : (stepW ws q w).2.1.length = ws.length := by
  unfold stepW
  split
  · simp only; split <;> simp
  · rfl
theorem step_qlen {ws : List (Int × Batch)} {q : List Batch} {w : Int} : (stepW ws q w).2.2.length ≤ q.length := by
  unfold stepW
  split
  · simp only; split
    · simp
    · exact Nat.le_refl _
  · exact Nat.le_refl _
theorem step_b {ws : List (Int × Batch)} {q : List Batch} {w : Int} (h : ∀ x ∈ ws, x.2.keys.length ≤ 1048576) (hq : ∀ x ∈ q, x.keys.length ≤ 1048576) : (stepW ws q w).1.1.keys.length ≤ 1048576 := by
  unfold stepW
  split
  · simp only; split
    · exact headD_le hq
    · rcases getD_in (l := ws) (i := (w - 1).toNat) (d := (0, ⟨[], []⟩)) with e | e
      · exact h _ e
      · simp only [e]; simp
  · simp
theorem two_lay {Hx H6 : Heap} {c r n k lx : Nat} {o' : Own} {s h : Nat} {o2 o3 : Own} {ws : List (Int × Batch)} {q l : List Batch} (hc : CrewAt Hx c lx o' ws (q ++ l)) (hr : RcAt Hx r s h o2 ws q)
    (len : ws.length = n) (st : ∀ x ∈ ws, 0 ≤ x.1 ∧ x.1 ≤ 2) (sw : ∀ x ∈ ws, x.2.keys.length ≤ 1048576) (sq : ∀ x ∈ q, x.keys.length ≤ 1048576) (sl : ∀ x ∈ l, x.keys.length ≤ 1048576) (ql : q.length + l.length ≤ k)
    (ap : ∀ b d d2, o' = .tip b d → o2 ≠ .tip b d2) (hos : OwnS Hx o2 H6 o3 (q.length + l.length) 2) (ncr : c ≠ r) (nlr : lx ≠ r) :
    Two (H6.upd r (.cells [.ms s 0 ws.length ws.length, .ms h 0 ws.length ws.length, .sl o3 2 (cBs (q ++ l))])) c r n k lx o' s h o3 ws (q ++ l) := by
  have nt : ∀ x cs, Hx x = some (.cells cs) → ∀ d, o2 ≠ .tip x d := fun x cs hx d e => by
    have := hr.own; subst e
    have h2 : Hx x = some (.tip (d + q.length) 2) := this
    rw [hx] at h2; cases h2
  have kp : ∀ x cs, Hx x = some (.cells cs) → H6 x = some (.cells cs) := fun x cs hx => hos.kept _ _ hx (nt x cs hx)
  have hlen : (q ++ l).length = q.length + l.length := by simp
  refine ⟨⟨by rw [upd_ne ncr]; exact kp _ _ hc.hc, by rw [upd_ne nlr]; exact kp _ _ hc.hl, hc.ne, ?_⟩, ⟨upd_same .., by rw [upd_ne (Ne.symm hr.ne1)]; exact kp _ _ hr.hs, by rw [upd_ne (Ne.symm hr.ne2)]; exact kp _ _ hr.hh, hr.ne1, hr.ne2, hr.ne3, ?_⟩, len, st, sw, fun x hx => ?_, by rw [hlen]; exact ql, fun b d d2 e e2 => ?_⟩
  · have ho := hc.own
    cases o' with
    | tip b d =>
      have hb : Hx b = some (.tip (d + (q ++ l).length) 2) := ho
      have nb : b ≠ r := fun e => by subst e; rw [hr.hr] at hb; cases hb
      show (H6.upd r _) b = _
      rw [upd_ne nb]
      exact hos.kept _ _ hb fun d2 => ap b d d2 rfl
    | no => exact ho
    | nil => exact ho
    | full => exact ho
  · exact own_updc (by rw [hlen]; exact hos.own) (kp _ _ hr.hr)
  · rcases List.mem_append.1 hx with e | e
    · exact sq x e
    · exact sl x e
  · subst e
    have hb : Hx b = some (.tip (d + (q ++ l).length) 2) := hc.own
    rcases hos.new b d2 e2 with h1 | ⟨d0, h1⟩
    · rw [hb] at h1; cases h1
    · exact ap b d d0 rfl h1
set_option maxHeartbeats 2000000 in
theorem plays (n : Int) (l : List OpC) (hb : bOpCs l ≤ 1048576) : Pure Try.prog 11 [.int .i64 n, .sl .no 3 (cOpCs l)] (.bool true) := by
  refine Pure.go ir11 ck11 (Nat.le_refl _) fun KP Q hQ => ?_
  have hll := cOpCs_len l
  have hlb := bOpCs_len l
  by_cases c1 : (80 : Int) < l.length
  · simp (disch := first | omega | assumption) only [ir11, hll, c1, go_sem, ↓reduceIte]
    refine goK_pure awakeC ?_
    simp (disch := first | omega | assumption) only [go_sem, ↓reduceIte]
    exact hQ _ _ _ _ nofun rfl (by simp [tupOf, envOf, AV.strip, AV.strip1])
  simp (disch := first | omega | assumption) only [ir11, hll, c1, go_sem, ↓reduceIte]
  by_cases hbad : n < 1 ∨ 16 < n
  · refine goK_ret (newBad n hbad) fun v H ⟨hv, hH⟩ => ?_
    subst hv; subst hH
    by_cases b1 : n < 1
    · simp (disch := first | omega | assumption) only [eq_true b1, go_sem, ↓reduceIte]
      refine goK_pure (stepNil 1) ?_
      simp (disch := first | omega | assumption) only [go_sem, ↓reduceIte]
      refine goA_intro fun b6 hb6 => ?_
      simp (disch := first | omega | assumption) only [go_sem, ↓reduceIte]
      refine goK_pure canAllNil ?_
      simp (disch := first | omega | assumption) only [List.length_nil, wrap64, go_sem, ↓reduceIte]
      refine goK_pure waitsNil ?_
      simp (disch := first | omega | assumption) only [wrap64, go_sem, ↓reduceIte]
      refine goK_pure busyNil ?_
      simp (disch := first | omega | assumption) only [wrap64, go_sem, ↓reduceIte]
      refine goK_pure awakeC ?_
      simp (disch := first | omega | assumption) only [go_sem, ↓reduceIte]
      exact hQ _ _ _ _ nofun rfl (by simp [tupOf, envOf, AV.strip, AV.strip1])
    · have b2 : 16 < n := hbad.resolve_left b1
      simp (disch := first | omega | assumption) only [b1, eq_true b2, go_sem, ↓reduceIte]
      refine goK_pure (stepNil 1) ?_
      simp (disch := first | omega | assumption) only [go_sem, ↓reduceIte]
      refine goA_intro fun b6 hb6 => ?_
      simp (disch := first | omega | assumption) only [go_sem, ↓reduceIte]
      refine goK_pure canAllNil ?_
      simp (disch := first | omega | assumption) only [List.length_nil, wrap64, go_sem, ↓reduceIte]
      refine goK_pure waitsNil ?_
      simp (disch := first | omega | assumption) only [wrap64, go_sem, ↓reduceIte]
      refine goK_pure busyNil ?_
      simp (disch := first | omega | assumption) only [wrap64, go_sem, ↓reduceIte]
      refine goK_pure awakeC ?_
      simp (disch := first | omega | assumption) only [go_sem, ↓reduceIte]
      exact hQ _ _ _ _ nofun rfl (by simp [tupOf, envOf, AV.strip, AV.strip1])
  have h1 : 1 ≤ n := by omega
  have h2 : n ≤ 16 := by omega
  have b1 : ¬ n < 1 := by omega
  have b2 : ¬ 16 < n := by omega
  refine goK_ret (newC n h1 h2) fun v H ⟨c, lc, hv, hc0, _, _, _⟩ => ?_
  subst hv
  simp (disch := first | omega | assumption) only [b1, b2, go_sem, ↓reduceIte]
  refine goK_ret (refNewC n h1 h2) fun v H0 ⟨r, s0, h0, hv, hr0, hsub0⟩ => ?_
  subst hv
  have il : (idle n.toNat).length = n.toNat := by simp [idle]
  have hB0 : BothC H0 c r n.toNat 0 := ⟨lc, .nil, s0, h0, .nil, idle n.toNat, [], hc0.sub hsub0, hr0, il, fun x hx => by rw [(List.mem_replicate.1 hx).2]; simp, fun x hx => by rw [(List.mem_replicate.1 hx).2]; simp, fun x hx => by simp at hx, by simp, fun b d d2 e => by cases e⟩
  simp (disch := first | omega | assumption) only [go_sem, ↓reduceIte]
  refine goL_range l 9 (fun _ : Unit => []) (fun done rest _ H => BothC H c r n.toNat (bOpCs done)) () (by simp (disch := first | omega | assumption) only [go_sem, ↓reduceIte]) hB0 ?_ ?_
  · rintro ⟨⟩ H1 J hB hlt
    simp (disch := first | omega | assumption) only [hll, hlt, go_sem, ↓reduceIte]
    refine goK_pure awakeC ?_
    simp (disch := first | omega | assumption) only [go_sem, ↓reduceIte]
    exact hQ _ _ _ _ nofun rfl (by simp [tupOf, envOf, AV.strip, AV.strip1])
  · rintro done op rest ⟨⟩ H1 J hd hlt hlt2 hB hJ
    have hg := cOpCs_get hd
    have hbm := bOpCs_mid done op rest
    have hbs := bOpCs_snoc done op
    rw [← hd] at hbm
    simp only [bOpC] at hbm hbs
    have hol := bBs_len op.l
    simp (disch := first | omega | assumption) only [hll, hlt, go_sem, ↓reduceIte]
    refine goU_cut (fun _ : Unit => []) (fun _ H => BothC H c r n.toNat (bOpCs (done ++ [op]))) (fun J2 hJ2 => ?_) ?_
    rotate_left
    · rintro ⟨⟩ H2 hB2
      simp (disch := first | omega | assumption) only [wrap64, go_sem, ↓reduceIte]
      exact goJ (hJ () H2 hB2) (by simp (disch := first | omega | assumption) only [go_sem, ↓reduceIte])
    simp (disch := first | omega | assumption) only [hll, hlt, hg, cOpC, go_sem, ↓reduceIte]
    refine goA_intro fun b10 hb10 => ?_
    simp (disch := first | omega | assumption) only [hll, hlt, hg, cOpC, go_sem, ↓reduceIte]
    have hB6 : ∃ l o s h o2 ws q, Two (H1.upd b10 (.cells (cOpC op))) c r n.toNat (bOpCs done) l o s h o2 ws q ∧ c ≠ b10 ∧ l ≠ b10 ∧ r ≠ b10 ∧ s ≠ b10 ∧ h ≠ b10 := by
      obtain ⟨lx, o, s, h, o2, ws, q, ht⟩ := hB
      have nn : ∀ x cs, H1 x = some (.cells cs) → x ≠ b10 := fun x cs hx e => by subst e; rw [hb10] at hx; cases hx
      exact ⟨lx, o, s, h, o2, ws, q, ht.sub (sub_upd (sub_refl H1) hb10), nn _ _ ht.hc.hc, nn _ _ ht.hc.hl, nn _ _ ht.hr.hr, nn _ _ ht.hr.hs, nn _ _ ht.hr.hh⟩
    have k6 : (H1.upd b10 (.cells (cOpC op))) b10 = some (.cells (cOpC op)) := upd_same ..
    unfold cOpC at hB6 k6
    generalize (H1.upd b10 (.cells [.int .i64 op.k, .int .i64 op.w, .sl .no 2 (cBs op.l)])) = H2 at *
    refine goK_pure (lightC op.l (by simp only [maxLen]; omega)) ?_
    by_cases hli : lightN op.l 0 ≤ 200
    case neg =>
      simp (disch := first | omega | assumption) only [hli, go_sem, ↓reduceIte]
      refine goK_pure awakeC ?_
      simp (disch := first | omega | assumption) only [go_sem, ↓reduceIte]
      exact hQ _ _ _ _ nofun rfl (by simp [tupOf, envOf, AV.strip, AV.strip1])
    simp (disch := first | omega | assumption) only [eq_true hli, go_sem, ↓reduceIte]
    refine goU_cut (fun _ : Unit => []) (fun _ H => BothC H c r n.toNat (bOpCs (done ++ [op]))) (fun J3 hJ3 => ?_) ?_
    · obtain ⟨lx, o, s, h, o2, ws, q, t, m1, m2, m3, m4, m5⟩ := hB6
      have hn16 : ws.length ≤ 16 := by rw [t.len]; omega
      obtain ⟨ncr, ncs, nch, nlr, nls, nlh⟩ := t.ne (by omega)
      by_cases q0 : op.k = 0
      · have q0t := eq_true q0
        have hqo0 := cBs_length op.l
        have hbl := bBs_len op.l
        have hqx := t.ql
        have hsmall : ∀ b ∈ op.l, b.small := fun b hb => by have := bBs_mem hb; simp only [Batch.small]; omega
        simp (disch := first | omega | assumption) only [k6, q0t, go_sem, ↓reduceIte]
        refine goPm_nil rfl (by rw [hqo0]; omega) (by rw [hqo0]; simp only [maxLen]; omega) (fun he => ?_) (fun hne bb cap hbb hcap hm => ?_)
        · have hl0 : op.l = [] := by
            have := congrArg List.length he
            rw [hqo0] at this
            exact List.eq_nil_of_length_eq_zero this
          simp (disch := first | omega | assumption) only [go_sem, ↓reduceIte]
          refine goK_ret (ACalls.low (layC t.hc [] (fun b hb => by cases hb) (by simp; omega))) fun v Hx ⟨hv, ⟨o', htip, hcx⟩, hkx⟩ => ?_
          subst hv
          rw [← hl0] at hcx
          have kp : ∀ x cs, x ≠ c → H2 x = some (.cells cs) → Hx x = some (.cells cs) := fun x cs hxc hx => hkx x _ hxc (fun d e => by
            have := t.hc.own; subst e
            have h2 : H2 x = some (.tip (d + q.length) 2) := this
            rw [hx] at h2; cases h2) hx
          have kbx := kp _ _ (Ne.symm m1) k6
          have hrx : RcAt Hx r s h o2 ws q := ⟨kp _ _ (Ne.symm ncr) t.hr.hr, kp _ _ (Ne.symm ncs) t.hr.hs, kp _ _ (Ne.symm nch) t.hr.hh, t.hr.ne1, t.hr.ne2, t.hr.ne3, by
            have ho := t.hr.own
            cases o2 with
            | tip b d =>
              have hb : H2 b = some (.tip (d + q.length) 2) := ho
              exact hkx b _ (fun e => by subst e; rw [t.hc.hc] at hb; cases hb) (fun d3 e => t.ap b d3 d e rfl) hb
            | no => exact ho
            | nil => exact ho
            | full => exact ho⟩
          have hapx : ∀ b d d2, o' = .tip b d → o2 ≠ .tip b d2 := fun b d d2 e e2 => by
            rcases htip b d e with h1 | ⟨d0, h1⟩
            · have := t.hr.own; subst e2
              have h2 : H2 b = some (.tip (d2 + q.length) 2) := this
              rw [h1] at h2; cases h2
            · exact t.ap b d0 d2 h1 e2
          simp (disch := first | omega | assumption) only [go_sem, ↓reduceIte]
          refine goL_st (fun _ : Unit => [(12, .int .i64 0)]) (fun _ H' => H' = Hx) (fun _ => 0) () (by simp (disch := first | omega | assumption) only [go_sem, ↓reduceIte]) rfl ?_
          rintro ⟨⟩ H' J4 rfl hJ4
          simp (disch := first | omega | assumption) only [List.length_nil, go_sem, ↓reduceIte]
          have k1 := hrx.hr
          have hqq := cBs_length q
          have hqo := cBs_length op.l
          simp (disch := first | omega | assumption) only [k1, kbx, go_sem, ↓reduceIte]
          refine goP_ownS (by rw [hqq]; exact hrx.own) (by simp only [hqq, hqo]; omega) (by simp only [hqq, hqo, maxLen]; omega) fun o6 H6 hos => ?_
          rw [hqq, hqo] at hos
          have two := two_lay (k := bOpCs (done ++ [op])) hcx hrx t.len t.st t.sw t.sq (fun x hx => by have := bBs_mem hx; omega) (by have := t.ql; omega) hapx hos ncr nlr
          have kr6 : H6 r = some (.cells [.ms s 0 ws.length ws.length, .ms h 0 ws.length ws.length, .sl o2 2 (cBs q)]) := hos.kept _ _ k1 fun d e => by
            have := hrx.own; subst e
            have h2 : _ = some (AObj.tip (d + q.length) 2) := this
            rw [k1] at h2; cases h2
          have eapp : cBs q ++ (cBs op.l).map (·.map AV.strip1) = cBs (q ++ op.l) := by rw [cBs_strip]; simp [cBs]
          rw [eapp]
          simp (disch := first | omega | assumption) only [kr6, go_sem, ↓reduceIte]
          exact goJ (hJ3 () _ ⟨lx, o', s, h, o6, ws, q ++ op.l, two⟩) (by simp (disch := first | omega | assumption) only [go_sem, ↓reduceIte])
        · have e0 : (cBs op.l).flatten.map AV.strip1 = fb op.l := fb_strip op.l
          rw [e0, hqo0]
          generalize madeA [.str [], .sl .nil 1 []] (cap - op.l.length) = rst
          have t' := t.sub (sub_upd (o := .cells (fb op.l ++ rst)) (sub_refl H2) hbb)
          have kbb0 : (H2.upd bb (.cells (fb op.l ++ rst))) bb = some (.cells (fb op.l ++ rst)) := upd_same ..
          have nn : ∀ x cs, H2 x = some (.cells cs) → bb ≠ x := fun x cs hx e => by subst e; rw [hbb] at hx; cases hx
          have nbc := nn _ _ t.hc.hc
          have nbl := nn _ _ t.hc.hl
          have nbr := nn _ _ t.hr.hr
          have nbs := nn _ _ t.hr.hs
          have nbh := nn _ _ t.hr.hh
          have nb10 := nn _ _ k6
          have k6' : (H2.upd bb (.cells (fb op.l ++ rst))) b10 = _ := (upd_ne (Ne.symm nb10)).trans k6
          generalize (H2.upd bb (.cells (fb op.l ++ rst))) = Hb at *
          simp (disch := first | omega | assumption) only [go_sem, ↓reduceIte]
          refine goK_ret (layM t'.hc op.l bb cap rst kbb0 nbc hsmall (by omega)) fun v Hx ⟨hv, ⟨o', htip, hcx0⟩, hkx⟩ => ?_
          subst hv
          have kp : ∀ x cs, x ≠ c → Hb x = some (.cells cs) → Hx x = some (.cells cs) := fun x cs hxc hx => hkx x _ hxc (fun d e => by
            have := t'.hc.own; subst e
            have h2 : Hb x = some (.tip (d + q.length) 2) := this
            rw [hx] at h2; cases h2) hx
          have kbx0 := kp _ _ (Ne.symm m1) k6'
          have kbb1 := kp _ _ nbc kbb0
          have hrx0 : RcAt Hx r s h o2 ws q := ⟨kp _ _ (Ne.symm ncr) t'.hr.hr, kp _ _ (Ne.symm ncs) t'.hr.hs, kp _ _ (Ne.symm nch) t'.hr.hh, t.hr.ne1, t.hr.ne2, t.hr.ne3, by
            have ho := t'.hr.own
            cases o2 with
            | tip b d =>
              have hb : Hb b = some (.tip (d + q.length) 2) := ho
              exact hkx b _ (fun e => by subst e; rw [t'.hc.hc] at hb; cases hb) (fun d3 e => t.ap b d3 d e rfl) hb
            | no => exact ho
            | nil => exact ho
            | full => exact ho⟩
          have hapx : ∀ b d d2, o' = .tip b d → o2 ≠ .tip b d2 := fun b d d2 e e2 => by
            rcases htip b d e with h1 | ⟨d0, h1⟩
            · have := t'.hr.own; subst e2
              have h2 : Hb b = some (.tip (d2 + q.length) 2) := this
              rw [h1] at h2; cases h2
            · exact t.ap b d0 d2 h1 e2
          have hL : op.l.length * 2 ≤ (fb op.l ++ rst).length := by rw [List.length_append, fb_len]; omega
          simp (disch := first | omega | assumption) only [go_sem, ↓reduceIte]
          refine goL_st (fun i : Nat => [(12, .int .i64 (i : Int))]) (fun i H' => i ≤ op.l.length ∧ (∀ x, x ≠ bb → H' x = Hx x) ∧ ∃ cs, H' bb = some (.cells cs) ∧ op.l.length * 2 ≤ cs.length) (fun i => op.l.length - i) 0 (by simp (disch := first | omega | assumption) only [go_sem, ↓reduceIte]) ⟨by omega, fun _ _ => rfl, _, kbb1, hL⟩ ?_
          rintro i H' J4 ⟨hi, hsame, cs, hcs, hcl⟩ hJ4
          by_cases hlt4 : (i : Int) < op.l.length
          · have hle4 : 0 + i * 2 + 2 ≤ cs.length := by omega
            have ec : ((i + 1 : Nat) : Int) = (i : Int) + 1 := by omega
            simp (disch := first | omega | assumption) only [hlt4, hcs, hle4, Int.toNat_natCast, wrap64, go_sem, ↓reduceIte]
            refine goJ (hJ4 (i + 1) (H'.upd bb (.cells (splice cs (0 + i * 2) [.str [103, 111, 110, 101], .sl .nil 1 []]))) (by omega) ⟨by omega, fun x hx => by rw [upd_ne hx]; exact hsame x hx, _, upd_same .., by simp [splice]; omega⟩) (by simp (disch := first | omega | assumption) only [ec, go_sem, ↓reduceIte])
          have hcx : CrewAt H' c lx o' ws (q ++ op.l) := ⟨by rw [hsame _ (Ne.symm nbc)]; exact hcx0.hc, by rw [hsame _ (Ne.symm nbl)]; exact hcx0.hl, hcx0.ne, by
            have ho := hcx0.own
            cases o' with
            | tip b d =>
              have hb : Hx b = some (.tip (d + (q ++ op.l).length) 2) := ho
              exact (hsame b fun e => by subst e; rw [kbb1] at hb; cases hb).trans hb
            | no => exact ho
            | nil => exact ho
            | full => exact ho⟩
          have hrx : RcAt H' r s h o2 ws q := ⟨by rw [hsame _ (Ne.symm nbr)]; exact hrx0.hr, by rw [hsame _ (Ne.symm nbs)]; exact hrx0.hs, by rw [hsame _ (Ne.symm nbh)]; exact hrx0.hh, t.hr.ne1, t.hr.ne2, t.hr.ne3, by
            have ho := hrx0.own
            cases o2 with
            | tip b d =>
              have hb : Hx b = some (.tip (d + q.length) 2) := ho
              exact (hsame b fun e => by subst e; rw [kbb1] at hb; cases hb).trans hb
            | no => exact ho
            | nil => exact ho
            | full => exact ho⟩
          have kbx : H' b10 = _ := (hsame _ (Ne.symm nb10)).trans kbx0
          simp (disch := first | omega | assumption) only [hlt4, go_sem, ↓reduceIte]
          have k1 := hrx.hr
          have hqq := cBs_length q
          have hqo := cBs_length op.l
          simp (disch := first | omega | assumption) only [k1, kbx, go_sem, ↓reduceIte]
          refine goP_ownS (by rw [hqq]; exact hrx.own) (by simp only [hqq, hqo]; omega) (by simp only [hqq, hqo, maxLen]; omega) fun o6 H6 hos => ?_
          rw [hqq, hqo] at hos
          have two := two_lay (k := bOpCs (done ++ [op])) hcx hrx t.len t.st t.sw t.sq (fun x hx => by have := bBs_mem hx; omega) (by have := t.ql; omega) hapx hos ncr nlr
          have kr6 : H6 r = some (.cells [.ms s 0 ws.length ws.length, .ms h 0 ws.length ws.length, .sl o2 2 (cBs q)]) := hos.kept _ _ k1 fun d e => by
            have := hrx.own; subst e
            have h2 : _ = some (AObj.tip (d + q.length) 2) := this
            rw [k1] at h2; cases h2
          have eapp : cBs q ++ (cBs op.l).map (·.map AV.strip1) = cBs (q ++ op.l) := by rw [cBs_strip]; simp [cBs]
          rw [eapp]
          simp (disch := first | omega | assumption) only [kr6, go_sem, ↓reduceIte]
          exact goJ (hJ3 () _ ⟨lx, o', s, h, o6, ws, q ++ op.l, two⟩) (by simp (disch := first | omega | assumption) only [go_sem, ↓reduceIte])
      by_cases q1 : op.k = 1
      · have q1t := eq_true q1
        simp (disch := first | omega | assumption) only [k6, q0, q1t, go_sem, ↓reduceIte]
        refine goK_ret (stepC t.hc op.w hn16 t.st ⟨fun x hx => by have := t.sw x hx; simp only [Batch.small]; omega, fun x hx => by have := t.sq x hx; simp only [Batch.small]; omega⟩) fun v H4 ⟨hv, ⟨o', ho', hc4⟩, hk4⟩ => ?_
        subst hv
        have kb10 := hk4 b10 _ (Ne.symm m1) (Ne.symm m2) k6
        have hr4 : RcAt H4 r s h o2 ws q := ⟨hk4 _ _ (Ne.symm ncr) (Ne.symm nlr) t.hr.hr, hk4 _ _ (Ne.symm ncs) (Ne.symm nls) t.hr.hs, hk4 _ _ (Ne.symm nch) (Ne.symm nlh) t.hr.hh, t.hr.ne1, t.hr.ne2, t.hr.ne3, by
          have ho := t.hr.own
          cases o2 with
          | tip b d =>
            have hb : H2 b = some (.tip (d + q.length) 2) := ho
            exact hk4 b _ (fun e => by subst e; rw [t.hc.hc] at hb; cases hb) (fun e => by subst e; rw [t.hc.hl] at hb; cases hb) hb
          | no => exact ho
          | nil => exact ho
          | full => exact ho⟩
        have hsw : ∀ x ∈ (stepW ws q op.w).2.1, (0 ≤ x.1 ∧ x.1 ≤ 2) ∧ x.2.keys.length ≤ 1048576 := step_ws t.st t.sw t.sq
        have hsq : ∀ x ∈ (stepW ws q op.w).2.2, x.keys.length ≤ 1048576 := step_q t.sq
        have hsl : (stepW ws q op.w).2.1.length = ws.length := step_len
        have hql : (stepW ws q op.w).2.2.length ≤ q.length := step_qlen
        have hsb : (stepW ws q op.w).1.1.keys.length ≤ 1048576 := step_b t.sw t.sq
        obtain ⟨sw, hsw2⟩ : ∃ sw, stepW ws q op.w = sw := ⟨_, rfl⟩
        rw [hsw2] at hc4 hsw hsq hsl hql hsb
        rw [hsw2]
        obtain ⟨⟨bt, sn⟩, ws', q'⟩ := sw
        simp only at hc4 hsw hsq hsl hql hsb
        simp (disch := first | omega | assumption) only [cB, go_sem, ↓reduceIte]
        refine goA_intro fun b13 hb13 => ?_
        have n13 := ne_of_none hb13 kb10
        have z13 : ∀ y, Sub H4 (H4.upd b13 y) := fun y => sub_upd (sub_refl H4) hb13
        simp (disch := first | omega | assumption) only [cB, kb10, n13, Ne.symm n13, go_sem, ↓reduceIte]
        have hbl : ([AV.str bt.table, .sl .no 1 (cT bt.keys)]).length = 2 := rfl
        refine goK_ret (refStepC (hr4.sub (z13 _)) op.w hn16 t.st) fun v H5 ⟨hv, ⟨o2', ho2', hr5⟩, hk5⟩ => ?_
        rw [hsw2] at hv hr5
        simp only at hv hr5
        subst hv
        have kx : ∀ x y, x ≠ r → x ≠ s → x ≠ h → H4 x = some y → H5 x = some y := fun x y a1 a2 a3 hx => hk5 x y a1 a2 a3 (z13 _ _ _ hx)
        have hc5 : CrewAt H5 c lx o' ws' q' := ⟨kx _ _ ncr ncs nch hc4.hc, kx _ _ nlr nls nlh hc4.hl, hc4.ne, by
          have ho := hc4.own
          cases o' with
          | tip b d =>
            have hb : H4 b = some (.tip (d + q'.length) 2) := ho
            exact kx b _ (fun e => by subst e; rw [hr4.hr] at hb; cases hb) (fun e => by subst e; rw [hr4.hs] at hb; cases hb) (fun e => by subst e; rw [hr4.hh] at hb; cases hb) hb
          | no => exact ho
          | nil => exact ho
          | full => exact ho⟩
        have hap : ∀ b d d2, o' = .tip b d → o2' ≠ .tip b d2 := fun b d d2 e e2 => by
          obtain ⟨d3, h3⟩ : ∃ d3, o = .tip b d3 := by
            rcases ho' with rfl | rfl
            · exact ⟨d, e⟩
            · cases o <;> simp [Own.cut] at e; exact ⟨_, by rw [e.1]⟩
          obtain ⟨d4, h4⟩ : ∃ d4, o2 = .tip b d4 := by
            rcases ho2' with rfl | rfl
            · exact ⟨d2, e2⟩
            · cases o2 <;> simp [Own.cut] at e2; exact ⟨_, by rw [e2.1]⟩
          exact t.ap b d3 d4 h3 h4
        have k13 : H5 b13 = some (.cells [.str bt.table, .sl .no 1 (cT bt.keys)]) := hk5 _ _ (fun e => by subst e; rw [hr4.hr] at hb13; cases hb13) (fun e => by subst e; rw [hr4.hs] at hb13; cases hb13) (fun e => by subst e; rw [hr4.hh] at hb13; cases hb13) (upd_same ..)
        simp (disch := first | omega | assumption) only [cB, go_sem, ↓reduceIte]
        refine goA_intro fun b15 hb15 => ?_
        have n15 := ne_of_none hb15 k13
        simp (disch := first | omega | assumption) only [cB, k13, n15, Ne.symm n15, go_sem, ↓reduceIte]
        refine goK_pure (sameC bt bt (by simp only [maxLen]; omega) (by simp only [maxLen]; omega)) ?_
        have z15 : ∀ y, Sub H5 (H5.upd b15 y) := fun y => sub_upd (sub_refl H5) hb15
        simp (disch := first | omega | assumption) only [decide_true, go_sem, ↓reduceIte]
        exact goJ (hJ3 () _ ⟨lx, o', s, h, o2', ws', q', hc5.sub (z15 _), hr5.sub (z15 _), by rw [hsl]; exact t.len, fun x hx => (hsw x hx).1, fun x hx => (hsw x hx).2, hsq, by have := t.ql; omega, hap⟩) (by simp (disch := first | omega | assumption) only [go_sem, ↓reduceIte])
      by_cases q2 : op.k = 2
      · have q2t := eq_true q2
        simp (disch := first | omega | assumption) only [k6, q0, q1, q2t, go_sem, ↓reduceIte]
        refine goK_ret (dropC t.hc) fun v H4 ⟨hv, hc4, hk4⟩ => ?_
        subst hv
        have hr4 : RcAt H4 r s h o2 ws q := ⟨hk4 _ _ (Ne.symm ncr) t.hr.hr, hk4 _ _ (Ne.symm ncs) t.hr.hs, hk4 _ _ (Ne.symm nch) t.hr.hh, t.hr.ne1, t.hr.ne2, t.hr.ne3, by
          have ho := t.hr.own
          cases o2 with
          | tip b d =>
            have hb : H2 b = some (.tip (d + q.length) 2) := ho
            exact hk4 b _ (fun e => by subst e; rw [t.hc.hc] at hb; cases hb) hb
          | no => exact ho
          | nil => exact ho
          | full => exact ho⟩
        have k1 := hr4.hr
        simp (disch := first | omega | assumption) only [k1, go_sem, ↓reduceIte]
        refine goJ (hJ3 () (H4.upd r (.cells [.ms s 0 ws.length ws.length, .ms h 0 ws.length ws.length, .sl .nil 2 []])) ⟨lx, .nil, s, h, .nil, ws, [], ⟨by rw [upd_ne ncr]; exact hc4.hc, by rw [upd_ne nlr]; exact hc4.hl, hc4.ne, rfl⟩, ⟨upd_same .., by rw [upd_ne (Ne.symm t.hr.ne1)]; exact hr4.hs, by rw [upd_ne (Ne.symm t.hr.ne2)]; exact hr4.hh, t.hr.ne1, t.hr.ne2, t.hr.ne3, rfl⟩, t.len, t.st, t.sw, fun x hx => (by cases hx), by simp, fun b d d2 e => (by cases e)⟩) (by simp (disch := first | omega | assumption) only [go_sem, ↓reduceIte])
      · simp (disch := first | omega | assumption) only [k6, q0, q1, q2, go_sem, ↓reduceIte]
        exact goJ (hJ3 () H2 ⟨lx, o, s, h, o2, ws, q, t.hc, t.hr, t.len, t.st, t.sw, t.sq, by have := t.ql; omega, t.ap⟩) (by simp (disch := first | omega | assumption) only [go_sem, ↓reduceIte])
    · rintro ⟨⟩ H3 ⟨l3, o3, s3, h3, o23, ws3, q3, t3⟩
      have hn16 : ws3.length ≤ 16 := by rw [t3.len]; omega
      have hcl := cans_le ws3 q3 ws3.length
      simp (disch := first | omega | assumption) only [go_sem, ↓reduceIte]
      refine goK_ret (canAll t3.hc hn16) fun v H4 ⟨hv, hH⟩ => ?_
      subst hv; subst hH
      simp (disch := first | omega | assumption) only [go_sem, ↓reduceIte]
      refine goK_ret (refCanC t3.hr hn16 t3.st) fun v H4 ⟨hv, hH⟩ => ?_
      subst hv; subst hH
      simp (disch := first | omega | assumption) only [go_sem, ↓reduceIte]
      refine goK_pure (sameIntsC _ _ (by omega)) ?_
      have k1 := t3.hr.hr
      have hql := cBs_length q3
      simp (disch := first | omega | assumption) only [decide_true, k1, hql, go_sem, ↓reduceIte]
      refine goK_ret (waitsC t3.hc) fun v H4 ⟨hv, hH⟩ => ?_
      subst hv; subst hH
      simp (disch := first | omega | assumption) only [k1, hql, go_sem, ↓reduceIte]
      refine goK_ret (busyC t3.hc hn16) fun v H4 ⟨hv, hH⟩ => ?_
      subst hv; subst hH
      simp (disch := first | omega | assumption) only [k1, hql, go_sem, ↓reduceIte]
      refine goK_ret (refBusyC t3.hr hn16 t3.st) fun v H4 ⟨hv, hH⟩ => ?_
      subst hv; subst hH
      simp (disch := first | omega | assumption) only [k1, hql, go_sem, ↓reduceIte]
      exact goJ (hJ2 () _ ⟨l3, o3, s3, h3, o23, ws3, q3, t3⟩) (by simp (disch := first | omega | assumption) only [go_sem, ↓reduceIte])
end Go.Proofs.Ythkpgjnibolnhaa
namespace Go.Ab
open Go.ChangeShapes Go.WideShapes Go.ChangeAt Go.RowKit Go.WideElems
mutual
def blk {H : Type} : DataW H → Nat
  | .lit (.string bytes) => bytes.length + 1
  | .lit _ => 1
  | .nil => 1
  | .ptr d => blk d + 1
  | .slice elems spare => blkAll elems + blkAll spare + 1
  | .agg parts => blkAll parts + 1
  | .iface _ d => blk d + 1
  | .map entries => blkEs entries + 1
  | .held _ => 1
def blkAll {H : Type} : List (DataW H) → Nat
  | [] => 0
  | d :: r => blk d + blkAll r
def blkEs {H : Type} : List (Lit × DataW H) → Nat
  | [] => 0
  | x :: r => blkE x + blkEs r
def blkE {H : Type} : Lit × DataW H → Nat
  | (.string bytes, d) => bytes.length + blk d + 1
  | (_, d) => blk d + 1
end
theorem blk_pos {H : Type} (d : DataW H) : 1 ≤ blk d := by
  cases d with
  | lit l => cases l <;> simp [blk]
  | nil => simp [blk]
  | ptr d => simp [blk]
  | slice elems spare => simp [blk]
  | agg parts => simp [blk]
  | iface t d => simp [blk]
  | map entries => simp [blk]
  | held h => simp [blk]
theorem blk_take_succ {H : Type} (l : List (DataW H)) (k : Nat) (h : k < l.length) : blkAll (l.take (k + 1)) = blkAll (l.take k) + blk (l.getD k .nil) := by
  induction l generalizing k with
  | nil => simp at h
  | cons d r ih =>
    cases k with
    | zero => simp [blkAll]
    | succ k =>
      simp only [List.take_succ_cons, blkAll, List.getD_cons_succ]
      rw [ih k (by simpa using h)]
      omega
def DecB (P : Program) (m : Nat) (t : TypeId) (sz : Nat) {α : Type} (f : α → List AV) (ok : α → Prop) (g : α → Nat) : Prop :=
  ∀ {H : Type} (enc : TypeId × Value → H) (W : World) (cs : List Value) (d : DataW H) (ps : List MemPlace), DataW.trod enc P W 0 (fun _ => true) true m t cs = some (d, ps) →
    (∀ n ∈ d.weights P t, n ≤ reachBytes) → ∃ a, ok a ∧ g a ≤ blk d ∧ (f a).length = sz ∧ fillRel immG W (f a) cs
section
variable {P : Program} {m : Nat} {t : TypeId}
theorem DecB.zero {sz : Nat} {α : Type} {f : α → List AV} {ok : α → Prop} {g : α → Nat} : DecB P 0 t sz f ok g := fun enc W cs d ps h _ => by simp [DataW.trod] at h
theorem DecB.int {k : IntKind} (ht : P.underlying t = some (.int k)) : DecB P m t 1 (fun n : Int => [.int k n]) (fun n => (Lit.int k n).wf = true) (fun _ => 1) := by
  intro H enc W cs d ps h _
  obtain ⟨n, rfl, hx, hw⟩ := DataW.trod_int ht h
  simp only [Prod.mk.injEq] at hx
  obtain ⟨rfl, rfl⟩ := hx
  exact ⟨n, hw, Nat.le_refl _, rfl, fill_one (.int k n) rfl⟩
theorem DecB.bool (ht : P.underlying t = some .bool) : DecB P m t 1 (fun b : Bool => [.bool b]) (fun _ => True) (fun _ => 1) := by
  intro H enc W cs d ps h _
  obtain ⟨b, rfl, hx⟩ := DataW.trod_bool ht h
  simp only [Prod.mk.injEq] at hx
  obtain ⟨rfl, rfl⟩ := hx
  exact ⟨b, trivial, Nat.le_refl _, rfl, fill_one (.bool b) rfl⟩
theorem DecB.str (ht : P.underlying t = some .string) : DecB P m t 1 (fun s : List UInt8 => [.str s]) (fun s => s.length ≤ reachBytes) (fun s => s.length + 1) := by
  intro H enc W cs d ps h hw
  obtain ⟨s, rfl, hx, hs⟩ := DataW.trod_string ht h
  simp only [Prod.mk.injEq] at hx
  obtain ⟨rfl, rfl⟩ := hx
  refine ⟨s.data.toList, hw _ (by simp [DataW.weights]), Nat.le_refl _, rfl, fill_one ?_ rfl⟩
  exact .str _
theorem DecB.slice {e : TypeId} {sz B : Nat} {α : Type} {f : α → List AV} {ok : α → Prop} {g : α → Nat} (ht : P.underlying t = some (.slice e)) (hB : P.bytesOf e = B) (hsz : P.cellsOf e = sz) (hpos : 0 < sz) (he : DecB P m e sz f ok g) :
    DecB P (m + 1) t 1 (fun l : List α => [.sl .no sz (l.map f)]) (fun l => l.length * B ≤ reachBytes ∧ l.length ≤ maxLen ∧ ∀ x ∈ l, ok x) (fun l => (l.map g).sum + 1) := by
  intro H enc W cs d ps h hw
  rcases DataW.trod_slice ht h with ⟨rfl, _⟩ | ⟨a, len, cap, elems, rest, n, hm, rfl, hx, hb, hlc, hcm, hel, hread, hspare, _⟩
  · exact ⟨[], ⟨by simp, by simp, by simp⟩, by simp [blk_pos], rfl, fill_one (.slnil .no sz (by simp)) rfl⟩
  · cases hm
    simp only [Prod.mk.injEq] at hx
    obtain ⟨rfl, rfl⟩ := hx
    obtain ⟨hrest, hreadr⟩ := hspare rfl
    subst hsz
    have hwt : ∀ y ∈ elems, ∀ n ∈ y.1.weights P e, n ≤ reachBytes := fun y hy n hn => hw n (by
      simp only [DataW.weights, ht, List.mem_cons, List.mem_append]
      exact .inr (.inl (weights_all (List.mem_map_of_mem hy) n hn)))
    have hlenB : len * P.bytesOf e ≤ reachBytes := by
      have := hw ((elems.length + rest.length) * P.bytesOf e) (by simp [DataW.weights, ht])
      rw [hel] at this
      exact Nat.le_trans (Nat.mul_le_mul_right _ (Nat.le_add_right _ _)) this
    have each : ∀ i, i < len → ∃ (x : α) (us : List Value), ok x ∧ g x ≤ blk ((elems.map (·.1)).getD i .nil) ∧ (f x).length = P.cellsOf e ∧ fillRel immG W (f x) us ∧ (∀ j, j < P.cellsOf e → W.cell? (a.add (i * P.cellsOf e + j)) = us[j]?) ∧ us.length = P.cellsOf e := by
      intro i hi
      have h1 := hread i hi
      have hi' : i < elems.length := by omega
      rw [List.getElem?_eq_getElem hi', Option.bind_eq_some_iff] at h1
      obtain ⟨us, hus, hd⟩ := h1
      obtain ⟨x, hx1, hxg, hx2, hx3⟩ := he enc W us elems[i].1 elems[i].2 hd (hwt _ (List.getElem_mem hi'))
      obtain ⟨_, hl, hc⟩ := World.cells?_some hus
      refine ⟨x, us, hx1, by simpa [hi'] using hxg, hx2, hx3, fun j hj => ?_, hl⟩
      have := hc j hj
      rwa [addr_add_add] at this
    rcases Nat.eq_zero_or_pos cap with hc0 | hcpos
    · have hl0 : len = 0 := by omega
      subst hl0; subst hc0
      exact ⟨[], ⟨by simp, by simp, by simp⟩, by simp [blk_pos], rfl, fill_one (.sl0 .no _ a (.inl rfl)) rfl⟩
    · -- some cell is read: the address is plain
      have hspot : a.spot = none := by
        have h1 : ∃ us, W.cells? 0 (a.add 0) (P.cellsOf e) = some us := by
          rcases Nat.eq_zero_or_pos len with hl0 | hlpos
          · have h2 := hreadr 0 (by omega)
            rw [List.getElem?_eq_getElem (by omega), Option.bind_eq_some_iff] at h2
            obtain ⟨us, h3, _⟩ := h2
            rw [hl0] at h3
            simp only [Nat.add_zero, Nat.zero_mul] at h3
            exact ⟨us, h3⟩
          · have h2 := hread 0 hlpos
            rw [List.getElem?_eq_getElem (by omega), Option.bind_eq_some_iff] at h2
            obtain ⟨us, h3, _⟩ := h2
            simp only [Nat.zero_mul] at h3
            exact ⟨us, h3⟩
        obtain ⟨us, h1⟩ := h1
        obtain ⟨_, hl, hc⟩ := World.cells?_some h1
        have h3 := hc 0 hpos
        have e0 : (a.add 0).add 0 = a := rfl
        rw [e0] at h3
        have h4 : (W.cell? a).isSome = true := by rw [h3, List.getElem?_eq_getElem (by omega)]; rfl
        unfold World.cell? at h4
        split at h4
        · split at h4
          · cases h4
          · rename_i hs
            cases h5 : a.spot with
            | none => rfl
            | some s => simp [h5] at hs
        · cases h4
      obtain ⟨b, off, spot⟩ := a
      simp only at hspot
      subst hspot
      have hchoose : ∀ k, k ≤ len → ∃ l : List α, l.length = k ∧ (l.map g).sum ≤ blkAll ((elems.map (·.1)).take k) ∧ ∀ i x, l[i]? = some x → ok x ∧ (f x).length = P.cellsOf e ∧ ∃ us : List Value, fillRel immG W (f x) us ∧ (∀ j, j < P.cellsOf e → W.cell? (Addr.add ⟨b, off, none⟩ (i * P.cellsOf e + j)) = us[j]?) ∧ us.length = P.cellsOf e := by
        intro k
        induction k with
        | zero => intro _; exact ⟨[], rfl, by simp, by simp⟩
        | succ k ih =>
          intro hk
          obtain ⟨l, hl, hsum, hp⟩ := ih (by omega)
          obtain ⟨x, us, h1, hgx, h2, h3, h4, h5⟩ := each k (by omega)
          refine ⟨l ++ [x], by simp [hl], ?_, fun i y hy => ?_⟩
          · rw [List.map_append, List.sum_append, blk_take_succ _ k (by simp; omega)]
            simp only [List.map_cons, List.map_nil, List.sum_cons, List.sum_nil]
            omega
          rcases Nat.lt_or_ge i l.length with hi | hi
          · rw [List.getElem?_append_left hi] at hy; exact hp i y hy
          · rw [List.getElem?_append_right hi] at hy
            have : i = l.length := by
              rcases Nat.lt_or_ge 0 (i - l.length) with h | h
              · rw [List.getElem?_eq_none (by simp; omega)] at hy; cases hy
              · omega
            subst this
            simp at hy
            subst hy
            exact ⟨h1, h2, us, h3, by rw [hl]; exact h4, h5⟩
      obtain ⟨l, hl, hsum, hp⟩ := hchoose len (Nat.le_refl _)
      refine ⟨l, ⟨by rw [hl, ← hB]; exact hlenB, by omega, fun x hx => ?_⟩, ?_, rfl, fill_one ?_ rfl⟩
      · obtain ⟨i, hi⟩ := List.mem_iff_getElem?.1 hx
        exact (hp i x hi).1
      · rw [List.take_of_length_le (by simp; omega)] at hsum
        simp only [blk]; omega
      · have hml : (l.map f).length = len := by simp [hl]
        rw [← hml]
        refine .sl .no _ (l.map f) b off cap (fun i j => (W.cell? ⟨b, off + (i * P.cellsOf e + j), none⟩).getD undef) (by omega) hcm (fun x hx => ?_) (fun i x hx j hj => ?_) (fun i x hx j c hj => ?_) trivial
        · obtain ⟨y, hy, rfl⟩ := List.mem_map.1 hx
          obtain ⟨i, hi⟩ := List.mem_iff_getElem?.1 hy
          exact (hp i y hi).2.1
        · simp only [List.getElem?_map, Option.map_eq_some_iff] at hx
          obtain ⟨y, hy, rfl⟩ := hx
          obtain ⟨_, h2, us, h3, h4, h5⟩ := hp i y hy
          have h6 := h4 j hj
          have h7 : us[j]? = some us[j] := List.getElem?_eq_getElem (by omega)
          have h8 : W.cell? ⟨b, off + (i * P.cellsOf e + j), none⟩ = some us[j] := by rw [← h7, ← h6, addr_add]
          refine ⟨by rw [h8]; rfl, trivial, ?_⟩
          rw [h8]
          exact h3.2.1 j _ h7
        · simp only [List.getElem?_map, Option.map_eq_some_iff] at hx
          obtain ⟨y, hy, rfl⟩ := hx
          obtain ⟨_, h2, us, h3, h4, h5⟩ := hp i y hy
          have hj' : j < P.cellsOf e := by have := (List.getElem?_eq_some_iff.1 hj).1; omega
          have h6 := h4 j hj'
          have h7 : us[j]? = some us[j] := List.getElem?_eq_getElem (by omega)
          have h8 : W.cell? ⟨b, off + (i * P.cellsOf e + j), none⟩ = some us[j] := by rw [← h7, ← h6, addr_add]
          show Rep immG W c ((W.cell? ⟨b, off + (i * P.cellsOf e + j), none⟩).getD undef)
          rw [h8]
          exact h3.2.2 j c _ hj h7
def DecFsB (P : Program) (m : Nat) (off : Nat) (fs : List (Nat × TypeId)) (sz : Nat) {α : Type} (f : α → List AV) (ok : α → Prop) (gg : α → Nat) : Prop :=
  ∀ {H : Type} (enc : TypeId × Value → H) (W : World) (cs : List Value) (xs : List (DataW H × List MemPlace)),
    (∀ (i : Nat) (g : Nat × TypeId), fs[i]? = some g → DataW.trod enc P W 0 (fun _ => true) true m g.2 ((cs.drop g.1).take (P.cellsOf g.2)) = xs[i]?) → xs.length = fs.length →
    (∀ n ∈ DataW.weightsEach P (fs.map (·.2)) (xs.map (·.1)), n ≤ reachBytes) → off + sz ≤ cs.length → ∃ a, ok a ∧ gg a ≤ blkAll (xs.map (·.1)) ∧ (f a).length = sz ∧ fillRel immG W (f a) ((cs.drop off).take sz)
theorem DecFsB.nil {off : Nat} : DecFsB P m off [] 0 (fun _ : Unit => []) (fun _ => True) (fun _ => 0) := by
  intro H enc W cs xs _ _ _ _
  exact ⟨(), trivial, Nat.zero_le _, rfl, rfl, by simp, by simp⟩
theorem DecFsB.cons {off sz sz' : Nat} {u : TypeId} {fs : List (Nat × TypeId)} {α β : Type} {f : α → List AV} {ok : α → Prop} {f' : β → List AV} {ok' : β → Prop} {g : α → Nat} {g' : β → Nat} (hsz : P.cellsOf u = sz) (h : DecB P m u sz f ok g) (h' : DecFsB P m (off + sz) fs sz' f' ok' g') :
    DecFsB P m off ((off, u) :: fs) (sz + sz') (fun x : α × β => f x.1 ++ f' x.2) (fun x => ok x.1 ∧ ok' x.2) (fun x => g x.1 + g' x.2) := by
  intro H enc W cs xs hx hl hw hle
  cases xs with
  | nil => simp at hl
  | cons y ys =>
    have h0 := hx 0 (off, u) rfl
    rw [hsz] at h0
    simp only [List.getElem?_cons_zero] at h0
    obtain ⟨a, ha1, hag, ha2, ha3⟩ := h enc W _ y.1 y.2 h0 (fun n hn => hw n (by simp only [List.map_cons, DataW.weightsEach, List.mem_append]; exact .inl hn))
    obtain ⟨b, hb1, hbg, hb2, hb3⟩ := h' enc W cs ys (fun i g' hg => by have := hx (i + 1) g' (by simpa using hg); simpa using this) (by simpa using hl)
      (fun n hn => hw n (by simp only [List.map_cons, DataW.weightsEach, List.mem_append]; exact .inr hn)) (by omega)
    refine ⟨(a, b), ⟨ha1, hb1⟩, by simp only [List.map_cons, blkAll]; omega, by simp [ha2, hb2], ?_⟩
    have e : (cs.drop off).take (sz + sz') = (cs.drop off).take sz ++ (cs.drop (off + sz)).take sz' := by
      rw [List.take_add, List.drop_drop]
    rw [e]
    exact ha3.append hb3
theorem DecB.struct {fs : List (Nat × TypeId)} {sz : Nat} {α β : Type} {f : α → List AV} {ok : α → Prop} {gg : α → Nat} (h : DecFsB P m 0 fs sz f ok gg) (ht : flds P t = some fs) (hsz : P.cellsOf t = sz) (g : β → List AV) (ok' : β → Prop) (g' : β → Nat) (k : α → β) (hg : ∀ a, g (k a) = f a) (hok : ∀ a, ok a → ok' (k a)) (hgg : ∀ a, g' (k a) ≤ gg a + 1) :
    DecB P (m + 1) t sz g ok' g' := by
  intro H enc W cs d ps hd hw
  obtain ⟨gs, hgs, hfs⟩ := flds_some ht
  obtain ⟨xs, n, hm, hx, hl, hlen, hf⟩ := DataW.trod_struct hgs hd
  cases hm
  simp only [Prod.mk.injEq] at hx
  obtain ⟨rfl, rfl⟩ := hx
  obtain ⟨a, h1, hag, h2, h3⟩ := h enc W cs xs (fun i g' hg' => by
      rw [← hfs, List.getElem?_map] at hg'
      cases hi : gs.toList[i]? with
      | none => simp [hi] at hg'
      | some z => simp only [hi, Option.map_some, Option.some.injEq] at hg'; subst hg'; exact hf i z (by simpa using hi)) (by rw [← hfs]; simpa using hlen) (fun n hn => hw n (by
      rw [← hfs, List.map_map] at hn
      simpa [DataW.weights, hgs, Function.comp_def] using hn)) (by omega)
  refine ⟨k a, hok a h1, by have := hgg a; simp only [blk]; omega, by rw [hg]; exact h2, ?_⟩
  rw [hg]
  simp only [List.drop_zero] at h3
  rw [List.take_of_length_le (by omega)] at h3
  exact h3
theorem DecB.arg {α : Type} {f : α → AV} {ok : α → Prop} {g : α → Nat} (h : ∀ m, DecB P m t 1 (fun a => [f a]) ok g) {H : Type} {enc : TypeId × Value → H} {W : World} {v : Value} {d : DataW H} {ps : List MemPlace} (hd : DataW.Trod enc P W 0 (fun _ => true) true t v d ps)
    (hw : ∀ n ∈ d.weights P t, n ≤ reachBytes) (hv : ∀ cs, v ≠ .agg cs) : ∃ a, ok a ∧ g a ≤ blk d ∧ Rep immG W (f a) v := by
  obtain ⟨n, hn⟩ := hd
  obtain ⟨a, h1, hag, h2, h3⟩ := h n enc W _ d ps hn hw
  have hc : v.cells = #[v] := by cases v <;> first | rfl | exact absurd rfl (hv _)
  rw [hc] at h3
  exact ⟨a, h1, hag, h3.2.2 0 _ _ rfl rfl⟩
end
end Go.Ab
namespace Go.Proofs.Ythkpgjnibolnhaa
open Go.Ab
open Go.ChangeShapes Go.WideShapes Go.ChangeAt Go.RowKit Go.WideElems
theorem own : ownKnob Try.prog.godebug = none := by kernel_rfl
theorem laidOut : laidOutB Try.prog = true := by kernel_rfl
mutual
theorem bulk_eq {H : Type} : ∀ d : DataW H, Rows.uptoBulk d = blk d
  | .lit (.string _) => rfl
  | .lit (.bool _) => rfl
  | .lit (.int _ _) => rfl
  | .lit (.float _ _) => rfl
  | .lit .nil => rfl
  | .nil => rfl
  | .ptr d => by simp only [Rows.uptoBulk, blk, bulk_eq d]
  | .slice e s => by simp only [Rows.uptoBulk, blk, bulkAll_eq e, bulkAll_eq s]
  | .agg e => by simp only [Rows.uptoBulk, blk, bulkAll_eq e]
  | .iface _ d => by simp only [Rows.uptoBulk, blk, bulk_eq d]
  | .map e => by simp only [Rows.uptoBulk, blk, bulkEs_eq e]
  | .held _ => rfl
theorem bulkAll_eq {H : Type} : ∀ d : List (DataW H), Rows.uptoBulkAll d = blkAll d
  | [] => rfl
  | d :: r => by simp only [Rows.uptoBulkAll, blkAll, bulk_eq d, bulkAll_eq r]
theorem bulkEs_eq {H : Type} : ∀ d : List (Lit × DataW H), Rows.uptoBulkEntries d = blkEs d
  | [] => rfl
  | x :: r => by simp only [Rows.uptoBulkEntries, blkEs, bulkE_eq x, bulkEs_eq r]
theorem bulkE_eq {H : Type} : ∀ d : Lit × DataW H, Rows.uptoBulkEntry d = blkE d
  | (.string _, d) => by simp only [Rows.uptoBulkEntry, blkE, bulk_eq d]
  | (.bool _, d) => by simp only [Rows.uptoBulkEntry, blkE, bulk_eq d]
  | (.int _ _, d) => by simp only [Rows.uptoBulkEntry, blkE, bulk_eq d]
  | (.float _ _, d) => by simp only [Rows.uptoBulkEntry, blkE, bulk_eq d]
  | (.nil, d) => by simp only [Rows.uptoBulkEntry, blkE, bulk_eq d]
end
theorem small_bulk {H : Type} {ds : List (DataW H)} (h : Rows.uptoSmall H ds = true) : blkAll ds ≤ 1048576 := by
  have h2 := of_decide_eq_true h
  rwa [bulkAll_eq] at h2
theorem decTB : ∀ m, DecB Try.prog m 31 1 (fun l : List (List UInt8) => [.sl .no 1 (cT l)]) (fun _ => True) (fun l => l.length + 1)
  | 0 => DecB.zero
  | m + 1 => by
    intro enc W cs d ps h1 h2
    obtain ⟨a, h3, h4, h5, h6⟩ := DecB.slice (t := 31) Try.underlying31 (B := 16) (sz := 1) (by kernel_rfl) (by kernel_rfl) (by decide) (DecB.str Try.underlying9) enc W cs d ps h1 h2
    have e : ∀ l : List (List UInt8), l.length ≤ (l.map fun s => s.length + 1).sum := fun l => by induction l with
      | nil => simp
      | cons x r ih => simp only [List.map_cons, List.sum_cons, List.length_cons]; omega
    exact ⟨a, trivial, by have := e a; simp only at h4 ⊢; omega, h5, by simp only [cT]; exact h6⟩
theorem decBB : ∀ m, DecB Try.prog m 33 2 cB (fun _ => True) bB
  | 0 => DecB.zero
  | k + 1 => DecB.struct (DecFsB.cons (by kernel_rfl) (DecB.str Try.underlying9) (DecFsB.cons (by kernel_rfl) (decTB k) DecFsB.nil))
      (by kernel_rfl) (by kernel_rfl) cB (fun _ => True) bB (fun x => ⟨x.1, x.2.1⟩) (fun a => rfl) (fun a h => trivial) (fun a => by simp only [bB]; omega)
theorem decBBs : ∀ m, DecB Try.prog m 26 1 (fun l : List Batch => [.sl .no 2 (cBs l)]) (fun _ => True) (fun l => bBs l + 1)
  | 0 => DecB.zero
  | m + 1 => by
    intro enc W cs d ps h1 h2
    obtain ⟨a, h3, h4, h5, h6⟩ := DecB.slice (t := 26) Try.underlying26 (B := 40) (sz := 2) (by kernel_rfl) (by kernel_rfl) (by decide) (decBB m) enc W cs d ps h1 h2
    exact ⟨a, trivial, by simp only [bBs]; exact h4, h5, by simp only [cBs]; exact h6⟩
theorem decOpC : ∀ m, DecB Try.prog m 82 3 cOpC (fun _ => True) bOpC
  | 0 => DecB.zero
  | k + 1 => DecB.struct (DecFsB.cons (by kernel_rfl) (DecB.int (k := .i64) Try.underlying3) (DecFsB.cons (by kernel_rfl) (DecB.int (k := .i64) Try.underlying3) (DecFsB.cons (by kernel_rfl) (decBBs k) DecFsB.nil)))
      (by kernel_rfl) (by kernel_rfl) cOpC (fun _ => True) bOpC (fun x => ⟨x.1, x.2.1, x.2.2.1⟩) (fun a => rfl) (fun a h => trivial) (fun a => by simp only [bOpC]; omega)
theorem decOpsB : ∀ m, DecB Try.prog m 78 1 (fun l : List OpC => [.sl .no 3 (cOpCs l)]) (fun _ => True) (fun l => bOpCs l + 1)
  | 0 => DecB.zero
  | m + 1 => by
    intro enc W cs d ps h1 h2
    obtain ⟨a, h3, h4, h5, h6⟩ := DecB.slice (t := 78) Try.underlying78 (B := 40) (sz := 3) (by kernel_rfl) (by kernel_rfl) (by decide) (decOpC m) enc W cs d ps h1 h2
    exact ⟨a, trivial, by simp only [bOpCs]; exact h4, h5, by simp only [cOpCs]; exact h6⟩
end Go.Proofs.Ythkpgjnibolnhaa
namespace Go.Proofs.Ythkpgjnibolnhaa
open Go.Ab
open Go.ChangeShapes Go.WideShapes Go.ChangeAt Go.RowKit Go.WideElems
theorem CrewPlays_contract (H : Type) (enc : TypeId × Value → H) (W : World) (base : Nat) (args : Array Value) (ds gs : List (DataW H)) (before : List MemPlace)
    (hval : ∀ (j : Nat) t v, Try.f11.params[j]? = some t → args[j]? = some v → Value.okWide Try.prog W .any base t v)
    (hW : DataW.Whole enc Try.prog Try.f11.params.toList Rows.crewPlaysSpec.vars false W args.toList ds gs before) (hc : blkAll (ds ++ gs) ≤ 1048576)
    (hz : (DataW.weightsEach Try.prog (Try.f11.params.toList ++ (Rows.OpenSpec.upto Rows.crewPlaysSpec).bare.plain.varTypes Try.prog) (ds ++ gs)).all (· ≤ reachBytes) = true) :
    Calls Try.prog 11 args W fun e W' => ∃ v, e = .returned v ∧ Rows.crewPlaysSpec.post enc Try.prog Try.f11 false true false false W args v W' := by
  have hW' := hW
  obtain ⟨p, q, hA0, hV, rfl, hfz, hnd⟩ := hW
  have hA : DataW.TrodAll enc Try.prog W 0 (fun _ => true) true Try.f11.params.toList args.toList ds p := hA0
  obtain ⟨rfl, rfl⟩ := trodVars_none hV
  rw [Try.params11] at hA hval hz
  obtain ⟨v0, vs0, d0, ds0, p0, q0, hargs, rfl, rfl, h0, hA⟩ := trodAll_cons hA
  obtain ⟨v1, vs1, d1, ds1, p1, q1, rfl, rfl, rfl, h1, hA⟩ := trodAll_cons hA
  obtain ⟨rfl, rfl, rfl⟩ := trodAll_nil hA
  obtain rfl : args = #[v0, v1] := by cases args; simp_all
  obtain ⟨a0, ok0, b0, g0⟩ := DecB.arg (P := Try.prog) (f := fun n => .int .i64 n) (fun m => DecB.int (k := .i64) Try.underlying3) h0 (sized hz (j := 0) rfl rfl) (plain_int Try.underlying3 (hval 0 3 v0 rfl rfl))
  obtain ⟨a1, ok1, b1, g1⟩ := DecB.arg (P := Try.prog) (f := fun l => .sl .no 3 (cOpCs l)) (decOpsB) h1 (sized hz (j := 1) rfl rfl) (plain_slice Try.underlying78 (hval 1 78 v1 rfl rfl))
  simp only [List.append_nil, blkAll] at hc
  refine law_contract (P := Try.prog) (fn := Try.f11) (tb := 4) laidOut rfl ?_ (by kernel_rfl) Try.underlying4 hW' rfl (fun x hx => by cases hx) (RepAll.cons g0 (RepAll.cons g1 RepAll.nil)) (plays a0 a1 (by omega))
  rw [Try.params11]
  intro t ht
  simp only [List.mem_cons, List.not_mem_nil, or_false] at ht
  rcases ht with rfl | rfl <;> exact ⟨by kernel_rfl, by decide +kernel⟩
theorem CrewPlays_lifted (os : Os) (started : os.Started) (H : Type) (enc : TypeId × Value → H) (F : Stop.Interp) :
    ReturnsInHanded {} Try.checked os 11 .any ((Rows.OpenSpec.upto Rows.crewPlaysSpec).pre6 enc Try.prog Try.f11 Rows.crewPlaysUptoRow.domain false) (((Rows.OpenSpec.upto Rows.crewPlaysSpec).at F).post enc Try.prog Try.f11 false true false false) := by
  refine returnsInHanded_of_cond_sized (C := Try.checked) (s := Rows.OpenSpec.upto Rows.crewPlaysSpec) (k := Rows.uptoSmall) rfl own started (by kernel_rfl) Try.func11
    (OpenSpec.witness (enc := enc) (C := Try.checked) (s := Rows.OpenSpec.upto Rows.crewPlaysSpec) (k := Rows.uptoSmall) rfl false ⟨#[], #[.int .i64 0, .slice none 0 0], []⟩ 8 (by kernel_rfl) (by kernel_rfl) (by kernel_rfl)
      (x := ([.lit (.int .i64 0), .nil], [], [])) (by kernel_rfl) rfl (by kernel_rfl)) ?_
  intro W base args ds gs before hval hW _ hk hz _
  exact CrewPlays_contract H enc W base args ds gs before hval hW (small_bulk hk) hz
theorem CrewPlays_upto : Rows.CrewPlaysUptoSaid :=
  OpenClaim.holds_of_cond 11 Try.f11 rfl rfl rfl rfl rfl rfl rfl ⟨rfl, rfl, rfl, rfl, rfl⟩ rfl rfl rfl rfl rfl (by kernel_rfl) Try.func11 (by kernel_rfl)
    (of_decide_eq_true (by kernel_rfl)) (by unfold Func.isWrapper; first | (rw [if_pos (by decide +kernel)]; kernel_rfl) | (rw [if_neg (by decide +kernel)]; exact ⟨rfl, rfl⟩))
    (fun os started H enc _ F => CrewPlays_lifted os started H enc F)
end Go.Proofs.Ythkpgjnibolnhaa
