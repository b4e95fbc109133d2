/- Texts joined: ValE RowJ RowV Sep LibB Jm Jn Enc Quo Quo2 Quo3 Jv Jp Itoa NumR NumS Jr Jo Code Good Qr Deci Qr2 Qr3 Qr4 Tm Tp Tq Tp2. -/
import Derived.JoinedOf
import Derived.Lib.ItoaMem
import Derived.Lib.ItoaLen
import Derived.Lib.ValidLaws
import Derived.Lib.ParseIntBTie
import Derived.Lib.Join
import Derived.Lib.DecodeN
import Derived.Lib.TrimUEq
import Derived.Shelf.Strings.OnBuilder
import Derived.Test.YticbbfbpeimkbaaGreatDoorM1
import Derived.Test.YticbbfbpeimkbaaGreatDoorM2
import Derived.Test.YticbbfbpeimkbaaGreatDoorM3
set_option maxRecDepth 100000
set_option linter.unusedSimpArgs false
set_option linter.unusedVariables false
namespace Go.Proofs.YticbbfbpeimkbaaGreatDoor
open Go.Ab
mutual
def allV (may : List UInt8 → Bool) : Val → Bool
  | .mk k n s l m => if k = 6 then allVs may l && bareM n s [] m else if k = 7 then allMs may m && bareM n s l [] else singleM k n s l m
def allVs (may : List UInt8 → Bool) : List Val → Bool
  | [] => true
  | v :: r => allV may v && allVs may r
def allM (may : List UInt8 → Bool) : Mem → Bool
  | .mk s v => may s && allV may v
def allMs (may : List UInt8 → Bool) : List Mem → Bool
  | [] => true
  | x :: r => allM may x && allMs may r
end
theorem allC (f : FuncId) (hf : Program.callable Tryz.prog f = true) (may : List UInt8 → Bool) (hmay : ∀ s : List UInt8, s.length ≤ Lim → Pure Tryz.prog f [.str s] (.bool (may s))) :
    ∀ v, bV v ≤ Lim → Pure Tryz.prog 201 [.agg (cV v), .clo f [] []] (.bool (allV may v)) := by
  refine Val.ind fun k n s l m ihl ihm hb => ?_
  have hb' : 1 + s.length + bVs l + bMs m ≤ Lim := hb
  have hll := bVs_len l
  have hml := bMs_len m
  have h1 := cVs_len l
  have h2 := cMs_len m
  simp only [Lim] at hb'
  refine Pure.go ir201 ck201 (Nat.le_refl _) fun KP Q hQ => ?_
  simp (disch := first | omega | assumption) only [ir201, cV_mk, go_sem, ↓reduceIte]
  refine goA_intro fun b hb => ?_
  by_cases k6 : k = 6
  · subst k6
    simp (disch := first | omega | assumption) only [h1, go_sem, ↓reduceIte]
    refine goL_range l 22 (fun _ : Unit => [(6, .bool true)]) (fun done rest _ H => allVs may rest = allVs may l ∧ H b = some (.cells [.int .i64 6, .int .i64 n, .str s, .sl .nil 5 [], .sl .no 6 (cMs m)])) () (by simp (disch := first | omega | assumption) only [go_sem, ↓reduceIte]) ⟨rfl, by simp [Heap.upd]⟩ ?_ ?_
    · rintro _ H J ⟨hn, hH⟩ hlt
      simp only [allVs] at hn
      simp (disch := first | omega | assumption) only [h1, hlt, hH, go_sem, ↓reduceIte]
      refine goK_pure (Pure.low (bareC 6 n s [] m)) ?_
      simp (disch := first | omega | assumption) only [go_sem, ↓reduceIte]
      exact hQ _ _ _ _ nofun rfl (by simp [tupOf, envOf, AV.strip, AV.strip1, allV, ← hn])
    · rintro done x rest _ H J hd hlt _ ⟨hn, hH⟩ hJ
      have hg := cVs_get hd
      have hbm := bVs_mid done x rest
      rw [← hd] at hbm
      simp only [allVs] at hn
      simp (disch := first | omega | assumption) only [cV_len, cV_take, cV_splice, cM_len, cM_take, cM_splice, cM_mk, h1, hlt, hg, go_sem, ↓reduceIte]
      refine goA_intro fun b2 hb2 => ?_
      have hne := ne_of_none hb2 hH
      simp (disch := first | omega | assumption) only [cV_len, cV_take, cV_splice, cM_len, cM_take, cM_splice, cM_mk, go_sem, ↓reduceIte]
      refine goK_pure (ihl x (by rw [hd]; simp) (by simp only [Lim]; omega)) ?_
      cases hx : allV may x with
      | true =>
        simp only [hx, Bool.true_and] at hn
        simp (disch := first | omega | assumption) only [hx, go_sem, ↓reduceIte]
        exact goJ (hJ () _ ⟨hn, by simp [Heap.upd, Ne.symm hne, hH]⟩) (by simp (disch := first | omega | assumption) only [wrap64, go_sem, ↓reduceIte])
      | false =>
        simp only [hx, Bool.false_and] at hn
        simp (disch := first | omega | assumption) only [hx, go_sem, ↓reduceIte]
        exact hQ _ _ _ _ nofun rfl (by simp [tupOf, envOf, AV.strip, AV.strip1, allV, ← hn])
  by_cases k7 : k = 7
  · subst k7
    simp (disch := first | omega | assumption) only [h2, go_sem, ↓reduceIte]
    refine goL_range m 38 (fun _ : Unit => [(6, .bool true)]) (fun done rest _ H => allMs may rest = allMs may m ∧ H b = some (.cells [.int .i64 7, .int .i64 n, .str s, .sl .no 5 (cVs l), .sl .nil 6 []])) () (by simp (disch := first | omega | assumption) only [go_sem, ↓reduceIte]) ⟨rfl, by simp [Heap.upd]⟩ ?_ ?_
    · rintro _ H J ⟨hn, hH⟩ hlt
      simp only [allMs] at hn
      simp (disch := first | omega | assumption) only [h2, hlt, hH, go_sem, ↓reduceIte]
      refine goK_pure (Pure.low (bareC 7 n s l [])) ?_
      simp (disch := first | omega | assumption) only [go_sem, ↓reduceIte]
      exact hQ _ _ _ _ nofun rfl (by simp [tupOf, envOf, AV.strip, AV.strip1, allV, ← hn])
    · rintro done x rest _ H J hd hlt _ ⟨hn, hH⟩ hJ
      have hg := cMs_get hd
      have hbm := bMs_mid done x rest
      rw [← hd] at hbm
      have hmem : x ∈ m := by rw [hd]; simp
      obtain ⟨t, v⟩ := x
      simp only [allMs, allM, bM] at hn hbm
      simp (disch := first | omega | assumption) only [cV_len, cV_take, cV_splice, cM_len, cM_take, cM_splice, cM_mk, h2, hlt, hg, go_sem, ↓reduceIte]
      refine goA_intro fun b2 hb2 => ?_
      have hne := ne_of_none hb2 hH
      simp (disch := first | omega | assumption) only [cV_len, cV_take, cV_splice, cM_len, cM_take, cM_splice, cM_mk, go_sem, ↓reduceIte]
      refine ⟨hf, goK_pure (hmay t (by simp only [Lim]; omega)) ?_⟩
      cases ht : may t with
      | true =>
        simp (disch := first | omega | assumption) only [cV_len, cV_take, cV_splice, cM_len, cM_take, cM_splice, cM_mk, ht, go_sem, ↓reduceIte]
        refine goK_pure (ihm t v hmem (by simp only [Lim]; omega)) ?_
        cases hx : allV may v with
        | true =>
          simp only [ht, hx, Bool.true_and] at hn
          simp (disch := first | omega | assumption) only [hx, go_sem, ↓reduceIte]
          exact goJ (hJ () _ ⟨hn, by simp [Heap.upd, Ne.symm hne, hH]⟩) (by simp (disch := first | omega | assumption) only [wrap64, go_sem, ↓reduceIte])
        | false =>
          simp only [ht, hx, Bool.true_and, Bool.false_and] at hn
          simp (disch := first | omega | assumption) only [hx, go_sem, ↓reduceIte]
          exact hQ _ _ _ _ nofun rfl (by simp [tupOf, envOf, AV.strip, AV.strip1, allV, ← hn])
      | false =>
        simp only [ht, Bool.false_and] at hn
        simp (disch := first | omega | assumption) only [cV_len, cV_take, cV_splice, cM_len, cM_take, cM_splice, cM_mk, ht, go_sem, ↓reduceIte]
        exact hQ _ _ _ _ nofun rfl (by simp [tupOf, envOf, AV.strip, AV.strip1, allV, ← hn])
  · simp (disch := first | omega | assumption) only [k6, k7, go_sem, ↓reduceIte]
    refine goK_pure (singleC k n s l m (by simp only [Lim]; omega)) ?_
    simp (disch := first | omega | assumption) only [go_sem, ↓reduceIte]
    exact hQ _ _ _ _ nofun rfl (by simp [tupOf, envOf, AV.strip, AV.strip1, allV, k6, k7])
def goodV (v : Val) : Bool := allV Lib.validD v
theorem goodVC (v : Val) (hb : bV v ≤ Lim) : Pure Tryz.prog 115 [.agg (cV v)] (.bool (goodV v)) := by
  refine Pure.go ir115 ck115 (Nat.le_refl _) fun KP Q hQ => ?_
  simp (disch := first | omega | assumption) only [cV_len, cV_take, cV_splice, cM_len, cM_take, cM_splice, cM_mk, ir115, go_sem, ↓reduceIte]
  refine goK_pure (allC _ (by kernel_rfl) Lib.validD goodC v hb) ?_
  simp (disch := first | omega | assumption) only [go_sem, ↓reduceIte]
  exact hQ _ _ _ _ nofun rfl (by simp [tupOf, envOf, AV.strip, AV.strip1, goodV])
def plainV (v : Val) : Bool := allV nameM v && decide (depthV v ≤ 16)
theorem plainVC (v : Val) (hb : bV v ≤ Lim) : Pure Tryz.prog 117 [.agg (cV v)] (.bool (plainV v)) := by
  refine Pure.go ir117 ck117 (Nat.le_refl _) fun KP Q hQ => ?_
  simp (disch := first | omega | assumption) only [cV_len, cV_take, cV_splice, cM_len, cM_take, cM_splice, cM_mk, ir117, go_sem, ↓reduceIte]
  refine goK_pure (allC _ (by kernel_rfl) nameM nameC v hb) ?_
  cases h : allV nameM v with
  | true =>
    simp (disch := first | omega | assumption) only [cV_len, cV_take, cV_splice, cM_len, cM_take, cM_splice, cM_mk, h, go_sem, ↓reduceIte]
    refine goK_pure (depthC v hb) ?_
    simp (disch := first | omega | assumption) only [go_sem, ↓reduceIte]
    exact hQ _ _ _ _ nofun rfl (by simp [tupOf, envOf, AV.strip, AV.strip1, plainV, h])
  | false =>
    simp (disch := first | omega | assumption) only [h, go_sem, ↓reduceIte]
    exact hQ _ _ _ _ nofun rfl (by simp [tupOf, envOf, AV.strip, AV.strip1, plainV, h])
theorem wordC (s : List UInt8) : Pure Tryz.prog 204 [.str s] (.agg (cK ⟨2, s⟩)) := by
  refine Pure.go ir204 ck204 (Nat.le_refl _) fun KP Q hQ => ?_
  simp (disch := first | omega | assumption) only [ir204, go_sem, ↓reduceIte]
  refine goA_intro fun b hb => ?_
  simp (disch := first | omega | assumption) only [go_sem, ↓reduceIte]
  exact hQ _ _ _ [.agg [.int .i64 2, .str s]] nofun (by simp (disch := first | omega | assumption) only [ir204, resvs, resv, go_sem, ↓reduceIte]) rfl
theorem punctC (s : List UInt8) : Pure Tryz.prog 208 [.str s] (.agg (cK ⟨1, s⟩)) := by
  refine Pure.go ir208 ck208 (Nat.le_refl _) fun KP Q hQ => ?_
  simp (disch := first | omega | assumption) only [ir208, go_sem, ↓reduceIte]
  refine goA_intro fun b hb => ?_
  simp (disch := first | omega | assumption) only [go_sem, ↓reduceIte]
  exact hQ _ _ _ [.agg [.int .i64 1, .str s]] nofun (by simp (disch := first | omega | assumption) only [ir208, resvs, resv, go_sem, ↓reduceIte]) rfl
def boolT (b : Bool) : List UInt8 := if b then [116, 114, 117, 101] else [102, 97, 108, 115, 101]
theorem fmtBool0 (b : Bool) : Pure Tryz.prog 269 [.bool b] (.str (boolT b)) := by
  refine Pure.go ir269 ck269 (Nat.le_refl _) fun KP Q hQ => ?_
  cases b
  · simp (disch := first | omega | assumption) only [ir269, go_sem, ↓reduceIte]
    exact hQ _ _ _ _ nofun rfl (by simp [tupOf, envOf, AV.strip, AV.strip1, boolT])
  · simp (disch := first | omega | assumption) only [ir269, go_sem, ↓reduceIte]
    exact hQ _ _ _ _ nofun rfl (by simp [tupOf, envOf, AV.strip, AV.strip1, boolT])
theorem fmtBool (b : Bool) : Pure Tryz.prog 205 [.bool b] (.str (boolT b)) := by
  refine Pure.go ir205 ck205 (Nat.le_refl _) fun KP Q hQ => ?_
  simp (disch := first | omega | assumption) only [ir205, go_sem, ↓reduceIte]
  refine goK_pure (fmtBool0 b) ?_
  simp (disch := first | omega | assumption) only [go_sem, ↓reduceIte]
  exact hQ _ _ _ _ nofun rfl (by simp [tupOf, envOf, AV.strip, AV.strip1])
mutual
def tokV : Val → List Tok
  | .mk k n s l m => if k = 0 then [⟨2, [110, 117, 108, 108]⟩] else if k = 1 then [⟨2, boolT (decide (n = 1))⟩] else if k = 2 then [⟨3, Lib.itoa n⟩] else if k = 3 then [⟨numK s, s⟩] else if k = 4 then [⟨5, s⟩]
    else if k = 5 then [⟨2, s⟩] else if k = 8 then [⟨1, [36]⟩, ⟨2, s⟩] else if k = 6 then ⟨1, [91]⟩ :: (tokVs l ++ [⟨1, [93]⟩]) else ⟨1, [123]⟩ :: (tokMs m ++ [⟨1, [125]⟩])
def tokVs : List Val → List Tok
  | [] => []
  | v :: r => tokV v ++ tokVs r
def tokM : Mem → List Tok
  | .mk s v => ⟨2, s⟩ :: ⟨1, [58]⟩ :: tokV v
def tokMs : List Mem → List Tok
  | [] => []
  | x :: r => tokM x ++ tokMs r
end
mutual
theorem tokV_le : ∀ v, (tokV v).length + 2 ≤ 4 * bV v
  | .mk k n s l m => by
    have h1 := tokVs_le l
    have h2 := tokMs_le m
    simp only [tokV, bV]
    repeat' split
    all_goals simp only [List.length_cons, List.length_append, List.length_nil]
    all_goals omega
theorem tokVs_le : ∀ l, (tokVs l).length ≤ 4 * bVs l
  | [] => by simp [tokVs]
  | v :: r => by
    have h1 := tokV_le v
    have h2 := tokVs_le r
    simp only [tokVs, bVs, List.length_append]; omega
theorem tokM_le : ∀ x, (tokM x).length ≤ 4 * bM x
  | .mk s v => by have := tokV_le v; simp only [tokM, bM, List.length_cons]; omega
theorem tokMs_le : ∀ l, (tokMs l).length ≤ 4 * bMs l
  | [] => by simp [tokMs]
  | x :: r => by
    have h1 := tokM_le x
    have h2 := tokMs_le r
    simp only [tokMs, bMs, List.length_append]; omega
end
def inR (n : Int) : Prop := -9223372036854775808 ≤ n ∧ n ≤ 9223372036854775807
mutual
def wfV : Val → Prop
  | .mk _ n _ l m => inR n ∧ wfVs l ∧ wfMs m
def wfVs : List Val → Prop
  | [] => True
  | v :: r => wfV v ∧ wfVs r
def wfM : Mem → Prop
  | .mk _ v => wfV v
def wfMs : List Mem → Prop
  | [] => True
  | x :: r => wfM x ∧ wfMs r
end
theorem wfVs_mem : ∀ {l : List Val}, wfVs l → ∀ v ∈ l, wfV v
  | _ :: _, h, v, hv => (List.mem_cons.1 hv).elim (fun e => e ▸ h.1) (wfVs_mem h.2 v)
theorem wfMs_mem : ∀ {l : List Mem}, wfMs l → ∀ s v, Mem.mk s v ∈ l → wfV v
  | _ :: _, h, s, v, hv => (List.mem_cons.1 hv).elim (fun e => by have := h.1; rw [← e] at this; exact this) (wfMs_mem h.2 s v)
theorem cKs_app (a : List Tok) (t : Tok) : cKs a ++ [[.int .i64 t.k, .str t.s]] = cKs (a ++ [t]) := by simp [cKs, cK]
theorem cKs_app2 (a : List Tok) (t u : Tok) : cKs a ++ [[.int .i64 t.k, .str t.s], [.int .i64 u.k, .str u.s]] = cKs (a ++ [t, u]) := by simp [cKs, cK]
theorem tokensC : ∀ v, wfV v → ∀ acc H o, acc.length + 4 * bV v ≤ Lim → Owned H o acc.length 2 → Gives Tryz.prog 118 [.sl o 2 (cKs acc), .agg (cV v)] H o 2 (cKs (acc ++ tokV v)) := by
  refine Val.ind fun k n s l m ihl ihm hwf acc H o hb ho => ?_
  obtain ⟨hn, hwl, hwm⟩ := hwf
  have hb' : acc.length + 4 * (1 + s.length + bVs l + bMs m) ≤ Lim := hb
  have hll := bVs_len l
  have hml := bMs_len m
  have h1 := cVs_len l
  have h2 := cMs_len m
  have h3 := cKs_len acc
  have hT := tokVs_le l
  have hM := tokMs_le m
  simp only [Lim] at hb'
  have hsl : s.length ≤ Lim := by simp only [Lim]; omega
  refine ACalls.goO ir118 ck118 (Nat.le_refl _) fun KP Q hQ hP => ?_
  have one : ∀ t : Tok, tokV (.mk k n s l m) = [t] → ∀ o' H', OwnS H o H' o' (acc.length + 1) 2 → OwnR H o 2 (cKs (acc ++ tokV (.mk k n s l m))) (.sl o' 2 (cKs acc ++ [[.int .i64 t.k, .str t.s]])) H' := fun t e o' H' hs => by
    rw [e]; exact ⟨o', by rw [cKs_app], by rw [cKs_len]; simpa using hs⟩
  have hq1 : ((cKs acc).length + 1) * 24 ≤ 140737488355328 := by rw [h3]; omega
  have hq2 : (cKs acc).length + 1 ≤ maxLen := by rw [h3]; simp only [maxLen]; omega
  have hq3 : ((cKs acc).length + 2) * 24 ≤ 140737488355328 := by rw [h3]; omega
  have hq4 : (cKs acc).length + 2 ≤ maxLen := by rw [h3]; simp only [maxLen]; omega
  have ho' : Owned H o (cKs acc).length 2 := by rw [h3]; exact ho
  by_cases k0 : k = 0
  · subst k0
    simp (disch := first | omega | assumption) only [ir118, cV_mk, go_sem, ↓reduceIte]
    refine goK_pure (wordC _) ?_
    simp (disch := first | omega | assumption) only [cK, go_sem, ↓reduceIte]
    refine goP_ownS ho' hq1 hq2 fun o' H' hs => ?_
    simp (disch := first | omega | assumption) only [go_sem, ↓reduceIte]
    exact hQ _ _ H' H' [_] nofun rfl (Low.refl _) (one ⟨2, [110, 117, 108, 108]⟩ (by simp [tokV]) o' H' (by simpa [h3] using hs))
  by_cases k1 : k = 1
  · subst k1
    simp (disch := first | omega | assumption) only [ir118, cV_mk, go_sem, ↓reduceIte]
    refine goK_pure (fmtBool _) ?_
    simp (disch := first | omega | assumption) only [go_sem, ↓reduceIte]
    refine goK_pure (wordC _) ?_
    simp (disch := first | omega | assumption) only [cK, go_sem, ↓reduceIte]
    refine goP_ownS ho' hq1 hq2 fun o' H' hs => ?_
    simp (disch := first | omega | assumption) only [go_sem, ↓reduceIte]
    exact hQ _ _ H' H' [_] nofun rfl (Low.refl _) (one ⟨2, boolT (decide (n = 1))⟩ (by simp [tokV]) o' H' (by simpa [h3] using hs))
  by_cases k2 : k = 2
  · subst k2
    simp (disch := first | omega | assumption) only [ir118, cV_mk, go_sem, ↓reduceIte]
    refine goK_pure (formatIntC n hn.1 hn.2) ?_
    simp (disch := first | omega | assumption) only [go_sem, ↓reduceIte]
    refine goP_ownS ho' hq1 hq2 fun o' H' hs => ?_
    simp (disch := first | omega | assumption) only [go_sem, ↓reduceIte]
    exact hQ _ _ H' H' [_] nofun rfl (Low.refl _) (one ⟨3, Lib.itoa n⟩ (by simp [tokV]) o' H' (by simpa [h3] using hs))
  by_cases k3 : k = 3
  · subst k3
    simp (disch := first | omega | assumption) only [ir118, cV_mk, go_sem, ↓reduceIte]
    refine goK_pure (NumberC s hsl) ?_
    simp (disch := first | omega | assumption) only [go_sem, ↓reduceIte]
    refine goP_ownS ho' hq1 hq2 fun o' H' hs => ?_
    simp (disch := first | omega | assumption) only [go_sem, ↓reduceIte]
    exact hQ _ _ H' H' [_] nofun rfl (Low.refl _) (one ⟨numK s, s⟩ (by simp [tokV]) o' H' (by simpa [h3] using hs))
  by_cases k4 : k = 4
  · subst k4
    simp (disch := first | omega | assumption) only [ir118, cV_mk, go_sem, ↓reduceIte]
    refine goP_ownS ho' hq1 hq2 fun o' H' hs => ?_
    simp (disch := first | omega | assumption) only [go_sem, ↓reduceIte]
    exact hQ _ _ H' H' [_] nofun rfl (Low.refl _) (one ⟨5, s⟩ (by simp [tokV]) o' H' (by simpa [h3] using hs))
  by_cases k5 : k = 5
  · subst k5
    simp (disch := first | omega | assumption) only [ir118, cV_mk, go_sem, ↓reduceIte]
    refine goK_pure (wordC _) ?_
    simp (disch := first | omega | assumption) only [cK, go_sem, ↓reduceIte]
    refine goP_ownS ho' hq1 hq2 fun o' H' hs => ?_
    simp (disch := first | omega | assumption) only [go_sem, ↓reduceIte]
    exact hQ _ _ H' H' [_] nofun rfl (Low.refl _) (one ⟨2, s⟩ (by simp [tokV]) o' H' (by simpa [h3] using hs))
  by_cases k8 : k = 8
  · subst k8
    simp (disch := first | omega | assumption) only [ir118, cV_mk, go_sem, ↓reduceIte]
    refine goK_pure (punctC _) ?_
    simp (disch := first | omega | assumption) only [cK, go_sem, ↓reduceIte]
    refine goK_pure (wordC _) ?_
    simp (disch := first | omega | assumption) only [cK, go_sem, ↓reduceIte]
    refine goP_ownS ho' hq3 hq4 fun o' H' hs => ?_
    simp (disch := first | omega | assumption) only [go_sem, ↓reduceIte]
    refine hQ _ _ H' H' [_] nofun rfl (Low.refl _) ?_
    have e : tokV (.mk 8 n s l m) = [⟨1, [36]⟩, ⟨2, s⟩] := by simp [tokV]
    rw [e]
    exact ⟨o', by rw [← cKs_app2]; rfl, by rw [cKs_len]; simpa [h3] using hs⟩
  by_cases k6 : k = 6
  · subst k6
    have e : tokV (.mk 6 n s l m) = ⟨1, [91]⟩ :: (tokVs l ++ [⟨1, [93]⟩]) := by simp [tokV]
    have ea := cKs_app acc ⟨1, [91]⟩
    simp only at ea
    simp (disch := first | omega | assumption) only [ir118, cV_mk, go_sem, ↓reduceIte]
    refine goK_pure (punctC _) ?_
    simp (disch := first | omega | assumption) only [cK, go_sem, ↓reduceIte]
    refine goP_ownS ho' hq1 hq2 fun o1 H1 hs1 => ?_
    have hs1' : OwnS H o H1 o1 (acc ++ [(⟨1, [91]⟩ : Tok)]).length 2 := by simpa [h3] using hs1
    simp (disch := first | omega | assumption) only [ea, h1, go_sem, ↓reduceIte]
    refine goL_range l 81 (fun x : Own × List Tok => [(0, .sl x.1 2 (cKs x.2))]) (fun done rest x H' => x.2 ++ tokVs rest = acc ++ ⟨1, [91]⟩ :: tokVs l ∧ x.2.length + 4 * bVs rest ≤ acc.length + 1 + 4 * bVs l ∧ OwnS H o H' x.1 x.2.length 2) (o1, acc ++ [⟨1, [91]⟩]) (by simp (disch := first | omega | assumption) only [go_sem, ↓reduceIte]) ⟨by simp, by simp, hs1'⟩ ?_ ?_
    · rintro ⟨o2, a⟩ H2 J ⟨hn, hle, hs⟩ hlt
      simp only [tokVs, List.append_nil, bVs] at hn hle
      have h4 := cKs_len a
      simp (disch := first | omega | assumption) only [h1, hlt, go_sem, ↓reduceIte]
      refine goK_pure (punctC _) ?_
      simp (disch := first | omega | assumption) only [cK, go_sem, ↓reduceIte]
      refine goP_ownS (by rw [h4]; exact hs.own) (by simp only [h4, List.length_cons, List.length_nil]; omega) (by simp only [h4, List.length_cons, List.length_nil, maxLen]; omega) fun o3 H3 hs3 => ?_
      simp (disch := first | omega | assumption) only [go_sem, ↓reduceIte]
      refine hQ _ _ H3 H3 [_] nofun rfl (Low.refl _) ?_
      have e2 : acc ++ tokV (.mk 6 n s l m) = a ++ [⟨1, [93]⟩] := by rw [e, hn]; simp
      rw [e2]
      exact ⟨o3, by rw [← cKs_app]; rfl, by rw [cKs_len]; exact hs.trans (by simpa [h4] using hs3)⟩
    · rintro done x rest ⟨o2, a⟩ H2 J hd hlt _ ⟨hn, hle, hs⟩ hJ
      have hg := cVs_get hd
      have hx := tokV_le x
      have hmem : x ∈ l := by rw [hd]; simp
      simp only [tokVs, bVs] at hn hle
      simp (disch := first | omega | assumption) only [cV_len, cV_take, cV_splice, cM_len, cM_take, cM_splice, cM_mk, h1, hlt, hg, go_sem, ↓reduceIte]
      refine goA_intro fun b hb => ?_
      simp (disch := first | omega | assumption) only [cV_len, cV_take, cV_splice, cM_len, cM_take, cM_splice, cM_mk, go_sem, ↓reduceIte]
      refine goK_gives (ihl x hmem (wfVs_mem hwl x hmem) a _ o2 (by simp only [Lim]; omega) (hs.own.upd hb)) fun o3 H3 hs3 => ?_
      rw [cKs_len] at hs3
      simp (disch := first | omega | assumption) only [wrap64, go_sem, ↓reduceIte]
      exact goJ (hJ (o3, a ++ tokV x) H3 ⟨by rw [← hn]; simp, by simp only [List.length_append]; omega, (hs.upd hb).trans hs3⟩) (by simp (disch := first | omega | assumption) only [go_sem, ↓reduceIte])
  · have e : tokV (.mk k n s l m) = ⟨1, [123]⟩ :: (tokMs m ++ [⟨1, [125]⟩]) := by simp [tokV, k0, k1, k2, k3, k4, k5, k8, k6]
    have ea := cKs_app acc ⟨1, [123]⟩
    simp only at ea
    simp (disch := first | omega | assumption) only [ir118, cV_mk, k0, k1, k2, k3, k4, k5, k8, k6, go_sem, ↓reduceIte]
    refine goK_pure (punctC _) ?_
    simp (disch := first | omega | assumption) only [cK, go_sem, ↓reduceIte]
    refine goP_ownS ho' hq1 hq2 fun o1 H1 hs1 => ?_
    have hs1' : OwnS H o H1 o1 (acc ++ [(⟨1, [123]⟩ : Tok)]).length 2 := by simpa [h3] using hs1
    simp (disch := first | omega | assumption) only [ea, h2, go_sem, ↓reduceIte]
    refine goL_range m 100 (fun x : Own × List Tok => [(0, .sl x.1 2 (cKs x.2))]) (fun done rest x H' => x.2 ++ tokMs rest = acc ++ ⟨1, [123]⟩ :: tokMs m ∧ x.2.length + 4 * bMs rest ≤ acc.length + 1 + 4 * bMs m ∧ OwnS H o H' x.1 x.2.length 2) (o1, acc ++ [⟨1, [123]⟩]) (by simp (disch := first | omega | assumption) only [go_sem, ↓reduceIte]) ⟨by simp, by simp, hs1'⟩ ?_ ?_
    · rintro ⟨o2, a⟩ H2 J ⟨hn, hle, hs⟩ hlt
      simp only [tokMs, List.append_nil, bMs] at hn hle
      have h4 := cKs_len a
      simp (disch := first | omega | assumption) only [h2, hlt, go_sem, ↓reduceIte]
      refine goK_pure (punctC _) ?_
      simp (disch := first | omega | assumption) only [cK, go_sem, ↓reduceIte]
      refine goP_ownS (by rw [h4]; exact hs.own) (by simp only [h4, List.length_cons, List.length_nil]; omega) (by simp only [h4, List.length_cons, List.length_nil, maxLen]; omega) fun o3 H3 hs3 => ?_
      simp (disch := first | omega | assumption) only [go_sem, ↓reduceIte]
      refine hQ _ _ H3 H3 [_] nofun rfl (Low.refl _) ?_
      have e2 : acc ++ tokV (.mk k n s l m) = a ++ [⟨1, [125]⟩] := by rw [e, hn]; simp
      rw [e2]
      exact ⟨o3, by rw [← cKs_app]; rfl, by rw [cKs_len]; exact hs.trans (by simpa [h4] using hs3)⟩
    · rintro done x rest ⟨o2, a⟩ H2 J hd hlt _ ⟨hn, hle, hs⟩ hJ
      have hg := cMs_get hd
      have hmem : x ∈ m := by rw [hd]; simp
      obtain ⟨t, v⟩ := x
      have hx := tokV_le v
      have h4 := cKs_len a
      have hp := bV_pos v
      simp only [tokMs, tokM, bMs, bM] at hn hle
      have ea2 := cKs_app2 a ⟨2, t⟩ ⟨1, [58]⟩
      simp only at ea2
      simp (disch := first | omega | assumption) only [cV_len, cV_take, cV_splice, cM_len, cM_take, cM_splice, cM_mk, h2, hlt, hg, go_sem, ↓reduceIte]
      refine goA_intro fun b hb => ?_
      simp (disch := first | omega | assumption) only [cV_len, cV_take, cV_splice, cM_len, cM_take, cM_splice, cM_mk, go_sem, ↓reduceIte]
      refine goK_pure (wordC _) ?_
      simp (disch := first | omega | assumption) only [cV_len, cV_take, cV_splice, cM_len, cM_take, cM_splice, cM_mk, cK, go_sem, ↓reduceIte]
      refine goK_pure (punctC _) ?_
      simp (disch := first | omega | assumption) only [cV_len, cV_take, cV_splice, cM_len, cM_take, cM_splice, cM_mk, cK, go_sem, ↓reduceIte]
      refine goP_ownS (by rw [h4]; exact hs.own.upd hb) (by simp only [h4, List.length_cons, List.length_nil]; omega) (by simp only [h4, List.length_cons, List.length_nil, maxLen]; omega) fun o3 H3 hs3 => ?_
      have hs3' : OwnS H o H3 o3 (a ++ [(⟨2, t⟩ : Tok), ⟨1, [58]⟩]).length 2 := (hs.upd hb).trans (by simpa [h4] using hs3)
      have hHb : H3 b = some (.cells (cM (.mk t v))) := hs3.kept b _ (by simp [Heap.upd, cM_mk]) fun d e => by
        have := hs.own; subst e
        have hx : H2 b = _ := this
        rw [hb] at hx; cases hx
      simp (disch := first | omega | assumption) only [cV_len, cV_take, cV_splice, cM_len, cM_take, cM_splice, cM_mk, ea2, hHb, go_sem, ↓reduceIte]
      refine goK_gives (ihm t v hmem (wfMs_mem hwm t v hmem) _ _ o3 (by simp only [Lim, List.length_append, List.length_cons, List.length_nil]; omega) hs3'.own) fun o4 H4 hs4 => ?_
      rw [cKs_len] at hs4
      simp (disch := first | omega | assumption) only [wrap64, go_sem, ↓reduceIte]
      exact goJ (hJ (o4, a ++ [⟨2, t⟩, ⟨1, [58]⟩] ++ tokV v) H4 ⟨by rw [← hn]; simp, by simp only [List.length_append, List.length_cons, List.length_nil]; omega, hs3'.trans hs4⟩) (by simp (disch := first | omega | assumption) only [go_sem, ↓reduceIte])
def toksV (v : Val) : List Tok := if plainV v then tokV v else []
theorem TokensC (v : Val) (hw : wfV v) (hb : 4 * bV v ≤ Lim) : Pure Tryz.prog 55 [.agg (cV v)] (.tup [.sl .no 2 (cKs (toksV v)), .bool (plainV v)]) := by
  have hb' : bV v ≤ Lim := by omega
  refine Pure.go ir55 ck55 (Nat.le_refl _) fun KP Q hQ => ?_
  simp (disch := first | omega | assumption) only [cV_len, cV_take, cV_splice, cM_len, cM_take, cM_splice, cM_mk, ir55, go_sem, ↓reduceIte]
  refine goK_pure (plainVC v hb') ?_
  cases h : plainV v with
  | false =>
    simp (disch := first | omega | assumption) only [h, go_sem, ↓reduceIte]
    exact hQ _ _ _ _ nofun rfl (by simp [tupOf, envOf, AV.strip, AV.strip1, toksV, h, cKs])
  | true =>
    simp (disch := first | omega | assumption) only [cV_len, cV_take, cV_splice, cM_len, cM_take, cM_splice, cM_mk, h, go_sem, ↓reduceIte]
    refine goK_gives (tokensC v hw [] _ .nil (by simpa using hb) rfl) fun o' H' hs => ?_
    simp (disch := first | omega | assumption) only [go_sem, ↓reduceIte]
    exact hQ _ _ _ _ nofun rfl (by simp [tupOf, envOf, AV.strip, AV.strip1, toksV, h])
end Go.Proofs.YticbbfbpeimkbaaGreatDoor
namespace Go.Proofs.YticbbfbpeimkbaaGreatDoor
def joinP0 (P : Program) (f : FuncId) (fn : Func) (s : ChangeSpec) (c : OpenClaim) : Bool := c.wf (OpenSpec.ofChange s) && laidOutB P && mapsRowed P && fn.params.all (P.readableRec ·) && namedTie P c.named s.vars
def joinP1 (P : Program) (f : FuncId) (fn : Func) (s : ChangeSpec) (c : OpenClaim) : Bool := (c.stops == []) && (P.stops == []) && (c.knobs == []) && (P.stopKnobs == []) && (c.maps == (fn.params.toList ++ s.plain.varTypes P).any (P.mapsRec ·)) && (c.ifaces == (fn.params.toList ++ s.plain.varTypes P).any (P.ifacesRec ·)) && (c.mapsOut == P.mapsAmong fn.resultTypes.toList) && (c.loops == (fn.params.toList ++ s.plain.varTypes P).any (P.loopsFrom ·)) && (c.wideKeys == (fn.params.toList ++ s.plain.varTypes P ++ fn.resultTypes.toList).any (P.wideKeysFrom ·)) && s.vars.all (P.varReadable ·) && fn.resultTypes.all (fun t => P.readableRec t && decide (t < P.types.size)) && (c.ifacesOut == fn.resultTypes.toList.any (P.ifacesRec ·)) && (c.loopsOut == fn.resultTypes.toList.any (P.loopsFrom ·)) && (c.veiled == (fn.params.toList ++ s.plain.varTypes P ++ fn.resultTypes.toList).any (P.veiledRec ·)) && c.veiledFits P fn.params.toList (fn.params.toList ++ s.plain.varTypes P ++ fn.resultTypes.toList)
def joinP2 (P : Program) (f : FuncId) (fn : Func) (s : ChangeSpec) (c : OpenClaim) : Bool := (c.inPlace == P.inPlace f) && (c.unfollowed == P.unfollowed f) && (c.recurses == P.recurses f) && (c.named == P.varsNamed f)
def joinP3 (P : Program) (f : FuncId) (fn : Func) (s : ChangeSpec) (c : OpenClaim) : Bool := (c.plainKeys == P.plainKeys) && c.shortTexts.isNone
def joinP4 (P : Program) (f : FuncId) (fn : Func) (s : ChangeSpec) (c : OpenClaim) : Bool := P.stopsHeard
def joinP5 (P : Program) (f : FuncId) (fn : Func) (s : ChangeSpec) (c : OpenClaim) : Bool := P.mayEnter
def joinP6 (P : Program) (f : FuncId) (fn : Func) (s : ChangeSpec) (c : OpenClaim) : Bool := (c.lifted == P.liftsFinal) && (P.make == some c.make) && (c.kinds == (if c.domain.isEmpty then [] else fn.params.toList.map fun t => match P.underlying t with | some (.int k) => some k | _ => none)) && (c.pinned == c.pinnedBy)
theorem joined_of {P : Program} {f : FuncId} {fn : Func} {s : ChangeSpec} {c : OpenClaim} (h0 : joinP0 P f fn s c = true) (h1 : joinP1 P f fn s c = true) (h2 : joinP2 P f fn s c = true) (h3 : joinP3 P f fn s c = true) (h4 : joinP4 P f fn s c = true) (h5 : joinP5 P f fn s c = true) (h6 : joinP6 P f fn s c = true) : joinedFacts P f fn s c = true := by
  simp only [joinP0, Bool.and_eq_true] at h0
  obtain ⟨⟨⟨⟨a0, a1⟩, a2⟩, a3⟩, a4⟩ := h0
  simp only [joinP1, Bool.and_eq_true] at h1
  obtain ⟨⟨⟨⟨⟨⟨⟨⟨⟨⟨⟨⟨⟨⟨a5, a6⟩, a7⟩, a8⟩, a13⟩, a14⟩, a15⟩, a16⟩, a17⟩, a18⟩, a19⟩, a20⟩, a21⟩, a30⟩, a31⟩ := h1
  simp only [joinP2, Bool.and_eq_true] at h2
  obtain ⟨⟨⟨a9, a10⟩, a11⟩, a12⟩ := h2
  simp only [joinP3, Bool.and_eq_true] at h3
  obtain ⟨a22, a23⟩ := h3
  simp only [joinP4, Bool.and_eq_true] at h4
  have a24 := h4
  simp only [joinP5, Bool.and_eq_true] at h5
  have a25 := h5
  simp only [joinP6, Bool.and_eq_true] at h6
  obtain ⟨⟨⟨a26, a27⟩, a28⟩, a29⟩ := h6
  simp only [joinedFacts, Bool.and_eq_true]
  exact ⟨⟨⟨⟨⟨⟨⟨⟨⟨⟨⟨⟨⟨⟨⟨⟨⟨⟨⟨⟨⟨⟨⟨⟨⟨⟨⟨⟨⟨⟨⟨a0, a1⟩, a2⟩, a3⟩, a4⟩, a5⟩, a6⟩, a7⟩, a8⟩, a9⟩, a10⟩, a11⟩, a12⟩, a13⟩, a14⟩, a15⟩, a16⟩, a17⟩, a18⟩, a19⟩, a20⟩, a21⟩, a22⟩, a23⟩, a24⟩, a25⟩, a26⟩, a27⟩, a28⟩, a29⟩, a30⟩, a31⟩
end Go.Proofs.YticbbfbpeimkbaaGreatDoor
namespace Go.Proofs.YticbbfbpeimkbaaGreatDoor
open Go.Ab Go.Lib
open Go.ChangeShapes Go.WideShapes Go.ChangeAt Go.RowKit Go.WideElems
theorem own : ownKnob Tryz.prog.godebug = none := by kernel_rfl
theorem laidOut : laidOutB Tryz.prog = true := by kernel_rfl
theorem bVs_sum : ∀ l, bVs l = (l.map bV).sum
  | [] => rfl
  | v :: r => by simp [bVs, bVs_sum r]
theorem bMs_sum : ∀ l, bMs l = (l.map bM).sum
  | [] => rfl
  | v :: r => by simp [bMs, bMs_sum r]
theorem wfVs_all : ∀ {l : List Val}, (∀ v ∈ l, wfV v) → wfVs l
  | [], _ => trivial
  | v :: r, h => ⟨h v (.head _), wfVs_all fun x hx => h x (.tail _ hx)⟩
theorem wfMs_all : ∀ {l : List Mem}, (∀ v ∈ l, wfM v) → wfMs l
  | [], _ => trivial
  | v :: r, h => ⟨h v (.head _), wfMs_all fun x hx => h x (.tail _ hx)⟩
theorem inR_wf {n : Int} (h : (Lit.int .i64 n).wf = true) : inR n := by
  simp [Lit.wf, IntKind.has, IntKind.min, IntKind.max, IntKind.signed, IntKind.bits] at h
  unfold inR
  omega
abbrev DV (m : Nat) : Prop := DecB Tryz.prog m 56 5 cV wfV bV
abbrev DM (m : Nat) : Prop := DecB Tryz.prog m 148 6 cM wfM bM
theorem decVs {m : Nat} (h : DV m) : DecB Tryz.prog (m + 1) 53 1 (fun l : List Val => [.sl .no 5 (cVs l)]) (fun l => wfVs l) (fun l => bVs l + 1) := by
  intro H enc W cs d ps h1 h2
  obtain ⟨a, h3, h4, h5, h6⟩ := DecB.slice (t := 53) Tryz.underlying53 (B := 80) (sz := 5) (by kernel_rfl) (by kernel_rfl) (by decide) h enc W cs d ps h1 h2
  exact ⟨a, wfVs_all h3.2.2, by simp only [bVs_sum]; exact h4, h5, by simp only [cVs_map]; exact h6⟩
theorem decMs {m : Nat} (h : DM m) : DecB Tryz.prog (m + 1) 54 1 (fun l : List Mem => [.sl .no 6 (cMs l)]) (fun l => wfMs l) (fun l => bMs l + 1) := by
  intro H enc W cs d ps h1 h2
  obtain ⟨a, h3, h4, h5, h6⟩ := DecB.slice (t := 54) Tryz.underlying54 (B := 96) (sz := 6) (by kernel_rfl) (by kernel_rfl) (by decide) h enc W cs d ps h1 h2
  exact ⟨a, wfMs_all h3.2.2, by simp only [bMs_sum]; exact h4, h5, by simp only [cMs_map]; exact h6⟩
theorem dec : ∀ m, DV m ∧ DM m := by
  intro m
  induction m using Nat.strongRecOn with
  | _ m ih =>
    have hs : ∀ {k}, k ≤ m → DecB Tryz.prog k 53 1 (fun l : List Val => [.sl .no 5 (cVs l)]) (fun l => wfVs l) (fun l => bVs l + 1) := fun {k} hk => by
      cases k with
      | zero => exact DecB.zero
      | succ k => exact decVs (ih k (by omega)).1
    have hm : ∀ {k}, k ≤ m → DecB Tryz.prog k 54 1 (fun l : List Mem => [.sl .no 6 (cMs l)]) (fun l => wfMs l) (fun l => bMs l + 1) := fun {k} hk => by
      cases k with
      | zero => exact DecB.zero
      | succ k => exact decMs (ih k (by omega)).2
    refine ⟨?_, ?_⟩
    · cases m with
      | zero => exact DecB.zero
      | succ k =>
        exact DecB.struct (DecFsB.cons (by kernel_rfl) (DecB.int (k := .i64) Tryz.underlying3) (DecFsB.cons (by kernel_rfl) (DecB.int (k := .i64) Tryz.underlying2) (DecFsB.cons (by kernel_rfl) (DecB.str Tryz.underlying9) (DecFsB.cons (by kernel_rfl) (hs (by omega)) (DecFsB.cons (by kernel_rfl) (hm (by omega)) DecFsB.nil)))))
          (by kernel_rfl) (by kernel_rfl) cV wfV bV (fun x => .mk x.1 x.2.1 x.2.2.1 x.2.2.2.1 x.2.2.2.2.1) (fun a => rfl) (fun a h => ⟨inR_wf h.2.1, h.2.2.2.1, h.2.2.2.2.1⟩) (fun a => by simp only [bV]; omega)
    · cases m with
      | zero => exact DecB.zero
      | succ k =>
        exact DecB.struct (DecFsB.cons (by kernel_rfl) (DecB.str Tryz.underlying9) (DecFsB.cons (by kernel_rfl) (ih k (by omega)).1 DecFsB.nil))
          (by kernel_rfl) (by kernel_rfl) cM wfM bM (fun x => .mk x.1 x.2.1) (fun a => by simp [cM]) (fun a h => h.2.1) (fun a => by simp only [bM]; omega)
theorem decVA (m : Nat) : DV m := (dec m).1
theorem agg_of {W : World} {r : Reach} {b : Nat} {t : TypeId} {fs : Array Field} {v : Value} (ht : Tryz.prog.underlying t = some (.struct fs)) (h : Value.okWide Tryz.prog W r b t v) : ∃ cs, v = .agg cs := by
  unfold Value.okWide at h
  rw [ht] at h
  obtain ⟨cs, h, _⟩ := h
  exact ⟨cs, h⟩
theorem cond_bulk {H : Type} {s : ChangeSpec} {ds : List (DataW H)} (h : ∀ k, (Rows.OpenSpec.upto s).cond = some k → k H ds = true) : blkAll ds ≤ 1048576 := by
  have h1 : Rows.uptoSmall H ds = true := h _ rfl
  have h2 := of_decide_eq_true h1
  rwa [bulkAll_eq] at h2
end Go.Proofs.YticbbfbpeimkbaaGreatDoor
namespace Go.Proofs.YticbbfbpeimkbaaGreatDoor
open Go.Ab
def tipOf : Own → Option Nat
  | .tip b _ => some b
  | _ => none
structure Sep (H : Heap) (l : List (Own × Nat × Nat)) : Prop where
  own : ∀ x ∈ l, Owned H x.1 x.2.1 x.2.2
  nd : (l.filterMap fun x => tipOf x.1).Nodup
theorem tipOf_some {o : Own} {b : Nat} (h : tipOf o = some b) : ∃ d, o = .tip b d := by
  cases o <;> simp [tipOf] at h
  rename_i c d; subst h; exact ⟨d, rfl⟩
theorem Owned.ofKept {H H' : Heap} {o o2 : Own} {n sz : Nat} (h : Owned H o n sz) (hk : Kept H o2 H') (hne : ∀ b d d2, o = .tip b d → o2 ≠ .tip b d2) : Owned H' o n sz := by
  cases o with
  | tip b d => exact hk b _ h fun d2 e => hne b d d2 rfl e
  | no => exact h
  | nil => exact h
  | full => exact h
theorem Sep.step {H H' : Heap} {a b : List (Own × Nat × Nat)} {o o' : Own} {n n' sz : Nat} (h : Sep H (a ++ (o, n, sz) :: b)) (h' : OwnS H o H' o' n' sz) : Sep H' (a ++ (o', n', sz) :: b) := by
  have hnd := h.nd
  simp only [List.filterMap_append, List.filterMap_cons] at hnd
  have hother : ∀ x, x ∈ a ∨ x ∈ b → ∀ c d d2, x.1 = .tip c d → o ≠ .tip c d2 := fun x hx c d d2 hxe e => by
    subst e
    simp only [tipOf] at hnd
    rw [List.nodup_append] at hnd
    obtain ⟨_, hb, hab⟩ := hnd
    rcases hx with hx | hx
    · exact hab c (List.mem_filterMap.2 ⟨x, hx, by rw [hxe]⟩) c (List.mem_cons_self ..) rfl
    · exact (List.nodup_cons.1 hb).1 (List.mem_filterMap.2 ⟨x, hx, by rw [hxe]⟩)
  refine ⟨fun x hx => ?_, ?_⟩
  · rcases List.mem_append.1 hx with hx | hx
    · exact Owned.ofKept (h.own x (by simp [hx])) h'.kept fun c d d2 => hother x (.inl hx) c d d2
    · rcases List.mem_cons.1 hx with rfl | hx
      · exact h'.own
      · exact Owned.ofKept (h.own x (by simp [hx])) h'.kept fun c d d2 => hother x (.inr hx) c d d2
  · simp only [List.filterMap_append, List.filterMap_cons]
    have hsub : ∀ c, c ∈ a.filterMap (fun x => tipOf x.1) ∨ c ∈ b.filterMap (fun x => tipOf x.1) → tipOf o' ≠ some c := fun c hc e => by
      obtain ⟨d', e⟩ := tipOf_some e
      have hH : H c ≠ none ∧ ∀ d0, o ≠ .tip c d0 := by
        rcases hc with hc | hc <;> obtain ⟨x, hx, hxe⟩ := List.mem_filterMap.1 hc <;> obtain ⟨d, hxe⟩ := tipOf_some hxe
        · have := h.own x (by simp [hx]); rw [hxe] at this
          have h2 : H c = some _ := this
          exact ⟨by simp [h2], fun d0 => hother x (.inl hx) c d d0 hxe⟩
        · have := h.own x (by simp [hx]); rw [hxe] at this
          have h2 : H c = some _ := this
          exact ⟨by simp [h2], fun d0 => hother x (.inr hx) c d d0 hxe⟩
      rcases h'.new c d' e with h1 | ⟨d0, h1⟩
      · exact hH.1 h1
      · exact hH.2 d0 h1
    have hnd2 : (a.filterMap (fun x => tipOf x.1) ++ b.filterMap (fun x => tipOf x.1)).Nodup := by
      cases ho : tipOf o with
      | none => rw [ho] at hnd; exact hnd
      | some c =>
        rw [ho] at hnd
        rw [List.nodup_append] at hnd ⊢
        exact ⟨hnd.1, (List.nodup_cons.1 hnd.2.1).2, fun x hx y hy => hnd.2.2 x hx y (List.mem_cons_of_mem _ hy)⟩
    cases ho : tipOf o' with
    | none => exact hnd2
    | some c =>
      have hc := hsub c
      rw [List.nodup_append] at hnd2 ⊢
      refine ⟨hnd2.1, List.nodup_cons.2 ⟨fun hm => hc (.inr hm) ho, hnd2.2.1⟩, fun x hx y hy => ?_⟩
      rcases List.mem_cons.1 hy with rfl | hy
      · exact fun e => hc (.inl (e ▸ hx)) ho
      · exact hnd2.2.2 x hx y hy
theorem Sep.mono {H H' : Heap} {l : List (Own × Nat × Nat)} (h : Sep H l) (hk : ∀ c n sz, H c = some (.tip n sz) → H' c = some (.tip n sz)) : Sep H' l :=
  ⟨fun x hx => by
    have := h.own x hx
    obtain ⟨o, n, sz⟩ := x
    cases o with
    | tip c d => exact hk c _ _ this
    | no => exact this
    | nil => exact this
    | full => exact this, h.nd⟩
end Go.Proofs.YticbbfbpeimkbaaGreatDoor
namespace Go.Proofs.YticbbfbpeimkbaaGreatDoor
open Go.Ab Go.RowKit Go.Sort Go.Lib
theorem idxByteC (s : List UInt8) (c : UInt8) : Pure Tryz.prog 222 [.str s, .int .u8 c.toNat] (.int .i64 (Lib.indexByte s c)) := by
  refine Pure.of_calls fun γ w vs ht hv => ?_
  obtain ⟨hl, hr⟩ := hv
  match vs, hl with
  | [v, u], _ =>
    cases hr 0 _ _ rfl rfl
    cases hr 1 _ _ rfl rfl
    refine (Tryz.strings_IndexByte ⟨s.toArray⟩ c.toNat w).mono fun e w' ⟨he, hw⟩ => ⟨hw, _, he, ?_⟩
    have e1 : ((c.toNat : Int)).toNat.toUInt8 = c := by simp
    rw [e1]
    exact .int _ _
theorem containsC1 (s : List UInt8) (c : UInt8) : Pure Tryz.prog 209 [.str s, .str [c]] (.bool (decide (0 ≤ Lib.indexByte s c))) := by
  refine Pure.of_calls fun γ w vs ht hv => ?_
  obtain ⟨hl, hr⟩ := hv
  match vs, hl with
  | [v, u], _ =>
    cases hr 0 _ _ rfl rfl
    cases hr 1 _ _ rfl rfl
    exact (Tryz.strings_Contains_one ⟨s.toArray⟩ c w).mono fun e w' ⟨he, hw⟩ => ⟨hw, _, he, .bool _⟩
end Go.Proofs.YticbbfbpeimkbaaGreatDoor
namespace Go.Proofs.YticbbfbpeimkbaaGreatDoor
open Go.Ab
def hexL : List UInt8 := [48, 49, 50, 51, 52, 53, 54, 55, 56, 57, 97, 98, 99, 100, 101, 102]
def hexD (c : UInt8) : Option Nat := if Lib.indexByte hexL (c ||| 32) < 0 ∨ c.toNat < 48 ∨ (57 < c.toNat ∧ c.toNat < 65) then none else some (Lib.indexByte hexL (c ||| 32)).toNat
def unitG : Nat → List UInt8 → Nat → Option Nat
  | 0, _, u => some u
  | _ + 1, [], _ => none
  | n + 1, c :: t, u => match hexD c with
    | none => none
    | some k => unitG n t (16 * u + k)
def unitM (s : List UInt8) : Option Nat := unitG 4 s 0
def encM (n : Nat) : List UInt8 :=
  if n ≤ 127 then [UInt8.ofNat n]
  else if n ≤ 2047 then [UInt8.ofNat (192 + n / 64), UInt8.ofNat (128 + n % 64)]
  else if n ≤ 65535 then [UInt8.ofNat (224 + n / 4096), UInt8.ofNat (128 + n / 64 % 64), UInt8.ofNat (128 + n % 64)]
  else [UInt8.ofNat (240 + n / 262144), UInt8.ofNat (128 + n / 4096 % 64), UInt8.ofNat (128 + n / 64 % 64), UInt8.ofNat (128 + n % 64)]
def joinM : List Nat → Option (List UInt8)
  | [] => some []
  | u :: r => if 65535 < u ∨ (56320 ≤ u ∧ u ≤ 57343) then none
    else if 55296 ≤ u ∧ u < 56320 then match r with
      | [] => none
      | v :: r => if v < 56320 ∨ 57343 < v then none else (joinM r).map (encM (65536 + 1024 * (u - 55296) + (v - 56320)) ++ ·)
    else (joinM r).map (encM u ++ ·)
structure Sd where
  b : List UInt8
  u : List Nat
  ok : Bool
def flushM (q : Sd) : Sd := ⟨q.b ++ (joinM q.u).getD [], [], q.ok && (joinM q.u).isSome⟩
def Sd.put (q : Sd) (c : UInt8) : Sd := ⟨(flushM q).b ++ [c], [], (flushM q).ok⟩
def escL : List UInt8 := [34, 92, 47, 98, 102, 110, 114, 116]
def escV : List UInt8 := [34, 92, 47, 8, 12, 10, 13, 9]
def escM (q : Sd) : List UInt8 → Option (Sd × List UInt8)
  | [] => none
  | c :: t => if c = 117 then (unitM t).map fun u => (⟨q.b, q.u ++ [u], q.ok⟩, t.drop 4)
    else if Lib.indexByte escL c < 0 then none else some (q.put (escV.getD (Lib.indexByte escL c).toNat 0), t)
def quoG (may : UInt8 → Bool) : Nat → List UInt8 → Sd → Option (Sd × List UInt8)
  | 0, _, _ => none
  | _ + 1, [], _ => none
  | n + 1, c :: t, q => if c = 34 then some (flushM q, t)
    else if c = 92 then match escM q t with
      | none => none
      | some (q', t') => quoG may n t' q'
    else if may c then quoG may n t (q.put c) else none
def quoM (may : UInt8 → Bool) (t : List UInt8) : Option (List UInt8 × List UInt8) := match quoG may (t.length + 1) t ⟨[], [], true⟩ with
  | some (q, t') => if q.ok then some (q.b, t') else none
  | none => none
def hiB (c : UInt8) : Bool := decide (32 ≤ c.toNat)
def bk (c : UInt8) : Bool := decide (0 ≤ Lib.indexByte [9, 10, 13, 32] c)
def skB : List UInt8 → List UInt8
  | [] => []
  | c :: t => if bk c then skB t else c :: t
def nch (c : UInt8) : Bool := decide (0 ≤ Lib.indexByte [48, 49, 50, 51, 52, 53, 54, 55, 56, 57, 43, 45, 46, 101, 69] c)
def nst (c : UInt8) : Bool := decide (0 ≤ Lib.indexByte [45, 48, 49, 50, 51, 52, 53, 54, 55, 56, 57] c)
abbrev RR (α : Type) := Except Int (α × List UInt8)
def RR.bind {α β : Type} (x : RR α) (f : α → List UInt8 → RR β) : RR β := match x with
  | .ok (a, t) => f a t
  | .error e => .error e
def mayM (p t : List UInt8) : Option (List UInt8) := if p.isPrefixOf (skB t) then some ((skB t).drop p.length) else none
def mustM (p t : List UInt8) : RR Unit := match mayM p t with
  | some t' => .ok ((), t')
  | none => .error 2
def textM (t : List UInt8) : RR (List UInt8) := if [34].isPrefixOf (skB t) then match quoM hiB (skB t).tail with
    | some x => .ok x
    | none => .error 2
  else .error 2
def nullV : Val := .mk 0 0 [] [] []
def numV (s : List UInt8) : Val := if wholeB s then .mk 2 (valI s) [] [] [] else .mk 3 0 s [] []
def numM (t : List UInt8) : RR Val := if numK (t.takeWhile nch) = 0 then .error 2 else .ok (numV (t.takeWhile nch), t.dropWhile nch)
def itemsM (p : List UInt8 → RR Val) : Nat → List Val → List UInt8 → RR (List Val)
  | 0, _, _ => .error 2
  | n + 1, l, t => match mayM [93] t with
    | some t' => .ok (l, t')
    | none => (mustM [44] t).bind fun _ t => (p t).bind fun v t => itemsM p n (l ++ [v]) t
def listM (p : List UInt8 → RR Val) (t : List UInt8) : RR Val := match mayM [93] t with
  | some t' => .ok (.mk 6 0 [] [] [], t')
  | none => (p t).bind fun v t => (itemsM p (t.length + 1) [v] t).bind fun l t => .ok (.mk 6 0 [] l [], t)
def hasN (s : List UInt8) : List Mem → Bool
  | [] => false
  | .mk t _ :: r => decide (t = s) || hasN s r
def memberM (p : List UInt8 → RR Val) (l : List Mem) (t : List UInt8) : RR (List Mem) :=
  (textM t).bind fun s t => if hasN s l then .error 5 else (mustM [58] t).bind fun _ t => (p t).bind fun v t => .ok (l ++ [.mk s v], t)
def membersM (p : List UInt8 → RR Val) : Nat → List Mem → List UInt8 → RR (List Mem)
  | 0, _, _ => .error 2
  | n + 1, l, t => match mayM [125] t with
    | some t' => .ok (l, t')
    | none => (mustM [44] t).bind fun _ t => (memberM p l t).bind fun l t => membersM p n l t
def mapM (p : List UInt8 → RR Val) (t : List UInt8) : RR Val := match mayM [125] t with
  | some t' => .ok (.mk 7 0 [] [] [], t')
  | none => (memberM p [] t).bind fun l t => (membersM p (t.length + 1) l t).bind fun l t => .ok (.mk 7 0 [] [] l, t)
def wordM (t : List UInt8) : RR Val := match mayM [110, 117, 108, 108] t with
  | some t' => .ok (nullV, t')
  | none => match mayM [116, 114, 117, 101] t with
    | some t' => .ok (.mk 1 1 [] [] [], t')
    | none => (mustM [102, 97, 108, 115, 101] t).bind fun _ t => .ok (.mk 1 0 [] [] [], t)
def headM (t : List UInt8) (p : List UInt8 → RR Val) : RR Val := match t with
  | [] => wordM []
  | c :: r => if c = 123 then mapM p r else if c = 91 then listM p r
    else if c = 34 then (textM (c :: r)).bind fun s t => .ok (.mk 4 0 s [] [], t)
    else if nst c then numM (c :: r) else wordM (c :: r)
def deepM (_ : List UInt8) : RR Val := .error 4
def valM : Nat → List UInt8 → RR Val
  | 0, t => if (skB t).head? = some 123 ∨ (skB t).head? = some 91 then .error 4 else headM (skB t) deepM
  | n + 1, t => headM (skB t) (valM n)
theorem escM_suf {q q' : Sd} {t t' : List UInt8} (h : escM q t = some (q', t')) : t' <:+ t ∧ t'.length < t.length := by
  cases t with
  | nil => cases h
  | cons c t =>
    simp only [escM] at h
    split at h
    · cases hu : unitM t with
      | none => simp [hu] at h
      | some u =>
        simp only [hu, Option.map_some, Option.some.injEq, Prod.mk.injEq] at h
        obtain ⟨_, rfl⟩ := h
        exact ⟨(List.drop_suffix _ _).trans (List.suffix_cons ..), by simp; omega⟩
    · split at h
      · cases h
      · simp only [Option.some.injEq, Prod.mk.injEq] at h
        obtain ⟨_, rfl⟩ := h
        exact ⟨List.suffix_cons .., by simp⟩
theorem quoG_suf {may : UInt8 → Bool} : ∀ (n : Nat) (t : List UInt8) (q q' : Sd) (t' : List UInt8), quoG may n t q = some (q', t') → t' <:+ t ∧ t'.length < t.length
  | 0, _, _, _, _, h => by cases h
  | _ + 1, [], _, _, _, h => by cases h
  | n + 1, c :: t, q, q', t', h => by
    simp only [quoG] at h
    split at h
    · simp only [Option.some.injEq, Prod.mk.injEq] at h
      obtain ⟨_, rfl⟩ := h
      exact ⟨List.suffix_cons .., by simp⟩
    · split at h
      · cases he : escM q t with
        | none => simp [he] at h
        | some x =>
          obtain ⟨q1, t1⟩ := x
          simp only [he] at h
          have h1 := escM_suf he
          have h2 := quoG_suf n t1 q1 q' t' h
          exact ⟨(h2.1.trans h1.1).trans (List.suffix_cons ..), by simp; omega⟩
      · split at h
        · have h2 := quoG_suf n t _ q' t' h
          exact ⟨h2.1.trans (List.suffix_cons ..), by simp; omega⟩
        · cases h
theorem quoM_suf {may : UInt8 → Bool} {t t' b : List UInt8} (h : quoM may t = some (b, t')) : t' <:+ t ∧ t'.length < t.length := by
  unfold quoM at h
  split at h
  · rename_i q t1 hq
    split at h
    · cases h; exact quoG_suf _ _ _ _ _ hq
    · cases h
  · cases h
end Go.Proofs.YticbbfbpeimkbaaGreatDoor
namespace Go.Proofs.YticbbfbpeimkbaaGreatDoor
open Go.Ab
theorem unitG_len : ∀ (n : Nat) (t : List UInt8) (u v : Nat), unitG n t u = some v → n ≤ t.length
  | 0, _, _, _, _ => Nat.zero_le _
  | n + 1, [], _, _, h => by cases h
  | n + 1, c :: t, u, v, h => by
    simp only [unitG] at h
    split at h
    · cases h
    · have := unitG_len n t _ v h; simp; omega
theorem encM_len (n : Nat) : (encM n).length ≤ 4 ∧ (n ≤ 65535 → (encM n).length ≤ 3) := by
  unfold encM
  split
  · simp
  · split
    · simp
    · split
      · simp
      · refine ⟨by simp, fun h => by omega⟩
theorem joinM_len : ∀ (u : List Nat) (s : List UInt8), joinM u = some s → s.length ≤ 3 * u.length
  | [], s, h => by cases h; simp
  | u :: [], s, h => by
    simp only [joinM] at h
    split at h
    · cases h
    · rename_i h1
      split at h
      · cases h
      · simp only [Option.map_some, Option.some.injEq] at h
        subst h
        have := (encM_len u).2 (by omega)
        simp; omega
  | u :: v :: r, s, h => by
    rw [joinM] at h
    split at h
    · cases h
    · rename_i h1
      split at h
      · split at h
        · cases h
        · cases hr : joinM r with
          | none => simp [hr] at h
          | some x =>
            simp only [hr, Option.map_some, Option.some.injEq] at h
            subst h
            have h2 := joinM_len r x hr
            have h3 := (encM_len (65536 + 1024 * (u - 55296) + (v - 56320))).1
            simp only [List.length_append, List.length_cons]; omega
      · cases hr : joinM (v :: r) with
        | none => simp [hr] at h
        | some x =>
          simp only [hr, Option.map_some, Option.some.injEq] at h
          subst h
          have h2 := joinM_len (v :: r) x hr
          have h3 := (encM_len u).2 (by omega)
          simp only [List.length_append, List.length_cons] at h2 ⊢; omega
def Sd.w (q : Sd) : Nat := q.b.length + 3 * q.u.length
theorem flush_w (q : Sd) : (flushM q).b.length ≤ q.w := by
  unfold flushM Sd.w
  cases h : joinM q.u with
  | none => simp
  | some s => have := joinM_len _ _ h; simp; omega
theorem put_w (q : Sd) (c : UInt8) : (q.put c).w ≤ q.w + 1 := by
  have := flush_w q
  simp only [Sd.put, Sd.w, List.length_append, List.length_cons, List.length_nil] at this ⊢; omega
theorem escM_w {q q' : Sd} {t t' : List UInt8} (h : escM q t = some (q', t')) : q'.w + t'.length ≤ q.w + t.length := by
  cases t with
  | nil => cases h
  | cons c t =>
    simp only [escM] at h
    split at h
    · cases hu : unitM t with
      | none => simp [hu] at h
      | some u =>
        simp only [hu, Option.map_some, Option.some.injEq, Prod.mk.injEq] at h
        obtain ⟨rfl, rfl⟩ := h
        have := unitG_len _ _ _ _ hu
        simp only [Sd.w, List.length_append, List.length_cons, List.length_nil, List.length_drop]; omega
    · split at h
      · cases h
      · simp only [Option.some.injEq, Prod.mk.injEq] at h
        obtain ⟨rfl, rfl⟩ := h
        have := put_w q (escV.getD (Lib.indexByte escL c).toNat 0)
        simp only [List.length_cons]; omega
end Go.Proofs.YticbbfbpeimkbaaGreatDoor
namespace Go.Proofs.YticbbfbpeimkbaaGreatDoor
open Go.Ab
theorem bytesOf_len (l : List UInt8) : (bytesOf l).length = l.length := by simp [bytesOf]
theorem bytesOf_app (a b : List UInt8) : bytesOf a ++ bytesOf b = bytesOf (a ++ b) := by simp [bytesOf]
theorem bytesOf_strip (l : List UInt8) : (bytesOf l).map (·.map AV.strip1) = bytesOf l := by simp [bytesOf, AV.strip1]
theorem byts_of (l : List UInt8) : byts (bytesOf l) = some l := by
  induction l with
  | nil => rfl
  | cons c r ih =>
    have h := c.toNat_lt
    simp only [bytesOf, List.map_cons] at ih ⊢
    simp only [byts, ih, Option.map_some]
    rw [if_pos ⟨by omega, by omega⟩]
    simp
theorem bytesOf_one (acc : List UInt8) (c : UInt8) : bytesOf acc ++ [[.int .u8 c.toNat]] = bytesOf (acc ++ [c]) := bytesOf_app acc [c]
theorem bytesOf_two (acc : List UInt8) (c d : UInt8) : bytesOf acc ++ [[.int .u8 c.toNat], [.int .u8 d.toNat]] = bytesOf (acc ++ [c, d]) := bytesOf_app acc [c, d]
theorem wr32 {n : Nat} (h : n < 4294967296) : IntKind.wrap .u32 (n : Int) = n := by
  have e : IntKind.wrap .u32 (n : Int) = (n : Int) % 4294967296 := rfl
  rw [e]; omega
theorem wri32 {n : Nat} (h : n < 2147483648) : IntKind.wrap .i32 (n : Int) = n := by
  have e : IntKind.wrap .i32 (n : Int) = if (n : Int) % 4294967296 ≥ 2147483648 then (n : Int) % 4294967296 - 4294967296 else (n : Int) % 4294967296 := by
    simp [IntKind.wrap, IntKind.bits, IntKind.signed]
  rw [e]; split <;> omega
theorem wr8 (n : Nat) : IntKind.wrap .u8 (n : Int) = ((n % 256 : Nat) : Int) := by
  have e : IntKind.wrap .u8 (n : Int) = (n : Int) % 256 := rfl
  rw [e]; omega
theorem fd6 (n : Nat) : (n : Int).fdiv (2 ^ min 6 IntKind.i32.bits) = ((n / 64 : Nat) : Int) := by
  show (n : Int).fdiv 64 = _
  rw [Int.fdiv_eq_ediv_of_nonneg _ (by decide)]; omega
theorem fd12 (n : Nat) : (n : Int).fdiv (2 ^ min 12 IntKind.i32.bits) = ((n / 4096 : Nat) : Int) := by
  show (n : Int).fdiv 4096 = _
  rw [Int.fdiv_eq_ediv_of_nonneg _ (by decide)]; omega
theorem fd18 (n : Nat) : (n : Int).fdiv (2 ^ min 18 IntKind.i32.bits) = ((n / 262144 : Nat) : Int) := by
  show (n : Int).fdiv 262144 = _
  rw [Int.fdiv_eq_ediv_of_nonneg _ (by decide)]; omega
theorem leadT : ∀ x : Fin 32, IntKind.wrap .u8 ((BitVec.ofInt IntKind.u8.bits 192 ||| BitVec.ofInt IntKind.u8.bits ((x.val : Nat) : Int)).toNat : Int) = ((UInt8.ofNat (192 + x.val)).toNat : Int) := by decide +kernel
theorem leadU : ∀ x : Fin 16, IntKind.wrap .u8 ((BitVec.ofInt IntKind.u8.bits 224 ||| BitVec.ofInt IntKind.u8.bits ((x.val : Nat) : Int)).toNat : Int) = ((UInt8.ofNat (224 + x.val)).toNat : Int) := by decide +kernel
theorem leadV : ∀ x : Fin 8, IntKind.wrap .u8 ((BitVec.ofInt IntKind.u8.bits 240 ||| BitVec.ofInt IntKind.u8.bits ((x.val : Nat) : Int)).toNat : Int) = ((UInt8.ofNat (240 + x.val)).toNat : Int) := by decide +kernel
theorem contT : ∀ x : Fin 256, IntKind.wrap .u8 ((BitVec.ofInt IntKind.u8.bits 128 ||| BitVec.ofInt IntKind.u8.bits (IntKind.wrap .u8 ((BitVec.ofInt IntKind.u8.bits ((x.val : Nat) : Int) &&& BitVec.ofInt IntKind.u8.bits 63).toNat : Int))).toNat : Int) = ((UInt8.ofNat (128 + x.val % 64)).toNat : Int) := by decide +kernel
theorem lead2 {m : Nat} (h : m < 32) : IntKind.wrap .u8 ((BitVec.ofInt IntKind.u8.bits 192 ||| BitVec.ofInt IntKind.u8.bits (IntKind.wrap .u8 (m : Int))).toNat : Int) = ((UInt8.ofNat (192 + m)).toNat : Int) := by
  rw [wr8 m, Nat.mod_eq_of_lt (show m < 256 by omega)]; exact leadT ⟨m, h⟩
theorem lead3 {m : Nat} (h : m < 16) : IntKind.wrap .u8 ((BitVec.ofInt IntKind.u8.bits 224 ||| BitVec.ofInt IntKind.u8.bits (IntKind.wrap .u8 (m : Int))).toNat : Int) = ((UInt8.ofNat (224 + m)).toNat : Int) := by
  rw [wr8 m, Nat.mod_eq_of_lt (show m < 256 by omega)]; exact leadU ⟨m, h⟩
theorem lead4 {m : Nat} (h : m < 8) : IntKind.wrap .u8 ((BitVec.ofInt IntKind.u8.bits 240 ||| BitVec.ofInt IntKind.u8.bits (IntKind.wrap .u8 (m : Int))).toNat : Int) = ((UInt8.ofNat (240 + m)).toNat : Int) := by
  rw [wr8 m, Nat.mod_eq_of_lt (show m < 256 by omega)]; exact leadV ⟨m, h⟩
theorem cont (m : Nat) : IntKind.wrap .u8 ((BitVec.ofInt IntKind.u8.bits 128 ||| BitVec.ofInt IntKind.u8.bits (IntKind.wrap .u8 ((BitVec.ofInt IntKind.u8.bits (IntKind.wrap .u8 (m : Int)) &&& BitVec.ofInt IntKind.u8.bits 63).toNat : Int))).toNat : Int) = ((UInt8.ofNat (128 + m % 64)).toNat : Int) := by
  rw [wr8 m]
  have := contT ⟨m % 256, Nat.mod_lt _ (by decide)⟩
  simp only at this
  rw [this, Nat.mod_mod_of_dvd m (by decide)]
theorem appNon (n : Nat) (h0 : 127 < n) (h1 : n ≤ 1114111) (h2 : ¬ (55296 ≤ n ∧ n ≤ 57343)) (acc : List UInt8) (H : Heap) (o : Own) (ho : Owned H o acc.length 1) (hb : acc.length ≤ Lim) :
    Gives Tryz.prog 356 [.sl o 1 (bytesOf acc), .int .i32 n] H o 1 (bytesOf (acc ++ encM n)) := by
  refine ACalls.goO ir356 ck356 (Nat.le_refl _) fun KP Q hQ hP => ?_
  have e1 := wr32 (n := n) (by omega)
  have hal := bytesOf_len acc
  simp only [Lim] at hb
  have ho' : Owned H o (bytesOf acc).length 1 := by rw [hal]; exact ho
  have fin : ∀ (e : List UInt8) o' H', encM n = e → OwnS H o H' o' ((bytesOf acc).length + e.length) 1 → OwnR H o 1 (bytesOf (acc ++ encM n)) (.sl o' 1 (bytesOf acc ++ bytesOf e)) H' := fun e o' H' he hs => by
    rw [he]; exact ⟨o', by rw [bytesOf_app], by rw [bytesOf_len, List.length_append]; rw [hal] at hs; exact hs⟩
  by_cases h3 : n ≤ 2047
  · have g1 : ((n : Int) ≤ 2047) = True := eq_true (by omega)
    simp (disch := first | omega | assumption) only [ir356, e1, g1, steps, st2, pev, rev, oev, optr, ibin, sbin, ishf, bound, mmAll, mm2, mk, mkArgs, AV.cells, AV.boxable, AV.one, AV.strip1, fillA, fillS, Nat.reduceEqDiff, reduceCtorEq, ↓reduceIte, Nat.reduceAdd, Int.reduceNeg, Nat.reduceLeDiff, Int.reduceToNat, Int.reduceEq, Int.reduceLT, Int.reduceLE, Int.reduceAdd]
    simp only [fd6, lead2 (show n / 64 < 32 by omega), cont]
    refine goP_ownS ho' (by simp [hal]; omega) (by simp [hal, maxLen]; omega) fun o' H' hs => ?_
    simp (disch := first | omega | assumption) only [steps, st2, pev, rev, oev, optr, ibin, sbin, ishf, bound, mmAll, mm2, mk, mkArgs, AV.cells, AV.boxable, AV.one, AV.strip1, fillA, fillS, Nat.reduceEqDiff, reduceCtorEq, ↓reduceIte, Nat.reduceAdd, Int.reduceNeg, Nat.reduceLeDiff, Int.reduceToNat, Int.reduceEq, Int.reduceLT, Int.reduceLE, Int.reduceAdd]
    exact hQ _ _ H' H' [_] nofun rfl (Low.refl _) (fin [_, _] o' H' (by unfold encM; rw [if_neg (by omega), if_pos h3]) hs)
  · have g1 : ¬ ((n : Int) ≤ 2047) := by omega
    by_cases h4 : n ≤ 65535
    · by_cases h5 : n < 55296
      · have g2 : ((n : Int) < 55296) = True := eq_true (by omega)
        simp (disch := first | omega | assumption) only [ir356, e1, g1, g2, steps, st2, pev, rev, oev, optr, ibin, sbin, ishf, bound, mmAll, mm2, mk, mkArgs, AV.cells, AV.boxable, AV.one, AV.strip1, fillA, fillS, Nat.reduceEqDiff, reduceCtorEq, ↓reduceIte, Nat.reduceAdd, Int.reduceNeg, Nat.reduceLeDiff, Int.reduceToNat, Int.reduceEq, Int.reduceLT, Int.reduceLE, Int.reduceAdd]
        simp only [fd6, fd12, lead3 (show n / 4096 < 16 by omega), cont]
        refine goP_ownS ho' (by simp [hal]; omega) (by simp [hal, maxLen]; omega) fun o' H' hs => ?_
        simp (disch := first | omega | assumption) only [steps, st2, pev, rev, oev, optr, ibin, sbin, ishf, bound, mmAll, mm2, mk, mkArgs, AV.cells, AV.boxable, AV.one, AV.strip1, fillA, fillS, Nat.reduceEqDiff, reduceCtorEq, ↓reduceIte, Nat.reduceAdd, Int.reduceNeg, Nat.reduceLeDiff, Int.reduceToNat, Int.reduceEq, Int.reduceLT, Int.reduceLE, Int.reduceAdd]
        exact hQ _ _ H' H' [_] nofun rfl (Low.refl _) (fin [_, _, _] o' H' (by unfold encM; rw [if_neg (by omega), if_neg h3, if_pos h4]) hs)
      · have g2 : ¬ ((n : Int) < 55296) := by omega
        have g3 : ((57343 : Int) < n) = True := eq_true (by omega)
        have g4 : ((n : Int) ≤ 65535) = True := eq_true (by omega)
        simp (disch := first | omega | assumption) only [ir356, e1, g1, g2, g3, g4, steps, st2, pev, rev, oev, optr, ibin, sbin, ishf, bound, mmAll, mm2, mk, mkArgs, AV.cells, AV.boxable, AV.one, AV.strip1, fillA, fillS, Nat.reduceEqDiff, reduceCtorEq, ↓reduceIte, Nat.reduceAdd, Int.reduceNeg, Nat.reduceLeDiff, Int.reduceToNat, Int.reduceEq, Int.reduceLT, Int.reduceLE, Int.reduceAdd]
        simp only [fd6, fd12, lead3 (show n / 4096 < 16 by omega), cont]
        refine goP_ownS ho' (by simp [hal]; omega) (by simp [hal, maxLen]; omega) fun o' H' hs => ?_
        simp (disch := first | omega | assumption) only [steps, st2, pev, rev, oev, optr, ibin, sbin, ishf, bound, mmAll, mm2, mk, mkArgs, AV.cells, AV.boxable, AV.one, AV.strip1, fillA, fillS, Nat.reduceEqDiff, reduceCtorEq, ↓reduceIte, Nat.reduceAdd, Int.reduceNeg, Nat.reduceLeDiff, Int.reduceToNat, Int.reduceEq, Int.reduceLT, Int.reduceLE, Int.reduceAdd]
        exact hQ _ _ H' H' [_] nofun rfl (Low.refl _) (fin [_, _, _] o' H' (by unfold encM; rw [if_neg (by omega), if_neg h3, if_pos h4]) hs)
    · have g2 : ¬ ((n : Int) < 55296) := by omega
      have g3 : ((57343 : Int) < n) = True := eq_true (by omega)
      have g4 : ¬ ((n : Int) ≤ 65535) := by omega
      have g5 : ((65535 : Int) < n) = True := eq_true (by omega)
      have g6 : ((n : Int) ≤ 1114111) = True := eq_true (by omega)
      simp (disch := first | omega | assumption) only [ir356, e1, g1, g2, g3, g4, g5, g6, steps, st2, pev, rev, oev, optr, ibin, sbin, ishf, bound, mmAll, mm2, mk, mkArgs, AV.cells, AV.boxable, AV.one, AV.strip1, fillA, fillS, Nat.reduceEqDiff, reduceCtorEq, ↓reduceIte, Nat.reduceAdd, Int.reduceNeg, Nat.reduceLeDiff, Int.reduceToNat, Int.reduceEq, Int.reduceLT, Int.reduceLE, Int.reduceAdd]
      simp only [fd6, fd12, fd18, lead4 (show n / 262144 < 8 by omega), cont]
      refine goP_ownS ho' (by simp [hal]; omega) (by simp [hal, maxLen]; omega) fun o' H' hs => ?_
      simp (disch := first | omega | assumption) only [steps, st2, pev, rev, oev, optr, ibin, sbin, ishf, bound, mmAll, mm2, mk, mkArgs, AV.cells, AV.boxable, AV.one, AV.strip1, fillA, fillS, Nat.reduceEqDiff, reduceCtorEq, ↓reduceIte, Nat.reduceAdd, Int.reduceNeg, Nat.reduceLeDiff, Int.reduceToNat, Int.reduceEq, Int.reduceLT, Int.reduceLE, Int.reduceAdd]
      exact hQ _ _ H' H' [_] nofun rfl (Low.refl _) (fin [_, _, _, _] o' H' (by unfold encM; rw [if_neg (by omega), if_neg h3, if_neg h4]) hs)
theorem appRune (n : Nat) (h1 : n ≤ 1114111) (h2 : ¬ (55296 ≤ n ∧ n ≤ 57343)) (acc : List UInt8) (H : Heap) (o : Own) (ho : Owned H o acc.length 1) (hb : acc.length ≤ Lim) :
    Gives Tryz.prog 346 [.sl o 1 (bytesOf acc), .int .i32 n] H o 1 (bytesOf (acc ++ encM n)) := by
  refine ACalls.goO ir346 ck346 (Nat.le_refl _) fun KP Q hQ hP => ?_
  have e1 := wr32 (n := n) (by omega)
  have hal := bytesOf_len acc
  by_cases h3 : n ≤ 127
  · have g1 : ((n : Int) ≤ 127) = True := eq_true (by omega)
    have g2 : IntKind.wrap .u8 (n : Int) = ((UInt8.ofNat n).toNat : Int) := by rw [wr8]; simp
    simp only [Lim] at hb
    simp (disch := first | omega | assumption) only [ir346, e1, g1, g2, steps, st2, pev, rev, oev, optr, ibin, sbin, ishf, bound, mmAll, mm2, mk, mkArgs, AV.cells, AV.boxable, AV.one, AV.strip1, fillA, fillS, Nat.reduceEqDiff, reduceCtorEq, ↓reduceIte, Nat.reduceAdd, Int.reduceNeg, Nat.reduceLeDiff, Int.reduceToNat, Int.reduceEq, Int.reduceLT, Int.reduceLE, Int.reduceAdd]
    refine goP_ownS (by rw [hal]; exact ho) (by simp [hal]; omega) (by simp [hal, maxLen]; omega) fun o' H' hs => ?_
    simp (disch := first | omega | assumption) only [steps, st2, pev, rev, oev, optr, ibin, sbin, ishf, bound, mmAll, mm2, mk, mkArgs, AV.cells, AV.boxable, AV.one, AV.strip1, fillA, fillS, Nat.reduceEqDiff, reduceCtorEq, ↓reduceIte, Nat.reduceAdd, Int.reduceNeg, Nat.reduceLeDiff, Int.reduceToNat, Int.reduceEq, Int.reduceLT, Int.reduceLE, Int.reduceAdd]
    refine hQ _ _ H' H' [_] nofun rfl (Low.refl _) ⟨o', ?_, ?_⟩
    · have : encM n = [UInt8.ofNat n] := by unfold encM; rw [if_pos h3]
      rw [this]; exact congrArg _ (bytesOf_one _ _)
    · have : encM n = [UInt8.ofNat n] := by unfold encM; rw [if_pos h3]
      rw [this, bytesOf_len]; simpa [hal] using hs
  · have g1 : ¬ ((n : Int) ≤ 127) := by omega
    simp (disch := first | omega | assumption) only [ir346, e1, g1, steps, st2, pev, rev, oev, optr, ibin, sbin, ishf, bound, mmAll, mm2, mk, mkArgs, AV.cells, AV.boxable, AV.one, AV.strip1, fillA, fillS, Nat.reduceEqDiff, reduceCtorEq, ↓reduceIte, Nat.reduceAdd, Int.reduceNeg, Nat.reduceLeDiff, Int.reduceToNat, Int.reduceEq, Int.reduceLT, Int.reduceLE, Int.reduceAdd]
    refine goK_gives (appNon n (by omega) h1 h2 acc H o ho hb) fun o' H' hs => ?_
    simp (disch := first | omega | assumption) only [steps, st2, pev, rev, oev, optr, ibin, sbin, ishf, bound, mmAll, mm2, mk, mkArgs, AV.cells, AV.boxable, AV.one, AV.strip1, fillA, fillS, Nat.reduceEqDiff, reduceCtorEq, ↓reduceIte, Nat.reduceAdd, Int.reduceNeg, Nat.reduceLeDiff, Int.reduceToNat, Int.reduceEq, Int.reduceLT, Int.reduceLE, Int.reduceAdd]
    exact hQ _ _ H' H' [_] nofun rfl (Low.refl _) ⟨o', rfl, hs⟩
end Go.Proofs.YticbbfbpeimkbaaGreatDoor
namespace Go.Proofs.YticbbfbpeimkbaaGreatDoor
open Go.Ab
theorem or32T : ∀ x : Fin 256, IntKind.wrap .u8 ((BitVec.ofInt IntKind.u8.bits ((x.val : Nat) : Int) ||| BitVec.ofInt IntKind.u8.bits 32).toNat : Int) = ((UInt8.ofNat x.val ||| 32).toNat : Int) := by decide +kernel
theorem or32 (c : UInt8) : IntKind.wrap .u8 ((BitVec.ofInt IntKind.u8.bits (c.toNat : Int) ||| BitVec.ofInt IntKind.u8.bits 32).toNat : Int) = ((c ||| 32).toNat : Int) := by
  have := or32T ⟨c.toNat, c.toNat_lt⟩
  simpa using this
theorem idx_le (l : List UInt8) (c : UInt8) : -1 ≤ Lib.indexByte l c ∧ Lib.indexByte l c < l.length := by
  induction l with
  | nil => simp [Lib.indexByte]
  | cons x r ih =>
    simp only [Lib.indexByte, List.length_cons]
    split
    · omega
    · split
      · omega
      · omega
theorem unitC (s : List UInt8) (hs : s.length ≤ Lim) : Pure Tryz.prog 326 [.str s] (.tup [.int .i64 ((unitM s).getD 0 : Nat), .bool (unitM s).isSome]) := by
  refine Pure.go ir326 ck326 (Nat.le_refl _) fun KP Q hQ => ?_
  simp only [Lim] at hs
  by_cases h4 : s.length < 4
  · have g1 : ((s.length : Int) < 4) = True := eq_true (by omega)
    have : unitM s = none := by
      cases h : unitM s with
      | none => rfl
      | some u => have := unitG_len _ _ _ _ h; omega
    simp (disch := first | omega | assumption) only [ir326, g1, steps, st2, pev, rev, oev, optr, ibin, sbin, ishf, bound, mmAll, mm2, mk, mkArgs, AV.cells, AV.boxable, AV.one, AV.strip1, fillA, fillS, Nat.reduceEqDiff, reduceCtorEq, ↓reduceIte, Nat.reduceAdd, Int.reduceNeg, Nat.reduceLeDiff, Int.reduceToNat, Int.reduceEq, Int.reduceLT, Int.reduceLE, Int.reduceAdd]
    exact hQ _ _ _ _ nofun rfl (by simp [tupOf, envOf, AV.strip, AV.strip1, this])
  · have g1 : ¬ ((s.length : Int) < 4) := by omega
    obtain ⟨l, r, hl, hsr⟩ : ∃ l r : List UInt8, l.length = 4 ∧ s = l ++ r := ⟨s.take 4, s.drop 4, by simp; omega, by simp⟩
    have hl' : (l.length : Int) = 4 := by omega
    have key : ∀ (a b : List UInt8) (u : Nat), l = a ++ b → unitG b.length (b ++ r) u = unitG (4 - a.length) (s.drop a.length) u := fun a b u h => by
      have : a.length + b.length = 4 := by rw [← hl, h]; simp
      rw [hsr, h, List.append_assoc, List.drop_left]; congr 1; omega
    simp (disch := first | omega | assumption) only [ir326, g1, steps, st2, pev, rev, oev, optr, ibin, sbin, ishf, bound, mmAll, mm2, mk, mkArgs, AV.cells, AV.boxable, AV.one, AV.strip1, fillA, fillS, Nat.reduceEqDiff, reduceCtorEq, ↓reduceIte, Nat.reduceAdd, Int.reduceNeg, Nat.reduceLeDiff, Int.reduceToNat, Int.reduceEq, Int.reduceLT, Int.reduceLE, Int.reduceAdd]
    refine goL_range l 10 (fun u : Nat => [(4, .int .i64 u)]) (fun done rest u H => unitG rest.length (rest ++ r) u = unitM s ∧ u < 16 ^ done.length ∧ H = Heap.emp) 0 (by simp (disch := first | omega | assumption) only [steps, st2, pev, rev, oev, optr, ibin, sbin, ishf, bound, mmAll, mm2, mk, mkArgs, AV.cells, AV.boxable, AV.one, AV.strip1, fillA, fillS, Nat.reduceEqDiff, reduceCtorEq, ↓reduceIte, Nat.reduceAdd, Int.reduceNeg, Nat.reduceLeDiff, Int.reduceToNat, Int.reduceEq, Int.reduceLT, Int.reduceLE, Int.reduceAdd]) ⟨by rw [hl, ← hsr]; rfl, by simp, rfl⟩ ?_ ?_
    · rintro u H J ⟨hu, _, rfl⟩ hlt
      simp only [List.length_nil, unitG] at hu
      simp (disch := first | omega | assumption) only [hl', steps, st2, pev, rev, oev, optr, ibin, sbin, ishf, bound, mmAll, mm2, mk, mkArgs, AV.cells, AV.boxable, AV.one, AV.strip1, fillA, fillS, Nat.reduceEqDiff, reduceCtorEq, ↓reduceIte, Nat.reduceAdd, Int.reduceNeg, Nat.reduceLeDiff, Int.reduceToNat, Int.reduceEq, Int.reduceLT, Int.reduceLE, Int.reduceAdd]
      exact hQ _ _ _ _ nofun rfl (by simp [tupOf, envOf, AV.strip, AV.strip1, ← hu])
    · rintro done c rest u H J hd hlt hlt2 ⟨hu, hb, rfl⟩ hJ
      have hd4 : done.length < 4 := by omega
      have hlt' : (done.length : Int) < 4 := by omega
      have hlt3 : (done.length : Int) < s.length := by omega
      have hg : s.getD done.length 0 = c := by rw [hsr, hd]; simp
      have hpow : 16 ^ done.length ≤ 4096 := by
        have : done.length ≤ 3 := by omega
        calc 16 ^ done.length ≤ 16 ^ 3 := Nat.pow_le_pow_right (by decide) this
          _ = 4096 := rfl
      simp only [List.length_cons, List.cons_append, unitG] at hu
      have hidx := idx_le hexL (c ||| 32)
      have hc := c.toNat_lt
      simp only [hexL, List.length_cons, List.length_nil] at hidx
      simp (disch := first | omega | assumption) only [hlt', hlt3, hg, or32, steps, st2, pev, rev, oev, optr, ibin, sbin, ishf, bound, mmAll, mm2, mk, mkArgs, AV.cells, AV.boxable, AV.one, AV.strip1, fillA, fillS, Nat.reduceEqDiff, reduceCtorEq, ↓reduceIte, Nat.reduceAdd, Int.reduceNeg, Nat.reduceLeDiff, Int.reduceToNat, Int.reduceEq, Int.reduceLT, Int.reduceLE, Int.reduceAdd]
      refine goK_pure (idxByteC hexL (c ||| 32)) ?_
      have no : hexD c = none → (unitM s) = none := fun e => by rw [e] at hu; exact hu.symm
      by_cases n1 : Lib.indexByte hexL (c ||| 32) < 0
      · have e : hexD c = none := by unfold hexD; rw [if_pos (.inl n1)]
        simp (disch := first | omega | assumption) only [n1, steps, st2, pev, rev, oev, optr, ibin, sbin, ishf, bound, mmAll, mm2, mk, mkArgs, AV.cells, AV.boxable, AV.one, AV.strip1, fillA, fillS, Nat.reduceEqDiff, reduceCtorEq, ↓reduceIte, Nat.reduceAdd, Int.reduceNeg, Nat.reduceLeDiff, Int.reduceToNat, Int.reduceEq, Int.reduceLT, Int.reduceLE, Int.reduceAdd]
        exact hQ _ _ _ _ nofun rfl (by simp [tupOf, envOf, AV.strip, AV.strip1, no e])
      obtain ⟨k, hk⟩ : ∃ k : Nat, Lib.indexByte hexL (c ||| 32) = (k : Int) := ⟨(Lib.indexByte hexL (c ||| 32)).toNat, by omega⟩
      have hk16 : k < 16 := by rw [show Lib.indexByte [48, 49, 50, 51, 52, 53, 54, 55, 56, 57, 97, 98, 99, 100, 101, 102] (c ||| 32) = (k : Int) from hk] at hidx; omega
      have hu4 : u < 4096 := by omega
      have hkn : ¬ ((k : Int) < 0) := by omega
      have hnext : hexD c = some k → unitG rest.length (rest ++ r) (16 * u + k) = unitM s ∧ 16 * u + k < 16 ^ (done ++ [c]).length ∧ Heap.emp = Heap.emp := fun e => by
        rw [e] at hu
        refine ⟨hu, ?_, rfl⟩
        rw [List.length_append, List.length_cons, List.length_nil, Nat.pow_succ]; omega
      have hpush : ((16 * u + k : Nat) : Int) = 16 * (u : Int) + k := by omega
      by_cases n2 : c.toNat < 48
      · have e : hexD c = none := by unfold hexD; rw [if_pos (.inr (.inl n2))]
        have n2' : ((c.toNat : Int) < 48) = True := eq_true (by omega)
        simp (disch := first | omega | assumption) only [hk, hkn, n2', hlt3, hg, steps, st2, pev, rev, oev, optr, ibin, sbin, ishf, bound, mmAll, mm2, mk, mkArgs, AV.cells, AV.boxable, AV.one, AV.strip1, fillA, fillS, Nat.reduceEqDiff, reduceCtorEq, ↓reduceIte, Nat.reduceAdd, Int.reduceNeg, Nat.reduceLeDiff, Int.reduceToNat, Int.reduceEq, Int.reduceLT, Int.reduceLE, Int.reduceAdd]
        exact hQ _ _ _ _ nofun rfl (by simp [tupOf, envOf, AV.strip, AV.strip1, no e])
      have n2' : ¬ ((c.toNat : Int) < 48) := by omega
      by_cases n3 : 57 < c.toNat
      · have n3' : ((57 : Int) < c.toNat) = True := eq_true (by omega)
        by_cases n4 : c.toNat < 65
        · have e : hexD c = none := by unfold hexD; rw [if_pos (.inr (.inr ⟨n3, n4⟩))]
          have n4' : ((c.toNat : Int) < 65) = True := eq_true (by omega)
          simp (disch := first | omega | assumption) only [hk, hkn, n2', n3', n4', hlt3, hg, steps, st2, pev, rev, oev, optr, ibin, sbin, ishf, bound, mmAll, mm2, mk, mkArgs, AV.cells, AV.boxable, AV.one, AV.strip1, fillA, fillS, Nat.reduceEqDiff, reduceCtorEq, ↓reduceIte, Nat.reduceAdd, Int.reduceNeg, Nat.reduceLeDiff, Int.reduceToNat, Int.reduceEq, Int.reduceLT, Int.reduceLE, Int.reduceAdd]
          exact hQ _ _ _ _ nofun rfl (by simp [tupOf, envOf, AV.strip, AV.strip1, no e])
        · have e : hexD c = some k := by unfold hexD; rw [if_neg (by omega), hk]; rfl
          have n4' : ¬ ((c.toNat : Int) < 65) := by omega
          simp (disch := first | omega | assumption) only [hk, hkn, n2', n3', n4', hlt3, hg, wrap64, steps, st2, pev, rev, oev, optr, ibin, sbin, ishf, bound, mmAll, mm2, mk, mkArgs, AV.cells, AV.boxable, AV.one, AV.strip1, fillA, fillS, Nat.reduceEqDiff, reduceCtorEq, ↓reduceIte, Nat.reduceAdd, Int.reduceNeg, Nat.reduceLeDiff, Int.reduceToNat, Int.reduceEq, Int.reduceLT, Int.reduceLE, Int.reduceAdd]
          refine goJ (hJ (16 * u + k) _ (hnext e)) (by simp (disch := first | omega | assumption) only [hpush, steps, st2, pev, rev, oev, optr, ibin, sbin, ishf, bound, mmAll, mm2, mk, mkArgs, AV.cells, AV.boxable, AV.one, AV.strip1, fillA, fillS, Nat.reduceEqDiff, reduceCtorEq, ↓reduceIte, Nat.reduceAdd, Int.reduceNeg, Nat.reduceLeDiff, Int.reduceToNat, Int.reduceEq, Int.reduceLT, Int.reduceLE, Int.reduceAdd])
      · have e : hexD c = some k := by unfold hexD; rw [if_neg (by omega), hk]; rfl
        have n3' : ¬ ((57 : Int) < c.toNat) := by omega
        simp (disch := first | omega | assumption) only [hk, hkn, n2', n3', hlt3, hg, wrap64, steps, st2, pev, rev, oev, optr, ibin, sbin, ishf, bound, mmAll, mm2, mk, mkArgs, AV.cells, AV.boxable, AV.one, AV.strip1, fillA, fillS, Nat.reduceEqDiff, reduceCtorEq, ↓reduceIte, Nat.reduceAdd, Int.reduceNeg, Nat.reduceLeDiff, Int.reduceToNat, Int.reduceEq, Int.reduceLT, Int.reduceLE, Int.reduceAdd]
        refine goJ (hJ (16 * u + k) _ (hnext e)) (by simp (disch := first | omega | assumption) only [hpush, steps, st2, pev, rev, oev, optr, ibin, sbin, ishf, bound, mmAll, mm2, mk, mkArgs, AV.cells, AV.boxable, AV.one, AV.strip1, fillA, fillS, Nat.reduceEqDiff, reduceCtorEq, ↓reduceIte, Nat.reduceAdd, Int.reduceNeg, Nat.reduceLeDiff, Int.reduceToNat, Int.reduceEq, Int.reduceLT, Int.reduceLE, Int.reduceAdd])
def cU (l : List Nat) : List (List AV) := l.map fun (n : Nat) => [AV.int .i64 (n : Int)]
theorem cU_len (l : List Nat) : (cU l).length = l.length := by simp [cU]
theorem cU_strip (l : List Nat) : (cU l).map (·.map AV.strip1) = cU l := by simp [cU, AV.strip1]
theorem joinC (us : List Nat) (hl : us.length ≤ 68719476736) : Pure Tryz.prog 327 [.sl .no 1 (cU us)] (.tup [.str ((joinM us).getD []), .bool (joinM us).isSome]) := by
  refine Pure.go ir327 ck327 (Nat.le_refl _) fun KP Q hQ => ?_
  have hll := cU_len us
  simp (disch := first | omega | assumption) only [ir327, steps, st2, pev, rev, oev, optr, ibin, sbin, ishf, bound, mmAll, mm2, mk, mkArgs, AV.cells, AV.boxable, AV.one, AV.strip1, fillA, fillS, Nat.reduceEqDiff, reduceCtorEq, ↓reduceIte, Nat.reduceAdd, Int.reduceNeg, Nat.reduceLeDiff, Int.reduceToNat, Int.reduceEq, Int.reduceLT, Int.reduceLE, Int.reduceAdd]
  refine goL_st (fun s : List Nat × List Nat × Own × List UInt8 => [(4, .sl s.2.2.1 1 (bytesOf s.2.2.2)), (5, .int .i64 s.1.length)]) (fun s H => us = s.1 ++ s.2.1 ∧ joinM us = (joinM s.2.1).map (s.2.2.2 ++ ·) ∧ s.2.2.2.length ≤ 2 * s.1.length * 2 ∧ Owned H s.2.2.1 s.2.2.2.length 1) (fun s => s.2.1.length) ([], us, .nil, []) (by simp (disch := first | omega | assumption) only [steps, st2, pev, rev, oev, optr, ibin, sbin, ishf, bound, mmAll, mm2, mk, mkArgs, AV.cells, AV.boxable, AV.one, AV.strip1, fillA, fillS, Nat.reduceEqDiff, reduceCtorEq, ↓reduceIte, Nat.reduceAdd, Int.reduceNeg, Nat.reduceLeDiff, Int.reduceToNat, Int.reduceEq, Int.reduceLT, Int.reduceLE, Int.reduceAdd]; rfl) ⟨rfl, by cases joinM us <;> rfl, by simp, rfl⟩ ?_
  rintro ⟨done, rest, o, out⟩ H J ⟨hd, hj, hle, ho⟩ hJ
  simp only at hd hj hle ho
  have hdl : done.length + rest.length = us.length := by rw [hd]; simp
  cases rest with
  | nil =>
    simp only [List.append_nil] at hd
    have hlt : ¬ ((done.length : Int) < us.length) := by rw [hd]; omega
    simp (disch := first | omega | assumption) only [hll, hlt, steps, st2, pev, rev, oev, optr, ibin, sbin, ishf, bound, mmAll, mm2, mk, mkArgs, AV.cells, AV.boxable, AV.one, AV.strip1, fillA, fillS, Nat.reduceEqDiff, reduceCtorEq, ↓reduceIte, Nat.reduceAdd, Int.reduceNeg, Nat.reduceLeDiff, Int.reduceToNat, Int.reduceEq, Int.reduceLT, Int.reduceLE, Int.reduceAdd]
    simp only [joinM, Option.map_some, List.append_nil] at hj
    simp (disch := first | omega | assumption) only [byts_of, steps, st2, pev, rev, oev, optr, ibin, sbin, ishf, bound, mmAll, mm2, mk, mkArgs, AV.cells, AV.boxable, AV.one, AV.strip1, fillA, fillS, Nat.reduceEqDiff, reduceCtorEq, ↓reduceIte, Nat.reduceAdd, Int.reduceNeg, Nat.reduceLeDiff, Int.reduceToNat, Int.reduceEq, Int.reduceLT, Int.reduceLE, Int.reduceAdd]
    exact hQ _ _ _ _ nofun rfl (by simp [tupOf, envOf, AV.strip, AV.strip1, hj])
  | cons u r =>
    have hlt : ((done.length : Int) < us.length) := by simp at hdl; omega
    have hg : (cU us).getD done.length [] = [.int .i64 u] := by rw [hd]; simp [cU]
    have hu0 : ¬ ((u : Int) < 0) := by omega
    have hrl : r.length + 1 + done.length = us.length := by simp at hdl; omega
    have none_of : joinM (u :: r) = none → joinM us = none := fun e => by rw [hj, e]; rfl
    have hmax : maxLen = 9223372036854775807 := rfl
    by_cases a1 : 65535 < u
    · have e := none_of (by rw [joinM.eq_def]; simp only; rw [if_pos (.inl a1)])
      have a1' : ((65535 : Int) < u) = True := eq_true (by omega)
      simp (disch := first | omega | assumption) only [hll, hlt, hg, hu0, a1', steps, st2, pev, rev, oev, optr, ibin, sbin, ishf, bound, mmAll, mm2, mk, mkArgs, AV.cells, AV.boxable, AV.one, AV.strip1, fillA, fillS, Nat.reduceEqDiff, reduceCtorEq, ↓reduceIte, Nat.reduceAdd, Int.reduceNeg, Nat.reduceLeDiff, Int.reduceToNat, Int.reduceEq, Int.reduceLT, Int.reduceLE, Int.reduceAdd]
      exact hQ _ _ _ _ nofun rfl (by simp [tupOf, envOf, AV.strip, AV.strip1, e])
    have a1' : ¬ ((65535 : Int) < u) := by omega
    by_cases a2 : 56320 ≤ u ∧ u ≤ 57343
    · have e := none_of (by rw [joinM.eq_def]; simp only; rw [if_pos (.inr a2)])
      have a2' : ((56320 : Int) ≤ u) = True := eq_true (by omega)
      have a3' : ((u : Int) ≤ 57343) = True := eq_true (by omega)
      simp (disch := first | omega | assumption) only [hll, hlt, hg, hu0, a1', a2', a3', steps, st2, pev, rev, oev, optr, ibin, sbin, ishf, bound, mmAll, mm2, mk, mkArgs, AV.cells, AV.boxable, AV.one, AV.strip1, fillA, fillS, Nat.reduceEqDiff, reduceCtorEq, ↓reduceIte, Nat.reduceAdd, Int.reduceNeg, Nat.reduceLeDiff, Int.reduceToNat, Int.reduceEq, Int.reduceLT, Int.reduceLE, Int.reduceAdd]
      exact hQ _ _ _ _ nofun rfl (by simp [tupOf, envOf, AV.strip, AV.strip1, e])
    by_cases a3 : 55296 ≤ u ∧ u < 56320
    · have b1 : ¬ ((56320 : Int) ≤ u) := by omega
      have b2 : ((55296 : Int) ≤ u) = True := eq_true (by omega)
      have b3 : ((u : Int) < 56320) = True := eq_true (by omega)
      cases r with
      | nil =>
        have e := none_of (by rw [joinM.eq_def]; simp only; rw [if_neg (by omega), if_pos a3])
        have b4 : ((done.length : Int) + 1 = us.length) = True := eq_true (by simp at hrl; omega)
        simp (disch := first | omega | assumption) only [hll, hlt, hg, hu0, a1', b1, b2, b3, wrap64, b4, steps, st2, pev, rev, oev, optr, ibin, sbin, ishf, bound, mmAll, mm2, mk, mkArgs, AV.cells, AV.boxable, AV.one, AV.strip1, fillA, fillS, Nat.reduceEqDiff, reduceCtorEq, ↓reduceIte, Nat.reduceAdd, Int.reduceNeg, Nat.reduceLeDiff, Int.reduceToNat, Int.reduceEq, Int.reduceLT, Int.reduceLE, Int.reduceAdd]
        exact hQ _ _ _ _ nofun rfl (by simp [tupOf, envOf, AV.strip, AV.strip1, e])
      | cons v r =>
        have b4 : ¬ ((done.length : Int) + 1 = us.length) := by simp at hrl; omega
        have b5 : ((done.length : Int) + 1 < us.length) := by simp at hrl; omega
        have b6 : ((done.length : Int) + 1).toNat = done.length + 1 := by omega
        have hg2 : (cU us).getD (done.length + 1) [] = [.int .i64 v] := by rw [hd]; simp [cU]
        by_cases c1 : v < 56320
        · have e := none_of (by rw [joinM.eq_def]; simp only; rw [if_neg (by omega), if_pos a3, if_pos (.inl c1)])
          have c1' : ((v : Int) < 56320) = True := eq_true (by omega)
          simp (disch := first | omega | assumption) only [hll, hlt, hg, hu0, a1', b1, b2, b3, wrap64, b4, b5, b6, hg2, c1', steps, st2, pev, rev, oev, optr, ibin, sbin, ishf, bound, mmAll, mm2, mk, mkArgs, AV.cells, AV.boxable, AV.one, AV.strip1, fillA, fillS, Nat.reduceEqDiff, reduceCtorEq, ↓reduceIte, Nat.reduceAdd, Int.reduceNeg, Nat.reduceLeDiff, Int.reduceToNat, Int.reduceEq, Int.reduceLT, Int.reduceLE, Int.reduceAdd]
          exact hQ _ _ _ _ nofun rfl (by simp [tupOf, envOf, AV.strip, AV.strip1, e])
        have c1' : ¬ ((v : Int) < 56320) := by omega
        by_cases c2 : 57343 < v
        · have e := none_of (by rw [joinM.eq_def]; simp only; rw [if_neg (by omega), if_pos a3, if_pos (.inr c2)])
          have c2' : ((57343 : Int) < v) = True := eq_true (by omega)
          simp (disch := first | omega | assumption) only [hll, hlt, hg, hu0, a1', b1, b2, b3, wrap64, b4, b5, b6, hg2, c1', c2', steps, st2, pev, rev, oev, optr, ibin, sbin, ishf, bound, mmAll, mm2, mk, mkArgs, AV.cells, AV.boxable, AV.one, AV.strip1, fillA, fillS, Nat.reduceEqDiff, reduceCtorEq, ↓reduceIte, Nat.reduceAdd, Int.reduceNeg, Nat.reduceLeDiff, Int.reduceToNat, Int.reduceEq, Int.reduceLT, Int.reduceLE, Int.reduceAdd]
          exact hQ _ _ _ _ nofun rfl (by simp [tupOf, envOf, AV.strip, AV.strip1, e])
        have c2' : ¬ ((57343 : Int) < v) := by omega
        have ej : joinM (u :: v :: r) = (joinM r).map (encM (65536 + 1024 * (u - 55296) + (v - 56320)) ++ ·) := by rw [joinM.eq_def]; simp only; rw [if_neg (by omega), if_pos a3, if_neg (by omega)]
        obtain ⟨m, hm⟩ : ∃ m, 65536 + 1024 * (u - 55296) + (v - 56320) = m := ⟨_, rfl⟩
        rw [hm] at ej
        have hm2 : (65536 + 1024 * ((u : Int) - 55296) + v - 56320) = (m : Int) := by omega
        have hm3 := (encM_len m).1
        simp (disch := first | omega | assumption) only [hll, hlt, hg, hu0, a1', b1, b2, b3, wrap64, b4, b5, b6, hg2, c1', c2', hm2, wri32 (show m < 2147483648 by omega), steps, st2, pev, rev, oev, optr, ibin, sbin, ishf, bound, mmAll, mm2, mk, mkArgs, AV.cells, AV.boxable, AV.one, AV.strip1, fillA, fillS, Nat.reduceEqDiff, reduceCtorEq, ↓reduceIte, Nat.reduceAdd, Int.reduceNeg, Nat.reduceLeDiff, Int.reduceToNat, Int.reduceEq, Int.reduceLT, Int.reduceLE, Int.reduceAdd]
        refine goK_gives (appRune m (by omega) (by omega) out _ o ho (by simp only [Lim]; omega)) fun o' H' hs => ?_
        simp (disch := first | omega | assumption) only [wrap64, steps, st2, pev, rev, oev, optr, ibin, sbin, ishf, bound, mmAll, mm2, mk, mkArgs, AV.cells, AV.boxable, AV.one, AV.strip1, fillA, fillS, Nat.reduceEqDiff, reduceCtorEq, ↓reduceIte, Nat.reduceAdd, Int.reduceNeg, Nat.reduceLeDiff, Int.reduceToNat, Int.reduceEq, Int.reduceLT, Int.reduceLE, Int.reduceAdd]
        have hown := hs.own
        rw [bytesOf_len] at hown
        have e5 : (((done ++ [u, v]).length : Nat) : Int) = (done.length : Int) + 1 + 1 := by simp; omega
        refine goJ (hJ (done ++ [u, v], r, o', out ++ encM m) _ (by simp; omega) ⟨by simp [hd], ?_, ?_, hown⟩) (by simp (disch := first | omega | assumption) only [e5, steps, st2, pev, rev, oev, optr, ibin, sbin, ishf, bound, mmAll, mm2, mk, mkArgs, AV.cells, AV.boxable, AV.one, AV.strip1, fillA, fillS, Nat.reduceEqDiff, reduceCtorEq, ↓reduceIte, Nat.reduceAdd, Int.reduceNeg, Nat.reduceLeDiff, Int.reduceToNat, Int.reduceEq, Int.reduceLT, Int.reduceLE, Int.reduceAdd])
        · simp only [hj, ej]; cases joinM r <;> simp
        · simp; omega
    have ej : joinM (u :: r) = (joinM r).map (encM u ++ ·) := by
      rw [joinM.eq_def]; simp only; rw [if_neg (by omega), if_neg a3]
    have hm3 := (encM_len u).1
    have e5 : (((done ++ [u]).length : Nat) : Int) = (done.length : Int) + 1 := by simp
    by_cases h : u < 55296
    · have b1 : ¬ ((56320 : Int) ≤ u) := by omega
      have b2 : ¬ ((55296 : Int) ≤ u) := by omega
      simp (disch := first | omega | assumption) only [hll, hlt, hg, hu0, a1', b1, b2, wri32 (show u < 2147483648 by omega), steps, st2, pev, rev, oev, optr, ibin, sbin, ishf, bound, mmAll, mm2, mk, mkArgs, AV.cells, AV.boxable, AV.one, AV.strip1, fillA, fillS, Nat.reduceEqDiff, reduceCtorEq, ↓reduceIte, Nat.reduceAdd, Int.reduceNeg, Nat.reduceLeDiff, Int.reduceToNat, Int.reduceEq, Int.reduceLT, Int.reduceLE, Int.reduceAdd]
      refine goK_gives (appRune u (by omega) (by omega) out _ o ho (by simp only [Lim]; omega)) fun o' H' hs => ?_
      simp (disch := first | omega | assumption) only [wrap64, steps, st2, pev, rev, oev, optr, ibin, sbin, ishf, bound, mmAll, mm2, mk, mkArgs, AV.cells, AV.boxable, AV.one, AV.strip1, fillA, fillS, Nat.reduceEqDiff, reduceCtorEq, ↓reduceIte, Nat.reduceAdd, Int.reduceNeg, Nat.reduceLeDiff, Int.reduceToNat, Int.reduceEq, Int.reduceLT, Int.reduceLE, Int.reduceAdd]
      have hown := hs.own
      rw [bytesOf_len] at hown
      refine goJ (hJ (done ++ [u], r, o', out ++ encM u) _ (by simp) ⟨by simp [hd], ?_, ?_, hown⟩) (by simp (disch := first | omega | assumption) only [e5, steps, st2, pev, rev, oev, optr, ibin, sbin, ishf, bound, mmAll, mm2, mk, mkArgs, AV.cells, AV.boxable, AV.one, AV.strip1, fillA, fillS, Nat.reduceEqDiff, reduceCtorEq, ↓reduceIte, Nat.reduceAdd, Int.reduceNeg, Nat.reduceLeDiff, Int.reduceToNat, Int.reduceEq, Int.reduceLT, Int.reduceLE, Int.reduceAdd])
      · simp only [hj, ej]; cases joinM r <;> simp
      · simp; omega
    · have b1 : ((56320 : Int) ≤ u) = True := eq_true (by omega)
      have b2 : ¬ ((u : Int) ≤ 57343) := by omega
      have b3 : ((55296 : Int) ≤ u) = True := eq_true (by omega)
      have b4 : ¬ ((u : Int) < 56320) := by omega
      simp (disch := first | omega | assumption) only [hll, hlt, hg, hu0, a1', b1, b2, b3, b4, wri32 (show u < 2147483648 by omega), steps, st2, pev, rev, oev, optr, ibin, sbin, ishf, bound, mmAll, mm2, mk, mkArgs, AV.cells, AV.boxable, AV.one, AV.strip1, fillA, fillS, Nat.reduceEqDiff, reduceCtorEq, ↓reduceIte, Nat.reduceAdd, Int.reduceNeg, Nat.reduceLeDiff, Int.reduceToNat, Int.reduceEq, Int.reduceLT, Int.reduceLE, Int.reduceAdd]
      refine goK_gives (appRune u (by omega) (by omega) out _ o ho (by simp only [Lim]; omega)) fun o' H' hs => ?_
      simp (disch := first | omega | assumption) only [wrap64, steps, st2, pev, rev, oev, optr, ibin, sbin, ishf, bound, mmAll, mm2, mk, mkArgs, AV.cells, AV.boxable, AV.one, AV.strip1, fillA, fillS, Nat.reduceEqDiff, reduceCtorEq, ↓reduceIte, Nat.reduceAdd, Int.reduceNeg, Nat.reduceLeDiff, Int.reduceToNat, Int.reduceEq, Int.reduceLT, Int.reduceLE, Int.reduceAdd]
      have hown := hs.own
      rw [bytesOf_len] at hown
      refine goJ (hJ (done ++ [u], r, o', out ++ encM u) _ (by simp) ⟨by simp [hd], ?_, ?_, hown⟩) (by simp (disch := first | omega | assumption) only [e5, steps, st2, pev, rev, oev, optr, ibin, sbin, ishf, bound, mmAll, mm2, mk, mkArgs, AV.cells, AV.boxable, AV.one, AV.strip1, fillA, fillS, Nat.reduceEqDiff, reduceCtorEq, ↓reduceIte, Nat.reduceAdd, Int.reduceNeg, Nat.reduceLeDiff, Int.reduceToNat, Int.reduceEq, Int.reduceLT, Int.reduceLE, Int.reduceAdd])
      · simp only [hj, ej]; cases joinM r <;> simp
      · simp; omega
end Go.Proofs.YticbbfbpeimkbaaGreatDoor
namespace Go.Proofs.YticbbfbpeimkbaaGreatDoor
open Go.Ab
abbrev LimQ : Nat := 68719476736
theorem upd_upd (H : Heap) (b : Nat) (x y : AObj) : (H.upd b x).upd b y = H.upd b y := by
  funext c; by_cases e : c = b <;> simp [Heap.upd, e]
theorem own_ne {H : Heap} {c b d n sz : Nat} {cs : List AV} (h : Owned H (.tip b d) n sz) (hc : H c = some (.cells cs)) : b ≠ c := fun e => by
  subst e
  have : H b = some (.tip (d + n) sz) := h
  rw [hc] at this; cases this
theorem own_keep {H H' : Heap} {o : Own} {n sz c : Nat} {cs : List AV} (h : Owned H o n sz) (hc : H c = some (.cells cs)) (hk : Kept H o H') : H' c = some (.cells cs) :=
  hk c _ hc fun d e => by subst e; exact own_ne h hc rfl
theorem own_upd {H : Heap} {o : Own} {n sz c : Nat} {cs : List AV} {x : AObj} (h : Owned H o n sz) (hc : H c = some (.cells cs)) : Owned (H.upd c x) o n sz := by
  cases o with
  | tip b d => have := own_ne h hc; show (H.upd c x) b = _; rw [upd_ne this]; exact h
  | no => exact h
  | nil => exact h
  | full => exact h
structure SaidAt (H : Heap) (q : Nat) (x : Sd) (o o2 : Own) : Prop where
  hq : H q = some (.cells [.sl o 1 (bytesOf x.b), .sl o2 1 (cU x.u), .bool x.ok])
  ho : Owned H o x.b.length 1
  ho2 : Owned H o2 x.u.length 1
  ne : ∀ b d d2, o = .tip b d → o2 ≠ .tip b d2
theorem flushC {H : Heap} {q : Nat} {x : Sd} {o o2 : Own} (hs : SaidAt H q x o o2) (hw : x.w ≤ LimQ) :
    ACalls Tryz.prog 282 [.ptr q 0] H (fun e H' => ∃ v, e = .ret v ∧ (v = .tup [] ∧ ∃ o', SaidAt H' q (flushM x) o' .nil)) := by
  refine ACalls.go ir282 ck282 (Nat.le_refl _) fun KP Q hQ => ?_
  obtain ⟨hq, ho, ho2, hne⟩ := hs
  have hbl := bytesOf_len x.b
  simp only [LimQ, Sd.w] at hw
  simp (disch := first | omega | assumption) only [ir282, hq, go_sem, ↓reduceIte]
  refine goK_pure (Pure.low (joinC x.u (by omega))) ?_
  have hfw := flush_w x
  simp only [flushM, Sd.w, List.length_append] at hfw
  simp (disch := first | omega | assumption) only [hq, go_sem, ↓reduceIte]
  refine goP_ownS (by rw [hbl]; exact ho) (by simp [bytesOf_len]; omega) (by simp [maxLen, bytesOf_len]; omega) fun o' H1 hs => ?_
  have h1 : H1 q = some (.cells [.sl o 1 (bytesOf x.b), .sl o2 1 (cU x.u), .bool x.ok]) := own_keep ho hq hs.kept
  have hown := hs.own
  simp only [List.length_append, bytesOf_len] at hown
  cases hok : x.ok
  · rw [hok] at h1
    simp (disch := first | omega | assumption) only [h1, bytesOf_strip, bytesOf_app, go_sem, ↓reduceIte]
    refine hQ _ _ _ _ _ nofun rfl (Low.refl _) ⟨rfl, o', ?_, ?_, rfl, nofun⟩
    · simp [flushM, hok, upd_same, cU, bytesOf_app, bytesOf_strip]
    · simp only [flushM, List.length_append]
      exact own_upd hown h1
  · rw [hok] at h1
    simp (disch := first | omega | assumption) only [h1, bytesOf_strip, bytesOf_app, go_sem, ↓reduceIte]
    refine hQ _ _ _ _ _ nofun rfl (Low.refl _) ⟨rfl, o', ?_, ?_, rfl, nofun⟩
    · simp [flushM, hok, upd_same, cU, bytesOf_app, bytesOf_strip]
    · simp only [flushM, List.length_append]
      exact own_upd hown h1
def EscP (H' : Heap) (q : Nat) (x : Sd) (s : List UInt8) (v : AV) : Prop := match escM x s with
  | none => v = .int .i64 0
  | some (x', t') => v = .int .i64 ((s.length - t'.length : Nat) : Int) ∧ ∃ o o2, SaidAt H' q x' o o2
theorem escC {H : Heap} {q : Nat} {x : Sd} {o o2 : Own} (hs : SaidAt H q x o o2) (hw : x.w ≤ LimQ) (s : List UInt8) (hl : s.length ≤ Lim) :
    ACalls Tryz.prog 281 [.ptr q 0, .str s] H (fun e H' => ∃ v, e = .ret v ∧ EscP H' q x s v) := by
  refine ACalls.go ir281 ck281 (Nat.le_refl _) fun KP Q hQ => ?_
  have hs0 := hs
  obtain ⟨hq, ho, ho2, hne⟩ := hs
  have hul := cU_len x.u
  have hw0 := hw
  simp only [LimQ, Sd.w] at hw
  simp only [Lim] at hl
  simp (disch := first | omega | assumption) only [ir281, go_sem, ↓reduceIte]
  refine goK_pure (prefixC s [117]) ?_
  cases s with
  | nil =>
    simp (disch := first | omega | assumption) only [List.isPrefixOf, go_sem, ↓reduceIte]
    exact hQ _ _ _ _ [_] nofun rfl (Low.refl _) (by simp [EscP, escM, tupOf, envOf, AV.strip, AV.strip1])
  | cons c t =>
    simp only [List.length_cons] at hl
    by_cases hc : c = 117
    · subst hc
      have hp : [117].isPrefixOf ((117 : UInt8) :: t) = true := rfl
      have h1 : ((1 : Int) ≤ ((t.length + 1 : Nat) : Int)) = True := eq_true (by omega)
      simp (disch := first | omega | assumption) only [hp, h1, go_sem, ↓reduceIte]
      refine goK_pure (unitC t (by simp only [Lim]; omega)) ?_
      cases hu : unitM t with
      | none =>
        simp (disch := first | omega | assumption) only [Option.isSome_none, go_sem, ↓reduceIte]
        exact hQ _ _ _ _ [_] nofun rfl (Low.refl _) (by simp [EscP, escM, hu, tupOf, envOf, AV.strip, AV.strip1])
      | some u =>
        have h4 := unitG_len _ _ _ _ hu
        simp (disch := first | omega | assumption) only [Option.isSome_some, Option.getD_some, hq, go_sem, ↓reduceIte]
        refine goP_ownS (by rw [hul]; exact ho2) (by simp [hul]; omega) (by simp [maxLen, hul]; omega) fun o' H1 hs1 => ?_
        have h2 := own_keep ho2 hq hs1.kept
        simp (disch := first | omega | assumption) only [h2, cU_strip, go_sem, ↓reduceIte]
        refine hQ _ _ _ _ [_] nofun rfl (Low.refl _) ?_
        have hsp := Sep.step (a := [(o, x.b.length, 1)]) (b := []) (n := x.u.length) (n' := x.u.length + 1) (sz := 1) ⟨by intro y hy; simp at hy; rcases hy with rfl | rfl <;> assumption, ?_⟩ (by simpa [hul] using hs1)
        · simp only [EscP, escM, if_true, hu, Option.map_some]
          refine ⟨?_, o, o', ?_, ?_, ?_, ?_⟩
          · show AV.int .i64 5 = _
            simp only [List.length_cons, List.length_drop]
            congr 1; omega
          · simp [upd_same, cU]
          · exact own_upd (hsp.own (o, x.b.length, 1) (by simp)) h2
          · simp only [List.length_append, List.length_cons, List.length_nil]
            exact own_upd (hsp.own (o', x.u.length + 1, 1) (by simp)) h2
          · intro b d d2 e1 e2
            have := hsp.nd
            simp [e1, e2, tipOf] at this
        · cases h5 : tipOf o with
          | none => cases h6 : tipOf o2 <;> simp [h5, h6]
          | some b =>
            obtain ⟨d, h7⟩ := tipOf_some h5
            cases h6 : tipOf o2 with
            | none => simp [h5, h6]
            | some b2 =>
              obtain ⟨d2, h8⟩ := tipOf_some h6
              simp only [List.cons_append, List.nil_append, List.filterMap_cons, List.filterMap_nil, h5, h6, List.nodup_cons, List.mem_singleton, List.not_mem_nil, not_false_eq_true, List.nodup_nil, and_true]
              rintro rfl
              exact hne b d d2 h7 h8
    · have hp : [117].isPrefixOf (c :: t) = false := by
        simp only [List.isPrefixOf, Bool.and_true, beq_eq_false_iff_ne, ne_eq]; exact fun e => hc e.symm
      have hcl : ¬ (c :: t = []) := by simp
      have h1 : ((0 : Int) < ((t.length + 1 : Nat) : Int)) = True := eq_true (by omega)
      simp (disch := first | omega | assumption) only [hp, hcl, h1, go_sem, ↓reduceIte]
      refine goK_pure (idxByteC escL c) ?_
      have hidx := idx_le escL c
      by_cases hk : Lib.indexByte escL c < 0
      · simp (disch := first | omega | assumption) only [hk, go_sem, ↓reduceIte]
        exact hQ _ _ _ _ [_] nofun rfl (Low.refl _) (by simp [EscP, escM, hc, hk, tupOf, envOf, AV.strip, AV.strip1])
      · obtain ⟨k, hk2⟩ : ∃ k : Nat, Lib.indexByte escL c = (k : Int) := ⟨(Lib.indexByte escL c).toNat, by omega⟩
        have hk8 : k < 8 := by simp [escL] at hidx; rw [show Lib.indexByte [34, 92, 47, 98, 102, 110, 114, 116] c = (k : Int) from hk2] at hidx; omega
        have hk0 : ¬ ((k : Int) < 0) := by omega
        simp (disch := first | omega | assumption) only [hk2, hk0, go_sem, ↓reduceIte]
        refine goK_ret (flushC hs0 hw0) fun v H1 ⟨hv, o', hs1⟩ => ?_
        subst hv
        obtain ⟨hq1, ho1, _, _⟩ := hs1
        have hfw := flush_w x
        have hbl := bytesOf_len (flushM x).b
        simp only [Sd.w] at hfw
        have hk8' : ((k : Int) < 8) = True := eq_true (by omega)
        simp (disch := first | omega | assumption) only [hq1, hk8', go_sem, ↓reduceIte]
        refine goP_ownS (by rw [hbl]; exact ho1) (by simp [hbl]; omega) (by simp [maxLen, hbl]; omega) fun o3 H2 hs3 => ?_
        have hq2 := own_keep ho1 hq1 hs3.kept
        simp (disch := first | omega | assumption) only [hq2, go_sem, ↓reduceIte]
        refine hQ _ _ _ _ [_] nofun rfl (Low.refl _) ?_
        simp only [EscP, escM, hc, if_false, hk2, hk0]
        refine ⟨?_, o3, .nil, ?_, ?_, rfl, nofun⟩
        · show AV.int .i64 1 = _
          simp only [List.length_cons]
          congr 1; omega
        · simp only [upd_same, Sd.put, Int.toNat_natCast]
          rw [← bytesOf_app]; rfl
        · simp only [Sd.put, List.length_append, List.length_cons, List.length_nil]
          exact own_upd (by simpa [hbl] using hs3.own) hq2
end Go.Proofs.YticbbfbpeimkbaaGreatDoor
namespace Go.Proofs.YticbbfbpeimkbaaGreatDoor
open Go.Ab
def quoA (may : UInt8 → Bool) (t : List UInt8) : AV := match quoM may t with
  | some (b, t') => .tup [.str b, .int .i64 ((t.length + 1 - t'.length : Nat) : Int)]
  | none => .tup [.str [], .int .i64 0]
theorem quotedC (f : FuncId) (hf : Program.callable Tryz.prog f = true) (may : UInt8 → Bool) (hmay : ∀ c : UInt8, Pure Tryz.prog f [.int .u8 c.toNat] (.bool (may c))) (a : UInt8) (t : List UInt8) (hl : t.length + 1 ≤ LimQ) :
    Pure Tryz.prog 220 [.str (a :: t), .clo f [] []] (quoA may t) := by
  refine Pure.go ir220 ck220 (Nat.le_refl _) fun KP Q hQ => ?_
  simp only [LimQ] at hl
  simp (disch := first | omega | assumption) only [ir220, go_sem, ↓reduceIte]
  refine goA_intro fun q hq => ?_
  simp (disch := first | omega | assumption) only [go_sem, ↓reduceIte]
  obtain ⟨R, hR⟩ : ∃ R, quoG may (t.length + 1) t ⟨[], [], true⟩ = R := ⟨_, rfl⟩
  have fail : R = none → quoA may t = .tup [.str [], .int .i64 0] := fun e => by unfold quoA quoM; rw [hR, e]
  refine goL_st (fun s : List UInt8 × Sd × Own × Own => [(7, .int .i64 ((t.length + 1 - s.1.length : Nat) : Int))])
    (fun s H => s.1 <:+ t ∧ (∃ n, s.1.length < n ∧ quoG may n s.1 s.2.1 = R) ∧ s.2.1.w + s.1.length ≤ t.length ∧ SaidAt H q s.2.1 s.2.2.1 s.2.2.2) (fun s => s.1.length) (t, ⟨[], [], true⟩, .nil, .nil)
    (by have : (t.length + 1 - t.length : Nat) = 1 := by omega
        simp (disch := first | omega | assumption) only [this, go_sem, ↓reduceIte]) ⟨List.suffix_refl _, ⟨t.length + 1, by simp, hR⟩, by simp [Sd.w], upd_same .., rfl, rfl, nofun⟩ ?_
  rintro ⟨rest, x, o, o2⟩ H J ⟨hsuf, ⟨n, hn, hg⟩, hw, hs⟩ hJ
  simp only at hsuf hn hg hw hs
  have hrl := hsuf.length_le
  obtain ⟨n, rfl⟩ : ∃ k, n = k + 1 := ⟨n - 1, by omega⟩
  cases rest with
  | nil =>
    have e0 : R = none := by rw [← hg]; rfl
    have h0 : t.length + 1 - 0 = t.length + 1 := rfl
    have h1 : (((t.length + 1 : Nat) : Int) ≤ ((t.length + 1 : Nat) : Int)) = True := eq_true (Int.le_refl _)
    simp (disch := first | omega | assumption) only [h0, h1, go_sem, ↓reduceIte]
    exact hQ _ _ _ _ nofun rfl (by simp [tupOf, envOf, AV.strip, AV.strip1, fail e0])
  | cons c r =>
    obtain ⟨p, hp⟩ := hsuf
    have hpl : t.length = p.length + (r.length + 1) := by rw [← hp]; simp
    have h0 : t.length + 1 - (r.length + 1) = p.length + 1 := by omega
    have h1 : ¬ (((t.length + 1 : Nat) : Int) ≤ ((p.length + 1 : Nat) : Int)) := by omega
    have h2 : (((p.length + 1 : Nat) : Int) < ((t.length + 1 : Nat) : Int)) = True := eq_true (by omega)
    have hi : (a :: t).getD (p.length + 1) 0 = c := by rw [← hp]; simp
    have hi1 : (((p.length + 1 : Nat) : Int) + 1) = ((p.length + 1 + 1 : Nat) : Int) := by omega
    have hsr : r <:+ t := ⟨p ++ [c], by rw [← hp]; simp⟩
    simp only [quoG] at hg
    simp only [List.length_cons] at hw hn
    have hx : x.w ≤ LimQ := by simp only [LimQ]; omega
    by_cases c1 : c = 34
    · subst c1
      simp only [if_true] at hg
      have hc : (((34 : UInt8).toNat : Int) = 34) = True := eq_true rfl
      simp (disch := first | omega | assumption) only [h0, h1, h2, hi, hc, go_sem, ↓reduceIte]
      refine goK_ret (flushC hs hx) fun v H1 ⟨hv, o', hs1⟩ => ?_
      subst hv
      have hq := hs1.hq
      cases hok : (flushM x).ok
      · rw [hok] at hq
        have e0 : quoM may t = none := by unfold quoM; rw [hR, ← hg]; simp [hok]
        simp (disch := first | omega | assumption) only [hq, go_sem, ↓reduceIte]
        exact hQ _ _ _ _ nofun rfl (by simp [tupOf, envOf, AV.strip, AV.strip1, quoA, e0])
      · rw [hok] at hq
        have e0 : quoM may t = some ((flushM x).b, r) := by unfold quoM; rw [hR, ← hg]; simp [hok]
        simp (disch := first | omega | assumption) only [hq, byts_of, wrap64, go_sem, ↓reduceIte]
        have e1 : (p.length : Int) + 1 + 1 = ((t.length + 1 - r.length : Nat) : Int) := by omega
        exact hQ _ _ _ _ nofun rfl (by simp [tupOf, envOf, AV.strip, AV.strip1, quoA, e0, e1])
    have c1' : ¬ ((c.toNat : Int) = 34) := fun e => c1 (by apply UInt8.toNat_inj.1; show c.toNat = 34; omega)
    rw [if_neg c1] at hg
    by_cases c2 : c = 92
    · subst c2
      simp only [if_true] at hg
      have hc : ¬ (((92 : UInt8).toNat : Int) = 34) := by decide
      have hc2 : (((92 : UInt8).toNat : Int) = 92) = True := eq_true rfl
      have h3 : (((p.length + 1 : Nat) : Int) + 1 ≤ ((t.length + 1 : Nat) : Int)) = True := eq_true (by omega)
      have h4 : (((p.length + 1 : Nat) : Int) + 1).toNat = p.length + 2 := by omega
      have hdr : (a :: t).drop (p.length + 2) = r := by rw [← hp]; simp
      simp (disch := first | omega | assumption) only [h0, h1, h2, hi, hc, hc2, wrap64, h3, h4, hdr, go_sem, ↓reduceIte]
      refine goK_ret (escC hs hx r (by simp only [Lim]; omega)) fun v H1 he => ?_
      unfold EscP at he
      cases hm : escM x r with
      | none =>
        rw [hm] at he hg
        subst he
        simp (disch := first | omega | assumption) only [go_sem, ↓reduceIte]
        exact hQ _ _ _ _ nofun rfl (by simp [tupOf, envOf, AV.strip, AV.strip1, fail hg.symm])
      | some y =>
        obtain ⟨x', t'⟩ := y
        rw [hm] at he hg
        obtain ⟨hv, o3, o4, hs3⟩ := he
        subst hv
        have h5 := escM_suf hm
        have h6 := escM_w hm
        have h7 : ¬ (((r.length - t'.length : Nat) : Int) = 0) := by omega
        have h8 : ((p.length + 1 : Nat) : Int) + (1 + ((r.length - t'.length : Nat) : Int)) = ((t.length + 1 - t'.length : Nat) : Int) := by omega
        simp (disch := first | omega | assumption) only [h7, wrap64, h8, go_sem, ↓reduceIte]
        exact goJ (hJ (t', x', o3, o4) _ (by simp; omega) ⟨h5.1.trans hsr, ⟨n, by show t'.length < n; omega, hg⟩, by show x'.w + t'.length ≤ t.length; omega, hs3⟩) (by simp (disch := first | omega | assumption) only [go_sem, ↓reduceIte])
    have c2' : ¬ ((c.toNat : Int) = 92) := fun e => c2 (by apply UInt8.toNat_inj.1; show c.toNat = 92; omega)
    rw [if_neg c2] at hg
    simp (disch := first | omega | assumption) only [h0, h1, h2, hi, c1', c2', hf, go_sem, ↓reduceIte]
    refine goK_pure (hmay c) ?_
    cases hm : may c
    · rw [hm] at hg
      simp (disch := first | omega | assumption) only [go_sem, ↓reduceIte]
      exact hQ _ _ _ _ nofun rfl (by simp [tupOf, envOf, AV.strip, AV.strip1, fail hg.symm])
    · rw [hm] at hg
      simp only [if_true] at hg
      simp (disch := first | omega | assumption) only [go_sem, ↓reduceIte]
      refine goK_ret (flushC hs hx) fun v H1 ⟨hv, o', hs1⟩ => ?_
      subst hv
      obtain ⟨hq1, ho1, _, _⟩ := hs1
      have hfw := flush_w x
      have hpw := put_w x c
      have hbl := bytesOf_len (flushM x).b
      simp (disch := first | omega | assumption) only [hq1, h2, hi, go_sem, ↓reduceIte]
      refine goP_ownS (by rw [hbl]; exact ho1) (by simp [hbl]; omega) (by simp [maxLen, hbl]; omega) fun o3 H2 hs3 => ?_
      have hq2 := own_keep ho1 hq1 hs3.kept
      simp (disch := first | omega | assumption) only [hq2, wrap64, go_sem, ↓reduceIte]
      have h8 : ((p.length + 1 : Nat) : Int) + 1 = ((t.length + 1 - r.length : Nat) : Int) := by omega
      refine goJ (hJ (r, x.put c, o3, .nil) _ (by simp) ⟨hsr, ⟨n, by show r.length < n; omega, hg⟩, by show (x.put c).w + r.length ≤ t.length; omega, ?_, ?_, rfl, nofun⟩) (by simp (disch := first | omega | assumption) only [h8, go_sem, ↓reduceIte])
      · simp only [upd_same, Sd.put]
        rw [← bytesOf_app]; rfl
      · simp only [Sd.put, List.length_append, List.length_cons, List.length_nil]
        exact own_upd (by simpa [hbl] using hs3.own) hq2
end Go.Proofs.YticbbfbpeimkbaaGreatDoor
namespace Go.Proofs.YticbbfbpeimkbaaGreatDoor
open Go.Ab Go.Lib
theorem u8_all {P : UInt8 → Prop} (h : ∀ x : Fin 256, P (UInt8.ofNat x.val)) (c : UInt8) : P c := by
  have := h ⟨c.toNat, c.toNat_lt⟩
  simpa using this
theorem getD_app {a b : List UInt8} {i : Nat} (h : i < a.length) : (a ++ b).getD i 0 = a.getD i 0 := by
  simp [List.getD, List.getElem?_append_left h]
theorem getD_at (a : List UInt8) (c : UInt8) (b : List UInt8) : (a ++ c :: b).getD a.length 0 = c := by simp
theorem check_some {n b1 b2 b3 sz lo hi k : Nat} (h : checkN n b1 b2 b3 sz lo hi = some k) :
    2 ≤ k ∧ k ≤ 4 ∧ k ≤ n ∧ k = sz ∧ lo ≤ b1 ∧ (3 ≤ k → 128 ≤ b2) ∧ (4 ≤ k → 128 ≤ b3) ∧ ∀ n' c2 c3, k ≤ n' → (3 ≤ k → c2 = b2) → (4 ≤ k → c3 = b3) → checkN n' b1 c2 c3 sz lo hi = some k := by
  unfold checkN at h
  split at h
  · rename_i hs
    split at h
    · cases h
    · rename_i hc
      cases h
      refine ⟨by omega, by omega, by omega, hs.symm, by omega, by omega, by omega, fun n' c2 c3 h1 _ _ => ?_⟩
      unfold checkN; rw [if_pos hs, if_neg (by omega)]
  · rename_i hs2
    split at h
    · rename_i hs
      split at h
      · cases h
      · rename_i hc
        cases h
        refine ⟨by omega, by omega, by omega, hs.symm, by omega, by omega, by omega, fun n' c2 c3 h1 h2 _ => ?_⟩
        have := h2 (by omega)
        unfold checkN; rw [if_neg hs2, if_pos hs, if_neg (by omega)]
    · rename_i hs3
      split at h
      · rename_i hs
        split at h
        · cases h
        · rename_i hc
          cases h
          refine ⟨by omega, by omega, by omega, hs.symm, by omega, by omega, by omega, fun n' c2 c3 h1 h2 h3 => ?_⟩
          have := h2 (by omega)
          have := h3 (by omega)
          unfold checkN; rw [if_neg hs2, if_neg hs3, if_pos hs, if_neg (by omega)]
      · cases h
theorem lo_T : ∀ x : Fin 256, 2 ≤ firstT x.val % 8 → firstT x.val % 8 ≤ 4 → 128 ≤ accLo (firstT x.val / 16) := by decide +kernel
theorem lo_ge {b : Nat} (h : b < 256) (h1 : 2 ≤ firstT b % 8) (h2 : firstT b % 8 ≤ 4) : 128 ≤ accLo (firstT b / 16) := lo_T ⟨b, h⟩ h1 h2
theorem validD_app : ∀ (n : Nat) (a b : List UInt8), a.length ≤ n → validD a = true → validD (a ++ b) = validD b
  | n, [], b, _, _ => by simp
  | 0, x :: t, b, h, _ => by simp at h
  | n + 1, x :: t, b, h, hv => by
    by_cases hx : x.toNat < 128
    · rw [validD_cons x t hx] at hv
      rw [List.cons_append, validD_cons x _ hx]
      exact validD_app n t b (by simpa using h) hv
    · have h0 : 128 ≤ ((x :: t).getD 0 0).toNat := by simp; omega
      rw [validD_lead (x :: t) (by simp) h0] at hv
      split at hv
      · cases hv
      · rename_i k hk
        obtain ⟨k2, k4, kl, ks, klo, _, _, kall⟩ := check_some hk
        have hkl : k ≤ (x :: t).length := kl
        have e1 : ((x :: t ++ b).getD 1 0) = (x :: t).getD 1 0 := getD_app (by omega)
        have e0 : ((x :: t ++ b).getD 0 0) = (x :: t).getD 0 0 := getD_app (by omega)
        rw [validD_lead (x :: t ++ b) (by simp) (by rw [e0]; exact h0), e0, e1]
        rw [kall (x :: t ++ b).length _ _ (by simp only [List.length_append]; omega) (fun h3 => by rw [getD_app (by omega)]) (fun h3 => by rw [getD_app (by omega)])]
        simp only
        rw [List.drop_append_of_le_length hkl]
        exact validD_app n _ b (by rw [List.length_drop]; omega) hv
theorem validA {a b : List UInt8} (h : validD a = true) : validD (a ++ b) = validD b := validD_app a.length a b (Nat.le_refl _) h
theorem validA2 {a b : List UInt8} (h : validD a = true) (h' : validD b = true) : validD (a ++ b) = true := (validA h).trans h'
theorem validD_split (c : UInt8) (hc : c.toNat < 128) : ∀ (n : Nat) (a b : List UInt8), a.length ≤ n → validD (a ++ c :: b) = true → validD a = true ∧ validD b = true
  | n, [], b, _, hv => by
    rw [List.nil_append, validD_cons c b hc] at hv
    exact ⟨validD_nil, hv⟩
  | 0, x :: t, b, h, _ => by simp at h
  | n + 1, x :: t, b, h, hv => by
    by_cases hx : x.toNat < 128
    · rw [List.cons_append, validD_cons x _ hx] at hv
      rw [validD_cons x t hx]
      exact validD_split c hc n t b (by simpa using h) hv
    · have h0 : 128 ≤ ((x :: t ++ c :: b).getD 0 0).toNat := by simp; omega
      have e0 : ((x :: t ++ c :: b).getD 0 0) = (x :: t).getD 0 0 := getD_app (by simp)
      have ec : ((x :: t ++ c :: b).getD (x :: t).length 0) = c := getD_at ..
      rw [validD_lead (x :: t ++ c :: b) (by simp) h0] at hv
      split at hv
      · cases hv
      · rename_i k hk
        obtain ⟨k2, k4, kl, ks, klo, k3, k4', kall⟩ := check_some hk
        have hlo := lo_ge ((x :: t ++ c :: b).getD 0 0).toNat_lt (by omega) (by omega)
        have hkl : k ≤ (x :: t).length := by
          rcases Nat.lt_or_ge (x :: t).length k with h1 | h1
          · exfalso
            have hl : (x :: t).length = 1 ∨ (x :: t).length = 2 ∨ (x :: t).length = 3 := by simp only [List.length_cons] at h1 ⊢; omega
            rcases hl with e | e | e
            · rw [e] at ec h1; rw [ec] at klo; omega
            · rw [e] at ec h1; rw [ec] at k3; have := k3 (by omega); omega
            · rw [e] at ec h1; rw [ec] at k4'; have := k4' (by omega); omega
          · exact h1
        have e1 : ((x :: t ++ c :: b).getD 1 0) = (x :: t).getD 1 0 := getD_app (by omega)
        rw [List.drop_append_of_le_length hkl] at hv
        obtain ⟨g1, g2⟩ := validD_split c hc n _ b (by rw [List.length_drop]; omega) hv
        refine ⟨?_, g2⟩
        rw [validD_lead (x :: t) (by simp) (by rw [← e0]; exact h0), ← e0, ← e1]
        rw [kall (x :: t).length _ _ hkl (fun h3 => by rw [getD_app (by omega)]) (fun h3 => by rw [getD_app (by omega)])]
        exact g1
theorem validS {c : UInt8} (hc : c.toNat < 128) {a b : List UInt8} (hv : validD (a ++ c :: b) = true) : validD a = true ∧ validD b = true := validD_split c hc a.length a b (Nat.le_refl _) hv
theorem ofN {n : Nat} (h : n < 256) : (UInt8.ofNat n).toNat = n := by rw [UInt8.toNat_ofNat']; omega
theorem enc_valid {n : Nat} (h1 : n ≤ 1114111) (h2 : ¬ (55296 ≤ n ∧ n ≤ 57343)) : validD (encM n) = true := by
  unfold encM
  split
  · rename_i h
    rw [validD_cons _ _ (by rw [ofN (by omega)]; omega)]; rfl
  · split
    · rename_i h0 h
      rw [validD_lead _ (by simp) (by simp only [List.getD_cons_zero]; rw [ofN (by omega)]; omega)]
      simp only [List.getD_cons_zero, List.getD_cons_succ, List.getD_nil, List.length_cons, List.length_nil]
      rw [ofN (show 192 + n / 64 < 256 by omega), ofN (show 128 + n % 64 < 256 by omega)]
      have e : firstT (192 + n / 64) = 2 := by unfold firstT; rw [if_neg (by omega), if_neg (by omega), if_pos (by omega)]
      rw [e]
      have e2 : checkN (0 + 1 + 1) (128 + n % 64) (0 : UInt8).toNat (0 : UInt8).toNat (2 % 8) (accLo (2 / 16)) (accHi (2 / 16)) = some 2 := by
        unfold checkN accLo accHi; simp; omega
      rw [e2]; rfl
    · split
      · rename_i h0 h1' h
        rw [validD_lead _ (by simp) (by simp only [List.getD_cons_zero]; rw [ofN (by omega)]; omega)]
        simp only [List.getD_cons_zero, List.getD_cons_succ, List.getD_nil, List.length_cons, List.length_nil]
        rw [ofN (show 224 + n / 4096 < 256 by omega), ofN (show 128 + n / 64 % 64 < 256 by omega), ofN (show 128 + n % 64 < 256 by omega)]
        have e2 : checkN (0 + 1 + 1 + 1) (128 + n / 64 % 64) (128 + n % 64) (0 : UInt8).toNat (firstT (224 + n / 4096) % 8) (accLo (firstT (224 + n / 4096) / 16)) (accHi (firstT (224 + n / 4096) / 16)) = some 3 := by
          have c : n / 4096 = 0 ∨ (1 ≤ n / 4096 ∧ n / 4096 < 13) ∨ n / 4096 = 13 ∨ (14 ≤ n / 4096 ∧ n / 4096 < 16) := by omega
          rcases c with c | c | c | c
          · rw [c]; unfold checkN; simp [firstT, accLo, accHi]; omega
          · have e : firstT (224 + n / 4096) = 3 := by unfold firstT; rw [if_neg (by omega), if_neg (by omega), if_neg (by omega), if_neg (by omega), if_pos (by omega)]
            rw [e]; unfold checkN; simp [accLo, accHi]; omega
          · rw [c]; unfold checkN; simp [firstT, accLo, accHi]; omega
          · have e : firstT (224 + n / 4096) = 3 := by unfold firstT; rw [if_neg (by omega), if_neg (by omega), if_neg (by omega), if_neg (by omega), if_neg (by omega), if_neg (by omega), if_pos (by omega)]
            rw [e]; unfold checkN; simp [accLo, accHi]; omega
        rw [e2]; rfl
      · rename_i h0 h1' h
        rw [validD_lead _ (by simp) (by simp only [List.getD_cons_zero]; rw [ofN (by omega)]; omega)]
        simp only [List.getD_cons_zero, List.getD_cons_succ, List.getD_nil, List.length_cons, List.length_nil]
        rw [ofN (show 240 + n / 262144 < 256 by omega), ofN (show 128 + n / 4096 % 64 < 256 by omega), ofN (show 128 + n / 64 % 64 < 256 by omega), ofN (show 128 + n % 64 < 256 by omega)]
        have e2 : checkN (0 + 1 + 1 + 1 + 1) (128 + n / 4096 % 64) (128 + n / 64 % 64) (128 + n % 64) (firstT (240 + n / 262144) % 8) (accLo (firstT (240 + n / 262144) / 16)) (accHi (firstT (240 + n / 262144) / 16)) = some 4 := by
          have c : n / 262144 = 0 ∨ (1 ≤ n / 262144 ∧ n / 262144 < 4) ∨ n / 262144 = 4 := by omega
          rcases c with c | c | c
          · rw [c]; unfold checkN; simp [firstT, accLo, accHi]; omega
          · have e : firstT (240 + n / 262144) = 4 := by unfold firstT; rw [if_neg (by omega), if_neg (by omega), if_neg (by omega), if_neg (by omega), if_neg (by omega), if_neg (by omega), if_neg (by omega), if_neg (by omega), if_pos (by omega)]
            rw [e]; unfold checkN; simp [accLo, accHi]; omega
          · rw [c]; unfold checkN; simp [firstT, accLo, accHi]; omega
        rw [e2]; rfl
theorem join_valid : ∀ (u : List Nat) (s : List UInt8), joinM u = some s → validD s = true
  | [], s, h => by cases h; rfl
  | u :: [], s, h => by
    simp only [joinM] at h
    split at h
    · cases h
    · rename_i h1
      split at h
      · cases h
      · simp only [Option.map_some, Option.some.injEq] at h
        subst h
        rw [List.append_nil]
        exact enc_valid (by omega) (by omega)
  | u :: v :: r, s, h => by
    rw [joinM] at h
    split at h
    · cases h
    · rename_i h1
      split at h
      · rename_i h2
        split at h
        · cases h
        · rename_i h3
          cases hr : joinM r with
          | none => simp [hr] at h
          | some x =>
            simp only [hr, Option.map_some, Option.some.injEq] at h
            subst h
            exact validA2 (enc_valid (by omega) (by omega)) (join_valid r x hr)
      · rename_i h2
        cases hr : joinM (v :: r) with
        | none => simp [hr] at h
        | some x =>
          simp only [hr, Option.map_some, Option.some.injEq] at h
          subst h
          exact validA2 (enc_valid (by omega) (by omega)) (join_valid (v :: r) x hr)
end Go.Proofs.YticbbfbpeimkbaaGreatDoor
namespace Go.Proofs.YticbbfbpeimkbaaGreatDoor
open Go.Ab
def qB (c : UInt8) : List UInt8 := if c = 34 ∨ c = 92 then [92, c] else if c.toNat < 32 then [92, 117, 48, 48, hexL.getD (c.toNat / 16) 0, hexL.getD (c.toNat % 16) 0] else [c]
def quoteM (s : List UInt8) : List UInt8 := 34 :: (s.flatMap qB ++ [34])
mutual
def putV : Val → List UInt8
  | .mk k n s l m => if k = 0 then [110, 117, 108, 108] else if k = 1 then boolT (decide (n = 1)) else if k = 2 then Lib.itoa n else if k = 3 then s else if k = 4 then quoteM s
    else if k = 6 then 91 :: (putVs true l ++ [93]) else 123 :: (putMs true m ++ [125])
def putVs : Bool → List Val → List UInt8
  | _, [] => []
  | f, v :: r => (if f then [] else [44]) ++ (putV v ++ putVs false r)
def putM : Mem → List UInt8
  | .mk s v => quoteM s ++ (58 :: putV v)
def putMs : Bool → List Mem → List UInt8
  | _, [] => []
  | f, x :: r => (if f then [] else [44]) ++ (putM x ++ putMs false r)
end
mutual
def singV : Val → Bool
  | .mk k _ _ l m => !(decide (k = 5) || decide (k = 8)) && (singVs l && singMs [] m)
def singVs : List Val → Bool
  | [] => true
  | v :: r => singV v && singVs r
def singM : Mem → Bool
  | .mk _ v => singV v
def singMs : List (List UInt8) → List Mem → Bool
  | _, [] => true
  | ns, x :: r => !(ns.contains (nmM x)) && (singM x && singMs (ns ++ [nmM x]) r)
def nmM : Mem → List UInt8
  | .mk s _ => s
end
def rightV (v : Val) : Bool := goodV v && singV v
end Go.Proofs.YticbbfbpeimkbaaGreatDoor
namespace Go.Proofs.YticbbfbpeimkbaaGreatDoor
open Go.Lib
theorem u8_48 {d : Nat} (h : d < 10) : (UInt8.ofNat (48 + d)).toNat = 48 + d := by
  rw [UInt8.toNat_ofNat']; omega
theorem parse_dec (u : Nat) (hu : u < 18446744073709551616) (r : List UInt8) : parseUint10 0 (decDigits u ++ r) = parseUint10 u r := by
  induction u using Nat.strongRecOn generalizing r with
  | _ u ih =>
    rw [decDigits]
    split
    · rename_i h
      simp only [List.cons_append, List.nil_append, parseUint10, u8_48 h]
      rw [if_pos (by omega), if_neg (by omega), if_neg (by omega)]
      congr 1
      omega
    · rename_i h
      have hd : u % 10 < 10 := Nat.mod_lt _ (by omega)
      rw [List.append_assoc, ih (u / 10) (by omega) (by omega)]
      simp only [List.cons_append, List.nil_append, parseUint10, u8_48 hd]
      rw [if_pos (by omega), if_neg (by omega), if_neg (by omega)]
      congr 1
      omega
theorem decDigits_ne (u : Nat) : decDigits u ≠ [] := by
  rw [decDigits]; split <;> simp
theorem decDigits_mem (u : Nat) : ∀ c ∈ decDigits u, 48 ≤ c.toNat ∧ c.toNat ≤ 57 := by
  induction u using Nat.strongRecOn with
  | _ u ih =>
    intro c hc
    rw [decDigits] at hc
    split at hc
    · rename_i h
      rw [List.mem_singleton] at hc
      subst hc
      rw [u8_48 h]; omega
    · rename_i h
      rcases List.mem_append.1 hc with e | e
      · exact ih (u / 10) (by omega) c e
      · rw [List.mem_singleton] at e
        subst e
        rw [u8_48 (Nat.mod_lt _ (by omega))]; omega
theorem parse_mag (u : Nat) (hu : u < 18446744073709551616) : parseMag (decDigits u) = .ok u := by
  unfold parseMag
  rw [if_neg (decDigits_ne u)]
  have := parse_dec u hu []
  rw [List.append_nil] at this
  rw [this]; rfl
theorem parse_itoa (n : Int) (h1 : -9223372036854775808 ≤ n) (h2 : n ≤ 9223372036854775807) : parseIntB 64 (itoa n) = .ok n := by
  rw [parseIntB_64]
  unfold itoa
  split
  · rename_i h
    rw [atoiAll_minus, parse_mag _ (by omega)]
    simp only [signed]
    rw [if_neg (by omega)]
    congr 1
    omega
  · rename_i h
    cases hd : decDigits n.toNat with
    | nil => exact absurd hd (decDigits_ne _)
    | cons c r =>
      have hc := decDigits_mem n.toNat c (by rw [hd]; simp)
      rw [atoiAll_plain c r (by omega) (by omega), ← hd, parse_mag _ (by omega)]
      simp only [signless]
      rw [if_neg (by omega)]
      congr 1
      omega
end Go.Proofs.YticbbfbpeimkbaaGreatDoor
namespace Go.Proofs.YticbbfbpeimkbaaGreatDoor
open Go.Ab
end Go.Proofs.YticbbfbpeimkbaaGreatDoor
namespace Go.Proofs.YticbbfbpeimkbaaGreatDoor
open Go.Ab
theorem wholeN_neg (t : List UInt8) : wholeN (45 :: t) = if run1 t = 0 then 0 else 1 + intN t := by
  unfold wholeN; exact if_pos rfl
theorem wholeN_pos {s : List UInt8} (h : ¬ s.head? = some 45) : wholeN s = intN s := by
  unfold wholeN; exact if_neg h
end Go.Proofs.YticbbfbpeimkbaaGreatDoor
namespace Go.Proofs.YticbbfbpeimkbaaGreatDoor
open Go.Ab Go.Lib
structure SdOk (q : Sd) (acc : List UInt8) : Prop where
  ok : q.ok = true
  small : ∀ u ∈ q.u, u < 128
  eq : acc = q.b ++ q.u.map UInt8.ofNat
theorem join_small : ∀ u : List Nat, (∀ x ∈ u, x < 128) → joinM u = some (u.map UInt8.ofNat)
  | [], _ => rfl
  | u :: r, h => by
    have h1 := h u (.head _)
    have h2 := join_small r fun x hx => h x (.tail _ hx)
    have e : encM u = [UInt8.ofNat u] := by unfold encM; rw [if_pos (by omega)]
    cases r with
    | nil => simp only [joinM]; rw [if_neg (by omega), if_neg (by omega), e]; rfl
    | cons v r => rw [joinM, if_neg (by omega), if_neg (by omega), h2, e]; rfl
theorem SdOk.flush {q : Sd} {acc : List UInt8} (h : SdOk q acc) : flushM q = ⟨acc, [], true⟩ := by
  unfold flushM; rw [join_small _ h.small, h.ok, h.eq]; rfl
theorem SdOk.put {q : Sd} {acc : List UInt8} (h : SdOk q acc) (c : UInt8) : SdOk (q.put c) (acc ++ [c]) := by
  unfold Sd.put; rw [h.flush]; exact ⟨rfl, by simp, by simp⟩
theorem SdOk.unit {q : Sd} {acc : List UInt8} (h : SdOk q acc) {u : Nat} (hu : u < 128) : SdOk ⟨q.b, q.u ++ [u], q.ok⟩ (acc ++ [UInt8.ofNat u]) :=
  ⟨h.ok, fun x hx => by rcases List.mem_append.1 hx with e | e; exact h.small x e; simp at e; omega, by rw [h.eq]; simp⟩
theorem unit_low : ∀ x : Fin 32, ∀ t, unitM (48 :: 48 :: hexL.getD (x.val / 16) 0 :: hexL.getD (x.val % 16) 0 :: t) = some x.val := by
  intro x t
  have h0 : hexD 48 = some 0 := by decide
  have h1 : ∀ y : Fin 32, hexD (hexL.getD (y.val / 16) 0) = some (y.val / 16) := by decide
  have h2 : ∀ y : Fin 32, hexD (hexL.getD (y.val % 16) 0) = some (y.val % 16) := by decide
  unfold unitM
  simp only [unitG, h0, h1 x, h2 x]
  congr 1; omega
theorem esc_q {q : Sd} {acc : List UInt8} (h : SdOk q acc) (c : UInt8) (hc : c = 34 ∨ c = 92) (t : List UInt8) : escM q (c :: t) = some (q.put c, t) := by
  rcases hc with rfl | rfl
  · simp only [escM]; rw [if_neg (by decide), if_neg (by decide)]; rfl
  · simp only [escM]; rw [if_neg (by decide), if_neg (by decide)]; rfl
theorem esc_u (q : Sd) (c : UInt8) (hc : c.toNat < 32) (t : List UInt8) : escM q (117 :: 48 :: 48 :: hexL.getD (c.toNat / 16) 0 :: hexL.getD (c.toNat % 16) 0 :: t) = some (⟨q.b, q.u ++ [c.toNat], q.ok⟩, t) := by
  simp only [escM]
  rw [if_pos trivial]
  have := unit_low ⟨c.toNat, hc⟩ t
  simp only at this
  rw [this]; rfl
theorem quoG_q (may : UInt8 → Bool) (hm : ∀ c : UInt8, 32 ≤ c.toNat → may c = true) : ∀ (s : List UInt8) (n : Nat) (q : Sd) (acc t : List UInt8), SdOk q acc → (s.flatMap qB).length < n → ∃ q', quoG may n (s.flatMap qB ++ 34 :: t) q = some (q', t) ∧ q'.ok = true ∧ q'.b = acc ++ s
  | [], n + 1, q, acc, t, h, _ => ⟨flushM q, by simp [quoG], by rw [h.flush], by rw [h.flush]; simp⟩
  | [], 0, q, acc, t, h, hn => by simp at hn
  | c :: s, 0, q, acc, t, h, hn => by simp at hn
  | c :: s, n + 1, q, acc, t, h, hn => by
    rw [List.flatMap_cons] at hn ⊢
    rw [List.append_assoc]
    rw [List.length_append] at hn
    by_cases h1 : c = 34 ∨ c = 92
    · have e : qB c = [92, c] := by unfold qB; rw [if_pos h1]
      rw [e] at hn ⊢
      simp only [List.length_cons, List.length_nil] at hn
      simp only [List.cons_append, List.nil_append, quoG]
      rw [if_neg (by decide), if_pos trivial, esc_q h c h1]
      obtain ⟨q', h2, h3, h4⟩ := quoG_q may hm s n (q.put c) (acc ++ [c]) t (h.put c) (by omega)
      exact ⟨q', h2, h3, by rw [h4]; simp⟩
    · by_cases h2 : c.toNat < 32
      · have e : qB c = [92, 117, 48, 48, hexL.getD (c.toNat / 16) 0, hexL.getD (c.toNat % 16) 0] := by unfold qB; rw [if_neg h1, if_pos h2]
        rw [e] at hn ⊢
        simp only [List.length_cons, List.length_nil] at hn
        simp only [List.cons_append, List.nil_append, quoG]
        rw [if_neg (by decide), if_pos trivial, esc_u q c h2]
        obtain ⟨q', h2', h3, h4⟩ := quoG_q may hm s n _ (acc ++ [UInt8.ofNat c.toNat]) t (h.unit (by omega)) (by omega)
        exact ⟨q', h2', h3, by rw [h4]; simp⟩
      · have e : qB c = [c] := by unfold qB; rw [if_neg h1, if_neg h2]
        rw [e] at hn ⊢
        simp only [List.length_cons, List.length_nil] at hn
        simp only [List.cons_append, List.nil_append, quoG]
        rw [if_neg (fun e => h1 (.inl e)), if_neg (fun e => h1 (.inr e)), if_pos (hm c (by omega))]
        obtain ⟨q', h2', h3, h4⟩ := quoG_q may hm s n (q.put c) (acc ++ [c]) t (h.put c) (by omega)
        exact ⟨q', h2', h3, by rw [h4]; simp⟩
theorem quoM_q (s t : List UInt8) : quoM hiB (s.flatMap qB ++ 34 :: t) = some (s, t) := by
  unfold quoM
  obtain ⟨q', h1, h2, h3⟩ := quoG_q hiB (fun c h => by simp [hiB, h]) s ((s.flatMap qB ++ 34 :: t).length + 1) ⟨[], [], true⟩ [] t ⟨rfl, by simp, rfl⟩ (by simp only [List.length_append, List.length_cons]; omega)
  rw [h1]
  simp only [h2, if_true, h3, List.nil_append]
theorem bk34 : bk 34 = false := by decide
theorem skB_no {c : UInt8} {t : List UInt8} (h : bk c = false) : skB (c :: t) = c :: t := by rw [skB, h]; rfl
theorem textM_q (s t : List UInt8) : textM (quoteM s ++ t) = .ok (s, t) := by
  unfold textM quoteM
  rw [List.cons_append, skB_no bk34, List.append_assoc, if_pos (by simp [List.isPrefixOf])]
  simp only [List.tail_cons, List.cons_append, List.nil_append]
  rw [quoM_q]
theorem nch_D (c : UInt8) : isD c = true → nch c = true := u8_all (P := fun c => isD c = true → nch c = true) (by decide +kernel) c
theorem nch_E (c : UInt8) : isE c = true → nch c = true := u8_all (P := fun c => isE c = true → nch c = true) (by decide +kernel) c
theorem nst_D (c : UInt8) : isD c = true → nst c = true := u8_all (P := fun c => isD c = true → nst c = true) (by decide +kernel) c
theorem nst_other (c : UInt8) : nst c = true → bk c = false ∧ c ≠ 123 ∧ c ≠ 91 ∧ c ≠ 34 ∧ c ≠ 93 ∧ c ≠ 125 ∧ c.toNat < 128 := u8_all (P := fun c => nst c = true → bk c = false ∧ c ≠ 123 ∧ c ≠ 91 ∧ c ≠ 34 ∧ c ≠ 93 ∧ c ≠ 125 ∧ c.toNat < 128) (by decide +kernel) c
theorem run1_take : ∀ (l : List UInt8) (c : UInt8), c ∈ l.take (run1 l) → isD c = true
  | [], c, h => by simp at h
  | x :: l, c, h => by
    rw [run1] at h
    split at h
    · rename_i hx
      rw [List.take_succ_cons] at h
      rcases List.mem_cons.1 h with e | e
      · rw [e]; exact hx
      · exact run1_take l c e
    · simp at h
theorem take_mono {l : List UInt8} {a b : Nat} (h : a ≤ b) {c : UInt8} (hc : c ∈ l.take a) : c ∈ l.take b :=
  (List.take_prefix_take_left h).subset hc
theorem intN_run (s : List UInt8) : intN s ≤ run1 s := by unfold intN; split <;> (try split) <;> omega
theorem intN_take {l : List UInt8} {c : UInt8} (h : c ∈ l.take (intN l)) : isD c = true := run1_take l c (take_mono (intN_run l) h)
theorem wholeN_take {s : List UInt8} {c : UInt8} (h : c ∈ s.take (wholeN s)) : nch c = true := by
  by_cases h45 : s.head? = some 45
  · cases s with
    | nil => simp at h
    | cons x t =>
      have hx : x = 45 := by simpa using h45
      subst hx
      rw [wholeN_neg] at h
      by_cases h0 : run1 t = 0
      · rw [if_pos h0] at h; simp at h
      · rw [if_neg h0, Nat.add_comm, List.take_succ_cons] at h
        rcases List.mem_cons.1 h with e | e
        · rw [e]; decide
        · exact nch_D c (intN_take e)
  · rw [wholeN_pos h45] at h
    exact nch_D c (intN_take h)
theorem fracN_take {s : List UInt8} {c : UInt8} (h : c ∈ s.take (fracN s)) : nch c = true := by
  unfold fracN at h
  split at h
  · rename_i h46
    cases s with
    | nil => simp at h
    | cons x t =>
      have hx : x = 46 := by simpa using h46.1
      subst hx
      simp only [List.tail_cons] at h
      rw [Nat.add_comm, List.take_succ_cons] at h
      rcases List.mem_cons.1 h with e | e
      · rw [e]; decide
      · exact nch_D c (run1_take _ c e)
  · simp at h
theorem whole_head {s : List UInt8} (h : wholeN s ≠ 0) : ∃ c t, s = c :: t ∧ nst c = true := by
  cases s with
  | nil => exact absurd (by decide) h
  | cons c t =>
    refine ⟨c, t, rfl, ?_⟩
    by_cases hc : c = 45
    · rw [hc]; decide
    · rw [wholeN_pos (by simpa using hc)] at h
      apply nst_D
      cases hd : isD c with
      | true => rfl
      | false => exact absurd (by simp [intN, run1, hd]) h
theorem sgN_take {r : List UInt8} {c : UInt8} (h : c ∈ r.take (sgN r)) : nch c = true := by
  unfold sgN at h
  split at h
  · rename_i hs
    cases r with
    | nil => simp at h
    | cons x t =>
      simp only [List.head?_cons, Option.some.injEq] at hs
      simp at h
      subst h
      rcases hs with rfl | rfl <;> decide
  · simp at h
theorem powN_take : ∀ (s : List UInt8) (c : UInt8), c ∈ s.take (powN s) → nch c = true
  | [], c, h => by simp at h
  | x :: r, c, h => by
    rw [powN] at h
    split at h
    · rename_i hx
      split at h
      · simp at h
      · rw [Nat.add_assoc, Nat.add_comm, List.take_succ_cons] at h
        rcases List.mem_cons.1 h with e | e
        · rw [e]; exact nch_E x hx
        · rw [List.take_add] at e
          rcases List.mem_append.1 e with e | e
          · exact sgN_take e
          · exact nch_D c (run1_take _ c e)
    · simp at h
theorem num_text {s : List UInt8} (h : numK s ≠ 0) : (∀ c ∈ s, nch c = true) ∧ ∃ c t, s = c :: t ∧ nst c = true := by
  unfold numK at h
  split at h
  · rename_i hl
    unfold numN at h hl
    split at h
    · exact absurd rfl h
    · rename_i hw
      rw [if_neg hw] at hl
      simp only at hl
      refine ⟨fun c hc => ?_, whole_head hw⟩
      have e : s = s.take (wholeN s + fracN (s.drop (wholeN s)) + powN (s.drop (wholeN s + fracN (s.drop (wholeN s))))) := by rw [hl, List.take_length]
      rw [e, List.take_add, List.take_add] at hc
      rcases List.mem_append.1 hc with hc | hc
      · rcases List.mem_append.1 hc with hc | hc
        · exact wholeN_take hc
        · exact fracN_take hc
      · exact powN_take _ _ hc
  · exact absurd rfl h
def NoN (r : List UInt8) : Prop := ∀ c, r.head? = some c → nch c = false
theorem takeN : ∀ (s r : List UInt8), (∀ c ∈ s, nch c = true) → NoN r → (s ++ r).takeWhile nch = s ∧ (s ++ r).dropWhile nch = r
  | [], [], _, _ => ⟨rfl, rfl⟩
  | [], c :: r, _, h => by
    have := h c rfl
    simp [this]
  | c :: s, r, h, hr => by
    have h1 := takeN s r (fun x hx => h x (.tail _ hx)) hr
    have h2 := h c (.head _)
    simp [h2, h1]
theorem numM_q {s r : List UInt8} (h : numK s ≠ 0) (hr : NoN r) : numM (s ++ r) = .ok (numV s, r) := by
  have h1 := takeN s r (num_text h).1 hr
  unfold numM
  rw [h1.1, h1.2, if_neg h]
theorem dec_isD {u : Nat} {c : UInt8} (h : c ∈ decDigits u) : isD c = true := by
  have := decDigits_mem u c h
  simp [isD, this]
theorem run1_all : ∀ l : List UInt8, (∀ c ∈ l, isD c = true) → run1 l = l.length
  | [], _ => rfl
  | c :: l, h => by
    rw [run1, if_pos (h c (.head _)), run1_all l fun x hx => h x (.tail _ hx)]; rfl
theorem dec_head (u : Nat) : ∃ c t, decDigits u = c :: t ∧ (c = 48 → t = []) := by
  induction u using Nat.strongRecOn with
  | _ u ih =>
    rw [decDigits]
    split
    · exact ⟨_, [], rfl, fun _ => rfl⟩
    · rename_i h
      obtain ⟨c, t, h1, h2⟩ := ih (u / 10) (by omega)
      refine ⟨c, t ++ [UInt8.ofNat (48 + u % 10)], by rw [h1]; rfl, fun e => ?_⟩
      have ht := h2 e
      subst e; subst ht
      rw [decDigits] at h1
      split at h1
      · rename_i h3
        have h4 := congrArg UInt8.toNat (List.cons.inj h1).1
        rw [u8_48 h3] at h4
        have : (48 : UInt8).toNat = 48 := rfl
        omega
      · have := congrArg List.length h1
        have h5 := decDigits_ne (u / 10 / 10)
        cases hd : decDigits (u / 10 / 10) with
        | nil => exact absurd hd h5
        | cons a b => rw [hd] at this; simp at this
theorem dec_intN (u : Nat) : intN (decDigits u) = (decDigits u).length ∧ run1 (decDigits u) ≠ 0 := by
  have h1 := run1_all (decDigits u) fun c hc => dec_isD hc
  obtain ⟨c, t, h2, h3⟩ := dec_head u
  have h4 : run1 (decDigits u) ≠ 0 := by rw [h1, h2]; simp
  refine ⟨?_, h4⟩
  unfold intN
  rw [if_neg h4]
  split
  · rename_i h5
    rw [h2] at h5 ⊢
    rw [h3 (by simpa using h5)]; rfl
  · exact h1
theorem itoa_numK (n : Int) : numK (itoa n) = 3 := by
  have key : ∀ s : List UInt8, wholeN s = s.length → s ≠ [] → numK s = 3 := fun s h h0 => by
    have hl : s.length ≠ 0 := fun e => h0 (List.length_eq_zero_iff.1 e)
    have e1 : fracN ([] : List UInt8) = 0 := by decide
    have hn : numN s = (s.length, 3) := by
      unfold numN
      rw [if_neg (by omega)]
      simp [h, e1, powN]
    unfold numK; rw [hn]; simp
  unfold itoa
  split
  · refine key _ ?_ (by simp)
    rw [wholeN_neg, if_neg (dec_intN _).2, (dec_intN _).1]; simp; omega
  · refine key _ ?_ (decDigits_ne _)
    obtain ⟨c, t, h2, h3⟩ := dec_head n.toNat
    have h5 : ¬ (decDigits n.toNat).head? = some 45 := by
      rw [h2]; simp
      intro e; subst e
      have := decDigits_mem n.toNat 45 (by rw [h2]; simp)
      have e : (45 : UInt8).toNat = 45 := rfl
      omega
    rw [wholeN_pos h5, (dec_intN _).1]
theorem bareM_iff' {n : Int} {s : List UInt8} {l : List Val} {m : List Mem} : bareM n s l m = true ↔ n = 0 ∧ s = [] ∧ l = [] ∧ m = [] := by
  simp [bareM]
inductive JS : Val → Prop
  | null : JS (.mk 0 0 [] [] [])
  | bool (n : Int) (h : n = 0 ∨ n = 1) : JS (.mk 1 n [] [] [])
  | int (n : Int) : JS (.mk 2 n [] [] [])
  | num (s : List UInt8) (h : numB s = true) : JS (.mk 3 0 s [] [])
  | text (s : List UInt8) (h : validD s = true) : JS (.mk 4 0 s [] [])
  | list (l : List Val) (h : allVs validD l = true) (h' : singVs l = true) : JS (.mk 6 0 [] l [])
  | obj (m : List Mem) (h : allMs validD m = true) (h' : singMs [] m = true) : JS (.mk 7 0 [] [] m)
theorem jshape : ∀ v, rightV v = true → JS v
  | .mk k n s l m, h => by
    simp only [rightV, goodV, allV, singV, Bool.and_eq_true, Bool.not_eq_true', Bool.or_eq_false_iff, decide_eq_false_iff_not] at h
    obtain ⟨h, ⟨h5, h8⟩, hl, hm⟩ := h
    split at h
    · rename_i k6
      subst k6
      simp only [Bool.and_eq_true, bareM_iff'] at h
      obtain ⟨h1, rfl, rfl, _, rfl⟩ := h
      exact .list l h1 hl
    · split at h
      · rename_i k7
        subst k7
        simp only [Bool.and_eq_true, bareM_iff'] at h
        obtain ⟨h1, rfl, rfl, rfl, _⟩ := h
        exact .obj m h1 hm
      · simp only [singleM, Bool.and_eq_true, bareM_iff'] at h
        obtain ⟨⟨_, _, rfl, rfl⟩, h⟩ := h
        split at h
        · rename_i k0
          subst k0
          simp only [Bool.and_eq_true, decide_eq_true_eq] at h
          obtain ⟨rfl, rfl⟩ := h
          exact .null
        split at h
        · rename_i k0
          subst k0
          simp only [Bool.and_eq_true, Bool.or_eq_true, decide_eq_true_eq] at h
          obtain ⟨h, rfl⟩ := h
          exact .bool n h
        split at h
        · rename_i k0
          subst k0
          simp only [decide_eq_true_eq] at h
          subst h
          exact .int n
        split at h
        · rename_i k0
          subst k0
          simp only [Bool.and_eq_true, decide_eq_true_eq] at h
          obtain ⟨rfl, h⟩ := h
          exact .num s h
        split at h
        · rename_i k0
          subst k0
          simp only [Bool.and_eq_true, decide_eq_true_eq] at h
          obtain ⟨rfl, h⟩ := h
          exact .text s h
        · cases h
theorem numB_ne {s : List UInt8} (h : numB s = true) : numK s ≠ 0 ∧ wholeB s = false := by
  simp only [numB, Bool.or_eq_true, decide_eq_true_eq, Bool.and_eq_true, Bool.not_eq_true'] at h
  rcases h with h | ⟨h, h2⟩
  · exact ⟨by omega, by simp [wholeB, h]⟩
  · exact ⟨by omega, h2⟩
theorem itoa_whole {n : Int} (h : inR n) : wholeB (itoa n) = true ∧ valI (itoa n) = n := by
  have h1 := parse_itoa n h.1 h.2
  exact ⟨by simp [wholeB, h1, okI, itoa_numK], by simp [valI, h1]⟩
theorem valM_hd {k : Nat} {c : UInt8} {t : List UInt8} (h0 : bk c = false) (h1 : c ≠ 123) (h2 : c ≠ 91) : ∃ p, valM k (c :: t) = headM (c :: t) p := by
  cases k with
  | zero => exact ⟨deepM, by simp only [valM, skB_no h0]; rw [if_neg (by simp [h1, h2])]⟩
  | succ n => exact ⟨valM n, by simp only [valM, skB_no h0]⟩
theorem put_head {v : Val} (h : rightV v = true) : ∃ c t, putV v = c :: t ∧ bk c = false ∧ c ≠ 93 ∧ c ≠ 125 ∧ c ≠ 44 := by
  cases jshape v h with
  | null => exact ⟨110, [117, 108, 108], by simp [putV], by decide, by decide, by decide, by decide⟩
  | bool n h1 =>
    rcases h1 with rfl | rfl
    · exact ⟨102, [97, 108, 115, 101], by simp [putV, boolT], by decide, by decide, by decide, by decide⟩
    · exact ⟨116, [114, 117, 101], by simp [putV, boolT], by decide, by decide, by decide, by decide⟩
  | int n =>
    obtain ⟨c, t, h1, h2⟩ := (num_text (s := itoa n) (by rw [itoa_numK]; decide)).2
    have h3 := nst_other c h2
    refine ⟨c, t, by simpa [putV] using h1, h3.1, h3.2.2.2.2.1, h3.2.2.2.2.2.1, fun e => ?_⟩
    subst e; revert h2; decide
  | num s hb =>
    obtain ⟨c, t, h1, h2⟩ := (num_text (numB_ne hb).1).2
    have h3 := nst_other c h2
    refine ⟨c, t, by simpa [putV] using h1, h3.1, h3.2.2.2.2.1, h3.2.2.2.2.2.1, fun e => ?_⟩
    subst e; revert h2; decide
  | text s hb => exact ⟨34, s.flatMap qB ++ [34], by simp [putV, quoteM], by decide, by decide, by decide, by decide⟩
  | list l h1 h2 => exact ⟨91, putVs true l ++ [93], by simp [putV], by decide, by decide, by decide, by decide⟩
  | obj m h1 h2 => exact ⟨123, putMs true m ++ [125], by simp [putV], by decide, by decide, by decide, by decide⟩
theorem mayM_no {x c : UInt8} {t : List UInt8} (h : bk c = false) (hx : x ≠ c) : mayM [x] (c :: t) = none := by
  unfold mayM; rw [skB_no h, if_neg (by simp [List.isPrefixOf, hx])]
theorem mayM_yes {c : UInt8} {t : List UInt8} (h : bk c = false) : mayM [c] (c :: t) = some t := by
  unfold mayM; rw [skB_no h, if_pos (by simp [List.isPrefixOf])]; rfl
theorem mustM_yes {c : UInt8} {t : List UInt8} (h : bk c = false) : mustM [c] (c :: t) = .ok ((), t) := by
  unfold mustM; rw [mayM_yes h]
theorem depthVs_iff (n : Int) : ∀ (l : List Val) (a : Int), (depthVs l a ≤ n ↔ a ≤ n ∧ ∀ v ∈ l, depthV v ≤ n)
  | [], a => by simp [depthVs]
  | v :: l, a => by
    rw [depthVs, depthVs_iff n l]
    have : mm2 true a (depthV v) ≤ n ↔ a ≤ n ∧ depthV v ≤ n := by simp only [mm2, if_true]; split <;> omega
    rw [this]; simp [and_assoc]
theorem depthMs_iff (n : Int) : ∀ (l : List Mem) (a : Int), (depthMs l a ≤ n ↔ a ≤ n ∧ ∀ v ∈ l, depthM v ≤ n)
  | [], a => by simp [depthMs]
  | v :: l, a => by
    rw [depthMs, depthMs_iff n l]
    have : mm2 true a (depthM v) ≤ n ↔ a ≤ n ∧ depthM v ≤ n := by simp only [mm2, if_true]; split <;> omega
    rw [this]; simp [and_assoc]
theorem NoN_cons {c : UInt8} {t : List UInt8} (h : nch c = false) : NoN (c :: t) := fun x hx => by
  cases hx; exact h
theorem hasN_iff (s : List UInt8) : ∀ l : List Mem, hasN s l = (l.map nmM).contains s
  | [] => rfl
  | .mk t v :: l => by
    rw [hasN, hasN_iff s l]
    by_cases h : t = s
    · simp [h, nmM]
    · simp [h, nmM, Ne.symm h]
def BackV (n : Nat) (v : Val) : Prop := ∀ r, NoN r → valM n (putV v ++ r) = if depthV v ≤ n then .ok (v, r) else .error 4
theorem items_back (n : Nat) : ∀ (l acc : List Val) (fuel : Nat) (r : List UInt8), (∀ v ∈ l, BackV n v) → (putVs false l).length < fuel →
    itemsM (valM n) fuel acc (putVs false l ++ 93 :: r) = if (∀ v ∈ l, depthV v ≤ n) then .ok (acc ++ l, r) else .error 4
  | _, _, 0, _, _, h => by omega
  | [], acc, fuel + 1, r, _, _ => by
    simp only [putVs, List.nil_append, itemsM, mayM_yes (show bk 93 = false by decide)]
    simp
  | v :: l, acc, fuel + 1, r, hv, hf => by
    have hf' : (putVs false l).length < fuel := by
      simp only [putVs, Bool.false_eq_true, if_false, List.length_append, List.length_cons, List.length_nil] at hf; omega
    have e : putVs false (v :: l) ++ 93 :: r = 44 :: (putV v ++ (putVs false l ++ 93 :: r)) := by simp [putVs]
    have hN : NoN (putVs false l ++ 93 :: r) := by
      cases l with
      | nil => exact NoN_cons (by decide)
      | cons w l => exact NoN_cons (by decide)
    rw [e, itemsM, mayM_no (show bk 44 = false by decide) (by decide)]
    simp only [mustM_yes (show bk 44 = false by decide), RR.bind, hv v (.head _) _ hN]
    by_cases hd : depthV v ≤ n
    · rw [if_pos hd]
      simp only
      rw [items_back n l (acc ++ [v]) fuel r (fun x hx => hv x (.tail _ hx)) hf']
      simp [hd]
    · rw [if_neg hd]
      rw [if_neg (fun h => hd (h v (.head _)))]
theorem list_back (n : Nat) (l : List Val) (r : List UInt8) (hv : ∀ v ∈ l, BackV n v) (hh : ∀ v ∈ l, rightV v = true) :
    listM (valM n) (putVs true l ++ 93 :: r) = if (∀ v ∈ l, depthV v ≤ n) then .ok (.mk 6 0 [] l [], r) else .error 4 := by
  cases l with
  | nil => simp only [putVs, List.nil_append, listM, mayM_yes (show bk 93 = false by decide)]; simp
  | cons v l =>
    have e : putVs true (v :: l) ++ 93 :: r = putV v ++ (putVs false l ++ 93 :: r) := by simp [putVs]
    have hN : NoN (putVs false l ++ 93 :: r) := by
      cases l with
      | nil => exact NoN_cons (by decide)
      | cons w l => exact NoN_cons (by decide)
    obtain ⟨c, t, h1, h2, h3, h4⟩ := put_head (hh v (.head _))
    have hm : mayM [93] (putV v ++ (putVs false l ++ 93 :: r)) = none := by rw [h1]; exact mayM_no h2 (Ne.symm h3)
    rw [e, listM, hm]
    simp only [RR.bind, hv v (.head _) _ hN]
    by_cases hd : depthV v ≤ n
    · rw [if_pos hd]
      simp only
      rw [items_back n l [v] _ r (fun x hx => hv x (.tail _ hx)) (by simp only [List.length_append, List.length_cons]; omega)]
      by_cases ha : ∀ v ∈ l, depthV v ≤ n
      · rw [if_pos ha, if_pos (fun x hx => by rcases List.mem_cons.1 hx with e | e; exact e ▸ hd; exact ha x e)]
        rfl
      · rw [if_neg ha, if_neg (fun h => ha fun x hx => h x (.tail _ hx))]
    · rw [if_neg hd]
      rw [if_neg (fun h => hd (h v (.head _)))]
theorem member_back {n : Nat} {s : List UInt8} {v : Val} {acc : List Mem} {r : List UInt8} (hv : BackV n v) (hr : NoN r) (hs : (acc.map nmM).contains s = false) :
    memberM (valM n) acc (putM (.mk s v) ++ r) = if depthV v ≤ n then .ok (acc ++ [.mk s v], r) else .error 4 := by
  have e : putM (.mk s v) ++ r = quoteM s ++ (58 :: (putV v ++ r)) := by simp [putM]
  rw [e, memberM, textM_q]
  simp only [RR.bind]
  rw [hasN_iff, hs]
  simp only [Bool.false_eq_true, if_false, mustM_yes (show bk 58 = false by decide), hv r hr]
  by_cases hd : depthV v ≤ n
  · rw [if_pos hd, if_pos hd]
  · rw [if_neg hd, if_neg hd]
theorem members_back (n : Nat) : ∀ (l acc : List Mem) (fuel : Nat) (r : List UInt8), (∀ s v, Mem.mk s v ∈ l → BackV n v) → singMs (acc.map nmM) l = true → (putMs false l).length < fuel →
    membersM (valM n) fuel acc (putMs false l ++ 125 :: r) = if (∀ x ∈ l, depthM x ≤ n) then .ok (acc ++ l, r) else .error 4
  | _, _, 0, _, _, _, h => by omega
  | [], acc, fuel + 1, r, _, _, _ => by
    simp only [putMs, List.nil_append, membersM, mayM_yes (show bk 125 = false by decide)]
    simp
  | .mk s v :: l, acc, fuel + 1, r, hv, hs, hf => by
    have hf' : (putMs false l).length < fuel := by
      simp only [putMs, Bool.false_eq_true, if_false, List.length_append, List.length_cons, List.length_nil] at hf; omega
    have e : putMs false (.mk s v :: l) ++ 125 :: r = 44 :: (putM (.mk s v) ++ (putMs false l ++ 125 :: r)) := by simp [putMs]
    have hN : NoN (putMs false l ++ 125 :: r) := by
      cases l with
      | nil => exact NoN_cons (by decide)
      | cons w l => exact NoN_cons (by decide)
    simp only [singMs, nmM, Bool.and_eq_true, Bool.not_eq_true'] at hs
    obtain ⟨hs1, _, hs2⟩ := hs
    rw [e, membersM, mayM_no (show bk 44 = false by decide) (by decide)]
    simp only [mustM_yes (show bk 44 = false by decide), RR.bind, member_back (hv s v (.head _)) hN hs1]
    by_cases hd : depthV v ≤ n
    · rw [if_pos hd]
      simp only
      rw [members_back n l (acc ++ [Mem.mk s v]) fuel r (fun s v hx => hv s v (.tail _ hx)) (by simpa [nmM] using hs2) hf']
      simp [hd, depthM]
    · rw [if_neg hd]
      rw [if_neg (fun h => hd (by have := h _ (.head _); simpa [depthM] using this))]
theorem map_back (n : Nat) (l : List Mem) (r : List UInt8) (hv : ∀ s v, Mem.mk s v ∈ l → BackV n v) (hs : singMs [] l = true) :
    mapM (valM n) (putMs true l ++ 125 :: r) = if (∀ x ∈ l, depthM x ≤ n) then .ok (.mk 7 0 [] [] l, r) else .error 4 := by
  cases l with
  | nil => simp only [putMs, List.nil_append, mapM, mayM_yes (show bk 125 = false by decide)]; simp
  | cons x l =>
    obtain ⟨s, v⟩ := x
    have e : putMs true (.mk s v :: l) ++ 125 :: r = putM (.mk s v) ++ (putMs false l ++ 125 :: r) := by simp [putMs]
    have hN : NoN (putMs false l ++ 125 :: r) := by
      cases l with
      | nil => exact NoN_cons (by decide)
      | cons w l => exact NoN_cons (by decide)
    simp only [singMs, nmM, Bool.and_eq_true, Bool.not_eq_true', List.nil_append] at hs
    obtain ⟨hs1, _, hs2⟩ := hs
    have hm : mayM [125] (putM (.mk s v) ++ (putMs false l ++ 125 :: r)) = none := mayM_no (c := 34) (by decide) (by decide)
    rw [e, mapM, hm]
    simp only [RR.bind, member_back (acc := []) (hv s v (.head _)) hN rfl]
    by_cases hd : depthV v ≤ n
    · rw [if_pos hd]
      simp only
      rw [members_back n l ([] ++ [Mem.mk s v]) _ r (fun s v hx => hv s v (.tail _ hx)) (by simpa [nmM] using hs2) (by simp only [List.length_append, List.length_cons]; omega)]
      by_cases ha : ∀ v ∈ l, depthM v ≤ n
      · rw [if_pos ha, if_pos (fun x hx => by rcases List.mem_cons.1 hx with e | e; rw [e]; exact hd; exact ha x e)]
        rfl
      · rw [if_neg ha, if_neg (fun h => ha fun x hx => h x (.tail _ hx))]
    · rw [if_neg hd]
      rw [if_neg (fun h => hd (by have := h _ (.head _); simpa [depthM] using this))]
theorem right_items : ∀ {l : List Val}, allVs validD l = true → singVs l = true → ∀ v ∈ l, rightV v = true
  | v :: l, h, h', x, hx => by
    simp only [allVs, singVs, Bool.and_eq_true] at h h'
    rcases List.mem_cons.1 hx with e | e
    · subst e; simp [rightV, goodV, h.1, h'.1]
    · exact right_items h.2 h'.2 x e
theorem right_mems : ∀ {l : List Mem} {ns : List (List UInt8)}, allMs validD l = true → singMs ns l = true → ∀ s v, Mem.mk s v ∈ l → validD s = true ∧ rightV v = true
  | .mk t w :: l, ns, h, h', s, v, hx => by
    simp only [allMs, allM, singMs, singM, nmM, Bool.and_eq_true] at h h'
    rcases List.mem_cons.1 hx with e | e
    · cases e; exact ⟨h.1.1, by simp [rightV, goodV, h.1.2, h'.2.1]⟩
    · exact right_mems h.2 h'.2.2 s v e
theorem word_null (r : List UInt8) (p) : headM (110 :: 117 :: 108 :: 108 :: r) p = .ok (nullV, r) := by
  simp only [headM]
  rw [if_neg (by decide), if_neg (by decide), if_neg (by decide), if_neg (by decide)]
  simp only [wordM, mayM, skB_no (show bk 110 = false by decide)]
  rw [if_pos (by simp [List.isPrefixOf])]; rfl
theorem word_bool (b : Bool) (r : List UInt8) (p) : headM (boolT b ++ r) p = .ok (.mk 1 (if b then 1 else 0) [] [] [], r) := by
  cases b
  · simp only [boolT, Bool.false_eq_true, if_false, List.cons_append, List.nil_append, headM]
    rw [if_neg (by decide), if_neg (by decide), if_neg (by decide), if_neg (by decide)]
    simp only [wordM, mustM, mayM, skB_no (show bk 102 = false by decide)]
    rw [if_neg (by simp [List.isPrefixOf]), if_neg (by simp [List.isPrefixOf]), if_pos (by simp [List.isPrefixOf])]; rfl
  · simp only [boolT, if_true, List.cons_append, List.nil_append, headM]
    rw [if_neg (by decide), if_neg (by decide), if_neg (by decide), if_neg (by decide)]
    simp only [wordM, mustM, mayM, skB_no (show bk 116 = false by decide)]
    rw [if_neg (by simp [List.isPrefixOf]), if_pos (by simp [List.isPrefixOf])]; rfl
theorem headM_num {c : UInt8} {t : List UInt8} (h : nst c = true) (p) : headM (c :: t) p = numM (c :: t) := by
  have h3 := nst_other c h
  simp only [headM]
  rw [if_neg h3.2.1, if_neg h3.2.2.1, if_neg h3.2.2.2.1, if_pos h]
theorem back : ∀ v, rightV v = true → wfV v → ∀ n, BackV n v := by
  refine Val.ind fun k n s l m ihl ihm h hwf q r hr => ?_
  obtain ⟨hn, hwl, hwm⟩ := hwf
  have flat : ∀ {v : Val}, depthV v = 0 → depthV v ≤ (q : Int) := fun e => by rw [e]; omega
  generalize hv : Val.mk k n s l m = v at h
  cases jshape v h with
  | null =>
    rw [if_pos (flat (by simp [depthV]))]
    have e : putV (.mk 0 0 [] [] []) ++ r = 110 :: 117 :: 108 :: 108 :: r := by simp [putV]
    rw [e]
    obtain ⟨p, hp⟩ := valM_hd (k := q) (c := 110) (t := 117 :: 108 :: 108 :: r) (by decide) (by decide) (by decide)
    rw [hp, word_null]; rfl
  | bool b hb =>
    rw [if_pos (flat (by simp [depthV]))]
    have e : putV (.mk 1 b [] [] []) ++ r = boolT (decide (b = 1)) ++ r := by simp [putV]
    rw [e]
    have h1 := word_bool (decide (b = 1)) r
    have e1 : (if decide (b = 1) = true then (1 : Int) else 0) = b := by rcases hb with rfl | rfl <;> decide
    rw [e1] at h1
    rcases hb with rfl | rfl
    · obtain ⟨p, hp⟩ := valM_hd (k := q) (c := 102) (t := 97 :: 108 :: 115 :: 101 :: r) (by decide) (by decide) (by decide)
      exact hp.trans (h1 p)
    · obtain ⟨p, hp⟩ := valM_hd (k := q) (c := 116) (t := 114 :: 117 :: 101 :: r) (by decide) (by decide) (by decide)
      exact hp.trans (h1 p)
  | int b =>
    rw [if_pos (flat (by simp [depthV]))]
    have e : putV (.mk 2 b [] [] []) ++ r = itoa b ++ r := by simp [putV]
    rw [e]
    have hb : inR b := by cases hv; exact hn
    have h0 : numK (itoa b) ≠ 0 := by rw [itoa_numK]; decide
    have h1 := numM_q h0 hr
    obtain ⟨c, t, h2, h3⟩ := (num_text h0).2
    have h4 := nst_other c h3
    rw [h2] at h1 ⊢
    obtain ⟨p, hp⟩ := valM_hd (k := q) (c := c) (t := t ++ r) h4.1 h4.2.1 h4.2.2.1
    rw [List.cons_append] at h1 ⊢
    rw [hp, headM_num h3, h1, ← h2]
    simp [numV, itoa_whole hb]
  | num s hs =>
    rw [if_pos (flat (by simp [depthV]))]
    have e : putV (.mk 3 0 s [] []) ++ r = s ++ r := by simp [putV]
    rw [e]
    have h0 := numB_ne hs
    have h1 := numM_q h0.1 hr
    obtain ⟨c, t, h2, h3⟩ := (num_text h0.1).2
    have h4 := nst_other c h3
    have e2 : numV s = .mk 3 0 s [] [] := by simp [numV, h0.2]
    rw [e2] at h1
    subst h2
    obtain ⟨p, hp⟩ := valM_hd (k := q) (c := c) (t := t ++ r) h4.1 h4.2.1 h4.2.2.1
    rw [List.cons_append] at h1 ⊢
    rw [hp, headM_num h3, h1]
  | text s hs =>
    rw [if_pos (flat (by simp [depthV]))]
    have e : putV (.mk 4 0 s [] []) ++ r = quoteM s ++ r := by simp [putV]
    rw [e]
    have h1 := textM_q s r
    have e2 : quoteM s ++ r = 34 :: (s.flatMap qB ++ [34] ++ r) := by simp [quoteM]
    rw [e2] at h1 ⊢
    obtain ⟨p, hp⟩ := valM_hd (k := q) (c := 34) (t := s.flatMap qB ++ [34] ++ r) (by decide) (by decide) (by decide)
    rw [hp]
    simp only [headM]
    rw [if_neg (by decide), if_neg (by decide), if_pos trivial, h1]; rfl
  | list l' h1 h2 =>
    cases hv
    have e : putV (.mk 6 0 [] l []) ++ r = 91 :: (putVs true l ++ 93 :: r) := by simp [putV]
    have ed : depthV (.mk 6 0 [] l []) = depthVs l 0 + 1 := by simp [depthV]
    rw [e, ed]
    have h3 := right_items h1 h2
    have h4 := (depthVs_iff 0 l 0)
    cases q with
    | zero =>
      have h5 : (0 : Int) ≤ depthVs l 0 := (depthVs_le l 0).1
      rw [if_neg (by simp; omega)]
      simp only [valM, skB_no (show bk 91 = false by decide)]
      rw [if_pos (by simp)]
    | succ q =>
      simp only [valM, skB_no (show bk 91 = false by decide), headM]
      rw [if_neg (by decide), if_pos trivial, list_back q l r (fun v hx => ihl v hx (h3 v hx) (wfVs_mem hwl v hx) q) h3]
      have h5 := depthVs_iff (q : Int) l 0
      by_cases ha : ∀ v ∈ l, depthV v ≤ (q : Int)
      · rw [if_pos ha, if_pos (by have := h5.2 ⟨by omega, ha⟩; simp; omega)]
      · rw [if_neg ha, if_neg (fun h6 => ha (h5.1 (by simp at h6; omega)).2)]
  | obj l' h1 h2 =>
    cases hv
    have e : putV (.mk 7 0 [] [] m) ++ r = 123 :: (putMs true m ++ 125 :: r) := by simp [putV]
    have ed : depthV (.mk 7 0 [] [] m) = depthMs m 0 + 1 := by simp [depthV]
    rw [e, ed]
    have h3 := right_mems h1 h2
    cases q with
    | zero =>
      have h5 : (0 : Int) ≤ depthMs m 0 := (depthMs_le m 0).1
      rw [if_neg (by simp; omega)]
      simp only [valM, skB_no (show bk 123 = false by decide)]
      rw [if_pos (by simp)]
    | succ q =>
      simp only [valM, skB_no (show bk 123 = false by decide), headM]
      rw [if_pos trivial, map_back q m r (fun s v hx => ihm s v hx (h3 s v hx).2 (wfMs_mem hwm s v hx) q) h2]
      have h5 := depthMs_iff (q : Int) m 0
      by_cases ha : ∀ v ∈ m, depthM v ≤ (q : Int)
      · rw [if_pos ha, if_pos (by have := h5.2 ⟨by omega, ha⟩; simp; omega)]
      · rw [if_neg ha, if_neg (fun h6 => ha (h5.1 (by simp at h6; omega)).2)]
end Go.Proofs.YticbbfbpeimkbaaGreatDoor
namespace Go.Proofs.YticbbfbpeimkbaaGreatDoor
open Go.Ab Go.Lib
structure SInv' (q : Sd) (t : List UInt8) : Prop where
  none : q.u = [] → validD (q.b ++ t) = true
  some : q.u ≠ [] → validD q.b = true ∧ validD t = true
theorem flush_b {q : Sd} (h : validD q.b = true) : validD (flushM q).b = true := by
  unfold flushM
  cases hj : joinM q.u with
  | none => simpa using h
  | some s => exact validA2 h (join_valid _ _ hj)
theorem flush_nil {q : Sd} (h : q.u = []) : (flushM q).b = q.b := by unfold flushM; rw [h]; simp [joinM]
theorem SInv'.low {q : Sd} {c : UInt8} {t : List UInt8} (h : SInv' q (c :: t)) (hc : c.toNat < 128) : validD q.b = true ∧ validD t = true := by
  by_cases hu : q.u = []
  · exact validS hc (h.none hu)
  · obtain ⟨h1, h2⟩ := h.some hu
    rw [validD_cons c t hc] at h2
    exact ⟨h1, h2⟩
theorem SInv'.put {q : Sd} {c : UInt8} {t : List UInt8} (h : SInv' q (c :: t)) : SInv' (q.put c) t := by
  refine ⟨fun _ => ?_, fun e => absurd rfl e⟩
  show validD (((flushM q).b ++ [c]) ++ t) = true
  rw [List.append_assoc]
  by_cases hu : q.u = []
  · rw [flush_nil hu]; exact h.none hu
  · obtain ⟨h1, h2⟩ := h.some hu
    exact validA2 (flush_b h1) h2
def LR (n : Int) (l : List Val) : Prop := ∀ v ∈ l, rightV v = true ∧ depthV v ≤ n
theorem LR.all {n : Int} : ∀ {l : List Val}, LR n l → allVs validD l = true ∧ singVs l = true
  | [], _ => ⟨rfl, rfl⟩
  | v :: l, h => by
    have h1 := LR.all (l := l) fun x hx => h x (.tail _ hx)
    have h2 := (h v (.head _)).1
    simp only [rightV, goodV, Bool.and_eq_true] at h2
    simp [allVs, singVs, h1.1, h1.2, h2.1, h2.2]
end Go.Proofs.YticbbfbpeimkbaaGreatDoor
namespace Go.Proofs.YticbbfbpeimkbaaGreatDoor
open Go.Ab
def codeN (l : List UInt8) : Nat × Nat := if l = [] then (0, 0) else if Lib.decodeL l = (65533, 1) then (0, 0) else Lib.decodeL l
def cv (v0 : Nat) (b : Nat → Nat) : Nat → Nat
  | 0 => v0
  | j + 1 => cv v0 b j * 64 + b (j + 1) % 64
end Go.Proofs.YticbbfbpeimkbaaGreatDoor
namespace Go.Proofs.YticbbfbpeimkbaaGreatDoor
open Go.Ab
theorem codeN_good {l : List UInt8} (hne : l ≠ []) (h : (codeN l).2 ≠ 0) : Lib.validD l = Lib.validD (l.drop (codeN l).2) ∧ (codeN l).2 ≤ l.length := by
  unfold codeN at h ⊢
  rw [if_neg hne] at h ⊢
  split at h
  · simp at h
  · rename_i e
    rw [if_neg e]
    refine ⟨?_, Lib.decodeL_le l hne⟩
    rw [Lib.validD_step l hne, if_neg]
    rintro ⟨a, b⟩
    exact e (Prod.ext a b)
end Go.Proofs.YticbbfbpeimkbaaGreatDoor
namespace Go.Proofs.YticbbfbpeimkbaaGreatDoor
open Go.Ab Go.Lib
end Go.Proofs.YticbbfbpeimkbaaGreatDoor
namespace Go.Proofs.YticbbfbpeimkbaaGreatDoor
open Go.Ab
end Go.Proofs.YticbbfbpeimkbaaGreatDoor
namespace Go.Proofs.YticbbfbpeimkbaaGreatDoor
open Go.Ab Go.Lib
end Go.Proofs.YticbbfbpeimkbaaGreatDoor
namespace Go.Proofs.YticbbfbpeimkbaaGreatDoor
open Go.Ab Go.Lib
structure DecOk (l : List UInt8) (c k : Nat) : Prop where
  enc : encM c = l.take k
  le : c ≤ 1114111
  pos : 1 ≤ k
  len : k ≤ l.length
  one : k = 1 → c = (l.getD 0 0).toNat ∧ (l.getD 0 0).toNat < 128
  high : k ≠ 1 → ∀ x ∈ l.take k, 128 ≤ x.toNat
theorem ofN_eq {n : Nat} {b : UInt8} (h : n = b.toNat) : UInt8.ofNat n = b := UInt8.toNat_inj.1 (by rw [UInt8.toNat_ofNat', h]; have := b.toNat_lt; omega)
theorem dec_two {b0 b1 : UInt8} {t : List UInt8} (h0 : b0.toNat / 32 = 6) (h1 : b1.toNat / 64 = 2) (hc : 128 ≤ b0.toNat % 32 * 64 + b1.toNat % 64) : DecOk (b0 :: b1 :: t) (b0.toNat % 32 * 64 + b1.toNat % 64) 2 := by
  refine ⟨?_, by omega, by omega, by simp, fun h => by omega, fun _ x hx => ?_⟩
  · unfold encM
    rw [if_neg (by omega), if_pos (by omega)]
    simp only [List.take_succ_cons, List.take_zero, List.cons.injEq, and_true]
    exact ⟨ofN_eq (by omega), ofN_eq (by omega)⟩
  · simp only [List.take_succ_cons, List.take_zero, List.mem_cons, List.not_mem_nil, or_false] at hx
    rcases hx with rfl | rfl <;> omega
theorem dec_three {b0 b1 b2 : UInt8} {t : List UInt8} (h0 : b0.toNat / 16 = 14) (h1 : b1.toNat / 64 = 2) (h2 : b2.toNat / 64 = 2) (hc : 2048 ≤ b0.toNat % 16 * 4096 + b1.toNat % 64 * 64 + b2.toNat % 64) :
    DecOk (b0 :: b1 :: b2 :: t) (b0.toNat % 16 * 4096 + b1.toNat % 64 * 64 + b2.toNat % 64) 3 := by
  refine ⟨?_, by omega, by omega, by simp, fun h => by omega, fun _ x hx => ?_⟩
  · unfold encM
    rw [if_neg (by omega), if_neg (by omega), if_pos (by omega)]
    simp only [List.take_succ_cons, List.take_zero, List.cons.injEq, and_true]
    exact ⟨ofN_eq (by omega), ofN_eq (by omega), ofN_eq (by omega)⟩
  · simp only [List.take_succ_cons, List.take_zero, List.mem_cons, List.not_mem_nil, or_false] at hx
    rcases hx with rfl | rfl | rfl <;> omega
theorem dec_four {b0 b1 b2 b3 : UInt8} {t : List UInt8} (h0 : b0.toNat / 8 = 30) (h1 : b1.toNat / 64 = 2) (h2 : b2.toNat / 64 = 2) (h3 : b3.toNat / 64 = 2)
    (hc : 65536 ≤ b0.toNat % 8 * 262144 + b1.toNat % 64 * 4096 + b2.toNat % 64 * 64 + b3.toNat % 64) (hd : b0.toNat % 8 * 262144 + b1.toNat % 64 * 4096 + b2.toNat % 64 * 64 + b3.toNat % 64 ≤ 1114111) :
    DecOk (b0 :: b1 :: b2 :: b3 :: t) (b0.toNat % 8 * 262144 + b1.toNat % 64 * 4096 + b2.toNat % 64 * 64 + b3.toNat % 64) 4 := by
  refine ⟨?_, by omega, by omega, by simp, fun h => by omega, fun _ x hx => ?_⟩
  · unfold encM
    rw [if_neg (by omega), if_neg (by omega), if_neg (by omega)]
    simp only [List.take_succ_cons, List.take_zero, List.cons.injEq, and_true]
    exact ⟨ofN_eq (by omega), ofN_eq (by omega), ofN_eq (by omega), ofN_eq (by omega)⟩
  · simp only [List.take_succ_cons, List.take_zero, List.mem_cons, List.not_mem_nil, or_false] at hx
    rcases hx with rfl | rfl | rfl | rfl <;> omega
theorem dec_ok {l : List UInt8} (hne : l ≠ []) (h : decodeL l ≠ (65533, 1)) : DecOk l (decodeL l).1 (decodeL l).2 := by
  rw [decodeL_N] at h ⊢
  obtain ⟨b0, t, rfl⟩ : ∃ b0 t, l = b0 :: t := by cases l with | nil => exact absurd rfl hne | cons a b => exact ⟨a, b, rfl⟩
  simp only [List.getD_cons_zero, List.getD_cons_succ] at h ⊢
  unfold decodeN at h ⊢
  split at h
  · rename_i h0
    rw [if_pos h0]
    refine ⟨?_, by simp only; omega, by simp, by simp, fun _ => ⟨by simp, by simpa using h0⟩, fun h => absurd rfl h⟩
    simp only
    unfold encM
    rw [if_pos (by omega)]
    simp only [List.take_succ_cons, List.take_zero, List.cons.injEq, and_true]
    exact ofN_eq rfl
  · rename_i h0
    rw [if_neg h0]
    split at h
    · rename_i h1
      rw [if_pos h1]
      split at h
      · rename_i h2
        rw [if_pos h2]
        obtain ⟨b1, t, rfl⟩ : ∃ b1 r, t = b1 :: r := by cases t with | nil => simp at h1 | cons a b => exact ⟨a, b, rfl⟩
        exact dec_two h1.1 (by simpa using h1.2.2) (by simpa using h2)
      · exact absurd rfl h
    · rename_i h1
      rw [if_neg h1]
      split at h
      · rename_i h2
        rw [if_pos h2]
        split at h
        · rename_i h3
          rw [if_pos h3]
          obtain ⟨b1, t, rfl⟩ : ∃ b1 r, t = b1 :: r := by cases t with | nil => simp at h2 | cons a b => exact ⟨a, b, rfl⟩
          obtain ⟨b2, t, rfl⟩ : ∃ b2 r, t = b2 :: r := by cases t with | nil => simp at h2 | cons a b => exact ⟨a, b, rfl⟩
          exact dec_three h2.1 (by simpa using h2.2.1.2) (by simpa using h2.2.2.2) (by simpa using h3.1)
        · exact absurd rfl h
      · rename_i h2
        rw [if_neg h2]
        split at h
        · rename_i h3
          rw [if_pos h3]
          split at h
          · rename_i h4
            rw [if_pos h4]
            obtain ⟨b1, t, rfl⟩ : ∃ b1 r, t = b1 :: r := by cases t with | nil => simp at h3 | cons a b => exact ⟨a, b, rfl⟩
            obtain ⟨b2, t, rfl⟩ : ∃ b2 r, t = b2 :: r := by cases t with | nil => simp at h3 | cons a b => exact ⟨a, b, rfl⟩
            obtain ⟨b3, t, rfl⟩ : ∃ b3 r, t = b3 :: r := by cases t with | nil => simp at h3 | cons a b => exact ⟨a, b, rfl⟩
            exact dec_four h3.1 (by simpa using h3.2.1.2) (by simpa using h3.2.2.1.2) (by simpa using h3.2.2.2.2) (by simpa using h4.1) (by have := h4.2; simp at this ⊢; omega)
          · exact absurd rfl h
        · exact absurd rfl h
theorem code_ok {l : List UInt8} (hne : l ≠ []) (hv : validD l = true) : DecOk l (codeN l).1 (codeN l).2 ∧ validD (l.drop (codeN l).2) = true := by
  rw [validD_step l hne] at hv
  split at hv
  · cases hv
  · rename_i h
    have h' : decodeL l ≠ (65533, 1) := fun e => h ⟨by rw [e], by rw [e]⟩
    have e : codeN l = decodeL l := by unfold codeN; rw [if_neg hne, if_neg h']
    rw [e]
    exact ⟨dec_ok hne h', hv⟩
theorem quoG_fuel {may : UInt8 → Bool} : ∀ (n m : Nat) (t : List UInt8) (q : Sd), t.length < n → t.length < m → quoG may n t q = quoG may m t q
  | 0, _, _, _, h, _ => by omega
  | _, 0, _, _, _, h => by omega
  | _ + 1, _ + 1, [], _, _, _ => rfl
  | n + 1, m + 1, c :: t, q, h1, h2 => by
    simp only [List.length_cons] at h1 h2
    simp only [quoG]
    split
    · rfl
    · split
      · cases he : escM q t with
        | none => rfl
        | some x =>
          have := (escM_suf (q' := x.1) (t' := x.2) he).2
          exact quoG_fuel n m x.2 x.1 (by omega) (by omega)
      · split
        · exact quoG_fuel n m t _ (by omega) (by omega)
        · rfl
def quoF (may : UInt8 → Bool) (t : List UInt8) (q : Sd) : Option (Sd × List UInt8) := quoG may (t.length + 1) t q
theorem quoF_34 (may : UInt8 → Bool) (t : List UInt8) (q : Sd) : quoF may (34 :: t) q = some (flushM q, t) := by simp [quoF, quoG]
theorem quoF_92 (may : UInt8 → Bool) (t : List UInt8) (q : Sd) : quoF may (92 :: t) q = match escM q t with | none => none | some (q', t') => quoF may t' q' := by
  unfold quoF
  simp only [List.length_cons, quoG]
  rw [if_neg (by decide), if_pos trivial]
  cases he : escM q t with
  | none => rfl
  | some x =>
    have := (escM_suf (q' := x.1) (t' := x.2) he).2
    exact quoG_fuel _ _ x.2 x.1 (by omega) (by omega)
theorem quoF_c (may : UInt8 → Bool) {c : UInt8} (t : List UInt8) (q : Sd) (h1 : c ≠ 34) (h2 : c ≠ 92) : quoF may (c :: t) q = if may c then quoF may t (q.put c) else none := by
  unfold quoF
  simp only [List.length_cons, quoG]
  rw [if_neg h1, if_neg h2]
def finF (x : Option (Sd × List UInt8)) : Option (List UInt8 × List UInt8) := match x with
  | some (q, t') => if q.ok then some (q.b, t') else none
  | none => none
theorem quoM_F (may : UInt8 → Bool) (t : List UInt8) : quoM may t = finF (quoF may t ⟨[], [], true⟩) := rfl
def lineB (c : UInt8) : Bool := decide (c ≠ 10) && decide (c ≠ 13)
theorem quoF_high : ∀ (bs t out : List UInt8), (∀ x ∈ bs, 128 ≤ x.toNat) → quoF lineB (bs ++ t) ⟨out, [], true⟩ = quoF lineB t ⟨out ++ bs, [], true⟩
  | [], t, out, _ => by simp
  | b :: bs, t, out, h => by
    have hb := h b (.head _)
    have h0 : ∀ n : UInt8, n.toNat < 128 → b ≠ n := fun n hn e => by subst e; omega
    rw [List.cons_append, quoF_c lineB _ _ (h0 34 (by decide)) (h0 92 (by decide)), if_pos (by simp [lineB, h0 10 (by decide), h0 13 (by decide)])]
    have e : Sd.put ⟨out, [], true⟩ b = ⟨out ++ [b], [], true⟩ := by simp [Sd.put, flushM, joinM]
    rw [e, quoF_high bs t (out ++ [b]) fun x hx => h x (.tail _ hx)]
    simp
theorem quoF_code {l out : List UInt8} {us : List Nat} {tt : List UInt8} (hj : joinM us = some tt) {c k : Nat} (h : DecOk l c k) (hne : l ≠ []) (h1 : l.getD 0 0 ≠ 34) (h2 : l.getD 0 0 ≠ 92) (h3 : lineB (l.getD 0 0) = true) :
    quoF lineB l ⟨out, us, true⟩ = quoF lineB (l.drop k) ⟨out ++ tt ++ l.take k, [], true⟩ := by
  obtain ⟨b, t, rfl⟩ : ∃ b t, l = b :: t := by cases l with | nil => exact absurd rfl hne | cons a b => exact ⟨a, b, rfl⟩
  simp only [List.getD_cons_zero] at h1 h2 h3
  obtain ⟨m, rfl⟩ : ∃ m, k = m + 1 := ⟨k - 1, by have := h.pos; omega⟩
  rw [quoF_c lineB t _ h1 h2, if_pos h3]
  have e : Sd.put ⟨out, us, true⟩ b = ⟨out ++ tt ++ [b], [], true⟩ := by simp [Sd.put, flushM, hj]
  rw [e, List.drop_succ_cons, List.take_succ_cons]
  by_cases hm : m = 0
  · subst hm; simp
  · have hh := h.high (by omega)
    rw [List.take_succ_cons] at hh
    have := quoF_high (t.take m) (t.drop m) (out ++ tt ++ [b]) fun x hx => hh x (.tail _ hx)
    rw [List.take_append_drop] at this
    rw [this]; simp
end Go.Proofs.YticbbfbpeimkbaaGreatDoor
namespace Go.Proofs.YticbbfbpeimkbaaGreatDoor
open Go.Ab Go.Lib
end Go.Proofs.YticbbfbpeimkbaaGreatDoor
namespace Go.Proofs.YticbbfbpeimkbaaGreatDoor
open Go.Ab Go.Lib
def dotsT : List UInt8 := [46, 46, 46]
def marksT : List UInt8 := [33, 36, 38, 40, 41, 58, 61, 64, 91, 93, 123, 124, 125]
def isMark : List UInt8 → Bool
  | [c] => decide (0 ≤ Lib.indexByte marksT c)
  | _ => false
def rightK (t : Tok) : Bool := if t.k = 1 then decide (t.s = dotsT) || isMark t.s else if t.k = 2 then nameM t.s else if t.k = 3 ∨ t.k = 4 then decide (numK t.s = t.k) else if t.k = 5 then validD t.s else false
def unitT (u : Nat) : List UInt8 := [92, 117, hexL.getD (u / 4096 % 16) 0, hexL.getD (u / 256 % 16) 0, hexL.getD (u / 16 % 16) 0, hexL.getD (u % 16) 0]
def pieceT (c : Nat) (bs : List UInt8) : List UInt8 :=
  if c = 34 ∨ c = 92 then [92, UInt8.ofNat c] else if c = 10 then [92, 110] else if c < 32 then unitT c
  else if 65536 ≤ c then unitT (55296 + (c - 65536) / 1024) ++ unitT (56320 + (c - 65536) % 1024) else bs
def tquoG : Nat → List UInt8 → List UInt8
  | 0, _ => []
  | n + 1, l => if l = [] then [] else pieceT (codeN l).1 (l.take (codeN l).2) ++ tquoG n (l.drop (codeN l).2)
def tquo (s : List UInt8) : List UInt8 := 34 :: (tquoG s.length s ++ [34])
def tokT (t : Tok) : List UInt8 := if t.k = 5 then tquo t.s else t.s
def tjoin (l : List Tok) : List UInt8 := Lib.join (l.map tokT) [32]
def tprint (l : List Tok) : List UInt8 × Bool := if l.all rightK then (tjoin l, true) else ([], false)
def linesG : List UInt8 → List UInt8 → List (List UInt8)
  | cur, [] => [cur]
  | cur, [c] => if c = 10 ∨ c = 13 then [cur, []] else [cur ++ [c]]
  | cur, c :: d :: r => if c = 10 then cur :: linesG [] (d :: r) else if c = 13 then (if d = 10 then cur :: linesG [] r else cur :: linesG [] (d :: r)) else linesG (cur ++ [c]) (d :: r)
def linesM (s : List UInt8) : List (List UInt8) := linesG [] s
def isBl (c : UInt8) : Bool := decide (c = 9) || decide (c = 32)
def leadN (s : List UInt8) : Nat := (s.takeWhile isBl).length
def bareL (s : List UInt8) : Bool := s.all isBl
def indG : List (List UInt8) → Int → Int
  | [], a => a
  | s :: r, a => indG r (if bareL s then a else if a < 0 ∨ (leadN s : Int) < a then leadN s else a)
def indM (l : List (List UInt8)) : Int := indG l.tail (-1)
def dropM (l : List (List UInt8)) : List (List UInt8) := match l with
  | [] => []
  | x :: r => x :: r.map fun s => s.drop (indM l).toNat
def trimR (l : List (List UInt8)) : List (List UInt8) := (l.reverse.dropWhile bareL).reverse
def blockM (raw : List UInt8) : List UInt8 := Lib.join (trimR ((dropM (linesM raw)).dropWhile bareL)) [10]
def threeT : List UInt8 := [34, 34, 34]
def escT : List UInt8 := [92, 34, 34, 34]
def bomT : List UInt8 := [239, 187, 191]
def rawM : Nat → List UInt8 → List UInt8 → Option (List UInt8 × List UInt8)
  | 0, _, _ => none
  | n + 1, raw, t => match t with
    | [] => none
    | c :: r => if threeT.isPrefixOf (c :: r) then some (raw, r.drop 2) else if escT.isPrefixOf (c :: r) then rawM n (raw ++ threeT) (r.drop 3) else rawM n (raw ++ [c]) r
def notEol (c : UInt8) : Bool := !(decide (c = 10) || decide (c = 13))
def gapN : List UInt8 → Nat
  | [] => 0
  | c :: r => if c = 9 ∨ c = 10 ∨ c = 13 ∨ c = 32 ∨ c = 44 then 1 else if bomT.isPrefixOf (c :: r) then 3 else if c = 35 then 1 + (r.takeWhile notEol).length else 0
def wordN (s : List UInt8) : Nat := (s.takeWhile fun c => isL c || isD c).length
def oneT : List UInt8 → Option (Tok × List UInt8)
  | [] => none
  | c :: r => if threeT.isPrefixOf (c :: r) then (rawM (r.length + 1) [] (r.drop 2)).map fun x => (⟨5, blockM x.1⟩, x.2)
    else if c = 34 then (quoM lineB r).map fun x => (⟨5, x.1⟩, x.2)
    else if dotsT.isPrefixOf (c :: r) then some (⟨1, dotsT⟩, r.drop 2)
    else if 0 ≤ Lib.indexByte marksT c then some (⟨1, [c]⟩, r)
    else if isL c then some (⟨2, (c :: r).take (wordN (c :: r))⟩, (c :: r).drop (wordN (c :: r)))
    else if (numN (c :: r)).1 = 0 then none
    else if ((c :: r).drop (numN (c :: r)).1).head?.any fun d => isL d || isD d || decide (d = 46) then none
    else some (⟨(numN (c :: r)).2, (c :: r).take (numN (c :: r)).1⟩, (c :: r).drop (numN (c :: r)).1)
def readG : Nat → List Tok → List UInt8 → Except Int (List Tok)
  | 0, _, _ => .error 0
  | n + 1, l, t => if t = [] then .ok l else if gapN t ≠ 0 then readG n l (t.drop (gapN t)) else match oneT t with
    | none => .error 2
    | some (x, t') => readG n (l ++ [x]) t'
def signB (c : Nat) : Bool := decide (c = 9) || (decide (c = 10) || (decide (c = 13) || (decide (32 ≤ c) && decide (c ≤ 65535))))
def srcG : Nat → List UInt8 → Bool
  | 0, _ => true
  | n + 1, l => if l = [] then true else decide (0 < (codeN l).2) && (signB (codeN l).1 && srcG n (l.drop (codeN l).2))
def srcB (s : List UInt8) : Bool := srcG s.length s
def readT (s : List UInt8) : Except Int (List Tok) := if 8192 < s.length then .error 3 else if srcB s then readG (s.length + 1) [] s else .error 2
end Go.Proofs.YticbbfbpeimkbaaGreatDoor
namespace Go.Proofs.YticbbfbpeimkbaaGreatDoor
open Go.Ab Go.Lib
theorem decGo (s : List UInt8) : decodeGo ⟨s.toArray⟩ = if s = [] then (65533, 0) else decodeL s := by
  unfold decodeGo
  cases s with
  | nil => rfl
  | cons c r => rw [if_neg (by simp [ByteArray.size]), if_neg (by simp)]; rfl
theorem decodeC (s : List UInt8) : Pure Tryz.prog 272 [.str s] (.tup [.int .i32 ((if s = [] then (65533, 0) else decodeL s : Nat × Nat).1), .int .i64 ((if s = [] then (65533, 0) else decodeL s : Nat × Nat).2)]) := by
  refine Pure.of_below fun γ w vs ht hv => ?_
  rw [arg_str hv]
  have h := Tryz.utf8_DecodeRuneInString ⟨s.toArray⟩ w (utf8Tabs ht)
  rw [decGo] at h
  exact Calls.mono h fun e w' ⟨he, hb⟩ => ⟨hb, _, he, rep_two (.int _ _) (.int _ _)⟩
theorem joinX : Go.Proofs.Builder.Extra Tryz.prog Tryz.lays156_ren where
  sizeBuilder := by kernel_rfl
  liesBuilder := by kernel_rfl
  t5 := Tryz.underlying5
  a5 := Tryz.isAgg5
  z5 := Tryz.sizeOf5
  v5 := Tryz.zeroValue5
  infoByte := by kernel_rfl
  cellsByte := by kernel_rfl
  sizeByte := by kernel_rfl
  neB5 := by decide
theorem joinStrC (l : List (List UInt8)) (sep : List UInt8) (hl : (Lib.join l sep).length ≤ 140737488355328) (hn : l.length ≤ 140737488355328) : Pure Tryz.prog 121 [.sl .no 1 (cT l), .str sep] (.str (Lib.join l sep)) := by
  refine Pure.of_below fun γ w vs ht hv => ?_
  obtain ⟨hlv, hr⟩ := hv
  match vs, hlv with
  | [v, u], _ =>
    have h0 := hr 0 _ _ rfl rfl
    cases hr 1 _ _ rfl rfl
    generalize hx : cT l = xs at h0
    cases h0 with
    | slnil _ _ ho =>
      have : l = [] := by cases l with | nil => rfl | cons a b => simp [cT] at hx
      subst this
      exact (Any.strings_Join_none Tryz.lays156 joinX none 0 ⟨sep.toArray⟩ w).mono fun e w' ⟨he, hw⟩ => ⟨by rw [hw]; exact RowKit.Below.refl _ _, _, he, .str _⟩
    | sl0 _ _ a ho =>
      have : l = [] := by cases l with | nil => rfl | cons a b => simp [cT] at hx
      subst this
      exact (Any.strings_Join_none Tryz.lays156 joinX (some a) 0 ⟨sep.toArray⟩ w).mono fun e w' ⟨he, hw⟩ => ⟨by rw [hw]; exact RowKit.Below.refl _ _, _, he, .str _⟩
    | sl _ _ _ b off cap cv hc hm hu hcell hrr ho =>
      subst hx
      have hcl := cT_len l
      cases hl0 : l with
      | nil =>
        subst hl0
        exact (Any.strings_Join_none Tryz.lays156 joinX (some ⟨b, off, none⟩) cap ⟨sep.toArray⟩ w).mono fun e w' ⟨he, hw⟩ => ⟨by rw [hw]; exact RowKit.Below.refl _ _, _, he, .str _⟩
      | cons x0 r0 =>
        have hcells : ∀ (j : Nat) x, (l.map fun s => (⟨s.toArray⟩ : ByteArray))[j]? = some x → w.cell? ⟨b, off + j, none⟩ = some (.string x) := fun j x hj => by
          rw [List.getElem?_map, Option.map_eq_some_iff] at hj
          obtain ⟨s, h1, rfl⟩ := hj
          have g1 : (cT l)[j]? = some [.str s] := by simp [cT, h1]
          have h2 := hcell j _ g1 0 (by decide)
          have h3 := hrr j _ g1 0 (.str s) rfl
          have e : off + (j * 1 + 0) = off + j := by omega
          rw [e] at h2
          generalize cv j 0 = y at h2 h3
          cases h3
          exact h2.1
        have hbk : b < w.heap.size := by
          have := hcells 0 ⟨x0.toArray⟩ (by rw [hl0]; rfl)
          exact World.block_lt_of_cell? w _ this
        have hmap : (l.map fun s => (⟨s.toArray⟩ : ByteArray)).map (·.data.toList) = l := by
          rw [List.map_map]; exact (List.map_congr_left (g := id) fun s _ => by simp).trans (List.map_id l)
        have h := Any.strings_Join Tryz.lays156 joinX b off cap (l.map fun s => (⟨s.toArray⟩ : ByteArray)) ⟨sep.toArray⟩ w hcells hbk (by simpa using hn) (by rw [List.length_map]; omega) (by rw [hmap]; exact hl)
        rw [List.length_map, hmap] at h
        rw [← hl0, hcl]
        exact h.mono fun e w' ⟨he, hb⟩ => ⟨hb, _, he, .str _⟩
theorem codeC (s : List UInt8) (i : Nat) (hi : i < s.length) (hs : s.length ≤ Lim) : Pure Tryz.prog 210 [.str s, .int .i64 i] (.tup [.int .i64 (codeN (s.drop i)).1, .int .i64 (codeN (s.drop i)).2]) := by
  refine Pure.go ir210 ck210 (Nat.le_refl _) fun KP Q hQ => ?_
  simp only [Lim] at hs
  have hne : s.drop i ≠ [] := fun e => by have := congrArg List.length e; simp at this; omega
  have h1 : ¬ ((i : Int) < 0) := by omega
  have h2 : ¬ ((s.length : Int) ≤ i) := by omega
  have h3 : ((i : Int) ≤ s.length) = True := eq_true (by omega)
  simp (disch := first | omega | assumption) only [ir210, h1, h2, h3, go_sem, ↓reduceIte]
  refine goK_pure (decodeC (s.drop i)) ?_
  have hw := decodeL_width (s.drop i)
  have hr := decodeL_rune (s.drop i)
  unfold codeN at hQ
  simp only [hne, if_false] at hQ ⊢
  generalize decodeL (s.drop i) = x at *
  obtain ⟨c, k⟩ := x
  simp only at hw hr hQ
  have e : IntKind.wrap .i64 (c : Int) = c := wrap64 (by omega) (by omega)
  by_cases hc : c = 65533
  · have g1 : ((c : Int) = 65533) = True := eq_true (by omega)
    by_cases hk : k < 2
    · have g2 : ((k : Int) < 2) = True := eq_true (by omega)
      have e1 : (c, k) = (65533, 1) := by rw [hc]; congr 1; omega
      rw [if_pos e1] at hQ
      simp (disch := first | omega | assumption) only [g1, g2, go_sem, ↓reduceIte]
      exact hQ _ _ _ _ nofun rfl (by simp [tupOf, envOf, AV.strip, AV.strip1])
    · have g2 : ¬ ((k : Int) < 2) := by omega
      have e1 : ¬ ((c, k) = (65533, 1)) := fun h => by cases h; omega
      rw [if_neg e1] at hQ
      simp (disch := first | omega | assumption) only [g1, g2, e, go_sem, ↓reduceIte]
      exact hQ _ _ _ _ nofun rfl (by simp [tupOf, envOf, AV.strip, AV.strip1])
  · have g1 : ¬ ((c : Int) = 65533) := by omega
    have e1 : ¬ ((c, k) = (65533, 1)) := fun h => by cases h; omega
    rw [if_neg e1] at hQ
    simp (disch := first | omega | assumption) only [g1, e, go_sem, ↓reduceIte]
    exact hQ _ _ _ _ nofun rfl (by simp [tupOf, envOf, AV.strip, AV.strip1])
theorem signC (c : Nat) (h : c ≤ 1114111) : Pure Tryz.prog 216 [.int .i64 c] (.bool (signB c)) := by
  refine Pure.go ir216 ck216 (Nat.le_refl _) fun KP Q hQ => ?_
  by_cases h1 : c = 9
  · have g : ((c : Int) = 9) = True := eq_true (by omega)
    simp (disch := first | omega | assumption) only [ir216, g, go_sem, ↓reduceIte]
    exact hQ _ _ _ _ nofun rfl (by simp [tupOf, envOf, AV.strip, AV.strip1, signB, h1])
  have g1 : ¬ ((c : Int) = 9) := by omega
  by_cases h2 : c = 10
  · have g : ((c : Int) = 10) = True := eq_true (by omega)
    simp (disch := first | omega | assumption) only [ir216, g1, g, go_sem, ↓reduceIte]
    exact hQ _ _ _ _ nofun rfl (by simp [tupOf, envOf, AV.strip, AV.strip1, signB, h2])
  have g2 : ¬ ((c : Int) = 10) := by omega
  by_cases h3 : c = 13
  · have g : ((c : Int) = 13) = True := eq_true (by omega)
    simp (disch := first | omega | assumption) only [ir216, g1, g2, g, go_sem, ↓reduceIte]
    exact hQ _ _ _ _ nofun rfl (by simp [tupOf, envOf, AV.strip, AV.strip1, signB, h3])
  have g3 : ¬ ((c : Int) = 13) := by omega
  by_cases h4 : 32 ≤ c
  · have g4 : ((32 : Int) ≤ c) = True := eq_true (by omega)
    by_cases h5 : c ≤ 65535
    · have g5 : ((c : Int) ≤ 65535) = True := eq_true (by omega)
      simp (disch := first | omega | assumption) only [ir216, g1, g2, g3, g4, g5, go_sem, ↓reduceIte]
      exact hQ _ _ _ _ nofun rfl (by simp [tupOf, envOf, AV.strip, AV.strip1, signB, h4, h5])
    · have g5 : ¬ ((c : Int) ≤ 65535) := by omega
      simp (disch := first | omega | assumption) only [ir216, g1, g2, g3, g4, g5, go_sem, ↓reduceIte]
      exact hQ _ _ _ _ nofun rfl (by simp [tupOf, envOf, AV.strip, AV.strip1, signB, h1, h2, h3, h5])
  · have g4 : ¬ ((32 : Int) ≤ c) := by omega
    simp (disch := first | omega | assumption) only [ir216, g1, g2, g3, g4, go_sem, ↓reduceIte]
    exact hQ _ _ _ _ nofun rfl (by simp [tupOf, envOf, AV.strip, AV.strip1, signB, h1, h2, h3, h4])
def unitsG : Nat → List UInt8 → List Nat
  | 0, _ => []
  | n + 1, l => if l = [] then [] else (if 65536 ≤ (codeN l).1 then [55296 + ((codeN l).1 - 65536) / 1024, 56320 + ((codeN l).1 - 65536) % 1024] else [(codeN l).1]) ++ unitsG n (l.drop (codeN l).2)
theorem unitsG_nil (n : Nat) : unitsG n [] = [] := by cases n <;> simp [unitsG]
theorem unitsG_fuel : ∀ (n m : Nat) (l : List UInt8), l.length ≤ n → l.length ≤ m → validD l = true → unitsG n l = unitsG m l
  | 0, m, l, h, _, _ => by rw [List.length_eq_zero_iff.1 (by omega : l.length = 0), unitsG_nil, unitsG_nil]
  | n, 0, l, _, h, _ => by rw [List.length_eq_zero_iff.1 (by omega : l.length = 0), unitsG_nil, unitsG_nil]
  | n + 1, m + 1, l, h1, h2, hv => by
    by_cases hne : l = []
    · subst hne; rw [unitsG_nil, unitsG_nil]
    · obtain ⟨hd, hv2⟩ := code_ok hne hv
      have := hd.pos
      have := hd.len
      simp only [unitsG, hne, if_false]
      rw [unitsG_fuel n m _ (by simp; omega) (by simp; omega) hv2]
theorem tdiv1024 (n : Nat) : ((n : Int)).tdiv 1024 = ((n / 1024 : Nat) : Int) := by rw [Int.tdiv_eq_ediv_of_nonneg (by omega)]; omega
theorem tmod1024 (n : Nat) : ((n : Int)).tmod 1024 = ((n % 1024 : Nat) : Int) := by rw [Int.tmod_eq_emod_of_nonneg (by omega)]; omega
theorem unitsC (s : List UInt8) (hv : validD s = true) (hs : s.length ≤ Lim) : Pure Tryz.prog 211 [.str s] (.tup [.sl .no 1 (cU (unitsG s.length s)), .bool true]) := by
  refine Pure.go ir211 ck211 (Nat.le_refl _) fun KP Q hQ => ?_
  have hs' := hs
  simp only [Lim] at hs
  simp (disch := first | omega | assumption) only [ir211, go_sem, ↓reduceIte]
  refine goL_st (fun x : Own × List Nat × Nat => [(4, .sl x.1 1 (cU x.2.1)), (5, .int .i64 x.2.2)])
    (fun x H => x.2.2 ≤ s.length ∧ x.2.1.length ≤ 2 * x.2.2 ∧ unitsG s.length s = x.2.1 ++ unitsG (s.drop x.2.2).length (s.drop x.2.2) ∧ validD (s.drop x.2.2) = true ∧ OwnS Heap.emp .nil H x.1 x.2.1.length 1) (fun x => s.length - x.2.2) (.nil, [], 0) (by simp (disch := first | omega | assumption) only [cU, go_sem, ↓reduceIte]) ⟨by simp, by simp, by simp, by simpa using hv, OwnS.refl rfl⟩ ?_
  rintro ⟨o, acc, i⟩ H J ⟨hi, hai, hc, hv, hs1⟩ hJ
  simp only at hi hai hc hv hs1
  by_cases hlt : i < s.length
  case neg =>
    have hlt' : ¬ (i : Int) < s.length := by omega
    rw [List.drop_of_length_le (by omega)] at hc
    rw [unitsG_nil, List.append_nil] at hc
    simp (disch := first | omega | assumption) only [hlt', go_sem, ↓reduceIte]
    exact hQ _ _ _ _ nofun rfl (by simp [tupOf, envOf, AV.strip, AV.strip1, hc])
  have hlt' : (i : Int) < s.length := by omega
  have hne : s.drop i ≠ [] := fun e => by have := congrArg List.length e; simp at this; omega
  have hcl := cU_len acc
  obtain ⟨hd, hv2⟩ := code_ok hne hv
  have hp := hd.pos
  have hle := hd.len
  have hmax := hd.le
  have hst : unitsG (s.drop i).length (s.drop i) = (if 65536 ≤ (codeN (s.drop i)).1 then [55296 + ((codeN (s.drop i)).1 - 65536) / 1024, 56320 + ((codeN (s.drop i)).1 - 65536) % 1024] else [(codeN (s.drop i)).1]) ++ unitsG ((s.drop i).drop (codeN (s.drop i)).2).length ((s.drop i).drop (codeN (s.drop i)).2) := by
    obtain ⟨n, hn⟩ : ∃ n, (s.drop i).length = n + 1 := ⟨(s.drop i).length - 1, by omega⟩
    rw [hn, unitsG, if_neg hne, unitsG_fuel n _ _ (by simp at hn ⊢; omega) (Nat.le_refl _) hv2]
  simp (disch := first | omega | assumption) only [hlt', go_sem, ↓reduceIte]
  refine goK_pure (codeC s i hlt hs') ?_
  rw [hst] at hc
  rw [List.drop_drop] at hc hv2
  rw [List.length_drop] at hle
  generalize (codeN (s.drop i)).1 = c at *
  generalize (codeN (s.drop i)).2 = k at *
  have h0' : ¬ ((k : Int) = 0) := by omega
  by_cases hc6 : 65536 ≤ c
  · have g : ((65536 : Int) ≤ c) = True := eq_true (by omega)
    have w1 : IntKind.wrap .i64 ((c : Int) - 65536) = ((c - 65536 : Nat) : Int) := by rw [wrap64 (by omega) (by omega)]; omega
    have w2 : IntKind.wrap .i64 (((c - 65536) / 1024 : Nat) : Int) = (((c - 65536) / 1024 : Nat) : Int) := wrap64 (by omega) (by omega)
    have w3 : IntKind.wrap .i64 (55296 + (((c - 65536) / 1024 : Nat) : Int)) = ((55296 + (c - 65536) / 1024 : Nat) : Int) := by rw [wrap64 (by omega) (by omega)]; omega
    have w4 : IntKind.wrap .i64 (56320 + (((c - 65536) % 1024 : Nat) : Int)) = ((56320 + (c - 65536) % 1024 : Nat) : Int) := by rw [wrap64 (by omega) (by omega)]; omega
    rw [if_pos hc6] at hc
    simp (disch := first | omega | assumption) only [h0', g, w1, tdiv1024, tmod1024, w2, w3, w4, go_sem, ↓reduceIte]
    refine goP_ownS (by rw [hcl]; exact hs1.own) (by simp only [hcl, List.length_cons, List.length_nil]; omega) (by simp only [hcl, List.length_cons, List.length_nil, maxLen]; omega) fun o' H' hs2 => ?_
    simp (disch := first | omega | assumption) only [wrap64, go_sem, ↓reduceIte]
    exact goJ (hJ (o', acc ++ [55296 + (c - 65536) / 1024, 56320 + (c - 65536) % 1024], i + k) H' (by simp only; omega) ⟨by simp only; omega, by simp; omega, by rw [hc]; simp, hv2, hs1.trans (by simpa [hcl] using hs2)⟩) (by simp (disch := first | omega | assumption) only [cU, List.map_append, Int.natCast_add, go_sem, ↓reduceIte])
  · have g : ¬ ((65536 : Int) ≤ c) := by omega
    rw [if_neg hc6] at hc
    simp (disch := first | omega | assumption) only [h0', g, go_sem, ↓reduceIte]
    refine goP_ownS (by rw [hcl]; exact hs1.own) (by simp only [hcl, List.length_cons, List.length_nil]; omega) (by simp only [hcl, List.length_cons, List.length_nil, maxLen]; omega) fun o' H' hs2 => ?_
    simp (disch := first | omega | assumption) only [wrap64, go_sem, ↓reduceIte]
    exact goJ (hJ (o', acc ++ [c], i + k) H' (by simp only; omega) ⟨by simp only; omega, by simp; omega, by rw [hc]; simp, hv2, hs1.trans (by simpa [hcl] using hs2)⟩) (by simp (disch := first | omega | assumption) only [cU, List.map_append, Int.natCast_add, go_sem, ↓reduceIte])
end Go.Proofs.YticbbfbpeimkbaaGreatDoor
namespace Go.Proofs.YticbbfbpeimkbaaGreatDoor
open Go.Ab Go.Lib
theorem decN_pref {n n' b0 b1 b2 b3 c1 c2 c3 c k : Nat} (h : decodeN n b0 b1 b2 b3 = (c, k)) (hv : (c, k) ≠ (65533, 1)) (hn : k ≤ n') (h1 : 1 < k → c1 = b1) (h2 : 2 < k → c2 = b2) (h3 : 3 < k → c3 = b3) : decodeN n' b0 c1 c2 c3 = (c, k) := by
  unfold decodeN at h
  split at h
  · rename_i h0
    unfold decodeN
    rw [if_pos h0, h]
  rename_i h0
  split at h
  · rename_i hA
    split at h
    · rename_i hB
      cases h
      unfold decodeN
      rw [if_neg h0, h1 (by decide), if_pos ⟨hA.1, by omega, hA.2.2⟩, if_pos hB]
    · exact absurd h.symm hv
  rename_i hA
  split at h
  · rename_i hB
    split at h
    · rename_i hC
      cases h
      unfold decodeN
      rw [if_neg h0, h1 (by decide), h2 (by decide), if_neg (by omega), if_pos ⟨hB.1, ⟨by omega, hB.2.1.2⟩, by omega, hB.2.2.2⟩, if_pos hC]
    · exact absurd h.symm hv
  rename_i hB
  split at h
  · rename_i hC
    split at h
    · rename_i hD
      cases h
      unfold decodeN
      rw [if_neg h0, h1 (by decide), h2 (by decide), h3 (by decide), if_neg (by omega), if_neg (by omega), if_pos ⟨hC.1, ⟨by omega, hC.2.1.2⟩, ⟨by omega, hC.2.2.1.2⟩, by omega, hC.2.2.2.2⟩, if_pos hD]
    · exact absurd h.symm hv
  · exact absurd h.symm hv
theorem codeN_dec {l : List UInt8} (hne : l ≠ []) (h : (codeN l).2 ≠ 0) : codeN l = decodeL l ∧ decodeL l ≠ (65533, 1) := by
  unfold codeN at h ⊢
  rw [if_neg hne] at h ⊢
  split at h
  · exact absurd rfl h
  · rename_i h2; rw [if_neg h2]; exact ⟨rfl, h2⟩
theorem codeN_pref {l : List UInt8} (hne : l ≠ []) (h : (codeN l).2 ≠ 0) (t : List UInt8) : codeN (l.take (codeN l).2 ++ t) = codeN l := by
  obtain ⟨e, hv⟩ := codeN_dec hne h
  have hk := decodeL_le l hne
  rw [e]
  generalize hd : decodeL l = x at *
  obtain ⟨c, k⟩ := x
  simp only at *
  have h2 : decodeL (l.take k ++ t) = (c, k) := by
    rw [decodeL_N] at hd ⊢
    have hg : ∀ j, j < k → (l.take k ++ t).getD j 0 = l.getD j 0 := fun j hj => by
      simp only [List.getD_eq_getElem?_getD]
      rw [List.getElem?_append_left (by simp; omega), List.getElem?_take_of_lt hj]
    have hk1 : 1 ≤ k := by rw [← show (decodeL l).2 = k by rw [decodeL_N, hd]]; exact decodeL_width l
    rw [hg 0 (by omega)]
    exact decN_pref hd hv (by simp; omega) (fun hj => by rw [hg 1 hj]) (fun hj => by rw [hg 2 hj]) fun hj => by rw [hg 3 hj]
  have hne2 : l.take k ++ t ≠ [] := fun e => by
    have h3 := congrArg List.length e
    have hk1 : 1 ≤ k := by rw [← show (decodeL l).2 = k by rw [hd]]; exact decodeL_width l
    have hl : 0 < l.length := List.length_pos_iff.2 hne
    simp only [List.length_append, List.length_take, List.length_nil] at h3; omega
  unfold codeN
  rw [if_neg hne2, h2, if_neg hv]
theorem codeN_ascii (b : UInt8) (t : List UInt8) (h : b.toNat < 128) : codeN (b :: t) = (b.toNat, 1) := by
  unfold codeN
  rw [if_neg (by simp), decodeL_ascii b t h, if_neg (by simp; omega)]
def EndT (r : List UInt8) : Prop := r = [] ∨ ∃ c t, r = c :: t ∧ (c = 32 ∨ c = 10)
theorem run1_end {r : List UInt8} (h : EndT r) : run1 r = 0 := by
  rcases h with rfl | ⟨c, t, rfl, rfl | rfl⟩
  · rfl
  all_goals simp [run1, isD]
theorem run1_app : ∀ (a : List UInt8) {r : List UInt8}, EndT r → run1 (a ++ r) = run1 a
  | [], r, h => run1_end h
  | c :: a, r, h => by simp only [List.cons_append, run1]; rw [run1_app a h]
theorem intN_app (a : List UInt8) {r : List UInt8} (h : EndT r) : intN (a ++ r) = intN a := by
  unfold intN
  rw [run1_app a h]
  cases a with
  | nil => simp [run1]
  | cons c a => simp
theorem wholeN_app (a : List UInt8) {r : List UInt8} (h : EndT r) : wholeN (a ++ r) = wholeN a := by
  cases a with
  | nil =>
    have h1 := run1_end h
    have h2 : wholeN [] = 0 := rfl
    rw [List.nil_append, h2]
    unfold wholeN
    rcases h with rfl | ⟨c, t, rfl, rfl | rfl⟩
    · rfl
    all_goals
      rw [if_neg (by simp)]; unfold intN; rw [if_pos h1]
  | cons c a =>
    by_cases hc : c = 45
    · subst hc; rw [List.cons_append, wholeN_neg, wholeN_neg, run1_app a h, intN_app a h]
    · rw [wholeN_pos (s := c :: a ++ r) (by simp [hc]), wholeN_pos (s := c :: a) (by simp [hc]), intN_app (c :: a) h]
theorem fracN_app (a : List UInt8) {r : List UInt8} (h : EndT r) : fracN (a ++ r) = fracN a := by
  cases a with
  | nil => rcases h with rfl | ⟨c, t, rfl, rfl | rfl⟩ <;> rfl
  | cons c a => simp [fracN, run1_app a h]
theorem powN_app (a : List UInt8) {r : List UInt8} (h : EndT r) : powN (a ++ r) = powN a := by
  cases a with
  | nil =>
    rcases h with rfl | ⟨c, t, rfl, rfl | rfl⟩
    · rfl
    all_goals simp [powN, isE]
  | cons c a =>
    have hs : sgN (a ++ r) = sgN a := by
      cases a with
      | nil => rcases h with rfl | ⟨c, t, rfl, rfl | rfl⟩ <;> simp [sgN]
      | cons d a => simp [sgN]
    have hd : (a ++ r).drop (sgN a) = a.drop (sgN a) ++ r := List.drop_append_of_le_length (sgN_le a)
    simp only [List.cons_append, powN, hs, hd, run1_app _ h]
theorem numN_app {a : List UInt8} {r : List UInt8} (h : EndT r) : numN (a ++ r) = numN a := by
  have h1 := wholeN_le a
  have e1 : (a ++ r).drop (wholeN a) = a.drop (wholeN a) ++ r := List.drop_append_of_le_length h1
  have h2 := fracN_le (a.drop (wholeN a))
  simp only [List.length_drop] at h2
  have e2 : (a ++ r).drop (wholeN a + fracN (a.drop (wholeN a))) = a.drop (wholeN a + fracN (a.drop (wholeN a))) ++ r := List.drop_append_of_le_length (by omega)
  unfold numN
  rw [wholeN_app a h, e1, fracN_app _ h, e2, powN_app _ h]
theorem hexD_L : ∀ x : Fin 16, hexD (hexL.getD x.val 0) = some x.val := by decide +kernel
theorem hexD_m (n : Nat) : hexD (hexL.getD (n % 16) 0) = some (n % 16) := hexD_L ⟨n % 16, Nat.mod_lt _ (by decide)⟩
theorem unitM_unit {u : Nat} (h : u < 65536) (t : List UInt8) : unitM (hexL.getD (u / 4096 % 16) 0 :: hexL.getD (u / 256 % 16) 0 :: hexL.getD (u / 16 % 16) 0 :: hexL.getD (u % 16) 0 :: t) = some u := by
  simp only [unitM, unitG, hexD_m]
  congr 1
  omega
theorem joinM_app : ∀ (us vs : List Nat) (tt : List UInt8), joinM us = some tt → joinM (us ++ vs) = (joinM vs).map (tt ++ ·)
  | [], vs, tt, h => by
    simp only [joinM, Option.some.injEq] at h; subst h
    rw [List.nil_append]
    cases hj : joinM vs <;> simp
  | [u], vs, tt, h => by
    unfold joinM at h
    rw [List.singleton_append]
    conv => lhs; unfold joinM
    split at h
    · cases h
    · rename_i h1
      rw [if_neg h1]
      split at h
      · cases h
      · rename_i h2
        rw [if_neg h2]
        simp only [joinM, Option.map_some, Option.some.injEq, List.append_nil] at h
        subst h; rfl
  | u :: v :: r, vs, tt, h => by
    unfold joinM at h
    rw [List.cons_append]
    conv => lhs; unfold joinM
    split at h
    · cases h
    · rename_i h1
      rw [if_neg h1]
      split at h
      · rename_i h2
        rw [if_pos h2]
        simp only [List.cons_append] at h ⊢
        split at h
        · cases h
        · rename_i h3
          rw [if_neg h3]
          cases hj : joinM r with
          | none => rw [hj] at h; cases h
          | some x =>
            rw [hj] at h
            simp only [Option.map_some, Option.some.injEq] at h
            rw [joinM_app r vs x hj]
            subst h
            cases joinM vs <;> simp
      · rename_i h2
        rw [if_neg h2]
        cases hj : joinM (v :: r) with
        | none => rw [hj] at h; cases h
        | some x =>
          rw [hj] at h
          simp only [Option.map_some, Option.some.injEq] at h
          rw [joinM_app (v :: r) vs x hj]
          subst h
          cases joinM vs <;> simp
theorem joinM_one {u : Nat} (h1 : u ≤ 65535) (h2 : u < 55296 ∨ 57343 < u) : joinM [u] = some (encM u) := by
  unfold joinM; rw [if_neg (by omega), if_neg (by omega)]; simp [joinM]
theorem joinM_two {c : Nat} (h1 : 65536 ≤ c) (h2 : c ≤ 1114111) : joinM [55296 + (c - 65536) / 1024, 56320 + (c - 65536) % 1024] = some (encM c) := by
  have e : 65536 + 1024 * (55296 + (c - 65536) / 1024 - 55296) + (56320 + (c - 65536) % 1024 - 56320) = c := by omega
  unfold joinM; rw [if_neg (by omega), if_pos (by omega)]
  simp only
  rw [if_neg (by omega), e]
  simp [joinM]
theorem quoF_unit {u : Nat} (h : u < 65536) (t out : List UInt8) (us : List Nat) : quoF lineB (unitT u ++ t) ⟨out, us, true⟩ = quoF lineB t ⟨out, us ++ [u], true⟩ := by
  simp only [unitT, List.cons_append, List.nil_append]
  rw [quoF_92]
  simp only [escM, if_true, unitM_unit h, Option.map_some, List.drop_succ_cons, List.drop_zero]
theorem quoF_esc {k : UInt8} {v : UInt8} (hk : k ≠ 117) (h1 : ¬ Lib.indexByte escL k < 0) (h2 : escV.getD (Lib.indexByte escL k).toNat 0 = v) {us : List Nat} {tt : List UInt8} (hj : joinM us = some tt) (t out : List UInt8) :
    quoF lineB (92 :: k :: t) ⟨out, us, true⟩ = quoF lineB t ⟨out ++ tt ++ [v], [], true⟩ := by
  rw [quoF_92]
  simp only [escM, if_neg hk, if_neg h1, h2]
  simp [Sd.put, flushM, hj]
theorem take_one {l : List UInt8} {c k : Nat} (h : DecOk l c k) (hc : c < 128) : k = 1 ∧ l.take k = [UInt8.ofNat c] ∧ (l.getD 0 0).toNat = c := by
  have e := h.enc
  have hl : (encM c).length = 1 := by unfold encM; rw [if_pos (by omega)]; rfl
  have hk : k = 1 := by
    rw [e] at hl
    have := h.len
    simp at hl; omega
  refine ⟨hk, by rw [← e]; unfold encM; rw [if_pos (by omega)], (h.one hk).1.symm⟩
theorem surr {l : List UInt8} (hne : l ≠ []) (h : (codeN l).2 ≠ 0) : (codeN l).1 < 55296 ∨ 57343 < (codeN l).1 := by
  obtain ⟨e, hv⟩ := codeN_dec hne h
  rw [e]
  rw [decodeL_N] at hv ⊢
  generalize (l.getD 0 0).toNat = b0 at *
  generalize (l.getD 1 0).toNat = b1 at *
  generalize (l.getD 2 0).toNat = b2 at *
  generalize (l.getD 3 0).toNat = b3 at *
  unfold decodeN at hv ⊢
  repeat' split
  all_goals first | (simp only; omega) | (simp_all; done) | (simp_all; omega)
theorem quoF_tquo : ∀ (n : Nat) (l out : List UInt8) (us : List Nat) (tt rest : List UInt8), l.length ≤ n → validD l = true → joinM us = some tt → quoF lineB (tquoG n l ++ 34 :: rest) ⟨out, us, true⟩ = some (⟨out ++ tt ++ l, [], true⟩, rest)
  | 0, l, out, us, tt, rest, hn, _, hj => by
    obtain rfl : l = [] := List.length_eq_zero_iff.1 (by omega)
    simp only [tquoG, List.nil_append]
    rw [quoF_34]; simp [flushM, hj]
  | n + 1, l, out, us, tt, rest, hn, hv, hj => by
    rw [tquoG]
    by_cases hne : l = []
    · subst hne
      simp only [if_true, List.nil_append]
      rw [quoF_34]; simp [flushM, hj]
    · rw [if_neg hne]
      obtain ⟨hd, hv2⟩ := code_ok hne hv
      have hpos := hd.pos
      have hle := hd.len
      have hsur := surr hne (by omega)
      have hmax := hd.le
      have hen := hd.enc
      have hpre := codeN_pref hne (by omega : (codeN l).2 ≠ 0)
      generalize (codeN l).1 = c at *
      generalize (codeN l).2 = k at *
      have hl : (l.drop k).length ≤ n := by simp; omega
      have hcat : l.take k ++ l.drop k = l := List.take_append_drop k l
      have ih : ∀ out us tt, joinM us = some tt → quoF lineB (tquoG n (l.drop k) ++ 34 :: rest) ⟨out, us, true⟩ = some (⟨out ++ tt ++ l.drop k, [], true⟩, rest) := fun out us tt hj => quoF_tquo n (l.drop k) out us tt rest hl hv2 hj
      have fin : ∀ x : List UInt8, x = l.take k → out ++ tt ++ x ++ l.drop k = out ++ tt ++ l := fun x hx => by rw [hx, List.append_assoc, hcat]
      rw [List.append_assoc]
      unfold pieceT
      by_cases h1 : c = 34 ∨ c = 92
      · rw [if_pos h1]
        obtain ⟨rfl, ht, _⟩ := take_one hd (by omega)
        simp only [List.cons_append, List.nil_append]
        rcases h1 with rfl | rfl
        · rw [quoF_esc (v := 34) (by decide) (by decide) (by decide) hj, ih _ [] [] rfl, List.append_nil]
          exact congrArg some (Prod.ext (by simp only [Sd.mk.injEq, and_self, and_true]; exact fin [34] (by rw [ht]; rfl)) rfl)
        · rw [quoF_esc (v := 92) (by decide) (by decide) (by decide) hj, ih _ [] [] rfl, List.append_nil]
          exact congrArg some (Prod.ext (by simp only [Sd.mk.injEq, and_self, and_true]; exact fin [92] (by rw [ht]; rfl)) rfl)
      rw [if_neg h1]
      by_cases h2 : c = 10
      · rw [if_pos h2]
        subst h2
        obtain ⟨rfl, ht, _⟩ := take_one hd (by omega)
        simp only [List.cons_append, List.nil_append]
        rw [quoF_esc (v := 10) (by decide) (by decide) (by decide) hj, ih _ [] [] rfl, List.append_nil]
        exact congrArg some (Prod.ext (by simp only [Sd.mk.injEq, and_self, and_true]; exact fin [10] (by rw [ht]; rfl)) rfl)
      rw [if_neg h2]
      by_cases h3 : c < 32
      · rw [if_pos h3, quoF_unit (by omega), ih out (us ++ [c]) (tt ++ encM c) (by rw [joinM_app us [c] tt hj, joinM_one (by omega) (by omega)]; rfl)]
        exact congrArg some (Prod.ext (by simp only [Sd.mk.injEq, and_self, and_true]; rw [← List.append_assoc]; exact fin (encM c) hen) rfl)
      rw [if_neg h3]
      by_cases h4 : 65536 ≤ c
      · rw [if_pos h4, List.append_assoc, quoF_unit (by omega), quoF_unit (by omega), ih out (us ++ [_] ++ [_]) (tt ++ encM c) (by rw [List.append_assoc, joinM_app us _ tt hj, List.singleton_append, joinM_two h4 (by omega)]; rfl)]
        exact congrArg some (Prod.ext (by simp only [Sd.mk.injEq, and_self, and_true]; rw [← List.append_assoc]; exact fin (encM c) hen) rfl)
      · rw [if_neg h4]
        obtain ⟨b, t, hbt⟩ : ∃ b t, l = b :: t := by cases l with | nil => exact absurd rfl hne | cons a b => exact ⟨a, b, rfl⟩
        have hg : (l.take k ++ (tquoG n (l.drop k) ++ 34 :: rest)).getD 0 0 = l.getD 0 0 := by
          rw [hbt]; obtain ⟨m, rfl⟩ : ∃ m, k = m + 1 := ⟨k - 1, by omega⟩; simp
        have hd2 : DecOk (l.take k ++ (tquoG n (l.drop k) ++ 34 :: rest)) c k := by
          have htk : (l.take k ++ (tquoG n (l.drop k) ++ 34 :: rest)).take k = l.take k := List.take_left' (by simp; omega)
          exact ⟨by rw [htk]; exact hen, hmax, hpos, by simp; omega, fun e => by rw [hg]; exact hd.one e, fun e => by rw [htk]; exact hd.high e⟩
        have hb : (l.getD 0 0).toNat = c ∨ 128 ≤ (l.getD 0 0).toNat := by
          by_cases hk1 : k = 1
          · exact .inl (hd.one hk1).1.symm
          · right
            refine hd.high hk1 _ ?_
            rw [hbt]; obtain ⟨m, rfl⟩ : ∃ m, k = m + 1 := ⟨k - 1, by omega⟩; simp
        have hne0 : ∀ m : UInt8, m.toNat < 128 → m.toNat ≠ c → l.getD 0 0 ≠ m := fun m hm hc e => by rw [e] at hb; omega
        rw [quoF_code hj hd2 (by rw [hbt]; obtain ⟨m, rfl⟩ : ∃ m, k = m + 1 := ⟨k - 1, by omega⟩; simp) (by rw [hg]; exact hne0 34 (by decide) (by simp; omega)) (by rw [hg]; exact hne0 92 (by decide) (by simp; omega))
          (by rw [hg]; simp only [lineB, Bool.and_eq_true, decide_eq_true_eq]; exact ⟨hne0 10 (by decide) (by simp; omega), hne0 13 (by decide) (by simp; omega)⟩)]
        rw [List.take_left' (by simp; omega), List.drop_left' (by simp; omega), ih _ [] [] rfl, List.append_nil]
        exact congrArg some (Prod.ext (by simp only [Sd.mk.injEq, and_self, and_true]; exact fin _ rfl) rfl)
theorem quoM_tquo (s rest : List UInt8) (hv : validD s = true) : quoM lineB (tquoG s.length s ++ 34 :: rest) = some (s, rest) := by
  rw [quoM_F, quoF_tquo s.length s [] [] [] rest (Nat.le_refl _) hv rfl]
  simp [finF]
end Go.Proofs.YticbbfbpeimkbaaGreatDoor
namespace Go.Proofs.YticbbfbpeimkbaaGreatDoor
open Go.Ab Go.Lib
theorem unitT_len (u : Nat) : (unitT u).length = 6 := rfl
theorem pieceT_len {l : List UInt8} {c k : Nat} (h : DecOk l c k) : (pieceT c (l.take k)).length ≤ 6 * k := by
  have hp := h.pos
  have hl := h.len
  have he := h.enc
  unfold pieceT
  split
  · simp; omega
  split
  · simp; omega
  split
  · rw [unitT_len]; omega
  split
  · have : k = 4 := by
      have e := congrArg List.length he
      unfold encM at e
      rw [if_neg (by omega), if_neg (by omega), if_neg (by omega)] at e
      simp at e; omega
    simp only [List.length_append, unitT_len]; omega
  · simp; omega
theorem tquoG_nil (n : Nat) : tquoG n [] = [] := by cases n <;> simp [tquoG]
theorem tquoG_fuel : ∀ (n m : Nat) (l : List UInt8), l.length ≤ n → l.length ≤ m → validD l = true → tquoG n l = tquoG m l
  | 0, m, l, h, _, _ => by rw [List.length_eq_zero_iff.1 (by omega : l.length = 0), tquoG_nil, tquoG_nil]
  | n, 0, l, _, h, _ => by rw [List.length_eq_zero_iff.1 (by omega : l.length = 0), tquoG_nil, tquoG_nil]
  | n + 1, m + 1, l, h1, h2, hv => by
    by_cases hne : l = []
    · subst hne; rw [tquoG_nil, tquoG_nil]
    · obtain ⟨hd, hv2⟩ := code_ok hne hv
      have := hd.pos
      have := hd.len
      simp only [tquoG, hne, if_false]
      rw [tquoG_fuel n m _ (by simp; omega) (by simp; omega) hv2]
theorem tquoG_len : ∀ (n : Nat) (l : List UInt8), validD l = true → (tquoG n l).length ≤ 6 * l.length
  | 0, l, _ => by simp [tquoG]
  | n + 1, l, hv => by
    by_cases hne : l = []
    · subst hne; simp [tquoG]
    · obtain ⟨hd, hv2⟩ := code_ok hne hv
      have h1 := pieceT_len hd
      have h2 := tquoG_len n _ hv2
      have h3 := hd.len
      simp only [tquoG, hne, if_false, List.length_append]
      simp only [List.length_drop] at h2
      omega
def tquoF (l : List UInt8) : List UInt8 := tquoG l.length l
theorem tquoF_step {l : List UInt8} (hne : l ≠ []) (hv : validD l = true) : tquoF l = pieceT (codeN l).1 (l.take (codeN l).2) ++ tquoF (l.drop (codeN l).2) := by
  obtain ⟨hd, hv2⟩ := code_ok hne hv
  have := hd.pos
  have := hd.len
  unfold tquoF
  obtain ⟨n, hn⟩ : ∃ n, l.length = n + 1 := ⟨l.length - 1, by omega⟩
  rw [hn, tquoG, if_neg hne, tquoG_fuel n _ _ (by simp; omega) (Nat.le_refl _) hv2]
theorem tquo_len (s : List UInt8) (hv : validD s = true) : (tquo s).length ≤ 6 * s.length + 2 := by
  have := tquoG_len s.length s hv
  simp only [tquo, List.length_cons, List.length_append, List.length_nil]; omega
theorem tokT_len {t : Tok} (h : rightK t = true) : (tokT t).length ≤ 6 * t.s.length + 2 := by
  unfold tokT
  split
  · rename_i h5
    unfold rightK at h
    rw [h5] at h
    exact tquo_len _ (by simpa using h)
  · omega
theorem fdN (u k : Nat) (hk : k ≤ 64) : (u : Int).fdiv (2 ^ min k IntKind.i64.bits) = ((u / 2 ^ k : Nat) : Int) := by
  have e : min k IntKind.i64.bits = k := by show min k 64 = k; omega
  rw [e, Int.fdiv_eq_ediv_of_nonneg _ (by exact_mod_cast Nat.zero_le _)]
  norm_cast
theorem tmod16 (n : Nat) : ((n : Int)).tmod 16 = ((n % 16 : Nat) : Int) := by rw [Int.tmod_eq_emod_of_nonneg (by omega)]; omega
theorem unitTC (u : Nat) (hu : u < 65536) (acc : List UInt8) (H : Heap) (o : Own) (ho : Owned H o acc.length 1) (hb : acc.length ≤ Lim) :
    Gives Tryz.prog 212 [.sl o 1 (bytesOf acc), .int .i64 u] H o 1 (bytesOf (acc ++ unitT u)) := by
  refine ACalls.goO ir212 ck212 (Nat.le_refl _) fun KP Q hQ hP => ?_
  have hal := bytesOf_len acc
  simp only [Lim] at hb
  simp (disch := first | omega | assumption) only [ir212, steps, st2, pev, rev, oev, optr, ibin, sbin, ishf, bound, mmAll, mm2, mk, mkArgs, AV.cells, AV.boxable, AV.one, AV.strip1, fillA, fillS, Nat.reduceEqDiff, reduceCtorEq, ↓reduceIte, Nat.reduceAdd, Int.reduceNeg, Nat.reduceLeDiff, Int.reduceToNat, Int.reduceEq, Int.reduceLT, Int.reduceLE, Int.reduceAdd]
  refine goP_ownS (by rw [hal]; exact ho) (by simp [hal]; omega) (by simp [hal, maxLen]; omega) fun o1 H1 hs1 => ?_
  have hs1' : OwnS H o H1 o1 (acc ++ [92, 117]).length 1 := by simpa [hal] using hs1
  have e1 : bytesOf acc ++ [[AV.int .u8 92], [AV.int .u8 117]] = bytesOf (acc ++ [92, 117]) := bytesOf_two acc 92 117
  simp (disch := first | omega | assumption) only [e1, steps, st2, pev, rev, oev, optr, ibin, sbin, ishf, bound, mmAll, mm2, mk, mkArgs, AV.cells, AV.boxable, AV.one, AV.strip1, fillA, fillS, Nat.reduceEqDiff, reduceCtorEq, ↓reduceIte, Nat.reduceAdd, Int.reduceNeg, Nat.reduceLeDiff, Int.reduceToNat, Int.reduceEq, Int.reduceLT, Int.reduceLE, Int.reduceAdd]
  refine goL_st (fun x : Nat × Own => [(0, .sl x.2 1 (bytesOf (acc ++ (unitT u).take (6 - x.1)))), (5, .int .i64 ((x.1 : Int) - 1))]) (fun x H' => x.1 ≤ 4 ∧ OwnS H o H' x.2 (acc ++ (unitT u).take (6 - x.1)).length 1) (fun x => x.1) (4, o1) (by simp (disch := first | omega | assumption) only [unitT, Int.reduceSub, steps, st2, pev, rev, oev, optr, ibin, sbin, ishf, bound, mmAll, mm2, mk, mkArgs, AV.cells, AV.boxable, AV.one, AV.strip1, fillA, fillS, Nat.reduceEqDiff, reduceCtorEq, ↓reduceIte, Nat.reduceAdd, Int.reduceNeg, Nat.reduceLeDiff, Int.reduceToNat, Int.reduceEq, Int.reduceLT, Int.reduceLE, Int.reduceAdd]) ⟨by simp, by simpa [unitT] using hs1'⟩ ?_
  rintro ⟨k, o2⟩ H2 J ⟨hk, hs⟩ hJ
  simp only at hk hs
  cases k with
  | zero =>
    have h0 : ¬ ((0 : Int) ≤ -1) := by omega
    have e : (unitT u).take (6 - 0) = unitT u := rfl
    rw [e] at hs
    simp (disch := first | omega | assumption) only [h0, e, Int.reduceSub, steps, st2, pev, rev, oev, optr, ibin, sbin, ishf, bound, mmAll, mm2, mk, mkArgs, AV.cells, AV.boxable, AV.one, AV.strip1, fillA, fillS, Nat.reduceEqDiff, reduceCtorEq, ↓reduceIte, Nat.reduceAdd, Int.reduceNeg, Nat.reduceLeDiff, Int.reduceToNat, Int.reduceEq, Int.reduceLT, Int.reduceLE, Int.reduceAdd]
    exact hQ _ _ H2 H2 [_] nofun rfl (Low.refl _) ⟨o2, rfl, by rw [bytesOf_len]; exact hs⟩
  | succ j =>
    have e0 : ((j + 1 : Nat) : Int) - 1 = (j : Int) := by omega
    have h0 : ((0 : Int) ≤ j) = True := eq_true (by omega)
    have w1 : IntKind.wrap .i64 (4 * (j : Int)) = ((4 * j : Nat) : Int) := by rw [wrap64 (by omega) (by omega)]; omega
    have w2 := fdN u (4 * j) (by omega)
    have hlt : (((u / 2 ^ (4 * j) % 16 : Nat) : Int) < 16) = True := eq_true (by omega)
    have w0 : (((4 * j : Nat) : Int) < 0) = False := eq_false (by omega)
    have hm : ((unitT u).take (6 - (j + 1))) ++ [hexL.getD (u / 2 ^ (4 * j) % 16) 0] = (unitT u).take (6 - j) := by
      have : j = 0 ∨ j = 1 ∨ j = 2 ∨ j = 3 := by omega
      rcases this with rfl | rfl | rfl | rfl <;> simp [unitT]
    have hl2 := bytesOf_len (acc ++ (unitT u).take (6 - (j + 1)))
    have hl3 : (acc ++ (unitT u).take (6 - (j + 1))).length ≤ acc.length + 6 := by simp [unitT_len]; omega
    have e3 := bytesOf_one (acc ++ (unitT u).take (6 - (j + 1))) (hexL.getD (u / 2 ^ (4 * j) % 16) 0)
    rw [List.append_assoc, hm] at e3
    have hg : ([48, 49, 50, 51, 52, 53, 54, 55, 56, 57, 97, 98, 99, 100, 101, 102] : List UInt8).getD (u / 2 ^ (4 * j) % 16) 0 = hexL.getD (u / 2 ^ (4 * j) % 16) 0 := rfl
    simp (disch := first | omega | assumption) only [e0, h0, w1, w2, w0, tmod16, hlt, hg, steps, st2, pev, rev, oev, optr, ibin, sbin, ishf, bound, mmAll, mm2, mk, mkArgs, AV.cells, AV.boxable, AV.one, AV.strip1, fillA, fillS, Nat.reduceEqDiff, reduceCtorEq, ↓reduceIte, Nat.reduceAdd, Int.reduceNeg, Nat.reduceLeDiff, Int.reduceToNat, Int.reduceEq, Int.reduceLT, Int.reduceLE, Int.reduceAdd]
    refine goP_ownS (by rw [hl2]; exact hs.own) (by simp only [hl2, List.length_cons, List.length_nil]; omega) (by simp only [hl2, List.length_cons, List.length_nil, maxLen]; omega) fun o3 H3 hs3 => ?_
    have hs4 : OwnS H o H3 o3 (acc ++ (unitT u).take (6 - j)).length 1 := by
      have e : (acc ++ (unitT u).take (6 - j)).length = (bytesOf (acc ++ (unitT u).take (6 - (j + 1)))).length + 1 := by
        rw [hl2, ← hm, ← List.append_assoc]; simp only [List.length_append, List.length_cons, List.length_nil]
      rw [e]; exact hs.trans hs3
    simp (disch := first | omega | assumption) only [e3, wrap64, steps, st2, pev, rev, oev, optr, ibin, sbin, ishf, bound, mmAll, mm2, mk, mkArgs, AV.cells, AV.boxable, AV.one, AV.strip1, fillA, fillS, Nat.reduceEqDiff, reduceCtorEq, ↓reduceIte, Nat.reduceAdd, Int.reduceNeg, Nat.reduceLeDiff, Int.reduceToNat, Int.reduceEq, Int.reduceLT, Int.reduceLE, Int.reduceAdd]
    exact goJ (hJ (j, o3) H3 (Nat.lt_succ_self j) ⟨by simp only; omega, hs4⟩) (by simp (disch := first | omega | assumption) only [steps, st2, pev, rev, oev, optr, ibin, sbin, ishf, bound, mmAll, mm2, mk, mkArgs, AV.cells, AV.boxable, AV.one, AV.strip1, fillA, fillS, Nat.reduceEqDiff, reduceCtorEq, ↓reduceIte, Nat.reduceAdd, Int.reduceNeg, Nat.reduceLeDiff, Int.reduceToNat, Int.reduceEq, Int.reduceLT, Int.reduceLE, Int.reduceAdd])
theorem unitsG_one {l : List UInt8} {c k : Nat} (hne : l ≠ []) (hv : validD l = true) (hc : (codeN l).1 = c) (hk : (codeN l).2 = k) :
    validD (l.take k) = true ∧ (l.take k).length = k ∧ unitsG (l.take k).length (l.take k) = if 65536 ≤ c then [55296 + (c - 65536) / 1024, 56320 + (c - 65536) % 1024] else [c] := by
  obtain ⟨hd, hv2⟩ := code_ok hne hv
  subst hc; subst hk
  have hp := hd.pos
  have hle := hd.len
  have hlen : (l.take (codeN l).2).length = (codeN l).2 := by simp; omega
  have hne2 : l.take (codeN l).2 ≠ [] := fun e => by rw [e] at hlen; simp at hlen; omega
  have hcode := codeN_pref hne (by omega : (codeN l).2 ≠ 0) []
  rw [List.append_nil] at hcode
  have hdrop : (l.take (codeN l).2).drop (codeN l).2 = [] := by apply List.drop_eq_nil_of_le; omega
  refine ⟨?_, hlen, ?_⟩
  · have := (codeN_good hne2 (by rw [hcode]; omega)).1
    rw [this, hcode, hdrop]; rfl
  · rw [hlen]
    obtain ⟨n, hn⟩ : ∃ n, (codeN l).2 = n + 1 := ⟨(codeN l).2 - 1, by omega⟩
    conv => lhs; rw [show unitsG (codeN l).2 = unitsG (n + 1) by rw [hn]]
    rw [unitsG, if_neg hne2, hcode, hdrop, unitsG_nil, List.append_nil]
theorem wr8n {n : Nat} (h : n < 256) : IntKind.wrap .u8 (n : Int) = ((UInt8.ofNat n).toNat : Int) := by
  rw [wr8]; simp
set_option maxHeartbeats 1000000 in
theorem quoteTC (s : List UInt8) (hv : validD s = true) (hs : 6 * s.length + 2 ≤ Lim) : Pure Tryz.prog 120 [.str s] (.str (tquo s)) := by
  refine Pure.go ir120 ck120 (Nat.le_refl _) fun KP Q hQ => ?_
  have hs' : s.length ≤ Lim := by simp only [Lim] at hs ⊢; omega
  simp only [Lim] at hs
  simp (disch := first | omega | assumption) only [ir120, steps, st2, pev, rev, oev, optr, ibin, sbin, ishf, bound, mmAll, mm2, mk, mkArgs, AV.cells, AV.boxable, AV.one, AV.strip1, fillA, fillS, Nat.reduceEqDiff, reduceCtorEq, ↓reduceIte, Nat.reduceAdd, Int.reduceNeg, Nat.reduceLeDiff, Int.reduceToNat, Int.reduceEq, Int.reduceLT, Int.reduceLE, Int.reduceAdd]
  have e34 : ([[AV.int .u8 34]] : List (List AV)) = bytesOf [34] := rfl
  simp (disch := first | omega | assumption) only [e34, steps, st2, pev, rev, oev, optr, ibin, sbin, ishf, bound, mmAll, mm2, mk, mkArgs, AV.cells, AV.boxable, AV.one, AV.strip1, fillA, fillS, Nat.reduceEqDiff, reduceCtorEq, ↓reduceIte, Nat.reduceAdd, Int.reduceNeg, Nat.reduceLeDiff, Int.reduceToNat, Int.reduceEq, Int.reduceLT, Int.reduceLE, Int.reduceAdd]
  refine goL_st (fun x : Own × List UInt8 × Nat => [(3, .sl x.1 1 (bytesOf x.2.1)), (4, .int .i64 x.2.2)])
    (fun x H => x.2.2 ≤ s.length ∧ x.2.1.length ≤ 6 * x.2.2 + 1 ∧ 34 :: tquoF s = x.2.1 ++ tquoF (s.drop x.2.2) ∧ validD (s.drop x.2.2) = true ∧ Owned H x.1 x.2.1.length 1) (fun x => s.length - x.2.2) (.full, [34], 0) (by simp (disch := first | omega | assumption) only [steps, st2, pev, rev, oev, optr, ibin, sbin, ishf, bound, mmAll, mm2, mk, mkArgs, AV.cells, AV.boxable, AV.one, AV.strip1, fillA, fillS, Nat.reduceEqDiff, reduceCtorEq, ↓reduceIte, Nat.reduceAdd, Int.reduceNeg, Nat.reduceLeDiff, Int.reduceToNat, Int.reduceEq, Int.reduceLT, Int.reduceLE, Int.reduceAdd]) ⟨by simp, by simp, by simp, by simpa using hv, Owned.full _ _ _⟩ ?_
  rintro ⟨o, acc, i⟩ H J ⟨hi, hai, hc, hv, hs1⟩ hJ
  simp only at hi hai hc hv hs1
  have hal := bytesOf_len acc
  by_cases hlt : i < s.length
  case neg =>
    have hlt' : ¬ (i : Int) < s.length := by omega
    rw [List.drop_of_length_le (by omega)] at hc
    have e0 : tquoF [] = [] := rfl
    rw [e0, List.append_nil] at hc
    have e3 : bytesOf acc ++ [[AV.int .u8 34]] = bytesOf (acc ++ [34]) := bytesOf_one acc 34
    simp (disch := first | omega | assumption) only [hlt', steps, st2, pev, rev, oev, optr, ibin, sbin, ishf, bound, mmAll, mm2, mk, mkArgs, AV.cells, AV.boxable, AV.one, AV.strip1, fillA, fillS, Nat.reduceEqDiff, reduceCtorEq, ↓reduceIte, Nat.reduceAdd, Int.reduceNeg, Nat.reduceLeDiff, Int.reduceToNat, Int.reduceEq, Int.reduceLT, Int.reduceLE, Int.reduceAdd]
    refine goP_ownS (by rw [hal]; exact hs1) (by simp only [hal, List.length_cons, List.length_nil]; omega) (by simp only [hal, List.length_cons, List.length_nil, maxLen]; omega) fun o3 H3 hs3 => ?_
    simp (disch := first | omega | assumption) only [e3, byts_of, steps, st2, pev, rev, oev, optr, ibin, sbin, ishf, bound, mmAll, mm2, mk, mkArgs, AV.cells, AV.boxable, AV.one, AV.strip1, fillA, fillS, Nat.reduceEqDiff, reduceCtorEq, ↓reduceIte, Nat.reduceAdd, Int.reduceNeg, Nat.reduceLeDiff, Int.reduceToNat, Int.reduceEq, Int.reduceLT, Int.reduceLE, Int.reduceAdd]
    have e4 : tquo s = acc ++ [34] := by rw [← hc]; rfl
    exact hQ _ _ _ _ nofun rfl (by simp [tupOf, envOf, AV.strip, AV.strip1, e4])
  have hlt' : (i : Int) < s.length := by omega
  have hne : s.drop i ≠ [] := fun e => by have := congrArg List.length e; simp at this; omega
  obtain ⟨hd, hv2⟩ := code_ok hne hv
  have hst := tquoF_step hne hv
  have hone := unitsG_one hne hv rfl rfl
  have hpl := pieceT_len hd
  have hp := hd.pos
  have hle := hd.len
  have hmax := hd.le
  have h1b := @take_one _ _ _ hd
  rw [List.length_drop] at hle
  simp (disch := first | omega | assumption) only [hlt', steps, st2, pev, rev, oev, optr, ibin, sbin, ishf, bound, mmAll, mm2, mk, mkArgs, AV.cells, AV.boxable, AV.one, AV.strip1, fillA, fillS, Nat.reduceEqDiff, reduceCtorEq, ↓reduceIte, Nat.reduceAdd, Int.reduceNeg, Nat.reduceLeDiff, Int.reduceToNat, Int.reduceEq, Int.reduceLT, Int.reduceLE, Int.reduceAdd]
  refine goK_pure (codeC s i hlt hs') ?_
  rw [hst] at hc
  rw [List.drop_drop] at hc hv2
  generalize (codeN (s.drop i)).1 = c at *
  generalize (codeN (s.drop i)).2 = k at *
  have hmax1 : ((1 : Int) > (k : Int)) = False := eq_false (by omega)
  have wk : IntKind.wrap .i64 ((i : Int) + (k : Int)) = ((i + k : Nat) : Int) := by rw [wrap64 (by omega) (by omega)]; omega
  have hsub : (s.take (i + k)).drop i = (s.drop i).take k := by rw [List.drop_take]; congr 1; omega
  have hle2 : (((i + k : Nat) : Int) ≤ s.length) = True := eq_true (by omega)
  have hle3 : ((i : Int) ≤ ((i + k : Nat) : Int)) = True := eq_true (by omega)
  have step : ∀ o3 H3 (bs : List UInt8), bs = pieceT c ((s.drop i).take k) → Owned H3 o3 (acc ++ bs).length 1 → J ((setAll _ [(3, .sl o3 1 (bytesOf (acc ++ bs))), (4, .int .i64 ((i + k : Nat) : Int))]).keep [0, 3, 4]) H3 := fun o3 H3 bs hbs ho3 =>
    hJ (o3, acc ++ bs, i + k) H3 (by simp only; omega) ⟨by simp only; omega, by simp only [List.length_append, hbs]; omega, by rw [hc, hbs]; simp, hv2, ho3⟩
  by_cases c1 : c = 34 ∨ c = 92
  · have g : ((c : Int) = 34 ∨ (c : Int) = 92) := by omega
    have e3 : bytesOf acc ++ [[AV.int .u8 92], [AV.int .u8 (UInt8.ofNat c).toNat]] = bytesOf (acc ++ [92, UInt8.ofNat c]) := bytesOf_two acc 92 _
    have ep : [92, UInt8.ofNat c] = pieceT c ((s.drop i).take k) := by unfold pieceT; rw [if_pos c1]
    rcases c1 with c1 | c1
    all_goals
      have w8 : IntKind.wrap .u8 (c : Int) = ((UInt8.ofNat c).toNat : Int) := wr8n (by omega)
      subst c1
      have gg := w8
      simp only [Int.cast_ofNat_Int] at w8
      simp (disch := first | omega | assumption) only [w8, steps, st2, pev, rev, oev, optr, ibin, sbin, ishf, bound, mmAll, mm2, mk, mkArgs, AV.cells, AV.boxable, AV.one, AV.strip1, fillA, fillS, Nat.reduceEqDiff, reduceCtorEq, ↓reduceIte, Nat.reduceAdd, Int.reduceNeg, Nat.reduceLeDiff, Int.reduceToNat, Int.reduceEq, Int.reduceLT, Int.reduceLE, Int.reduceAdd]
      refine goP_ownS (by rw [hal]; exact hs1) (by simp only [hal, List.length_cons, List.length_nil]; omega) (by simp only [hal, List.length_cons, List.length_nil, maxLen]; omega) fun o3 H3 hs3 => ?_
      simp (disch := first | omega | assumption) only [e3, hmax1, wk, steps, st2, pev, rev, oev, optr, ibin, sbin, ishf, bound, mmAll, mm2, mk, mkArgs, AV.cells, AV.boxable, AV.one, AV.strip1, fillA, fillS, Nat.reduceEqDiff, reduceCtorEq, ↓reduceIte, Nat.reduceAdd, Int.reduceNeg, Nat.reduceLeDiff, Int.reduceToNat, Int.reduceEq, Int.reduceLT, Int.reduceLE, Int.reduceAdd]
      exact goJ (step o3 H3 _ ep (by simpa [hal] using hs3.own)) (by simp (disch := first | omega | assumption) only [steps, st2, pev, rev, oev, optr, ibin, sbin, ishf, bound, mmAll, mm2, mk, mkArgs, AV.cells, AV.boxable, AV.one, AV.strip1, fillA, fillS, Nat.reduceEqDiff, reduceCtorEq, ↓reduceIte, Nat.reduceAdd, Int.reduceNeg, Nat.reduceLeDiff, Int.reduceToNat, Int.reduceEq, Int.reduceLT, Int.reduceLE, Int.reduceAdd])
  have g34 : ¬ ((c : Int) = 34) := by omega
  have g92 : ¬ ((c : Int) = 92) := by omega
  by_cases c2 : c = 10
  · subst c2
    have e3 : bytesOf acc ++ [[AV.int .u8 92], [AV.int .u8 110]] = bytesOf (acc ++ [92, 110]) := bytesOf_two acc 92 110
    have ep : [92, 110] = pieceT 10 ((s.drop i).take k) := by unfold pieceT; rw [if_neg (by decide), if_pos rfl]
    simp (disch := first | omega | assumption) only [steps, st2, pev, rev, oev, optr, ibin, sbin, ishf, bound, mmAll, mm2, mk, mkArgs, AV.cells, AV.boxable, AV.one, AV.strip1, fillA, fillS, Nat.reduceEqDiff, reduceCtorEq, ↓reduceIte, Nat.reduceAdd, Int.reduceNeg, Nat.reduceLeDiff, Int.reduceToNat, Int.reduceEq, Int.reduceLT, Int.reduceLE, Int.reduceAdd]
    refine goP_ownS (by rw [hal]; exact hs1) (by simp only [hal, List.length_cons, List.length_nil]; omega) (by simp only [hal, List.length_cons, List.length_nil, maxLen]; omega) fun o3 H3 hs3 => ?_
    simp (disch := first | omega | assumption) only [e3, hmax1, wk, steps, st2, pev, rev, oev, optr, ibin, sbin, ishf, bound, mmAll, mm2, mk, mkArgs, AV.cells, AV.boxable, AV.one, AV.strip1, fillA, fillS, Nat.reduceEqDiff, reduceCtorEq, ↓reduceIte, Nat.reduceAdd, Int.reduceNeg, Nat.reduceLeDiff, Int.reduceToNat, Int.reduceEq, Int.reduceLT, Int.reduceLE, Int.reduceAdd]
    exact goJ (step o3 H3 _ ep (by simpa [hal] using hs3.own)) (by simp (disch := first | omega | assumption) only [steps, st2, pev, rev, oev, optr, ibin, sbin, ishf, bound, mmAll, mm2, mk, mkArgs, AV.cells, AV.boxable, AV.one, AV.strip1, fillA, fillS, Nat.reduceEqDiff, reduceCtorEq, ↓reduceIte, Nat.reduceAdd, Int.reduceNeg, Nat.reduceLeDiff, Int.reduceToNat, Int.reduceEq, Int.reduceLT, Int.reduceLE, Int.reduceAdd])
  have g10 : ¬ ((c : Int) = 10) := by omega
  by_cases c3 : c < 32 ∨ 65536 ≤ c
  · have hus := hone.2.2
    have hvt := hone.1
    have htl := hone.2.1
    have hlim : ((s.drop i).take k).length ≤ Lim := by rw [htl]; simp only [Lim]; omega
    have loop : ∀ (ρ : Env) (us : List Nat), us = (if 65536 ≤ c then [55296 + (c - 65536) / 1024, 56320 + (c - 65536) % 1024] else [c]) → (∀ u ∈ us, u < 65536) ∧ us.flatMap unitT = pieceT c ((s.drop i).take k) := fun ρ us hu => by
      subst hu
      by_cases h6 : 65536 ≤ c
      · rw [if_pos h6]
        refine ⟨fun u hu => by simp at hu; omega, ?_⟩
        unfold pieceT; rw [if_neg c1, if_neg c2, if_neg (by omega), if_pos h6]; simp
      · rw [if_neg h6]
        refine ⟨fun u hu => by simp at hu; omega, ?_⟩
        unfold pieceT; rw [if_neg c1, if_neg c2, if_pos (by omega)]; simp
    obtain ⟨us, hus2⟩ : ∃ us, us = (if 65536 ≤ c then [55296 + (c - 65536) / 1024, 56320 + (c - 65536) % 1024] else [c]) := ⟨_, rfl⟩
    rw [← hus2] at hus
    obtain ⟨hu1, hu2⟩ := loop (fun _ => .any) us hus2
    have hul : us.length ≤ 2 := by rw [hus2]; split <;> simp
    have hcl := cU_len us
    by_cases c4 : c < 32
    case' pos =>
      have g32 : ((c : Int) < 32) = True := eq_true (by omega)
      simp (disch := first | omega | assumption) only [g34, g92, g10, g32, wk, hle2, hle3, hsub, steps, st2, pev, rev, oev, optr, ibin, sbin, ishf, bound, mmAll, mm2, mk, mkArgs, AV.cells, AV.boxable, AV.one, AV.strip1, fillA, fillS, Nat.reduceEqDiff, reduceCtorEq, ↓reduceIte, Nat.reduceAdd, Int.reduceNeg, Nat.reduceLeDiff, Int.reduceToNat, Int.reduceEq, Int.reduceLT, Int.reduceLE, Int.reduceAdd]
    case' neg =>
      have g32 : ¬ ((c : Int) < 32) := by omega
      have g6 : ((65536 : Int) ≤ c) = True := eq_true (by omega)
      simp (disch := first | omega | assumption) only [g34, g92, g10, g32, g6, wk, hle2, hle3, hsub, steps, st2, pev, rev, oev, optr, ibin, sbin, ishf, bound, mmAll, mm2, mk, mkArgs, AV.cells, AV.boxable, AV.one, AV.strip1, fillA, fillS, Nat.reduceEqDiff, reduceCtorEq, ↓reduceIte, Nat.reduceAdd, Int.reduceNeg, Nat.reduceLeDiff, Int.reduceToNat, Int.reduceEq, Int.reduceLT, Int.reduceLE, Int.reduceAdd]
    all_goals
      refine goK_pure (unitsC _ hvt hlim) ?_
      rw [hus]
      simp (disch := first | omega | assumption) only [hcl, steps, st2, pev, rev, oev, optr, ibin, sbin, ishf, bound, mmAll, mm2, mk, mkArgs, AV.cells, AV.boxable, AV.one, AV.strip1, fillA, fillS, Nat.reduceEqDiff, reduceCtorEq, ↓reduceIte, Nat.reduceAdd, Int.reduceNeg, Nat.reduceLeDiff, Int.reduceToNat, Int.reduceEq, Int.reduceLT, Int.reduceLE, Int.reduceAdd]
      refine goL_range us 67 (fun x : Own × List UInt8 => [(3, .sl x.1 1 (bytesOf x.2))]) (fun done rest x H' => x.2 ++ rest.flatMap unitT = acc ++ pieceT c ((s.drop i).take k) ∧ x.2.length ≤ acc.length + 6 * done.length ∧ Owned H' x.1 x.2.length 1) (o, acc) (by simp (disch := first | omega | assumption) only [steps, st2, pev, rev, oev, optr, ibin, sbin, ishf, bound, mmAll, mm2, mk, mkArgs, AV.cells, AV.boxable, AV.one, AV.strip1, fillA, fillS, Nat.reduceEqDiff, reduceCtorEq, ↓reduceIte, Nat.reduceAdd, Int.reduceNeg, Nat.reduceLeDiff, Int.reduceToNat, Int.reduceEq, Int.reduceLT, Int.reduceLE, Int.reduceAdd]) ⟨by simp only; rw [hu2], by simp, hs1⟩ ?_ ?_
      · rintro ⟨o2, a⟩ H2 J2 ⟨hn, hle, hs2⟩ hlt
        simp only [List.flatMap_nil, List.append_nil] at hn hle hs2
        simp (disch := first | omega | assumption) only [hcl, hlt, hmax1, wk, steps, st2, pev, rev, oev, optr, ibin, sbin, ishf, bound, mmAll, mm2, mk, mkArgs, AV.cells, AV.boxable, AV.one, AV.strip1, fillA, fillS, Nat.reduceEqDiff, reduceCtorEq, ↓reduceIte, Nat.reduceAdd, Int.reduceNeg, Nat.reduceLeDiff, Int.reduceToNat, Int.reduceEq, Int.reduceLT, Int.reduceLE, Int.reduceAdd]
        subst hn
        exact goJ (step o2 H2 _ rfl hs2) (by simp (disch := first | omega | assumption) only [steps, st2, pev, rev, oev, optr, ibin, sbin, ishf, bound, mmAll, mm2, mk, mkArgs, AV.cells, AV.boxable, AV.one, AV.strip1, fillA, fillS, Nat.reduceEqDiff, reduceCtorEq, ↓reduceIte, Nat.reduceAdd, Int.reduceNeg, Nat.reduceLeDiff, Int.reduceToNat, Int.reduceEq, Int.reduceLT, Int.reduceLE, Int.reduceAdd])
      · rintro done x rest ⟨o2, a⟩ H2 J2 hdn hlt hlt2 ⟨hn, hle, hs2⟩ hJ2
        simp only [List.flatMap_cons] at hn hle hs2
        have hg : (cU us).getD done.length [] = [AV.int .i64 (x : Int)] := getD_mid' hdn
        simp (disch := first | omega | assumption) only [hcl, hlt, hg, steps, st2, pev, rev, oev, optr, ibin, sbin, ishf, bound, mmAll, mm2, mk, mkArgs, AV.cells, AV.boxable, AV.one, AV.strip1, fillA, fillS, Nat.reduceEqDiff, reduceCtorEq, ↓reduceIte, Nat.reduceAdd, Int.reduceNeg, Nat.reduceLeDiff, Int.reduceToNat, Int.reduceEq, Int.reduceLT, Int.reduceLE, Int.reduceAdd]
        refine goK_gives (unitTC x (hu1 x (by rw [hdn]; simp)) a _ o2 hs2 (by simp only [Lim]; omega)) fun o3 H3 hs3 => ?_
        rw [bytesOf_len] at hs3
        simp (disch := first | omega | assumption) only [wrap64, steps, st2, pev, rev, oev, optr, ibin, sbin, ishf, bound, mmAll, mm2, mk, mkArgs, AV.cells, AV.boxable, AV.one, AV.strip1, fillA, fillS, Nat.reduceEqDiff, reduceCtorEq, ↓reduceIte, Nat.reduceAdd, Int.reduceNeg, Nat.reduceLeDiff, Int.reduceToNat, Int.reduceEq, Int.reduceLT, Int.reduceLE, Int.reduceAdd]
        exact goJ (hJ2 (o3, a ++ unitT x) H3 ⟨by rw [← hn]; simp, by simp only [List.length_append, unitT_len, List.length_cons, List.length_nil]; omega, hs3.own⟩) (by simp (disch := first | omega | assumption) only [steps, st2, pev, rev, oev, optr, ibin, sbin, ishf, bound, mmAll, mm2, mk, mkArgs, AV.cells, AV.boxable, AV.one, AV.strip1, fillA, fillS, Nat.reduceEqDiff, reduceCtorEq, ↓reduceIte, Nat.reduceAdd, Int.reduceNeg, Nat.reduceLeDiff, Int.reduceToNat, Int.reduceEq, Int.reduceLT, Int.reduceLE, Int.reduceAdd])
  · have g32 : ¬ ((c : Int) < 32) := by omega
    have g6 : ¬ ((65536 : Int) ≤ c) := by omega
    have ep : (s.drop i).take k = pieceT c ((s.drop i).take k) := by unfold pieceT; rw [if_neg c1, if_neg c2, if_neg (by omega), if_neg (by omega)]
    have htl := hone.2.1
    have hbl := bytesOf_len ((s.drop i).take k)
    simp (disch := first | omega | assumption) only [g34, g92, g10, g32, g6, wk, hle2, hle3, hsub, steps, st2, pev, rev, oev, optr, ibin, sbin, ishf, bound, mmAll, mm2, mk, mkArgs, AV.cells, AV.boxable, AV.one, AV.strip1, fillA, fillS, Nat.reduceEqDiff, reduceCtorEq, ↓reduceIte, Nat.reduceAdd, Int.reduceNeg, Nat.reduceLeDiff, Int.reduceToNat, Int.reduceEq, Int.reduceLT, Int.reduceLE, Int.reduceAdd]
    refine goP_ownS (by rw [hal]; exact hs1) (by rw [hal, hbl, htl]; omega) (by rw [hal, hbl, htl]; simp only [maxLen]; omega) fun o3 H3 hs3 => ?_
    simp (disch := first | omega | assumption) only [bytesOf_strip, bytesOf_app, hmax1, wk, steps, st2, pev, rev, oev, optr, ibin, sbin, ishf, bound, mmAll, mm2, mk, mkArgs, AV.cells, AV.boxable, AV.one, AV.strip1, fillA, fillS, Nat.reduceEqDiff, reduceCtorEq, ↓reduceIte, Nat.reduceAdd, Int.reduceNeg, Nat.reduceLeDiff, Int.reduceToNat, Int.reduceEq, Int.reduceLT, Int.reduceLE, Int.reduceAdd]
    exact goJ (step o3 H3 _ ep (by have := hs3.own; rw [hal, hbl] at this; simpa using this)) (by simp (disch := first | omega | assumption) only [steps, st2, pev, rev, oev, optr, ibin, sbin, ishf, bound, mmAll, mm2, mk, mkArgs, AV.cells, AV.boxable, AV.one, AV.strip1, fillA, fillS, Nat.reduceEqDiff, reduceCtorEq, ↓reduceIte, Nat.reduceAdd, Int.reduceNeg, Nat.reduceLeDiff, Int.reduceToNat, Int.reduceEq, Int.reduceLT, Int.reduceLE, Int.reduceAdd])
end Go.Proofs.YticbbfbpeimkbaaGreatDoor
