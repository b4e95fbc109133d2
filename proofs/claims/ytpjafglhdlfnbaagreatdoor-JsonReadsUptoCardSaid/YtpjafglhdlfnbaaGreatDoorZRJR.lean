import Derived.Test.YtpjafglhdlfnbaaGreatDoorM1
import Derived.Test.YtpjafglhdlfnbaaGreatDoorM2
import Derived.Test.YtpjafglhdlfnbaaGreatDoorM3
import Derived.Test.YtpjafglhdlfnbaaGreatDoorM4
import Derived.Test.YtpjafglhdlfnbaaGreatDoorM5
import Derived.Test.YtpjafglhdlfnbaaGreatDoorZRJRa
set_option maxRecDepth 100000
set_option linter.unusedSimpArgs false
set_option linter.unusedVariables false
namespace Go.Proofs.YtpjafglhdlfnbaaGreatDoor
open Go.Ab Go.Lib
theorem nst_eq (c : UInt8) : nst c = (decide (c.toNat = 45) || (decide (48 ≤ c.toNat) && decide (c.toNat ≤ 57))) :=
  u8_all (P := fun c => nst c = (decide (c.toNat = 45) || (decide (48 ≤ c.toNat) && decide (c.toNat ≤ 57)))) (by decide +kernel) c
theorem may_word {x : List UInt8} {c : UInt8} {r : List UInt8} (hb : bk c = false) : mayM x (c :: r) = if x.isPrefixOf (c :: r) then some ((c :: r).drop x.length) else none := by unfold mayM; rw [skB_no hb]
theorem wordM_n {c : UInt8} (hc : c = 110) (r : List UInt8) : wordM (c :: r) = if [110, 117, 108, 108].isPrefixOf (c :: r) then .ok (nullV, (c :: r).drop 4) else .error 2 := by
  subst hc
  unfold wordM mustM
  rw [may_word (by decide), may_word (by decide), may_word (by decide)]
  by_cases h : [110, 117, 108, 108].isPrefixOf (110 :: r) = true
  · rw [if_pos h, if_pos h]; rfl
  · rw [if_neg h, if_neg h, if_neg (by simp [List.isPrefixOf]), if_neg (by simp [List.isPrefixOf])]; rfl
theorem wordM_t {c : UInt8} (hc : c = 116) (r : List UInt8) : wordM (c :: r) = if [116, 114, 117, 101].isPrefixOf (c :: r) then .ok (.mk 1 1 [] [] [], (c :: r).drop 4) else .error 2 := by
  subst hc
  unfold wordM mustM
  rw [may_word (by decide), may_word (by decide), may_word (by decide)]
  by_cases h : [116, 114, 117, 101].isPrefixOf (116 :: r) = true
  · rw [if_neg (by simp [List.isPrefixOf]), if_pos h, if_pos h]; rfl
  · rw [if_neg (by simp [List.isPrefixOf]), if_neg h, if_neg h, if_neg (by simp [List.isPrefixOf])]; rfl
theorem wordM_f {c : UInt8} (hc : c = 102) (r : List UInt8) : wordM (c :: r) = if [102, 97, 108, 115, 101].isPrefixOf (c :: r) then .ok (.mk 1 0 [] [] [], (c :: r).drop 5) else .error 2 := by
  subst hc
  unfold wordM mustM
  rw [may_word (by decide), may_word (by decide), may_word (by decide)]
  by_cases h : [102, 97, 108, 115, 101].isPrefixOf (102 :: r) = true
  · rw [if_neg (by simp [List.isPrefixOf]), if_neg (by simp [List.isPrefixOf]), if_pos h, if_pos h]; rfl
  · rw [if_neg (by simp [List.isPrefixOf]), if_neg (by simp [List.isPrefixOf]), if_neg h, if_neg h]; rfl
theorem wordM_no {c : UInt8} {r : List UInt8} (hb : bk c = false) (h1 : c ≠ 110) (h2 : c ≠ 116) (h3 : c ≠ 102) : wordM (c :: r) = .error 2 := by
  unfold wordM mustM
  rw [may_word hb, may_word hb, may_word hb, if_neg (by simp [List.isPrefixOf, Ne.symm h1]), if_neg (by simp [List.isPrefixOf, Ne.symm h2]), if_neg (by simp [List.isPrefixOf, Ne.symm h3])]; rfl
theorem skB_head : ∀ {t : List UInt8} {c : UInt8} {u : List UInt8}, skB t = c :: u → bk c = false
  | [], _, _, h => by cases h
  | d :: t, c, u, h => by
    rw [skB] at h
    split at h
    · exact skB_head h
    · rename_i hd; cases h; simpa using hd
set_option maxHeartbeats 4000000 in
theorem valueR (k : Nat) (hk : k ≤ 16) (ih : ∀ n, k = n + 1 → ValR n) : ValR k := by
  intro H r s p t hs hl hvt hr
  refine of_rt (R := fun v H' => RetR H r s (16 - k) (valM k t) (fun v => .agg (cV v)) bad5 v H') (ACalls.goO (R := fun v H' => RetR H r s (16 - k) (valM k t) (fun v => .agg (cV v)) bad5 v.strip H') (RP := fun _ _ => False) ir37 ck37 (Nat.le_refl _) fun KP Q hQ hP => ?_)
  have L0 : LX H r H (rr s p (16 - k)) .nil 0 5 := LX.init hr
  have hl0 := hl
  simp only [LimS] at hl
  simp (disch := first | omega | assumption) only [ir37, go_sem, ↓reduceIte]
  refine goA_intro fun b2 hb2 => ?_
  have nr2 := L0.ne hb2
  have n2r := Ne.symm nr2
  have L1 := L0.new (x := .cells z5) hb2
  simp (disch := first | omega | assumption) only [go_sem, ↓reduceIte]
  refine goK_ret (blanksR0 hs hl0 L1.here) fun v H1 ⟨hv, p1, hp1, hH⟩ => ?_
  subst hv
  have L2 : LX H r H1 (rr s p1 (16 - k)) .nil 0 5 := by rw [hH]; exact L1.call
  have h21 : H1 b2 = some (.cells z5) := by rw [hH, upd_ne n2r, upd_same]
  have hr1 := L2.here
  have hvs := skB_valid t hvt
  clear hH
  have fin : ∀ (H3 : Heap) (X : AObj) (cs : List AV), H3 = H1.upd r X → (∃ ys, X = .cells ys) → H3 b2 = some (.cells z5) ∧ Low (H.upd r X) (H3.upd b2 (.cells cs)) := fun H3 X cs e ⟨ys, hX⟩ => by
    subst e; subst hX
    have h2 : (H1.upd r (.cells ys)) b2 = some (.cells z5) := by rw [upd_ne n2r]; exact h21
    exact ⟨h2, ((L2.call (X' := .cells ys)).box (cs := ys) (ds' := cs) hb2 h2).low⟩
  have h5sp : ∀ cs : List AV, cs.length = 5 → splice z5 0 cs = cs := fun cs h => by unfold splice; simp [h]
  have h5t : ∀ cs : List AV, cs.length = 5 → cs.take 5 = cs := fun cs h => List.take_of_length_le (by omega)
  have lift : ∀ (x : RR Val) (v : AV) (H3 : Heap), valM k t = x → RetR H1 r s (16 - k) x (fun v => .agg (cV v)) bad5 v H3 → ∃ cs, v = .agg cs ∧ cs.length = 5 ∧ H3 b2 = some (.cells z5) ∧ ∃ H4, Low H4 (H3.upd b2 (.cells cs)) ∧ RetR H r s (16 - k) (valM k t) (fun v => .agg (cV v)) bad5 (AV.agg cs).strip H4 := by
    intro x v H3 e hret
    rw [e]
    rcases valM_nz hret with ⟨w, t', p', e6, hv6, hp6, hH6⟩ | ⟨m, cs, a, d, e6, hm, hv6, hc5, hH6⟩
    · obtain ⟨h2, hlow⟩ := fin H3 _ (cV w) hH6 ⟨_, rfl⟩
      refine ⟨_, hv6, cV_len w, h2, _, hlow, ?_⟩
      rw [e6]
      exact ⟨by simp only [AV.strip, cV_strip], p', hp6, rfl⟩
    · obtain ⟨h2, hlow⟩ := fin H3 _ cs hH6 ⟨_, rfl⟩
      refine ⟨_, hv6, hc5, h2, _, hlow, ?_⟩
      rw [e6]
      exact ⟨⟨_, rfl, by simpa using hc5⟩, hm, a, d, rfl⟩
  simp (disch := first | omega | assumption) only [go_sem, ↓reduceIte]
  refine goK_ret (peekR0 hp1 hr1) fun v H2 ⟨hv, hH⟩ => ?_
  subst hv; replace hH := hH.symm; subst hH
  cases hu : skB t with
  | nil =>
    have eV : valM k t = .error 2 := by
      have : valM k t = valM k (skB t) := (valM_sk' k t).symm
      rw [this, hu]
      cases k <;> rfl
    have g0 : ((([] : List UInt8).headD 0).toNat : Int) = 0 := rfl
    simp (disch := first | omega | assumption) only [g0, go_sem, ↓reduceIte]
    refine goK_ret (failR0 hr1 2) fun v H3 ⟨hv, hH⟩ => ?_
    subst hv
    obtain ⟨cs, e1, e2, h2, H4, hlow, hret⟩ := lift (.error 2) (.agg z5) H3 eV ⟨⟨_, rfl, rfl⟩, by decide, _, _, hH⟩
    cases e1
    simp (disch := first | omega | assumption) only [h2, go_sem, ↓reduceIte]
    exact hQ _ _ _ H4 [.agg z5] nofun (by simp (disch := first | omega | assumption) only [ir37, resvs, resv, upd_same, go_sem, ↓reduceIte]) hlow hret
  | cons c u =>
    have hb := skB_head hu
    have eV0 : valM k t = valM k (c :: u) := by rw [← valM_sk' k t, hu]
    rw [hu] at hp1 hvs
    have g0 : (((c :: u).headD 0).toNat : Int) = c.toNat := rfl
    have fact : ∀ m : UInt8, c ≠ m → ¬ ((c.toNat : Int) = (m.toNat : Int)) := fun m h => by rw [u8_eq]; exact h
    have hpl : p1.length + u.length + 1 = s.length := by rw [← hp1]; simp; omega
    by_cases c1 : c = 110
    · have g1 : ((c.toNat : Int) = 110) = True := eq_true (by rw [c1]; rfl)
      obtain ⟨q, hq⟩ := valM_hd (k := k) (c := c) (t := u) hb (by rw [c1]; decide) (by rw [c1]; decide)
      have eV : valM k t = wordM (c :: u) := by
        rw [eV0, hq]; simp only [headM]
        rw [if_neg (by rw [c1]; decide), if_neg (by rw [c1]; decide), if_neg (by rw [c1]; decide), if_neg (by rw [c1]; decide)]
      rw [wordM_n c1] at eV
      simp (disch := first | omega | assumption) only [g0, g1, go_sem, ↓reduceIte]
      refine goK_ret (rt_of r (wordR0 [110, 117, 108, 108] (by decide) z5 rfl hp1 hl0 hr1)) fun v H3 ⟨hv3, hw⟩ => ?_
      obtain ⟨cs, e1, e2, h2, H4, hlow, hret⟩ := lift _ v H3 eV (by
        split at hw
        · rename_i h; rw [if_pos h]; exact ⟨by rw [hv3]; rfl, hw⟩
        · rename_i h; rw [if_neg h]; exact ⟨⟨_, hv3, rfl⟩, hw⟩)
      subst e1
      have hsp := h5sp cs e2
      have htk := h5t cs e2
      have l5 : 5 ≤ cs.length := by omega
      simp (disch := first | omega | assumption) only [h2, e2, hsp, htk, l5, go_sem, ↓reduceIte]
      exact hQ _ _ _ H4 [.agg cs] nofun (by simp (disch := first | omega | assumption) only [ir37, resvs, resv, upd_same, e2, htk, hsp, l5, go_sem, ↓reduceIte]) hlow hret
    have f1 : ¬ ((c.toNat : Int) = 110) := fact 110 c1
    by_cases c2 : c = 116
    · have g1 : ((c.toNat : Int) = 116) = True := eq_true (by rw [c2]; rfl)
      obtain ⟨q, hq⟩ := valM_hd (k := k) (c := c) (t := u) hb (by rw [c2]; decide) (by rw [c2]; decide)
      have eV : valM k t = wordM (c :: u) := by
        rw [eV0, hq]; simp only [headM]
        rw [if_neg (by rw [c2]; decide), if_neg (by rw [c2]; decide), if_neg (by rw [c2]; decide), if_neg (by rw [c2]; decide)]
      rw [wordM_t c2] at eV
      simp (disch := first | omega | assumption) only [g0, f1, g1, go_sem, ↓reduceIte]
      refine goK_ret (rt_of r (wordR0 [116, 114, 117, 101] (by decide) [.int .i64 1, .int .i64 1, .str [], .sl .nil 5 [], .sl .nil 6 []] rfl hp1 hl0 hr1)) fun v H3 ⟨hv3, hw⟩ => ?_
      obtain ⟨cs, e1, e2, h2, H4, hlow, hret⟩ := lift _ v H3 eV (by
        split at hw
        · rename_i h; rw [if_pos h]; exact ⟨by rw [hv3]; rfl, hw⟩
        · rename_i h; rw [if_neg h]; exact ⟨⟨_, hv3, rfl⟩, hw⟩)
      subst e1
      have hsp := h5sp cs e2
      have htk := h5t cs e2
      have l5 : 5 ≤ cs.length := by omega
      simp (disch := first | omega | assumption) only [h2, e2, hsp, htk, l5, go_sem, ↓reduceIte]
      exact hQ _ _ _ H4 [.agg cs] nofun (by simp (disch := first | omega | assumption) only [ir37, resvs, resv, upd_same, e2, htk, hsp, l5, go_sem, ↓reduceIte]) hlow hret
    have f2 : ¬ ((c.toNat : Int) = 116) := fact 116 c2
    by_cases c3 : c = 102
    · have g1 : ((c.toNat : Int) = 102) = True := eq_true (by rw [c3]; rfl)
      obtain ⟨q, hq⟩ := valM_hd (k := k) (c := c) (t := u) hb (by rw [c3]; decide) (by rw [c3]; decide)
      have eV : valM k t = wordM (c :: u) := by
        rw [eV0, hq]; simp only [headM]
        rw [if_neg (by rw [c3]; decide), if_neg (by rw [c3]; decide), if_neg (by rw [c3]; decide), if_neg (by rw [c3]; decide)]
      rw [wordM_f c3] at eV
      simp (disch := first | omega | assumption) only [g0, f1, f2, g1, go_sem, ↓reduceIte]
      refine goK_ret (rt_of r (wordR0 [102, 97, 108, 115, 101] (by decide) [.int .i64 1, .int .i64 0, .str [], .sl .nil 5 [], .sl .nil 6 []] rfl hp1 hl0 hr1)) fun v H3 ⟨hv3, hw⟩ => ?_
      obtain ⟨cs, e1, e2, h2, H4, hlow, hret⟩ := lift _ v H3 eV (by
        split at hw
        · rename_i h; rw [if_pos h]; exact ⟨by rw [hv3]; rfl, hw⟩
        · rename_i h; rw [if_neg h]; exact ⟨⟨_, hv3, rfl⟩, hw⟩)
      subst e1
      have hsp := h5sp cs e2
      have htk := h5t cs e2
      have l5 : 5 ≤ cs.length := by omega
      simp (disch := first | omega | assumption) only [h2, e2, hsp, htk, l5, go_sem, ↓reduceIte]
      exact hQ _ _ _ H4 [.agg cs] nofun (by simp (disch := first | omega | assumption) only [ir37, resvs, resv, upd_same, e2, htk, hsp, l5, go_sem, ↓reduceIte]) hlow hret
    have f3 : ¬ ((c.toNat : Int) = 102) := fact 102 c3
    have hns := nst_eq c
    by_cases c4 : nst c = true
    · obtain ⟨h0, h1, h2', h3', _⟩ := nst_other c c4
      obtain ⟨q, hq⟩ := valM_hd (k := k) (c := c) (t := u) hb h1 h2'
      have eV : valM k t = numM (c :: u) := by rw [eV0, hq, headM_num c4]
      have split45 : ((c.toNat : Int) = 45 ∧ True) ∨ (¬ ((c.toNat : Int) = 45) ∧ ((48 : Int) ≤ c.toNat ∧ (c.toNat : Int) ≤ 57)) := by
        rw [hns] at c4
        simp only [Bool.or_eq_true, Bool.and_eq_true, decide_eq_true_eq] at c4
        rcases c4 with h | h
        · exact .inl ⟨by omega, trivial⟩
        · exact .inr ⟨by omega, by omega, by omega⟩
      have hnum := rt_of r (numberR0 hp1 hl0 hr1)
      rcases split45 with ⟨g1, _⟩ | ⟨g1, g2, g3⟩
      · simp (disch := first | omega | assumption) only [g0, f1, f2, f3, g1, go_sem, ↓reduceIte]
        refine goK_ret hnum fun v H3 hret3 => ?_
        obtain ⟨cs, e1, e2, h2, H4, hlow, hret⟩ := lift _ v H3 eV hret3
        subst e1
        have hsp := h5sp cs e2
        have htk := h5t cs e2
        have l5 : 5 ≤ cs.length := by omega
        simp (disch := first | omega | assumption) only [h2, e2, hsp, htk, l5, go_sem, ↓reduceIte]
        exact hQ _ _ _ H4 [.agg cs] nofun (by simp (disch := first | omega | assumption) only [ir37, resvs, resv, upd_same, e2, htk, hsp, l5, go_sem, ↓reduceIte]) hlow hret
      · simp (disch := first | omega | assumption) only [g0, f1, f2, f3, g1, g2, g3, go_sem, ↓reduceIte]
        refine goK_ret hnum fun v H3 hret3 => ?_
        obtain ⟨cs, e1, e2, h2, H4, hlow, hret⟩ := lift _ v H3 eV hret3
        subst e1
        have hsp := h5sp cs e2
        have htk := h5t cs e2
        have l5 : 5 ≤ cs.length := by omega
        simp (disch := first | omega | assumption) only [h2, e2, hsp, htk, l5, go_sem, ↓reduceIte]
        exact hQ _ _ _ H4 [.agg cs] nofun (by simp (disch := first | omega | assumption) only [ir37, resvs, resv, upd_same, e2, htk, hsp, l5, go_sem, ↓reduceIte]) hlow hret
    have c4' : nst c = false := by simpa using c4
    rw [hns] at c4'
    simp only [Bool.or_eq_false_iff, Bool.and_eq_false_iff, decide_eq_false_iff_not] at c4'
    have g45 : ¬ ((c.toNat : Int) = 45) := by omega
    have heads : (¬ ((48 : Int) ≤ c.toNat) ∧ ¬ ((48 : Int) ≤ c.toNat)) ∨ ((48 : Int) ≤ c.toNat ∧ ¬ ((c.toNat : Int) ≤ 57)) := by omega
    by_cases c5 : c = 34
    · have g34 : ((c.toNat : Int) = 34) = True := eq_true (by rw [c5]; rfl)
      have g48 : ¬ ((48 : Int) ≤ c.toNat) := by rw [c5]; decide
      obtain ⟨q, hq⟩ := valM_hd (k := k) (c := c) (t := u) hb (by rw [c5]; decide) (by rw [c5]; decide)
      have eV : valM k t = (textM (c :: u)).bind fun s t => .ok (.mk 4 0 s [] [], t) := by
        rw [eV0, hq]; simp only [headM]
        rw [if_neg (by rw [c5]; decide), if_neg (by rw [c5]; decide), if_pos c5]
      simp (disch := first | omega | assumption) only [g0, f1, f2, f3, g45, g48, g34, go_sem, ↓reduceIte]
      refine goK_ret (textR0 hp1 hl0 (skB_no hb) hvs hr1) fun v H3 hret3 => ?_
      cases htm : textM (c :: u) with
      | ok y =>
        obtain ⟨b, t'⟩ := y
        rw [htm] at hret3 eV
        obtain ⟨hv3, hat⟩ := hret3
        subst hv3
        simp only [RR.bind] at eV
        simp (disch := first | omega | assumption) only [go_sem, ↓reduceIte]
        refine goK_pure (textR b) ?_
        obtain ⟨cs, e1, e2, h2, H4, hlow, hret⟩ := lift _ (.agg (cV (.mk 4 0 b [] []))) H3 eV ⟨rfl, hat⟩
        cases e1
        simp (disch := first | omega | assumption) only [h2, cV_len, cV_splice, cV_take, go_sem, ↓reduceIte]
        exact hQ _ _ _ H4 [.agg (cV (.mk 4 0 b [] []))] nofun (by simp (disch := first | omega | assumption) only [ir37, resvs, resv, upd_same, cV_len, cV_take, cV_splice, go_sem, ↓reduceIte]) hlow hret
      | error m =>
        rw [htm] at hret3 eV
        obtain ⟨⟨b, hv3⟩, hm, hat⟩ := hret3
        subst hv3
        simp only [RR.bind] at eV
        simp (disch := first | omega | assumption) only [go_sem, ↓reduceIte]
        refine goK_pure (textR b) ?_
        obtain ⟨cs, e1, e2, h2, H4, hlow, hret⟩ := lift _ (.agg (cV (.mk 4 0 b [] []))) H3 eV ⟨⟨_, rfl, cV_len _⟩, hm, hat⟩
        cases e1
        simp (disch := first | omega | assumption) only [h2, cV_len, cV_splice, cV_take, go_sem, ↓reduceIte]
        exact hQ _ _ _ H4 [.agg (cV (.mk 4 0 b [] []))] nofun (by simp (disch := first | omega | assumption) only [ir37, resvs, resv, upd_same, cV_len, cV_take, cV_splice, go_sem, ↓reduceIte]) hlow hret
    have f34 : ¬ ((c.toNat : Int) = 34) := fact 34 c5
    by_cases c6 : c = 91
    · have g91 : ((c.toNat : Int) = 91) = True := eq_true (by rw [c6]; rfl)
      have g48 : (48 : Int) ≤ c.toNat := by rw [c6]; decide
      have g57 : ¬ ((c.toNat : Int) ≤ 57) := by rw [c6]; decide
      have eV : valM k t = listK k u := by
        rw [eV0, c6]
        cases k with
        | zero => simp only [valM, skB_no (show bk 91 = false by decide)]; rw [if_pos (by simp)]; rfl
        | succ n => simp only [valM, skB_no (show bk 91 = false by decide), headM]; rw [if_neg (by decide), if_pos trivial]; rfl
      have hvu : validD u = true := by rw [c6, validD_cons _ _ (by decide)] at hvs; exact hvs
      simp (disch := first | omega | assumption) only [g0, f1, f2, f3, g45, g48, g57, f34, g91, go_sem, ↓reduceIte]
      refine goK_ret (listR hk ih (by rw [← c6]; exact hp1) hl0 hvu hr1) fun v H3 hret3 => ?_
      obtain ⟨cs, e1, e2, h2, H4, hlow, hret⟩ := lift _ v H3 eV hret3
      subst e1
      have hsp := h5sp cs e2
      have htk := h5t cs e2
      have l5 : 5 ≤ cs.length := by omega
      simp (disch := first | omega | assumption) only [h2, e2, hsp, htk, l5, go_sem, ↓reduceIte]
      exact hQ _ _ _ H4 [.agg cs] nofun (by simp (disch := first | omega | assumption) only [ir37, resvs, resv, upd_same, e2, htk, hsp, l5, go_sem, ↓reduceIte]) hlow hret
    have f91 : ¬ ((c.toNat : Int) = 91) := fact 91 c6
    by_cases c7 : c = 123
    · have g123 : ((c.toNat : Int) = 123) = True := eq_true (by rw [c7]; rfl)
      have g48 : (48 : Int) ≤ c.toNat := by rw [c7]; decide
      have g57 : ¬ ((c.toNat : Int) ≤ 57) := by rw [c7]; decide
      have eV : valM k t = objK k u := by
        rw [eV0, c7]
        cases k with
        | zero => simp only [valM, skB_no (show bk 123 = false by decide)]; rw [if_pos (by simp)]; rfl
        | succ n => simp only [valM, skB_no (show bk 123 = false by decide), headM]; rw [if_pos trivial]; rfl
      have hvu : validD u = true := by rw [c7, validD_cons _ _ (by decide)] at hvs; exact hvs
      simp (disch := first | omega | assumption) only [g0, f1, f2, f3, g45, g48, g57, f34, f91, g123, go_sem, ↓reduceIte]
      refine goK_ret (objR hk ih (by rw [← c7]; exact hp1) hl0 hvu hr1) fun v H3 hret3 => ?_
      obtain ⟨cs, e1, e2, h2, H4, hlow, hret⟩ := lift _ v H3 eV hret3
      subst e1
      have hsp := h5sp cs e2
      have htk := h5t cs e2
      have l5 : 5 ≤ cs.length := by omega
      simp (disch := first | omega | assumption) only [h2, e2, hsp, htk, l5, go_sem, ↓reduceIte]
      exact hQ _ _ _ H4 [.agg cs] nofun (by simp (disch := first | omega | assumption) only [ir37, resvs, resv, upd_same, e2, htk, hsp, l5, go_sem, ↓reduceIte]) hlow hret
    have f123 : ¬ ((c.toNat : Int) = 123) := fact 123 c7
    obtain ⟨q, hq⟩ := valM_hd (k := k) (c := c) (t := u) hb c7 c6
    have eV : valM k t = .error 2 := by
      rw [eV0, hq]; simp only [headM]
      rw [if_neg c7, if_neg c6, if_neg c5, if_neg c4]
      exact wordM_no hb c1 c2 c3
    rcases heads with ⟨g48, g57⟩ | ⟨g48, g57⟩
    all_goals
      simp (disch := first | omega | assumption) only [g0, f1, f2, f3, g45, g48, g57, f34, f91, f123, go_sem, ↓reduceIte]
      refine goK_ret (failR0 hr1 2) fun v H3 ⟨hv, hH⟩ => ?_
      subst hv
      obtain ⟨cs, e1, e2, h2, H4, hlow, hret⟩ := lift (.error 2) (.agg z5) H3 eV ⟨⟨_, rfl, rfl⟩, by decide, _, _, hH⟩
      cases e1
      simp (disch := first | omega | assumption) only [h2, go_sem, ↓reduceIte]
      exact hQ _ _ _ H4 [.agg z5] nofun (by simp (disch := first | omega | assumption) only [ir37, resvs, resv, upd_same, go_sem, ↓reduceIte]) hlow hret
theorem valueRA : ∀ k, k ≤ 16 → ValR k
  | 0, h => valueR 0 h fun n e => by cases e
  | k + 1, h => valueR (k + 1) h fun n e => by cases e; exact valueRA k (by omega)
end Go.Proofs.YtpjafglhdlfnbaaGreatDoor
namespace Go.Proofs.YtpjafglhdlfnbaaGreatDoor
open Go.Ab Go.Lib
theorem readJR (s : List UInt8) (hl : s.length ≤ LimS) : Pure Tryz.prog 14 [.str s] (.tup [.agg (cV (readM s).1), .int .i64 (readM s).2]) := by
  refine Pure.go ir14 ck14 (Nat.le_refl _) fun KP Q hQ => ?_
  have hl0 := hl
  simp only [LimS] at hl
  simp (disch := first | omega | assumption) only [ir14, go_sem, ↓reduceIte]
  refine goA_intro fun b2 hb2 => ?_
  have stripz : ∀ n : Int, (tupOf [AV.agg z5, .int .i64 n]).strip = .tup [.agg (cV nullV), .int .i64 n] := fun _ => rfl
  by_cases h1 : 8192 < s.length
  · have h1' : ((8192 : Int) < s.length) = True := eq_true (by omega)
    have e0 : readM s = (nullV, 3) := by unfold readM; rw [if_pos h1]
    rw [e0] at hQ
    simp (disch := first | omega | assumption) only [h1', go_sem, ↓reduceIte]
    exact hQ _ _ _ [.agg z5, .int .i64 3] nofun (by simp (disch := first | omega | assumption) only [ir14, resvs, resv, upd_same, go_sem, ↓reduceIte]) (stripz 3)
  have h1' : ¬ ((8192 : Int) < s.length) := by omega
  simp (disch := first | omega | assumption) only [h1', go_sem, ↓reduceIte]
  refine goK_pure (GoodR s (by simp only [Lim]; omega)) ?_
  cases hv : validD s
  · have e0 : readM s = (nullV, 2) := by unfold readM; rw [if_neg h1, hv]; rfl
    rw [e0] at hQ
    simp (disch := first | omega | assumption) only [go_sem, ↓reduceIte]
    exact hQ _ _ _ [.agg z5, .int .i64 2] nofun (by simp (disch := first | omega | assumption) only [ir14, resvs, resv, upd_same, go_sem, ↓reduceIte]) (stripz 2)
  have e0 : readM s = match valM 16 s with
      | .error e => (nullV, e)
      | .ok (v, t) => if skB t = [] then (v, 0) else (nullV, 2) := by unfold readM; rw [if_neg h1, hv]; rfl
  simp (disch := first | omega | assumption) only [go_sem, ↓reduceIte]
  refine goA_intro fun b4 hb4 => ?_
  have n42 : b4 ≠ b2 := fun e => by subst e; rw [upd_same] at hb4; cases hb4
  have n24 := Ne.symm n42
  have h4 : ((Heap.emp.upd b2 (.cells z5)).upd b4 (.cells [.str s, .int .i64 0, .int .i64 0, .int .i64 0])) b4 = some (rr s [] (16 - 16)) := upd_same ..
  have h2 : ((Heap.emp.upd b2 (.cells z5)).upd b4 (.cells [.str s, .int .i64 0, .int .i64 0, .int .i64 0])) b2 = some (.cells z5) := by rw [upd_ne n24, upd_same]
  simp (disch := first | omega | assumption) only [go_sem, ↓reduceIte]
  generalize ((Heap.emp.upd b2 (.cells z5)).upd b4 (.cells [.str s, .int .i64 0, .int .i64 0, .int .i64 0])) = H1 at *
  refine goK_ret (valueRA 16 (Nat.le_refl _) H1 b4 s [] s rfl hl0 hv h4) fun v H3 hret => ?_
  rcases valM_nz hret with ⟨w, t', p', e6, hv6, hp6, hH6⟩ | ⟨m, cs, a, d, e6, hm, hv6, hc5, hH6⟩
  · subst hv6
    have hr3 : H3 b4 = some (rr s p' (16 - 16)) := by rw [hH6, upd_same]
    have h23 : H3 b2 = some (.cells z5) := by rw [hH6, upd_ne n24]; exact h2
    rw [e6] at e0
    simp only at e0
    clear hH6
    simp (disch := first | omega | assumption) only [cV_len, cV_take, cV_splice, cM_len, cM_take, cM_splice, cM_mk, go_sem, ↓reduceIte]
    refine goA_intro fun b5 hb5 => ?_
    have n54 : b5 ≠ b4 := fun e => by subst e; rw [hb5] at hr3; cases hr3
    have n45 := Ne.symm n54
    have n52 : b5 ≠ b2 := fun e => by subst e; rw [hb5] at h23; cases h23
    have n25 := Ne.symm n52
    have hr4 : (H3.upd b5 (.cells (cV w))) b4 = some (rr s p' (16 - 16)) := by rw [upd_ne n45]; exact hr3
    have h24 : (H3.upd b5 (.cells (cV w))) b2 = some (.cells z5) := by rw [upd_ne n25]; exact h23
    have h54 : (H3.upd b5 (.cells (cV w))) b5 = some (.cells (cV w)) := upd_same ..
    simp (disch := first | omega | assumption) only [cV_len, cV_take, cV_splice, cM_len, cM_take, cM_splice, cM_mk, go_sem, ↓reduceIte]
    generalize (H3.upd b5 (.cells (cV w))) = H4 at *
    refine goK_ret (blanksR0 hp6 hl0 hr4) fun v H5 ⟨hv5, p5, hp5, hH⟩ => ?_
    subst hv5
    have hr5 : H5 b4 = some (rr s p5 (16 - 16)) := by rw [hH, upd_same]
    have hr5' : H5 b4 = some (.cells [.str s, .int .i64 (p5.length : Int), .int .i64 ((16 - 16 : Nat) : Int), .int .i64 0]) := hr5
    have h25 : H5 b2 = some (.cells z5) := by rw [hH, upd_ne n24]; exact h24
    have h55 : H5 b5 = some (.cells (cV w)) := by rw [hH, upd_ne n54]; exact h54
    have hlen : p5.length + (skB t').length = s.length := by rw [← hp5]; simp
    clear hH
    by_cases hk : skB t' = []
    · rw [hk] at hlen e0
      rw [if_pos rfl] at e0
      rw [e0] at hQ
      have hlt : ¬ ((p5.length : Int) < s.length) := by simp at hlen; omega
      simp (disch := first | omega | assumption) only [cV_len, cV_take, cV_splice, cM_len, cM_take, cM_splice, cM_mk, hr5', hlt, h25, h55, go_sem, ↓reduceIte]
      exact hQ _ _ _ [.agg (cV w), .int .i64 0] nofun (by simp (disch := first | omega | assumption) only [cV_len, cV_take, cV_splice, cM_len, cM_take, cM_splice, cM_mk, ir14, resvs, resv, upd_same, go_sem, ↓reduceIte]) (by simp [tupOf, AV.strip, AV.strip1, cV_strip])
    · rw [if_neg hk] at e0
      rw [e0] at hQ
      have hlt : ((p5.length : Int) < s.length) = True := eq_true (by have := List.length_pos_iff.2 hk; omega)
      simp (disch := first | omega | assumption) only [cV_len, cV_take, cV_splice, cM_len, cM_take, cM_splice, cM_mk, hr5', hlt, go_sem, ↓reduceIte]
      refine goK_ret (failR0 hr5 2) fun v H6 ⟨hv6, hH⟩ => ?_
      subst hv6
      have hr6 : H6 b4 = some (.cells [.str s, .int .i64 (p5.length : Int), .int .i64 ((16 - 16 : Nat) : Int), .int .i64 2]) := by rw [hH, upd_same]; rfl
      have h26 : H6 b2 = some (.cells z5) := by rw [hH, upd_ne n24]; exact h25
      simp (disch := first | omega | assumption) only [cV_len, cV_take, cV_splice, cM_len, cM_take, cM_splice, cM_mk, hr6, h26, n24, n42, go_sem, ↓reduceIte]
      exact hQ _ _ _ [.agg z5, .int .i64 2] nofun (by simp (disch := first | omega | assumption) only [ir14, resvs, resv, upd_same, go_sem, ↓reduceIte]) (stripz 2)
  · subst hv6
    have hr3 : H3 b4 = some (re s a d m) := by rw [hH6, upd_same]
    have h23 : H3 b2 = some (.cells z5) := by rw [hH6, upd_ne n24]; exact h2
    rw [e6] at e0
    simp only at e0
    rw [e0] at hQ
    clear hH6
    have hsp : splice z5 0 cs = cs := by unfold splice; simp [hc5]
    have htk : cs.take 5 = cs := List.take_of_length_le (by omega)
    have l5 : 5 ≤ cs.length := by omega
    simp (disch := first | omega | assumption) only [hc5, go_sem, ↓reduceIte]
    refine goA_intro fun b5 hb5 => ?_
    have n54 : b5 ≠ b4 := fun e => by subst e; rw [hb5] at hr3; cases hr3
    have n45 := Ne.symm n54
    have n52 : b5 ≠ b2 := fun e => by subst e; rw [hb5] at h23; cases h23
    have n25 := Ne.symm n52
    have hr4 : (H3.upd b5 (.cells cs)) b4 = some (re s a d m) := by rw [upd_ne n45]; exact hr3
    have h24 : (H3.upd b5 (.cells cs)) b2 = some (.cells z5) := by rw [upd_ne n25]; exact h23
    simp (disch := first | omega | assumption) only [hc5, hsp, go_sem, ↓reduceIte]
    generalize (H3.upd b5 (.cells cs)) = H4 at *
    have hr4' : H4 b4 = some (.cells [.str s, .int .i64 a, .int .i64 d, .int .i64 m]) := hr4
    refine goK_ret (blanksR1 hm hr4) fun v H5 ⟨hv5, hH⟩ => ?_
    subst hv5; replace hH := hH.symm; subst hH
    by_cases hlt : a < s.length
    · simp (disch := first | omega | assumption) only [hr4', hlt, go_sem, ↓reduceIte]
      refine goK_ret (failR1 hm hr4 2) fun v H5 ⟨hv5, hH⟩ => ?_
      subst hv5; replace hH := hH.symm; subst hH
      simp (disch := first | omega | assumption) only [hr4', h24, hm, n24, n42, go_sem, ↓reduceIte]
      exact hQ _ _ _ [.agg z5, .int .i64 m] nofun (by simp (disch := first | omega | assumption) only [ir14, resvs, resv, upd_same, go_sem, ↓reduceIte]) (stripz m)
    · simp (disch := first | omega | assumption) only [hr4', h24, hlt, hm, n24, n42, go_sem, ↓reduceIte]
      exact hQ _ _ _ [.agg z5, .int .i64 m] nofun (by simp (disch := first | omega | assumption) only [ir14, resvs, resv, upd_same, go_sem, ↓reduceIte]) (stripz m)
theorem jsonReads (s : List UInt8) (hs : s.length ≤ maxLen) : Pure Tryz.prog 4 [.str s] (.bool true) := by
  refine Pure.go ir4 ck4 (Nat.le_refl _) fun KP Q hQ => ?_
  by_cases h0 : (8202 : Int) < s.length
  · simp (disch := first | omega | assumption) only [ir4, h0, go_sem, ↓reduceIte]
    refine goK_pure awakeJ ?_
    simp (disch := first | omega | assumption) only [go_sem, ↓reduceIte]
    exact hQ _ _ _ _ nofun rfl (by simp [tupOf, envOf, AV.strip, AV.strip1])
  simp (disch := first | omega | assumption) only [ir4, h0, go_sem, ↓reduceIte]
  refine goK_pure (readC s (by simp only [LimS]; omega)) ?_
  simp (disch := first | omega | assumption) only [cV_len, cV_take, cV_splice, cM_len, cM_take, cM_splice, cM_mk, go_sem, ↓reduceIte]
  refine goA_intro fun b1 hb1 => ?_
  simp (disch := first | omega | assumption) only [cV_len, cV_take, cV_splice, cM_len, cM_take, cM_splice, cM_mk, go_sem, ↓reduceIte]
  refine goK_pure (readJR s (by simp only [LimS]; omega)) ?_
  have hsz := readM_size s
  simp (disch := first | omega | assumption) only [cV_len, cV_take, cV_splice, cM_len, cM_take, cM_splice, cM_mk, go_sem, ↓reduceIte]
  refine goA_intro fun b2 hb2 => ?_
  have n12 : b1 ≠ b2 := fun e => by subst e; simp [Heap.upd] at hb2
  generalize (readM s).1 = v at *
  generalize (readM s).2 = n at *
  simp (disch := first | omega | assumption) only [cV_len, cV_take, cV_splice, cM_len, cM_take, cM_splice, cM_mk, n12, go_sem, ↓reduceIte]
  refine goK_pure (sameR v (by simp only [Lim]; omega) v) ?_
  rw [eqd_true rfl]
  simp (disch := first | omega | assumption) only [go_sem, ↓reduceIte]
  refine goK_pure awakeJ ?_
  simp (disch := first | omega | assumption) only [go_sem, ↓reduceIte]
  exact hQ _ _ _ _ nofun rfl (by simp [tupOf, envOf, AV.strip, AV.strip1])
end Go.Proofs.YtpjafglhdlfnbaaGreatDoor
namespace Go.Proofs.YtpjafglhdlfnbaaGreatDoor
open Go.Ab Go.Lib
open Go.ChangeShapes Go.WideShapes Go.ChangeAt Go.RowKit Go.WideElems
theorem JsonReads_contract (H : Type) (enc : TypeId × Value → H) (W : World) (base : Nat) (args : Array Value) (ds gs : List (DataW H)) (before : List MemPlace)
    (hval : ∀ (j : Nat) t v, Tryz.f4.params[j]? = some t → args[j]? = some v → Value.okWide Tryz.prog W .any base t v)
    (hW : DataW.Whole enc Tryz.prog Tryz.f4.params.toList Rows.jsonReadsSpec.vars false W args.toList ds gs before) (hc : blkAll (ds ++ gs) ≤ 1048576)
    (hz : (DataW.weightsEach Tryz.prog (Tryz.f4.params.toList ++ (Rows.OpenSpec.upto Rows.jsonReadsSpec).bare.plain.varTypes Tryz.prog) (ds ++ gs)).all (· ≤ reachBytes) = true)
    (hL : laidMetH Tryz.prog laidL W) (hS : W.ShapedOpen Tryz.prog) :
    Calls Tryz.prog 4 args W fun e W' => ∃ v, e = .returned v ∧ Rows.jsonReadsSpec.post enc Tryz.prog Tryz.f4 false true false false W args v W' := by
  have hW' := hW
  obtain ⟨p, q, hA0, hV, rfl, hfz, hnd⟩ := hW
  have hA : DataW.TrodAll enc Tryz.prog W 0 (fun _ => true) true Tryz.f4.params.toList args.toList ds p := hA0
  obtain ⟨rfl, rfl⟩ := trodVars_none hV
  rw [Tryz.params4] at hA hval hz
  obtain ⟨v0, vs0, d0, ds0, p0, q0, hargs, rfl, rfl, h0, hA⟩ := trodAll_cons hA
  obtain ⟨rfl, rfl, rfl⟩ := trodAll_nil hA
  obtain rfl : args = #[v0] := by cases args; simp_all
  obtain ⟨a0, ok0, b0, g0⟩ := DecB.arg (P := Tryz.prog) (f := fun s => .str s) (fun m => DecB.str Tryz.underlying9) h0 (sized hz (j := 0) rfl rfl) (plain_str Tryz.underlying9 (hval 0 9 v0 rfl rfl))
  simp only [List.append_nil, blkAll] at hc
  refine law_contract (P := Tryz.prog) (fn := Tryz.f4) (tb := 4) laidOut rfl ?_ (by kernel_rfl) Tryz.underlying4 hW' rfl (tabs_ok hL hS) (RepAll.cons g0 RepAll.nil) (jsonReads a0 (by simp only [maxLen]; omega))
  rw [Tryz.params4]
  intro t ht
  simp only [List.mem_cons, List.not_mem_nil, or_false] at ht
  rcases ht with rfl <;> exact ⟨by kernel_rfl, by decide +kernel⟩
theorem JsonReads_reads (os : Os) {H : Type} (enc : TypeId × Value → H) : ∃ places, DataW.whole enc Tryz.prog ((laidWorld os).forCall (fun _ _ => 0) ⟨#[], #[.string ⟨#[]⟩], []⟩).memory Tryz.f4.params.toList Rows.jsonReadsSpec.vars false #[.string ⟨#[]⟩].toList 8 = some ([.lit (.string [])], [], places) :=
  ⟨[], by kernel_rfl⟩
theorem JsonReads_lifted (os : Os) (started : os.Started) (H : Type) (enc : TypeId × Value → H) (F : Stop.Interp) :
    ReturnsInHanded {} Tryz.checked os 4 .any ((Rows.OpenSpec.upto Rows.jsonReadsSpec).preRow enc Tryz.prog Tryz.f4 Rows.jsonReadsUptoRow.domain false Rows.jsonReadsUptoRow.laid) (((Rows.OpenSpec.upto Rows.jsonReadsSpec).at F).post enc Tryz.prog Tryz.f4 false true false false) := by
  obtain ⟨places, hx⟩ := JsonReads_reads os enc
  refine returnsInHanded_of_row (C := Tryz.checked) (s := Rows.OpenSpec.upto Rows.jsonReadsSpec) own started (by kernel_rfl) Tryz.func4
    (witness_row_atRef (enc := enc) (C := Tryz.checked) false (laidWorld os) #[.string ⟨#[]⟩] rfl (by kernel_rfl) (by kernel_rfl) (by kernel_rfl)
      (OpenSpec.preRow_of_cond 8 hx (by kernel_rfl) (fun k hk => by cases hk; kernel_rfl) (by kernel_rfl) (laid_met os _))) ?_
  intro W base args ds gs before hval hW _ hcond hz hL hS _
  exact JsonReads_contract H enc W base args ds gs before hval hW (cond_bulk hcond) hz hL hS
theorem JsonReads_said : Rows.JsonReadsUptoSaid :=
  OpenClaim.holds_of_cond 4 Tryz.f4 rfl rfl rfl rfl rfl rfl rfl ⟨rfl, rfl, rfl, rfl, rfl⟩ rfl rfl rfl rfl rfl (by kernel_rfl) Tryz.func4 (by kernel_rfl)
    (of_decide_eq_true (by kernel_rfl)) (by unfold Func.isWrapper; first | (rw [if_pos (by decide +kernel)]; kernel_rfl) | (rw [if_neg (by decide +kernel)]; exact ⟨rfl, rfl⟩))
    (fun os started H enc _ F => by rw [OpenClaim.pre_eq_preRow]; exact JsonReads_lifted os started H enc F)
theorem JsonReads_plain (f : FuncId) (fn : Func) (hf : Tryz.pinned.checked.prog.funcNamed "seine/seinelaw21.JsonReads" = some f) (hfn : Tryz.pinned.checked.prog.funcs[f]? = some fn) :
    true = Tryz.pinned.checked.prog.looks [] ∧ ∀ (j : Nat) t, fn.params[j]? = some t → Tryz.pinned.checked.prog.wantsStandIn t = false := by
  obtain rfl : f = 4 := Option.some.inj ((show Tryz.prog.funcNamed "seine/seinelaw21.JsonReads" = some 4 by kernel_rfl).symm.trans hf) |>.symm
  obtain rfl : fn = Tryz.f4 := (Option.some.inj (Tryz.func4.symm.trans hfn)).symm
  refine ⟨by kernel_rfl, fun j t ht => ?_⟩
  rw [Tryz.params4] at ht
  have hm := Array.mem_of_getElem? ht
  simp only [List.mem_toArray, List.mem_cons, List.not_mem_nil, or_false] at hm
  rcases hm with rfl <;> exact (show Tryz.prog.wantsStandIn _ = false by kernel_rfl)
theorem JsonReads_card : Rows.JsonReadsUptoCardSaid :=
  Claim7.holds_tied_plain_at .later [] _ _ _ _ JsonReads_said (fun _ h => by cases h) (by kernel_rfl) (fun _ h => by cases h) jsonReadsUpto_row_tie rfl ⟨rfl, rfl⟩ (by kernel_rfl) rfl JsonReads_plain (by kernel_rfl)
end Go.Proofs.YtpjafglhdlfnbaaGreatDoor
