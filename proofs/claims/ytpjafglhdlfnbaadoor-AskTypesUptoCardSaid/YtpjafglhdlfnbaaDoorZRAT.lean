import Derived.Test.YtpjafglhdlfnbaaDoorM1
import Derived.Test.YtpjafglhdlfnbaaDoorM2
import Derived.Test.YtpjafglhdlfnbaaDoorM3
import Derived.Test.YtpjafglhdlfnbaaDoorM4
import Derived.Test.YtpjafglhdlfnbaaDoorM5
set_option maxRecDepth 100000
set_option linter.unusedSimpArgs false
set_option linter.unusedVariables false
namespace Go.Proofs.YtpjafglhdlfnbaaDoor
open Go.Ab Go.Lib
abbrev AskT := List UInt8 × List UInt8 × List Mem
def cA (a : AskT) : List AV := [.str a.1, .str a.2.1, .sl .no 6 (cMs a.2.2)]
def zA : AskT := ([], [], [])
def qN : List UInt8 := [113, 117, 101, 114, 121]
def vN : List UInt8 := [118, 97, 114, 105, 97, 98, 108, 101, 115]
def oN : List UInt8 := [111, 112, 101, 114, 97, 116, 105, 111, 110, 78, 97, 109, 101]
def askX : Mem → AskT → Option AskT
  | .mk t (.mk k n s l m), a =>
    if t = qN then (if k = 4 then some (s, a.2.1, a.2.2) else none)
    else if t = vN then (if k = 7 then some (a.1, a.2.1, m) else if k = 0 then some a else none)
    else if t = oN then (if k = 4 then some (a.1, s, a.2.2) else if k = 0 then some a else none)
    else some a
def askL : List Mem → AskT → Option AskT
  | [], a => some a
  | x :: r, a => match askX x a with | some b => askL r b | none => none
def askOf (m : List Mem) : AskT × Int := match askL m zA with | some a => (a, 0) | none => (zA, 7)
def askV (v : Val) : AskT × Int := match v with
  | .mk k n s l m => if k = 7 then (if (getV qN m).2 then askOf m else (zA, 6)) else (zA, 7)
theorem askV_mk (k n : Int) (s : List UInt8) (l : List Val) (m : List Mem) : askV (.mk k n s l m) = if k = 7 then (if (getV qN m).2 then askOf m else (zA, 6)) else (zA, 7) := rfl
def askM (b : List UInt8) : AskT × Int := if (readM b).2 = 0 then askV (readM b).1 else (zA, (readM b).2)
def z3 : List AV := [.str [], .str [], .sl .nil 6 []]
theorem askC (s : List UInt8) (hl : s.length ≤ LimS) : Pure Tryd.prog 50 [.str s] (.tup [.agg (cA (askM s).1), .int .i64 (askM s).2]) := by
  refine Pure.go ir50 ck50 (Nat.le_refl _) fun KP Q hQ => ?_
  have hsz := readM_size s
  simp only [LimS] at hl
  have qv : ([113, 117, 101, 114, 121] : List UInt8) = [118, 97, 114, 105, 97, 98, 108, 101, 115] ↔ False := by decide
  have qo : ([113, 117, 101, 114, 121] : List UInt8) = [111, 112, 101, 114, 97, 116, 105, 111, 110, 78, 97, 109, 101] ↔ False := by decide
  have vq : ([118, 97, 114, 105, 97, 98, 108, 101, 115] : List UInt8) = [113, 117, 101, 114, 121] ↔ False := by decide
  have vo : ([118, 97, 114, 105, 97, 98, 108, 101, 115] : List UInt8) = [111, 112, 101, 114, 97, 116, 105, 111, 110, 78, 97, 109, 101] ↔ False := by decide
  have oq : ([111, 112, 101, 114, 97, 116, 105, 111, 110, 78, 97, 109, 101] : List UInt8) = [113, 117, 101, 114, 121] ↔ False := by decide
  have ov : ([111, 112, 101, 114, 97, 116, 105, 111, 110, 78, 97, 109, 101] : List UInt8) = [118, 97, 114, 105, 97, 98, 108, 101, 115] ↔ False := by decide
  have stripz : ∀ n : Int, (tupOf [AV.agg z3, .int .i64 n]).strip = .tup [.agg (cA zA), .int .i64 n] := fun _ => rfl
  simp (disch := first | omega | assumption) only [ir50, go_sem, ↓reduceIte]
  refine goA_intro fun b2 hb2 => ?_
  simp (disch := first | omega | assumption) only [go_sem, ↓reduceIte]
  refine goK_pure (readC s (by simp only [LimS]; omega)) ?_
  unfold askM at hQ
  generalize (readM s).2 = e at *
  rcases hv : (readM s).1 with ⟨k, n, x, l, m⟩
  rw [hv] at hsz hQ
  have hml : m.length ≤ Lim := by
    have := bMs_len m
    simp only [bV] at hsz; simp only [Lim]; omega
  simp (disch := first | omega | assumption) only [cV_mk, go_sem, ↓reduceIte]
  refine goA_intro fun b4 hb4 => ?_
  have n42 : b4 ≠ b2 := fun e => by subst e; rw [upd_same] at hb4; cases hb4
  have n24 := Ne.symm n42
  simp (disch := first | omega | assumption) only [cV_mk, go_sem, ↓reduceIte]
  have h2 : ((Heap.emp.upd b2 (.cells z3)).upd b4 (.cells [.int .i64 k, .int .i64 n, .str x, .sl .no 5 (cVs l), .sl .no 6 (cMs m)])) b2 = some (.cells z3) := by rw [upd_ne n24, upd_same]
  have h4 : ((Heap.emp.upd b2 (.cells z3)).upd b4 (.cells [.int .i64 k, .int .i64 n, .str x, .sl .no 5 (cVs l), .sl .no 6 (cMs m)])) b4 = some (.cells [.int .i64 k, .int .i64 n, .str x, .sl .no 5 (cVs l), .sl .no 6 (cMs m)]) := upd_same ..
  unfold z3 at h2 h4
  generalize ((Heap.emp.upd b2 (.cells [AV.str [], .str [], .sl .nil 6 []])).upd b4 (.cells [.int .i64 k, .int .i64 n, .str x, .sl .no 5 (cVs l), .sl .no 6 (cMs m)])) = H1 at *
  by_cases he : e = 0
  · subst he
    rw [if_pos rfl] at hQ
    rw [askV_mk] at hQ
    by_cases hk : k = 7
    · subst hk
      simp only [if_true] at hQ
      simp (disch := first | omega | assumption) only [h4, go_sem, ↓reduceIte]
      refine goK_pure (getP qN m hml) ?_
      simp (disch := first | omega | assumption) only [cV_len, cV_take, cV_splice, cM_len, cM_take, cM_splice, cM_mk, go_sem, ↓reduceIte]
      refine goA_intro fun b6 hb6 => ?_
      have n62 : b6 ≠ b2 := fun e => by subst e; rw [hb6] at h2; cases h2
      have n26 := Ne.symm n62
      have n64 : b6 ≠ b4 := fun e => by subst e; rw [hb6] at h4; cases h4
      have n46 := Ne.symm n64
      cases hg : (getV qN m).2
      · rw [hg] at hQ
        simp (disch := first | omega | assumption) only [cV_len, cV_take, cV_splice, cM_len, cM_take, cM_splice, cM_mk, h2, h4, n26, n62, n46, n64, go_sem, ↓reduceIte]
        exact hQ _ _ _ [.agg z3, .int .i64 6] nofun (by simp (disch := first | omega | assumption) only [ir50, resvs, resv, upd_same, z3, go_sem, ↓reduceIte]) (stripz 6)
      · rw [hg] at hQ
        simp only [if_true] at hQ
        have h2' : (H1.upd b6 (.cells (cV (getV qN m).1))) b2 = some (.cells z3) := by rw [upd_ne n26]; exact h2
        have h4' : (H1.upd b6 (.cells (cV (getV qN m).1))) b4 = some (.cells [.int .i64 7, .int .i64 n, .str x, .sl .no 5 (cVs l), .sl .no 6 (cMs m)]) := by rw [upd_ne n46]; exact h4
        simp (disch := first | omega | assumption) only [cV_len, cV_take, cV_splice, cM_len, cM_take, cM_splice, cM_mk, go_sem, ↓reduceIte]
        generalize (H1.upd b6 (.cells (cV (getV qN m).1))) = H2 at *
        refine goA_intro fun b8 hb8 => ?_
        have n82 : b8 ≠ b2 := fun e => by subst e; rw [hb8] at h2'; cases h2'
        have n28 := Ne.symm n82
        have n84 : b8 ≠ b4 := fun e => by subst e; rw [hb8] at h4'; cases h4'
        have n48 := Ne.symm n84
        have h2c : (H2.upd b8 (.cells [AV.str [], .str [], .sl .nil 6 []])) b2 = some (.cells z3) := by rw [upd_ne n28]; exact h2'
        have h8c : (H2.upd b8 (.cells [AV.str [], .str [], .sl .nil 6 []])) b8 = some (.cells [AV.str [], .str [], .sl .nil 6 []]) := upd_same ..
        have hm := cMs_len m
        have hml' := hml
        simp only [Lim] at hml'
        simp (disch := first | omega | assumption) only [h4', n48, hm, go_sem, ↓reduceIte]
        clear h2 h4 h2' h4'
        generalize (H2.upd b8 (.cells [AV.str [], .str [], .sl .nil 6 []])) = H3 at *
        refine goL_range m 39 (fun _ : AskT × Own => []) (fun done rest a H => H b2 = some (.cells z3) ∧ H b8 = some (.cells [.str a.1.1, .str a.1.2.1, .sl a.2 6 (cMs a.1.2.2)]) ∧ askL rest a.1 = askL m zA) (zA, .nil) (by simp (disch := first | omega | assumption) only [go_sem, ↓reduceIte]) ⟨h2c, h8c, rfl⟩ ?_ ?_
        · rintro ⟨a, w⟩ H J ⟨k2, k8, ka⟩ hlt
          have eo : askOf m = (a, 0) := by unfold askOf; rw [← ka]; rfl
          rw [eo] at hQ
          unfold z3 at k2
          simp (disch := first | omega | assumption) only [hm, hlt, k2, k8, n28, n82, go_sem, ↓reduceIte]
          exact hQ _ _ _ [.agg [.str a.1, .str a.2.1, .sl w 6 (cMs a.2.2)], .int .i64 0] nofun (by simp (disch := first | omega | assumption) only [ir50, resvs, resv, upd_same, z3, go_sem, ↓reduceIte]) rfl
        · rintro done y rest ⟨a, w⟩ H J hd hlt hlt2 ⟨k2, k8, ka⟩ hJ
          have hg := cMs_get hd
          rcases y with ⟨t, ⟨k, n, s2, l2, m2⟩⟩
          unfold z3 at k2
          simp only at k8 ka
          rw [askL] at ka
          simp (disch := first | omega | assumption) only [hm, hlt, hg, cM_mk, cV_mk, go_sem, ↓reduceIte]
          refine goA_intro fun b10 hb10 => ?_
          have m2a := ne_of_none hb10 k2
          have m2b := Ne.symm m2a
          have m8a := ne_of_none hb10 k8
          have m8b := Ne.symm m8a
          have nx : ∀ a' w' H', askX (.mk t (.mk k n s2 l2 m2)) a = some a' → H' b2 = H b2 → H' b8 = some (.cells [.str a'.1, .str a'.2.1, .sl w' 6 (cMs a'.2.2)]) → J ((setAll _ [(39, .int .i64 ((done.length : Int) + 1))]).keep [2, 8, 37, 38, 39]) H' := fun a' w' H' e1 e2 e3 => by
            refine hJ (a', w') H' ⟨by rw [e2]; exact k2, e3, ?_⟩
            rw [← ka, e1]
          have er : askX (.mk t (.mk k n s2 l2 m2)) a = none → askOf m = (zA, 7) := fun e => by
            unfold askOf; rw [← ka, e]
          by_cases tq : t = [113, 117, 101, 114, 121]
          · subst tq
            by_cases k4 : k = 4
            · subst k4
              simp (disch := first | omega | assumption) only [m2a, m2b, m8a, m8b, n28, n82, k8, k2, wrap64, qv, qo, go_sem, ↓reduceIte]
              exact goJ (nx (s2, a.2.1, a.2.2) w _ (by simp [askX, qN, vN, oN, qv, qo]) (by simp [Heap.upd, m2a, m2b, n28, n82]) (by simp [Heap.upd, k8, m8a, m8b])) (by simp (disch := first | omega | assumption) only [go_sem, ↓reduceIte])
            · rw [er (by simp [askX, qN, vN, oN, k4, qv, qo])] at hQ
              simp (disch := first | omega | assumption) only [m2a, m2b, m8a, m8b, n28, n82, k8, k2, wrap64, k4, qv, qo, go_sem, ↓reduceIte]
              exact hQ _ _ _ [.agg z3, .int .i64 7] nofun (by simp (disch := first | omega | assumption) only [ir50, resvs, resv, upd_same, z3, m2a, m2b, go_sem, ↓reduceIte]) (stripz 7)
          by_cases tv : t = [118, 97, 114, 105, 97, 98, 108, 101, 115]
          · subst tv
            by_cases k7 : k = 7
            · subst k7
              simp (disch := first | omega | assumption) only [m2a, m2b, m8a, m8b, n28, n82, k8, k2, wrap64, vq, vo, go_sem, ↓reduceIte]
              exact goJ (nx (a.1, a.2.1, m2) .no _ (by simp [askX, qN, vN, oN, vq, vo]) (by simp [Heap.upd, m2a, m2b, n28, n82]) (by simp [Heap.upd, k8, m8a, m8b])) (by simp (disch := first | omega | assumption) only [go_sem, ↓reduceIte])
            by_cases k0 : k = 0
            · subst k0
              simp (disch := first | omega | assumption) only [m2a, m2b, m8a, m8b, n28, n82, k8, k2, wrap64, vq, vo, go_sem, ↓reduceIte]
              exact goJ (nx a w _ (by simp [askX, qN, vN, oN, vq, vo]) (by simp [Heap.upd, m2a, m2b, n28, n82]) (by simp [Heap.upd, k8, m8a, m8b])) (by simp (disch := first | omega | assumption) only [go_sem, ↓reduceIte])
            · rw [er (by simp [askX, qN, vN, oN, k7, k0, vq, vo])] at hQ
              simp (disch := first | omega | assumption) only [m2a, m2b, m8a, m8b, n28, n82, k8, k2, wrap64, k7, k0, vq, vo, go_sem, ↓reduceIte]
              exact hQ _ _ _ [.agg z3, .int .i64 7] nofun (by simp (disch := first | omega | assumption) only [ir50, resvs, resv, upd_same, z3, m2a, m2b, go_sem, ↓reduceIte]) (stripz 7)
          by_cases tp : t = [111, 112, 101, 114, 97, 116, 105, 111, 110, 78, 97, 109, 101]
          · subst tp
            by_cases k4 : k = 4
            · subst k4
              simp (disch := first | omega | assumption) only [m2a, m2b, m8a, m8b, n28, n82, k8, k2, wrap64, oq, ov, go_sem, ↓reduceIte]
              exact goJ (nx (a.1, s2, a.2.2) w _ (by simp [askX, qN, vN, oN, oq, ov]) (by simp [Heap.upd, m2a, m2b, n28, n82]) (by simp [Heap.upd, k8, m8a, m8b])) (by simp (disch := first | omega | assumption) only [go_sem, ↓reduceIte])
            by_cases k0 : k = 0
            · subst k0
              simp (disch := first | omega | assumption) only [m2a, m2b, m8a, m8b, n28, n82, k8, k2, wrap64, oq, ov, go_sem, ↓reduceIte]
              exact goJ (nx a w _ (by simp [askX, qN, vN, oN, oq, ov]) (by simp [Heap.upd, m2a, m2b, n28, n82]) (by simp [Heap.upd, k8, m8a, m8b])) (by simp (disch := first | omega | assumption) only [go_sem, ↓reduceIte])
            · rw [er (by simp [askX, qN, vN, oN, k4, k0, oq, ov])] at hQ
              simp (disch := first | omega | assumption) only [m2a, m2b, m8a, m8b, n28, n82, k8, k2, wrap64, k4, k0, oq, ov, go_sem, ↓reduceIte]
              exact hQ _ _ _ [.agg z3, .int .i64 7] nofun (by simp (disch := first | omega | assumption) only [ir50, resvs, resv, upd_same, z3, m2a, m2b, go_sem, ↓reduceIte]) (stripz 7)
          by_cases k0 : k = 0
          · subst k0
            simp (disch := first | omega | assumption) only [m2a, m2b, m8a, m8b, n28, n82, k8, k2, wrap64, tq, tv, tp, go_sem, ↓reduceIte]
            exact goJ (nx a w _ (by simp [askX, qN, vN, oN, tq, tv, tp]) (by simp [Heap.upd, m2a, m2b, n28, n82]) (by simp [Heap.upd, k8, m8a, m8b])) (by simp (disch := first | omega | assumption) only [go_sem, ↓reduceIte])
          · simp (disch := first | omega | assumption) only [m2a, m2b, m8a, m8b, n28, n82, k8, k2, wrap64, tq, tv, tp, k0, go_sem, ↓reduceIte]
            exact goJ (nx a w _ (by simp [askX, qN, vN, oN, tq, tv, tp]) (by simp [Heap.upd, m2a, m2b, n28, n82]) (by simp [Heap.upd, k8, m8a, m8b])) (by simp (disch := first | omega | assumption) only [go_sem, ↓reduceIte])
    · rw [if_neg hk] at hQ
      simp (disch := first | omega | assumption) only [h4, h2, hk, go_sem, ↓reduceIte]
      exact hQ _ _ _ [.agg z3, .int .i64 7] nofun (by simp (disch := first | omega | assumption) only [ir50, resvs, resv, upd_same, z3, go_sem, ↓reduceIte]) (stripz 7)
  · rw [if_neg he] at hQ
    simp (disch := first | omega | assumption) only [he, h2, go_sem, ↓reduceIte]
    exact hQ _ _ _ [.agg z3, .int .i64 e] nofun (by simp (disch := first | omega | assumption) only [ir50, resvs, resv, upd_same, z3, go_sem, ↓reduceIte]) (stripz e)
end Go.Proofs.YtpjafglhdlfnbaaDoor
namespace Go.Proofs.YtpjafglhdlfnbaaDoor
open Go.Ab Go.Lib
def kV : Val → Int
  | .mk k _ _ _ _ => k
def sV : Val → List UInt8
  | .mk _ _ s _ _ => s
def mV : Val → List Mem
  | .mk _ _ _ _ m => m
theorem kV_mk (k n : Int) (s : List UInt8) (l : List Val) (m : List Mem) : kV (.mk k n s l m) = k := rfl
theorem sV_mk (k n : Int) (s : List UInt8) (l : List Val) (m : List Mem) : sV (.mk k n s l m) = s := rfl
theorem mV_mk (k n : Int) (s : List UInt8) (l : List Val) (m : List Mem) : mV (.mk k n s l m) = m := rfl
theorem kV_z : kV zV = 0 := rfl
def okQ (m : List Mem) : Bool := !(getV qN m).2 || decide (kV (getV qN m).1 = 4)
def okVa (m : List Mem) : Bool := decide (kV (getV vN m).1 = 7) || decide (kV (getV vN m).1 = 0)
def okO (m : List Mem) : Bool := decide (kV (getV oN m).1 = 4) || decide (kV (getV oN m).1 = 0)
def pkQ (m : List Mem) (a : List UInt8) : List UInt8 := if kV (getV qN m).1 = 4 then sV (getV qN m).1 else a
def pkV (m : List Mem) (a : List Mem) : List Mem := if kV (getV vN m).1 = 7 then mV (getV vN m).1 else a
def pkO (m : List Mem) (a : List UInt8) : List UInt8 := if kV (getV oN m).1 = 4 then sV (getV oN m).1 else a
theorem getV_no (t : List UInt8) : ∀ m : List Mem, t ∉ m.map nmM → getV t m = (zV, false)
  | [], _ => rfl
  | .mk s v :: r, h => by
    simp only [List.map_cons, nmM, List.mem_cons, not_or] at h
    rw [getV, if_neg (fun e => h.1 e.symm), getV_no t r h.2]
theorem getV_mem (t : List UInt8) : ∀ m : List Mem, (getV t m).2 = true → Mem.mk t (getV t m).1 ∈ m
  | [], h => by simp [getV] at h
  | .mk s v :: r, h => by
    rw [getV] at h ⊢
    by_cases e : s = t
    · subst e; simp
    · rw [if_neg e] at h ⊢
      exact List.mem_cons_of_mem _ (getV_mem t r h)
theorem sing_nodup : ∀ (m : List Mem) (ns : List (List UInt8)), singMs ns m = true → (m.map nmM).Nodup ∧ ∀ t ∈ ns, t ∉ m.map nmM
  | [], ns, _ => by simp
  | x :: r, ns, h => by
    simp only [singMs, Bool.and_eq_true, Bool.not_eq_true', List.contains_eq_mem, decide_eq_false_iff_not] at h
    obtain ⟨h1, h2⟩ := sing_nodup r (ns ++ [nmM x]) h.2.2
    refine ⟨?_, fun t ht => ?_⟩
    · rw [List.map_cons, List.nodup_cons]
      exact ⟨h2 _ (by simp), h1⟩
    · rw [List.map_cons, List.mem_cons, not_or]
      exact ⟨fun e => h.1 (e ▸ ht), h2 t (by simp [ht])⟩
theorem askL_get : ∀ (m : List Mem) (a : AskT), (m.map nmM).Nodup → askL m a = if okQ m && (okVa m && okO m) then some (pkQ m a.1, pkO m a.2.1, pkV m a.2.2) else none
  | [], a, _ => by simp [askL, okQ, okVa, okO, pkQ, pkV, pkO, getV, kV_z]
  | .mk t (.mk k n s l m') :: r, a, h => by
    rw [List.map_cons, List.nodup_cons] at h
    simp only [nmM] at h
    have ih := fun a => askL_get r a h.2
    have qv : ¬ qN = vN := by decide
    have qo : ¬ qN = oN := by decide
    have vo : ¬ vN = oN := by decide
    have no := getV_no t r h.1
    rw [askL, askX]
    by_cases tq : t = qN
    · subst tq
      by_cases k4 : k = 4
      · simp [qv, qo, okQ, okVa, okO, pkQ, pkV, pkO, getV, no, kV_mk, sV_mk, mV_mk, kV_z, ih, k4]
      · simp [qv, qo, okQ, okVa, okO, pkQ, pkV, pkO, getV, no, kV_mk, sV_mk, mV_mk, kV_z, ih, k4]
    by_cases tv : t = vN
    · subst tv
      by_cases k7 : k = 7
      · simp [tq, vo, okQ, okVa, okO, pkQ, pkV, pkO, getV, no, kV_mk, sV_mk, mV_mk, kV_z, ih, k7]
      · by_cases k0 : k = 0
        · simp [tq, vo, okQ, okVa, okO, pkQ, pkV, pkO, getV, no, kV_mk, sV_mk, mV_mk, kV_z, ih, k0]
        · simp [tq, vo, okQ, okVa, okO, pkQ, pkV, pkO, getV, no, kV_mk, sV_mk, mV_mk, kV_z, ih, k7, k0]
    by_cases tp : t = oN
    · subst tp
      by_cases k4 : k = 4
      · simp [tq, tv, okQ, okVa, okO, pkQ, pkV, pkO, getV, no, kV_mk, sV_mk, mV_mk, kV_z, ih, k4]
      · by_cases k0 : k = 0
        · simp [tq, tv, okQ, okVa, okO, pkQ, pkV, pkO, getV, no, kV_mk, sV_mk, mV_mk, kV_z, ih, k0]
        · simp [tq, tv, okQ, okVa, okO, pkQ, pkV, pkO, getV, no, kV_mk, sV_mk, mV_mk, kV_z, ih, k4, k0]
    · simp [tq, tv, tp, okQ, okVa, okO, pkQ, pkV, pkO, getV, kV_mk, sV_mk, mV_mk, kV_z, ih]
def refOf (m : List Mem) : AskT × Int := if kV (getV qN m).1 = 4 ∧ okVa m = true ∧ okO m = true then ((sV (getV qN m).1, sV (getV oN m).1, mV (getV vN m).1), 0) else (zA, 7)
theorem allMs_mem {may : List UInt8 → Bool} : ∀ (m : List Mem) t v, allMs may m = true → Mem.mk t v ∈ m → allV may v = true
  | [], t, v, _, h => by cases h
  | x :: r, t, v, ha, h => by
    simp only [allMs, Bool.and_eq_true] at ha
    rcases List.mem_cons.1 h with e | e
    · rw [← e] at ha; simp only [allM, Bool.and_eq_true] at ha; exact ha.1.2
    · exact allMs_mem r t v ha.2 e
theorem all_null {may : List UInt8 → Bool} {v : Val} (h : allV may v = true) (hk : kV v = 0) : sV v = [] ∧ mV v = [] := by
  cases v with
  | mk k n s l m =>
  simp only [kV] at hk
  subst hk
  simp only [allV, sV, mV] at h ⊢
  rw [if_neg (by decide), if_neg (by decide)] at h
  simp only [singleM, bareM, if_true, Bool.and_eq_true, decide_eq_true_eq] at h
  exact ⟨h.2.2, List.eq_nil_of_length_eq_zero h.1.2.2.2⟩
theorem get_null {m : List Mem} {may : List UInt8 → Bool} (h : allMs may m = true) (t : List UInt8) (hk : kV (getV t m).1 = 0) : sV (getV t m).1 = [] ∧ mV (getV t m).1 = [] := by
  cases hg : (getV t m).2
  · have : getV t m = (zV, false) := by
      rcases Classical.em (t ∈ m.map nmM) with e | e
      · exfalso
        clear hk h
        induction m with
        | nil => cases e
        | cons x r ih =>
          cases x with
          | mk s v =>
          rw [getV] at hg
          by_cases es : s = t
          · rw [if_pos es] at hg; cases hg
          · rw [if_neg es] at hg
            refine ih hg ?_
            simp only [List.map_cons, nmM, List.mem_cons] at e
            exact e.resolve_left fun x => es x.symm
      · exact getV_no t m e
    rw [this]; exact ⟨rfl, rfl⟩
  · exact all_null (allMs_mem m t _ h (getV_mem t m hg)) hk
theorem askOf_ref {m : List Mem} (hn : (m.map nmM).Nodup) (ha : allMs Lib.validD m = true) (hq : (getV qN m).2 = true) : askOf m = refOf m := by
  unfold askOf refOf
  rw [askL_get m zA hn]
  by_cases k4 : kV (getV qN m).1 = 4
  · cases hv : okVa m
    · simp [hv]
    cases ho : okO m
    · simp [hv, ho]
    have e1 : pkO m zA.2.1 = sV (getV oN m).1 := by
      unfold pkO; split
      · rfl
      · rename_i h4
        simp only [okO, Bool.or_eq_true, decide_eq_true_eq] at ho
        exact ((get_null ha oN (ho.resolve_left h4)).1).symm
    have e2 : pkV m zA.2.2 = mV (getV vN m).1 := by
      unfold pkV; split
      · rfl
      · rename_i h4
        simp only [okVa, Bool.or_eq_true, decide_eq_true_eq] at hv
        exact ((get_null ha vN (hv.resolve_left h4)).2).symm
    simp [okQ, k4, hv, ho, e1, e2, pkQ]
  · simp [okQ, hq, k4]
def refV (v : Val) : AskT × Int := match v with
  | .mk k n s l m => if k = 7 then (if (getV qN m).2 then refOf m else (zA, 6)) else (zA, 7)
theorem right_map {k n : Int} {s : List UInt8} {l : List Val} {m : List Mem} (h : rightV (.mk k n s l m) = true) (hk : k = 7) : (m.map nmM).Nodup ∧ allMs Lib.validD m = true := by
  subst hk
  simp only [rightV, goodV, allV, singV, Bool.and_eq_true] at h
  rw [if_neg (by decide), if_pos trivial] at h
  simp only [Bool.and_eq_true] at h
  exact ⟨(sing_nodup m [] h.2.2.2).1, h.1.1⟩
theorem askV_ref {v : Val} (h : rightV v = true) : askV v = refV v := by
  cases v with
  | mk k n s l m =>
  unfold askV refV
  by_cases hk : k = 7
  · obtain ⟨a, b⟩ := right_map h hk
    simp only [hk, if_true]
    cases hq : (getV qN m).2
    · rfl
    · simp only [if_true]; exact askOf_ref a b hq
  · simp only [hk, if_false]
theorem refOf_bad {m : List Mem} (h : ¬ (kV (getV qN m).1 = 4 ∧ (kV (getV vN m).1 = 7 ∨ kV (getV vN m).1 = 0) ∧ (kV (getV oN m).1 = 4 ∨ kV (getV oN m).1 = 0))) : refOf m = (zA, 7) := by
  unfold refOf; rw [if_neg]
  rintro ⟨h1, h2, h3⟩
  exact h ⟨h1, by simpa [okVa] using h2, by simpa [okO] using h3⟩
theorem refOf_ok {m : List Mem} (h1 : kV (getV qN m).1 = 4) (h2 : kV (getV vN m).1 = 7 ∨ kV (getV vN m).1 = 0) (h3 : kV (getV oN m).1 = 4 ∨ kV (getV oN m).1 = 0) : refOf m = ((sV (getV qN m).1, sV (getV oN m).1, mV (getV vN m).1), 0) := by
  unfold refOf; rw [if_pos ⟨h1, by simpa [okVa] using h2, by simpa [okO] using h3⟩]
theorem refV_mk (k n : Int) (s : List UInt8) (l : List Val) (m : List Mem) : refV (.mk k n s l m) = if k = 7 then (if (getV qN m).2 then refOf m else (zA, 6)) else (zA, 7) := rfl
theorem bMs_in {t : List UInt8} {v : Val} : ∀ {m : List Mem}, Mem.mk t v ∈ m → bV v ≤ bMs m
  | [], h => by cases h
  | x :: r, h => by
    rcases List.mem_cons.1 h with e | e
    · subst e; simp only [bMs, bM]; omega
    · have := bMs_in e
      simp only [bMs]; omega
theorem getV_is {t : List UInt8} {v : Val} : ∀ {m : List Mem}, (m.map nmM).Nodup → Mem.mk t v ∈ m → getV t m = (v, true)
  | [], _, h => by cases h
  | .mk s w :: r, hn, h => by
    rw [List.map_cons, List.nodup_cons] at hn
    simp only [nmM] at hn
    rw [getV]
    rcases List.mem_cons.1 h with e | e
    · cases e; simp
    · rw [if_neg, getV_is hn.2 e]
      rintro rfl
      exact hn.1 (by simpa [nmM] using List.mem_map_of_mem (f := nmM) e)
end Go.Proofs.YtpjafglhdlfnbaaDoor
namespace Go.Proofs.YtpjafglhdlfnbaaDoor
open Go.Ab Go.Lib
def exQ : List UInt8 := [123, 34, 113, 117, 101, 114, 121, 34, 58, 34, 123, 97, 125, 34, 125]
def exE : List UInt8 := [123, 125]
theorem exQ_r : askM exQ = (([123, 97, 125], [], []), 0) := by kernel_rfl
theorem exE_r : askM exE = (zA, 6) := by kernel_rfl
theorem awakeA : Pure Tryd.prog 41 [] (.bool true) := by
  refine Pure.go ir41 ck41 (Nat.le_refl _) fun KP Q hQ => ?_
  simp (disch := first | omega | assumption) only [ir41, go_sem, ↓reduceIte]
  refine goK_pure (askC exQ (by decide)) ?_
  rw [exQ_r]
  simp (disch := first | omega | assumption) only [cA, go_sem, ↓reduceIte]
  refine goA_intro fun b hb => ?_
  simp (disch := first | omega | assumption) only [cA, go_sem, ↓reduceIte]
  refine goK_pure (askC exE (by decide)) ?_
  rw [exE_r]
  simp (disch := first | omega | assumption) only [cA, zA, go_sem, ↓reduceIte]
  refine goA_intro fun b2 hb2 => ?_
  have n := ne_of_none hb2 (upd_same ..)
  simp (disch := first | omega | assumption) only [cA, zA, n, Ne.symm n, cMs, go_sem, ↓reduceIte]
  exact hQ _ _ _ _ nofun rfl (by simp [tupOf, envOf, AV.strip, AV.strip1])
end Go.Proofs.YtpjafglhdlfnbaaDoor
namespace Go.Proofs.YtpjafglhdlfnbaaDoor
open Go.Ab Go.Lib
def txV (s : List UInt8) : Val := .mk 4 0 s [] []
def thr (q op : List UInt8) (vars : List Mem) (turned : Bool) : List Mem :=
  if turned then [.mk vN (.mk 7 0 [] [] vars), .mk oN (txV op), .mk qN (txV q)] else [.mk qN (txV q), .mk oN (txV op), .mk vN (.mk 7 0 [] [] vars)]
def bkV (q op : List UInt8) (vars more : List Mem) (turned : Bool) : Val := .mk 7 0 [] [] (more ++ thr q op vars turned)
theorem thr_mem (q op : List UInt8) (vars : List Mem) (t : Bool) : Mem.mk qN (txV q) ∈ thr q op vars t ∧ Mem.mk oN (txV op) ∈ thr q op vars t ∧ Mem.mk vN (.mk 7 0 [] [] vars) ∈ thr q op vars t := by
  cases t <;> simp [thr]
theorem bk_ask {q op : List UInt8} {vars more : List Mem} {t : Bool} (h : rightV (bkV q op vars more t) = true) (hw : wfV (bkV q op vars more t)) (hd : depthV (bkV q op vars more t) ≤ 16) (hl : (putV (bkV q op vars more t)).length ≤ 8192) :
    askM (putV (bkV q op vars more t)) = ((q, op, vars), 0) := by
  unfold askM
  rw [read_put h hw hl, if_pos hd]
  simp only [if_true]
  rw [askV_ref h]
  obtain ⟨hn, _⟩ := right_map h rfl
  obtain ⟨m1, m2, m3⟩ := thr_mem q op vars t
  have g1 := getV_is hn (List.mem_append_right more m1)
  have g2 := getV_is hn (List.mem_append_right more m2)
  have g3 := getV_is hn (List.mem_append_right more m3)
  unfold bkV
  rw [refV_mk, if_pos rfl, g1, if_pos rfl, refOf_ok (by rw [g1]; rfl) (by rw [g3]; exact .inl rfl) (by rw [g2]; exact .inl rfl), g1, g2, g3]
  rfl
theorem wfMs_app : ∀ (a b : List Mem), wfMs a → wfMs b → wfMs (a ++ b)
  | [], _, _, h => h
  | x :: a, b, h, h' => by
    cases x
    exact ⟨h.1, wfMs_app a b h.2 h'⟩
theorem bMs_app : ∀ (a b : List Mem), bMs (a ++ b) = bMs a + bMs b
  | [], b => by simp [bMs]
  | x :: a, b => by rw [List.cons_append, bMs, bMs_app a b, bMs]; omega
theorem bk_wf {q op : List UInt8} {vars more : List Mem} {t : Bool} (h1 : wfMs vars) (h2 : wfMs more) : wfV (bkV q op vars more t) := by
  refine ⟨inR0, trivial, wfMs_app _ _ h2 ?_⟩
  cases t
  · exact ⟨⟨inR0, trivial, trivial⟩, ⟨inR0, trivial, trivial⟩, ⟨inR0, trivial, h1⟩, trivial⟩
  · exact ⟨⟨inR0, trivial, h1⟩, ⟨inR0, trivial, trivial⟩, ⟨inR0, trivial, trivial⟩, trivial⟩
theorem bk_size (q op : List UInt8) (vars more : List Mem) (t : Bool) : bV (bkV q op vars more t) ≤ 40 + q.length + op.length + bMs vars + bMs more := by
  unfold bkV
  rw [bV, bMs_app]
  cases t <;> simp [thr, bMs, bM, bV, bVs, txV, qN, oN, vN] <;> omega
theorem cMs_app (a b : List Mem) : cMs (a ++ b) = cMs a ++ cMs b := by simp [cMs_map]
theorem askBack (q op : List UInt8) (vars more : List Mem) (turned : Bool) (h1 : wfMs vars) (h2 : wfMs more) (hb : q.length + op.length + bMs vars + bMs more ≤ 1048576) :
    Pure Tryd.prog 14 [.str q, .str op, .sl .no 6 (cMs vars), .sl .no 6 (cMs more), .bool turned] (.bool true) := by
  refine Pure.go ir14 ck14 (Nat.le_refl _) fun KP Q hQ => ?_
  have e1 := cMs_len vars
  have e2 := cMs_len more
  simp (disch := first | omega | assumption) only [ir14, wrap64, go_sem, ↓reduceIte]
  refine goK_pure (Pure.low (sizeC (.mk 0 0 [] [] vars) (by simp only [bV, bVs, List.length_nil, Lim]; omega))) ?_
  simp (disch := first | omega | assumption) only [go_sem, ↓reduceIte]
  refine goK_pure (Pure.low (sizeC (.mk 0 0 [] [] more) (by simp only [bV, bVs, List.length_nil, Lim]; omega))) ?_
  have b1 : bV (.mk 0 0 [] [] vars) = 1 + bMs vars := by simp [bV, bVs]
  have b2 : bV (.mk 0 0 [] [] more) = 1 + bMs more := by simp [bV, bVs]
  rw [b1, b2]
  by_cases c1 : (2000 : Int) < (q.length : Int) + op.length + ((1 + bMs vars : Nat) : Int) + ((1 + bMs more : Nat) : Int)
  · simp (disch := first | omega | assumption) only [wrap64, c1, go_sem, ↓reduceIte]
    refine goK_pure awakeA ?_
    simp (disch := first | omega | assumption) only [go_sem, ↓reduceIte]
    exact hQ _ _ _ _ nofun rfl (by simp [tupOf, envOf, AV.strip, AV.strip1])
  have hs := bk_size q op vars more turned
  have hlv := bMs_len vars
  have hlm := bMs_len more
  simp (disch := first | omega | assumption) only [wrap64, c1, go_sem, ↓reduceIte]
  refine goK_pure (textP q) ?_
  simp (disch := first | omega | assumption) only [cV_mk, go_sem, ↓reduceIte]
  refine goK_pure (textP op) ?_
  cases turned
  · simp (disch := first | omega | assumption) only [cV_mk, go_sem, ↓reduceIte]
    refine goP_ownS (o := .nil) (xs := []) rfl (by simp [e2]; omega) (by simp [e2, maxLen]; omega) fun o1 H1 hs1 => ?_
    rw [cMs_strip, List.nil_append]
    simp (disch := first | omega | assumption) only [cV_mk, go_sem, ↓reduceIte]
    refine goP_ownS (xs := cMs more) (ys := cMs (thr q op vars false)) (by simpa using hs1.own) (by simp [e2, cMs_len, thr]; omega) (by simp [e2, cMs_len, thr, maxLen]; omega) fun o2 H2 hs2 => ?_
    rw [cMs_strip, ← cMs_app]
    simp (disch := first | omega | assumption) only [go_sem, ↓reduceIte]
    refine goK_pure (Pure.low (PrintC (bkV q op vars more false) (bk_wf h1 h2) (by simp only [Lim]; omega))) ?_
    cases hr : rightV (bkV q op vars more false)
    · have e : printM (bkV q op vars more false) = ([], false) := by unfold printM; rw [hr]; rfl
      rw [e]
      simp (disch := first | omega | assumption) only [cMs_len, go_sem, ↓reduceIte]
      refine goA_intro fun b14 hb14 => ?_
      simp (disch := first | omega | assumption) only [go_sem, ↓reduceIte]
      refine goK_pure awakeA ?_
      simp (disch := first | omega | assumption) only [go_sem, ↓reduceIte]
      exact hQ _ _ _ _ nofun rfl (by simp [tupOf, envOf, AV.strip, AV.strip1])
    have e : printM (bkV q op vars more false) = (putV (bkV q op vars more false), true) := by unfold printM; rw [hr]; rfl
    rw [e]
    have hpl := put_le _ (bk_wf (q := q) (op := op) (t := false) h1 h2)
    simp (disch := first | omega | assumption) only [go_sem, ↓reduceIte]
    refine goA_intro fun b14 hb14 => ?_
    by_cases c2 : (8192 : Int) < (putV (bkV q op vars more false)).length
    · simp (disch := first | omega | assumption) only [c2, go_sem, ↓reduceIte]
      refine goK_pure awakeA ?_
      simp (disch := first | omega | assumption) only [go_sem, ↓reduceIte]
      exact hQ _ _ _ _ nofun rfl (by simp [tupOf, envOf, AV.strip, AV.strip1])
    simp (disch := first | omega | assumption) only [c2, go_sem, ↓reduceIte]
    refine goK_pure (Pure.low (depthC (bkV q op vars more false) (by simp only [Lim]; omega))) ?_
    by_cases c3 : (16 : Int) < depthV (bkV q op vars more false)
    · simp (disch := first | omega | assumption) only [c3, go_sem, ↓reduceIte]
      refine goK_pure awakeA ?_
      simp (disch := first | omega | assumption) only [go_sem, ↓reduceIte]
      exact hQ _ _ _ _ nofun rfl (by simp [tupOf, envOf, AV.strip, AV.strip1])
    have ha := askC (putV (bkV q op vars more false)) (by simp only [LimS]; omega)
    rw [bk_ask hr (bk_wf h1 h2) (by omega) (by omega)] at ha
    simp (disch := first | omega | assumption) only [c3, go_sem, ↓reduceIte]
    refine goK_pure (Pure.low ha) ?_
    simp (disch := first | omega | assumption) only [cA, go_sem, ↓reduceIte]
    refine goA_intro fun b15 hb15 => ?_
    simp (disch := first | omega | assumption) only [cA, go_sem, ↓reduceIte]
    refine goK_pure (Pure.low (membersR vars vars (by simp only [Lim]; omega) fun t v ht u => sameR v (by have := bMs_in ht; simp only [Lim]; omega) u)) ?_
    rw [eqd_true rfl]
    simp (disch := first | omega | assumption) only [go_sem, ↓reduceIte]
    refine goK_pure awakeA ?_
    simp (disch := first | omega | assumption) only [go_sem, ↓reduceIte]
    exact hQ _ _ _ _ nofun rfl (by simp [tupOf, envOf, AV.strip, AV.strip1])
  · simp (disch := first | omega | assumption) only [cV_mk, go_sem, ↓reduceIte]
    refine goP_ownS (o := .nil) (xs := []) rfl (by simp [e2]; omega) (by simp [e2, maxLen]; omega) fun o1 H1 hs1 => ?_
    rw [cMs_strip, List.nil_append]
    simp (disch := first | omega | assumption) only [cV_mk, go_sem, ↓reduceIte]
    refine goP_ownS (xs := cMs more) (ys := cMs (thr q op vars true)) (by simpa using hs1.own) (by simp [e2, cMs_len, thr]; omega) (by simp [e2, cMs_len, thr, maxLen]; omega) fun o2 H2 hs2 => ?_
    rw [cMs_strip, ← cMs_app]
    simp (disch := first | omega | assumption) only [go_sem, ↓reduceIte]
    refine goK_pure (Pure.low (PrintC (bkV q op vars more true) (bk_wf h1 h2) (by simp only [Lim]; omega))) ?_
    cases hr : rightV (bkV q op vars more true)
    · have e : printM (bkV q op vars more true) = ([], false) := by unfold printM; rw [hr]; rfl
      rw [e]
      simp (disch := first | omega | assumption) only [cMs_len, go_sem, ↓reduceIte]
      refine goA_intro fun b14 hb14 => ?_
      simp (disch := first | omega | assumption) only [go_sem, ↓reduceIte]
      refine goK_pure awakeA ?_
      simp (disch := first | omega | assumption) only [go_sem, ↓reduceIte]
      exact hQ _ _ _ _ nofun rfl (by simp [tupOf, envOf, AV.strip, AV.strip1])
    have e : printM (bkV q op vars more true) = (putV (bkV q op vars more true), true) := by unfold printM; rw [hr]; rfl
    rw [e]
    have hpl := put_le _ (bk_wf (q := q) (op := op) (t := true) h1 h2)
    simp (disch := first | omega | assumption) only [go_sem, ↓reduceIte]
    refine goA_intro fun b14 hb14 => ?_
    by_cases c2 : (8192 : Int) < (putV (bkV q op vars more true)).length
    · simp (disch := first | omega | assumption) only [c2, go_sem, ↓reduceIte]
      refine goK_pure awakeA ?_
      simp (disch := first | omega | assumption) only [go_sem, ↓reduceIte]
      exact hQ _ _ _ _ nofun rfl (by simp [tupOf, envOf, AV.strip, AV.strip1])
    simp (disch := first | omega | assumption) only [c2, go_sem, ↓reduceIte]
    refine goK_pure (Pure.low (depthC (bkV q op vars more true) (by simp only [Lim]; omega))) ?_
    by_cases c3 : (16 : Int) < depthV (bkV q op vars more true)
    · simp (disch := first | omega | assumption) only [c3, go_sem, ↓reduceIte]
      refine goK_pure awakeA ?_
      simp (disch := first | omega | assumption) only [go_sem, ↓reduceIte]
      exact hQ _ _ _ _ nofun rfl (by simp [tupOf, envOf, AV.strip, AV.strip1])
    have ha := askC (putV (bkV q op vars more true)) (by simp only [LimS]; omega)
    rw [bk_ask hr (bk_wf h1 h2) (by omega) (by omega)] at ha
    simp (disch := first | omega | assumption) only [c3, go_sem, ↓reduceIte]
    refine goK_pure (Pure.low ha) ?_
    simp (disch := first | omega | assumption) only [cA, go_sem, ↓reduceIte]
    refine goA_intro fun b15 hb15 => ?_
    simp (disch := first | omega | assumption) only [cA, go_sem, ↓reduceIte]
    refine goK_pure (Pure.low (membersR vars vars (by simp only [Lim]; omega) fun t v ht u => sameR v (by have := bMs_in ht; simp only [Lim]; omega) u)) ?_
    rw [eqd_true rfl]
    simp (disch := first | omega | assumption) only [go_sem, ↓reduceIte]
    refine goK_pure awakeA ?_
    simp (disch := first | omega | assumption) only [go_sem, ↓reduceIte]
    exact hQ _ _ _ _ nofun rfl (by simp [tupOf, envOf, AV.strip, AV.strip1])
end Go.Proofs.YtpjafglhdlfnbaaDoor
namespace Go.Proofs.YtpjafglhdlfnbaaDoor
open Go.Ab Go.Lib
def qaV : Val := .mk 4 0 [123, 97, 125] [] []
def mpV (ml : List Mem) : Val := .mk 7 0 [] [] ml
def ty0 (v : Val) : List Mem := [.mk qN v]
def ty1 (v : Val) : List Mem := [.mk qN qaV, .mk vN v]
def ty2 (v : Val) : List Mem := [.mk qN qaV, .mk oN v]
def Ty (v : Val) (ml : List Mem) : Prop := ml = ty0 v ∨ ml = ty1 v ∨ ml = ty2 v
theorem mp_ask {ml : List Mem} (h : rightV (mpV ml) = true) (hw : wfV (mpV ml)) (hd : depthV (mpV ml) ≤ 16) (hl : (putV (mpV ml)).length ≤ 8192) (hq : (getV qN ml).2 = true) : askM (putV (mpV ml)) = refOf ml := by
  unfold askM
  rw [read_put h hw hl, if_pos hd]
  simp only [if_true]
  rw [askV_ref h]
  unfold mpV
  rw [refV_mk, if_pos rfl, if_pos hq]
theorem ref0 (v : Val) : (kV v = 4 → (refOf (ty0 v)).2 = 0) ∧ (¬ (kV v = 4) → (refOf (ty0 v)).2 = 7) := by
  have e : getV qN (ty0 v) = (v, true) := by simp [ty0, getV]
  have e2 : getV vN (ty0 v) = (zV, false) := by simp [ty0, getV, qN, vN]
  have e3 : getV oN (ty0 v) = (zV, false) := by simp [ty0, getV, qN, oN]
  refine ⟨fun c => ?_, fun c => ?_⟩
  · rw [refOf_ok (by rw [e]; exact c) (by rw [e2]; right; rfl) (by rw [e3]; right; rfl)]
  · rw [refOf_bad (by rw [e]; exact fun x => c x.1)]
theorem ref1 (v : Val) : (kV v = 7 ∨ kV v = 0 → (refOf (ty1 v)).2 = 0) ∧ (¬ (kV v = 7 ∨ kV v = 0) → (refOf (ty1 v)).2 = 7) := by
  have e : getV vN (ty1 v) = (v, true) := by simp [ty1, getV, qN, vN]
  have e2 : getV qN (ty1 v) = (qaV, true) := by simp [ty1, getV]
  have e3 : getV oN (ty1 v) = (zV, false) := by simp [ty1, getV, qN, oN, vN]
  refine ⟨fun c => ?_, fun c => ?_⟩
  · rw [refOf_ok (by rw [e2]; rfl) (by rw [e]; exact c) (by rw [e3]; right; rfl)]
  · rw [refOf_bad (by rw [e]; exact fun x => c x.2.1)]
theorem ref2 (v : Val) : (kV v = 4 ∨ kV v = 0 → (refOf (ty2 v)).2 = 0) ∧ (¬ (kV v = 4 ∨ kV v = 0) → (refOf (ty2 v)).2 = 7) := by
  have e : getV oN (ty2 v) = (v, true) := by simp [ty2, getV, qN, oN]
  have e2 : getV qN (ty2 v) = (qaV, true) := by simp [ty2, getV]
  have e3 : getV vN (ty2 v) = (zV, false) := by simp [ty2, getV, qN, oN, vN]
  refine ⟨fun c => ?_, fun c => ?_⟩
  · rw [refOf_ok (by rw [e2]; rfl) (by rw [e3]; right; rfl) (by rw [e]; exact c)]
  · rw [refOf_bad (by rw [e]; exact fun x => c x.2.2)]
theorem singMs_in {t : List UInt8} {v : Val} : ∀ {ml : List Mem} {ns : List (List UInt8)}, singMs ns ml = true → Mem.mk t v ∈ ml → singV v = true
  | [], _, _, h => by cases h
  | x :: r, ns, hs, h => by
    simp only [singMs, Bool.and_eq_true] at hs
    rcases List.mem_cons.1 h with e | e
    · subst e; exact hs.2.1
    · exact singMs_in hs.2.2 e
theorem right_in {t : List UInt8} {v : Val} {ml : List Mem} (h : rightV (mpV ml) = true) (hm : Mem.mk t v ∈ ml) : rightV v = true := by
  have hb := (right_map h rfl).2
  simp only [mpV, rightV, singV, Bool.and_eq_true] at h
  have h1 : goodV v = true := allMs_mem ml t v hb hm
  unfold rightV
  rw [h1, singMs_in h.2.2.2 hm]; rfl
theorem put_in {t : List UInt8} {v : Val} : ∀ {ml : List Mem} (f : Bool), Mem.mk t v ∈ ml → (putV v).length ≤ (putMs f ml).length
  | [], _, h => by cases h
  | x :: r, f, h => by
    rw [putMs]
    rcases List.mem_cons.1 h with e | e
    · subst e; simp only [putM, List.length_append, List.length_cons]; omega
    · have := put_in false e; simp only [List.length_append]; omega
theorem dep_in {t : List UInt8} {v : Val} : ∀ {ml : List Mem} (n : Int), Mem.mk t v ∈ ml → depthV v ≤ depthMs ml n
  | [], _, h => by cases h
  | x :: r, n, h => by
    rw [depthMs]
    rcases List.mem_cons.1 h with e | e
    · subst e
      have h1 := (depthMs_le r (mm2 true n (depthM (.mk t v)))).1
      have h2 : depthM (.mk t v) ≤ mm2 true n (depthM (.mk t v)) := by simp only [mm2, if_true]; split <;> omega
      have h3 : depthM (.mk t v) = depthV v := by simp [depthM]
      omega
    · exact dep_in _ e
theorem part_ask {t : List UInt8} {v : Val} {ml : List Mem} (h : rightV (mpV ml) = true) (hm : Mem.mk t v ∈ ml) (hw : wfV v) (hd : depthV (mpV ml) ≤ 16) (hl : (putV (mpV ml)).length ≤ 8192) (hk : kV v ≠ 7) : (askM (putV v)).2 = 7 := by
  have h1 := put_in true hm
  have h2 := dep_in 0 hm
  have h4 : depthV (mpV ml) = depthMs ml 0 + 1 := by simp [mpV, depthV]
  have h3 : (putMs true ml).length ≤ (putV (mpV ml)).length := by simp [mpV, putV]; omega
  unfold askM
  have h5 : (putV v).length ≤ 8192 := by omega
  have h6 : depthV v ≤ 16 := by omega
  rw [read_put (right_in h hm) hw h5, if_pos h6]
  simp only [if_true]
  cases v with
  | mk k n s l m =>
  rw [askV_mk, if_neg (by simpa [kV] using hk)]
theorem ty_in {v : Val} {ml : List Mem} (h : Ty v ml) : ∃ t, Mem.mk t v ∈ ml := by
  rcases h with rfl | rfl | rfl
  · exact ⟨qN, by simp [ty0]⟩
  · exact ⟨vN, by simp [ty1]⟩
  · exact ⟨oN, by simp [ty2]⟩
theorem ty_q {v : Val} {ml : List Mem} (h : Ty v ml) : (getV qN ml).2 = true := by
  rcases h with rfl | rfl | rfl <;> simp [ty0, ty1, ty2, getV]
theorem ty_wf {v : Val} {ml : List Mem} (h : Ty v ml) (hw : wfV v) : wfV (mpV ml) := by
  rcases h with rfl | rfl | rfl
  · exact ⟨inR0, trivial, hw, trivial⟩
  · exact ⟨inR0, trivial, ⟨inR0, trivial, trivial⟩, hw, trivial⟩
  · exact ⟨inR0, trivial, ⟨inR0, trivial, trivial⟩, hw, trivial⟩
theorem ty_size {v : Val} {ml : List Mem} (h : Ty v ml) : bV (mpV ml) ≤ 40 + bV v := by
  rcases h with rfl | rfl | rfl <;>
  · simp only [ty0, ty1, ty2, mpV, bV, bVs, bMs, bM, qaV, qN, vN, oN, List.length_cons, List.length_nil]
    omega
theorem print_ok' {v : Val} (h : rightV v = true) : printM v = (putV v, true) := by unfold printM; rw [h]; rfl
structure TyS (v : Val) (b ln : Nat) (w : Int) (ml : List Mem) (H : Heap) : Prop where
  ty : Ty v ml
  want : w = (refOf ml).2
  row : ∃ cs, H b = some (.cells cs) ∧ 0 + ln * 6 ≤ cs.length ∧ rowsA 6 ln (cs.drop 0) = cMs ml
theorem askTypes (v : Val) (which : Int) (hw : wfV v) (hb : bV v ≤ 1048576) :
    Pure Tryd.prog 15 [.agg (cV v), .int .i64 which] (.bool true) := by
  refine Pure.go ir15 ck15 (Nat.le_refl _) fun KP Q hQ => ?_
  simp (disch := first | omega | assumption) only [cV_len, cV_take, cV_splice, cM_len, cM_take, cM_splice, cM_mk, ir15, go_sem, ↓reduceIte]
  refine goK_pure (sizeC v (by simp only [Lim]; omega)) ?_
  by_cases c1 : (2000 : Int) < bV v
  · simp (disch := first | omega | assumption) only [cV_len, cV_take, cV_splice, cM_len, cM_take, cM_splice, cM_mk, c1, go_sem, ↓reduceIte]
    refine goK_pure awakeA ?_
    simp (disch := first | omega | assumption) only [go_sem, ↓reduceIte]
    exact hQ _ _ _ _ nofun rfl (by simp [tupOf, envOf, AV.strip, AV.strip1])
  simp (disch := first | omega | assumption) only [cV_len, cV_take, cV_splice, cM_len, cM_take, cM_splice, cM_mk, c1, go_sem, ↓reduceIte]
  refine goK_pure (textP [123, 97, 125]) ?_
  have r0 := ref0 v
  have r1 := ref1 v
  have r2 := ref2 v
  have hplv := put_le _ hw
  have hPv := PrintC v hw (by simp only [Lim]; omega)
  have hAv := askC (putV v) (by simp only [LimS]; omega)
  simp (disch := first | omega | assumption) only [cV_mk, go_sem, ↓reduceIte]
  refine goA_intro fun b5 hb5 => ?_
  rcases v with ⟨k, n, s, l, m⟩
  simp (disch := first | omega | assumption) only [cV_mk, go_sem, ↓reduceIte]
  refine goU_cut (fun x : Nat × Nat × Nat × Int × List Mem => [(5, .ms x.1 0 x.2.1 x.2.2.1), (6, .int .i64 x.2.2.2.1)]) (fun x H => TyS (.mk k n s l m) x.1 x.2.1 x.2.2.2.1 x.2.2.2.2 H) (fun J hJ => ?_) ?_
  · have ty0' : Ty (.mk k n s l m) (ty0 (.mk k n s l m)) := .inl rfl
    have ty1' : Ty (.mk k n s l m) (ty1 (.mk k n s l m)) := .inr (.inl rfl)
    have ty2' : Ty (.mk k n s l m) (ty2 (.mk k n s l m)) := .inr (.inr rfl)
    by_cases q0 : which = 0
    · subst q0
      simp (disch := first | omega | assumption) only [go_sem, ↓reduceIte]
      refine ⟨by decide, ?_⟩
      have nx := fun w (hw : w = (refOf (ty0 (.mk k n s l m))).2) H' (hH' : ∃ cs, H' b5 = some (.cells cs) ∧ 0 + 1 * 6 ≤ cs.length ∧ rowsA 6 1 (cs.drop 0) = cMs (ty0 (.mk k n s l m))) => hJ (b5, 1, 1, w, ty0 (.mk k n s l m)) H' ⟨ty0', hw, hH'⟩
      by_cases k4 : k = 4
      · have r0 := r0.1 k4
        have k4t := eq_true k4
        simp (disch := first | omega | assumption) only [k4t, go_sem, ↓reduceIte]
        exact goJ (nx 0 r0.symm _ ⟨_, upd_same .., by simp [splice], rfl⟩) (by simp (disch := first | omega | assumption) only [go_sem, ↓reduceIte])
      · have r0 := r0.2 k4
        simp (disch := first | omega | assumption) only [k4, go_sem, ↓reduceIte]
        exact goJ (nx 7 r0.symm _ ⟨_, upd_same .., by simp [splice], rfl⟩) (by simp (disch := first | omega | assumption) only [go_sem, ↓reduceIte])
    by_cases q1 : which = 1
    · subst q1
      simp (disch := first | omega | assumption) only [go_sem, ↓reduceIte]
      refine goPm_ms (upd_same ..) rfl (by simp) (by simp [maxLen]) (fun e => by simp at e) fun _ => ⟨by decide, fun b' cap' hb' hc' hm' => ?_⟩
      have nx := fun w (hw : w = (refOf (ty1 (.mk k n s l m))).2) H' (hH' : ∃ cs, H' b' = some (.cells cs) ∧ 0 + 2 * 6 ≤ cs.length ∧ rowsA 6 2 (cs.drop 0) = cMs (ty1 (.mk k n s l m))) => hJ (b', 2, cap', w, ty1 (.mk k n s l m)) H' ⟨ty1', hw, hH'⟩
      by_cases k7 : k = 7
      · have r1 := r1.1 (.inl k7)
        have kt := eq_true k7
        simp (disch := first | omega | assumption) only [kt, go_sem, ↓reduceIte]
        exact goJ (nx 0 r1.symm _ ⟨_, upd_same .., by simp, rfl⟩) (by simp (disch := first | omega | assumption) only [go_sem, ↓reduceIte])
      by_cases k0 : k = 0
      · have r1 := r1.1 (.inr k0)
        have kt := eq_true k0
        simp (disch := first | omega | assumption) only [kt, k7, go_sem, ↓reduceIte]
        exact goJ (nx 0 r1.symm _ ⟨_, upd_same .., by simp, rfl⟩) (by simp (disch := first | omega | assumption) only [go_sem, ↓reduceIte])
      have r1 := r1.2 (fun e => e.elim k7 k0)
      simp (disch := first | omega | assumption) only [k7, k0, go_sem, ↓reduceIte]
      exact goJ (nx 7 r1.symm _ ⟨_, upd_same .., by simp, rfl⟩) (by simp (disch := first | omega | assumption) only [go_sem, ↓reduceIte])
    by_cases q2 : which = 2
    · subst q2
      simp (disch := first | omega | assumption) only [go_sem, ↓reduceIte]
      refine goPm_ms (upd_same ..) rfl (by simp) (by simp [maxLen]) (fun e => by simp at e) fun _ => ⟨by decide, fun b' cap' hb' hc' hm' => ?_⟩
      have nx := fun w (hw : w = (refOf (ty2 (.mk k n s l m))).2) H' (hH' : ∃ cs, H' b' = some (.cells cs) ∧ 0 + 2 * 6 ≤ cs.length ∧ rowsA 6 2 (cs.drop 0) = cMs (ty2 (.mk k n s l m))) => hJ (b', 2, cap', w, ty2 (.mk k n s l m)) H' ⟨ty2', hw, hH'⟩
      by_cases k4 : k = 4
      · have r2 := r2.1 (.inl k4)
        have kt := eq_true k4
        simp (disch := first | omega | assumption) only [kt, go_sem, ↓reduceIte]
        exact goJ (nx 0 r2.symm _ ⟨_, upd_same .., by simp, rfl⟩) (by simp (disch := first | omega | assumption) only [go_sem, ↓reduceIte])
      by_cases k0 : k = 0
      · have r2 := r2.1 (.inr k0)
        have kt := eq_true k0
        simp (disch := first | omega | assumption) only [kt, k4, go_sem, ↓reduceIte]
        exact goJ (nx 0 r2.symm _ ⟨_, upd_same .., by simp, rfl⟩) (by simp (disch := first | omega | assumption) only [go_sem, ↓reduceIte])
      have r2 := r2.2 (fun e => e.elim k4 k0)
      simp (disch := first | omega | assumption) only [k4, k0, go_sem, ↓reduceIte]
      exact goJ (nx 7 r2.symm _ ⟨_, upd_same .., by simp, rfl⟩) (by simp (disch := first | omega | assumption) only [go_sem, ↓reduceIte])
    simp (disch := first | omega | assumption) only [q0, q1, q2, go_sem, ↓reduceIte]
    refine goK_pure awakeA ?_
    simp (disch := first | omega | assumption) only [go_sem, ↓reduceIte]
    exact hQ _ _ _ _ nofun rfl (by simp [tupOf, envOf, AV.strip, AV.strip1])
  rintro ⟨b, ln, cap, w, ml⟩ H ⟨hty, hwant, cs, hH, hlen, hrows⟩
  simp only at hty hwant hH hlen hrows
  obtain ⟨t, ht⟩ := ty_in hty
  have hwm := ty_wf hty hw
  have hsm := ty_size hty
  have hqm := ty_q hty
  have hplm := put_le _ hwm
  simp (disch := first | omega | assumption) only [go_sem, ↓reduceIte]
  refine goZ_ms hH (by decide) hlen ?_
  rw [hrows]
  simp (disch := first | omega | assumption) only [go_sem, ↓reduceIte]
  refine goA_intro fun b7 hb7 => ?_
  simp (disch := first | omega | assumption) only [go_sem, ↓reduceIte]
  refine goK_pure (Pure.low (PrintC (mpV ml) hwm (by simp only [Lim]; omega))) ?_
  cases hr : rightV (mpV ml)
  · have e : printM (mpV ml) = ([], false) := by unfold printM; rw [hr]; rfl
    rw [e]
    generalize printM (.mk k n s l m) = pv at hPv
    rcases pv with ⟨p1, p2⟩
    simp (disch := first | omega | assumption) only [go_sem, ↓reduceIte]
    refine goK_pure hPv ?_
    simp (disch := first | omega | assumption) only [go_sem, ↓reduceIte]
    refine goK_pure awakeA ?_
    simp (disch := first | omega | assumption) only [go_sem, ↓reduceIte]
    exact hQ _ _ _ _ nofun rfl (by simp [tupOf, envOf, AV.strip, AV.strip1])
  rw [print_ok' (right_in hr ht)] at hPv
  rw [print_ok' hr]
  simp (disch := first | omega | assumption) only [go_sem, ↓reduceIte]
  refine goK_pure hPv ?_
  by_cases c2 : (8192 : Int) < (putV (mpV ml)).length
  · simp (disch := first | omega | assumption) only [c2, go_sem, ↓reduceIte]
    refine goK_pure awakeA ?_
    simp (disch := first | omega | assumption) only [go_sem, ↓reduceIte]
    exact hQ _ _ _ _ nofun rfl (by simp [tupOf, envOf, AV.strip, AV.strip1])
  simp (disch := first | omega | assumption) only [c2, go_sem, ↓reduceIte]
  refine goK_pure (Pure.low (depthC (mpV ml) (by simp only [Lim]; omega))) ?_
  by_cases c3 : (16 : Int) < depthV (mpV ml)
  · simp (disch := first | omega | assumption) only [c3, go_sem, ↓reduceIte]
    refine goK_pure awakeA ?_
    simp (disch := first | omega | assumption) only [go_sem, ↓reduceIte]
    exact hQ _ _ _ _ nofun rfl (by simp [tupOf, envOf, AV.strip, AV.strip1])
  have hA := askC (putV (mpV ml)) (by simp only [LimS]; omega)
  rw [mp_ask hr hwm (by omega) (by omega) hqm] at hA
  rw [← hwant] at hA
  generalize (refOf ml).1 = ra at hA
  rcases ra with ⟨ra1, ra2, ra3⟩
  simp (disch := first | omega | assumption) only [c3, go_sem, ↓reduceIte]
  refine goK_pure (Pure.low hA) ?_
  simp (disch := first | omega | assumption) only [cA, go_sem, ↓reduceIte]
  refine goA_intro fun b12 hb12 => ?_
  simp (disch := first | omega | assumption) only [go_sem, ↓reduceIte]
  have hk := part_ask hr ht hw (by omega) (by omega)
  generalize (askM (putV (.mk k n s l m))).2 = e2 at hAv hk
  generalize (askM (putV (.mk k n s l m))).1 = rb at hAv
  rcases rb with ⟨rb1, rb2, rb3⟩
  refine goK_pure (Pure.low hAv) ?_
  simp (disch := first | omega | assumption) only [cA, go_sem, ↓reduceIte]
  refine goA_intro fun b14 hb14 => ?_
  by_cases k7 : k = 7
  · have kt := eq_true k7
    simp (disch := first | omega | assumption) only [kt, go_sem, ↓reduceIte]
    refine goK_pure awakeA ?_
    simp (disch := first | omega | assumption) only [go_sem, ↓reduceIte]
    exact hQ _ _ _ _ nofun rfl (by simp [tupOf, envOf, AV.strip, AV.strip1])
  · have e2' := hk k7
    simp (disch := first | omega | assumption) only [k7, e2', go_sem, ↓reduceIte]
    refine goK_pure awakeA ?_
    simp (disch := first | omega | assumption) only [go_sem, ↓reduceIte]
    exact hQ _ _ _ _ nofun rfl (by simp [tupOf, envOf, AV.strip, AV.strip1])
end Go.Proofs.YtpjafglhdlfnbaaDoor
namespace Go.Proofs.YtpjafglhdlfnbaaDoor
open Go.Ab Go.Lib
open Go.ChangeShapes Go.WideShapes Go.ChangeAt Go.RowKit Go.WideElems
theorem AskTypes_contract (H : Type) (enc : TypeId × Value → H) (W : World) (base : Nat) (args : Array Value) (ds gs : List (DataW H)) (before : List MemPlace)
    (hval : ∀ (j : Nat) t v, Tryd.f15.params[j]? = some t → args[j]? = some v → Value.okWide Tryd.prog W .any base t v)
    (hW : DataW.Whole enc Tryd.prog Tryd.f15.params.toList Rows.askTypesSpec.vars false W args.toList ds gs before) (hc : blkAll (ds ++ gs) ≤ 1048576)
    (hz : (DataW.weightsEach Tryd.prog (Tryd.f15.params.toList ++ (Rows.OpenSpec.upto Rows.askTypesSpec).bare.plain.varTypes Tryd.prog) (ds ++ gs)).all (· ≤ reachBytes) = true)
    (hL : laidMetH Tryd.prog laidL W) (hS : W.ShapedOpen Tryd.prog) :
    Calls Tryd.prog 15 args W fun e W' => ∃ v, e = .returned v ∧ Rows.askTypesSpec.post enc Tryd.prog Tryd.f15 false true false false W args v W' := by
  have hW' := hW
  obtain ⟨p, q, hA0, hV, rfl, hfz, hnd⟩ := hW
  have hA : DataW.TrodAll enc Tryd.prog W 0 (fun _ => true) true Tryd.f15.params.toList args.toList ds p := hA0
  obtain ⟨rfl, rfl⟩ := trodVars_none hV
  rw [Tryd.params15] at hA hval hz
  obtain ⟨v0, vs0, d0, ds0, p0, q0, hargs, rfl, rfl, h0, hA⟩ := trodAll_cons hA
  obtain ⟨v1, vs1, d1, ds1, p1, q1, rfl, rfl, rfl, h1, hA⟩ := trodAll_cons hA
  obtain ⟨rfl, rfl, rfl⟩ := trodAll_nil hA
  obtain rfl : args = #[v0, v1] := by cases args; simp_all
  obtain ⟨c0, rfl⟩ := agg_of Tryd.underlying26 (hval 0 26 v0 rfl rfl)
  obtain ⟨a0, ok0, b0, g0⟩ := DecB.argS (P := Tryd.prog) (f := cV) (decVA) h0 (sized hz (j := 0) rfl rfl)
  obtain ⟨a1, ok1, b1, g1⟩ := DecB.arg (P := Tryd.prog) (f := fun n => .int .i64 n) (fun m => DecB.int (k := .i64) Tryd.underlying3) h1 (sized hz (j := 1) rfl rfl) (plain_int Tryd.underlying3 (hval 1 3 v1 rfl rfl))
  simp only [List.append_nil, blkAll] at hc
  refine law_contract (P := Tryd.prog) (fn := Tryd.f15) (tb := 4) laidOut rfl ?_ (by kernel_rfl) Tryd.underlying4 hW' rfl (tabs_ok hL hS) (RepAll.cons g0 (RepAll.cons g1 RepAll.nil)) (askTypes a0 a1 ok0 (by omega))
  rw [Tryd.params15]
  intro t ht
  simp only [List.mem_cons, List.not_mem_nil, or_false] at ht
  rcases ht with rfl | rfl <;> exact ⟨by kernel_rfl, by decide +kernel⟩
theorem AskTypes_reads (os : Os) {H : Type} (enc : TypeId × Value → H) : ∃ places, DataW.whole enc Tryd.prog ((laidWorld os).forCall (fun _ _ => 0) ⟨#[], #[.agg #[.int .i64 0, .int .i64 0, .string ⟨#[]⟩, .slice none 0 0, .slice none 0 0], .int .i64 0], []⟩).memory Tryd.f15.params.toList Rows.askTypesSpec.vars false #[.agg #[.int .i64 0, .int .i64 0, .string ⟨#[]⟩, .slice none 0 0, .slice none 0 0], .int .i64 0].toList 8 = some ([.agg [.lit (.int .i64 0), .lit (.int .i64 0), .lit (.string []), .nil, .nil], .lit (.int .i64 0)], [], places) :=
  ⟨[], by kernel_rfl⟩
theorem AskTypes_lifted (os : Os) (started : os.Started) (H : Type) (enc : TypeId × Value → H) (F : Stop.Interp) :
    ReturnsInHanded {} Tryd.checked os 15 .any ((Rows.OpenSpec.upto Rows.askTypesSpec).preRow enc Tryd.prog Tryd.f15 Rows.askTypesUptoRow.domain false Rows.askTypesUptoRow.laid) (((Rows.OpenSpec.upto Rows.askTypesSpec).at F).post enc Tryd.prog Tryd.f15 false true false false) := by
  obtain ⟨places, hx⟩ := AskTypes_reads os enc
  refine returnsInHanded_of_row (C := Tryd.checked) (s := Rows.OpenSpec.upto Rows.askTypesSpec) own started (by kernel_rfl) Tryd.func15
    (witness_row_atRef (enc := enc) (C := Tryd.checked) false (laidWorld os) #[.agg #[.int .i64 0, .int .i64 0, .string ⟨#[]⟩, .slice none 0 0, .slice none 0 0], .int .i64 0] rfl (by kernel_rfl) (by kernel_rfl) (by kernel_rfl)
      (OpenSpec.preRow_of_cond 8 hx (by kernel_rfl) (fun k hk => by cases hk; kernel_rfl) (by kernel_rfl) (laid_met os _))) ?_
  intro W base args ds gs before hval hW _ hcond hz hL hS _
  exact AskTypes_contract H enc W base args ds gs before hval hW (cond_bulk hcond) hz hL hS
theorem AskTypes_said : Rows.AskTypesUptoSaid :=
  OpenClaim.holds_of_cond 15 Tryd.f15 rfl rfl rfl rfl rfl rfl rfl ⟨rfl, rfl, rfl, rfl, rfl⟩ rfl rfl rfl rfl rfl (by kernel_rfl) Tryd.func15 (by kernel_rfl)
    (of_decide_eq_true (by kernel_rfl)) (by unfold Func.isWrapper; first | (rw [if_pos (by decide +kernel)]; kernel_rfl) | (rw [if_neg (by decide +kernel)]; exact ⟨rfl, rfl⟩))
    (fun os started H enc _ F => by rw [OpenClaim.pre_eq_preRow]; exact AskTypes_lifted os started H enc F)
theorem AskTypes_plain (f : FuncId) (fn : Func) (hf : Tryd.pinned.checked.prog.funcNamed "seine/seinelaw22.AskTypes" = some f) (hfn : Tryd.pinned.checked.prog.funcs[f]? = some fn) :
    true = Tryd.pinned.checked.prog.looks [] ∧ ∀ (j : Nat) t, fn.params[j]? = some t → Tryd.pinned.checked.prog.wantsStandIn t = false := by
  obtain rfl : f = 15 := Option.some.inj ((show Tryd.prog.funcNamed "seine/seinelaw22.AskTypes" = some 15 by kernel_rfl).symm.trans hf) |>.symm
  obtain rfl : fn = Tryd.f15 := (Option.some.inj (Tryd.func15.symm.trans hfn)).symm
  refine ⟨by kernel_rfl, fun j t ht => ?_⟩
  rw [Tryd.params15] at ht
  have hm := Array.mem_of_getElem? ht
  simp only [List.mem_toArray, List.mem_cons, List.not_mem_nil, or_false] at hm
  rcases hm with rfl | rfl <;> exact (show Tryd.prog.wantsStandIn _ = false by kernel_rfl)
theorem AskTypes_card : Rows.AskTypesUptoCardSaid :=
  Claim7.holds_tied_plain_at .later [] _ _ _ _ AskTypes_said (fun _ h => by cases h) (by kernel_rfl) (fun _ h => by cases h) askTypesUpto_row_tie rfl ⟨rfl, rfl⟩ (by kernel_rfl) rfl AskTypes_plain (by kernel_rfl)
end Go.Proofs.YtpjafglhdlfnbaaDoor
