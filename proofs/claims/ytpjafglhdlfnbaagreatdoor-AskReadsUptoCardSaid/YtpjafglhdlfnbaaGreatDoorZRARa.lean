/- Texts joined: Ak AkM AkW Code Good Qr Deci Qr2 Qr3 Qr4 Rr Rr2 Rr3 Rr4 Rr5 Rr6 GoodV Wr. -/
import Derived.Lib.ValidLaws
import Derived.Lib.ItoaLen
import Derived.Test.YtpjafglhdlfnbaaGreatDoorM1
import Derived.Test.YtpjafglhdlfnbaaGreatDoorM2
import Derived.Test.YtpjafglhdlfnbaaGreatDoorM3
import Derived.Test.YtpjafglhdlfnbaaGreatDoorM4
import Derived.Test.YtpjafglhdlfnbaaGreatDoorM5
set_option maxRecDepth 100000
set_option linter.unusedSimpArgs false
set_option linter.unusedVariables false
namespace Go.Proofs.YtpjafglhdlfnbaaGreatDoor
open Go.Ab Go.Lib
abbrev AskT := List UInt8 × List UInt8 × List Mem
def cA (a : AskT) : List AV := [.str a.1, .str a.2.1, .sl .no 6 (cMs a.2.2)]
def zA : AskT := ([], [], [])
def qN : List UInt8 := [113, 117, 101, 114, 121]
def vN : List UInt8 := [118, 97, 114, 105, 97, 98, 108, 101, 115]
def oN : List UInt8 := [111, 112, 101, 114, 97, 116, 105, 111, 110, 78, 97, 109, 101]
def askX : Mem → AskT → Option AskT
  | .mk t (.mk k n s l m), a =>
    if t = qN then (if k = 4 then some (s, a.2.1, a.2.2) else none)
    else if t = vN then (if k = 7 then some (a.1, a.2.1, m) else if k = 0 then some a else none)
    else if t = oN then (if k = 4 then some (a.1, s, a.2.2) else if k = 0 then some a else none)
    else some a
def askL : List Mem → AskT → Option AskT
  | [], a => some a
  | x :: r, a => match askX x a with | some b => askL r b | none => none
def askOf (m : List Mem) : AskT × Int := match askL m zA with | some a => (a, 0) | none => (zA, 7)
def askV (v : Val) : AskT × Int := match v with
  | .mk k n s l m => if k = 7 then (if (getV qN m).2 then askOf m else (zA, 6)) else (zA, 7)
theorem askV_mk (k n : Int) (s : List UInt8) (l : List Val) (m : List Mem) : askV (.mk k n s l m) = if k = 7 then (if (getV qN m).2 then askOf m else (zA, 6)) else (zA, 7) := rfl
def askM (b : List UInt8) : AskT × Int := if (readM b).2 = 0 then askV (readM b).1 else (zA, (readM b).2)
def z3 : List AV := [.str [], .str [], .sl .nil 6 []]
theorem askC (s : List UInt8) (hl : s.length ≤ LimS) : Pure Tryz.prog 9 [.str s] (.tup [.agg (cA (askM s).1), .int .i64 (askM s).2]) := by
  refine Pure.go ir9 ck9 (Nat.le_refl _) fun KP Q hQ => ?_
  have hsz := readM_size s
  simp only [LimS] at hl
  have qv : ([113, 117, 101, 114, 121] : List UInt8) = [118, 97, 114, 105, 97, 98, 108, 101, 115] ↔ False := by decide
  have qo : ([113, 117, 101, 114, 121] : List UInt8) = [111, 112, 101, 114, 97, 116, 105, 111, 110, 78, 97, 109, 101] ↔ False := by decide
  have vq : ([118, 97, 114, 105, 97, 98, 108, 101, 115] : List UInt8) = [113, 117, 101, 114, 121] ↔ False := by decide
  have vo : ([118, 97, 114, 105, 97, 98, 108, 101, 115] : List UInt8) = [111, 112, 101, 114, 97, 116, 105, 111, 110, 78, 97, 109, 101] ↔ False := by decide
  have oq : ([111, 112, 101, 114, 97, 116, 105, 111, 110, 78, 97, 109, 101] : List UInt8) = [113, 117, 101, 114, 121] ↔ False := by decide
  have ov : ([111, 112, 101, 114, 97, 116, 105, 111, 110, 78, 97, 109, 101] : List UInt8) = [118, 97, 114, 105, 97, 98, 108, 101, 115] ↔ False := by decide
  have stripz : ∀ n : Int, (tupOf [AV.agg z3, .int .i64 n]).strip = .tup [.agg (cA zA), .int .i64 n] := fun _ => rfl
  simp (disch := first | omega | assumption) only [ir9, go_sem, ↓reduceIte]
  refine goA_intro fun b2 hb2 => ?_
  simp (disch := first | omega | assumption) only [go_sem, ↓reduceIte]
  refine goK_pure (readC s (by simp only [LimS]; omega)) ?_
  unfold askM at hQ
  generalize (readM s).2 = e at *
  rcases hv : (readM s).1 with ⟨k, n, x, l, m⟩
  rw [hv] at hsz hQ
  have hml : m.length ≤ Lim := by
    have := bMs_len m
    simp only [bV] at hsz; simp only [Lim]; omega
  simp (disch := first | omega | assumption) only [cV_mk, go_sem, ↓reduceIte]
  refine goA_intro fun b4 hb4 => ?_
  have n42 : b4 ≠ b2 := fun e => by subst e; rw [upd_same] at hb4; cases hb4
  have n24 := Ne.symm n42
  simp (disch := first | omega | assumption) only [cV_mk, go_sem, ↓reduceIte]
  have h2 : ((Heap.emp.upd b2 (.cells z3)).upd b4 (.cells [.int .i64 k, .int .i64 n, .str x, .sl .no 5 (cVs l), .sl .no 6 (cMs m)])) b2 = some (.cells z3) := by rw [upd_ne n24, upd_same]
  have h4 : ((Heap.emp.upd b2 (.cells z3)).upd b4 (.cells [.int .i64 k, .int .i64 n, .str x, .sl .no 5 (cVs l), .sl .no 6 (cMs m)])) b4 = some (.cells [.int .i64 k, .int .i64 n, .str x, .sl .no 5 (cVs l), .sl .no 6 (cMs m)]) := upd_same ..
  unfold z3 at h2 h4
  generalize ((Heap.emp.upd b2 (.cells [AV.str [], .str [], .sl .nil 6 []])).upd b4 (.cells [.int .i64 k, .int .i64 n, .str x, .sl .no 5 (cVs l), .sl .no 6 (cMs m)])) = H1 at *
  by_cases he : e = 0
  · subst he
    rw [if_pos rfl] at hQ
    rw [askV_mk] at hQ
    by_cases hk : k = 7
    · subst hk
      simp only [if_true] at hQ
      simp (disch := first | omega | assumption) only [h4, go_sem, ↓reduceIte]
      refine goK_pure (getP qN m hml) ?_
      simp (disch := first | omega | assumption) only [cV_len, cV_take, cV_splice, cM_len, cM_take, cM_splice, cM_mk, go_sem, ↓reduceIte]
      refine goA_intro fun b6 hb6 => ?_
      have n62 : b6 ≠ b2 := fun e => by subst e; rw [hb6] at h2; cases h2
      have n26 := Ne.symm n62
      have n64 : b6 ≠ b4 := fun e => by subst e; rw [hb6] at h4; cases h4
      have n46 := Ne.symm n64
      cases hg : (getV qN m).2
      · rw [hg] at hQ
        simp (disch := first | omega | assumption) only [cV_len, cV_take, cV_splice, cM_len, cM_take, cM_splice, cM_mk, h2, h4, n26, n62, n46, n64, go_sem, ↓reduceIte]
        exact hQ _ _ _ [.agg z3, .int .i64 6] nofun (by simp (disch := first | omega | assumption) only [ir9, resvs, resv, upd_same, z3, go_sem, ↓reduceIte]) (stripz 6)
      · rw [hg] at hQ
        simp only [if_true] at hQ
        have h2' : (H1.upd b6 (.cells (cV (getV qN m).1))) b2 = some (.cells z3) := by rw [upd_ne n26]; exact h2
        have h4' : (H1.upd b6 (.cells (cV (getV qN m).1))) b4 = some (.cells [.int .i64 7, .int .i64 n, .str x, .sl .no 5 (cVs l), .sl .no 6 (cMs m)]) := by rw [upd_ne n46]; exact h4
        simp (disch := first | omega | assumption) only [cV_len, cV_take, cV_splice, cM_len, cM_take, cM_splice, cM_mk, go_sem, ↓reduceIte]
        generalize (H1.upd b6 (.cells (cV (getV qN m).1))) = H2 at *
        refine goA_intro fun b8 hb8 => ?_
        have n82 : b8 ≠ b2 := fun e => by subst e; rw [hb8] at h2'; cases h2'
        have n28 := Ne.symm n82
        have n84 : b8 ≠ b4 := fun e => by subst e; rw [hb8] at h4'; cases h4'
        have n48 := Ne.symm n84
        have h2c : (H2.upd b8 (.cells [AV.str [], .str [], .sl .nil 6 []])) b2 = some (.cells z3) := by rw [upd_ne n28]; exact h2'
        have h8c : (H2.upd b8 (.cells [AV.str [], .str [], .sl .nil 6 []])) b8 = some (.cells [AV.str [], .str [], .sl .nil 6 []]) := upd_same ..
        have hm := cMs_len m
        have hml' := hml
        simp only [Lim] at hml'
        simp (disch := first | omega | assumption) only [h4', n48, hm, go_sem, ↓reduceIte]
        clear h2 h4 h2' h4'
        generalize (H2.upd b8 (.cells [AV.str [], .str [], .sl .nil 6 []])) = H3 at *
        refine goL_range m 39 (fun _ : AskT × Own => []) (fun done rest a H => H b2 = some (.cells z3) ∧ H b8 = some (.cells [.str a.1.1, .str a.1.2.1, .sl a.2 6 (cMs a.1.2.2)]) ∧ askL rest a.1 = askL m zA) (zA, .nil) (by simp (disch := first | omega | assumption) only [go_sem, ↓reduceIte]) ⟨h2c, h8c, rfl⟩ ?_ ?_
        · rintro ⟨a, w⟩ H J ⟨k2, k8, ka⟩ hlt
          have eo : askOf m = (a, 0) := by unfold askOf; rw [← ka]; rfl
          rw [eo] at hQ
          unfold z3 at k2
          simp (disch := first | omega | assumption) only [hm, hlt, k2, k8, n28, n82, go_sem, ↓reduceIte]
          exact hQ _ _ _ [.agg [.str a.1, .str a.2.1, .sl w 6 (cMs a.2.2)], .int .i64 0] nofun (by simp (disch := first | omega | assumption) only [ir9, resvs, resv, upd_same, z3, go_sem, ↓reduceIte]) rfl
        · rintro done y rest ⟨a, w⟩ H J hd hlt hlt2 ⟨k2, k8, ka⟩ hJ
          have hg := cMs_get hd
          rcases y with ⟨t, ⟨k, n, s2, l2, m2⟩⟩
          unfold z3 at k2
          simp only at k8 ka
          rw [askL] at ka
          simp (disch := first | omega | assumption) only [hm, hlt, hg, cM_mk, cV_mk, go_sem, ↓reduceIte]
          refine goA_intro fun b10 hb10 => ?_
          have m2a := ne_of_none hb10 k2
          have m2b := Ne.symm m2a
          have m8a := ne_of_none hb10 k8
          have m8b := Ne.symm m8a
          have nx : ∀ a' w' H', askX (.mk t (.mk k n s2 l2 m2)) a = some a' → H' b2 = H b2 → H' b8 = some (.cells [.str a'.1, .str a'.2.1, .sl w' 6 (cMs a'.2.2)]) → J ((setAll _ [(39, .int .i64 ((done.length : Int) + 1))]).keep [2, 8, 37, 38, 39]) H' := fun a' w' H' e1 e2 e3 => by
            refine hJ (a', w') H' ⟨by rw [e2]; exact k2, e3, ?_⟩
            rw [← ka, e1]
          have er : askX (.mk t (.mk k n s2 l2 m2)) a = none → askOf m = (zA, 7) := fun e => by
            unfold askOf; rw [← ka, e]
          by_cases tq : t = [113, 117, 101, 114, 121]
          · subst tq
            by_cases k4 : k = 4
            · subst k4
              simp (disch := first | omega | assumption) only [m2a, m2b, m8a, m8b, n28, n82, k8, k2, wrap64, qv, qo, go_sem, ↓reduceIte]
              exact goJ (nx (s2, a.2.1, a.2.2) w _ (by simp [askX, qN, vN, oN, qv, qo]) (by simp [Heap.upd, m2a, m2b, n28, n82]) (by simp [Heap.upd, k8, m8a, m8b])) (by simp (disch := first | omega | assumption) only [go_sem, ↓reduceIte])
            · rw [er (by simp [askX, qN, vN, oN, k4, qv, qo])] at hQ
              simp (disch := first | omega | assumption) only [m2a, m2b, m8a, m8b, n28, n82, k8, k2, wrap64, k4, qv, qo, go_sem, ↓reduceIte]
              exact hQ _ _ _ [.agg z3, .int .i64 7] nofun (by simp (disch := first | omega | assumption) only [ir9, resvs, resv, upd_same, z3, m2a, m2b, go_sem, ↓reduceIte]) (stripz 7)
          by_cases tv : t = [118, 97, 114, 105, 97, 98, 108, 101, 115]
          · subst tv
            by_cases k7 : k = 7
            · subst k7
              simp (disch := first | omega | assumption) only [m2a, m2b, m8a, m8b, n28, n82, k8, k2, wrap64, vq, vo, go_sem, ↓reduceIte]
              exact goJ (nx (a.1, a.2.1, m2) .no _ (by simp [askX, qN, vN, oN, vq, vo]) (by simp [Heap.upd, m2a, m2b, n28, n82]) (by simp [Heap.upd, k8, m8a, m8b])) (by simp (disch := first | omega | assumption) only [go_sem, ↓reduceIte])
            by_cases k0 : k = 0
            · subst k0
              simp (disch := first | omega | assumption) only [m2a, m2b, m8a, m8b, n28, n82, k8, k2, wrap64, vq, vo, go_sem, ↓reduceIte]
              exact goJ (nx a w _ (by simp [askX, qN, vN, oN, vq, vo]) (by simp [Heap.upd, m2a, m2b, n28, n82]) (by simp [Heap.upd, k8, m8a, m8b])) (by simp (disch := first | omega | assumption) only [go_sem, ↓reduceIte])
            · rw [er (by simp [askX, qN, vN, oN, k7, k0, vq, vo])] at hQ
              simp (disch := first | omega | assumption) only [m2a, m2b, m8a, m8b, n28, n82, k8, k2, wrap64, k7, k0, vq, vo, go_sem, ↓reduceIte]
              exact hQ _ _ _ [.agg z3, .int .i64 7] nofun (by simp (disch := first | omega | assumption) only [ir9, resvs, resv, upd_same, z3, m2a, m2b, go_sem, ↓reduceIte]) (stripz 7)
          by_cases tp : t = [111, 112, 101, 114, 97, 116, 105, 111, 110, 78, 97, 109, 101]
          · subst tp
            by_cases k4 : k = 4
            · subst k4
              simp (disch := first | omega | assumption) only [m2a, m2b, m8a, m8b, n28, n82, k8, k2, wrap64, oq, ov, go_sem, ↓reduceIte]
              exact goJ (nx (a.1, s2, a.2.2) w _ (by simp [askX, qN, vN, oN, oq, ov]) (by simp [Heap.upd, m2a, m2b, n28, n82]) (by simp [Heap.upd, k8, m8a, m8b])) (by simp (disch := first | omega | assumption) only [go_sem, ↓reduceIte])
            by_cases k0 : k = 0
            · subst k0
              simp (disch := first | omega | assumption) only [m2a, m2b, m8a, m8b, n28, n82, k8, k2, wrap64, oq, ov, go_sem, ↓reduceIte]
              exact goJ (nx a w _ (by simp [askX, qN, vN, oN, oq, ov]) (by simp [Heap.upd, m2a, m2b, n28, n82]) (by simp [Heap.upd, k8, m8a, m8b])) (by simp (disch := first | omega | assumption) only [go_sem, ↓reduceIte])
            · rw [er (by simp [askX, qN, vN, oN, k4, k0, oq, ov])] at hQ
              simp (disch := first | omega | assumption) only [m2a, m2b, m8a, m8b, n28, n82, k8, k2, wrap64, k4, k0, oq, ov, go_sem, ↓reduceIte]
              exact hQ _ _ _ [.agg z3, .int .i64 7] nofun (by simp (disch := first | omega | assumption) only [ir9, resvs, resv, upd_same, z3, m2a, m2b, go_sem, ↓reduceIte]) (stripz 7)
          by_cases k0 : k = 0
          · subst k0
            simp (disch := first | omega | assumption) only [m2a, m2b, m8a, m8b, n28, n82, k8, k2, wrap64, tq, tv, tp, go_sem, ↓reduceIte]
            exact goJ (nx a w _ (by simp [askX, qN, vN, oN, tq, tv, tp]) (by simp [Heap.upd, m2a, m2b, n28, n82]) (by simp [Heap.upd, k8, m8a, m8b])) (by simp (disch := first | omega | assumption) only [go_sem, ↓reduceIte])
          · simp (disch := first | omega | assumption) only [m2a, m2b, m8a, m8b, n28, n82, k8, k2, wrap64, tq, tv, tp, k0, go_sem, ↓reduceIte]
            exact goJ (nx a w _ (by simp [askX, qN, vN, oN, tq, tv, tp]) (by simp [Heap.upd, m2a, m2b, n28, n82]) (by simp [Heap.upd, k8, m8a, m8b])) (by simp (disch := first | omega | assumption) only [go_sem, ↓reduceIte])
    · rw [if_neg hk] at hQ
      simp (disch := first | omega | assumption) only [h4, h2, hk, go_sem, ↓reduceIte]
      exact hQ _ _ _ [.agg z3, .int .i64 7] nofun (by simp (disch := first | omega | assumption) only [ir9, resvs, resv, upd_same, z3, go_sem, ↓reduceIte]) (stripz 7)
  · rw [if_neg he] at hQ
    simp (disch := first | omega | assumption) only [he, h2, go_sem, ↓reduceIte]
    exact hQ _ _ _ [.agg z3, .int .i64 e] nofun (by simp (disch := first | omega | assumption) only [ir9, resvs, resv, upd_same, z3, go_sem, ↓reduceIte]) (stripz e)
end Go.Proofs.YtpjafglhdlfnbaaGreatDoor
namespace Go.Proofs.YtpjafglhdlfnbaaGreatDoor
open Go.Ab Go.Lib
def kV : Val → Int
  | .mk k _ _ _ _ => k
def sV : Val → List UInt8
  | .mk _ _ s _ _ => s
def mV : Val → List Mem
  | .mk _ _ _ _ m => m
theorem kV_mk (k n : Int) (s : List UInt8) (l : List Val) (m : List Mem) : kV (.mk k n s l m) = k := rfl
theorem sV_mk (k n : Int) (s : List UInt8) (l : List Val) (m : List Mem) : sV (.mk k n s l m) = s := rfl
theorem mV_mk (k n : Int) (s : List UInt8) (l : List Val) (m : List Mem) : mV (.mk k n s l m) = m := rfl
theorem kV_z : kV zV = 0 := rfl
def okQ (m : List Mem) : Bool := !(getV qN m).2 || decide (kV (getV qN m).1 = 4)
def okVa (m : List Mem) : Bool := decide (kV (getV vN m).1 = 7) || decide (kV (getV vN m).1 = 0)
def okO (m : List Mem) : Bool := decide (kV (getV oN m).1 = 4) || decide (kV (getV oN m).1 = 0)
def pkQ (m : List Mem) (a : List UInt8) : List UInt8 := if kV (getV qN m).1 = 4 then sV (getV qN m).1 else a
def pkV (m : List Mem) (a : List Mem) : List Mem := if kV (getV vN m).1 = 7 then mV (getV vN m).1 else a
def pkO (m : List Mem) (a : List UInt8) : List UInt8 := if kV (getV oN m).1 = 4 then sV (getV oN m).1 else a
theorem getV_no (t : List UInt8) : ∀ m : List Mem, t ∉ m.map nmM → getV t m = (zV, false)
  | [], _ => rfl
  | .mk s v :: r, h => by
    simp only [List.map_cons, nmM, List.mem_cons, not_or] at h
    rw [getV, if_neg (fun e => h.1 e.symm), getV_no t r h.2]
theorem getV_mem (t : List UInt8) : ∀ m : List Mem, (getV t m).2 = true → Mem.mk t (getV t m).1 ∈ m
  | [], h => by simp [getV] at h
  | .mk s v :: r, h => by
    rw [getV] at h ⊢
    by_cases e : s = t
    · subst e; simp
    · rw [if_neg e] at h ⊢
      exact List.mem_cons_of_mem _ (getV_mem t r h)
theorem sing_nodup : ∀ (m : List Mem) (ns : List (List UInt8)), singMs ns m = true → (m.map nmM).Nodup ∧ ∀ t ∈ ns, t ∉ m.map nmM
  | [], ns, _ => by simp
  | x :: r, ns, h => by
    simp only [singMs, Bool.and_eq_true, Bool.not_eq_true', List.contains_eq_mem, decide_eq_false_iff_not] at h
    obtain ⟨h1, h2⟩ := sing_nodup r (ns ++ [nmM x]) h.2.2
    refine ⟨?_, fun t ht => ?_⟩
    · rw [List.map_cons, List.nodup_cons]
      exact ⟨h2 _ (by simp), h1⟩
    · rw [List.map_cons, List.mem_cons, not_or]
      exact ⟨fun e => h.1 (e ▸ ht), h2 t (by simp [ht])⟩
theorem askL_get : ∀ (m : List Mem) (a : AskT), (m.map nmM).Nodup → askL m a = if okQ m && (okVa m && okO m) then some (pkQ m a.1, pkO m a.2.1, pkV m a.2.2) else none
  | [], a, _ => by simp [askL, okQ, okVa, okO, pkQ, pkV, pkO, getV, kV_z]
  | .mk t (.mk k n s l m') :: r, a, h => by
    rw [List.map_cons, List.nodup_cons] at h
    simp only [nmM] at h
    have ih := fun a => askL_get r a h.2
    have qv : ¬ qN = vN := by decide
    have qo : ¬ qN = oN := by decide
    have vo : ¬ vN = oN := by decide
    have no := getV_no t r h.1
    rw [askL, askX]
    by_cases tq : t = qN
    · subst tq
      by_cases k4 : k = 4
      · simp [qv, qo, okQ, okVa, okO, pkQ, pkV, pkO, getV, no, kV_mk, sV_mk, mV_mk, kV_z, ih, k4]
      · simp [qv, qo, okQ, okVa, okO, pkQ, pkV, pkO, getV, no, kV_mk, sV_mk, mV_mk, kV_z, ih, k4]
    by_cases tv : t = vN
    · subst tv
      by_cases k7 : k = 7
      · simp [tq, vo, okQ, okVa, okO, pkQ, pkV, pkO, getV, no, kV_mk, sV_mk, mV_mk, kV_z, ih, k7]
      · by_cases k0 : k = 0
        · simp [tq, vo, okQ, okVa, okO, pkQ, pkV, pkO, getV, no, kV_mk, sV_mk, mV_mk, kV_z, ih, k0]
        · simp [tq, vo, okQ, okVa, okO, pkQ, pkV, pkO, getV, no, kV_mk, sV_mk, mV_mk, kV_z, ih, k7, k0]
    by_cases tp : t = oN
    · subst tp
      by_cases k4 : k = 4
      · simp [tq, tv, okQ, okVa, okO, pkQ, pkV, pkO, getV, no, kV_mk, sV_mk, mV_mk, kV_z, ih, k4]
      · by_cases k0 : k = 0
        · simp [tq, tv, okQ, okVa, okO, pkQ, pkV, pkO, getV, no, kV_mk, sV_mk, mV_mk, kV_z, ih, k0]
        · simp [tq, tv, okQ, okVa, okO, pkQ, pkV, pkO, getV, no, kV_mk, sV_mk, mV_mk, kV_z, ih, k4, k0]
    · simp [tq, tv, tp, okQ, okVa, okO, pkQ, pkV, pkO, getV, kV_mk, sV_mk, mV_mk, kV_z, ih]
def refOf (m : List Mem) : AskT × Int := if kV (getV qN m).1 = 4 ∧ okVa m = true ∧ okO m = true then ((sV (getV qN m).1, sV (getV oN m).1, mV (getV vN m).1), 0) else (zA, 7)
theorem allMs_mem {may : List UInt8 → Bool} : ∀ (m : List Mem) t v, allMs may m = true → Mem.mk t v ∈ m → allV may v = true
  | [], t, v, _, h => by cases h
  | x :: r, t, v, ha, h => by
    simp only [allMs, Bool.and_eq_true] at ha
    rcases List.mem_cons.1 h with e | e
    · rw [← e] at ha; simp only [allM, Bool.and_eq_true] at ha; exact ha.1.2
    · exact allMs_mem r t v ha.2 e
theorem all_null {may : List UInt8 → Bool} {v : Val} (h : allV may v = true) (hk : kV v = 0) : sV v = [] ∧ mV v = [] := by
  cases v with
  | mk k n s l m =>
  simp only [kV] at hk
  subst hk
  simp only [allV, sV, mV] at h ⊢
  rw [if_neg (by decide), if_neg (by decide)] at h
  simp only [singleM, bareM, if_true, Bool.and_eq_true, decide_eq_true_eq] at h
  exact ⟨h.2.2, List.eq_nil_of_length_eq_zero h.1.2.2.2⟩
theorem get_null {m : List Mem} {may : List UInt8 → Bool} (h : allMs may m = true) (t : List UInt8) (hk : kV (getV t m).1 = 0) : sV (getV t m).1 = [] ∧ mV (getV t m).1 = [] := by
  cases hg : (getV t m).2
  · have : getV t m = (zV, false) := by
      rcases Classical.em (t ∈ m.map nmM) with e | e
      · exfalso
        clear hk h
        induction m with
        | nil => cases e
        | cons x r ih =>
          cases x with
          | mk s v =>
          rw [getV] at hg
          by_cases es : s = t
          · rw [if_pos es] at hg; cases hg
          · rw [if_neg es] at hg
            refine ih hg ?_
            simp only [List.map_cons, nmM, List.mem_cons] at e
            exact e.resolve_left fun x => es x.symm
      · exact getV_no t m e
    rw [this]; exact ⟨rfl, rfl⟩
  · exact all_null (allMs_mem m t _ h (getV_mem t m hg)) hk
theorem askOf_ref {m : List Mem} (hn : (m.map nmM).Nodup) (ha : allMs Lib.validD m = true) (hq : (getV qN m).2 = true) : askOf m = refOf m := by
  unfold askOf refOf
  rw [askL_get m zA hn]
  by_cases k4 : kV (getV qN m).1 = 4
  · cases hv : okVa m
    · simp [hv]
    cases ho : okO m
    · simp [hv, ho]
    have e1 : pkO m zA.2.1 = sV (getV oN m).1 := by
      unfold pkO; split
      · rfl
      · rename_i h4
        simp only [okO, Bool.or_eq_true, decide_eq_true_eq] at ho
        exact ((get_null ha oN (ho.resolve_left h4)).1).symm
    have e2 : pkV m zA.2.2 = mV (getV vN m).1 := by
      unfold pkV; split
      · rfl
      · rename_i h4
        simp only [okVa, Bool.or_eq_true, decide_eq_true_eq] at hv
        exact ((get_null ha vN (hv.resolve_left h4)).2).symm
    simp [okQ, k4, hv, ho, e1, e2, pkQ]
  · simp [okQ, hq, k4]
def refV (v : Val) : AskT × Int := match v with
  | .mk k n s l m => if k = 7 then (if (getV qN m).2 then refOf m else (zA, 6)) else (zA, 7)
theorem right_map {k n : Int} {s : List UInt8} {l : List Val} {m : List Mem} (h : rightV (.mk k n s l m) = true) (hk : k = 7) : (m.map nmM).Nodup ∧ allMs Lib.validD m = true := by
  subst hk
  simp only [rightV, goodV, allV, singV, Bool.and_eq_true] at h
  rw [if_neg (by decide), if_pos trivial] at h
  simp only [Bool.and_eq_true] at h
  exact ⟨(sing_nodup m [] h.2.2.2).1, h.1.1⟩
theorem askV_ref {v : Val} (h : rightV v = true) : askV v = refV v := by
  cases v with
  | mk k n s l m =>
  unfold askV refV
  by_cases hk : k = 7
  · obtain ⟨a, b⟩ := right_map h hk
    simp only [hk, if_true]
    cases hq : (getV qN m).2
    · rfl
    · simp only [if_true]; exact askOf_ref a b hq
  · simp only [hk, if_false]
end Go.Proofs.YtpjafglhdlfnbaaGreatDoor
namespace Go.Proofs.YtpjafglhdlfnbaaGreatDoor
open Go.Ab Go.Lib
def exQ : List UInt8 := [123, 34, 113, 117, 101, 114, 121, 34, 58, 34, 123, 97, 125, 34, 125]
def exE : List UInt8 := [123, 125]
theorem exQ_r : askM exQ = (([123, 97, 125], [], []), 0) := by kernel_rfl
theorem exE_r : askM exE = (zA, 6) := by kernel_rfl
theorem awakeA : Pure Tryz.prog 8 [] (.bool true) := by
  refine Pure.go ir8 ck8 (Nat.le_refl _) fun KP Q hQ => ?_
  simp (disch := first | omega | assumption) only [ir8, go_sem, ↓reduceIte]
  refine goK_pure (askC exQ (by decide)) ?_
  rw [exQ_r]
  simp (disch := first | omega | assumption) only [cA, go_sem, ↓reduceIte]
  refine goA_intro fun b hb => ?_
  simp (disch := first | omega | assumption) only [cA, go_sem, ↓reduceIte]
  refine goK_pure (askC exE (by decide)) ?_
  rw [exE_r]
  simp (disch := first | omega | assumption) only [cA, zA, go_sem, ↓reduceIte]
  refine goA_intro fun b2 hb2 => ?_
  have n := ne_of_none hb2 (upd_same ..)
  simp (disch := first | omega | assumption) only [cA, zA, n, Ne.symm n, cMs, go_sem, ↓reduceIte]
  exact hQ _ _ _ _ nofun rfl (by simp [tupOf, envOf, AV.strip, AV.strip1])
end Go.Proofs.YtpjafglhdlfnbaaGreatDoor
namespace Go.Proofs.YtpjafglhdlfnbaaGreatDoor
open Go.Ab
theorem ofNat_toNat64 {n : Nat} (h : n < 18446744073709551616) : (BitVec.ofInt 64 (n : Int)).toNat = n := by
  rw [BitVec.toNat_ofInt]; omega
theorem wrap_nat {n : Nat} (h : n < 9223372036854775808) : IntKind.wrap .i64 (n : Int) = n := wrap64 (by omega) (by omega)
theorem and_lo {n : Nat} (j : Nat) (h : n < 9223372036854775808) (hj : 2 ^ j - 1 < 9223372036854775808) : IntKind.wrap .i64 ((BitVec.ofInt IntKind.i64.bits (n : Int) &&& BitVec.ofInt IntKind.i64.bits ((2 ^ j - 1 : Nat) : Int)).toNat : Int) = ((n % 2 ^ j : Nat) : Int) := by
  have e : (BitVec.ofInt IntKind.i64.bits (n : Int) &&& BitVec.ofInt IntKind.i64.bits ((2 ^ j - 1 : Nat) : Int)).toNat = n % 2 ^ j := by
    rw [BitVec.toNat_and]
    show (BitVec.ofInt 64 (n : Int)).toNat &&& (BitVec.ofInt 64 ((2 ^ j - 1 : Nat) : Int)).toNat = _
    rw [ofNat_toNat64 (by omega), ofNat_toNat64 (by omega), Nat.and_two_pow_sub_one_eq_mod]
  rw [e]
  exact wrap_nat (Nat.lt_of_le_of_lt (Nat.mod_le _ _) h)
theorem and31 {n : Nat} (h : n < 9223372036854775808) : IntKind.wrap .i64 ((BitVec.ofInt IntKind.i64.bits (n : Int) &&& BitVec.ofInt IntKind.i64.bits 31).toNat : Int) = ((n % 32 : Nat) : Int) := and_lo 5 h (by decide)
theorem and15 {n : Nat} (h : n < 9223372036854775808) : IntKind.wrap .i64 ((BitVec.ofInt IntKind.i64.bits (n : Int) &&& BitVec.ofInt IntKind.i64.bits 15).toNat : Int) = ((n % 16 : Nat) : Int) := and_lo 4 h (by decide)
theorem and7 {n : Nat} (h : n < 9223372036854775808) : IntKind.wrap .i64 ((BitVec.ofInt IntKind.i64.bits (n : Int) &&& BitVec.ofInt IntKind.i64.bits 7).toNat : Int) = ((n % 8 : Nat) : Int) := and_lo 3 h (by decide)
theorem and63 {n : Nat} (h : n < 9223372036854775808) : IntKind.wrap .i64 ((BitVec.ofInt IntKind.i64.bits (n : Int) &&& BitVec.ofInt IntKind.i64.bits 63).toNat : Int) = ((n % 64 : Nat) : Int) := and_lo 6 h (by decide)
theorem or64 {a b : Nat} (ha : a < 16777216) (hb : b < 64) : IntKind.wrap .i64 ((BitVec.ofInt IntKind.i64.bits ((a * 64 : Nat) : Int) ||| BitVec.ofInt IntKind.i64.bits (b : Int)).toNat : Int) = ((a * 64 + b : Nat) : Int) := by
  have e : (BitVec.ofInt IntKind.i64.bits ((a * 64 : Nat) : Int) ||| BitVec.ofInt IntKind.i64.bits (b : Int)).toNat = a * 64 + b := by
    rw [BitVec.toNat_or]
    show (BitVec.ofInt 64 ((a * 64 : Nat) : Int)).toNat ||| (BitVec.ofInt 64 (b : Int)).toNat = _
    rw [ofNat_toNat64 (by omega), ofNat_toNat64 (by omega)]
    have := Nat.two_pow_add_eq_or_of_lt (i := 6) (b := b) (by omega) a
    rw [show (2 : Nat) ^ 6 = 64 by rfl] at this
    rw [Nat.mul_comm a 64, this]
  rw [e]
  exact wrap_nat (by omega)
def codeN (l : List UInt8) : Nat × Nat := if l = [] then (0, 0) else if Lib.decodeL l = (65533, 1) then (0, 0) else Lib.decodeL l
abbrev bt (s : List UInt8) (i k : Nat) : Nat := (s.getD (i + k) 0).toNat
theorem bt_lt (s : List UInt8) (i k : Nat) : bt s i k < 256 := (s.getD (i + k) 0).toNat_lt
theorem drop_getD (s : List UInt8) (i k : Nat) : (s.drop i).getD k 0 = s.getD (i + k) 0 := by simp [List.getElem?_drop]
theorem codeN_eq {s : List UInt8} {i : Nat} (h : i < s.length) : codeN (s.drop i) = if Lib.decodeN (s.length - i) (bt s i 0) (bt s i 1) (bt s i 2) (bt s i 3) = (65533, 1) then (0, 0) else Lib.decodeN (s.length - i) (bt s i 0) (bt s i 1) (bt s i 2) (bt s i 3) := by
  have hne : s.drop i ≠ [] := fun e => by have := congrArg List.length e; simp at this; omega
  unfold codeN
  rw [if_neg hne, Lib.decodeL_N, List.length_drop]
  simp only [drop_getD]
def cv (v0 : Nat) (b : Nat → Nat) : Nat → Nat
  | 0 => v0
  | j + 1 => cv v0 b j * 64 + b (j + 1) % 64
def Lead (b0 w lo v : Nat) : Prop := (194 ≤ b0 ∧ b0 < 224 ∧ w = 2 ∧ lo = 128 ∧ v = b0 % 32) ∨ (224 ≤ b0 ∧ b0 < 240 ∧ w = 3 ∧ lo = 2048 ∧ v = b0 % 16) ∨ (240 ≤ b0 ∧ b0 < 245 ∧ w = 4 ∧ lo = 65536 ∧ v = b0 % 8)
theorem dec_short {n b0 b1 b2 b3 w lo v : Nat} (h : Lead b0 w lo v) (hn : n < w) : Lib.decodeN n b0 b1 b2 b3 = (65533, 1) := by
  unfold Lib.decodeN
  rcases h with ⟨h1, h2, rfl, _, _⟩ | ⟨h1, h2, rfl, _, _⟩ | ⟨h1, h2, rfl, _, _⟩ <;> (repeat' split) <;> first | rfl | (exfalso; omega)
theorem dec_cont {n w lo v j : Nat} {b : Nat → Nat} (h : Lead (b 0) w lo v) (h1 : 1 ≤ j) (hj : j < w) (hc : b j < 128 ∨ 191 < b j) : Lib.decodeN n (b 0) (b 1) (b 2) (b 3) = (65533, 1) := by
  have hj4 : j = 1 ∨ j = 2 ∨ j = 3 := by rcases h with h | h | h <;> omega
  unfold Lib.decodeN
  rcases h with ⟨h2, h3, rfl, _, _⟩ | ⟨h2, h3, rfl, _, _⟩ | ⟨h2, h3, rfl, _, _⟩ <;> rcases hj4 with rfl | rfl | rfl <;> (repeat' split) <;> first | rfl | (exfalso; omega)
theorem dec_full {n w lo v : Nat} {b : Nat → Nat} (h : Lead (b 0) w lo v) (hn : w ≤ n) (hc : ∀ j, 1 ≤ j → j < w → 128 ≤ b j ∧ b j ≤ 191) :
    (if Lib.decodeN n (b 0) (b 1) (b 2) (b 3) = (65533, 1) then (0, 0) else Lib.decodeN n (b 0) (b 1) (b 2) (b 3)) = if cv v b (w - 1) < lo ∨ 1114111 < cv v b (w - 1) ∨ (55296 ≤ cv v b (w - 1) ∧ cv v b (w - 1) < 57344) then (0, 0) else (cv v b (w - 1), w) := by
  rcases h with ⟨h2, h3, rfl, rfl, rfl⟩ | ⟨h2, h3, rfl, rfl, rfl⟩ | ⟨h2, h3, rfl, rfl, rfl⟩
  · have c1 := hc 1 (by omega) (by omega)
    have e : Lib.decodeN n (b 0) (b 1) (b 2) (b 3) = (b 0 % 32 * 64 + b 1 % 64, 2) := by
      unfold Lib.decodeN
      rw [if_neg (by omega), if_pos (by omega), if_pos (by omega)]
    have e2 : cv (b 0 % 32) b (2 - 1) = b 0 % 32 * 64 + b 1 % 64 := rfl
    rw [e, e2, if_neg (by simp), if_neg (by omega)]
  · have c1 := hc 1 (by omega) (by omega)
    have c2 := hc 2 (by omega) (by omega)
    have e2 : cv (b 0 % 16) b (3 - 1) = b 0 % 16 * 4096 + b 1 % 64 * 64 + b 2 % 64 := by
      show (b 0 % 16 * 64 + b 1 % 64) * 64 + b 2 % 64 = _
      omega
    rw [e2]
    by_cases g : b 0 % 16 * 4096 + b 1 % 64 * 64 + b 2 % 64 ≥ 2048 ∧ (b 0 % 16 * 4096 + b 1 % 64 * 64 + b 2 % 64 < 55296 ∨ (57344 ≤ b 0 % 16 * 4096 + b 1 % 64 * 64 + b 2 % 64 ∧ b 0 % 16 * 4096 + b 1 % 64 * 64 + b 2 % 64 ≤ 1114111))
    · have e : Lib.decodeN n (b 0) (b 1) (b 2) (b 3) = (b 0 % 16 * 4096 + b 1 % 64 * 64 + b 2 % 64, 3) := by
        unfold Lib.decodeN
        rw [if_neg (by omega), if_neg (by omega), if_pos (by omega), if_pos g]
      rw [e, if_neg (by simp), if_neg (by omega)]
    · have e : Lib.decodeN n (b 0) (b 1) (b 2) (b 3) = (65533, 1) := by
        unfold Lib.decodeN
        rw [if_neg (by omega), if_neg (by omega), if_pos (by omega), if_neg g]
      rw [e, if_pos rfl, if_pos (by omega)]
  · have c1 := hc 1 (by omega) (by omega)
    have c2 := hc 2 (by omega) (by omega)
    have c3 := hc 3 (by omega) (by omega)
    have e2 : cv (b 0 % 8) b (4 - 1) = b 0 % 8 * 262144 + b 1 % 64 * 4096 + b 2 % 64 * 64 + b 3 % 64 := by
      show ((b 0 % 8 * 64 + b 1 % 64) * 64 + b 2 % 64) * 64 + b 3 % 64 = _
      omega
    rw [e2]
    by_cases g : b 0 % 8 * 262144 + b 1 % 64 * 4096 + b 2 % 64 * 64 + b 3 % 64 ≥ 65536 ∧ (b 0 % 8 * 262144 + b 1 % 64 * 4096 + b 2 % 64 * 64 + b 3 % 64 < 55296 ∨ (57344 ≤ b 0 % 8 * 262144 + b 1 % 64 * 4096 + b 2 % 64 * 64 + b 3 % 64 ∧ b 0 % 8 * 262144 + b 1 % 64 * 4096 + b 2 % 64 * 64 + b 3 % 64 ≤ 1114111))
    · have e : Lib.decodeN n (b 0) (b 1) (b 2) (b 3) = (b 0 % 8 * 262144 + b 1 % 64 * 4096 + b 2 % 64 * 64 + b 3 % 64, 4) := by
        unfold Lib.decodeN
        rw [if_neg (by omega), if_neg (by omega), if_neg (by omega), if_pos (by omega), if_pos g]
      rw [e, if_neg (by simp), if_neg (by omega)]
    · have e : Lib.decodeN n (b 0) (b 1) (b 2) (b 3) = (65533, 1) := by
        unfold Lib.decodeN
        rw [if_neg (by omega), if_neg (by omega), if_neg (by omega), if_pos (by omega), if_neg g]
      rw [e, if_pos rfl, if_pos (by omega)]
theorem CodeR (s : List UInt8) (i : Nat) (hi : i < s.length) (hs : s.length ≤ Lim) : Pure Tryz.prog 115 [.str s, .int .i64 i] (.tup [.int .i64 (codeN (s.drop i)).1, .int .i64 (codeN (s.drop i)).2]) := by
  refine Pure.go ir115 ck115 (Nat.le_refl _) fun KP Q hQ => ?_
  simp only [Lim] at hs
  have hlt : (i : Int) < s.length := by omega
  have h0 : ¬ (i : Int) < 0 := by omega
  have hge : ¬ (s.length : Int) ≤ i := by omega
  rw [codeN_eq hi] at hQ
  have hb0 := bt_lt s i 0
  obtain ⟨c, hc⟩ : ∃ c, s.getD i 0 = c := ⟨_, rfl⟩
  have hcb : c.toNat = bt s i 0 := by rw [← hc]; rfl
  have hcb' : (c.toNat : Int) = (bt s i 0 : Nat) := by rw [hcb]
  have hw0 : IntKind.wrap .i64 ((bt s i 0 : Nat) : Int) = (bt s i 0 : Nat) := wrap_nat (by omega)
  generalize hB : (fun k => bt s i k) = b at *
  have b0e : bt s i 0 = b 0 := by rw [← hB]
  have bk : ∀ k, bt s i k = b k := fun k => by rw [← hB]
  have hbl : ∀ k, b k < 256 := fun k => by rw [← bk]; exact bt_lt s i k
  simp only [bk] at hQ hb0 hcb hcb' hw0
  by_cases a : (b 0 : Int) < 128
  · simp (disch := first | omega | assumption) only [ir115, h0, hlt, hge, hc, hcb', hw0, a, steps, st2, pev, rev, oev, optr, ibin, sbin, ishf, bound, mmAll, mm2, mk, mkArgs, AV.cells, AV.boxable, AV.one, AV.strip1, fillA, fillS, Nat.reduceEqDiff, reduceCtorEq, ↓reduceIte, Nat.reduceAdd, Int.reduceNeg, Nat.reduceLeDiff, Int.reduceToNat, Int.reduceEq, Int.reduceLT, Int.reduceLE, Int.reduceAdd]
    have e : Lib.decodeN (s.length - i) (b 0) (b 1) (b 2) (b 3) = (b 0, 1) := by unfold Lib.decodeN; rw [if_pos (by omega)]
    rw [e, if_neg (by simp; omega)] at hQ
    exact hQ _ _ _ _ nofun rfl (by simp [tupOf, envOf, AV.strip, AV.strip1])
  simp (disch := first | omega | assumption) only [ir115, h0, hlt, hge, hc, hcb', hw0, a, steps, st2, pev, rev, oev, optr, ibin, sbin, ishf, bound, mmAll, mm2, mk, mkArgs, AV.cells, AV.boxable, AV.one, AV.strip1, fillA, fillS, Nat.reduceEqDiff, reduceCtorEq, ↓reduceIte, Nat.reduceAdd, Int.reduceNeg, Nat.reduceLeDiff, Int.reduceToNat, Int.reduceEq, Int.reduceLT, Int.reduceLE, Int.reduceAdd]
  refine goU_cut (fun x : Nat × Nat × Nat => [(6, .int .i64 x.2.2), (7, .int .i64 x.1), (8, .int .i64 x.2.1)]) (fun x H => Lead (b 0) x.1 x.2.1 x.2.2 ∧ H = Heap.emp) (fun J hJ => ?_) ?_
  · simp (disch := first | omega | assumption) only [steps, st2, pev, rev, oev, optr, ibin, sbin, ishf, bound, mmAll, mm2, mk, mkArgs, AV.cells, AV.boxable, AV.one, AV.strip1, fillA, fillS, Nat.reduceEqDiff, reduceCtorEq, ↓reduceIte, Nat.reduceAdd, Int.reduceNeg, Nat.reduceLeDiff, Int.reduceToNat, Int.reduceEq, Int.reduceLT, Int.reduceLE, Int.reduceAdd]
    by_cases a1 : (194 : Int) ≤ b 0
    · by_cases a2 : (b 0 : Int) < 224
      · have e := and31 (n := b 0) (by omega)
        simp (disch := first | omega | assumption) only [a1, a2, e, steps, st2, pev, rev, oev, optr, ibin, sbin, ishf, bound, mmAll, mm2, mk, mkArgs, AV.cells, AV.boxable, AV.one, AV.strip1, fillA, fillS, Nat.reduceEqDiff, reduceCtorEq, ↓reduceIte, Nat.reduceAdd, Int.reduceNeg, Nat.reduceLeDiff, Int.reduceToNat, Int.reduceEq, Int.reduceLT, Int.reduceLE, Int.reduceAdd]
        exact goJ (hJ (2, 128, b 0 % 32) _ ⟨.inl ⟨by omega, by omega, rfl, rfl, rfl⟩, rfl⟩) (by simp (disch := first | omega | assumption) only [steps, st2, pev, rev, oev, optr, ibin, sbin, ishf, bound, mmAll, mm2, mk, mkArgs, AV.cells, AV.boxable, AV.one, AV.strip1, fillA, fillS, Nat.reduceEqDiff, reduceCtorEq, ↓reduceIte, Nat.reduceAdd, Int.reduceNeg, Nat.reduceLeDiff, Int.reduceToNat, Int.reduceEq, Int.reduceLT, Int.reduceLE, Int.reduceAdd])
      · by_cases a3 : (b 0 : Int) < 240
        · have a4 : (224 : Int) ≤ b 0 := by omega
          have e := and15 (n := b 0) (by omega)
          simp (disch := first | omega | assumption) only [a1, a2, a3, a4, e, steps, st2, pev, rev, oev, optr, ibin, sbin, ishf, bound, mmAll, mm2, mk, mkArgs, AV.cells, AV.boxable, AV.one, AV.strip1, fillA, fillS, Nat.reduceEqDiff, reduceCtorEq, ↓reduceIte, Nat.reduceAdd, Int.reduceNeg, Nat.reduceLeDiff, Int.reduceToNat, Int.reduceEq, Int.reduceLT, Int.reduceLE, Int.reduceAdd]
          exact goJ (hJ (3, 2048, b 0 % 16) _ ⟨.inr (.inl ⟨by omega, by omega, rfl, rfl, rfl⟩), rfl⟩) (by simp (disch := first | omega | assumption) only [steps, st2, pev, rev, oev, optr, ibin, sbin, ishf, bound, mmAll, mm2, mk, mkArgs, AV.cells, AV.boxable, AV.one, AV.strip1, fillA, fillS, Nat.reduceEqDiff, reduceCtorEq, ↓reduceIte, Nat.reduceAdd, Int.reduceNeg, Nat.reduceLeDiff, Int.reduceToNat, Int.reduceEq, Int.reduceLT, Int.reduceLE, Int.reduceAdd])
        · have a4 : (224 : Int) ≤ b 0 := by omega
          have a5 : (240 : Int) ≤ b 0 := by omega
          by_cases a6 : (b 0 : Int) < 245
          · have e := and7 (n := b 0) (by omega)
            simp (disch := first | omega | assumption) only [a1, a2, a3, a4, a5, a6, e, steps, st2, pev, rev, oev, optr, ibin, sbin, ishf, bound, mmAll, mm2, mk, mkArgs, AV.cells, AV.boxable, AV.one, AV.strip1, fillA, fillS, Nat.reduceEqDiff, reduceCtorEq, ↓reduceIte, Nat.reduceAdd, Int.reduceNeg, Nat.reduceLeDiff, Int.reduceToNat, Int.reduceEq, Int.reduceLT, Int.reduceLE, Int.reduceAdd]
            exact goJ (hJ (4, 65536, b 0 % 8) _ ⟨.inr (.inr ⟨by omega, by omega, rfl, rfl, rfl⟩), rfl⟩) (by simp (disch := first | omega | assumption) only [steps, st2, pev, rev, oev, optr, ibin, sbin, ishf, bound, mmAll, mm2, mk, mkArgs, AV.cells, AV.boxable, AV.one, AV.strip1, fillA, fillS, Nat.reduceEqDiff, reduceCtorEq, ↓reduceIte, Nat.reduceAdd, Int.reduceNeg, Nat.reduceLeDiff, Int.reduceToNat, Int.reduceEq, Int.reduceLT, Int.reduceLE, Int.reduceAdd])
          · rw [Lib.decodeN_bad _ _ _ _ _ (.inr ⟨by omega, hbl 0⟩), if_pos rfl] at hQ
            simp (disch := first | omega | assumption) only [a1, a2, a3, a4, a5, a6, steps, st2, pev, rev, oev, optr, ibin, sbin, ishf, bound, mmAll, mm2, mk, mkArgs, AV.cells, AV.boxable, AV.one, AV.strip1, fillA, fillS, Nat.reduceEqDiff, reduceCtorEq, ↓reduceIte, Nat.reduceAdd, Int.reduceNeg, Nat.reduceLeDiff, Int.reduceToNat, Int.reduceEq, Int.reduceLT, Int.reduceLE, Int.reduceAdd]
            exact hQ _ _ _ _ nofun rfl (by simp [tupOf, envOf, AV.strip, AV.strip1])
    · have a2 : ¬ (224 : Int) ≤ b 0 := by omega
      have a3 : ¬ (240 : Int) ≤ b 0 := by omega
      rw [Lib.decodeN_bad _ _ _ _ _ (.inl ⟨by omega, by omega⟩), if_pos rfl] at hQ
      simp (disch := first | omega | assumption) only [a1, a2, a3, steps, st2, pev, rev, oev, optr, ibin, sbin, ishf, bound, mmAll, mm2, mk, mkArgs, AV.cells, AV.boxable, AV.one, AV.strip1, fillA, fillS, Nat.reduceEqDiff, reduceCtorEq, ↓reduceIte, Nat.reduceAdd, Int.reduceNeg, Nat.reduceLeDiff, Int.reduceToNat, Int.reduceEq, Int.reduceLT, Int.reduceLE, Int.reduceAdd]
      exact hQ _ _ _ _ nofun rfl (by simp [tupOf, envOf, AV.strip, AV.strip1])
  rintro ⟨w, lo, v⟩ H ⟨hL, rfl⟩
  simp only at hL
  have hv : v < 32 ∧ 2 ≤ w ∧ w ≤ 4 ∧ lo ≤ 65536 := by rcases hL with h | h | h <;> omega
  by_cases g : w ≤ s.length - i
  case neg =>
    have g' : (s.length : Int) - i < w := by omega
    rw [dec_short hL (by omega), if_pos rfl] at hQ
    simp (disch := first | omega | assumption) only [wrap64, g', steps, st2, pev, rev, oev, optr, ibin, sbin, ishf, bound, mmAll, mm2, mk, mkArgs, AV.cells, AV.boxable, AV.one, AV.strip1, fillA, fillS, Nat.reduceEqDiff, reduceCtorEq, ↓reduceIte, Nat.reduceAdd, Int.reduceNeg, Nat.reduceLeDiff, Int.reduceToNat, Int.reduceEq, Int.reduceLT, Int.reduceLE, Int.reduceAdd]
    exact hQ _ _ _ _ nofun rfl (by simp [tupOf, envOf, AV.strip, AV.strip1])
  have g' : ¬ (s.length : Int) - i < w := by omega
  simp (disch := first | omega | assumption) only [wrap64, g', steps, st2, pev, rev, oev, optr, ibin, sbin, ishf, bound, mmAll, mm2, mk, mkArgs, AV.cells, AV.boxable, AV.one, AV.strip1, fillA, fillS, Nat.reduceEqDiff, reduceCtorEq, ↓reduceIte, Nat.reduceAdd, Int.reduceNeg, Nat.reduceLeDiff, Int.reduceToNat, Int.reduceEq, Int.reduceLT, Int.reduceLE, Int.reduceAdd]
  refine goL_st (fun j : Nat => [(6, .int .i64 (cv v b j)), (9, .int .i64 (j + 1 : Nat))]) (fun j H => j + 1 ≤ w ∧ (∀ k, 1 ≤ k → k < j + 1 → 128 ≤ b k ∧ b k ≤ 191) ∧ cv v b j < 32 * 64 ^ j) (fun j => w - j) 0 (by simp (disch := first | omega | assumption) only [cv, steps, st2, pev, rev, oev, optr, ibin, sbin, ishf, bound, mmAll, mm2, mk, mkArgs, AV.cells, AV.boxable, AV.one, AV.strip1, fillA, fillS, Nat.reduceEqDiff, reduceCtorEq, ↓reduceIte, Nat.reduceAdd, Int.reduceNeg, Nat.reduceLeDiff, Int.reduceToNat, Int.reduceEq, Int.reduceLT, Int.reduceLE, Int.reduceAdd]) ⟨by omega, fun k h1 h2 => by omega, by simp [cv]; omega⟩ ?_
  rintro j H J ⟨hj, hcont, hcv⟩ hJ
  have hcv2 : cv v b j < 8388608 := by
    have : j = 0 ∨ j = 1 ∨ j = 2 ∨ j = 3 := by omega
    rcases this with rfl | rfl | rfl | rfl <;> omega
  by_cases hjw : j + 1 < w
  · have hjw' : ((j + 1 : Nat) : Int) < w := by omega
    have hto : ((i : Int) + ((j + 1 : Nat) : Int)).toNat = i + (j + 1) := by omega
    have hi1 : (0 : Int) ≤ (i : Int) + ((j + 1 : Nat) : Int) := by omega
    have hi2 : (i : Int) + ((j + 1 : Nat) : Int) < s.length := by omega
    obtain ⟨d, hd⟩ : ∃ d, s.getD (i + (j + 1)) 0 = d := ⟨_, rfl⟩
    have hdb : (d.toNat : Int) = (b (j + 1) : Nat) := by rw [← hd, ← bk]
    have hb1 := hbl (j + 1)
    have hw1 : IntKind.wrap .i64 ((b (j + 1) : Nat) : Int) = (b (j + 1) : Nat) := wrap_nat (by omega)
    simp (disch := first | omega | assumption) only [hjw', wrap64, hto, hi1, hi2, hd, hdb, hw1, steps, st2, pev, rev, oev, optr, ibin, sbin, ishf, bound, mmAll, mm2, mk, mkArgs, AV.cells, AV.boxable, AV.one, AV.strip1, fillA, fillS, Nat.reduceEqDiff, reduceCtorEq, ↓reduceIte, Nat.reduceAdd, Int.reduceNeg, Nat.reduceLeDiff, Int.reduceToNat, Int.reduceEq, Int.reduceLT, Int.reduceLE, Int.reduceAdd]
    by_cases a1 : ((b (j + 1) : Nat) : Int) < 128
    · rw [dec_cont hL (by omega) hjw (.inl (by omega)), if_pos rfl] at hQ
      simp (disch := first | omega | assumption) only [a1, steps, st2, pev, rev, oev, optr, ibin, sbin, ishf, bound, mmAll, mm2, mk, mkArgs, AV.cells, AV.boxable, AV.one, AV.strip1, fillA, fillS, Nat.reduceEqDiff, reduceCtorEq, ↓reduceIte, Nat.reduceAdd, Int.reduceNeg, Nat.reduceLeDiff, Int.reduceToNat, Int.reduceEq, Int.reduceLT, Int.reduceLE, Int.reduceAdd]
      exact hQ _ _ _ _ nofun rfl (by simp [tupOf, envOf, AV.strip, AV.strip1])
    by_cases a2 : (191 : Int) < ((b (j + 1) : Nat) : Int)
    · rw [dec_cont hL (by omega) hjw (.inr (by omega)), if_pos rfl] at hQ
      simp (disch := first | omega | assumption) only [a1, a2, steps, st2, pev, rev, oev, optr, ibin, sbin, ishf, bound, mmAll, mm2, mk, mkArgs, AV.cells, AV.boxable, AV.one, AV.strip1, fillA, fillS, Nat.reduceEqDiff, reduceCtorEq, ↓reduceIte, Nat.reduceAdd, Int.reduceNeg, Nat.reduceLeDiff, Int.reduceToNat, Int.reduceEq, Int.reduceLT, Int.reduceLE, Int.reduceAdd]
      exact hQ _ _ _ _ nofun rfl (by simp [tupOf, envOf, AV.strip, AV.strip1])
    have e1 := and63 (n := b (j + 1)) (by omega)
    have e2 : IntKind.wrap .i64 ((cv v b j : Int) * 2 ^ (min 6 IntKind.i64.bits)) = ((cv v b j * 64 : Nat) : Int) := by
      have e3 : (2 : Int) ^ (min 6 IntKind.i64.bits) = 64 := by decide
      rw [e3, wrap64 (by omega) (by omega)]; omega
    have e4 := or64 (a := cv v b j) (b := b (j + 1) % 64) (by omega) (Nat.mod_lt _ (by omega))
    simp (disch := first | omega | assumption) only [a1, a2, e1, e2, e4, steps, st2, pev, rev, oev, optr, ibin, sbin, ishf, bound, mmAll, mm2, mk, mkArgs, AV.cells, AV.boxable, AV.one, AV.strip1, fillA, fillS, Nat.reduceEqDiff, reduceCtorEq, ↓reduceIte, Nat.reduceAdd, Int.reduceNeg, Nat.reduceLeDiff, Int.reduceToNat, Int.reduceEq, Int.reduceLT, Int.reduceLE, Int.reduceAdd]
    have hpow : 32 * 64 ^ (j + 1) = 64 * (32 * 64 ^ j) := by rw [Nat.pow_succ]; omega
    exact goJ (hJ (j + 1) _ (by omega) ⟨by omega, fun k h1 h2 => by
      rcases Nat.lt_or_ge k (j + 1) with h3 | h3
      · exact hcont k h1 h3
      · have : k = j + 1 := by omega
        subst this
        omega, by simp only [cv]; omega⟩) (by simp (disch := first | omega | assumption) only [wrap64, cv, Int.natCast_add, Int.natCast_one, steps, st2, pev, rev, oev, optr, ibin, sbin, ishf, bound, mmAll, mm2, mk, mkArgs, AV.cells, AV.boxable, AV.one, AV.strip1, fillA, fillS, Nat.reduceEqDiff, reduceCtorEq, ↓reduceIte, Nat.reduceAdd, Int.reduceNeg, Nat.reduceLeDiff, Int.reduceToNat, Int.reduceEq, Int.reduceLT, Int.reduceLE, Int.reduceAdd])
  · have hjw' : ¬ ((j + 1 : Nat) : Int) < w := by omega
    have hjw2 : j = w - 1 := by omega
    subst hjw2
    rw [dec_full hL g (fun k h1 h2 => hcont k h1 (by omega))] at hQ
    have hcvB : (IntKind.wrap .i64 ((cv v b (w - 1) : Nat) : Int)) = (cv v b (w - 1) : Nat) := wrap_nat (by omega)
    by_cases x1 : ((cv v b (w - 1) : Nat) : Int) < lo
    · rw [if_pos (.inl (by omega))] at hQ
      simp (disch := first | omega | assumption) only [hjw', x1, steps, st2, pev, rev, oev, optr, ibin, sbin, ishf, bound, mmAll, mm2, mk, mkArgs, AV.cells, AV.boxable, AV.one, AV.strip1, fillA, fillS, Nat.reduceEqDiff, reduceCtorEq, ↓reduceIte, Nat.reduceAdd, Int.reduceNeg, Nat.reduceLeDiff, Int.reduceToNat, Int.reduceEq, Int.reduceLT, Int.reduceLE, Int.reduceAdd]
      exact hQ _ _ _ _ nofun rfl (by simp [tupOf, envOf, AV.strip, AV.strip1])
    by_cases x2 : (1114111 : Int) < ((cv v b (w - 1) : Nat) : Int)
    · rw [if_pos (.inr (.inl (by omega)))] at hQ
      simp (disch := first | omega | assumption) only [hjw', x1, x2, steps, st2, pev, rev, oev, optr, ibin, sbin, ishf, bound, mmAll, mm2, mk, mkArgs, AV.cells, AV.boxable, AV.one, AV.strip1, fillA, fillS, Nat.reduceEqDiff, reduceCtorEq, ↓reduceIte, Nat.reduceAdd, Int.reduceNeg, Nat.reduceLeDiff, Int.reduceToNat, Int.reduceEq, Int.reduceLT, Int.reduceLE, Int.reduceAdd]
      exact hQ _ _ _ _ nofun rfl (by simp [tupOf, envOf, AV.strip, AV.strip1])
    by_cases x3 : (55296 : Int) ≤ ((cv v b (w - 1) : Nat) : Int)
    · by_cases x4 : ((cv v b (w - 1) : Nat) : Int) < 57344
      · rw [if_pos (.inr (.inr ⟨by omega, by omega⟩))] at hQ
        simp (disch := first | omega | assumption) only [hjw', x1, x2, x3, x4, steps, st2, pev, rev, oev, optr, ibin, sbin, ishf, bound, mmAll, mm2, mk, mkArgs, AV.cells, AV.boxable, AV.one, AV.strip1, fillA, fillS, Nat.reduceEqDiff, reduceCtorEq, ↓reduceIte, Nat.reduceAdd, Int.reduceNeg, Nat.reduceLeDiff, Int.reduceToNat, Int.reduceEq, Int.reduceLT, Int.reduceLE, Int.reduceAdd]
        exact hQ _ _ _ _ nofun rfl (by simp [tupOf, envOf, AV.strip, AV.strip1])
      · rw [if_neg (by omega)] at hQ
        simp (disch := first | omega | assumption) only [hjw', x1, x2, x3, x4, steps, st2, pev, rev, oev, optr, ibin, sbin, ishf, bound, mmAll, mm2, mk, mkArgs, AV.cells, AV.boxable, AV.one, AV.strip1, fillA, fillS, Nat.reduceEqDiff, reduceCtorEq, ↓reduceIte, Nat.reduceAdd, Int.reduceNeg, Nat.reduceLeDiff, Int.reduceToNat, Int.reduceEq, Int.reduceLT, Int.reduceLE, Int.reduceAdd]
        exact hQ _ _ _ _ nofun rfl (by simp [tupOf, envOf, AV.strip, AV.strip1])
    · rw [if_neg (by omega)] at hQ
      simp (disch := first | omega | assumption) only [hjw', x1, x2, x3, steps, st2, pev, rev, oev, optr, ibin, sbin, ishf, bound, mmAll, mm2, mk, mkArgs, AV.cells, AV.boxable, AV.one, AV.strip1, fillA, fillS, Nat.reduceEqDiff, reduceCtorEq, ↓reduceIte, Nat.reduceAdd, Int.reduceNeg, Nat.reduceLeDiff, Int.reduceToNat, Int.reduceEq, Int.reduceLT, Int.reduceLE, Int.reduceAdd]
      exact hQ _ _ _ _ nofun rfl (by simp [tupOf, envOf, AV.strip, AV.strip1])
end Go.Proofs.YtpjafglhdlfnbaaGreatDoor
namespace Go.Proofs.YtpjafglhdlfnbaaGreatDoor
open Go.Ab
def cZ (l : List Int) : List (List AV) := l.map fun n => [.int .i64 n]
theorem cZ_len (l : List Int) : (cZ l).length = l.length := by simp [cZ]
def codesG : Nat → List UInt8 → List Int
  | 0, _ => []
  | k + 1, l => if l = [] then [] else ((codeN l).1 : Int) :: codesG k (l.drop (codeN l).2)
theorem codesG_nil (k : Nat) : codesG k [] = [] := by cases k <;> simp [codesG]
def codesM (s : List UInt8) : List Int := if Lib.validD s then codesG s.length s else []
theorem codeN_bad {l : List UInt8} (hne : l ≠ []) (h : (codeN l).2 = 0) : Lib.validD l = false := by
  have hw := Lib.decodeL_width l
  unfold codeN at h
  rw [if_neg hne] at h
  split at h
  · rename_i e
    rw [Lib.validD_step l hne, e]; simp
  · omega
theorem codeN_good {l : List UInt8} (hne : l ≠ []) (h : (codeN l).2 ≠ 0) : Lib.validD l = Lib.validD (l.drop (codeN l).2) ∧ (codeN l).2 ≤ l.length := by
  unfold codeN at h ⊢
  rw [if_neg hne] at h ⊢
  split at h
  · simp at h
  · rename_i e
    rw [if_neg e]
    refine ⟨?_, Lib.decodeL_le l hne⟩
    rw [Lib.validD_step l hne, if_neg]
    rintro ⟨a, b⟩
    exact e (Prod.ext a b)
theorem CodesR (s : List UInt8) (hs : s.length ≤ Lim) : Pure Tryz.prog 69 [.str s] (.tup [.sl .no 1 (cZ (codesM s)), .bool (Lib.validD s)]) := by
  refine Pure.go ir69 ck69 (Nat.le_refl _) fun KP Q hQ => ?_
  have hs' := hs
  simp only [Lim] at hs
  simp (disch := first | omega | assumption) only [ir69, go_sem, ↓reduceIte]
  refine goL_st (fun x : Own × List Int × Nat => [(4, .sl x.1 1 (cZ x.2.1)), (5, .int .i64 x.2.2)])
    (fun x H => x.2.2 ≤ s.length ∧ x.2.1.length ≤ x.2.2 ∧ codesG s.length s = x.2.1 ++ codesG (s.length - x.2.1.length) (s.drop x.2.2) ∧ Lib.validD s = Lib.validD (s.drop x.2.2) ∧ OwnS Heap.emp .nil H x.1 x.2.1.length 1) (fun x => s.length - x.2.2) (.nil, [], 0) (by simp (disch := first | omega | assumption) only [cZ, go_sem, ↓reduceIte]) ⟨by simp, by simp, by simp, by simp, OwnS.refl rfl⟩ ?_
  rintro ⟨o, acc, i⟩ H J ⟨hi, hai, hc, hv, hs1⟩ hJ
  simp only at hi hai hc hv hs1
  by_cases hlt : i < s.length
  case neg =>
    have hlt' : ¬ (i : Int) < s.length := by omega
    rw [List.drop_of_length_le (by omega)] at hc hv
    rw [codesG_nil, List.append_nil] at hc
    rw [Lib.validD_nil] at hv
    simp (disch := first | omega | assumption) only [hlt', go_sem, ↓reduceIte]
    exact hQ _ _ _ _ nofun rfl (by simp [tupOf, envOf, AV.strip, AV.strip1, codesM, hv, hc])
  have hlt' : (i : Int) < s.length := by omega
  have hne : s.drop i ≠ [] := fun e => by have := congrArg List.length e; simp at this; omega
  have hcl := cZ_len acc
  simp (disch := first | omega | assumption) only [hlt', go_sem, ↓reduceIte]
  refine goK_pure (Pure.low (CodeR s i hlt hs')) ?_
  by_cases h0 : (codeN (s.drop i)).2 = 0
  · rw [codeN_bad hne h0] at hv
    have h0' : ((codeN (s.drop i)).2 : Int) = 0 := by omega
    simp (disch := first | omega | assumption) only [h0', go_sem, ↓reduceIte]
    exact hQ _ _ _ _ nofun rfl (by simp [tupOf, envOf, AV.strip, AV.strip1, codesM, hv, cZ])
  · obtain ⟨g1, g2⟩ := codeN_good hne h0
    rw [List.length_drop] at g2
    rw [List.drop_drop] at g1
    have h0' : ¬ ((codeN (s.drop i)).2 : Int) = 0 := by omega
    simp (disch := first | omega | assumption) only [h0', go_sem, ↓reduceIte]
    refine goP_ownS (by rw [hcl]; exact hs1.own) ?_ ?_ fun o' H' hs2 => ?_
    · simp only [hcl, List.length_cons, List.length_nil]; omega
    · simp only [hcl, List.length_cons, List.length_nil, maxLen]; omega
    simp (disch := first | omega | assumption) only [wrap64, go_sem, ↓reduceIte]
    refine goJ (hJ (o', acc ++ [((codeN (s.drop i)).1 : Int)], i + (codeN (s.drop i)).2) H' (by simp only; omega) ⟨by simp only; omega, by simp only [List.length_append, List.length_cons, List.length_nil]; omega, ?_, by rw [hv, g1], hs1.trans (by simpa [hcl] using hs2)⟩) (by simp (disch := first | omega | assumption) only [cZ, List.map_append, Int.natCast_add, go_sem, ↓reduceIte])
    rw [hc]
    obtain ⟨k, hk⟩ : ∃ k, s.length - acc.length = k + 1 := ⟨s.length - acc.length - 1, by omega⟩
    have hk2 : s.length - (acc ++ [((codeN (s.drop i)).1 : Int)]).length = k := by simp only [List.length_append, List.length_cons, List.length_nil]; omega
    simp only [hk, hk2, codesG]
    rw [if_neg hne, List.drop_drop]
    simp
theorem GoodR (s : List UInt8) (hs : s.length ≤ Lim) : Pure Tryz.prog 36 [.str s] (.bool (Lib.validD s)) := by
  refine Pure.go ir36 ck36 (Nat.le_refl _) fun KP Q hQ => ?_
  simp (disch := first | omega | assumption) only [ir36, go_sem, ↓reduceIte]
  refine goK_pure (CodesR s hs) ?_
  simp (disch := first | omega | assumption) only [go_sem, ↓reduceIte]
  exact hQ _ _ _ _ nofun rfl (by simp [tupOf, envOf, AV.strip, AV.strip1])
end Go.Proofs.YtpjafglhdlfnbaaGreatDoor
namespace Go.Proofs.YtpjafglhdlfnbaaGreatDoor
open Go.Ab Go.Lib
theorem shr6 (n : Nat) : (n : Int).fdiv (2 ^ min 6 IntKind.i64.bits) = ((n / 64 : Nat) : Int) := by
  show (n : Int).fdiv 64 = _
  rw [Int.fdiv_eq_ediv_of_nonneg _ (by omega)]; omega
theorem shr12 (n : Nat) : (n : Int).fdiv (2 ^ min 12 IntKind.i64.bits) = ((n / 4096 : Nat) : Int) := by
  show (n : Int).fdiv 4096 = _
  rw [Int.fdiv_eq_ediv_of_nonneg _ (by omega)]; omega
theorem shr18 (n : Nat) : (n : Int).fdiv (2 ^ min 18 IntKind.i64.bits) = ((n / 262144 : Nat) : Int) := by
  show (n : Int).fdiv 262144 = _
  rw [Int.fdiv_eq_ediv_of_nonneg _ (by omega)]; omega
theorem orT : ∀ x : Fin 64, (∀ (b : Nat), b = 128 ∨ (b = 192 ∧ x.val < 32) ∨ (b = 224 ∧ x.val < 16) ∨ (b = 240 ∧ x.val < 8) → IntKind.wrap .u8 (IntKind.wrap .i64 ((BitVec.ofInt IntKind.i64.bits (b : Int) ||| BitVec.ofInt IntKind.i64.bits ((x.val : Nat) : Int)).toNat : Int)) = ((UInt8.ofNat (b + x.val)).toNat : Int)) := by
  intro x b hb
  have h1 : ∀ x : Fin 64, IntKind.wrap .u8 (IntKind.wrap .i64 ((BitVec.ofInt IntKind.i64.bits 128 ||| BitVec.ofInt IntKind.i64.bits ((x.val : Nat) : Int)).toNat : Int)) = ((UInt8.ofNat (128 + x.val)).toNat : Int) := by decide +kernel
  have h2 : ∀ x : Fin 32, IntKind.wrap .u8 (IntKind.wrap .i64 ((BitVec.ofInt IntKind.i64.bits 192 ||| BitVec.ofInt IntKind.i64.bits ((x.val : Nat) : Int)).toNat : Int)) = ((UInt8.ofNat (192 + x.val)).toNat : Int) := by decide +kernel
  have h3 : ∀ x : Fin 16, IntKind.wrap .u8 (IntKind.wrap .i64 ((BitVec.ofInt IntKind.i64.bits 224 ||| BitVec.ofInt IntKind.i64.bits ((x.val : Nat) : Int)).toNat : Int)) = ((UInt8.ofNat (224 + x.val)).toNat : Int) := by decide +kernel
  have h4 : ∀ x : Fin 8, IntKind.wrap .u8 (IntKind.wrap .i64 ((BitVec.ofInt IntKind.i64.bits 240 ||| BitVec.ofInt IntKind.i64.bits ((x.val : Nat) : Int)).toNat : Int)) = ((UInt8.ofNat (240 + x.val)).toNat : Int) := by decide +kernel
  rcases hb with rfl | ⟨rfl, h⟩ | ⟨rfl, h⟩ | ⟨rfl, h⟩
  · exact h1 x
  · exact h2 ⟨x.val, h⟩
  · exact h3 ⟨x.val, h⟩
  · exact h4 ⟨x.val, h⟩
theorem or128 {m : Nat} (h : m < 64) : IntKind.wrap .u8 (IntKind.wrap .i64 ((BitVec.ofInt IntKind.i64.bits 128 ||| BitVec.ofInt IntKind.i64.bits (m : Int)).toNat : Int)) = ((UInt8.ofNat (128 + m)).toNat : Int) := orT ⟨m, h⟩ 128 (.inl rfl)
theorem or192 {m : Nat} (h : m < 32) : IntKind.wrap .u8 (IntKind.wrap .i64 ((BitVec.ofInt IntKind.i64.bits 192 ||| BitVec.ofInt IntKind.i64.bits (m : Int)).toNat : Int)) = ((UInt8.ofNat (192 + m)).toNat : Int) := orT ⟨m, by omega⟩ 192 (.inr (.inl ⟨rfl, h⟩))
theorem or224 {m : Nat} (h : m < 16) : IntKind.wrap .u8 (IntKind.wrap .i64 ((BitVec.ofInt IntKind.i64.bits 224 ||| BitVec.ofInt IntKind.i64.bits (m : Int)).toNat : Int)) = ((UInt8.ofNat (224 + m)).toNat : Int) := orT ⟨m, by omega⟩ 224 (.inr (.inr (.inl ⟨rfl, h⟩)))
theorem or240 {m : Nat} (h : m < 8) : IntKind.wrap .u8 (IntKind.wrap .i64 ((BitVec.ofInt IntKind.i64.bits 240 ||| BitVec.ofInt IntKind.i64.bits (m : Int)).toNat : Int)) = ((UInt8.ofNat (240 + m)).toNat : Int) := orT ⟨m, by omega⟩ 240 (.inr (.inr (.inr ⟨rfl, h⟩)))
theorem PutR (n : Nat) (h : n ≤ 1114111) : Pure Tryz.prog 149 [.int .i64 n] (.str (encM n)) := by
  refine Pure.go ir149 ck149 (Nat.le_refl _) fun KP Q hQ => ?_
  by_cases h1 : n < 128
  · have h1' : ((n : Int) < 128) = True := eq_true (by omega)
    have e : IntKind.wrap .u8 (n : Int) = ((UInt8.ofNat n).toNat : Int) := by rw [wr8, UInt8.toNat_ofNat']
    have e2 : byts [[.int .u8 (UInt8.ofNat n).toNat]] = some [UInt8.ofNat n] := byts_of [_]
    simp (disch := first | omega | assumption) only [ir149, h1', e, e2, steps, st2, pev, rev, oev, optr, ibin, sbin, ishf, bound, mmAll, mm2, mk, mkArgs, AV.cells, AV.boxable, AV.one, AV.strip1, fillA, fillS, Nat.reduceEqDiff, reduceCtorEq, ↓reduceIte, Nat.reduceAdd, Int.reduceNeg, Nat.reduceLeDiff, Int.reduceToNat, Int.reduceEq, Int.reduceLT, Int.reduceLE, Int.reduceAdd]
    exact hQ _ _ _ _ nofun rfl (by simp [tupOf, envOf, AV.strip, AV.strip1, encM, show n ≤ 127 by omega])
  have h1' : ¬ ((n : Int) < 128) := by omega
  have a0 := and63 (n := n) (by omega)
  by_cases h2 : n < 2048
  · have h2' : ((n : Int) < 2048) = True := eq_true (by omega)
    have e2 : byts [[.int .u8 (UInt8.ofNat (192 + n / 64)).toNat], [.int .u8 (UInt8.ofNat (128 + n % 64)).toNat]] = some [UInt8.ofNat (192 + n / 64), UInt8.ofNat (128 + n % 64)] := byts_of [_, _]
    have o1 := or192 (m := n / 64) (by omega)
    have o2 := or128 (m := n % 64) (by omega)
    simp (disch := first | omega | assumption) only [ir149, h1', h2', shr6, a0, o1, o2, e2, steps, st2, pev, rev, oev, optr, ibin, sbin, ishf, bound, mmAll, mm2, mk, mkArgs, AV.cells, AV.boxable, AV.one, AV.strip1, fillA, fillS, Nat.reduceEqDiff, reduceCtorEq, ↓reduceIte, Nat.reduceAdd, Int.reduceNeg, Nat.reduceLeDiff, Int.reduceToNat, Int.reduceEq, Int.reduceLT, Int.reduceLE, Int.reduceAdd]
    exact hQ _ _ _ _ nofun rfl (by simp [tupOf, envOf, AV.strip, AV.strip1, encM, show ¬ n ≤ 127 by omega, show n ≤ 2047 by omega])
  have h2' : ¬ ((n : Int) < 2048) := by omega
  have a1 := and63 (n := n / 64) (by omega)
  have o2 := or128 (m := n % 64) (by omega)
  have o3 := or128 (m := n / 64 % 64) (by omega)
  by_cases h3 : n < 65536
  · have h3' : ((n : Int) < 65536) = True := eq_true (by omega)
    have e2 : byts [[.int .u8 (UInt8.ofNat (224 + n / 4096)).toNat], [.int .u8 (UInt8.ofNat (128 + n / 64 % 64)).toNat], [.int .u8 (UInt8.ofNat (128 + n % 64)).toNat]] = some [UInt8.ofNat (224 + n / 4096), UInt8.ofNat (128 + n / 64 % 64), UInt8.ofNat (128 + n % 64)] := byts_of [_, _, _]
    have o1 := or224 (m := n / 4096) (by omega)
    simp (disch := first | omega | assumption) only [ir149, h1', h2', h3', shr6, shr12, a0, a1, o1, o2, o3, e2, steps, st2, pev, rev, oev, optr, ibin, sbin, ishf, bound, mmAll, mm2, mk, mkArgs, AV.cells, AV.boxable, AV.one, AV.strip1, fillA, fillS, Nat.reduceEqDiff, reduceCtorEq, ↓reduceIte, Nat.reduceAdd, Int.reduceNeg, Nat.reduceLeDiff, Int.reduceToNat, Int.reduceEq, Int.reduceLT, Int.reduceLE, Int.reduceAdd]
    exact hQ _ _ _ _ nofun rfl (by simp [tupOf, envOf, AV.strip, AV.strip1, encM, show ¬ n ≤ 127 by omega, show ¬ n ≤ 2047 by omega, show n ≤ 65535 by omega])
  have h3' : ¬ ((n : Int) < 65536) := by omega
  have a2 := and63 (n := n / 4096) (by omega)
  have o4 := or128 (m := n / 4096 % 64) (by omega)
  have o1 := or240 (m := n / 262144) (by omega)
  have e2 : byts [[.int .u8 (UInt8.ofNat (240 + n / 262144)).toNat], [.int .u8 (UInt8.ofNat (128 + n / 4096 % 64)).toNat], [.int .u8 (UInt8.ofNat (128 + n / 64 % 64)).toNat], [.int .u8 (UInt8.ofNat (128 + n % 64)).toNat]] = some [UInt8.ofNat (240 + n / 262144), UInt8.ofNat (128 + n / 4096 % 64), UInt8.ofNat (128 + n / 64 % 64), UInt8.ofNat (128 + n % 64)] := byts_of [_, _, _, _]
  simp (disch := first | omega | assumption) only [ir149, h1', h2', h3', shr6, shr12, shr18, a0, a1, a2, o1, o2, o3, o4, e2, steps, st2, pev, rev, oev, optr, ibin, sbin, ishf, bound, mmAll, mm2, mk, mkArgs, AV.cells, AV.boxable, AV.one, AV.strip1, fillA, fillS, Nat.reduceEqDiff, reduceCtorEq, ↓reduceIte, Nat.reduceAdd, Int.reduceNeg, Nat.reduceLeDiff, Int.reduceToNat, Int.reduceEq, Int.reduceLT, Int.reduceLE, Int.reduceAdd]
  exact hQ _ _ _ _ nofun rfl (by simp [tupOf, envOf, AV.strip, AV.strip1, encM, show ¬ n ≤ 127 by omega, show ¬ n ≤ 2047 by omega, show ¬ n ≤ 65535 by omega])
theorem joinR (us : List Nat) (hl : us.length ≤ 68719476736) : Pure Tryz.prog 148 [.sl .no 1 (cU us)] (.tup [.str ((joinM us).getD []), .bool (joinM us).isSome]) := by
  refine Pure.go ir148 ck148 (Nat.le_refl _) fun KP Q hQ => ?_
  have hll := cU_len us
  simp (disch := first | omega | assumption) only [ir148, steps, st2, pev, rev, oev, optr, ibin, sbin, ishf, bound, mmAll, mm2, mk, mkArgs, AV.cells, AV.boxable, AV.one, AV.strip1, fillA, fillS, Nat.reduceEqDiff, reduceCtorEq, ↓reduceIte, Nat.reduceAdd, Int.reduceNeg, Nat.reduceLeDiff, Int.reduceToNat, Int.reduceEq, Int.reduceLT, Int.reduceLE, Int.reduceAdd]
  refine goL_st (fun s : List Nat × List Nat × List UInt8 => [(4, .str s.2.2), (5, .int .i64 s.1.length)]) (fun s H => us = s.1 ++ s.2.1 ∧ joinM us = (joinM s.2.1).map (s.2.2 ++ ·) ∧ s.2.2.length ≤ 2 * s.1.length * 2) (fun s => s.2.1.length) ([], us, []) (by simp (disch := first | omega | assumption) only [steps, st2, pev, rev, oev, optr, ibin, sbin, ishf, bound, mmAll, mm2, mk, mkArgs, AV.cells, AV.boxable, AV.one, AV.strip1, fillA, fillS, Nat.reduceEqDiff, reduceCtorEq, ↓reduceIte, Nat.reduceAdd, Int.reduceNeg, Nat.reduceLeDiff, Int.reduceToNat, Int.reduceEq, Int.reduceLT, Int.reduceLE, Int.reduceAdd]) ⟨rfl, by cases joinM us <;> rfl, by simp⟩ ?_
  rintro ⟨done, rest, out⟩ H J ⟨hd, hj, hle⟩ hJ
  simp only at hd hj hle
  have hdl : done.length + rest.length = us.length := by rw [hd]; simp
  cases rest with
  | nil =>
    simp only [List.append_nil] at hd
    have hlt : ¬ ((done.length : Int) < us.length) := by rw [hd]; omega
    simp (disch := first | omega | assumption) only [hll, hlt, steps, st2, pev, rev, oev, optr, ibin, sbin, ishf, bound, mmAll, mm2, mk, mkArgs, AV.cells, AV.boxable, AV.one, AV.strip1, fillA, fillS, Nat.reduceEqDiff, reduceCtorEq, ↓reduceIte, Nat.reduceAdd, Int.reduceNeg, Nat.reduceLeDiff, Int.reduceToNat, Int.reduceEq, Int.reduceLT, Int.reduceLE, Int.reduceAdd]
    simp only [joinM, Option.map_some, List.append_nil] at hj
    exact hQ _ _ _ _ nofun rfl (by simp [tupOf, envOf, AV.strip, AV.strip1, hj])
  | cons u r =>
    have hlt : ((done.length : Int) < us.length) := by simp at hdl; omega
    have hg : (cU us).getD done.length [] = [.int .i64 u] := by rw [hd]; simp [cU]
    have hu0 : ¬ ((u : Int) < 0) := by omega
    have hrl : r.length + 1 + done.length = us.length := by simp at hdl; omega
    have none_of : joinM (u :: r) = none → joinM us = none := fun e => by rw [hj, e]; rfl
    by_cases a1 : 65535 < u
    · have e := none_of (by rw [joinM.eq_def]; simp only; rw [if_pos (.inl a1)])
      have a1' : ((65535 : Int) < u) = True := eq_true (by omega)
      simp (disch := first | omega | assumption) only [hll, hlt, hg, hu0, a1', steps, st2, pev, rev, oev, optr, ibin, sbin, ishf, bound, mmAll, mm2, mk, mkArgs, AV.cells, AV.boxable, AV.one, AV.strip1, fillA, fillS, Nat.reduceEqDiff, reduceCtorEq, ↓reduceIte, Nat.reduceAdd, Int.reduceNeg, Nat.reduceLeDiff, Int.reduceToNat, Int.reduceEq, Int.reduceLT, Int.reduceLE, Int.reduceAdd]
      exact hQ _ _ _ _ nofun rfl (by simp [tupOf, envOf, AV.strip, AV.strip1, e])
    have a1' : ¬ ((65535 : Int) < u) := by omega
    by_cases a2 : 56320 ≤ u ∧ u ≤ 57343
    · have e := none_of (by rw [joinM.eq_def]; simp only; rw [if_pos (.inr a2)])
      have a2' : ((56320 : Int) ≤ u) = True := eq_true (by omega)
      have a3' : ((u : Int) < 57344) = True := eq_true (by omega)
      simp (disch := first | omega | assumption) only [hll, hlt, hg, hu0, a1', a2', a3', steps, st2, pev, rev, oev, optr, ibin, sbin, ishf, bound, mmAll, mm2, mk, mkArgs, AV.cells, AV.boxable, AV.one, AV.strip1, fillA, fillS, Nat.reduceEqDiff, reduceCtorEq, ↓reduceIte, Nat.reduceAdd, Int.reduceNeg, Nat.reduceLeDiff, Int.reduceToNat, Int.reduceEq, Int.reduceLT, Int.reduceLE, Int.reduceAdd]
      exact hQ _ _ _ _ nofun rfl (by simp [tupOf, envOf, AV.strip, AV.strip1, e])
    by_cases a3 : 55296 ≤ u ∧ u < 56320
    · have b1 : ¬ ((56320 : Int) ≤ u) := by omega
      have b2 : ((55296 : Int) ≤ u) = True := eq_true (by omega)
      have b3 : ((u : Int) < 56320) = True := eq_true (by omega)
      cases r with
      | nil =>
        have e := none_of (by rw [joinM.eq_def]; simp only; rw [if_neg (by omega), if_pos a3])
        have b4 : ((us.length : Int) ≤ (done.length : Int) + 1) = True := eq_true (by simp at hrl; omega)
        simp (disch := first | omega | assumption) only [hll, hlt, hg, hu0, a1', b1, b2, b3, wrap64, b4, steps, st2, pev, rev, oev, optr, ibin, sbin, ishf, bound, mmAll, mm2, mk, mkArgs, AV.cells, AV.boxable, AV.one, AV.strip1, fillA, fillS, Nat.reduceEqDiff, reduceCtorEq, ↓reduceIte, Nat.reduceAdd, Int.reduceNeg, Nat.reduceLeDiff, Int.reduceToNat, Int.reduceEq, Int.reduceLT, Int.reduceLE, Int.reduceAdd]
        exact hQ _ _ _ _ nofun rfl (by simp [tupOf, envOf, AV.strip, AV.strip1, e])
      | cons v r =>
        have b4 : ¬ ((us.length : Int) ≤ (done.length : Int) + 1) := by simp at hrl; omega
        have b5 : ((done.length : Int) + 1 < us.length) := by simp at hrl; omega
        have b6 : ((done.length : Int) + 1).toNat = done.length + 1 := by omega
        have hg2 : (cU us).getD (done.length + 1) [] = [.int .i64 v] := by rw [hd]; simp [cU]
        by_cases c1 : v < 56320
        · have e := none_of (by rw [joinM.eq_def]; simp only; rw [if_neg (by omega), if_pos a3, if_pos (.inl c1)])
          have c1' : ((v : Int) < 56320) = True := eq_true (by omega)
          simp (disch := first | omega | assumption) only [hll, hlt, hg, hu0, a1', b1, b2, b3, wrap64, b4, b5, b6, hg2, c1', steps, st2, pev, rev, oev, optr, ibin, sbin, ishf, bound, mmAll, mm2, mk, mkArgs, AV.cells, AV.boxable, AV.one, AV.strip1, fillA, fillS, Nat.reduceEqDiff, reduceCtorEq, ↓reduceIte, Nat.reduceAdd, Int.reduceNeg, Nat.reduceLeDiff, Int.reduceToNat, Int.reduceEq, Int.reduceLT, Int.reduceLE, Int.reduceAdd]
          exact hQ _ _ _ _ nofun rfl (by simp [tupOf, envOf, AV.strip, AV.strip1, e])
        have c1' : ¬ ((v : Int) < 56320) := by omega
        by_cases c2 : 57343 < v
        · have e := none_of (by rw [joinM.eq_def]; simp only; rw [if_neg (by omega), if_pos a3, if_pos (.inr c2)])
          have c2' : ((57344 : Int) ≤ v) = True := eq_true (by omega)
          simp (disch := first | omega | assumption) only [hll, hlt, hg, hu0, a1', b1, b2, b3, wrap64, b4, b5, b6, hg2, c1', c2', steps, st2, pev, rev, oev, optr, ibin, sbin, ishf, bound, mmAll, mm2, mk, mkArgs, AV.cells, AV.boxable, AV.one, AV.strip1, fillA, fillS, Nat.reduceEqDiff, reduceCtorEq, ↓reduceIte, Nat.reduceAdd, Int.reduceNeg, Nat.reduceLeDiff, Int.reduceToNat, Int.reduceEq, Int.reduceLT, Int.reduceLE, Int.reduceAdd]
          exact hQ _ _ _ _ nofun rfl (by simp [tupOf, envOf, AV.strip, AV.strip1, e])
        have c2' : ¬ ((57344 : Int) ≤ v) := by omega
        have ej : joinM (u :: v :: r) = (joinM r).map (encM (65536 + 1024 * (u - 55296) + (v - 56320)) ++ ·) := by rw [joinM.eq_def]; simp only; rw [if_neg (by omega), if_pos a3, if_neg (by omega)]
        obtain ⟨m, hm⟩ : ∃ m, 65536 + 1024 * (u - 55296) + (v - 56320) = m := ⟨_, rfl⟩
        rw [hm] at ej
        have w1 : IntKind.wrap .i64 ((u : Int) - 55296) = (u : Int) - 55296 := wrap64 (by omega) (by omega)
        have w2 : IntKind.wrap .i64 (1024 * ((u : Int) - 55296)) = 1024 * ((u : Int) - 55296) := wrap64 (by omega) (by omega)
        have w3 : IntKind.wrap .i64 (65536 + 1024 * ((u : Int) - 55296)) = 65536 + 1024 * ((u : Int) - 55296) := wrap64 (by omega) (by omega)
        have w4 : IntKind.wrap .i64 (65536 + 1024 * ((u : Int) - 55296) + v) = 65536 + 1024 * ((u : Int) - 55296) + v := wrap64 (by omega) (by omega)
        have w5 : IntKind.wrap .i64 (65536 + 1024 * ((u : Int) - 55296) + v - 56320) = (m : Int) := by rw [wrap64 (by omega) (by omega)]; omega
        have hm3 := (encM_len m).1
        have hdw : IntKind.wrap .i64 ((done.length : Int) + 1) = (done.length : Int) + 1 := wrap64 (by omega) (by omega)
        have hdw2 : IntKind.wrap .i64 ((done.length : Int) + 1 + 1) = (done.length : Int) + 1 + 1 := wrap64 (by omega) (by omega)
        simp (disch := first | omega | assumption) only [hll, hlt, hg, hu0, a1', b1, b2, b3, hdw, b4, b5, b6, hg2, c1', c2', w1, w2, w3, w4, w5, steps, st2, pev, rev, oev, optr, ibin, sbin, ishf, bound, mmAll, mm2, mk, mkArgs, AV.cells, AV.boxable, AV.one, AV.strip1, fillA, fillS, Nat.reduceEqDiff, reduceCtorEq, ↓reduceIte, Nat.reduceAdd, Int.reduceNeg, Nat.reduceLeDiff, Int.reduceToNat, Int.reduceEq, Int.reduceLT, Int.reduceLE, Int.reduceAdd]
        refine goK_pure (PutR m (by omega)) ?_
        have e5 : (((done ++ [u, v]).length : Nat) : Int) = (done.length : Int) + 1 + 1 := by simp; omega
        have nx := hJ (done ++ [u, v], r, out ++ encM m) H (by simp; omega) ⟨by simp [hd], by simp only [hj, ej]; cases joinM r <;> simp, by simp; omega⟩
        simp (disch := first | omega | assumption) only [hdw2, List.length_append, steps, st2, pev, rev, oev, optr, ibin, sbin, ishf, bound, mmAll, mm2, mk, mkArgs, AV.cells, AV.boxable, AV.one, AV.strip1, fillA, fillS, Nat.reduceEqDiff, reduceCtorEq, ↓reduceIte, Nat.reduceAdd, Int.reduceNeg, Nat.reduceLeDiff, Int.reduceToNat, Int.reduceEq, Int.reduceLT, Int.reduceLE, Int.reduceAdd]
        exact goJ nx (by simp (disch := first | omega | assumption) only [e5, steps, st2, pev, rev, oev, optr, ibin, sbin, ishf, bound, mmAll, mm2, mk, mkArgs, AV.cells, AV.boxable, AV.one, AV.strip1, fillA, fillS, Nat.reduceEqDiff, reduceCtorEq, ↓reduceIte, Nat.reduceAdd, Int.reduceNeg, Nat.reduceLeDiff, Int.reduceToNat, Int.reduceEq, Int.reduceLT, Int.reduceLE, Int.reduceAdd])
    have ej : joinM (u :: r) = (joinM r).map (encM u ++ ·) := by
      rw [joinM.eq_def]; simp only; rw [if_neg (by omega), if_neg a3]
    have hm3 := (encM_len u).1
    have e5 : (((done ++ [u]).length : Nat) : Int) = (done.length : Int) + 1 := by simp
    have hdw : IntKind.wrap .i64 ((done.length : Int) + 1) = (done.length : Int) + 1 := wrap64 (by omega) (by omega)
    have nx := hJ (done ++ [u], r, out ++ encM u) H (by simp) ⟨by simp [hd], by simp only [hj, ej]; cases joinM r <;> simp, by simp; omega⟩
    by_cases h : u < 55296
    · have b1 : ¬ ((56320 : Int) ≤ u) := by omega
      have b2 : ¬ ((55296 : Int) ≤ u) := by omega
      simp (disch := first | omega | assumption) only [hll, hlt, hg, hu0, a1', b1, b2, steps, st2, pev, rev, oev, optr, ibin, sbin, ishf, bound, mmAll, mm2, mk, mkArgs, AV.cells, AV.boxable, AV.one, AV.strip1, fillA, fillS, Nat.reduceEqDiff, reduceCtorEq, ↓reduceIte, Nat.reduceAdd, Int.reduceNeg, Nat.reduceLeDiff, Int.reduceToNat, Int.reduceEq, Int.reduceLT, Int.reduceLE, Int.reduceAdd]
      refine goK_pure (PutR u (by omega)) ?_
      simp (disch := first | omega | assumption) only [hdw, List.length_append, steps, st2, pev, rev, oev, optr, ibin, sbin, ishf, bound, mmAll, mm2, mk, mkArgs, AV.cells, AV.boxable, AV.one, AV.strip1, fillA, fillS, Nat.reduceEqDiff, reduceCtorEq, ↓reduceIte, Nat.reduceAdd, Int.reduceNeg, Nat.reduceLeDiff, Int.reduceToNat, Int.reduceEq, Int.reduceLT, Int.reduceLE, Int.reduceAdd]
      exact goJ nx (by simp (disch := first | omega | assumption) only [e5, steps, st2, pev, rev, oev, optr, ibin, sbin, ishf, bound, mmAll, mm2, mk, mkArgs, AV.cells, AV.boxable, AV.one, AV.strip1, fillA, fillS, Nat.reduceEqDiff, reduceCtorEq, ↓reduceIte, Nat.reduceAdd, Int.reduceNeg, Nat.reduceLeDiff, Int.reduceToNat, Int.reduceEq, Int.reduceLT, Int.reduceLE, Int.reduceAdd])
    · have b1 : ((56320 : Int) ≤ u) = True := eq_true (by omega)
      have b2 : ¬ ((u : Int) < 57344) := by omega
      have b3 : ((55296 : Int) ≤ u) = True := eq_true (by omega)
      have b4 : ¬ ((u : Int) < 56320) := by omega
      simp (disch := first | omega | assumption) only [hll, hlt, hg, hu0, a1', b1, b2, b3, b4, steps, st2, pev, rev, oev, optr, ibin, sbin, ishf, bound, mmAll, mm2, mk, mkArgs, AV.cells, AV.boxable, AV.one, AV.strip1, fillA, fillS, Nat.reduceEqDiff, reduceCtorEq, ↓reduceIte, Nat.reduceAdd, Int.reduceNeg, Nat.reduceLeDiff, Int.reduceToNat, Int.reduceEq, Int.reduceLT, Int.reduceLE, Int.reduceAdd]
      refine goK_pure (PutR u (by omega)) ?_
      simp (disch := first | omega | assumption) only [hdw, List.length_append, steps, st2, pev, rev, oev, optr, ibin, sbin, ishf, bound, mmAll, mm2, mk, mkArgs, AV.cells, AV.boxable, AV.one, AV.strip1, fillA, fillS, Nat.reduceEqDiff, reduceCtorEq, ↓reduceIte, Nat.reduceAdd, Int.reduceNeg, Nat.reduceLeDiff, Int.reduceToNat, Int.reduceEq, Int.reduceLT, Int.reduceLE, Int.reduceAdd]
      exact goJ nx (by simp (disch := first | omega | assumption) only [e5, steps, st2, pev, rev, oev, optr, ibin, sbin, ishf, bound, mmAll, mm2, mk, mkArgs, AV.cells, AV.boxable, AV.one, AV.strip1, fillA, fillS, Nat.reduceEqDiff, reduceCtorEq, ↓reduceIte, Nat.reduceAdd, Int.reduceNeg, Nat.reduceLeDiff, Int.reduceToNat, Int.reduceEq, Int.reduceLT, Int.reduceLE, Int.reduceAdd])
end Go.Proofs.YtpjafglhdlfnbaaGreatDoor
namespace Go.Proofs.YtpjafglhdlfnbaaGreatDoor
open Go.Ab
theorem wrap_u8 {x : Int} (h0 : 0 ≤ x) (h1 : x < 256) : IntKind.wrap .u8 x = x := by
  unfold IntKind.wrap
  simp [IntKind.signed, IntKind.bits]
  omega
end Go.Proofs.YtpjafglhdlfnbaaGreatDoor
namespace Go.Proofs.YtpjafglhdlfnbaaGreatDoor
open Go.Ab Go.Lib
theorem indexR (s : List UInt8) (c : UInt8) (hs : s.length ≤ Lim) : Pure Tryz.prog 150 [.str s, .int .u8 c.toNat] (.int .i64 (Lib.indexByte s c)) := by
  refine Pure.go ir150 ck150 (Nat.le_refl _) fun KP Q hQ => ?_
  simp only [Lim] at hs
  have none : ∀ l : List UInt8, c ∉ l → Lib.indexByte l c = -1 := fun l => by
    induction l with
    | nil => intro _; rfl
    | cons b l ih =>
      intro h
      have h1 : ¬ b = c := fun e => h (by simp [e])
      have h2 := ih fun e => h (by simp [e])
      simp [Lib.indexByte, h1, h2]
  have at' : ∀ (l r : List UInt8), c ∉ l → Lib.indexByte (l ++ c :: r) c = l.length := fun l => by
    induction l with
    | nil => intro r _; simp [Lib.indexByte]
    | cons b l ih =>
      intro r h
      have h1 : ¬ b = c := fun e => h (by simp [e])
      have h2 := ih r fun e => h (by simp [e])
      simp only [List.cons_append, Lib.indexByte, h2]
      simp [h1]
      try omega
  simp (disch := first | omega | assumption) only [ir150, steps, st2, pev, rev, oev, optr, ibin, sbin, ishf, bound, mmAll, mm2, mk, mkArgs, AV.cells, AV.boxable, AV.one, AV.strip1, fillA, fillS, Nat.reduceEqDiff, reduceCtorEq, ↓reduceIte, Nat.reduceAdd, Int.reduceNeg, Nat.reduceLeDiff, Int.reduceToNat, Int.reduceEq, Int.reduceLT, Int.reduceLE, Int.reduceAdd]
  refine goL_range s 5 (fun _ : Unit => []) (fun done rest _ H' => c ∉ done) () (by simp (disch := first | omega | assumption) only [steps, st2, pev, rev, oev, optr, ibin, sbin, ishf, bound, mmAll, mm2, mk, mkArgs, AV.cells, AV.boxable, AV.one, AV.strip1, fillA, fillS, Nat.reduceEqDiff, reduceCtorEq, ↓reduceIte, Nat.reduceAdd, Int.reduceNeg, Nat.reduceLeDiff, Int.reduceToNat, Int.reduceEq, Int.reduceLT, Int.reduceLE, Int.reduceAdd]) (by simp) ?_ ?_
  · rintro _ H2 J hn hlt
    simp (disch := first | omega | assumption) only [hlt, steps, st2, pev, rev, oev, optr, ibin, sbin, ishf, bound, mmAll, mm2, mk, mkArgs, AV.cells, AV.boxable, AV.one, AV.strip1, fillA, fillS, Nat.reduceEqDiff, reduceCtorEq, ↓reduceIte, Nat.reduceAdd, Int.reduceNeg, Nat.reduceLeDiff, Int.reduceToNat, Int.reduceEq, Int.reduceLT, Int.reduceLE, Int.reduceAdd]
    exact hQ _ _ _ _ nofun rfl (by simp [tupOf, envOf, AV.strip, AV.strip1, none s hn])
  · rintro done x rest _ H2 J hd hlt hlt2 hn hJ
    have hg := str_get hd
    by_cases hx : x = c
    · subst hx
      have e := at' done rest hn
      rw [← hd] at e
      simp (disch := first | omega | assumption) only [hlt, hg, steps, st2, pev, rev, oev, optr, ibin, sbin, ishf, bound, mmAll, mm2, mk, mkArgs, AV.cells, AV.boxable, AV.one, AV.strip1, fillA, fillS, Nat.reduceEqDiff, reduceCtorEq, ↓reduceIte, Nat.reduceAdd, Int.reduceNeg, Nat.reduceLeDiff, Int.reduceToNat, Int.reduceEq, Int.reduceLT, Int.reduceLE, Int.reduceAdd]
      exact hQ _ _ _ _ nofun rfl (by simp [tupOf, envOf, AV.strip, AV.strip1, e])
    · have hx' : ¬ ((x.toNat : Int) = c.toNat) := by rw [u8_eq]; exact hx
      have nx := hJ () H2 (by simp only [List.mem_append, List.mem_singleton, not_or]; exact ⟨hn, fun e => hx e.symm⟩)
      simp (disch := first | omega | assumption) only [hlt, hg, hx', wrap64, steps, st2, pev, rev, oev, optr, ibin, sbin, ishf, bound, mmAll, mm2, mk, mkArgs, AV.cells, AV.boxable, AV.one, AV.strip1, fillA, fillS, Nat.reduceEqDiff, reduceCtorEq, ↓reduceIte, Nat.reduceAdd, Int.reduceNeg, Nat.reduceLeDiff, Int.reduceToNat, Int.reduceEq, Int.reduceLT, Int.reduceLE, Int.reduceAdd]
      exact goJ nx (by simp (disch := first | omega | assumption) only [steps, st2, pev, rev, oev, optr, ibin, sbin, ishf, bound, mmAll, mm2, mk, mkArgs, AV.cells, AV.boxable, AV.one, AV.strip1, fillA, fillS, Nat.reduceEqDiff, reduceCtorEq, ↓reduceIte, Nat.reduceAdd, Int.reduceNeg, Nat.reduceLeDiff, Int.reduceToNat, Int.reduceEq, Int.reduceLT, Int.reduceLE, Int.reduceAdd])
theorem hexD_eq (c : UInt8) : hexD c = if 48 ≤ c.toNat ∧ c.toNat ≤ 57 then some (c.toNat - 48) else if 97 ≤ c.toNat ∧ c.toNat ≤ 102 then some (c.toNat - 87) else if 65 ≤ c.toNat ∧ c.toNat ≤ 70 then some (c.toNat - 55) else none :=
  u8_all (P := fun c => hexD c = if 48 ≤ c.toNat ∧ c.toNat ≤ 57 then some (c.toNat - 48) else if 97 ≤ c.toNat ∧ c.toNat ≤ 102 then some (c.toNat - 87) else if 65 ≤ c.toNat ∧ c.toNat ≤ 70 then some (c.toNat - 55) else none) (by decide +kernel) c
theorem or16 {a b : Nat} (ha : a < 16777216) (hb : b < 16) : IntKind.wrap .i64 ((BitVec.ofInt IntKind.i64.bits ((a * 16 : Nat) : Int) ||| BitVec.ofInt IntKind.i64.bits (b : Int)).toNat : Int) = ((a * 16 + b : Nat) : Int) := by
  have e : (BitVec.ofInt IntKind.i64.bits ((a * 16 : Nat) : Int) ||| BitVec.ofInt IntKind.i64.bits (b : Int)).toNat = a * 16 + b := by
    rw [BitVec.toNat_or]
    show (BitVec.ofInt 64 ((a * 16 : Nat) : Int)).toNat ||| (BitVec.ofInt 64 (b : Int)).toNat = _
    rw [ofNat_toNat64 (by omega), ofNat_toNat64 (by omega)]
    have := Nat.two_pow_add_eq_or_of_lt (i := 4) (b := b) (by omega) a
    rw [show (2 : Nat) ^ 4 = 16 by rfl] at this
    rw [Nat.mul_comm a 16, this]
  rw [e]
  exact wrap_nat (by omega)
theorem shl4 {a : Nat} (ha : a < 16777216) : IntKind.wrap .i64 ((a : Int) * 2 ^ min 4 IntKind.i64.bits) = ((a * 16 : Nat) : Int) := by
  show IntKind.wrap .i64 ((a : Int) * 16) = _
  rw [wrap64 (by omega) (by omega)]; omega
def hexA (x : Option Nat) : Int := match x with | some u => u | none => -1
theorem hexesR (s : List UInt8) (i : Nat) (hi : i ≤ s.length) (hs : s.length ≤ Lim) : Pure Tryz.prog 147 [.str s, .int .i64 i] (.int .i64 (hexA (unitM (s.drop i)))) := by
  refine Pure.go ir147 ck147 (Nat.le_refl _) fun KP Q hQ => ?_
  simp only [Lim] at hs
  have w0 : IntKind.wrap .i64 ((s.length : Int) - i) = (s.length : Int) - i := wrap64 (by omega) (by omega)
  by_cases h4 : s.length < i + 4
  · have h4' : ((s.length : Int) - i < 4) = True := eq_true (by omega)
    have e : unitM (s.drop i) = none := by
      cases hu : unitM (s.drop i) with
      | none => rfl
      | some u => have := unitG_len _ _ _ _ hu; simp at this; omega
    simp (disch := first | omega | assumption) only [ir147, w0, h4', steps, st2, pev, rev, oev, optr, ibin, sbin, ishf, bound, mmAll, mm2, mk, mkArgs, AV.cells, AV.boxable, AV.one, AV.strip1, fillA, fillS, Nat.reduceEqDiff, reduceCtorEq, ↓reduceIte, Nat.reduceAdd, Int.reduceNeg, Nat.reduceLeDiff, Int.reduceToNat, Int.reduceEq, Int.reduceLT, Int.reduceLE, Int.reduceAdd]
    exact hQ _ _ _ _ nofun rfl (by simp [tupOf, envOf, AV.strip, AV.strip1, e, hexA])
  have h4' : ¬ ((s.length : Int) - i < 4) := by omega
  have w1 : IntKind.wrap .i64 ((i : Int) + 4) = (i : Int) + 4 := wrap64 (by omega) (by omega)
  simp (disch := first | omega | assumption) only [ir147, w0, h4', w1, steps, st2, pev, rev, oev, optr, ibin, sbin, ishf, bound, mmAll, mm2, mk, mkArgs, AV.cells, AV.boxable, AV.one, AV.strip1, fillA, fillS, Nat.reduceEqDiff, reduceCtorEq, ↓reduceIte, Nat.reduceAdd, Int.reduceNeg, Nat.reduceLeDiff, Int.reduceToNat, Int.reduceEq, Int.reduceLT, Int.reduceLE, Int.reduceAdd]
  refine goL_st (fun x : Nat × Nat => [(5, .int .i64 (x.2 : Int)), (6, .int .i64 ((i + x.1 : Nat) : Int))]) (fun x H' => x.1 ≤ 4 ∧ x.2 < 65536 ∧ x.2 < 16 ^ x.1 ∧ unitM (s.drop i) = unitG (4 - x.1) (s.drop (i + x.1)) x.2) (fun x => 4 - x.1) (0, 0) (by simp (disch := first | omega | assumption) only [Nat.add_zero, steps, st2, pev, rev, oev, optr, ibin, sbin, ishf, bound, mmAll, mm2, mk, mkArgs, AV.cells, AV.boxable, AV.one, AV.strip1, fillA, fillS, Nat.reduceEqDiff, reduceCtorEq, ↓reduceIte, Nat.reduceAdd, Int.reduceNeg, Nat.reduceLeDiff, Int.reduceToNat, Int.reduceEq, Int.reduceLT, Int.reduceLE, Int.reduceAdd]) ⟨by simp, by simp, by simp, rfl⟩ ?_
  rintro ⟨k, a⟩ H' J ⟨hk, ha, hp, hu⟩ hJ
  simp only at hk ha hp hu
  by_cases h1 : k = 4
  · subst h1
    have h2 : ¬ (((i + 4 : Nat) : Int) < (i : Int) + 4) := by omega
    simp only [Nat.sub_self, unitG] at hu
    simp (disch := first | omega | assumption) only [h2, w1, steps, st2, pev, rev, oev, optr, ibin, sbin, ishf, bound, mmAll, mm2, mk, mkArgs, AV.cells, AV.boxable, AV.one, AV.strip1, fillA, fillS, Nat.reduceEqDiff, reduceCtorEq, ↓reduceIte, Nat.reduceAdd, Int.reduceNeg, Nat.reduceLeDiff, Int.reduceToNat, Int.reduceEq, Int.reduceLT, Int.reduceLE, Int.reduceAdd]
    exact hQ _ _ _ _ nofun rfl (by simp [tupOf, envOf, AV.strip, AV.strip1, hu, hexA])
  · have h2 : (((i + k : Nat) : Int) < (i : Int) + 4) = True := eq_true (by omega)
    have hl : i + k < s.length := by omega
    have hl' : (((i + k : Nat) : Int) < s.length) = True := eq_true (by omega)
    have hl0 : ((0 : Int) ≤ ((i + k : Nat) : Int)) = True := eq_true (by omega)
    obtain ⟨c, hc⟩ : ∃ c, s[i + k]? = some c := ⟨_, List.getElem?_eq_getElem hl⟩
    have hg : s.getD (i + k) 0 = c := by simp [List.getD, hc]
    have hdr : s.drop (i + k) = c :: s.drop (i + k + 1) := by
      rw [List.drop_eq_getElem_cons hl]
      have := List.getElem?_eq_getElem hl
      rw [hc] at this; rw [← Option.some.inj this]
    have hk1 : 4 - k = (4 - (k + 1)) + 1 := by omega
    rw [hdr, hk1, unitG] at hu
    have pw : (16 : Nat) ^ k ≤ 4096 := by
      have : k = 0 ∨ k = 1 ∨ k = 2 ∨ k = 3 := by omega
      rcases this with rfl | rfl | rfl | rfl <;> decide
    have hw : IntKind.wrap .i64 (((i + k : Nat) : Int) + 1) = ((i + (k + 1) : Nat) : Int) := by rw [wrap64 (by omega) (by omega)]; omega
    have hsh := shl4 (a := a) (by omega)
    have hcl := c.toNat_lt
    have hx := hexD_eq c
    have step : ∀ d, d < 16 → hexD c = some d → J ((setAll _ [(5, .int .i64 ((a * 16 + d : Nat) : Int)), (6, .int .i64 ((i + (k + 1) : Nat) : Int))]).keep [0, 1, 5, 6]) H' := fun d hd e => by
      have e1 : a * 16 + d = 16 * a + d := by omega
      refine hJ (k + 1, a * 16 + d) H' (by simp; omega) ⟨by simp; omega, by simp; omega, ?_, ?_⟩
      · simp only [Nat.pow_succ]; omega
      · rw [hu, e]; simp only; rw [e1]; rfl
    by_cases d1 : 48 ≤ c.toNat ∧ c.toNat ≤ 57
    · have e1 : isD c = true := by simp [isD, d1]
      rw [if_pos d1] at hx
      have o1 := or16 (a := a) (b := c.toNat - 48) (by omega) (by omega)
      have s1 : IntKind.wrap .i64 (IntKind.wrap .u8 ((c.toNat : Int) - 48)) = ((c.toNat - 48 : Nat) : Int) := by
        rw [wrap_u8 (by omega) (by omega), wrap64 (by omega) (by omega)]; omega
      simp (disch := first | omega | assumption) only [h2, hl', hl0, hg, w1, steps, st2, pev, rev, oev, optr, ibin, sbin, ishf, bound, mmAll, mm2, mk, mkArgs, AV.cells, AV.boxable, AV.one, AV.strip1, fillA, fillS, Nat.reduceEqDiff, reduceCtorEq, ↓reduceIte, Nat.reduceAdd, Int.reduceNeg, Nat.reduceLeDiff, Int.reduceToNat, Int.reduceEq, Int.reduceLT, Int.reduceLE, Int.reduceAdd]
      refine goK_pure (digitR c) ?_
      rw [e1]
      simp (disch := first | omega | assumption) only [hsh, s1, o1, hw, steps, st2, pev, rev, oev, optr, ibin, sbin, ishf, bound, mmAll, mm2, mk, mkArgs, AV.cells, AV.boxable, AV.one, AV.strip1, fillA, fillS, Nat.reduceEqDiff, reduceCtorEq, ↓reduceIte, Nat.reduceAdd, Int.reduceNeg, Nat.reduceLeDiff, Int.reduceToNat, Int.reduceEq, Int.reduceLT, Int.reduceLE, Int.reduceAdd]
      exact goJ (step _ (by omega) hx) (by simp (disch := first | omega | assumption) only [steps, st2, pev, rev, oev, optr, ibin, sbin, ishf, bound, mmAll, mm2, mk, mkArgs, AV.cells, AV.boxable, AV.one, AV.strip1, fillA, fillS, Nat.reduceEqDiff, reduceCtorEq, ↓reduceIte, Nat.reduceAdd, Int.reduceNeg, Nat.reduceLeDiff, Int.reduceToNat, Int.reduceEq, Int.reduceLT, Int.reduceLE, Int.reduceAdd])
    · have e1 : isD c = false := by simp [isD]; omega
      rw [if_neg d1] at hx
      simp (disch := first | omega | assumption) only [h2, hl', hl0, hg, w1, steps, st2, pev, rev, oev, optr, ibin, sbin, ishf, bound, mmAll, mm2, mk, mkArgs, AV.cells, AV.boxable, AV.one, AV.strip1, fillA, fillS, Nat.reduceEqDiff, reduceCtorEq, ↓reduceIte, Nat.reduceAdd, Int.reduceNeg, Nat.reduceLeDiff, Int.reduceToNat, Int.reduceEq, Int.reduceLT, Int.reduceLE, Int.reduceAdd]
      refine goK_pure (digitR c) ?_
      rw [e1]
      by_cases d2 : 97 ≤ c.toNat ∧ c.toNat ≤ 102
      · rw [if_pos d2] at hx
        have o1 := or16 (a := a) (b := c.toNat - 87) (by omega) (by omega)
        have g1 : ((97 : Int) ≤ c.toNat) = True := eq_true (by omega)
        have g2 : ((c.toNat : Int) ≤ 102) = True := eq_true (by omega)
        have s1 : IntKind.wrap .i64 (IntKind.wrap .u8 (IntKind.wrap .u8 ((c.toNat : Int) - 97) + 10)) = ((c.toNat - 87 : Nat) : Int) := by
          rw [wrap_u8 (x := (c.toNat : Int) - 97) (by omega) (by omega), wrap_u8 (by omega) (by omega), wrap64 (by omega) (by omega)]; omega
        simp (disch := first | omega | assumption) only [g1, g2, hsh, s1, o1, hw, steps, st2, pev, rev, oev, optr, ibin, sbin, ishf, bound, mmAll, mm2, mk, mkArgs, AV.cells, AV.boxable, AV.one, AV.strip1, fillA, fillS, Nat.reduceEqDiff, reduceCtorEq, ↓reduceIte, Nat.reduceAdd, Int.reduceNeg, Nat.reduceLeDiff, Int.reduceToNat, Int.reduceEq, Int.reduceLT, Int.reduceLE, Int.reduceAdd]
        exact goJ (step _ (by omega) hx) (by simp (disch := first | omega | assumption) only [steps, st2, pev, rev, oev, optr, ibin, sbin, ishf, bound, mmAll, mm2, mk, mkArgs, AV.cells, AV.boxable, AV.one, AV.strip1, fillA, fillS, Nat.reduceEqDiff, reduceCtorEq, ↓reduceIte, Nat.reduceAdd, Int.reduceNeg, Nat.reduceLeDiff, Int.reduceToNat, Int.reduceEq, Int.reduceLT, Int.reduceLE, Int.reduceAdd])
      · rw [if_neg d2] at hx
        by_cases d3 : 65 ≤ c.toNat ∧ c.toNat ≤ 70
        · rw [if_pos d3] at hx
          have o1 := or16 (a := a) (b := c.toNat - 55) (by omega) (by omega)
          have g0 : ¬ ((97 : Int) ≤ c.toNat) := by omega
          have g1 : ((65 : Int) ≤ c.toNat) = True := eq_true (by omega)
          have g2 : ((c.toNat : Int) ≤ 70) = True := eq_true (by omega)
          have s1 : IntKind.wrap .i64 (IntKind.wrap .u8 (IntKind.wrap .u8 ((c.toNat : Int) - 65) + 10)) = ((c.toNat - 55 : Nat) : Int) := by
            rw [wrap_u8 (x := (c.toNat : Int) - 65) (by omega) (by omega), wrap_u8 (by omega) (by omega), wrap64 (by omega) (by omega)]; omega
          simp (disch := first | omega | assumption) only [g0, g1, g2, hsh, s1, o1, hw, steps, st2, pev, rev, oev, optr, ibin, sbin, ishf, bound, mmAll, mm2, mk, mkArgs, AV.cells, AV.boxable, AV.one, AV.strip1, fillA, fillS, Nat.reduceEqDiff, reduceCtorEq, ↓reduceIte, Nat.reduceAdd, Int.reduceNeg, Nat.reduceLeDiff, Int.reduceToNat, Int.reduceEq, Int.reduceLT, Int.reduceLE, Int.reduceAdd]
          exact goJ (step _ (by omega) hx) (by simp (disch := first | omega | assumption) only [steps, st2, pev, rev, oev, optr, ibin, sbin, ishf, bound, mmAll, mm2, mk, mkArgs, AV.cells, AV.boxable, AV.one, AV.strip1, fillA, fillS, Nat.reduceEqDiff, reduceCtorEq, ↓reduceIte, Nat.reduceAdd, Int.reduceNeg, Nat.reduceLeDiff, Int.reduceToNat, Int.reduceEq, Int.reduceLT, Int.reduceLE, Int.reduceAdd])
        · rw [if_neg d3] at hx
          rw [hx] at hu
          simp only at hu
          by_cases g0 : (97 : Int) ≤ c.toNat
          · have g2 : ¬ ((c.toNat : Int) ≤ 102) := by omega
            by_cases g1 : (65 : Int) ≤ c.toNat
            · have g3 : ¬ ((c.toNat : Int) ≤ 70) := by omega
              simp (disch := first | omega | assumption) only [g0, g1, g2, g3, steps, st2, pev, rev, oev, optr, ibin, sbin, ishf, bound, mmAll, mm2, mk, mkArgs, AV.cells, AV.boxable, AV.one, AV.strip1, fillA, fillS, Nat.reduceEqDiff, reduceCtorEq, ↓reduceIte, Nat.reduceAdd, Int.reduceNeg, Nat.reduceLeDiff, Int.reduceToNat, Int.reduceEq, Int.reduceLT, Int.reduceLE, Int.reduceAdd]
              exact hQ _ _ _ _ nofun rfl (by simp [tupOf, envOf, AV.strip, AV.strip1, hu, hexA])
            · omega
          · by_cases g1 : (65 : Int) ≤ c.toNat
            · have g3 : ¬ ((c.toNat : Int) ≤ 70) := by omega
              simp (disch := first | omega | assumption) only [g0, g1, g3, steps, st2, pev, rev, oev, optr, ibin, sbin, ishf, bound, mmAll, mm2, mk, mkArgs, AV.cells, AV.boxable, AV.one, AV.strip1, fillA, fillS, Nat.reduceEqDiff, reduceCtorEq, ↓reduceIte, Nat.reduceAdd, Int.reduceNeg, Nat.reduceLeDiff, Int.reduceToNat, Int.reduceEq, Int.reduceLT, Int.reduceLE, Int.reduceAdd]
              exact hQ _ _ _ _ nofun rfl (by simp [tupOf, envOf, AV.strip, AV.strip1, hu, hexA])
            · simp (disch := first | omega | assumption) only [g0, g1, steps, st2, pev, rev, oev, optr, ibin, sbin, ishf, bound, mmAll, mm2, mk, mkArgs, AV.cells, AV.boxable, AV.one, AV.strip1, fillA, fillS, Nat.reduceEqDiff, reduceCtorEq, ↓reduceIte, Nat.reduceAdd, Int.reduceNeg, Nat.reduceLeDiff, Int.reduceToNat, Int.reduceEq, Int.reduceLT, Int.reduceLE, Int.reduceAdd]
              exact hQ _ _ _ _ nofun rfl (by simp [tupOf, envOf, AV.strip, AV.strip1, hu, hexA])
end Go.Proofs.YtpjafglhdlfnbaaGreatDoor
namespace Go.Proofs.YtpjafglhdlfnbaaGreatDoor
open Go.Ab Go.Lib
structure DecOk (l : List UInt8) (c k : Nat) : Prop where
  enc : encM c = l.take k
  le : c ≤ 1114111
  pos : 1 ≤ k
  len : k ≤ l.length
  one : k = 1 → c = (l.getD 0 0).toNat ∧ (l.getD 0 0).toNat < 128
  high : k ≠ 1 → ∀ x ∈ l.take k, 128 ≤ x.toNat
theorem ofN_eq {n : Nat} {b : UInt8} (h : n = b.toNat) : UInt8.ofNat n = b := UInt8.toNat_inj.1 (by rw [UInt8.toNat_ofNat', h]; have := b.toNat_lt; omega)
theorem dec_two {b0 b1 : UInt8} {t : List UInt8} (h0 : b0.toNat / 32 = 6) (h1 : b1.toNat / 64 = 2) (hc : 128 ≤ b0.toNat % 32 * 64 + b1.toNat % 64) : DecOk (b0 :: b1 :: t) (b0.toNat % 32 * 64 + b1.toNat % 64) 2 := by
  refine ⟨?_, by omega, by omega, by simp, fun h => by omega, fun _ x hx => ?_⟩
  · unfold encM
    rw [if_neg (by omega), if_pos (by omega)]
    simp only [List.take_succ_cons, List.take_zero, List.cons.injEq, and_true]
    exact ⟨ofN_eq (by omega), ofN_eq (by omega)⟩
  · simp only [List.take_succ_cons, List.take_zero, List.mem_cons, List.not_mem_nil, or_false] at hx
    rcases hx with rfl | rfl <;> omega
theorem dec_three {b0 b1 b2 : UInt8} {t : List UInt8} (h0 : b0.toNat / 16 = 14) (h1 : b1.toNat / 64 = 2) (h2 : b2.toNat / 64 = 2) (hc : 2048 ≤ b0.toNat % 16 * 4096 + b1.toNat % 64 * 64 + b2.toNat % 64) :
    DecOk (b0 :: b1 :: b2 :: t) (b0.toNat % 16 * 4096 + b1.toNat % 64 * 64 + b2.toNat % 64) 3 := by
  refine ⟨?_, by omega, by omega, by simp, fun h => by omega, fun _ x hx => ?_⟩
  · unfold encM
    rw [if_neg (by omega), if_neg (by omega), if_pos (by omega)]
    simp only [List.take_succ_cons, List.take_zero, List.cons.injEq, and_true]
    exact ⟨ofN_eq (by omega), ofN_eq (by omega), ofN_eq (by omega)⟩
  · simp only [List.take_succ_cons, List.take_zero, List.mem_cons, List.not_mem_nil, or_false] at hx
    rcases hx with rfl | rfl | rfl <;> omega
theorem dec_four {b0 b1 b2 b3 : UInt8} {t : List UInt8} (h0 : b0.toNat / 8 = 30) (h1 : b1.toNat / 64 = 2) (h2 : b2.toNat / 64 = 2) (h3 : b3.toNat / 64 = 2)
    (hc : 65536 ≤ b0.toNat % 8 * 262144 + b1.toNat % 64 * 4096 + b2.toNat % 64 * 64 + b3.toNat % 64) (hd : b0.toNat % 8 * 262144 + b1.toNat % 64 * 4096 + b2.toNat % 64 * 64 + b3.toNat % 64 ≤ 1114111) :
    DecOk (b0 :: b1 :: b2 :: b3 :: t) (b0.toNat % 8 * 262144 + b1.toNat % 64 * 4096 + b2.toNat % 64 * 64 + b3.toNat % 64) 4 := by
  refine ⟨?_, by omega, by omega, by simp, fun h => by omega, fun _ x hx => ?_⟩
  · unfold encM
    rw [if_neg (by omega), if_neg (by omega), if_neg (by omega)]
    simp only [List.take_succ_cons, List.take_zero, List.cons.injEq, and_true]
    exact ⟨ofN_eq (by omega), ofN_eq (by omega), ofN_eq (by omega), ofN_eq (by omega)⟩
  · simp only [List.take_succ_cons, List.take_zero, List.mem_cons, List.not_mem_nil, or_false] at hx
    rcases hx with rfl | rfl | rfl | rfl <;> omega
theorem dec_ok {l : List UInt8} (hne : l ≠ []) (h : decodeL l ≠ (65533, 1)) : DecOk l (decodeL l).1 (decodeL l).2 := by
  rw [decodeL_N] at h ⊢
  obtain ⟨b0, t, rfl⟩ : ∃ b0 t, l = b0 :: t := by cases l with | nil => exact absurd rfl hne | cons a b => exact ⟨a, b, rfl⟩
  simp only [List.getD_cons_zero, List.getD_cons_succ] at h ⊢
  unfold decodeN at h ⊢
  split at h
  · rename_i h0
    rw [if_pos h0]
    refine ⟨?_, by simp only; omega, by simp, by simp, fun _ => ⟨by simp, by simpa using h0⟩, fun h => absurd rfl h⟩
    simp only
    unfold encM
    rw [if_pos (by omega)]
    simp only [List.take_succ_cons, List.take_zero, List.cons.injEq, and_true]
    exact ofN_eq rfl
  · rename_i h0
    rw [if_neg h0]
    split at h
    · rename_i h1
      rw [if_pos h1]
      split at h
      · rename_i h2
        rw [if_pos h2]
        obtain ⟨b1, t, rfl⟩ : ∃ b1 r, t = b1 :: r := by cases t with | nil => simp at h1 | cons a b => exact ⟨a, b, rfl⟩
        exact dec_two h1.1 (by simpa using h1.2.2) (by simpa using h2)
      · exact absurd rfl h
    · rename_i h1
      rw [if_neg h1]
      split at h
      · rename_i h2
        rw [if_pos h2]
        split at h
        · rename_i h3
          rw [if_pos h3]
          obtain ⟨b1, t, rfl⟩ : ∃ b1 r, t = b1 :: r := by cases t with | nil => simp at h2 | cons a b => exact ⟨a, b, rfl⟩
          obtain ⟨b2, t, rfl⟩ : ∃ b2 r, t = b2 :: r := by cases t with | nil => simp at h2 | cons a b => exact ⟨a, b, rfl⟩
          exact dec_three h2.1 (by simpa using h2.2.1.2) (by simpa using h2.2.2.2) (by simpa using h3.1)
        · exact absurd rfl h
      · rename_i h2
        rw [if_neg h2]
        split at h
        · rename_i h3
          rw [if_pos h3]
          split at h
          · rename_i h4
            rw [if_pos h4]
            obtain ⟨b1, t, rfl⟩ : ∃ b1 r, t = b1 :: r := by cases t with | nil => simp at h3 | cons a b => exact ⟨a, b, rfl⟩
            obtain ⟨b2, t, rfl⟩ : ∃ b2 r, t = b2 :: r := by cases t with | nil => simp at h3 | cons a b => exact ⟨a, b, rfl⟩
            obtain ⟨b3, t, rfl⟩ : ∃ b3 r, t = b3 :: r := by cases t with | nil => simp at h3 | cons a b => exact ⟨a, b, rfl⟩
            exact dec_four h3.1 (by simpa using h3.2.1.2) (by simpa using h3.2.2.1.2) (by simpa using h3.2.2.2.2) (by simpa using h4.1) (by have := h4.2; simp at this ⊢; omega)
          · exact absurd rfl h
        · exact absurd rfl h
theorem code_ok {l : List UInt8} (hne : l ≠ []) (hv : validD l = true) : DecOk l (codeN l).1 (codeN l).2 ∧ validD (l.drop (codeN l).2) = true := by
  rw [validD_step l hne] at hv
  split at hv
  · cases hv
  · rename_i h
    have h' : decodeL l ≠ (65533, 1) := fun e => h ⟨by rw [e], by rw [e]⟩
    have e : codeN l = decodeL l := by unfold codeN; rw [if_neg hne, if_neg h']
    rw [e]
    exact ⟨dec_ok hne h', hv⟩
theorem quoG_fuel {may : UInt8 → Bool} : ∀ (n m : Nat) (t : List UInt8) (q : Sd), t.length < n → t.length < m → quoG may n t q = quoG may m t q
  | 0, _, _, _, h, _ => by omega
  | _, 0, _, _, _, h => by omega
  | _ + 1, _ + 1, [], _, _, _ => rfl
  | n + 1, m + 1, c :: t, q, h1, h2 => by
    simp only [List.length_cons] at h1 h2
    simp only [quoG]
    split
    · rfl
    · split
      · cases he : escM q t with
        | none => rfl
        | some x =>
          have := (escM_suf (q' := x.1) (t' := x.2) he).2
          exact quoG_fuel n m x.2 x.1 (by omega) (by omega)
      · split
        · exact quoG_fuel n m t _ (by omega) (by omega)
        · rfl
def quoF (may : UInt8 → Bool) (t : List UInt8) (q : Sd) : Option (Sd × List UInt8) := quoG may (t.length + 1) t q
theorem quoF_nil (may : UInt8 → Bool) (q : Sd) : quoF may [] q = none := rfl
theorem quoF_34 (may : UInt8 → Bool) (t : List UInt8) (q : Sd) : quoF may (34 :: t) q = some (flushM q, t) := by simp [quoF, quoG]
theorem quoF_92 (may : UInt8 → Bool) (t : List UInt8) (q : Sd) : quoF may (92 :: t) q = match escM q t with | none => none | some (q', t') => quoF may t' q' := by
  unfold quoF
  simp only [List.length_cons, quoG]
  rw [if_neg (by decide), if_pos trivial]
  cases he : escM q t with
  | none => rfl
  | some x =>
    have := (escM_suf (q' := x.1) (t' := x.2) he).2
    exact quoG_fuel _ _ x.2 x.1 (by omega) (by omega)
theorem quoF_c (may : UInt8 → Bool) {c : UInt8} (t : List UInt8) (q : Sd) (h1 : c ≠ 34) (h2 : c ≠ 92) : quoF may (c :: t) q = if may c then quoF may t (q.put c) else none := by
  unfold quoF
  simp only [List.length_cons, quoG]
  rw [if_neg h1, if_neg h2]
theorem quoG_bad {may : UInt8 → Bool} : ∀ (n : Nat) (t : List UInt8) (q q' : Sd) (t' : List UInt8), q.ok = false → quoG may n t q = some (q', t') → q'.ok = false
  | 0, _, _, _, _, _, h => by cases h
  | _ + 1, [], _, _, _, _, h => by cases h
  | n + 1, c :: t, q, q', t', hq, h => by
    simp only [quoG] at h
    split at h
    · simp only [Option.some.injEq, Prod.mk.injEq] at h
      rw [← h.1]; simp [flushM, hq]
    · split at h
      · cases he : escM q t with
        | none => simp [he] at h
        | some x =>
          obtain ⟨q1, t1⟩ := x
          simp only [he] at h
          refine quoG_bad n t1 q1 q' t' ?_ h
          cases t with
          | nil => cases he
          | cons d t =>
            simp only [escM] at he
            split at he
            · cases hu : unitM t with
              | none => simp [hu] at he
              | some u => simp only [hu, Option.map_some, Option.some.injEq, Prod.mk.injEq] at he; rw [← he.1]; exact hq
            · split at he
              · cases he
              · simp only [Option.some.injEq, Prod.mk.injEq] at he; rw [← he.1]; simp [Sd.put, flushM, hq]
      · split at h
        · exact quoG_bad n t _ q' t' (by simp [Sd.put, flushM, hq]) h
        · cases h
def finF (x : Option (Sd × List UInt8)) : Option (List UInt8 × List UInt8) := match x with
  | some (q, t') => if q.ok then some (q.b, t') else none
  | none => none
theorem quoM_F (may : UInt8 → Bool) (t : List UInt8) : quoM may t = finF (quoF may t ⟨[], [], true⟩) := rfl
theorem finF_bad {may : UInt8 → Bool} {t : List UInt8} {q : Sd} (h : q.ok = false) : finF (quoF may t q) = none := by
  cases hx : quoF may t q with
  | none => rfl
  | some x =>
    have := quoG_bad _ _ _ x.1 x.2 h hx
    simp [finF, this]
theorem finF_join {may : UInt8 → Bool} {c : UInt8} {t out : List UInt8} {us : List Nat} (hj : joinM us = none) (hc : ∀ r, c = 92 → t ≠ 117 :: r) : finF (quoF may (c :: t) ⟨out, us, true⟩) = none := by
  by_cases h1 : c = 34
  · subst h1; rw [quoF_34]; simp [finF, flushM, hj]
  · by_cases h2 : c = 92
    · subst h2
      rw [quoF_92]
      cases t with
      | nil => rfl
      | cons d t =>
        have hd : d ≠ 117 := fun e => hc t rfl (by rw [e])
        simp only [escM]
        rw [if_neg hd]
        split
        · rename_i h; split at h
          · rfl
          · cases h
        · rename_i h
          split at h
          · cases h
          · simp only [Option.some.injEq, Prod.mk.injEq] at h
            exact finF_bad (by rw [← h.1]; simp [Sd.put, flushM, hj])
    · rw [quoF_c may t _ h1 h2]
      split
      · exact finF_bad (by simp [Sd.put, flushM, hj])
      · rfl
def lineB (c : UInt8) : Bool := decide (c ≠ 10) && decide (c ≠ 13)
theorem quoF_high : ∀ (bs t out : List UInt8), (∀ x ∈ bs, 128 ≤ x.toNat) → quoF lineB (bs ++ t) ⟨out, [], true⟩ = quoF lineB t ⟨out ++ bs, [], true⟩
  | [], t, out, _ => by simp
  | b :: bs, t, out, h => by
    have hb := h b (.head _)
    have h0 : ∀ n : UInt8, n.toNat < 128 → b ≠ n := fun n hn e => by subst e; omega
    rw [List.cons_append, quoF_c lineB _ _ (h0 34 (by decide)) (h0 92 (by decide)), if_pos (by simp [lineB, h0 10 (by decide), h0 13 (by decide)])]
    have e : Sd.put ⟨out, [], true⟩ b = ⟨out ++ [b], [], true⟩ := by simp [Sd.put, flushM, joinM]
    rw [e, quoF_high bs t (out ++ [b]) fun x hx => h x (.tail _ hx)]
    simp
theorem quoF_code {l out : List UInt8} {us : List Nat} {tt : List UInt8} (hj : joinM us = some tt) {c k : Nat} (h : DecOk l c k) (hne : l ≠ []) (h1 : l.getD 0 0 ≠ 34) (h2 : l.getD 0 0 ≠ 92) (h3 : lineB (l.getD 0 0) = true) :
    quoF lineB l ⟨out, us, true⟩ = quoF lineB (l.drop k) ⟨out ++ tt ++ l.take k, [], true⟩ := by
  obtain ⟨b, t, rfl⟩ : ∃ b t, l = b :: t := by cases l with | nil => exact absurd rfl hne | cons a b => exact ⟨a, b, rfl⟩
  simp only [List.getD_cons_zero] at h1 h2 h3
  obtain ⟨m, rfl⟩ : ∃ m, k = m + 1 := ⟨k - 1, by have := h.pos; omega⟩
  rw [quoF_c lineB t _ h1 h2, if_pos h3]
  have e : Sd.put ⟨out, us, true⟩ b = ⟨out ++ tt ++ [b], [], true⟩ := by simp [Sd.put, flushM, hj]
  rw [e, List.drop_succ_cons, List.take_succ_cons]
  by_cases hm : m = 0
  · subst hm; simp
  · have hh := h.high (by omega)
    rw [List.take_succ_cons] at hh
    have := quoF_high (t.take m) (t.drop m) (out ++ tt ++ [b]) fun x hx => hh x (.tail _ hx)
    rw [List.take_append_drop] at this
    rw [this]; simp
end Go.Proofs.YtpjafglhdlfnbaaGreatDoor
namespace Go.Proofs.YtpjafglhdlfnbaaGreatDoor
open Go.Ab Go.Lib
def quotedA (n : Nat) (x : Option (List UInt8 × List UInt8)) : AV := match x with
  | some (b, t') => .tup [.str b, .int .i64 ((n - t'.length : Nat) : Int), .bool true]
  | none => .tup [.str [], .int .i64 0, .bool false]
structure QI (s t0 : List UInt8) (x : List UInt8 × List UInt8 × List Nat × Own) (H : Heap) : Prop where
  pos : ∃ p, p ++ x.1 = s
  val : validD x.1 = true
  eq : quoM lineB t0 = finF (quoF lineB x.1 ⟨x.2.1, x.2.2.1, true⟩)
  len : x.2.1.length + 4 * x.2.2.1.length + 4 * x.1.length ≤ 4 * s.length
  own : Owned H x.2.2.2 x.2.2.1.length 1
theorem cU_snoc (us : List Nat) (v : Nat) : cU us ++ [[AV.int .i64 (v : Int)]] = cU (us ++ [v]) := by simp [cU]
set_option maxHeartbeats 2000000 in
theorem QuotedR (s : List UInt8) (i : Nat) (hi : i ≤ s.length) (hv : validD (s.drop i) = true) (hs : s.length ≤ LimQ) :
    Pure Tryz.prog 118 [.str s, .int .i64 i] (quotedA s.length (quoM lineB (s.drop i))) := by
  refine Pure.go ir118 ck118 (Nat.le_refl _) fun KP Q hQ => ?_
  simp only [LimQ] at hs
  generalize ht0 : s.drop i = t0 at hv hQ ⊢
  have hi2 : (i : Int) = ((s.length - t0.length : Nat) : Int) := by rw [← ht0, List.length_drop]; omega
  rw [hi2]
  simp (disch := first | omega | assumption) only [ir118, go_sem, ↓reduceIte]
  refine goL_st (fun x : List UInt8 × List UInt8 × List Nat × Own => [(1, .int .i64 ((s.length - x.1.length : Nat) : Int)), (7, .str x.2.1), (8, .sl x.2.2.2 1 (cU x.2.2.1))]) (fun x H => QI s t0 x H) (fun x => x.1.length) (t0, [], [], .nil) (by simp (disch := first | omega | assumption) only [cU, go_sem, ↓reduceIte]) ⟨⟨s.take i, by rw [← ht0]; simp⟩, hv, quoM_F _ _, by simp; rw [← ht0]; simp; omega, rfl⟩ ?_
  rintro ⟨t, out, us, o⟩ H J ⟨⟨p, hp⟩, hvt, he, hlen, ho⟩ hJ
  simp only at hp hvt he hlen ho
  have hpl : p.length + t.length = s.length := by rw [← hp]; simp
  have epos : s.length - t.length = p.length := by omega
  rw [epos]
  have hul := cU_len us
  have bad : quoM lineB t0 = none → (quotedA s.length (quoM lineB t0)) = .tup [.str [], .int .i64 0, .bool false] := fun e => by rw [e]; rfl
  cases t with
  | nil =>
    have h1 : ((s.length : Int) ≤ p.length) = True := eq_true (by simp at hpl; omega)
    have hb := bad (by rw [he]; rfl)
    rw [hb] at hQ
    simp (disch := first | omega | assumption) only [h1, go_sem, ↓reduceIte]
    exact hQ _ _ _ _ nofun rfl (by simp [tupOf, envOf, AV.strip, AV.strip1])
  | cons c r =>
    have hpl' : p.length + r.length + 1 = s.length := by simp at hpl; omega
    have h1 : ¬ ((s.length : Int) ≤ p.length) := by omega
    have hlt : ((p.length : Int) < s.length) = True := eq_true (by omega)
    have hg : s.getD p.length 0 = c := by rw [← hp]; simp
    have hdp : s.drop p.length = c :: r := by rw [← hp]; simp
    have w1 : IntKind.wrap .i64 ((p.length : Int) + 1) = (p.length : Int) + 1 := wrap64 (by omega) (by omega)
    have w2 : IntKind.wrap .i64 ((p.length : Int) + 2) = ((p.length + 2 : Nat) : Int) := by rw [wrap64 (by omega) (by omega)]; omega
    have w6 : IntKind.wrap .i64 ((p.length : Int) + 6) = (p.length : Int) + 6 := wrap64 (by omega) (by omega)
    have n1 : ((p.length : Int) + 1).toNat = p.length + 1 := by omega
    simp only [List.length_cons] at hlen
    by_cases c92 : c = 92
    · have g92 : ((c.toNat : Int) = 92) = True := eq_true (by rw [c92]; rfl)
      cases r with
      | nil =>
        have h2 : ¬ ((p.length : Int) + 1 < s.length) := by simp at hpl'; omega
        have h3 : ((s.length : Int) ≤ (p.length : Int) + 1) = True := eq_true (by simp at hpl'; omega)
        have g34 : ¬ ((c.toNat : Int) = 34) := by rw [c92]; decide
        have g10 : ¬ ((c.toNat : Int) = 10) := by rw [c92]; decide
        have g13 : ¬ ((c.toNat : Int) = 13) := by rw [c92]; decide
        have hb := bad (by rw [he, c92, quoF_92]; rfl)
        rw [hb] at hQ
        simp (disch := first | omega | assumption) only [h1, hlt, hg, g92, w1, h2, go_sem, ↓reduceIte]
        refine goK_pure (Pure.low (joinR us (by omega))) ?_
        cases hj : joinM us with
        | none =>
          simp (disch := first | omega | assumption) only [Option.getD_none, Option.isSome_none, go_sem, ↓reduceIte]
          exact hQ _ _ _ _ nofun rfl (by simp [tupOf, envOf, AV.strip, AV.strip1])
        | some tt =>
          have := joinM_len us tt hj
          simp (disch := first | omega | assumption) only [h1, hlt, hg, g92, g34, g10, g13, w1, h3, Option.getD_some, Option.isSome_some, go_sem, ↓reduceIte]
          exact hQ _ _ _ _ nofun rfl (by simp [tupOf, envOf, AV.strip, AV.strip1])
      | cons d r =>
        have hpl2 : p.length + r.length + 2 = s.length := by simp at hpl'; omega
        have h2 : ((p.length : Int) + 1 < s.length) = True := eq_true (by omega)
        have h3 : ¬ ((s.length : Int) ≤ (p.length : Int) + 1) := by omega
        have hg2 : s.getD (p.length + 1) 0 = d := by rw [← hp]; simp
        have hl0 : ((0 : Int) ≤ (p.length : Int) + 1) = True := eq_true (by omega)
        have hvd : validD (d :: r) = true := by rw [c92, validD_cons _ _ (by decide)] at hvt; exact hvt
        simp only [List.length_cons] at hlen
        by_cases d117 : d = 117
        · have gd : ((d.toNat : Int) = 117) = True := eq_true (by rw [d117]; rfl)
          have hdp2 : s.drop (p.length + 2) = r := by rw [← hp, c92, d117]; simp
          have hvr : validD r = true := by rw [d117, validD_cons _ _ (by decide)] at hvd; exact hvd
          simp (disch := first | omega | assumption) only [h1, hlt, hg, g92, w1, w2, h2, n1, hg2, hl0, gd, go_sem, ↓reduceIte]
          refine goK_pure (hexesR s (p.length + 2) (by omega) (by simp only [Lim]; omega)) ?_
          rw [hdp2]
          cases hu : unitM r with
          | none =>
            have hb := bad (by rw [he, c92, quoF_92, d117]; simp [escM, hu, finF])
            rw [hb] at hQ
            simp (disch := first | omega | assumption) only [hexA, go_sem, ↓reduceIte]
            exact hQ _ _ _ _ nofun rfl (by simp [tupOf, envOf, AV.strip, AV.strip1])
          | some u =>
            have h4 := unitG_len _ _ _ _ hu
            have h5 := unitM_lt hu
            have h6 : ¬ ((u : Int) < 0) := by omega
            have e : quoM lineB t0 = finF (quoF lineB (r.drop 4) ⟨out, us ++ [u], true⟩) := by rw [he, c92, quoF_92, d117]; simp [escM, hu]
            have h7 : validD (r.drop 4) = true := by rw [← validD_ascii 4 r (unitG_low 4 r 0 u hu)]; exact hvr
            have e6 : (p.length : Int) + 6 = ((s.length - (r.drop 4).length : Nat) : Int) := by rw [List.length_drop]; omega
            simp (disch := first | omega | assumption) only [hexA, h6, go_sem, ↓reduceIte]
            refine goP_ownS (by rw [hul]; exact ho) (by simp [hul]; omega) (by simp [hul, maxLen]; omega) fun o' H' hs => ?_
            have hs' := hs.own
            rw [hul] at hs'
            have nx := hJ (r.drop 4, out, us ++ [u], o') H' (by simp; omega) ⟨⟨p ++ [92, 117] ++ r.take 4, by rw [← hp, c92, d117]; simp⟩, h7, e, by simp; omega, by simpa using hs'⟩
            simp (disch := first | omega | assumption) only [w6, cU_snoc, go_sem, ↓reduceIte]
            exact goJ nx (by simp (disch := first | omega | assumption) only [e6, go_sem, ↓reduceIte])
        · have gd : ¬ ((d.toNat : Int) = 117) := fun e => d117 (UInt8.toNat_inj.1 (by have : (117 : UInt8).toNat = 117 := rfl; omega))
          have g34 : ¬ ((c.toNat : Int) = 34) := by rw [c92]; decide
          have g10 : ¬ ((c.toNat : Int) = 10) := by rw [c92]; decide
          have g13 : ¬ ((c.toNat : Int) = 13) := by rw [c92]; decide
          simp (disch := first | omega | assumption) only [h1, hlt, hg, g92, w1, h2, n1, hg2, hl0, gd, go_sem, ↓reduceIte]
          refine goK_pure (Pure.low (joinR us (by omega))) ?_
          cases hj : joinM us with
          | none =>
            have hb := bad (by rw [he]; exact finF_join hj fun r' _ e => d117 (List.cons.inj e).1)
            rw [hb] at hQ
            simp (disch := first | omega | assumption) only [Option.getD_none, Option.isSome_none, go_sem, ↓reduceIte]
            exact hQ _ _ _ _ nofun rfl (by simp [tupOf, envOf, AV.strip, AV.strip1])
          | some tt =>
            have htl := joinM_len us tt hj
            simp (disch := first | omega | assumption) only [h1, hlt, hg, g92, g34, g10, g13, w1, h3, h2, n1, hg2, hl0, Option.getD_some, Option.isSome_some, go_sem, ↓reduceIte]
            refine goK_pure (indexR escL d (by decide)) ?_
            have hix := idx_le escL d
            by_cases hk : Lib.indexByte escL d < 0
            · have hb := bad (by rw [he, c92, quoF_92]; simp [escM, d117, hk, finF])
              rw [hb] at hQ
              simp (disch := first | omega | assumption) only [hk, go_sem, ↓reduceIte]
              exact hQ _ _ _ _ nofun rfl (by simp [tupOf, envOf, AV.strip, AV.strip1])
            · have e : quoM lineB t0 = finF (quoF lineB r ⟨out ++ tt ++ [escV.getD (Lib.indexByte escL d).toNat 0], [], true⟩) := by
                rw [he, c92, quoF_92]; simp [escM, d117, hk, Sd.put, flushM, hj]
              have hlo := esc_low d hk
              have h8 : (Lib.indexByte escL d < 8) = True := eq_true hix.2
              have h9 : ((0 : Int) ≤ Lib.indexByte escL d) = True := eq_true (by omega)
              have eb : byts [[.int .u8 (([34, 92, 47, 8, 12, 10, 13, 9] : List UInt8).getD (Lib.indexByte escL d).toNat 0).toNat]] = some [escV.getD (Lib.indexByte escL d).toNat 0] := byts_of [_]
              have e6 : (p.length : Int) + 2 = ((s.length - r.length : Nat) : Int) := by omega
              have hvr : validD r = true := by rw [validD_cons _ _ hlo.1] at hvd; exact hvd
              have nx := hJ (r, out ++ tt ++ [escV.getD (Lib.indexByte escL d).toNat 0], [], .nil) H (by simp; omega) ⟨⟨p ++ [c, d], by rw [← hp]; simp⟩, hvr, e, by simp; omega, rfl⟩
              have w2' : IntKind.wrap .i64 ((p.length : Int) + 2) = (p.length : Int) + 2 := wrap64 (by omega) (by omega)
              simp (disch := first | omega | assumption) only [hk, h8, h9, eb, w2', List.length_append, go_sem, ↓reduceIte]
              exact goJ nx (by simp (disch := first | omega | assumption) only [e6, cU, go_sem, ↓reduceIte])
    · have g92 : ¬ ((c.toNat : Int) = 92) := fun e => c92 (UInt8.toNat_inj.1 (by have : (92 : UInt8).toNat = 92 := rfl; omega))
      simp (disch := first | omega | assumption) only [h1, hlt, hg, g92, go_sem, ↓reduceIte]
      refine goK_pure (Pure.low (joinR us (by omega))) ?_
      cases hj : joinM us with
      | none =>
        have hb := bad (by rw [he]; exact finF_join hj fun r' e => absurd e c92)
        rw [hb] at hQ
        simp (disch := first | omega | assumption) only [Option.getD_none, Option.isSome_none, go_sem, ↓reduceIte]
        exact hQ _ _ _ _ nofun rfl (by simp [tupOf, envOf, AV.strip, AV.strip1])
      | some tt =>
        have htl := joinM_len us tt hj
        by_cases c34 : c = 34
        · have g34 : ((c.toNat : Int) = 34) = True := eq_true (by rw [c34]; rfl)
          have e : quoM lineB t0 = some (out ++ tt, r) := by rw [he, c34, quoF_34]; simp [finF, flushM, hj]
          have e6 : (p.length : Int) + 1 = ((s.length - r.length : Nat) : Int) := by omega
          have hb : quotedA s.length (quoM lineB t0) = .tup [.str (out ++ tt), .int .i64 ((s.length - r.length : Nat) : Int), .bool true] := by rw [e]; rfl
          rw [hb] at hQ
          simp (disch := first | omega | assumption) only [h1, hlt, hg, g34, w1, Option.getD_some, Option.isSome_some, go_sem, ↓reduceIte]
          exact hQ _ _ _ _ nofun rfl (by simp [tupOf, envOf, AV.strip, AV.strip1, e6])
        · have g34 : ¬ ((c.toNat : Int) = 34) := fun e => c34 (UInt8.toNat_inj.1 (by have : (34 : UInt8).toNat = 34 := rfl; omega))
          by_cases c10 : c = 10
          · have g10 : ((c.toNat : Int) = 10) = True := eq_true (by rw [c10]; rfl)
            have hb := bad (by rw [he, quoF_c _ _ _ c34 c92, if_neg (by rw [c10]; decide)]; rfl)
            rw [hb] at hQ
            simp (disch := first | omega | assumption) only [h1, hlt, hg, g34, g10, Option.getD_some, Option.isSome_some, go_sem, ↓reduceIte]
            exact hQ _ _ _ _ nofun rfl (by simp [tupOf, envOf, AV.strip, AV.strip1])
          have g10 : ¬ ((c.toNat : Int) = 10) := fun e => c10 (UInt8.toNat_inj.1 (by have : (10 : UInt8).toNat = 10 := rfl; omega))
          by_cases c13 : c = 13
          · have g13 : ((c.toNat : Int) = 13) = True := eq_true (by rw [c13]; rfl)
            have hb := bad (by rw [he, quoF_c _ _ _ c34 c92, if_neg (by rw [c13]; decide)]; rfl)
            rw [hb] at hQ
            simp (disch := first | omega | assumption) only [h1, hlt, hg, g34, g10, g13, Option.getD_some, Option.isSome_some, go_sem, ↓reduceIte]
            exact hQ _ _ _ _ nofun rfl (by simp [tupOf, envOf, AV.strip, AV.strip1])
          have g13 : ¬ ((c.toNat : Int) = 13) := fun e => c13 (UInt8.toNat_inj.1 (by have : (13 : UInt8).toNat = 13 := rfl; omega))
          simp (disch := first | omega | assumption) only [h1, hlt, hg, g34, g10, g13, g92, Option.getD_some, Option.isSome_some, go_sem, ↓reduceIte]
          refine goK_pure (CodeR s p.length (by omega) (by simp only [Lim]; omega)) ?_
          rw [hdp]
          obtain ⟨hok, hvr⟩ := code_ok (l := c :: r) (by simp) hvt
          have e := quoF_code (out := out) hj hok (by simp) (by simpa using c34) (by simpa using c92) (by simp [lineB, c10, c13])
          have hkp := hok.pos
          have hkl := hok.len
          have hle := hok.le
          have henc := hok.enc
          have hel := (encM_len (codeN (c :: r)).1).1
          simp only [List.length_cons] at hkl
          generalize (codeN (c :: r)).1 = cc at *
          generalize (codeN (c :: r)).2 = k at *
          have w7 : IntKind.wrap .i64 ((p.length : Int) + (k : Int)) = (p.length : Int) + k := wrap64 (by omega) (by omega)
          have hk1 : ¬ ((k : Int) < 1) := by omega
          have e6 : (p.length : Int) + k = ((s.length - ((c :: r).drop k).length : Nat) : Int) := by simp; omega
          have htk : ((c :: r).take k).length = k := by simp; omega
          have nx := hJ ((c :: r).drop k, out ++ tt ++ (c :: r).take k, [], .nil) H (by simp; omega) ⟨⟨p ++ (c :: r).take k, by rw [← hp]; simp⟩, hvr, by rw [he, e], by simp only [List.length_append, htk, List.length_drop, List.length_cons, List.length_nil]; omega, rfl⟩
          simp (disch := first | omega | assumption) only [go_sem, ↓reduceIte]
          refine goK_pure (PutR cc hle) ?_
          rw [henc]
          have hmm : (if (1 : Int) > (k : Int) then (1 : Int) else k) = k := if_neg (by omega)
          simp (disch := first | omega | assumption) only [w7, hk1, hmm, htk, List.length_append, go_sem, ↓reduceIte]
          exact goJ nx (by simp (disch := first | omega | assumption) only [e6, cU, go_sem, ↓reduceIte])
end Go.Proofs.YtpjafglhdlfnbaaGreatDoor
namespace Go.Proofs.YtpjafglhdlfnbaaGreatDoor
open Go.Ab Go.Lib
def rr (s p : List UInt8) (dp : Nat) : AObj := .cells [.str s, .int .i64 (p.length : Int), .int .i64 (dp : Int), .int .i64 0]
def re (s : List UInt8) (a d n : Int) : AObj := .cells [.str s, .int .i64 a, .int .i64 d, .int .i64 n]
def AtR (H : Heap) (r : Nat) (s t : List UInt8) (dp : Nat) (H' : Heap) : Prop := ∃ p, p ++ t = s ∧ H' = H.upd r (rr s p dp)
def ErR (H : Heap) (r : Nat) (s : List UInt8) (n : Int) (H' : Heap) : Prop := n ≠ 0 ∧ ∃ a d, H' = H.upd r (re s a d n)
def RetR {α : Type} (H : Heap) (r : Nat) (s : List UInt8) (dp : Nat) (x : RR α) (f : α → AV) (bad : AV → Prop) (v : AV) (H' : Heap) : Prop := match x with
  | .ok (a, t') => v = f a ∧ AtR H r s t' dp H'
  | .error n => bad v ∧ ErR H r s n H'
abbrev Rt (H : Heap) (r : Nat) (R : AV → Heap → Prop) : AEnd → Heap → Prop := fun e H' => ∃ v, e = .ret v ∧ R v H'
theorem upd_self {H : Heap} {r : Nat} {x : AObj} (h : H r = some x) : H.upd r x = H := by
  funext c; by_cases e : c = r
  · subst e; simp [Heap.upd, h]
  · simp [Heap.upd, e]
theorem wrA {n : Nat} (h : n < 1000000000) : IntKind.wrap .i64 ((n : Int) + 1) = (n : Int) + 1 := wrap64 (by omega) (by omega)
theorem failR0 {H : Heap} {r : Nat} {s p : List UInt8} {dp : Nat} (hr : H r = some (rr s p dp)) (n : Int) : ACalls Tryz.prog 39 [.ptr r 0, .int .i64 n] H (Rt H r fun v H' => v = .tup [] ∧ H' = H.upd r (re s p.length dp n)) := by
  refine ACalls.go ir39 ck39 (Nat.le_refl _) fun KP Q hQ => ?_
  simp only [rr] at hr
  simp (disch := first | omega | assumption) only [ir39, hr, go_sem, ↓reduceIte]
  exact hQ _ _ _ _ [] nofun rfl (Low.refl _) ⟨rfl, rfl⟩
theorem failR1 {H : Heap} {r : Nat} {s : List UInt8} {a d n : Int} (hn : n ≠ 0) (hr : H r = some (re s a d n)) (m : Int) : ACalls Tryz.prog 39 [.ptr r 0, .int .i64 m] H (Rt H r fun v H' => v = .tup [] ∧ H' = H) := by
  refine ACalls.go ir39 ck39 (Nat.le_refl _) fun KP Q hQ => ?_
  simp only [re] at hr
  simp (disch := first | omega | assumption) only [ir39, hr, hn, go_sem, ↓reduceIte]
  exact hQ _ _ _ H [] nofun rfl (Low.refl _) ⟨rfl, rfl⟩
theorem peekR0 {H : Heap} {r : Nat} {s p t : List UInt8} {dp : Nat} (hs : p ++ t = s) (hr : H r = some (rr s p dp)) : ACalls Tryz.prog 70 [.ptr r 0] H (Rt H r fun v H' => v = .int .u8 ((t.headD 0).toNat : Int) ∧ H' = H) := by
  refine ACalls.go ir70 ck70 (Nat.le_refl _) fun KP Q hQ => ?_
  simp only [rr] at hr
  have hlen : p.length + t.length = s.length := by rw [← hs]; simp
  cases t with
  | nil =>
    have h1 : ((s.length : Int) ≤ p.length) = True := eq_true (by simp at hlen; omega)
    simp (disch := first | omega | assumption) only [ir70, hr, h1, go_sem, ↓reduceIte]
    exact hQ _ _ _ H [_] nofun rfl (Low.refl _) ⟨rfl, rfl⟩
  | cons c t =>
    have h1 : ¬ ((s.length : Int) ≤ p.length) := by simp at hlen; omega
    have h2 : ((p.length : Int) < s.length) = True := eq_true (by simp at hlen; omega)
    have hc : s.getD p.length 0 = c := by rw [← hs]; simp
    simp (disch := first | omega | assumption) only [ir70, hr, h1, h2, hc, go_sem, ↓reduceIte]
    exact hQ _ _ _ H [_] nofun rfl (Low.refl _) ⟨rfl, rfl⟩
theorem peekR1 {H : Heap} {r : Nat} {s : List UInt8} {a d n : Int} (hn : n ≠ 0) (hr : H r = some (re s a d n)) : ACalls Tryz.prog 70 [.ptr r 0] H (Rt H r fun v H' => v = .int .u8 0 ∧ H' = H) := by
  refine ACalls.go ir70 ck70 (Nat.le_refl _) fun KP Q hQ => ?_
  simp only [re] at hr
  simp (disch := first | omega | assumption) only [ir70, hr, hn, go_sem, ↓reduceIte]
  exact hQ _ _ _ H [_] nofun rfl (Low.refl _) ⟨rfl, rfl⟩
theorem bk_eq (c : UInt8) : bk c = (decide (c.toNat = 9) || (decide (c.toNat = 10) || (decide (c.toNat = 13) || decide (c.toNat = 32)))) :=
  u8_all (P := fun c => bk c = (decide (c.toNat = 9) || (decide (c.toNat = 10) || (decide (c.toNat = 13) || decide (c.toNat = 32))))) (by decide +kernel) c
theorem blanksR0 {H : Heap} {r : Nat} {s p t : List UInt8} {dp : Nat} (hs : p ++ t = s) (hl : s.length ≤ LimS) (hr : H r = some (rr s p dp)) :
    ACalls Tryz.prog 38 [.ptr r 0] H (Rt H r fun v H' => v = .tup [] ∧ AtR H r s (skB t) dp H') := by
  refine ACalls.go ir38 ck38 (Nat.le_refl _) fun KP Q hQ => ?_
  simp only [LimS] at hl
  simp (disch := first | omega | assumption) only [ir38, go_sem, ↓reduceIte]
  refine goL_st (fun _ : List UInt8 × List UInt8 => []) (fun x H' => x.1 ++ x.2 = s ∧ skB x.2 = skB t ∧ H' = H.upd r (rr s x.1 dp)) (fun x => x.2.length) (p, t) (by simp (disch := first | omega | assumption) only [go_sem, ↓reduceIte]) ⟨hs, rfl, (upd_self hr).symm⟩ ?_
  rintro ⟨q, u⟩ H' J ⟨hq, hu, rfl⟩ hJ
  simp only at hq hu
  have hg : (H.upd r (rr s q dp)) r = some (rr s q dp) := upd_same ..
  have hg' : (H.upd r (rr s q dp)) r = some (.cells [.str s, .int .i64 (q.length : Int), .int .i64 (dp : Int), .int .i64 0]) := hg
  have hlen : q.length + u.length = s.length := by rw [← hq]; simp
  have hpk := peekR0 hq hg
  cases u with
  | nil =>
    have hpk : ACalls Tryz.prog 70 [.ptr r 0] (H.upd r (rr s q dp)) (Rt (H.upd r (rr s q dp)) r fun v H' => v = .int .u8 0 ∧ H' = H.upd r (rr s q dp)) := hpk
    simp (disch := first | omega | assumption) only [go_sem, ↓reduceIte]
    refine goK_ret hpk fun v H1 ⟨hv, hH⟩ => ?_
    subst hv; subst hH
    simp (disch := first | omega | assumption) only [go_sem, ↓reduceIte]
    refine goK_ret hpk fun v H1 ⟨hv, hH⟩ => ?_
    subst hv; subst hH
    simp (disch := first | omega | assumption) only [go_sem, ↓reduceIte]
    refine goK_ret hpk fun v H1 ⟨hv, hH⟩ => ?_
    subst hv; subst hH
    simp (disch := first | omega | assumption) only [go_sem, ↓reduceIte]
    refine goK_ret hpk fun v H1 ⟨hv, hH⟩ => ?_
    subst hv; subst hH
    simp (disch := first | omega | assumption) only [go_sem, ↓reduceIte]
    exact hQ _ _ _ _ [] nofun rfl (Low.refl _) ⟨rfl, q, by rw [← hu]; simpa [skB] using hq, rfl⟩
  | cons c u =>
    simp only [List.headD_cons] at hpk
    have hw : IntKind.wrap .i64 ((q.length : Int) + 1) = (q.length : Int) + 1 := wrA (by simp at hlen; omega)
    have e := bk_eq c
    have stop : bk c = false → ∃ p, p ++ skB t = s ∧ H.upd r (rr s q dp) = H.upd r (rr s p dp) := fun hb => ⟨q, by rw [← hu, skB, hb]; simpa using hq, rfl⟩
    have nx : bk c = true → J ((setAll _ []).keep [0]) (H.upd r (.cells [.str s, .int .i64 ((q.length : Int) + 1), .int .i64 (dp : Int), .int .i64 0])) := fun hb =>
      hJ (q ++ [c], u) _ (by simp) ⟨by simpa using hq, by rw [← hu]; simp [skB, hb], by simp [rr]⟩
    simp (disch := first | omega | assumption) only [go_sem, ↓reduceIte]
    refine goK_ret hpk fun v H1 ⟨hv, hH⟩ => ?_
    subst hv; subst hH
    by_cases c1 : c.toNat = 9
    · have g1 : ((c.toNat : Int) = 9) = True := eq_true (by omega)
      simp (disch := first | omega | assumption) only [g1, hg', hw, go_sem, ↓reduceIte]
      exact goJ (nx (by rw [e]; simp [c1])) (by simp (disch := first | omega | assumption) only [go_sem, ↓reduceIte])
    have g1 : ¬ ((c.toNat : Int) = 9) := by omega
    simp (disch := first | omega | assumption) only [g1, go_sem, ↓reduceIte]
    refine goK_ret hpk fun v H1 ⟨hv, hH⟩ => ?_
    subst hv; subst hH
    by_cases c2 : c.toNat = 10
    · have g2 : ((c.toNat : Int) = 10) = True := eq_true (by omega)
      simp (disch := first | omega | assumption) only [g2, hg', hw, go_sem, ↓reduceIte]
      exact goJ (nx (by rw [e]; simp [c2])) (by simp (disch := first | omega | assumption) only [go_sem, ↓reduceIte])
    have g2 : ¬ ((c.toNat : Int) = 10) := by omega
    simp (disch := first | omega | assumption) only [g2, go_sem, ↓reduceIte]
    refine goK_ret hpk fun v H1 ⟨hv, hH⟩ => ?_
    subst hv; subst hH
    by_cases c3 : c.toNat = 13
    · have g3 : ((c.toNat : Int) = 13) = True := eq_true (by omega)
      simp (disch := first | omega | assumption) only [g3, hg', hw, go_sem, ↓reduceIte]
      exact goJ (nx (by rw [e]; simp [c3])) (by simp (disch := first | omega | assumption) only [go_sem, ↓reduceIte])
    have g3 : ¬ ((c.toNat : Int) = 13) := by omega
    simp (disch := first | omega | assumption) only [g3, go_sem, ↓reduceIte]
    refine goK_ret hpk fun v H1 ⟨hv, hH⟩ => ?_
    subst hv; subst hH
    by_cases c4 : c.toNat = 32
    · have g4 : ((c.toNat : Int) = 32) = True := eq_true (by omega)
      simp (disch := first | omega | assumption) only [g4, hg', hw, go_sem, ↓reduceIte]
      exact goJ (nx (by rw [e]; simp [c4])) (by simp (disch := first | omega | assumption) only [go_sem, ↓reduceIte])
    have g4 : ¬ ((c.toNat : Int) = 32) := by omega
    simp (disch := first | omega | assumption) only [g4, go_sem, ↓reduceIte]
    exact hQ _ _ _ _ [] nofun rfl (Low.refl _) ⟨rfl, stop (by rw [e]; simp [c1, c2, c3, c4])⟩
theorem blanksR1 {H : Heap} {r : Nat} {s : List UInt8} {a d n : Int} (hn : n ≠ 0) (hr : H r = some (re s a d n)) : ACalls Tryz.prog 38 [.ptr r 0] H (Rt H r fun v H' => v = .tup [] ∧ H' = H) := by
  refine ACalls.go ir38 ck38 (Nat.le_refl _) fun KP Q hQ => ?_
  have hpk := peekR1 hn hr
  simp (disch := first | omega | assumption) only [ir38, go_sem, ↓reduceIte]
  refine goL_st (fun _ : Unit => []) (fun x H' => H' = H) (fun x => 0) () (by simp (disch := first | omega | assumption) only [go_sem, ↓reduceIte]) rfl ?_
  rintro _ H' J rfl hJ
  simp (disch := first | omega | assumption) only [go_sem, ↓reduceIte]
  refine goK_ret hpk fun v H1 ⟨hv, hH⟩ => ?_
  subst hv; subst hH
  simp (disch := first | omega | assumption) only [go_sem, ↓reduceIte]
  refine goK_ret hpk fun v H1 ⟨hv, hH⟩ => ?_
  subst hv; subst hH
  simp (disch := first | omega | assumption) only [go_sem, ↓reduceIte]
  refine goK_ret hpk fun v H1 ⟨hv, hH⟩ => ?_
  subst hv; subst hH
  simp (disch := first | omega | assumption) only [go_sem, ↓reduceIte]
  refine goK_ret hpk fun v H1 ⟨hv, hH⟩ => ?_
  subst hv; subst hH
  simp (disch := first | omega | assumption) only [go_sem, ↓reduceIte]
  exact hQ _ _ _ _ [] nofun rfl (Low.refl _) ⟨rfl, rfl⟩
def takeM (c : UInt8) (t : List UInt8) : RR Unit := match t with
  | d :: t' => if d = c then .ok ((), t') else .error 2
  | [] => .error 2
theorem takeR0 {H : Heap} {r : Nat} {s p t : List UInt8} {dp : Nat} (c : UInt8) (hc : c ≠ 0) (hs : p ++ t = s) (hl : s.length ≤ LimS) (hr : H r = some (rr s p dp)) :
    ACalls Tryz.prog 117 [.ptr r 0, .int .u8 (c.toNat : Int)] H (Rt H r fun v H' => v = .tup [] ∧ match takeM c t with | .ok (_, t') => AtR H r s t' dp H' | .error n => ErR H r s n H') := by
  refine ACalls.go ir117 ck117 (Nat.le_refl _) fun KP Q hQ => ?_
  simp only [LimS] at hl
  have hlen : p.length + t.length = s.length := by rw [← hs]; simp
  simp (disch := first | omega | assumption) only [ir117, go_sem, ↓reduceIte]
  refine goK_ret (peekR0 hs hr) fun v H1 ⟨hv, hH⟩ => ?_
  subst hv; subst hH
  have hr' := hr
  simp only [rr] at hr'
  cases t with
  | nil =>
    have h0 : ¬ ((((0 : UInt8).toNat : Nat) : Int) = c.toNat) := by rw [u8_eq]; exact fun e => hc e.symm
    simp (disch := first | omega | assumption) only [h0, List.headD_nil, go_sem, ↓reduceIte]
    refine goK_ret (failR0 hr 2) fun v H2 ⟨hv, hH⟩ => ?_
    subst hv; subst hH
    simp (disch := first | omega | assumption) only [go_sem, ↓reduceIte]
    exact hQ _ _ _ _ [] nofun rfl (Low.refl _) ⟨rfl, by simp [takeM]; exact ⟨by decide, _, _, rfl⟩⟩
  | cons d t =>
    by_cases hd : d = c
    · have h0 : ((d.toNat : Int) = c.toNat) = True := eq_true (by rw [hd])
      have hw : IntKind.wrap .i64 ((p.length : Int) + 1) = (p.length : Int) + 1 := wrA (by simp at hlen; omega)
      simp (disch := first | omega | assumption) only [h0, hr', hw, go_sem, ↓reduceIte]
      refine hQ _ _ _ _ [] nofun rfl (Low.refl _) ⟨rfl, ?_⟩
      simp only [takeM]; rw [if_pos hd]
      exact ⟨p ++ [d], by simpa using hs, by simp [rr]⟩
    · have h0 : ¬ ((d.toNat : Int) = c.toNat) := by rw [u8_eq]; exact hd
      simp (disch := first | omega | assumption) only [h0, go_sem, ↓reduceIte]
      refine goK_ret (failR0 hr 2) fun v H2 ⟨hv, hH⟩ => ?_
      subst hv; subst hH
      simp (disch := first | omega | assumption) only [go_sem, ↓reduceIte]
      refine hQ _ _ _ _ [] nofun rfl (Low.refl _) ⟨rfl, ?_⟩
      simp only [takeM]; rw [if_neg hd]
      exact ⟨by decide, _, _, rfl⟩
theorem takeR1 {H : Heap} {r : Nat} {s : List UInt8} {a d n : Int} (c : UInt8) (hc : c ≠ 0) (hn : n ≠ 0) (hr : H r = some (re s a d n)) : ACalls Tryz.prog 117 [.ptr r 0, .int .u8 (c.toNat : Int)] H (Rt H r fun v H' => v = .tup [] ∧ H' = H) := by
  refine ACalls.go ir117 ck117 (Nat.le_refl _) fun KP Q hQ => ?_
  simp (disch := first | omega | assumption) only [ir117, go_sem, ↓reduceIte]
  refine goK_ret (peekR1 hn hr) fun v H1 ⟨hv, hH⟩ => ?_
  subst hv; subst hH
  have h0 : ¬ ((0 : Int) = c.toNat) := by
    have := u8_eq (a := 0) (b := c)
    intro e
    have e2 : (((0 : UInt8).toNat : Nat) : Int) = c.toNat := e
    rw [u8_eq] at e2; exact hc e2.symm
  simp (disch := first | omega | assumption) only [h0, go_sem, ↓reduceIte]
  refine goK_ret (failR1 hn hr 2) fun v H2 ⟨hv, hH⟩ => ?_
  subst hv; subst hH
  simp (disch := first | omega | assumption) only [go_sem, ↓reduceIte]
  exact hQ _ _ _ _ [] nofun rfl (Low.refl _) ⟨rfl, rfl⟩
end Go.Proofs.YtpjafglhdlfnbaaGreatDoor
namespace Go.Proofs.YtpjafglhdlfnbaaGreatDoor
open Go.Ab Go.Lib
theorem wordR0 {H : Heap} {r : Nat} {s p t : List UInt8} {dp : Nat} (x : List UInt8) (hx : x.length ≤ 10) (cs : List AV) (h5 : cs.length = 5) (hs : p ++ t = s) (hl : s.length ≤ LimS) (hr : H r = some (rr s p dp)) :
    ACalls Tryz.prog 71 [.ptr r 0, .str x, .agg cs] H (fun e H' => match e with | .ret v => (v = .agg (cs.map AV.strip1) ∧ if x.isPrefixOf t then AtR H r s (t.drop x.length) dp H' else ErR H r s 2 H') | .pan _ => False) := by
  refine retStrip (R := fun v H' => v = .agg (cs.map AV.strip1) ∧ if x.isPrefixOf t then AtR H r s (t.drop x.length) dp H' else ErR H r s 2 H') (RP := fun _ _ => False) ?_
  refine ACalls.goO (R := fun v H' => v.strip = .agg (cs.map AV.strip1) ∧ if x.isPrefixOf t then AtR H r s (t.drop x.length) dp H' else ErR H r s 2 H') (RP := fun _ _ => False) ir71 ck71 (Nat.le_refl _) fun KP Q hQ hP => ?_
  simp only [LimS] at hl
  have hr' := hr
  simp only [rr] at hr'
  have t5 : cs.take 5 = cs := List.take_of_length_le (by omega)
  have hsp : splice [.int .i64 0, .int .i64 0, .str [], .sl .nil 5 [], .sl .nil 6 []] 0 cs = cs := by
    unfold splice; simp [h5]
  have l5 : 5 ≤ cs.length := by omega
  have hlen : p.length + t.length = s.length := by rw [← hs]; simp
  have hw : IntKind.wrap .i64 ((s.length : Int) - x.length) = (s.length : Int) - x.length := wrap64 (by omega) (by omega)
  have hw2 : IntKind.wrap .i64 ((p.length : Int) + x.length) = ((p.length + x.length : Nat) : Int) := by rw [wrap64 (by omega) (by omega)]; omega
  have fin : ∀ (H1 : Heap) (b : Nat), H b = none → ∃ H2, Low H2 ((H1.upd b (.cells cs))) := fun H1 b _ => ⟨_, Low.refl _⟩
  simp (disch := first | omega | assumption) only [ir71, h5, go_sem, ↓reduceIte]
  refine goA_intro fun b hb => ?_
  have nb : r ≠ b := fun e => by subst e; rw [hb] at hr; cases hr
  have nb' : b ≠ r := Ne.symm nb
  by_cases hlt : t.length < x.length
  · have g1 : ((s.length : Int) - x.length < p.length) = True := eq_true (by omega)
    have hpre : x.isPrefixOf t = false := by
      cases hp : x.isPrefixOf t with
      | false => rfl
      | true => have := (List.isPrefixOf_iff_prefix.1 hp).length_le; omega
    simp (disch := first | omega | assumption) only [hr', nb, nb', hw, g1, go_sem, ↓reduceIte]
    refine goK_ret (failR0 (s := s) (p := p) (dp := dp) (by rw [upd_ne nb]; exact hr) 2) fun v H2 ⟨hv, hH⟩ => ?_
    subst hv
    have k2 : H2 b = some (.cells [.int .i64 0, .int .i64 0, .str [], .sl .nil 5 [], .sl .nil 6 []]) := by rw [hH, upd_ne nb', upd_same]
    simp (disch := first | omega | assumption) only [k2, t5, h5, hsp, l5, go_sem, ↓reduceIte]
    refine hQ _ _ _ (H.upd r (re s p.length dp 2)) [.agg cs] nofun (by simp (disch := first | omega | assumption) only [ir71, resvs, resv, upd_same, t5, l5, go_sem, ↓reduceIte]) ?_ ⟨rfl, by rw [hpre]; exact ⟨by decide, _, _, rfl⟩⟩
    refine Low.of_sub fun c y hc => ?_
    have hcb : c ≠ b := fun e => by subst e; rw [upd_ne nb', hb] at hc; cases hc
    rw [upd_ne hcb, hH]
    by_cases e : c = r
    · subst e; rw [upd_same] at hc ⊢; exact hc
    · rw [upd_ne e] at hc ⊢; rw [upd_ne hcb]; exact hc
  · have g1 : ¬ ((s.length : Int) - x.length < p.length) := by omega
    have g2 : (p.length : Int) ≤ ((p.length + x.length : Nat) : Int) := by omega
    have g3 : (((p.length + x.length : Nat) : Int) ≤ s.length) = True := eq_true (by omega)
    have e3 : (s.take (p.length + x.length)).drop p.length = t.take x.length := by rw [← hs]; simp [List.take_append, List.drop_append]
    have e4 : x.isPrefixOf t = decide (t.take x.length = x) := by
      by_cases h : t.take x.length = x
      · have : x <+: t := ⟨t.drop x.length, by rw [← List.take_append_drop x.length t]; congr 1 <;> simp [h]⟩
        simp [h, List.isPrefixOf_iff_prefix, this]
      · have : x.isPrefixOf t = false := by
          cases hp : x.isPrefixOf t with
          | false => rfl
          | true =>
            obtain ⟨z, hz⟩ := List.isPrefixOf_iff_prefix.1 hp
            exact absurd (by rw [← hz]; simp) h
        simp [h, this]
    by_cases hx2 : t.take x.length = x
    · have hpre : x.isPrefixOf t = true := by rw [e4]; simp [hx2]
      simp (disch := first | omega | assumption) only [hr', nb, nb', hw, hw2, g1, g2, g3, e3, hx2, upd_same, t5, l5, h5, hsp, go_sem, ↓reduceIte]
      refine hQ _ _ _ (H.upd r (rr s (p ++ x) dp)) [.agg cs] nofun (by simp (disch := first | omega | assumption) only [ir71, resvs, resv, upd_same, t5, l5, go_sem, ↓reduceIte]) ?_ ⟨rfl, by rw [hpre]; exact ⟨p ++ x, by rw [← hs, List.append_assoc]; congr 1; conv => rhs; rw [← List.take_append_drop x.length t, hx2], rfl⟩⟩
      refine Low.of_sub fun c y hc => ?_
      have hcb : c ≠ b := fun e => by subst e; rw [upd_ne nb', hb] at hc; cases hc
      by_cases e : c = r
      · subst e; simp only [Heap.upd, nb, if_false, if_true, rr] at hc ⊢; rw [← hc]; simp
      · rw [upd_ne e] at hc; simp only [Heap.upd, e, hcb, if_false]; exact hc
    · have hpre : x.isPrefixOf t = false := by rw [e4]; simp [hx2]
      simp (disch := first | omega | assumption) only [hr', nb, nb', hw, hw2, g1, g2, g3, e3, hx2, go_sem, ↓reduceIte]
      refine goK_ret (failR0 (s := s) (p := p) (dp := dp) (by rw [upd_ne nb]; exact hr) 2) fun v H2 ⟨hv, hH⟩ => ?_
      subst hv
      have k2 : H2 b = some (.cells [.int .i64 0, .int .i64 0, .str [], .sl .nil 5 [], .sl .nil 6 []]) := by rw [hH, upd_ne nb', upd_same]
      simp (disch := first | omega | assumption) only [k2, t5, h5, hsp, l5, go_sem, ↓reduceIte]
      refine hQ _ _ _ (H.upd r (re s p.length dp 2)) [.agg cs] nofun (by simp (disch := first | omega | assumption) only [ir71, resvs, resv, upd_same, t5, l5, go_sem, ↓reduceIte]) ?_ ⟨rfl, by rw [hpre]; exact ⟨by decide, _, _, rfl⟩⟩
      refine Low.of_sub fun c y hc => ?_
      have hcb : c ≠ b := fun e => by subst e; rw [upd_ne nb', hb] at hc; cases hc
      rw [upd_ne hcb, hH]
      by_cases e : c = r
      · subst e; rw [upd_same] at hc ⊢; exact hc
      · rw [upd_ne e] at hc ⊢; rw [upd_ne hcb]; exact hc
end Go.Proofs.YtpjafglhdlfnbaaGreatDoor
namespace Go.Proofs.YtpjafglhdlfnbaaGreatDoor
open Go.Ab Go.Lib
theorem i64_val {s : List UInt8} (h : numK s = 3) (h2 : (i64R s).2 = true) : (i64R s).1 = valI s := by
  unfold valI
  rw [Lib.parseIntB_64]
  rcases num3 h with ⟨t, rfl, hne, hd⟩ | ⟨c, t, rfl, hd⟩
  · have h1 := i64N_digits t 0 hd (by omega)
    have h3 := parse_digits t 0 hd (by omega)
    simp only [Int.natCast_zero, Int.neg_zero] at h1
    rw [Lib.atoiAll_minus]
    rw [i64R_neg, h1] at h2 ⊢
    unfold Lib.parseMag
    rw [if_neg hne, h3]
    generalize decV 0 t = V at h2 ⊢
    by_cases a : V ≤ 9223372036854775808
    · rw [if_pos a, if_pos (by omega)]
      simp only [Lib.signed]
      rw [if_neg (by omega)]
    · rw [if_neg a] at h2; cases h2
  · have h1 := i64N_digits (c :: t) 0 hd (by omega)
    have h3 := parse_digits (c :: t) 0 hd (by omega)
    have hc := hd c (by simp)
    simp only [isD, Bool.and_eq_true, decide_eq_true_eq] at hc
    have h45 : c ≠ 45 := fun e => by subst e; simp at hc
    simp only [Int.natCast_zero, Int.neg_zero] at h1
    rw [Lib.atoiAll_plain c t (by omega) (by omega)]
    rw [i64R_pos t h45, h1] at h2 ⊢
    unfold Lib.parseMag
    rw [if_neg (List.cons_ne_nil c t), h3]
    generalize decV 0 (c :: t) = V at h2 ⊢
    by_cases a : V ≤ 9223372036854775808
    · rw [if_pos a] at h2
      rw [if_pos a, if_pos (by omega)]
      simp only [Lib.signless] at h2 ⊢
      by_cases b : V = 9223372036854775808
      · rw [if_pos (by omega)] at h2; cases h2
      · rw [if_neg (by omega), if_neg (by omega)]; simp only; omega
    · rw [if_neg a] at h2; cases h2
def bad5 (v : AV) : Prop := ∃ cs, v = .agg cs ∧ cs.length = 5
theorem nch_eq (c : UInt8) : nch c = ((decide (48 ≤ c.toNat) && decide (c.toNat ≤ 57)) || (decide (c.toNat = 43) || (decide (c.toNat = 45) || (decide (c.toNat = 46) || (decide (c.toNat = 101) || decide (c.toNat = 69)))))) :=
  u8_all (P := fun c => nch c = ((decide (48 ≤ c.toNat) && decide (c.toNat ≤ 57)) || (decide (c.toNat = 43) || (decide (c.toNat = 45) || (decide (c.toNat = 46) || (decide (c.toNat = 101) || decide (c.toNat = 69))))))) (by decide +kernel) c
abbrev z5 : List AV := [.int .i64 0, .int .i64 0, .str [], .sl .nil 5 [], .sl .nil 6 []]
set_option maxHeartbeats 2000000 in
theorem numberR0 {H : Heap} {r : Nat} {s p t : List UInt8} {dp : Nat} (hs : p ++ t = s) (hl : s.length ≤ LimS) (hr : H r = some (rr s p dp)) :
    ACalls Tryz.prog 72 [.ptr r 0] H (fun e H' => match e with | .ret v => RetR H r s dp (numM t) (fun v => .agg (cV v)) bad5 v H' | .pan _ => False) := by
  refine retStrip (R := fun v H' => RetR H r s dp (numM t) (fun v => .agg (cV v)) bad5 v H') (RP := fun _ _ => False) ?_
  refine ACalls.goO (R := fun v H' => RetR H r s dp (numM t) (fun v => .agg (cV v)) bad5 v.strip H') (RP := fun _ _ => False) ir72 ck72 (Nat.le_refl _) fun KP Q hQ hP => ?_
  have hl0 := hl
  simp only [LimS] at hl
  have hr' := hr
  simp only [rr] at hr'
  simp (disch := first | omega | assumption) only [ir72, go_sem, ↓reduceIte]
  refine goA_intro fun b hb => ?_
  have nb : r ≠ b := fun e => by subst e; rw [hb] at hr; cases hr
  have nb' : b ≠ r := Ne.symm nb
  simp (disch := first | omega | assumption) only [hr', nb, go_sem, ↓reduceIte]
  refine goL_st (fun _ : List UInt8 × List UInt8 => []) (fun x H' => p ++ (x.1 ++ x.2) = s ∧ x.1 ++ x.2.takeWhile nch = t.takeWhile nch ∧ x.2.dropWhile nch = t.dropWhile nch ∧ H' = (H.upd r (rr s (p ++ x.1) dp)).upd b (.cells z5)) (fun x => x.2.length) ([], t) (by simp (disch := first | omega | assumption) only [go_sem, ↓reduceIte]) ⟨by simpa using hs, by simp, rfl, ?_⟩ ?_
  · have e : H.upd r (rr s (p ++ []) dp) = H := upd_self (by simpa using hr)
    rw [e]
  rintro ⟨q, u⟩ H' J ⟨hq, hu, hd, rfl⟩ hJ
  simp only at hq hu hd
  have hg : ((H.upd r (rr s (p ++ q) dp)).upd b (.cells z5)) r = some (rr s (p ++ q) dp) := by rw [upd_ne nb, upd_same]
  have hg' : ((H.upd r (rr s (p ++ q) dp)).upd b (.cells z5)) r = some (.cells [.str s, .int .i64 ((p ++ q).length : Int), .int .i64 (dp : Int), .int .i64 0]) := hg
  have hgb : ((H.upd r (rr s (p ++ q) dp)).upd b (.cells z5)) b = some (.cells z5) := upd_same ..
  have hlen : (p ++ q).length + u.length = s.length := by rw [← hq]; simp; omega
  have hpk := peekR0 (t := u) (by rw [List.append_assoc]; exact hq) hg
  have hfail := failR0 hg 2
  have b1 : ((p.length : Int) ≤ ((p ++ q).length : Nat)) = True := eq_true (by simp; omega)
  have b2 : ((((p ++ q).length : Nat) : Int) ≤ s.length) = True := eq_true (by omega)
  have e3 : (s.take (p ++ q).length).drop p.length = q := by rw [← hq, ← List.append_assoc, List.take_left, List.drop_left]
  have hql : q.length ≤ Lim := by simp at hlen; simp only [Lim]; omega
  have fin : (u = [] ∨ ∃ c u', u = c :: u' ∧ nch c = false) → q = t.takeWhile nch ∧ u = t.dropWhile nch := by
    rintro (rfl | ⟨c, u', rfl, hc⟩)
    · simp only [List.takeWhile_nil, List.append_nil, List.dropWhile_nil] at hu hd; exact ⟨hu, hd⟩
    · simp only [List.takeWhile_cons, hc, List.dropWhile_cons, Bool.false_eq_true, if_false, List.append_nil] at hu hd; exact ⟨hu, hd⟩
  have hat : AtR H r s u dp (H.upd r (rr s (p ++ q) dp)) := ⟨p ++ q, by rw [List.append_assoc]; exact hq, rfl⟩
  have hE : ErR H r s 2 (H.upd r (re s (p ++ q).length dp 2)) := ⟨by decide, _, _, rfl⟩
  have hEl : ∀ y : AObj, Low (H.upd r (re s (p ++ q).length dp 2)) ((((H.upd r (rr s (p ++ q) dp)).upd b (.cells z5)).upd r (re s (p ++ q).length dp 2)).upd b y) := fun y => Low.of_sub fun c z hc => by
    have hcb : c ≠ b := fun e => by subst e; rw [upd_ne nb', hb] at hc; cases hc
    rw [upd_ne hcb]
    by_cases e : c = r
    · subst e; rw [upd_same] at hc ⊢; exact hc
    · rw [upd_ne e] at hc ⊢; rw [upd_ne hcb, upd_ne e]; exact hc
  have hAl : ∀ y : AObj, Low (H.upd r (rr s (p ++ q) dp)) ((H.upd r (rr s (p ++ q) dp)).upd b y) := fun y => (Low.refl _).upd (by rw [upd_ne nb']; exact hb)
  have hgo : ∀ (ENDS : u = [] ∨ ∃ c u', u = c :: u' ∧ nch c = false), True := fun _ => trivial
  have k0 : numK q = 0 → (u = [] ∨ ∃ c u', u = c :: u' ∧ nch c = false) → numM t = .error 2 := fun h he => by unfold numM; rw [← (fin he).1, if_pos h]
  have k1 : numK q ≠ 0 → (u = [] ∨ ∃ c u', u = c :: u' ∧ nch c = false) → numM t = .ok (numV q, u) := fun h he => by unfold numM; rw [← (fin he).1, if_neg h, ← (fin he).2]
  have hint := int64R q hql
  have hnum := NumberR q hql
  have hk3 := numK_kinds q
  have w3 : numK q = 3 → wholeB q = (i64R q).2 := fun h => by simp [wholeB, h, i64_ok h]
  cases u with
  | nil =>
    have hpk : ACalls Tryz.prog 70 [.ptr r 0] _ (Rt _ r fun v H' => v = .int .u8 0 ∧ H' = _) := hpk
    simp (disch := first | omega | assumption) only [go_sem, ↓reduceIte]
    refine goK_ret hpk fun v H1 ⟨hv, hH⟩ => ?_
    subst hv; subst hH
    simp (disch := first | omega | assumption) only [hg', b1, b2, e3, hgb, go_sem, ↓reduceIte]
    refine goK_pure hnum ?_
    rcases hk3 with hk | hk | hk
    · have hm := k0 hk (.inl rfl)
      simp (disch := first | omega | assumption) only [hk, go_sem, ↓reduceIte]
      refine goK_ret hfail fun v H2 ⟨hv, hH⟩ => ?_
      subst hv; subst hH
      have gb : (((H.upd r (rr s (p ++ q) dp)).upd b (.cells z5)).upd r (re s (p ++ q).length dp 2)) b = some (.cells z5) := by rw [upd_ne nb', upd_same]
      simp (disch := first | omega | assumption) only [gb, go_sem, ↓reduceIte]
      exact hQ _ _ _ _ [.agg z5] nofun (by simp (disch := first | omega | assumption) only [ir72, resvs, resv, upd_same, go_sem, ↓reduceIte]) (hEl _) (by rw [hm]; exact ⟨⟨_, rfl, rfl⟩, hE⟩)
    · have hm := k1 (by omega) (.inl rfl)
      have hw2 := w3 hk
      simp (disch := first | omega | assumption) only [hk, go_sem, ↓reduceIte]
      refine goK_pure hint ?_
      cases ho : (i64R q).2
      · rw [ho] at hw2
        simp (disch := first | omega | assumption) only [hgb, go_sem, ↓reduceIte]
        exact hQ _ _ _ _ [.agg [.int .i64 3, .int .i64 0, .str q, .sl .nil 5 [], .sl .nil 6 []]] nofun (by simp (disch := first | omega | assumption) only [ir72, resvs, resv, upd_same, go_sem, ↓reduceIte]) (hAl _) (by rw [hm]; exact ⟨by simp [tupOf, AV.strip, AV.strip1, numV, hw2, cV, cVs, cMs], hat⟩)
      · rw [ho] at hw2
        have hvl := i64_val hk ho
        rw [hvl]
        simp (disch := first | omega | assumption) only [go_sem, ↓reduceIte]
        refine goK_pure (intR _) ?_
        simp (disch := first | omega | assumption) only [hgb, cV, cVs, cMs, go_sem, ↓reduceIte]
        exact hQ _ _ _ _ [.agg [.int .i64 2, .int .i64 (valI q), .str [], .sl .no 5 [], .sl .no 6 []]] nofun (by simp (disch := first | omega | assumption) only [ir72, resvs, resv, upd_same, go_sem, ↓reduceIte]) (hAl _) (by rw [hm]; exact ⟨by simp [tupOf, AV.strip, AV.strip1, numV, hw2, cV, cVs, cMs], hat⟩)
    · have hm := k1 (by omega) (.inl rfl)
      have hw2 : wholeB q = false := by simp [wholeB, hk]
      simp (disch := first | omega | assumption) only [hk, hgb, go_sem, ↓reduceIte]
      exact hQ _ _ _ _ [.agg [.int .i64 3, .int .i64 0, .str q, .sl .nil 5 [], .sl .nil 6 []]] nofun (by simp (disch := first | omega | assumption) only [ir72, resvs, resv, upd_same, go_sem, ↓reduceIte]) (hAl _) (by rw [hm]; exact ⟨by simp [tupOf, AV.strip, AV.strip1, numV, hw2, cV, cVs, cMs], hat⟩)
  | cons c u =>
    simp only [List.headD_cons] at hpk
    have hw : IntKind.wrap .i64 ((((p ++ q).length : Nat) : Int) + 1) = (((p ++ q).length : Nat) : Int) + 1 := wrA (by simp at hlen ⊢; omega)
    have e := nch_eq c
    have nx : nch c = true → J ((setAll _ []).keep [0, 2, 3]) ((H.upd r (.cells [.str s, .int .i64 ((((p ++ q).length : Nat) : Int) + 1), .int .i64 (dp : Int), .int .i64 0])).upd b (.cells z5)) := fun hbk =>
      hJ (q ++ [c], u) _ (by simp) ⟨by simpa using hq, by rw [← hu]; simp [hbk], by rw [← hd]; simp [hbk], by simp [rr, Int.add_assoc]⟩
    have ex : ((H.upd r (rr s (p ++ q) dp)).upd b (.cells z5)).upd r (.cells [.str s, .int .i64 ((((p ++ q).length : Nat) : Int) + 1), .int .i64 (dp : Int), .int .i64 0]) = (H.upd r (.cells [.str s, .int .i64 ((((p ++ q).length : Nat) : Int) + 1), .int .i64 (dp : Int), .int .i64 0])).upd b (.cells z5) := by
      funext n
      by_cases e1 : n = b
      · subst e1; simp [Heap.upd, nb', nb]
      · by_cases e2 : n = r <;> simp [Heap.upd, e1, e2, nb]
    simp (disch := first | omega | assumption) only [go_sem, ↓reduceIte]
    refine goK_ret hpk fun v H1 ⟨hv, hH⟩ => ?_
    subst hv; subst hH
    by_cases a1 : 48 ≤ c.toNat ∧ c.toNat ≤ 57
    · have g1 : ((48 : Int) ≤ c.toNat) = True := eq_true (by omega)
      have g2 : ((c.toNat : Int) ≤ 57) = True := eq_true (by omega)
      simp (disch := first | omega | assumption) only [g1, g2, hg', hw, ex, go_sem, ↓reduceIte]
      exact goJ (nx (by rw [e]; simp [a1])) (by simp (disch := first | omega | assumption) only [go_sem, ↓reduceIte])
    have hstop : (¬ ((48 : Int) ≤ c.toNat) ∧ ¬ ((48 : Int) ≤ c.toNat)) ∨ ((48 : Int) ≤ c.toNat ∧ ¬ ((c.toNat : Int) ≤ 57)) := by omega
    rcases hstop with ⟨g1, g2⟩ | ⟨g1, g2⟩
    all_goals
      by_cases a2 : c.toNat = 43
      · have g3 : ((c.toNat : Int) = 43) = True := eq_true (by omega)
        simp (disch := first | omega | assumption) only [g1, g2, g3, hg', hw, ex, go_sem, ↓reduceIte]
        exact goJ (nx (by rw [e]; simp [a2])) (by simp (disch := first | omega | assumption) only [go_sem, ↓reduceIte])
      have g3 : ¬ ((c.toNat : Int) = 43) := by omega
      by_cases a3 : c.toNat = 45
      · have g4 : ((c.toNat : Int) = 45) = True := eq_true (by omega)
        simp (disch := first | omega | assumption) only [g1, g2, g3, g4, hg', hw, ex, go_sem, ↓reduceIte]
        exact goJ (nx (by rw [e]; simp [a3])) (by simp (disch := first | omega | assumption) only [go_sem, ↓reduceIte])
      have g4 : ¬ ((c.toNat : Int) = 45) := by omega
      by_cases a4 : c.toNat = 46
      · have g5 : ((c.toNat : Int) = 46) = True := eq_true (by omega)
        simp (disch := first | omega | assumption) only [g1, g2, g3, g4, g5, hg', hw, ex, go_sem, ↓reduceIte]
        exact goJ (nx (by rw [e]; simp [a4])) (by simp (disch := first | omega | assumption) only [go_sem, ↓reduceIte])
      have g5 : ¬ ((c.toNat : Int) = 46) := by omega
      by_cases a5 : c.toNat = 101
      · have g6 : ((c.toNat : Int) = 101) = True := eq_true (by omega)
        simp (disch := first | omega | assumption) only [g1, g2, g3, g4, g5, g6, hg', hw, ex, go_sem, ↓reduceIte]
        exact goJ (nx (by rw [e]; simp [a5])) (by simp (disch := first | omega | assumption) only [go_sem, ↓reduceIte])
      have g6 : ¬ ((c.toNat : Int) = 101) := by omega
      by_cases a6 : c.toNat = 69
      · have g7 : ((c.toNat : Int) = 69) = True := eq_true (by omega)
        simp (disch := first | omega | assumption) only [g1, g2, g3, g4, g5, g6, g7, hg', hw, ex, go_sem, ↓reduceIte]
        exact goJ (nx (by rw [e]; simp [a6])) (by simp (disch := first | omega | assumption) only [go_sem, ↓reduceIte])
      have g7 : ¬ ((c.toNat : Int) = 69) := by omega
      have hno : nch c = false := by
        rw [e]
        have : ¬ (48 ≤ c.toNat ∧ c.toNat ≤ 57) := a1
        by_cases h1 : 48 ≤ c.toNat <;> by_cases h2 : c.toNat ≤ 57 <;> simp_all
      simp (disch := first | omega | assumption) only [g1, g2, g3, g4, g5, g6, g7, hg', b1, b2, e3, hgb, go_sem, ↓reduceIte]
      refine goK_pure hnum ?_
      rcases hk3 with hk | hk | hk
      · have hm := k0 hk (.inr ⟨c, u, rfl, hno⟩)
        simp (disch := first | omega | assumption) only [hk, go_sem, ↓reduceIte]
        refine goK_ret hfail fun v H2 ⟨hv, hH⟩ => ?_
        subst hv; subst hH
        have gb : (((H.upd r (rr s (p ++ q) dp)).upd b (.cells z5)).upd r (re s (p ++ q).length dp 2)) b = some (.cells z5) := by rw [upd_ne nb', upd_same]
        simp (disch := first | omega | assumption) only [gb, go_sem, ↓reduceIte]
        exact hQ _ _ _ _ [.agg z5] nofun (by simp (disch := first | omega | assumption) only [ir72, resvs, resv, upd_same, go_sem, ↓reduceIte]) (hEl _) (by rw [hm]; exact ⟨⟨_, rfl, rfl⟩, hE⟩)
      · have hm := k1 (by omega) (.inr ⟨c, u, rfl, hno⟩)
        have hw2 := w3 hk
        simp (disch := first | omega | assumption) only [hk, go_sem, ↓reduceIte]
        refine goK_pure hint ?_
        cases ho : (i64R q).2
        · rw [ho] at hw2
          simp (disch := first | omega | assumption) only [hgb, go_sem, ↓reduceIte]
          exact hQ _ _ _ _ [.agg [.int .i64 3, .int .i64 0, .str q, .sl .nil 5 [], .sl .nil 6 []]] nofun (by simp (disch := first | omega | assumption) only [ir72, resvs, resv, upd_same, go_sem, ↓reduceIte]) (hAl _) (by rw [hm]; exact ⟨by simp [tupOf, AV.strip, AV.strip1, numV, hw2, cV, cVs, cMs], hat⟩)
        · rw [ho] at hw2
          have hvl := i64_val hk ho
          rw [hvl]
          simp (disch := first | omega | assumption) only [go_sem, ↓reduceIte]
          refine goK_pure (intR _) ?_
          simp (disch := first | omega | assumption) only [hgb, cV, cVs, cMs, go_sem, ↓reduceIte]
          exact hQ _ _ _ _ [.agg [.int .i64 2, .int .i64 (valI q), .str [], .sl .no 5 [], .sl .no 6 []]] nofun (by simp (disch := first | omega | assumption) only [ir72, resvs, resv, upd_same, go_sem, ↓reduceIte]) (hAl _) (by rw [hm]; exact ⟨by simp [tupOf, AV.strip, AV.strip1, numV, hw2, cV, cVs, cMs], hat⟩)
      · have hm := k1 (by omega) (.inr ⟨c, u, rfl, hno⟩)
        have hw2 : wholeB q = false := by simp [wholeB, hk]
        simp (disch := first | omega | assumption) only [hk, hgb, go_sem, ↓reduceIte]
        exact hQ _ _ _ _ [.agg [.int .i64 3, .int .i64 0, .str q, .sl .nil 5 [], .sl .nil 6 []]] nofun (by simp (disch := first | omega | assumption) only [ir72, resvs, resv, upd_same, go_sem, ↓reduceIte]) (hAl _) (by rw [hm]; exact ⟨by simp [tupOf, AV.strip, AV.strip1, numV, hw2, cV, cVs, cMs], hat⟩)
end Go.Proofs.YtpjafglhdlfnbaaGreatDoor
namespace Go.Proofs.YtpjafglhdlfnbaaGreatDoor
open Go.Ab Go.Lib
def scanB : List UInt8 → Bool
  | [] => false
  | c :: t => if c = 34 then false else if c.toNat < 32 then true else if c = 92 then (match t with | [] => false | _ :: t => scanB t) else scanB t
theorem hex_other (c : UInt8) : hexD c ≠ none → c ≠ 34 ∧ c ≠ 92 ∧ ¬ c.toNat < 32 := u8_all (P := fun c => hexD c ≠ none → c ≠ 34 ∧ c ≠ 92 ∧ ¬ c.toNat < 32) (by decide +kernel) c
theorem scan_hex : ∀ (n : Nat) (t : List UInt8) (u v : Nat), unitG n t u = some v → scanB t = scanB (t.drop n)
  | 0, _, _, _, _ => rfl
  | n + 1, [], _, _, h => by cases h
  | n + 1, c :: t, u, v, h => by
    simp only [unitG] at h
    split at h
    · cases h
    · rename_i k hk
      obtain ⟨h1, h2, h3⟩ := hex_other c (by rw [hk]; simp)
      rw [scanB.eq_def]
      simp only
      rw [if_neg h1, if_neg h3, if_neg h2, List.drop_succ_cons]
      exact scan_hex n t _ v h
theorem quoF_scan : ∀ (n : Nat) (t : List UInt8) (q : Sd), t.length ≤ n → quoF hiB t q = if scanB t then none else quoF lineB t q
  | _, [], q, _ => by simp [quoF_nil, scanB]
  | 0, c :: t, q, h => by simp at h
  | n + 1, c :: t, q, h => by
    have hl : t.length ≤ n := by simpa using h
    by_cases c1 : c = 34
    · subst c1; rw [quoF_34, quoF_34]; simp [scanB.eq_def]
    · by_cases c2 : c = 92
      · subst c2
        rw [quoF_92, quoF_92]
        cases t with
        | nil => simp [escM, scanB.eq_def]
        | cons d t =>
          have e1 : scanB (92 :: d :: t) = scanB t := by rw [scanB.eq_def]; simp
          rw [e1]
          have hl2 : t.length ≤ n := by simp at hl; omega
          simp only [escM]
          by_cases d1 : d = 117
          · rw [if_pos d1]
            cases hu : unitM t with
            | none => simp
            | some u =>
              simp only [Option.map_some]
              rw [scan_hex 4 t 0 u hu]
              exact quoF_scan n (t.drop 4) _ (by simp; omega)
          · rw [if_neg d1]
            by_cases hk : Lib.indexByte escL d < 0
            · rw [if_pos hk]; simp
            · rw [if_neg hk]
              exact quoF_scan n t _ hl2
      · rw [quoF_c hiB t q c1 c2, quoF_c lineB t q c1 c2]
        have e1 : scanB (c :: t) = if c.toNat < 32 then true else scanB t := by rw [scanB.eq_def]; simp [c1, c2]
        rw [e1]
        by_cases h32 : c.toNat < 32
        · rw [if_pos h32, if_neg (by simp [hiB, h32])]; simp
        · rw [if_neg h32, if_pos (by simp [hiB]; omega)]
          have hln : lineB c = true := by
            simp only [lineB, Bool.and_eq_true, decide_eq_true_eq]
            exact ⟨fun e => by subst e; exact h32 (by decide), fun e => by subst e; exact h32 (by decide)⟩
          rw [hln, if_pos rfl]
          exact quoF_scan n t _ hl
theorem quoM_scan (t : List UInt8) : quoM hiB t = if scanB t then none else quoM lineB t := by
  rw [quoM_F, quoM_F, quoF_scan t.length t _ (Nat.le_refl _)]
  split <;> rfl
def strV (v : AV) : Prop := ∃ x, v = .str x
theorem textM_34 (t : List UInt8) : textM (34 :: t) = match quoM hiB t with | some x => .ok x | none => .error 2 := by
  unfold textM; rw [skB_no bk34, if_pos (by simp [List.isPrefixOf])]; rfl
theorem textM_no {t : List UInt8} (h1 : skB t = t) (h : ∀ r, t ≠ 34 :: r) : textM t = .error 2 := by
  unfold textM
  rw [h1, if_neg]
  intro hp
  obtain ⟨r, hr⟩ := List.isPrefixOf_iff_prefix.1 hp
  exact h r hr.symm
theorem textR0 {H : Heap} {r : Nat} {s p t : List UInt8} {dp : Nat} (hs : p ++ t = s) (hl : s.length ≤ LimS) (hsk : skB t = t) (hvt : validD t = true) (hr : H r = some (rr s p dp)) :
    ACalls Tryz.prog 74 [.ptr r 0] H (Rt H r fun v H' => RetR H r s dp (textM t) AV.str strV v H') := by
  refine ACalls.go ir74 ck74 (Nat.le_refl _) fun KP Q hQ => ?_
  have hl0 := hl
  simp only [LimS] at hl
  simp (disch := first | omega | assumption) only [ir74, go_sem, ↓reduceIte]
  refine goK_ret (takeR0 34 (by decide) hs hl0 hr) fun v H1 ⟨hv, ht⟩ => ?_
  subst hv
  have bad : ∀ (H2 : Heap) (n : Int) (v : List UInt8), textM t = .error n → ErR H r s n H2 → RetR H r s dp (textM t) AV.str strV (.str v) H2 := fun H2 n v e h => by
    rw [e]; exact ⟨⟨v, rfl⟩, h⟩
  by_cases h34 : ∃ t', t = 34 :: t'
  · obtain ⟨t', rfl⟩ := h34
    have ht1 : AtR H r s t' dp H1 := by simpa [takeM] using ht
    obtain ⟨p1, hp1, hH1⟩ := ht1
    have hr1 : H1 r = some (rr s p1 dp) := by rw [hH1, upd_same]
    have hr1' : H1 r = some (.cells [.str s, .int .i64 (p1.length : Int), .int .i64 (dp : Int), .int .i64 0]) := hr1
    have hlen : p1.length + t'.length = s.length := by rw [← hp1]; simp
    have hvt' : validD t' = true := by rw [validD_cons _ _ (by decide)] at hvt; exact hvt
    have he := textM_34 t'
    rw [quoM_scan] at he
    have erH : ∀ n : Int, n ≠ 0 → ErR H r s n (H1.upd r (re s p1.length dp n)) := fun n hn => ⟨hn, _, _, by rw [hH1, upd_upd]⟩
    simp (disch := first | omega | assumption) only [hr1', go_sem, ↓reduceIte]
    refine goL_st (fun x : List UInt8 × Nat => [(3, .int .i64 ((x.2 : Nat) : Int))]) (fun x H' => H' = H1 ∧ s.length - x.2 = x.1.length ∧ s.drop x.2 = x.1 ∧ x.2 ≤ s.length + 1 ∧ scanB x.1 = scanB t') (fun x => s.length + 1 - x.2) (t', p1.length) (by simp (disch := first | omega | assumption) only [go_sem, ↓reduceIte]) ⟨rfl, by show s.length - p1.length = t'.length; omega, by rw [← hp1]; simp, by show p1.length ≤ s.length + 1; omega, rfl⟩ ?_
    rintro ⟨u, i⟩ H' J ⟨rfl, hul, hdr, hi, hsc⟩ hJ
    simp only at hul hdr hi hsc
    have wi : i ≤ s.length → IntKind.wrap .i64 ((i : Int) + 1) = ((i + 1 : Nat) : Int) := fun h => by rw [wrap64 (by omega) (by omega)]; omega
    have wi2 : i ≤ s.length → IntKind.wrap .i64 (((i + 1 : Nat) : Int) + 1) = ((i + 2 : Nat) : Int) := fun h => by rw [wrap64 (by omega) (by omega)]; omega
    have dsc : s.drop p1.length = t' := by rw [← hp1]; simp
    have hpl : (p1.length : Int) = ((p1.length : Nat) : Int) := rfl
    have hquo := QuotedR s p1.length (by omega) (by rw [dsc]; exact hvt') (by simp only [LimQ]; omega)
    rw [dsc] at hquo
    cases u with
    | nil =>
      have g1 : ¬ ((i : Int) < s.length) := by simp at hul; omega
      have hf : scanB t' = false := by rw [← hsc]; rfl
      rw [hf] at he
      simp only [Bool.false_eq_true, if_false] at he
      simp (disch := first | omega | assumption) only [hr1', g1, go_sem, ↓reduceIte]
      refine goK_pure hquo ?_
      cases hm : quoM lineB t' with
      | none =>
        rw [hm] at he
        simp (disch := first | omega | assumption) only [quotedA, go_sem, ↓reduceIte]
        refine goK_ret (failR0 hr1 2) fun v H2 ⟨hv, hH⟩ => ?_
        subst hv; subst hH
        simp (disch := first | omega | assumption) only [go_sem, ↓reduceIte]
        exact hQ _ _ _ _ [_] nofun rfl (Low.refl _) (bad _ 2 [] he (erH 2 (by decide)))
      | some y =>
        obtain ⟨b, t2⟩ := y
        rw [hm] at he
        have hsuf := quoM_suf hm
        obtain ⟨m, hm2⟩ := hsuf.1
        have hml : m.length + t2.length = t'.length := by rw [← hm2]; simp
        have e6 : s.length - t2.length = (p1 ++ m).length := by simp; omega
        rw [quotedA, e6]
        simp (disch := first | omega | assumption) only [hr1', go_sem, ↓reduceIte]
        refine hQ _ _ _ _ [_] nofun rfl (Low.refl _) ?_
        rw [he]
        refine ⟨rfl, p1 ++ m, by rw [List.append_assoc, hm2]; exact hp1, ?_⟩
        rw [hH1, upd_upd]; rfl
    | cons c u =>
      have hil : i < s.length := by simp at hul; omega
      have g1 : ((i : Int) < s.length) = True := eq_true (by omega)
      have hc : s.getD i 0 = c := by
        rw [List.drop_eq_getElem_cons hil] at hdr
        have := (List.cons.inj hdr).1
        simp [List.getD, hil, this]
      have hdr1 : s.drop (i + 1) = u := by
        rw [List.drop_eq_getElem_cons hil] at hdr
        exact (List.cons.inj hdr).2
      by_cases c1 : c = 34
      · have g2 : ((c.toNat : Int) = 34) = True := eq_true (by rw [c1]; rfl)
        have hf : scanB t' = false := by rw [← hsc, c1]; simp [scanB.eq_def]
        rw [hf] at he
        simp only [Bool.false_eq_true, if_false] at he
        simp (disch := first | omega | assumption) only [hr1', g1, hc, g2, go_sem, ↓reduceIte]
        refine goK_pure hquo ?_
        cases hm : quoM lineB t' with
        | none =>
          rw [hm] at he
          simp (disch := first | omega | assumption) only [quotedA, go_sem, ↓reduceIte]
          refine goK_ret (failR0 hr1 2) fun v H2 ⟨hv, hH⟩ => ?_
          subst hv; subst hH
          simp (disch := first | omega | assumption) only [go_sem, ↓reduceIte]
          exact hQ _ _ _ _ [_] nofun rfl (Low.refl _) (bad _ 2 [] he (erH 2 (by decide)))
        | some y =>
          obtain ⟨b, t2⟩ := y
          rw [hm] at he
          have hsuf := quoM_suf hm
          obtain ⟨m, hm2⟩ := hsuf.1
          have hml : m.length + t2.length = t'.length := by rw [← hm2]; simp
          have e6 : s.length - t2.length = (p1 ++ m).length := by simp; omega
          rw [quotedA, e6]
          simp (disch := first | omega | assumption) only [hr1', go_sem, ↓reduceIte]
          refine hQ _ _ _ _ [_] nofun rfl (Low.refl _) ?_
          rw [he]
          refine ⟨rfl, p1 ++ m, by rw [List.append_assoc, hm2]; exact hp1, ?_⟩
          rw [hH1, upd_upd]; rfl
      · have g2 : ¬ ((c.toNat : Int) = 34) := fun e => c1 (UInt8.toNat_inj.1 (by have : (34 : UInt8).toNat = 34 := rfl; omega))
        by_cases c2 : c.toNat < 32
        · have g3 : ((c.toNat : Int) < 32) = True := eq_true (by omega)
          have hf : scanB t' = true := by rw [← hsc, scanB.eq_def]; simp [c1, c2]
          rw [hf] at he
          simp only [if_true] at he
          simp (disch := first | omega | assumption) only [hr1', g1, hc, g2, g3, go_sem, ↓reduceIte]
          refine goK_ret (failR0 hr1 2) fun v H2 ⟨hv, hH⟩ => ?_
          subst hv; subst hH
          simp (disch := first | omega | assumption) only [go_sem, ↓reduceIte]
          exact hQ _ _ _ _ [_] nofun rfl (Low.refl _) (bad _ 2 [] he (erH 2 (by decide)))
        · have g3 : ¬ ((c.toNat : Int) < 32) := by omega
          by_cases c3 : c = 92
          · have g4 : ((c.toNat : Int) = 92) = True := eq_true (by rw [c3]; rfl)
            have e2 : scanB (c :: u) = scanB u.tail := by rw [c3, scanB.eq_def]; cases u <;> simp [scanB]
            have hdr2 : s.drop (i + 2) = u.tail := by rw [← hdr1, List.tail_drop]
            have nx := hJ (u.tail, i + 2) H' (by simp; omega) ⟨rfl, by rw [← hdr2]; simp, hdr2, by simp; omega, by rw [← hsc, e2]⟩
            simp (disch := first | omega | assumption) only [hr1', g1, hc, g2, g3, g4, wi (by omega), wi2 (by omega), go_sem, ↓reduceIte]
            exact goJ nx (by simp (disch := first | omega | assumption) only [go_sem, ↓reduceIte])
          · have g4 : ¬ ((c.toNat : Int) = 92) := fun e => c3 (UInt8.toNat_inj.1 (by have : (92 : UInt8).toNat = 92 := rfl; omega))
            have e2 : scanB (c :: u) = scanB u := by rw [scanB.eq_def]; simp [c1, c2, c3]
            have nx := hJ (u, i + 1) H' (by simp; omega) ⟨rfl, by rw [← hdr1]; simp, hdr1, by simp; omega, by rw [← hsc, e2]⟩
            simp (disch := first | omega | assumption) only [hr1', g1, hc, g2, g3, g4, wi (by omega), go_sem, ↓reduceIte]
            exact goJ nx (by simp (disch := first | omega | assumption) only [go_sem, ↓reduceIte])
  · have h34' : ∀ r, t ≠ 34 :: r := fun r e => h34 ⟨r, e⟩
    have hb := textM_no hsk h34'
    have htk : takeM 34 t = .error 2 := by
      cases t with
      | nil => rfl
      | cons d t => simp only [takeM]; rw [if_neg (fun e => h34' t (by rw [e]))]
    rw [htk] at ht
    obtain ⟨hn, a, d, hH⟩ := ht
    have hr1' : H1 r = some (.cells [.str s, .int .i64 a, .int .i64 d, .int .i64 2]) := by rw [hH, upd_same]; rfl
    simp (disch := first | omega | assumption) only [hr1', go_sem, ↓reduceIte]
    exact hQ _ _ _ _ [_] nofun rfl (Low.refl _) (bad _ 2 [] hb ⟨hn, a, d, hH⟩)
theorem openR0 {H : Heap} {r : Nat} {s p t : List UInt8} {dp : Nat} {c : UInt8} (hd : dp ≤ 16) (hs : p ++ c :: t = s) (hl : s.length ≤ LimS) (hr : H r = some (rr s p dp)) :
    ACalls Tryz.prog 119 [.ptr r 0] H (Rt H r fun v H' => v = .tup [] ∧ if dp < 16 then AtR H r s t (dp + 1) H' else ErR H r s 4 H') := by
  refine ACalls.go ir119 ck119 (Nat.le_refl _) fun KP Q hQ => ?_
  simp only [LimS] at hl
  have hlen : p.length + t.length + 1 = s.length := by rw [← hs]; simp; omega
  have hw : IntKind.wrap .i64 ((p.length : Int) + 1) = (p.length : Int) + 1 := wrA (by omega)
  have hw2 : IntKind.wrap .i64 ((dp : Int) + 1) = (dp : Int) + 1 := wrA (by omega)
  have hr' := hr
  simp only [rr] at hr'
  by_cases h : dp < 16
  · have g : ¬ ((16 : Int) ≤ dp) := by omega
    simp (disch := first | omega | assumption) only [ir119, hr', g, hw, hw2, go_sem, ↓reduceIte]
    refine hQ _ _ _ _ [] nofun rfl (Low.refl _) ⟨rfl, ?_⟩
    rw [if_pos h]
    exact ⟨p ++ [c], by simpa using hs, by simp [rr]⟩
  · have g : ((16 : Int) ≤ dp) = True := eq_true (by omega)
    simp (disch := first | omega | assumption) only [ir119, hr', g, go_sem, ↓reduceIte]
    refine goK_ret (failR0 hr 4) fun v H2 ⟨hv, hH⟩ => ?_
    subst hv; subst hH
    have g2 : (H.upd r (re s p.length dp 4)) r = some (.cells [.str s, .int .i64 (p.length : Int), .int .i64 (dp : Int), .int .i64 4]) := by rw [upd_same]; rfl
    simp (disch := first | omega | assumption) only [g2, hw, hw2, go_sem, ↓reduceIte]
    refine hQ _ _ _ _ [] nofun rfl (Low.refl _) ⟨rfl, ?_⟩
    rw [if_neg h]
    exact ⟨by decide, _, _, rfl⟩
end Go.Proofs.YtpjafglhdlfnbaaGreatDoor
namespace Go.Proofs.YtpjafglhdlfnbaaGreatDoor
open Go.Ab Go.Lib
theorem rt_of {P : Program} {f : FuncId} {args : List AV} {H : Heap} {R : AV → Heap → Prop} (r : Nat) (h : ACalls P f args H (fun e H' => match e with | .ret v => R v H' | .pan _ => False)) : ACalls P f args H (Rt H r R) :=
  h.mono fun e H' hq => by cases e with | ret v => exact ⟨v, rfl, hq⟩ | pan v => exact hq.elim
theorem of_rt {P : Program} {f : FuncId} {args : List AV} {H : Heap} {R : AV → Heap → Prop} {r : Nat} (h : ACalls P f args H (fun e H' => match e with | .ret v => R v.strip H' | .pan _ => False)) : ACalls P f args H (Rt H r R) :=
  rt_of r (retStrip (R := R) (RP := fun _ _ => False) h)
theorem valueR1 {H : Heap} {r : Nat} {s : List UInt8} {a d n : Int} (hn : n ≠ 0) (hr : H r = some (re s a d n)) : ACalls Tryz.prog 37 [.ptr r 0] H (Rt H r fun v H' => bad5 v ∧ H' = H) := by
  refine ACalls.go ir37 ck37 (Nat.le_refl _) fun KP Q hQ => ?_
  simp (disch := first | omega | assumption) only [ir37, go_sem, ↓reduceIte]
  refine goA_intro fun b hb => ?_
  have nb : r ≠ b := fun e => by subst e; rw [hb] at hr; cases hr
  have hr2 : ∀ y : AObj, (H.upd b y) r = some (re s a d n) := fun y => by rw [upd_ne nb]; exact hr
  simp (disch := first | omega | assumption) only [go_sem, ↓reduceIte]
  refine goK_ret (blanksR1 hn (hr2 _)) fun v H1 ⟨hv, hH⟩ => ?_
  subst hv; subst hH
  simp (disch := first | omega | assumption) only [go_sem, ↓reduceIte]
  refine goK_ret (peekR1 hn (hr2 _)) fun v H1 ⟨hv, hH⟩ => ?_
  subst hv; subst hH
  simp (disch := first | omega | assumption) only [go_sem, ↓reduceIte]
  refine goK_ret (failR1 hn (hr2 _) 2) fun v H1 ⟨hv, hH⟩ => ?_
  subst hv; subst hH
  simp (disch := first | omega | assumption) only [go_sem, ↓reduceIte]
  exact hQ _ _ _ H [.agg z5] nofun (by simp (disch := first | omega | assumption) only [ir37, resvs, resv, upd_same, go_sem, ↓reduceIte]) ((Low.refl H).upd hb) ⟨⟨_, rfl, rfl⟩, rfl⟩
structure LX (H : Heap) (r : Nat) (H' : Heap) (X : AObj) (o : Own) (n sz : Nat) : Prop where
  keep : ∀ c x, c ≠ r → H c = some x → H' c = some x
  here : H' r = some X
  own : Owned H' o n sz
  tip : ∀ b d, o = .tip b d → H b = none
  hr : ∃ cs, H r = some (.cells cs)
theorem LX.init {H : Heap} {r sz : Nat} {cs : List AV} (hr : H r = some (.cells cs)) : LX H r H (.cells cs) .nil 0 sz := ⟨fun c x _ h => h, hr, rfl, (fun _ _ e => nomatch e), _, hr⟩
theorem LX.call {H H1 : Heap} {r : Nat} {cs : List AV} {X' : AObj} {o : Own} {n sz : Nat} (h : LX H r H1 (.cells cs) o n sz) : LX H r (H1.upd r X') X' o n sz :=
  ⟨fun c x hc hx => by rw [upd_ne hc]; exact h.keep c x hc hx, upd_same .., own_upd h.own h.here, h.tip, h.hr⟩
theorem LX.app {H H1 H2 : Heap} {r : Nat} {cs : List AV} {o o' : Own} {n n' sz : Nat} (h : LX H r H1 (.cells cs) o n sz) (hs : OwnS H1 o H2 o' n' sz) : LX H r H2 (.cells cs) o' n' sz := by
  refine ⟨fun c x hc hx => hs.kept c x (h.keep c x hc hx) fun d e => ?_, own_keep h.own h.here hs.kept, hs.own, fun b d e => ?_, h.hr⟩
  · have := h.tip c d e; rw [hx] at this; cases this
  · rcases hs.new b d e with h2 | ⟨d0, e2⟩
    · cases hb : H b with
      | none => rfl
      | some x =>
        by_cases e3 : b = r
        · subst e3; rw [h.here] at h2; cases h2
        · rw [h.keep b x e3 hb] at h2; cases h2
    · exact h.tip b d0 e2
theorem LX.new {H H1 : Heap} {r b : Nat} {cs : List AV} {o : Own} {n sz : Nat} {x : AObj} (h : LX H r H1 (.cells cs) o n sz) (hb : H1 b = none) : LX H r (H1.upd b x) (.cells cs) o n sz := by
  refine ⟨fun c y hc hy => ?_, ?_, Owned.upd h.own hb, h.tip, h.hr⟩
  · rw [upd_ne (fun e => by subst e; rw [h.keep c y hc hy] at hb; cases hb)]; exact h.keep c y hc hy
  · rw [upd_ne (fun e => by subst e; rw [h.here] at hb; cases hb)]; exact h.here
theorem LX.box {H H1 : Heap} {r b : Nat} {cs ds ds' : List AV} {o : Own} {n sz : Nat} (h : LX H r H1 (.cells cs) o n sz) (hb : H b = none) (h1 : H1 b = some (.cells ds)) : LX H r (H1.upd b (.cells ds')) (.cells cs) o n sz := by
  have hbr : r ≠ b := fun e => by subst e; obtain ⟨x, hx⟩ := h.hr; rw [hb] at hx; cases hx
  exact ⟨fun c x hc hx => by rw [upd_ne (fun e => by subst e; rw [hb] at hx; cases hx)]; exact h.keep c x hc hx, by rw [upd_ne hbr]; exact h.here, own_upd h.own h1, h.tip, h.hr⟩
theorem LX.low {H H1 : Heap} {r : Nat} {X : AObj} {o : Own} {n sz : Nat} (h : LX H r H1 X o n sz) : Low (H.upd r X) H1 := Low.of_sub fun c x hc => by
  by_cases e : c = r
  · subst e; rw [upd_same] at hc; rw [← hc]; exact h.here
  · rw [upd_ne e] at hc; exact h.keep c x e hc
theorem LX.ne {H H1 : Heap} {r b : Nat} {X : AObj} {o : Own} {n sz : Nat} (h : LX H r H1 X o n sz) (hb : H b = none) : r ≠ b := fun e => by subst e; obtain ⟨x, hx⟩ := h.hr; rw [hb] at hx; cases hx
def ValR (k : Nat) : Prop := ∀ (H : Heap) (r : Nat) (s p t : List UInt8), p ++ t = s → s.length ≤ LimS → validD t = true → H r = some (rr s p (16 - k)) →
  ACalls Tryz.prog 37 [.ptr r 0] H (Rt H r fun v H' => RetR H r s (16 - k) (valM k t) (fun v => .agg (cV v)) bad5 v H')
theorem valM_nz : ∀ {x : RR Val} {H : Heap} {r : Nat} {s : List UInt8} {dp : Nat} {v : AV} {H' : Heap}, RetR H r s dp x (fun v => .agg (cV v)) bad5 v H' → (∃ w t' p', x = .ok (w, t') ∧ v = .agg (cV w) ∧ p' ++ t' = s ∧ H' = H.upd r (rr s p' dp)) ∨ (∃ n cs a d, x = .error n ∧ n ≠ 0 ∧ v = .agg cs ∧ cs.length = 5 ∧ H' = H.upd r (re s a d n)) := by
  intro x H r s dp v H' h
  cases x with
  | error n => obtain ⟨⟨cs, h1, h2⟩, h3, a, d, h4⟩ := h; exact .inr ⟨n, cs, a, d, rfl, h3, h1, h2, h4⟩
  | ok y => obtain ⟨h1, p, h2, h3⟩ := h; exact .inl ⟨y.1, y.2, p, rfl, h1, h2, h3⟩
theorem head44 {t : List UInt8} (h : mayM [93] t = none) (h2 : (skB t).headD 0 ≠ 44) : mustM [44] t = .error 2 := by
  unfold mustM mayM
  rw [if_neg]
  intro hp
  obtain ⟨r, hr⟩ := List.isPrefixOf_iff_prefix.1 hp
  rw [← hr] at h2
  simp at h2
theorem take_may {c : UInt8} {t : List UInt8} (hb : bk c = false) : takeM c (skB t) = match mayM [c] t with | some t' => .ok ((), t') | none => .error 2 := by
  unfold mayM
  cases hs : skB t with
  | nil => simp [takeM, List.isPrefixOf]
  | cons d u =>
    by_cases h : d = c
    · subst h; simp [takeM, List.isPrefixOf]
    · have h' : ¬ c = d := fun e => h e.symm
      simp [takeM, List.isPrefixOf, h, h']
end Go.Proofs.YtpjafglhdlfnbaaGreatDoor
namespace Go.Proofs.YtpjafglhdlfnbaaGreatDoor
open Go.Ab Go.Lib
def listK (k : Nat) (t : List UInt8) : RR Val := match k with | 0 => .error 4 | n + 1 => listM (valM n) t
abbrev cL (o : Own) (xs : List (List AV)) : List AV := [.int .i64 6, .int .i64 0, .str [], .sl o 5 xs, .sl .nil 6 []]
set_option maxHeartbeats 4000000 in
theorem listR {k : Nat} (hk : k ≤ 16) (hv : ∀ n, k = n + 1 → ValR n) {H : Heap} {r : Nat} {s p t : List UInt8} (hs : p ++ 91 :: t = s) (hl : s.length ≤ LimS) (hvt : validD t = true) (hr : H r = some (rr s p (16 - k))) :
    ACalls Tryz.prog 75 [.ptr r 0] H (Rt H r fun v H' => RetR H r s (16 - k) (listK k t) (fun v => .agg (cV v)) bad5 v H') := by
  refine of_rt (R := fun v H' => RetR H r s (16 - k) (listK k t) (fun v => .agg (cV v)) bad5 v H') (ACalls.goO (R := fun v H' => RetR H r s (16 - k) (listK k t) (fun v => .agg (cV v)) bad5 v.strip H') (RP := fun _ _ => False) ir75 ck75 (Nat.le_refl _) fun KP Q hQ hP => ?_)
  have L0 : LX H r H (rr s p (16 - k)) .nil 0 5 := LX.init hr
  have hl0 := hl
  simp only [LimS] at hl
  have hts : t.length + 1 ≤ s.length := by rw [← hs]; simp
  simp (disch := first | omega | assumption) only [ir75, go_sem, ↓reduceIte]
  refine goA_intro fun b2 hb2 => ?_
  simp (disch := first | omega | assumption) only [go_sem, ↓reduceIte]
  refine goA_intro fun b3 hb3 => ?_
  simp (disch := first | omega | assumption) only [go_sem, ↓reduceIte]
  have h32 : b3 ≠ b2 := fun e => by subst e; rw [upd_same] at hb3; cases hb3
  have h23 := Ne.symm h32
  have hb3H : H b3 = none := by rw [upd_ne h32] at hb3; exact hb3
  have nr2 := L0.ne hb2
  have nr3 := L0.ne hb3H
  have n2r := Ne.symm nr2
  have n3r := Ne.symm nr3
  have L1 := (L0.new (x := .cells z5) hb2).new (x := .cells (cL .nil [])) hb3
  have fin : ∀ (H1 : Heap) (X ys : List AV) (o : Own) (n : Nat) (xs : List (List AV)), LX H r H1 (.cells X) o n 5 → H1 b2 = some (.cells z5) → Low (H.upd r (.cells ys)) ((H1.upd r (.cells ys)).upd b2 (.cells (cL o xs))) := fun H1 X ys o n xs L h2 =>
    ((L.call (X' := .cells ys)).box (cs := ys) (ds' := cL o xs) hb2 (by rw [upd_ne n2r]; exact h2)).low
  have bad : ∀ (m : Int) (a d : Int) (v : AV), listK k t = .error m → m ≠ 0 → bad5 v → RetR H r s (16 - k) (listK k t) (fun v => .agg (cV v)) bad5 v (H.upd r (re s a d m)) := fun m a d v e hm hb => by
    rw [e]; exact ⟨hb, hm, a, d, rfl⟩
  have good : ∀ (l : List Val) (t' p' : List UInt8), listK k t = .ok (.mk 6 0 [] l [], t') → p' ++ t' = s → RetR H r s (16 - k) (listK k t) (fun v => .agg (cV v)) bad5 (.agg [.int .i64 6, .int .i64 0, .str [], .sl .no 5 (cVs l), .sl .no 6 []]) (H.upd r (rr s p' (16 - k))) := fun l t' p' e hp => by
    rw [e]; exact ⟨rfl, p', hp, rfl⟩
  refine goK_ret (openR0 (dp := 16 - k) (by omega) hs hl0 L1.here) fun v H1 ⟨hv1, ho⟩ => ?_
  subst hv1
  cases k with
  | zero =>
    rw [if_neg (by omega)] at ho
    obtain ⟨_, a, d, hH1⟩ := ho
    have L2 : LX H r H1 (re s a d 4) .nil 0 5 := by rw [hH1]; exact L1.call
    have h2 : H1 b2 = some (.cells z5) := by rw [hH1, upd_ne n2r, upd_ne h23, upd_same]
    have h3 : H1 b3 = some (.cells (cL .nil [])) := by rw [hH1, upd_ne n3r, upd_same]
    have hr1 := L2.here
    have hr1' : H1 r = some (.cells [.str s, .int .i64 a, .int .i64 d, .int .i64 4]) := hr1
    clear hH1
    simp (disch := first | omega | assumption) only [go_sem, ↓reduceIte]
    refine goK_ret (blanksR1 (by decide) hr1) fun v H2 ⟨hv, hH⟩ => ?_
    subst hv; replace hH := hH.symm; subst hH
    simp (disch := first | omega | assumption) only [go_sem, ↓reduceIte]
    refine goK_ret (peekR1 (by decide) hr1) fun v H2 ⟨hv, hH⟩ => ?_
    subst hv; replace hH := hH.symm; subst hH
    simp (disch := first | omega | assumption) only [go_sem, ↓reduceIte]
    refine goL_st (fun _ : Unit => []) (fun x H' => H' = H1) (fun x => 0) () (by simp (disch := first | omega | assumption) only [go_sem, ↓reduceIte]) rfl ?_
    rintro _ H' J hH' hJ
    replace hH' := hH'.symm
    subst hH'
    simp (disch := first | omega | assumption) only [hr1', go_sem, ↓reduceIte]
    refine goK_ret (takeR1 93 (by decide) (by decide) hr1) fun v H2 ⟨hv, hH⟩ => ?_
    subst hv; replace hH := hH.symm; subst hH
    simp (disch := first | omega | assumption) only [hr1', h2, h3, n2r, n3r, nr2, nr3, go_sem, ↓reduceIte]
    exact hQ _ _ _ _ [.agg (cL .nil [])] nofun (by simp (disch := first | omega | assumption) only [ir75, resvs, resv, upd_same, go_sem, ↓reduceIte]) (fin _ _ _ .nil 0 [] L2 h2) (bad 4 a (IntKind.wrap .i64 (d - 1)) _ rfl (by decide) ⟨_, rfl, rfl⟩)
  | succ n =>
    have hvn := hv n rfl
    have hfit := valM_fit n
    rw [if_pos (by omega)] at ho
    obtain ⟨p1, hp1, hH1⟩ := ho
    have e16 : 16 - (n + 1) + 1 = 16 - n := by omega
    have e16' : ((16 - n : Nat) : Int) - 1 = ((16 - (n + 1) : Nat) : Int) := by omega
    have w16 : IntKind.wrap .i64 (((16 - n : Nat) : Int) - 1) = ((16 - (n + 1) : Nat) : Int) := by rw [wrap64 (by omega) (by omega)]; exact e16'
    rw [e16] at hH1
    have L2 : LX H r H1 (rr s p1 (16 - n)) .nil 0 5 := by rw [hH1]; exact L1.call
    have h2 : H1 b2 = some (.cells z5) := by rw [hH1, upd_ne n2r, upd_ne h23, upd_same]
    have h3 : H1 b3 = some (.cells (cL .nil [])) := by rw [hH1, upd_ne n3r, upd_same]
    have hr1 := L2.here
    clear hH1
    simp (disch := first | omega | assumption) only [go_sem, ↓reduceIte]
    refine goK_ret (blanksR0 hp1 hl0 hr1) fun v H2 ⟨hv, p2, hp2, hH⟩ => ?_
    subst hv
    have L3 : LX H r H2 (rr s p2 (16 - n)) .nil 0 5 := by rw [hH]; exact L2.call
    have h22 : H2 b2 = some (.cells z5) := by rw [hH, upd_ne n2r]; exact h2
    have h33 : H2 b3 = some (.cells (cL .nil [])) := by rw [hH, upd_ne n3r]; exact h3
    have hr2 := L3.here
    have hr2' : H2 r = some (.cells [.str s, .int .i64 (p2.length : Int), .int .i64 ((16 - n : Nat) : Int), .int .i64 0]) := hr2
    clear hH
    have hvs := skB_valid t hvt
    simp (disch := first | omega | assumption) only [go_sem, ↓reduceIte]
    refine goK_ret (peekR0 hp2 hr2) fun v H3 ⟨hv, hH⟩ => ?_
    subst hv; replace hH := hH.symm; subst hH
    have hpl : p2.length + (skB t).length = s.length := by rw [← hp2]; simp
    by_cases hend : ∃ t', skB t = 93 :: t'
    · obtain ⟨t', ht'⟩ := hend
      rw [ht'] at hp2 hpl
      have em : mayM [93] t = some t' := by unfold mayM; rw [ht']; simp [List.isPrefixOf]
      have g : (((skB t).headD 0).toNat : Int) = 93 := by rw [ht']; rfl
      have e1 : listK (n + 1) t = .ok (.mk 6 0 [] [] [], t') := by simp only [listK, listM, em]
      have wp : IntKind.wrap .i64 ((p2.length : Int) + 1) = ((p2 ++ [93]).length : Int) := by rw [wrA (by simp at hpl; omega)]; simp
      simp (disch := first | omega | assumption) only [g, hr2', wp, w16, h22, h33, n2r, n3r, nr2, nr3, go_sem, ↓reduceIte]
      have hg := good [] t' (p2 ++ [93]) e1 (by simpa using hp2)
      exact hQ _ _ _ _ [.agg (cL .nil [])] nofun (by simp (disch := first | omega | assumption) only [ir75, resvs, resv, upd_same, go_sem, ↓reduceIte]) (fin _ _ _ .nil 0 [] L3 h22) hg
    · have em : mayM [93] t = none := by
        unfold mayM
        rw [if_neg]
        intro hp
        obtain ⟨u, hu⟩ := List.isPrefixOf_iff_prefix.1 hp
        exact hend ⟨u, hu.symm⟩
      have g : ¬ ((((skB t).headD 0).toNat : Int) = 93) := by
        intro e
        have e2 : (((skB t).headD 0).toNat : Int) = ((93 : UInt8).toNat : Int) := e
        rw [u8_eq] at e2
        cases hs0 : skB t with
        | nil => rw [hs0] at e2; exact absurd e2 (by decide)
        | cons c u => rw [hs0] at e2; exact hend ⟨u, by rw [hs0]; simp at e2; rw [e2]⟩
      have eL : listK (n + 1) t = (valM n (skB t)).bind fun v t => (itemsM (valM n) (t.length + 1) [v] t).bind fun l t => .ok (.mk 6 0 [] l [], t) := by
        rw [valM_sk']; simp only [listK, listM, em]
      simp (disch := first | omega | assumption) only [g, go_sem, ↓reduceIte]
      refine goL_st (fun _ : List Val × List UInt8 × Own => []) (fun y H' => (∃ p', p' ++ y.2.1 = s ∧ LX H r H' (rr s p' (16 - n)) y.2.2 y.1.length 5) ∧ validD y.2.1 = true ∧ H' b2 = some (.cells z5) ∧ H' b3 = some (.cells (cL y.2.2 (cVs y.1))) ∧ (∃ gf : List UInt8 → Nat, (∀ v t', valM n y.2.1 = .ok (v, t') → t'.length < gf t') ∧ listK (n + 1) t = (valM n y.2.1).bind fun v t' => (itemsM (valM n) (gf t') (y.1 ++ [v]) t').bind fun l t => .ok (.mk 6 0 [] l [], t)) ∧ y.1.length + y.2.1.length ≤ s.length) (fun y => y.2.1.length) ([], skB t, .nil) (by simp (disch := first | omega | assumption) only [go_sem, ↓reduceIte])
        ⟨⟨p2, hp2, L3⟩, hvs, h22, by simpa [cVs] using h33, ⟨fun t' => t'.length + 1, fun _ _ _ => Nat.lt_succ_self _, eL⟩, by simp; omega⟩ ?_
      rintro ⟨l, t4, o⟩ H5 J ⟨⟨p5, hp5, L5⟩, hv5, h25, h35, ⟨gf, hgf, hg⟩, hle⟩ hJ
      simp only at hp5 L5 hv5 h25 h35 hgf hg hle
      have hr5 := L5.here
      have hr5' : H5 r = some (.cells [.str s, .int .i64 (p5.length : Int), .int .i64 ((16 - n : Nat) : Int), .int .i64 0]) := hr5
      have hll := cVs_len l
      simp (disch := first | omega | assumption) only [hr5', h35, go_sem, ↓reduceIte]
      refine goK_ret (hvn _ r s p5 t4 hp5 hl0 hv5 hr5) fun v H6 hret => ?_
      rcases valM_nz hret with ⟨w, t6, p6, e6, hv6, hp6, hH6⟩ | ⟨m, cs, a, d, e6, hm, hv6, hc5, hH6⟩
      · subst hv6
        have L6 : LX H r H6 (rr s p6 (16 - n)) o l.length 5 := by rw [hH6]; exact L5.call
        have h26 : H6 b2 = some (.cells z5) := by rw [hH6, upd_ne n2r]; exact h25
        have h36 : H6 b3 = some (.cells (cL o (cVs l))) := by rw [hH6, upd_ne n3r]; exact h35
        have hv6 := (val_right n _ _ _ hv5 e6).2.2
        have hf6 := (hfit _ _ _ e6).1.lt
        have hgf6 := hgf _ _ e6
        rw [e6] at hg
        simp only [RR.bind] at hg
        clear hH6
        simp (disch := first | omega | assumption) only [h36, cV_len, cV_strip, go_sem, ↓reduceIte]
        refine goP_ownS (by rw [hll]; exact L6.own) (by simp [hll]; omega) (by simp [hll, maxLen]; omega) fun o7 H7 hs7 => ?_
        have L7 := L6.app (o' := o7) (n' := (l ++ [w]).length) (by simpa [hll] using hs7)
        have h27 : H7 b2 = some (.cells z5) := own_keep L6.own h26 hs7.kept
        have h37 : H7 b3 = some (.cells (cL o (cVs l))) := own_keep L6.own h36 hs7.kept
        have eap : cVs l ++ [cV w] = cVs (l ++ [w]) := by rw [cVs_map, cVs_map]; simp
        have hb3' : (H7.upd b3 (.cells (cL o7 (cVs (l ++ [w]))))) b3 = some (.cells (cL o7 (cVs (l ++ [w])))) := upd_same ..
        have L8 : LX H r (H7.upd b3 (.cells (cL o7 (cVs (l ++ [w]))))) (rr s p6 (16 - n)) o7 (l ++ [w]).length 5 := L7.box hb3H h37
        have h28 : (H7.upd b3 (.cells (cL o7 (cVs (l ++ [w]))))) b2 = some (.cells z5) := by rw [upd_ne h23]; exact h27
        have hr8 := L8.here
        simp (disch := first | omega | assumption) only [h37, cV_strip, eap, go_sem, ↓reduceIte]
        generalize H7.upd b3 (.cells (cL o7 (cVs (l ++ [w])))) = H8 at *
        refine goK_ret (blanksR0 hp6 hl0 hr8) fun v H9 ⟨hv, p9, hp9, hH⟩ => ?_
        subst hv
        have L9 : LX H r H9 (rr s p9 (16 - n)) o7 (l ++ [w]).length 5 := by rw [hH]; exact L8.call
        have h29 : H9 b2 = some (.cells z5) := by rw [hH, upd_ne n2r]; exact h28
        have h39 : H9 b3 = some (.cells (cL o7 (cVs (l ++ [w])))) := by rw [hH, upd_ne n3r]; exact hb3'
        have hr9 := L9.here
        have hr9' : H9 r = some (.cells [.str s, .int .i64 (p9.length : Int), .int .i64 ((16 - n : Nat) : Int), .int .i64 0]) := hr9
        have hv9 := skB_valid t6 hv6
        have hpl9 : p9.length + (skB t6).length = s.length := by rw [← hp9]; simp
        clear hH
        simp (disch := first | omega | assumption) only [go_sem, ↓reduceIte]
        refine goK_ret (peekR0 hp9 hr9) fun v H10 ⟨hv, hH⟩ => ?_
        subst hv; replace hH := hH.symm; subst hH
        obtain ⟨q, hq⟩ : ∃ q, gf t6 = q + 1 := ⟨gf t6 - 1, by omega⟩
        rw [hq, itemsM] at hg
        by_cases h44 : ∃ t', skB t6 = 44 :: t'
        · obtain ⟨t', ht'⟩ := h44
          rw [ht'] at hp9 hpl9 hv9
          have g44 : (((skB t6).headD 0).toNat : Int) = 44 := by rw [ht']; rfl
          have em9 : mayM [93] t6 = none := by unfold mayM; rw [ht']; simp [List.isPrefixOf]
          have eu : mustM [44] t6 = .ok ((), t') := by unfold mustM mayM; rw [ht']; simp [List.isPrefixOf]
          have wp : IntKind.wrap .i64 ((p9.length : Int) + 1) = ((p9 ++ [44]).length : Int) := by rw [wrA (by simp at hpl9; omega)]; simp
          rw [em9, eu] at hg
          simp only [RR.bind] at hg
          have hv' : validD t' = true := by rw [validD_cons _ _ (by decide)] at hv9; exact hv9
          have hsk6 := (skB_suf t6).length_le
          rw [ht'] at hsk6
          simp only [List.length_cons] at hsk6
          have nx := hJ (l ++ [w], t', o7) (H9.upd r (rr s (p9 ++ [44]) (16 - n))) (by show t'.length < t4.length; omega) ⟨⟨p9 ++ [44], by simpa using hp9, L9.call⟩, hv', by rw [upd_ne n2r]; exact h29, by rw [upd_ne n3r]; exact h39, ⟨fun _ => q, fun v t2 h => ?_, ?_⟩, by show (l ++ [w]).length + t'.length ≤ s.length; simp; omega⟩
          · simp (disch := first | omega | assumption) only [g44, hr9', wp, go_sem, ↓reduceIte]
            exact goJ nx (by simp (disch := first | omega | assumption) only [go_sem, ↓reduceIte])
          · have h' : t2.length < t'.length := (hfit _ _ _ h).1.lt
            show t2.length < q
            omega
          · rw [hg]; show _ = (valM n t').bind _; cases valM n t' <;> rfl
        · have g44 : ¬ ((((skB t6).headD 0).toNat : Int) = 44) := by
            intro e
            have e2 : (((skB t6).headD 0).toNat : Int) = ((44 : UInt8).toNat : Int) := e
            rw [u8_eq] at e2
            cases hs0 : skB t6 with
            | nil => rw [hs0] at e2; exact absurd e2 (by decide)
            | cons c u => rw [hs0] at e2; exact h44 ⟨u, by rw [hs0]; simp at e2; rw [e2]⟩
          have h44' : (skB t6).headD 0 ≠ 44 := fun e => g44 (by rw [e]; rfl)
          simp (disch := first | omega | assumption) only [g44, go_sem, ↓reduceIte]
          refine goK_ret (takeR0 93 (by decide) hp9 hl0 hr9) fun v H11 ⟨hv, htk⟩ => ?_
          subst hv
          rw [take_may (by decide)] at htk
          cases hm : mayM [93] t6 with
          | some t' =>
            rw [hm] at htk hg
            obtain ⟨p11, hp11, hH⟩ := htk
            have L11 : LX H r H11 (rr s p11 (16 - n)) o7 (l ++ [w]).length 5 := by rw [hH]; exact L9.call
            have h211 : H11 b2 = some (.cells z5) := by rw [hH, upd_ne n2r]; exact h29
            have h311 : H11 b3 = some (.cells (cL o7 (cVs (l ++ [w])))) := by rw [hH, upd_ne n3r]; exact h39
            have hr11' : H11 r = some (.cells [.str s, .int .i64 (p11.length : Int), .int .i64 ((16 - n : Nat) : Int), .int .i64 0]) := L11.here
            simp (disch := first | omega | assumption) only [hr11', h211, h311, n2r, n3r, nr2, nr3, w16, go_sem, ↓reduceIte]
            exact hQ _ _ _ _ [.agg (cL o7 (cVs (l ++ [w])))] nofun (by simp (disch := first | omega | assumption) only [ir75, resvs, resv, upd_same, go_sem, ↓reduceIte]) (fin _ _ _ o7 _ (cVs (l ++ [w])) L11 h211) (good (l ++ [w]) t' p11 hg hp11)
          | none =>
            rw [hm] at htk hg
            simp only [head44 hm h44', RR.bind] at hg
            obtain ⟨_, a, d, hH⟩ := htk
            have L11 : LX H r H11 (re s a d 2) o7 (l ++ [w]).length 5 := by rw [hH]; exact L9.call
            have h211 : H11 b2 = some (.cells z5) := by rw [hH, upd_ne n2r]; exact h29
            have h311 : H11 b3 = some (.cells (cL o7 (cVs (l ++ [w])))) := by rw [hH, upd_ne n3r]; exact h39
            have hr11' : H11 r = some (.cells [.str s, .int .i64 a, .int .i64 d, .int .i64 2]) := L11.here
            simp (disch := first | omega | assumption) only [hr11', h211, h311, n2r, n3r, nr2, nr3, go_sem, ↓reduceIte]
            exact hQ _ _ _ _ [.agg (cL o7 (cVs (l ++ [w])))] nofun (by simp (disch := first | omega | assumption) only [ir75, resvs, resv, upd_same, go_sem, ↓reduceIte]) (fin _ _ _ o7 _ (cVs (l ++ [w])) L11 h211) (bad 2 a (IntKind.wrap .i64 (d - 1)) _ hg (by decide) ⟨_, rfl, rfl⟩)
      · subst hv6
        have L6 : LX H r H6 (re s a d m) o l.length 5 := by rw [hH6]; exact L5.call
        have h26 : H6 b2 = some (.cells z5) := by rw [hH6, upd_ne n2r]; exact h25
        have h36 : H6 b3 = some (.cells (cL o (cVs l))) := by rw [hH6, upd_ne n3r]; exact h35
        rw [e6] at hg
        simp only [RR.bind] at hg
        clear hH6
        have hc5' : cs.length = 5 := hc5
        simp (disch := first | omega | assumption) only [h36, hc5', go_sem, ↓reduceIte]
        refine goP_ownS (by rw [hll]; exact L6.own) (by simp [hll]; omega) (by simp [hll, maxLen]; omega) fun o7 H7 hs7 => ?_
        have L7 := L6.app (o' := o7) (n' := l.length + 1) (by simpa [hll] using hs7)
        have h27 : H7 b2 = some (.cells z5) := own_keep L6.own h26 hs7.kept
        have h37 : H7 b3 = some (.cells (cL o (cVs l))) := own_keep L6.own h36 hs7.kept
        simp (disch := first | omega | assumption) only [h37, go_sem, ↓reduceIte]
        generalize cVs l ++ [List.map AV.strip1 (List.map AV.strip1 cs)] = ys
        have hb3' : (H7.upd b3 (.cells (cL o7 ys))) b3 = some (.cells (cL o7 ys)) := upd_same ..
        have L8 : LX H r (H7.upd b3 (.cells (cL o7 ys))) (re s a d m) o7 (l.length + 1) 5 := L7.box hb3H h37
        have h28 : (H7.upd b3 (.cells (cL o7 ys))) b2 = some (.cells z5) := by rw [upd_ne h23]; exact h27
        have hr8 := L8.here
        have hr8' : (H7.upd b3 (.cells (cL o7 ys))) r = some (.cells [.str s, .int .i64 a, .int .i64 d, .int .i64 m]) := hr8
        generalize H7.upd b3 (.cells (cL o7 ys)) = H8 at *
        refine goK_ret (blanksR1 hm hr8) fun v H9 ⟨hv, hH⟩ => ?_
        subst hv; replace hH := hH.symm; subst hH
        simp (disch := first | omega | assumption) only [go_sem, ↓reduceIte]
        refine goK_ret (peekR1 hm hr8) fun v H9 ⟨hv, hH⟩ => ?_
        subst hv; replace hH := hH.symm; subst hH
        simp (disch := first | omega | assumption) only [go_sem, ↓reduceIte]
        refine goK_ret (takeR1 93 (by decide) hm hr8) fun v H9 ⟨hv, hH⟩ => ?_
        subst hv; replace hH := hH.symm; subst hH
        simp (disch := first | omega | assumption) only [hr8', h28, hb3', n2r, n3r, nr2, nr3, go_sem, ↓reduceIte]
        exact hQ _ _ _ _ [.agg (cL o7 ys)] nofun (by simp (disch := first | omega | assumption) only [ir75, resvs, resv, upd_same, go_sem, ↓reduceIte]) (fin _ _ _ o7 _ ys L8 h28) (bad m a (IntKind.wrap .i64 (d - 1)) _ hg hm ⟨_, rfl, rfl⟩)
end Go.Proofs.YtpjafglhdlfnbaaGreatDoor
namespace Go.Proofs.YtpjafglhdlfnbaaGreatDoor
open Go.Ab
end Go.Proofs.YtpjafglhdlfnbaaGreatDoor
namespace Go.Proofs.YtpjafglhdlfnbaaGreatDoor
open Go.Ab Go.Lib
end Go.Proofs.YtpjafglhdlfnbaaGreatDoor
