/- The rows of the laws on values. -/
import Derived.Test.YtpjafglhdlfnbaaDoorRow
import Derived.Test.YtpjafglhdlfnbaaDoorValE
set_option maxRecDepth 100000
set_option linter.unusedSimpArgs false
set_option linter.unusedVariables false
namespace Go.Proofs.YtpjafglhdlfnbaaDoor
open Go.Ab Go.Lib
open Go.ChangeShapes Go.WideShapes Go.ChangeAt Go.RowKit Go.WideElems

theorem own : ownKnob Tryd.prog.godebug = none := by kernel_rfl
theorem laidOut : laidOutB Tryd.prog = true := by kernel_rfl

theorem bVs_sum : ∀ l, bVs l = (l.map bV).sum
  | [] => rfl
  | v :: r => by simp [bVs, bVs_sum r]
theorem bMs_sum : ∀ l, bMs l = (l.map bM).sum
  | [] => rfl
  | v :: r => by simp [bMs, bMs_sum r]
theorem wfVs_all : ∀ {l : List Val}, (∀ v ∈ l, wfV v) → wfVs l
  | [], _ => trivial
  | v :: r, h => ⟨h v (.head _), wfVs_all fun x hx => h x (.tail _ hx)⟩
theorem wfMs_all : ∀ {l : List Mem}, (∀ v ∈ l, wfM v) → wfMs l
  | [], _ => trivial
  | v :: r, h => ⟨h v (.head _), wfMs_all fun x hx => h x (.tail _ hx)⟩

theorem inR_wf {n : Int} (h : (Lit.int .i64 n).wf = true) : inR n := by
  simp [Lit.wf, IntKind.has, IntKind.min, IntKind.max, IntKind.signed, IntKind.bits] at h
  unfold inR
  omega

abbrev DV (m : Nat) : Prop := DecB Tryd.prog m 26 5 cV wfV bV
abbrev DM (m : Nat) : Prop := DecB Tryd.prog m 70 6 cM wfM bM

theorem decVs {m : Nat} (h : DV m) : DecB Tryd.prog (m + 1) 24 1 (fun l : List Val => [.sl .no 5 (cVs l)]) (fun l => wfVs l) (fun l => bVs l + 1) := by
  intro H enc W cs d ps h1 h2
  obtain ⟨a, h3, h4, h5, h6⟩ := DecB.slice (t := 24) Tryd.underlying24 (B := 80) (sz := 5) (by kernel_rfl) (by kernel_rfl) (by decide) h enc W cs d ps h1 h2
  exact ⟨a, wfVs_all h3.2.2, by simp only [bVs_sum]; exact h4, h5, by simp only [cVs_map]; exact h6⟩
theorem decMs {m : Nat} (h : DM m) : DecB Tryd.prog (m + 1) 22 1 (fun l : List Mem => [.sl .no 6 (cMs l)]) (fun l => wfMs l) (fun l => bMs l + 1) := by
  intro H enc W cs d ps h1 h2
  obtain ⟨a, h3, h4, h5, h6⟩ := DecB.slice (t := 22) Tryd.underlying22 (B := 96) (sz := 6) (by kernel_rfl) (by kernel_rfl) (by decide) h enc W cs d ps h1 h2
  exact ⟨a, wfMs_all h3.2.2, by simp only [bMs_sum]; exact h4, h5, by simp only [cMs_map]; exact h6⟩

theorem dec : ∀ m, DV m ∧ DM m := by
  intro m
  induction m using Nat.strongRecOn with
  | _ m ih =>
    have hs : ∀ {k}, k ≤ m → DecB Tryd.prog k 24 1 (fun l : List Val => [.sl .no 5 (cVs l)]) (fun l => wfVs l) (fun l => bVs l + 1) := fun {k} hk => by
      cases k with
      | zero => exact DecB.zero
      | succ k => exact decVs (ih k (by omega)).1
    have hm : ∀ {k}, k ≤ m → DecB Tryd.prog k 22 1 (fun l : List Mem => [.sl .no 6 (cMs l)]) (fun l => wfMs l) (fun l => bMs l + 1) := fun {k} hk => by
      cases k with
      | zero => exact DecB.zero
      | succ k => exact decMs (ih k (by omega)).2
    refine ⟨?_, ?_⟩
    · cases m with
      | zero => exact DecB.zero
      | succ k =>
        exact DecB.struct (DecFsB.cons (by kernel_rfl) (DecB.int (k := .i64) Tryd.underlying3) (DecFsB.cons (by kernel_rfl) (DecB.int (k := .i64) Tryd.underlying2) (DecFsB.cons (by kernel_rfl) (DecB.str Tryd.underlying9) (DecFsB.cons (by kernel_rfl) (hs (by omega)) (DecFsB.cons (by kernel_rfl) (hm (by omega)) DecFsB.nil)))))
          (by kernel_rfl) (by kernel_rfl) cV wfV bV (fun x => .mk x.1 x.2.1 x.2.2.1 x.2.2.2.1 x.2.2.2.2.1) (fun a => rfl) (fun a h => ⟨inR_wf h.2.1, h.2.2.2.1, h.2.2.2.2.1⟩) (fun a => by simp only [bV]; omega)
    · cases m with
      | zero => exact DecB.zero
      | succ k =>
        exact DecB.struct (DecFsB.cons (by kernel_rfl) (DecB.str Tryd.underlying9) (DecFsB.cons (by kernel_rfl) (ih k (by omega)).1 DecFsB.nil))
          (by kernel_rfl) (by kernel_rfl) cM wfM bM (fun x => .mk x.1 x.2.1) (fun a => by simp [cM]) (fun a h => h.2.1) (fun a => by simp only [bM]; omega)

theorem decVA (m : Nat) : DV m := (dec m).1
theorem decVsA : ∀ m, DecB Tryd.prog m 24 1 (fun l : List Val => [.sl .no 5 (cVs l)]) (fun l => wfVs l) (fun l => bVs l + 1)
  | 0 => DecB.zero
  | m + 1 => decVs (dec m).1
theorem decMsA : ∀ m, DecB Tryd.prog m 22 1 (fun l : List Mem => [.sl .no 6 (cMs l)]) (fun l => wfMs l) (fun l => bMs l + 1)
  | 0 => DecB.zero
  | m + 1 => decMs (dec m).2

theorem agg_of {W : World} {r : Reach} {b : Nat} {t : TypeId} {fs : Array Field} {v : Value} (ht : Tryd.prog.underlying t = some (.struct fs)) (h : Value.okWide Tryd.prog W r b t v) : ∃ cs, v = .agg cs := by
  unfold Value.okWide at h
  rw [ht] at h
  obtain ⟨cs, h, _⟩ := h
  exact ⟨cs, h⟩

/-- What a bound on the whole gives. -/
theorem cond_bulk {H : Type} {s : ChangeSpec} {ds : List (DataW H)} (h : ∀ k, (Rows.OpenSpec.upto s).cond = some k → k H ds = true) : blkAll ds ≤ 1048576 := by
  have h1 : Rows.uptoSmall H ds = true := h _ rfl
  have h2 := of_decide_eq_true h1
  rwa [bulkAll_eq] at h2

end Go.Proofs.YtpjafglhdlfnbaaDoor
