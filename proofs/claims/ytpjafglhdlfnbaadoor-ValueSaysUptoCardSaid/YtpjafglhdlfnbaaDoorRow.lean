/- The rows of the laws: what the program's text lays, a world for the witness, and how the arguments are read. -/
import Derived.Test.YtpjafglhdlfnbaaDoorCards
import Derived.Test.YtpjafglhdlfnbaaDoorTie
import Derived.Test.YtpjafglhdlfnbaaDoorLib
import Derived.Test.YtpjafglhdlfnbaaDoorAbsQ
import Derived.Lib.LaidIn
import Derived.Lib.LaidU8T
import Derived.Lib.LaidTab
import Derived.Deep.DeepHandedRow
import Derived.Deep.DeepWitnessRowRef
import Derived.ProofKit
import Derived.SizedLaws
import Derived.OpenShut
set_option maxRecDepth 100000
set_option linter.unusedSimpArgs false
set_option linter.unusedVariables false
namespace Go.Proofs.YtpjafglhdlfnbaaDoor
open Go.Ab Go.Lib
open Go.ChangeShapes Go.WideShapes Go.ChangeAt Go.RowKit Go.WideElems

/-! how much there is -/
mutual
theorem bulk_eq {H : Type} : ∀ d : DataW H, Rows.uptoBulk d = blk d
  | .lit (.string _) => rfl
  | .lit (.bool _) => rfl
  | .lit (.int _ _) => rfl
  | .lit (.float _ _) => rfl
  | .lit .nil => rfl
  | .nil => rfl
  | .ptr d => by simp only [Rows.uptoBulk, blk, bulk_eq d]
  | .slice e s => by simp only [Rows.uptoBulk, blk, bulkAll_eq e, bulkAll_eq s]
  | .agg e => by simp only [Rows.uptoBulk, blk, bulkAll_eq e]
  | .iface _ d => by simp only [Rows.uptoBulk, blk, bulk_eq d]
  | .map e => by simp only [Rows.uptoBulk, blk, bulkEs_eq e]
  | .held _ => rfl
theorem bulkAll_eq {H : Type} : ∀ d : List (DataW H), Rows.uptoBulkAll d = blkAll d
  | [] => rfl
  | d :: r => by simp only [Rows.uptoBulkAll, blkAll, bulk_eq d, bulkAll_eq r]
theorem bulkEs_eq {H : Type} : ∀ d : List (Lit × DataW H), Rows.uptoBulkEntries d = blkEs d
  | [] => rfl
  | x :: r => by simp only [Rows.uptoBulkEntries, blkEs, bulkE_eq x, bulkEs_eq r]
theorem bulkE_eq {H : Type} : ∀ d : Lit × DataW H, Rows.uptoBulkEntry d = blkE d
  | (.string _, d) => by simp only [Rows.uptoBulkEntry, blkE, bulk_eq d]
  | (.bool _, d) => by simp only [Rows.uptoBulkEntry, blkE, bulk_eq d]
  | (.int _ _, d) => by simp only [Rows.uptoBulkEntry, blkE, bulk_eq d]
  | (.float _ _, d) => by simp only [Rows.uptoBulkEntry, blkE, bulk_eq d]
  | (.nil, d) => by simp only [Rows.uptoBulkEntry, blkE, bulk_eq d]
end

/-! what the program's text lays -/
def EntryOk (W : World) (g : Nat) (ps : List (Value → Prop)) : Prop :=
  (∃ (arr : Array Value) (E : TypeId) (fr : Nat × Nat), W.heap[g]? = some (.cells arr E fr) ∧ arr.size = ps.length) ∧ ∀ (j : Nat) (p : Value → Prop), ps[j]? = some p → ∃ v, CellIs immG W g j v ∧ p v

theorem entry_of_var {W : World} {n : String} {g : Nat} {cs : Array Value} {ps : List (Value → Prop)} (hg : Tryd.prog.globalNamed n = some g) (hv : W.var? Tryd.prog n = some cs) (hl : cs.size = ps.length)
    (h : ∀ (j : Nat) (p : Value → Prop) v, ps[j]? = some p → cs[j]? = some v → v.oneCell' = true ∧ p v) : EntryOk W g ps := by
  refine ⟨?_, fun j p hp => ?_⟩
  · have h1 := hv
    simp only [World.var?, hg, Option.bind_some] at h1
    split at h1
    · rename_i c t fr he
      cases h1
      exact ⟨_, _, _, he, hl⟩
    · cases h1
  · have hj : j < cs.size := by
      have := (List.getElem?_eq_some_iff.1 hp).1
      omega
    have h1 := h j p cs[j] hp (Array.getElem?_eq_getElem hj)
    refine ⟨cs[j], ⟨?_, trivial, h1.1⟩, h1.2⟩
    rw [World.var?_cell hg hv j, Array.getElem?_eq_getElem hj]

theorem entry_ints {W : World} {n : String} {g cnt : Nat} {t e : TypeId} {k : IntKind} {zs : List Nat} (hg : Tryd.prog.globalNamed n = some g) (hty : (Tryd.prog.globals[g]?).map (·.type) = some t) (ht : Tryd.prog.underlying t = some (.array cnt e)) (he : Tryd.prog.underlying e = some (.int k)) (hce : Tryd.prog.cellsOf e = 1) (hct : Tryd.prog.cellsOf t = cnt)
    (h : VarReads Tryd.prog W n (tabData k (zs.map fun (z : Nat) => (z : Int)))) : EntryOk W g (zs.map fun (z : Nat) (v : Value) => v = .int k z) := by
  obtain ⟨g', t', cs, fuel, p, hg', ht', hvar, hd⟩ := h
  obtain rfl := Option.some.inj (hg.symm.trans hg')
  obtain rfl := Option.some.inj (hty.symm.trans ht')
  have hcs := cells_of_tab ht he hce hct hd
  refine entry_of_var hg hvar (by rw [← Array.length_toList, hcs]; simp) fun j p v hp hj => ?_
  rw [← Array.getElem?_toList, hcs] at hj
  simp only [List.getElem?_map, Option.map_eq_some_iff] at hp hj
  obtain ⟨z, hz, rfl⟩ := hp
  obtain ⟨y, ⟨z', hz', rfl⟩, rfl⟩ := hj
  rw [hz] at hz'
  cases hz'
  exact ⟨rfl, rfl⟩

theorem u8x : U8Extra Tryd.prog Tryd.lays196_ren := ⟨by kernel_rfl, by kernel_rfl, by kernel_rfl, by kernel_rfl, by kernel_rfl, by kernel_rfl, by kernel_rfl⟩
theorem accept_cells : accZ.length = 32 := rfl
theorem acc_at2 : ∀ c : Fin 32, accZ[c.val]? = some (if c.val % 2 = 0 then Lib.accLo (c.val / 2) else Lib.accHi (c.val / 2)) := by decide +kernel

theorem entry_accept {W : World} (h1 : VarReads Tryd.prog W "unicode/utf8.first" firstData) (h2 : VarReads Tryd.prog W "unicode/utf8.acceptRanges" acceptData) : EntryOk W 1 (accZ.map fun (n : Nat) (v : Value) => v = .int .u8 n) := by
  have ht := utf8Tabs_of_readsT (U8Types.of196 Tryd.lays196) u8x h1 h2
  obtain ⟨g', t', cs, fuel, p, hg', ht', hvar, hd⟩ := h2
  obtain rfl := Option.some.inj ((show Tryd.prog.globalNamed "unicode/utf8.acceptRanges" = some 1 by kernel_rfl).symm.trans hg')
  obtain rfl := Option.some.inj (u8x.y4.symm.trans ht')
  have hcs : cs.size = 32 := by
    have h3 : fuel ≠ 0 := fun e => by subst e; simp [DataW.trod] at hd
    obtain ⟨fuel, rfl⟩ := Nat.exists_eq_succ_of_ne_zero h3
    have h4 : cs.toList.length = Tryd.prog.cellsOf (Tryd.lays196_ren.t 139) := by
      have hu := (U8Types.of196 Tryd.lays196).t139
      simp only [DataW.trod, hu, u8x.c138] at hd
      split at hd
      · rename_i hl; simpa using hl
      · cases hd
    rw [← Array.length_toList, h4]; exact (show Tryd.prog.cellsOf (Tryd.lays196_ren.t 139) = 32 by kernel_rfl)
  refine entry_of_var hg' hvar (by rw [hcs]; rfl) fun j p v hp hj => ?_
  have hj32 : j < 32 := by rw [← hcs]; exact (Array.getElem?_eq_some_iff.1 hj).1
  simp only [List.getElem?_map, Option.map_eq_some_iff] at hp
  obtain ⟨z, hz, rfl⟩ := hp
  rw [acc_at2 ⟨j, hj32⟩] at hz
  cases hz
  have ⟨a1, a2⟩ := ht.2 (j / 2) (by omega)
  rcases Nat.mod_two_eq_zero_or_one j with e | e
  · have e2 : 2 * (j / 2) = j := by omega
    rw [e2] at a1
    have h5 := (World.var?_cell hg' hvar j).symm.trans a1
    rw [hj] at h5
    cases h5
    simp [e, Value.oneCell']
  · have e2 : 2 * (j / 2) + 1 = j := by omega
    rw [e2] at a2
    have h5 := (World.var?_cell hg' hvar j).symm.trans a2
    rw [hj] at h5
    cases h5
    simp [e, Value.oneCell']

theorem entry_err {W : World} {n : String} {g : Nat} {t : TypeId} {s : String} {d : DataW Unit} (hg : Tryd.prog.globalNamed n = some g) (hty : (Tryd.prog.globals[g]?).map (·.type) = some t) {ms : Array (String × TypeId)} (hu : Tryd.prog.underlying t = some (.interface ms)) (h : VarReads Tryd.prog W n (.iface s d)) : EntryOk W g [fun v => ∃ te pe, v = .iface te pe] := by
  obtain ⟨g', t', cs, fuel, p, hg', ht', hvar, hd⟩ := h
  obtain rfl := Option.some.inj (hg.symm.trans hg')
  obtain rfl := Option.some.inj (hty.symm.trans ht')
  have h1 : ∃ te pe, cs.toList = [.iface te pe] := by
    cases fuel with
    | zero => simp [DataW.trod] at hd
    | succ fuel =>
      simp only [DataW.trod, hu] at hd
      split at hd
      all_goals first
        | (cases hd; done)
        | skip
      all_goals simp_all
      done
  obtain ⟨te, pe, he⟩ := h1
  refine entry_of_var hg hvar (by rw [← Array.length_toList, he]; rfl) fun j p v hp hj => ?_
  rw [← Array.getElem?_toList, he] at hj
  match j, hp, hj with
  | 0, hp, hj => cases hp; cases hj; exact ⟨rfl, _, _, rfl⟩
  | j + 1, hp, hj => simp at hp

theorem entry_int {W : World} (hS : W.ShapedOpen Tryd.prog) {g : Nat} {z : Array Value} {t : TypeId} {k : IntKind} (hg : g < Tryd.prog.globals.size) (h0 : (((begin Tryd.prog (fun _ _ => 0) default).world.heap[g]?).bind Obj.row?) = some (z, t)) (hz : z.size = 1) (hb : Tryd.prog.buildable t = true)
    (hts : Tryd.prog.cellTypes Tryd.prog.depth t = some [t]) (ht : Tryd.prog.underlying t = some (.int k)) : EntryOk W g [fun v => ∃ m, v = .int k m] := by
  obtain ⟨cs, h1, h2, h3⟩ := hS.1 g z t hg h0
  have hsz : cs.size = 1 := by rw [h2, hz]
  obtain ⟨ts, hts', _, hall⟩ := h3 hb
  rw [hts] at hts'
  cases hts'
  have h4 : cs[0]? = some cs[0] := Array.getElem?_eq_getElem (by omega)
  obtain ⟨u, hu, hc⟩ := hall 0 cs[0] h4
  cases hu
  have h5 : ∃ m, cs[0] = .int k m := by
    unfold Cell.ok at hc
    rw [ht] at hc
    generalize cs[0] = v at hc
    cases v <;> first | exact hc.elim | (obtain ⟨rfl, _⟩ := hc; exact ⟨_, rfl⟩)
  obtain ⟨m, hm⟩ := h5
  refine ⟨⟨cs, t, _, h1, hsz⟩, fun j p hp => ?_⟩
  match j, hp with
  | 0, hp =>
    cases hp
    refine ⟨.int k m, ⟨?_, trivial, rfl⟩, m, rfl⟩
    unfold World.cell?
    simp only [h1, h4, hm]
    simp
  | j + 1, hp => simp at hp

abbrev T64 : List Nat := [1, 10, 100, 1000, 10000, 100000, 1000000, 10000000, 100000000, 1000000000, 10000000000, 100000000000, 1000000000000, 10000000000000, 100000000000000, 1000000000000000, 10000000000000000, 100000000000000000, 1000000000000000000, 10000000000000000000]
abbrev B32 : List Nat := [0, 1, 28, 2, 29, 14, 24, 3, 30, 22, 20, 15, 25, 17, 4, 8, 31, 27, 13, 23, 21, 19, 16, 7, 26, 12, 18, 6, 11, 5, 10, 9]
abbrev B64 : List Nat := [0, 1, 56, 2, 57, 49, 28, 3, 61, 58, 42, 50, 38, 29, 17, 4, 62, 47, 59, 36, 45, 43, 51, 22, 53, 39, 33, 30, 24, 18, 12, 5, 63, 55, 48, 27, 60, 41, 37, 16, 46, 35, 44, 21, 52, 32, 23, 11, 54, 26, 40, 15, 34, 20, 31, 10, 25, 14, 19, 9, 13, 8, 7, 6]

/-- The rows' list of variables (one for all the rows). -/
abbrev laidL : List (String × DataW Unit) := [("math/bits.deBruijn32tab", Rows.laid_math_bits_deBruijn32tab), ("math/bits.deBruijn64tab", Rows.laid_math_bits_deBruijn64tab), ("internal/strconv.uint64pow10", Rows.laid_internal_strconv_uint64pow10), ("unicode/utf8.acceptRanges", Rows.laid_unicode_utf8_acceptRanges), ("strconv.ErrRange", Rows.laid_strconv_ErrRange), ("strconv.ErrSyntax", Rows.laid_strconv_ErrSyntax), ("unicode/utf8.first", Rows.laid_unicode_utf8_first)]

theorem tabs_ok {W : World} (hL : laidMetH Tryd.prog laidL W) (hS : W.ShapedOpen Tryd.prog) : TabOk immG W := by
  have hL' : laidMet Tryd.prog laidL W := hL
  have m1 : VarReads Tryd.prog W "unicode/utf8.first" (tabData .u8 (Go.Pinned.utf8FirstZ.map fun (z : Nat) => (z : Int))) := laidMet.reads hL' (d := Rows.laid_unicode_utf8_first) (.tail _ (.tail _ (.tail _ (.tail _ (.tail _ (.tail _ (.head _)))))))
  have m2 : VarReads Tryd.prog W "unicode/utf8.acceptRanges" acceptData := laidMet.reads hL' (d := Rows.laid_unicode_utf8_acceptRanges) (.tail _ (.tail _ (.tail _ (.head _))))
  have m3 : VarReads Tryd.prog W "internal/strconv.uint64pow10" (tabData .u64 (T64.map fun (z : Nat) => (z : Int))) := laidMet.reads hL' (d := Rows.laid_internal_strconv_uint64pow10) (.tail _ (.tail _ (.head _)))
  have m4 : VarReads Tryd.prog W "math/bits.deBruijn32tab" (tabData .u8 (B32.map fun (z : Nat) => (z : Int))) := laidMet.reads hL' (d := Rows.laid_math_bits_deBruijn32tab) (.head _)
  have m5 : VarReads Tryd.prog W "math/bits.deBruijn64tab" (tabData .u8 (B64.map fun (z : Nat) => (z : Int))) := laidMet.reads hL' (d := Rows.laid_math_bits_deBruijn64tab) (.tail _ (.head _))
  have m6 : VarReads Tryd.prog W "strconv.ErrSyntax" Rows.laid_strconv_ErrSyntax := laidMet.reads hL' (.tail _ (.tail _ (.tail _ (.tail _ (.tail _ (.head _))))))
  have m7 : VarReads Tryd.prog W "strconv.ErrRange" Rows.laid_strconv_ErrRange := laidMet.reads hL' (.tail _ (.tail _ (.tail _ (.tail _ (.head _)))))
  have m8 : firstData = tabData .u8 (Go.Pinned.utf8FirstZ.map fun (z : Nat) => (z : Int)) := by kernel_rfl
  have e1 : EntryOk W 0 (Go.Pinned.utf8FirstZ.map fun (n : Nat) (v : Value) => v = .int .u8 n) :=
    entry_ints (t := Tryd.lays196_ren.t 119) u8x.n3 u8x.y3 (U8Types.of196 Tryd.lays196).t119 (U8Types.of196 Tryd.lays196).t5 u8x.c5 u8x.c119 m1
  have e2 : EntryOk W 1 (accZ.map fun (n : Nat) (v : Value) => v = .int .u8 n) := entry_accept (m8 ▸ m1) m2
  have e3 : EntryOk W 2 (T64.map fun (n : Nat) (v : Value) => v = .int .u64 n) :=
    entry_ints (t := 166) (e := 146) (cnt := 20) (by kernel_rfl) (by kernel_rfl) (by kernel_rfl) (by kernel_rfl) (by kernel_rfl) (by kernel_rfl) m3
  have e4 : EntryOk W 4 (B32.map fun (n : Nat) (v : Value) => v = .int .u8 n) :=
    entry_ints (t := 185) (e := 5) (cnt := 32) (by kernel_rfl) (by kernel_rfl) (by kernel_rfl) (by kernel_rfl) (by kernel_rfl) (by kernel_rfl) m4
  have e5 : EntryOk W 5 (B64.map fun (n : Nat) (v : Value) => v = .int .u8 n) :=
    entry_ints (t := 186) (e := 5) (cnt := 64) (by kernel_rfl) (by kernel_rfl) (by kernel_rfl) (by kernel_rfl) (by kernel_rfl) (by kernel_rfl) m5
  have e6 : EntryOk W 6 [fun v => ∃ te pe, v = .iface te pe] := entry_err (t := 161) (by kernel_rfl) (by kernel_rfl) Tryd.underlying161 m6
  have e7 : EntryOk W 7 [fun v => ∃ te pe, v = .iface te pe] := entry_err (t := 161) (by kernel_rfl) (by kernel_rfl) Tryd.underlying161 m7
  have e8 : EntryOk W 3 [fun v => ∃ m, v = .int .i64 m] := entry_int hS (z := #[.int .i64 0]) (t := 3) (of_decide_eq_true (by kernel_rfl)) (by kernel_rfl) rfl (by kernel_rfl) (by kernel_rfl) (by kernel_rfl)
  intro x hx
  unfold tabL at hx
  simp only [List.mem_cons, List.not_mem_nil, or_false] at hx
  rcases hx with rfl | rfl | rfl | rfl | rfl | rfl | rfl | rfl <;> first | exact e1 | exact e2 | exact e3 | exact e4 | exact e5 | exact e6 | exact e7 | exact e8

/-! a world for the witness -/
noncomputable abbrev N0 : Nat := (World.settled Tryd.prog default).heap.size
noncomputable def laidWorld (os : Os) : World :=
  let w0 := World.holding Tryd.prog os ⟨#[.cells #[.string ⟨#[105, 110, 118, 97, 108, 105, 100, 32, 115, 121, 110, 116, 97, 120]⟩] 195, .cells #[.string ⟨#[118, 97, 108, 117, 101, 32, 111, 117, 116, 32, 111, 102, 32, 114, 97, 110, 103, 101]⟩] 195], #[], []⟩
  let put (h : Array Obj) (g : Nat) (cs : Array Value) : Array Obj := h.modify g fun
    | .cells _ t frozen => .cells cs t frozen
    | o => o
  let h1 := put w0.heap 0 (Go.Pinned.utf8FirstZ.map fun (z : Nat) => Value.int .u8 z).toArray
  let h2 := put h1 1 (accZ.map fun (z : Nat) => Value.int .u8 z).toArray
  let h3 := put h2 2 (T64.map fun (z : Nat) => Value.int .u64 z).toArray
  let h4 := put h3 4 (B32.map fun (z : Nat) => Value.int .u8 z).toArray
  let h5 := put h4 5 (B64.map fun (z : Nat) => Value.int .u8 z).toArray
  let h6 := put h5 6 #[.iface 193 (.pointer (some ⟨(World.settled Tryd.prog os).heap.size, 0, none⟩))]
  let h7 := put h6 7 #[.iface 193 (.pointer (some ⟨(World.settled Tryd.prog os).heap.size + 1, 0, none⟩))]
  { w0 with heap := h7 }
theorem laid_met (os : Os) (args : Array Value) : laidMet Tryd.prog laidL ((laidWorld os).forCall (fun _ _ => 0) ⟨#[], args, []⟩).memory :=
  (LaidIn.of_run (l := laidL) [0, 1, 2, 3, 4, 5, 6, 7, N0, N0 + 1] 8 (by kernel_rfl) (by kernel_rfl) (by kernel_rfl) (by kernel_rfl)).met
end Go.Proofs.YtpjafglhdlfnbaaDoor
