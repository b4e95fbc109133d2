import Derived.Test.YtdpfofoinaammaaGreatDoorRows
import Derived.LaidByTextLater
import Derived.SevenTiedAt
import Derived.Test.YtdpfofoinaammaaGreatDoorM3
set_option maxRecDepth 100000
set_option linter.all false
namespace Go.Proofs.YtdpfofoinaammaaGreatDoor
open Go
theorem yw : Tryz.pinned.checked.prog.pinnedFits "unicode/utf8.first" = true := by kernel_rfl
theorem Uj : Tryz.pinned.checked.prog.headLifts.contains "ownunsafe" = false := by kernel_rfl
theorem Rx : Tryz.pinned.checked.prog.listedFits [("strconv.ErrSyntax", Rows.laid_strconv_ErrSyntax), ("strconv.ErrRange", Rows.laid_strconv_ErrRange), ("internal/strconv.uint64pow10", Rows.laid_internal_strconv_uint64pow10), ("math/bits.deBruijn32tab", Rows.laid_math_bits_deBruijn32tab), ("math/bits.deBruijn64tab", Rows.laid_math_bits_deBruijn64tab), ("unicode/utf8.first", Rows.laid_unicode_utf8_first), ("unicode/utf8.acceptRanges", Rows.laid_unicode_utf8_acceptRanges)] = true := by
 unfold Program.listedFits
 rw[Uj]
 kernel_rfl
abbrev Vx : List (String × DataW Unit) := [("strconv.ErrSyntax", Rows.laid_strconv_ErrSyntax), ("strconv.ErrRange", Rows.laid_strconv_ErrRange), ("internal/strconv.uint64pow10", Rows.laid_internal_strconv_uint64pow10), ("math/bits.deBruijn32tab", Rows.laid_math_bits_deBruijn32tab), ("math/bits.deBruijn64tab", Rows.laid_math_bits_deBruijn64tab), ("unicode/utf8.acceptRanges", Rows.laid_unicode_utf8_acceptRanges)]
abbrev Po:List LaidKind:=[.sentinel,.sentinel,.data,.data,.data,.data]
theorem Qv:Tryz.prog.worded (varsWordLater true)=true:=by kernel_rfl
theorem RM:Tryz.prog.worded (varsWordLater !true)=false:=by kernel_rfl
theorem TY:Tryz.prog.worded rootWordLater=true:=by kernel_rfl
theorem Pn:Vx.map (fun x=>Tryz.prog.kindOfLater x.1)=Po.map some:=by kernel_rfl
theorem QD : (Tryz.prog.funcNamed "gosem.cut.vars").isSome = true := by kernel_rfl
theorem Pd:varsNamedLaterB Tryz.prog (varsId Tryz.prog) Vx=true:=by kernel_rfl
theorem Q6:∀ os tape,varsDone Tryz.prog 400 (varsId Tryz.prog) os tape=true:=fun _ _=>by kernel_rfl
theorem Qk:∀ os tape,(DataW.laidRun Tryz.prog (varsWorld Tryz.prog 400 (varsId Tryz.prog) os tape).memory 8 (Vx.map (·.1))).map (·.1)=some Vx:=fun _ _=>by kernel_rfl
theorem Rl:∀ os tape,(DataW.laidRun Tryz.prog (varsWorld Tryz.prog 400 (varsId Tryz.prog) os tape).memory 8 (Vx.map (·.1))).map (fun x=>decide x.2.Nodup&&laidRowsB Tryz.prog (varsWorld Tryz.prog 400 (varsId Tryz.prog) os tape).memory x.2)=some true:=fun _ _=>by kernel_rfl
theorem Nu : Tryz.prog.laidByTextLater [("strconv.ErrSyntax", Rows.laid_strconv_ErrSyntax), ("strconv.ErrRange", Rows.laid_strconv_ErrRange), ("internal/strconv.uint64pow10", Rows.laid_internal_strconv_uint64pow10), ("math/bits.deBruijn32tab", Rows.laid_math_bits_deBruijn32tab), ("math/bits.deBruijn64tab", Rows.laid_math_bits_deBruijn64tab), ("unicode/utf8.acceptRanges", Rows.laid_unicode_utf8_acceptRanges)] [.sentinel, .sentinel, .data, .data, .data, .data] true :=
 Program.laidByTextLater_by_run 400 8 Qv RM TY Pn QD Pd Q6 Qk Rl
theorem Z3:Rows.serveWordsUptoRow.laidByTextAt .later Tryz.pinned [.sentinel,.sentinel,.data,.data,.data,.pinned,.data] true :=
 OpenClaim.laidByTextAt_pinned rfl rfl Nu rfl rfl rfl rfl (fun y hy _e=>by
  simp only[Rows.serveWordsUptoRow,List.zip_cons_cons,List.zip_nil_right,List.mem_cons,List.mem_nil_iff,or_false] at hy
  rcases hy with rfl|rfl|rfl|rfl|rfl|rfl|rfl
  ·cases _e
  ·cases _e
  ·cases _e
  ·cases _e
  ·cases _e
  ·exact⟨yw,by kernel_rfl⟩
  ·cases _e) Rx
theorem Yf:Rows.serveNoneUptoRow.laidByTextAt .later Tryz.pinned [.sentinel,.sentinel,.data,.data,.data,.pinned,.data] true :=
 OpenClaim.laidByTextAt_pinned rfl rfl Nu rfl rfl rfl rfl (fun y hy _e=>by
  simp only[Rows.serveNoneUptoRow,List.zip_cons_cons,List.zip_nil_right,List.mem_cons,List.mem_nil_iff,or_false] at hy
  rcases hy with rfl|rfl|rfl|rfl|rfl|rfl|rfl
  ·cases _e
  ·cases _e
  ·cases _e
  ·cases _e
  ·cases _e
  ·exact⟨yw,by kernel_rfl⟩
  ·cases _e) Rx
end Go.Proofs.YtdpfofoinaammaaGreatDoor
