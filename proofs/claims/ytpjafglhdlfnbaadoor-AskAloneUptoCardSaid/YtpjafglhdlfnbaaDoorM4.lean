/- Texts joined: IrB Rd Rd2 Rd3 Rd4 Rd5 IrD JRead Itoa App Jv Jp NumR NumS Jr Put Jo Jaw Row RowV. -/
import Derived.Test.YtpjafglhdlfnbaaDoorRows
import Derived.Lib.ItoaMem
import Derived.Lib.ParseIntBTie
import Derived.Lib.ValidLaws
import Derived.Test.YtpjafglhdlfnbaaDoorCards
import Derived.Test.YtpjafglhdlfnbaaDoorTie
import Derived.Lib.LaidIn
import Derived.Lib.LaidU8T
import Derived.Lib.LaidTab
import Derived.Deep.DeepHandedRow
import Derived.Deep.DeepWitnessRowRef
import Derived.ProofKit
import Derived.SizedLaws
import Derived.OpenShut
import Derived.Test.YtpjafglhdlfnbaaDoorM1
import Derived.Test.YtpjafglhdlfnbaaDoorM2
import Derived.Test.YtpjafglhdlfnbaaDoorM3
set_option maxRecDepth 100000
set_option linter.unusedSimpArgs false
set_option linter.unusedVariables false
namespace Go.Proofs.YtpjafglhdlfnbaaDoor
open Go.Ab
def ir8 : AFn := ⟨41, 2, [.t 4], .seq (.reg [] [⟨some 2, none, .boxv (.t 0), []⟩, ⟨some 4, none, .mv (.k (.bool false)), []⟩])
 (.seq (.seq (.reg [] [⟨some 9, none, .ld 2 true (.t 2), []⟩, ⟨some 10, none, .call 40 [(.t 9)], []⟩, ⟨some 11, none, .not (.t 10), []⟩, ⟨some 12, none, .mv (.t 11), []⟩, ⟨some 13, (some (12, false)), .mv (.t 1), []⟩, ⟨some 14, (some (12, false)), .lens (.t 13), []⟩, ⟨some 15, (some (12, false)), .bi .gtr .i64 (.t 14) (.k (.int .i64 2000)), []⟩, ⟨some 16, none, .pick (.t 12) (.k (.bool true)) (.t 15), []⟩])
 (.cond (.t 16) (.seq (.reg [] [⟨some 17, none, .call 41 [], []⟩, ⟨some 4, none, .mv (.t 17), []⟩])
 (.ret)) (.skip)))
 (.seq (.reg [] [⟨some 19, none, .ld 2 true (.t 2), []⟩, ⟨some 20, none, .mv (.t 1), []⟩, ⟨some 21, none, .call 42 [(.t 19), (.t 20)], []⟩, ⟨some 18, none, .mv (.t 21), []⟩, ⟨some 22, none, .ext (.t 18) 0, []⟩, ⟨some 23, none, .ext (.t 18) 1, []⟩, ⟨some 5, none, .alloc [.int .i64 0, .str [], .sl .nil 10 [], .sl .nil 2 [], .sl .nil 7 []], []⟩, ⟨none, none, .st 5 (.t 5) (.t 22), []⟩, ⟨some 6, none, .mv (.t 23), []⟩])
 (.seq (.reg [] [⟨some 25, none, .ld 2 true (.t 2), []⟩, ⟨some 26, none, .mv (.t 1), []⟩, ⟨some 27, none, .call 43 [(.t 25), (.t 26)], []⟩, ⟨some 24, none, .mv (.t 27), []⟩, ⟨some 28, none, .ext (.t 24) 0, []⟩, ⟨some 29, none, .ext (.t 24) 1, []⟩, ⟨some 7, none, .alloc [.int .i64 0, .str [], .sl .nil 10 [], .sl .nil 2 [], .sl .nil 7 []], []⟩, ⟨none, none, .st 5 (.t 7) (.t 28), []⟩, ⟨some 8, none, .mv (.t 29), []⟩])
 (.seq (.reg [] [⟨some 30, none, .mv (.t 6), []⟩, ⟨some 31, none, .mv (.t 8), []⟩, ⟨some 32, none, .bi .eql .i64 (.t 30) (.t 31), []⟩, ⟨some 33, none, .mv (.t 32), []⟩, ⟨some 34, (some (33, true)), .ld 5 true (.t 5), []⟩, ⟨some 35, (some (33, true)), .ld 5 true (.t 7), []⟩, ⟨some 36, (some (33, true)), .call 44 [(.t 34), (.t 35)], []⟩, ⟨some 37, none, .pick (.t 33) (.t 36) (.k (.bool false)), []⟩, ⟨some 38, none, .mv (.t 37), []⟩, ⟨some 39, (some (38, true)), .call 41 [], []⟩, ⟨some 40, none, .pick (.t 38) (.t 39) (.k (.bool false)), []⟩, ⟨some 4, none, .mv (.t 40), []⟩])
 (.ret)))))⟩
theorem ck8 : chkFn Tryd.prog 8 ir8 = true := by kernel_rfl
def ir9 : AFn := ⟨111, 2, [.t 4], .seq (.reg [] [⟨some 2, none, .boxv (.t 0), []⟩, ⟨some 4, none, .mv (.k (.bool false)), []⟩])
 (.seq (.seq (.reg [] [⟨some 12, none, .ld 2 true (.t 2), []⟩, ⟨some 13, none, .call 40 [(.t 12)], []⟩, ⟨some 14, none, .not (.t 13), []⟩, ⟨some 15, none, .mv (.t 14), []⟩, ⟨some 16, (some (15, false)), .fa 0 (.t 2), []⟩, ⟨some 17, (some (15, false)), .ld 1 false (.t 16), []⟩, ⟨some 18, (some (15, false)), .len (.t 17), []⟩, ⟨some 19, (some (15, false)), .bi .eql .i64 (.t 18) (.k (.int .i64 0)), []⟩, ⟨some 20, none, .pick (.t 15) (.k (.bool true)) (.t 19), []⟩])
 (.cond (.t 20) (.seq (.reg [] [⟨some 22, none, .bld [.sl .nil 5 [], .sl .nil 4 []] [], []⟩, ⟨some 23, none, .call 42 [(.t 22), (.k (.str []))], []⟩, ⟨some 21, none, .mv (.t 23), []⟩, ⟨some 24, none, .ext (.t 21) 0, []⟩, ⟨some 25, none, .ext (.t 21) 1, []⟩, ⟨some 5, none, .alloc [.int .i64 0, .str [], .sl .nil 10 [], .sl .nil 2 [], .sl .nil 7 []], []⟩, ⟨none, none, .st 5 (.t 5) (.t 24), []⟩, ⟨some 6, none, .mv (.t 25), []⟩])
 (.seq (.reg [] [⟨some 26, none, .mv (.t 6), []⟩, ⟨some 27, none, .bi .eql .i64 (.t 26) (.k (.int .i64 6)), []⟩, ⟨some 28, none, .mv (.t 27), []⟩, ⟨some 29, (some (28, true)), .call 41 [], []⟩, ⟨some 30, none, .pick (.t 28) (.t 29) (.k (.bool false)), []⟩, ⟨some 4, none, .mv (.t 30), []⟩])
 (.ret))) (.skip)))
 (.seq (.reg [0, 1, 2, 3, 4, 5, 6, 7, 8, 9, 10, 11, 12, 13] [⟨some 31, none, .fa 0 (.t 2), []⟩, ⟨some 32, none, .ld 1 false (.t 31), []⟩, ⟨some 33, none, .mv (.t 1), []⟩, ⟨some 34, none, .cvi .u64 (.t 33), []⟩, ⟨some 35, none, .fa 0 (.t 2), []⟩, ⟨some 36, none, .ld 1 false (.t 35), []⟩, ⟨some 37, none, .len (.t 36), []⟩, ⟨some 38, none, .cvi .u64 (.t 37), []⟩, ⟨some 39, none, .bi .rem .u64 (.t 34) (.t 38), []⟩, ⟨some 40, none, .cvi .i64 (.t 39), []⟩, ⟨some 41, none, .ia 5 (.t 32) (.t 40), []⟩, ⟨some 42, none, .ld 5 true (.t 41), []⟩, ⟨some 7, none, .alloc [.int .i64 0, .str [], .sl .nil 10 [], .sl .nil 2 [], .sl .nil 7 []], []⟩, ⟨none, none, .st 5 (.t 7) (.t 42), []⟩])
 (.seq (.reg [] [⟨some 44, none, .ld 2 true (.t 2), []⟩, ⟨some 45, none, .call 42 [(.t 44), (.k (.str []))], []⟩, ⟨some 43, none, .mv (.t 45), []⟩, ⟨some 46, none, .ext (.t 43) 0, []⟩, ⟨some 47, none, .ext (.t 43) 1, []⟩, ⟨some 8, none, .alloc [.int .i64 0, .str [], .sl .nil 10 [], .sl .nil 2 [], .sl .nil 7 []], []⟩, ⟨none, none, .st 5 (.t 8) (.t 46), []⟩, ⟨some 9, none, .mv (.t 47), []⟩])
 (.seq (.seq (.reg [0, 1, 2, 3, 4, 5, 6, 7, 8, 9, 10, 11, 12, 13, 14, 15, 16, 17, 18, 19] [⟨some 48, none, .mv (.t 9), []⟩, ⟨some 49, none, .bi .eql .i64 (.t 48) (.k (.int .i64 0)), []⟩, ⟨some 50, none, .fa 0 (.t 2), []⟩, ⟨some 51, none, .ld 1 false (.t 50), []⟩, ⟨some 52, none, .len (.t 51), []⟩, ⟨some 53, none, .bi .eql .i64 (.t 52) (.k (.int .i64 1)), []⟩, ⟨some 54, none, .bb true (.t 49) (.t 53), []⟩, ⟨some 55, none, .mv (.t 54), []⟩, ⟨some 56, (some (55, false)), .mv (.t 9), []⟩, ⟨some 57, (some (55, false)), .bi .eql .i64 (.t 56) (.k (.int .i64 0)), []⟩, ⟨some 58, (some (55, false)), .mv (.t 57), []⟩, ⟨some 59, (some (58, true)), .ld 5 true (.t 8), []⟩, ⟨some 60, (some (58, true)), .fa 0 (.t 2), []⟩, ⟨some 61, (some (58, true)), .ld 1 false (.t 60), []⟩, ⟨some 62, (some (58, true)), .ia 5 (.t 61) (.k (.int .i64 0)), []⟩, ⟨some 63, (some (58, true)), .ld 5 true (.t 62), []⟩, ⟨some 64, (some (58, true)), .call 44 [(.t 59), (.t 63)], []⟩, ⟨some 65, (some (58, true)), .not (.t 64), []⟩, ⟨some 66, (some (55, false)), .pick (.t 58) (.t 65) (.k (.bool false)), []⟩, ⟨some 67, none, .pick (.t 55) (.k (.bool true)) (.t 66), []⟩])
 (.cond (.t 67) (.seq (.reg [] [⟨some 4, none, .mv (.k (.bool false)), []⟩])
 (.ret)) (.skip)))
 (.seq (.reg [] [⟨some 10, none, .mv (.k (.int .i64 0)), []⟩])
 (.seq (.seq (.reg [] [⟨some 11, none, .mv (.k (.int .i64 0)), []⟩])
 (.block 0 (.loop [2, 7, 8, 10, 11] (.seq (.seq (.reg [] [⟨some 68, none, .mv (.t 11), []⟩, ⟨some 69, none, .fa 0 (.t 2), []⟩, ⟨some 70, none, .ld 1 false (.t 69), []⟩, ⟨some 71, none, .len (.t 70), []⟩, ⟨some 72, none, .bi .lss .i64 (.t 68) (.t 71), []⟩])
 (.cond (.t 72) (.skip) (.exit 0)))
 (.seq (.block 1 (.seq (.reg [0, 1, 2, 3, 4, 5, 6, 7, 8] [⟨some 75, none, .fa 0 (.t 2), []⟩, ⟨some 76, none, .ld 1 false (.t 75), []⟩, ⟨some 77, none, .mv (.t 11), []⟩, ⟨some 78, none, .ia 5 (.t 76) (.t 77), []⟩, ⟨some 79, none, .fa 1 (.t 78), []⟩, ⟨some 80, none, .ld 1 false (.t 79), []⟩, ⟨some 81, none, .fa 1 (.t 7), []⟩, ⟨some 82, none, .ld 1 false (.t 81), []⟩, ⟨some 83, none, .bs .eql (.t 80) (.t 82), []⟩])
 (.cond (.t 83) (.reg [] [⟨some 84, none, .mv (.t 10), []⟩, ⟨some 85, none, .bi .add .i64 (.t 84) (.k (.int .i64 1)), []⟩, ⟨some 10, none, .mv (.t 85), []⟩]) (.skip))))
 (.reg [] [⟨some 73, none, .mv (.t 11), []⟩, ⟨some 74, none, .bi .add .i64 (.t 73) (.k (.int .i64 1)), []⟩, ⟨some 11, none, .mv (.t 74), []⟩]))))))
 (.seq (.seq (.reg [] [⟨some 86, none, .fa 1 (.t 7), []⟩, ⟨some 87, none, .ld 1 false (.t 86), []⟩, ⟨some 88, none, .bs .eql (.t 87) (.k (.str [])), []⟩, ⟨some 89, none, .mv (.t 88), []⟩, ⟨some 90, (some (89, false)), .mv (.t 10), []⟩, ⟨some 91, (some (89, false)), .bi .gtr .i64 (.t 90) (.k (.int .i64 1)), []⟩, ⟨some 92, none, .pick (.t 89) (.k (.bool true)) (.t 91), []⟩])
 (.cond (.t 92) (.seq (.reg [] [⟨some 93, none, .call 41 [], []⟩, ⟨some 4, none, .mv (.t 93), []⟩])
 (.ret)) (.skip)))
 (.seq (.reg [] [⟨some 95, none, .ld 2 true (.t 2), []⟩, ⟨some 96, none, .fa 1 (.t 7), []⟩, ⟨some 97, none, .ld 1 false (.t 96), []⟩, ⟨some 98, none, .call 42 [(.t 95), (.t 97)], []⟩, ⟨some 94, none, .mv (.t 98), []⟩, ⟨some 99, none, .ext (.t 94) 0, []⟩, ⟨some 100, none, .ext (.t 94) 1, []⟩, ⟨none, none, .st 5 (.t 8) (.t 99), []⟩, ⟨some 9, none, .mv (.t 100), []⟩])
 (.seq (.reg [] [⟨some 101, none, .mv (.t 9), []⟩, ⟨some 102, none, .bi .eql .i64 (.t 101) (.k (.int .i64 0)), []⟩, ⟨some 103, none, .mv (.t 102), []⟩, ⟨some 104, (some (103, true)), .ld 5 true (.t 8), []⟩, ⟨some 105, (some (103, true)), .ld 5 true (.t 7), []⟩, ⟨some 106, (some (103, true)), .call 44 [(.t 104), (.t 105)], []⟩, ⟨some 107, none, .pick (.t 103) (.t 106) (.k (.bool false)), []⟩, ⟨some 108, none, .mv (.t 107), []⟩, ⟨some 109, (some (108, true)), .call 41 [], []⟩, ⟨some 110, none, .pick (.t 108) (.t 109) (.k (.bool false)), []⟩, ⟨some 4, none, .mv (.t 110), []⟩])
 (.ret))))))))))⟩
theorem ck9 : chkFn Tryd.prog 9 ir9 = true := by kernel_rfl
def ir41 : AFn := ⟨35, 0, [.t 0], .seq (.reg [] [⟨some 0, none, .mv (.k (.bool false)), []⟩])
 (.seq (.reg [] [⟨some 6, none, .call 50 [(.k (.str [123, 34, 113, 117, 101, 114, 121, 34, 58, 34, 123, 97, 125, 34, 125]))], []⟩, ⟨some 5, none, .mv (.t 6), []⟩, ⟨some 7, none, .ext (.t 5) 0, []⟩, ⟨some 8, none, .ext (.t 5) 1, []⟩, ⟨some 1, none, .alloc [.str [], .str [], .sl .nil 6 []], []⟩, ⟨none, none, .st 3 (.t 1) (.t 7), []⟩, ⟨some 2, none, .mv (.t 8), []⟩])
 (.seq (.reg [] [⟨some 10, none, .call 50 [(.k (.str [123, 125]))], []⟩, ⟨some 9, none, .mv (.t 10), []⟩, ⟨some 11, none, .ext (.t 9) 0, []⟩, ⟨some 12, none, .ext (.t 9) 1, []⟩, ⟨some 3, none, .alloc [.str [], .str [], .sl .nil 6 []], []⟩, ⟨none, none, .st 3 (.t 3) (.t 11), []⟩, ⟨some 4, none, .mv (.t 12), []⟩])
 (.seq (.reg [] [⟨some 13, none, .mv (.t 2), []⟩, ⟨some 14, none, .bi .eql .i64 (.t 13) (.k (.int .i64 0)), []⟩, ⟨some 15, none, .mv (.t 14), []⟩, ⟨some 16, (some (15, true)), .fa 0 (.t 1), []⟩, ⟨some 17, (some (15, true)), .ld 1 false (.t 16), []⟩, ⟨some 18, (some (15, true)), .bs .eql (.t 17) (.k (.str [123, 97, 125])), []⟩, ⟨some 19, none, .pick (.t 15) (.t 18) (.k (.bool false)), []⟩, ⟨some 20, none, .mv (.t 19), []⟩, ⟨some 21, (some (20, true)), .fa 1 (.t 1), []⟩, ⟨some 22, (some (20, true)), .ld 1 false (.t 21), []⟩, ⟨some 23, (some (20, true)), .bs .eql (.t 22) (.k (.str [])), []⟩, ⟨some 24, none, .pick (.t 20) (.t 23) (.k (.bool false)), []⟩, ⟨some 25, none, .mv (.t 24), []⟩, ⟨some 26, (some (25, true)), .fa 2 (.t 1), []⟩, ⟨some 27, (some (25, true)), .ld 1 false (.t 26), []⟩, ⟨some 28, (some (25, true)), .len (.t 27), []⟩, ⟨some 29, (some (25, true)), .bi .eql .i64 (.t 28) (.k (.int .i64 0)), []⟩, ⟨some 30, none, .pick (.t 25) (.t 29) (.k (.bool false)), []⟩, ⟨some 31, none, .mv (.t 30), []⟩, ⟨some 32, (some (31, true)), .mv (.t 4), []⟩, ⟨some 33, (some (31, true)), .bi .eql .i64 (.t 32) (.k (.int .i64 6)), []⟩, ⟨some 34, none, .pick (.t 31) (.t 33) (.k (.bool false)), []⟩, ⟨some 0, none, .mv (.t 34), []⟩])
 (.ret))))⟩
theorem ck41 : chkFn Tryd.prog 41 ir41 = true := by kernel_rfl
def ir42 : AFn := ⟨27, 2, [.c 4 5 true, .t 5], .seq (.reg [] [⟨some 2, none, .boxv (.t 0), []⟩, ⟨some 3, none, .boxv (.t 1), []⟩, ⟨some 4, none, .alloc [.int .i64 0, .str [], .sl .nil 10 [], .sl .nil 2 [], .sl .nil 7 []], []⟩, ⟨some 5, none, .mv (.k (.int .i64 0)), []⟩])
 (.seq (.reg [] [⟨some 7, none, .fa 0 (.t 2), []⟩, ⟨some 8, none, .ld 1 false (.t 7), []⟩, ⟨some 9, none, .mkfn 70 [] [(.t 3)], []⟩, ⟨some 10, none, .call 69 [(.t 8), (.t 9)], []⟩, ⟨some 6, none, .mv (.t 10), []⟩])
 (.seq (.seq (.reg [] [⟨some 11, none, .ld 1 false (.t 3), []⟩, ⟨some 12, none, .bs .eql (.t 11) (.k (.str [])), []⟩])
 (.cond (.t 12) (.seq (.reg [] [⟨some 13, none, .fa 0 (.t 2), []⟩, ⟨some 14, none, .ld 1 false (.t 13), []⟩, ⟨some 15, none, .len (.t 14), []⟩, ⟨some 16, none, .bi .sub .i64 (.t 15) (.k (.int .i64 1)), []⟩, ⟨some 6, none, .mv (.t 16), []⟩])
 (.seq (.reg [] [⟨some 17, none, .mv (.t 6), []⟩, ⟨some 18, none, .bi .neq .i64 (.t 17) (.k (.int .i64 0)), []⟩])
 (.cond (.t 18) (.reg [] [⟨some 6, none, .mv (.k (.int .i64 (-1))), []⟩]) (.skip)))) (.skip)))
 (.seq (.seq (.reg [] [⟨some 19, none, .mv (.t 6), []⟩, ⟨some 20, none, .bi .lss .i64 (.t 19) (.k (.int .i64 0)), []⟩])
 (.cond (.t 20) (.seq (.reg [] [⟨some 21, none, .bld [.int .i64 0, .str [], .sl .nil 10 [], .sl .nil 2 [], .sl .nil 7 []] [], []⟩, ⟨none, none, .st 5 (.t 4) (.t 21), []⟩, ⟨some 5, none, .mv (.k (.int .i64 6)), []⟩])
 (.ret)) (.skip)))
 (.seq (.reg [] [⟨some 22, none, .fa 0 (.t 2), []⟩, ⟨some 23, none, .ld 1 false (.t 22), []⟩, ⟨some 24, none, .mv (.t 6), []⟩, ⟨some 25, none, .ia 5 (.t 23) (.t 24), []⟩, ⟨some 26, none, .ld 5 true (.t 25), []⟩, ⟨none, none, .st 5 (.t 4) (.t 26), []⟩, ⟨some 5, none, .mv (.k (.int .i64 0)), []⟩])
 (.ret)))))⟩
theorem ck42 : chkFn Tryd.prog 42 ir42 = true := by kernel_rfl
def ir43 : AFn := ⟨39, 2, [.c 4 5 true, .t 5], .seq (.reg [] [⟨some 2, none, .boxv (.t 0), []⟩, ⟨some 4, none, .alloc [.int .i64 0, .str [], .sl .nil 10 [], .sl .nil 2 [], .sl .nil 7 []], []⟩, ⟨some 5, none, .mv (.k (.int .i64 0)), []⟩])
 (.seq (.seq (.reg [] [⟨some 7, none, .mv (.t 1), []⟩, ⟨some 8, none, .bs .eql (.t 7) (.k (.str [])), []⟩])
 (.cond (.t 8) (.seq (.seq (.reg [] [⟨some 9, none, .fa 0 (.t 2), []⟩, ⟨some 10, none, .ld 1 false (.t 9), []⟩, ⟨some 11, none, .len (.t 10), []⟩, ⟨some 12, none, .bi .neq .i64 (.t 11) (.k (.int .i64 1)), []⟩])
 (.cond (.t 12) (.seq (.reg [] [⟨some 13, none, .bld [.int .i64 0, .str [], .sl .nil 10 [], .sl .nil 2 [], .sl .nil 7 []] [], []⟩, ⟨none, none, .st 5 (.t 4) (.t 13), []⟩, ⟨some 5, none, .mv (.k (.int .i64 6)), []⟩])
 (.ret)) (.skip)))
 (.seq (.reg [] [⟨some 14, none, .fa 0 (.t 2), []⟩, ⟨some 15, none, .ld 1 false (.t 14), []⟩, ⟨some 16, none, .ia 5 (.t 15) (.k (.int .i64 0)), []⟩, ⟨some 17, none, .ld 5 true (.t 16), []⟩, ⟨none, none, .st 5 (.t 4) (.t 17), []⟩, ⟨some 5, none, .mv (.k (.int .i64 0)), []⟩])
 (.ret))) (.skip)))
 (.seq (.seq (.reg [] [⟨some 6, none, .mv (.k (.int .i64 0)), []⟩])
 (.block 0 (.loop [1, 2, 4, 6] (.seq (.seq (.reg [] [⟨some 18, none, .mv (.t 6), []⟩, ⟨some 19, none, .fa 0 (.t 2), []⟩, ⟨some 20, none, .ld 1 false (.t 19), []⟩, ⟨some 21, none, .len (.t 20), []⟩, ⟨some 22, none, .bi .lss .i64 (.t 18) (.t 21), []⟩])
 (.cond (.t 22) (.skip) (.exit 0)))
 (.seq (.block 1 (.seq (.reg [] [⟨some 25, none, .fa 0 (.t 2), []⟩, ⟨some 26, none, .ld 1 false (.t 25), []⟩, ⟨some 27, none, .mv (.t 6), []⟩, ⟨some 28, none, .ia 5 (.t 26) (.t 27), []⟩, ⟨some 29, none, .fa 1 (.t 28), []⟩, ⟨some 30, none, .ld 1 false (.t 29), []⟩, ⟨some 31, none, .mv (.t 1), []⟩, ⟨some 32, none, .bs .eql (.t 30) (.t 31), []⟩])
 (.cond (.t 32) (.seq (.reg [] [⟨some 33, none, .fa 0 (.t 2), []⟩, ⟨some 34, none, .ld 1 false (.t 33), []⟩, ⟨some 35, none, .mv (.t 6), []⟩, ⟨some 36, none, .ia 5 (.t 34) (.t 35), []⟩, ⟨some 37, none, .ld 5 true (.t 36), []⟩, ⟨none, none, .st 5 (.t 4) (.t 37), []⟩, ⟨some 5, none, .mv (.k (.int .i64 0)), []⟩])
 (.ret)) (.skip))))
 (.reg [] [⟨some 23, none, .mv (.t 6), []⟩, ⟨some 24, none, .bi .add .i64 (.t 23) (.k (.int .i64 1)), []⟩, ⟨some 6, none, .mv (.t 24), []⟩]))))))
 (.seq (.reg [] [⟨some 38, none, .bld [.int .i64 0, .str [], .sl .nil 10 [], .sl .nil 2 [], .sl .nil 7 []] [], []⟩, ⟨none, none, .st 5 (.t 4) (.t 38), []⟩, ⟨some 5, none, .mv (.k (.int .i64 6)), []⟩])
 (.ret))))⟩
theorem ck43 : chkFn Tryd.prog 43 ir43 = true := by kernel_rfl
def ir50 : AFn := ⟨110, 1, [.c 2 3 true, .t 3], .seq (.reg [] [⟨some 2, none, .alloc [.str [], .str [], .sl .nil 6 []], []⟩, ⟨some 3, none, .mv (.k (.int .i64 0)), []⟩])
 (.scope (.seq (.reg [] [⟨some 13, none, .mv (.t 0), []⟩, ⟨some 14, none, .call 48 [(.t 13)], []⟩, ⟨some 12, none, .mv (.t 14), []⟩, ⟨some 15, none, .ext (.t 12) 0, []⟩, ⟨some 16, none, .ext (.t 12) 1, []⟩, ⟨some 4, none, .alloc [.int .i64 0, .int .i64 0, .str [], .sl .nil 5 [], .sl .nil 6 []], []⟩, ⟨none, none, .st 5 (.t 4) (.t 15), []⟩, ⟨some 5, none, .mv (.t 16), []⟩])
 (.seq (.block 0 (.seq (.reg [] [⟨some 18, none, .mv (.t 5), []⟩, ⟨some 19, none, .bi .neq .i64 (.t 18) (.k (.int .i64 0)), []⟩, ⟨some 17, none, .mv (.t 19), []⟩])
 (.cond (.t 17) (.seq (.reg [] [⟨some 20, none, .bld [.str [], .str [], .sl .nil 6 []] [], []⟩, ⟨some 21, none, .mv (.t 5), []⟩, ⟨none, none, .st 3 (.t 2) (.t 20), []⟩, ⟨some 3, none, .mv (.t 21), []⟩])
 (.ret)) (.seq (.reg [] [⟨some 23, none, .fa 0 (.t 4), []⟩, ⟨some 24, none, .ld 1 false (.t 23), []⟩, ⟨some 25, none, .bi .neq .i64 (.t 24) (.k (.int .i64 7)), []⟩, ⟨some 22, none, .mv (.t 25), []⟩])
 (.cond (.t 22) (.seq (.reg [] [⟨some 26, none, .bld [.str [], .str [], .sl .nil 6 []] [], []⟩, ⟨none, none, .st 3 (.t 2) (.t 26), []⟩, ⟨some 3, none, .mv (.k (.int .i64 7)), []⟩])
 (.ret)) (.skip))))))
 (.seq (.seq (.reg [] [⟨some 28, none, .fa 4 (.t 4), []⟩, ⟨some 29, none, .ld 1 false (.t 28), []⟩, ⟨some 30, none, .call 18 [(.k (.str [113, 117, 101, 114, 121])), (.t 29)], []⟩, ⟨some 27, none, .mv (.t 30), []⟩, ⟨some 31, none, .ext (.t 27) 0, []⟩, ⟨some 32, none, .ext (.t 27) 1, []⟩, ⟨some 6, none, .alloc [.int .i64 0, .int .i64 0, .str [], .sl .nil 5 [], .sl .nil 6 []], []⟩, ⟨none, none, .st 5 (.t 6) (.t 31), []⟩, ⟨some 7, none, .mv (.t 32), []⟩])
 (.seq (.reg [] [⟨some 33, none, .mv (.t 7), []⟩, ⟨some 34, none, .not (.t 33), []⟩])
 (.cond (.t 34) (.seq (.reg [] [⟨some 35, none, .bld [.str [], .str [], .sl .nil 6 []] [], []⟩, ⟨none, none, .st 3 (.t 2) (.t 35), []⟩, ⟨some 3, none, .mv (.k (.int .i64 6)), []⟩])
 (.ret)) (.skip))))
 (.seq (.reg [] [⟨some 8, none, .alloc [.str [], .str [], .sl .nil 6 []], []⟩])
 (.seq (.skip)
 (.seq (.seq (.reg [] [⟨some 36, none, .fa 4 (.t 4), []⟩, ⟨some 37, none, .ld 1 false (.t 36), []⟩, ⟨some 38, none, .len (.t 37), []⟩, ⟨some 39, none, .mv (.k (.int .i64 0)), []⟩])
 (.block 1 (.loop [2, 8, 37, 38, 39] (.seq (.reg [] [⟨some 40, none, .bi .lss .i64 (.t 39) (.t 38), []⟩])
 (.seq (.cond (.t 40) (.skip) (.exit 1))
 (.seq (.block 2 (.seq (.reg [] [⟨some 41, none, .ia 6 (.t 37) (.t 39), []⟩, ⟨some 42, none, .ld 6 true (.t 41), []⟩, ⟨some 10, none, .alloc [.str [], .int .i64 0, .int .i64 0, .str [], .sl .nil 5 [], .sl .nil 6 []], []⟩, ⟨none, none, .st 6 (.t 10) (.t 42), []⟩])
 (.seq (.reg [] [⟨some 43, none, .fa 1 (.t 10), []⟩, ⟨some 44, none, .fa 0 (.t 43), []⟩, ⟨some 45, none, .ld 1 false (.t 44), []⟩, ⟨some 46, none, .bi .eql .i64 (.t 45) (.k (.int .i64 0)), []⟩, ⟨some 11, none, .mv (.t 46), []⟩])
 (.block 3 (.seq (.reg [] [⟨some 48, none, .fa 0 (.t 10), []⟩, ⟨some 49, none, .ld 1 false (.t 48), []⟩, ⟨some 50, none, .bs .eql (.t 49) (.k (.str [113, 117, 101, 114, 121])), []⟩, ⟨some 51, none, .mv (.t 50), []⟩, ⟨some 52, (some (51, true)), .fa 1 (.t 10), []⟩, ⟨some 53, (some (51, true)), .fa 0 (.t 52), []⟩, ⟨some 54, (some (51, true)), .ld 1 false (.t 53), []⟩, ⟨some 55, (some (51, true)), .bi .eql .i64 (.t 54) (.k (.int .i64 4)), []⟩, ⟨some 56, none, .pick (.t 51) (.t 55) (.k (.bool false)), []⟩, ⟨some 47, none, .mv (.t 56), []⟩])
 (.cond (.t 47) (.reg [] [⟨some 57, none, .fa 1 (.t 10), []⟩, ⟨some 58, none, .fa 2 (.t 57), []⟩, ⟨some 59, none, .ld 1 false (.t 58), []⟩, ⟨some 60, none, .fa 0 (.t 8), []⟩, ⟨none, none, .st 1 (.t 60) (.t 59), []⟩]) (.seq (.reg [] [⟨some 62, none, .fa 0 (.t 10), []⟩, ⟨some 63, none, .ld 1 false (.t 62), []⟩, ⟨some 64, none, .bs .eql (.t 63) (.k (.str [118, 97, 114, 105, 97, 98, 108, 101, 115])), []⟩, ⟨some 65, none, .mv (.t 64), []⟩, ⟨some 66, (some (65, true)), .fa 1 (.t 10), []⟩, ⟨some 67, (some (65, true)), .fa 0 (.t 66), []⟩, ⟨some 68, (some (65, true)), .ld 1 false (.t 67), []⟩, ⟨some 69, (some (65, true)), .bi .eql .i64 (.t 68) (.k (.int .i64 7)), []⟩, ⟨some 70, none, .pick (.t 65) (.t 69) (.k (.bool false)), []⟩, ⟨some 61, none, .mv (.t 70), []⟩])
 (.cond (.t 61) (.reg [] [⟨some 71, none, .fa 1 (.t 10), []⟩, ⟨some 72, none, .fa 4 (.t 71), []⟩, ⟨some 73, none, .ld 1 false (.t 72), []⟩, ⟨some 74, none, .fa 2 (.t 8), []⟩, ⟨none, none, .st 1 (.t 74) (.t 73), []⟩]) (.seq (.reg [] [⟨some 76, none, .fa 0 (.t 10), []⟩, ⟨some 77, none, .ld 1 false (.t 76), []⟩, ⟨some 78, none, .bs .eql (.t 77) (.k (.str [111, 112, 101, 114, 97, 116, 105, 111, 110, 78, 97, 109, 101])), []⟩, ⟨some 79, none, .mv (.t 78), []⟩, ⟨some 80, (some (79, true)), .fa 1 (.t 10), []⟩, ⟨some 81, (some (79, true)), .fa 0 (.t 80), []⟩, ⟨some 82, (some (79, true)), .ld 1 false (.t 81), []⟩, ⟨some 83, (some (79, true)), .bi .eql .i64 (.t 82) (.k (.int .i64 4)), []⟩, ⟨some 84, none, .pick (.t 79) (.t 83) (.k (.bool false)), []⟩, ⟨some 75, none, .mv (.t 84), []⟩])
 (.cond (.t 75) (.reg [] [⟨some 85, none, .fa 1 (.t 10), []⟩, ⟨some 86, none, .fa 2 (.t 85), []⟩, ⟨some 87, none, .ld 1 false (.t 86), []⟩, ⟨some 88, none, .fa 1 (.t 8), []⟩, ⟨none, none, .st 1 (.t 88) (.t 87), []⟩]) (.seq (.reg [] [⟨some 90, none, .fa 0 (.t 10), []⟩, ⟨some 91, none, .ld 1 false (.t 90), []⟩, ⟨some 92, none, .bs .eql (.t 91) (.k (.str [113, 117, 101, 114, 121])), []⟩, ⟨some 93, none, .mv (.t 92), []⟩, ⟨some 94, (some (93, false)), .mv (.t 11), []⟩, ⟨some 95, (some (93, false)), .not (.t 94), []⟩, ⟨some 96, (some (93, false)), .mv (.t 95), []⟩, ⟨some 97, (some (96, true)), .fa 0 (.t 10), []⟩, ⟨some 98, (some (96, true)), .ld 1 false (.t 97), []⟩, ⟨some 99, (some (96, true)), .bs .eql (.t 98) (.k (.str [118, 97, 114, 105, 97, 98, 108, 101, 115])), []⟩, ⟨some 100, (some (96, true)), .mv (.t 99), []⟩, ⟨some 101, (some (100, false)), .fa 0 (.t 10), []⟩, ⟨some 102, (some (100, false)), .ld 1 false (.t 101), []⟩, ⟨some 103, (some (100, false)), .bs .eql (.t 102) (.k (.str [111, 112, 101, 114, 97, 116, 105, 111, 110, 78, 97, 109, 101])), []⟩, ⟨some 104, (some (96, true)), .pick (.t 100) (.k (.bool true)) (.t 103), []⟩, ⟨some 105, (some (93, false)), .pick (.t 96) (.t 104) (.k (.bool false)), []⟩, ⟨some 106, none, .pick (.t 93) (.k (.bool true)) (.t 105), []⟩, ⟨some 89, none, .mv (.t 106), []⟩])
 (.cond (.t 89) (.seq (.reg [] [⟨some 107, none, .bld [.str [], .str [], .sl .nil 6 []] [], []⟩, ⟨none, none, .st 3 (.t 2) (.t 107), []⟩, ⟨some 3, none, .mv (.k (.int .i64 7)), []⟩])
 (.ret)) (.exit 2)))))))))))))
 (.reg [] [⟨some 108, none, .bi .add .i64 (.t 39) (.k (.int .i64 1)), []⟩, ⟨some 39, none, .mv (.t 108), []⟩])))))))
 (.seq (.reg [] [⟨some 109, none, .ld 3 true (.t 8), []⟩, ⟨none, none, .st 3 (.t 2) (.t 109), []⟩, ⟨some 3, none, .mv (.k (.int .i64 0)), []⟩])
 (.ret)))))))))⟩
theorem ck50 : chkFn Tryd.prog 50 ir50 = true := by kernel_rfl
def ir70 : AFn := ⟨8, 2, [.t 3], .seq (.reg [] [⟨some 2, none, .boxv (.t 0), []⟩, ⟨some 3, none, .mv (.k (.bool false)), []⟩])
 (.seq (.reg [] [⟨some 4, none, .fa 1 (.t 2), []⟩, ⟨some 5, none, .ld 1 false (.t 4), []⟩, ⟨some 6, none, .ld 1 false (.t 1), []⟩, ⟨some 7, none, .bs .eql (.t 5) (.t 6), []⟩, ⟨some 3, none, .mv (.t 7), []⟩])
 (.ret))⟩
theorem ck70 : chkFn Tryd.prog 70 ir70 = true := by kernel_rfl
def ir76 : AFn := ⟨78, 1, [.c 2 5 true], .seq (.reg [] [⟨some 2, none, .alloc [.int .i64 0, .int .i64 0, .str [], .sl .nil 5 [], .sl .nil 6 []], []⟩])
 (.seq (.reg [] [⟨some 4, none, .mv (.t 0), []⟩, ⟨some 5, none, .call 77 [(.t 4)], []⟩])
 (.seq (.reg [] [⟨some 3, none, .mv (.k (.str [])), []⟩])
 (.seq (.seq (.reg [0, 1, 2, 3, 4, 5, 6, 7, 8, 9] [⟨some 6, none, .mv (.t 0), []⟩, ⟨some 7, none, .nilchk (.t 6), []⟩, ⟨some 8, none, .fa 1 (.t 7), []⟩, ⟨some 9, none, .ld 1 false (.t 8), []⟩, ⟨some 10, none, .mv (.t 0), []⟩, ⟨some 11, none, .nilchk (.t 10), []⟩, ⟨some 12, none, .fa 0 (.t 11), []⟩, ⟨some 13, none, .ld 1 false (.t 12), []⟩, ⟨some 14, none, .lens (.t 13), []⟩, ⟨some 15, none, .bi .lss .i64 (.t 9) (.t 14), []⟩])
 (.cond (.t 15) (.reg [0, 1, 2, 3, 4, 5, 6, 7, 8, 9, 10, 11, 12, 13, 14] [⟨some 16, none, .mv (.t 0), []⟩, ⟨some 17, none, .nilchk (.t 16), []⟩, ⟨some 18, none, .fa 0 (.t 17), []⟩, ⟨some 19, none, .ld 1 false (.t 18), []⟩, ⟨some 20, none, .mv (.t 0), []⟩, ⟨some 21, none, .nilchk (.t 20), []⟩, ⟨some 22, none, .fa 1 (.t 21), []⟩, ⟨some 23, none, .ld 1 false (.t 22), []⟩, ⟨some 24, none, .mv (.t 0), []⟩, ⟨some 25, none, .nilchk (.t 24), []⟩, ⟨some 26, none, .fa 1 (.t 25), []⟩, ⟨some 27, none, .ld 1 false (.t 26), []⟩, ⟨some 28, none, .bi .add .i64 (.t 27) (.k (.int .i64 1)), []⟩, ⟨some 29, none, .sls (.t 19) (some (.t 23)) (some (.t 28)), []⟩, ⟨some 3, none, .mv (.t 29), []⟩]) (.skip)))
 (.seq (.block 0 (.seq (.reg [] [⟨some 31, none, .mv (.t 3), []⟩, ⟨some 32, none, .bs .eql (.t 31) (.k (.str [123])), []⟩, ⟨some 33, none, .mv (.t 32), []⟩, ⟨some 34, (some (33, false)), .mv (.t 3), []⟩, ⟨some 35, (some (33, false)), .bs .eql (.t 34) (.k (.str [91])), []⟩, ⟨some 36, none, .pick (.t 33) (.k (.bool true)) (.t 35), []⟩, ⟨some 30, none, .mv (.t 36), []⟩])
 (.cond (.t 30) (.seq (.reg [] [⟨some 37, none, .mv (.t 0), []⟩, ⟨some 38, none, .call 101 [(.t 37)], []⟩])
 (.seq (.reg [] [⟨some 39, none, .mv (.t 0), []⟩, ⟨some 40, none, .nilchk (.t 39), []⟩, ⟨some 41, none, .fa 1 (.t 40), []⟩, ⟨some 42, none, .ld 1 false (.t 41), []⟩, ⟨some 43, none, .bi .add .i64 (.t 42) (.k (.int .i64 1)), []⟩, ⟨some 44, none, .nilchk (.t 39), []⟩, ⟨some 45, none, .fa 1 (.t 44), []⟩, ⟨none, none, .st 1 (.t 45) (.t 43), []⟩])
 (.seq (.seq (.reg [] [⟨some 46, none, .mv (.t 3), []⟩, ⟨some 47, none, .bs .eql (.t 46) (.k (.str [123])), []⟩])
 (.cond (.t 47) (.seq (.reg [] [⟨some 48, none, .mv (.t 0), []⟩, ⟨some 49, none, .call 102 [(.t 48)], []⟩, ⟨none, none, .st 5 (.t 2) (.t 49), []⟩])
 (.ret)) (.skip)))
 (.seq (.reg [] [⟨some 50, none, .mv (.t 0), []⟩, ⟨some 51, none, .call 103 [(.t 50)], []⟩, ⟨none, none, .st 5 (.t 2) (.t 51), []⟩])
 (.ret))))) (.seq (.reg [] [⟨some 53, none, .mv (.t 3), []⟩, ⟨some 54, none, .bs .eql (.t 53) (.k (.str [34])), []⟩, ⟨some 52, none, .mv (.t 54), []⟩])
 (.cond (.t 52) (.seq (.reg [] [⟨some 55, none, .mv (.t 0), []⟩, ⟨some 56, none, .call 104 [(.t 55)], []⟩, ⟨some 57, none, .call 23 [(.t 56)], []⟩, ⟨none, none, .st 5 (.t 2) (.t 57), []⟩])
 (.ret)) (.seq (.reg [] [⟨some 59, none, .mv (.t 3), []⟩, ⟨some 60, none, .bs .neq (.t 59) (.k (.str [])), []⟩, ⟨some 61, none, .mv (.t 60), []⟩, ⟨some 62, (some (61, true)), .mv (.t 3), []⟩, ⟨some 63, (some (61, true)), .call 105 [(.k (.str [45, 48, 49, 50, 51, 52, 53, 54, 55, 56, 57])), (.t 62)], []⟩, ⟨some 64, none, .pick (.t 61) (.t 63) (.k (.bool false)), []⟩, ⟨some 58, none, .mv (.t 64), []⟩])
 (.cond (.t 58) (.seq (.reg [] [⟨some 65, none, .mv (.t 0), []⟩, ⟨some 66, none, .call 106 [(.t 65)], []⟩, ⟨none, none, .st 5 (.t 2) (.t 66), []⟩])
 (.ret)) (.seq (.reg [] [⟨some 68, none, .mv (.t 0), []⟩, ⟨some 69, none, .call 107 [(.t 68), (.k (.str [110, 117, 108, 108]))], []⟩, ⟨some 67, none, .mv (.t 69), []⟩])
 (.cond (.t 67) (.seq (.reg [] [⟨some 70, none, .bld [.int .i64 0, .int .i64 0, .str [], .sl .nil 5 [], .sl .nil 6 []] [], []⟩, ⟨none, none, .st 5 (.t 2) (.t 70), []⟩])
 (.ret)) (.seq (.reg [] [⟨some 72, none, .mv (.t 0), []⟩, ⟨some 73, none, .call 107 [(.t 72), (.k (.str [116, 114, 117, 101]))], []⟩, ⟨some 71, none, .mv (.t 73), []⟩])
 (.cond (.t 71) (.seq (.reg [] [⟨some 74, none, .bld [.int .i64 0, .int .i64 0, .str [], .sl .nil 5 [], .sl .nil 6 []] [(0, 1, (.k (.int .i64 1))), (1, 1, (.k (.int .i64 1)))], []⟩, ⟨none, none, .st 5 (.t 2) (.t 74), []⟩])
 (.ret)) (.skip))))))))))))
 (.seq (.reg [] [⟨some 75, none, .mv (.t 0), []⟩, ⟨some 76, none, .call 108 [(.t 75), (.k (.str [102, 97, 108, 115, 101]))], []⟩])
 (.seq (.reg [] [⟨some 77, none, .bld [.int .i64 0, .int .i64 0, .str [], .sl .nil 5 [], .sl .nil 6 []] [(0, 1, (.k (.int .i64 1)))], []⟩, ⟨none, none, .st 5 (.t 2) (.t 77), []⟩])
 (.ret)))))))⟩
theorem ck76 : chkFn Tryd.prog 76 ir76 = true := by kernel_rfl
def ir77 : AFn := ⟨32, 1, [], .block 0 (.loop [0] (.seq (.seq (.reg [0, 1, 2, 3, 4, 5, 6, 7, 8, 9, 10, 11, 12, 13, 14, 15, 16, 17, 18, 19, 20, 21, 22] [⟨some 2, none, .mv (.t 0), []⟩, ⟨some 3, none, .nilchk (.t 2), []⟩, ⟨some 4, none, .fa 1 (.t 3), []⟩, ⟨some 5, none, .ld 1 false (.t 4), []⟩, ⟨some 6, none, .mv (.t 0), []⟩, ⟨some 7, none, .nilchk (.t 6), []⟩, ⟨some 8, none, .fa 0 (.t 7), []⟩, ⟨some 9, none, .ld 1 false (.t 8), []⟩, ⟨some 10, none, .lens (.t 9), []⟩, ⟨some 11, none, .bi .lss .i64 (.t 5) (.t 10), []⟩, ⟨some 12, none, .mv (.t 11), []⟩, ⟨some 13, (some (12, true)), .mv (.t 0), []⟩, ⟨some 14, (some (12, true)), .nilchk (.t 13), []⟩, ⟨some 15, (some (12, true)), .fa 0 (.t 14), []⟩, ⟨some 16, (some (12, true)), .ld 1 false (.t 15), []⟩, ⟨some 17, (some (12, true)), .mv (.t 0), []⟩, ⟨some 18, (some (12, true)), .nilchk (.t 17), []⟩, ⟨some 19, (some (12, true)), .fa 1 (.t 18), []⟩, ⟨some 20, (some (12, true)), .ld 1 false (.t 19), []⟩, ⟨some 21, (some (12, true)), .ixs (.t 16) (.t 20), []⟩, ⟨some 22, (some (12, true)), .call 109 [(.k (.str [9, 10, 13, 32])), (.t 21)], []⟩, ⟨some 23, (some (12, true)), .bi .geq .i64 (.t 22) (.k (.int .i64 0)), []⟩, ⟨some 24, none, .pick (.t 12) (.t 23) (.k (.bool false)), []⟩])
 (.cond (.t 24) (.skip) (.exit 0)))
 (.block 1 (.reg [] [⟨some 25, none, .mv (.t 0), []⟩, ⟨some 26, none, .nilchk (.t 25), []⟩, ⟨some 27, none, .fa 1 (.t 26), []⟩, ⟨some 28, none, .ld 1 false (.t 27), []⟩, ⟨some 29, none, .bi .add .i64 (.t 28) (.k (.int .i64 1)), []⟩, ⟨some 30, none, .nilchk (.t 25), []⟩, ⟨some 31, none, .fa 1 (.t 30), []⟩, ⟨none, none, .st 1 (.t 31) (.t 29), []⟩]))))⟩
theorem ck77 : chkFn Tryd.prog 77 ir77 = true := by kernel_rfl
def ir78 : AFn := ⟨7, 2, [], .reg [] [⟨some 4, none, .mv (.t 1), []⟩, ⟨some 5, none, .bld [.int .i64 0] [(0, 1, (.t 4))], []⟩, ⟨some 6, none, .mki 109 (.t 5), []⟩, ⟨none, none, .pan (.t 6), []⟩]⟩
theorem ck78 : chkFn Tryd.prog 78 ir78 = true := by kernel_rfl
def ir101 : AFn := ⟨16, 1, [], .seq (.seq (.reg [] [⟨some 2, none, .mv (.t 0), []⟩, ⟨some 3, none, .nilchk (.t 2), []⟩, ⟨some 4, none, .fa 2 (.t 3), []⟩, ⟨some 5, none, .ld 1 false (.t 4), []⟩, ⟨some 6, none, .bi .eql .i64 (.t 5) (.k (.int .i64 16)), []⟩])
 (.cond (.t 6) (.reg [] [⟨some 7, none, .mv (.t 0), []⟩, ⟨some 8, none, .call 78 [(.t 7), (.k (.int .i64 4))], []⟩]) (.skip)))
 (.reg [] [⟨some 9, none, .mv (.t 0), []⟩, ⟨some 10, none, .nilchk (.t 9), []⟩, ⟨some 11, none, .fa 2 (.t 10), []⟩, ⟨some 12, none, .ld 1 false (.t 11), []⟩, ⟨some 13, none, .bi .add .i64 (.t 12) (.k (.int .i64 1)), []⟩, ⟨some 14, none, .nilchk (.t 9), []⟩, ⟨some 15, none, .fa 2 (.t 14), []⟩, ⟨none, none, .st 1 (.t 15) (.t 13), []⟩])⟩
theorem ck101 : chkFn Tryd.prog 101 ir101 = true := by kernel_rfl
def ir102 : AFn := ⟨31, 1, [.c 2 5 true], .seq (.reg [] [⟨some 2, none, .alloc [.int .i64 0, .int .i64 0, .str [], .sl .nil 5 [], .sl .nil 6 []], []⟩])
 (.seq (.reg [] [⟨some 4, none, .bld [.int .i64 0, .int .i64 0, .str [], .sl .nil 5 [], .sl .nil 6 []] [(0, 1, (.k (.int .i64 7)))], []⟩, ⟨some 3, none, .alloc [.int .i64 0, .int .i64 0, .str [], .sl .nil 5 [], .sl .nil 6 []], []⟩, ⟨none, none, .st 5 (.t 3) (.t 4), []⟩])
 (.seq (.seq (.reg [] [⟨some 5, none, .mv (.t 0), []⟩, ⟨some 6, none, .call 107 [(.t 5), (.k (.str [125]))], []⟩, ⟨some 7, none, .not (.t 6), []⟩])
 (.cond (.t 7) (.seq (.reg [] [⟨some 8, none, .mv (.t 0), []⟩, ⟨some 9, none, .fa 4 (.t 3), []⟩, ⟨some 10, none, .ld 1 false (.t 9), []⟩, ⟨some 11, none, .call 120 [(.t 8), (.t 10)], []⟩, ⟨some 12, none, .fa 4 (.t 3), []⟩, ⟨none, none, .st 1 (.t 12) (.t 11), []⟩])
 (.block 0 (.loop [0, 2, 3] (.seq (.seq (.reg [] [⟨some 13, none, .mv (.t 0), []⟩, ⟨some 14, none, .call 107 [(.t 13), (.k (.str [125]))], []⟩, ⟨some 15, none, .not (.t 14), []⟩])
 (.cond (.t 15) (.skip) (.exit 0)))
 (.block 1 (.seq (.reg [] [⟨some 16, none, .mv (.t 0), []⟩, ⟨some 17, none, .call 108 [(.t 16), (.k (.str [44]))], []⟩])
 (.reg [] [⟨some 18, none, .mv (.t 0), []⟩, ⟨some 19, none, .fa 4 (.t 3), []⟩, ⟨some 20, none, .ld 1 false (.t 19), []⟩, ⟨some 21, none, .call 120 [(.t 18), (.t 20)], []⟩, ⟨some 22, none, .fa 4 (.t 3), []⟩, ⟨none, none, .st 1 (.t 22) (.t 21), []⟩]))))))) (.skip)))
 (.seq (.reg [] [⟨some 23, none, .mv (.t 0), []⟩, ⟨some 24, none, .nilchk (.t 23), []⟩, ⟨some 25, none, .fa 2 (.t 24), []⟩, ⟨some 26, none, .ld 1 false (.t 25), []⟩, ⟨some 27, none, .bi .sub .i64 (.t 26) (.k (.int .i64 1)), []⟩, ⟨some 28, none, .nilchk (.t 23), []⟩, ⟨some 29, none, .fa 2 (.t 28), []⟩, ⟨none, none, .st 1 (.t 29) (.t 27), []⟩])
 (.seq (.reg [] [⟨some 30, none, .ld 5 true (.t 3), []⟩, ⟨none, none, .st 5 (.t 2) (.t 30), []⟩])
 (.ret)))))⟩
theorem ck102 : chkFn Tryd.prog 102 ir102 = true := by kernel_rfl
def ir103 : AFn := ⟨35, 1, [.c 2 5 true], .seq (.reg [] [⟨some 2, none, .alloc [.int .i64 0, .int .i64 0, .str [], .sl .nil 5 [], .sl .nil 6 []], []⟩])
 (.seq (.reg [] [⟨some 4, none, .bld [.int .i64 0, .int .i64 0, .str [], .sl .nil 5 [], .sl .nil 6 []] [(0, 1, (.k (.int .i64 6)))], []⟩, ⟨some 3, none, .alloc [.int .i64 0, .int .i64 0, .str [], .sl .nil 5 [], .sl .nil 6 []], []⟩, ⟨none, none, .st 5 (.t 3) (.t 4), []⟩])
 (.seq (.seq (.reg [] [⟨some 5, none, .mv (.t 0), []⟩, ⟨some 6, none, .call 107 [(.t 5), (.k (.str [93]))], []⟩, ⟨some 7, none, .not (.t 6), []⟩])
 (.cond (.t 7) (.seq (.reg [0, 1, 2, 3, 4, 5, 6, 7] [⟨some 8, none, .fa 3 (.t 3), []⟩, ⟨some 9, none, .ld 1 false (.t 8), []⟩, ⟨some 10, none, .mv (.t 0), []⟩, ⟨some 11, none, .call 76 [(.t 10)], [1]⟩, ⟨some 12, none, .bls 5 1 [.int .i64 0, .int .i64 0, .str [], .sl .nil 5 [], .sl .nil 6 []] [(0, (.t 11))], []⟩, ⟨some 13, none, .app 5 80 (.t 9) (.t 12), []⟩, ⟨some 14, none, .fa 3 (.t 3), []⟩, ⟨none, none, .st 1 (.t 14) (.t 13), []⟩])
 (.block 0 (.loop [0, 2, 3] (.seq (.seq (.reg [] [⟨some 15, none, .mv (.t 0), []⟩, ⟨some 16, none, .call 107 [(.t 15), (.k (.str [93]))], []⟩, ⟨some 17, none, .not (.t 16), []⟩])
 (.cond (.t 17) (.skip) (.exit 0)))
 (.block 1 (.seq (.reg [] [⟨some 18, none, .mv (.t 0), []⟩, ⟨some 19, none, .call 108 [(.t 18), (.k (.str [44]))], []⟩])
 (.reg [0, 1, 2, 3, 4, 5, 6, 7] [⟨some 20, none, .fa 3 (.t 3), []⟩, ⟨some 21, none, .ld 1 false (.t 20), []⟩, ⟨some 22, none, .mv (.t 0), []⟩, ⟨some 23, none, .call 76 [(.t 22)], [1]⟩, ⟨some 24, none, .bls 5 1 [.int .i64 0, .int .i64 0, .str [], .sl .nil 5 [], .sl .nil 6 []] [(0, (.t 23))], []⟩, ⟨some 25, none, .app 5 80 (.t 21) (.t 24), []⟩, ⟨some 26, none, .fa 3 (.t 3), []⟩, ⟨none, none, .st 1 (.t 26) (.t 25), []⟩]))))))) (.skip)))
 (.seq (.reg [] [⟨some 27, none, .mv (.t 0), []⟩, ⟨some 28, none, .nilchk (.t 27), []⟩, ⟨some 29, none, .fa 2 (.t 28), []⟩, ⟨some 30, none, .ld 1 false (.t 29), []⟩, ⟨some 31, none, .bi .sub .i64 (.t 30) (.k (.int .i64 1)), []⟩, ⟨some 32, none, .nilchk (.t 27), []⟩, ⟨some 33, none, .fa 2 (.t 32), []⟩, ⟨none, none, .st 1 (.t 33) (.t 31), []⟩])
 (.seq (.reg [] [⟨some 34, none, .ld 5 true (.t 3), []⟩, ⟨none, none, .st 5 (.t 2) (.t 34), []⟩])
 (.ret)))))⟩
theorem ck103 : chkFn Tryd.prog 103 ir103 = true := by kernel_rfl
def ir104 : AFn := ⟨46, 1, [.t 2], .seq (.reg [] [⟨some 2, none, .mv (.k (.str [])), []⟩])
 (.seq (.reg [] [⟨some 5, none, .mv (.t 0), []⟩, ⟨some 6, none, .call 77 [(.t 5)], []⟩])
 (.seq (.seq (.reg [0, 1, 2, 3, 4, 5, 6, 7, 8, 9, 10] [⟨some 7, none, .mv (.t 0), []⟩, ⟨some 8, none, .nilchk (.t 7), []⟩, ⟨some 9, none, .fa 0 (.t 8), []⟩, ⟨some 10, none, .ld 1 false (.t 9), []⟩, ⟨some 11, none, .mv (.t 0), []⟩, ⟨some 12, none, .nilchk (.t 11), []⟩, ⟨some 13, none, .fa 1 (.t 12), []⟩, ⟨some 14, none, .ld 1 false (.t 13), []⟩, ⟨some 15, none, .sls (.t 10) (some (.t 14)) none, []⟩, ⟨some 16, none, .call 121 [(.t 15), (.k (.str [34]))], []⟩, ⟨some 17, none, .not (.t 16), []⟩])
 (.cond (.t 17) (.reg [] [⟨some 18, none, .mv (.t 0), []⟩, ⟨some 19, none, .call 78 [(.t 18), (.k (.int .i64 2))], []⟩]) (.skip)))
 (.seq (.reg [0, 1, 2, 3, 4, 5, 6, 7, 8, 9, 10, 11, 12, 13, 14] [⟨some 21, none, .mv (.t 0), []⟩, ⟨some 22, none, .nilchk (.t 21), []⟩, ⟨some 23, none, .fa 0 (.t 22), []⟩, ⟨some 24, none, .ld 1 false (.t 23), []⟩, ⟨some 25, none, .mv (.t 0), []⟩, ⟨some 26, none, .nilchk (.t 25), []⟩, ⟨some 27, none, .fa 1 (.t 26), []⟩, ⟨some 28, none, .ld 1 false (.t 27), []⟩, ⟨some 29, none, .sls (.t 24) (some (.t 28)) none, []⟩, ⟨some 30, none, .call 122 [(.t 29), (.k (.clo 123 [] []))], []⟩, ⟨some 20, none, .mv (.t 30), []⟩, ⟨some 31, none, .ext (.t 20) 0, []⟩, ⟨some 32, none, .ext (.t 20) 1, []⟩, ⟨some 3, none, .mv (.t 31), []⟩, ⟨some 4, none, .mv (.t 32), []⟩])
 (.seq (.seq (.reg [] [⟨some 33, none, .mv (.t 4), []⟩, ⟨some 34, none, .bi .eql .i64 (.t 33) (.k (.int .i64 0)), []⟩])
 (.cond (.t 34) (.reg [] [⟨some 35, none, .mv (.t 0), []⟩, ⟨some 36, none, .call 78 [(.t 35), (.k (.int .i64 2))], []⟩]) (.skip)))
 (.seq (.reg [] [⟨some 37, none, .mv (.t 0), []⟩, ⟨some 38, none, .nilchk (.t 37), []⟩, ⟨some 39, none, .fa 1 (.t 38), []⟩, ⟨some 40, none, .ld 1 false (.t 39), []⟩, ⟨some 41, none, .mv (.t 4), []⟩, ⟨some 42, none, .bi .add .i64 (.t 40) (.t 41), []⟩, ⟨some 43, none, .nilchk (.t 37), []⟩, ⟨some 44, none, .fa 1 (.t 43), []⟩, ⟨none, none, .st 1 (.t 44) (.t 42), []⟩])
 (.seq (.reg [] [⟨some 45, none, .mv (.t 3), []⟩, ⟨some 2, none, .mv (.t 45), []⟩])
 (.ret)))))))⟩
theorem ck104 : chkFn Tryd.prog 104 ir104 = true := by kernel_rfl
def ir106 : AFn := ⟨66, 1, [.c 2 5 true], .seq (.reg [] [⟨some 2, none, .alloc [.int .i64 0, .int .i64 0, .str [], .sl .nil 5 [], .sl .nil 6 []], []⟩])
 (.seq (.reg [] [⟨some 7, none, .mv (.t 0), []⟩, ⟨some 8, none, .nilchk (.t 7), []⟩, ⟨some 9, none, .fa 1 (.t 8), []⟩, ⟨some 10, none, .ld 1 false (.t 9), []⟩, ⟨some 3, none, .mv (.t 10), []⟩])
 (.seq (.block 0 (.loop [0, 2, 3] (.seq (.seq (.reg [0, 1, 2, 3, 4, 5, 6, 7, 8, 9, 10, 11, 12, 13, 14, 15, 16, 17, 18, 19, 20, 21, 22] [⟨some 11, none, .mv (.t 0), []⟩, ⟨some 12, none, .nilchk (.t 11), []⟩, ⟨some 13, none, .fa 1 (.t 12), []⟩, ⟨some 14, none, .ld 1 false (.t 13), []⟩, ⟨some 15, none, .mv (.t 0), []⟩, ⟨some 16, none, .nilchk (.t 15), []⟩, ⟨some 17, none, .fa 0 (.t 16), []⟩, ⟨some 18, none, .ld 1 false (.t 17), []⟩, ⟨some 19, none, .lens (.t 18), []⟩, ⟨some 20, none, .bi .lss .i64 (.t 14) (.t 19), []⟩, ⟨some 21, none, .mv (.t 20), []⟩, ⟨some 22, (some (21, true)), .mv (.t 0), []⟩, ⟨some 23, (some (21, true)), .nilchk (.t 22), []⟩, ⟨some 24, (some (21, true)), .fa 0 (.t 23), []⟩, ⟨some 25, (some (21, true)), .ld 1 false (.t 24), []⟩, ⟨some 26, (some (21, true)), .mv (.t 0), []⟩, ⟨some 27, (some (21, true)), .nilchk (.t 26), []⟩, ⟨some 28, (some (21, true)), .fa 1 (.t 27), []⟩, ⟨some 29, (some (21, true)), .ld 1 false (.t 28), []⟩, ⟨some 30, (some (21, true)), .ixs (.t 25) (.t 29), []⟩, ⟨some 31, (some (21, true)), .call 109 [(.k (.str [48, 49, 50, 51, 52, 53, 54, 55, 56, 57, 43, 45, 46, 101, 69])), (.t 30)], []⟩, ⟨some 32, (some (21, true)), .bi .geq .i64 (.t 31) (.k (.int .i64 0)), []⟩, ⟨some 33, none, .pick (.t 21) (.t 32) (.k (.bool false)), []⟩])
 (.cond (.t 33) (.skip) (.exit 0)))
 (.block 1 (.reg [] [⟨some 34, none, .mv (.t 0), []⟩, ⟨some 35, none, .nilchk (.t 34), []⟩, ⟨some 36, none, .fa 1 (.t 35), []⟩, ⟨some 37, none, .ld 1 false (.t 36), []⟩, ⟨some 38, none, .bi .add .i64 (.t 37) (.k (.int .i64 1)), []⟩, ⟨some 39, none, .nilchk (.t 34), []⟩, ⟨some 40, none, .fa 1 (.t 39), []⟩, ⟨none, none, .st 1 (.t 40) (.t 38), []⟩])))))
 (.seq (.reg [0, 1, 2, 3, 4, 5, 6, 7, 8, 9, 10] [⟨some 41, none, .mv (.t 0), []⟩, ⟨some 42, none, .nilchk (.t 41), []⟩, ⟨some 43, none, .fa 0 (.t 42), []⟩, ⟨some 44, none, .ld 1 false (.t 43), []⟩, ⟨some 45, none, .mv (.t 3), []⟩, ⟨some 46, none, .mv (.t 0), []⟩, ⟨some 47, none, .nilchk (.t 46), []⟩, ⟨some 48, none, .fa 1 (.t 47), []⟩, ⟨some 49, none, .ld 1 false (.t 48), []⟩, ⟨some 50, none, .sls (.t 44) (some (.t 45)) (some (.t 49)), []⟩, ⟨some 4, none, .mv (.t 50), []⟩])
 (.seq (.seq (.reg [] [⟨some 51, none, .mv (.t 4), []⟩, ⟨some 52, none, .call 83 [(.t 51)], []⟩, ⟨some 53, none, .bi .eql .i64 (.t 52) (.k (.int .i64 0)), []⟩])
 (.cond (.t 53) (.reg [] [⟨some 54, none, .mv (.t 0), []⟩, ⟨some 55, none, .call 78 [(.t 54), (.k (.int .i64 2))], []⟩]) (.skip)))
 (.seq (.seq (.reg [] [⟨some 57, none, .mv (.t 4), []⟩, ⟨some 58, none, .call 125 [(.t 57)], []⟩, ⟨some 56, none, .mv (.t 58), []⟩, ⟨some 59, none, .ext (.t 56) 0, []⟩, ⟨some 60, none, .ext (.t 56) 1, []⟩, ⟨some 5, none, .mv (.t 59), []⟩, ⟨some 6, none, .mv (.t 60), []⟩])
 (.seq (.reg [] [⟨some 61, none, .mv (.t 6), []⟩])
 (.cond (.t 61) (.seq (.reg [] [⟨some 62, none, .mv (.t 5), []⟩, ⟨some 63, none, .call 21 [(.t 62)], []⟩, ⟨none, none, .st 5 (.t 2) (.t 63), []⟩])
 (.ret)) (.skip))))
 (.seq (.reg [] [⟨some 64, none, .mv (.t 4), []⟩, ⟨some 65, none, .bld [.int .i64 0, .int .i64 0, .str [], .sl .nil 5 [], .sl .nil 6 []] [(0, 1, (.k (.int .i64 3))), (2, 1, (.t 64))], []⟩, ⟨none, none, .st 5 (.t 2) (.t 65), []⟩])
 (.ret)))))))⟩
theorem ck106 : chkFn Tryd.prog 106 ir106 = true := by kernel_rfl
def ir107 : AFn := ⟨30, 2, [.t 4], .seq (.reg [] [⟨some 4, none, .mv (.k (.bool false)), []⟩])
 (.seq (.reg [] [⟨some 6, none, .mv (.t 0), []⟩, ⟨some 7, none, .call 77 [(.t 6)], []⟩])
 (.seq (.reg [0, 1, 2, 3, 4, 5, 6, 7, 8, 9, 10, 11] [⟨some 8, none, .mv (.t 0), []⟩, ⟨some 9, none, .nilchk (.t 8), []⟩, ⟨some 10, none, .fa 0 (.t 9), []⟩, ⟨some 11, none, .ld 1 false (.t 10), []⟩, ⟨some 12, none, .mv (.t 0), []⟩, ⟨some 13, none, .nilchk (.t 12), []⟩, ⟨some 14, none, .fa 1 (.t 13), []⟩, ⟨some 15, none, .ld 1 false (.t 14), []⟩, ⟨some 16, none, .sls (.t 11) (some (.t 15)) none, []⟩, ⟨some 17, none, .mv (.t 1), []⟩, ⟨some 18, none, .call 121 [(.t 16), (.t 17)], []⟩, ⟨some 5, none, .mv (.t 18), []⟩])
 (.seq (.seq (.reg [] [⟨some 19, none, .mv (.t 5), []⟩])
 (.cond (.t 19) (.reg [] [⟨some 20, none, .mv (.t 0), []⟩, ⟨some 21, none, .nilchk (.t 20), []⟩, ⟨some 22, none, .fa 1 (.t 21), []⟩, ⟨some 23, none, .ld 1 false (.t 22), []⟩, ⟨some 24, none, .mv (.t 1), []⟩, ⟨some 25, none, .lens (.t 24), []⟩, ⟨some 26, none, .bi .add .i64 (.t 23) (.t 25), []⟩, ⟨some 27, none, .nilchk (.t 20), []⟩, ⟨some 28, none, .fa 1 (.t 27), []⟩, ⟨none, none, .st 1 (.t 28) (.t 26), []⟩]) (.skip)))
 (.seq (.reg [] [⟨some 29, none, .mv (.t 5), []⟩, ⟨some 4, none, .mv (.t 29), []⟩])
 (.ret)))))⟩
theorem ck107 : chkFn Tryd.prog 107 ir107 = true := by kernel_rfl
def ir108 : AFn := ⟨10, 2, [], .seq (.reg [] [⟨some 4, none, .mv (.t 0), []⟩, ⟨some 5, none, .mv (.t 1), []⟩, ⟨some 6, none, .call 107 [(.t 4), (.t 5)], []⟩, ⟨some 7, none, .not (.t 6), []⟩])
 (.cond (.t 7) (.reg [] [⟨some 8, none, .mv (.t 0), []⟩, ⟨some 9, none, .call 78 [(.t 8), (.k (.int .i64 2))], []⟩]) (.skip))⟩
theorem ck108 : chkFn Tryd.prog 108 ir108 = true := by kernel_rfl
def ir120 : AFn := ⟨28, 2, [.t 4], .seq (.reg [] [⟨some 4, none, .mv (.k (.sl .nil 6 [])), []⟩])
 (.seq (.reg [] [⟨some 8, none, .mv (.t 0), []⟩, ⟨some 9, none, .call 104 [(.t 8)], []⟩, ⟨some 5, none, .mv (.t 9), []⟩])
 (.seq (.seq (.reg [] [⟨some 11, none, .mv (.t 5), []⟩, ⟨some 12, none, .mv (.t 1), []⟩, ⟨some 13, none, .call 18 [(.t 11), (.t 12)], []⟩, ⟨some 10, none, .mv (.t 13), []⟩, ⟨some 14, none, .ext (.t 10) 0, []⟩, ⟨some 15, none, .ext (.t 10) 1, []⟩, ⟨some 6, none, .alloc [.int .i64 0, .int .i64 0, .str [], .sl .nil 5 [], .sl .nil 6 []], []⟩, ⟨none, none, .st 5 (.t 6) (.t 14), []⟩, ⟨some 7, none, .mv (.t 15), []⟩])
 (.seq (.reg [] [⟨some 16, none, .mv (.t 7), []⟩])
 (.cond (.t 16) (.reg [] [⟨some 17, none, .mv (.t 0), []⟩, ⟨some 18, none, .call 78 [(.t 17), (.k (.int .i64 5))], []⟩]) (.skip))))
 (.seq (.reg [] [⟨some 19, none, .mv (.t 0), []⟩, ⟨some 20, none, .call 108 [(.t 19), (.k (.str [58]))], []⟩])
 (.seq (.reg [] [⟨some 21, none, .mv (.t 1), []⟩, ⟨some 22, none, .mv (.t 5), []⟩, ⟨some 23, none, .mv (.t 0), []⟩, ⟨some 24, none, .call 76 [(.t 23)], []⟩, ⟨some 25, none, .bld [.str [], .int .i64 0, .int .i64 0, .str [], .sl .nil 5 [], .sl .nil 6 []] [(0, 1, (.t 22)), (1, 5, (.t 24))], []⟩, ⟨some 26, none, .bls 6 1 [.str [], .int .i64 0, .int .i64 0, .str [], .sl .nil 5 [], .sl .nil 6 []] [(0, (.t 25))], []⟩, ⟨some 27, none, .app 6 96 (.t 21) (.t 26), []⟩, ⟨some 4, none, .mv (.t 27), []⟩])
 (.ret)))))⟩
theorem ck120 : chkFn Tryd.prog 120 ir120 = true := by kernel_rfl
def ir123 : AFn := ⟨5, 1, [.t 2], .seq (.reg [] [⟨some 2, none, .mv (.k (.bool false)), []⟩])
 (.seq (.reg [] [⟨some 3, none, .mv (.t 0), []⟩, ⟨some 4, none, .bi .geq .u8 (.t 3) (.k (.int .u8 32)), []⟩, ⟨some 2, none, .mv (.t 4), []⟩])
 (.ret))⟩
theorem ck123 : chkFn Tryd.prog 123 ir123 = true := by kernel_rfl
end Go.Proofs.YtpjafglhdlfnbaaDoor
namespace Go.Proofs.YtpjafglhdlfnbaaDoor
open Go.Ab
def stopV (n : Int) : AV := .ifc 109 (.agg [.int .i64 n])
def rdc (s p : List UInt8) (dp : Nat) : AObj := .cells [.str s, .int .i64 (p.length : Int), .int .i64 (dp : Int)]
def At (H : Heap) (r : Nat) (s t : List UInt8) (dp : Nat) (H' : Heap) : Prop := ∃ p, p ++ t = s ∧ H' = H.upd r (rdc s p dp)
def RetP {α : Type} (H : Heap) (r : Nat) (s : List UInt8) (dp : Nat) (x : RR α) (f : α → AV) (v : AV) (H' : Heap) : Prop := ∃ a t', x = .ok (a, t') ∧ v = f a ∧ At H r s t' dp H'
def PanP {α : Type} (x : RR α) (v : AV) (_ : Heap) : Prop := ∃ n, x = .error n ∧ v = stopV n
abbrev LimS : Nat := 1000000
theorem failC (H : Heap) (r : Nat) (n : Int) : ACalls Tryd.prog 78 [.ptr r 0, .int .i64 n] H (fun e H' => match e with | .ret v => False | .pan v => v = stopV n) := by
  refine ACalls.goO (R := fun _ _ => False) (RP := fun v _ => v = stopV n) ir78 ck78 (Nat.le_refl _) fun KP Q hQ hP => ?_
  simp (disch := first | omega | assumption) only [ir78, go_sem, ↓reduceIte]
  exact hP _ _ H (Low.refl _) rfl
theorem blanksC {H : Heap} {r : Nat} {s p t : List UInt8} {dp : Nat} (hs : p ++ t = s) (hl : s.length ≤ LimS) (hr : H r = some (rdc s p dp)) :
    ACalls Tryd.prog 77 [.ptr r 0] H (fun e H' => ∃ v, e = .ret v ∧ (v = .tup [] ∧ At H r s (skB t) dp H')) := by
  refine ACalls.go ir77 ck77 (Nat.le_refl _) fun KP Q hQ => ?_
  simp only [LimS] at hl
  simp (disch := first | omega | assumption) only [ir77, go_sem, ↓reduceIte]
  refine goL_st (fun _ : List UInt8 × List UInt8 => []) (fun x H' => x.1 ++ x.2 = s ∧ skB x.2 = skB t ∧ H' = H.upd r (rdc s x.1 dp)) (fun x => x.2.length) (p, t) (by simp (disch := first | omega | assumption) only [go_sem, ↓reduceIte]) ⟨hs, rfl, by funext c; by_cases e : c = r <;> simp [Heap.upd, e, hr]⟩ ?_
  rintro ⟨q, u⟩ H' J ⟨hq, hu, rfl⟩ hJ
  simp only at hq hu
  have hg : (H.upd r (rdc s q dp)) r = some (.cells [.str s, .int .i64 (q.length : Int), .int .i64 (dp : Int)]) := by rw [upd_same]; rfl
  have hlen : q.length + u.length = s.length := by rw [← hq]; simp
  cases u with
  | nil =>
    have h1 : ¬ ((q.length : Int) < s.length) := by simp at hlen; omega
    simp (disch := first | omega | assumption) only [hg, h1, go_sem, ↓reduceIte]
    exact hQ _ _ _ _ [] nofun rfl (Low.refl _) ⟨rfl, q, by rw [← hu]; simpa [skB] using hq, rfl⟩
  | cons c u =>
    have h1 : ((q.length : Int) < s.length) = True := eq_true (by simp at hlen; omega)
    have hc : s.getD q.length 0 = c := by rw [← hq]; simp
    simp (disch := first | omega | assumption) only [hg, h1, hc, go_sem, ↓reduceIte]
    refine goK_pure (idxByteC [9, 10, 13, 32] c) ?_
    by_cases hb : 0 ≤ Lib.indexByte [9, 10, 13, 32] c
    · have hbk : bk c = true := by simp [bk, hb]
      simp (disch := first | omega | assumption) only [hb, hg, wrap64, go_sem, ↓reduceIte]
      refine goJ (hJ (q ++ [c], u) _ (by simp) ⟨by simpa using hq, by rw [← hu]; simp [skB, hbk], ?_⟩) (by simp (disch := first | omega | assumption) only [go_sem, ↓reduceIte])
      simp [rdc]
    · have hbk : bk c = false := by simp [bk, hb]
      simp (disch := first | omega | assumption) only [hb, go_sem, ↓reduceIte]
      refine hQ _ _ _ _ [] nofun rfl (Low.refl _) ⟨rfl, q, ?_, rfl⟩
      rw [← hu, skB, hbk]; simpa using hq
theorem skB_idem : ∀ t, skB (skB t) = skB t
  | [] => rfl
  | c :: t => by
    rw [skB]; split
    · exact skB_idem t
    · rename_i h; rw [skB, if_neg h]
theorem mayM_sk (p t : List UInt8) : mayM p (skB t) = mayM p t := by unfold mayM; rw [skB_idem]
theorem upd_upd (H : Heap) (b : Nat) (x y : AObj) : (H.upd b x).upd b y = H.upd b y := by
  funext c; by_cases e : c = b <;> simp [Heap.upd, e]
theorem At.again {H H1 H2 : Heap} {r : Nat} {s t t' : List UInt8} {dp dp' : Nat} (h : At H r s t dp H1) (h' : At H1 r s t' dp' H2) : At H r s t' dp' H2 := by
  obtain ⟨p, _, rfl⟩ := h
  obtain ⟨q, hq, rfl⟩ := h'
  exact ⟨q, hq, upd_upd ..⟩
theorem At.at {H H1 : Heap} {r : Nat} {s t : List UInt8} {dp : Nat} (h : At H r s t dp H1) : ∃ p, p ++ t = s ∧ H1 r = some (rdc s p dp) := by
  obtain ⟨p, hp, rfl⟩ := h
  exact ⟨p, hp, upd_same ..⟩
def MayP (H : Heap) (r : Nat) (s : List UInt8) (dp : Nat) (x t : List UInt8) (v : AV) (H' : Heap) : Prop := match mayM x t with
  | some t' => v = .bool true ∧ At H r s t' dp H'
  | none => v = .bool false ∧ At H r s (skB t) dp H'
theorem mayC {H : Heap} {r : Nat} {s p t : List UInt8} {dp : Nat} (hs : p ++ t = s) (hl : s.length ≤ LimS) (hr : H r = some (rdc s p dp)) (x : List UInt8) (hx : x.length ≤ 100) :
    ACalls Tryd.prog 107 [.ptr r 0, .str x] H (fun e H' => ∃ v, e = .ret v ∧ MayP H r s dp x t v H') := by
  refine ACalls.go ir107 ck107 (Nat.le_refl _) fun KP Q hQ => ?_
  simp (disch := first | omega | assumption) only [ir107, go_sem, ↓reduceIte]
  refine goK_ret (blanksC hs hl hr) fun v H1 ⟨hv, ha⟩ => ?_
  subst hv
  have ha0 := ha
  simp only [LimS] at hl
  obtain ⟨q, hq, h1⟩ := ha.at
  simp only [rdc] at h1
  have hlen : q.length + (skB t).length = s.length := by rw [← hq]; simp
  have hle : ((q.length : Int) ≤ s.length) = True := eq_true (by omega)
  have hd : s.drop q.length = skB t := by rw [← hq]; simp
  simp (disch := first | omega | assumption) only [h1, hle, hd, go_sem, ↓reduceIte]
  refine goK_pure (prefixC (skB t) x) ?_
  by_cases hp : x.isPrefixOf (skB t) = true
  · have hm : mayM x t = some ((skB t).drop x.length) := by unfold mayM; rw [if_pos hp]
    have h2 := (List.isPrefixOf_iff_prefix.1 hp).length_le
    simp (disch := first | omega | assumption) only [hp, h1, wrap64, go_sem, ↓reduceIte]
    refine hQ _ _ _ _ [_] nofun rfl (Low.refl _) ?_
    simp only [MayP, hm]
    refine ⟨rfl, ha0.again ⟨q ++ (skB t).take x.length, ?_, ?_⟩⟩
    · rw [List.append_assoc, List.take_append_drop]; exact hq
    · congr 1; simp only [rdc, List.length_append, List.length_take]
      rw [Nat.min_eq_left h2]; rfl
  · have hp' : x.isPrefixOf (skB t) = false := Bool.eq_false_iff.2 hp
    have hm : mayM x t = none := by unfold mayM; rw [if_neg hp]
    simp (disch := first | omega | assumption) only [hp', go_sem, ↓reduceIte]
    refine hQ _ _ _ _ [_] nofun rfl (Low.refl _) ?_
    simp only [MayP, hm]
    exact ⟨rfl, ha0⟩
theorem mustC {H : Heap} {r : Nat} {s p t : List UInt8} {dp : Nat} (hs : p ++ t = s) (hl : s.length ≤ LimS) (hr : H r = some (rdc s p dp)) (x : List UInt8) (hx : x.length ≤ 100) :
    ACalls Tryd.prog 108 [.ptr r 0, .str x] H (fun e H' => match e with | .ret v => RetP H r s dp (mustM x t) (fun _ => .tup []) v H' | .pan v => PanP (mustM x t) v H') := by
  refine ACalls.goO ir108 ck108 (Nat.le_refl _) fun KP Q hQ hP => ?_
  simp (disch := first | omega | assumption) only [ir108, go_sem, ↓reduceIte]
  refine goK_ret (mayC hs hl hr x hx) fun v H1 hm => ?_
  unfold MayP at hm
  cases hx : mayM x t with
  | some t' =>
    rw [hx] at hm
    obtain ⟨hv, ha⟩ := hm
    subst hv
    simp (disch := first | omega | assumption) only [go_sem, ↓reduceIte]
    exact hQ _ _ _ _ [] nofun rfl (Low.refl _) ⟨(), t', by unfold mustM; rw [hx], rfl, ha⟩
  | none =>
    rw [hx] at hm
    obtain ⟨hv, ha⟩ := hm
    subst hv
    simp (disch := first | omega | assumption) only [go_sem, ↓reduceIte]
    exact goK_both (failC H1 r 2) (fun _ _ h => h.elim) fun v H2 h => hP v H2 H2 (Low.refl _) ⟨2, by unfold mustM; rw [hx], h⟩
theorem highC (c : UInt8) : Pure Tryd.prog 123 [.int .u8 c.toNat] (.bool (hiB c)) := by
  refine Pure.go ir123 ck123 (Nat.le_refl _) fun KP Q hQ => ?_
  by_cases h : 32 ≤ c.toNat
  · have h' : ((32 : Int) ≤ c.toNat) = True := eq_true (by omega)
    simp (disch := first | omega | assumption) only [ir123, h', go_sem, ↓reduceIte]
    exact hQ _ _ _ _ nofun rfl (by simp [tupOf, envOf, AV.strip, AV.strip1, hiB, h])
  · have h' : ¬ ((32 : Int) ≤ c.toNat) := by omega
    simp (disch := first | omega | assumption) only [ir123, h', go_sem, ↓reduceIte]
    exact hQ _ _ _ _ nofun rfl (by simp [tupOf, envOf, AV.strip, AV.strip1, hiB, h])
theorem textC {H : Heap} {r : Nat} {s p t : List UInt8} {dp : Nat} (hs : p ++ t = s) (hl : s.length ≤ LimS) (hr : H r = some (rdc s p dp)) :
    ACalls Tryd.prog 104 [.ptr r 0] H (fun e H' => match e with | .ret v => RetP H r s dp (textM t) AV.str v H' | .pan v => PanP (textM t) v H') := by
  refine ACalls.goO ir104 ck104 (Nat.le_refl _) fun KP Q hQ hP => ?_
  simp (disch := first | omega | assumption) only [ir104, go_sem, ↓reduceIte]
  refine goK_ret (blanksC hs hl hr) fun v H1 ⟨hv, ha⟩ => ?_
  subst hv
  have ha0 := ha
  simp only [LimS] at hl
  obtain ⟨q, hq, h1⟩ := ha.at
  simp only [rdc] at h1
  have hlen : q.length + (skB t).length = s.length := by rw [← hq]; simp
  have hle : ((q.length : Int) ≤ s.length) = True := eq_true (by omega)
  have hd : s.drop q.length = skB t := by rw [← hq]; simp
  simp (disch := first | omega | assumption) only [h1, hle, hd, go_sem, ↓reduceIte]
  refine goK_pure (prefixC (skB t) [34]) ?_
  by_cases hp : [34].isPrefixOf (skB t) = true
  · obtain ⟨u, hu⟩ : ∃ u, skB t = 34 :: u := by
      cases hk : skB t with
      | nil => rw [hk] at hp; cases hp
      | cons c u => rw [hk] at hp; simp [List.isPrefixOf] at hp; exact ⟨u, by rw [hp]⟩
    rw [hu] at hp hd hq hlen
    rw [hu]
    simp only [List.length_cons] at hlen
    simp (disch := first | omega | assumption) only [hp, h1, hle, hd, go_sem, ↓reduceIte]
    refine goK_pure (quotedC 123 (by decide +kernel) hiB highC 34 u (by simp only [LimQ]; omega)) ?_
    cases hm : quoM hiB u with
    | none =>
      have e0 : textM t = .error 2 := by unfold textM; rw [hu, if_pos hp]; simp [hm]
      simp (disch := first | omega | assumption) only [quoA, hm, go_sem, ↓reduceIte]
      exact goK_both (failC _ r 2) (fun _ _ h => h.elim) fun v H2 h => hP v H2 H2 (Low.refl _) ⟨2, e0, h⟩
    | some y =>
      obtain ⟨b, t'⟩ := y
      have e0 : textM t = .ok (b, t') := by unfold textM; rw [hu, if_pos hp]; simp [hm]
      have h2 := quoM_suf hm
      have h3 : ¬ (((u.length + 1 - t'.length : Nat) : Int) = 0) := by omega
      simp (disch := first | omega | assumption) only [quoA, hm, h3, h1, wrap64, go_sem, ↓reduceIte]
      refine hQ _ _ _ _ [_] nofun rfl (Low.refl _) ⟨b, t', e0, rfl, ha0.again ?_⟩
      obtain ⟨m, hm2⟩ := h2.1
      refine ⟨q ++ 34 :: m, by rw [← hq, ← hm2]; simp, ?_⟩
      congr 1
      simp only [rdc, List.length_append, List.length_cons]
      have : u.length = m.length + t'.length := by rw [← hm2]; simp
      have e1 : (q.length : Int) + ((u.length + 1 - t'.length : Nat) : Int) = ((q.length + (m.length + 1) : Nat) : Int) := by omega
      rw [e1]
  · have hp' : [34].isPrefixOf (skB t) = false := Bool.eq_false_iff.2 hp
    have e0 : textM t = .error 2 := by unfold textM; rw [if_neg hp]
    simp (disch := first | omega | assumption) only [hp', go_sem, ↓reduceIte]
    exact goK_both (failC _ r 2) (fun _ _ h => h.elim) fun v H2 h => hP v H2 H2 (Low.refl _) ⟨2, e0, h⟩
theorem openC {H : Heap} {r : Nat} {s p : List UInt8} {dp : Nat} (hd : dp ≤ 16) (hr : H r = some (rdc s p dp)) :
    ACalls Tryd.prog 101 [.ptr r 0] H (fun e H' => match e with | .ret v => dp < 16 ∧ v = .tup [] ∧ H' = H.upd r (rdc s p (dp + 1)) | .pan v => dp = 16 ∧ v = stopV 4) := by
  refine ACalls.goO (R := fun v H' => dp < 16 ∧ v = .tup [] ∧ H' = H.upd r (rdc s p (dp + 1))) (RP := fun v _ => dp = 16 ∧ v = stopV 4) ir101 ck101 (Nat.le_refl _) fun KP Q hQ hP => ?_
  simp only [rdc] at hr
  by_cases h : dp = 16
  · have h1 : ((dp : Int) = 16) = True := eq_true (by omega)
    simp (disch := first | omega | assumption) only [ir101, hr, h1, go_sem, ↓reduceIte]
    exact goK_both (failC _ r 4) (fun _ _ h => h.elim) fun v H2 h2 => hP v H2 H2 (Low.refl _) ⟨h, h2⟩
  · have h1 : ¬ ((dp : Int) = 16) := by omega
    simp (disch := first | omega | assumption) only [ir101, hr, h1, wrap64, go_sem, ↓reduceIte]
    exact hQ _ _ _ _ [] nofun rfl (Low.refl _) ⟨by omega, rfl, by simp [rdc]⟩
theorem retStrip {P : Program} {f : FuncId} {args : List AV} {H : Heap} {R RP : AV → Heap → Prop} (h : ACalls P f args H (fun e H' => match e with | .ret v => R v.strip H' | .pan v => RP v H')) :
    ACalls P f args H (fun e H' => match e with | .ret v => R v H' | .pan v => RP v H') := by
  intro γ w vs ht hs hv
  refine (h γ w vs ht hs hv).mono fun e w' ⟨γ', H', r, h1, h2, h3, h4, h5⟩ => ?_
  cases r with
  | ret v =>
    cases e with
    | returned u => exact ⟨γ', H', .ret v.strip, h1, h2, h3, Rep.strip h4, h5⟩
    | panicked ch => exact h4.elim
    | outgrown => exact h4.elim
  | pan v => exact ⟨γ', H', .pan v, h1, h2, h3, h4, h5⟩
theorem numberV {H : Heap} {r : Nat} {s p t : List UInt8} {dp : Nat} (hs : p ++ t = s) (hl : s.length ≤ LimS) (hr : H r = some (rdc s p dp)) :
    ACalls Tryd.prog 106 [.ptr r 0] H (fun e H' => match e with | .ret v => RetP H r s dp (numM t) (fun v => .agg (cV v)) v H' | .pan v => PanP (numM t) v H') := by
  refine retStrip (ACalls.goO (R := fun v H' => RetP H r s dp (numM t) (fun v => .agg (cV v)) v.strip H') (RP := fun v H' => PanP (numM t) v H') ir106 ck106 (Nat.le_refl _) fun KP Q hQ hP => ?_)
  have hl0 := hl
  simp only [LimS] at hl
  have hr0 := hr
  simp only [rdc] at hr
  simp (disch := first | omega | assumption) only [ir106, go_sem, ↓reduceIte]
  refine goA_intro fun b hb => ?_
  have hbr : ¬ (r = b) := fun e => by subst e; rw [hb] at hr; cases hr
  simp (disch := first | omega | assumption) only [hr, hbr, go_sem, ↓reduceIte]
  refine goL_st (fun _ : List UInt8 × List UInt8 => []) (fun x H' => p ++ (x.1 ++ x.2) = s ∧ x.1 ++ x.2.takeWhile nch = t.takeWhile nch ∧ x.2.dropWhile nch = t.dropWhile nch ∧ H' = (H.upd r (rdc s (p ++ x.1) dp)).upd b (.cells [.int .i64 0, .int .i64 0, .str [], .sl .nil 5 [], .sl .nil 6 []])) (fun x => x.2.length) ([], t) (by simp (disch := first | omega | assumption) only [go_sem, ↓reduceIte]) ⟨by simpa using hs, by simp, rfl, ?_⟩ ?_
  · funext c
    by_cases e : c = b
    · simp [Heap.upd, e]
    · by_cases e2 : c = r <;> simp [Heap.upd, e, e2, hr, rdc]
  rintro ⟨q, u⟩ H' J ⟨hq, hu, hd, rfl⟩ hJ
  simp only at hq hu hd
  have hg : ((H.upd r (rdc s (p ++ q) dp)).upd b (.cells [.int .i64 0, .int .i64 0, .str [], .sl .nil 5 [], .sl .nil 6 []])) r = some (.cells [.str s, .int .i64 ((p ++ q).length : Int), .int .i64 (dp : Int)]) := by rw [upd_ne hbr, upd_same]; rfl
  have hgb : ((H.upd r (rdc s (p ++ q) dp)).upd b (.cells [.int .i64 0, .int .i64 0, .str [], .sl .nil 5 [], .sl .nil 6 []])) b = some (.cells [.int .i64 0, .int .i64 0, .str [], .sl .nil 5 [], .sl .nil 6 []]) := upd_same ..
  have hlen : (p ++ q).length + u.length = s.length := by rw [← hq]; simp; omega
  have fin : (u = [] ∨ ∃ c u', u = c :: u' ∧ nch c = false) → q = t.takeWhile nch ∧ u = t.dropWhile nch := by
    rintro (rfl | ⟨c, u', rfl, hc⟩)
    · simp only [List.takeWhile_nil, List.append_nil, List.dropWhile_nil] at hu hd; exact ⟨hu, hd⟩
    · simp only [List.takeWhile_cons, hc, List.dropWhile_cons, Bool.false_eq_true, if_false, List.append_nil] at hu hd; exact ⟨hu, hd⟩
  have b1 : ((p.length : Int) ≤ ((p ++ q).length : Nat)) = True := eq_true (by simp; omega)
  have b2 : ((((p ++ q).length : Nat) : Int) ≤ s.length) = True := eq_true (by omega)
  have e3 : (s.take (p ++ q).length).drop p.length = q := by
    rw [← hq, ← List.append_assoc, List.take_left, List.drop_left]
  have hql : q.length ≤ 1000000 := by simp at hlen; omega
  have low : ∀ {x : AObj}, Low (H.upd r (rdc s (p ++ q) dp)) ((H.upd r (rdc s (p ++ q) dp)).upd b x) := fun {x} => (Low.refl _).upd (by rw [upd_ne (Ne.symm hbr)]; exact hb)
  have hat : At H r s u dp (H.upd r (rdc s (p ++ q) dp)) := ⟨p ++ q, by rw [List.append_assoc]; exact hq, rfl⟩
  cases u with
  | nil =>
    have h1 : ¬ ((((p ++ q).length : Nat) : Int) < s.length) := by simp at hlen ⊢; omega
    have END : (([] : List UInt8) = [] ∨ ∃ c u', ([] : List UInt8) = c :: u' ∧ nch c = false) := .inl rfl
    · simp (disch := first | omega | assumption) only [hg, h1, go_sem, ↓reduceIte]
      obtain ⟨e1, e2⟩ := fin END
      obtain ⟨k, hk⟩ : ∃ k, numK q = k := ⟨_, rfl⟩
      simp (disch := first | omega | assumption) only [hg, b1, b2, e3, go_sem, ↓reduceIte]
      refine goK_pure (NumberC q (by simp only [Lim]; omega)) ?_
      by_cases h0 : numK q = 0
      · have e0 : numM t = .error 2 := by unfold numM; rw [← e1, if_pos h0]
        simp (disch := first | omega | assumption) only [h0, go_sem, ↓reduceIte]
        exact goK_both (failC _ r 2) (fun _ _ h => h.elim) fun v H2 h => hP v H2 H2 (Low.refl _) ⟨2, e0, h⟩
      · have e0 : numM t = .ok (numV q, []) := by unfold numM; rw [← e1, if_neg h0, ← e2]
        simp (disch := first | omega | assumption) only [h0, go_sem, ↓reduceIte]
        refine goK_pure (WholeC q (by simp only [Lim]; omega)) ?_
        cases hw : wholeB q
        · simp (disch := first | omega | assumption) only [hgb, go_sem, ↓reduceIte]
          refine hQ _ _ _ _ [.agg [.int .i64 3, .int .i64 0, .str q, .sl .nil 5 [], .sl .nil 6 []]] nofun (by simp (disch := first | omega | assumption) only [ir106, resvs, resv, upd_same, go_sem, ↓reduceIte]) low ⟨_, _, e0, ?_, hat⟩
          simp [tupOf, AV.strip, AV.strip1, numV, hw, cV, cVs, cMs]
        · simp (disch := first | omega | assumption) only [go_sem, ↓reduceIte]
          refine goK_pure (intP _) ?_
          simp (disch := first | omega | assumption) only [hgb, cV, cVs, cMs, go_sem, ↓reduceIte]
          refine hQ _ _ _ _ [.agg [.int .i64 2, .int .i64 (valI q), .str [], .sl .no 5 [], .sl .no 6 []]] nofun (by simp (disch := first | omega | assumption) only [ir106, resvs, resv, upd_same, go_sem, ↓reduceIte]) low ⟨_, _, e0, ?_, hat⟩
          simp [tupOf, AV.strip, AV.strip1, numV, hw, cV, cVs, cMs]
  | cons c u =>
    have h1 : ((((p ++ q).length : Nat) : Int) < s.length) = True := eq_true (by simp at hlen ⊢; omega)
    have hc : s.getD (p ++ q).length 0 = c := by rw [← hq, ← List.append_assoc]; simp
    simp (disch := first | omega | assumption) only [hg, h1, hc, go_sem, ↓reduceIte]
    refine goK_pure (idxByteC [48, 49, 50, 51, 52, 53, 54, 55, 56, 57, 43, 45, 46, 101, 69] c) ?_
    by_cases hb2 : 0 ≤ Lib.indexByte [48, 49, 50, 51, 52, 53, 54, 55, 56, 57, 43, 45, 46, 101, 69] c
    · have hbk : nch c = true := by simp [nch, hb2]
      simp (disch := first | omega | assumption) only [hb2, hg, wrap64, go_sem, ↓reduceIte]
      refine goJ (hJ (q ++ [c], u) _ (by simp) ⟨by simpa using hq, ?_, ?_, ?_⟩) (by simp (disch := first | omega | assumption) only [go_sem, ↓reduceIte])
      · rw [← hu]; simp [hbk]
      · rw [← hd]; simp [hbk]
      · funext n
        by_cases e : n = b
        · subst e; simp [Heap.upd, Ne.symm hbr]
        · by_cases e2 : n = r
          · subst e2; simp [Heap.upd, hbr, rdc, Int.add_assoc]
          · simp [Heap.upd, e, e2]
    · have hbk : nch c = false := by simp [nch, hb2]
      have END : (c :: u = [] ∨ ∃ c' u', c :: u = c' :: u' ∧ nch c' = false) := .inr ⟨c, u, rfl, hbk⟩
      simp (disch := first | omega | assumption) only [hb2, hg, go_sem, ↓reduceIte]
      obtain ⟨e1, e2⟩ := fin END
      obtain ⟨k, hk⟩ : ∃ k, numK q = k := ⟨_, rfl⟩
      simp (disch := first | omega | assumption) only [b1, b2, e3, hg, rdc, go_sem, ↓reduceIte]
      refine goK_pure (NumberC q (by simp only [Lim]; omega)) ?_
      by_cases h0 : numK q = 0
      · have e0 : numM t = .error 2 := by unfold numM; rw [← e1, if_pos h0]
        simp (disch := first | omega | assumption) only [h0, go_sem, ↓reduceIte]
        exact goK_both (failC _ r 2) (fun _ _ h => h.elim) fun v H2 h => hP v H2 H2 (Low.refl _) ⟨2, e0, h⟩
      · have e0 : numM t = .ok (numV q, c :: u) := by unfold numM; rw [← e1, if_neg h0, ← e2]
        simp (disch := first | omega | assumption) only [h0, go_sem, ↓reduceIte]
        refine goK_pure (WholeC q (by simp only [Lim]; omega)) ?_
        cases hw : wholeB q
        · simp (disch := first | omega | assumption) only [hgb, go_sem, ↓reduceIte]
          refine hQ _ _ _ _ [.agg [.int .i64 3, .int .i64 0, .str q, .sl .nil 5 [], .sl .nil 6 []]] nofun (by simp (disch := first | omega | assumption) only [ir106, resvs, resv, upd_same, go_sem, ↓reduceIte]) low ⟨_, _, e0, ?_, hat⟩
          simp [tupOf, AV.strip, AV.strip1, numV, hw, cV, cVs, cMs]
        · simp (disch := first | omega | assumption) only [go_sem, ↓reduceIte]
          refine goK_pure (intP _) ?_
          simp (disch := first | omega | assumption) only [hgb, cV, cVs, cMs, go_sem, ↓reduceIte]
          refine hQ _ _ _ _ [.agg [.int .i64 2, .int .i64 (valI q), .str [], .sl .no 5 [], .sl .no 6 []]] nofun (by simp (disch := first | omega | assumption) only [ir106, resvs, resv, upd_same, go_sem, ↓reduceIte]) low ⟨_, _, e0, ?_, hat⟩
          simp [tupOf, AV.strip, AV.strip1, numV, hw, cV, cVs, cMs]
end Go.Proofs.YtpjafglhdlfnbaaDoor
namespace Go.Proofs.YtpjafglhdlfnbaaDoor
open Go.Ab
theorem getV_has (s : List UInt8) : ∀ l, (getV s l).2 = hasN s l
  | [] => rfl
  | .mk t v :: r => by
    simp only [getV, hasN]
    by_cases h : t = s
    · simp [h]
    · simp only [h, if_false, decide_false, Bool.false_or]; exact getV_has s r
theorem valM_sk (n : Nat) (t : List UInt8) : valM n (skB t) = valM n t := by
  cases n <;> simp only [valM, skB_idem]
structure LInv (H : Heap) (r : Nat) (s : List UInt8) (dp : Nat) (H' : Heap) (t : List UInt8) (o : Own) (n sz : Nat) : Prop where
  keep : ∀ c x, c ≠ r → H c = some x → H' c = some x
  here : ∃ p, p ++ t = s ∧ H' r = some (rdc s p dp)
  own : Owned H' o n sz
  tip : ∀ b d, o = .tip b d → H b = none
  hr : ∃ x, H r = some x
theorem LInv.call {H H1 H2 : Heap} {r : Nat} {s t t' : List UInt8} {dp dp' : Nat} {o : Own} {n sz : Nat} (h : LInv H r s dp H1 t o n sz) (ha : At H1 r s t' dp' H2) : LInv H r s dp' H2 t' o n sz := by
  obtain ⟨p, hp, h1⟩ := h.here
  obtain ⟨q, hq, rfl⟩ := ha
  exact ⟨fun c x hc hx => by rw [upd_ne hc]; exact h.keep c x hc hx, ⟨q, hq, upd_same ..⟩, own_upd h.own h1, h.tip, h.hr⟩
theorem LInv.app {H H1 H2 : Heap} {r : Nat} {s t : List UInt8} {dp : Nat} {o o' : Own} {n n' sz : Nat} (h : LInv H r s dp H1 t o n sz) (hs : OwnS H1 o H2 o' n' sz) : LInv H r s dp H2 t o' n' sz := by
  obtain ⟨p, hp, h1⟩ := h.here
  refine ⟨fun c x hc hx => hs.kept c x (h.keep c x hc hx) fun d e => ?_, ⟨p, hp, own_keep h.own h1 hs.kept⟩, hs.own, fun b d e => ?_, h.hr⟩
  · have := h.tip c d e; rw [hx] at this; cases this
  · rcases hs.new b d e with h2 | ⟨d0, e2⟩
    · cases hb : H b with
      | none => rfl
      | some x =>
        by_cases e3 : b = r
        · subst e3; rw [h1] at h2; cases h2
        · rw [h.keep b x e3 hb] at h2; cases h2
    · exact h.tip b d0 e2
theorem LInv.box {H H1 : Heap} {r b : Nat} {s t : List UInt8} {dp : Nat} {o : Own} {n sz : Nat} {cs cs' : List AV} (h : LInv H r s dp H1 t o n sz) (hb : H b = none) (h1 : H1 b = some (.cells cs)) : LInv H r s dp (H1.upd b (.cells cs')) t o n sz := by
  have hbr : r ≠ b := fun e => by subst e; obtain ⟨x, hx⟩ := h.hr; rw [hb] at hx; cases hx
  obtain ⟨p, hp, h2⟩ := h.here
  exact ⟨fun c x hc hx => by rw [upd_ne (fun e => by subst e; rw [hb] at hx; cases hx)]; exact h.keep c x hc hx, ⟨p, hp, by rw [upd_ne hbr]; exact h2⟩, own_upd h.own h1, h.tip, h.hr⟩
theorem LInv.low {H H1 : Heap} {r : Nat} {s t : List UInt8} {dp : Nat} {o : Own} {n sz : Nat} (h : LInv H r s dp H1 t o n sz) : ∃ H2, Low H2 H1 ∧ At H r s t dp H2 := by
  obtain ⟨p, hp, h1⟩ := h.here
  refine ⟨_, Low.of_sub fun c x hc => ?_, p, hp, rfl⟩
  by_cases e : c = r
  · subst e; rw [upd_same] at hc; rw [← hc]; exact h1
  · rw [upd_ne e] at hc; exact h.keep c x e hc
theorem OwnS.unbox {A H' : Heap} {o o' : Own} {n sz b : Nat} {x : AObj} (h : OwnS (A.upd b x) o H' o' n sz) (hb : A b = none) : OwnS A o H' o' n sz := by
  refine ⟨h.own, fun c y hc hn => h.kept c y ?_ hn, fun c d e => ?_⟩
  · rw [upd_ne (fun e => by subst e; rw [hb] at hc; cases hc)]; exact hc
  · rcases h.new c d e with h1 | h1
    · left
      by_cases e2 : c = b
      · subst e2; exact hb
      · rwa [upd_ne e2] at h1
    · exact .inr h1
theorem LInv.mem {H H1 H2 : Heap} {r : Nat} {s t t' p' : List UInt8} {dp : Nat} {o o' : Own} {n n' sz : Nat} (h : LInv H r s dp H1 t o n sz) (hp : p' ++ t' = s) (hs : OwnS (H1.upd r (rdc s p' dp)) o H2 o' n' sz) : LInv H r s dp H2 t' o' n' sz :=
  (h.call ⟨p', hp, rfl⟩).app hs
def ValC (k : Nat) : Prop := ∀ (H : Heap) (r : Nat) (s p t : List UInt8), p ++ t = s → s.length ≤ LimS → H r = some (rdc s p (16 - k)) →
  ACalls Tryd.prog 76 [.ptr r 0] H (fun e H' => match e with | .ret v => RetP H r s (16 - k) (valM k t) (fun v => .agg (cV v)) v H' | .pan v => PanP (valM k t) v H')
def MemP (H : Heap) (r : Nat) (s : List UInt8) (dp : Nat) (o : Own) (x : RR (List Mem)) (v : AV) (H' : Heap) : Prop :=
  ∃ l' t' o' p', x = .ok (l', t') ∧ v = .sl o' 6 (cMs l') ∧ p' ++ t' = s ∧ OwnS (H.upd r (rdc s p' dp)) o H' o' l'.length 6
theorem memberC {k : Nat} (hv : ValC k) {H : Heap} {r : Nat} {s p t : List UInt8} (hs : p ++ t = s) (hl : s.length ≤ LimS) (hr : H r = some (rdc s p (16 - k))) (l : List Mem) (o : Own) (ho : Owned H o l.length 6) (hb : l.length ≤ LimS) :
    ACalls Tryd.prog 120 [.ptr r 0, .sl o 6 (cMs l)] H (fun e H' => match e with | .ret v => MemP H r s (16 - k) o (memberM (valM k) l t) v H' | .pan v => PanP (memberM (valM k) l t) v H') := by
  refine ACalls.goO ir120 ck120 (Nat.le_refl _) fun KP Q hQ hP => ?_
  have hml := cMs_len l
  simp (disch := first | omega | assumption) only [ir120, go_sem, ↓reduceIte]
  refine goK_both (textC hs hl hr) (fun v H1 ⟨nm, t1, e1, hv1, ha1⟩ => ?_) fun v H1 ⟨n, e1, hv1⟩ => hP v H1 H1 (Low.refl _) ⟨n, by unfold memberM RR.bind; rw [e1], hv1⟩
  subst hv1
  simp only [LimS] at hb
  have hl1 : H1 r = some (rdc s _ (16 - k)) := ha1.at.choose_spec.2
  obtain ⟨p1, hp1, hr1⟩ := ha1.at
  simp (disch := first | omega | assumption) only [go_sem, ↓reduceIte]
  refine goK_pure (Pure.low (getP nm l (by simp only [Lim]; omega))) ?_
  rw [getV_has]
  simp (disch := first | omega | assumption) only [cV_len, cV_take, cV_splice, cM_len, cM_take, cM_splice, cM_mk, go_sem, ↓reduceIte]
  refine goA_intro fun b1 hb1 => ?_
  have hbr : ¬ (r = b1) := fun e => by subst e; rw [hb1] at hr1; cases hr1
  have em : memberM (valM k) l t = if hasN nm l then .error 5 else (mustM [58] t1).bind fun _ t => (valM k t).bind fun v t => .ok (l ++ [.mk nm v], t) := by unfold memberM; rw [e1]; rfl
  cases hh : hasN nm l
  · rw [hh] at em
    simp only [Bool.false_eq_true, if_false] at em
    simp (disch := first | omega | assumption) only [cV_len, cV_take, cV_splice, cM_len, cM_take, cM_splice, cM_mk, go_sem, ↓reduceIte]
    refine goK_both (mustC (dp := 16 - k) hp1 hl (by rw [upd_ne hbr]; exact hr1) [58] (by decide)) (fun v H2 ⟨_, t2, e2, hv2, ha2⟩ => ?_) fun v H2 ⟨n, e2, hv2⟩ => hP v H2 H2 (Low.refl _) ⟨n, by rw [em, e2]; rfl, hv2⟩
    subst hv2
    obtain ⟨p2, hp2, hr2⟩ := ha2.at
    simp (disch := first | omega | assumption) only [cV_len, cV_take, cV_splice, cM_len, cM_take, cM_splice, cM_mk, go_sem, ↓reduceIte]
    refine goK_both (hv _ r s p2 t2 hp2 hl hr2) (fun v H3 ⟨x, t3, e3, hv3, ha3⟩ => ?_) fun v H3 ⟨n, e3, hv3⟩ => hP v H3 H3 (Low.refl _) ⟨n, by rw [em, e2]; simp only [RR.bind, e3], hv3⟩
    subst hv3
    have hat := (ha2.again ha3)
    obtain ⟨p3, hp3, rfl⟩ := hat
    have hb3 : (H1.upd b1 (.cells (cV (getV nm l).1))) r = some (rdc s p1 (16 - k)) := by rw [upd_ne hbr]; exact hr1
    have ho3 : Owned (((H1.upd b1 (.cells (cV (getV nm l).1))).upd r (rdc s p3 (16 - k)))) o l.length 6 := by
      obtain ⟨p0, hp0, rfl⟩ := ha1
      refine own_upd ?_ hb3
      cases o with
      | tip c d =>
        have h5 : H c = some _ := ho
        have h6 := own_ne ho hr
        have h7 : c ≠ b1 := fun e => by subst e; rw [upd_ne h6, h5] at hb1; cases hb1
        show (_ : Heap) c = _
        rw [upd_ne h7, upd_ne h6]; exact h5
      | no => exact ho
      | nil => exact ho
      | full => exact ho
    simp (disch := first | omega | assumption) only [cV_len, cV_take, cV_splice, cM_len, cM_take, cM_splice, cM_mk, cV_len, cV_strip, hml, go_sem, ↓reduceIte]
    refine goP_ownS (by rw [hml]; exact ho3) (by simp [hml]; omega) (by simp [maxLen, hml]; omega) fun o' H4 hs4 => ?_
    simp (disch := first | omega | assumption) only [cV_len, cV_take, cV_splice, cM_len, cM_take, cM_splice, cM_mk, go_sem, ↓reduceIte]
    refine hQ _ _ H4 H4 [_] nofun rfl (Low.refl _) ⟨l ++ [.mk nm x], t3, o', p3, by rw [em, e2]; simp only [RR.bind, e3], ?_, hp3, ?_⟩
    · show AV.sl o' 6 (cMs l ++ [AV.str nm :: (cV x).map AV.strip1]) = _
      rw [cV_strip, cMs_map, cMs_map]; simp [cM]
    · obtain ⟨p0, hp0, rfl⟩ := ha1
      have e5 : (((H.upd r (rdc s p0 (16 - k))).upd b1 (.cells (cV (getV nm l).1))).upd r (rdc s p3 (16 - k))) = (H.upd r (rdc s p3 (16 - k))).upd b1 (.cells (cV (getV nm l).1)) := by
        funext c
        by_cases e : c = r
        · subst e; simp [Heap.upd, hbr]
        · simp [Heap.upd, e]
      rw [e5] at hs4
      rw [List.length_append]
      refine OwnS.unbox (by simpa [hml] using hs4) ?_
      rw [upd_ne (Ne.symm hbr)] at hb1 ⊢; exact hb1
  · rw [hh] at em
    simp only [if_true] at em
    simp (disch := first | omega | assumption) only [cV_len, cV_take, cV_splice, cM_len, cM_take, cM_splice, cM_mk, go_sem, ↓reduceIte]
    exact goK_both (failC _ r 5) (fun _ _ h => h.elim) fun v H2 h => hP v H2 H2 (Low.refl _) ⟨5, em, h⟩
end Go.Proofs.YtpjafglhdlfnbaaDoor
namespace Go.Proofs.YtpjafglhdlfnbaaDoor
open Go.Ab
theorem mustM_sk (p t : List UInt8) : mustM p (skB t) = mustM p t := by unfold mustM; rw [mayM_sk]
theorem At.other {H H' : Heap} {r c : Nat} {s t : List UInt8} {dp : Nat} (h : At H r s t dp H') (hc : c ≠ r) : H' c = H c := by
  obtain ⟨p, _, rfl⟩ := h; rw [upd_ne hc]
theorem LInv.init {H : Heap} {r : Nat} {s p t : List UInt8} {dp sz : Nat} (hp : p ++ t = s) (hr : H r = some (rdc s p dp)) : LInv H r s dp H t .nil 0 sz :=
  ⟨fun _ _ _ h => h, ⟨p, hp, hr⟩, rfl, nofun, _, hr⟩
theorem LInv.new {H H1 : Heap} {r b : Nat} {s t : List UInt8} {dp : Nat} {o : Own} {n sz : Nat} {x : AObj} (h : LInv H r s dp H1 t o n sz) (hb : H1 b = none) : LInv H r s dp (H1.upd b x) t o n sz := by
  obtain ⟨p, hp, h1⟩ := h.here
  refine ⟨fun c y hc hy => ?_, ⟨p, hp, ?_⟩, ?_, h.tip, h.hr⟩
  · rw [upd_ne (fun e => by subst e; rw [h.keep c y hc hy] at hb; cases hb)]; exact h.keep c y hc hy
  · rw [upd_ne (fun e => by subst e; rw [h1] at hb; cases hb)]; exact h1
  · exact Owned.upd h.own hb
abbrev zC : List AV := [.int .i64 0, .int .i64 0, .str [], .sl .nil 5 [], .sl .nil 6 []]
theorem listC {k : Nat} (hk : k < 16) (hv : ValC k) {H : Heap} {r : Nat} {s p t : List UInt8} (hs : p ++ t = s) (hl : s.length ≤ LimS) (hr : H r = some (rdc s p (16 - k))) :
    ACalls Tryd.prog 103 [.ptr r 0] H (fun e H' => match e with | .ret v => RetP H r s (16 - (k + 1)) (listM (valM k) t) (fun v => .agg (cV v)) v H' | .pan v => PanP (listM (valM k) t) v H') := by
  refine retStrip (ACalls.goO (R := fun v H' => RetP H r s (16 - (k + 1)) (listM (valM k) t) (fun v => .agg (cV v)) v.strip H') (RP := fun v H' => PanP (listM (valM k) t) v H') ir103 ck103 (Nat.le_refl _) fun KP Q hQ hP => ?_)
  have L0 : LInv H r s (16 - k) H t .nil 0 5 := LInv.init hs hr
  have hl0 := hl
  simp only [LimS] at hl
  have e16 : ((16 - k : Nat) : Int) - 1 = ((16 - (k + 1) : Nat) : Int) := by omega
  simp (disch := first | omega | assumption) only [ir103, go_sem, ↓reduceIte]
  refine goA_intro fun b2 hb2 => ?_
  simp (disch := first | omega | assumption) only [go_sem, ↓reduceIte]
  refine goA_intro fun b3 hb3 => ?_
  simp (disch := first | omega | assumption) only [go_sem, ↓reduceIte]
  have hb3' := hb3
  have h23 : b3 ≠ b2 := fun e => by subst e; rw [upd_same] at hb3; cases hb3
  have hb3H : H b3 = none := by rw [upd_ne h23] at hb3; exact hb3
  have hrb2 : r ≠ b2 := fun e => by subst e; rw [hb2] at hr; cases hr
  have hrb3 : r ≠ b3 := fun e => by subst e; rw [hb3H] at hr; cases hr
  have L1 := (L0.new (x := .cells zC) hb2).new (x := .cells [.int .i64 6, .int .i64 0, .str [], .sl .nil 5 [], .sl .nil 6 []]) hb3
  have fin : ∀ (l : List Val) (t' : List UInt8) (o : Own) (H1 : Heap), LInv H r s (16 - k) H1 t' o l.length 5 → listM (valM k) t = .ok (.mk 6 0 [] l [], t') → H1 b2 = some (.cells zC) →
      ∀ (p1 : List UInt8), p1 ++ t' = s → H1 r = some (rdc s p1 (16 - k)) → ∃ H2, Low H2 ((H1.upd r (rdc s p1 (16 - (k + 1)))).upd b2 (.cells [.int .i64 6, .int .i64 0, .str [], .sl o 5 (cVs l), .sl .nil 6 []])) ∧
        RetP H r s (16 - (k + 1)) (listM (valM k) t) (fun v => .agg (cV v)) (AV.agg [.int .i64 6, .int .i64 0, .str [], .sl .no 5 (cVs l), .sl .no 6 []]) H2 := by
    intro l t' o H1 L e1 h2 p1 hp1 hr1
    have L2 := (L.call (t' := t') (dp' := 16 - (k + 1)) ⟨p1, hp1, rfl⟩).box (b := b2) (cs := zC) (cs' := [.int .i64 6, .int .i64 0, .str [], .sl o 5 (cVs l), .sl .nil 6 []]) hb2 (by rw [upd_ne (Ne.symm hrb2)]; exact h2)
    obtain ⟨H2, h3, h4⟩ := L2.low
    exact ⟨H2, h3, _, _, e1, rfl, h4⟩
  refine goK_ret (mayC (dp := 16 - k) hs hl0 (by rw [upd_ne hrb3, upd_ne hrb2]; exact hr) [93] (by decide)) fun v H1 hm => ?_
  unfold MayP at hm
  cases hx : mayM [93] t with
  | some t' =>
    rw [hx] at hm
    obtain ⟨hv1, ha⟩ := hm
    subst hv1
    have L2 := L1.call ha
    obtain ⟨p1, hp1, hr1⟩ := L2.here
    have h2 : H1 b2 = some (.cells zC) := by rw [ha.other (Ne.symm hrb2), upd_ne (Ne.symm h23), upd_same]
    have h3 : H1 b3 = some (.cells [.int .i64 6, .int .i64 0, .str [], .sl .nil 5 [], .sl .nil 6 []]) := by rw [ha.other (Ne.symm hrb3), upd_same]
    obtain ⟨H2, hlow, hret⟩ := fin [] t' .nil H1 L2 (by unfold listM; rw [hx]) h2 p1 hp1 hr1
    simp only [rdc] at hr1
    simp only [zC] at h2
    have n1 := Ne.symm hrb2
    have n2 := Ne.symm hrb3
    simp (disch := first | omega | assumption) only [hr1, h2, h3, wrap64, e16, go_sem, ↓reduceIte]
    refine hQ _ _ _ H2 [.agg [.int .i64 6, .int .i64 0, .str [], .sl .nil 5 [], .sl .nil 6 []]] nofun (by simp (disch := first | omega | assumption) only [ir103, resvs, resv, upd_same, go_sem, ↓reduceIte]) hlow hret
  | none =>
    rw [hx] at hm
    obtain ⟨hv1, ha⟩ := hm
    subst hv1
    have L2 := L1.call ha
    obtain ⟨p1, hp1, hr1⟩ := L2.here
    have h2 : H1 b2 = some (.cells zC) := by rw [ha.other (Ne.symm hrb2), upd_ne (Ne.symm h23), upd_same]
    have h3 : H1 b3 = some (.cells [.int .i64 6, .int .i64 0, .str [], .sl .nil 5 [], .sl .nil 6 []]) := by rw [ha.other (Ne.symm hrb3), upd_same]
    have n1 := Ne.symm hrb2
    have n2 := Ne.symm hrb3
    have eL : listM (valM k) t = (valM k t).bind fun v t => (itemsM (valM k) (t.length + 1) [v] t).bind fun l t => .ok (.mk 6 0 [] l [], t) := by unfold listM; rw [hx]
    simp (disch := first | omega | assumption) only [h3, go_sem, ↓reduceIte]
    refine goK_both (hv _ r s p1 (skB t) hp1 hl0 hr1) (fun v H3 ⟨x, t3, e3, hv3, ha3⟩ => ?_) fun v H3 ⟨n, e3, hv3⟩ => hP v H3 H3 (Low.refl _) ⟨n, by rw [eL]; rw [valM_sk] at e3; simp only [RR.bind, e3], hv3⟩
    subst hv3
    rw [valM_sk] at e3
    have L3 := L2.call ha3
    have h23' : H3 b2 = some (.cells zC) := by rw [ha3.other n1]; exact h2
    have h33 : H3 b3 = some (.cells [.int .i64 6, .int .i64 0, .str [], .sl .nil 5 [], .sl .nil 6 []]) := by rw [ha3.other n2]; exact h3
    have hf3 := (valM_fit k _ _ _ e3).1
    have htl : t.length ≤ s.length := by rw [← hs]; simp
    simp (disch := first | omega | assumption) only [h33, cV_len, cV_strip, go_sem, ↓reduceIte]
    refine goP_ownS (o := .nil) rfl (by simp) (by simp [maxLen]) fun o4 H4 hs4 => ?_
    have L4 := L3.app (o' := o4) (n' := 1) (by simpa using hs4)
    have h24 : H4 b2 = some (.cells zC) := own_keep (show Owned H3 .nil 0 5 from rfl) h23' hs4.kept
    have h34 : H4 b3 = some (.cells [.int .i64 6, .int .i64 0, .str [], .sl .nil 5 [], .sl .nil 6 []]) := own_keep (show Owned H3 .nil 0 5 from rfl) h33 hs4.kept
    simp (disch := first | omega | assumption) only [h34, cV_strip, go_sem, ↓reduceIte]
    obtain ⟨R, hR⟩ : ∃ R, itemsM (valM k) (t3.length + 1) [x] t3 = R := ⟨_, rfl⟩
    have eR : listM (valM k) t = R.bind fun l t => .ok (.mk 6 0 [] l [], t) := by rw [eL]; simp only [RR.bind, e3, hR]
    refine goL_st (fun _ : List Val × List UInt8 × Own => []) (fun y H' => LInv H r s (16 - k) H' y.2.1 y.2.2 y.1.length 5 ∧ H' b2 = some (.cells zC) ∧ H' b3 = some (.cells [.int .i64 6, .int .i64 0, .str [], .sl y.2.2 5 (cVs y.1), .sl .nil 6 []]) ∧ (∃ n, y.2.1.length < n ∧ itemsM (valM k) n y.1 y.2.1 = R) ∧ y.1.length + y.2.1.length ≤ s.length) (fun y => y.2.1.length) ([x], t3, o4) (by simp (disch := first | omega | assumption) only [go_sem, ↓reduceIte])
      ⟨L4.box hb3H h34, by rw [upd_ne (Ne.symm h23)]; exact h24, by rw [upd_same, cVs, cVs], ⟨_, by simp, hR⟩, by have := hf3.lt; simp; omega⟩ ?_
    rintro ⟨l, t4, o⟩ H5 J ⟨L5, h25, h35, ⟨n, hn, hg⟩, hle⟩ hJ
    simp only at L5 h25 h35 hn hg hle
    obtain ⟨n, rfl⟩ : ∃ m, n = m + 1 := ⟨n - 1, by omega⟩
    obtain ⟨p5, hp5, hr5⟩ := L5.here
    simp (disch := first | omega | assumption) only [go_sem, ↓reduceIte]
    refine goK_ret (mayC (dp := 16 - k) hp5 hl0 hr5 [93] (by decide)) fun v H6 hm => ?_
    unfold MayP at hm
    simp only [itemsM] at hg
    cases hx5 : mayM [93] t4 with
    | some t' =>
      rw [hx5] at hm hg
      obtain ⟨hv6, ha6⟩ := hm
      subst hv6
      have L6 := L5.call ha6
      obtain ⟨p6, hp6, hr6⟩ := L6.here
      have h26 : H6 b2 = some (.cells zC) := by rw [ha6.other n1]; exact h25
      have h36 := h35
      rw [← ha6.other n2] at h36
      obtain ⟨H7, hlow, hret⟩ := fin l t' o H6 L6 (by rw [eR, ← hg]; rfl) h26 p6 hp6 hr6
      simp only [rdc] at hr6
      simp only [zC] at h26
      simp (disch := first | omega | assumption) only [hr6, h26, h36, wrap64, e16, go_sem, ↓reduceIte]
      refine hQ _ _ _ H7 [.agg [.int .i64 6, .int .i64 0, .str [], .sl o 5 (cVs l), .sl .nil 6 []]] nofun (by simp (disch := first | omega | assumption) only [ir103, resvs, resv, upd_same, go_sem, ↓reduceIte]) hlow hret
    | none =>
      rw [hx5] at hm hg
      obtain ⟨hv6, ha6⟩ := hm
      subst hv6
      have L6 := L5.call ha6
      obtain ⟨p6, hp6, hr6⟩ := L6.here
      have h26 : H6 b2 = some (.cells zC) := by rw [ha6.other n1]; exact h25
      have h36 := h35
      rw [← ha6.other n2] at h36
      simp (disch := first | omega | assumption) only [go_sem, ↓reduceIte]
      refine goK_both (mustC (dp := 16 - k) hp6 hl0 hr6 [44] (by decide)) (fun v H7 ⟨_, t7, e7, hv7, ha7⟩ => ?_) fun v H7 ⟨m, e7, hv7⟩ => hP v H7 H7 (Low.refl _) ⟨m, by rw [eR, ← hg]; rw [mustM_sk] at e7; simp only [RR.bind, e7], hv7⟩
      subst hv7
      rw [mustM_sk] at e7
      have L7 := L6.call ha7
      obtain ⟨p7, hp7, hr7⟩ := L7.here
      have h27 : H7 b2 = some (.cells zC) := by rw [ha7.other n1]; exact h26
      have h37 := h36
      rw [← ha7.other n2] at h37
      have hf7 := mustM_suf e7
      simp only [List.length_cons, List.length_nil] at hf7
      simp (disch := first | omega | assumption) only [h37, go_sem, ↓reduceIte]
      refine goK_both (hv _ r s p7 t7 hp7 hl0 hr7) (fun v H8 ⟨x8, t8, e8, hv8, ha8⟩ => ?_) fun v H8 ⟨m, e8, hv8⟩ => hP v H8 H8 (Low.refl _) ⟨m, by rw [eR, ← hg]; simp only [RR.bind, e7, e8], hv8⟩
      subst hv8
      have L8 := L7.call ha8
      have h28 : H8 b2 = some (.cells zC) := by rw [ha8.other n1]; exact h27
      have h38 := h37
      rw [← ha8.other n2] at h38
      have hf8 := (valM_fit k _ _ _ e8).1.lt
      have hll := cVs_len l
      simp (disch := first | omega | assumption) only [h38, cV_len, cV_strip, go_sem, ↓reduceIte]
      refine goP_ownS (by rw [hll]; exact L8.own) (by simp [hll]; omega) (by simp [hll, maxLen]; omega) fun o9 H9 hs9 => ?_
      have L9 := L8.app (o' := o9) (n' := l.length + 1) (by simpa [hll] using hs9)
      have h29 : H9 b2 = some (.cells zC) := own_keep L8.own h28 hs9.kept
      have h39 := own_keep L8.own h38 hs9.kept
      simp (disch := first | omega | assumption) only [h39, cV_strip, go_sem, ↓reduceIte]
      refine goJ (hJ (l ++ [x8], t8, o9) _ (by show t8.length < t4.length; omega) ⟨?_, by rw [upd_ne (Ne.symm h23)]; exact h29, ?_, ⟨n, by show t8.length < n; omega, ?_⟩, by simp; omega⟩) (by simp (disch := first | omega | assumption) only [go_sem, ↓reduceIte])
      · simpa using L9.box hb3H h39
      · simp only [upd_same]; rw [cVs_map, cVs_map]; simp
      · simp only [RR.bind, e7, e8] at hg; exact hg
end Go.Proofs.YtpjafglhdlfnbaaDoor
namespace Go.Proofs.YtpjafglhdlfnbaaDoor
open Go.Ab
theorem memberM_one {p : List UInt8 → RR Val} {l l' : List Mem} {t t' : List UInt8} (h : memberM p l t = .ok (l', t')) : l'.length = l.length + 1 := by
  unfold memberM at h
  obtain ⟨s, t1, h1, h⟩ := RR.bind_ok h
  split at h
  · cases h
  · obtain ⟨_, t2, h2, h⟩ := RR.bind_ok h
    obtain ⟨v, t3, h3, h⟩ := RR.bind_ok h
    cases h
    simp
theorem mappedC {k : Nat} (hk : k < 16) (hv : ValC k) {H : Heap} {r : Nat} {s p t : List UInt8} (hs : p ++ t = s) (hl : s.length ≤ LimS) (hr : H r = some (rdc s p (16 - k))) :
    ACalls Tryd.prog 102 [.ptr r 0] H (fun e H' => match e with | .ret v => RetP H r s (16 - (k + 1)) (mapM (valM k) t) (fun v => .agg (cV v)) v H' | .pan v => PanP (mapM (valM k) t) v H') := by
  refine retStrip (ACalls.goO (R := fun v H' => RetP H r s (16 - (k + 1)) (mapM (valM k) t) (fun v => .agg (cV v)) v.strip H') (RP := fun v H' => PanP (mapM (valM k) t) v H') ir102 ck102 (Nat.le_refl _) fun KP Q hQ hP => ?_)
  have L0 : LInv H r s (16 - k) H t .nil 0 6 := LInv.init hs hr
  have hl0 := hl
  simp only [LimS] at hl
  have e16 : ((16 - k : Nat) : Int) - 1 = ((16 - (k + 1) : Nat) : Int) := by omega
  simp (disch := first | omega | assumption) only [ir102, go_sem, ↓reduceIte]
  refine goA_intro fun b2 hb2 => ?_
  simp (disch := first | omega | assumption) only [go_sem, ↓reduceIte]
  refine goA_intro fun b3 hb3 => ?_
  simp (disch := first | omega | assumption) only [go_sem, ↓reduceIte]
  have hb3' := hb3
  have h23 : b3 ≠ b2 := fun e => by subst e; rw [upd_same] at hb3; cases hb3
  have hb3H : H b3 = none := by rw [upd_ne h23] at hb3; exact hb3
  have hrb2 : r ≠ b2 := fun e => by subst e; rw [hb2] at hr; cases hr
  have hrb3 : r ≠ b3 := fun e => by subst e; rw [hb3H] at hr; cases hr
  have L1 := (L0.new (x := .cells zC) hb2).new (x := .cells [.int .i64 7, .int .i64 0, .str [], .sl .nil 5 [], .sl .nil 6 []]) hb3
  have fin : ∀ (l : List Mem) (t' : List UInt8) (o : Own) (H1 : Heap), LInv H r s (16 - k) H1 t' o l.length 6 → mapM (valM k) t = .ok (.mk 7 0 [] [] l, t') → H1 b2 = some (.cells zC) →
      ∀ (p1 : List UInt8), p1 ++ t' = s → H1 r = some (rdc s p1 (16 - k)) → ∃ H2, Low H2 ((H1.upd r (rdc s p1 (16 - (k + 1)))).upd b2 (.cells [.int .i64 7, .int .i64 0, .str [], .sl .nil 5 [], .sl o 6 (cMs l)])) ∧
        RetP H r s (16 - (k + 1)) (mapM (valM k) t) (fun v => .agg (cV v)) (AV.agg [.int .i64 7, .int .i64 0, .str [], .sl .no 5 [], .sl .no 6 (cMs l)]) H2 := by
    intro l t' o H1 L e1 h2 p1 hp1 hr1
    have L2 := (L.call (t' := t') (dp' := 16 - (k + 1)) ⟨p1, hp1, rfl⟩).box (b := b2) (cs := zC) (cs' := [.int .i64 7, .int .i64 0, .str [], .sl .nil 5 [], .sl o 6 (cMs l)]) hb2 (by rw [upd_ne (Ne.symm hrb2)]; exact h2)
    obtain ⟨H2, h3, h4⟩ := L2.low
    exact ⟨H2, h3, _, _, e1, rfl, h4⟩
  refine goK_ret (mayC (dp := 16 - k) hs hl0 (by rw [upd_ne hrb3, upd_ne hrb2]; exact hr) [125] (by decide)) fun v H1 hm => ?_
  unfold MayP at hm
  cases hx : mayM [125] t with
  | some t' =>
    rw [hx] at hm
    obtain ⟨hv1, ha⟩ := hm
    subst hv1
    have L2 := L1.call ha
    obtain ⟨p1, hp1, hr1⟩ := L2.here
    have h2 : H1 b2 = some (.cells zC) := by rw [ha.other (Ne.symm hrb2), upd_ne (Ne.symm h23), upd_same]
    have h3 : H1 b3 = some (.cells [.int .i64 7, .int .i64 0, .str [], .sl .nil 5 [], .sl .nil 6 []]) := by rw [ha.other (Ne.symm hrb3), upd_same]
    obtain ⟨H2, hlow, hret⟩ := fin [] t' .nil H1 L2 (by unfold mapM; rw [hx]) h2 p1 hp1 hr1
    simp only [rdc] at hr1
    simp only [zC] at h2
    have n1 := Ne.symm hrb2
    have n2 := Ne.symm hrb3
    simp (disch := first | omega | assumption) only [hr1, h2, h3, wrap64, e16, go_sem, ↓reduceIte]
    refine hQ _ _ _ H2 [.agg [.int .i64 7, .int .i64 0, .str [], .sl .nil 5 [], .sl .nil 6 []]] nofun (by simp (disch := first | omega | assumption) only [ir102, resvs, resv, upd_same, go_sem, ↓reduceIte]) hlow hret
  | none =>
    rw [hx] at hm
    obtain ⟨hv1, ha⟩ := hm
    subst hv1
    have L2 := L1.call ha
    obtain ⟨p1, hp1, hr1⟩ := L2.here
    have h2 : H1 b2 = some (.cells zC) := by rw [ha.other (Ne.symm hrb2), upd_ne (Ne.symm h23), upd_same]
    have h3 : H1 b3 = some (.cells [.int .i64 7, .int .i64 0, .str [], .sl .nil 5 [], .sl .nil 6 []]) := by rw [ha.other (Ne.symm hrb3), upd_same]
    have n1 := Ne.symm hrb2
    have n2 := Ne.symm hrb3
    have eL : mapM (valM k) t = (memberM (valM k) [] t).bind fun l t => (membersM (valM k) (t.length + 1) l t).bind fun l t => .ok (.mk 7 0 [] [] l, t) := by unfold mapM; rw [hx]
    simp (disch := first | omega | assumption) only [h3, go_sem, ↓reduceIte]
    have hsk : memberM (valM k) [] (skB t) = memberM (valM k) [] t := by unfold memberM textM; rw [skB_idem]
    refine goK_both (memberC hv hp1 hl0 hr1 [] .nil rfl (by simp)) (fun v H3 ⟨l3, t3, o3, p3, e3, hv3, hp3, hs3⟩ => ?_) fun v H3 ⟨n, e3, hv3⟩ => hP v H3 H3 (Low.refl _) ⟨n, by rw [eL]; rw [hsk] at e3; simp only [RR.bind, e3], hv3⟩
    subst hv3
    rw [hsk] at e3
    have L3 := L2.mem hp3 hs3
    have hrr : ∀ c x, c ≠ r → H1 c = some (.cells x) → H3 c = some (.cells x) := fun c x hc h => own_keep (H := H1.upd r (rdc s p3 (16 - k))) (o := .nil) (n := 0) (sz := 6) rfl (by rw [upd_ne hc]; exact h) hs3.kept
    have h23' := hrr b2 _ n1 h2
    have h33 := hrr b3 _ n2 h3
    have hf3 := memberM_fit (valM_fit k) e3
    have htl : t.length ≤ s.length := by rw [← hs]; simp
    simp (disch := first | omega | assumption) only [h33, go_sem, ↓reduceIte]
    obtain ⟨R, hR⟩ : ∃ R, membersM (valM k) (t3.length + 1) l3 t3 = R := ⟨_, rfl⟩
    have eR : mapM (valM k) t = R.bind fun l t => .ok (.mk 7 0 [] [] l, t) := by rw [eL]; simp only [RR.bind, e3, hR]
    have hl3 : l3.length + t3.length ≤ s.length := by
      have := hf3.2.1
      have h1 : l3.length = 1 := memberM_one e3
      omega
    refine goL_st (fun _ : List Mem × List UInt8 × Own => []) (fun y H' => LInv H r s (16 - k) H' y.2.1 y.2.2 y.1.length 6 ∧ H' b2 = some (.cells zC) ∧ H' b3 = some (.cells [.int .i64 7, .int .i64 0, .str [], .sl .nil 5 [], .sl y.2.2 6 (cMs y.1)]) ∧ (∃ n, y.2.1.length < n ∧ membersM (valM k) n y.1 y.2.1 = R) ∧ y.1.length + y.2.1.length ≤ s.length) (fun y => y.2.1.length) (l3, t3, o3) (by simp (disch := first | omega | assumption) only [go_sem, ↓reduceIte])
      ⟨L3.box hb3H h33, by rw [upd_ne (Ne.symm h23)]; exact h23', by rw [upd_same], ⟨_, by simp, hR⟩, hl3⟩ ?_
    rintro ⟨l, t4, o⟩ H5 J ⟨L5, h25, h35, ⟨n, hn, hg⟩, hle⟩ hJ
    simp only at L5 h25 h35 hn hg hle
    obtain ⟨n, rfl⟩ : ∃ m, n = m + 1 := ⟨n - 1, by omega⟩
    obtain ⟨p5, hp5, hr5⟩ := L5.here
    simp (disch := first | omega | assumption) only [go_sem, ↓reduceIte]
    refine goK_ret (mayC (dp := 16 - k) hp5 hl0 hr5 [125] (by decide)) fun v H6 hm => ?_
    unfold MayP at hm
    simp only [membersM] at hg
    cases hx5 : mayM [125] t4 with
    | some t' =>
      rw [hx5] at hm hg
      obtain ⟨hv6, ha6⟩ := hm
      subst hv6
      have L6 := L5.call ha6
      obtain ⟨p6, hp6, hr6⟩ := L6.here
      have h26 : H6 b2 = some (.cells zC) := by rw [ha6.other n1]; exact h25
      have h36 := h35
      rw [← ha6.other n2] at h36
      obtain ⟨H7, hlow, hret⟩ := fin l t' o H6 L6 (by rw [eR, ← hg]; rfl) h26 p6 hp6 hr6
      simp only [rdc] at hr6
      simp only [zC] at h26
      simp (disch := first | omega | assumption) only [hr6, h26, h36, wrap64, e16, go_sem, ↓reduceIte]
      refine hQ _ _ _ H7 [.agg [.int .i64 7, .int .i64 0, .str [], .sl .nil 5 [], .sl o 6 (cMs l)]] nofun (by simp (disch := first | omega | assumption) only [ir102, resvs, resv, upd_same, go_sem, ↓reduceIte]) hlow hret
    | none =>
      rw [hx5] at hm hg
      obtain ⟨hv6, ha6⟩ := hm
      subst hv6
      have L6 := L5.call ha6
      obtain ⟨p6, hp6, hr6⟩ := L6.here
      have h26 : H6 b2 = some (.cells zC) := by rw [ha6.other n1]; exact h25
      have h36 := h35
      rw [← ha6.other n2] at h36
      simp (disch := first | omega | assumption) only [go_sem, ↓reduceIte]
      refine goK_both (mustC (dp := 16 - k) hp6 hl0 hr6 [44] (by decide)) (fun v H7 ⟨_, t7, e7, hv7, ha7⟩ => ?_) fun v H7 ⟨m, e7, hv7⟩ => hP v H7 H7 (Low.refl _) ⟨m, by rw [eR, ← hg]; rw [mustM_sk] at e7; simp only [RR.bind, e7], hv7⟩
      subst hv7
      rw [mustM_sk] at e7
      have L7 := L6.call ha7
      obtain ⟨p7, hp7, hr7⟩ := L7.here
      have h27 : H7 b2 = some (.cells zC) := by rw [ha7.other n1]; exact h26
      have h37 := h36
      rw [← ha7.other n2] at h37
      have hf7 := mustM_suf e7
      simp only [List.length_cons, List.length_nil] at hf7
      simp (disch := first | omega | assumption) only [h37, go_sem, ↓reduceIte]
      refine goK_both (memberC hv hp7 hl0 hr7 l o L7.own (by simp only [LimS]; omega)) (fun v H8 ⟨l8, t8, o8, p8, e8, hv8, hp8, hs8⟩ => ?_) fun v H8 ⟨m, e8, hv8⟩ => hP v H8 H8 (Low.refl _) ⟨m, by rw [eR, ← hg]; simp only [RR.bind, e7, e8], hv8⟩
      subst hv8
      have L8 := L7.mem hp8 hs8
      have hrr8 : ∀ c x, c ≠ r → H7 c = some (.cells x) → H8 c = some (.cells x) := fun c x hc h => own_keep (H := H7.upd r (rdc s p8 (16 - k))) (o := o) (n := l.length) (sz := 6) (own_upd L7.own hr7) (by rw [upd_ne hc]; exact h) hs8.kept
      have h28 := hrr8 b2 _ n1 h27
      have h38 := hrr8 b3 _ n2 h37
      have hf8 := memberM_fit (valM_fit k) e8
      have hone := memberM_one e8
      simp (disch := first | omega | assumption) only [h38, go_sem, ↓reduceIte]
      refine goJ (hJ (l8, t8, o8) _ (by show t8.length < t4.length; omega) ⟨L8.box hb3H h38, by rw [upd_ne (Ne.symm h23)]; exact h28, by simp only [upd_same], ⟨n, by show t8.length < n; omega, ?_⟩, by simp; omega⟩) (by simp (disch := first | omega | assumption) only [go_sem, ↓reduceIte])
      simp only [RR.bind, e7, e8] at hg; exact hg
end Go.Proofs.YtpjafglhdlfnbaaDoor
namespace Go.Proofs.YtpjafglhdlfnbaaDoor
open Go.Ab
def innM : Nat → List UInt8 → RR Val
  | 0 => deepM
  | n + 1 => valM n
theorem valM_head {k : Nat} {t : List UInt8} (h1 : (skB t).head? ≠ some 123) (h2 : (skB t).head? ≠ some 91) : valM k t = headM (skB t) (innM k) := by
  cases k with
  | zero => simp only [valM]; rw [if_neg (by simp [h1, h2])]; rfl
  | succ n => rfl
theorem cV_agg_strip (v : Val) : (AV.agg (cV v)).strip = .agg (cV v) := by
  simp only [AV.strip, cV_strip]
theorem valueC (k : Nat) (hk : k ≤ 16) (ih : ∀ n, k = n + 1 → ValC n) : ValC k := by
  intro H r s p t hs hl hr
  refine retStrip (ACalls.goO (R := fun v H' => RetP H r s (16 - k) (valM k t) (fun v => .agg (cV v)) v.strip H') (RP := fun v H' => PanP (valM k t) v H') ir76 ck76 (Nat.le_refl _) fun KP Q hQ hP => ?_)
  have L0 : LInv H r s (16 - k) H t .nil 0 5 := LInv.init hs hr
  have hl0 := hl
  simp only [LimS] at hl
  simp (disch := first | omega | assumption) only [ir76, go_sem, ↓reduceIte]
  refine goA_intro fun b2 hb2 => ?_
  simp (disch := first | omega | assumption) only [go_sem, ↓reduceIte]
  have hrb2 : r ≠ b2 := fun e => by subst e; rw [hb2] at hr; cases hr
  have n1 := Ne.symm hrb2
  have L1 := L0.new (x := .cells zC) hb2
  have fin : ∀ (v : Val) (t' : List UInt8) (H1 : Heap) (cs : List AV), LInv H r s (16 - k) H1 t' .nil 0 5 → valM k t = .ok (v, t') → H1 b2 = some (.cells zC) → (AV.agg cs).strip = .agg (cV v) →
      ∃ H2, Low H2 (H1.upd b2 (.cells cs)) ∧ RetP H r s (16 - k) (valM k t) (fun v => .agg (cV v)) (AV.agg cs).strip H2 := by
    intro v t' H1 cs L e1 h2 e2
    have L2 := L.box (b := b2) (cs := zC) (cs' := cs) hb2 h2
    obtain ⟨H2, h3, h4⟩ := L2.low
    exact ⟨H2, h3, _, _, e1, e2, h4⟩
  refine goK_ret (blanksC (dp := 16 - k) hs hl0 (by rw [upd_ne hrb2]; exact hr)) fun v H1 ⟨hv1, ha⟩ => ?_
  subst hv1
  have L2 := L1.call ha
  obtain ⟨p1, hp1, hr1⟩ := L2.here
  have h2 : H1 b2 = some (.cells zC) := by rw [ha.other n1, upd_same]
  have hlen : p1.length + (skB t).length = s.length := by rw [← hp1]; simp
  have hr1' := hr1
  simp only [rdc] at hr1'
  cases hu : skB t with
  | nil =>
    rw [hu] at hlen
    have h3 : ¬ ((p1.length : Int) < s.length) := by simp at hlen; omega
    simp (disch := first | omega | assumption) only [hr1', h3, go_sem, ↓reduceIte]
    have eW : valM k t = wordM (skB t) := by rw [valM_head (by rw [hu]; simp) (by rw [hu]; simp), hu]; rfl
    refine goK_ret (mayC (dp := 16 - k) hp1 hl0 hr1 [110, 117, 108, 108] (by decide)) fun v H3 hm => ?_
    unfold MayP at hm
    unfold wordM at eW
    cases hx : mayM [110, 117, 108, 108] (skB t) with
    | some t' =>
      rw [hx] at hm eW
      obtain ⟨hv3, ha3⟩ := hm
      subst hv3
      have L3 := L2.call ha3
      have h23 : H3 b2 = some (.cells zC) := by rw [ha3.other n1]; exact h2
      obtain ⟨H9, hlow, hret⟩ := fin nullV t' H3 zC L3 eW h23 rfl
      simp (disch := first | omega | assumption) only [h23, go_sem, ↓reduceIte]
      exact hQ _ _ _ H9 [.agg zC] nofun (by simp (disch := first | omega | assumption) only [ir76, resvs, resv, upd_same, go_sem, ↓reduceIte]) hlow hret
    | none =>
      rw [hx] at hm eW
      obtain ⟨hv3, ha3⟩ := hm
      subst hv3
      have L3 := L2.call ha3
      have h23 : H3 b2 = some (.cells zC) := by rw [ha3.other n1]; exact h2
      rw [skB_idem] at L3
      obtain ⟨p3, hp3, hr3⟩ := L3.here
      simp (disch := first | omega | assumption) only [go_sem, ↓reduceIte]
      refine goK_ret (mayC (dp := 16 - k) hp3 hl0 hr3 [116, 114, 117, 101] (by decide)) fun v H4 hm => ?_
      unfold MayP at hm
      cases hx4 : mayM [116, 114, 117, 101] (skB t) with
      | some t' =>
        rw [hx4] at hm eW
        obtain ⟨hv4, ha4⟩ := hm
        subst hv4
        have L4 := L3.call ha4
        have h24 : H4 b2 = some (.cells zC) := by rw [ha4.other n1]; exact h23
        obtain ⟨H9, hlow, hret⟩ := fin _ t' H4 [.int .i64 1, .int .i64 1, .str [], .sl .nil 5 [], .sl .nil 6 []] L4 eW h24 rfl
        simp (disch := first | omega | assumption) only [h24, go_sem, ↓reduceIte]
        exact hQ _ _ _ H9 [.agg [.int .i64 1, .int .i64 1, .str [], .sl .nil 5 [], .sl .nil 6 []]] nofun (by simp (disch := first | omega | assumption) only [ir76, resvs, resv, upd_same, go_sem, ↓reduceIte]) hlow hret
      | none =>
        rw [hx4] at hm eW
        obtain ⟨hv4, ha4⟩ := hm
        subst hv4
        have L4 := L3.call ha4
        have h24 : H4 b2 = some (.cells zC) := by rw [ha4.other n1]; exact h23
        rw [skB_idem] at L4
        obtain ⟨p4, hp4, hr4⟩ := L4.here
        simp (disch := first | omega | assumption) only [go_sem, ↓reduceIte]
        refine goK_both (mustC (dp := 16 - k) hp4 hl0 hr4 [102, 97, 108, 115, 101] (by decide)) (fun v H5 ⟨_, t5, e5, hv5, ha5⟩ => ?_) fun v H5 ⟨m, e5, hv5⟩ => hP v H5 H5 (Low.refl _) ⟨m, by rw [eW]; simp only [e5, RR.bind], hv5⟩
        subst hv5
        have L5 := L4.call ha5
        have h25 : H5 b2 = some (.cells zC) := by rw [ha5.other n1]; exact h24
        simp only [e5, RR.bind] at eW
        obtain ⟨H9, hlow, hret⟩ := fin _ t5 H5 [.int .i64 1, .int .i64 0, .str [], .sl .nil 5 [], .sl .nil 6 []] L5 eW h25 rfl
        simp (disch := first | omega | assumption) only [h25, go_sem, ↓reduceIte]
        exact hQ _ _ _ H9 [.agg [.int .i64 1, .int .i64 0, .str [], .sl .nil 5 [], .sl .nil 6 []]] nofun (by simp (disch := first | omega | assumption) only [ir76, resvs, resv, upd_same, go_sem, ↓reduceIte]) hlow hret
  | cons c u =>
    rw [hu] at hlen
    have h3 : ((p1.length : Int) < s.length) = True := eq_true (by simp at hlen; omega)
    have h4 : ((p1.length : Int) + 1 ≤ s.length) = True := eq_true (by simp at hlen; omega)
    have h5 : (p1.length : Int) ≤ (p1.length : Int) + 1 := by omega
    have h6 : ((p1.length : Int) + 1).toNat = p1.length + 1 := by omega
    have h7 : (s.take (p1.length + 1)).drop p1.length = [c] := by rw [← hp1, hu]; simp [List.take_append, List.drop_append]
    have brk : (c = 123 ∨ c = 91) → ([c] = [123] ∨ [c] = [91]) := fun h => by rcases h with rfl | rfl <;> simp
    by_cases c1 : c = 123 ∨ c = 91
    · -- a bracket
      have hopen : ∀ v H3, (16 - k = 16 ∧ v = stopV 4) → KP v H3 := fun v H3 ⟨e0, hv3⟩ => hP v H3 H3 (Low.refl _) ⟨4, by
        have : k = 0 := by omega
        subst this
        simp only [valM, hu, List.head?_cons]; rw [if_pos (by rcases c1 with rfl | rfl <;> simp)], hv3⟩
      have post : ∀ (H3 : Heap), 16 - k < 16 → H3 = H1.upd r (rdc s p1 (16 - k + 1)) → ∃ n, k = n + 1 ∧ (H3.upd r (rdc s (p1 ++ [c]) (16 - n))) r = some (rdc s (p1 ++ [c]) (16 - n)) ∧ LInv H r s (16 - n) (H3.upd r (rdc s (p1 ++ [c]) (16 - n))) u .nil 0 5 ∧ (H3.upd r (rdc s (p1 ++ [c]) (16 - n))) b2 = some (.cells zC) ∧ H3 r = some (.cells [.str s, .int .i64 (p1.length : Int), .int .i64 ((16 - n : Nat) : Int)]) := by
        intro H3 hd hH3
        obtain ⟨n, hn⟩ : ∃ n, k = n + 1 := ⟨k - 1, by omega⟩
        have e0 : 16 - k + 1 = 16 - n := by omega
        rw [e0] at hH3
        refine ⟨n, hn, upd_same .., ?_, by rw [upd_ne n1, hH3, upd_ne n1]; exact h2, by rw [hH3, upd_same]; rfl⟩
        have L3 := L2.call (t' := u) (dp' := 16 - n) (H2 := H1.upd r (rdc s (p1 ++ [c]) (16 - n))) ⟨p1 ++ [c], by rw [← hp1, hu]; simp, rfl⟩
        rw [hH3, upd_upd]; exact L3
      by_cases c2 : c = 123
      · have g1 : ([c] = [(123 : UInt8)]) = True := eq_true (by rw [c2])
        simp (disch := first | omega | assumption) only [hr1', h3, h4, h5, h6, h7, wrap64, g1, go_sem, ↓reduceIte]
        refine goK_both (openC (dp := 16 - k) (by omega) hr1) (fun v H3 ⟨hd, hv3, hH3⟩ => ?_) hopen
        subst hv3
        obtain ⟨n, hn, hr4, L4, h24, hr3⟩ := post H3 hd hH3
        have e8 : ((p1.length : Int) + 1) = ((p1 ++ [c]).length : Nat) := by simp
        simp (disch := first | omega | assumption) only [hr3, wrap64, e8, g1, go_sem, ↓reduceIte]
        have hat4 : (H3.upd r (rdc s (p1 ++ [c]) (16 - n))) = H3.upd r (.cells [.str s, .int .i64 (((p1 ++ [c]).length : Nat) : Int), .int .i64 ((16 - n : Nat) : Int)]) := rfl
        rw [← hat4]
        have eV : valM k t = mapM (valM n) u := by rw [hn, valM, hu, headM, if_pos c2]
        refine goK_both (mappedC (t := u) (p := p1 ++ [c]) (by omega) (ih n hn) (by rw [← hp1, hu]; simp) hl0 hr4) (fun v H5 ⟨x, t5, e5, hv5, ha5⟩ => ?_) fun v H5 ⟨m, e5, hv5⟩ => hP v H5 H5 (Low.refl _) ⟨m, by rw [eV]; exact e5, hv5⟩
        subst hv5
        rw [← hn] at ha5
        have L5 := L4.call ha5
        have h25 : H5 b2 = some (.cells zC) := by rw [ha5.other n1]; exact h24
        obtain ⟨H9, hlow, hret⟩ := fin x t5 H5 (cV x) L5 (by rw [eV]; exact e5) h25 (cV_agg_strip x)
        simp (disch := first | omega | assumption) only [h25, cV_len, cV_splice, go_sem, ↓reduceIte]
        exact hQ _ _ _ H9 [.agg (cV x)] nofun (by simp (disch := first | omega | assumption) only [ir76, resvs, resv, upd_same, cV_len, cV_take, go_sem, ↓reduceIte]) hlow hret
      · have c3 : c = 91 := c1.resolve_left c2
        have g1 : ([c] = [(123 : UInt8)]) = False := eq_false (by simpa using c2)
        have g2 : ([c] = [(91 : UInt8)]) = True := eq_true (by rw [c3])
        simp (disch := first | omega | assumption) only [hr1', h3, h4, h5, h6, h7, wrap64, g1, g2, go_sem, ↓reduceIte]
        refine goK_both (openC (dp := 16 - k) (by omega) hr1) (fun v H3 ⟨hd, hv3, hH3⟩ => ?_) hopen
        subst hv3
        obtain ⟨n, hn, hr4, L4, h24, hr3⟩ := post H3 hd hH3
        have e8 : ((p1.length : Int) + 1) = ((p1 ++ [c]).length : Nat) := by simp
        simp (disch := first | omega | assumption) only [hr3, wrap64, e8, g1, go_sem, ↓reduceIte]
        have hat4 : (H3.upd r (rdc s (p1 ++ [c]) (16 - n))) = H3.upd r (.cells [.str s, .int .i64 (((p1 ++ [c]).length : Nat) : Int), .int .i64 ((16 - n : Nat) : Int)]) := rfl
        rw [← hat4]
        have eV : valM k t = listM (valM n) u := by rw [hn, valM, hu, headM, if_neg c2, if_pos c3]
        refine goK_both (listC (t := u) (p := p1 ++ [c]) (by omega) (ih n hn) (by rw [← hp1, hu]; simp) hl0 hr4) (fun v H5 ⟨x, t5, e5, hv5, ha5⟩ => ?_) fun v H5 ⟨m, e5, hv5⟩ => hP v H5 H5 (Low.refl _) ⟨m, by rw [eV]; exact e5, hv5⟩
        subst hv5
        rw [← hn] at ha5
        have L5 := L4.call ha5
        have h25 : H5 b2 = some (.cells zC) := by rw [ha5.other n1]; exact h24
        obtain ⟨H9, hlow, hret⟩ := fin x t5 H5 (cV x) L5 (by rw [eV]; exact e5) h25 (cV_agg_strip x)
        simp (disch := first | omega | assumption) only [h25, cV_len, cV_splice, go_sem, ↓reduceIte]
        exact hQ _ _ _ H9 [.agg (cV x)] nofun (by simp (disch := first | omega | assumption) only [ir76, resvs, resv, upd_same, cV_len, cV_take, go_sem, ↓reduceIte]) hlow hret
    have c2 : c ≠ 123 := fun e => c1 (.inl e)
    have c3 : c ≠ 91 := fun e => c1 (.inr e)
    have g1 : ([c] = [(123 : UInt8)]) = False := eq_false (by simpa using c2)
    have g2 : ([c] = [(91 : UInt8)]) = False := eq_false (by simpa using c3)
    have eV : valM k t = headM (skB t) (innM k) := valM_head (by rw [hu]; simpa using c2) (by rw [hu]; simpa using c3)
    have eV2 : valM k t = if c = 34 then (textM (skB t)).bind fun s t => .ok (.mk 4 0 s [] [], t) else if nst c then numM (skB t) else wordM (skB t) := by rw [eV, hu, headM, if_neg c2, if_neg c3]
    by_cases c4 : c = 34
    · have g3 : ([c] = [(34 : UInt8)]) = True := eq_true (by rw [c4])
      rw [if_pos c4] at eV2
      simp (disch := first | omega | assumption) only [hr1', h3, h4, h5, h6, h7, wrap64, g1, g2, g3, go_sem, ↓reduceIte]
      refine goK_both (textC (dp := 16 - k) hp1 hl0 hr1) (fun v H5 ⟨x, t5, e5, hv5, ha5⟩ => ?_) fun v H5 ⟨m, e5, hv5⟩ => hP v H5 H5 (Low.refl _) ⟨m, by rw [eV2]; simp only [e5, RR.bind], hv5⟩
      subst hv5
      have L5 := L2.call ha5
      have h25 : H5 b2 = some (.cells zC) := by rw [ha5.other n1]; exact h2
      simp only [e5, RR.bind] at eV2
      obtain ⟨H9, hlow, hret⟩ := fin _ t5 H5 (cV (.mk 4 0 x [] [])) L5 eV2 h25 (cV_agg_strip _)
      simp (disch := first | omega | assumption) only [go_sem, ↓reduceIte]
      refine goK_pure (textP x) ?_
      simp (disch := first | omega | assumption) only [h25, cV_len, cV_splice, go_sem, ↓reduceIte]
      exact hQ _ _ _ H9 [.agg (cV (.mk 4 0 x [] []))] nofun (by simp (disch := first | omega | assumption) only [ir76, resvs, resv, upd_same, cV_len, cV_take, go_sem, ↓reduceIte]) hlow hret
    have g3 : ([c] = [(34 : UInt8)]) = False := eq_false (by simpa using c4)
    have g4 : ([c] = ([] : List UInt8)) = False := eq_false (by simp)
    rw [if_neg c4] at eV2
    simp (disch := first | omega | assumption) only [hr1', h3, h4, h5, h6, h7, wrap64, g1, g2, g3, g4, go_sem, ↓reduceIte]
    refine goK_pure (containsC1 [45, 48, 49, 50, 51, 52, 53, 54, 55, 56, 57] c) ?_
    by_cases c5 : 0 ≤ Lib.indexByte [45, 48, 49, 50, 51, 52, 53, 54, 55, 56, 57] c
    · rw [if_pos (show nst c = true by simp [nst, c5])] at eV2
      simp (disch := first | omega | assumption) only [c5, go_sem, ↓reduceIte]
      refine goK_both (numberV (dp := 16 - k) hp1 hl0 hr1) (fun v H5 ⟨x, t5, e5, hv5, ha5⟩ => ?_) fun v H5 ⟨m, e5, hv5⟩ => hP v H5 H5 (Low.refl _) ⟨m, by rw [eV2]; exact e5, hv5⟩
      subst hv5
      have L5 := L2.call ha5
      have h25 : H5 b2 = some (.cells zC) := by rw [ha5.other n1]; exact h2
      obtain ⟨H9, hlow, hret⟩ := fin x t5 H5 (cV x) L5 (by rw [eV2]; exact e5) h25 (cV_agg_strip x)
      simp (disch := first | omega | assumption) only [h25, cV_len, cV_splice, go_sem, ↓reduceIte]
      exact hQ _ _ _ H9 [.agg (cV x)] nofun (by simp (disch := first | omega | assumption) only [ir76, resvs, resv, upd_same, cV_len, cV_take, go_sem, ↓reduceIte]) hlow hret
    · rw [if_neg (show ¬ nst c = true by simp [nst, c5])] at eV2
      have eW := eV2
      simp (disch := first | omega | assumption) only [c5, go_sem, ↓reduceIte]
      refine goK_ret (mayC (dp := 16 - k) hp1 hl0 hr1 [110, 117, 108, 108] (by decide)) fun v H3 hm => ?_
      unfold MayP at hm
      unfold wordM at eW
      cases hx : mayM [110, 117, 108, 108] (skB t) with
      | some t' =>
        rw [hx] at hm eW
        obtain ⟨hv3, ha3⟩ := hm
        subst hv3
        have L3 := L2.call ha3
        have h23 : H3 b2 = some (.cells zC) := by rw [ha3.other n1]; exact h2
        obtain ⟨H9, hlow, hret⟩ := fin nullV t' H3 zC L3 eW h23 rfl
        simp (disch := first | omega | assumption) only [h23, go_sem, ↓reduceIte]
        exact hQ _ _ _ H9 [.agg zC] nofun (by simp (disch := first | omega | assumption) only [ir76, resvs, resv, upd_same, go_sem, ↓reduceIte]) hlow hret
      | none =>
        rw [hx] at hm eW
        obtain ⟨hv3, ha3⟩ := hm
        subst hv3
        have L3 := L2.call ha3
        have h23 : H3 b2 = some (.cells zC) := by rw [ha3.other n1]; exact h2
        rw [skB_idem] at L3
        obtain ⟨p3, hp3, hr3⟩ := L3.here
        simp (disch := first | omega | assumption) only [go_sem, ↓reduceIte]
        refine goK_ret (mayC (dp := 16 - k) hp3 hl0 hr3 [116, 114, 117, 101] (by decide)) fun v H4 hm => ?_
        unfold MayP at hm
        cases hx4 : mayM [116, 114, 117, 101] (skB t) with
        | some t' =>
          rw [hx4] at hm eW
          obtain ⟨hv4, ha4⟩ := hm
          subst hv4
          have L4 := L3.call ha4
          have h24 : H4 b2 = some (.cells zC) := by rw [ha4.other n1]; exact h23
          obtain ⟨H9, hlow, hret⟩ := fin _ t' H4 [.int .i64 1, .int .i64 1, .str [], .sl .nil 5 [], .sl .nil 6 []] L4 eW h24 rfl
          simp (disch := first | omega | assumption) only [h24, go_sem, ↓reduceIte]
          exact hQ _ _ _ H9 [.agg [.int .i64 1, .int .i64 1, .str [], .sl .nil 5 [], .sl .nil 6 []]] nofun (by simp (disch := first | omega | assumption) only [ir76, resvs, resv, upd_same, go_sem, ↓reduceIte]) hlow hret
        | none =>
          rw [hx4] at hm eW
          obtain ⟨hv4, ha4⟩ := hm
          subst hv4
          have L4 := L3.call ha4
          have h24 : H4 b2 = some (.cells zC) := by rw [ha4.other n1]; exact h23
          rw [skB_idem] at L4
          obtain ⟨p4, hp4, hr4⟩ := L4.here
          simp (disch := first | omega | assumption) only [go_sem, ↓reduceIte]
          refine goK_both (mustC (dp := 16 - k) hp4 hl0 hr4 [102, 97, 108, 115, 101] (by decide)) (fun v H5 ⟨_, t5, e5, hv5, ha5⟩ => ?_) fun v H5 ⟨m, e5, hv5⟩ => hP v H5 H5 (Low.refl _) ⟨m, by rw [eW]; simp only [e5, RR.bind], hv5⟩
          subst hv5
          have L5 := L4.call ha5
          have h25 : H5 b2 = some (.cells zC) := by rw [ha5.other n1]; exact h24
          simp only [e5, RR.bind] at eW
          obtain ⟨H9, hlow, hret⟩ := fin _ t5 H5 [.int .i64 1, .int .i64 0, .str [], .sl .nil 5 [], .sl .nil 6 []] L5 eW h25 rfl
          simp (disch := first | omega | assumption) only [h25, go_sem, ↓reduceIte]
          exact hQ _ _ _ H9 [.agg [.int .i64 1, .int .i64 0, .str [], .sl .nil 5 [], .sl .nil 6 []]] nofun (by simp (disch := first | omega | assumption) only [ir76, resvs, resv, upd_same, go_sem, ↓reduceIte]) hlow hret
theorem valueAll : ∀ k, k ≤ 16 → ValC k
  | 0, h => valueC 0 h fun n e => by cases e
  | k + 1, h => valueC (k + 1) h fun n e => by cases e; exact valueAll k (by omega)
end Go.Proofs.YtpjafglhdlfnbaaDoor
namespace Go.Proofs.YtpjafglhdlfnbaaDoor
open Go.Ab
def sp48 : ASp := ⟨33, 1, 4, (.reg [] [⟨some 2, none, .alloc [.int .i64 0, .int .i64 0, .str [], .sl .nil 5 [], .sl .nil 6 []], []⟩, ⟨some 3, none, .alloc [.int .i64 0], []⟩]), (.block 0 (.seq (.reg [] [⟨some 6, none, .mv (.t 0), []⟩, ⟨some 7, none, .lens (.t 6), []⟩, ⟨some 8, none, .bi .gtr .i64 (.t 7) (.k (.int .i64 8192)), []⟩, ⟨some 5, none, .mv (.t 8), []⟩])
 (.cond (.t 5) (.seq (.reg [] [⟨some 9, none, .bld [.int .i64 0, .int .i64 0, .str [], .sl .nil 5 [], .sl .nil 6 []] [], []⟩, ⟨none, none, .st 5 (.t 2) (.t 9), []⟩, ⟨none, none, .st 1 (.t 3) (.k (.int .i64 3)), []⟩])
 (.ret)) (.seq (.reg [] [⟨some 11, none, .mv (.t 0), []⟩, ⟨some 12, none, .call 46 [(.t 11)], []⟩, ⟨some 13, none, .not (.t 12), []⟩, ⟨some 10, none, .mv (.t 13), []⟩])
 (.cond (.t 10) (.seq (.reg [] [⟨some 14, none, .bld [.int .i64 0, .int .i64 0, .str [], .sl .nil 5 [], .sl .nil 6 []] [], []⟩, ⟨none, none, .st 5 (.t 2) (.t 14), []⟩, ⟨none, none, .st 1 (.t 3) (.k (.int .i64 2)), []⟩])
 (.ret)) (.skip)))))), [⟨some 15, none, .mkfn 75 [] [(.t 2), (.t 3)], []⟩], 15, (.seq (.reg [] [⟨some 16, none, .mv (.t 0), []⟩, ⟨some 17, none, .bld [.str [], .int .i64 0, .int .i64 0] [(0, 1, (.t 16))], []⟩, ⟨some 18, none, .box (.t 17), []⟩, ⟨some 4, none, .mv (.t 18), []⟩])
 (.seq (.reg [] [⟨some 19, none, .mv (.t 4), []⟩, ⟨some 20, none, .call 76 [(.t 19)], []⟩, ⟨none, none, .st 5 (.t 2) (.t 20), []⟩])
 (.seq (.reg [] [⟨some 21, none, .mv (.t 4), []⟩, ⟨some 22, none, .call 77 [(.t 21)], []⟩])
 (.seq (.seq (.reg [] [⟨some 23, none, .mv (.t 4), []⟩, ⟨some 24, none, .nilchk (.t 23), []⟩, ⟨some 25, none, .fa 1 (.t 24), []⟩, ⟨some 26, none, .ld 1 false (.t 25), []⟩, ⟨some 27, none, .mv (.t 0), []⟩, ⟨some 28, none, .lens (.t 27), []⟩, ⟨some 29, none, .bi .lss .i64 (.t 26) (.t 28), []⟩])
 (.cond (.t 29) (.reg [] [⟨some 30, none, .mv (.t 4), []⟩, ⟨some 31, none, .call 78 [(.t 30), (.k (.int .i64 2))], []⟩]) (.skip)))
 (.seq (.reg [] [⟨some 32, none, .ld 5 true (.t 2), []⟩, ⟨none, none, .st 5 (.t 2) (.t 32), []⟩, ⟨none, none, .st 1 (.t 3) (.k (.int .i64 0)), []⟩])
 (.ret)))))), [.c 2 5 true, .c 3 1 false]⟩
theorem ckS48 : chkSp Tryd.prog 48 sp48 = true := by kernel_rfl
def df75 : ADfn := ⟨18, 2, 5, [⟨some 2, none, .mv (.t 5), []⟩], (.seq (.reg [] [⟨some 7, none, .mv (.t 2), []⟩, ⟨some 8, none, .tas 109 (.agg [.int .i64 0]) (.t 7), []⟩, ⟨some 6, none, .mv (.t 8), []⟩, ⟨some 9, none, .ext (.t 6) 0, []⟩, ⟨some 10, none, .ext (.t 6) 1, []⟩, ⟨some 3, none, .alloc [.int .i64 0], []⟩, ⟨none, none, .st 1 (.t 3) (.t 9), []⟩, ⟨some 4, none, .mv (.t 10), []⟩])
 (.seq (.reg [] [⟨some 11, none, .mv (.t 4), []⟩])
 (.cond (.t 11) (.reg [0, 1, 2, 3, 4] [⟨some 12, none, .bld [.int .i64 0, .int .i64 0, .str [], .sl .nil 5 [], .sl .nil 6 []] [], []⟩, ⟨some 13, none, .fa 0 (.t 3), []⟩, ⟨some 14, none, .ld 1 false (.t 13), []⟩, ⟨none, none, .st 5 (.t 0) (.t 12), [2]⟩, ⟨none, none, .st 1 (.t 1) (.t 14), []⟩]) (.seq (.reg [] [⟨some 15, none, .mv (.t 2), []⟩, ⟨some 16, none, .ifnil true (.t 15), []⟩])
 (.cond (.t 16) (.reg [] [⟨some 17, none, .mv (.t 2), []⟩, ⟨none, none, .pan (.t 17), []⟩]) (.skip))))))⟩
theorem ckD75 : chkDfn Tryd.prog 75 df75 = true := by kernel_rfl
end Go.Proofs.YtpjafglhdlfnbaaDoor
namespace Go.Proofs.YtpjafglhdlfnbaaDoor
open Go.Ab
theorem items_go {P : Program} {KP : AV → Heap → Prop} {items : List AItem} {ρ : Env} {H : Heap} {K : Env → Heap → Prop} (h : ∀ Q : AExit → Env → Heap → Prop, (∀ ρ' H', K ρ' H' → Q .normal ρ' H') → goI P KP Q items items [] ρ H) : awpItems P KP (annot items) ρ H K :=
  h (fun e ρ H => match e with | .normal => K ρ H | _ => True) (fun _ _ h => h)
theorem awp_go {P : Program} {KP : AV → Heap → Prop} {c : AC} {ρ : Env} {H : Heap} {K : AExit → Env → Heap → Prop} (h : ∀ (KP' : AV → Heap → Prop) (Q : AExit → Env → Heap → Prop), (∀ v H', KP v H' → KP' v H') → (∀ e ρ' H', K e ρ' H' → Q e ρ' H') → goC P KP' Q c [] ρ H) : awp P KP c K ρ H :=
  h KP K (fun _ _ h => h) (fun _ _ _ h => h)
theorem failK (H : Heap) (r : Nat) (n : Int) : ACalls Tryd.prog 78 [.ptr r 0, .int .i64 n] H (fun e H' => match e with | .ret v => False | .pan v => v = stopV n ∧ H' = H) := by
  refine ACalls.goO (R := fun _ _ => False) (RP := fun v H' => v = stopV n ∧ H' = H) ir78 ck78 (Nat.le_refl _) fun KP Q hQ hP => ?_
  simp (disch := first | omega | assumption) only [ir78, go_sem, ↓reduceIte]
  exact hP _ _ H (Low.refl _) ⟨rfl, rfl⟩
theorem cV_splice2 (x : Val) : splice (cV x) 0 (cV x) = cV x := by cases x; rfl
theorem rec0 {H : Heap} {b2 b3 : Nat} {Q : Heap → Prop} (hq : ∀ b x, H b = none → Q (H.upd b x)) : ACallsD Tryd.prog 75 [.ptr b2 0, .ptr b3 0] none H Q := by
  refine ACallsD.of_fn df75 ckD75 (Nat.le_refl _) (items_go fun Q1 hQ1 => ?_)
  simp (disch := first | omega | assumption) only [df75, Option.getD_none, go_sem, ↓reduceIte]
  refine hQ1 _ _ (awp_go fun KP' Q2 hKP hQ2 => ?_)
  simp (disch := first | omega | assumption) only [df75, go_sem, ↓reduceIte]
  refine goA_intro fun b hb => ?_
  simp (disch := first | omega | assumption) only [go_sem, ↓reduceIte]
  exact hQ2 _ _ _ (hq _ _ hb)
theorem rec1 {H : Heap} {b2 b3 : Nat} {c2 c3 : List AV} {n : Int} {Q : Heap → Prop} (h2 : H b2 = some (.cells c2)) (l2 : c2.length = 5) (h3 : H b3 = some (.cells c3)) (l3 : c3.length = 1) (hne : b3 ≠ b2)
    (hq : ∀ b x, H b = none → Q (((H.upd b x).upd b2 (.cells zC)).upd b3 (.cells [.int .i64 n]))) : ACallsD Tryd.prog 75 [.ptr b2 0, .ptr b3 0] (some (stopV n)) H Q := by
  refine ACallsD.of_fn df75 ckD75 (Nat.le_refl _) (items_go fun Q1 hQ1 => ?_)
  simp (disch := first | omega | assumption) only [df75, Option.getD_some, stopV, go_sem, ↓reduceIte]
  refine hQ1 _ _ (awp_go fun KP' Q2 hKP hQ2 => ?_)
  simp (disch := first | omega | assumption) only [df75, go_sem, ↓reduceIte]
  refine goA_intro fun b hb => ?_
  have n1 : b2 ≠ b := fun e => by subst e; rw [hb] at h2; cases h2
  have n2 : b3 ≠ b := fun e => by subst e; rw [hb] at h3; cases h3
  simp (disch := first | omega | assumption) only [h2, h3, n1, n2, hne, l2, l3, go_sem, ↓reduceIte]
  have e2 : splice c2 0 [.int .i64 0, .int .i64 0, .str [], .sl .nil 5 [], .sl .nil 6 []] = zC := by
    unfold splice; simp only [List.take_zero, List.nil_append, List.length_cons, List.length_nil]; rw [List.drop_eq_nil_of_le (by rw [l2]; decide), List.append_nil]
  have e3 : splice c3 0 [.int .i64 n] = [.int .i64 n] := by
    unfold splice; simp only [List.take_zero, List.nil_append, List.length_cons, List.length_nil]; rw [List.drop_eq_nil_of_le (by rw [l3]; decide), List.append_nil]
  rw [e2, e3]
  exact hQ2 _ _ _ (hq _ _ hb)
def readA (s : List UInt8) : AV := .tup [.agg (cV (readM s).1), .int .i64 (readM s).2]
theorem strip2 (c2 : List AV) (e : Int) : (tupOf [.agg c2, .int .i64 e]).strip = .tup [.agg (c2.map AV.strip1), .int .i64 e] := rfl
theorem res_read {ρ : Env} {H : Heap} {b2 b3 : Nat} {c2 : List AV} {e : Int} (r2 : ρ 2 = .ptr b2 0) (r3 : ρ 3 = .ptr b3 0) (h2 : H b2 = some (.cells c2)) (l2 : c2.length = 5) (h3 : H b3 = some (.cells [.int .i64 e])) :
    resvs ρ H sp48.res = some [.agg c2, .int .i64 e] := by
  have t2 : c2.take 5 = c2 := List.take_of_length_le (by omega)
  have l3 : 5 ≤ c2.length := by omega
  simp (disch := first | omega | assumption) only [sp48, resvs, resv, r2, r3, h2, h3, l2, t2, go_sem, ↓reduceIte]
theorem union_one {b : Nat} {x y : AObj} {B : Heap} (hb : B b = none) : Heap.union ((Heap.one b x).upd b y) B = B.upd b y := by
  funext c
  by_cases e : c = b
  · subst e; simp [Heap.union, Heap.upd]
  · simp [Heap.union, Heap.upd, Heap.one, e]
theorem union_one0 {b : Nat} {x : AObj} {B : Heap} (hb : B b = none) : Heap.union (Heap.one b x) B = B.upd b x := by
  funext c
  by_cases e : c = b
  · subst e; simp [Heap.union, Heap.upd, Heap.one]
  · simp [Heap.union, Heap.upd, Heap.one, e]
theorem low_union {A B : Heap} (hd : Heap.Disj A B) : Low B (Heap.union A B) := Low.of_sub fun c x hc => by
  rcases hd c with h | h
  · simp [Heap.union, h, hc]
  · rw [hc] at h; cases h
abbrev readQ (s : List UInt8) : AEnd → Heap → Prop := fun e H' => match e with | .ret v => (v.strip = readA s ∧ H' = Heap.emp) | .pan _ => False
theorem readS (s : List UInt8) (hl : s.length ≤ LimS) : ACalls Tryd.prog 48 [.str s] Heap.emp (readQ s) := by
  refine ACalls.of_sp sp48 ckS48 (Nat.le_refl _) ?_
  unfold awpD
  refine awp_go fun KP Q hKP hQ => ?_
  have hl0 := hl
  simp only [LimS] at hl
  simp (disch := first | omega | assumption) only [sp48, go_sem, ↓reduceIte]
  refine goA_intro fun b2 hb2 => ?_
  simp (disch := first | omega | assumption) only [go_sem, ↓reduceIte]
  refine goA_intro fun b3 hb3 => ?_
  simp (disch := first | omega | assumption) only [go_sem, ↓reduceIte]
  refine hQ _ _ _ (awp_go fun KP1 Q1 hKP1 hQ1 => ?_)
  have h32 : b3 ≠ b2 := fun e => by subst e; rw [upd_same] at hb3; cases hb3
  by_cases h1 : 8192 < s.length
  · have h1' : ((8192 : Int) < s.length) = True := eq_true (by omega)
    simp (disch := first | omega | assumption) only [sp48, h1', h32, Ne.symm h32, go_sem, ↓reduceIte]
    refine hQ1 _ _ _ ?_
    have e0 : readM s = (nullV, 3) := by unfold readM; rw [if_pos h1]
    show finQ sp48.res (readQ s) .ret _ _
    simp only [finQ]
    rw [res_read (b2 := b2) (b3 := b3) (c2 := zC) (e := 3) rfl rfl (by rw [upd_ne (Ne.symm h32), upd_same]) rfl (upd_same ..)]
    exact ⟨Heap.emp, Low.of_sub (sub_emp _), by rw [strip2, readA, e0]; rfl, rfl⟩
  · have h1' : ¬ ((8192 : Int) < s.length) := by omega
    simp (disch := first | omega | assumption) only [sp48, h1', go_sem, ↓reduceIte]
    refine goK_pure (goodC s (by simp only [Lim]; omega)) ?_
    cases hv : Lib.validD s
    · simp (disch := first | omega | assumption) only [h32, Ne.symm h32, go_sem, ↓reduceIte]
      refine hQ1 _ _ _ ?_
      have e0 : readM s = (nullV, 2) := by unfold readM; rw [if_neg h1, hv]; rfl
      show finQ sp48.res (readQ s) .ret _ _
      simp only [finQ]
      rw [res_read (b2 := b2) (b3 := b3) (c2 := zC) (e := 2) rfl rfl (by rw [upd_ne (Ne.symm h32), upd_same]) rfl (upd_same ..)]
      exact ⟨Heap.emp, Low.of_sub (sub_emp _), by rw [strip2, readA, e0]; rfl, rfl⟩
    · have e0 : readM s = match valM 16 s with
          | .error e => (nullV, e)
          | .ok (v, t) => if skB t = [] then (v, 0) else (nullV, 2) := by unfold readM; rw [if_neg h1, hv]; rfl
      simp (disch := first | omega | assumption) only [go_sem, ↓reduceIte]
      refine hQ1 _ _ _ (items_go fun Q2 hQ2 => ?_)
      simp (disch := first | omega | assumption) only [sp48, go_sem, ↓reduceIte]
      refine hQ2 _ _ ⟨75, _, rfl, by decide +kernel, awp_go fun KP3 Q3 hKP3 hQ3 => ?_⟩
      have fin : ∀ (ρ1 : Env) (H : Heap) (c2 : List AV) (e : Int), ρ1 2 = .ptr b2 0 → ρ1 3 = .ptr b3 0 → H b2 = some (.cells c2) → c2.length = 5 → H b3 = some (.cells [.int .i64 e]) → AV.tup [.agg (c2.map AV.strip1), .int .i64 e] = readA s → finS sp48 (readQ s) ρ1 H := by
        intro ρ1 H c2 e r2 r3 g2 l2 g3 er
        refine ⟨_, res_read (b2 := b2) (b3 := b3) (c2 := c2) (e := e) ?_ ?_ g2 l2 g3, Heap.emp, Low.of_sub (sub_emp _), by rw [strip2]; exact er, rfl⟩
        · rw [keep_get, if_pos (by decide)]; exact r2
        · rw [keep_get, if_pos (by decide)]; exact r3
      have hpan : ∀ (n : Int) (H0 H' : Heap) (c2 : List AV) (c3 : List AV), Low H0 H' → H0 b2 = some (.cells c2) → c2.length = 5 → H0 b3 = some (.cells c3) → c3.length = 1 → readM s = (nullV, n) → KP3 (stopV n) H' := by
        intro n H0 H' c2 c3 hlow g2 l2 g3 l3 er
        refine hKP3 _ _ ⟨H0, hlow, rec1 g2 l2 g3 l3 h32 fun b x hb => fin _ _ zC n rfl rfl (by rw [upd_ne (Ne.symm h32), upd_same]) rfl (upd_same ..) (by rw [readA, er]; rfl)⟩
      have hb3e : Heap.emp b3 = none := rfl
      simp (disch := first | omega | assumption) only [sp48, go_sem, ↓reduceIte]
      refine goA_intro fun b4 hb4 => ?_
      have h43 : b4 ≠ b3 := fun e => by subst e; rw [upd_same] at hb4; cases hb4
      have h42 : b4 ≠ b2 := fun e => by subst e; rw [upd_ne (Ne.symm h32), upd_same] at hb4; cases hb4
      simp (disch := first | omega | assumption) only [go_sem, ↓reduceIte]
      have hd : Heap.Disj (Heap.one b4 (rdc s [] (16 - 16))) ((Heap.emp.upd b2 (.cells zC)).upd b3 (.cells [.int .i64 0])) := fun c => by
        by_cases e : c = b4
        · subst e; exact .inr hb4
        · exact .inl (by simp [Heap.one, e])
      have hc := ACalls.frame hd (valueAll 16 (by decide) (Heap.one b4 (rdc s [] (16 - 16))) b4 s [] s rfl hl0 (by simp [Heap.one]))
      rw [union_one0 hb4] at hc
      refine goK_calls hc fun e H' ⟨A', hq, hd', hH'⟩ => ?_
      subst hH'
      cases e with
      | pan v =>
        obtain ⟨n, e1, hv⟩ := hq
        subst hv
        rw [e1] at e0
        exact hpan n _ _ zC _ (low_union hd') (by rw [upd_ne (Ne.symm h32), upd_same]) rfl (upd_same ..) rfl e0
      | ret v =>
        obtain ⟨x, t', e1, hv, p', hp', hA⟩ := hq
        subst hv; subst hA
        rw [e1] at e0
        simp only at e0
        rw [union_one hb4]
        show goR _ _ _ _ _ _ _ _ _
        simp (disch := first | omega | assumption) only [h32, Ne.symm h32, h43, Ne.symm h43, h42, Ne.symm h42, cV_len, cV_splice, go_sem, ↓reduceIte]
        refine goK_ret (blanksC (dp := 16 - 16) hp' hl (by rw [upd_ne h42, upd_same])) fun v5 H5 ⟨hv5, ha5⟩ => ?_
        subst hv5
        obtain ⟨p5, hp5, hH5⟩ := ha5
        have g4 : H5 b4 = some (.cells [.str s, .int .i64 (p5.length : Int), .int .i64 ((16 - 16 : Nat) : Int)]) := by rw [hH5, upd_same]; rfl
        have g2 : H5 b2 = some (.cells (cV x)) := by rw [hH5, upd_ne (Ne.symm h42), upd_same]
        have g3 : H5 b3 = some (.cells [.int .i64 0]) := by rw [hH5, upd_ne (Ne.symm h43), upd_ne h32, upd_ne (Ne.symm h43), upd_same]
        have hlen : p5.length + (skB t').length = s.length := by rw [← hp5]; simp
        clear hH5
        cases hk : skB t' with
        | nil =>
          rw [hk] at hlen e0
          have hlt : ¬ ((p5.length : Int) < s.length) := by simp at hlen; omega
          simp (disch := first | omega | assumption) only [g4, g2, g3, hlt, h32, Ne.symm h32, cV_len, cV_take, cV_splice, go_sem, ↓reduceIte]
          refine hQ3 _ _ _ ⟨_, Low.refl _, rec0 fun b y hb => ?_⟩
          have n2 : b2 ≠ b := fun e => by subst e; rw [upd_ne (Ne.symm h32), upd_same] at hb; cases hb
          have n3 : b3 ≠ b := fun e => by subst e; rw [upd_same] at hb; cases hb
          exact fin _ _ (cV x) 0 rfl rfl (by rw [upd_ne n2, upd_ne (Ne.symm h32), upd_same, cV_splice2]) (cV_len x) (by rw [upd_ne n3, upd_same]) (by rw [readA, e0, cV_strip]; rfl)
        | cons c r =>
          rw [hk] at hlen e0
          have hlt : ((p5.length : Int) < s.length) = True := eq_true (by simp at hlen; omega)
          simp (disch := first | omega | assumption) only [g4, hlt, go_sem, ↓reduceIte]
          exact goK_both (failK _ b4 2) (fun _ _ h => h.elim) fun v H6 ⟨h6, h7⟩ => by
            subst h6; subst h7
            exact hpan 2 _ _ (cV x) _ (Low.refl _) g2 (cV_len x) g3 rfl (by rw [e0]; rfl)
end Go.Proofs.YtpjafglhdlfnbaaDoor
namespace Go.Proofs.YtpjafglhdlfnbaaDoor
open Go.Lib
end Go.Proofs.YtpjafglhdlfnbaaDoor
namespace Go.Proofs.YtpjafglhdlfnbaaDoor
open Go.Ab Go.Lib
end Go.Proofs.YtpjafglhdlfnbaaDoor
namespace Go.Proofs.YtpjafglhdlfnbaaDoor
open Go.Ab Go.Lib
theorem getD_app {a b : List UInt8} {i : Nat} (h : i < a.length) : (a ++ b).getD i 0 = a.getD i 0 := by
  simp [List.getD, List.getElem?_append_left h]
theorem getD_at (a : List UInt8) (c : UInt8) (b : List UInt8) : (a ++ c :: b).getD a.length 0 = c := by simp
theorem check_some {n b1 b2 b3 sz lo hi k : Nat} (h : checkN n b1 b2 b3 sz lo hi = some k) :
    2 ≤ k ∧ k ≤ 4 ∧ k ≤ n ∧ k = sz ∧ lo ≤ b1 ∧ (3 ≤ k → 128 ≤ b2) ∧ (4 ≤ k → 128 ≤ b3) ∧ ∀ n' c2 c3, k ≤ n' → (3 ≤ k → c2 = b2) → (4 ≤ k → c3 = b3) → checkN n' b1 c2 c3 sz lo hi = some k := by
  unfold checkN at h
  split at h
  · rename_i hs
    split at h
    · cases h
    · rename_i hc
      cases h
      refine ⟨by omega, by omega, by omega, hs.symm, by omega, by omega, by omega, fun n' c2 c3 h1 _ _ => ?_⟩
      unfold checkN; rw [if_pos hs, if_neg (by omega)]
  · rename_i hs2
    split at h
    · rename_i hs
      split at h
      · cases h
      · rename_i hc
        cases h
        refine ⟨by omega, by omega, by omega, hs.symm, by omega, by omega, by omega, fun n' c2 c3 h1 h2 _ => ?_⟩
        have := h2 (by omega)
        unfold checkN; rw [if_neg hs2, if_pos hs, if_neg (by omega)]
    · rename_i hs3
      split at h
      · rename_i hs
        split at h
        · cases h
        · rename_i hc
          cases h
          refine ⟨by omega, by omega, by omega, hs.symm, by omega, by omega, by omega, fun n' c2 c3 h1 h2 h3 => ?_⟩
          have := h2 (by omega)
          have := h3 (by omega)
          unfold checkN; rw [if_neg hs2, if_neg hs3, if_pos hs, if_neg (by omega)]
      · cases h
theorem lo_T : ∀ x : Fin 256, 2 ≤ firstT x.val % 8 → firstT x.val % 8 ≤ 4 → 128 ≤ accLo (firstT x.val / 16) := by decide +kernel
theorem lo_ge {b : Nat} (h : b < 256) (h1 : 2 ≤ firstT b % 8) (h2 : firstT b % 8 ≤ 4) : 128 ≤ accLo (firstT b / 16) := lo_T ⟨b, h⟩ h1 h2
theorem validD_app : ∀ (n : Nat) (a b : List UInt8), a.length ≤ n → validD a = true → validD (a ++ b) = validD b
  | n, [], b, _, _ => by simp
  | 0, x :: t, b, h, _ => by simp at h
  | n + 1, x :: t, b, h, hv => by
    by_cases hx : x.toNat < 128
    · rw [validD_cons x t hx] at hv
      rw [List.cons_append, validD_cons x _ hx]
      exact validD_app n t b (by simpa using h) hv
    · have h0 : 128 ≤ ((x :: t).getD 0 0).toNat := by simp; omega
      rw [validD_lead (x :: t) (by simp) h0] at hv
      split at hv
      · cases hv
      · rename_i k hk
        obtain ⟨k2, k4, kl, ks, klo, _, _, kall⟩ := check_some hk
        have hkl : k ≤ (x :: t).length := kl
        have e1 : ((x :: t ++ b).getD 1 0) = (x :: t).getD 1 0 := getD_app (by omega)
        have e0 : ((x :: t ++ b).getD 0 0) = (x :: t).getD 0 0 := getD_app (by omega)
        rw [validD_lead (x :: t ++ b) (by simp) (by rw [e0]; exact h0), e0, e1]
        rw [kall (x :: t ++ b).length _ _ (by simp only [List.length_append]; omega) (fun h3 => by rw [getD_app (by omega)]) (fun h3 => by rw [getD_app (by omega)])]
        simp only
        rw [List.drop_append_of_le_length hkl]
        exact validD_app n _ b (by rw [List.length_drop]; omega) hv
theorem validA {a b : List UInt8} (h : validD a = true) : validD (a ++ b) = validD b := validD_app a.length a b (Nat.le_refl _) h
theorem validA2 {a b : List UInt8} (h : validD a = true) (h' : validD b = true) : validD (a ++ b) = true := (validA h).trans h'
theorem validD_split (c : UInt8) (hc : c.toNat < 128) : ∀ (n : Nat) (a b : List UInt8), a.length ≤ n → validD (a ++ c :: b) = true → validD a = true ∧ validD b = true
  | n, [], b, _, hv => by
    rw [List.nil_append, validD_cons c b hc] at hv
    exact ⟨validD_nil, hv⟩
  | 0, x :: t, b, h, _ => by simp at h
  | n + 1, x :: t, b, h, hv => by
    by_cases hx : x.toNat < 128
    · rw [List.cons_append, validD_cons x _ hx] at hv
      rw [validD_cons x t hx]
      exact validD_split c hc n t b (by simpa using h) hv
    · have h0 : 128 ≤ ((x :: t ++ c :: b).getD 0 0).toNat := by simp; omega
      have e0 : ((x :: t ++ c :: b).getD 0 0) = (x :: t).getD 0 0 := getD_app (by simp)
      have ec : ((x :: t ++ c :: b).getD (x :: t).length 0) = c := getD_at ..
      rw [validD_lead (x :: t ++ c :: b) (by simp) h0] at hv
      split at hv
      · cases hv
      · rename_i k hk
        obtain ⟨k2, k4, kl, ks, klo, k3, k4', kall⟩ := check_some hk
        have hlo := lo_ge ((x :: t ++ c :: b).getD 0 0).toNat_lt (by omega) (by omega)
        have hkl : k ≤ (x :: t).length := by
          rcases Nat.lt_or_ge (x :: t).length k with h1 | h1
          · exfalso
            have hl : (x :: t).length = 1 ∨ (x :: t).length = 2 ∨ (x :: t).length = 3 := by simp only [List.length_cons] at h1 ⊢; omega
            rcases hl with e | e | e
            · rw [e] at ec h1; rw [ec] at klo; omega
            · rw [e] at ec h1; rw [ec] at k3; have := k3 (by omega); omega
            · rw [e] at ec h1; rw [ec] at k4'; have := k4' (by omega); omega
          · exact h1
        have e1 : ((x :: t ++ c :: b).getD 1 0) = (x :: t).getD 1 0 := getD_app (by omega)
        rw [List.drop_append_of_le_length hkl] at hv
        obtain ⟨g1, g2⟩ := validD_split c hc n _ b (by rw [List.length_drop]; omega) hv
        refine ⟨?_, g2⟩
        rw [validD_lead (x :: t) (by simp) (by rw [← e0]; exact h0), ← e0, ← e1]
        rw [kall (x :: t).length _ _ hkl (fun h3 => by rw [getD_app (by omega)]) (fun h3 => by rw [getD_app (by omega)])]
        exact g1
theorem validS {c : UInt8} (hc : c.toNat < 128) {a b : List UInt8} (hv : validD (a ++ c :: b) = true) : validD a = true ∧ validD b = true := validD_split c hc a.length a b (Nat.le_refl _) hv
theorem ofN {n : Nat} (h : n < 256) : (UInt8.ofNat n).toNat = n := by rw [UInt8.toNat_ofNat']; omega
theorem enc_valid {n : Nat} (h1 : n ≤ 1114111) (h2 : ¬ (55296 ≤ n ∧ n ≤ 57343)) : validD (encM n) = true := by
  unfold encM
  split
  · rename_i h
    rw [validD_cons _ _ (by rw [ofN (by omega)]; omega)]; rfl
  · split
    · rename_i h0 h
      rw [validD_lead _ (by simp) (by simp only [List.getD_cons_zero]; rw [ofN (by omega)]; omega)]
      simp only [List.getD_cons_zero, List.getD_cons_succ, List.getD_nil, List.length_cons, List.length_nil]
      rw [ofN (show 192 + n / 64 < 256 by omega), ofN (show 128 + n % 64 < 256 by omega)]
      have e : firstT (192 + n / 64) = 2 := by unfold firstT; rw [if_neg (by omega), if_neg (by omega), if_pos (by omega)]
      rw [e]
      have e2 : checkN (0 + 1 + 1) (128 + n % 64) (0 : UInt8).toNat (0 : UInt8).toNat (2 % 8) (accLo (2 / 16)) (accHi (2 / 16)) = some 2 := by
        unfold checkN accLo accHi; simp; omega
      rw [e2]; rfl
    · split
      · rename_i h0 h1' h
        rw [validD_lead _ (by simp) (by simp only [List.getD_cons_zero]; rw [ofN (by omega)]; omega)]
        simp only [List.getD_cons_zero, List.getD_cons_succ, List.getD_nil, List.length_cons, List.length_nil]
        rw [ofN (show 224 + n / 4096 < 256 by omega), ofN (show 128 + n / 64 % 64 < 256 by omega), ofN (show 128 + n % 64 < 256 by omega)]
        have e2 : checkN (0 + 1 + 1 + 1) (128 + n / 64 % 64) (128 + n % 64) (0 : UInt8).toNat (firstT (224 + n / 4096) % 8) (accLo (firstT (224 + n / 4096) / 16)) (accHi (firstT (224 + n / 4096) / 16)) = some 3 := by
          have c : n / 4096 = 0 ∨ (1 ≤ n / 4096 ∧ n / 4096 < 13) ∨ n / 4096 = 13 ∨ (14 ≤ n / 4096 ∧ n / 4096 < 16) := by omega
          rcases c with c | c | c | c
          · rw [c]; unfold checkN; simp [firstT, accLo, accHi]; omega
          · have e : firstT (224 + n / 4096) = 3 := by unfold firstT; rw [if_neg (by omega), if_neg (by omega), if_neg (by omega), if_neg (by omega), if_pos (by omega)]
            rw [e]; unfold checkN; simp [accLo, accHi]; omega
          · rw [c]; unfold checkN; simp [firstT, accLo, accHi]; omega
          · have e : firstT (224 + n / 4096) = 3 := by unfold firstT; rw [if_neg (by omega), if_neg (by omega), if_neg (by omega), if_neg (by omega), if_neg (by omega), if_neg (by omega), if_pos (by omega)]
            rw [e]; unfold checkN; simp [accLo, accHi]; omega
        rw [e2]; rfl
      · rename_i h0 h1' h
        rw [validD_lead _ (by simp) (by simp only [List.getD_cons_zero]; rw [ofN (by omega)]; omega)]
        simp only [List.getD_cons_zero, List.getD_cons_succ, List.getD_nil, List.length_cons, List.length_nil]
        rw [ofN (show 240 + n / 262144 < 256 by omega), ofN (show 128 + n / 4096 % 64 < 256 by omega), ofN (show 128 + n / 64 % 64 < 256 by omega), ofN (show 128 + n % 64 < 256 by omega)]
        have e2 : checkN (0 + 1 + 1 + 1 + 1) (128 + n / 4096 % 64) (128 + n / 64 % 64) (128 + n % 64) (firstT (240 + n / 262144) % 8) (accLo (firstT (240 + n / 262144) / 16)) (accHi (firstT (240 + n / 262144) / 16)) = some 4 := by
          have c : n / 262144 = 0 ∨ (1 ≤ n / 262144 ∧ n / 262144 < 4) ∨ n / 262144 = 4 := by omega
          rcases c with c | c | c
          · rw [c]; unfold checkN; simp [firstT, accLo, accHi]; omega
          · have e : firstT (240 + n / 262144) = 4 := by unfold firstT; rw [if_neg (by omega), if_neg (by omega), if_neg (by omega), if_neg (by omega), if_neg (by omega), if_neg (by omega), if_neg (by omega), if_neg (by omega), if_pos (by omega)]
            rw [e]; unfold checkN; simp [accLo, accHi]; omega
          · rw [c]; unfold checkN; simp [firstT, accLo, accHi]; omega
        rw [e2]; rfl
theorem join_valid : ∀ (u : List Nat) (s : List UInt8), joinM u = some s → validD s = true
  | [], s, h => by cases h; rfl
  | u :: [], s, h => by
    simp only [joinM] at h
    split at h
    · cases h
    · rename_i h1
      split at h
      · cases h
      · simp only [Option.map_some, Option.some.injEq] at h
        subst h
        rw [List.append_nil]
        exact enc_valid (by omega) (by omega)
  | u :: v :: r, s, h => by
    rw [joinM] at h
    split at h
    · cases h
    · rename_i h1
      split at h
      · rename_i h2
        split at h
        · cases h
        · rename_i h3
          cases hr : joinM r with
          | none => simp [hr] at h
          | some x =>
            simp only [hr, Option.map_some, Option.some.injEq] at h
            subst h
            exact validA2 (enc_valid (by omega) (by omega)) (join_valid r x hr)
      · rename_i h2
        cases hr : joinM (v :: r) with
        | none => simp [hr] at h
        | some x =>
          simp only [hr, Option.map_some, Option.some.injEq] at h
          subst h
          exact validA2 (enc_valid (by omega) (by omega)) (join_valid (v :: r) x hr)
end Go.Proofs.YtpjafglhdlfnbaaDoor
namespace Go.Proofs.YtpjafglhdlfnbaaDoor
open Go.Ab
mutual
def singV : Val → Bool
  | .mk k _ _ l m => !(decide (k = 5) || decide (k = 8)) && (singVs l && singMs [] m)
def singVs : List Val → Bool
  | [] => true
  | v :: r => singV v && singVs r
def singM : Mem → Bool
  | .mk _ v => singV v
def singMs : List (List UInt8) → List Mem → Bool
  | _, [] => true
  | ns, x :: r => !(ns.contains (nmM x)) && (singM x && singMs (ns ++ [nmM x]) r)
def nmM : Mem → List UInt8
  | .mk s _ => s
end
def rightV (v : Val) : Bool := goodV v && singV v
end Go.Proofs.YtpjafglhdlfnbaaDoor
namespace Go.Proofs.YtpjafglhdlfnbaaDoor
open Go.Ab
end Go.Proofs.YtpjafglhdlfnbaaDoor
namespace Go.Proofs.YtpjafglhdlfnbaaDoor
open Go.Ab
end Go.Proofs.YtpjafglhdlfnbaaDoor
namespace Go.Proofs.YtpjafglhdlfnbaaDoor
open Go.Ab Go.Lib
structure SdOk (q : Sd) (acc : List UInt8) : Prop where
  ok : q.ok = true
  small : ∀ u ∈ q.u, u < 128
  eq : acc = q.b ++ q.u.map UInt8.ofNat
theorem join_small : ∀ u : List Nat, (∀ x ∈ u, x < 128) → joinM u = some (u.map UInt8.ofNat)
  | [], _ => rfl
  | u :: r, h => by
    have h1 := h u (.head _)
    have h2 := join_small r fun x hx => h x (.tail _ hx)
    have e : encM u = [UInt8.ofNat u] := by unfold encM; rw [if_pos (by omega)]
    cases r with
    | nil => simp only [joinM]; rw [if_neg (by omega), if_neg (by omega), e]; rfl
    | cons v r => rw [joinM, if_neg (by omega), if_neg (by omega), h2, e]; rfl
theorem SdOk.flush {q : Sd} {acc : List UInt8} (h : SdOk q acc) : flushM q = ⟨acc, [], true⟩ := by
  unfold flushM; rw [join_small _ h.small, h.ok, h.eq]; rfl
theorem SdOk.put {q : Sd} {acc : List UInt8} (h : SdOk q acc) (c : UInt8) : SdOk (q.put c) (acc ++ [c]) := by
  unfold Sd.put; rw [h.flush]; exact ⟨rfl, by simp, by simp⟩
theorem SdOk.unit {q : Sd} {acc : List UInt8} (h : SdOk q acc) {u : Nat} (hu : u < 128) : SdOk ⟨q.b, q.u ++ [u], q.ok⟩ (acc ++ [UInt8.ofNat u]) :=
  ⟨h.ok, fun x hx => by rcases List.mem_append.1 hx with e | e; exact h.small x e; simp at e; omega, by rw [h.eq]; simp⟩
end Go.Proofs.YtpjafglhdlfnbaaDoor
namespace Go.Proofs.YtpjafglhdlfnbaaDoor
open Go.Ab Go.Lib
end Go.Proofs.YtpjafglhdlfnbaaDoor
namespace Go.Proofs.YtpjafglhdlfnbaaDoor
open Go.Ab Go.Lib
structure SInv' (q : Sd) (t : List UInt8) : Prop where
  none : q.u = [] → validD (q.b ++ t) = true
  some : q.u ≠ [] → validD q.b = true ∧ validD t = true
theorem flush_b {q : Sd} (h : validD q.b = true) : validD (flushM q).b = true := by
  unfold flushM
  cases hj : joinM q.u with
  | none => simpa using h
  | some s => exact validA2 h (join_valid _ _ hj)
theorem flush_nil {q : Sd} (h : q.u = []) : (flushM q).b = q.b := by unfold flushM; rw [h]; simp [joinM]
theorem SInv'.low {q : Sd} {c : UInt8} {t : List UInt8} (h : SInv' q (c :: t)) (hc : c.toNat < 128) : validD q.b = true ∧ validD t = true := by
  by_cases hu : q.u = []
  · exact validS hc (h.none hu)
  · obtain ⟨h1, h2⟩ := h.some hu
    rw [validD_cons c t hc] at h2
    exact ⟨h1, h2⟩
theorem SInv'.put {q : Sd} {c : UInt8} {t : List UInt8} (h : SInv' q (c :: t)) : SInv' (q.put c) t := by
  refine ⟨fun _ => ?_, fun e => absurd rfl e⟩
  show validD (((flushM q).b ++ [c]) ++ t) = true
  rw [List.append_assoc]
  by_cases hu : q.u = []
  · rw [flush_nil hu]; exact h.none hu
  · obtain ⟨h1, h2⟩ := h.some hu
    exact validA2 (flush_b h1) h2
def LR (n : Int) (l : List Val) : Prop := ∀ v ∈ l, rightV v = true ∧ depthV v ≤ n
theorem LR.all {n : Int} : ∀ {l : List Val}, LR n l → allVs validD l = true ∧ singVs l = true
  | [], _ => ⟨rfl, rfl⟩
  | v :: l, h => by
    have h1 := LR.all (l := l) fun x hx => h x (.tail _ hx)
    have h2 := (h v (.head _)).1
    simp only [rightV, goodV, Bool.and_eq_true] at h2
    simp [allVs, singVs, h1.1, h1.2, h2.1, h2.2]
end Go.Proofs.YtpjafglhdlfnbaaDoor
namespace Go.Proofs.YtpjafglhdlfnbaaDoor
open Go.Ab Go.Lib
theorem readC (s : List UInt8) (hl : s.length ≤ LimS) : Pure Tryd.prog 48 [.str s] (.tup [.agg (cV (readM s).1), .int .i64 (readM s).2]) := by
  refine ACalls.strip ((readS s hl).mono fun e H' hq => ?_)
  cases e with
  | ret v => exact ⟨by rw [hq.1]; rfl, hq.2⟩
  | pan v => exact hq.elim
theorem readM_size (s : List UInt8) : bV (readM s).1 ≤ 2 * s.length + 1 := by
  unfold readM
  split
  · simp [nullV, bV, bVs, bMs]
  split
  · simp [nullV, bV, bVs, bMs]
  split
  · simp [nullV, bV, bVs, bMs]
  · rename_i v t ht
    split
    · have := (valM_fit 16 s v t ht).1.sz
      simp only; omega
    · simp [nullV, bV, bVs, bMs]
end Go.Proofs.YtpjafglhdlfnbaaDoor
namespace Go.Proofs.YtpjafglhdlfnbaaDoor
open Go.Ab Go.Lib
open Go.ChangeShapes Go.WideShapes Go.ChangeAt Go.RowKit Go.WideElems
mutual
theorem bulk_eq {H : Type} : ∀ d : DataW H, Rows.uptoBulk d = blk d
  | .lit (.string _) => rfl
  | .lit (.bool _) => rfl
  | .lit (.int _ _) => rfl
  | .lit (.float _ _) => rfl
  | .lit .nil => rfl
  | .nil => rfl
  | .ptr d => by simp only [Rows.uptoBulk, blk, bulk_eq d]
  | .slice e s => by simp only [Rows.uptoBulk, blk, bulkAll_eq e, bulkAll_eq s]
  | .agg e => by simp only [Rows.uptoBulk, blk, bulkAll_eq e]
  | .iface _ d => by simp only [Rows.uptoBulk, blk, bulk_eq d]
  | .map e => by simp only [Rows.uptoBulk, blk, bulkEs_eq e]
  | .held _ => rfl
theorem bulkAll_eq {H : Type} : ∀ d : List (DataW H), Rows.uptoBulkAll d = blkAll d
  | [] => rfl
  | d :: r => by simp only [Rows.uptoBulkAll, blkAll, bulk_eq d, bulkAll_eq r]
theorem bulkEs_eq {H : Type} : ∀ d : List (Lit × DataW H), Rows.uptoBulkEntries d = blkEs d
  | [] => rfl
  | x :: r => by simp only [Rows.uptoBulkEntries, blkEs, bulkE_eq x, bulkEs_eq r]
theorem bulkE_eq {H : Type} : ∀ d : Lit × DataW H, Rows.uptoBulkEntry d = blkE d
  | (.string _, d) => by simp only [Rows.uptoBulkEntry, blkE, bulk_eq d]
  | (.bool _, d) => by simp only [Rows.uptoBulkEntry, blkE, bulk_eq d]
  | (.int _ _, d) => by simp only [Rows.uptoBulkEntry, blkE, bulk_eq d]
  | (.float _ _, d) => by simp only [Rows.uptoBulkEntry, blkE, bulk_eq d]
  | (.nil, d) => by simp only [Rows.uptoBulkEntry, blkE, bulk_eq d]
end
def EntryOk (W : World) (g : Nat) (ps : List (Value → Prop)) : Prop :=
  (∃ (arr : Array Value) (E : TypeId) (fr : Nat × Nat), W.heap[g]? = some (.cells arr E fr) ∧ arr.size = ps.length) ∧ ∀ (j : Nat) (p : Value → Prop), ps[j]? = some p → ∃ v, CellIs immG W g j v ∧ p v
theorem entry_of_var {W : World} {n : String} {g : Nat} {cs : Array Value} {ps : List (Value → Prop)} (hg : Tryd.prog.globalNamed n = some g) (hv : W.var? Tryd.prog n = some cs) (hl : cs.size = ps.length)
    (h : ∀ (j : Nat) (p : Value → Prop) v, ps[j]? = some p → cs[j]? = some v → v.oneCell' = true ∧ p v) : EntryOk W g ps := by
  refine ⟨?_, fun j p hp => ?_⟩
  · have h1 := hv
    simp only [World.var?, hg, Option.bind_some] at h1
    split at h1
    · rename_i c t fr he
      cases h1
      exact ⟨_, _, _, he, hl⟩
    · cases h1
  · have hj : j < cs.size := by
      have := (List.getElem?_eq_some_iff.1 hp).1
      omega
    have h1 := h j p cs[j] hp (Array.getElem?_eq_getElem hj)
    refine ⟨cs[j], ⟨?_, trivial, h1.1⟩, h1.2⟩
    rw [World.var?_cell hg hv j, Array.getElem?_eq_getElem hj]
theorem entry_ints {W : World} {n : String} {g cnt : Nat} {t e : TypeId} {k : IntKind} {zs : List Nat} (hg : Tryd.prog.globalNamed n = some g) (hty : (Tryd.prog.globals[g]?).map (·.type) = some t) (ht : Tryd.prog.underlying t = some (.array cnt e)) (he : Tryd.prog.underlying e = some (.int k)) (hce : Tryd.prog.cellsOf e = 1) (hct : Tryd.prog.cellsOf t = cnt)
    (h : VarReads Tryd.prog W n (tabData k (zs.map fun (z : Nat) => (z : Int)))) : EntryOk W g (zs.map fun (z : Nat) (v : Value) => v = .int k z) := by
  obtain ⟨g', t', cs, fuel, p, hg', ht', hvar, hd⟩ := h
  obtain rfl := Option.some.inj (hg.symm.trans hg')
  obtain rfl := Option.some.inj (hty.symm.trans ht')
  have hcs := cells_of_tab ht he hce hct hd
  refine entry_of_var hg hvar (by rw [← Array.length_toList, hcs]; simp) fun j p v hp hj => ?_
  rw [← Array.getElem?_toList, hcs] at hj
  simp only [List.getElem?_map, Option.map_eq_some_iff] at hp hj
  obtain ⟨z, hz, rfl⟩ := hp
  obtain ⟨y, ⟨z', hz', rfl⟩, rfl⟩ := hj
  rw [hz] at hz'
  cases hz'
  exact ⟨rfl, rfl⟩
theorem u8x : U8Extra Tryd.prog Tryd.lays196_ren := ⟨by kernel_rfl, by kernel_rfl, by kernel_rfl, by kernel_rfl, by kernel_rfl, by kernel_rfl, by kernel_rfl⟩
theorem acc_at2 : ∀ c : Fin 32, accZ[c.val]? = some (if c.val % 2 = 0 then Lib.accLo (c.val / 2) else Lib.accHi (c.val / 2)) := by decide +kernel
theorem entry_accept {W : World} (h1 : VarReads Tryd.prog W "unicode/utf8.first" firstData) (h2 : VarReads Tryd.prog W "unicode/utf8.acceptRanges" acceptData) : EntryOk W 1 (accZ.map fun (n : Nat) (v : Value) => v = .int .u8 n) := by
  have ht := utf8Tabs_of_readsT (U8Types.of196 Tryd.lays196) u8x h1 h2
  obtain ⟨g', t', cs, fuel, p, hg', ht', hvar, hd⟩ := h2
  obtain rfl := Option.some.inj ((show Tryd.prog.globalNamed "unicode/utf8.acceptRanges" = some 1 by kernel_rfl).symm.trans hg')
  obtain rfl := Option.some.inj (u8x.y4.symm.trans ht')
  have hcs : cs.size = 32 := by
    have h3 : fuel ≠ 0 := fun e => by subst e; simp [DataW.trod] at hd
    obtain ⟨fuel, rfl⟩ := Nat.exists_eq_succ_of_ne_zero h3
    have h4 : cs.toList.length = Tryd.prog.cellsOf (Tryd.lays196_ren.t 139) := by
      have hu := (U8Types.of196 Tryd.lays196).t139
      simp only [DataW.trod, hu, u8x.c138] at hd
      split at hd
      · rename_i hl; simpa using hl
      · cases hd
    rw [← Array.length_toList, h4]; exact (show Tryd.prog.cellsOf (Tryd.lays196_ren.t 139) = 32 by kernel_rfl)
  refine entry_of_var hg' hvar (by rw [hcs]; rfl) fun j p v hp hj => ?_
  have hj32 : j < 32 := by rw [← hcs]; exact (Array.getElem?_eq_some_iff.1 hj).1
  simp only [List.getElem?_map, Option.map_eq_some_iff] at hp
  obtain ⟨z, hz, rfl⟩ := hp
  rw [acc_at2 ⟨j, hj32⟩] at hz
  cases hz
  have ⟨a1, a2⟩ := ht.2 (j / 2) (by omega)
  rcases Nat.mod_two_eq_zero_or_one j with e | e
  · have e2 : 2 * (j / 2) = j := by omega
    rw [e2] at a1
    have h5 := (World.var?_cell hg' hvar j).symm.trans a1
    rw [hj] at h5
    cases h5
    simp [e, Value.oneCell']
  · have e2 : 2 * (j / 2) + 1 = j := by omega
    rw [e2] at a2
    have h5 := (World.var?_cell hg' hvar j).symm.trans a2
    rw [hj] at h5
    cases h5
    simp [e, Value.oneCell']
theorem entry_err {W : World} {n : String} {g : Nat} {t : TypeId} {s : String} {d : DataW Unit} (hg : Tryd.prog.globalNamed n = some g) (hty : (Tryd.prog.globals[g]?).map (·.type) = some t) {ms : Array (String × TypeId)} (hu : Tryd.prog.underlying t = some (.interface ms)) (h : VarReads Tryd.prog W n (.iface s d)) : EntryOk W g [fun v => ∃ te pe, v = .iface te pe] := by
  obtain ⟨g', t', cs, fuel, p, hg', ht', hvar, hd⟩ := h
  obtain rfl := Option.some.inj (hg.symm.trans hg')
  obtain rfl := Option.some.inj (hty.symm.trans ht')
  have h1 : ∃ te pe, cs.toList = [.iface te pe] := by
    cases fuel with
    | zero => simp [DataW.trod] at hd
    | succ fuel =>
      simp only [DataW.trod, hu] at hd
      split at hd
      all_goals first
        | (cases hd; done)
        | skip
      all_goals simp_all
      done
  obtain ⟨te, pe, he⟩ := h1
  refine entry_of_var hg hvar (by rw [← Array.length_toList, he]; rfl) fun j p v hp hj => ?_
  rw [← Array.getElem?_toList, he] at hj
  match j, hp, hj with
  | 0, hp, hj => cases hp; cases hj; exact ⟨rfl, _, _, rfl⟩
  | j + 1, hp, hj => simp at hp
theorem entry_int {W : World} (hS : W.ShapedOpen Tryd.prog) {g : Nat} {z : Array Value} {t : TypeId} {k : IntKind} (hg : g < Tryd.prog.globals.size) (h0 : (((begin Tryd.prog (fun _ _ => 0) default).world.heap[g]?).bind Obj.row?) = some (z, t)) (hz : z.size = 1) (hb : Tryd.prog.buildable t = true)
    (hts : Tryd.prog.cellTypes Tryd.prog.depth t = some [t]) (ht : Tryd.prog.underlying t = some (.int k)) : EntryOk W g [fun v => ∃ m, v = .int k m] := by
  obtain ⟨cs, h1, h2, h3⟩ := hS.1 g z t hg h0
  have hsz : cs.size = 1 := by rw [h2, hz]
  obtain ⟨ts, hts', _, hall⟩ := h3 hb
  rw [hts] at hts'
  cases hts'
  have h4 : cs[0]? = some cs[0] := Array.getElem?_eq_getElem (by omega)
  obtain ⟨u, hu, hc⟩ := hall 0 cs[0] h4
  cases hu
  have h5 : ∃ m, cs[0] = .int k m := by
    unfold Cell.ok at hc
    rw [ht] at hc
    generalize cs[0] = v at hc
    cases v <;> first | exact hc.elim | (obtain ⟨rfl, _⟩ := hc; exact ⟨_, rfl⟩)
  obtain ⟨m, hm⟩ := h5
  refine ⟨⟨cs, t, _, h1, hsz⟩, fun j p hp => ?_⟩
  match j, hp with
  | 0, hp =>
    cases hp
    refine ⟨.int k m, ⟨?_, trivial, rfl⟩, m, rfl⟩
    unfold World.cell?
    simp only [h1, h4, hm]
    simp
  | j + 1, hp => simp at hp
abbrev T64 : List Nat := [1, 10, 100, 1000, 10000, 100000, 1000000, 10000000, 100000000, 1000000000, 10000000000, 100000000000, 1000000000000, 10000000000000, 100000000000000, 1000000000000000, 10000000000000000, 100000000000000000, 1000000000000000000, 10000000000000000000]
abbrev B32 : List Nat := [0, 1, 28, 2, 29, 14, 24, 3, 30, 22, 20, 15, 25, 17, 4, 8, 31, 27, 13, 23, 21, 19, 16, 7, 26, 12, 18, 6, 11, 5, 10, 9]
abbrev B64 : List Nat := [0, 1, 56, 2, 57, 49, 28, 3, 61, 58, 42, 50, 38, 29, 17, 4, 62, 47, 59, 36, 45, 43, 51, 22, 53, 39, 33, 30, 24, 18, 12, 5, 63, 55, 48, 27, 60, 41, 37, 16, 46, 35, 44, 21, 52, 32, 23, 11, 54, 26, 40, 15, 34, 20, 31, 10, 25, 14, 19, 9, 13, 8, 7, 6]
abbrev laidL : List (String × DataW Unit) := [("math/bits.deBruijn32tab", Rows.laid_math_bits_deBruijn32tab), ("math/bits.deBruijn64tab", Rows.laid_math_bits_deBruijn64tab), ("internal/strconv.uint64pow10", Rows.laid_internal_strconv_uint64pow10), ("unicode/utf8.acceptRanges", Rows.laid_unicode_utf8_acceptRanges), ("strconv.ErrRange", Rows.laid_strconv_ErrRange), ("strconv.ErrSyntax", Rows.laid_strconv_ErrSyntax), ("unicode/utf8.first", Rows.laid_unicode_utf8_first)]
theorem tabs_ok {W : World} (hL : laidMetH Tryd.prog laidL W) (hS : W.ShapedOpen Tryd.prog) : TabOk immG W := by
  have hL' : laidMet Tryd.prog laidL W := hL
  have m1 : VarReads Tryd.prog W "unicode/utf8.first" (tabData .u8 (Go.Pinned.utf8FirstZ.map fun (z : Nat) => (z : Int))) := laidMet.reads hL' (d := Rows.laid_unicode_utf8_first) (.tail _ (.tail _ (.tail _ (.tail _ (.tail _ (.tail _ (.head _)))))))
  have m2 : VarReads Tryd.prog W "unicode/utf8.acceptRanges" acceptData := laidMet.reads hL' (d := Rows.laid_unicode_utf8_acceptRanges) (.tail _ (.tail _ (.tail _ (.head _))))
  have m3 : VarReads Tryd.prog W "internal/strconv.uint64pow10" (tabData .u64 (T64.map fun (z : Nat) => (z : Int))) := laidMet.reads hL' (d := Rows.laid_internal_strconv_uint64pow10) (.tail _ (.tail _ (.head _)))
  have m4 : VarReads Tryd.prog W "math/bits.deBruijn32tab" (tabData .u8 (B32.map fun (z : Nat) => (z : Int))) := laidMet.reads hL' (d := Rows.laid_math_bits_deBruijn32tab) (.head _)
  have m5 : VarReads Tryd.prog W "math/bits.deBruijn64tab" (tabData .u8 (B64.map fun (z : Nat) => (z : Int))) := laidMet.reads hL' (d := Rows.laid_math_bits_deBruijn64tab) (.tail _ (.head _))
  have m6 : VarReads Tryd.prog W "strconv.ErrSyntax" Rows.laid_strconv_ErrSyntax := laidMet.reads hL' (.tail _ (.tail _ (.tail _ (.tail _ (.tail _ (.head _))))))
  have m7 : VarReads Tryd.prog W "strconv.ErrRange" Rows.laid_strconv_ErrRange := laidMet.reads hL' (.tail _ (.tail _ (.tail _ (.tail _ (.head _)))))
  have m8 : firstData = tabData .u8 (Go.Pinned.utf8FirstZ.map fun (z : Nat) => (z : Int)) := by kernel_rfl
  have e1 : EntryOk W 0 (Go.Pinned.utf8FirstZ.map fun (n : Nat) (v : Value) => v = .int .u8 n) :=
    entry_ints (t := Tryd.lays196_ren.t 119) u8x.n3 u8x.y3 (U8Types.of196 Tryd.lays196).t119 (U8Types.of196 Tryd.lays196).t5 u8x.c5 u8x.c119 m1
  have e2 : EntryOk W 1 (accZ.map fun (n : Nat) (v : Value) => v = .int .u8 n) := entry_accept (m8 ▸ m1) m2
  have e3 : EntryOk W 2 (T64.map fun (n : Nat) (v : Value) => v = .int .u64 n) :=
    entry_ints (t := 166) (e := 146) (cnt := 20) (by kernel_rfl) (by kernel_rfl) (by kernel_rfl) (by kernel_rfl) (by kernel_rfl) (by kernel_rfl) m3
  have e4 : EntryOk W 4 (B32.map fun (n : Nat) (v : Value) => v = .int .u8 n) :=
    entry_ints (t := 185) (e := 5) (cnt := 32) (by kernel_rfl) (by kernel_rfl) (by kernel_rfl) (by kernel_rfl) (by kernel_rfl) (by kernel_rfl) m4
  have e5 : EntryOk W 5 (B64.map fun (n : Nat) (v : Value) => v = .int .u8 n) :=
    entry_ints (t := 186) (e := 5) (cnt := 64) (by kernel_rfl) (by kernel_rfl) (by kernel_rfl) (by kernel_rfl) (by kernel_rfl) (by kernel_rfl) m5
  have e6 : EntryOk W 6 [fun v => ∃ te pe, v = .iface te pe] := entry_err (t := 161) (by kernel_rfl) (by kernel_rfl) Tryd.underlying161 m6
  have e7 : EntryOk W 7 [fun v => ∃ te pe, v = .iface te pe] := entry_err (t := 161) (by kernel_rfl) (by kernel_rfl) Tryd.underlying161 m7
  have e8 : EntryOk W 3 [fun v => ∃ m, v = .int .i64 m] := entry_int hS (z := #[.int .i64 0]) (t := 3) (of_decide_eq_true (by kernel_rfl)) (by kernel_rfl) rfl (by kernel_rfl) (by kernel_rfl) (by kernel_rfl)
  intro x hx
  unfold tabL at hx
  simp only [List.mem_cons, List.not_mem_nil, or_false] at hx
  rcases hx with rfl | rfl | rfl | rfl | rfl | rfl | rfl | rfl <;> first | exact e1 | exact e2 | exact e3 | exact e4 | exact e5 | exact e6 | exact e7 | exact e8
noncomputable abbrev N0 : Nat := (World.settled Tryd.prog default).heap.size
noncomputable def laidWorld (os : Os) : World :=
  let w0 := World.holding Tryd.prog os ⟨#[.cells #[.string ⟨#[105, 110, 118, 97, 108, 105, 100, 32, 115, 121, 110, 116, 97, 120]⟩] 195, .cells #[.string ⟨#[118, 97, 108, 117, 101, 32, 111, 117, 116, 32, 111, 102, 32, 114, 97, 110, 103, 101]⟩] 195], #[], []⟩
  let put (h : Array Obj) (g : Nat) (cs : Array Value) : Array Obj := h.modify g fun
    | .cells _ t frozen => .cells cs t frozen
    | o => o
  let h1 := put w0.heap 0 (Go.Pinned.utf8FirstZ.map fun (z : Nat) => Value.int .u8 z).toArray
  let h2 := put h1 1 (accZ.map fun (z : Nat) => Value.int .u8 z).toArray
  let h3 := put h2 2 (T64.map fun (z : Nat) => Value.int .u64 z).toArray
  let h4 := put h3 4 (B32.map fun (z : Nat) => Value.int .u8 z).toArray
  let h5 := put h4 5 (B64.map fun (z : Nat) => Value.int .u8 z).toArray
  let h6 := put h5 6 #[.iface 193 (.pointer (some ⟨(World.settled Tryd.prog os).heap.size, 0, none⟩))]
  let h7 := put h6 7 #[.iface 193 (.pointer (some ⟨(World.settled Tryd.prog os).heap.size + 1, 0, none⟩))]
  { w0 with heap := h7 }
theorem laid_met (os : Os) (args : Array Value) : laidMet Tryd.prog laidL ((laidWorld os).forCall (fun _ _ => 0) ⟨#[], args, []⟩).memory :=
  (LaidIn.of_run (l := laidL) [0, 1, 2, 3, 4, 5, 6, 7, N0, N0 + 1] 8 (by kernel_rfl) (by kernel_rfl) (by kernel_rfl) (by kernel_rfl)).met
end Go.Proofs.YtpjafglhdlfnbaaDoor
namespace Go.Proofs.YtpjafglhdlfnbaaDoor
open Go.Ab Go.Lib
open Go.ChangeShapes Go.WideShapes Go.ChangeAt Go.RowKit Go.WideElems
theorem own : ownKnob Tryd.prog.godebug = none := by kernel_rfl
theorem laidOut : laidOutB Tryd.prog = true := by kernel_rfl
theorem bVs_sum : ∀ l, bVs l = (l.map bV).sum
  | [] => rfl
  | v :: r => by simp [bVs, bVs_sum r]
theorem bMs_sum : ∀ l, bMs l = (l.map bM).sum
  | [] => rfl
  | v :: r => by simp [bMs, bMs_sum r]
theorem wfVs_all : ∀ {l : List Val}, (∀ v ∈ l, wfV v) → wfVs l
  | [], _ => trivial
  | v :: r, h => ⟨h v (.head _), wfVs_all fun x hx => h x (.tail _ hx)⟩
theorem wfMs_all : ∀ {l : List Mem}, (∀ v ∈ l, wfM v) → wfMs l
  | [], _ => trivial
  | v :: r, h => ⟨h v (.head _), wfMs_all fun x hx => h x (.tail _ hx)⟩
theorem inR_wf {n : Int} (h : (Lit.int .i64 n).wf = true) : inR n := by
  simp [Lit.wf, IntKind.has, IntKind.min, IntKind.max, IntKind.signed, IntKind.bits] at h
  unfold inR
  omega
abbrev DV (m : Nat) : Prop := DecB Tryd.prog m 26 5 cV wfV bV
abbrev DM (m : Nat) : Prop := DecB Tryd.prog m 70 6 cM wfM bM
theorem decVs {m : Nat} (h : DV m) : DecB Tryd.prog (m + 1) 24 1 (fun l : List Val => [.sl .no 5 (cVs l)]) (fun l => wfVs l) (fun l => bVs l + 1) := by
  intro H enc W cs d ps h1 h2
  obtain ⟨a, h3, h4, h5, h6⟩ := DecB.slice (t := 24) Tryd.underlying24 (B := 80) (sz := 5) (by kernel_rfl) (by kernel_rfl) (by decide) h enc W cs d ps h1 h2
  exact ⟨a, wfVs_all h3.2.2, by simp only [bVs_sum]; exact h4, h5, by simp only [cVs_map]; exact h6⟩
theorem decMs {m : Nat} (h : DM m) : DecB Tryd.prog (m + 1) 22 1 (fun l : List Mem => [.sl .no 6 (cMs l)]) (fun l => wfMs l) (fun l => bMs l + 1) := by
  intro H enc W cs d ps h1 h2
  obtain ⟨a, h3, h4, h5, h6⟩ := DecB.slice (t := 22) Tryd.underlying22 (B := 96) (sz := 6) (by kernel_rfl) (by kernel_rfl) (by decide) h enc W cs d ps h1 h2
  exact ⟨a, wfMs_all h3.2.2, by simp only [bMs_sum]; exact h4, h5, by simp only [cMs_map]; exact h6⟩
theorem dec : ∀ m, DV m ∧ DM m := by
  intro m
  induction m using Nat.strongRecOn with
  | _ m ih =>
    have hs : ∀ {k}, k ≤ m → DecB Tryd.prog k 24 1 (fun l : List Val => [.sl .no 5 (cVs l)]) (fun l => wfVs l) (fun l => bVs l + 1) := fun {k} hk => by
      cases k with
      | zero => exact DecB.zero
      | succ k => exact decVs (ih k (by omega)).1
    have hm : ∀ {k}, k ≤ m → DecB Tryd.prog k 22 1 (fun l : List Mem => [.sl .no 6 (cMs l)]) (fun l => wfMs l) (fun l => bMs l + 1) := fun {k} hk => by
      cases k with
      | zero => exact DecB.zero
      | succ k => exact decMs (ih k (by omega)).2
    refine ⟨?_, ?_⟩
    · cases m with
      | zero => exact DecB.zero
      | succ k =>
        exact DecB.struct (DecFsB.cons (by kernel_rfl) (DecB.int (k := .i64) Tryd.underlying3) (DecFsB.cons (by kernel_rfl) (DecB.int (k := .i64) Tryd.underlying2) (DecFsB.cons (by kernel_rfl) (DecB.str Tryd.underlying9) (DecFsB.cons (by kernel_rfl) (hs (by omega)) (DecFsB.cons (by kernel_rfl) (hm (by omega)) DecFsB.nil)))))
          (by kernel_rfl) (by kernel_rfl) cV wfV bV (fun x => .mk x.1 x.2.1 x.2.2.1 x.2.2.2.1 x.2.2.2.2.1) (fun a => rfl) (fun a h => ⟨inR_wf h.2.1, h.2.2.2.1, h.2.2.2.2.1⟩) (fun a => by simp only [bV]; omega)
    · cases m with
      | zero => exact DecB.zero
      | succ k =>
        exact DecB.struct (DecFsB.cons (by kernel_rfl) (DecB.str Tryd.underlying9) (DecFsB.cons (by kernel_rfl) (ih k (by omega)).1 DecFsB.nil))
          (by kernel_rfl) (by kernel_rfl) cM wfM bM (fun x => .mk x.1 x.2.1) (fun a => by simp [cM]) (fun a h => h.2.1) (fun a => by simp only [bM]; omega)
theorem decVA (m : Nat) : DV m := (dec m).1
theorem decMsA : ∀ m, DecB Tryd.prog m 22 1 (fun l : List Mem => [.sl .no 6 (cMs l)]) (fun l => wfMs l) (fun l => bMs l + 1)
  | 0 => DecB.zero
  | m + 1 => decMs (dec m).2
theorem agg_of {W : World} {r : Reach} {b : Nat} {t : TypeId} {fs : Array Field} {v : Value} (ht : Tryd.prog.underlying t = some (.struct fs)) (h : Value.okWide Tryd.prog W r b t v) : ∃ cs, v = .agg cs := by
  unfold Value.okWide at h
  rw [ht] at h
  obtain ⟨cs, h, _⟩ := h
  exact ⟨cs, h⟩
theorem cond_bulk {H : Type} {s : ChangeSpec} {ds : List (DataW H)} (h : ∀ k, (Rows.OpenSpec.upto s).cond = some k → k H ds = true) : blkAll ds ≤ 1048576 := by
  have h1 : Rows.uptoSmall H ds = true := h _ rfl
  have h2 := of_decide_eq_true h1
  rwa [bulkAll_eq] at h2
end Go.Proofs.YtpjafglhdlfnbaaDoor
