/- Texts joined: Ir Crew CrewB CrewP CrewL. -/
import Derived.Test.YthkpgjnibolnhaaRows
import Derived.Test.YthkpgjnibolnhaaM1
import Derived.Test.YthkpgjnibolnhaaM2
set_option maxRecDepth 100000
set_option linter.unusedSimpArgs false
set_option linter.unusedVariables false
namespace Go.Proofs.Ythkpgjnibolnhaa
open Go.Ab
def ir11 : AFn := ⟨164, 2, [.t 4], .seq (.reg [] [⟨some 4, none, .mv (.k (.bool false)), []⟩])
 (.seq (.seq (.reg [] [⟨some 17, none, .mv (.t 1), []⟩, ⟨some 18, none, .len (.t 17), []⟩, ⟨some 19, none, .bi .gtr .i64 (.t 18) (.k (.int .i64 80)), []⟩])
 (.cond (.t 19) (.seq (.reg [] [⟨some 20, none, .call 22 [], []⟩, ⟨some 4, none, .mv (.t 20), []⟩])
 (.ret)) (.skip)))
 (.seq (.reg [] [⟨some 21, none, .mv (.t 0), []⟩, ⟨some 22, none, .call 39 [(.t 21)], []⟩, ⟨some 5, none, .mv (.t 22), []⟩])
 (.seq (.seq (.reg [] [⟨some 23, none, .mv (.t 0), []⟩, ⟨some 24, none, .bi .lss .i64 (.t 23) (.k (.int .i64 1)), []⟩, ⟨some 25, none, .mv (.t 24), []⟩, ⟨some 26, (some (25, false)), .mv (.t 0), []⟩, ⟨some 27, (some (25, false)), .bi .gtr .i64 (.t 26) (.k (.int .i64 16)), []⟩, ⟨some 28, none, .pick (.t 25) (.k (.bool true)) (.t 27), []⟩])
 (.cond (.t 28) (.seq (.reg [] [⟨some 30, none, .mv (.t 5), []⟩, ⟨some 31, none, .call 44 [(.t 30), (.k (.int .i64 1))], []⟩, ⟨some 29, none, .mv (.t 31), []⟩, ⟨some 32, none, .ext (.t 29) 0, []⟩, ⟨some 33, none, .ext (.t 29) 1, []⟩, ⟨some 6, none, .alloc [.str [], .sl .nil 1 []], []⟩, ⟨none, none, .st 2 (.t 6) (.t 32), []⟩, ⟨some 7, none, .mv (.t 33), []⟩])
 (.seq (.reg [0, 1, 2, 3, 4, 5, 6, 7, 8, 9, 10, 14, 17, 11, 12, 13, 15, 16, 18, 19, 20, 21, 22, 23, 24, 25] [⟨some 34, none, .mv (.t 5), []⟩, ⟨some 35, none, .isnil .p (.t 34), []⟩, ⟨some 36, none, .mv (.t 35), []⟩, ⟨some 37, (some (36, true)), .mv (.t 7), []⟩, ⟨some 38, (some (36, true)), .bi .eql .i64 (.t 37) (.k (.int .i64 0)), []⟩, ⟨some 39, none, .pick (.t 36) (.t 38) (.k (.bool false)), []⟩, ⟨some 40, none, .mv (.t 39), []⟩, ⟨some 41, (some (40, true)), .fa 1 (.t 6), []⟩, ⟨some 42, (some (40, true)), .ld 1 false (.t 41), []⟩, ⟨some 43, (some (40, true)), .len (.t 42), []⟩, ⟨some 44, (some (40, true)), .mv (.t 5), []⟩, ⟨some 48, (some (40, true)), .mv (.t 5), []⟩, ⟨some 51, (some (40, true)), .mv (.t 5), []⟩, ⟨some 45, (some (40, true)), .call 41 [(.t 44)], [8]⟩, ⟨some 46, (some (40, true)), .len (.t 45), []⟩, ⟨some 47, (some (40, true)), .bi .add .i64 (.t 43) (.t 46), []⟩, ⟨some 49, (some (40, true)), .call 43 [(.t 48)], [8]⟩, ⟨some 50, (some (40, true)), .bi .add .i64 (.t 47) (.t 49), []⟩, ⟨some 52, (some (40, true)), .call 42 [(.t 51)], [8]⟩, ⟨some 53, (some (40, true)), .bi .add .i64 (.t 50) (.t 52), []⟩, ⟨some 54, (some (40, true)), .bi .eql .i64 (.t 53) (.k (.int .i64 0)), []⟩, ⟨some 55, none, .pick (.t 40) (.t 54) (.k (.bool false)), []⟩, ⟨some 56, none, .mv (.t 55), []⟩, ⟨some 57, (some (56, true)), .call 22 [], []⟩, ⟨some 58, none, .pick (.t 56) (.t 57) (.k (.bool false)), []⟩, ⟨some 4, none, .mv (.t 58), []⟩])
 (.ret))) (.skip)))
 (.seq (.seq (.reg [] [⟨some 59, none, .mv (.t 5), []⟩, ⟨some 60, none, .isnil .p (.t 59), []⟩])
 (.cond (.t 60) (.seq (.reg [] [⟨some 4, none, .mv (.k (.bool false)), []⟩])
 (.ret)) (.skip)))
 (.seq (.reg [] [⟨some 61, none, .mv (.t 0), []⟩, ⟨some 62, none, .call 46 [(.t 61)], []⟩, ⟨some 8, none, .mv (.t 62), []⟩])
 (.seq (.seq (.reg [] [⟨some 9, none, .mv (.k (.int .i64 0)), []⟩])
 (.block 0 (.loop [1, 5, 8, 9] (.seq (.seq (.reg [] [⟨some 63, none, .mv (.t 9), []⟩, ⟨some 64, none, .mv (.t 1), []⟩, ⟨some 65, none, .len (.t 64), []⟩, ⟨some 66, none, .bi .lss .i64 (.t 63) (.t 65), []⟩])
 (.cond (.t 66) (.skip) (.exit 0)))
 (.join [1, 5, 8, 9] (.block 1 (.seq (.reg [] [⟨some 69, none, .mv (.t 1), []⟩, ⟨some 70, none, .mv (.t 9), []⟩, ⟨some 71, none, .ia 3 (.t 69) (.t 70), []⟩, ⟨some 72, none, .ld 3 true (.t 71), []⟩, ⟨some 10, none, .alloc [.int .i64 0, .int .i64 0, .sl .nil 2 []], []⟩, ⟨none, none, .st 3 (.t 10) (.t 72), []⟩])
 (.seq (.seq (.reg [] [⟨some 73, none, .fa 2 (.t 10), []⟩, ⟨some 74, none, .ld 1 false (.t 73), []⟩, ⟨some 75, none, .call 38 [(.t 74)], []⟩, ⟨some 76, none, .not (.t 75), []⟩])
 (.cond (.t 76) (.seq (.reg [] [⟨some 77, none, .call 22 [], []⟩, ⟨some 4, none, .mv (.t 77), []⟩])
 (.ret)) (.skip)))
 (.join [1, 5, 8, 9] (.seq (.reg [] [⟨some 78, none, .fa 0 (.t 10), []⟩, ⟨some 79, none, .ld 1 false (.t 78), []⟩])
 (.block 2 (.seq (.reg [] [⟨some 81, none, .bi .eql .i64 (.t 79) (.k (.int .i64 0)), []⟩, ⟨some 80, none, .mv (.t 81), []⟩])
 (.cond (.t 80) (.seq (.reg [] [⟨some 82, none, .fa 2 (.t 10), []⟩, ⟨some 83, none, .ld 1 false (.t 82), []⟩, ⟨some 84, none, .appm 2 40 [.str [], .sl .nil 1 []] (.k (.sl .nil 2 [])) (.t 83), []⟩, ⟨some 11, none, .mv (.t 84), []⟩])
 (.seq (.reg [] [⟨some 85, none, .mv (.t 5), []⟩, ⟨some 86, none, .mv (.t 11), []⟩, ⟨some 87, none, .call 40 [(.t 85), (.t 86)], []⟩])
 (.seq (.seq (.reg [] [⟨some 12, none, .mv (.k (.int .i64 0)), []⟩])
 (.block 3 (.loop [1, 5, 8, 9, 10, 11, 12] (.seq (.seq (.reg [] [⟨some 88, none, .mv (.t 12), []⟩, ⟨some 89, none, .mv (.t 11), []⟩, ⟨some 90, none, .len (.t 89), []⟩, ⟨some 91, none, .bi .lss .i64 (.t 88) (.t 90), []⟩])
 (.cond (.t 91) (.skip) (.exit 3)))
 (.seq (.block 4 (.reg [] [⟨some 94, none, .mv (.t 11), []⟩, ⟨some 95, none, .mv (.t 12), []⟩, ⟨some 96, none, .bld [.str [], .sl .nil 1 []] [(0, 1, (.k (.str [103, 111, 110, 101])))], []⟩, ⟨some 97, none, .ia 2 (.t 94) (.t 95), []⟩, ⟨none, none, .st 2 (.t 97) (.t 96), []⟩]))
 (.reg [] [⟨some 92, none, .mv (.t 12), []⟩, ⟨some 93, none, .bi .add .i64 (.t 92) (.k (.int .i64 1)), []⟩, ⟨some 12, none, .mv (.t 93), []⟩]))))))
 (.reg [0, 1, 2, 3, 4, 5, 6, 7, 8, 9, 10] [⟨some 98, none, .mv (.t 8), []⟩, ⟨some 99, none, .mv (.t 8), []⟩, ⟨some 100, none, .nilchk (.t 99), []⟩, ⟨some 101, none, .fa 2 (.t 100), []⟩, ⟨some 102, none, .ld 1 false (.t 101), []⟩, ⟨some 103, none, .fa 2 (.t 10), []⟩, ⟨some 104, none, .ld 1 false (.t 103), []⟩, ⟨some 105, none, .app 2 40 (.t 102) (.t 104), []⟩, ⟨some 106, none, .nilchk (.t 98), []⟩, ⟨some 107, none, .fa 2 (.t 106), []⟩, ⟨none, none, .st 1 (.t 107) (.t 105), []⟩])))) (.seq (.reg [] [⟨some 109, none, .bi .eql .i64 (.t 79) (.k (.int .i64 1)), []⟩, ⟨some 108, none, .mv (.t 109), []⟩])
 (.cond (.t 108) (.seq (.reg [] [⟨some 111, none, .mv (.t 5), []⟩, ⟨some 112, none, .fa 1 (.t 10), []⟩, ⟨some 113, none, .ld 1 false (.t 112), []⟩, ⟨some 114, none, .call 44 [(.t 111), (.t 113)], []⟩, ⟨some 110, none, .mv (.t 114), []⟩, ⟨some 115, none, .ext (.t 110) 0, []⟩, ⟨some 116, none, .ext (.t 110) 1, []⟩, ⟨some 13, none, .alloc [.str [], .sl .nil 1 []], []⟩, ⟨none, none, .st 2 (.t 13) (.t 115), []⟩, ⟨some 14, none, .mv (.t 116), []⟩])
 (.seq (.reg [] [⟨some 118, none, .mv (.t 8), []⟩, ⟨some 119, none, .fa 1 (.t 10), []⟩, ⟨some 120, none, .ld 1 false (.t 119), []⟩, ⟨some 121, none, .call 47 [(.t 118), (.t 120)], []⟩, ⟨some 117, none, .mv (.t 121), []⟩, ⟨some 122, none, .ext (.t 117) 0, []⟩, ⟨some 123, none, .ext (.t 117) 1, []⟩, ⟨some 15, none, .alloc [.str [], .sl .nil 1 []], []⟩, ⟨none, none, .st 2 (.t 15) (.t 122), []⟩, ⟨some 16, none, .mv (.t 123), []⟩])
 (.seq (.reg [] [⟨some 124, none, .mv (.t 14), []⟩, ⟨some 125, none, .mv (.t 16), []⟩, ⟨some 126, none, .bi .neq .i64 (.t 124) (.t 125), []⟩, ⟨some 127, none, .mv (.t 126), []⟩, ⟨some 128, (some (127, false)), .ld 2 true (.t 13), []⟩, ⟨some 129, (some (127, false)), .ld 2 true (.t 15), []⟩, ⟨some 130, (some (127, false)), .call 45 [(.t 128), (.t 129)], []⟩, ⟨some 131, (some (127, false)), .not (.t 130), []⟩, ⟨some 132, none, .pick (.t 127) (.k (.bool true)) (.t 131), []⟩])
 (.cond (.t 132) (.seq (.reg [] [⟨some 4, none, .mv (.k (.bool false)), []⟩])
 (.ret)) (.skip))))) (.seq (.reg [] [⟨some 134, none, .bi .eql .i64 (.t 79) (.k (.int .i64 2)), []⟩, ⟨some 133, none, .mv (.t 134), []⟩])
 (.cond (.t 133) (.seq (.reg [] [⟨some 135, none, .mv (.t 5), []⟩, ⟨some 136, none, .call 48 [(.t 135)], []⟩])
 (.reg [] [⟨some 137, none, .mv (.t 8), []⟩, ⟨some 138, none, .nilchk (.t 137), []⟩, ⟨some 139, none, .fa 2 (.t 138), []⟩, ⟨none, none, .st 1 (.t 139) (.k (.sl .nil 2 [])), []⟩])) (.skip)))))))))
 (.seq (.reg [0, 2, 1, 3, 4, 5, 6, 7, 9, 10, 11, 12, 13, 8, 14, 15, 16, 17, 19, 18, 20, 21, 22] [⟨some 140, none, .mv (.t 5), []⟩, ⟨some 142, none, .mv (.t 8), []⟩, ⟨some 141, none, .call 41 [(.t 140)], []⟩, ⟨some 143, none, .call 50 [(.t 142)], []⟩, ⟨some 144, none, .call 49 [(.t 141), (.t 143)], []⟩, ⟨some 145, none, .not (.t 144), []⟩, ⟨some 146, none, .mv (.t 145), []⟩, ⟨some 147, (some (146, false)), .mv (.t 5), []⟩, ⟨some 149, (some (146, false)), .mv (.t 8), []⟩, ⟨some 150, (some (146, false)), .nilchk (.t 149), []⟩, ⟨some 151, (some (146, false)), .fa 2 (.t 150), []⟩, ⟨some 152, (some (146, false)), .ld 1 false (.t 151), []⟩, ⟨some 153, (some (146, false)), .len (.t 152), []⟩, ⟨some 148, (some (146, false)), .call 43 [(.t 147)], [11]⟩, ⟨some 154, (some (146, false)), .bi .neq .i64 (.t 148) (.t 153), []⟩, ⟨some 155, none, .pick (.t 146) (.k (.bool true)) (.t 154), []⟩, ⟨some 156, none, .mv (.t 155), []⟩, ⟨some 157, (some (156, false)), .mv (.t 5), []⟩, ⟨some 159, (some (156, false)), .mv (.t 8), []⟩, ⟨some 158, (some (156, false)), .call 42 [(.t 157)], []⟩, ⟨some 160, (some (156, false)), .call 51 [(.t 159)], []⟩, ⟨some 161, (some (156, false)), .bi .neq .i64 (.t 158) (.t 160), []⟩, ⟨some 162, none, .pick (.t 156) (.k (.bool true)) (.t 161), []⟩])
 (.cond (.t 162) (.seq (.reg [] [⟨some 4, none, .mv (.k (.bool false)), []⟩])
 (.ret)) (.skip)))))))
 (.reg [] [⟨some 67, none, .mv (.t 9), []⟩, ⟨some 68, none, .bi .add .i64 (.t 67) (.k (.int .i64 1)), []⟩, ⟨some 9, none, .mv (.t 68), []⟩]))))))
 (.seq (.reg [] [⟨some 163, none, .call 22 [], []⟩, ⟨some 4, none, .mv (.t 163), []⟩])
 (.ret))))))))⟩
theorem ck11 : chkFn Try.prog 11 ir11 = true := by kernel_rfl
def ir22 : AFn := ⟨72, 0, [.t 0], .seq (.reg [] [⟨some 0, none, .mv (.k (.bool false)), []⟩])
 (.seq (.reg [] [⟨some 9, none, .call 39 [(.k (.int .i64 2))], []⟩, ⟨some 1, none, .mv (.t 9), []⟩])
 (.seq (.seq (.reg [] [⟨some 10, none, .mv (.t 1), []⟩, ⟨some 11, none, .isnil .p (.t 10), []⟩])
 (.cond (.t 11) (.seq (.reg [] [⟨some 0, none, .mv (.k (.bool false)), []⟩])
 (.ret)) (.skip)))
 (.seq (.reg [] [⟨some 12, none, .mv (.t 1), []⟩, ⟨some 13, none, .bls 1 1 [.str []] [(0, (.k (.str [97])))], []⟩, ⟨some 14, none, .bld [.str [], .sl .nil 1 []] [(0, 1, (.k (.str [116]))), (1, 1, (.t 13))], []⟩, ⟨some 15, none, .bls 2 1 [.str [], .sl .nil 1 []] [(0, (.t 14))], []⟩, ⟨some 16, none, .call 40 [(.t 12), (.t 15)], []⟩])
 (.seq (.reg [] [⟨some 17, none, .mv (.t 1), []⟩, ⟨some 18, none, .call 41 [(.t 17)], []⟩, ⟨some 2, none, .mv (.t 18), []⟩])
 (.seq (.reg [] [⟨some 20, none, .mv (.t 1), []⟩, ⟨some 21, none, .call 44 [(.t 20), (.k (.int .i64 2))], []⟩, ⟨some 19, none, .mv (.t 21), []⟩, ⟨some 22, none, .ext (.t 19) 0, []⟩, ⟨some 23, none, .ext (.t 19) 1, []⟩, ⟨some 3, none, .alloc [.str [], .sl .nil 1 []], []⟩, ⟨none, none, .st 2 (.t 3) (.t 22), []⟩, ⟨some 4, none, .mv (.t 23), []⟩])
 (.seq (.reg [] [⟨some 25, none, .mv (.t 1), []⟩, ⟨some 26, none, .call 44 [(.t 25), (.k (.int .i64 2))], []⟩, ⟨some 24, none, .mv (.t 26), []⟩, ⟨some 27, none, .ext (.t 24) 0, []⟩, ⟨some 28, none, .ext (.t 24) 1, []⟩, ⟨some 5, none, .alloc [.str [], .sl .nil 1 []], []⟩, ⟨none, none, .st 2 (.t 5) (.t 27), []⟩, ⟨some 6, none, .mv (.t 28), []⟩])
 (.seq (.reg [] [⟨some 30, none, .mv (.t 1), []⟩, ⟨some 31, none, .call 44 [(.t 30), (.k (.int .i64 2))], []⟩, ⟨some 29, none, .mv (.t 31), []⟩, ⟨some 32, none, .ext (.t 29) 0, []⟩, ⟨some 33, none, .ext (.t 29) 1, []⟩, ⟨some 7, none, .alloc [.str [], .sl .nil 1 []], []⟩, ⟨none, none, .st 2 (.t 7) (.t 32), []⟩, ⟨some 8, none, .mv (.t 33), []⟩])
 (.seq (.reg [] [⟨some 34, none, .mv (.t 2), []⟩, ⟨some 35, none, .len (.t 34), []⟩, ⟨some 36, none, .bi .eql .i64 (.t 35) (.k (.int .i64 2)), []⟩, ⟨some 37, none, .mv (.t 36), []⟩, ⟨some 38, (some (37, true)), .mv (.t 2), []⟩, ⟨some 39, (some (37, true)), .ia 1 (.t 38) (.k (.int .i64 0)), []⟩, ⟨some 40, (some (37, true)), .ld 1 false (.t 39), []⟩, ⟨some 41, (some (37, true)), .bi .eql .i64 (.t 40) (.k (.int .i64 1)), []⟩, ⟨some 42, none, .pick (.t 37) (.t 41) (.k (.bool false)), []⟩, ⟨some 43, none, .mv (.t 42), []⟩, ⟨some 44, (some (43, true)), .mv (.t 2), []⟩, ⟨some 45, (some (43, true)), .ia 1 (.t 44) (.k (.int .i64 1)), []⟩, ⟨some 46, (some (43, true)), .ld 1 false (.t 45), []⟩, ⟨some 47, (some (43, true)), .bi .eql .i64 (.t 46) (.k (.int .i64 2)), []⟩, ⟨some 48, none, .pick (.t 43) (.t 47) (.k (.bool false)), []⟩, ⟨some 49, none, .mv (.t 48), []⟩, ⟨some 50, (some (49, true)), .mv (.t 4), []⟩, ⟨some 51, (some (49, true)), .bi .eql .i64 (.t 50) (.k (.int .i64 1)), []⟩, ⟨some 52, none, .pick (.t 49) (.t 51) (.k (.bool false)), []⟩, ⟨some 53, none, .mv (.t 52), []⟩, ⟨some 54, (some (53, true)), .mv (.t 6), []⟩, ⟨some 55, (some (53, true)), .bi .eql .i64 (.t 54) (.k (.int .i64 2)), []⟩, ⟨some 56, none, .pick (.t 53) (.t 55) (.k (.bool false)), []⟩, ⟨some 57, none, .mv (.t 56), []⟩, ⟨some 58, (some (57, true)), .mv (.t 8), []⟩, ⟨some 59, (some (57, true)), .bi .eql .i64 (.t 58) (.k (.int .i64 3)), []⟩, ⟨some 60, none, .pick (.t 57) (.t 59) (.k (.bool false)), []⟩, ⟨some 61, none, .mv (.t 60), []⟩, ⟨some 62, (some (61, true)), .mv (.t 1), []⟩, ⟨some 63, (some (61, true)), .call 41 [(.t 62)], []⟩, ⟨some 64, (some (61, true)), .len (.t 63), []⟩, ⟨some 65, (some (61, true)), .bi .eql .i64 (.t 64) (.k (.int .i64 0)), []⟩, ⟨some 66, none, .pick (.t 61) (.t 65) (.k (.bool false)), []⟩, ⟨some 67, none, .mv (.t 66), []⟩, ⟨some 68, (some (67, true)), .bls 1 2 [.int .i64 0] [(0, (.k (.int .i64 2))), (1, (.k (.int .i64 1)))], []⟩, ⟨some 69, (some (67, true)), .call 24 [(.k (.int .i64 5)), (.t 68)], []⟩, ⟨some 70, (some (67, true)), .bi .eql .i64 (.t 69) (.k (.int .i64 1)), []⟩, ⟨some 71, none, .pick (.t 67) (.t 70) (.k (.bool false)), []⟩, ⟨some 0, none, .mv (.t 71), []⟩])
 (.ret)))))))))⟩
theorem ck22 : chkFn Try.prog 22 ir22 = true := by kernel_rfl
def ir24 : AFn := ⟨25, 2, [.t 4], .seq (.reg [] [⟨some 4, none, .mv (.k (.int .i64 0)), []⟩])
 (.scope (.seq (.seq (.reg [] [⟨some 8, none, .mv (.t 1), []⟩, ⟨some 9, none, .len (.t 8), []⟩, ⟨some 10, none, .bi .eql .i64 (.t 9) (.k (.int .i64 0)), []⟩])
 (.cond (.t 10) (.seq (.reg [] [⟨some 4, none, .mv (.k (.int .i64 (-1))), []⟩])
 (.ret)) (.skip)))
 (.seq (.reg [] [⟨some 11, none, .mv (.t 1), []⟩, ⟨some 12, none, .call 55 [(.t 11)], []⟩, ⟨some 5, none, .mv (.t 12), []⟩])
 (.seq (.skip)
 (.seq (.seq (.reg [] [⟨some 13, none, .mv (.t 1), []⟩, ⟨some 14, none, .len (.t 13), []⟩, ⟨some 15, none, .mv (.k (.int .i64 0)), []⟩])
 (.block 0 (.loop [0, 5, 13, 14, 15] (.seq (.reg [] [⟨some 16, none, .bi .lss .i64 (.t 15) (.t 14), []⟩])
 (.seq (.cond (.t 16) (.skip) (.exit 0))
 (.seq (.block 1 (.seq (.reg [] [⟨some 17, none, .ia 1 (.t 13) (.t 15), []⟩, ⟨some 18, none, .ld 1 false (.t 17), []⟩, ⟨some 7, none, .mv (.t 18), []⟩])
 (.seq (.reg [] [⟨some 19, none, .mv (.t 7), []⟩, ⟨some 20, none, .mv (.t 0), []⟩, ⟨some 21, none, .bi .eql .i64 (.t 19) (.t 20), []⟩])
 (.cond (.t 21) (.seq (.reg [] [⟨some 22, none, .mv (.t 7), []⟩, ⟨some 5, none, .mv (.t 22), []⟩])
 (.exit 0)) (.skip)))))
 (.reg [] [⟨some 23, none, .bi .add .i64 (.t 15) (.k (.int .i64 1)), []⟩, ⟨some 15, none, .mv (.t 23), []⟩])))))))
 (.seq (.reg [] [⟨some 24, none, .mv (.t 5), []⟩, ⟨some 4, none, .mv (.t 24), []⟩])
 (.ret)))))))⟩
theorem ck24 : chkFn Try.prog 24 ir24 = true := by kernel_rfl
def ir38 : AFn := ⟨22, 1, [.t 2], .seq (.reg [] [⟨some 2, none, .mv (.k (.bool false)), []⟩])
 (.seq (.reg [] [⟨some 3, none, .mv (.k (.int .i64 0)), []⟩])
 (.seq (.seq (.reg [] [⟨some 4, none, .mv (.k (.int .i64 0)), []⟩])
 (.block 0 (.loop [0, 3, 4] (.seq (.seq (.reg [] [⟨some 5, none, .mv (.t 4), []⟩, ⟨some 6, none, .mv (.t 0), []⟩, ⟨some 7, none, .len (.t 6), []⟩, ⟨some 8, none, .bi .lss .i64 (.t 5) (.t 7), []⟩])
 (.cond (.t 8) (.skip) (.exit 0)))
 (.seq (.block 1 (.reg [] [⟨some 11, none, .mv (.t 3), []⟩, ⟨some 12, none, .bi .add .i64 (.t 11) (.k (.int .i64 1)), []⟩, ⟨some 13, none, .mv (.t 0), []⟩, ⟨some 14, none, .mv (.t 4), []⟩, ⟨some 15, none, .ia 2 (.t 13) (.t 14), []⟩, ⟨some 16, none, .fa 1 (.t 15), []⟩, ⟨some 17, none, .ld 1 false (.t 16), []⟩, ⟨some 18, none, .len (.t 17), []⟩, ⟨some 19, none, .bi .add .i64 (.t 12) (.t 18), []⟩, ⟨some 3, none, .mv (.t 19), []⟩]))
 (.reg [] [⟨some 9, none, .mv (.t 4), []⟩, ⟨some 10, none, .bi .add .i64 (.t 9) (.k (.int .i64 1)), []⟩, ⟨some 4, none, .mv (.t 10), []⟩]))))))
 (.seq (.reg [] [⟨some 20, none, .mv (.t 3), []⟩, ⟨some 21, none, .bi .leq .i64 (.t 20) (.k (.int .i64 200)), []⟩, ⟨some 2, none, .mv (.t 21), []⟩])
 (.ret))))⟩
theorem ck38 : chkFn Try.prog 38 ir38 = true := by kernel_rfl
def ir39 : AFn := ⟨13, 1, [.t 2], .seq (.reg [] [⟨some 2, none, .mv (.k (.nilp)), []⟩])
 (.seq (.seq (.reg [] [⟨some 3, none, .mv (.t 0), []⟩, ⟨some 4, none, .bi .lss .i64 (.t 3) (.k (.int .i64 1)), []⟩, ⟨some 5, none, .mv (.t 4), []⟩, ⟨some 6, (some (5, false)), .mv (.t 0), []⟩, ⟨some 7, (some (5, false)), .bi .gtr .i64 (.t 6) (.k (.int .i64 16)), []⟩, ⟨some 8, none, .pick (.t 5) (.k (.bool true)) (.t 7), []⟩])
 (.cond (.t 8) (.seq (.reg [] [⟨some 2, none, .mv (.k (.nilp)), []⟩])
 (.ret)) (.skip)))
 (.seq (.reg [] [⟨some 9, none, .mv (.t 0), []⟩, ⟨some 10, none, .mksn [.int .i64 0, .str [], .sl .nil 1 []] 48 (.t 9), []⟩, ⟨some 11, none, .bld [.sl .nil 3 [], .sl .nil 2 []] [(0, 1, (.t 10))], []⟩, ⟨some 12, none, .box (.t 11), []⟩, ⟨some 2, none, .mv (.t 12), []⟩])
 (.ret)))⟩
theorem ck39 : chkFn Try.prog 39 ir39 = true := by kernel_rfl
def ir40 : AFn := ⟨26, 2, [], .seq (.seq (.reg [] [⟨some 6, none, .mv (.t 0), []⟩, ⟨some 7, none, .isnil .p (.t 6), []⟩])
 (.cond (.t 7) (.ret) (.skip)))
 (.seq (.reg [] [⟨some 8, none, .mv (.t 1), []⟩, ⟨some 9, none, .len (.t 8), []⟩, ⟨some 10, none, .mv (.k (.int .i64 0)), []⟩])
 (.block 0 (.loop [0, 8, 9, 10] (.seq (.reg [] [⟨some 11, none, .bi .lss .i64 (.t 10) (.t 9), []⟩])
 (.seq (.cond (.t 11) (.skip) (.exit 0))
 (.seq (.block 1 (.seq (.reg [] [⟨some 12, none, .ia 2 (.t 8) (.t 10), []⟩, ⟨some 13, none, .ld 2 true (.t 12), []⟩, ⟨some 5, none, .alloc [.str [], .sl .nil 1 []], []⟩, ⟨none, none, .st 2 (.t 5) (.t 13), []⟩])
 (.reg [0, 1, 2, 3, 4, 5, 6, 7, 8, 9, 10, 11] [⟨some 14, none, .mv (.t 0), []⟩, ⟨some 15, none, .mv (.t 0), []⟩, ⟨some 16, none, .nilchk (.t 15), []⟩, ⟨some 17, none, .fa 1 (.t 16), []⟩, ⟨some 18, none, .ld 1 false (.t 17), []⟩, ⟨some 19, none, .ld 2 true (.t 5), []⟩, ⟨some 20, none, .call 59 [(.t 19)], [4]⟩, ⟨some 21, none, .bls 2 1 [.str [], .sl .nil 1 []] [(0, (.t 20))], []⟩, ⟨some 22, none, .app 2 40 (.t 18) (.t 21), []⟩, ⟨some 23, none, .nilchk (.t 14), []⟩, ⟨some 24, none, .fa 1 (.t 23), []⟩, ⟨none, none, .st 1 (.t 24) (.t 22), []⟩])))
 (.reg [] [⟨some 25, none, .bi .add .i64 (.t 10) (.k (.int .i64 1)), []⟩, ⟨some 10, none, .mv (.t 25), []⟩])))))))⟩
theorem ck40 : chkFn Try.prog 40 ir40 = true := by kernel_rfl
def ir41 : AFn := ⟨26, 1, [.t 2], .seq (.reg [] [⟨some 2, none, .mv (.k (.sl .nil 1 [])), []⟩])
 (.seq (.reg [] [⟨some 3, none, .mv (.k (.sl .nil 1 [])), []⟩])
 (.seq (.seq (.reg [] [⟨some 4, none, .mv (.k (.int .i64 1)), []⟩])
 (.block 0 (.loop [0, 3, 4] (.seq (.seq (.reg [] [⟨some 5, none, .mv (.t 0), []⟩, ⟨some 6, none, .isnn .p (.t 5), []⟩, ⟨some 7, none, .mv (.t 6), []⟩, ⟨some 8, (some (7, true)), .mv (.t 4), []⟩, ⟨some 9, (some (7, true)), .mv (.t 0), []⟩, ⟨some 10, (some (7, true)), .nilchk (.t 9), []⟩, ⟨some 11, (some (7, true)), .fa 0 (.t 10), []⟩, ⟨some 12, (some (7, true)), .ld 1 false (.t 11), []⟩, ⟨some 13, (some (7, true)), .len (.t 12), []⟩, ⟨some 14, (some (7, true)), .bi .leq .i64 (.t 8) (.t 13), []⟩, ⟨some 15, none, .pick (.t 7) (.t 14) (.k (.bool false)), []⟩])
 (.cond (.t 15) (.skip) (.exit 0)))
 (.seq (.block 1 (.seq (.reg [] [⟨some 18, none, .mv (.t 0), []⟩, ⟨some 19, none, .mv (.t 4), []⟩, ⟨some 20, none, .call 60 [(.t 18), (.t 19)], []⟩])
 (.cond (.t 20) (.reg [] [⟨some 21, none, .mv (.t 3), []⟩, ⟨some 22, none, .mv (.t 4), []⟩, ⟨some 23, none, .bls 1 1 [.int .i64 0] [(0, (.t 22))], []⟩, ⟨some 24, none, .app 1 8 (.t 21) (.t 23), []⟩, ⟨some 3, none, .mv (.t 24), []⟩]) (.skip))))
 (.reg [] [⟨some 16, none, .mv (.t 4), []⟩, ⟨some 17, none, .bi .add .i64 (.t 16) (.k (.int .i64 1)), []⟩, ⟨some 4, none, .mv (.t 17), []⟩]))))))
 (.seq (.reg [] [⟨some 25, none, .mv (.t 3), []⟩, ⟨some 2, none, .mv (.t 25), []⟩])
 (.ret))))⟩
theorem ck41 : chkFn Try.prog 41 ir41 = true := by kernel_rfl
def ir42 : AFn := ⟨24, 1, [.t 2], .seq (.reg [] [⟨some 2, none, .mv (.k (.int .i64 0)), []⟩])
 (.seq (.seq (.reg [] [⟨some 6, none, .mv (.t 0), []⟩, ⟨some 7, none, .isnil .p (.t 6), []⟩])
 (.cond (.t 7) (.seq (.reg [] [⟨some 2, none, .mv (.k (.int .i64 0)), []⟩])
 (.ret)) (.skip)))
 (.seq (.reg [] [⟨some 3, none, .mv (.k (.int .i64 0)), []⟩])
 (.seq (.seq (.reg [] [⟨some 8, none, .mv (.t 0), []⟩, ⟨some 9, none, .nilchk (.t 8), []⟩, ⟨some 10, none, .fa 0 (.t 9), []⟩, ⟨some 11, none, .ld 1 false (.t 10), []⟩, ⟨some 12, none, .len (.t 11), []⟩, ⟨some 13, none, .mv (.k (.int .i64 0)), []⟩])
 (.block 0 (.loop [3, 11, 12, 13] (.seq (.reg [] [⟨some 14, none, .bi .lss .i64 (.t 13) (.t 12), []⟩])
 (.seq (.cond (.t 14) (.skip) (.exit 0))
 (.seq (.block 1 (.seq (.reg [] [⟨some 15, none, .ia 3 (.t 11) (.t 13), []⟩, ⟨some 16, none, .ld 3 true (.t 15), []⟩, ⟨some 5, none, .alloc [.int .i64 0, .str [], .sl .nil 1 []], []⟩, ⟨none, none, .st 3 (.t 5) (.t 16), []⟩])
 (.seq (.reg [] [⟨some 17, none, .fa 0 (.t 5), []⟩, ⟨some 18, none, .ld 1 false (.t 17), []⟩, ⟨some 19, none, .bi .neq .i64 (.t 18) (.k (.int .i64 0)), []⟩])
 (.cond (.t 19) (.reg [] [⟨some 20, none, .mv (.t 3), []⟩, ⟨some 21, none, .bi .add .i64 (.t 20) (.k (.int .i64 1)), []⟩, ⟨some 3, none, .mv (.t 21), []⟩]) (.skip)))))
 (.reg [] [⟨some 22, none, .bi .add .i64 (.t 13) (.k (.int .i64 1)), []⟩, ⟨some 13, none, .mv (.t 22), []⟩])))))))
 (.seq (.reg [] [⟨some 23, none, .mv (.t 3), []⟩, ⟨some 2, none, .mv (.t 23), []⟩])
 (.ret)))))⟩
theorem ck42 : chkFn Try.prog 42 ir42 = true := by kernel_rfl
def ir43 : AFn := ⟨10, 1, [.t 2], .seq (.reg [] [⟨some 2, none, .mv (.k (.int .i64 0)), []⟩])
 (.seq (.seq (.reg [] [⟨some 3, none, .mv (.t 0), []⟩, ⟨some 4, none, .isnil .p (.t 3), []⟩])
 (.cond (.t 4) (.seq (.reg [] [⟨some 2, none, .mv (.k (.int .i64 0)), []⟩])
 (.ret)) (.skip)))
 (.seq (.reg [] [⟨some 5, none, .mv (.t 0), []⟩, ⟨some 6, none, .nilchk (.t 5), []⟩, ⟨some 7, none, .fa 1 (.t 6), []⟩, ⟨some 8, none, .ld 1 false (.t 7), []⟩, ⟨some 9, none, .len (.t 8), []⟩, ⟨some 2, none, .mv (.t 9), []⟩])
 (.ret)))⟩
theorem ck43 : chkFn Try.prog 43 ir43 = true := by kernel_rfl
def ir44 : AFn := ⟨64, 2, [.c 4 2 true, .t 5], .seq (.reg [] [⟨some 4, none, .alloc [.str [], .sl .nil 1 []], []⟩, ⟨some 5, none, .mv (.k (.int .i64 0)), []⟩])
 (.seq (.seq (.reg [] [⟨some 8, none, .mv (.t 0), []⟩, ⟨some 9, none, .mv (.t 1), []⟩, ⟨some 10, none, .call 60 [(.t 8), (.t 9)], []⟩, ⟨some 11, none, .not (.t 10), []⟩])
 (.cond (.t 11) (.seq (.reg [] [⟨some 12, none, .bld [.str [], .sl .nil 1 []] [], []⟩, ⟨none, none, .st 2 (.t 4) (.t 12), []⟩, ⟨some 5, none, .mv (.k (.int .i64 0)), []⟩])
 (.ret)) (.skip)))
 (.seq (.reg [] [⟨some 13, none, .mv (.t 0), []⟩, ⟨some 14, none, .nilchk (.t 13), []⟩, ⟨some 15, none, .fa 0 (.t 14), []⟩, ⟨some 16, none, .ld 1 false (.t 15), []⟩, ⟨some 17, none, .mv (.t 1), []⟩, ⟨some 18, none, .bi .sub .i64 (.t 17) (.k (.int .i64 1)), []⟩, ⟨some 19, none, .ia 3 (.t 16) (.t 18), []⟩, ⟨some 6, none, .mv (.t 19), []⟩])
 (.seq (.seq (.reg [] [⟨some 20, none, .mv (.t 6), []⟩, ⟨some 21, none, .nilchk (.t 20), []⟩, ⟨some 22, none, .fa 0 (.t 21), []⟩, ⟨some 23, none, .ld 1 false (.t 22), []⟩, ⟨some 24, none, .bi .eql .i64 (.t 23) (.k (.int .i64 0)), []⟩])
 (.cond (.t 24) (.seq (.reg [] [⟨some 25, none, .mv (.t 6), []⟩, ⟨some 26, none, .mv (.t 0), []⟩, ⟨some 27, none, .nilchk (.t 26), []⟩, ⟨some 28, none, .fa 1 (.t 27), []⟩, ⟨some 29, none, .ld 1 false (.t 28), []⟩, ⟨some 30, none, .ia 2 (.t 29) (.k (.int .i64 0)), []⟩, ⟨some 31, none, .ld 2 true (.t 30), []⟩, ⟨some 32, none, .nilchk (.t 25), []⟩, ⟨some 33, none, .fa 1 (.t 32), []⟩, ⟨none, none, .st 2 (.t 33) (.t 31), []⟩])
 (.reg [] [⟨some 34, none, .mv (.t 0), []⟩, ⟨some 35, none, .mv (.t 0), []⟩, ⟨some 36, none, .nilchk (.t 35), []⟩, ⟨some 37, none, .fa 1 (.t 36), []⟩, ⟨some 38, none, .ld 1 false (.t 37), []⟩, ⟨some 39, none, .sll 2 (.t 38) (some (.k (.int .i64 1))) none none, []⟩, ⟨some 40, none, .nilchk (.t 34), []⟩, ⟨some 41, none, .fa 1 (.t 40), []⟩, ⟨none, none, .st 1 (.t 41) (.t 39), []⟩])) (.skip)))
 (.seq (.reg [] [⟨some 42, none, .mv (.t 6), []⟩, ⟨some 43, none, .nilchk (.t 42), []⟩, ⟨some 44, none, .fa 0 (.t 43), []⟩, ⟨some 45, none, .ld 1 false (.t 44), []⟩, ⟨some 46, none, .bi .add .i64 (.t 45) (.k (.int .i64 1)), []⟩, ⟨some 47, none, .nilchk (.t 42), []⟩, ⟨some 48, none, .fa 0 (.t 47), []⟩, ⟨none, none, .st 1 (.t 48) (.t 46), []⟩])
 (.seq (.reg [] [⟨some 49, none, .mv (.t 6), []⟩, ⟨some 50, none, .nilchk (.t 49), []⟩, ⟨some 51, none, .fa 0 (.t 50), []⟩, ⟨some 52, none, .ld 1 false (.t 51), []⟩, ⟨some 7, none, .mv (.t 52), []⟩])
 (.seq (.seq (.reg [] [⟨some 53, none, .mv (.t 7), []⟩, ⟨some 54, none, .bi .gtr .i64 (.t 53) (.k (.int .i64 2)), []⟩])
 (.cond (.t 54) (.reg [] [⟨some 55, none, .mv (.t 6), []⟩, ⟨some 56, none, .nilchk (.t 55), []⟩, ⟨some 57, none, .fa 0 (.t 56), []⟩, ⟨none, none, .st 1 (.t 57) (.k (.int .i64 0)), []⟩]) (.skip)))
 (.seq (.reg [] [⟨some 58, none, .mv (.t 6), []⟩, ⟨some 59, none, .nilchk (.t 58), []⟩, ⟨some 60, none, .fa 1 (.t 59), []⟩, ⟨some 61, none, .ld 2 true (.t 60), []⟩, ⟨some 62, none, .call 59 [(.t 61)], []⟩, ⟨some 63, none, .mv (.t 7), []⟩, ⟨none, none, .st 2 (.t 4) (.t 62), []⟩, ⟨some 5, none, .mv (.t 63), []⟩])
 (.ret))))))))⟩
theorem ck44 : chkFn Try.prog 44 ir44 = true := by kernel_rfl
def ir45 : AFn := ⟨38, 2, [.t 4], .seq (.reg [] [⟨some 2, none, .boxv (.t 0), []⟩, ⟨some 3, none, .boxv (.t 1), []⟩, ⟨some 4, none, .mv (.k (.bool false)), []⟩])
 (.seq (.seq (.reg [] [⟨some 6, none, .fa 0 (.t 2), []⟩, ⟨some 7, none, .ld 1 false (.t 6), []⟩, ⟨some 8, none, .fa 0 (.t 3), []⟩, ⟨some 9, none, .ld 1 false (.t 8), []⟩, ⟨some 10, none, .bs .neq (.t 7) (.t 9), []⟩, ⟨some 11, none, .mv (.t 10), []⟩, ⟨some 12, (some (11, false)), .fa 1 (.t 2), []⟩, ⟨some 13, (some (11, false)), .ld 1 false (.t 12), []⟩, ⟨some 14, (some (11, false)), .len (.t 13), []⟩, ⟨some 15, (some (11, false)), .fa 1 (.t 3), []⟩, ⟨some 16, (some (11, false)), .ld 1 false (.t 15), []⟩, ⟨some 17, (some (11, false)), .len (.t 16), []⟩, ⟨some 18, (some (11, false)), .bi .neq .i64 (.t 14) (.t 17), []⟩, ⟨some 19, none, .pick (.t 11) (.k (.bool true)) (.t 18), []⟩])
 (.cond (.t 19) (.seq (.reg [] [⟨some 4, none, .mv (.k (.bool false)), []⟩])
 (.ret)) (.skip)))
 (.seq (.seq (.reg [] [⟨some 5, none, .mv (.k (.int .i64 0)), []⟩])
 (.block 0 (.loop [2, 3, 5] (.seq (.seq (.reg [] [⟨some 20, none, .mv (.t 5), []⟩, ⟨some 21, none, .fa 1 (.t 2), []⟩, ⟨some 22, none, .ld 1 false (.t 21), []⟩, ⟨some 23, none, .len (.t 22), []⟩, ⟨some 24, none, .bi .lss .i64 (.t 20) (.t 23), []⟩])
 (.cond (.t 24) (.skip) (.exit 0)))
 (.seq (.block 1 (.seq (.reg [0, 1, 2, 3, 4, 5, 6, 7, 8, 9, 10] [⟨some 27, none, .fa 1 (.t 2), []⟩, ⟨some 28, none, .ld 1 false (.t 27), []⟩, ⟨some 29, none, .mv (.t 5), []⟩, ⟨some 30, none, .ia 1 (.t 28) (.t 29), []⟩, ⟨some 31, none, .ld 1 false (.t 30), []⟩, ⟨some 32, none, .fa 1 (.t 3), []⟩, ⟨some 33, none, .ld 1 false (.t 32), []⟩, ⟨some 34, none, .mv (.t 5), []⟩, ⟨some 35, none, .ia 1 (.t 33) (.t 34), []⟩, ⟨some 36, none, .ld 1 false (.t 35), []⟩, ⟨some 37, none, .bs .neq (.t 31) (.t 36), []⟩])
 (.cond (.t 37) (.seq (.reg [] [⟨some 4, none, .mv (.k (.bool false)), []⟩])
 (.ret)) (.skip))))
 (.reg [] [⟨some 25, none, .mv (.t 5), []⟩, ⟨some 26, none, .bi .add .i64 (.t 25) (.k (.int .i64 1)), []⟩, ⟨some 5, none, .mv (.t 26), []⟩]))))))
 (.seq (.reg [] [⟨some 4, none, .mv (.k (.bool true)), []⟩])
 (.ret))))⟩
theorem ck45 : chkFn Try.prog 45 ir45 = true := by kernel_rfl
def ir46 : AFn := ⟨9, 1, [.t 2], .seq (.reg [] [⟨some 2, none, .mv (.k (.nilp)), []⟩])
 (.seq (.reg [0, 2, 1, 3, 4, 5, 6] [⟨some 3, none, .mv (.t 0), []⟩, ⟨some 5, none, .mv (.t 0), []⟩, ⟨some 4, none, .mksn [.int .i64 0] 8 (.t 3), []⟩, ⟨some 6, none, .mksn [.str [], .sl .nil 1 []] 40 (.t 5), []⟩, ⟨some 7, none, .bld [.sl .nil 1 [], .sl .nil 2 [], .sl .nil 2 []] [(0, 1, (.t 4)), (1, 1, (.t 6))], []⟩, ⟨some 8, none, .box (.t 7), []⟩, ⟨some 2, none, .mv (.t 8), []⟩])
 (.ret))⟩
theorem ck46 : chkFn Try.prog 46 ir46 = true := by kernel_rfl
def ir47 : AFn := ⟨103, 2, [.c 4 2 true, .t 5], .seq (.reg [] [⟨some 4, none, .alloc [.str [], .sl .nil 1 []], []⟩, ⟨some 5, none, .mv (.k (.int .i64 0)), []⟩])
 (.seq (.seq (.reg [] [⟨some 6, none, .mv (.t 1), []⟩, ⟨some 7, none, .bi .lss .i64 (.t 6) (.k (.int .i64 1)), []⟩, ⟨some 8, none, .mv (.t 7), []⟩, ⟨some 9, (some (8, false)), .mv (.t 1), []⟩, ⟨some 10, (some (8, false)), .mv (.t 0), []⟩, ⟨some 11, (some (8, false)), .nilchk (.t 10), []⟩, ⟨some 12, (some (8, false)), .fa 0 (.t 11), []⟩, ⟨some 13, (some (8, false)), .ld 1 false (.t 12), []⟩, ⟨some 14, (some (8, false)), .len (.t 13), []⟩, ⟨some 15, (some (8, false)), .bi .gtr .i64 (.t 9) (.t 14), []⟩, ⟨some 16, none, .pick (.t 8) (.k (.bool true)) (.t 15), []⟩])
 (.cond (.t 16) (.seq (.reg [] [⟨some 17, none, .bld [.str [], .sl .nil 1 []] [], []⟩, ⟨none, none, .st 2 (.t 4) (.t 17), []⟩, ⟨some 5, none, .mv (.k (.int .i64 0)), []⟩])
 (.ret)) (.skip)))
 (.seq (.seq (.reg [] [⟨some 18, none, .mv (.t 0), []⟩, ⟨some 19, none, .nilchk (.t 18), []⟩, ⟨some 20, none, .fa 0 (.t 19), []⟩, ⟨some 21, none, .ld 1 false (.t 20), []⟩, ⟨some 22, none, .mv (.t 1), []⟩, ⟨some 23, none, .bi .sub .i64 (.t 22) (.k (.int .i64 1)), []⟩, ⟨some 24, none, .ia 1 (.t 21) (.t 23), []⟩, ⟨some 25, none, .ld 1 false (.t 24), []⟩])
 (.block 0 (.seq (.reg [] [⟨some 27, none, .bi .eql .i64 (.t 25) (.k (.int .i64 1)), []⟩, ⟨some 26, none, .mv (.t 27), []⟩])
 (.cond (.t 26) (.seq (.reg [] [⟨some 28, none, .mv (.t 0), []⟩, ⟨some 29, none, .nilchk (.t 28), []⟩, ⟨some 30, none, .fa 0 (.t 29), []⟩, ⟨some 31, none, .ld 1 false (.t 30), []⟩, ⟨some 32, none, .mv (.t 1), []⟩, ⟨some 33, none, .bi .sub .i64 (.t 32) (.k (.int .i64 1)), []⟩, ⟨some 34, none, .ia 1 (.t 31) (.t 33), []⟩, ⟨none, none, .st 1 (.t 34) (.k (.int .i64 2)), []⟩])
 (.seq (.reg [] [⟨some 35, none, .mv (.t 0), []⟩, ⟨some 36, none, .nilchk (.t 35), []⟩, ⟨some 37, none, .fa 1 (.t 36), []⟩, ⟨some 38, none, .ld 1 false (.t 37), []⟩, ⟨some 39, none, .mv (.t 1), []⟩, ⟨some 40, none, .bi .sub .i64 (.t 39) (.k (.int .i64 1)), []⟩, ⟨some 41, none, .ia 2 (.t 38) (.t 40), []⟩, ⟨some 42, none, .ld 2 true (.t 41), []⟩, ⟨none, none, .st 2 (.t 4) (.t 42), []⟩, ⟨some 5, none, .mv (.k (.int .i64 2)), []⟩])
 (.ret))) (.seq (.reg [] [⟨some 44, none, .bi .eql .i64 (.t 25) (.k (.int .i64 2)), []⟩, ⟨some 43, none, .mv (.t 44), []⟩])
 (.cond (.t 43) (.seq (.reg [] [⟨some 45, none, .mv (.t 0), []⟩, ⟨some 46, none, .nilchk (.t 45), []⟩, ⟨some 47, none, .fa 0 (.t 46), []⟩, ⟨some 48, none, .ld 1 false (.t 47), []⟩, ⟨some 49, none, .mv (.t 1), []⟩, ⟨some 50, none, .bi .sub .i64 (.t 49) (.k (.int .i64 1)), []⟩, ⟨some 51, none, .ia 1 (.t 48) (.t 50), []⟩, ⟨none, none, .st 1 (.t 51) (.k (.int .i64 0)), []⟩])
 (.seq (.reg [] [⟨some 52, none, .mv (.t 0), []⟩, ⟨some 53, none, .nilchk (.t 52), []⟩, ⟨some 54, none, .fa 1 (.t 53), []⟩, ⟨some 55, none, .ld 1 false (.t 54), []⟩, ⟨some 56, none, .mv (.t 1), []⟩, ⟨some 57, none, .bi .sub .i64 (.t 56) (.k (.int .i64 1)), []⟩, ⟨some 58, none, .ia 2 (.t 55) (.t 57), []⟩, ⟨some 59, none, .ld 2 true (.t 58), []⟩, ⟨none, none, .st 2 (.t 4) (.t 59), []⟩, ⟨some 5, none, .mv (.k (.int .i64 3)), []⟩])
 (.ret))) (.skip)))))))
 (.seq (.seq (.reg [] [⟨some 60, none, .mv (.t 0), []⟩, ⟨some 61, none, .nilchk (.t 60), []⟩, ⟨some 62, none, .fa 2 (.t 61), []⟩, ⟨some 63, none, .ld 1 false (.t 62), []⟩, ⟨some 64, none, .len (.t 63), []⟩, ⟨some 65, none, .bi .eql .i64 (.t 64) (.k (.int .i64 0)), []⟩])
 (.cond (.t 65) (.seq (.reg [] [⟨some 66, none, .bld [.str [], .sl .nil 1 []] [], []⟩, ⟨none, none, .st 2 (.t 4) (.t 66), []⟩, ⟨some 5, none, .mv (.k (.int .i64 0)), []⟩])
 (.ret)) (.skip)))
 (.seq (.reg [0, 1, 2, 3, 4, 5, 6, 7, 8, 9, 10, 11, 12, 13, 14, 15, 16, 17, 18, 19, 20, 21, 22, 23, 24, 25, 26, 27, 28, 29, 30] [⟨some 67, none, .mv (.t 0), []⟩, ⟨some 68, none, .nilchk (.t 67), []⟩, ⟨some 69, none, .fa 0 (.t 68), []⟩, ⟨some 70, none, .ld 1 false (.t 69), []⟩, ⟨some 71, none, .mv (.t 1), []⟩, ⟨some 72, none, .bi .sub .i64 (.t 71) (.k (.int .i64 1)), []⟩, ⟨some 73, none, .mv (.t 0), []⟩, ⟨some 74, none, .nilchk (.t 73), []⟩, ⟨some 75, none, .fa 1 (.t 74), []⟩, ⟨some 76, none, .ld 1 false (.t 75), []⟩, ⟨some 77, none, .mv (.t 1), []⟩, ⟨some 78, none, .bi .sub .i64 (.t 77) (.k (.int .i64 1)), []⟩, ⟨some 79, none, .mv (.t 0), []⟩, ⟨some 80, none, .mv (.t 0), []⟩, ⟨some 81, none, .nilchk (.t 80), []⟩, ⟨some 82, none, .fa 2 (.t 81), []⟩, ⟨some 83, none, .ld 1 false (.t 82), []⟩, ⟨some 84, none, .ia 2 (.t 83) (.k (.int .i64 0)), []⟩, ⟨some 85, none, .ld 2 true (.t 84), []⟩, ⟨some 86, none, .mv (.t 0), []⟩, ⟨some 87, none, .nilchk (.t 86), []⟩, ⟨some 88, none, .fa 2 (.t 87), []⟩, ⟨some 89, none, .ld 1 false (.t 88), []⟩, ⟨some 90, none, .sll 2 (.t 89) (some (.k (.int .i64 1))) none none, []⟩, ⟨some 91, none, .ia 1 (.t 70) (.t 72), []⟩, ⟨none, none, .st 1 (.t 91) (.k (.int .i64 1)), []⟩, ⟨some 92, none, .ia 2 (.t 76) (.t 78), []⟩, ⟨none, none, .st 2 (.t 92) (.t 85), []⟩, ⟨some 93, none, .nilchk (.t 79), []⟩, ⟨some 94, none, .fa 2 (.t 93), []⟩, ⟨none, none, .st 1 (.t 94) (.t 90), []⟩])
 (.seq (.reg [] [⟨some 95, none, .mv (.t 0), []⟩, ⟨some 96, none, .nilchk (.t 95), []⟩, ⟨some 97, none, .fa 1 (.t 96), []⟩, ⟨some 98, none, .ld 1 false (.t 97), []⟩, ⟨some 99, none, .mv (.t 1), []⟩, ⟨some 100, none, .bi .sub .i64 (.t 99) (.k (.int .i64 1)), []⟩, ⟨some 101, none, .ia 2 (.t 98) (.t 100), []⟩, ⟨some 102, none, .ld 2 true (.t 101), []⟩, ⟨none, none, .st 2 (.t 4) (.t 102), []⟩, ⟨some 5, none, .mv (.k (.int .i64 1)), []⟩])
 (.ret))))))⟩
theorem ck47 : chkFn Try.prog 47 ir47 = true := by kernel_rfl
def ir48 : AFn := ⟨7, 1, [], .seq (.reg [] [⟨some 2, none, .mv (.t 0), []⟩, ⟨some 3, none, .isnn .p (.t 2), []⟩])
 (.cond (.t 3) (.reg [] [⟨some 4, none, .mv (.t 0), []⟩, ⟨some 5, none, .nilchk (.t 4), []⟩, ⟨some 6, none, .fa 1 (.t 5), []⟩, ⟨none, none, .st 1 (.t 6) (.k (.sl .nil 2 [])), []⟩]) (.skip))⟩
theorem ck48 : chkFn Try.prog 48 ir48 = true := by kernel_rfl
def ir49 : AFn := ⟨26, 2, [.t 4], .seq (.reg [] [⟨some 4, none, .mv (.k (.bool false)), []⟩])
 (.seq (.seq (.reg [] [⟨some 6, none, .mv (.t 0), []⟩, ⟨some 7, none, .len (.t 6), []⟩, ⟨some 8, none, .mv (.t 1), []⟩, ⟨some 9, none, .len (.t 8), []⟩, ⟨some 10, none, .bi .neq .i64 (.t 7) (.t 9), []⟩])
 (.cond (.t 10) (.seq (.reg [] [⟨some 4, none, .mv (.k (.bool false)), []⟩])
 (.ret)) (.skip)))
 (.seq (.seq (.reg [] [⟨some 5, none, .mv (.k (.int .i64 0)), []⟩])
 (.block 0 (.loop [0, 1, 5] (.seq (.seq (.reg [] [⟨some 11, none, .mv (.t 5), []⟩, ⟨some 12, none, .mv (.t 0), []⟩, ⟨some 13, none, .len (.t 12), []⟩, ⟨some 14, none, .bi .lss .i64 (.t 11) (.t 13), []⟩])
 (.cond (.t 14) (.skip) (.exit 0)))
 (.seq (.block 1 (.seq (.reg [0, 1, 2, 3, 4, 5, 6, 7, 8] [⟨some 17, none, .mv (.t 0), []⟩, ⟨some 18, none, .mv (.t 5), []⟩, ⟨some 19, none, .ia 1 (.t 17) (.t 18), []⟩, ⟨some 20, none, .ld 1 false (.t 19), []⟩, ⟨some 21, none, .mv (.t 1), []⟩, ⟨some 22, none, .mv (.t 5), []⟩, ⟨some 23, none, .ia 1 (.t 21) (.t 22), []⟩, ⟨some 24, none, .ld 1 false (.t 23), []⟩, ⟨some 25, none, .bi .neq .i64 (.t 20) (.t 24), []⟩])
 (.cond (.t 25) (.seq (.reg [] [⟨some 4, none, .mv (.k (.bool false)), []⟩])
 (.ret)) (.skip))))
 (.reg [] [⟨some 15, none, .mv (.t 5), []⟩, ⟨some 16, none, .bi .add .i64 (.t 15) (.k (.int .i64 1)), []⟩, ⟨some 5, none, .mv (.t 16), []⟩]))))))
 (.seq (.reg [] [⟨some 4, none, .mv (.k (.bool true)), []⟩])
 (.ret))))⟩
theorem ck49 : chkFn Try.prog 49 ir49 = true := by kernel_rfl
def ir50 : AFn := ⟨36, 1, [.t 2], .seq (.reg [] [⟨some 2, none, .mv (.k (.sl .nil 1 [])), []⟩])
 (.seq (.reg [] [⟨some 3, none, .mv (.k (.sl .nil 1 [])), []⟩])
 (.seq (.seq (.reg [] [⟨some 4, none, .mv (.k (.int .i64 1)), []⟩])
 (.block 0 (.loop [0, 3, 4] (.seq (.seq (.reg [] [⟨some 5, none, .mv (.t 4), []⟩, ⟨some 6, none, .mv (.t 0), []⟩, ⟨some 7, none, .nilchk (.t 6), []⟩, ⟨some 8, none, .fa 0 (.t 7), []⟩, ⟨some 9, none, .ld 1 false (.t 8), []⟩, ⟨some 10, none, .len (.t 9), []⟩, ⟨some 11, none, .bi .leq .i64 (.t 5) (.t 10), []⟩])
 (.cond (.t 11) (.skip) (.exit 0)))
 (.seq (.block 1 (.seq (.reg [] [⟨some 14, none, .mv (.t 0), []⟩, ⟨some 15, none, .nilchk (.t 14), []⟩, ⟨some 16, none, .fa 0 (.t 15), []⟩, ⟨some 17, none, .ld 1 false (.t 16), []⟩, ⟨some 18, none, .mv (.t 4), []⟩, ⟨some 19, none, .bi .sub .i64 (.t 18) (.k (.int .i64 1)), []⟩, ⟨some 20, none, .ia 1 (.t 17) (.t 19), []⟩, ⟨some 21, none, .ld 1 false (.t 20), []⟩, ⟨some 22, none, .bi .gtr .i64 (.t 21) (.k (.int .i64 0)), []⟩, ⟨some 23, none, .mv (.t 22), []⟩, ⟨some 24, (some (23, false)), .mv (.t 0), []⟩, ⟨some 25, (some (23, false)), .nilchk (.t 24), []⟩, ⟨some 26, (some (23, false)), .fa 2 (.t 25), []⟩, ⟨some 27, (some (23, false)), .ld 1 false (.t 26), []⟩, ⟨some 28, (some (23, false)), .len (.t 27), []⟩, ⟨some 29, (some (23, false)), .bi .gtr .i64 (.t 28) (.k (.int .i64 0)), []⟩, ⟨some 30, none, .pick (.t 23) (.k (.bool true)) (.t 29), []⟩])
 (.cond (.t 30) (.reg [] [⟨some 31, none, .mv (.t 3), []⟩, ⟨some 32, none, .mv (.t 4), []⟩, ⟨some 33, none, .bls 1 1 [.int .i64 0] [(0, (.t 32))], []⟩, ⟨some 34, none, .app 1 8 (.t 31) (.t 33), []⟩, ⟨some 3, none, .mv (.t 34), []⟩]) (.skip))))
 (.reg [] [⟨some 12, none, .mv (.t 4), []⟩, ⟨some 13, none, .bi .add .i64 (.t 12) (.k (.int .i64 1)), []⟩, ⟨some 4, none, .mv (.t 13), []⟩]))))))
 (.seq (.reg [] [⟨some 35, none, .mv (.t 3), []⟩, ⟨some 2, none, .mv (.t 35), []⟩])
 (.ret))))⟩
theorem ck50 : chkFn Try.prog 50 ir50 = true := by kernel_rfl
def ir51 : AFn := ⟨25, 1, [.t 2], .seq (.reg [] [⟨some 2, none, .mv (.k (.int .i64 0)), []⟩])
 (.seq (.reg [] [⟨some 3, none, .mv (.k (.int .i64 0)), []⟩])
 (.seq (.seq (.reg [] [⟨some 4, none, .mv (.k (.int .i64 0)), []⟩])
 (.block 0 (.loop [0, 3, 4] (.seq (.seq (.reg [] [⟨some 5, none, .mv (.t 4), []⟩, ⟨some 6, none, .mv (.t 0), []⟩, ⟨some 7, none, .nilchk (.t 6), []⟩, ⟨some 8, none, .fa 0 (.t 7), []⟩, ⟨some 9, none, .ld 1 false (.t 8), []⟩, ⟨some 10, none, .len (.t 9), []⟩, ⟨some 11, none, .bi .lss .i64 (.t 5) (.t 10), []⟩])
 (.cond (.t 11) (.skip) (.exit 0)))
 (.seq (.block 1 (.seq (.reg [] [⟨some 14, none, .mv (.t 0), []⟩, ⟨some 15, none, .nilchk (.t 14), []⟩, ⟨some 16, none, .fa 0 (.t 15), []⟩, ⟨some 17, none, .ld 1 false (.t 16), []⟩, ⟨some 18, none, .mv (.t 4), []⟩, ⟨some 19, none, .ia 1 (.t 17) (.t 18), []⟩, ⟨some 20, none, .ld 1 false (.t 19), []⟩, ⟨some 21, none, .bi .gtr .i64 (.t 20) (.k (.int .i64 0)), []⟩])
 (.cond (.t 21) (.reg [] [⟨some 22, none, .mv (.t 3), []⟩, ⟨some 23, none, .bi .add .i64 (.t 22) (.k (.int .i64 1)), []⟩, ⟨some 3, none, .mv (.t 23), []⟩]) (.skip))))
 (.reg [] [⟨some 12, none, .mv (.t 4), []⟩, ⟨some 13, none, .bi .add .i64 (.t 12) (.k (.int .i64 1)), []⟩, ⟨some 4, none, .mv (.t 13), []⟩]))))))
 (.seq (.reg [] [⟨some 24, none, .mv (.t 3), []⟩, ⟨some 2, none, .mv (.t 24), []⟩])
 (.ret))))⟩
theorem ck51 : chkFn Try.prog 51 ir51 = true := by kernel_rfl
def ir54 : AFn := ⟨8, 1, [.t 2], .seq (.reg [] [⟨some 2, none, .mv (.k (.sl .nil 1 [])), []⟩])
 (.seq (.seq (.reg [] [⟨some 3, none, .mv (.t 0), []⟩, ⟨some 4, none, .isnil .s (.t 3), []⟩])
 (.cond (.t 4) (.seq (.reg [] [⟨some 2, none, .mv (.k (.sl .nil 1 [])), []⟩])
 (.ret)) (.skip)))
 (.seq (.reg [] [⟨some 5, none, .bls 1 0 [.str []] [], []⟩, ⟨some 6, none, .mv (.t 0), []⟩, ⟨some 7, none, .app 1 16 (.t 5) (.t 6), []⟩, ⟨some 2, none, .mv (.t 7), []⟩])
 (.ret)))⟩
theorem ck54 : chkFn Try.prog 54 ir54 = true := by kernel_rfl
def ir55 : AFn := ⟨25, 1, [.t 2], .seq (.reg [] [⟨some 2, none, .mv (.k (.int .i64 0)), []⟩])
 (.seq (.seq (.reg [] [⟨some 5, none, .mv (.t 0), []⟩, ⟨some 6, none, .len (.t 5), []⟩, ⟨some 7, none, .bi .lss .i64 (.t 6) (.k (.int .i64 1)), []⟩])
 (.cond (.t 7) (.reg [] [⟨some 8, none, .mki 9 (.k (.str [115, 108, 105, 99, 101, 115, 46, 77, 105, 110, 58, 32, 101, 109, 112, 116, 121, 32, 108, 105, 115, 116])), []⟩, ⟨none, none, .pan (.t 8), []⟩]) (.skip)))
 (.seq (.reg [] [⟨some 9, none, .mv (.t 0), []⟩, ⟨some 10, none, .ia 1 (.t 9) (.k (.int .i64 0)), []⟩, ⟨some 11, none, .ld 1 false (.t 10), []⟩, ⟨some 3, none, .mv (.t 11), []⟩])
 (.seq (.seq (.reg [] [⟨some 4, none, .mv (.k (.int .i64 1)), []⟩])
 (.block 0 (.loop [0, 3, 4] (.seq (.seq (.reg [] [⟨some 12, none, .mv (.t 4), []⟩, ⟨some 13, none, .mv (.t 0), []⟩, ⟨some 14, none, .len (.t 13), []⟩, ⟨some 15, none, .bi .lss .i64 (.t 12) (.t 14), []⟩])
 (.cond (.t 15) (.skip) (.exit 0)))
 (.seq (.block 1 (.reg [] [⟨some 18, none, .mv (.t 3), []⟩, ⟨some 19, none, .mv (.t 0), []⟩, ⟨some 20, none, .mv (.t 4), []⟩, ⟨some 21, none, .ia 1 (.t 19) (.t 20), []⟩, ⟨some 22, none, .ld 1 false (.t 21), []⟩, ⟨some 23, none, .mm false (.t 18) [(.t 22)], []⟩, ⟨some 3, none, .mv (.t 23), []⟩]))
 (.reg [] [⟨some 16, none, .mv (.t 4), []⟩, ⟨some 17, none, .bi .add .i64 (.t 16) (.k (.int .i64 1)), []⟩, ⟨some 4, none, .mv (.t 17), []⟩]))))))
 (.seq (.reg [] [⟨some 24, none, .mv (.t 3), []⟩, ⟨some 2, none, .mv (.t 24), []⟩])
 (.ret)))))⟩
theorem ck55 : chkFn Try.prog 55 ir55 = true := by kernel_rfl
def ir59 : AFn := ⟨8, 1, [.c 2 2 true], .seq (.reg [] [⟨some 1, none, .box (.t 0), []⟩, ⟨some 2, none, .alloc [.str [], .sl .nil 1 []], []⟩])
 (.seq (.reg [] [⟨some 3, none, .fa 1 (.t 1), []⟩, ⟨some 4, none, .ld 1 false (.t 3), []⟩, ⟨some 5, none, .call 54 [(.t 4)], []⟩, ⟨some 6, none, .fa 1 (.t 1), []⟩, ⟨none, none, .st 1 (.t 6) (.t 5), []⟩])
 (.seq (.reg [] [⟨some 7, none, .ld 2 true (.t 1), []⟩, ⟨none, none, .st 2 (.t 2) (.t 7), []⟩])
 (.ret)))⟩
theorem ck59 : chkFn Try.prog 59 ir59 = true := by kernel_rfl
def ir60 : AFn := ⟨40, 2, [.t 4], .seq (.reg [] [⟨some 4, none, .mv (.k (.bool false)), []⟩])
 (.seq (.reg [] [⟨some 5, none, .mv (.t 0), []⟩, ⟨some 6, none, .isnn .p (.t 5), []⟩, ⟨some 7, none, .mv (.t 6), []⟩, ⟨some 8, (some (7, true)), .mv (.t 1), []⟩, ⟨some 9, (some (7, true)), .bi .geq .i64 (.t 8) (.k (.int .i64 1)), []⟩, ⟨some 10, none, .pick (.t 7) (.t 9) (.k (.bool false)), []⟩, ⟨some 11, none, .mv (.t 10), []⟩, ⟨some 12, (some (11, true)), .mv (.t 1), []⟩, ⟨some 13, (some (11, true)), .mv (.t 0), []⟩, ⟨some 14, (some (11, true)), .nilchk (.t 13), []⟩, ⟨some 15, (some (11, true)), .fa 0 (.t 14), []⟩, ⟨some 16, (some (11, true)), .ld 1 false (.t 15), []⟩, ⟨some 17, (some (11, true)), .len (.t 16), []⟩, ⟨some 18, (some (11, true)), .bi .leq .i64 (.t 12) (.t 17), []⟩, ⟨some 19, none, .pick (.t 11) (.t 18) (.k (.bool false)), []⟩, ⟨some 20, none, .mv (.t 19), []⟩, ⟨some 21, (some (20, true)), .mv (.t 0), []⟩, ⟨some 22, (some (20, true)), .nilchk (.t 21), []⟩, ⟨some 23, (some (20, true)), .fa 0 (.t 22), []⟩, ⟨some 24, (some (20, true)), .ld 1 false (.t 23), []⟩, ⟨some 25, (some (20, true)), .mv (.t 1), []⟩, ⟨some 26, (some (20, true)), .bi .sub .i64 (.t 25) (.k (.int .i64 1)), []⟩, ⟨some 27, (some (20, true)), .ia 3 (.t 24) (.t 26), []⟩, ⟨some 28, (some (20, true)), .fa 0 (.t 27), []⟩, ⟨some 29, (some (20, true)), .ld 1 false (.t 28), []⟩, ⟨some 30, (some (20, true)), .bi .neq .i64 (.t 29) (.k (.int .i64 0)), []⟩, ⟨some 31, (some (20, true)), .mv (.t 30), []⟩, ⟨some 32, (some (31, false)), .mv (.t 0), []⟩, ⟨some 33, (some (31, false)), .nilchk (.t 32), []⟩, ⟨some 34, (some (31, false)), .fa 1 (.t 33), []⟩, ⟨some 35, (some (31, false)), .ld 1 false (.t 34), []⟩, ⟨some 36, (some (31, false)), .len (.t 35), []⟩, ⟨some 37, (some (31, false)), .bi .gtr .i64 (.t 36) (.k (.int .i64 0)), []⟩, ⟨some 38, (some (20, true)), .pick (.t 31) (.k (.bool true)) (.t 37), []⟩, ⟨some 39, none, .pick (.t 20) (.t 38) (.k (.bool false)), []⟩, ⟨some 4, none, .mv (.t 39), []⟩])
 (.ret))⟩
theorem ck60 : chkFn Try.prog 60 ir60 = true := by kernel_rfl
end Go.Proofs.Ythkpgjnibolnhaa
namespace Go.Proofs.Ythkpgjnibolnhaa
open Go.Ab
theorem mid {α : Type} (f : α → List AV) (a : List α) (x : α) (b : List α) : ((a ++ x :: b).map f).getD a.length [] = f x := by simp
def cT (l : List (List UInt8)) : List (List AV) := l.map fun k => [.str k]
theorem cT_length (l : List (List UInt8)) : (cT l).length = l.length := by simp [cT]
theorem cT_strip (l : List (List UInt8)) : (cT l).map (·.map AV.strip1) = cT l := by simp [cT, AV.strip1]
theorem cloneS (l : List (List UInt8)) (hl : l.length * 16 ≤ 140737488355328) : Pure Try.prog 54 [.sl .no 1 (cT l)] (.sl .no 1 (cT l)) := by
  refine Pure.go ir54 ck54 (Nat.le_refl _) fun KP Q hQ => ?_
  simp (disch := first | omega | assumption) only [ir54, steps, mkArgs, pev, rev, oev, optr, ibin, sbin, bound, mmAll, mm2, mk, AV.cells, AV.boxable, AV.one, fillA, fillS, splice_cons, splice_succ, splice_zero, Nat.reduceEqDiff, reduceCtorEq, ↓reduceIte, Nat.reduceAdd, Int.reduceNeg, decide_true, decide_false, List.take_succ_cons, List.take_zero, List.drop_succ_cons, List.drop_zero, List.length_cons, List.length_nil, List.headD_cons, List.cons_append, List.nil_append, Option.map_some, Bool.not_true, Bool.not_false, Bool.false_eq_true, eq_self, List.replicate_zero, List.replicate_succ, List.set_cons_zero, List.set_cons_succ, Nat.lt_add_one, Nat.zero_lt_succ, Nat.le_refl, Nat.reduceLeDiff, Nat.reduceAdd, if_pos, upd_ne, List.getElem?_cons_succ, List.getElem?_cons_zero, Option.some.injEq, Int.cast_ofNat_Int, Int.reduceToNat, Int.reduceEq, List.getD_cons_zero, List.getD_cons_succ, Int.reduceLT, Int.reduceLE]
  refine goB_u (fun h => ?_) ?_
  · simp (disch := first | omega | assumption) only [steps, mkArgs, pev, rev, oev, optr, ibin, sbin, bound, mmAll, mm2, mk, AV.cells, AV.boxable, AV.one, fillA, fillS, splice_cons, splice_succ, splice_zero, Nat.reduceEqDiff, reduceCtorEq, ↓reduceIte, Nat.reduceAdd, Int.reduceNeg, decide_true, decide_false, List.take_succ_cons, List.take_zero, List.drop_succ_cons, List.drop_zero, List.length_cons, List.length_nil, List.headD_cons, List.cons_append, List.nil_append, Option.map_some, Bool.not_true, Bool.not_false, Bool.false_eq_true, eq_self, List.replicate_zero, List.replicate_succ, List.set_cons_zero, List.set_cons_succ, Nat.lt_add_one, Nat.zero_lt_succ, Nat.le_refl, Nat.reduceLeDiff, Nat.reduceAdd, if_pos, upd_ne, List.getElem?_cons_succ, List.getElem?_cons_zero, Option.some.injEq, Int.cast_ofNat_Int, Int.reduceToNat, Int.reduceEq, List.getD_cons_zero, List.getD_cons_succ, Int.reduceLT, Int.reduceLE]
    refine hQ _ _ _ _ nofun rfl ?_
    simp [tupOf, envOf, AV.strip, AV.strip1, h]
  · simp (disch := first | omega | assumption) only [steps, mkArgs, pev, rev, oev, optr, ibin, sbin, bound, mmAll, mm2, mk, AV.cells, AV.boxable, AV.one, fillA, fillS, splice_cons, splice_succ, splice_zero, Nat.reduceEqDiff, reduceCtorEq, ↓reduceIte, Nat.reduceAdd, Int.reduceNeg, decide_true, decide_false, List.take_succ_cons, List.take_zero, List.drop_succ_cons, List.drop_zero, List.length_cons, List.length_nil, List.headD_cons, List.cons_append, List.nil_append, Option.map_some, Bool.not_true, Bool.not_false, Bool.false_eq_true, eq_self, List.replicate_zero, List.replicate_succ, List.set_cons_zero, List.set_cons_succ, Nat.lt_add_one, Nat.zero_lt_succ, Nat.le_refl, Nat.reduceLeDiff, Nat.reduceAdd, if_pos, upd_ne, List.getElem?_cons_succ, List.getElem?_cons_zero, Option.some.injEq, Int.cast_ofNat_Int, Int.reduceToNat, Int.reduceEq, List.getD_cons_zero, List.getD_cons_succ, Int.reduceLT, Int.reduceLE]
    refine goP_own (Owned.full _ _ _) ?_ ?_ fun o' H' h1 h2 h3 => ?_
    · simp [cT_length]; omega
    · simp [cT_length, maxLen]; omega
    · simp (disch := first | omega | assumption) only [steps, mkArgs, pev, rev, oev, optr, ibin, sbin, bound, mmAll, mm2, mk, AV.cells, AV.boxable, AV.one, fillA, fillS, splice_cons, splice_succ, splice_zero, Nat.reduceEqDiff, reduceCtorEq, ↓reduceIte, Nat.reduceAdd, Int.reduceNeg, decide_true, decide_false, List.take_succ_cons, List.take_zero, List.drop_succ_cons, List.drop_zero, List.length_cons, List.length_nil, List.headD_cons, List.cons_append, List.nil_append, Option.map_some, Bool.not_true, Bool.not_false, Bool.false_eq_true, eq_self, List.replicate_zero, List.replicate_succ, List.set_cons_zero, List.set_cons_succ, Nat.lt_add_one, Nat.zero_lt_succ, Nat.le_refl, Nat.reduceLeDiff, Nat.reduceAdd, if_pos, upd_ne, List.getElem?_cons_succ, List.getElem?_cons_zero, Option.some.injEq, Int.cast_ofNat_Int, Int.reduceToNat, Int.reduceEq, List.getD_cons_zero, List.getD_cons_succ, Int.reduceLT, Int.reduceLE]
      refine hQ _ _ _ _ nofun rfl ?_
      simp [tupOf, envOf, AV.strip, AV.strip1, cT_strip]
structure Batch where
  table : List UInt8
  keys : List (List UInt8)
def cB (b : Batch) : List AV := [.str b.table, .sl .no 1 (cT b.keys)]
def cBs (l : List Batch) : List (List AV) := l.map cB
theorem cBs_length (l : List Batch) : (cBs l).length = l.length := by simp [cBs]
theorem cBs_strip (l : List Batch) : (cBs l).map (·.map AV.strip1) = cBs l := by simp [cBs, cB, AV.strip1]
def Batch.small (b : Batch) : Prop := b.keys.length * 16 ≤ 140737488355328
theorem batchC (b : Batch) (hb : b.small) : Pure Try.prog 59 [.agg (cB b)] (.agg (cB b)) := by
  refine Pure.go ir59 ck59 (Nat.le_refl _) fun KP Q hQ => ?_
  simp (disch := first | omega | assumption) only [ir59, cB, steps, mkArgs, pev, rev, oev, optr, ibin, sbin, bound, mmAll, mm2, mk, AV.cells, AV.boxable, AV.one, fillA, fillS, splice_cons, splice_succ, splice_zero, Nat.reduceEqDiff, reduceCtorEq, ↓reduceIte, Nat.reduceAdd, Int.reduceNeg, decide_true, decide_false, List.take_succ_cons, List.take_zero, List.drop_succ_cons, List.drop_zero, List.length_cons, List.length_nil, List.headD_cons, List.cons_append, List.nil_append, Option.map_some, Bool.not_true, Bool.not_false, Bool.false_eq_true, eq_self, List.replicate_zero, List.replicate_succ, List.set_cons_zero, List.set_cons_succ, Nat.lt_add_one, Nat.zero_lt_succ, Nat.le_refl, Nat.reduceLeDiff, Nat.reduceAdd, if_pos, upd_ne, List.getElem?_cons_succ, List.getElem?_cons_zero, Option.some.injEq, Int.cast_ofNat_Int, Int.reduceToNat, Int.reduceEq, List.getD_cons_zero, List.getD_cons_succ, Int.reduceLT, Int.reduceLE]
  refine goA_intro fun b1 hb1 => ?_
  simp (disch := first | omega | assumption) only [steps, mkArgs, pev, rev, oev, optr, ibin, sbin, bound, mmAll, mm2, mk, AV.cells, AV.boxable, AV.one, fillA, fillS, splice_cons, splice_succ, splice_zero, Nat.reduceEqDiff, reduceCtorEq, ↓reduceIte, Nat.reduceAdd, Int.reduceNeg, decide_true, decide_false, List.take_succ_cons, List.take_zero, List.drop_succ_cons, List.drop_zero, List.length_cons, List.length_nil, List.headD_cons, List.cons_append, List.nil_append, Option.map_some, Bool.not_true, Bool.not_false, Bool.false_eq_true, eq_self, List.replicate_zero, List.replicate_succ, List.set_cons_zero, List.set_cons_succ, Nat.lt_add_one, Nat.zero_lt_succ, Nat.le_refl, Nat.reduceLeDiff, Nat.reduceAdd, if_pos, upd_ne, List.getElem?_cons_succ, List.getElem?_cons_zero, Option.some.injEq, Int.cast_ofNat_Int, Int.reduceToNat, Int.reduceEq, List.getD_cons_zero, List.getD_cons_succ, Int.reduceLT, Int.reduceLE]
  refine goA_intro fun b2 hb2 => ?_
  have hn := ne_fresh hb2
  simp (disch := first | omega | assumption) only [steps, mkArgs, pev, rev, oev, optr, ibin, sbin, bound, mmAll, mm2, mk, AV.cells, AV.boxable, AV.one, fillA, fillS, splice_cons, splice_succ, splice_zero, Nat.reduceEqDiff, reduceCtorEq, ↓reduceIte, Nat.reduceAdd, Int.reduceNeg, decide_true, decide_false, List.take_succ_cons, List.take_zero, List.drop_succ_cons, List.drop_zero, List.length_cons, List.length_nil, List.headD_cons, List.cons_append, List.nil_append, Option.map_some, Bool.not_true, Bool.not_false, Bool.false_eq_true, eq_self, List.replicate_zero, List.replicate_succ, List.set_cons_zero, List.set_cons_succ, Nat.lt_add_one, Nat.zero_lt_succ, Nat.le_refl, Nat.reduceLeDiff, Nat.reduceAdd, if_pos, upd_ne, List.getElem?_cons_succ, List.getElem?_cons_zero, Option.some.injEq, Int.cast_ofNat_Int, Int.reduceToNat, Int.reduceEq, List.getD_cons_zero, List.getD_cons_succ, Int.reduceLT, Int.reduceLE]
  refine goK_pure (cloneS b.keys hb) ?_
  simp (disch := first | omega | assumption) only [steps, mkArgs, pev, rev, oev, optr, ibin, sbin, bound, mmAll, mm2, mk, AV.cells, AV.boxable, AV.one, fillA, fillS, splice_cons, splice_succ, splice_zero, Nat.reduceEqDiff, reduceCtorEq, ↓reduceIte, Nat.reduceAdd, Int.reduceNeg, decide_true, decide_false, List.take_succ_cons, List.take_zero, List.drop_succ_cons, List.drop_zero, List.length_cons, List.length_nil, List.headD_cons, List.cons_append, List.nil_append, Option.map_some, Bool.not_true, Bool.not_false, Bool.false_eq_true, eq_self, List.replicate_zero, List.replicate_succ, List.set_cons_zero, List.set_cons_succ, Nat.lt_add_one, Nat.zero_lt_succ, Nat.le_refl, Nat.reduceLeDiff, Nat.reduceAdd, if_pos, upd_ne, List.getElem?_cons_succ, List.getElem?_cons_zero, Option.some.injEq, Int.cast_ofNat_Int, Int.reduceToNat, Int.reduceEq, List.getD_cons_zero, List.getD_cons_succ, Int.reduceLT, Int.reduceLE]
  refine hQ _ _ _ [.agg (cB b)] nofun (by simp (disch := first | omega | assumption) only [ir59, resvs, resv, cB, steps, mkArgs, pev, rev, oev, optr, ibin, sbin, bound, mmAll, mm2, mk, AV.cells, AV.boxable, AV.one, fillA, fillS, splice_cons, splice_succ, splice_zero, Nat.reduceEqDiff, reduceCtorEq, ↓reduceIte, Nat.reduceAdd, Int.reduceNeg, decide_true, decide_false, List.take_succ_cons, List.take_zero, List.drop_succ_cons, List.drop_zero, List.length_cons, List.length_nil, List.headD_cons, List.cons_append, List.nil_append, Option.map_some, Bool.not_true, Bool.not_false, Bool.false_eq_true, eq_self, List.replicate_zero, List.replicate_succ, List.set_cons_zero, List.set_cons_succ, Nat.lt_add_one, Nat.zero_lt_succ, Nat.le_refl, Nat.reduceLeDiff, Nat.reduceAdd, if_pos, upd_ne, List.getElem?_cons_succ, List.getElem?_cons_zero, Option.some.injEq, Int.cast_ofNat_Int, Int.reduceToNat, Int.reduceEq, List.getD_cons_zero, List.getD_cons_succ, Int.reduceLT, Int.reduceLE]) ?_
  simp [tupOf, cB, AV.strip, AV.strip1]
def cW (x : Int × Batch) : List AV := [.int .i64 x.1, .str x.2.table, .sl .no 1 (cT x.2.keys)]
def cWs (ws : List (Int × Batch)) : List AV := (ws.map cW).flatten
theorem split_at {α : Type} {l : List α} {i : Nat} (h : i < l.length) : ∃ a x b, l = a ++ x :: b ∧ a.length = i :=
  ⟨l.take i, l[i], l.drop (i + 1), by simp, by simp; omega⟩
theorem cWs_length (ws : List (Int × Batch)) : (cWs ws).length = ws.length * 3 := by
  induction ws with
  | nil => rfl
  | cons x r ih => simp only [cWs, List.map_cons, List.flatten_cons, List.length_append, List.length_cons] at ih ⊢; rw [ih]; simp [cW]; omega
theorem cWs_append (a b : List (Int × Batch)) : cWs (a ++ b) = cWs a ++ cWs b := by simp [cWs]
theorem cWs_cons (x : Int × Batch) (b : List (Int × Batch)) : cWs (x :: b) = cW x ++ cWs b := by simp [cWs]
theorem cWs_drop (a : List (Int × Batch)) (x : Int × Batch) (b : List (Int × Batch)) (j : Nat) : (cWs (a ++ x :: b)).drop (a.length * 3 + j) = (cW x ++ cWs b).drop j := by
  rw [cWs_append, cWs_cons, ← cWs_length, List.drop_append]
  simp
structure CrewAt (H : Heap) (c l : Nat) (o : Own) (ws : List (Int × Batch)) (q : List Batch) : Prop where
  hc : H c = some (.cells [.ms l 0 ws.length ws.length, .sl o 2 (cBs q)])
  hl : H l = some (.cells (cWs ws))
  ne : c ≠ l
  own : Owned H o q.length 2
theorem Owned.sub {H H' : Heap} {o : Own} {n sz : Nat} (h : Owned H o n sz) (hs : Sub H H') : Owned H' o n sz := by
  cases o with
  | tip b d => exact hs _ _ h
  | _ => exact h
theorem CrewAt.sub {H H' : Heap} {c l : Nat} {o : Own} {ws : List (Int × Batch)} {q : List Batch} (h : CrewAt H c l o ws q) (hs : Sub H H') : CrewAt H' c l o ws q := ⟨hs _ _ h.hc, hs _ _ h.hl, h.ne, Owned.sub h.own hs⟩
def stage (ws : List (Int × Batch)) (i : Nat) : Int := (ws.map (·.1)).getD i 0
def canW (ws : List (Int × Batch)) (q : List Batch) (w : Int) : Bool := decide (1 ≤ w) && (decide (w ≤ ws.length) && (decide (stage ws (w - 1).toNat ≠ 0) || decide (0 < q.length)))
theorem stage_mid (a : List (Int × Batch)) (x : Int × Batch) (b : List (Int × Batch)) : stage (a ++ x :: b) a.length = x.1 := by simp [stage]
theorem canC {H : Heap} {c l : Nat} {o : Own} {ws : List (Int × Batch)} {q : List Batch} (hc : CrewAt H c l o ws q) (w : Int) (hn : ws.length ≤ 16) :
    ACalls Try.prog 60 [.ptr c 0, .int .i64 w] H (fun e H' => ∃ v, e = .ret v ∧ (v = .bool (canW ws q w) ∧ H' = H)) := by
  obtain ⟨h1, h2, h3, h4⟩ := hc
  refine ACalls.go ir60 ck60 (Nat.le_refl _) fun KP Q hQ => ?_
  have hql := cBs_length q
  by_cases hw1 : 1 ≤ w
  · by_cases hw2 : w ≤ ws.length
    · obtain ⟨a, x, b, rfl, ha⟩ := split_at (l := ws) (i := (w - 1).toNat) (by omega)
      have hw : w - 1 = (a.length : Int) := by omega
      have hlt : (a.length : Int) < ((a ++ x :: b).length : Nat) := by simp; omega
      have hr := cWs_drop a x b 0
      have hlen := cWs_length (a ++ x :: b)
      have hb : a.length * 3 + 1 ≤ (cWs (a ++ x :: b)).length := by rw [hlen]; simp; omega
      simp only [Nat.add_zero, List.drop_zero] at hr
      have hst := stage_mid a x b
      have hw3 := hw2
      simp only [List.length_append, List.length_cons] at hw3
      by_cases hx : x.1 = 0
      · simp (disch := first | omega | assumption) only [ir60, h1, h2, hw1, hw2, wrap64, hw, hlt, Int.toNat_natCast, Nat.zero_add, Nat.add_zero, hb, hr, cW, hx, ne_eq, not_true_eq_false, hql, steps, mkArgs, pev, rev, oev, optr, ibin, sbin, bound, mmAll, mm2, mk, AV.cells, AV.boxable, AV.one, fillA, fillS, splice_cons, splice_succ, splice_zero, Nat.reduceEqDiff, reduceCtorEq, ↓reduceIte, Nat.reduceAdd, Int.reduceNeg, decide_true, decide_false, List.take_succ_cons, List.take_zero, List.drop_succ_cons, List.drop_zero, List.length_cons, List.length_nil, List.headD_cons, List.cons_append, List.nil_append, Option.map_some, Bool.not_true, Bool.not_false, Bool.false_eq_true, eq_self, List.replicate_zero, List.replicate_succ, List.set_cons_zero, List.set_cons_succ, Nat.lt_add_one, Nat.zero_lt_succ, Nat.le_refl, Nat.reduceLeDiff, Nat.reduceAdd, if_pos, upd_ne, List.getElem?_cons_succ, List.getElem?_cons_zero, Option.some.injEq, Int.cast_ofNat_Int, Int.reduceToNat, Int.reduceEq, List.getD_cons_zero, List.getD_cons_succ, Int.reduceLT, Int.reduceLE]
        refine hQ _ _ _ H _ nofun rfl (Low.refl _) ⟨?_, rfl⟩
        simp [tupOf, envOf, AV.strip, AV.strip1, canW, hw1, hw, hst, hx]
        all_goals (intros; omega)
      · simp (disch := first | omega | assumption) only [ir60, h1, h2, hw1, hw2, wrap64, hw, hlt, Int.toNat_natCast, Nat.zero_add, Nat.add_zero, hb, hr, cW, hx, ne_eq, not_false_eq_true, hql, steps, mkArgs, pev, rev, oev, optr, ibin, sbin, bound, mmAll, mm2, mk, AV.cells, AV.boxable, AV.one, fillA, fillS, splice_cons, splice_succ, splice_zero, Nat.reduceEqDiff, reduceCtorEq, ↓reduceIte, Nat.reduceAdd, Int.reduceNeg, decide_true, decide_false, List.take_succ_cons, List.take_zero, List.drop_succ_cons, List.drop_zero, List.length_cons, List.length_nil, List.headD_cons, List.cons_append, List.nil_append, Option.map_some, Bool.not_true, Bool.not_false, Bool.false_eq_true, eq_self, List.replicate_zero, List.replicate_succ, List.set_cons_zero, List.set_cons_succ, Nat.lt_add_one, Nat.zero_lt_succ, Nat.le_refl, Nat.reduceLeDiff, Nat.reduceAdd, if_pos, upd_ne, List.getElem?_cons_succ, List.getElem?_cons_zero, Option.some.injEq, Int.cast_ofNat_Int, Int.reduceToNat, Int.reduceEq, List.getD_cons_zero, List.getD_cons_succ, Int.reduceLT, Int.reduceLE]
        refine hQ _ _ _ H _ nofun rfl (Low.refl _) ⟨?_, rfl⟩
        simp [tupOf, envOf, AV.strip, AV.strip1, canW, hw1, hw, hst, hx]
        all_goals (intros; omega)
    · simp (disch := first | omega | assumption) only [ir60, h1, h2, hw1, hw2, steps, mkArgs, pev, rev, oev, optr, ibin, sbin, bound, mmAll, mm2, mk, AV.cells, AV.boxable, AV.one, fillA, fillS, splice_cons, splice_succ, splice_zero, Nat.reduceEqDiff, reduceCtorEq, ↓reduceIte, Nat.reduceAdd, Int.reduceNeg, decide_true, decide_false, List.take_succ_cons, List.take_zero, List.drop_succ_cons, List.drop_zero, List.length_cons, List.length_nil, List.headD_cons, List.cons_append, List.nil_append, Option.map_some, Bool.not_true, Bool.not_false, Bool.false_eq_true, eq_self, List.replicate_zero, List.replicate_succ, List.set_cons_zero, List.set_cons_succ, Nat.lt_add_one, Nat.zero_lt_succ, Nat.le_refl, Nat.reduceLeDiff, Nat.reduceAdd, if_pos, upd_ne, List.getElem?_cons_succ, List.getElem?_cons_zero, Option.some.injEq, Int.cast_ofNat_Int, Int.reduceToNat, Int.reduceEq, List.getD_cons_zero, List.getD_cons_succ, Int.reduceLT, Int.reduceLE]
      refine hQ _ _ _ H _ nofun rfl (Low.refl _) ⟨?_, rfl⟩
      simp [tupOf, envOf, AV.strip, AV.strip1, canW, hw1, hw2]
  · simp (disch := first | omega | assumption) only [ir60, h1, h2, hw1, steps, mkArgs, pev, rev, oev, optr, ibin, sbin, bound, mmAll, mm2, mk, AV.cells, AV.boxable, AV.one, fillA, fillS, splice_cons, splice_succ, splice_zero, Nat.reduceEqDiff, reduceCtorEq, ↓reduceIte, Nat.reduceAdd, Int.reduceNeg, decide_true, decide_false, List.take_succ_cons, List.take_zero, List.drop_succ_cons, List.drop_zero, List.length_cons, List.length_nil, List.headD_cons, List.cons_append, List.nil_append, Option.map_some, Bool.not_true, Bool.not_false, Bool.false_eq_true, eq_self, List.replicate_zero, List.replicate_succ, List.set_cons_zero, List.set_cons_succ, Nat.lt_add_one, Nat.zero_lt_succ, Nat.le_refl, Nat.reduceLeDiff, Nat.reduceAdd, if_pos, upd_ne, List.getElem?_cons_succ, List.getElem?_cons_zero, Option.some.injEq, Int.cast_ofNat_Int, Int.reduceToNat, Int.reduceEq, List.getD_cons_zero, List.getD_cons_succ, Int.reduceLT, Int.reduceLE]
    refine hQ _ _ _ H _ nofun rfl (Low.refl _) ⟨?_, rfl⟩
    simp [tupOf, envOf, AV.strip, AV.strip1, canW, hw1]
def cI (l : List Int) : List (List AV) := l.map fun n => [.int .i64 n]
theorem cI_length (l : List Int) : (cI l).length = l.length := by simp [cI]
def cans (ws : List (Int × Batch)) (q : List Batch) (k : Nat) : List Int := ((List.range k).map fun (i : Nat) => (i : Int) + 1).filter (canW ws q)
theorem cans_succ (ws : List (Int × Batch)) (q : List Batch) (k : Nat) : cans ws q (k + 1) = cans ws q k ++ if canW ws q ((k : Int) + 1) then [(k : Int) + 1] else [] := by
  simp only [cans, List.range_succ, List.map_append, List.filter_append, List.map_cons, List.map_nil, List.filter_cons, List.filter_nil]
theorem cans_le (ws : List (Int × Batch)) (q : List Batch) (k : Nat) : (cans ws q k).length ≤ k := by
  refine Nat.le_trans (List.length_filter_le _ _) (by simp)
theorem canAll {H : Heap} {c l : Nat} {o : Own} {ws : List (Int × Batch)} {q : List Batch} (hc : CrewAt H c l o ws q) (hn : ws.length ≤ 16) :
    ACalls Try.prog 41 [.ptr c 0] H (fun e H' => ∃ v, e = .ret v ∧ (v = .sl .no 1 (cI (cans ws q ws.length)) ∧ H' = H)) := by
  refine ACalls.go ir41 ck41 (Nat.le_refl _) fun KP Q hQ => ?_
  simp (disch := first | omega | assumption) only [ir41, steps, mkArgs, pev, rev, oev, optr, ibin, sbin, bound, mmAll, mm2, mk, AV.cells, AV.boxable, AV.one, fillA, fillS, splice_cons, splice_succ, splice_zero, Nat.reduceEqDiff, reduceCtorEq, ↓reduceIte, Nat.reduceAdd, Int.reduceNeg, decide_true, decide_false, List.take_succ_cons, List.take_zero, List.drop_succ_cons, List.drop_zero, List.length_cons, List.length_nil, List.headD_cons, List.cons_append, List.nil_append, Option.map_some, Bool.not_true, Bool.not_false, Bool.false_eq_true, eq_self, List.replicate_zero, List.replicate_succ, List.set_cons_zero, List.set_cons_succ, Nat.lt_add_one, Nat.zero_lt_succ, Nat.le_refl, Nat.reduceLeDiff, Nat.reduceAdd, if_pos, upd_ne, List.getElem?_cons_succ, List.getElem?_cons_zero, Option.some.injEq, Int.cast_ofNat_Int, Int.reduceToNat, Int.reduceEq, List.getD_cons_zero, List.getD_cons_succ, Int.reduceLT, Int.reduceLE]
  refine goL_rule (fun n ρ H' => ∃ k o', k ≤ ws.length ∧ n = ws.length - k ∧ ρ = envOf [(0, .ptr c 0), (3, .sl o' 1 (cI (cans ws q k))), (4, .int .i64 ((k : Int) + 1))] ∧ OwnF H H' o' (cans ws q k).length 1) ws.length ⟨0, .nil, by omega, by omega, by simp (disch := first | omega | assumption) only [steps, mkArgs, pev, rev, oev, optr, ibin, sbin, bound, mmAll, mm2, mk, AV.cells, AV.boxable, AV.one, fillA, fillS, splice_cons, splice_succ, splice_zero, Nat.reduceEqDiff, reduceCtorEq, ↓reduceIte, Nat.reduceAdd, Int.reduceNeg, decide_true, decide_false, List.take_succ_cons, List.take_zero, List.drop_succ_cons, List.drop_zero, List.length_cons, List.length_nil, List.headD_cons, List.cons_append, List.nil_append, Option.map_some, Bool.not_true, Bool.not_false, Bool.false_eq_true, eq_self, List.replicate_zero, List.replicate_succ, List.set_cons_zero, List.set_cons_succ, Nat.lt_add_one, Nat.zero_lt_succ, Nat.le_refl, Nat.reduceLeDiff, Nat.reduceAdd, if_pos, upd_ne, List.getElem?_cons_succ, List.getElem?_cons_zero, Option.some.injEq, Int.cast_ofNat_Int, Int.reduceToNat, Int.reduceEq, List.getD_cons_zero, List.getD_cons_succ, Int.reduceLT, Int.reduceLE] <;> simp [cans, cI], OwnF.nil _ _⟩ ?_
  rintro n ρ H' J ⟨k, o', hk, rfl, rfl, ho⟩ hJ
  have hc' := hc.sub ho.sub
  have h1 := hc'.hc
  have hkl := cans_le ws q k
  have hkk := cI_length (cans ws q k)
  by_cases hlt : (k : Int) + 1 ≤ ws.length
  · simp (disch := first | omega | assumption) only [h1, hlt, steps, mkArgs, pev, rev, oev, optr, ibin, sbin, bound, mmAll, mm2, mk, AV.cells, AV.boxable, AV.one, fillA, fillS, splice_cons, splice_succ, splice_zero, Nat.reduceEqDiff, reduceCtorEq, ↓reduceIte, Nat.reduceAdd, Int.reduceNeg, decide_true, decide_false, List.take_succ_cons, List.take_zero, List.drop_succ_cons, List.drop_zero, List.length_cons, List.length_nil, List.headD_cons, List.cons_append, List.nil_append, Option.map_some, Bool.not_true, Bool.not_false, Bool.false_eq_true, eq_self, List.replicate_zero, List.replicate_succ, List.set_cons_zero, List.set_cons_succ, Nat.lt_add_one, Nat.zero_lt_succ, Nat.le_refl, Nat.reduceLeDiff, Nat.reduceAdd, if_pos, upd_ne, List.getElem?_cons_succ, List.getElem?_cons_zero, Option.some.injEq, Int.cast_ofNat_Int, Int.reduceToNat, Int.reduceEq, List.getD_cons_zero, List.getD_cons_succ, Int.reduceLT, Int.reduceLE]
    refine goK_ret (canC hc' _ hn) fun v H2 ⟨hv, hH⟩ => ?_
    subst hv; subst hH
    have hs := cans_succ ws q k
    cases hcan : canW ws q ((k : Int) + 1) with
    | true =>
      simp (disch := first | omega | assumption) only [steps, mkArgs, pev, rev, oev, optr, ibin, sbin, bound, mmAll, mm2, mk, AV.cells, AV.boxable, AV.one, fillA, fillS, splice_cons, splice_succ, splice_zero, Nat.reduceEqDiff, reduceCtorEq, ↓reduceIte, Nat.reduceAdd, Int.reduceNeg, decide_true, decide_false, List.take_succ_cons, List.take_zero, List.drop_succ_cons, List.drop_zero, List.length_cons, List.length_nil, List.headD_cons, List.cons_append, List.nil_append, Option.map_some, Bool.not_true, Bool.not_false, Bool.false_eq_true, eq_self, List.replicate_zero, List.replicate_succ, List.set_cons_zero, List.set_cons_succ, Nat.lt_add_one, Nat.zero_lt_succ, Nat.le_refl, Nat.reduceLeDiff, Nat.reduceAdd, if_pos, upd_ne, List.getElem?_cons_succ, List.getElem?_cons_zero, Option.some.injEq, Int.cast_ofNat_Int, Int.reduceToNat, Int.reduceEq, List.getD_cons_zero, List.getD_cons_succ, Int.reduceLT, Int.reduceLE]
      refine goP_own (by rw [hkk]; exact ho.own) ?_ ?_ fun o2 H2 g1 g2 g3 => ?_
      · simp only [hkk, List.length_cons, List.length_nil]; omega
      · simp only [hkk, List.length_cons, List.length_nil, maxLen]; omega
      simp (disch := first | omega | assumption) only [wrap64, steps, mkArgs, pev, rev, oev, optr, ibin, sbin, bound, mmAll, mm2, mk, AV.cells, AV.boxable, AV.one, fillA, fillS, splice_cons, splice_succ, splice_zero, Nat.reduceEqDiff, reduceCtorEq, ↓reduceIte, Nat.reduceAdd, Int.reduceNeg, decide_true, decide_false, List.take_succ_cons, List.take_zero, List.drop_succ_cons, List.drop_zero, List.length_cons, List.length_nil, List.headD_cons, List.cons_append, List.nil_append, Option.map_some, Bool.not_true, Bool.not_false, Bool.false_eq_true, eq_self, List.replicate_zero, List.replicate_succ, List.set_cons_zero, List.set_cons_succ, Nat.lt_add_one, Nat.zero_lt_succ, Nat.le_refl, Nat.reduceLeDiff, Nat.reduceAdd, if_pos, upd_ne, List.getElem?_cons_succ, List.getElem?_cons_zero, Option.some.injEq, Int.cast_ofNat_Int, Int.reduceToNat, Int.reduceEq, List.getD_cons_zero, List.getD_cons_succ, Int.reduceLT, Int.reduceLE]
      rw [hcan] at hs
      refine hJ (ws.length - (k + 1)) _ _ (by omega) ⟨k + 1, o2, by omega, rfl, ?_, ?_⟩
      · rw [hs]; simp [cI, AV.strip1]
      · refine (ho.step g1 g2 g3).cast ?_
        rw [hs, hkk]; simp
    | false =>
      simp (disch := first | omega | assumption) only [wrap64, steps, mkArgs, pev, rev, oev, optr, ibin, sbin, bound, mmAll, mm2, mk, AV.cells, AV.boxable, AV.one, fillA, fillS, splice_cons, splice_succ, splice_zero, Nat.reduceEqDiff, reduceCtorEq, ↓reduceIte, Nat.reduceAdd, Int.reduceNeg, decide_true, decide_false, List.take_succ_cons, List.take_zero, List.drop_succ_cons, List.drop_zero, List.length_cons, List.length_nil, List.headD_cons, List.cons_append, List.nil_append, Option.map_some, Bool.not_true, Bool.not_false, Bool.false_eq_true, eq_self, List.replicate_zero, List.replicate_succ, List.set_cons_zero, List.set_cons_succ, Nat.lt_add_one, Nat.zero_lt_succ, Nat.le_refl, Nat.reduceLeDiff, Nat.reduceAdd, if_pos, upd_ne, List.getElem?_cons_succ, List.getElem?_cons_zero, Option.some.injEq, Int.cast_ofNat_Int, Int.reduceToNat, Int.reduceEq, List.getD_cons_zero, List.getD_cons_succ, Int.reduceLT, Int.reduceLE]
      rw [hcan] at hs
      simp only [Bool.false_eq_true, if_false, List.append_nil] at hs
      refine hJ (ws.length - (k + 1)) _ _ (by omega) ⟨k + 1, o', by omega, rfl, ?_, ?_⟩
      · rw [hs]; simp
      · rw [hs]; exact ho
  · simp (disch := first | omega | assumption) only [h1, hlt, steps, mkArgs, pev, rev, oev, optr, ibin, sbin, bound, mmAll, mm2, mk, AV.cells, AV.boxable, AV.one, fillA, fillS, splice_cons, splice_succ, splice_zero, Nat.reduceEqDiff, reduceCtorEq, ↓reduceIte, Nat.reduceAdd, Int.reduceNeg, decide_true, decide_false, List.take_succ_cons, List.take_zero, List.drop_succ_cons, List.drop_zero, List.length_cons, List.length_nil, List.headD_cons, List.cons_append, List.nil_append, Option.map_some, Bool.not_true, Bool.not_false, Bool.false_eq_true, eq_self, List.replicate_zero, List.replicate_succ, List.set_cons_zero, List.set_cons_succ, Nat.lt_add_one, Nat.zero_lt_succ, Nat.le_refl, Nat.reduceLeDiff, Nat.reduceAdd, if_pos, upd_ne, List.getElem?_cons_succ, List.getElem?_cons_zero, Option.some.injEq, Int.cast_ofNat_Int, Int.reduceToNat, Int.reduceEq, List.getD_cons_zero, List.getD_cons_succ, Int.reduceLT, Int.reduceLE]
    have hkn : k = ws.length := by omega
    subst hkn
    refine hQ _ _ _ H _ nofun rfl (Low.of_sub ho.sub) ⟨?_, rfl⟩
    simp [tupOf, envOf, AV.strip, AV.strip1]
theorem waitsC {H : Heap} {c l : Nat} {o : Own} {ws : List (Int × Batch)} {q : List Batch} (hc : CrewAt H c l o ws q) :
    ACalls Try.prog 43 [.ptr c 0] H (fun e H' => ∃ v, e = .ret v ∧ (v = .int .i64 q.length ∧ H' = H)) := by
  refine ACalls.go ir43 ck43 (Nat.le_refl _) fun KP Q hQ => ?_
  have h1 := hc.hc
  simp (disch := first | omega | assumption) only [ir43, h1, steps, mkArgs, pev, rev, oev, optr, ibin, sbin, bound, mmAll, mm2, mk, AV.cells, AV.boxable, AV.one, fillA, fillS, splice_cons, splice_succ, splice_zero, Nat.reduceEqDiff, reduceCtorEq, ↓reduceIte, Nat.reduceAdd, Int.reduceNeg, decide_true, decide_false, List.take_succ_cons, List.take_zero, List.drop_succ_cons, List.drop_zero, List.length_cons, List.length_nil, List.headD_cons, List.cons_append, List.nil_append, Option.map_some, Bool.not_true, Bool.not_false, Bool.false_eq_true, eq_self, List.replicate_zero, List.replicate_succ, List.set_cons_zero, List.set_cons_succ, Nat.lt_add_one, Nat.zero_lt_succ, Nat.le_refl, Nat.reduceLeDiff, Nat.reduceAdd, if_pos, upd_ne, List.getElem?_cons_succ, List.getElem?_cons_zero, Option.some.injEq, Int.cast_ofNat_Int, Int.reduceToNat, Int.reduceEq, List.getD_cons_zero, List.getD_cons_succ, Int.reduceLT, Int.reduceLE]
  refine hQ _ _ _ H _ nofun rfl (Low.refl _) ⟨?_, rfl⟩
  simp [tupOf, envOf, AV.strip, AV.strip1, cBs_length]
theorem dropC {H : Heap} {c l : Nat} {o : Own} {ws : List (Int × Batch)} {q : List Batch} (hc : CrewAt H c l o ws q) :
    ACalls Try.prog 48 [.ptr c 0] H (fun e H' => ∃ v, e = .ret v ∧ (v = .tup [] ∧ CrewAt H' c l .nil ws [] ∧ ∀ b x, b ≠ c → H b = some x → H' b = some x)) := by
  refine ACalls.go ir48 ck48 (Nat.le_refl _) fun KP Q hQ => ?_
  have h1 := hc.hc
  simp (disch := first | omega | assumption) only [ir48, h1, steps, mkArgs, pev, rev, oev, optr, ibin, sbin, bound, mmAll, mm2, mk, AV.cells, AV.boxable, AV.one, fillA, fillS, splice_cons, splice_succ, splice_zero, Nat.reduceEqDiff, reduceCtorEq, ↓reduceIte, Nat.reduceAdd, Int.reduceNeg, decide_true, decide_false, List.take_succ_cons, List.take_zero, List.drop_succ_cons, List.drop_zero, List.length_cons, List.length_nil, List.headD_cons, List.cons_append, List.nil_append, Option.map_some, Bool.not_true, Bool.not_false, Bool.false_eq_true, eq_self, List.replicate_zero, List.replicate_succ, List.set_cons_zero, List.set_cons_succ, Nat.lt_add_one, Nat.zero_lt_succ, Nat.le_refl, Nat.reduceLeDiff, Nat.reduceAdd, if_pos, upd_ne, List.getElem?_cons_succ, List.getElem?_cons_zero, Option.some.injEq, Int.cast_ofNat_Int, Int.reduceToNat, Int.reduceEq, List.getD_cons_zero, List.getD_cons_succ, Int.reduceLT, Int.reduceLE]
  refine hQ _ _ _ _ _ nofun rfl (Low.refl _) ⟨rfl, ⟨by rw [upd_same]; simp [cBs], by rw [upd_ne (Ne.symm hc.ne)]; exact hc.hl, hc.ne, rfl⟩, fun b x hb hx => by rw [upd_ne hb]; exact hx⟩
def busyN (ws : List (Int × Batch)) : Nat := (ws.filter fun x => decide (x.1 ≠ 0)).length
theorem busyC {H : Heap} {c l : Nat} {o : Own} {ws : List (Int × Batch)} {q : List Batch} (hc : CrewAt H c l o ws q) (hn : ws.length ≤ 16) :
    ACalls Try.prog 42 [.ptr c 0] H (fun e H' => ∃ v, e = .ret v ∧ (v = .int .i64 (busyN ws) ∧ H' = H)) := by
  refine ACalls.go ir42 ck42 (Nat.le_refl _) fun KP Q hQ => ?_
  have h1 := hc.hc
  simp (disch := first | omega | assumption) only [ir42, h1, steps, mkArgs, pev, rev, oev, optr, ibin, sbin, bound, mmAll, mm2, mk, AV.cells, AV.boxable, AV.one, fillA, fillS, splice_cons, splice_succ, splice_zero, Nat.reduceEqDiff, reduceCtorEq, ↓reduceIte, Nat.reduceAdd, Int.reduceNeg, decide_true, decide_false, List.take_succ_cons, List.take_zero, List.drop_succ_cons, List.drop_zero, List.length_cons, List.length_nil, List.headD_cons, List.cons_append, List.nil_append, Option.map_some, Bool.not_true, Bool.not_false, Bool.false_eq_true, eq_self, List.replicate_zero, List.replicate_succ, List.set_cons_zero, List.set_cons_succ, Nat.lt_add_one, Nat.zero_lt_succ, Nat.le_refl, Nat.reduceLeDiff, Nat.reduceAdd, if_pos, upd_ne, List.getElem?_cons_succ, List.getElem?_cons_zero, Option.some.injEq, Int.cast_ofNat_Int, Int.reduceToNat, Int.reduceEq, List.getD_cons_zero, List.getD_cons_succ, Int.reduceLT, Int.reduceLE]
  refine goL_rule (fun n ρ H' => ∃ done rest, ws = done ++ rest ∧ n = rest.length ∧ ρ = envOf [(3, .int .i64 (busyN done)), (11, .ms l 0 ws.length ws.length), (12, .int .i64 ws.length), (13, .int .i64 done.length)] ∧ Sub H H') ws.length ⟨[], ws, rfl, rfl, by simp (disch := first | omega | assumption) only [steps, mkArgs, pev, rev, oev, optr, ibin, sbin, bound, mmAll, mm2, mk, AV.cells, AV.boxable, AV.one, fillA, fillS, splice_cons, splice_succ, splice_zero, Nat.reduceEqDiff, reduceCtorEq, ↓reduceIte, Nat.reduceAdd, Int.reduceNeg, decide_true, decide_false, List.take_succ_cons, List.take_zero, List.drop_succ_cons, List.drop_zero, List.length_cons, List.length_nil, List.headD_cons, List.cons_append, List.nil_append, Option.map_some, Bool.not_true, Bool.not_false, Bool.false_eq_true, eq_self, List.replicate_zero, List.replicate_succ, List.set_cons_zero, List.set_cons_succ, Nat.lt_add_one, Nat.zero_lt_succ, Nat.le_refl, Nat.reduceLeDiff, Nat.reduceAdd, if_pos, upd_ne, List.getElem?_cons_succ, List.getElem?_cons_zero, Option.some.injEq, Int.cast_ofNat_Int, Int.reduceToNat, Int.reduceEq, List.getD_cons_zero, List.getD_cons_succ, Int.reduceLT, Int.reduceLE] <;> simp [busyN], sub_refl _⟩ ?_
  rintro n ρ H' J ⟨done, rest, hd, rfl, rfl, ho⟩ hJ
  cases rest with
  | nil =>
    have hlt : ¬ ((done.length : Int) < ws.length) := by rw [hd]; simp
    simp (disch := first | omega | assumption) only [hlt, steps, mkArgs, pev, rev, oev, optr, ibin, sbin, bound, mmAll, mm2, mk, AV.cells, AV.boxable, AV.one, fillA, fillS, splice_cons, splice_succ, splice_zero, Nat.reduceEqDiff, reduceCtorEq, ↓reduceIte, Nat.reduceAdd, Int.reduceNeg, decide_true, decide_false, List.take_succ_cons, List.take_zero, List.drop_succ_cons, List.drop_zero, List.length_cons, List.length_nil, List.headD_cons, List.cons_append, List.nil_append, Option.map_some, Bool.not_true, Bool.not_false, Bool.false_eq_true, eq_self, List.replicate_zero, List.replicate_succ, List.set_cons_zero, List.set_cons_succ, Nat.lt_add_one, Nat.zero_lt_succ, Nat.le_refl, Nat.reduceLeDiff, Nat.reduceAdd, if_pos, upd_ne, List.getElem?_cons_succ, List.getElem?_cons_zero, Option.some.injEq, Int.cast_ofNat_Int, Int.reduceToNat, Int.reduceEq, List.getD_cons_zero, List.getD_cons_succ, Int.reduceLT, Int.reduceLE]
    simp only [List.append_nil] at hd
    subst hd
    refine hQ _ _ _ H _ nofun rfl (Low.of_sub ho) ⟨?_, rfl⟩
    simp [tupOf, envOf, AV.strip, AV.strip1]
  | cons x r =>
    have hlt : ((done.length : Int) < ws.length) := by rw [hd]; simp; omega
    have hl := ho _ _ hc.hl
    have hr := cWs_drop done x r 0
    have hlen := cWs_length ws
    have hb : done.length * 3 + 3 ≤ (cWs ws).length := by rw [hlen, hd]; simp; omega
    simp only [Nat.add_zero, List.drop_zero] at hr
    rw [← hd] at hr
    simp (disch := first | omega | assumption) only [hlt, Int.toNat_natCast, Nat.zero_add, hl, hb, hr, cW, steps, mkArgs, pev, rev, oev, optr, ibin, sbin, bound, mmAll, mm2, mk, AV.cells, AV.boxable, AV.one, fillA, fillS, splice_cons, splice_succ, splice_zero, Nat.reduceEqDiff, reduceCtorEq, ↓reduceIte, Nat.reduceAdd, Int.reduceNeg, decide_true, decide_false, List.take_succ_cons, List.take_zero, List.drop_succ_cons, List.drop_zero, List.length_cons, List.length_nil, List.headD_cons, List.cons_append, List.nil_append, Option.map_some, Bool.not_true, Bool.not_false, Bool.false_eq_true, eq_self, List.replicate_zero, List.replicate_succ, List.set_cons_zero, List.set_cons_succ, Nat.lt_add_one, Nat.zero_lt_succ, Nat.le_refl, Nat.reduceLeDiff, Nat.reduceAdd, if_pos, upd_ne, List.getElem?_cons_succ, List.getElem?_cons_zero, Option.some.injEq, Int.cast_ofNat_Int, Int.reduceToNat, Int.reduceEq, List.getD_cons_zero, List.getD_cons_succ, Int.reduceLT, Int.reduceLE]
    refine goA_intro fun b1 hb1 => ?_
    have hbd : busyN done ≤ done.length := List.length_filter_le _ _
    have hdl : done.length < ws.length := by omega
    by_cases hx : x.1 = 0
    · simp (disch := first | omega | assumption) only [hx, ne_eq, not_true_eq_false, wrap64, steps, mkArgs, pev, rev, oev, optr, ibin, sbin, bound, mmAll, mm2, mk, AV.cells, AV.boxable, AV.one, fillA, fillS, splice_cons, splice_succ, splice_zero, Nat.reduceEqDiff, reduceCtorEq, ↓reduceIte, Nat.reduceAdd, Int.reduceNeg, decide_true, decide_false, List.take_succ_cons, List.take_zero, List.drop_succ_cons, List.drop_zero, List.length_cons, List.length_nil, List.headD_cons, List.cons_append, List.nil_append, Option.map_some, Bool.not_true, Bool.not_false, Bool.false_eq_true, eq_self, List.replicate_zero, List.replicate_succ, List.set_cons_zero, List.set_cons_succ, Nat.lt_add_one, Nat.zero_lt_succ, Nat.le_refl, Nat.reduceLeDiff, Nat.reduceAdd, if_pos, upd_ne, List.getElem?_cons_succ, List.getElem?_cons_zero, Option.some.injEq, Int.cast_ofNat_Int, Int.reduceToNat, Int.reduceEq, List.getD_cons_zero, List.getD_cons_succ, Int.reduceLT, Int.reduceLE]
      refine hJ r.length _ _ (by simp) ⟨done ++ [x], r, by simp [hd], rfl, ?_, sub_upd ho hb1⟩
      simp [busyN, hx]
    · simp (disch := first | omega | assumption) only [hx, ne_eq, not_false_eq_true, wrap64, steps, mkArgs, pev, rev, oev, optr, ibin, sbin, bound, mmAll, mm2, mk, AV.cells, AV.boxable, AV.one, fillA, fillS, splice_cons, splice_succ, splice_zero, Nat.reduceEqDiff, reduceCtorEq, ↓reduceIte, Nat.reduceAdd, Int.reduceNeg, decide_true, decide_false, List.take_succ_cons, List.take_zero, List.drop_succ_cons, List.drop_zero, List.length_cons, List.length_nil, List.headD_cons, List.cons_append, List.nil_append, Option.map_some, Bool.not_true, Bool.not_false, Bool.false_eq_true, eq_self, List.replicate_zero, List.replicate_succ, List.set_cons_zero, List.set_cons_succ, Nat.lt_add_one, Nat.zero_lt_succ, Nat.le_refl, Nat.reduceLeDiff, Nat.reduceAdd, if_pos, upd_ne, List.getElem?_cons_succ, List.getElem?_cons_zero, Option.some.injEq, Int.cast_ofNat_Int, Int.reduceToNat, Int.reduceEq, List.getD_cons_zero, List.getD_cons_succ, Int.reduceLT, Int.reduceLE]
      refine hJ r.length _ _ (by simp) ⟨done ++ [x], r, by simp [hd], rfl, ?_, sub_upd ho hb1⟩
      simp [busyN, hx]
def stepW (ws : List (Int × Batch)) (q : List Batch) (w : Int) : (Batch × Int) × List (Int × Batch) × List Batch :=
  if canW ws q w then
    let x := ws.getD (w - 1).toNat (0, ⟨[], []⟩)
    if x.1 = 0 then ((q.headD ⟨[], []⟩, 1), ws.set (w - 1).toNat (1, q.headD ⟨[], []⟩), q.tail)
    else ((x.2, x.1 + 1), ws.set (w - 1).toNat (if x.1 + 1 > 2 then 0 else x.1 + 1, x.2), q)
  else ((⟨[], []⟩, 0), ws, q)
theorem Owned.tail {H : Heap} {o : Own} {n sz : Nat} (h : Owned H o (n + 1) sz) : Owned H (o.cut 1) n sz := by
  cases o with
  | no => exact h
  | nil => cases h
  | full => trivial
  | tip b d => show H b = _; rw [show d + 1 + n = d + (n + 1) by omega]; exact h
theorem splice_mid (a : List (Int × Batch)) (x : Int × Batch) (b : List (Int × Batch)) (j : Nat) (v : List AV) (h : j + v.length ≤ 3) : splice (cWs (a ++ x :: b)) (a.length * 3 + j) v = cWs a ++ (splice (cW x) j v ++ cWs b) := by
  have hl : (cW x).length = 3 := rfl
  unfold splice
  rw [cWs_append, cWs_cons, ← cWs_length]
  simp only [List.take_append, List.drop_append, List.append_assoc]
  have e1 : (cWs a).length + j - (cWs a).length = j := by omega
  have e2 : (cWs a).length + j + v.length - (cWs a).length = j + v.length := by omega
  rw [List.take_of_length_le (by omega), e1, e2, List.drop_of_length_le (l := cWs a) (by omega)]
  have e3 : j - (cW x).length = 0 := by omega
  have e4 : j + v.length - (cW x).length = 0 := by omega
  rw [e3, e4]
  simp
theorem splice_stage (a : List (Int × Batch)) (x : Int × Batch) (b : List (Int × Batch)) (n : Int) : splice (cWs (a ++ x :: b)) (a.length * 3) [.int .i64 n] = cWs (a ++ (n, x.2) :: b) := by
  have := splice_mid a x b 0 [.int .i64 n] (by simp)
  rw [Nat.add_zero] at this
  rw [this, cWs_append, cWs_cons]
  rfl
theorem splice_batch (a : List (Int × Batch)) (x : Int × Batch) (b : List (Int × Batch)) (y : Batch) : splice (cWs (a ++ x :: b)) (a.length * 3 + 1) [.str y.table, .sl .no 1 (cT y.keys)] = cWs (a ++ (x.1, y) :: b) := by
  have := splice_mid a x b 1 [.str y.table, .sl .no 1 (cT y.keys)] (by simp)
  rw [this, cWs_append, cWs_cons]
  rfl
theorem cWs_drop0 (a : List (Int × Batch)) (x : Int × Batch) (b : List (Int × Batch)) : (cWs (a ++ x :: b)).drop (a.length * 3) = [.int .i64 x.1, .str x.2.table, .sl .no 1 (cT x.2.keys)] ++ cWs b := cWs_drop a x b 0
theorem cWs_drop1 (a : List (Int × Batch)) (x : Int × Batch) (b : List (Int × Batch)) : (cWs (a ++ x :: b)).drop (a.length * 3 + 1) = [.str x.2.table, .sl .no 1 (cT x.2.keys)] ++ cWs b := cWs_drop a x b 1
theorem stepC {H : Heap} {c l : Nat} {o : Own} {ws : List (Int × Batch)} {q : List Batch} (hc : CrewAt H c l o ws q) (w : Int) (hn : ws.length ≤ 16) (hst : ∀ x ∈ ws, 0 ≤ x.1 ∧ x.1 ≤ 2) (hsm : (∀ x ∈ ws, x.2.small) ∧ ∀ x ∈ q, x.small) :
    ACalls Try.prog 44 [.ptr c 0, .int .i64 w] H (fun e H' => ∃ v, e = .ret v ∧ (v = .tup [.agg (cB (stepW ws q w).1.1), .int .i64 (stepW ws q w).1.2] ∧ (∃ o', (o' = o ∨ o' = o.cut 1) ∧ CrewAt H' c l o' (stepW ws q w).2.1 (stepW ws q w).2.2) ∧ ∀ b x, b ≠ c → b ≠ l → H b = some x → H' b = some x)) := by
  refine ACalls.go ir44 ck44 (Nat.le_refl _) fun KP Q hQ => ?_
  simp (disch := first | omega | assumption) only [ir44, steps, mkArgs, pev, rev, oev, optr, ibin, sbin, bound, mmAll, mm2, mk, AV.cells, AV.boxable, AV.one, fillA, fillS, splice_cons, splice_succ, splice_zero, Nat.reduceEqDiff, reduceCtorEq, ↓reduceIte, Nat.reduceAdd, Int.reduceNeg, decide_true, decide_false, List.take_succ_cons, List.take_zero, List.drop_succ_cons, List.drop_zero, List.length_cons, List.length_nil, List.headD_cons, List.cons_append, List.nil_append, Option.map_some, Bool.not_true, Bool.not_false, Bool.false_eq_true, eq_self, List.replicate_zero, List.replicate_succ, List.set_cons_zero, List.set_cons_succ, Nat.lt_add_one, Nat.zero_lt_succ, Nat.le_refl, Nat.reduceLeDiff, Nat.reduceAdd, if_pos, upd_ne, List.getElem?_cons_succ, List.getElem?_cons_zero, Option.some.injEq, Int.cast_ofNat_Int, Int.reduceToNat, Int.reduceEq, List.getD_cons_zero, List.getD_cons_succ, Int.reduceLT, Int.reduceLE]
  refine goA_intro fun b1 hb1 => ?_
  have hc1 := hc.sub (sub_upd (o := .cells [.str [], .sl .nil 1 []]) (sub_refl H) hb1)
  simp (disch := first | omega | assumption) only [steps, mkArgs, pev, rev, oev, optr, ibin, sbin, bound, mmAll, mm2, mk, AV.cells, AV.boxable, AV.one, fillA, fillS, splice_cons, splice_succ, splice_zero, Nat.reduceEqDiff, reduceCtorEq, ↓reduceIte, Nat.reduceAdd, Int.reduceNeg, decide_true, decide_false, List.take_succ_cons, List.take_zero, List.drop_succ_cons, List.drop_zero, List.length_cons, List.length_nil, List.headD_cons, List.cons_append, List.nil_append, Option.map_some, Bool.not_true, Bool.not_false, Bool.false_eq_true, eq_self, List.replicate_zero, List.replicate_succ, List.set_cons_zero, List.set_cons_succ, Nat.lt_add_one, Nat.zero_lt_succ, Nat.le_refl, Nat.reduceLeDiff, Nat.reduceAdd, if_pos, upd_ne, List.getElem?_cons_succ, List.getElem?_cons_zero, Option.some.injEq, Int.cast_ofNat_Int, Int.reduceToNat, Int.reduceEq, List.getD_cons_zero, List.getD_cons_succ, Int.reduceLT, Int.reduceLE]
  refine goK_ret (canC hc1 w hn) fun v H2 ⟨hv, hH⟩ => ?_
  subst hv; subst hH
  have hcb : c ≠ b1 := fun e => by subst e; rw [hc.hc] at hb1; cases hb1
  have hlb : l ≠ b1 := fun e => by subst e; rw [hc.hl] at hb1; cases hb1
  have hcl := hc.ne
  have hlc := Ne.symm hc.ne
  have h1 := hc.hc
  have h2 := hc.hl
  cases hcan : canW ws q w with
  | false =>
    simp (disch := first | omega | assumption) only [steps, mkArgs, pev, rev, oev, optr, ibin, sbin, bound, mmAll, mm2, mk, AV.cells, AV.boxable, AV.one, fillA, fillS, splice_cons, splice_succ, splice_zero, Nat.reduceEqDiff, reduceCtorEq, ↓reduceIte, Nat.reduceAdd, Int.reduceNeg, decide_true, decide_false, List.take_succ_cons, List.take_zero, List.drop_succ_cons, List.drop_zero, List.length_cons, List.length_nil, List.headD_cons, List.cons_append, List.nil_append, Option.map_some, Bool.not_true, Bool.not_false, Bool.false_eq_true, eq_self, List.replicate_zero, List.replicate_succ, List.set_cons_zero, List.set_cons_succ, Nat.lt_add_one, Nat.zero_lt_succ, Nat.le_refl, Nat.reduceLeDiff, Nat.reduceAdd, if_pos, upd_ne, List.getElem?_cons_succ, List.getElem?_cons_zero, Option.some.injEq, Int.cast_ofNat_Int, Int.reduceToNat, Int.reduceEq, List.getD_cons_zero, List.getD_cons_succ, Int.reduceLT, Int.reduceLE]
    refine hQ _ _ _ H [.agg [.str [], .sl .nil 1 []], .int .i64 0] nofun (by simp (disch := first | omega | assumption) only [ir44, resvs, resv, steps, mkArgs, pev, rev, oev, optr, ibin, sbin, bound, mmAll, mm2, mk, AV.cells, AV.boxable, AV.one, fillA, fillS, splice_cons, splice_succ, splice_zero, Nat.reduceEqDiff, reduceCtorEq, ↓reduceIte, Nat.reduceAdd, Int.reduceNeg, decide_true, decide_false, List.take_succ_cons, List.take_zero, List.drop_succ_cons, List.drop_zero, List.length_cons, List.length_nil, List.headD_cons, List.cons_append, List.nil_append, Option.map_some, Bool.not_true, Bool.not_false, Bool.false_eq_true, eq_self, List.replicate_zero, List.replicate_succ, List.set_cons_zero, List.set_cons_succ, Nat.lt_add_one, Nat.zero_lt_succ, Nat.le_refl, Nat.reduceLeDiff, Nat.reduceAdd, if_pos, upd_ne, List.getElem?_cons_succ, List.getElem?_cons_zero, Option.some.injEq, Int.cast_ofNat_Int, Int.reduceToNat, Int.reduceEq, List.getD_cons_zero, List.getD_cons_succ, Int.reduceLT, Int.reduceLE]) (Low.of_sub (sub_upd (sub_refl H) hb1)) ⟨?_, ⟨o, .inl rfl, ?_⟩, fun b x _ _ h => h⟩
    · simp [stepW, hcan, tupOf, AV.strip, AV.strip1, cB, cT]
    · simpa [stepW, hcan] using hc
  | true =>
    have hcan' := hcan
    simp only [canW, Bool.and_eq_true, Bool.or_eq_true, decide_eq_true_eq] at hcan'
    obtain ⟨hw1, hw2, hw3⟩ := hcan'
    obtain ⟨a, x, b, rfl, ha⟩ := split_at (l := ws) (i := (w - 1).toNat) (by omega)
    have hw : w - 1 = (a.length : Int) := by omega
    have hlt : (a.length : Int) < ((a ++ x :: b).length : Nat) := by simp; omega
    have hx2 := hst x (by simp)
    rw [hw, Int.toNat_natCast, stage_mid] at hw3
    have hgd : (a ++ x :: b).getD a.length (0, ⟨[], []⟩) = x := by simp
    have hset : ∀ y, (a ++ x :: b).set a.length y = a ++ y :: b := fun y => by simp
    by_cases hx : x.1 = 0
    · cases q with
      | nil => simp [hx] at hw3
      | cons q0 qr =>
        simp (disch := first | omega | assumption) only [h1, h2, wrap64, hw, Int.toNat_natCast, Nat.zero_add, Nat.add_zero, hx, cB, cBs, List.map_cons, List.getD_cons_zero, Int.toNat_zero, cWs_drop0, cWs_drop1, splice_stage, splice_batch, cWs_length, List.length_append, Option.isNone_none, Int.zero_add, Int.reduceLT, steps, mkArgs, pev, rev, oev, optr, ibin, sbin, bound, mmAll, mm2, mk, AV.cells, AV.boxable, AV.one, fillA, fillS, splice_cons, splice_succ, splice_zero, Nat.reduceEqDiff, reduceCtorEq, ↓reduceIte, Nat.reduceAdd, Int.reduceNeg, decide_true, decide_false, List.take_succ_cons, List.take_zero, List.drop_succ_cons, List.drop_zero, List.length_cons, List.length_nil, List.headD_cons, List.cons_append, List.nil_append, Option.map_some, Bool.not_true, Bool.not_false, Bool.false_eq_true, eq_self, List.replicate_zero, List.replicate_succ, List.set_cons_zero, List.set_cons_succ, Nat.lt_add_one, Nat.zero_lt_succ, Nat.le_refl, Nat.reduceLeDiff, Nat.reduceAdd, if_pos, upd_ne, List.getElem?_cons_succ, List.getElem?_cons_zero, Option.some.injEq, Int.cast_ofNat_Int, Int.reduceToNat, Int.reduceEq, List.getD_cons_zero, List.getD_cons_succ, Int.reduceLT, Int.reduceLE]
        refine ⟨by omega, by omega, ?_⟩
        refine goK_pure (batchC q0 (hsm.2 q0 (by simp))) ?_
        simp (disch := first | omega | assumption) only [cB, steps, mkArgs, pev, rev, oev, optr, ibin, sbin, bound, mmAll, mm2, mk, AV.cells, AV.boxable, AV.one, fillA, fillS, splice_cons, splice_succ, splice_zero, Nat.reduceEqDiff, reduceCtorEq, ↓reduceIte, Nat.reduceAdd, Int.reduceNeg, decide_true, decide_false, List.take_succ_cons, List.take_zero, List.drop_succ_cons, List.drop_zero, List.length_cons, List.length_nil, List.headD_cons, List.cons_append, List.nil_append, Option.map_some, Bool.not_true, Bool.not_false, Bool.false_eq_true, eq_self, List.replicate_zero, List.replicate_succ, List.set_cons_zero, List.set_cons_succ, Nat.lt_add_one, Nat.zero_lt_succ, Nat.le_refl, Nat.reduceLeDiff, Nat.reduceAdd, if_pos, upd_ne, List.getElem?_cons_succ, List.getElem?_cons_zero, Option.some.injEq, Int.cast_ofNat_Int, Int.reduceToNat, Int.reduceEq, List.getD_cons_zero, List.getD_cons_succ, Int.reduceLT, Int.reduceLE]
        refine hQ _ _ _ _ [.agg (cB q0), .int .i64 1] nofun (by simp (disch := first | omega | assumption) only [ir44, resvs, resv, cB, steps, mkArgs, pev, rev, oev, optr, ibin, sbin, bound, mmAll, mm2, mk, AV.cells, AV.boxable, AV.one, fillA, fillS, splice_cons, splice_succ, splice_zero, Nat.reduceEqDiff, reduceCtorEq, ↓reduceIte, Nat.reduceAdd, Int.reduceNeg, decide_true, decide_false, List.take_succ_cons, List.take_zero, List.drop_succ_cons, List.drop_zero, List.length_cons, List.length_nil, List.headD_cons, List.cons_append, List.nil_append, Option.map_some, Bool.not_true, Bool.not_false, Bool.false_eq_true, eq_self, List.replicate_zero, List.replicate_succ, List.set_cons_zero, List.set_cons_succ, Nat.lt_add_one, Nat.zero_lt_succ, Nat.le_refl, Nat.reduceLeDiff, Nat.reduceAdd, if_pos, upd_ne, List.getElem?_cons_succ, List.getElem?_cons_zero, Option.some.injEq, Int.cast_ofNat_Int, Int.reduceToNat, Int.reduceEq, List.getD_cons_zero, List.getD_cons_succ, Int.reduceLT, Int.reduceLE]) (Low.refl _) ⟨?_, ⟨o.cut 1, .inr rfl, ?_⟩, fun y z h3 h4 h5 => ?_⟩
        · simp [stepW, hcan, hw, hgd, hx, tupOf, AV.strip, AV.strip1, cB]
        · have e : (stepW (a ++ x :: b) (q0 :: qr) w).2 = (a ++ (1, q0) :: b, qr) := by simp [stepW, hcan, hw, hx]
          rw [e]
          refine ⟨?_, ?_, hcl, ?_⟩
          · simp [Heap.upd, hcb, hcl, cBs, cB, List.take_of_length_le]
          · simp [Heap.upd, hlb, hlc]
          · have := Owned.tail hc.own
            cases o with
            | tip t d =>
              have ht : H t = some (.tip (d + 1 + qr.length) 2) := this
              have n1 : t ≠ b1 := fun e => by subst e; rw [hb1] at ht; cases ht
              have n2 : t ≠ c := fun e => by subst e; rw [h1] at ht; cases ht
              have n3 : t ≠ l := fun e => by subst e; rw [h2] at ht; cases ht
              show _ = _
              simp [Heap.upd, n1, n2, n3, ht]
            | _ => exact this
        · have n1 : y ≠ b1 := fun e => by subst e; rw [hb1] at h5; cases h5
          simp [Heap.upd, n1, h3, h4, h5]
    · simp (disch := first | omega | assumption) only [h1, h2, wrap64, hw, Int.toNat_natCast, Nat.zero_add, Nat.add_zero, hx, cWs_drop0, cWs_drop1, splice_stage, splice_batch, cWs_length, List.length_append, steps, mkArgs, pev, rev, oev, optr, ibin, sbin, bound, mmAll, mm2, mk, AV.cells, AV.boxable, AV.one, fillA, fillS, splice_cons, splice_succ, splice_zero, Nat.reduceEqDiff, reduceCtorEq, ↓reduceIte, Nat.reduceAdd, Int.reduceNeg, decide_true, decide_false, List.take_succ_cons, List.take_zero, List.drop_succ_cons, List.drop_zero, List.length_cons, List.length_nil, List.headD_cons, List.cons_append, List.nil_append, Option.map_some, Bool.not_true, Bool.not_false, Bool.false_eq_true, eq_self, List.replicate_zero, List.replicate_succ, List.set_cons_zero, List.set_cons_succ, Nat.lt_add_one, Nat.zero_lt_succ, Nat.le_refl, Nat.reduceLeDiff, Nat.reduceAdd, if_pos, upd_ne, List.getElem?_cons_succ, List.getElem?_cons_zero, Option.some.injEq, Int.cast_ofNat_Int, Int.reduceToNat, Int.reduceEq, List.getD_cons_zero, List.getD_cons_succ, Int.reduceLT, Int.reduceLE]
      refine ⟨by omega, ?_⟩
      have own2 : ∀ y z y', Owned ((((H.upd b1 y).upd l z).upd b1 y')) o q.length 2 := fun y z y' => by
        have := hc.own
        cases o with
        | tip t d =>
          have ht : H t = some (.tip (d + q.length) 2) := this
          have n1 : t ≠ b1 := fun e => by subst e; rw [hb1] at ht; cases ht
          have n3 : t ≠ l := fun e => by subst e; rw [h2] at ht; cases ht
          show _ = _
          simp [Heap.upd, n1, n3, ht]
        | _ => exact this
      by_cases h3 : 2 < x.1 + 1
      · simp (disch := first | omega | assumption) only [h1, h2, h3, wrap64, hw, Int.toNat_natCast, Nat.zero_add, Nat.add_zero, hx, cWs_drop0, cWs_drop1, splice_stage, splice_batch, cWs_length, List.length_append, steps, mkArgs, pev, rev, oev, optr, ibin, sbin, bound, mmAll, mm2, mk, AV.cells, AV.boxable, AV.one, fillA, fillS, splice_cons, splice_succ, splice_zero, Nat.reduceEqDiff, reduceCtorEq, ↓reduceIte, Nat.reduceAdd, Int.reduceNeg, decide_true, decide_false, List.take_succ_cons, List.take_zero, List.drop_succ_cons, List.drop_zero, List.length_cons, List.length_nil, List.headD_cons, List.cons_append, List.nil_append, Option.map_some, Bool.not_true, Bool.not_false, Bool.false_eq_true, eq_self, List.replicate_zero, List.replicate_succ, List.set_cons_zero, List.set_cons_succ, Nat.lt_add_one, Nat.zero_lt_succ, Nat.le_refl, Nat.reduceLeDiff, Nat.reduceAdd, if_pos, upd_ne, List.getElem?_cons_succ, List.getElem?_cons_zero, Option.some.injEq, Int.cast_ofNat_Int, Int.reduceToNat, Int.reduceEq, List.getD_cons_zero, List.getD_cons_succ, Int.reduceLT, Int.reduceLE]
        refine ⟨by omega, ?_⟩
        refine goK_pure (batchC x.2 (hsm.1 x (by simp))) ?_
        simp (disch := first | omega | assumption) only [cB, steps, mkArgs, pev, rev, oev, optr, ibin, sbin, bound, mmAll, mm2, mk, AV.cells, AV.boxable, AV.one, fillA, fillS, splice_cons, splice_succ, splice_zero, Nat.reduceEqDiff, reduceCtorEq, ↓reduceIte, Nat.reduceAdd, Int.reduceNeg, decide_true, decide_false, List.take_succ_cons, List.take_zero, List.drop_succ_cons, List.drop_zero, List.length_cons, List.length_nil, List.headD_cons, List.cons_append, List.nil_append, Option.map_some, Bool.not_true, Bool.not_false, Bool.false_eq_true, eq_self, List.replicate_zero, List.replicate_succ, List.set_cons_zero, List.set_cons_succ, Nat.lt_add_one, Nat.zero_lt_succ, Nat.le_refl, Nat.reduceLeDiff, Nat.reduceAdd, if_pos, upd_ne, List.getElem?_cons_succ, List.getElem?_cons_zero, Option.some.injEq, Int.cast_ofNat_Int, Int.reduceToNat, Int.reduceEq, List.getD_cons_zero, List.getD_cons_succ, Int.reduceLT, Int.reduceLE]
        refine hQ _ _ _ _ [.agg (cB x.2), .int .i64 (x.1 + 1)] nofun (by simp (disch := first | omega | assumption) only [ir44, resvs, resv, cB, steps, mkArgs, pev, rev, oev, optr, ibin, sbin, bound, mmAll, mm2, mk, AV.cells, AV.boxable, AV.one, fillA, fillS, splice_cons, splice_succ, splice_zero, Nat.reduceEqDiff, reduceCtorEq, ↓reduceIte, Nat.reduceAdd, Int.reduceNeg, decide_true, decide_false, List.take_succ_cons, List.take_zero, List.drop_succ_cons, List.drop_zero, List.length_cons, List.length_nil, List.headD_cons, List.cons_append, List.nil_append, Option.map_some, Bool.not_true, Bool.not_false, Bool.false_eq_true, eq_self, List.replicate_zero, List.replicate_succ, List.set_cons_zero, List.set_cons_succ, Nat.lt_add_one, Nat.zero_lt_succ, Nat.le_refl, Nat.reduceLeDiff, Nat.reduceAdd, if_pos, upd_ne, List.getElem?_cons_succ, List.getElem?_cons_zero, Option.some.injEq, Int.cast_ofNat_Int, Int.reduceToNat, Int.reduceEq, List.getD_cons_zero, List.getD_cons_succ, Int.reduceLT, Int.reduceLE]) (Low.refl _) ⟨?_, ⟨o, .inl rfl, ?_⟩, fun y z g3 g4 g5 => ?_⟩
        · simp [stepW, hcan, hw, hgd, hx, tupOf, AV.strip, AV.strip1, cB]
        · have e : (stepW (a ++ x :: b) q w).2 = (a ++ (0, x.2) :: b, q) := by simp [stepW, hcan, hw, hx, h3]
          rw [e]
          refine ⟨?_, ?_, hcl, ?_⟩
          · simp [Heap.upd, hcb, hcl, h1]
          · simp [Heap.upd, hlb, hlc]
          · exact own2 _ _ _
        · have n1 : y ≠ b1 := fun e => by subst e; rw [hb1] at g5; cases g5
          simp [Heap.upd, n1, g3, g4, g5]
      · simp (disch := first | omega | assumption) only [h1, h2, h3, wrap64, hw, Int.toNat_natCast, Nat.zero_add, Nat.add_zero, hx, cWs_drop0, cWs_drop1, splice_stage, splice_batch, cWs_length, List.length_append, steps, mkArgs, pev, rev, oev, optr, ibin, sbin, bound, mmAll, mm2, mk, AV.cells, AV.boxable, AV.one, fillA, fillS, splice_cons, splice_succ, splice_zero, Nat.reduceEqDiff, reduceCtorEq, ↓reduceIte, Nat.reduceAdd, Int.reduceNeg, decide_true, decide_false, List.take_succ_cons, List.take_zero, List.drop_succ_cons, List.drop_zero, List.length_cons, List.length_nil, List.headD_cons, List.cons_append, List.nil_append, Option.map_some, Bool.not_true, Bool.not_false, Bool.false_eq_true, eq_self, List.replicate_zero, List.replicate_succ, List.set_cons_zero, List.set_cons_succ, Nat.lt_add_one, Nat.zero_lt_succ, Nat.le_refl, Nat.reduceLeDiff, Nat.reduceAdd, if_pos, upd_ne, List.getElem?_cons_succ, List.getElem?_cons_zero, Option.some.injEq, Int.cast_ofNat_Int, Int.reduceToNat, Int.reduceEq, List.getD_cons_zero, List.getD_cons_succ, Int.reduceLT, Int.reduceLE]
        refine goK_pure (batchC x.2 (hsm.1 x (by simp))) ?_
        simp (disch := first | omega | assumption) only [cB, steps, mkArgs, pev, rev, oev, optr, ibin, sbin, bound, mmAll, mm2, mk, AV.cells, AV.boxable, AV.one, fillA, fillS, splice_cons, splice_succ, splice_zero, Nat.reduceEqDiff, reduceCtorEq, ↓reduceIte, Nat.reduceAdd, Int.reduceNeg, decide_true, decide_false, List.take_succ_cons, List.take_zero, List.drop_succ_cons, List.drop_zero, List.length_cons, List.length_nil, List.headD_cons, List.cons_append, List.nil_append, Option.map_some, Bool.not_true, Bool.not_false, Bool.false_eq_true, eq_self, List.replicate_zero, List.replicate_succ, List.set_cons_zero, List.set_cons_succ, Nat.lt_add_one, Nat.zero_lt_succ, Nat.le_refl, Nat.reduceLeDiff, Nat.reduceAdd, if_pos, upd_ne, List.getElem?_cons_succ, List.getElem?_cons_zero, Option.some.injEq, Int.cast_ofNat_Int, Int.reduceToNat, Int.reduceEq, List.getD_cons_zero, List.getD_cons_succ, Int.reduceLT, Int.reduceLE]
        refine hQ _ _ _ _ [.agg (cB x.2), .int .i64 (x.1 + 1)] nofun (by simp (disch := first | omega | assumption) only [ir44, resvs, resv, cB, steps, mkArgs, pev, rev, oev, optr, ibin, sbin, bound, mmAll, mm2, mk, AV.cells, AV.boxable, AV.one, fillA, fillS, splice_cons, splice_succ, splice_zero, Nat.reduceEqDiff, reduceCtorEq, ↓reduceIte, Nat.reduceAdd, Int.reduceNeg, decide_true, decide_false, List.take_succ_cons, List.take_zero, List.drop_succ_cons, List.drop_zero, List.length_cons, List.length_nil, List.headD_cons, List.cons_append, List.nil_append, Option.map_some, Bool.not_true, Bool.not_false, Bool.false_eq_true, eq_self, List.replicate_zero, List.replicate_succ, List.set_cons_zero, List.set_cons_succ, Nat.lt_add_one, Nat.zero_lt_succ, Nat.le_refl, Nat.reduceLeDiff, Nat.reduceAdd, if_pos, upd_ne, List.getElem?_cons_succ, List.getElem?_cons_zero, Option.some.injEq, Int.cast_ofNat_Int, Int.reduceToNat, Int.reduceEq, List.getD_cons_zero, List.getD_cons_succ, Int.reduceLT, Int.reduceLE]) (Low.refl _) ⟨?_, ⟨o, .inl rfl, ?_⟩, fun y z g3 g4 g5 => ?_⟩
        · simp [stepW, hcan, hw, hgd, hx, tupOf, AV.strip, AV.strip1, cB]
        · have e : (stepW (a ++ x :: b) q w).2 = (a ++ (x.1 + 1, x.2) :: b, q) := by simp [stepW, hcan, hw, hx, h3]
          rw [e]
          refine ⟨?_, ?_, hcl, ?_⟩
          · simp [Heap.upd, hcb, hcl, h1]
          · simp [Heap.upd, hlb, hlc]
          · exact own2 _ _ _
        · have n1 : y ≠ b1 := fun e => by subst e; rw [hb1] at g5; cases g5
          simp [Heap.upd, n1, g3, g4, g5]
def idle (n : Nat) : List (Int × Batch) := List.replicate n (0, ⟨[], []⟩)
theorem madeW (n : Nat) : (madeA [.int .i64 0, .str [], .sl .nil 1 []] n).map AV.strip1 = cWs (idle n) := by
  induction n with
  | zero => rfl
  | succ n ih => simp only [madeA, List.map_append, ih, idle, List.replicate_succ, cWs_cons]; rfl
theorem newC {H : Heap} (n : Int) (h1 : 1 ≤ n) (h2 : n ≤ 16) :
    ACalls Try.prog 39 [.int .i64 n] H (fun e H' => ∃ v, e = .ret v ∧ ∃ c l, v = .ptr c 0 ∧ CrewAt H' c l .nil (idle n.toNat) [] ∧ Sub H H' ∧ H c = none ∧ H l = none) := by
  refine ACalls.go ir39 ck39 (Nat.le_refl _) fun KP Q hQ => ?_
  have a1 : ¬ n < 1 := by omega
  have a2 : ¬ (16 < n) := by omega
  simp (disch := first | omega | assumption) only [ir39, a1, a2, steps, mkArgs, pev, rev, oev, optr, ibin, sbin, bound, mmAll, mm2, mk, AV.cells, AV.boxable, AV.one, fillA, fillS, splice_cons, splice_succ, splice_zero, Nat.reduceEqDiff, reduceCtorEq, ↓reduceIte, Nat.reduceAdd, Int.reduceNeg, decide_true, decide_false, List.take_succ_cons, List.take_zero, List.drop_succ_cons, List.drop_zero, List.length_cons, List.length_nil, List.headD_cons, List.cons_append, List.nil_append, Option.map_some, Bool.not_true, Bool.not_false, Bool.false_eq_true, eq_self, List.replicate_zero, List.replicate_succ, List.set_cons_zero, List.set_cons_succ, Nat.lt_add_one, Nat.zero_lt_succ, Nat.le_refl, Nat.reduceLeDiff, Nat.reduceAdd, if_pos, upd_ne, List.getElem?_cons_succ, List.getElem?_cons_zero, Option.some.injEq, Int.cast_ofNat_Int, Int.reduceToNat, Int.reduceEq, List.getD_cons_zero, List.getD_cons_succ, Int.reduceLT, Int.reduceLE]
  refine goA_intro fun l hl => ?_
  simp (disch := first | omega | assumption) only [steps, mkArgs, pev, rev, oev, optr, ibin, sbin, bound, mmAll, mm2, mk, AV.cells, AV.boxable, AV.one, fillA, fillS, splice_cons, splice_succ, splice_zero, Nat.reduceEqDiff, reduceCtorEq, ↓reduceIte, Nat.reduceAdd, Int.reduceNeg, decide_true, decide_false, List.take_succ_cons, List.take_zero, List.drop_succ_cons, List.drop_zero, List.length_cons, List.length_nil, List.headD_cons, List.cons_append, List.nil_append, Option.map_some, Bool.not_true, Bool.not_false, Bool.false_eq_true, eq_self, List.replicate_zero, List.replicate_succ, List.set_cons_zero, List.set_cons_succ, Nat.lt_add_one, Nat.zero_lt_succ, Nat.le_refl, Nat.reduceLeDiff, Nat.reduceAdd, if_pos, upd_ne, List.getElem?_cons_succ, List.getElem?_cons_zero, Option.some.injEq, Int.cast_ofNat_Int, Int.reduceToNat, Int.reduceEq, List.getD_cons_zero, List.getD_cons_succ, Int.reduceLT, Int.reduceLE]
  refine goA_intro fun c hc => ?_
  have hne := ne_fresh hc
  have hc0 := fresh_of hc
  simp (disch := first | omega | assumption) only [steps, mkArgs, pev, rev, oev, optr, ibin, sbin, bound, mmAll, mm2, mk, AV.cells, AV.boxable, AV.one, fillA, fillS, splice_cons, splice_succ, splice_zero, Nat.reduceEqDiff, reduceCtorEq, ↓reduceIte, Nat.reduceAdd, Int.reduceNeg, decide_true, decide_false, List.take_succ_cons, List.take_zero, List.drop_succ_cons, List.drop_zero, List.length_cons, List.length_nil, List.headD_cons, List.cons_append, List.nil_append, Option.map_some, Bool.not_true, Bool.not_false, Bool.false_eq_true, eq_self, List.replicate_zero, List.replicate_succ, List.set_cons_zero, List.set_cons_succ, Nat.lt_add_one, Nat.zero_lt_succ, Nat.le_refl, Nat.reduceLeDiff, Nat.reduceAdd, if_pos, upd_ne, List.getElem?_cons_succ, List.getElem?_cons_zero, Option.some.injEq, Int.cast_ofNat_Int, Int.reduceToNat, Int.reduceEq, List.getD_cons_zero, List.getD_cons_succ, Int.reduceLT, Int.reduceLE]
  have hl2 : ((H.upd l (.cells (madeA [.int .i64 0, .str [], .sl .nil 1 []] n.toNat))).upd c (.cells [.ms l 0 n.toNat n.toNat, .sl .nil 2 []])) l = some (.cells (madeA [.int .i64 0, .str [], .sl .nil 1 []] n.toNat)) := by
    simp [Heap.upd, Ne.symm hne]
  refine hQ _ _ _ _ _ nofun rfl (Low.cells hl2) ⟨c, l, ?_, ⟨?_, ?_, hne, rfl⟩, ?_, hc0, hl⟩
  · simp [tupOf, envOf, AV.strip, AV.strip1]
  · simp [Heap.upd, hne, idle, cBs]
  · rw [upd_same, madeW]
  · intro b x hb
    have n1 : b ≠ l := fun e => by subst e; rw [hl] at hb; cases hb
    have n2 : b ≠ c := fun e => by subst e; rw [hc0] at hb; cases hb
    simp [Heap.upd, n1, n2, hb]
theorem newBad {H : Heap} (n : Int) (h1 : n < 1 ∨ 16 < n) : ACalls Try.prog 39 [.int .i64 n] H (fun e H' => ∃ v, e = .ret v ∧ (v = .nilp ∧ H' = H)) := by
  refine ACalls.go ir39 ck39 (Nat.le_refl _) fun KP Q hQ => ?_
  by_cases a1 : n < 1
  · simp (disch := first | omega | assumption) only [ir39, a1, steps, mkArgs, pev, rev, oev, optr, ibin, sbin, bound, mmAll, mm2, mk, AV.cells, AV.boxable, AV.one, fillA, fillS, splice_cons, splice_succ, splice_zero, Nat.reduceEqDiff, reduceCtorEq, ↓reduceIte, Nat.reduceAdd, Int.reduceNeg, decide_true, decide_false, List.take_succ_cons, List.take_zero, List.drop_succ_cons, List.drop_zero, List.length_cons, List.length_nil, List.headD_cons, List.cons_append, List.nil_append, Option.map_some, Bool.not_true, Bool.not_false, Bool.false_eq_true, eq_self, List.replicate_zero, List.replicate_succ, List.set_cons_zero, List.set_cons_succ, Nat.lt_add_one, Nat.zero_lt_succ, Nat.le_refl, Nat.reduceLeDiff, Nat.reduceAdd, if_pos, upd_ne, List.getElem?_cons_succ, List.getElem?_cons_zero, Option.some.injEq, Int.cast_ofNat_Int, Int.reduceToNat, Int.reduceEq, List.getD_cons_zero, List.getD_cons_succ, Int.reduceLT, Int.reduceLE]
    exact hQ _ _ _ H _ nofun rfl (Low.refl _) ⟨rfl, rfl⟩
  · have a2 : 16 < n := by omega
    simp (disch := first | omega | assumption) only [ir39, a1, a2, steps, mkArgs, pev, rev, oev, optr, ibin, sbin, bound, mmAll, mm2, mk, AV.cells, AV.boxable, AV.one, fillA, fillS, splice_cons, splice_succ, splice_zero, Nat.reduceEqDiff, reduceCtorEq, ↓reduceIte, Nat.reduceAdd, Int.reduceNeg, decide_true, decide_false, List.take_succ_cons, List.take_zero, List.drop_succ_cons, List.drop_zero, List.length_cons, List.length_nil, List.headD_cons, List.cons_append, List.nil_append, Option.map_some, Bool.not_true, Bool.not_false, Bool.false_eq_true, eq_self, List.replicate_zero, List.replicate_succ, List.set_cons_zero, List.set_cons_succ, Nat.lt_add_one, Nat.zero_lt_succ, Nat.le_refl, Nat.reduceLeDiff, Nat.reduceAdd, if_pos, upd_ne, List.getElem?_cons_succ, List.getElem?_cons_zero, Option.some.injEq, Int.cast_ofNat_Int, Int.reduceToNat, Int.reduceEq, List.getD_cons_zero, List.getD_cons_succ, Int.reduceLT, Int.reduceLE]
    exact hQ _ _ _ H _ nofun rfl (Low.refl _) ⟨rfl, rfl⟩
theorem layC {H : Heap} {c l : Nat} {o : Own} {ws : List (Int × Batch)} {q : List Batch} (hc : CrewAt H c l o ws q) (bs : List Batch) (hsm : ∀ b ∈ bs, b.small) (hlen : (q.length + bs.length) * 40 ≤ 140737488355328) :
    ACalls Try.prog 40 [.ptr c 0, .sl .no 2 (cBs bs)] H (fun e H' => ∃ v, e = .ret v ∧ (v = .tup [] ∧ (∃ o', (∀ b d, o' = .tip b d → H b = none ∨ ∃ d0, o = .tip b d0) ∧ CrewAt H' c l o' ws (q ++ bs)) ∧ ∀ b x, b ≠ c → (∀ d, o ≠ .tip b d) → H b = some x → H' b = some x)) := by
  refine ACalls.go ir40 ck40 (Nat.le_refl _) fun KP Q hQ => ?_
  have hbl := cBs_length bs
  simp (disch := first | omega | assumption) only [ir40, hbl, steps, mkArgs, pev, rev, oev, optr, ibin, sbin, bound, mmAll, mm2, mk, AV.cells, AV.boxable, AV.one, fillA, fillS, splice_cons, splice_succ, splice_zero, Nat.reduceEqDiff, reduceCtorEq, ↓reduceIte, Nat.reduceAdd, Int.reduceNeg, decide_true, decide_false, List.take_succ_cons, List.take_zero, List.drop_succ_cons, List.drop_zero, List.length_cons, List.length_nil, List.headD_cons, List.cons_append, List.nil_append, Option.map_some, Bool.not_true, Bool.not_false, Bool.false_eq_true, eq_self, List.replicate_zero, List.replicate_succ, List.set_cons_zero, List.set_cons_succ, Nat.lt_add_one, Nat.zero_lt_succ, Nat.le_refl, Nat.reduceLeDiff, Nat.reduceAdd, if_pos, upd_ne, List.getElem?_cons_succ, List.getElem?_cons_zero, Option.some.injEq, Int.cast_ofNat_Int, Int.reduceToNat, Int.reduceEq, List.getD_cons_zero, List.getD_cons_succ, Int.reduceLT, Int.reduceLE]
  refine goL_rule (fun n ρ H' => ∃ done rest o', bs = done ++ rest ∧ n = rest.length ∧ ρ = envOf [(0, .ptr c 0), (8, .sl .no 2 (cBs bs)), (9, .int .i64 bs.length), (10, .int .i64 done.length)] ∧ CrewAt H' c l o' ws (q ++ done) ∧ (∀ b d, o' = .tip b d → H b = none ∨ ∃ d0, o = .tip b d0) ∧ ∀ b x, b ≠ c → (∀ d, o ≠ .tip b d) → H b = some x → H' b = some x) bs.length ⟨[], bs, o, rfl, rfl, by simp (disch := first | omega | assumption) only [steps, mkArgs, pev, rev, oev, optr, ibin, sbin, bound, mmAll, mm2, mk, AV.cells, AV.boxable, AV.one, fillA, fillS, splice_cons, splice_succ, splice_zero, Nat.reduceEqDiff, reduceCtorEq, ↓reduceIte, Nat.reduceAdd, Int.reduceNeg, decide_true, decide_false, List.take_succ_cons, List.take_zero, List.drop_succ_cons, List.drop_zero, List.length_cons, List.length_nil, List.headD_cons, List.cons_append, List.nil_append, Option.map_some, Bool.not_true, Bool.not_false, Bool.false_eq_true, eq_self, List.replicate_zero, List.replicate_succ, List.set_cons_zero, List.set_cons_succ, Nat.lt_add_one, Nat.zero_lt_succ, Nat.le_refl, Nat.reduceLeDiff, Nat.reduceAdd, if_pos, upd_ne, List.getElem?_cons_succ, List.getElem?_cons_zero, Option.some.injEq, Int.cast_ofNat_Int, Int.reduceToNat, Int.reduceEq, List.getD_cons_zero, List.getD_cons_succ, Int.reduceLT, Int.reduceLE] <;> simp, by simpa using hc, fun b d e => .inr ⟨d, e⟩, fun b x _ _ h => h⟩ ?_
  rintro n ρ H' J ⟨done, rest, o', hd, rfl, rfl, hc', htip, hkeep⟩ hJ
  cases rest with
  | nil =>
    have hlt : ¬ ((done.length : Int) < bs.length) := by rw [hd]; simp
    simp (disch := first | omega | assumption) only [hlt, steps, mkArgs, pev, rev, oev, optr, ibin, sbin, bound, mmAll, mm2, mk, AV.cells, AV.boxable, AV.one, fillA, fillS, splice_cons, splice_succ, splice_zero, Nat.reduceEqDiff, reduceCtorEq, ↓reduceIte, Nat.reduceAdd, Int.reduceNeg, decide_true, decide_false, List.take_succ_cons, List.take_zero, List.drop_succ_cons, List.drop_zero, List.length_cons, List.length_nil, List.headD_cons, List.cons_append, List.nil_append, Option.map_some, Bool.not_true, Bool.not_false, Bool.false_eq_true, eq_self, List.replicate_zero, List.replicate_succ, List.set_cons_zero, List.set_cons_succ, Nat.lt_add_one, Nat.zero_lt_succ, Nat.le_refl, Nat.reduceLeDiff, Nat.reduceAdd, if_pos, upd_ne, List.getElem?_cons_succ, List.getElem?_cons_zero, Option.some.injEq, Int.cast_ofNat_Int, Int.reduceToNat, Int.reduceEq, List.getD_cons_zero, List.getD_cons_succ, Int.reduceLT, Int.reduceLE]
    simp only [List.append_nil] at hd
    subst hd
    exact hQ _ _ _ H' _ nofun rfl (Low.refl _) ⟨rfl, ⟨o', htip, hc'⟩, hkeep⟩
  | cons x r =>
    have hlt : ((done.length : Int) < bs.length) := by rw [hd]; simp; omega
    have hg : (cBs bs).getD done.length [] = cB x := by rw [hd]; exact mid cB done x r
    have hdl : done.length + r.length + 1 = bs.length := by rw [hd]; simp; omega
    have h1 := hc'.hc
    have hql := cBs_length (q ++ done)
    simp only [List.length_append] at hql
    simp (disch := first | omega | assumption) only [hlt, hbl, Int.toNat_natCast, hg, cB, steps, mkArgs, pev, rev, oev, optr, ibin, sbin, bound, mmAll, mm2, mk, AV.cells, AV.boxable, AV.one, fillA, fillS, splice_cons, splice_succ, splice_zero, Nat.reduceEqDiff, reduceCtorEq, ↓reduceIte, Nat.reduceAdd, Int.reduceNeg, decide_true, decide_false, List.take_succ_cons, List.take_zero, List.drop_succ_cons, List.drop_zero, List.length_cons, List.length_nil, List.headD_cons, List.cons_append, List.nil_append, Option.map_some, Bool.not_true, Bool.not_false, Bool.false_eq_true, eq_self, List.replicate_zero, List.replicate_succ, List.set_cons_zero, List.set_cons_succ, Nat.lt_add_one, Nat.zero_lt_succ, Nat.le_refl, Nat.reduceLeDiff, Nat.reduceAdd, if_pos, upd_ne, List.getElem?_cons_succ, List.getElem?_cons_zero, Option.some.injEq, Int.cast_ofNat_Int, Int.reduceToNat, Int.reduceEq, List.getD_cons_zero, List.getD_cons_succ, Int.reduceLT, Int.reduceLE]
    refine goA_intro fun b1 hb1 => ?_
    have hcb : c ≠ b1 := fun e => by subst e; rw [hc'.hc] at hb1; cases hb1
    have hlb : l ≠ b1 := fun e => by subst e; rw [hc'.hl] at hb1; cases hb1
    have hlc := Ne.symm hc'.ne
    simp (disch := first | omega | assumption) only [h1, steps, mkArgs, pev, rev, oev, optr, ibin, sbin, bound, mmAll, mm2, mk, AV.cells, AV.boxable, AV.one, fillA, fillS, splice_cons, splice_succ, splice_zero, Nat.reduceEqDiff, reduceCtorEq, ↓reduceIte, Nat.reduceAdd, Int.reduceNeg, decide_true, decide_false, List.take_succ_cons, List.take_zero, List.drop_succ_cons, List.drop_zero, List.length_cons, List.length_nil, List.headD_cons, List.cons_append, List.nil_append, Option.map_some, Bool.not_true, Bool.not_false, Bool.false_eq_true, eq_self, List.replicate_zero, List.replicate_succ, List.set_cons_zero, List.set_cons_succ, Nat.lt_add_one, Nat.zero_lt_succ, Nat.le_refl, Nat.reduceLeDiff, Nat.reduceAdd, if_pos, upd_ne, List.getElem?_cons_succ, List.getElem?_cons_zero, Option.some.injEq, Int.cast_ofNat_Int, Int.reduceToNat, Int.reduceEq, List.getD_cons_zero, List.getD_cons_succ, Int.reduceLT, Int.reduceLE]
    refine goK_pure (batchC x (hsm x (by rw [hd]; simp))) ?_
    simp (disch := first | omega | assumption) only [h1, cB, steps, mkArgs, pev, rev, oev, optr, ibin, sbin, bound, mmAll, mm2, mk, AV.cells, AV.boxable, AV.one, fillA, fillS, splice_cons, splice_succ, splice_zero, Nat.reduceEqDiff, reduceCtorEq, ↓reduceIte, Nat.reduceAdd, Int.reduceNeg, decide_true, decide_false, List.take_succ_cons, List.take_zero, List.drop_succ_cons, List.drop_zero, List.length_cons, List.length_nil, List.headD_cons, List.cons_append, List.nil_append, Option.map_some, Bool.not_true, Bool.not_false, Bool.false_eq_true, eq_self, List.replicate_zero, List.replicate_succ, List.set_cons_zero, List.set_cons_succ, Nat.lt_add_one, Nat.zero_lt_succ, Nat.le_refl, Nat.reduceLeDiff, Nat.reduceAdd, if_pos, upd_ne, List.getElem?_cons_succ, List.getElem?_cons_zero, Option.some.injEq, Int.cast_ofNat_Int, Int.reduceToNat, Int.reduceEq, List.getD_cons_zero, List.getD_cons_succ, Int.reduceLT, Int.reduceLE]
    have hkl : q.length + done.length + 1 ≤ q.length + bs.length := by omega
    refine goP_own (by rw [hql, ← List.length_append]; exact hc'.own.upd hb1) ?_ ?_ fun o2 H2 g1 g2 g3 => ?_
    · simp only [hql, List.length_cons, List.length_nil]; omega
    · simp only [hql, List.length_cons, List.length_nil, maxLen]; omega
    have nc : ∀ d, o' ≠ .tip c d := fun d e => by
      have := hc'.own; subst e
      have h2 : H' c = _ := this
      rw [h1] at h2; cases h2
    have nl : ∀ d, o' ≠ .tip l d := fun d e => by
      have := hc'.own; subst e
      have h2 : H' l = _ := this
      rw [hc'.hl] at h2; cases h2
    have k1 := g2 c _ (by rw [upd_ne hcb]; exact h1) nc
    have k2 := g2 l _ (by rw [upd_ne hlb]; exact hc'.hl) nl
    simp (disch := first | omega | assumption) only [k1, wrap64, steps, mkArgs, pev, rev, oev, optr, ibin, sbin, bound, mmAll, mm2, mk, AV.cells, AV.boxable, AV.one, fillA, fillS, splice_cons, splice_succ, splice_zero, Nat.reduceEqDiff, reduceCtorEq, ↓reduceIte, Nat.reduceAdd, Int.reduceNeg, decide_true, decide_false, List.take_succ_cons, List.take_zero, List.drop_succ_cons, List.drop_zero, List.length_cons, List.length_nil, List.headD_cons, List.cons_append, List.nil_append, Option.map_some, Bool.not_true, Bool.not_false, Bool.false_eq_true, eq_self, List.replicate_zero, List.replicate_succ, List.set_cons_zero, List.set_cons_succ, Nat.lt_add_one, Nat.zero_lt_succ, Nat.le_refl, Nat.reduceLeDiff, Nat.reduceAdd, if_pos, upd_ne, List.getElem?_cons_succ, List.getElem?_cons_zero, Option.some.injEq, Int.cast_ofNat_Int, Int.reduceToNat, Int.reduceEq, List.getD_cons_zero, List.getD_cons_succ, Int.reduceLT, Int.reduceLE]
    refine hJ r.length _ _ (by simp) ⟨done ++ [x], r, o2, by simp [hd], rfl, ?_, ⟨?_, ?_, hc'.ne, ?_⟩, ?_, ?_⟩
    · simp
    · rw [upd_same]; simp [cBs, cB, AV.strip1]
    · rw [upd_ne hlc]; exact k2
    · have : Owned H2 o2 (q ++ (done ++ [x])).length 2 := by
        rw [hql] at g1; simpa [Nat.add_assoc] using g1
      cases o2 with
      | tip t d =>
        have ht : H2 t = _ := this
        have n1 : t ≠ c := fun e => by subst e; rw [k1] at ht; cases ht
        show _ = _
        rw [upd_ne n1]; exact ht
      | _ => exact this
    · intro b d e
      rcases g3 b d e with h5 | ⟨d0, h5⟩
      · have h6 := fresh_of h5
        by_cases hbo : ∃ d, o = .tip b d
        · exact .inr hbo
        · cases hb : H b with
          | none => exact .inl rfl
          | some z =>
            by_cases hbc : b = c
            · subst hbc; rw [h1] at h6; cases h6
            · have := hkeep b z hbc (fun d e => hbo ⟨d, e⟩) hb
              rw [h6] at this; cases this
      · exact htip b d0 h5
    · intro b z h5 h6 h7
      have h8 := hkeep b z h5 h6 h7
      rw [upd_ne h5]
      refine g2 b z (by rw [upd_ne]; exact h8; exact fun e => by subst e; rw [hb1] at h8; cases h8) fun d e => ?_
      rcases htip b d e with h9 | ⟨d0, h9⟩
      · rw [h7] at h9; cases h9
      · exact h6 d0 h9
def minL : List Int → Int → Int
  | [], m => m
  | x :: r, m => minL r (if x < m then x else m)
theorem minC (x : Int) (r : List Int) (hl : (x :: r).length ≤ maxLen) : Pure Try.prog 55 [.sl .no 1 (cI (x :: r))] (.int .i64 (minL r x)) := by
  refine Pure.go ir55 ck55 (Nat.le_refl _) fun KP Q hQ => ?_
  have hlen := cI_length (x :: r)
  have hmax : maxLen = 9223372036854775807 := rfl
  simp only [List.length_cons] at hlen hl
  have h1 : ¬ ((↑(r.length + 1) : Int) < 1) := by omega
  have g0 : (cI (x :: r)).getD 0 [] = [.int .i64 x] := rfl
  generalize hL : cI (x :: r) = L at *
  simp (disch := first | omega | assumption) only [ir55, hlen, h1, Int.toNat_zero, g0, steps, mkArgs, pev, rev, oev, optr, ibin, sbin, bound, mmAll, mm2, mk, AV.cells, AV.boxable, AV.one, fillA, fillS, splice_cons, splice_succ, splice_zero, Nat.reduceEqDiff, reduceCtorEq, ↓reduceIte, Nat.reduceAdd, Int.reduceNeg, decide_true, decide_false, List.take_succ_cons, List.take_zero, List.drop_succ_cons, List.drop_zero, List.length_cons, List.length_nil, List.headD_cons, List.cons_append, List.nil_append, Option.map_some, Bool.not_true, Bool.not_false, Bool.false_eq_true, eq_self, List.replicate_zero, List.replicate_succ, List.set_cons_zero, List.set_cons_succ, Nat.lt_add_one, Nat.zero_lt_succ, Nat.le_refl, Nat.reduceLeDiff, Nat.reduceAdd, if_pos, upd_ne, List.getElem?_cons_succ, List.getElem?_cons_zero, Option.some.injEq, Int.cast_ofNat_Int, Int.reduceToNat, Int.reduceEq, List.getD_cons_zero, List.getD_cons_succ, Int.reduceLT, Int.reduceLE]
  refine goL_rule (fun n ρ H => ∃ done rest m, r = done ++ rest ∧ n = rest.length ∧ ρ = envOf [(0, .sl .no 1 L), (3, .int .i64 m), (4, .int .i64 ((done.length : Int) + 1))] ∧ minL rest m = minL r x ∧ H = Heap.emp) r.length ⟨[], r, x, rfl, rfl, by simp (disch := first | omega | assumption) only [steps, mkArgs, pev, rev, oev, optr, ibin, sbin, bound, mmAll, mm2, mk, AV.cells, AV.boxable, AV.one, fillA, fillS, splice_cons, splice_succ, splice_zero, Nat.reduceEqDiff, reduceCtorEq, ↓reduceIte, Nat.reduceAdd, Int.reduceNeg, decide_true, decide_false, List.take_succ_cons, List.take_zero, List.drop_succ_cons, List.drop_zero, List.length_cons, List.length_nil, List.headD_cons, List.cons_append, List.nil_append, Option.map_some, Bool.not_true, Bool.not_false, Bool.false_eq_true, eq_self, List.replicate_zero, List.replicate_succ, List.set_cons_zero, List.set_cons_succ, Nat.lt_add_one, Nat.zero_lt_succ, Nat.le_refl, Nat.reduceLeDiff, Nat.reduceAdd, if_pos, upd_ne, List.getElem?_cons_succ, List.getElem?_cons_zero, Option.some.injEq, Int.cast_ofNat_Int, Int.reduceToNat, Int.reduceEq, List.getD_cons_zero, List.getD_cons_succ, Int.reduceLT, Int.reduceLE] <;> simp, rfl, rfl⟩ ?_
  rintro n ρ H J ⟨done, rest, m, hd, rfl, rfl, hm, rfl⟩ hJ
  have hll : r.length = done.length + rest.length := by rw [hd]; simp
  cases rest with
  | nil =>
    have hlt : ¬ ((done.length : Int) + 1 < (↑(r.length + 1) : Int)) := by simp at hll; omega
    simp (disch := first | omega | assumption) only [hlen, hlt, steps, mkArgs, pev, rev, oev, optr, ibin, sbin, bound, mmAll, mm2, mk, AV.cells, AV.boxable, AV.one, fillA, fillS, splice_cons, splice_succ, splice_zero, Nat.reduceEqDiff, reduceCtorEq, ↓reduceIte, Nat.reduceAdd, Int.reduceNeg, decide_true, decide_false, List.take_succ_cons, List.take_zero, List.drop_succ_cons, List.drop_zero, List.length_cons, List.length_nil, List.headD_cons, List.cons_append, List.nil_append, Option.map_some, Bool.not_true, Bool.not_false, Bool.false_eq_true, eq_self, List.replicate_zero, List.replicate_succ, List.set_cons_zero, List.set_cons_succ, Nat.lt_add_one, Nat.zero_lt_succ, Nat.le_refl, Nat.reduceLeDiff, Nat.reduceAdd, if_pos, upd_ne, List.getElem?_cons_succ, List.getElem?_cons_zero, Option.some.injEq, Int.cast_ofNat_Int, Int.reduceToNat, Int.reduceEq, List.getD_cons_zero, List.getD_cons_succ, Int.reduceLT, Int.reduceLE]
    refine hQ _ _ _ _ nofun rfl ?_
    simpa [tupOf, envOf, AV.strip, AV.strip1, minL] using hm
  | cons y s =>
    simp only [List.length_cons] at hll
    have hlt : ((done.length : Int) + 1 < (↑(r.length + 1) : Int)) := by omega
    have e1 : L.getD (done.length + 1) [] = [.int .i64 y] := by rw [← hL, hd]; simp [cI]
    have e2 : ((done.length : Int) + 1).toNat = done.length + 1 := by omega
    simp (disch := first | omega | assumption) only [hlen, hlt, e1, e2, wrap64, steps, mkArgs, pev, rev, oev, optr, ibin, sbin, bound, mmAll, mm2, mk, AV.cells, AV.boxable, AV.one, fillA, fillS, splice_cons, splice_succ, splice_zero, Nat.reduceEqDiff, reduceCtorEq, ↓reduceIte, Nat.reduceAdd, Int.reduceNeg, decide_true, decide_false, List.take_succ_cons, List.take_zero, List.drop_succ_cons, List.drop_zero, List.length_cons, List.length_nil, List.headD_cons, List.cons_append, List.nil_append, Option.map_some, Bool.not_true, Bool.not_false, Bool.false_eq_true, eq_self, List.replicate_zero, List.replicate_succ, List.set_cons_zero, List.set_cons_succ, Nat.lt_add_one, Nat.zero_lt_succ, Nat.le_refl, Nat.reduceLeDiff, Nat.reduceAdd, if_pos, upd_ne, List.getElem?_cons_succ, List.getElem?_cons_zero, Option.some.injEq, Int.cast_ofNat_Int, Int.reduceToNat, Int.reduceEq, List.getD_cons_zero, List.getD_cons_succ, Int.reduceLT, Int.reduceLE]
    refine hJ s.length _ _ (by simp) ⟨done ++ [y], s, if y < m then y else m, by simp [hd], rfl, ?_, ?_, rfl⟩
    · simp
    · simpa [minL] using hm
def turnP (p : Int) (l : List Int) : Int := match l with
  | [] => -1
  | x :: r => if p ∈ x :: r then p else minL r x
theorem turnC (p : Int) (l : List Int) (hl : l.length ≤ maxLen) : Pure Try.prog 24 [.int .i64 p, .sl .no 1 (cI l)] (.int .i64 (turnP p l)) := by
  refine Pure.go ir24 ck24 (Nat.le_refl _) fun KP Q hQ => ?_
  have hlen := cI_length l
  have hmax : maxLen = 9223372036854775807 := rfl
  cases l with
  | nil =>
    simp (disch := first | omega | assumption) only [ir24, hlen, Int.natCast_zero, steps, mkArgs, pev, rev, oev, optr, ibin, sbin, bound, mmAll, mm2, mk, AV.cells, AV.boxable, AV.one, fillA, fillS, splice_cons, splice_succ, splice_zero, Nat.reduceEqDiff, reduceCtorEq, ↓reduceIte, Nat.reduceAdd, Int.reduceNeg, decide_true, decide_false, List.take_succ_cons, List.take_zero, List.drop_succ_cons, List.drop_zero, List.length_cons, List.length_nil, List.headD_cons, List.cons_append, List.nil_append, Option.map_some, Bool.not_true, Bool.not_false, Bool.false_eq_true, eq_self, List.replicate_zero, List.replicate_succ, List.set_cons_zero, List.set_cons_succ, Nat.lt_add_one, Nat.zero_lt_succ, Nat.le_refl, Nat.reduceLeDiff, Nat.reduceAdd, if_pos, upd_ne, List.getElem?_cons_succ, List.getElem?_cons_zero, Option.some.injEq, Int.cast_ofNat_Int, Int.reduceToNat, Int.reduceEq, List.getD_cons_zero, List.getD_cons_succ, Int.reduceLT, Int.reduceLE]
    refine hQ _ _ _ _ nofun rfl ?_
    simp [tupOf, envOf, AV.strip, AV.strip1, turnP]
  | cons x r =>
  simp only [List.length_cons] at hlen hl
  have h1 : ¬ ((↑(r.length + 1) : Int) = 0) := by omega
  simp (disch := first | omega | assumption) only [ir24, hlen, h1, steps, mkArgs, pev, rev, oev, optr, ibin, sbin, bound, mmAll, mm2, mk, AV.cells, AV.boxable, AV.one, fillA, fillS, splice_cons, splice_succ, splice_zero, Nat.reduceEqDiff, reduceCtorEq, ↓reduceIte, Nat.reduceAdd, Int.reduceNeg, decide_true, decide_false, List.take_succ_cons, List.take_zero, List.drop_succ_cons, List.drop_zero, List.length_cons, List.length_nil, List.headD_cons, List.cons_append, List.nil_append, Option.map_some, Bool.not_true, Bool.not_false, Bool.false_eq_true, eq_self, List.replicate_zero, List.replicate_succ, List.set_cons_zero, List.set_cons_succ, Nat.lt_add_one, Nat.zero_lt_succ, Nat.le_refl, Nat.reduceLeDiff, Nat.reduceAdd, if_pos, upd_ne, List.getElem?_cons_succ, List.getElem?_cons_zero, Option.some.injEq, Int.cast_ofNat_Int, Int.reduceToNat, Int.reduceEq, List.getD_cons_zero, List.getD_cons_succ, Int.reduceLT, Int.reduceLE]
  refine goK_pure (minC x r (by simpa using hl)) ?_
  simp (disch := first | omega | assumption) only [hlen, steps, mkArgs, pev, rev, oev, optr, ibin, sbin, bound, mmAll, mm2, mk, AV.cells, AV.boxable, AV.one, fillA, fillS, splice_cons, splice_succ, splice_zero, Nat.reduceEqDiff, reduceCtorEq, ↓reduceIte, Nat.reduceAdd, Int.reduceNeg, decide_true, decide_false, List.take_succ_cons, List.take_zero, List.drop_succ_cons, List.drop_zero, List.length_cons, List.length_nil, List.headD_cons, List.cons_append, List.nil_append, Option.map_some, Bool.not_true, Bool.not_false, Bool.false_eq_true, eq_self, List.replicate_zero, List.replicate_succ, List.set_cons_zero, List.set_cons_succ, Nat.lt_add_one, Nat.zero_lt_succ, Nat.le_refl, Nat.reduceLeDiff, Nat.reduceAdd, if_pos, upd_ne, List.getElem?_cons_succ, List.getElem?_cons_zero, Option.some.injEq, Int.cast_ofNat_Int, Int.reduceToNat, Int.reduceEq, List.getD_cons_zero, List.getD_cons_succ, Int.reduceLT, Int.reduceLE]
  refine goL_rule (fun n ρ H => ∃ done rest, x :: r = done ++ rest ∧ n = rest.length ∧ ρ = envOf [(0, .int .i64 p), (5, .int .i64 (minL r x)), (13, .sl .no 1 (cI (x :: r))), (14, .int .i64 ↑(r.length + 1)), (15, .int .i64 done.length)] ∧ p ∉ done ∧ H = Heap.emp) (r.length + 1) ⟨[], x :: r, rfl, rfl, by simp (disch := first | omega | assumption) only [steps, mkArgs, pev, rev, oev, optr, ibin, sbin, bound, mmAll, mm2, mk, AV.cells, AV.boxable, AV.one, fillA, fillS, splice_cons, splice_succ, splice_zero, Nat.reduceEqDiff, reduceCtorEq, ↓reduceIte, Nat.reduceAdd, Int.reduceNeg, decide_true, decide_false, List.take_succ_cons, List.take_zero, List.drop_succ_cons, List.drop_zero, List.length_cons, List.length_nil, List.headD_cons, List.cons_append, List.nil_append, Option.map_some, Bool.not_true, Bool.not_false, Bool.false_eq_true, eq_self, List.replicate_zero, List.replicate_succ, List.set_cons_zero, List.set_cons_succ, Nat.lt_add_one, Nat.zero_lt_succ, Nat.le_refl, Nat.reduceLeDiff, Nat.reduceAdd, if_pos, upd_ne, List.getElem?_cons_succ, List.getElem?_cons_zero, Option.some.injEq, Int.cast_ofNat_Int, Int.reduceToNat, Int.reduceEq, List.getD_cons_zero, List.getD_cons_succ, Int.reduceLT, Int.reduceLE] <;> rfl, by simp, rfl⟩ ?_
  rintro n ρ H J ⟨done, rest, hd, rfl, rfl, hm, rfl⟩ hJ
  have hll : r.length + 1 = done.length + rest.length := by have := congrArg List.length hd; simpa using this
  cases rest with
  | nil =>
    have hlt : ¬ ((done.length : Int) < (↑(r.length + 1) : Int)) := by simp at hll; omega
    simp (disch := first | omega | assumption) only [hlt, steps, mkArgs, pev, rev, oev, optr, ibin, sbin, bound, mmAll, mm2, mk, AV.cells, AV.boxable, AV.one, fillA, fillS, splice_cons, splice_succ, splice_zero, Nat.reduceEqDiff, reduceCtorEq, ↓reduceIte, Nat.reduceAdd, Int.reduceNeg, decide_true, decide_false, List.take_succ_cons, List.take_zero, List.drop_succ_cons, List.drop_zero, List.length_cons, List.length_nil, List.headD_cons, List.cons_append, List.nil_append, Option.map_some, Bool.not_true, Bool.not_false, Bool.false_eq_true, eq_self, List.replicate_zero, List.replicate_succ, List.set_cons_zero, List.set_cons_succ, Nat.lt_add_one, Nat.zero_lt_succ, Nat.le_refl, Nat.reduceLeDiff, Nat.reduceAdd, if_pos, upd_ne, List.getElem?_cons_succ, List.getElem?_cons_zero, Option.some.injEq, Int.cast_ofNat_Int, Int.reduceToNat, Int.reduceEq, List.getD_cons_zero, List.getD_cons_succ, Int.reduceLT, Int.reduceLE]
    refine hQ _ _ _ _ nofun rfl ?_
    simp only [List.append_nil] at hd
    have : p ∉ x :: r := by rw [hd]; exact hm
    simp [tupOf, envOf, AV.strip, AV.strip1, turnP, this]
  | cons y s =>
    simp only [List.length_cons] at hll
    have hlt : ((done.length : Int) < (↑(r.length + 1) : Int)) := by omega
    have e1 : (cI (x :: r)).getD done.length [] = [.int .i64 y] := by rw [hd]; simp [cI]
    by_cases hy : y = p
    · simp (disch := first | omega | assumption) only [hlen, hlt, Int.toNat_natCast, e1, hy, steps, mkArgs, pev, rev, oev, optr, ibin, sbin, bound, mmAll, mm2, mk, AV.cells, AV.boxable, AV.one, fillA, fillS, splice_cons, splice_succ, splice_zero, Nat.reduceEqDiff, reduceCtorEq, ↓reduceIte, Nat.reduceAdd, Int.reduceNeg, decide_true, decide_false, List.take_succ_cons, List.take_zero, List.drop_succ_cons, List.drop_zero, List.length_cons, List.length_nil, List.headD_cons, List.cons_append, List.nil_append, Option.map_some, Bool.not_true, Bool.not_false, Bool.false_eq_true, eq_self, List.replicate_zero, List.replicate_succ, List.set_cons_zero, List.set_cons_succ, Nat.lt_add_one, Nat.zero_lt_succ, Nat.le_refl, Nat.reduceLeDiff, Nat.reduceAdd, if_pos, upd_ne, List.getElem?_cons_succ, List.getElem?_cons_zero, Option.some.injEq, Int.cast_ofNat_Int, Int.reduceToNat, Int.reduceEq, List.getD_cons_zero, List.getD_cons_succ, Int.reduceLT, Int.reduceLE]
      refine hQ _ _ _ _ nofun rfl ?_
      have : p ∈ x :: r := by rw [hd, hy]; simp
      simp [tupOf, envOf, AV.strip, AV.strip1, turnP, this]
    · simp (disch := first | omega | assumption) only [hlen, hlt, Int.toNat_natCast, e1, hy, wrap64, steps, mkArgs, pev, rev, oev, optr, ibin, sbin, bound, mmAll, mm2, mk, AV.cells, AV.boxable, AV.one, fillA, fillS, splice_cons, splice_succ, splice_zero, Nat.reduceEqDiff, reduceCtorEq, ↓reduceIte, Nat.reduceAdd, Int.reduceNeg, decide_true, decide_false, List.take_succ_cons, List.take_zero, List.drop_succ_cons, List.drop_zero, List.length_cons, List.length_nil, List.headD_cons, List.cons_append, List.nil_append, Option.map_some, Bool.not_true, Bool.not_false, Bool.false_eq_true, eq_self, List.replicate_zero, List.replicate_succ, List.set_cons_zero, List.set_cons_succ, Nat.lt_add_one, Nat.zero_lt_succ, Nat.le_refl, Nat.reduceLeDiff, Nat.reduceAdd, if_pos, upd_ne, List.getElem?_cons_succ, List.getElem?_cons_zero, Option.some.injEq, Int.cast_ofNat_Int, Int.reduceToNat, Int.reduceEq, List.getD_cons_zero, List.getD_cons_succ, Int.reduceLT, Int.reduceLE]
      refine hJ s.length _ _ (by simp) ⟨done ++ [y], s, by simp [hd], rfl, ?_, ?_, rfl⟩
      · simp
      · simp [hm]; exact fun e => hy e.symm
end Go.Proofs.Ythkpgjnibolnhaa
namespace Go.Proofs.Ythkpgjnibolnhaa
open Go.Ab
instance : DecidableEq Batch := fun a b => decidable_of_iff (a.table = b.table ∧ a.keys = b.keys) ⟨fun ⟨h1, h2⟩ => by cases a; cases b; simp_all, fun h => by subst h; exact ⟨rfl, rfl⟩⟩
def lightN : List Batch → Int → Int
  | [], n => n
  | b :: r, n => lightN r (IntKind.wrap .i64 (IntKind.wrap .i64 (n + 1) + (b.keys.length : Int)))
theorem lightC (l : List Batch) (hl : l.length ≤ maxLen) : Pure Try.prog 38 [.sl .no 2 (cBs l)] (.bool (decide (lightN l 0 ≤ 200))) := by
  refine Pure.go ir38 ck38 (Nat.le_refl _) fun KP Q hQ => ?_
  have hlen := cBs_length l
  have hmax : maxLen = 9223372036854775807 := rfl
  simp (disch := first | omega | assumption) only [ir38, steps, mkArgs, pev, rev, oev, optr, ibin, sbin, bound, mmAll, mm2, mk, AV.cells, AV.boxable, AV.one, fillA, fillS, splice_cons, splice_succ, splice_zero, Nat.reduceEqDiff, reduceCtorEq, ↓reduceIte, Nat.reduceAdd, Int.reduceNeg, decide_true, decide_false, List.take_succ_cons, List.take_zero, List.drop_succ_cons, List.drop_zero, List.length_cons, List.length_nil, List.headD_cons, List.cons_append, List.nil_append, Option.map_some, Bool.not_true, Bool.not_false, Bool.false_eq_true, eq_self, List.replicate_zero, List.replicate_succ, List.set_cons_zero, List.set_cons_succ, Nat.lt_add_one, Nat.zero_lt_succ, Nat.le_refl, Nat.reduceLeDiff, Nat.reduceAdd, if_pos, upd_ne, List.getElem?_cons_succ, List.getElem?_cons_zero, Option.some.injEq, Int.cast_ofNat_Int, Int.reduceToNat, Int.reduceEq, List.getD_cons_zero, List.getD_cons_succ, Int.reduceLT, Int.reduceLE]
  refine goL_rule (fun n ρ H => ∃ done rest m, l = done ++ rest ∧ n = rest.length ∧ ρ = envOf [(0, .sl .no 2 (cBs l)), (3, .int .i64 m), (4, .int .i64 done.length)] ∧ lightN rest m = lightN l 0 ∧ H = Heap.emp) l.length ⟨[], l, 0, rfl, rfl, by simp (disch := first | omega | assumption) only [steps, mkArgs, pev, rev, oev, optr, ibin, sbin, bound, mmAll, mm2, mk, AV.cells, AV.boxable, AV.one, fillA, fillS, splice_cons, splice_succ, splice_zero, Nat.reduceEqDiff, reduceCtorEq, ↓reduceIte, Nat.reduceAdd, Int.reduceNeg, decide_true, decide_false, List.take_succ_cons, List.take_zero, List.drop_succ_cons, List.drop_zero, List.length_cons, List.length_nil, List.headD_cons, List.cons_append, List.nil_append, Option.map_some, Bool.not_true, Bool.not_false, Bool.false_eq_true, eq_self, List.replicate_zero, List.replicate_succ, List.set_cons_zero, List.set_cons_succ, Nat.lt_add_one, Nat.zero_lt_succ, Nat.le_refl, Nat.reduceLeDiff, Nat.reduceAdd, if_pos, upd_ne, List.getElem?_cons_succ, List.getElem?_cons_zero, Option.some.injEq, Int.cast_ofNat_Int, Int.reduceToNat, Int.reduceEq, List.getD_cons_zero, List.getD_cons_succ, Int.reduceLT, Int.reduceLE] <;> rfl, rfl, rfl⟩ ?_
  rintro n ρ H J ⟨done, rest, m, hd, rfl, rfl, hm, rfl⟩ hJ
  have hll : l.length = done.length + rest.length := by rw [hd]; simp
  cases rest with
  | nil =>
    have hlt : ¬ ((done.length : Int) < l.length) := by simp at hll; omega
    simp (disch := first | omega | assumption) only [hlen, hlt, steps, mkArgs, pev, rev, oev, optr, ibin, sbin, bound, mmAll, mm2, mk, AV.cells, AV.boxable, AV.one, fillA, fillS, splice_cons, splice_succ, splice_zero, Nat.reduceEqDiff, reduceCtorEq, ↓reduceIte, Nat.reduceAdd, Int.reduceNeg, decide_true, decide_false, List.take_succ_cons, List.take_zero, List.drop_succ_cons, List.drop_zero, List.length_cons, List.length_nil, List.headD_cons, List.cons_append, List.nil_append, Option.map_some, Bool.not_true, Bool.not_false, Bool.false_eq_true, eq_self, List.replicate_zero, List.replicate_succ, List.set_cons_zero, List.set_cons_succ, Nat.lt_add_one, Nat.zero_lt_succ, Nat.le_refl, Nat.reduceLeDiff, Nat.reduceAdd, if_pos, upd_ne, List.getElem?_cons_succ, List.getElem?_cons_zero, Option.some.injEq, Int.cast_ofNat_Int, Int.reduceToNat, Int.reduceEq, List.getD_cons_zero, List.getD_cons_succ, Int.reduceLT, Int.reduceLE]
    refine hQ _ _ _ _ nofun rfl ?_
    simp only [lightN] at hm
    simp [tupOf, envOf, AV.strip, AV.strip1, hm]
  | cons x r =>
    simp only [List.length_cons] at hll
    have hlt : ((done.length : Int) < l.length) := by omega
    have e1 : (cBs l).getD done.length [] = cB x := by rw [hd]; exact mid cB done x r
    simp (disch := first | omega | assumption) only [hlen, hlt, Int.toNat_natCast, e1, cB, cT_length, wrap64, steps, mkArgs, pev, rev, oev, optr, ibin, sbin, bound, mmAll, mm2, mk, AV.cells, AV.boxable, AV.one, fillA, fillS, splice_cons, splice_succ, splice_zero, Nat.reduceEqDiff, reduceCtorEq, ↓reduceIte, Nat.reduceAdd, Int.reduceNeg, decide_true, decide_false, List.take_succ_cons, List.take_zero, List.drop_succ_cons, List.drop_zero, List.length_cons, List.length_nil, List.headD_cons, List.cons_append, List.nil_append, Option.map_some, Bool.not_true, Bool.not_false, Bool.false_eq_true, eq_self, List.replicate_zero, List.replicate_succ, List.set_cons_zero, List.set_cons_succ, Nat.lt_add_one, Nat.zero_lt_succ, Nat.le_refl, Nat.reduceLeDiff, Nat.reduceAdd, if_pos, upd_ne, List.getElem?_cons_succ, List.getElem?_cons_zero, Option.some.injEq, Int.cast_ofNat_Int, Int.reduceToNat, Int.reduceEq, List.getD_cons_zero, List.getD_cons_succ, Int.reduceLT, Int.reduceLE]
    refine hJ r.length _ _ (by simp) ⟨done ++ [x], r, _, by simp [hd], rfl, ?_, hm, rfl⟩
    simp
theorem sameC (a b : Batch) (ha : a.keys.length ≤ maxLen) (hb : b.keys.length ≤ maxLen) : Pure Try.prog 45 [.agg (cB a), .agg (cB b)] (.bool (decide (a = b))) := by
  refine Pure.go ir45 ck45 (Nat.le_refl _) fun KP Q hQ => ?_
  have hmax : maxLen = 9223372036854775807 := rfl
  obtain ⟨ta, ka⟩ := a
  obtain ⟨tb, kb⟩ := b
  simp only at ha hb
  have hla := cT_length ka
  have hlb := cT_length kb
  by_cases ht : ta = tb
  case neg =>
    simp (disch := first | omega | assumption) only [ir45, cB, ht, ne_eq, not_false_eq_true, steps, mkArgs, pev, rev, oev, optr, ibin, sbin, bound, mmAll, mm2, mk, AV.cells, AV.boxable, AV.one, fillA, fillS, splice_cons, splice_succ, splice_zero, Nat.reduceEqDiff, reduceCtorEq, ↓reduceIte, Nat.reduceAdd, Int.reduceNeg, decide_true, decide_false, List.take_succ_cons, List.take_zero, List.drop_succ_cons, List.drop_zero, List.length_cons, List.length_nil, List.headD_cons, List.cons_append, List.nil_append, Option.map_some, Bool.not_true, Bool.not_false, Bool.false_eq_true, eq_self, List.replicate_zero, List.replicate_succ, List.set_cons_zero, List.set_cons_succ, Nat.lt_add_one, Nat.zero_lt_succ, Nat.le_refl, Nat.reduceLeDiff, Nat.reduceAdd, if_pos, upd_ne, List.getElem?_cons_succ, List.getElem?_cons_zero, Option.some.injEq, Int.cast_ofNat_Int, Int.reduceToNat, Int.reduceEq, List.getD_cons_zero, List.getD_cons_succ, Int.reduceLT, Int.reduceLE]
    refine hQ _ _ _ _ nofun rfl ?_
    simp [tupOf, envOf, AV.strip, AV.strip1, ht]
  by_cases hk : (ka.length : Int) = kb.length
  case neg =>
    simp (disch := first | omega | assumption) only [ir45, cB, ht, hk, hla, hlb, ne_eq, not_false_eq_true, not_true_eq_false, steps, mkArgs, pev, rev, oev, optr, ibin, sbin, bound, mmAll, mm2, mk, AV.cells, AV.boxable, AV.one, fillA, fillS, splice_cons, splice_succ, splice_zero, Nat.reduceEqDiff, reduceCtorEq, ↓reduceIte, Nat.reduceAdd, Int.reduceNeg, decide_true, decide_false, List.take_succ_cons, List.take_zero, List.drop_succ_cons, List.drop_zero, List.length_cons, List.length_nil, List.headD_cons, List.cons_append, List.nil_append, Option.map_some, Bool.not_true, Bool.not_false, Bool.false_eq_true, eq_self, List.replicate_zero, List.replicate_succ, List.set_cons_zero, List.set_cons_succ, Nat.lt_add_one, Nat.zero_lt_succ, Nat.le_refl, Nat.reduceLeDiff, Nat.reduceAdd, if_pos, upd_ne, List.getElem?_cons_succ, List.getElem?_cons_zero, Option.some.injEq, Int.cast_ofNat_Int, Int.reduceToNat, Int.reduceEq, List.getD_cons_zero, List.getD_cons_succ, Int.reduceLT, Int.reduceLE]
    refine hQ _ _ _ _ nofun rfl ?_
    have : ka ≠ kb := fun e => hk (by rw [e])
    simp [tupOf, envOf, AV.strip, AV.strip1, this]
  subst ht
  simp (disch := first | omega | assumption) only [ir45, cB, hk, hla, hlb, ne_eq, not_true_eq_false, steps, mkArgs, pev, rev, oev, optr, ibin, sbin, bound, mmAll, mm2, mk, AV.cells, AV.boxable, AV.one, fillA, fillS, splice_cons, splice_succ, splice_zero, Nat.reduceEqDiff, reduceCtorEq, ↓reduceIte, Nat.reduceAdd, Int.reduceNeg, decide_true, decide_false, List.take_succ_cons, List.take_zero, List.drop_succ_cons, List.drop_zero, List.length_cons, List.length_nil, List.headD_cons, List.cons_append, List.nil_append, Option.map_some, Bool.not_true, Bool.not_false, Bool.false_eq_true, eq_self, List.replicate_zero, List.replicate_succ, List.set_cons_zero, List.set_cons_succ, Nat.lt_add_one, Nat.zero_lt_succ, Nat.le_refl, Nat.reduceLeDiff, Nat.reduceAdd, if_pos, upd_ne, List.getElem?_cons_succ, List.getElem?_cons_zero, Option.some.injEq, Int.cast_ofNat_Int, Int.reduceToNat, Int.reduceEq, List.getD_cons_zero, List.getD_cons_succ, Int.reduceLT, Int.reduceLE]
  refine goL_rule (fun n ρ H => ∃ done r1 r2, ka = done ++ r1 ∧ kb = done ++ r2 ∧ n = r1.length ∧ ρ = envOf [(2, .view [.str ta, .sl .no 1 (cT ka)]), (3, .view [.str ta, .sl .no 1 (cT kb)]), (5, .int .i64 done.length)] ∧ H = Heap.emp) ka.length ⟨[], ka, kb, rfl, rfl, rfl, by simp (disch := first | omega | assumption) only [steps, mkArgs, pev, rev, oev, optr, ibin, sbin, bound, mmAll, mm2, mk, AV.cells, AV.boxable, AV.one, fillA, fillS, splice_cons, splice_succ, splice_zero, Nat.reduceEqDiff, reduceCtorEq, ↓reduceIte, Nat.reduceAdd, Int.reduceNeg, decide_true, decide_false, List.take_succ_cons, List.take_zero, List.drop_succ_cons, List.drop_zero, List.length_cons, List.length_nil, List.headD_cons, List.cons_append, List.nil_append, Option.map_some, Bool.not_true, Bool.not_false, Bool.false_eq_true, eq_self, List.replicate_zero, List.replicate_succ, List.set_cons_zero, List.set_cons_succ, Nat.lt_add_one, Nat.zero_lt_succ, Nat.le_refl, Nat.reduceLeDiff, Nat.reduceAdd, if_pos, upd_ne, List.getElem?_cons_succ, List.getElem?_cons_zero, Option.some.injEq, Int.cast_ofNat_Int, Int.reduceToNat, Int.reduceEq, List.getD_cons_zero, List.getD_cons_succ, Int.reduceLT, Int.reduceLE] <;> rfl, rfl⟩ ?_
  rintro n ρ H J ⟨done, r1, r2, h1, h2, rfl, rfl, rfl⟩ hJ
  have hl1 : ka.length = done.length + r1.length := by rw [h1]; simp
  have hl2 : kb.length = done.length + r2.length := by rw [h2]; simp
  cases r1 with
  | nil =>
    have hlt : ¬ ((done.length : Int) < ka.length) := by simp at hl1; omega
    have : r2 = [] := List.eq_nil_of_length_eq_zero (by simp at hl1; omega)
    subst this
    simp (disch := first | omega | assumption) only [hla, hlt, steps, mkArgs, pev, rev, oev, optr, ibin, sbin, bound, mmAll, mm2, mk, AV.cells, AV.boxable, AV.one, fillA, fillS, splice_cons, splice_succ, splice_zero, Nat.reduceEqDiff, reduceCtorEq, ↓reduceIte, Nat.reduceAdd, Int.reduceNeg, decide_true, decide_false, List.take_succ_cons, List.take_zero, List.drop_succ_cons, List.drop_zero, List.length_cons, List.length_nil, List.headD_cons, List.cons_append, List.nil_append, Option.map_some, Bool.not_true, Bool.not_false, Bool.false_eq_true, eq_self, List.replicate_zero, List.replicate_succ, List.set_cons_zero, List.set_cons_succ, Nat.lt_add_one, Nat.zero_lt_succ, Nat.le_refl, Nat.reduceLeDiff, Nat.reduceAdd, if_pos, upd_ne, List.getElem?_cons_succ, List.getElem?_cons_zero, Option.some.injEq, Int.cast_ofNat_Int, Int.reduceToNat, Int.reduceEq, List.getD_cons_zero, List.getD_cons_succ, Int.reduceLT, Int.reduceLE]
    refine hQ _ _ _ _ nofun rfl ?_
    simp [tupOf, envOf, AV.strip, AV.strip1, h1, h2]
  | cons x s1 =>
    cases r2 with
    | nil => simp at hl1 hl2; omega
    | cons y s2 =>
      simp only [List.length_cons] at hl1 hl2
      have hlt : ((done.length : Int) < ka.length) := by omega
      have e1 : (cT ka).getD done.length [] = [.str x] := by rw [h1]; simp [cT]
      have e2 : (cT kb).getD done.length [] = [.str y] := by rw [h2]; simp [cT]
      by_cases hxy : x = y
      · simp (disch := first | omega | assumption) only [hla, hlb, hlt, Int.toNat_natCast, e1, e2, hxy, ne_eq, not_true_eq_false, wrap64, steps, mkArgs, pev, rev, oev, optr, ibin, sbin, bound, mmAll, mm2, mk, AV.cells, AV.boxable, AV.one, fillA, fillS, splice_cons, splice_succ, splice_zero, Nat.reduceEqDiff, reduceCtorEq, ↓reduceIte, Nat.reduceAdd, Int.reduceNeg, decide_true, decide_false, List.take_succ_cons, List.take_zero, List.drop_succ_cons, List.drop_zero, List.length_cons, List.length_nil, List.headD_cons, List.cons_append, List.nil_append, Option.map_some, Bool.not_true, Bool.not_false, Bool.false_eq_true, eq_self, List.replicate_zero, List.replicate_succ, List.set_cons_zero, List.set_cons_succ, Nat.lt_add_one, Nat.zero_lt_succ, Nat.le_refl, Nat.reduceLeDiff, Nat.reduceAdd, if_pos, upd_ne, List.getElem?_cons_succ, List.getElem?_cons_zero, Option.some.injEq, Int.cast_ofNat_Int, Int.reduceToNat, Int.reduceEq, List.getD_cons_zero, List.getD_cons_succ, Int.reduceLT, Int.reduceLE]
        refine hJ s1.length _ _ (by simp) ⟨done ++ [x], s1, s2, by simp [h1], by simp [h2, hxy], rfl, ?_, rfl⟩
        simp
      · simp (disch := first | omega | assumption) only [hla, hlb, hlt, Int.toNat_natCast, e1, e2, hxy, ne_eq, not_false_eq_true, wrap64, steps, mkArgs, pev, rev, oev, optr, ibin, sbin, bound, mmAll, mm2, mk, AV.cells, AV.boxable, AV.one, fillA, fillS, splice_cons, splice_succ, splice_zero, Nat.reduceEqDiff, reduceCtorEq, ↓reduceIte, Nat.reduceAdd, Int.reduceNeg, decide_true, decide_false, List.take_succ_cons, List.take_zero, List.drop_succ_cons, List.drop_zero, List.length_cons, List.length_nil, List.headD_cons, List.cons_append, List.nil_append, Option.map_some, Bool.not_true, Bool.not_false, Bool.false_eq_true, eq_self, List.replicate_zero, List.replicate_succ, List.set_cons_zero, List.set_cons_succ, Nat.lt_add_one, Nat.zero_lt_succ, Nat.le_refl, Nat.reduceLeDiff, Nat.reduceAdd, if_pos, upd_ne, List.getElem?_cons_succ, List.getElem?_cons_zero, Option.some.injEq, Int.cast_ofNat_Int, Int.reduceToNat, Int.reduceEq, List.getD_cons_zero, List.getD_cons_succ, Int.reduceLT, Int.reduceLE]
        refine hQ _ _ _ _ nofun rfl ?_
        have : ka ≠ kb := fun e => hxy (by rw [h1, h2] at e; exact (List.cons.inj (List.append_cancel_left e)).1)
        simp [tupOf, envOf, AV.strip, AV.strip1, this]
theorem awakeC : Pure Try.prog 22 [] (.bool true) := by
  refine Pure.go ir22 ck22 (Nat.le_refl _) fun KP Q hQ => ?_
  simp (disch := first | omega | assumption) only [ir22, steps, mkArgs, pev, rev, oev, optr, ibin, sbin, bound, mmAll, mm2, mk, AV.cells, AV.boxable, AV.one, fillA, fillS, splice_cons, splice_succ, splice_zero, Nat.reduceEqDiff, reduceCtorEq, ↓reduceIte, Nat.reduceAdd, Int.reduceNeg, decide_true, decide_false, List.take_succ_cons, List.take_zero, List.drop_succ_cons, List.drop_zero, List.length_cons, List.length_nil, List.headD_cons, List.cons_append, List.nil_append, Option.map_some, Bool.not_true, Bool.not_false, Bool.false_eq_true, eq_self, List.replicate_zero, List.replicate_succ, List.set_cons_zero, List.set_cons_succ, Nat.lt_add_one, Nat.zero_lt_succ, Nat.le_refl, Nat.reduceLeDiff, Nat.reduceAdd, if_pos, upd_ne, List.getElem?_cons_succ, List.getElem?_cons_zero, Option.some.injEq, Int.cast_ofNat_Int, Int.reduceToNat, Int.reduceEq, List.getD_cons_zero, List.getD_cons_succ, Int.reduceLT, Int.reduceLE]
  refine goK_ret (newC 2 (by omega) (by omega)) fun v H1 ⟨c, l, hv, hc1, hsub1, _, _⟩ => ?_
  subst hv
  simp (disch := first | omega | assumption) only [steps, mkArgs, pev, rev, oev, optr, ibin, sbin, bound, mmAll, mm2, mk, AV.cells, AV.boxable, AV.one, fillA, fillS, splice_cons, splice_succ, splice_zero, Nat.reduceEqDiff, reduceCtorEq, ↓reduceIte, Nat.reduceAdd, Int.reduceNeg, decide_true, decide_false, List.take_succ_cons, List.take_zero, List.drop_succ_cons, List.drop_zero, List.length_cons, List.length_nil, List.headD_cons, List.cons_append, List.nil_append, Option.map_some, Bool.not_true, Bool.not_false, Bool.false_eq_true, eq_self, List.replicate_zero, List.replicate_succ, List.set_cons_zero, List.set_cons_succ, Nat.lt_add_one, Nat.zero_lt_succ, Nat.le_refl, Nat.reduceLeDiff, Nat.reduceAdd, if_pos, upd_ne, List.getElem?_cons_succ, List.getElem?_cons_zero, Option.some.injEq, Int.cast_ofNat_Int, Int.reduceToNat, Int.reduceEq, List.getD_cons_zero, List.getD_cons_succ, Int.reduceLT, Int.reduceLE]
  refine goK_ret (ACalls.low (layC hc1 [⟨[116], [[97]]⟩] ?_ ?_)) fun v H2 ⟨hv, ⟨o2, _, hc2⟩, _⟩ => ?_
  · intro b hb; simp at hb; subst hb; simp [Batch.small]
  · simp
  simp (disch := first | omega | assumption) only [steps, mkArgs, pev, rev, oev, optr, ibin, sbin, bound, mmAll, mm2, mk, AV.cells, AV.boxable, AV.one, fillA, fillS, splice_cons, splice_succ, splice_zero, Nat.reduceEqDiff, reduceCtorEq, ↓reduceIte, Nat.reduceAdd, Int.reduceNeg, decide_true, decide_false, List.take_succ_cons, List.take_zero, List.drop_succ_cons, List.drop_zero, List.length_cons, List.length_nil, List.headD_cons, List.cons_append, List.nil_append, Option.map_some, Bool.not_true, Bool.not_false, Bool.false_eq_true, eq_self, List.replicate_zero, List.replicate_succ, List.set_cons_zero, List.set_cons_succ, Nat.lt_add_one, Nat.zero_lt_succ, Nat.le_refl, Nat.reduceLeDiff, Nat.reduceAdd, if_pos, upd_ne, List.getElem?_cons_succ, List.getElem?_cons_zero, Option.some.injEq, Int.cast_ofNat_Int, Int.reduceToNat, Int.reduceEq, List.getD_cons_zero, List.getD_cons_succ, Int.reduceLT, Int.reduceLE]
  refine goK_ret (canAll hc2 (by simp [idle])) fun v H3 ⟨hv, hH⟩ => ?_
  rw [show cI (cans (idle (Int.toNat 2)) ([] ++ [⟨[116], [[97]]⟩]) (idle (Int.toNat 2)).length) = [[.int .i64 1], [.int .i64 2]] from rfl] at hv
  subst hH; subst hv
  have e1 : stepW (idle (Int.toNat 2)) ([] ++ [⟨[116], [[97]]⟩]) 2 = ((⟨[116], [[97]]⟩, 1), [(0, ⟨[], []⟩), (1, ⟨[116], [[97]]⟩)], []) := rfl
  have e2 : stepW [(0, ⟨[], []⟩), (1, ⟨[116], [[97]]⟩)] [] 2 = ((⟨[116], [[97]]⟩, 2), [(0, ⟨[], []⟩), (2, ⟨[116], [[97]]⟩)], []) := rfl
  have e3 : stepW [(0, ⟨[], []⟩), (2, ⟨[116], [[97]]⟩)] [] 2 = ((⟨[116], [[97]]⟩, 3), [(0, ⟨[], []⟩), (0, ⟨[116], [[97]]⟩)], []) := rfl
  have sm1 : (∀ x ∈ idle (Int.toNat 2), x.2.small) ∧ ∀ x ∈ ([] ++ [⟨[116], [[97]]⟩] : List Batch), x.small := ⟨by intro x hx; simp [idle] at hx; subst hx; simp [Batch.small], by intro x hx; simp at hx; subst hx; simp [Batch.small]⟩
  have sm2 : ∀ n : Int, (∀ x ∈ ([(0, ⟨[], []⟩), (n, ⟨[116], [[97]]⟩)] : List (Int × Batch)), x.2.small) ∧ ∀ x ∈ ([] : List Batch), x.small := fun n => ⟨by intro x hx; simp at hx; rcases hx with rfl | rfl <;> simp [Batch.small], by simp⟩
  simp (disch := first | omega | assumption) only [steps, mkArgs, pev, rev, oev, optr, ibin, sbin, bound, mmAll, mm2, mk, AV.cells, AV.boxable, AV.one, fillA, fillS, splice_cons, splice_succ, splice_zero, Nat.reduceEqDiff, reduceCtorEq, ↓reduceIte, Nat.reduceAdd, Int.reduceNeg, decide_true, decide_false, List.take_succ_cons, List.take_zero, List.drop_succ_cons, List.drop_zero, List.length_cons, List.length_nil, List.headD_cons, List.cons_append, List.nil_append, Option.map_some, Bool.not_true, Bool.not_false, Bool.false_eq_true, eq_self, List.replicate_zero, List.replicate_succ, List.set_cons_zero, List.set_cons_succ, Nat.lt_add_one, Nat.zero_lt_succ, Nat.le_refl, Nat.reduceLeDiff, Nat.reduceAdd, if_pos, upd_ne, List.getElem?_cons_succ, List.getElem?_cons_zero, Option.some.injEq, Int.cast_ofNat_Int, Int.reduceToNat, Int.reduceEq, List.getD_cons_zero, List.getD_cons_succ, Int.reduceLT, Int.reduceLE]
  refine goK_ret (stepC hc2 2 (by simp [idle]) (by intro x hx; simp [idle] at hx; subst hx; simp) sm1) fun v H4 ⟨hv, ⟨o4, _, hc4⟩, hk4⟩ => ?_
  rw [e1] at hv hc4
  subst hv
  simp (disch := first | omega | assumption) only [cB, steps, mkArgs, pev, rev, oev, optr, ibin, sbin, bound, mmAll, mm2, mk, AV.cells, AV.boxable, AV.one, fillA, fillS, splice_cons, splice_succ, splice_zero, Nat.reduceEqDiff, reduceCtorEq, ↓reduceIte, Nat.reduceAdd, Int.reduceNeg, decide_true, decide_false, List.take_succ_cons, List.take_zero, List.drop_succ_cons, List.drop_zero, List.length_cons, List.length_nil, List.headD_cons, List.cons_append, List.nil_append, Option.map_some, Bool.not_true, Bool.not_false, Bool.false_eq_true, eq_self, List.replicate_zero, List.replicate_succ, List.set_cons_zero, List.set_cons_succ, Nat.lt_add_one, Nat.zero_lt_succ, Nat.le_refl, Nat.reduceLeDiff, Nat.reduceAdd, if_pos, upd_ne, List.getElem?_cons_succ, List.getElem?_cons_zero, Option.some.injEq, Int.cast_ofNat_Int, Int.reduceToNat, Int.reduceEq, List.getD_cons_zero, List.getD_cons_succ, Int.reduceLT, Int.reduceLE]
  refine goA_intro fun b1 hb1 => ?_
  simp (disch := first | omega | assumption) only [steps, mkArgs, pev, rev, oev, optr, ibin, sbin, bound, mmAll, mm2, mk, AV.cells, AV.boxable, AV.one, fillA, fillS, splice_cons, splice_succ, splice_zero, Nat.reduceEqDiff, reduceCtorEq, ↓reduceIte, Nat.reduceAdd, Int.reduceNeg, decide_true, decide_false, List.take_succ_cons, List.take_zero, List.drop_succ_cons, List.drop_zero, List.length_cons, List.length_nil, List.headD_cons, List.cons_append, List.nil_append, Option.map_some, Bool.not_true, Bool.not_false, Bool.false_eq_true, eq_self, List.replicate_zero, List.replicate_succ, List.set_cons_zero, List.set_cons_succ, Nat.lt_add_one, Nat.zero_lt_succ, Nat.le_refl, Nat.reduceLeDiff, Nat.reduceAdd, if_pos, upd_ne, List.getElem?_cons_succ, List.getElem?_cons_zero, Option.some.injEq, Int.cast_ofNat_Int, Int.reduceToNat, Int.reduceEq, List.getD_cons_zero, List.getD_cons_succ, Int.reduceLT, Int.reduceLE]
  have hc5 := hc4.sub (sub_upd (o := .cells [.str [116], .sl .no 1 (cT [[97]])]) (sub_refl H4) hb1)
  refine goK_ret (stepC hc5 2 (by simp) (by intro x hx; simp at hx; rcases hx with rfl | rfl <;> simp) (sm2 1)) fun v H6 ⟨hv, ⟨o6, _, hc6⟩, hk6⟩ => ?_
  rw [e2] at hv hc6
  subst hv
  simp (disch := first | omega | assumption) only [cB, steps, mkArgs, pev, rev, oev, optr, ibin, sbin, bound, mmAll, mm2, mk, AV.cells, AV.boxable, AV.one, fillA, fillS, splice_cons, splice_succ, splice_zero, Nat.reduceEqDiff, reduceCtorEq, ↓reduceIte, Nat.reduceAdd, Int.reduceNeg, decide_true, decide_false, List.take_succ_cons, List.take_zero, List.drop_succ_cons, List.drop_zero, List.length_cons, List.length_nil, List.headD_cons, List.cons_append, List.nil_append, Option.map_some, Bool.not_true, Bool.not_false, Bool.false_eq_true, eq_self, List.replicate_zero, List.replicate_succ, List.set_cons_zero, List.set_cons_succ, Nat.lt_add_one, Nat.zero_lt_succ, Nat.le_refl, Nat.reduceLeDiff, Nat.reduceAdd, if_pos, upd_ne, List.getElem?_cons_succ, List.getElem?_cons_zero, Option.some.injEq, Int.cast_ofNat_Int, Int.reduceToNat, Int.reduceEq, List.getD_cons_zero, List.getD_cons_succ, Int.reduceLT, Int.reduceLE]
  refine goA_intro fun b2 hb2 => ?_
  simp (disch := first | omega | assumption) only [steps, mkArgs, pev, rev, oev, optr, ibin, sbin, bound, mmAll, mm2, mk, AV.cells, AV.boxable, AV.one, fillA, fillS, splice_cons, splice_succ, splice_zero, Nat.reduceEqDiff, reduceCtorEq, ↓reduceIte, Nat.reduceAdd, Int.reduceNeg, decide_true, decide_false, List.take_succ_cons, List.take_zero, List.drop_succ_cons, List.drop_zero, List.length_cons, List.length_nil, List.headD_cons, List.cons_append, List.nil_append, Option.map_some, Bool.not_true, Bool.not_false, Bool.false_eq_true, eq_self, List.replicate_zero, List.replicate_succ, List.set_cons_zero, List.set_cons_succ, Nat.lt_add_one, Nat.zero_lt_succ, Nat.le_refl, Nat.reduceLeDiff, Nat.reduceAdd, if_pos, upd_ne, List.getElem?_cons_succ, List.getElem?_cons_zero, Option.some.injEq, Int.cast_ofNat_Int, Int.reduceToNat, Int.reduceEq, List.getD_cons_zero, List.getD_cons_succ, Int.reduceLT, Int.reduceLE]
  have hc7 := hc6.sub (sub_upd (o := .cells [.str [116], .sl .no 1 (cT [[97]])]) (sub_refl H6) hb2)
  refine goK_ret (stepC hc7 2 (by simp) (by intro x hx; simp at hx; rcases hx with rfl | rfl <;> simp) (sm2 2)) fun v H8 ⟨hv, ⟨o8, _, hc8⟩, hk8⟩ => ?_
  rw [e3] at hv hc8
  subst hv
  simp (disch := first | omega | assumption) only [cB, steps, mkArgs, pev, rev, oev, optr, ibin, sbin, bound, mmAll, mm2, mk, AV.cells, AV.boxable, AV.one, fillA, fillS, splice_cons, splice_succ, splice_zero, Nat.reduceEqDiff, reduceCtorEq, ↓reduceIte, Nat.reduceAdd, Int.reduceNeg, decide_true, decide_false, List.take_succ_cons, List.take_zero, List.drop_succ_cons, List.drop_zero, List.length_cons, List.length_nil, List.headD_cons, List.cons_append, List.nil_append, Option.map_some, Bool.not_true, Bool.not_false, Bool.false_eq_true, eq_self, List.replicate_zero, List.replicate_succ, List.set_cons_zero, List.set_cons_succ, Nat.lt_add_one, Nat.zero_lt_succ, Nat.le_refl, Nat.reduceLeDiff, Nat.reduceAdd, if_pos, upd_ne, List.getElem?_cons_succ, List.getElem?_cons_zero, Option.some.injEq, Int.cast_ofNat_Int, Int.reduceToNat, Int.reduceEq, List.getD_cons_zero, List.getD_cons_succ, Int.reduceLT, Int.reduceLE]
  refine goA_intro fun b3 hb3 => ?_
  simp (disch := first | omega | assumption) only [steps, mkArgs, pev, rev, oev, optr, ibin, sbin, bound, mmAll, mm2, mk, AV.cells, AV.boxable, AV.one, fillA, fillS, splice_cons, splice_succ, splice_zero, Nat.reduceEqDiff, reduceCtorEq, ↓reduceIte, Nat.reduceAdd, Int.reduceNeg, decide_true, decide_false, List.take_succ_cons, List.take_zero, List.drop_succ_cons, List.drop_zero, List.length_cons, List.length_nil, List.headD_cons, List.cons_append, List.nil_append, Option.map_some, Bool.not_true, Bool.not_false, Bool.false_eq_true, eq_self, List.replicate_zero, List.replicate_succ, List.set_cons_zero, List.set_cons_succ, Nat.lt_add_one, Nat.zero_lt_succ, Nat.le_refl, Nat.reduceLeDiff, Nat.reduceAdd, if_pos, upd_ne, List.getElem?_cons_succ, List.getElem?_cons_zero, Option.some.injEq, Int.cast_ofNat_Int, Int.reduceToNat, Int.reduceEq, List.getD_cons_zero, List.getD_cons_succ, Int.reduceLT, Int.reduceLE]
  have hc9 := hc8.sub (sub_upd (o := .cells [.str [116], .sl .no 1 (cT [[97]])]) (sub_refl H8) hb3)
  refine goK_ret (canAll hc9 (by simp)) fun v H10 ⟨hv, hH⟩ => ?_
  rw [show cI (cans [(0, ⟨[], []⟩), (0, ⟨[116], [[97]]⟩)] [] ([(0, ⟨[], []⟩), (0, ⟨[116], [[97]]⟩)] : List (Int × Batch)).length) = [] from rfl] at hv
  subst hH; subst hv
  simp (disch := first | omega | assumption) only [Int.natCast_zero, steps, mkArgs, pev, rev, oev, optr, ibin, sbin, bound, mmAll, mm2, mk, AV.cells, AV.boxable, AV.one, fillA, fillS, splice_cons, splice_succ, splice_zero, Nat.reduceEqDiff, reduceCtorEq, ↓reduceIte, Nat.reduceAdd, Int.reduceNeg, decide_true, decide_false, List.take_succ_cons, List.take_zero, List.drop_succ_cons, List.drop_zero, List.length_cons, List.length_nil, List.headD_cons, List.cons_append, List.nil_append, Option.map_some, Bool.not_true, Bool.not_false, Bool.false_eq_true, eq_self, List.replicate_zero, List.replicate_succ, List.set_cons_zero, List.set_cons_succ, Nat.lt_add_one, Nat.zero_lt_succ, Nat.le_refl, Nat.reduceLeDiff, Nat.reduceAdd, if_pos, upd_ne, List.getElem?_cons_succ, List.getElem?_cons_zero, Option.some.injEq, Int.cast_ofNat_Int, Int.reduceToNat, Int.reduceEq, List.getD_cons_zero, List.getD_cons_succ, Int.reduceLT, Int.reduceLE]
  refine goK_pure (Pure.low (turnC 5 [2, 1] (by simp [maxLen]))) ?_
  simp (disch := first | omega | assumption) only [steps, mkArgs, pev, rev, oev, optr, ibin, sbin, bound, mmAll, mm2, mk, AV.cells, AV.boxable, AV.one, fillA, fillS, splice_cons, splice_succ, splice_zero, Nat.reduceEqDiff, reduceCtorEq, ↓reduceIte, Nat.reduceAdd, Int.reduceNeg, decide_true, decide_false, List.take_succ_cons, List.take_zero, List.drop_succ_cons, List.drop_zero, List.length_cons, List.length_nil, List.headD_cons, List.cons_append, List.nil_append, Option.map_some, Bool.not_true, Bool.not_false, Bool.false_eq_true, eq_self, List.replicate_zero, List.replicate_succ, List.set_cons_zero, List.set_cons_succ, Nat.lt_add_one, Nat.zero_lt_succ, Nat.le_refl, Nat.reduceLeDiff, Nat.reduceAdd, if_pos, upd_ne, List.getElem?_cons_succ, List.getElem?_cons_zero, Option.some.injEq, Int.cast_ofNat_Int, Int.reduceToNat, Int.reduceEq, List.getD_cons_zero, List.getD_cons_succ, Int.reduceLT, Int.reduceLE]
  refine hQ _ _ _ _ nofun rfl ?_
  simp [tupOf, envOf, AV.strip, AV.strip1]
  rfl
end Go.Proofs.Ythkpgjnibolnhaa
namespace Go.Proofs.Ythkpgjnibolnhaa
open Go.Ab
def stC (ws : List (Int × Batch)) : List AV := ws.map fun x => .int .i64 x.1
def hdC (ws : List (Int × Batch)) : List AV := (ws.map fun x => cB x.2).flatten
theorem stC_len (ws : List (Int × Batch)) : (stC ws).length = ws.length := by simp [stC]
theorem hdC_len : ∀ ws : List (Int × Batch), (hdC ws).length = ws.length * 2
  | [] => rfl
  | x :: r => by have := hdC_len r; simp only [hdC] at this; simp only [hdC, List.map_cons, List.flatten_cons, List.length_append, this, List.length_cons]; simp [cB]; omega
theorem hdC_app (a b : List (Int × Batch)) : hdC (a ++ b) = hdC a ++ hdC b := by simp [hdC]
theorem hdC_cons (x : Int × Batch) (b : List (Int × Batch)) : hdC (x :: b) = cB x.2 ++ hdC b := by simp [hdC]
theorem stC_drop (a : List (Int × Batch)) (x : Int × Batch) (b : List (Int × Batch)) : (stC (a ++ x :: b)).drop (0 + a.length * 1) = .int .i64 x.1 :: stC b := by
  rw [stC, List.map_append, Nat.zero_add, Nat.mul_one, List.drop_left' (by simp)]; simp [stC]
theorem hdC_drop (a : List (Int × Batch)) (x : Int × Batch) (b : List (Int × Batch)) : (hdC (a ++ x :: b)).drop (0 + a.length * 2) = [.str x.2.table, .sl .no 1 (cT x.2.keys)] ++ hdC b := by
  rw [hdC_app, hdC_cons, Nat.zero_add, List.drop_left' (hdC_len a)]; rfl
theorem stC_set (a : List (Int × Batch)) (x : Int × Batch) (b : List (Int × Batch)) (n : Int) (y : Batch) : splice (stC (a ++ x :: b)) (0 + a.length * 1) [.int .i64 n] = stC (a ++ (n, y) :: b) := by
  unfold splice
  rw [Nat.zero_add, Nat.mul_one]
  have h1 : (stC (a ++ x :: b)).take a.length = stC a := by rw [stC, List.map_append, List.take_left' (by simp)]; rfl
  have h2 : (stC (a ++ x :: b)).drop (a.length + [AV.int .i64 n].length) = stC b := by
    rw [stC, show a ++ x :: b = (a ++ [x]) ++ b by simp, List.map_append, List.drop_left' (by simp)]; rfl
  rw [h1, h2]; simp [stC]
theorem hdC_set (a : List (Int × Batch)) (x : Int × Batch) (b : List (Int × Batch)) (n : Int) (y : Batch) : splice (hdC (a ++ x :: b)) (0 + a.length * 2) [.str y.table, .sl .no 1 (cT y.keys)] = hdC (a ++ (n, y) :: b) := by
  unfold splice
  rw [Nat.zero_add]
  have h1 : (hdC (a ++ x :: b)).take (a.length * 2) = hdC a := by rw [hdC_app, List.take_left' (hdC_len a)]
  have h2 : (hdC (a ++ x :: b)).drop (a.length * 2 + [AV.str y.table, .sl .no 1 (cT y.keys)].length) = hdC b := by
    rw [hdC_app, hdC_cons, ← List.append_assoc, List.drop_left' (by simp [hdC_len, cB])]
  rw [h1, h2, hdC_app, hdC_cons]; simp [cB]
theorem hdC_same (a : List (Int × Batch)) (x : Int × Batch) (b : List (Int × Batch)) (n : Int) : hdC (a ++ (n, x.2) :: b) = hdC (a ++ x :: b) := by simp [hdC]
structure RcAt (H : Heap) (r s h : Nat) (o : Own) (ws : List (Int × Batch)) (q : List Batch) : Prop where
  hr : H r = some (.cells [.ms s 0 ws.length ws.length, .ms h 0 ws.length ws.length, .sl o 2 (cBs q)])
  hs : H s = some (.cells (stC ws))
  hh : H h = some (.cells (hdC ws))
  ne1 : r ≠ s
  ne2 : r ≠ h
  ne3 : s ≠ h
  own : Owned H o q.length 2
theorem RcAt.sub {H H' : Heap} {r s h : Nat} {o : Own} {ws : List (Int × Batch)} {q : List Batch} (k : RcAt H r s h o ws q) (hs : Sub H H') : RcAt H' r s h o ws q :=
  ⟨hs _ _ k.hr, hs _ _ k.hs, hs _ _ k.hh, k.ne1, k.ne2, k.ne3, Owned.sub k.own hs⟩
theorem refBusyC {H : Heap} {r s h : Nat} {o : Own} {ws : List (Int × Batch)} {q : List Batch} (hc : RcAt H r s h o ws q) (hn : ws.length ≤ 16) (hst : ∀ x ∈ ws, 0 ≤ x.1 ∧ x.1 ≤ 2) :
    ACalls Try.prog 51 [.ptr r 0] H (fun e H' => ∃ v, e = .ret v ∧ (v = .int .i64 (busyN ws) ∧ H' = H)) := by
  refine ACalls.go ir51 ck51 (Nat.le_refl _) fun KP Q hQ => ?_
  have h1 := hc.hr
  have h2 := hc.hs
  simp (disch := first | omega | assumption) only [ir51, go_sem, ↓reduceIte]
  refine goL_range ws 4 (fun n : Int => [(3, .int .i64 n)]) (fun done rest n H' => n = busyN done ∧ H' = H) 0 (by simp (disch := first | omega | assumption) only [go_sem, ↓reduceIte]) ⟨rfl, rfl⟩ ?_ ?_
  · rintro n H' J ⟨hn', hH⟩ hlt
    subst hH
    simp (disch := first | omega | assumption) only [h1, hlt, go_sem, ↓reduceIte]
    refine hQ _ _ _ _ _ nofun rfl (Low.refl _) ⟨by rw [hn']; rfl, rfl⟩
  · rintro done x rest n H' J hd hlt hlt2 ⟨hn', hH⟩ hJ
    subst hH
    have hdr := stC_drop done x rest
    rw [← hd] at hdr
    have hsl := stC_len ws
    have hle : 0 + done.length * 1 + 1 ≤ (stC ws).length := by rw [hsl]; omega
    have hbd : busyN done ≤ done.length := List.length_filter_le _ _
    have hx := hst x (by rw [hd]; simp)
    have e5 : busyN (done ++ [x]) = busyN done + if x.1 = 0 then 0 else 1 := by
      simp only [busyN, List.filter_append, List.length_append]
      by_cases e : x.1 = 0 <;> simp [e]
    by_cases h0 : x.1 = 0
    · have h0' : ¬ (0 < x.1) := by omega
      simp (disch := first | omega | assumption) only [h1, hlt, h2, hdr, hle, h0', Int.toNat_natCast, wrap64, go_sem, ↓reduceIte]
      exact goJ (hJ n _ ⟨by rw [e5, if_pos h0]; simpa using hn', rfl⟩) (by simp (disch := first | omega | assumption) only [wrap64, go_sem, ↓reduceIte])
    · have h0' : (0 < x.1) = True := eq_true (by omega)
      simp (disch := first | omega | assumption) only [h1, hlt, h2, hdr, hle, h0', Int.toNat_natCast, wrap64, go_sem, ↓reduceIte]
      exact goJ (hJ (n + 1) _ ⟨by rw [e5, if_neg h0]; omega, rfl⟩) (by simp (disch := first | omega | assumption) only [wrap64, go_sem, ↓reduceIte])
theorem refCanC {H : Heap} {r s h : Nat} {o : Own} {ws : List (Int × Batch)} {q : List Batch} (hc : RcAt H r s h o ws q) (hn : ws.length ≤ 16) (hst : ∀ x ∈ ws, 0 ≤ x.1 ∧ x.1 ≤ 2) :
    ACalls Try.prog 50 [.ptr r 0] H (fun e H' => ∃ v, e = .ret v ∧ (v = .sl .no 1 (cI (cans ws q ws.length)) ∧ H' = H)) := by
  refine ACalls.go ir50 ck50 (Nat.le_refl _) fun KP Q hQ => ?_
  have hql := cBs_length q
  simp (disch := first | omega | assumption) only [ir50, go_sem, ↓reduceIte]
  refine goL_st (fun x : Nat × Own => [(3, .sl x.2 1 (cI (cans ws q x.1))), (4, .int .i64 ((x.1 : Int) + 1))]) (fun x H' => x.1 ≤ ws.length ∧ OwnF H H' x.2 (cans ws q x.1).length 1) (fun x => ws.length - x.1) (0, .nil) (by simp (disch := first | omega | assumption) only [go_sem, ↓reduceIte] <;> simp [cans, cI]) ⟨by simp, OwnF.nil _ _⟩ ?_
  rintro ⟨k, o'⟩ H' J ⟨hk, ho⟩ hJ
  simp only at hk ho
  have hc' := hc.sub ho.sub
  have h1 := hc'.hr
  have h2 := hc'.hs
  have hkl := cans_le ws q k
  have hkk := cI_length (cans ws q k)
  by_cases hlt : (k : Int) + 1 ≤ ws.length
  · obtain ⟨a, x, b, hd, ha⟩ := split_at (l := ws) (i := k) (by omega)
    subst ha
    have hdr := stC_drop a x b
    rw [← hd] at hdr
    have hsl := stC_len ws
    have hle : 0 + a.length * 1 + 1 ≤ (stC ws).length := by rw [hsl]; omega
    have hx := hst x (by rw [hd]; simp)
    have hlt3 : ((a.length : Int) < ws.length) = True := eq_true (by omega)
    have hstg : stage ws a.length = x.1 := by rw [hd]; exact stage_mid a x b
    have hsub : IntKind.wrap .i64 ((a.length : Int) + 1 - 1) = a.length := by rw [wrap64 (by omega) (by omega)]; omega
    have hs := cans_succ ws q a.length
    have hcan : canW ws q ((a.length : Int) + 1) = (decide (0 < x.1) || decide (0 < q.length)) := by
      have e1 : ((a.length : Int) + 1 - 1).toNat = a.length := by omega
      have e2 : (decide (x.1 ≠ 0)) = decide (0 < x.1) := decide_eq_decide.2 (by omega)
      simp only [canW, e1, hstg, e2]
      simp [hlt]
      intro _; omega
    have yes : canW ws q ((a.length : Int) + 1) = true → ∀ o2 H2, OwnS H' o' H2 o2 ((cans ws q a.length).length + 1) 1 → J ((setAll _ [(3, .sl o2 1 (cI (cans ws q (a.length + 1)))), (4, .int .i64 (((a.length + 1 : Nat) : Int) + 1))]).keep [0, 3, 4]) H2 := fun hy o2 H2 hos => by
      refine hJ (a.length + 1, o2) H2 (by simp; omega) ⟨by simp; omega, ?_⟩
      have := ho.stepS hos
      rw [hs, hy]
      simpa using this
    have no : canW ws q ((a.length : Int) + 1) = false → J ((setAll _ [(3, .sl o' 1 (cI (cans ws q (a.length + 1)))), (4, .int .i64 (((a.length + 1 : Nat) : Int) + 1))]).keep [0, 3, 4]) H' := fun hy => by
      refine hJ (a.length + 1, o') H' (by simp; omega) ⟨by simp; omega, ?_⟩
      rw [hs, hy]; simpa using ho
    by_cases h0 : 0 < x.1
    · have h0t := eq_true h0
      have hy : canW ws q ((a.length : Int) + 1) = true := by rw [hcan]; simp [h0]
      simp (disch := first | omega | assumption) only [h1, hlt, h2, hdr, hle, hlt3, hsub, Int.toNat_natCast, hql, h0t, go_sem, ↓reduceIte]
      refine goP_ownS (by rw [hkk]; exact ho.own) ?_ ?_ fun o2 H2 hos => ?_
      · simp only [hkk, List.length_cons, List.length_nil]; omega
      · simp only [hkk, List.length_cons, List.length_nil, maxLen]; omega
      simp only [hkk, List.length_cons, List.length_nil, Nat.zero_add] at hos
      have nx := yes hy o2 H2 hos
      rw [hs, hy] at nx
      simp (disch := first | omega | assumption) only [wrap64, go_sem, ↓reduceIte]
      exact goJ nx (by simp (disch := first | omega | assumption) only [cI, List.map_append, AV.strip1, if_true, List.map_cons, List.map_nil, go_sem, ↓reduceIte]; rfl)
    by_cases hq : 0 < q.length
    · have hqt : ((0 : Int) < q.length) = True := eq_true (by omega)
      have hy : canW ws q ((a.length : Int) + 1) = true := by rw [hcan]; simp [hq]
      simp (disch := first | omega | assumption) only [h1, hlt, h2, hdr, hle, hlt3, hsub, Int.toNat_natCast, hql, h0, hqt, go_sem, ↓reduceIte]
      refine goP_ownS (by rw [hkk]; exact ho.own) ?_ ?_ fun o2 H2 hos => ?_
      · simp only [hkk, List.length_cons, List.length_nil]; omega
      · simp only [hkk, List.length_cons, List.length_nil, maxLen]; omega
      simp only [hkk, List.length_cons, List.length_nil, Nat.zero_add] at hos
      have nx := yes hy o2 H2 hos
      rw [hs, hy] at nx
      simp (disch := first | omega | assumption) only [wrap64, go_sem, ↓reduceIte]
      exact goJ nx (by simp (disch := first | omega | assumption) only [cI, List.map_append, AV.strip1, if_true, List.map_cons, List.map_nil, go_sem, ↓reduceIte]; rfl)
    · have hqf : ¬ ((0 : Int) < q.length) := by omega
      have hy : canW ws q ((a.length : Int) + 1) = false := by rw [hcan]; simp [h0, hq]
      have nx := no hy
      rw [hs, hy] at nx
      simp (disch := first | omega | assumption) only [h1, hlt, h2, hdr, hle, hlt3, hsub, Int.toNat_natCast, hql, h0, hqf, wrap64, go_sem, ↓reduceIte]
      exact goJ nx (by simp (disch := first | omega | assumption) only [if_false, List.append_nil, Bool.false_eq_true, go_sem, ↓reduceIte]; rfl)
  · have hkn : k = ws.length := by omega
    subst hkn
    simp (disch := first | omega | assumption) only [h1, hlt, go_sem, ↓reduceIte]
    refine hQ _ _ _ H _ nofun rfl (Low.of_sub ho.sub) ⟨?_, rfl⟩
    simp [tupOf, envOf, AV.strip, AV.strip1]
theorem madeS (n : Nat) : madeA [.int .i64 0] n = stC (idle n) := by
  induction n with
  | zero => rfl
  | succ n ih => simp only [madeA, ih, idle, List.replicate_succ, stC, List.map_cons]; rfl
theorem madeH (n : Nat) : (madeA [.str [], .sl .nil 1 []] n).map AV.strip1 = hdC (idle n) := by
  induction n with
  | zero => rfl
  | succ n ih => simp only [madeA, List.map_append, ih, idle, List.replicate_succ, hdC_cons]; rfl
theorem sub_upd' {A H : Heap} {b : Nat} {o : AObj} (h : Sub A H) (hb : A b = none) : Sub A (H.upd b o) := fun c x hc => by
  have : c ≠ b := fun e => by subst e; rw [hb] at hc; cases hc
  rw [upd_ne this]; exact h _ _ hc
theorem refNewC {H : Heap} (n : Int) (h1 : 1 ≤ n) (h2 : n ≤ 16) :
    ACalls Try.prog 46 [.int .i64 n] H (fun e H' => ∃ v, e = .ret v ∧ ∃ r s h, v = .ptr r 0 ∧ RcAt H' r s h .nil (idle n.toNat) [] ∧ Sub H H') := by
  refine ACalls.go ir46 ck46 (Nat.le_refl _) fun KP Q hQ => ?_
  simp (disch := first | omega | assumption) only [ir46, go_sem, ↓reduceIte]
  refine goA_intro fun s hs => ?_
  simp (disch := first | omega | assumption) only [go_sem, ↓reduceIte]
  refine goA_intro fun h hh => ?_
  simp (disch := first | omega | assumption) only [go_sem, ↓reduceIte]
  refine goA_intro fun r hr => ?_
  have n1 := ne_fresh hh
  have n2 := ne_fresh hr
  have n3 : r ≠ s := fun e => by subst e; have := fresh_of hr; simp [Heap.upd] at this
  have n4 : h ≠ s := fun e => by subst e; simp [Heap.upd] at hh
  have il : (idle n.toNat).length = n.toNat := by simp [idle]
  simp (disch := first | omega | assumption) only [go_sem, ↓reduceIte]
  have hh2 : (((H.upd s (.cells (madeA [.int .i64 0] n.toNat))).upd h (.cells (madeA [.str [], .sl .nil 1 []] n.toNat))).upd r (.cells [.ms s 0 n.toNat n.toNat, .ms h 0 n.toNat n.toNat, .sl .nil 2 []])) h = some (.cells (madeA [.str [], .sl .nil 1 []] n.toNat)) := by
    simp [Heap.upd, Ne.symm n2]
  refine hQ _ _ _ _ _ nofun rfl (Low.cells hh2) ⟨r, s, h, ?_, ⟨?_, ?_, ?_, n3, n2, Ne.symm n4, rfl⟩, ?_⟩
  · simp [tupOf, envOf, AV.strip, AV.strip1]
  · simp [Heap.upd, n2, il, cBs]
  · rw [upd_ne (Ne.symm n4)]; simp [Heap.upd, Ne.symm n3, Ne.symm n4, madeS]
  · rw [upd_same, madeH]
  · have hh0 := fresh_of hh
    have hr0 := fresh_of (fresh_of hr)
    exact sub_upd' (sub_upd (sub_upd (sub_upd (sub_refl H) hs) hh) hr) hh0
theorem own_updc {H : Heap} {o : Own} {k sz x : Nat} {cs : List AV} {z : AObj} (how : Owned H o k sz) (hx : H x = some (.cells cs)) : Owned (H.upd x z) o k sz := by
  cases o with
  | tip b d =>
    have hb : H b = some (.tip (d + k) sz) := how
    have : b ≠ x := fun e => by subst e; rw [hx] at hb; cases hb
    show (H.upd x z) b = _; rw [upd_ne this]; exact hb
  | no => exact how
  | nil => exact how
  | full => exact how
theorem refStepC {H : Heap} {r s h : Nat} {o : Own} {ws : List (Int × Batch)} {q : List Batch} (hc : RcAt H r s h o ws q) (w : Int) (hn : ws.length ≤ 16) (hst : ∀ x ∈ ws, 0 ≤ x.1 ∧ x.1 ≤ 2) :
    ACalls Try.prog 47 [.ptr r 0, .int .i64 w] H (fun e H' => ∃ v, e = .ret v ∧ (v = .tup [.agg (cB (stepW ws q w).1.1), .int .i64 (stepW ws q w).1.2] ∧ (∃ o', (o' = o ∨ o' = o.cut 1) ∧ RcAt H' r s h o' (stepW ws q w).2.1 (stepW ws q w).2.2) ∧ ∀ b x, b ≠ r → b ≠ s → b ≠ h → H b = some x → H' b = some x)) := by
  refine ACalls.go ir47 ck47 (Nat.le_refl _) fun KP Q hQ => ?_
  have hql := cBs_length q
  simp (disch := first | omega | assumption) only [ir47, go_sem, ↓reduceIte]
  refine goA_intro fun b4 hb4 => ?_
  have k1 := hc.hr
  have k2 := hc.hs
  have k3 := hc.hh
  have nr := ne_of_none hb4 k1
  have ns := ne_of_none hb4 k2
  have nh := ne_of_none hb4 k3
  by_cases hw1 : w < 1
  · have e : stepW ws q w = ((⟨[], []⟩, 0), ws, q) := by
      unfold stepW; rw [if_neg]; simp [canW]; omega
    simp (disch := first | omega | assumption) only [hw1, go_sem, ↓reduceIte]
    refine hQ _ _ _ (H.upd b4 (.cells [.str [], .sl .nil 1 []])) [.agg [.str [], .sl .nil 1 []], .int .i64 0] nofun (by simp (disch := first | omega | assumption) only [ir47, resvs, resv, upd_same, go_sem, ↓reduceIte]) (Low.refl _) ⟨by rw [e]; simp [tupOf, AV.strip, AV.strip1, cB, cT], ⟨o, .inl rfl, by rw [e]; exact hc.sub (sub_upd (sub_refl H) hb4)⟩, fun b x _ _ _ hx => sub_upd (sub_refl H) hb4 _ _ hx⟩
  by_cases hw2 : (ws.length : Int) < w
  · have e : stepW ws q w = ((⟨[], []⟩, 0), ws, q) := by
      unfold stepW; rw [if_neg]; simp [canW]; omega
    simp (disch := first | omega | assumption) only [hw1, hw2, k1, nr, Ne.symm nr, go_sem, ↓reduceIte]
    refine hQ _ _ _ (H.upd b4 (.cells [.str [], .sl .nil 1 []])) [.agg [.str [], .sl .nil 1 []], .int .i64 0] nofun (by simp (disch := first | omega | assumption) only [ir47, resvs, resv, upd_same, go_sem, ↓reduceIte]) (Low.refl _) ⟨by rw [e]; simp [tupOf, AV.strip, AV.strip1, cB, cT], ⟨o, .inl rfl, by rw [e]; exact hc.sub (sub_upd (sub_refl H) hb4)⟩, fun b x _ _ _ hx => sub_upd (sub_refl H) hb4 _ _ hx⟩
  obtain ⟨a, x, b, hd, ha⟩ := split_at (l := ws) (i := (w - 1).toNat) (by omega)
  have hw : w - 1 = (a.length : Int) := by omega
  have hsub : IntKind.wrap .i64 (w - 1) = a.length := by rw [wrap64 (by omega) (by omega)]; omega
  have hal : a.length < ws.length := by rw [hd]; simp
  have hlt3 : ((a.length : Int) < ws.length) = True := eq_true (by omega)
  have hdr := stC_drop a x b
  have hdr2 := hdC_drop a x b
  rw [← hd] at hdr hdr2
  have hle : 0 + a.length * 1 + 1 ≤ (stC ws).length := by rw [stC_len]; omega
  have hle2 : 0 + a.length * 2 + 2 ≤ (hdC ws).length := by rw [hdC_len]; omega
  have hx2 := hst x (by rw [hd]; simp)
  have hstg : stage ws (w - 1).toNat = x.1 := by rw [hd, ← ha]; exact stage_mid a x b
  have hgd : ws.getD (w - 1).toNat (0, ⟨[], []⟩) = x := by rw [hd, ← ha]; simp
  have hset : ∀ y, ws.set (w - 1).toNat y = a ++ y :: b := fun y => by rw [hd, ← ha]; simp
  have n1 := hc.ne1
  have n2 := hc.ne2
  have n3 := hc.ne3
  have hst1 : ∀ (n : Int), splice (stC ws) (0 + a.length * 1) [.int .i64 n] = stC (a ++ (n, x.2) :: b) := fun n => by rw [hd]; exact stC_set a x b n x.2
  by_cases h1 : x.1 = 1
  · have h1t := eq_true h1
    have e : stepW ws q w = ((x.2, 2), a ++ (2, x.2) :: b, q) := by
      unfold stepW
      rw [if_pos (by simp only [canW, hstg]; simp [h1]; omega)]
      simp only [hgd, h1, hset]; rfl
    simp (disch := first | omega | assumption) only [hw1, hw2, hsub, hlt3, hdr, hdr2, hle, hle2, hst1, h1t, Int.toNat_natCast, k1, k2, k3, nr, ns, nh, Ne.symm nr, Ne.symm ns, Ne.symm nh, n1, n2, n3, Ne.symm n1, Ne.symm n2, Ne.symm n3, go_sem, ↓reduceIte]
    have hl : (a ++ (2, x.2) :: b).length = ws.length := by rw [hd]; simp
    have hdd : hdC (a ++ (2, x.2) :: b) = hdC ws := by rw [hd]; exact hdC_same a x b 2
    refine hQ _ _ _ _ [.agg (cB x.2), .int .i64 2] nofun (by simp (disch := first | omega | assumption) only [ir47, resvs, resv, upd_same, cB, go_sem, ↓reduceIte]) (Low.refl _) ⟨by rw [e]; simp [tupOf, AV.strip, AV.strip1, cB], ⟨o, .inl rfl, ?_⟩, fun y z g1 g2 g3 hy => ?_⟩
    · rw [e]
      refine ⟨?_, ?_, ?_, n1, n2, n3, ?_⟩
      · simp [Heap.upd, k1, nr, ns, nh, Ne.symm nr, Ne.symm ns, Ne.symm nh, n1, n2, n3, Ne.symm n1, Ne.symm n2, Ne.symm n3]; rw [hd]; simp
      · simp [Heap.upd, nr, ns, nh, Ne.symm nr, Ne.symm ns, Ne.symm nh, n1, n2, n3, Ne.symm n1, Ne.symm n2, Ne.symm n3]
      · simp only [hdd]; simp [Heap.upd, k3, nr, ns, nh, Ne.symm nr, Ne.symm ns, Ne.symm nh, n1, n2, n3, Ne.symm n1, Ne.symm n2, Ne.symm n3]
      · exact own_updc (own_updc (hc.own.upd hb4) (by rw [upd_ne (by first | exact ns | exact Ne.symm ns)]; exact k2)) (by rw [upd_ne (by first | exact ns | exact Ne.symm ns)]; exact upd_same ..)
    · have gy : y ≠ b4 := fun e => by subst e; rw [hb4] at hy; cases hy
      simp [Heap.upd, g2, gy, hy]
  by_cases h2 : x.1 = 2
  · have h2t := eq_true h2
    have h1f : ¬ x.1 = 1 := h1
    have e : stepW ws q w = ((x.2, 3), a ++ (0, x.2) :: b, q) := by
      unfold stepW
      rw [if_pos (by simp only [canW, hstg]; simp [h2]; omega)]
      simp only [hgd, h2, hset]; rfl
    simp (disch := first | omega | assumption) only [hw1, hw2, hsub, hlt3, hdr, hdr2, hle, hle2, hst1, h1f, h2t, Int.toNat_natCast, k1, k2, k3, nr, ns, nh, Ne.symm nr, Ne.symm ns, Ne.symm nh, n1, n2, n3, Ne.symm n1, Ne.symm n2, Ne.symm n3, go_sem, ↓reduceIte]
    have hl : (a ++ (0, x.2) :: b).length = ws.length := by rw [hd]; simp
    have hdd : hdC (a ++ (0, x.2) :: b) = hdC ws := by rw [hd]; exact hdC_same a x b 0
    refine hQ _ _ _ _ [.agg (cB x.2), .int .i64 3] nofun (by simp (disch := first | omega | assumption) only [ir47, resvs, resv, upd_same, cB, go_sem, ↓reduceIte]) (Low.refl _) ⟨by rw [e]; simp [tupOf, AV.strip, AV.strip1, cB], ⟨o, .inl rfl, ?_⟩, fun y z g1 g2 g3 hy => ?_⟩
    · rw [e]
      refine ⟨?_, ?_, ?_, n1, n2, n3, ?_⟩
      · simp [Heap.upd, k1, nr, ns, nh, Ne.symm nr, Ne.symm ns, Ne.symm nh, n1, n2, n3, Ne.symm n1, Ne.symm n2, Ne.symm n3]; rw [hd]; simp
      · simp [Heap.upd, nr, ns, nh, Ne.symm nr, Ne.symm ns, Ne.symm nh, n1, n2, n3, Ne.symm n1, Ne.symm n2, Ne.symm n3]
      · simp only [hdd]; simp [Heap.upd, k3, nr, ns, nh, Ne.symm nr, Ne.symm ns, Ne.symm nh, n1, n2, n3, Ne.symm n1, Ne.symm n2, Ne.symm n3]
      · exact own_updc (own_updc (hc.own.upd hb4) (by rw [upd_ne (by first | exact ns | exact Ne.symm ns)]; exact k2)) (by rw [upd_ne (by first | exact ns | exact Ne.symm ns)]; exact upd_same ..)
    · have gy : y ≠ b4 := fun e => by subst e; rw [hb4] at hy; cases hy
      simp [Heap.upd, g2, gy, hy]
  have h0 : x.1 = 0 := by omega
  have h1f : ¬ x.1 = 1 := h1
  have h2f : ¬ x.1 = 2 := h2
  rcases q with _ | ⟨y, q'⟩
  · have e : stepW ws [] w = ((⟨[], []⟩, 0), ws, []) := by
      unfold stepW; rw [if_neg]; simp only [canW, hstg]; simp [h0]
    have hqt : (((cBs []).length : Int) = 0) = True := eq_true (by simp [cBs])
    simp (disch := first | omega | assumption) only [hw1, hw2, hsub, hlt3, hdr, hdr2, hle, hle2, hst1, h1f, h2f, hqt, Int.toNat_natCast, k1, k2, k3, nr, ns, nh, Ne.symm nr, Ne.symm ns, Ne.symm nh, n1, n2, n3, Ne.symm n1, Ne.symm n2, Ne.symm n3, go_sem, ↓reduceIte]
    refine hQ _ _ _ (H.upd b4 (.cells [.str [], .sl .nil 1 []])) [.agg [.str [], .sl .nil 1 []], .int .i64 0] nofun (by simp (disch := first | omega | assumption) only [ir47, resvs, resv, upd_same, go_sem, ↓reduceIte]) (Low.refl _) ⟨by rw [e]; simp [tupOf, AV.strip, AV.strip1, cB, cT], ⟨o, .inl rfl, by rw [e]; exact hc.sub (sub_upd (sub_refl H) hb4)⟩, fun b x _ _ _ hx => sub_upd (sub_refl H) hb4 _ _ hx⟩
  · have e : stepW ws (y :: q') w = ((y, 1), a ++ (1, y) :: b, q') := by
      unfold stepW
      rw [if_pos (by simp only [canW, hstg]; simp [h0]; omega)]
      simp only [hgd, h0, hset]; rfl
    have hqf : ¬ (((cBs (y :: q')).length : Int) = 0) := by simp [cBs]; omega
    have hql' : ((cBs (y :: q')).length : Int) = q'.length + 1 := by simp [cBs]
    have hg0 : (cBs (y :: q')).getD 0 [] = [.str y.table, .sl .no 1 (cT y.keys)] := rfl
    have z1 : ((0 : Int) < (cBs (y :: q')).length) = True := eq_true (by omega)
    have hst2 : splice (hdC ws) (0 + a.length * 2) [.str y.table, .sl .no 1 (cT y.keys)] = hdC (a ++ (1, y) :: b) := by rw [hd]; exact hdC_set a x b 1 y
    have hst3 : splice (stC ws) (0 + a.length * 1) [.int .i64 1] = stC (a ++ (1, y) :: b) := by rw [hd]; exact stC_set a x b 1 y
    have hdr3 := hdC_drop a (1, y) b
    have hle3 : 0 + a.length * 2 + 2 ≤ (hdC (a ++ (1, y) :: b)).length := by rw [hdC_len]; simp; omega
    simp (disch := first | omega | assumption) only [hw1, hw2, hsub, hlt3, hdr, hdr2, hdr3, hle, hle2, hle3, hst2, hst3, h1f, h2f, hqf, hg0, z1, Int.toNat_natCast, Option.isNone_none, k1, k2, k3, nr, ns, nh, Ne.symm nr, Ne.symm ns, Ne.symm nh, n1, n2, n3, Ne.symm n1, Ne.symm n2, Ne.symm n3, go_sem, ↓reduceIte]
    refine hQ _ _ _ _ [.agg (cB y), .int .i64 1] nofun (by simp (disch := first | omega | assumption) only [ir47, resvs, resv, upd_same, cB, go_sem, ↓reduceIte]) (Low.refl _) ⟨by rw [e]; simp [tupOf, AV.strip, AV.strip1, cB], ⟨o.cut 1, .inr rfl, ?_⟩, fun y z g1 g2 g3 hy => ?_⟩
    · rw [e]
      refine ⟨?_, ?_, ?_, n1, n2, n3, ?_⟩
      · simp [Heap.upd, nr, ns, nh, Ne.symm nr, Ne.symm ns, Ne.symm nh, n1, n2, n3, Ne.symm n1, Ne.symm n2, Ne.symm n3, hd, cBs]
      · simp [Heap.upd, nr, ns, nh, Ne.symm nr, Ne.symm ns, Ne.symm nh, n1, n2, n3, Ne.symm n1, Ne.symm n2, Ne.symm n3]
      · simp [Heap.upd, nr, ns, nh, Ne.symm nr, Ne.symm ns, Ne.symm nh, n1, n2, n3, Ne.symm n1, Ne.symm n2, Ne.symm n3]
      · have t0 := Owned.tail (n := q'.length) hc.own
        refine own_updc (cs := [.str [], .sl .nil 1 []]) (own_updc (cs := [.ms s 0 ws.length ws.length, .ms h 0 ws.length ws.length, .sl o 2 (cBs (y :: q'))]) (own_updc (cs := hdC ws) (own_updc (cs := stC ws) (t0.upd hb4) ?_) ?_) ?_) ?_
        · simp [Heap.upd, k2, nr, ns, nh, Ne.symm nr, Ne.symm ns, Ne.symm nh, n1, n2, n3, Ne.symm n1, Ne.symm n2, Ne.symm n3]
        · simp [Heap.upd, k3, nr, ns, nh, Ne.symm nr, Ne.symm ns, Ne.symm nh, n1, n2, n3, Ne.symm n1, Ne.symm n2, Ne.symm n3]
        · simp [Heap.upd, k1, nr, ns, nh, Ne.symm nr, Ne.symm ns, Ne.symm nh, n1, n2, n3, Ne.symm n1, Ne.symm n2, Ne.symm n3]
        · simp [Heap.upd, nr, ns, nh, Ne.symm nr, Ne.symm ns, Ne.symm nh, n1, n2, n3, Ne.symm n1, Ne.symm n2, Ne.symm n3]
    · have gy : y ≠ b4 := fun e => by subst e; rw [hb4] at hy; cases hy
      simp [Heap.upd, g1, g2, g3, gy, hy]
end Go.Proofs.Ythkpgjnibolnhaa
namespace Go.Proofs.Ythkpgjnibolnhaa
open Go.Ab
def fb (bs : List Batch) : List AV := (cBs bs).flatten
theorem fb_len : ∀ bs : List Batch, (fb bs).length = bs.length * 2
  | [] => rfl
  | x :: r => by have := fb_len r; simp only [fb, cBs] at this; simp only [fb, cBs, List.map_cons, List.flatten_cons, List.length_append, this, List.length_cons]; simp [cB]; omega
theorem fb_app (a b : List Batch) : fb (a ++ b) = fb a ++ fb b := by simp [fb, cBs]
theorem fb_drop (a : List Batch) (x : Batch) (b : List Batch) (rst : List AV) : (fb (a ++ x :: b) ++ rst).drop (0 + a.length * 2) = [.str x.table, .sl .no 1 (cT x.keys)] ++ (fb b ++ rst) := by
  have e : fb (a ++ x :: b) ++ rst = fb a ++ ([.str x.table, .sl .no 1 (cT x.keys)] ++ (fb b ++ rst)) := by rw [fb_app]; simp [fb, cBs, cB]
  rw [e, Nat.zero_add, List.drop_left' (fb_len a)]
theorem layM {H : Heap} {c l : Nat} {o : Own} {ws : List (Int × Batch)} {q : List Batch} (hc : CrewAt H c l o ws q) (bs : List Batch) (bb cap : Nat) (rst : List AV) (hbb : H bb = some (.cells (fb bs ++ rst))) (nbc : bb ≠ c) (hsm : ∀ b ∈ bs, b.small) (hlen : (q.length + bs.length) * 40 ≤ 140737488355328) :
    ACalls Try.prog 40 [.ptr c 0, .ms bb 0 bs.length cap] H (fun e H' => ∃ v, e = .ret v ∧ (v = .tup [] ∧ (∃ o', (∀ b d, o' = .tip b d → H b = none ∨ ∃ d0, o = .tip b d0) ∧ CrewAt H' c l o' ws (q ++ bs)) ∧ ∀ b x, b ≠ c → (∀ d, o ≠ .tip b d) → H b = some x → H' b = some x)) := by
  refine ACalls.go ir40 ck40 (Nat.le_refl _) fun KP Q hQ => ?_
  have nbo : ∀ d, o ≠ .tip bb d := fun d e => by
    subst e
    have : H bb = _ := hc.own
    rw [hbb] at this; cases this
  simp (disch := first | omega | assumption) only [ir40, go_sem, ↓reduceIte]
  refine goL_range bs 10 (fun _ : Unit => []) (fun done rest _ H' => ∃ o', CrewAt H' c l o' ws (q ++ done) ∧ (∀ b d, o' = .tip b d → H b = none ∨ ∃ d0, o = .tip b d0) ∧ ∀ b x, b ≠ c → (∀ d, o ≠ .tip b d) → H b = some x → H' b = some x) () (by simp (disch := first | omega | assumption) only [go_sem, ↓reduceIte]) ⟨o, by simpa using hc, fun b d e => .inr ⟨d, e⟩, fun b x _ _ h => h⟩ ?_ ?_
  · rintro ⟨⟩ H' J ⟨o', hc', htip, hkeep⟩ hlt
    simp (disch := first | omega | assumption) only [hlt, go_sem, ↓reduceIte]
    exact hQ _ _ _ H' [] nofun (by simp (disch := first | omega | assumption) only [ir40, resvs, resv, go_sem, ↓reduceIte]) (Low.refl _) ⟨rfl, ⟨o', htip, hc'⟩, hkeep⟩
  · rintro done x r ⟨⟩ H' J hd hlt hlt2 ⟨o', hc', htip, hkeep⟩ hJ
    have kb := hkeep bb _ nbc nbo hbb
    have hdr := fb_drop done x r rst
    rw [← hd] at hdr
    have hdl : done.length + r.length + 1 = bs.length := by rw [hd]; simp; omega
    have hle : 0 + done.length * 2 + 2 ≤ (fb bs ++ rst).length := by rw [List.length_append, fb_len]; omega
    have h1 := hc'.hc
    have hql := cBs_length (q ++ done)
    simp only [List.length_append] at hql
    simp (disch := first | omega | assumption) only [hlt, kb, hdr, hle, Int.toNat_natCast, go_sem, ↓reduceIte]
    refine goA_intro fun b1 hb1 => ?_
    have hcb : c ≠ b1 := fun e => by subst e; rw [hc'.hc] at hb1; cases hb1
    have hlb : l ≠ b1 := fun e => by subst e; rw [hc'.hl] at hb1; cases hb1
    have hlc := Ne.symm hc'.ne
    simp (disch := first | omega | assumption) only [h1, hcb, Ne.symm hcb, go_sem, ↓reduceIte]
    refine goK_pure (batchC x (hsm x (by rw [hd]; simp))) ?_
    simp (disch := first | omega | assumption) only [h1, cB, hcb, Ne.symm hcb, go_sem, ↓reduceIte]
    refine goP_own (by rw [hql, ← List.length_append]; exact hc'.own.upd hb1) ?_ ?_ fun o2 H2 g1 g2 g3 => ?_
    · simp only [hql, List.length_cons, List.length_nil]; omega
    · simp only [hql, List.length_cons, List.length_nil, maxLen]; omega
    have nc : ∀ d, o' ≠ .tip c d := fun d e => by
      have := hc'.own; subst e
      have h2 : H' c = _ := this
      rw [h1] at h2; cases h2
    have nl : ∀ d, o' ≠ .tip l d := fun d e => by
      have := hc'.own; subst e
      have h2 : H' l = _ := this
      rw [hc'.hl] at h2; cases h2
    have k1 := g2 c _ (by rw [upd_ne hcb]; exact h1) nc
    have k2 := g2 l _ (by rw [upd_ne hlb]; exact hc'.hl) nl
    simp (disch := first | omega | assumption) only [k1, wrap64, go_sem, ↓reduceIte]
    refine goJ (hJ () _ ⟨o2, ⟨?_, ?_, hc'.ne, ?_⟩, ?_, ?_⟩) (by simp (disch := first | omega | assumption) only [wrap64, go_sem, ↓reduceIte])
    · rw [upd_same]; simp [cBs, cB, AV.strip1]
    · rw [upd_ne hlc]; exact k2
    · have : Owned H2 o2 (q ++ (done ++ [x])).length 2 := by
        rw [hql] at g1; simpa [Nat.add_assoc] using g1
      cases o2 with
      | tip t d =>
        have ht : H2 t = _ := this
        have n1 : t ≠ c := fun e => by subst e; rw [k1] at ht; cases ht
        show _ = _
        rw [upd_ne n1]; exact ht
      | _ => exact this
    · intro b d e
      rcases g3 b d e with h5 | ⟨d0, h5⟩
      · have h6 := fresh_of h5
        by_cases hbo : ∃ d, o = .tip b d
        · exact .inr hbo
        · cases hb : H b with
          | none => exact .inl rfl
          | some z =>
            by_cases hbc : b = c
            · subst hbc; rw [h1] at h6; cases h6
            · have := hkeep b z hbc (fun d e => hbo ⟨d, e⟩) hb
              rw [h6] at this; cases this
      · exact htip b d0 h5
    · intro b z h5 h6 h7
      have h8 := hkeep b z h5 h6 h7
      rw [upd_ne h5]
      refine g2 b z (by rw [upd_ne]; exact h8; exact fun e => by subst e; rw [hb1] at h8; cases h8) fun d e => ?_
      rcases htip b d e with h9 | ⟨d0, h9⟩
      · rw [h7] at h9; cases h9
      · exact h6 d0 h9
theorem canNil (w : Int) : Pure Try.prog 60 [.nilp, .int .i64 w] (.bool false) := by
  refine Pure.go ir60 ck60 (Nat.le_refl _) fun KP Q hQ => ?_
  simp (disch := first | omega | assumption) only [ir60, go_sem, ↓reduceIte]
  exact hQ _ _ _ _ nofun rfl (by simp [tupOf, envOf, AV.strip, AV.strip1])
theorem stepNil (w : Int) : Pure Try.prog 44 [.nilp, .int .i64 w] (.tup [.agg [.str [], .sl .no 1 []], .int .i64 0]) := by
  refine Pure.go ir44 ck44 (Nat.le_refl _) fun KP Q hQ => ?_
  simp (disch := first | omega | assumption) only [ir44, go_sem, ↓reduceIte]
  refine goA_intro fun b4 hb4 => ?_
  simp (disch := first | omega | assumption) only [go_sem, ↓reduceIte]
  refine goK_pure (canNil w) ?_
  simp (disch := first | omega | assumption) only [go_sem, ↓reduceIte]
  exact hQ _ _ _ [.agg [.str [], .sl .nil 1 []], .int .i64 0] nofun (by simp (disch := first | omega | assumption) only [ir44, resvs, resv, go_sem, ↓reduceIte]) rfl
theorem waitsNil : Pure Try.prog 43 [.nilp] (.int .i64 0) := by
  refine Pure.go ir43 ck43 (Nat.le_refl _) fun KP Q hQ => ?_
  simp (disch := first | omega | assumption) only [ir43, go_sem, ↓reduceIte]
  exact hQ _ _ _ _ nofun rfl (by simp [tupOf, envOf, AV.strip, AV.strip1])
theorem busyNil : Pure Try.prog 42 [.nilp] (.int .i64 0) := by
  refine Pure.go ir42 ck42 (Nat.le_refl _) fun KP Q hQ => ?_
  simp (disch := first | omega | assumption) only [ir42, go_sem, ↓reduceIte]
  exact hQ _ _ _ _ nofun rfl (by simp [tupOf, envOf, AV.strip, AV.strip1])
theorem canAllNil : Pure Try.prog 41 [.nilp] (.sl .no 1 []) := by
  refine Pure.go ir41 ck41 (Nat.le_refl _) fun KP Q hQ => ?_
  simp (disch := first | omega | assumption) only [ir41, go_sem, ↓reduceIte]
  refine goL_st (fun _ : Unit => [(3, .sl .nil 1 []), (4, .int .i64 1)]) (fun _ _ => True) (fun _ => 0) () (by simp (disch := first | omega | assumption) only [go_sem, ↓reduceIte]) trivial ?_
  rintro ⟨⟩ H' J _ hJ
  simp (disch := first | omega | assumption) only [go_sem, ↓reduceIte]
  exact hQ _ _ _ _ nofun rfl (by simp [tupOf, envOf, AV.strip, AV.strip1])
end Go.Proofs.Ythkpgjnibolnhaa
