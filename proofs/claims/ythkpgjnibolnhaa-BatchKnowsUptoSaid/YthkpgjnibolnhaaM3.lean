/- Texts joined: Ir Dat IrI Bat BatP BatQ BatR BatC BatS BatL BatM BatF. -/
import Derived.Test.YthkpgjnibolnhaaRows
import Derived.Test.YthkpgjnibolnhaaM1
import Derived.Test.YthkpgjnibolnhaaM2
set_option maxRecDepth 100000
set_option linter.unusedSimpArgs false
set_option linter.unusedVariables false
namespace Go.Proofs.Ythkpgjnibolnhaa
open Go.Ab
def ir8 : AFn := ⟨120, 1, [.t 2], .seq (.reg [] [⟨some 2, none, .mv (.k (.bool false)), []⟩])
 (.seq (.seq (.reg [] [⟨some 14, none, .mv (.t 0), []⟩, ⟨some 15, none, .len (.t 14), []⟩, ⟨some 16, none, .bi .gtr .i64 (.t 15) (.k (.int .i64 60)), []⟩])
 (.cond (.t 16) (.seq (.reg [] [⟨some 17, none, .call 14 [], []⟩, ⟨some 2, none, .mv (.t 17), []⟩])
 (.ret)) (.skip)))
 (.seq (.reg [] [⟨some 18, none, .call 27 [], []⟩, ⟨some 3, none, .mv (.t 18), []⟩])
 (.seq (.seq (.reg [] [⟨some 19, none, .mv (.t 3), []⟩, ⟨some 20, none, .isnil .p (.t 19), []⟩])
 (.cond (.t 20) (.seq (.reg [] [⟨some 2, none, .mv (.k (.bool false)), []⟩])
 (.ret)) (.skip)))
 (.seq (.reg [] [⟨some 21, none, .bld [.sl .nil 2 [], .sl .nil 6 []] [], []⟩, ⟨some 22, none, .box (.t 21), []⟩, ⟨some 4, none, .mv (.t 22), []⟩])
 (.seq (.seq (.reg [] [⟨some 5, none, .mv (.k (.int .i64 0)), []⟩])
 (.block 0 (.loop [0, 3, 4, 5] (.seq (.seq (.reg [] [⟨some 23, none, .mv (.t 5), []⟩, ⟨some 24, none, .mv (.t 0), []⟩, ⟨some 25, none, .len (.t 24), []⟩, ⟨some 26, none, .bi .lss .i64 (.t 23) (.t 25), []⟩])
 (.cond (.t 26) (.skip) (.exit 0)))
 (.join [0, 3, 4, 5] (.block 1 (.seq (.reg [] [⟨some 29, none, .mv (.t 0), []⟩, ⟨some 30, none, .mv (.t 5), []⟩, ⟨some 31, none, .ia 10 (.t 29) (.t 30), []⟩, ⟨some 32, none, .ld 10 true (.t 31), []⟩, ⟨some 6, none, .alloc [.int .i64 0, .str [], .str [], .str [], .str [], .sl .nil 6 [], .bool false, .bool false, .int .i64 0, .sl .nil 2 []], []⟩, ⟨none, none, .st 10 (.t 6) (.t 32), []⟩])
 (.seq (.seq (.reg [] [⟨some 33, none, .fa 9 (.t 6), []⟩, ⟨some 34, none, .ld 1 false (.t 33), []⟩, ⟨some 35, none, .call 13 [(.t 34)], []⟩, ⟨some 36, none, .not (.t 35), []⟩, ⟨some 37, none, .mv (.t 36), []⟩, ⟨some 38, (some (37, false)), .fa 1 (.t 6), []⟩, ⟨some 39, (some (37, false)), .ld 2 true (.t 38), []⟩, ⟨some 40, (some (37, false)), .bls 2 1 [.str [], .str []] [(0, (.t 39))], []⟩, ⟨some 41, (some (37, false)), .call 13 [(.t 40)], []⟩, ⟨some 42, (some (37, false)), .not (.t 41), []⟩, ⟨some 43, none, .pick (.t 37) (.k (.bool true)) (.t 42), []⟩, ⟨some 44, none, .mv (.t 43), []⟩, ⟨some 45, (some (44, false)), .fa 3 (.t 6), []⟩, ⟨some 46, (some (44, false)), .fa 0 (.t 45), []⟩, ⟨some 47, (some (44, false)), .ld 4 true (.t 46), []⟩, ⟨some 48, (some (44, false)), .call 28 [(.t 47)], []⟩, ⟨some 49, (some (44, false)), .bi .gtr .i64 (.t 48) (.k (.int .i64 2000)), []⟩, ⟨some 50, none, .pick (.t 44) (.k (.bool true)) (.t 49), []⟩])
 (.cond (.t 50) (.seq (.reg [] [⟨some 51, none, .call 14 [], []⟩, ⟨some 2, none, .mv (.t 51), []⟩])
 (.ret)) (.skip)))
 (.join [0, 3, 4, 5, 6] (.seq (.reg [] [⟨some 52, none, .fa 0 (.t 6), []⟩, ⟨some 53, none, .ld 1 false (.t 52), []⟩])
 (.block 2 (.seq (.reg [] [⟨some 55, none, .bi .eql .i64 (.t 53) (.k (.int .i64 0)), []⟩, ⟨some 54, none, .mv (.t 55), []⟩])
 (.cond (.t 54) (.seq (.reg [] [⟨some 56, none, .mv (.t 3), []⟩, ⟨some 57, none, .fa 1 (.t 6), []⟩, ⟨some 58, none, .ld 2 true (.t 57), []⟩, ⟨some 59, none, .fa 3 (.t 6), []⟩, ⟨some 60, none, .ld 6 true (.t 59), []⟩, ⟨some 61, none, .call 29 [(.t 56), (.t 58), (.t 60)], []⟩])
 (.reg [] [⟨some 62, none, .mv (.t 4), []⟩, ⟨some 63, none, .fa 1 (.t 6), []⟩, ⟨some 64, none, .ld 2 true (.t 63), []⟩, ⟨some 65, none, .fa 3 (.t 6), []⟩, ⟨some 66, none, .ld 6 true (.t 65), []⟩, ⟨some 67, none, .call 30 [(.t 62), (.t 64), (.t 66)], []⟩])) (.seq (.reg [] [⟨some 69, none, .bi .eql .i64 (.t 53) (.k (.int .i64 2)), []⟩, ⟨some 68, none, .mv (.t 69), []⟩])
 (.cond (.t 68) (.seq (.reg [0, 1, 2, 4, 5, 6, 3, 7, 8, 9] [⟨some 70, none, .mv (.t 3), []⟩, ⟨some 71, none, .fa 9 (.t 6), []⟩, ⟨some 72, none, .ld 1 false (.t 71), []⟩, ⟨some 74, none, .mv (.t 4), []⟩, ⟨some 75, none, .fa 9 (.t 6), []⟩, ⟨some 76, none, .ld 1 false (.t 75), []⟩, ⟨some 73, none, .call 31 [(.t 70), (.t 72)], [5]⟩, ⟨some 77, none, .call 32 [(.t 74), (.t 76)], []⟩, ⟨some 78, none, .call 18 [(.t 73), (.t 77)], []⟩, ⟨some 79, none, .not (.t 78), []⟩])
 (.cond (.t 79) (.seq (.reg [] [⟨some 2, none, .mv (.k (.bool false)), []⟩])
 (.ret)) (.skip))) (.seq (.reg [] [⟨some 81, none, .bi .eql .i64 (.t 53) (.k (.int .i64 3)), []⟩, ⟨some 80, none, .mv (.t 81), []⟩])
 (.cond (.t 80) (.seq (.reg [] [⟨some 82, none, .mv (.t 3), []⟩, ⟨some 83, none, .call 33 [(.t 82)], []⟩])
 (.reg [] [⟨some 84, none, .bld [.sl .nil 2 [], .sl .nil 6 []] [], []⟩, ⟨some 85, none, .box (.t 84), []⟩, ⟨some 4, none, .mv (.t 85), []⟩])) (.skip)))))))))
 (.seq (.reg [] [⟨some 87, none, .mv (.t 3), []⟩, ⟨some 88, none, .fa 1 (.t 6), []⟩, ⟨some 89, none, .ld 2 true (.t 88), []⟩, ⟨some 90, none, .call 34 [(.t 87), (.t 89)], []⟩, ⟨some 86, none, .mv (.t 90), []⟩, ⟨some 91, none, .ext (.t 86) 0, []⟩, ⟨some 92, none, .ext (.t 86) 1, []⟩, ⟨some 7, none, .alloc [.str [], .str [], .sl .nil 6 [], .bool false, .bool false, .int .i64 0], []⟩, ⟨none, none, .st 6 (.t 7) (.t 91), []⟩, ⟨some 8, none, .mv (.t 92), []⟩])
 (.seq (.reg [] [⟨some 94, none, .mv (.t 4), []⟩, ⟨some 95, none, .fa 1 (.t 6), []⟩, ⟨some 96, none, .ld 2 true (.t 95), []⟩, ⟨some 97, none, .call 35 [(.t 94), (.t 96)], []⟩, ⟨some 93, none, .mv (.t 97), []⟩, ⟨some 98, none, .ext (.t 93) 0, []⟩, ⟨some 99, none, .ext (.t 93) 1, []⟩, ⟨some 9, none, .alloc [.str [], .str [], .sl .nil 6 [], .bool false, .bool false, .int .i64 0], []⟩, ⟨none, none, .st 6 (.t 9) (.t 98), []⟩, ⟨some 10, none, .mv (.t 99), []⟩])
 (.seq (.reg [] [⟨some 100, none, .mv (.t 8), []⟩, ⟨some 101, none, .mv (.t 10), []⟩, ⟨some 102, none, .bb true (.t 100) (.t 101), []⟩, ⟨some 103, none, .mv (.t 102), []⟩, ⟨some 104, (some (103, false)), .ld 6 true (.t 7), []⟩, ⟨some 105, (some (103, false)), .ld 6 true (.t 9), []⟩, ⟨some 106, (some (103, false)), .call 36 [(.t 104), (.t 105)], []⟩, ⟨some 107, (some (103, false)), .not (.t 106), []⟩, ⟨some 108, none, .pick (.t 103) (.k (.bool true)) (.t 107), []⟩])
 (.cond (.t 108) (.seq (.reg [] [⟨some 2, none, .mv (.k (.bool false)), []⟩])
 (.ret)) (.skip)))))))))
 (.reg [] [⟨some 27, none, .mv (.t 5), []⟩, ⟨some 28, none, .bi .add .i64 (.t 27) (.k (.int .i64 1)), []⟩, ⟨some 5, none, .mv (.t 28), []⟩]))))))
 (.seq (.reg [] [⟨some 11, none, .mv (.k (.nilp)), []⟩])
 (.seq (.reg [] [⟨some 110, none, .mv (.t 11), []⟩, ⟨some 111, none, .bld [.str [], .str []] [], []⟩, ⟨some 112, none, .call 34 [(.t 110), (.t 111)], []⟩, ⟨some 109, none, .mv (.t 112), []⟩, ⟨some 113, none, .ext (.t 109) 0, []⟩, ⟨some 114, none, .ext (.t 109) 1, []⟩, ⟨some 12, none, .alloc [.str [], .str [], .sl .nil 6 [], .bool false, .bool false, .int .i64 0], []⟩, ⟨none, none, .st 6 (.t 12) (.t 113), []⟩, ⟨some 13, none, .mv (.t 114), []⟩])
 (.seq (.reg [] [⟨some 115, none, .mv (.t 13), []⟩, ⟨some 116, none, .not (.t 115), []⟩, ⟨some 117, none, .mv (.t 116), []⟩, ⟨some 118, (some (117, true)), .call 14 [], []⟩, ⟨some 119, none, .pick (.t 117) (.t 118) (.k (.bool false)), []⟩, ⟨some 2, none, .mv (.t 119), []⟩])
 (.ret)))))))))⟩
theorem ck8 : chkFn Try.prog 8 ir8 = true := by kernel_rfl
def ir9 : AFn := ⟨112, 2, [.t 4], .seq (.reg [] [⟨some 4, none, .mv (.k (.bool false)), []⟩])
 (.seq (.seq (.reg [] [⟨some 12, none, .mv (.t 0), []⟩, ⟨some 13, none, .call 13 [(.t 12)], []⟩, ⟨some 14, none, .not (.t 13), []⟩, ⟨some 15, none, .mv (.t 14), []⟩, ⟨some 16, (some (15, false)), .mv (.t 1), []⟩, ⟨some 17, (some (15, false)), .call 13 [(.t 16)], []⟩, ⟨some 18, (some (15, false)), .not (.t 17), []⟩, ⟨some 19, none, .pick (.t 15) (.k (.bool true)) (.t 18), []⟩])
 (.cond (.t 19) (.seq (.reg [] [⟨some 20, none, .call 14 [], []⟩, ⟨some 4, none, .mv (.t 20), []⟩])
 (.ret)) (.skip)))
 (.seq (.reg [] [⟨some 21, none, .call 27 [], []⟩, ⟨some 5, none, .mv (.t 21), []⟩])
 (.seq (.seq (.reg [] [⟨some 22, none, .mv (.t 5), []⟩, ⟨some 23, none, .isnil .p (.t 22), []⟩])
 (.cond (.t 23) (.seq (.reg [] [⟨some 4, none, .mv (.k (.bool false)), []⟩])
 (.ret)) (.skip)))
 (.seq (.seq (.reg [] [⟨some 6, none, .mv (.k (.int .i64 0)), []⟩])
 (.block 0 (.loop [0, 1, 5, 6] (.seq (.seq (.reg [] [⟨some 24, none, .mv (.t 6), []⟩, ⟨some 25, none, .mv (.t 0), []⟩, ⟨some 26, none, .len (.t 25), []⟩, ⟨some 27, none, .bi .lss .i64 (.t 24) (.t 26), []⟩])
 (.cond (.t 27) (.skip) (.exit 0)))
 (.seq (.block 1 (.reg [] [⟨some 30, none, .mv (.t 5), []⟩, ⟨some 31, none, .mv (.t 0), []⟩, ⟨some 32, none, .mv (.t 6), []⟩, ⟨some 33, none, .ia 2 (.t 31) (.t 32), []⟩, ⟨some 34, none, .ld 2 true (.t 33), []⟩, ⟨some 35, none, .bld [.str [], .str [], .sl .nil 6 [], .bool false, .bool false, .int .i64 0] [], []⟩, ⟨some 36, none, .call 29 [(.t 30), (.t 34), (.t 35)], []⟩]))
 (.reg [] [⟨some 28, none, .mv (.t 6), []⟩, ⟨some 29, none, .bi .add .i64 (.t 28) (.k (.int .i64 1)), []⟩, ⟨some 6, none, .mv (.t 29), []⟩]))))))
 (.seq (.reg [] [⟨some 37, none, .mv (.t 5), []⟩, ⟨some 38, none, .mv (.t 1), []⟩, ⟨some 39, none, .call 31 [(.t 37), (.t 38)], []⟩, ⟨some 7, none, .mv (.t 39), []⟩])
 (.seq (.seq (.reg [] [⟨some 8, none, .mv (.k (.int .i64 0)), []⟩])
 (.block 2 (.loop [0, 1, 5, 7, 8] (.seq (.seq (.reg [] [⟨some 40, none, .mv (.t 8), []⟩, ⟨some 41, none, .mv (.t 7), []⟩, ⟨some 42, none, .len (.t 41), []⟩, ⟨some 43, none, .bi .lss .i64 (.t 40) (.t 42), []⟩])
 (.cond (.t 43) (.skip) (.exit 2)))
 (.seq (.block 3 (.seq (.reg [] [⟨some 47, none, .mv (.t 5), []⟩, ⟨some 48, none, .mv (.t 7), []⟩, ⟨some 49, none, .mv (.t 8), []⟩, ⟨some 50, none, .ia 2 (.t 48) (.t 49), []⟩, ⟨some 51, none, .ld 2 true (.t 50), []⟩, ⟨some 52, none, .call 34 [(.t 47), (.t 51)], []⟩, ⟨some 46, none, .mv (.t 52), []⟩, ⟨some 53, none, .ext (.t 46) 0, []⟩, ⟨some 54, none, .ext (.t 46) 1, []⟩, ⟨some 9, none, .alloc [.str [], .str [], .sl .nil 6 [], .bool false, .bool false, .int .i64 0], []⟩, ⟨none, none, .st 6 (.t 9) (.t 53), []⟩, ⟨some 10, none, .mv (.t 54), []⟩])
 (.seq (.reg [0, 1, 2, 3, 4, 5, 6, 7, 8, 9, 10, 11, 12, 13, 14, 15, 16, 17, 18, 19, 20, 21, 22, 23, 24, 25, 26, 27] [⟨some 55, none, .mv (.t 10), []⟩, ⟨some 56, none, .mv (.t 55), []⟩, ⟨some 57, (some (56, false)), .mv (.t 0), []⟩, ⟨some 58, (some (56, false)), .mv (.t 7), []⟩, ⟨some 59, (some (56, false)), .mv (.t 8), []⟩, ⟨some 60, (some (56, false)), .ia 2 (.t 58) (.t 59), []⟩, ⟨some 61, (some (56, false)), .ld 2 true (.t 60), []⟩, ⟨some 62, (some (56, false)), .call 20 [(.t 57), (.t 61)], []⟩, ⟨some 63, none, .pick (.t 56) (.k (.bool true)) (.t 62), []⟩, ⟨some 64, none, .mv (.t 63), []⟩, ⟨some 65, (some (64, false)), .mv (.t 1), []⟩, ⟨some 66, (some (64, false)), .mv (.t 7), []⟩, ⟨some 67, (some (64, false)), .mv (.t 8), []⟩, ⟨some 68, (some (64, false)), .ia 2 (.t 66) (.t 67), []⟩, ⟨some 69, (some (64, false)), .ld 2 true (.t 68), []⟩, ⟨some 70, (some (64, false)), .call 20 [(.t 65), (.t 69)], []⟩, ⟨some 71, (some (64, false)), .not (.t 70), []⟩, ⟨some 72, none, .pick (.t 64) (.k (.bool true)) (.t 71), []⟩, ⟨some 73, none, .mv (.t 72), []⟩, ⟨some 74, (some (73, false)), .mv (.t 7), []⟩, ⟨some 75, (some (73, false)), .mv (.t 8), []⟩, ⟨some 76, (some (73, false)), .sll 2 (.t 74) none (some (.t 75)) none, []⟩, ⟨some 77, (some (73, false)), .mv (.t 7), []⟩, ⟨some 78, (some (73, false)), .mv (.t 8), []⟩, ⟨some 79, (some (73, false)), .ia 2 (.t 77) (.t 78), []⟩, ⟨some 80, (some (73, false)), .ld 2 true (.t 79), []⟩, ⟨some 81, (some (73, false)), .call 20 [(.t 76), (.t 80)], []⟩, ⟨some 82, none, .pick (.t 73) (.k (.bool true)) (.t 81), []⟩])
 (.cond (.t 82) (.seq (.reg [] [⟨some 4, none, .mv (.k (.bool false)), []⟩])
 (.ret)) (.skip)))))
 (.reg [] [⟨some 44, none, .mv (.t 8), []⟩, ⟨some 45, none, .bi .add .i64 (.t 44) (.k (.int .i64 1)), []⟩, ⟨some 8, none, .mv (.t 45), []⟩]))))))
 (.seq (.seq (.reg [] [⟨some 11, none, .mv (.k (.int .i64 0)), []⟩])
 (.block 4 (.loop [1, 5, 7, 11] (.seq (.seq (.reg [] [⟨some 83, none, .mv (.t 11), []⟩, ⟨some 84, none, .mv (.t 7), []⟩, ⟨some 85, none, .len (.t 84), []⟩, ⟨some 86, none, .bi .lss .i64 (.t 83) (.t 85), []⟩])
 (.cond (.t 86) (.skip) (.exit 4)))
 (.seq (.block 5 (.reg [] [⟨some 89, none, .mv (.t 5), []⟩, ⟨some 90, none, .mv (.t 7), []⟩, ⟨some 91, none, .mv (.t 11), []⟩, ⟨some 92, none, .ia 2 (.t 90) (.t 91), []⟩, ⟨some 93, none, .ld 2 true (.t 92), []⟩, ⟨some 94, none, .bld [.str [], .str [], .sl .nil 6 [], .bool false, .bool false, .int .i64 0] [(4, 1, (.k (.bool true)))], []⟩, ⟨some 95, none, .call 29 [(.t 89), (.t 93), (.t 94)], []⟩]))
 (.reg [] [⟨some 87, none, .mv (.t 11), []⟩, ⟨some 88, none, .bi .add .i64 (.t 87) (.k (.int .i64 1)), []⟩, ⟨some 11, none, .mv (.t 88), []⟩]))))))
 (.seq (.seq (.reg [] [⟨some 96, none, .mv (.t 5), []⟩, ⟨some 97, none, .mv (.t 1), []⟩, ⟨some 98, none, .call 31 [(.t 96), (.t 97)], []⟩, ⟨some 99, none, .len (.t 98), []⟩, ⟨some 100, none, .bi .neq .i64 (.t 99) (.k (.int .i64 0)), []⟩])
 (.cond (.t 100) (.seq (.reg [] [⟨some 4, none, .mv (.k (.bool false)), []⟩])
 (.ret)) (.skip)))
 (.seq (.reg [] [⟨some 101, none, .mv (.t 5), []⟩, ⟨some 102, none, .call 33 [(.t 101)], []⟩])
 (.seq (.reg [] [⟨some 103, none, .mv (.t 5), []⟩, ⟨some 104, none, .mv (.t 1), []⟩, ⟨some 105, none, .call 31 [(.t 103), (.t 104)], []⟩, ⟨some 106, none, .mv (.t 1), []⟩, ⟨some 107, none, .call 37 [(.t 106)], []⟩, ⟨some 108, none, .call 18 [(.t 105), (.t 107)], []⟩, ⟨some 109, none, .mv (.t 108), []⟩, ⟨some 110, (some (109, true)), .call 14 [], []⟩, ⟨some 111, none, .pick (.t 109) (.t 110) (.k (.bool false)), []⟩, ⟨some 4, none, .mv (.t 111), []⟩])
 (.ret)))))))))))⟩
theorem ck9 : chkFn Try.prog 9 ir9 = true := by kernel_rfl
def ir13 : AFn := ⟨34, 1, [.t 2], .seq (.reg [] [⟨some 2, none, .mv (.k (.bool false)), []⟩])
 (.seq (.reg [] [⟨some 3, none, .mv (.k (.int .i64 0)), []⟩])
 (.seq (.seq (.reg [] [⟨some 4, none, .mv (.k (.int .i64 0)), []⟩])
 (.block 0 (.loop [0, 3, 4] (.seq (.seq (.reg [] [⟨some 5, none, .mv (.t 4), []⟩, ⟨some 6, none, .mv (.t 0), []⟩, ⟨some 7, none, .len (.t 6), []⟩, ⟨some 8, none, .bi .lss .i64 (.t 5) (.t 7), []⟩])
 (.cond (.t 8) (.skip) (.exit 0)))
 (.seq (.block 1 (.reg [0, 1, 2, 3, 4, 5, 6, 7, 8, 9, 10, 11, 12, 13, 14, 15, 16] [⟨some 11, none, .mv (.t 3), []⟩, ⟨some 12, none, .bi .add .i64 (.t 11) (.k (.int .i64 1)), []⟩, ⟨some 13, none, .mv (.t 0), []⟩, ⟨some 14, none, .mv (.t 4), []⟩, ⟨some 15, none, .ia 2 (.t 13) (.t 14), []⟩, ⟨some 16, none, .fa 0 (.t 15), []⟩, ⟨some 17, none, .ld 1 false (.t 16), []⟩, ⟨some 18, none, .lens (.t 17), []⟩, ⟨some 19, none, .bi .add .i64 (.t 12) (.t 18), []⟩, ⟨some 20, none, .mv (.t 0), []⟩, ⟨some 21, none, .mv (.t 4), []⟩, ⟨some 22, none, .ia 2 (.t 20) (.t 21), []⟩, ⟨some 23, none, .fa 1 (.t 22), []⟩, ⟨some 24, none, .ld 1 false (.t 23), []⟩, ⟨some 25, none, .lens (.t 24), []⟩, ⟨some 26, none, .bi .add .i64 (.t 19) (.t 25), []⟩, ⟨some 3, none, .mv (.t 26), []⟩]))
 (.reg [] [⟨some 9, none, .mv (.t 4), []⟩, ⟨some 10, none, .bi .add .i64 (.t 9) (.k (.int .i64 1)), []⟩, ⟨some 4, none, .mv (.t 10), []⟩]))))))
 (.seq (.reg [] [⟨some 27, none, .mv (.t 3), []⟩, ⟨some 28, none, .bi .leq .i64 (.t 27) (.k (.int .i64 3000)), []⟩, ⟨some 29, none, .mv (.t 28), []⟩, ⟨some 30, (some (29, true)), .mv (.t 0), []⟩, ⟨some 31, (some (29, true)), .len (.t 30), []⟩, ⟨some 32, (some (29, true)), .bi .leq .i64 (.t 31) (.k (.int .i64 300)), []⟩, ⟨some 33, none, .pick (.t 29) (.t 32) (.k (.bool false)), []⟩, ⟨some 2, none, .mv (.t 33), []⟩])
 (.ret))))⟩
theorem ck13 : chkFn Try.prog 13 ir13 = true := by kernel_rfl
def ir14 : AFn := ⟨51, 0, [.t 0], .seq (.reg [] [⟨some 0, none, .mv (.k (.bool false)), []⟩])
 (.seq (.reg [] [⟨some 2, none, .call 19 [(.k (.str [97])), (.k (.str [49]))], []⟩, ⟨some 3, none, .call 19 [(.k (.str [98])), (.k (.str [49]))], []⟩, ⟨some 4, none, .call 19 [(.k (.str [97])), (.k (.str [50]))], []⟩, ⟨some 5, none, .call 19 [(.k (.str [97])), (.k (.str [49]))], []⟩, ⟨some 6, none, .call 19 [(.k (.str [97])), (.k (.str [51]))], []⟩, ⟨some 7, none, .bls 2 5 [.str [], .str []] [(0, (.t 2)), (1, (.t 3)), (2, (.t 4)), (3, (.t 5)), (4, (.t 6))], []⟩, ⟨some 8, none, .call 16 [(.k (.int .i64 2)), (.t 7)], []⟩, ⟨some 1, none, .mv (.t 8), []⟩])
 (.seq (.reg [] [⟨some 9, none, .mv (.t 1), []⟩, ⟨some 10, none, .len (.t 9), []⟩, ⟨some 11, none, .bi .eql .i64 (.t 10) (.k (.int .i64 3)), []⟩, ⟨some 12, none, .mv (.t 11), []⟩, ⟨some 13, (some (12, true)), .mv (.t 1), []⟩, ⟨some 14, (some (12, true)), .ia 2 (.t 13) (.k (.int .i64 0)), []⟩, ⟨some 15, (some (12, true)), .fa 0 (.t 14), []⟩, ⟨some 16, (some (12, true)), .ld 1 false (.t 15), []⟩, ⟨some 17, (some (12, true)), .bs .eql (.t 16) (.k (.str [97])), []⟩, ⟨some 18, none, .pick (.t 12) (.t 17) (.k (.bool false)), []⟩, ⟨some 19, none, .mv (.t 18), []⟩, ⟨some 20, (some (19, true)), .mv (.t 1), []⟩, ⟨some 21, (some (19, true)), .ia 2 (.t 20) (.k (.int .i64 0)), []⟩, ⟨some 22, (some (19, true)), .fa 1 (.t 21), []⟩, ⟨some 23, (some (19, true)), .ld 1 false (.t 22), []⟩, ⟨some 24, (some (19, true)), .len (.t 23), []⟩, ⟨some 25, (some (19, true)), .bi .eql .i64 (.t 24) (.k (.int .i64 2)), []⟩, ⟨some 26, none, .pick (.t 19) (.t 25) (.k (.bool false)), []⟩, ⟨some 27, none, .mv (.t 26), []⟩, ⟨some 28, (some (27, true)), .mv (.t 1), []⟩, ⟨some 29, (some (27, true)), .ia 2 (.t 28) (.k (.int .i64 1)), []⟩, ⟨some 30, (some (27, true)), .fa 1 (.t 29), []⟩, ⟨some 31, (some (27, true)), .ld 1 false (.t 30), []⟩, ⟨some 32, (some (27, true)), .len (.t 31), []⟩, ⟨some 33, (some (27, true)), .bi .eql .i64 (.t 32) (.k (.int .i64 1)), []⟩, ⟨some 34, none, .pick (.t 27) (.t 33) (.k (.bool false)), []⟩, ⟨some 35, none, .mv (.t 34), []⟩, ⟨some 36, (some (35, true)), .mv (.t 1), []⟩, ⟨some 37, (some (35, true)), .ia 2 (.t 36) (.k (.int .i64 1)), []⟩, ⟨some 38, (some (35, true)), .fa 1 (.t 37), []⟩, ⟨some 39, (some (35, true)), .ld 1 false (.t 38), []⟩, ⟨some 40, (some (35, true)), .ia 1 (.t 39) (.k (.int .i64 0)), []⟩, ⟨some 41, (some (35, true)), .ld 1 false (.t 40), []⟩, ⟨some 42, (some (35, true)), .bs .eql (.t 41) (.k (.str [51])), []⟩, ⟨some 43, none, .pick (.t 35) (.t 42) (.k (.bool false)), []⟩, ⟨some 44, none, .mv (.t 43), []⟩, ⟨some 45, (some (44, true)), .mv (.t 1), []⟩, ⟨some 46, (some (44, true)), .ia 2 (.t 45) (.k (.int .i64 2)), []⟩, ⟨some 47, (some (44, true)), .fa 0 (.t 46), []⟩, ⟨some 48, (some (44, true)), .ld 1 false (.t 47), []⟩, ⟨some 49, (some (44, true)), .bs .eql (.t 48) (.k (.str [98])), []⟩, ⟨some 50, none, .pick (.t 44) (.t 49) (.k (.bool false)), []⟩, ⟨some 0, none, .mv (.t 50), []⟩])
 (.ret)))⟩
theorem ck14 : chkFn Try.prog 14 ir14 = true := by kernel_rfl
def ir16 : AFn := ⟨73, 2, [.t 4], .seq (.reg [] [⟨some 4, none, .mv (.k (.sl .nil 2 [])), []⟩])
 (.seq (.reg [] [⟨some 15, none, .mv (.t 0), []⟩, ⟨some 16, none, .mm true (.t 15) [(.k (.int .i64 1))], []⟩, ⟨some 17, none, .mm false (.t 16) [(.k (.int .i64 64))], []⟩, ⟨some 0, none, .mv (.t 17), []⟩])
 (.seq (.reg [] [⟨some 5, none, .mv (.k (.sl .nil 1 [])), []⟩])
 (.seq (.reg [] [⟨some 18, none, .mkm (.one .s), []⟩, ⟨some 6, none, .mv (.t 18), []⟩])
 (.seq (.seq (.reg [] [⟨some 19, none, .mv (.t 1), []⟩, ⟨some 20, none, .call 52 [(.t 19)], []⟩, ⟨some 21, none, .len (.t 20), []⟩, ⟨some 22, none, .mv (.k (.int .i64 0)), []⟩])
 (.block 0 (.loop [0, 5, 6, 20, 21, 22] (.seq (.reg [] [⟨some 23, none, .bi .lss .i64 (.t 22) (.t 21), []⟩])
 (.seq (.cond (.t 23) (.skip) (.exit 0))
 (.seq (.block 1 (.seq (.reg [] [⟨some 24, none, .ia 2 (.t 20) (.t 22), []⟩, ⟨some 25, none, .ld 2 true (.t 24), []⟩, ⟨some 8, none, .alloc [.str [], .str []], []⟩, ⟨none, none, .st 2 (.t 8) (.t 25), []⟩])
 (.seq (.seq (.reg [] [⟨some 27, none, .mv (.t 6), []⟩, ⟨some 28, none, .fa 0 (.t 8), []⟩, ⟨some 29, none, .ld 1 false (.t 28), []⟩, ⟨some 30, none, .lkp (.one .s) (.sl .nil 1 []) true (.t 27) (.t 29), []⟩, ⟨some 26, none, .mv (.t 30), []⟩, ⟨some 31, none, .ext (.t 26) 0, []⟩, ⟨some 32, none, .ext (.t 26) 1, []⟩, ⟨some 9, none, .mv (.t 31), []⟩, ⟨some 10, none, .mv (.t 32), []⟩])
 (.seq (.reg [] [⟨some 33, none, .mv (.t 10), []⟩, ⟨some 34, none, .not (.t 33), []⟩])
 (.cond (.t 34) (.reg [] [⟨some 35, none, .mv (.t 5), []⟩, ⟨some 36, none, .fa 0 (.t 8), []⟩, ⟨some 37, none, .ld 1 false (.t 36), []⟩, ⟨some 38, none, .bls 1 1 [.str []] [(0, (.t 37))], []⟩, ⟨some 39, none, .app 1 16 (.t 35) (.t 38), []⟩, ⟨some 5, none, .mv (.t 39), []⟩]) (.skip))))
 (.reg [0, 1, 2, 3, 4, 5, 6, 7, 8, 9, 10, 11] [⟨some 40, none, .mv (.t 6), []⟩, ⟨some 41, none, .fa 0 (.t 8), []⟩, ⟨some 42, none, .ld 1 false (.t 41), []⟩, ⟨some 43, none, .mv (.t 6), []⟩, ⟨some 44, none, .fa 0 (.t 8), []⟩, ⟨some 45, none, .ld 1 false (.t 44), []⟩, ⟨some 46, none, .lkp (.one .s) (.sl .nil 1 []) false (.t 43) (.t 45), []⟩, ⟨some 47, none, .fa 1 (.t 8), []⟩, ⟨some 48, none, .ld 1 false (.t 47), []⟩, ⟨some 49, none, .bls 1 1 [.str []] [(0, (.t 48))], []⟩, ⟨some 50, none, .app 1 16 (.t 46) (.t 49), [2]⟩, ⟨none, none, .mup (.one .s) (.t 40) (.t 42) (.t 50), []⟩]))))
 (.reg [] [⟨some 51, none, .bi .add .i64 (.t 22) (.k (.int .i64 1)), []⟩, ⟨some 22, none, .mv (.t 51), []⟩])))))))
 (.seq (.reg [] [⟨some 11, none, .alloc [.sl .nil 2 []], []⟩])
 (.seq (.seq (.reg [] [⟨some 52, none, .mv (.t 5), []⟩, ⟨some 53, none, .len (.t 52), []⟩, ⟨some 54, none, .mv (.k (.int .i64 0)), []⟩])
 (.block 2 (.loop [0, 6, 11, 52, 53, 54] (.seq (.reg [] [⟨some 55, none, .bi .lss .i64 (.t 54) (.t 53), []⟩])
 (.seq (.cond (.t 55) (.skip) (.exit 2))
 (.seq (.block 3 (.seq (.reg [] [⟨some 56, none, .ia 1 (.t 52) (.t 54), []⟩, ⟨some 57, none, .ld 1 false (.t 56), []⟩, ⟨some 13, none, .alloc [.str []], []⟩, ⟨none, none, .st 1 (.t 13) (.t 57), []⟩])
 (.seq (.reg [] [⟨some 58, none, .mv (.t 6), []⟩, ⟨some 59, none, .ld 1 false (.t 13), []⟩, ⟨some 60, none, .lkp (.one .s) (.sl .nil 1 []) false (.t 58) (.t 59), []⟩, ⟨some 61, none, .mv (.t 0), []⟩, ⟨some 62, none, .call 53 [(.t 60), (.t 61)], []⟩])
 (.block 4 (.rfun (.t 62) [63] (.reg [] [⟨some 14, none, .mv (.t 63), []⟩]) (.block 5 (.reg [0, 1, 2, 3, 4, 5, 6, 7] [⟨some 64, none, .ld 1 false (.t 11), []⟩, ⟨some 65, none, .ld 1 false (.t 13), []⟩, ⟨some 66, none, .mv (.t 14), []⟩, ⟨some 67, none, .call 54 [(.t 66)], [0, 1]⟩, ⟨some 68, none, .bld [.str [], .sl .nil 1 []] [(0, 1, (.t 65)), (1, 1, (.t 67))], []⟩, ⟨some 69, none, .bls 2 1 [.str [], .sl .nil 1 []] [(0, (.t 68))], []⟩, ⟨some 70, none, .app 2 40 (.t 64) (.t 69), []⟩, ⟨none, none, .st 1 (.t 11) (.t 70), []⟩])))))))
 (.reg [] [⟨some 71, none, .bi .add .i64 (.t 54) (.k (.int .i64 1)), []⟩, ⟨some 54, none, .mv (.t 71), []⟩])))))))
 (.seq (.reg [] [⟨some 72, none, .ld 1 false (.t 11), []⟩, ⟨some 4, none, .mv (.t 72), []⟩])
 (.ret))))))))⟩
theorem ck16 : chkFn Try.prog 16 ir16 = true := by kernel_rfl
def ir18 : AFn := ⟨26, 2, [.t 4], .seq (.reg [] [⟨some 4, none, .mv (.k (.bool false)), []⟩])
 (.seq (.seq (.reg [] [⟨some 6, none, .mv (.t 0), []⟩, ⟨some 7, none, .len (.t 6), []⟩, ⟨some 8, none, .mv (.t 1), []⟩, ⟨some 9, none, .len (.t 8), []⟩, ⟨some 10, none, .bi .neq .i64 (.t 7) (.t 9), []⟩])
 (.cond (.t 10) (.seq (.reg [] [⟨some 4, none, .mv (.k (.bool false)), []⟩])
 (.ret)) (.skip)))
 (.seq (.seq (.reg [] [⟨some 5, none, .mv (.k (.int .i64 0)), []⟩])
 (.block 0 (.loop [0, 1, 5] (.seq (.seq (.reg [] [⟨some 11, none, .mv (.t 5), []⟩, ⟨some 12, none, .mv (.t 0), []⟩, ⟨some 13, none, .len (.t 12), []⟩, ⟨some 14, none, .bi .lss .i64 (.t 11) (.t 13), []⟩])
 (.cond (.t 14) (.skip) (.exit 0)))
 (.seq (.block 1 (.seq (.reg [0, 1, 2, 3, 4, 5, 6, 7, 8] [⟨some 17, none, .mv (.t 0), []⟩, ⟨some 18, none, .mv (.t 5), []⟩, ⟨some 19, none, .ia 2 (.t 17) (.t 18), []⟩, ⟨some 20, none, .ld 2 true (.t 19), []⟩, ⟨some 21, none, .mv (.t 1), []⟩, ⟨some 22, none, .mv (.t 5), []⟩, ⟨some 23, none, .ia 2 (.t 21) (.t 22), []⟩, ⟨some 24, none, .ld 2 true (.t 23), []⟩, ⟨some 25, none, .eqa true [.s, .s] (.t 20) (.t 24), []⟩])
 (.cond (.t 25) (.seq (.reg [] [⟨some 4, none, .mv (.k (.bool false)), []⟩])
 (.ret)) (.skip))))
 (.reg [] [⟨some 15, none, .mv (.t 5), []⟩, ⟨some 16, none, .bi .add .i64 (.t 15) (.k (.int .i64 1)), []⟩, ⟨some 5, none, .mv (.t 16), []⟩]))))))
 (.seq (.reg [] [⟨some 4, none, .mv (.k (.bool true)), []⟩])
 (.ret))))⟩
theorem ck18 : chkFn Try.prog 18 ir18 = true := by kernel_rfl
def ir19 : AFn := ⟨8, 2, [.c 4 2 true], .seq (.reg [] [⟨some 4, none, .alloc [.str [], .str []], []⟩])
 (.seq (.reg [] [⟨some 5, none, .mv (.t 0), []⟩, ⟨some 6, none, .mv (.t 1), []⟩, ⟨some 7, none, .bld [.str [], .str []] [(0, 1, (.t 5)), (1, 1, (.t 6))], []⟩, ⟨none, none, .st 2 (.t 4) (.t 7), []⟩])
 (.ret))⟩
theorem ck19 : chkFn Try.prog 19 ir19 = true := by kernel_rfl
def ir20 : AFn := ⟨18, 2, [.t 4], .seq (.reg [] [⟨some 3, none, .boxv (.t 1), []⟩, ⟨some 4, none, .mv (.k (.bool false)), []⟩])
 (.seq (.seq (.reg [] [⟨some 5, none, .mv (.k (.int .i64 0)), []⟩])
 (.block 0 (.loop [0, 3, 5] (.seq (.seq (.reg [] [⟨some 6, none, .mv (.t 5), []⟩, ⟨some 7, none, .mv (.t 0), []⟩, ⟨some 8, none, .len (.t 7), []⟩, ⟨some 9, none, .bi .lss .i64 (.t 6) (.t 8), []⟩])
 (.cond (.t 9) (.skip) (.exit 0)))
 (.seq (.block 1 (.seq (.reg [0, 1, 2, 3, 4, 5] [⟨some 12, none, .mv (.t 0), []⟩, ⟨some 13, none, .mv (.t 5), []⟩, ⟨some 14, none, .ia 2 (.t 12) (.t 13), []⟩, ⟨some 15, none, .ld 2 true (.t 14), []⟩, ⟨some 16, none, .ld 2 true (.t 3), []⟩, ⟨some 17, none, .eqa false [.s, .s] (.t 15) (.t 16), []⟩])
 (.cond (.t 17) (.seq (.reg [] [⟨some 4, none, .mv (.k (.bool true)), []⟩])
 (.ret)) (.skip))))
 (.reg [] [⟨some 10, none, .mv (.t 5), []⟩, ⟨some 11, none, .bi .add .i64 (.t 10) (.k (.int .i64 1)), []⟩, ⟨some 5, none, .mv (.t 11), []⟩]))))))
 (.seq (.reg [] [⟨some 4, none, .mv (.k (.bool false)), []⟩])
 (.ret)))⟩
theorem ck20 : chkFn Try.prog 20 ir20 = true := by kernel_rfl
def ir27 : AFn := ⟨4, 0, [.t 0], .seq (.reg [] [⟨some 0, none, .mv (.k (.nilp)), []⟩])
 (.seq (.reg [] [⟨some 1, none, .mkm (.agg [.s, .s]), []⟩, ⟨some 2, none, .bld [.nilm] [(0, 1, (.t 1))], []⟩, ⟨some 3, none, .box (.t 2), []⟩, ⟨some 0, none, .mv (.t 3), []⟩])
 (.ret))⟩
theorem ck27 : chkFn Try.prog 27 ir27 = true := by kernel_rfl
def ir28 : AFn := ⟨16, 1, [.t 2], .seq (.reg [] [⟨some 1, none, .boxv (.t 0), []⟩, ⟨some 2, none, .mv (.k (.int .i64 0)), []⟩])
 (.seq (.reg [0, 1, 2, 3, 4, 5, 6, 7, 8, 9, 10, 11, 12, 13] [⟨some 3, none, .fa 0 (.t 1), []⟩, ⟨some 4, none, .ld 1 false (.t 3), []⟩, ⟨some 5, none, .lens (.t 4), []⟩, ⟨some 6, none, .bi .add .i64 (.k (.int .i64 1)) (.t 5), []⟩, ⟨some 7, none, .fa 1 (.t 1), []⟩, ⟨some 8, none, .ld 1 false (.t 7), []⟩, ⟨some 9, none, .lens (.t 8), []⟩, ⟨some 10, none, .bi .add .i64 (.t 6) (.t 9), []⟩, ⟨some 11, none, .fa 2 (.t 1), []⟩, ⟨some 12, none, .ld 1 false (.t 11), []⟩, ⟨some 13, none, .bld [.int .i64 0, .int .i64 0, .str [], .sl .nil 5 [], .sl .nil 6 []] [(4, 1, (.t 12))], []⟩, ⟨some 14, none, .call 56 [(.t 13)], [1, 5]⟩, ⟨some 15, none, .bi .add .i64 (.t 10) (.t 14), []⟩, ⟨some 2, none, .mv (.t 15), []⟩])
 (.ret))⟩
theorem ck28 : chkFn Try.prog 28 ir28 = true := by kernel_rfl
def ir29 : AFn := ⟨22, 3, [], .seq (.reg [] [⟨some 4, none, .boxv (.t 1), []⟩, ⟨some 5, none, .boxv (.t 2), []⟩])
 (.seq (.reg [] [⟨some 6, none, .mv (.t 0), []⟩, ⟨some 7, none, .isnn .p (.t 6), []⟩, ⟨some 8, none, .mv (.t 7), []⟩, ⟨some 9, (some (8, true)), .mv (.t 0), []⟩, ⟨some 10, (some (8, true)), .nilchk (.t 9), []⟩, ⟨some 11, (some (8, true)), .fa 0 (.t 10), []⟩, ⟨some 12, (some (8, true)), .ld 1 false (.t 11), []⟩, ⟨some 13, (some (8, true)), .isnn .m (.t 12), []⟩, ⟨some 14, none, .pick (.t 8) (.t 13) (.k (.bool false)), []⟩])
 (.cond (.t 14) (.reg [0, 1, 2, 3, 4, 5, 6, 7] [⟨some 15, none, .mv (.t 0), []⟩, ⟨some 16, none, .nilchk (.t 15), []⟩, ⟨some 17, none, .fa 0 (.t 16), []⟩, ⟨some 18, none, .ld 1 false (.t 17), []⟩, ⟨some 19, none, .ld 2 true (.t 4), []⟩, ⟨some 20, none, .ld 6 true (.t 5), []⟩, ⟨some 21, none, .call 57 [(.t 20)], [3, 4]⟩, ⟨none, none, .mup (.agg [.s, .s]) (.t 18) (.t 19) (.t 21), []⟩]) (.skip)))⟩
theorem ck29 : chkFn Try.prog 29 ir29 = true := by kernel_rfl
def ir30 : AFn := ⟨52, 3, [], .seq (.reg [] [⟨some 4, none, .boxv (.t 1), []⟩, ⟨some 5, none, .boxv (.t 2), []⟩])
 (.seq (.seq (.reg [] [⟨some 6, none, .mv (.k (.int .i64 0)), []⟩])
 (.block 0 (.loop [0, 4, 5, 6] (.seq (.seq (.reg [] [⟨some 7, none, .mv (.t 6), []⟩, ⟨some 8, none, .mv (.t 0), []⟩, ⟨some 9, none, .nilchk (.t 8), []⟩, ⟨some 10, none, .fa 0 (.t 9), []⟩, ⟨some 11, none, .ld 1 false (.t 10), []⟩, ⟨some 12, none, .len (.t 11), []⟩, ⟨some 13, none, .bi .lss .i64 (.t 7) (.t 12), []⟩])
 (.cond (.t 13) (.skip) (.exit 0)))
 (.seq (.block 1 (.seq (.reg [0, 1, 2, 3, 4, 5, 6, 7, 8] [⟨some 16, none, .mv (.t 0), []⟩, ⟨some 17, none, .nilchk (.t 16), []⟩, ⟨some 18, none, .fa 0 (.t 17), []⟩, ⟨some 19, none, .ld 1 false (.t 18), []⟩, ⟨some 20, none, .mv (.t 6), []⟩, ⟨some 21, none, .ia 2 (.t 19) (.t 20), []⟩, ⟨some 22, none, .ld 2 true (.t 21), []⟩, ⟨some 23, none, .ld 2 true (.t 4), []⟩, ⟨some 24, none, .eqa false [.s, .s] (.t 22) (.t 23), []⟩])
 (.cond (.t 24) (.seq (.reg [0, 1, 2, 3, 4, 5, 6, 7] [⟨some 25, none, .mv (.t 0), []⟩, ⟨some 26, none, .nilchk (.t 25), []⟩, ⟨some 27, none, .fa 1 (.t 26), []⟩, ⟨some 28, none, .ld 1 false (.t 27), []⟩, ⟨some 29, none, .mv (.t 6), []⟩, ⟨some 30, none, .ld 6 true (.t 5), []⟩, ⟨some 31, none, .ia 6 (.t 28) (.t 29), []⟩, ⟨none, none, .st 6 (.t 31) (.t 30), []⟩])
 (.ret)) (.skip))))
 (.reg [] [⟨some 14, none, .mv (.t 6), []⟩, ⟨some 15, none, .bi .add .i64 (.t 14) (.k (.int .i64 1)), []⟩, ⟨some 6, none, .mv (.t 15), []⟩]))))))
 (.reg [0, 1, 2, 3, 4, 5, 6, 7, 9, 10, 11, 12, 13, 14, 8, 15, 16, 17, 18, 19, 20, 21] [⟨some 32, none, .mv (.t 0), []⟩, ⟨some 33, none, .mv (.t 0), []⟩, ⟨some 34, none, .mv (.t 0), []⟩, ⟨some 35, none, .nilchk (.t 34), []⟩, ⟨some 36, none, .fa 0 (.t 35), []⟩, ⟨some 37, none, .ld 1 false (.t 36), []⟩, ⟨some 38, none, .ld 2 true (.t 4), []⟩, ⟨some 39, none, .bls 2 1 [.str [], .str []] [(0, (.t 38))], []⟩, ⟨some 41, none, .mv (.t 0), []⟩, ⟨some 42, none, .nilchk (.t 41), []⟩, ⟨some 43, none, .fa 1 (.t 42), []⟩, ⟨some 44, none, .ld 1 false (.t 43), []⟩, ⟨some 45, none, .ld 6 true (.t 5), []⟩, ⟨some 46, none, .bls 6 1 [.str [], .str [], .sl .nil 6 [], .bool false, .bool false, .int .i64 0] [(0, (.t 45))], []⟩, ⟨some 40, none, .app 2 32 (.t 37) (.t 39), [11, 12]⟩, ⟨some 47, none, .appm 6 80 [.str [], .str [], .sl .nil 6 [], .bool false, .bool false, .int .i64 0] (.t 44) (.t 46), []⟩, ⟨some 48, none, .nilchk (.t 32), []⟩, ⟨some 49, none, .fa 0 (.t 48), []⟩, ⟨none, none, .st 1 (.t 49) (.t 40), []⟩, ⟨some 50, none, .nilchk (.t 33), []⟩, ⟨some 51, none, .fa 1 (.t 50), []⟩, ⟨none, none, .st 1 (.t 51) (.t 47), []⟩]))⟩
theorem ck30 : chkFn Try.prog 30 ir30 = true := by kernel_rfl
def ir31 : AFn := ⟨31, 2, [.t 4], .seq (.reg [] [⟨some 4, none, .mv (.k (.sl .nil 2 [])), []⟩])
 (.seq (.reg [] [⟨some 5, none, .mv (.k (.sl .nil 2 [])), []⟩])
 (.seq (.seq (.reg [] [⟨some 10, none, .mv (.t 1), []⟩, ⟨some 11, none, .call 52 [(.t 10)], []⟩, ⟨some 12, none, .len (.t 11), []⟩, ⟨some 13, none, .mv (.k (.int .i64 0)), []⟩])
 (.block 0 (.loop [0, 5, 11, 12, 13] (.seq (.reg [] [⟨some 14, none, .bi .lss .i64 (.t 13) (.t 12), []⟩])
 (.seq (.cond (.t 14) (.skip) (.exit 0))
 (.seq (.block 1 (.seq (.reg [] [⟨some 15, none, .ia 2 (.t 11) (.t 13), []⟩, ⟨some 16, none, .ld 2 true (.t 15), []⟩, ⟨some 7, none, .alloc [.str [], .str []], []⟩, ⟨none, none, .st 2 (.t 7) (.t 16), []⟩])
 (.seq (.reg [] [⟨some 18, none, .mv (.t 0), []⟩, ⟨some 19, none, .ld 2 true (.t 7), []⟩, ⟨some 20, none, .call 34 [(.t 18), (.t 19)], []⟩, ⟨some 17, none, .mv (.t 20), []⟩, ⟨some 21, none, .ext (.t 17) 0, []⟩, ⟨some 22, none, .ext (.t 17) 1, []⟩, ⟨some 8, none, .alloc [.str [], .str [], .sl .nil 6 [], .bool false, .bool false, .int .i64 0], []⟩, ⟨none, none, .st 6 (.t 8) (.t 21), []⟩, ⟨some 9, none, .mv (.t 22), []⟩])
 (.seq (.reg [] [⟨some 23, none, .mv (.t 9), []⟩, ⟨some 24, none, .not (.t 23), []⟩])
 (.cond (.t 24) (.reg [] [⟨some 25, none, .mv (.t 5), []⟩, ⟨some 26, none, .ld 2 true (.t 7), []⟩, ⟨some 27, none, .bls 2 1 [.str [], .str []] [(0, (.t 26))], []⟩, ⟨some 28, none, .app 2 32 (.t 25) (.t 27), []⟩, ⟨some 5, none, .mv (.t 28), []⟩]) (.skip))))))
 (.reg [] [⟨some 29, none, .bi .add .i64 (.t 13) (.k (.int .i64 1)), []⟩, ⟨some 13, none, .mv (.t 29), []⟩])))))))
 (.seq (.reg [] [⟨some 30, none, .mv (.t 5), []⟩, ⟨some 4, none, .mv (.t 30), []⟩])
 (.ret))))⟩
theorem ck31 : chkFn Try.prog 31 ir31 = true := by kernel_rfl
def ir32 : AFn := ⟨43, 2, [.t 4], .seq (.reg [] [⟨some 4, none, .mv (.k (.sl .nil 2 [])), []⟩])
 (.seq (.reg [] [⟨some 5, none, .mv (.k (.sl .nil 2 [])), []⟩])
 (.seq (.seq (.reg [] [⟨some 6, none, .mv (.k (.int .i64 0)), []⟩])
 (.block 0 (.loop [0, 1, 5, 6] (.seq (.seq (.reg [] [⟨some 9, none, .mv (.t 6), []⟩, ⟨some 10, none, .mv (.t 1), []⟩, ⟨some 11, none, .len (.t 10), []⟩, ⟨some 12, none, .bi .lss .i64 (.t 9) (.t 11), []⟩])
 (.cond (.t 12) (.skip) (.exit 0)))
 (.seq (.block 1 (.seq (.reg [] [⟨some 16, none, .mv (.t 0), []⟩, ⟨some 17, none, .mv (.t 1), []⟩, ⟨some 18, none, .mv (.t 6), []⟩, ⟨some 19, none, .ia 2 (.t 17) (.t 18), []⟩, ⟨some 20, none, .ld 2 true (.t 19), []⟩, ⟨some 21, none, .call 35 [(.t 16), (.t 20)], []⟩, ⟨some 15, none, .mv (.t 21), []⟩, ⟨some 22, none, .ext (.t 15) 0, []⟩, ⟨some 23, none, .ext (.t 15) 1, []⟩, ⟨some 7, none, .alloc [.str [], .str [], .sl .nil 6 [], .bool false, .bool false, .int .i64 0], []⟩, ⟨none, none, .st 6 (.t 7) (.t 22), []⟩, ⟨some 8, none, .mv (.t 23), []⟩])
 (.seq (.reg [] [⟨some 24, none, .mv (.t 8), []⟩, ⟨some 25, none, .not (.t 24), []⟩, ⟨some 26, none, .mv (.t 25), []⟩, ⟨some 27, (some (26, true)), .mv (.t 5), []⟩, ⟨some 28, (some (26, true)), .mv (.t 1), []⟩, ⟨some 29, (some (26, true)), .mv (.t 6), []⟩, ⟨some 30, (some (26, true)), .ia 2 (.t 28) (.t 29), []⟩, ⟨some 31, (some (26, true)), .ld 2 true (.t 30), []⟩, ⟨some 32, (some (26, true)), .call 20 [(.t 27), (.t 31)], []⟩, ⟨some 33, (some (26, true)), .not (.t 32), []⟩, ⟨some 34, none, .pick (.t 26) (.t 33) (.k (.bool false)), []⟩])
 (.cond (.t 34) (.reg [] [⟨some 35, none, .mv (.t 5), []⟩, ⟨some 36, none, .mv (.t 1), []⟩, ⟨some 37, none, .mv (.t 6), []⟩, ⟨some 38, none, .ia 2 (.t 36) (.t 37), []⟩, ⟨some 39, none, .ld 2 true (.t 38), []⟩, ⟨some 40, none, .bls 2 1 [.str [], .str []] [(0, (.t 39))], []⟩, ⟨some 41, none, .app 2 32 (.t 35) (.t 40), []⟩, ⟨some 5, none, .mv (.t 41), []⟩]) (.skip)))))
 (.reg [] [⟨some 13, none, .mv (.t 6), []⟩, ⟨some 14, none, .bi .add .i64 (.t 13) (.k (.int .i64 1)), []⟩, ⟨some 6, none, .mv (.t 14), []⟩]))))))
 (.seq (.reg [] [⟨some 42, none, .mv (.t 5), []⟩, ⟨some 4, none, .mv (.t 42), []⟩])
 (.ret))))⟩
theorem ck32 : chkFn Try.prog 32 ir32 = true := by kernel_rfl
def ir33 : AFn := ⟨8, 1, [], .seq (.reg [] [⟨some 2, none, .mv (.t 0), []⟩, ⟨some 3, none, .isnn .p (.t 2), []⟩])
 (.cond (.t 3) (.reg [] [⟨some 4, none, .mv (.t 0), []⟩, ⟨some 5, none, .mkm (.agg [.s, .s]), []⟩, ⟨some 6, none, .nilchk (.t 4), []⟩, ⟨some 7, none, .fa 0 (.t 6), []⟩, ⟨none, none, .st 1 (.t 7) (.t 5), []⟩]) (.skip))⟩
theorem ck33 : chkFn Try.prog 33 ir33 = true := by kernel_rfl
def ir34 : AFn := ⟨23, 2, [.c 4 6 true, .t 5], .seq (.reg [] [⟨some 3, none, .boxv (.t 1), []⟩, ⟨some 4, none, .alloc [.str [], .str [], .sl .nil 6 [], .bool false, .bool false, .int .i64 0], []⟩, ⟨some 5, none, .mv (.k (.bool false)), []⟩])
 (.seq (.seq (.reg [] [⟨some 8, none, .mv (.t 0), []⟩, ⟨some 9, none, .isnil .p (.t 8), []⟩])
 (.cond (.t 9) (.seq (.reg [] [⟨some 10, none, .bld [.str [], .str [], .sl .nil 6 [], .bool false, .bool false, .int .i64 0] [], []⟩, ⟨none, none, .st 6 (.t 4) (.t 10), []⟩, ⟨some 5, none, .mv (.k (.bool false)), []⟩])
 (.ret)) (.skip)))
 (.seq (.reg [0, 1, 2, 3, 4, 5, 6, 7, 8, 9, 10, 11] [⟨some 12, none, .mv (.t 0), []⟩, ⟨some 13, none, .nilchk (.t 12), []⟩, ⟨some 14, none, .fa 0 (.t 13), []⟩, ⟨some 15, none, .ld 1 false (.t 14), []⟩, ⟨some 16, none, .ld 2 true (.t 3), []⟩, ⟨some 17, none, .lkp (.agg [.s, .s]) (.agg [.str [], .str [], .sl .nil 6 [], .bool false, .bool false, .int .i64 0]) true (.t 15) (.t 16), []⟩, ⟨some 11, none, .mv (.t 17), []⟩, ⟨some 18, none, .ext (.t 11) 0, []⟩, ⟨some 19, none, .ext (.t 11) 1, []⟩, ⟨some 6, none, .alloc [.str [], .str [], .sl .nil 6 [], .bool false, .bool false, .int .i64 0], []⟩, ⟨none, none, .st 6 (.t 6) (.t 18), []⟩, ⟨some 7, none, .mv (.t 19), []⟩])
 (.seq (.reg [] [⟨some 20, none, .ld 6 true (.t 6), []⟩, ⟨some 21, none, .call 57 [(.t 20)], []⟩, ⟨some 22, none, .mv (.t 7), []⟩, ⟨none, none, .st 6 (.t 4) (.t 21), []⟩, ⟨some 5, none, .mv (.t 22), []⟩])
 (.ret))))⟩
theorem ck34 : chkFn Try.prog 34 ir34 = true := by kernel_rfl
def ir35 : AFn := ⟨33, 2, [.c 4 6 true, .t 5], .seq (.reg [] [⟨some 3, none, .boxv (.t 1), []⟩, ⟨some 4, none, .alloc [.str [], .str [], .sl .nil 6 [], .bool false, .bool false, .int .i64 0], []⟩, ⟨some 5, none, .mv (.k (.bool false)), []⟩])
 (.seq (.seq (.reg [] [⟨some 6, none, .mv (.k (.int .i64 0)), []⟩])
 (.block 0 (.loop [0, 3, 4, 6] (.seq (.seq (.reg [] [⟨some 7, none, .mv (.t 6), []⟩, ⟨some 8, none, .mv (.t 0), []⟩, ⟨some 9, none, .nilchk (.t 8), []⟩, ⟨some 10, none, .fa 0 (.t 9), []⟩, ⟨some 11, none, .ld 1 false (.t 10), []⟩, ⟨some 12, none, .len (.t 11), []⟩, ⟨some 13, none, .bi .lss .i64 (.t 7) (.t 12), []⟩])
 (.cond (.t 13) (.skip) (.exit 0)))
 (.seq (.block 1 (.seq (.reg [0, 1, 2, 3, 4, 5, 6, 7, 8] [⟨some 16, none, .mv (.t 0), []⟩, ⟨some 17, none, .nilchk (.t 16), []⟩, ⟨some 18, none, .fa 0 (.t 17), []⟩, ⟨some 19, none, .ld 1 false (.t 18), []⟩, ⟨some 20, none, .mv (.t 6), []⟩, ⟨some 21, none, .ia 2 (.t 19) (.t 20), []⟩, ⟨some 22, none, .ld 2 true (.t 21), []⟩, ⟨some 23, none, .ld 2 true (.t 3), []⟩, ⟨some 24, none, .eqa false [.s, .s] (.t 22) (.t 23), []⟩])
 (.cond (.t 24) (.seq (.reg [] [⟨some 25, none, .mv (.t 0), []⟩, ⟨some 26, none, .nilchk (.t 25), []⟩, ⟨some 27, none, .fa 1 (.t 26), []⟩, ⟨some 28, none, .ld 1 false (.t 27), []⟩, ⟨some 29, none, .mv (.t 6), []⟩, ⟨some 30, none, .ia 6 (.t 28) (.t 29), []⟩, ⟨some 31, none, .ld 6 true (.t 30), []⟩, ⟨none, none, .st 6 (.t 4) (.t 31), []⟩, ⟨some 5, none, .mv (.k (.bool true)), []⟩])
 (.ret)) (.skip))))
 (.reg [] [⟨some 14, none, .mv (.t 6), []⟩, ⟨some 15, none, .bi .add .i64 (.t 14) (.k (.int .i64 1)), []⟩, ⟨some 6, none, .mv (.t 15), []⟩]))))))
 (.seq (.reg [] [⟨some 32, none, .bld [.str [], .str [], .sl .nil 6 [], .bool false, .bool false, .int .i64 0] [], []⟩, ⟨none, none, .st 6 (.t 4) (.t 32), []⟩, ⟨some 5, none, .mv (.k (.bool false)), []⟩])
 (.ret)))⟩
theorem ck35 : chkFn Try.prog 35 ir35 = true := by kernel_rfl
def ir36 : AFn := ⟨24, 2, [.t 4], .seq (.reg [] [⟨some 2, none, .boxv (.t 0), []⟩, ⟨some 3, none, .boxv (.t 1), []⟩, ⟨some 4, none, .mv (.k (.bool false)), []⟩])
 (.seq (.reg [] [⟨some 5, none, .fa 4 (.t 2), []⟩, ⟨some 6, none, .ld 1 false (.t 5), []⟩, ⟨some 7, none, .fa 4 (.t 3), []⟩, ⟨some 8, none, .ld 1 false (.t 7), []⟩, ⟨some 9, none, .bb false (.t 6) (.t 8), []⟩, ⟨some 10, none, .mv (.t 9), []⟩, ⟨some 11, (some (10, true)), .fa 5 (.t 2), []⟩, ⟨some 12, (some (10, true)), .ld 1 false (.t 11), []⟩, ⟨some 13, (some (10, true)), .fa 5 (.t 3), []⟩, ⟨some 14, (some (10, true)), .ld 1 false (.t 13), []⟩, ⟨some 15, (some (10, true)), .bi .eql .i64 (.t 12) (.t 14), []⟩, ⟨some 16, none, .pick (.t 10) (.t 15) (.k (.bool false)), []⟩, ⟨some 17, none, .mv (.t 16), []⟩, ⟨some 18, (some (17, true)), .fa 0 (.t 2), []⟩, ⟨some 19, (some (17, true)), .ld 4 true (.t 18), []⟩, ⟨some 20, (some (17, true)), .fa 0 (.t 3), []⟩, ⟨some 21, (some (17, true)), .ld 4 true (.t 20), []⟩, ⟨some 22, (some (17, true)), .call 58 [(.t 19), (.t 21)], []⟩, ⟨some 23, none, .pick (.t 17) (.t 22) (.k (.bool false)), []⟩, ⟨some 4, none, .mv (.t 23), []⟩])
 (.ret))⟩
theorem ck36 : chkFn Try.prog 36 ir36 = true := by kernel_rfl
def ir37 : AFn := ⟨26, 1, [.t 2], .seq (.reg [] [⟨some 2, none, .mv (.k (.sl .nil 2 [])), []⟩])
 (.seq (.reg [] [⟨some 3, none, .mv (.k (.sl .nil 2 [])), []⟩])
 (.seq (.seq (.reg [] [⟨some 4, none, .mv (.k (.int .i64 0)), []⟩])
 (.block 0 (.loop [0, 3, 4] (.seq (.seq (.reg [] [⟨some 5, none, .mv (.t 4), []⟩, ⟨some 6, none, .mv (.t 0), []⟩, ⟨some 7, none, .len (.t 6), []⟩, ⟨some 8, none, .bi .lss .i64 (.t 5) (.t 7), []⟩])
 (.cond (.t 8) (.skip) (.exit 0)))
 (.seq (.block 1 (.seq (.reg [] [⟨some 11, none, .mv (.t 3), []⟩, ⟨some 12, none, .mv (.t 0), []⟩, ⟨some 13, none, .mv (.t 4), []⟩, ⟨some 14, none, .ia 2 (.t 12) (.t 13), []⟩, ⟨some 15, none, .ld 2 true (.t 14), []⟩, ⟨some 16, none, .call 20 [(.t 11), (.t 15)], []⟩, ⟨some 17, none, .not (.t 16), []⟩])
 (.cond (.t 17) (.reg [] [⟨some 18, none, .mv (.t 3), []⟩, ⟨some 19, none, .mv (.t 0), []⟩, ⟨some 20, none, .mv (.t 4), []⟩, ⟨some 21, none, .ia 2 (.t 19) (.t 20), []⟩, ⟨some 22, none, .ld 2 true (.t 21), []⟩, ⟨some 23, none, .bls 2 1 [.str [], .str []] [(0, (.t 22))], []⟩, ⟨some 24, none, .app 2 32 (.t 18) (.t 23), []⟩, ⟨some 3, none, .mv (.t 24), []⟩]) (.skip))))
 (.reg [] [⟨some 9, none, .mv (.t 4), []⟩, ⟨some 10, none, .bi .add .i64 (.t 9) (.k (.int .i64 1)), []⟩, ⟨some 4, none, .mv (.t 10), []⟩]))))))
 (.seq (.reg [] [⟨some 25, none, .mv (.t 3), []⟩, ⟨some 2, none, .mv (.t 25), []⟩])
 (.ret))))⟩
theorem ck37 : chkFn Try.prog 37 ir37 = true := by kernel_rfl
def ir52 : AFn := ⟨25, 1, [.t 2], .seq (.reg [] [⟨some 2, none, .mv (.k (.sl .nil 2 [])), []⟩])
 (.scope (.seq (.reg [] [⟨some 7, none, .mkm (.agg [.s, .s]), []⟩, ⟨some 3, none, .mv (.t 7), []⟩])
 (.seq (.reg [] [⟨some 4, none, .mv (.k (.sl .nil 2 [])), []⟩])
 (.seq (.skip)
 (.seq (.seq (.reg [] [⟨some 8, none, .mv (.t 0), []⟩, ⟨some 9, none, .len (.t 8), []⟩, ⟨some 10, none, .mv (.k (.int .i64 0)), []⟩])
 (.block 0 (.loop [3, 4, 8, 9, 10] (.seq (.reg [] [⟨some 11, none, .bi .lss .i64 (.t 10) (.t 9), []⟩])
 (.seq (.cond (.t 11) (.skip) (.exit 0))
 (.seq (.block 1 (.seq (.reg [] [⟨some 12, none, .ia 2 (.t 8) (.t 10), []⟩, ⟨some 13, none, .ld 2 true (.t 12), []⟩, ⟨some 6, none, .alloc [.str [], .str []], []⟩, ⟨none, none, .st 2 (.t 6) (.t 13), []⟩])
 (.seq (.seq (.reg [] [⟨some 14, none, .mv (.t 3), []⟩, ⟨some 15, none, .ld 2 true (.t 6), []⟩, ⟨some 16, none, .lkp (.agg [.s, .s]) (.bool false) false (.t 14) (.t 15), []⟩])
 (.cond (.t 16) (.exit 1) (.skip)))
 (.seq (.reg [] [⟨some 17, none, .mv (.t 3), []⟩, ⟨some 18, none, .ld 2 true (.t 6), []⟩, ⟨none, none, .mup (.agg [.s, .s]) (.t 17) (.t 18) (.k (.bool true)), []⟩])
 (.reg [] [⟨some 19, none, .mv (.t 4), []⟩, ⟨some 20, none, .ld 2 true (.t 6), []⟩, ⟨some 21, none, .bls 2 1 [.str [], .str []] [(0, (.t 20))], []⟩, ⟨some 22, none, .app 2 32 (.t 19) (.t 21), []⟩, ⟨some 4, none, .mv (.t 22), []⟩])))))
 (.reg [] [⟨some 23, none, .bi .add .i64 (.t 10) (.k (.int .i64 1)), []⟩, ⟨some 10, none, .mv (.t 23), []⟩])))))))
 (.seq (.reg [] [⟨some 24, none, .mv (.t 4), []⟩, ⟨some 2, none, .mv (.t 24), []⟩])
 (.ret)))))))⟩
theorem ck52 : chkFn Try.prog 52 ir52 = true := by kernel_rfl
def ir53 : AFn := ⟨9, 2, [.t 4], .seq (.reg [] [⟨some 2, none, .boxv (.t 0), []⟩, ⟨some 3, none, .boxv (.t 1), []⟩, ⟨some 4, none, .mv (.k (.oth .nilFunc)), []⟩])
 (.seq (.seq (.reg [] [⟨some 5, none, .ld 1 false (.t 3), []⟩, ⟨some 6, none, .bi .lss .i64 (.t 5) (.k (.int .i64 1)), []⟩])
 (.cond (.t 6) (.reg [] [⟨some 7, none, .mki 9 (.k (.str [99, 97, 110, 110, 111, 116, 32, 98, 101, 32, 108, 101, 115, 115, 32, 116, 104, 97, 110, 32, 49])), []⟩, ⟨none, none, .pan (.t 7), []⟩]) (.skip)))
 (.seq (.reg [] [⟨some 8, none, .mkfn 61 [] [(.t 2), (.t 3)], []⟩, ⟨some 4, none, .mv (.t 8), []⟩])
 (.ret)))⟩
theorem ck53 : chkFn Try.prog 53 ir53 = true := by kernel_rfl
def ir54 : AFn := ⟨8, 1, [.t 2], .seq (.reg [] [⟨some 2, none, .mv (.k (.sl .nil 1 [])), []⟩])
 (.seq (.seq (.reg [] [⟨some 3, none, .mv (.t 0), []⟩, ⟨some 4, none, .isnil .s (.t 3), []⟩])
 (.cond (.t 4) (.seq (.reg [] [⟨some 2, none, .mv (.k (.sl .nil 1 [])), []⟩])
 (.ret)) (.skip)))
 (.seq (.reg [] [⟨some 5, none, .bls 1 0 [.str []] [], []⟩, ⟨some 6, none, .mv (.t 0), []⟩, ⟨some 7, none, .app 1 16 (.t 5) (.t 6), []⟩, ⟨some 2, none, .mv (.t 7), []⟩])
 (.ret)))⟩
theorem ck54 : chkFn Try.prog 54 ir54 = true := by kernel_rfl
def ir56 : AFn := ⟨50, 1, [.t 2], .seq (.reg [] [⟨some 1, none, .boxv (.t 0), []⟩, ⟨some 2, none, .mv (.k (.int .i64 0)), []⟩])
 (.seq (.reg [] [⟨some 6, none, .fa 2 (.t 1), []⟩, ⟨some 7, none, .ld 1 false (.t 6), []⟩, ⟨some 8, none, .lens (.t 7), []⟩, ⟨some 9, none, .bi .add .i64 (.k (.int .i64 1)) (.t 8), []⟩, ⟨some 3, none, .mv (.t 9), []⟩])
 (.seq (.seq (.reg [] [⟨some 4, none, .mv (.k (.int .i64 0)), []⟩])
 (.block 0 (.loop [1, 3, 4] (.seq (.seq (.reg [] [⟨some 10, none, .mv (.t 4), []⟩, ⟨some 11, none, .fa 3 (.t 1), []⟩, ⟨some 12, none, .ld 1 false (.t 11), []⟩, ⟨some 13, none, .len (.t 12), []⟩, ⟨some 14, none, .bi .lss .i64 (.t 10) (.t 13), []⟩])
 (.cond (.t 14) (.skip) (.exit 0)))
 (.seq (.block 1 (.reg [] [⟨some 17, none, .mv (.t 3), []⟩, ⟨some 18, none, .fa 3 (.t 1), []⟩, ⟨some 19, none, .ld 1 false (.t 18), []⟩, ⟨some 20, none, .mv (.t 4), []⟩, ⟨some 21, none, .ia 5 (.t 19) (.t 20), []⟩, ⟨some 22, none, .ld 5 true (.t 21), []⟩, ⟨some 23, none, .call 56 [(.t 22)], []⟩, ⟨some 24, none, .bi .add .i64 (.t 17) (.t 23), []⟩, ⟨some 3, none, .mv (.t 24), []⟩]))
 (.reg [] [⟨some 15, none, .mv (.t 4), []⟩, ⟨some 16, none, .bi .add .i64 (.t 15) (.k (.int .i64 1)), []⟩, ⟨some 4, none, .mv (.t 16), []⟩]))))))
 (.seq (.seq (.reg [] [⟨some 5, none, .mv (.k (.int .i64 0)), []⟩])
 (.block 2 (.loop [1, 3, 5] (.seq (.seq (.reg [] [⟨some 25, none, .mv (.t 5), []⟩, ⟨some 26, none, .fa 4 (.t 1), []⟩, ⟨some 27, none, .ld 1 false (.t 26), []⟩, ⟨some 28, none, .len (.t 27), []⟩, ⟨some 29, none, .bi .lss .i64 (.t 25) (.t 28), []⟩])
 (.cond (.t 29) (.skip) (.exit 2)))
 (.seq (.block 3 (.reg [0, 1, 2, 3, 4, 5, 6, 7, 8, 9, 10, 11, 12, 13, 14, 15, 16, 17] [⟨some 32, none, .mv (.t 3), []⟩, ⟨some 33, none, .fa 4 (.t 1), []⟩, ⟨some 34, none, .ld 1 false (.t 33), []⟩, ⟨some 35, none, .mv (.t 5), []⟩, ⟨some 36, none, .ia 6 (.t 34) (.t 35), []⟩, ⟨some 37, none, .fa 0 (.t 36), []⟩, ⟨some 38, none, .ld 1 false (.t 37), []⟩, ⟨some 39, none, .lens (.t 38), []⟩, ⟨some 40, none, .bi .add .i64 (.t 32) (.t 39), []⟩, ⟨some 41, none, .fa 4 (.t 1), []⟩, ⟨some 42, none, .ld 1 false (.t 41), []⟩, ⟨some 43, none, .mv (.t 5), []⟩, ⟨some 44, none, .ia 6 (.t 42) (.t 43), []⟩, ⟨some 45, none, .fa 1 (.t 44), []⟩, ⟨some 46, none, .ld 5 true (.t 45), []⟩, ⟨some 47, none, .call 56 [(.t 46)], [2, 6]⟩, ⟨some 48, none, .bi .add .i64 (.t 40) (.t 47), []⟩, ⟨some 3, none, .mv (.t 48), []⟩]))
 (.reg [] [⟨some 30, none, .mv (.t 5), []⟩, ⟨some 31, none, .bi .add .i64 (.t 30) (.k (.int .i64 1)), []⟩, ⟨some 5, none, .mv (.t 31), []⟩]))))))
 (.seq (.reg [] [⟨some 49, none, .mv (.t 3), []⟩, ⟨some 2, none, .mv (.t 49), []⟩])
 (.ret)))))⟩
theorem ck56 : chkFn Try.prog 56 ir56 = true := by kernel_rfl
def ir57 : AFn := ⟨10, 1, [.c 2 6 true], .seq (.reg [] [⟨some 1, none, .box (.t 0), []⟩, ⟨some 2, none, .alloc [.str [], .str [], .sl .nil 6 [], .bool false, .bool false, .int .i64 0], []⟩])
 (.seq (.reg [] [⟨some 3, none, .fa 0 (.t 1), []⟩, ⟨some 4, none, .fa 2 (.t 3), []⟩, ⟨some 5, none, .ld 1 false (.t 4), []⟩, ⟨some 6, none, .call 62 [(.t 5)], []⟩, ⟨some 7, none, .fa 0 (.t 1), []⟩, ⟨some 8, none, .fa 2 (.t 7), []⟩, ⟨none, none, .st 1 (.t 8) (.t 6), []⟩])
 (.seq (.reg [] [⟨some 9, none, .ld 6 true (.t 1), []⟩, ⟨none, none, .st 6 (.t 2) (.t 9), []⟩])
 (.ret)))⟩
theorem ck57 : chkFn Try.prog 57 ir57 = true := by kernel_rfl
def ir58 : AFn := ⟨31, 2, [.t 4], .seq (.reg [] [⟨some 2, none, .boxv (.t 0), []⟩, ⟨some 3, none, .boxv (.t 1), []⟩, ⟨some 4, none, .mv (.k (.bool false)), []⟩])
 (.seq (.reg [] [⟨some 5, none, .fa 0 (.t 2), []⟩, ⟨some 6, none, .ld 1 false (.t 5), []⟩, ⟨some 7, none, .fa 0 (.t 3), []⟩, ⟨some 8, none, .ld 1 false (.t 7), []⟩, ⟨some 9, none, .bs .eql (.t 6) (.t 8), []⟩, ⟨some 10, none, .mv (.t 9), []⟩, ⟨some 11, (some (10, true)), .fa 1 (.t 2), []⟩, ⟨some 12, (some (10, true)), .ld 1 false (.t 11), []⟩, ⟨some 13, (some (10, true)), .fa 1 (.t 3), []⟩, ⟨some 14, (some (10, true)), .ld 1 false (.t 13), []⟩, ⟨some 15, (some (10, true)), .bs .eql (.t 12) (.t 14), []⟩, ⟨some 16, none, .pick (.t 10) (.t 15) (.k (.bool false)), []⟩, ⟨some 17, none, .mv (.t 16), []⟩, ⟨some 18, (some (17, true)), .fa 3 (.t 2), []⟩, ⟨some 19, (some (17, true)), .ld 1 false (.t 18), []⟩, ⟨some 20, (some (17, true)), .fa 3 (.t 3), []⟩, ⟨some 21, (some (17, true)), .ld 1 false (.t 20), []⟩, ⟨some 22, (some (17, true)), .bb false (.t 19) (.t 21), []⟩, ⟨some 23, none, .pick (.t 17) (.t 22) (.k (.bool false)), []⟩, ⟨some 24, none, .mv (.t 23), []⟩, ⟨some 25, (some (24, true)), .fa 2 (.t 2), []⟩, ⟨some 26, (some (24, true)), .ld 1 false (.t 25), []⟩, ⟨some 27, (some (24, true)), .fa 2 (.t 3), []⟩, ⟨some 28, (some (24, true)), .ld 1 false (.t 27), []⟩, ⟨some 29, (some (24, true)), .call 63 [(.t 26), (.t 28)], []⟩, ⟨some 30, none, .pick (.t 24) (.t 29) (.k (.bool false)), []⟩, ⟨some 4, none, .mv (.t 30), []⟩])
 (.ret))⟩
theorem ck58 : chkFn Try.prog 58 ir58 = true := by kernel_rfl
def ir62 : AFn := ⟨8, 1, [.t 2], .seq (.reg [] [⟨some 2, none, .mv (.k (.sl .nil 6 [])), []⟩])
 (.seq (.seq (.reg [] [⟨some 3, none, .mv (.t 0), []⟩, ⟨some 4, none, .isnil .s (.t 3), []⟩])
 (.cond (.t 4) (.seq (.reg [] [⟨some 2, none, .mv (.k (.sl .nil 6 [])), []⟩])
 (.ret)) (.skip)))
 (.seq (.reg [] [⟨some 5, none, .bls 6 0 [.str [], .int .i64 0, .int .i64 0, .str [], .sl .nil 5 [], .sl .nil 6 []] [], []⟩, ⟨some 6, none, .mv (.t 0), []⟩, ⟨some 7, none, .app 6 96 (.t 5) (.t 6), []⟩, ⟨some 2, none, .mv (.t 7), []⟩])
 (.ret)))⟩
theorem ck62 : chkFn Try.prog 62 ir62 = true := by kernel_rfl
def ir63 : AFn := ⟨42, 2, [.t 4], .seq (.reg [] [⟨some 4, none, .mv (.k (.bool false)), []⟩])
 (.seq (.seq (.reg [] [⟨some 6, none, .mv (.t 0), []⟩, ⟨some 7, none, .len (.t 6), []⟩, ⟨some 8, none, .mv (.t 1), []⟩, ⟨some 9, none, .len (.t 8), []⟩, ⟨some 10, none, .bi .neq .i64 (.t 7) (.t 9), []⟩])
 (.cond (.t 10) (.seq (.reg [] [⟨some 4, none, .mv (.k (.bool false)), []⟩])
 (.ret)) (.skip)))
 (.seq (.seq (.reg [] [⟨some 5, none, .mv (.k (.int .i64 0)), []⟩])
 (.block 0 (.loop [0, 1, 5] (.seq (.seq (.reg [] [⟨some 11, none, .mv (.t 5), []⟩, ⟨some 12, none, .mv (.t 0), []⟩, ⟨some 13, none, .len (.t 12), []⟩, ⟨some 14, none, .bi .lss .i64 (.t 11) (.t 13), []⟩])
 (.cond (.t 14) (.skip) (.exit 0)))
 (.seq (.block 1 (.seq (.reg [0, 1, 2, 3, 4, 5, 6, 7, 8, 9, 10, 11, 12, 13, 14, 15, 16, 17, 18, 19, 20, 21, 22, 23, 24] [⟨some 17, none, .mv (.t 0), []⟩, ⟨some 18, none, .mv (.t 5), []⟩, ⟨some 19, none, .ia 6 (.t 17) (.t 18), []⟩, ⟨some 20, none, .fa 0 (.t 19), []⟩, ⟨some 21, none, .ld 1 false (.t 20), []⟩, ⟨some 22, none, .mv (.t 1), []⟩, ⟨some 23, none, .mv (.t 5), []⟩, ⟨some 24, none, .ia 6 (.t 22) (.t 23), []⟩, ⟨some 25, none, .fa 0 (.t 24), []⟩, ⟨some 26, none, .ld 1 false (.t 25), []⟩, ⟨some 27, none, .bs .neq (.t 21) (.t 26), []⟩, ⟨some 28, none, .mv (.t 27), []⟩, ⟨some 29, (some (28, false)), .mv (.t 0), []⟩, ⟨some 30, (some (28, false)), .mv (.t 5), []⟩, ⟨some 31, (some (28, false)), .ia 6 (.t 29) (.t 30), []⟩, ⟨some 32, (some (28, false)), .fa 1 (.t 31), []⟩, ⟨some 33, (some (28, false)), .ld 5 true (.t 32), []⟩, ⟨some 34, (some (28, false)), .mv (.t 1), []⟩, ⟨some 35, (some (28, false)), .mv (.t 5), []⟩, ⟨some 36, (some (28, false)), .ia 6 (.t 34) (.t 35), []⟩, ⟨some 37, (some (28, false)), .fa 1 (.t 36), []⟩, ⟨some 38, (some (28, false)), .ld 5 true (.t 37), []⟩, ⟨some 39, (some (28, false)), .call 64 [(.t 33), (.t 38)], []⟩, ⟨some 40, (some (28, false)), .not (.t 39), []⟩, ⟨some 41, none, .pick (.t 28) (.k (.bool true)) (.t 40), []⟩])
 (.cond (.t 41) (.seq (.reg [] [⟨some 4, none, .mv (.k (.bool false)), []⟩])
 (.ret)) (.skip))))
 (.reg [] [⟨some 15, none, .mv (.t 5), []⟩, ⟨some 16, none, .bi .add .i64 (.t 15) (.k (.int .i64 1)), []⟩, ⟨some 5, none, .mv (.t 16), []⟩]))))))
 (.seq (.reg [] [⟨some 4, none, .mv (.k (.bool true)), []⟩])
 (.ret))))⟩
theorem ck63 : chkFn Try.prog 63 ir63 = true := by kernel_rfl
def ir64 : AFn := ⟨58, 2, [.t 4], .seq (.reg [] [⟨some 2, none, .boxv (.t 0), []⟩, ⟨some 3, none, .boxv (.t 1), []⟩, ⟨some 4, none, .mv (.k (.bool false)), []⟩])
 (.seq (.seq (.reg [] [⟨some 6, none, .fa 0 (.t 2), []⟩, ⟨some 7, none, .ld 1 false (.t 6), []⟩, ⟨some 8, none, .fa 0 (.t 3), []⟩, ⟨some 9, none, .ld 1 false (.t 8), []⟩, ⟨some 10, none, .bi .neq .i64 (.t 7) (.t 9), []⟩, ⟨some 11, none, .mv (.t 10), []⟩, ⟨some 12, (some (11, false)), .fa 1 (.t 2), []⟩, ⟨some 13, (some (11, false)), .ld 1 false (.t 12), []⟩, ⟨some 14, (some (11, false)), .fa 1 (.t 3), []⟩, ⟨some 15, (some (11, false)), .ld 1 false (.t 14), []⟩, ⟨some 16, (some (11, false)), .bi .neq .i64 (.t 13) (.t 15), []⟩, ⟨some 17, none, .pick (.t 11) (.k (.bool true)) (.t 16), []⟩, ⟨some 18, none, .mv (.t 17), []⟩, ⟨some 19, (some (18, false)), .fa 2 (.t 2), []⟩, ⟨some 20, (some (18, false)), .ld 1 false (.t 19), []⟩, ⟨some 21, (some (18, false)), .fa 2 (.t 3), []⟩, ⟨some 22, (some (18, false)), .ld 1 false (.t 21), []⟩, ⟨some 23, (some (18, false)), .bs .neq (.t 20) (.t 22), []⟩, ⟨some 24, none, .pick (.t 18) (.k (.bool true)) (.t 23), []⟩, ⟨some 25, none, .mv (.t 24), []⟩, ⟨some 26, (some (25, false)), .fa 3 (.t 2), []⟩, ⟨some 27, (some (25, false)), .ld 1 false (.t 26), []⟩, ⟨some 28, (some (25, false)), .len (.t 27), []⟩, ⟨some 29, (some (25, false)), .fa 3 (.t 3), []⟩, ⟨some 30, (some (25, false)), .ld 1 false (.t 29), []⟩, ⟨some 31, (some (25, false)), .len (.t 30), []⟩, ⟨some 32, (some (25, false)), .bi .neq .i64 (.t 28) (.t 31), []⟩, ⟨some 33, none, .pick (.t 25) (.k (.bool true)) (.t 32), []⟩])
 (.cond (.t 33) (.seq (.reg [] [⟨some 4, none, .mv (.k (.bool false)), []⟩])
 (.ret)) (.skip)))
 (.seq (.seq (.reg [] [⟨some 5, none, .mv (.k (.int .i64 0)), []⟩])
 (.block 0 (.loop [2, 3, 5] (.seq (.seq (.reg [] [⟨some 34, none, .mv (.t 5), []⟩, ⟨some 35, none, .fa 3 (.t 2), []⟩, ⟨some 36, none, .ld 1 false (.t 35), []⟩, ⟨some 37, none, .len (.t 36), []⟩, ⟨some 38, none, .bi .lss .i64 (.t 34) (.t 37), []⟩])
 (.cond (.t 38) (.skip) (.exit 0)))
 (.seq (.block 1 (.seq (.reg [0, 1, 2, 3, 4, 5, 6, 7, 8, 9, 10, 11] [⟨some 41, none, .fa 3 (.t 2), []⟩, ⟨some 42, none, .ld 1 false (.t 41), []⟩, ⟨some 43, none, .mv (.t 5), []⟩, ⟨some 44, none, .ia 5 (.t 42) (.t 43), []⟩, ⟨some 45, none, .ld 5 true (.t 44), []⟩, ⟨some 46, none, .fa 3 (.t 3), []⟩, ⟨some 47, none, .ld 1 false (.t 46), []⟩, ⟨some 48, none, .mv (.t 5), []⟩, ⟨some 49, none, .ia 5 (.t 47) (.t 48), []⟩, ⟨some 50, none, .ld 5 true (.t 49), []⟩, ⟨some 51, none, .call 64 [(.t 45), (.t 50)], []⟩, ⟨some 52, none, .not (.t 51), []⟩])
 (.cond (.t 52) (.seq (.reg [] [⟨some 4, none, .mv (.k (.bool false)), []⟩])
 (.ret)) (.skip))))
 (.reg [] [⟨some 39, none, .mv (.t 5), []⟩, ⟨some 40, none, .bi .add .i64 (.t 39) (.k (.int .i64 1)), []⟩, ⟨some 5, none, .mv (.t 40), []⟩]))))))
 (.seq (.reg [] [⟨some 53, none, .fa 4 (.t 2), []⟩, ⟨some 54, none, .ld 1 false (.t 53), []⟩, ⟨some 55, none, .fa 4 (.t 3), []⟩, ⟨some 56, none, .ld 1 false (.t 55), []⟩, ⟨some 57, none, .call 63 [(.t 54), (.t 56)], []⟩, ⟨some 4, none, .mv (.t 57), []⟩])
 (.ret))))⟩
theorem ck64 : chkFn Try.prog 64 ir64 = true := by kernel_rfl
end Go.Proofs.Ythkpgjnibolnhaa
namespace Go.Proofs.Ythkpgjnibolnhaa
open Go.Ab
mutual
inductive Val where
  | mk (k n : Int) (s : List UInt8) (l : List Val) (m : List Mem)
inductive Mem where
  | mk (name : List UInt8) (v : Val)
end
mutual
def cV : Val → List AV
  | .mk k n s l m => [.int .i64 k, .int .i64 n, .str s, .sl .no 5 (cVs l), .sl .no 6 (cMs m)]
def cVs : List Val → List (List AV)
  | [] => []
  | v :: r => cV v :: cVs r
def cM : Mem → List AV
  | .mk s v => .str s :: cV v
def cMs : List Mem → List (List AV)
  | [] => []
  | x :: r => cM x :: cMs r
end
theorem cVs_map : ∀ l, cVs l = l.map cV
  | [] => rfl
  | v :: r => by rw [cVs, cVs_map r]; rfl
theorem cMs_map : ∀ l, cMs l = l.map cM
  | [] => rfl
  | v :: r => by rw [cMs, cMs_map r]; rfl
theorem cVs_len (l : List Val) : (cVs l).length = l.length := by rw [cVs_map]; simp
theorem cMs_len (l : List Mem) : (cMs l).length = l.length := by rw [cMs_map]; simp
theorem cVs_get {l a : List Val} {x : Val} {b : List Val} (h : l = a ++ x :: b) : (cVs l).getD a.length [] = cV x := by rw [cVs_map, getD_mid' h]
theorem cMs_get {l a : List Mem} {x : Mem} {b : List Mem} (h : l = a ++ x :: b) : (cMs l).getD a.length [] = cM x := by rw [cMs_map, getD_mid' h]
theorem cV_mk (k n : Int) (s : List UInt8) (l : List Val) (m : List Mem) : cV (.mk k n s l m) = [.int .i64 k, .int .i64 n, .str s, .sl .no 5 (cVs l), .sl .no 6 (cMs m)] := rfl
theorem cM_mk (s : List UInt8) (v : Val) : cM (.mk s v) = .str s :: cV v := rfl
theorem cM_strip (v : Mem) : (cM v).map AV.strip1 = cM v := by cases v with | mk s v => cases v; rfl
theorem cMs_strip (l : List Mem) : (cMs l).map (·.map AV.strip1) = cMs l := by
  rw [cMs_map, List.map_map]; exact List.map_congr_left fun v _ => cM_strip v
mutual
theorem Val.ind {P : Val → Prop} (h : ∀ k n s l m, (∀ v ∈ l, P v) → (∀ s v, Mem.mk s v ∈ m → P v) → P (.mk k n s l m)) : ∀ v, P v
  | .mk k n s l m => h k n s l m (Val.indL h l) (fun s v hm => Val.indM h m s v hm)
theorem Val.indL {P : Val → Prop} (h : ∀ k n s l m, (∀ v ∈ l, P v) → (∀ s v, Mem.mk s v ∈ m → P v) → P (.mk k n s l m)) : ∀ l : List Val, ∀ v ∈ l, P v
  | [], _, hv => by cases hv
  | x :: r, v, hv => (List.mem_cons.1 hv).elim (fun e => e ▸ Val.ind h x) (Val.indL h r v)
theorem Val.ind1 {P : Val → Prop} (h : ∀ k n s l m, (∀ v ∈ l, P v) → (∀ s v, Mem.mk s v ∈ m → P v) → P (.mk k n s l m)) : ∀ m : Mem, ∀ s v, m = .mk s v → P v
  | .mk s v, s', v', e => by cases e; exact Val.ind h v
theorem Val.indM {P : Val → Prop} (h : ∀ k n s l m, (∀ v ∈ l, P v) → (∀ s v, Mem.mk s v ∈ m → P v) → P (.mk k n s l m)) : ∀ l : List Mem, ∀ s v, Mem.mk s v ∈ l → P v
  | [], _, _, hv => by cases hv
  | x :: r, s, v, hv => (List.mem_cons.1 hv).elim (fun e => Val.ind1 h x s v e.symm) (Val.indM h r s v)
end
theorem cV_len (v : Val) : (cV v).length = 5 := by cases v; rfl
theorem cM_len (x : Mem) : (cM x).length = 6 := by cases x with | mk s v => cases v; rfl
theorem cV_take (v : Val) : (cV v).take 5 = cV v := by cases v; rfl
theorem cM_take (x : Mem) : (cM x).take 6 = cM x := by cases x with | mk s v => cases v; rfl
theorem cV_splice (a b c d e : AV) (v : Val) : splice [a, b, c, d, e] 0 (cV v) = cV v := by cases v; rfl
theorem cM_splice (a b c d e f : AV) (x : Mem) : splice [a, b, c, d, e, f] 0 (cM x) = cM x := by cases x with | mk s v => cases v; rfl
mutual
def bV : Val → Nat
  | .mk _ _ s l m => 1 + s.length + bVs l + bMs m
def bVs : List Val → Nat
  | [] => 0
  | v :: r => bV v + bVs r
def bM : Mem → Nat
  | .mk s v => s.length + bV v
def bMs : List Mem → Nat
  | [] => 0
  | x :: r => bM x + bMs r
end
theorem bV_pos (v : Val) : 1 ≤ bV v := by cases v; simp only [bV]; omega
theorem bM_pos (v : Mem) : 1 ≤ bM v := by cases v with | mk s v => have := bV_pos v; simp only [bM]; omega
theorem bVs_len : ∀ l, l.length ≤ bVs l
  | [] => by simp
  | v :: r => by have := bVs_len r; have := bV_pos v; simp only [bVs, List.length_cons]; omega
theorem bMs_len : ∀ l, l.length ≤ bMs l
  | [] => by simp
  | v :: r => by have := bMs_len r; have := bM_pos v; simp only [bMs, List.length_cons]; omega
theorem bVs_mid (a : List Val) (x : Val) (b : List Val) : bVs (a ++ x :: b) = bVs a + bV x + bVs b := by
  induction a with
  | nil => simp [bVs]
  | cons y a ih => simp only [List.cons_append, bVs, ih]; omega
theorem bMs_mid (a : List Mem) (x : Mem) (b : List Mem) : bMs (a ++ x :: b) = bMs a + bM x + bMs b := by
  induction a with
  | nil => simp [bMs]
  | cons y a ih => simp only [List.cons_append, bMs, ih]; omega
abbrev Lim : Nat := 1099511627776
theorem sizeC : ∀ v, bV v ≤ Lim → Pure Try.prog 56 [.agg (cV v)] (.int .i64 (bV v)) := by
  refine Val.ind fun k n s l m ihl ihm hb => ?_
  refine Pure.go ir56 ck56 (Nat.le_refl _) fun KP Q hQ => ?_
  have hl := cVs_len l
  have hm := cMs_len m
  have hll := bVs_len l
  have hml := bMs_len m
  have hb' : 1 + s.length + bVs l + bMs m ≤ Lim := hb
  simp only [Lim] at hb'
  simp (disch := first | omega | assumption) only [ir56, cV_mk, wrap64, go_sem, ↓reduceIte]
  refine goL_range l 4 (fun n : Int => [(3, .int .i64 n)]) (fun done rest n H => n + bVs rest = 1 + s.length + bVs l ∧ H = Heap.emp) (1 + s.length) (by simp (disch := first | omega | assumption) only [go_sem, ↓reduceIte]) ⟨by omega, rfl⟩ ?_ ?_
  · rintro n H J ⟨hn, rfl⟩ hlt
    simp only [bVs] at hn
    simp (disch := first | omega | assumption) only [hl, hlt, go_sem, ↓reduceIte]
    refine goL_range m 5 (fun n : Int => [(3, .int .i64 n)]) (fun done rest n H => n + bMs rest = 1 + s.length + bVs l + bMs m ∧ H = Heap.emp) n (by simp (disch := first | omega | assumption) only [go_sem, ↓reduceIte]) ⟨by omega, rfl⟩ ?_ ?_
    · rintro n H J ⟨hn, rfl⟩ hlt
      simp only [bMs] at hn
      simp (disch := first | omega | assumption) only [hm, hlt, go_sem, ↓reduceIte]
      have : n = ((bV (.mk k n s l m) : Nat) : Int) := by simp only [bV]; omega
      exact hQ _ _ _ _ nofun rfl (by simp [tupOf, envOf, AV.strip, AV.strip1, bV, this])
    · rintro done x rest n H J hd hlt _ ⟨hn, rfl⟩ hJ
      have hg := cMs_get hd
      have hbm := bMs_mid done x rest
      rw [← hd] at hbm
      cases x with
      | mk t v =>
      simp only [bMs, bM] at hn hbm
      simp (disch := first | omega | assumption) only [cV_len, cV_take, cV_splice, cM_len, cM_take, cM_splice, cM_mk, hm, hlt, hg, wrap64, go_sem, ↓reduceIte]
      refine goK_pure (ihm t v (by rw [hd]; simp) (by simp only [Lim]; omega)) ?_
      simp (disch := first | omega | assumption) only [hl, hm, hlt, hg, cM_mk, wrap64, go_sem, ↓reduceIte]
      refine goJ (hJ (n + t.length + bV v) Heap.emp ⟨by omega, rfl⟩) (by simp (disch := first | omega | assumption) only [go_sem, ↓reduceIte])
  · rintro done x rest n H J hd hlt _ ⟨hn, rfl⟩ hJ
    have hg := cVs_get hd
    have hbm := bVs_mid done x rest
    rw [← hd] at hbm
    simp only [bVs] at hn
    simp (disch := first | omega | assumption) only [cV_len, cV_take, cV_splice, cM_len, cM_take, cM_splice, cM_mk, hl, hlt, hg, go_sem, ↓reduceIte]
    refine goK_pure (ihl x (by rw [hd]; simp) (by simp only [Lim]; omega)) ?_
    simp (disch := first | omega | assumption) only [wrap64, go_sem, ↓reduceIte]
    refine goJ (hJ (n + bV x) Heap.emp ⟨by omega, rfl⟩) (by simp (disch := first | omega | assumption) only [go_sem, ↓reduceIte])
noncomputable def eqd {α : Type} (a b : α) : Bool := @decide (a = b) (Classical.propDecidable _)
theorem eqd_true {α : Type} {a b : α} (h : a = b) : eqd a b = true := by simp [eqd, h]
theorem eqd_false {α : Type} {a b : α} (h : a ≠ b) : eqd a b = false := by simp [eqd, h]
def cT (l : List (List UInt8)) : List (List AV) := l.map fun k => [.str k]
theorem cT_len (l : List (List UInt8)) : (cT l).length = l.length := by simp [cT]
theorem cT_strip (l : List (List UInt8)) : (cT l).map (·.map AV.strip1) = cT l := by simp [cT, AV.strip1]
theorem cT_get {l a : List (List UInt8)} {x : List UInt8} {b : List (List UInt8)} (h : l = a ++ x :: b) : (cT l).getD a.length [] = [.str x] := getD_mid' h
theorem two_mid {α : Type} {a b done rest : List α} {x : α} (h : a = done ++ x :: rest) (hl : a.length = b.length) (hp : b.take done.length = done) : ∃ y r, b = done ++ y :: r := by
  have h1 : done.length < b.length := by rw [← hl, h]; simp
  refine ⟨b[done.length], b.drop (done.length + 1), ?_⟩
  conv => lhs; rw [← List.take_append_drop done.length b, hp, List.drop_eq_getElem_cons h1]
theorem two_step {α : Type} {b done r : List α} {y : α} (h : b = done ++ y :: r) : b.take (done ++ [y]).length = done ++ [y] := by
  subst h
  have e : done ++ y :: r = (done ++ [y]) ++ r := by simp
  rw [e, List.take_left']; rfl
theorem two_end {α : Type} {a b : List α} (hl : a.length = b.length) (hp : b.take a.length = a) : a = b := by
  rw [hl, List.take_length] at hp; exact hp.symm
theorem two_ne {α : Type} {a b done rest r : List α} {x y : α} (h : a = done ++ x :: rest) (h' : b = done ++ y :: r) (hxy : x ≠ y) : a ≠ b := fun e => by
  rw [h, h'] at e
  exact hxy (List.cons.inj (List.append_cancel_left e)).1
end Go.Proofs.Ythkpgjnibolnhaa
namespace Go.Proofs.Ythkpgjnibolnhaa
open Go.Ab
def it61 : AIt := { N := 31, b0 := 0, b1 := 1, pre := (.reg [] [⟨some 4, none, .mv (.k (.int .i64 0)), []⟩]), test := (.seq (.reg [] [⟨some 6, none, .mv (.t 4), []⟩, ⟨some 7, none, .ld 1 false (.t 1), []⟩, ⟨some 8, none, .len (.t 7), []⟩, ⟨some 9, none, .bi .lss .i64 (.t 6) (.t 8), []⟩])
 (.cond (.t 9) (.skip) (.exit 0))), mid := (.reg [0, 1, 2, 3, 4, 5, 6] [⟨some 13, none, .ld 1 false (.t 2), []⟩, ⟨some 14, none, .ld 1 false (.t 1), []⟩, ⟨some 15, none, .mv (.t 4), []⟩, ⟨some 16, none, .sll 1 (.t 14) (some (.t 15)) none none, []⟩, ⟨some 17, none, .len (.t 16), []⟩, ⟨some 18, none, .mm false (.t 13) [(.t 17)], []⟩, ⟨some 5, none, .mv (.t 18), []⟩]), items := [⟨some 19, none, .mv (.t 0), []⟩, ⟨some 20, none, .ld 1 false (.t 1), []⟩, ⟨some 21, none, .mv (.t 4), []⟩, ⟨some 22, none, .mv (.t 4), []⟩, ⟨some 23, none, .mv (.t 5), []⟩, ⟨some 24, none, .bi .add .i64 (.t 22) (.t 23), []⟩, ⟨some 25, none, .mv (.t 4), []⟩, ⟨some 26, none, .mv (.t 5), []⟩, ⟨some 27, none, .bi .add .i64 (.t 25) (.t 26), []⟩, ⟨some 28, none, .sll 1 (.t 20) (some (.t 21)) (some (.t 24)) (some (.t 27)), []⟩], g := 19, x := 28, d := 29, it2 := ⟨some 30, none, .not (.t 29), []⟩, c := 30, post := (.reg [] [⟨some 10, none, .mv (.t 4), []⟩, ⟨some 11, none, .ld 1 false (.t 2), []⟩, ⟨some 12, none, .bi .add .i64 (.t 10) (.t 11), []⟩, ⟨some 4, none, .mv (.t 12), []⟩]) }
theorem ckI61 : chkIt Try.prog 61 it61 = true := by kernel_rfl
end Go.Proofs.Ythkpgjnibolnhaa
namespace Go.Proofs.Ythkpgjnibolnhaa
open Go.Ab
structure Need where
  t : List UInt8
  k : List UInt8
  deriving DecidableEq
structure Batch where
  table : List UInt8
  keys : List (List UInt8)
  deriving DecidableEq
def cN (n : Need) : List AV := [.str n.t, .str n.k]
def cNs (l : List Need) : List (List AV) := l.map cN
def cB (b : Batch) : List AV := [.str b.table, .sl .no 1 (cT b.keys)]
def cBs (l : List Batch) : List (List AV) := l.map cB
theorem cNs_len (l : List Need) : (cNs l).length = l.length := by simp [cNs]
theorem cBs_len (l : List Batch) : (cBs l).length = l.length := by simp [cBs]
theorem cNs_get {l a : List Need} {x : Need} {b : List Need} (h : l = a ++ x :: b) : (cNs l).getD a.length [] = cN x := by rw [cNs, getD_mid' h]
theorem cNs_app (l : List Need) (n : Need) : cNs l ++ [[.str n.t, .str n.k]] = cNs (l ++ [n]) := by simp [cNs, cN]
theorem cT_app (l : List (List UInt8)) (n : List UInt8) : cT l ++ [[.str n]] = cT (l ++ [n]) := by simp [cT]
def dd {α : Type} [DecidableEq α] (out : List α) : List α → List α
  | [] => out
  | n :: r => if n ∈ out then dd out r else dd (out ++ [n]) r
theorem dd_len {α : Type} [DecidableEq α] : ∀ (l out : List α), (dd out l).length ≤ out.length + l.length
  | [], out => by simp [dd]
  | n :: r, out => by
    simp only [dd, List.length_cons]
    split
    · have := dd_len r out; omega
    · have := dd_len r (out ++ [n]); simp only [List.length_append, List.length_cons, List.length_nil] at this; omega
abbrev Big : Nat := 4294967296
theorem cloneT (l : List (List UInt8)) (hl : l.length ≤ Big) : Pure Try.prog 54 [.sl .no 1 (cT l)] (.sl .no 1 (cT l)) := by
  refine Pure.go ir54 ck54 (Nat.le_refl _) fun KP Q hQ => ?_
  simp only [Big] at hl
  have hll := cT_len l
  simp (disch := first | omega | assumption) only [ir54, go_sem, ↓reduceIte]
  refine goB_u (fun h => ?_) ?_
  · simp (disch := first | omega | assumption) only [go_sem, ↓reduceIte]
    exact hQ _ _ _ _ nofun rfl (by simp [tupOf, envOf, AV.strip, AV.strip1, h])
  · simp (disch := first | omega | assumption) only [go_sem, ↓reduceIte]
    refine goP_own (Owned.full _ _ _) ?_ ?_ fun o' H' h1 h2 h3 => ?_
    · simp [hll]; omega
    · simp [hll, maxLen]; omega
    · simp (disch := first | omega | assumption) only [go_sem, ↓reduceIte]
      exact hQ _ _ _ _ nofun rfl (by simp [tupOf, envOf, AV.strip, AV.strip1, cT_strip])
theorem Owned.set {H : Heap} {o : Own} {n sz b : Nat} {kt kt' : KT} {es es' : List (AV × AV)} (h : Owned H o n sz) (hb : H b = some (.map kt es)) : Owned (H.upd b (.map kt' es')) o n sz := by
  cases o with
  | tip c d =>
    have hc : H c = some (.tip (d + n) sz) := h
    have hne : c ≠ b := fun e => by subst e; rw [hb] at hc; cases hc
    show (H.upd b _) c = _
    simp [Heap.upd, hne, hc]
  | no => exact h
  | nil => exact h
  | full => exact h
theorem Owned.tip_ne {H : Heap} {b c d n sz : Nat} {kt : KT} {es : List (AV × AV)} (h : Owned H (.tip b d) n sz) (hb : H c = some (.map kt es)) : b ≠ c := fun e => by
  subst e
  have : H b = some (.tip (d + n) sz) := h
  rw [hb] at this; cases this
def mapN (l : List Need) : List (AV × AV) := l.map fun n => (.agg (cN n), .bool true)
theorem keq_need (a b : Need) : (AV.agg (cN a)).keq (.agg (cN b)) = decide (a = b) := by
  cases a with | mk t k =>
  cases b with | mk t' k' =>
  simp only [AV.keq, cN, keqs, AV.keq1, Bool.and_true, Need.mk.injEq]
  rw [sbeq, sbeq]; simp
theorem mget_need (n : Need) : ∀ l, mget (mapN l) (.agg (cN n)) = if n ∈ l then some (.bool true) else none
  | [] => rfl
  | a :: r => by
    simp only [mapN, List.map_cons, mget, keq_need, decide_eq_true_eq, List.mem_cons]
    have := mget_need n r
    simp only [mapN] at this
    by_cases h : n = a
    · simp [h]
    · simp [h, this]
theorem mset_need (n : Need) : ∀ l, n ∉ l → mset (mapN l) (.agg (cN n)) (.bool true) = mapN (l ++ [n])
  | [], _ => rfl
  | a :: r, h => by
    simp only [List.mem_cons, not_or] at h
    have := mset_need n r h.2
    simp only [mapN] at this ⊢
    simp only [List.map_cons, mset, keq_need, h.1, decide_false, Bool.false_eq_true, if_false, this, List.cons_append]
theorem onceP (l : List Need) (hl : l.length ≤ Big) : Pure Try.prog 52 [.sl .no 2 (cNs l)] (.sl .no 2 (cNs (dd [] l))) := by
  refine Pure.go ir52 ck52 (Nat.le_refl _) fun KP Q hQ => ?_
  simp only [Big] at hl
  have hll := cNs_len l
  simp (disch := first | omega | assumption) only [ir52, go_sem, ↓reduceIte]
  refine goA_intro fun bm hbm => ?_
  simp (disch := first | omega | assumption) only [hll, go_sem, ↓reduceIte]
  refine goL_range l 10 (fun s : Own × List Need => [(4, .sl s.1 2 (cNs s.2))]) (fun done rest s H => dd s.2 rest = dd [] l ∧ s.2.length ≤ done.length ∧ H bm = some (.map (.agg [.s, .s]) (mapN s.2)) ∧ Owned H s.1 s.2.length 2) (.nil, []) (by simp (disch := first | omega | assumption) only [go_sem, ↓reduceIte] <;> simp [cNs]) ⟨rfl, by simp, by rw [upd_same]; rfl, rfl⟩ ?_ ?_
  · rintro ⟨o, out⟩ H J ⟨hd, hle, hm, ho⟩ hlt
    simp only [dd] at hd
    subst hd
    simp (disch := first | omega | assumption) only [hll, hlt, go_sem, ↓reduceIte]
    exact hQ _ _ _ _ nofun rfl (by simp [tupOf, envOf, AV.strip, AV.strip1])
  · rintro done x rest ⟨o, out⟩ H J hl2 hlt hlt' ⟨hd, hle, hm, ho⟩ hJ
    have hg := cNs_get hl2
    obtain ⟨xt, xk⟩ := x
    have hfit : KT.fits (.agg [.s, .s]) (.agg [.str xt, .str xk]) = true := rfl
    simp only at hle hm ho
    have hle2 := cNs_len out
    have hmg := mget_need ⟨xt, xk⟩ out
    simp only [cN] at hmg
    simp only [dd] at hd
    simp (disch := first | omega | assumption) only [hll, hlt, hg, cN, go_sem, ↓reduceIte]
    refine goA_intro fun b1 hb1 => ?_
    have hne := ne_of_none hb1 hm
    by_cases hx : (⟨xt, xk⟩ : Need) ∈ out
    · simp (disch := first | omega | assumption) only [hm, hmg, hx, hne, Ne.symm hne, lkres, Option.getD_some, if_true, wrap64, hfit, go_sem, ↓reduceIte]
      simp only [hx, if_true] at hd
      refine goJ (hJ (o, out) _ ⟨hd, by simp; omega, ?_, ho.upd hb1⟩) (by simp (disch := first | omega | assumption) only [go_sem, ↓reduceIte])
      rw [upd_ne (Ne.symm hne)]; exact hm
    · simp (disch := first | omega | assumption) only [hm, hmg, hx, hne, Ne.symm hne, lkres, Option.getD_none, if_false, wrap64, hfit, go_sem, ↓reduceIte]
      simp only [hx, if_false] at hd
      have hms := mset_need ⟨xt, xk⟩ out hx
      simp only [cN] at hms
      rw [hms]
      have how : Owned ((H.upd b1 (.cells [.str xt, .str xk])).upd bm (.map (.agg [.s, .s]) (mapN (out ++ [⟨xt, xk⟩])))) o out.length 2 := Owned.set (Owned.upd ho hb1) (by rw [upd_ne (Ne.symm hne)]; exact hm)
      refine goP_own (by rw [hle2]; exact how) ?_ ?_ fun o' H' h1 h2 h3 => ?_
      · simp only [hle2, List.length_cons, List.length_nil]; omega
      · simp only [hle2, List.length_cons, List.length_nil, maxLen]; omega
      simp (disch := first | omega | assumption) only [wrap64, AV.strip1, go_sem, ↓reduceIte]
      rw [hle2] at h1
      have happ := cNs_app out ⟨xt, xk⟩
      simp only at happ
      rw [happ]
      refine goJ (hJ (o', out ++ [⟨xt, xk⟩]) _ ⟨hd, by simp; omega, h2 _ _ (by rw [upd_same]) (fun d e => ?_), by simpa using h1⟩) (by simp (disch := first | omega | assumption) only [go_sem, ↓reduceIte])
      subst e
      exact Owned.tip_ne ho hm rfl
def chunks (n : Nat) (xs : List (List UInt8)) : List (List (List UInt8)) := (List.range ((xs.length + n - 1) / n)).map fun k => (xs.drop (k * n)).take n
theorem chunks_len (n : Nat) (xs : List (List UInt8)) : (chunks n xs).length = (xs.length + n - 1) / n := by simp [chunks]
def cX (n : Nat) (xs : List (List UInt8)) : List (List AV) := (chunks n xs).map fun c => [.sl .full 1 (cT c)]
theorem div_lt {n L k : Nat} (hn : 0 < n) (h : k < (L + n - 1) / n) : k * n < L := by
  have h1 : (k + 1) * n ≤ (L + n - 1) / n * n := Nat.mul_le_mul_right n h
  have h2 := Nat.div_mul_le_self (L + n - 1) n
  have h3 : (k + 1) * n = k * n + n := Nat.succ_mul k n
  omega
theorem div_ge {n L k : Nat} (hn : 0 < n) (h : k = (L + n - 1) / n) : L ≤ k * n := by
  have h1 := Nat.lt_div_mul_add (a := L + n - 1) hn
  rw [← h] at h1
  omega
theorem chunk1S (n : Nat) (hn : 0 < n) (hn2 : n ≤ 64) (xs : List (List UInt8)) (hl : xs.length ≤ Big) : SeqC Try.prog 61 [.view [.sl .no 1 (cT xs)], .view [.int .i64 n]] (cX n xs) := by
  simp only [Big] at hl
  refine SeqC.of_it it61 ckI61 (by show 3 ≤ 31; decide) fun y => ⟨[0, 1, 2, 4], fun k ρ => k ≤ (cX n xs).length ∧ ρ = envOf [(0, .oth y), (1, .view [.sl .no 1 (cT xs)]), (2, .view [.int .i64 n]), (4, .int .i64 ((k : Int) * n))], ?_⟩
  have hll := cT_len xs
  have hXl : (cX n xs).length = (xs.length + n - 1) / n := by simp [cX, chunks_len]
  refine ItOk.of (fun x hx => ?_) (fun k ρ h => h.1) (fun Q hQ => ?_) (fun ρ Q h hQ => ?_) (fun k x ρ Q Q1 Q2 Q3 Q4 hx h hq hq1 hq2 hq3 hq4 => ?_)
  · obtain ⟨c, _, rfl⟩ := List.mem_map.1 hx; exact ⟨_, rfl⟩
  · simp (disch := first | omega | assumption) only [it61, go_sem, ↓reduceIte]
    refine hQ _ ⟨Nat.zero_le _, ?_⟩
    simp (disch := first | omega | assumption) only [Int.natCast_zero, Int.zero_mul, go_sem, ↓reduceIte]
  · obtain ⟨_, rfl⟩ := h
    have h1 := div_ge hn hXl
    have hnl : ¬ (((cX n xs).length : Int) * n < xs.length) := by
      have : ((((cX n xs).length * n : Nat)) : Int) = ((cX n xs).length : Int) * n := by simp
      rw [← this]; omega
    simp (disch := first | omega | assumption) only [it61, hll, hnl, go_sem, ↓reduceIte]
    exact hQ _
  · obtain ⟨_, rfl⟩ := h
    obtain ⟨hk, hx⟩ := List.getElem?_eq_some_iff.1 hx
    have h1 := div_lt hn (by rw [← hXl]; exact hk)
    have hkn : ((((k * n : Nat)) : Int)) = (k : Int) * n := by simp
    have hxe : x = .sl .full 1 (cT ((xs.drop (k * n)).take n)) := by
      simp only [cX, chunks, List.getElem_map, List.getElem_range, List.cons.injEq, and_true] at hx
      exact hx.symm
    have hlt : ((k : Int) * n < xs.length) := by rw [← hkn]; omega
    have hge : (0 : Int) ≤ (k : Int) * n := by rw [← hkn]; omega
    have htn : ((k : Int) * n).toNat = k * n := by rw [← hkn]; exact Int.toNat_natCast _
    simp (disch := first | omega | assumption) only [it61, hll, hlt, go_sem, ↓reduceIte]
    refine hq _ ?_
    have hdl : ((cT xs).drop (k * n)).length = xs.length - k * n := by simp [hll]
    have hle : (k : Int) * n ≤ xs.length := by omega
    obtain ⟨m, hm, hmm⟩ : ∃ m : Nat, m = min n (xs.length - k * n) ∧ mm2 false (n : Int) ((xs.length - k * n : Nat) : Int) = m := ⟨_, rfl, by simp only [mm2, Bool.false_eq_true, if_false]; split <;> omega⟩
    have htk : (cT xs).take xs.length = cT xs := by rw [← hll]; exact List.take_length
    simp (disch := first | omega | assumption) only [it61, hll, hge, hle, htn, htk, hdl, hmm, Option.isNone_none, Own.cut, steps, st2, pev, rev, oev, optr, ibin, sbin, ishf, bound, mmAll, mk, mkArgs, AV.cells, AV.boxable, AV.one, AV.strip1, fillA, fillS, Nat.reduceEqDiff, reduceCtorEq, ↓reduceIte, Nat.reduceAdd, Int.reduceNeg, Nat.reduceLeDiff, Int.reduceToNat, Int.reduceEq, Int.reduceLT, Int.reduceLE, Int.reduceAdd]
    refine hq1 _ ?_
    have ha : (k : Int) * n ≤ (k : Int) * n + m := by omega
    have hb : (k : Int) * n + m ≤ xs.length := by omega
    have hc : ((k : Int) * n + m).toNat = k * n + m := by omega
    simp (disch := first | omega | assumption) only [it61, hll, hge, hle, htn, ha, hb, hc, wrap64, go_sem, ↓reduceIte]
    refine hq2 _ ?_ ?_ ?_
    · simp (disch := first | omega | assumption) only [it61, go_sem, ↓reduceIte]
    · simp (disch := first | omega | assumption) only [it61, go_sem, ↓reduceIte]
      rw [hxe]
      congr 1
      simp only [cT, ← List.map_take, ← List.map_drop, List.drop_take, Nat.add_sub_cancel_left]
      congr 1
      rw [hm]
      rcases Nat.le_total n (xs.length - k * n) with h2 | h2
      · rw [Nat.min_eq_left h2]
      · rw [Nat.min_eq_right h2, List.take_of_length_le (by simp), List.take_of_length_le (by simpa using h2)]
    simp (disch := first | omega | assumption) only [it61, go_sem, ↓reduceIte]
    refine hq3 _ ?_ ?_
    · simp (disch := first | omega | assumption) only [it61, go_sem, ↓reduceIte]
    simp (disch := first | omega | assumption) only [it61, wrap64, go_sem, ↓reduceIte]
    refine hq4 _ ⟨hk, ?_⟩
    simp (disch := first | omega | assumption) only [go_sem, ↓reduceIte]
    simp [Int.add_mul]
theorem chunkP (n : Nat) (hn : 0 < n) (xs : List (List UInt8)) : Pure Try.prog 53 [.sl .no 1 (cT xs), .int .i64 n] (.clo 61 [] [.view [.sl .no 1 (cT xs)], .view [.int .i64 n]]) := by
  refine Pure.go ir53 ck53 (Nat.le_refl _) fun KP Q hQ => ?_
  have h1 : ¬ ((n : Int) < 1) := by omega
  simp (disch := first | omega | assumption) only [ir53, h1, go_sem, ↓reduceIte]
  exact hQ _ _ _ _ nofun rfl (by simp [tupOf, envOf, AV.strip, AV.strip1])
end Go.Proofs.Ythkpgjnibolnhaa
namespace Go.Proofs.Ythkpgjnibolnhaa
open Go.Ab
def keysOf (t : List UInt8) (l : List Need) : List (List UInt8) := (l.filter fun n => decide (n.t = t)).map (·.k)
def clampS (n : Int) : Nat := (min (max n 1) 64).toNat
def planP (s : Nat) (l : List Need) : List Batch := (dd [] ((dd [] l).map (·.t))).flatMap fun t => (chunks s (keysOf t (dd [] l))).map fun c => ⟨t, c⟩
theorem keysOf_app (t : List UInt8) (l : List Need) (x : Need) : keysOf t (l ++ [x]) = keysOf t l ++ if x.t = t then [x.k] else [] := by
  simp only [keysOf, List.filter_append, List.map_append, List.filter_cons, List.filter_nil, decide_eq_true_eq]
  split <;> rfl
theorem keysOf_len (t : List UInt8) (l : List Need) : (keysOf t l).length ≤ l.length := by
  simp only [keysOf, List.length_map]; exact List.length_filter_le _ _
theorem keysOf_nil (t : List UInt8) (l : List Need) (h : t ∉ l.map (·.t)) : keysOf t l = [] := by
  simp only [keysOf, List.map_eq_nil_iff, List.filter_eq_nil_iff, decide_eq_true_eq]
  intro n hn e
  exact h (List.mem_map.2 ⟨n, hn, e⟩)
theorem dd_mem {α : Type} [DecidableEq α] (x : α) : ∀ (l out : List α), x ∈ dd out l ↔ x ∈ out ∨ x ∈ l
  | [], out => by simp [dd]
  | n :: r, out => by
    simp only [dd]
    split
    · rename_i h
      rw [dd_mem x r out]
      simp only [List.mem_cons]
      constructor
      · rintro (h1 | h1) <;> simp [h1]
      · rintro (h1 | rfl | h1)
        · exact .inl h1
        · exact .inl h
        · exact .inr h1
    · rw [dd_mem x r]; simp [or_assoc]
theorem dd_app {α : Type} [DecidableEq α] : ∀ (l out : List α) (x : α), dd out (l ++ [x]) = if x ∈ dd out l then dd out l else dd out l ++ [x]
  | [], out, x => by simp only [List.nil_append, dd]; by_cases h : x ∈ out <;> simp [h]
  | n :: r, out, x => by
    simp only [List.cons_append, dd]
    split
    · exact dd_app r out x
    · exact dd_app r _ x
def tipOf : Own → Option Nat
  | .tip b _ => some b
  | _ => none
structure Sep (H : Heap) (l : List (Own × Nat × Nat)) : Prop where
  own : ∀ x ∈ l, Owned H x.1 x.2.1 x.2.2
  nd : (l.filterMap fun x => tipOf x.1).Nodup
theorem tipOf_some {o : Own} {b : Nat} (h : tipOf o = some b) : ∃ d, o = .tip b d := by
  cases o <;> simp [tipOf] at h
  rename_i c d; subst h; exact ⟨d, rfl⟩
theorem Owned.ofKept {H H' : Heap} {o o2 : Own} {n sz : Nat} (h : Owned H o n sz) (hk : Kept H o2 H') (hne : ∀ b d d2, o = .tip b d → o2 ≠ .tip b d2) : Owned H' o n sz := by
  cases o with
  | tip b d => exact hk b _ h fun d2 e => hne b d d2 rfl e
  | no => exact h
  | nil => exact h
  | full => exact h
theorem Sep.step {H H' : Heap} {a b : List (Own × Nat × Nat)} {o o' : Own} {n n' sz : Nat} (h : Sep H (a ++ (o, n, sz) :: b)) (h' : OwnS H o H' o' n' sz) : Sep H' (a ++ (o', n', sz) :: b) := by
  have hnd := h.nd
  simp only [List.filterMap_append, List.filterMap_cons] at hnd
  have hother : ∀ x, x ∈ a ∨ x ∈ b → ∀ c d d2, x.1 = .tip c d → o ≠ .tip c d2 := fun x hx c d d2 hxe e => by
    subst e
    simp only [tipOf] at hnd
    rw [List.nodup_append] at hnd
    obtain ⟨_, hb, hab⟩ := hnd
    rcases hx with hx | hx
    · exact hab c (List.mem_filterMap.2 ⟨x, hx, by rw [hxe]⟩) c (List.mem_cons_self ..) rfl
    · exact (List.nodup_cons.1 hb).1 (List.mem_filterMap.2 ⟨x, hx, by rw [hxe]⟩)
  refine ⟨fun x hx => ?_, ?_⟩
  · rcases List.mem_append.1 hx with hx | hx
    · exact Owned.ofKept (h.own x (by simp [hx])) h'.kept fun c d d2 => hother x (.inl hx) c d d2
    · rcases List.mem_cons.1 hx with rfl | hx
      · exact h'.own
      · exact Owned.ofKept (h.own x (by simp [hx])) h'.kept fun c d d2 => hother x (.inr hx) c d d2
  · simp only [List.filterMap_append, List.filterMap_cons]
    have hsub : ∀ c, c ∈ a.filterMap (fun x => tipOf x.1) ∨ c ∈ b.filterMap (fun x => tipOf x.1) → tipOf o' ≠ some c := fun c hc e => by
      obtain ⟨d', e⟩ := tipOf_some e
      have hH : H c ≠ none ∧ ∀ d0, o ≠ .tip c d0 := by
        rcases hc with hc | hc <;> obtain ⟨x, hx, hxe⟩ := List.mem_filterMap.1 hc <;> obtain ⟨d, hxe⟩ := tipOf_some hxe
        · have := h.own x (by simp [hx]); rw [hxe] at this
          have h2 : H c = some _ := this
          exact ⟨by simp [h2], fun d0 => hother x (.inl hx) c d d0 hxe⟩
        · have := h.own x (by simp [hx]); rw [hxe] at this
          have h2 : H c = some _ := this
          exact ⟨by simp [h2], fun d0 => hother x (.inr hx) c d d0 hxe⟩
      rcases h'.new c d' e with h1 | ⟨d0, h1⟩
      · exact hH.1 h1
      · exact hH.2 d0 h1
    have hnd2 : (a.filterMap (fun x => tipOf x.1) ++ b.filterMap (fun x => tipOf x.1)).Nodup := by
      cases ho : tipOf o with
      | none => rw [ho] at hnd; exact hnd
      | some c =>
        rw [ho] at hnd
        rw [List.nodup_append] at hnd ⊢
        exact ⟨hnd.1, (List.nodup_cons.1 hnd.2.1).2, fun x hx y hy => hnd.2.2 x hx y (List.mem_cons_of_mem _ hy)⟩
    cases ho : tipOf o' with
    | none => exact hnd2
    | some c =>
      have hc := hsub c
      rw [List.nodup_append] at hnd2 ⊢
      refine ⟨hnd2.1, List.nodup_cons.2 ⟨fun hm => hc (.inr hm) ho, hnd2.2.1⟩, fun x hx y hy => ?_⟩
      rcases List.mem_cons.1 hy with rfl | hy
      · exact fun e => hc (.inl (e ▸ hx)) ho
      · exact hnd2.2.2 x hx y hy
theorem Sep.mono {H H' : Heap} {l : List (Own × Nat × Nat)} (h : Sep H l) (hk : ∀ c n sz, H c = some (.tip n sz) → H' c = some (.tip n sz)) : Sep H' l :=
  ⟨fun x hx => by
    have := h.own x hx
    obtain ⟨o, n, sz⟩ := x
    cases o with
    | tip c d => exact hk c _ _ this
    | no => exact this
    | nil => exact this
    | full => exact this, h.nd⟩
def eM (e : List (List UInt8 × Own)) (l : List Need) : List (AV × AV) := e.map fun p => (.str p.1, .sl p.2 1 (cT (keysOf p.1 l)))
theorem keq_str (a b : List UInt8) : (AV.str a).keq (.str b) = decide (a = b) := by simp only [AV.keq, AV.keq1, sbeq]
theorem mget_eM0 (t : List UInt8) (l : List Need) : ∀ e, t ∉ e.map (·.1) → mget (eM e l) (.str t) = none
  | [], _ => rfl
  | (u, w) :: r, h => by
    simp only [List.map_cons, List.mem_cons, not_or] at h
    have := mget_eM0 t l r h.2
    simp only [eM] at this
    simp only [eM, List.map_cons, mget, keq_str, h.1, decide_false, Bool.false_eq_true, if_false, this]
theorem mget_eM1 (t : List UInt8) (w : Own) (l : List Need) (b : List (List UInt8 × Own)) : ∀ a, t ∉ a.map (·.1) → mget (eM (a ++ (t, w) :: b) l) (.str t) = some (.sl w 1 (cT (keysOf t l)))
  | [], _ => by simp [eM, mget, keq_str]
  | (u, w') :: r, h => by
    simp only [List.map_cons, List.mem_cons, not_or] at h
    have := mget_eM1 t w l b r h.2
    simp only [eM] at this
    simp only [eM, List.cons_append, List.map_cons, mget, keq_str, h.1, decide_false, Bool.false_eq_true, if_false, this]
theorem eM_other {l : List Need} {x : Need} (e : List (List UInt8 × Own)) (h : x.t ∉ e.map (·.1)) : eM e (l ++ [x]) = eM e l := by
  refine List.map_congr_left fun p hp => ?_
  have : x.t ≠ p.1 := fun e' => h (e' ▸ List.mem_map.2 ⟨p, hp, rfl⟩)
  rw [keysOf_app]; simp [this]
theorem mset_eM0 (x : Need) (w : Own) (l : List Need) : ∀ e, x.t ∉ e.map (·.1) → mset (eM e l) (.str x.t) (.sl w 1 (cT (keysOf x.t l ++ [x.k]))) = eM (e ++ [(x.t, w)]) (l ++ [x])
  | [], _ => by simp [eM, mset, keysOf_app]
  | (u, w') :: r, h => by
    simp only [List.map_cons, List.mem_cons, not_or] at h
    have := mset_eM0 x w l r h.2
    simp only [eM] at this
    simp only [eM, List.cons_append, List.map_cons, mset, keq_str, h.1, decide_false, Bool.false_eq_true, if_false, this]
    rw [keysOf_app]; simp [h.1]
theorem mset_eM1 (x : Need) (w w' : Own) (l : List Need) (b : List (List UInt8 × Own)) (hb : x.t ∉ b.map (·.1)) : ∀ a, x.t ∉ a.map (·.1) → mset (eM (a ++ (x.t, w) :: b) l) (.str x.t) (.sl w' 1 (cT (keysOf x.t l ++ [x.k]))) = eM (a ++ (x.t, w') :: b) (l ++ [x])
  | [], _ => by
    have := eM_other (l := l) b hb
    simp only [eM] at this
    simp only [eM, List.nil_append, List.map_cons, mset, keq_str, decide_true, if_true, this, keysOf_app (t := x.t)]
  | (u, v) :: r, h => by
    simp only [List.map_cons, List.mem_cons, not_or] at h
    have := mset_eM1 x w w' l b hb r h.2
    simp only [eM] at this
    simp only [eM, List.cons_append, List.map_cons, mset, keq_str, h.1, decide_false, Bool.false_eq_true, if_false, this]
    rw [keysOf_app]; simp [h.1]
theorem dd_nodup {α : Type} [DecidableEq α] : ∀ (l out : List α), out.Nodup → (dd out l).Nodup
  | [], out, h => h
  | n :: r, out, h => by
    simp only [dd]
    split
    · exact dd_nodup r out h
    · rename_i hn
      refine dd_nodup r _ ?_
      rw [List.nodup_append]
      exact ⟨h, by simp, fun a ha b hb => by simp at hb; subst hb; exact fun e => hn (e ▸ ha)⟩
theorem flatMap_len {α β : Type} (f : α → List β) (c : Nat) : ∀ l : List α, (∀ t ∈ l, (f t).length ≤ c) → (l.flatMap f).length ≤ l.length * c
  | [], _ => by simp
  | t :: r, h => by
    have h1 := h t (List.mem_cons_self ..)
    have h2 := flatMap_len f c r fun x hx => h x (List.mem_cons_of_mem _ hx)
    simp only [List.flatMap_cons, List.length_append, List.length_cons, Nat.succ_mul]
    omega
theorem chunks_le (n : Nat) (hn : 0 < n) (xs : List (List UInt8)) : (chunks n xs).length ≤ xs.length := by
  rw [chunks_len]
  have : xs.length + n - 1 < (xs.length + 1) * n := by
    have h1 : (xs.length + 1) * n = xs.length * n + n := Nat.succ_mul _ _
    have h2 : xs.length * 1 ≤ xs.length * n := Nat.mul_le_mul_left _ hn
    omega
  have := (Nat.div_lt_iff_lt_mul hn).2 this
  omega
theorem mmS (n : Int) : mm2 false (mm2 true n 1) 64 = (clampS n : Int) := by
  simp only [mm2, clampS, if_true, Bool.false_eq_true, if_false]
  split <;> split <;> omega
theorem clamp_pos (n : Int) : 0 < clampS n ∧ clampS n ≤ 64 := by simp only [clampS]; omega
end Go.Proofs.Ythkpgjnibolnhaa
namespace Go.Proofs.Ythkpgjnibolnhaa
open Go.Ab
def sepE (e : List (List UInt8 × Own)) (l : List Need) : List (Own × Nat × Nat) := e.map fun p => (p.2, (keysOf p.1 l).length, 1)
theorem sepE_other {l : List Need} {x : Need} (e : List (List UInt8 × Own)) (h : x.t ∉ e.map (·.1)) : sepE e (l ++ [x]) = sepE e l := by
  refine List.map_congr_left fun p hp => ?_
  have : x.t ≠ p.1 := fun e' => h (e' ▸ List.mem_map.2 ⟨p, hp, rfl⟩)
  rw [keysOf_app]; simp [this]
structure PlA (bm : Nat) (done : List Need) (o1 : Own) (ts : List (List UInt8)) (H : Heap) : Prop where
  tab : ts = dd [] (done.map (·.t))
  map : ∃ e, e.map (·.1) = ts ∧ H bm = some (.map (.one .s) (eM e done)) ∧ Sep H ((o1, ts.length, 1) :: sepE e done)
theorem tabs_len (done : List Need) : (dd [] (done.map (·.t))).length ≤ done.length := by
  have := dd_len (done.map (·.t)) []
  simpa using this
theorem keptM {H H' : Heap} {o : Own} {n sz b : Nat} {kt : KT} {es : List (AV × AV)} (hk : Kept H o H') (ho : Owned H o n sz) (h : H b = some (.map kt es)) : H' b = some (.map kt es) :=
  hk _ _ h fun d e => by subst e; have : H b = some (.tip (d + n) sz) := ho; rw [h] at this; cases this
theorem keptC {H H' : Heap} {o : Own} {n sz b : Nat} {cs : List AV} (hk : Kept H o H') (ho : Owned H o n sz) (h : H b = some (.cells cs)) : H' b = some (.cells cs) :=
  hk _ _ h fun d e => by subst e; have : H b = some (.tip (d + n) sz) := ho; rw [h] at this; cases this
theorem Owned.setC {H : Heap} {o : Own} {n sz b : Nat} {cs cs' : List AV} (h : Owned H o n sz) (hb : H b = some (.cells cs)) : Owned (H.upd b (.cells cs')) o n sz := by
  cases o with
  | tip c d =>
    have hc : H c = some (.tip (d + n) sz) := h
    have hne : c ≠ b := fun e => by subst e; rw [hb] at hc; cases hc
    show (H.upd b _) c = _
    simp [Heap.upd, hne, hc]
  | no => exact h
  | nil => exact h
  | full => exact h
theorem split_first (t : List UInt8) : ∀ e : List (List UInt8 × Own), t ∈ e.map (·.1) → ∃ a w b, e = a ++ (t, w) :: b ∧ t ∉ a.map (·.1)
  | [], h => by simp at h
  | (u, w) :: r, h => by
    by_cases hu : t = u
    · subst hu; exact ⟨[], w, r, rfl, by simp⟩
    · simp only [List.map_cons, List.mem_cons, hu, false_or] at h
      obtain ⟨a, w', b, rfl, ha⟩ := split_first t r h
      exact ⟨(u, w) :: a, w', b, rfl, by simp [hu]; simpa using ha⟩
theorem planA (n : Int) (l : List Need) (hl : l.length ≤ 65536) : Pure Try.prog 16 [.int .i64 n, .sl .no 2 (cNs l)] (.sl .no 2 (cBs (planP (clampS n) l))) := by
  refine Pure.go ir16 ck16 (Nat.le_refl _) fun KP Q hQ => ?_
  have hcl := clamp_pos n
  simp (disch := first | omega | assumption) only [ir16, mmS, steps, st2, pev, rev, oev, optr, ibin, sbin, ishf, bound, mmAll, mk, mkArgs, AV.cells, AV.boxable, AV.one, AV.strip1, fillA, fillS, Nat.reduceEqDiff, reduceCtorEq, ↓reduceIte, Nat.reduceAdd, Int.reduceNeg, Nat.reduceLeDiff, Int.reduceToNat, Int.reduceEq, Int.reduceLT, Int.reduceLE, Int.reduceAdd]
  refine goA_intro fun bm hbm => ?_
  simp (disch := first | omega | assumption) only [go_sem, ↓reduceIte]
  refine goK_pure (onceP l (by simp only [Big]; omega)) ?_
  obtain ⟨o, ho⟩ : ∃ o, dd [] l = o := ⟨_, rfl⟩
  have hol : o.length ≤ 65536 := by have := dd_len l []; rw [ho] at this; simp at this; omega
  have hll := cNs_len o
  rw [ho]
  simp (disch := first | omega | assumption) only [hll, go_sem, ↓reduceIte]
  refine goL_range o 22 (fun s : Own × List (List UInt8) => [(5, .sl s.1 1 (cT s.2))]) (fun done rest s H => PlA bm done s.1 s.2 H) (.nil, []) (by simp (disch := first | omega | assumption) only [go_sem, ↓reduceIte] <;> simp [cT]) ⟨rfl, [], rfl, by rw [upd_same]; rfl, ⟨by simp [sepE, Owned], by simp [sepE, tipOf]⟩⟩ ?_ ?_
  · rintro ⟨o1, ts⟩ H J hA hlt
    obtain ⟨hts, e, he, hm, hsep⟩ := hA
    simp only at hts he
    have htl := cT_len ts
    have hpl : (planP (clampS n) l).length ≤ 4294967296 := by
      have h1 : ∀ t ∈ dd [] (o.map (·.t)), ((chunks (clampS n) (keysOf t o)).map fun c => (⟨t, c⟩ : Batch)).length ≤ 65536 := fun t _ => by
        rw [List.length_map]
        have := chunks_le (clampS n) hcl.1 (keysOf t o)
        have := keysOf_len t o
        omega
      have h2 := flatMap_len _ _ _ h1
      have h3 := tabs_len o
      simp only [planP, ho]
      exact Nat.le_trans h2 (Nat.le_trans (Nat.mul_le_mul_right 65536 (Nat.le_trans h3 hol)) (by decide))
    have htl2 := tabs_len o
    rw [← hts] at htl2
    simp (disch := first | omega | assumption) only [hll, hlt, go_sem, ↓reduceIte]
    refine goA_intro fun b11 hb11 => ?_
    have hmne := ne_of_none hb11 hm
    simp (disch := first | omega | assumption) only [htl, go_sem, ↓reduceIte]
    refine goL_range ts 54 (fun _ : Unit => []) (fun done rest _ H' => ∃ o2 out, out ++ (rest.flatMap fun t => (chunks (clampS n) (keysOf t o)).map fun c => (⟨t, c⟩ : Batch)) = planP (clampS n) l ∧ H' b11 = some (.cells [.sl o2 2 (cBs out)]) ∧ Owned H' o2 out.length 2 ∧ H' bm = some (.map (.one .s) (eM e o))) ()
      (by simp (disch := first | omega | assumption) only [go_sem, ↓reduceIte]) ⟨.nil, [], by rw [List.nil_append, hts]; simp only [planP, ho], upd_same .., rfl, by rw [upd_ne (Ne.symm hmne)]; exact hm⟩ ?_ ?_
    · rintro ⟨⟩ H J ⟨o2, out, hout, h11, how, hm⟩ hlt
      simp only [List.flatMap_nil, List.append_nil] at hout
      simp (disch := first | omega | assumption) only [htl, hlt, h11, go_sem, ↓reduceIte]
      exact hQ _ _ _ _ nofun rfl (by simp [tupOf, envOf, AV.strip, AV.strip1, hout])
    · rintro done t rest ⟨⟩ H J hd hlt hlt' ⟨o2, out, hout, h11, how, hm⟩ hJ
      have hg := cT_get hd
      have hfit : KT.fits (.one .s) (.str t) = true := rfl
      simp (disch := first | omega | assumption) only [htl, hlt, hg, go_sem, ↓reduceIte]
      refine goA_intro fun b13 hb13 => ?_
      have hn1 := ne_of_none hb13 hm
      have hn2 := ne_of_none hb13 h11
      obtain ⟨a, w, b, rfl, hxa⟩ := split_first t e (by rw [he, hd]; simp)
      have hmg := mget_eM1 t w o b a hxa
      simp (disch := first | omega | assumption) only [hm, hmg, hn1, Ne.symm hn1, lkres, Option.getD_some, hfit, go_sem, ↓reduceIte]
      obtain ⟨ks, hks⟩ : ∃ ks, keysOf t o = ks := ⟨_, rfl⟩
      have hkl := keysOf_len t o
      simp only [List.flatMap_cons] at hout
      rw [hks] at hkl hout
      rw [hks]
      refine goK_pure (Pure.low (chunkP (clampS n) hcl.1 ks)) ?_
      simp (disch := first | omega | assumption) only [go_sem, ↓reduceIte]
      have hXl : (cX (clampS n) ks).length = (chunks (clampS n) ks).length := by simp [cX]
      refine goC_rfun (chunk1S (clampS n) hcl.1 hcl.2 ks (by simp only [Big]; omega)) (by simp (disch := first | omega | assumption) only [go_sem, ↓reduceIte]) (by kernel_rfl) (fun x hx => by obtain ⟨c, _, rfl⟩ := List.mem_map.1 hx; rfl)
        (fun k H' => ∃ o3 out3, out3 = out ++ ((chunks (clampS n) ks).take k).map (fun c => (⟨t, c⟩ : Batch)) ∧ H' b11 = some (.cells [.sl o3 2 (cBs out3)]) ∧ Owned H' o3 out3.length 2 ∧ H' bm = some (.map (.one .s) (eM (a ++ (t, w) :: b) o)) ∧ H' b13 = some (.cells [.str t])) ?_ ?_ ?_
      · refine ⟨o2, out, by simp, ?_, ?_, ?_, ?_⟩
        · simp [Heap.upd, Ne.symm hn2, h11]
        · exact Owned.upd how hb13
        · simp [Heap.upd, Ne.symm hn1, hm]
        · simp [Heap.upd]
      · rintro k x H3 Q2 hx ⟨o3, out3, rfl, h11', how3, hm3, h13⟩ hQ2
        obtain ⟨hk, hx⟩ := List.getElem?_eq_some_iff.1 hx
        rw [hXl] at hk
        simp only [cX, List.getElem_map] at hx
        subst hx
        obtain ⟨c, hc⟩ : ∃ c, (chunks (clampS n) ks)[k] = c := ⟨_, rfl⟩
        rw [hc]
        have hcl2 : c.length ≤ Big := by
          rw [← hc]
          simp only [chunks, List.getElem_map, List.length_take, Big]
          omega
        have hcB := cBs_len (out ++ ((chunks (clampS n) ks).take k).map (fun c => (⟨t, c⟩ : Batch)))
        have hbl : (out ++ ((chunks (clampS n) ks).take k).map (fun c => (⟨t, c⟩ : Batch))).length ≤ 4294967296 := by
          rw [← hout] at hpl
          simp only [List.length_append, List.length_map, List.length_take] at hpl ⊢
          omega
        simp (disch := first | omega | assumption) only [setPs, h11', h13, go_sem, ↓reduceIte]
        refine goK_pure (Pure.low (cloneT c hcl2)) ?_
        simp (disch := first | omega | assumption) only [h11', h13, go_sem, ↓reduceIte]
        refine goP_ownS (by rw [hcB]; exact how3) ?_ ?_ fun o4 H4 hos => ?_
        · simp only [hcB, List.length_cons, List.length_nil]; omega
        · simp only [hcB, List.length_cons, List.length_nil, maxLen]; omega
        simp only [hcB, List.length_cons, List.length_nil, Nat.zero_add] at hos
        have k11 := keptC hos.kept how3 h11'
        have k13 := keptC hos.kept how3 h13
        have km := keptM hos.kept how3 hm3
        have hne' : b11 ≠ bm := fun e => by subst e; rw [k11] at km; cases km
        have hne2 : b11 ≠ b13 := Ne.symm hn2
        simp (disch := first | omega | assumption) only [k11, AV.strip1, go_sem, ↓reduceIte]
        refine hQ2 _ _ ⟨o4, out ++ ((chunks (clampS n) ks).take (k + 1)).map (fun c => (⟨t, c⟩ : Batch)), rfl, ?_, ?_, ?_, ?_⟩
        · rw [upd_same, List.take_succ_eq_append_getElem hk, hc]
          simp [cBs, cB]
        · have := Owned.setC (cs' := [.sl o4 2 (cBs (out ++ ((chunks (clampS n) ks).take k).map (fun c => (⟨t, c⟩ : Batch))) ++ [[.str t, .sl .no 1 (cT c)]])]) hos.own k11
          simpa [List.take_succ_eq_append_getElem hk, hc, Nat.add_assoc] using this
        · rw [upd_ne (Ne.symm hne')]; exact km
        · rw [upd_ne (Ne.symm hne2)]; exact k13
      · rintro H3 ⟨o3, out3, rfl, h11', how3, hm3, h13⟩
        rw [hXl, List.take_length] at h11' how3
        simp (disch := first | omega | assumption) only [wrap64, go_sem, ↓reduceIte]
        refine goJ (hJ () _ ⟨o3, _, ?_, h11', how3, hm3⟩) (by simp (disch := first | omega | assumption) only [htl, go_sem, ↓reduceIte])
        rw [← hout, List.append_assoc]
  · rintro done x rest ⟨o1, ts⟩ H J hd hlt hlt' ⟨hts, e, he, hm, hsep⟩ hJ
    have hg := cNs_get hd
    obtain ⟨xt, xk⟩ := x
    simp only at hts he hsep
    have htl := cT_len ts
    have htl2 := tabs_len done
    rw [← hts] at htl2
    have hfit : KT.fits (.one .s) (.str xt) = true := rfl
    have hkl := keysOf_len xt done
    have hkc := cT_len (keysOf xt done)
    have ho1 := hsep.own _ (List.mem_cons_self ..)
    simp only at ho1
    simp (disch := first | omega | assumption) only [hll, hlt, hg, cN, go_sem, ↓reduceIte]
    refine goA_intro fun b1 hb1 => ?_
    have hne := ne_of_none hb1 hm
    have hH1 : (H.upd b1 (.cells [.str xt, .str xk])) bm = some (.map (.one .s) (eM e done)) := by rw [upd_ne (Ne.symm hne)]; exact hm
    have hsep1 : Sep (H.upd b1 (.cells [.str xt, .str xk])) ((o1, ts.length, 1) :: sepE e done) := hsep.mono fun c n sz hc => by
      have : c ≠ b1 := fun e => by subst e; rw [hb1] at hc; cases hc
      simp [Heap.upd, this, hc]
    by_cases hx : xt ∈ ts
    · obtain ⟨a, w, b, rfl, hxa⟩ := split_first xt e (by rw [he]; exact hx)
      have hxb : xt ∉ b.map (·.1) := by
        have hnd := dd_nodup (done.map (·.t)) [] List.nodup_nil
        rw [← hts, ← he] at hnd
        simp only [List.map_append, List.map_cons] at hnd
        rw [List.nodup_append] at hnd
        exact (List.nodup_cons.1 hnd.2.1).1
      have hmg := mget_eM1 xt w done b a hxa
      simp (disch := first | omega | assumption) only [hm, hmg, hne, Ne.symm hne, lkres, Option.getD_some, Option.isSome_some, hfit, wrap64, go_sem, ↓reduceIte]
      have hS1 : Sep (H.upd b1 (.cells [.str xt, .str xk])) (((o1, ts.length, 1) :: sepE a done) ++ (w, (keysOf xt done).length, 1) :: sepE b done) := by
        simpa [sepE] using hsep1
      have hw := hS1.own (w, (keysOf xt done).length, 1) (by simp)
      simp only at hw
      refine goP_ownS (by rw [hkc]; exact hw) ?_ ?_ fun o' H2 hos => ?_
      · simp only [hkc, List.length_cons, List.length_nil]; omega
      · simp only [hkc, List.length_cons, List.length_nil, maxLen]; omega
      simp only [hkc, List.length_cons, List.length_nil, Nat.zero_add] at hos
      have hb2 : H2 b1 = some (.cells [.str xt, .str xk]) := keptC hos.kept hw (upd_same ..)
      have hm2 := keptM hos.kept hw hH1
      have hS2 := hS1.step hos
      simp (disch := first | omega | assumption) only [hb2, hm2, wrap64, hfit, AV.strip1, cT_app, go_sem, ↓reduceIte]
      have hms := mset_eM1 ⟨xt, xk⟩ w o' done b hxb a hxa
      simp only at hms
      rw [hms]
      refine goJ (hJ (o1, ts) _ ⟨?_, a ++ (xt, o') :: b, ?_, upd_same .., ?_⟩) (by simp (disch := first | omega | assumption) only [hll, go_sem, ↓reduceIte])
      · rw [List.map_append, List.map_cons, List.map_nil, dd_app, ← hts, if_pos hx]
      · rw [← he]; simp
      · refine Sep.mono (H := H2) ?_ fun c n sz hc => by
          have : c ≠ bm := fun e => by subst e; rw [hm2] at hc; cases hc
          simp [Heap.upd, this, hc]
        have e1 : sepE (a ++ (xt, o') :: b) (done ++ [⟨xt, xk⟩]) = sepE a done ++ (o', (keysOf xt done).length + 1, 1) :: sepE b done := by
          have h1 := sepE_other (l := done) (x := ⟨xt, xk⟩) a hxa
          have h2 := sepE_other (l := done) (x := ⟨xt, xk⟩) b hxb
          simp only [sepE, List.map_append, List.map_cons] at h1 h2 ⊢
          rw [h1, h2, keysOf_app]
          simp
        rw [e1]
        simpa using hS2
    · have hmg := mget_eM0 xt done e (by rw [he]; exact hx)
      simp (disch := first | omega | assumption) only [hm, hmg, hne, Ne.symm hne, lkres, Option.getD_none, Option.isSome_none, hfit, wrap64, go_sem, ↓reduceIte]
      have ho2 := hsep1.own _ (List.mem_cons_self ..)
      simp only at ho2
      refine goP_ownS (by rw [htl]; exact ho2) ?_ ?_ fun o2 H2 hos => ?_
      · simp only [htl, List.length_cons, List.length_nil]; omega
      · simp only [htl, List.length_cons, List.length_nil, maxLen]; omega
      simp only [htl, List.length_cons, List.length_nil, Nat.zero_add] at hos
      have hb2 : H2 b1 = some (.cells [.str xt, .str xk]) := keptC hos.kept ho2 (upd_same ..)
      have hm2 := keptM hos.kept ho2 hH1
      have hS2 : Sep H2 ((o2, ts.length + 1, 1) :: sepE e done) := Sep.step (a := []) hsep1 hos
      have hknil := keysOf_nil xt done (by rw [hts] at hx; exact fun h => hx ((dd_mem ..).2 (.inr h)))
      simp (disch := first | omega | assumption) only [hb2, hm2, hmg, lkres, Option.getD_none, wrap64, hfit, AV.strip1, cT_app, go_sem, ↓reduceIte]
      refine goP_ownS (o := .nil) (xs := []) rfl (by simp) (by simp [maxLen]) fun o' H3 hos3 => ?_
      simp only [List.length_cons, List.length_nil, Nat.zero_add] at hos3
      have hb3 : H3 b1 = some (.cells [.str xt, .str xk]) := hos3.kept _ _ hb2 (fun d e => by cases e)
      have hm3 : H3 bm = some _ := hos3.kept _ _ hm2 (fun d e => by cases e)
      have hS3 : Sep H3 (((o2, ts.length + 1, 1) :: sepE e done) ++ (o', 1, 1) :: []) := Sep.step (o := .nil) (n := 0) (b := []) (by
        refine ⟨fun x hx => ?_, ?_⟩
        · rcases List.mem_append.1 hx with h | h
          · exact hS2.own x h
          · simp only [List.mem_singleton] at h; subst h; rfl
        · rw [List.filterMap_append]; simpa [tipOf] using hS2.nd) hos3
      simp (disch := first | omega | assumption) only [hb3, hm3, wrap64, hfit, AV.strip1, go_sem, ↓reduceIte]
      have hms := mset_eM0 ⟨xt, xk⟩ o' done e (by rw [he]; exact hx)
      rw [hknil] at hms
      simp only [cT, List.nil_append, List.map_cons, List.map_nil] at hms
      rw [hms]
      refine goJ (hJ (o2, ts ++ [xt]) _ ⟨?_, e ++ [(xt, o')], ?_, upd_same .., ?_⟩) (by simp (disch := first | omega | assumption) only [hll, go_sem, ↓reduceIte])
      · rw [List.map_append, List.map_cons, List.map_nil, dd_app, ← hts, if_neg hx]
      · simp [he]
      · refine Sep.mono (H := H3) ?_ fun c n sz hc => by
          have : c ≠ bm := fun e => by subst e; rw [hm3] at hc; cases hc
          simp [Heap.upd, this, hc]
        have e1 : sepE (e ++ [(xt, o')]) (done ++ [⟨xt, xk⟩]) = sepE e done ++ [(o', 1, 1)] := by
          have h1 := sepE_other (l := done) (x := ⟨xt, xk⟩) e (by rw [he]; exact hx)
          simp only [sepE, List.map_append, List.map_cons, List.map_nil] at h1 ⊢
          rw [h1, keysOf_app, hknil]
          simp
        rw [e1]
        simpa using hS3
end Go.Proofs.Ythkpgjnibolnhaa
namespace Go.Proofs.Ythkpgjnibolnhaa
open Go.Ab
theorem fitsN (n : Need) : fitsAll [.s, .s] (cN n) = true := rfl
theorem keqN (a b : Need) : keqs (cN a) (cN b) = decide (a = b) := keq_need a b
theorem cN_len (n : Need) : (cN n).length = 2 := rfl
theorem cN_take (n : Need) : (cN n).take 2 = cN n := rfl
theorem hasNeedR (l : List Need) (hl : l.length ≤ Big) (n : Need) : Pure Try.prog 20 [.sl .no 2 (cNs l), .agg (cN n)] (.bool (decide (n ∈ l))) := by
  refine Pure.go ir20 ck20 (Nat.le_refl _) fun KP Q hQ => ?_
  simp only [Big] at hl
  have hll := cNs_len l
  simp (disch := first | omega | assumption) only [ir20, cN_len, go_sem, ↓reduceIte]
  refine goL_range l 5 (fun _ : Unit => []) (fun done rest _ H => (n ∈ l ↔ n ∈ rest) ∧ H = Heap.emp) () (by simp (disch := first | omega | assumption) only [go_sem, ↓reduceIte]) ⟨Iff.rfl, rfl⟩ ?_ ?_
  · rintro ⟨⟩ H J ⟨hn, rfl⟩ hlt
    simp only [List.not_mem_nil, iff_false] at hn
    simp (disch := first | omega | assumption) only [hll, hlt, go_sem, ↓reduceIte]
    exact hQ _ _ _ _ nofun rfl (by simp [tupOf, envOf, AV.strip, AV.strip1, hn])
  · rintro done x rest ⟨⟩ H J hd hlt _ ⟨hn, rfl⟩ hJ
    have hg := cNs_get hd
    by_cases hx : x = n
    · simp (disch := first | omega | assumption) only [hll, hlt, hg, cN_len, cN_take, fitsN, keqN, hx, go_sem, ↓reduceIte]
      have : n ∈ l := by rw [hn, hx]; exact List.mem_cons_self ..
      exact hQ _ _ _ _ nofun rfl (by simp [tupOf, envOf, AV.strip, AV.strip1, this])
    · simp (disch := first | omega | assumption) only [hll, hlt, hg, cN_len, cN_take, fitsN, keqN, hx, wrap64, go_sem, ↓reduceIte]
      refine goJ (hJ () _ ⟨?_, rfl⟩) (by simp (disch := first | omega | assumption) only [go_sem, ↓reduceIte])
      rw [hn, List.mem_cons]
      exact ⟨fun h => h.resolve_left (fun e => hx e.symm), .inr⟩
theorem onceR (l : List Need) (hl : l.length ≤ Big) : Pure Try.prog 37 [.sl .no 2 (cNs l)] (.sl .no 2 (cNs (dd [] l))) := by
  refine Pure.go ir37 ck37 (Nat.le_refl _) fun KP Q hQ => ?_
  have hl0 := hl
  simp only [Big] at hl
  have hll := cNs_len l
  simp (disch := first | omega | assumption) only [ir37, go_sem, ↓reduceIte]
  refine goL_range l 4 (fun s : Own × List Need => [(3, .sl s.1 2 (cNs s.2))]) (fun done rest s H => dd s.2 rest = dd [] l ∧ s.2.length ≤ done.length ∧ Owned H s.1 s.2.length 2) (.nil, []) (by simp (disch := first | omega | assumption) only [go_sem, ↓reduceIte] <;> simp [cNs]) ⟨rfl, by simp, rfl⟩ ?_ ?_
  · rintro ⟨o, out⟩ H J ⟨hd, hle, ho⟩ hlt
    simp only [dd] at hd
    subst hd
    simp (disch := first | omega | assumption) only [hll, hlt, go_sem, ↓reduceIte]
    exact hQ _ _ _ _ nofun rfl (by simp [tupOf, envOf, AV.strip, AV.strip1])
  · rintro done x rest ⟨o, out⟩ H J hl2 hlt hlt' ⟨hd, hle, ho⟩ hJ
    have hg := cNs_get hl2
    simp only at hle ho
    have hle2 := cNs_len out
    simp only [dd] at hd
    simp (disch := first | omega | assumption) only [hll, hlt, hg, cN_len, cN_take, go_sem, ↓reduceIte]
    refine goK_pure (Pure.low (hasNeedR out (by simp only [Big]; omega) x)) ?_
    by_cases hx : x ∈ out
    · simp (disch := first | omega | assumption) only [hx, wrap64, go_sem, ↓reduceIte]
      simp only [hx, if_true] at hd
      exact goJ (hJ (o, out) _ ⟨hd, by simp; omega, ho⟩) (by simp (disch := first | omega | assumption) only [go_sem, ↓reduceIte])
    · simp (disch := first | omega | assumption) only [hll, hlt, hg, hx, cN_len, cN_take, cN, go_sem, ↓reduceIte]
      simp only [hx, if_false] at hd
      refine goP_ownS (by rw [hle2]; exact ho) ?_ ?_ fun o' H' hos => ?_
      · simp only [hle2, List.length_cons, List.length_nil]; omega
      · simp only [hle2, List.length_cons, List.length_nil, maxLen]; omega
      simp (disch := first | omega | assumption) only [wrap64, AV.strip1, go_sem, ↓reduceIte]
      rw [cNs_app]
      rw [hle2] at hos
      exact goJ (hJ (o', out ++ [x]) _ ⟨hd, by simp; omega, by simpa using hos.own⟩) (by simp (disch := first | omega | assumption) only [go_sem, ↓reduceIte])
theorem needP (t k : List UInt8) : Pure Try.prog 19 [.str t, .str k] (.agg [.str t, .str k]) := by
  refine Pure.go ir19 ck19 (Nat.le_refl _) fun KP Q hQ => ?_
  simp (disch := first | omega | assumption) only [ir19, go_sem, ↓reduceIte]
  refine goA_intro fun b hb => ?_
  simp (disch := first | omega | assumption) only [go_sem, ↓reduceIte]
  refine hQ _ _ _ [.agg [.str t, .str k]] nofun (by simp (disch := first | omega | assumption) only [ir19, resvs, resv, go_sem, ↓reduceIte]) (by simp [tupOf, AV.strip, AV.strip1])
theorem sameNeedsR (a b : List Need) (ha : a.length ≤ Big) : Pure Try.prog 18 [.sl .no 2 (cNs a), .sl .no 2 (cNs b)] (.bool (decide (a = b))) := by
  refine Pure.go ir18 ck18 (Nat.le_refl _) fun KP Q hQ => ?_
  simp only [Big] at ha
  have hal := cNs_len a
  have hbl := cNs_len b
  by_cases hlen : a.length = b.length
  · have hli : (a.length : Int) = b.length := by omega
    simp (disch := first | omega | assumption) only [ir18, hal, hbl, hli, go_sem, ↓reduceIte]
    refine goL_range a 5 (fun _ : Unit => []) (fun done rest _ H => (∃ rb, b = done ++ rb) ∧ H = Heap.emp) () (by simp (disch := first | omega | assumption) only [go_sem, ↓reduceIte]) ⟨⟨b, rfl⟩, rfl⟩ ?_ ?_
    · rintro ⟨⟩ H J ⟨⟨rb, hb⟩, rfl⟩ hlt
      simp (disch := first | omega | assumption) only [hal, hlt, go_sem, ↓reduceIte]
      have : a = b := by
        have hz : rb = [] := List.eq_nil_of_length_eq_zero (by have := congrArg List.length hb; simp at this; omega)
        rw [hb, hz, List.append_nil]
      exact hQ _ _ _ _ nofun rfl (by simp [tupOf, envOf, AV.strip, AV.strip1, this])
    · rintro done x rest ⟨⟩ H J hd hlt hlt' ⟨⟨rb, hb⟩, rfl⟩ hJ
      have hg := cNs_get hd
      cases rb with
      | nil => have := congrArg List.length hb; simp at this; omega
      | cons y rb =>
        have hgb := cNs_get hb
        have hltb : (done.length : Int) < b.length := by omega
        by_cases hx : x = y
        · simp (disch := first | omega | assumption) only [hal, hbl, hlt, hltb, hg, hgb, cN_len, cN_take, fitsN, keqN, hx, wrap64, hli, go_sem, ↓reduceIte]
          exact goJ (hJ () _ ⟨⟨rb, by rw [hb, hx]; simp⟩, rfl⟩) (by simp (disch := first | omega | assumption) only [go_sem, ↓reduceIte])
        · simp (disch := first | omega | assumption) only [hal, hbl, hlt, hltb, hg, hgb, cN_len, cN_take, fitsN, keqN, hx, hli, go_sem, ↓reduceIte]
          have : a ≠ b := fun e => by
            rw [hd, hb] at e
            exact hx (List.cons.inj (List.append_cancel_left e)).1
          exact hQ _ _ _ _ nofun rfl (by simp [tupOf, envOf, AV.strip, AV.strip1, this])
  · have hli : ¬ ((a.length : Int) = b.length) := by omega
    simp (disch := first | omega | assumption) only [ir18, hal, hbl, hli, go_sem, ↓reduceIte]
    have : a ≠ b := fun e => hlen (by rw [e])
    exact hQ _ _ _ _ nofun rfl (by simp [tupOf, envOf, AV.strip, AV.strip1, this])
def lightN : List Need → Int → Int
  | [], n => n
  | x :: r, n => lightN r (IntKind.wrap .i64 (IntKind.wrap .i64 (IntKind.wrap .i64 (n + 1) + x.t.length) + x.k.length))
def lightB (l : List Need) : Bool := decide (lightN l 0 ≤ 3000) && decide (l.length ≤ 300)
theorem lightR (l : List Need) (hl : l.length ≤ maxLen) : Pure Try.prog 13 [.sl .no 2 (cNs l)] (.bool (lightB l)) := by
  refine Pure.go ir13 ck13 (Nat.le_refl _) fun KP Q hQ => ?_
  simp only [maxLen] at hl
  have hll := cNs_len l
  simp (disch := first | omega | assumption) only [ir13, go_sem, ↓reduceIte]
  refine goL_range l 4 (fun n : Int => [(3, .int .i64 n)]) (fun done rest n H => lightN rest n = lightN l 0 ∧ H = Heap.emp) 0 (by simp (disch := first | omega | assumption) only [go_sem, ↓reduceIte]) ⟨rfl, rfl⟩ ?_ ?_
  · rintro n H J ⟨hn, rfl⟩ hlt
    simp only [lightN] at hn
    subst hn
    by_cases h1 : lightN l 0 ≤ 3000
    · simp (disch := first | omega | assumption) only [hll, hlt, h1, go_sem, ↓reduceIte]
      refine hQ _ _ _ _ nofun rfl ?_
      simp [tupOf, envOf, AV.strip, AV.strip1, lightB, h1]
      omega
    · simp (disch := first | omega | assumption) only [hll, hlt, h1, go_sem, ↓reduceIte]
      exact hQ _ _ _ _ nofun rfl (by simp [tupOf, envOf, AV.strip, AV.strip1, lightB, h1])
  · rintro done x rest n H J hd hlt hlt' ⟨hn, rfl⟩ hJ
    have hg := cNs_get hd
    simp only [lightN] at hn
    simp (disch := first | omega | assumption) only [hll, hlt, hg, cN, go_sem, ↓reduceIte]
    have hw : IntKind.wrap .i64 ((done.length : Int) + 1) = done.length + 1 := wrap64 (by omega) (by omega)
    rw [hw]
    exact goJ (hJ _ _ ⟨hn, rfl⟩) (by simp (disch := first | omega | assumption) only [go_sem, ↓reduceIte])
end Go.Proofs.Ythkpgjnibolnhaa
namespace Go.Proofs.Ythkpgjnibolnhaa
open Go.Ab
structure Got where
  key : List UInt8
  typ : List UInt8
  cols : List Mem
  broken : Bool
  is : Bool
  e : Int
def g0 : Got := ⟨[], [], [], false, false, 0⟩
def cG (g : Got) : List AV := [.str g.key, .str g.typ, .sl .no 6 (cMs g.cols), .bool g.broken, .bool g.is, .int .i64 g.e]
def eG (es : List (Need × Got)) : List (AV × AV) := es.map fun x => (.agg (cN x.1), .agg (cG x.2))
def lookG : List (Need × Got) → Need → Option Got
  | [], _ => none
  | (a, g) :: r, n => if n = a then some g else lookG r n
def putG : List (Need × Got) → Need → Got → List (Need × Got)
  | [], n, g => [(n, g)]
  | (a, h) :: r, n, g => if n = a then (n, g) :: r else (a, h) :: putG r n g
theorem mget_eG (n : Need) : ∀ es, mget (eG es) (.agg (cN n)) = (lookG es n).map fun g => .agg (cG g)
  | [] => rfl
  | (a, g) :: r => by
    have := mget_eG n r
    simp only [eG] at this
    simp only [eG, List.map_cons, mget, keq_need, lookG, decide_eq_true_eq]
    by_cases h : n = a
    · simp [h]
    · simp [h, this]
theorem mset_eG (n : Need) (g : Got) : ∀ es, mset (eG es) (.agg (cN n)) (.agg (cG g)) = eG (putG es n g)
  | [] => rfl
  | (a, h) :: r => by
    have := mset_eG n g r
    simp only [eG] at this
    simp only [eG, List.map_cons, mset, keq_need, putG, decide_eq_true_eq]
    by_cases hn : n = a
    · simp [hn]
    · simp [hn, this]
theorem look_put (n n' : Need) (g : Got) : ∀ es, lookG (putG es n g) n' = if n' = n then some g else lookG es n'
  | [] => by simp [putG, lookG]
  | (a, h) :: r => by
    have := look_put n n' g r
    simp only [putG]
    by_cases hn : n = a
    · subst hn
      simp only [if_true, lookG]
      by_cases h' : n' = n <;> simp [h']
    · simp only [hn, if_false, lookG, this]
      by_cases h' : n' = a
      · subst h'
        simp [Ne.symm hn]
      · simp [h']
theorem put_mem {es : List (Need × Got)} {n : Need} {g : Got} {x : Need × Got} (h : x ∈ putG es n g) : x = (n, g) ∨ x ∈ es := by
  induction es with
  | nil => simpa [putG] using h
  | cons a r ih =>
    obtain ⟨a, h0⟩ := a
    simp only [putG] at h
    split at h
    · rcases List.mem_cons.1 h with h | h
      · exact .inl h
      · exact .inr (List.mem_cons_of_mem _ h)
    · rcases List.mem_cons.1 h with h | h
      · exact .inr (by rw [h]; exact List.mem_cons_self ..)
      · exact (ih h).imp id fun h => List.mem_cons_of_mem _ h
theorem look_mem {es : List (Need × Got)} {n : Need} {g : Got} (h : lookG es n = some g) : (n, g) ∈ es := by
  induction es with
  | nil => simp [lookG] at h
  | cons a r ih =>
    obtain ⟨a, h0⟩ := a
    simp only [lookG] at h
    split at h
    · rename_i e; cases h; rw [e]; exact List.mem_cons_self ..
    · exact List.mem_cons_of_mem _ (ih h)
theorem cG_strip (g : Got) : (cG g).map AV.strip1 = cG g := rfl
theorem cloneM (l : List Mem) (hl : l.length ≤ Big) : Pure Try.prog 62 [.sl .no 6 (cMs l)] (.sl .no 6 (cMs l)) := by
  refine Pure.go ir62 ck62 (Nat.le_refl _) fun KP Q hQ => ?_
  simp only [Big] at hl
  have hll := cMs_len l
  simp (disch := first | omega | assumption) only [ir62, go_sem, ↓reduceIte]
  refine goB_u (fun h => ?_) ?_
  · simp (disch := first | omega | assumption) only [go_sem, ↓reduceIte]
    exact hQ _ _ _ _ nofun rfl (by simp [tupOf, envOf, AV.strip, AV.strip1, h])
  · simp (disch := first | omega | assumption) only [go_sem, ↓reduceIte]
    refine goP_own (Owned.full _ _ _) ?_ ?_ fun o' H' h1 h2 h3 => ?_
    · simp [hll]; omega
    · simp [hll, maxLen]; omega
    · simp (disch := first | omega | assumption) only [go_sem, ↓reduceIte]
      refine hQ _ _ _ _ nofun rfl ?_
      simp only [tupOf, envOf, AV.strip, AV.strip1, List.nil_append, cMs_strip, if_true]
theorem gotP (g : Got) (hg : g.cols.length ≤ Big) : Pure Try.prog 57 [.agg (cG g)] (.agg (cG g)) := by
  refine Pure.go ir57 ck57 (Nat.le_refl _) fun KP Q hQ => ?_
  simp (disch := first | omega | assumption) only [ir57, cG, go_sem, ↓reduceIte]
  refine goA_intro fun b1 hb1 => ?_
  simp (disch := first | omega | assumption) only [go_sem, ↓reduceIte]
  refine goA_intro fun b2 hb2 => ?_
  have hne := ne_fresh hb2
  simp (disch := first | omega | assumption) only [hne, Ne.symm hne, go_sem, ↓reduceIte]
  refine goK_pure (cloneM g.cols hg) ?_
  simp (disch := first | omega | assumption) only [hne, Ne.symm hne, go_sem, ↓reduceIte]
  refine hQ _ _ _ [.agg (cG g)] nofun (by simp (disch := first | omega | assumption) only [ir57, resvs, resv, cG, go_sem, ↓reduceIte]) ?_
  simp [tupOf, AV.strip, cG_strip]
structure CacheAt (H : Heap) (c m : Nat) (es : List (Need × Got)) : Prop where
  hc : H c = some (.cells [.mp m])
  hm : H m = some (.map (.agg [.s, .s]) (eG es))
theorem CacheAt.ne {H : Heap} {c m : Nat} {es : List (Need × Got)} (h : CacheAt H c m es) : c ≠ m := fun e => by subst e; have := h.hc; rw [h.hm] at this; cases this
theorem CacheAt.sub {H H' : Heap} {c m : Nat} {es : List (Need × Got)} (h : CacheAt H c m es) (hs : Sub H H') : CacheAt H' c m es := ⟨hs _ _ h.hc, hs _ _ h.hm⟩
def okG (es : List (Need × Got)) : Prop := ∀ x ∈ es, x.2.cols.length ≤ Big
theorem okG.look {es : List (Need × Got)} (h : okG es) (n : Need) : ((lookG es n).getD g0).cols.length ≤ Big := by
  cases hl : lookG es n with
  | none => simp [g0]
  | some g => exact h _ (look_mem hl)
theorem okG.put {es : List (Need × Got)} (h : okG es) {n : Need} {g : Got} (hg : g.cols.length ≤ Big) : okG (putG es n g) := fun x hx => by
  rcases put_mem hx with rfl | hx
  · exact hg
  · exact h x hx
theorem newC (H : Heap) : ACalls Try.prog 27 [] H (fun e H' => ∃ v, e = .ret v ∧ (∃ c m, v = .ptr c 0 ∧ H c = none ∧ H m = none ∧ CacheAt H' c m [] ∧ Sub H H')) := by
  refine ACalls.go ir27 ck27 (Nat.le_refl _) fun KP Q hQ => ?_
  simp (disch := first | omega | assumption) only [ir27, go_sem, ↓reduceIte]
  refine goA_intro fun m hm => ?_
  simp (disch := first | omega | assumption) only [go_sem, ↓reduceIte]
  refine goA_intro fun c hc => ?_
  have hne := ne_fresh hc
  simp (disch := first | omega | assumption) only [go_sem, ↓reduceIte]
  refine hQ _ _ _ _ _ nofun rfl (Low.refl _) ⟨c, m, rfl, fresh_of hc, hm, ⟨upd_same .., by rw [upd_ne (Ne.symm hne), upd_same]; rfl⟩, sub_upd (sub_upd (sub_refl H) hm) hc⟩
theorem tellC {H : Heap} {c m : Nat} {es : List (Need × Got)} (hc : CacheAt H c m es) (n : Need) (g : Got) (hg : g.cols.length ≤ Big) :
    ACalls Try.prog 29 [.ptr c 0, .agg (cN n), .agg (cG g)] H (fun e H' => ∃ v, e = .ret v ∧ (v = .tup [] ∧ H' = H.upd m (.map (.agg [.s, .s]) (eG (putG es n g))))) := by
  refine ACalls.go ir29 ck29 (Nat.le_refl _) fun KP Q hQ => ?_
  have h1 := hc.hc
  have h2 := hc.hm
  have hfit : KT.fits (.agg [.s, .s]) (.agg (cN n)) = true := rfl
  have hms := mset_eG n g es
  have hgl : (cG g).length = 6 := rfl
  have hgt : (cG g).take 6 = cG g := rfl
  simp (disch := first | omega | assumption) only [ir29, h1, h2, cN_len, cN_take, hgl, hgt, go_sem, ↓reduceIte]
  refine goK_pure (gotP g hg) ?_
  simp (disch := first | omega | assumption) only [h1, h2, hfit, hms, cN_len, cN_take, go_sem, ↓reduceIte]
  exact hQ _ _ _ _ _ nofun rfl (Low.refl _) ⟨rfl, rfl⟩
theorem knowC {H : Heap} {c m : Nat} {es : List (Need × Got)} (hc : CacheAt H c m es) (ho : okG es) (n : Need) :
    ACalls Try.prog 34 [.ptr c 0, .agg (cN n)] H (fun e H' => ∃ v, e = .ret v ∧ (v = .tup [.agg (cG ((lookG es n).getD g0)), .bool (lookG es n).isSome] ∧ H' = H)) := by
  refine ACalls.go ir34 ck34 (Nat.le_refl _) fun KP Q hQ => ?_
  have h1 := hc.hc
  have h2 := hc.hm
  have hfit : KT.fits (.agg [.s, .s]) (.agg (cN n)) = true := rfl
  have hmg := mget_eG n es
  have hz : ((lookG es n).map fun g => AV.agg (cG g)).getD (.agg [.str [], .str [], .sl .nil 6 [], .bool false, .bool false, .int .i64 0]) = .agg (match lookG es n with | some g => cG g | none => [.str [], .str [], .sl .nil 6 [], .bool false, .bool false, .int .i64 0]) := by
    cases lookG es n <;> rfl
  have hsm : ((lookG es n).map fun g => AV.agg (cG g)).isSome = (lookG es n).isSome := by simp
  simp (disch := first | omega | assumption) only [ir34, go_sem, ↓reduceIte]
  refine goA_intro fun b4 hb4 => ?_
  have hn1 := ne_of_none hb4 h1
  have hn2 := ne_of_none hb4 h2
  obtain ⟨gr, hgr⟩ : ∃ gr, lookG es n = gr := ⟨_, rfl⟩
  have hb := ho.look n
  rw [hgr] at hmg hz hsm hb
  have fin : ∀ H1, Sub H H1 → ∀ (g : Got), True := fun _ _ _ => trivial
  cases gr with
  | none =>
    simp (disch := first | omega | assumption) only [h1, h2, hn1, hn2, Ne.symm hn1, Ne.symm hn2, hfit, cN_len, cN_take, hmg, lkres, Option.map_none, Option.getD_none, Option.isSome_none, go_sem, ↓reduceIte]
    refine goA_intro fun b6 hb6 => ?_
    have hn3 := ne_fresh hb6
    simp (disch := first | omega | assumption) only [hn3, Ne.symm hn3, go_sem, ↓reduceIte]
    refine goK_pure (Pure.low (gotP g0 (by simp [g0]))) ?_
    simp (disch := first | omega | assumption) only [hn3, Ne.symm hn3, cG, g0, go_sem, ↓reduceIte]
    refine hQ _ _ _ H [.agg (cG g0), .bool false] nofun (by simp (disch := first | omega | assumption) only [ir34, resvs, resv, cG, g0, hn3, Ne.symm hn3, go_sem, ↓reduceIte]) ?_ ⟨?_, rfl⟩
    · refine Low.of_sub fun b o hbo => ?_
      have e1 : b ≠ b4 := fun e => by subst e; rw [hb4] at hbo; cases hbo
      have e2 : b ≠ b6 := fun e => by subst e; have := fresh_of hb6; rw [hbo] at this; cases this
      simp [Heap.upd, e1, e2, hbo]
    · rw [hgr]; simp [tupOf, AV.strip, cG_strip, AV.strip1]
  | some g =>
    simp (disch := first | omega | assumption) only [h1, h2, hn1, hn2, Ne.symm hn1, Ne.symm hn2, hfit, cN_len, cN_take, hmg, lkres, Option.map_some, Option.getD_some, Option.isSome_some, go_sem, ↓reduceIte]
    refine goA_intro fun b6 hb6 => ?_
    have hn3 := ne_fresh hb6
    simp (disch := first | omega | assumption) only [hn3, Ne.symm hn3, cG, go_sem, ↓reduceIte]
    refine goK_pure (gotP g hb) ?_
    simp (disch := first | omega | assumption) only [hn3, Ne.symm hn3, cG, go_sem, ↓reduceIte]
    refine hQ _ _ _ H [.agg (cG g), .bool true] nofun (by simp (disch := first | omega | assumption) only [ir34, resvs, resv, cG, hn3, Ne.symm hn3, go_sem, ↓reduceIte]) ?_ ⟨?_, rfl⟩
    · refine Low.of_sub fun b o hbo => ?_
      have e1 : b ≠ b4 := fun e => by subst e; rw [hb4] at hbo; cases hbo
      have e2 : b ≠ b6 := fun e => by subst e; have := fresh_of hb6; rw [hbo] at this; cases this
      simp [Heap.upd, e1, e2, hbo]
    · rw [hgr]; simp [tupOf, AV.strip, cG_strip, AV.strip1]
theorem knowNil (n : Need) : Pure Try.prog 34 [.nilp, .agg (cN n)] (.tup [.agg (cG g0), .bool false]) := by
  refine Pure.go ir34 ck34 (Nat.le_refl _) fun KP Q hQ => ?_
  simp (disch := first | omega | assumption) only [ir34, go_sem, ↓reduceIte]
  refine goA_intro fun b4 hb4 => ?_
  simp (disch := first | omega | assumption) only [go_sem, ↓reduceIte]
  refine hQ _ _ _ [.agg [.str [], .str [], .sl .nil 6 [], .bool false, .bool false, .int .i64 0], .bool false] nofun (by simp (disch := first | omega | assumption) only [ir34, resvs, resv, go_sem, ↓reduceIte]) (by simp [tupOf, AV.strip, AV.strip1, cG, g0, cMs])
theorem flushC {H : Heap} {c m : Nat} {es : List (Need × Got)} (hc : CacheAt H c m es) :
    ACalls Try.prog 33 [.ptr c 0] H (fun e H' => ∃ v, e = .ret v ∧ (v = .tup [] ∧ ∃ m', H m' = none ∧ CacheAt H' c m' [] ∧ ∀ b x, b ≠ c → H b = some x → H' b = some x)) := by
  refine ACalls.go ir33 ck33 (Nat.le_refl _) fun KP Q hQ => ?_
  have h1 := hc.hc
  simp (disch := first | omega | assumption) only [ir33, h1, go_sem, ↓reduceIte]
  refine goA_intro fun d hd => ?_
  have hne := ne_of_none hd h1
  simp (disch := first | omega | assumption) only [h1, hne, Ne.symm hne, go_sem, ↓reduceIte]
  refine hQ _ _ _ _ _ nofun rfl (Low.refl _) ⟨rfl, d, hd, ⟨upd_same .., by rw [upd_ne hne, upd_same]; rfl⟩, fun b x hb hx => ?_⟩
  have : b ≠ d := fun e => by subst e; rw [hd] at hx; cases hx
  rw [upd_ne hb, upd_ne this]; exact hx
def freshG (es : List (Need × Got)) (l : List Need) : List Need := (dd [] l).filter fun n => (lookG es n).isNone
theorem freshC {H : Heap} {c m : Nat} {es : List (Need × Got)} (hc : CacheAt H c m es) (ho : okG es) (l : List Need) (hl : l.length ≤ Big) :
    ACalls Try.prog 31 [.ptr c 0, .sl .no 2 (cNs l)] H (fun e H' => ∃ v, e = .ret v ∧ (v = .sl .no 2 (cNs (freshG es l)) ∧ H' = H)) := by
  refine ACalls.go ir31 ck31 (Nat.le_refl _) fun KP Q hQ => ?_
  have hlb := hl
  simp only [Big] at hlb
  simp (disch := first | omega | assumption) only [ir31, go_sem, ↓reduceIte]
  refine goK_pure (onceP l hl) ?_
  obtain ⟨o, hod⟩ : ∃ o, dd [] l = o := ⟨_, rfl⟩
  have hol : o.length ≤ 4294967296 := by have := dd_len l []; rw [hod] at this; simp at this; omega
  have hll := cNs_len o
  rw [hod]
  simp (disch := first | omega | assumption) only [hll, go_sem, ↓reduceIte]
  refine goL_range o 13 (fun s : Own × List Need => [(5, .sl s.1 2 (cNs s.2))]) (fun done rest s H' => s.2 = done.filter (fun n => (lookG es n).isNone) ∧ OwnF H H' s.1 s.2.length 2) (.nil, []) (by simp (disch := first | omega | assumption) only [go_sem, ↓reduceIte] <;> simp [cNs]) ⟨rfl, OwnF.nil _ _⟩ ?_ ?_
  · rintro ⟨o1, out⟩ H1 J ⟨hout, how⟩ hlt
    simp only at hout
    subst hout
    simp (disch := first | omega | assumption) only [hll, hlt, go_sem, ↓reduceIte]
    refine hQ _ _ _ H _ nofun rfl (Low.of_sub how.sub) ⟨?_, rfl⟩
    simp [tupOf, envOf, AV.strip, AV.strip1, freshG, hod]
  · rintro done x rest ⟨o1, out⟩ H1 J hd hlt hlt' ⟨hout, how⟩ hJ
    have hg := cNs_get hd
    simp only at hout how
    have hob : out.length ≤ done.length := by rw [hout]; exact List.length_filter_le _ _
    have hol2 := cNs_len out
    have hfs : (done ++ [x]).filter (fun n => (lookG es n).isNone) = if (lookG es x).isNone then out ++ [x] else out := by
      rw [List.filter_append, List.filter_cons, List.filter_nil, ← hout]
      cases lookG es x <;> simp
    simp (disch := first | omega | assumption) only [hll, hlt, hg, cN, go_sem, ↓reduceIte]
    refine goA_intro fun b7 hb7 => ?_
    have how7 := how.upd (x := .cells [.str x.t, .str x.k]) hb7
    simp (disch := first | omega | assumption) only [go_sem, ↓reduceIte]
    refine goK_ret (knowC (hc.sub how7.sub) ho x) fun v H2 ⟨hv, hH⟩ => ?_
    subst hv; subst hH
    simp (disch := first | omega | assumption) only [go_sem, ↓reduceIte]
    refine goA_intro fun b8 hb8 => ?_
    have hne := ne_fresh hb8
    obtain ⟨gr, hgr⟩ : ∃ gr, lookG es x = gr := ⟨_, rfl⟩
    rw [hgr] at hfs
    rw [hgr]
    have how8 := how7.upd (x := .cells (cG (gr.getD g0))) hb8
    cases gr with
    | none =>
      simp only [Option.isNone_none, if_true] at hfs
      simp (disch := first | omega | assumption) only [cG, Option.getD_none, Option.isSome_none, hne, Ne.symm hne, go_sem, ↓reduceIte]
      refine goP_ownS (by rw [hol2]; exact how8.own) ?_ ?_ fun o' H' hos => ?_
      · simp only [hol2, List.length_cons, List.length_nil]; omega
      · simp only [hol2, List.length_cons, List.length_nil, maxLen]; omega
      simp only [hol2, List.length_cons, List.length_nil, Nat.zero_add] at hos
      simp (disch := first | omega | assumption) only [wrap64, AV.strip1, cNs_app, go_sem, ↓reduceIte]
      exact goJ (hJ (o', out ++ [x]) _ ⟨hfs.symm, by simpa using how8.stepS hos⟩) (by simp (disch := first | omega | assumption) only [hll, go_sem, ↓reduceIte])
    | some g =>
      simp only [Option.isNone_some, Bool.false_eq_true, if_false] at hfs
      simp (disch := first | omega | assumption) only [cG, Option.getD_some, Option.isSome_some, hne, Ne.symm hne, wrap64, go_sem, ↓reduceIte]
      exact goJ (hJ (o1, out) _ ⟨hfs.symm, how8⟩) (by simp (disch := first | omega | assumption) only [hll, go_sem, ↓reduceIte])
end Go.Proofs.Ythkpgjnibolnhaa
namespace Go.Proofs.Ythkpgjnibolnhaa
open Go.Ab
def rcS (s : Nat) (p : List (List (List UInt8)) × List (List UInt8)) (x : List UInt8) : List (List (List UInt8)) × List (List UInt8) := if p.2.length = s then (p.1 ++ [p.2], [x]) else (p.1, p.2 ++ [x])
def rc (s : Nat) (ks : List (List UInt8)) : List (List (List UInt8)) × List (List UInt8) := ks.foldl (rcS s) ([], [])
end Go.Proofs.Ythkpgjnibolnhaa
namespace Go.Proofs.Ythkpgjnibolnhaa
open Go.Ab
end Go.Proofs.Ythkpgjnibolnhaa
namespace Go.Proofs.Ythkpgjnibolnhaa
open Go.Ab
def exL : List Need := [⟨[97], [49]⟩, ⟨[98], [49]⟩, ⟨[97], [50]⟩, ⟨[97], [49]⟩, ⟨[97], [51]⟩]
theorem exL_plan : planP (clampS 2) exL = [⟨[97], [[49], [50]]⟩, ⟨[97], [[51]]⟩, ⟨[98], [[49]]⟩] := by decide
theorem awakeB : Pure Try.prog 14 [] (.bool true) := by
  refine Pure.go ir14 ck14 (Nat.le_refl _) fun KP Q hQ => ?_
  simp (disch := first | omega | assumption) only [ir14, go_sem, ↓reduceIte]
  refine goK_pure (needP _ _) ?_
  simp (disch := first | omega | assumption) only [go_sem, ↓reduceIte]
  refine goK_pure (needP _ _) ?_
  simp (disch := first | omega | assumption) only [go_sem, ↓reduceIte]
  refine goK_pure (needP _ _) ?_
  simp (disch := first | omega | assumption) only [go_sem, ↓reduceIte]
  refine goK_pure (needP _ _) ?_
  simp (disch := first | omega | assumption) only [go_sem, ↓reduceIte]
  refine goK_pure (needP _ _) ?_
  simp (disch := first | omega | assumption) only [go_sem, ↓reduceIte]
  refine goK_pure (Pure.low (planA 2 exL (by decide))) ?_
  rw [exL_plan]
  simp (disch := first | omega | assumption) only [cBs, cB, cT, go_sem, ↓reduceIte]
  exact hQ _ _ _ _ nofun rfl (by simp [tupOf, envOf, AV.strip, AV.strip1])
theorem light_len {l : List Need} (h : lightB l = true) : l.length ≤ 300 := by
  simp only [lightB, Bool.and_eq_true, decide_eq_true_eq] at h; exact h.2
end Go.Proofs.Ythkpgjnibolnhaa
namespace Go.Proofs.Ythkpgjnibolnhaa
open Go.Ab
theorem okG_nil : okG [] := fun x hx => by cases hx
theorem CacheAt.upd {H : Heap} {c m : Nat} {es : List (Need × Got)} (h : CacheAt H c m es) (n : Need) (g : Got) : CacheAt (H.upd m (.map (.agg [.s, .s]) (eG (putG es n g)))) c m (putG es n g) :=
  ⟨by rw [upd_ne h.ne]; exact h.hc, upd_same ..⟩
theorem fresh (k l : List Need) (hk : k.length ≤ maxLen) (hl : l.length ≤ maxLen) : Pure Try.prog 9 [.sl .no 2 (cNs k), .sl .no 2 (cNs l)] (.bool true) := by
  refine Pure.go ir9 ck9 (Nat.le_refl _) fun KP Q hQ => ?_
  have hkl := cNs_len k
  have hll := cNs_len l
  have aw : ∀ (ρ : Env) (H : Heap), True := fun _ _ => trivial
  simp (disch := first | omega | assumption) only [ir9, go_sem, ↓reduceIte]
  refine goK_pure (lightR k hk) ?_
  by_cases h1 : lightB k = true
  · have hk3 := light_len h1
    simp (disch := first | omega | assumption) only [h1, go_sem, ↓reduceIte]
    refine goK_pure (lightR l hl) ?_
    by_cases h2 : lightB l = true
    · have hl3 := light_len h2
      simp (disch := first | omega | assumption) only [h2, go_sem, ↓reduceIte]
      refine goK_ret (newC _) fun v H ⟨c, m, hv, _, _, hc, _⟩ => ?_
      subst hv
      simp (disch := first | omega | assumption) only [go_sem, ↓reduceIte]
      refine goL_range k 6 (fun _ : Unit => []) (fun done rest _ H => ∃ es, CacheAt H c m es ∧ okG es ∧ ∀ n, (lookG es n).isSome = decide (n ∈ done)) () (by simp (disch := first | omega | assumption) only [go_sem, ↓reduceIte]) ⟨[], hc, okG_nil, fun n => rfl⟩ ?_ ?_
      · rintro ⟨⟩ H J ⟨es, hc, hok, hlk⟩ hlt
        simp (disch := first | omega | assumption) only [hkl, hlt, go_sem, ↓reduceIte]
        refine goK_ret (freshC hc hok l (by simp only [Big]; omega)) fun v H1 ⟨hv, hH⟩ => ?_
        subst hv; subst hH
        obtain ⟨f, hf⟩ : ∃ f, freshG es l = f := ⟨_, rfl⟩
        have hfm : ∀ n, n ∈ f ↔ n ∈ l ∧ n ∉ k := fun n => by
          rw [← hf, freshG, List.mem_filter, dd_mem]
          have := hlk n
          cases hx : lookG es n <;> simp_all
        have hfn : f.Nodup := by rw [← hf]; exact (dd_nodup l [] List.nodup_nil).sublist List.filter_sublist
        have hfl : f.length ≤ 300 := by
          rw [← hf]; have h3 := List.length_filter_le (fun n => (lookG es n).isNone) (dd [] l); have h4 := dd_len l []; simp at h4; simp only [freshG]; omega
        have hfll := cNs_len f
        rw [hf]
        simp (disch := first | omega | assumption) only [go_sem, ↓reduceIte]
        refine goL_range f 8 (fun _ : Unit => []) (fun done rest _ H' => Sub H1 H') () (by simp (disch := first | omega | assumption) only [go_sem, ↓reduceIte]) (sub_refl _) ?_ ?_
        · rintro ⟨⟩ H1' J1 hs hlt1
          have hc1 := hc.sub hs
          simp (disch := first | omega | assumption) only [hfll, hlt1, go_sem, ↓reduceIte]
          refine goL_range f 11 (fun _ : Unit => []) (fun done rest _ H => ∃ es, CacheAt H c m es ∧ okG es ∧ ∀ n, (lookG es n).isSome = (decide (n ∈ k) || decide (n ∈ done))) () (by simp (disch := first | omega | assumption) only [go_sem, ↓reduceIte]) ⟨es, hc1, hok, fun n => by simpa using hlk n⟩ ?_ ?_
          · rintro ⟨⟩ H2 J2 ⟨es2, hc2, hok2, hlk2⟩ hlt2
            simp (disch := first | omega | assumption) only [hfll, hlt2, go_sem, ↓reduceIte]
            refine goK_ret (freshC hc2 hok2 l (by simp only [Big]; omega)) fun v H3 ⟨hv, hH⟩ => ?_
            subst hv; subst hH
            have hnil : freshG es2 l = [] := by
              rw [freshG, List.filter_eq_nil_iff]
              intro n hn
              have hn := ((dd_mem _ _ _).1 hn).resolve_left (by simp)
              have hs := hlk2 n
              have : n ∈ k ∨ n ∈ f := by
                by_cases h : n ∈ k
                · exact .inl h
                · exact .inr ((hfm n).2 ⟨hn, h⟩)
              have h5 : (lookG es2 n).isSome = true := by rw [hs]; rcases this with h | h <;> simp [h]
              cases hx : lookG es2 n <;> simp_all
            rw [hnil]
            simp (disch := first | omega | assumption) only [cNs, List.map_nil, go_sem, ↓reduceIte]
            refine goK_ret (flushC hc2) fun v H3 ⟨hv, m', _, hc3, _⟩ => ?_
            subst hv
            simp (disch := first | omega | assumption) only [go_sem, ↓reduceIte]
            refine goK_ret (freshC hc3 okG_nil l (by simp only [Big]; omega)) fun v H4 ⟨hv, hH⟩ => ?_
            subst hv; subst hH
            have hall : freshG [] l = dd [] l := by rw [freshG, List.filter_eq_self]; intro n _; rfl
            rw [hall]
            simp (disch := first | omega | assumption) only [go_sem, ↓reduceIte]
            refine goK_pure (onceR l (by simp only [Big]; omega)) ?_
            simp (disch := first | omega | assumption) only [go_sem, ↓reduceIte]
            refine goK_pure (sameNeedsR _ _ (by have h4 := dd_len l []; simp at h4; simp only [Big]; omega)) ?_
            simp (disch := first | omega | assumption) only [go_sem, ↓reduceIte]
            refine goK_pure awakeB ?_
            simp (disch := first | omega | assumption) only [go_sem, ↓reduceIte]
            exact hQ _ _ _ _ nofun rfl (by simp [tupOf, envOf, AV.strip, AV.strip1])
          · rintro done x rest ⟨⟩ H2 J2 hd hlt2 hlt2' ⟨es2, hc2, hok2, hlk2⟩ hJ2
            have hg := cNs_get hd
            simp (disch := first | omega | assumption) only [hfll, hlt2, hg, cN_len, cN_take, Int.reduceToNat, go_sem, ↓reduceIte]
            refine goK_ret (ACalls.low (tellC hc2 x ⟨[], [], [], false, true, 0⟩ (by simp))) fun v H3 ⟨hv, hH⟩ => ?_
            subst hv; subst hH
            simp (disch := first | omega | assumption) only [wrap64, go_sem, ↓reduceIte]
            refine goJ (hJ2 () _ ⟨_, hc2.upd x ⟨[], [], [], false, true, 0⟩, hok2.put (by simp), fun n => ?_⟩) (by simp (disch := first | omega | assumption) only [hfll, go_sem, ↓reduceIte])
            rw [look_put]
            by_cases hn : n = x
            · simp [hn]
            · simp [hn, hlk2 n]
        · rintro done x rest ⟨⟩ H1' J1 hd hlt1 hlt1' hs hJ1
          have hg := cNs_get hd
          have hxf : x ∈ f := by rw [hd]; simp
          obtain ⟨hxl, hxk⟩ := (hfm x).1 hxf
          have hx0 : (lookG es x).isSome = false := by rw [hlk]; simp [hxk]
          have hx1 : lookG es x = none := by cases h : lookG es x <;> simp_all
          have hxd : x ∉ done := fun hm => by rw [hd, List.nodup_append] at hfn; exact hfn.2.2 x hm x (List.mem_cons_self ..) rfl
          simp (disch := first | omega | assumption) only [hfll, hlt1, hg, cN_len, cN_take, go_sem, ↓reduceIte]
          refine goK_ret (knowC (hc.sub hs) hok x) fun v H2 ⟨hv, hH⟩ => ?_
          subst hv; subst hH
          rw [hx1]
          simp (disch := first | omega | assumption) only [Option.getD_none, Option.isSome_none, cG, g0, go_sem, ↓reduceIte]
          refine goA_intro fun b9 hb9 => ?_
          simp (disch := first | omega | assumption) only [hfll, hlt1, hg, cN_len, cN_take, go_sem, ↓reduceIte]
          refine goK_pure (hasNeedR k (by simp only [Big]; omega) x) ?_
          simp (disch := first | omega | assumption) only [hxk, hfll, hlt1, hg, cN_len, cN_take, go_sem, ↓reduceIte]
          refine goK_pure (hasNeedR l (by simp only [Big]; omega) x) ?_
          have htk : (cNs f).take done.length = cNs done := by rw [hd]; simp [cNs]
          have hle1 : (done.length : Int) ≤ f.length := by omega
          simp (disch := first | omega | assumption) only [hxl, hfll, hlt1, hg, cN_len, cN_take, htk, hle1, Option.isNone_some, go_sem, ↓reduceIte]
          refine goK_pure (hasNeedR done (by simp only [Big]; omega) x) ?_
          simp (disch := first | omega | assumption) only [hxd, wrap64, go_sem, ↓reduceIte]
          exact goJ (hJ1 () _ (sub_upd hs hb9)) (by simp (disch := first | omega | assumption) only [hfll, go_sem, ↓reduceIte])
      · rintro done x rest ⟨⟩ H2 J2 hd hlt2 hlt2' ⟨es2, hc2, hok2, hlk2⟩ hJ2
        have hg := cNs_get hd
        simp (disch := first | omega | assumption) only [hkl, hlt2, hg, cN_len, cN_take, go_sem, ↓reduceIte]
        refine goK_ret (ACalls.low (tellC hc2 x g0 (by simp [g0]))) fun v H3 ⟨hv, hH⟩ => ?_
        subst hv; subst hH
        simp (disch := first | omega | assumption) only [wrap64, go_sem, ↓reduceIte]
        refine goJ (hJ2 () _ ⟨_, hc2.upd x g0, hok2.put (by simp [g0]), fun n => ?_⟩) (by simp (disch := first | omega | assumption) only [hkl, go_sem, ↓reduceIte])
        rw [look_put]
        by_cases hn : n = x
        · simp [hn]
        · simp [hn, hlk2 n]
    · have h2 : lightB l = false := by simpa using h2
      simp (disch := first | omega | assumption) only [h2, go_sem, ↓reduceIte]
      refine goK_pure awakeB ?_
      simp (disch := first | omega | assumption) only [go_sem, ↓reduceIte]
      exact hQ _ _ _ _ nofun rfl (by simp [tupOf, envOf, AV.strip, AV.strip1])
  · have h1 : lightB k = false := by simpa using h1
    simp (disch := first | omega | assumption) only [h1, go_sem, ↓reduceIte]
    refine goK_pure awakeB ?_
    simp (disch := first | omega | assumption) only [go_sem, ↓reduceIte]
    exact hQ _ _ _ _ nofun rfl (by simp [tupOf, envOf, AV.strip, AV.strip1])
end Go.Proofs.Ythkpgjnibolnhaa
