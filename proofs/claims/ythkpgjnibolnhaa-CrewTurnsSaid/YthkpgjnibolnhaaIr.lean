/- The abstract code of the functions, written by program (irgen.py), each checked against the loaded program by the kernel. -/
import Derived.Test.YthkpgjnibolnhaaAbsL
import Derived.Test.YthkpgjnibolnhaaRows
set_option maxRecDepth 100000
namespace Go.Proofs.Ythkpgjnibolnhaa
open Go.Ab

/-- seine seinelaw30.BatchPlans -/
def ir3 : AFn := ⟨27, 2, [.t 4], .seq (.reg [] [⟨(some 4), none, .mv (.k (.bool false)), []⟩])
  (.seq (.seq (.reg [] [⟨(some 6), none, .mv (.t 1), []⟩, ⟨(some 7), none, .call 13 [(.t 6)], []⟩, ⟨(some 8), none, .not (.t 7), []⟩])
  (.cond (.t 8) (.seq (.reg [] [⟨(some 9), none, .call 14 [], []⟩, ⟨(some 4), none, .mv (.t 9), []⟩])
   (.ret)) (.skip)))
  (.seq (.reg [] [⟨(some 10), none, .mv (.t 1), []⟩, ⟨(some 11), none, .app 2 32 (.k (.sl .nil 2 [])) (.t 10), []⟩, ⟨(some 5), none, .mv (.t 11), []⟩])
  (.seq (.reg [] [⟨(some 12), none, .mv (.t 0), []⟩, ⟨(some 13), none, .mv (.t 5), []⟩, ⟨(some 14), none, .call 16 [(.t 12), (.t 13)], []⟩, ⟨(some 15), none, .mv (.t 0), []⟩, ⟨(some 16), none, .mv (.t 1), []⟩, ⟨(some 17), none, .call 17 [(.t 15), (.t 16)], []⟩, ⟨(some 18), none, .call 15 [(.t 14), (.t 17)], []⟩, ⟨(some 19), none, .mv (.t 18), []⟩, ⟨(some 20), (some (19, true)), .mv (.t 5), []⟩, ⟨(some 21), (some (19, true)), .mv (.t 1), []⟩, ⟨(some 22), (some (19, true)), .call 18 [(.t 20), (.t 21)], []⟩, ⟨(some 23), none, .pick (.t 19) (.t 22) (.k (.bool false)), []⟩, ⟨(some 24), none, .mv (.t 23), []⟩, ⟨(some 25), (some (24, true)), .call 14 [], []⟩, ⟨(some 26), none, .pick (.t 24) (.t 25) (.k (.bool false)), []⟩, ⟨(some 4), none, .mv (.t 26), []⟩])
  (.ret))))⟩
theorem ck3 : chkFn Try.prog 3 ir3 = true := by kernel_rfl

/-- seine seinelaw30.BatchOnce -/
def ir4 : AFn := ⟨96, 2, [.t 4], .seq (.reg [] [⟨(some 4), none, .mv (.k (.bool false)), []⟩])
  (.seq (.seq (.reg [] [⟨(some 12), none, .mv (.t 1), []⟩, ⟨(some 13), none, .call 13 [(.t 12)], []⟩, ⟨(some 14), none, .not (.t 13), []⟩])
  (.cond (.t 14) (.seq (.reg [] [⟨(some 15), none, .call 14 [], []⟩, ⟨(some 4), none, .mv (.t 15), []⟩])
   (.ret)) (.skip)))
  (.seq (.reg [] [⟨(some 16), none, .mv (.t 0), []⟩, ⟨(some 17), none, .mv (.t 1), []⟩, ⟨(some 18), none, .call 16 [(.t 16), (.t 17)], []⟩, ⟨(some 5), none, .mv (.t 18), []⟩])
  (.seq (.reg [] [⟨(some 19), none, .mv (.t 0), []⟩, ⟨(some 20), none, .mm true (.t 19) [(.k (.int .i64 1))], []⟩, ⟨(some 21), none, .mm false (.t 20) [(.k (.int .i64 64))], []⟩, ⟨(some 6), none, .mv (.t 21), []⟩])
  (.seq (.reg [] [⟨(some 7), none, .mv (.k (.sl .nil 2 [])), []⟩])
  (.seq (.seq (.reg [] [⟨(some 8), none, .mv (.k (.int .i64 0)), []⟩])
  (.block 0 (.loop [1, 5, 6, 7, 8] (.seq (.seq (.reg [] [⟨(some 22), none, .mv (.t 8), []⟩, ⟨(some 23), none, .mv (.t 5), []⟩, ⟨(some 24), none, .len (.t 23), []⟩, ⟨(some 25), none, .bi .lss .i64 (.t 22) (.t 24), []⟩])
    (.cond (.t 25) (.skip) (.exit 0)))
    (.seq (.block 1 (.seq (.seq (.reg [] [⟨(some 28), none, .mv (.t 5), []⟩, ⟨(some 29), none, .mv (.t 8), []⟩, ⟨(some 30), none, .ia 2 (.t 28) (.t 29), []⟩, ⟨(some 31), none, .fa 1 (.t 30), []⟩, ⟨(some 32), none, .ld 1 false (.t 31), []⟩, ⟨(some 33), none, .len (.t 32), []⟩, ⟨(some 34), none, .bi .lss .i64 (.t 33) (.k (.int .i64 1)), []⟩, ⟨(some 35), none, .mv (.t 34), []⟩, ⟨(some 36), (some (35, false)), .mv (.t 5), []⟩, ⟨(some 37), (some (35, false)), .mv (.t 8), []⟩, ⟨(some 38), (some (35, false)), .ia 2 (.t 36) (.t 37), []⟩, ⟨(some 39), (some (35, false)), .fa 1 (.t 38), []⟩, ⟨(some 40), (some (35, false)), .ld 1 false (.t 39), []⟩, ⟨(some 41), (some (35, false)), .len (.t 40), []⟩, ⟨(some 42), (some (35, false)), .mv (.t 6), []⟩, ⟨(some 43), (some (35, false)), .bi .gtr .i64 (.t 41) (.t 42), []⟩, ⟨(some 44), none, .pick (.t 35) (.k (.bool true)) (.t 43), []⟩])
     (.cond (.t 44) (.seq (.reg [] [⟨(some 4), none, .mv (.k (.bool false)), []⟩])
      (.ret)) (.skip)))
     (.seq (.reg [] [⟨(some 9), none, .mv (.k (.int .i64 0)), []⟩])
     (.block 2 (.loop [1, 5, 6, 7, 8, 9] (.seq (.seq (.reg [] [⟨(some 45), none, .mv (.t 9), []⟩, ⟨(some 46), none, .mv (.t 5), []⟩, ⟨(some 47), none, .mv (.t 8), []⟩, ⟨(some 48), none, .ia 2 (.t 46) (.t 47), []⟩, ⟨(some 49), none, .fa 1 (.t 48), []⟩, ⟨(some 50), none, .ld 1 false (.t 49), []⟩, ⟨(some 51), none, .len (.t 50), []⟩, ⟨(some 52), none, .bi .lss .i64 (.t 45) (.t 51), []⟩])
       (.cond (.t 52) (.skip) (.exit 2)))
       (.seq (.block 3 (.seq (.reg [0, 1, 2, 3, 4, 5, 6, 7, 8, 9, 10, 11, 12, 13, 14, 15] [⟨(some 55), none, .mv (.t 5), []⟩, ⟨(some 56), none, .mv (.t 8), []⟩, ⟨(some 57), none, .ia 2 (.t 55) (.t 56), []⟩, ⟨(some 58), none, .fa 0 (.t 57), []⟩, ⟨(some 59), none, .ld 1 false (.t 58), []⟩, ⟨(some 60), none, .mv (.t 5), []⟩, ⟨(some 61), none, .mv (.t 8), []⟩, ⟨(some 62), none, .ia 2 (.t 60) (.t 61), []⟩, ⟨(some 63), none, .fa 1 (.t 62), []⟩, ⟨(some 64), none, .ld 1 false (.t 63), []⟩, ⟨(some 65), none, .mv (.t 9), []⟩, ⟨(some 66), none, .ia 1 (.t 64) (.t 65), []⟩, ⟨(some 67), none, .ld 1 false (.t 66), []⟩, ⟨(some 68), none, .call 19 [(.t 59), (.t 67)], []⟩, ⟨(some 10), none, .alloc [.str [], .str []], []⟩, ⟨none, none, .st 2 (.t 10) (.t 68), []⟩])
        (.seq (.seq (.reg [] [⟨(some 69), none, .mv (.t 7), []⟩, ⟨(some 70), none, .ld 2 true (.t 10), []⟩, ⟨(some 71), none, .call 20 [(.t 69), (.t 70)], []⟩, ⟨(some 72), none, .mv (.t 71), []⟩, ⟨(some 73), (some (72, false)), .mv (.t 1), []⟩, ⟨(some 74), (some (72, false)), .ld 2 true (.t 10), []⟩, ⟨(some 75), (some (72, false)), .call 20 [(.t 73), (.t 74)], []⟩, ⟨(some 76), (some (72, false)), .not (.t 75), []⟩, ⟨(some 77), none, .pick (.t 72) (.k (.bool true)) (.t 76), []⟩])
        (.cond (.t 77) (.seq (.reg [] [⟨(some 4), none, .mv (.k (.bool false)), []⟩])
         (.ret)) (.skip)))
        (.reg [] [⟨(some 78), none, .mv (.t 7), []⟩, ⟨(some 79), none, .ld 2 true (.t 10), []⟩, ⟨(some 80), none, .bls 2 1 [.str [], .str []] [(0, (.t 79))], []⟩, ⟨(some 81), none, .app 2 32 (.t 78) (.t 80), []⟩, ⟨(some 7), none, .mv (.t 81), []⟩]))))
       (.reg [] [⟨(some 53), none, .mv (.t 9), []⟩, ⟨(some 54), none, .bi .add .i64 (.t 53) (.k (.int .i64 1)), []⟩, ⟨(some 9), none, .mv (.t 54), []⟩]))))))))
    (.reg [] [⟨(some 26), none, .mv (.t 8), []⟩, ⟨(some 27), none, .bi .add .i64 (.t 26) (.k (.int .i64 1)), []⟩, ⟨(some 8), none, .mv (.t 27), []⟩]))))))
  (.seq (.seq (.reg [] [⟨(some 11), none, .mv (.k (.int .i64 0)), []⟩])
  (.block 4 (.loop [1, 7, 11] (.seq (.seq (.reg [] [⟨(some 82), none, .mv (.t 11), []⟩, ⟨(some 83), none, .mv (.t 1), []⟩, ⟨(some 84), none, .len (.t 83), []⟩, ⟨(some 85), none, .bi .lss .i64 (.t 82) (.t 84), []⟩])
    (.cond (.t 85) (.skip) (.exit 4)))
    (.seq (.block 5 (.seq (.reg [] [⟨(some 88), none, .mv (.t 7), []⟩, ⟨(some 89), none, .mv (.t 1), []⟩, ⟨(some 90), none, .mv (.t 11), []⟩, ⟨(some 91), none, .ia 2 (.t 89) (.t 90), []⟩, ⟨(some 92), none, .ld 2 true (.t 91), []⟩, ⟨(some 93), none, .call 20 [(.t 88), (.t 92)], []⟩, ⟨(some 94), none, .not (.t 93), []⟩])
     (.cond (.t 94) (.seq (.reg [] [⟨(some 4), none, .mv (.k (.bool false)), []⟩])
      (.ret)) (.skip))))
    (.reg [] [⟨(some 86), none, .mv (.t 11), []⟩, ⟨(some 87), none, .bi .add .i64 (.t 86) (.k (.int .i64 1)), []⟩, ⟨(some 11), none, .mv (.t 87), []⟩]))))))
  (.seq (.reg [] [⟨(some 95), none, .call 14 [], []⟩, ⟨(some 4), none, .mv (.t 95), []⟩])
  (.ret))))))))⟩
theorem ck4 : chkFn Try.prog 4 ir4 = true := by kernel_rfl

/-- seine seinelaw30.BatchCounts -/
def ir5 : AFn := ⟨127, 2, [.t 4], .seq (.reg [] [⟨(some 4), none, .mv (.k (.bool false)), []⟩])
  (.seq (.seq (.reg [] [⟨(some 15), none, .mv (.t 1), []⟩, ⟨(some 16), none, .call 13 [(.t 15)], []⟩, ⟨(some 17), none, .not (.t 16), []⟩])
  (.cond (.t 17) (.seq (.reg [] [⟨(some 18), none, .call 14 [], []⟩, ⟨(some 4), none, .mv (.t 18), []⟩])
   (.ret)) (.skip)))
  (.seq (.reg [] [⟨(some 19), none, .mv (.t 0), []⟩, ⟨(some 20), none, .mm true (.t 19) [(.k (.int .i64 1))], []⟩, ⟨(some 21), none, .mm false (.t 20) [(.k (.int .i64 64))], []⟩, ⟨(some 5), none, .mv (.t 21), []⟩])
  (.seq (.reg [] [⟨(some 6), none, .mv (.k (.int .i64 0)), []⟩])
  (.seq (.reg [] [⟨(some 7), none, .mv (.k (.sl .nil 1 [])), []⟩])
  (.seq (.seq (.reg [] [⟨(some 8), none, .mv (.k (.int .i64 0)), []⟩])
  (.block 0 (.loop [0, 1, 5, 6, 7, 8] (.seq (.seq (.reg [] [⟨(some 22), none, .mv (.t 8), []⟩, ⟨(some 23), none, .mv (.t 1), []⟩, ⟨(some 24), none, .len (.t 23), []⟩, ⟨(some 25), none, .bi .lss .i64 (.t 22) (.t 24), []⟩])
    (.cond (.t 25) (.skip) (.exit 0)))
    (.seq (.block 1 (.seq (.seq (.reg [] [⟨(some 28), none, .mv (.t 7), []⟩, ⟨(some 29), none, .mv (.t 1), []⟩, ⟨(some 30), none, .mv (.t 8), []⟩, ⟨(some 31), none, .ia 2 (.t 29) (.t 30), []⟩, ⟨(some 32), none, .fa 0 (.t 31), []⟩, ⟨(some 33), none, .ld 1 false (.t 32), []⟩, ⟨(some 34), none, .call 21 [(.t 28), (.t 33)], []⟩])
     (.cond (.t 34) (.exit 1) (.skip)))
     (.seq (.reg [] [⟨(some 35), none, .mv (.t 7), []⟩, ⟨(some 36), none, .mv (.t 1), []⟩, ⟨(some 37), none, .mv (.t 8), []⟩, ⟨(some 38), none, .ia 2 (.t 36) (.t 37), []⟩, ⟨(some 39), none, .fa 0 (.t 38), []⟩, ⟨(some 40), none, .ld 1 false (.t 39), []⟩, ⟨(some 41), none, .bls 1 1 [.str []] [(0, (.t 40))], []⟩, ⟨(some 42), none, .app 1 16 (.t 35) (.t 41), []⟩, ⟨(some 7), none, .mv (.t 42), []⟩])
     (.seq (.reg [] [⟨(some 9), none, .mv (.k (.sl .nil 1 [])), []⟩])
     (.seq (.seq (.reg [] [⟨(some 10), none, .mv (.k (.int .i64 0)), []⟩])
     (.block 2 (.loop [0, 1, 5, 6, 7, 8, 9, 10] (.seq (.seq (.reg [] [⟨(some 43), none, .mv (.t 10), []⟩, ⟨(some 44), none, .mv (.t 1), []⟩, ⟨(some 45), none, .len (.t 44), []⟩, ⟨(some 46), none, .bi .lss .i64 (.t 43) (.t 45), []⟩])
       (.cond (.t 46) (.skip) (.exit 2)))
       (.seq (.block 3 (.seq (.reg [0, 1, 2, 3, 4, 5, 6, 7, 8, 9, 10, 11, 12, 13, 14, 15, 16, 17, 18, 19, 20] [⟨(some 49), none, .mv (.t 1), []⟩, ⟨(some 50), none, .mv (.t 10), []⟩, ⟨(some 51), none, .ia 2 (.t 49) (.t 50), []⟩, ⟨(some 52), none, .fa 0 (.t 51), []⟩, ⟨(some 53), none, .ld 1 false (.t 52), []⟩, ⟨(some 54), none, .mv (.t 1), []⟩, ⟨(some 55), none, .mv (.t 8), []⟩, ⟨(some 56), none, .ia 2 (.t 54) (.t 55), []⟩, ⟨(some 57), none, .fa 0 (.t 56), []⟩, ⟨(some 58), none, .ld 1 false (.t 57), []⟩, ⟨(some 59), none, .bs .eql (.t 53) (.t 58), []⟩, ⟨(some 60), none, .mv (.t 59), []⟩, ⟨(some 61), (some (60, true)), .mv (.t 9), []⟩, ⟨(some 62), (some (60, true)), .mv (.t 1), []⟩, ⟨(some 63), (some (60, true)), .mv (.t 10), []⟩, ⟨(some 64), (some (60, true)), .ia 2 (.t 62) (.t 63), []⟩, ⟨(some 65), (some (60, true)), .fa 1 (.t 64), []⟩, ⟨(some 66), (some (60, true)), .ld 1 false (.t 65), []⟩, ⟨(some 67), (some (60, true)), .call 21 [(.t 61), (.t 66)], []⟩, ⟨(some 68), (some (60, true)), .not (.t 67), []⟩, ⟨(some 69), none, .pick (.t 60) (.t 68) (.k (.bool false)), []⟩])
        (.cond (.t 69) (.reg [] [⟨(some 70), none, .mv (.t 9), []⟩, ⟨(some 71), none, .mv (.t 1), []⟩, ⟨(some 72), none, .mv (.t 10), []⟩, ⟨(some 73), none, .ia 2 (.t 71) (.t 72), []⟩, ⟨(some 74), none, .fa 1 (.t 73), []⟩, ⟨(some 75), none, .ld 1 false (.t 74), []⟩, ⟨(some 76), none, .bls 1 1 [.str []] [(0, (.t 75))], []⟩, ⟨(some 77), none, .app 1 16 (.t 70) (.t 76), []⟩, ⟨(some 9), none, .mv (.t 77), []⟩]) (.skip))))
       (.reg [] [⟨(some 47), none, .mv (.t 10), []⟩, ⟨(some 48), none, .bi .add .i64 (.t 47) (.k (.int .i64 1)), []⟩, ⟨(some 10), none, .mv (.t 48), []⟩]))))))
     (.reg [] [⟨(some 78), none, .mv (.t 6), []⟩, ⟨(some 79), none, .mv (.t 9), []⟩, ⟨(some 80), none, .len (.t 79), []⟩, ⟨(some 81), none, .mv (.t 5), []⟩, ⟨(some 82), none, .bi .add .i64 (.t 80) (.t 81), []⟩, ⟨(some 83), none, .bi .sub .i64 (.t 82) (.k (.int .i64 1)), []⟩, ⟨(some 84), none, .mv (.t 5), []⟩, ⟨(some 85), none, .bi .quo .i64 (.t 83) (.t 84), []⟩, ⟨(some 86), none, .bi .add .i64 (.t 78) (.t 85), []⟩, ⟨(some 6), none, .mv (.t 86), []⟩]))))))
    (.reg [] [⟨(some 26), none, .mv (.t 8), []⟩, ⟨(some 27), none, .bi .add .i64 (.t 26) (.k (.int .i64 1)), []⟩, ⟨(some 8), none, .mv (.t 27), []⟩]))))))
  (.seq (.reg [] [⟨(some 87), none, .mv (.t 0), []⟩, ⟨(some 88), none, .mv (.t 1), []⟩, ⟨(some 89), none, .call 16 [(.t 87), (.t 88)], []⟩, ⟨(some 11), none, .mv (.t 89), []⟩])
  (.seq (.reg [] [⟨(some 12), none, .mv (.k (.int .i64 0)), []⟩, ⟨(some 13), none, .mv (.k (.str [])), []⟩])
  (.seq (.seq (.reg [] [⟨(some 14), none, .mv (.k (.int .i64 0)), []⟩])
  (.block 4 (.loop [6, 7, 11, 12, 13, 14] (.seq (.seq (.reg [] [⟨(some 90), none, .mv (.t 14), []⟩, ⟨(some 91), none, .mv (.t 11), []⟩, ⟨(some 92), none, .len (.t 91), []⟩, ⟨(some 93), none, .bi .lss .i64 (.t 90) (.t 92), []⟩])
    (.cond (.t 93) (.skip) (.exit 4)))
    (.seq (.block 5 (.seq (.seq (.reg [] [⟨(some 96), none, .mv (.t 14), []⟩, ⟨(some 97), none, .bi .eql .i64 (.t 96) (.k (.int .i64 0)), []⟩, ⟨(some 98), none, .mv (.t 97), []⟩, ⟨(some 99), (some (98, false)), .mv (.t 11), []⟩, ⟨(some 100), (some (98, false)), .mv (.t 14), []⟩, ⟨(some 101), (some (98, false)), .ia 2 (.t 99) (.t 100), []⟩, ⟨(some 102), (some (98, false)), .fa 0 (.t 101), []⟩, ⟨(some 103), (some (98, false)), .ld 1 false (.t 102), []⟩, ⟨(some 104), (some (98, false)), .mv (.t 13), []⟩, ⟨(some 105), (some (98, false)), .bs .neq (.t 103) (.t 104), []⟩, ⟨(some 106), none, .pick (.t 98) (.k (.bool true)) (.t 105), []⟩])
     (.cond (.t 106) (.reg [] [⟨(some 107), none, .mv (.t 12), []⟩, ⟨(some 108), none, .bi .add .i64 (.t 107) (.k (.int .i64 1)), []⟩, ⟨(some 12), none, .mv (.t 108), []⟩]) (.skip)))
     (.reg [] [⟨(some 109), none, .mv (.t 11), []⟩, ⟨(some 110), none, .mv (.t 14), []⟩, ⟨(some 111), none, .ia 2 (.t 109) (.t 110), []⟩, ⟨(some 112), none, .fa 0 (.t 111), []⟩, ⟨(some 113), none, .ld 1 false (.t 112), []⟩, ⟨(some 13), none, .mv (.t 113), []⟩])))
    (.reg [] [⟨(some 94), none, .mv (.t 14), []⟩, ⟨(some 95), none, .bi .add .i64 (.t 94) (.k (.int .i64 1)), []⟩, ⟨(some 14), none, .mv (.t 95), []⟩]))))))
  (.seq (.reg [] [⟨(some 114), none, .mv (.t 11), []⟩, ⟨(some 115), none, .len (.t 114), []⟩, ⟨(some 116), none, .mv (.t 6), []⟩, ⟨(some 117), none, .bi .eql .i64 (.t 115) (.t 116), []⟩, ⟨(some 118), none, .mv (.t 117), []⟩, ⟨(some 119), (some (118, true)), .mv (.t 12), []⟩, ⟨(some 120), (some (118, true)), .mv (.t 7), []⟩, ⟨(some 121), (some (118, true)), .len (.t 120), []⟩, ⟨(some 122), (some (118, true)), .bi .eql .i64 (.t 119) (.t 121), []⟩, ⟨(some 123), none, .pick (.t 118) (.t 122) (.k (.bool false)), []⟩, ⟨(some 124), none, .mv (.t 123), []⟩, ⟨(some 125), (some (124, true)), .call 14 [], []⟩, ⟨(some 126), none, .pick (.t 124) (.t 125) (.k (.bool false)), []⟩, ⟨(some 4), none, .mv (.t 126), []⟩])
  (.ret))))))))))⟩
theorem ck5 : chkFn Try.prog 5 ir5 = true := by kernel_rfl

/-- seine seinelaw30.BatchSplits -/
def ir6 : AFn := ⟨72, 2, [.t 4], .seq (.reg [] [⟨(some 4), none, .mv (.k (.bool false)), []⟩])
  (.seq (.seq (.reg [] [⟨(some 10), none, .mv (.t 1), []⟩, ⟨(some 11), none, .call 13 [(.t 10)], []⟩, ⟨(some 12), none, .not (.t 11), []⟩])
  (.cond (.t 12) (.seq (.reg [] [⟨(some 13), none, .call 14 [], []⟩, ⟨(some 4), none, .mv (.t 13), []⟩])
   (.ret)) (.skip)))
  (.seq (.reg [] [⟨(some 5), none, .mv (.k (.sl .nil 1 [])), []⟩])
  (.seq (.reg [] [⟨(some 6), none, .mv (.k (.sl .nil 2 [])), []⟩])
  (.seq (.seq (.reg [] [⟨(some 7), none, .mv (.k (.int .i64 0)), []⟩])
  (.block 0 (.loop [0, 1, 5, 6, 7] (.seq (.seq (.reg [] [⟨(some 14), none, .mv (.t 7), []⟩, ⟨(some 15), none, .mv (.t 1), []⟩, ⟨(some 16), none, .len (.t 15), []⟩, ⟨(some 17), none, .bi .lss .i64 (.t 14) (.t 16), []⟩])
    (.cond (.t 17) (.skip) (.exit 0)))
    (.seq (.block 1 (.seq (.seq (.reg [] [⟨(some 20), none, .mv (.t 5), []⟩, ⟨(some 21), none, .mv (.t 1), []⟩, ⟨(some 22), none, .mv (.t 7), []⟩, ⟨(some 23), none, .ia 2 (.t 21) (.t 22), []⟩, ⟨(some 24), none, .fa 0 (.t 23), []⟩, ⟨(some 25), none, .ld 1 false (.t 24), []⟩, ⟨(some 26), none, .call 21 [(.t 20), (.t 25)], []⟩])
     (.cond (.t 26) (.exit 1) (.skip)))
     (.seq (.reg [] [⟨(some 27), none, .mv (.t 5), []⟩, ⟨(some 28), none, .mv (.t 1), []⟩, ⟨(some 29), none, .mv (.t 7), []⟩, ⟨(some 30), none, .ia 2 (.t 28) (.t 29), []⟩, ⟨(some 31), none, .fa 0 (.t 30), []⟩, ⟨(some 32), none, .ld 1 false (.t 31), []⟩, ⟨(some 33), none, .bls 1 1 [.str []] [(0, (.t 32))], []⟩, ⟨(some 34), none, .app 1 16 (.t 27) (.t 33), []⟩, ⟨(some 5), none, .mv (.t 34), []⟩])
     (.seq (.reg [] [⟨(some 8), none, .mv (.k (.sl .nil 2 [])), []⟩])
     (.seq (.seq (.reg [] [⟨(some 9), none, .mv (.k (.int .i64 0)), []⟩])
     (.block 2 (.loop [0, 1, 5, 6, 7, 8, 9] (.seq (.seq (.reg [] [⟨(some 35), none, .mv (.t 9), []⟩, ⟨(some 36), none, .mv (.t 1), []⟩, ⟨(some 37), none, .len (.t 36), []⟩, ⟨(some 38), none, .bi .lss .i64 (.t 35) (.t 37), []⟩])
       (.cond (.t 38) (.skip) (.exit 2)))
       (.seq (.block 3 (.seq (.reg [0, 1, 2, 3, 4, 5, 6, 7, 8, 9, 10] [⟨(some 41), none, .mv (.t 1), []⟩, ⟨(some 42), none, .mv (.t 9), []⟩, ⟨(some 43), none, .ia 2 (.t 41) (.t 42), []⟩, ⟨(some 44), none, .fa 0 (.t 43), []⟩, ⟨(some 45), none, .ld 1 false (.t 44), []⟩, ⟨(some 46), none, .mv (.t 1), []⟩, ⟨(some 47), none, .mv (.t 7), []⟩, ⟨(some 48), none, .ia 2 (.t 46) (.t 47), []⟩, ⟨(some 49), none, .fa 0 (.t 48), []⟩, ⟨(some 50), none, .ld 1 false (.t 49), []⟩, ⟨(some 51), none, .bs .eql (.t 45) (.t 50), []⟩])
        (.cond (.t 51) (.reg [] [⟨(some 52), none, .mv (.t 8), []⟩, ⟨(some 53), none, .mv (.t 1), []⟩, ⟨(some 54), none, .mv (.t 9), []⟩, ⟨(some 55), none, .ia 2 (.t 53) (.t 54), []⟩, ⟨(some 56), none, .ld 2 true (.t 55), []⟩, ⟨(some 57), none, .bls 2 1 [.str [], .str []] [(0, (.t 56))], []⟩, ⟨(some 58), none, .app 2 32 (.t 52) (.t 57), []⟩, ⟨(some 8), none, .mv (.t 58), []⟩]) (.skip))))
       (.reg [] [⟨(some 39), none, .mv (.t 9), []⟩, ⟨(some 40), none, .bi .add .i64 (.t 39) (.k (.int .i64 1)), []⟩, ⟨(some 9), none, .mv (.t 40), []⟩]))))))
     (.reg [] [⟨(some 59), none, .mv (.t 6), []⟩, ⟨(some 60), none, .mv (.t 0), []⟩, ⟨(some 61), none, .mv (.t 8), []⟩, ⟨(some 62), none, .call 16 [(.t 60), (.t 61)], []⟩, ⟨(some 63), none, .app 2 40 (.t 59) (.t 62), []⟩, ⟨(some 6), none, .mv (.t 63), []⟩]))))))
    (.reg [] [⟨(some 18), none, .mv (.t 7), []⟩, ⟨(some 19), none, .bi .add .i64 (.t 18) (.k (.int .i64 1)), []⟩, ⟨(some 7), none, .mv (.t 19), []⟩]))))))
  (.seq (.reg [] [⟨(some 64), none, .mv (.t 0), []⟩, ⟨(some 65), none, .mv (.t 1), []⟩, ⟨(some 66), none, .call 16 [(.t 64), (.t 65)], []⟩, ⟨(some 67), none, .mv (.t 6), []⟩, ⟨(some 68), none, .call 15 [(.t 66), (.t 67)], []⟩, ⟨(some 69), none, .mv (.t 68), []⟩, ⟨(some 70), (some (69, true)), .call 14 [], []⟩, ⟨(some 71), none, .pick (.t 69) (.t 70) (.k (.bool false)), []⟩, ⟨(some 4), none, .mv (.t 71), []⟩])
  (.ret))))))⟩
theorem ck6 : chkFn Try.prog 6 ir6 = true := by kernel_rfl

/-- seine seinelaw31.CrewTurns -/
def ir7 : AFn := ⟨79, 2, [.t 4], .seq (.reg [] [⟨(some 4), none, .mv (.k (.bool false)), []⟩])
  (.seq (.seq (.reg [] [⟨(some 10), none, .mv (.t 1), []⟩, ⟨(some 11), none, .len (.t 10), []⟩, ⟨(some 12), none, .bi .gtr .i64 (.t 11) (.k (.int .i64 300)), []⟩])
  (.cond (.t 12) (.seq (.reg [] [⟨(some 13), none, .call 22 [], []⟩, ⟨(some 4), none, .mv (.t 13), []⟩])
   (.ret)) (.skip)))
  (.seq (.reg [] [⟨(some 14), none, .mv (.t 1), []⟩, ⟨(some 15), none, .call 23 [(.t 14)], []⟩, ⟨(some 5), none, .mv (.t 15), []⟩])
  (.seq (.reg [] [⟨(some 16), none, .mv (.t 0), []⟩, ⟨(some 17), none, .mv (.t 5), []⟩, ⟨(some 18), none, .call 24 [(.t 16), (.t 17)], []⟩, ⟨(some 6), none, .mv (.t 18), []⟩])
  (.seq (.seq (.reg [] [⟨(some 19), none, .mv (.t 6), []⟩, ⟨(some 20), none, .mv (.t 0), []⟩, ⟨(some 21), none, .mv (.t 1), []⟩, ⟨(some 22), none, .call 25 [(.t 20), (.t 21)], []⟩, ⟨(some 23), none, .bi .neq .i64 (.t 19) (.t 22), []⟩, ⟨(some 24), none, .mv (.t 23), []⟩, ⟨(some 25), (some (24, false)), .mv (.t 5), []⟩, ⟨(some 26), (some (24, false)), .mv (.t 1), []⟩, ⟨(some 27), (some (24, false)), .call 26 [(.t 25), (.t 26)], []⟩, ⟨(some 28), (some (24, false)), .not (.t 27), []⟩, ⟨(some 29), none, .pick (.t 24) (.k (.bool true)) (.t 28), []⟩])
  (.cond (.t 29) (.seq (.reg [] [⟨(some 4), none, .mv (.k (.bool false)), []⟩])
   (.ret)) (.skip)))
  (.seq (.reg [] [⟨(some 7), none, .mv (.k (.bool true)), []⟩, ⟨(some 8), none, .mv (.k (.bool false)), []⟩])
  (.seq (.seq (.reg [] [⟨(some 9), none, .mv (.k (.int .i64 0)), []⟩])
  (.block 0 (.loop [0, 1, 6, 7, 8, 9] (.seq (.seq (.reg [] [⟨(some 30), none, .mv (.t 9), []⟩, ⟨(some 31), none, .mv (.t 1), []⟩, ⟨(some 32), none, .len (.t 31), []⟩, ⟨(some 33), none, .bi .lss .i64 (.t 30) (.t 32), []⟩])
    (.cond (.t 33) (.skip) (.exit 0)))
    (.seq (.block 1 (.seq (.reg [] [⟨(some 36), none, .mv (.t 7), []⟩, ⟨(some 37), none, .mv (.t 36), []⟩, ⟨(some 38), (some (37, true)), .mv (.t 6), []⟩, ⟨(some 39), (some (37, true)), .mv (.t 1), []⟩, ⟨(some 40), (some (37, true)), .mv (.t 9), []⟩, ⟨(some 41), (some (37, true)), .ia 1 (.t 39) (.t 40), []⟩, ⟨(some 42), (some (37, true)), .ld 1 false (.t 41), []⟩, ⟨(some 43), (some (37, true)), .bi .leq .i64 (.t 38) (.t 42), []⟩, ⟨(some 44), none, .pick (.t 37) (.t 43) (.k (.bool false)), []⟩, ⟨(some 7), none, .mv (.t 44), []⟩])
     (.reg [] [⟨(some 45), none, .mv (.t 8), []⟩, ⟨(some 46), none, .mv (.t 45), []⟩, ⟨(some 47), (some (46, false)), .mv (.t 1), []⟩, ⟨(some 48), (some (46, false)), .mv (.t 9), []⟩, ⟨(some 49), (some (46, false)), .ia 1 (.t 47) (.t 48), []⟩, ⟨(some 50), (some (46, false)), .ld 1 false (.t 49), []⟩, ⟨(some 51), (some (46, false)), .mv (.t 0), []⟩, ⟨(some 52), (some (46, false)), .bi .eql .i64 (.t 50) (.t 51), []⟩, ⟨(some 53), none, .pick (.t 46) (.k (.bool true)) (.t 52), []⟩, ⟨(some 8), none, .mv (.t 53), []⟩])))
    (.reg [] [⟨(some 34), none, .mv (.t 9), []⟩, ⟨(some 35), none, .bi .add .i64 (.t 34) (.k (.int .i64 1)), []⟩, ⟨(some 9), none, .mv (.t 35), []⟩]))))))
  (.seq (.reg [] [⟨(some 54), none, .mv (.t 1), []⟩, ⟨(some 55), none, .len (.t 54), []⟩, ⟨(some 56), none, .bi .eql .i64 (.t 55) (.k (.int .i64 0)), []⟩, ⟨(some 57), none, .mv (.t 56), []⟩, ⟨(some 58), (some (57, true)), .mv (.t 6), []⟩, ⟨(some 59), (some (57, true)), .bi .eql .i64 (.t 58) (.k (.int .i64 (-1))), []⟩, ⟨(some 60), none, .pick (.t 57) (.t 59) (.k (.bool false)), []⟩, ⟨(some 61), none, .mv (.t 60), []⟩, ⟨(some 62), (some (61, false)), .mv (.t 8), []⟩, ⟨(some 63), (some (61, false)), .mv (.t 62), []⟩, ⟨(some 64), (some (63, true)), .mv (.t 6), []⟩, ⟨(some 65), (some (63, true)), .mv (.t 0), []⟩, ⟨(some 66), (some (63, true)), .bi .eql .i64 (.t 64) (.t 65), []⟩, ⟨(some 67), (some (61, false)), .pick (.t 63) (.t 66) (.k (.bool false)), []⟩, ⟨(some 68), none, .pick (.t 61) (.k (.bool true)) (.t 67), []⟩, ⟨(some 69), none, .mv (.t 68), []⟩, ⟨(some 70), (some (69, false)), .mv (.t 8), []⟩, ⟨(some 71), (some (69, false)), .not (.t 70), []⟩, ⟨(some 72), (some (69, false)), .mv (.t 71), []⟩, ⟨(some 73), (some (72, true)), .mv (.t 7), []⟩, ⟨(some 74), (some (69, false)), .pick (.t 72) (.t 73) (.k (.bool false)), []⟩, ⟨(some 75), none, .pick (.t 69) (.k (.bool true)) (.t 74), []⟩, ⟨(some 76), none, .mv (.t 75), []⟩, ⟨(some 77), (some (76, true)), .call 22 [], []⟩, ⟨(some 78), none, .pick (.t 76) (.t 77) (.k (.bool false)), []⟩, ⟨(some 4), none, .mv (.t 78), []⟩])
  (.ret))))))))⟩
theorem ck7 : chkFn Try.prog 7 ir7 = true := by kernel_rfl

/-- seine seinelaw30.BatchKnows -/
def ir8 : AFn := ⟨120, 1, [.t 2], .seq (.reg [] [⟨(some 2), none, .mv (.k (.bool false)), []⟩])
  (.seq (.seq (.reg [] [⟨(some 14), none, .mv (.t 0), []⟩, ⟨(some 15), none, .len (.t 14), []⟩, ⟨(some 16), none, .bi .gtr .i64 (.t 15) (.k (.int .i64 60)), []⟩])
  (.cond (.t 16) (.seq (.reg [] [⟨(some 17), none, .call 14 [], []⟩, ⟨(some 2), none, .mv (.t 17), []⟩])
   (.ret)) (.skip)))
  (.seq (.reg [] [⟨(some 18), none, .call 27 [], []⟩, ⟨(some 3), none, .mv (.t 18), []⟩])
  (.seq (.seq (.reg [] [⟨(some 19), none, .mv (.t 3), []⟩, ⟨(some 20), none, .isnil .p (.t 19), []⟩])
  (.cond (.t 20) (.seq (.reg [] [⟨(some 2), none, .mv (.k (.bool false)), []⟩])
   (.ret)) (.skip)))
  (.seq (.reg [] [⟨(some 21), none, .bld [.sl .nil 2 [], .sl .nil 6 []] [], []⟩, ⟨(some 22), none, .box (.t 21), []⟩, ⟨(some 4), none, .mv (.t 22), []⟩])
  (.seq (.seq (.reg [] [⟨(some 5), none, .mv (.k (.int .i64 0)), []⟩])
  (.block 0 (.loop [0, 3, 4, 5] (.seq (.seq (.reg [] [⟨(some 23), none, .mv (.t 5), []⟩, ⟨(some 24), none, .mv (.t 0), []⟩, ⟨(some 25), none, .len (.t 24), []⟩, ⟨(some 26), none, .bi .lss .i64 (.t 23) (.t 25), []⟩])
    (.cond (.t 26) (.skip) (.exit 0)))
    (.seq (.block 1 (.seq (.reg [] [⟨(some 29), none, .mv (.t 0), []⟩, ⟨(some 30), none, .mv (.t 5), []⟩, ⟨(some 31), none, .ia 10 (.t 29) (.t 30), []⟩, ⟨(some 32), none, .ld 10 true (.t 31), []⟩, ⟨(some 6), none, .alloc [.int .i64 0, .str [], .str [], .str [], .str [], .sl .nil 6 [], .bool false, .bool false, .int .i64 0, .sl .nil 2 []], []⟩, ⟨none, none, .st 10 (.t 6) (.t 32), []⟩])
     (.seq (.seq (.reg [] [⟨(some 33), none, .fa 9 (.t 6), []⟩, ⟨(some 34), none, .ld 1 false (.t 33), []⟩, ⟨(some 35), none, .call 13 [(.t 34)], []⟩, ⟨(some 36), none, .not (.t 35), []⟩, ⟨(some 37), none, .mv (.t 36), []⟩, ⟨(some 38), (some (37, false)), .fa 1 (.t 6), []⟩, ⟨(some 39), (some (37, false)), .ld 2 true (.t 38), []⟩, ⟨(some 40), (some (37, false)), .bls 2 1 [.str [], .str []] [(0, (.t 39))], []⟩, ⟨(some 41), (some (37, false)), .call 13 [(.t 40)], []⟩, ⟨(some 42), (some (37, false)), .not (.t 41), []⟩, ⟨(some 43), none, .pick (.t 37) (.k (.bool true)) (.t 42), []⟩, ⟨(some 44), none, .mv (.t 43), []⟩, ⟨(some 45), (some (44, false)), .fa 3 (.t 6), []⟩, ⟨(some 46), (some (44, false)), .fa 0 (.t 45), []⟩, ⟨(some 47), (some (44, false)), .ld 4 true (.t 46), []⟩, ⟨(some 48), (some (44, false)), .call 28 [(.t 47)], []⟩, ⟨(some 49), (some (44, false)), .bi .gtr .i64 (.t 48) (.k (.int .i64 2000)), []⟩, ⟨(some 50), none, .pick (.t 44) (.k (.bool true)) (.t 49), []⟩])
     (.cond (.t 50) (.seq (.reg [] [⟨(some 51), none, .call 14 [], []⟩, ⟨(some 2), none, .mv (.t 51), []⟩])
      (.ret)) (.skip)))
     (.seq (.seq (.reg [] [⟨(some 52), none, .fa 0 (.t 6), []⟩, ⟨(some 53), none, .ld 1 false (.t 52), []⟩])
     (.block 2 (.seq (.reg [] [⟨(some 55), none, .bi .eql .i64 (.t 53) (.k (.int .i64 0)), []⟩, ⟨(some 54), none, .mv (.t 55), []⟩])
      (.cond (.t 54) (.seq (.reg [] [⟨(some 56), none, .mv (.t 3), []⟩, ⟨(some 57), none, .fa 1 (.t 6), []⟩, ⟨(some 58), none, .ld 2 true (.t 57), []⟩, ⟨(some 59), none, .fa 3 (.t 6), []⟩, ⟨(some 60), none, .ld 6 true (.t 59), []⟩, ⟨(some 61), none, .call 29 [(.t 56), (.t 58), (.t 60)], []⟩])
       (.reg [] [⟨(some 62), none, .mv (.t 4), []⟩, ⟨(some 63), none, .fa 1 (.t 6), []⟩, ⟨(some 64), none, .ld 2 true (.t 63), []⟩, ⟨(some 65), none, .fa 3 (.t 6), []⟩, ⟨(some 66), none, .ld 6 true (.t 65), []⟩, ⟨(some 67), none, .call 30 [(.t 62), (.t 64), (.t 66)], []⟩])) (.seq (.reg [] [⟨(some 69), none, .bi .eql .i64 (.t 53) (.k (.int .i64 2)), []⟩, ⟨(some 68), none, .mv (.t 69), []⟩])
       (.cond (.t 68) (.seq (.reg [0, 1, 2, 4, 5, 6, 3, 7, 8, 9] [⟨(some 70), none, .mv (.t 3), []⟩, ⟨(some 71), none, .fa 9 (.t 6), []⟩, ⟨(some 72), none, .ld 1 false (.t 71), []⟩, ⟨(some 74), none, .mv (.t 4), []⟩, ⟨(some 75), none, .fa 9 (.t 6), []⟩, ⟨(some 76), none, .ld 1 false (.t 75), []⟩, ⟨(some 73), none, .call 31 [(.t 70), (.t 72)], [5]⟩, ⟨(some 77), none, .call 32 [(.t 74), (.t 76)], []⟩, ⟨(some 78), none, .call 18 [(.t 73), (.t 77)], []⟩, ⟨(some 79), none, .not (.t 78), []⟩])
        (.cond (.t 79) (.seq (.reg [] [⟨(some 2), none, .mv (.k (.bool false)), []⟩])
         (.ret)) (.skip))) (.seq (.reg [] [⟨(some 81), none, .bi .eql .i64 (.t 53) (.k (.int .i64 3)), []⟩, ⟨(some 80), none, .mv (.t 81), []⟩])
        (.cond (.t 80) (.seq (.reg [] [⟨(some 82), none, .mv (.t 3), []⟩, ⟨(some 83), none, .call 33 [(.t 82)], []⟩])
         (.reg [] [⟨(some 84), none, .bld [.sl .nil 2 [], .sl .nil 6 []] [], []⟩, ⟨(some 85), none, .box (.t 84), []⟩, ⟨(some 4), none, .mv (.t 85), []⟩])) (.skip)))))))))
     (.seq (.reg [] [⟨(some 87), none, .mv (.t 3), []⟩, ⟨(some 88), none, .fa 1 (.t 6), []⟩, ⟨(some 89), none, .ld 2 true (.t 88), []⟩, ⟨(some 90), none, .call 34 [(.t 87), (.t 89)], []⟩, ⟨(some 86), none, .mv (.t 90), []⟩, ⟨(some 91), none, .ext (.t 86) 0, []⟩, ⟨(some 92), none, .ext (.t 86) 1, []⟩, ⟨(some 7), none, .alloc [.str [], .str [], .sl .nil 6 [], .bool false, .bool false, .int .i64 0], []⟩, ⟨none, none, .st 6 (.t 7) (.t 91), []⟩, ⟨(some 8), none, .mv (.t 92), []⟩])
     (.seq (.reg [] [⟨(some 94), none, .mv (.t 4), []⟩, ⟨(some 95), none, .fa 1 (.t 6), []⟩, ⟨(some 96), none, .ld 2 true (.t 95), []⟩, ⟨(some 97), none, .call 35 [(.t 94), (.t 96)], []⟩, ⟨(some 93), none, .mv (.t 97), []⟩, ⟨(some 98), none, .ext (.t 93) 0, []⟩, ⟨(some 99), none, .ext (.t 93) 1, []⟩, ⟨(some 9), none, .alloc [.str [], .str [], .sl .nil 6 [], .bool false, .bool false, .int .i64 0], []⟩, ⟨none, none, .st 6 (.t 9) (.t 98), []⟩, ⟨(some 10), none, .mv (.t 99), []⟩])
     (.seq (.reg [] [⟨(some 100), none, .mv (.t 8), []⟩, ⟨(some 101), none, .mv (.t 10), []⟩, ⟨(some 102), none, .bb true (.t 100) (.t 101), []⟩, ⟨(some 103), none, .mv (.t 102), []⟩, ⟨(some 104), (some (103, false)), .ld 6 true (.t 7), []⟩, ⟨(some 105), (some (103, false)), .ld 6 true (.t 9), []⟩, ⟨(some 106), (some (103, false)), .call 36 [(.t 104), (.t 105)], []⟩, ⟨(some 107), (some (103, false)), .not (.t 106), []⟩, ⟨(some 108), none, .pick (.t 103) (.k (.bool true)) (.t 107), []⟩])
     (.cond (.t 108) (.seq (.reg [] [⟨(some 2), none, .mv (.k (.bool false)), []⟩])
      (.ret)) (.skip)))))))))
    (.reg [] [⟨(some 27), none, .mv (.t 5), []⟩, ⟨(some 28), none, .bi .add .i64 (.t 27) (.k (.int .i64 1)), []⟩, ⟨(some 5), none, .mv (.t 28), []⟩]))))))
  (.seq (.reg [] [⟨(some 11), none, .mv (.k (.nilp)), []⟩])
  (.seq (.reg [] [⟨(some 110), none, .mv (.t 11), []⟩, ⟨(some 111), none, .bld [.str [], .str []] [], []⟩, ⟨(some 112), none, .call 34 [(.t 110), (.t 111)], []⟩, ⟨(some 109), none, .mv (.t 112), []⟩, ⟨(some 113), none, .ext (.t 109) 0, []⟩, ⟨(some 114), none, .ext (.t 109) 1, []⟩, ⟨(some 12), none, .alloc [.str [], .str [], .sl .nil 6 [], .bool false, .bool false, .int .i64 0], []⟩, ⟨none, none, .st 6 (.t 12) (.t 113), []⟩, ⟨(some 13), none, .mv (.t 114), []⟩])
  (.seq (.reg [] [⟨(some 115), none, .mv (.t 13), []⟩, ⟨(some 116), none, .not (.t 115), []⟩, ⟨(some 117), none, .mv (.t 116), []⟩, ⟨(some 118), (some (117, true)), .call 14 [], []⟩, ⟨(some 119), none, .pick (.t 117) (.t 118) (.k (.bool false)), []⟩, ⟨(some 2), none, .mv (.t 119), []⟩])
  (.ret)))))))))⟩
theorem ck8 : chkFn Try.prog 8 ir8 = true := by kernel_rfl

/-- seine seinelaw30.BatchFresh -/
def ir9 : AFn := ⟨112, 2, [.t 4], .seq (.reg [] [⟨(some 4), none, .mv (.k (.bool false)), []⟩])
  (.seq (.seq (.reg [] [⟨(some 12), none, .mv (.t 0), []⟩, ⟨(some 13), none, .call 13 [(.t 12)], []⟩, ⟨(some 14), none, .not (.t 13), []⟩, ⟨(some 15), none, .mv (.t 14), []⟩, ⟨(some 16), (some (15, false)), .mv (.t 1), []⟩, ⟨(some 17), (some (15, false)), .call 13 [(.t 16)], []⟩, ⟨(some 18), (some (15, false)), .not (.t 17), []⟩, ⟨(some 19), none, .pick (.t 15) (.k (.bool true)) (.t 18), []⟩])
  (.cond (.t 19) (.seq (.reg [] [⟨(some 20), none, .call 14 [], []⟩, ⟨(some 4), none, .mv (.t 20), []⟩])
   (.ret)) (.skip)))
  (.seq (.reg [] [⟨(some 21), none, .call 27 [], []⟩, ⟨(some 5), none, .mv (.t 21), []⟩])
  (.seq (.seq (.reg [] [⟨(some 22), none, .mv (.t 5), []⟩, ⟨(some 23), none, .isnil .p (.t 22), []⟩])
  (.cond (.t 23) (.seq (.reg [] [⟨(some 4), none, .mv (.k (.bool false)), []⟩])
   (.ret)) (.skip)))
  (.seq (.seq (.reg [] [⟨(some 6), none, .mv (.k (.int .i64 0)), []⟩])
  (.block 0 (.loop [0, 1, 5, 6] (.seq (.seq (.reg [] [⟨(some 24), none, .mv (.t 6), []⟩, ⟨(some 25), none, .mv (.t 0), []⟩, ⟨(some 26), none, .len (.t 25), []⟩, ⟨(some 27), none, .bi .lss .i64 (.t 24) (.t 26), []⟩])
    (.cond (.t 27) (.skip) (.exit 0)))
    (.seq (.block 1 (.reg [] [⟨(some 30), none, .mv (.t 5), []⟩, ⟨(some 31), none, .mv (.t 0), []⟩, ⟨(some 32), none, .mv (.t 6), []⟩, ⟨(some 33), none, .ia 2 (.t 31) (.t 32), []⟩, ⟨(some 34), none, .ld 2 true (.t 33), []⟩, ⟨(some 35), none, .bld [.str [], .str [], .sl .nil 6 [], .bool false, .bool false, .int .i64 0] [], []⟩, ⟨(some 36), none, .call 29 [(.t 30), (.t 34), (.t 35)], []⟩]))
    (.reg [] [⟨(some 28), none, .mv (.t 6), []⟩, ⟨(some 29), none, .bi .add .i64 (.t 28) (.k (.int .i64 1)), []⟩, ⟨(some 6), none, .mv (.t 29), []⟩]))))))
  (.seq (.reg [] [⟨(some 37), none, .mv (.t 5), []⟩, ⟨(some 38), none, .mv (.t 1), []⟩, ⟨(some 39), none, .call 31 [(.t 37), (.t 38)], []⟩, ⟨(some 7), none, .mv (.t 39), []⟩])
  (.seq (.seq (.reg [] [⟨(some 8), none, .mv (.k (.int .i64 0)), []⟩])
  (.block 2 (.loop [0, 1, 5, 7, 8] (.seq (.seq (.reg [] [⟨(some 40), none, .mv (.t 8), []⟩, ⟨(some 41), none, .mv (.t 7), []⟩, ⟨(some 42), none, .len (.t 41), []⟩, ⟨(some 43), none, .bi .lss .i64 (.t 40) (.t 42), []⟩])
    (.cond (.t 43) (.skip) (.exit 2)))
    (.seq (.block 3 (.seq (.reg [] [⟨(some 47), none, .mv (.t 5), []⟩, ⟨(some 48), none, .mv (.t 7), []⟩, ⟨(some 49), none, .mv (.t 8), []⟩, ⟨(some 50), none, .ia 2 (.t 48) (.t 49), []⟩, ⟨(some 51), none, .ld 2 true (.t 50), []⟩, ⟨(some 52), none, .call 34 [(.t 47), (.t 51)], []⟩, ⟨(some 46), none, .mv (.t 52), []⟩, ⟨(some 53), none, .ext (.t 46) 0, []⟩, ⟨(some 54), none, .ext (.t 46) 1, []⟩, ⟨(some 9), none, .alloc [.str [], .str [], .sl .nil 6 [], .bool false, .bool false, .int .i64 0], []⟩, ⟨none, none, .st 6 (.t 9) (.t 53), []⟩, ⟨(some 10), none, .mv (.t 54), []⟩])
     (.seq (.reg [0, 1, 2, 3, 4, 5, 6, 7, 8, 9, 10, 11, 12, 13, 14, 15, 16, 17, 18, 19, 20, 21, 22, 23, 24, 25, 26, 27] [⟨(some 55), none, .mv (.t 10), []⟩, ⟨(some 56), none, .mv (.t 55), []⟩, ⟨(some 57), (some (56, false)), .mv (.t 0), []⟩, ⟨(some 58), (some (56, false)), .mv (.t 7), []⟩, ⟨(some 59), (some (56, false)), .mv (.t 8), []⟩, ⟨(some 60), (some (56, false)), .ia 2 (.t 58) (.t 59), []⟩, ⟨(some 61), (some (56, false)), .ld 2 true (.t 60), []⟩, ⟨(some 62), (some (56, false)), .call 20 [(.t 57), (.t 61)], []⟩, ⟨(some 63), none, .pick (.t 56) (.k (.bool true)) (.t 62), []⟩, ⟨(some 64), none, .mv (.t 63), []⟩, ⟨(some 65), (some (64, false)), .mv (.t 1), []⟩, ⟨(some 66), (some (64, false)), .mv (.t 7), []⟩, ⟨(some 67), (some (64, false)), .mv (.t 8), []⟩, ⟨(some 68), (some (64, false)), .ia 2 (.t 66) (.t 67), []⟩, ⟨(some 69), (some (64, false)), .ld 2 true (.t 68), []⟩, ⟨(some 70), (some (64, false)), .call 20 [(.t 65), (.t 69)], []⟩, ⟨(some 71), (some (64, false)), .not (.t 70), []⟩, ⟨(some 72), none, .pick (.t 64) (.k (.bool true)) (.t 71), []⟩, ⟨(some 73), none, .mv (.t 72), []⟩, ⟨(some 74), (some (73, false)), .mv (.t 7), []⟩, ⟨(some 75), (some (73, false)), .mv (.t 8), []⟩, ⟨(some 76), (some (73, false)), .sll 2 (.t 74) none (some (.t 75)) none, []⟩, ⟨(some 77), (some (73, false)), .mv (.t 7), []⟩, ⟨(some 78), (some (73, false)), .mv (.t 8), []⟩, ⟨(some 79), (some (73, false)), .ia 2 (.t 77) (.t 78), []⟩, ⟨(some 80), (some (73, false)), .ld 2 true (.t 79), []⟩, ⟨(some 81), (some (73, false)), .call 20 [(.t 76), (.t 80)], []⟩, ⟨(some 82), none, .pick (.t 73) (.k (.bool true)) (.t 81), []⟩])
     (.cond (.t 82) (.seq (.reg [] [⟨(some 4), none, .mv (.k (.bool false)), []⟩])
      (.ret)) (.skip)))))
    (.reg [] [⟨(some 44), none, .mv (.t 8), []⟩, ⟨(some 45), none, .bi .add .i64 (.t 44) (.k (.int .i64 1)), []⟩, ⟨(some 8), none, .mv (.t 45), []⟩]))))))
  (.seq (.seq (.reg [] [⟨(some 11), none, .mv (.k (.int .i64 0)), []⟩])
  (.block 4 (.loop [1, 5, 7, 11] (.seq (.seq (.reg [] [⟨(some 83), none, .mv (.t 11), []⟩, ⟨(some 84), none, .mv (.t 7), []⟩, ⟨(some 85), none, .len (.t 84), []⟩, ⟨(some 86), none, .bi .lss .i64 (.t 83) (.t 85), []⟩])
    (.cond (.t 86) (.skip) (.exit 4)))
    (.seq (.block 5 (.reg [] [⟨(some 89), none, .mv (.t 5), []⟩, ⟨(some 90), none, .mv (.t 7), []⟩, ⟨(some 91), none, .mv (.t 11), []⟩, ⟨(some 92), none, .ia 2 (.t 90) (.t 91), []⟩, ⟨(some 93), none, .ld 2 true (.t 92), []⟩, ⟨(some 94), none, .bld [.str [], .str [], .sl .nil 6 [], .bool false, .bool false, .int .i64 0] [(4, 1, (.k (.bool true)))], []⟩, ⟨(some 95), none, .call 29 [(.t 89), (.t 93), (.t 94)], []⟩]))
    (.reg [] [⟨(some 87), none, .mv (.t 11), []⟩, ⟨(some 88), none, .bi .add .i64 (.t 87) (.k (.int .i64 1)), []⟩, ⟨(some 11), none, .mv (.t 88), []⟩]))))))
  (.seq (.seq (.reg [] [⟨(some 96), none, .mv (.t 5), []⟩, ⟨(some 97), none, .mv (.t 1), []⟩, ⟨(some 98), none, .call 31 [(.t 96), (.t 97)], []⟩, ⟨(some 99), none, .len (.t 98), []⟩, ⟨(some 100), none, .bi .neq .i64 (.t 99) (.k (.int .i64 0)), []⟩])
  (.cond (.t 100) (.seq (.reg [] [⟨(some 4), none, .mv (.k (.bool false)), []⟩])
   (.ret)) (.skip)))
  (.seq (.reg [] [⟨(some 101), none, .mv (.t 5), []⟩, ⟨(some 102), none, .call 33 [(.t 101)], []⟩])
  (.seq (.reg [] [⟨(some 103), none, .mv (.t 5), []⟩, ⟨(some 104), none, .mv (.t 1), []⟩, ⟨(some 105), none, .call 31 [(.t 103), (.t 104)], []⟩, ⟨(some 106), none, .mv (.t 1), []⟩, ⟨(some 107), none, .call 37 [(.t 106)], []⟩, ⟨(some 108), none, .call 18 [(.t 105), (.t 107)], []⟩, ⟨(some 109), none, .mv (.t 108), []⟩, ⟨(some 110), (some (109, true)), .call 14 [], []⟩, ⟨(some 111), none, .pick (.t 109) (.t 110) (.k (.bool false)), []⟩, ⟨(some 4), none, .mv (.t 111), []⟩])
  (.ret)))))))))))⟩
theorem ck9 : chkFn Try.prog 9 ir9 = true := by kernel_rfl

/-- seine seinelaw31.CrewThrough -/
def ir10 : AFn := ⟨155, 3, [.t 6], .seq (.reg [] [⟨(some 6), none, .mv (.k (.bool false)), []⟩])
  (.seq (.seq (.reg [] [⟨(some 16), none, .mv (.t 0), []⟩, ⟨(some 17), none, .bi .lss .i64 (.t 16) (.k (.int .i64 1)), []⟩, ⟨(some 18), none, .mv (.t 17), []⟩, ⟨(some 19), (some (18, false)), .mv (.t 0), []⟩, ⟨(some 20), (some (18, false)), .bi .gtr .i64 (.t 19) (.k (.int .i64 16)), []⟩, ⟨(some 21), none, .pick (.t 18) (.k (.bool true)) (.t 20), []⟩, ⟨(some 22), none, .mv (.t 21), []⟩, ⟨(some 23), (some (22, false)), .mv (.t 1), []⟩, ⟨(some 24), (some (22, false)), .call 38 [(.t 23)], []⟩, ⟨(some 25), (some (22, false)), .not (.t 24), []⟩, ⟨(some 26), none, .pick (.t 22) (.k (.bool true)) (.t 25), []⟩, ⟨(some 27), none, .mv (.t 26), []⟩, ⟨(some 28), (some (27, false)), .mv (.t 1), []⟩, ⟨(some 29), (some (27, false)), .len (.t 28), []⟩, ⟨(some 30), (some (27, false)), .bi .gtr .i64 (.t 29) (.k (.int .i64 60)), []⟩, ⟨(some 31), none, .pick (.t 27) (.k (.bool true)) (.t 30), []⟩])
  (.cond (.t 31) (.seq (.reg [] [⟨(some 32), none, .call 22 [], []⟩, ⟨(some 6), none, .mv (.t 32), []⟩])
   (.ret)) (.skip)))
  (.seq (.reg [] [⟨(some 33), none, .mv (.t 0), []⟩, ⟨(some 34), none, .call 39 [(.t 33)], []⟩, ⟨(some 7), none, .mv (.t 34), []⟩])
  (.seq (.seq (.reg [] [⟨(some 35), none, .mv (.t 7), []⟩, ⟨(some 36), none, .isnil .p (.t 35), []⟩])
  (.cond (.t 36) (.seq (.reg [] [⟨(some 6), none, .mv (.k (.bool false)), []⟩])
   (.ret)) (.skip)))
  (.seq (.reg [] [⟨(some 37), none, .mv (.t 7), []⟩, ⟨(some 38), none, .mv (.t 1), []⟩, ⟨(some 39), none, .call 40 [(.t 37), (.t 38)], []⟩])
  (.seq (.reg [] [⟨(some 8), none, .mv (.k (.int .i64 0)), []⟩, ⟨(some 9), none, .mv (.k (.int .i64 0)), []⟩, ⟨(some 10), none, .mv (.k (.int .i64 0)), []⟩])
  (.seq (.seq (.reg [] [⟨(some 11), none, .mv (.k (.int .i64 0)), []⟩])
  (.block 0 (.loop [0, 1, 2, 7, 8, 9, 10, 11] (.seq (.seq (.reg [] [⟨(some 40), none, .mv (.t 11), []⟩, ⟨(some 41), none, .mv (.t 1), []⟩, ⟨(some 42), none, .len (.t 41), []⟩, ⟨(some 43), none, .bi .mul .i64 (.k (.int .i64 3)) (.t 42), []⟩, ⟨(some 44), none, .bi .lss .i64 (.t 40) (.t 43), []⟩])
    (.cond (.t 44) (.skip) (.exit 0)))
    (.seq (.block 1 (.seq (.reg [] [⟨(some 47), none, .mv (.t 7), []⟩, ⟨(some 48), none, .call 41 [(.t 47)], []⟩, ⟨(some 12), none, .mv (.t 48), []⟩])
     (.seq (.seq (.reg [] [⟨(some 49), none, .mv (.t 12), []⟩, ⟨(some 50), none, .len (.t 49), []⟩, ⟨(some 51), none, .bi .eql .i64 (.t 50) (.k (.int .i64 0)), []⟩, ⟨(some 52), none, .mv (.t 51), []⟩, ⟨(some 53), (some (52, false)), .mv (.t 7), []⟩, ⟨(some 54), (some (52, false)), .call 42 [(.t 53)], []⟩, ⟨(some 55), (some (52, false)), .mv (.t 0), []⟩, ⟨(some 56), (some (52, false)), .bi .gtr .i64 (.t 54) (.t 55), []⟩, ⟨(some 57), none, .pick (.t 52) (.k (.bool true)) (.t 56), []⟩, ⟨(some 58), none, .mv (.t 57), []⟩, ⟨(some 59), (some (58, false)), .mv (.t 7), []⟩, ⟨(some 60), (some (58, false)), .call 43 [(.t 59)], []⟩, ⟨(some 61), (some (58, false)), .mv (.t 1), []⟩, ⟨(some 62), (some (58, false)), .len (.t 61), []⟩, ⟨(some 63), (some (58, false)), .mv (.t 8), []⟩, ⟨(some 64), (some (58, false)), .bi .sub .i64 (.t 62) (.t 63), []⟩, ⟨(some 65), (some (58, false)), .bi .neq .i64 (.t 60) (.t 64), []⟩, ⟨(some 66), none, .pick (.t 58) (.k (.bool true)) (.t 65), []⟩, ⟨(some 67), none, .mv (.t 66), []⟩, ⟨(some 68), (some (67, false)), .mv (.t 7), []⟩, ⟨(some 69), (some (67, false)), .call 42 [(.t 68)], []⟩, ⟨(some 70), (some (67, false)), .mv (.t 8), []⟩, ⟨(some 71), (some (67, false)), .mv (.t 10), []⟩, ⟨(some 72), (some (67, false)), .bi .sub .i64 (.t 70) (.t 71), []⟩, ⟨(some 73), (some (67, false)), .bi .neq .i64 (.t 69) (.t 72), []⟩, ⟨(some 74), none, .pick (.t 67) (.k (.bool true)) (.t 73), []⟩])
     (.cond (.t 74) (.seq (.reg [] [⟨(some 6), none, .mv (.k (.bool false)), []⟩])
      (.ret)) (.skip)))
     (.seq (.reg [] [⟨(some 13), none, .mv (.k (.int .i64 (-1))), []⟩])
     (.seq (.seq (.reg [] [⟨(some 75), none, .mv (.t 11), []⟩, ⟨(some 76), none, .mv (.t 2), []⟩, ⟨(some 77), none, .len (.t 76), []⟩, ⟨(some 78), none, .bi .lss .i64 (.t 75) (.t 77), []⟩])
     (.cond (.t 78) (.reg [] [⟨(some 79), none, .mv (.t 2), []⟩, ⟨(some 80), none, .mv (.t 11), []⟩, ⟨(some 81), none, .ia 1 (.t 79) (.t 80), []⟩, ⟨(some 82), none, .ld 1 false (.t 81), []⟩, ⟨(some 13), none, .mv (.t 82), []⟩]) (.skip)))
     (.seq (.reg [] [⟨(some 84), none, .mv (.t 7), []⟩, ⟨(some 85), none, .mv (.t 13), []⟩, ⟨(some 86), none, .mv (.t 12), []⟩, ⟨(some 87), none, .call 24 [(.t 85), (.t 86)], []⟩, ⟨(some 88), none, .call 44 [(.t 84), (.t 87)], []⟩, ⟨(some 83), none, .mv (.t 88), []⟩, ⟨(some 89), none, .ext (.t 83) 0, []⟩, ⟨(some 90), none, .ext (.t 83) 1, []⟩, ⟨(some 14), none, .alloc [.str [], .sl .nil 1 []], []⟩, ⟨none, none, .st 2 (.t 14) (.t 89), []⟩, ⟨(some 15), none, .mv (.t 90), []⟩])
     (.seq (.seq (.reg [] [⟨(some 91), none, .mv (.t 15), []⟩])
     (.block 2 (.seq (.reg [] [⟨(some 93), none, .bi .eql .i64 (.t 91) (.k (.int .i64 1)), []⟩, ⟨(some 92), none, .mv (.t 93), []⟩])
      (.cond (.t 92) (.seq (.seq (.reg [0, 1, 2, 3, 4, 5, 6, 7, 8, 9, 10, 11, 12] [⟨(some 94), none, .mv (.t 8), []⟩, ⟨(some 95), none, .mv (.t 1), []⟩, ⟨(some 96), none, .len (.t 95), []⟩, ⟨(some 97), none, .bi .geq .i64 (.t 94) (.t 96), []⟩, ⟨(some 98), none, .mv (.t 97), []⟩, ⟨(some 99), (some (98, false)), .ld 2 true (.t 14), []⟩, ⟨(some 100), (some (98, false)), .mv (.t 1), []⟩, ⟨(some 101), (some (98, false)), .mv (.t 8), []⟩, ⟨(some 102), (some (98, false)), .ia 2 (.t 100) (.t 101), []⟩, ⟨(some 103), (some (98, false)), .ld 2 true (.t 102), []⟩, ⟨(some 104), (some (98, false)), .call 45 [(.t 99), (.t 103)], []⟩, ⟨(some 105), (some (98, false)), .not (.t 104), []⟩, ⟨(some 106), none, .pick (.t 98) (.k (.bool true)) (.t 105), []⟩])
       (.cond (.t 106) (.seq (.reg [] [⟨(some 6), none, .mv (.k (.bool false)), []⟩])
        (.ret)) (.skip)))
       (.reg [] [⟨(some 107), none, .mv (.t 8), []⟩, ⟨(some 108), none, .bi .add .i64 (.t 107) (.k (.int .i64 1)), []⟩, ⟨(some 8), none, .mv (.t 108), []⟩])) (.seq (.reg [] [⟨(some 110), none, .bi .eql .i64 (.t 91) (.k (.int .i64 2)), []⟩, ⟨(some 109), none, .mv (.t 110), []⟩])
       (.cond (.t 109) (.reg [] [⟨(some 111), none, .mv (.t 9), []⟩, ⟨(some 112), none, .bi .add .i64 (.t 111) (.k (.int .i64 1)), []⟩, ⟨(some 9), none, .mv (.t 112), []⟩]) (.seq (.reg [] [⟨(some 114), none, .bi .eql .i64 (.t 91) (.k (.int .i64 3)), []⟩, ⟨(some 113), none, .mv (.t 114), []⟩])
        (.cond (.t 113) (.reg [] [⟨(some 115), none, .mv (.t 10), []⟩, ⟨(some 116), none, .bi .add .i64 (.t 115) (.k (.int .i64 1)), []⟩, ⟨(some 10), none, .mv (.t 116), []⟩]) (.seq (.reg [] [⟨(some 6), none, .mv (.k (.bool false)), []⟩])
         (.ret))))))))))
     (.seq (.reg [] [⟨(some 117), none, .mv (.t 9), []⟩, ⟨(some 118), none, .mv (.t 8), []⟩, ⟨(some 119), none, .bi .gtr .i64 (.t 117) (.t 118), []⟩, ⟨(some 120), none, .mv (.t 119), []⟩, ⟨(some 121), (some (120, false)), .mv (.t 10), []⟩, ⟨(some 122), (some (120, false)), .mv (.t 9), []⟩, ⟨(some 123), (some (120, false)), .bi .gtr .i64 (.t 121) (.t 122), []⟩, ⟨(some 124), none, .pick (.t 120) (.k (.bool true)) (.t 123), []⟩])
     (.cond (.t 124) (.seq (.reg [] [⟨(some 6), none, .mv (.k (.bool false)), []⟩])
      (.ret)) (.skip))))))))))
    (.reg [] [⟨(some 45), none, .mv (.t 11), []⟩, ⟨(some 46), none, .bi .add .i64 (.t 45) (.k (.int .i64 1)), []⟩, ⟨(some 11), none, .mv (.t 46), []⟩]))))))
  (.seq (.reg [] [⟨(some 125), none, .mv (.t 8), []⟩, ⟨(some 126), none, .mv (.t 1), []⟩, ⟨(some 127), none, .len (.t 126), []⟩, ⟨(some 128), none, .bi .eql .i64 (.t 125) (.t 127), []⟩, ⟨(some 129), none, .mv (.t 128), []⟩, ⟨(some 130), (some (129, true)), .mv (.t 9), []⟩, ⟨(some 131), (some (129, true)), .mv (.t 1), []⟩, ⟨(some 132), (some (129, true)), .len (.t 131), []⟩, ⟨(some 133), (some (129, true)), .bi .eql .i64 (.t 130) (.t 132), []⟩, ⟨(some 134), none, .pick (.t 129) (.t 133) (.k (.bool false)), []⟩, ⟨(some 135), none, .mv (.t 134), []⟩, ⟨(some 136), (some (135, true)), .mv (.t 10), []⟩, ⟨(some 137), (some (135, true)), .mv (.t 1), []⟩, ⟨(some 138), (some (135, true)), .len (.t 137), []⟩, ⟨(some 139), (some (135, true)), .bi .eql .i64 (.t 136) (.t 138), []⟩, ⟨(some 140), none, .pick (.t 135) (.t 139) (.k (.bool false)), []⟩, ⟨(some 141), none, .mv (.t 140), []⟩, ⟨(some 142), (some (141, true)), .mv (.t 7), []⟩, ⟨(some 143), (some (141, true)), .call 41 [(.t 142)], []⟩, ⟨(some 144), (some (141, true)), .len (.t 143), []⟩, ⟨(some 145), (some (141, true)), .bi .eql .i64 (.t 144) (.k (.int .i64 0)), []⟩, ⟨(some 146), none, .pick (.t 141) (.t 145) (.k (.bool false)), []⟩, ⟨(some 147), none, .mv (.t 146), []⟩, ⟨(some 148), (some (147, true)), .mv (.t 7), []⟩, ⟨(some 149), (some (147, true)), .call 42 [(.t 148)], []⟩, ⟨(some 150), (some (147, true)), .bi .eql .i64 (.t 149) (.k (.int .i64 0)), []⟩, ⟨(some 151), none, .pick (.t 147) (.t 150) (.k (.bool false)), []⟩, ⟨(some 152), none, .mv (.t 151), []⟩, ⟨(some 153), (some (152, true)), .call 22 [], []⟩, ⟨(some 154), none, .pick (.t 152) (.t 153) (.k (.bool false)), []⟩, ⟨(some 6), none, .mv (.t 154), []⟩])
  (.ret))))))))⟩
theorem ck10 : chkFn Try.prog 10 ir10 = true := by kernel_rfl

/-- seine seinelaw31.CrewPlays -/
def ir11 : AFn := ⟨164, 2, [.t 4], .seq (.reg [] [⟨(some 4), none, .mv (.k (.bool false)), []⟩])
  (.seq (.seq (.reg [] [⟨(some 17), none, .mv (.t 1), []⟩, ⟨(some 18), none, .len (.t 17), []⟩, ⟨(some 19), none, .bi .gtr .i64 (.t 18) (.k (.int .i64 80)), []⟩])
  (.cond (.t 19) (.seq (.reg [] [⟨(some 20), none, .call 22 [], []⟩, ⟨(some 4), none, .mv (.t 20), []⟩])
   (.ret)) (.skip)))
  (.seq (.reg [] [⟨(some 21), none, .mv (.t 0), []⟩, ⟨(some 22), none, .call 39 [(.t 21)], []⟩, ⟨(some 5), none, .mv (.t 22), []⟩])
  (.seq (.seq (.reg [] [⟨(some 23), none, .mv (.t 0), []⟩, ⟨(some 24), none, .bi .lss .i64 (.t 23) (.k (.int .i64 1)), []⟩, ⟨(some 25), none, .mv (.t 24), []⟩, ⟨(some 26), (some (25, false)), .mv (.t 0), []⟩, ⟨(some 27), (some (25, false)), .bi .gtr .i64 (.t 26) (.k (.int .i64 16)), []⟩, ⟨(some 28), none, .pick (.t 25) (.k (.bool true)) (.t 27), []⟩])
  (.cond (.t 28) (.seq (.reg [] [⟨(some 30), none, .mv (.t 5), []⟩, ⟨(some 31), none, .call 44 [(.t 30), (.k (.int .i64 1))], []⟩, ⟨(some 29), none, .mv (.t 31), []⟩, ⟨(some 32), none, .ext (.t 29) 0, []⟩, ⟨(some 33), none, .ext (.t 29) 1, []⟩, ⟨(some 6), none, .alloc [.str [], .sl .nil 1 []], []⟩, ⟨none, none, .st 2 (.t 6) (.t 32), []⟩, ⟨(some 7), none, .mv (.t 33), []⟩])
   (.seq (.reg [0, 1, 2, 3, 4, 5, 6, 7, 8, 9, 10, 14, 17, 11, 12, 13, 15, 16, 18, 19, 20, 21, 22, 23, 24, 25] [⟨(some 34), none, .mv (.t 5), []⟩, ⟨(some 35), none, .isnil .p (.t 34), []⟩, ⟨(some 36), none, .mv (.t 35), []⟩, ⟨(some 37), (some (36, true)), .mv (.t 7), []⟩, ⟨(some 38), (some (36, true)), .bi .eql .i64 (.t 37) (.k (.int .i64 0)), []⟩, ⟨(some 39), none, .pick (.t 36) (.t 38) (.k (.bool false)), []⟩, ⟨(some 40), none, .mv (.t 39), []⟩, ⟨(some 41), (some (40, true)), .fa 1 (.t 6), []⟩, ⟨(some 42), (some (40, true)), .ld 1 false (.t 41), []⟩, ⟨(some 43), (some (40, true)), .len (.t 42), []⟩, ⟨(some 44), (some (40, true)), .mv (.t 5), []⟩, ⟨(some 48), (some (40, true)), .mv (.t 5), []⟩, ⟨(some 51), (some (40, true)), .mv (.t 5), []⟩, ⟨(some 45), (some (40, true)), .call 41 [(.t 44)], [8]⟩, ⟨(some 46), (some (40, true)), .len (.t 45), []⟩, ⟨(some 47), (some (40, true)), .bi .add .i64 (.t 43) (.t 46), []⟩, ⟨(some 49), (some (40, true)), .call 43 [(.t 48)], [8]⟩, ⟨(some 50), (some (40, true)), .bi .add .i64 (.t 47) (.t 49), []⟩, ⟨(some 52), (some (40, true)), .call 42 [(.t 51)], [8]⟩, ⟨(some 53), (some (40, true)), .bi .add .i64 (.t 50) (.t 52), []⟩, ⟨(some 54), (some (40, true)), .bi .eql .i64 (.t 53) (.k (.int .i64 0)), []⟩, ⟨(some 55), none, .pick (.t 40) (.t 54) (.k (.bool false)), []⟩, ⟨(some 56), none, .mv (.t 55), []⟩, ⟨(some 57), (some (56, true)), .call 22 [], []⟩, ⟨(some 58), none, .pick (.t 56) (.t 57) (.k (.bool false)), []⟩, ⟨(some 4), none, .mv (.t 58), []⟩])
   (.ret))) (.skip)))
  (.seq (.seq (.reg [] [⟨(some 59), none, .mv (.t 5), []⟩, ⟨(some 60), none, .isnil .p (.t 59), []⟩])
  (.cond (.t 60) (.seq (.reg [] [⟨(some 4), none, .mv (.k (.bool false)), []⟩])
   (.ret)) (.skip)))
  (.seq (.reg [] [⟨(some 61), none, .mv (.t 0), []⟩, ⟨(some 62), none, .call 46 [(.t 61)], []⟩, ⟨(some 8), none, .mv (.t 62), []⟩])
  (.seq (.seq (.reg [] [⟨(some 9), none, .mv (.k (.int .i64 0)), []⟩])
  (.block 0 (.loop [1, 5, 8, 9] (.seq (.seq (.reg [] [⟨(some 63), none, .mv (.t 9), []⟩, ⟨(some 64), none, .mv (.t 1), []⟩, ⟨(some 65), none, .len (.t 64), []⟩, ⟨(some 66), none, .bi .lss .i64 (.t 63) (.t 65), []⟩])
    (.cond (.t 66) (.skip) (.exit 0)))
    (.seq (.block 1 (.seq (.reg [] [⟨(some 69), none, .mv (.t 1), []⟩, ⟨(some 70), none, .mv (.t 9), []⟩, ⟨(some 71), none, .ia 3 (.t 69) (.t 70), []⟩, ⟨(some 72), none, .ld 3 true (.t 71), []⟩, ⟨(some 10), none, .alloc [.int .i64 0, .int .i64 0, .sl .nil 2 []], []⟩, ⟨none, none, .st 3 (.t 10) (.t 72), []⟩])
     (.seq (.seq (.reg [] [⟨(some 73), none, .fa 2 (.t 10), []⟩, ⟨(some 74), none, .ld 1 false (.t 73), []⟩, ⟨(some 75), none, .call 38 [(.t 74)], []⟩, ⟨(some 76), none, .not (.t 75), []⟩])
     (.cond (.t 76) (.seq (.reg [] [⟨(some 77), none, .call 22 [], []⟩, ⟨(some 4), none, .mv (.t 77), []⟩])
      (.ret)) (.skip)))
     (.seq (.seq (.reg [] [⟨(some 78), none, .fa 0 (.t 10), []⟩, ⟨(some 79), none, .ld 1 false (.t 78), []⟩])
     (.block 2 (.seq (.reg [] [⟨(some 81), none, .bi .eql .i64 (.t 79) (.k (.int .i64 0)), []⟩, ⟨(some 80), none, .mv (.t 81), []⟩])
      (.cond (.t 80) (.seq (.reg [] [⟨(some 82), none, .fa 2 (.t 10), []⟩, ⟨(some 83), none, .ld 1 false (.t 82), []⟩, ⟨(some 84), none, .appm 2 40 [.str [], .sl .nil 1 []] (.k (.sl .nil 2 [])) (.t 83), []⟩, ⟨(some 11), none, .mv (.t 84), []⟩])
       (.seq (.reg [] [⟨(some 85), none, .mv (.t 5), []⟩, ⟨(some 86), none, .mv (.t 11), []⟩, ⟨(some 87), none, .call 40 [(.t 85), (.t 86)], []⟩])
       (.seq (.seq (.reg [] [⟨(some 12), none, .mv (.k (.int .i64 0)), []⟩])
       (.block 3 (.loop [1, 5, 8, 9, 10, 11, 12] (.seq (.seq (.reg [] [⟨(some 88), none, .mv (.t 12), []⟩, ⟨(some 89), none, .mv (.t 11), []⟩, ⟨(some 90), none, .len (.t 89), []⟩, ⟨(some 91), none, .bi .lss .i64 (.t 88) (.t 90), []⟩])
         (.cond (.t 91) (.skip) (.exit 3)))
         (.seq (.block 4 (.reg [] [⟨(some 94), none, .mv (.t 11), []⟩, ⟨(some 95), none, .mv (.t 12), []⟩, ⟨(some 96), none, .bld [.str [], .sl .nil 1 []] [(0, 1, (.k (.str [103, 111, 110, 101])))], []⟩, ⟨(some 97), none, .ia 2 (.t 94) (.t 95), []⟩, ⟨none, none, .st 2 (.t 97) (.t 96), []⟩]))
         (.reg [] [⟨(some 92), none, .mv (.t 12), []⟩, ⟨(some 93), none, .bi .add .i64 (.t 92) (.k (.int .i64 1)), []⟩, ⟨(some 12), none, .mv (.t 93), []⟩]))))))
       (.reg [0, 1, 2, 3, 4, 5, 6, 7, 8, 9, 10] [⟨(some 98), none, .mv (.t 8), []⟩, ⟨(some 99), none, .mv (.t 8), []⟩, ⟨(some 100), none, .nilchk (.t 99), []⟩, ⟨(some 101), none, .fa 2 (.t 100), []⟩, ⟨(some 102), none, .ld 1 false (.t 101), []⟩, ⟨(some 103), none, .fa 2 (.t 10), []⟩, ⟨(some 104), none, .ld 1 false (.t 103), []⟩, ⟨(some 105), none, .app 2 40 (.t 102) (.t 104), []⟩, ⟨(some 106), none, .nilchk (.t 98), []⟩, ⟨(some 107), none, .fa 2 (.t 106), []⟩, ⟨none, none, .st 1 (.t 107) (.t 105), []⟩])))) (.seq (.reg [] [⟨(some 109), none, .bi .eql .i64 (.t 79) (.k (.int .i64 1)), []⟩, ⟨(some 108), none, .mv (.t 109), []⟩])
       (.cond (.t 108) (.seq (.reg [] [⟨(some 111), none, .mv (.t 5), []⟩, ⟨(some 112), none, .fa 1 (.t 10), []⟩, ⟨(some 113), none, .ld 1 false (.t 112), []⟩, ⟨(some 114), none, .call 44 [(.t 111), (.t 113)], []⟩, ⟨(some 110), none, .mv (.t 114), []⟩, ⟨(some 115), none, .ext (.t 110) 0, []⟩, ⟨(some 116), none, .ext (.t 110) 1, []⟩, ⟨(some 13), none, .alloc [.str [], .sl .nil 1 []], []⟩, ⟨none, none, .st 2 (.t 13) (.t 115), []⟩, ⟨(some 14), none, .mv (.t 116), []⟩])
        (.seq (.reg [] [⟨(some 118), none, .mv (.t 8), []⟩, ⟨(some 119), none, .fa 1 (.t 10), []⟩, ⟨(some 120), none, .ld 1 false (.t 119), []⟩, ⟨(some 121), none, .call 47 [(.t 118), (.t 120)], []⟩, ⟨(some 117), none, .mv (.t 121), []⟩, ⟨(some 122), none, .ext (.t 117) 0, []⟩, ⟨(some 123), none, .ext (.t 117) 1, []⟩, ⟨(some 15), none, .alloc [.str [], .sl .nil 1 []], []⟩, ⟨none, none, .st 2 (.t 15) (.t 122), []⟩, ⟨(some 16), none, .mv (.t 123), []⟩])
        (.seq (.reg [] [⟨(some 124), none, .mv (.t 14), []⟩, ⟨(some 125), none, .mv (.t 16), []⟩, ⟨(some 126), none, .bi .neq .i64 (.t 124) (.t 125), []⟩, ⟨(some 127), none, .mv (.t 126), []⟩, ⟨(some 128), (some (127, false)), .ld 2 true (.t 13), []⟩, ⟨(some 129), (some (127, false)), .ld 2 true (.t 15), []⟩, ⟨(some 130), (some (127, false)), .call 45 [(.t 128), (.t 129)], []⟩, ⟨(some 131), (some (127, false)), .not (.t 130), []⟩, ⟨(some 132), none, .pick (.t 127) (.k (.bool true)) (.t 131), []⟩])
        (.cond (.t 132) (.seq (.reg [] [⟨(some 4), none, .mv (.k (.bool false)), []⟩])
         (.ret)) (.skip))))) (.seq (.reg [] [⟨(some 134), none, .bi .eql .i64 (.t 79) (.k (.int .i64 2)), []⟩, ⟨(some 133), none, .mv (.t 134), []⟩])
        (.cond (.t 133) (.seq (.reg [] [⟨(some 135), none, .mv (.t 5), []⟩, ⟨(some 136), none, .call 48 [(.t 135)], []⟩])
         (.reg [] [⟨(some 137), none, .mv (.t 8), []⟩, ⟨(some 138), none, .nilchk (.t 137), []⟩, ⟨(some 139), none, .fa 2 (.t 138), []⟩, ⟨none, none, .st 1 (.t 139) (.k (.sl .nil 2 [])), []⟩])) (.skip)))))))))
     (.seq (.reg [0, 2, 1, 3, 4, 5, 6, 7, 9, 10, 11, 12, 13, 8, 14, 15, 16, 17, 19, 18, 20, 21, 22] [⟨(some 140), none, .mv (.t 5), []⟩, ⟨(some 142), none, .mv (.t 8), []⟩, ⟨(some 141), none, .call 41 [(.t 140)], []⟩, ⟨(some 143), none, .call 50 [(.t 142)], []⟩, ⟨(some 144), none, .call 49 [(.t 141), (.t 143)], []⟩, ⟨(some 145), none, .not (.t 144), []⟩, ⟨(some 146), none, .mv (.t 145), []⟩, ⟨(some 147), (some (146, false)), .mv (.t 5), []⟩, ⟨(some 149), (some (146, false)), .mv (.t 8), []⟩, ⟨(some 150), (some (146, false)), .nilchk (.t 149), []⟩, ⟨(some 151), (some (146, false)), .fa 2 (.t 150), []⟩, ⟨(some 152), (some (146, false)), .ld 1 false (.t 151), []⟩, ⟨(some 153), (some (146, false)), .len (.t 152), []⟩, ⟨(some 148), (some (146, false)), .call 43 [(.t 147)], [11]⟩, ⟨(some 154), (some (146, false)), .bi .neq .i64 (.t 148) (.t 153), []⟩, ⟨(some 155), none, .pick (.t 146) (.k (.bool true)) (.t 154), []⟩, ⟨(some 156), none, .mv (.t 155), []⟩, ⟨(some 157), (some (156, false)), .mv (.t 5), []⟩, ⟨(some 159), (some (156, false)), .mv (.t 8), []⟩, ⟨(some 158), (some (156, false)), .call 42 [(.t 157)], []⟩, ⟨(some 160), (some (156, false)), .call 51 [(.t 159)], []⟩, ⟨(some 161), (some (156, false)), .bi .neq .i64 (.t 158) (.t 160), []⟩, ⟨(some 162), none, .pick (.t 156) (.k (.bool true)) (.t 161), []⟩])
     (.cond (.t 162) (.seq (.reg [] [⟨(some 4), none, .mv (.k (.bool false)), []⟩])
      (.ret)) (.skip)))))))
    (.reg [] [⟨(some 67), none, .mv (.t 9), []⟩, ⟨(some 68), none, .bi .add .i64 (.t 67) (.k (.int .i64 1)), []⟩, ⟨(some 9), none, .mv (.t 68), []⟩]))))))
  (.seq (.reg [] [⟨(some 163), none, .call 22 [], []⟩, ⟨(some 4), none, .mv (.t 163), []⟩])
  (.ret))))))))⟩
theorem ck11 : chkFn Try.prog 11 ir11 = true := by kernel_rfl

/-- seine seinelaw31.CrewDrops -/
def ir12 : AFn := ⟨130, 4, [.t 8], .seq (.reg [] [⟨(some 8), none, .mv (.k (.bool false)), []⟩])
  (.seq (.seq (.reg [] [⟨(some 17), none, .mv (.t 0), []⟩, ⟨(some 18), none, .bi .lss .i64 (.t 17) (.k (.int .i64 1)), []⟩, ⟨(some 19), none, .mv (.t 18), []⟩, ⟨(some 20), (some (19, false)), .mv (.t 0), []⟩, ⟨(some 21), (some (19, false)), .bi .gtr .i64 (.t 20) (.k (.int .i64 16)), []⟩, ⟨(some 22), none, .pick (.t 19) (.k (.bool true)) (.t 21), []⟩, ⟨(some 23), none, .mv (.t 22), []⟩, ⟨(some 24), (some (23, false)), .mv (.t 2), []⟩, ⟨(some 25), (some (23, false)), .call 38 [(.t 24)], []⟩, ⟨(some 26), (some (23, false)), .not (.t 25), []⟩, ⟨(some 27), none, .pick (.t 23) (.k (.bool true)) (.t 26), []⟩, ⟨(some 28), none, .mv (.t 27), []⟩, ⟨(some 29), (some (28, false)), .mv (.t 1), []⟩, ⟨(some 30), (some (28, false)), .bi .lss .i64 (.t 29) (.k (.int .i64 0)), []⟩, ⟨(some 31), none, .pick (.t 28) (.k (.bool true)) (.t 30), []⟩, ⟨(some 32), none, .mv (.t 31), []⟩, ⟨(some 33), (some (32, false)), .mv (.t 1), []⟩, ⟨(some 34), (some (32, false)), .bi .gtr .i64 (.t 33) (.k (.int .i64 60)), []⟩, ⟨(some 35), none, .pick (.t 32) (.k (.bool true)) (.t 34), []⟩])
  (.cond (.t 35) (.seq (.reg [] [⟨(some 36), none, .call 22 [], []⟩, ⟨(some 8), none, .mv (.t 36), []⟩])
   (.ret)) (.skip)))
  (.seq (.reg [] [⟨(some 37), none, .mv (.t 0), []⟩, ⟨(some 38), none, .call 39 [(.t 37)], []⟩, ⟨(some 9), none, .mv (.t 38), []⟩])
  (.seq (.seq (.reg [] [⟨(some 39), none, .mv (.t 9), []⟩, ⟨(some 40), none, .isnil .p (.t 39), []⟩])
  (.cond (.t 40) (.seq (.reg [] [⟨(some 8), none, .mv (.k (.bool false)), []⟩])
   (.ret)) (.skip)))
  (.seq (.reg [] [⟨(some 41), none, .mv (.t 9), []⟩, ⟨(some 42), none, .mv (.t 2), []⟩, ⟨(some 43), none, .call 40 [(.t 41), (.t 42)], []⟩])
  (.seq (.seq (.reg [] [⟨(some 10), none, .mv (.k (.int .i64 0)), []⟩])
  (.block 0 (.loop [1, 3, 9, 10] (.seq (.seq (.reg [] [⟨(some 44), none, .mv (.t 10), []⟩, ⟨(some 45), none, .mv (.t 1), []⟩, ⟨(some 46), none, .bi .lss .i64 (.t 44) (.t 45), []⟩, ⟨(some 47), none, .mv (.t 46), []⟩, ⟨(some 48), (some (47, true)), .mv (.t 9), []⟩, ⟨(some 49), (some (47, true)), .call 41 [(.t 48)], []⟩, ⟨(some 50), (some (47, true)), .len (.t 49), []⟩, ⟨(some 51), (some (47, true)), .bi .gtr .i64 (.t 50) (.k (.int .i64 0)), []⟩, ⟨(some 52), none, .pick (.t 47) (.t 51) (.k (.bool false)), []⟩])
    (.cond (.t 52) (.skip) (.exit 0)))
    (.seq (.block 1 (.seq (.reg [] [⟨(some 11), none, .mv (.k (.int .i64 (-1))), []⟩])
     (.seq (.seq (.reg [] [⟨(some 55), none, .mv (.t 10), []⟩, ⟨(some 56), none, .mv (.t 3), []⟩, ⟨(some 57), none, .len (.t 56), []⟩, ⟨(some 58), none, .bi .lss .i64 (.t 55) (.t 57), []⟩])
     (.cond (.t 58) (.reg [] [⟨(some 59), none, .mv (.t 3), []⟩, ⟨(some 60), none, .mv (.t 10), []⟩, ⟨(some 61), none, .ia 1 (.t 59) (.t 60), []⟩, ⟨(some 62), none, .ld 1 false (.t 61), []⟩, ⟨(some 11), none, .mv (.t 62), []⟩]) (.skip)))
     (.reg [] [⟨(some 63), none, .mv (.t 9), []⟩, ⟨(some 64), none, .mv (.t 11), []⟩, ⟨(some 65), none, .mv (.t 9), []⟩, ⟨(some 66), none, .call 41 [(.t 65)], []⟩, ⟨(some 67), none, .call 24 [(.t 64), (.t 66)], []⟩, ⟨(some 68), none, .call 44 [(.t 63), (.t 67)], []⟩]))))
    (.reg [] [⟨(some 53), none, .mv (.t 10), []⟩, ⟨(some 54), none, .bi .add .i64 (.t 53) (.k (.int .i64 1)), []⟩, ⟨(some 10), none, .mv (.t 54), []⟩]))))))
  (.seq (.reg [] [⟨(some 69), none, .mv (.t 9), []⟩, ⟨(some 70), none, .call 48 [(.t 69)], []⟩])
  (.seq (.reg [] [⟨(some 71), none, .mv (.t 9), []⟩, ⟨(some 72), none, .call 42 [(.t 71)], []⟩, ⟨(some 12), none, .mv (.t 72), []⟩])
  (.seq (.seq (.reg [] [⟨(some 73), none, .mv (.t 9), []⟩, ⟨(some 74), none, .call 43 [(.t 73)], []⟩, ⟨(some 75), none, .bi .neq .i64 (.t 74) (.k (.int .i64 0)), []⟩, ⟨(some 76), none, .mv (.t 75), []⟩, ⟨(some 77), (some (76, false)), .mv (.t 9), []⟩, ⟨(some 78), (some (76, false)), .call 41 [(.t 77)], []⟩, ⟨(some 79), (some (76, false)), .len (.t 78), []⟩, ⟨(some 80), (some (76, false)), .mv (.t 12), []⟩, ⟨(some 81), (some (76, false)), .bi .neq .i64 (.t 79) (.t 80), []⟩, ⟨(some 82), none, .pick (.t 76) (.k (.bool true)) (.t 81), []⟩])
  (.cond (.t 82) (.seq (.reg [] [⟨(some 8), none, .mv (.k (.bool false)), []⟩])
   (.ret)) (.skip)))
  (.seq (.reg [] [⟨(some 13), none, .mv (.k (.int .i64 0)), []⟩])
  (.seq (.seq (.reg [] [⟨(some 14), none, .mv (.k (.int .i64 0)), []⟩])
  (.block 2 (.loop [9, 12, 13, 14] (.seq (.seq (.reg [] [⟨(some 83), none, .mv (.t 14), []⟩, ⟨(some 84), none, .mv (.t 12), []⟩, ⟨(some 85), none, .bi .mul .i64 (.k (.int .i64 2)) (.t 84), []⟩, ⟨(some 86), none, .bi .lss .i64 (.t 83) (.t 85), []⟩, ⟨(some 87), none, .mv (.t 86), []⟩, ⟨(some 88), (some (87, true)), .mv (.t 9), []⟩, ⟨(some 89), (some (87, true)), .call 41 [(.t 88)], []⟩, ⟨(some 90), (some (87, true)), .len (.t 89), []⟩, ⟨(some 91), (some (87, true)), .bi .gtr .i64 (.t 90) (.k (.int .i64 0)), []⟩, ⟨(some 92), none, .pick (.t 87) (.t 91) (.k (.bool false)), []⟩])
    (.cond (.t 92) (.skip) (.exit 2)))
    (.seq (.block 3 (.seq (.reg [] [⟨(some 96), none, .mv (.t 9), []⟩, ⟨(some 97), none, .mv (.t 9), []⟩, ⟨(some 98), none, .call 41 [(.t 97)], []⟩, ⟨(some 99), none, .call 24 [(.k (.int .i64 (-1))), (.t 98)], []⟩, ⟨(some 100), none, .call 44 [(.t 96), (.t 99)], []⟩, ⟨(some 95), none, .mv (.t 100), []⟩, ⟨(some 101), none, .ext (.t 95) 0, []⟩, ⟨(some 102), none, .ext (.t 95) 1, []⟩, ⟨(some 15), none, .alloc [.str [], .sl .nil 1 []], []⟩, ⟨none, none, .st 2 (.t 15) (.t 101), []⟩, ⟨(some 16), none, .mv (.t 102), []⟩])
     (.seq (.seq (.reg [] [⟨(some 103), none, .mv (.t 16), []⟩, ⟨(some 104), none, .bi .neq .i64 (.t 103) (.k (.int .i64 2)), []⟩, ⟨(some 105), none, .mv (.t 104), []⟩, ⟨(some 106), (some (105, true)), .mv (.t 16), []⟩, ⟨(some 107), (some (105, true)), .bi .neq .i64 (.t 106) (.k (.int .i64 3)), []⟩, ⟨(some 108), none, .pick (.t 105) (.t 107) (.k (.bool false)), []⟩])
     (.cond (.t 108) (.seq (.reg [] [⟨(some 8), none, .mv (.k (.bool false)), []⟩])
      (.ret)) (.skip)))
     (.seq (.reg [] [⟨(some 109), none, .mv (.t 16), []⟩, ⟨(some 110), none, .bi .eql .i64 (.t 109) (.k (.int .i64 3)), []⟩])
     (.cond (.t 110) (.reg [] [⟨(some 111), none, .mv (.t 13), []⟩, ⟨(some 112), none, .bi .add .i64 (.t 111) (.k (.int .i64 1)), []⟩, ⟨(some 13), none, .mv (.t 112), []⟩]) (.skip))))))
    (.reg [] [⟨(some 93), none, .mv (.t 14), []⟩, ⟨(some 94), none, .bi .add .i64 (.t 93) (.k (.int .i64 1)), []⟩, ⟨(some 14), none, .mv (.t 94), []⟩]))))))
  (.seq (.reg [] [⟨(some 113), none, .mv (.t 13), []⟩, ⟨(some 114), none, .mv (.t 12), []⟩, ⟨(some 115), none, .bi .eql .i64 (.t 113) (.t 114), []⟩, ⟨(some 116), none, .mv (.t 115), []⟩, ⟨(some 117), (some (116, true)), .mv (.t 9), []⟩, ⟨(some 118), (some (116, true)), .call 41 [(.t 117)], []⟩, ⟨(some 119), (some (116, true)), .len (.t 118), []⟩, ⟨(some 120), (some (116, true)), .bi .eql .i64 (.t 119) (.k (.int .i64 0)), []⟩, ⟨(some 121), none, .pick (.t 116) (.t 120) (.k (.bool false)), []⟩, ⟨(some 122), none, .mv (.t 121), []⟩, ⟨(some 123), (some (122, true)), .mv (.t 9), []⟩, ⟨(some 124), (some (122, true)), .call 42 [(.t 123)], []⟩, ⟨(some 125), (some (122, true)), .bi .eql .i64 (.t 124) (.k (.int .i64 0)), []⟩, ⟨(some 126), none, .pick (.t 122) (.t 125) (.k (.bool false)), []⟩, ⟨(some 127), none, .mv (.t 126), []⟩, ⟨(some 128), (some (127, true)), .call 22 [], []⟩, ⟨(some 129), none, .pick (.t 127) (.t 128) (.k (.bool false)), []⟩, ⟨(some 8), none, .mv (.t 129), []⟩])
  (.ret))))))))))))⟩
theorem ck12 : chkFn Try.prog 12 ir12 = true := by kernel_rfl

/-- seine seinelaw30.Light -/
def ir13 : AFn := ⟨34, 1, [.t 2], .seq (.reg [] [⟨(some 2), none, .mv (.k (.bool false)), []⟩])
  (.seq (.reg [] [⟨(some 3), none, .mv (.k (.int .i64 0)), []⟩])
  (.seq (.seq (.reg [] [⟨(some 4), none, .mv (.k (.int .i64 0)), []⟩])
  (.block 0 (.loop [0, 3, 4] (.seq (.seq (.reg [] [⟨(some 5), none, .mv (.t 4), []⟩, ⟨(some 6), none, .mv (.t 0), []⟩, ⟨(some 7), none, .len (.t 6), []⟩, ⟨(some 8), none, .bi .lss .i64 (.t 5) (.t 7), []⟩])
    (.cond (.t 8) (.skip) (.exit 0)))
    (.seq (.block 1 (.reg [0, 1, 2, 3, 4, 5, 6, 7, 8, 9, 10, 11, 12, 13, 14, 15, 16] [⟨(some 11), none, .mv (.t 3), []⟩, ⟨(some 12), none, .bi .add .i64 (.t 11) (.k (.int .i64 1)), []⟩, ⟨(some 13), none, .mv (.t 0), []⟩, ⟨(some 14), none, .mv (.t 4), []⟩, ⟨(some 15), none, .ia 2 (.t 13) (.t 14), []⟩, ⟨(some 16), none, .fa 0 (.t 15), []⟩, ⟨(some 17), none, .ld 1 false (.t 16), []⟩, ⟨(some 18), none, .lens (.t 17), []⟩, ⟨(some 19), none, .bi .add .i64 (.t 12) (.t 18), []⟩, ⟨(some 20), none, .mv (.t 0), []⟩, ⟨(some 21), none, .mv (.t 4), []⟩, ⟨(some 22), none, .ia 2 (.t 20) (.t 21), []⟩, ⟨(some 23), none, .fa 1 (.t 22), []⟩, ⟨(some 24), none, .ld 1 false (.t 23), []⟩, ⟨(some 25), none, .lens (.t 24), []⟩, ⟨(some 26), none, .bi .add .i64 (.t 19) (.t 25), []⟩, ⟨(some 3), none, .mv (.t 26), []⟩]))
    (.reg [] [⟨(some 9), none, .mv (.t 4), []⟩, ⟨(some 10), none, .bi .add .i64 (.t 9) (.k (.int .i64 1)), []⟩, ⟨(some 4), none, .mv (.t 10), []⟩]))))))
  (.seq (.reg [] [⟨(some 27), none, .mv (.t 3), []⟩, ⟨(some 28), none, .bi .leq .i64 (.t 27) (.k (.int .i64 3000)), []⟩, ⟨(some 29), none, .mv (.t 28), []⟩, ⟨(some 30), (some (29, true)), .mv (.t 0), []⟩, ⟨(some 31), (some (29, true)), .len (.t 30), []⟩, ⟨(some 32), (some (29, true)), .bi .leq .i64 (.t 31) (.k (.int .i64 300)), []⟩, ⟨(some 33), none, .pick (.t 29) (.t 32) (.k (.bool false)), []⟩, ⟨(some 2), none, .mv (.t 33), []⟩])
  (.ret))))⟩
theorem ck13 : chkFn Try.prog 13 ir13 = true := by kernel_rfl

/-- seine seinelaw30.awake -/
def ir14 : AFn := ⟨51, 0, [.t 0], .seq (.reg [] [⟨(some 0), none, .mv (.k (.bool false)), []⟩])
  (.seq (.reg [] [⟨(some 2), none, .call 19 [(.k (.str [97])), (.k (.str [49]))], []⟩, ⟨(some 3), none, .call 19 [(.k (.str [98])), (.k (.str [49]))], []⟩, ⟨(some 4), none, .call 19 [(.k (.str [97])), (.k (.str [50]))], []⟩, ⟨(some 5), none, .call 19 [(.k (.str [97])), (.k (.str [49]))], []⟩, ⟨(some 6), none, .call 19 [(.k (.str [97])), (.k (.str [51]))], []⟩, ⟨(some 7), none, .bls 2 5 [.str [], .str []] [(0, (.t 2)), (1, (.t 3)), (2, (.t 4)), (3, (.t 5)), (4, (.t 6))], []⟩, ⟨(some 8), none, .call 16 [(.k (.int .i64 2)), (.t 7)], []⟩, ⟨(some 1), none, .mv (.t 8), []⟩])
  (.seq (.reg [] [⟨(some 9), none, .mv (.t 1), []⟩, ⟨(some 10), none, .len (.t 9), []⟩, ⟨(some 11), none, .bi .eql .i64 (.t 10) (.k (.int .i64 3)), []⟩, ⟨(some 12), none, .mv (.t 11), []⟩, ⟨(some 13), (some (12, true)), .mv (.t 1), []⟩, ⟨(some 14), (some (12, true)), .ia 2 (.t 13) (.k (.int .i64 0)), []⟩, ⟨(some 15), (some (12, true)), .fa 0 (.t 14), []⟩, ⟨(some 16), (some (12, true)), .ld 1 false (.t 15), []⟩, ⟨(some 17), (some (12, true)), .bs .eql (.t 16) (.k (.str [97])), []⟩, ⟨(some 18), none, .pick (.t 12) (.t 17) (.k (.bool false)), []⟩, ⟨(some 19), none, .mv (.t 18), []⟩, ⟨(some 20), (some (19, true)), .mv (.t 1), []⟩, ⟨(some 21), (some (19, true)), .ia 2 (.t 20) (.k (.int .i64 0)), []⟩, ⟨(some 22), (some (19, true)), .fa 1 (.t 21), []⟩, ⟨(some 23), (some (19, true)), .ld 1 false (.t 22), []⟩, ⟨(some 24), (some (19, true)), .len (.t 23), []⟩, ⟨(some 25), (some (19, true)), .bi .eql .i64 (.t 24) (.k (.int .i64 2)), []⟩, ⟨(some 26), none, .pick (.t 19) (.t 25) (.k (.bool false)), []⟩, ⟨(some 27), none, .mv (.t 26), []⟩, ⟨(some 28), (some (27, true)), .mv (.t 1), []⟩, ⟨(some 29), (some (27, true)), .ia 2 (.t 28) (.k (.int .i64 1)), []⟩, ⟨(some 30), (some (27, true)), .fa 1 (.t 29), []⟩, ⟨(some 31), (some (27, true)), .ld 1 false (.t 30), []⟩, ⟨(some 32), (some (27, true)), .len (.t 31), []⟩, ⟨(some 33), (some (27, true)), .bi .eql .i64 (.t 32) (.k (.int .i64 1)), []⟩, ⟨(some 34), none, .pick (.t 27) (.t 33) (.k (.bool false)), []⟩, ⟨(some 35), none, .mv (.t 34), []⟩, ⟨(some 36), (some (35, true)), .mv (.t 1), []⟩, ⟨(some 37), (some (35, true)), .ia 2 (.t 36) (.k (.int .i64 1)), []⟩, ⟨(some 38), (some (35, true)), .fa 1 (.t 37), []⟩, ⟨(some 39), (some (35, true)), .ld 1 false (.t 38), []⟩, ⟨(some 40), (some (35, true)), .ia 1 (.t 39) (.k (.int .i64 0)), []⟩, ⟨(some 41), (some (35, true)), .ld 1 false (.t 40), []⟩, ⟨(some 42), (some (35, true)), .bs .eql (.t 41) (.k (.str [51])), []⟩, ⟨(some 43), none, .pick (.t 35) (.t 42) (.k (.bool false)), []⟩, ⟨(some 44), none, .mv (.t 43), []⟩, ⟨(some 45), (some (44, true)), .mv (.t 1), []⟩, ⟨(some 46), (some (44, true)), .ia 2 (.t 45) (.k (.int .i64 2)), []⟩, ⟨(some 47), (some (44, true)), .fa 0 (.t 46), []⟩, ⟨(some 48), (some (44, true)), .ld 1 false (.t 47), []⟩, ⟨(some 49), (some (44, true)), .bs .eql (.t 48) (.k (.str [98])), []⟩, ⟨(some 50), none, .pick (.t 44) (.t 49) (.k (.bool false)), []⟩, ⟨(some 0), none, .mv (.t 50), []⟩])
  (.ret)))⟩
theorem ck14 : chkFn Try.prog 14 ir14 = true := by kernel_rfl

/-- seine seineref27.SameBatches -/
def ir15 : AFn := ⟨27, 2, [.t 4], .seq (.reg [] [⟨(some 4), none, .mv (.k (.bool false)), []⟩])
  (.seq (.seq (.reg [] [⟨(some 6), none, .mv (.t 0), []⟩, ⟨(some 7), none, .len (.t 6), []⟩, ⟨(some 8), none, .mv (.t 1), []⟩, ⟨(some 9), none, .len (.t 8), []⟩, ⟨(some 10), none, .bi .neq .i64 (.t 7) (.t 9), []⟩])
  (.cond (.t 10) (.seq (.reg [] [⟨(some 4), none, .mv (.k (.bool false)), []⟩])
   (.ret)) (.skip)))
  (.seq (.seq (.reg [] [⟨(some 5), none, .mv (.k (.int .i64 0)), []⟩])
  (.block 0 (.loop [0, 1, 5] (.seq (.seq (.reg [] [⟨(some 11), none, .mv (.t 5), []⟩, ⟨(some 12), none, .mv (.t 0), []⟩, ⟨(some 13), none, .len (.t 12), []⟩, ⟨(some 14), none, .bi .lss .i64 (.t 11) (.t 13), []⟩])
    (.cond (.t 14) (.skip) (.exit 0)))
    (.seq (.block 1 (.seq (.reg [0, 1, 2, 3, 4, 5, 6, 7, 8, 9] [⟨(some 17), none, .mv (.t 0), []⟩, ⟨(some 18), none, .mv (.t 5), []⟩, ⟨(some 19), none, .ia 2 (.t 17) (.t 18), []⟩, ⟨(some 20), none, .ld 2 true (.t 19), []⟩, ⟨(some 21), none, .mv (.t 1), []⟩, ⟨(some 22), none, .mv (.t 5), []⟩, ⟨(some 23), none, .ia 2 (.t 21) (.t 22), []⟩, ⟨(some 24), none, .ld 2 true (.t 23), []⟩, ⟨(some 25), none, .call 45 [(.t 20), (.t 24)], []⟩, ⟨(some 26), none, .not (.t 25), []⟩])
     (.cond (.t 26) (.seq (.reg [] [⟨(some 4), none, .mv (.k (.bool false)), []⟩])
      (.ret)) (.skip))))
    (.reg [] [⟨(some 15), none, .mv (.t 5), []⟩, ⟨(some 16), none, .bi .add .i64 (.t 15) (.k (.int .i64 1)), []⟩, ⟨(some 5), none, .mv (.t 16), []⟩]))))))
  (.seq (.reg [] [⟨(some 4), none, .mv (.k (.bool true)), []⟩])
  (.ret))))⟩
theorem ck15 : chkFn Try.prog 15 ir15 = true := by kernel_rfl

/-- seine batch.Plan -/
def ir16 : AFn := ⟨73, 2, [.t 4], .seq (.reg [] [⟨(some 4), none, .mv (.k (.sl .nil 2 [])), []⟩])
  (.seq (.reg [] [⟨(some 15), none, .mv (.t 0), []⟩, ⟨(some 16), none, .mm true (.t 15) [(.k (.int .i64 1))], []⟩, ⟨(some 17), none, .mm false (.t 16) [(.k (.int .i64 64))], []⟩, ⟨(some 0), none, .mv (.t 17), []⟩])
  (.seq (.reg [] [⟨(some 5), none, .mv (.k (.sl .nil 1 [])), []⟩])
  (.seq (.reg [] [⟨(some 18), none, .mkm (.one .s), []⟩, ⟨(some 6), none, .mv (.t 18), []⟩])
  (.seq (.seq (.reg [] [⟨(some 19), none, .mv (.t 1), []⟩, ⟨(some 20), none, .call 52 [(.t 19)], []⟩, ⟨(some 21), none, .len (.t 20), []⟩, ⟨(some 22), none, .mv (.k (.int .i64 0)), []⟩])
  (.block 0 (.loop [0, 5, 6, 20, 21, 22] (.seq (.reg [] [⟨(some 23), none, .bi .lss .i64 (.t 22) (.t 21), []⟩])
    (.seq (.cond (.t 23) (.skip) (.exit 0))
    (.seq (.block 1 (.seq (.reg [] [⟨(some 24), none, .ia 2 (.t 20) (.t 22), []⟩, ⟨(some 25), none, .ld 2 true (.t 24), []⟩, ⟨(some 8), none, .alloc [.str [], .str []], []⟩, ⟨none, none, .st 2 (.t 8) (.t 25), []⟩])
     (.seq (.seq (.reg [] [⟨(some 27), none, .mv (.t 6), []⟩, ⟨(some 28), none, .fa 0 (.t 8), []⟩, ⟨(some 29), none, .ld 1 false (.t 28), []⟩, ⟨(some 30), none, .lkp (.one .s) (.sl .nil 1 []) true (.t 27) (.t 29), []⟩, ⟨(some 26), none, .mv (.t 30), []⟩, ⟨(some 31), none, .ext (.t 26) 0, []⟩, ⟨(some 32), none, .ext (.t 26) 1, []⟩, ⟨(some 9), none, .mv (.t 31), []⟩, ⟨(some 10), none, .mv (.t 32), []⟩])
     (.seq (.reg [] [⟨(some 33), none, .mv (.t 10), []⟩, ⟨(some 34), none, .not (.t 33), []⟩])
     (.cond (.t 34) (.reg [] [⟨(some 35), none, .mv (.t 5), []⟩, ⟨(some 36), none, .fa 0 (.t 8), []⟩, ⟨(some 37), none, .ld 1 false (.t 36), []⟩, ⟨(some 38), none, .bls 1 1 [.str []] [(0, (.t 37))], []⟩, ⟨(some 39), none, .app 1 16 (.t 35) (.t 38), []⟩, ⟨(some 5), none, .mv (.t 39), []⟩]) (.skip))))
     (.reg [0, 1, 2, 3, 4, 5, 6, 7, 8, 9, 10, 11] [⟨(some 40), none, .mv (.t 6), []⟩, ⟨(some 41), none, .fa 0 (.t 8), []⟩, ⟨(some 42), none, .ld 1 false (.t 41), []⟩, ⟨(some 43), none, .mv (.t 6), []⟩, ⟨(some 44), none, .fa 0 (.t 8), []⟩, ⟨(some 45), none, .ld 1 false (.t 44), []⟩, ⟨(some 46), none, .lkp (.one .s) (.sl .nil 1 []) false (.t 43) (.t 45), []⟩, ⟨(some 47), none, .fa 1 (.t 8), []⟩, ⟨(some 48), none, .ld 1 false (.t 47), []⟩, ⟨(some 49), none, .bls 1 1 [.str []] [(0, (.t 48))], []⟩, ⟨(some 50), none, .app 1 16 (.t 46) (.t 49), [2]⟩, ⟨none, none, .mup (.one .s) (.t 40) (.t 42) (.t 50), []⟩]))))
    (.reg [] [⟨(some 51), none, .bi .add .i64 (.t 22) (.k (.int .i64 1)), []⟩, ⟨(some 22), none, .mv (.t 51), []⟩])))))))
  (.seq (.reg [] [⟨(some 11), none, .alloc [.sl .nil 2 []], []⟩])
  (.seq (.seq (.reg [] [⟨(some 52), none, .mv (.t 5), []⟩, ⟨(some 53), none, .len (.t 52), []⟩, ⟨(some 54), none, .mv (.k (.int .i64 0)), []⟩])
  (.block 2 (.loop [0, 6, 11, 52, 53, 54] (.seq (.reg [] [⟨(some 55), none, .bi .lss .i64 (.t 54) (.t 53), []⟩])
    (.seq (.cond (.t 55) (.skip) (.exit 2))
    (.seq (.block 3 (.seq (.reg [] [⟨(some 56), none, .ia 1 (.t 52) (.t 54), []⟩, ⟨(some 57), none, .ld 1 false (.t 56), []⟩, ⟨(some 13), none, .alloc [.str []], []⟩, ⟨none, none, .st 1 (.t 13) (.t 57), []⟩])
     (.seq (.reg [] [⟨(some 58), none, .mv (.t 6), []⟩, ⟨(some 59), none, .ld 1 false (.t 13), []⟩, ⟨(some 60), none, .lkp (.one .s) (.sl .nil 1 []) false (.t 58) (.t 59), []⟩, ⟨(some 61), none, .mv (.t 0), []⟩, ⟨(some 62), none, .call 53 [(.t 60), (.t 61)], []⟩])
     (.block 4 (.rfun (.t 62) [63] (.reg [] [⟨(some 14), none, .mv (.t 63), []⟩]) (.block 5 (.reg [0, 1, 2, 3, 4, 5, 6, 7] [⟨(some 64), none, .ld 1 false (.t 11), []⟩, ⟨(some 65), none, .ld 1 false (.t 13), []⟩, ⟨(some 66), none, .mv (.t 14), []⟩, ⟨(some 67), none, .call 54 [(.t 66)], [0, 1]⟩, ⟨(some 68), none, .bld [.str [], .sl .nil 1 []] [(0, 1, (.t 65)), (1, 1, (.t 67))], []⟩, ⟨(some 69), none, .bls 2 1 [.str [], .sl .nil 1 []] [(0, (.t 68))], []⟩, ⟨(some 70), none, .app 2 40 (.t 64) (.t 69), []⟩, ⟨none, none, .st 1 (.t 11) (.t 70), []⟩])))))))
    (.reg [] [⟨(some 71), none, .bi .add .i64 (.t 54) (.k (.int .i64 1)), []⟩, ⟨(some 54), none, .mv (.t 71), []⟩])))))))
  (.seq (.reg [] [⟨(some 72), none, .ld 1 false (.t 11), []⟩, ⟨(some 4), none, .mv (.t 72), []⟩])
  (.ret))))))))⟩
theorem ck16 : chkFn Try.prog 16 ir16 = true := by kernel_rfl

/-- seine seineref27.Plan -/
def ir17 : AFn := ⟨94, 2, [.t 4], .seq (.reg [] [⟨(some 4), none, .mv (.k (.sl .nil 2 [])), []⟩])
  (.seq (.reg [] [⟨(some 11), none, .mv (.t 0), []⟩, ⟨(some 12), none, .mm true (.t 11) [(.k (.int .i64 1))], []⟩, ⟨(some 13), none, .mm false (.t 12) [(.k (.int .i64 64))], []⟩, ⟨(some 0), none, .mv (.t 13), []⟩])
  (.seq (.reg [] [⟨(some 14), none, .mv (.t 1), []⟩, ⟨(some 15), none, .call 37 [(.t 14)], []⟩, ⟨(some 1), none, .mv (.t 15), []⟩])
  (.seq (.reg [] [⟨(some 5), none, .mv (.k (.sl .nil 1 [])), []⟩])
  (.seq (.seq (.reg [] [⟨(some 6), none, .mv (.k (.int .i64 0)), []⟩])
  (.block 0 (.loop [0, 1, 5, 6] (.seq (.seq (.reg [] [⟨(some 16), none, .mv (.t 6), []⟩, ⟨(some 17), none, .mv (.t 1), []⟩, ⟨(some 18), none, .len (.t 17), []⟩, ⟨(some 19), none, .bi .lss .i64 (.t 16) (.t 18), []⟩])
    (.cond (.t 19) (.skip) (.exit 0)))
    (.seq (.block 1 (.seq (.reg [] [⟨(some 22), none, .mv (.t 5), []⟩, ⟨(some 23), none, .mv (.t 1), []⟩, ⟨(some 24), none, .mv (.t 6), []⟩, ⟨(some 25), none, .ia 2 (.t 23) (.t 24), []⟩, ⟨(some 26), none, .fa 0 (.t 25), []⟩, ⟨(some 27), none, .ld 1 false (.t 26), []⟩, ⟨(some 28), none, .call 21 [(.t 22), (.t 27)], []⟩, ⟨(some 29), none, .not (.t 28), []⟩])
     (.cond (.t 29) (.reg [] [⟨(some 30), none, .mv (.t 5), []⟩, ⟨(some 31), none, .mv (.t 1), []⟩, ⟨(some 32), none, .mv (.t 6), []⟩, ⟨(some 33), none, .ia 2 (.t 31) (.t 32), []⟩, ⟨(some 34), none, .fa 0 (.t 33), []⟩, ⟨(some 35), none, .ld 1 false (.t 34), []⟩, ⟨(some 36), none, .bls 1 1 [.str []] [(0, (.t 35))], []⟩, ⟨(some 37), none, .app 1 16 (.t 30) (.t 36), []⟩, ⟨(some 5), none, .mv (.t 37), []⟩]) (.skip))))
    (.reg [] [⟨(some 20), none, .mv (.t 6), []⟩, ⟨(some 21), none, .bi .add .i64 (.t 20) (.k (.int .i64 1)), []⟩, ⟨(some 6), none, .mv (.t 21), []⟩]))))))
  (.seq (.reg [] [⟨(some 7), none, .mv (.k (.sl .nil 2 [])), []⟩])
  (.seq (.seq (.reg [] [⟨(some 8), none, .mv (.k (.int .i64 0)), []⟩])
  (.block 2 (.loop [0, 1, 5, 7, 8] (.seq (.seq (.reg [] [⟨(some 38), none, .mv (.t 8), []⟩, ⟨(some 39), none, .mv (.t 5), []⟩, ⟨(some 40), none, .len (.t 39), []⟩, ⟨(some 41), none, .bi .lss .i64 (.t 38) (.t 40), []⟩])
    (.cond (.t 41) (.skip) (.exit 2)))
    (.seq (.block 3 (.seq (.reg [] [⟨(some 44), none, .mv (.t 5), []⟩, ⟨(some 45), none, .mv (.t 8), []⟩, ⟨(some 46), none, .ia 1 (.t 44) (.t 45), []⟩, ⟨(some 47), none, .ld 1 false (.t 46), []⟩, ⟨(some 48), none, .bld [.str [], .sl .nil 1 []] [(0, 1, (.t 47))], []⟩, ⟨(some 9), none, .alloc [.str [], .sl .nil 1 []], []⟩, ⟨none, none, .st 2 (.t 9) (.t 48), []⟩])
     (.seq (.seq (.reg [] [⟨(some 10), none, .mv (.k (.int .i64 0)), []⟩])
     (.block 4 (.loop [0, 1, 5, 7, 8, 9, 10] (.seq (.seq (.reg [] [⟨(some 49), none, .mv (.t 10), []⟩, ⟨(some 50), none, .mv (.t 1), []⟩, ⟨(some 51), none, .len (.t 50), []⟩, ⟨(some 52), none, .bi .lss .i64 (.t 49) (.t 51), []⟩])
       (.cond (.t 52) (.skip) (.exit 4)))
       (.seq (.block 5 (.seq (.seq (.reg [0, 1, 2, 3, 4, 5, 6, 7, 8, 9] [⟨(some 55), none, .mv (.t 1), []⟩, ⟨(some 56), none, .mv (.t 10), []⟩, ⟨(some 57), none, .ia 2 (.t 55) (.t 56), []⟩, ⟨(some 58), none, .fa 0 (.t 57), []⟩, ⟨(some 59), none, .ld 1 false (.t 58), []⟩, ⟨(some 60), none, .mv (.t 5), []⟩, ⟨(some 61), none, .mv (.t 8), []⟩, ⟨(some 62), none, .ia 1 (.t 60) (.t 61), []⟩, ⟨(some 63), none, .ld 1 false (.t 62), []⟩, ⟨(some 64), none, .bs .neq (.t 59) (.t 63), []⟩])
        (.cond (.t 64) (.exit 5) (.skip)))
        (.seq (.seq (.reg [] [⟨(some 65), none, .fa 1 (.t 9), []⟩, ⟨(some 66), none, .ld 1 false (.t 65), []⟩, ⟨(some 67), none, .len (.t 66), []⟩, ⟨(some 68), none, .mv (.t 0), []⟩, ⟨(some 69), none, .bi .eql .i64 (.t 67) (.t 68), []⟩])
        (.cond (.t 69) (.seq (.reg [] [⟨(some 70), none, .mv (.t 7), []⟩, ⟨(some 71), none, .ld 2 true (.t 9), []⟩, ⟨(some 72), none, .bls 2 1 [.str [], .sl .nil 1 []] [(0, (.t 71))], []⟩, ⟨(some 73), none, .app 2 40 (.t 70) (.t 72), []⟩, ⟨(some 7), none, .mv (.t 73), []⟩])
         (.reg [] [⟨(some 74), none, .mv (.t 5), []⟩, ⟨(some 75), none, .mv (.t 8), []⟩, ⟨(some 76), none, .ia 1 (.t 74) (.t 75), []⟩, ⟨(some 77), none, .ld 1 false (.t 76), []⟩, ⟨(some 78), none, .bld [.str [], .sl .nil 1 []] [(0, 1, (.t 77))], []⟩, ⟨none, none, .st 2 (.t 9) (.t 78), []⟩])) (.skip)))
        (.reg [0, 1, 2, 3, 4, 5, 6, 7, 8, 9, 10] [⟨(some 79), none, .fa 1 (.t 9), []⟩, ⟨(some 80), none, .ld 1 false (.t 79), []⟩, ⟨(some 81), none, .mv (.t 1), []⟩, ⟨(some 82), none, .mv (.t 10), []⟩, ⟨(some 83), none, .ia 2 (.t 81) (.t 82), []⟩, ⟨(some 84), none, .fa 1 (.t 83), []⟩, ⟨(some 85), none, .ld 1 false (.t 84), []⟩, ⟨(some 86), none, .bls 1 1 [.str []] [(0, (.t 85))], []⟩, ⟨(some 87), none, .app 1 16 (.t 80) (.t 86), []⟩, ⟨(some 88), none, .fa 1 (.t 9), []⟩, ⟨none, none, .st 1 (.t 88) (.t 87), []⟩]))))
       (.reg [] [⟨(some 53), none, .mv (.t 10), []⟩, ⟨(some 54), none, .bi .add .i64 (.t 53) (.k (.int .i64 1)), []⟩, ⟨(some 10), none, .mv (.t 54), []⟩]))))))
     (.reg [] [⟨(some 89), none, .mv (.t 7), []⟩, ⟨(some 90), none, .ld 2 true (.t 9), []⟩, ⟨(some 91), none, .bls 2 1 [.str [], .sl .nil 1 []] [(0, (.t 90))], []⟩, ⟨(some 92), none, .app 2 40 (.t 89) (.t 91), []⟩, ⟨(some 7), none, .mv (.t 92), []⟩]))))
    (.reg [] [⟨(some 42), none, .mv (.t 8), []⟩, ⟨(some 43), none, .bi .add .i64 (.t 42) (.k (.int .i64 1)), []⟩, ⟨(some 8), none, .mv (.t 43), []⟩]))))))
  (.seq (.reg [] [⟨(some 93), none, .mv (.t 7), []⟩, ⟨(some 4), none, .mv (.t 93), []⟩])
  (.ret))))))))⟩
theorem ck17 : chkFn Try.prog 17 ir17 = true := by kernel_rfl

/-- seine seineref27.SameNeeds -/
def ir18 : AFn := ⟨26, 2, [.t 4], .seq (.reg [] [⟨(some 4), none, .mv (.k (.bool false)), []⟩])
  (.seq (.seq (.reg [] [⟨(some 6), none, .mv (.t 0), []⟩, ⟨(some 7), none, .len (.t 6), []⟩, ⟨(some 8), none, .mv (.t 1), []⟩, ⟨(some 9), none, .len (.t 8), []⟩, ⟨(some 10), none, .bi .neq .i64 (.t 7) (.t 9), []⟩])
  (.cond (.t 10) (.seq (.reg [] [⟨(some 4), none, .mv (.k (.bool false)), []⟩])
   (.ret)) (.skip)))
  (.seq (.seq (.reg [] [⟨(some 5), none, .mv (.k (.int .i64 0)), []⟩])
  (.block 0 (.loop [0, 1, 5] (.seq (.seq (.reg [] [⟨(some 11), none, .mv (.t 5), []⟩, ⟨(some 12), none, .mv (.t 0), []⟩, ⟨(some 13), none, .len (.t 12), []⟩, ⟨(some 14), none, .bi .lss .i64 (.t 11) (.t 13), []⟩])
    (.cond (.t 14) (.skip) (.exit 0)))
    (.seq (.block 1 (.seq (.reg [0, 1, 2, 3, 4, 5, 6, 7, 8] [⟨(some 17), none, .mv (.t 0), []⟩, ⟨(some 18), none, .mv (.t 5), []⟩, ⟨(some 19), none, .ia 2 (.t 17) (.t 18), []⟩, ⟨(some 20), none, .ld 2 true (.t 19), []⟩, ⟨(some 21), none, .mv (.t 1), []⟩, ⟨(some 22), none, .mv (.t 5), []⟩, ⟨(some 23), none, .ia 2 (.t 21) (.t 22), []⟩, ⟨(some 24), none, .ld 2 true (.t 23), []⟩, ⟨(some 25), none, .eqa true [.s, .s] (.t 20) (.t 24), []⟩])
     (.cond (.t 25) (.seq (.reg [] [⟨(some 4), none, .mv (.k (.bool false)), []⟩])
      (.ret)) (.skip))))
    (.reg [] [⟨(some 15), none, .mv (.t 5), []⟩, ⟨(some 16), none, .bi .add .i64 (.t 15) (.k (.int .i64 1)), []⟩, ⟨(some 5), none, .mv (.t 16), []⟩]))))))
  (.seq (.reg [] [⟨(some 4), none, .mv (.k (.bool true)), []⟩])
  (.ret))))⟩
theorem ck18 : chkFn Try.prog 18 ir18 = true := by kernel_rfl

/-- seine seinelaw30.need -/
def ir19 : AFn := ⟨8, 2, [.c 4 2 true], .seq (.reg [] [⟨(some 4), none, .alloc [.str [], .str []], []⟩])
  (.seq (.reg [] [⟨(some 5), none, .mv (.t 0), []⟩, ⟨(some 6), none, .mv (.t 1), []⟩, ⟨(some 7), none, .bld [.str [], .str []] [(0, 1, (.t 5)), (1, 1, (.t 6))], []⟩, ⟨none, none, .st 2 (.t 4) (.t 7), []⟩])
  (.ret))⟩
theorem ck19 : chkFn Try.prog 19 ir19 = true := by kernel_rfl

/-- seine seineref27.HasNeed -/
def ir20 : AFn := ⟨18, 2, [.t 4], .seq (.reg [] [⟨(some 3), none, .boxv (.t 1), []⟩, ⟨(some 4), none, .mv (.k (.bool false)), []⟩])
  (.seq (.seq (.reg [] [⟨(some 5), none, .mv (.k (.int .i64 0)), []⟩])
  (.block 0 (.loop [0, 3, 5] (.seq (.seq (.reg [] [⟨(some 6), none, .mv (.t 5), []⟩, ⟨(some 7), none, .mv (.t 0), []⟩, ⟨(some 8), none, .len (.t 7), []⟩, ⟨(some 9), none, .bi .lss .i64 (.t 6) (.t 8), []⟩])
    (.cond (.t 9) (.skip) (.exit 0)))
    (.seq (.block 1 (.seq (.reg [0, 1, 2, 3, 4, 5] [⟨(some 12), none, .mv (.t 0), []⟩, ⟨(some 13), none, .mv (.t 5), []⟩, ⟨(some 14), none, .ia 2 (.t 12) (.t 13), []⟩, ⟨(some 15), none, .ld 2 true (.t 14), []⟩, ⟨(some 16), none, .ld 2 true (.t 3), []⟩, ⟨(some 17), none, .eqa false [.s, .s] (.t 15) (.t 16), []⟩])
     (.cond (.t 17) (.seq (.reg [] [⟨(some 4), none, .mv (.k (.bool true)), []⟩])
      (.ret)) (.skip))))
    (.reg [] [⟨(some 10), none, .mv (.t 5), []⟩, ⟨(some 11), none, .bi .add .i64 (.t 10) (.k (.int .i64 1)), []⟩, ⟨(some 5), none, .mv (.t 11), []⟩]))))))
  (.seq (.reg [] [⟨(some 4), none, .mv (.k (.bool false)), []⟩])
  (.ret)))⟩
theorem ck20 : chkFn Try.prog 20 ir20 = true := by kernel_rfl

/-- seine seineref1.Has -/
def ir21 : AFn := ⟨18, 2, [.t 4], .seq (.reg [] [⟨(some 4), none, .mv (.k (.bool false)), []⟩])
  (.seq (.seq (.reg [] [⟨(some 5), none, .mv (.k (.int .i64 0)), []⟩])
  (.block 0 (.loop [0, 1, 5] (.seq (.seq (.reg [] [⟨(some 6), none, .mv (.t 5), []⟩, ⟨(some 7), none, .mv (.t 0), []⟩, ⟨(some 8), none, .len (.t 7), []⟩, ⟨(some 9), none, .bi .lss .i64 (.t 6) (.t 8), []⟩])
    (.cond (.t 9) (.skip) (.exit 0)))
    (.seq (.block 1 (.seq (.reg [] [⟨(some 12), none, .mv (.t 0), []⟩, ⟨(some 13), none, .mv (.t 5), []⟩, ⟨(some 14), none, .ia 1 (.t 12) (.t 13), []⟩, ⟨(some 15), none, .ld 1 false (.t 14), []⟩, ⟨(some 16), none, .mv (.t 1), []⟩, ⟨(some 17), none, .bs .eql (.t 15) (.t 16), []⟩])
     (.cond (.t 17) (.seq (.reg [] [⟨(some 4), none, .mv (.k (.bool true)), []⟩])
      (.ret)) (.skip))))
    (.reg [] [⟨(some 10), none, .mv (.t 5), []⟩, ⟨(some 11), none, .bi .add .i64 (.t 10) (.k (.int .i64 1)), []⟩, ⟨(some 5), none, .mv (.t 11), []⟩]))))))
  (.seq (.reg [] [⟨(some 4), none, .mv (.k (.bool false)), []⟩])
  (.ret)))⟩
theorem ck21 : chkFn Try.prog 21 ir21 = true := by kernel_rfl

/-- seine seinelaw31.awake -/
def ir22 : AFn := ⟨72, 0, [.t 0], .seq (.reg [] [⟨(some 0), none, .mv (.k (.bool false)), []⟩])
  (.seq (.reg [] [⟨(some 9), none, .call 39 [(.k (.int .i64 2))], []⟩, ⟨(some 1), none, .mv (.t 9), []⟩])
  (.seq (.seq (.reg [] [⟨(some 10), none, .mv (.t 1), []⟩, ⟨(some 11), none, .isnil .p (.t 10), []⟩])
  (.cond (.t 11) (.seq (.reg [] [⟨(some 0), none, .mv (.k (.bool false)), []⟩])
   (.ret)) (.skip)))
  (.seq (.reg [] [⟨(some 12), none, .mv (.t 1), []⟩, ⟨(some 13), none, .bls 1 1 [.str []] [(0, (.k (.str [97])))], []⟩, ⟨(some 14), none, .bld [.str [], .sl .nil 1 []] [(0, 1, (.k (.str [116]))), (1, 1, (.t 13))], []⟩, ⟨(some 15), none, .bls 2 1 [.str [], .sl .nil 1 []] [(0, (.t 14))], []⟩, ⟨(some 16), none, .call 40 [(.t 12), (.t 15)], []⟩])
  (.seq (.reg [] [⟨(some 17), none, .mv (.t 1), []⟩, ⟨(some 18), none, .call 41 [(.t 17)], []⟩, ⟨(some 2), none, .mv (.t 18), []⟩])
  (.seq (.reg [] [⟨(some 20), none, .mv (.t 1), []⟩, ⟨(some 21), none, .call 44 [(.t 20), (.k (.int .i64 2))], []⟩, ⟨(some 19), none, .mv (.t 21), []⟩, ⟨(some 22), none, .ext (.t 19) 0, []⟩, ⟨(some 23), none, .ext (.t 19) 1, []⟩, ⟨(some 3), none, .alloc [.str [], .sl .nil 1 []], []⟩, ⟨none, none, .st 2 (.t 3) (.t 22), []⟩, ⟨(some 4), none, .mv (.t 23), []⟩])
  (.seq (.reg [] [⟨(some 25), none, .mv (.t 1), []⟩, ⟨(some 26), none, .call 44 [(.t 25), (.k (.int .i64 2))], []⟩, ⟨(some 24), none, .mv (.t 26), []⟩, ⟨(some 27), none, .ext (.t 24) 0, []⟩, ⟨(some 28), none, .ext (.t 24) 1, []⟩, ⟨(some 5), none, .alloc [.str [], .sl .nil 1 []], []⟩, ⟨none, none, .st 2 (.t 5) (.t 27), []⟩, ⟨(some 6), none, .mv (.t 28), []⟩])
  (.seq (.reg [] [⟨(some 30), none, .mv (.t 1), []⟩, ⟨(some 31), none, .call 44 [(.t 30), (.k (.int .i64 2))], []⟩, ⟨(some 29), none, .mv (.t 31), []⟩, ⟨(some 32), none, .ext (.t 29) 0, []⟩, ⟨(some 33), none, .ext (.t 29) 1, []⟩, ⟨(some 7), none, .alloc [.str [], .sl .nil 1 []], []⟩, ⟨none, none, .st 2 (.t 7) (.t 32), []⟩, ⟨(some 8), none, .mv (.t 33), []⟩])
  (.seq (.reg [] [⟨(some 34), none, .mv (.t 2), []⟩, ⟨(some 35), none, .len (.t 34), []⟩, ⟨(some 36), none, .bi .eql .i64 (.t 35) (.k (.int .i64 2)), []⟩, ⟨(some 37), none, .mv (.t 36), []⟩, ⟨(some 38), (some (37, true)), .mv (.t 2), []⟩, ⟨(some 39), (some (37, true)), .ia 1 (.t 38) (.k (.int .i64 0)), []⟩, ⟨(some 40), (some (37, true)), .ld 1 false (.t 39), []⟩, ⟨(some 41), (some (37, true)), .bi .eql .i64 (.t 40) (.k (.int .i64 1)), []⟩, ⟨(some 42), none, .pick (.t 37) (.t 41) (.k (.bool false)), []⟩, ⟨(some 43), none, .mv (.t 42), []⟩, ⟨(some 44), (some (43, true)), .mv (.t 2), []⟩, ⟨(some 45), (some (43, true)), .ia 1 (.t 44) (.k (.int .i64 1)), []⟩, ⟨(some 46), (some (43, true)), .ld 1 false (.t 45), []⟩, ⟨(some 47), (some (43, true)), .bi .eql .i64 (.t 46) (.k (.int .i64 2)), []⟩, ⟨(some 48), none, .pick (.t 43) (.t 47) (.k (.bool false)), []⟩, ⟨(some 49), none, .mv (.t 48), []⟩, ⟨(some 50), (some (49, true)), .mv (.t 4), []⟩, ⟨(some 51), (some (49, true)), .bi .eql .i64 (.t 50) (.k (.int .i64 1)), []⟩, ⟨(some 52), none, .pick (.t 49) (.t 51) (.k (.bool false)), []⟩, ⟨(some 53), none, .mv (.t 52), []⟩, ⟨(some 54), (some (53, true)), .mv (.t 6), []⟩, ⟨(some 55), (some (53, true)), .bi .eql .i64 (.t 54) (.k (.int .i64 2)), []⟩, ⟨(some 56), none, .pick (.t 53) (.t 55) (.k (.bool false)), []⟩, ⟨(some 57), none, .mv (.t 56), []⟩, ⟨(some 58), (some (57, true)), .mv (.t 8), []⟩, ⟨(some 59), (some (57, true)), .bi .eql .i64 (.t 58) (.k (.int .i64 3)), []⟩, ⟨(some 60), none, .pick (.t 57) (.t 59) (.k (.bool false)), []⟩, ⟨(some 61), none, .mv (.t 60), []⟩, ⟨(some 62), (some (61, true)), .mv (.t 1), []⟩, ⟨(some 63), (some (61, true)), .call 41 [(.t 62)], []⟩, ⟨(some 64), (some (61, true)), .len (.t 63), []⟩, ⟨(some 65), (some (61, true)), .bi .eql .i64 (.t 64) (.k (.int .i64 0)), []⟩, ⟨(some 66), none, .pick (.t 61) (.t 65) (.k (.bool false)), []⟩, ⟨(some 67), none, .mv (.t 66), []⟩, ⟨(some 68), (some (67, true)), .bls 1 2 [.int .i64 0] [(0, (.k (.int .i64 2))), (1, (.k (.int .i64 1)))], []⟩, ⟨(some 69), (some (67, true)), .call 24 [(.k (.int .i64 5)), (.t 68)], []⟩, ⟨(some 70), (some (67, true)), .bi .eql .i64 (.t 69) (.k (.int .i64 1)), []⟩, ⟨(some 71), none, .pick (.t 67) (.t 70) (.k (.bool false)), []⟩, ⟨(some 0), none, .mv (.t 71), []⟩])
  (.ret)))))))))⟩
theorem ck22 : chkFn Try.prog 22 ir22 = true := by kernel_rfl

/-- seine seinekeep.Ints -/
def ir23 : AFn := ⟨14, 1, [.t 2], .seq (.reg [] [⟨(some 2), none, .mv (.k (.sl .nil 1 [])), []⟩])
  (.seq (.reg [] [⟨(some 3), none, .mv (.t 0), []⟩, ⟨(some 4), none, .len (.t 3), []⟩, ⟨(some 5), none, .bi .add .i64 (.t 4) (.k (.int .i64 1)), []⟩, ⟨(some 6), none, .mks 1 8 (.t 5), []⟩, ⟨(some 7), none, .mv (.t 0), []⟩, ⟨(some 8), none, .app 1 8 (.t 6) (.t 7), []⟩, ⟨(some 9), none, .bls 1 1 [.int .i64 0] [(0, (.k (.int .i64 77)))], []⟩, ⟨(some 10), none, .app 1 8 (.t 8) (.t 9), []⟩, ⟨(some 11), none, .mv (.t 0), []⟩, ⟨(some 12), none, .len (.t 11), []⟩, ⟨(some 13), none, .sllx 1 (.t 10) (.t 12), []⟩, ⟨(some 2), none, .mv (.t 13), []⟩])
  (.ret))⟩
theorem ck23 : chkFn Try.prog 23 ir23 = true := by kernel_rfl

/-- seine crew.Turn -/
def ir24 : AFn := ⟨25, 2, [.t 4], .seq (.reg [] [⟨(some 4), none, .mv (.k (.int .i64 0)), []⟩])
  (.scope (.seq (.seq (.reg [] [⟨(some 8), none, .mv (.t 1), []⟩, ⟨(some 9), none, .len (.t 8), []⟩, ⟨(some 10), none, .bi .eql .i64 (.t 9) (.k (.int .i64 0)), []⟩])
  (.cond (.t 10) (.seq (.reg [] [⟨(some 4), none, .mv (.k (.int .i64 (-1))), []⟩])
   (.ret)) (.skip)))
  (.seq (.reg [] [⟨(some 11), none, .mv (.t 1), []⟩, ⟨(some 12), none, .call 55 [(.t 11)], []⟩, ⟨(some 5), none, .mv (.t 12), []⟩])
  (.seq (.skip)
  (.seq (.seq (.reg [] [⟨(some 13), none, .mv (.t 1), []⟩, ⟨(some 14), none, .len (.t 13), []⟩, ⟨(some 15), none, .mv (.k (.int .i64 0)), []⟩])
  (.block 0 (.loop [0, 5, 13, 14, 15] (.seq (.reg [] [⟨(some 16), none, .bi .lss .i64 (.t 15) (.t 14), []⟩])
    (.seq (.cond (.t 16) (.skip) (.exit 0))
    (.seq (.block 1 (.seq (.reg [] [⟨(some 17), none, .ia 1 (.t 13) (.t 15), []⟩, ⟨(some 18), none, .ld 1 false (.t 17), []⟩, ⟨(some 7), none, .mv (.t 18), []⟩])
     (.seq (.reg [] [⟨(some 19), none, .mv (.t 7), []⟩, ⟨(some 20), none, .mv (.t 0), []⟩, ⟨(some 21), none, .bi .eql .i64 (.t 19) (.t 20), []⟩])
     (.cond (.t 21) (.seq (.reg [] [⟨(some 22), none, .mv (.t 7), []⟩, ⟨(some 5), none, .mv (.t 22), []⟩])
      (.exit 0)) (.skip)))))
    (.reg [] [⟨(some 23), none, .bi .add .i64 (.t 15) (.k (.int .i64 1)), []⟩, ⟨(some 15), none, .mv (.t 23), []⟩])))))))
  (.seq (.reg [] [⟨(some 24), none, .mv (.t 5), []⟩, ⟨(some 4), none, .mv (.t 24), []⟩])
  (.ret)))))))⟩
theorem ck24 : chkFn Try.prog 24 ir24 = true := by kernel_rfl

/-- seine seineref31.Turn -/
def ir25 : AFn := ⟨33, 2, [.t 4], .seq (.reg [] [⟨(some 4), none, .mv (.k (.int .i64 0)), []⟩])
  (.seq (.seq (.reg [] [⟨(some 7), none, .mv (.t 1), []⟩, ⟨(some 8), none, .len (.t 7), []⟩, ⟨(some 9), none, .bi .eql .i64 (.t 8) (.k (.int .i64 0)), []⟩])
  (.cond (.t 9) (.seq (.reg [] [⟨(some 4), none, .mv (.k (.int .i64 (-1))), []⟩])
   (.ret)) (.skip)))
  (.seq (.reg [] [⟨(some 10), none, .mv (.t 1), []⟩, ⟨(some 11), none, .ia 1 (.t 10) (.k (.int .i64 0)), []⟩, ⟨(some 12), none, .ld 1 false (.t 11), []⟩, ⟨(some 5), none, .mv (.t 12), []⟩])
  (.seq (.seq (.reg [] [⟨(some 6), none, .mv (.k (.int .i64 0)), []⟩])
  (.block 0 (.loop [0, 1, 5, 6] (.seq (.seq (.reg [] [⟨(some 13), none, .mv (.t 6), []⟩, ⟨(some 14), none, .mv (.t 1), []⟩, ⟨(some 15), none, .len (.t 14), []⟩, ⟨(some 16), none, .bi .lss .i64 (.t 13) (.t 15), []⟩])
    (.cond (.t 16) (.skip) (.exit 0)))
    (.seq (.block 1 (.seq (.seq (.reg [] [⟨(some 19), none, .mv (.t 1), []⟩, ⟨(some 20), none, .mv (.t 6), []⟩, ⟨(some 21), none, .ia 1 (.t 19) (.t 20), []⟩, ⟨(some 22), none, .ld 1 false (.t 21), []⟩, ⟨(some 23), none, .mv (.t 0), []⟩, ⟨(some 24), none, .bi .eql .i64 (.t 22) (.t 23), []⟩])
     (.cond (.t 24) (.seq (.reg [] [⟨(some 25), none, .mv (.t 0), []⟩, ⟨(some 4), none, .mv (.t 25), []⟩])
      (.ret)) (.skip)))
     (.reg [] [⟨(some 26), none, .mv (.t 5), []⟩, ⟨(some 27), none, .mv (.t 1), []⟩, ⟨(some 28), none, .mv (.t 6), []⟩, ⟨(some 29), none, .ia 1 (.t 27) (.t 28), []⟩, ⟨(some 30), none, .ld 1 false (.t 29), []⟩, ⟨(some 31), none, .mm false (.t 26) [(.t 30)], []⟩, ⟨(some 5), none, .mv (.t 31), []⟩])))
    (.reg [] [⟨(some 17), none, .mv (.t 6), []⟩, ⟨(some 18), none, .bi .add .i64 (.t 17) (.k (.int .i64 1)), []⟩, ⟨(some 6), none, .mv (.t 18), []⟩]))))))
  (.seq (.reg [] [⟨(some 32), none, .mv (.t 5), []⟩, ⟨(some 4), none, .mv (.t 32), []⟩])
  (.ret)))))⟩
theorem ck25 : chkFn Try.prog 25 ir25 = true := by kernel_rfl

/-- seine seinekeep.IntsStay -/
def ir26 : AFn := ⟨20, 2, [.t 4], .seq (.reg [] [⟨(some 4), none, .mv (.k (.bool false)), []⟩])
  (.seq (.reg [] [⟨(some 5), none, .mv (.t 0), []⟩, ⟨(some 6), none, .mv (.t 1), []⟩, ⟨(some 7), none, .call 49 [(.t 5), (.t 6)], []⟩, ⟨(some 8), none, .mv (.t 7), []⟩, ⟨(some 9), (some (8, true)), .mv (.t 0), []⟩, ⟨(some 10), (some (8, true)), .mv (.t 0), []⟩, ⟨(some 11), (some (8, true)), .len (.t 10), []⟩, ⟨(some 12), (some (8, true)), .bi .add .i64 (.t 11) (.k (.int .i64 1)), []⟩, ⟨(some 13), (some (8, true)), .sllx 1 (.t 9) (.t 12), []⟩, ⟨(some 14), (some (8, true)), .mv (.t 0), []⟩, ⟨(some 15), (some (8, true)), .len (.t 14), []⟩, ⟨(some 16), (some (8, true)), .ia 1 (.t 13) (.t 15), []⟩, ⟨(some 17), (some (8, true)), .ld 1 false (.t 16), []⟩, ⟨(some 18), (some (8, true)), .bi .eql .i64 (.t 17) (.k (.int .i64 77)), []⟩, ⟨(some 19), none, .pick (.t 8) (.t 18) (.k (.bool false)), []⟩, ⟨(some 4), none, .mv (.t 19), []⟩])
  (.ret))⟩
theorem ck26 : chkFn Try.prog 26 ir26 = true := by kernel_rfl

/-- seine batch.New -/
def ir27 : AFn := ⟨4, 0, [.t 0], .seq (.reg [] [⟨(some 0), none, .mv (.k (.nilp)), []⟩])
  (.seq (.reg [] [⟨(some 1), none, .mkm (.agg [.s, .s]), []⟩, ⟨(some 2), none, .bld [.nilm] [(0, 1, (.t 1))], []⟩, ⟨(some 3), none, .box (.t 2), []⟩, ⟨(some 0), none, .mv (.t 3), []⟩])
  (.ret))⟩
theorem ck27 : chkFn Try.prog 27 ir27 = true := by kernel_rfl

/-- seine seinelaw27.LightRow -/
def ir28 : AFn := ⟨16, 1, [.t 2], .seq (.reg [] [⟨(some 1), none, .boxv (.t 0), []⟩, ⟨(some 2), none, .mv (.k (.int .i64 0)), []⟩])
  (.seq (.reg [0, 1, 2, 3, 4, 5, 6, 7, 8, 9, 10, 11, 12, 13] [⟨(some 3), none, .fa 0 (.t 1), []⟩, ⟨(some 4), none, .ld 1 false (.t 3), []⟩, ⟨(some 5), none, .lens (.t 4), []⟩, ⟨(some 6), none, .bi .add .i64 (.k (.int .i64 1)) (.t 5), []⟩, ⟨(some 7), none, .fa 1 (.t 1), []⟩, ⟨(some 8), none, .ld 1 false (.t 7), []⟩, ⟨(some 9), none, .lens (.t 8), []⟩, ⟨(some 10), none, .bi .add .i64 (.t 6) (.t 9), []⟩, ⟨(some 11), none, .fa 2 (.t 1), []⟩, ⟨(some 12), none, .ld 1 false (.t 11), []⟩, ⟨(some 13), none, .bld [.int .i64 0, .int .i64 0, .str [], .sl .nil 5 [], .sl .nil 6 []] [(4, 1, (.t 12))], []⟩, ⟨(some 14), none, .call 56 [(.t 13)], [1, 5]⟩, ⟨(some 15), none, .bi .add .i64 (.t 10) (.t 14), []⟩, ⟨(some 2), none, .mv (.t 15), []⟩])
  (.ret))⟩
theorem ck28 : chkFn Try.prog 28 ir28 = true := by kernel_rfl

/-- ( seine batch.Cache).Tell -/
def ir29 : AFn := ⟨22, 3, [], .seq (.reg [] [⟨(some 4), none, .boxv (.t 1), []⟩, ⟨(some 5), none, .boxv (.t 2), []⟩])
  (.seq (.reg [] [⟨(some 6), none, .mv (.t 0), []⟩, ⟨(some 7), none, .isnn .p (.t 6), []⟩, ⟨(some 8), none, .mv (.t 7), []⟩, ⟨(some 9), (some (8, true)), .mv (.t 0), []⟩, ⟨(some 10), (some (8, true)), .nilchk (.t 9), []⟩, ⟨(some 11), (some (8, true)), .fa 0 (.t 10), []⟩, ⟨(some 12), (some (8, true)), .ld 1 false (.t 11), []⟩, ⟨(some 13), (some (8, true)), .isnn .m (.t 12), []⟩, ⟨(some 14), none, .pick (.t 8) (.t 13) (.k (.bool false)), []⟩])
  (.cond (.t 14) (.reg [0, 1, 2, 3, 4, 5, 6, 7] [⟨(some 15), none, .mv (.t 0), []⟩, ⟨(some 16), none, .nilchk (.t 15), []⟩, ⟨(some 17), none, .fa 0 (.t 16), []⟩, ⟨(some 18), none, .ld 1 false (.t 17), []⟩, ⟨(some 19), none, .ld 2 true (.t 4), []⟩, ⟨(some 20), none, .ld 6 true (.t 5), []⟩, ⟨(some 21), none, .call 57 [(.t 20)], [3, 4]⟩, ⟨none, none, .mup (.agg [.s, .s]) (.t 18) (.t 19) (.t 21), []⟩]) (.skip)))⟩
theorem ck29 : chkFn Try.prog 29 ir29 = true := by kernel_rfl

/-- ( seine seineref27.Cache).Tell -/
def ir30 : AFn := ⟨52, 3, [], .seq (.reg [] [⟨(some 4), none, .boxv (.t 1), []⟩, ⟨(some 5), none, .boxv (.t 2), []⟩])
  (.seq (.seq (.reg [] [⟨(some 6), none, .mv (.k (.int .i64 0)), []⟩])
  (.block 0 (.loop [0, 4, 5, 6] (.seq (.seq (.reg [] [⟨(some 7), none, .mv (.t 6), []⟩, ⟨(some 8), none, .mv (.t 0), []⟩, ⟨(some 9), none, .nilchk (.t 8), []⟩, ⟨(some 10), none, .fa 0 (.t 9), []⟩, ⟨(some 11), none, .ld 1 false (.t 10), []⟩, ⟨(some 12), none, .len (.t 11), []⟩, ⟨(some 13), none, .bi .lss .i64 (.t 7) (.t 12), []⟩])
    (.cond (.t 13) (.skip) (.exit 0)))
    (.seq (.block 1 (.seq (.reg [0, 1, 2, 3, 4, 5, 6, 7, 8] [⟨(some 16), none, .mv (.t 0), []⟩, ⟨(some 17), none, .nilchk (.t 16), []⟩, ⟨(some 18), none, .fa 0 (.t 17), []⟩, ⟨(some 19), none, .ld 1 false (.t 18), []⟩, ⟨(some 20), none, .mv (.t 6), []⟩, ⟨(some 21), none, .ia 2 (.t 19) (.t 20), []⟩, ⟨(some 22), none, .ld 2 true (.t 21), []⟩, ⟨(some 23), none, .ld 2 true (.t 4), []⟩, ⟨(some 24), none, .eqa false [.s, .s] (.t 22) (.t 23), []⟩])
     (.cond (.t 24) (.seq (.reg [0, 1, 2, 3, 4, 5, 6, 7] [⟨(some 25), none, .mv (.t 0), []⟩, ⟨(some 26), none, .nilchk (.t 25), []⟩, ⟨(some 27), none, .fa 1 (.t 26), []⟩, ⟨(some 28), none, .ld 1 false (.t 27), []⟩, ⟨(some 29), none, .mv (.t 6), []⟩, ⟨(some 30), none, .ld 6 true (.t 5), []⟩, ⟨(some 31), none, .ia 6 (.t 28) (.t 29), []⟩, ⟨none, none, .st 6 (.t 31) (.t 30), []⟩])
      (.ret)) (.skip))))
    (.reg [] [⟨(some 14), none, .mv (.t 6), []⟩, ⟨(some 15), none, .bi .add .i64 (.t 14) (.k (.int .i64 1)), []⟩, ⟨(some 6), none, .mv (.t 15), []⟩]))))))
  (.reg [0, 1, 2, 3, 4, 5, 6, 7, 9, 10, 11, 12, 13, 14, 8, 15, 16, 17, 18, 19, 20, 21] [⟨(some 32), none, .mv (.t 0), []⟩, ⟨(some 33), none, .mv (.t 0), []⟩, ⟨(some 34), none, .mv (.t 0), []⟩, ⟨(some 35), none, .nilchk (.t 34), []⟩, ⟨(some 36), none, .fa 0 (.t 35), []⟩, ⟨(some 37), none, .ld 1 false (.t 36), []⟩, ⟨(some 38), none, .ld 2 true (.t 4), []⟩, ⟨(some 39), none, .bls 2 1 [.str [], .str []] [(0, (.t 38))], []⟩, ⟨(some 41), none, .mv (.t 0), []⟩, ⟨(some 42), none, .nilchk (.t 41), []⟩, ⟨(some 43), none, .fa 1 (.t 42), []⟩, ⟨(some 44), none, .ld 1 false (.t 43), []⟩, ⟨(some 45), none, .ld 6 true (.t 5), []⟩, ⟨(some 46), none, .bls 6 1 [.str [], .str [], .sl .nil 6 [], .bool false, .bool false, .int .i64 0] [(0, (.t 45))], []⟩, ⟨(some 40), none, .app 2 32 (.t 37) (.t 39), [11, 12]⟩, ⟨(some 47), none, .appm 6 80 [.str [], .str [], .sl .nil 6 [], .bool false, .bool false, .int .i64 0] (.t 44) (.t 46), []⟩, ⟨(some 48), none, .nilchk (.t 32), []⟩, ⟨(some 49), none, .fa 0 (.t 48), []⟩, ⟨none, none, .st 1 (.t 49) (.t 40), []⟩, ⟨(some 50), none, .nilchk (.t 33), []⟩, ⟨(some 51), none, .fa 1 (.t 50), []⟩, ⟨none, none, .st 1 (.t 51) (.t 47), []⟩]))⟩
theorem ck30 : chkFn Try.prog 30 ir30 = true := by kernel_rfl

/-- ( seine batch.Cache).Fresh -/
def ir31 : AFn := ⟨31, 2, [.t 4], .seq (.reg [] [⟨(some 4), none, .mv (.k (.sl .nil 2 [])), []⟩])
  (.seq (.reg [] [⟨(some 5), none, .mv (.k (.sl .nil 2 [])), []⟩])
  (.seq (.seq (.reg [] [⟨(some 10), none, .mv (.t 1), []⟩, ⟨(some 11), none, .call 52 [(.t 10)], []⟩, ⟨(some 12), none, .len (.t 11), []⟩, ⟨(some 13), none, .mv (.k (.int .i64 0)), []⟩])
  (.block 0 (.loop [0, 5, 11, 12, 13] (.seq (.reg [] [⟨(some 14), none, .bi .lss .i64 (.t 13) (.t 12), []⟩])
    (.seq (.cond (.t 14) (.skip) (.exit 0))
    (.seq (.block 1 (.seq (.reg [] [⟨(some 15), none, .ia 2 (.t 11) (.t 13), []⟩, ⟨(some 16), none, .ld 2 true (.t 15), []⟩, ⟨(some 7), none, .alloc [.str [], .str []], []⟩, ⟨none, none, .st 2 (.t 7) (.t 16), []⟩])
     (.seq (.reg [] [⟨(some 18), none, .mv (.t 0), []⟩, ⟨(some 19), none, .ld 2 true (.t 7), []⟩, ⟨(some 20), none, .call 34 [(.t 18), (.t 19)], []⟩, ⟨(some 17), none, .mv (.t 20), []⟩, ⟨(some 21), none, .ext (.t 17) 0, []⟩, ⟨(some 22), none, .ext (.t 17) 1, []⟩, ⟨(some 8), none, .alloc [.str [], .str [], .sl .nil 6 [], .bool false, .bool false, .int .i64 0], []⟩, ⟨none, none, .st 6 (.t 8) (.t 21), []⟩, ⟨(some 9), none, .mv (.t 22), []⟩])
     (.seq (.reg [] [⟨(some 23), none, .mv (.t 9), []⟩, ⟨(some 24), none, .not (.t 23), []⟩])
     (.cond (.t 24) (.reg [] [⟨(some 25), none, .mv (.t 5), []⟩, ⟨(some 26), none, .ld 2 true (.t 7), []⟩, ⟨(some 27), none, .bls 2 1 [.str [], .str []] [(0, (.t 26))], []⟩, ⟨(some 28), none, .app 2 32 (.t 25) (.t 27), []⟩, ⟨(some 5), none, .mv (.t 28), []⟩]) (.skip))))))
    (.reg [] [⟨(some 29), none, .bi .add .i64 (.t 13) (.k (.int .i64 1)), []⟩, ⟨(some 13), none, .mv (.t 29), []⟩])))))))
  (.seq (.reg [] [⟨(some 30), none, .mv (.t 5), []⟩, ⟨(some 4), none, .mv (.t 30), []⟩])
  (.ret))))⟩
theorem ck31 : chkFn Try.prog 31 ir31 = true := by kernel_rfl

/-- ( seine seineref27.Cache).Fresh -/
def ir32 : AFn := ⟨43, 2, [.t 4], .seq (.reg [] [⟨(some 4), none, .mv (.k (.sl .nil 2 [])), []⟩])
  (.seq (.reg [] [⟨(some 5), none, .mv (.k (.sl .nil 2 [])), []⟩])
  (.seq (.seq (.reg [] [⟨(some 6), none, .mv (.k (.int .i64 0)), []⟩])
  (.block 0 (.loop [0, 1, 5, 6] (.seq (.seq (.reg [] [⟨(some 9), none, .mv (.t 6), []⟩, ⟨(some 10), none, .mv (.t 1), []⟩, ⟨(some 11), none, .len (.t 10), []⟩, ⟨(some 12), none, .bi .lss .i64 (.t 9) (.t 11), []⟩])
    (.cond (.t 12) (.skip) (.exit 0)))
    (.seq (.block 1 (.seq (.reg [] [⟨(some 16), none, .mv (.t 0), []⟩, ⟨(some 17), none, .mv (.t 1), []⟩, ⟨(some 18), none, .mv (.t 6), []⟩, ⟨(some 19), none, .ia 2 (.t 17) (.t 18), []⟩, ⟨(some 20), none, .ld 2 true (.t 19), []⟩, ⟨(some 21), none, .call 35 [(.t 16), (.t 20)], []⟩, ⟨(some 15), none, .mv (.t 21), []⟩, ⟨(some 22), none, .ext (.t 15) 0, []⟩, ⟨(some 23), none, .ext (.t 15) 1, []⟩, ⟨(some 7), none, .alloc [.str [], .str [], .sl .nil 6 [], .bool false, .bool false, .int .i64 0], []⟩, ⟨none, none, .st 6 (.t 7) (.t 22), []⟩, ⟨(some 8), none, .mv (.t 23), []⟩])
     (.seq (.reg [] [⟨(some 24), none, .mv (.t 8), []⟩, ⟨(some 25), none, .not (.t 24), []⟩, ⟨(some 26), none, .mv (.t 25), []⟩, ⟨(some 27), (some (26, true)), .mv (.t 5), []⟩, ⟨(some 28), (some (26, true)), .mv (.t 1), []⟩, ⟨(some 29), (some (26, true)), .mv (.t 6), []⟩, ⟨(some 30), (some (26, true)), .ia 2 (.t 28) (.t 29), []⟩, ⟨(some 31), (some (26, true)), .ld 2 true (.t 30), []⟩, ⟨(some 32), (some (26, true)), .call 20 [(.t 27), (.t 31)], []⟩, ⟨(some 33), (some (26, true)), .not (.t 32), []⟩, ⟨(some 34), none, .pick (.t 26) (.t 33) (.k (.bool false)), []⟩])
     (.cond (.t 34) (.reg [] [⟨(some 35), none, .mv (.t 5), []⟩, ⟨(some 36), none, .mv (.t 1), []⟩, ⟨(some 37), none, .mv (.t 6), []⟩, ⟨(some 38), none, .ia 2 (.t 36) (.t 37), []⟩, ⟨(some 39), none, .ld 2 true (.t 38), []⟩, ⟨(some 40), none, .bls 2 1 [.str [], .str []] [(0, (.t 39))], []⟩, ⟨(some 41), none, .app 2 32 (.t 35) (.t 40), []⟩, ⟨(some 5), none, .mv (.t 41), []⟩]) (.skip)))))
    (.reg [] [⟨(some 13), none, .mv (.t 6), []⟩, ⟨(some 14), none, .bi .add .i64 (.t 13) (.k (.int .i64 1)), []⟩, ⟨(some 6), none, .mv (.t 14), []⟩]))))))
  (.seq (.reg [] [⟨(some 42), none, .mv (.t 5), []⟩, ⟨(some 4), none, .mv (.t 42), []⟩])
  (.ret))))⟩
theorem ck32 : chkFn Try.prog 32 ir32 = true := by kernel_rfl

/-- ( seine batch.Cache).Flush -/
def ir33 : AFn := ⟨8, 1, [], .seq (.reg [] [⟨(some 2), none, .mv (.t 0), []⟩, ⟨(some 3), none, .isnn .p (.t 2), []⟩])
  (.cond (.t 3) (.reg [] [⟨(some 4), none, .mv (.t 0), []⟩, ⟨(some 5), none, .mkm (.agg [.s, .s]), []⟩, ⟨(some 6), none, .nilchk (.t 4), []⟩, ⟨(some 7), none, .fa 0 (.t 6), []⟩, ⟨none, none, .st 1 (.t 7) (.t 5), []⟩]) (.skip))⟩
theorem ck33 : chkFn Try.prog 33 ir33 = true := by kernel_rfl

/-- ( seine batch.Cache).Know -/
def ir34 : AFn := ⟨23, 2, [.c 4 6 true, .t 5], .seq (.reg [] [⟨(some 3), none, .boxv (.t 1), []⟩, ⟨(some 4), none, .alloc [.str [], .str [], .sl .nil 6 [], .bool false, .bool false, .int .i64 0], []⟩, ⟨(some 5), none, .mv (.k (.bool false)), []⟩])
  (.seq (.seq (.reg [] [⟨(some 8), none, .mv (.t 0), []⟩, ⟨(some 9), none, .isnil .p (.t 8), []⟩])
  (.cond (.t 9) (.seq (.reg [] [⟨(some 10), none, .bld [.str [], .str [], .sl .nil 6 [], .bool false, .bool false, .int .i64 0] [], []⟩, ⟨none, none, .st 6 (.t 4) (.t 10), []⟩, ⟨(some 5), none, .mv (.k (.bool false)), []⟩])
   (.ret)) (.skip)))
  (.seq (.reg [0, 1, 2, 3, 4, 5, 6, 7, 8, 9, 10, 11] [⟨(some 12), none, .mv (.t 0), []⟩, ⟨(some 13), none, .nilchk (.t 12), []⟩, ⟨(some 14), none, .fa 0 (.t 13), []⟩, ⟨(some 15), none, .ld 1 false (.t 14), []⟩, ⟨(some 16), none, .ld 2 true (.t 3), []⟩, ⟨(some 17), none, .lkp (.agg [.s, .s]) (.agg [.str [], .str [], .sl .nil 6 [], .bool false, .bool false, .int .i64 0]) true (.t 15) (.t 16), []⟩, ⟨(some 11), none, .mv (.t 17), []⟩, ⟨(some 18), none, .ext (.t 11) 0, []⟩, ⟨(some 19), none, .ext (.t 11) 1, []⟩, ⟨(some 6), none, .alloc [.str [], .str [], .sl .nil 6 [], .bool false, .bool false, .int .i64 0], []⟩, ⟨none, none, .st 6 (.t 6) (.t 18), []⟩, ⟨(some 7), none, .mv (.t 19), []⟩])
  (.seq (.reg [] [⟨(some 20), none, .ld 6 true (.t 6), []⟩, ⟨(some 21), none, .call 57 [(.t 20)], []⟩, ⟨(some 22), none, .mv (.t 7), []⟩, ⟨none, none, .st 6 (.t 4) (.t 21), []⟩, ⟨(some 5), none, .mv (.t 22), []⟩])
  (.ret))))⟩
theorem ck34 : chkFn Try.prog 34 ir34 = true := by kernel_rfl

/-- ( seine seineref27.Cache).Know -/
def ir35 : AFn := ⟨33, 2, [.c 4 6 true, .t 5], .seq (.reg [] [⟨(some 3), none, .boxv (.t 1), []⟩, ⟨(some 4), none, .alloc [.str [], .str [], .sl .nil 6 [], .bool false, .bool false, .int .i64 0], []⟩, ⟨(some 5), none, .mv (.k (.bool false)), []⟩])
  (.seq (.seq (.reg [] [⟨(some 6), none, .mv (.k (.int .i64 0)), []⟩])
  (.block 0 (.loop [0, 3, 4, 6] (.seq (.seq (.reg [] [⟨(some 7), none, .mv (.t 6), []⟩, ⟨(some 8), none, .mv (.t 0), []⟩, ⟨(some 9), none, .nilchk (.t 8), []⟩, ⟨(some 10), none, .fa 0 (.t 9), []⟩, ⟨(some 11), none, .ld 1 false (.t 10), []⟩, ⟨(some 12), none, .len (.t 11), []⟩, ⟨(some 13), none, .bi .lss .i64 (.t 7) (.t 12), []⟩])
    (.cond (.t 13) (.skip) (.exit 0)))
    (.seq (.block 1 (.seq (.reg [0, 1, 2, 3, 4, 5, 6, 7, 8] [⟨(some 16), none, .mv (.t 0), []⟩, ⟨(some 17), none, .nilchk (.t 16), []⟩, ⟨(some 18), none, .fa 0 (.t 17), []⟩, ⟨(some 19), none, .ld 1 false (.t 18), []⟩, ⟨(some 20), none, .mv (.t 6), []⟩, ⟨(some 21), none, .ia 2 (.t 19) (.t 20), []⟩, ⟨(some 22), none, .ld 2 true (.t 21), []⟩, ⟨(some 23), none, .ld 2 true (.t 3), []⟩, ⟨(some 24), none, .eqa false [.s, .s] (.t 22) (.t 23), []⟩])
     (.cond (.t 24) (.seq (.reg [] [⟨(some 25), none, .mv (.t 0), []⟩, ⟨(some 26), none, .nilchk (.t 25), []⟩, ⟨(some 27), none, .fa 1 (.t 26), []⟩, ⟨(some 28), none, .ld 1 false (.t 27), []⟩, ⟨(some 29), none, .mv (.t 6), []⟩, ⟨(some 30), none, .ia 6 (.t 28) (.t 29), []⟩, ⟨(some 31), none, .ld 6 true (.t 30), []⟩, ⟨none, none, .st 6 (.t 4) (.t 31), []⟩, ⟨(some 5), none, .mv (.k (.bool true)), []⟩])
      (.ret)) (.skip))))
    (.reg [] [⟨(some 14), none, .mv (.t 6), []⟩, ⟨(some 15), none, .bi .add .i64 (.t 14) (.k (.int .i64 1)), []⟩, ⟨(some 6), none, .mv (.t 15), []⟩]))))))
  (.seq (.reg [] [⟨(some 32), none, .bld [.str [], .str [], .sl .nil 6 [], .bool false, .bool false, .int .i64 0] [], []⟩, ⟨none, none, .st 6 (.t 4) (.t 32), []⟩, ⟨(some 5), none, .mv (.k (.bool false)), []⟩])
  (.ret)))⟩
theorem ck35 : chkFn Try.prog 35 ir35 = true := by kernel_rfl

/-- seine seineref27.SameGot -/
def ir36 : AFn := ⟨24, 2, [.t 4], .seq (.reg [] [⟨(some 2), none, .boxv (.t 0), []⟩, ⟨(some 3), none, .boxv (.t 1), []⟩, ⟨(some 4), none, .mv (.k (.bool false)), []⟩])
  (.seq (.reg [] [⟨(some 5), none, .fa 4 (.t 2), []⟩, ⟨(some 6), none, .ld 1 false (.t 5), []⟩, ⟨(some 7), none, .fa 4 (.t 3), []⟩, ⟨(some 8), none, .ld 1 false (.t 7), []⟩, ⟨(some 9), none, .bb false (.t 6) (.t 8), []⟩, ⟨(some 10), none, .mv (.t 9), []⟩, ⟨(some 11), (some (10, true)), .fa 5 (.t 2), []⟩, ⟨(some 12), (some (10, true)), .ld 1 false (.t 11), []⟩, ⟨(some 13), (some (10, true)), .fa 5 (.t 3), []⟩, ⟨(some 14), (some (10, true)), .ld 1 false (.t 13), []⟩, ⟨(some 15), (some (10, true)), .bi .eql .i64 (.t 12) (.t 14), []⟩, ⟨(some 16), none, .pick (.t 10) (.t 15) (.k (.bool false)), []⟩, ⟨(some 17), none, .mv (.t 16), []⟩, ⟨(some 18), (some (17, true)), .fa 0 (.t 2), []⟩, ⟨(some 19), (some (17, true)), .ld 4 true (.t 18), []⟩, ⟨(some 20), (some (17, true)), .fa 0 (.t 3), []⟩, ⟨(some 21), (some (17, true)), .ld 4 true (.t 20), []⟩, ⟨(some 22), (some (17, true)), .call 58 [(.t 19), (.t 21)], []⟩, ⟨(some 23), none, .pick (.t 17) (.t 22) (.k (.bool false)), []⟩, ⟨(some 4), none, .mv (.t 23), []⟩])
  (.ret))⟩
theorem ck36 : chkFn Try.prog 36 ir36 = true := by kernel_rfl

/-- seine seineref27.Once -/
def ir37 : AFn := ⟨26, 1, [.t 2], .seq (.reg [] [⟨(some 2), none, .mv (.k (.sl .nil 2 [])), []⟩])
  (.seq (.reg [] [⟨(some 3), none, .mv (.k (.sl .nil 2 [])), []⟩])
  (.seq (.seq (.reg [] [⟨(some 4), none, .mv (.k (.int .i64 0)), []⟩])
  (.block 0 (.loop [0, 3, 4] (.seq (.seq (.reg [] [⟨(some 5), none, .mv (.t 4), []⟩, ⟨(some 6), none, .mv (.t 0), []⟩, ⟨(some 7), none, .len (.t 6), []⟩, ⟨(some 8), none, .bi .lss .i64 (.t 5) (.t 7), []⟩])
    (.cond (.t 8) (.skip) (.exit 0)))
    (.seq (.block 1 (.seq (.reg [] [⟨(some 11), none, .mv (.t 3), []⟩, ⟨(some 12), none, .mv (.t 0), []⟩, ⟨(some 13), none, .mv (.t 4), []⟩, ⟨(some 14), none, .ia 2 (.t 12) (.t 13), []⟩, ⟨(some 15), none, .ld 2 true (.t 14), []⟩, ⟨(some 16), none, .call 20 [(.t 11), (.t 15)], []⟩, ⟨(some 17), none, .not (.t 16), []⟩])
     (.cond (.t 17) (.reg [] [⟨(some 18), none, .mv (.t 3), []⟩, ⟨(some 19), none, .mv (.t 0), []⟩, ⟨(some 20), none, .mv (.t 4), []⟩, ⟨(some 21), none, .ia 2 (.t 19) (.t 20), []⟩, ⟨(some 22), none, .ld 2 true (.t 21), []⟩, ⟨(some 23), none, .bls 2 1 [.str [], .str []] [(0, (.t 22))], []⟩, ⟨(some 24), none, .app 2 32 (.t 18) (.t 23), []⟩, ⟨(some 3), none, .mv (.t 24), []⟩]) (.skip))))
    (.reg [] [⟨(some 9), none, .mv (.t 4), []⟩, ⟨(some 10), none, .bi .add .i64 (.t 9) (.k (.int .i64 1)), []⟩, ⟨(some 4), none, .mv (.t 10), []⟩]))))))
  (.seq (.reg [] [⟨(some 25), none, .mv (.t 3), []⟩, ⟨(some 2), none, .mv (.t 25), []⟩])
  (.ret))))⟩
theorem ck37 : chkFn Try.prog 37 ir37 = true := by kernel_rfl

/-- seine seinelaw31.light -/
def ir38 : AFn := ⟨22, 1, [.t 2], .seq (.reg [] [⟨(some 2), none, .mv (.k (.bool false)), []⟩])
  (.seq (.reg [] [⟨(some 3), none, .mv (.k (.int .i64 0)), []⟩])
  (.seq (.seq (.reg [] [⟨(some 4), none, .mv (.k (.int .i64 0)), []⟩])
  (.block 0 (.loop [0, 3, 4] (.seq (.seq (.reg [] [⟨(some 5), none, .mv (.t 4), []⟩, ⟨(some 6), none, .mv (.t 0), []⟩, ⟨(some 7), none, .len (.t 6), []⟩, ⟨(some 8), none, .bi .lss .i64 (.t 5) (.t 7), []⟩])
    (.cond (.t 8) (.skip) (.exit 0)))
    (.seq (.block 1 (.reg [] [⟨(some 11), none, .mv (.t 3), []⟩, ⟨(some 12), none, .bi .add .i64 (.t 11) (.k (.int .i64 1)), []⟩, ⟨(some 13), none, .mv (.t 0), []⟩, ⟨(some 14), none, .mv (.t 4), []⟩, ⟨(some 15), none, .ia 2 (.t 13) (.t 14), []⟩, ⟨(some 16), none, .fa 1 (.t 15), []⟩, ⟨(some 17), none, .ld 1 false (.t 16), []⟩, ⟨(some 18), none, .len (.t 17), []⟩, ⟨(some 19), none, .bi .add .i64 (.t 12) (.t 18), []⟩, ⟨(some 3), none, .mv (.t 19), []⟩]))
    (.reg [] [⟨(some 9), none, .mv (.t 4), []⟩, ⟨(some 10), none, .bi .add .i64 (.t 9) (.k (.int .i64 1)), []⟩, ⟨(some 4), none, .mv (.t 10), []⟩]))))))
  (.seq (.reg [] [⟨(some 20), none, .mv (.t 3), []⟩, ⟨(some 21), none, .bi .leq .i64 (.t 20) (.k (.int .i64 200)), []⟩, ⟨(some 2), none, .mv (.t 21), []⟩])
  (.ret))))⟩
theorem ck38 : chkFn Try.prog 38 ir38 = true := by kernel_rfl

/-- seine crew.New -/
def ir39 : AFn := ⟨13, 1, [.t 2], .seq (.reg [] [⟨(some 2), none, .mv (.k (.nilp)), []⟩])
  (.seq (.seq (.reg [] [⟨(some 3), none, .mv (.t 0), []⟩, ⟨(some 4), none, .bi .lss .i64 (.t 3) (.k (.int .i64 1)), []⟩, ⟨(some 5), none, .mv (.t 4), []⟩, ⟨(some 6), (some (5, false)), .mv (.t 0), []⟩, ⟨(some 7), (some (5, false)), .bi .gtr .i64 (.t 6) (.k (.int .i64 16)), []⟩, ⟨(some 8), none, .pick (.t 5) (.k (.bool true)) (.t 7), []⟩])
  (.cond (.t 8) (.seq (.reg [] [⟨(some 2), none, .mv (.k (.nilp)), []⟩])
   (.ret)) (.skip)))
  (.seq (.reg [] [⟨(some 9), none, .mv (.t 0), []⟩, ⟨(some 10), none, .mksn [.int .i64 0, .str [], .sl .nil 1 []] 48 (.t 9), []⟩, ⟨(some 11), none, .bld [.sl .nil 3 [], .sl .nil 2 []] [(0, 1, (.t 10))], []⟩, ⟨(some 12), none, .box (.t 11), []⟩, ⟨(some 2), none, .mv (.t 12), []⟩])
  (.ret)))⟩
theorem ck39 : chkFn Try.prog 39 ir39 = true := by kernel_rfl

/-- ( seine crew.Crew).Lay -/
def ir40 : AFn := ⟨26, 2, [], .seq (.seq (.reg [] [⟨(some 6), none, .mv (.t 0), []⟩, ⟨(some 7), none, .isnil .p (.t 6), []⟩])
  (.cond (.t 7) (.ret) (.skip)))
  (.seq (.reg [] [⟨(some 8), none, .mv (.t 1), []⟩, ⟨(some 9), none, .len (.t 8), []⟩, ⟨(some 10), none, .mv (.k (.int .i64 0)), []⟩])
  (.block 0 (.loop [0, 8, 9, 10] (.seq (.reg [] [⟨(some 11), none, .bi .lss .i64 (.t 10) (.t 9), []⟩])
    (.seq (.cond (.t 11) (.skip) (.exit 0))
    (.seq (.block 1 (.seq (.reg [] [⟨(some 12), none, .ia 2 (.t 8) (.t 10), []⟩, ⟨(some 13), none, .ld 2 true (.t 12), []⟩, ⟨(some 5), none, .alloc [.str [], .sl .nil 1 []], []⟩, ⟨none, none, .st 2 (.t 5) (.t 13), []⟩])
     (.reg [0, 1, 2, 3, 4, 5, 6, 7, 8, 9, 10, 11] [⟨(some 14), none, .mv (.t 0), []⟩, ⟨(some 15), none, .mv (.t 0), []⟩, ⟨(some 16), none, .nilchk (.t 15), []⟩, ⟨(some 17), none, .fa 1 (.t 16), []⟩, ⟨(some 18), none, .ld 1 false (.t 17), []⟩, ⟨(some 19), none, .ld 2 true (.t 5), []⟩, ⟨(some 20), none, .call 59 [(.t 19)], [4]⟩, ⟨(some 21), none, .bls 2 1 [.str [], .sl .nil 1 []] [(0, (.t 20))], []⟩, ⟨(some 22), none, .app 2 40 (.t 18) (.t 21), []⟩, ⟨(some 23), none, .nilchk (.t 14), []⟩, ⟨(some 24), none, .fa 1 (.t 23), []⟩, ⟨none, none, .st 1 (.t 24) (.t 22), []⟩])))
    (.reg [] [⟨(some 25), none, .bi .add .i64 (.t 10) (.k (.int .i64 1)), []⟩, ⟨(some 10), none, .mv (.t 25), []⟩])))))))⟩
theorem ck40 : chkFn Try.prog 40 ir40 = true := by kernel_rfl

/-- ( seine crew.Crew).Can -/
def ir41 : AFn := ⟨26, 1, [.t 2], .seq (.reg [] [⟨(some 2), none, .mv (.k (.sl .nil 1 [])), []⟩])
  (.seq (.reg [] [⟨(some 3), none, .mv (.k (.sl .nil 1 [])), []⟩])
  (.seq (.seq (.reg [] [⟨(some 4), none, .mv (.k (.int .i64 1)), []⟩])
  (.block 0 (.loop [0, 3, 4] (.seq (.seq (.reg [] [⟨(some 5), none, .mv (.t 0), []⟩, ⟨(some 6), none, .isnn .p (.t 5), []⟩, ⟨(some 7), none, .mv (.t 6), []⟩, ⟨(some 8), (some (7, true)), .mv (.t 4), []⟩, ⟨(some 9), (some (7, true)), .mv (.t 0), []⟩, ⟨(some 10), (some (7, true)), .nilchk (.t 9), []⟩, ⟨(some 11), (some (7, true)), .fa 0 (.t 10), []⟩, ⟨(some 12), (some (7, true)), .ld 1 false (.t 11), []⟩, ⟨(some 13), (some (7, true)), .len (.t 12), []⟩, ⟨(some 14), (some (7, true)), .bi .leq .i64 (.t 8) (.t 13), []⟩, ⟨(some 15), none, .pick (.t 7) (.t 14) (.k (.bool false)), []⟩])
    (.cond (.t 15) (.skip) (.exit 0)))
    (.seq (.block 1 (.seq (.reg [] [⟨(some 18), none, .mv (.t 0), []⟩, ⟨(some 19), none, .mv (.t 4), []⟩, ⟨(some 20), none, .call 60 [(.t 18), (.t 19)], []⟩])
     (.cond (.t 20) (.reg [] [⟨(some 21), none, .mv (.t 3), []⟩, ⟨(some 22), none, .mv (.t 4), []⟩, ⟨(some 23), none, .bls 1 1 [.int .i64 0] [(0, (.t 22))], []⟩, ⟨(some 24), none, .app 1 8 (.t 21) (.t 23), []⟩, ⟨(some 3), none, .mv (.t 24), []⟩]) (.skip))))
    (.reg [] [⟨(some 16), none, .mv (.t 4), []⟩, ⟨(some 17), none, .bi .add .i64 (.t 16) (.k (.int .i64 1)), []⟩, ⟨(some 4), none, .mv (.t 17), []⟩]))))))
  (.seq (.reg [] [⟨(some 25), none, .mv (.t 3), []⟩, ⟨(some 2), none, .mv (.t 25), []⟩])
  (.ret))))⟩
theorem ck41 : chkFn Try.prog 41 ir41 = true := by kernel_rfl

/-- ( seine crew.Crew).Busy -/
def ir42 : AFn := ⟨24, 1, [.t 2], .seq (.reg [] [⟨(some 2), none, .mv (.k (.int .i64 0)), []⟩])
  (.seq (.seq (.reg [] [⟨(some 6), none, .mv (.t 0), []⟩, ⟨(some 7), none, .isnil .p (.t 6), []⟩])
  (.cond (.t 7) (.seq (.reg [] [⟨(some 2), none, .mv (.k (.int .i64 0)), []⟩])
   (.ret)) (.skip)))
  (.seq (.reg [] [⟨(some 3), none, .mv (.k (.int .i64 0)), []⟩])
  (.seq (.seq (.reg [] [⟨(some 8), none, .mv (.t 0), []⟩, ⟨(some 9), none, .nilchk (.t 8), []⟩, ⟨(some 10), none, .fa 0 (.t 9), []⟩, ⟨(some 11), none, .ld 1 false (.t 10), []⟩, ⟨(some 12), none, .len (.t 11), []⟩, ⟨(some 13), none, .mv (.k (.int .i64 0)), []⟩])
  (.block 0 (.loop [3, 11, 12, 13] (.seq (.reg [] [⟨(some 14), none, .bi .lss .i64 (.t 13) (.t 12), []⟩])
    (.seq (.cond (.t 14) (.skip) (.exit 0))
    (.seq (.block 1 (.seq (.reg [] [⟨(some 15), none, .ia 3 (.t 11) (.t 13), []⟩, ⟨(some 16), none, .ld 3 true (.t 15), []⟩, ⟨(some 5), none, .alloc [.int .i64 0, .str [], .sl .nil 1 []], []⟩, ⟨none, none, .st 3 (.t 5) (.t 16), []⟩])
     (.seq (.reg [] [⟨(some 17), none, .fa 0 (.t 5), []⟩, ⟨(some 18), none, .ld 1 false (.t 17), []⟩, ⟨(some 19), none, .bi .neq .i64 (.t 18) (.k (.int .i64 0)), []⟩])
     (.cond (.t 19) (.reg [] [⟨(some 20), none, .mv (.t 3), []⟩, ⟨(some 21), none, .bi .add .i64 (.t 20) (.k (.int .i64 1)), []⟩, ⟨(some 3), none, .mv (.t 21), []⟩]) (.skip)))))
    (.reg [] [⟨(some 22), none, .bi .add .i64 (.t 13) (.k (.int .i64 1)), []⟩, ⟨(some 13), none, .mv (.t 22), []⟩])))))))
  (.seq (.reg [] [⟨(some 23), none, .mv (.t 3), []⟩, ⟨(some 2), none, .mv (.t 23), []⟩])
  (.ret)))))⟩
theorem ck42 : chkFn Try.prog 42 ir42 = true := by kernel_rfl

/-- ( seine crew.Crew).Waits -/
def ir43 : AFn := ⟨10, 1, [.t 2], .seq (.reg [] [⟨(some 2), none, .mv (.k (.int .i64 0)), []⟩])
  (.seq (.seq (.reg [] [⟨(some 3), none, .mv (.t 0), []⟩, ⟨(some 4), none, .isnil .p (.t 3), []⟩])
  (.cond (.t 4) (.seq (.reg [] [⟨(some 2), none, .mv (.k (.int .i64 0)), []⟩])
   (.ret)) (.skip)))
  (.seq (.reg [] [⟨(some 5), none, .mv (.t 0), []⟩, ⟨(some 6), none, .nilchk (.t 5), []⟩, ⟨(some 7), none, .fa 1 (.t 6), []⟩, ⟨(some 8), none, .ld 1 false (.t 7), []⟩, ⟨(some 9), none, .len (.t 8), []⟩, ⟨(some 2), none, .mv (.t 9), []⟩])
  (.ret)))⟩
theorem ck43 : chkFn Try.prog 43 ir43 = true := by kernel_rfl

/-- ( seine crew.Crew).Step -/
def ir44 : AFn := ⟨64, 2, [.c 4 2 true, .t 5], .seq (.reg [] [⟨(some 4), none, .alloc [.str [], .sl .nil 1 []], []⟩, ⟨(some 5), none, .mv (.k (.int .i64 0)), []⟩])
  (.seq (.seq (.reg [] [⟨(some 8), none, .mv (.t 0), []⟩, ⟨(some 9), none, .mv (.t 1), []⟩, ⟨(some 10), none, .call 60 [(.t 8), (.t 9)], []⟩, ⟨(some 11), none, .not (.t 10), []⟩])
  (.cond (.t 11) (.seq (.reg [] [⟨(some 12), none, .bld [.str [], .sl .nil 1 []] [], []⟩, ⟨none, none, .st 2 (.t 4) (.t 12), []⟩, ⟨(some 5), none, .mv (.k (.int .i64 0)), []⟩])
   (.ret)) (.skip)))
  (.seq (.reg [] [⟨(some 13), none, .mv (.t 0), []⟩, ⟨(some 14), none, .nilchk (.t 13), []⟩, ⟨(some 15), none, .fa 0 (.t 14), []⟩, ⟨(some 16), none, .ld 1 false (.t 15), []⟩, ⟨(some 17), none, .mv (.t 1), []⟩, ⟨(some 18), none, .bi .sub .i64 (.t 17) (.k (.int .i64 1)), []⟩, ⟨(some 19), none, .ia 3 (.t 16) (.t 18), []⟩, ⟨(some 6), none, .mv (.t 19), []⟩])
  (.seq (.seq (.reg [] [⟨(some 20), none, .mv (.t 6), []⟩, ⟨(some 21), none, .nilchk (.t 20), []⟩, ⟨(some 22), none, .fa 0 (.t 21), []⟩, ⟨(some 23), none, .ld 1 false (.t 22), []⟩, ⟨(some 24), none, .bi .eql .i64 (.t 23) (.k (.int .i64 0)), []⟩])
  (.cond (.t 24) (.seq (.reg [] [⟨(some 25), none, .mv (.t 6), []⟩, ⟨(some 26), none, .mv (.t 0), []⟩, ⟨(some 27), none, .nilchk (.t 26), []⟩, ⟨(some 28), none, .fa 1 (.t 27), []⟩, ⟨(some 29), none, .ld 1 false (.t 28), []⟩, ⟨(some 30), none, .ia 2 (.t 29) (.k (.int .i64 0)), []⟩, ⟨(some 31), none, .ld 2 true (.t 30), []⟩, ⟨(some 32), none, .nilchk (.t 25), []⟩, ⟨(some 33), none, .fa 1 (.t 32), []⟩, ⟨none, none, .st 2 (.t 33) (.t 31), []⟩])
   (.reg [] [⟨(some 34), none, .mv (.t 0), []⟩, ⟨(some 35), none, .mv (.t 0), []⟩, ⟨(some 36), none, .nilchk (.t 35), []⟩, ⟨(some 37), none, .fa 1 (.t 36), []⟩, ⟨(some 38), none, .ld 1 false (.t 37), []⟩, ⟨(some 39), none, .sll 2 (.t 38) (some (.k (.int .i64 1))) none none, []⟩, ⟨(some 40), none, .nilchk (.t 34), []⟩, ⟨(some 41), none, .fa 1 (.t 40), []⟩, ⟨none, none, .st 1 (.t 41) (.t 39), []⟩])) (.skip)))
  (.seq (.reg [] [⟨(some 42), none, .mv (.t 6), []⟩, ⟨(some 43), none, .nilchk (.t 42), []⟩, ⟨(some 44), none, .fa 0 (.t 43), []⟩, ⟨(some 45), none, .ld 1 false (.t 44), []⟩, ⟨(some 46), none, .bi .add .i64 (.t 45) (.k (.int .i64 1)), []⟩, ⟨(some 47), none, .nilchk (.t 42), []⟩, ⟨(some 48), none, .fa 0 (.t 47), []⟩, ⟨none, none, .st 1 (.t 48) (.t 46), []⟩])
  (.seq (.reg [] [⟨(some 49), none, .mv (.t 6), []⟩, ⟨(some 50), none, .nilchk (.t 49), []⟩, ⟨(some 51), none, .fa 0 (.t 50), []⟩, ⟨(some 52), none, .ld 1 false (.t 51), []⟩, ⟨(some 7), none, .mv (.t 52), []⟩])
  (.seq (.seq (.reg [] [⟨(some 53), none, .mv (.t 7), []⟩, ⟨(some 54), none, .bi .gtr .i64 (.t 53) (.k (.int .i64 2)), []⟩])
  (.cond (.t 54) (.reg [] [⟨(some 55), none, .mv (.t 6), []⟩, ⟨(some 56), none, .nilchk (.t 55), []⟩, ⟨(some 57), none, .fa 0 (.t 56), []⟩, ⟨none, none, .st 1 (.t 57) (.k (.int .i64 0)), []⟩]) (.skip)))
  (.seq (.reg [] [⟨(some 58), none, .mv (.t 6), []⟩, ⟨(some 59), none, .nilchk (.t 58), []⟩, ⟨(some 60), none, .fa 1 (.t 59), []⟩, ⟨(some 61), none, .ld 2 true (.t 60), []⟩, ⟨(some 62), none, .call 59 [(.t 61)], []⟩, ⟨(some 63), none, .mv (.t 7), []⟩, ⟨none, none, .st 2 (.t 4) (.t 62), []⟩, ⟨(some 5), none, .mv (.t 63), []⟩])
  (.ret))))))))⟩
theorem ck44 : chkFn Try.prog 44 ir44 = true := by kernel_rfl

/-- seine seineref27.SameBatch -/
def ir45 : AFn := ⟨38, 2, [.t 4], .seq (.reg [] [⟨(some 2), none, .boxv (.t 0), []⟩, ⟨(some 3), none, .boxv (.t 1), []⟩, ⟨(some 4), none, .mv (.k (.bool false)), []⟩])
  (.seq (.seq (.reg [] [⟨(some 6), none, .fa 0 (.t 2), []⟩, ⟨(some 7), none, .ld 1 false (.t 6), []⟩, ⟨(some 8), none, .fa 0 (.t 3), []⟩, ⟨(some 9), none, .ld 1 false (.t 8), []⟩, ⟨(some 10), none, .bs .neq (.t 7) (.t 9), []⟩, ⟨(some 11), none, .mv (.t 10), []⟩, ⟨(some 12), (some (11, false)), .fa 1 (.t 2), []⟩, ⟨(some 13), (some (11, false)), .ld 1 false (.t 12), []⟩, ⟨(some 14), (some (11, false)), .len (.t 13), []⟩, ⟨(some 15), (some (11, false)), .fa 1 (.t 3), []⟩, ⟨(some 16), (some (11, false)), .ld 1 false (.t 15), []⟩, ⟨(some 17), (some (11, false)), .len (.t 16), []⟩, ⟨(some 18), (some (11, false)), .bi .neq .i64 (.t 14) (.t 17), []⟩, ⟨(some 19), none, .pick (.t 11) (.k (.bool true)) (.t 18), []⟩])
  (.cond (.t 19) (.seq (.reg [] [⟨(some 4), none, .mv (.k (.bool false)), []⟩])
   (.ret)) (.skip)))
  (.seq (.seq (.reg [] [⟨(some 5), none, .mv (.k (.int .i64 0)), []⟩])
  (.block 0 (.loop [2, 3, 5] (.seq (.seq (.reg [] [⟨(some 20), none, .mv (.t 5), []⟩, ⟨(some 21), none, .fa 1 (.t 2), []⟩, ⟨(some 22), none, .ld 1 false (.t 21), []⟩, ⟨(some 23), none, .len (.t 22), []⟩, ⟨(some 24), none, .bi .lss .i64 (.t 20) (.t 23), []⟩])
    (.cond (.t 24) (.skip) (.exit 0)))
    (.seq (.block 1 (.seq (.reg [0, 1, 2, 3, 4, 5, 6, 7, 8, 9, 10] [⟨(some 27), none, .fa 1 (.t 2), []⟩, ⟨(some 28), none, .ld 1 false (.t 27), []⟩, ⟨(some 29), none, .mv (.t 5), []⟩, ⟨(some 30), none, .ia 1 (.t 28) (.t 29), []⟩, ⟨(some 31), none, .ld 1 false (.t 30), []⟩, ⟨(some 32), none, .fa 1 (.t 3), []⟩, ⟨(some 33), none, .ld 1 false (.t 32), []⟩, ⟨(some 34), none, .mv (.t 5), []⟩, ⟨(some 35), none, .ia 1 (.t 33) (.t 34), []⟩, ⟨(some 36), none, .ld 1 false (.t 35), []⟩, ⟨(some 37), none, .bs .neq (.t 31) (.t 36), []⟩])
     (.cond (.t 37) (.seq (.reg [] [⟨(some 4), none, .mv (.k (.bool false)), []⟩])
      (.ret)) (.skip))))
    (.reg [] [⟨(some 25), none, .mv (.t 5), []⟩, ⟨(some 26), none, .bi .add .i64 (.t 25) (.k (.int .i64 1)), []⟩, ⟨(some 5), none, .mv (.t 26), []⟩]))))))
  (.seq (.reg [] [⟨(some 4), none, .mv (.k (.bool true)), []⟩])
  (.ret))))⟩
theorem ck45 : chkFn Try.prog 45 ir45 = true := by kernel_rfl

/-- seine seineref31.New -/
def ir46 : AFn := ⟨9, 1, [.t 2], .seq (.reg [] [⟨(some 2), none, .mv (.k (.nilp)), []⟩])
  (.seq (.reg [0, 2, 1, 3, 4, 5, 6] [⟨(some 3), none, .mv (.t 0), []⟩, ⟨(some 5), none, .mv (.t 0), []⟩, ⟨(some 4), none, .mksn [.int .i64 0] 8 (.t 3), []⟩, ⟨(some 6), none, .mksn [.str [], .sl .nil 1 []] 40 (.t 5), []⟩, ⟨(some 7), none, .bld [.sl .nil 1 [], .sl .nil 2 [], .sl .nil 2 []] [(0, 1, (.t 4)), (1, 1, (.t 6))], []⟩, ⟨(some 8), none, .box (.t 7), []⟩, ⟨(some 2), none, .mv (.t 8), []⟩])
  (.ret))⟩
theorem ck46 : chkFn Try.prog 46 ir46 = true := by kernel_rfl

/-- ( seine seineref31.Crew).Step -/
def ir47 : AFn := ⟨103, 2, [.c 4 2 true, .t 5], .seq (.reg [] [⟨(some 4), none, .alloc [.str [], .sl .nil 1 []], []⟩, ⟨(some 5), none, .mv (.k (.int .i64 0)), []⟩])
  (.seq (.seq (.reg [] [⟨(some 6), none, .mv (.t 1), []⟩, ⟨(some 7), none, .bi .lss .i64 (.t 6) (.k (.int .i64 1)), []⟩, ⟨(some 8), none, .mv (.t 7), []⟩, ⟨(some 9), (some (8, false)), .mv (.t 1), []⟩, ⟨(some 10), (some (8, false)), .mv (.t 0), []⟩, ⟨(some 11), (some (8, false)), .nilchk (.t 10), []⟩, ⟨(some 12), (some (8, false)), .fa 0 (.t 11), []⟩, ⟨(some 13), (some (8, false)), .ld 1 false (.t 12), []⟩, ⟨(some 14), (some (8, false)), .len (.t 13), []⟩, ⟨(some 15), (some (8, false)), .bi .gtr .i64 (.t 9) (.t 14), []⟩, ⟨(some 16), none, .pick (.t 8) (.k (.bool true)) (.t 15), []⟩])
  (.cond (.t 16) (.seq (.reg [] [⟨(some 17), none, .bld [.str [], .sl .nil 1 []] [], []⟩, ⟨none, none, .st 2 (.t 4) (.t 17), []⟩, ⟨(some 5), none, .mv (.k (.int .i64 0)), []⟩])
   (.ret)) (.skip)))
  (.seq (.seq (.reg [] [⟨(some 18), none, .mv (.t 0), []⟩, ⟨(some 19), none, .nilchk (.t 18), []⟩, ⟨(some 20), none, .fa 0 (.t 19), []⟩, ⟨(some 21), none, .ld 1 false (.t 20), []⟩, ⟨(some 22), none, .mv (.t 1), []⟩, ⟨(some 23), none, .bi .sub .i64 (.t 22) (.k (.int .i64 1)), []⟩, ⟨(some 24), none, .ia 1 (.t 21) (.t 23), []⟩, ⟨(some 25), none, .ld 1 false (.t 24), []⟩])
  (.block 0 (.seq (.reg [] [⟨(some 27), none, .bi .eql .i64 (.t 25) (.k (.int .i64 1)), []⟩, ⟨(some 26), none, .mv (.t 27), []⟩])
   (.cond (.t 26) (.seq (.reg [] [⟨(some 28), none, .mv (.t 0), []⟩, ⟨(some 29), none, .nilchk (.t 28), []⟩, ⟨(some 30), none, .fa 0 (.t 29), []⟩, ⟨(some 31), none, .ld 1 false (.t 30), []⟩, ⟨(some 32), none, .mv (.t 1), []⟩, ⟨(some 33), none, .bi .sub .i64 (.t 32) (.k (.int .i64 1)), []⟩, ⟨(some 34), none, .ia 1 (.t 31) (.t 33), []⟩, ⟨none, none, .st 1 (.t 34) (.k (.int .i64 2)), []⟩])
    (.seq (.reg [] [⟨(some 35), none, .mv (.t 0), []⟩, ⟨(some 36), none, .nilchk (.t 35), []⟩, ⟨(some 37), none, .fa 1 (.t 36), []⟩, ⟨(some 38), none, .ld 1 false (.t 37), []⟩, ⟨(some 39), none, .mv (.t 1), []⟩, ⟨(some 40), none, .bi .sub .i64 (.t 39) (.k (.int .i64 1)), []⟩, ⟨(some 41), none, .ia 2 (.t 38) (.t 40), []⟩, ⟨(some 42), none, .ld 2 true (.t 41), []⟩, ⟨none, none, .st 2 (.t 4) (.t 42), []⟩, ⟨(some 5), none, .mv (.k (.int .i64 2)), []⟩])
    (.ret))) (.seq (.reg [] [⟨(some 44), none, .bi .eql .i64 (.t 25) (.k (.int .i64 2)), []⟩, ⟨(some 43), none, .mv (.t 44), []⟩])
    (.cond (.t 43) (.seq (.reg [] [⟨(some 45), none, .mv (.t 0), []⟩, ⟨(some 46), none, .nilchk (.t 45), []⟩, ⟨(some 47), none, .fa 0 (.t 46), []⟩, ⟨(some 48), none, .ld 1 false (.t 47), []⟩, ⟨(some 49), none, .mv (.t 1), []⟩, ⟨(some 50), none, .bi .sub .i64 (.t 49) (.k (.int .i64 1)), []⟩, ⟨(some 51), none, .ia 1 (.t 48) (.t 50), []⟩, ⟨none, none, .st 1 (.t 51) (.k (.int .i64 0)), []⟩])
     (.seq (.reg [] [⟨(some 52), none, .mv (.t 0), []⟩, ⟨(some 53), none, .nilchk (.t 52), []⟩, ⟨(some 54), none, .fa 1 (.t 53), []⟩, ⟨(some 55), none, .ld 1 false (.t 54), []⟩, ⟨(some 56), none, .mv (.t 1), []⟩, ⟨(some 57), none, .bi .sub .i64 (.t 56) (.k (.int .i64 1)), []⟩, ⟨(some 58), none, .ia 2 (.t 55) (.t 57), []⟩, ⟨(some 59), none, .ld 2 true (.t 58), []⟩, ⟨none, none, .st 2 (.t 4) (.t 59), []⟩, ⟨(some 5), none, .mv (.k (.int .i64 3)), []⟩])
     (.ret))) (.skip)))))))
  (.seq (.seq (.reg [] [⟨(some 60), none, .mv (.t 0), []⟩, ⟨(some 61), none, .nilchk (.t 60), []⟩, ⟨(some 62), none, .fa 2 (.t 61), []⟩, ⟨(some 63), none, .ld 1 false (.t 62), []⟩, ⟨(some 64), none, .len (.t 63), []⟩, ⟨(some 65), none, .bi .eql .i64 (.t 64) (.k (.int .i64 0)), []⟩])
  (.cond (.t 65) (.seq (.reg [] [⟨(some 66), none, .bld [.str [], .sl .nil 1 []] [], []⟩, ⟨none, none, .st 2 (.t 4) (.t 66), []⟩, ⟨(some 5), none, .mv (.k (.int .i64 0)), []⟩])
   (.ret)) (.skip)))
  (.seq (.reg [0, 1, 2, 3, 4, 5, 6, 7, 8, 9, 10, 11, 12, 13, 14, 15, 16, 17, 18, 19, 20, 21, 22, 23, 24, 25, 26, 27, 28, 29, 30] [⟨(some 67), none, .mv (.t 0), []⟩, ⟨(some 68), none, .nilchk (.t 67), []⟩, ⟨(some 69), none, .fa 0 (.t 68), []⟩, ⟨(some 70), none, .ld 1 false (.t 69), []⟩, ⟨(some 71), none, .mv (.t 1), []⟩, ⟨(some 72), none, .bi .sub .i64 (.t 71) (.k (.int .i64 1)), []⟩, ⟨(some 73), none, .mv (.t 0), []⟩, ⟨(some 74), none, .nilchk (.t 73), []⟩, ⟨(some 75), none, .fa 1 (.t 74), []⟩, ⟨(some 76), none, .ld 1 false (.t 75), []⟩, ⟨(some 77), none, .mv (.t 1), []⟩, ⟨(some 78), none, .bi .sub .i64 (.t 77) (.k (.int .i64 1)), []⟩, ⟨(some 79), none, .mv (.t 0), []⟩, ⟨(some 80), none, .mv (.t 0), []⟩, ⟨(some 81), none, .nilchk (.t 80), []⟩, ⟨(some 82), none, .fa 2 (.t 81), []⟩, ⟨(some 83), none, .ld 1 false (.t 82), []⟩, ⟨(some 84), none, .ia 2 (.t 83) (.k (.int .i64 0)), []⟩, ⟨(some 85), none, .ld 2 true (.t 84), []⟩, ⟨(some 86), none, .mv (.t 0), []⟩, ⟨(some 87), none, .nilchk (.t 86), []⟩, ⟨(some 88), none, .fa 2 (.t 87), []⟩, ⟨(some 89), none, .ld 1 false (.t 88), []⟩, ⟨(some 90), none, .sll 2 (.t 89) (some (.k (.int .i64 1))) none none, []⟩, ⟨(some 91), none, .ia 1 (.t 70) (.t 72), []⟩, ⟨none, none, .st 1 (.t 91) (.k (.int .i64 1)), []⟩, ⟨(some 92), none, .ia 2 (.t 76) (.t 78), []⟩, ⟨none, none, .st 2 (.t 92) (.t 85), []⟩, ⟨(some 93), none, .nilchk (.t 79), []⟩, ⟨(some 94), none, .fa 2 (.t 93), []⟩, ⟨none, none, .st 1 (.t 94) (.t 90), []⟩])
  (.seq (.reg [] [⟨(some 95), none, .mv (.t 0), []⟩, ⟨(some 96), none, .nilchk (.t 95), []⟩, ⟨(some 97), none, .fa 1 (.t 96), []⟩, ⟨(some 98), none, .ld 1 false (.t 97), []⟩, ⟨(some 99), none, .mv (.t 1), []⟩, ⟨(some 100), none, .bi .sub .i64 (.t 99) (.k (.int .i64 1)), []⟩, ⟨(some 101), none, .ia 2 (.t 98) (.t 100), []⟩, ⟨(some 102), none, .ld 2 true (.t 101), []⟩, ⟨none, none, .st 2 (.t 4) (.t 102), []⟩, ⟨(some 5), none, .mv (.k (.int .i64 1)), []⟩])
  (.ret))))))⟩
theorem ck47 : chkFn Try.prog 47 ir47 = true := by kernel_rfl

/-- ( seine crew.Crew).Drop -/
def ir48 : AFn := ⟨7, 1, [], .seq (.reg [] [⟨(some 2), none, .mv (.t 0), []⟩, ⟨(some 3), none, .isnn .p (.t 2), []⟩])
  (.cond (.t 3) (.reg [] [⟨(some 4), none, .mv (.t 0), []⟩, ⟨(some 5), none, .nilchk (.t 4), []⟩, ⟨(some 6), none, .fa 1 (.t 5), []⟩, ⟨none, none, .st 1 (.t 6) (.k (.sl .nil 2 [])), []⟩]) (.skip))⟩
theorem ck48 : chkFn Try.prog 48 ir48 = true := by kernel_rfl

/-- seine seinekeep.SameInts -/
def ir49 : AFn := ⟨26, 2, [.t 4], .seq (.reg [] [⟨(some 4), none, .mv (.k (.bool false)), []⟩])
  (.seq (.seq (.reg [] [⟨(some 6), none, .mv (.t 0), []⟩, ⟨(some 7), none, .len (.t 6), []⟩, ⟨(some 8), none, .mv (.t 1), []⟩, ⟨(some 9), none, .len (.t 8), []⟩, ⟨(some 10), none, .bi .neq .i64 (.t 7) (.t 9), []⟩])
  (.cond (.t 10) (.seq (.reg [] [⟨(some 4), none, .mv (.k (.bool false)), []⟩])
   (.ret)) (.skip)))
  (.seq (.seq (.reg [] [⟨(some 5), none, .mv (.k (.int .i64 0)), []⟩])
  (.block 0 (.loop [0, 1, 5] (.seq (.seq (.reg [] [⟨(some 11), none, .mv (.t 5), []⟩, ⟨(some 12), none, .mv (.t 0), []⟩, ⟨(some 13), none, .len (.t 12), []⟩, ⟨(some 14), none, .bi .lss .i64 (.t 11) (.t 13), []⟩])
    (.cond (.t 14) (.skip) (.exit 0)))
    (.seq (.block 1 (.seq (.reg [0, 1, 2, 3, 4, 5, 6, 7, 8] [⟨(some 17), none, .mv (.t 0), []⟩, ⟨(some 18), none, .mv (.t 5), []⟩, ⟨(some 19), none, .ia 1 (.t 17) (.t 18), []⟩, ⟨(some 20), none, .ld 1 false (.t 19), []⟩, ⟨(some 21), none, .mv (.t 1), []⟩, ⟨(some 22), none, .mv (.t 5), []⟩, ⟨(some 23), none, .ia 1 (.t 21) (.t 22), []⟩, ⟨(some 24), none, .ld 1 false (.t 23), []⟩, ⟨(some 25), none, .bi .neq .i64 (.t 20) (.t 24), []⟩])
     (.cond (.t 25) (.seq (.reg [] [⟨(some 4), none, .mv (.k (.bool false)), []⟩])
      (.ret)) (.skip))))
    (.reg [] [⟨(some 15), none, .mv (.t 5), []⟩, ⟨(some 16), none, .bi .add .i64 (.t 15) (.k (.int .i64 1)), []⟩, ⟨(some 5), none, .mv (.t 16), []⟩]))))))
  (.seq (.reg [] [⟨(some 4), none, .mv (.k (.bool true)), []⟩])
  (.ret))))⟩
theorem ck49 : chkFn Try.prog 49 ir49 = true := by kernel_rfl

/-- ( seine seineref31.Crew).Can -/
def ir50 : AFn := ⟨36, 1, [.t 2], .seq (.reg [] [⟨(some 2), none, .mv (.k (.sl .nil 1 [])), []⟩])
  (.seq (.reg [] [⟨(some 3), none, .mv (.k (.sl .nil 1 [])), []⟩])
  (.seq (.seq (.reg [] [⟨(some 4), none, .mv (.k (.int .i64 1)), []⟩])
  (.block 0 (.loop [0, 3, 4] (.seq (.seq (.reg [] [⟨(some 5), none, .mv (.t 4), []⟩, ⟨(some 6), none, .mv (.t 0), []⟩, ⟨(some 7), none, .nilchk (.t 6), []⟩, ⟨(some 8), none, .fa 0 (.t 7), []⟩, ⟨(some 9), none, .ld 1 false (.t 8), []⟩, ⟨(some 10), none, .len (.t 9), []⟩, ⟨(some 11), none, .bi .leq .i64 (.t 5) (.t 10), []⟩])
    (.cond (.t 11) (.skip) (.exit 0)))
    (.seq (.block 1 (.seq (.reg [] [⟨(some 14), none, .mv (.t 0), []⟩, ⟨(some 15), none, .nilchk (.t 14), []⟩, ⟨(some 16), none, .fa 0 (.t 15), []⟩, ⟨(some 17), none, .ld 1 false (.t 16), []⟩, ⟨(some 18), none, .mv (.t 4), []⟩, ⟨(some 19), none, .bi .sub .i64 (.t 18) (.k (.int .i64 1)), []⟩, ⟨(some 20), none, .ia 1 (.t 17) (.t 19), []⟩, ⟨(some 21), none, .ld 1 false (.t 20), []⟩, ⟨(some 22), none, .bi .gtr .i64 (.t 21) (.k (.int .i64 0)), []⟩, ⟨(some 23), none, .mv (.t 22), []⟩, ⟨(some 24), (some (23, false)), .mv (.t 0), []⟩, ⟨(some 25), (some (23, false)), .nilchk (.t 24), []⟩, ⟨(some 26), (some (23, false)), .fa 2 (.t 25), []⟩, ⟨(some 27), (some (23, false)), .ld 1 false (.t 26), []⟩, ⟨(some 28), (some (23, false)), .len (.t 27), []⟩, ⟨(some 29), (some (23, false)), .bi .gtr .i64 (.t 28) (.k (.int .i64 0)), []⟩, ⟨(some 30), none, .pick (.t 23) (.k (.bool true)) (.t 29), []⟩])
     (.cond (.t 30) (.reg [] [⟨(some 31), none, .mv (.t 3), []⟩, ⟨(some 32), none, .mv (.t 4), []⟩, ⟨(some 33), none, .bls 1 1 [.int .i64 0] [(0, (.t 32))], []⟩, ⟨(some 34), none, .app 1 8 (.t 31) (.t 33), []⟩, ⟨(some 3), none, .mv (.t 34), []⟩]) (.skip))))
    (.reg [] [⟨(some 12), none, .mv (.t 4), []⟩, ⟨(some 13), none, .bi .add .i64 (.t 12) (.k (.int .i64 1)), []⟩, ⟨(some 4), none, .mv (.t 13), []⟩]))))))
  (.seq (.reg [] [⟨(some 35), none, .mv (.t 3), []⟩, ⟨(some 2), none, .mv (.t 35), []⟩])
  (.ret))))⟩
theorem ck50 : chkFn Try.prog 50 ir50 = true := by kernel_rfl

/-- ( seine seineref31.Crew).Busy -/
def ir51 : AFn := ⟨25, 1, [.t 2], .seq (.reg [] [⟨(some 2), none, .mv (.k (.int .i64 0)), []⟩])
  (.seq (.reg [] [⟨(some 3), none, .mv (.k (.int .i64 0)), []⟩])
  (.seq (.seq (.reg [] [⟨(some 4), none, .mv (.k (.int .i64 0)), []⟩])
  (.block 0 (.loop [0, 3, 4] (.seq (.seq (.reg [] [⟨(some 5), none, .mv (.t 4), []⟩, ⟨(some 6), none, .mv (.t 0), []⟩, ⟨(some 7), none, .nilchk (.t 6), []⟩, ⟨(some 8), none, .fa 0 (.t 7), []⟩, ⟨(some 9), none, .ld 1 false (.t 8), []⟩, ⟨(some 10), none, .len (.t 9), []⟩, ⟨(some 11), none, .bi .lss .i64 (.t 5) (.t 10), []⟩])
    (.cond (.t 11) (.skip) (.exit 0)))
    (.seq (.block 1 (.seq (.reg [] [⟨(some 14), none, .mv (.t 0), []⟩, ⟨(some 15), none, .nilchk (.t 14), []⟩, ⟨(some 16), none, .fa 0 (.t 15), []⟩, ⟨(some 17), none, .ld 1 false (.t 16), []⟩, ⟨(some 18), none, .mv (.t 4), []⟩, ⟨(some 19), none, .ia 1 (.t 17) (.t 18), []⟩, ⟨(some 20), none, .ld 1 false (.t 19), []⟩, ⟨(some 21), none, .bi .gtr .i64 (.t 20) (.k (.int .i64 0)), []⟩])
     (.cond (.t 21) (.reg [] [⟨(some 22), none, .mv (.t 3), []⟩, ⟨(some 23), none, .bi .add .i64 (.t 22) (.k (.int .i64 1)), []⟩, ⟨(some 3), none, .mv (.t 23), []⟩]) (.skip))))
    (.reg [] [⟨(some 12), none, .mv (.t 4), []⟩, ⟨(some 13), none, .bi .add .i64 (.t 12) (.k (.int .i64 1)), []⟩, ⟨(some 4), none, .mv (.t 13), []⟩]))))))
  (.seq (.reg [] [⟨(some 24), none, .mv (.t 3), []⟩, ⟨(some 2), none, .mv (.t 24), []⟩])
  (.ret))))⟩
theorem ck51 : chkFn Try.prog 51 ir51 = true := by kernel_rfl

/-- seine batch.once -/
def ir52 : AFn := ⟨25, 1, [.t 2], .seq (.reg [] [⟨(some 2), none, .mv (.k (.sl .nil 2 [])), []⟩])
  (.scope (.seq (.reg [] [⟨(some 7), none, .mkm (.agg [.s, .s]), []⟩, ⟨(some 3), none, .mv (.t 7), []⟩])
  (.seq (.reg [] [⟨(some 4), none, .mv (.k (.sl .nil 2 [])), []⟩])
  (.seq (.skip)
  (.seq (.seq (.reg [] [⟨(some 8), none, .mv (.t 0), []⟩, ⟨(some 9), none, .len (.t 8), []⟩, ⟨(some 10), none, .mv (.k (.int .i64 0)), []⟩])
  (.block 0 (.loop [3, 4, 8, 9, 10] (.seq (.reg [] [⟨(some 11), none, .bi .lss .i64 (.t 10) (.t 9), []⟩])
    (.seq (.cond (.t 11) (.skip) (.exit 0))
    (.seq (.block 1 (.seq (.reg [] [⟨(some 12), none, .ia 2 (.t 8) (.t 10), []⟩, ⟨(some 13), none, .ld 2 true (.t 12), []⟩, ⟨(some 6), none, .alloc [.str [], .str []], []⟩, ⟨none, none, .st 2 (.t 6) (.t 13), []⟩])
     (.seq (.seq (.reg [] [⟨(some 14), none, .mv (.t 3), []⟩, ⟨(some 15), none, .ld 2 true (.t 6), []⟩, ⟨(some 16), none, .lkp (.agg [.s, .s]) (.bool false) false (.t 14) (.t 15), []⟩])
     (.cond (.t 16) (.exit 1) (.skip)))
     (.seq (.reg [] [⟨(some 17), none, .mv (.t 3), []⟩, ⟨(some 18), none, .ld 2 true (.t 6), []⟩, ⟨none, none, .mup (.agg [.s, .s]) (.t 17) (.t 18) (.k (.bool true)), []⟩])
     (.reg [] [⟨(some 19), none, .mv (.t 4), []⟩, ⟨(some 20), none, .ld 2 true (.t 6), []⟩, ⟨(some 21), none, .bls 2 1 [.str [], .str []] [(0, (.t 20))], []⟩, ⟨(some 22), none, .app 2 32 (.t 19) (.t 21), []⟩, ⟨(some 4), none, .mv (.t 22), []⟩])))))
    (.reg [] [⟨(some 23), none, .bi .add .i64 (.t 10) (.k (.int .i64 1)), []⟩, ⟨(some 10), none, .mv (.t 23), []⟩])))))))
  (.seq (.reg [] [⟨(some 24), none, .mv (.t 4), []⟩, ⟨(some 2), none, .mv (.t 24), []⟩])
  (.ret)))))))⟩
theorem ck52 : chkFn Try.prog 52 ir52 = true := by kernel_rfl

/-- slices.Chunk   string string  -/
def ir53 : AFn := ⟨9, 2, [.t 4], .seq (.reg [] [⟨(some 2), none, .boxv (.t 0), []⟩, ⟨(some 3), none, .boxv (.t 1), []⟩, ⟨(some 4), none, .mv (.k (.oth .nilFunc)), []⟩])
  (.seq (.seq (.reg [] [⟨(some 5), none, .ld 1 false (.t 3), []⟩, ⟨(some 6), none, .bi .lss .i64 (.t 5) (.k (.int .i64 1)), []⟩])
  (.cond (.t 6) (.reg [] [⟨(some 7), none, .mki 9 (.k (.str [99, 97, 110, 110, 111, 116, 32, 98, 101, 32, 108, 101, 115, 115, 32, 116, 104, 97, 110, 32, 49])), []⟩, ⟨none, none, .pan (.t 7), []⟩]) (.skip)))
  (.seq (.reg [] [⟨(some 8), none, .mkfn 61 [] [(.t 2), (.t 3)], []⟩, ⟨(some 4), none, .mv (.t 8), []⟩])
  (.ret)))⟩
theorem ck53 : chkFn Try.prog 53 ir53 = true := by kernel_rfl

/-- slices.Clone   string string  -/
def ir54 : AFn := ⟨8, 1, [.t 2], .seq (.reg [] [⟨(some 2), none, .mv (.k (.sl .nil 1 [])), []⟩])
  (.seq (.seq (.reg [] [⟨(some 3), none, .mv (.t 0), []⟩, ⟨(some 4), none, .isnil .s (.t 3), []⟩])
  (.cond (.t 4) (.seq (.reg [] [⟨(some 2), none, .mv (.k (.sl .nil 1 [])), []⟩])
   (.ret)) (.skip)))
  (.seq (.reg [] [⟨(some 5), none, .bls 1 0 [.str []] [], []⟩, ⟨(some 6), none, .mv (.t 0), []⟩, ⟨(some 7), none, .app 1 16 (.t 5) (.t 6), []⟩, ⟨(some 2), none, .mv (.t 7), []⟩])
  (.ret)))⟩
theorem ck54 : chkFn Try.prog 54 ir54 = true := by kernel_rfl

/-- slices.Min   int int  -/
def ir55 : AFn := ⟨25, 1, [.t 2], .seq (.reg [] [⟨(some 2), none, .mv (.k (.int .i64 0)), []⟩])
  (.seq (.seq (.reg [] [⟨(some 5), none, .mv (.t 0), []⟩, ⟨(some 6), none, .len (.t 5), []⟩, ⟨(some 7), none, .bi .lss .i64 (.t 6) (.k (.int .i64 1)), []⟩])
  (.cond (.t 7) (.reg [] [⟨(some 8), none, .mki 9 (.k (.str [115, 108, 105, 99, 101, 115, 46, 77, 105, 110, 58, 32, 101, 109, 112, 116, 121, 32, 108, 105, 115, 116])), []⟩, ⟨none, none, .pan (.t 8), []⟩]) (.skip)))
  (.seq (.reg [] [⟨(some 9), none, .mv (.t 0), []⟩, ⟨(some 10), none, .ia 1 (.t 9) (.k (.int .i64 0)), []⟩, ⟨(some 11), none, .ld 1 false (.t 10), []⟩, ⟨(some 3), none, .mv (.t 11), []⟩])
  (.seq (.seq (.reg [] [⟨(some 4), none, .mv (.k (.int .i64 1)), []⟩])
  (.block 0 (.loop [0, 3, 4] (.seq (.seq (.reg [] [⟨(some 12), none, .mv (.t 4), []⟩, ⟨(some 13), none, .mv (.t 0), []⟩, ⟨(some 14), none, .len (.t 13), []⟩, ⟨(some 15), none, .bi .lss .i64 (.t 12) (.t 14), []⟩])
    (.cond (.t 15) (.skip) (.exit 0)))
    (.seq (.block 1 (.reg [] [⟨(some 18), none, .mv (.t 3), []⟩, ⟨(some 19), none, .mv (.t 0), []⟩, ⟨(some 20), none, .mv (.t 4), []⟩, ⟨(some 21), none, .ia 1 (.t 19) (.t 20), []⟩, ⟨(some 22), none, .ld 1 false (.t 21), []⟩, ⟨(some 23), none, .mm false (.t 18) [(.t 22)], []⟩, ⟨(some 3), none, .mv (.t 23), []⟩]))
    (.reg [] [⟨(some 16), none, .mv (.t 4), []⟩, ⟨(some 17), none, .bi .add .i64 (.t 16) (.k (.int .i64 1)), []⟩, ⟨(some 4), none, .mv (.t 17), []⟩]))))))
  (.seq (.reg [] [⟨(some 24), none, .mv (.t 3), []⟩, ⟨(some 2), none, .mv (.t 24), []⟩])
  (.ret)))))⟩
theorem ck55 : chkFn Try.prog 55 ir55 = true := by kernel_rfl

/-- seine seinekeep.Size -/
def ir56 : AFn := ⟨50, 1, [.t 2], .seq (.reg [] [⟨(some 1), none, .boxv (.t 0), []⟩, ⟨(some 2), none, .mv (.k (.int .i64 0)), []⟩])
  (.seq (.reg [] [⟨(some 6), none, .fa 2 (.t 1), []⟩, ⟨(some 7), none, .ld 1 false (.t 6), []⟩, ⟨(some 8), none, .lens (.t 7), []⟩, ⟨(some 9), none, .bi .add .i64 (.k (.int .i64 1)) (.t 8), []⟩, ⟨(some 3), none, .mv (.t 9), []⟩])
  (.seq (.seq (.reg [] [⟨(some 4), none, .mv (.k (.int .i64 0)), []⟩])
  (.block 0 (.loop [1, 3, 4] (.seq (.seq (.reg [] [⟨(some 10), none, .mv (.t 4), []⟩, ⟨(some 11), none, .fa 3 (.t 1), []⟩, ⟨(some 12), none, .ld 1 false (.t 11), []⟩, ⟨(some 13), none, .len (.t 12), []⟩, ⟨(some 14), none, .bi .lss .i64 (.t 10) (.t 13), []⟩])
    (.cond (.t 14) (.skip) (.exit 0)))
    (.seq (.block 1 (.reg [] [⟨(some 17), none, .mv (.t 3), []⟩, ⟨(some 18), none, .fa 3 (.t 1), []⟩, ⟨(some 19), none, .ld 1 false (.t 18), []⟩, ⟨(some 20), none, .mv (.t 4), []⟩, ⟨(some 21), none, .ia 5 (.t 19) (.t 20), []⟩, ⟨(some 22), none, .ld 5 true (.t 21), []⟩, ⟨(some 23), none, .call 56 [(.t 22)], []⟩, ⟨(some 24), none, .bi .add .i64 (.t 17) (.t 23), []⟩, ⟨(some 3), none, .mv (.t 24), []⟩]))
    (.reg [] [⟨(some 15), none, .mv (.t 4), []⟩, ⟨(some 16), none, .bi .add .i64 (.t 15) (.k (.int .i64 1)), []⟩, ⟨(some 4), none, .mv (.t 16), []⟩]))))))
  (.seq (.seq (.reg [] [⟨(some 5), none, .mv (.k (.int .i64 0)), []⟩])
  (.block 2 (.loop [1, 3, 5] (.seq (.seq (.reg [] [⟨(some 25), none, .mv (.t 5), []⟩, ⟨(some 26), none, .fa 4 (.t 1), []⟩, ⟨(some 27), none, .ld 1 false (.t 26), []⟩, ⟨(some 28), none, .len (.t 27), []⟩, ⟨(some 29), none, .bi .lss .i64 (.t 25) (.t 28), []⟩])
    (.cond (.t 29) (.skip) (.exit 2)))
    (.seq (.block 3 (.reg [0, 1, 2, 3, 4, 5, 6, 7, 8, 9, 10, 11, 12, 13, 14, 15, 16, 17] [⟨(some 32), none, .mv (.t 3), []⟩, ⟨(some 33), none, .fa 4 (.t 1), []⟩, ⟨(some 34), none, .ld 1 false (.t 33), []⟩, ⟨(some 35), none, .mv (.t 5), []⟩, ⟨(some 36), none, .ia 6 (.t 34) (.t 35), []⟩, ⟨(some 37), none, .fa 0 (.t 36), []⟩, ⟨(some 38), none, .ld 1 false (.t 37), []⟩, ⟨(some 39), none, .lens (.t 38), []⟩, ⟨(some 40), none, .bi .add .i64 (.t 32) (.t 39), []⟩, ⟨(some 41), none, .fa 4 (.t 1), []⟩, ⟨(some 42), none, .ld 1 false (.t 41), []⟩, ⟨(some 43), none, .mv (.t 5), []⟩, ⟨(some 44), none, .ia 6 (.t 42) (.t 43), []⟩, ⟨(some 45), none, .fa 1 (.t 44), []⟩, ⟨(some 46), none, .ld 5 true (.t 45), []⟩, ⟨(some 47), none, .call 56 [(.t 46)], [2, 6]⟩, ⟨(some 48), none, .bi .add .i64 (.t 40) (.t 47), []⟩, ⟨(some 3), none, .mv (.t 48), []⟩]))
    (.reg [] [⟨(some 30), none, .mv (.t 5), []⟩, ⟨(some 31), none, .bi .add .i64 (.t 30) (.k (.int .i64 1)), []⟩, ⟨(some 5), none, .mv (.t 31), []⟩]))))))
  (.seq (.reg [] [⟨(some 49), none, .mv (.t 3), []⟩, ⟨(some 2), none, .mv (.t 49), []⟩])
  (.ret)))))⟩
theorem ck56 : chkFn Try.prog 56 ir56 = true := by kernel_rfl

/-- seine batch.got -/
def ir57 : AFn := ⟨10, 1, [.c 2 6 true], .seq (.reg [] [⟨(some 1), none, .box (.t 0), []⟩, ⟨(some 2), none, .alloc [.str [], .str [], .sl .nil 6 [], .bool false, .bool false, .int .i64 0], []⟩])
  (.seq (.reg [] [⟨(some 3), none, .fa 0 (.t 1), []⟩, ⟨(some 4), none, .fa 2 (.t 3), []⟩, ⟨(some 5), none, .ld 1 false (.t 4), []⟩, ⟨(some 6), none, .call 62 [(.t 5)], []⟩, ⟨(some 7), none, .fa 0 (.t 1), []⟩, ⟨(some 8), none, .fa 2 (.t 7), []⟩, ⟨none, none, .st 1 (.t 8) (.t 6), []⟩])
  (.seq (.reg [] [⟨(some 9), none, .ld 6 true (.t 1), []⟩, ⟨none, none, .st 6 (.t 2) (.t 9), []⟩])
  (.ret)))⟩
theorem ck57 : chkFn Try.prog 57 ir57 = true := by kernel_rfl

/-- seine seineref27.SameRow -/
def ir58 : AFn := ⟨31, 2, [.t 4], .seq (.reg [] [⟨(some 2), none, .boxv (.t 0), []⟩, ⟨(some 3), none, .boxv (.t 1), []⟩, ⟨(some 4), none, .mv (.k (.bool false)), []⟩])
  (.seq (.reg [] [⟨(some 5), none, .fa 0 (.t 2), []⟩, ⟨(some 6), none, .ld 1 false (.t 5), []⟩, ⟨(some 7), none, .fa 0 (.t 3), []⟩, ⟨(some 8), none, .ld 1 false (.t 7), []⟩, ⟨(some 9), none, .bs .eql (.t 6) (.t 8), []⟩, ⟨(some 10), none, .mv (.t 9), []⟩, ⟨(some 11), (some (10, true)), .fa 1 (.t 2), []⟩, ⟨(some 12), (some (10, true)), .ld 1 false (.t 11), []⟩, ⟨(some 13), (some (10, true)), .fa 1 (.t 3), []⟩, ⟨(some 14), (some (10, true)), .ld 1 false (.t 13), []⟩, ⟨(some 15), (some (10, true)), .bs .eql (.t 12) (.t 14), []⟩, ⟨(some 16), none, .pick (.t 10) (.t 15) (.k (.bool false)), []⟩, ⟨(some 17), none, .mv (.t 16), []⟩, ⟨(some 18), (some (17, true)), .fa 3 (.t 2), []⟩, ⟨(some 19), (some (17, true)), .ld 1 false (.t 18), []⟩, ⟨(some 20), (some (17, true)), .fa 3 (.t 3), []⟩, ⟨(some 21), (some (17, true)), .ld 1 false (.t 20), []⟩, ⟨(some 22), (some (17, true)), .bb false (.t 19) (.t 21), []⟩, ⟨(some 23), none, .pick (.t 17) (.t 22) (.k (.bool false)), []⟩, ⟨(some 24), none, .mv (.t 23), []⟩, ⟨(some 25), (some (24, true)), .fa 2 (.t 2), []⟩, ⟨(some 26), (some (24, true)), .ld 1 false (.t 25), []⟩, ⟨(some 27), (some (24, true)), .fa 2 (.t 3), []⟩, ⟨(some 28), (some (24, true)), .ld 1 false (.t 27), []⟩, ⟨(some 29), (some (24, true)), .call 63 [(.t 26), (.t 28)], []⟩, ⟨(some 30), none, .pick (.t 24) (.t 29) (.k (.bool false)), []⟩, ⟨(some 4), none, .mv (.t 30), []⟩])
  (.ret))⟩
theorem ck58 : chkFn Try.prog 58 ir58 = true := by kernel_rfl

/-- seine crew.batch -/
def ir59 : AFn := ⟨8, 1, [.c 2 2 true], .seq (.reg [] [⟨(some 1), none, .box (.t 0), []⟩, ⟨(some 2), none, .alloc [.str [], .sl .nil 1 []], []⟩])
  (.seq (.reg [] [⟨(some 3), none, .fa 1 (.t 1), []⟩, ⟨(some 4), none, .ld 1 false (.t 3), []⟩, ⟨(some 5), none, .call 54 [(.t 4)], []⟩, ⟨(some 6), none, .fa 1 (.t 1), []⟩, ⟨none, none, .st 1 (.t 6) (.t 5), []⟩])
  (.seq (.reg [] [⟨(some 7), none, .ld 2 true (.t 1), []⟩, ⟨none, none, .st 2 (.t 2) (.t 7), []⟩])
  (.ret)))⟩
theorem ck59 : chkFn Try.prog 59 ir59 = true := by kernel_rfl

/-- ( seine crew.Crew).can -/
def ir60 : AFn := ⟨40, 2, [.t 4], .seq (.reg [] [⟨(some 4), none, .mv (.k (.bool false)), []⟩])
  (.seq (.reg [] [⟨(some 5), none, .mv (.t 0), []⟩, ⟨(some 6), none, .isnn .p (.t 5), []⟩, ⟨(some 7), none, .mv (.t 6), []⟩, ⟨(some 8), (some (7, true)), .mv (.t 1), []⟩, ⟨(some 9), (some (7, true)), .bi .geq .i64 (.t 8) (.k (.int .i64 1)), []⟩, ⟨(some 10), none, .pick (.t 7) (.t 9) (.k (.bool false)), []⟩, ⟨(some 11), none, .mv (.t 10), []⟩, ⟨(some 12), (some (11, true)), .mv (.t 1), []⟩, ⟨(some 13), (some (11, true)), .mv (.t 0), []⟩, ⟨(some 14), (some (11, true)), .nilchk (.t 13), []⟩, ⟨(some 15), (some (11, true)), .fa 0 (.t 14), []⟩, ⟨(some 16), (some (11, true)), .ld 1 false (.t 15), []⟩, ⟨(some 17), (some (11, true)), .len (.t 16), []⟩, ⟨(some 18), (some (11, true)), .bi .leq .i64 (.t 12) (.t 17), []⟩, ⟨(some 19), none, .pick (.t 11) (.t 18) (.k (.bool false)), []⟩, ⟨(some 20), none, .mv (.t 19), []⟩, ⟨(some 21), (some (20, true)), .mv (.t 0), []⟩, ⟨(some 22), (some (20, true)), .nilchk (.t 21), []⟩, ⟨(some 23), (some (20, true)), .fa 0 (.t 22), []⟩, ⟨(some 24), (some (20, true)), .ld 1 false (.t 23), []⟩, ⟨(some 25), (some (20, true)), .mv (.t 1), []⟩, ⟨(some 26), (some (20, true)), .bi .sub .i64 (.t 25) (.k (.int .i64 1)), []⟩, ⟨(some 27), (some (20, true)), .ia 3 (.t 24) (.t 26), []⟩, ⟨(some 28), (some (20, true)), .fa 0 (.t 27), []⟩, ⟨(some 29), (some (20, true)), .ld 1 false (.t 28), []⟩, ⟨(some 30), (some (20, true)), .bi .neq .i64 (.t 29) (.k (.int .i64 0)), []⟩, ⟨(some 31), (some (20, true)), .mv (.t 30), []⟩, ⟨(some 32), (some (31, false)), .mv (.t 0), []⟩, ⟨(some 33), (some (31, false)), .nilchk (.t 32), []⟩, ⟨(some 34), (some (31, false)), .fa 1 (.t 33), []⟩, ⟨(some 35), (some (31, false)), .ld 1 false (.t 34), []⟩, ⟨(some 36), (some (31, false)), .len (.t 35), []⟩, ⟨(some 37), (some (31, false)), .bi .gtr .i64 (.t 36) (.k (.int .i64 0)), []⟩, ⟨(some 38), (some (20, true)), .pick (.t 31) (.k (.bool true)) (.t 37), []⟩, ⟨(some 39), none, .pick (.t 20) (.t 38) (.k (.bool false)), []⟩, ⟨(some 4), none, .mv (.t 39), []⟩])
  (.ret))⟩
theorem ck60 : chkFn Try.prog 60 ir60 = true := by kernel_rfl

/-- slices.Clone   seine api.Member seine api.Member  -/
def ir62 : AFn := ⟨8, 1, [.t 2], .seq (.reg [] [⟨(some 2), none, .mv (.k (.sl .nil 6 [])), []⟩])
  (.seq (.seq (.reg [] [⟨(some 3), none, .mv (.t 0), []⟩, ⟨(some 4), none, .isnil .s (.t 3), []⟩])
  (.cond (.t 4) (.seq (.reg [] [⟨(some 2), none, .mv (.k (.sl .nil 6 [])), []⟩])
   (.ret)) (.skip)))
  (.seq (.reg [] [⟨(some 5), none, .bls 6 0 [.str [], .int .i64 0, .int .i64 0, .str [], .sl .nil 5 [], .sl .nil 6 []] [], []⟩, ⟨(some 6), none, .mv (.t 0), []⟩, ⟨(some 7), none, .app 6 96 (.t 5) (.t 6), []⟩, ⟨(some 2), none, .mv (.t 7), []⟩])
  (.ret)))⟩
theorem ck62 : chkFn Try.prog 62 ir62 = true := by kernel_rfl

/-- seine seineref1.Members -/
def ir63 : AFn := ⟨42, 2, [.t 4], .seq (.reg [] [⟨(some 4), none, .mv (.k (.bool false)), []⟩])
  (.seq (.seq (.reg [] [⟨(some 6), none, .mv (.t 0), []⟩, ⟨(some 7), none, .len (.t 6), []⟩, ⟨(some 8), none, .mv (.t 1), []⟩, ⟨(some 9), none, .len (.t 8), []⟩, ⟨(some 10), none, .bi .neq .i64 (.t 7) (.t 9), []⟩])
  (.cond (.t 10) (.seq (.reg [] [⟨(some 4), none, .mv (.k (.bool false)), []⟩])
   (.ret)) (.skip)))
  (.seq (.seq (.reg [] [⟨(some 5), none, .mv (.k (.int .i64 0)), []⟩])
  (.block 0 (.loop [0, 1, 5] (.seq (.seq (.reg [] [⟨(some 11), none, .mv (.t 5), []⟩, ⟨(some 12), none, .mv (.t 0), []⟩, ⟨(some 13), none, .len (.t 12), []⟩, ⟨(some 14), none, .bi .lss .i64 (.t 11) (.t 13), []⟩])
    (.cond (.t 14) (.skip) (.exit 0)))
    (.seq (.block 1 (.seq (.reg [0, 1, 2, 3, 4, 5, 6, 7, 8, 9, 10, 11, 12, 13, 14, 15, 16, 17, 18, 19, 20, 21, 22, 23, 24] [⟨(some 17), none, .mv (.t 0), []⟩, ⟨(some 18), none, .mv (.t 5), []⟩, ⟨(some 19), none, .ia 6 (.t 17) (.t 18), []⟩, ⟨(some 20), none, .fa 0 (.t 19), []⟩, ⟨(some 21), none, .ld 1 false (.t 20), []⟩, ⟨(some 22), none, .mv (.t 1), []⟩, ⟨(some 23), none, .mv (.t 5), []⟩, ⟨(some 24), none, .ia 6 (.t 22) (.t 23), []⟩, ⟨(some 25), none, .fa 0 (.t 24), []⟩, ⟨(some 26), none, .ld 1 false (.t 25), []⟩, ⟨(some 27), none, .bs .neq (.t 21) (.t 26), []⟩, ⟨(some 28), none, .mv (.t 27), []⟩, ⟨(some 29), (some (28, false)), .mv (.t 0), []⟩, ⟨(some 30), (some (28, false)), .mv (.t 5), []⟩, ⟨(some 31), (some (28, false)), .ia 6 (.t 29) (.t 30), []⟩, ⟨(some 32), (some (28, false)), .fa 1 (.t 31), []⟩, ⟨(some 33), (some (28, false)), .ld 5 true (.t 32), []⟩, ⟨(some 34), (some (28, false)), .mv (.t 1), []⟩, ⟨(some 35), (some (28, false)), .mv (.t 5), []⟩, ⟨(some 36), (some (28, false)), .ia 6 (.t 34) (.t 35), []⟩, ⟨(some 37), (some (28, false)), .fa 1 (.t 36), []⟩, ⟨(some 38), (some (28, false)), .ld 5 true (.t 37), []⟩, ⟨(some 39), (some (28, false)), .call 64 [(.t 33), (.t 38)], []⟩, ⟨(some 40), (some (28, false)), .not (.t 39), []⟩, ⟨(some 41), none, .pick (.t 28) (.k (.bool true)) (.t 40), []⟩])
     (.cond (.t 41) (.seq (.reg [] [⟨(some 4), none, .mv (.k (.bool false)), []⟩])
      (.ret)) (.skip))))
    (.reg [] [⟨(some 15), none, .mv (.t 5), []⟩, ⟨(some 16), none, .bi .add .i64 (.t 15) (.k (.int .i64 1)), []⟩, ⟨(some 5), none, .mv (.t 16), []⟩]))))))
  (.seq (.reg [] [⟨(some 4), none, .mv (.k (.bool true)), []⟩])
  (.ret))))⟩
theorem ck63 : chkFn Try.prog 63 ir63 = true := by kernel_rfl

/-- seine seineref1.Same -/
def ir64 : AFn := ⟨58, 2, [.t 4], .seq (.reg [] [⟨(some 2), none, .boxv (.t 0), []⟩, ⟨(some 3), none, .boxv (.t 1), []⟩, ⟨(some 4), none, .mv (.k (.bool false)), []⟩])
  (.seq (.seq (.reg [] [⟨(some 6), none, .fa 0 (.t 2), []⟩, ⟨(some 7), none, .ld 1 false (.t 6), []⟩, ⟨(some 8), none, .fa 0 (.t 3), []⟩, ⟨(some 9), none, .ld 1 false (.t 8), []⟩, ⟨(some 10), none, .bi .neq .i64 (.t 7) (.t 9), []⟩, ⟨(some 11), none, .mv (.t 10), []⟩, ⟨(some 12), (some (11, false)), .fa 1 (.t 2), []⟩, ⟨(some 13), (some (11, false)), .ld 1 false (.t 12), []⟩, ⟨(some 14), (some (11, false)), .fa 1 (.t 3), []⟩, ⟨(some 15), (some (11, false)), .ld 1 false (.t 14), []⟩, ⟨(some 16), (some (11, false)), .bi .neq .i64 (.t 13) (.t 15), []⟩, ⟨(some 17), none, .pick (.t 11) (.k (.bool true)) (.t 16), []⟩, ⟨(some 18), none, .mv (.t 17), []⟩, ⟨(some 19), (some (18, false)), .fa 2 (.t 2), []⟩, ⟨(some 20), (some (18, false)), .ld 1 false (.t 19), []⟩, ⟨(some 21), (some (18, false)), .fa 2 (.t 3), []⟩, ⟨(some 22), (some (18, false)), .ld 1 false (.t 21), []⟩, ⟨(some 23), (some (18, false)), .bs .neq (.t 20) (.t 22), []⟩, ⟨(some 24), none, .pick (.t 18) (.k (.bool true)) (.t 23), []⟩, ⟨(some 25), none, .mv (.t 24), []⟩, ⟨(some 26), (some (25, false)), .fa 3 (.t 2), []⟩, ⟨(some 27), (some (25, false)), .ld 1 false (.t 26), []⟩, ⟨(some 28), (some (25, false)), .len (.t 27), []⟩, ⟨(some 29), (some (25, false)), .fa 3 (.t 3), []⟩, ⟨(some 30), (some (25, false)), .ld 1 false (.t 29), []⟩, ⟨(some 31), (some (25, false)), .len (.t 30), []⟩, ⟨(some 32), (some (25, false)), .bi .neq .i64 (.t 28) (.t 31), []⟩, ⟨(some 33), none, .pick (.t 25) (.k (.bool true)) (.t 32), []⟩])
  (.cond (.t 33) (.seq (.reg [] [⟨(some 4), none, .mv (.k (.bool false)), []⟩])
   (.ret)) (.skip)))
  (.seq (.seq (.reg [] [⟨(some 5), none, .mv (.k (.int .i64 0)), []⟩])
  (.block 0 (.loop [2, 3, 5] (.seq (.seq (.reg [] [⟨(some 34), none, .mv (.t 5), []⟩, ⟨(some 35), none, .fa 3 (.t 2), []⟩, ⟨(some 36), none, .ld 1 false (.t 35), []⟩, ⟨(some 37), none, .len (.t 36), []⟩, ⟨(some 38), none, .bi .lss .i64 (.t 34) (.t 37), []⟩])
    (.cond (.t 38) (.skip) (.exit 0)))
    (.seq (.block 1 (.seq (.reg [0, 1, 2, 3, 4, 5, 6, 7, 8, 9, 10, 11] [⟨(some 41), none, .fa 3 (.t 2), []⟩, ⟨(some 42), none, .ld 1 false (.t 41), []⟩, ⟨(some 43), none, .mv (.t 5), []⟩, ⟨(some 44), none, .ia 5 (.t 42) (.t 43), []⟩, ⟨(some 45), none, .ld 5 true (.t 44), []⟩, ⟨(some 46), none, .fa 3 (.t 3), []⟩, ⟨(some 47), none, .ld 1 false (.t 46), []⟩, ⟨(some 48), none, .mv (.t 5), []⟩, ⟨(some 49), none, .ia 5 (.t 47) (.t 48), []⟩, ⟨(some 50), none, .ld 5 true (.t 49), []⟩, ⟨(some 51), none, .call 64 [(.t 45), (.t 50)], []⟩, ⟨(some 52), none, .not (.t 51), []⟩])
     (.cond (.t 52) (.seq (.reg [] [⟨(some 4), none, .mv (.k (.bool false)), []⟩])
      (.ret)) (.skip))))
    (.reg [] [⟨(some 39), none, .mv (.t 5), []⟩, ⟨(some 40), none, .bi .add .i64 (.t 39) (.k (.int .i64 1)), []⟩, ⟨(some 5), none, .mv (.t 40), []⟩]))))))
  (.seq (.reg [] [⟨(some 53), none, .fa 4 (.t 2), []⟩, ⟨(some 54), none, .ld 1 false (.t 53), []⟩, ⟨(some 55), none, .fa 4 (.t 3), []⟩, ⟨(some 56), none, .ld 1 false (.t 55), []⟩, ⟨(some 57), none, .call 63 [(.t 54), (.t 56)], []⟩, ⟨(some 4), none, .mv (.t 57), []⟩])
  (.ret))))⟩
theorem ck64 : chkFn Try.prog 64 ir64 = true := by kernel_rfl

end Go.Proofs.Ythkpgjnibolnhaa
