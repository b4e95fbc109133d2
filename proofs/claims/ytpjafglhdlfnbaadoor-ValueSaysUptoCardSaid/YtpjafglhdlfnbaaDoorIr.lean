/- The abstract code of the functions, written by program (irgen.py), each checked against the loaded program by the kernel. -/
import Derived.Test.YtpjafglhdlfnbaaDoorAbsL
import Derived.Test.YtpjafglhdlfnbaaDoorRows
set_option maxRecDepth 100000
namespace Go.Proofs.YtpjafglhdlfnbaaDoor
open Go.Ab

/-- seine seinelaw5.ValueGets -/
def ir3 : AFn := ⟨58, 3, [.t 6], .seq (.reg [] [⟨(some 6), none, .mv (.k (.bool false)), []⟩])
  (.seq (.seq (.reg [] [⟨(some 11), none, .mv (.t 0), []⟩, ⟨(some 12), none, .bld [.int .i64 0, .int .i64 0, .str [], .sl .nil 5 [], .sl .nil 6 []] [(4, 1, (.t 11))], []⟩, ⟨(some 13), none, .call 16 [(.t 12)], []⟩, ⟨(some 14), none, .bi .gtr .i64 (.t 13) (.k (.int .i64 2000)), []⟩, ⟨(some 15), none, .mv (.t 14), []⟩, ⟨(some 16), (some (15, false)), .mv (.t 1), []⟩, ⟨(some 17), (some (15, false)), .lens (.t 16), []⟩, ⟨(some 18), (some (15, false)), .bi .gtr .i64 (.t 17) (.k (.int .i64 2000)), []⟩, ⟨(some 19), none, .pick (.t 15) (.k (.bool true)) (.t 18), []⟩])
  (.cond (.t 19) (.seq (.reg [] [⟨(some 20), none, .call 17 [], []⟩, ⟨(some 6), none, .mv (.t 20), []⟩])
   (.ret)) (.skip)))
  (.seq (.reg [] [⟨(some 22), none, .mv (.t 1), []⟩, ⟨(some 23), none, .mv (.t 0), []⟩, ⟨(some 24), none, .call 18 [(.t 22), (.t 23)], []⟩, ⟨(some 21), none, .mv (.t 24), []⟩, ⟨(some 25), none, .ext (.t 21) 0, []⟩, ⟨(some 26), none, .ext (.t 21) 1, []⟩, ⟨(some 7), none, .alloc [.int .i64 0, .int .i64 0, .str [], .sl .nil 5 [], .sl .nil 6 []], []⟩, ⟨none, none, .st 5 (.t 7) (.t 25), []⟩, ⟨(some 8), none, .mv (.t 26), []⟩])
  (.seq (.reg [] [⟨(some 28), none, .mv (.t 1), []⟩, ⟨(some 29), none, .mv (.t 0), []⟩, ⟨(some 30), none, .call 19 [(.t 28), (.t 29)], []⟩, ⟨(some 27), none, .mv (.t 30), []⟩, ⟨(some 31), none, .ext (.t 27) 0, []⟩, ⟨(some 32), none, .ext (.t 27) 1, []⟩, ⟨(some 9), none, .alloc [.int .i64 0, .int .i64 0, .str [], .sl .nil 5 [], .sl .nil 6 []], []⟩, ⟨none, none, .st 5 (.t 9) (.t 31), []⟩, ⟨(some 10), none, .mv (.t 32), []⟩])
  (.seq (.reg [] [⟨(some 33), none, .mv (.t 8), []⟩, ⟨(some 34), none, .mv (.t 10), []⟩, ⟨(some 35), none, .bb false (.t 33) (.t 34), []⟩, ⟨(some 36), none, .mv (.t 35), []⟩, ⟨(some 37), (some (36, true)), .ld 5 true (.t 7), []⟩, ⟨(some 38), (some (36, true)), .ld 5 true (.t 9), []⟩, ⟨(some 39), (some (36, true)), .call 20 [(.t 37), (.t 38)], []⟩, ⟨(some 40), none, .pick (.t 36) (.t 39) (.k (.bool false)), []⟩, ⟨(some 41), none, .mv (.t 40), []⟩, ⟨(some 42), (some (41, true)), .mv (.t 2), []⟩, ⟨(some 43), (some (41, true)), .call 21 [(.t 42)], []⟩, ⟨(some 44), (some (41, true)), .mv (.t 2), []⟩, ⟨(some 45), (some (41, true)), .call 22 [(.t 44)], []⟩, ⟨(some 46), (some (41, true)), .call 20 [(.t 43), (.t 45)], []⟩, ⟨(some 47), none, .pick (.t 41) (.t 46) (.k (.bool false)), []⟩, ⟨(some 48), none, .mv (.t 47), []⟩, ⟨(some 49), (some (48, true)), .mv (.t 1), []⟩, ⟨(some 50), (some (48, true)), .call 23 [(.t 49)], []⟩, ⟨(some 51), (some (48, true)), .mv (.t 1), []⟩, ⟨(some 52), (some (48, true)), .call 24 [(.t 51)], []⟩, ⟨(some 53), (some (48, true)), .call 20 [(.t 50), (.t 52)], []⟩, ⟨(some 54), none, .pick (.t 48) (.t 53) (.k (.bool false)), []⟩, ⟨(some 55), none, .mv (.t 54), []⟩, ⟨(some 56), (some (55, true)), .call 17 [], []⟩, ⟨(some 57), none, .pick (.t 55) (.t 56) (.k (.bool false)), []⟩, ⟨(some 6), none, .mv (.t 57), []⟩])
  (.ret)))))⟩
theorem ck3 : chkFn Tryd.prog 3 ir3 = true := by kernel_rfl

/-- seine seinelaw5.ValueSames -/
def ir4 : AFn := ⟨39, 2, [.t 4], .seq (.reg [] [⟨(some 2), none, .boxv (.t 0), []⟩, ⟨(some 3), none, .boxv (.t 1), []⟩, ⟨(some 4), none, .mv (.k (.bool false)), []⟩])
  (.seq (.seq (.reg [] [⟨(some 5), none, .ld 5 true (.t 2), []⟩, ⟨(some 6), none, .call 16 [(.t 5)], []⟩, ⟨(some 7), none, .bi .gtr .i64 (.t 6) (.k (.int .i64 2000)), []⟩, ⟨(some 8), none, .mv (.t 7), []⟩, ⟨(some 9), (some (8, false)), .ld 5 true (.t 3), []⟩, ⟨(some 10), (some (8, false)), .call 16 [(.t 9)], []⟩, ⟨(some 11), (some (8, false)), .bi .gtr .i64 (.t 10) (.k (.int .i64 2000)), []⟩, ⟨(some 12), none, .pick (.t 8) (.k (.bool true)) (.t 11), []⟩])
  (.cond (.t 12) (.seq (.reg [] [⟨(some 13), none, .call 17 [], []⟩, ⟨(some 4), none, .mv (.t 13), []⟩])
   (.ret)) (.skip)))
  (.seq (.reg [0, 1, 3, 4, 2, 5, 6, 7, 8, 9, 11, 12, 10, 13, 14, 15, 16, 17, 18, 19, 20, 21, 22, 23, 24, 25] [⟨(some 14), none, .ld 5 true (.t 2), []⟩, ⟨(some 15), none, .ld 5 true (.t 3), []⟩, ⟨(some 17), none, .ld 5 true (.t 2), []⟩, ⟨(some 18), none, .ld 5 true (.t 3), []⟩, ⟨(some 16), none, .call 25 [(.t 14), (.t 15)], [2, 3]⟩, ⟨(some 19), none, .call 20 [(.t 17), (.t 18)], []⟩, ⟨(some 20), none, .bb false (.t 16) (.t 19), []⟩, ⟨(some 21), none, .mv (.t 20), []⟩, ⟨(some 22), (some (21, true)), .ld 5 true (.t 3), []⟩, ⟨(some 23), (some (21, true)), .ld 5 true (.t 2), []⟩, ⟨(some 25), (some (21, true)), .ld 5 true (.t 2), []⟩, ⟨(some 26), (some (21, true)), .ld 5 true (.t 3), []⟩, ⟨(some 24), (some (21, true)), .call 25 [(.t 22), (.t 23)], [10, 11]⟩, ⟨(some 27), (some (21, true)), .call 25 [(.t 25), (.t 26)], []⟩, ⟨(some 28), (some (21, true)), .bb false (.t 24) (.t 27), []⟩, ⟨(some 29), none, .pick (.t 21) (.t 28) (.k (.bool false)), []⟩, ⟨(some 30), none, .mv (.t 29), []⟩, ⟨(some 31), (some (30, true)), .ld 5 true (.t 2), []⟩, ⟨(some 32), (some (30, true)), .ld 5 true (.t 2), []⟩, ⟨(some 33), (some (30, true)), .call 26 [(.t 32)], [17]⟩, ⟨(some 34), (some (30, true)), .call 25 [(.t 31), (.t 33)], []⟩, ⟨(some 35), none, .pick (.t 30) (.t 34) (.k (.bool false)), []⟩, ⟨(some 36), none, .mv (.t 35), []⟩, ⟨(some 37), (some (36, true)), .call 17 [], []⟩, ⟨(some 38), none, .pick (.t 36) (.t 37) (.k (.bool false)), []⟩, ⟨(some 4), none, .mv (.t 38), []⟩])
  (.ret)))⟩
theorem ck4 : chkFn Tryd.prog 4 ir4 = true := by kernel_rfl

/-- seine seinelaw5.ValueUnlike -/
def ir5 : AFn := ⟨71, 2, [.t 4], .seq (.reg [] [⟨(some 2), none, .boxv (.t 0), []⟩, ⟨(some 3), none, .boxv (.t 1), []⟩, ⟨(some 4), none, .mv (.k (.bool false)), []⟩])
  (.seq (.seq (.reg [] [⟨(some 9), none, .ld 5 true (.t 2), []⟩, ⟨(some 10), none, .call 16 [(.t 9)], []⟩, ⟨(some 11), none, .bi .gtr .i64 (.t 10) (.k (.int .i64 2000)), []⟩, ⟨(some 12), none, .mv (.t 11), []⟩, ⟨(some 13), (some (12, false)), .ld 5 true (.t 3), []⟩, ⟨(some 14), (some (12, false)), .call 16 [(.t 13)], []⟩, ⟨(some 15), (some (12, false)), .bi .gtr .i64 (.t 14) (.k (.int .i64 2000)), []⟩, ⟨(some 16), none, .pick (.t 12) (.k (.bool true)) (.t 15), []⟩])
  (.cond (.t 16) (.seq (.reg [] [⟨(some 17), none, .call 17 [], []⟩, ⟨(some 4), none, .mv (.t 17), []⟩])
   (.ret)) (.skip)))
  (.seq (.reg [] [⟨(some 19), none, .ld 5 true (.t 2), []⟩, ⟨(some 20), none, .call 27 [(.t 19)], []⟩, ⟨(some 18), none, .mv (.t 20), []⟩, ⟨(some 21), none, .ext (.t 18) 0, []⟩, ⟨(some 22), none, .ext (.t 18) 1, []⟩, ⟨(some 5), none, .mv (.t 21), []⟩, ⟨(some 6), none, .mv (.t 22), []⟩])
  (.seq (.reg [] [⟨(some 24), none, .ld 5 true (.t 3), []⟩, ⟨(some 25), none, .call 27 [(.t 24)], []⟩, ⟨(some 23), none, .mv (.t 25), []⟩, ⟨(some 26), none, .ext (.t 23) 0, []⟩, ⟨(some 27), none, .ext (.t 23) 1, []⟩, ⟨(some 7), none, .mv (.t 26), []⟩, ⟨(some 8), none, .mv (.t 27), []⟩])
  (.seq (.seq (.reg [] [⟨(some 28), none, .mv (.t 6), []⟩, ⟨(some 29), none, .ld 5 true (.t 2), []⟩, ⟨(some 30), none, .call 28 [(.t 29)], []⟩, ⟨(some 31), none, .bb true (.t 28) (.t 30), []⟩, ⟨(some 32), none, .mv (.t 31), []⟩, ⟨(some 33), (some (32, false)), .mv (.t 8), []⟩, ⟨(some 34), (some (32, false)), .ld 5 true (.t 3), []⟩, ⟨(some 35), (some (32, false)), .call 28 [(.t 34)], []⟩, ⟨(some 36), (some (32, false)), .bb true (.t 33) (.t 35), []⟩, ⟨(some 37), none, .pick (.t 32) (.k (.bool true)) (.t 36), []⟩])
  (.cond (.t 37) (.seq (.reg [] [⟨(some 4), none, .mv (.k (.bool false)), []⟩])
   (.ret)) (.skip)))
  (.seq (.seq (.reg [] [⟨(some 38), none, .mv (.t 6), []⟩, ⟨(some 39), none, .not (.t 38), []⟩, ⟨(some 40), none, .mv (.t 39), []⟩, ⟨(some 41), (some (40, false)), .mv (.t 8), []⟩, ⟨(some 42), (some (40, false)), .not (.t 41), []⟩, ⟨(some 43), none, .pick (.t 40) (.k (.bool true)) (.t 42), []⟩])
  (.cond (.t 43) (.seq (.reg [] [⟨(some 44), none, .mv (.t 6), []⟩, ⟨(some 45), none, .mv (.t 44), []⟩, ⟨(some 46), (some (45, false)), .mv (.t 5), []⟩, ⟨(some 47), (some (45, false)), .len (.t 46), []⟩, ⟨(some 48), (some (45, false)), .bi .eql .i64 (.t 47) (.k (.int .i64 0)), []⟩, ⟨(some 49), none, .pick (.t 45) (.k (.bool true)) (.t 48), []⟩, ⟨(some 50), none, .mv (.t 49), []⟩, ⟨(some 51), (some (50, true)), .mv (.t 8), []⟩, ⟨(some 52), (some (50, true)), .mv (.t 51), []⟩, ⟨(some 53), (some (52, false)), .mv (.t 7), []⟩, ⟨(some 54), (some (52, false)), .len (.t 53), []⟩, ⟨(some 55), (some (52, false)), .bi .eql .i64 (.t 54) (.k (.int .i64 0)), []⟩, ⟨(some 56), (some (50, true)), .pick (.t 52) (.k (.bool true)) (.t 55), []⟩, ⟨(some 57), none, .pick (.t 50) (.t 56) (.k (.bool false)), []⟩, ⟨(some 58), none, .mv (.t 57), []⟩, ⟨(some 59), (some (58, true)), .call 17 [], []⟩, ⟨(some 60), none, .pick (.t 58) (.t 59) (.k (.bool false)), []⟩, ⟨(some 4), none, .mv (.t 60), []⟩])
   (.ret)) (.skip)))
  (.seq (.reg [0, 1, 3, 4, 2, 5, 6, 7, 8, 9, 10] [⟨(some 61), none, .mv (.t 5), []⟩, ⟨(some 62), none, .mv (.t 7), []⟩, ⟨(some 64), none, .ld 5 true (.t 2), []⟩, ⟨(some 65), none, .ld 5 true (.t 3), []⟩, ⟨(some 63), none, .call 29 [(.t 61), (.t 62)], [2, 3]⟩, ⟨(some 66), none, .call 25 [(.t 64), (.t 65)], []⟩, ⟨(some 67), none, .bb false (.t 63) (.t 66), []⟩, ⟨(some 68), none, .mv (.t 67), []⟩, ⟨(some 69), (some (68, true)), .call 17 [], []⟩, ⟨(some 70), none, .pick (.t 68) (.t 69) (.k (.bool false)), []⟩, ⟨(some 4), none, .mv (.t 70), []⟩])
  (.ret)))))))⟩
theorem ck5 : chkFn Tryd.prog 5 ir5 = true := by kernel_rfl

/-- seine seinelaw5.ValueSays -/
def ir6 : AFn := ⟨67, 1, [.t 2], .seq (.reg [] [⟨(some 1), none, .boxv (.t 0), []⟩, ⟨(some 2), none, .mv (.k (.bool false)), []⟩])
  (.seq (.seq (.reg [] [⟨(some 8), none, .ld 5 true (.t 1), []⟩, ⟨(some 9), none, .call 16 [(.t 8)], []⟩, ⟨(some 10), none, .bi .gtr .i64 (.t 9) (.k (.int .i64 2000)), []⟩])
  (.cond (.t 10) (.seq (.reg [] [⟨(some 11), none, .call 17 [], []⟩, ⟨(some 2), none, .mv (.t 11), []⟩])
   (.ret)) (.skip)))
  (.seq (.reg [] [⟨(some 12), none, .ld 5 true (.t 1), []⟩, ⟨(some 13), none, .call 26 [(.t 12)], []⟩, ⟨(some 3), none, .alloc [.int .i64 0, .int .i64 0, .str [], .sl .nil 5 [], .sl .nil 6 []], []⟩, ⟨none, none, .st 5 (.t 3) (.t 13), []⟩])
  (.seq (.reg [] [⟨(some 15), none, .ld 5 true (.t 3), []⟩, ⟨(some 16), none, .call 27 [(.t 15)], []⟩, ⟨(some 14), none, .mv (.t 16), []⟩, ⟨(some 17), none, .ext (.t 14) 0, []⟩, ⟨(some 18), none, .ext (.t 14) 1, []⟩, ⟨(some 4), none, .mv (.t 17), []⟩, ⟨(some 5), none, .mv (.t 18), []⟩])
  (.seq (.reg [] [⟨(some 20), none, .ld 5 true (.t 1), []⟩, ⟨(some 21), none, .call 30 [(.t 20)], []⟩, ⟨(some 19), none, .mv (.t 21), []⟩, ⟨(some 22), none, .ext (.t 19) 0, []⟩, ⟨(some 23), none, .ext (.t 19) 1, []⟩, ⟨(some 6), none, .mv (.t 22), []⟩, ⟨(some 7), none, .mv (.t 23), []⟩])
  (.seq (.seq (.reg [] [⟨(some 24), none, .mv (.t 5), []⟩, ⟨(some 25), none, .mv (.t 7), []⟩, ⟨(some 26), none, .bb true (.t 24) (.t 25), []⟩, ⟨(some 27), none, .mv (.t 26), []⟩, ⟨(some 28), (some (27, false)), .mv (.t 4), []⟩, ⟨(some 29), (some (27, false)), .mv (.t 6), []⟩, ⟨(some 30), (some (27, false)), .call 29 [(.t 28), (.t 29)], []⟩, ⟨(some 31), (some (27, false)), .not (.t 30), []⟩, ⟨(some 32), none, .pick (.t 27) (.k (.bool true)) (.t 31), []⟩])
  (.cond (.t 32) (.seq (.reg [] [⟨(some 2), none, .mv (.k (.bool false)), []⟩])
   (.ret)) (.skip)))
  (.seq (.reg [0, 2, 1, 3, 4, 5, 6, 8, 7, 9, 10, 11, 12, 13, 15, 14, 16, 17, 18, 19, 20, 22, 21, 23, 24, 25, 26, 27, 28, 29, 30, 31, 32, 33, 34] [⟨(some 33), none, .ld 5 true (.t 3), []⟩, ⟨(some 35), none, .ld 5 true (.t 1), []⟩, ⟨(some 34), none, .call 31 [(.t 33)], [1]⟩, ⟨(some 36), none, .call 32 [(.t 35)], []⟩, ⟨(some 37), none, .bb false (.t 34) (.t 36), []⟩, ⟨(some 38), none, .mv (.t 37), []⟩, ⟨(some 39), (some (38, true)), .ld 5 true (.t 3), []⟩, ⟨(some 41), (some (38, true)), .ld 5 true (.t 1), []⟩, ⟨(some 40), (some (38, true)), .call 28 [(.t 39)], [7]⟩, ⟨(some 42), (some (38, true)), .call 33 [(.t 41)], []⟩, ⟨(some 43), (some (38, true)), .bb false (.t 40) (.t 42), []⟩, ⟨(some 44), none, .pick (.t 38) (.t 43) (.k (.bool false)), []⟩, ⟨(some 45), none, .mv (.t 44), []⟩, ⟨(some 46), (some (45, true)), .ld 5 true (.t 3), []⟩, ⟨(some 48), (some (45, true)), .ld 5 true (.t 1), []⟩, ⟨(some 47), (some (45, true)), .call 34 [(.t 46)], [14]⟩, ⟨(some 49), (some (45, true)), .call 35 [(.t 48)], []⟩, ⟨(some 50), (some (45, true)), .bi .eql .i64 (.t 47) (.t 49), []⟩, ⟨(some 51), none, .pick (.t 45) (.t 50) (.k (.bool false)), []⟩, ⟨(some 52), none, .mv (.t 51), []⟩, ⟨(some 53), (some (52, true)), .ld 5 true (.t 3), []⟩, ⟨(some 55), (some (52, true)), .ld 5 true (.t 1), []⟩, ⟨(some 54), (some (52, true)), .call 37 [(.t 53)], [21]⟩, ⟨(some 56), (some (52, true)), .call 38 [(.t 55)], []⟩, ⟨(some 57), (some (52, true)), .call 36 [(.t 54), (.t 56)], []⟩, ⟨(some 58), none, .pick (.t 52) (.t 57) (.k (.bool false)), []⟩, ⟨(some 59), none, .mv (.t 58), []⟩, ⟨(some 60), (some (59, true)), .ld 5 true (.t 3), []⟩, ⟨(some 61), (some (59, true)), .ld 5 true (.t 1), []⟩, ⟨(some 62), (some (59, true)), .call 20 [(.t 60), (.t 61)], []⟩, ⟨(some 63), none, .pick (.t 59) (.t 62) (.k (.bool false)), []⟩, ⟨(some 64), none, .mv (.t 63), []⟩, ⟨(some 65), (some (64, true)), .call 17 [], []⟩, ⟨(some 66), none, .pick (.t 64) (.t 65) (.k (.bool false)), []⟩, ⟨(some 2), none, .mv (.t 66), []⟩])
  (.ret)))))))⟩
theorem ck6 : chkFn Tryd.prog 6 ir6 = true := by kernel_rfl

/-- seine seinelaw5.ValueLists -/
def ir7 : AFn := ⟨90, 1, [.t 2], .seq (.reg [] [⟨(some 2), none, .mv (.k (.bool false)), []⟩])
  (.seq (.reg [] [⟨(some 10), none, .mv (.t 0), []⟩, ⟨(some 11), none, .bld [.int .i64 0, .int .i64 0, .str [], .sl .nil 5 [], .sl .nil 6 []] [(0, 1, (.k (.int .i64 6))), (3, 1, (.t 10))], []⟩, ⟨(some 3), none, .alloc [.int .i64 0, .int .i64 0, .str [], .sl .nil 5 [], .sl .nil 6 []], []⟩, ⟨none, none, .st 5 (.t 3) (.t 11), []⟩])
  (.seq (.seq (.reg [] [⟨(some 12), none, .ld 5 true (.t 3), []⟩, ⟨(some 13), none, .call 16 [(.t 12)], []⟩, ⟨(some 14), none, .bi .gtr .i64 (.t 13) (.k (.int .i64 2000)), []⟩])
  (.cond (.t 14) (.seq (.reg [] [⟨(some 15), none, .call 17 [], []⟩, ⟨(some 2), none, .mv (.t 15), []⟩])
   (.ret)) (.skip)))
  (.seq (.reg [] [⟨(some 4), none, .mv (.k (.bool true)), []⟩, ⟨(some 5), none, .mv (.k (.int .i64 0)), []⟩])
  (.seq (.reg [] [⟨(some 6), none, .mv (.k (.sl .nil 1 [])), []⟩])
  (.seq (.seq (.reg [] [⟨(some 7), none, .mv (.k (.int .i64 0)), []⟩])
  (.block 0 (.loop [0, 3, 4, 5, 6, 7] (.seq (.seq (.reg [] [⟨(some 16), none, .mv (.t 7), []⟩, ⟨(some 17), none, .mv (.t 0), []⟩, ⟨(some 18), none, .len (.t 17), []⟩, ⟨(some 19), none, .bi .lss .i64 (.t 16) (.t 18), []⟩])
    (.cond (.t 19) (.skip) (.exit 0)))
    (.seq (.block 1 (.seq (.reg [] [⟨(some 22), none, .mv (.t 4), []⟩, ⟨(some 23), none, .mv (.t 22), []⟩, ⟨(some 24), (some (23, true)), .mv (.t 0), []⟩, ⟨(some 25), (some (23, true)), .mv (.t 7), []⟩, ⟨(some 26), (some (23, true)), .ia 5 (.t 24) (.t 25), []⟩, ⟨(some 27), (some (23, true)), .ld 5 true (.t 26), []⟩, ⟨(some 28), (some (23, true)), .call 31 [(.t 27)], []⟩, ⟨(some 29), none, .pick (.t 23) (.t 28) (.k (.bool false)), []⟩, ⟨(some 4), none, .mv (.t 29), []⟩])
     (.seq (.reg [] [⟨(some 30), none, .mv (.t 5), []⟩, ⟨(some 31), none, .mv (.t 0), []⟩, ⟨(some 32), none, .mv (.t 7), []⟩, ⟨(some 33), none, .ia 5 (.t 31) (.t 32), []⟩, ⟨(some 34), none, .ld 5 true (.t 33), []⟩, ⟨(some 35), none, .call 34 [(.t 34)], []⟩, ⟨(some 36), none, .mm true (.t 30) [(.t 35)], []⟩, ⟨(some 5), none, .mv (.t 36), []⟩])
     (.seq (.reg [] [⟨(some 37), none, .mv (.t 0), []⟩, ⟨(some 38), none, .mv (.t 7), []⟩, ⟨(some 39), none, .ia 5 (.t 37) (.t 38), []⟩, ⟨(some 40), none, .ld 5 true (.t 39), []⟩, ⟨(some 41), none, .call 37 [(.t 40)], []⟩, ⟨(some 8), none, .mv (.t 41), []⟩])
     (.seq (.reg [] [⟨(some 9), none, .mv (.k (.int .i64 0)), []⟩])
     (.block 2 (.loop [0, 3, 4, 5, 6, 7, 8, 9] (.seq (.seq (.reg [] [⟨(some 42), none, .mv (.t 9), []⟩, ⟨(some 43), none, .mv (.t 8), []⟩, ⟨(some 44), none, .len (.t 43), []⟩, ⟨(some 45), none, .bi .lss .i64 (.t 42) (.t 44), []⟩])
       (.cond (.t 45) (.skip) (.exit 2)))
       (.seq (.block 3 (.seq (.reg [] [⟨(some 48), none, .mv (.t 6), []⟩, ⟨(some 49), none, .mv (.t 8), []⟩, ⟨(some 50), none, .mv (.t 9), []⟩, ⟨(some 51), none, .ia 1 (.t 49) (.t 50), []⟩, ⟨(some 52), none, .ld 1 false (.t 51), []⟩, ⟨(some 53), none, .call 39 [(.t 48), (.t 52)], []⟩, ⟨(some 54), none, .not (.t 53), []⟩])
        (.cond (.t 54) (.reg [] [⟨(some 55), none, .mv (.t 6), []⟩, ⟨(some 56), none, .mv (.t 8), []⟩, ⟨(some 57), none, .mv (.t 9), []⟩, ⟨(some 58), none, .ia 1 (.t 56) (.t 57), []⟩, ⟨(some 59), none, .ld 1 false (.t 58), []⟩, ⟨(some 60), none, .bls 1 1 [.str []] [(0, (.t 59))], []⟩, ⟨(some 61), none, .app 1 16 (.t 55) (.t 60), []⟩, ⟨(some 6), none, .mv (.t 61), []⟩]) (.skip))))
       (.reg [] [⟨(some 46), none, .mv (.t 9), []⟩, ⟨(some 47), none, .bi .add .i64 (.t 46) (.k (.int .i64 1)), []⟩, ⟨(some 9), none, .mv (.t 47), []⟩]))))))))))
    (.reg [] [⟨(some 20), none, .mv (.t 7), []⟩, ⟨(some 21), none, .bi .add .i64 (.t 20) (.k (.int .i64 1)), []⟩, ⟨(some 7), none, .mv (.t 21), []⟩]))))))
  (.seq (.reg [] [⟨(some 62), none, .ld 5 true (.t 3), []⟩, ⟨(some 63), none, .call 31 [(.t 62)], []⟩, ⟨(some 64), none, .mv (.t 4), []⟩, ⟨(some 65), none, .bb false (.t 63) (.t 64), []⟩, ⟨(some 66), none, .mv (.t 65), []⟩, ⟨(some 67), (some (66, true)), .ld 5 true (.t 3), []⟩, ⟨(some 68), (some (66, true)), .call 34 [(.t 67)], []⟩, ⟨(some 69), (some (66, true)), .mv (.t 5), []⟩, ⟨(some 70), (some (66, true)), .bi .add .i64 (.t 69) (.k (.int .i64 1)), []⟩, ⟨(some 71), (some (66, true)), .bi .eql .i64 (.t 68) (.t 70), []⟩, ⟨(some 72), none, .pick (.t 66) (.t 71) (.k (.bool false)), []⟩, ⟨(some 73), none, .mv (.t 72), []⟩, ⟨(some 74), (some (73, true)), .ld 5 true (.t 3), []⟩, ⟨(some 75), (some (73, true)), .call 37 [(.t 74)], []⟩, ⟨(some 76), (some (73, true)), .mv (.t 6), []⟩, ⟨(some 77), (some (73, true)), .call 36 [(.t 75), (.t 76)], []⟩, ⟨(some 78), none, .pick (.t 73) (.t 77) (.k (.bool false)), []⟩, ⟨(some 79), none, .mv (.t 78), []⟩, ⟨(some 80), (some (79, true)), .ld 5 true (.t 3), []⟩, ⟨(some 81), (some (79, true)), .call 28 [(.t 80)], []⟩, ⟨(some 82), (some (79, true)), .not (.t 81), []⟩, ⟨(some 83), (some (79, true)), .mv (.t 82), []⟩, ⟨(some 84), (some (83, false)), .mv (.t 4), []⟩, ⟨(some 85), (some (79, true)), .pick (.t 83) (.k (.bool true)) (.t 84), []⟩, ⟨(some 86), none, .pick (.t 79) (.t 85) (.k (.bool false)), []⟩, ⟨(some 87), none, .mv (.t 86), []⟩, ⟨(some 88), (some (87, true)), .call 17 [], []⟩, ⟨(some 89), none, .pick (.t 87) (.t 88) (.k (.bool false)), []⟩, ⟨(some 2), none, .mv (.t 89), []⟩])
  (.ret)))))))⟩
theorem ck7 : chkFn Tryd.prog 7 ir7 = true := by kernel_rfl

/-- seine seinekeep.Size -/
def ir16 : AFn := ⟨50, 1, [.t 2], .seq (.reg [] [⟨(some 1), none, .boxv (.t 0), []⟩, ⟨(some 2), none, .mv (.k (.int .i64 0)), []⟩])
  (.seq (.reg [] [⟨(some 6), none, .fa 2 (.t 1), []⟩, ⟨(some 7), none, .ld 1 false (.t 6), []⟩, ⟨(some 8), none, .lens (.t 7), []⟩, ⟨(some 9), none, .bi .add .i64 (.k (.int .i64 1)) (.t 8), []⟩, ⟨(some 3), none, .mv (.t 9), []⟩])
  (.seq (.seq (.reg [] [⟨(some 4), none, .mv (.k (.int .i64 0)), []⟩])
  (.block 0 (.loop [1, 3, 4] (.seq (.seq (.reg [] [⟨(some 10), none, .mv (.t 4), []⟩, ⟨(some 11), none, .fa 3 (.t 1), []⟩, ⟨(some 12), none, .ld 1 false (.t 11), []⟩, ⟨(some 13), none, .len (.t 12), []⟩, ⟨(some 14), none, .bi .lss .i64 (.t 10) (.t 13), []⟩])
    (.cond (.t 14) (.skip) (.exit 0)))
    (.seq (.block 1 (.reg [] [⟨(some 17), none, .mv (.t 3), []⟩, ⟨(some 18), none, .fa 3 (.t 1), []⟩, ⟨(some 19), none, .ld 1 false (.t 18), []⟩, ⟨(some 20), none, .mv (.t 4), []⟩, ⟨(some 21), none, .ia 5 (.t 19) (.t 20), []⟩, ⟨(some 22), none, .ld 5 true (.t 21), []⟩, ⟨(some 23), none, .call 16 [(.t 22)], []⟩, ⟨(some 24), none, .bi .add .i64 (.t 17) (.t 23), []⟩, ⟨(some 3), none, .mv (.t 24), []⟩]))
    (.reg [] [⟨(some 15), none, .mv (.t 4), []⟩, ⟨(some 16), none, .bi .add .i64 (.t 15) (.k (.int .i64 1)), []⟩, ⟨(some 4), none, .mv (.t 16), []⟩]))))))
  (.seq (.seq (.reg [] [⟨(some 5), none, .mv (.k (.int .i64 0)), []⟩])
  (.block 2 (.loop [1, 3, 5] (.seq (.seq (.reg [] [⟨(some 25), none, .mv (.t 5), []⟩, ⟨(some 26), none, .fa 4 (.t 1), []⟩, ⟨(some 27), none, .ld 1 false (.t 26), []⟩, ⟨(some 28), none, .len (.t 27), []⟩, ⟨(some 29), none, .bi .lss .i64 (.t 25) (.t 28), []⟩])
    (.cond (.t 29) (.skip) (.exit 2)))
    (.seq (.block 3 (.reg [0, 1, 2, 3, 4, 5, 6, 7, 8, 9, 10, 11, 12, 13, 14, 15, 16, 17] [⟨(some 32), none, .mv (.t 3), []⟩, ⟨(some 33), none, .fa 4 (.t 1), []⟩, ⟨(some 34), none, .ld 1 false (.t 33), []⟩, ⟨(some 35), none, .mv (.t 5), []⟩, ⟨(some 36), none, .ia 6 (.t 34) (.t 35), []⟩, ⟨(some 37), none, .fa 0 (.t 36), []⟩, ⟨(some 38), none, .ld 1 false (.t 37), []⟩, ⟨(some 39), none, .lens (.t 38), []⟩, ⟨(some 40), none, .bi .add .i64 (.t 32) (.t 39), []⟩, ⟨(some 41), none, .fa 4 (.t 1), []⟩, ⟨(some 42), none, .ld 1 false (.t 41), []⟩, ⟨(some 43), none, .mv (.t 5), []⟩, ⟨(some 44), none, .ia 6 (.t 42) (.t 43), []⟩, ⟨(some 45), none, .fa 1 (.t 44), []⟩, ⟨(some 46), none, .ld 5 true (.t 45), []⟩, ⟨(some 47), none, .call 16 [(.t 46)], [2, 6]⟩, ⟨(some 48), none, .bi .add .i64 (.t 40) (.t 47), []⟩, ⟨(some 3), none, .mv (.t 48), []⟩]))
    (.reg [] [⟨(some 30), none, .mv (.t 5), []⟩, ⟨(some 31), none, .bi .add .i64 (.t 30) (.k (.int .i64 1)), []⟩, ⟨(some 5), none, .mv (.t 31), []⟩]))))))
  (.seq (.reg [] [⟨(some 49), none, .mv (.t 3), []⟩, ⟨(some 2), none, .mv (.t 49), []⟩])
  (.ret)))))⟩
theorem ck16 : chkFn Tryd.prog 16 ir16 = true := by kernel_rfl

/-- seine seinelaw5.awake -/
def ir17 : AFn := ⟨40, 0, [.t 0], .seq (.reg [] [⟨(some 0), none, .mv (.k (.bool false)), []⟩])
  (.seq (.reg [] [⟨(some 4), none, .bld [.int .i64 0, .int .i64 0, .str [], .sl .nil 5 [], .sl .nil 6 []] [(0, 1, (.k (.int .i64 2))), (1, 1, (.k (.int .i64 1)))], []⟩, ⟨(some 5), none, .bld [.int .i64 0, .int .i64 0, .str [], .sl .nil 5 [], .sl .nil 6 []] [(0, 1, (.k (.int .i64 8))), (2, 1, (.k (.str [97])))], []⟩, ⟨(some 6), none, .bls 5 2 [.int .i64 0, .int .i64 0, .str [], .sl .nil 5 [], .sl .nil 6 []] [(0, (.t 4)), (1, (.t 5))], []⟩, ⟨(some 7), none, .bld [.int .i64 0, .int .i64 0, .str [], .sl .nil 5 [], .sl .nil 6 []] [(0, 1, (.k (.int .i64 6))), (3, 1, (.t 6))], []⟩, ⟨(some 1), none, .alloc [.int .i64 0, .int .i64 0, .str [], .sl .nil 5 [], .sl .nil 6 []], []⟩, ⟨none, none, .st 5 (.t 1) (.t 7), []⟩])
  (.seq (.reg [] [⟨(some 9), none, .ld 5 true (.t 1), []⟩, ⟨(some 10), none, .call 27 [(.t 9)], []⟩, ⟨(some 8), none, .mv (.t 10), []⟩, ⟨(some 11), none, .ext (.t 8) 0, []⟩, ⟨(some 12), none, .ext (.t 8) 1, []⟩, ⟨(some 2), none, .mv (.t 11), []⟩, ⟨(some 3), none, .mv (.t 12), []⟩])
  (.seq (.reg [] [⟨(some 13), none, .mv (.t 3), []⟩, ⟨(some 14), none, .mv (.t 13), []⟩, ⟨(some 15), (some (14, true)), .mv (.t 2), []⟩, ⟨(some 16), (some (14, true)), .len (.t 15), []⟩, ⟨(some 17), (some (14, true)), .bi .eql .i64 (.t 16) (.k (.int .i64 5)), []⟩, ⟨(some 18), none, .pick (.t 14) (.t 17) (.k (.bool false)), []⟩, ⟨(some 19), none, .mv (.t 18), []⟩, ⟨(some 20), (some (19, true)), .mv (.t 2), []⟩, ⟨(some 21), (some (19, true)), .ia 2 (.t 20) (.k (.int .i64 2)), []⟩, ⟨(some 22), (some (19, true)), .fa 1 (.t 21), []⟩, ⟨(some 23), (some (19, true)), .ld 1 false (.t 22), []⟩, ⟨(some 24), (some (19, true)), .bs .eql (.t 23) (.k (.str [36])), []⟩, ⟨(some 25), none, .pick (.t 19) (.t 24) (.k (.bool false)), []⟩, ⟨(some 26), none, .mv (.t 25), []⟩, ⟨(some 27), (some (26, true)), .ld 5 true (.t 1), []⟩, ⟨(some 28), (some (26, true)), .call 31 [(.t 27)], []⟩, ⟨(some 29), none, .pick (.t 26) (.t 28) (.k (.bool false)), []⟩, ⟨(some 30), none, .mv (.t 29), []⟩, ⟨(some 31), (some (30, true)), .ld 5 true (.t 1), []⟩, ⟨(some 32), (some (30, true)), .call 34 [(.t 31)], []⟩, ⟨(some 33), (some (30, true)), .bi .eql .i64 (.t 32) (.k (.int .i64 1)), []⟩, ⟨(some 34), none, .pick (.t 30) (.t 33) (.k (.bool false)), []⟩, ⟨(some 35), none, .mv (.t 34), []⟩, ⟨(some 36), (some (35, true)), .bld [.int .i64 0, .int .i64 0, .str [], .sl .nil 5 [], .sl .nil 6 []] [(0, 1, (.k (.int .i64 5))), (2, 1, (.k (.str [116, 114, 117, 101])))], []⟩, ⟨(some 37), (some (35, true)), .call 31 [(.t 36)], []⟩, ⟨(some 38), (some (35, true)), .not (.t 37), []⟩, ⟨(some 39), none, .pick (.t 35) (.t 38) (.k (.bool false)), []⟩, ⟨(some 0), none, .mv (.t 39), []⟩])
  (.ret))))⟩
theorem ck17 : chkFn Tryd.prog 17 ir17 = true := by kernel_rfl

/-- seine value.Get -/
def ir18 : AFn := ⟨22, 2, [.c 4 5 true, .t 5], .seq (.reg [] [⟨(some 4), none, .alloc [.int .i64 0, .int .i64 0, .str [], .sl .nil 5 [], .sl .nil 6 []], []⟩, ⟨(some 5), none, .mv (.k (.bool false)), []⟩])
  (.seq (.seq (.reg [] [⟨(some 8), none, .mv (.t 1), []⟩, ⟨(some 9), none, .len (.t 8), []⟩, ⟨(some 10), none, .mv (.k (.int .i64 0)), []⟩])
  (.block 0 (.loop [0, 4, 8, 9, 10] (.seq (.reg [] [⟨(some 11), none, .bi .lss .i64 (.t 10) (.t 9), []⟩])
    (.seq (.cond (.t 11) (.skip) (.exit 0))
    (.seq (.block 1 (.seq (.reg [] [⟨(some 12), none, .ia 6 (.t 8) (.t 10), []⟩, ⟨(some 13), none, .ld 6 true (.t 12), []⟩, ⟨(some 7), none, .alloc [.str [], .int .i64 0, .int .i64 0, .str [], .sl .nil 5 [], .sl .nil 6 []], []⟩, ⟨none, none, .st 6 (.t 7) (.t 13), []⟩])
     (.seq (.reg [] [⟨(some 14), none, .fa 0 (.t 7), []⟩, ⟨(some 15), none, .ld 1 false (.t 14), []⟩, ⟨(some 16), none, .mv (.t 0), []⟩, ⟨(some 17), none, .bs .eql (.t 15) (.t 16), []⟩])
     (.cond (.t 17) (.seq (.reg [] [⟨(some 18), none, .fa 1 (.t 7), []⟩, ⟨(some 19), none, .ld 5 true (.t 18), []⟩, ⟨none, none, .st 5 (.t 4) (.t 19), []⟩, ⟨(some 5), none, .mv (.k (.bool true)), []⟩])
      (.ret)) (.skip)))))
    (.reg [] [⟨(some 20), none, .bi .add .i64 (.t 10) (.k (.int .i64 1)), []⟩, ⟨(some 10), none, .mv (.t 20), []⟩])))))))
  (.seq (.reg [] [⟨(some 21), none, .bld [.int .i64 0, .int .i64 0, .str [], .sl .nil 5 [], .sl .nil 6 []] [], []⟩, ⟨none, none, .st 5 (.t 4) (.t 21), []⟩, ⟨(some 5), none, .mv (.k (.bool false)), []⟩])
  (.ret)))⟩
theorem ck18 : chkFn Tryd.prog 18 ir18 = true := by kernel_rfl

/-- seine seineref1.Get -/
def ir19 : AFn := ⟨26, 2, [.c 4 5 true, .t 5], .seq (.reg [] [⟨(some 4), none, .alloc [.int .i64 0, .int .i64 0, .str [], .sl .nil 5 [], .sl .nil 6 []], []⟩, ⟨(some 5), none, .mv (.k (.bool false)), []⟩])
  (.seq (.seq (.reg [] [⟨(some 6), none, .mv (.k (.int .i64 0)), []⟩])
  (.block 0 (.loop [0, 1, 4, 6] (.seq (.seq (.reg [] [⟨(some 7), none, .mv (.t 6), []⟩, ⟨(some 8), none, .mv (.t 1), []⟩, ⟨(some 9), none, .len (.t 8), []⟩, ⟨(some 10), none, .bi .lss .i64 (.t 7) (.t 9), []⟩])
    (.cond (.t 10) (.skip) (.exit 0)))
    (.seq (.block 1 (.seq (.reg [] [⟨(some 13), none, .mv (.t 1), []⟩, ⟨(some 14), none, .mv (.t 6), []⟩, ⟨(some 15), none, .ia 6 (.t 13) (.t 14), []⟩, ⟨(some 16), none, .fa 0 (.t 15), []⟩, ⟨(some 17), none, .ld 1 false (.t 16), []⟩, ⟨(some 18), none, .mv (.t 0), []⟩, ⟨(some 19), none, .bs .eql (.t 17) (.t 18), []⟩])
     (.cond (.t 19) (.seq (.reg [] [⟨(some 20), none, .mv (.t 1), []⟩, ⟨(some 21), none, .mv (.t 6), []⟩, ⟨(some 22), none, .ia 6 (.t 20) (.t 21), []⟩, ⟨(some 23), none, .fa 1 (.t 22), []⟩, ⟨(some 24), none, .ld 5 true (.t 23), []⟩, ⟨none, none, .st 5 (.t 4) (.t 24), []⟩, ⟨(some 5), none, .mv (.k (.bool true)), []⟩])
      (.ret)) (.skip))))
    (.reg [] [⟨(some 11), none, .mv (.t 6), []⟩, ⟨(some 12), none, .bi .add .i64 (.t 11) (.k (.int .i64 1)), []⟩, ⟨(some 6), none, .mv (.t 12), []⟩]))))))
  (.seq (.reg [] [⟨(some 25), none, .bld [.int .i64 0, .int .i64 0, .str [], .sl .nil 5 [], .sl .nil 6 []] [], []⟩, ⟨none, none, .st 5 (.t 4) (.t 25), []⟩, ⟨(some 5), none, .mv (.k (.bool false)), []⟩])
  (.ret)))⟩
theorem ck19 : chkFn Tryd.prog 19 ir19 = true := by kernel_rfl

/-- seine seineref1.Same -/
def ir20 : AFn := ⟨58, 2, [.t 4], .seq (.reg [] [⟨(some 2), none, .boxv (.t 0), []⟩, ⟨(some 3), none, .boxv (.t 1), []⟩, ⟨(some 4), none, .mv (.k (.bool false)), []⟩])
  (.seq (.seq (.reg [] [⟨(some 6), none, .fa 0 (.t 2), []⟩, ⟨(some 7), none, .ld 1 false (.t 6), []⟩, ⟨(some 8), none, .fa 0 (.t 3), []⟩, ⟨(some 9), none, .ld 1 false (.t 8), []⟩, ⟨(some 10), none, .bi .neq .i64 (.t 7) (.t 9), []⟩, ⟨(some 11), none, .mv (.t 10), []⟩, ⟨(some 12), (some (11, false)), .fa 1 (.t 2), []⟩, ⟨(some 13), (some (11, false)), .ld 1 false (.t 12), []⟩, ⟨(some 14), (some (11, false)), .fa 1 (.t 3), []⟩, ⟨(some 15), (some (11, false)), .ld 1 false (.t 14), []⟩, ⟨(some 16), (some (11, false)), .bi .neq .i64 (.t 13) (.t 15), []⟩, ⟨(some 17), none, .pick (.t 11) (.k (.bool true)) (.t 16), []⟩, ⟨(some 18), none, .mv (.t 17), []⟩, ⟨(some 19), (some (18, false)), .fa 2 (.t 2), []⟩, ⟨(some 20), (some (18, false)), .ld 1 false (.t 19), []⟩, ⟨(some 21), (some (18, false)), .fa 2 (.t 3), []⟩, ⟨(some 22), (some (18, false)), .ld 1 false (.t 21), []⟩, ⟨(some 23), (some (18, false)), .bs .neq (.t 20) (.t 22), []⟩, ⟨(some 24), none, .pick (.t 18) (.k (.bool true)) (.t 23), []⟩, ⟨(some 25), none, .mv (.t 24), []⟩, ⟨(some 26), (some (25, false)), .fa 3 (.t 2), []⟩, ⟨(some 27), (some (25, false)), .ld 1 false (.t 26), []⟩, ⟨(some 28), (some (25, false)), .len (.t 27), []⟩, ⟨(some 29), (some (25, false)), .fa 3 (.t 3), []⟩, ⟨(some 30), (some (25, false)), .ld 1 false (.t 29), []⟩, ⟨(some 31), (some (25, false)), .len (.t 30), []⟩, ⟨(some 32), (some (25, false)), .bi .neq .i64 (.t 28) (.t 31), []⟩, ⟨(some 33), none, .pick (.t 25) (.k (.bool true)) (.t 32), []⟩])
  (.cond (.t 33) (.seq (.reg [] [⟨(some 4), none, .mv (.k (.bool false)), []⟩])
   (.ret)) (.skip)))
  (.seq (.seq (.reg [] [⟨(some 5), none, .mv (.k (.int .i64 0)), []⟩])
  (.block 0 (.loop [2, 3, 5] (.seq (.seq (.reg [] [⟨(some 34), none, .mv (.t 5), []⟩, ⟨(some 35), none, .fa 3 (.t 2), []⟩, ⟨(some 36), none, .ld 1 false (.t 35), []⟩, ⟨(some 37), none, .len (.t 36), []⟩, ⟨(some 38), none, .bi .lss .i64 (.t 34) (.t 37), []⟩])
    (.cond (.t 38) (.skip) (.exit 0)))
    (.seq (.block 1 (.seq (.reg [0, 1, 2, 3, 4, 5, 6, 7, 8, 9, 10, 11] [⟨(some 41), none, .fa 3 (.t 2), []⟩, ⟨(some 42), none, .ld 1 false (.t 41), []⟩, ⟨(some 43), none, .mv (.t 5), []⟩, ⟨(some 44), none, .ia 5 (.t 42) (.t 43), []⟩, ⟨(some 45), none, .ld 5 true (.t 44), []⟩, ⟨(some 46), none, .fa 3 (.t 3), []⟩, ⟨(some 47), none, .ld 1 false (.t 46), []⟩, ⟨(some 48), none, .mv (.t 5), []⟩, ⟨(some 49), none, .ia 5 (.t 47) (.t 48), []⟩, ⟨(some 50), none, .ld 5 true (.t 49), []⟩, ⟨(some 51), none, .call 20 [(.t 45), (.t 50)], []⟩, ⟨(some 52), none, .not (.t 51), []⟩])
     (.cond (.t 52) (.seq (.reg [] [⟨(some 4), none, .mv (.k (.bool false)), []⟩])
      (.ret)) (.skip))))
    (.reg [] [⟨(some 39), none, .mv (.t 5), []⟩, ⟨(some 40), none, .bi .add .i64 (.t 39) (.k (.int .i64 1)), []⟩, ⟨(some 5), none, .mv (.t 40), []⟩]))))))
  (.seq (.reg [] [⟨(some 53), none, .fa 4 (.t 2), []⟩, ⟨(some 54), none, .ld 1 false (.t 53), []⟩, ⟨(some 55), none, .fa 4 (.t 3), []⟩, ⟨(some 56), none, .ld 1 false (.t 55), []⟩, ⟨(some 57), none, .call 51 [(.t 54), (.t 56)], []⟩, ⟨(some 4), none, .mv (.t 57), []⟩])
  (.ret))))⟩
theorem ck20 : chkFn Tryd.prog 20 ir20 = true := by kernel_rfl

/-- seine value.Int -/
def ir21 : AFn := ⟨5, 1, [.c 2 5 true], .seq (.reg [] [⟨(some 2), none, .alloc [.int .i64 0, .int .i64 0, .str [], .sl .nil 5 [], .sl .nil 6 []], []⟩])
  (.seq (.reg [] [⟨(some 3), none, .mv (.t 0), []⟩, ⟨(some 4), none, .bld [.int .i64 0, .int .i64 0, .str [], .sl .nil 5 [], .sl .nil 6 []] [(0, 1, (.k (.int .i64 2))), (1, 1, (.t 3))], []⟩, ⟨none, none, .st 5 (.t 2) (.t 4), []⟩])
  (.ret))⟩
theorem ck21 : chkFn Tryd.prog 21 ir21 = true := by kernel_rfl

/-- seine seineref1.Int -/
def ir22 : AFn := ⟨5, 1, [.c 2 5 true], .seq (.reg [] [⟨(some 2), none, .alloc [.int .i64 0, .int .i64 0, .str [], .sl .nil 5 [], .sl .nil 6 []], []⟩])
  (.seq (.reg [] [⟨(some 3), none, .mv (.t 0), []⟩, ⟨(some 4), none, .bld [.int .i64 0, .int .i64 0, .str [], .sl .nil 5 [], .sl .nil 6 []] [(0, 1, (.k (.int .i64 2))), (1, 1, (.t 3))], []⟩, ⟨none, none, .st 5 (.t 2) (.t 4), []⟩])
  (.ret))⟩
theorem ck22 : chkFn Tryd.prog 22 ir22 = true := by kernel_rfl

/-- seine value.Text -/
def ir23 : AFn := ⟨5, 1, [.c 2 5 true], .seq (.reg [] [⟨(some 2), none, .alloc [.int .i64 0, .int .i64 0, .str [], .sl .nil 5 [], .sl .nil 6 []], []⟩])
  (.seq (.reg [] [⟨(some 3), none, .mv (.t 0), []⟩, ⟨(some 4), none, .bld [.int .i64 0, .int .i64 0, .str [], .sl .nil 5 [], .sl .nil 6 []] [(0, 1, (.k (.int .i64 4))), (2, 1, (.t 3))], []⟩, ⟨none, none, .st 5 (.t 2) (.t 4), []⟩])
  (.ret))⟩
theorem ck23 : chkFn Tryd.prog 23 ir23 = true := by kernel_rfl

/-- seine seineref1.Text -/
def ir24 : AFn := ⟨5, 1, [.c 2 5 true], .seq (.reg [] [⟨(some 2), none, .alloc [.int .i64 0, .int .i64 0, .str [], .sl .nil 5 [], .sl .nil 6 []], []⟩])
  (.seq (.reg [] [⟨(some 3), none, .mv (.t 0), []⟩, ⟨(some 4), none, .bld [.int .i64 0, .int .i64 0, .str [], .sl .nil 5 [], .sl .nil 6 []] [(0, 1, (.k (.int .i64 4))), (2, 1, (.t 3))], []⟩, ⟨none, none, .st 5 (.t 2) (.t 4), []⟩])
  (.ret))⟩
theorem ck24 : chkFn Tryd.prog 24 ir24 = true := by kernel_rfl

/-- seine value.Same -/
def ir25 : AFn := ⟨38, 2, [.t 4], .seq (.reg [] [⟨(some 2), none, .boxv (.t 0), []⟩, ⟨(some 3), none, .boxv (.t 1), []⟩, ⟨(some 4), none, .mv (.k (.bool false)), []⟩])
  (.seq (.reg [] [⟨(some 5), none, .fa 0 (.t 2), []⟩, ⟨(some 6), none, .ld 1 false (.t 5), []⟩, ⟨(some 7), none, .fa 0 (.t 3), []⟩, ⟨(some 8), none, .ld 1 false (.t 7), []⟩, ⟨(some 9), none, .bi .eql .i64 (.t 6) (.t 8), []⟩, ⟨(some 10), none, .mv (.t 9), []⟩, ⟨(some 11), (some (10, true)), .fa 1 (.t 2), []⟩, ⟨(some 12), (some (10, true)), .ld 1 false (.t 11), []⟩, ⟨(some 13), (some (10, true)), .fa 1 (.t 3), []⟩, ⟨(some 14), (some (10, true)), .ld 1 false (.t 13), []⟩, ⟨(some 15), (some (10, true)), .bi .eql .i64 (.t 12) (.t 14), []⟩, ⟨(some 16), none, .pick (.t 10) (.t 15) (.k (.bool false)), []⟩, ⟨(some 17), none, .mv (.t 16), []⟩, ⟨(some 18), (some (17, true)), .fa 2 (.t 2), []⟩, ⟨(some 19), (some (17, true)), .ld 1 false (.t 18), []⟩, ⟨(some 20), (some (17, true)), .fa 2 (.t 3), []⟩, ⟨(some 21), (some (17, true)), .ld 1 false (.t 20), []⟩, ⟨(some 22), (some (17, true)), .bs .eql (.t 19) (.t 21), []⟩, ⟨(some 23), none, .pick (.t 17) (.t 22) (.k (.bool false)), []⟩, ⟨(some 24), none, .mv (.t 23), []⟩, ⟨(some 25), (some (24, true)), .fa 3 (.t 2), []⟩, ⟨(some 26), (some (24, true)), .ld 1 false (.t 25), []⟩, ⟨(some 27), (some (24, true)), .fa 3 (.t 3), []⟩, ⟨(some 28), (some (24, true)), .ld 1 false (.t 27), []⟩, ⟨(some 29), (some (24, true)), .call 52 [(.t 26), (.t 28), (.k (.clo 25 [] []))], []⟩, ⟨(some 30), none, .pick (.t 24) (.t 29) (.k (.bool false)), []⟩, ⟨(some 31), none, .mv (.t 30), []⟩, ⟨(some 32), (some (31, true)), .fa 4 (.t 2), []⟩, ⟨(some 33), (some (31, true)), .ld 1 false (.t 32), []⟩, ⟨(some 34), (some (31, true)), .fa 4 (.t 3), []⟩, ⟨(some 35), (some (31, true)), .ld 1 false (.t 34), []⟩, ⟨(some 36), (some (31, true)), .call 53 [(.t 33), (.t 35), (.k (.clo 54 [] []))], []⟩, ⟨(some 37), none, .pick (.t 31) (.t 36) (.k (.bool false)), []⟩, ⟨(some 4), none, .mv (.t 37), []⟩])
  (.ret))⟩
theorem ck25 : chkFn Tryd.prog 25 ir25 = true := by kernel_rfl

/-- seine seinekeep.Value -/
def ir26 : AFn := ⟨28, 1, [.c 2 5 true], .seq (.reg [] [⟨(some 1), none, .box (.t 0), []⟩, ⟨(some 2), none, .alloc [.int .i64 0, .int .i64 0, .str [], .sl .nil 5 [], .sl .nil 6 []], []⟩])
  (.seq (.reg [] [⟨(some 3), none, .mv (.k (.sl .nil 5 [])), []⟩])
  (.seq (.seq (.reg [] [⟨(some 4), none, .mv (.k (.int .i64 0)), []⟩])
  (.block 0 (.loop [1, 2, 3, 4] (.seq (.seq (.reg [] [⟨(some 5), none, .mv (.t 4), []⟩, ⟨(some 6), none, .fa 3 (.t 1), []⟩, ⟨(some 7), none, .ld 1 false (.t 6), []⟩, ⟨(some 8), none, .len (.t 7), []⟩, ⟨(some 9), none, .bi .lss .i64 (.t 5) (.t 8), []⟩])
    (.cond (.t 9) (.skip) (.exit 0)))
    (.seq (.block 1 (.reg [] [⟨(some 12), none, .mv (.t 3), []⟩, ⟨(some 13), none, .fa 3 (.t 1), []⟩, ⟨(some 14), none, .ld 1 false (.t 13), []⟩, ⟨(some 15), none, .mv (.t 4), []⟩, ⟨(some 16), none, .ia 5 (.t 14) (.t 15), []⟩, ⟨(some 17), none, .ld 5 true (.t 16), []⟩, ⟨(some 18), none, .call 26 [(.t 17)], []⟩, ⟨(some 19), none, .bls 5 1 [.int .i64 0, .int .i64 0, .str [], .sl .nil 5 [], .sl .nil 6 []] [(0, (.t 18))], []⟩, ⟨(some 20), none, .app 5 80 (.t 12) (.t 19), []⟩, ⟨(some 3), none, .mv (.t 20), []⟩]))
    (.reg [] [⟨(some 10), none, .mv (.t 4), []⟩, ⟨(some 11), none, .bi .add .i64 (.t 10) (.k (.int .i64 1)), []⟩, ⟨(some 4), none, .mv (.t 11), []⟩]))))))
  (.seq (.reg [] [⟨(some 21), none, .mv (.t 3), []⟩, ⟨(some 22), none, .fa 4 (.t 1), []⟩, ⟨(some 23), none, .ld 1 false (.t 22), []⟩, ⟨(some 24), none, .call 55 [(.t 23)], []⟩, ⟨(some 25), none, .fa 3 (.t 1), []⟩, ⟨none, none, .st 1 (.t 25) (.t 21), []⟩, ⟨(some 26), none, .fa 4 (.t 1), []⟩, ⟨none, none, .st 1 (.t 26) (.t 24), []⟩])
  (.seq (.reg [] [⟨(some 27), none, .ld 5 true (.t 1), []⟩, ⟨none, none, .st 5 (.t 2) (.t 27), []⟩])
  (.ret)))))⟩
theorem ck26 : chkFn Tryd.prog 26 ir26 = true := by kernel_rfl

/-- seine value.Tokens -/
def ir27 : AFn := ⟨9, 1, [.t 2, .t 3], .seq (.reg [] [⟨(some 1), none, .boxv (.t 0), []⟩, ⟨(some 2), none, .mv (.k (.sl .nil 2 [])), []⟩, ⟨(some 3), none, .mv (.k (.bool false)), []⟩])
  (.seq (.seq (.reg [] [⟨(some 4), none, .ld 5 true (.t 1), []⟩, ⟨(some 5), none, .call 28 [(.t 4)], []⟩, ⟨(some 6), none, .not (.t 5), []⟩])
  (.cond (.t 6) (.seq (.reg [] [⟨(some 2), none, .mv (.k (.sl .nil 2 [])), []⟩, ⟨(some 3), none, .mv (.k (.bool false)), []⟩])
   (.ret)) (.skip)))
  (.seq (.reg [] [⟨(some 7), none, .ld 5 true (.t 1), []⟩, ⟨(some 8), none, .call 56 [(.k (.sl .nil 2 [])), (.t 7)], []⟩, ⟨(some 2), none, .mv (.t 8), []⟩, ⟨(some 3), none, .mv (.k (.bool true)), []⟩])
  (.ret)))⟩
theorem ck27 : chkFn Tryd.prog 27 ir27 = true := by kernel_rfl

/-- seine value.Plain -/
def ir28 : AFn := ⟨10, 1, [.t 2], .seq (.reg [] [⟨(some 1), none, .boxv (.t 0), []⟩, ⟨(some 2), none, .mv (.k (.bool false)), []⟩])
  (.seq (.reg [] [⟨(some 3), none, .ld 5 true (.t 1), []⟩, ⟨(some 4), none, .call 57 [(.t 3), (.k (.clo 58 [] []))], []⟩, ⟨(some 5), none, .mv (.t 4), []⟩, ⟨(some 6), (some (5, true)), .ld 5 true (.t 1), []⟩, ⟨(some 7), (some (5, true)), .call 34 [(.t 6)], []⟩, ⟨(some 8), (some (5, true)), .bi .leq .i64 (.t 7) (.k (.int .i64 16)), []⟩, ⟨(some 9), none, .pick (.t 5) (.t 8) (.k (.bool false)), []⟩, ⟨(some 2), none, .mv (.t 9), []⟩])
  (.ret))⟩
theorem ck28 : chkFn Tryd.prog 28 ir28 = true := by kernel_rfl

/-- seine seineref6.SameTokens -/
def ir29 : AFn := ⟨26, 2, [.t 4], .seq (.reg [] [⟨(some 4), none, .mv (.k (.bool false)), []⟩])
  (.seq (.seq (.reg [] [⟨(some 6), none, .mv (.t 0), []⟩, ⟨(some 7), none, .len (.t 6), []⟩, ⟨(some 8), none, .mv (.t 1), []⟩, ⟨(some 9), none, .len (.t 8), []⟩, ⟨(some 10), none, .bi .neq .i64 (.t 7) (.t 9), []⟩])
  (.cond (.t 10) (.seq (.reg [] [⟨(some 4), none, .mv (.k (.bool false)), []⟩])
   (.ret)) (.skip)))
  (.seq (.seq (.reg [] [⟨(some 5), none, .mv (.k (.int .i64 0)), []⟩])
  (.block 0 (.loop [0, 1, 5] (.seq (.seq (.reg [] [⟨(some 11), none, .mv (.t 5), []⟩, ⟨(some 12), none, .mv (.t 0), []⟩, ⟨(some 13), none, .len (.t 12), []⟩, ⟨(some 14), none, .bi .lss .i64 (.t 11) (.t 13), []⟩])
    (.cond (.t 14) (.skip) (.exit 0)))
    (.seq (.block 1 (.seq (.reg [0, 1, 2, 3, 4, 5, 6, 7, 8] [⟨(some 17), none, .mv (.t 0), []⟩, ⟨(some 18), none, .mv (.t 5), []⟩, ⟨(some 19), none, .ia 2 (.t 17) (.t 18), []⟩, ⟨(some 20), none, .ld 2 true (.t 19), []⟩, ⟨(some 21), none, .mv (.t 1), []⟩, ⟨(some 22), none, .mv (.t 5), []⟩, ⟨(some 23), none, .ia 2 (.t 21) (.t 22), []⟩, ⟨(some 24), none, .ld 2 true (.t 23), []⟩, ⟨(some 25), none, .eqa true [(.i .i64), .s] (.t 20) (.t 24), []⟩])
     (.cond (.t 25) (.seq (.reg [] [⟨(some 4), none, .mv (.k (.bool false)), []⟩])
      (.ret)) (.skip))))
    (.reg [] [⟨(some 15), none, .mv (.t 5), []⟩, ⟨(some 16), none, .bi .add .i64 (.t 15) (.k (.int .i64 1)), []⟩, ⟨(some 5), none, .mv (.t 16), []⟩]))))))
  (.seq (.reg [] [⟨(some 4), none, .mv (.k (.bool true)), []⟩])
  (.ret))))⟩
theorem ck29 : chkFn Tryd.prog 29 ir29 = true := by kernel_rfl

/-- seine seineref1.ValueTokens -/
def ir30 : AFn := ⟨9, 1, [.t 2, .t 3], .seq (.reg [] [⟨(some 1), none, .boxv (.t 0), []⟩, ⟨(some 2), none, .mv (.k (.sl .nil 2 [])), []⟩, ⟨(some 3), none, .mv (.k (.bool false)), []⟩])
  (.seq (.seq (.reg [] [⟨(some 4), none, .ld 5 true (.t 1), []⟩, ⟨(some 5), none, .call 33 [(.t 4)], []⟩, ⟨(some 6), none, .not (.t 5), []⟩])
  (.cond (.t 6) (.seq (.reg [] [⟨(some 2), none, .mv (.k (.sl .nil 2 [])), []⟩, ⟨(some 3), none, .mv (.k (.bool false)), []⟩])
   (.ret)) (.skip)))
  (.seq (.reg [] [⟨(some 7), none, .ld 5 true (.t 1), []⟩, ⟨(some 8), none, .call 59 [(.t 7)], []⟩, ⟨(some 2), none, .mv (.t 8), []⟩, ⟨(some 3), none, .mv (.k (.bool true)), []⟩])
  (.ret)))⟩
theorem ck30 : chkFn Tryd.prog 30 ir30 = true := by kernel_rfl

/-- seine value.Good -/
def ir31 : AFn := ⟨5, 1, [.t 2], .seq (.reg [] [⟨(some 1), none, .boxv (.t 0), []⟩, ⟨(some 2), none, .mv (.k (.bool false)), []⟩])
  (.seq (.reg [] [⟨(some 3), none, .ld 5 true (.t 1), []⟩, ⟨(some 4), none, .call 57 [(.t 3), (.k (.clo 46 [] []))], []⟩, ⟨(some 2), none, .mv (.t 4), []⟩])
  (.ret))⟩
theorem ck31 : chkFn Tryd.prog 31 ir31 = true := by kernel_rfl

/-- seine seineref1.GoodValue -/
def ir32 : AFn := ⟨183, 1, [.t 2], .seq (.reg [] [⟨(some 1), none, .boxv (.t 0), []⟩, ⟨(some 2), none, .mv (.k (.bool false)), []⟩])
  (.seq (.seq (.reg [] [⟨(some 8), none, .fa 0 (.t 1), []⟩, ⟨(some 9), none, .ld 1 false (.t 8), []⟩, ⟨(some 10), none, .bi .neq .i64 (.t 9) (.k (.int .i64 1)), []⟩, ⟨(some 11), none, .mv (.t 10), []⟩, ⟨(some 12), (some (11, true)), .fa 0 (.t 1), []⟩, ⟨(some 13), (some (11, true)), .ld 1 false (.t 12), []⟩, ⟨(some 14), (some (11, true)), .bi .neq .i64 (.t 13) (.k (.int .i64 2)), []⟩, ⟨(some 15), none, .pick (.t 11) (.t 14) (.k (.bool false)), []⟩, ⟨(some 16), none, .mv (.t 15), []⟩, ⟨(some 17), (some (16, true)), .fa 1 (.t 1), []⟩, ⟨(some 18), (some (16, true)), .ld 1 false (.t 17), []⟩, ⟨(some 19), (some (16, true)), .bi .neq .i64 (.t 18) (.k (.int .i64 0)), []⟩, ⟨(some 20), none, .pick (.t 16) (.t 19) (.k (.bool false)), []⟩, ⟨(some 21), none, .mv (.t 20), []⟩, ⟨(some 22), (some (21, false)), .fa 0 (.t 1), []⟩, ⟨(some 23), (some (21, false)), .ld 1 false (.t 22), []⟩, ⟨(some 24), (some (21, false)), .bi .neq .i64 (.t 23) (.k (.int .i64 6)), []⟩, ⟨(some 25), (some (21, false)), .mv (.t 24), []⟩, ⟨(some 26), (some (25, true)), .fa 3 (.t 1), []⟩, ⟨(some 27), (some (25, true)), .ld 1 false (.t 26), []⟩, ⟨(some 28), (some (25, true)), .len (.t 27), []⟩, ⟨(some 29), (some (25, true)), .bi .gtr .i64 (.t 28) (.k (.int .i64 0)), []⟩, ⟨(some 30), (some (21, false)), .pick (.t 25) (.t 29) (.k (.bool false)), []⟩, ⟨(some 31), none, .pick (.t 21) (.k (.bool true)) (.t 30), []⟩, ⟨(some 32), none, .mv (.t 31), []⟩, ⟨(some 33), (some (32, false)), .fa 0 (.t 1), []⟩, ⟨(some 34), (some (32, false)), .ld 1 false (.t 33), []⟩, ⟨(some 35), (some (32, false)), .bi .neq .i64 (.t 34) (.k (.int .i64 7)), []⟩, ⟨(some 36), (some (32, false)), .mv (.t 35), []⟩, ⟨(some 37), (some (36, true)), .fa 4 (.t 1), []⟩, ⟨(some 38), (some (36, true)), .ld 1 false (.t 37), []⟩, ⟨(some 39), (some (36, true)), .len (.t 38), []⟩, ⟨(some 40), (some (36, true)), .bi .gtr .i64 (.t 39) (.k (.int .i64 0)), []⟩, ⟨(some 41), (some (32, false)), .pick (.t 36) (.t 40) (.k (.bool false)), []⟩, ⟨(some 42), none, .pick (.t 32) (.k (.bool true)) (.t 41), []⟩])
  (.cond (.t 42) (.seq (.reg [] [⟨(some 2), none, .mv (.k (.bool false)), []⟩])
   (.ret)) (.skip)))
  (.seq (.seq (.reg [] [⟨(some 43), none, .fa 0 (.t 1), []⟩, ⟨(some 44), none, .ld 1 false (.t 43), []⟩, ⟨(some 45), none, .bi .eql .i64 (.t 44) (.k (.int .i64 0)), []⟩, ⟨(some 46), none, .mv (.t 45), []⟩, ⟨(some 47), (some (46, false)), .fa 0 (.t 1), []⟩, ⟨(some 48), (some (46, false)), .ld 1 false (.t 47), []⟩, ⟨(some 49), (some (46, false)), .bi .eql .i64 (.t 48) (.k (.int .i64 1)), []⟩, ⟨(some 50), none, .pick (.t 46) (.k (.bool true)) (.t 49), []⟩, ⟨(some 51), none, .mv (.t 50), []⟩, ⟨(some 52), (some (51, false)), .fa 0 (.t 1), []⟩, ⟨(some 53), (some (51, false)), .ld 1 false (.t 52), []⟩, ⟨(some 54), (some (51, false)), .bi .eql .i64 (.t 53) (.k (.int .i64 2)), []⟩, ⟨(some 55), none, .pick (.t 51) (.k (.bool true)) (.t 54), []⟩, ⟨(some 56), none, .mv (.t 55), []⟩, ⟨(some 57), (some (56, false)), .fa 0 (.t 1), []⟩, ⟨(some 58), (some (56, false)), .ld 1 false (.t 57), []⟩, ⟨(some 59), (some (56, false)), .bi .eql .i64 (.t 58) (.k (.int .i64 6)), []⟩, ⟨(some 60), none, .pick (.t 56) (.k (.bool true)) (.t 59), []⟩, ⟨(some 61), none, .mv (.t 60), []⟩, ⟨(some 62), (some (61, false)), .fa 0 (.t 1), []⟩, ⟨(some 63), (some (61, false)), .ld 1 false (.t 62), []⟩, ⟨(some 64), (some (61, false)), .bi .eql .i64 (.t 63) (.k (.int .i64 7)), []⟩, ⟨(some 65), none, .pick (.t 61) (.k (.bool true)) (.t 64), []⟩, ⟨(some 66), none, .mv (.t 65), []⟩, ⟨(some 67), (some (66, true)), .fa 2 (.t 1), []⟩, ⟨(some 68), (some (66, true)), .ld 1 false (.t 67), []⟩, ⟨(some 69), (some (66, true)), .bs .neq (.t 68) (.k (.str [])), []⟩, ⟨(some 70), none, .pick (.t 66) (.t 69) (.k (.bool false)), []⟩])
  (.cond (.t 70) (.seq (.reg [] [⟨(some 2), none, .mv (.k (.bool false)), []⟩])
   (.ret)) (.skip)))
  (.seq (.seq (.reg [] [⟨(some 71), none, .fa 0 (.t 1), []⟩, ⟨(some 72), none, .ld 1 false (.t 71), []⟩])
  (.block 0 (.seq (.seq (.reg [] [⟨(some 74), none, .bi .eql .i64 (.t 72) (.k (.int .i64 0)), []⟩, ⟨(some 73), none, .mv (.t 74), []⟩])
   (.cond (.t 73) (.skip) (.reg [] [⟨(some 75), none, .bi .eql .i64 (.t 72) (.k (.int .i64 2)), []⟩, ⟨(some 73), none, .mv (.t 75), []⟩])))
   (.cond (.t 73) (.seq (.reg [] [⟨(some 2), none, .mv (.k (.bool true)), []⟩])
    (.ret)) (.seq (.reg [] [⟨(some 77), none, .bi .eql .i64 (.t 72) (.k (.int .i64 1)), []⟩, ⟨(some 76), none, .mv (.t 77), []⟩])
    (.cond (.t 76) (.seq (.reg [] [⟨(some 78), none, .fa 1 (.t 1), []⟩, ⟨(some 79), none, .ld 1 false (.t 78), []⟩, ⟨(some 80), none, .bi .eql .i64 (.t 79) (.k (.int .i64 0)), []⟩, ⟨(some 81), none, .mv (.t 80), []⟩, ⟨(some 82), (some (81, false)), .fa 1 (.t 1), []⟩, ⟨(some 83), (some (81, false)), .ld 1 false (.t 82), []⟩, ⟨(some 84), (some (81, false)), .bi .eql .i64 (.t 83) (.k (.int .i64 1)), []⟩, ⟨(some 85), none, .pick (.t 81) (.k (.bool true)) (.t 84), []⟩, ⟨(some 2), none, .mv (.t 85), []⟩])
     (.ret)) (.seq (.reg [] [⟨(some 87), none, .bi .eql .i64 (.t 72) (.k (.int .i64 3)), []⟩, ⟨(some 86), none, .mv (.t 87), []⟩])
     (.cond (.t 86) (.seq (.reg [] [⟨(some 88), none, .fa 2 (.t 1), []⟩, ⟨(some 89), none, .ld 1 false (.t 88), []⟩, ⟨(some 90), none, .call 60 [(.t 89)], []⟩, ⟨(some 3), none, .mv (.t 90), []⟩])
      (.seq (.seq (.reg [] [⟨(some 91), none, .fa 2 (.t 1), []⟩, ⟨(some 92), none, .ld 1 false (.t 91), []⟩, ⟨(some 93), none, .bs .eql (.t 92) (.k (.str [])), []⟩, ⟨(some 94), none, .mv (.t 93), []⟩, ⟨(some 95), (some (94, false)), .mv (.t 3), []⟩, ⟨(some 96), (some (94, false)), .bi .eql .i64 (.t 95) (.k (.int .i64 0)), []⟩, ⟨(some 97), none, .pick (.t 94) (.k (.bool true)) (.t 96), []⟩])
      (.cond (.t 97) (.seq (.reg [] [⟨(some 2), none, .mv (.k (.bool false)), []⟩])
       (.ret)) (.skip)))
      (.seq (.reg [] [⟨(some 99), none, .fa 2 (.t 1), []⟩, ⟨(some 100), none, .ld 1 false (.t 99), []⟩, ⟨(some 101), none, .call 61 [(.t 100)], []⟩, ⟨(some 98), none, .mv (.t 101), []⟩, ⟨(some 102), none, .ext (.t 98) 0, []⟩, ⟨(some 103), none, .ext (.t 98) 1, []⟩, ⟨(some 4), none, .mv (.t 102), []⟩, ⟨(some 5), none, .mv (.t 103), []⟩])
      (.seq (.reg [] [⟨(some 104), none, .mv (.t 3), []⟩, ⟨(some 105), none, .bi .eql .i64 (.t 104) (.k (.int .i64 4)), []⟩, ⟨(some 106), none, .mv (.t 105), []⟩, ⟨(some 107), (some (106, false)), .mv (.t 5), []⟩, ⟨(some 108), (some (106, false)), .not (.t 107), []⟩, ⟨(some 109), none, .pick (.t 106) (.k (.bool true)) (.t 108), []⟩, ⟨(some 2), none, .mv (.t 109), []⟩])
      (.ret))))) (.seq (.reg [] [⟨(some 111), none, .bi .eql .i64 (.t 72) (.k (.int .i64 4)), []⟩, ⟨(some 110), none, .mv (.t 111), []⟩])
      (.cond (.t 110) (.seq (.reg [] [⟨(some 112), none, .fa 2 (.t 1), []⟩, ⟨(some 113), none, .ld 1 false (.t 112), []⟩, ⟨(some 114), none, .call 62 [(.t 113)], []⟩, ⟨(some 2), none, .mv (.t 114), []⟩])
       (.ret)) (.seq (.reg [] [⟨(some 116), none, .bi .eql .i64 (.t 72) (.k (.int .i64 5)), []⟩, ⟨(some 115), none, .mv (.t 116), []⟩])
       (.cond (.t 115) (.seq (.reg [] [⟨(some 117), none, .fa 2 (.t 1), []⟩, ⟨(some 118), none, .ld 1 false (.t 117), []⟩, ⟨(some 119), none, .call 63 [(.t 118)], []⟩, ⟨(some 120), none, .mv (.t 119), []⟩, ⟨(some 121), (some (120, true)), .fa 2 (.t 1), []⟩, ⟨(some 122), (some (120, true)), .ld 1 false (.t 121), []⟩, ⟨(some 123), (some (120, true)), .bs .neq (.t 122) (.k (.str [116, 114, 117, 101])), []⟩, ⟨(some 124), none, .pick (.t 120) (.t 123) (.k (.bool false)), []⟩, ⟨(some 125), none, .mv (.t 124), []⟩, ⟨(some 126), (some (125, true)), .fa 2 (.t 1), []⟩, ⟨(some 127), (some (125, true)), .ld 1 false (.t 126), []⟩, ⟨(some 128), (some (125, true)), .bs .neq (.t 127) (.k (.str [102, 97, 108, 115, 101])), []⟩, ⟨(some 129), none, .pick (.t 125) (.t 128) (.k (.bool false)), []⟩, ⟨(some 130), none, .mv (.t 129), []⟩, ⟨(some 131), (some (130, true)), .fa 2 (.t 1), []⟩, ⟨(some 132), (some (130, true)), .ld 1 false (.t 131), []⟩, ⟨(some 133), (some (130, true)), .bs .neq (.t 132) (.k (.str [110, 117, 108, 108])), []⟩, ⟨(some 134), none, .pick (.t 130) (.t 133) (.k (.bool false)), []⟩, ⟨(some 2), none, .mv (.t 134), []⟩])
        (.ret)) (.seq (.reg [] [⟨(some 136), none, .bi .eql .i64 (.t 72) (.k (.int .i64 8)), []⟩, ⟨(some 135), none, .mv (.t 136), []⟩])
        (.cond (.t 135) (.seq (.reg [] [⟨(some 137), none, .fa 2 (.t 1), []⟩, ⟨(some 138), none, .ld 1 false (.t 137), []⟩, ⟨(some 139), none, .call 63 [(.t 138)], []⟩, ⟨(some 2), none, .mv (.t 139), []⟩])
         (.ret)) (.seq (.reg [] [⟨(some 141), none, .bi .eql .i64 (.t 72) (.k (.int .i64 6)), []⟩, ⟨(some 140), none, .mv (.t 141), []⟩])
         (.cond (.t 140) (.seq (.seq (.reg [] [⟨(some 6), none, .mv (.k (.int .i64 0)), []⟩])
          (.block 1 (.loop [1, 6] (.seq (.seq (.reg [] [⟨(some 142), none, .mv (.t 6), []⟩, ⟨(some 143), none, .fa 3 (.t 1), []⟩, ⟨(some 144), none, .ld 1 false (.t 143), []⟩, ⟨(some 145), none, .len (.t 144), []⟩, ⟨(some 146), none, .bi .lss .i64 (.t 142) (.t 145), []⟩])
            (.cond (.t 146) (.skip) (.exit 1)))
            (.seq (.block 2 (.seq (.reg [] [⟨(some 149), none, .fa 3 (.t 1), []⟩, ⟨(some 150), none, .ld 1 false (.t 149), []⟩, ⟨(some 151), none, .mv (.t 6), []⟩, ⟨(some 152), none, .ia 5 (.t 150) (.t 151), []⟩, ⟨(some 153), none, .ld 5 true (.t 152), []⟩, ⟨(some 154), none, .call 32 [(.t 153)], []⟩, ⟨(some 155), none, .not (.t 154), []⟩])
             (.cond (.t 155) (.seq (.reg [] [⟨(some 2), none, .mv (.k (.bool false)), []⟩])
              (.ret)) (.skip))))
            (.reg [] [⟨(some 147), none, .mv (.t 6), []⟩, ⟨(some 148), none, .bi .add .i64 (.t 147) (.k (.int .i64 1)), []⟩, ⟨(some 6), none, .mv (.t 148), []⟩]))))))
          (.seq (.reg [] [⟨(some 2), none, .mv (.k (.bool true)), []⟩])
          (.ret))) (.seq (.reg [] [⟨(some 157), none, .bi .eql .i64 (.t 72) (.k (.int .i64 7)), []⟩, ⟨(some 156), none, .mv (.t 157), []⟩])
          (.cond (.t 156) (.seq (.seq (.reg [] [⟨(some 7), none, .mv (.k (.int .i64 0)), []⟩])
           (.block 3 (.loop [1, 7] (.seq (.seq (.reg [] [⟨(some 158), none, .mv (.t 7), []⟩, ⟨(some 159), none, .fa 4 (.t 1), []⟩, ⟨(some 160), none, .ld 1 false (.t 159), []⟩, ⟨(some 161), none, .len (.t 160), []⟩, ⟨(some 162), none, .bi .lss .i64 (.t 158) (.t 161), []⟩])
             (.cond (.t 162) (.skip) (.exit 3)))
             (.seq (.block 4 (.seq (.reg [] [⟨(some 165), none, .fa 4 (.t 1), []⟩, ⟨(some 166), none, .ld 1 false (.t 165), []⟩, ⟨(some 167), none, .mv (.t 7), []⟩, ⟨(some 168), none, .ia 6 (.t 166) (.t 167), []⟩, ⟨(some 169), none, .fa 0 (.t 168), []⟩, ⟨(some 170), none, .ld 1 false (.t 169), []⟩, ⟨(some 171), none, .call 62 [(.t 170)], []⟩, ⟨(some 172), none, .not (.t 171), []⟩, ⟨(some 173), none, .mv (.t 172), []⟩, ⟨(some 174), (some (173, false)), .fa 4 (.t 1), []⟩, ⟨(some 175), (some (173, false)), .ld 1 false (.t 174), []⟩, ⟨(some 176), (some (173, false)), .mv (.t 7), []⟩, ⟨(some 177), (some (173, false)), .ia 6 (.t 175) (.t 176), []⟩, ⟨(some 178), (some (173, false)), .fa 1 (.t 177), []⟩, ⟨(some 179), (some (173, false)), .ld 5 true (.t 178), []⟩, ⟨(some 180), (some (173, false)), .call 32 [(.t 179)], []⟩, ⟨(some 181), (some (173, false)), .not (.t 180), []⟩, ⟨(some 182), none, .pick (.t 173) (.k (.bool true)) (.t 181), []⟩])
              (.cond (.t 182) (.seq (.reg [] [⟨(some 2), none, .mv (.k (.bool false)), []⟩])
               (.ret)) (.skip))))
             (.reg [] [⟨(some 163), none, .mv (.t 7), []⟩, ⟨(some 164), none, .bi .add .i64 (.t 163) (.k (.int .i64 1)), []⟩, ⟨(some 7), none, .mv (.t 164), []⟩]))))))
           (.seq (.reg [] [⟨(some 2), none, .mv (.k (.bool true)), []⟩])
           (.ret))) (.skip)))))))))))))))))))
  (.seq (.reg [] [⟨(some 2), none, .mv (.k (.bool false)), []⟩])
  (.ret)))))⟩
theorem ck32 : chkFn Tryd.prog 32 ir32 = true := by kernel_rfl

/-- seine seineref1.Plain -/
def ir33 : AFn := ⟨14, 1, [.t 2], .seq (.reg [] [⟨(some 1), none, .boxv (.t 0), []⟩, ⟨(some 2), none, .mv (.k (.bool false)), []⟩])
  (.seq (.reg [] [⟨(some 3), none, .ld 5 true (.t 1), []⟩, ⟨(some 4), none, .call 32 [(.t 3)], []⟩, ⟨(some 5), none, .mv (.t 4), []⟩, ⟨(some 6), (some (5, true)), .ld 5 true (.t 1), []⟩, ⟨(some 7), (some (5, true)), .call 35 [(.t 6)], []⟩, ⟨(some 8), (some (5, true)), .bi .leq .i64 (.t 7) (.k (.int .i64 16)), []⟩, ⟨(some 9), none, .pick (.t 5) (.t 8) (.k (.bool false)), []⟩, ⟨(some 10), none, .mv (.t 9), []⟩, ⟨(some 11), (some (10, true)), .ld 5 true (.t 1), []⟩, ⟨(some 12), (some (10, true)), .call 64 [(.t 11)], []⟩, ⟨(some 13), none, .pick (.t 10) (.t 12) (.k (.bool false)), []⟩, ⟨(some 2), none, .mv (.t 13), []⟩])
  (.ret))⟩
theorem ck33 : chkFn Tryd.prog 33 ir33 = true := by kernel_rfl

/-- seine value.Depth -/
def ir34 : AFn := ⟨41, 1, [.t 2], .seq (.reg [] [⟨(some 1), none, .boxv (.t 0), []⟩, ⟨(some 2), none, .mv (.k (.int .i64 0)), []⟩])
  (.seq (.reg [] [⟨(some 3), none, .mv (.k (.int .i64 0)), []⟩])
  (.seq (.seq (.reg [] [⟨(some 8), none, .fa 0 (.t 1), []⟩, ⟨(some 9), none, .ld 1 false (.t 8), []⟩])
  (.block 0 (.seq (.reg [] [⟨(some 11), none, .bi .eql .i64 (.t 9) (.k (.int .i64 6)), []⟩, ⟨(some 10), none, .mv (.t 11), []⟩])
   (.cond (.t 10) (.seq (.reg [] [⟨(some 12), none, .fa 3 (.t 1), []⟩, ⟨(some 13), none, .ld 1 false (.t 12), []⟩, ⟨(some 14), none, .len (.t 13), []⟩, ⟨(some 15), none, .mv (.k (.int .i64 0)), []⟩])
    (.block 1 (.loop [3, 13, 14, 15] (.seq (.reg [] [⟨(some 16), none, .bi .lss .i64 (.t 15) (.t 14), []⟩])
      (.seq (.cond (.t 16) (.skip) (.exit 1))
      (.seq (.block 2 (.seq (.reg [] [⟨(some 17), none, .ia 5 (.t 13) (.t 15), []⟩, ⟨(some 18), none, .ld 5 true (.t 17), []⟩, ⟨(some 5), none, .alloc [.int .i64 0, .int .i64 0, .str [], .sl .nil 5 [], .sl .nil 6 []], []⟩, ⟨none, none, .st 5 (.t 5) (.t 18), []⟩])
       (.reg [] [⟨(some 19), none, .mv (.t 3), []⟩, ⟨(some 20), none, .ld 5 true (.t 5), []⟩, ⟨(some 21), none, .call 34 [(.t 20)], []⟩, ⟨(some 22), none, .mm true (.t 19) [(.t 21)], []⟩, ⟨(some 3), none, .mv (.t 22), []⟩])))
      (.reg [] [⟨(some 23), none, .bi .add .i64 (.t 15) (.k (.int .i64 1)), []⟩, ⟨(some 15), none, .mv (.t 23), []⟩]))))))) (.seq (.reg [] [⟨(some 25), none, .bi .eql .i64 (.t 9) (.k (.int .i64 7)), []⟩, ⟨(some 24), none, .mv (.t 25), []⟩])
    (.cond (.t 24) (.seq (.reg [] [⟨(some 26), none, .fa 4 (.t 1), []⟩, ⟨(some 27), none, .ld 1 false (.t 26), []⟩, ⟨(some 28), none, .len (.t 27), []⟩, ⟨(some 29), none, .mv (.k (.int .i64 0)), []⟩])
     (.block 3 (.loop [3, 27, 28, 29] (.seq (.reg [] [⟨(some 30), none, .bi .lss .i64 (.t 29) (.t 28), []⟩])
       (.seq (.cond (.t 30) (.skip) (.exit 3))
       (.seq (.block 4 (.seq (.reg [] [⟨(some 31), none, .ia 6 (.t 27) (.t 29), []⟩, ⟨(some 32), none, .ld 6 true (.t 31), []⟩, ⟨(some 7), none, .alloc [.str [], .int .i64 0, .int .i64 0, .str [], .sl .nil 5 [], .sl .nil 6 []], []⟩, ⟨none, none, .st 6 (.t 7) (.t 32), []⟩])
        (.reg [] [⟨(some 33), none, .mv (.t 3), []⟩, ⟨(some 34), none, .fa 1 (.t 7), []⟩, ⟨(some 35), none, .ld 5 true (.t 34), []⟩, ⟨(some 36), none, .call 34 [(.t 35)], []⟩, ⟨(some 37), none, .mm true (.t 33) [(.t 36)], []⟩, ⟨(some 3), none, .mv (.t 37), []⟩])))
       (.reg [] [⟨(some 38), none, .bi .add .i64 (.t 29) (.k (.int .i64 1)), []⟩, ⟨(some 29), none, .mv (.t 38), []⟩]))))))) (.seq (.reg [] [⟨(some 2), none, .mv (.k (.int .i64 0)), []⟩])
     (.ret))))))))
  (.seq (.reg [] [⟨(some 39), none, .mv (.t 3), []⟩, ⟨(some 40), none, .bi .add .i64 (.t 39) (.k (.int .i64 1)), []⟩, ⟨(some 2), none, .mv (.t 40), []⟩])
  (.ret))))⟩
theorem ck34 : chkFn Tryd.prog 34 ir34 = true := by kernel_rfl

/-- seine seineref1.Depth -/
def ir35 : AFn := ⟨47, 1, [.t 2], .seq (.reg [] [⟨(some 1), none, .boxv (.t 0), []⟩, ⟨(some 2), none, .mv (.k (.int .i64 0)), []⟩])
  (.seq (.reg [] [⟨(some 3), none, .mv (.k (.int .i64 0)), []⟩])
  (.seq (.seq (.reg [] [⟨(some 6), none, .fa 0 (.t 1), []⟩, ⟨(some 7), none, .ld 1 false (.t 6), []⟩, ⟨(some 8), none, .bi .eql .i64 (.t 7) (.k (.int .i64 6)), []⟩])
  (.cond (.t 8) (.seq (.seq (.reg [] [⟨(some 4), none, .mv (.k (.int .i64 0)), []⟩])
   (.block 0 (.loop [1, 3, 4] (.seq (.seq (.reg [] [⟨(some 9), none, .mv (.t 4), []⟩, ⟨(some 10), none, .fa 3 (.t 1), []⟩, ⟨(some 11), none, .ld 1 false (.t 10), []⟩, ⟨(some 12), none, .len (.t 11), []⟩, ⟨(some 13), none, .bi .lss .i64 (.t 9) (.t 12), []⟩])
     (.cond (.t 13) (.skip) (.exit 0)))
     (.seq (.block 1 (.reg [] [⟨(some 16), none, .mv (.t 3), []⟩, ⟨(some 17), none, .fa 3 (.t 1), []⟩, ⟨(some 18), none, .ld 1 false (.t 17), []⟩, ⟨(some 19), none, .mv (.t 4), []⟩, ⟨(some 20), none, .ia 5 (.t 18) (.t 19), []⟩, ⟨(some 21), none, .ld 5 true (.t 20), []⟩, ⟨(some 22), none, .call 35 [(.t 21)], []⟩, ⟨(some 23), none, .mm true (.t 16) [(.t 22)], []⟩, ⟨(some 3), none, .mv (.t 23), []⟩]))
     (.reg [] [⟨(some 14), none, .mv (.t 4), []⟩, ⟨(some 15), none, .bi .add .i64 (.t 14) (.k (.int .i64 1)), []⟩, ⟨(some 4), none, .mv (.t 15), []⟩]))))))
   (.seq (.reg [] [⟨(some 24), none, .mv (.t 3), []⟩, ⟨(some 25), none, .bi .add .i64 (.t 24) (.k (.int .i64 1)), []⟩, ⟨(some 2), none, .mv (.t 25), []⟩])
   (.ret))) (.skip)))
  (.seq (.seq (.reg [] [⟨(some 26), none, .fa 0 (.t 1), []⟩, ⟨(some 27), none, .ld 1 false (.t 26), []⟩, ⟨(some 28), none, .bi .eql .i64 (.t 27) (.k (.int .i64 7)), []⟩])
  (.cond (.t 28) (.seq (.seq (.reg [] [⟨(some 5), none, .mv (.k (.int .i64 0)), []⟩])
   (.block 2 (.loop [1, 3, 5] (.seq (.seq (.reg [] [⟨(some 29), none, .mv (.t 5), []⟩, ⟨(some 30), none, .fa 4 (.t 1), []⟩, ⟨(some 31), none, .ld 1 false (.t 30), []⟩, ⟨(some 32), none, .len (.t 31), []⟩, ⟨(some 33), none, .bi .lss .i64 (.t 29) (.t 32), []⟩])
     (.cond (.t 33) (.skip) (.exit 2)))
     (.seq (.block 3 (.reg [] [⟨(some 36), none, .mv (.t 3), []⟩, ⟨(some 37), none, .fa 4 (.t 1), []⟩, ⟨(some 38), none, .ld 1 false (.t 37), []⟩, ⟨(some 39), none, .mv (.t 5), []⟩, ⟨(some 40), none, .ia 6 (.t 38) (.t 39), []⟩, ⟨(some 41), none, .fa 1 (.t 40), []⟩, ⟨(some 42), none, .ld 5 true (.t 41), []⟩, ⟨(some 43), none, .call 35 [(.t 42)], []⟩, ⟨(some 44), none, .mm true (.t 36) [(.t 43)], []⟩, ⟨(some 3), none, .mv (.t 44), []⟩]))
     (.reg [] [⟨(some 34), none, .mv (.t 5), []⟩, ⟨(some 35), none, .bi .add .i64 (.t 34) (.k (.int .i64 1)), []⟩, ⟨(some 5), none, .mv (.t 35), []⟩]))))))
   (.seq (.reg [] [⟨(some 45), none, .mv (.t 3), []⟩, ⟨(some 46), none, .bi .add .i64 (.t 45) (.k (.int .i64 1)), []⟩, ⟨(some 2), none, .mv (.t 46), []⟩])
   (.ret))) (.skip)))
  (.seq (.reg [] [⟨(some 2), none, .mv (.k (.int .i64 0)), []⟩])
  (.ret)))))⟩
theorem ck35 : chkFn Tryd.prog 35 ir35 = true := by kernel_rfl

/-- seine seinekeep.SameTexts -/
def ir36 : AFn := ⟨26, 2, [.t 4], .seq (.reg [] [⟨(some 4), none, .mv (.k (.bool false)), []⟩])
  (.seq (.seq (.reg [] [⟨(some 6), none, .mv (.t 0), []⟩, ⟨(some 7), none, .len (.t 6), []⟩, ⟨(some 8), none, .mv (.t 1), []⟩, ⟨(some 9), none, .len (.t 8), []⟩, ⟨(some 10), none, .bi .neq .i64 (.t 7) (.t 9), []⟩])
  (.cond (.t 10) (.seq (.reg [] [⟨(some 4), none, .mv (.k (.bool false)), []⟩])
   (.ret)) (.skip)))
  (.seq (.seq (.reg [] [⟨(some 5), none, .mv (.k (.int .i64 0)), []⟩])
  (.block 0 (.loop [0, 1, 5] (.seq (.seq (.reg [] [⟨(some 11), none, .mv (.t 5), []⟩, ⟨(some 12), none, .mv (.t 0), []⟩, ⟨(some 13), none, .len (.t 12), []⟩, ⟨(some 14), none, .bi .lss .i64 (.t 11) (.t 13), []⟩])
    (.cond (.t 14) (.skip) (.exit 0)))
    (.seq (.block 1 (.seq (.reg [0, 1, 2, 3, 4, 5, 6, 7, 8] [⟨(some 17), none, .mv (.t 0), []⟩, ⟨(some 18), none, .mv (.t 5), []⟩, ⟨(some 19), none, .ia 1 (.t 17) (.t 18), []⟩, ⟨(some 20), none, .ld 1 false (.t 19), []⟩, ⟨(some 21), none, .mv (.t 1), []⟩, ⟨(some 22), none, .mv (.t 5), []⟩, ⟨(some 23), none, .ia 1 (.t 21) (.t 22), []⟩, ⟨(some 24), none, .ld 1 false (.t 23), []⟩, ⟨(some 25), none, .bs .neq (.t 20) (.t 24), []⟩])
     (.cond (.t 25) (.seq (.reg [] [⟨(some 4), none, .mv (.k (.bool false)), []⟩])
      (.ret)) (.skip))))
    (.reg [] [⟨(some 15), none, .mv (.t 5), []⟩, ⟨(some 16), none, .bi .add .i64 (.t 15) (.k (.int .i64 1)), []⟩, ⟨(some 5), none, .mv (.t 16), []⟩]))))))
  (.seq (.reg [] [⟨(some 4), none, .mv (.k (.bool true)), []⟩])
  (.ret))))⟩
theorem ck36 : chkFn Tryd.prog 36 ir36 = true := by kernel_rfl

/-- seine value.Vars -/
def ir37 : AFn := ⟨5, 1, [.t 2], .seq (.reg [] [⟨(some 1), none, .boxv (.t 0), []⟩, ⟨(some 2), none, .mv (.k (.sl .nil 1 [])), []⟩])
  (.seq (.reg [] [⟨(some 3), none, .ld 5 true (.t 1), []⟩, ⟨(some 4), none, .call 65 [(.k (.sl .nil 1 [])), (.t 3)], []⟩, ⟨(some 2), none, .mv (.t 4), []⟩])
  (.ret))⟩
theorem ck37 : chkFn Tryd.prog 37 ir37 = true := by kernel_rfl

/-- seine seineref1.Vars -/
def ir38 : AFn := ⟨5, 1, [.t 2], .seq (.reg [] [⟨(some 1), none, .boxv (.t 0), []⟩, ⟨(some 2), none, .mv (.k (.sl .nil 1 [])), []⟩])
  (.seq (.reg [] [⟨(some 3), none, .ld 5 true (.t 1), []⟩, ⟨(some 4), none, .call 66 [(.t 3), (.k (.sl .nil 1 []))], []⟩, ⟨(some 2), none, .mv (.t 4), []⟩])
  (.ret))⟩
theorem ck38 : chkFn Tryd.prog 38 ir38 = true := by kernel_rfl

/-- seine seineref1.Has -/
def ir39 : AFn := ⟨18, 2, [.t 4], .seq (.reg [] [⟨(some 4), none, .mv (.k (.bool false)), []⟩])
  (.seq (.seq (.reg [] [⟨(some 5), none, .mv (.k (.int .i64 0)), []⟩])
  (.block 0 (.loop [0, 1, 5] (.seq (.seq (.reg [] [⟨(some 6), none, .mv (.t 5), []⟩, ⟨(some 7), none, .mv (.t 0), []⟩, ⟨(some 8), none, .len (.t 7), []⟩, ⟨(some 9), none, .bi .lss .i64 (.t 6) (.t 8), []⟩])
    (.cond (.t 9) (.skip) (.exit 0)))
    (.seq (.block 1 (.seq (.reg [] [⟨(some 12), none, .mv (.t 0), []⟩, ⟨(some 13), none, .mv (.t 5), []⟩, ⟨(some 14), none, .ia 1 (.t 12) (.t 13), []⟩, ⟨(some 15), none, .ld 1 false (.t 14), []⟩, ⟨(some 16), none, .mv (.t 1), []⟩, ⟨(some 17), none, .bs .eql (.t 15) (.t 16), []⟩])
     (.cond (.t 17) (.seq (.reg [] [⟨(some 4), none, .mv (.k (.bool true)), []⟩])
      (.ret)) (.skip))))
    (.reg [] [⟨(some 10), none, .mv (.t 5), []⟩, ⟨(some 11), none, .bi .add .i64 (.t 10) (.k (.int .i64 1)), []⟩, ⟨(some 5), none, .mv (.t 11), []⟩]))))))
  (.seq (.reg [] [⟨(some 4), none, .mv (.k (.bool false)), []⟩])
  (.ret)))⟩
theorem ck39 : chkFn Tryd.prog 39 ir39 = true := by kernel_rfl

/-- seine seinelaw7.Light -/
def ir40 : AFn := ⟨112, 1, [.t 2], .seq (.reg [] [⟨(some 1), none, .boxv (.t 0), []⟩, ⟨(some 2), none, .mv (.k (.bool false)), []⟩])
  (.seq (.reg [] [⟨(some 3), none, .mv (.k (.int .i64 0)), []⟩])
  (.seq (.seq (.reg [] [⟨(some 4), none, .mv (.k (.int .i64 0)), []⟩])
  (.block 0 (.loop [1, 3, 4] (.seq (.seq (.reg [] [⟨(some 7), none, .mv (.t 4), []⟩, ⟨(some 8), none, .fa 0 (.t 1), []⟩, ⟨(some 9), none, .ld 1 false (.t 8), []⟩, ⟨(some 10), none, .len (.t 9), []⟩, ⟨(some 11), none, .bi .lss .i64 (.t 7) (.t 10), []⟩])
    (.cond (.t 11) (.skip) (.exit 0)))
    (.seq (.block 1 (.seq (.reg [0, 1, 2, 3, 4, 5, 6, 7, 10, 11, 12, 13, 14, 15, 18, 19, 20, 21, 22, 23, 24, 8, 9, 16, 17, 25, 26] [⟨(some 14), none, .mv (.t 3), []⟩, ⟨(some 15), none, .bi .add .i64 (.t 14) (.k (.int .i64 1)), []⟩, ⟨(some 16), none, .fa 0 (.t 1), []⟩, ⟨(some 17), none, .ld 1 false (.t 16), []⟩, ⟨(some 18), none, .mv (.t 4), []⟩, ⟨(some 19), none, .ia 5 (.t 17) (.t 18), []⟩, ⟨(some 20), none, .fa 3 (.t 19), []⟩, ⟨(some 21), none, .ld 1 false (.t 20), []⟩, ⟨(some 24), none, .fa 0 (.t 1), []⟩, ⟨(some 25), none, .ld 1 false (.t 24), []⟩, ⟨(some 26), none, .mv (.t 4), []⟩, ⟨(some 27), none, .ia 5 (.t 25) (.t 26), []⟩, ⟨(some 28), none, .fa 4 (.t 27), []⟩, ⟨(some 29), none, .ld 1 false (.t 28), []⟩, ⟨(some 32), none, .fa 0 (.t 1), []⟩, ⟨(some 33), none, .ld 1 false (.t 32), []⟩, ⟨(some 34), none, .mv (.t 4), []⟩, ⟨(some 35), none, .ia 5 (.t 33) (.t 34), []⟩, ⟨(some 36), none, .fa 1 (.t 35), []⟩, ⟨(some 37), none, .ld 1 false (.t 36), []⟩, ⟨(some 38), none, .lens (.t 37), []⟩, ⟨(some 22), none, .call 67 [(.t 21)], [9, 13, 15, 19]⟩, ⟨(some 23), none, .bi .add .i64 (.t 15) (.t 22), []⟩, ⟨(some 30), none, .call 68 [(.t 29)], [15, 19]⟩, ⟨(some 31), none, .bi .add .i64 (.t 23) (.t 30), []⟩, ⟨(some 39), none, .bi .add .i64 (.t 31) (.t 38), []⟩, ⟨(some 3), none, .mv (.t 39), []⟩])
     (.seq (.reg [] [⟨(some 5), none, .mv (.k (.int .i64 0)), []⟩])
     (.block 2 (.loop [1, 3, 4, 5] (.seq (.seq (.reg [] [⟨(some 40), none, .mv (.t 5), []⟩, ⟨(some 41), none, .fa 0 (.t 1), []⟩, ⟨(some 42), none, .ld 1 false (.t 41), []⟩, ⟨(some 43), none, .mv (.t 4), []⟩, ⟨(some 44), none, .ia 5 (.t 42) (.t 43), []⟩, ⟨(some 45), none, .fa 2 (.t 44), []⟩, ⟨(some 46), none, .ld 1 false (.t 45), []⟩, ⟨(some 47), none, .len (.t 46), []⟩, ⟨(some 48), none, .bi .lss .i64 (.t 40) (.t 47), []⟩])
       (.cond (.t 48) (.skip) (.exit 2)))
       (.seq (.block 3 (.reg [0, 1, 2, 3, 4, 5, 6, 7, 8, 9, 10, 11, 14, 15, 16, 17, 18, 19, 20, 21, 22, 23, 24, 12, 13, 25, 26] [⟨(some 51), none, .mv (.t 3), []⟩, ⟨(some 52), none, .bi .add .i64 (.t 51) (.k (.int .i64 1)), []⟩, ⟨(some 53), none, .fa 0 (.t 1), []⟩, ⟨(some 54), none, .ld 1 false (.t 53), []⟩, ⟨(some 55), none, .mv (.t 4), []⟩, ⟨(some 56), none, .ia 5 (.t 54) (.t 55), []⟩, ⟨(some 57), none, .fa 2 (.t 56), []⟩, ⟨(some 58), none, .ld 1 false (.t 57), []⟩, ⟨(some 59), none, .mv (.t 5), []⟩, ⟨(some 60), none, .ia 10 (.t 58) (.t 59), []⟩, ⟨(some 61), none, .fa 5 (.t 60), []⟩, ⟨(some 62), none, .ld 5 true (.t 61), []⟩, ⟨(some 65), none, .fa 0 (.t 1), []⟩, ⟨(some 66), none, .ld 1 false (.t 65), []⟩, ⟨(some 67), none, .mv (.t 4), []⟩, ⟨(some 68), none, .ia 5 (.t 66) (.t 67), []⟩, ⟨(some 69), none, .fa 2 (.t 68), []⟩, ⟨(some 70), none, .ld 1 false (.t 69), []⟩, ⟨(some 71), none, .mv (.t 5), []⟩, ⟨(some 72), none, .ia 10 (.t 70) (.t 71), []⟩, ⟨(some 73), none, .fa 0 (.t 72), []⟩, ⟨(some 74), none, .ld 1 false (.t 73), []⟩, ⟨(some 75), none, .lens (.t 74), []⟩, ⟨(some 63), none, .call 16 [(.t 62)], [13, 17, 21]⟩, ⟨(some 64), none, .bi .add .i64 (.t 52) (.t 63), []⟩, ⟨(some 76), none, .bi .add .i64 (.t 64) (.t 75), []⟩, ⟨(some 3), none, .mv (.t 76), []⟩]))
       (.reg [] [⟨(some 49), none, .mv (.t 5), []⟩, ⟨(some 50), none, .bi .add .i64 (.t 49) (.k (.int .i64 1)), []⟩, ⟨(some 5), none, .mv (.t 50), []⟩]))))))))
    (.reg [] [⟨(some 12), none, .mv (.t 4), []⟩, ⟨(some 13), none, .bi .add .i64 (.t 12) (.k (.int .i64 1)), []⟩, ⟨(some 4), none, .mv (.t 13), []⟩]))))))
  (.seq (.seq (.reg [] [⟨(some 6), none, .mv (.k (.int .i64 0)), []⟩])
  (.block 4 (.loop [1, 3, 6] (.seq (.seq (.reg [] [⟨(some 77), none, .mv (.t 6), []⟩, ⟨(some 78), none, .fa 1 (.t 1), []⟩, ⟨(some 79), none, .ld 1 false (.t 78), []⟩, ⟨(some 80), none, .len (.t 79), []⟩, ⟨(some 81), none, .bi .lss .i64 (.t 77) (.t 80), []⟩])
    (.cond (.t 81) (.skip) (.exit 4)))
    (.seq (.block 5 (.reg [0, 1, 2, 3, 4, 5, 6, 7, 10, 11, 12, 13, 14, 15, 18, 19, 20, 21, 22, 23, 24, 8, 9, 16, 17, 25, 26] [⟨(some 84), none, .mv (.t 3), []⟩, ⟨(some 85), none, .bi .add .i64 (.t 84) (.k (.int .i64 1)), []⟩, ⟨(some 86), none, .fa 1 (.t 1), []⟩, ⟨(some 87), none, .ld 1 false (.t 86), []⟩, ⟨(some 88), none, .mv (.t 6), []⟩, ⟨(some 89), none, .ia 4 (.t 87) (.t 88), []⟩, ⟨(some 90), none, .fa 2 (.t 89), []⟩, ⟨(some 91), none, .ld 1 false (.t 90), []⟩, ⟨(some 94), none, .fa 1 (.t 1), []⟩, ⟨(some 95), none, .ld 1 false (.t 94), []⟩, ⟨(some 96), none, .mv (.t 6), []⟩, ⟨(some 97), none, .ia 4 (.t 95) (.t 96), []⟩, ⟨(some 98), none, .fa 3 (.t 97), []⟩, ⟨(some 99), none, .ld 1 false (.t 98), []⟩, ⟨(some 102), none, .fa 1 (.t 1), []⟩, ⟨(some 103), none, .ld 1 false (.t 102), []⟩, ⟨(some 104), none, .mv (.t 6), []⟩, ⟨(some 105), none, .ia 4 (.t 103) (.t 104), []⟩, ⟨(some 106), none, .fa 0 (.t 105), []⟩, ⟨(some 107), none, .ld 1 false (.t 106), []⟩, ⟨(some 108), none, .lens (.t 107), []⟩, ⟨(some 92), none, .call 67 [(.t 91)], [9, 13, 15, 19]⟩, ⟨(some 93), none, .bi .add .i64 (.t 85) (.t 92), []⟩, ⟨(some 100), none, .call 68 [(.t 99)], [15, 19]⟩, ⟨(some 101), none, .bi .add .i64 (.t 93) (.t 100), []⟩, ⟨(some 109), none, .bi .add .i64 (.t 101) (.t 108), []⟩, ⟨(some 3), none, .mv (.t 109), []⟩]))
    (.reg [] [⟨(some 82), none, .mv (.t 6), []⟩, ⟨(some 83), none, .bi .add .i64 (.t 82) (.k (.int .i64 1)), []⟩, ⟨(some 6), none, .mv (.t 83), []⟩]))))))
  (.seq (.reg [] [⟨(some 110), none, .mv (.t 3), []⟩, ⟨(some 111), none, .bi .leq .i64 (.t 110) (.k (.int .i64 3200)), []⟩, ⟨(some 2), none, .mv (.t 111), []⟩])
  (.ret)))))⟩
theorem ck40 : chkFn Tryd.prog 40 ir40 = true := by kernel_rfl

/-- seine seineref6.SameOp -/
def ir44 : AFn := ⟨89, 2, [.t 4], .seq (.reg [] [⟨(some 2), none, .boxv (.t 0), []⟩, ⟨(some 3), none, .boxv (.t 1), []⟩, ⟨(some 4), none, .mv (.k (.bool false)), []⟩])
  (.seq (.seq (.reg [] [⟨(some 8), none, .fa 0 (.t 2), []⟩, ⟨(some 9), none, .ld 1 false (.t 8), []⟩, ⟨(some 10), none, .fa 0 (.t 3), []⟩, ⟨(some 11), none, .ld 1 false (.t 10), []⟩, ⟨(some 12), none, .bi .neq .i64 (.t 9) (.t 11), []⟩, ⟨(some 13), none, .mv (.t 12), []⟩, ⟨(some 14), (some (13, false)), .fa 1 (.t 2), []⟩, ⟨(some 15), (some (13, false)), .ld 1 false (.t 14), []⟩, ⟨(some 16), (some (13, false)), .fa 1 (.t 3), []⟩, ⟨(some 17), (some (13, false)), .ld 1 false (.t 16), []⟩, ⟨(some 18), (some (13, false)), .bs .neq (.t 15) (.t 17), []⟩, ⟨(some 19), none, .pick (.t 13) (.k (.bool true)) (.t 18), []⟩, ⟨(some 20), none, .mv (.t 19), []⟩, ⟨(some 21), (some (20, false)), .fa 2 (.t 2), []⟩, ⟨(some 22), (some (20, false)), .ld 1 false (.t 21), []⟩, ⟨(some 23), (some (20, false)), .len (.t 22), []⟩, ⟨(some 24), (some (20, false)), .fa 2 (.t 3), []⟩, ⟨(some 25), (some (20, false)), .ld 1 false (.t 24), []⟩, ⟨(some 26), (some (20, false)), .len (.t 25), []⟩, ⟨(some 27), (some (20, false)), .bi .neq .i64 (.t 23) (.t 26), []⟩, ⟨(some 28), none, .pick (.t 20) (.k (.bool true)) (.t 27), []⟩, ⟨(some 29), none, .mv (.t 28), []⟩, ⟨(some 30), (some (29, false)), .fa 3 (.t 2), []⟩, ⟨(some 31), (some (29, false)), .ld 1 false (.t 30), []⟩, ⟨(some 32), (some (29, false)), .fa 3 (.t 3), []⟩, ⟨(some 33), (some (29, false)), .ld 1 false (.t 32), []⟩, ⟨(some 34), (some (29, false)), .call 71 [(.t 31), (.t 33)], []⟩, ⟨(some 35), (some (29, false)), .not (.t 34), []⟩, ⟨(some 36), none, .pick (.t 29) (.k (.bool true)) (.t 35), []⟩, ⟨(some 37), none, .mv (.t 36), []⟩, ⟨(some 38), (some (37, false)), .fa 4 (.t 2), []⟩, ⟨(some 39), (some (37, false)), .ld 1 false (.t 38), []⟩, ⟨(some 40), (some (37, false)), .fa 4 (.t 3), []⟩, ⟨(some 41), (some (37, false)), .ld 1 false (.t 40), []⟩, ⟨(some 42), (some (37, false)), .call 72 [(.t 39), (.t 41)], []⟩, ⟨(some 43), (some (37, false)), .not (.t 42), []⟩, ⟨(some 44), none, .pick (.t 37) (.k (.bool true)) (.t 43), []⟩])
  (.cond (.t 44) (.seq (.reg [] [⟨(some 4), none, .mv (.k (.bool false)), []⟩])
   (.ret)) (.skip)))
  (.seq (.seq (.reg [] [⟨(some 5), none, .mv (.k (.int .i64 0)), []⟩])
  (.block 0 (.loop [2, 3, 5] (.seq (.seq (.reg [] [⟨(some 45), none, .mv (.t 5), []⟩, ⟨(some 46), none, .fa 2 (.t 2), []⟩, ⟨(some 47), none, .ld 1 false (.t 46), []⟩, ⟨(some 48), none, .len (.t 47), []⟩, ⟨(some 49), none, .bi .lss .i64 (.t 45) (.t 48), []⟩])
    (.cond (.t 49) (.skip) (.exit 0)))
    (.seq (.block 1 (.seq (.reg [0, 1, 2, 3, 4, 5, 6, 7, 8, 9, 10, 11, 12, 13] [⟨(some 52), none, .fa 2 (.t 2), []⟩, ⟨(some 53), none, .ld 1 false (.t 52), []⟩, ⟨(some 54), none, .mv (.t 5), []⟩, ⟨(some 55), none, .ia 10 (.t 53) (.t 54), []⟩, ⟨(some 56), none, .ld 10 true (.t 55), []⟩, ⟨(some 57), none, .fa 2 (.t 3), []⟩, ⟨(some 58), none, .ld 1 false (.t 57), []⟩, ⟨(some 59), none, .mv (.t 5), []⟩, ⟨(some 60), none, .ia 10 (.t 58) (.t 59), []⟩, ⟨(some 61), none, .ld 10 true (.t 60), []⟩, ⟨(some 6), none, .alloc [.str [], .str [], .int .i64 0, .int .i64 0, .bool false, .int .i64 0, .int .i64 0, .str [], .sl .nil 5 [], .sl .nil 6 []], []⟩, ⟨(some 7), none, .alloc [.str [], .str [], .int .i64 0, .int .i64 0, .bool false, .int .i64 0, .int .i64 0, .str [], .sl .nil 5 [], .sl .nil 6 []], []⟩, ⟨none, none, .st 10 (.t 6) (.t 56), [6, 9]⟩, ⟨none, none, .st 10 (.t 7) (.t 61), []⟩])
     (.seq (.reg [] [⟨(some 62), none, .fa 0 (.t 6), []⟩, ⟨(some 63), none, .ld 1 false (.t 62), []⟩, ⟨(some 64), none, .fa 0 (.t 7), []⟩, ⟨(some 65), none, .ld 1 false (.t 64), []⟩, ⟨(some 66), none, .bs .neq (.t 63) (.t 65), []⟩, ⟨(some 67), none, .mv (.t 66), []⟩, ⟨(some 68), (some (67, false)), .fa 1 (.t 6), []⟩, ⟨(some 69), (some (67, false)), .ld 3 true (.t 68), []⟩, ⟨(some 70), (some (67, false)), .fa 1 (.t 7), []⟩, ⟨(some 71), (some (67, false)), .ld 3 true (.t 70), []⟩, ⟨(some 72), (some (67, false)), .eqa true [.s, (.i .i64), (.i .i64)] (.t 69) (.t 71), []⟩, ⟨(some 73), none, .pick (.t 67) (.k (.bool true)) (.t 72), []⟩, ⟨(some 74), none, .mv (.t 73), []⟩, ⟨(some 75), (some (74, false)), .fa 4 (.t 6), []⟩, ⟨(some 76), (some (74, false)), .ld 1 false (.t 75), []⟩, ⟨(some 77), (some (74, false)), .fa 4 (.t 7), []⟩, ⟨(some 78), (some (74, false)), .ld 1 false (.t 77), []⟩, ⟨(some 79), (some (74, false)), .bb true (.t 76) (.t 78), []⟩, ⟨(some 80), none, .pick (.t 74) (.k (.bool true)) (.t 79), []⟩, ⟨(some 81), none, .mv (.t 80), []⟩, ⟨(some 82), (some (81, false)), .fa 5 (.t 6), []⟩, ⟨(some 83), (some (81, false)), .ld 5 true (.t 82), []⟩, ⟨(some 84), (some (81, false)), .fa 5 (.t 7), []⟩, ⟨(some 85), (some (81, false)), .ld 5 true (.t 84), []⟩, ⟨(some 86), (some (81, false)), .call 20 [(.t 83), (.t 85)], []⟩, ⟨(some 87), (some (81, false)), .not (.t 86), []⟩, ⟨(some 88), none, .pick (.t 81) (.k (.bool true)) (.t 87), []⟩])
     (.cond (.t 88) (.seq (.reg [] [⟨(some 4), none, .mv (.k (.bool false)), []⟩])
      (.ret)) (.skip)))))
    (.reg [] [⟨(some 50), none, .mv (.t 5), []⟩, ⟨(some 51), none, .bi .add .i64 (.t 50) (.k (.int .i64 1)), []⟩, ⟨(some 5), none, .mv (.t 51), []⟩]))))))
  (.seq (.reg [] [⟨(some 4), none, .mv (.k (.bool true)), []⟩])
  (.ret))))⟩
theorem ck44 : chkFn Tryd.prog 44 ir44 = true := by kernel_rfl

/-- seine letters.Good -/
def ir46 : AFn := ⟨5, 1, [.t 2], .seq (.reg [] [⟨(some 2), none, .mv (.k (.bool false)), []⟩])
  (.seq (.reg [] [⟨(some 3), none, .mv (.t 0), []⟩, ⟨(some 4), none, .call 73 [(.t 3)], []⟩, ⟨(some 2), none, .mv (.t 4), []⟩])
  (.ret))⟩
theorem ck46 : chkFn Tryd.prog 46 ir46 = true := by kernel_rfl

/-- seine seineref1.Members -/
def ir51 : AFn := ⟨42, 2, [.t 4], .seq (.reg [] [⟨(some 4), none, .mv (.k (.bool false)), []⟩])
  (.seq (.seq (.reg [] [⟨(some 6), none, .mv (.t 0), []⟩, ⟨(some 7), none, .len (.t 6), []⟩, ⟨(some 8), none, .mv (.t 1), []⟩, ⟨(some 9), none, .len (.t 8), []⟩, ⟨(some 10), none, .bi .neq .i64 (.t 7) (.t 9), []⟩])
  (.cond (.t 10) (.seq (.reg [] [⟨(some 4), none, .mv (.k (.bool false)), []⟩])
   (.ret)) (.skip)))
  (.seq (.seq (.reg [] [⟨(some 5), none, .mv (.k (.int .i64 0)), []⟩])
  (.block 0 (.loop [0, 1, 5] (.seq (.seq (.reg [] [⟨(some 11), none, .mv (.t 5), []⟩, ⟨(some 12), none, .mv (.t 0), []⟩, ⟨(some 13), none, .len (.t 12), []⟩, ⟨(some 14), none, .bi .lss .i64 (.t 11) (.t 13), []⟩])
    (.cond (.t 14) (.skip) (.exit 0)))
    (.seq (.block 1 (.seq (.reg [0, 1, 2, 3, 4, 5, 6, 7, 8, 9, 10, 11, 12, 13, 14, 15, 16, 17, 18, 19, 20, 21, 22, 23, 24] [⟨(some 17), none, .mv (.t 0), []⟩, ⟨(some 18), none, .mv (.t 5), []⟩, ⟨(some 19), none, .ia 6 (.t 17) (.t 18), []⟩, ⟨(some 20), none, .fa 0 (.t 19), []⟩, ⟨(some 21), none, .ld 1 false (.t 20), []⟩, ⟨(some 22), none, .mv (.t 1), []⟩, ⟨(some 23), none, .mv (.t 5), []⟩, ⟨(some 24), none, .ia 6 (.t 22) (.t 23), []⟩, ⟨(some 25), none, .fa 0 (.t 24), []⟩, ⟨(some 26), none, .ld 1 false (.t 25), []⟩, ⟨(some 27), none, .bs .neq (.t 21) (.t 26), []⟩, ⟨(some 28), none, .mv (.t 27), []⟩, ⟨(some 29), (some (28, false)), .mv (.t 0), []⟩, ⟨(some 30), (some (28, false)), .mv (.t 5), []⟩, ⟨(some 31), (some (28, false)), .ia 6 (.t 29) (.t 30), []⟩, ⟨(some 32), (some (28, false)), .fa 1 (.t 31), []⟩, ⟨(some 33), (some (28, false)), .ld 5 true (.t 32), []⟩, ⟨(some 34), (some (28, false)), .mv (.t 1), []⟩, ⟨(some 35), (some (28, false)), .mv (.t 5), []⟩, ⟨(some 36), (some (28, false)), .ia 6 (.t 34) (.t 35), []⟩, ⟨(some 37), (some (28, false)), .fa 1 (.t 36), []⟩, ⟨(some 38), (some (28, false)), .ld 5 true (.t 37), []⟩, ⟨(some 39), (some (28, false)), .call 20 [(.t 33), (.t 38)], []⟩, ⟨(some 40), (some (28, false)), .not (.t 39), []⟩, ⟨(some 41), none, .pick (.t 28) (.k (.bool true)) (.t 40), []⟩])
     (.cond (.t 41) (.seq (.reg [] [⟨(some 4), none, .mv (.k (.bool false)), []⟩])
      (.ret)) (.skip))))
    (.reg [] [⟨(some 15), none, .mv (.t 5), []⟩, ⟨(some 16), none, .bi .add .i64 (.t 15) (.k (.int .i64 1)), []⟩, ⟨(some 5), none, .mv (.t 16), []⟩]))))))
  (.seq (.reg [] [⟨(some 4), none, .mv (.k (.bool true)), []⟩])
  (.ret))))⟩
theorem ck51 : chkFn Tryd.prog 51 ir51 = true := by kernel_rfl

/-- slices.EqualFunc   seine api.Value   seine api.Value seine api.Value seine api.Value  -/
def ir52 : AFn := ⟨32, 3, [.t 6], .seq (.reg [] [⟨(some 6), none, .mv (.k (.bool false)), []⟩])
  (.seq (.seq (.reg [] [⟨(some 10), none, .mv (.t 0), []⟩, ⟨(some 11), none, .len (.t 10), []⟩, ⟨(some 12), none, .mv (.t 1), []⟩, ⟨(some 13), none, .len (.t 12), []⟩, ⟨(some 14), none, .bi .neq .i64 (.t 11) (.t 13), []⟩])
  (.cond (.t 14) (.seq (.reg [] [⟨(some 6), none, .mv (.k (.bool false)), []⟩])
   (.ret)) (.skip)))
  (.seq (.seq (.reg [] [⟨(some 15), none, .mv (.t 0), []⟩, ⟨(some 16), none, .len (.t 15), []⟩, ⟨(some 17), none, .mv (.k (.int .i64 0)), []⟩])
  (.block 0 (.loop [1, 2, 15, 16, 17] (.seq (.reg [] [⟨(some 18), none, .bi .lss .i64 (.t 17) (.t 16), []⟩])
    (.seq (.cond (.t 18) (.skip) (.exit 0))
    (.seq (.block 1 (.seq (.reg [] [⟨(some 19), none, .mv (.t 17), []⟩, ⟨(some 20), none, .ia 5 (.t 15) (.t 17), []⟩, ⟨(some 21), none, .ld 5 true (.t 20), []⟩, ⟨(some 8), none, .alloc [.int .i64 0, .int .i64 0, .str [], .sl .nil 5 [], .sl .nil 6 []], []⟩, ⟨(some 7), none, .mv (.t 19), []⟩, ⟨none, none, .st 5 (.t 8) (.t 21), []⟩])
     (.seq (.reg [] [⟨(some 22), none, .mv (.t 1), []⟩, ⟨(some 23), none, .mv (.t 7), []⟩, ⟨(some 24), none, .ia 5 (.t 22) (.t 23), []⟩, ⟨(some 25), none, .ld 5 true (.t 24), []⟩, ⟨(some 9), none, .alloc [.int .i64 0, .int .i64 0, .str [], .sl .nil 5 [], .sl .nil 6 []], []⟩, ⟨none, none, .st 5 (.t 9) (.t 25), []⟩])
     (.seq (.reg [] [⟨(some 26), none, .mv (.t 2), []⟩, ⟨(some 27), none, .ld 5 true (.t 8), []⟩, ⟨(some 28), none, .ld 5 true (.t 9), []⟩, ⟨(some 29), none, .callv (.t 26) [(.t 27), (.t 28)], []⟩, ⟨(some 30), none, .not (.t 29), []⟩])
     (.cond (.t 30) (.seq (.reg [] [⟨(some 6), none, .mv (.k (.bool false)), []⟩])
      (.ret)) (.skip))))))
    (.reg [] [⟨(some 31), none, .bi .add .i64 (.t 17) (.k (.int .i64 1)), []⟩, ⟨(some 17), none, .mv (.t 31), []⟩])))))))
  (.seq (.reg [] [⟨(some 6), none, .mv (.k (.bool true)), []⟩])
  (.ret))))⟩
theorem ck52 : chkFn Tryd.prog 52 ir52 = true := by kernel_rfl

/-- slices.EqualFunc   seine api.Member   seine api.Member seine api.Member seine api.Member  -/
def ir53 : AFn := ⟨32, 3, [.t 6], .seq (.reg [] [⟨(some 6), none, .mv (.k (.bool false)), []⟩])
  (.seq (.seq (.reg [] [⟨(some 10), none, .mv (.t 0), []⟩, ⟨(some 11), none, .len (.t 10), []⟩, ⟨(some 12), none, .mv (.t 1), []⟩, ⟨(some 13), none, .len (.t 12), []⟩, ⟨(some 14), none, .bi .neq .i64 (.t 11) (.t 13), []⟩])
  (.cond (.t 14) (.seq (.reg [] [⟨(some 6), none, .mv (.k (.bool false)), []⟩])
   (.ret)) (.skip)))
  (.seq (.seq (.reg [] [⟨(some 15), none, .mv (.t 0), []⟩, ⟨(some 16), none, .len (.t 15), []⟩, ⟨(some 17), none, .mv (.k (.int .i64 0)), []⟩])
  (.block 0 (.loop [1, 2, 15, 16, 17] (.seq (.reg [] [⟨(some 18), none, .bi .lss .i64 (.t 17) (.t 16), []⟩])
    (.seq (.cond (.t 18) (.skip) (.exit 0))
    (.seq (.block 1 (.seq (.reg [] [⟨(some 19), none, .mv (.t 17), []⟩, ⟨(some 20), none, .ia 6 (.t 15) (.t 17), []⟩, ⟨(some 21), none, .ld 6 true (.t 20), []⟩, ⟨(some 8), none, .alloc [.str [], .int .i64 0, .int .i64 0, .str [], .sl .nil 5 [], .sl .nil 6 []], []⟩, ⟨(some 7), none, .mv (.t 19), []⟩, ⟨none, none, .st 6 (.t 8) (.t 21), []⟩])
     (.seq (.reg [] [⟨(some 22), none, .mv (.t 1), []⟩, ⟨(some 23), none, .mv (.t 7), []⟩, ⟨(some 24), none, .ia 6 (.t 22) (.t 23), []⟩, ⟨(some 25), none, .ld 6 true (.t 24), []⟩, ⟨(some 9), none, .alloc [.str [], .int .i64 0, .int .i64 0, .str [], .sl .nil 5 [], .sl .nil 6 []], []⟩, ⟨none, none, .st 6 (.t 9) (.t 25), []⟩])
     (.seq (.reg [] [⟨(some 26), none, .mv (.t 2), []⟩, ⟨(some 27), none, .ld 6 true (.t 8), []⟩, ⟨(some 28), none, .ld 6 true (.t 9), []⟩, ⟨(some 29), none, .callv (.t 26) [(.t 27), (.t 28)], []⟩, ⟨(some 30), none, .not (.t 29), []⟩])
     (.cond (.t 30) (.seq (.reg [] [⟨(some 6), none, .mv (.k (.bool false)), []⟩])
      (.ret)) (.skip))))))
    (.reg [] [⟨(some 31), none, .bi .add .i64 (.t 17) (.k (.int .i64 1)), []⟩, ⟨(some 17), none, .mv (.t 31), []⟩])))))))
  (.seq (.reg [] [⟨(some 6), none, .mv (.k (.bool true)), []⟩])
  (.ret))))⟩
theorem ck53 : chkFn Tryd.prog 53 ir53 = true := by kernel_rfl

/-- seine value.Same 1 -/
def ir54 : AFn := ⟨17, 2, [.t 4], .seq (.reg [] [⟨(some 2), none, .boxv (.t 0), []⟩, ⟨(some 3), none, .boxv (.t 1), []⟩, ⟨(some 4), none, .mv (.k (.bool false)), []⟩])
  (.seq (.reg [] [⟨(some 5), none, .fa 0 (.t 2), []⟩, ⟨(some 6), none, .ld 1 false (.t 5), []⟩, ⟨(some 7), none, .fa 0 (.t 3), []⟩, ⟨(some 8), none, .ld 1 false (.t 7), []⟩, ⟨(some 9), none, .bs .eql (.t 6) (.t 8), []⟩, ⟨(some 10), none, .mv (.t 9), []⟩, ⟨(some 11), (some (10, true)), .fa 1 (.t 2), []⟩, ⟨(some 12), (some (10, true)), .ld 5 true (.t 11), []⟩, ⟨(some 13), (some (10, true)), .fa 1 (.t 3), []⟩, ⟨(some 14), (some (10, true)), .ld 5 true (.t 13), []⟩, ⟨(some 15), (some (10, true)), .call 25 [(.t 12), (.t 14)], []⟩, ⟨(some 16), none, .pick (.t 10) (.t 15) (.k (.bool false)), []⟩, ⟨(some 4), none, .mv (.t 16), []⟩])
  (.ret))⟩
theorem ck54 : chkFn Tryd.prog 54 ir54 = true := by kernel_rfl

/-- seine seinekeep.Members -/
def ir55 : AFn := ⟨27, 1, [.t 2], .seq (.reg [] [⟨(some 2), none, .mv (.k (.sl .nil 6 [])), []⟩])
  (.seq (.reg [] [⟨(some 3), none, .mv (.k (.sl .nil 6 [])), []⟩])
  (.seq (.seq (.reg [] [⟨(some 4), none, .mv (.k (.int .i64 0)), []⟩])
  (.block 0 (.loop [0, 3, 4] (.seq (.seq (.reg [] [⟨(some 5), none, .mv (.t 4), []⟩, ⟨(some 6), none, .mv (.t 0), []⟩, ⟨(some 7), none, .len (.t 6), []⟩, ⟨(some 8), none, .bi .lss .i64 (.t 5) (.t 7), []⟩])
    (.cond (.t 8) (.skip) (.exit 0)))
    (.seq (.block 1 (.reg [0, 1, 2, 3, 4, 5, 6, 7, 8, 9, 10, 11, 12, 13, 14, 15] [⟨(some 11), none, .mv (.t 3), []⟩, ⟨(some 12), none, .mv (.t 0), []⟩, ⟨(some 13), none, .mv (.t 4), []⟩, ⟨(some 14), none, .ia 6 (.t 12) (.t 13), []⟩, ⟨(some 15), none, .fa 0 (.t 14), []⟩, ⟨(some 16), none, .ld 1 false (.t 15), []⟩, ⟨(some 17), none, .mv (.t 0), []⟩, ⟨(some 18), none, .mv (.t 4), []⟩, ⟨(some 19), none, .ia 6 (.t 17) (.t 18), []⟩, ⟨(some 20), none, .fa 1 (.t 19), []⟩, ⟨(some 21), none, .ld 5 true (.t 20), []⟩, ⟨(some 22), none, .call 26 [(.t 21)], [5]⟩, ⟨(some 23), none, .bld [.str [], .int .i64 0, .int .i64 0, .str [], .sl .nil 5 [], .sl .nil 6 []] [(0, 1, (.t 16)), (1, 5, (.t 22))], []⟩, ⟨(some 24), none, .bls 6 1 [.str [], .int .i64 0, .int .i64 0, .str [], .sl .nil 5 [], .sl .nil 6 []] [(0, (.t 23))], []⟩, ⟨(some 25), none, .app 6 96 (.t 11) (.t 24), []⟩, ⟨(some 3), none, .mv (.t 25), []⟩]))
    (.reg [] [⟨(some 9), none, .mv (.t 4), []⟩, ⟨(some 10), none, .bi .add .i64 (.t 9) (.k (.int .i64 1)), []⟩, ⟨(some 4), none, .mv (.t 10), []⟩]))))))
  (.seq (.reg [] [⟨(some 26), none, .mv (.t 3), []⟩, ⟨(some 2), none, .mv (.t 26), []⟩])
  (.ret))))⟩
theorem ck55 : chkFn Tryd.prog 55 ir55 = true := by kernel_rfl

/-- seine value.tokens -/
def ir56 : AFn := ⟨119, 2, [.t 4], .seq (.reg [] [⟨(some 3), none, .boxv (.t 1), []⟩, ⟨(some 4), none, .mv (.k (.sl .nil 2 [])), []⟩])
  (.seq (.seq (.reg [] [⟨(some 9), none, .fa 0 (.t 3), []⟩, ⟨(some 10), none, .ld 1 false (.t 9), []⟩])
  (.block 0 (.seq (.reg [] [⟨(some 12), none, .bi .eql .i64 (.t 10) (.k (.int .i64 0)), []⟩, ⟨(some 11), none, .mv (.t 12), []⟩])
   (.cond (.t 11) (.seq (.reg [] [⟨(some 13), none, .mv (.t 0), []⟩, ⟨(some 14), none, .call 80 [(.k (.str [110, 117, 108, 108]))], []⟩, ⟨(some 15), none, .bls 2 1 [.int .i64 0, .str []] [(0, (.t 14))], []⟩, ⟨(some 16), none, .app 2 24 (.t 13) (.t 15), []⟩, ⟨(some 4), none, .mv (.t 16), []⟩])
    (.ret)) (.seq (.reg [] [⟨(some 18), none, .bi .eql .i64 (.t 10) (.k (.int .i64 1)), []⟩, ⟨(some 17), none, .mv (.t 18), []⟩])
    (.cond (.t 17) (.seq (.reg [] [⟨(some 19), none, .mv (.t 0), []⟩, ⟨(some 20), none, .fa 1 (.t 3), []⟩, ⟨(some 21), none, .ld 1 false (.t 20), []⟩, ⟨(some 22), none, .bi .eql .i64 (.t 21) (.k (.int .i64 1)), []⟩, ⟨(some 23), none, .call 81 [(.t 22)], []⟩, ⟨(some 24), none, .call 80 [(.t 23)], []⟩, ⟨(some 25), none, .bls 2 1 [.int .i64 0, .str []] [(0, (.t 24))], []⟩, ⟨(some 26), none, .app 2 24 (.t 19) (.t 25), []⟩, ⟨(some 4), none, .mv (.t 26), []⟩])
     (.ret)) (.seq (.reg [] [⟨(some 28), none, .bi .eql .i64 (.t 10) (.k (.int .i64 2)), []⟩, ⟨(some 27), none, .mv (.t 28), []⟩])
     (.cond (.t 27) (.seq (.reg [] [⟨(some 29), none, .mv (.t 0), []⟩, ⟨(some 30), none, .fa 1 (.t 3), []⟩, ⟨(some 31), none, .ld 1 false (.t 30), []⟩, ⟨(some 32), none, .call 82 [(.t 31), (.k (.int .i64 10))], []⟩, ⟨(some 33), none, .bld [.int .i64 0, .str []] [(0, 1, (.k (.int .i64 3))), (1, 1, (.t 32))], []⟩, ⟨(some 34), none, .bls 2 1 [.int .i64 0, .str []] [(0, (.t 33))], []⟩, ⟨(some 35), none, .app 2 24 (.t 29) (.t 34), []⟩, ⟨(some 4), none, .mv (.t 35), []⟩])
      (.ret)) (.seq (.reg [] [⟨(some 37), none, .bi .eql .i64 (.t 10) (.k (.int .i64 3)), []⟩, ⟨(some 36), none, .mv (.t 37), []⟩])
      (.cond (.t 36) (.seq (.reg [0, 1, 2, 4, 5, 3, 6, 7, 8, 9] [⟨(some 38), none, .mv (.t 0), []⟩, ⟨(some 39), none, .fa 2 (.t 3), []⟩, ⟨(some 40), none, .ld 1 false (.t 39), []⟩, ⟨(some 42), none, .fa 2 (.t 3), []⟩, ⟨(some 43), none, .ld 1 false (.t 42), []⟩, ⟨(some 41), none, .call 83 [(.t 40)], [4]⟩, ⟨(some 44), none, .bld [.int .i64 0, .str []] [(0, 1, (.t 41)), (1, 1, (.t 43))], []⟩, ⟨(some 45), none, .bls 2 1 [.int .i64 0, .str []] [(0, (.t 44))], []⟩, ⟨(some 46), none, .app 2 24 (.t 38) (.t 45), []⟩, ⟨(some 4), none, .mv (.t 46), []⟩])
       (.ret)) (.seq (.reg [] [⟨(some 48), none, .bi .eql .i64 (.t 10) (.k (.int .i64 4)), []⟩, ⟨(some 47), none, .mv (.t 48), []⟩])
       (.cond (.t 47) (.seq (.reg [] [⟨(some 49), none, .mv (.t 0), []⟩, ⟨(some 50), none, .fa 2 (.t 3), []⟩, ⟨(some 51), none, .ld 1 false (.t 50), []⟩, ⟨(some 52), none, .bld [.int .i64 0, .str []] [(0, 1, (.k (.int .i64 5))), (1, 1, (.t 51))], []⟩, ⟨(some 53), none, .bls 2 1 [.int .i64 0, .str []] [(0, (.t 52))], []⟩, ⟨(some 54), none, .app 2 24 (.t 49) (.t 53), []⟩, ⟨(some 4), none, .mv (.t 54), []⟩])
        (.ret)) (.seq (.reg [] [⟨(some 56), none, .bi .eql .i64 (.t 10) (.k (.int .i64 5)), []⟩, ⟨(some 55), none, .mv (.t 56), []⟩])
        (.cond (.t 55) (.seq (.reg [] [⟨(some 57), none, .mv (.t 0), []⟩, ⟨(some 58), none, .fa 2 (.t 3), []⟩, ⟨(some 59), none, .ld 1 false (.t 58), []⟩, ⟨(some 60), none, .call 80 [(.t 59)], []⟩, ⟨(some 61), none, .bls 2 1 [.int .i64 0, .str []] [(0, (.t 60))], []⟩, ⟨(some 62), none, .app 2 24 (.t 57) (.t 61), []⟩, ⟨(some 4), none, .mv (.t 62), []⟩])
         (.ret)) (.seq (.reg [] [⟨(some 64), none, .bi .eql .i64 (.t 10) (.k (.int .i64 8)), []⟩, ⟨(some 63), none, .mv (.t 64), []⟩])
         (.cond (.t 63) (.seq (.reg [0, 2, 3, 1, 4, 5, 6, 7] [⟨(some 65), none, .mv (.t 0), []⟩, ⟨(some 67), none, .fa 2 (.t 3), []⟩, ⟨(some 68), none, .ld 1 false (.t 67), []⟩, ⟨(some 66), none, .call 84 [(.k (.str [36]))], [2]⟩, ⟨(some 69), none, .call 80 [(.t 68)], []⟩, ⟨(some 70), none, .bls 2 2 [.int .i64 0, .str []] [(0, (.t 66)), (1, (.t 69))], []⟩, ⟨(some 71), none, .app 2 24 (.t 65) (.t 70), []⟩, ⟨(some 4), none, .mv (.t 71), []⟩])
          (.ret)) (.seq (.reg [] [⟨(some 73), none, .bi .eql .i64 (.t 10) (.k (.int .i64 6)), []⟩, ⟨(some 72), none, .mv (.t 73), []⟩])
          (.cond (.t 72) (.seq (.reg [] [⟨(some 74), none, .mv (.t 0), []⟩, ⟨(some 75), none, .call 84 [(.k (.str [91]))], []⟩, ⟨(some 76), none, .bls 2 1 [.int .i64 0, .str []] [(0, (.t 75))], []⟩, ⟨(some 77), none, .app 2 24 (.t 74) (.t 76), []⟩, ⟨(some 0), none, .mv (.t 77), []⟩])
           (.seq (.seq (.reg [] [⟨(some 78), none, .fa 3 (.t 3), []⟩, ⟨(some 79), none, .ld 1 false (.t 78), []⟩, ⟨(some 80), none, .len (.t 79), []⟩, ⟨(some 81), none, .mv (.k (.int .i64 0)), []⟩])
           (.block 1 (.loop [0, 79, 80, 81] (.seq (.reg [] [⟨(some 82), none, .bi .lss .i64 (.t 81) (.t 80), []⟩])
             (.seq (.cond (.t 82) (.skip) (.exit 1))
             (.seq (.block 2 (.seq (.reg [] [⟨(some 83), none, .ia 5 (.t 79) (.t 81), []⟩, ⟨(some 84), none, .ld 5 true (.t 83), []⟩, ⟨(some 6), none, .alloc [.int .i64 0, .int .i64 0, .str [], .sl .nil 5 [], .sl .nil 6 []], []⟩, ⟨none, none, .st 5 (.t 6) (.t 84), []⟩])
              (.reg [] [⟨(some 85), none, .mv (.t 0), []⟩, ⟨(some 86), none, .ld 5 true (.t 6), []⟩, ⟨(some 87), none, .call 56 [(.t 85), (.t 86)], []⟩, ⟨(some 0), none, .mv (.t 87), []⟩])))
             (.reg [] [⟨(some 88), none, .bi .add .i64 (.t 81) (.k (.int .i64 1)), []⟩, ⟨(some 81), none, .mv (.t 88), []⟩])))))))
           (.seq (.reg [] [⟨(some 89), none, .mv (.t 0), []⟩, ⟨(some 90), none, .call 84 [(.k (.str [93]))], []⟩, ⟨(some 91), none, .bls 2 1 [.int .i64 0, .str []] [(0, (.t 90))], []⟩, ⟨(some 92), none, .app 2 24 (.t 89) (.t 91), []⟩, ⟨(some 4), none, .mv (.t 92), []⟩])
           (.ret)))) (.skip)))))))))))))))))))
  (.seq (.reg [] [⟨(some 93), none, .mv (.t 0), []⟩, ⟨(some 94), none, .call 84 [(.k (.str [123]))], []⟩, ⟨(some 95), none, .bls 2 1 [.int .i64 0, .str []] [(0, (.t 94))], []⟩, ⟨(some 96), none, .app 2 24 (.t 93) (.t 95), []⟩, ⟨(some 0), none, .mv (.t 96), []⟩])
  (.seq (.seq (.reg [] [⟨(some 97), none, .fa 4 (.t 3), []⟩, ⟨(some 98), none, .ld 1 false (.t 97), []⟩, ⟨(some 99), none, .len (.t 98), []⟩, ⟨(some 100), none, .mv (.k (.int .i64 0)), []⟩])
  (.block 3 (.loop [0, 98, 99, 100] (.seq (.reg [] [⟨(some 101), none, .bi .lss .i64 (.t 100) (.t 99), []⟩])
    (.seq (.cond (.t 101) (.skip) (.exit 3))
    (.seq (.block 4 (.seq (.reg [] [⟨(some 102), none, .ia 6 (.t 98) (.t 100), []⟩, ⟨(some 103), none, .ld 6 true (.t 102), []⟩, ⟨(some 8), none, .alloc [.str [], .int .i64 0, .int .i64 0, .str [], .sl .nil 5 [], .sl .nil 6 []], []⟩, ⟨none, none, .st 6 (.t 8) (.t 103), []⟩])
     (.reg [0, 1, 2, 7, 8, 3, 4, 5, 6, 9, 10] [⟨(some 104), none, .mv (.t 0), []⟩, ⟨(some 105), none, .fa 0 (.t 8), []⟩, ⟨(some 106), none, .ld 1 false (.t 105), []⟩, ⟨(some 111), none, .fa 1 (.t 8), []⟩, ⟨(some 112), none, .ld 5 true (.t 111), []⟩, ⟨(some 107), none, .call 80 [(.t 106)], [4]⟩, ⟨(some 108), none, .call 84 [(.k (.str [58]))], [4]⟩, ⟨(some 109), none, .bls 2 2 [.int .i64 0, .str []] [(0, (.t 107)), (1, (.t 108))], []⟩, ⟨(some 110), none, .app 2 24 (.t 104) (.t 109), [4]⟩, ⟨(some 113), none, .call 56 [(.t 110), (.t 112)], []⟩, ⟨(some 0), none, .mv (.t 113), []⟩])))
    (.reg [] [⟨(some 114), none, .bi .add .i64 (.t 100) (.k (.int .i64 1)), []⟩, ⟨(some 100), none, .mv (.t 114), []⟩])))))))
  (.seq (.reg [] [⟨(some 115), none, .mv (.t 0), []⟩, ⟨(some 116), none, .call 84 [(.k (.str [125]))], []⟩, ⟨(some 117), none, .bls 2 1 [.int .i64 0, .str []] [(0, (.t 116))], []⟩, ⟨(some 118), none, .app 2 24 (.t 115) (.t 117), []⟩, ⟨(some 4), none, .mv (.t 118), []⟩])
  (.ret)))))⟩
theorem ck56 : chkFn Tryd.prog 56 ir56 = true := by kernel_rfl

/-- seine value.all -/
def ir57 : AFn := ⟨60, 2, [.t 4], .seq (.reg [] [⟨(some 2), none, .boxv (.t 0), []⟩, ⟨(some 4), none, .mv (.k (.bool false)), []⟩])
  (.scope (.seq (.reg [] [⟨(some 11), none, .ld 5 true (.t 2), []⟩, ⟨(some 5), none, .alloc [.int .i64 0, .int .i64 0, .str [], .sl .nil 5 [], .sl .nil 6 []], []⟩, ⟨none, none, .st 5 (.t 5) (.t 11), []⟩])
  (.seq (.reg [] [⟨(some 6), none, .mv (.k (.bool true)), []⟩])
  (.seq (.skip)
  (.seq (.seq (.reg [] [⟨(some 12), none, .fa 0 (.t 2), []⟩, ⟨(some 13), none, .ld 1 false (.t 12), []⟩])
  (.block 0 (.seq (.reg [] [⟨(some 17), none, .bi .eql .i64 (.t 13) (.k (.int .i64 6)), []⟩, ⟨(some 16), none, .mv (.t 17), []⟩])
   (.cond (.t 16) (.seq (.reg [] [⟨(some 18), none, .fa 3 (.t 5), []⟩, ⟨none, none, .st 1 (.t 18) (.k (.sl .nil 5 [])), []⟩])
    (.seq (.reg [] [⟨(some 19), none, .fa 3 (.t 2), []⟩, ⟨(some 20), none, .ld 1 false (.t 19), []⟩, ⟨(some 21), none, .len (.t 20), []⟩, ⟨(some 22), none, .mv (.k (.int .i64 0)), []⟩])
    (.block 1 (.loop [1, 5, 6, 20, 21, 22] (.seq (.reg [] [⟨(some 23), none, .bi .lss .i64 (.t 22) (.t 21), []⟩])
      (.seq (.cond (.t 23) (.skip) (.exit 1))
      (.seq (.block 2 (.seq (.reg [] [⟨(some 24), none, .ia 5 (.t 20) (.t 22), []⟩, ⟨(some 25), none, .ld 5 true (.t 24), []⟩, ⟨(some 8), none, .alloc [.int .i64 0, .int .i64 0, .str [], .sl .nil 5 [], .sl .nil 6 []], []⟩, ⟨none, none, .st 5 (.t 8) (.t 25), []⟩])
       (.seq (.reg [] [⟨(some 26), none, .ld 5 true (.t 8), []⟩, ⟨(some 27), none, .mv (.t 1), []⟩, ⟨(some 28), none, .call 57 [(.t 26), (.t 27)], []⟩, ⟨(some 6), none, .mv (.t 28), []⟩])
       (.seq (.reg [] [⟨(some 29), none, .mv (.t 6), []⟩, ⟨(some 30), none, .not (.t 29), []⟩])
       (.cond (.t 30) (.exit 0) (.skip))))))
      (.reg [] [⟨(some 31), none, .bi .add .i64 (.t 22) (.k (.int .i64 1)), []⟩, ⟨(some 22), none, .mv (.t 31), []⟩])))))))) (.seq (.reg [] [⟨(some 33), none, .bi .eql .i64 (.t 13) (.k (.int .i64 7)), []⟩, ⟨(some 32), none, .mv (.t 33), []⟩])
    (.cond (.t 32) (.seq (.reg [] [⟨(some 34), none, .fa 4 (.t 5), []⟩, ⟨none, none, .st 1 (.t 34) (.k (.sl .nil 6 [])), []⟩])
     (.seq (.reg [] [⟨(some 35), none, .fa 4 (.t 2), []⟩, ⟨(some 36), none, .ld 1 false (.t 35), []⟩, ⟨(some 37), none, .len (.t 36), []⟩, ⟨(some 38), none, .mv (.k (.int .i64 0)), []⟩])
     (.block 3 (.loop [1, 5, 6, 36, 37, 38] (.seq (.reg [] [⟨(some 39), none, .bi .lss .i64 (.t 38) (.t 37), []⟩])
       (.seq (.cond (.t 39) (.skip) (.exit 3))
       (.seq (.block 4 (.seq (.reg [] [⟨(some 40), none, .ia 6 (.t 36) (.t 38), []⟩, ⟨(some 41), none, .ld 6 true (.t 40), []⟩, ⟨(some 10), none, .alloc [.str [], .int .i64 0, .int .i64 0, .str [], .sl .nil 5 [], .sl .nil 6 []], []⟩, ⟨none, none, .st 6 (.t 10) (.t 41), []⟩])
        (.seq (.reg [] [⟨(some 42), none, .mv (.t 1), []⟩, ⟨(some 43), none, .fa 0 (.t 10), []⟩, ⟨(some 44), none, .ld 1 false (.t 43), []⟩, ⟨(some 45), none, .callv (.t 42) [(.t 44)], []⟩, ⟨(some 46), none, .mv (.t 45), []⟩, ⟨(some 47), (some (46, true)), .fa 1 (.t 10), []⟩, ⟨(some 48), (some (46, true)), .ld 5 true (.t 47), []⟩, ⟨(some 49), (some (46, true)), .mv (.t 1), []⟩, ⟨(some 50), (some (46, true)), .call 57 [(.t 48), (.t 49)], []⟩, ⟨(some 51), none, .pick (.t 46) (.t 50) (.k (.bool false)), []⟩, ⟨(some 6), none, .mv (.t 51), []⟩])
        (.seq (.reg [] [⟨(some 52), none, .mv (.t 6), []⟩, ⟨(some 53), none, .not (.t 52), []⟩])
        (.cond (.t 53) (.exit 0) (.skip))))))
       (.reg [] [⟨(some 54), none, .bi .add .i64 (.t 38) (.k (.int .i64 1)), []⟩, ⟨(some 38), none, .mv (.t 54), []⟩])))))))) (.seq (.reg [] [⟨(some 14), none, .ld 5 true (.t 2), []⟩, ⟨(some 15), none, .call 85 [(.t 14)], []⟩, ⟨(some 4), none, .mv (.t 15), []⟩])
     (.ret))))))))
  (.seq (.reg [] [⟨(some 55), none, .mv (.t 6), []⟩, ⟨(some 56), none, .mv (.t 55), []⟩, ⟨(some 57), (some (56, true)), .ld 5 true (.t 5), []⟩, ⟨(some 58), (some (56, true)), .call 86 [(.t 57)], []⟩, ⟨(some 59), none, .pick (.t 56) (.t 58) (.k (.bool false)), []⟩, ⟨(some 4), none, .mv (.t 59), []⟩])
  (.ret)))))))⟩
theorem ck57 : chkFn Tryd.prog 57 ir57 = true := by kernel_rfl

/-- seine letters.Name -/
def ir58 : AFn := ⟨28, 1, [.t 2], .seq (.reg [] [⟨(some 2), none, .mv (.k (.bool false)), []⟩])
  (.seq (.seq (.reg [] [⟨(some 4), none, .mv (.t 0), []⟩, ⟨(some 5), none, .lens (.t 4), []⟩, ⟨(some 6), none, .mv (.k (.int .i64 0)), []⟩])
  (.block 0 (.loop [0, 5, 6] (.seq (.reg [] [⟨(some 7), none, .bi .lss .i64 (.t 6) (.t 5), []⟩])
    (.seq (.cond (.t 7) (.skip) (.exit 0))
    (.seq (.block 1 (.seq (.reg [] [⟨(some 8), none, .mv (.t 6), []⟩, ⟨(some 3), none, .mv (.t 8), []⟩])
     (.seq (.reg [] [⟨(some 9), none, .mv (.t 0), []⟩, ⟨(some 10), none, .mv (.t 3), []⟩, ⟨(some 11), none, .ixs (.t 9) (.t 10), []⟩, ⟨(some 12), none, .call 87 [(.t 11)], []⟩, ⟨(some 13), none, .not (.t 12), []⟩, ⟨(some 14), none, .mv (.t 13), []⟩, ⟨(some 15), (some (14, true)), .mv (.t 3), []⟩, ⟨(some 16), (some (14, true)), .bi .eql .i64 (.t 15) (.k (.int .i64 0)), []⟩, ⟨(some 17), (some (14, true)), .mv (.t 16), []⟩, ⟨(some 18), (some (17, false)), .mv (.t 0), []⟩, ⟨(some 19), (some (17, false)), .mv (.t 3), []⟩, ⟨(some 20), (some (17, false)), .ixs (.t 18) (.t 19), []⟩, ⟨(some 21), (some (17, false)), .call 88 [(.t 20)], []⟩, ⟨(some 22), (some (17, false)), .not (.t 21), []⟩, ⟨(some 23), (some (14, true)), .pick (.t 17) (.k (.bool true)) (.t 22), []⟩, ⟨(some 24), none, .pick (.t 14) (.t 23) (.k (.bool false)), []⟩])
     (.cond (.t 24) (.seq (.reg [] [⟨(some 2), none, .mv (.k (.bool false)), []⟩])
      (.ret)) (.skip)))))
    (.reg [] [⟨(some 25), none, .bi .add .i64 (.t 6) (.k (.int .i64 1)), []⟩, ⟨(some 6), none, .mv (.t 25), []⟩])))))))
  (.seq (.reg [] [⟨(some 26), none, .mv (.t 0), []⟩, ⟨(some 27), none, .bs .neq (.t 26) (.k (.str [])), []⟩, ⟨(some 2), none, .mv (.t 27), []⟩])
  (.ret)))⟩
theorem ck58 : chkFn Tryd.prog 58 ir58 = true := by kernel_rfl

/-- seine seineref1.Written -/
def ir59 : AFn := ⟨112, 1, [.t 2], .seq (.reg [] [⟨(some 1), none, .boxv (.t 0), []⟩, ⟨(some 2), none, .mv (.k (.sl .nil 2 [])), []⟩])
  (.seq (.seq (.reg [] [⟨(some 7), none, .fa 0 (.t 1), []⟩, ⟨(some 8), none, .ld 1 false (.t 7), []⟩])
  (.block 0 (.seq (.reg [] [⟨(some 10), none, .bi .eql .i64 (.t 8) (.k (.int .i64 0)), []⟩, ⟨(some 9), none, .mv (.t 10), []⟩])
   (.cond (.t 9) (.seq (.reg [] [⟨(some 11), none, .call 89 [(.k (.str [110, 117, 108, 108]))], []⟩, ⟨(some 12), none, .bls 2 1 [.int .i64 0, .str []] [(0, (.t 11))], []⟩, ⟨(some 2), none, .mv (.t 12), []⟩])
    (.ret)) (.seq (.reg [] [⟨(some 14), none, .bi .eql .i64 (.t 8) (.k (.int .i64 1)), []⟩, ⟨(some 13), none, .mv (.t 14), []⟩])
    (.cond (.t 13) (.seq (.seq (.reg [] [⟨(some 15), none, .fa 1 (.t 1), []⟩, ⟨(some 16), none, .ld 1 false (.t 15), []⟩, ⟨(some 17), none, .bi .eql .i64 (.t 16) (.k (.int .i64 1)), []⟩])
     (.cond (.t 17) (.seq (.reg [] [⟨(some 18), none, .call 89 [(.k (.str [116, 114, 117, 101]))], []⟩, ⟨(some 19), none, .bls 2 1 [.int .i64 0, .str []] [(0, (.t 18))], []⟩, ⟨(some 2), none, .mv (.t 19), []⟩])
      (.ret)) (.skip)))
     (.seq (.reg [] [⟨(some 20), none, .call 89 [(.k (.str [102, 97, 108, 115, 101]))], []⟩, ⟨(some 21), none, .bls 2 1 [.int .i64 0, .str []] [(0, (.t 20))], []⟩, ⟨(some 2), none, .mv (.t 21), []⟩])
     (.ret))) (.seq (.reg [] [⟨(some 23), none, .bi .eql .i64 (.t 8) (.k (.int .i64 2)), []⟩, ⟨(some 22), none, .mv (.t 23), []⟩])
     (.cond (.t 22) (.seq (.reg [] [⟨(some 24), none, .fa 1 (.t 1), []⟩, ⟨(some 25), none, .ld 1 false (.t 24), []⟩, ⟨(some 26), none, .call 90 [(.t 25)], []⟩, ⟨(some 27), none, .bld [.int .i64 0, .str []] [(0, 1, (.k (.int .i64 3))), (1, 1, (.t 26))], []⟩, ⟨(some 28), none, .bls 2 1 [.int .i64 0, .str []] [(0, (.t 27))], []⟩, ⟨(some 2), none, .mv (.t 28), []⟩])
      (.ret)) (.seq (.reg [] [⟨(some 30), none, .bi .eql .i64 (.t 8) (.k (.int .i64 3)), []⟩, ⟨(some 29), none, .mv (.t 30), []⟩])
      (.cond (.t 29) (.seq (.reg [0, 1, 3, 4, 2, 5, 6, 7] [⟨(some 31), none, .fa 2 (.t 1), []⟩, ⟨(some 32), none, .ld 1 false (.t 31), []⟩, ⟨(some 34), none, .fa 2 (.t 1), []⟩, ⟨(some 35), none, .ld 1 false (.t 34), []⟩, ⟨(some 33), none, .call 60 [(.t 32)], [3]⟩, ⟨(some 36), none, .bld [.int .i64 0, .str []] [(0, 1, (.t 33)), (1, 1, (.t 35))], []⟩, ⟨(some 37), none, .bls 2 1 [.int .i64 0, .str []] [(0, (.t 36))], []⟩, ⟨(some 2), none, .mv (.t 37), []⟩])
       (.ret)) (.seq (.reg [] [⟨(some 39), none, .bi .eql .i64 (.t 8) (.k (.int .i64 4)), []⟩, ⟨(some 38), none, .mv (.t 39), []⟩])
       (.cond (.t 38) (.seq (.reg [] [⟨(some 40), none, .fa 2 (.t 1), []⟩, ⟨(some 41), none, .ld 1 false (.t 40), []⟩, ⟨(some 42), none, .bld [.int .i64 0, .str []] [(0, 1, (.k (.int .i64 5))), (1, 1, (.t 41))], []⟩, ⟨(some 43), none, .bls 2 1 [.int .i64 0, .str []] [(0, (.t 42))], []⟩, ⟨(some 2), none, .mv (.t 43), []⟩])
        (.ret)) (.seq (.reg [] [⟨(some 45), none, .bi .eql .i64 (.t 8) (.k (.int .i64 5)), []⟩, ⟨(some 44), none, .mv (.t 45), []⟩])
        (.cond (.t 44) (.seq (.reg [] [⟨(some 46), none, .fa 2 (.t 1), []⟩, ⟨(some 47), none, .ld 1 false (.t 46), []⟩, ⟨(some 48), none, .call 89 [(.t 47)], []⟩, ⟨(some 49), none, .bls 2 1 [.int .i64 0, .str []] [(0, (.t 48))], []⟩, ⟨(some 2), none, .mv (.t 49), []⟩])
         (.ret)) (.seq (.reg [] [⟨(some 51), none, .bi .eql .i64 (.t 8) (.k (.int .i64 8)), []⟩, ⟨(some 50), none, .mv (.t 51), []⟩])
         (.cond (.t 50) (.seq (.reg [1, 2, 0, 3, 4, 5] [⟨(some 53), none, .fa 2 (.t 1), []⟩, ⟨(some 54), none, .ld 1 false (.t 53), []⟩, ⟨(some 52), none, .call 91 [(.k (.str [36]))], [1]⟩, ⟨(some 55), none, .call 89 [(.t 54)], []⟩, ⟨(some 56), none, .bls 2 2 [.int .i64 0, .str []] [(0, (.t 52)), (1, (.t 55))], []⟩, ⟨(some 2), none, .mv (.t 56), []⟩])
          (.ret)) (.seq (.reg [] [⟨(some 58), none, .bi .eql .i64 (.t 8) (.k (.int .i64 6)), []⟩, ⟨(some 57), none, .mv (.t 58), []⟩])
          (.cond (.t 57) (.seq (.reg [] [⟨(some 59), none, .call 91 [(.k (.str [91]))], []⟩, ⟨(some 60), none, .bls 2 1 [.int .i64 0, .str []] [(0, (.t 59))], []⟩, ⟨(some 3), none, .mv (.t 60), []⟩])
           (.seq (.seq (.reg [] [⟨(some 4), none, .mv (.k (.int .i64 0)), []⟩])
           (.block 1 (.loop [1, 3, 4] (.seq (.seq (.reg [] [⟨(some 61), none, .mv (.t 4), []⟩, ⟨(some 62), none, .fa 3 (.t 1), []⟩, ⟨(some 63), none, .ld 1 false (.t 62), []⟩, ⟨(some 64), none, .len (.t 63), []⟩, ⟨(some 65), none, .bi .lss .i64 (.t 61) (.t 64), []⟩])
             (.cond (.t 65) (.skip) (.exit 1)))
             (.seq (.block 2 (.reg [] [⟨(some 68), none, .mv (.t 3), []⟩, ⟨(some 69), none, .fa 3 (.t 1), []⟩, ⟨(some 70), none, .ld 1 false (.t 69), []⟩, ⟨(some 71), none, .mv (.t 4), []⟩, ⟨(some 72), none, .ia 5 (.t 70) (.t 71), []⟩, ⟨(some 73), none, .ld 5 true (.t 72), []⟩, ⟨(some 74), none, .call 59 [(.t 73)], []⟩, ⟨(some 75), none, .app 2 24 (.t 68) (.t 74), []⟩, ⟨(some 3), none, .mv (.t 75), []⟩]))
             (.reg [] [⟨(some 66), none, .mv (.t 4), []⟩, ⟨(some 67), none, .bi .add .i64 (.t 66) (.k (.int .i64 1)), []⟩, ⟨(some 4), none, .mv (.t 67), []⟩]))))))
           (.seq (.reg [] [⟨(some 76), none, .mv (.t 3), []⟩, ⟨(some 77), none, .call 91 [(.k (.str [93]))], []⟩, ⟨(some 78), none, .bls 2 1 [.int .i64 0, .str []] [(0, (.t 77))], []⟩, ⟨(some 79), none, .app 2 24 (.t 76) (.t 78), []⟩, ⟨(some 2), none, .mv (.t 79), []⟩])
           (.ret)))) (.skip)))))))))))))))))))
  (.seq (.reg [] [⟨(some 80), none, .call 91 [(.k (.str [123]))], []⟩, ⟨(some 81), none, .bls 2 1 [.int .i64 0, .str []] [(0, (.t 80))], []⟩, ⟨(some 5), none, .mv (.t 81), []⟩])
  (.seq (.seq (.reg [] [⟨(some 6), none, .mv (.k (.int .i64 0)), []⟩])
  (.block 3 (.loop [1, 5, 6] (.seq (.seq (.reg [] [⟨(some 82), none, .mv (.t 6), []⟩, ⟨(some 83), none, .fa 4 (.t 1), []⟩, ⟨(some 84), none, .ld 1 false (.t 83), []⟩, ⟨(some 85), none, .len (.t 84), []⟩, ⟨(some 86), none, .bi .lss .i64 (.t 82) (.t 85), []⟩])
    (.cond (.t 86) (.skip) (.exit 3)))
    (.seq (.block 4 (.reg [0, 1, 2, 3, 4, 5, 6, 11, 12, 13, 14, 15, 16, 7, 8, 9, 10, 17, 18, 19] [⟨(some 89), none, .mv (.t 5), []⟩, ⟨(some 90), none, .fa 4 (.t 1), []⟩, ⟨(some 91), none, .ld 1 false (.t 90), []⟩, ⟨(some 92), none, .mv (.t 6), []⟩, ⟨(some 93), none, .ia 6 (.t 91) (.t 92), []⟩, ⟨(some 94), none, .fa 0 (.t 93), []⟩, ⟨(some 95), none, .ld 1 false (.t 94), []⟩, ⟨(some 100), none, .fa 4 (.t 1), []⟩, ⟨(some 101), none, .ld 1 false (.t 100), []⟩, ⟨(some 102), none, .mv (.t 6), []⟩, ⟨(some 103), none, .ia 6 (.t 101) (.t 102), []⟩, ⟨(some 104), none, .fa 1 (.t 103), []⟩, ⟨(some 105), none, .ld 5 true (.t 104), []⟩, ⟨(some 96), none, .call 89 [(.t 95)], [8, 12]⟩, ⟨(some 97), none, .call 91 [(.k (.str [58]))], [8, 12]⟩, ⟨(some 98), none, .bls 2 2 [.int .i64 0, .str []] [(0, (.t 96)), (1, (.t 97))], []⟩, ⟨(some 99), none, .app 2 24 (.t 89) (.t 98), [8, 12]⟩, ⟨(some 106), none, .call 59 [(.t 105)], []⟩, ⟨(some 107), none, .app 2 24 (.t 99) (.t 106), []⟩, ⟨(some 5), none, .mv (.t 107), []⟩]))
    (.reg [] [⟨(some 87), none, .mv (.t 6), []⟩, ⟨(some 88), none, .bi .add .i64 (.t 87) (.k (.int .i64 1)), []⟩, ⟨(some 6), none, .mv (.t 88), []⟩]))))))
  (.seq (.reg [] [⟨(some 108), none, .mv (.t 5), []⟩, ⟨(some 109), none, .call 91 [(.k (.str [125]))], []⟩, ⟨(some 110), none, .bls 2 1 [.int .i64 0, .str []] [(0, (.t 109))], []⟩, ⟨(some 111), none, .app 2 24 (.t 108) (.t 110), []⟩, ⟨(some 2), none, .mv (.t 111), []⟩])
  (.ret)))))⟩
theorem ck59 : chkFn Tryd.prog 59 ir59 = true := by kernel_rfl

/-- seine seineref1.Number -/
def ir60 : AFn := ⟨15, 1, [.t 2], .seq (.reg [] [⟨(some 2), none, .mv (.k (.int .i64 0)), []⟩])
  (.seq (.reg [] [⟨(some 6), none, .mv (.t 0), []⟩, ⟨(some 7), none, .call 92 [(.t 6)], []⟩, ⟨(some 5), none, .mv (.t 7), []⟩, ⟨(some 8), none, .ext (.t 5) 0, []⟩, ⟨(some 9), none, .ext (.t 5) 1, []⟩, ⟨(some 3), none, .mv (.t 8), []⟩, ⟨(some 4), none, .mv (.t 9), []⟩])
  (.seq (.seq (.reg [] [⟨(some 10), none, .mv (.t 3), []⟩, ⟨(some 11), none, .mv (.t 0), []⟩, ⟨(some 12), none, .lens (.t 11), []⟩, ⟨(some 13), none, .bi .neq .i64 (.t 10) (.t 12), []⟩])
  (.cond (.t 13) (.seq (.reg [] [⟨(some 2), none, .mv (.k (.int .i64 0)), []⟩])
   (.ret)) (.skip)))
  (.seq (.reg [] [⟨(some 14), none, .mv (.t 4), []⟩, ⟨(some 2), none, .mv (.t 14), []⟩])
  (.ret))))⟩
theorem ck60 : chkFn Tryd.prog 60 ir60 = true := by kernel_rfl

/-- seine seineref1.Int64 -/
def ir61 : AFn := ⟨41, 1, [.t 2, .t 3], .seq (.reg [] [⟨(some 2), none, .mv (.k (.int .i64 0)), []⟩, ⟨(some 3), none, .mv (.k (.bool false)), []⟩])
  (.seq (.reg [] [⟨(some 4), none, .mv (.k (.int .i64 0)), []⟩, ⟨(some 5), none, .mv (.k (.bool false)), []⟩])
  (.join [0, 4, 5] (.seq (.reg [] [⟨(some 8), none, .mv (.t 0), []⟩, ⟨(some 9), none, .bs .neq (.t 8) (.k (.str [])), []⟩, ⟨(some 10), none, .mv (.t 9), []⟩, ⟨(some 11), (some (10, true)), .mv (.t 0), []⟩, ⟨(some 12), (some (10, true)), .ixs (.t 11) (.k (.int .i64 0)), []⟩, ⟨(some 13), (some (10, true)), .bi .eql .u8 (.t 12) (.k (.int .u8 45)), []⟩, ⟨(some 14), none, .pick (.t 10) (.t 13) (.k (.bool false)), []⟩])
  (.cond (.t 14) (.reg [] [⟨(some 4), none, .mv (.k (.int .i64 1)), []⟩, ⟨(some 5), none, .mv (.k (.bool true)), []⟩]) (.skip)))
  (.seq (.reg [] [⟨(some 6), none, .mv (.k (.int .i64 0)), []⟩])
  (.seq (.block 0 (.loop [0, 4, 5, 6] (.seq (.seq (.reg [] [⟨(some 15), none, .mv (.t 4), []⟩, ⟨(some 16), none, .mv (.t 0), []⟩, ⟨(some 17), none, .lens (.t 16), []⟩, ⟨(some 18), none, .bi .lss .i64 (.t 15) (.t 17), []⟩])
    (.cond (.t 18) (.skip) (.exit 0)))
    (.seq (.block 1 (.seq (.reg [] [⟨(some 21), none, .mv (.t 0), []⟩, ⟨(some 22), none, .mv (.t 4), []⟩, ⟨(some 23), none, .ixs (.t 21) (.t 22), []⟩, ⟨(some 24), none, .bi .sub .u8 (.t 23) (.k (.int .u8 48)), []⟩, ⟨(some 25), none, .cvi .i64 (.t 24), []⟩, ⟨(some 7), none, .mv (.t 25), []⟩])
     (.seq (.seq (.reg [] [⟨(some 26), none, .mv (.t 6), []⟩, ⟨(some 27), none, .mv (.t 7), []⟩, ⟨(some 28), none, .bi .add .i64 (.k (.int .i64 (-9223372036854775808))) (.t 27), []⟩, ⟨(some 29), none, .bi .quo .i64 (.t 28) (.k (.int .i64 10)), []⟩, ⟨(some 30), none, .bi .lss .i64 (.t 26) (.t 29), []⟩])
     (.cond (.t 30) (.seq (.reg [] [⟨(some 2), none, .mv (.k (.int .i64 0)), []⟩, ⟨(some 3), none, .mv (.k (.bool false)), []⟩])
      (.ret)) (.skip)))
     (.reg [] [⟨(some 31), none, .mv (.t 6), []⟩, ⟨(some 32), none, .bi .mul .i64 (.k (.int .i64 10)) (.t 31), []⟩, ⟨(some 33), none, .mv (.t 7), []⟩, ⟨(some 34), none, .bi .sub .i64 (.t 32) (.t 33), []⟩, ⟨(some 6), none, .mv (.t 34), []⟩]))))
    (.reg [] [⟨(some 19), none, .mv (.t 4), []⟩, ⟨(some 20), none, .bi .add .i64 (.t 19) (.k (.int .i64 1)), []⟩, ⟨(some 4), none, .mv (.t 20), []⟩])))))
  (.seq (.seq (.reg [] [⟨(some 35), none, .mv (.t 5), []⟩])
  (.cond (.t 35) (.seq (.reg [] [⟨(some 36), none, .mv (.t 6), []⟩, ⟨(some 2), none, .mv (.t 36), []⟩, ⟨(some 3), none, .mv (.k (.bool true)), []⟩])
   (.ret)) (.skip)))
  (.seq (.seq (.reg [] [⟨(some 37), none, .mv (.t 6), []⟩, ⟨(some 38), none, .bi .eql .i64 (.t 37) (.k (.int .i64 (-9223372036854775808))), []⟩])
  (.cond (.t 38) (.seq (.reg [] [⟨(some 2), none, .mv (.k (.int .i64 0)), []⟩, ⟨(some 3), none, .mv (.k (.bool false)), []⟩])
   (.ret)) (.skip)))
  (.seq (.reg [] [⟨(some 39), none, .mv (.t 6), []⟩, ⟨(some 40), none, .ineg (.t 39), []⟩, ⟨(some 2), none, .mv (.t 40), []⟩, ⟨(some 3), none, .mv (.k (.bool true)), []⟩])
  (.ret))))))))⟩
theorem ck61 : chkFn Tryd.prog 61 ir61 = true := by kernel_rfl

/-- seine seineref1.Good -/
def ir62 : AFn := ⟨11, 1, [.t 2], .seq (.reg [] [⟨(some 2), none, .mv (.k (.bool false)), []⟩])
  (.seq (.reg [] [⟨(some 6), none, .mv (.t 0), []⟩, ⟨(some 7), none, .call 93 [(.t 6)], []⟩, ⟨(some 5), none, .mv (.t 7), []⟩, ⟨(some 8), none, .ext (.t 5) 0, []⟩, ⟨(some 9), none, .ext (.t 5) 1, []⟩, ⟨(some 3), none, .mv (.t 8), []⟩, ⟨(some 4), none, .mv (.t 9), []⟩])
  (.seq (.reg [] [⟨(some 10), none, .mv (.t 4), []⟩, ⟨(some 2), none, .mv (.t 10), []⟩])
  (.ret)))⟩
theorem ck62 : chkFn Tryd.prog 62 ir62 = true := by kernel_rfl

/-- seine seineref1.Name -/
def ir63 : AFn := ⟨30, 1, [.t 2], .seq (.reg [] [⟨(some 2), none, .mv (.k (.bool false)), []⟩])
  (.seq (.seq (.reg [] [⟨(some 4), none, .mv (.t 0), []⟩, ⟨(some 5), none, .bs .eql (.t 4) (.k (.str [])), []⟩, ⟨(some 6), none, .mv (.t 5), []⟩, ⟨(some 7), (some (6, false)), .mv (.t 0), []⟩, ⟨(some 8), (some (6, false)), .ixs (.t 7) (.k (.int .i64 0)), []⟩, ⟨(some 9), (some (6, false)), .call 94 [(.t 8)], []⟩, ⟨(some 10), (some (6, false)), .not (.t 9), []⟩, ⟨(some 11), none, .pick (.t 6) (.k (.bool true)) (.t 10), []⟩])
  (.cond (.t 11) (.seq (.reg [] [⟨(some 2), none, .mv (.k (.bool false)), []⟩])
   (.ret)) (.skip)))
  (.seq (.seq (.reg [] [⟨(some 3), none, .mv (.k (.int .i64 1)), []⟩])
  (.block 0 (.loop [0, 3] (.seq (.seq (.reg [] [⟨(some 12), none, .mv (.t 3), []⟩, ⟨(some 13), none, .mv (.t 0), []⟩, ⟨(some 14), none, .lens (.t 13), []⟩, ⟨(some 15), none, .bi .lss .i64 (.t 12) (.t 14), []⟩])
    (.cond (.t 15) (.skip) (.exit 0)))
    (.seq (.block 1 (.seq (.reg [] [⟨(some 18), none, .mv (.t 0), []⟩, ⟨(some 19), none, .mv (.t 3), []⟩, ⟨(some 20), none, .ixs (.t 18) (.t 19), []⟩, ⟨(some 21), none, .call 94 [(.t 20)], []⟩, ⟨(some 22), none, .not (.t 21), []⟩, ⟨(some 23), none, .mv (.t 22), []⟩, ⟨(some 24), (some (23, true)), .mv (.t 0), []⟩, ⟨(some 25), (some (23, true)), .mv (.t 3), []⟩, ⟨(some 26), (some (23, true)), .ixs (.t 24) (.t 25), []⟩, ⟨(some 27), (some (23, true)), .call 95 [(.t 26)], []⟩, ⟨(some 28), (some (23, true)), .not (.t 27), []⟩, ⟨(some 29), none, .pick (.t 23) (.t 28) (.k (.bool false)), []⟩])
     (.cond (.t 29) (.seq (.reg [] [⟨(some 2), none, .mv (.k (.bool false)), []⟩])
      (.ret)) (.skip))))
    (.reg [] [⟨(some 16), none, .mv (.t 3), []⟩, ⟨(some 17), none, .bi .add .i64 (.t 16) (.k (.int .i64 1)), []⟩, ⟨(some 3), none, .mv (.t 17), []⟩]))))))
  (.seq (.reg [] [⟨(some 2), none, .mv (.k (.bool true)), []⟩])
  (.ret))))⟩
theorem ck63 : chkFn Tryd.prog 63 ir63 = true := by kernel_rfl

/-- seine seineref1.named -/
def ir64 : AFn := ⟨44, 1, [.t 2], .seq (.reg [] [⟨(some 1), none, .boxv (.t 0), []⟩, ⟨(some 2), none, .mv (.k (.bool false)), []⟩])
  (.seq (.seq (.reg [] [⟨(some 3), none, .mv (.k (.int .i64 0)), []⟩])
  (.block 0 (.loop [1, 3] (.seq (.seq (.reg [] [⟨(some 5), none, .mv (.t 3), []⟩, ⟨(some 6), none, .fa 3 (.t 1), []⟩, ⟨(some 7), none, .ld 1 false (.t 6), []⟩, ⟨(some 8), none, .len (.t 7), []⟩, ⟨(some 9), none, .bi .lss .i64 (.t 5) (.t 8), []⟩])
    (.cond (.t 9) (.skip) (.exit 0)))
    (.seq (.block 1 (.seq (.reg [] [⟨(some 12), none, .fa 3 (.t 1), []⟩, ⟨(some 13), none, .ld 1 false (.t 12), []⟩, ⟨(some 14), none, .mv (.t 3), []⟩, ⟨(some 15), none, .ia 5 (.t 13) (.t 14), []⟩, ⟨(some 16), none, .ld 5 true (.t 15), []⟩, ⟨(some 17), none, .call 64 [(.t 16)], []⟩, ⟨(some 18), none, .not (.t 17), []⟩])
     (.cond (.t 18) (.seq (.reg [] [⟨(some 2), none, .mv (.k (.bool false)), []⟩])
      (.ret)) (.skip))))
    (.reg [] [⟨(some 10), none, .mv (.t 3), []⟩, ⟨(some 11), none, .bi .add .i64 (.t 10) (.k (.int .i64 1)), []⟩, ⟨(some 3), none, .mv (.t 11), []⟩]))))))
  (.seq (.seq (.reg [] [⟨(some 4), none, .mv (.k (.int .i64 0)), []⟩])
  (.block 2 (.loop [1, 4] (.seq (.seq (.reg [] [⟨(some 19), none, .mv (.t 4), []⟩, ⟨(some 20), none, .fa 4 (.t 1), []⟩, ⟨(some 21), none, .ld 1 false (.t 20), []⟩, ⟨(some 22), none, .len (.t 21), []⟩, ⟨(some 23), none, .bi .lss .i64 (.t 19) (.t 22), []⟩])
    (.cond (.t 23) (.skip) (.exit 2)))
    (.seq (.block 3 (.seq (.reg [] [⟨(some 26), none, .fa 4 (.t 1), []⟩, ⟨(some 27), none, .ld 1 false (.t 26), []⟩, ⟨(some 28), none, .mv (.t 4), []⟩, ⟨(some 29), none, .ia 6 (.t 27) (.t 28), []⟩, ⟨(some 30), none, .fa 0 (.t 29), []⟩, ⟨(some 31), none, .ld 1 false (.t 30), []⟩, ⟨(some 32), none, .call 63 [(.t 31)], []⟩, ⟨(some 33), none, .not (.t 32), []⟩, ⟨(some 34), none, .mv (.t 33), []⟩, ⟨(some 35), (some (34, false)), .fa 4 (.t 1), []⟩, ⟨(some 36), (some (34, false)), .ld 1 false (.t 35), []⟩, ⟨(some 37), (some (34, false)), .mv (.t 4), []⟩, ⟨(some 38), (some (34, false)), .ia 6 (.t 36) (.t 37), []⟩, ⟨(some 39), (some (34, false)), .fa 1 (.t 38), []⟩, ⟨(some 40), (some (34, false)), .ld 5 true (.t 39), []⟩, ⟨(some 41), (some (34, false)), .call 64 [(.t 40)], []⟩, ⟨(some 42), (some (34, false)), .not (.t 41), []⟩, ⟨(some 43), none, .pick (.t 34) (.k (.bool true)) (.t 42), []⟩])
     (.cond (.t 43) (.seq (.reg [] [⟨(some 2), none, .mv (.k (.bool false)), []⟩])
      (.ret)) (.skip))))
    (.reg [] [⟨(some 24), none, .mv (.t 4), []⟩, ⟨(some 25), none, .bi .add .i64 (.t 24) (.k (.int .i64 1)), []⟩, ⟨(some 4), none, .mv (.t 25), []⟩]))))))
  (.seq (.reg [] [⟨(some 2), none, .mv (.k (.bool true)), []⟩])
  (.ret))))⟩
theorem ck64 : chkFn Tryd.prog 64 ir64 = true := by kernel_rfl

/-- seine value.vars -/
def ir65 : AFn := ⟨51, 2, [.t 4], .seq (.reg [] [⟨(some 3), none, .boxv (.t 1), []⟩, ⟨(some 4), none, .mv (.k (.sl .nil 1 [])), []⟩])
  (.seq (.seq (.reg [] [⟨(some 9), none, .fa 0 (.t 3), []⟩, ⟨(some 10), none, .ld 1 false (.t 9), []⟩])
  (.block 0 (.seq (.reg [] [⟨(some 12), none, .bi .eql .i64 (.t 10) (.k (.int .i64 8)), []⟩, ⟨(some 11), none, .mv (.t 12), []⟩])
   (.cond (.t 11) (.seq (.reg [] [⟨(some 13), none, .mv (.t 0), []⟩, ⟨(some 14), none, .fa 2 (.t 3), []⟩, ⟨(some 15), none, .ld 1 false (.t 14), []⟩, ⟨(some 16), none, .call 96 [(.t 13), (.t 15)], []⟩, ⟨(some 17), none, .not (.t 16), []⟩])
    (.cond (.t 17) (.reg [] [⟨(some 18), none, .mv (.t 0), []⟩, ⟨(some 19), none, .fa 2 (.t 3), []⟩, ⟨(some 20), none, .ld 1 false (.t 19), []⟩, ⟨(some 21), none, .bls 1 1 [.str []] [(0, (.t 20))], []⟩, ⟨(some 22), none, .app 1 16 (.t 18) (.t 21), []⟩, ⟨(some 0), none, .mv (.t 22), []⟩]) (.skip))) (.seq (.reg [] [⟨(some 24), none, .bi .eql .i64 (.t 10) (.k (.int .i64 6)), []⟩, ⟨(some 23), none, .mv (.t 24), []⟩])
    (.cond (.t 23) (.seq (.reg [] [⟨(some 25), none, .fa 3 (.t 3), []⟩, ⟨(some 26), none, .ld 1 false (.t 25), []⟩, ⟨(some 27), none, .len (.t 26), []⟩, ⟨(some 28), none, .mv (.k (.int .i64 0)), []⟩])
     (.block 1 (.loop [0, 26, 27, 28] (.seq (.reg [] [⟨(some 29), none, .bi .lss .i64 (.t 28) (.t 27), []⟩])
       (.seq (.cond (.t 29) (.skip) (.exit 1))
       (.seq (.block 2 (.seq (.reg [] [⟨(some 30), none, .ia 5 (.t 26) (.t 28), []⟩, ⟨(some 31), none, .ld 5 true (.t 30), []⟩, ⟨(some 6), none, .alloc [.int .i64 0, .int .i64 0, .str [], .sl .nil 5 [], .sl .nil 6 []], []⟩, ⟨none, none, .st 5 (.t 6) (.t 31), []⟩])
        (.reg [] [⟨(some 32), none, .mv (.t 0), []⟩, ⟨(some 33), none, .ld 5 true (.t 6), []⟩, ⟨(some 34), none, .call 65 [(.t 32), (.t 33)], []⟩, ⟨(some 0), none, .mv (.t 34), []⟩])))
       (.reg [] [⟨(some 35), none, .bi .add .i64 (.t 28) (.k (.int .i64 1)), []⟩, ⟨(some 28), none, .mv (.t 35), []⟩]))))))) (.seq (.reg [] [⟨(some 37), none, .bi .eql .i64 (.t 10) (.k (.int .i64 7)), []⟩, ⟨(some 36), none, .mv (.t 37), []⟩])
     (.cond (.t 36) (.seq (.reg [] [⟨(some 38), none, .fa 4 (.t 3), []⟩, ⟨(some 39), none, .ld 1 false (.t 38), []⟩, ⟨(some 40), none, .len (.t 39), []⟩, ⟨(some 41), none, .mv (.k (.int .i64 0)), []⟩])
      (.block 3 (.loop [0, 39, 40, 41] (.seq (.reg [] [⟨(some 42), none, .bi .lss .i64 (.t 41) (.t 40), []⟩])
        (.seq (.cond (.t 42) (.skip) (.exit 3))
        (.seq (.block 4 (.seq (.reg [] [⟨(some 43), none, .ia 6 (.t 39) (.t 41), []⟩, ⟨(some 44), none, .ld 6 true (.t 43), []⟩, ⟨(some 8), none, .alloc [.str [], .int .i64 0, .int .i64 0, .str [], .sl .nil 5 [], .sl .nil 6 []], []⟩, ⟨none, none, .st 6 (.t 8) (.t 44), []⟩])
         (.reg [] [⟨(some 45), none, .mv (.t 0), []⟩, ⟨(some 46), none, .fa 1 (.t 8), []⟩, ⟨(some 47), none, .ld 5 true (.t 46), []⟩, ⟨(some 48), none, .call 65 [(.t 45), (.t 47)], []⟩, ⟨(some 0), none, .mv (.t 48), []⟩])))
        (.reg [] [⟨(some 49), none, .bi .add .i64 (.t 41) (.k (.int .i64 1)), []⟩, ⟨(some 41), none, .mv (.t 49), []⟩]))))))) (.skip)))))))))
  (.seq (.reg [] [⟨(some 50), none, .mv (.t 0), []⟩, ⟨(some 4), none, .mv (.t 50), []⟩])
  (.ret)))⟩
theorem ck65 : chkFn Tryd.prog 65 ir65 = true := by kernel_rfl

/-- seine seineref1.vars -/
def ir66 : AFn := ⟨62, 2, [.t 4], .seq (.reg [] [⟨(some 2), none, .boxv (.t 0), []⟩, ⟨(some 4), none, .mv (.k (.sl .nil 1 [])), []⟩])
  (.seq (.seq (.reg [] [⟨(some 7), none, .fa 0 (.t 2), []⟩, ⟨(some 8), none, .ld 1 false (.t 7), []⟩, ⟨(some 9), none, .bi .eql .i64 (.t 8) (.k (.int .i64 8)), []⟩, ⟨(some 10), none, .mv (.t 9), []⟩, ⟨(some 11), (some (10, true)), .mv (.t 1), []⟩, ⟨(some 12), (some (10, true)), .fa 2 (.t 2), []⟩, ⟨(some 13), (some (10, true)), .ld 1 false (.t 12), []⟩, ⟨(some 14), (some (10, true)), .call 39 [(.t 11), (.t 13)], []⟩, ⟨(some 15), (some (10, true)), .not (.t 14), []⟩, ⟨(some 16), none, .pick (.t 10) (.t 15) (.k (.bool false)), []⟩])
  (.cond (.t 16) (.reg [] [⟨(some 17), none, .mv (.t 1), []⟩, ⟨(some 18), none, .fa 2 (.t 2), []⟩, ⟨(some 19), none, .ld 1 false (.t 18), []⟩, ⟨(some 20), none, .bls 1 1 [.str []] [(0, (.t 19))], []⟩, ⟨(some 21), none, .app 1 16 (.t 17) (.t 20), []⟩, ⟨(some 1), none, .mv (.t 21), []⟩]) (.skip)))
  (.seq (.seq (.reg [] [⟨(some 5), none, .mv (.k (.int .i64 0)), []⟩])
  (.block 0 (.loop [1, 2, 5] (.seq (.seq (.reg [] [⟨(some 22), none, .mv (.t 5), []⟩, ⟨(some 23), none, .fa 3 (.t 2), []⟩, ⟨(some 24), none, .ld 1 false (.t 23), []⟩, ⟨(some 25), none, .len (.t 24), []⟩, ⟨(some 26), none, .bi .lss .i64 (.t 22) (.t 25), []⟩, ⟨(some 27), none, .mv (.t 26), []⟩, ⟨(some 28), (some (27, true)), .fa 0 (.t 2), []⟩, ⟨(some 29), (some (27, true)), .ld 1 false (.t 28), []⟩, ⟨(some 30), (some (27, true)), .bi .eql .i64 (.t 29) (.k (.int .i64 6)), []⟩, ⟨(some 31), none, .pick (.t 27) (.t 30) (.k (.bool false)), []⟩])
    (.cond (.t 31) (.skip) (.exit 0)))
    (.seq (.block 1 (.reg [] [⟨(some 34), none, .fa 3 (.t 2), []⟩, ⟨(some 35), none, .ld 1 false (.t 34), []⟩, ⟨(some 36), none, .mv (.t 5), []⟩, ⟨(some 37), none, .ia 5 (.t 35) (.t 36), []⟩, ⟨(some 38), none, .ld 5 true (.t 37), []⟩, ⟨(some 39), none, .mv (.t 1), []⟩, ⟨(some 40), none, .call 66 [(.t 38), (.t 39)], []⟩, ⟨(some 1), none, .mv (.t 40), []⟩]))
    (.reg [] [⟨(some 32), none, .mv (.t 5), []⟩, ⟨(some 33), none, .bi .add .i64 (.t 32) (.k (.int .i64 1)), []⟩, ⟨(some 5), none, .mv (.t 33), []⟩]))))))
  (.seq (.seq (.reg [] [⟨(some 6), none, .mv (.k (.int .i64 0)), []⟩])
  (.block 2 (.loop [1, 2, 6] (.seq (.seq (.reg [] [⟨(some 41), none, .mv (.t 6), []⟩, ⟨(some 42), none, .fa 4 (.t 2), []⟩, ⟨(some 43), none, .ld 1 false (.t 42), []⟩, ⟨(some 44), none, .len (.t 43), []⟩, ⟨(some 45), none, .bi .lss .i64 (.t 41) (.t 44), []⟩, ⟨(some 46), none, .mv (.t 45), []⟩, ⟨(some 47), (some (46, true)), .fa 0 (.t 2), []⟩, ⟨(some 48), (some (46, true)), .ld 1 false (.t 47), []⟩, ⟨(some 49), (some (46, true)), .bi .eql .i64 (.t 48) (.k (.int .i64 7)), []⟩, ⟨(some 50), none, .pick (.t 46) (.t 49) (.k (.bool false)), []⟩])
    (.cond (.t 50) (.skip) (.exit 2)))
    (.seq (.block 3 (.reg [] [⟨(some 53), none, .fa 4 (.t 2), []⟩, ⟨(some 54), none, .ld 1 false (.t 53), []⟩, ⟨(some 55), none, .mv (.t 6), []⟩, ⟨(some 56), none, .ia 6 (.t 54) (.t 55), []⟩, ⟨(some 57), none, .fa 1 (.t 56), []⟩, ⟨(some 58), none, .ld 5 true (.t 57), []⟩, ⟨(some 59), none, .mv (.t 1), []⟩, ⟨(some 60), none, .call 66 [(.t 58), (.t 59)], []⟩, ⟨(some 1), none, .mv (.t 60), []⟩]))
    (.reg [] [⟨(some 51), none, .mv (.t 6), []⟩, ⟨(some 52), none, .bi .add .i64 (.t 51) (.k (.int .i64 1)), []⟩, ⟨(some 6), none, .mv (.t 52), []⟩]))))))
  (.seq (.reg [] [⟨(some 61), none, .mv (.t 1), []⟩, ⟨(some 4), none, .mv (.t 61), []⟩])
  (.ret)))))⟩
theorem ck66 : chkFn Tryd.prog 66 ir66 = true := by kernel_rfl

/-- seine seinelaw7.lightDirs -/
def ir67 : AFn := ⟨29, 1, [.t 2], .seq (.reg [] [⟨(some 2), none, .mv (.k (.int .i64 0)), []⟩])
  (.seq (.reg [] [⟨(some 3), none, .mv (.k (.int .i64 0)), []⟩])
  (.seq (.seq (.reg [] [⟨(some 4), none, .mv (.k (.int .i64 0)), []⟩])
  (.block 0 (.loop [0, 3, 4] (.seq (.seq (.reg [] [⟨(some 5), none, .mv (.t 4), []⟩, ⟨(some 6), none, .mv (.t 0), []⟩, ⟨(some 7), none, .len (.t 6), []⟩, ⟨(some 8), none, .bi .lss .i64 (.t 5) (.t 7), []⟩])
    (.cond (.t 8) (.skip) (.exit 0)))
    (.seq (.block 1 (.reg [0, 1, 2, 3, 4, 5, 6, 7, 8, 9, 10, 11, 12, 13, 14, 15, 16, 17] [⟨(some 11), none, .mv (.t 3), []⟩, ⟨(some 12), none, .bi .add .i64 (.t 11) (.k (.int .i64 1)), []⟩, ⟨(some 13), none, .mv (.t 0), []⟩, ⟨(some 14), none, .mv (.t 4), []⟩, ⟨(some 15), none, .ia 2 (.t 13) (.t 14), []⟩, ⟨(some 16), none, .fa 0 (.t 15), []⟩, ⟨(some 17), none, .ld 1 false (.t 16), []⟩, ⟨(some 18), none, .lens (.t 17), []⟩, ⟨(some 19), none, .bi .add .i64 (.t 12) (.t 18), []⟩, ⟨(some 20), none, .mv (.t 0), []⟩, ⟨(some 21), none, .mv (.t 4), []⟩, ⟨(some 22), none, .ia 2 (.t 20) (.t 21), []⟩, ⟨(some 23), none, .fa 1 (.t 22), []⟩, ⟨(some 24), none, .ld 1 false (.t 23), []⟩, ⟨(some 25), none, .bld [.int .i64 0, .int .i64 0, .str [], .sl .nil 5 [], .sl .nil 6 []] [(4, 1, (.t 24))], []⟩, ⟨(some 26), none, .call 16 [(.t 25)], [6]⟩, ⟨(some 27), none, .bi .add .i64 (.t 19) (.t 26), []⟩, ⟨(some 3), none, .mv (.t 27), []⟩]))
    (.reg [] [⟨(some 9), none, .mv (.t 4), []⟩, ⟨(some 10), none, .bi .add .i64 (.t 9) (.k (.int .i64 1)), []⟩, ⟨(some 4), none, .mv (.t 10), []⟩]))))))
  (.seq (.reg [] [⟨(some 28), none, .mv (.t 3), []⟩, ⟨(some 2), none, .mv (.t 28), []⟩])
  (.ret))))⟩
theorem ck67 : chkFn Tryd.prog 67 ir67 = true := by kernel_rfl

/-- seine seinelaw7.lightSels -/
def ir68 : AFn := ⟨57, 1, [.t 2], .seq (.reg [] [⟨(some 2), none, .mv (.k (.int .i64 0)), []⟩])
  (.seq (.reg [] [⟨(some 3), none, .mv (.k (.int .i64 0)), []⟩])
  (.seq (.seq (.reg [] [⟨(some 4), none, .mv (.k (.int .i64 0)), []⟩])
  (.block 0 (.loop [0, 3, 4] (.seq (.seq (.reg [] [⟨(some 5), none, .mv (.t 4), []⟩, ⟨(some 6), none, .mv (.t 0), []⟩, ⟨(some 7), none, .len (.t 6), []⟩, ⟨(some 8), none, .bi .lss .i64 (.t 5) (.t 7), []⟩])
    (.cond (.t 8) (.skip) (.exit 0)))
    (.seq (.block 1 (.reg [0, 1, 2, 3, 4, 5, 6, 7, 8, 9, 10, 11, 12, 13, 14, 15, 16, 17, 18, 19, 20, 21, 22, 23, 24, 25, 26, 27, 28, 31, 32, 33, 34, 35, 38, 39, 40, 41, 42, 29, 30, 36, 37, 43, 44, 45] [⟨(some 11), none, .mv (.t 3), []⟩, ⟨(some 12), none, .bi .add .i64 (.t 11) (.k (.int .i64 1)), []⟩, ⟨(some 13), none, .mv (.t 0), []⟩, ⟨(some 14), none, .mv (.t 4), []⟩, ⟨(some 15), none, .ia 7 (.t 13) (.t 14), []⟩, ⟨(some 16), none, .fa 2 (.t 15), []⟩, ⟨(some 17), none, .ld 1 false (.t 16), []⟩, ⟨(some 18), none, .lens (.t 17), []⟩, ⟨(some 19), none, .bi .add .i64 (.t 12) (.t 18), []⟩, ⟨(some 20), none, .mv (.t 0), []⟩, ⟨(some 21), none, .mv (.t 4), []⟩, ⟨(some 22), none, .ia 7 (.t 20) (.t 21), []⟩, ⟨(some 23), none, .fa 1 (.t 22), []⟩, ⟨(some 24), none, .ld 1 false (.t 23), []⟩, ⟨(some 25), none, .lens (.t 24), []⟩, ⟨(some 26), none, .bi .add .i64 (.t 19) (.t 25), []⟩, ⟨(some 27), none, .mv (.t 0), []⟩, ⟨(some 28), none, .mv (.t 4), []⟩, ⟨(some 29), none, .ia 7 (.t 27) (.t 28), []⟩, ⟨(some 30), none, .fa 5 (.t 29), []⟩, ⟨(some 31), none, .ld 1 false (.t 30), []⟩, ⟨(some 32), none, .lens (.t 31), []⟩, ⟨(some 33), none, .bi .add .i64 (.t 26) (.t 32), []⟩, ⟨(some 34), none, .mv (.t 0), []⟩, ⟨(some 35), none, .mv (.t 4), []⟩, ⟨(some 36), none, .ia 7 (.t 34) (.t 35), []⟩, ⟨(some 37), none, .fa 3 (.t 36), []⟩, ⟨(some 38), none, .ld 1 false (.t 37), []⟩, ⟨(some 39), none, .bld [.int .i64 0, .int .i64 0, .str [], .sl .nil 5 [], .sl .nil 6 []] [(4, 1, (.t 38))], []⟩, ⟨(some 42), none, .mv (.t 0), []⟩, ⟨(some 43), none, .mv (.t 4), []⟩, ⟨(some 44), none, .ia 7 (.t 42) (.t 43), []⟩, ⟨(some 45), none, .fa 4 (.t 44), []⟩, ⟨(some 46), none, .ld 1 false (.t 45), []⟩, ⟨(some 49), none, .mv (.t 0), []⟩, ⟨(some 50), none, .mv (.t 4), []⟩, ⟨(some 51), none, .ia 7 (.t 49) (.t 50), []⟩, ⟨(some 52), none, .fa 6 (.t 51), []⟩, ⟨(some 53), none, .ld 1 false (.t 52), []⟩, ⟨(some 40), none, .call 16 [(.t 39)], [6, 13, 20, 33, 38]⟩, ⟨(some 41), none, .bi .add .i64 (.t 33) (.t 40), []⟩, ⟨(some 47), none, .call 67 [(.t 46)], [6, 13, 20, 38]⟩, ⟨(some 48), none, .bi .add .i64 (.t 41) (.t 47), []⟩, ⟨(some 54), none, .call 68 [(.t 53)], [6, 13, 20]⟩, ⟨(some 55), none, .bi .add .i64 (.t 48) (.t 54), []⟩, ⟨(some 3), none, .mv (.t 55), []⟩]))
    (.reg [] [⟨(some 9), none, .mv (.t 4), []⟩, ⟨(some 10), none, .bi .add .i64 (.t 9) (.k (.int .i64 1)), []⟩, ⟨(some 4), none, .mv (.t 10), []⟩]))))))
  (.seq (.reg [] [⟨(some 56), none, .mv (.t 3), []⟩, ⟨(some 2), none, .mv (.t 56), []⟩])
  (.ret))))⟩
theorem ck68 : chkFn Tryd.prog 68 ir68 = true := by kernel_rfl

/-- slices.IndexFunc   seine api.Op seine api.Op  -/
def ir69 : AFn := ⟨19, 2, [.t 4], .seq (.reg [] [⟨(some 4), none, .mv (.k (.int .i64 0)), []⟩])
  (.seq (.seq (.reg [] [⟨(some 6), none, .mv (.t 0), []⟩, ⟨(some 7), none, .len (.t 6), []⟩, ⟨(some 8), none, .mv (.k (.int .i64 0)), []⟩])
  (.block 0 (.loop [0, 1, 7, 8] (.seq (.reg [] [⟨(some 9), none, .bi .lss .i64 (.t 8) (.t 7), []⟩])
    (.seq (.cond (.t 9) (.skip) (.exit 0))
    (.seq (.block 1 (.seq (.reg [] [⟨(some 10), none, .mv (.t 8), []⟩, ⟨(some 5), none, .mv (.t 10), []⟩])
     (.seq (.reg [] [⟨(some 11), none, .mv (.t 1), []⟩, ⟨(some 12), none, .mv (.t 0), []⟩, ⟨(some 13), none, .mv (.t 5), []⟩, ⟨(some 14), none, .ia 5 (.t 12) (.t 13), []⟩, ⟨(some 15), none, .ld 5 true (.t 14), []⟩, ⟨(some 16), none, .callv (.t 11) [(.t 15)], []⟩])
     (.cond (.t 16) (.seq (.reg [] [⟨(some 17), none, .mv (.t 5), []⟩, ⟨(some 4), none, .mv (.t 17), []⟩])
      (.ret)) (.skip)))))
    (.reg [] [⟨(some 18), none, .bi .add .i64 (.t 8) (.k (.int .i64 1)), []⟩, ⟨(some 8), none, .mv (.t 18), []⟩])))))))
  (.seq (.reg [] [⟨(some 4), none, .mv (.k (.int .i64 (-1))), []⟩])
  (.ret)))⟩
theorem ck69 : chkFn Tryd.prog 69 ir69 = true := by kernel_rfl

/-- seine seineref6.SameDirs -/
def ir71 : AFn := ⟨42, 2, [.t 4], .seq (.reg [] [⟨(some 4), none, .mv (.k (.bool false)), []⟩])
  (.seq (.seq (.reg [] [⟨(some 6), none, .mv (.t 0), []⟩, ⟨(some 7), none, .len (.t 6), []⟩, ⟨(some 8), none, .mv (.t 1), []⟩, ⟨(some 9), none, .len (.t 8), []⟩, ⟨(some 10), none, .bi .neq .i64 (.t 7) (.t 9), []⟩])
  (.cond (.t 10) (.seq (.reg [] [⟨(some 4), none, .mv (.k (.bool false)), []⟩])
   (.ret)) (.skip)))
  (.seq (.seq (.reg [] [⟨(some 5), none, .mv (.k (.int .i64 0)), []⟩])
  (.block 0 (.loop [0, 1, 5] (.seq (.seq (.reg [] [⟨(some 11), none, .mv (.t 5), []⟩, ⟨(some 12), none, .mv (.t 0), []⟩, ⟨(some 13), none, .len (.t 12), []⟩, ⟨(some 14), none, .bi .lss .i64 (.t 11) (.t 13), []⟩])
    (.cond (.t 14) (.skip) (.exit 0)))
    (.seq (.block 1 (.seq (.reg [0, 1, 2, 3, 4, 5, 6, 7, 8, 9, 10, 11, 12, 13, 14, 15, 16, 17, 18, 19, 20, 21, 22, 23, 24] [⟨(some 17), none, .mv (.t 0), []⟩, ⟨(some 18), none, .mv (.t 5), []⟩, ⟨(some 19), none, .ia 2 (.t 17) (.t 18), []⟩, ⟨(some 20), none, .fa 0 (.t 19), []⟩, ⟨(some 21), none, .ld 1 false (.t 20), []⟩, ⟨(some 22), none, .mv (.t 1), []⟩, ⟨(some 23), none, .mv (.t 5), []⟩, ⟨(some 24), none, .ia 2 (.t 22) (.t 23), []⟩, ⟨(some 25), none, .fa 0 (.t 24), []⟩, ⟨(some 26), none, .ld 1 false (.t 25), []⟩, ⟨(some 27), none, .bs .neq (.t 21) (.t 26), []⟩, ⟨(some 28), none, .mv (.t 27), []⟩, ⟨(some 29), (some (28, false)), .mv (.t 0), []⟩, ⟨(some 30), (some (28, false)), .mv (.t 5), []⟩, ⟨(some 31), (some (28, false)), .ia 2 (.t 29) (.t 30), []⟩, ⟨(some 32), (some (28, false)), .fa 1 (.t 31), []⟩, ⟨(some 33), (some (28, false)), .ld 1 false (.t 32), []⟩, ⟨(some 34), (some (28, false)), .mv (.t 1), []⟩, ⟨(some 35), (some (28, false)), .mv (.t 5), []⟩, ⟨(some 36), (some (28, false)), .ia 2 (.t 34) (.t 35), []⟩, ⟨(some 37), (some (28, false)), .fa 1 (.t 36), []⟩, ⟨(some 38), (some (28, false)), .ld 1 false (.t 37), []⟩, ⟨(some 39), (some (28, false)), .call 51 [(.t 33), (.t 38)], []⟩, ⟨(some 40), (some (28, false)), .not (.t 39), []⟩, ⟨(some 41), none, .pick (.t 28) (.k (.bool true)) (.t 40), []⟩])
     (.cond (.t 41) (.seq (.reg [] [⟨(some 4), none, .mv (.k (.bool false)), []⟩])
      (.ret)) (.skip))))
    (.reg [] [⟨(some 15), none, .mv (.t 5), []⟩, ⟨(some 16), none, .bi .add .i64 (.t 15) (.k (.int .i64 1)), []⟩, ⟨(some 5), none, .mv (.t 16), []⟩]))))))
  (.seq (.reg [] [⟨(some 4), none, .mv (.k (.bool true)), []⟩])
  (.ret))))⟩
theorem ck71 : chkFn Tryd.prog 71 ir71 = true := by kernel_rfl

/-- seine seineref6.SameSels -/
def ir72 : AFn := ⟨77, 2, [.t 4], .seq (.reg [] [⟨(some 4), none, .mv (.k (.bool false)), []⟩])
  (.seq (.seq (.reg [] [⟨(some 8), none, .mv (.t 0), []⟩, ⟨(some 9), none, .len (.t 8), []⟩, ⟨(some 10), none, .mv (.t 1), []⟩, ⟨(some 11), none, .len (.t 10), []⟩, ⟨(some 12), none, .bi .neq .i64 (.t 9) (.t 11), []⟩])
  (.cond (.t 12) (.seq (.reg [] [⟨(some 4), none, .mv (.k (.bool false)), []⟩])
   (.ret)) (.skip)))
  (.seq (.seq (.reg [] [⟨(some 5), none, .mv (.k (.int .i64 0)), []⟩])
  (.block 0 (.loop [0, 1, 5] (.seq (.seq (.reg [] [⟨(some 13), none, .mv (.t 5), []⟩, ⟨(some 14), none, .mv (.t 0), []⟩, ⟨(some 15), none, .len (.t 14), []⟩, ⟨(some 16), none, .bi .lss .i64 (.t 13) (.t 15), []⟩])
    (.cond (.t 16) (.skip) (.exit 0)))
    (.seq (.block 1 (.seq (.reg [0, 1, 2, 3, 4, 5, 6, 7, 8, 9, 10, 11] [⟨(some 19), none, .mv (.t 0), []⟩, ⟨(some 20), none, .mv (.t 5), []⟩, ⟨(some 21), none, .ia 7 (.t 19) (.t 20), []⟩, ⟨(some 22), none, .ld 7 true (.t 21), []⟩, ⟨(some 23), none, .mv (.t 1), []⟩, ⟨(some 24), none, .mv (.t 5), []⟩, ⟨(some 25), none, .ia 7 (.t 23) (.t 24), []⟩, ⟨(some 26), none, .ld 7 true (.t 25), []⟩, ⟨(some 6), none, .alloc [.int .i64 0, .str [], .str [], .sl .nil 6 [], .sl .nil 2 [], .str [], .sl .nil 7 []], []⟩, ⟨(some 7), none, .alloc [.int .i64 0, .str [], .str [], .sl .nil 6 [], .sl .nil 2 [], .str [], .sl .nil 7 []], []⟩, ⟨none, none, .st 7 (.t 6) (.t 22), [7]⟩, ⟨none, none, .st 7 (.t 7) (.t 26), []⟩])
     (.seq (.reg [] [⟨(some 27), none, .fa 0 (.t 6), []⟩, ⟨(some 28), none, .ld 1 false (.t 27), []⟩, ⟨(some 29), none, .fa 0 (.t 7), []⟩, ⟨(some 30), none, .ld 1 false (.t 29), []⟩, ⟨(some 31), none, .bi .neq .i64 (.t 28) (.t 30), []⟩, ⟨(some 32), none, .mv (.t 31), []⟩, ⟨(some 33), (some (32, false)), .fa 1 (.t 6), []⟩, ⟨(some 34), (some (32, false)), .ld 1 false (.t 33), []⟩, ⟨(some 35), (some (32, false)), .fa 1 (.t 7), []⟩, ⟨(some 36), (some (32, false)), .ld 1 false (.t 35), []⟩, ⟨(some 37), (some (32, false)), .bs .neq (.t 34) (.t 36), []⟩, ⟨(some 38), none, .pick (.t 32) (.k (.bool true)) (.t 37), []⟩, ⟨(some 39), none, .mv (.t 38), []⟩, ⟨(some 40), (some (39, false)), .fa 2 (.t 6), []⟩, ⟨(some 41), (some (39, false)), .ld 1 false (.t 40), []⟩, ⟨(some 42), (some (39, false)), .fa 2 (.t 7), []⟩, ⟨(some 43), (some (39, false)), .ld 1 false (.t 42), []⟩, ⟨(some 44), (some (39, false)), .bs .neq (.t 41) (.t 43), []⟩, ⟨(some 45), none, .pick (.t 39) (.k (.bool true)) (.t 44), []⟩, ⟨(some 46), none, .mv (.t 45), []⟩, ⟨(some 47), (some (46, false)), .fa 5 (.t 6), []⟩, ⟨(some 48), (some (46, false)), .ld 1 false (.t 47), []⟩, ⟨(some 49), (some (46, false)), .fa 5 (.t 7), []⟩, ⟨(some 50), (some (46, false)), .ld 1 false (.t 49), []⟩, ⟨(some 51), (some (46, false)), .bs .neq (.t 48) (.t 50), []⟩, ⟨(some 52), none, .pick (.t 46) (.k (.bool true)) (.t 51), []⟩, ⟨(some 53), none, .mv (.t 52), []⟩, ⟨(some 54), (some (53, false)), .fa 3 (.t 6), []⟩, ⟨(some 55), (some (53, false)), .ld 1 false (.t 54), []⟩, ⟨(some 56), (some (53, false)), .fa 3 (.t 7), []⟩, ⟨(some 57), (some (53, false)), .ld 1 false (.t 56), []⟩, ⟨(some 58), (some (53, false)), .call 51 [(.t 55), (.t 57)], []⟩, ⟨(some 59), (some (53, false)), .not (.t 58), []⟩, ⟨(some 60), none, .pick (.t 53) (.k (.bool true)) (.t 59), []⟩, ⟨(some 61), none, .mv (.t 60), []⟩, ⟨(some 62), (some (61, false)), .fa 4 (.t 6), []⟩, ⟨(some 63), (some (61, false)), .ld 1 false (.t 62), []⟩, ⟨(some 64), (some (61, false)), .fa 4 (.t 7), []⟩, ⟨(some 65), (some (61, false)), .ld 1 false (.t 64), []⟩, ⟨(some 66), (some (61, false)), .call 71 [(.t 63), (.t 65)], []⟩, ⟨(some 67), (some (61, false)), .not (.t 66), []⟩, ⟨(some 68), none, .pick (.t 61) (.k (.bool true)) (.t 67), []⟩, ⟨(some 69), none, .mv (.t 68), []⟩, ⟨(some 70), (some (69, false)), .fa 6 (.t 6), []⟩, ⟨(some 71), (some (69, false)), .ld 1 false (.t 70), []⟩, ⟨(some 72), (some (69, false)), .fa 6 (.t 7), []⟩, ⟨(some 73), (some (69, false)), .ld 1 false (.t 72), []⟩, ⟨(some 74), (some (69, false)), .call 72 [(.t 71), (.t 73)], []⟩, ⟨(some 75), (some (69, false)), .not (.t 74), []⟩, ⟨(some 76), none, .pick (.t 69) (.k (.bool true)) (.t 75), []⟩])
     (.cond (.t 76) (.seq (.reg [] [⟨(some 4), none, .mv (.k (.bool false)), []⟩])
      (.ret)) (.skip)))))
    (.reg [] [⟨(some 17), none, .mv (.t 5), []⟩, ⟨(some 18), none, .bi .add .i64 (.t 17) (.k (.int .i64 1)), []⟩, ⟨(some 5), none, .mv (.t 18), []⟩]))))))
  (.seq (.reg [] [⟨(some 4), none, .mv (.k (.bool true)), []⟩])
  (.ret))))⟩
theorem ck72 : chkFn Tryd.prog 72 ir72 = true := by kernel_rfl

/-- seine value.word -/
def ir80 : AFn := ⟨5, 1, [.c 2 2 true], .seq (.reg [] [⟨(some 2), none, .alloc [.int .i64 0, .str []], []⟩])
  (.seq (.reg [] [⟨(some 3), none, .mv (.t 0), []⟩, ⟨(some 4), none, .bld [.int .i64 0, .str []] [(0, 1, (.k (.int .i64 2))), (1, 1, (.t 3))], []⟩, ⟨none, none, .st 2 (.t 2) (.t 4), []⟩])
  (.ret))⟩
theorem ck80 : chkFn Tryd.prog 80 ir80 = true := by kernel_rfl

/-- strconv.FormatBool -/
def ir81 : AFn := ⟨5, 1, [.t 2], .seq (.reg [] [⟨(some 2), none, .mv (.k (.str [])), []⟩])
  (.seq (.reg [] [⟨(some 3), none, .mv (.t 0), []⟩, ⟨(some 4), none, .call 110 [(.t 3)], []⟩, ⟨(some 2), none, .mv (.t 4), []⟩])
  (.ret))⟩
theorem ck81 : chkFn Tryd.prog 81 ir81 = true := by kernel_rfl

/-- seine token.Number -/
def ir83 : AFn := ⟨15, 1, [.t 2], .seq (.reg [] [⟨(some 2), none, .mv (.k (.int .i64 0)), []⟩])
  (.seq (.reg [] [⟨(some 6), none, .mv (.t 0), []⟩, ⟨(some 7), none, .call 112 [(.t 6)], []⟩, ⟨(some 5), none, .mv (.t 7), []⟩, ⟨(some 8), none, .ext (.t 5) 0, []⟩, ⟨(some 9), none, .ext (.t 5) 1, []⟩, ⟨(some 3), none, .mv (.t 8), []⟩, ⟨(some 4), none, .mv (.t 9), []⟩])
  (.seq (.seq (.reg [] [⟨(some 10), none, .mv (.t 3), []⟩, ⟨(some 11), none, .mv (.t 0), []⟩, ⟨(some 12), none, .lens (.t 11), []⟩, ⟨(some 13), none, .bi .neq .i64 (.t 10) (.t 12), []⟩])
  (.cond (.t 13) (.seq (.reg [] [⟨(some 2), none, .mv (.k (.int .i64 0)), []⟩])
   (.ret)) (.skip)))
  (.seq (.reg [] [⟨(some 14), none, .mv (.t 4), []⟩, ⟨(some 2), none, .mv (.t 14), []⟩])
  (.ret))))⟩
theorem ck83 : chkFn Tryd.prog 83 ir83 = true := by kernel_rfl

/-- seine value.punct -/
def ir84 : AFn := ⟨5, 1, [.c 2 2 true], .seq (.reg [] [⟨(some 2), none, .alloc [.int .i64 0, .str []], []⟩])
  (.seq (.reg [] [⟨(some 3), none, .mv (.t 0), []⟩, ⟨(some 4), none, .bld [.int .i64 0, .str []] [(0, 1, (.k (.int .i64 1))), (1, 1, (.t 3))], []⟩, ⟨none, none, .st 2 (.t 2) (.t 4), []⟩])
  (.ret))⟩
theorem ck84 : chkFn Tryd.prog 84 ir84 = true := by kernel_rfl

/-- seine value.single -/
def ir85 : AFn := ⟨88, 1, [.t 2], .seq (.reg [] [⟨(some 1), none, .boxv (.t 0), []⟩, ⟨(some 2), none, .mv (.k (.bool false)), []⟩])
  (.seq (.reg [] [⟨(some 4), none, .ld 5 true (.t 1), []⟩, ⟨(some 3), none, .alloc [.int .i64 0, .int .i64 0, .str [], .sl .nil 5 [], .sl .nil 6 []], []⟩, ⟨none, none, .st 5 (.t 3) (.t 4), []⟩])
  (.seq (.reg [] [⟨(some 5), none, .fa 1 (.t 3), []⟩, ⟨none, none, .st 1 (.t 5) (.k (.int .i64 0)), []⟩, ⟨(some 6), none, .fa 2 (.t 3), []⟩, ⟨none, none, .st 1 (.t 6) (.k (.str [])), []⟩])
  (.seq (.seq (.reg [] [⟨(some 7), none, .ld 5 true (.t 3), []⟩, ⟨(some 8), none, .call 86 [(.t 7)], []⟩, ⟨(some 9), none, .not (.t 8), []⟩])
  (.cond (.t 9) (.seq (.reg [] [⟨(some 2), none, .mv (.k (.bool false)), []⟩])
   (.ret)) (.skip)))
  (.seq (.seq (.reg [] [⟨(some 10), none, .fa 0 (.t 1), []⟩, ⟨(some 11), none, .ld 1 false (.t 10), []⟩])
  (.block 0 (.seq (.reg [] [⟨(some 13), none, .bi .eql .i64 (.t 11) (.k (.int .i64 0)), []⟩, ⟨(some 12), none, .mv (.t 13), []⟩])
   (.cond (.t 12) (.seq (.reg [] [⟨(some 14), none, .fa 1 (.t 1), []⟩, ⟨(some 15), none, .ld 1 false (.t 14), []⟩, ⟨(some 16), none, .bi .eql .i64 (.t 15) (.k (.int .i64 0)), []⟩, ⟨(some 17), none, .mv (.t 16), []⟩, ⟨(some 18), (some (17, true)), .fa 2 (.t 1), []⟩, ⟨(some 19), (some (17, true)), .ld 1 false (.t 18), []⟩, ⟨(some 20), (some (17, true)), .bs .eql (.t 19) (.k (.str [])), []⟩, ⟨(some 21), none, .pick (.t 17) (.t 20) (.k (.bool false)), []⟩, ⟨(some 2), none, .mv (.t 21), []⟩])
    (.ret)) (.seq (.reg [] [⟨(some 23), none, .bi .eql .i64 (.t 11) (.k (.int .i64 1)), []⟩, ⟨(some 22), none, .mv (.t 23), []⟩])
    (.cond (.t 22) (.seq (.reg [] [⟨(some 24), none, .fa 1 (.t 1), []⟩, ⟨(some 25), none, .ld 1 false (.t 24), []⟩, ⟨(some 26), none, .bi .eql .i64 (.t 25) (.k (.int .i64 0)), []⟩, ⟨(some 27), none, .mv (.t 26), []⟩, ⟨(some 28), (some (27, false)), .fa 1 (.t 1), []⟩, ⟨(some 29), (some (27, false)), .ld 1 false (.t 28), []⟩, ⟨(some 30), (some (27, false)), .bi .eql .i64 (.t 29) (.k (.int .i64 1)), []⟩, ⟨(some 31), none, .pick (.t 27) (.k (.bool true)) (.t 30), []⟩, ⟨(some 32), none, .mv (.t 31), []⟩, ⟨(some 33), (some (32, true)), .fa 2 (.t 1), []⟩, ⟨(some 34), (some (32, true)), .ld 1 false (.t 33), []⟩, ⟨(some 35), (some (32, true)), .bs .eql (.t 34) (.k (.str [])), []⟩, ⟨(some 36), none, .pick (.t 32) (.t 35) (.k (.bool false)), []⟩, ⟨(some 2), none, .mv (.t 36), []⟩])
     (.ret)) (.seq (.reg [] [⟨(some 38), none, .bi .eql .i64 (.t 11) (.k (.int .i64 2)), []⟩, ⟨(some 37), none, .mv (.t 38), []⟩])
     (.cond (.t 37) (.seq (.reg [] [⟨(some 39), none, .fa 2 (.t 1), []⟩, ⟨(some 40), none, .ld 1 false (.t 39), []⟩, ⟨(some 41), none, .bs .eql (.t 40) (.k (.str [])), []⟩, ⟨(some 2), none, .mv (.t 41), []⟩])
      (.ret)) (.seq (.reg [] [⟨(some 43), none, .bi .eql .i64 (.t 11) (.k (.int .i64 3)), []⟩, ⟨(some 42), none, .mv (.t 43), []⟩])
      (.cond (.t 42) (.seq (.reg [] [⟨(some 44), none, .fa 1 (.t 1), []⟩, ⟨(some 45), none, .ld 1 false (.t 44), []⟩, ⟨(some 46), none, .bi .eql .i64 (.t 45) (.k (.int .i64 0)), []⟩, ⟨(some 47), none, .mv (.t 46), []⟩, ⟨(some 48), (some (47, true)), .fa 2 (.t 1), []⟩, ⟨(some 49), (some (47, true)), .ld 1 false (.t 48), []⟩, ⟨(some 50), (some (47, true)), .call 113 [(.t 49)], []⟩, ⟨(some 51), none, .pick (.t 47) (.t 50) (.k (.bool false)), []⟩, ⟨(some 2), none, .mv (.t 51), []⟩])
       (.ret)) (.seq (.reg [] [⟨(some 53), none, .bi .eql .i64 (.t 11) (.k (.int .i64 4)), []⟩, ⟨(some 52), none, .mv (.t 53), []⟩])
       (.cond (.t 52) (.seq (.reg [] [⟨(some 54), none, .fa 1 (.t 1), []⟩, ⟨(some 55), none, .ld 1 false (.t 54), []⟩, ⟨(some 56), none, .bi .eql .i64 (.t 55) (.k (.int .i64 0)), []⟩, ⟨(some 57), none, .mv (.t 56), []⟩, ⟨(some 58), (some (57, true)), .fa 2 (.t 1), []⟩, ⟨(some 59), (some (57, true)), .ld 1 false (.t 58), []⟩, ⟨(some 60), (some (57, true)), .call 46 [(.t 59)], []⟩, ⟨(some 61), none, .pick (.t 57) (.t 60) (.k (.bool false)), []⟩, ⟨(some 2), none, .mv (.t 61), []⟩])
        (.ret)) (.seq (.reg [] [⟨(some 63), none, .bi .eql .i64 (.t 11) (.k (.int .i64 5)), []⟩, ⟨(some 62), none, .mv (.t 63), []⟩])
        (.cond (.t 62) (.seq (.reg [] [⟨(some 64), none, .fa 1 (.t 1), []⟩, ⟨(some 65), none, .ld 1 false (.t 64), []⟩, ⟨(some 66), none, .bi .eql .i64 (.t 65) (.k (.int .i64 0)), []⟩, ⟨(some 67), none, .mv (.t 66), []⟩, ⟨(some 68), (some (67, true)), .fa 2 (.t 1), []⟩, ⟨(some 69), (some (67, true)), .ld 1 false (.t 68), []⟩, ⟨(some 70), (some (67, true)), .call 58 [(.t 69)], []⟩, ⟨(some 71), none, .pick (.t 67) (.t 70) (.k (.bool false)), []⟩, ⟨(some 72), none, .mv (.t 71), []⟩, ⟨(some 73), (some (72, true)), .fa 2 (.t 1), []⟩, ⟨(some 74), (some (72, true)), .ld 1 false (.t 73), []⟩, ⟨(some 75), (some (72, true)), .call 114 [(.t 74)], []⟩, ⟨(some 76), (some (72, true)), .not (.t 75), []⟩, ⟨(some 77), none, .pick (.t 72) (.t 76) (.k (.bool false)), []⟩, ⟨(some 2), none, .mv (.t 77), []⟩])
         (.ret)) (.seq (.reg [] [⟨(some 79), none, .bi .eql .i64 (.t 11) (.k (.int .i64 8)), []⟩, ⟨(some 78), none, .mv (.t 79), []⟩])
         (.cond (.t 78) (.seq (.reg [] [⟨(some 80), none, .fa 1 (.t 1), []⟩, ⟨(some 81), none, .ld 1 false (.t 80), []⟩, ⟨(some 82), none, .bi .eql .i64 (.t 81) (.k (.int .i64 0)), []⟩, ⟨(some 83), none, .mv (.t 82), []⟩, ⟨(some 84), (some (83, true)), .fa 2 (.t 1), []⟩, ⟨(some 85), (some (83, true)), .ld 1 false (.t 84), []⟩, ⟨(some 86), (some (83, true)), .call 58 [(.t 85)], []⟩, ⟨(some 87), none, .pick (.t 83) (.t 86) (.k (.bool false)), []⟩, ⟨(some 2), none, .mv (.t 87), []⟩])
          (.ret)) (.skip)))))))))))))))))
  (.seq (.reg [] [⟨(some 2), none, .mv (.k (.bool false)), []⟩])
  (.ret))))))⟩
theorem ck85 : chkFn Tryd.prog 85 ir85 = true := by kernel_rfl

/-- seine value.bare -/
def ir86 : AFn := ⟨23, 1, [.t 2], .seq (.reg [] [⟨(some 1), none, .boxv (.t 0), []⟩, ⟨(some 2), none, .mv (.k (.bool false)), []⟩])
  (.seq (.reg [] [⟨(some 3), none, .fa 1 (.t 1), []⟩, ⟨(some 4), none, .ld 1 false (.t 3), []⟩, ⟨(some 5), none, .bi .eql .i64 (.t 4) (.k (.int .i64 0)), []⟩, ⟨(some 6), none, .mv (.t 5), []⟩, ⟨(some 7), (some (6, true)), .fa 2 (.t 1), []⟩, ⟨(some 8), (some (6, true)), .ld 1 false (.t 7), []⟩, ⟨(some 9), (some (6, true)), .bs .eql (.t 8) (.k (.str [])), []⟩, ⟨(some 10), none, .pick (.t 6) (.t 9) (.k (.bool false)), []⟩, ⟨(some 11), none, .mv (.t 10), []⟩, ⟨(some 12), (some (11, true)), .fa 3 (.t 1), []⟩, ⟨(some 13), (some (11, true)), .ld 1 false (.t 12), []⟩, ⟨(some 14), (some (11, true)), .len (.t 13), []⟩, ⟨(some 15), (some (11, true)), .bi .eql .i64 (.t 14) (.k (.int .i64 0)), []⟩, ⟨(some 16), none, .pick (.t 11) (.t 15) (.k (.bool false)), []⟩, ⟨(some 17), none, .mv (.t 16), []⟩, ⟨(some 18), (some (17, true)), .fa 4 (.t 1), []⟩, ⟨(some 19), (some (17, true)), .ld 1 false (.t 18), []⟩, ⟨(some 20), (some (17, true)), .len (.t 19), []⟩, ⟨(some 21), (some (17, true)), .bi .eql .i64 (.t 20) (.k (.int .i64 0)), []⟩, ⟨(some 22), none, .pick (.t 17) (.t 21) (.k (.bool false)), []⟩, ⟨(some 2), none, .mv (.t 22), []⟩])
  (.ret))⟩
theorem ck86 : chkFn Tryd.prog 86 ir86 = true := by kernel_rfl

/-- seine letters.Letter -/
def ir87 : AFn := ⟨21, 1, [.t 2], .seq (.reg [] [⟨(some 2), none, .mv (.k (.bool false)), []⟩])
  (.seq (.reg [] [⟨(some 3), none, .mv (.t 0), []⟩, ⟨(some 4), none, .bi .geq .u8 (.t 3) (.k (.int .u8 97)), []⟩, ⟨(some 5), none, .mv (.t 4), []⟩, ⟨(some 6), (some (5, true)), .mv (.t 0), []⟩, ⟨(some 7), (some (5, true)), .bi .leq .u8 (.t 6) (.k (.int .u8 122)), []⟩, ⟨(some 8), none, .pick (.t 5) (.t 7) (.k (.bool false)), []⟩, ⟨(some 9), none, .mv (.t 8), []⟩, ⟨(some 10), (some (9, false)), .mv (.t 0), []⟩, ⟨(some 11), (some (9, false)), .bi .geq .u8 (.t 10) (.k (.int .u8 65)), []⟩, ⟨(some 12), (some (9, false)), .mv (.t 11), []⟩, ⟨(some 13), (some (12, true)), .mv (.t 0), []⟩, ⟨(some 14), (some (12, true)), .bi .leq .u8 (.t 13) (.k (.int .u8 90)), []⟩, ⟨(some 15), (some (9, false)), .pick (.t 12) (.t 14) (.k (.bool false)), []⟩, ⟨(some 16), none, .pick (.t 9) (.k (.bool true)) (.t 15), []⟩, ⟨(some 17), none, .mv (.t 16), []⟩, ⟨(some 18), (some (17, false)), .mv (.t 0), []⟩, ⟨(some 19), (some (17, false)), .bi .eql .u8 (.t 18) (.k (.int .u8 95)), []⟩, ⟨(some 20), none, .pick (.t 17) (.k (.bool true)) (.t 19), []⟩, ⟨(some 2), none, .mv (.t 20), []⟩])
  (.ret))⟩
theorem ck87 : chkFn Tryd.prog 87 ir87 = true := by kernel_rfl

/-- seine letters.Digit -/
def ir88 : AFn := ⟨9, 1, [.t 2], .seq (.reg [] [⟨(some 2), none, .mv (.k (.bool false)), []⟩])
  (.seq (.reg [] [⟨(some 3), none, .mv (.t 0), []⟩, ⟨(some 4), none, .bi .geq .u8 (.t 3) (.k (.int .u8 48)), []⟩, ⟨(some 5), none, .mv (.t 4), []⟩, ⟨(some 6), (some (5, true)), .mv (.t 0), []⟩, ⟨(some 7), (some (5, true)), .bi .leq .u8 (.t 6) (.k (.int .u8 57)), []⟩, ⟨(some 8), none, .pick (.t 5) (.t 7) (.k (.bool false)), []⟩, ⟨(some 2), none, .mv (.t 8), []⟩])
  (.ret))⟩
theorem ck88 : chkFn Tryd.prog 88 ir88 = true := by kernel_rfl

/-- seine seineref1.word -/
def ir89 : AFn := ⟨5, 1, [.c 2 2 true], .seq (.reg [] [⟨(some 2), none, .alloc [.int .i64 0, .str []], []⟩])
  (.seq (.reg [] [⟨(some 3), none, .mv (.t 0), []⟩, ⟨(some 4), none, .bld [.int .i64 0, .str []] [(0, 1, (.k (.int .i64 2))), (1, 1, (.t 3))], []⟩, ⟨none, none, .st 2 (.t 2) (.t 4), []⟩])
  (.ret))⟩
theorem ck89 : chkFn Tryd.prog 89 ir89 = true := by kernel_rfl

/-- seine seineref1.Decimal -/
def ir90 : AFn := ⟨31, 1, [.t 2], .seq (.reg [] [⟨(some 2), none, .mv (.k (.str [])), []⟩])
  (.seq (.seq (.reg [] [⟨(some 6), none, .mv (.t 0), []⟩, ⟨(some 7), none, .bi .eql .i64 (.t 6) (.k (.int .i64 0)), []⟩])
  (.cond (.t 7) (.seq (.reg [] [⟨(some 2), none, .mv (.k (.str [48])), []⟩])
   (.ret)) (.skip)))
  (.seq (.reg [] [⟨(some 3), none, .mv (.k (.str [])), []⟩])
  (.seq (.seq (.reg [] [⟨(some 8), none, .mv (.t 0), []⟩, ⟨(some 4), none, .mv (.t 8), []⟩])
  (.block 0 (.loop [0, 3, 4] (.seq (.seq (.reg [] [⟨(some 9), none, .mv (.t 4), []⟩, ⟨(some 10), none, .bi .neq .i64 (.t 9) (.k (.int .i64 0)), []⟩])
    (.cond (.t 10) (.skip) (.exit 0)))
    (.seq (.block 1 (.seq (.reg [] [⟨(some 13), none, .mv (.t 4), []⟩, ⟨(some 14), none, .bi .rem .i64 (.t 13) (.k (.int .i64 10)), []⟩, ⟨(some 5), none, .mv (.t 14), []⟩])
     (.seq (.seq (.reg [] [⟨(some 15), none, .mv (.t 5), []⟩, ⟨(some 16), none, .bi .lss .i64 (.t 15) (.k (.int .i64 0)), []⟩])
     (.cond (.t 16) (.reg [] [⟨(some 17), none, .mv (.t 5), []⟩, ⟨(some 18), none, .ineg (.t 17), []⟩, ⟨(some 5), none, .mv (.t 18), []⟩]) (.skip)))
     (.reg [] [⟨(some 19), none, .mv (.t 5), []⟩, ⟨(some 20), none, .bi .add .i64 (.k (.int .i64 48)) (.t 19), []⟩, ⟨(some 21), none, .cvi .u8 (.t 20), []⟩, ⟨(some 22), none, .bls 1 1 [.int .u8 0] [(0, (.t 21))], []⟩, ⟨(some 23), none, .cvb2s (.t 22), []⟩, ⟨(some 24), none, .mv (.t 3), []⟩, ⟨(some 25), none, .bs .add (.t 23) (.t 24), []⟩, ⟨(some 3), none, .mv (.t 25), []⟩]))))
    (.reg [] [⟨(some 11), none, .mv (.t 4), []⟩, ⟨(some 12), none, .bi .quo .i64 (.t 11) (.k (.int .i64 10)), []⟩, ⟨(some 4), none, .mv (.t 12), []⟩]))))))
  (.seq (.seq (.reg [] [⟨(some 26), none, .mv (.t 0), []⟩, ⟨(some 27), none, .bi .lss .i64 (.t 26) (.k (.int .i64 0)), []⟩])
  (.cond (.t 27) (.seq (.reg [] [⟨(some 28), none, .mv (.t 3), []⟩, ⟨(some 29), none, .bs .add (.k (.str [45])) (.t 28), []⟩, ⟨(some 2), none, .mv (.t 29), []⟩])
   (.ret)) (.skip)))
  (.seq (.reg [] [⟨(some 30), none, .mv (.t 3), []⟩, ⟨(some 2), none, .mv (.t 30), []⟩])
  (.ret))))))⟩
theorem ck90 : chkFn Tryd.prog 90 ir90 = true := by kernel_rfl

/-- seine seineref1.punct -/
def ir91 : AFn := ⟨5, 1, [.c 2 2 true], .seq (.reg [] [⟨(some 2), none, .alloc [.int .i64 0, .str []], []⟩])
  (.seq (.reg [] [⟨(some 3), none, .mv (.t 0), []⟩, ⟨(some 4), none, .bld [.int .i64 0, .str []] [(0, 1, (.k (.int .i64 1))), (1, 1, (.t 3))], []⟩, ⟨none, none, .st 2 (.t 2) (.t 4), []⟩])
  (.ret))⟩
theorem ck91 : chkFn Tryd.prog 91 ir91 = true := by kernel_rfl

/-- seine seineref1.numeral -/
def ir92 : AFn := ⟨103, 1, [.t 2, .t 3], .seq (.reg [] [⟨(some 2), none, .mv (.k (.int .i64 0)), []⟩, ⟨(some 3), none, .mv (.k (.int .i64 0)), []⟩])
  (.seq (.reg [] [⟨(some 4), none, .mv (.k (.int .i64 0)), []⟩])
  (.join [0, 4] (.seq (.reg [] [⟨(some 8), none, .mv (.t 4), []⟩, ⟨(some 9), none, .mv (.t 0), []⟩, ⟨(some 10), none, .lens (.t 9), []⟩, ⟨(some 11), none, .bi .lss .i64 (.t 8) (.t 10), []⟩, ⟨(some 12), none, .mv (.t 11), []⟩, ⟨(some 13), (some (12, true)), .mv (.t 0), []⟩, ⟨(some 14), (some (12, true)), .mv (.t 4), []⟩, ⟨(some 15), (some (12, true)), .ixs (.t 13) (.t 14), []⟩, ⟨(some 16), (some (12, true)), .bi .eql .u8 (.t 15) (.k (.int .u8 45)), []⟩, ⟨(some 17), none, .pick (.t 12) (.t 16) (.k (.bool false)), []⟩])
  (.cond (.t 17) (.reg [] [⟨(some 18), none, .mv (.t 4), []⟩, ⟨(some 19), none, .bi .add .i64 (.t 18) (.k (.int .i64 1)), []⟩, ⟨(some 4), none, .mv (.t 19), []⟩]) (.skip)))
  (.seq (.reg [] [⟨(some 20), none, .mv (.t 0), []⟩, ⟨(some 21), none, .mv (.t 4), []⟩, ⟨(some 22), none, .call 115 [(.t 20), (.t 21)], []⟩, ⟨(some 5), none, .mv (.t 22), []⟩])
  (.seq (.seq (.reg [] [⟨(some 23), none, .mv (.t 5), []⟩, ⟨(some 24), none, .bi .eql .i64 (.t 23) (.k (.int .i64 0)), []⟩])
  (.cond (.t 24) (.seq (.reg [] [⟨(some 2), none, .mv (.k (.int .i64 0)), []⟩, ⟨(some 3), none, .mv (.k (.int .i64 0)), []⟩])
   (.ret)) (.skip)))
  (.join [0, 4, 5] (.seq (.reg [] [⟨(some 25), none, .mv (.t 0), []⟩, ⟨(some 26), none, .mv (.t 4), []⟩, ⟨(some 27), none, .ixs (.t 25) (.t 26), []⟩, ⟨(some 28), none, .bi .eql .u8 (.t 27) (.k (.int .u8 48)), []⟩])
  (.cond (.t 28) (.reg [] [⟨(some 5), none, .mv (.k (.int .i64 1)), []⟩]) (.skip)))
  (.seq (.reg [] [⟨(some 29), none, .mv (.t 4), []⟩, ⟨(some 30), none, .mv (.t 5), []⟩, ⟨(some 31), none, .bi .add .i64 (.t 29) (.t 30), []⟩, ⟨(some 4), none, .mv (.t 31), []⟩, ⟨(some 6), none, .mv (.k (.int .i64 3)), []⟩])
  (.join [0, 4, 6] (.seq (.reg [] [⟨(some 32), none, .mv (.t 4), []⟩, ⟨(some 33), none, .mv (.t 0), []⟩, ⟨(some 34), none, .lens (.t 33), []⟩, ⟨(some 35), none, .bi .lss .i64 (.t 32) (.t 34), []⟩, ⟨(some 36), none, .mv (.t 35), []⟩, ⟨(some 37), (some (36, true)), .mv (.t 0), []⟩, ⟨(some 38), (some (36, true)), .mv (.t 4), []⟩, ⟨(some 39), (some (36, true)), .ixs (.t 37) (.t 38), []⟩, ⟨(some 40), (some (36, true)), .bi .eql .u8 (.t 39) (.k (.int .u8 46)), []⟩, ⟨(some 41), none, .pick (.t 36) (.t 40) (.k (.bool false)), []⟩, ⟨(some 42), none, .mv (.t 41), []⟩, ⟨(some 43), (some (42, true)), .mv (.t 0), []⟩, ⟨(some 44), (some (42, true)), .mv (.t 4), []⟩, ⟨(some 45), (some (42, true)), .bi .add .i64 (.t 44) (.k (.int .i64 1)), []⟩, ⟨(some 46), (some (42, true)), .call 115 [(.t 43), (.t 45)], []⟩, ⟨(some 47), (some (42, true)), .bi .gtr .i64 (.t 46) (.k (.int .i64 0)), []⟩, ⟨(some 48), none, .pick (.t 42) (.t 47) (.k (.bool false)), []⟩])
  (.cond (.t 48) (.reg [] [⟨(some 49), none, .mv (.t 4), []⟩, ⟨(some 50), none, .bi .add .i64 (.t 49) (.k (.int .i64 1)), []⟩, ⟨(some 51), none, .mv (.t 0), []⟩, ⟨(some 52), none, .mv (.t 4), []⟩, ⟨(some 53), none, .bi .add .i64 (.t 52) (.k (.int .i64 1)), []⟩, ⟨(some 54), none, .call 115 [(.t 51), (.t 53)], []⟩, ⟨(some 55), none, .bi .add .i64 (.t 50) (.t 54), []⟩, ⟨(some 4), none, .mv (.t 55), []⟩, ⟨(some 6), none, .mv (.k (.int .i64 4)), []⟩]) (.skip)))
  (.join [4, 6] (.seq (.reg [] [⟨(some 56), none, .mv (.t 4), []⟩, ⟨(some 57), none, .mv (.t 0), []⟩, ⟨(some 58), none, .lens (.t 57), []⟩, ⟨(some 59), none, .bi .lss .i64 (.t 56) (.t 58), []⟩, ⟨(some 60), none, .mv (.t 59), []⟩, ⟨(some 61), (some (60, true)), .mv (.t 0), []⟩, ⟨(some 62), (some (60, true)), .mv (.t 4), []⟩, ⟨(some 63), (some (60, true)), .ixs (.t 61) (.t 62), []⟩, ⟨(some 64), (some (60, true)), .bi .eql .u8 (.t 63) (.k (.int .u8 101)), []⟩, ⟨(some 65), (some (60, true)), .mv (.t 64), []⟩, ⟨(some 66), (some (65, false)), .mv (.t 0), []⟩, ⟨(some 67), (some (65, false)), .mv (.t 4), []⟩, ⟨(some 68), (some (65, false)), .ixs (.t 66) (.t 67), []⟩, ⟨(some 69), (some (65, false)), .bi .eql .u8 (.t 68) (.k (.int .u8 69)), []⟩, ⟨(some 70), (some (60, true)), .pick (.t 65) (.k (.bool true)) (.t 69), []⟩, ⟨(some 71), none, .pick (.t 60) (.t 70) (.k (.bool false)), []⟩])
  (.cond (.t 71) (.seq (.reg [] [⟨(some 72), none, .mv (.t 4), []⟩, ⟨(some 73), none, .bi .add .i64 (.t 72) (.k (.int .i64 1)), []⟩, ⟨(some 7), none, .mv (.t 73), []⟩])
   (.join [0, 4, 6, 7] (.seq (.reg [] [⟨(some 74), none, .mv (.t 7), []⟩, ⟨(some 75), none, .mv (.t 0), []⟩, ⟨(some 76), none, .lens (.t 75), []⟩, ⟨(some 77), none, .bi .lss .i64 (.t 74) (.t 76), []⟩, ⟨(some 78), none, .mv (.t 77), []⟩, ⟨(some 79), (some (78, true)), .mv (.t 0), []⟩, ⟨(some 80), (some (78, true)), .mv (.t 7), []⟩, ⟨(some 81), (some (78, true)), .ixs (.t 79) (.t 80), []⟩, ⟨(some 82), (some (78, true)), .bi .eql .u8 (.t 81) (.k (.int .u8 43)), []⟩, ⟨(some 83), (some (78, true)), .mv (.t 82), []⟩, ⟨(some 84), (some (83, false)), .mv (.t 0), []⟩, ⟨(some 85), (some (83, false)), .mv (.t 7), []⟩, ⟨(some 86), (some (83, false)), .ixs (.t 84) (.t 85), []⟩, ⟨(some 87), (some (83, false)), .bi .eql .u8 (.t 86) (.k (.int .u8 45)), []⟩, ⟨(some 88), (some (78, true)), .pick (.t 83) (.k (.bool true)) (.t 87), []⟩, ⟨(some 89), none, .pick (.t 78) (.t 88) (.k (.bool false)), []⟩])
   (.cond (.t 89) (.reg [] [⟨(some 90), none, .mv (.t 7), []⟩, ⟨(some 91), none, .bi .add .i64 (.t 90) (.k (.int .i64 1)), []⟩, ⟨(some 7), none, .mv (.t 91), []⟩]) (.skip)))
   (.seq (.reg [] [⟨(some 92), none, .mv (.t 0), []⟩, ⟨(some 93), none, .mv (.t 7), []⟩, ⟨(some 94), none, .call 115 [(.t 92), (.t 93)], []⟩, ⟨(some 95), none, .bi .gtr .i64 (.t 94) (.k (.int .i64 0)), []⟩])
   (.cond (.t 95) (.reg [] [⟨(some 96), none, .mv (.t 7), []⟩, ⟨(some 97), none, .mv (.t 0), []⟩, ⟨(some 98), none, .mv (.t 7), []⟩, ⟨(some 99), none, .call 115 [(.t 97), (.t 98)], []⟩, ⟨(some 100), none, .bi .add .i64 (.t 96) (.t 99), []⟩, ⟨(some 4), none, .mv (.t 100), []⟩, ⟨(some 6), none, .mv (.k (.int .i64 4)), []⟩]) (.skip))))) (.skip)))
  (.seq (.reg [] [⟨(some 101), none, .mv (.t 4), []⟩, ⟨(some 102), none, .mv (.t 6), []⟩, ⟨(some 2), none, .mv (.t 101), []⟩, ⟨(some 3), none, .mv (.t 102), []⟩])
  (.ret))))))))))⟩
theorem ck92 : chkFn Tryd.prog 92 ir92 = true := by kernel_rfl

/-- seine seineref1.Codes -/
def ir93 : AFn := ⟨28, 1, [.t 2, .t 3], .seq (.reg [] [⟨(some 2), none, .mv (.k (.sl .nil 1 [])), []⟩, ⟨(some 3), none, .mv (.k (.bool false)), []⟩])
  (.seq (.reg [] [⟨(some 4), none, .mv (.k (.sl .nil 1 [])), []⟩])
  (.seq (.seq (.reg [] [⟨(some 5), none, .mv (.k (.int .i64 0)), []⟩])
  (.block 0 (.loop [0, 4, 5] (.seq (.seq (.reg [] [⟨(some 8), none, .mv (.t 5), []⟩, ⟨(some 9), none, .mv (.t 0), []⟩, ⟨(some 10), none, .lens (.t 9), []⟩, ⟨(some 11), none, .bi .lss .i64 (.t 8) (.t 10), []⟩])
    (.cond (.t 11) (.skip) (.exit 0)))
    (.block 1 (.seq (.reg [] [⟨(some 13), none, .mv (.t 0), []⟩, ⟨(some 14), none, .mv (.t 5), []⟩, ⟨(some 15), none, .call 116 [(.t 13), (.t 14)], []⟩, ⟨(some 12), none, .mv (.t 15), []⟩, ⟨(some 16), none, .ext (.t 12) 0, []⟩, ⟨(some 17), none, .ext (.t 12) 1, []⟩, ⟨(some 6), none, .mv (.t 16), []⟩, ⟨(some 7), none, .mv (.t 17), []⟩])
     (.seq (.seq (.reg [] [⟨(some 18), none, .mv (.t 7), []⟩, ⟨(some 19), none, .bi .eql .i64 (.t 18) (.k (.int .i64 0)), []⟩])
     (.cond (.t 19) (.seq (.reg [] [⟨(some 2), none, .mv (.k (.sl .nil 1 [])), []⟩, ⟨(some 3), none, .mv (.k (.bool false)), []⟩])
      (.ret)) (.skip)))
     (.seq (.reg [] [⟨(some 20), none, .mv (.t 4), []⟩, ⟨(some 21), none, .mv (.t 6), []⟩, ⟨(some 22), none, .bls 1 1 [.int .i64 0] [(0, (.t 21))], []⟩, ⟨(some 23), none, .app 1 8 (.t 20) (.t 22), []⟩, ⟨(some 4), none, .mv (.t 23), []⟩])
     (.reg [] [⟨(some 24), none, .mv (.t 5), []⟩, ⟨(some 25), none, .mv (.t 7), []⟩, ⟨(some 26), none, .bi .add .i64 (.t 24) (.t 25), []⟩, ⟨(some 5), none, .mv (.t 26), []⟩])))))))))
  (.seq (.reg [] [⟨(some 27), none, .mv (.t 4), []⟩, ⟨(some 2), none, .mv (.t 27), []⟩, ⟨(some 3), none, .mv (.k (.bool true)), []⟩])
  (.ret))))⟩
theorem ck93 : chkFn Tryd.prog 93 ir93 = true := by kernel_rfl

/-- seine seineref1.start -/
def ir94 : AFn := ⟨21, 1, [.t 2], .seq (.reg [] [⟨(some 2), none, .mv (.k (.bool false)), []⟩])
  (.seq (.reg [] [⟨(some 3), none, .mv (.t 0), []⟩, ⟨(some 4), none, .bi .geq .u8 (.t 3) (.k (.int .u8 97)), []⟩, ⟨(some 5), none, .mv (.t 4), []⟩, ⟨(some 6), (some (5, true)), .mv (.t 0), []⟩, ⟨(some 7), (some (5, true)), .bi .leq .u8 (.t 6) (.k (.int .u8 122)), []⟩, ⟨(some 8), none, .pick (.t 5) (.t 7) (.k (.bool false)), []⟩, ⟨(some 9), none, .mv (.t 8), []⟩, ⟨(some 10), (some (9, false)), .mv (.t 0), []⟩, ⟨(some 11), (some (9, false)), .bi .geq .u8 (.t 10) (.k (.int .u8 65)), []⟩, ⟨(some 12), (some (9, false)), .mv (.t 11), []⟩, ⟨(some 13), (some (12, true)), .mv (.t 0), []⟩, ⟨(some 14), (some (12, true)), .bi .leq .u8 (.t 13) (.k (.int .u8 90)), []⟩, ⟨(some 15), (some (9, false)), .pick (.t 12) (.t 14) (.k (.bool false)), []⟩, ⟨(some 16), none, .pick (.t 9) (.k (.bool true)) (.t 15), []⟩, ⟨(some 17), none, .mv (.t 16), []⟩, ⟨(some 18), (some (17, false)), .mv (.t 0), []⟩, ⟨(some 19), (some (17, false)), .bi .eql .u8 (.t 18) (.k (.int .u8 95)), []⟩, ⟨(some 20), none, .pick (.t 17) (.k (.bool true)) (.t 19), []⟩, ⟨(some 2), none, .mv (.t 20), []⟩])
  (.ret))⟩
theorem ck94 : chkFn Tryd.prog 94 ir94 = true := by kernel_rfl

/-- seine seineref1.digit -/
def ir95 : AFn := ⟨9, 1, [.t 2], .seq (.reg [] [⟨(some 2), none, .mv (.k (.bool false)), []⟩])
  (.seq (.reg [] [⟨(some 3), none, .mv (.t 0), []⟩, ⟨(some 4), none, .bi .geq .u8 (.t 3) (.k (.int .u8 48)), []⟩, ⟨(some 5), none, .mv (.t 4), []⟩, ⟨(some 6), (some (5, true)), .mv (.t 0), []⟩, ⟨(some 7), (some (5, true)), .bi .leq .u8 (.t 6) (.k (.int .u8 57)), []⟩, ⟨(some 8), none, .pick (.t 5) (.t 7) (.k (.bool false)), []⟩, ⟨(some 2), none, .mv (.t 8), []⟩])
  (.ret))⟩
theorem ck95 : chkFn Tryd.prog 95 ir95 = true := by kernel_rfl

/-- slices.Contains   string string  -/
def ir96 : AFn := ⟨9, 2, [.t 4], .seq (.reg [] [⟨(some 4), none, .mv (.k (.bool false)), []⟩])
  (.seq (.reg [] [⟨(some 5), none, .mv (.t 0), []⟩, ⟨(some 6), none, .mv (.t 1), []⟩, ⟨(some 7), none, .call 117 [(.t 5), (.t 6)], []⟩, ⟨(some 8), none, .bi .geq .i64 (.t 7) (.k (.int .i64 0)), []⟩, ⟨(some 4), none, .mv (.t 8), []⟩])
  (.ret))⟩
theorem ck96 : chkFn Tryd.prog 96 ir96 = true := by kernel_rfl

/-- strconv.AppendBool -/
def ir98 : AFn := ⟨8, 2, [.t 4], .seq (.reg [] [⟨(some 4), none, .mv (.k (.sl .nil 1 [])), []⟩])
  (.seq (.reg [] [⟨(some 5), none, .mv (.t 0), []⟩, ⟨(some 6), none, .mv (.t 1), []⟩, ⟨(some 7), none, .call 118 [(.t 5), (.t 6)], []⟩, ⟨(some 4), none, .mv (.t 7), []⟩])
  (.ret))⟩
theorem ck98 : chkFn Tryd.prog 98 ir98 = true := by kernel_rfl

/-- strings.Contains -/
def ir105 : AFn := ⟨9, 2, [.t 4], .seq (.reg [] [⟨(some 4), none, .mv (.k (.bool false)), []⟩])
  (.seq (.reg [] [⟨(some 5), none, .mv (.t 0), []⟩, ⟨(some 6), none, .mv (.t 1), []⟩, ⟨(some 7), none, .call 124 [(.t 5), (.t 6)], []⟩, ⟨(some 8), none, .bi .geq .i64 (.t 7) (.k (.int .i64 0)), []⟩, ⟨(some 4), none, .mv (.t 8), []⟩])
  (.ret))⟩
theorem ck105 : chkFn Tryd.prog 105 ir105 = true := by kernel_rfl

/-- internal strconv.FormatBool -/
def ir110 : AFn := ⟨4, 1, [.t 2], .seq (.reg [] [⟨(some 2), none, .mv (.k (.str [])), []⟩])
  (.seq (.seq (.reg [] [⟨(some 3), none, .mv (.t 0), []⟩])
  (.cond (.t 3) (.seq (.reg [] [⟨(some 2), none, .mv (.k (.str [116, 114, 117, 101])), []⟩])
   (.ret)) (.skip)))
  (.seq (.reg [] [⟨(some 2), none, .mv (.k (.str [102, 97, 108, 115, 101])), []⟩])
  (.ret)))⟩
theorem ck110 : chkFn Tryd.prog 110 ir110 = true := by kernel_rfl

/-- seine token.number -/
def ir112 : AFn := ⟨38, 1, [.t 2, .t 3], .seq (.reg [] [⟨(some 2), none, .mv (.k (.int .i64 0)), []⟩, ⟨(some 3), none, .mv (.k (.int .i64 0)), []⟩])
  (.seq (.reg [] [⟨(some 8), none, .mv (.t 0), []⟩, ⟨(some 9), none, .call 131 [(.t 8)], []⟩, ⟨(some 4), none, .mv (.t 9), []⟩])
  (.seq (.seq (.reg [] [⟨(some 10), none, .mv (.t 4), []⟩, ⟨(some 11), none, .bi .eql .i64 (.t 10) (.k (.int .i64 0)), []⟩])
  (.cond (.t 11) (.seq (.reg [] [⟨(some 2), none, .mv (.k (.int .i64 0)), []⟩, ⟨(some 3), none, .mv (.k (.int .i64 0)), []⟩])
   (.ret)) (.skip)))
  (.seq (.reg [] [⟨(some 5), none, .mv (.k (.int .i64 3)), []⟩])
  (.seq (.seq (.reg [] [⟨(some 12), none, .mv (.t 0), []⟩, ⟨(some 13), none, .mv (.t 4), []⟩, ⟨(some 14), none, .sls (.t 12) (some (.t 13)) none, []⟩, ⟨(some 15), none, .call 121 [(.t 14), (.k (.str [46]))], []⟩])
  (.cond (.t 15) (.seq (.reg [] [⟨(some 16), none, .mv (.t 0), []⟩, ⟨(some 17), none, .mv (.t 4), []⟩, ⟨(some 18), none, .bi .add .i64 (.t 17) (.k (.int .i64 1)), []⟩, ⟨(some 19), none, .sls (.t 16) (some (.t 18)) none, []⟩, ⟨(some 20), none, .call 132 [(.t 19)], []⟩, ⟨(some 6), none, .mv (.t 20), []⟩])
   (.seq (.reg [] [⟨(some 21), none, .mv (.t 6), []⟩, ⟨(some 22), none, .bi .gtr .i64 (.t 21) (.k (.int .i64 0)), []⟩])
   (.cond (.t 22) (.reg [] [⟨(some 23), none, .mv (.t 4), []⟩, ⟨(some 24), none, .bi .add .i64 (.t 23) (.k (.int .i64 1)), []⟩, ⟨(some 25), none, .mv (.t 6), []⟩, ⟨(some 26), none, .bi .add .i64 (.t 24) (.t 25), []⟩, ⟨(some 4), none, .mv (.t 26), []⟩, ⟨(some 5), none, .mv (.k (.int .i64 4)), []⟩]) (.skip)))) (.skip)))
  (.seq (.seq (.reg [] [⟨(some 27), none, .mv (.t 0), []⟩, ⟨(some 28), none, .mv (.t 4), []⟩, ⟨(some 29), none, .sls (.t 27) (some (.t 28)) none, []⟩, ⟨(some 30), none, .call 133 [(.t 29)], []⟩, ⟨(some 7), none, .mv (.t 30), []⟩])
  (.seq (.reg [] [⟨(some 31), none, .mv (.t 7), []⟩, ⟨(some 32), none, .bi .gtr .i64 (.t 31) (.k (.int .i64 0)), []⟩])
  (.cond (.t 32) (.reg [] [⟨(some 33), none, .mv (.t 4), []⟩, ⟨(some 34), none, .mv (.t 7), []⟩, ⟨(some 35), none, .bi .add .i64 (.t 33) (.t 34), []⟩, ⟨(some 4), none, .mv (.t 35), []⟩, ⟨(some 5), none, .mv (.k (.int .i64 4)), []⟩]) (.skip))))
  (.seq (.reg [] [⟨(some 36), none, .mv (.t 4), []⟩, ⟨(some 37), none, .mv (.t 5), []⟩, ⟨(some 2), none, .mv (.t 36), []⟩, ⟨(some 3), none, .mv (.t 37), []⟩])
  (.ret)))))))⟩
theorem ck112 : chkFn Tryd.prog 112 ir112 = true := by kernel_rfl

/-- seine value.num -/
def ir113 : AFn := ⟨23, 1, [.t 2], .seq (.reg [] [⟨(some 2), none, .mv (.k (.bool false)), []⟩])
  (.seq (.reg [] [⟨(some 6), none, .mv (.t 0), []⟩, ⟨(some 7), none, .call 83 [(.t 6)], []⟩, ⟨(some 3), none, .mv (.t 7), []⟩])
  (.seq (.reg [] [⟨(some 9), none, .mv (.t 0), []⟩, ⟨(some 10), none, .call 125 [(.t 9)], []⟩, ⟨(some 8), none, .mv (.t 10), []⟩, ⟨(some 11), none, .ext (.t 8) 0, []⟩, ⟨(some 12), none, .ext (.t 8) 1, []⟩, ⟨(some 4), none, .mv (.t 11), []⟩, ⟨(some 5), none, .mv (.t 12), []⟩])
  (.seq (.reg [] [⟨(some 13), none, .mv (.t 3), []⟩, ⟨(some 14), none, .bi .eql .i64 (.t 13) (.k (.int .i64 4)), []⟩, ⟨(some 15), none, .mv (.t 14), []⟩, ⟨(some 16), (some (15, false)), .mv (.t 3), []⟩, ⟨(some 17), (some (15, false)), .bi .eql .i64 (.t 16) (.k (.int .i64 3)), []⟩, ⟨(some 18), (some (15, false)), .mv (.t 17), []⟩, ⟨(some 19), (some (18, true)), .mv (.t 5), []⟩, ⟨(some 20), (some (18, true)), .not (.t 19), []⟩, ⟨(some 21), (some (15, false)), .pick (.t 18) (.t 20) (.k (.bool false)), []⟩, ⟨(some 22), none, .pick (.t 15) (.k (.bool true)) (.t 21), []⟩, ⟨(some 2), none, .mv (.t 22), []⟩])
  (.ret))))⟩
theorem ck113 : chkFn Tryd.prog 113 ir113 = true := by kernel_rfl

/-- seine value.reserved -/
def ir114 : AFn := ⟨13, 1, [.t 2], .seq (.reg [] [⟨(some 2), none, .mv (.k (.bool false)), []⟩])
  (.seq (.reg [] [⟨(some 3), none, .mv (.t 0), []⟩, ⟨(some 4), none, .bs .eql (.t 3) (.k (.str [116, 114, 117, 101])), []⟩, ⟨(some 5), none, .mv (.t 4), []⟩, ⟨(some 6), (some (5, false)), .mv (.t 0), []⟩, ⟨(some 7), (some (5, false)), .bs .eql (.t 6) (.k (.str [102, 97, 108, 115, 101])), []⟩, ⟨(some 8), none, .pick (.t 5) (.k (.bool true)) (.t 7), []⟩, ⟨(some 9), none, .mv (.t 8), []⟩, ⟨(some 10), (some (9, false)), .mv (.t 0), []⟩, ⟨(some 11), (some (9, false)), .bs .eql (.t 10) (.k (.str [110, 117, 108, 108])), []⟩, ⟨(some 12), none, .pick (.t 9) (.k (.bool true)) (.t 11), []⟩, ⟨(some 2), none, .mv (.t 12), []⟩])
  (.ret))⟩
theorem ck114 : chkFn Tryd.prog 114 ir114 = true := by kernel_rfl

/-- seine seineref1.run -/
def ir115 : AFn := ⟨23, 2, [.t 4], .seq (.reg [] [⟨(some 4), none, .mv (.k (.int .i64 0)), []⟩])
  (.seq (.reg [] [⟨(some 5), none, .mv (.k (.int .i64 0)), []⟩])
  (.seq (.block 0 (.loop [0, 1, 5] (.seq (.seq (.reg [] [⟨(some 6), none, .mv (.t 1), []⟩, ⟨(some 7), none, .mv (.t 5), []⟩, ⟨(some 8), none, .bi .add .i64 (.t 6) (.t 7), []⟩, ⟨(some 9), none, .mv (.t 0), []⟩, ⟨(some 10), none, .lens (.t 9), []⟩, ⟨(some 11), none, .bi .lss .i64 (.t 8) (.t 10), []⟩, ⟨(some 12), none, .mv (.t 11), []⟩, ⟨(some 13), (some (12, true)), .mv (.t 0), []⟩, ⟨(some 14), (some (12, true)), .mv (.t 1), []⟩, ⟨(some 15), (some (12, true)), .mv (.t 5), []⟩, ⟨(some 16), (some (12, true)), .bi .add .i64 (.t 14) (.t 15), []⟩, ⟨(some 17), (some (12, true)), .ixs (.t 13) (.t 16), []⟩, ⟨(some 18), (some (12, true)), .call 95 [(.t 17)], []⟩, ⟨(some 19), none, .pick (.t 12) (.t 18) (.k (.bool false)), []⟩])
    (.cond (.t 19) (.skip) (.exit 0)))
    (.block 1 (.reg [] [⟨(some 20), none, .mv (.t 5), []⟩, ⟨(some 21), none, .bi .add .i64 (.t 20) (.k (.int .i64 1)), []⟩, ⟨(some 5), none, .mv (.t 21), []⟩])))))
  (.seq (.reg [] [⟨(some 22), none, .mv (.t 5), []⟩, ⟨(some 4), none, .mv (.t 22), []⟩])
  (.ret))))⟩
theorem ck115 : chkFn Tryd.prog 115 ir115 = true := by kernel_rfl

/-- seine seineref1.Code -/
def ir116 : AFn := ⟨98, 2, [.t 4, .t 5], .seq (.reg [] [⟨(some 4), none, .mv (.k (.int .i64 0)), []⟩, ⟨(some 5), none, .mv (.k (.int .i64 0)), []⟩])
  (.seq (.seq (.reg [] [⟨(some 11), none, .mv (.t 1), []⟩, ⟨(some 12), none, .bi .lss .i64 (.t 11) (.k (.int .i64 0)), []⟩, ⟨(some 13), none, .mv (.t 12), []⟩, ⟨(some 14), (some (13, false)), .mv (.t 1), []⟩, ⟨(some 15), (some (13, false)), .mv (.t 0), []⟩, ⟨(some 16), (some (13, false)), .lens (.t 15), []⟩, ⟨(some 17), (some (13, false)), .bi .geq .i64 (.t 14) (.t 16), []⟩, ⟨(some 18), none, .pick (.t 13) (.k (.bool true)) (.t 17), []⟩])
  (.cond (.t 18) (.seq (.reg [] [⟨(some 4), none, .mv (.k (.int .i64 0)), []⟩, ⟨(some 5), none, .mv (.k (.int .i64 0)), []⟩])
   (.ret)) (.skip)))
  (.seq (.reg [] [⟨(some 19), none, .mv (.t 0), []⟩, ⟨(some 20), none, .mv (.t 1), []⟩, ⟨(some 21), none, .ixs (.t 19) (.t 20), []⟩, ⟨(some 22), none, .cvi .i64 (.t 21), []⟩, ⟨(some 6), none, .mv (.t 22), []⟩])
  (.seq (.seq (.reg [] [⟨(some 23), none, .mv (.t 6), []⟩, ⟨(some 24), none, .bi .lss .i64 (.t 23) (.k (.int .i64 128)), []⟩])
  (.cond (.t 24) (.seq (.reg [] [⟨(some 25), none, .mv (.t 6), []⟩, ⟨(some 4), none, .mv (.t 25), []⟩, ⟨(some 5), none, .mv (.k (.int .i64 1)), []⟩])
   (.ret)) (.skip)))
  (.seq (.reg [] [⟨(some 7), none, .mv (.k (.int .i64 0)), []⟩, ⟨(some 8), none, .mv (.k (.int .i64 0)), []⟩])
  (.join [0, 1, 6, 7, 8] (.block 0 (.seq (.reg [] [⟨(some 27), none, .mv (.t 6), []⟩, ⟨(some 28), none, .bi .geq .i64 (.t 27) (.k (.int .i64 194)), []⟩, ⟨(some 29), none, .mv (.t 28), []⟩, ⟨(some 30), (some (29, true)), .mv (.t 6), []⟩, ⟨(some 31), (some (29, true)), .bi .lss .i64 (.t 30) (.k (.int .i64 224)), []⟩, ⟨(some 32), none, .pick (.t 29) (.t 31) (.k (.bool false)), []⟩, ⟨(some 26), none, .mv (.t 32), []⟩])
   (.cond (.t 26) (.reg [] [⟨(some 33), none, .mv (.t 6), []⟩, ⟨(some 34), none, .bi .and .i64 (.t 33) (.k (.int .i64 31)), []⟩, ⟨(some 7), none, .mv (.k (.int .i64 2)), []⟩, ⟨(some 8), none, .mv (.k (.int .i64 128)), []⟩, ⟨(some 6), none, .mv (.t 34), []⟩]) (.seq (.reg [] [⟨(some 36), none, .mv (.t 6), []⟩, ⟨(some 37), none, .bi .geq .i64 (.t 36) (.k (.int .i64 224)), []⟩, ⟨(some 38), none, .mv (.t 37), []⟩, ⟨(some 39), (some (38, true)), .mv (.t 6), []⟩, ⟨(some 40), (some (38, true)), .bi .lss .i64 (.t 39) (.k (.int .i64 240)), []⟩, ⟨(some 41), none, .pick (.t 38) (.t 40) (.k (.bool false)), []⟩, ⟨(some 35), none, .mv (.t 41), []⟩])
    (.cond (.t 35) (.reg [] [⟨(some 42), none, .mv (.t 6), []⟩, ⟨(some 43), none, .bi .and .i64 (.t 42) (.k (.int .i64 15)), []⟩, ⟨(some 7), none, .mv (.k (.int .i64 3)), []⟩, ⟨(some 8), none, .mv (.k (.int .i64 2048)), []⟩, ⟨(some 6), none, .mv (.t 43), []⟩]) (.seq (.reg [] [⟨(some 45), none, .mv (.t 6), []⟩, ⟨(some 46), none, .bi .geq .i64 (.t 45) (.k (.int .i64 240)), []⟩, ⟨(some 47), none, .mv (.t 46), []⟩, ⟨(some 48), (some (47, true)), .mv (.t 6), []⟩, ⟨(some 49), (some (47, true)), .bi .lss .i64 (.t 48) (.k (.int .i64 245)), []⟩, ⟨(some 50), none, .pick (.t 47) (.t 49) (.k (.bool false)), []⟩, ⟨(some 44), none, .mv (.t 50), []⟩])
     (.cond (.t 44) (.reg [] [⟨(some 51), none, .mv (.t 6), []⟩, ⟨(some 52), none, .bi .and .i64 (.t 51) (.k (.int .i64 7)), []⟩, ⟨(some 7), none, .mv (.k (.int .i64 4)), []⟩, ⟨(some 8), none, .mv (.k (.int .i64 65536)), []⟩, ⟨(some 6), none, .mv (.t 52), []⟩]) (.seq (.reg [] [⟨(some 4), none, .mv (.k (.int .i64 0)), []⟩, ⟨(some 5), none, .mv (.k (.int .i64 0)), []⟩])
      (.ret)))))))))
  (.seq (.seq (.reg [] [⟨(some 53), none, .mv (.t 7), []⟩, ⟨(some 54), none, .mv (.t 0), []⟩, ⟨(some 55), none, .lens (.t 54), []⟩, ⟨(some 56), none, .mv (.t 1), []⟩, ⟨(some 57), none, .bi .sub .i64 (.t 55) (.t 56), []⟩, ⟨(some 58), none, .bi .gtr .i64 (.t 53) (.t 57), []⟩])
  (.cond (.t 58) (.seq (.reg [] [⟨(some 4), none, .mv (.k (.int .i64 0)), []⟩, ⟨(some 5), none, .mv (.k (.int .i64 0)), []⟩])
   (.ret)) (.skip)))
  (.seq (.seq (.reg [] [⟨(some 9), none, .mv (.k (.int .i64 1)), []⟩])
  (.block 1 (.loop [0, 1, 6, 7, 8, 9] (.seq (.seq (.reg [] [⟨(some 59), none, .mv (.t 9), []⟩, ⟨(some 60), none, .mv (.t 7), []⟩, ⟨(some 61), none, .bi .lss .i64 (.t 59) (.t 60), []⟩])
    (.cond (.t 61) (.skip) (.exit 1)))
    (.seq (.block 2 (.seq (.reg [] [⟨(some 64), none, .mv (.t 0), []⟩, ⟨(some 65), none, .mv (.t 1), []⟩, ⟨(some 66), none, .mv (.t 9), []⟩, ⟨(some 67), none, .bi .add .i64 (.t 65) (.t 66), []⟩, ⟨(some 68), none, .ixs (.t 64) (.t 67), []⟩, ⟨(some 69), none, .cvi .i64 (.t 68), []⟩, ⟨(some 10), none, .mv (.t 69), []⟩])
     (.seq (.seq (.reg [] [⟨(some 70), none, .mv (.t 10), []⟩, ⟨(some 71), none, .bi .lss .i64 (.t 70) (.k (.int .i64 128)), []⟩, ⟨(some 72), none, .mv (.t 71), []⟩, ⟨(some 73), (some (72, false)), .mv (.t 10), []⟩, ⟨(some 74), (some (72, false)), .bi .gtr .i64 (.t 73) (.k (.int .i64 191)), []⟩, ⟨(some 75), none, .pick (.t 72) (.k (.bool true)) (.t 74), []⟩])
     (.cond (.t 75) (.seq (.reg [] [⟨(some 4), none, .mv (.k (.int .i64 0)), []⟩, ⟨(some 5), none, .mv (.k (.int .i64 0)), []⟩])
      (.ret)) (.skip)))
     (.reg [] [⟨(some 76), none, .mv (.t 6), []⟩, ⟨(some 77), none, .shf .shl (.t 76) (.k (.int .u64 6)), []⟩, ⟨(some 78), none, .mv (.t 10), []⟩, ⟨(some 79), none, .bi .and .i64 (.t 78) (.k (.int .i64 63)), []⟩, ⟨(some 80), none, .bi .or .i64 (.t 77) (.t 79), []⟩, ⟨(some 6), none, .mv (.t 80), []⟩]))))
    (.reg [] [⟨(some 62), none, .mv (.t 9), []⟩, ⟨(some 63), none, .bi .add .i64 (.t 62) (.k (.int .i64 1)), []⟩, ⟨(some 9), none, .mv (.t 63), []⟩]))))))
  (.seq (.seq (.reg [] [⟨(some 81), none, .mv (.t 6), []⟩, ⟨(some 82), none, .mv (.t 8), []⟩, ⟨(some 83), none, .bi .lss .i64 (.t 81) (.t 82), []⟩, ⟨(some 84), none, .mv (.t 83), []⟩, ⟨(some 85), (some (84, false)), .mv (.t 6), []⟩, ⟨(some 86), (some (84, false)), .bi .gtr .i64 (.t 85) (.k (.int .i64 1114111)), []⟩, ⟨(some 87), none, .pick (.t 84) (.k (.bool true)) (.t 86), []⟩, ⟨(some 88), none, .mv (.t 87), []⟩, ⟨(some 89), (some (88, false)), .mv (.t 6), []⟩, ⟨(some 90), (some (88, false)), .bi .geq .i64 (.t 89) (.k (.int .i64 55296)), []⟩, ⟨(some 91), (some (88, false)), .mv (.t 90), []⟩, ⟨(some 92), (some (91, true)), .mv (.t 6), []⟩, ⟨(some 93), (some (91, true)), .bi .lss .i64 (.t 92) (.k (.int .i64 57344)), []⟩, ⟨(some 94), (some (88, false)), .pick (.t 91) (.t 93) (.k (.bool false)), []⟩, ⟨(some 95), none, .pick (.t 88) (.k (.bool true)) (.t 94), []⟩])
  (.cond (.t 95) (.seq (.reg [] [⟨(some 4), none, .mv (.k (.int .i64 0)), []⟩, ⟨(some 5), none, .mv (.k (.int .i64 0)), []⟩])
   (.ret)) (.skip)))
  (.seq (.reg [] [⟨(some 96), none, .mv (.t 6), []⟩, ⟨(some 97), none, .mv (.t 7), []⟩, ⟨(some 4), none, .mv (.t 96), []⟩, ⟨(some 5), none, .mv (.t 97), []⟩])
  (.ret))))))))))⟩
theorem ck116 : chkFn Tryd.prog 116 ir116 = true := by kernel_rfl

/-- slices.Index   string string  -/
def ir117 : AFn := ⟨19, 2, [.t 4], .seq (.reg [] [⟨(some 4), none, .mv (.k (.int .i64 0)), []⟩])
  (.seq (.seq (.reg [] [⟨(some 6), none, .mv (.t 0), []⟩, ⟨(some 7), none, .len (.t 6), []⟩, ⟨(some 8), none, .mv (.k (.int .i64 0)), []⟩])
  (.block 0 (.loop [0, 1, 7, 8] (.seq (.reg [] [⟨(some 9), none, .bi .lss .i64 (.t 8) (.t 7), []⟩])
    (.seq (.cond (.t 9) (.skip) (.exit 0))
    (.seq (.block 1 (.seq (.reg [] [⟨(some 10), none, .mv (.t 8), []⟩, ⟨(some 5), none, .mv (.t 10), []⟩])
     (.seq (.reg [] [⟨(some 11), none, .mv (.t 1), []⟩, ⟨(some 12), none, .mv (.t 0), []⟩, ⟨(some 13), none, .mv (.t 5), []⟩, ⟨(some 14), none, .ia 1 (.t 12) (.t 13), []⟩, ⟨(some 15), none, .ld 1 false (.t 14), []⟩, ⟨(some 16), none, .bs .eql (.t 11) (.t 15), []⟩])
     (.cond (.t 16) (.seq (.reg [] [⟨(some 17), none, .mv (.t 5), []⟩, ⟨(some 4), none, .mv (.t 17), []⟩])
      (.ret)) (.skip)))))
    (.reg [] [⟨(some 18), none, .bi .add .i64 (.t 8) (.k (.int .i64 1)), []⟩, ⟨(some 8), none, .mv (.t 18), []⟩])))))))
  (.seq (.reg [] [⟨(some 4), none, .mv (.k (.int .i64 (-1))), []⟩])
  (.ret)))⟩
theorem ck117 : chkFn Tryd.prog 117 ir117 = true := by kernel_rfl

/-- internal strconv.AppendBool -/
def ir118 : AFn := ⟨10, 2, [.t 4], .seq (.reg [] [⟨(some 4), none, .mv (.k (.sl .nil 1 [])), []⟩])
  (.seq (.seq (.reg [] [⟨(some 5), none, .mv (.t 1), []⟩])
  (.cond (.t 5) (.seq (.reg [] [⟨(some 6), none, .mv (.t 0), []⟩, ⟨(some 7), none, .apps (.t 6) (.k (.str [116, 114, 117, 101])), []⟩, ⟨(some 4), none, .mv (.t 7), []⟩])
   (.ret)) (.skip)))
  (.seq (.reg [] [⟨(some 8), none, .mv (.t 0), []⟩, ⟨(some 9), none, .apps (.t 8) (.k (.str [102, 97, 108, 115, 101])), []⟩, ⟨(some 4), none, .mv (.t 9), []⟩])
  (.ret)))⟩
theorem ck118 : chkFn Tryd.prog 118 ir118 = true := by kernel_rfl

/-- strings.HasPrefix -/
def ir121 : AFn := ⟨8, 2, [.t 4], .seq (.reg [] [⟨(some 4), none, .mv (.k (.bool false)), []⟩])
  (.seq (.reg [] [⟨(some 5), none, .mv (.t 0), []⟩, ⟨(some 6), none, .mv (.t 1), []⟩, ⟨(some 7), none, .call 135 [(.t 5), (.t 6)], []⟩, ⟨(some 4), none, .mv (.t 7), []⟩])
  (.ret))⟩
theorem ck121 : chkFn Tryd.prog 121 ir121 = true := by kernel_rfl

/-- seine token.Quoted -/
def ir122 : AFn := ⟨75, 2, [.t 4, .t 5], .seq (.reg [] [⟨(some 4), none, .mv (.k (.str [])), []⟩, ⟨(some 5), none, .mv (.k (.int .i64 0)), []⟩])
  (.scope (.seq (.reg [] [⟨(some 9), none, .bld [.sl .nil 1 [], .sl .nil 1 [], .bool false] [(2, 1, (.k (.bool true)))], []⟩, ⟨(some 10), none, .box (.t 9), []⟩, ⟨(some 6), none, .mv (.t 10), []⟩])
  (.seq (.reg [] [⟨(some 7), none, .mv (.k (.int .i64 1)), []⟩])
  (.seq (.skip)
  (.seq (.block 0 (.loop [0, 1, 6, 7] (.block 1 (.seq (.block 2 (.seq (.reg [] [⟨(some 12), none, .mv (.t 7), []⟩, ⟨(some 13), none, .mv (.t 0), []⟩, ⟨(some 14), none, .lens (.t 13), []⟩, ⟨(some 15), none, .bi .geq .i64 (.t 12) (.t 14), []⟩, ⟨(some 11), none, .mv (.t 15), []⟩])
      (.cond (.t 11) (.seq (.reg [] [⟨(some 4), none, .mv (.k (.str [])), []⟩, ⟨(some 5), none, .mv (.k (.int .i64 0)), []⟩])
       (.ret)) (.seq (.reg [] [⟨(some 17), none, .mv (.t 0), []⟩, ⟨(some 18), none, .mv (.t 7), []⟩, ⟨(some 19), none, .ixs (.t 17) (.t 18), []⟩, ⟨(some 20), none, .bi .eql .u8 (.t 19) (.k (.int .u8 34)), []⟩, ⟨(some 16), none, .mv (.t 20), []⟩])
       (.cond (.t 16) (.exit 0) (.seq (.reg [] [⟨(some 22), none, .mv (.t 0), []⟩, ⟨(some 23), none, .mv (.t 7), []⟩, ⟨(some 24), none, .ixs (.t 22) (.t 23), []⟩, ⟨(some 25), none, .bi .eql .u8 (.t 24) (.k (.int .u8 92)), []⟩, ⟨(some 21), none, .mv (.t 25), []⟩])
        (.cond (.t 21) (.seq (.reg [] [⟨(some 26), none, .mv (.t 6), []⟩, ⟨(some 27), none, .mv (.t 0), []⟩, ⟨(some 28), none, .mv (.t 7), []⟩, ⟨(some 29), none, .bi .add .i64 (.t 28) (.k (.int .i64 1)), []⟩, ⟨(some 30), none, .sls (.t 27) (some (.t 29)) none, []⟩, ⟨(some 31), none, .call 136 [(.t 26), (.t 30)], []⟩, ⟨(some 8), none, .mv (.t 31), []⟩])
         (.seq (.seq (.reg [] [⟨(some 32), none, .mv (.t 8), []⟩, ⟨(some 33), none, .bi .eql .i64 (.t 32) (.k (.int .i64 0)), []⟩])
         (.cond (.t 33) (.seq (.reg [] [⟨(some 4), none, .mv (.k (.str [])), []⟩, ⟨(some 5), none, .mv (.k (.int .i64 0)), []⟩])
          (.ret)) (.skip)))
         (.seq (.reg [] [⟨(some 34), none, .mv (.t 7), []⟩, ⟨(some 35), none, .mv (.t 8), []⟩, ⟨(some 36), none, .bi .add .i64 (.k (.int .i64 1)) (.t 35), []⟩, ⟨(some 37), none, .bi .add .i64 (.t 34) (.t 36), []⟩, ⟨(some 7), none, .mv (.t 37), []⟩])
         (.exit 1)))) (.seq (.reg [] [⟨(some 39), none, .mv (.t 1), []⟩, ⟨(some 40), none, .mv (.t 0), []⟩, ⟨(some 41), none, .mv (.t 7), []⟩, ⟨(some 42), none, .ixs (.t 40) (.t 41), []⟩, ⟨(some 43), none, .callv (.t 39) [(.t 42)], []⟩, ⟨(some 44), none, .not (.t 43), []⟩, ⟨(some 38), none, .mv (.t 44), []⟩])
         (.cond (.t 38) (.seq (.reg [] [⟨(some 4), none, .mv (.k (.str [])), []⟩, ⟨(some 5), none, .mv (.k (.int .i64 0)), []⟩])
          (.ret)) (.skip))))))))))
     (.seq (.reg [] [⟨(some 45), none, .mv (.t 6), []⟩, ⟨(some 46), none, .call 137 [(.t 45)], []⟩])
     (.seq (.reg [0, 1, 2, 3, 4, 5, 6, 7, 8, 9, 10, 11, 12] [⟨(some 47), none, .mv (.t 6), []⟩, ⟨(some 48), none, .mv (.t 6), []⟩, ⟨(some 49), none, .nilchk (.t 48), []⟩, ⟨(some 50), none, .fa 0 (.t 49), []⟩, ⟨(some 51), none, .ld 1 false (.t 50), []⟩, ⟨(some 52), none, .mv (.t 0), []⟩, ⟨(some 53), none, .mv (.t 7), []⟩, ⟨(some 54), none, .ixs (.t 52) (.t 53), []⟩, ⟨(some 55), none, .bls 1 1 [.int .u8 0] [(0, (.t 54))], []⟩, ⟨(some 56), none, .app 1 1 (.t 51) (.t 55), []⟩, ⟨(some 57), none, .nilchk (.t 47), []⟩, ⟨(some 58), none, .fa 0 (.t 57), []⟩, ⟨none, none, .st 1 (.t 58) (.t 56), []⟩])
     (.reg [] [⟨(some 59), none, .mv (.t 7), []⟩, ⟨(some 60), none, .bi .add .i64 (.t 59) (.k (.int .i64 1)), []⟩, ⟨(some 7), none, .mv (.t 60), []⟩])))))))
  (.seq (.reg [] [⟨(some 61), none, .mv (.t 6), []⟩, ⟨(some 62), none, .call 137 [(.t 61)], []⟩])
  (.seq (.seq (.reg [] [⟨(some 63), none, .mv (.t 6), []⟩, ⟨(some 64), none, .nilchk (.t 63), []⟩, ⟨(some 65), none, .fa 2 (.t 64), []⟩, ⟨(some 66), none, .ld 1 false (.t 65), []⟩, ⟨(some 67), none, .not (.t 66), []⟩])
  (.cond (.t 67) (.seq (.reg [] [⟨(some 4), none, .mv (.k (.str [])), []⟩, ⟨(some 5), none, .mv (.k (.int .i64 0)), []⟩])
   (.ret)) (.skip)))
  (.seq (.reg [] [⟨(some 68), none, .mv (.t 6), []⟩, ⟨(some 69), none, .nilchk (.t 68), []⟩, ⟨(some 70), none, .fa 0 (.t 69), []⟩, ⟨(some 71), none, .ld 1 false (.t 70), []⟩, ⟨(some 72), none, .cvb2s (.t 71), []⟩, ⟨(some 73), none, .mv (.t 7), []⟩, ⟨(some 74), none, .bi .add .i64 (.t 73) (.k (.int .i64 1)), []⟩, ⟨(some 4), none, .mv (.t 72), []⟩, ⟨(some 5), none, .mv (.t 74), []⟩])
  (.ret)))))))))⟩
theorem ck122 : chkFn Tryd.prog 122 ir122 = true := by kernel_rfl

/-- seine value.Whole -/
def ir125 : AFn := ⟨19, 1, [.t 2, .t 3], .seq (.reg [] [⟨(some 2), none, .mv (.k (.int .i64 0)), []⟩, ⟨(some 3), none, .mv (.k (.bool false)), []⟩])
  (.seq (.reg [] [⟨(some 7), none, .mv (.t 0), []⟩, ⟨(some 8), none, .call 139 [(.t 7), (.k (.int .i64 10)), (.k (.int .i64 64))], []⟩, ⟨(some 6), none, .mv (.t 8), []⟩, ⟨(some 9), none, .ext (.t 6) 0, []⟩, ⟨(some 10), none, .ext (.t 6) 1, []⟩, ⟨(some 4), none, .mv (.t 9), []⟩, ⟨(some 5), none, .mv (.t 10), []⟩])
  (.seq (.reg [] [⟨(some 11), none, .mv (.t 4), []⟩, ⟨(some 12), none, .mv (.t 5), []⟩, ⟨(some 13), none, .ifnil false (.t 12), []⟩, ⟨(some 14), none, .mv (.t 13), []⟩, ⟨(some 15), (some (14, true)), .mv (.t 0), []⟩, ⟨(some 16), (some (14, true)), .call 83 [(.t 15)], []⟩, ⟨(some 17), (some (14, true)), .bi .eql .i64 (.t 16) (.k (.int .i64 3)), []⟩, ⟨(some 18), none, .pick (.t 14) (.t 17) (.k (.bool false)), []⟩, ⟨(some 2), none, .mv (.t 11), []⟩, ⟨(some 3), none, .mv (.t 18), []⟩])
  (.ret)))⟩
theorem ck125 : chkFn Tryd.prog 125 ir125 = true := by kernel_rfl

/-- seine token.whole -/
def ir131 : AFn := ⟨24, 1, [.t 2], .seq (.reg [] [⟨(some 2), none, .mv (.k (.int .i64 0)), []⟩])
  (.seq (.reg [] [⟨(some 3), none, .mv (.k (.int .i64 0)), []⟩])
  (.seq (.seq (.reg [] [⟨(some 5), none, .mv (.t 0), []⟩, ⟨(some 6), none, .call 121 [(.t 5), (.k (.str [45]))], []⟩])
  (.cond (.t 6) (.reg [] [⟨(some 3), none, .mv (.k (.int .i64 1)), []⟩]) (.skip)))
  (.seq (.reg [] [⟨(some 7), none, .mv (.t 0), []⟩, ⟨(some 8), none, .mv (.t 3), []⟩, ⟨(some 9), none, .sls (.t 7) (some (.t 8)) none, []⟩, ⟨(some 10), none, .call 132 [(.t 9)], []⟩, ⟨(some 4), none, .mv (.t 10), []⟩])
  (.seq (.block 0 (.seq (.reg [] [⟨(some 12), none, .mv (.t 4), []⟩, ⟨(some 13), none, .bi .eql .i64 (.t 12) (.k (.int .i64 0)), []⟩, ⟨(some 11), none, .mv (.t 13), []⟩])
   (.cond (.t 11) (.seq (.reg [] [⟨(some 2), none, .mv (.k (.int .i64 0)), []⟩])
    (.ret)) (.seq (.reg [] [⟨(some 15), none, .mv (.t 0), []⟩, ⟨(some 16), none, .mv (.t 3), []⟩, ⟨(some 17), none, .ixs (.t 15) (.t 16), []⟩, ⟨(some 18), none, .bi .eql .u8 (.t 17) (.k (.int .u8 48)), []⟩, ⟨(some 14), none, .mv (.t 18), []⟩])
    (.cond (.t 14) (.seq (.reg [] [⟨(some 19), none, .mv (.t 3), []⟩, ⟨(some 20), none, .bi .add .i64 (.t 19) (.k (.int .i64 1)), []⟩, ⟨(some 2), none, .mv (.t 20), []⟩])
     (.ret)) (.skip))))))
  (.seq (.reg [] [⟨(some 21), none, .mv (.t 3), []⟩, ⟨(some 22), none, .mv (.t 4), []⟩, ⟨(some 23), none, .bi .add .i64 (.t 21) (.t 22), []⟩, ⟨(some 2), none, .mv (.t 23), []⟩])
  (.ret))))))⟩
theorem ck131 : chkFn Tryd.prog 131 ir131 = true := by kernel_rfl

/-- seine token.digits -/
def ir132 : AFn := ⟨17, 1, [.t 2], .seq (.reg [] [⟨(some 2), none, .mv (.k (.int .i64 0)), []⟩])
  (.seq (.reg [] [⟨(some 3), none, .mv (.k (.int .i64 0)), []⟩])
  (.seq (.block 0 (.loop [0, 3] (.seq (.seq (.reg [] [⟨(some 4), none, .mv (.t 3), []⟩, ⟨(some 5), none, .mv (.t 0), []⟩, ⟨(some 6), none, .lens (.t 5), []⟩, ⟨(some 7), none, .bi .lss .i64 (.t 4) (.t 6), []⟩, ⟨(some 8), none, .mv (.t 7), []⟩, ⟨(some 9), (some (8, true)), .mv (.t 0), []⟩, ⟨(some 10), (some (8, true)), .mv (.t 3), []⟩, ⟨(some 11), (some (8, true)), .ixs (.t 9) (.t 10), []⟩, ⟨(some 12), (some (8, true)), .call 88 [(.t 11)], []⟩, ⟨(some 13), none, .pick (.t 8) (.t 12) (.k (.bool false)), []⟩])
    (.cond (.t 13) (.skip) (.exit 0)))
    (.block 1 (.reg [] [⟨(some 14), none, .mv (.t 3), []⟩, ⟨(some 15), none, .bi .add .i64 (.t 14) (.k (.int .i64 1)), []⟩, ⟨(some 3), none, .mv (.t 15), []⟩])))))
  (.seq (.reg [] [⟨(some 16), none, .mv (.t 3), []⟩, ⟨(some 2), none, .mv (.t 16), []⟩])
  (.ret))))⟩
theorem ck132 : chkFn Tryd.prog 132 ir132 = true := by kernel_rfl

/-- seine token.power -/
def ir133 : AFn := ⟨39, 1, [.t 2], .seq (.reg [] [⟨(some 2), none, .mv (.k (.int .i64 0)), []⟩])
  (.seq (.seq (.reg [] [⟨(some 5), none, .mv (.t 0), []⟩, ⟨(some 6), none, .bs .eql (.t 5) (.k (.str [])), []⟩, ⟨(some 7), none, .mv (.t 6), []⟩, ⟨(some 8), (some (7, false)), .mv (.t 0), []⟩, ⟨(some 9), (some (7, false)), .ixs (.t 8) (.k (.int .i64 0)), []⟩, ⟨(some 10), (some (7, false)), .bi .neq .u8 (.t 9) (.k (.int .u8 101)), []⟩, ⟨(some 11), (some (7, false)), .mv (.t 10), []⟩, ⟨(some 12), (some (11, true)), .mv (.t 0), []⟩, ⟨(some 13), (some (11, true)), .ixs (.t 12) (.k (.int .i64 0)), []⟩, ⟨(some 14), (some (11, true)), .bi .neq .u8 (.t 13) (.k (.int .u8 69)), []⟩, ⟨(some 15), (some (7, false)), .pick (.t 11) (.t 14) (.k (.bool false)), []⟩, ⟨(some 16), none, .pick (.t 7) (.k (.bool true)) (.t 15), []⟩])
  (.cond (.t 16) (.seq (.reg [] [⟨(some 2), none, .mv (.k (.int .i64 0)), []⟩])
   (.ret)) (.skip)))
  (.seq (.reg [] [⟨(some 3), none, .mv (.k (.int .i64 1)), []⟩])
  (.seq (.seq (.reg [] [⟨(some 17), none, .mv (.t 0), []⟩, ⟨(some 18), none, .lens (.t 17), []⟩, ⟨(some 19), none, .bi .gtr .i64 (.t 18) (.k (.int .i64 1)), []⟩, ⟨(some 20), none, .mv (.t 19), []⟩, ⟨(some 21), (some (20, true)), .mv (.t 0), []⟩, ⟨(some 22), (some (20, true)), .ixs (.t 21) (.k (.int .i64 1)), []⟩, ⟨(some 23), (some (20, true)), .bi .eql .u8 (.t 22) (.k (.int .u8 43)), []⟩, ⟨(some 24), (some (20, true)), .mv (.t 23), []⟩, ⟨(some 25), (some (24, false)), .mv (.t 0), []⟩, ⟨(some 26), (some (24, false)), .ixs (.t 25) (.k (.int .i64 1)), []⟩, ⟨(some 27), (some (24, false)), .bi .eql .u8 (.t 26) (.k (.int .u8 45)), []⟩, ⟨(some 28), (some (20, true)), .pick (.t 24) (.k (.bool true)) (.t 27), []⟩, ⟨(some 29), none, .pick (.t 20) (.t 28) (.k (.bool false)), []⟩])
  (.cond (.t 29) (.reg [] [⟨(some 3), none, .mv (.k (.int .i64 2)), []⟩]) (.skip)))
  (.seq (.reg [] [⟨(some 30), none, .mv (.t 0), []⟩, ⟨(some 31), none, .mv (.t 3), []⟩, ⟨(some 32), none, .sls (.t 30) (some (.t 31)) none, []⟩, ⟨(some 33), none, .call 132 [(.t 32)], []⟩, ⟨(some 4), none, .mv (.t 33), []⟩])
  (.seq (.seq (.reg [] [⟨(some 34), none, .mv (.t 4), []⟩, ⟨(some 35), none, .bi .eql .i64 (.t 34) (.k (.int .i64 0)), []⟩])
  (.cond (.t 35) (.seq (.reg [] [⟨(some 2), none, .mv (.k (.int .i64 0)), []⟩])
   (.ret)) (.skip)))
  (.seq (.reg [] [⟨(some 36), none, .mv (.t 3), []⟩, ⟨(some 37), none, .mv (.t 4), []⟩, ⟨(some 38), none, .bi .add .i64 (.t 36) (.t 37), []⟩, ⟨(some 2), none, .mv (.t 38), []⟩])
  (.ret)))))))⟩
theorem ck133 : chkFn Tryd.prog 133 ir133 = true := by kernel_rfl

/-- internal stringslite.HasPrefix -/
def ir135 : AFn := ⟨18, 2, [.t 4], .seq (.reg [] [⟨(some 4), none, .mv (.k (.bool false)), []⟩])
  (.seq (.reg [] [⟨(some 5), none, .mv (.t 0), []⟩, ⟨(some 6), none, .lens (.t 5), []⟩, ⟨(some 7), none, .mv (.t 1), []⟩, ⟨(some 8), none, .lens (.t 7), []⟩, ⟨(some 9), none, .bi .geq .i64 (.t 6) (.t 8), []⟩, ⟨(some 10), none, .mv (.t 9), []⟩, ⟨(some 11), (some (10, true)), .mv (.t 0), []⟩, ⟨(some 12), (some (10, true)), .mv (.t 1), []⟩, ⟨(some 13), (some (10, true)), .lens (.t 12), []⟩, ⟨(some 14), (some (10, true)), .sls (.t 11) none (some (.t 13)), []⟩, ⟨(some 15), (some (10, true)), .mv (.t 1), []⟩, ⟨(some 16), (some (10, true)), .bs .eql (.t 14) (.t 15), []⟩, ⟨(some 17), none, .pick (.t 10) (.t 16) (.k (.bool false)), []⟩, ⟨(some 4), none, .mv (.t 17), []⟩])
  (.ret))⟩
theorem ck135 : chkFn Tryd.prog 135 ir135 = true := by kernel_rfl

/-- ( seine token.said).escaped -/
def ir136 : AFn := ⟨48, 2, [.t 4], .seq (.reg [] [⟨(some 4), none, .mv (.k (.int .i64 0)), []⟩])
  (.seq (.seq (.reg [] [⟨(some 8), none, .mv (.t 1), []⟩, ⟨(some 9), none, .call 121 [(.t 8), (.k (.str [117]))], []⟩])
  (.cond (.t 9) (.seq (.reg [] [⟨(some 11), none, .mv (.t 1), []⟩, ⟨(some 12), none, .sls (.t 11) (some (.k (.int .i64 1))) none, []⟩, ⟨(some 13), none, .call 146 [(.t 12)], []⟩, ⟨(some 10), none, .mv (.t 13), []⟩, ⟨(some 14), none, .ext (.t 10) 0, []⟩, ⟨(some 15), none, .ext (.t 10) 1, []⟩, ⟨(some 5), none, .mv (.t 14), []⟩, ⟨(some 6), none, .mv (.t 15), []⟩])
   (.seq (.seq (.reg [] [⟨(some 16), none, .mv (.t 6), []⟩, ⟨(some 17), none, .not (.t 16), []⟩])
   (.cond (.t 17) (.seq (.reg [] [⟨(some 4), none, .mv (.k (.int .i64 0)), []⟩])
    (.ret)) (.skip)))
   (.seq (.reg [] [⟨(some 18), none, .mv (.t 0), []⟩, ⟨(some 19), none, .mv (.t 0), []⟩, ⟨(some 20), none, .nilchk (.t 19), []⟩, ⟨(some 21), none, .fa 1 (.t 20), []⟩, ⟨(some 22), none, .ld 1 false (.t 21), []⟩, ⟨(some 23), none, .mv (.t 5), []⟩, ⟨(some 24), none, .bls 1 1 [.int .i64 0] [(0, (.t 23))], []⟩, ⟨(some 25), none, .app 1 8 (.t 22) (.t 24), []⟩, ⟨(some 26), none, .nilchk (.t 18), []⟩, ⟨(some 27), none, .fa 1 (.t 26), []⟩, ⟨none, none, .st 1 (.t 27) (.t 25), []⟩])
   (.seq (.reg [] [⟨(some 4), none, .mv (.k (.int .i64 5)), []⟩])
   (.ret))))) (.skip)))
  (.seq (.seq (.reg [] [⟨(some 28), none, .mv (.t 1), []⟩, ⟨(some 29), none, .bs .eql (.t 28) (.k (.str [])), []⟩])
  (.cond (.t 29) (.seq (.reg [] [⟨(some 4), none, .mv (.k (.int .i64 0)), []⟩])
   (.ret)) (.skip)))
  (.seq (.reg [] [⟨(some 30), none, .mv (.t 1), []⟩, ⟨(some 31), none, .ixs (.t 30) (.k (.int .i64 0)), []⟩, ⟨(some 32), none, .call 109 [(.k (.str [34, 92, 47, 98, 102, 110, 114, 116])), (.t 31)], []⟩, ⟨(some 7), none, .mv (.t 32), []⟩])
  (.seq (.seq (.reg [] [⟨(some 33), none, .mv (.t 7), []⟩, ⟨(some 34), none, .bi .lss .i64 (.t 33) (.k (.int .i64 0)), []⟩])
  (.cond (.t 34) (.seq (.reg [] [⟨(some 4), none, .mv (.k (.int .i64 0)), []⟩])
   (.ret)) (.skip)))
  (.seq (.reg [] [⟨(some 35), none, .mv (.t 0), []⟩, ⟨(some 36), none, .call 137 [(.t 35)], []⟩])
  (.seq (.reg [0, 1, 2, 3, 4, 5, 6, 7, 8, 9, 10, 11] [⟨(some 37), none, .mv (.t 0), []⟩, ⟨(some 38), none, .mv (.t 0), []⟩, ⟨(some 39), none, .nilchk (.t 38), []⟩, ⟨(some 40), none, .fa 0 (.t 39), []⟩, ⟨(some 41), none, .ld 1 false (.t 40), []⟩, ⟨(some 42), none, .mv (.t 7), []⟩, ⟨(some 43), none, .ixs (.k (.str [34, 92, 47, 8, 12, 10, 13, 9])) (.t 42), []⟩, ⟨(some 44), none, .bls 1 1 [.int .u8 0] [(0, (.t 43))], []⟩, ⟨(some 45), none, .app 1 1 (.t 41) (.t 44), []⟩, ⟨(some 46), none, .nilchk (.t 37), []⟩, ⟨(some 47), none, .fa 0 (.t 46), []⟩, ⟨none, none, .st 1 (.t 47) (.t 45), []⟩])
  (.seq (.reg [] [⟨(some 4), none, .mv (.k (.int .i64 1)), []⟩])
  (.ret))))))))⟩
theorem ck136 : chkFn Tryd.prog 136 ir136 = true := by kernel_rfl

/-- ( seine token.said).flush -/
def ir137 : AFn := ⟨34, 1, [], .seq (.reg [] [⟨(some 5), none, .mv (.t 0), []⟩, ⟨(some 6), none, .nilchk (.t 5), []⟩, ⟨(some 7), none, .fa 1 (.t 6), []⟩, ⟨(some 8), none, .ld 1 false (.t 7), []⟩, ⟨(some 9), none, .call 147 [(.t 8)], []⟩, ⟨(some 4), none, .mv (.t 9), []⟩, ⟨(some 10), none, .ext (.t 4) 0, []⟩, ⟨(some 11), none, .ext (.t 4) 1, []⟩, ⟨(some 2), none, .mv (.t 10), []⟩, ⟨(some 3), none, .mv (.t 11), []⟩])
  (.reg [0, 1, 2, 3, 4, 5, 6, 7, 9, 10, 11, 12, 8, 13, 14, 15, 16, 17, 18, 19, 20, 21, 22, 23, 24] [⟨(some 12), none, .mv (.t 0), []⟩, ⟨(some 13), none, .mv (.t 0), []⟩, ⟨(some 14), none, .mv (.t 0), []⟩, ⟨(some 15), none, .mv (.t 0), []⟩, ⟨(some 16), none, .nilchk (.t 15), []⟩, ⟨(some 17), none, .fa 0 (.t 16), []⟩, ⟨(some 18), none, .ld 1 false (.t 17), []⟩, ⟨(some 19), none, .mv (.t 2), []⟩, ⟨(some 21), none, .mv (.t 0), []⟩, ⟨(some 22), none, .nilchk (.t 21), []⟩, ⟨(some 23), none, .fa 2 (.t 22), []⟩, ⟨(some 24), none, .ld 1 false (.t 23), []⟩, ⟨(some 20), none, .apps (.t 18) (.t 19), [11]⟩, ⟨(some 25), none, .mv (.t 24), []⟩, ⟨(some 26), (some (25, true)), .mv (.t 3), []⟩, ⟨(some 27), none, .pick (.t 25) (.t 26) (.k (.bool false)), []⟩, ⟨(some 28), none, .nilchk (.t 12), []⟩, ⟨(some 29), none, .fa 0 (.t 28), []⟩, ⟨none, none, .st 1 (.t 29) (.t 20), []⟩, ⟨(some 30), none, .nilchk (.t 13), []⟩, ⟨(some 31), none, .fa 1 (.t 30), []⟩, ⟨none, none, .st 1 (.t 31) (.k (.sl .nil 1 [])), []⟩, ⟨(some 32), none, .nilchk (.t 14), []⟩, ⟨(some 33), none, .fa 2 (.t 32), []⟩, ⟨none, none, .st 1 (.t 33) (.t 27), []⟩])⟩
theorem ck137 : chkFn Tryd.prog 137 ir137 = true := by kernel_rfl

/-- seine token.Unit -/
def ir146 : AFn := ⟨44, 1, [.t 2, .t 3], .seq (.reg [] [⟨(some 2), none, .mv (.k (.int .i64 0)), []⟩, ⟨(some 3), none, .mv (.k (.bool false)), []⟩])
  (.seq (.seq (.reg [] [⟨(some 7), none, .mv (.t 0), []⟩, ⟨(some 8), none, .lens (.t 7), []⟩, ⟨(some 9), none, .bi .lss .i64 (.t 8) (.k (.int .i64 4)), []⟩])
  (.cond (.t 9) (.seq (.reg [] [⟨(some 2), none, .mv (.k (.int .i64 0)), []⟩, ⟨(some 3), none, .mv (.k (.bool false)), []⟩])
   (.ret)) (.skip)))
  (.seq (.reg [] [⟨(some 4), none, .mv (.k (.int .i64 0)), []⟩])
  (.seq (.seq (.reg [] [⟨(some 10), none, .mv (.k (.int .i64 0)), []⟩])
  (.block 0 (.loop [0, 4, 10] (.seq (.reg [] [⟨(some 11), none, .bi .lss .i64 (.t 10) (.k (.int .i64 4)), []⟩])
    (.seq (.cond (.t 11) (.skip) (.exit 0))
    (.seq (.block 1 (.seq (.reg [] [⟨(some 12), none, .mv (.t 10), []⟩, ⟨(some 5), none, .mv (.t 12), []⟩])
     (.seq (.reg [] [⟨(some 13), none, .mv (.t 0), []⟩, ⟨(some 14), none, .mv (.t 5), []⟩, ⟨(some 15), none, .ixs (.t 13) (.t 14), []⟩, ⟨(some 16), none, .bi .or .u8 (.t 15) (.k (.int .u8 32)), []⟩, ⟨(some 17), none, .call 109 [(.k (.str [48, 49, 50, 51, 52, 53, 54, 55, 56, 57, 97, 98, 99, 100, 101, 102])), (.t 16)], []⟩, ⟨(some 6), none, .mv (.t 17), []⟩])
     (.seq (.seq (.reg [] [⟨(some 18), none, .mv (.t 6), []⟩, ⟨(some 19), none, .bi .lss .i64 (.t 18) (.k (.int .i64 0)), []⟩, ⟨(some 20), none, .mv (.t 19), []⟩, ⟨(some 21), (some (20, false)), .mv (.t 0), []⟩, ⟨(some 22), (some (20, false)), .mv (.t 5), []⟩, ⟨(some 23), (some (20, false)), .ixs (.t 21) (.t 22), []⟩, ⟨(some 24), (some (20, false)), .bi .lss .u8 (.t 23) (.k (.int .u8 48)), []⟩, ⟨(some 25), none, .pick (.t 20) (.k (.bool true)) (.t 24), []⟩, ⟨(some 26), none, .mv (.t 25), []⟩, ⟨(some 27), (some (26, false)), .mv (.t 0), []⟩, ⟨(some 28), (some (26, false)), .mv (.t 5), []⟩, ⟨(some 29), (some (26, false)), .ixs (.t 27) (.t 28), []⟩, ⟨(some 30), (some (26, false)), .bi .gtr .u8 (.t 29) (.k (.int .u8 57)), []⟩, ⟨(some 31), (some (26, false)), .mv (.t 30), []⟩, ⟨(some 32), (some (31, true)), .mv (.t 0), []⟩, ⟨(some 33), (some (31, true)), .mv (.t 5), []⟩, ⟨(some 34), (some (31, true)), .ixs (.t 32) (.t 33), []⟩, ⟨(some 35), (some (31, true)), .bi .lss .u8 (.t 34) (.k (.int .u8 65)), []⟩, ⟨(some 36), (some (26, false)), .pick (.t 31) (.t 35) (.k (.bool false)), []⟩, ⟨(some 37), none, .pick (.t 26) (.k (.bool true)) (.t 36), []⟩])
     (.cond (.t 37) (.seq (.reg [] [⟨(some 2), none, .mv (.k (.int .i64 0)), []⟩, ⟨(some 3), none, .mv (.k (.bool false)), []⟩])
      (.ret)) (.skip)))
     (.reg [] [⟨(some 38), none, .mv (.t 4), []⟩, ⟨(some 39), none, .bi .mul .i64 (.k (.int .i64 16)) (.t 38), []⟩, ⟨(some 40), none, .mv (.t 6), []⟩, ⟨(some 41), none, .bi .add .i64 (.t 39) (.t 40), []⟩, ⟨(some 4), none, .mv (.t 41), []⟩])))))
    (.reg [] [⟨(some 42), none, .bi .add .i64 (.t 10) (.k (.int .i64 1)), []⟩, ⟨(some 10), none, .mv (.t 42), []⟩])))))))
  (.seq (.reg [] [⟨(some 43), none, .mv (.t 4), []⟩, ⟨(some 2), none, .mv (.t 43), []⟩, ⟨(some 3), none, .mv (.k (.bool true)), []⟩])
  (.ret)))))⟩
theorem ck146 : chkFn Tryd.prog 146 ir146 = true := by kernel_rfl

/-- seine letters.Join -/
def ir147 : AFn := ⟨75, 1, [.t 2, .t 3], .seq (.reg [] [⟨(some 2), none, .mv (.k (.str [])), []⟩, ⟨(some 3), none, .mv (.k (.bool false)), []⟩])
  (.seq (.reg [] [⟨(some 4), none, .mv (.k (.sl .nil 1 [])), []⟩])
  (.seq (.seq (.reg [] [⟨(some 5), none, .mv (.k (.int .i64 0)), []⟩])
  (.block 0 (.loop [0, 4, 5] (.seq (.seq (.reg [] [⟨(some 7), none, .mv (.t 5), []⟩, ⟨(some 8), none, .mv (.t 0), []⟩, ⟨(some 9), none, .len (.t 8), []⟩, ⟨(some 10), none, .bi .lss .i64 (.t 7) (.t 9), []⟩])
    (.cond (.t 10) (.skip) (.exit 0)))
    (.seq (.block 1 (.seq (.reg [] [⟨(some 13), none, .mv (.t 0), []⟩, ⟨(some 14), none, .mv (.t 5), []⟩, ⟨(some 15), none, .ia 1 (.t 13) (.t 14), []⟩, ⟨(some 16), none, .ld 1 false (.t 15), []⟩, ⟨(some 6), none, .mv (.t 16), []⟩])
     (.seq (.block 2 (.seq (.reg [] [⟨(some 18), none, .mv (.t 6), []⟩, ⟨(some 19), none, .bi .lss .i64 (.t 18) (.k (.int .i64 0)), []⟩, ⟨(some 20), none, .mv (.t 19), []⟩, ⟨(some 21), (some (20, false)), .mv (.t 6), []⟩, ⟨(some 22), (some (20, false)), .bi .gtr .i64 (.t 21) (.k (.int .i64 65535)), []⟩, ⟨(some 23), none, .pick (.t 20) (.k (.bool true)) (.t 22), []⟩, ⟨(some 24), none, .mv (.t 23), []⟩, ⟨(some 25), (some (24, false)), .mv (.t 6), []⟩, ⟨(some 26), (some (24, false)), .bi .geq .i64 (.t 25) (.k (.int .i64 56320)), []⟩, ⟨(some 27), (some (24, false)), .mv (.t 26), []⟩, ⟨(some 28), (some (27, true)), .mv (.t 6), []⟩, ⟨(some 29), (some (27, true)), .bi .leq .i64 (.t 28) (.k (.int .i64 57343)), []⟩, ⟨(some 30), (some (24, false)), .pick (.t 27) (.t 29) (.k (.bool false)), []⟩, ⟨(some 31), none, .pick (.t 24) (.k (.bool true)) (.t 30), []⟩, ⟨(some 17), none, .mv (.t 31), []⟩])
      (.cond (.t 17) (.seq (.reg [] [⟨(some 2), none, .mv (.k (.str [])), []⟩, ⟨(some 3), none, .mv (.k (.bool false)), []⟩])
       (.ret)) (.seq (.reg [] [⟨(some 33), none, .mv (.t 6), []⟩, ⟨(some 34), none, .bi .geq .i64 (.t 33) (.k (.int .i64 55296)), []⟩, ⟨(some 35), none, .mv (.t 34), []⟩, ⟨(some 36), (some (35, true)), .mv (.t 6), []⟩, ⟨(some 37), (some (35, true)), .bi .lss .i64 (.t 36) (.k (.int .i64 56320)), []⟩, ⟨(some 38), none, .pick (.t 35) (.t 37) (.k (.bool false)), []⟩, ⟨(some 32), none, .mv (.t 38), []⟩])
       (.cond (.t 32) (.seq (.reg [] [⟨(some 39), none, .mv (.t 5), []⟩, ⟨(some 40), none, .bi .add .i64 (.t 39) (.k (.int .i64 1)), []⟩, ⟨(some 5), none, .mv (.t 40), []⟩])
        (.seq (.seq (.reg [] [⟨(some 41), none, .mv (.t 5), []⟩, ⟨(some 42), none, .mv (.t 0), []⟩, ⟨(some 43), none, .len (.t 42), []⟩, ⟨(some 44), none, .bi .eql .i64 (.t 41) (.t 43), []⟩, ⟨(some 45), none, .mv (.t 44), []⟩, ⟨(some 46), (some (45, false)), .mv (.t 0), []⟩, ⟨(some 47), (some (45, false)), .mv (.t 5), []⟩, ⟨(some 48), (some (45, false)), .ia 1 (.t 46) (.t 47), []⟩, ⟨(some 49), (some (45, false)), .ld 1 false (.t 48), []⟩, ⟨(some 50), (some (45, false)), .bi .lss .i64 (.t 49) (.k (.int .i64 56320)), []⟩, ⟨(some 51), none, .pick (.t 45) (.k (.bool true)) (.t 50), []⟩, ⟨(some 52), none, .mv (.t 51), []⟩, ⟨(some 53), (some (52, false)), .mv (.t 0), []⟩, ⟨(some 54), (some (52, false)), .mv (.t 5), []⟩, ⟨(some 55), (some (52, false)), .ia 1 (.t 53) (.t 54), []⟩, ⟨(some 56), (some (52, false)), .ld 1 false (.t 55), []⟩, ⟨(some 57), (some (52, false)), .bi .gtr .i64 (.t 56) (.k (.int .i64 57343)), []⟩, ⟨(some 58), none, .pick (.t 52) (.k (.bool true)) (.t 57), []⟩])
        (.cond (.t 58) (.seq (.reg [] [⟨(some 2), none, .mv (.k (.str [])), []⟩, ⟨(some 3), none, .mv (.k (.bool false)), []⟩])
         (.ret)) (.skip)))
        (.reg [] [⟨(some 59), none, .mv (.t 6), []⟩, ⟨(some 60), none, .bi .sub .i64 (.t 59) (.k (.int .i64 55296)), []⟩, ⟨(some 61), none, .bi .mul .i64 (.k (.int .i64 1024)) (.t 60), []⟩, ⟨(some 62), none, .bi .add .i64 (.k (.int .i64 65536)) (.t 61), []⟩, ⟨(some 63), none, .mv (.t 0), []⟩, ⟨(some 64), none, .mv (.t 5), []⟩, ⟨(some 65), none, .ia 1 (.t 63) (.t 64), []⟩, ⟨(some 66), none, .ld 1 false (.t 65), []⟩, ⟨(some 67), none, .bi .add .i64 (.t 62) (.t 66), []⟩, ⟨(some 68), none, .bi .sub .i64 (.t 67) (.k (.int .i64 56320)), []⟩, ⟨(some 6), none, .mv (.t 68), []⟩]))) (.skip))))))
     (.reg [] [⟨(some 69), none, .mv (.t 4), []⟩, ⟨(some 70), none, .mv (.t 6), []⟩, ⟨(some 71), none, .cvi .i32 (.t 70), []⟩, ⟨(some 72), none, .call 155 [(.t 69), (.t 71)], []⟩, ⟨(some 4), none, .mv (.t 72), []⟩]))))
    (.reg [] [⟨(some 11), none, .mv (.t 5), []⟩, ⟨(some 12), none, .bi .add .i64 (.t 11) (.k (.int .i64 1)), []⟩, ⟨(some 5), none, .mv (.t 12), []⟩]))))))
  (.seq (.reg [] [⟨(some 73), none, .mv (.t 4), []⟩, ⟨(some 74), none, .cvb2s (.t 73), []⟩, ⟨(some 2), none, .mv (.t 74), []⟩, ⟨(some 3), none, .mv (.k (.bool true)), []⟩])
  (.ret))))⟩
theorem ck147 : chkFn Tryd.prog 147 ir147 = true := by kernel_rfl

end Go.Proofs.YtpjafglhdlfnbaaDoor
