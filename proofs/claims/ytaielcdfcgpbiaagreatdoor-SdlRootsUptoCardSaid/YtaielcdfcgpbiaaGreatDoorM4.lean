import Derived.Test.YtaielcdfcgpbiaaGreatDoorRows
import Derived.Test.YtaielcdfcgpbiaaGreatDoorM1
import Derived.Test.YtaielcdfcgpbiaaGreatDoorM2
import Derived.Test.YtaielcdfcgpbiaaGreatDoorM3
set_option maxRecDepth 100000
set_option linter.all false
namespace Go.Proofs.YtaielcdfcgpbiaaGreatDoor
open Go.Ab
def ir6 : AFn := ⟨82, 1, [.t 2], .seq (.rg [Io 1 (.box (.t 0)), Imb 2 false])
 (.seq (.rg [If 11 1 1, ⟨none, none, .st 1 (.t 11) (.k (.str [81, 117, 101, 114, 121])), []⟩, If 12 2 1, ⟨none, none, .st 1 (.t 12) (.k (.str [])), []⟩])
 (.seq (.seq (.rg [Ilb 13 3 1, Io 14 (.call 22 [(.t 13)]), Ing 15 14, Im 16 15, Fa 17 16 0 1, Fl 18 16 1 17, Jf 19 16 (.len (.t 18)), Jf 20 16 (.bi .eql .i64 (.t 19) (.k (.int .i64 0))), Ipt 21 16 20])
 (.cond (.t 21) (.seq (.rg [Io 22 (.call 16 []), Im 2 22])
 .ret) .skip))
 (.seq (.rg [Ilb 24 3 1, Io 25 (.call 23 [(.t 24)]), Im 23 25, Iex 26 23 0, Iex 27 23 1, Im 3 26, Im 4 27])
 (.seq (.rg [Im 29 3, Io 30 (.call 24 [(.t 29)]), Im 28 30, Iex 31 28 0, Iex 32 28 1, Im 5 31, Im 6 32])
 (.seq (.seq (.rg [Im 33 4, Ing 34 33, Im 35 34, Fm 36 35 6, Jf 37 35 (.bi .neq .i64 (.t 36) (.k (.int .i64 0))), Ipt 38 35 37])
 (.cond (.t 38) (.seq (.rg [Io 39 (.call 16 []), Im 2 39])
 .ret) .skip))
 (.seq (.seq (.rg [Im 40 5, Iln 41 40, Io 42 (.bi .lss .i64 (.t 41) (.k (.int .i64 6)))])
 (.cond (.t 42) (.seq (.rg [Imb 2 false])
 .ret) .skip))
 (.seq (.rg [Im 44 5, Io 45 (.sll 2 (.t 44) (some (.k (.int .i64 6))) none none), Io 46 (.call 25 [(.t 45)]), Im 43 46, Iex 47 43 0, Iex 48 43 1, Im 7 47, Im 8 48])
 (.seq (.rg [Im 50 7, Io 51 (.call 17 [(.t 50)]), Im 49 51, Iex 52 49 0, Iex 53 49 1, Io 9 (.alloc [.sl .nil 6 [], .str [], .str []]), ⟨none, none, .st 3 (.t 9) (.t 52), []⟩, Im 6 53])
 (.seq (.seq (.rg [Imv 10 0])
 (.block 0 (.loop [1, 6, 8, 9, 10] (.seq (.seq (.rg [Im 54 10, If 55 0 1, Il 56 1 55, Iln 57 56, Ilt 58 54 57])
 (.cond (.t 58) .skip (.exit 0)))
 (.seq (.block 1 (.seq (.rg [If 61 0 1, Il 62 1 61, Im 63 10, Iia 64 6 62 63, If 65 1 64, Il 66 1 65, Io 67 (.bs .eql (.t 66) (.k (.str [77, 117, 116, 97, 116, 105, 111, 110])))])
 (.cond (.t 67) (.rg [If 68 2 1, ⟨none, none, .st 1 (.t 68) (.k (.str [77, 117, 116, 97, 116, 105, 111, 110])), []⟩]) .skip)))
 (.rg [Im 59 10, Iai 60 59 1, Im 10 60]))))))
 (.seq (.rg [Im 69 8, Im 70 69, Jm 71 70 6, Jt 72 70 (.bi .eql .i64 (.t 71) (.k (.int .i64 0))), Ipf 73 70 72, Im 74 73, Jt 75 74 (.ld 3 true (.t 9)), Jt 76 74 (.ld 3 true (.t 1)), Jt 77 74 (.call 19 [(.t 75), (.t 76)]), Ipf 78 74 77, Im 79 78, Jt 80 79 (.call 16 []), Ipf 81 79 80, Im 2 81])
 .ret))))))))))⟩
theorem ck6:chkFn Tryz.prog 6 ir6=true:=by kernel_rfl
def ir15 : AFn := ⟨58, 2, [.t 4], .seq (.rg [Ibx 2 0, Ibx 3 1, Imb 4 false])
 (.seq (.seq (.rg [If 6 0 2, Il 7 1 6, If 8 0 3, Il 9 1 8, Io 10 (.bi .neq .i64 (.t 7) (.t 9)), Im 11 10, Fa 12 11 1 2, Fl 13 11 1 12, Fa 14 11 1 3, Fl 15 11 1 14, Jf 16 11 (.bi .neq .i64 (.t 13) (.t 15)), Ipt 17 11 16, Im 18 17, Fa 19 18 2 2, Fl 20 18 1 19, Fa 21 18 2 3, Fl 22 18 1 21, Jf 23 18 (.bs .neq (.t 20) (.t 22)), Ipt 24 18 23, Im 25 24, Fa 26 25 3 2, Fl 27 25 1 26, Jf 28 25 (.len (.t 27)), Fa 29 25 3 3, Fl 30 25 1 29, Jf 31 25 (.len (.t 30)), Jf 32 25 (.bi .neq .i64 (.t 28) (.t 31)), Ipt 33 25 32])
 (.cond (.t 33) (.seq (.rg [Imb 4 false])
 .ret) .skip))
 (.seq (.seq (.rg [Imv 5 0])
 (.block 0 (.loop [2, 3, 5] (.seq (.seq (.rg [Im 34 5, If 35 3 2, Il 36 1 35, Iln 37 36, Ilt 38 34 37])
 (.cond (.t 38) .skip (.exit 0)))
 (.seq (.block 1 (.seq (.reg [0, 1, 2, 3, 4, 5, 6, 7, 8, 9, 10, 11] [If 41 3 2, Il 42 1 41, Im 43 5, Iia 44 5 42 43, Ilb 45 5 44, If 46 3 3, Il 47 1 46, Im 48 5, Iia 49 5 47 48, Ilb 50 5 49, Io 51 (.call 15 [(.t 45), (.t 50)]), Ing 52 51])
 (.cond (.t 52) (.seq (.rg [Imb 4 false])
 .ret) .skip)))
 (.rg [Im 39 5, Iai 40 39 1, Im 5 40]))))))
 (.seq (.rg [If 53 4 2, Il 54 1 53, If 55 4 3, Il 56 1 55, Io 57 (.call 40 [(.t 54), (.t 56)]), Im 4 57])
 .ret)))⟩
theorem ck15:chkFn Tryz.prog 15 ir15=true:=by kernel_rfl
def ir16 : AFn := ⟨47, 0, [.t 0], .seq (.rg [Imb 0 false])
 (.seq (.rg [Io 6 (.call 17 [(.k (.str [117, 110, 105, 111, 110, 32, 85, 32, 61, 32, 65, 32, 124, 32, 66]))]), Im 5 6, Iex 7 5 0, Iex 8 5 1, Io 1 (.alloc [.sl .nil 6 [], .str [], .str []]), ⟨none, none, .st 3 (.t 1) (.t 7), []⟩, Im 2 8])
 (.seq (.rg [Io 10 (.call 17 [(.k (.str [115, 99, 97, 108, 97, 114, 32, 88]))]), Im 9 10, Iex 11 9 0, Iex 12 9 1, Io 3 (.alloc [.sl .nil 6 [], .str [], .str []]), ⟨none, none, .st 3 (.t 3) (.t 11), []⟩, Im 4 12])
 (.seq (.rg [Im 13 2, Iei 14 13 0, Im 15 14, Ja 16 15 1 1, Jl 17 15 1 16, Jt 18 15 (.bs .eql (.t 17) (.k (.str [81, 117, 101, 114, 121]))), Ipf 19 15 18, Im 20 19, Ja 21 20 0 1, Jl 22 20 1 21, Jt 23 20 (.len (.t 22)), Jt 24 20 (.bi .eql .i64 (.t 23) (.k (.int .i64 1))), Ipf 25 20 24, Im 26 25, Ja 27 26 0 1, Jl 28 26 1 27, Jt 29 26 (.ia 6 (.t 28) (.k (.int .i64 0))), Ja 30 26 0 29, Jl 31 26 1 30, Jt 32 26 (.bi .eql .i64 (.t 31) (.k (.int .i64 3))), Ipf 33 26 32, Im 34 33, Ja 35 34 0 1, Jl 36 34 1 35, Jt 37 34 (.ia 6 (.t 36) (.k (.int .i64 0))), Ja 38 34 4 37, Jl 39 34 1 38, Jt 40 34 (.len (.t 39)), Jt 41 34 (.bi .eql .i64 (.t 40) (.k (.int .i64 2))), Ipf 42 34 41, Im 43 42, Jm 44 43 4, Jt 45 43 (.bi .eql .i64 (.t 44) (.k (.int .i64 2))), Ipf 46 43 45, Im 0 46])
 .ret)))⟩
theorem ck16:chkFn Tryz.prog 16 ir16=true:=by kernel_rfl
def ir17 : AFn := ⟨14, 1, [.c 2 3 true, .t 3], .seq (.rg [Io 2 (.alloc [.sl .nil 6 [], .str [], .str []]), Imv 3 0])
 (.seq (.rg [Io 4 (.alloc [.sl .nil 6 [], .str [], .str []])])
 (.seq (.rg [Im 6 0, Io 7 (.mkfn 41 [] [(.t 4)]), Io 8 (.call 31 [(.t 6), (.t 7)]), Im 5 8])
 (.seq (.seq (.rg [Im 9 5, Io 10 (.bi .neq .i64 (.t 9) (.k (.int .i64 0)))])
 (.cond (.t 10) (.seq (.rg [Io 11 (.bld [.sl .nil 6 [], .str [], .str []] []), Im 12 5, ⟨none, none, .st 3 (.t 2) (.t 11), []⟩, Im 3 12])
 .ret) .skip))
 (.seq (.rg [Ilb 13 3 4, ⟨none, none, .st 3 (.t 2) (.t 13), []⟩, Imv 3 0])
 .ret))))⟩
theorem ck17:chkFn Tryz.prog 17 ir17=true:=by kernel_rfl
def ir19 : AFn := ⟨46, 2, [.t 4], .seq (.rg [Ibx 2 0, Ibx 3 1, Imb 4 false])
 (.seq (.seq (.rg [If 6 1 2, Il 7 1 6, If 8 1 3, Il 9 1 8, Io 10 (.bs .neq (.t 7) (.t 9)), Im 11 10, Fa 12 11 2 2, Fl 13 11 1 12, Fa 14 11 2 3, Fl 15 11 1 14, Jf 16 11 (.bs .neq (.t 13) (.t 15)), Ipt 17 11 16, Im 18 17, Fa 19 18 0 2, Fl 20 18 1 19, Jf 21 18 (.len (.t 20)), Fa 22 18 0 3, Fl 23 18 1 22, Jf 24 18 (.len (.t 23)), Jf 25 18 (.bi .neq .i64 (.t 21) (.t 24)), Ipt 26 18 25])
 (.cond (.t 26) (.seq (.rg [Imb 4 false])
 .ret) .skip))
 (.seq (.seq (.rg [Imv 5 0])
 (.block 0 (.loop [2, 3, 5] (.seq (.seq (.rg [Im 27 5, If 28 0 2, Il 29 1 28, Iln 30 29, Ilt 31 27 30])
 (.cond (.t 31) .skip (.exit 0)))
 (.seq (.block 1 (.seq (.reg [0, 1, 2, 3, 4, 5, 6, 7, 8, 9, 10, 11] [If 34 0 2, Il 35 1 34, Im 36 5, Iia 37 6 35 36, Ilb 38 6 37, If 39 0 3, Il 40 1 39, Im 41 5, Iia 42 6 40 41, Ilb 43 6 42, Io 44 (.call 21 [(.t 38), (.t 43)]), Ing 45 44])
 (.cond (.t 45) (.seq (.rg [Imb 4 false])
 .ret) .skip)))
 (.rg [Im 32 5, Iai 33 32 1, Im 5 33]))))))
 (.seq (.rg [Imb 4 true])
 .ret)))⟩
theorem ck19:chkFn Tryz.prog 19 ir19=true:=by kernel_rfl
def ir21 : AFn := ⟨70, 2, [.t 4], .seq (.rg [Ibx 2 0, Ibx 3 1, Imb 4 false])
 (.seq (.seq (.rg [If 6 0 2, Il 7 1 6, If 8 0 3, Il 9 1 8, Io 10 (.bi .neq .i64 (.t 7) (.t 9)), Im 11 10, Fa 12 11 1 2, Fl 13 11 1 12, Fa 14 11 1 3, Fl 15 11 1 14, Jf 16 11 (.bs .neq (.t 13) (.t 15)), Ipt 17 11 16, Im 18 17, Fa 19 18 2 2, Fl 20 18 1 19, Fa 21 18 2 3, Fl 22 18 1 21, Jf 23 18 (.call 51 [(.t 20), (.t 22)]), Jf 24 18 (.not (.t 23)), Ipt 25 18 24, Im 26 25, Fa 27 26 4 2, Fl 28 26 1 27, Fa 29 26 4 3, Fl 30 26 1 29, Jf 31 26 (.call 51 [(.t 28), (.t 30)]), Jf 32 26 (.not (.t 31)), Ipt 33 26 32, Im 34 33, Fa 35 34 5 2, Fl 36 34 1 35, Fa 37 34 5 3, Fl 38 34 1 37, Jf 39 34 (.call 52 [(.t 36), (.t 38)]), Jf 40 34 (.not (.t 39)), Ipt 41 34 40, Im 42 41, Fa 43 42 3 2, Fl 44 42 1 43, Jf 45 42 (.len (.t 44)), Fa 46 42 3 3, Fl 47 42 1 46, Jf 48 42 (.len (.t 47)), Jf 49 42 (.bi .neq .i64 (.t 45) (.t 48)), Ipt 50 42 49])
 (.cond (.t 50) (.seq (.rg [Imb 4 false])
 .ret) .skip))
 (.seq (.seq (.rg [Imv 5 0])
 (.block 0 (.loop [2, 3, 5] (.seq (.seq (.rg [Im 51 5, If 52 3 2, Il 53 1 52, Iln 54 53, Ilt 55 51 54])
 (.cond (.t 55) .skip (.exit 0)))
 (.seq (.block 1 (.seq (.reg [0, 1, 2, 3, 4, 5, 6, 7, 8, 9, 10, 11] [If 58 3 2, Il 59 1 58, Im 60 5, Iia 61 6 59 60, Ilb 62 6 61, If 63 3 3, Il 64 1 63, Im 65 5, Iia 66 6 64 65, Ilb 67 6 66, Io 68 (.call 53 [(.t 62), (.t 67)]), Ing 69 68])
 (.cond (.t 69) (.seq (.rg [Imb 4 false])
 .ret) .skip)))
 (.rg [Im 56 5, Iai 57 56 1, Im 5 57]))))))
 (.seq (.rg [Imb 4 true])
 .ret)))⟩
theorem ck21:chkFn Tryz.prog 21 ir21=true:=by kernel_rfl
def ir22 : AFn := ⟨72, 1, [.t 2], .seq (.rg [Ibx 1 0, Imb 2 false])
 (.seq (.rg [Imv 3 0])
 (.seq (.seq (.rg [Imv 4 0])
 (.block 0 (.loop [1, 3, 4] (.seq (.seq (.rg [Im 7 4, If 8 0 1, Il 9 1 8, Iln 10 9, Ilt 11 7 10])
 (.cond (.t 11) .skip (.exit 0)))
 (.seq (.block 1 (.seq (.rg [If 14 0 1, Il 15 1 14, Im 16 4, Iia 17 6 15 16, Ilb 18 6 17, Io 5 (.alloc [.int .i64 0, .str [], .sl .nil 1 [], .sl .nil 6 [], .sl .nil 1 [], .sl .nil 10 []]), ⟨none, none, .st 6 (.t 5) (.t 18), []⟩])
 (.seq (.reg [0, 1, 2, 3, 4, 5, 6, 7, 10, 11, 14, 15, 8, 9, 12, 13, 16, 17, 18] [Im 19 3, Iai 20 19 1, If 21 1 5, Il 22 1 21, Ils 23 22, Iad 24 20 23, If 25 2 5, Il 26 1 25, If 29 4 5, Il 30 1 29, If 33 5 5, Il 34 1 33, ⟨some 27, none, .call 54 [(.t 26)], [3, 9, 11]⟩, Iad 28 24 27, ⟨some 31, none, .call 54 [(.t 30)], [3, 11]⟩, Iad 32 28 31, ⟨some 35, none, .call 55 [(.t 34)], [3]⟩, Iad 36 32 35, Im 3 36])
 (.seq (.rg [Imv 6 0])
 (.block 2 (.loop [1, 3, 4, 5, 6] (.seq (.seq (.rg [Im 37 6, If 38 3 5, Il 39 1 38, Iln 40 39, Ilt 41 37 40])
 (.cond (.t 41) .skip (.exit 2)))
 (.seq (.block 3 (.reg [0, 1, 2, 3, 4, 5, 6, 7, 8, 9, 10, 11, 12, 13, 14, 15, 18, 19, 20, 21, 22, 23, 16, 17, 24, 25, 26] [Im 44 3, Iai 45 44 1, If 46 3 5, Il 47 1 46, Im 48 6, Iia 49 6 47 48, If 50 0 49, Il 51 1 50, Ils 52 51, Iad 53 45 52, If 54 3 5, Il 55 1 54, Im 56 6, Iia 57 6 55 56, If 58 1 57, Il 59 1 58, If 62 3 5, Il 63 1 62, Im 64 6, Iia 65 6 63 64, If 66 5 65, Il 67 1 66, ⟨some 60, none, .call 55 [(.t 59)], [3, 7, 17, 21]⟩, Iad 61 53 60, ⟨some 68, none, .call 56 [(.t 67)], [3, 7]⟩, Iad 69 61 68, Im 3 69]))
 (.rg [Im 42 6, Iai 43 42 1, Im 6 43])))))))))
 (.rg [Im 12 4, Iai 13 12 1, Im 4 13]))))))
 (.seq (.rg [Im 70 3, Io 71 (.bi .leq .i64 (.t 70) (.k (.int .i64 4000))), Im 2 71])
 .ret)))⟩
theorem ck22:chkFn Tryz.prog 22 ir22=true:=by kernel_rfl
def ir23 : AFn := ⟨30, 1, [.t 2, .t 3], .seq (.rg [Ibx 1 0, Io 2 (.mv (.k (.str []))), Imb 3 false])
 (.seq (.rg [Ilb 9 3 1, Io 10 (.call 57 [(.t 9)]), Im 8 10, Iex 11 8 0, Iex 12 8 1, Im 4 11, Im 5 12])
 (.seq (.rg [Im 14 4, Io 15 (.call 25 [(.t 14)]), Im 13 15, Iex 16 13 0, Iex 17 13 1, Im 6 16, Im 7 17])
 (.seq (.seq (.rg [Im 18 5, Ing 19 18, Im 20 19, Fm 21 20 7, Jf 22 20 (.not (.t 21)), Ipt 23 20 22, Im 24 23, Fm 25 24 6, Jf 26 24 (.lens (.t 25)), Jf 27 24 (.bi .gtr .i64 (.t 26) (.k (.int .i64 8192))), Ipt 28 24 27])
 (.cond (.t 28) (.seq (.rg [Io 2 (.mv (.k (.str []))), Imb 3 false])
 .ret) .skip))
 (.seq (.rg [Im 29 6, Im 2 29, Imb 3 true])
 .ret))))⟩
theorem ck23:chkFn Tryz.prog 23 ir23=true:=by kernel_rfl
def ir24 : AFn := ⟨47, 1, [.t 2, .t 3], .seq (.rg [Io 2 (.mv (.k (.sl .nil 2 []))), Imv 3 0])
 (.scope (.seq (.block 0 (.seq (.rg [Im 10 0, Ils 11 10, Igi 12 11 8192, Im 9 12])
 (.cond (.t 9) (.seq (.rg [Io 2 (.mv (.k (.sl .nil 2 []))), Imv 3 3])
 .ret) (.seq (.rg [Im 14 0, Io 15 (.call 58 [(.t 14)]), Ing 16 15, Im 13 16])
 (.cond (.t 13) (.seq (.rg [Io 2 (.mv (.k (.sl .nil 2 []))), Imv 3 2])
 .ret) .skip)))))
 (.seq (.rg [Io 4 (.mv (.k (.sl .nil 2 [])))])
 (.seq .skip
 (.seq (.seq (.rg [Imv 5 0])
 (.block 1 (.loop [0, 4, 5] (.seq (.seq (.rg [Im 17 5, Im 18 0, Ils 19 18, Ilt 20 17 19])
 (.cond (.t 20) .skip (.exit 1)))
 (.block 2 (.seq (.seq (.rg [Im 21 0, Im 22 5, Io 23 (.sls (.t 21) (some (.t 22)) none), Io 24 (.call 59 [(.t 23)]), Im 6 24])
 (.seq (.rg [Im 25 6, Igi 26 25 0])
 (.cond (.t 26) (.seq (.rg [Im 27 5, Im 28 6, Iad 29 27 28, Im 5 29])
 (.exit 2)) .skip)))
 (.seq (.rg [Im 31 0, Im 32 5, Io 33 (.sls (.t 31) (some (.t 32)) none), Io 34 (.call 60 [(.t 33)]), Im 30 34, Iex 35 30 0, Iex 36 30 1, Io 7 (.alloc [.int .i64 0, .str []]), ⟨none, none, .st 2 (.t 7) (.t 35), []⟩, Im 8 36])
 (.seq (.seq (.rg [Im 37 8, Iei 38 37 0])
 (.cond (.t 38) (.seq (.rg [Io 2 (.mv (.k (.sl .nil 2 []))), Imv 3 2])
 .ret) .skip))
 (.seq (.rg [Im 39 4, Ilb 40 2 7, Io 41 (.bls 2 1 [.int .i64 0, .str []] [(0, (.t 40))]), Iap 42 2 24 39 41, Im 4 42])
 (.rg [Im 43 5, Im 44 8, Iad 45 43 44, Im 5 45]))))))))))
 (.seq (.rg [Im 46 4, Im 2 46, Imv 3 0])
 .ret))))))⟩
theorem ck24:chkFn Tryz.prog 24 ir24=true:=by kernel_rfl
def ir25 : AFn := ⟨35, 1, [.t 2, .t 3], .seq (.rg [Io 2 (.mv (.k (.str []))), Imb 3 false])
 (.seq (.rg [Io 4 (.mv (.k (.sl .nil 1 [])))])
 (.seq (.seq (.rg [Im 7 0, Iln 8 7, Imv 9 0])
 (.block 0 (.loop [4, 7, 8, 9] (.seq (.rg [Ilt 10 9 8])
 (.seq (.cond (.t 10) .skip (.exit 0))
 (.seq (.block 1 (.seq (.rg [Iia 11 2 7 9, Ilb 12 2 11, Io 6 (.alloc [.int .i64 0, .str []]), ⟨none, none, .st 2 (.t 6) (.t 12), []⟩])
 (.block 2 (.seq (.rg [Ilb 19 2 6, Io 20 (.call 61 [(.t 19)]), Ing 21 20, Im 18 21])
 (.cond (.t 18) (.seq (.rg [Io 2 (.mv (.k (.str []))), Imb 3 false])
 .ret) (.seq (.rg [If 23 0 6, Il 24 1 23, Iei 25 24 5, Im 22 25])
 (.cond (.t 22) (.rg [Im 26 4, If 27 1 6, Il 28 1 27, Io 29 (.call 62 [(.t 28)]), Io 30 (.bls 1 1 [.str []] [(0, (.t 29))]), Iap 31 1 16 26 30, Im 4 31]) (.rg [Im 13 4, If 14 1 6, Il 15 1 14, Io 16 (.bls 1 1 [.str []] [(0, (.t 15))]), Iap 17 1 16 13 16, Im 4 17]))))))))
 (.rg [Iai 32 9 1, Im 9 32])))))))
 (.seq (.rg [Im 33 4, Io 34 (.call 63 [(.t 33), (.k (.str [32]))]), Im 2 34, Imb 3 true])
 .ret)))⟩
theorem ck25:chkFn Tryz.prog 25 ir25=true:=by kernel_rfl
def ir33 : AFn := ⟨109, 2, [.c 4 5 true], .seq (.rg [Io 4 (.alloc [.int .i64 0, .int .i64 0, .str [], .sl .nil 5 [], .sl .nil 6 []])])
 (.seq (.seq (.rg [Im 10 0, Io 11 (.call 76 [(.t 10)]), Io 5 (.alloc [.int .i64 0, .str []]), ⟨none, none, .st 2 (.t 5) (.t 11), []⟩])
 (.block 0 (.seq (.rg [If 13 0 5, Il 14 1 13, Iei 15 14 2, Im 12 15])
 (.cond (.t 12) (.seq (.rg [Im 16 0, Ink 17 16, If 18 1 17, Il 19 1 18, Iai 20 19 1, Ink 21 16, If 22 1 21, ⟨none, none, .st 1 (.t 22) (.t 20), []⟩])
 (.seq (.rg [If 23 1 5, Il 24 1 23, Io 25 (.call 77 [(.t 24)]), ⟨none, none, .st 5 (.t 4) (.t 25), []⟩])
 .ret)) (.seq (.rg [If 27 0 5, Il 28 1 27, Iei 29 28 3, Im 30 29, Fa 31 30 0 5, Fl 32 30 1 31, Jf 33 30 (.bi .eql .i64 (.t 32) (.k (.int .i64 4))), Ipt 34 30 33, Im 26 34])
 (.cond (.t 26) (.seq (.rg [Im 35 0, Ink 36 35, If 37 1 36, Il 38 1 37, Iai 39 38 1, Ink 40 35, If 41 1 40, ⟨none, none, .st 1 (.t 41) (.t 39), []⟩])
 (.seq (.seq (.rg [If 43 1 5, Il 44 1 43, Io 45 (.call 78 [(.t 44)]), Im 42 45, Iex 46 42 0, Iex 47 42 1, Im 6 46, Im 7 47])
 (.seq (.rg [Im 48 7])
 (.cond (.t 48) (.seq (.rg [Im 49 6, Io 50 (.call 79 [(.t 49)]), ⟨none, none, .st 5 (.t 4) (.t 50), []⟩])
 .ret) .skip)))
 (.seq (.rg [If 51 1 5, Il 52 1 51, Io 53 (.bld [.int .i64 0, .int .i64 0, .str [], .sl .nil 5 [], .sl .nil 6 []] [(0, 1, (.k (.int .i64 3))), (2, 1, (.t 52))]), ⟨none, none, .st 5 (.t 4) (.t 53), []⟩])
 .ret))) (.seq (.rg [If 55 0 5, Il 56 1 55, Iei 57 56 5, Im 54 57])
 (.cond (.t 54) (.seq (.rg [Im 58 0, Ink 59 58, If 60 1 59, Il 61 1 60, Iai 62 61 1, Ink 63 58, If 64 1 63, ⟨none, none, .st 1 (.t 64) (.t 62), []⟩])
 (.seq (.rg [If 65 1 5, Il 66 1 65, Io 67 (.call 80 [(.t 66)]), ⟨none, none, .st 5 (.t 4) (.t 67), []⟩])
 .ret)) (.seq (.rg [Im 69 0, Io 70 (.call 81 [(.t 69), (.k (.str [91]))]), Im 68 70])
 (.cond (.t 68) (.seq (.rg [Io 71 (.bld [.int .i64 0, .int .i64 0, .str [], .sl .nil 5 [], .sl .nil 6 []] [(0, 1, (.k (.int .i64 6)))]), Io 8 (.alloc [.int .i64 0, .int .i64 0, .str [], .sl .nil 5 [], .sl .nil 6 []]), ⟨none, none, .st 5 (.t 8) (.t 71), []⟩])
 (.seq (.block 1 (.loop [0, 1, 4, 8] (.seq (.seq (.rg [Im 72 0, Io 73 (.call 82 [(.t 72), (.k (.str [93]))]), Ing 74 73])
 (.cond (.t 74) .skip (.exit 1)))
 (.block 2 (.reg [0, 1, 2, 3, 4, 5, 6, 7, 8] [If 75 3 8, Il 76 1 75, Im 77 0, Im 78 1, ⟨some 79, none, .call 33 [(.t 77), (.t 78)], [1]⟩, Io 80 (.bls 5 1 [.int .i64 0, .int .i64 0, .str [], .sl .nil 5 [], .sl .nil 6 []] [(0, (.t 79))]), Iap 81 5 80 76 80, If 82 3 8, ⟨none, none, .st 1 (.t 82) (.t 81), []⟩])))))
 (.seq (.rg [Ilb 83 5 8, ⟨none, none, .st 5 (.t 4) (.t 83), []⟩])
 .ret))) (.seq (.rg [Im 85 0, Io 86 (.call 81 [(.t 85), (.k (.str [123]))]), Im 84 86])
 (.cond (.t 84) (.seq (.rg [Io 87 (.bld [.int .i64 0, .int .i64 0, .str [], .sl .nil 5 [], .sl .nil 6 []] [(0, 1, (.k (.int .i64 7)))]), Io 9 (.alloc [.int .i64 0, .int .i64 0, .str [], .sl .nil 5 [], .sl .nil 6 []]), ⟨none, none, .st 5 (.t 9) (.t 87), []⟩])
 (.seq (.block 3 (.loop [0, 1, 4, 9] (.seq (.seq (.rg [Im 88 0, Io 89 (.call 82 [(.t 88), (.k (.str [125]))]), Ing 90 89])
 (.cond (.t 90) .skip (.exit 3)))
 (.block 4 (.reg [0, 1, 2, 3, 4, 5, 6, 7, 8] [If 91 4 9, Il 92 1 91, Im 93 0, Im 94 1, ⟨some 95, none, .call 83 [(.t 93), (.t 94)], [1]⟩, Io 96 (.bls 6 1 [.str [], .int .i64 0, .int .i64 0, .str [], .sl .nil 5 [], .sl .nil 6 []] [(0, (.t 95))]), Iap 97 6 96 92 96, If 98 4 9, ⟨none, none, .st 1 (.t 98) (.t 97), []⟩])))))
 (.seq (.rg [Ilb 99 5 9, ⟨none, none, .st 5 (.t 4) (.t 99), []⟩])
 .ret))) (.seq (.rg [Im 101 1, Im 100 101])
 (.cond (.t 100) (.rg [Im 102 0, Io 103 (.call 75 [(.t 102), (.k (.int .i64 2))])]) .skip))))))))))))))
 (.seq (.rg [Im 104 0, Io 105 (.call 84 [(.t 104), (.k (.str [36]))])])
 (.seq (.rg [Im 106 0, Io 107 (.call 85 [(.t 106)]), Io 108 (.bld [.int .i64 0, .int .i64 0, .str [], .sl .nil 5 [], .sl .nil 6 []] [(0, 1, (.k (.int .i64 8))), (2, 1, (.t 107))]), ⟨none, none, .st 5 (.t 4) (.t 108), []⟩])
 .ret)))⟩
theorem ck33:chkFn Tryz.prog 33 ir33=true:=by kernel_rfl
def ir38 : AFn := ⟨44, 1, [.c 2 3 true], .seq (.rg [Io 2 (.alloc [.str [], .int .i64 0, .int .i64 0])])
 (.seq (.rg [Imv 3 0])
 (.seq (.block 0 (.loop [0, 2, 3] (.seq (.seq (.rg [Im 6 0, Io 7 (.call 97 [(.t 6), (.k (.str [91]))])])
 (.cond (.t 7) .skip (.exit 0)))
 (.block 1 (.seq (.seq (.rg [Im 8 3, Iei 9 8 4])
 (.cond (.t 9) (.rg [Im 10 0, Io 11 (.call 75 [(.t 10), (.k (.int .i64 4))])]) .skip))
 (.seq (.rg [Im 12 0, Ink 13 12, If 14 1 13, Il 15 1 14, Iai 16 15 1, Ink 17 12, If 18 1 17, ⟨none, none, .st 1 (.t 18) (.t 16), []⟩])
 (.rg [Im 19 3, Iai 20 19 1, Im 3 20])))))))
 (.seq (.rg [Im 21 0, Io 22 (.call 85 [(.t 21)]), Im 23 3, Io 24 (.bld [.str [], .int .i64 0, .int .i64 0] [(0, 1, (.t 22)), (1, 1, (.t 23))]), Io 4 (.alloc [.str [], .int .i64 0, .int .i64 0]), ⟨none, none, .st 3 (.t 4) (.t 24), []⟩])
 (.seq (.seq (.rg [Im 25 3, Im 5 25])
 (.block 2 (.loop [0, 2, 3, 4, 5] (.seq (.seq (.rg [Im 26 5, Io 27 (.bi .geq .i64 (.t 26) (.k (.int .i64 0)))])
 (.cond (.t 27) .skip (.exit 2)))
 (.seq (.block 3 (.seq (.seq (.rg [Im 30 5, Im 31 3, Ilt 32 30 31])
 (.cond (.t 32) (.rg [Im 33 0, Io 34 (.call 84 [(.t 33), (.k (.str [93]))])]) .skip))
 (.seq (.rg [Im 35 0, Io 36 (.call 98 [(.t 35), (.k (.str [33]))])])
 (.cond (.t 36) (.reg [0, 1, 2, 3, 4, 5, 6] [If 37 2 4, Il 38 1 37, Im 39 5, Io 40 (.shf .shl (.k (.int .i64 1)) (.t 39)), Io 41 (.bi .or .i64 (.t 38) (.t 40)), If 42 2 4, ⟨none, none, .st 1 (.t 42) (.t 41), []⟩]) .skip))))
 (.rg [Im 28 5, Isi 29 28 1, Im 5 29]))))))
 (.seq (.rg [Ilb 43 3 4, ⟨none, none, .st 3 (.t 2) (.t 43), []⟩])
 .ret)))))⟩
theorem ck38:chkFn Tryz.prog 38 ir38=true:=by kernel_rfl
def ir40 : AFn := ⟨42, 2, [.t 4], .seq (.rg [Imb 4 false])
 (.seq (.seq (.rg [Im 6 0, Iln 7 6, Im 8 1, Iln 9 8, Io 10 (.bi .neq .i64 (.t 7) (.t 9))])
 (.cond (.t 10) (.seq (.rg [Imb 4 false])
 .ret) .skip))
 (.seq (.seq (.rg [Imv 5 0])
 (.block 0 (.loop [0, 1, 5] (.seq (.seq (.rg [Im 11 5, Im 12 0, Iln 13 12, Ilt 14 11 13])
 (.cond (.t 14) .skip (.exit 0)))
 (.seq (.block 1 (.seq (.reg [0, 1, 2, 3, 4, 5, 6, 7, 8, 9, 10, 11, 12, 13, 14, 15, 16, 17, 18, 19, 20, 21, 22, 23, 24] [Im 17 0, Im 18 5, Iia 19 6 17 18, If 20 0 19, Il 21 1 20, Im 22 1, Im 23 5, Iia 24 6 22 23, If 25 0 24, Il 26 1 25, Io 27 (.bs .neq (.t 21) (.t 26)), Im 28 27, Fm 29 28 0, Fm 30 28 5, Jf 31 28 (.ia 6 (.t 29) (.t 30)), Fa 32 28 1 31, Jf 33 28 (.ld 5 true (.t 32)), Fm 34 28 1, Fm 35 28 5, Jf 36 28 (.ia 6 (.t 34) (.t 35)), Fa 37 28 1 36, Jf 38 28 (.ld 5 true (.t 37)), Jf 39 28 (.call 15 [(.t 33), (.t 38)]), Jf 40 28 (.not (.t 39)), Ipt 41 28 40])
 (.cond (.t 41) (.seq (.rg [Imb 4 false])
 .ret) .skip)))
 (.rg [Im 15 5, Iai 16 15 1, Im 5 16]))))))
 (.seq (.rg [Imb 4 true])
 .ret)))⟩
theorem ck40:chkFn Tryz.prog 40 ir40=true:=by kernel_rfl
def ir41 : AFn := ⟨39, 2, [], .seq (.rg [Im 6 0, Io 7 (.bld [.nilp, .sl .nil 6 [], .str [], .str [], .bool false] [(0, 1, (.t 6))]), Io 8 (.box (.t 7)), Im 3 8])
 (.seq (.rg [Im 9 3, Io 10 (.call 42 [(.t 9)])])
 (.seq (.block 0 (.loop [1, 3] (.seq (.seq (.rg [Im 11 3, Ink 12 11, If 13 0 12, Il 14 1 13, Io 15 (.call 43 [(.t 14)])])
 (.cond (.t 15) .skip (.exit 0)))
 (.block 1 (.rg [Im 16 3, Io 17 (.call 42 [(.t 16)])])))))
 (.seq (.rg [Im 18 3, Ink 19 18, If 20 1 19, Ilb 21 3 20, ⟨none, none, .st 3 (.t 1) (.t 21), []⟩])
 (.seq (.seq (.rg [Im 22 3, Ink 23 22, If 24 4 23, Il 25 1 24])
 (.cond (.t 25) .ret .skip))
 (.seq (.rg [If 26 1 1, ⟨none, none, .st 1 (.t 26) (.k (.str [81, 117, 101, 114, 121])), []⟩])
 (.seq (.rg [If 27 0 1, Il 28 1 27, Iln 29 28, Imv 30 0])
 (.block 2 (.loop [1, 28, 29, 30] (.seq (.rg [Ilt 31 30 29])
 (.seq (.cond (.t 31) .skip (.exit 2))
 (.seq (.block 3 (.seq (.rg [Iia 32 6 28 30, Ilb 33 6 32, Io 5 (.alloc [.int .i64 0, .str [], .sl .nil 1 [], .sl .nil 6 [], .sl .nil 1 [], .sl .nil 10 []]), ⟨none, none, .st 6 (.t 5) (.t 33), []⟩])
 (.seq (.rg [If 34 1 5, Il 35 1 34, Io 36 (.bs .eql (.t 35) (.k (.str [77, 117, 116, 97, 116, 105, 111, 110])))])
 (.cond (.t 36) (.rg [If 37 2 1, ⟨none, none, .st 1 (.t 37) (.k (.str [77, 117, 116, 97, 116, 105, 111, 110])), []⟩]) .skip))))
 (.rg [Iai 38 30 1, Im 30 38]))))))))))))⟩
theorem ck41:chkFn Tryz.prog 41 ir41=true:=by kernel_rfl
def ir42 : AFn := ⟨80, 1, [], .seq (.rg [Im 3 0, Ink 4 3, If 5 0 4, Il 6 1 5, Io 7 (.call 99 [(.t 6)])])
 (.seq (.rg [Io 2 (.alloc [.int .i64 0, .str [], .sl .nil 1 [], .sl .nil 6 [], .sl .nil 1 [], .sl .nil 10 []])])
 (.seq (.block 0 (.seq (.rg [Im 14 0, Ink 15 14, If 16 4 15, Il 17 1 16, Ing 18 17, Im 19 18, Jm 20 19 0, Jt 21 19 (.nilchk (.t 20)), Ja 22 19 0 21, Jl 23 19 1 22, Jt 24 19 (.call 100 [(.t 23), (.k (.str [115, 99, 104, 101, 109, 97]))]), Ipf 25 19 24, Im 13 25])
 (.cond (.t 13) (.seq (.rg [Im 26 0, Io 27 (.call 101 [(.t 26)])])
 .ret) (.seq (.rg [Im 29 0, Ink 30 29, If 31 0 30, Il 32 1 31, Io 33 (.call 100 [(.t 32), (.k (.str [116, 121, 112, 101]))]), Im 28 33])
 (.cond (.t 28) (.rg [Im 34 0, Io 35 (.call 102 [(.t 34), (.k (.int .i64 1))]), ⟨none, none, .st 6 (.t 2) (.t 35), []⟩]) (.seq (.rg [Im 37 0, Ink 38 37, If 39 0 38, Il 40 1 39, Io 41 (.call 100 [(.t 40), (.k (.str [105, 110, 116, 101, 114, 102, 97, 99, 101]))]), Im 36 41])
 (.cond (.t 36) (.rg [Im 42 0, Io 43 (.call 102 [(.t 42), (.k (.int .i64 2))]), ⟨none, none, .st 6 (.t 2) (.t 43), []⟩]) (.seq (.rg [Im 45 0, Ink 46 45, If 47 0 46, Il 48 1 47, Io 49 (.call 100 [(.t 48), (.k (.str [117, 110, 105, 111, 110]))]), Im 44 49])
 (.cond (.t 44) (.rg [Im 50 0, Io 51 (.call 103 [(.t 50)]), ⟨none, none, .st 6 (.t 2) (.t 51), []⟩]) (.seq (.rg [Im 53 0, Ink 54 53, If 55 0 54, Il 56 1 55, Io 57 (.call 100 [(.t 56), (.k (.str [101, 110, 117, 109]))]), Im 52 57])
 (.cond (.t 52) (.rg [Im 58 0, Io 59 (.call 104 [(.t 58)]), ⟨none, none, .st 6 (.t 2) (.t 59), []⟩]) (.seq (.rg [Im 61 0, Ink 62 61, If 63 0 62, Il 64 1 63, Io 65 (.call 100 [(.t 64), (.k (.str [105, 110, 112, 117, 116]))]), Im 60 65])
 (.cond (.t 60) (.rg [Im 66 0, Io 67 (.call 105 [(.t 66)]), ⟨none, none, .st 6 (.t 2) (.t 67), []⟩]) (.rg [Im 8 0, Ink 9 8, If 10 0 9, Il 11 1 10, Io 12 (.call 75 [(.t 11), (.k (.int .i64 2))])]))))))))))))))
 (.reg [0, 1, 2, 3, 4, 5, 6, 7, 8, 9, 10, 11, 12] [Im 68 0, Im 69 0, Ink 70 69, If 71 1 70, If 72 0 71, Il 73 1 72, Ilb 74 6 2, Io 75 (.bls 6 1 [.int .i64 0, .str [], .sl .nil 1 [], .sl .nil 6 [], .sl .nil 1 [], .sl .nil 10 []] [(0, (.t 74))]), Iap 76 6 120 73 75, Ink 77 68, If 78 1 77, If 79 0 78, ⟨none, none, .st 1 (.t 79) (.t 76), []⟩])))⟩
theorem ck42:chkFn Tryz.prog 42 ir42=true:=by kernel_rfl
def ir43 : AFn := ⟨13, 1, [.t 2], .seq (.rg [Imb 2 false])
 (.seq (.reg [0, 1, 2, 3, 4, 5, 6, 7, 8, 9, 10] [Im 3 0, Ink 4 3, If 5 1 4, Il 6 1 5, Im 7 0, Ink 8 7, If 9 0 8, Il 10 1 9, Iln 11 10, Ilt 12 6 11, Im 2 12])
 .ret)⟩
theorem ck43:chkFn Tryz.prog 43 ir43=true:=by kernel_rfl
def ir51 : AFn := ⟨26, 2, [.t 4], .seq (.rg [Imb 4 false])
 (.seq (.seq (.rg [Im 6 0, Iln 7 6, Im 8 1, Iln 9 8, Io 10 (.bi .neq .i64 (.t 7) (.t 9))])
 (.cond (.t 10) (.seq (.rg [Imb 4 false])
 .ret) .skip))
 (.seq (.seq (.rg [Imv 5 0])
 (.block 0 (.loop [0, 1, 5] (.seq (.seq (.rg [Im 11 5, Im 12 0, Iln 13 12, Ilt 14 11 13])
 (.cond (.t 14) .skip (.exit 0)))
 (.seq (.block 1 (.seq (.reg [0, 1, 2, 3, 4, 5, 6, 7, 8] [Im 17 0, Im 18 5, Iia 19 1 17 18, Il 20 1 19, Im 21 1, Im 22 5, Iia 23 1 21 22, Il 24 1 23, Io 25 (.bs .neq (.t 20) (.t 24))])
 (.cond (.t 25) (.seq (.rg [Imb 4 false])
 .ret) .skip)))
 (.rg [Im 15 5, Iai 16 15 1, Im 5 16]))))))
 (.seq (.rg [Imb 4 true])
 .ret)))⟩
theorem ck51:chkFn Tryz.prog 51 ir51=true:=by kernel_rfl
def ir52 : AFn := ⟨68, 2, [.t 4], .seq (.rg [Imb 4 false])
 (.seq (.seq (.rg [Im 6 0, Iln 7 6, Im 8 1, Iln 9 8, Io 10 (.bi .neq .i64 (.t 7) (.t 9))])
 (.cond (.t 10) (.seq (.rg [Imb 4 false])
 .ret) .skip))
 (.seq (.seq (.rg [Imv 5 0])
 (.block 0 (.loop [0, 1, 5] (.seq (.seq (.rg [Im 11 5, Im 12 0, Iln 13 12, Ilt 14 11 13])
 (.cond (.t 14) .skip (.exit 0)))
 (.seq (.block 1 (.seq (.reg [0, 1, 2, 3, 4, 5, 6, 7, 8, 9, 10, 11, 12, 13, 14, 15, 16, 17, 18, 19, 20, 21, 22, 23, 24, 25, 26, 27, 28, 29, 30, 31, 32, 33, 34, 35, 36, 37, 38, 39, 40, 41, 42, 43, 44, 45, 46, 47, 48, 49, 50] [Im 17 0, Im 18 5, Iia 19 10 17 18, If 20 0 19, Il 21 1 20, Im 22 1, Im 23 5, Iia 24 10 22 23, If 25 0 24, Il 26 1 25, Io 27 (.bs .neq (.t 21) (.t 26)), Im 28 27, Fm 29 28 0, Fm 30 28 5, Jf 31 28 (.ia 10 (.t 29) (.t 30)), Fa 32 28 1 31, Jf 33 28 (.ld 3 true (.t 32)), Fm 34 28 1, Fm 35 28 5, Jf 36 28 (.ia 10 (.t 34) (.t 35)), Fa 37 28 1 36, Jf 38 28 (.ld 3 true (.t 37)), Jf 39 28 (.eqa true [.s, (.i .i64), (.i .i64)] (.t 33) (.t 38)), Ipt 40 28 39, Im 41 40, Fm 42 41 0, Fm 43 41 5, Jf 44 41 (.ia 10 (.t 42) (.t 43)), Fa 45 41 4 44, Fl 46 41 1 45, Fm 47 41 1, Fm 48 41 5, Jf 49 41 (.ia 10 (.t 47) (.t 48)), Fa 50 41 4 49, Fl 51 41 1 50, Jf 52 41 (.bb true (.t 46) (.t 51)), Ipt 53 41 52, Im 54 53, Fm 55 54 0, Fm 56 54 5, Jf 57 54 (.ia 10 (.t 55) (.t 56)), Fa 58 54 5 57, Jf 59 54 (.ld 5 true (.t 58)), Fm 60 54 1, Fm 61 54 5, Jf 62 54 (.ia 10 (.t 60) (.t 61)), Fa 63 54 5 62, Jf 64 54 (.ld 5 true (.t 63)), Jf 65 54 (.call 15 [(.t 59), (.t 64)]), Jf 66 54 (.not (.t 65)), Ipt 67 54 66])
 (.cond (.t 67) (.seq (.rg [Imb 4 false])
 .ret) .skip)))
 (.rg [Im 15 5, Iai 16 15 1, Im 5 16]))))))
 (.seq (.rg [Imb 4 true])
 .ret)))⟩
theorem ck52:chkFn Tryz.prog 52 ir52=true:=by kernel_rfl
def ir53 : AFn := ⟨31, 2, [.t 4], .seq (.rg [Ibx 2 0, Ibx 3 1, Imb 4 false])
 (.seq (.rg [If 5 0 2, Il 6 1 5, If 7 0 3, Il 8 1 7, Io 9 (.bs .eql (.t 6) (.t 8)), Im 10 9, Ja 11 10 2 2, Jt 12 10 (.ld 3 true (.t 11)), Ja 13 10 2 3, Jt 14 10 (.ld 3 true (.t 13)), Jt 15 10 (.eqa false [.s, (.i .i64), (.i .i64)] (.t 12) (.t 14)), Ipf 16 10 15, Im 17 16, Ja 18 17 1 2, Jl 19 17 1 18, Ja 20 17 1 3, Jl 21 17 1 20, Jt 22 17 (.call 52 [(.t 19), (.t 21)]), Ipf 23 17 22, Im 24 23, Ja 25 24 5 2, Jl 26 24 1 25, Ja 27 24 5 3, Jl 28 24 1 27, Jt 29 24 (.call 109 [(.t 26), (.t 28)]), Ipf 30 24 29, Im 4 30])
 .ret)⟩
theorem ck53:chkFn Tryz.prog 53 ir53=true:=by kernel_rfl
def ir54 : AFn := ⟨20, 1, [.t 2], .seq (.rg [Imv 2 0])
 (.seq (.rg [Imv 3 0])
 (.seq (.seq (.rg [Imv 4 0])
 (.block 0 (.loop [0, 3, 4] (.seq (.seq (.rg [Im 5 4, Im 6 0, Iln 7 6, Ilt 8 5 7])
 (.cond (.t 8) .skip (.exit 0)))
 (.seq (.block 1 (.rg [Im 11 3, Iai 12 11 1, Im 13 0, Im 14 4, Iia 15 1 13 14, Il 16 1 15, Ils 17 16, Iad 18 12 17, Im 3 18]))
 (.rg [Im 9 4, Iai 10 9 1, Im 4 10]))))))
 (.seq (.rg [Im 19 3, Im 2 19])
 .ret)))⟩
theorem ck54:chkFn Tryz.prog 54 ir54=true:=by kernel_rfl
def ir55 : AFn := ⟨28, 1, [.t 2], .seq (.rg [Imv 2 0])
 (.seq (.rg [Imv 3 0])
 (.seq (.seq (.rg [Imv 4 0])
 (.block 0 (.loop [0, 3, 4] (.seq (.seq (.rg [Im 5 4, Im 6 0, Iln 7 6, Ilt 8 5 7])
 (.cond (.t 8) .skip (.exit 0)))
 (.seq (.block 1 (.reg [0, 1, 2, 3, 4, 5, 6, 7, 8, 9, 10, 11, 12, 13, 14, 15, 16] [Im 11 3, Iai 12 11 1, Im 13 0, Im 14 4, Iia 15 10 13 14, If 16 0 15, Il 17 1 16, Ils 18 17, Iad 19 12 18, Im 20 0, Im 21 4, Iia 22 10 20 21, If 23 5 22, Ilb 24 5 23, ⟨some 25, none, .call 110 [(.t 24)], [6]⟩, Iad 26 19 25, Im 3 26]))
 (.rg [Im 9 4, Iai 10 9 1, Im 4 10]))))))
 (.seq (.rg [Im 27 3, Im 2 27])
 .ret)))⟩
theorem ck55:chkFn Tryz.prog 55 ir55=true:=by kernel_rfl
def ir56 : AFn := ⟨29, 1, [.t 2], .seq (.rg [Imv 2 0])
 (.seq (.rg [Imv 3 0])
 (.seq (.seq (.rg [Imv 4 0])
 (.block 0 (.loop [0, 3, 4] (.seq (.seq (.rg [Im 5 4, Im 6 0, Iln 7 6, Ilt 8 5 7])
 (.cond (.t 8) .skip (.exit 0)))
 (.seq (.block 1 (.reg [0, 1, 2, 3, 4, 5, 6, 7, 8, 9, 10, 11, 12, 13, 14, 15, 16, 17] [Im 11 3, Iai 12 11 1, Im 13 0, Im 14 4, Iia 15 2 13 14, If 16 0 15, Il 17 1 16, Ils 18 17, Iad 19 12 18, Im 20 0, Im 21 4, Iia 22 2 20 21, If 23 1 22, Il 24 1 23, Io 25 (.bld [.int .i64 0, .int .i64 0, .str [], .sl .nil 5 [], .sl .nil 6 []] [(4, 1, (.t 24))]), ⟨some 26, none, .call 110 [(.t 25)], [6]⟩, Iad 27 19 26, Im 3 27]))
 (.rg [Im 9 4, Iai 10 9 1, Im 4 10]))))))
 (.seq (.rg [Im 28 3, Im 2 28])
 .ret)))⟩
theorem ck56:chkFn Tryz.prog 56 ir56=true:=by kernel_rfl
def ir57 : AFn := ⟨68, 1, [.t 2, .t 3], .seq (.rg [Ibx 1 0, Io 2 (.mv (.k (.sl .nil 2 []))), Imb 3 false])
 (.seq (.rg [Io 7 (.call 111 []), Io 8 (.bld [.nilp] [(0, 1, (.t 7))]), Io 4 (.alloc [.nilp]), ⟨none, none, .st 1 (.t 4) (.t 8), []⟩])
 (.seq (.rg [If 9 0 4, Il 10 1 9, Io 11 (.call 112 [(.t 10), (.k (.str [115, 99, 104, 101, 109, 97]))])])
 (.seq (.rg [If 12 0 4, Il 13 1 12, Io 14 (.bls 1 1 [.str []] [(0, (.k (.str [123])))]), Io 15 (.call 113 [(.t 13), (.t 14)])])
 (.seq (.rg [If 16 0 4, Il 17 1 16, Io 18 (.call 112 [(.t 17), (.k (.str [113, 117, 101, 114, 121]))])])
 (.seq (.rg [If 19 0 4, Il 20 1 19, Io 21 (.bls 1 1 [.str []] [(0, (.k (.str [58])))]), Io 22 (.call 113 [(.t 20), (.t 21)])])
 (.seq (.rg [If 23 0 4, Il 24 1 23, If 25 1 1, Il 26 1 25, Io 27 (.call 112 [(.t 24), (.t 26)])])
 (.seq (.seq (.rg [If 28 2 1, Il 29 1 28, Io 30 (.bs .neq (.t 29) (.k (.str [])))])
 (.cond (.t 30) (.seq (.rg [If 31 0 4, Il 32 1 31, Io 33 (.call 112 [(.t 32), (.k (.str [109, 117, 116, 97, 116, 105, 111, 110]))])])
 (.seq (.rg [If 34 0 4, Il 35 1 34, Io 36 (.bls 1 1 [.str []] [(0, (.k (.str [58])))]), Io 37 (.call 113 [(.t 35), (.t 36)])])
 (.rg [If 38 0 4, Il 39 1 38, If 40 2 1, Il 41 1 40, Io 42 (.call 112 [(.t 39), (.t 41)])]))) .skip))
 (.seq (.rg [If 43 0 4, Il 44 1 43, Io 45 (.bls 1 1 [.str []] [(0, (.k (.str [125])))]), Io 46 (.call 113 [(.t 44), (.t 45)])])
 (.seq (.seq (.rg [If 47 0 1, Il 48 1 47, Iln 49 48, Imv 50 0])
 (.block 0 (.loop [4, 48, 49, 50] (.seq (.rg [Ilt 51 50 49])
 (.seq (.cond (.t 51) .skip (.exit 0))
 (.seq (.block 1 (.seq (.rg [Iia 52 6 48 50, Ilb 53 6 52, Io 6 (.alloc [.int .i64 0, .str [], .sl .nil 1 [], .sl .nil 6 [], .sl .nil 1 [], .sl .nil 10 []]), ⟨none, none, .st 6 (.t 6) (.t 53), []⟩])
 (.rg [Ilb 54 1 4, Ilb 55 6 6, Io 56 (.call 114 [(.t 54), (.t 55)])])))
 (.rg [Iai 57 50 1, Im 50 57])))))))
 (.seq (.reg [0, 1, 2, 3, 4, 5, 6, 7, 8, 9, 10, 11] [If 58 0 4, Il 59 1 58, Ink 60 59, If 61 0 60, Il 62 1 61, If 63 0 4, Il 64 1 63, Ink 65 64, If 66 1 65, Il 67 1 66, Im 2 62, Im 3 67])
 .ret))))))))))⟩
theorem ck57:chkFn Tryz.prog 57 ir57=true:=by kernel_rfl
def ir58 : AFn := ⟨25, 1, [.t 2], .seq (.rg [Imb 2 false])
 (.scope (.seq .skip
 (.seq (.seq (.rg [Imv 3 0])
 (.block 0 (.loop [0, 3] (.seq (.seq (.rg [Im 6 3, Im 7 0, Ils 8 7, Ilt 9 6 8])
 (.cond (.t 9) .skip (.exit 0)))
 (.block 1 (.seq (.seq (.rg [Im 11 0, Im 12 3, Io 13 (.call 115 [(.t 11), (.t 12)]), Im 10 13, Iex 14 10 0, Iex 15 10 1, Im 4 14, Im 5 15])
 (.seq (.rg [Im 16 5, Igi 17 16 0, Im 18 17, Jm 19 18 4, Jt 20 18 (.call 116 [(.t 19)]), Ipf 21 18 20])
 (.cond (.t 21) (.seq (.rg [Im 22 3, Im 23 5, Iad 24 22 23, Im 3 24])
 (.exit 1)) .skip)))
 (.seq (.rg [Imb 2 false])
 .ret)))))))
 (.seq (.rg [Imb 2 true])
 .ret))))⟩
theorem ck58:chkFn Tryz.prog 58 ir58=true:=by kernel_rfl
def ir59 : AFn := ⟨39, 1, [.t 2], .seq (.rg [Imv 2 0])
 (.seq (.seq (.rg [Im 5 0, Io 6 (.ixs (.t 5) (.k (.int .i64 0))), Im 3 6])
 (.block 0 (.seq (.rg [Im 8 3, Io 9 (.bi .eql .u8 (.t 8) (.k (.int .u8 9))), Im 10 9, Fm 11 10 3, Jf 12 10 (.bi .eql .u8 (.t 11) (.k (.int .u8 10))), Ipt 13 10 12, Im 14 13, Fm 15 14 3, Jf 16 14 (.bi .eql .u8 (.t 15) (.k (.int .u8 13))), Ipt 17 14 16, Im 18 17, Fm 19 18 3, Jf 20 18 (.bi .eql .u8 (.t 19) (.k (.int .u8 32))), Ipt 21 18 20, Im 22 21, Fm 23 22 3, Jf 24 22 (.bi .eql .u8 (.t 23) (.k (.int .u8 44))), Ipt 25 22 24, Im 7 25])
 (.cond (.t 7) (.seq (.rg [Imv 2 1])
 .ret) (.seq (.rg [Im 27 0, Io 28 (.call 117 [(.t 27), (.k (.str [239, 187, 191]))]), Im 26 28])
 (.cond (.t 26) (.seq (.rg [Imv 2 3])
 .ret) (.seq (.rg [Im 30 3, Io 31 (.bi .eql .u8 (.t 30) (.k (.int .u8 35))), Im 29 31])
 (.cond (.t 29) (.seq (.seq (.rg [Im 32 0, Io 33 (.call 118 [(.t 32), (.k (.str [13, 10]))]), Im 4 33])
 (.seq (.rg [Im 34 4, Io 35 (.bi .geq .i64 (.t 34) (.k (.int .i64 0)))])
 (.cond (.t 35) (.seq (.rg [Im 36 4, Im 2 36])
 .ret) .skip)))
 (.seq (.rg [Im 37 0, Ils 38 37, Im 2 38])
 .ret)) .skip))))))))
 (.seq (.rg [Imv 2 0])
 .ret))⟩
theorem ck59:chkFn Tryz.prog 59 ir59=true:=by kernel_rfl
def ir60 : AFn := ⟨91, 1, [.c 2 2 true, .t 3], .seq (.rg [Io 2 (.alloc [.int .i64 0, .str []]), Imv 3 0])
 (.seq (.rg [Im 12 0, Io 13 (.ixs (.t 12) (.k (.int .i64 0))), Im 4 13])
 (.seq (.block 0 (.seq (.rg [Im 15 0, Io 16 (.call 117 [(.t 15), (.k (.str [34, 34, 34]))]), Im 14 16])
 (.cond (.t 14) (.seq (.rg [Im 18 0, Io 19 (.call 119 [(.t 18)]), Im 17 19, Iex 20 17 0, Iex 21 17 1, Im 5 20, Im 6 21])
 (.seq (.rg [Im 22 5, Io 23 (.bld [.int .i64 0, .str []] [(0, 1, (.k (.int .i64 5))), (1, 1, (.t 22))]), Im 24 6, ⟨none, none, .st 2 (.t 2) (.t 23), []⟩, Im 3 24])
 .ret)) (.seq (.rg [Im 26 4, Io 27 (.bi .eql .u8 (.t 26) (.k (.int .u8 34))), Im 25 27])
 (.cond (.t 25) (.seq (.rg [Im 29 0, Io 30 (.call 120 [(.t 29), (.k (.clo 121 [] []))]), Im 28 30, Iex 31 28 0, Iex 32 28 1, Im 7 31, Im 8 32])
 (.seq (.rg [Im 33 7, Io 34 (.bld [.int .i64 0, .str []] [(0, 1, (.k (.int .i64 5))), (1, 1, (.t 33))]), Im 35 8, ⟨none, none, .st 2 (.t 2) (.t 34), []⟩, Im 3 35])
 .ret)) (.seq (.rg [Im 37 0, Io 38 (.call 117 [(.t 37), (.k (.str [46, 46, 46]))]), Im 36 38])
 (.cond (.t 36) (.seq (.rg [Io 39 (.bld [.int .i64 0, .str []] [(0, 1, (.k (.int .i64 1))), (1, 1, (.k (.str [46, 46, 46])))]), ⟨none, none, .st 2 (.t 2) (.t 39), []⟩, Imv 3 3])
 .ret) (.seq (.rg [Im 41 4, Io 42 (.call 122 [(.k (.str [33, 36, 38, 40, 41, 58, 61, 64, 91, 93, 123, 124, 125])), (.t 41)]), Io 43 (.bi .geq .i64 (.t 42) (.k (.int .i64 0))), Im 40 43])
 (.cond (.t 40) (.seq (.rg [Im 44 0, Io 45 (.sls (.t 44) none (some (.k (.int .i64 1)))), Io 46 (.bld [.int .i64 0, .str []] [(0, 1, (.k (.int .i64 1))), (1, 1, (.t 45))]), ⟨none, none, .st 2 (.t 2) (.t 46), []⟩, Imv 3 1])
 .ret) (.seq (.rg [Im 48 4, Io 49 (.call 123 [(.t 48)]), Im 47 49])
 (.cond (.t 47) (.seq (.rg [Im 50 0, Io 51 (.call 124 [(.t 50)]), Im 9 51])
 (.seq (.rg [Im 52 0, Im 53 9, Io 54 (.sls (.t 52) none (some (.t 53))), Io 55 (.bld [.int .i64 0, .str []] [(0, 1, (.k (.int .i64 2))), (1, 1, (.t 54))]), Im 56 9, ⟨none, none, .st 2 (.t 2) (.t 55), []⟩, Im 3 56])
 .ret)) .skip)))))))))))
 (.seq (.rg [Im 58 0, Io 59 (.call 125 [(.t 58)]), Im 57 59, Iex 60 57 0, Iex 61 57 1, Im 10 60, Im 11 61])
 (.seq (.seq (.rg [Im 62 10, Im 63 0, Ils 64 63, Ilt 65 62 64, Im 66 65, Jm 67 66 0, Jm 68 66 10, Jt 69 66 (.ixs (.t 67) (.t 68)), Jt 70 66 (.call 123 [(.t 69)]), Jm 71 66 70, Fm 72 71 0, Fm 73 71 10, Jf 74 71 (.ixs (.t 72) (.t 73)), Jf 75 71 (.call 126 [(.t 74)]), Jt 76 66 (.pick (.t 71) (.k (.bool true)) (.t 75)), Jm 77 66 76, Fm 78 77 0, Fm 79 77 10, Jf 80 77 (.ixs (.t 78) (.t 79)), Jf 81 77 (.bi .eql .u8 (.t 80) (.k (.int .u8 46))), Jt 82 66 (.pick (.t 77) (.k (.bool true)) (.t 81)), Ipf 83 66 82])
 (.cond (.t 83) (.seq (.rg [Io 84 (.bld [.int .i64 0, .str []] []), ⟨none, none, .st 2 (.t 2) (.t 84), []⟩, Imv 3 0])
 .ret) .skip))
 (.seq (.rg [Im 85 11, Im 86 0, Im 87 10, Io 88 (.sls (.t 86) none (some (.t 87))), Io 89 (.bld [.int .i64 0, .str []] [(0, 1, (.t 85)), (1, 1, (.t 88))]), Im 90 10, ⟨none, none, .st 2 (.t 2) (.t 89), []⟩, Im 3 90])
 .ret)))))⟩
theorem ck60:chkFn Tryz.prog 60 ir60=true:=by kernel_rfl
def ir61 : AFn := ⟨40, 1, [.t 2], .seq (.rg [Ibx 1 0, Imb 2 false])
 (.seq (.seq (.rg [If 3 0 1, Il 4 1 3])
 (.block 0 (.seq (.rg [Iei 6 4 1, Im 5 6])
 (.cond (.t 5) (.seq (.rg [If 7 1 1, Il 8 1 7, Io 9 (.bs .eql (.t 8) (.k (.str [46, 46, 46]))), Im 10 9, Fa 11 10 1 1, Fl 12 10 1 11, Jf 13 10 (.lens (.t 12)), Jf 14 10 (.bi .eql .i64 (.t 13) (.k (.int .i64 1))), Fm 15 10 14, Ja 16 15 1 1, Jl 17 15 1 16, Jt 18 15 (.call 127 [(.k (.str [33, 36, 38, 40, 41, 58, 61, 64, 91, 93, 123, 124, 125])), (.t 17)]), Jf 19 10 (.pick (.t 15) (.t 18) (.k (.bool false))), Ipt 20 10 19, Im 2 20])
 .ret) (.seq (.rg [Iei 22 4 2, Im 21 22])
 (.cond (.t 21) (.seq (.rg [If 23 1 1, Il 24 1 23, Io 25 (.call 128 [(.t 24)]), Im 2 25])
 .ret) (.seq (.seq (.rg [Iei 27 4 3, Im 26 27])
 (.cond (.t 26) .skip (.rg [Iei 28 4 4, Im 26 28])))
 (.cond (.t 26) (.seq (.reg [0, 1, 3, 4, 2, 5, 6] [If 29 1 1, Il 30 1 29, If 32 0 1, Il 33 1 32, ⟨some 31, none, .call 129 [(.t 30)], [3]⟩, Io 34 (.bi .eql .i64 (.t 31) (.t 33)), Im 2 34])
 .ret) (.seq (.rg [Iei 36 4 5, Im 35 36])
 (.cond (.t 35) (.seq (.rg [If 37 1 1, Il 38 1 37, Io 39 (.call 130 [(.t 38)]), Im 2 39])
 .ret) .skip))))))))))
 (.seq (.rg [Imb 2 false])
 .ret))⟩
theorem ck61:chkFn Tryz.prog 61 ir61=true:=by kernel_rfl
def ir62 : AFn := ⟨83, 1, [.t 2], .seq (.rg [Io 2 (.mv (.k (.str [])))])
 (.seq (.rg [Io 11 (.bls 1 1 [.int .u8 0] [(0, (.k (.int .u8 34)))]), Im 3 11])
 (.seq (.seq (.rg [Imv 4 0])
 (.block 0 (.loop [0, 3, 4] (.seq (.seq (.rg [Im 12 4, Im 13 0, Ils 14 13, Ilt 15 12 14])
 (.cond (.t 15) .skip (.exit 0)))
 (.block 1 (.seq (.rg [Im 17 0, Im 18 4, Io 19 (.call 115 [(.t 17), (.t 18)]), Im 16 19, Iex 20 16 0, Iex 21 16 1, Im 5 20, Im 6 21])
 (.seq (.block 2 (.seq (.rg [Im 31 5, Iei 32 31 34, Im 33 32, Fm 34 33 5, Jf 35 33 (.bi .eql .i64 (.t 34) (.k (.int .i64 92))), Ipt 36 33 35, Im 30 36])
 (.cond (.t 30) (.rg [Im 37 3, Im 38 5, Io 39 (.cvi .u8 (.t 38)), Io 40 (.bls 1 2 [.int .u8 0] [(0, (.k (.int .u8 92))), (1, (.t 39))]), Iap 41 1 1 37 40, Im 3 41]) (.seq (.rg [Im 43 5, Iei 44 43 10, Im 42 44])
 (.cond (.t 42) (.rg [Im 45 3, Io 46 (.bls 1 2 [.int .u8 0] [(0, (.k (.int .u8 92))), (1, (.k (.int .u8 110)))]), Iap 47 1 1 45 46, Im 3 47]) (.seq (.rg [Im 49 5, Io 50 (.bi .lss .i64 (.t 49) (.k (.int .i64 32))), Im 51 50, Fm 52 51 5, Jf 53 51 (.bi .geq .i64 (.t 52) (.k (.int .i64 65536))), Ipt 54 51 53, Im 48 54])
 (.cond (.t 48) (.seq (.rg [Im 56 0, Im 57 4, Im 58 4, Im 59 6, Iad 60 58 59, Io 61 (.sls (.t 56) (some (.t 57)) (some (.t 60))), Io 62 (.call 131 [(.t 61)]), Im 55 62, Iex 63 55 0, Iex 64 55 1, Im 7 63, Im 8 64])
 (.seq (.rg [Im 65 7, Iln 66 65, Imv 67 0])
 (.block 3 (.loop [0, 3, 4, 6, 65, 66, 67] (.seq (.rg [Ilt 68 67 66])
 (.seq (.cond (.t 68) .skip (.exit 3))
 (.seq (.block 4 (.seq (.rg [Iia 69 1 65 67, Il 70 1 69, Im 10 70])
 (.rg [Im 71 3, Im 72 10, Io 73 (.call 132 [(.t 71), (.t 72)]), Im 3 73])))
 (.rg [Iai 74 67 1, Im 67 74])))))))) (.rg [Im 22 3, Im 23 0, Im 24 4, Im 25 4, Im 26 6, Iad 27 25 26, Io 28 (.sls (.t 23) (some (.t 24)) (some (.t 27))), Io 29 (.apps (.t 22) (.t 28)), Im 3 29]))))))))
 (.rg [Im 75 4, Im 76 6, Io 77 (.mm true (.t 76) [(.k (.int .i64 1))]), Iad 78 75 77, Im 4 78]))))))))
 (.seq (.rg [Im 79 3, Io 80 (.bls 1 1 [.int .u8 0] [(0, (.k (.int .u8 34)))]), Iap 81 1 1 79 80, Io 82 (.cvb2s (.t 81)), Im 2 82])
 .ret)))⟩
theorem ck62:chkFn Tryz.prog 62 ir62=true:=by kernel_rfl
def ir75:AFn:=⟨7,2,[],.rg [Im 4 1,Io 5 (.bld [.int .i64 0] [(0,1,(.t 4))]),Io 6 (.mki 120 (.t 5)),⟨none,none,.pan (.t 6),[]⟩]⟩
theorem ck75:chkFn Tryz.prog 75 ir75=true:=by kernel_rfl
def ir76 : AFn := ⟨17, 1, [.c 2 2 true], .seq (.rg [Io 2 (.alloc [.int .i64 0, .str []])])
 (.seq (.seq (.rg [Im 3 0, Io 4 (.call 43 [(.t 3)]), Ing 5 4])
 (.cond (.t 5) (.seq (.rg [Io 6 (.bld [.int .i64 0, .str []] []), ⟨none, none, .st 2 (.t 2) (.t 6), []⟩])
 .ret) .skip))
 (.seq (.reg [0, 1, 2, 3, 4, 5, 6, 7, 8, 9, 10] [Im 7 0, Ink 8 7, If 9 0 8, Il 10 1 9, Im 11 0, Ink 12 11, If 13 1 12, Il 14 1 13, Iia 15 2 10 14, Ilb 16 2 15, ⟨none, none, .st 2 (.t 2) (.t 16), []⟩])
 .ret))⟩
theorem ck76:chkFn Tryz.prog 76 ir76=true:=by kernel_rfl
def ir77 : AFn := ⟨15, 1, [.c 2 5 true], .seq (.rg [Io 2 (.alloc [.int .i64 0, .int .i64 0, .str [], .sl .nil 5 [], .sl .nil 6 []])])
 (.seq (.seq (.rg [Im 3 0])
 (.block 0 (.seq (.rg [Io 5 (.bs .eql (.t 3) (.k (.str [110, 117, 108, 108]))), Im 4 5])
 (.cond (.t 4) (.seq (.rg [Io 6 (.bld [.int .i64 0, .int .i64 0, .str [], .sl .nil 5 [], .sl .nil 6 []] []), ⟨none, none, .st 5 (.t 2) (.t 6), []⟩])
 .ret) (.seq (.rg [Io 8 (.bs .eql (.t 3) (.k (.str [116, 114, 117, 101]))), Im 7 8])
 (.cond (.t 7) (.seq (.rg [Io 9 (.bld [.int .i64 0, .int .i64 0, .str [], .sl .nil 5 [], .sl .nil 6 []] [(0, 1, (.k (.int .i64 1))), (1, 1, (.k (.int .i64 1)))]), ⟨none, none, .st 5 (.t 2) (.t 9), []⟩])
 .ret) (.seq (.rg [Io 11 (.bs .eql (.t 3) (.k (.str [102, 97, 108, 115, 101]))), Im 10 11])
 (.cond (.t 10) (.seq (.rg [Io 12 (.bld [.int .i64 0, .int .i64 0, .str [], .sl .nil 5 [], .sl .nil 6 []] [(0, 1, (.k (.int .i64 1)))]), ⟨none, none, .st 5 (.t 2) (.t 12), []⟩])
 .ret) .skip))))))))
 (.seq (.rg [Im 13 0, Io 14 (.bld [.int .i64 0, .int .i64 0, .str [], .sl .nil 5 [], .sl .nil 6 []] [(0, 1, (.k (.int .i64 5))), (2, 1, (.t 13))]), ⟨none, none, .st 5 (.t 2) (.t 14), []⟩])
 .ret))⟩
theorem ck77:chkFn Tryz.prog 77 ir77=true:=by kernel_rfl
def ir78 : AFn := ⟨19, 1, [.t 2, .t 3], .seq (.rg [Imv 2 0, Imb 3 false])
 (.seq (.rg [Im 7 0, Io 8 (.call 151 [(.t 7), (.k (.int .i64 10)), (.k (.int .i64 64))]), Im 6 8, Iex 9 6 0, Iex 10 6 1, Im 4 9, Im 5 10])
 (.seq (.rg [Im 11 4, Im 12 5, Io 13 (.ifnil false (.t 12)), Im 14 13, Jm 15 14 0, Jt 16 14 (.call 129 [(.t 15)]), Jt 17 14 (.bi .eql .i64 (.t 16) (.k (.int .i64 3))), Ipf 18 14 17, Im 2 11, Im 3 18])
 .ret))⟩
theorem ck78:chkFn Tryz.prog 78 ir78=true:=by kernel_rfl
def ir79 : AFn := ⟨5, 1, [.c 2 5 true], .seq (.rg [Io 2 (.alloc [.int .i64 0, .int .i64 0, .str [], .sl .nil 5 [], .sl .nil 6 []])])
 (.seq (.rg [Im 3 0, Io 4 (.bld [.int .i64 0, .int .i64 0, .str [], .sl .nil 5 [], .sl .nil 6 []] [(0, 1, (.k (.int .i64 2))), (1, 1, (.t 3))]), ⟨none, none, .st 5 (.t 2) (.t 4), []⟩])
 .ret)⟩
theorem ck79:chkFn Tryz.prog 79 ir79=true:=by kernel_rfl
def ir80 : AFn := ⟨5, 1, [.c 2 5 true], .seq (.rg [Io 2 (.alloc [.int .i64 0, .int .i64 0, .str [], .sl .nil 5 [], .sl .nil 6 []])])
 (.seq (.rg [Im 3 0, Io 4 (.bld [.int .i64 0, .int .i64 0, .str [], .sl .nil 5 [], .sl .nil 6 []] [(0, 1, (.k (.int .i64 4))), (2, 1, (.t 3))]), ⟨none, none, .st 5 (.t 2) (.t 4), []⟩])
 .ret)⟩
theorem ck80:chkFn Tryz.prog 80 ir80=true:=by kernel_rfl
def ir81 : AFn := ⟨28, 2, [.t 4], .seq (.rg [Imb 4 false])
 (.seq (.seq (.rg [Im 5 0, Im 6 1, Io 7 (.call 97 [(.t 5), (.t 6)]), Im 8 7, Jm 9 8 0, Jt 10 8 (.nilchk (.t 9)), Ja 11 8 2 10, Jl 12 8 1 11, Jt 13 8 (.bi .geq .i64 (.t 12) (.k (.int .i64 16))), Ipf 14 8 13])
 (.cond (.t 14) (.rg [Im 15 0, Io 16 (.call 75 [(.t 15), (.k (.int .i64 4))])]) .skip))
 (.seq (.seq (.rg [Im 17 0, Im 18 1, Io 19 (.call 98 [(.t 17), (.t 18)]), Ing 20 19])
 (.cond (.t 20) (.seq (.rg [Imb 4 false])
 .ret) .skip))
 (.seq (.rg [Im 21 0, Ink 22 21, If 23 2 22, Il 24 1 23, Iai 25 24 1, Ink 26 21, If 27 2 26, ⟨none, none, .st 1 (.t 27) (.t 25), []⟩])
 (.seq (.rg [Imb 4 true])
 .ret))))⟩
theorem ck81:chkFn Tryz.prog 81 ir81=true:=by kernel_rfl
def ir82 : AFn := ⟨16, 2, [.t 4], .seq (.rg [Imb 4 false])
 (.seq (.seq (.rg [Im 5 0, Im 6 1, Io 7 (.call 98 [(.t 5), (.t 6)]), Ing 8 7])
 (.cond (.t 8) (.seq (.rg [Imb 4 false])
 .ret) .skip))
 (.seq (.rg [Im 9 0, Ink 10 9, If 11 2 10, Il 12 1 11, Isi 13 12 1, Ink 14 9, If 15 2 14, ⟨none, none, .st 1 (.t 15) (.t 13), []⟩])
 (.seq (.rg [Imb 4 true])
 .ret)))⟩
theorem ck82:chkFn Tryz.prog 82 ir82=true:=by kernel_rfl
def ir83 : AFn := ⟨15, 2, [.c 4 6 true], .seq (.rg [Io 4 (.alloc [.str [], .int .i64 0, .int .i64 0, .str [], .sl .nil 5 [], .sl .nil 6 []])])
 (.seq (.rg [Im 6 0, Io 7 (.call 85 [(.t 6)]), Im 5 7])
 (.seq (.rg [Im 8 0, Io 9 (.call 84 [(.t 8), (.k (.str [58]))])])
 (.seq (.rg [Im 10 5, Im 11 0, Im 12 1, Io 13 (.call 33 [(.t 11), (.t 12)]), Io 14 (.bld [.str [], .int .i64 0, .int .i64 0, .str [], .sl .nil 5 [], .sl .nil 6 []] [(0, 1, (.t 10)), (1, 5, (.t 13))]), ⟨none, none, .st 6 (.t 4) (.t 14), []⟩])
 .ret)))⟩
theorem ck83:chkFn Tryz.prog 83 ir83=true:=by kernel_rfl
def ir84 : AFn := ⟨10, 2, [], .seq (.rg [Im 4 0, Im 5 1, Io 6 (.call 98 [(.t 4), (.t 5)]), Ing 7 6])
 (.cond (.t 7) (.rg [Im 8 0, Io 9 (.call 75 [(.t 8), (.k (.int .i64 2))])]) .skip)⟩
theorem ck84:chkFn Tryz.prog 84 ir84=true:=by kernel_rfl
def ir85 : AFn := ⟨20, 1, [.t 2], .seq (.rg [Io 2 (.mv (.k (.str [])))])
 (.seq (.rg [Im 4 0, Io 5 (.call 76 [(.t 4)]), Io 3 (.alloc [.int .i64 0, .str []]), ⟨none, none, .st 2 (.t 3) (.t 5), []⟩])
 (.seq (.seq (.rg [If 6 0 3, Il 7 1 6, Io 8 (.bi .neq .i64 (.t 7) (.k (.int .i64 2)))])
 (.cond (.t 8) (.rg [Im 9 0, Io 10 (.call 75 [(.t 9), (.k (.int .i64 2))])]) .skip))
 (.seq (.rg [Im 11 0, Ink 12 11, If 13 1 12, Il 14 1 13, Iai 15 14 1, Ink 16 11, If 17 1 16, ⟨none, none, .st 1 (.t 17) (.t 15), []⟩])
 (.seq (.rg [If 18 1 3, Il 19 1 18, Im 2 19])
 .ret))))⟩
theorem ck85:chkFn Tryz.prog 85 ir85=true:=by kernel_rfl
def ir97 : AFn := ⟨10, 2, [.t 4], .seq (.rg [Imb 4 false])
 (.seq (.rg [Im 5 0, Io 6 (.call 76 [(.t 5)]), Im 7 1, Io 8 (.bld [.int .i64 0, .str []] [(0, 1, (.k (.int .i64 1))), (1, 1, (.t 7))]), Io 9 (.eqa false [(.i .i64), .s] (.t 6) (.t 8)), Im 4 9])
 .ret)⟩
theorem ck97:chkFn Tryz.prog 97 ir97=true:=by kernel_rfl
def ir98 : AFn := ⟨18, 2, [.t 4], .seq (.rg [Imb 4 false])
 (.seq (.rg [Im 6 0, Im 7 1, Io 8 (.call 97 [(.t 6), (.t 7)]), Im 5 8])
 (.seq (.seq (.rg [Im 9 5])
 (.cond (.t 9) (.rg [Im 10 0, Ink 11 10, If 12 1 11, Il 13 1 12, Iai 14 13 1, Ink 15 10, If 16 1 15, ⟨none, none, .st 1 (.t 16) (.t 14), []⟩]) .skip))
 (.seq (.rg [Im 17 5, Im 4 17])
 .ret)))⟩
theorem ck98:chkFn Tryz.prog 98 ir98=true:=by kernel_rfl
def ir99 : AFn := ⟨13, 1, [], .seq (.rg [Im 2 0, Io 3 (.call 76 [(.t 2)]), Io 4 (.fld 0 1 false (.t 3)), Iei 5 4 5])
 (.cond (.t 5) (.rg [Im 6 0, Ink 7 6, If 8 1 7, Il 9 1 8, Iai 10 9 1, Ink 11 6, If 12 1 11, ⟨none, none, .st 1 (.t 12) (.t 10), []⟩]) .skip)⟩
theorem ck99:chkFn Tryz.prog 99 ir99=true:=by kernel_rfl
def ir100 : AFn := ⟨18, 2, [.t 4], .seq (.rg [Imb 4 false])
 (.seq (.rg [Im 6 0, Im 7 1, Io 8 (.call 158 [(.t 6), (.t 7)]), Im 5 8])
 (.seq (.seq (.rg [Im 9 5])
 (.cond (.t 9) (.rg [Im 10 0, Ink 11 10, If 12 1 11, Il 13 1 12, Iai 14 13 1, Ink 15 10, If 16 1 15, ⟨none, none, .st 1 (.t 16) (.t 14), []⟩]) .skip))
 (.seq (.rg [Im 17 5, Im 4 17])
 .ret)))⟩
theorem ck100:chkFn Tryz.prog 100 ir100=true:=by kernel_rfl
def ir101 : AFn := ⟨59, 1, [], .seq (.rg [Im 2 0, Ink 3 2, If 4 4 3, ⟨none, none, .st 1 (.t 4) (.k (.bool true)), []⟩])
 (.seq (.rg [Im 5 0, Ink 6 5, If 7 0 6, Il 8 1 7, Io 9 (.call 84 [(.t 8), (.k (.str [123]))])])
 (.seq (.seq (.rg [Im 10 0, Ink 11 10, If 12 0 11, Il 13 1 12, Io 14 (.call 100 [(.t 13), (.k (.str [113, 117, 101, 114, 121]))]), Ing 15 14])
 (.cond (.t 15) (.rg [Im 16 0, Ink 17 16, If 18 0 17, Il 19 1 18, Io 20 (.call 75 [(.t 19), (.k (.int .i64 2))])]) .skip))
 (.seq (.rg [Im 21 0, Ink 22 21, If 23 0 22, Il 24 1 23, Io 25 (.call 84 [(.t 24), (.k (.str [58]))])])
 (.seq (.rg [Im 26 0, Im 27 0, Ink 28 27, If 29 0 28, Il 30 1 29, Io 31 (.call 85 [(.t 30)]), Ink 32 26, If 33 1 32, If 34 1 33, ⟨none, none, .st 1 (.t 34) (.t 31), []⟩])
 (.seq (.seq (.rg [Im 35 0, Ink 36 35, If 37 0 36, Il 38 1 37, Io 39 (.call 100 [(.t 38), (.k (.str [109, 117, 116, 97, 116, 105, 111, 110]))])])
 (.cond (.t 39) (.seq (.rg [Im 40 0, Ink 41 40, If 42 0 41, Il 43 1 42, Io 44 (.call 84 [(.t 43), (.k (.str [58]))])])
 (.rg [Im 45 0, Im 46 0, Ink 47 46, If 48 0 47, Il 49 1 48, Io 50 (.call 85 [(.t 49)]), Ink 51 45, If 52 1 51, If 53 2 52, ⟨none, none, .st 1 (.t 53) (.t 50), []⟩])) .skip))
 (.rg [Im 54 0, Ink 55 54, If 56 0 55, Il 57 1 56, Io 58 (.call 84 [(.t 57), (.k (.str [125]))])]))))))⟩
theorem ck101:chkFn Tryz.prog 101 ir101=true:=by kernel_rfl
def ir102 : AFn := ⟨47, 2, [.c 4 6 true], .seq (.rg [Io 4 (.alloc [.int .i64 0, .str [], .sl .nil 1 [], .sl .nil 6 [], .sl .nil 1 [], .sl .nil 10 []])])
 (.seq (.rg [Im 6 1, Im 7 0, Ink 8 7, If 9 0 8, Il 10 1 9, Io 11 (.call 85 [(.t 10)]), Io 12 (.bld [.int .i64 0, .str [], .sl .nil 1 [], .sl .nil 6 [], .sl .nil 1 [], .sl .nil 10 []] [(0, 1, (.t 6)), (1, 1, (.t 11))]), Io 5 (.alloc [.int .i64 0, .str [], .sl .nil 1 [], .sl .nil 6 [], .sl .nil 1 [], .sl .nil 10 []]), ⟨none, none, .st 6 (.t 5) (.t 12), []⟩])
 (.seq (.seq (.rg [Im 13 0, Ink 14 13, If 15 0 14, Il 16 1 15, Io 17 (.call 100 [(.t 16), (.k (.str [105, 109, 112, 108, 101, 109, 101, 110, 116, 115]))])])
 (.cond (.t 17) (.rg [Im 18 0, Io 19 (.call 159 [(.t 18), (.k (.str [38]))]), If 20 2 5, ⟨none, none, .st 1 (.t 20) (.t 19), []⟩]) .skip))
 (.seq (.rg [Im 21 0, Ink 22 21, If 23 0 22, Il 24 1 23, Io 25 (.call 84 [(.t 24), (.k (.str [123]))])])
 (.seq (.reg [0, 1, 2, 3, 4, 5, 6, 7] [If 26 3 5, Il 27 1 26, Im 28 0, ⟨some 29, none, .call 160 [(.t 28)], [1]⟩, Io 30 (.bls 6 1 [.str [], .sl .nil 10 [], .str [], .int .i64 0, .int .i64 0, .sl .nil 2 []] [(0, (.t 29))]), Iap 31 6 96 27 30, If 32 3 5, ⟨none, none, .st 1 (.t 32) (.t 31), []⟩])
 (.seq (.block 0 (.loop [0, 4, 5] (.seq (.seq (.rg [Im 33 0, Ink 34 33, If 35 0 34, Il 36 1 35, Io 37 (.call 98 [(.t 36), (.k (.str [125]))]), Ing 38 37])
 (.cond (.t 38) .skip (.exit 0)))
 (.block 1 (.reg [0, 1, 2, 3, 4, 5, 6, 7] [If 39 3 5, Il 40 1 39, Im 41 0, ⟨some 42, none, .call 160 [(.t 41)], [1]⟩, Io 43 (.bls 6 1 [.str [], .sl .nil 10 [], .str [], .int .i64 0, .int .i64 0, .sl .nil 2 []] [(0, (.t 42))]), Iap 44 6 96 40 43, If 45 3 5, ⟨none, none, .st 1 (.t 45) (.t 44), []⟩])))))
 (.seq (.rg [Ilb 46 6 5, ⟨none, none, .st 6 (.t 4) (.t 46), []⟩])
 .ret))))))⟩
theorem ck102:chkFn Tryz.prog 102 ir102=true:=by kernel_rfl
def ir103 : AFn := ⟨19, 1, [.c 2 6 true], .seq (.rg [Io 2 (.alloc [.int .i64 0, .str [], .sl .nil 1 [], .sl .nil 6 [], .sl .nil 1 [], .sl .nil 10 []])])
 (.seq (.rg [Im 4 0, Ink 5 4, If 6 0 5, Il 7 1 6, Io 8 (.call 85 [(.t 7)]), Io 9 (.bld [.int .i64 0, .str [], .sl .nil 1 [], .sl .nil 6 [], .sl .nil 1 [], .sl .nil 10 []] [(0, 1, (.k (.int .i64 3))), (1, 1, (.t 8))]), Io 3 (.alloc [.int .i64 0, .str [], .sl .nil 1 [], .sl .nil 6 [], .sl .nil 1 [], .sl .nil 10 []]), ⟨none, none, .st 6 (.t 3) (.t 9), []⟩])
 (.seq (.rg [Im 10 0, Ink 11 10, If 12 0 11, Il 13 1 12, Io 14 (.call 84 [(.t 13), (.k (.str [61]))])])
 (.seq (.rg [Im 15 0, Io 16 (.call 159 [(.t 15), (.k (.str [124]))]), If 17 4 3, ⟨none, none, .st 1 (.t 17) (.t 16), []⟩])
 (.seq (.rg [Ilb 18 6 3, ⟨none, none, .st 6 (.t 2) (.t 18), []⟩])
 .ret))))⟩
theorem ck103:chkFn Tryz.prog 103 ir103=true:=by kernel_rfl
def ir104 : AFn := ⟨36, 1, [.c 2 6 true], .seq (.rg [Io 2 (.alloc [.int .i64 0, .str [], .sl .nil 1 [], .sl .nil 6 [], .sl .nil 1 [], .sl .nil 10 []])])
 (.seq (.rg [Im 4 0, Ink 5 4, If 6 0 5, Il 7 1 6, Io 8 (.call 85 [(.t 7)]), Io 9 (.bld [.int .i64 0, .str [], .sl .nil 1 [], .sl .nil 6 [], .sl .nil 1 [], .sl .nil 10 []] [(0, 1, (.k (.int .i64 4))), (1, 1, (.t 8))]), Io 3 (.alloc [.int .i64 0, .str [], .sl .nil 1 [], .sl .nil 6 [], .sl .nil 1 [], .sl .nil 10 []]), ⟨none, none, .st 6 (.t 3) (.t 9), []⟩])
 (.seq (.rg [Im 10 0, Ink 11 10, If 12 0 11, Il 13 1 12, Io 14 (.call 84 [(.t 13), (.k (.str [123]))])])
 (.seq (.reg [0, 1, 2, 3, 4, 5, 6, 7] [If 15 4 3, Il 16 1 15, Im 17 0, ⟨some 18, none, .call 161 [(.t 17)], [1]⟩, Io 19 (.bls 1 1 [.str []] [(0, (.t 18))]), Iap 20 1 16 16 19, If 21 4 3, ⟨none, none, .st 1 (.t 21) (.t 20), []⟩])
 (.seq (.block 0 (.loop [0, 2, 3] (.seq (.seq (.rg [Im 22 0, Ink 23 22, If 24 0 23, Il 25 1 24, Io 26 (.call 98 [(.t 25), (.k (.str [125]))]), Ing 27 26])
 (.cond (.t 27) .skip (.exit 0)))
 (.block 1 (.reg [0, 1, 2, 3, 4, 5, 6, 7] [If 28 4 3, Il 29 1 28, Im 30 0, ⟨some 31, none, .call 161 [(.t 30)], [1]⟩, Io 32 (.bls 1 1 [.str []] [(0, (.t 31))]), Iap 33 1 16 29 32, If 34 4 3, ⟨none, none, .st 1 (.t 34) (.t 33), []⟩])))))
 (.seq (.rg [Ilb 35 6 3, ⟨none, none, .st 6 (.t 2) (.t 35), []⟩])
 .ret)))))⟩
theorem ck104:chkFn Tryz.prog 104 ir104=true:=by kernel_rfl
def ir105 : AFn := ⟨19, 1, [.c 2 6 true], .seq (.rg [Io 2 (.alloc [.int .i64 0, .str [], .sl .nil 1 [], .sl .nil 6 [], .sl .nil 1 [], .sl .nil 10 []])])
 (.seq (.rg [Im 4 0, Ink 5 4, If 6 0 5, Il 7 1 6, Io 8 (.call 85 [(.t 7)]), Io 9 (.bld [.int .i64 0, .str [], .sl .nil 1 [], .sl .nil 6 [], .sl .nil 1 [], .sl .nil 10 []] [(0, 1, (.k (.int .i64 5))), (1, 1, (.t 8))]), Io 3 (.alloc [.int .i64 0, .str [], .sl .nil 1 [], .sl .nil 6 [], .sl .nil 1 [], .sl .nil 10 []]), ⟨none, none, .st 6 (.t 3) (.t 9), []⟩])
 (.seq (.rg [Im 10 0, Ink 11 10, If 12 0 11, Il 13 1 12, Io 14 (.call 84 [(.t 13), (.k (.str [123]))])])
 (.seq (.rg [Im 15 0, Io 16 (.call 162 [(.t 15), (.k (.str [125]))]), If 17 5 3, ⟨none, none, .st 1 (.t 17) (.t 16), []⟩])
 (.seq (.rg [Ilb 18 6 3, ⟨none, none, .st 6 (.t 2) (.t 18), []⟩])
 .ret))))⟩
theorem ck105:chkFn Tryz.prog 105 ir105=true:=by kernel_rfl
def ir109 : AFn := ⟨42, 2, [.t 4], .seq (.rg [Imb 4 false])
 (.seq (.seq (.rg [Im 6 0, Iln 7 6, Im 8 1, Iln 9 8, Io 10 (.bi .neq .i64 (.t 7) (.t 9))])
 (.cond (.t 10) (.seq (.rg [Imb 4 false])
 .ret) .skip))
 (.seq (.seq (.rg [Imv 5 0])
 (.block 0 (.loop [0, 1, 5] (.seq (.seq (.rg [Im 11 5, Im 12 0, Iln 13 12, Ilt 14 11 13])
 (.cond (.t 14) .skip (.exit 0)))
 (.seq (.block 1 (.seq (.reg [0, 1, 2, 3, 4, 5, 6, 7, 8, 9, 10, 11, 12, 13, 14, 15, 16, 17, 18, 19, 20, 21, 22, 23, 24] [Im 17 0, Im 18 5, Iia 19 2 17 18, If 20 0 19, Il 21 1 20, Im 22 1, Im 23 5, Iia 24 2 22 23, If 25 0 24, Il 26 1 25, Io 27 (.bs .neq (.t 21) (.t 26)), Im 28 27, Fm 29 28 0, Fm 30 28 5, Jf 31 28 (.ia 2 (.t 29) (.t 30)), Fa 32 28 1 31, Fl 33 28 1 32, Fm 34 28 1, Fm 35 28 5, Jf 36 28 (.ia 2 (.t 34) (.t 35)), Fa 37 28 1 36, Fl 38 28 1 37, Jf 39 28 (.call 40 [(.t 33), (.t 38)]), Jf 40 28 (.not (.t 39)), Ipt 41 28 40])
 (.cond (.t 41) (.seq (.rg [Imb 4 false])
 .ret) .skip)))
 (.rg [Im 15 5, Iai 16 15 1, Im 5 16]))))))
 (.seq (.rg [Imb 4 true])
 .ret)))⟩
theorem ck109:chkFn Tryz.prog 109 ir109=true:=by kernel_rfl
def ir110 : AFn := ⟨50, 1, [.t 2], .seq (.rg [Ibx 1 0, Imv 2 0])
 (.seq (.rg [If 6 2 1, Il 7 1 6, Ils 8 7, Io 9 (.bi .add .i64 (.k (.int .i64 1)) (.t 8)), Im 3 9])
 (.seq (.seq (.rg [Imv 4 0])
 (.block 0 (.loop [1, 3, 4] (.seq (.seq (.rg [Im 10 4, If 11 3 1, Il 12 1 11, Iln 13 12, Ilt 14 10 13])
 (.cond (.t 14) .skip (.exit 0)))
 (.seq (.block 1 (.rg [Im 17 3, If 18 3 1, Il 19 1 18, Im 20 4, Iia 21 5 19 20, Ilb 22 5 21, Io 23 (.call 110 [(.t 22)]), Iad 24 17 23, Im 3 24]))
 (.rg [Im 15 4, Iai 16 15 1, Im 4 16]))))))
 (.seq (.seq (.rg [Imv 5 0])
 (.block 2 (.loop [1, 3, 5] (.seq (.seq (.rg [Im 25 5, If 26 4 1, Il 27 1 26, Iln 28 27, Ilt 29 25 28])
 (.cond (.t 29) .skip (.exit 2)))
 (.seq (.block 3 (.reg [0, 1, 2, 3, 4, 5, 6, 7, 8, 9, 10, 11, 12, 13, 14, 15, 16, 17] [Im 32 3, If 33 4 1, Il 34 1 33, Im 35 5, Iia 36 6 34 35, If 37 0 36, Il 38 1 37, Ils 39 38, Iad 40 32 39, If 41 4 1, Il 42 1 41, Im 43 5, Iia 44 6 42 43, If 45 1 44, Ilb 46 5 45, ⟨some 47, none, .call 110 [(.t 46)], [2, 6]⟩, Iad 48 40 47, Im 3 48]))
 (.rg [Im 30 5, Iai 31 30 1, Im 5 31]))))))
 (.seq (.rg [Im 49 3, Im 2 49])
 .ret))))⟩
theorem ck110:chkFn Tryz.prog 110 ir110=true:=by kernel_rfl
def ir111 : AFn := ⟨3, 0, [.t 0], .seq (.rg [Io 0 (.mv (.k (.nilp)))])
 (.seq (.rg [Io 1 (.bld [.sl .nil 2 [], .bool false, .int .i64 0] [(1, 1, (.k (.bool true)))]), Io 2 (.box (.t 1)), Im 0 2])
 .ret)⟩
theorem ck111:chkFn Tryz.prog 111 ir111=true:=by kernel_rfl
def ir112 : AFn := ⟨19, 2, [], .seq (.rg [Im 4 0, Im 5 1, Io 6 (.call 128 [(.t 5)]), Io 7 (.call 165 [(.t 4), (.t 6)])])
 (.rg [Im 8 0, Im 9 0, Ink 10 9, If 11 0 10, Il 12 1 11, Im 13 1, Io 14 (.bld [.int .i64 0, .str []] [(0, 1, (.k (.int .i64 2))), (1, 1, (.t 13))]), Io 15 (.bls 2 1 [.int .i64 0, .str []] [(0, (.t 14))]), Iap 16 2 24 12 15, Ink 17 8, If 18 0 17, ⟨none, none, .st 1 (.t 18) (.t 16), []⟩])⟩
theorem ck112:chkFn Tryz.prog 112 ir112=true:=by kernel_rfl
def ir113 : AFn := ⟨24, 2, [], .seq (.rg [Im 6 1, Iln 7 6, Imv 8 0])
 (.block 0 (.loop [0, 6, 7, 8] (.seq (.rg [Ilt 9 8 7])
 (.seq (.cond (.t 9) .skip (.exit 0))
 (.seq (.block 1 (.seq (.rg [Iia 10 1 6 8, Il 11 1 10, Im 5 11])
 (.rg [Im 12 0, Im 13 0, Ink 14 13, If 15 0 14, Il 16 1 15, Im 17 5, Io 18 (.bld [.int .i64 0, .str []] [(0, 1, (.k (.int .i64 1))), (1, 1, (.t 17))]), Io 19 (.bls 2 1 [.int .i64 0, .str []] [(0, (.t 18))]), Iap 20 2 24 16 19, Ink 21 12, If 22 0 21, ⟨none, none, .st 1 (.t 22) (.t 20), []⟩])))
 (.rg [Iai 23 8 1, Im 8 23]))))))⟩
theorem ck113:chkFn Tryz.prog 113 ir113=true:=by kernel_rfl
def ir114 : AFn := ⟨68, 2, [], .seq (.rg [Ibx 2 0, Ibx 3 1])
 (.seq (.rg [If 4 0 3, Il 5 1 4])
 (.block 0 (.seq (.rg [Iei 10 5 1, Im 9 10])
 (.cond (.t 9) (.rg [Ilb 11 1 2, Ilb 12 6 3, Io 13 (.call 166 [(.t 11), (.k (.str [116, 121, 112, 101])), (.t 12)])]) (.seq (.rg [Iei 15 5 2, Im 14 15])
 (.cond (.t 14) (.rg [Ilb 16 1 2, Ilb 17 6 3, Io 18 (.call 166 [(.t 16), (.k (.str [105, 110, 116, 101, 114, 102, 97, 99, 101])), (.t 17)])]) (.seq (.seq (.rg [Iei 20 5 3, Im 19 20])
 (.cond (.t 19) .skip (.rg [Iei 21 5 4, Im 19 21])))
 (.cond (.t 19) (.rg [Ilb 22 1 2, Ilb 23 6 3, Io 24 (.call 167 [(.t 22), (.t 23)])]) (.seq (.rg [Iei 26 5 5, Im 25 26])
 (.cond (.t 25) (.seq (.rg [If 27 0 2, Il 28 1 27, If 29 5 3, Il 30 1 29, Iln 31 30, Igi 32 31 0, Im 33 32, Ja 34 33 2 3, Jl 35 33 1 34, Jt 36 33 (.len (.t 35)), Ja 37 33 3 3, Jl 38 33 1 37, Jt 39 33 (.len (.t 38)), Jt 40 33 (.bi .add .i64 (.t 36) (.t 39)), Ja 41 33 4 3, Jl 42 33 1 41, Jt 43 33 (.len (.t 42)), Jt 44 33 (.bi .add .i64 (.t 40) (.t 43)), Jt 45 33 (.bi .eql .i64 (.t 44) (.k (.int .i64 0))), Ipf 46 33 45, Io 47 (.call 165 [(.t 28), (.t 46)])])
 (.seq (.rg [If 48 0 2, Il 49 1 48, Io 50 (.call 112 [(.t 49), (.k (.str [105, 110, 112, 117, 116]))])])
 (.seq (.rg [If 51 0 2, Il 52 1 51, If 53 1 3, Il 54 1 53, Io 55 (.call 112 [(.t 52), (.t 54)])])
 (.seq (.rg [If 56 0 2, Il 57 1 56, Io 58 (.bls 1 1 [.str []] [(0, (.k (.str [123])))]), Io 59 (.call 113 [(.t 57), (.t 58)])])
 (.seq (.rg [Ilb 60 1 2, If 61 5 3, Il 62 1 61, Io 63 (.call 168 [(.t 60), (.t 62)])])
 (.rg [If 64 0 2, Il 65 1 64, Io 66 (.bls 1 1 [.str []] [(0, (.k (.str [125])))]), Io 67 (.call 113 [(.t 65), (.t 66)])])))))) (.rg [If 6 0 2, Il 7 1 6, Io 8 (.call 165 [(.t 7), (.k (.bool false))])])))))))))))⟩
theorem ck114:chkFn Tryz.prog 114 ir114=true:=by kernel_rfl
def ir115 : AFn := ⟨32, 2, [.t 4, .t 5], .seq (.rg [Imv 4 0, Imv 5 0])
 (.seq (.seq (.rg [Im 8 1, Io 9 (.bi .lss .i64 (.t 8) (.k (.int .i64 0))), Im 10 9, Fm 11 10 1, Fm 12 10 0, Jf 13 10 (.lens (.t 12)), Jf 14 10 (.bi .geq .i64 (.t 11) (.t 13)), Ipt 15 10 14])
 (.cond (.t 15) (.seq (.rg [Imv 4 0, Imv 5 0])
 .ret) .skip))
 (.seq (.rg [Im 17 0, Im 18 1, Io 19 (.sls (.t 17) (some (.t 18)) none), Io 20 (.call 169 [(.t 19)]), Im 16 20, Iex 21 16 0, Iex 22 16 1, Im 6 21, Im 7 22])
 (.seq (.seq (.rg [Im 23 6, Io 24 (.bi .eql .i32 (.t 23) (.k (.int .i32 65533))), Im 25 24, Jm 26 25 7, Jt 27 25 (.bi .lss .i64 (.t 26) (.k (.int .i64 2))), Ipf 28 25 27])
 (.cond (.t 28) (.seq (.rg [Imv 4 0, Imv 5 0])
 .ret) .skip))
 (.seq (.rg [Im 29 6, Io 30 (.cvi .i64 (.t 29)), Im 31 7, Im 4 30, Im 5 31])
 .ret))))⟩
theorem ck115:chkFn Tryz.prog 115 ir115=true:=by kernel_rfl
def ir116 : AFn := ⟨21, 1, [.t 2], .seq (.rg [Imb 2 false])
 (.seq (.rg [Im 3 0, Iei 4 3 9, Im 5 4, Fm 6 5 0, Jf 7 5 (.bi .eql .i64 (.t 6) (.k (.int .i64 10))), Ipt 8 5 7, Im 9 8, Fm 10 9 0, Jf 11 9 (.bi .eql .i64 (.t 10) (.k (.int .i64 13))), Ipt 12 9 11, Im 13 12, Fm 14 13 0, Jf 15 13 (.bi .geq .i64 (.t 14) (.k (.int .i64 32))), Fm 16 13 15, Jm 17 16 0, Jt 18 16 (.bi .leq .i64 (.t 17) (.k (.int .i64 65535))), Jf 19 13 (.pick (.t 16) (.t 18) (.k (.bool false))), Ipt 20 13 19, Im 2 20])
 .ret)⟩
theorem ck116:chkFn Tryz.prog 116 ir116=true:=by kernel_rfl
def ir119 : AFn := ⟨38, 1, [.t 2, .t 3], .seq (.rg [Io 2 (.mv (.k (.str []))), Imv 3 0])
 (.scope (.seq (.rg [Io 4 (.mv (.k (.sl .nil 1 [])))])
 (.seq (.rg [Imv 5 3])
 (.seq .skip
 (.seq (.block 0 (.loop [0, 4, 5] (.block 1 (.seq (.block 2 (.seq (.rg [Im 7 5, Im 8 0, Ils 9 8, Io 10 (.bi .geq .i64 (.t 7) (.t 9)), Im 6 10])
 (.cond (.t 6) (.seq (.rg [Io 2 (.mv (.k (.str []))), Imv 3 0])
 .ret) (.seq (.rg [Im 12 0, Im 13 5, Io 14 (.sls (.t 12) (some (.t 13)) none), Io 15 (.call 117 [(.t 14), (.k (.str [34, 34, 34]))]), Im 11 15])
 (.cond (.t 11) (.exit 0) (.seq (.rg [Im 17 0, Im 18 5, Io 19 (.sls (.t 17) (some (.t 18)) none), Io 20 (.call 117 [(.t 19), (.k (.str [92, 34, 34, 34]))]), Im 16 20])
 (.cond (.t 16) (.seq (.rg [Im 21 4, Io 22 (.apps (.t 21) (.k (.str [34, 34, 34]))), Im 4 22])
 (.seq (.rg [Im 23 5, Iai 24 23 4, Im 5 24])
 (.exit 1))) .skip)))))))
 (.seq (.rg [Im 25 4, Im 26 0, Im 27 5, Io 28 (.ixs (.t 26) (.t 27)), Io 29 (.bls 1 1 [.int .u8 0] [(0, (.t 28))]), Iap 30 1 1 25 29, Im 4 30])
 (.rg [Im 31 5, Iai 32 31 1, Im 5 32]))))))
 (.seq (.rg [Im 33 4, Io 34 (.cvb2s (.t 33)), Io 35 (.call 175 [(.t 34)]), Im 36 5, Iai 37 36 3, Im 2 35, Im 3 37])
 .ret))))))⟩
theorem ck119:chkFn Tryz.prog 119 ir119=true:=by kernel_rfl
def ir120 : AFn := ⟨75, 2, [.t 4, .t 5], .seq (.rg [Io 4 (.mv (.k (.str []))), Imv 5 0])
 (.scope (.seq (.rg [Io 9 (.bld [.sl .nil 1 [], .sl .nil 1 [], .bool false] [(2, 1, (.k (.bool true)))]), Io 10 (.box (.t 9)), Im 6 10])
 (.seq (.rg [Imv 7 1])
 (.seq .skip
 (.seq (.block 0 (.loop [0, 1, 6, 7] (.block 1 (.seq (.block 2 (.seq (.rg [Im 12 7, Im 13 0, Ils 14 13, Io 15 (.bi .geq .i64 (.t 12) (.t 14)), Im 11 15])
 (.cond (.t 11) (.seq (.rg [Io 4 (.mv (.k (.str []))), Imv 5 0])
 .ret) (.seq (.rg [Im 17 0, Im 18 7, Io 19 (.ixs (.t 17) (.t 18)), Io 20 (.bi .eql .u8 (.t 19) (.k (.int .u8 34))), Im 16 20])
 (.cond (.t 16) (.exit 0) (.seq (.rg [Im 22 0, Im 23 7, Io 24 (.ixs (.t 22) (.t 23)), Io 25 (.bi .eql .u8 (.t 24) (.k (.int .u8 92))), Im 21 25])
 (.cond (.t 21) (.seq (.rg [Im 26 6, Im 27 0, Im 28 7, Iai 29 28 1, Io 30 (.sls (.t 27) (some (.t 29)) none), Io 31 (.call 176 [(.t 26), (.t 30)]), Im 8 31])
 (.seq (.seq (.rg [Im 32 8, Iei 33 32 0])
 (.cond (.t 33) (.seq (.rg [Io 4 (.mv (.k (.str []))), Imv 5 0])
 .ret) .skip))
 (.seq (.rg [Im 34 7, Im 35 8, Io 36 (.bi .add .i64 (.k (.int .i64 1)) (.t 35)), Iad 37 34 36, Im 7 37])
 (.exit 1)))) (.seq (.rg [Im 39 1, Im 40 0, Im 41 7, Io 42 (.ixs (.t 40) (.t 41)), Io 43 (.callv (.t 39) [(.t 42)]), Ing 44 43, Im 38 44])
 (.cond (.t 38) (.seq (.rg [Io 4 (.mv (.k (.str []))), Imv 5 0])
 .ret) .skip)))))))))
 (.seq (.rg [Im 45 6, Io 46 (.call 177 [(.t 45)])])
 (.seq (.reg [0, 1, 2, 3, 4, 5, 6, 7, 8, 9, 10, 11, 12] [Im 47 6, Im 48 6, Ink 49 48, If 50 0 49, Il 51 1 50, Im 52 0, Im 53 7, Io 54 (.ixs (.t 52) (.t 53)), Io 55 (.bls 1 1 [.int .u8 0] [(0, (.t 54))]), Iap 56 1 1 51 55, Ink 57 47, If 58 0 57, ⟨none, none, .st 1 (.t 58) (.t 56), []⟩])
 (.rg [Im 59 7, Iai 60 59 1, Im 7 60])))))))
 (.seq (.rg [Im 61 6, Io 62 (.call 177 [(.t 61)])])
 (.seq (.seq (.rg [Im 63 6, Ink 64 63, If 65 2 64, Il 66 1 65, Ing 67 66])
 (.cond (.t 67) (.seq (.rg [Io 4 (.mv (.k (.str []))), Imv 5 0])
 .ret) .skip))
 (.seq (.rg [Im 68 6, Ink 69 68, If 70 0 69, Il 71 1 70, Io 72 (.cvb2s (.t 71)), Im 73 7, Iai 74 73 1, Im 4 72, Im 5 74])
 .ret))))))))⟩
theorem ck120:chkFn Tryz.prog 120 ir120=true:=by kernel_rfl
def ir121 : AFn := ⟨9, 1, [.t 2], .seq (.rg [Imb 2 false])
 (.seq (.rg [Im 3 0, Io 4 (.bi .neq .u8 (.t 3) (.k (.int .u8 10))), Im 5 4, Jm 6 5 0, Jt 7 5 (.bi .neq .u8 (.t 6) (.k (.int .u8 13))), Ipf 8 5 7, Im 2 8])
 .ret)⟩
theorem ck121:chkFn Tryz.prog 121 ir121=true:=by kernel_rfl
def ir123 : AFn := ⟨21, 1, [.t 2], .seq (.rg [Imb 2 false])
 (.seq (.rg [Im 3 0, Io 4 (.bi .geq .u8 (.t 3) (.k (.int .u8 97))), Im 5 4, Jm 6 5 0, Jt 7 5 (.bi .leq .u8 (.t 6) (.k (.int .u8 122))), Ipf 8 5 7, Im 9 8, Fm 10 9 0, Jf 11 9 (.bi .geq .u8 (.t 10) (.k (.int .u8 65))), Fm 12 9 11, Jm 13 12 0, Jt 14 12 (.bi .leq .u8 (.t 13) (.k (.int .u8 90))), Jf 15 9 (.pick (.t 12) (.t 14) (.k (.bool false))), Ipt 16 9 15, Im 17 16, Fm 18 17 0, Jf 19 17 (.bi .eql .u8 (.t 18) (.k (.int .u8 95))), Ipt 20 17 19, Im 2 20])
 .ret)⟩
theorem ck123:chkFn Tryz.prog 123 ir123=true:=by kernel_rfl
def ir124 : AFn := ⟨27, 1, [.t 2], .seq (.rg [Imv 2 0])
 (.seq (.rg [Imv 3 0])
 (.seq (.block 0 (.loop [0, 3] (.seq (.seq (.rg [Im 4 3, Im 5 0, Ils 6 5, Ilt 7 4 6, Im 8 7, Jm 9 8 0, Jm 10 8 3, Jt 11 8 (.ixs (.t 9) (.t 10)), Jt 12 8 (.call 123 [(.t 11)]), Jm 13 8 12, Fm 14 13 3, Jf 15 13 (.bi .gtr .i64 (.t 14) (.k (.int .i64 0))), Fm 16 13 15, Jm 17 16 0, Jm 18 16 3, Jt 19 16 (.ixs (.t 17) (.t 18)), Jt 20 16 (.call 126 [(.t 19)]), Jf 21 13 (.pick (.t 16) (.t 20) (.k (.bool false))), Jt 22 8 (.pick (.t 13) (.k (.bool true)) (.t 21)), Ipf 23 8 22])
 (.cond (.t 23) .skip (.exit 0)))
 (.block 1 (.rg [Im 24 3, Iai 25 24 1, Im 3 25])))))
 (.seq (.rg [Im 26 3, Im 2 26])
 .ret)))⟩
theorem ck124:chkFn Tryz.prog 124 ir124=true:=by kernel_rfl
def ir125 : AFn := ⟨38, 1, [.t 2, .t 3], .seq (.rg [Imv 2 0, Imv 3 0])
 (.seq (.rg [Im 8 0, Io 9 (.call 179 [(.t 8)]), Im 4 9])
 (.seq (.seq (.rg [Im 10 4, Iei 11 10 0])
 (.cond (.t 11) (.seq (.rg [Imv 2 0, Imv 3 0])
 .ret) .skip))
 (.seq (.rg [Imv 5 3])
 (.seq (.seq (.rg [Im 12 0, Im 13 4, Io 14 (.sls (.t 12) (some (.t 13)) none), Io 15 (.call 117 [(.t 14), (.k (.str [46]))])])
 (.cond (.t 15) (.seq (.rg [Im 16 0, Im 17 4, Iai 18 17 1, Io 19 (.sls (.t 16) (some (.t 18)) none), Io 20 (.call 180 [(.t 19)]), Im 6 20])
 (.seq (.rg [Im 21 6, Igi 22 21 0])
 (.cond (.t 22) (.rg [Im 23 4, Iai 24 23 1, Im 25 6, Iad 26 24 25, Im 4 26, Imv 5 4]) .skip))) .skip))
 (.seq (.seq (.rg [Im 27 0, Im 28 4, Io 29 (.sls (.t 27) (some (.t 28)) none), Io 30 (.call 181 [(.t 29)]), Im 7 30])
 (.seq (.rg [Im 31 7, Igi 32 31 0])
 (.cond (.t 32) (.rg [Im 33 4, Im 34 7, Iad 35 33 34, Im 4 35, Imv 5 4]) .skip)))
 (.seq (.rg [Im 36 4, Im 37 5, Im 2 36, Im 3 37])
 .ret))))))⟩
theorem ck125:chkFn Tryz.prog 125 ir125=true:=by kernel_rfl
def ir126 : AFn := ⟨9, 1, [.t 2], .seq (.rg [Imb 2 false])
 (.seq (.rg [Im 3 0, Io 4 (.bi .geq .u8 (.t 3) (.k (.int .u8 48))), Im 5 4, Jm 6 5 0, Jt 7 5 (.bi .leq .u8 (.t 6) (.k (.int .u8 57))), Ipf 8 5 7, Im 2 8])
 .ret)⟩
theorem ck126:chkFn Tryz.prog 126 ir126=true:=by kernel_rfl
def ir128 : AFn := ⟨28, 1, [.t 2], .seq (.rg [Imb 2 false])
 (.seq (.seq (.rg [Im 4 0, Ils 5 4, Imv 6 0])
 (.block 0 (.loop [0, 5, 6] (.seq (.rg [Ilt 7 6 5])
 (.seq (.cond (.t 7) .skip (.exit 0))
 (.seq (.block 1 (.seq (.rg [Im 8 6, Im 3 8])
 (.seq (.rg [Im 9 0, Im 10 3, Io 11 (.ixs (.t 9) (.t 10)), Io 12 (.call 123 [(.t 11)]), Ing 13 12, Im 14 13, Jm 15 14 3, Jt 16 14 (.bi .eql .i64 (.t 15) (.k (.int .i64 0))), Jm 17 14 16, Fm 18 17 0, Fm 19 17 3, Jf 20 17 (.ixs (.t 18) (.t 19)), Jf 21 17 (.call 126 [(.t 20)]), Jf 22 17 (.not (.t 21)), Jt 23 14 (.pick (.t 17) (.k (.bool true)) (.t 22)), Ipf 24 14 23])
 (.cond (.t 24) (.seq (.rg [Imb 2 false])
 .ret) .skip))))
 (.rg [Iai 25 6 1, Im 6 25])))))))
 (.seq (.rg [Im 26 0, Io 27 (.bs .neq (.t 26) (.k (.str []))), Im 2 27])
 .ret))⟩
theorem ck128:chkFn Tryz.prog 128 ir128=true:=by kernel_rfl
def ir129 : AFn := ⟨15, 1, [.t 2], .seq (.rg [Imv 2 0])
 (.seq (.rg [Im 6 0, Io 7 (.call 125 [(.t 6)]), Im 5 7, Iex 8 5 0, Iex 9 5 1, Im 3 8, Im 4 9])
 (.seq (.seq (.rg [Im 10 3, Im 11 0, Ils 12 11, Io 13 (.bi .neq .i64 (.t 10) (.t 12))])
 (.cond (.t 13) (.seq (.rg [Imv 2 0])
 .ret) .skip))
 (.seq (.rg [Im 14 4, Im 2 14])
 .ret)))⟩
theorem ck129:chkFn Tryz.prog 129 ir129=true:=by kernel_rfl
def ir130 : AFn := ⟨5, 1, [.t 2], .seq (.rg [Imb 2 false])
 (.seq (.rg [Im 3 0, Io 4 (.call 183 [(.t 3)]), Im 2 4])
 .ret)⟩
theorem ck130:chkFn Tryz.prog 130 ir130=true:=by kernel_rfl
def ir131 : AFn := ⟨43, 1, [.t 2, .t 3], .seq (.rg [Io 2 (.mv (.k (.sl .nil 1 []))), Imb 3 false])
 (.seq (.rg [Io 4 (.mv (.k (.sl .nil 1 [])))])
 (.seq (.seq (.rg [Imv 5 0])
 (.block 0 (.loop [0, 4, 5] (.seq (.seq (.rg [Im 8 5, Im 9 0, Ils 10 9, Ilt 11 8 10])
 (.cond (.t 11) .skip (.exit 0)))
 (.block 1 (.seq (.rg [Im 13 0, Im 14 5, Io 15 (.call 115 [(.t 13), (.t 14)]), Im 12 15, Iex 16 12 0, Iex 17 12 1, Im 6 16, Im 7 17])
 (.seq (.block 2 (.seq (.rg [Im 23 7, Iei 24 23 0, Im 22 24])
 (.cond (.t 22) (.seq (.rg [Io 2 (.mv (.k (.sl .nil 1 []))), Imb 3 false])
 .ret) (.seq (.rg [Im 26 6, Io 27 (.bi .geq .i64 (.t 26) (.k (.int .i64 65536))), Im 25 27])
 (.cond (.t 25) (.rg [Im 28 4, Im 29 6, Isi 30 29 65536, Io 31 (.bi .quo .i64 (.t 30) (.k (.int .i64 1024))), Io 32 (.bi .add .i64 (.k (.int .i64 55296)) (.t 31)), Im 33 6, Isi 34 33 65536, Io 35 (.bi .rem .i64 (.t 34) (.k (.int .i64 1024))), Io 36 (.bi .add .i64 (.k (.int .i64 56320)) (.t 35)), Io 37 (.bls 1 2 [.int .i64 0] [(0, (.t 32)), (1, (.t 36))]), Iap 38 1 8 28 37, Im 4 38]) (.rg [Im 18 4, Im 19 6, Io 20 (.bls 1 1 [.int .i64 0] [(0, (.t 19))]), Iap 21 1 8 18 20, Im 4 21]))))))
 (.rg [Im 39 5, Im 40 7, Iad 41 39 40, Im 5 41]))))))))
 (.seq (.rg [Im 42 4, Im 2 42, Imb 3 true])
 .ret)))⟩
theorem ck131:chkFn Tryz.prog 131 ir131=true:=by kernel_rfl
def ir132 : AFn := ⟨23, 2, [.t 4], .seq (.rg [Io 4 (.mv (.k (.sl .nil 1 [])))])
 (.seq (.rg [Im 6 0, Io 7 (.bls 1 2 [.int .u8 0] [(0, (.k (.int .u8 92))), (1, (.k (.int .u8 117)))]), Iap 8 1 1 6 7, Im 0 8])
 (.seq (.seq (.rg [Imv 5 3])
 (.block 0 (.loop [0, 1, 5] (.seq (.seq (.rg [Im 9 5, Io 10 (.bi .geq .i64 (.t 9) (.k (.int .i64 0)))])
 (.cond (.t 10) .skip (.exit 0)))
 (.seq (.block 1 (.rg [Im 13 0, Im 14 1, Im 15 5, Io 16 (.bi .mul .i64 (.k (.int .i64 4)) (.t 15)), Io 17 (.shf .shr (.t 14) (.t 16)), Io 18 (.bi .rem .i64 (.t 17) (.k (.int .i64 16))), Io 19 (.ixs (.k (.str [48, 49, 50, 51, 52, 53, 54, 55, 56, 57, 97, 98, 99, 100, 101, 102])) (.t 18)), Io 20 (.bls 1 1 [.int .u8 0] [(0, (.t 19))]), Iap 21 1 1 13 20, Im 0 21]))
 (.rg [Im 11 5, Isi 12 11 1, Im 5 12]))))))
 (.seq (.rg [Im 22 0, Im 4 22])
 .ret)))⟩
theorem ck132:chkFn Tryz.prog 132 ir132=true:=by kernel_rfl
def ir158 : AFn := ⟨10, 2, [.t 4], .seq (.rg [Imb 4 false])
 (.seq (.rg [Im 5 0, Io 6 (.call 76 [(.t 5)]), Im 7 1, Io 8 (.bld [.int .i64 0, .str []] [(0, 1, (.k (.int .i64 2))), (1, 1, (.t 7))]), Io 9 (.eqa false [(.i .i64), .s] (.t 6) (.t 8)), Im 4 9])
 .ret)⟩
theorem ck158:chkFn Tryz.prog 158 ir158=true:=by kernel_rfl
def ir159 : AFn := ⟨33, 2, [.t 4], .seq (.rg [Io 4 (.mv (.k (.sl .nil 1 [])))])
 (.seq (.rg [Im 6 0, Ink 7 6, If 8 0 7, Il 9 1 8, Im 10 1, Io 11 (.call 98 [(.t 9), (.t 10)])])
 (.seq (.rg [Im 12 0, Ink 13 12, If 14 0 13, Il 15 1 14, Io 16 (.call 85 [(.t 15)]), Io 17 (.bls 1 1 [.str []] [(0, (.t 16))]), Im 5 17])
 (.seq (.block 0 (.loop [0, 1, 5] (.seq (.seq (.rg [Im 18 0, Ink 19 18, If 20 0 19, Il 21 1 20, Im 22 1, Io 23 (.call 98 [(.t 21), (.t 22)])])
 (.cond (.t 23) .skip (.exit 0)))
 (.block 1 (.rg [Im 24 5, Im 25 0, Ink 26 25, If 27 0 26, Il 28 1 27, Io 29 (.call 85 [(.t 28)]), Io 30 (.bls 1 1 [.str []] [(0, (.t 29))]), Iap 31 1 16 24 30, Im 5 31])))))
 (.seq (.rg [Im 32 5, Im 4 32])
 .ret))))⟩
theorem ck159:chkFn Tryz.prog 159 ir159=true:=by kernel_rfl
def ir160 : AFn := ⟨41, 1, [.c 2 6 true], .seq (.rg [Io 2 (.alloc [.str [], .sl .nil 10 [], .str [], .int .i64 0, .int .i64 0, .sl .nil 2 []])])
 (.seq (.rg [Im 4 0, Ink 5 4, If 6 0 5, Il 7 1 6, Io 8 (.call 99 [(.t 7)])])
 (.seq (.rg [Im 9 0, Ink 10 9, If 11 0 10, Il 12 1 11, Io 13 (.call 85 [(.t 12)]), Io 14 (.bld [.str [], .sl .nil 10 [], .str [], .int .i64 0, .int .i64 0, .sl .nil 2 []] [(0, 1, (.t 13))]), Io 3 (.alloc [.str [], .sl .nil 10 [], .str [], .int .i64 0, .int .i64 0, .sl .nil 2 []]), ⟨none, none, .st 6 (.t 3) (.t 14), []⟩])
 (.seq (.seq (.rg [Im 15 0, Ink 16 15, If 17 0 16, Il 18 1 17, Io 19 (.call 98 [(.t 18), (.k (.str [40]))])])
 (.cond (.t 19) (.rg [Im 20 0, Io 21 (.call 162 [(.t 20), (.k (.str [41]))]), If 22 1 3, ⟨none, none, .st 1 (.t 22) (.t 21), []⟩]) .skip))
 (.seq (.rg [Im 23 0, Ink 24 23, If 25 0 24, Il 26 1 25, Io 27 (.call 84 [(.t 26), (.k (.str [58]))])])
 (.seq (.rg [Im 28 0, Ink 29 28, If 30 0 29, Il 31 1 30, Io 32 (.call 38 [(.t 31)]), If 33 2 3, ⟨none, none, .st 3 (.t 33) (.t 32), []⟩])
 (.seq (.rg [Im 34 0, Ink 35 34, If 36 0 35, Il 37 1 36, Io 38 (.call 196 [(.t 37), (.k (.bool true))]), If 39 5 3, ⟨none, none, .st 1 (.t 39) (.t 38), []⟩])
 (.seq (.rg [Ilb 40 6 3, ⟨none, none, .st 6 (.t 2) (.t 40), []⟩])
 .ret)))))))⟩
theorem ck160:chkFn Tryz.prog 160 ir160=true:=by kernel_rfl
def ir161 : AFn := ⟨37, 1, [.t 2], .seq (.rg [Io 2 (.mv (.k (.str [])))])
 (.seq (.rg [Im 3 0, Ink 4 3, If 5 0 4, Il 6 1 5, Io 7 (.call 99 [(.t 6)])])
 (.seq (.seq (.rg [Im 8 0, Ink 9 8, If 10 0 9, Il 11 1 10, Io 12 (.call 158 [(.t 11), (.k (.str [116, 114, 117, 101]))]), Im 13 12, Fm 14 13 0, Jf 15 13 (.nilchk (.t 14)), Fa 16 13 0 15, Fl 17 13 1 16, Jf 18 13 (.call 158 [(.t 17), (.k (.str [102, 97, 108, 115, 101]))]), Ipt 19 13 18, Im 20 19, Fm 21 20 0, Jf 22 20 (.nilchk (.t 21)), Fa 23 20 0 22, Fl 24 20 1 23, Jf 25 20 (.call 158 [(.t 24), (.k (.str [110, 117, 108, 108]))]), Ipt 26 20 25])
 (.cond (.t 26) (.rg [Im 27 0, Ink 28 27, If 29 0 28, Il 30 1 29, Io 31 (.call 75 [(.t 30), (.k (.int .i64 2))])]) .skip))
 (.seq (.rg [Im 32 0, Ink 33 32, If 34 0 33, Il 35 1 34, Io 36 (.call 85 [(.t 35)]), Im 2 36])
 .ret)))⟩
theorem ck161:chkFn Tryz.prog 161 ir161=true:=by kernel_rfl
def ir162 : AFn := ⟨22, 2, [.t 4], .seq (.rg [Io 4 (.mv (.k (.sl .nil 10 [])))])
 (.seq (.rg [Im 6 0, Io 7 (.call 206 [(.t 6)]), Io 8 (.bls 10 1 [.str [], .str [], .int .i64 0, .int .i64 0, .bool false, .int .i64 0, .int .i64 0, .str [], .sl .nil 5 [], .sl .nil 6 []] [(0, (.t 7))]), Im 5 8])
 (.seq (.block 0 (.loop [0, 1, 5] (.seq (.seq (.rg [Im 9 0, Ink 10 9, If 11 0 10, Il 12 1 11, Im 13 1, Io 14 (.call 98 [(.t 12), (.t 13)]), Ing 15 14])
 (.cond (.t 15) .skip (.exit 0)))
 (.block 1 (.rg [Im 16 5, Im 17 0, Io 18 (.call 206 [(.t 17)]), Io 19 (.bls 10 1 [.str [], .str [], .int .i64 0, .int .i64 0, .bool false, .int .i64 0, .int .i64 0, .str [], .sl .nil 5 [], .sl .nil 6 []] [(0, (.t 18))]), Iap 20 10 136 16 19, Im 5 20])))))
 (.seq (.rg [Im 21 5, Im 4 21])
 .ret)))⟩
theorem ck162:chkFn Tryz.prog 162 ir162=true:=by kernel_rfl
def ir165:AFn:=⟨14,2,[],.rg [Im 4 0,Im 5 0,Ink 6 5,If 7 1 6,Il 8 1 7,Im 9 8,Jm 10 9 1,Ipf 11 9 10,Ink 12 4,If 13 1 12,⟨none,none,.st 1 (.t 13) (.t 11),[]⟩]⟩
theorem ck165:chkFn Tryz.prog 165 ir165=true:=by kernel_rfl
def ir166 : AFn := ⟨55, 3, [], .seq (.rg [Ibx 3 0, Ibx 5 2])
 (.seq (.rg [If 6 0 3, Il 7 1 6, If 8 3 5, Il 9 1 8, Iln 10 9, Igi 11 10 0, Im 12 11, Ja 13 12 4 5, Jl 14 12 1 13, Jt 15 12 (.len (.t 14)), Ja 16 12 5 5, Jl 17 12 1 16, Jt 18 12 (.len (.t 17)), Jt 19 12 (.bi .add .i64 (.t 15) (.t 18)), Jt 20 12 (.bi .eql .i64 (.t 19) (.k (.int .i64 0))), Ipf 21 12 20, Io 22 (.call 165 [(.t 7), (.t 21)])])
 (.seq (.rg [If 23 0 3, Il 24 1 23, Im 25 1, Io 26 (.call 112 [(.t 24), (.t 25)])])
 (.seq (.rg [If 27 0 3, Il 28 1 27, If 29 1 5, Il 30 1 29, Io 31 (.call 112 [(.t 28), (.t 30)])])
 (.seq (.seq (.rg [If 32 2 5, Il 33 1 32, Iln 34 33, Igi 35 34 0])
 (.cond (.t 35) (.seq (.rg [If 36 0 3, Il 37 1 36, Io 38 (.call 112 [(.t 37), (.k (.str [105, 109, 112, 108, 101, 109, 101, 110, 116, 115]))])])
 (.rg [Ilb 39 1 3, If 40 2 5, Il 41 1 40, Io 42 (.call 208 [(.t 39), (.k (.str [38])), (.t 41)])])) .skip))
 (.seq (.rg [If 43 0 3, Il 44 1 43, Io 45 (.bls 1 1 [.str []] [(0, (.k (.str [123])))]), Io 46 (.call 113 [(.t 44), (.t 45)])])
 (.seq (.rg [Ilb 47 1 3, If 48 3 5, Il 49 1 48, Io 50 (.call 209 [(.t 47), (.t 49)])])
 (.rg [If 51 0 3, Il 52 1 51, Io 53 (.bls 1 1 [.str []] [(0, (.k (.str [125])))]), Io 54 (.call 113 [(.t 52), (.t 53)])])))))))⟩
theorem ck166:chkFn Tryz.prog 166 ir166=true:=by kernel_rfl
def ir167 : AFn := ⟨87, 2, [], .seq (.rg [Ibx 2 0, Ibx 3 1])
 (.seq (.rg [If 6 0 2, Il 7 1 6, If 8 4 3, Il 9 1 8, Iln 10 9, Igi 11 10 0, Im 12 11, Ja 13 12 2 3, Jl 14 12 1 13, Jt 15 12 (.len (.t 14)), Ja 16 12 3 3, Jl 17 12 1 16, Jt 18 12 (.len (.t 17)), Jt 19 12 (.bi .add .i64 (.t 15) (.t 18)), Ja 20 12 5 3, Jl 21 12 1 20, Jt 22 12 (.len (.t 21)), Jt 23 12 (.bi .add .i64 (.t 19) (.t 22)), Jt 24 12 (.bi .eql .i64 (.t 23) (.k (.int .i64 0))), Ipf 25 12 24, Io 26 (.call 165 [(.t 7), (.t 25)])])
 (.seq (.seq (.rg [If 27 0 3, Il 28 1 27, Iei 29 28 3])
 (.cond (.t 29) (.seq (.rg [If 30 0 2, Il 31 1 30, Io 32 (.call 112 [(.t 31), (.k (.str [117, 110, 105, 111, 110]))])])
 (.seq (.rg [If 33 0 2, Il 34 1 33, If 35 1 3, Il 36 1 35, Io 37 (.call 112 [(.t 34), (.t 36)])])
 (.seq (.rg [If 38 0 2, Il 39 1 38, Io 40 (.bls 1 1 [.str []] [(0, (.k (.str [61])))]), Io 41 (.call 113 [(.t 39), (.t 40)])])
 (.seq (.rg [Ilb 42 1 2, If 43 4 3, Il 44 1 43, Io 45 (.call 208 [(.t 42), (.k (.str [124])), (.t 44)])])
 .ret)))) .skip))
 (.seq (.rg [If 46 0 2, Il 47 1 46, Io 48 (.call 112 [(.t 47), (.k (.str [101, 110, 117, 109]))])])
 (.seq (.rg [If 49 0 2, Il 50 1 49, If 51 1 3, Il 52 1 51, Io 53 (.call 112 [(.t 50), (.t 52)])])
 (.seq (.rg [If 54 0 2, Il 55 1 54, Io 56 (.bls 1 1 [.str []] [(0, (.k (.str [123])))]), Io 57 (.call 113 [(.t 55), (.t 56)])])
 (.seq (.seq (.rg [If 58 4 3, Il 59 1 58, Iln 60 59, Imv 61 0])
 (.block 0 (.loop [2, 59, 60, 61] (.seq (.rg [Ilt 62 61 60])
 (.seq (.cond (.t 62) .skip (.exit 0))
 (.seq (.block 1 (.seq (.rg [Iia 63 1 59 61, Il 64 1 63, Im 5 64])
 (.seq (.rg [If 65 0 2, Il 66 1 65, Im 67 5, Io 68 (.bs .neq (.t 67) (.k (.str [116, 114, 117, 101]))), Im 69 68, Jm 70 69 5, Jt 71 69 (.bs .neq (.t 70) (.k (.str [102, 97, 108, 115, 101]))), Ipf 72 69 71, Im 73 72, Jm 74 73 5, Jt 75 73 (.bs .neq (.t 74) (.k (.str [110, 117, 108, 108]))), Ipf 76 73 75, Io 77 (.call 165 [(.t 66), (.t 76)])])
 (.rg [If 78 0 2, Il 79 1 78, Im 80 5, Io 81 (.call 112 [(.t 79), (.t 80)])]))))
 (.rg [Iai 82 61 1, Im 61 82])))))))
 (.rg [If 83 0 2, Il 84 1 83, Io 85 (.bls 1 1 [.str []] [(0, (.k (.str [125])))]), Io 86 (.call 113 [(.t 84), (.t 85)])])))))))⟩
theorem ck167:chkFn Tryz.prog 167 ir167=true:=by kernel_rfl
def ir168 : AFn := ⟨34, 2, [], .seq (.rg [Ibx 2 0])
 (.seq (.rg [Im 6 1, Iln 7 6, Imv 8 0])
 (.block 0 (.loop [2, 6, 7, 8] (.seq (.rg [Ilt 9 8 7])
 (.seq (.cond (.t 9) .skip (.exit 0))
 (.seq (.block 1 (.seq (.rg [Iia 10 10 6 8, Ilb 11 10 10, Io 5 (.alloc [.str [], .str [], .int .i64 0, .int .i64 0, .bool false, .int .i64 0, .int .i64 0, .str [], .sl .nil 5 [], .sl .nil 6 []]), ⟨none, none, .st 10 (.t 5) (.t 11), []⟩])
 (.seq (.rg [If 12 0 2, Il 13 1 12, If 14 0 5, Il 15 1 14, Io 16 (.call 112 [(.t 13), (.t 15)])])
 (.seq (.rg [If 17 0 2, Il 18 1 17, Io 19 (.bls 1 1 [.str []] [(0, (.k (.str [58])))]), Io 20 (.call 113 [(.t 18), (.t 19)])])
 (.seq (.rg [If 21 0 2, Il 22 1 21, If 23 1 5, Ilb 24 3 23, Io 25 (.call 210 [(.t 22), (.t 24)])])
 (.rg [If 26 0 2, Il 27 1 26, If 28 4 5, Il 29 1 28, If 30 5 5, Ilb 31 5 30, Io 32 (.call 211 [(.t 27), (.t 29), (.t 31)])]))))))
 (.rg [Iai 33 8 1, Im 8 33])))))))⟩
theorem ck168:chkFn Tryz.prog 168 ir168=true:=by kernel_rfl
def ir175 : AFn := ⟨63, 1, [.t 2], .seq (.rg [Io 2 (.mv (.k (.str [])))])
 (.seq (.rg [Im 6 0, Io 7 (.call 216 [(.t 6)]), Im 3 7])
 (.seq (.seq (.rg [Im 8 3, Io 9 (.call 217 [(.t 8)]), Im 4 9])
 (.seq (.rg [Im 10 4, Igi 11 10 0])
 (.cond (.t 11) (.seq (.rg [Imv 5 1])
 (.block 0 (.loop [3, 4, 5] (.seq (.seq (.rg [Im 12 5, Im 13 3, Iln 14 13, Ilt 15 12 14])
 (.cond (.t 15) .skip (.exit 0)))
 (.seq (.block 1 (.reg [0, 1, 2, 3, 4, 5, 6, 7, 8, 9, 10, 11, 12, 13, 14, 15] [Im 18 3, Im 19 5, Im 20 3, Im 21 5, Iia 22 1 20 21, Il 23 1 22, Im 24 4, Im 25 3, Im 26 5, Iia 27 1 25 26, Il 28 1 27, Ils 29 28, Io 30 (.mm false (.t 24) [(.t 29)]), Io 31 (.sls (.t 23) (some (.t 30)) none), Iia 32 1 18 19, ⟨none, none, .st 1 (.t 32) (.t 31), []⟩]))
 (.rg [Im 16 5, Iai 17 16 1, Im 5 17])))))) .skip)))
 (.seq (.block 2 (.loop [3] (.seq (.seq (.rg [Im 33 3, Iln 34 33, Igi 35 34 0, Im 36 35, Jm 37 36 3, Jt 38 36 (.ia 1 (.t 37) (.k (.int .i64 0))), Jl 39 36 1 38, Jt 40 36 (.call 218 [(.t 39)]), Ipf 41 36 40])
 (.cond (.t 41) .skip (.exit 2)))
 (.block 3 (.rg [Im 42 3, Io 43 (.sll 1 (.t 42) (some (.k (.int .i64 1))) none none), Im 3 43])))))
 (.seq (.block 4 (.loop [3] (.seq (.seq (.rg [Im 44 3, Iln 45 44, Igi 46 45 0, Im 47 46, Jm 48 47 3, Jm 49 47 3, Jt 50 47 (.len (.t 49)), Jt 51 47 (.bi .sub .i64 (.t 50) (.k (.int .i64 1))), Jt 52 47 (.ia 1 (.t 48) (.t 51)), Jl 53 47 1 52, Jt 54 47 (.call 218 [(.t 53)]), Ipf 55 47 54])
 (.cond (.t 55) .skip (.exit 4)))
 (.block 5 (.rg [Im 56 3, Im 57 3, Iln 58 57, Isi 59 58 1, Io 60 (.sll 1 (.t 56) none (some (.t 59)) none), Im 3 60])))))
 (.seq (.rg [Io 61 (.frz 1 (.t 3)), Io 62 (.call 63 [(.t 61), (.k (.str [10]))]), Im 2 62])
 .ret)))))⟩
theorem ck175:chkFn Tryz.prog 175 ir175=true:=by kernel_rfl
def ir176 : AFn := ⟨48, 2, [.t 4], .seq (.rg [Imv 4 0])
 (.seq (.seq (.rg [Im 8 1, Io 9 (.call 117 [(.t 8), (.k (.str [117]))])])
 (.cond (.t 9) (.seq (.rg [Im 11 1, Io 12 (.sls (.t 11) (some (.k (.int .i64 1))) none), Io 13 (.call 219 [(.t 12)]), Im 10 13, Iex 14 10 0, Iex 15 10 1, Im 5 14, Im 6 15])
 (.seq (.seq (.rg [Im 16 6, Ing 17 16])
 (.cond (.t 17) (.seq (.rg [Imv 4 0])
 .ret) .skip))
 (.seq (.rg [Im 18 0, Im 19 0, Ink 20 19, If 21 1 20, Il 22 1 21, Im 23 5, Io 24 (.bls 1 1 [.int .i64 0] [(0, (.t 23))]), Iap 25 1 8 22 24, Ink 26 18, If 27 1 26, ⟨none, none, .st 1 (.t 27) (.t 25), []⟩])
 (.seq (.rg [Imv 4 5])
 .ret)))) .skip))
 (.seq (.seq (.rg [Im 28 1, Io 29 (.bs .eql (.t 28) (.k (.str [])))])
 (.cond (.t 29) (.seq (.rg [Imv 4 0])
 .ret) .skip))
 (.seq (.rg [Im 30 1, Io 31 (.ixs (.t 30) (.k (.int .i64 0))), Io 32 (.call 122 [(.k (.str [34, 92, 47, 98, 102, 110, 114, 116])), (.t 31)]), Im 7 32])
 (.seq (.seq (.rg [Im 33 7, Io 34 (.bi .lss .i64 (.t 33) (.k (.int .i64 0)))])
 (.cond (.t 34) (.seq (.rg [Imv 4 0])
 .ret) .skip))
 (.seq (.rg [Im 35 0, Io 36 (.call 177 [(.t 35)])])
 (.seq (.reg [0, 1, 2, 3, 4, 5, 6, 7, 8, 9, 10, 11] [Im 37 0, Im 38 0, Ink 39 38, If 40 0 39, Il 41 1 40, Im 42 7, Io 43 (.ixs (.k (.str [34, 92, 47, 8, 12, 10, 13, 9])) (.t 42)), Io 44 (.bls 1 1 [.int .u8 0] [(0, (.t 43))]), Iap 45 1 1 41 44, Ink 46 37, If 47 0 46, ⟨none, none, .st 1 (.t 47) (.t 45), []⟩])
 (.seq (.rg [Imv 4 1])
 .ret)))))))⟩
theorem ck176:chkFn Tryz.prog 176 ir176=true:=by kernel_rfl
def ir177 : AFn := ⟨34, 1, [], .seq (.rg [Im 5 0, Ink 6 5, If 7 1 6, Il 8 1 7, Io 9 (.call 220 [(.t 8)]), Im 4 9, Iex 10 4 0, Iex 11 4 1, Im 2 10, Im 3 11])
 (.reg [0, 1, 2, 3, 4, 5, 6, 7, 9, 10, 11, 12, 8, 13, 14, 15, 16, 17, 18, 19, 20, 21, 22, 23, 24] [Im 12 0, Im 13 0, Im 14 0, Im 15 0, Ink 16 15, If 17 0 16, Il 18 1 17, Im 19 2, Im 21 0, Ink 22 21, If 23 2 22, Il 24 1 23, ⟨some 20, none, .apps (.t 18) (.t 19), [11]⟩, Im 25 24, Jm 26 25 3, Ipf 27 25 26, Ink 28 12, If 29 0 28, ⟨none, none, .st 1 (.t 29) (.t 20), []⟩, Ink 30 13, If 31 1 30, ⟨none, none, .st 1 (.t 31) (.k (.sl .nil 1 [])), []⟩, Ink 32 14, If 33 2 32, ⟨none, none, .st 1 (.t 33) (.t 27), []⟩])⟩
theorem ck177:chkFn Tryz.prog 177 ir177=true:=by kernel_rfl
def ir179 : AFn := ⟨24, 1, [.t 2], .seq (.rg [Imv 2 0])
 (.seq (.rg [Imv 3 0])
 (.seq (.seq (.rg [Im 5 0, Io 6 (.call 117 [(.t 5), (.k (.str [45]))])])
 (.cond (.t 6) (.rg [Imv 3 1]) .skip))
 (.seq (.rg [Im 7 0, Im 8 3, Io 9 (.sls (.t 7) (some (.t 8)) none), Io 10 (.call 180 [(.t 9)]), Im 4 10])
 (.seq (.block 0 (.seq (.rg [Im 12 4, Iei 13 12 0, Im 11 13])
 (.cond (.t 11) (.seq (.rg [Imv 2 0])
 .ret) (.seq (.rg [Im 15 0, Im 16 3, Io 17 (.ixs (.t 15) (.t 16)), Io 18 (.bi .eql .u8 (.t 17) (.k (.int .u8 48))), Im 14 18])
 (.cond (.t 14) (.seq (.rg [Im 19 3, Iai 20 19 1, Im 2 20])
 .ret) .skip)))))
 (.seq (.rg [Im 21 3, Im 22 4, Iad 23 21 22, Im 2 23])
 .ret)))))⟩
theorem ck179:chkFn Tryz.prog 179 ir179=true:=by kernel_rfl
def ir180 : AFn := ⟨17, 1, [.t 2], .seq (.rg [Imv 2 0])
 (.seq (.rg [Imv 3 0])
 (.seq (.block 0 (.loop [0, 3] (.seq (.seq (.rg [Im 4 3, Im 5 0, Ils 6 5, Ilt 7 4 6, Im 8 7, Jm 9 8 0, Jm 10 8 3, Jt 11 8 (.ixs (.t 9) (.t 10)), Jt 12 8 (.call 126 [(.t 11)]), Ipf 13 8 12])
 (.cond (.t 13) .skip (.exit 0)))
 (.block 1 (.rg [Im 14 3, Iai 15 14 1, Im 3 15])))))
 (.seq (.rg [Im 16 3, Im 2 16])
 .ret)))⟩
theorem ck180:chkFn Tryz.prog 180 ir180=true:=by kernel_rfl
def ir181 : AFn := ⟨39, 1, [.t 2], .seq (.rg [Imv 2 0])
 (.seq (.seq (.rg [Im 5 0, Io 6 (.bs .eql (.t 5) (.k (.str []))), Im 7 6, Fm 8 7 0, Jf 9 7 (.ixs (.t 8) (.k (.int .i64 0))), Jf 10 7 (.bi .neq .u8 (.t 9) (.k (.int .u8 101))), Fm 11 7 10, Jm 12 11 0, Jt 13 11 (.ixs (.t 12) (.k (.int .i64 0))), Jt 14 11 (.bi .neq .u8 (.t 13) (.k (.int .u8 69))), Jf 15 7 (.pick (.t 11) (.t 14) (.k (.bool false))), Ipt 16 7 15])
 (.cond (.t 16) (.seq (.rg [Imv 2 0])
 .ret) .skip))
 (.seq (.rg [Imv 3 1])
 (.seq (.seq (.rg [Im 17 0, Ils 18 17, Igi 19 18 1, Im 20 19, Jm 21 20 0, Jt 22 20 (.ixs (.t 21) (.k (.int .i64 1))), Jt 23 20 (.bi .eql .u8 (.t 22) (.k (.int .u8 43))), Jm 24 20 23, Fm 25 24 0, Jf 26 24 (.ixs (.t 25) (.k (.int .i64 1))), Jf 27 24 (.bi .eql .u8 (.t 26) (.k (.int .u8 45))), Jt 28 20 (.pick (.t 24) (.k (.bool true)) (.t 27)), Ipf 29 20 28])
 (.cond (.t 29) (.rg [Imv 3 2]) .skip))
 (.seq (.rg [Im 30 0, Im 31 3, Io 32 (.sls (.t 30) (some (.t 31)) none), Io 33 (.call 180 [(.t 32)]), Im 4 33])
 (.seq (.seq (.rg [Im 34 4, Iei 35 34 0])
 (.cond (.t 35) (.seq (.rg [Imv 2 0])
 .ret) .skip))
 (.seq (.rg [Im 36 3, Im 37 4, Iad 38 36 37, Im 2 38])
 .ret))))))⟩
theorem ck181:chkFn Tryz.prog 181 ir181=true:=by kernel_rfl
def ir196 : AFn := ⟨18, 2, [.t 4], .seq (.rg [Io 4 (.mv (.k (.sl .nil 2 [])))])
 (.seq (.rg [Io 5 (.mv (.k (.sl .nil 2 [])))])
 (.seq (.block 0 (.loop [0, 1, 5] (.seq (.seq (.rg [Im 6 0, Io 7 (.call 98 [(.t 6), (.k (.str [64]))])])
 (.cond (.t 7) .skip (.exit 0)))
 (.block 1 (.rg [Im 8 5, Im 9 0, Io 10 (.call 85 [(.t 9)]), Im 11 0, Im 12 1, Io 13 (.call 233 [(.t 11), (.t 12)]), Io 14 (.bld [.str [], .sl .nil 6 []] [(0, 1, (.t 10)), (1, 1, (.t 13))]), Io 15 (.bls 2 1 [.str [], .sl .nil 6 []] [(0, (.t 14))]), Iap 16 2 40 8 15, Im 5 16])))))
 (.seq (.rg [Im 17 5, Im 4 17])
 .ret)))⟩
theorem ck196:chkFn Tryz.prog 196 ir196=true:=by kernel_rfl
def ir206 : AFn := ⟨39, 1, [.c 2 10 true], .seq (.rg [Io 2 (.alloc [.str [], .str [], .int .i64 0, .int .i64 0, .bool false, .int .i64 0, .int .i64 0, .str [], .sl .nil 5 [], .sl .nil 6 []])])
 (.seq (.rg [Im 4 0, Ink 5 4, If 6 0 5, Il 7 1 6, Io 8 (.call 99 [(.t 7)])])
 (.seq (.rg [Im 9 0, Ink 10 9, If 11 0 10, Il 12 1 11, Io 13 (.call 85 [(.t 12)]), Io 14 (.bld [.str [], .str [], .int .i64 0, .int .i64 0, .bool false, .int .i64 0, .int .i64 0, .str [], .sl .nil 5 [], .sl .nil 6 []] [(0, 1, (.t 13))]), Io 3 (.alloc [.str [], .str [], .int .i64 0, .int .i64 0, .bool false, .int .i64 0, .int .i64 0, .str [], .sl .nil 5 [], .sl .nil 6 []]), ⟨none, none, .st 10 (.t 3) (.t 14), []⟩])
 (.seq (.rg [Im 15 0, Ink 16 15, If 17 0 16, Il 18 1 17, Io 19 (.call 84 [(.t 18), (.k (.str [58]))])])
 (.seq (.rg [Im 20 0, Ink 21 20, If 22 0 21, Il 23 1 22, Io 24 (.call 38 [(.t 23)]), If 25 1 3, ⟨none, none, .st 3 (.t 25) (.t 24), []⟩])
 (.seq (.seq (.rg [Im 26 0, Ink 27 26, If 28 0 27, Il 29 1 28, Io 30 (.call 98 [(.t 29), (.k (.str [61]))])])
 (.cond (.t 30) (.rg [Im 31 0, Ink 32 31, If 33 0 32, Il 34 1 33, Io 35 (.call 33 [(.t 34), (.k (.bool true))]), If 36 4 3, ⟨none, none, .st 1 (.t 36) (.k (.bool true)), []⟩, If 37 5 3, ⟨none, none, .st 5 (.t 37) (.t 35), []⟩]) .skip))
 (.seq (.rg [Ilb 38 10 3, ⟨none, none, .st 10 (.t 2) (.t 38), []⟩])
 .ret))))))⟩
theorem ck206:chkFn Tryz.prog 206 ir206=true:=by kernel_rfl
def ir208 : AFn := ⟨27, 3, [], .seq (.rg [Ibx 3 0])
 (.seq (.rg [Im 8 2, Iln 9 8, Imv 10 0])
 (.block 0 (.loop [1, 3, 8, 9, 10] (.seq (.rg [Ilt 11 10 9])
 (.seq (.cond (.t 11) .skip (.exit 0))
 (.seq (.block 1 (.seq (.rg [Im 12 10, Iia 13 1 8 10, Il 14 1 13, Im 6 12, Im 7 14])
 (.seq (.seq (.rg [Im 15 6, Igi 16 15 0])
 (.cond (.t 16) (.rg [If 17 0 3, Il 18 1 17, Im 19 1, Io 20 (.bls 1 1 [.str []] [(0, (.t 19))]), Io 21 (.call 113 [(.t 18), (.t 20)])]) .skip))
 (.rg [If 22 0 3, Il 23 1 22, Im 24 7, Io 25 (.call 112 [(.t 23), (.t 24)])]))))
 (.rg [Iai 26 10 1, Im 10 26])))))))⟩
theorem ck208:chkFn Tryz.prog 208 ir208=true:=by kernel_rfl
def ir209 : AFn := ⟨48, 2, [], .seq (.rg [Ibx 2 0])
 (.seq (.rg [Im 6 1, Iln 7 6, Imv 8 0])
 (.block 0 (.loop [2, 6, 7, 8] (.seq (.rg [Ilt 9 8 7])
 (.seq (.cond (.t 9) .skip (.exit 0))
 (.seq (.block 1 (.seq (.rg [Iia 10 6 6 8, Ilb 11 6 10, Io 5 (.alloc [.str [], .sl .nil 10 [], .str [], .int .i64 0, .int .i64 0, .sl .nil 2 []]), ⟨none, none, .st 6 (.t 5) (.t 11), []⟩])
 (.seq (.rg [If 12 0 2, Il 13 1 12, If 14 0 5, Il 15 1 14, Io 16 (.call 112 [(.t 13), (.t 15)])])
 (.seq (.seq (.rg [If 17 1 5, Il 18 1 17, Iln 19 18, Igi 20 19 0])
 (.cond (.t 20) (.seq (.rg [If 21 0 2, Il 22 1 21, Io 23 (.bls 1 1 [.str []] [(0, (.k (.str [40])))]), Io 24 (.call 113 [(.t 22), (.t 23)])])
 (.seq (.rg [Ilb 25 1 2, If 26 1 5, Il 27 1 26, Io 28 (.call 168 [(.t 25), (.t 27)])])
 (.rg [If 29 0 2, Il 30 1 29, Io 31 (.bls 1 1 [.str []] [(0, (.k (.str [41])))]), Io 32 (.call 113 [(.t 30), (.t 31)])]))) .skip))
 (.seq (.rg [If 33 0 2, Il 34 1 33, Io 35 (.bls 1 1 [.str []] [(0, (.k (.str [58])))]), Io 36 (.call 113 [(.t 34), (.t 35)])])
 (.seq (.rg [If 37 0 2, Il 38 1 37, If 39 2 5, Ilb 40 3 39, Io 41 (.call 210 [(.t 38), (.t 40)])])
 (.rg [If 42 0 2, Il 43 1 42, If 44 5 5, Il 45 1 44, Io 46 (.call 242 [(.t 43), (.k (.bool true)), (.t 45)])])))))))
 (.rg [Iai 47 8 1, Im 8 47])))))))⟩
theorem ck209:chkFn Tryz.prog 209 ir209=true:=by kernel_rfl
def ir210 : AFn := ⟨48, 2, [], .seq (.rg [Ibx 3 1])
 (.seq (.rg [Im 5 0, Ilb 6 3 3, Io 7 (.call 243 [(.t 6)]), Io 8 (.call 165 [(.t 5), (.t 7)])])
 (.seq (.seq (.rg [Im 9 0, Ink 10 9, If 11 1 10, Il 12 1 11, Ing 13 12])
 (.cond (.t 13) .ret .skip))
 (.seq (.seq (.rg [If 14 1 3, Il 15 1 14, Imv 16 0])
 (.block 0 (.loop [0, 3, 15, 16] (.seq (.rg [Ilt 17 16 15])
 (.seq (.cond (.t 17) .skip (.exit 0))
 (.seq (.block 1 (.rg [Im 18 0, Io 19 (.bls 1 1 [.str []] [(0, (.k (.str [91])))]), Io 20 (.call 113 [(.t 18), (.t 19)])]))
 (.rg [Iai 21 16 1, Im 16 21])))))))
 (.seq (.rg [Im 22 0, If 23 0 3, Il 24 1 23, Io 25 (.call 112 [(.t 22), (.t 24)])])
 (.seq (.rg [If 26 1 3, Il 27 1 26, Im 4 27])
 (.block 2 (.loop [0, 3, 4] (.seq (.seq (.rg [Im 28 4, Io 29 (.bi .geq .i64 (.t 28) (.k (.int .i64 0)))])
 (.cond (.t 29) .skip (.exit 2)))
 (.seq (.block 3 (.seq (.seq (.rg [Im 32 4, If 33 1 3, Il 34 1 33, Ilt 35 32 34])
 (.cond (.t 35) (.rg [Im 36 0, Io 37 (.bls 1 1 [.str []] [(0, (.k (.str [93])))]), Io 38 (.call 113 [(.t 36), (.t 37)])]) .skip))
 (.seq (.rg [If 39 2 3, Il 40 1 39, Im 41 4, Io 42 (.shf .shr (.t 40) (.t 41)), Io 43 (.bi .and .i64 (.t 42) (.k (.int .i64 1))), Iei 44 43 1])
 (.cond (.t 44) (.rg [Im 45 0, Io 46 (.bls 1 1 [.str []] [(0, (.k (.str [33])))]), Io 47 (.call 113 [(.t 45), (.t 46)])]) .skip))))
 (.rg [Im 30 4, Isi 31 30 1, Im 4 31]))))))))))⟩
theorem ck210:chkFn Tryz.prog 210 ir210=true:=by kernel_rfl
def ir211 : AFn := ⟨19, 3, [], .seq (.rg [Ibx 5 2])
 (.seq (.seq (.rg [Im 6 1, Ing 7 6])
 (.cond (.t 7) (.seq (.rg [Im 8 0, Ilb 9 5 5, Io 10 (.bld [.int .i64 0, .int .i64 0, .str [], .sl .nil 5 [], .sl .nil 6 []] []), Io 11 (.call 244 [(.t 9), (.t 10)]), Io 12 (.call 165 [(.t 8), (.t 11)])])
 .ret) .skip))
 (.seq (.rg [Im 13 0, Io 14 (.bls 1 1 [.str []] [(0, (.k (.str [61])))]), Io 15 (.call 113 [(.t 13), (.t 14)])])
 (.rg [Im 16 0, Ilb 17 5 5, Io 18 (.call 245 [(.t 16), (.t 17), (.k (.bool true))])])))⟩
theorem ck211:chkFn Tryz.prog 211 ir211=true:=by kernel_rfl
def ir216 : AFn := ⟨57, 1, [.t 2], .seq (.rg [Io 2 (.mv (.k (.sl .nil 1 [])))])
 (.seq (.rg [Io 3 (.mv (.k (.sl .nil 1 [])))])
 (.seq (.rg [Imv 4 0])
 (.seq (.seq (.rg [Imv 5 0])
 (.block 0 (.loop [0, 3, 4, 5] (.seq (.seq (.rg [Im 6 5, Im 7 0, Ils 8 7, Ilt 9 6 8])
 (.cond (.t 9) .skip (.exit 0)))
 (.seq (.block 1 (.seq (.seq (.rg [Im 12 0, Im 13 5, Io 14 (.ixs (.t 12) (.t 13)), Io 15 (.bi .neq .u8 (.t 14) (.k (.int .u8 10))), Im 16 15, Jm 17 16 0, Jm 18 16 5, Jt 19 16 (.ixs (.t 17) (.t 18)), Jt 20 16 (.bi .neq .u8 (.t 19) (.k (.int .u8 13))), Ipf 21 16 20])
 (.cond (.t 21) (.exit 1) .skip))
 (.seq (.rg [Im 22 3, Im 23 0, Im 24 4, Im 25 5, Io 26 (.sls (.t 23) (some (.t 24)) (some (.t 25))), Io 27 (.bls 1 1 [.str []] [(0, (.t 26))]), Io 28 (.appm 1 16 [.str []] (.t 22) (.t 27)), Im 3 28])
 (.seq (.seq (.rg [Im 29 0, Im 30 5, Io 31 (.ixs (.t 29) (.t 30)), Io 32 (.bi .eql .u8 (.t 31) (.k (.int .u8 13))), Im 33 32, Jm 34 33 5, Jt 35 33 (.bi .add .i64 (.t 34) (.k (.int .i64 1))), Jm 36 33 0, Jt 37 33 (.lens (.t 36)), Jt 38 33 (.bi .lss .i64 (.t 35) (.t 37)), Ipf 39 33 38, Im 40 39, Jm 41 40 0, Jm 42 40 5, Jt 43 40 (.bi .add .i64 (.t 42) (.k (.int .i64 1))), Jt 44 40 (.ixs (.t 41) (.t 43)), Jt 45 40 (.bi .eql .u8 (.t 44) (.k (.int .u8 10))), Ipf 46 40 45])
 (.cond (.t 46) (.rg [Im 47 5, Iai 48 47 1, Im 5 48]) .skip))
 (.rg [Im 49 5, Iai 50 49 1, Im 4 50])))))
 (.rg [Im 10 5, Iai 11 10 1, Im 5 11]))))))
 (.seq (.rg [Im 51 3, Im 52 0, Im 53 4, Io 54 (.sls (.t 52) (some (.t 53)) none), Io 55 (.bls 1 1 [.str []] [(0, (.t 54))]), Io 56 (.appm 1 16 [.str []] (.t 51) (.t 55)), Im 2 56])
 .ret))))⟩
theorem ck216:chkFn Tryz.prog 216 ir216=true:=by kernel_rfl
def ir217 : AFn := ⟨36, 1, [.t 2], .seq (.rg [Imv 2 0])
 (.scope (.seq (.rg [Io 3 (.mv (.k (.int .i64 (-1))))])
 (.seq .skip
 (.seq (.seq (.rg [Im 8 0, Iln 9 8, Imv 10 0])
 (.block 0 (.loop [3, 8, 9, 10] (.seq (.rg [Ilt 11 10 9])
 (.seq (.cond (.t 11) .skip (.exit 0))
 (.seq (.block 1 (.seq (.rg [Im 12 10, Iia 13 1 8 10, Il 14 1 13, Im 4 12, Im 5 14])
 (.seq (.rg [Im 16 5, Io 17 (.call 246 [(.t 16)]), Im 15 17, Iex 18 15 0, Iex 19 15 1, Im 6 18, Im 7 19])
 (.seq (.seq (.rg [Im 20 4, Iei 21 20 0, Im 22 21, Fm 23 22 7, Jf 24 22 (.not (.t 23)), Ipt 25 22 24])
 (.cond (.t 25) (.exit 1) .skip))
 (.seq (.rg [Im 26 3, Io 27 (.bi .lss .i64 (.t 26) (.k (.int .i64 0))), Im 28 27, Fm 29 28 6, Fm 30 28 3, Jf 31 28 (.bi .lss .i64 (.t 29) (.t 30)), Ipt 32 28 31])
 (.cond (.t 32) (.rg [Im 33 6, Im 3 33]) .skip))))))
 (.rg [Iai 34 10 1, Im 10 34])))))))
 (.seq (.rg [Im 35 3, Im 2 35])
 .ret)))))⟩
theorem ck217:chkFn Tryz.prog 217 ir217=true:=by kernel_rfl
def ir218 : AFn := ⟨12, 1, [.t 2], .seq (.rg [Imb 2 false])
 (.seq (.rg [Im 6 0, Io 7 (.call 246 [(.t 6)]), Im 5 7, Iex 8 5 0, Iex 9 5 1, Im 3 8, Im 4 9])
 (.seq (.rg [Im 10 4, Ing 11 10, Im 2 11])
 .ret))⟩
theorem ck218:chkFn Tryz.prog 218 ir218=true:=by kernel_rfl
def ir219 : AFn := ⟨44, 1, [.t 2, .t 3], .seq (.rg [Imv 2 0, Imb 3 false])
 (.seq (.seq (.rg [Im 7 0, Ils 8 7, Io 9 (.bi .lss .i64 (.t 8) (.k (.int .i64 4)))])
 (.cond (.t 9) (.seq (.rg [Imv 2 0, Imb 3 false])
 .ret) .skip))
 (.seq (.rg [Imv 4 0])
 (.seq (.seq (.rg [Imv 10 0])
 (.block 0 (.loop [0, 4, 10] (.seq (.rg [Io 11 (.bi .lss .i64 (.t 10) (.k (.int .i64 4)))])
 (.seq (.cond (.t 11) .skip (.exit 0))
 (.seq (.block 1 (.seq (.rg [Im 12 10, Im 5 12])
 (.seq (.rg [Im 13 0, Im 14 5, Io 15 (.ixs (.t 13) (.t 14)), Io 16 (.bi .or .u8 (.t 15) (.k (.int .u8 32))), Io 17 (.call 122 [(.k (.str [48, 49, 50, 51, 52, 53, 54, 55, 56, 57, 97, 98, 99, 100, 101, 102])), (.t 16)]), Im 6 17])
 (.seq (.seq (.rg [Im 18 6, Io 19 (.bi .lss .i64 (.t 18) (.k (.int .i64 0))), Im 20 19, Fm 21 20 0, Fm 22 20 5, Jf 23 20 (.ixs (.t 21) (.t 22)), Jf 24 20 (.bi .lss .u8 (.t 23) (.k (.int .u8 48))), Ipt 25 20 24, Im 26 25, Fm 27 26 0, Fm 28 26 5, Jf 29 26 (.ixs (.t 27) (.t 28)), Jf 30 26 (.bi .gtr .u8 (.t 29) (.k (.int .u8 57))), Fm 31 26 30, Jm 32 31 0, Jm 33 31 5, Jt 34 31 (.ixs (.t 32) (.t 33)), Jt 35 31 (.bi .lss .u8 (.t 34) (.k (.int .u8 65))), Jf 36 26 (.pick (.t 31) (.t 35) (.k (.bool false))), Ipt 37 26 36])
 (.cond (.t 37) (.seq (.rg [Imv 2 0, Imb 3 false])
 .ret) .skip))
 (.rg [Im 38 4, Io 39 (.bi .mul .i64 (.k (.int .i64 16)) (.t 38)), Im 40 6, Iad 41 39 40, Im 4 41])))))
 (.rg [Iai 42 10 1, Im 10 42])))))))
 (.seq (.rg [Im 43 4, Im 2 43, Imb 3 true])
 .ret))))⟩
theorem ck219:chkFn Tryz.prog 219 ir219=true:=by kernel_rfl
def ir220 : AFn := ⟨75, 1, [.t 2, .t 3], .seq (.rg [Io 2 (.mv (.k (.str []))), Imb 3 false])
 (.seq (.rg [Io 4 (.mv (.k (.sl .nil 1 [])))])
 (.seq (.seq (.rg [Imv 5 0])
 (.block 0 (.loop [0, 4, 5] (.seq (.seq (.rg [Im 7 5, Im 8 0, Iln 9 8, Ilt 10 7 9])
 (.cond (.t 10) .skip (.exit 0)))
 (.seq (.block 1 (.seq (.rg [Im 13 0, Im 14 5, Iia 15 1 13 14, Il 16 1 15, Im 6 16])
 (.seq (.block 2 (.seq (.rg [Im 18 6, Io 19 (.bi .lss .i64 (.t 18) (.k (.int .i64 0))), Im 20 19, Fm 21 20 6, Jf 22 20 (.bi .gtr .i64 (.t 21) (.k (.int .i64 65535))), Ipt 23 20 22, Im 24 23, Fm 25 24 6, Jf 26 24 (.bi .geq .i64 (.t 25) (.k (.int .i64 56320))), Fm 27 24 26, Jm 28 27 6, Jt 29 27 (.bi .leq .i64 (.t 28) (.k (.int .i64 57343))), Jf 30 24 (.pick (.t 27) (.t 29) (.k (.bool false))), Ipt 31 24 30, Im 17 31])
 (.cond (.t 17) (.seq (.rg [Io 2 (.mv (.k (.str []))), Imb 3 false])
 .ret) (.seq (.rg [Im 33 6, Io 34 (.bi .geq .i64 (.t 33) (.k (.int .i64 55296))), Im 35 34, Jm 36 35 6, Jt 37 35 (.bi .lss .i64 (.t 36) (.k (.int .i64 56320))), Ipf 38 35 37, Im 32 38])
 (.cond (.t 32) (.seq (.rg [Im 39 5, Iai 40 39 1, Im 5 40])
 (.seq (.seq (.rg [Im 41 5, Im 42 0, Iln 43 42, Io 44 (.bi .eql .i64 (.t 41) (.t 43)), Im 45 44, Fm 46 45 0, Fm 47 45 5, Jf 48 45 (.ia 1 (.t 46) (.t 47)), Fl 49 45 1 48, Jf 50 45 (.bi .lss .i64 (.t 49) (.k (.int .i64 56320))), Ipt 51 45 50, Im 52 51, Fm 53 52 0, Fm 54 52 5, Jf 55 52 (.ia 1 (.t 53) (.t 54)), Fl 56 52 1 55, Jf 57 52 (.bi .gtr .i64 (.t 56) (.k (.int .i64 57343))), Ipt 58 52 57])
 (.cond (.t 58) (.seq (.rg [Io 2 (.mv (.k (.str []))), Imb 3 false])
 .ret) .skip))
 (.rg [Im 59 6, Isi 60 59 55296, Io 61 (.bi .mul .i64 (.k (.int .i64 1024)) (.t 60)), Io 62 (.bi .add .i64 (.k (.int .i64 65536)) (.t 61)), Im 63 0, Im 64 5, Iia 65 1 63 64, Il 66 1 65, Iad 67 62 66, Isi 68 67 56320, Im 6 68]))) .skip)))))
 (.rg [Im 69 4, Im 70 6, Io 71 (.cvi .i32 (.t 70)), Io 72 (.call 247 [(.t 69), (.t 71)]), Im 4 72]))))
 (.rg [Im 11 5, Iai 12 11 1, Im 5 12]))))))
 (.seq (.rg [Im 73 4, Io 74 (.cvb2s (.t 73)), Im 2 74, Imb 3 true])
 .ret)))⟩
theorem ck220:chkFn Tryz.prog 220 ir220=true:=by kernel_rfl
def ir233 : AFn := ⟨23, 2, [.t 4], .seq (.rg [Io 4 (.mv (.k (.sl .nil 6 [])))])
 (.seq (.seq (.rg [Im 6 0, Io 7 (.call 98 [(.t 6), (.k (.str [40]))]), Ing 8 7])
 (.cond (.t 8) (.seq (.rg [Io 4 (.mv (.k (.sl .nil 6 [])))])
 .ret) .skip))
 (.seq (.rg [Im 9 0, Im 10 1, Io 11 (.call 83 [(.t 9), (.t 10)]), Io 12 (.bls 6 1 [.str [], .int .i64 0, .int .i64 0, .str [], .sl .nil 5 [], .sl .nil 6 []] [(0, (.t 11))]), Im 5 12])
 (.seq (.block 0 (.loop [0, 1, 5] (.seq (.seq (.rg [Im 13 0, Io 14 (.call 98 [(.t 13), (.k (.str [41]))]), Ing 15 14])
 (.cond (.t 15) .skip (.exit 0)))
 (.block 1 (.rg [Im 16 5, Im 17 0, Im 18 1, Io 19 (.call 83 [(.t 17), (.t 18)]), Io 20 (.bls 6 1 [.str [], .int .i64 0, .int .i64 0, .str [], .sl .nil 5 [], .sl .nil 6 []] [(0, (.t 19))]), Iap 21 6 96 16 20, Im 5 21])))))
 (.seq (.rg [Im 22 5, Im 4 22])
 .ret))))⟩
theorem ck233:chkFn Tryz.prog 233 ir233=true:=by kernel_rfl
def ir242 : AFn := ⟨27, 3, [], .seq (.rg [Im 8 2, Iln 9 8, Imv 10 0])
 (.block 0 (.loop [0, 1, 8, 9, 10] (.seq (.rg [Ilt 11 10 9])
 (.seq (.cond (.t 11) .skip (.exit 0))
 (.seq (.block 1 (.seq (.rg [Iia 12 2 8 10, Ilb 13 2 12, Io 7 (.alloc [.str [], .sl .nil 6 []]), ⟨none, none, .st 2 (.t 7) (.t 13), []⟩])
 (.seq (.rg [Im 14 0, Io 15 (.bls 1 1 [.str []] [(0, (.k (.str [64])))]), Io 16 (.call 113 [(.t 14), (.t 15)])])
 (.seq (.rg [Im 17 0, If 18 0 7, Il 19 1 18, Io 20 (.call 112 [(.t 17), (.t 19)])])
 (.rg [Im 21 0, Im 22 1, If 23 1 7, Il 24 1 23, Io 25 (.call 261 [(.t 21), (.t 22), (.t 24)])])))))
 (.rg [Iai 26 10 1, Im 10 26]))))))⟩
theorem ck242:chkFn Tryz.prog 242 ir242=true:=by kernel_rfl
def ir243 : AFn := ⟨30, 1, [.t 2], .seq (.rg [Ibx 1 0, Imb 2 false])
 (.seq (.rg [If 3 0 1, Il 4 1 3, Io 5 (.call 128 [(.t 4)]), Im 6 5, Ja 7 6 1 1, Jl 8 6 1 7, Jt 9 6 (.bi .geq .i64 (.t 8) (.k (.int .i64 0))), Ipf 10 6 9, Im 11 10, Ja 12 11 1 1, Jl 13 11 1 12, Jt 14 11 (.bi .leq .i64 (.t 13) (.k (.int .i64 4))), Ipf 15 11 14, Im 16 15, Ja 17 16 2 1, Jl 18 16 1 17, Jt 19 16 (.bi .geq .i64 (.t 18) (.k (.int .i64 0))), Ipf 20 16 19, Im 21 20, Ja 22 21 2 1, Jl 23 21 1 22, Ja 24 21 1 1, Jl 25 21 1 24, Jt 26 21 (.bi .add .i64 (.t 25) (.k (.int .i64 1))), Jt 27 21 (.shf .shr (.t 23) (.t 26)), Jt 28 21 (.bi .eql .i64 (.t 27) (.k (.int .i64 0))), Ipf 29 21 28, Im 2 29])
 .ret)⟩
theorem ck243:chkFn Tryz.prog 243 ir243=true:=by kernel_rfl
def ir244 : AFn := ⟨38, 2, [.t 4], .seq (.rg [Ibx 2 0, Ibx 3 1, Imb 4 false])
 (.seq (.rg [If 5 0 2, Il 6 1 5, If 7 0 3, Il 8 1 7, Io 9 (.bi .eql .i64 (.t 6) (.t 8)), Im 10 9, Ja 11 10 1 2, Jl 12 10 1 11, Ja 13 10 1 3, Jl 14 10 1 13, Jt 15 10 (.bi .eql .i64 (.t 12) (.t 14)), Ipf 16 10 15, Im 17 16, Ja 18 17 2 2, Jl 19 17 1 18, Ja 20 17 2 3, Jl 21 17 1 20, Jt 22 17 (.bs .eql (.t 19) (.t 21)), Ipf 23 17 22, Im 24 23, Ja 25 24 3 2, Jl 26 24 1 25, Ja 27 24 3 3, Jl 28 24 1 27, Jt 29 24 (.call 262 [(.t 26), (.t 28), (.k (.clo 244 [] []))]), Ipf 30 24 29, Im 31 30, Ja 32 31 4 2, Jl 33 31 1 32, Ja 34 31 4 3, Jl 35 31 1 34, Jt 36 31 (.call 263 [(.t 33), (.t 35), (.k (.clo 264 [] []))]), Ipf 37 31 36, Im 4 37])
 .ret)⟩
theorem ck244:chkFn Tryz.prog 244 ir244=true:=by kernel_rfl
def ir245 : AFn := ⟨45, 3, [], .seq (.rg [Ibx 4 1])
 (.seq (.rg [Ilb 9 5 4, Io 10 (.call 265 [(.t 9)]), Im 8 10, Iex 11 8 0, Iex 12 8 1, Im 6 11, Im 7 12])
 (.seq (.reg [0, 1, 2, 3, 4, 5, 6, 7, 8, 9, 10, 11, 12, 13, 14, 15, 16, 17, 18, 19, 20, 21, 22] [Im 13 0, Im 14 7, Im 15 14, Jm 16 15 0, Jt 17 15 (.nilchk (.t 16)), Ja 18 15 2 17, Jl 19 15 1 18, Jt 20 15 (.ld 5 true (.t 4)), ⟨some 21, (some (15, true)), .call 266 [(.t 20)], [6]⟩, Jt 22 15 (.bi .add .i64 (.t 19) (.t 21)), Jt 23 15 (.bi .leq .i64 (.t 22) (.k (.int .i64 16))), Ipf 24 15 23, Im 25 24, Jm 26 25 2, Jm 27 25 26, Jt 28 27 (.ld 5 true (.t 4)), Jt 29 27 (.call 267 [(.t 28)]), Jt 30 27 (.len (.t 29)), Jt 31 27 (.bi .gtr .i64 (.t 30) (.k (.int .i64 0))), Jt 32 25 (.pick (.t 27) (.t 31) (.k (.bool false))), Jt 33 25 (.not (.t 32)), Ipf 34 25 33, Io 35 (.call 165 [(.t 13), (.t 34)])])
 (.rg [Im 36 0, Im 37 0, Ink 38 37, If 39 0 38, Il 40 1 39, Im 41 6, Iap 42 2 24 40 41, Ink 43 36, If 44 0 43, ⟨none, none, .st 1 (.t 44) (.t 42), []⟩])))⟩
theorem ck245:chkFn Tryz.prog 245 ir245=true:=by kernel_rfl
def ir246 : AFn := ⟨24, 1, [.t 2, .t 3], .seq (.rg [Imv 2 0, Imb 3 false])
 (.seq (.seq (.rg [Im 5 0, Ils 6 5, Imv 7 0])
 (.block 0 (.loop [0, 6, 7] (.seq (.rg [Ilt 8 7 6])
 (.seq (.cond (.t 8) .skip (.exit 0))
 (.seq (.block 1 (.seq (.rg [Im 9 7, Im 4 9])
 (.seq (.rg [Im 10 0, Im 11 4, Io 12 (.ixs (.t 10) (.t 11)), Io 13 (.bi .neq .u8 (.t 12) (.k (.int .u8 9))), Im 14 13, Jm 15 14 0, Jm 16 14 4, Jt 17 14 (.ixs (.t 15) (.t 16)), Jt 18 14 (.bi .neq .u8 (.t 17) (.k (.int .u8 32))), Ipf 19 14 18])
 (.cond (.t 19) (.seq (.rg [Im 20 4, Im 2 20, Imb 3 true])
 .ret) .skip))))
 (.rg [Iai 21 7 1, Im 7 21])))))))
 (.seq (.rg [Im 22 0, Ils 23 22, Im 2 23, Imb 3 false])
 .ret))⟩
theorem ck246:chkFn Tryz.prog 246 ir246=true:=by kernel_rfl
def ir247 : AFn := ⟨16, 2, [.t 4], .seq (.rg [Io 4 (.mv (.k (.sl .nil 1 [])))])
 (.seq (.seq (.rg [Im 5 1, Io 6 (.cvi .u32 (.t 5)), Io 7 (.bi .leq .u32 (.t 6) (.k (.int .u32 127)))])
 (.cond (.t 7) (.seq (.rg [Im 8 0, Im 9 1, Io 10 (.cvi .u8 (.t 9)), Io 11 (.bls 1 1 [.int .u8 0] [(0, (.t 10))]), Iap 12 1 1 8 11, Im 4 12])
 .ret) .skip))
 (.seq (.rg [Im 13 0, Im 14 1, Io 15 (.call 268 [(.t 13), (.t 14)]), Im 4 15])
 .ret))⟩
theorem ck247:chkFn Tryz.prog 247 ir247=true:=by kernel_rfl
def ir261 : AFn := ⟨36, 3, [], .seq (.seq (.rg [Im 8 2, Iln 9 8, Iei 10 9 0])
 (.cond (.t 10) .ret .skip))
 (.seq (.rg [Im 11 0, Io 12 (.bls 1 1 [.str []] [(0, (.k (.str [40])))]), Io 13 (.call 113 [(.t 11), (.t 12)])])
 (.seq (.seq (.rg [Im 14 2, Iln 15 14, Imv 16 0])
 (.block 0 (.loop [0, 1, 14, 15, 16] (.seq (.rg [Ilt 17 16 15])
 (.seq (.cond (.t 17) .skip (.exit 0))
 (.seq (.block 1 (.seq (.rg [Iia 18 6 14 16, Ilb 19 6 18, Io 7 (.alloc [.str [], .int .i64 0, .int .i64 0, .str [], .sl .nil 5 [], .sl .nil 6 []]), ⟨none, none, .st 6 (.t 7) (.t 19), []⟩])
 (.seq (.rg [Im 20 0, If 21 0 7, Il 22 1 21, Io 23 (.call 112 [(.t 20), (.t 22)])])
 (.seq (.rg [Im 24 0, Io 25 (.bls 1 1 [.str []] [(0, (.k (.str [58])))]), Io 26 (.call 113 [(.t 24), (.t 25)])])
 (.rg [Im 27 0, If 28 1 7, Ilb 29 5 28, Im 30 1, Io 31 (.call 245 [(.t 27), (.t 29), (.t 30)])])))))
 (.rg [Iai 32 16 1, Im 16 32])))))))
 (.rg [Im 33 0, Io 34 (.bls 1 1 [.str []] [(0, (.k (.str [41])))]), Io 35 (.call 113 [(.t 33), (.t 34)])])))⟩
theorem ck261:chkFn Tryz.prog 261 ir261=true:=by kernel_rfl
def ir262 : AFn := ⟨32, 3, [.t 6], .seq (.rg [Imb 6 false])
 (.seq (.seq (.rg [Im 10 0, Iln 11 10, Im 12 1, Iln 13 12, Io 14 (.bi .neq .i64 (.t 11) (.t 13))])
 (.cond (.t 14) (.seq (.rg [Imb 6 false])
 .ret) .skip))
 (.seq (.seq (.rg [Im 15 0, Iln 16 15, Imv 17 0])
 (.block 0 (.loop [1, 2, 15, 16, 17] (.seq (.rg [Ilt 18 17 16])
 (.seq (.cond (.t 18) .skip (.exit 0))
 (.seq (.block 1 (.seq (.rg [Im 19 17, Iia 20 5 15 17, Ilb 21 5 20, Io 8 (.alloc [.int .i64 0, .int .i64 0, .str [], .sl .nil 5 [], .sl .nil 6 []]), Im 7 19, ⟨none, none, .st 5 (.t 8) (.t 21), []⟩])
 (.seq (.rg [Im 22 1, Im 23 7, Iia 24 5 22 23, Ilb 25 5 24, Io 9 (.alloc [.int .i64 0, .int .i64 0, .str [], .sl .nil 5 [], .sl .nil 6 []]), ⟨none, none, .st 5 (.t 9) (.t 25), []⟩])
 (.seq (.rg [Im 26 2, Ilb 27 5 8, Ilb 28 5 9, Io 29 (.callv (.t 26) [(.t 27), (.t 28)]), Ing 30 29])
 (.cond (.t 30) (.seq (.rg [Imb 6 false])
 .ret) .skip)))))
 (.rg [Iai 31 17 1, Im 17 31])))))))
 (.seq (.rg [Imb 6 true])
 .ret)))⟩
theorem ck262:chkFn Tryz.prog 262 ir262=true:=by kernel_rfl
def ir263 : AFn := ⟨32, 3, [.t 6], .seq (.rg [Imb 6 false])
 (.seq (.seq (.rg [Im 10 0, Iln 11 10, Im 12 1, Iln 13 12, Io 14 (.bi .neq .i64 (.t 11) (.t 13))])
 (.cond (.t 14) (.seq (.rg [Imb 6 false])
 .ret) .skip))
 (.seq (.seq (.rg [Im 15 0, Iln 16 15, Imv 17 0])
 (.block 0 (.loop [1, 2, 15, 16, 17] (.seq (.rg [Ilt 18 17 16])
 (.seq (.cond (.t 18) .skip (.exit 0))
 (.seq (.block 1 (.seq (.rg [Im 19 17, Iia 20 6 15 17, Ilb 21 6 20, Io 8 (.alloc [.str [], .int .i64 0, .int .i64 0, .str [], .sl .nil 5 [], .sl .nil 6 []]), Im 7 19, ⟨none, none, .st 6 (.t 8) (.t 21), []⟩])
 (.seq (.rg [Im 22 1, Im 23 7, Iia 24 6 22 23, Ilb 25 6 24, Io 9 (.alloc [.str [], .int .i64 0, .int .i64 0, .str [], .sl .nil 5 [], .sl .nil 6 []]), ⟨none, none, .st 6 (.t 9) (.t 25), []⟩])
 (.seq (.rg [Im 26 2, Ilb 27 6 8, Ilb 28 6 9, Io 29 (.callv (.t 26) [(.t 27), (.t 28)]), Ing 30 29])
 (.cond (.t 30) (.seq (.rg [Imb 6 false])
 .ret) .skip)))))
 (.rg [Iai 31 17 1, Im 17 31])))))))
 (.seq (.rg [Imb 6 true])
 .ret)))⟩
theorem ck263:chkFn Tryz.prog 263 ir263=true:=by kernel_rfl
def ir264 : AFn := ⟨17, 2, [.t 4], .seq (.rg [Ibx 2 0, Ibx 3 1, Imb 4 false])
 (.seq (.rg [If 5 0 2, Il 6 1 5, If 7 0 3, Il 8 1 7, Io 9 (.bs .eql (.t 6) (.t 8)), Im 10 9, Ja 11 10 1 2, Jt 12 10 (.ld 5 true (.t 11)), Ja 13 10 1 3, Jt 14 10 (.ld 5 true (.t 13)), Jt 15 10 (.call 244 [(.t 12), (.t 14)]), Ipf 16 10 15, Im 4 16])
 .ret)⟩
theorem ck264:chkFn Tryz.prog 264 ir264=true:=by kernel_rfl
def ir265 : AFn := ⟨9, 1, [.t 2, .t 3], .seq (.rg [Ibx 1 0, Io 2 (.mv (.k (.sl .nil 2 []))), Imb 3 false])
 (.seq (.seq (.rg [Ilb 4 5 1, Io 5 (.call 274 [(.t 4)]), Ing 6 5])
 (.cond (.t 6) (.seq (.rg [Io 2 (.mv (.k (.sl .nil 2 []))), Imb 3 false])
 .ret) .skip))
 (.seq (.rg [Ilb 7 5 1, Io 8 (.call 275 [(.k (.sl .nil 2 [])), (.t 7)]), Im 2 8, Imb 3 true])
 .ret))⟩
theorem ck265:chkFn Tryz.prog 265 ir265=true:=by kernel_rfl
def ir266 : AFn := ⟨41, 1, [.t 2], .seq (.rg [Ibx 1 0, Imv 2 0])
 (.seq (.rg [Imv 3 0])
 (.seq (.seq (.rg [If 8 0 1, Il 9 1 8])
 (.block 0 (.seq (.rg [Iei 11 9 6, Im 10 11])
 (.cond (.t 10) (.seq (.rg [If 12 3 1, Il 13 1 12, Iln 14 13, Imv 15 0])
 (.block 1 (.loop [3, 13, 14, 15] (.seq (.rg [Ilt 16 15 14])
 (.seq (.cond (.t 16) .skip (.exit 1))
 (.seq (.block 2 (.seq (.rg [Iia 17 5 13 15, Ilb 18 5 17, Io 5 (.alloc [.int .i64 0, .int .i64 0, .str [], .sl .nil 5 [], .sl .nil 6 []]), ⟨none, none, .st 5 (.t 5) (.t 18), []⟩])
 (.rg [Im 19 3, Ilb 20 5 5, Io 21 (.call 266 [(.t 20)]), Io 22 (.mm true (.t 19) [(.t 21)]), Im 3 22])))
 (.rg [Iai 23 15 1, Im 15 23]))))))) (.seq (.rg [Iei 25 9 7, Im 24 25])
 (.cond (.t 24) (.seq (.rg [If 26 4 1, Il 27 1 26, Iln 28 27, Imv 29 0])
 (.block 3 (.loop [3, 27, 28, 29] (.seq (.rg [Ilt 30 29 28])
 (.seq (.cond (.t 30) .skip (.exit 3))
 (.seq (.block 4 (.seq (.rg [Iia 31 6 27 29, Ilb 32 6 31, Io 7 (.alloc [.str [], .int .i64 0, .int .i64 0, .str [], .sl .nil 5 [], .sl .nil 6 []]), ⟨none, none, .st 6 (.t 7) (.t 32), []⟩])
 (.rg [Im 33 3, If 34 1 7, Ilb 35 5 34, Io 36 (.call 266 [(.t 35)]), Io 37 (.mm true (.t 33) [(.t 36)]), Im 3 37])))
 (.rg [Iai 38 29 1, Im 29 38]))))))) (.seq (.rg [Imv 2 0])
 .ret)))))))
 (.seq (.rg [Im 39 3, Iai 40 39 1, Im 2 40])
 .ret)))⟩
theorem ck266:chkFn Tryz.prog 266 ir266=true:=by kernel_rfl
def ir267 : AFn := ⟨5, 1, [.t 2], .seq (.rg [Ibx 1 0, Io 2 (.mv (.k (.sl .nil 1 [])))])
 (.seq (.rg [Ilb 3 5 1, Io 4 (.call 276 [(.k (.sl .nil 1 [])), (.t 3)]), Im 2 4])
 .ret)⟩
theorem ck267:chkFn Tryz.prog 267 ir267=true:=by kernel_rfl
def ir268 : AFn := ⟨78, 2, [.t 4], .seq (.rg [Io 4 (.mv (.k (.sl .nil 1 [])))])
 (.seq (.rg [Im 6 1, Io 7 (.cvi .u32 (.t 6)), Im 5 7])
 (.block 0 (.seq (.rg [Im 12 5, Io 13 (.bi .leq .u32 (.t 12) (.k (.int .u32 2047))), Im 11 13])
 (.cond (.t 11) (.seq (.rg [Im 14 0, Im 15 1, Io 16 (.shf .shr (.t 15) (.k (.int .u64 6))), Io 17 (.cvi .u8 (.t 16)), Io 18 (.bi .or .u8 (.k (.int .u8 192)) (.t 17)), Im 19 1, Io 20 (.cvi .u8 (.t 19)), Io 21 (.bi .and .u8 (.t 20) (.k (.int .u8 63))), Io 22 (.bi .or .u8 (.k (.int .u8 128)) (.t 21)), Io 23 (.bls 1 2 [.int .u8 0] [(0, (.t 18)), (1, (.t 22))]), Iap 24 1 1 14 23, Im 4 24])
 .ret) (.seq (.seq (.rg [Im 26 5, Io 27 (.bi .lss .u32 (.t 26) (.k (.int .u32 55296))), Im 25 27])
 (.cond (.t 25) .skip (.rg [Im 28 5, Io 29 (.bi .lss .u32 (.k (.int .u32 57343)) (.t 28)), Im 30 29, Jm 31 30 5, Jt 32 30 (.bi .leq .u32 (.t 31) (.k (.int .u32 65535))), Ipf 33 30 32, Im 25 33])))
 (.cond (.t 25) (.seq (.rg [Im 34 0, Im 35 1, Io 36 (.shf .shr (.t 35) (.k (.int .u64 12))), Io 37 (.cvi .u8 (.t 36)), Io 38 (.bi .or .u8 (.k (.int .u8 224)) (.t 37)), Im 39 1, Io 40 (.shf .shr (.t 39) (.k (.int .u64 6))), Io 41 (.cvi .u8 (.t 40)), Io 42 (.bi .and .u8 (.t 41) (.k (.int .u8 63))), Io 43 (.bi .or .u8 (.k (.int .u8 128)) (.t 42)), Im 44 1, Io 45 (.cvi .u8 (.t 44)), Io 46 (.bi .and .u8 (.t 45) (.k (.int .u8 63))), Io 47 (.bi .or .u8 (.k (.int .u8 128)) (.t 46)), Io 48 (.bls 1 3 [.int .u8 0] [(0, (.t 38)), (1, (.t 43)), (2, (.t 47))]), Iap 49 1 1 34 48, Im 4 49])
 .ret) (.seq (.rg [Im 51 5, Io 52 (.bi .gtr .u32 (.t 51) (.k (.int .u32 65535))), Im 53 52, Jm 54 53 5, Jt 55 53 (.bi .leq .u32 (.t 54) (.k (.int .u32 1114111))), Ipf 56 53 55, Im 50 56])
 (.cond (.t 50) (.seq (.rg [Im 57 0, Im 58 1, Io 59 (.shf .shr (.t 58) (.k (.int .u64 18))), Io 60 (.cvi .u8 (.t 59)), Io 61 (.bi .or .u8 (.k (.int .u8 240)) (.t 60)), Im 62 1, Io 63 (.shf .shr (.t 62) (.k (.int .u64 12))), Io 64 (.cvi .u8 (.t 63)), Io 65 (.bi .and .u8 (.t 64) (.k (.int .u8 63))), Io 66 (.bi .or .u8 (.k (.int .u8 128)) (.t 65)), Im 67 1, Io 68 (.shf .shr (.t 67) (.k (.int .u64 6))), Io 69 (.cvi .u8 (.t 68)), Io 70 (.bi .and .u8 (.t 69) (.k (.int .u8 63))), Io 71 (.bi .or .u8 (.k (.int .u8 128)) (.t 70)), Im 72 1, Io 73 (.cvi .u8 (.t 72)), Io 74 (.bi .and .u8 (.t 73) (.k (.int .u8 63))), Io 75 (.bi .or .u8 (.k (.int .u8 128)) (.t 74)), Io 76 (.bls 1 4 [.int .u8 0] [(0, (.t 61)), (1, (.t 66)), (2, (.t 71)), (3, (.t 75))]), Iap 77 1 1 57 76, Im 4 77])
 .ret) (.seq (.rg [Im 8 0, Io 9 (.bls 1 3 [.int .u8 0] [(0, (.k (.int .u8 239))), (1, (.k (.int .u8 191))), (2, (.k (.int .u8 189)))]), Iap 10 1 1 8 9, Im 4 10])
 .ret)))))))))⟩
theorem ck268:chkFn Tryz.prog 268 ir268=true:=by kernel_rfl
def ir274 : AFn := ⟨10, 1, [.t 2], .seq (.rg [Ibx 1 0, Imb 2 false])
 (.seq (.rg [Ilb 3 5 1, Io 4 (.call 278 [(.t 3), (.k (.clo 128 [] []))]), Im 5 4, Jt 6 5 (.ld 5 true (.t 1)), Jt 7 5 (.call 266 [(.t 6)]), Jt 8 5 (.bi .leq .i64 (.t 7) (.k (.int .i64 16))), Ipf 9 5 8, Im 2 9])
 .ret)⟩
theorem ck274:chkFn Tryz.prog 274 ir274=true:=by kernel_rfl
def ir275 : AFn := ⟨119, 2, [.t 4], .seq (.rg [Ibx 3 1, Io 4 (.mv (.k (.sl .nil 2 [])))])
 (.seq (.seq (.rg [If 9 0 3, Il 10 1 9])
 (.block 0 (.seq (.rg [Iei 12 10 0, Im 11 12])
 (.cond (.t 11) (.seq (.rg [Im 13 0, Io 14 (.call 279 [(.k (.str [110, 117, 108, 108]))]), Io 15 (.bls 2 1 [.int .i64 0, .str []] [(0, (.t 14))]), Iap 16 2 24 13 15, Im 4 16])
 .ret) (.seq (.rg [Iei 18 10 1, Im 17 18])
 (.cond (.t 17) (.seq (.rg [Im 19 0, If 20 1 3, Il 21 1 20, Iei 22 21 1, Io 23 (.call 280 [(.t 22)]), Io 24 (.call 279 [(.t 23)]), Io 25 (.bls 2 1 [.int .i64 0, .str []] [(0, (.t 24))]), Iap 26 2 24 19 25, Im 4 26])
 .ret) (.seq (.rg [Iei 28 10 2, Im 27 28])
 (.cond (.t 27) (.seq (.rg [Im 29 0, If 30 1 3, Il 31 1 30, Io 32 (.call 281 [(.t 31), (.k (.int .i64 10))]), Io 33 (.bld [.int .i64 0, .str []] [(0, 1, (.k (.int .i64 3))), (1, 1, (.t 32))]), Io 34 (.bls 2 1 [.int .i64 0, .str []] [(0, (.t 33))]), Iap 35 2 24 29 34, Im 4 35])
 .ret) (.seq (.rg [Iei 37 10 3, Im 36 37])
 (.cond (.t 36) (.seq (.reg [0, 1, 2, 4, 5, 3, 6, 7, 8, 9] [Im 38 0, If 39 2 3, Il 40 1 39, If 42 2 3, Il 43 1 42, ⟨some 41, none, .call 129 [(.t 40)], [4]⟩, Io 44 (.bld [.int .i64 0, .str []] [(0, 1, (.t 41)), (1, 1, (.t 43))]), Io 45 (.bls 2 1 [.int .i64 0, .str []] [(0, (.t 44))]), Iap 46 2 24 38 45, Im 4 46])
 .ret) (.seq (.rg [Iei 48 10 4, Im 47 48])
 (.cond (.t 47) (.seq (.rg [Im 49 0, If 50 2 3, Il 51 1 50, Io 52 (.bld [.int .i64 0, .str []] [(0, 1, (.k (.int .i64 5))), (1, 1, (.t 51))]), Io 53 (.bls 2 1 [.int .i64 0, .str []] [(0, (.t 52))]), Iap 54 2 24 49 53, Im 4 54])
 .ret) (.seq (.rg [Iei 56 10 5, Im 55 56])
 (.cond (.t 55) (.seq (.rg [Im 57 0, If 58 2 3, Il 59 1 58, Io 60 (.call 279 [(.t 59)]), Io 61 (.bls 2 1 [.int .i64 0, .str []] [(0, (.t 60))]), Iap 62 2 24 57 61, Im 4 62])
 .ret) (.seq (.rg [Iei 64 10 8, Im 63 64])
 (.cond (.t 63) (.seq (.reg [0, 2, 3, 1, 4, 5, 6, 7] [Im 65 0, If 67 2 3, Il 68 1 67, ⟨some 66, none, .call 282 [(.k (.str [36]))], [2]⟩, Io 69 (.call 279 [(.t 68)]), Io 70 (.bls 2 2 [.int .i64 0, .str []] [(0, (.t 66)), (1, (.t 69))]), Iap 71 2 24 65 70, Im 4 71])
 .ret) (.seq (.rg [Iei 73 10 6, Im 72 73])
 (.cond (.t 72) (.seq (.rg [Im 74 0, Io 75 (.call 282 [(.k (.str [91]))]), Io 76 (.bls 2 1 [.int .i64 0, .str []] [(0, (.t 75))]), Iap 77 2 24 74 76, Im 0 77])
 (.seq (.seq (.rg [If 78 3 3, Il 79 1 78, Iln 80 79, Imv 81 0])
 (.block 1 (.loop [0, 79, 80, 81] (.seq (.rg [Ilt 82 81 80])
 (.seq (.cond (.t 82) .skip (.exit 1))
 (.seq (.block 2 (.seq (.rg [Iia 83 5 79 81, Ilb 84 5 83, Io 6 (.alloc [.int .i64 0, .int .i64 0, .str [], .sl .nil 5 [], .sl .nil 6 []]), ⟨none, none, .st 5 (.t 6) (.t 84), []⟩])
 (.rg [Im 85 0, Ilb 86 5 6, Io 87 (.call 275 [(.t 85), (.t 86)]), Im 0 87])))
 (.rg [Iai 88 81 1, Im 81 88])))))))
 (.seq (.rg [Im 89 0, Io 90 (.call 282 [(.k (.str [93]))]), Io 91 (.bls 2 1 [.int .i64 0, .str []] [(0, (.t 90))]), Iap 92 2 24 89 91, Im 4 92])
 .ret))) .skip))))))))))))))))))
 (.seq (.rg [Im 93 0, Io 94 (.call 282 [(.k (.str [123]))]), Io 95 (.bls 2 1 [.int .i64 0, .str []] [(0, (.t 94))]), Iap 96 2 24 93 95, Im 0 96])
 (.seq (.seq (.rg [If 97 4 3, Il 98 1 97, Iln 99 98, Imv 100 0])
 (.block 3 (.loop [0, 98, 99, 100] (.seq (.rg [Ilt 101 100 99])
 (.seq (.cond (.t 101) .skip (.exit 3))
 (.seq (.block 4 (.seq (.rg [Iia 102 6 98 100, Ilb 103 6 102, Io 8 (.alloc [.str [], .int .i64 0, .int .i64 0, .str [], .sl .nil 5 [], .sl .nil 6 []]), ⟨none, none, .st 6 (.t 8) (.t 103), []⟩])
 (.reg [0, 1, 2, 7, 8, 3, 4, 5, 6, 9, 10] [Im 104 0, If 105 0 8, Il 106 1 105, If 111 1 8, Ilb 112 5 111, ⟨some 107, none, .call 279 [(.t 106)], [4]⟩, ⟨some 108, none, .call 282 [(.k (.str [58]))], [4]⟩, Io 109 (.bls 2 2 [.int .i64 0, .str []] [(0, (.t 107)), (1, (.t 108))]), ⟨some 110, none, .app 2 24 (.t 104) (.t 109), [4]⟩, Io 113 (.call 275 [(.t 110), (.t 112)]), Im 0 113])))
 (.rg [Iai 114 100 1, Im 100 114])))))))
 (.seq (.rg [Im 115 0, Io 116 (.call 282 [(.k (.str [125]))]), Io 117 (.bls 2 1 [.int .i64 0, .str []] [(0, (.t 116))]), Iap 118 2 24 115 117, Im 4 118])
 .ret))))⟩
theorem ck275:chkFn Tryz.prog 275 ir275=true:=by kernel_rfl
def ir276 : AFn := ⟨51, 2, [.t 4], .seq (.rg [Ibx 3 1, Io 4 (.mv (.k (.sl .nil 1 [])))])
 (.seq (.seq (.rg [If 9 0 3, Il 10 1 9])
 (.block 0 (.seq (.rg [Iei 12 10 8, Im 11 12])
 (.cond (.t 11) (.seq (.rg [Im 13 0, If 14 2 3, Il 15 1 14, Io 16 (.call 283 [(.t 13), (.t 15)]), Ing 17 16])
 (.cond (.t 17) (.rg [Im 18 0, If 19 2 3, Il 20 1 19, Io 21 (.bls 1 1 [.str []] [(0, (.t 20))]), Iap 22 1 16 18 21, Im 0 22]) .skip)) (.seq (.rg [Iei 24 10 6, Im 23 24])
 (.cond (.t 23) (.seq (.rg [If 25 3 3, Il 26 1 25, Iln 27 26, Imv 28 0])
 (.block 1 (.loop [0, 26, 27, 28] (.seq (.rg [Ilt 29 28 27])
 (.seq (.cond (.t 29) .skip (.exit 1))
 (.seq (.block 2 (.seq (.rg [Iia 30 5 26 28, Ilb 31 5 30, Io 6 (.alloc [.int .i64 0, .int .i64 0, .str [], .sl .nil 5 [], .sl .nil 6 []]), ⟨none, none, .st 5 (.t 6) (.t 31), []⟩])
 (.rg [Im 32 0, Ilb 33 5 6, Io 34 (.call 276 [(.t 32), (.t 33)]), Im 0 34])))
 (.rg [Iai 35 28 1, Im 28 35]))))))) (.seq (.rg [Iei 37 10 7, Im 36 37])
 (.cond (.t 36) (.seq (.rg [If 38 4 3, Il 39 1 38, Iln 40 39, Imv 41 0])
 (.block 3 (.loop [0, 39, 40, 41] (.seq (.rg [Ilt 42 41 40])
 (.seq (.cond (.t 42) .skip (.exit 3))
 (.seq (.block 4 (.seq (.rg [Iia 43 6 39 41, Ilb 44 6 43, Io 8 (.alloc [.str [], .int .i64 0, .int .i64 0, .str [], .sl .nil 5 [], .sl .nil 6 []]), ⟨none, none, .st 6 (.t 8) (.t 44), []⟩])
 (.rg [Im 45 0, If 46 1 8, Ilb 47 5 46, Io 48 (.call 276 [(.t 45), (.t 47)]), Im 0 48])))
 (.rg [Iai 49 41 1, Im 41 49]))))))) .skip))))))))
 (.seq (.rg [Im 50 0, Im 4 50])
 .ret))⟩
theorem ck276:chkFn Tryz.prog 276 ir276=true:=by kernel_rfl
def ir278 : AFn := ⟨60, 2, [.t 4], .seq (.rg [Ibx 2 0, Imb 4 false])
 (.scope (.seq (.rg [Ilb 11 5 2, Io 5 (.alloc [.int .i64 0, .int .i64 0, .str [], .sl .nil 5 [], .sl .nil 6 []]), ⟨none, none, .st 5 (.t 5) (.t 11), []⟩])
 (.seq (.rg [Imb 6 true])
 (.seq .skip
 (.seq (.seq (.rg [If 12 0 2, Il 13 1 12])
 (.block 0 (.seq (.rg [Iei 17 13 6, Im 16 17])
 (.cond (.t 16) (.seq (.rg [If 18 3 5, ⟨none, none, .st 1 (.t 18) (.k (.sl .nil 5 [])), []⟩])
 (.seq (.rg [If 19 3 2, Il 20 1 19, Iln 21 20, Imv 22 0])
 (.block 1 (.loop [1, 5, 6, 20, 21, 22] (.seq (.rg [Ilt 23 22 21])
 (.seq (.cond (.t 23) .skip (.exit 1))
 (.seq (.block 2 (.seq (.rg [Iia 24 5 20 22, Ilb 25 5 24, Io 8 (.alloc [.int .i64 0, .int .i64 0, .str [], .sl .nil 5 [], .sl .nil 6 []]), ⟨none, none, .st 5 (.t 8) (.t 25), []⟩])
 (.seq (.rg [Ilb 26 5 8, Im 27 1, Io 28 (.call 278 [(.t 26), (.t 27)]), Im 6 28])
 (.seq (.rg [Im 29 6, Ing 30 29])
 (.cond (.t 30) (.exit 0) .skip)))))
 (.rg [Iai 31 22 1, Im 22 31])))))))) (.seq (.rg [Iei 33 13 7, Im 32 33])
 (.cond (.t 32) (.seq (.rg [If 34 4 5, ⟨none, none, .st 1 (.t 34) (.k (.sl .nil 6 [])), []⟩])
 (.seq (.rg [If 35 4 2, Il 36 1 35, Iln 37 36, Imv 38 0])
 (.block 3 (.loop [1, 5, 6, 36, 37, 38] (.seq (.rg [Ilt 39 38 37])
 (.seq (.cond (.t 39) .skip (.exit 3))
 (.seq (.block 4 (.seq (.rg [Iia 40 6 36 38, Ilb 41 6 40, Io 10 (.alloc [.str [], .int .i64 0, .int .i64 0, .str [], .sl .nil 5 [], .sl .nil 6 []]), ⟨none, none, .st 6 (.t 10) (.t 41), []⟩])
 (.seq (.rg [Im 42 1, If 43 0 10, Il 44 1 43, Io 45 (.callv (.t 42) [(.t 44)]), Im 46 45, Ja 47 46 1 10, Jt 48 46 (.ld 5 true (.t 47)), Jm 49 46 1, Jt 50 46 (.call 278 [(.t 48), (.t 49)]), Ipf 51 46 50, Im 6 51])
 (.seq (.rg [Im 52 6, Ing 53 52])
 (.cond (.t 53) (.exit 0) .skip)))))
 (.rg [Iai 54 38 1, Im 38 54])))))))) (.seq (.rg [Ilb 14 5 2, Io 15 (.call 288 [(.t 14)]), Im 4 15])
 .ret)))))))
 (.seq (.rg [Im 55 6, Im 56 55, Jt 57 56 (.ld 5 true (.t 5)), Jt 58 56 (.call 289 [(.t 57)]), Ipf 59 56 58, Im 4 59])
 .ret))))))⟩
theorem ck278:chkFn Tryz.prog 278 ir278=true:=by kernel_rfl
def ir279 : AFn := ⟨5, 1, [.c 2 2 true], .seq (.rg [Io 2 (.alloc [.int .i64 0, .str []])])
 (.seq (.rg [Im 3 0, Io 4 (.bld [.int .i64 0, .str []] [(0, 1, (.k (.int .i64 2))), (1, 1, (.t 3))]), ⟨none, none, .st 2 (.t 2) (.t 4), []⟩])
 .ret)⟩
theorem ck279:chkFn Tryz.prog 279 ir279=true:=by kernel_rfl
def ir280 : AFn := ⟨5, 1, [.t 2], .seq (.rg [Io 2 (.mv (.k (.str [])))])
 (.seq (.rg [Im 3 0, Io 4 (.call 290 [(.t 3)]), Im 2 4])
 .ret)⟩
theorem ck280:chkFn Tryz.prog 280 ir280=true:=by kernel_rfl
def ir282 : AFn := ⟨5, 1, [.c 2 2 true], .seq (.rg [Io 2 (.alloc [.int .i64 0, .str []])])
 (.seq (.rg [Im 3 0, Io 4 (.bld [.int .i64 0, .str []] [(0, 1, (.k (.int .i64 1))), (1, 1, (.t 3))]), ⟨none, none, .st 2 (.t 2) (.t 4), []⟩])
 .ret)⟩
theorem ck282:chkFn Tryz.prog 282 ir282=true:=by kernel_rfl
def ir283 : AFn := ⟨9, 2, [.t 4], .seq (.rg [Imb 4 false])
 (.seq (.rg [Im 5 0, Im 6 1, Io 7 (.call 291 [(.t 5), (.t 6)]), Io 8 (.bi .geq .i64 (.t 7) (.k (.int .i64 0))), Im 4 8])
 .ret)⟩
theorem ck283:chkFn Tryz.prog 283 ir283=true:=by kernel_rfl
def ir288 : AFn := ⟨88, 1, [.t 2], .seq (.rg [Ibx 1 0, Imb 2 false])
 (.seq (.rg [Ilb 4 5 1, Io 3 (.alloc [.int .i64 0, .int .i64 0, .str [], .sl .nil 5 [], .sl .nil 6 []]), ⟨none, none, .st 5 (.t 3) (.t 4), []⟩])
 (.seq (.rg [If 5 1 3, ⟨none, none, .st 1 (.t 5) (.k (.int .i64 0)), []⟩, If 6 2 3, ⟨none, none, .st 1 (.t 6) (.k (.str [])), []⟩])
 (.seq (.seq (.rg [Ilb 7 5 3, Io 8 (.call 289 [(.t 7)]), Ing 9 8])
 (.cond (.t 9) (.seq (.rg [Imb 2 false])
 .ret) .skip))
 (.seq (.seq (.rg [If 10 0 1, Il 11 1 10])
 (.block 0 (.seq (.rg [Iei 13 11 0, Im 12 13])
 (.cond (.t 12) (.seq (.rg [If 14 1 1, Il 15 1 14, Iei 16 15 0, Im 17 16, Ja 18 17 2 1, Jl 19 17 1 18, Jt 20 17 (.bs .eql (.t 19) (.k (.str []))), Ipf 21 17 20, Im 2 21])
 .ret) (.seq (.rg [Iei 23 11 1, Im 22 23])
 (.cond (.t 22) (.seq (.rg [If 24 1 1, Il 25 1 24, Iei 26 25 0, Im 27 26, Fa 28 27 1 1, Fl 29 27 1 28, Jf 30 27 (.bi .eql .i64 (.t 29) (.k (.int .i64 1))), Ipt 31 27 30, Im 32 31, Ja 33 32 2 1, Jl 34 32 1 33, Jt 35 32 (.bs .eql (.t 34) (.k (.str []))), Ipf 36 32 35, Im 2 36])
 .ret) (.seq (.rg [Iei 38 11 2, Im 37 38])
 (.cond (.t 37) (.seq (.rg [If 39 2 1, Il 40 1 39, Io 41 (.bs .eql (.t 40) (.k (.str []))), Im 2 41])
 .ret) (.seq (.rg [Iei 43 11 3, Im 42 43])
 (.cond (.t 42) (.seq (.rg [If 44 1 1, Il 45 1 44, Iei 46 45 0, Im 47 46, Ja 48 47 2 1, Jl 49 47 1 48, Jt 50 47 (.call 297 [(.t 49)]), Ipf 51 47 50, Im 2 51])
 .ret) (.seq (.rg [Iei 53 11 4, Im 52 53])
 (.cond (.t 52) (.seq (.rg [If 54 1 1, Il 55 1 54, Iei 56 55 0, Im 57 56, Ja 58 57 2 1, Jl 59 57 1 58, Jt 60 57 (.call 130 [(.t 59)]), Ipf 61 57 60, Im 2 61])
 .ret) (.seq (.rg [Iei 63 11 5, Im 62 63])
 (.cond (.t 62) (.seq (.rg [If 64 1 1, Il 65 1 64, Iei 66 65 0, Im 67 66, Ja 68 67 2 1, Jl 69 67 1 68, Jt 70 67 (.call 128 [(.t 69)]), Ipf 71 67 70, Im 72 71, Ja 73 72 2 1, Jl 74 72 1 73, Jt 75 72 (.call 298 [(.t 74)]), Jt 76 72 (.not (.t 75)), Ipf 77 72 76, Im 2 77])
 .ret) (.seq (.rg [Iei 79 11 8, Im 78 79])
 (.cond (.t 78) (.seq (.rg [If 80 1 1, Il 81 1 80, Iei 82 81 0, Im 83 82, Ja 84 83 2 1, Jl 85 83 1 84, Jt 86 83 (.call 128 [(.t 85)]), Ipf 87 83 86, Im 2 87])
 .ret) .skip))))))))))))))))
 (.seq (.rg [Imb 2 false])
 .ret)))))⟩
theorem ck288:chkFn Tryz.prog 288 ir288=true:=by kernel_rfl
def ir289 : AFn := ⟨23, 1, [.t 2], .seq (.rg [Ibx 1 0, Imb 2 false])
 (.seq (.rg [If 3 1 1, Il 4 1 3, Iei 5 4 0, Im 6 5, Ja 7 6 2 1, Jl 8 6 1 7, Jt 9 6 (.bs .eql (.t 8) (.k (.str []))), Ipf 10 6 9, Im 11 10, Ja 12 11 3 1, Jl 13 11 1 12, Jt 14 11 (.len (.t 13)), Jt 15 11 (.bi .eql .i64 (.t 14) (.k (.int .i64 0))), Ipf 16 11 15, Im 17 16, Ja 18 17 4 1, Jl 19 17 1 18, Jt 20 17 (.len (.t 19)), Jt 21 17 (.bi .eql .i64 (.t 20) (.k (.int .i64 0))), Ipf 22 17 21, Im 2 22])
 .ret)⟩
theorem ck289:chkFn Tryz.prog 289 ir289=true:=by kernel_rfl
def ir290 : AFn := ⟨4, 1, [.t 2], .seq (.rg [Io 2 (.mv (.k (.str [])))])
 (.seq (.seq (.rg [Im 3 0])
 (.cond (.t 3) (.seq (.rg [Io 2 (.mv (.k (.str [116, 114, 117, 101])))])
 .ret) .skip))
 (.seq (.rg [Io 2 (.mv (.k (.str [102, 97, 108, 115, 101])))])
 .ret))⟩
theorem ck290:chkFn Tryz.prog 290 ir290=true:=by kernel_rfl
def ir291 : AFn := ⟨19, 2, [.t 4], .seq (.rg [Imv 4 0])
 (.seq (.seq (.rg [Im 6 0, Iln 7 6, Imv 8 0])
 (.block 0 (.loop [0, 1, 7, 8] (.seq (.rg [Ilt 9 8 7])
 (.seq (.cond (.t 9) .skip (.exit 0))
 (.seq (.block 1 (.seq (.rg [Im 10 8, Im 5 10])
 (.seq (.rg [Im 11 1, Im 12 0, Im 13 5, Iia 14 1 12 13, Il 15 1 14, Io 16 (.bs .eql (.t 11) (.t 15))])
 (.cond (.t 16) (.seq (.rg [Im 17 5, Im 4 17])
 .ret) .skip))))
 (.rg [Iai 18 8 1, Im 8 18])))))))
 (.seq (.rg [Io 4 (.mv (.k (.int .i64 (-1))))])
 .ret))⟩
theorem ck291:chkFn Tryz.prog 291 ir291=true:=by kernel_rfl
def ir297 : AFn := ⟨23, 1, [.t 2], .seq (.rg [Imb 2 false])
 (.seq (.rg [Im 6 0, Io 7 (.call 129 [(.t 6)]), Im 3 7])
 (.seq (.rg [Im 9 0, Io 10 (.call 78 [(.t 9)]), Im 8 10, Iex 11 8 0, Iex 12 8 1, Im 4 11, Im 5 12])
 (.seq (.rg [Im 13 3, Iei 14 13 4, Im 15 14, Fm 16 15 3, Jf 17 15 (.bi .eql .i64 (.t 16) (.k (.int .i64 3))), Fm 18 15 17, Jm 19 18 5, Jt 20 18 (.not (.t 19)), Jf 21 15 (.pick (.t 18) (.t 20) (.k (.bool false))), Ipt 22 15 21, Im 2 22])
 .ret)))⟩
theorem ck297:chkFn Tryz.prog 297 ir297=true:=by kernel_rfl
def ir298 : AFn := ⟨13, 1, [.t 2], .seq (.rg [Imb 2 false])
 (.seq (.rg [Im 3 0, Io 4 (.bs .eql (.t 3) (.k (.str [116, 114, 117, 101]))), Im 5 4, Fm 6 5 0, Jf 7 5 (.bs .eql (.t 6) (.k (.str [102, 97, 108, 115, 101]))), Ipt 8 5 7, Im 9 8, Fm 10 9 0, Jf 11 9 (.bs .eql (.t 10) (.k (.str [110, 117, 108, 108]))), Ipt 12 9 11, Im 2 12])
 .ret)⟩
theorem ck298:chkFn Tryz.prog 298 ir298=true:=by kernel_rfl
mutual
inductive Val where
 | mk (k n:Int) (s:List UInt8) (l:List Val) (m:List Mem)
inductive Mem where
 | mk (name:List UInt8) (v:Val)
end
mutual
def cV:Val→List AV
 | .mk k n s l m=>[.int .i64 k,.int .i64 n,.str s,.sl .no 5 (cVs l),.sl .no 6 (cMs m)]
def cVs:List Val→List (List AV)
 | []=>[]
 | v::r=>cV v::cVs r
def cM:Mem→List AV
 | .mk s v=>.str s::cV v
def cMs:List Mem→List (List AV)
 | []=>[]
 | x::r=>cM x::cMs r
end
theorem zaZ:∀ l,cVs l=l.map cV
 | []=>rfl
 | v::r=>by rw[cVs,zaZ r];rfl
theorem Y7:∀ l,cMs l=l.map cM
 | []=>rfl
 | v::r=>by rw[cMs,Y7 r];rfl
theorem Zm (l:List Val):(cVs l).length=l.length:=by rw[zaZ];simp
theorem yX (l:List Mem):(cMs l).length=l.length:=by rw[Y7];simp
theorem Z0 {l a:List Val} {x:Val} {b:List Val} (h:l=a++x::b):(cVs l).getD a.length []=cV x:=by rw[zaZ,getD_mid' h]
theorem ZG {l a:List Mem} {x:Mem} {b:List Mem} (h:l=a++x::b):(cMs l).getD a.length []=cM x:=by rw[Y7,getD_mid' h]
theorem ya (k n:Int) (s:List UInt8) (l:List Val) (m:List Mem):cV (.mk k n s l m)=[.int .i64 k,.int .i64 n,.str s,.sl .no 5 (cVs l),.sl .no 6 (cMs m)]:=rfl
theorem zh (s:List UInt8) (v:Val):cM (.mk s v)=.str s::cV v:=rfl
theorem ZK (v:Val):(cV v).map AV.strip1=cV v:=by cases v;rfl
theorem zbA (v:Mem):(cM v).map AV.strip1=cM v:=by cases v with|mk s v=>cases v;rfl
theorem ziB (l:List Val):(cVs l).map (·.map AV.strip1)=cVs l:=by
 rw[zaZ,List.map_map];exact List.map_congr_left fun v _=>ZK v
theorem zee (l:List Mem):(cMs l).map (·.map AV.strip1)=cMs l:=by
 rw[Y7,List.map_map];exact List.map_congr_left fun v _=>zbA v
mutual
theorem Val.ind {P:Val→Prop} (h:∀ k n s l m,(∀ v∈l,P v)→(∀ s v,Mem.mk s v∈m→P v)→P (.mk k n s l m)):∀ v,P v
 | .mk k n s l m=>h k n s l m (Val.indL h l) (fun s v hm=>Val.indM h m s v hm)
theorem Val.indL {P:Val→Prop} (h:∀ k n s l m,(∀ v∈l,P v)→(∀ s v,Mem.mk s v∈m→P v)→P (.mk k n s l m)):∀ l:List Val,∀ v∈l,P v
 | [],_,hv=>by cases hv
 | x::r,v,hv=>(List.mem_cons.1 hv).elim (fun e=>e▸Val.ind h x) (Val.indL h r v)
theorem Val.ind1 {P:Val→Prop} (h:∀ k n s l m,(∀ v∈l,P v)→(∀ s v,Mem.mk s v∈m→P v)→P (.mk k n s l m)):∀ m:Mem,∀ s v,m=.mk s v→P v
 | .mk s v,s',v',e=>by cases e;exact Val.ind h v
theorem Val.indM {P:Val→Prop} (h:∀ k n s l m,(∀ v∈l,P v)→(∀ s v,Mem.mk s v∈m→P v)→P (.mk k n s l m)):∀ l:List Mem,∀ s v,Mem.mk s v∈l→P v
 | [],_,_,hv=>by cases hv
 | x::r,s,v,hv=>(List.mem_cons.1 hv).elim (fun e=>Val.ind1 h x s v e.symm) (Val.indM h r s v)
end
theorem zf (v:Val):(cV v).length=5:=by cases v;rfl
theorem ze (x:Mem):(cM x).length=6:=by cases x with|mk s v=>cases v;rfl
theorem zc (v:Val):(cV v).take 5=cV v:=by cases v;rfl
theorem zd (x:Mem):(cM x).take 6=cM x:=by cases x with|mk s v=>cases v;rfl
theorem za (a b c d e:AV) (v:Val):splice [a,b,c,d,e] 0 (cV v)=cV v:=by cases v;rfl
theorem zb (a b c d e f:AV) (x:Mem):splice [a,b,c,d,e,f] 0 (cM x)=cM x:=by cases x with|mk s v=>cases v;rfl
mutual
def bV:Val→Nat
 | .mk _ _ s l m=>1+s.length+bVs l+bMs m
def bVs:List Val→Nat
 | []=>0
 | v::r=>bV v+bVs r
def bM:Mem→Nat
 | .mk s v=>s.length+bV v
def bMs:List Mem→Nat
 | []=>0
 | x::r=>bM x+bMs r
end
theorem zan (v:Val):1≤bV v:=by cases v;simp only[bV];omega
theorem zl6 (v:Mem):1≤bM v:=by cases v with|mk s v=>have:=zan v;simp only[bM];omega
theorem Yu:∀ l,l.length≤bVs l
 | []=>by simp
 | v::r=>by have:=Yu r;have:=zan v;simp only[bVs,Al2];omega
theorem Zc:∀ l,l.length≤bMs l
 | []=>by simp
 | v::r=>by have:=Zc r;have:=zl6 v;simp only[bMs,Al2];omega
theorem zbG (a:List Val) (x:Val) (b:List Val):bVs (a++x::b)=bVs a+bV x+bVs b:=by
 induction a with
 | nil=>simp[bVs]
 | cons y a ih=>simp only[Al6,bVs,ih];omega
theorem Z4 (a:List Mem) (x:Mem) (b:List Mem):bMs (a++x::b)=bMs a+bM x+bMs b:=by
 induction a with
 | nil=>simp[bMs]
 | cons y a ih=>simp only[Al6,bMs,ih];omega
abbrev Lim:Nat:=1099511627776
theorem zk5:∀ v,bV v≤Lim→Pure Tryz.prog 110 [.agg (cV v)] (.int .i64 (bV v)):=by
 refine Val.ind fun k n s l m ihl ihm hb=>?_
 refine Pure.go ir110 ck110 (Al4 _) fun KP Q hQ=>?_
 have hl:=Zm l
 have hm:=yX m
 have hll:=Yu l
 have hml:=Zc m
 have hb':1+s.length+bVs l+bMs m≤Lim:=hb
 simp only[Lim] at hb'
 simp(disch:=first|omega|assumption) only[ir110,ya,wrap64,go_sem]
 refine goL_range l 4 (fun n:Int=>[(3,.int .i64 n)]) (fun done rest n H=>n+bVs rest=1+s.length+bVs l∧H=Heap.emp) (1+s.length) (by simp(disch:=first|omega|assumption) only[go_sem]) ⟨by omega,rfl⟩ ?_ ?_
 ·rintro n H J ⟨hn,rfl⟩ hlt
  simp only[bVs] at hn
  simp(disch:=first|omega|assumption) only[hl,hlt,go_sem]
  refine goL_range m 5 (fun n:Int=>[(3,.int .i64 n)]) (fun done rest n H=>n+bMs rest=1+s.length+bVs l+bMs m∧H=Heap.emp) n (by simp(disch:=first|omega|assumption) only[go_sem]) ⟨by omega,rfl⟩ ?_ ?_
  ·rintro n H J ⟨hn,rfl⟩ hlt
   simp only[bMs] at hn
   simp(disch:=first|omega|assumption) only[hm,hlt,go_sem]
   have:n=((bV (.mk k n s l m):Nat):Int):=by simp only[bV];omega
   exact hQ _ _ _ _ nofun rfl (by simp[tupOf,envOf,AV.strip,AV.strip1,bV,this])
  ·rintro done x rest n H J hd hlt _ ⟨hn,rfl⟩ hJ
   have hg:=ZG hd
   have hbm:=Z4 done x rest
   rw[← hd] at hbm
   cases x with
   | mk t v =>
   simp only[bMs,bM] at hn hbm
   simp(disch:=first|omega|assumption) only[zf,zc,za,ze,zd,zb,zh,hm,hlt,hg,wrap64,go_sem]
   refine goK_pure (ihm t v (by rw[hd];simp) (by simp only[Lim];omega)) ?_
   simp(disch:=first|omega|assumption) only[hl,hm,hlt,hg,zh,wrap64,go_sem]
   refine goJ (hJ (n+t.length+bV v) Heap.emp ⟨by omega,rfl⟩) (by simp(disch:=first|omega|assumption) only[go_sem])
 ·rintro done x rest n H J hd hlt _ ⟨hn,rfl⟩ hJ
  have hg:=Z0 hd
  have hbm:=zbG done x rest
  rw[← hd] at hbm
  simp only[bVs] at hn
  simp(disch:=first|omega|assumption) only[zf,zc,za,ze,zd,zb,zh,hl,hlt,hg,go_sem]
  refine goK_pure (ihl x (by rw[hd];simp) (by simp only[Lim];omega)) ?_
  simp(disch:=first|omega|assumption) only[wrap64,go_sem]
  refine goJ (hJ (n+bV x) Heap.emp ⟨by omega,rfl⟩) (by simp(disch:=first|omega|assumption) only[go_sem])
noncomputable def eqd {α:Type} (a b:α):Bool:=@decide (a=b) (Classical.propDecidable _)
theorem zQ {α:Type} {a b:α} (h:a=b):eqd a b=true:=by simp[eqd,h]
theorem zl {α:Type} {a b:α} (h:a≠b):eqd a b=false:=by simp[eqd,h]
def cT (l:List (List UInt8)):List (List AV):=l.map fun k=>[.str k]
theorem yg (l:List (List UInt8)):(cT l).length=l.length:=by simp[cT]
theorem zfX (l:List (List UInt8)):(cT l).map (·.map AV.strip1)=cT l:=by simp[cT,AV.strip1]
theorem zcr {l a:List (List UInt8)} {x:List UInt8} {b:List (List UInt8)} (h:l=a++x::b):(cT l).getD a.length []=[.str x]:=getD_mid' h
theorem zbX {α:Type} {a b done rest:List α} {x:α} (h:a=done++x::rest) (hl:a.length=b.length) (hp:b.take done.length=done):∃ y r,b=done++y::r:=by
 have h1:done.length<b.length:=by rw[← hl,h];simp
 refine⟨b[done.length],b.drop (done.length+1),?_⟩
 conv=>lhs;rw[← List.take_append_drop done.length b,hp,List.drop_eq_getElem_cons h1]
theorem zaz {α:Type} {b done r:List α} {y:α} (h:b=done++y::r):b.take (done++[y]).length=done++[y]:=by
 subst h
 have e:done++y::r=(done++[y])++r:=by simp
 rw[e,List.take_left'];rfl
theorem zbU {α:Type} {a b:List α} (hl:a.length=b.length) (hp:b.take a.length=a):a=b:=by
 rw[hl,List.take_length] at hp;exact hp.symm
theorem zcX {α:Type} {a b done rest r:List α} {x y:α} (h:a=done++x::rest) (h':b=done++y::r) (hxy:x≠y):a≠b:=fun e=>by
 rw[h,h'] at e
 exact hxy (List.cons.inj (List.append_cancel_left e)).1
end Go.Proofs.YtaielcdfcgpbiaaGreatDoor
